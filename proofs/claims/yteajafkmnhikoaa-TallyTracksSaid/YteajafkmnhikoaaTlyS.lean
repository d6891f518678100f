/-
  A poll, in plain words. No program in sight.
-/
import Derived.Test.YteajafkmnhikoaaTlyP
set_option linter.unusedVariables false
set_option linter.unusedSimpArgs false
namespace Go.Tly
open Go Go.SL
abbrev SM := List (Int × Bool)
structure PD where
  vs : List Int
  said : SM
  yes : SM
structure PX where
  a : Option Addr
  n : Nat
  c : Nat
  bs : Nat
  by_ : Nat
def sayStep (y : Bool) (a : SM × SM) (id : Int) : SM × SM := if mgetD a.1 id false = true then a else (mset a.1 id true, mset a.2 id y)
def sayF (d : PD) (y : Bool) (ids : List Int) : SM × SM := ids.foldl (sayStep y) (d.said, d.yes)
def stStep (said yes : SM) (a : Int × Int) (v : Int) : Int × Int := if mgetD yes v false = true then (a.1 + 1, a.2) else if mgetD said v false = true then (a.1, a.2 + 1) else a
def countF (d : PD) : Int × Int := d.vs.foldl (stStep d.said d.yes) (0, 0)
def wonF (n y no : Int) : Int := if n < 2 * y then 1 else if 2 * (n - no) ≤ n then 2 else 0
def standsF (d : PD) : Int := wonF d.vs.length (countF d).1 (countF d).2
theorem st_y {said yes : SM} {a : Int × Int} {v : Int} (h : mgetD yes v false = true) : stStep said yes a v = (a.1 + 1, a.2) := if_pos h
theorem st_n {said yes : SM} {a : Int × Int} {v : Int} (h : mgetD yes v false = false) (h2 : mgetD said v false = true) : stStep said yes a v = (a.1, a.2 + 1) := by unfold stStep; rw [if_neg (by rw [h]; decide), if_pos h2]
theorem st_0 {said yes : SM} {a : Int × Int} {v : Int} (h : mgetD yes v false = false) (h2 : mgetD said v false = false) : stStep said yes a v = a := by unfold stStep; rw [if_neg (by rw [h]; decide), if_neg (by rw [h2]; decide)]
theorem st_le (said yes : SM) : ∀ (l : List Int) (a : Int × Int), a.1 ≤ (l.foldl (stStep said yes) a).1 ∧ a.2 ≤ (l.foldl (stStep said yes) a).2 ∧ (l.foldl (stStep said yes) a).1 + (l.foldl (stStep said yes) a).2 ≤ a.1 + a.2 + l.length
  | [], a => by simp
  | v :: l, a => by
    have h1 : a.1 ≤ (stStep said yes a v).1 ∧ a.2 ≤ (stStep said yes a v).2 ∧ (stStep said yes a v).1 + (stStep said yes a v).2 ≤ a.1 + a.2 + 1 := by
      unfold stStep
      split
      · simp only []; omega
      · split
        · simp only []; omega
        · omega
    have h2 := st_le said yes l (stStep said yes a v)
    simp only [List.foldl_cons, List.length_cons]
    omega
theorem ro_nil {ρ : Hp} {a : Option Addr} {n cap : Nat} {s : List Int} (h : Ro ρ 1 a n cap (s.flatMap SL.encI)) (ha : a.isNone = true) (hn : s.length = n) : s = [] ∧ n = 0 := by
  cases s with
  | nil => exact ⟨rfl, hn.symm⟩
  | cons x s =>
    obtain ⟨ad, e, _⟩ := h.2.2.2 0 (.int .i64 x) rfl
    rw [e] at ha
    cases ha
def newPD (vs : List Int) : PD := ⟨vs, [], []⟩
/-! ### The reference's poll -/
def whoB (v : Int) (s : Said1) : Bool := decide (s.ID = v)
def rsStep (l : List Said1) (a : Int × Int) (v : Int) : Int × Int := match l.find? (whoB v) with | some s => if s.Yes = true then (a.1 + 1, a.2) else (a.1, a.2 + 1) | none => a
def rsF (vs : List Int) (l : List Said1) : Int × Int := vs.foldl (rsStep l) (0, 0)
def rwonF (n y no : Int) : Int := if n / 2 < y then 1 else if n - no ≤ n / 2 then 2 else 0
def rstandsF (vs : List Int) (l : List Said1) : Int := rwonF vs.length (rsF vs l).1 (rsF vs l).2
theorem rs_le (m : List Said1) : ∀ (l : List Int) (a : Int × Int), a.1 ≤ (l.foldl (rsStep m) a).1 ∧ a.2 ≤ (l.foldl (rsStep m) a).2 ∧ (l.foldl (rsStep m) a).1 + (l.foldl (rsStep m) a).2 ≤ a.1 + a.2 + l.length
  | [], a => by simp
  | v :: l, a => by
    have h1 : a.1 ≤ (rsStep m a v).1 ∧ a.2 ≤ (rsStep m a v).2 ∧ (rsStep m a v).1 + (rsStep m a v).2 ≤ a.1 + a.2 + 1 := by
      unfold rsStep
      split
      · split
        · simp only []; omega
        · simp only []; omega
      · omega
    have h2 := rs_le m l (rsStep m a v)
    simp only [List.foldl_cons, List.length_cons]
    omega
theorem who_next {l : List Said1} {v : Int} {k : Nat} (hk : k < l.length) (h : (l.take k).find? (whoB v) = none) (e : ¬ (l.getD k default).ID = v) : (l.take (k + 1)).find? (whoB v) = none := by
  have e' : whoB v (l.getD k default) = false := by unfold whoB; exact decide_eq_false e
  rw [take_succ_getD l k hk, List.find?_append, h, List.find?_cons, e']
  rfl
theorem who_at {l : List Said1} {v : Int} {k : Nat} (hk : k < l.length) (h : (l.take k).find? (whoB v) = none) (e : (l.getD k default).ID = v) : l.find? (whoB v) = some (l.getD k default) := by
  have e1 : l = l.take k ++ l.drop k := (List.take_append_drop k l).symm
  have e2 : l.drop k = l.getD k default :: l.drop (k + 1) := by rw [List.drop_eq_getElem_cons hk]; simp [List.getD, hk]
  have e3 : l.find? (whoB v) = (l.take k ++ l.drop k).find? (whoB v) := by rw [← e1]
  have e' : whoB v (l.getD k default) = true := by unfold whoB; exact decide_eq_true e
  rw [e3, List.find?_append, h, e2, List.find?_cons, e']
  rfl
theorem rs_y {l : List Said1} {v : Int} {k : Nat} {a : Int × Int} (h : l.find? (whoB v) = some (l.getD k default)) (y : (l.getD k default).Yes = true) : rsStep l a v = (a.1 + 1, a.2) := by unfold rsStep; rw [h]; exact if_pos y
theorem rs_n {l : List Said1} {v : Int} {k : Nat} {a : Int × Int} (h : l.find? (whoB v) = some (l.getD k default)) (y : (l.getD k default).Yes = false) : rsStep l a v = (a.1, a.2 + 1) := by unfold rsStep; rw [h]; exact if_neg (by rw [y]; decide)
theorem rs_0 {l : List Said1} {v : Int} {a : Int × Int} (h : l.find? (whoB v) = none) : rsStep l a v = a := by unfold rsStep; rw [h]
def hasP (l : List RPeer) (id : Int) : Bool := l.any fun e => decide (e.ID = id)
theorem hasP_next {l : List RPeer} {id : Int} {k : Nat} (hk : k < l.length) (h : hasP (l.take k) id = false) (e : ¬ (l.getD k default).ID = id) : hasP (l.take (k + 1)) id = false := by
  unfold hasP at h ⊢
  rw [take_succ_getD l k hk, List.any_append, h, List.any_cons, decide_eq_false e]
  rfl
theorem hasP_at {l : List RPeer} {id : Int} {k : Nat} (hk : k < l.length) (e : (l.getD k default).ID = id) : hasP l id = true := by
  unfold hasP
  rw [List.any_eq_true]
  exact ⟨l.getD k default, by simp [List.getD, hk], decide_eq_true e⟩
end Go.Tly

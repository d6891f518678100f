/-
  Twins: two files don't touch one another. No program in sight.
-/
import Derived.Test.YtehaoafnobnneaaDoorDskQ
set_option linter.unusedVariables false
set_option linter.unusedSimpArgs false
namespace Go.Dsk
open Go Go.SL
theorem turn_lt {t : Int} {n : Nat} (hn : 0 < n) : 0 ≤ (t.tmod n + n).tmod n ∧ (t.tmod n + n).tmod n < n := by
  have h1 : -(n : Int) < t.tmod n := by
    have := Int.lt_tmod_of_pos t (show (0 : Int) < n by omega)
    omega
  have h2 : t.tmod n < (n : Int) := Int.tmod_lt_of_pos t (by omega)
  exact ⟨Int.tmod_nonneg _ (by omega), Int.tmod_lt_of_pos _ (by omega)⟩
theorem turn_b {t : Int} {n : Nat} (hn : 0 < n) : -(n : Int) < t.tmod n ∧ t.tmod n < n :=
  ⟨by have := Int.lt_tmod_of_pos t (show (0 : Int) < n by omega); omega, Int.tmod_lt_of_pos t (by omega)⟩
theorem turn2 (t : Int) (n : Nat) : 0 ≤ (t.tmod ((n : Int) + 1) + n + 1).tmod ((n : Int) + 1) ∧ (t.tmod ((n : Int) + 1) + n + 1).tmod ((n : Int) + 1) ≤ n := by
  have h := turn_lt (t := t) (n := n + 1) (by omega)
  rw [show ((n + 1 : Nat) : Int) = (n : Int) + 1 from rfl, ← Int.add_assoc] at h
  omega
theorem turn2_b (t : Int) (n : Nat) : -(n : Int) ≤ t.tmod ((n : Int) + 1) ∧ t.tmod ((n : Int) + 1) ≤ n := by
  have h := turn_b (t := t) (n := n + 1) (by omega)
  rw [show ((n + 1 : Nat) : Int) = (n : Int) + 1 from rfl] at h
  omega
abbrev oth : Nm := [111, 116, 104, 101, 114]
abbrev mine : Nm := [109, 105, 110, 101]
abbrev sloF : List UInt8 := [115, 116, 97, 121, 115, 108, 111, 115, 116]
def catS (ls : List (SL UInt8)) : List UInt8 := ls.flatMap fun x : SL UInt8 => x.xs
def tw1 : FV := [(oth, (sloF, 5))]
def tw2 (b : List UInt8) : FV := [(oth, (sloF, 5)), (mine, (b, 0))]
def twV (ls : List (SL UInt8)) : FV := if ls = [] then tw1 else tw2 (catS ls)
theorem catS_snoc (ls : List (SL UInt8)) (x : SL UInt8) : catS (ls ++ [x]) = catS ls ++ x.xs := by simp [catS]
theorem catS_one (x : SL UInt8) : ([x].flatMap fun x : SL UInt8 => x.xs) = x.xs := by simp
theorem catS_le : ∀ {ls : List (SL UInt8)}, (∀ s ∈ ls, s.xs.length ≤ 500) → (catS ls).length ≤ 500 * ls.length
  | [], _ => by simp [catS]
  | x :: ls, h => by
    have h1 := catS_le (ls := ls) fun s hs => h s (List.mem_cons_of_mem _ hs)
    have h2 := h x List.mem_cons_self
    simp only [catS, List.flatMap_cons, List.length_append, List.length_cons] at h1 ⊢
    omega
theorem tw1_ok : VOk tw1 where
  nd := by simp [mkeys, tw1]
  sf := fun p hp => by
    obtain rfl := List.mem_singleton.1 hp
    exact ⟨by decide, by decide⟩
  nm := fun p hp => by
    obtain rfl := List.mem_singleton.1 hp
    decide
  ln := by simp [tw1]
  us := by simp [usedV, tw1]
theorem two_ok {a b : List UInt8} {s t : Int} (h1 : 0 ≤ s ∧ s ≤ (a.length : Int)) (h2 : 0 ≤ t ∧ t ≤ (b.length : Int)) (h3 : a.length ≤ 100000) (h4 : b.length ≤ 100000) : VOk [(oth, (a, s)), (mine, (b, t))] where
  nd := by simp [mkeys, oth, mine]
  sf := fun p hp => by
    simp only [List.mem_cons, List.not_mem_nil, or_false] at hp
    rcases hp with rfl | rfl
    · exact h1
    · exact h2
  nm := fun p hp => by
    simp only [List.mem_cons, List.not_mem_nil, or_false] at hp
    rcases hp with rfl | rfl <;> simp
  ln := by simp
  us := by simp [usedV]; omega
theorem tw2_ok {b : List UInt8} (h : b.length ≤ 90000) : VOk (tw2 b) := two_ok ⟨by decide, by decide⟩ ⟨by decide, by omega⟩ (by decide) (by omega)
theorem twV_ok {ls : List (SL UInt8)} (h : (catS ls).length ≤ 90000) : VOk (twV ls) := by
  unfold twV
  split
  · exact tw1_ok
  · exact tw2_ok h
theorem twV_used (ls : List (SL UInt8)) : usedV (twV ls) = 9 + (catS ls).length := by
  unfold twV
  split
  · rename_i h; subst h; rfl
  · simp [usedV, tw2]
theorem mine_name : nameB mine = true := by decide +kernel
theorem twV_len (ls : List (SL UInt8)) : (twV ls).length ≤ 2 := by
  unfold twV
  split <;> simp [tw1, tw2]
theorem tw_app {ls : List (SL UInt8)} {x : SL UInt8} (h : (catS ls).length + x.xs.length ≤ 90000) : appR 100000 (-1) (twV ls) mine x.xs = (0, twV (ls ++ [x])) := by
  unfold appR
  have h2 := twV_len ls
  rw [if_neg (by decide), if_neg (by rw [mine_name]; decide), if_neg (by
    rw [twV_used]
    simp only [Bool.or_eq_true, decide_eq_true_eq, Bool.and_eq_true, not_or]
    exact ⟨by omega, fun h => by omega⟩)]
  congr 1
  rw [show twV (ls ++ [x]) = tw2 (catS ls ++ x.xs) from by rw [← catS_snoc]; exact if_neg (by simp)]
  unfold twV
  split
  · rename_i h; subst h; rfl
  · rfl
theorem tw_cut {b : List UInt8} {k : Int} (h0 : 0 ≤ k) (h1 : k ≤ (b.length : Int)) : cutR (-1) (tw2 b) mine k = (0, tw2 (b.take k.toNat)) := by
  have h2 : mget (tw2 b) mine = some (b, 0) := rfl
  have h3 : (decide (k < 0) || decide (k > (b.length : Int))) = false := by simp; omega
  unfold cutR
  rw [if_neg (by decide), if_neg (by rw [has_of h2]; decide), getD_of h2, if_neg (by rw [h3]; decide), show mnI ((b, (0 : Int)).2) k = 0 from if_neg (by simpa using h0)]
  rfl
theorem tw_cut0 : cutR (-1) tw1 mine 0 = (30, tw1) := by decide +kernel
def tw3 (b : List UInt8) : FV := [(oth, (sloF, 5)), (mine, (b, (b.length : Int)))]
theorem tw_sync (b : List UInt8) : syncR (-1) (tw2 b) [mine] = (0, tw3 b) := rfl
theorem tw_sync0 : syncR (-1) tw1 [mine] = (30, tw1) := rfl
def tw4 (b : List UInt8) : FV := [(oth, ([115, 116, 97, 121, 115], 5)), (mine, (b, (b.length : Int)))]
theorem tw_sort (b : List UInt8) : sortS (mkeys (tw3 b)) = [mine, oth] :=
  sortS_eq (List.Perm.swap _ _ _) (List.pairwise_pair.2 (by decide))
theorem stay_full (keep : List Int) (k : Nat) (b : List UInt8) : stayF keep k (b, (b.length : Int)) = 0 := by
  have := stay_bd keep k (f := (b, (b.length : Int))) (Int.le_refl _)
  simp only [Int.sub_self] at this
  omega
theorem tw_crash (x : Int) (b : List UInt8) : (crR [x] (tw3 b)).1 = tw4 b := by
  unfold crR
  rw [tw_sort]
  show (crK [x] [mine, oth] (tw3 b) 2).1 = tw4 b
  have h1 : (crK [x] [mine, oth] (tw3 b) 1).1 = tw3 b := by
    have h2 : mgetD (tw3 b) mine zF = (b, (b.length : Int)) := rfl
    simp only [crK, List.getD_cons_zero, h2, stay_full, Int.add_zero]
    rw [Int.toNat_natCast, List.take_length]
    rfl
  have h3 : stayF [x] 1 (sloF, 5) = 0 := if_neg (by simp)
  show mset (crK [x] [mine, oth] (tw3 b) 1).1 oth _ = _
  rw [h1]
  have h2 : mgetD (tw3 b) oth zF = (sloF, 5) := rfl
  simp only [List.getD_cons_succ, List.getD_cons_zero, h2, h3]
  rfl
def cr1 (x : Int) : Int := 5 + mnI (mxI x 0) 4
theorem cr1_bd (x : Int) : 5 ≤ cr1 x ∧ cr1 x ≤ 9 := by unfold cr1 mnI mxI; split <;> split <;> omega
def tw5 (x : Int) : FV := [(oth, (sloF.take (cr1 x).toNat, cr1 x))]
theorem tw_crash0 (x : Int) : (crR [x] tw1).1 = tw5 x := by
  unfold crR
  rw [show sortS (mkeys tw1) = [oth] from sortS_one _]
  rfl
theorem tw4_ok {b : List UInt8} (h : b.length ≤ 90000) : VOk (tw4 b) := two_ok ⟨by decide, by decide⟩ ⟨by omega, by omega⟩ (by decide) (by omega)
theorem tw3_ok {b : List UInt8} (h : b.length ≤ 90000) : VOk (tw3 b) := two_ok ⟨by decide, by decide⟩ ⟨by omega, by omega⟩ (by decide) (by omega)
theorem tw5_len (x : Int) : (sloF.take (cr1 x).toNat).length = (cr1 x).toNat := by
  have := cr1_bd x
  rw [List.length_take]
  show min _ 9 = _
  omega
theorem tw5_ok (x : Int) : VOk (tw5 x) := by
  have h := cr1_bd x
  have h2 := tw5_len x
  exact vok_one (by omega) (by rw [h2]; omega) (by decide) (by rw [h2]; omega)
end Go.Dsk

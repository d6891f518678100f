/-
  Package chunk, as plain functions. No program in sight.
-/
import Derived.Test.YtppngeebdmbeaaaChkT
import Derived.Test.YtppngeebdmbeaaaSumP
import Derived.Test.YtppngeebdmbeaaaSlN
namespace Go.Chk
open Go Go.SL Go.Sum
theorem ro_none {ρ : Hp} {sz n cap : Nat} {a : Option Addr} {cs : List Value} (h : Ro ρ sz a n cap cs) (ha : a.isNone = true) : cs = [] := by
  cases cs with
  | nil => rfl
  | cons c cs =>
    obtain ⟨ad, e, _⟩ := h.2.2.2 0 c rfl
    rw [e] at ha; cases ha
theorem flat_nil {α : Type} {enc : α → List Value} {sz : Nat} (hz : 0 < sz) (he : ∀ x, (enc x).length = sz) {xs : List α} (h : xs.flatMap enc = []) : xs = [] := by
  have := flat_len he xs
  rw [h] at this
  exact List.eq_nil_of_length_eq_zero (by rcases Nat.eq_zero_or_pos xs.length with h | h2; · exact h
                                          · have := Nat.mul_pos h2 hz; simp_all)
theorem ro_nil_xs {α : Type} {enc : α → List Value} {ρ : Hp} {sz n cap : Nat} {a : Option Addr} {xs : List α} (h : Ro ρ sz a n cap (xs.flatMap enc)) (hz : 0 < sz) (he : ∀ x, (enc x).length = sz) (ha : a.isNone = true) : xs = [] := flat_nil hz he (ro_none h ha)
def rightB (m : Mark) : Bool := decide (1 ≤ m.Index) && decide (1 ≤ m.Term) && decide (m.Index < 10000000000) && decide (m.Term < 10000000000)
def togetherB (a b : Piece) : Bool := decide ([a.Mark.Index, a.Mark.Term] = [b.Mark.Index, b.Mark.Term]) && decide ((a.Sum.toNat : Int) = b.Sum.toNat) && decide (a.Total = b.Total)
def fitsB (most : Int) (p : Piece) : Bool := if (!rightB p.Mark || decide (p.Total < 0) || decide (most < p.Total) || decide (p.At < 0) || decide (p.Total < p.At) || decide (p.Total - p.At < (p.B.xs.length : Int))) = true then false else decide (0 < (p.B.xs.length : Int)) == decide (0 < p.Total)
/-- a heap: what it has gathered -/
structure HD where
  most : Int
  of : Piece
  on : Bool
  b : List UInt8
  there : List Bool
  left : Int
/-- where it lies -/
structure HX where
  a1 : Option Addr
  n1 : Nat
  c1 : Nat
  a2 : Option Addr
  n2 : Nat
  c2 : Nat
def heapOf (d : HD) (x : HX) : Heap := ⟨d.most, d.of, d.on, ⟨x.a1, x.n1, x.c1⟩, ⟨x.a2, x.n2, x.c2⟩, d.left⟩
def HeapM (tH tU tB b : Nat) (d : HD) (x : HX) : List Asn := [.pts b (encHeap (heapOf d x)) tH, .row tU 1 x.a1 x.n1 x.c1 (d.b.flatMap encB), .row tB 1 x.a2 x.n2 x.c2 (d.there.flatMap encO)]
def newD (most : Int) : HD := ⟨most, zPiece, false, [], [], 0⟩
def noX : HX := ⟨none, 0, 0, none, 0, 0⟩
def idxB (l : List Bool) (v : Bool) : Int := if v ∈ l then (l.idxOf v : Int) else -1
theorem idxB_at {l : List Bool} {v : Bool} {k : Nat} (hk : k < l.length) (h : v ∉ l.take k) (e : v = l.getD k default) : idxB l v = (k : Int) := by
  have hm : v ∈ l := by rw [e]; exact getD_mem l k hk
  unfold idxB
  rw [if_pos hm]
  have e1 : l = l.take k ++ l.drop k := (List.take_append_drop k l).symm
  have e2 : l.drop k = v :: l.drop (k + 1) := by rw [List.drop_eq_getElem_cons hk, e]; simp [List.getD, hk]
  have : l.idxOf v = k := by rw [e1, List.idxOf_append, if_neg h, e2, List.idxOf_cons_self, List.length_take]; omega
  rw [this]
theorem idxB_none {l : List Bool} {v : Bool} (h : v ∉ l) : idxB l v = -1 := by unfold idxB; rw [if_neg h]
theorem not_take_succB {α : Type} [Inhabited α] {l : List α} {v : α} {k : Nat} (hk : k < l.length) (h : v ∉ l.take k) (e : ¬ v = l.getD k default) : v ∉ l.take (k + 1) := fun hm => by
  rw [take_succ_getD l k hk] at hm
  rcases List.mem_append.1 hm with h1 | h1
  · exact h h1
  · exact e (List.mem_singleton.1 h1)
def missingI (d : HD) : Int := if 0 ≤ idxB d.there false then idxB d.there false else (d.b.length : Int)
def markOf (d : HD) : Mark := if d.on then d.of.Mark else zMark
def wholeOk (d : HD) : Bool := !(!d.on || decide (0 < d.left))
/-- no clash in the first k bytes -/
def clashAt (d : HD) (p : Piece) (i : Nat) : Bool := d.there.getD (p.At.toNat + i) default && decide (((d.b.getD (p.At.toNat + i) default).toNat : Int) ≠ ((p.B.xs.getD i default).toNat : Int))
def clashB (d : HD) (p : Piece) : Nat → Bool
  | 0 => false
  | k + 1 => clashB d p k || clashAt d p k
def marks (t : List Bool) (l : Int) (at_ : Nat) : Nat → List Bool × Int
  | 0 => (t, l)
  | k + 1 => let q := marks t l at_ k; (q.1.set (at_ + k) true, if q.1.getD (at_ + k) default then q.2 else q.2 - 1)
def begunD (d : HD) (p : Piece) : HD := if (!d.on || decide (d.of.Mark.Index < p.Mark.Index)) = true then ⟨d.most, p, true, List.replicate p.Total.toNat 0, List.replicate p.Total.toNat false, p.Total⟩ else d
def staleB (d : HD) (p : Piece) : Bool := d.on && (decide (p.Mark.Index < d.of.Mark.Index) || (decide (p.Mark.Index = d.of.Mark.Index) && !togetherB p d.of))
def laidD (d : HD) (p : Piece) : HD := ⟨d.most, d.of, d.on, d.b.take p.At.toNat ++ p.B.xs ++ d.b.drop (p.At.toNat + p.B.xs.length), (marks d.there d.left p.At.toNat p.B.xs.length).1, (marks d.there d.left p.At.toNat p.B.xs.length).2⟩
def doneD (d : HD) : HD × Int := if (decide (d.left = 0) && !decide (((sumB d.b).toNat : Int) = (d.of.Sum.toNat : Int))) = true then (newD d.most, 51) else (d, 0)
def takeF (d : HD) (p : Piece) : HD × Int :=
  if fitsB d.most p = false then (d, 2)
  else if staleB d p = true then (d, 70)
  else if clashB (begunD d p) p p.B.xs.length = true then (begunD d p, 71)
  else doneD (laidD (begunD d p) p)
theorem take_arg {d : HD} {p : Piece} (h : fitsB d.most p = false) : takeF d p = (d, 2) := by unfold takeF; rw [if_pos h]
theorem take_stale {d : HD} {p : Piece} (h : fitsB d.most p = true) (h2 : staleB d p = true) : takeF d p = (d, 70) := by unfold takeF; rw [if_neg (by rw [h]; decide), if_pos h2]
theorem take_clash {d : HD} {p : Piece} (h : fitsB d.most p = true) (h2 : staleB d p = false) (h3 : clashB (begunD d p) p p.B.xs.length = true) : takeF d p = (begunD d p, 71) := by
  unfold takeF; rw [if_neg (by rw [h]; decide), if_neg (by rw [h2]; decide), if_pos h3]
theorem take_done {d : HD} {p : Piece} (h : fitsB d.most p = true) (h2 : staleB d p = false) (h3 : clashB (begunD d p) p p.B.xs.length = false) : takeF d p = doneD (laidD (begunD d p) p) := by
  unfold takeF; rw [if_neg (by rw [h]; decide), if_neg (by rw [h2]; decide), if_neg (by rw [h3]; decide)]
theorem clash_mono {d : HD} {p : Piece} {k : Nat} : ∀ m, k ≤ m → clashB d p k = true → clashB d p m = true := by
  intro m hm h
  induction m with
  | zero => have e : k = 0 := by omega
            subst e; exact h
  | succ m ih =>
    by_cases e : k = m + 1
    · subst e; exact h
    · simp only [clashB, Bool.or_eq_true]; exact .inl (ih (by omega))
theorem marks_len (t : List Bool) (l : Int) (a k : Nat) : (marks t l a k).1.length = t.length := by
  induction k with
  | zero => rfl
  | succ k ih => simp only [marks, List.length_set]; exact ih
theorem marks_le (t : List Bool) (l : Int) (a k : Nat) : l - k ≤ (marks t l a k).2 ∧ (marks t l a k).2 ≤ l := by
  induction k with
  | zero => simp [marks]
  | succ k ih => simp only [marks]; split <;> omega
/-- what every heap that is reached is like -/
structure HOk (d : HD) : Prop where
  most : d.most ≤ 9223372036854775807
  len1 : d.b.length = d.there.length
  tot : d.on = true → (d.b.length : Int) = d.of.Total
  small : d.b.length ≤ 1000000000
  left_ : 0 ≤ d.left ∧ d.left ≤ 1000000000
theorem fits_facts {m : Int} {p : Piece} (h : fitsB m p = true) : rightB p.Mark = true ∧ 0 ≤ p.Total ∧ p.Total ≤ m ∧ 0 ≤ p.At ∧ p.At ≤ p.Total ∧ (p.B.xs.length : Int) ≤ p.Total - p.At ∧ ((0 < (p.B.xs.length : Int)) ↔ 0 < p.Total) := by
  unfold fitsB at h
  split at h
  · cases h
  · rename_i hc
    simp only [Bool.or_eq_true, Bool.not_eq_true', decide_eq_true_eq, not_or, Bool.not_eq_false] at hc
    obtain ⟨⟨⟨⟨⟨c1, c2⟩, c3⟩, c4⟩, c5⟩, c6⟩ := hc
    simp only [beq_iff_eq, decide_eq_decide] at h
    exact ⟨c1, by omega, by omega, by omega, by omega, by omega, h⟩
theorem begun_facts {d : HD} {p : Piece} (hok : HOk d) (ht : p.Total ≤ 1000000000) (h : fitsB d.most p = true) (h2 : staleB d p = false) :
    HOk (begunD d p) ∧ (begunD d p).on = true ∧ ((begunD d p).b.length : Int) = p.Total ∧ (begunD d p).of.Total = p.Total ∧ (begunD d p).of.Sum = p.Sum ∧ (begunD d p).of.Mark = p.Mark := by
  obtain ⟨f1, f2, f3, f4, f5, f6, f7⟩ := fits_facts h
  unfold begunD
  split
  · refine ⟨⟨hok.most, by simp, fun _ => by simp; omega, by simp; omega, by simp only []; omega⟩, rfl, by simp; omega, rfl, rfl, rfl⟩
  · rename_i hc
    simp only [Bool.or_eq_true, Bool.not_eq_true', decide_eq_true_eq, not_or, Bool.not_eq_false] at hc
    obtain ⟨hon, hidx⟩ := hc
    unfold staleB at h2
    rw [hon] at h2
    simp only [Bool.true_and, Bool.or_eq_false_iff, decide_eq_false_iff_not, Bool.and_eq_false_iff, Bool.not_eq_false'] at h2
    obtain ⟨g1, g2⟩ := h2
    have heq : p.Mark.Index = d.of.Mark.Index := by omega
    rcases g2 with g2 | g2
    · exact absurd heq g2
    · unfold togetherB at g2
      simp only [Bool.and_eq_true, decide_eq_true_eq, List.cons.injEq, and_true] at g2
      obtain ⟨⟨⟨m1, m2⟩, s1⟩, t1⟩ := g2
      have hl := hok.tot hon
      refine ⟨hok, hon, by omega, t1.symm, ?_, ?_⟩
      · apply BitVec.eq_of_toNat_eq; omega
      · cases hm : d.of.Mark; cases hp : p.Mark; rw [hm, hp] at m1 m2; simp_all
end Go.Chk

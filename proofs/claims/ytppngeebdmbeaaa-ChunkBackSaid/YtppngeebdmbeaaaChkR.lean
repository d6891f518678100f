/-
  The document's heap, as plain functions: a list of pieces, byte by byte.
-/
import Derived.Test.YtppngeebdmbeaaaChkQ
namespace Go.Chk
open Go Go.SL Go.Sum
deriving instance DecidableEq for PD
instance : Inhabited PD := ⟨⟨zMark, 0, 0, 0, []⟩⟩
def hitD (q : PD) (a : Int) : Bool := decide (0 ≤ a - q.At) && decide (a - q.At < (q.B.length : Int))
def byteD : List PD → Int → Option UInt8
  | [], _ => none
  | q :: L, a => if hitD q a = true then some (q.B.getD (a - q.At).toNat default) else byteD L a
def missK (L : List PD) (n : Nat) : Nat := ((List.range n).find? (fun (i : Nat) => (byteD L (i : Int)).isNone)).getD n
def missD : List PD → Int
  | [] => 0
  | q :: L => (missK (q :: L) q.Total.toNat : Int)
def totD : List PD → Int
  | [] => 0
  | q :: _ => q.Total
def wholeD (L : List PD) : Bool := !(L.isEmpty || decide (missD L < totD L))
def bytesD (L : List PD) : List UInt8 := (List.range (totD L).toNat).map fun (i : Nat) => (byteD L (i : Int)).getD 0
theorem byte_hit {L : List Piece} {k : Nat} {a : Int} (hk : k < L.length) (h : hitD (pd (L.getD k default)) a = true) : byteD ((L.drop k).map pd) a = some ((L.getD k default).B.xs.getD (a - (L.getD k default).At).toNat default) := by
  rw [drop_getD hk, List.map_cons]; simp only [byteD]; rw [if_pos h]; rfl
theorem byte_miss {L : List Piece} {k : Nat} {a : Int} (hk : k < L.length) (h : ¬ hitD (pd (L.getD k default)) a = true) : byteD ((L.drop k).map pd) a = byteD ((L.drop (k + 1)).map pd) a := by
  rw [drop_getD hk, List.map_cons]; simp only [byteD]; rw [if_neg h]
theorem missK_at {L : List PD} {n k : Nat} (hk : k < n) (h : ∀ j, j < k → (byteD L (j : Int)).isSome = true) (h2 : (byteD L (k : Int)).isSome = false) : missK L n = k := by
  have e : (List.range n).find? (fun (i : Nat) => (byteD L (i : Int)).isNone) = some k := by
    rw [List.find?_eq_some_iff_append]
    refine ⟨by cases hb : byteD L (k : Int) <;> simp_all, List.range k, (List.range' (k + 1) (n - (k + 1))), ?_, ?_⟩
    · rw [List.range_eq_range', List.range_eq_range']
      have h1 := List.range'_append_1 (s := 0) (m := k) (n := n - k)
      rw [show k + (n - k) = n by omega, Nat.zero_add] at h1
      rw [← h1, show n - k = (n - (k + 1)) + 1 by omega, List.range'_succ]
    · intro j hj
      have := h j (List.mem_range.1 hj)
      cases hb : byteD L (j : Int) <;> simp_all
  unfold missK; rw [e]; rfl
theorem missK_all {L : List PD} {n : Nat} (h : ∀ j, j < n → (byteD L (j : Int)).isSome = true) : missK L n = n := by
  have e : (List.range n).find? (fun (i : Nat) => (byteD L (i : Int)).isNone) = none := by
    rw [List.find?_eq_none]
    intro j hj
    have := h j (List.mem_range.1 hj)
    cases hb : byteD L (j : Int) <;> simp_all
  unfold missK; rw [e]; rfl
theorem map_cons0 {L : List Piece} (h : 0 < L.length) : L.map pd = pd (L.getD 0 default) :: (L.drop 1).map pd := by
  have := drop_getD (l := L) (k := 0) h
  rw [List.drop_zero] at this
  rw [← List.map_cons, ← this]
theorem missD_at {L : List Piece} {k : Nat} (hL : 0 < L.length) (hk : k < (L.getD 0 default).Total.toNat) (h : ∀ j, j < k → (byteD (L.map pd) (j : Int)).isSome = true) (h2 : (byteD (L.map pd) (k : Int)).isSome = false) : missD (L.map pd) = k := by
  have e := missK_at (L := L.map pd) hk h h2
  rw [map_cons0 hL] at e ⊢
  exact congrArg _ e
theorem missD_all {L : List Piece} (hL : 0 < L.length) (ht : 0 ≤ (L.getD 0 default).Total) (h : ∀ j, j < (L.getD 0 default).Total.toNat → (byteD (L.map pd) (j : Int)).isSome = true) : missD (L.map pd) = (L.getD 0 default).Total := by
  have e := missK_all (L := L.map pd) h
  rw [map_cons0 hL] at e ⊢
  have : ((missK (pd (L.getD 0 default) :: (L.drop 1).map pd) (L.getD 0 default).Total.toNat : Nat) : Int) = ((L.getD 0 default).Total.toNat : Int) := congrArg _ e
  show ((missK _ (L.getD 0 default).Total.toNat : Nat) : Int) = _
  rw [this]; omega
theorem totD_map {L : List Piece} (hL : 0 < L.length) : totD (L.map pd) = (L.getD 0 default).Total := by rw [map_cons0 hL]; rfl
/-- what the document's heap holds is of a decent size -/
structure RI (L : List Piece) : Prop where
  tot : ∀ q ∈ L, 0 ≤ q.Total ∧ q.Total ≤ 1000000000
  at_ : ∀ q ∈ L, 0 ≤ q.At ∧ q.At ≤ 1000000000
  len : L.length ≤ 1000000000
def rightD (m : Mark) : Bool := rightR m
def badR (most : Int) (p : PD) : Bool :=
  !rightR p.Mark || decide (p.Total < 0) || decide (most < p.Total) || decide (p.At < 0) || decide (p.Total < p.At) || decide (p.Total - p.At < (p.B.length : Int)) || (decide ((p.B.length : Int) = 0) && decide (0 < p.Total))
def staleR (f p : PD) : Bool := decide (p.Mark.Index < f.Mark.Index) || (decide (p.Mark.Index = f.Mark.Index) && (decide (p.Mark.Term ≠ f.Mark.Term) || decide ((p.Sum.toNat : Int) ≠ (f.Sum.toNat : Int)) || decide (p.Total ≠ f.Total)))
/-- whose pieces stay when p comes -/
def keepR (L : List PD) (p : PD) : List PD := match L with
  | [] => []
  | f :: L => if decide (f.Mark.Index < p.Mark.Index) = true then [] else f :: L
def clashR (L : List PD) (p : PD) : Nat → Bool
  | 0 => false
  | k + 1 => clashR L p k || ((byteD L (p.At + k)).isSome && decide ((((byteD L (p.At + k)).getD 0).toNat : Int) ≠ ((p.B.getD k default).toNat : Int)))
def staleL (L : List PD) (p : PD) : Bool := match L with
  | [] => false
  | f :: _ => staleR f p
def takeR (most : Int) (L : List PD) (p : PD) : List PD × Int :=
  if badR most p = true then (L, 2)
  else if staleL L p = true then (L, 70)
  else if clashR (keepR L p) p p.B.length = true then (keepR L p, 71)
  else if (wholeD (keepR L p ++ [p]) && decide (((sumB (bytesD (keepR L p ++ [p]))).toNat : Int) ≠ (p.Sum.toNat : Int))) = true then ([], 51)
  else (keepR L p ++ [p], 0)
section
variable {most : Int} {L : List PD} {p : PD}
theorem takeR_bad (h : badR most p = true) : takeR most L p = (L, 2) := by unfold takeR; rw [if_pos h]
theorem takeR_stale (h : badR most p = false) (h2 : staleL L p = true) : takeR most L p = (L, 70) := by unfold takeR; rw [if_neg (by rw [h]; decide), if_pos h2]
theorem takeR_clash (h : badR most p = false) (h2 : staleL L p = false) (h3 : clashR (keepR L p) p p.B.length = true) : takeR most L p = (keepR L p, 71) := by
  unfold takeR; rw [if_neg (by rw [h]; decide), if_neg (by rw [h2]; decide), if_pos h3]
theorem takeR_sum (h : badR most p = false) (h2 : staleL L p = false) (h3 : clashR (keepR L p) p p.B.length = false) (h4 : wholeD (keepR L p ++ [p]) = true) (h5 : ((sumB (bytesD (keepR L p ++ [p]))).toNat : Int) ≠ (p.Sum.toNat : Int)) : takeR most L p = ([], 51) := by
  unfold takeR; rw [if_neg (by rw [h]; decide), if_neg (by rw [h2]; decide), if_neg (by rw [h3]; decide), if_pos (by rw [h4, decide_eq_true h5]; rfl)]
theorem takeR_ok (h : badR most p = false) (h2 : staleL L p = false) (h3 : clashR (keepR L p) p p.B.length = false) (h4 : wholeD (keepR L p ++ [p]) = false ∨ ((sumB (bytesD (keepR L p ++ [p]))).toNat : Int) = (p.Sum.toNat : Int)) : takeR most L p = (keepR L p ++ [p], 0) := by
  unfold takeR
  rw [if_neg (by rw [h]; decide), if_neg (by rw [h2]; decide), if_neg (by rw [h3]; decide), if_neg]
  rcases h4 with h4 | h4
  · rw [h4]; simp
  · rw [decide_eq_false (by simpa using h4)]; simp
theorem clashR_mono {k : Nat} (h : clashR L p k = true) : ∀ m, k ≤ m → clashR L p m = true := by
  intro m hm
  induction m with
  | zero => have e : k = 0 := by omega
            subst e; exact h
  | succ m ih =>
    by_cases e : k = m + 1
    · subst e; exact h
    · simp only [clashR, Bool.or_eq_true]; exact .inl (ih (by omega))
theorem bad_facts (h : badR most p = false) : rightR p.Mark = true ∧ 0 ≤ p.Total ∧ p.Total ≤ most ∧ 0 ≤ p.At ∧ p.At ≤ p.Total ∧ (p.B.length : Int) ≤ p.Total - p.At ∧ ((p.B.length : Int) = 0 → p.Total ≤ 0) := by
  unfold badR at h
  simp only [Bool.or_eq_false_iff, Bool.and_eq_false_iff, Bool.not_eq_false', decide_eq_false_iff_not] at h
  obtain ⟨⟨⟨⟨⟨⟨c1, c2⟩, c3⟩, c4⟩, c5⟩, c6⟩, c7⟩ := h
  refine ⟨c1, by omega, by omega, by omega, by omega, by omega, fun h0 => ?_⟩
  rcases c7 with c7 | c7
  · exact absurd h0 c7
  · omega
end
theorem keepR_new {L : List Piece} {p : Piece} (hL : 0 < L.length) (h : decide ((L.getD 0 default).Mark.Index < p.Mark.Index) = true) : keepR (L.map pd) (pd p) = [] := by
  rw [map_cons0 hL]; exact if_pos h
theorem keepR_old {L : List Piece} {p : Piece} (hL : 0 < L.length) (h : decide ((L.getD 0 default).Mark.Index < p.Mark.Index) = false) : keepR (L.map pd) (pd p) = L.map pd := by
  rw [map_cons0 hL]; exact if_neg (by show ¬ decide ((L.getD 0 default).Mark.Index < p.Mark.Index) = true; rw [h]; decide)
theorem whole_no {L : List Piece} (h : (L.length : Int) = 0 ∨ missD (L.map pd) < (L.getD 0 default).Total) : wholeD (L.map pd) = false := by
  unfold wholeD
  by_cases hL : 0 < L.length
  · have h : missD (L.map pd) < (L.getD 0 default).Total := by rcases h with h | h
                                                               · omega
                                                               · exact h
    rw [totD_map hL, decide_eq_true h, Bool.or_true]; rfl
  · have : L = [] := List.eq_nil_of_length_eq_zero (by omega)
    subst this; rfl
theorem whole_yes {L : List Piece} (hL : 0 < L.length) (h : ¬ missD (L.map pd) < (L.getD 0 default).Total) : wholeD (L.map pd) = true := by
  unfold wholeD
  rw [totD_map hL, decide_eq_false h, Bool.or_false, map_cons0 hL]; rfl
theorem ri_snoc {L : List Piece} {p : Piece} (h : RI L) (hl : L.length < 1000000000) (h1 : 0 ≤ p.Total ∧ p.Total ≤ 1000000000) (h2 : 0 ≤ p.At ∧ p.At ≤ 1000000000) : RI (L ++ [p]) := by
  refine ⟨fun q hq => ?_, fun q hq => ?_, by simp; omega⟩
  · rcases List.mem_append.1 hq with hq | hq
    · exact h.tot q hq
    · rw [List.mem_singleton.1 hq]; exact h1
  · rcases List.mem_append.1 hq with hq | hq
    · exact h.at_ q hq
    · rw [List.mem_singleton.1 hq]; exact h2
theorem ri_nil : RI [] := ⟨fun q h => absurd h (List.not_mem_nil), fun q h => absurd h (List.not_mem_nil), by decide⟩
end Go.Chk

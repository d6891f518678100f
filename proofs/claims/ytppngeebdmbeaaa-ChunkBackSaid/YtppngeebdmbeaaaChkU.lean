/-
  The pieces of a cut, gathered in any order.
-/
import Derived.Test.YtppngeebdmbeaaaChkS
set_option linter.unusedSimpArgs false
set_option linter.unusedVariables false
namespace Go.Chk
open Go Go.SL Go.Sum
/-- how many pieces -/
def cutC (b : List UInt8) (n : Nat) : Nat := max 1 (cdiv b.length n)
/-- gathered so far: the pieces in S -/
structure HG0 (d : HD) (m : Mark) (b : List UInt8) (n : Nat) (S : Nat → Bool) : Prop where
  hi : HI d
  on : d.on = true
  mkd : d.of.Mark = m
  sm : d.of.Sum = sumB b
  tot : d.of.Total = (b.length : Int)
  bytes : ∀ i, i < b.length → d.there.getD i default = S (i / n) ∧ (S (i / n) = true → d.b.getD i default = b.getD i default)
structure HG (d : HD) (m : Mark) (b : List UInt8) (n : Nat) (S : Nat → Bool) : Prop extends HG0 d m b n S where
  some_ : ∃ k, k < cutC b n ∧ S k = true
theorem HG0.len {d : HD} {m : Mark} {b : List UInt8} {n : Nat} {S : Nat → Bool} (h : HG0 d m b n S) : d.b.length = b.length := by
  have := h.hi.tot h.on
  rw [h.tot] at this; omega
/-- what a piece of the cut is -/
structure PK (p : Piece) (m : Mark) (b : List UInt8) (n k : Nat) : Prop where
  mkd : p.Mark = m
  sm : p.Sum = sumB b
  tot : p.Total = (b.length : Int)
  at_ : p.At = ((min b.length (k * n) : Nat) : Int)
  bs : p.B.xs = (b.take (min b.length (k * n + n))).drop (k * n)
theorem pk_of {p : Piece} {m : Mark} {b : List UInt8} {n k : Nat} (h : pd p = pieceAt m b n k) : PK p m b n k := by
  unfold pd pieceAt at h
  injection h with h1 h2 h3 h4 h5
  exact ⟨h1, h2, h3, h4, h5⟩
theorem cutC_pos {b : List UInt8} {n k : Nat} (hn : 1 ≤ n) (hk : k < cutC b n) : k * n < b.length ∨ (k = 0 ∧ b.length = 0) := by
  unfold cutC at hk
  rcases Nat.eq_zero_or_pos b.length with h0 | h0
  · have : cdiv b.length n = 0 := by
      have := cdiv_le b.length n; omega
    exact .inr ⟨by omega, h0⟩
  · have h1 : 0 < cdiv b.length n := (lt_cdiv hn).2 (by omega)
    exact .inl ((lt_cdiv hn).1 (by omega))
theorem PK.len {p : Piece} {m : Mark} {b : List UInt8} {n k : Nat} (h : PK p m b n k) (hn : 1 ≤ n) (hk : k < cutC b n) : p.At.toNat = k * n ∧ p.B.xs.length = min b.length (k * n + n) - k * n ∧ k * n ≤ b.length := by
  have hc := cutC_pos hn hk
  have h0 : k * n ≤ b.length := by
    rcases hc with hc | ⟨hc, hc2⟩
    · omega
    · rw [hc]; omega
  refine ⟨by rw [h.at_]; omega, by rw [h.bs, List.length_drop, List.length_take]; omega, h0⟩
theorem PK.byte {p : Piece} {m : Mark} {b : List UInt8} {n k j : Nat} (h : PK p m b n k) (hj : k * n + j < min b.length (k * n + n)) : p.B.xs.getD j default = b.getD (k * n + j) default := by
  rw [h.bs]
  simp only [List.getD_eq_getElem?_getD, List.getElem?_drop, List.getElem?_take]
  rw [if_pos hj]
theorem PK.fits {p : Piece} {m : Mark} {b : List UInt8} {n k : Nat} {most : Int} (h : PK p m b n k) (hn : 1 ≤ n) (hk : k < cutC b n) (hm : rightB m = true) (hmost : (b.length : Int) ≤ most) : fitsB most p = true := by
  obtain ⟨h1, h2, h3⟩ := h.len hn hk
  have hc := cutC_pos hn hk
  have hat := h.at_
  have htot := h.tot
  unfold fitsB
  rw [h.mkd, hm, decide_eq_false (by omega : ¬ p.Total < 0), decide_eq_false (by omega : ¬ most < p.Total), decide_eq_false (by omega : ¬ p.At < 0), decide_eq_false (by omega : ¬ p.Total < p.At), decide_eq_false (by omega : ¬ p.Total - p.At < (p.B.xs.length : Int))]
  show (decide (0 < (p.B.xs.length : Int)) == decide (0 < p.Total)) = true
  rcases hc with hc | ⟨hc, hc2⟩
  · rw [decide_eq_true (by omega : 0 < (p.B.xs.length : Int)), decide_eq_true (by omega : 0 < p.Total)]; rfl
  · rw [decide_eq_false (by omega : ¬ 0 < (p.B.xs.length : Int)), decide_eq_false (by omega : ¬ 0 < p.Total)]; rfl
/-- a heap before the first piece of a cut -/
def Newer (d : HD) (m : Mark) : Prop := HI d ∧ (d.on = false ∨ d.of.Mark.Index < m.Index)
theorem begun_hg {d : HD} {p : Piece} {m : Mark} {b : List UInt8} {n k : Nat} {S : Nat → Bool} (hp : PK p m b n k) (hl : b.length ≤ 1000000000) (hf : fitsB d.most p = true)
    (h : HG0 d m b n S ∨ (Newer d m ∧ S = fun _ => false)) : staleB d p = false ∧ HG0 (begunD d p) m b n S ∧ (begunD d p).most = d.most := by
  have htot := hp.tot
  rcases h with h | ⟨⟨hi, hon⟩, rfl⟩
  · have hs : staleB d p = false := by
      unfold staleB togetherB
      rw [h.on, h.mkd, h.sm, h.tot, hp.mkd, hp.sm, hp.tot]
      simp
    refine ⟨hs, ?_, ?_⟩
    · have e : begunD d p = d := by unfold begunD; rw [h.on, h.mkd, hp.mkd]; simp
      rw [e]; exact h
    · unfold begunD; split <;> rfl
  · have hs : staleB d p = false := by
      unfold staleB
      rcases hon with hon | hon
      · rw [hon]; rfl
      · rw [decide_eq_false (by rw [hp.mkd]; omega), decide_eq_false (by rw [hp.mkd]; omega)]; simp
    have e : begunD d p = ⟨d.most, p, true, List.replicate p.Total.toNat 0, List.replicate p.Total.toNat false, p.Total⟩ := by
      unfold begunD
      rw [if_pos]
      rcases hon with hon | hon
      · rw [hon]; rfl
      · rw [decide_eq_true (by rw [hp.mkd]; exact hon)]; simp
    have hib := hi_begun hi (by omega) hf hs
    rw [e] at hib ⊢
    refine ⟨hs, ⟨hib, rfl, hp.mkd, hp.sm, hp.tot, fun i hi => ⟨?_, fun h => by cases h⟩⟩, rfl⟩
    exact rep_getD _ _ _ (by omega)
theorem clash_none {D : HD} {p : Piece} : ∀ n, (∀ j, j < n → clashAt D p j = false) → clashB D p n = false
  | 0, _ => rfl
  | n + 1, h => by simp only [clashB, Bool.or_eq_false_iff]; exact ⟨clash_none n (fun j hj => h j (by omega)), h n (by omega)⟩
theorem div_eq {i n k : Nat} (hn : 1 ≤ n) : i / n = k ↔ k * n ≤ i ∧ i < k * n + n := by
  rw [Nat.div_eq_iff (by omega)]
  constructor
  · rintro ⟨h1, h2⟩; exact ⟨h1, by omega⟩
  · rintro ⟨h1, h2⟩; exact ⟨h1, by omega⟩
theorem all_there {d : HD} {m : Mark} {b : List UInt8} {n : Nat} {S : Nat → Bool} (h : HG0 d m b n S) (hl : d.left = 0) : ∀ i, i < b.length → S (i / n) = true := by
  intro i hi
  have hc := h.hi.cnt
  have hm : false ∉ d.there := List.count_eq_zero.1 (by omega)
  have := there_true hm (j := i) (by have := h.len; have := h.hi.len1; omega)
  rw [← (h.bytes i hi).1]; exact this
theorem all_bytes {d : HD} {m : Mark} {b : List UInt8} {n : Nat} {S : Nat → Bool} (h : HG0 d m b n S) (hl : d.left = 0) : d.b = b := by
  refine List.ext_getElem h.len fun i h1 h2 => ?_
  have := (h.bytes i h2).2 (all_there h hl i h2)
  simpa [List.getD, h1, h2] using this
theorem hg_take {d : HD} {p : Piece} {m : Mark} {b : List UInt8} {n k : Nat} {S : Nat → Bool} (hn : 1 ≤ n) (hk : k < cutC b n) (hp : PK p m b n k) (hm : rightB m = true) (hmost : (b.length : Int) ≤ d.most) (hl : b.length ≤ 1000000000)
    (h : HG0 d m b n S ∨ (Newer d m ∧ S = fun _ => false)) :
    (takeF d p).2 = 0 ∧ HG (takeF d p).1 m b n (fun j => S j || decide (j = k)) ∧ (takeF d p).1.most = d.most := by
  have hf := hp.fits hn hk hm hmost
  obtain ⟨hs, hb, hmo⟩ := begun_hg hp hl hf h
  obtain ⟨l1, l2, l3⟩ := hp.len hn hk
  have hbl := hb.len
  have hc : clashB (begunD d p) p p.B.xs.length = false := by
    refine clash_none _ fun j hj => ?_
    unfold clashAt
    rw [l1]
    have hi : k * n + j < b.length := by omega
    obtain ⟨q1, q2⟩ := hb.bytes (k * n + j) hi
    cases ht : (begunD d p).there.getD (k * n + j) default with
    | false => rfl
    | true =>
      rw [q2 (q1.symm.trans ht), hp.byte (j := j) (by omega)]
      simp
  have hlen : p.At.toNat + p.B.xs.length ≤ (begunD d p).b.length := by omega
  have hg : HG0 (laidD (begunD d p) p) m b n (fun j => S j || decide (j = k)) := by
    refine ⟨hi_laid hb.hi hb.on hlen, hb.on, hb.mkd, hb.sm, hb.tot, fun i hi => ?_⟩
    have e1 : (laidD (begunD d p) p).b.getD i default = if p.At.toNat ≤ i ∧ i < p.At.toNat + p.B.xs.length then p.B.xs.getD (i - p.At.toNat) default else (begunD d p).b.getD i default := laid_get _ _ _ _ hlen (by omega)
    have e2 : (laidD (begunD d p) p).there.getD i default = (decide (p.At.toNat ≤ i ∧ i < p.At.toNat + p.B.xs.length) || (begunD d p).there.getD i default) := marks_get _ _ _ _ (by have := hb.hi.len1; omega) _
    have e3 : (p.At.toNat ≤ i ∧ i < p.At.toNat + p.B.xs.length) ↔ i / n = k := by rw [div_eq hn]; omega
    obtain ⟨q1, q2⟩ := hb.bytes i hi
    rw [e1, e2, q1]
    by_cases hin : p.At.toNat ≤ i ∧ i < p.At.toNat + p.B.xs.length
    · rw [decide_eq_true hin, if_pos hin, decide_eq_true (e3.1 hin), Bool.or_true]
      refine ⟨rfl, fun _ => ?_⟩
      rw [hp.byte (by omega)]
      congr 1; omega
    · rw [decide_eq_false hin, if_neg hin, decide_eq_false (fun h => hin (e3.2 h)), Bool.or_false]
      exact ⟨rfl, q2⟩
  have e : takeF d p = (laidD (begunD d p) p, 0) := by
    rw [take_done hf hs hc]
    unfold doneD
    rw [if_neg]
    simp only [Bool.and_eq_true, decide_eq_true_eq, Bool.not_eq_true', decide_eq_false_iff_not, not_and, Decidable.not_not]
    intro hl0
    rw [all_bytes hg hl0, hg.sm]
  rw [e]
  exact ⟨rfl, ⟨hg, k, hk, by simp⟩, hmo⟩
theorem hg_done {d : HD} {m : Mark} {b : List UInt8} {n : Nat} {S : Nat → Bool} (hn : 1 ≤ n) (h : HG d m b n S) : doneB d = true ↔ ∀ k, k < cutC b n → S k = true := by
  have hon := h.on
  unfold doneB
  rw [hon, Bool.true_and, decide_eq_true_eq]
  have hc := h.hi.cnt
  have hle := h.hi.len1
  have hlen := h.len
  constructor
  · intro hl k hk
    rcases cutC_pos hn hk with hk2 | ⟨rfl, h0⟩
    · have := all_there h.toHG0 hl (k * n) hk2
      rwa [Nat.mul_div_cancel k (by omega)] at this
    · obtain ⟨k', hk', hS⟩ := h.some_
      rcases cutC_pos hn hk' with hk2 | ⟨rfl, _⟩
      · omega
      · exact hS
  · intro hall
    have : d.there.count false = 0 := List.count_eq_zero.2 fun hm => by
      obtain ⟨h1, h2, h3⟩ := idx_props hm
      have hi : d.there.idxOf false < b.length := by omega
      have hq := (h.bytes _ hi).1
      have hk : d.there.idxOf false / n < cutC b n := by
        have : d.there.idxOf false / n < cdiv b.length n := (lt_cdiv hn).2 (by have := Nat.div_mul_le_self (d.there.idxOf false) n; omega)
        unfold cutC; omega
      rw [hall _ hk, h2] at hq; cases hq
    omega
/-- an elder piece, or one of another cut -/
theorem hg_stale {d : HD} {p : Piece} {m : Mark} {b : List UInt8} {n : Nat} {S : Nat → Bool} (h : HG0 d m b n S) (hf : fitsB d.most p = true) (hp : p.Mark.Index < m.Index) : takeF d p = (d, 70) := by
  refine take_stale hf ?_
  unfold staleB; rw [h.on, h.mkd, decide_eq_true hp]; rfl
/-- a spoilt piece -/
theorem hg_clash {d : HD} {p : Piece} {m : Mark} {b : List UInt8} {n k : Nat} {S : Nat → Bool} (hn : 1 ≤ n) (hk : k < cutC b n) (h : HG0 d m b n S) (hS : S k = true) (hf : fitsB d.most p = true) (hpm : p.Mark = m) (hps : p.Sum = sumB b) (hpt : p.Total = (b.length : Int)) (hpa : p.At = ((min b.length (k * n) : Nat) : Int))
    (h0 : 0 < p.B.xs.length) (hkn : k * n < b.length) (hne : p.B.xs.getD 0 default ≠ b.getD (k * n) default) : takeF d p = (d, 71) := by
  have hs : staleB d p = false := by unfold staleB togetherB; rw [h.on, h.mkd, h.sm, h.tot, hpm, hps, hpt]; simp
  have e : begunD d p = d := by unfold begunD; rw [h.on, h.mkd, hpm]; simp
  obtain ⟨q1, q2⟩ := h.bytes (k * n) hkn
  rw [Nat.mul_div_cancel k (by omega), hS] at q1 q2
  have hc1 : clashB d p 1 = true := by
    simp only [clashB, Bool.false_or]
    unfold clashAt
    have ha : p.At.toNat = k * n := by rw [hpa]; omega
    rw [ha, Nat.add_zero, q1, q2 rfl, Bool.true_and, decide_eq_true_eq]
    intro hh
    exact hne (UInt8.toNat.inj (by omega)).symm
  have hc : clashB d p p.B.xs.length = true := clash_mono _ (by omega) hc1
  have := take_clash hf hs (by rw [e]; exact hc)
  rw [e] at this; exact this

theorem cutE_ok {m : Mark} {size : Int} (hm : rightB m = true) (hs : 1 ≤ size) : cutE m size = 0 := by unfold cutE cutOk; rw [hm, decide_eq_true hs]; rfl
theorem cutG_ok {m : Mark} {b : List UInt8} {size : Int} (hm : rightB m = true) (hs : 1 ≤ size) : cutG m b size = cutF m b size := by unfold cutG cutOk; rw [hm, decide_eq_true hs]; rfl
/-- the pieces of a cut, one by one; n: a decent size -/
def cutW (b : List UInt8) (size : Int) : Nat := max 1 (min size.toNat b.length)
theorem cutF_len {m : Mark} {b : List UInt8} {size : Int} {ps : List Piece} (h : ps.map pd = cutF m b size) (hs : 1 ≤ size) : ps.length = cutC b (cutW b size) := by
  have h1 := congrArg List.length h
  simp only [List.length_map, cutF, cutK, List.length_range] at h1
  rw [h1]; unfold cutC cutW
  rcases Nat.eq_zero_or_pos b.length with h0 | h0
  · rw [h0]; simp [cdiv]
  · rw [Nat.max_eq_right (by omega : 1 ≤ min size.toNat b.length)]
theorem cutF_pk {m : Mark} {b : List UInt8} {size : Int} {ps : List Piece} {k : Nat} (h : ps.map pd = cutF m b size) (hs : 1 ≤ size) (hk : k < ps.length) : PK (ps.getD k default) m b (cutW b size) k := by
  have hl := cutF_len h hs
  have e : (ps.map pd)[k]? = some (pd (ps.getD k default)) := by rw [List.getElem?_map, List.getElem?_eq_getElem hk]; simp [List.getD, hk]
  rw [h] at e
  have hk2 : k < max 1 (cdiv b.length (min size.toNat b.length)) := by
    have h1 := congrArg List.length h
    simp only [List.length_map, cutF, cutK, List.length_range] at h1
    omega
  unfold cutF cutK at e
  rw [List.getElem?_map, List.getElem?_range hk2] at e
  have e2 : pieceAt m b (min size.toNat b.length) k = pd (ps.getD k default) := by simpa using e
  rcases Nat.eq_zero_or_pos b.length with h0 | h0
  · have hb : b = [] := List.eq_nil_of_length_eq_zero h0
    have : cutC b (cutW b size) = 1 := by unfold cutC; have := cdiv_le b.length (cutW b size); omega
    have hk0 : k = 0 := by omega
    subst hk0; subst hb
    refine pk_of ?_
    rw [← e2]; simp [pieceAt]
  · refine pk_of ?_
    rw [← e2]; unfold cutW; rw [Nat.max_eq_right (by omega : 1 ≤ min size.toNat b.length)]
theorem takes_snoc {p : Piece} : ∀ (l : List Piece) (d : HD), (takesF d l).2.2 = 0 → takesF d (l ++ [p]) = ((takeF (takesF d l).1 p).1, doneB (takeF (takesF d l).1 p).1, (takeF (takesF d l).1 p).2)
  | [], d, _ => takes_one d p
  | q :: l, d, h => by
    simp only [takesF] at h
    simp only [List.cons_append, takesF]
    by_cases e : (takeF d q).2 = 0
    · rw [if_pos e] at h ⊢
      rw [if_pos e]; exact takes_snoc l _ h
    · rw [if_neg e] at h; exact absurd h e
/-- the first k pieces of a cut -/
theorem hg_prefix {d : HD} {m : Mark} {b : List UInt8} {size : Int} {ps : List Piece} (h : ps.map pd = cutF m b size) (hs : 1 ≤ size) (hm : rightB m = true) (hmost : (b.length : Int) ≤ d.most) (hl : b.length ≤ 1000000000) (hd : Newer d m) :
    ∀ k, k ≤ ps.length → (takesF d (ps.take k)).2.2 = 0 ∧ (takesF d (ps.take k)).1.most = d.most ∧ (takesF d (ps.take k)).2.1 = doneB (takesF d (ps.take k)).1 ∧
      ((k = 0 ∧ (takesF d (ps.take k)).1 = d) ∨ HG (takesF d (ps.take k)).1 m b (cutW b size) (fun j => decide (j < k)))
  | 0, _ => ⟨rfl, rfl, rfl, .inl ⟨rfl, rfl⟩⟩
  | k + 1, hk => by
    obtain ⟨h1, h2, h3, h4⟩ := hg_prefix h hs hm hmost hl hd k (by omega)
    have hlen := cutF_len h hs
    have hp := cutF_pk h hs (show k < ps.length by omega)
    have hpre : HG0 (takesF d (ps.take k)).1 m b (cutW b size) (fun j => decide (j < k)) ∨ (Newer (takesF d (ps.take k)).1 m ∧ (fun j => decide (j < k)) = fun _ => false) := by
      rcases h4 with ⟨rfl, e⟩ | h4
      · exact .inr ⟨by rw [e]; exact hd, by funext j; simp⟩
      · exact .inl h4.toHG0
    have ht := hg_take (by unfold cutW; omega) (by omega) hp hm (by rw [h2]; exact hmost) hl hpre
    rw [take_succ_getD ps k (by omega), takes_snoc _ _ h1]
    refine ⟨ht.1, ht.2.2.trans h2, rfl, .inr ?_⟩
    have e : (fun j => decide (j < k) || decide (j = k)) = fun j => decide (j < k + 1) := by
      funext j; rw [Bool.eq_iff_iff]; simp only [Bool.or_eq_true, decide_eq_true_eq]; omega
    rw [← e]; exact ht.2.1

theorem Ro.takee {α : Type} {enc : α → List Value} {ρ : Hp} {sz n cap : Nat} {a : Option Addr} {xs : List α} (h : Ro ρ sz a n cap (xs.flatMap enc)) (he : ∀ x, (enc x).length = sz) (k : Nat) (hk : k ≤ n) : Ro ρ sz a k cap ((xs.take k).flatMap enc) := by
  rw [← flat_take he]; exact h.take k hk
theorem tmod_bounds (a b : Int) (h : 0 < b) : -b < a.tmod b ∧ a.tmod b < b := ⟨Int.lt_tmod_of_pos a h, Int.tmod_lt_of_pos a h⟩
theorem cut_tot {m : Mark} {b : List UInt8} {size : Int} {ps : List Piece} (h : ps.map pd = cutF m b size) (hs : 1 ≤ size) : ∀ p ∈ ps, p.Total = (b.length : Int) := fun p hp => by
  obtain ⟨k, hk, rfl⟩ := List.getElem_of_mem hp
  have := (cutF_pk h hs hk).tot
  simpa [List.getD, hk] using this
theorem cut_num {m : Mark} {b : List UInt8} {size : Int} {ps : List Piece} (h : ps.map pd = cutF m b size) (hs : 1 ≤ size) : 1 ≤ ps.length ∧ ps.length ≤ max 1 b.length := by
  rw [cutF_len h hs]; unfold cutC
  have := cdiv_le b.length (cutW b size)
  omega
theorem hg_count {d : HD} {m : Mark} {b : List UInt8} {n k : Nat} (hn : 1 ≤ n) (h : HG d m b n (fun j => decide (j < k))) (hk : k ≤ cutC b n) : doneB d = decide (k = cutC b n) := by
  rw [Bool.eq_iff_iff, hg_done hn h, decide_eq_true_eq]
  constructor
  · intro hall
    by_cases e : k < cutC b n
    · have := hall k e
      simp at this
    · omega
  · rintro rfl j hj; simpa using hj
theorem done_new (m : Int) : doneB (newD m) = false := rfl
structure Two where
  e0 : Int
  e1 : Int
def encTwo (x : Two) : List Value := [.int .i64 x.e0, .int .i64 x.e1]
def zTwo : Two := ⟨0, 0⟩
instance : Inhabited Two := ⟨zTwo⟩
theorem oneTwo (x : Two) : ∀ u ∈ encTwo x, u.oneCell' = true := fun u hu => by
  simp only [encTwo, List.mem_cons, List.not_mem_nil, or_false] at hu
  rcases hu with rfl | rfl <;> rfl

theorem setS {tk : List Bool} {k : Nat} (hk : k < tk.length) : (fun j => (tk.set k true).getD j default) = fun j => tk.getD j default || decide (j = k) := by
  funext j
  by_cases h : j < tk.length
  · rw [set_getD _ _ _ _ h]
    by_cases e : k = j
    · subst e; simp
    · rw [if_neg e, decide_eq_false (fun h => e h.symm), Bool.or_false]
  · have e1 : (tk.set k true).getD j default = default := by simp [List.getD, h]
    have e2 : tk.getD j default = default := by simp [List.getD, h]
    rw [e1, e2, decide_eq_false (by omega)]; rfl
theorem set_count {tk : List Bool} {k : Nat} (hk : k < tk.length) : ((tk.set k true).count false : Int) = if tk.getD k default = true then (tk.count false : Int) else (tk.count false : Int) - 1 := by
  have := marks_cnt tk (tk.count false) k rfl 1 (by omega)
  simp only [marks, Nat.add_zero] at this
  exact this.symm
theorem hg_all {d : HD} {m : Mark} {b : List UInt8} {n : Nat} {tk : List Bool} (hn : 1 ≤ n) (h : HG d m b n (fun j => tk.getD j default)) (hl : tk.length = cutC b n) : doneB d = decide (((tk.count false : Nat) : Int) = 0) := by
  rw [Bool.eq_iff_iff, hg_done hn h, decide_eq_true_eq]
  constructor
  · intro hall
    have : tk.count false = 0 := List.count_eq_zero.2 fun hm => by
      obtain ⟨h1, h2, h3⟩ := idx_props hm
      have := hall _ (by omega : tk.idxOf false < cutC b n)
      rw [h2] at this; cases this
    omega
  · intro h0 k hk
    exact there_true (List.count_eq_zero.1 (by omega)) (by omega)
theorem rep_false (n : Nat) : (fun j => (List.replicate n false).getD j default) = fun _ => false := by
  funext j
  by_cases h : j < n
  · exact rep_getD _ _ _ h
  · simp [List.getD, h]

theorem flip_ne (x : UInt8) : x ^^^ 255 ≠ x := fun h => by
  have h2 := congrArg (fun v : UInt8 => v.toBitVec.getLsbD 0) h
  simp at h2
theorem hg_spoilt {d : HD} {p : Piece} {m : Mark} {b : List UInt8} {n k : Nat} {S : Nat → Bool} (hn : 1 ≤ n) (hk : k < cutC b n) (h : HG0 d m b n S) (hS : S k = true) (hp : PK p m b n k) (hm : rightB m = true) (hmost : (b.length : Int) ≤ d.most) (h0 : 0 < p.B.xs.length) (a : Option Addr) (c : Nat) :
    takeF d { p with B := ⟨a, p.B.xs.set 0 (p.B.xs.getD 0 default ^^^ 255), c⟩ } = (d, 71) := by
  obtain ⟨l1, l2, l3⟩ := hp.len hn hk
  refine hg_clash (k := k) hn hk h hS ?_ hp.mkd hp.sm hp.tot hp.at_ (by simpa using h0) (by omega) ?_
  · have := hp.fits hn hk hm hmost
    unfold fitsB at this ⊢
    simpa only [List.length_set] using this
  · show (p.B.xs.set 0 _).getD 0 default ≠ _
    rw [set_getD _ _ _ _ h0, if_pos rfl, show b.getD (k * n) default = _ from (hp.byte (j := 0) (by omega)).symm]
    exact flip_ne _
theorem missing_full {d : HD} (hi : HI d) (hl : d.left = 0) : missingI d = (d.b.length : Int) := by
  have hc := hi.cnt
  have hm : false ∉ d.there := List.count_eq_zero.1 (by omega)
  unfold missingI; rw [idxB_none hm, if_neg (by decide)]
end Go.Chk

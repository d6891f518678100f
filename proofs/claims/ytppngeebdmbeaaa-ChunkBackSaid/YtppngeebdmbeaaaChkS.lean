/-
  The two heaps tell the same: the program's (bytes and marks) and the document's (pieces).
-/
import Derived.Test.YtppngeebdmbeaaaChkR
set_option linter.unusedSimpArgs false
set_option linter.unusedVariables false
namespace Go.Chk
open Go Go.SL Go.Sum
theorem fits_bad {m : Int} {p : Piece} : fitsB m p = !badR m (pd p) := by
  have e : badR m (pd p) = ((!rightB p.Mark || decide (p.Total < 0) || decide (m < p.Total) || decide (p.At < 0) || decide (p.Total < p.At) || decide (p.Total - p.At < (p.B.xs.length : Int))) || (decide ((p.B.xs.length : Int) = 0) && decide (0 < p.Total))) := by unfold badR; rw [rightR_eq]; rfl
  rw [e]; unfold fitsB
  split
  · rename_i h; rw [h]; rfl
  · rename_i h
    simp only [Bool.or_eq_true, Bool.not_eq_true', decide_eq_true_eq, not_or, Bool.not_eq_false] at h
    obtain ⟨⟨⟨⟨⟨c1, c2⟩, c3⟩, c4⟩, c5⟩, c6⟩ := h
    rw [c1, decide_eq_false c2, decide_eq_false c3, decide_eq_false c4, decide_eq_false c5, decide_eq_false c6]
    by_cases h1 : (p.B.xs.length : Int) = 0
    · by_cases h2 : 0 < p.Total
      · rw [decide_eq_true h1, decide_eq_true h2, decide_eq_false (by omega : ¬ 0 < (p.B.xs.length : Int))]; rfl
      · rw [decide_eq_true h1, decide_eq_false h2, decide_eq_false (by omega : ¬ 0 < (p.B.xs.length : Int))]; rfl
    · rw [decide_eq_false h1, decide_eq_true (by omega : 0 < p.Total), decide_eq_true (by omega : 0 < (p.B.xs.length : Int))]; rfl
def HB (b : List UInt8) (t : List Bool) (K : List PD) : Prop := ∀ i, i < b.length → byteD K (i : Int) = if t.getD i default = true then some (b.getD i default) else none
structure HR (d : HD) (L : List PD) : Prop where
  hi : HI d
  on : d.on = !L.isEmpty
  head : ∀ f r, L = f :: r → d.of.Mark = f.Mark ∧ d.of.Sum = f.Sum ∧ d.of.Total = f.Total
  bytes : HB d.b d.there L
theorem hr_new {m : Int} (h : m ≤ 9223372036854775807) : HR (newD m) [] := ⟨hi_new h, rfl, fun f r e => (by cases e), fun i hi => absurd hi (Nat.not_lt_zero _)⟩
theorem stale_eq {d : HD} {L : List PD} {p : Piece} (h : HR d L) : staleB d p = staleL L (pd p) := by
  cases L with
  | nil => have h0 := h.on; unfold staleB; rw [h0]; rfl
  | cons f r =>
    obtain ⟨h1, h2, h3⟩ := h.head f r rfl
    have hon : d.on = true := h.on
    unfold staleB staleL staleR togetherB
    rw [hon, h1, h2, h3]
    simp only [pd, Bool.true_and]
    by_cases e : p.Mark.Index = f.Mark.Index <;> by_cases t : p.Mark.Term = f.Mark.Term <;> by_cases s : p.Sum = f.Sum <;> by_cases u : p.Total = f.Total <;> simp [e, t, s, u, Int.natCast_inj, BitVec.toNat_inj] <;> exact decide_eq_decide.2 Iff.rfl
theorem rep_getD {α : Type} [Inhabited α] (n i : Nat) (a : α) (h : i < n) : (List.replicate n a).getD i default = a := by simp [List.getD, h]
theorem begun_cases {d : HD} {L : List PD} (p : Piece) (h : HR d L) : (begunD d p = d ∧ keepR L (pd p) = L ∧ L ≠ []) ∨ (begunD d p = ⟨d.most, p, true, List.replicate p.Total.toNat 0, List.replicate p.Total.toNat false, p.Total⟩ ∧ keepR L (pd p) = []) := by
  cases L with
  | nil => exact .inr ⟨by have h0 := h.on; unfold begunD; rw [h0]; rfl, rfl⟩
  | cons f r =>
    obtain ⟨h1, -, -⟩ := h.head f r rfl
    have hon : d.on = true := h.on
    by_cases hc : f.Mark.Index < p.Mark.Index
    · exact .inr ⟨by unfold begunD; rw [hon, h1, decide_eq_true hc]; rfl, if_pos (by show decide (f.Mark.Index < p.Mark.Index) = true; rw [decide_eq_true hc])⟩
    · exact .inl ⟨by unfold begunD; rw [hon, h1, decide_eq_false hc]; rfl, if_neg (by show ¬ decide (f.Mark.Index < p.Mark.Index) = true; rw [decide_eq_false hc]; decide), by simp⟩
theorem hb_begun {d : HD} {L : List PD} (p : Piece) (h : HR d L) : HB (begunD d p).b (begunD d p).there (keepR L (pd p)) := by
  rcases begun_cases p h with ⟨e1, e2, -⟩ | ⟨e1, e2⟩
  · rw [e1, e2]; exact h.bytes
  · rw [e1, e2]
    intro i hi
    simp only [List.length_replicate] at hi
    show none = _
    simp only []
    rw [rep_getD _ _ _ hi]; rfl
theorem clash_eq {D : HD} {K : List PD} {p : Piece} (hb : HB D.b D.there K) (h0 : 0 ≤ p.At) : ∀ n, p.At.toNat + n ≤ D.b.length → clashB D p n = clashR K (pd p) n
  | 0, _ => rfl
  | n + 1, hl => by
    have e : (pd p).At + (n : Int) = ((p.At.toNat + n : Nat) : Int) := by show p.At + _ = _; omega
    simp only [clashB, clashR]
    rw [clash_eq hb h0 n (by omega), e, hb _ (by omega)]
    congr 1
    unfold clashAt
    cases hth : D.there.getD (p.At.toNat + n) default with
    | true => simp [pd]
    | false => simp
theorem clash_at {D : HD} {p : Piece} : ∀ {n k : Nat}, clashB D p n = false → k < n → clashAt D p k = false
  | n + 1, k, h, hk => by
    simp only [clashB, Bool.or_eq_false_iff] at h
    rcases Nat.lt_succ_iff_lt_or_eq.1 hk with h1 | h1
    · exact clash_at h.1 h1
    · subst h1; exact h.2
theorem set_getD {α : Type} [Inhabited α] (l : List α) (j i : Nat) (v : α) (hi : i < l.length) : (l.set j v).getD i default = if j = i then v else l.getD i default := by
  simp only [List.getD_eq_getElem?_getD, List.getElem?_set]
  by_cases h : j = i
  · subst h; simp [hi]
  · simp [h]
theorem marks_get (t : List Bool) (l : Int) (a i : Nat) (hi : i < t.length) : ∀ n, (marks t l a n).1.getD i default = (decide (a ≤ i ∧ i < a + n) || t.getD i default)
  | 0 => by
    have : ¬ (a ≤ i ∧ i < a + 0) := by omega
    rw [decide_eq_false this]; rfl
  | n + 1 => by
    have hl := marks_len t l a n
    simp only [marks]
    rw [set_getD _ _ _ _ (by omega), marks_get t l a i hi n]
    by_cases h : a + n = i
    · rw [if_pos h, decide_eq_true (by omega)]; rfl
    · rw [if_neg h]
      by_cases h2 : a ≤ i ∧ i < a + n
      · rw [decide_eq_true h2, decide_eq_true (by omega)]
      · rw [decide_eq_false h2, decide_eq_false (by omega)]
theorem byteD_snoc (q : PD) (a : Int) : ∀ K : List PD, byteD (K ++ [q]) a = match byteD K a with
    | some c => some c
    | none => if hitD q a = true then some (q.B.getD (a - q.At).toNat default) else none
  | [] => rfl
  | f :: K => by
    show (if hitD f a = true then _ else byteD (K ++ [q]) a) = _
    simp only [byteD]
    by_cases h : hitD f a = true
    · rw [if_pos h, if_pos h]
    · rw [if_neg h, if_neg h, byteD_snoc q a K]
theorem laid_get (b B : List UInt8) (a i : Nat) (h : a + B.length ≤ b.length) (hi : i < b.length) : (b.take a ++ B ++ b.drop (a + B.length)).getD i default = if a ≤ i ∧ i < a + B.length then B.getD (i - a) default else b.getD i default := by
  simp only [List.getD_eq_getElem?_getD, List.getElem?_append, List.length_append, List.length_take, List.getElem?_take, List.getElem?_drop]
  have hm : min a b.length = a := by omega
  rw [hm]
  by_cases h1 : i < a
  · rw [if_pos (by omega), if_pos h1, if_pos h1, if_neg (by omega)]
  · by_cases h2 : i < a + B.length
    · rw [if_pos h2, if_neg h1, if_pos ⟨by omega, h2⟩]
    · rw [if_neg h2, if_neg (by omega)]
      congr 2; omega
theorem hb_laid {D : HD} {K : List PD} {p : Piece} (hb : HB D.b D.there K) (hl : D.b.length = D.there.length) (h0 : 0 ≤ p.At) (hlen : p.At.toNat + p.B.xs.length ≤ D.b.length) (hc : clashB D p p.B.xs.length = false) : HB (laidD D p).b (laidD D p).there (K ++ [pd p]) := by
  intro i hi
  have hbl : (laidD D p).b.length = D.b.length := by simp [laidD]; omega
  rw [hbl] at hi
  have e1 : (laidD D p).b.getD i default = if p.At.toNat ≤ i ∧ i < p.At.toNat + p.B.xs.length then p.B.xs.getD (i - p.At.toNat) default else D.b.getD i default := laid_get _ _ _ _ hlen hi
  have e2 : (laidD D p).there.getD i default = (decide (p.At.toNat ≤ i ∧ i < p.At.toNat + p.B.xs.length) || D.there.getD i default) := marks_get _ _ _ _ (by omega) _
  have e3 : hitD (pd p) (i : Int) = decide (p.At.toNat ≤ i ∧ i < p.At.toNat + p.B.xs.length) := by
    unfold hitD
    show (decide (0 ≤ (i : Int) - p.At) && decide ((i : Int) - p.At < (p.B.xs.length : Int))) = _
    rw [Bool.eq_iff_iff]; simp only [Bool.and_eq_true, decide_eq_true_eq]; omega
  have e4 : ((i : Int) - (pd p).At).toNat = i - p.At.toNat := by show ((i : Int) - p.At).toNat = _; omega
  rw [byteD_snoc, hb i hi, e1, e2, e3, e4]
  by_cases hin : p.At.toNat ≤ i ∧ i < p.At.toNat + p.B.xs.length
  · rw [decide_eq_true hin, if_pos hin]
    cases hth : D.there.getD i default with
    | true =>
      have hk := clash_at hc (k := i - p.At.toNat) (by omega)
      unfold clashAt at hk
      rw [show p.At.toNat + (i - p.At.toNat) = i by omega, hth] at hk
      simp only [Bool.true_and, decide_eq_false_iff_not, ne_eq, Decidable.not_not] at hk
      have : D.b.getD i default = p.B.xs.getD (i - p.At.toNat) default := UInt8.toNat.inj (by omega)
      show some (D.b.getD i default) = some (p.B.xs.getD (i - p.At.toNat) default)
      rw [this]
    | false => simp [pd]
  · rw [decide_eq_false hin, if_neg hin]
    cases hth : D.there.getD i default with
    | true => simp
    | false => simp

theorem idx_props : ∀ {t : List Bool}, false ∈ t → t.idxOf false < t.length ∧ t.getD (t.idxOf false) default = false ∧ ∀ j, j < t.idxOf false → t.getD j default = true
  | false :: t, _ => by simp [List.idxOf_cons]
  | true :: t, h => by
    have h : false ∈ t := by simpa using h
    obtain ⟨h1, h2, h3⟩ := idx_props h
    have e : (true :: t).idxOf false = t.idxOf false + 1 := by simp [List.idxOf_cons]
    rw [e]
    refine ⟨by simp; omega, by simpa using h2, fun j hj => ?_⟩
    cases j with
    | zero => rfl
    | succ j => simpa using h3 j (by omega)
theorem there_true {t : List Bool} (h : false ∉ t) {j : Nat} (hj : j < t.length) : t.getD j default = true := by
  have hm := getD_mem t j hj
  cases hb : t.getD j default with
  | true => rfl
  | false => rw [hb] at hm; exact absurd hm h
theorem hr_missing {d : HD} {L : List PD} (h : HR d L) : missingI d = missD L := by
  have hl := h.hi.len1
  cases L with
  | nil =>
    obtain ⟨h1, h2⟩ := h.hi.off h.on
    unfold missingI; rw [h1, h2]; rfl
  | cons f r =>
    have hon : d.on = true := h.on
    have ht : (d.b.length : Int) = f.Total := (h.hi.tot hon).trans (h.head f r rfl).2.2
    have hn : f.Total.toNat = d.b.length := by omega
    show _ = ((missK (f :: r) f.Total.toNat : Nat) : Int)
    rw [hn]
    unfold missingI
    by_cases hm : false ∈ d.there
    · obtain ⟨h1, h2, h3⟩ := idx_props hm
      have e : idxB d.there false = (d.there.idxOf false : Int) := by unfold idxB; rw [if_pos hm]
      rw [e, if_pos (by omega), missK_at (k := d.there.idxOf false) (by omega)]
      · intro j hj; rw [h.bytes j (by omega), h3 j hj]; rfl
      · rw [h.bytes _ (by omega), h2]; rfl
    · have e : idxB d.there false = -1 := idxB_none hm
      rw [e, if_neg (by decide), missK_all]
      intro j hj; rw [h.bytes j hj, there_true hm (by omega)]; rfl
theorem hr_whole {d : HD} {L : List PD} (h : HR d L) : wholeD L = doneB d := by
  cases L with
  | nil => have h0 : d.on = false := h.on; unfold doneB; rw [h0]; rfl
  | cons f r =>
    have hon : d.on = true := h.on
    have hl := h.hi.len1
    have ht : (d.b.length : Int) = f.Total := (h.hi.tot hon).trans (h.head f r rfl).2.2
    have hc := h.hi.cnt
    unfold wholeD doneB
    rw [← hr_missing h, hon]
    show (!(false || decide (missingI d < f.Total))) = (true && decide (d.left = 0))
    rw [Bool.false_or, Bool.true_and, hc]
    unfold missingI
    by_cases hm : false ∈ d.there
    · obtain ⟨h1, h2, h3⟩ := idx_props hm
      have e : idxB d.there false = (d.there.idxOf false : Int) := by unfold idxB; rw [if_pos hm]
      have hp : 0 < d.there.count false := List.count_pos_iff.2 hm
      rw [e, if_pos (by omega), decide_eq_true (by omega), decide_eq_false (by omega)]; rfl
    · have hp : d.there.count false = 0 := List.count_eq_zero.2 hm
      rw [idxB_none hm, if_neg (by decide), decide_eq_false (by omega), decide_eq_true (by omega)]; rfl
theorem hr_bytes {d : HD} {L : List PD} (h : HR d L) (hd : doneB d = true) : bytesD L = d.b := by
  have hl := h.hi.len1
  have hc := h.hi.cnt
  unfold doneB at hd
  simp only [Bool.and_eq_true, decide_eq_true_eq] at hd
  obtain ⟨hon, hleft⟩ := hd
  cases L with
  | nil => have h0 : d.on = false := h.on; rw [h0] at hon; cases hon
  | cons f r =>
    have ht : (d.b.length : Int) = f.Total := (h.hi.tot hon).trans (h.head f r rfl).2.2
    have hm : false ∉ d.there := List.count_eq_zero.1 (by omega)
    have hn : (totD (f :: r)).toNat = d.b.length := by show f.Total.toNat = _; omega
    unfold bytesD
    rw [hn]
    refine List.ext_getElem (by simp) fun i h1 h2 => ?_
    simp only [List.getElem_map, List.getElem_range]
    rw [h.bytes i h2, there_true hm (by omega)]
    simp [List.getD, h2]
theorem wholeOk_eq {d : HD} (hi : HI d) : wholeOk d = doneB d := by
  have := hi.left_
  unfold wholeOk doneB
  cases d.on with
  | false => rfl
  | true =>
    by_cases h : d.left = 0
    · rw [decide_eq_true h, decide_eq_false (by omega)]; rfl
    · rw [decide_eq_false h, decide_eq_true (by omega)]; rfl
theorem hr_mark {d : HD} {L : List PD} (h : HR d L) : markOf d = match L with
    | [] => zMark
    | f :: _ => f.Mark := by
  cases L with
  | nil => have h0 : d.on = false := h.on; unfold markOf; rw [h0]; rfl
  | cons f r => have h0 : d.on = true := h.on; unfold markOf; rw [h0]; exact (h.head f r rfl).1
theorem clashR_nil {p : PD} : ∀ n, clashR [] p n = false
  | 0 => rfl
  | n + 1 => by simp only [clashR]; rw [clashR_nil n]; rfl
theorem hr_take {d : HD} {L : List PD} {p : Piece} (h : HR d L) (ht : p.Total ≤ 1000000000) :
    (takeF d p).2 = (takeR d.most L (pd p)).2 ∧ HR (takeF d p).1 (takeR d.most L (pd p)).1 ∧ (takeF d p).1.most = d.most := by
  cases hf : fitsB d.most p with
  | false =>
    have hb : badR d.most (pd p) = true := by rw [fits_bad] at hf; simpa using hf
    rw [take_arg hf, takeR_bad hb]; exact ⟨rfl, h, rfl⟩
  | true =>
    have hb : badR d.most (pd p) = false := by rw [fits_bad] at hf; simpa using hf
    cases hs : staleB d p with
    | true =>
      have hs2 := stale_eq (p := p) h
      rw [take_stale hf hs, takeR_stale hb (hs2.symm.trans hs)]; exact ⟨rfl, h, rfl⟩
    | false =>
      have hs2 := (stale_eq (p := p) h).symm.trans hs
      obtain ⟨b1, b2, b3, b4, b5, b6⟩ := begun_facts h.hi.toHOk ht hf hs
      obtain ⟨f1, f2, f3, f4, f5, f6, f7⟩ := fits_facts hf
      have hbb := hb_begun p h
      have hlen : p.At.toNat + p.B.xs.length ≤ (begunD d p).b.length := by omega
      have hce := clash_eq hbb f4 p.B.xs.length hlen
      have hmost : (begunD d p).most = d.most := by unfold begunD; split <;> rfl
      cases hc : clashB (begunD d p) p p.B.xs.length with
      | true =>
        have hc2 : clashR (keepR L (pd p)) (pd p) (pd p).B.length = true := hce.symm.trans hc
        rw [take_clash hf hs hc, takeR_clash hb hs2 hc2]
        refine ⟨rfl, ?_, hmost⟩
        rcases begun_cases p h with ⟨e1, e2, -⟩ | ⟨e1, e2⟩
        · show HR (begunD d p) (keepR L (pd p)); rw [e1, e2]; exact h
        · rw [e2, clashR_nil] at hc2; cases hc2
      | false =>
        have hc2 : clashR (keepR L (pd p)) (pd p) (pd p).B.length = false := hce.symm.trans hc
        have hr : HR (laidD (begunD d p) p) (keepR L (pd p) ++ [pd p]) := by
          refine ⟨hi_laid (hi_begun h.hi ht hf hs) b2 hlen, ?_, ?_, hb_laid hbb b1.len1 f4 hlen hc⟩
          · show (begunD d p).on = _; rw [b2]; cases keepR L (pd p) <;> rfl
          · intro f r e
            show (begunD d p).of.Mark = _ ∧ (begunD d p).of.Sum = _ ∧ (begunD d p).of.Total = _
            rcases begun_cases p h with ⟨e1, e2, e3⟩ | ⟨e1, e2⟩
            · rw [e2] at e
              cases L with
              | nil => exact absurd rfl e3
              | cons f' r' =>
                have : f' = f := by injection e
                subst this
                rw [e1]; exact h.head f' r' rfl
            · rw [e2] at e
              have : pd p = f := by injection e
              subst this
              exact ⟨b6, b5, b4⟩
        have hw := hr_whole hr
        have hon : (laidD (begunD d p) p).on = true := b2
        have hos : (laidD (begunD d p) p).of.Sum = p.Sum := b5
        rw [take_done hf hs hc]
        unfold doneD
        by_cases hl : (laidD (begunD d p) p).left = 0
        · have hdb : doneB (laidD (begunD d p) p) = true := by unfold doneB; rw [hon, decide_eq_true hl]; rfl
          have hby := hr_bytes hr hdb
          by_cases hsum : ((sumB (laidD (begunD d p) p).b).toNat : Int) = ((laidD (begunD d p) p).of.Sum.toNat : Int)
          · rw [if_neg (by rw [decide_eq_true hsum]; simp), takeR_ok hb hs2 hc2 (.inr (by rw [hby, hsum, hos]; rfl))]
            exact ⟨rfl, hr, hmost⟩
          · rw [if_pos (by rw [decide_eq_true hl, decide_eq_false hsum]; rfl), takeR_sum hb hs2 hc2 (hw.trans hdb) (by rw [hby]; rw [hos] at hsum; exact hsum)]
            exact ⟨rfl, hr_new (by show (laidD (begunD d p) p).most ≤ _; exact hr.hi.most), hmost⟩
        · have hdb : doneB (laidD (begunD d p) p) = false := by unfold doneB; rw [decide_eq_false hl, Bool.and_false]
          rw [if_neg (by rw [decide_eq_false hl]; simp), takeR_ok hb hs2 hc2 (.inl (hw.trans hdb))]
          exact ⟨rfl, hr, hmost⟩

theorem takes_one (d : HD) (p : Piece) : takesF d [p] = ((takeF d p).1, doneB (takeF d p).1, (takeF d p).2) := by
  simp only [takesF]
  split
  · rename_i h; rw [h]
  · rfl
def markL : List PD → Mark
  | [] => zMark
  | f :: _ => f.Mark
theorem markL_map {L : List Piece} (h : 0 < L.length) : markL (L.map pd) = (L.getD 0 default).Mark := by rw [map_cons0 h]; rfl
theorem hr_markL {d : HD} {L : List PD} (h : HR d L) : markOf d = markL L := by
  rw [hr_mark h]; cases L <;> rfl
theorem keepR_len (L : List PD) (p : PD) : (keepR L p).length ≤ L.length := by
  cases L with
  | nil => exact Nat.le_refl _
  | cons f r => simp only [keepR]; split <;> simp
theorem takeR_len (m : Int) (L : List PD) (p : PD) : (takeR m L p).1.length ≤ L.length + 1 := by
  have := keepR_len L p
  unfold takeR
  split
  · simp
  · split
    · simp
    · split
      · simp only []; omega
      · split
        · simp
        · simp; omega
end Go.Chk

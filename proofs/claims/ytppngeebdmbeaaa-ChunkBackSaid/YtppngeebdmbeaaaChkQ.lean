/-
  Cutting bytes, and heaps that take many pieces: plain.
-/
import Derived.Test.YtppngeebdmbeaaaChkP
import Derived.Test.YtppngeebdmbeaaaSlP
namespace Go.Chk
open Go Go.SL Go.Sum
def cdiv (l n : Nat) : Nat := (l + n - 1) / n
theorem lt_cdiv {l n k : Nat} (h : 1 ≤ n) : k < cdiv l n ↔ k * n < l := by
  unfold cdiv
  rw [Nat.lt_div_iff_mul_lt (by omega)]
  omega
theorem cdiv_le (l n : Nat) : cdiv l n ≤ l := by
  rcases Nat.eq_zero_or_pos n with h | h
  · subst h; simp [cdiv]
  · rcases Nat.lt_or_ge l (cdiv l n) with h2 | h2
    · have := (lt_cdiv h).1 h2
      have := Nat.le_mul_of_pos_right l h
      omega
    · exact h2
def partV (a : Option Addr) (l n k : Nat) : List Value := [.slice (sh a (min l (k * n + n)) (k * n) 1) (min l (k * n + n) - k * n) (min l (k * n + n) - k * n)]
def partsV (a : Option Addr) (l n : Nat) : List (List Value) := (List.range (cdiv l n)).map (partV a l n)
theorem partsV_len (a : Option Addr) (l n : Nat) : (partsV a l n).length = cdiv l n := by simp [partsV]
theorem partsV_get (a : Option Addr) (l n k : Nat) (hk : k < (partsV a l n).length) : (partsV a l n)[k] = partV a l n k := by simp [partsV]
deriving instance DecidableEq for Mark
/-- a piece, but for where its bytes lie -/
structure PD where
  Mark : Mark
  Sum : BitVec 32
  Total : Int
  At : Int
  B : List UInt8
deriving DecidableEq
def pd (p : Piece) : PD := ⟨p.Mark, p.Sum, p.Total, p.At, p.B.xs⟩
def rowP (T : TypeId) (p : Piece) : Asn := .row T 1 p.B.a p.B.xs.length p.B.cap (p.B.xs.flatMap encB)
def pieceAt (m : Mark) (b : List UInt8) (n k : Nat) : PD := ⟨m, sumB b, b.length, ((min b.length (k * n) : Nat) : Int), (b.take (min b.length (k * n + n))).drop (k * n)⟩
def cutK (m : Mark) (b : List UInt8) (n k : Nat) : List PD := (List.range k).map (pieceAt m b n)
def cutF (m : Mark) (b : List UInt8) (size : Int) : List PD := cutK m b (min size.toNat b.length) (max 1 (cdiv b.length (min size.toNat b.length)))
def cutOk (m : Mark) (size : Int) : Bool := rightB m && decide (1 ≤ size)
theorem cutK_succ (m : Mark) (b : List UInt8) (n k : Nat) : cutK m b n (k + 1) = cutK m b n k ++ [pieceAt m b n k] := by simp [cutK, List.range_succ]
theorem cutF_nil (m : Mark) (size : Int) : cutF m [] size = [⟨m, sumB [], 0, 0, []⟩] := by simp [cutF, cutK, cdiv, pieceAt]
theorem cutF_pos (m : Mark) (b : List UInt8) (size : Int) (h : 1 ≤ size) (hb : 0 < b.length) : cutF m b size = cutK m b (min size.toNat b.length) (cdiv b.length (min size.toNat b.length)) := by
  have : 0 < cdiv b.length (min size.toNat b.length) := (lt_cdiv (by omega)).2 (by omega)
  unfold cutF; rw [Nat.max_eq_right (by omega)]
theorem cut_at (l N k : Nat) (h : k * N < l) : min l (k * N) + (min l (k * N + N) - k * N) = min l ((k + 1) * N) := by rw [Nat.add_one_mul]; omega
/-- the cutting's state -/
structure CY where
  ps : List Piece
  a : Option Addr
  c : Nat
  l : SL UInt8
  at_ : Int
instance : Inhabited CY := ⟨⟨[], none, 0, ⟨none, [], 0⟩, 0⟩⟩
def cy0 : CY := ⟨[], none, 0, ⟨none, [], 0⟩, 0⟩
def CutJ (m : Mark) (b : List UInt8) (n k : Nat) (y : CY) : Prop := y.at_ = ((min b.length (k * n) : Nat) : Int) ∧ y.ps.map pd = cutK m b n k
theorem cutJ0 (m : Mark) (b : List UInt8) (n : Nat) : CutJ m b n 0 cy0 := ⟨by simp [cy0], by simp [cy0, cutK]⟩
theorem CutJ.len {m : Mark} {b : List UInt8} {n k : Nat} {y : CY} (h : CutJ m b n k y) : y.ps.length = k := by
  have := congrArg List.length h.2
  simpa [cutK] using this

def cutE (m : Mark) (size : Int) : Int := if cutOk m size = true then 0 else 2
def cutG (m : Mark) (b : List UInt8) (size : Int) : List PD := if cutOk m size = true then cutF m b size else []
theorem pd_getD {k : Nat} {l l' : List Piece} (h : l.map pd = l'.map pd) (hk : k < l.length) : pd (l.getD k default) = pd (l'.getD k default) := by
  have hl : l.length = l'.length := by simpa using congrArg List.length h
  have e : ∀ q : List Piece, k < q.length → (q.map pd)[k]? = some (pd (q.getD k default)) := fun q hq => by
    rw [List.getElem?_map, List.getElem?_eq_getElem hq]; simp [List.getD, hq]
  have := (e l hk).symm.trans ((congrArg (·[k]?) h).trans (e l' (by omega)))
  exact Option.some.inj this
/-! ### Heaps that take many -/
structure HI (d : HD) : Prop extends HOk d where
  cnt : d.left = (d.there.count false : Int)
  off : d.on = false → d.b = [] ∧ d.there = []
theorem count_le {l : List Bool} : l.count false ≤ l.length := List.count_le_length
theorem hi_new {m : Int} (h : m ≤ 9223372036854775807) : HI (newD m) := ⟨⟨h, rfl, fun h => (by cases h), (by simp [newD]), (by simp [newD])⟩, rfl, fun _ => ⟨rfl, rfl⟩⟩
theorem marks_cnt (t : List Bool) (l : Int) (a : Nat) (hl : l = (t.count false : Int)) : ∀ k, a + k ≤ t.length → (marks t l a k).2 = ((marks t l a k).1.count false : Int)
  | 0, _ => hl
  | k + 1, h => by
    have ih := marks_cnt t l a hl k (by omega)
    have hlen := marks_len t l a k
    have hk : a + k < (marks t l a k).1.length := by omega
    have e : (marks t l a k).1.getD (a + k) default = (marks t l a k).1[a + k] := by simp [List.getD, hk]
    simp only [marks]
    rw [List.count_set hk, e, ih]
    have hle : (marks t l a k).1.count false ≤ (marks t l a k).1.length := count_le
    cases hb : (marks t l a k).1[a + k] with
    | true => simp
    | false =>
      have : 0 < (marks t l a k).1.count false := List.count_pos_iff.2 (by rw [← hb]; exact List.getElem_mem hk)
      simp; omega
theorem hi_begun {d : HD} {p : Piece} (hi : HI d) (ht : p.Total ≤ 1000000000) (h : fitsB d.most p = true) (h2 : staleB d p = false) : HI (begunD d p) := by
  refine ⟨(begun_facts hi.toHOk ht h h2).1, ?_, ?_⟩
  · have := (fits_facts h).2.1
    unfold begunD
    split
    · simp; omega
    · exact hi.cnt
  · intro ho
    rw [(begun_facts hi.toHOk ht h h2).2.1] at ho
    cases ho
theorem hi_laid {d : HD} {p : Piece} (hi : HI d) (hon : d.on = true) (h : p.At.toNat + p.B.xs.length ≤ d.b.length) : HI (laidD d p) := by
  have hl := hi.len1
  have hc := marks_cnt d.there d.left p.At.toNat hi.cnt p.B.xs.length (by omega)
  have hm := marks_len d.there d.left p.At.toNat p.B.xs.length
  have hs := hi.small
  have hbl : (laidD d p).b.length = d.b.length := by simp [laidD]; omega
  have hcl : (marks d.there d.left p.At.toNat p.B.xs.length).1.count false ≤ (marks d.there d.left p.At.toNat p.B.xs.length).1.length := count_le
  refine ⟨⟨hi.most, ?_, ?_, ?_, ?_⟩, hc, ?_⟩
  · rw [hbl]; simp only [laidD]; rw [hm]; exact hl
  · intro _; rw [hbl]; exact hi.tot hon
  · rw [hbl]; exact hs
  · simp only [laidD]; rw [hc]; omega
  · intro ho; simp only [laidD] at ho; rw [hon] at ho; cases ho
theorem hi_done {d : HD} (hi : HI d) : HI (doneD d).1 := by
  unfold doneD
  split
  · exact hi_new hi.most
  · exact hi
theorem hi_take {d : HD} {p : Piece} (hi : HI d) (ht : p.Total ≤ 1000000000) : HI (takeF d p).1 := by
  unfold takeF
  split
  · exact hi
  · rename_i h1
    have h1 : fitsB d.most p = true := by simpa using h1
    split
    · exact hi
    · rename_i h2
      have h2 : staleB d p = false := by simpa using h2
      have hb := hi_begun hi ht h1 h2
      split
      · exact hb
      · obtain ⟨b1, b2, b3, -⟩ := begun_facts hi.toHOk ht h1 h2
        obtain ⟨f1, f2, f3, f4, f5, f6, f7⟩ := fits_facts h1
        exact hi_done (hi_laid hb b2 (by omega))
def doneB (d : HD) : Bool := d.on && decide (d.left = 0)
def takesF (d : HD) : List Piece → HD × Bool × Int
  | [] => (d, doneB d, 0)
  | p :: ps => if (takeF d p).2 = 0 then takesF (takeF d p).1 ps else ((takeF d p).1, doneB (takeF d p).1, (takeF d p).2)
theorem drop_getD {α : Type} [Inhabited α] {l : List α} {k : Nat} (hk : k < l.length) : l.drop k = l.getD k default :: l.drop (k + 1) := by
  rw [List.drop_eq_getElem_cons hk]; simp [List.getD, hk]
theorem takes_step {d : HD} {l : List Piece} {k : Nat} (hk : k < l.length) (h : (takeF d (l.getD k default)).2 = 0) : takesF d (l.drop k) = takesF (takeF d (l.getD k default)).1 (l.drop (k + 1)) := by
  rw [drop_getD hk]; simp only [takesF]; rw [if_pos h]
theorem takes_stop {d : HD} {l : List Piece} {k : Nat} (hk : k < l.length) (h : (takeF d (l.getD k default)).2 ≠ 0) : takesF d (l.drop k) = ((takeF d (l.getD k default)).1, doneB (takeF d (l.getD k default)).1, (takeF d (l.getD k default)).2) := by
  rw [drop_getD hk]; simp only [takesF]; rw [if_neg h]

/-! ### The document's -/
def rightR (m : Mark) : Bool := decide (0 < m.Index) && decide (0 < m.Term) && decide (m.Index < 10000000000) && decide (m.Term < 10000000000)
theorem rightR_eq (m : Mark) : rightR m = rightB m := by
  have h (a : Int) : decide (0 < a) = decide (1 ≤ a) := by rw [Bool.eq_iff_iff]; simp only [decide_eq_true_eq]; omega
  unfold rightR rightB; rw [h, h]
theorem cut_small {k l : Nat} {size : Int} (h : 1 ≤ size) (hk : k = 0 ∨ k * (min size.toNat l) < l) : min l (k * (min size.toNat l) + min size.toNat l) - k * (min size.toNat l) = min (l - min l (k * (min size.toNat l))) size.toNat := by
  rcases Nat.le_total size.toNat l with hs | hs
  · rw [Nat.min_eq_left hs] at hk ⊢
    rcases hk with rfl | hk
    · simp
    · omega
  · rw [Nat.min_eq_right hs] at hk ⊢
    have hk0 : k = 0 := by
      rcases hk with hk | hk
      · exact hk
      · rcases Nat.eq_zero_or_pos k with h0 | h0
        · exact h0
        · have := Nat.le_mul_of_pos_left l h0; omega
    subst hk0; simp; omega
def CutR (m : Mark) (b : List UInt8) (size : Int) (y : CY) : Prop :=
  CutJ m b (min size.toNat b.length) y.ps.length y ∧ y.ps.length ≤ max 1 (cdiv b.length (min size.toNat b.length))
theorem cutR0 (m : Mark) (b : List UInt8) (size : Int) : CutR m b size cy0 := ⟨cutJ0 m b _, Nat.zero_le _⟩
theorem CutR.pos {m : Mark} {b : List UInt8} {size : Int} {y : CY} (h : CutR m b size y) (hs : 1 ≤ size) (hc : y.ps.length = 0 ∨ y.at_ < (b.length : Int)) :
    y.ps.length + 1 ≤ max 1 (cdiv b.length (min size.toNat b.length)) ∧ (y.ps.length = 0 ∨ y.ps.length * (min size.toNat b.length) < b.length) := by
  rcases hc with hc | hc
  · exact ⟨by omega, .inl hc⟩
  · rw [h.1.1] at hc
    have h1 : y.ps.length * (min size.toNat b.length) < b.length := by omega
    refine ⟨?_, .inr h1⟩
    have := (lt_cdiv (l := b.length) (n := min size.toNat b.length) (k := y.ps.length) (by omega)).2 h1
    omega
theorem CutR.fin {m : Mark} {b : List UInt8} {size : Int} {y : CY} (h : CutR m b size y) (hs : 1 ≤ size) (hc : ¬ (y.ps.length = 0 ∨ y.at_ < (b.length : Int))) : y.ps.map pd = cutF m b size := by
  rw [h.1.1] at hc
  have hk : y.ps.length = max 1 (cdiv b.length (min size.toNat b.length)) := by
    have h2 := h.2
    rcases Nat.eq_zero_or_pos b.length with h0 | h0
    · have : cdiv b.length (min size.toNat b.length) = 0 := by rw [h0]; simp [cdiv]
      omega
    · have := (lt_cdiv (l := b.length) (n := min size.toNat b.length) (k := y.ps.length) (by omega))
      omega
  rw [h.1.2, hk]; rfl
theorem CutR.next {m : Mark} {b : List UInt8} {size : Int} {y : CY} (h : CutR m b size y) (hs : 1 ≤ size) (hc : y.ps.length = 0 ∨ y.at_ < (b.length : Int)) (a a' : Option Addr) (c c' : Nat) (l : SL UInt8) :
    CutR m b size ⟨y.ps ++ [⟨m, sumB b, b.length, y.at_, ⟨a, (b.take (min b.length (y.ps.length * (min size.toNat b.length) + min size.toNat b.length))).drop (y.ps.length * (min size.toNat b.length)), c⟩⟩], a', c', l, y.at_ + (((b.take (min b.length (y.ps.length * (min size.toNat b.length) + min size.toNat b.length))).drop (y.ps.length * (min size.toNat b.length))).length : Int)⟩ := by
  obtain ⟨h1, h2⟩ := h.pos hs hc
  have hle : y.ps.length * (min size.toNat b.length) ≤ b.length := by rcases h2 with h2 | h2 <;> first | (rw [h2]; omega) | omega
  have hl : (y.ps ++ [(⟨m, sumB b, b.length, y.at_, ⟨a, (b.take (min b.length (y.ps.length * (min size.toNat b.length) + min size.toNat b.length))).drop (y.ps.length * (min size.toNat b.length)), c⟩⟩ : Piece)]).length = y.ps.length + 1 := by simp
  refine ⟨?_, by show List.length (_ ++ _) ≤ _; rw [hl]; exact h1⟩
  show CutJ m b _ (List.length (_ ++ _)) _
  rw [hl]
  refine ⟨?_, ?_⟩
  · show y.at_ + _ = _
    rw [h.1.1, ← Int.natCast_add, List.length_drop, List.length_take, Nat.add_one_mul]
    congr 1; omega
  · show List.map pd (_ ++ _) = _
    rw [List.map_append, h.1.2, cutK_succ]
    simp only [List.map_cons, List.map_nil, pd, pieceAt]
    rw [h.1.1]
def sameB (a b : Piece) : Bool := decide ([a.Mark.Index, a.Mark.Term] = [b.Mark.Index, b.Mark.Term]) && decide ((a.Sum.toNat : Int) = b.Sum.toNat) && decide (a.Total = b.Total) && decide (a.At = b.At) && decide (a.B.xs = b.B.xs)
theorem same_pd {a b : Piece} (h : pd a = pd b) : sameB a b = true := by
  unfold pd at h
  injection h with h1 h2 h3 h4 h5
  unfold sameB; rw [h1, h2, h3, h4, h5]; simp

theorem hi_takes : ∀ (ps : List Piece) {d : HD}, HI d → (∀ p ∈ ps, p.Total ≤ 1000000000) → HI (takesF d ps).1
  | [], _, h, _ => h
  | p :: ps, d, h, ht => by
    simp only [takesF]
    split
    · exact hi_takes ps (hi_take h (ht p (by simp))) (fun q hq => ht q (by simp [hq]))
    · exact hi_take h (ht p (by simp))
theorem pd_eq {p : Piece} {m : Mark} {s : BitVec 32} {t a : Int} {b : List UInt8} (h : pd p = ⟨m, s, t, a, b⟩) : ∃ q c, p = ⟨m, s, t, a, ⟨q, b, c⟩⟩ := by
  obtain ⟨m1, s1, t1, a1, ⟨q, x, c⟩⟩ := p
  unfold pd at h
  injection h with h1 h2 h3 h4 h5
  subst h1; subst h2; subst h3; subst h4; subst h5
  exact ⟨q, c, rfl⟩
theorem pds3 {ps : List Piece} {a b c : PD} (h : ps.map pd = [a, b, c]) : ∃ x y z, ps = [x, y, z] ∧ pd x = a ∧ pd y = b ∧ pd z = c := by
  match ps, h with
  | [x, y, z], h =>
    simp only [List.map_cons, List.map_nil, List.cons.injEq, and_true] at h
    exact ⟨x, y, z, rfl, h⟩
section
variable {P : Program} {E : World} {ρ : Hp} {n : Fz} {σ : Slots} {Γ : List Asn} {K : Act → World → Prop}
theorem t_hb {D : HD} {X : HX} {t u : TypeId} (hi : HI D) (p : Pick (.row t 1 X.a1 X.n1 X.c1 (D.b.flatMap encB)) [.row t 1 X.a1 X.n1 X.c1 (D.b.flatMap encB)] Γ Γ) (q : Pick (.row u 1 X.a2 X.n2 X.c2 (D.there.flatMap encO)) [.row u 1 X.a2 X.n2 X.c2 (D.there.flatMap encO)] Γ Γ)
    (k : X.n1 ≤ 1000000000 → X.n2 ≤ 1000000000 → X.n1 = D.b.length → Tr E ρ n σ Γ K) : Tr E ρ n σ Γ K := by
  refine t_rd (rd_row p) fun h1 _ _ _ => ?_
  refine t_rd (rd_row q) fun h2 _ _ _ => ?_
  have e1 := lenz h1 (fun _ => rfl) (by decide)
  have e2 := lenz h2 (fun _ => rfl) (by decide)
  have := hi.small
  have := hi.len1
  exact k (by omega) (by omega) e1.symm
end
end Go.Chk

/- part -/
import Derived.Test.YtijldgggjioccaaGreatDoorShfP
set_option linter.unusedVariables false
set_option linter.unusedSimpArgs false
namespace Go.Shf
open Go Go.SL Go.Mou Go.Dsk Go.Sm Go.Hrd
def wrX (room calls : Int) (V : FV) (x : PSnap) : Int × FV × Int :=
  if (appR room calls V aside (snB x)).1 ≠ 0 then ((appR room calls V aside (snB x)).1, (appR room calls V aside (snB x)).2, decC calls)
  else if (syncR (decC calls) (appR room calls V aside (snB x)).2 [aside]).1 ≠ 0 then ((syncR (decC calls) (appR room calls V aside (snB x)).2 [aside]).1, (syncR (decC calls) (appR room calls V aside (snB x)).2 [aside]).2, decC (decC calls))
  else ((renR (decC (decC calls)) (syncR (decC calls) (appR room calls V aside (snB x)).2 [aside]).2 aside (nameX x.ix.toNat)).1, (renR (decC (decC calls)) (syncR (decC calls) (appR room calls V aside (snB x)).2 [aside]).2 aside (nameX x.ix.toNat)).2, decC (decC (decC calls)))
def badX (has : Bool) (top x : PSnap) : Bool := !rightM x.ix x.tm || (has && decide (x.ix ≤ top.ix))
def putX (room calls : Int) (V : FV) (has : Bool) (top x : PSnap) : Int × FV × Int :=
  if badX has top x = true then (2, V, calls)
  else if (remS calls V aside).1 ≠ 0 then remS calls V aside
  else wrX room (remS calls V aside).2.2 (remS calls V aside).2.1 x
def stepX (V : FV) (a : PSnap × Bool) (f : Nm) : PSnap × Bool := match namedX f with
  | none => a
  | some n => if (parseX (mgetD V f zF).1).1 = 0 ∧ (parseX (mgetD V f zF).1).2.ix = n then ((parseX (mgetD V f zF).1).2, true) else a
def newX (V : FV) : PSnap × Bool := (sortS (mkeys V)).foldl (stepX V) (zPS, false)
def oldX (has : Bool) (top : PSnap) (f : Nm) : Bool := match namedX f with
  | none => false
  | some n => has && decide (n < top.ix)
def cleanL (has : Bool) (top : PSnap) : List Nm → Int → FV → Int × FV × Int
  | [], calls, V => (0, V, calls)
  | f :: l, calls, V => if oldX has top f = true then (if (remR calls V [f]).1 ≠ 0 then ((remR calls V [f]).1, (remR calls V [f]).2, decC calls) else cleanL has top l (decC calls) (remR calls V [f]).2) else cleanL has top l calls V
def cleanX (calls : Int) (V : FV) (has : Bool) (top : PSnap) : Int × FV × Int :=
  if (cleanL has top (sortS (mkeys V)) calls V).1 ≠ 0 then cleanL has top (sortS (mkeys V)) calls V
  else remS (cleanL has top (sortS (mkeys V)) calls V).2.2 (cleanL has top (sortS (mkeys V)) calls V).2.1 aside
def nm2 (i : Nat) : Nm := [115, 110, 97, 112, 45, 48, 48, 48, 48, 48, 48, 48, 48, UInt8.ofNat (48 + i / 10), UInt8.ofNat (48 + i % 10)]
theorem nameX_two {i : Nat} (h : i < 100) : nameX i = nm2 i := by
  unfold nameX
  by_cases h10 : i < 10
  · have e : Lib.decDigits i = [UInt8.ofNat (48 + i)] := by rw [Lib.decDigits, dif_pos h10]
    have e1 : i / 10 = 0 := by omega
    have e2 : i % 10 = i := by omega
    rw [e]; unfold nm2; rw [e1, e2]; rfl
  · have e : Lib.decDigits i = [UInt8.ofNat (48 + i / 10), UInt8.ofNat (48 + i % 10)] := by
      rw [Lib.decDigits, dif_neg h10, Lib.decDigits, dif_pos (by omega)]; rfl
    rw [e]; rfl
theorem nm2_named : ∀ i : Fin 100, namedX (nm2 i) = some ((i : Nat) : Int) := by decide +kernel
theorem nm2_nameB : ∀ i : Fin 100, nameB (nm2 i) = true := by decide +kernel
theorem nm2_lt : ∀ i j : Fin 100, i < j → nm2 i < nm2 j := by decide +kernel
theorem nm2_aside : ∀ i : Fin 100, nm2 i ≠ aside := by decide +kernel
theorem aside_named : namedX aside = none := by decide +kernel
theorem aside_nameB : nameB aside = true := by decide +kernel
theorem name_named {i : Nat} (h : i < 100) : namedX (nameX i) = some (i : Int) := by rw [nameX_two h]; exact nm2_named ⟨i, h⟩
theorem name_nameB {i : Nat} (h : i < 100) : nameB (nameX i) = true := by rw [nameX_two h]; exact nm2_nameB ⟨i, h⟩
theorem name_lt {i j : Nat} (h : j < 100) (hij : i < j) : nameX i < nameX j := by
  rw [nameX_two h, nameX_two (show i < 100 by omega)]; exact nm2_lt ⟨i, by omega⟩ ⟨j, h⟩ hij
theorem name_aside {i : Nat} (h : i < 100) : nameX i ≠ aside := by rw [nameX_two h]; exact nm2_aside ⟨i, h⟩
theorem name_inj {i j : Nat} (hi : i < 100) (hj : j < 100) (e : nameX i = nameX j) : i = j := by
  have h1 := name_named hi; rw [e, name_named hj] at h1; simp only [Option.some.injEq] at h1; omega
structure XOk (x : PSnap) : Prop where
  i1 : 1 ≤ x.ix
  i2 : x.ix ≤ 99
  t1 : 1 ≤ x.tm
  t2 : x.tm ≤ 1000
  cf : x.conf.length ≤ 1
  bd : x.body.length ≤ 1000
theorem XOk.right {x : PSnap} (h : XOk x) : rightM x.ix x.tm = true := by
  have h1 := h.i1; have h2 := h.i2; have h3 := h.t1; have h4 := h.t2; unfold rightM; rw [decide_eq_true h1, decide_eq_true h3, decide_eq_true (show x.ix < 10000000000 by omega), decide_eq_true (show x.tm < 10000000000 by omega)]; rfl
theorem cnt_back (c : List UInt8) (r : List UInt8) (h : c.length < 18446744073709551616) : cntT true (numF c.length ++ (c ++ r)) = .ok (c.length, c ++ r) := by
  unfold cntT; rw [numT_numF h]; simp only; rw [if_neg (by rw [List.length_append]; omega), if_neg (fun q => by cases q.1)]
theorem body_back {x : PSnap} (h : XOk x) : takeF sh4 (bodyX x) = .ok (pvX x, []) := by
  have h1 := h.i1; have h2 := h.i2; have h3 := h.t1; have h4 := h.t2; have h5 := h.cf; have h6 := h.bd; have e : bodyX x = numF x.ix.toNat ++ (numF x.tm.toNat ++ (numF x.conf.length ++ (x.conf ++ (numF x.body.length ++ (x.body ++ []))))) := by rw [bodyX_eq]; simp
  rw [e]; unfold sh4; simp only [takeF, takes, numT_numF (show x.ix.toNat < 18446744073709551616 by omega), numT_numF (show x.tm.toNat < 18446744073709551616 by omega), cnt_back x.conf _ (show x.conf.length < 18446744073709551616 by omega), List.take_left, List.drop_left, cnt_back x.body [] (show x.body.length < 18446744073709551616 by omega), List.nil_append, List.cons_append]; rfl
theorem parse_back {x : PSnap} (h : XOk x) : parseX (snB x) = (0, x) := by
  have h1 := h.i1; have h2 := h.i2; have h3 := h.t1; have h4 := h.t2; have hd : (snB x).drop 4 = bodyX x := rfl
  have hv : valX (pvX x) = x := by
    cases x
    simp only [valX, pvX, PV.L, PV.N, PV.B, List.getD_cons_zero, List.getD_cons_succ] at *
    congr 1 <;> omega
  have ht : RTake sh4 ((snB x).drop 4) (pvX x) 0 := .inl ⟨by rw [hd]; exact body_back h, rfl⟩
  have hb : bigX (pvX x) = false := by
    unfold bigX; show (decide (10000000000 ≤ x.ix.toNat) || decide (10000000000 ≤ x.tm.toNat)) = false; rw [decide_eq_false (by omega), decide_eq_false (by omega)]; rfl
  have := px_ok (b := snB x) (by simp [snB, wB]) (by rw [hd]; exact (beW_wB _).symm) ht rfl hb (by rw [hv]; exact h.right); rw [this, hv]
theorem snB_len {x : PSnap} (h : XOk x) : (snB x).length ≤ 1100 := by
  have h1 := h.i1; have h2 := h.i2; have h3 := h.t1; have h4 := h.t2; have h5 := h.cf; have h6 := h.bd; have a1 := numF_le (n := x.ix.toNat) (by omega); have a2 := numF_le (n := x.tm.toNat) (by omega); have a3 := numF_le (n := x.conf.length) (by omega); have a4 := numF_le (n := x.body.length) (by omega); unfold snB wB; rw [bodyX_eq]; simp only [List.length_append, List.length_cons, List.length_nil]; omega
end Go.Shf

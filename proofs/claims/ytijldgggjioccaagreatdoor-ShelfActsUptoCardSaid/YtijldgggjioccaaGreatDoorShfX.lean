/- part -/
import Derived.Test.YtijldgggjioccaaGreatDoorShfC
import Derived.Test.YtijldgggjioccaaGreatDoorShfW
set_option linter.unusedVariables false
set_option linter.unusedSimpArgs false
namespace Go.Shf
open Go Go.SL Go.Mou Go.Dsk Go.Sm Go.Hrd
theorem names_len {T : FT} (h : FOk T) : ∀ f ∈ sortS (mkeys (vw T)), f.length ≤ 32 := fun f hf => by
  have h1 := sortS_mem.1 hf; obtain ⟨p, hp, rfl⟩ := List.mem_map.1 h1; exact (Go.Dsk.fok.1 h).nm p hp
section
variable {room calls : Int} {V : FV} {has : Bool} {top x : PSnap}
theorem pu_bad (h : badX has top x = true) : putX room calls V has top x = (2, V, calls) := if_pos h
theorem pu_rem (h : badX has top x = false) (h1 : (remS calls V aside).1 ≠ 0) : putX room calls V has top x = remS calls V aside := by unfold putX; rw [if_neg (by rw [h]; decide), if_pos h1]
theorem pu_wr (h : badX has top x = false) (h1 : (remS calls V aside).1 = 0) : putX room calls V has top x = wrX room (remS calls V aside).2.2 (remS calls V aside).2.1 x := by unfold putX; rw [if_neg (by rw [h]; decide), if_neg (fun q => q h1)]
theorem wx_app (h : (appR room calls V aside (snB x)).1 ≠ 0) : wrX room calls V x = ((appR room calls V aside (snB x)).1, (appR room calls V aside (snB x)).2, decC calls) := if_pos h
theorem wx_syn (h : (appR room calls V aside (snB x)).1 = 0) (h1 : (syncR (decC calls) (appR room calls V aside (snB x)).2 [aside]).1 ≠ 0) : wrX room calls V x = ((syncR (decC calls) (appR room calls V aside (snB x)).2 [aside]).1, (syncR (decC calls) (appR room calls V aside (snB x)).2 [aside]).2, decC (decC calls)) := by
  unfold wrX; rw [if_neg (fun q => q h), if_pos h1]
theorem wx_ren (h : (appR room calls V aside (snB x)).1 = 0) (h1 : (syncR (decC calls) (appR room calls V aside (snB x)).2 [aside]).1 = 0) : wrX room calls V x = ((renR (decC (decC calls)) (syncR (decC calls) (appR room calls V aside (snB x)).2 [aside]).2 aside (nameX x.ix.toNat)).1, (renR (decC (decC calls)) (syncR (decC calls) (appR room calls V aside (snB x)).2 [aside]).2 aside (nameX x.ix.toNat)).2, decC (decC (decC calls))) := by
  unfold wrX; rw [if_neg (fun q => q h), if_neg (fun q => q h1)]
theorem bad_yes (h : rightM x.ix x.tm = false ∨ has = true ∧ x.ix ≤ top.ix) : badX has top x = true := by
  unfold badX
  rcases h with h | ⟨h, h2⟩
  · rw [h]; rfl
  · rw [h, decide_eq_true h2]; simp
theorem bad_no (h : rightM x.ix x.tm = true) (h2 : (has && decide (x.ix ≤ top.ix)) = false) : badX has top x = false := by unfold badX; rw [h, h2]; rfl
theorem vok_syn1 {o : Nm} {c : Int} (ho : o.length ≤ 32) (hV : VOk V) : VOk (syncR c V [o]).2 := by
  unfold syncR
  split
  · exact hV
  · split
    · exact hV
    · rename_i hh
      simp only [List.foldl_cons, List.foldl_nil]; unfold syncStep; have hm : mhas V o = true := by simpa using hh
      have hu := get_set V o ((mgetD V o zF).1, ((mgetD V o zF).1.length : Int)); have h5 := hV.us; have e9 : (((mgetD V o zF).1, ((mgetD V o zF).1.length : Int)) : List UInt8 × Int).1 = (mgetD V o zF).1 := rfl; rw [e9] at hu; exact vok_set hV ho (.inl hm) ⟨by omega, Int.le_refl _⟩ (by omega)
theorem name_len {i : Nat} (h : i < 100) : (nameX i).length ≤ 15 := by rw [nameX_two h]; exact Nat.le_refl 15
theorem cl_go {f : Nm} {l : List Nm} (h : oldX has top f = false) : cleanL has top (f :: l) calls V = cleanL has top l calls V := by rw [cleanL, if_neg (by rw [h]; decide)]
theorem cl_err {f : Nm} {l : List Nm} (h : oldX has top f = true) (h1 : (remR calls V [f]).1 ≠ 0) : cleanL has top (f :: l) calls V = ((remR calls V [f]).1, (remR calls V [f]).2, decC calls) := by rw [cleanL, if_pos h, if_pos h1]
theorem cl_rem {f : Nm} {l : List Nm} (h : oldX has top f = true) (h1 : (remR calls V [f]).1 = 0) : cleanL has top (f :: l) calls V = cleanL has top l (decC calls) (remR calls V [f]).2 := by rw [cleanL, if_pos h, if_neg (fun q => q h1)]
theorem old_eq {f : Nm} : oldX has top f = ((namB f && has) && decide (namN f < top.ix)) := by
  unfold oldX namB namN
  cases namedX f with
  | none => rfl
  | some n => rfl
theorem clx_err (h : (cleanL has top (sortS (mkeys V)) calls V).1 ≠ 0) : cleanX calls V has top = cleanL has top (sortS (mkeys V)) calls V := if_pos h
theorem clx_ok (h : (cleanL has top (sortS (mkeys V)) calls V).1 = 0) : cleanX calls V has top = remS (cleanL has top (sortS (mkeys V)) calls V).2.2 (cleanL has top (sortS (mkeys V)) calls V).2.1 aside := if_neg (fun q => q h)
theorem drop_cons {l : List Nm} {k : Nat} (h : k < l.length) : l.drop k = l.getD k default :: l.drop (k + 1) := by
  rw [List.drop_eq_getElem_cons h]; simp only [List.getD, List.getElem?_eq_getElem h, Option.getD_some]
theorem st_no {f : Nm} {a : PSnap × Bool} (h : namB f = false) : stepX V a f = a := by unfold stepX; rw [nam_not h]
theorem st_bad {f : Nm} {a : PSnap × Bool} (h : namB f = true) (h1 : ¬((parseX (mgetD V f zF).1).1 = 0 ∧ (parseX (mgetD V f zF).1).2.ix = namN f)) : stepX V a f = a := by
  unfold stepX; rw [nam_of h]; exact if_neg h1
theorem st_yes {f : Nm} {a : PSnap × Bool} (h : namB f = true) (h1 : (parseX (mgetD V f zF).1).1 = 0) (h2 : (parseX (mgetD V f zF).1).2.ix = namN f) : stepX V a f = ((parseX (mgetD V f zF).1).2, true) := by
  unfold stepX; rw [nam_of h]; exact if_pos ⟨h1, h2⟩
theorem fold_next {l : List Nm} {k : Nat} {a : PSnap × Bool} (h : k < l.length) : (l.take (k + 1)).foldl (stepX V) a = stepX V ((l.take k).foldl (stepX V) a) (l.getD k default) := foldl_take _ _ _ _ h
end
end Go.Shf

/- part -/
import Derived.Test.YtijldgggjioccaaGreatDoorShfX
import Derived.Test.YtijldgggjioccaaGreatDoorShfV
set_option linter.unusedVariables false
set_option linter.unusedSimpArgs false
namespace Go.Shf
open Go Go.SL Go.Mou Go.Dsk Go.Sm Go.Hrd
def wrE (room : Int) (e : Bool) (c : Int) (V : FV) (x : PSnap) : Int × FV × Int :=
  if (appI room (cI e c) V aside (snB x)).1 ≠ 0 then ((appI room (cI e c) V aside (snB x)).1, (appI room (cI e c) V aside (snB x)).2, decR e c)
  else if (syncR (cI e (decR e c)) (appI room (cI e c) V aside (snB x)).2 [aside]).1 ≠ 0 then ((syncR (cI e (decR e c)) (appI room (cI e c) V aside (snB x)).2 [aside]).1, (syncR (cI e (decR e c)) (appI room (cI e c) V aside (snB x)).2 [aside]).2, decR e (decR e c))
  else ((renI (cI e (decR e (decR e c))) (syncR (cI e (decR e c)) (appI room (cI e c) V aside (snB x)).2 [aside]).2 aside (nameX x.ix.toNat)).1, (renI (cI e (decR e (decR e c))) (syncR (cI e (decR e c)) (appI room (cI e c) V aside (snB x)).2 [aside]).2 aside (nameX x.ix.toNat)).2, decR e (decR e (decR e c)))
def putE (room : Int) (e : Bool) (c : Int) (V : FV) (has : Bool) (top x : PSnap) : Int × FV × Int :=
  if badX has top x = true then (2, V, c)
  else if (remE e c V aside).1 ≠ 0 then remE e c V aside
  else wrE room e (remE e c V aside).2.2 (remE e c V aside).2.1 x
def cleanLE (e : Bool) : List Nm → Int → FV → Int × FV × Int
  | [], c, V => (0, V, c)
  | f :: l, c, V => if (remR (cI e c) V [f]).1 ≠ 0 then ((remR (cI e c) V [f]).1, (remR (cI e c) V [f]).2, decR e c) else cleanLE e l (decR e c) (remR (cI e c) V [f]).2
def cleanE (e : Bool) (c : Int) (V : FV) (has : Bool) (top : PSnap) : Int × FV × Int :=
  if (cleanLE e ((mkeys V).filter (oldX has top)) c V).1 ≠ 0 then cleanLE e ((mkeys V).filter (oldX has top)) c V
  else remE e (cleanLE e ((mkeys V).filter (oldX has top)) c V).2.2 (cleanLE e ((mkeys V).filter (oldX has top)) c V).2.1 aside
def newR (V : FV) : PSnap × Bool := (mkeys V).foldl (stepX V) (zPS, false)
section
variable {room calls c : Int} {e has : Bool} {V L : FV} {top x : PSnap} {o : Nm} {b : List UInt8} {n : Nat}
theorem al_syn (ha : Go.Hrd.Alike room calls e c V L n) (ns : List Nm) : (syncR calls V ns).1 = (syncR (cI e c) L ns).1 ∧ Go.Hrd.Alike room (decC calls) e (decR e c) (syncR calls V ns).2 (syncR (cI e c) L ns).2 n := by
  obtain ⟨sim, cl, ce, cb, lim, us⟩ := ha; subst cl; have hd := decR_ok ce; exact ⟨(sim_sync sim ns).1, (sim_sync sim ns).2, hd.1, hd.2, Int.le_trans decR_le cb, lim_sync lim, used_mono_le (lim_sync (lim_self lim.ok)).us us⟩
theorem al_ren (ha : Go.Hrd.Alike room calls e c V L n) (p q : Nm) : (renR calls V p q).1 = (renI (cI e c) L p q).1 ∧ Go.Hrd.Alike room (decC calls) e (decR e c) (renR calls V p q).2 (renI (cI e c) L p q).2 n := by
  obtain ⟨sim, cl, ce, cb, lim, us⟩ := ha; subst cl; have hd := decR_ok ce; exact ⟨(sim_ren sim p q).1, (sim_ren sim p q).2, hd.1, hd.2, Int.le_trans decR_le cb, lim_ren lim, used_mono_le (lim_ren (lim_self lim.ok)).us us⟩
theorem al_rem1 (ha : Go.Hrd.Alike room calls e c V L n) (ns : List Nm) : (remR calls V ns).1 = (remR (cI e c) L ns).1 := by
  obtain ⟨sim, cl, ce, cb, lim, us⟩ := ha; subst cl; exact (sim_rem sim ns).1
theorem al_app1 (ha : Go.Hrd.Alike room calls e c V L n) (o : Nm) (b : List UInt8) : (appR room calls V o b).1 = (appI room (cI e c) L o b).1 := by
  obtain ⟨sim, cl, ce, cb, lim, us⟩ := ha; subst cl; exact (sim_app sim o b).1
theorem al_remS (ha : Go.Hrd.Alike room calls e c V L n) (o : Nm) : (remS calls V o).1 = (remE e c L o).1 ∧ Go.Hrd.Alike room (remS calls V o).2.2 e (remE e c L o).2.2 (remS calls V o).2.1 (remE e c L o).2.1 n := by
  have h1 := al_rem1 ha [o]; have h2 := al_rem ha [o]; have h3 := ha.sim.has o; unfold remS remE; rw [h3]
  split
  · exact ⟨h1, h2⟩
  · exact ⟨rfl, ha⟩
theorem al_more (ha : Go.Hrd.Alike room calls e c V L n) {m : Nat} (h : n ≤ m) (h2 : m ≤ 1000000000000) : Go.Hrd.Alike room calls e c V L m := ⟨ha.sim, ha.cl, ha.ce, ha.cb, lim_le ha.lim h h2, ha.us⟩
theorem al_wr (ha : Go.Hrd.Alike room calls e c V L n) (hn : n + (snB x).length ≤ 1000000000000) : (wrX room calls V x).1 = (wrE room e c L x).1 ∧ Go.Hrd.Alike room (wrX room calls V x).2.2 e (wrE room e c L x).2.2 (wrX room calls V x).2.1 (wrE room e c L x).2.1 (n + (snB x).length) := by
  have a1 := al_app1 ha aside (snB x); have a2 := al_app (o := aside) (b := snB x) ha hn; obtain ⟨b1, b2⟩ := al_syn a2 [aside]; obtain ⟨c1, c2⟩ := al_ren b2 aside (nameX x.ix.toNat); unfold wrX wrE; rw [← a1, ← b1]
  split
  · exact ⟨rfl, a2⟩
  · split
    · exact ⟨rfl, b2⟩
    · exact ⟨c1, c2⟩
theorem al_put (ha : Go.Hrd.Alike room calls e c V L n) (hn : n + (snB x).length ≤ 1000000000000) : (putX room calls V has top x).1 = (putE room e c L has top x).1 ∧ Go.Hrd.Alike room (putX room calls V has top x).2.2 e (putE room e c L has top x).2.2 (putX room calls V has top x).2.1 (putE room e c L has top x).2.1 (n + (snB x).length) := by
  obtain ⟨r1, r2⟩ := al_remS ha aside; have hm := al_more ha (Nat.le_add_right n (snB x).length) hn; unfold putX putE
  split
  · exact ⟨rfl, hm⟩
  · rw [← r1]
    split
    · exact ⟨r1, al_more r2 (Nat.le_add_right _ _) hn⟩
    · exact al_wr r2 hn
theorem al_cleanL : ∀ (l : List Nm) {calls c : Int} {V L : FV}, Go.Hrd.Alike room calls e c V L n → (cleanL has top l calls V).1 = (cleanLE e (l.filter (oldX has top)) c L).1 ∧ Go.Hrd.Alike room (cleanL has top l calls V).2.2 e (cleanLE e (l.filter (oldX has top)) c L).2.2 (cleanL has top l calls V).2.1 (cleanLE e (l.filter (oldX has top)) c L).2.1 n
  | [], _, _, _, _, ha => ⟨rfl, ha⟩
  | f :: l, calls, c, V, L, ha => by
    cases ho : oldX has top f with
    | false =>
      rw [cl_go ho, List.filter_cons_of_neg (by rw [ho]; decide)]; exact al_cleanL l ha
    | true =>
      have h1 := al_rem1 ha [f]; have h2 := al_rem ha [f]; rw [List.filter_cons_of_pos ho, cleanL, if_pos ho, cleanLE, ← h1]
      split
      · exact ⟨rfl, h2⟩
      · exact al_cleanL l h2
theorem al_clean (ha : Go.Hrd.Alike room calls e c V L n) : (cleanX calls V has top).1 = (cleanE e c L has top).1 ∧ Go.Hrd.Alike room (cleanX calls V has top).2.2 e (cleanE e c L has top).2.2 (cleanX calls V has top).2.1 (cleanE e c L has top).2.1 n := by
  obtain ⟨h1, h2⟩ := al_cleanL (has := has) (top := top) (sortS (mkeys V)) ha; obtain ⟨h3, h4⟩ := al_remS h2 aside; rw [ha.sim.keys] at h1 h2 h3 h4; unfold cleanX cleanE; rw [ha.sim.keys, ← h1]
  split
  · exact ⟨h1, h2⟩
  · exact ⟨h3, h4⟩
theorem step_alike (h : Sim V L) (a : PSnap × Bool) (f : Nm) : stepX V a f = stepX L a f := by unfold stepX; rw [h.getD]
theorem sim_newest (h : Sim V L) : newX V = newR L := by
  unfold newX newR; rw [h.keys, show stepX V = stepX L from funext fun a => funext fun f => step_alike h a f]
theorem pe_bad (h : badX has top x = true) : putE room e c V has top x = (2, V, c) := if_pos h
theorem pe_rem (h : badX has top x = false) (h1 : (remE e c V aside).1 ≠ 0) : putE room e c V has top x = remE e c V aside := by unfold putE; rw [if_neg (by rw [h]; decide), if_pos h1]
theorem pe_wr (h : badX has top x = false) (h1 : (remE e c V aside).1 = 0) : putE room e c V has top x = wrE room e (remE e c V aside).2.2 (remE e c V aside).2.1 x := by unfold putE; rw [if_neg (by rw [h]; decide), if_neg (fun q => q h1)]
theorem we_app (h : (appI room (cI e c) V aside (snB x)).1 ≠ 0) : wrE room e c V x = ((appI room (cI e c) V aside (snB x)).1, (appI room (cI e c) V aside (snB x)).2, decR e c) := if_pos h
theorem we_syn (h : (appI room (cI e c) V aside (snB x)).1 = 0) (h1 : (syncR (cI e (decR e c)) (appI room (cI e c) V aside (snB x)).2 [aside]).1 ≠ 0) : wrE room e c V x = ((syncR (cI e (decR e c)) (appI room (cI e c) V aside (snB x)).2 [aside]).1, (syncR (cI e (decR e c)) (appI room (cI e c) V aside (snB x)).2 [aside]).2, decR e (decR e c)) := by
  unfold wrE; rw [if_neg (fun q => q h), if_pos h1]
theorem we_ren (h : (appI room (cI e c) V aside (snB x)).1 = 0) (h1 : (syncR (cI e (decR e c)) (appI room (cI e c) V aside (snB x)).2 [aside]).1 = 0) : wrE room e c V x = ((renI (cI e (decR e (decR e c))) (syncR (cI e (decR e c)) (appI room (cI e c) V aside (snB x)).2 [aside]).2 aside (nameX x.ix.toNat)).1, (renI (cI e (decR e (decR e c))) (syncR (cI e (decR e c)) (appI room (cI e c) V aside (snB x)).2 [aside]).2 aside (nameX x.ix.toNat)).2, decR e (decR e (decR e c))) := by
  unfold wrE; rw [if_neg (fun q => q h), if_neg (fun q => q h1)]
theorem ce_err {f : Nm} {l : List Nm} (h1 : (remR (cI e c) V [f]).1 ≠ 0) : cleanLE e (f :: l) c V = ((remR (cI e c) V [f]).1, (remR (cI e c) V [f]).2, decR e c) := by rw [cleanLE, if_pos h1]
theorem ce_go {f : Nm} {l : List Nm} (h1 : (remR (cI e c) V [f]).1 = 0) : cleanLE e (f :: l) c V = cleanLE e l (decR e c) (remR (cI e c) V [f]).2 := by rw [cleanLE, if_neg (fun q => q h1)]
theorem cle_err (h : (cleanLE e ((mkeys V).filter (oldX has top)) c V).1 ≠ 0) : cleanE e c V has top = cleanLE e ((mkeys V).filter (oldX has top)) c V := if_pos h
theorem cle_ok (h : (cleanLE e ((mkeys V).filter (oldX has top)) c V).1 = 0) : cleanE e c V has top = remE e (cleanLE e ((mkeys V).filter (oldX has top)) c V).2.2 (cleanLE e ((mkeys V).filter (oldX has top)) c V).2.1 aside := if_neg (fun q => q h)
structure TopOk (x : PSnap) (has : Bool) (n : Nat) : Prop where
  ix : 0 ≤ x.ix ∧ x.ix < 10000000000
  ln : x.conf.length ≤ n ∧ x.body.length ≤ n
  no : has = false → x = zPS
theorem snB_conf (x : PSnap) : x.conf.length ≤ (snB x).length ∧ x.body.length ≤ (snB x).length := by
  unfold snB; rw [bodyX_eq]; simp only [List.length_append]; omega
theorem snB_le {x : PSnap} (h1 : x.ix < 10000000000) (h2 : x.tm < 10000000000) (h3 : x.conf.length ≤ 400000000000) (h4 : x.body.length ≤ 400000000000) : (snB x).length ≤ 40 + x.conf.length + x.body.length := by
  have := bodyX_len h1 h2 h3 h4; rw [snB_len4]; omega
theorem top_step (hu : usedV V ≤ n) {a : PSnap × Bool} (h : TopOk a.1 a.2 n) (f : Nm) : TopOk (stepX V a f).1 (stepX V a f).2 n := by
  unfold stepX
  split
  · exact h
  · split
    · rename_i k hk hq
      obtain ⟨q1, q2⟩ := hq; have hp := parse_canon (b := (mgetD V f zF).1) (x := (parseX (mgetD V f zF).1).2) (Prod.ext q1 rfl); obtain ⟨r1, r2, r3, r4⟩ := right_yes hp.2; have h9 := snB_conf (parseX (mgetD V f zF).1).2; have h8 := get_used V f; rw [← hp.1] at h9; exact ⟨⟨by show 0 ≤ (parseX _).2.ix; omega, r3⟩, ⟨by show (parseX _).2.conf.length ≤ n; omega, by show (parseX _).2.body.length ≤ n; omega⟩, fun q => by cases q⟩
    · exact h
theorem top_fold (hu : usedV V ≤ n) : ∀ (l : List Nm) {a : PSnap × Bool}, TopOk a.1 a.2 n → TopOk (l.foldl (stepX V) a).1 (l.foldl (stepX V) a).2 n
  | [], _, h => h
  | f :: l, _, h => top_fold hu l (top_step hu h f)
theorem top_z (n : Nat) : TopOk zPS false n := ⟨⟨by decide, by decide⟩, ⟨Nat.zero_le _, Nat.zero_le _⟩, fun _ => rfl⟩
theorem top_new (hu : usedV V ≤ n) : TopOk (newX V).1 (newX V).2 n := top_fold hu _ (top_z n)
theorem TopOk.le {n m : Nat} (h : TopOk x has n) (hm : n ≤ m) : TopOk x has m := ⟨h.ix, ⟨by have := h.ln.1; omega, by have := h.ln.2; omega⟩, h.no⟩
theorem px_right (h : putX room calls V has top x = (0, (putX room calls V has top x).2)) : rightM x.ix x.tm = true := by
  cases hb : badX has top x with
  | true => rw [pu_bad hb] at h; exact absurd (show (2 : Int) = 0 from congrArg Prod.fst h) (by decide)
  | false =>
    unfold badX at hb
    cases hr : rightM x.ix x.tm with
    | true => rfl
    | false => rw [hr] at hb; cases hb
end
end Go.Shf

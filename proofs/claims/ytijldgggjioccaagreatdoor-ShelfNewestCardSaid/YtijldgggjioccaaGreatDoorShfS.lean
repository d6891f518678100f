/- part -/
import Derived.Test.YtijldgggjioccaaGreatDoorShfR
set_option linter.unusedVariables false
set_option linter.unusedSimpArgs false
namespace Go.Shf
open Go Go.SL Go.Mou Go.Dsk Go.Sm Go.Hrd
def okF (V : FV) (f : Nm) : Option PSnap := match namedX f with
  | none => none
  | some n => if (parseX (mgetD V f zF).1).1 = 0 ∧ (parseX (mgetD V f zF).1).2.ix = n then some (parseX (mgetD V f zF).1).2 else none
section
variable {V W : FV} {f g : Nm} {x y : PSnap}
theorem step_none {a : PSnap × Bool} (h : okF V f = none) : stepX V a f = a := by
  unfold okF at h; unfold stepX
  split
  · rfl
  · rename_i n hn
    rw [hn] at h; simp only at h
    split at h
    · cases h
    · rename_i h1; rw [if_neg h1]
theorem step_some {a : PSnap × Bool} (h : okF V f = some x) : stepX V a f = (x, true) := by
  unfold okF at h; unfold stepX
  split
  · rename_i hn; rw [hn] at h; cases h
  · rename_i n hn
    rw [hn] at h; simp only at h
    split at h
    · rename_i h1; rw [if_pos h1]; cases h; rfl
    · cases h
theorem ok_name (h : okF V f = some x) : 0 ≤ x.ix ∧ x.ix < 10000000000 ∧ f = nameX x.ix.toNat ∧ parseX (mgetD V f zF).1 = (0, x) := by
  unfold okF at h
  split at h
  · cases h
  · rename_i n hn
    split at h
    · rename_i h1
      cases h
      obtain ⟨b1, b2, b3⟩ := named_back hn; rw [← h1.2] at b1 b2 b3; exact ⟨b1, b2, b3, Prod.ext h1.1 rfl⟩
    · cases h
theorem ok_of (h1 : parseX (mgetD V f zF).1 = (0, x)) (h2 : f = nameX x.ix.toNat) : okF V f = some x := by
  obtain ⟨r1, r2, r3, r4⟩ := right_yes (parse_canon h1).2; have hn := gname_named (i := x.ix.toNat) (by omega); rw [← h2] at hn; unfold okF; rw [hn, h1]; exact if_pos ⟨rfl, by show x.ix = ((x.ix.toNat : Nat) : Int); omega⟩
theorem ok_same (h : mgetD W f zF = mgetD V f zF) : okF W f = okF V f := by unfold okF; rw [h]
theorem le_irr {a b : List UInt8} (h1 : a ≤ b) (h2 : b < a) : False := by first | exact not_lt_of_ge h1 h2 | exact List.not_lt.2 h1 h2 | exact h1 h2
theorem ok_lt (h1 : okF V f = some x) (h2 : okF V g = some y) (hle : f ≤ g) (hne : f ≠ g) : x.ix < y.ix := by
  obtain ⟨a1, a2, a3, -⟩ := ok_name h1; obtain ⟨b1, b2, b3, -⟩ := ok_name h2
  rcases Int.lt_trichotomy x.ix y.ix with q | q | q
  · exact q
  · rw [q] at a3; exact absurd (a3.trans b3.symm) hne
  · exfalso
    have := gname_lt (i := y.ix.toNat) (j := x.ix.toNat) (by omega) (by omega); rw [← a3, ← b3] at this; exact le_irr hle this
theorem fold_mono : ∀ (l : List Nm) (a : PSnap × Bool), l.Pairwise (fun p q => p ≤ q ∧ p ≠ q) → a.2 = true → (∀ h ∈ l, ∀ y, okF V h = some y → a.1.ix ≤ y.ix) → (l.foldl (stepX V) a).2 = true ∧ a.1.ix ≤ (l.foldl (stepX V) a).1.ix
  | [], a, _, h, _ => ⟨h, Int.le_refl _⟩
  | g :: l, a, hp, h, hm => by
    rw [List.foldl_cons]; obtain ⟨p1, p2⟩ := List.pairwise_cons.1 hp
    cases ho : okF V g with
    | none => rw [step_none ho]; exact fold_mono l a p2 h (fun k hk => hm k (List.mem_cons_of_mem _ hk))
    | some y =>
      rw [step_some ho]; have h1 := fold_mono l (y, true) p2 rfl (fun k hk z hz => Int.le_of_lt (ok_lt ho hz (p1 k hk).1 (p1 k hk).2)); exact ⟨h1.1, Int.le_trans (hm g List.mem_cons_self y ho) h1.2⟩
theorem fold_max : ∀ (l : List Nm) (a : PSnap × Bool), l.Pairwise (fun p q => p ≤ q ∧ p ≠ q) → f ∈ l → okF V f = some x → (l.foldl (stepX V) a).2 = true ∧ x.ix ≤ (l.foldl (stepX V) a).1.ix
  | [], a, _, h, _ => by cases h
  | g :: l, a, hp, h, ho => by
    rw [List.foldl_cons]; obtain ⟨p1, p2⟩ := List.pairwise_cons.1 hp
    rcases List.mem_cons.1 h with h | h
    · subst h; rw [step_some ho]; exact fold_mono l (x, true) p2 rfl (fun k hk z hz => Int.le_of_lt (ok_lt ho hz (p1 k hk).1 (p1 k hk).2))
    · exact fold_max l _ p2 h ho
theorem names_strict (h : VOk V) : (sortS (mkeys V)).Pairwise (fun p q => p ≤ q ∧ p ≠ q) := (sortS_le _).and ((sortS_perm _).nodup_iff.2 h.nd)
theorem new_max (h : VOk V) (hf : f ∈ mkeys V) (ho : okF V f = some x) : x.ix ≤ (newX V).1.ix := (fold_max (sortS (mkeys V)) (zPS, false) (names_strict h) (sortS_mem.2 hf) ho).2
structure After (V W : FV) (y : PSnap) : Prop where
  ok : VOk W
  at_ : mget W (nameX y.ix.toNat) = some (snB y, ((snB y).length : Int))
  re : ∀ f, f ≠ nameX y.ix.toNat → mget W f = none ∨ mget W f = mget V f
theorem after_del {a : Nm} (h : After V W y) (ha : a ≠ nameX y.ix.toNat) : After V (mdel W a) y :=
  ⟨vok_del h.ok a, by rw [mget_del h.ok.nd, if_neg ha]; exact h.at_, fun f hf => by
    rw [mget_del h.ok.nd]
    split
    · exact .inl rfl
    · exact h.re f hf⟩
theorem rem_now (hm : mhas V f = true) : remR (-1) V [f] = (0, mdel V f) := by
  unfold remR; rw [if_neg (by decide), if_neg (by simp [hm, onceB])]; rfl
theorem remS_now (h : VOk V) : ∃ W, remS (-1) V aside = (0, W, -1) ∧ VOk W ∧ mhas W aside = false ∧ (∀ f, mget W f = none ∨ mget W f = mget V f) ∧ usedV W ≤ usedV V ∧ W.length ≤ V.length := by
  cases hm : mhas V aside with
  | false => exact ⟨V, remS_no hm, h, hm, fun f => .inr rfl, Nat.le_refl _, Nat.le_refl _⟩
  | true =>
    refine ⟨mdel V aside, by rw [remS_has hm, rem_now hm]; rfl, vok_del h _, del_has h _, fun f => ?_, ?_, len_mdel V aside⟩
    · rw [mget_del h.nd]
      split
      · exact .inl rfl
      · exact .inr rfl
    · have := used_mdel V aside; omega
theorem nm_len {i : Nat} (h : i < 10000000000) : (nameX i).length ≤ 32 := by rw [gname_len h]; decide
theorem put_now {room : Int} {has : Bool} {top : PSnap} (h : VOk V) (hb : badX has top y = false) (hix : 0 ≤ y.ix ∧ y.ix < 10000000000) (hu : (usedV V : Int) + ((snB y).length : Int) ≤ room) (hu2 : room ≤ 1000000000) (hl : V.length ≤ 4000) :
    ∃ W, putX room (-1) V has top y = (0, W, -1) ∧ After V W y := by
  obtain ⟨W, w1, w2, w3, w4, w5, w6⟩ := remS_now h; rw [pu_wr hb (by rw [w1]), w1]; simp only; have hz : mgetD W aside zF = zF := hasD w3
  have ha : appR room (-1) W aside (snB y) = (0, mset W aside (snB y, 0)) := by
    unfold appR; rw [if_neg (by decide), if_neg (by rw [aside_nameB]; decide), if_neg (by rw [decide_eq_false (show ¬ (((snB y).length : Int) > room - (usedV W : Int)) by omega), decide_eq_false (show ¬ (W.length : Int) ≥ 4096 by omega), Bool.and_false]; decide), hz]; rfl
  have hhas : ∀ z : List UInt8 × Int, mhas (mset W aside z) aside = true := fun z => by unfold mhas; rw [mget_set, if_pos rfl]; rfl
  have hy : syncR (decC (-1)) (mset W aside (snB y, 0)) [aside] = (0, mset W aside (snB y, ((snB y).length : Int))) := by
    unfold syncR; rw [if_neg (by decide), if_neg (by simp [hhas])]; simp only [List.foldl_cons, List.foldl_nil]; unfold syncStep; rw [setD, if_pos rfl, mset_two]
  have hr : renR (decC (decC (-1))) (mset W aside (snB y, ((snB y).length : Int))) aside (nameX y.ix.toNat) = (0, mset (mdel (mset W aside (snB y, ((snB y).length : Int))) aside) (nameX y.ix.toNat) (snB y, ((snB y).length : Int))) := by
    unfold renR; rw [if_neg (by decide), if_neg (by rw [hhas, gname_nameB (by omega)]; decide), setD, if_pos rfl]
  refine ⟨mset (mdel (mset W aside (snB y, ((snB y).length : Int))) aside) (nameX y.ix.toNat) (snB y, ((snB y).length : Int)), ?_, ?_⟩
  · rw [wx_ren (by rw [ha]) (by rw [ha]; simp only; rw [hy])]; rw [ha]; simp only; rw [hy]; simp only; rw [hr]; rfl
  · have hg := get_set W aside (snB y, ((snB y).length : Int)); rw [hz] at hg; have hg1 : usedV (mset W aside (snB y, ((snB y).length : Int))) = usedV W + (snB y).length := by simpa [zF] using hg
    have k1 : VOk (mset W aside (snB y, ((snB y).length : Int))) := vok_set w2 (by decide) (.inr (by omega)) ⟨by omega, Int.le_refl _⟩ (by rw [hg1]; omega); have k2 := vok_del k1 aside
    have l1 : (mset W aside (snB y, ((snB y).length : Int))).length ≤ W.length + 1 := by
      have e8 : (mset W aside (snB y, ((snB y).length : Int))).length = (mkeys (mset W aside (snB y, ((snB y).length : Int)))).length := by simp [mkeys]
      rw [e8, mkeys_set]
      by_cases q : aside ∈ mkeys W
      · rw [if_pos q]; simp [mkeys]
      · rw [if_neg q]; simp [mkeys]
    have l2 := len_mdel (mset W aside (snB y, ((snB y).length : Int))) aside; have u2 := used_mdel (mset W aside (snB y, ((snB y).length : Int))) aside; have g3 := get_set (mdel (mset W aside (snB y, ((snB y).length : Int))) aside) (nameX y.ix.toNat) (snB y, ((snB y).length : Int)); have e9 : ((snB y, ((snB y).length : Int)) : List UInt8 × Int).1 = snB y := rfl; rw [e9] at g3; refine ⟨vok_set k2 (nm_len (by omega)) (.inr (by omega)) ⟨by omega, Int.le_refl _⟩ (by omega), by rw [mget_set, if_pos rfl], fun f hf => ?_⟩; rw [mget_set, if_neg (fun q => hf q.symm), mget_del k1.nd]
    split
    · exact .inl rfl
    · rename_i hfa
      rw [mget_set, if_neg hfa]; exact w4 f
theorem old_name (h : oldX true y f = true) : f ≠ nameX y.ix.toNat ∨ ¬ (0 ≤ y.ix ∧ y.ix < 10000000000) := by
  by_cases hy : 0 ≤ y.ix ∧ y.ix < 10000000000
  · refine .inl fun e => ?_; unfold oldX at h; rw [e, gname_named (by omega)] at h; simp at h; omega
  · exact .inr hy
theorem cleanL_now (hy : 0 ≤ y.ix ∧ y.ix < 10000000000) : ∀ (l : List Nm) (W : FV), l.Nodup → (∀ f ∈ l, f ∈ mkeys W) → After V W y →
    ∃ W', cleanL true y l (-1) W = (0, W', -1) ∧ After V W' y ∧ (∀ f ∈ l, oldX true y f = true → mget W' f = none) ∧ (∀ f, mget W f = none → mget W' f = none) ∧ (∀ f ∈ mkeys W', f ∈ mkeys W)
  | [], W, _, _, h => ⟨W, rfl, h, (fun f hf => by cases hf), fun f hf => hf, fun f hf => hf⟩
  | f :: l, W, hn, hm, h => by
    obtain ⟨n1, n2⟩ := List.nodup_cons.1 hn
    cases ho : oldX true y f with
    | false =>
      rw [cl_go ho]; obtain ⟨W', a1, a2, a3, a4, a5⟩ := cleanL_now hy l W n2 (fun g hg => hm g (List.mem_cons_of_mem _ hg)) h; refine ⟨W', a1, a2, fun g hg hgo => ?_, a4, a5⟩
      rcases List.mem_cons.1 hg with hg | hg
      · rw [hg, ho] at hgo; cases hgo
      · exact a3 g hg hgo
    | true =>
      have hf := mhas_iff.2 (hm f List.mem_cons_self); have hne : f ≠ nameX y.ix.toNat := (old_name ho).elim id (fun q => absurd hy q); rw [cl_rem ho (by rw [rem_now hf]), rem_now hf]; have hd : ∀ g, mget (mdel W f) g = if f = g then none else mget W g := fun g => mget_del h.ok.nd f g
      obtain ⟨W', a1, a2, a3, a4, a5⟩ := cleanL_now hy l (mdel W f) n2 (fun g hg => by
        have hg' := mhas_iff.2 (hm g (List.mem_cons_of_mem _ hg)); refine mhas_iff.1 ?_; unfold mhas at hg' ⊢; have hfg : f ≠ g := fun e => n1 (e ▸ hg); rw [hd, if_neg hfg]; exact hg') (after_del h hne)
      refine ⟨W', a1, a2, fun g hg hgo => ?_, fun g hg => ?_, fun g hg => ?_⟩
      · rcases List.mem_cons.1 hg with hg | hg
        · subst hg; exact a4 g (by rw [hd, if_pos rfl])
        · exact a3 g hg hgo
      · refine a4 g ?_; rw [hd]; split
        · rfl
        · exact hg
      · obtain ⟨p, hp, rfl⟩ := List.mem_map.1 (a5 g hg); exact List.mem_map.2 ⟨p, mem_del hp, rfl⟩
theorem clean_now (hy : 0 ≤ y.ix ∧ y.ix < 10000000000) (h : After V W y) : ∃ W', cleanX (-1) W true y = (0, W', -1) ∧ After V W' y ∧ (∀ f, oldX true y f = true → mget W' f = none) := by
  obtain ⟨W', a1, a2, a3, a4, a5⟩ := cleanL_now hy (sortS (mkeys W)) W ((sortS_perm _).nodup_iff.2 h.ok.nd) (fun f hf => sortS_mem.1 hf) h; obtain ⟨U, u1, u2, u3, u4, -, -⟩ := remS_now a2.ok; have hne : nameX y.ix.toNat ≠ aside := gname_aside (by omega); rw [clx_ok (by rw [a1]), a1]; refine ⟨U, u1, ⟨u2, ?_, fun f hf => ?_⟩, fun f hf => ?_⟩
  · cases hm : mhas W' aside with
    | false => rw [remS_no hm] at u1; cases u1; exact a2.at_
    | true =>
      rw [remS_has hm, rem_now hm] at u1
      cases u1
      rw [mget_del a2.ok.nd, if_neg (fun q => hne q.symm)]; exact a2.at_
  · rcases u4 f with q | q
    · exact .inl q
    · rw [q]; exact a2.re f hf
  · rcases u4 f with q | q
    · exact q
    · rw [q]
      by_cases hf2 : f ∈ mkeys W
      · exact a3 f (sortS_mem.2 hf2) hf
      · exact a4 f (mget_none.2 hf2)
def keptB (V : FV) (f : Nm) : Bool := decide ((parseX (mgetD V f zF).1).1 = 0) && decide (f = nameX (parseX (mgetD V f zF).1).2.ix.toNat)
theorem kept_iff (hV : VOk V) (hy : rightM y.ix y.tm = true) (hl : y.conf.length ≤ 400000000000 ∧ y.body.length ≤ 400000000000) (h : After V W y) (ho : ∀ f, oldX true y f = true → mget W f = none) (ht : (newX V).1.ix < y.ix) {f : Nm} (hf : f ∈ mkeys W) : keptB W f = decide (f = nameX y.ix.toNat) := by
  obtain ⟨r1, r2, r3, r4⟩ := right_yes hy
  by_cases he : f = nameX y.ix.toNat
  · subst he; have hp : parseX (mgetD W (nameX y.ix.toNat) zF).1 = (0, y) := by rw [getD_of h.at_]; exact gparse_back ⟨hy, hl.1, hl.2⟩
    unfold keptB; rw [hp]; simp
  · rw [decide_eq_false he]
    cases hk : keptB W f with
    | false => rfl
    | true =>
      exfalso
      unfold keptB at hk; simp only [Bool.and_eq_true, decide_eq_true_eq] at hk; have hw : okF W f = some (parseX (mgetD W f zF).1).2 := ok_of (Prod.ext hk.1 rfl) hk.2
      generalize (parseX (mgetD W f zF).1).2 = x at hw
      obtain ⟨o1, o2, o3, o4⟩ := ok_name hw; have hm : mget W f ≠ none := fun e => mget_none.1 e hf; have hx : ¬ x.ix < y.ix := fun q => hm (ho f (by unfold oldX; rw [o3, gname_named (by omega)]; simp; omega)); have hg : mget W f = mget V f := (h.re f he).elim (fun q => absurd q hm) id; have hv : okF V f = some x := by rw [← hw]; exact (ok_same (by unfold mgetD; rw [hg])).symm
      have hfV : f ∈ mkeys V := Classical.byContradiction fun q => hm (by rw [hg]; exact mget_none.2 q); have := new_max hV hfV hv; omega
theorem count_one {p : Nm → Bool} {l : List Nm} {a : Nm} (hn : l.Nodup) (ha : a ∈ l) (hp : ∀ f ∈ l, p f = decide (f = a)) : l.countP p = 1 := by
  have h1 : l.countP p = l.countP (fun f => decide (f = a)) := List.countP_congr (fun f hf => by rw [hp f hf]); rw [h1]
  induction l with
  | nil => cases ha
  | cons b l ih =>
    obtain ⟨n1, n2⟩ := List.nodup_cons.1 hn
    rcases List.mem_cons.1 ha with q | q
    · subst q
      have hz : l.countP (fun f => decide (f = a)) = 0 := List.countP_eq_zero.2 (fun f hf => by
        simp only [decide_eq_true_eq]; intro e; exact n1 (e ▸ hf))
      rw [List.countP_cons_of_pos (by simp), hz]
    · have hb : b ≠ a := fun e => n1 (e ▸ q); rw [List.countP_cons_of_neg (by simp [hb])]; exact ih n2 q (fun f hf => hp f (List.mem_cons_of_mem _ hf)) (List.countP_congr (fun f hf => by rw [hp f (List.mem_cons_of_mem _ hf)]))
theorem kept_one (hV : VOk V) (hy : rightM y.ix y.tm = true) (hl : y.conf.length ≤ 400000000000 ∧ y.body.length ≤ 400000000000) (h : After V W y) (ho : ∀ f, oldX true y f = true → mget W f = none) (ht : (newX V).1.ix < y.ix) : (sortS (mkeys W)).countP (keptB W) = 1 :=
  count_one ((sortS_perm _).nodup_iff.2 h.ok.nd) (sortS_mem.2 (List.mem_map.2 ⟨_, mget_some h.at_, rfl⟩)) (fun f hf => kept_iff hV hy hl h ho ht (sortS_mem.1 hf))
theorem countP_next {p : Nm → Bool} {l : List Nm} {k : Nat} (h : k < l.length) : (l.take (k + 1)).countP p = (l.take k).countP p + (if p (l.getD k default) = true then 1 else 0) := by
  rw [take_succ_getD l k h, List.countP_append]
  congr 1
  simp [List.countP_cons]
end
end Go.Shf

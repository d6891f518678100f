/-
  Cleanings, and the newest snapshot. No program in sight.
-/
import Derived.Test.YtijldgggjioccaaGreatDoorShfM
set_option linter.unusedVariables false
set_option linter.unusedSimpArgs false
namespace Go.Shf
open Go Go.SL Go.Mou Go.Dsk Go.Sm Go.Hrd
section
variable {V : FV} {K : List PSnap} {x y : PSnap}
theorem SI.lt_last (h : SI V (K ++ [x])) : ∀ y ∈ K, y.ix < x.ix := fun y hy => (List.pairwise_append.1 h.so).2.2 y hy x (by simp)
theorem SI.mem (h : SI V K) : ∀ y ∈ K, nameX y.ix.toNat ∈ mkeys V := fun y hy => List.mem_map.2 ⟨_, mget_some (h.at_ y hy), rfl⟩
theorem si_drop (h : SI V (K ++ [x])) (hy : y ∈ K) : SI (mdel V (nameX y.ix.toNat)) (K.filter (fun z => decide (z.ix ≠ y.ix)) ++ [x]) := by
  have hyi := h.klen y (List.mem_append.2 (.inl hy))
  have hyx := h.lt_last y hy
  have sub : (K.filter (fun z => decide (z.ix ≠ y.ix)) ++ [x]).Sublist (K ++ [x]) := List.Sublist.append List.filter_sublist (List.Sublist.refl _)
  have mem : ∀ z, z ∈ K.filter (fun z => decide (z.ix ≠ y.ix)) ++ [x] → z ∈ K ++ [x] ∧ z.ix ≠ y.ix := fun z hz => by
    refine ⟨sub.subset hz, ?_⟩
    rcases List.mem_append.1 hz with hz | hz
    · exact of_decide_eq_true (List.mem_filter.1 hz).2
    · rw [List.mem_singleton.1 hz]; omega
  have ne : ∀ z ∈ K ++ [x], z.ix ≠ y.ix → nameX y.ix.toNat ≠ nameX z.ix.toNat := fun z hz hne e => by
    have h1 := name_inj hyi.1 (h.klen z hz).1 e
    have h2 := (h.klen z hz).2
    have h3 := hyi.2
    omega
  refine ⟨vok_del h.ok _, fun f hf => ?_, fun z hz => ?_, fun z hz => h.gd z (mem z hz).1, h.so.sublist sub, ?_⟩
  · obtain ⟨p, hp, rfl⟩ := List.mem_map.1 hf
    rcases h.kn p.1 (List.mem_map.2 ⟨p, mem_del hp, rfl⟩) with q | ⟨z, hz, q⟩
    · exact .inl q
    · by_cases e : z.ix = y.ix
      · exfalso
        have h9 : mhas (mdel V (nameX y.ix.toNat)) (nameX y.ix.toNat) = true := by rw [q, e] at hf; exact mhas_iff.2 hf
        rw [del_has h.ok] at h9; cases h9
      · refine .inr ⟨z, ?_, q⟩
        rcases List.mem_append.1 hz with hz | hz
        · exact List.mem_append.2 (.inl (List.mem_filter.2 ⟨hz, decide_eq_true e⟩))
        · exact List.mem_append.2 (.inr hz)
  · rw [mget_del h.ok.nd, if_neg (ne z (mem z hz).1 (mem z hz).2)]; exact h.at_ z (mem z hz).1
  · rw [delD h.ok.nd, if_neg (name_aside hyi.1)]; exact h.as_
theorem clean_list : ∀ (l : List Nm) (calls : Int) (V : FV) (K : List PSnap), SI V (K ++ [x]) → l.Nodup → (∀ f ∈ l, f ∈ mkeys V) → -1 ≤ calls →
    MO (cleanL true x l calls V) calls ∧ ∃ K', SI (cleanL true x l calls V).2.1 (K' ++ [x]) ∧ K'.Sublist K ∧ ((cleanL true x l calls V).1 = 0 ∧ (∀ y ∈ K', nameX y.ix.toNat ∉ l) ∨ (cleanL true x l calls V).1 = 32)
  | [], calls, V, K, h, _, _, hc => ⟨⟨hc, fun q => q, fun q => ⟨q, rfl⟩⟩, K, h, List.Sublist.refl _, .inl ⟨rfl, fun y _ q => by cases q⟩⟩
  | f :: l, calls, V, K, h, hn, hm, hc => by
    obtain ⟨hn1, hn2⟩ := List.nodup_cons.1 hn
    have keep : oldX true x f = false → (∀ y ∈ K, nameX y.ix.toNat ≠ f) → MO (cleanL true x (f :: l) calls V) calls ∧ ∃ K', SI (cleanL true x (f :: l) calls V).2.1 (K' ++ [x]) ∧ K'.Sublist K ∧ ((cleanL true x (f :: l) calls V).1 = 0 ∧ (∀ y ∈ K', nameX y.ix.toNat ∉ f :: l) ∨ (cleanL true x (f :: l) calls V).1 = 32) := fun ho hne => by
      have e : cleanL true x (f :: l) calls V = cleanL true x l calls V := by rw [cleanL, if_neg (by rw [ho]; decide)]
      rw [e]
      obtain ⟨a1, K', a2, a3, a4⟩ := clean_list l calls V K h hn2 (fun g hg => hm g (List.mem_cons_of_mem _ hg)) hc
      refine ⟨a1, K', a2, a3, a4.imp (fun ⟨b1, b2⟩ => ⟨b1, fun y hy q => ?_⟩) id⟩
      rcases List.mem_cons.1 q with q | q
      · exact hne y (a3.subset hy) q
      · exact b2 y hy q
    rcases h.kn f (hm f List.mem_cons_self) with q | ⟨y, hy, q⟩
    · subst q
      exact keep (by unfold oldX; rw [aside_named]) (fun y hy => name_aside (h.klen y (List.mem_append.2 (.inl hy))).1)
    · have hyi := h.klen y hy
      have hnm : namedX f = some y.ix := by rw [q, name_named hyi.1, hyi.2]
      rcases List.mem_append.1 hy with hyK | hyx
      · have hlt := h.lt_last y hyK
        have ho : oldX true x f = true := by unfold oldX; rw [hnm]; simp [hlt]
        have hf : mhas V f = true := mhas_iff.2 (hm f List.mem_cons_self)
        by_cases c0 : calls = 0
        · subst c0
          have e : cleanL true x (f :: l) 0 V = (32, V, decC 0) := by rw [cleanL, if_pos ho, show remR 0 V [f] = (32, V) from if_pos rfl, if_pos (by show (32 : Int) ≠ 0; decide)]
          rw [e]
          exact ⟨⟨by show -1 ≤ decC 0; decide, fun _ => by show decC 0 ≤ _; decide, fun q => by cases q⟩, K, h, List.Sublist.refl _, .inr rfl⟩
        · have hr : remR calls V [f] = (0, mdel V f) := by
            unfold remR
            rw [if_neg c0, if_neg (by simp [hf, onceB])]; rfl
          have e : cleanL true x (f :: l) calls V = cleanL true x l (decC calls) (mdel V f) := by rw [cleanL, if_pos ho, hr, if_neg (fun q => q rfl)]
          rw [e]
          have h2 := si_drop h hyK
          rw [← q] at h2
          obtain ⟨⟨m1, m2, m3⟩, K', a2, a3, a4⟩ := clean_list l (decC calls) (mdel V f) _ h2 hn2 (fun g hg => by
            have hne : f ≠ g := fun e => hn1 (e ▸ hg)
            have hg' := mhas_iff.2 (hm g (List.mem_cons_of_mem _ hg))
            refine mhas_iff.1 ?_
            unfold mhas at hg' ⊢
            rw [mget_del h.ok.nd, if_neg hne]; exact hg') (decC_lo hc)
          refine ⟨⟨m1, fun q => m2 (decC_le q), fun q => m3 (by rw [q]; rfl)⟩, K', a2, a3.trans List.filter_sublist, a4.imp (fun ⟨b1, b2⟩ => ⟨b1, fun z hz r => ?_⟩) id⟩
          rcases List.mem_cons.1 r with r | r
          · have hzK := a3.subset hz
            have hz1 := List.mem_filter.1 hzK
            have hz2 := of_decide_eq_true hz1.2
            have hzi := h.klen z (List.mem_append.2 (.inl hz1.1))
            have := name_inj hzi.1 hyi.1 (r.trans q)
            have h8 := hzi.2; have h9 := hyi.2
            omega
          · exact b2 z hz r
      · have hyx' := List.mem_singleton.1 hyx
        subst hyx'
        refine keep (by unfold oldX; rw [hnm]; simp) (fun z hz e => ?_)
        have hlt := h.lt_last z hz
        have hzi := h.klen z (List.mem_append.2 (.inl hz))
        have := name_inj hzi.1 hyi.1 (e.trans q)
        have h8 := hzi.2; have h9 := hyi.2
        omega
theorem clean_any {calls : Int} (h : SI V (K ++ [x])) (hc : -1 ≤ calls) :
    MO (cleanX calls V true x) calls ∧ ((cleanX calls V true x).1 = 0 ∧ SI (cleanX calls V true x).2.1 [x] ∨ (cleanX calls V true x).1 = 32 ∧ ∃ K', SI (cleanX calls V true x).2.1 (K' ++ [x]) ∧ K'.Sublist K) := by
  obtain ⟨⟨m1, m2, m3⟩, K', a2, a3, a4⟩ := clean_list (x := x) (sortS (mkeys V)) calls V K h ((sortS_perm _).nodup_iff.2 h.ok.nd) (fun f hf => sortS_mem.1 hf) hc
  unfold cleanX
  rcases a4 with ⟨b1, b2⟩ | b1
  · rw [if_neg (fun q => q b1)]
    have hK : K' = [] := by
      cases K' with
      | nil => rfl
      | cons y t =>
        have hy : y ∈ K := a3.subset (by simp)
        exact absurd (sortS_mem.2 (h.mem y (List.mem_append.2 (.inl hy)))) (b2 y (by simp))
    rw [hK, List.nil_append] at a2
    obtain ⟨⟨n1, n2, n3⟩, c1⟩ := rem_aside a2 m1
    refine ⟨⟨n1, fun q => n2 (m2 q), fun q => n3 (m3 q).1⟩, ?_⟩
    rcases c1 with ⟨d1, d2, -⟩ | ⟨d1, d2⟩
    · exact .inl ⟨d1, d2⟩
    · exact .inr ⟨d1, [], by rw [List.nil_append]; exact d2, List.nil_sublist _⟩
  · rw [if_pos (by rw [b1]; decide)]
    exact ⟨⟨m1, m2, m3⟩, .inr ⟨b1, K', a2, a3⟩⟩
/-! ### The newest -/
theorem step_aside (a : PSnap × Bool) : stepX V a aside = a := by unfold stepX; rw [aside_named]
theorem step_x (h : SI V K) (hx : x ∈ K) (a : PSnap × Bool) : stepX V a (nameX x.ix.toNat) = (x, true) := by
  have hi := h.klen x hx
  unfold stepX
  rw [name_named hi.1, getD_of (h.at_ x hx), parse_back (h.gd x hx)]
  exact if_pos ⟨rfl, hi.2.symm⟩
theorem fold_keep {a : PSnap × Bool} : ∀ (l : List Nm), (∀ f ∈ l, f = aside) → l.foldl (stepX V) a = a
  | [], _ => rfl
  | f :: l, h => by rw [List.foldl_cons, h f (by simp), step_aside]; exact fold_keep l (fun g hg => h g (by simp [hg]))
theorem new_last (h : SI V (K ++ [x])) : newX V = (x, true) := by
  have hi := h.klen x (by simp)
  have hmem : nameX x.ix.toNat ∈ sortS (mkeys V) := sortS_mem.2 (h.mem x (by simp))
  have hnd : (sortS (mkeys V)).Nodup := (sortS_perm _).nodup_iff.2 h.ok.nd
  have hso := sortS_le (mkeys V)
  have hk : ∀ f ∈ sortS (mkeys V), f ∈ mkeys V := fun f hf => sortS_mem.1 hf
  unfold newX
  generalize sortS (mkeys V) = l at hmem hnd hso hk
  obtain ⟨l1, l2, e⟩ := List.append_of_mem hmem
  subst e
  rw [List.foldl_append, List.foldl_cons, step_x h (by simp)]
  refine fold_keep l2 (fun f hf => ?_)
  have h1 := (List.pairwise_append.1 hso).2.1
  have h2 := (List.pairwise_cons.1 h1).1 f hf
  have h3 := (List.nodup_cons.1 (List.nodup_append.1 hnd).2.1).1
  rcases h.kn f (hk f (by simp [hf])) with q | ⟨y, hy, q⟩
  · exact q
  · exfalso
    rcases List.mem_append.1 hy with hy | hy
    · have hlt := h.lt_last y hy
      have hyi := h.klen y (List.mem_append.2 (.inl hy))
      have h4 := name_lt hi.1 (show y.ix.toNat < x.ix.toNat by omega)
      rw [← q] at h4
      exact absurd h4 (by first | exact not_lt_of_ge h2 | exact List.not_lt.2 h2 | exact h2)
    · rw [List.mem_singleton.1 hy] at q
      rw [q] at hf; exact h3 hf
theorem new_none (h : SI V []) : newX V = (zPS, false) := by
  unfold newX
  refine fold_keep _ (fun f hf => ?_)
  rcases h.kn f (sortS_mem.1 hf) with q | ⟨y, hy, -⟩
  · exact q
  · cases hy
end
end Go.Shf

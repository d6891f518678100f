/-
  What Only leaves of a track. No program in sight.
-/
import Derived.Test.YteajafkmnhikoaaTlyQ
set_option linter.unusedVariables false
set_option linter.unusedSimpArgs false
namespace Go.Tly
open Go Go.SL
theorem ent_perm {l l' : List Asn} (h : l.Perm l') : Ent l l' := by
  induction h with
  | nil => exact Ent.refl _
  | cons x _ ih => exact Ent.pick .here ih
  | swap x y l => exact Ent.pick (.there .here) (Ent.pick .here (Ent.refl _))
  | trans _ _ h1 h2 => exact Ent.trans h1 h2
theorem ent_sub {l l' : List Asn} (h : l'.Sublist l) : Ent l l' := by
  induction h with
  | slnil => exact Ent.refl _
  | cons x _ ih => exact Ent.skip ih
  | cons_cons x _ ih => exact Ent.pick .here ih
theorem bun_ent {L L' Γ : List Asn} (h : Ent L L') : Ent (Bun L :: Γ) (Bun L' :: Γ) :=
  Ent.trans (bun_out L Γ) (Ent.trans (Ent.both h (Ent.refl Γ)) (bun_in L' Γ))
theorem pb_less {t : TypeId} {T T1 : PT} {q : Int × Nat × Peer → Bool} {Γ Γ1 : List Asn} (h : T1.Perm (T.filter q)) (p : Pick (PB t T) [] Γ Γ1) : Ent Γ (PB t T1 :: Γ1) := by
  refine Ent.trans (Ent.pick p (Ent.refl _)) (bun_ent ?_)
  exact Ent.trans (ent_sub (List.filter_sublist.map _)) (ent_perm (h.symm.map _))
def tP (T : PT) (id : Int) : Option Peer := (tE T id).map (·.2.2)
def newP (last : Int) : Peer := ⟨0, mx last 0 + 1⟩
theorem tE_iff {T : PT} (hn : (T.map (·.1)).Nodup) {id : Int} {e : Int × Nat × Peer} : tE T id = some e ↔ e ∈ T ∧ e.1 = id := by
  induction T with
  | nil => simp [tE]
  | cons x T ih =>
    simp only [List.map_cons, List.nodup_cons] at hn
    unfold tE at ih ⊢
    rw [List.find?_cons]
    by_cases q : x.1 = id
    · simp only [q, decide_true, Option.some.injEq, List.mem_cons]
      constructor
      · rintro rfl; exact ⟨.inl rfl, q⟩
      · rintro ⟨rfl | h, h2⟩
        · rfl
        · exact absurd (List.mem_map.2 ⟨e, h, h2.trans q.symm⟩) hn.1
    · simp only [q, decide_false, List.mem_cons]
      rw [ih hn.2]
      constructor
      · rintro ⟨h, h2⟩; exact ⟨.inr h, h2⟩
      · rintro ⟨rfl | h, h2⟩
        · exact absurd h2 q
        · exact ⟨h, h2⟩
theorem tE_perm {T T1 : PT} (hn : (T.map (·.1)).Nodup) {q : Int → Bool} (h : T1.Perm (T.filter fun e => q e.1)) (id : Int) : tE T1 id = if q id = true then tE T id else none := by
  have hnf : ((T.filter fun e => q e.1).map (·.1)).Nodup := hn.sublist (List.filter_sublist.map _)
  have hn1 : (T1.map (·.1)).Nodup := (h.map _).nodup_iff.2 hnf
  apply Option.ext
  intro e
  rw [tE_iff hn1, h.mem_iff, List.mem_filter]
  by_cases c : q id = true
  · rw [if_pos c, tE_iff hn]
    constructor
    · rintro ⟨⟨h1, _⟩, h2⟩; exact ⟨h1, h2⟩
    · rintro ⟨h1, h2⟩; exact ⟨⟨h1, by rw [h2]; exact c⟩, h2⟩
  · rw [if_neg c]
    constructor
    · rintro ⟨⟨_, h1⟩, h2⟩; rw [h2] at h1; exact absurd h1 c
    · intro h1; cases h1
structure OnlyI (T : PT) (last : Int) (ids : List Int) (k : Nat) (T' : PT) : Prop where
  nd : (T'.map (·.1)).Nodup
  got : ∀ id, tP T' id = if id ∈ ids then (match tP T id with | some p => some p | none => if id ∈ ids.take k then some (newP last) else none) else none
theorem only_zero {T T1 : PT} {last : Int} {ids : List Int} (hn : (T.map (·.1)).Nodup) (h : T1.Perm (T.filter fun e => decide (e.1 ∈ ids))) : OnlyI T last ids 0 T1 := by
  have hnf : ((T.filter fun e => decide (e.1 ∈ ids)).map (·.1)).Nodup := hn.sublist (List.filter_sublist.map _)
  refine ⟨(h.map _).nodup_iff.2 hnf, fun id => ?_⟩
  unfold tP
  rw [tE_perm (q := fun i => decide (i ∈ ids)) hn h]
  by_cases c : id ∈ ids
  · simp only [c, decide_true, if_true, List.take_zero, List.not_mem_nil, if_false]
    cases (tE T id).map (·.2.2) <;> rfl
  · simp [c]
theorem tE_app (T : PT) (e : Int × Nat × Peer) (x : Int) : tE (T ++ [e]) x = match tE T x with | some y => some y | none => if e.1 = x then some e else none := by
  unfold tE
  rw [List.find?_append]
  cases h : T.find? (fun e => decide (e.1 = x)) with
  | some y => rfl
  | none =>
    simp only [List.find?_cons, List.find?_nil, Option.none_or]
    by_cases q : e.1 = x <;> simp [q]
theorem only_new {T T' : PT} {last : Int} {ids : List Int} {k : Nat} (h : OnlyI T last ids k T') (hk : k < ids.length) {b : Nat} (hno : tE T' (ids.getD k default) = none) : OnlyI T last ids (k + 1) (T' ++ [(ids.getD k default, b, newP last)]) := by
  refine ⟨?_, fun id => ?_⟩
  · rw [List.map_append, List.nodup_append]
    refine ⟨h.nd, by simp, fun x hx y hy e => ?_⟩
    obtain ⟨z, hz, rfl⟩ := List.mem_map.1 hx
    simp only [List.map_cons, List.map_nil, List.mem_singleton] at hy
    exact tE_mem hno z hz (e.trans hy)
  · have hg := h.got id
    have hmem : ids.getD k default ∈ ids := by simp [List.getD, hk]
    unfold tP at hg ⊢
    rw [tE_app, take_succ_getD _ _ hk]
    by_cases q : ids.getD k default = id
    · rw [q] at hno hmem ⊢
      rw [hno] at hg ⊢
      simp only [if_true, Option.map_some, if_pos hmem, List.mem_append, List.mem_singleton, or_true] at hg ⊢
      cases hT : (tE T id).map (·.2.2) with
      | none => rfl
      | some p => rw [hT] at hg; simp at hg
    · have q' : ¬ id = ids.getD k default := fun e => q e.symm
      simp only [q, q', if_false, List.mem_append, List.mem_singleton, or_false]
      rw [← hg]
      cases tE T' id <;> rfl
theorem only_old {T T' : PT} {last : Int} {ids : List Int} {k : Nat} (h : OnlyI T last ids k T') (hk : k < ids.length) (hyes : ¬ tE T' (ids.getD k default) = none) : OnlyI T last ids (k + 1) T' := by
  refine ⟨h.nd, fun id => ?_⟩
  have hg := h.got id
  rw [take_succ_getD _ _ hk]
  by_cases q : id = ids.getD k default
  · subst q
    have hmem : ids.getD k default ∈ ids := by simp [List.getD, hk]
    rw [hg]
    simp only [if_pos hmem, List.mem_append, List.mem_singleton, or_true, if_true] at hg ⊢
    cases hT : tP T (ids.getD k default) with
    | some p => rfl
    | none =>
      rw [hT] at hg
      by_cases c : ids.getD k default ∈ ids.take k
      · rw [if_pos c]
      · simp only [if_neg c] at hg
        unfold tP at hg
        simp at hg
        exact absurd hg hyes
  · rw [hg]
    simp only [List.mem_append, List.mem_singleton, q, or_false]
theorem pm_new {T : PT} {id : Int} {b : Nat} {p : Peer} (h : tE T id = none) : mset (pm T) id (some b) = pm (T ++ [(id, b, p)]) := by
  have hn : id ∉ mkeys (pm T) := by
    rw [pm_keys]
    intro hm
    obtain ⟨e, he, q⟩ := List.mem_map.1 hm
    exact tE_mem h e he q
  rw [mset_new _ _ _ hn]
  simp [pm]
theorem pb_new {t : TypeId} {T : PT} {Γ : List Asn} {id : Int} {b : Nat} {p : Peer} : Ent (.pts b (encPeer p) t :: PB t T :: Γ) (PB t (T ++ [(id, b, p)]) :: Γ) := by
  unfold PB
  rw [show pL t (T ++ [(id, b, p)]) = pL t T ++ [.pts b (encPeer p) t] from by simp [pL]]
  exact bun_snoc _ _ _
theorem look_yes {T : PT} {id : Int} (h : ¬ mgetD (pm T) id none = none) : ¬ tE T id = none := by
  obtain ⟨j, b, p, _, _, h3, _⟩ := look_some h
  rw [h3]; simp
theorem key_in {T : PT} {id : Int} (h : id ∈ mkeys (pm T)) : ¬ mgetD (pm T) id none = none := fun e => by
  rw [pm_keys] at h
  obtain ⟨x, hx, q⟩ := List.mem_map.1 h
  exact tE_mem (look_none e) x hx q
theorem key_at {T : PT} {k : Nat} (h : k < (sortI (mkeys (pm T))).length) : (sortI (mkeys (pm T))).getD k default ∈ mkeys (pm T) := sortI_mem.1 (by simp [List.getD, h])
def allF (T : PT) : List Mtch := (sortI (mkeys (pm T))).map fun id => ⟨id, matchF T id⟩
theorem ks_len (T : PT) : (sortI (mkeys (pm T))).length = T.length := by rw [sortI_len]; simp [mkeys, pm]
theorem only_one {last id : Int} {T : PT} (h : OnlyI [] last [id] 1 T) : ∃ b, T = [(id, b, newP last)] := by
  have hall : ∀ e ∈ T, e.1 = id ∧ e.2.2 = newP last := fun e he => by
    have h1 : tE T e.1 = some e := (tE_iff h.nd).2 ⟨he, rfl⟩
    have h2 := h.got e.1
    unfold tP at h2
    rw [h1] at h2
    by_cases q : e.1 = id
    · simp [q, tE] at h2; exact ⟨q, h2⟩
    · simp [q] at h2
  have h3 := h.got id
  match T, h, hall, h3 with
  | [], _, _, h3 => simp [tP, tE] at h3
  | [(a, b, p)], _, hall, _ =>
    obtain ⟨q1, q2⟩ := hall (a, b, p) (by simp)
    simp only at q1 q2
    exact ⟨b, by rw [q1, q2]⟩
  | x :: y :: T, h, hall, _ =>
    have := h.nd
    simp only [List.map_cons, List.nodup_cons, List.mem_cons, not_or] at this
    exact absurd ((hall x (by simp)).1.trans (hall y (by simp)).1.symm) this.1.1
end Go.Tly

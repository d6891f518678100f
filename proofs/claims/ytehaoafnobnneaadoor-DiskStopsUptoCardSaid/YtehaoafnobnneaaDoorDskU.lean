/-
  What the program's disk does is what the reference's does. No program in sight.
-/
import Derived.Test.YtehaoafnobnneaaDoorDskI
set_option linter.unusedVariables false
set_option linter.unusedSimpArgs false
namespace Go.Dsk
open Go Go.SL
/-! ### What stays good -/
theorem mem_mset : ∀ {V : FV} {s : Nm} {x : List UInt8 × Int} {p : Nm × (List UInt8 × Int)}, p ∈ mset V s x → p ∈ V ∨ p = (s, x)
  | [], s, x, p, h => .inr (List.mem_singleton.1 h)
  | (k, u) :: V, s, x, p, h => by
    unfold mset at h
    split at h
    · rename_i e
      rcases List.mem_cons.1 h with h | h
      · exact .inr h
      · exact .inl (List.mem_cons_of_mem _ h)
    · rcases List.mem_cons.1 h with h | h
      · exact .inl (by rw [h]; exact List.mem_cons_self)
      · exact (mem_mset h).imp (List.mem_cons_of_mem _) id
theorem mem_mdel : ∀ {V : FV} {s : Nm} {p : Nm × (List UInt8 × Int)}, p ∈ mdel V s → p ∈ V
  | [], _, _, h => by cases h
  | (k, u) :: V, s, p, h => by
    unfold mdel at h
    split at h
    · exact List.mem_cons_of_mem _ h
    · rcases List.mem_cons.1 h with h | h
      · rw [h]; exact List.mem_cons_self
      · exact List.mem_cons_of_mem _ (mem_mdel h)
theorem used_mset : ∀ (V : FV) (s : Nm) (x : List UInt8 × Int), usedV (mset V s x) + (mgetD V s zF).1.length = usedV V + x.1.length
  | [], s, x => by simp [usedV, mset, mgetD, mget, zF]
  | (k, u) :: V, s, x => by
    have ih := used_mset V s x
    by_cases e : k = s
    · simp [usedV, mset, mgetD, mget, e]; omega
    · simp only [mset, if_neg e, usedV, List.map_cons, List.sum_cons, mgetD, mget] at ih ⊢
      omega
theorem used_mdel : ∀ (V : FV) (s : Nm), usedV (mdel V s) + (mgetD V s zF).1.length = usedV V
  | [], s => by simp [usedV, mdel, mgetD, mget, zF]
  | (k, u) :: V, s => by
    have ih := used_mdel V s
    by_cases e : k = s
    · simp [usedV, mdel, mgetD, mget, e]; omega
    · simp only [mdel, if_neg e, usedV, List.map_cons, List.sum_cons, mgetD, mget] at ih ⊢
      omega
theorem len_mdel : ∀ (V : FV) (s : Nm), (mdel V s).length ≤ V.length
  | [], _ => Nat.le_refl _
  | (k, u) :: V, s => by
    have ih := len_mdel V s
    unfold mdel
    split <;> simp only [List.length_cons] <;> omega
theorem len_mdel_has : ∀ {V : FV} {s : Nm}, mhas V s = true → (mdel V s).length + 1 = V.length
  | [], s, h => by simp [mhas, mget] at h
  | (k, u) :: V, s, h => by
    by_cases e : k = s
    · simp [mdel, e]
    · have ih := len_mdel_has (V := V) (s := s) (by simpa [mhas, mget, e] using h)
      simp only [mdel, if_neg e, List.length_cons]
      omega
theorem len_mset_has {V : FV} {s : Nm} (h : mhas V s = true) (x : List UInt8 × Int) : (mset V s x).length = V.length := by
  have h1 := congrArg List.length (mkeys_set V s x)
  rw [if_pos (mhas_iff.1 h)] at h1
  simpa [mkeys] using h1
/-- how large a disk may be -/
structure Lim (V : FV) (n : Nat) : Prop where
  ok : VOk V
  us : usedV V ≤ n
  bd : n ≤ 1000000000000
theorem lim_set {V : FV} {n m : Nat} {s : Nm} {b : List UInt8} {k : Int} (h : Lim V n) (hs : s.length ≤ 32) (hl : mhas V s = true ∨ V.length < 4096) (h0 : 0 ≤ k ∧ k ≤ (b.length : Int)) (hb : b.length ≤ (mgetD V s zF).1.length + m) (hm : n + m ≤ 1000000000000) : Lim (mset V s (b, k)) (n + m) := by
  have h1 := used_mset V s (b, k)
  have h2 := h.us
  simp only [] at h1
  refine ⟨⟨mset_nodup h.ok.nd _ _, fun p hp => ?_, fun p hp => ?_, ?_, by omega⟩, by omega, hm⟩
  · rcases mem_mset hp with hp | rfl
    · exact h.ok.sf p hp
    · exact h0
  · rcases mem_mset hp with hp | rfl
    · exact h.ok.nm p hp
    · exact hs
  · rcases hl with hl | hl
    · rw [len_mset_has hl]; exact h.ok.ln
    · have := mset_len V s (b, k); omega
theorem lim_le {V : FV} {n m : Nat} (h : Lim V n) (hm : n ≤ m) (h2 : m ≤ 1000000000000) : Lim V m := ⟨h.ok, Nat.le_trans h.us hm, h2⟩
theorem lim_del {V : FV} {n : Nat} (h : Lim V n) (s : Nm) : Lim (mdel V s) n := by
  have h1 := used_mdel V s
  have h2 := h.us
  have h3 := h.ok.us
  exact ⟨⟨mdel_nodup h.ok.nd _, fun p hp => h.ok.sf p (mem_mdel hp), fun p hp => h.ok.nm p (mem_mdel hp), Nat.le_trans (len_mdel V s) h.ok.ln, by omega⟩, by omega, h.bd⟩
theorem has_mem {V : FV} {s : Nm} (h : mhas V s = true) : (s, mgetD V s zF) ∈ V := by
  unfold mhas at h
  cases e : mget V s with
  | none => rw [e] at h; cases h
  | some f => unfold mgetD; rw [e]; exact mget_some e
theorem sf_has {V : FV} (h : VOk V) {s : Nm} (hs : mhas V s = true) : (0 ≤ (mgetD V s zF).2 ∧ (mgetD V s zF).2 ≤ ((mgetD V s zF).1.length : Int)) ∧ s.length ≤ 32 := ⟨h.sf _ (has_mem hs), h.nm _ (has_mem hs)⟩
theorem sf_any {V : FV} (h : VOk V) (s : Nm) : 0 ≤ (mgetD V s zF).2 ∧ (mgetD V s zF).2 ≤ ((mgetD V s zF).1.length : Int) := by
  cases hs : mhas V s with
  | true => exact (sf_has h hs).1
  | false =>
    have : mgetD V s zF = zF := by unfold mgetD; rw [mget_none.2 (no_mem hs)]; rfl
    rw [this]; exact ⟨Int.le_refl _, Int.le_refl _⟩
theorem lim_app {room calls : Int} {V : FV} {n : Nat} {name : Nm} {more : List UInt8} (h : Lim V n) (hm : n + more.length ≤ 1000000000000) : Lim (appR room calls V name more).2 (n + more.length) := by
  unfold appR
  split
  · exact lim_le h (by omega) hm
  · split
    · exact lim_le h (by omega) hm
    · rename_i hn
      split
      · exact lim_le h (by omega) hm
      · rename_i hf
        have hnm : nameB name = true := by simpa using hn
        have hs := ((nameB_iff name).1 hnm).2.1
        have h0 := sf_any h.ok name
        refine lim_set h hs ?_ ⟨h0.1, by rw [List.length_append]; omega⟩ (by rw [List.length_append]; omega) hm
        cases hh : mhas V name with
        | true => exact .inl rfl
        | false => rw [hh] at hf; simp at hf; exact .inr (by omega)
theorem used_app_room {room calls : Int} {V : FV} {name : Nm} {more : List UInt8} (h : (usedV V : Int) ≤ room) : (usedV (appR room calls V name more).2 : Int) ≤ room := by
  unfold appR
  split
  · exact h
  · split
    · exact h
    · split
      · exact h
      · rename_i hf
        have h1 := used_mset V name ((mgetD V name zF).1 ++ more, (mgetD V name zF).2)
        rw [List.length_append] at h1
        simp only [Bool.or_eq_true, decide_eq_true_eq, not_or] at hf
        show (usedV (mset V name _) : Int) ≤ room
        omega
theorem lim_step {V : FV} {n : Nat} {s : Nm} (h : Lim V n) (hs : mhas V s = true) : Lim (syncStep V s) n := by
  have h1 := sf_has h.ok hs
  have h2 := h.us
  have h3 := used_mset V s ((mgetD V s zF).1, ((mgetD V s zF).1.length : Int))
  simp only [] at h3
  have := lim_set (m := 0) (b := (mgetD V s zF).1) (k := ((mgetD V s zF).1.length : Int)) h h1.2 (.inl hs) ⟨by omega, Int.le_refl _⟩ (Nat.le_refl _) h.bd
  exact this
theorem has_step {V : FV} {s : Nm} (hs : mhas V s = true) (t : Nm) : mhas (syncStep V s) t = mhas V t := by
  unfold mhas syncStep
  rw [mget_set]
  split
  · rename_i e; subst e
    have := hs; unfold mhas at this; rw [this]; rfl
  · rfl
theorem lim_fold : ∀ {ns : List Nm} {V : FV} {n : Nat}, Lim V n → ns.all (mhas V) = true → Lim (ns.foldl syncStep V) n
  | [], _, _, h, _ => h
  | a :: ns, V, n, h, ha => by
    rw [List.all_cons, Bool.and_eq_true] at ha
    show Lim (ns.foldl syncStep (syncStep V a)) n
    refine lim_fold (lim_step h ha.1) ?_
    rw [List.all_eq_true]
    intro t ht
    rw [has_step ha.1]
    exact List.all_eq_true.1 ha.2 t ht
theorem lim_sync {calls : Int} {V : FV} {n : Nat} {names : List Nm} (h : Lim V n) : Lim (syncR calls V names).2 n := by
  unfold syncR
  split
  · exact h
  · split
    · exact h
    · rename_i ha
      exact lim_fold h (by simpa using ha)
theorem lim_dels : ∀ {ns : List Nm} {V : FV} {n : Nat}, Lim V n → Lim (ns.foldl mdel V) n
  | [], _, _, h => h
  | a :: ns, V, n, h => by
    show Lim (ns.foldl mdel (mdel V a)) n
    exact lim_dels (lim_del h a)
theorem lim_rem {calls : Int} {V : FV} {n : Nat} {names : List Nm} (h : Lim V n) : Lim (remR calls V names).2 n := by
  unfold remR
  split
  · exact h
  · split
    · exact h
    · exact lim_dels h
theorem lim_cut {calls : Int} {V : FV} {n : Nat} {name : Nm} {k : Int} (h : Lim V n) : Lim (cutR calls V name k).2 n := by
  unfold cutR
  split
  · exact h
  · split
    · exact h
    · rename_i hn
      split
      · exact h
      · rename_i hk
        have hs : mhas V name = true := by simpa using hn
        have h1 := sf_has h.ok hs
        simp only [Bool.or_eq_true, decide_eq_true_eq, not_or] at hk
        have hl : ((mgetD V name zF).1.take k.toNat).length = k.toNat := by rw [List.length_take]; omega
        exact lim_set (m := 0) h h1.2 (.inl hs) ⟨by unfold mnI; split <;> omega, by rw [hl]; unfold mnI; split <;> omega⟩ (by rw [hl]; omega) h.bd
theorem lim_ren {calls : Int} {V : FV} {n : Nat} {a b : Nm} (h : Lim V n) : Lim (renR calls V a b).2 n := by
  unfold renR
  split
  · exact h
  · split
    · exact h
    · rename_i hc
      simp only [Bool.or_eq_true, Bool.not_eq_true', not_or, Bool.not_eq_false] at hc
      have hs := sf_has h.ok hc.1
      have h1 := used_mdel V a
      have h2 := h.us
      have hd := lim_del h a
      have hd2 : Lim (mdel V a) (n - (mgetD V a zF).1.length) := ⟨hd.ok, by omega, by have := h.bd; omega⟩
      have hl : (mdel V a).length < V.length := by
        have h3 := len_mdel_has hc.1
        omega
      have := lim_set (m := (mgetD V a zF).1.length) (s := b) (b := (mgetD V a zF).1) (k := (mgetD V a zF).2) hd2 ((nameB_iff b).1 hc.2).2.1 (.inr (by have := h.ok.ln; omega)) hs.1 (by omega) (by have := h.bd; omega)
      exact lim_le this (by omega) h.bd
theorem cr_get {keep : List Int} {ns : List Nm} {V : FV} {t : Nm} (ha : ns.all (mhas V) = true) : ∀ {k : Nat}, k ≤ ns.length → mhas (crK keep ns V k).1 t = mhas V t
  | 0, _ => rfl
  | k + 1, hk => by
    have ih := fun t => cr_get (keep := keep) (t := t) ha (k := k) (by omega)
    simp only [crK]
    unfold mhas at ih ⊢
    rw [mget_set]
    split
    · rename_i e
      have h := (List.all_eq_true.1 ha) _ (getD_in (l := ns) (show k < ns.length by omega))
      rw [e] at h
      unfold mhas at h
      rw [h]; rfl
    · exact ih t
theorem lim_crK {keep : List Int} {ns : List Nm} {V : FV} {n : Nat} (h : Lim V n) (ha : ns.all (mhas V) = true) : ∀ {k : Nat}, k ≤ ns.length → Lim (crK keep ns V k).1 n
  | 0, _ => h
  | k + 1, hk => by
    have ih := lim_crK (keep := keep) h ha (k := k) (by omega)
    have hs : mhas (crK keep ns V k).1 (ns.getD k default) = true := by rw [cr_get ha (by omega)]; exact (List.all_eq_true.1 ha) _ (getD_in (by omega))
    have h1 := sf_has ih.ok hs
    have h2 := stay_bd keep k h1.1.2
    simp only [crK]
    have hl : ((mgetD (crK keep ns V k).1 (ns.getD k default) zF).1.take ((mgetD (crK keep ns V k).1 (ns.getD k default) zF).2 + stayF keep k (mgetD (crK keep ns V k).1 (ns.getD k default) zF)).toNat).length = ((mgetD (crK keep ns V k).1 (ns.getD k default) zF).2 + stayF keep k (mgetD (crK keep ns V k).1 (ns.getD k default) zF)).toNat := by rw [List.length_take]; omega
    exact lim_set (m := 0) ih h1.2 (.inl hs) ⟨by omega, by rw [hl]; omega⟩ (by rw [hl]; omega) h.bd
theorem all_keys (V : FV) : (sortS (mkeys V)).all (mhas V) = true := by
  rw [List.all_eq_true]
  intro t ht
  exact mhas_iff.2 (sortS_mem.1 ht)
theorem lim_cr {keep : List Int} {V : FV} {n : Nat} (h : Lim V n) : Lim (crR keep V).1 n := lim_crK h (all_keys V) (by rw [sortS_len]; simp [mkeys])
end Go.Dsk

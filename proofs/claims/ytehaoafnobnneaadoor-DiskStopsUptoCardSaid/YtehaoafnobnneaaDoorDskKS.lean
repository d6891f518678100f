/-
  Several texts, put together.
-/
import Derived.Test.YtehaoafnobnneaaDoorDskA
/-
  What a crash leaves, name by name. No program in sight.
-/
set_option linter.unusedVariables false
set_option linter.unusedSimpArgs false
namespace Go.Dsk
open Go Go.SL
theorem mgetD_set (V : FV) (s : Nm) (x : List UInt8 × Int) (t : Nm) : mgetD (mset V s x) t zF = if s = t then x else mgetD V t zF := by
  unfold mgetD; rw [mget_set]; split <;> rfl
theorem all_at {ns : List Nm} {V : FV} (ha : ns.all (mhas V) = true) {k : Nat} (hk : k < ns.length) : mhas V (ns.getD k default) = true := (List.all_eq_true.1 ha) _ (getD_in hk)
theorem nodup_ne {ns : List Nm} (hn : ns.Nodup) {j k : Nat} (hj : j < ns.length) (hk : k < ns.length) (h : j ≠ k) : ns.getD j default ≠ ns.getD k default := by
  intro e
  simp only [List.getD, List.getElem?_eq_getElem hj, List.getElem?_eq_getElem hk, Option.getD_some] at e
  exact h ((List.getElem_inj hn).1 e)
/-- what one file is behind a crash -/
def Crd (f g : List UInt8 × Int) : Prop := ∃ m : Nat, f.2 ≤ (m : Int) ∧ m ≤ f.1.length ∧ g = (f.1.take m, (m : Int))
theorem crK_at {keep : List Int} {ns : List Nm} {V : FV} (h : VOk V) (hn : ns.Nodup) (ha : ns.all (mhas V) = true) : ∀ {k : Nat}, k ≤ ns.length →
    mkeys (crK keep ns V k).1 = mkeys V ∧ (crK keep ns V k).2 + (usedV (crK keep ns V k).1 : Int) = usedV V ∧
    (∀ j, j < k → Crd (mgetD V (ns.getD j default) zF) (mgetD (crK keep ns V k).1 (ns.getD j default) zF)) ∧ ∀ s, s ∉ ns.take k → mgetD (crK keep ns V k).1 s zF = mgetD V s zF
  | 0, _ => ⟨rfl, by simp [crK], fun j hj => by omega, fun s _ => rfl⟩
  | k + 1, hk => by
    obtain ⟨i1, i2, i3, i4⟩ := crK_at (keep := keep) h hn ha (k := k) (by omega)
    have hs : mhas (crK keep ns V k).1 (ns.getD k default) = true := by rw [cr_get ha (by omega)]; exact all_at ha (by omega)
    have hno : ns.getD k default ∉ ns.take k := fun hm => by
      obtain ⟨j, hj, e⟩ := List.getElem_of_mem hm
      have hj2 : j < k := by rw [List.length_take] at hj; omega
      exact nodup_ne hn (show j < ns.length by omega) (show k < ns.length by omega) (by omega) (by rw [List.getElem_take] at e; simp only [List.getD, List.getElem?_eq_getElem (show j < ns.length by omega), Option.getD_some]; exact e)
    have e0 := i4 _ hno
    have hb := sf_any h (ns.getD k default)
    have hst := stay_bd keep k hb.2
    have hum := used_mset (crK keep ns V k).1 (ns.getD k default)
    simp only [crK, e0]
    generalize hf : mgetD V (ns.getD k default) zF = f at *
    generalize hq : stayF keep k f = q at *
    have hm : ((f.2 + q).toNat : Int) = f.2 + q := by omega
    have hl : (f.1.take (f.2 + q).toNat).length = (f.2 + q).toNat := by rw [List.length_take]; omega
    have hu := hum (f.1.take (f.2 + q).toNat, f.2 + q)
    rw [e0, hl] at hu
    refine ⟨by rw [mkeys_set, if_pos (mhas_iff.1 hs), i1], by omega, fun j hj => ?_, fun s hs2 => ?_⟩
    · rw [mgetD_set]
      by_cases e : j = k
      · subst e
        rw [if_pos rfl, hf]
        exact ⟨(f.2 + q).toNat, by omega, by omega, by rw [hm]⟩
      · rw [if_neg (nodup_ne hn (show k < ns.length by omega) (show j < ns.length by omega) (fun h => e h.symm))]
        exact i3 j (by omega)
    · rw [mgetD_set]
      rw [take_succ_getD _ _ (by omega), List.mem_append, not_or, List.mem_singleton] at hs2
      rw [if_neg (fun h => hs2.2 h.symm)]
      exact i4 s hs2.1
theorem sorted_nd {V : FV} (h : VOk V) : (sortS (mkeys V)).Nodup := (sortS_perm _).nodup_iff.2 h.nd
theorem cr_at {V : FV} (h : VOk V) (keep : List Int) : mkeys (crR keep V).1 = mkeys V ∧ (crR keep V).2 + (usedV (crR keep V).1 : Int) = usedV V ∧ ∀ s, Crd (mgetD V s zF) (mgetD (crR keep V).1 s zF) := by
  have hl : V.length = (sortS (mkeys V)).length := by rw [sortS_len]; simp [mkeys]
  obtain ⟨h1, h2, h3, h4⟩ := crK_at (keep := keep) h (sorted_nd h) (all_keys V) (k := V.length) (by omega)
  refine ⟨h1, h2, fun s => ?_⟩
  by_cases hs : s ∈ sortS (mkeys V)
  · obtain ⟨j, hj, e⟩ := List.getElem_of_mem hs
    have := h3 j (by omega)
    rw [show (sortS (mkeys V)).getD j default = s by simp only [List.getD, List.getElem?_eq_getElem hj, Option.getD_some]; exact e] at this
    exact this
  · have e := h4 s (fun hm => hs (List.mem_of_mem_take hm))
    have hz : mgetD V s zF = zF := by
      unfold mgetD; rw [mget_none.2 (fun c => hs (sortS_mem.2 c))]; rfl
    unfold crR
    rw [e, hz]
    exact ⟨0, by decide, by decide, rfl⟩
/-! ### How long the files are together -/
def lenS (V : FV) (ns : List Nm) : Nat := (ns.map fun s => (mgetD V s zF).1.length).sum
theorem lenS_keys : ∀ {V : FV}, (mkeys V).Nodup → lenS V (mkeys V) = usedV V := by
  intro V h
  unfold lenS usedV mkeys
  rw [List.map_map]
  congr 1
  refine List.map_congr_left fun p hp => ?_
  simp only [Function.comp]
  rw [getD_of (mget_of_mem h (show (p.1, p.2) ∈ V from hp))]
theorem lenS_sort {V : FV} (h : (mkeys V).Nodup) : lenS V (sortS (mkeys V)) = usedV V := by
  rw [← lenS_keys h]
  exact ((sortS_perm (mkeys V)).map _).sum_nat
theorem lenS_next {V : FV} {ns : List Nm} {k : Nat} (hk : k < ns.length) : lenS V (ns.take (k + 1)) = lenS V (ns.take k) + (mgetD V (ns.getD k default) zF).1.length := by
  unfold lenS; rw [take_succ_getD ns k hk]; simp
theorem lenS_le (V : FV) (ns : List Nm) (k : Nat) : lenS V (ns.take k) ≤ lenS V ns := by
  have h : lenS V ns = lenS V (ns.take k) + lenS V (ns.drop k) := by
    unfold lenS; rw [← List.sum_append_nat, ← List.map_append, List.take_append_drop]
  omega
/-- a second crash takes nothing -/
theorem cr_again {V : FV} {n : Nat} (h : Lim V n) (keep keep2 : List Int) : (crR keep2 (crR keep V).1).2 = 0 := by
  have h1 := cr_at h.ok keep
  have hv := (lim_cr (keep := keep) h).ok
  have h2 := cr_at hv keep2
  have e : usedV (crR keep2 (crR keep V).1).1 = usedV (crR keep V).1 := by
    have hv2 := (lim_cr (keep := keep2) (lim_cr (keep := keep) h)).ok
    rw [← lenS_keys hv2.nd, ← lenS_keys hv.nd, h2.1]
    unfold lenS
    congr 1
    refine List.map_congr_left fun s _ => ?_
    obtain ⟨m, a1, a2, a3⟩ := h1.2.2 s
    obtain ⟨m2, b1, b2, b3⟩ := h2.2.2 s
    rw [a3] at b1 b2 b3
    rw [b3, a3]
    simp only [List.length_take] at *
    omega
  have := h2.2.1
  omega
/-! ### Two lists over the names -/
theorem getD_map_ {α β : Type} [Inhabited α] [Inhabited β] (f : α → β) {l : List α} {k : Nat} (h : k < l.length) : (l.map f).getD k default = f (l.getD k default) := by simp [List.getD, h]
theorem was_at {W : List (SL UInt8)} {NS : List Nm} {f : Nm → List UInt8} (h : W.map (fun s => s.xs) = NS.map f) {k : Nat} (hk : k < NS.length) : k < W.length ∧ (W.getD k default).xs = f (NS.getD k default) := by
  have hl : W.length = NS.length := by have := congrArg List.length h; simpa using this
  refine ⟨by omega, ?_⟩
  rw [← getD_map_ f hk, ← h, getD_map_ (fun s : SL UInt8 => s.xs) (by omega)]
/-- all that is told of the names -/
structure Nms (V : FV) (NS : List Nm) : Prop where
  len : NS.length = V.length
  has : ∀ k, k < NS.length → mhas V (NS.getD k default) = true
  all : ∀ {V2 : FV}, VOk V2 → mkeys V2 = mkeys V → lenS V2 NS = usedV V2
theorem nms {V : FV} (h : VOk V) : Nms V (sortS (mkeys V)) :=
  ⟨by rw [sortS_len]; simp [mkeys], fun k hk => all_at (all_keys V) hk, fun {V2} h2 e => by rw [← e]; exact lenS_sort h2.nd⟩
theorem has_keys {V V2 : FV} (e : mkeys V2 = mkeys V) (s : Nm) : mhas V2 s = mhas V s := by
  cases c : mhas V s with
  | true => exact mhas_iff.2 (by rw [e]; exact mhas_iff.1 c)
  | false => cases d : mhas V2 s with
    | false => rfl
    | true => have h := mhas_iff (m := V).2 (by rw [← e]; exact mhas_iff.1 d); rw [c] at h; cases h
theorem take_app {W : List (SL UInt8)} {NS : List Nm} {f : Nm → List UInt8} {k : Nat} {e : SL UInt8} (h : W.map (fun s => s.xs) = (NS.take k).map f) (hk : k < NS.length) (he : e.xs = f (NS.getD k default)) : (W ++ [e]).map (fun s => s.xs) = (NS.take (k + 1)).map f := by
  rw [take_succ_getD _ _ hk, List.map_append, List.map_append, h]; simp [he]
theorem take_app2 {S : List Int} {NS : List Nm} {f : Nm → Int} {k : Nat} (h : S = (NS.take k).map f) (hk : k < NS.length) : S ++ [f (NS.getD k default)] = (NS.take (k + 1)).map f := by
  rw [take_succ_getD _ _ hk, List.map_append, h]; rfl
/-- what is found of a file behind the crash -/
theorem crd_facts {f g : List UInt8 × Int} (h : Crd f g) : ¬ (g.1.length : Int) < f.2 ∧ g.1.length ≤ f.1.length ∧ g.1 = f.1.take g.1.length ∧ g.2 = (g.1.length : Int) := by
  obtain ⟨m, h1, h2, rfl⟩ := h
  simp only [List.length_take, Nat.min_eq_left h2]
  exact ⟨by omega, h2, trivial, trivial⟩
end Go.Dsk

/-
  What a stopped disk does, act by act. No program in sight.
-/
set_option linter.unusedVariables false
set_option linter.unusedSimpArgs false
namespace Go.Dsk
open Go Go.SL
def ActK (a : DAct) : Prop := 0 ≤ a.Kind ∧ a.Kind ≤ 4
theorem act_zero (room : Int) (V : FV) {a : DAct} (h : ActK a) : actP room 0 V a = (32, V, 0) := by
  obtain ⟨h1, h2⟩ := h
  unfold actP appR syncR renR remR cutR
  by_cases k0 : a.Kind = 0
  · rw [if_pos k0]; rfl
  by_cases k1 : a.Kind = 1
  · rw [if_neg k0, if_pos k1]; rfl
  by_cases k2 : a.Kind = 2
  · rw [if_neg k0, if_neg k1, if_pos k2]; rfl
  by_cases k3 : a.Kind = 3
  · rw [if_neg k0, if_neg k1, if_neg k2, if_pos k3]; rfl
  · rw [if_neg k0, if_neg k1, if_neg k2, if_neg k3, if_pos (by omega)]; rfl
theorem act_zeroR (room : Int) (L : FV) {a : DAct} (h : ActK a) : (actR room true 0 L a).1 = 32 := by
  obtain ⟨h1, h2⟩ := h
  unfold actR appI syncR renI remR cutR
  by_cases k0 : a.Kind = 0
  · rw [if_pos k0]; rfl
  by_cases k1 : a.Kind = 1
  · rw [if_neg k0, if_pos k1]; rfl
  by_cases k2 : a.Kind = 2
  · rw [if_neg k0, if_neg k1, if_pos k2]; rfl
  by_cases k3 : a.Kind = 3
  · rw [if_neg k0, if_neg k1, if_neg k2, if_pos k3]; rfl
  · rw [if_neg k0, if_neg k1, if_neg k2, if_neg k3, if_pos (by omega)]; rfl
theorem act_run (room : Int) (V : FV) {a : DAct} (h : ActK a) {c : Int} (hc : 0 < c) : (actP room c V a).2.1 = (actP room (-1) V a).2.1 ∧ (actP room c V a).2.2 = c - 1 ∧ (actP room (-1) V a).2.2 = -1 := by
  obtain ⟨h1, h2⟩ := h
  have hd : decC c = c - 1 := if_pos hc
  have hn : ¬ c = 0 := by omega
  unfold actP appR syncR renR remR cutR
  rw [if_neg hn, if_neg hn, if_neg hn, if_neg hn, if_neg hn, hd]
  by_cases k0 : a.Kind = 0
  · simp only [if_pos k0]; exact ⟨rfl, trivial, rfl⟩
  by_cases k1 : a.Kind = 1
  · simp only [if_neg k0, if_pos k1]; exact ⟨rfl, trivial, rfl⟩
  by_cases k2 : a.Kind = 2
  · simp only [if_neg k0, if_neg k1, if_pos k2]; exact ⟨rfl, trivial, rfl⟩
  by_cases k3 : a.Kind = 3
  · simp only [if_neg k0, if_neg k1, if_neg k2, if_pos k3]; exact ⟨rfl, trivial, rfl⟩
  · simp only [if_neg k0, if_neg k1, if_neg k2, if_neg k3, if_pos (show a.Kind = 4 by omega)]; exact ⟨rfl, trivial, rfl⟩
theorem used_cr {V : FV} {n : Nat} (h : Lim V n) (keep : List Int) : usedV (crR keep V).1 ≤ usedV V := (lim_cr (keep := keep) (n := usedV V) ⟨h.ok, Nat.le_refl _, Nat.le_trans h.us h.bd⟩).us
end Go.Dsk

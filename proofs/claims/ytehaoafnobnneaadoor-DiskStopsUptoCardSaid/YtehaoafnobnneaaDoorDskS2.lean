/-
  The program's files and the reference's list, alike. No program in sight.
-/
import Derived.Test.YtehaoafnobnneaaDoorDskU
set_option linter.unusedVariables false
set_option linter.unusedSimpArgs false
namespace Go.Dsk
open Go Go.SL
structure Sim (V L : FV) : Prop where
  nv : (mkeys V).Nodup
  nl : (mkeys L).Nodup
  so : (mkeys L).Pairwise (fun a b => a ≤ b)
  eq : ∀ s, mget V s = mget L s
theorem nodup_of {V : FV} (h : (mkeys V).Nodup) : V.Nodup := List.Pairwise.of_map (fun p : Nm × (List UInt8 × Int) => p.1) (fun a b h e => h (by rw [e])) h
theorem Sim.perm {V L : FV} (h : Sim V L) : V.Perm L := by
  rw [List.perm_ext_iff_of_nodup (nodup_of h.nv) (nodup_of h.nl)]
  rintro ⟨s, x⟩
  constructor
  · intro hm; exact mget_some (by rw [← h.eq]; exact mget_of_mem h.nv hm)
  · intro hm; exact mget_some (by rw [h.eq]; exact mget_of_mem h.nl hm)
theorem Sim.len {V L : FV} (h : Sim V L) : V.length = L.length := h.perm.length_eq
theorem Sim.used {V L : FV} (h : Sim V L) : usedV V = usedV L := (h.perm.map _).sum_nat
theorem Sim.keys {V L : FV} (h : Sim V L) : sortS (mkeys V) = mkeys L := sortS_eq (h.perm.map _) h.so
theorem Sim.has {V L : FV} (h : Sim V L) (s : Nm) : mhas V s = mhas L s := by unfold mhas; rw [h.eq]
theorem Sim.getD {V L : FV} (h : Sim V L) (s : Nm) : mgetD V s zF = mgetD L s zF := by unfold mgetD; rw [h.eq]
theorem Sim.vok {V L : FV} (h : Sim V L) (v : VOk V) : VOk L :=
  ⟨h.nl, fun p hp => v.sf p (h.perm.mem_iff.2 hp), fun p hp => v.nm p (h.perm.mem_iff.2 hp), by rw [← h.len]; exact v.ln, by rw [← h.used]; exact v.us⟩
theorem sim_nil : Sim [] [] := ⟨List.nodup_nil, List.nodup_nil, List.Pairwise.nil, fun _ => rfl⟩
theorem Sim.all {V L : FV} (h : Sim V L) (ns : List Nm) : ns.all (mhas V) = ns.all (mhas L) := by
  congr 1
  funext s
  exact h.has s
theorem sim_set {V L : FV} (h : Sim V L) {s : Nm} (hs : mhas V s = true) (x : List UInt8 × Int) : Sim (mset V s x) (mset L s x) := by
  have hL : s ∈ mkeys L := mhas_iff.1 (by rw [← h.has]; exact hs)
  refine ⟨mset_nodup h.nv _ _, mset_nodup h.nl _ _, ?_, fun t => ?_⟩
  · rw [mkeys_set, if_pos hL]; exact h.so
  · rw [mget_set, mget_set, h.eq]
theorem tw_all {α : Type} {q : α → Bool} : ∀ {l : List α} {p : α}, p ∈ l.takeWhile q → q p = true
  | [], _, h => by cases h
  | x :: l, p, h => by
    rw [List.takeWhile_cons] at h
    split at h
    · rename_i hx
      rcases List.mem_cons.1 h with rfl | h
      · exact hx
      · exact tw_all h
    · cases h
theorem dw_head {α : Type} {q : α → Bool} : ∀ {l : List α} {x : α} {m : List α}, l.dropWhile q = x :: m → q x = false
  | [], _, _, h => by cases h
  | y :: l, x, m, h => by
    rw [List.dropWhile_cons] at h
    split at h
    · exact dw_head h
    · rename_i hy
      cases h
      simpa using hy
theorem insV_so {L : FV} {f : Nm × (List UInt8 × Int)} (h : (mkeys L).Pairwise (fun a b => a ≤ b)) : (mkeys (insV L f)).Pairwise (fun a b => a ≤ b) := by
  have h0 : mkeys L = mkeys (twV_ L f.1) ++ mkeys (dwV_ L f.1) := by
    have := congrArg mkeys (tdV L f.1)
    rw [← this]; simp [mkeys]
  rw [h0, List.pairwise_append] at h
  show (mkeys (twV_ L f.1 ++ f :: dwV_ L f.1)).Pairwise _
  have e : mkeys (twV_ L f.1 ++ f :: dwV_ L f.1) = mkeys (twV_ L f.1) ++ f.1 :: mkeys (dwV_ L f.1) := by simp [mkeys]
  rw [e, List.pairwise_append, List.pairwise_cons]
  have hlt : ∀ a ∈ mkeys (twV_ L f.1), a ≤ f.1 := fun a ha => by
    obtain ⟨p, hp, rfl⟩ := List.mem_map.1 ha
    have := tw_all hp
    exact Std.le_of_lt (of_decide_eq_true this)
  have hge : ∀ b ∈ mkeys (dwV_ L f.1), f.1 ≤ b := by
    intro b hb
    unfold dwV_ at hb h
    cases hd : L.dropWhile (fun p => decide (p.1 < f.1)) with
    | nil => rw [hd] at hb; cases hb
    | cons q M =>
      have hq : (decide (q.1 < f.1)) = false := dw_head (q := fun p : Nm × (List UInt8 × Int) => decide (p.1 < f.1)) hd
      have hq1 : f.1 ≤ q.1 := Std.not_lt.1 (of_decide_eq_false hq)
      rw [hd] at hb
      have h2 := h.2.1
      rw [hd] at h2
      simp only [mkeys, List.map_cons, List.pairwise_cons] at h2
      simp only [mkeys, List.map_cons, List.mem_cons] at hb
      rcases hb with rfl | hb
      · exact hq1
      · exact Std.le_trans hq1 (h2.1 b hb)
  exact ⟨h.1, ⟨hge, h.2.1⟩, fun a ha b hb => by
    rcases List.mem_cons.1 hb with rfl | hb
    · exact hlt a ha
    · exact h.2.2 a ha b hb⟩
theorem sim_new {V L : FV} (h : Sim V L) {s : Nm} (hs : mhas V s = false) (x : List UInt8 × Int) : Sim (mset V s x) (insV L (s, x)) := by
  have hL : s ∉ mkeys L := no_mem (by rw [← h.has]; exact hs)
  refine ⟨mset_nodup h.nv _ _, insV_nd h.nl hL, insV_so h.so, fun t => ?_⟩
  rw [mget_set, insV_get _ hL, h.eq]
theorem mkeys_del_sub : ∀ (V : FV) (s : Nm), List.Sublist (mkeys (mdel V s)) (mkeys V)
  | [], _ => List.Sublist.refl _
  | (k, u) :: V, s => by
    unfold mdel
    split
    · exact List.sublist_cons_self _ _
    · exact (mkeys_del_sub V s).cons_cons k
theorem sim_del {V L : FV} (h : Sim V L) (s : Nm) : Sim (mdel V s) (mdel L s) :=
  ⟨mdel_nodup h.nv _, mdel_nodup h.nl _, h.so.sublist (mkeys_del_sub L s), fun t => by rw [mget_del h.nv, mget_del h.nl, h.eq]⟩
theorem sim_app {room calls : Int} {V L : FV} (h : Sim V L) (name : Nm) (more : List UInt8) : (appR room calls V name more).1 = (appI room calls L name more).1 ∧ Sim (appR room calls V name more).2 (appI room calls L name more).2 := by
  unfold appR appI
  rw [h.used, h.has, h.len, h.getD]
  by_cases h0 : calls = 0
  · rw [if_pos h0, if_pos h0]; exact ⟨rfl, h⟩
  · rw [if_neg h0, if_neg h0]
    by_cases h1 : nameB name = false
    · rw [if_pos h1, if_pos h1]; exact ⟨rfl, h⟩
    · rw [if_neg h1, if_neg h1]
      by_cases h2 : (decide ((more.length : Int) > room - (usedV L : Int)) || (!mhas L name && decide ((L.length : Int) ≥ 4096))) = true
      · rw [if_pos h2, if_pos h2]; exact ⟨rfl, h⟩
      · rw [if_neg h2, if_neg h2]
        by_cases h3 : mhas L name = true
        · rw [if_pos h3]; exact ⟨rfl, sim_set h (by rw [h.has]; exact h3) _⟩
        · rw [if_neg h3]
          have h4 : mhas L name = false := by simpa using h3
          have h5 : mgetD L name zF = zF := by unfold mgetD; rw [mget_none.2 (no_mem h4)]; rfl
          rw [h5]
          exact ⟨rfl, sim_new h (by rw [h.has]; exact h4) _⟩
theorem sim_fold : ∀ {ns : List Nm} {V L : FV}, Sim V L → ns.all (mhas V) = true → Sim (ns.foldl syncStep V) (ns.foldl syncStep L)
  | [], _, _, h, _ => h
  | a :: ns, V, L, h, ha => by
    rw [List.all_cons, Bool.and_eq_true] at ha
    show Sim (ns.foldl syncStep (syncStep V a)) (ns.foldl syncStep (syncStep L a))
    refine sim_fold ?_ ?_
    · unfold syncStep; rw [h.getD]; exact sim_set h ha.1 _
    · rw [List.all_eq_true]; intro t ht; rw [has_step ha.1]; exact List.all_eq_true.1 ha.2 t ht
theorem sim_sync {calls : Int} {V L : FV} (h : Sim V L) (names : List Nm) : (syncR calls V names).1 = (syncR calls L names).1 ∧ Sim (syncR calls V names).2 (syncR calls L names).2 := by
  unfold syncR
  rw [← h.all]
  by_cases h0 : calls = 0
  · rw [if_pos h0, if_pos h0]; exact ⟨rfl, h⟩
  · rw [if_neg h0, if_neg h0]
    by_cases h1 : names.all (mhas V) = false
    · rw [if_pos h1, if_pos h1]; exact ⟨rfl, h⟩
    · rw [if_neg h1, if_neg h1]; exact ⟨rfl, sim_fold h (by simpa using h1)⟩
theorem sim_dels : ∀ {ns : List Nm} {V L : FV}, Sim V L → Sim (ns.foldl mdel V) (ns.foldl mdel L)
  | [], _, _, h => h
  | a :: ns, V, L, h => by
    show Sim (ns.foldl mdel (mdel V a)) (ns.foldl mdel (mdel L a))
    exact sim_dels (sim_del h a)
theorem sim_rem {calls : Int} {V L : FV} (h : Sim V L) (names : List Nm) : (remR calls V names).1 = (remR calls L names).1 ∧ Sim (remR calls V names).2 (remR calls L names).2 := by
  unfold remR
  rw [← h.all]
  by_cases h0 : calls = 0
  · rw [if_pos h0, if_pos h0]; exact ⟨rfl, h⟩
  · rw [if_neg h0, if_neg h0]
    by_cases h1 : (!names.all (mhas V) || !onceB names) = true
    · rw [if_pos h1, if_pos h1]; exact ⟨rfl, h⟩
    · rw [if_neg h1, if_neg h1]; exact ⟨rfl, sim_dels h⟩
theorem sim_cut {calls : Int} {V L : FV} (h : Sim V L) (name : Nm) (n : Int) : (cutR calls V name n).1 = (cutR calls L name n).1 ∧ Sim (cutR calls V name n).2 (cutR calls L name n).2 := by
  unfold cutR
  rw [← h.has, ← h.getD]
  by_cases h0 : calls = 0
  · rw [if_pos h0, if_pos h0]; exact ⟨rfl, h⟩
  · rw [if_neg h0, if_neg h0]
    by_cases h1 : mhas V name = false
    · rw [if_pos h1, if_pos h1]; exact ⟨rfl, h⟩
    · rw [if_neg h1, if_neg h1]
      by_cases h2 : (decide (n < 0) || decide (n > ((mgetD V name zF).1.length : Int))) = true
      · rw [if_pos h2, if_pos h2]; exact ⟨rfl, h⟩
      · rw [if_neg h2, if_neg h2]; exact ⟨rfl, sim_set h (by simpa using h1) _⟩
theorem sim_ren {calls : Int} {V L : FV} (h : Sim V L) (a b : Nm) : (renR calls V a b).1 = (renI calls L a b).1 ∧ Sim (renR calls V a b).2 (renI calls L a b).2 := by
  unfold renR renI
  rw [← h.has, ← h.getD]
  by_cases h0 : calls = 0
  · rw [if_pos h0, if_pos h0]; exact ⟨rfl, h⟩
  · rw [if_neg h0, if_neg h0]
    by_cases h1 : (!mhas V a || !nameB b) = true
    · rw [if_pos h1, if_pos h1]; exact ⟨rfl, h⟩
    · rw [if_neg h1, if_neg h1]
      refine ⟨rfl, ?_⟩
      have hd := sim_del h a
      have hb : b ∉ mkeys (mdel (mdel L a) b) := mget_none.1 (by rw [mget_del hd.nl, if_pos rfl])
      refine ⟨mset_nodup hd.nv _ _, insV_nd (mdel_nodup hd.nl _) hb, insV_so (hd.so.sublist (mkeys_del_sub _ _)), fun t => ?_⟩
      rw [mget_set, insV_get _ hb, mget_del hd.nl, hd.eq]
      by_cases e : b = t
      · rw [if_pos e, if_pos e]
      · rw [if_neg e, if_neg e, if_neg e]
theorem sim_crK {keep : List Int} {ns : List Nm} {V L : FV} (h : Sim V L) (ha : ns.all (mhas V) = true) : ∀ {k : Nat}, k ≤ ns.length → Sim (crK keep ns V k).1 (crK keep ns L k).1 ∧ (crK keep ns V k).2 = (crK keep ns L k).2
  | 0, _ => ⟨h, rfl⟩
  | k + 1, hk => by
    obtain ⟨i1, i2⟩ := sim_crK (keep := keep) h ha (k := k) (by omega)
    have hs : mhas (crK keep ns V k).1 (ns.getD k default) = true := by rw [cr_get ha (by omega)]; exact (List.all_eq_true.1 ha) _ (getD_in (by omega))
    simp only [crK]
    rw [← i1.getD, ← i2]
    exact ⟨sim_set i1 hs _, rfl⟩
theorem sim_cr {V L : FV} (h : Sim V L) (keep : List Int) : (crR keep V).2 = (crK keep (mkeys L) L L.length).2 ∧ Sim (crR keep V).1 (crK keep (mkeys L) L L.length).1 := by
  unfold crR
  rw [← h.keys, ← h.len]
  have := sim_crK (keep := keep) h (all_keys V) (k := V.length) (by rw [sortS_len]; simp [mkeys])
  exact ⟨this.2, this.1⟩
end Go.Dsk

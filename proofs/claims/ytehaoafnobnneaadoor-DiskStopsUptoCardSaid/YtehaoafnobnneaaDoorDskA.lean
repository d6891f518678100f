/-
  An act, in plain words. No program in sight.
-/
import Derived.Test.YtehaoafnobnneaaDoorDskS2
set_option linter.unusedVariables false
set_option linter.unusedSimpArgs false
namespace Go.Dsk
open Go Go.SL
def nameI (a : DAct) (k : Nat) : Nm := if (k : Int) < (a.Names.xs.length : Int) then a.Names.xs.getD k default else []
def sumN (ns : List Nm) : Nat := (ns.map fun n => n.length + 1).sum
def sumB_ (bs : List (SL UInt8)) : Nat := (bs.map fun b => b.xs.length + 1).sum
def actSize (a : DAct) : Nat := a.Keep.xs.length + 1 + sumN a.Names.xs + sumB_ a.Bs.xs
theorem sumN_next {ns : List Nm} {k : Nat} (hk : k < ns.length) : sumN (ns.take (k + 1)) = sumN (ns.take k) + ((ns.getD k default).length + 1) := by
  rw [take_succ_getD ns k hk]; simp [sumN]
theorem sumB_next {bs : List (SL UInt8)} {k : Nat} (hk : k < bs.length) : sumB_ (bs.take (k + 1)) = sumB_ (bs.take k) + ((bs.getD k default).xs.length + 1) := by
  rw [take_succ_getD bs k hk]; simp [sumB_]
theorem sumN_le (ns : List Nm) (k : Nat) : sumN (ns.take k) ≤ sumN ns := by
  have h : sumN ns = sumN (ns.take k) + sumN (ns.drop k) := by
    unfold sumN
    rw [← List.sum_append_nat, ← List.map_append, List.take_append_drop]
  omega
theorem sumB_le (bs : List (SL UInt8)) (k : Nat) : sumB_ (bs.take k) ≤ sumB_ bs := by
  have h : sumB_ bs = sumB_ (bs.take k) + sumB_ (bs.drop k) := by
    unfold sumB_
    rw [← List.sum_append_nat, ← List.map_append, List.take_append_drop]
  omega
theorem sumN_len : ∀ (ns : List Nm), ns.length ≤ sumN ns
  | [] => Nat.le_refl _
  | n :: ns => by
    have := sumN_len ns
    simp only [sumN, List.map_cons, List.sum_cons, List.length_cons] at this ⊢
    omega
theorem sumB_len : ∀ (bs : List (SL UInt8)), bs.length + (catS bs).length ≤ sumB_ bs
  | [] => Nat.le_refl _
  | n :: bs => by
    have := sumB_len bs
    simp only [sumB_, catS, List.map_cons, List.sum_cons, List.length_cons, List.flatMap_cons, List.length_append] at this ⊢
    omega
theorem sumN_mem : ∀ {ns : List Nm} {n : Nm}, n ∈ ns → n.length ≤ sumN ns
  | [], _, h => by cases h
  | m :: ns, n, h => by
    simp only [sumN, List.map_cons, List.sum_cons]
    rcases List.mem_cons.1 h with rfl | h
    · omega
    · have := sumN_mem h
      simp only [sumN] at this
      omega
theorem nameI_len (a : DAct) (k : Nat) : (nameI a k).length ≤ sumN a.Names.xs := by
  unfold nameI
  split
  · exact sumN_mem (getD_in (by omega))
  · exact Nat.zero_le _
structure DActM (a : DAct) (ρ : Hp) : Prop where
  nm : a.Names.ro Go.SL.encStr 1 ρ
  bs : a.Bs.ro encSL 1 ρ
  bm : ∀ s ∈ a.Bs.xs, s.ro encB 1 ρ
  kp : a.Keep.ro encI 1 ρ
theorem DActM.mono {a : DAct} {ρ ρ' : Hp} (h : ρ.le ρ') (m : DActM a ρ) : DActM a ρ' := ⟨Ro.mono h m.nm, Ro.mono h m.bs, fun s hs => Ro.mono h (m.bm s hs), Ro.mono h m.kp⟩
def actP (room calls : Int) (V : FV) (a : DAct) : Int × FV × Int :=
  if a.Kind = 0 then ((appR room calls V (nameI a 0) (catS a.Bs.xs)).1, (appR room calls V (nameI a 0) (catS a.Bs.xs)).2, decC calls)
  else if a.Kind = 1 then ((syncR calls V a.Names.xs).1, (syncR calls V a.Names.xs).2, decC calls)
  else if a.Kind = 2 then ((renR calls V (nameI a 0) (nameI a 1)).1, (renR calls V (nameI a 0) (nameI a 1)).2, decC calls)
  else if a.Kind = 3 then ((remR calls V a.Names.xs).1, (remR calls V a.Names.xs).2, decC calls)
  else if a.Kind = 4 then ((cutR calls V (nameI a 0) a.N).1, (cutR calls V (nameI a 0) a.N).2, decC calls)
  else if a.Kind = 5 then ((crR a.Keep.xs V).2, (crR a.Keep.xs V).1, -1)
  else if a.Kind = 6 then (0, V, if (-1) > a.N then (-1) else a.N)
  else (0, V, calls)
def actR (room : Int) (e : Bool) (c : Int) (L : FV) (a : DAct) : Int × FV × Bool × Int :=
  if a.Kind = 0 then ((appI room (cI e c) L (nameI a 0) (catS a.Bs.xs)).1, (appI room (cI e c) L (nameI a 0) (catS a.Bs.xs)).2, e, decR e c)
  else if a.Kind = 1 then ((syncR (cI e c) L a.Names.xs).1, (syncR (cI e c) L a.Names.xs).2, e, decR e c)
  else if a.Kind = 2 then ((renI (cI e c) L (nameI a 0) (nameI a 1)).1, (renI (cI e c) L (nameI a 0) (nameI a 1)).2, e, decR e c)
  else if a.Kind = 3 then ((remR (cI e c) L a.Names.xs).1, (remR (cI e c) L a.Names.xs).2, e, decR e c)
  else if a.Kind = 4 then ((cutR (cI e c) L (nameI a 0) a.N).1, (cutR (cI e c) L (nameI a 0) a.N).2, e, decR e c)
  else if a.Kind = 5 then ((crK a.Keep.xs (mkeys L) L L.length).2, (crK a.Keep.xs (mkeys L) L L.length).1, false, c)
  else if a.Kind = 6 then (0, L, decide (0 ≤ a.N), a.N)
  else (0, L, e, c)
/-- what of them is alike, and how large it may be -/
structure Alike (room calls : Int) (e : Bool) (c : Int) (V L : FV) (n : Nat) : Prop where
  sim : Sim V L
  cl : cI e c = calls
  ce : e = true → 0 ≤ c
  cb : c ≤ 9223372036854775807
  lim : Lim V n
  us : (usedV V : Int) ≤ room
theorem used_mono_le {V W : FV} {room : Int} (h : usedV W ≤ usedV V) (hr : (usedV V : Int) ≤ room) : (usedV W : Int) ≤ room := by omega
theorem lim_self {V : FV} (h : VOk V) : Lim V (usedV V) := ⟨h, Nat.le_refl _, h.us⟩
theorem act_alike {room calls : Int} {e : Bool} {c : Int} {V L : FV} {n : Nat} (h : Alike room calls e c V L n) (a : DAct) (hN : a.N ≤ 9223372036854775807) (hn : n + (catS a.Bs.xs).length ≤ 1000000000000) :
    (actP room calls V a).1 = (actR room e c L a).1 ∧ Alike room (actP room calls V a).2.2 (actR room e c L a).2.2.1 (actR room e c L a).2.2.2 (actP room calls V a).2.1 (actR room e c L a).2.1 (n + (catS a.Bs.xs).length) := by
  obtain ⟨sim, cl, ce, cb, lim, us⟩ := h
  have hd := decR_ok ce
  have hl : ∀ {W : FV}, Lim W n → Lim W (n + (catS a.Bs.xs).length) := fun w => lim_le w (by omega) hn
  have hb : decR e c ≤ 9223372036854775807 := by unfold decR; split <;> omega
  have hu := lim_self lim.ok
  unfold actP actR
  by_cases h0 : a.Kind = 0
  · simp only [if_pos h0]
    subst cl
    have := sim_app (room := room) (calls := cI e c) sim (nameI a 0) (catS a.Bs.xs)
    exact ⟨this.1, ⟨this.2, hd.1, hd.2, hb, lim_app lim hn, used_app_room us⟩⟩
  simp only [if_neg h0]
  by_cases h1 : a.Kind = 1
  · simp only [if_pos h1]
    subst cl
    have := sim_sync (calls := cI e c) sim a.Names.xs
    exact ⟨this.1, ⟨this.2, hd.1, hd.2, hb, hl (lim_sync lim), used_mono_le (lim_sync hu).us us⟩⟩
  simp only [if_neg h1]
  by_cases h2 : a.Kind = 2
  · simp only [if_pos h2]
    subst cl
    have := sim_ren (calls := cI e c) sim (nameI a 0) (nameI a 1)
    exact ⟨this.1, ⟨this.2, hd.1, hd.2, hb, hl (lim_ren lim), used_mono_le (lim_ren hu).us us⟩⟩
  simp only [if_neg h2]
  by_cases h3 : a.Kind = 3
  · simp only [if_pos h3]
    subst cl
    have := sim_rem (calls := cI e c) sim a.Names.xs
    exact ⟨this.1, ⟨this.2, hd.1, hd.2, hb, hl (lim_rem lim), used_mono_le (lim_rem hu).us us⟩⟩
  simp only [if_neg h3]
  by_cases h4 : a.Kind = 4
  · simp only [if_pos h4]
    subst cl
    have := sim_cut (calls := cI e c) sim (nameI a 0) a.N
    exact ⟨this.1, ⟨this.2, hd.1, hd.2, hb, hl (lim_cut lim), used_mono_le (lim_cut hu).us us⟩⟩
  simp only [if_neg h4]
  by_cases h5 : a.Kind = 5
  · simp only [if_pos h5]
    have := sim_cr sim a.Keep.xs
    exact ⟨this.1, ⟨this.2, rfl, (fun h => by cases h), cb, hl (lim_cr lim), used_mono_le (lim_cr hu).us us⟩⟩
  simp only [if_neg h5]
  by_cases h6 : a.Kind = 6
  · simp only [if_pos h6]
    refine ⟨trivial, ⟨sim, ?_, fun h => of_decide_eq_true h, hN, hl lim, us⟩⟩
    unfold cI
    by_cases h7 : 0 ≤ a.N
    · rw [decide_eq_true h7, if_pos rfl, if_neg (by omega)]
    · rw [decide_eq_false h7]
      simp only [Bool.false_eq_true, if_false]
      split <;> omega
  simp only [if_neg h6]
  exact ⟨trivial, ⟨sim, cl, ce, cb, hl lim, us⟩⟩
theorem told_nm {T : FT} {R : RT} (h : Sim (vw T) (rvw R)) {k : Nat} (hk : k < R.length) : (sortS (T.map (·.name))).getD k default = (R.getD k default).Name := by
  have h1 := h.keys
  rw [vw_keys, rvw_keys] at h1
  rw [h1, rname_get hk]
theorem told_get {T : FT} {R : RT} (h : Sim (vw T) (rvw R)) {k : Nat} (hk : k < R.length) : mget (vw T) (R.getD k default).Name = some ((R.getD k default).B.xs, (R.getD k default).Safe) := by
  rw [h.eq]
  exact rget (by rw [← rvw_keys]; exact h.nl) hk
theorem told_end {V : FV} {s : Nm} (h : mhas V s = false) : (mgetD V s zF).1.length = 0 ∧ (mgetD V s zF).2 = 0 := by
  have : mgetD V s zF = zF := by unfold mgetD; rw [mget_none.2 (no_mem h)]; rfl
  rw [this]; exact ⟨rfl, rfl⟩
theorem told_len {T : FT} {R : RT} (h : Sim (vw T) (rvw R)) : T.length = R.length := by have := h.len; rwa [vw_len, rvw_len] at this
theorem told_used {T : FT} {R : RT} (h : Sim (vw T) (rvw R)) : usedT T = usedR R := by have := h.used; rwa [used_vw, usedR_vw] at this
/-! ### Copies handed in -/
def rowB (tb : TypeId) (s : SL UInt8) : Asn := .row tb 1 s.a s.xs.length s.cap (s.xs.flatMap encB)
theorem lent_bun {ρ ρ' : Hp} {Δ Δ' : List Asn} (l : Lent ρ ρ' Δ) {tb : TypeId} {bs : List (SL UInt8)} (p : Pick (Bun (bs.map (rowB tb))) [] Δ Δ') : ∀ s ∈ bs, s.ro encB 1 ρ' := by
  refine Lent.raw (B := fun h => ∀ s ∈ bs, s.ro encB 1 h) l p fun h hA hl s hs => ?_
  obtain ⟨i, hi, rfl⟩ := List.getElem_of_mem hs
  have hi' : i < (bs.map (rowB tb)).length := by simpa using hi
  have hp := pick_idx (bs.map (rowB tb)) i hi'
  rw [List.getElem_map] at hp
  exact Lent.row (ρ := ρ') ⟨Hp.le_refl _, h, hl, hA⟩ hp
def HS (l : List (SL UInt8)) : List (Option Addr × Nat × Nat) := l.map fun s => (s.a, s.xs.length, s.cap)
theorem hs_len {l l' : List (SL UInt8)} (h : HS l = HS l') : l.length = l'.length := by have := congrArg List.length h; simpa [HS] using this
theorem hs_enc : ∀ {l l' : List (SL UInt8)}, HS l = HS l' → l.flatMap encSL = l'.flatMap encSL
  | [], [], _ => rfl
  | [], _ :: _, h => by cases h
  | _ :: _, [], h => by cases h
  | a :: l, b :: l', h => by
    simp only [HS, List.map_cons, List.cons.injEq, Prod.mk.injEq] at h
    have ih := hs_enc (l := l) (l' := l') h.2
    rw [List.flatMap_cons, List.flatMap_cons, ih]
    congr 1
    simp only [encSL, SL.v, h.1.1, h.1.2.1, h.1.2.2]
theorem hs_set {l : List (SL UInt8)} {i : Nat} (hi : i < l.length) {xs : List UInt8} (hx : xs.length = (l.getD i default).xs.length) : HS (l.set i ⟨(l.getD i default).a, xs, (l.getD i default).cap⟩) = HS l := by
  unfold HS
  rw [List.map_set]
  apply List.ext_getElem?
  intro j
  by_cases q : i = j
  · subst q
    have h2 : l[i] = l.getD i default := by simp [List.getD, hi]
    rw [List.getElem?_set_self (by simpa using hi), List.getElem?_map, List.getElem?_eq_getElem hi, h2]
    simp only [hx, Option.map_some]
  · rw [List.getElem?_set, if_neg q]
theorem bunr_open {tb : TypeId} {l : List (SL UInt8)} {Γ : List Asn} {i : Nat} (hi : i < l.length) : Ent (Bun (l.map (rowB tb)) :: Γ) (rowB tb (l.getD i default) :: Bun ((l.map (rowB tb)).eraseIdx i) :: Γ) := by
  have h := bun_get (l.map (rowB tb)) Γ i (by simpa using hi)
  rwa [List.getElem_map, show l[i] = l.getD i default from by simp [List.getD, hi]] at h
theorem bunr_set {tb : TypeId} {l : List (SL UInt8)} {Γ : List Asn} {i n : Nat} (hi : i < l.length) (xs : List UInt8) (hn : n = xs.length) : Ent (.row tb 1 (l.getD i default).a n (l.getD i default).cap (xs.flatMap encB) :: Bun ((l.map (rowB tb)).eraseIdx i) :: Γ) (Bun ((l.set i ⟨(l.getD i default).a, xs, (l.getD i default).cap⟩).map (rowB tb)) :: Γ) := by
  subst hn
  have h := bun_set (l.map (rowB tb)) Γ i (rowB tb ⟨(l.getD i default).a, xs, (l.getD i default).cap⟩) (by simpa using hi)
  rwa [← List.map_set] at h
theorem copies_size {L bs : List (SL UInt8)} (h : L.map (fun s => s.xs) = bs.map (fun s => s.xs)) : sumB_ L = sumB_ bs ∧ catS L = catS bs := by
  constructor
  · have e : ∀ l : List (SL UInt8), sumB_ l = ((l.map (fun s => s.xs)).map fun x => x.length + 1).sum := fun l => by simp [sumB_, Function.comp_def]
    rw [e, e, h]
  · have e : ∀ l : List (SL UInt8), catS l = (l.map (fun s => s.xs)).flatten := fun l => by simp [catS, List.flatMap]
    rw [e, e, h]
theorem cl_b {calls : Int} {e : Bool} {c : Int} (h : cI e c = calls) (hc : c ≤ 9223372036854775807) : calls ≤ 9223372036854775807 := by
  subst h; unfold cI; split <;> omega
theorem getD_setS {l : List (SL UInt8)} {i : Nat} {e : SL UInt8} (hi : i < l.length) : (l.set i e).getD i default = e := by simp [List.getD, hi]
theorem alike_next {room calls : Int} {e : Bool} {c : Int} {V L V1 L1 : FV} {n m : Nat} (h : Alike room calls e c V L n) (hv : V1 = V) (hl : L1 = L) (hm : n ≤ m) (hb : m ≤ 1000000000000) : Alike room calls e c V1 L1 m := by
  subst hv; subst hl
  exact ⟨h.sim, h.cl, h.ce, h.cb, lim_le h.lim hm hb, h.us⟩
theorem sumN_bd {N : Nat} : ∀ {ns : List Nm}, (∀ n ∈ ns, n.length ≤ N) → sumN ns ≤ ns.length * (N + 1)
  | [], _ => Nat.zero_le _
  | n :: ns, h => by
    have h1 := sumN_bd (N := N) (ns := ns) fun m hm => h m (List.mem_cons_of_mem _ hm)
    have h2 := h n List.mem_cons_self
    simp only [sumN, List.map_cons, List.sum_cons, List.length_cons, Nat.add_mul, Nat.one_mul] at h1 ⊢
    omega
theorem sumB_bd {N : Nat} : ∀ {bs : List (SL UInt8)}, (∀ b ∈ bs, b.xs.length ≤ N) → sumB_ bs ≤ bs.length * (N + 1)
  | [], _ => Nat.zero_le _
  | b :: bs, h => by
    have h1 := sumB_bd (N := N) (bs := bs) fun m hm => h m (List.mem_cons_of_mem _ hm)
    have h2 := h b List.mem_cons_self
    simp only [sumB_, List.map_cons, List.sum_cons, List.length_cons, Nat.add_mul, Nat.one_mul] at h1 ⊢
    omega
theorem size_bd {a : DAct} {N : Nat} (hN : N ≤ 2000000) (h1 : a.Keep.xs.length ≤ N) (h2 : a.Names.xs.length ≤ N) (h3 : ∀ n ∈ a.Names.xs, n.length ≤ N) (h4 : a.Bs.xs.length ≤ N) (h5 : ∀ b ∈ a.Bs.xs, b.xs.length ≤ N) : actSize a ≤ 4611686018427387904 := by
  have e1 := sumN_bd h3
  have e2 := sumB_bd h5
  have e3 : a.Names.xs.length * (N + 1) ≤ 2000000 * 2000001 := Nat.mul_le_mul (by omega) (by omega)
  have e4 : a.Bs.xs.length * (N + 1) ≤ 2000000 * 2000001 := Nat.mul_le_mul (by omega) (by omega)
  have e5 : actSize a = a.Keep.xs.length + 1 + sumN a.Names.xs + sumB_ a.Bs.xs := rfl
  omega
end Go.Dsk

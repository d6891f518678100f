/- part -/
import Derived.Test.YtijldgggjioccaaGreatDoorSmAA
import Derived.Test.YtijldgggjioccaaGreatDoorMouPP
import Derived.Test.YtijldgggjioccaaGreatDoorDskPP
set_option linter.unusedVariables false
namespace Go.Hrd
open Go Go.SL
structure State1 where
  Term : Int
  Vote : Int
def zState1 : State1 := ⟨0, 0⟩
instance : Inhabited State1 := ⟨zState1⟩
structure Hard1 where
  State : State1
  d : (Option Nat)
def zHard1 : Hard1 := ⟨zState1, none⟩
instance : Inhabited Hard1 := ⟨zHard1⟩
end Go.Hrd
set_option linter.unusedSimpArgs false
namespace Go.Hrd
open Go Go.SL Go.Mou Go.Dsk Go.Sm
instance : DecidableEq State1 := fun a b => if h : a.Term = b.Term ∧ a.Vote = b.Vote then isTrue (by cases a; cases b; simp_all) else isFalse (fun e => h (by subst e; exact ⟨rfl, rfl⟩))
def n0 : Nm := [104, 97, 114, 100, 45, 48]
def n1 : Nm := [104, 97, 114, 100, 45, 49]
def sh3 : Sh := .row [.n, .n, .n]
def beW (a b c d : UInt8) : BitVec 32 := ((((a.toBitVec.setWidth 32) <<< 24) ||| ((b.toBitVec.setWidth 32) <<< 16)) ||| ((c.toBitVec.setWidth 32) <<< 8)) ||| (d.toBitVec.setWidth 32)
def wB (w : BitVec 32) : List UInt8 := [UInt8.ofNat (w >>> 24).toNat, UInt8.ofNat (w >>> 16).toNat, UInt8.ofNat (w >>> 8).toNat, UInt8.ofNat w.toNat]
def zSt : State1 := ⟨0, 0⟩
def top62 : Nat := 4611686018427387904
def goodV (v : PV) : Bool := !(decide (top62 ≤ (v.L.getD 0 default).N) || decide (top62 ≤ (v.L.getD 1 default).N) || decide (top62 < (v.L.getD 2 default).N))
def valF (v : PV) : Nat × State1 := if goodV v = true then ((v.L.getD 0 default).N, ⟨((v.L.getD 1 default).N : Int), ((v.L.getD 2 default).N : Int) - 1⟩) else (0, zSt)
def bodyF (b : List UInt8) : Nat × State1 := match takeF sh3 b with
  | .ok (v, []) => valF v
  | _ => (0, zSt)
def slotF (b : List UInt8) : Nat × State1 :=
  if b.length < 4 then (0, zSt) else if sumB (b.drop 4) = beW (b.getD 0 default) (b.getD 1 default) (b.getD 2 default) (b.getD 3 default) then bodyF (b.drop 4) else (0, zSt)
def slotV (V : FV) (n : Nm) : Nat × State1 := slotF (mgetD V n zF).1
def remS (calls : Int) (V : FV) (o : Nm) : Int × FV × Int := if mhas V o = true then ((remR calls V [o]).1, (remR calls V [o]).2, decC calls) else (0, V, calls)
theorem get_used : ∀ (V : FV) (s : Nm), (mgetD V s zF).1.length ≤ usedV V
  | [], _ => Nat.zero_le _
  | (k, u) :: V, s => by
    have h := get_used V s; unfold mgetD at h ⊢; simp only [mget, usedV, List.map_cons, List.sum_cons] at h ⊢
    split
    · simp only [Option.getD_some]; omega
    · omega
theorem name_used {T : FT} (h : FOk T) (s : Nm) : (mgetD (vw T) s zF).1.length ≤ 1000000000000 := by
  have h1 := get_used (vw T) s; rw [used_vw] at h1; exact Nat.le_trans h1 h.us
theorem leaf_ro (n : Nat) (ρ : Hp) : (VT.mk n ⟨none, [], 0⟩ none 0 []).ro ρ := ⟨Ro.nil _ _, Ro.nil _ _, trivial⟩
theorem ro_mk {ρ : Hp} {n : Nat} {b : SL UInt8} {a : Option Addr} {c : Nat} {l : List VT} (h1 : b.ro encB 1 ρ) (h2 : Ro ρ 3 a l.length c ((l.map VT.val).flatMap encVal1)) (h3 : ∀ x ∈ l, x.ro ρ) : (VT.mk n b a c l).ro ρ := ⟨h1, h2, (ros_all ρ).2 h3⟩
theorem numF_le {n : Nat} (h : n < 18446744073709551616) : (numF n).length ≤ 9 := by
  have := lowD_le8 h; rw [numF_len]; omega
section
variable {room calls : Int} {V : FV} {h s : State1}
end
theorem decC_le {c : Int} (h : c ≤ 9223372036854775807) : decC c ≤ 9223372036854775807 := by unfold decC; split <;> omega
theorem remS_calls {c : Int} (V : FV) (o : Nm) (h : c ≤ 9223372036854775807) : (remS c V o).2.2 ≤ 9223372036854775807 := by
  unfold remS
  split
  · exact decC_le h
  · exact h
theorem get_set : ∀ (V : FV) (s : Nm) (x : List UInt8 × Int), usedV (mset V s x) + (mgetD V s zF).1.length = usedV V + x.1.length
  | [], s, x => by simp [mset, mgetD, mget, usedV, zF]
  | (k, u) :: V, s, x => by
    have h := get_set V s x; unfold mgetD at h ⊢; simp only [mset, mget] at h ⊢
    split
    · simp only [usedV, List.map_cons, List.sum_cons, Option.getD_some]; omega
    · simp only [usedV, List.map_cons, List.sum_cons] at h ⊢; omega
theorem get_del : ∀ (V : FV) (s : Nm), usedV (mdel V s) + (mgetD V s zF).1.length = usedV V
  | [], s => by simp [mdel, mgetD, mget, usedV, zF]
  | (k, u) :: V, s => by
    have h := get_del V s; unfold mgetD at h ⊢; simp only [mdel, mget] at h ⊢
    split
    · simp only [usedV, List.map_cons, List.sum_cons, Option.getD_some]; omega
    · simp only [usedV, List.map_cons, List.sum_cons] at h ⊢; omega
theorem remS_used (c : Int) (V : FV) (o : Nm) : usedV (remS c V o).2.1 ≤ usedV V := by
  unfold remS
  split
  · show usedV (remR c V [o]).2 ≤ _; unfold remR
    split
    · exact Nat.le_refl _
    · split
      · exact Nat.le_refl _
      · show usedV ([o].foldl mdel V) ≤ _; have := get_del V o; simp only [List.foldl_cons, List.foldl_nil]; omega
  · exact Nat.le_refl _
theorem remS_has {c : Int} {V : FV} {o : Nm} (h : mhas V o = true) : remS c V o = ((remR c V [o]).1, (remR c V [o]).2, decC c) := if_pos h
theorem remS_no {c : Int} {V : FV} {o : Nm} (h : mhas V o = false) : remS c V o = (0, V, c) := if_neg (by rw [h]; decide)
theorem nameB_has {V : FV} (h : VOk V) {s : Nm} (hs : nameB s = true) : s.length ≤ 32 := ((nameB_iff s).1 hs).2.1
theorem mem_set : ∀ {V : FV} {s : Nm} {x : List UInt8 × Int} {p : Nm × (List UInt8 × Int)}, p ∈ mset V s x → p ∈ V ∨ p = (s, x)
  | [], s, x, p, h => by simp only [mset, List.mem_singleton] at h; exact .inr h
  | (k, u) :: V, s, x, p, h => by
    simp only [mset] at h
    split at h
    · rename_i e
      rcases List.mem_cons.1 h with h | h
      · exact .inr (by first | exact h | rw [h, e])
      · exact .inl (List.mem_cons_of_mem _ h)
    · rcases List.mem_cons.1 h with h | h
      · exact .inl (by rw [h]; exact List.mem_cons_self)
      · exact (mem_set h).imp (List.mem_cons_of_mem _) id
theorem mem_del : ∀ {V : FV} {s : Nm} {p : Nm × (List UInt8 × Int)}, p ∈ mdel V s → p ∈ V
  | [], _, _, h => by cases h
  | (k, u) :: V, s, p, h => by
    simp only [mdel] at h
    split at h
    · exact List.mem_cons_of_mem _ h
    · rcases List.mem_cons.1 h with h | h
      · rw [h]; exact List.mem_cons_self
      · exact List.mem_cons_of_mem _ (mem_del h)
theorem len_del : ∀ (V : FV) (s : Nm), (mdel V s).length ≤ V.length
  | [], _ => Nat.le_refl _
  | (k, u) :: V, s => by
    have := len_del V s; simp only [mdel]
    split
    · simp
    · simp only [List.length_cons]; omega
theorem vok_del {V : FV} (h : VOk V) (s : Nm) : VOk (mdel V s) :=
  ⟨mdel_nodup h.nd _, fun p hp => h.sf p (mem_del hp), fun p hp => h.nm p (mem_del hp), Nat.le_trans (len_del V s) h.ln, by have := get_del V s; have := h.us; omega⟩
theorem vok_rem {V : FV} {calls : Int} {o : Nm} (h : VOk V) : VOk (remR calls V [o]).2 := by
  unfold remR
  split
  · exact h
  · split
    · exact h
    · exact vok_del h o
theorem safe_get {V : FV} (h : VOk V) (s : Nm) : 0 ≤ (mgetD V s zF).2 ∧ (mgetD V s zF).2 ≤ ((mgetD V s zF).1.length : Int) := by
  cases c : mget V s with
  | none => rw [show mgetD V s zF = zF from by unfold mgetD; rw [c]; rfl]; exact ⟨by decide, by decide⟩
  | some x => rw [getD_of c]; exact h.sf _ (mget_some c)
theorem vok_set {V : FV} {s : Nm} {b : List UInt8} {k : Int} (h : VOk V) (hs : s.length ≤ 32) (hl : mhas V s = true ∨ V.length < 4096) (hk : 0 ≤ k ∧ k ≤ (b.length : Int)) (hu : usedV (mset V s (b, k)) ≤ 1000000000000) : VOk (mset V s (b, k)) := by
  refine ⟨mset_nodup h.nd _ _, fun p hp => ?_, fun p hp => ?_, ?_, hu⟩
  · rcases mem_set hp with hp | rfl
    · exact h.sf p hp
    · exact hk
  · rcases mem_set hp with hp | rfl
    · exact h.nm p hp
    · exact hs
  · rcases hl with hl | hl
    · have h1 := congrArg List.length (mkeys_set V s (b, k)); rw [if_pos (mhas_iff.1 hl)] at h1; have h2 : (mset V s (b, k)).length = V.length := by simpa [mkeys] using h1
      rw [h2]; exact h.ln
    · have := mset_len V s (b, k); omega
theorem vok_app {room calls : Int} {V : FV} {name : Nm} {more : List UInt8} (h : VOk V) (hb : usedV V + more.length ≤ 1000000000000) : VOk (appR room calls V name more).2 := by
  unfold appR
  split
  · exact h
  · split
    · exact h
    · rename_i hn
      split
      · exact h
      · rename_i hq
        simp only [Bool.or_eq_true, Bool.and_eq_true, decide_eq_true_eq, Bool.not_eq_true', not_or, not_and] at hq; have hs := safe_get h name; have hu := get_set V name ((mgetD V name zF).1 ++ more, (mgetD V name zF).2); simp only [List.length_append] at hu; refine vok_set h (nameB_has h (by simpa using hn)) ?_ ⟨hs.1, by simp only [List.length_append]; omega⟩ (by omega)
        by_cases c : mhas V name = true
        · exact .inl c
        · have := hq.2 (by simpa using c); exact .inr (by omega)
end Go.Hrd
namespace Go.Hrd
open Go Go.SL Go.Mou Go.Dsk Go.Sm
theorem byteN (w : BitVec 32) (k : Nat) : ((UInt8.ofNat (w >>> k).toNat).toBitVec.setWidth 32).toNat = w.toNat / 2 ^ k % 256 := by
  rw [BitVec.toNat_setWidth, UInt8.toNat_toBitVec, UInt8.toNat_ofNat', BitVec.toNat_ushiftRight, Nat.shiftRight_eq_div_pow]; omega
theorem beW_wB (w : BitVec 32) : beW (UInt8.ofNat (w >>> 24).toNat) (UInt8.ofNat (w >>> 16).toNat) (UInt8.ofNat (w >>> 8).toNat) (UInt8.ofNat w.toNat) = w := by
  apply BitVec.eq_of_toNat_eq; have h24 := byteN w 24; have h16 := byteN w 16; have h8 := byteN w 8; have h0 := byteN w 0; rw [BitVec.ushiftRight_zero] at h0; unfold beW; rw [BitVec.toNat_or, BitVec.toNat_or, BitVec.toNat_or, BitVec.toNat_shiftLeft, BitVec.toNat_shiftLeft, BitVec.toNat_shiftLeft, h24, h16, h8, h0]; have hw := w.isLt
  generalize w.toNat = x at *
  have e3 : (x / 2 ^ 24 % 256) <<< 24 % 2 ^ 32 = 2 ^ 24 * (x / 2 ^ 24 % 256) := by rw [Nat.shiftLeft_eq]; omega
  have e2 : (x / 2 ^ 16 % 256) <<< 16 % 2 ^ 32 = 2 ^ 16 * (x / 2 ^ 16 % 256) := by rw [Nat.shiftLeft_eq]; omega
  have e1 : (x / 2 ^ 8 % 256) <<< 8 % 2 ^ 32 = 2 ^ 8 * (x / 2 ^ 8 % 256) := by rw [Nat.shiftLeft_eq]; omega
  rw [e3, e2, e1]; rw [← Nat.two_pow_add_eq_or_of_lt (i := 24) (by omega)]; rw [show 2 ^ 24 * (x / 2 ^ 24 % 256) + 2 ^ 16 * (x / 2 ^ 16 % 256) = 2 ^ 16 * (2 ^ 8 * (x / 2 ^ 24 % 256) + x / 2 ^ 16 % 256) from by omega]; rw [← Nat.two_pow_add_eq_or_of_lt (i := 16) (by omega)]; rw [show 2 ^ 16 * (2 ^ 8 * (x / 2 ^ 24 % 256) + x / 2 ^ 16 % 256) + 2 ^ 8 * (x / 2 ^ 8 % 256) = 2 ^ 8 * (2 ^ 16 * (x / 2 ^ 24 % 256) + 2 ^ 8 * (x / 2 ^ 16 % 256) + x / 2 ^ 8 % 256) from by omega]; rw [← Nat.two_pow_add_eq_or_of_lt (i := 8) (by omega)]; omega
theorem setD (V : FV) (s : Nm) (x : List UInt8 × Int) (t : Nm) : mgetD (mset V s x) t zF = if s = t then x else mgetD V t zF := by
  unfold mgetD; rw [mget_set]; split <;> rfl
theorem delD {V : FV} (h : (mkeys V).Nodup) (s t : Nm) : mgetD (mdel V s) t zF = if s = t then zF else mgetD V t zF := by
  unfold mgetD; rw [mget_del h]; split <;> rfl
theorem hasD {V : FV} {s : Nm} (h : mhas V s = false) : mgetD V s zF = zF := by
  unfold mgetD; rw [mget_none.2 (fun c => by rw [mhas_iff.2 c] at h; cases h)]; rfl
theorem at_all {ns : List Nm} {V : FV} (ha : ns.all (mhas V) = true) {k : Nat} (hk : k < ns.length) : mhas V (ns.getD k default) = true := (List.all_eq_true.1 ha) _ (getD_in hk)
theorem nd_ne {ns : List Nm} (hn : ns.Nodup) {j k : Nat} (hj : j < ns.length) (hk : k < ns.length) (h : j ≠ k) : ns.getD j default ≠ ns.getD k default := by
  intro e; simp only [List.getD, List.getElem?_eq_getElem hj, List.getElem?_eq_getElem hk, Option.getD_some] at e; exact h ((List.getElem_inj hn).1 e)
def Crd (f g : List UInt8 × Int) : Prop := ∃ m : Nat, f.2 ≤ (m : Int) ∧ m ≤ f.1.length ∧ g = (f.1.take m, (m : Int))
theorem crK_has {keep : List Int} {ns : List Nm} {V : FV} {t : Nm} (ha : ns.all (mhas V) = true) : ∀ {k : Nat}, k ≤ ns.length → mhas (crK keep ns V k).1 t = mhas V t
  | 0, _ => rfl
  | k + 1, hk => by
    have ih := fun t => crK_has (keep := keep) (t := t) ha (k := k) (by omega); simp only [crK]; unfold mhas at ih ⊢; rw [mget_set]
    split
    · rename_i e
      have h := at_all ha (show k < ns.length by omega); rw [e] at h; unfold mhas at h; rw [h]; rfl
    · exact ih t
theorem crK_at {keep : List Int} {ns : List Nm} {V : FV} (h : VOk V) (hn : ns.Nodup) (ha : ns.all (mhas V) = true) : ∀ {k : Nat}, k ≤ ns.length →
    mkeys (crK keep ns V k).1 = mkeys V ∧ usedV (crK keep ns V k).1 ≤ usedV V ∧
    (∀ j, j < k → Crd (mgetD V (ns.getD j default) zF) (mgetD (crK keep ns V k).1 (ns.getD j default) zF) ∧ (keep = [] → (mgetD (crK keep ns V k).1 (ns.getD j default) zF).2 = (mgetD V (ns.getD j default) zF).2)) ∧ ∀ s, s ∉ ns.take k → mgetD (crK keep ns V k).1 s zF = mgetD V s zF
  | 0, _ => ⟨rfl, Nat.le_refl _, fun j hj => by omega, fun s _ => rfl⟩
  | k + 1, hk => by
    obtain ⟨i1, i2, i3, i4⟩ := crK_at (keep := keep) h hn ha (k := k) (by omega); have hs : mhas (crK keep ns V k).1 (ns.getD k default) = true := by rw [crK_has ha (by omega)]; exact at_all ha (by omega)
    have hno : ns.getD k default ∉ ns.take k := fun hm => by
      obtain ⟨j, hj, e⟩ := List.getElem_of_mem hm; have hj2 : j < k := by rw [List.length_take] at hj; omega
      exact nd_ne hn (show j < ns.length by omega) (show k < ns.length by omega) (by omega) (by rw [List.getElem_take] at e; simp only [List.getD, List.getElem?_eq_getElem (show j < ns.length by omega), Option.getD_some]; exact e)
    have e0 := i4 _ hno; have hb := safe_get h (ns.getD k default); have hst := stay_bd keep k hb.2; have hum := get_set (crK keep ns V k).1 (ns.getD k default); simp only [crK, e0]
    generalize hf : mgetD V (ns.getD k default) zF = f at *
    generalize hq : stayF keep k f = q at *
    have hm : ((f.2 + q).toNat : Int) = f.2 + q := by omega
    have hl : (f.1.take (f.2 + q).toNat).length = (f.2 + q).toNat := by rw [List.length_take]; omega
    have hu := hum (f.1.take (f.2 + q).toNat, f.2 + q); rw [e0, hl] at hu; refine ⟨by rw [mkeys_set, if_pos (mhas_iff.1 hs), i1], by omega, fun j hj => ?_, fun s hs2 => ?_⟩
    · rw [setD]
      by_cases e : j = k
      · subst e; rw [if_pos rfl, hf]; refine ⟨⟨(f.2 + q).toNat, by omega, by omega, by rw [hm]⟩, fun hk0 => ?_⟩; subst hk0; show f.2 + q = f.2; have : q = 0 := by rw [← hq]; unfold stayF; rw [if_neg (by simp)]
        omega
      · rw [if_neg (nd_ne hn (show k < ns.length by omega) (show j < ns.length by omega) (fun h => e h.symm))]; exact i3 j (by omega)
    · rw [setD]; rw [take_succ_getD _ _ (by omega), List.mem_append, not_or, List.mem_singleton] at hs2; rw [if_neg (fun h => hs2.2 h.symm)]; exact i4 s hs2.1
theorem cr_at {V : FV} (h : VOk V) (keep : List Int) : mkeys (crR keep V).1 = mkeys V ∧ usedV (crR keep V).1 ≤ usedV V ∧ ∀ s, Crd (mgetD V s zF) (mgetD (crR keep V).1 s zF) ∧ (keep = [] → (mgetD (crR keep V).1 s zF).2 = (mgetD V s zF).2) := by
  have hl : V.length = (sortS (mkeys V)).length := by rw [sortS_len]; simp [mkeys]
  have ha : (sortS (mkeys V)).all (mhas V) = true := by
    rw [List.all_eq_true]; intro t ht; exact mhas_iff.2 (sortS_mem.1 ht)
  obtain ⟨h1, h2, h3, h4⟩ := crK_at (keep := keep) h ((sortS_perm _).nodup_iff.2 h.nd) ha (k := V.length) (by omega); refine ⟨h1, h2, fun s => ?_⟩
  by_cases hs : s ∈ sortS (mkeys V)
  · obtain ⟨j, hj, e⟩ := List.getElem_of_mem hs; have := h3 j (by omega); rw [show (sortS (mkeys V)).getD j default = s by simp only [List.getD, List.getElem?_eq_getElem hj, Option.getD_some]; exact e] at this; exact this
  · have e := h4 s (fun hm => hs (List.mem_of_mem_take hm))
    have hz : mgetD V s zF = zF := by
      unfold mgetD; rw [mget_none.2 (fun c => hs (sortS_mem.2 c))]; rfl
    unfold crR; rw [e, hz]; exact ⟨⟨0, by decide, by decide, rfl⟩, fun _ => rfl⟩
theorem vok_cr {V : FV} (h : VOk V) (keep : List Int) : VOk (crR keep V).1 := by
  obtain ⟨h1, h2, h3⟩ := cr_at h keep; have hnd : (mkeys (crR keep V).1).Nodup := by rw [h1]; exact h.nd
  refine ⟨hnd, fun p hp => ?_, fun p hp => ?_, ?_, Nat.le_trans h2 h.us⟩
  · obtain ⟨m, a1, a2, a3⟩ := (h3 p.1).1; rw [getD_of (mget_of_mem hnd (show (p.1, p.2) ∈ _ from hp))] at a3; rw [a3]; simp only [List.length_take]; omega
  · have : p.1 ∈ mkeys V := by rw [← h1]; exact List.mem_map.2 ⟨p, hp, rfl⟩
    obtain ⟨q, hq, e⟩ := List.mem_map.1 this; rw [← e]; exact h.nm q hq
  · have := congrArg List.length h1; simp only [mkeys, List.length_map] at this; rw [this]; exact h.ln
def opp (o : Nm) : Nm := if o = n0 then n1 else n0
structure Gd (V : FV) (st : State1) (c : Nat) (o : Nm) : Prop where
  po : o = n0 ∨ o = n1
  ok : VOk V
  kn : ∀ n ∈ mkeys V, n = n0 ∨ n = n1
  le : ∀ n, (mgetD V n zF).1.length ≤ 31
  cz : c = 0 → o = n0 ∧ st = ⟨0, -1⟩ ∧ ∀ n m, (slotF ((mgetD V n zF).1.take m)).1 = 0
  cp : c ≠ 0 → slotV V (opp o) = (c, st) ∧ (mgetD V (opp o) zF).2 = ((mgetD V (opp o) zF).1.length : Int) ∧ ∀ m, (slotF ((mgetD V o zF).1.take m)).1 < c
theorem kn_len {V : FV} (h : (mkeys V).Nodup) (hk : ∀ n ∈ mkeys V, n = n0 ∨ n = n1) : V.length ≤ 2 := by
  match V, h, hk with
  | [], _, _ => exact Nat.zero_le _
  | [a], _, _ => simp
  | [a, b], _, _ => simp
  | a :: b :: d :: t, h, hk =>
    exfalso
    simp only [mkeys, List.map_cons, List.nodup_cons, List.mem_cons, not_or] at h; have ha := hk a.1 (by simp [mkeys]); have hb := hk b.1 (by simp [mkeys]); have hd := hk d.1 (by simp [mkeys])
    rcases ha with ha | ha <;> rcases hb with hb | hb <;> rcases hd with hd | hd <;> simp_all
theorem kn_used {V : FV} (h : VOk V) (hk : ∀ n ∈ mkeys V, n = n0 ∨ n = n1) (hl : ∀ n, (mgetD V n zF).1.length ≤ 31) : usedV V ≤ 62 := by
  have hlen := kn_len h.nd hk
  have hp : ∀ p ∈ V, p.2.1.length ≤ 31 := fun p hp => by
    have := hl p.1
    rwa [getD_of (mget_of_mem h.nd (show (p.1, p.2) ∈ _ from hp))] at this
  match V, hlen, hp with
  | [], _, _ => exact Nat.zero_le _
  | [a], _, hp => have := hp a (by simp); simp [usedV]; omega
  | [a, b], _, hp => have h1 := hp a (by simp); have h2 := hp b (by simp); simp [usedV]; omega
theorem Gd.used {V : FV} {st : State1} {c : Nat} {o : Nm} (h : Gd V st c o) : usedV V ≤ 62 := kn_used h.ok h.kn h.le
theorem Gd.len {V : FV} {st : State1} {c : Nat} {o : Nm} (h : Gd V st c o) : V.length ≤ 2 := kn_len h.ok.nd h.kn
section
variable {V : FV} {st s : State1} {c : Nat} {o : Nm}
end
end Go.Hrd
namespace Go.Hrd
open Go Go.SL Go.Mou Go.Dsk Go.Sm
structure Stp (V : FV) (st s : State1) (c : Nat) (o : Nm) : Prop where
  ok : VOk V
  us : usedV V ≤ 200
  cr : ∀ keep, Gd (crR keep V).1 st c o ∨ Gd (crR keep V).1 s (c + 1) (opp o)
  no : Gd (crR [] V).1 st c o
theorem del_has {V : FV} (h : VOk V) (o : Nm) : mhas (mdel V o) o = false := by unfold mhas; rw [mget_del h.nd, if_pos rfl]; rfl
section
variable {T T' : FT} {st s : State1} {c : Nat} {o : Nm} {room calls : Int}
theorem Gd.fok (h : Gd (vw T) st c o) : FOk T := Go.Dsk.fok.2 h.ok
theorem Gd.usd (h : Gd (vw T) st c o) : usedT T ≤ 62 := by rw [← used_vw]; exact h.used
theorem Stp.fok (h : Stp (vw T) st s c o) : FOk T := Go.Dsk.fok.2 h.ok
theorem Stp.usd (h : Stp (vw T) st s c o) : usedT T ≤ 200 := by rw [← used_vw]; exact h.us
end
end Go.Hrd

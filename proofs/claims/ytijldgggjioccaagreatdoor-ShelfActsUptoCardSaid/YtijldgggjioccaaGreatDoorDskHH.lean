/- part -/
import Derived.Test.YtijldgggjioccaaGreatDoorDskXX
import Derived.Test.YtijldgggjioccaaGreatDoorProg
set_option linter.unusedVariables false
set_option linter.unusedSimpArgs false
namespace Go.Dsk
open Go Go.SL
def rcharI (n : Int) : Bool := (((decide (97 ≤ n) && decide (n ≤ 122)) || (decide (48 ≤ n) && decide (n ≤ 57))) || decide (n = 45)) || decide (n = 46)
theorem rchar_all : ∀ n : Fin 256, rcharI ((n.val : Nat) : Int) = charB (UInt8.ofNat n.val) := by decide +kernel
theorem rchar_eq (c : UInt8) : rcharI (c.toNat : Int) = charB c := by
  have h := rchar_all ⟨c.toNat, c.toNat_lt⟩; simpa using h
theorem char_next {s : Nm} {k : Nat} (hk : k < s.length) (h : ∀ c ∈ s.take k, charB c = true) (e : charB (s.getD k default) = true) : ∀ c ∈ s.take (k + 1), charB c = true := by
  intro c hc; rw [take_succ_getD s k hk] at hc
  rcases List.mem_append.1 hc with h1 | h1
  · exact h c h1
  · rw [List.mem_singleton.1 h1]; exact e
theorem name_bad {s : Nm} {k : Nat} (hk : k < s.length) (e : charB (s.getD k default) = false) : nameB s = false := by
  cases h : nameB s with
  | false => rfl
  | true =>
    have := ((nameB_iff s).1 h).2.2 (s.getD k default) (by simp [List.getD, hk]); rw [e] at this; cases this
theorem name_ref {s : Nm} (h : ∀ c ∈ s, charB c = true) : (decide (0 < (s.length : Int)) && decide ((s.length : Int) ≤ 32)) = nameB s := by
  rw [Bool.eq_iff_iff, nameB_iff]; simp only [Bool.and_eq_true, decide_eq_true_eq]
  constructor
  · rintro ⟨h1, h2⟩; exact ⟨fun e => by subst e; simp at h1, by omega, h⟩
  · rintro ⟨h1, h2, _⟩; have := List.length_pos_iff.2 h1; omega
end Go.Dsk
set_option maxRecDepth 100000
set_option maxHeartbeats 4000000
namespace Go.Dsk.C
open Go Go.SL Go.Proofs Go.Dsk Go.Dsk.L Go.Dsk.X
attribute [local irreducible] Go.SL.Ent
theorem rname_spec (s : (List UInt8)) (ρ : Hp) (hs : s.length ≤ 9223372036854775807) : Spec0 Tryz.prog 83 #[(strB s)] ρ [] (fun v Γ' => v = .bool ((nameB s)) ∧ Γ' = []) := by
  refine spec_of (n := 45) (vs := [_]) (σ := [(0, _)]) Tryz.func83 rfl rfl rfl rfl fun E Δ => ?_; rw [List.nil_append]; refine sr (e_as rfl (l_n (c_seq (sr (e_as rfl (l_n (c_block ?_))))))); refine Tr.env (σ' := [(0, _), (3, _)]) ev_ ?_; refine t_loop (ι := Lp (Nat)) (fun x => x.d ≤ s.length ∧ ∀ c ∈ s.take x.d, charB c = true) (fun x => s.length - x.d) (fun x => [(0, (strB s)), (3, .int .i64 (x.d : Int))]) (fun x => Δ) (⟨0, none, 0, none, 0, none, 0⟩ : Lp _) ⟨Nat.zero_le _, by simp⟩ ?_ ?_ ?_
  · exact .c (.c (.nil _))
  · exact en_
  intro x hx; obtain ⟨hx1, hx2⟩ := hx; refine c_seq (sr (e_mv rfl (e_mv rfl (e_q (q_lensB Tryz.underlying9 rfl) ?_)))); refine e_q (q_lss rfl rfl) (l_n ?_); refine c_cond rfl (fun h0 => ?_) (fun h0 => ?_)
  · try simp only [dt_, df_] at h0
    refine c_skip (k_then_n (c_seq (c_block (sr (e_mv rfl (e_mv rfl (e_q (q_indexs x.d Tryz.underlying9 rfl rfl rfl (by first | assumption | omega)) ?_))))))); refine e_as rfl (l_n (sr (e_mv rfl (e_q (q_geq rfl rfl) ?_)))); refine e_mv rfl (l_step (s_qg rfl (ask_t rfl rfl) (b := (decide (97 ≤ ((s.getD x.d default).toNat : Int)))) (fun hb => q_move rfl) ?_)); refine l_step (s_qg rfl (ask_t rfl rfl) (b := (decide (97 ≤ ((s.getD x.d default).toNat : Int)))) (fun hb => OpQ.env (.cons rfl (gd_t hb) (.nil _) : EnvLe [(17, .int .u8 ((s.getD x.d default).toNat : Int))] _) (q_leq rfl rfl)) ?_); refine e_q (q_pick_and rfl rfl rfl (fun h => h)) ?_; refine e_mv rfl (l_step (s_qg rfl (ask_f rfl rfl) (b := (!((decide (97 ≤ ((s.getD x.d default).toNat : Int))) && (decide (((s.getD x.d default).toNat : Int) ≤ 122))))) (fun hb => q_move rfl) ?_)); refine l_step (s_qg rfl (ask_f rfl rfl) (b := (!((decide (97 ≤ ((s.getD x.d default).toNat : Int))) && (decide (((s.getD x.d default).toNat : Int) ≤ 122))))) (fun hb => OpQ.env (.cons rfl (gd_t hb) (.nil _) : EnvLe [(21, .int .u8 ((s.getD x.d default).toNat : Int))] _) (q_geq rfl rfl)) ?_); refine l_step (s_qg rfl (ask_f rfl rfl) (b := (!((decide (97 ≤ ((s.getD x.d default).toNat : Int))) && (decide (((s.getD x.d default).toNat : Int) ≤ 122))))) (fun hb => OpQ.env (.cons rfl (gd_t hb) (.nil _) : EnvLe [(22, .bool (decide (48 ≤ ((s.getD x.d default).toNat : Int))))] _) (q_move rfl)) ?_); refine l_step (s_qg rfl (ask_gt rfl rfl) (b := ((!((decide (97 ≤ ((s.getD x.d default).toNat : Int))) && (decide (((s.getD x.d default).toNat : Int) ≤ 122)))) && (decide (48 ≤ ((s.getD x.d default).toNat : Int))))) (fun hb => q_move rfl) ?_); refine l_step (s_qg rfl (ask_gt rfl rfl) (b := ((!((decide (97 ≤ ((s.getD x.d default).toNat : Int))) && (decide (((s.getD x.d default).toNat : Int) ≤ 122)))) && (decide (48 ≤ ((s.getD x.d default).toNat : Int))))) (fun hb => OpQ.env (.cons rfl (gd_t hb) (.nil _) : EnvLe [(24, .int .u8 ((s.getD x.d default).toNat : Int))] _) (q_leq rfl rfl)) ?_); refine l_step (s_qg rfl (ask_f rfl rfl) (b := (!((decide (97 ≤ ((s.getD x.d default).toNat : Int))) && (decide (((s.getD x.d default).toNat : Int) ≤ 122))))) (fun hb => OpQ.env (.cons rfl (gd_t hb) (.cons rfl rfl (.nil _)) : EnvLe [(23, .bool (decide (48 ≤ ((s.getD x.d default).toNat : Int)))), (25, gd ((!((decide (97 ≤ ((s.getD x.d default).toNat : Int))) && (decide (((s.getD x.d default).toNat : Int) ≤ 122)))) && (decide (48 ≤ ((s.getD x.d default).toNat : Int)))) (.bool (decide (((s.getD x.d default).toNat : Int) ≤ 57))))] _) (q_pick_and rfl rfl rfl (fun h => by simp_all))) ?_); refine e_q (q_pick_or rfl rfl rfl (fun h => by first | (rw [h]; rfl) | exact congrArg not h)) ?_; refine e_mv rfl (l_step (s_qg rfl (ask_f rfl rfl) (b := (!(((decide (97 ≤ ((s.getD x.d default).toNat : Int))) && (decide (((s.getD x.d default).toNat : Int) ≤ 122))) || ((decide (48 ≤ ((s.getD x.d default).toNat : Int))) && (decide (((s.getD x.d default).toNat : Int) ≤ 57)))))) (fun hb => q_move rfl) ?_)); refine l_step (s_qg rfl (ask_f rfl rfl) (b := (!(((decide (97 ≤ ((s.getD x.d default).toNat : Int))) && (decide (((s.getD x.d default).toNat : Int) ≤ 122))) || ((decide (48 ≤ ((s.getD x.d default).toNat : Int))) && (decide (((s.getD x.d default).toNat : Int) ≤ 57)))))) (fun hb => OpQ.env (.cons rfl (gd_t hb) (.nil _) : EnvLe [(29, .int .u8 ((s.getD x.d default).toNat : Int))] _) (q_eql rfl rfl)) ?_); refine e_q (q_pick_or rfl rfl rfl (fun h => by first | (rw [h]; rfl) | exact congrArg not h)) ?_; refine e_mv rfl (l_step (s_qg rfl (ask_f rfl rfl) (b := (!((((decide (97 ≤ ((s.getD x.d default).toNat : Int))) && (decide (((s.getD x.d default).toNat : Int) ≤ 122))) || ((decide (48 ≤ ((s.getD x.d default).toNat : Int))) && (decide (((s.getD x.d default).toNat : Int) ≤ 57)))) || (decide (((s.getD x.d default).toNat : Int) = 45))))) (fun hb => q_move rfl) ?_)); refine l_step (s_qg rfl (ask_f rfl rfl) (b := (!((((decide (97 ≤ ((s.getD x.d default).toNat : Int))) && (decide (((s.getD x.d default).toNat : Int) ≤ 122))) || ((decide (48 ≤ ((s.getD x.d default).toNat : Int))) && (decide (((s.getD x.d default).toNat : Int) ≤ 57)))) || (decide (((s.getD x.d default).toNat : Int) = 45))))) (fun hb => OpQ.env (.cons rfl (gd_t hb) (.nil _) : EnvLe [(33, .int .u8 ((s.getD x.d default).toNat : Int))] _) (q_eql rfl rfl)) ?_); refine e_q (q_pick_or rfl rfl rfl (fun h => by first | (rw [h]; rfl) | exact congrArg not h)) ?_; refine e_q (q_not rfl) ?_; refine l_n ?_; refine c_cond rfl (fun h1 => ?_) (fun h1 => ?_)
    · skip
      have hch : charB (s.getD x.d default) = false := by rw [← rchar_eq]; have h9 := h1; rw [Bool.not_eq_true'] at h9; exact h9
      refine sr (e_as rfl (l_n (c_ret (k_blk_r (k_then_r (k_then_r (k_blk_r (k_then_r ?_)))))))); exact t_rt [] rfl (.tmp rfl .nil) rfl ⟨rfl, boole (name_bad (by omega) hch).symm, rfl⟩ (by (repeat refine Ent.skip ?_); exact Ent.refl _)
    · skip
      have hch : charB (s.getD x.d default) = true := by rw [← rchar_eq]; have h9 := h1; rw [Bool.not_eq_false'] at h9; exact h9
      refine c_skip (k_blk_n (k_then_n (c_region (e_mv rfl (e_q (q_add rfl rfl (by omega) (by omega)) ?_))))); refine e_as rfl (l_n ?_); exact t_nx (⟨x.d + 1, none, 0, none, 0, none, 0⟩ : Lp _) ⟨⟨by (try simp only []); omega, char_next (by omega) hx2 hch⟩, by (try simp only []); omega⟩ (.c (.c (.nil _)))
  · try simp only [dt_, df_] at h0
    have hk : x.d = s.length := by omega
    rw [hk, List.take_length] at hx2; refine c_exit (k_then_x (k_then_x (k_blk_x (k_then_n (sr (e_mv rfl (e_q (q_lensB Tryz.underlying9 rfl) ?_))))))); refine e_q (q_gtr rfl rfl) ?_; refine e_mv rfl (l_step (s_qg rfl (ask_t rfl rfl) (b := (decide (0 < (s.length : Int)))) (fun hb => q_move rfl) ?_)); refine l_step (s_qg rfl (ask_t rfl rfl) (b := (decide (0 < (s.length : Int)))) (fun hb => OpQ.env (.cons rfl (gd_t hb) (.nil _) : EnvLe [(41, (strB s))] _) (q_lensB Tryz.underlying9 rfl)) ?_); refine l_step (s_qg rfl (ask_t rfl rfl) (b := (decide (0 < (s.length : Int)))) (fun hb => OpQ.env (.cons rfl (gd_t hb) (.nil _) : EnvLe [(42, .int .i64 (s.length : Int))] _) (q_leq rfl rfl)) ?_); refine e_q (q_pick_and rfl rfl rfl (fun h => h)) ?_; refine e_as rfl (l_n (c_ret ?_)); exact t_rt [] rfl (.tmp rfl .nil) rfl ⟨rfl, boole (name_ref hx2), rfl⟩ (by (repeat refine Ent.skip ?_); exact Ent.refl _)
end Go.Dsk.C
namespace Go.Dsk
open Go Go.SL
abbrev RT := List RFile
def rp (e : RFile) : Nm × (List UInt8 × Int) := (e.Name, (e.B.xs, e.Safe))
def rvw (T : RT) : FV := T.map rp
def R1 (tb : TypeId) (e : RFile) : Asn := .row tb 1 e.B.a e.B.xs.length e.B.cap (e.B.xs.flatMap encB)
def RB (tb : TypeId) (T : RT) : Asn := Bun (T.map (R1 tb))
theorem rvw_keys (T : RT) : mkeys (rvw T) = T.map (·.Name) := by simp [mkeys, rvw, rp]
theorem rvw_len (T : RT) : (rvw T).length = T.length := by simp [rvw]
theorem rb_open {tb : TypeId} {T : RT} {Γ : List Asn} {i : Nat} (hi : i < T.length) : Ent (RB tb T :: Γ) (R1 tb (T.getD i default) :: Bun ((T.map (R1 tb)).eraseIdx i) :: Γ) := by
  have h := bun_get (T.map (R1 tb)) Γ i (by simpa using hi)
  rwa [List.getElem_map, show T[i] = T.getD i default from by simp [List.getD, hi]] at h
theorem rb_set {tb : TypeId} {T : RT} {Γ : List Asn} {i : Nat} (hi : i < T.length) (e : RFile) : Ent (R1 tb e :: Bun ((T.map (R1 tb)).eraseIdx i) :: Γ) (RB tb (T.set i e) :: Γ) := by
  have h := bun_set (T.map (R1 tb)) Γ i (R1 tb e) (by simpa using hi)
  rwa [← List.map_set] at h
theorem rb_erase (tb : TypeId) (T : RT) (i : Nat) : Bun ((T.map (R1 tb)).eraseIdx i) = RB tb (T.eraseIdx i) := by
  unfold RB; rw [eraseIdx_map_]
theorem ent_ins {A : Asn} : ∀ (L M : List Asn), Ent (A :: (L ++ M)) (L ++ A :: M)
  | [], M => Ent.refl _
  | B :: L, M => Ent.pick (A := B) (Pick.there Pick.here) (ent_ins L M)
theorem rb_ins {tb : TypeId} {T : RT} {Γ : List Asn} (k : Nat) (e : RFile) : Ent (R1 tb e :: RB tb T :: Γ) (RB tb (T.take k ++ e :: T.drop k) :: Γ) := by
  refine Ent.trans (Ent.pick (A := RB tb T) (Pick.there Pick.here) (Ent.refl _)) ?_; refine Ent.trans (bun_out _ _) ?_; refine Ent.trans (Ent.comm (T.map (R1 tb)) (R1 tb e :: Γ)) ?_; show Ent (R1 tb e :: (Γ ++ T.map (R1 tb))) _; refine Ent.trans (Ent.pick (A := R1 tb e) Pick.here (Ent.comm Γ (T.map (R1 tb)))) ?_; refine Ent.trans (B := (R1 tb e :: T.map (R1 tb)) ++ Γ) (Ent.refl _) ?_; refine Ent.trans (Ent.both (A' := (T.take k).map (R1 tb) ++ R1 tb e :: (T.drop k).map (R1 tb)) ?_ (Ent.refl Γ)) ?_
  · have h := ent_ins (A := R1 tb e) ((T.take k).map (R1 tb)) ((T.drop k).map (R1 tb))
    rwa [← List.map_append, List.take_append_drop] at h
  · unfold RB; rw [show (T.take k ++ e :: T.drop k).map (R1 tb) = (T.take k).map (R1 tb) ++ R1 tb e :: (T.drop k).map (R1 tb) from by simp]; exact bun_in _ Γ
def cI (e : Bool) (c : Int) : Int := if e = true then c else -1
def decR (e : Bool) (c : Int) : Int := if e = true ∧ c ≠ 0 then c - 1 else c
theorem decR_ok {e : Bool} {c : Int} (h : e = true → 0 ≤ c) : cI e (decR e c) = decC (cI e c) ∧ (e = true → 0 ≤ decR e c) := by
  unfold cI decR decC
  cases e with
  | false => simp
  | true =>
    have := h rfl
    by_cases h0 : c = 0
    · subst h0; simp
    · have e1 : (if true = true ∧ c ≠ 0 then c - 1 else c) = c - 1 := if_pos ⟨rfl, h0⟩; rw [e1, if_pos rfl, if_pos rfl, if_pos (show c > 0 by omega)]; exact ⟨rfl, fun _ => by omega⟩
def rfi (T : RT) (s : Nm) : Int := idxP (fun n => decide (n = s)) (T.map (·.Name))
theorem rname_get {T : RT} {k : Nat} (hk : k < T.length) : (T.map (·.Name)).getD k default = (T.getD k default).Name := by simp [List.getD, hk]
theorem rfi_hit {T : RT} {s : Nm} {k : Nat} (hk : k < T.length) (h : ((T.map (·.Name)).take k).any (fun n => decide (n = s)) = false) (e : (T.getD k default).Name = s) : rfi T s = (k : Int) := idxP_at (by rw [List.length_map]; exact hk) h (by rw [rname_get hk, e]; simp)
theorem rfi_miss {T : RT} {s : Nm} (h : ((T.map (·.Name)).take T.length).any (fun n => decide (n = s)) = false) : rfi T s = -1 := idxP_none (by rwa [List.take_of_length_le (by rw [List.length_map]; exact Nat.le_refl _)] at h)
theorem rfi_next {T : RT} {s : Nm} {k : Nat} (hk : k < T.length) (h : ((T.map (·.Name)).take k).any (fun n => decide (n = s)) = false) (e : ¬ (T.getD k default).Name = s) : ((T.map (·.Name)).take (k + 1)).any (fun n => decide (n = s)) = false := any_succ (by rw [List.length_map]; exact hk) h (by rw [rname_get hk]; exact decide_eq_false e)
theorem rfi_neg (T : RT) (s : Nm) : decide (rfi T s < 0) = !mhas (rvw T) s := by
  have h := idxP_any (fun n => decide (n = s)) (T.map (·.Name))
  have h2 : ((T.map (·.Name)).any fun n => decide (n = s)) = mhas (rvw T) s := by
    rw [Bool.eq_iff_iff, mhas_iff, rvw_keys]; simp
  rw [← h2, ← h]; unfold rfi; rw [Bool.eq_iff_iff]; simp
theorem rfi_at {T : RT} {s : Nm} (h : mhas (rvw T) s = true) : ∃ i : Nat, i < T.length ∧ rfi T s = (i : Int) ∧ (T.getD i default).Name = s := by
  unfold rfi idxP
  cases e : (T.map (·.Name)).findIdx? (fun n => decide (n = s)) with
  | none =>
    have h1 : ((T.map (·.Name)).findIdx? (fun n => decide (n = s))).isSome = false := by rw [e]; rfl
    rw [List.findIdx?_isSome] at h1; rw [mhas_iff, rvw_keys] at h; rw [List.any_eq_false] at h1; exact absurd (h1 s h) (by simp)
  | some i =>
    obtain ⟨hi, h2, _⟩ := List.findIdx?_eq_some_iff_getElem.1 e; rw [List.length_map] at hi; exact ⟨i, hi, rfl, by simpa [List.getD, hi] using h2⟩
theorem rget {T : RT} (hn : (T.map (·.Name)).Nodup) {i : Nat} (hi : i < T.length) : mget (rvw T) (T.getD i default).Name = some ((T.getD i default).B.xs, (T.getD i default).Safe) := by
  refine mget_of_mem (by rw [rvw_keys]; exact hn) ?_; refine List.mem_map.2 ⟨T.getD i default, ?_, rfl⟩; simp [List.getD, hi]
theorem rset {T : RT} (hn : (T.map (·.Name)).Nodup) {i : Nat} (hi : i < T.length) (e : RFile) (he : e.Name = (T.getD i default).Name) : rvw (T.set i e) = mset (rvw T) (T.getD i default).Name (e.B.xs, e.Safe) := by
  have hv : (rvw T)[i]? = some ((T.getD i default).Name, ((T.getD i default).B.xs, (T.getD i default).Safe)) := by
    unfold rvw; rw [List.getElem?_map, List.getElem?_eq_getElem hi, show T[i] = T.getD i default from by simp [List.getD, hi]]; rfl
  rw [mset_at (rvw T) i _ _ _ (by rw [rvw_keys]; exact hn) hv, ← he]; unfold rvw; rw [List.map_set]; rfl
theorem rdel {T : RT} (hn : (T.map (·.Name)).Nodup) {i : Nat} (hi : i < T.length) : rvw (T.eraseIdx i) = mdel (rvw T) (T.getD i default).Name := by
  have hv : (rvw T)[i]? = some ((T.getD i default).Name, ((T.getD i default).B.xs, (T.getD i default).Safe)) := by
    unfold rvw; rw [List.getElem?_map, List.getElem?_eq_getElem hi, show T[i] = T.getD i default from by simp [List.getD, hi]]; rfl
  rw [mdel_at (rvw T) i _ _ (by rw [rvw_keys]; exact hn) hv]; exact (eraseIdx_map_ rp T i).symm
def usedR (T : RT) : Nat := (T.map fun e => e.B.xs.length).sum
@[simp] theorem usedR_nil : usedR [] = 0 := rfl
theorem usedR_vw (T : RT) : usedV (rvw T) = usedR T := by simp [usedV, usedR, rvw, rp, Function.comp_def]
theorem usedR_take {T : RT} {k : Nat} (hk : k < T.length) : usedR (T.take (k + 1)) = usedR (T.take k) + (T.getD k default).B.xs.length := by
  rw [take_succ_getD T k hk]; simp [usedR]
theorem usedR_le (T : RT) (k : Nat) : usedR (T.take k) ≤ usedR T := by
  have h : usedR T = usedR (T.take k) + usedR (T.drop k) := by
    unfold usedR; rw [← List.sum_append_nat, ← List.map_append, List.take_append_drop]
  omega
end Go.Dsk
namespace Go.Dsk
open Go Go.SL
theorem turn_b {t : Int} {n : Nat} (hn : 0 < n) : -(n : Int) < t.tmod n ∧ t.tmod n < n :=
  ⟨by have := Int.lt_tmod_of_pos t (show (0 : Int) < n by omega); omega, Int.tmod_lt_of_pos t (by omega)⟩
def catS (ls : List (SL UInt8)) : List UInt8 := ls.flatMap fun x : SL UInt8 => x.xs
theorem catS_snoc (ls : List (SL UInt8)) (x : SL UInt8) : catS (ls ++ [x]) = catS ls ++ x.xs := by simp [catS]
end Go.Dsk
namespace Go.Dsk
open Go Go.SL
theorem all_no {f : Nm → Bool} {names : List Nm} {k : Nat} (hk : k < names.length) (h : f (names.getD k default) = false) : names.all f = false := by
  rw [List.all_eq_false]; exact ⟨names.getD k default, getD_in hk, by rw [h]; decide⟩
theorem all_next {f : Nm → Bool} {names : List Nm} {k : Nat} (hk : k < names.length) (h : (names.take k).all f = true) (e : f (names.getD k default) = true) : (names.take (k + 1)).all f = true := by
  rw [take_succ_getD names k hk, List.all_append, h, List.all_cons, e]; rfl
theorem rb_same {tb : TypeId} {T : RT} {i : Nat} {e : RFile} (hi : i < T.length) (h : e.B = (T.getD i default).B) : RB tb (T.set i e) = RB tb T := by
  unfold RB
  congr 1
  rw [List.map_set]; apply List.ext_getElem?; intro j
  by_cases q : i = j
  · subst q; have h2 : T[i] = T.getD i default := by simp [List.getD, hi]
    rw [List.getElem?_set_self (by simpa using hi), List.getElem?_map, List.getElem?_eq_getElem hi, h2]; show some (R1 tb e) = some (R1 tb (T.getD i default)); unfold R1; rw [h]
  · rw [List.getElem?_set, if_neg q]
theorem rnames_set {T : RT} {i : Nat} {e : RFile} (hi : i < T.length) (h : e.Name = (T.getD i default).Name) : (T.set i e).map (·.Name) = T.map (·.Name) := by
  rw [List.map_set]; apply List.ext_getElem?; intro j
  by_cases q : i = j
  · subst q; have h2 : T[i] = T.getD i default := by simp [List.getD, hi]
    rw [List.getElem?_set_self (by simpa using hi), List.getElem?_map, List.getElem?_eq_getElem hi, h2, h]; rfl
  · rw [List.getElem?_set, if_neg q]
theorem rhas_names {T T1 : RT} (h : T1.map (·.Name) = T.map (·.Name)) (s : Nm) : mhas (rvw T1) s = mhas (rvw T) s := by
  rw [Bool.eq_iff_iff, mhas_iff, mhas_iff, rvw_keys, rvw_keys, h]
theorem rnd {T : RT} (h : VOk (rvw T)) : (T.map (·.Name)).Nodup := by rw [← rvw_keys]; exact h.nd
theorem usedR_at {T : RT} {i : Nat} (hi : i < T.length) : (T.getD i default).B.xs.length ≤ usedR T := by
  have h1 := usedR_take hi; have h2 := usedR_le T (i + 1); omega
theorem rat_us {T : RT} (h : VOk (rvw T)) : usedR T ≤ 1000000000000 := by rw [← usedR_vw]; exact h.us
theorem rat_ln {T : RT} (h : VOk (rvw T)) : T.length ≤ 4096 := by rw [← rvw_len]; exact h.ln
theorem row_cut2 {tb : TypeId} {a : Option Addr} {cap : Nat} {xs : List UInt8} {Γ : List Asn} (k : Nat) (hk : k ≤ xs.length) : Ent (.row tb 1 a xs.length cap (xs.flatMap encB) :: Γ) (.row tb 1 a (xs.take k).length cap ((xs.take k).flatMap encB) :: Γ) := by
  have h := row_cut (T := tb) (enc := encB) (sz := 1) (a := a) (cap := cap) (xs := xs) (n := xs.length) (Γ := Γ) (fun _ => rfl) k hk
  rwa [show (xs.take k).length = k from by rw [List.length_take]; omega]
theorem getD_set {T : RT} {i : Nat} {e : RFile} (hi : i < T.length) : (T.set i e).getD i default = e := by simp [List.getD, hi]
def RIn (T : RT) (f : RFile) (T1 : RT) : Prop := ∃ k ≤ T.length, (∀ e ∈ T.take k, e.Name < f.Name) ∧ (k < T.length → ¬ (T.getD k default).Name < f.Name) ∧ T1 = T.take k ++ f :: T.drop k
def insV (V : FV) (f : Nm × (List UInt8 × Int)) : FV := V.takeWhile (fun p => decide (p.1 < f.1)) ++ f :: V.dropWhile (fun p => decide (p.1 < f.1))
theorem tw_eq {α : Type} [Inhabited α] {p : α → Bool} : ∀ {l : List α} {k : Nat}, k ≤ l.length → (∀ x ∈ l.take k, p x = true) → (k < l.length → p (l.getD k default) = false) → l.takeWhile p = l.take k ∧ l.dropWhile p = l.drop k
  | [], k, _, _, _ => by simp
  | x :: l, 0, _, _, h => by
    have := h (by simp); simp only [List.getD_cons_zero] at this; simp [List.takeWhile_cons, List.dropWhile_cons, this]
  | x :: l, k + 1, hk, h1, h2 => by
    have hx : p x = true := h1 x (by simp); obtain ⟨e1, e2⟩ := tw_eq (l := l) (k := k) (p := p) (by simpa using hk) (fun y hy => h1 y (by rw [List.take_succ_cons]; exact List.mem_cons_of_mem _ hy)) (fun hlt => by simpa using h2 (by simpa using hlt)); simp [List.takeWhile_cons, List.dropWhile_cons, hx, e1, e2]
theorem rin_vw {T T1 : RT} {f : RFile} (h : RIn T f T1) : rvw T1 = insV (rvw T) (rp f) := by
  obtain ⟨k, hk, h1, h2, rfl⟩ := h
  obtain ⟨e1, e2⟩ := tw_eq (p := fun p => decide (p.1 < (rp f).1)) (l := rvw T) (k := k) (by rw [rvw_len]; exact hk) (fun x hx => by
    unfold rvw at hx; rw [← List.map_take] at hx; obtain ⟨e, he, rfl⟩ := List.mem_map.1 hx; exact decide_eq_true (h1 e he)) (fun hlt => by
    rw [rvw_len] at hlt; have : (rvw T).getD k default = rp (T.getD k default) := by unfold rvw; simp [List.getD, hlt]
    rw [this]; exact decide_eq_false (h2 hlt))
  unfold insV; rw [e1, e2]; unfold rvw; rw [List.map_append, List.map_cons, List.map_take, List.map_drop]
theorem rfi_pos (T : RT) (s : Nm) : decide (0 ≤ rfi T s) = mhas (rvw T) s := by
  have h := rfi_neg T s
  cases hm : mhas (rvw T) s with
  | true => rw [hm] at h; simp at h; exact decide_eq_true h
  | false => rw [hm] at h; simp at h; exact decide_eq_false (by omega)
theorem mdel_nohas {V : FV} {s : Nm} (h : mhas V s = false) : mdel V s = V := mdel_no V s (fun c => by rw [mhas_iff.2 c] at h; cases h)
theorem rnd_erase {T : RT} (h : (T.map (·.Name)).Nodup) {i : Nat} (hi : i < T.length) : ((T.eraseIdx i).map (·.Name)).Nodup := by
  rw [← rvw_keys, rdel h hi]; exact mdel_nodup (by rw [rvw_keys]; exact h) _
theorem fold_del_nd : ∀ (ns : List Nm) {V : FV}, (mkeys V).Nodup → (mkeys (ns.foldl mdel V)).Nodup
  | [], _, h => h
  | n :: ns, _, h => fold_del_nd ns (mdel_nodup h n)
theorem fold_del_get : ∀ (ns : List Nm) {V : FV} {s : Nm}, (mkeys V).Nodup → s ∉ ns → mget (ns.foldl mdel V) s = mget V s
  | [], _, _, _, _ => rfl
  | n :: ns, V, s, h, hs => by
    rw [List.foldl_cons, fold_del_get ns (mdel_nodup h n) (fun c => hs (List.mem_cons_of_mem _ c)), mget_del h, if_neg (fun e => hs (by rw [e]; exact List.mem_cons_self))]
theorem fold_del_has {ns : List Nm} {V : FV} (h : (mkeys V).Nodup) (hn : ns.Nodup) (ha : ns.all (mhas V) = true) {k : Nat} (hk : k < ns.length) : mhas ((ns.take k).foldl mdel V) (ns.getD k default) = true := by
  have hnot : ns.getD k default ∉ ns.take k := by
    have h1 : (ns.take (k + 1)).Nodup := hn.sublist (List.take_sublist _ _); rw [take_succ_getD ns k hk, List.nodup_append] at h1; intro c; exact h1.2.2 _ c _ (List.mem_singleton.2 rfl) rfl
  have h2 := (List.all_eq_true.1 ha) _ (getD_in hk); unfold mhas at h2 ⊢; rw [fold_del_get _ h hnot]; exact h2
theorem nodup_next {ns : List Nm} {k : Nat} (hk : k < ns.length) (h : (ns.take k).Nodup) (e : ∀ n ∈ ns.take k, ¬ n = ns.getD k default) : (ns.take (k + 1)).Nodup := by
  rw [take_succ_getD ns k hk, List.nodup_append]; exact ⟨h, by simp, fun a ha b hb => by rw [List.mem_singleton.1 hb]; exact e a ha⟩
theorem nodup_no {ns : List Nm} {j k : Nat} (hjk : j < k) (hk : k < ns.length) (e : ns.getD j default = ns.getD k default) : onceB ns = false := by
  unfold onceB; refine decide_eq_false fun h => ?_; have hj : j < ns.length := by omega
  rw [List.getD_eq_getElem?_getD, List.getD_eq_getElem?_getD, List.getElem?_eq_getElem hj, List.getElem?_eq_getElem hk] at e; simp only [Option.getD_some] at e; have := (List.getElem_inj h).1 e; omega
def renI (calls : Int) (V : FV) (a b : Nm) : Int × FV := if calls = 0 then (32, V) else if (!mhas V a || !nameB b) = true then (30, V) else (0, insV (mdel (mdel V a) b) (b, mgetD V a zF))
def appI (room calls : Int) (V : FV) (name : Nm) (more : List UInt8) : Int × FV :=
  if calls = 0 then (32, V) else if nameB name = false then (30, V)
  else if (decide ((more.length : Int) > room - (usedV V : Int)) || (!mhas V name && decide ((V.length : Int) ≥ 4096))) = true then (31, V)
  else if mhas V name = true then (0, mset V name ((mgetD V name zF).1 ++ more, (mgetD V name zF).2)) else (0, insV V (name, (more, 0)))
theorem mget_app : ∀ (A B : FV) (t : Nm), mget (A ++ B) t = (mget A t).or (mget B t)
  | [], B, t => rfl
  | (k, v) :: A, B, t => by
    by_cases h : k = t
    · simp [mget, h]
    · simp [mget, h, mget_app A B t]
theorem mset_app : ∀ (A B : FV) (s : Nm) (v : List UInt8 × Int), s ∉ mkeys A → mset (A ++ B) s v = A ++ mset B s v
  | [], B, s, v, _ => rfl
  | (k, u) :: A, B, s, v, h => by
    have h1 : ¬ k = s := fun e => h (by simp [mkeys, e]); have h2 : s ∉ mkeys A := fun c => h (by simp only [mkeys, List.map_cons, List.mem_cons]; exact .inr c); simp [mset, h1, mset_app A B s v h2]
def twV_ (V : FV) (f : Nm) : FV := V.takeWhile (fun p => decide (p.1 < f))
def dwV_ (V : FV) (f : Nm) : FV := V.dropWhile (fun p => decide (p.1 < f))
theorem tdV (V : FV) (f : Nm) : twV_ V f ++ dwV_ V f = V := List.takeWhile_append_dropWhile
theorem tw_no {V : FV} {s : Nm} (h : s ∉ mkeys V) (f : Nm) : s ∉ mkeys (twV_ V f) := fun c => h (by
  rw [← tdV V f]; simp only [mkeys, List.map_append, List.mem_append]; exact .inl c)
theorem insV_get {V : FV} {s : Nm} (x : List UInt8 × Int) (h : s ∉ mkeys V) (t : Nm) : mget (insV V (s, x)) t = if s = t then some x else mget V t := by
  show mget (twV_ V s ++ (s, x) :: dwV_ V s) t = _; rw [mget_app]
  by_cases e : s = t
  · subst e; rw [mget_none.2 (tw_no h s), if_pos rfl]; simp [mget]
  · rw [if_neg e]; have h2 : mget ((s, x) :: dwV_ V s) t = mget (dwV_ V s) t := by simp [mget, e]
    rw [h2, ← mget_app, tdV]
theorem insV_set {V : FV} {s : Nm} (x y : List UInt8 × Int) (h : s ∉ mkeys V) : mset (insV V (s, x)) s y = insV V (s, y) := by
  show mset (twV_ V s ++ (s, x) :: dwV_ V s) s y = twV_ V s ++ (s, y) :: dwV_ V s; rw [mset_app _ _ _ _ (tw_no h s)]; simp [mset]
theorem insV_perm (V : FV) (f : Nm × (List UInt8 × Int)) : (insV V f).Perm (f :: V) := by
  show (twV_ V f.1 ++ f :: dwV_ V f.1).Perm (f :: V); refine List.perm_middle.trans ?_; rw [tdV]
theorem insV_nd {V : FV} {f : Nm × (List UInt8 × Int)} (h : (mkeys V).Nodup) (hs : f.1 ∉ mkeys V) : (mkeys (insV V f)).Nodup := by
  have hp : (mkeys (insV V f)).Perm (f.1 :: mkeys V) := (insV_perm V f).map _; rw [hp.nodup_iff, List.nodup_cons]; exact ⟨hs, h⟩
theorem catS_take (bs : List (SL UInt8)) (k : Nat) : (catS (bs.take k)).length ≤ (catS bs).length := by
  have h : (catS bs).length = (catS (bs.take k)).length + (catS (bs.drop k)).length := by
    unfold catS; rw [← List.length_append, ← List.flatMap_append, List.take_append_drop]
  omega
theorem set_self {T : RT} {i : Nat} (hi : i < T.length) : T.set i (T.getD i default) = T := by
  rw [show T.getD i default = T[i] from by simp [List.getD, hi]]; exact List.set_getElem_self hi
theorem stay_pos {keep : List Int} {k : Nat} {f : List UInt8 × Int} (h1 : (k : Int) < (keep.length : Int)) (h2 : 0 < keep.getD k default) : (if ((f.1.length : Int) - f.2) < keep.getD k default then ((f.1.length : Int) - f.2) else keep.getD k default) = stayF keep k f := by
  unfold stayF mnI mxI; rw [if_pos h1, if_neg (show ¬ (0 : Int) > keep.getD k default by omega)]
theorem stay_non {keep : List Int} {k : Nat} {f : List UInt8 × Int} (h1 : ¬ (k : Int) < (keep.length : Int) ∨ ¬ 0 < keep.getD k default) (h2 : f.2 ≤ (f.1.length : Int)) : stayF keep k f = 0 := by
  unfold stayF mnI mxI
  by_cases h : (k : Int) < (keep.length : Int)
  · have h3 : ¬ 0 < keep.getD k default := h1.resolve_left (fun c => c h); rw [if_pos h]
    split <;> split <;> omega
  · rw [if_neg h]
theorem usedR_set : ∀ {T : RT} {i : Nat} (_ : i < T.length) (e : RFile), usedR (T.set i e) + (T.getD i default).B.xs.length = usedR T + e.B.xs.length
  | [], _, h, _ => by simp at h
  | x :: T, 0, _, e => by simp [usedR]; omega
  | x :: T, i + 1, h, e => by
    have := usedR_set (T := T) (i := i) (by simpa using h) e; simp only [usedR, List.set_cons_succ, List.map_cons, List.sum_cons, List.getD_cons_succ] at this ⊢; omega
theorem no_mem {V : FV} {s : Nm} (h : mhas V s = false) : s ∉ mkeys V := fun c => by rw [mhas_iff.2 c] at h; cases h
end Go.Dsk

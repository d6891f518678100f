/-
  Package disk, walked.
-/
import Derived.Test.YtehaoafnobnneaaDoorDskB
import Derived.Test.YtehaoafnobnneaaDoorDskN
import Derived.Test.YtehaoafnobnneaaDoorDskL
import Derived.Test.YtehaoafnobnneaaDoorProg
set_option maxRecDepth 100000
set_option maxHeartbeats 4000000
set_option linter.unusedSimpArgs false
set_option linter.unusedVariables false
namespace Go.Dsk.C
open Go Go.SL Go.Proofs Go.Dsk Go.Dsk.L Go.Dsk.X Go.Dsk.B
attribute [local irreducible] Go.SL.Ent
theorem eo_9 : elemOk Tryd.prog 9 1 16 = true := by kernel_rfl

theorem rname_spec (s : (List UInt8)) (ρ : Hp) (hs : s.length ≤ 9223372036854775807) : Spec0 Tryd.prog 10 #[(strB s)] ρ [] (fun v Γ' => v = .bool ((nameB s)) ∧ Γ' = []) := by
  refine spec_of (n := 45) (vs := [_]) (σ := [(0, _)]) Tryd.func10 rfl rfl rfl rfl fun E Δ => ?_
  rw [List.nil_append]
  refine c_seq ?_
  refine c_region ?_
  refine l_step (s_q rfl wn (q_assign rfl) ?_)
  refine l_nil ?_
  refine k_then_n ?_
  refine c_seq ?_
  refine c_seq ?_
  refine c_region ?_
  refine l_step (s_q rfl wn (q_assign rfl) ?_)
  refine l_nil ?_
  refine k_then_n ?_
  refine c_block ?_
  refine Tr.env (σ' := [(0, _), (3, _)]) (.cons rfl rfl (.cons rfl rfl (.nil _))) ?_
  refine t_loop (ι := Lp (Nat)) (fun x => x.d ≤ s.length ∧ ∀ c ∈ s.take x.d, charB c = true) (fun x => s.length - x.d) (fun x => [(0, (strB s)), (3, .int .i64 (x.d : Int))]) (fun x => Δ) (⟨0, none, 0, none, 0, none, 0⟩ : Lp _) ⟨Nat.zero_le _, by simp⟩ ?_ ?_ ?_
  · exact .cons rfl (by first | rfl | exact inte (by omega) | (simp; done) | (simp <;> omega) | simp [*]) (.cons rfl (by first | rfl | exact inte (by omega) | (simp; done) | (simp <;> omega) | simp [*]) (.nil _))
  · exact (by repeat (first | exact Ent.nil _ | exact Ent.refl _ | (refine Ent.pick (by repeat (first | exact Pick.here | apply Pick.there)) ?_) | refine Ent.skip ?_))
  intro x hx
  obtain ⟨hx1, hx2⟩ := hx
  refine c_seq ?_
  refine c_seq ?_
  refine c_region ?_
  refine l_step (s_q rfl wn (q_move rfl) ?_)
  refine l_step (s_q rfl wn (q_move rfl) ?_)
  refine l_step (s_q rfl wn (q_lensB Tryd.underlying9 rfl) ?_)
  refine l_step (s_q rfl wn (q_lss rfl rfl) ?_)
  refine l_nil ?_
  refine k_then_n ?_
  refine c_cond rfl (fun h0 => ?_) (fun h0 => ?_)
  · try simp only [Bool.and_eq_true, Bool.or_eq_true, Bool.not_eq_true', Bool.and_eq_false_iff, Bool.or_eq_false_iff, Bool.not_eq_false', decide_eq_true_eq, decide_eq_false_iff_not, Bool.not_eq_eq_eq_not, Bool.not_true, Bool.not_false, Bool.not_eq_true, Bool.not_eq_false, beq_iff_eq, bne_iff_ne, ne_eq, Decidable.not_not] at h0
    refine c_skip ?_
    refine k_then_n ?_
    refine c_seq ?_
    refine c_block ?_
    refine c_seq ?_
    refine c_region ?_
    refine l_step (s_q rfl wn (q_move rfl) ?_)
    refine l_step (s_q rfl wn (q_move rfl) ?_)
    refine l_step (s_q rfl wn (q_indexs x.d Tryd.underlying9 rfl rfl rfl (by first | assumption | omega)) ?_)
    refine l_step (s_q rfl wn (q_assign rfl) ?_)
    refine l_nil ?_
    refine k_then_n ?_
    refine c_seq ?_
    refine c_region ?_
    refine l_step (s_q rfl wn (q_move rfl) ?_)
    refine l_step (s_q rfl wn (q_geq rfl rfl) ?_)
    refine l_step (s_q rfl wn (q_move rfl) ?_)
    refine l_step (s_qg rfl (ask_t rfl rfl) (b := (decide (97 ≤ ((s.getD x.d default).toNat : Int)))) (fun hb => q_move rfl) ?_)
    refine l_step (s_qg rfl (ask_t rfl rfl) (b := (decide (97 ≤ ((s.getD x.d default).toNat : Int)))) (fun hb => OpQ.env (.cons rfl (gd_t hb) (.nil _) : EnvLe [(17, .int .u8 ((s.getD x.d default).toNat : Int))] _) (q_leq rfl rfl)) ?_)
    refine l_step (s_q rfl wn (q_pick_and rfl rfl rfl (fun h => h)) ?_)
    refine l_step (s_q rfl wn (q_move rfl) ?_)
    refine l_step (s_qg rfl (ask_f rfl rfl) (b := (!((decide (97 ≤ ((s.getD x.d default).toNat : Int))) && (decide (((s.getD x.d default).toNat : Int) ≤ 122))))) (fun hb => q_move rfl) ?_)
    refine l_step (s_qg rfl (ask_f rfl rfl) (b := (!((decide (97 ≤ ((s.getD x.d default).toNat : Int))) && (decide (((s.getD x.d default).toNat : Int) ≤ 122))))) (fun hb => OpQ.env (.cons rfl (gd_t hb) (.nil _) : EnvLe [(21, .int .u8 ((s.getD x.d default).toNat : Int))] _) (q_geq rfl rfl)) ?_)
    refine l_step (s_qg rfl (ask_f rfl rfl) (b := (!((decide (97 ≤ ((s.getD x.d default).toNat : Int))) && (decide (((s.getD x.d default).toNat : Int) ≤ 122))))) (fun hb => OpQ.env (.cons rfl (gd_t hb) (.nil _) : EnvLe [(22, .bool (decide (48 ≤ ((s.getD x.d default).toNat : Int))))] _) (q_move rfl)) ?_)
    refine l_step (s_qg rfl (ask_gt rfl rfl) (b := ((!((decide (97 ≤ ((s.getD x.d default).toNat : Int))) && (decide (((s.getD x.d default).toNat : Int) ≤ 122)))) && (decide (48 ≤ ((s.getD x.d default).toNat : Int))))) (fun hb => q_move rfl) ?_)
    refine l_step (s_qg rfl (ask_gt rfl rfl) (b := ((!((decide (97 ≤ ((s.getD x.d default).toNat : Int))) && (decide (((s.getD x.d default).toNat : Int) ≤ 122)))) && (decide (48 ≤ ((s.getD x.d default).toNat : Int))))) (fun hb => OpQ.env (.cons rfl (gd_t hb) (.nil _) : EnvLe [(24, .int .u8 ((s.getD x.d default).toNat : Int))] _) (q_leq rfl rfl)) ?_)
    refine l_step (s_qg rfl (ask_f rfl rfl) (b := (!((decide (97 ≤ ((s.getD x.d default).toNat : Int))) && (decide (((s.getD x.d default).toNat : Int) ≤ 122))))) (fun hb => OpQ.env (.cons rfl (gd_t hb) (.cons rfl rfl (.nil _)) : EnvLe [(23, .bool (decide (48 ≤ ((s.getD x.d default).toNat : Int)))), (25, gd ((!((decide (97 ≤ ((s.getD x.d default).toNat : Int))) && (decide (((s.getD x.d default).toNat : Int) ≤ 122)))) && (decide (48 ≤ ((s.getD x.d default).toNat : Int)))) (.bool (decide (((s.getD x.d default).toNat : Int) ≤ 57))))] _) (q_pick_and rfl rfl rfl (fun h => by simp_all))) ?_)
    refine l_step (s_q rfl wn (q_pick_or rfl rfl rfl (fun h => by first | (rw [h]; rfl) | exact congrArg not h)) ?_)
    refine l_step (s_q rfl wn (q_move rfl) ?_)
    refine l_step (s_qg rfl (ask_f rfl rfl) (b := (!(((decide (97 ≤ ((s.getD x.d default).toNat : Int))) && (decide (((s.getD x.d default).toNat : Int) ≤ 122))) || ((decide (48 ≤ ((s.getD x.d default).toNat : Int))) && (decide (((s.getD x.d default).toNat : Int) ≤ 57)))))) (fun hb => q_move rfl) ?_)
    refine l_step (s_qg rfl (ask_f rfl rfl) (b := (!(((decide (97 ≤ ((s.getD x.d default).toNat : Int))) && (decide (((s.getD x.d default).toNat : Int) ≤ 122))) || ((decide (48 ≤ ((s.getD x.d default).toNat : Int))) && (decide (((s.getD x.d default).toNat : Int) ≤ 57)))))) (fun hb => OpQ.env (.cons rfl (gd_t hb) (.nil _) : EnvLe [(29, .int .u8 ((s.getD x.d default).toNat : Int))] _) (q_eql rfl rfl)) ?_)
    refine l_step (s_q rfl wn (q_pick_or rfl rfl rfl (fun h => by first | (rw [h]; rfl) | exact congrArg not h)) ?_)
    refine l_step (s_q rfl wn (q_move rfl) ?_)
    refine l_step (s_qg rfl (ask_f rfl rfl) (b := (!((((decide (97 ≤ ((s.getD x.d default).toNat : Int))) && (decide (((s.getD x.d default).toNat : Int) ≤ 122))) || ((decide (48 ≤ ((s.getD x.d default).toNat : Int))) && (decide (((s.getD x.d default).toNat : Int) ≤ 57)))) || (decide (((s.getD x.d default).toNat : Int) = 45))))) (fun hb => q_move rfl) ?_)
    refine l_step (s_qg rfl (ask_f rfl rfl) (b := (!((((decide (97 ≤ ((s.getD x.d default).toNat : Int))) && (decide (((s.getD x.d default).toNat : Int) ≤ 122))) || ((decide (48 ≤ ((s.getD x.d default).toNat : Int))) && (decide (((s.getD x.d default).toNat : Int) ≤ 57)))) || (decide (((s.getD x.d default).toNat : Int) = 45))))) (fun hb => OpQ.env (.cons rfl (gd_t hb) (.nil _) : EnvLe [(33, .int .u8 ((s.getD x.d default).toNat : Int))] _) (q_eql rfl rfl)) ?_)
    refine l_step (s_q rfl wn (q_pick_or rfl rfl rfl (fun h => by first | (rw [h]; rfl) | exact congrArg not h)) ?_)
    refine l_step (s_q rfl wn (q_not rfl) ?_)
    refine l_nil ?_
    refine k_then_n ?_
    refine c_cond rfl (fun h1 => ?_) (fun h1 => ?_)
    · skip
      have hch : charB (s.getD x.d default) = false := by rw [← rchar_eq]; have h9 := h1; rw [Bool.not_eq_true'] at h9; exact h9
      refine c_seq ?_
      refine c_region ?_
      refine l_step (s_q rfl wn (q_assign rfl) ?_)
      refine l_nil ?_
      refine k_then_n ?_
      refine c_ret ?_
      refine k_blk_r ?_
      refine k_then_r ?_
      refine k_then_r ?_
      refine k_blk_r ?_
      refine k_then_r ?_
      exact t_ret [] rfl (.tmp rfl .nil) rfl (Hp.le_refl _) ⟨rfl, boole (name_bad (by omega) hch).symm, rfl⟩ (by (repeat refine Ent.skip ?_); exact Ent.refl _)
    · skip
      have hch : charB (s.getD x.d default) = true := by rw [← rchar_eq]; have h9 := h1; rw [Bool.not_eq_false'] at h9; exact h9
      refine c_skip ?_
      refine k_blk_n ?_
      refine k_then_n ?_
      refine c_region ?_
      refine l_step (s_q rfl wn (q_move rfl) ?_)
      refine l_step (s_q rfl wn (q_add rfl rfl (by omega) (by omega)) ?_)
      refine l_step (s_q rfl wn (q_assign rfl) ?_)
      refine l_nil ?_
      refine k_then_n ?_
      exact t_next (⟨x.d + 1, none, 0, none, 0, none, 0⟩ : Lp _) ⟨⟨by simp only []; omega, char_next (by omega) hx2 hch⟩, by simp only []; omega⟩ (.cons rfl (by first | rfl | exact inte (by omega) | (simp; done) | (simp <;> omega) | simp [*]) (.cons rfl (by first | rfl | exact inte (by omega) | (simp; done) | (simp <;> omega) | simp [*]) (.nil _))) (by repeat (first | exact Ent.nil _ | exact Ent.refl _ | (refine Ent.pick (by repeat (first | exact Pick.here | apply Pick.there)) ?_) | refine Ent.skip ?_))
  · try simp only [Bool.and_eq_true, Bool.or_eq_true, Bool.not_eq_true', Bool.and_eq_false_iff, Bool.or_eq_false_iff, Bool.not_eq_false', decide_eq_true_eq, decide_eq_false_iff_not, Bool.not_eq_eq_eq_not, Bool.not_true, Bool.not_false, Bool.not_eq_true, Bool.not_eq_false, beq_iff_eq, bne_iff_ne, ne_eq, Decidable.not_not] at h0
    have hk : x.d = s.length := by omega
    rw [hk, List.take_length] at hx2
    refine c_exit ?_
    refine k_then_x ?_
    refine k_then_x ?_
    refine k_blk_x ?_
    refine k_then_n ?_
    refine c_seq ?_
    refine c_region ?_
    refine l_step (s_q rfl wn (q_move rfl) ?_)
    refine l_step (s_q rfl wn (q_lensB Tryd.underlying9 rfl) ?_)
    refine l_step (s_q rfl wn (q_gtr rfl rfl) ?_)
    refine l_step (s_q rfl wn (q_move rfl) ?_)
    refine l_step (s_qg rfl (ask_t rfl rfl) (b := (decide (0 < (s.length : Int)))) (fun hb => q_move rfl) ?_)
    refine l_step (s_qg rfl (ask_t rfl rfl) (b := (decide (0 < (s.length : Int)))) (fun hb => OpQ.env (.cons rfl (gd_t hb) (.nil _) : EnvLe [(41, (strB s))] _) (q_lensB Tryd.underlying9 rfl)) ?_)
    refine l_step (s_qg rfl (ask_t rfl rfl) (b := (decide (0 < (s.length : Int)))) (fun hb => OpQ.env (.cons rfl (gd_t hb) (.nil _) : EnvLe [(42, .int .i64 (s.length : Int))] _) (q_leq rfl rfl)) ?_)
    refine l_step (s_q rfl wn (q_pick_and rfl rfl rfl (fun h => h)) ?_)
    refine l_step (s_q rfl wn (q_assign rfl) ?_)
    refine l_nil ?_
    refine k_then_n ?_
    refine c_ret ?_
    exact t_ret [] rfl (.tmp rfl .nil) rfl (Hp.le_refl _) ⟨rfl, boole (name_ref hx2), rfl⟩ (by (repeat refine Ent.skip ?_); exact Ent.refl _)

theorem names_spec (a : (List UInt8)) (b : (List UInt8)) (ρ : Hp) (hla : a.length ≤ 9223372036854775807) (hlb : b.length ≤ 9223372036854775807) : Spec0 Tryd.prog 3 #[(strB a), (strB b)] ρ [] (fun v Γ' => v = .bool true ∧ Γ' = []) := by
  refine spec_of (n := 29) (vs := [_, _]) (σ := [(0, _), (1, _)]) Tryd.func3 rfl rfl rfl rfl fun E Δ => ?_
  rw [List.nil_append]
  refine c_seq ?_
  refine c_region ?_
  refine l_step (s_q rfl wn (q_assign rfl) ?_)
  refine l_nil ?_
  refine k_then_n ?_
  refine c_seq ?_
  refine c_seq ?_
  refine c_region ?_
  refine l_step (s_fnq rfl wn Tryd.func9 rfl (by kernel_rfl) rfl (fun ρ' hL => awake_spec  ρ') ?_)
  refine l_step (s_q rfl wn (q_not rfl) ?_)
  refine l_nil ?_
  refine k_then_n ?_
  refine c_no rfl ?_
  refine c_skip ?_
  refine k_then_n ?_
  refine c_seq ?_
  refine c_region ?_
  refine l_step (s_q rfl wn (q_move rfl) ?_)
  refine l_step (s_fnq rfl wn Tryd.func10 rfl (by kernel_rfl) rfl (fun ρ' hL => rname_spec a ρ' (by first | assumption | omega)) ?_)
  refine l_step (s_q rfl wn (q_move rfl) ?_)
  refine l_step (s_fnq rfl wn Tryd.func10 rfl (by kernel_rfl) rfl (fun ρ' hL => rname_spec b ρ' (by first | assumption | omega)) ?_)
  refine l_step (s_q rfl wn (q_assign rfl) ?_)
  refine l_step (s_q rfl wn (q_assign rfl) ?_)
  refine l_nil ?_
  refine k_then_n ?_
  refine c_seq ?_
  refine c_region ?_
  have hn1 : ∀ s ∈ [a], s.length ≤ 9223372036854775807 := fun s hs => by rw [List.mem_singleton.1 hs]; exact hla
  have hn2 : ∀ s ∈ [a, b], s.length ≤ 9223372036854775807 := fun s hs => by simp only [List.mem_cons, List.not_mem_nil, or_false] at hs; rcases hs with rfl | rfl <;> assumption
  refine l_step (s_q rfl wn (q_move rfl) ?_)
  refine l_step (s_s rfl wn (s_buildSlice (cs := ([a] : List (List UInt8)).flatMap Go.SL.encStr) Tryd.underlying41 eo_9 rfl rfl rfl rfl (by decide) (by decide)) ?_)
  rintro _ _ ⟨b14, rfl, rfl⟩
  refine l_step (s_fnq rfl wn Tryd.func11 rfl (by kernel_rfl) rfl (fun ρ' hL => name_spec (some ⟨b14, 0, none⟩) 1 1 [a] (by first | rfl | assumption | (simp; done) | (simp <;> omega) | omega) ρ' (by first | assumption | exact fun s hs => Nat.le_trans (nml s hs) (by decide)) (by first | exact hL.ro (by assumption) | exact hL.row (by repeat (first | exact Pick.here | apply Pick.there)) | assumption)) ?_)
  refine l_step (s_q rfl wn (q_move rfl) ?_)
  refine l_step (s_q rfl wn (q_eqlb rfl rfl Tryd.underlying4) ?_)
  refine l_step (s_q rfl wn (q_move rfl) ?_)
  refine Tr.env (.cons (t := 18) (v := .bool true) rfl (congrArg Value.bool (by simp)) (EnvLe.refl _)) ?_
  refine l_step (s_q rfl (wy rfl rfl rfl) (q_move rfl) ?_)
  refine l_step (s_q rfl (wy rfl rfl rfl) (q_move rfl) ?_)
  refine l_step (s_s rfl (wy rfl rfl rfl) (s_buildSlice (cs := ([a, b] : List (List UInt8)).flatMap Go.SL.encStr) Tryd.underlying41 eo_9 rfl rfl rfl rfl (by decide) (by decide)) ?_)
  rintro _ _ ⟨b21, rfl, rfl⟩
  refine l_step (s_fnq rfl (wy rfl rfl rfl) Tryd.func11 rfl (by kernel_rfl) rfl (fun ρ' hL => name_spec (some ⟨b21, 0, none⟩) 2 2 [a, b] (by first | rfl | assumption | (simp; done) | (simp <;> omega) | omega) ρ' (by first | assumption | exact fun s hs => Nat.le_trans (nml s hs) (by decide)) (by first | exact hL.ro (by assumption) | exact hL.row (by repeat (first | exact Pick.here | apply Pick.there)) | assumption)) ?_)
  refine l_step (s_q rfl (wy rfl rfl rfl) (q_move rfl) ?_)
  refine l_step (s_q rfl (wy rfl rfl rfl) (q_move rfl) ?_)
  refine l_step (s_qg rfl (ask_t rfl rfl) (b := ((nameB a))) (fun hb => q_move rfl) ?_)
  refine l_step (s_q rfl (wy rfl rfl rfl) (q_pick_and rfl rfl rfl (fun h => h)) ?_)
  refine l_step (s_q rfl (wy rfl rfl rfl) (q_eqlb rfl rfl Tryd.underlying4) ?_)
  refine l_step (s_q rfl wn (q_pick rfl rfl rfl) ?_)
  refine l_step (s_q rfl wn (q_assign rfl) ?_)
  refine l_nil ?_
  refine k_then_n ?_
  refine c_ret ?_
  exact t_ret [] rfl (.tmp rfl .nil) rfl (Hp.le_refl _) ⟨rfl, boole (by simp), rfl⟩ (by (repeat refine Ent.skip ?_); exact Ent.refl _)
end Go.Dsk.C

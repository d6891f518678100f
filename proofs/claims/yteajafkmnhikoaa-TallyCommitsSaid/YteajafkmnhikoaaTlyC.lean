/-
  The track of package tally, walked.
-/
import Derived.Test.YteajafkmnhikoaaTlyB
import Derived.Test.YteajafkmnhikoaaDspL
import Derived.Test.YteajafkmnhikoaaProg
set_option maxRecDepth 100000
set_option maxHeartbeats 4000000
set_option linter.unusedSimpArgs false
set_option linter.unusedVariables false
namespace Go.Tly.C
open Go Go.SL Go.Proofs Go.Tly Go.Tly.B Go.Dsp.L
attribute [local irreducible] Go.SL.Ent
theorem ag_60 : aggSize Try.prog 60 = some 2 := by kernel_rfl

theorem commits_spec (c : Conf) (ms_a : Option Addr) (ms_n ms_c : Nat) (ms : List Mtch) (hms_n : ms.length = ms_n) (ρ : Hp) (hv : Ro ρ 1 c.Voters.a c.Voters.xs.length c.Voters.cap (c.Voters.xs.flatMap encI)) (hms : Ro ρ 2 ms_a ms_n ms_c (ms.flatMap encMtch)) : Spec0 Try.prog 6 #[.agg (encConf c).toArray, .slice ms_a ms_n ms_c] ρ [] (fun v Γ' => v = .bool true ∧ Γ' = []) := by
  refine spec_of (n := 25) (vs := [_, _]) (σ := [(0, _), (1, _)]) Try.func6 rfl rfl rfl rfl fun E Δ => ?_
  rw [List.nil_append]
  refine c_seq ?_
  refine c_region ?_
  refine l_step (s_s rfl wn (s_box (cs := encConf c) rfl rfl) ?_)
  rintro _ _ ⟨b2, rfl, rfl⟩
  refine l_step (s_q rfl wn (q_assign rfl) ?_)
  refine l_nil ?_
  refine k_then_n ?_
  refine c_seq ?_
  refine c_seq ?_
  refine c_region ?_
  refine l_step (s_fnq rfl wn Try.func22 rfl (by kernel_rfl) rfl (fun ρ' hL => awake_spec  ρ') ?_)
  refine l_step (s_q rfl wn (q_not rfl) ?_)
  refine l_step (s_q rfl wn (q_move rfl) ?_)
  refine l_step (s_q rfl (wy rfl rfl rfl) (q_loadpa (vs := encConf c) ag_60 rfl (by repeat (first | exact Pick.here | apply Pick.there)) rfl) ?_)
  refine l_step (s_fnq rfl (wy rfl rfl rfl) Try.func23 rfl (by kernel_rfl) rfl (fun ρ' hL => small_spec c ρ') ?_)
  refine l_step (s_q rfl (wy rfl rfl rfl) (q_not rfl) ?_)
  refine l_step (s_q rfl wn (q_pick rfl rfl rfl) ?_)
  refine l_step (s_q rfl wn (q_move rfl) ?_)
  refine l_step (s_qg rfl (ask_f rfl rfl) (b := (!(!((decide ((c.Voters.xs.length : Int) ≤ 60) && decide ((c.Learners.xs.length : Int) ≤ 60)))))) (fun hb => q_move rfl) ?_)
  refine l_step (s_qg rfl (ask_f rfl rfl) (b := (!(!((decide ((c.Voters.xs.length : Int) ≤ 60) && decide ((c.Learners.xs.length : Int) ≤ 60)))))) (fun hb => OpQ.env (.cons rfl (gd_t hb) (.nil _) : EnvLe [(13, .slice ms_a ms_n ms_c)] _) (q_len Try.underlying61 rfl)) ?_)
  refine l_step (s_qg rfl (ask_f rfl rfl) (b := (!(!((decide ((c.Voters.xs.length : Int) ≤ 60) && decide ((c.Learners.xs.length : Int) ≤ 60)))))) (fun hb => OpQ.env (.cons rfl (gd_t hb) (.nil _) : EnvLe [(14, .int .i64 (ms_n : Int))] _) (q_gtr rfl rfl)) ?_)
  refine l_step (s_q rfl wn (q_pick_or rfl rfl rfl (fun h => by first | (rw [h]; rfl) | exact congrArg not h)) ?_)
  refine l_nil ?_
  refine k_then_n ?_
  refine c_cond rfl (fun h0 => ?_) (fun h0 => ?_)
  · try simp only [Bool.and_eq_true, Bool.or_eq_true, Bool.not_eq_true', Bool.and_eq_false_iff, Bool.or_eq_false_iff, Bool.not_eq_false', decide_eq_true_eq, decide_eq_false_iff_not, Bool.not_eq_eq_eq_not, Bool.not_true, Bool.not_false, Bool.not_eq_true, Bool.not_eq_false, beq_iff_eq, bne_iff_ne, ne_eq, Decidable.not_not] at h0
    refine c_seq ?_
    refine c_region ?_
    refine l_step (s_fnq rfl wn Try.func22 rfl (by kernel_rfl) rfl (fun ρ' hL => awake_spec  ρ') ?_)
    refine l_step (s_q rfl wn (q_assign rfl) ?_)
    refine l_nil ?_
    refine k_then_n ?_
    refine c_ret ?_
    refine k_then_r ?_
    exact t_ret [] rfl (.tmp rfl .nil) rfl (Hp.le_refl _) ⟨rfl, boole (by rfl), rfl⟩ (by (repeat refine Ent.skip ?_); exact Ent.refl _)
  · try simp only [Bool.and_eq_true, Bool.or_eq_true, Bool.not_eq_true', Bool.and_eq_false_iff, Bool.or_eq_false_iff, Bool.not_eq_false', decide_eq_true_eq, decide_eq_false_iff_not, Bool.not_eq_eq_eq_not, Bool.not_true, Bool.not_false, Bool.not_eq_true, Bool.not_eq_false, beq_iff_eq, bne_iff_ne, ne_eq, Decidable.not_not] at h0
    refine c_skip ?_
    refine k_then_n ?_
    refine c_seq ?_
    refine c_draw (m := 8) (bs := #[false, false, false, false, false, false, false, false]) [.pts b2 (encConf c) 60] (by kernel_rfl) rfl (by kernel_rfl) ?_
    refine r_take (i := 0) (bs' := #[true, false, false, false, false, false, false, false]) rfl (by kernel_rfl) (by kernel_rfl) (by kernel_rfl) (fun _ _ _ h => h) rfl wn (q_loadpa (vs := encConf c) ag_60 rfl (by repeat (first | exact Pick.here | apply Pick.there)) rfl) (Hp.le_refl _) (by repeat (first | exact Ent.nil _ | exact Ent.refl _ | (refine Ent.pick (by repeat (first | exact Pick.here | apply Pick.there)) ?_) | refine Ent.skip ?_)) (by kernel_rfl) ?_
    refine r_take (i := 1) (bs' := #[true, true, false, false, false, false, false, false]) rfl (by kernel_rfl) (by kernel_rfl) (by kernel_rfl) (fun _ _ _ h => h) rfl wn (q_move rfl) (Hp.le_refl _) (by repeat (first | exact Ent.nil _ | exact Ent.refl _ | (refine Ent.pick (by repeat (first | exact Pick.here | apply Pick.there)) ?_) | refine Ent.skip ?_)) (by kernel_rfl) ?_
    refine r_take (i := 3) (bs' := #[true, true, false, true, false, false, false, false]) rfl (by kernel_rfl) (by kernel_rfl) (by kernel_rfl) (fun _ _ _ h => h) rfl wn (q_loadpa (vs := encConf c) ag_60 rfl (by repeat (first | exact Pick.here | apply Pick.there)) rfl) (Hp.le_refl _) (by repeat (first | exact Ent.nil _ | exact Ent.refl _ | (refine Ent.pick (by repeat (first | exact Pick.here | apply Pick.there)) ?_) | refine Ent.skip ?_)) (by kernel_rfl) ?_
    refine r_take (i := 4) (bs' := #[true, true, false, true, true, false, false, false]) rfl (by kernel_rfl) (by kernel_rfl) (by kernel_rfl) (fun _ _ _ h => h) rfl wn (q_move rfl) (Hp.le_refl _) (by repeat (first | exact Ent.nil _ | exact Ent.refl _ | (refine Ent.pick (by repeat (first | exact Pick.here | apply Pick.there)) ?_) | refine Ent.skip ?_)) (by kernel_rfl) ?_
    refine r_one (i := 2) (bs' := #[true, true, true, true, true, false, false, false]) (by kernel_rfl) (by kernel_rfl) ?_
    refine o_step rfl (s_fnq rfl wn Try.func24 rfl (by kernel_rfl) rfl (fun ρ' hL => commit_spec c ms_a ms_n ms_c ms (by first | rfl | assumption | simp | (simp <;> omega) | omega) ρ' (by first | assumption | omega) (by first | exact hL.ro (by assumption) | exact hL.row (by repeat (first | exact Pick.here | apply Pick.there)) | assumption) (by first | exact hL.ro (by assumption) | exact hL.row (by repeat (first | exact Pick.here | apply Pick.there)) | assumption)) ?_)
    refine r_cont (Hp.le_refl _) (by repeat (first | exact Ent.nil _ | exact Ent.refl _ | (refine Ent.pick (by repeat (first | exact Pick.here | apply Pick.there)) ?_) | refine Ent.skip ?_)) ?_
    refine r_one (i := 5) (bs' := #[true, true, true, true, true, true, false, false]) (by kernel_rfl) (by kernel_rfl) ?_
    refine o_step rfl (s_fnq rfl wn Try.func25 rfl (by kernel_rfl) rfl (fun ρ' hL => rcommit_spec c ms_a ms_n ms_c ms (by first | rfl | assumption | simp | (simp <;> omega) | omega) ρ' (by first | assumption | omega) (by first | exact hL.ro (by assumption) | exact hL.row (by repeat (first | exact Pick.here | apply Pick.there)) | assumption) (by first | exact hL.ro (by assumption) | exact hL.row (by repeat (first | exact Pick.here | apply Pick.there)) | assumption)) ?_)
    refine r_cont (Hp.le_refl _) (by repeat (first | exact Ent.nil _ | exact Ent.refl _ | (refine Ent.pick (by repeat (first | exact Pick.here | apply Pick.there)) ?_) | refine Ent.skip ?_)) ?_
    refine r_take (i := 6) (bs' := #[true, true, true, true, true, true, true, false]) rfl (by kernel_rfl) (by kernel_rfl) (by kernel_rfl) (fun _ _ _ h => h) rfl wn (q_eql rfl rfl) (Hp.le_refl _) (by repeat (first | exact Ent.nil _ | exact Ent.refl _ | (refine Ent.pick (by repeat (first | exact Pick.here | apply Pick.there)) ?_) | refine Ent.skip ?_)) (by kernel_rfl) ?_
    refine r_take (i := 7) (bs' := #[true, true, true, true, true, true, true, true]) rfl (by kernel_rfl) (by kernel_rfl) (by kernel_rfl) (fun _ _ _ h => h) rfl wn (q_assign rfl) (Hp.le_refl _) (by repeat (first | exact Ent.nil _ | exact Ent.refl _ | (refine Ent.pick (by repeat (first | exact Pick.here | apply Pick.there)) ?_) | refine Ent.skip ?_)) (by kernel_rfl) ?_
    refine r_done (by kernel_rfl) ?_
    refine k_then_n ?_
    refine c_ret ?_
    exact t_ret [] rfl (.tmp rfl .nil) rfl (Hp.le_refl _) ⟨rfl, boole (by rw [commit_eq]; simp), rfl⟩ (by (repeat refine Ent.skip ?_); exact Ent.refl _)
end Go.Tly.C

/-
  The track of package tally, walked.
-/
import Derived.Test.YteajafkmnhikoaaTlyB
import Derived.Test.YteajafkmnhikoaaDspL
import Derived.Test.YteajafkmnhikoaaProg
set_option maxRecDepth 100000
set_option maxHeartbeats 4000000
set_option linter.unusedSimpArgs false
set_option linter.unusedVariables false
namespace Go.Tly.D
open Go Go.SL Go.Proofs Go.Tly Go.Tly.B Go.Dsp.L
attribute [local irreducible] Go.SL.Ent
theorem ag_60 : aggSize Try.prog 60 = some 2 := by kernel_rfl
theorem ag_67 : aggSize Try.prog 67 = some 2 := by kernel_rfl
theorem eo_67 : elemOk Try.prog 67 2 16 = true := by kernel_rfl
theorem fo_60_0 : fieldOff Try.prog 60 0 = some (0, 22) := by kernel_rfl
theorem sc_22 : isScalar Try.prog 22 = true := by kernel_rfl

theorem rises_spec (c : Conf) (ms_a : Option Addr) (ms_n ms_c : Nat) (ms : List Mtch) (hms_n : ms.length = ms_n) (more : Mtch) (ρ : Hp) (hv : Ro ρ 1 c.Voters.a c.Voters.xs.length c.Voters.cap (c.Voters.xs.flatMap encI)) (hms : Ro ρ 2 ms_a ms_n ms_c (ms.flatMap encMtch)) (hw : ∀ m ∈ ms, m.Index ≤ 9223372036854775807) : Spec0 Try.prog 7 #[.agg (encConf c).toArray, .slice ms_a ms_n ms_c, .agg (encMtch more).toArray] ρ [] (fun v Γ' => v = .bool true ∧ Γ' = []) := by
  refine spec_of (n := 60) (vs := [_, _, _]) (σ := [(0, _), (1, _), (2, _)]) Try.func7 rfl rfl rfl rfl fun E Δ => ?_
  rw [List.nil_append]
  refine c_seq ?_
  refine c_region ?_
  refine l_step (s_s rfl wn (s_box (cs := encConf c) rfl rfl) ?_)
  rintro _ _ ⟨b3, rfl, rfl⟩
  refine l_step (s_s rfl wn (s_box (cs := encMtch more) rfl rfl) ?_)
  rintro _ _ ⟨b5, rfl, rfl⟩
  refine l_step (s_q rfl wn (q_assign rfl) ?_)
  refine l_nil ?_
  refine k_then_n ?_
  refine c_seq ?_
  refine c_seq ?_
  refine c_region ?_
  refine l_step (s_fnq rfl wn Try.func22 rfl (by kernel_rfl) rfl (fun ρ' hL => awake_spec  ρ') ?_)
  refine l_step (s_q rfl wn (q_not rfl) ?_)
  refine l_step (s_q rfl wn (q_move rfl) ?_)
  refine l_step (s_q rfl (wy rfl rfl rfl) (q_loadpa (vs := encConf c) ag_60 rfl (by repeat (first | exact Pick.here | apply Pick.there)) rfl) ?_)
  refine l_step (s_fnq rfl (wy rfl rfl rfl) Try.func23 rfl (by kernel_rfl) rfl (fun ρ' hL => small_spec c ρ') ?_)
  refine l_step (s_q rfl (wy rfl rfl rfl) (q_not rfl) ?_)
  refine l_step (s_q rfl wn (q_pick rfl rfl rfl) ?_)
  refine l_step (s_q rfl wn (q_move rfl) ?_)
  refine l_step (s_qg rfl (ask_f rfl rfl) (b := (!(!((decide ((c.Voters.xs.length : Int) ≤ 60) && decide ((c.Learners.xs.length : Int) ≤ 60)))))) (fun hb => q_move rfl) ?_)
  refine l_step (s_qg rfl (ask_f rfl rfl) (b := (!(!((decide ((c.Voters.xs.length : Int) ≤ 60) && decide ((c.Learners.xs.length : Int) ≤ 60)))))) (fun hb => OpQ.env (.cons rfl (gd_t hb) (.nil _) : EnvLe [(17, .slice ms_a ms_n ms_c)] _) (q_len Try.underlying61 rfl)) ?_)
  refine l_step (s_qg rfl (ask_f rfl rfl) (b := (!(!((decide ((c.Voters.xs.length : Int) ≤ 60) && decide ((c.Learners.xs.length : Int) ≤ 60)))))) (fun hb => OpQ.env (.cons rfl (gd_t hb) (.nil _) : EnvLe [(18, .int .i64 (ms_n : Int))] _) (q_gtr rfl rfl)) ?_)
  refine l_step (s_q rfl wn (q_pick_or rfl rfl rfl (fun h => by first | (rw [h]; rfl) | exact congrArg not h)) ?_)
  refine l_nil ?_
  refine k_then_n ?_
  refine c_cond rfl (fun h0 => ?_) (fun h0 => ?_)
  · try simp only [Bool.and_eq_true, Bool.or_eq_true, Bool.not_eq_true', Bool.and_eq_false_iff, Bool.or_eq_false_iff, Bool.not_eq_false', decide_eq_true_eq, decide_eq_false_iff_not, Bool.not_eq_eq_eq_not, Bool.not_true, Bool.not_false, Bool.not_eq_true, Bool.not_eq_false, beq_iff_eq, bne_iff_ne, ne_eq, Decidable.not_not] at h0
    refine c_seq ?_
    refine c_region ?_
    refine l_step (s_fnq rfl wn Try.func22 rfl (by kernel_rfl) rfl (fun ρ' hL => awake_spec  ρ') ?_)
    refine l_step (s_q rfl wn (q_assign rfl) ?_)
    refine l_nil ?_
    refine k_then_n ?_
    refine c_ret ?_
    refine k_then_r ?_
    exact t_ret [] rfl (.tmp rfl .nil) rfl (Hp.le_refl _) ⟨rfl, boole (by rfl), rfl⟩ (by (repeat refine Ent.skip ?_); exact Ent.refl _)
  · try simp only [Bool.and_eq_true, Bool.or_eq_true, Bool.not_eq_true', Bool.and_eq_false_iff, Bool.or_eq_false_iff, Bool.not_eq_false', decide_eq_true_eq, decide_eq_false_iff_not, Bool.not_eq_eq_eq_not, Bool.not_true, Bool.not_false, Bool.not_eq_true, Bool.not_eq_false, beq_iff_eq, bne_iff_ne, ne_eq, Decidable.not_not] at h0
    refine c_skip ?_
    refine k_then_n ?_
    refine c_seq ?_
    refine c_region ?_
    refine l_step (s_q rfl wn (q_loadpa (vs := encConf c) ag_60 rfl (by repeat (first | exact Pick.here | apply Pick.there)) rfl) ?_)
    refine l_step (s_q rfl wn (q_move rfl) ?_)
    refine l_step (s_fnq rfl wn Try.func24 rfl (by kernel_rfl) rfl (fun ρ' hL => commit_spec c ms_a ms_n ms_c ms (by first | rfl | assumption | (simp; done) | (simp <;> omega) | omega) ρ' (by first | assumption | omega) (by first | exact hL.ro (by assumption) | exact hL.row (by repeat (first | exact Pick.here | apply Pick.there)) | assumption) (by first | exact hL.ro (by assumption) | exact hL.row (by repeat (first | exact Pick.here | apply Pick.there)) | assumption)) ?_)
    refine l_step (s_q rfl wn (q_assign rfl) ?_)
    refine l_nil ?_
    refine k_then_n ?_
    refine c_seq ?_
    refine c_seq ?_
    refine c_region ?_
    refine l_step (s_q rfl wn (q_fieldp rfl fo_60_0) ?_)
    refine l_step (s_q rfl wn (q_loadp (v := .slice c.Voters.a c.Voters.xs.length c.Voters.cap) sc_22 rfl (by repeat (first | exact Pick.here | apply Pick.there)) rfl) ?_)
    refine l_step (s_q rfl wn (q_len Try.underlying22 rfl) ?_)
    refine l_step (s_q rfl wn (q_eql rfl rfl) ?_)
    refine l_nil ?_
    refine k_then_n ?_
    refine c_cond rfl (fun h1 => ?_) (fun h1 => ?_)
    · try simp only [Bool.and_eq_true, Bool.or_eq_true, Bool.not_eq_true', Bool.and_eq_false_iff, Bool.or_eq_false_iff, Bool.not_eq_false', decide_eq_true_eq, decide_eq_false_iff_not, Bool.not_eq_eq_eq_not, Bool.not_true, Bool.not_false, Bool.not_eq_true, Bool.not_eq_false, beq_iff_eq, bne_iff_ne, ne_eq, Decidable.not_not] at h1
      refine c_seq ?_
      refine c_region ?_
      refine l_step (s_q rfl wn (q_move rfl) ?_)
      refine l_step (s_q rfl wn (q_eql rfl rfl) ?_)
      refine l_step (s_q rfl wn (q_assign rfl) ?_)
      refine l_nil ?_
      refine k_then_n ?_
      refine c_ret ?_
      refine k_then_r ?_
      exact t_ret [] rfl (.tmp rfl .nil) rfl (Hp.le_refl _) ⟨rfl, boole (by rw [commit_zero (by omega)]; rfl), rfl⟩ (by (repeat refine Ent.skip ?_); exact Ent.refl _)
    · try simp only [Bool.and_eq_true, Bool.or_eq_true, Bool.not_eq_true', Bool.and_eq_false_iff, Bool.or_eq_false_iff, Bool.not_eq_false', decide_eq_true_eq, decide_eq_false_iff_not, Bool.not_eq_eq_eq_not, Bool.not_true, Bool.not_false, Bool.not_eq_true, Bool.not_eq_false, beq_iff_eq, bne_iff_ne, ne_eq, Decidable.not_not] at h1
      have hn : 0 < c.Voters.xs.length := by omega
      refine c_skip ?_
      refine k_then_n ?_
      refine c_seq ?_
      refine c_draw (m := 7) (bs := #[false, false, false, false, false, false, false]) [] (by kernel_rfl) rfl (by kernel_rfl) ?_
      refine r_take (i := 1) (bs' := #[false, true, false, false, false, false, false]) rfl (by kernel_rfl) (by kernel_rfl) (by kernel_rfl) (fun _ _ _ h => h) rfl wn (q_move rfl) (Hp.le_refl _) (by repeat (first | exact Ent.nil _ | exact Ent.refl _ | (refine Ent.pick (by repeat (first | exact Pick.here | apply Pick.there)) ?_) | refine Ent.skip ?_)) (by kernel_rfl) ?_
      refine r_two (i := 0) (j := 3) (bi := #[true, true, false, false, false, false, false]) (bj := #[false, true, false, true, false, false, false]) (by kernel_rfl) (by kernel_rfl) (by kernel_rfl) ?_ ?_
      · skip
        refine o_step rfl (s_s rfl wn (s_buildSlice (cs := ([] : List Mtch).flatMap encMtch) Try.underlying61 eo_67 rfl rfl rfl rfl (by decide) (by decide)) ?_)
        rintro _ _ ⟨b31, rfl, rfl⟩
        refine r_cont (Hp.le_refl _) (by repeat (first | exact Ent.nil _ | exact Ent.refl _ | (refine Ent.pick (by repeat (first | exact Pick.here | apply Pick.there)) ?_) | refine Ent.skip ?_)) ?_
        refine r_two (i := 2) (j := 3) (bi := #[true, true, true, false, false, false, false]) (bj := #[true, true, false, true, false, false, false]) (by kernel_rfl) (by kernel_rfl) (by kernel_rfl) ?_ ?_
        · skip
          refine o_step rfl (s_s rfl wn (s_appendn (enc := encMtch) (xs := ([] : List Mtch)) (ys := (ms : List Mtch)) (Γ' := fun a' cap' => _) Try.underlying61 eo_67 (by decide) rfl rfl (by first | assumption | exact rd_ro (by assumption) | exact rd_row (by repeat (first | exact Pick.here | apply Pick.there))) (oneMtchs _) (by first | omega | (simp only [List.length_append, List.length_cons, List.length_nil] at *; omega)) (by first | omega | (simp only [List.length_append, List.length_cons, List.length_nil] at *; omega)) (fun _ _ => (by repeat (first | exact Pick.here | apply Pick.there)))) ?_)
          rintro _ _ ⟨a33, c33, rfl, rfl⟩
          simp only [Nat.zero_add, List.nil_append]
          refine r_cont (Hp.le_refl _) (by repeat (first | exact Ent.nil _ | exact Ent.refl _ | (refine Ent.pick (by repeat (first | exact Pick.here | apply Pick.there)) ?_) | refine Ent.skip ?_)) ?_
          refine r_one (i := 3) (bs' := #[true, true, true, true, false, false, false]) (by kernel_rfl) (by kernel_rfl) ?_
          refine o_step rfl (s_q rfl wn (q_loadpa (vs := encMtch more) ag_67 rfl (by repeat (first | exact Pick.here | apply Pick.there)) rfl) ?_)
          refine r_cont (Hp.le_refl _) (by repeat (first | exact Ent.nil _ | exact Ent.refl _ | (refine Ent.pick (by repeat (first | exact Pick.here | apply Pick.there)) ?_) | refine Ent.skip ?_)) ?_
          refine r_one (i := 4) (bs' := #[true, true, true, true, true, false, false]) (by kernel_rfl) (by kernel_rfl) ?_
          refine o_step rfl (s_s rfl wn (s_buildSlice (cs := ([more] : List Mtch).flatMap encMtch) Try.underlying61 eo_67 rfl rfl rfl rfl (by decide) (by decide)) ?_)
          rintro _ _ ⟨b35, rfl, rfl⟩
          refine r_cont (Hp.le_refl _) (by repeat (first | exact Ent.nil _ | exact Ent.refl _ | (refine Ent.pick (by repeat (first | exact Pick.here | apply Pick.there)) ?_) | refine Ent.skip ?_)) ?_
          refine r_one (i := 5) (bs' := #[true, true, true, true, true, true, false]) (by kernel_rfl) (by kernel_rfl) ?_
          refine o_step rfl (s_s rfl wn (s_appendn (enc := encMtch) (xs := (ms : List Mtch)) (ys := ([more] : List Mtch)) (Γ' := fun a' cap' => _) Try.underlying61 eo_67 (by decide) rfl rfl (rd_row (by repeat (first | exact Pick.here | apply Pick.there))) (oneMtchs _) (by first | omega | (simp only [List.length_append, List.length_cons, List.length_nil] at *; omega)) (by first | omega | (simp only [List.length_append, List.length_cons, List.length_nil] at *; omega)) (fun _ _ => (by repeat (first | exact Pick.here | apply Pick.there)))) ?_)
          rintro _ _ ⟨a36, c36, rfl, rfl⟩
          refine r_cont (Hp.le_refl _) (by repeat (first | exact Ent.nil _ | exact Ent.refl _ | (refine Ent.pick (by repeat (first | exact Pick.here | apply Pick.there)) ?_) | refine Ent.skip ?_)) ?_
          refine r_take (i := 6) (bs' := #[true, true, true, true, true, true, true]) rfl (by kernel_rfl) (by kernel_rfl) (by kernel_rfl) (fun _ _ _ h => h) rfl wn (q_assign rfl) (Hp.le_refl _) (by repeat (first | exact Ent.nil _ | exact Ent.refl _ | (refine Ent.pick (by repeat (first | exact Pick.here | apply Pick.there)) ?_) | refine Ent.skip ?_)) (by kernel_rfl) ?_
          refine r_done (by kernel_rfl) ?_
          refine k_then_n ?_
          refine c_seq ?_
          refine c_region ?_
          refine l_step (s_q rfl wn (q_loadpa (vs := encConf c) ag_60 rfl (by repeat (first | exact Pick.here | apply Pick.there)) rfl) ?_)
          refine l_step (s_q rfl wn (q_move rfl) ?_)
          refine l_step (s_q rfl wn (q_move rfl) ?_)
          refine l_step (s_fnq rfl wn Try.func26 rfl (by kernel_rfl) rfl (fun ρ' hL => enough_spec c ms_a ms_n ms_c ms (by first | rfl | assumption | (simp; done) | (simp <;> omega) | omega) (commitF c.Voters.xs ms) ρ' (by first | assumption | omega) (by first | exact hL.ro (by assumption) | exact hL.row (by repeat (first | exact Pick.here | apply Pick.there)) | assumption) (by first | exact hL.ro (by assumption) | exact hL.row (by repeat (first | exact Pick.here | apply Pick.there)) | assumption)) ?_)
          refine l_step (s_q rfl wn (q_move rfl) ?_)
          refine Tr.env (.cons (t := 41) (v := .bool true) rfl (congrArg Value.bool (commit_enough hn)) (EnvLe.refl _)) ?_
          refine l_step (s_q rfl (wy rfl rfl rfl) (q_move rfl) ?_)
          refine l_step (s_q rfl (wy rfl rfl rfl) (q_eql rfl rfl) ?_)
          refine l_step (s_q rfl (wy rfl rfl rfl) (q_move rfl) ?_)
          refine t_split (d := 44) rfl (fun g7_7 => ?_) (fun g7_7 => ?_)
          · try simp only [Bool.and_eq_true, Bool.or_eq_true, Bool.not_eq_true', Bool.and_eq_false_iff, Bool.or_eq_false_iff, Bool.not_eq_false', decide_eq_true_eq, decide_eq_false_iff_not, Bool.not_eq_eq_eq_not, Bool.not_true, Bool.not_false, Bool.not_eq_true, Bool.not_eq_false, beq_iff_eq, bne_iff_ne, ne_eq, Decidable.not_not] at g7_7
            refine l_step (s_no rfl (wno rfl rfl (by decide)) ?_)
            refine l_step (s_no rfl (wno rfl rfl (by decide)) ?_)
            refine l_step (s_no rfl (wno rfl rfl (by decide)) ?_)
            refine l_step (s_no rfl (wno rfl rfl (by decide)) ?_)
            refine l_step (s_no rfl (wno rfl rfl (by decide)) ?_)
            refine l_step (s_no rfl (wno rfl rfl (by decide)) ?_)
            refine l_step (s_q rfl (wy rfl rfl rfl) (q_pick rfl rfl rfl) ?_)
            refine l_step (s_q rfl wn (q_pick rfl rfl rfl) ?_)
            refine l_step (s_q rfl wn (q_move rfl) ?_)
            refine l_step (s_q rfl (wy rfl rfl rfl) (q_loadpa (vs := encConf c) ag_60 rfl (by repeat (first | exact Pick.here | apply Pick.there)) rfl) ?_)
            refine l_step (s_q rfl (wy rfl rfl rfl) (q_move rfl) ?_)
            refine l_step (s_fnq rfl (wy rfl rfl rfl) Try.func24 rfl (by kernel_rfl) rfl (fun ρ' hL => commit_spec c a36 (ms_n + 1) c36 (ms ++ [more]) (by first | rfl | assumption | (simp; done) | (simp <;> omega) | omega) ρ' (by first | assumption | omega) (by first | exact hL.ro (by assumption) | exact hL.row (by repeat (first | exact Pick.here | apply Pick.there)) | assumption) (by first | exact hL.ro (by assumption) | exact hL.row (by repeat (first | exact Pick.here | apply Pick.there)) | assumption)) ?_)
            refine l_step (s_q rfl (wy rfl rfl rfl) (q_move rfl) ?_)
            refine l_step (s_q rfl (wy rfl rfl rfl) (q_geq rfl rfl) ?_)
            refine l_step (s_q rfl wn (q_pick rfl rfl rfl) ?_)
            refine l_step (s_q rfl wn (q_assign rfl) ?_)
            refine l_nil ?_
            refine k_then_n ?_
            refine c_ret ?_
            exact t_ret [] rfl (.tmp rfl .nil) rfl (Hp.le_refl _) ⟨rfl, boole (by first | exact decide_eq_true (commit_rises hn) | (rw [commit_not hn, decide_eq_true (commit_rises hn)]; rfl)), rfl⟩ (by (repeat refine Ent.skip ?_); exact Ent.refl _)
          · try simp only [Bool.and_eq_true, Bool.or_eq_true, Bool.not_eq_true', Bool.and_eq_false_iff, Bool.or_eq_false_iff, Bool.not_eq_false', decide_eq_true_eq, decide_eq_false_iff_not, Bool.not_eq_eq_eq_not, Bool.not_true, Bool.not_false, Bool.not_eq_true, Bool.not_eq_false, beq_iff_eq, bne_iff_ne, ne_eq, Decidable.not_not] at g7_7
            have hmx := commit_max (vs := c.Voters.xs) hw
            have hmn := commit_nonneg c.Voters.xs ms
            refine l_step (s_q rfl (wy rfl rfl rfl) (q_loadpa (vs := encConf c) ag_60 rfl (by repeat (first | exact Pick.here | apply Pick.there)) rfl) ?_)
            refine l_step (s_q rfl (wy rfl rfl rfl) (q_move rfl) ?_)
            refine l_step (s_q rfl (wy rfl rfl rfl) (q_move rfl) ?_)
            refine l_step (s_q rfl (wy rfl rfl rfl) (q_add rfl rfl (by omega) (by omega)) ?_)
            refine l_step (s_fnq rfl (wy rfl rfl rfl) Try.func26 rfl (by kernel_rfl) rfl (fun ρ' hL => enough_spec c ms_a ms_n ms_c ms (by first | rfl | assumption | (simp; done) | (simp <;> omega) | omega) ((commitF c.Voters.xs ms) + 1) ρ' (by first | assumption | omega) (by first | exact hL.ro (by assumption) | exact hL.row (by repeat (first | exact Pick.here | apply Pick.there)) | assumption) (by first | exact hL.ro (by assumption) | exact hL.row (by repeat (first | exact Pick.here | apply Pick.there)) | assumption)) ?_)
            refine l_step (s_q rfl (wy rfl rfl rfl) (q_not rfl) ?_)
            refine l_step (s_q rfl (wy rfl rfl rfl) (q_pick rfl rfl rfl) ?_)
            refine l_step (s_q rfl wn (q_pick rfl rfl rfl) ?_)
            refine l_step (s_q rfl wn (q_move rfl) ?_)
            refine l_step (s_qg rfl (ask_t rfl rfl) (b := (!(enoughF c.Voters.xs ms ((commitF c.Voters.xs ms) + 1)))) (fun hb => q_loadpa (vs := encConf c) ag_60 rfl (by repeat (first | exact Pick.here | apply Pick.there)) rfl) ?_)
            refine l_step (s_qg rfl (ask_t rfl rfl) (b := (!(enoughF c.Voters.xs ms ((commitF c.Voters.xs ms) + 1)))) (fun hb => q_move rfl) ?_)
            refine l_step (s_fnqg (b := (!(enoughF c.Voters.xs ms ((commitF c.Voters.xs ms) + 1)))) rfl (ask_t rfl rfl) Try.func24 rfl (by kernel_rfl) (fun hb => (.cons rfl (gd_t hb) (.cons rfl (gd_t hb) (.nil _)) : EnvLe [(54, .agg (encConf c).toArray), (55, .slice a36 (ms_n + 1) c36)] _)) rfl (fun hb ρ' hL => commit_spec c a36 (ms_n + 1) c36 (ms ++ [more]) (by first | rfl | assumption | (simp; done) | (simp <;> omega) | omega) ρ' (by first | assumption | omega) (by first | exact hL.ro (by assumption) | exact hL.row (by repeat (first | exact Pick.here | apply Pick.there)) | assumption) (by first | exact hL.ro (by assumption) | exact hL.row (by repeat (first | exact Pick.here | apply Pick.there)) | assumption)) ?_)
            refine l_step (s_qg rfl (ask_t rfl rfl) (b := (!(enoughF c.Voters.xs ms ((commitF c.Voters.xs ms) + 1)))) (fun hb => q_move rfl) ?_)
            refine l_step (s_qg rfl (ask_t rfl rfl) (b := (!(enoughF c.Voters.xs ms ((commitF c.Voters.xs ms) + 1)))) (fun hb => OpQ.env (.cons rfl (gd_t hb) (.cons rfl (gd_t hb) (.nil _)) : EnvLe [(56, .int .i64 (commitF c.Voters.xs (ms ++ [more]))), (57, .int .i64 (commitF c.Voters.xs ms))] _) (q_geq rfl rfl)) ?_)
            refine l_step (s_q rfl wn (q_pick_and rfl rfl rfl (fun h => h)) ?_)
            refine l_step (s_q rfl wn (q_assign rfl) ?_)
            refine l_nil ?_
            refine k_then_n ?_
            refine c_ret ?_
            exact t_ret [] rfl (.tmp rfl .nil) rfl (Hp.le_refl _) ⟨rfl, boole (by first | exact decide_eq_true (commit_rises hn) | (rw [commit_not hn, decide_eq_true (commit_rises hn)]; rfl)), rfl⟩ (by (repeat refine Ent.skip ?_); exact Ent.refl _)
        · skip
          refine o_step rfl (s_q rfl wn (q_loadpa (vs := encMtch more) ag_67 rfl (by repeat (first | exact Pick.here | apply Pick.there)) rfl) ?_)
          refine r_cont (Hp.le_refl _) (by repeat (first | exact Ent.nil _ | exact Ent.refl _ | (refine Ent.pick (by repeat (first | exact Pick.here | apply Pick.there)) ?_) | refine Ent.skip ?_)) ?_
          refine r_two (i := 2) (j := 4) (bi := #[true, true, true, true, false, false, false]) (bj := #[true, true, false, true, true, false, false]) (by kernel_rfl) (by kernel_rfl) (by kernel_rfl) ?_ ?_
          · skip
            refine o_step rfl (s_s rfl wn (s_appendn (enc := encMtch) (xs := ([] : List Mtch)) (ys := (ms : List Mtch)) (Γ' := fun a' cap' => _) Try.underlying61 eo_67 (by decide) rfl rfl (by first | assumption | exact rd_ro (by assumption) | exact rd_row (by repeat (first | exact Pick.here | apply Pick.there))) (oneMtchs _) (by first | omega | (simp only [List.length_append, List.length_cons, List.length_nil] at *; omega)) (by first | omega | (simp only [List.length_append, List.length_cons, List.length_nil] at *; omega)) (fun _ _ => (by repeat (first | exact Pick.here | apply Pick.there)))) ?_)
            rintro _ _ ⟨a33, c33, rfl, rfl⟩
            simp only [Nat.zero_add, List.nil_append]
            refine r_cont (Hp.le_refl _) (by repeat (first | exact Ent.nil _ | exact Ent.refl _ | (refine Ent.pick (by repeat (first | exact Pick.here | apply Pick.there)) ?_) | refine Ent.skip ?_)) ?_
            refine r_one (i := 4) (bs' := #[true, true, true, true, true, false, false]) (by kernel_rfl) (by kernel_rfl) ?_
            refine o_step rfl (s_s rfl wn (s_buildSlice (cs := ([more] : List Mtch).flatMap encMtch) Try.underlying61 eo_67 rfl rfl rfl rfl (by decide) (by decide)) ?_)
            rintro _ _ ⟨b35, rfl, rfl⟩
            refine r_cont (Hp.le_refl _) (by repeat (first | exact Ent.nil _ | exact Ent.refl _ | (refine Ent.pick (by repeat (first | exact Pick.here | apply Pick.there)) ?_) | refine Ent.skip ?_)) ?_
            refine r_one (i := 5) (bs' := #[true, true, true, true, true, true, false]) (by kernel_rfl) (by kernel_rfl) ?_
            refine o_step rfl (s_s rfl wn (s_appendn (enc := encMtch) (xs := (ms : List Mtch)) (ys := ([more] : List Mtch)) (Γ' := fun a' cap' => _) Try.underlying61 eo_67 (by decide) rfl rfl (rd_row (by repeat (first | exact Pick.here | apply Pick.there))) (oneMtchs _) (by first | omega | (simp only [List.length_append, List.length_cons, List.length_nil] at *; omega)) (by first | omega | (simp only [List.length_append, List.length_cons, List.length_nil] at *; omega)) (fun _ _ => (by repeat (first | exact Pick.here | apply Pick.there)))) ?_)
            rintro _ _ ⟨a36, c36, rfl, rfl⟩
            refine r_cont (Hp.le_refl _) (by repeat (first | exact Ent.nil _ | exact Ent.refl _ | (refine Ent.pick (by repeat (first | exact Pick.here | apply Pick.there)) ?_) | refine Ent.skip ?_)) ?_
            refine r_take (i := 6) (bs' := #[true, true, true, true, true, true, true]) rfl (by kernel_rfl) (by kernel_rfl) (by kernel_rfl) (fun _ _ _ h => h) rfl wn (q_assign rfl) (Hp.le_refl _) (by repeat (first | exact Ent.nil _ | exact Ent.refl _ | (refine Ent.pick (by repeat (first | exact Pick.here | apply Pick.there)) ?_) | refine Ent.skip ?_)) (by kernel_rfl) ?_
            refine r_done (by kernel_rfl) ?_
            refine k_then_n ?_
            refine c_seq ?_
            refine c_region ?_
            refine l_step (s_q rfl wn (q_loadpa (vs := encConf c) ag_60 rfl (by repeat (first | exact Pick.here | apply Pick.there)) rfl) ?_)
            refine l_step (s_q rfl wn (q_move rfl) ?_)
            refine l_step (s_q rfl wn (q_move rfl) ?_)
            refine l_step (s_fnq rfl wn Try.func26 rfl (by kernel_rfl) rfl (fun ρ' hL => enough_spec c ms_a ms_n ms_c ms (by first | rfl | assumption | (simp; done) | (simp <;> omega) | omega) (commitF c.Voters.xs ms) ρ' (by first | assumption | omega) (by first | exact hL.ro (by assumption) | exact hL.row (by repeat (first | exact Pick.here | apply Pick.there)) | assumption) (by first | exact hL.ro (by assumption) | exact hL.row (by repeat (first | exact Pick.here | apply Pick.there)) | assumption)) ?_)
            refine l_step (s_q rfl wn (q_move rfl) ?_)
            refine Tr.env (.cons (t := 41) (v := .bool true) rfl (congrArg Value.bool (commit_enough hn)) (EnvLe.refl _)) ?_
            refine l_step (s_q rfl (wy rfl rfl rfl) (q_move rfl) ?_)
            refine l_step (s_q rfl (wy rfl rfl rfl) (q_eql rfl rfl) ?_)
            refine l_step (s_q rfl (wy rfl rfl rfl) (q_move rfl) ?_)
            refine t_split (d := 44) rfl (fun g7_7 => ?_) (fun g7_7 => ?_)
            · try simp only [Bool.and_eq_true, Bool.or_eq_true, Bool.not_eq_true', Bool.and_eq_false_iff, Bool.or_eq_false_iff, Bool.not_eq_false', decide_eq_true_eq, decide_eq_false_iff_not, Bool.not_eq_eq_eq_not, Bool.not_true, Bool.not_false, Bool.not_eq_true, Bool.not_eq_false, beq_iff_eq, bne_iff_ne, ne_eq, Decidable.not_not] at g7_7
              refine l_step (s_no rfl (wno rfl rfl (by decide)) ?_)
              refine l_step (s_no rfl (wno rfl rfl (by decide)) ?_)
              refine l_step (s_no rfl (wno rfl rfl (by decide)) ?_)
              refine l_step (s_no rfl (wno rfl rfl (by decide)) ?_)
              refine l_step (s_no rfl (wno rfl rfl (by decide)) ?_)
              refine l_step (s_no rfl (wno rfl rfl (by decide)) ?_)
              refine l_step (s_q rfl (wy rfl rfl rfl) (q_pick rfl rfl rfl) ?_)
              refine l_step (s_q rfl wn (q_pick rfl rfl rfl) ?_)
              refine l_step (s_q rfl wn (q_move rfl) ?_)
              refine l_step (s_q rfl (wy rfl rfl rfl) (q_loadpa (vs := encConf c) ag_60 rfl (by repeat (first | exact Pick.here | apply Pick.there)) rfl) ?_)
              refine l_step (s_q rfl (wy rfl rfl rfl) (q_move rfl) ?_)
              refine l_step (s_fnq rfl (wy rfl rfl rfl) Try.func24 rfl (by kernel_rfl) rfl (fun ρ' hL => commit_spec c a36 (ms_n + 1) c36 (ms ++ [more]) (by first | rfl | assumption | (simp; done) | (simp <;> omega) | omega) ρ' (by first | assumption | omega) (by first | exact hL.ro (by assumption) | exact hL.row (by repeat (first | exact Pick.here | apply Pick.there)) | assumption) (by first | exact hL.ro (by assumption) | exact hL.row (by repeat (first | exact Pick.here | apply Pick.there)) | assumption)) ?_)
              refine l_step (s_q rfl (wy rfl rfl rfl) (q_move rfl) ?_)
              refine l_step (s_q rfl (wy rfl rfl rfl) (q_geq rfl rfl) ?_)
              refine l_step (s_q rfl wn (q_pick rfl rfl rfl) ?_)
              refine l_step (s_q rfl wn (q_assign rfl) ?_)
              refine l_nil ?_
              refine k_then_n ?_
              refine c_ret ?_
              exact t_ret [] rfl (.tmp rfl .nil) rfl (Hp.le_refl _) ⟨rfl, boole (by first | exact decide_eq_true (commit_rises hn) | (rw [commit_not hn, decide_eq_true (commit_rises hn)]; rfl)), rfl⟩ (by (repeat refine Ent.skip ?_); exact Ent.refl _)
            · try simp only [Bool.and_eq_true, Bool.or_eq_true, Bool.not_eq_true', Bool.and_eq_false_iff, Bool.or_eq_false_iff, Bool.not_eq_false', decide_eq_true_eq, decide_eq_false_iff_not, Bool.not_eq_eq_eq_not, Bool.not_true, Bool.not_false, Bool.not_eq_true, Bool.not_eq_false, beq_iff_eq, bne_iff_ne, ne_eq, Decidable.not_not] at g7_7
              have hmx := commit_max (vs := c.Voters.xs) hw
              have hmn := commit_nonneg c.Voters.xs ms
              refine l_step (s_q rfl (wy rfl rfl rfl) (q_loadpa (vs := encConf c) ag_60 rfl (by repeat (first | exact Pick.here | apply Pick.there)) rfl) ?_)
              refine l_step (s_q rfl (wy rfl rfl rfl) (q_move rfl) ?_)
              refine l_step (s_q rfl (wy rfl rfl rfl) (q_move rfl) ?_)
              refine l_step (s_q rfl (wy rfl rfl rfl) (q_add rfl rfl (by omega) (by omega)) ?_)
              refine l_step (s_fnq rfl (wy rfl rfl rfl) Try.func26 rfl (by kernel_rfl) rfl (fun ρ' hL => enough_spec c ms_a ms_n ms_c ms (by first | rfl | assumption | (simp; done) | (simp <;> omega) | omega) ((commitF c.Voters.xs ms) + 1) ρ' (by first | assumption | omega) (by first | exact hL.ro (by assumption) | exact hL.row (by repeat (first | exact Pick.here | apply Pick.there)) | assumption) (by first | exact hL.ro (by assumption) | exact hL.row (by repeat (first | exact Pick.here | apply Pick.there)) | assumption)) ?_)
              refine l_step (s_q rfl (wy rfl rfl rfl) (q_not rfl) ?_)
              refine l_step (s_q rfl (wy rfl rfl rfl) (q_pick rfl rfl rfl) ?_)
              refine l_step (s_q rfl wn (q_pick rfl rfl rfl) ?_)
              refine l_step (s_q rfl wn (q_move rfl) ?_)
              refine l_step (s_qg rfl (ask_t rfl rfl) (b := (!(enoughF c.Voters.xs ms ((commitF c.Voters.xs ms) + 1)))) (fun hb => q_loadpa (vs := encConf c) ag_60 rfl (by repeat (first | exact Pick.here | apply Pick.there)) rfl) ?_)
              refine l_step (s_qg rfl (ask_t rfl rfl) (b := (!(enoughF c.Voters.xs ms ((commitF c.Voters.xs ms) + 1)))) (fun hb => q_move rfl) ?_)
              refine l_step (s_fnqg (b := (!(enoughF c.Voters.xs ms ((commitF c.Voters.xs ms) + 1)))) rfl (ask_t rfl rfl) Try.func24 rfl (by kernel_rfl) (fun hb => (.cons rfl (gd_t hb) (.cons rfl (gd_t hb) (.nil _)) : EnvLe [(54, .agg (encConf c).toArray), (55, .slice a36 (ms_n + 1) c36)] _)) rfl (fun hb ρ' hL => commit_spec c a36 (ms_n + 1) c36 (ms ++ [more]) (by first | rfl | assumption | (simp; done) | (simp <;> omega) | omega) ρ' (by first | assumption | omega) (by first | exact hL.ro (by assumption) | exact hL.row (by repeat (first | exact Pick.here | apply Pick.there)) | assumption) (by first | exact hL.ro (by assumption) | exact hL.row (by repeat (first | exact Pick.here | apply Pick.there)) | assumption)) ?_)
              refine l_step (s_qg rfl (ask_t rfl rfl) (b := (!(enoughF c.Voters.xs ms ((commitF c.Voters.xs ms) + 1)))) (fun hb => q_move rfl) ?_)
              refine l_step (s_qg rfl (ask_t rfl rfl) (b := (!(enoughF c.Voters.xs ms ((commitF c.Voters.xs ms) + 1)))) (fun hb => OpQ.env (.cons rfl (gd_t hb) (.cons rfl (gd_t hb) (.nil _)) : EnvLe [(56, .int .i64 (commitF c.Voters.xs (ms ++ [more]))), (57, .int .i64 (commitF c.Voters.xs ms))] _) (q_geq rfl rfl)) ?_)
              refine l_step (s_q rfl wn (q_pick_and rfl rfl rfl (fun h => h)) ?_)
              refine l_step (s_q rfl wn (q_assign rfl) ?_)
              refine l_nil ?_
              refine k_then_n ?_
              refine c_ret ?_
              exact t_ret [] rfl (.tmp rfl .nil) rfl (Hp.le_refl _) ⟨rfl, boole (by first | exact decide_eq_true (commit_rises hn) | (rw [commit_not hn, decide_eq_true (commit_rises hn)]; rfl)), rfl⟩ (by (repeat refine Ent.skip ?_); exact Ent.refl _)
          · skip
            refine o_step rfl (s_s rfl wn (s_buildSlice (cs := ([more] : List Mtch).flatMap encMtch) Try.underlying61 eo_67 rfl rfl rfl rfl (by decide) (by decide)) ?_)
            rintro _ _ ⟨b35, rfl, rfl⟩
            refine r_cont (Hp.le_refl _) (by repeat (first | exact Ent.nil _ | exact Ent.refl _ | (refine Ent.pick (by repeat (first | exact Pick.here | apply Pick.there)) ?_) | refine Ent.skip ?_)) ?_
            refine r_one (i := 2) (bs' := #[true, true, true, true, true, false, false]) (by kernel_rfl) (by kernel_rfl) ?_
            refine o_step rfl (s_s rfl wn (s_appendn (enc := encMtch) (xs := ([] : List Mtch)) (ys := (ms : List Mtch)) (Γ' := fun a' cap' => _) Try.underlying61 eo_67 (by decide) rfl rfl (by first | assumption | exact rd_ro (by assumption) | exact rd_row (by repeat (first | exact Pick.here | apply Pick.there))) (oneMtchs _) (by first | omega | (simp only [List.length_append, List.length_cons, List.length_nil] at *; omega)) (by first | omega | (simp only [List.length_append, List.length_cons, List.length_nil] at *; omega)) (fun _ _ => (by repeat (first | exact Pick.here | apply Pick.there)))) ?_)
            rintro _ _ ⟨a33, c33, rfl, rfl⟩
            simp only [Nat.zero_add, List.nil_append]
            refine r_cont (Hp.le_refl _) (by repeat (first | exact Ent.nil _ | exact Ent.refl _ | (refine Ent.pick (by repeat (first | exact Pick.here | apply Pick.there)) ?_) | refine Ent.skip ?_)) ?_
            refine r_one (i := 5) (bs' := #[true, true, true, true, true, true, false]) (by kernel_rfl) (by kernel_rfl) ?_
            refine o_step rfl (s_s rfl wn (s_appendn (enc := encMtch) (xs := (ms : List Mtch)) (ys := ([more] : List Mtch)) (Γ' := fun a' cap' => _) Try.underlying61 eo_67 (by decide) rfl rfl (rd_row (by repeat (first | exact Pick.here | apply Pick.there))) (oneMtchs _) (by first | omega | (simp only [List.length_append, List.length_cons, List.length_nil] at *; omega)) (by first | omega | (simp only [List.length_append, List.length_cons, List.length_nil] at *; omega)) (fun _ _ => (by repeat (first | exact Pick.here | apply Pick.there)))) ?_)
            rintro _ _ ⟨a36, c36, rfl, rfl⟩
            refine r_cont (Hp.le_refl _) (by repeat (first | exact Ent.nil _ | exact Ent.refl _ | (refine Ent.pick (by repeat (first | exact Pick.here | apply Pick.there)) ?_) | refine Ent.skip ?_)) ?_
            refine r_take (i := 6) (bs' := #[true, true, true, true, true, true, true]) rfl (by kernel_rfl) (by kernel_rfl) (by kernel_rfl) (fun _ _ _ h => h) rfl wn (q_assign rfl) (Hp.le_refl _) (by repeat (first | exact Ent.nil _ | exact Ent.refl _ | (refine Ent.pick (by repeat (first | exact Pick.here | apply Pick.there)) ?_) | refine Ent.skip ?_)) (by kernel_rfl) ?_
            refine r_done (by kernel_rfl) ?_
            refine k_then_n ?_
            refine c_seq ?_
            refine c_region ?_
            refine l_step (s_q rfl wn (q_loadpa (vs := encConf c) ag_60 rfl (by repeat (first | exact Pick.here | apply Pick.there)) rfl) ?_)
            refine l_step (s_q rfl wn (q_move rfl) ?_)
            refine l_step (s_q rfl wn (q_move rfl) ?_)
            refine l_step (s_fnq rfl wn Try.func26 rfl (by kernel_rfl) rfl (fun ρ' hL => enough_spec c ms_a ms_n ms_c ms (by first | rfl | assumption | (simp; done) | (simp <;> omega) | omega) (commitF c.Voters.xs ms) ρ' (by first | assumption | omega) (by first | exact hL.ro (by assumption) | exact hL.row (by repeat (first | exact Pick.here | apply Pick.there)) | assumption) (by first | exact hL.ro (by assumption) | exact hL.row (by repeat (first | exact Pick.here | apply Pick.there)) | assumption)) ?_)
            refine l_step (s_q rfl wn (q_move rfl) ?_)
            refine Tr.env (.cons (t := 41) (v := .bool true) rfl (congrArg Value.bool (commit_enough hn)) (EnvLe.refl _)) ?_
            refine l_step (s_q rfl (wy rfl rfl rfl) (q_move rfl) ?_)
            refine l_step (s_q rfl (wy rfl rfl rfl) (q_eql rfl rfl) ?_)
            refine l_step (s_q rfl (wy rfl rfl rfl) (q_move rfl) ?_)
            refine t_split (d := 44) rfl (fun g7_7 => ?_) (fun g7_7 => ?_)
            · try simp only [Bool.and_eq_true, Bool.or_eq_true, Bool.not_eq_true', Bool.and_eq_false_iff, Bool.or_eq_false_iff, Bool.not_eq_false', decide_eq_true_eq, decide_eq_false_iff_not, Bool.not_eq_eq_eq_not, Bool.not_true, Bool.not_false, Bool.not_eq_true, Bool.not_eq_false, beq_iff_eq, bne_iff_ne, ne_eq, Decidable.not_not] at g7_7
              refine l_step (s_no rfl (wno rfl rfl (by decide)) ?_)
              refine l_step (s_no rfl (wno rfl rfl (by decide)) ?_)
              refine l_step (s_no rfl (wno rfl rfl (by decide)) ?_)
              refine l_step (s_no rfl (wno rfl rfl (by decide)) ?_)
              refine l_step (s_no rfl (wno rfl rfl (by decide)) ?_)
              refine l_step (s_no rfl (wno rfl rfl (by decide)) ?_)
              refine l_step (s_q rfl (wy rfl rfl rfl) (q_pick rfl rfl rfl) ?_)
              refine l_step (s_q rfl wn (q_pick rfl rfl rfl) ?_)
              refine l_step (s_q rfl wn (q_move rfl) ?_)
              refine l_step (s_q rfl (wy rfl rfl rfl) (q_loadpa (vs := encConf c) ag_60 rfl (by repeat (first | exact Pick.here | apply Pick.there)) rfl) ?_)
              refine l_step (s_q rfl (wy rfl rfl rfl) (q_move rfl) ?_)
              refine l_step (s_fnq rfl (wy rfl rfl rfl) Try.func24 rfl (by kernel_rfl) rfl (fun ρ' hL => commit_spec c a36 (ms_n + 1) c36 (ms ++ [more]) (by first | rfl | assumption | (simp; done) | (simp <;> omega) | omega) ρ' (by first | assumption | omega) (by first | exact hL.ro (by assumption) | exact hL.row (by repeat (first | exact Pick.here | apply Pick.there)) | assumption) (by first | exact hL.ro (by assumption) | exact hL.row (by repeat (first | exact Pick.here | apply Pick.there)) | assumption)) ?_)
              refine l_step (s_q rfl (wy rfl rfl rfl) (q_move rfl) ?_)
              refine l_step (s_q rfl (wy rfl rfl rfl) (q_geq rfl rfl) ?_)
              refine l_step (s_q rfl wn (q_pick rfl rfl rfl) ?_)
              refine l_step (s_q rfl wn (q_assign rfl) ?_)
              refine l_nil ?_
              refine k_then_n ?_
              refine c_ret ?_
              exact t_ret [] rfl (.tmp rfl .nil) rfl (Hp.le_refl _) ⟨rfl, boole (by first | exact decide_eq_true (commit_rises hn) | (rw [commit_not hn, decide_eq_true (commit_rises hn)]; rfl)), rfl⟩ (by (repeat refine Ent.skip ?_); exact Ent.refl _)
            · try simp only [Bool.and_eq_true, Bool.or_eq_true, Bool.not_eq_true', Bool.and_eq_false_iff, Bool.or_eq_false_iff, Bool.not_eq_false', decide_eq_true_eq, decide_eq_false_iff_not, Bool.not_eq_eq_eq_not, Bool.not_true, Bool.not_false, Bool.not_eq_true, Bool.not_eq_false, beq_iff_eq, bne_iff_ne, ne_eq, Decidable.not_not] at g7_7
              have hmx := commit_max (vs := c.Voters.xs) hw
              have hmn := commit_nonneg c.Voters.xs ms
              refine l_step (s_q rfl (wy rfl rfl rfl) (q_loadpa (vs := encConf c) ag_60 rfl (by repeat (first | exact Pick.here | apply Pick.there)) rfl) ?_)
              refine l_step (s_q rfl (wy rfl rfl rfl) (q_move rfl) ?_)
              refine l_step (s_q rfl (wy rfl rfl rfl) (q_move rfl) ?_)
              refine l_step (s_q rfl (wy rfl rfl rfl) (q_add rfl rfl (by omega) (by omega)) ?_)
              refine l_step (s_fnq rfl (wy rfl rfl rfl) Try.func26 rfl (by kernel_rfl) rfl (fun ρ' hL => enough_spec c ms_a ms_n ms_c ms (by first | rfl | assumption | (simp; done) | (simp <;> omega) | omega) ((commitF c.Voters.xs ms) + 1) ρ' (by first | assumption | omega) (by first | exact hL.ro (by assumption) | exact hL.row (by repeat (first | exact Pick.here | apply Pick.there)) | assumption) (by first | exact hL.ro (by assumption) | exact hL.row (by repeat (first | exact Pick.here | apply Pick.there)) | assumption)) ?_)
              refine l_step (s_q rfl (wy rfl rfl rfl) (q_not rfl) ?_)
              refine l_step (s_q rfl (wy rfl rfl rfl) (q_pick rfl rfl rfl) ?_)
              refine l_step (s_q rfl wn (q_pick rfl rfl rfl) ?_)
              refine l_step (s_q rfl wn (q_move rfl) ?_)
              refine l_step (s_qg rfl (ask_t rfl rfl) (b := (!(enoughF c.Voters.xs ms ((commitF c.Voters.xs ms) + 1)))) (fun hb => q_loadpa (vs := encConf c) ag_60 rfl (by repeat (first | exact Pick.here | apply Pick.there)) rfl) ?_)
              refine l_step (s_qg rfl (ask_t rfl rfl) (b := (!(enoughF c.Voters.xs ms ((commitF c.Voters.xs ms) + 1)))) (fun hb => q_move rfl) ?_)
              refine l_step (s_fnqg (b := (!(enoughF c.Voters.xs ms ((commitF c.Voters.xs ms) + 1)))) rfl (ask_t rfl rfl) Try.func24 rfl (by kernel_rfl) (fun hb => (.cons rfl (gd_t hb) (.cons rfl (gd_t hb) (.nil _)) : EnvLe [(54, .agg (encConf c).toArray), (55, .slice a36 (ms_n + 1) c36)] _)) rfl (fun hb ρ' hL => commit_spec c a36 (ms_n + 1) c36 (ms ++ [more]) (by first | rfl | assumption | (simp; done) | (simp <;> omega) | omega) ρ' (by first | assumption | omega) (by first | exact hL.ro (by assumption) | exact hL.row (by repeat (first | exact Pick.here | apply Pick.there)) | assumption) (by first | exact hL.ro (by assumption) | exact hL.row (by repeat (first | exact Pick.here | apply Pick.there)) | assumption)) ?_)
              refine l_step (s_qg rfl (ask_t rfl rfl) (b := (!(enoughF c.Voters.xs ms ((commitF c.Voters.xs ms) + 1)))) (fun hb => q_move rfl) ?_)
              refine l_step (s_qg rfl (ask_t rfl rfl) (b := (!(enoughF c.Voters.xs ms ((commitF c.Voters.xs ms) + 1)))) (fun hb => OpQ.env (.cons rfl (gd_t hb) (.cons rfl (gd_t hb) (.nil _)) : EnvLe [(56, .int .i64 (commitF c.Voters.xs (ms ++ [more]))), (57, .int .i64 (commitF c.Voters.xs ms))] _) (q_geq rfl rfl)) ?_)
              refine l_step (s_q rfl wn (q_pick_and rfl rfl rfl (fun h => h)) ?_)
              refine l_step (s_q rfl wn (q_assign rfl) ?_)
              refine l_nil ?_
              refine k_then_n ?_
              refine c_ret ?_
              exact t_ret [] rfl (.tmp rfl .nil) rfl (Hp.le_refl _) ⟨rfl, boole (by first | exact decide_eq_true (commit_rises hn) | (rw [commit_not hn, decide_eq_true (commit_rises hn)]; rfl)), rfl⟩ (by (repeat refine Ent.skip ?_); exact Ent.refl _)
      · skip
        refine o_step rfl (s_q rfl wn (q_loadpa (vs := encMtch more) ag_67 rfl (by repeat (first | exact Pick.here | apply Pick.there)) rfl) ?_)
        refine r_cont (Hp.le_refl _) (by repeat (first | exact Ent.nil _ | exact Ent.refl _ | (refine Ent.pick (by repeat (first | exact Pick.here | apply Pick.there)) ?_) | refine Ent.skip ?_)) ?_
        refine r_two (i := 0) (j := 4) (bi := #[true, true, false, true, false, false, false]) (bj := #[false, true, false, true, true, false, false]) (by kernel_rfl) (by kernel_rfl) (by kernel_rfl) ?_ ?_
        · skip
          refine o_step rfl (s_s rfl wn (s_buildSlice (cs := ([] : List Mtch).flatMap encMtch) Try.underlying61 eo_67 rfl rfl rfl rfl (by decide) (by decide)) ?_)
          rintro _ _ ⟨b31, rfl, rfl⟩
          refine r_cont (Hp.le_refl _) (by repeat (first | exact Ent.nil _ | exact Ent.refl _ | (refine Ent.pick (by repeat (first | exact Pick.here | apply Pick.there)) ?_) | refine Ent.skip ?_)) ?_
          refine r_two (i := 2) (j := 4) (bi := #[true, true, true, true, false, false, false]) (bj := #[true, true, false, true, true, false, false]) (by kernel_rfl) (by kernel_rfl) (by kernel_rfl) ?_ ?_
          · skip
            refine o_step rfl (s_s rfl wn (s_appendn (enc := encMtch) (xs := ([] : List Mtch)) (ys := (ms : List Mtch)) (Γ' := fun a' cap' => _) Try.underlying61 eo_67 (by decide) rfl rfl (by first | assumption | exact rd_ro (by assumption) | exact rd_row (by repeat (first | exact Pick.here | apply Pick.there))) (oneMtchs _) (by first | omega | (simp only [List.length_append, List.length_cons, List.length_nil] at *; omega)) (by first | omega | (simp only [List.length_append, List.length_cons, List.length_nil] at *; omega)) (fun _ _ => (by repeat (first | exact Pick.here | apply Pick.there)))) ?_)
            rintro _ _ ⟨a33, c33, rfl, rfl⟩
            simp only [Nat.zero_add, List.nil_append]
            refine r_cont (Hp.le_refl _) (by repeat (first | exact Ent.nil _ | exact Ent.refl _ | (refine Ent.pick (by repeat (first | exact Pick.here | apply Pick.there)) ?_) | refine Ent.skip ?_)) ?_
            refine r_one (i := 4) (bs' := #[true, true, true, true, true, false, false]) (by kernel_rfl) (by kernel_rfl) ?_
            refine o_step rfl (s_s rfl wn (s_buildSlice (cs := ([more] : List Mtch).flatMap encMtch) Try.underlying61 eo_67 rfl rfl rfl rfl (by decide) (by decide)) ?_)
            rintro _ _ ⟨b35, rfl, rfl⟩
            refine r_cont (Hp.le_refl _) (by repeat (first | exact Ent.nil _ | exact Ent.refl _ | (refine Ent.pick (by repeat (first | exact Pick.here | apply Pick.there)) ?_) | refine Ent.skip ?_)) ?_
            refine r_one (i := 5) (bs' := #[true, true, true, true, true, true, false]) (by kernel_rfl) (by kernel_rfl) ?_
            refine o_step rfl (s_s rfl wn (s_appendn (enc := encMtch) (xs := (ms : List Mtch)) (ys := ([more] : List Mtch)) (Γ' := fun a' cap' => _) Try.underlying61 eo_67 (by decide) rfl rfl (rd_row (by repeat (first | exact Pick.here | apply Pick.there))) (oneMtchs _) (by first | omega | (simp only [List.length_append, List.length_cons, List.length_nil] at *; omega)) (by first | omega | (simp only [List.length_append, List.length_cons, List.length_nil] at *; omega)) (fun _ _ => (by repeat (first | exact Pick.here | apply Pick.there)))) ?_)
            rintro _ _ ⟨a36, c36, rfl, rfl⟩
            refine r_cont (Hp.le_refl _) (by repeat (first | exact Ent.nil _ | exact Ent.refl _ | (refine Ent.pick (by repeat (first | exact Pick.here | apply Pick.there)) ?_) | refine Ent.skip ?_)) ?_
            refine r_take (i := 6) (bs' := #[true, true, true, true, true, true, true]) rfl (by kernel_rfl) (by kernel_rfl) (by kernel_rfl) (fun _ _ _ h => h) rfl wn (q_assign rfl) (Hp.le_refl _) (by repeat (first | exact Ent.nil _ | exact Ent.refl _ | (refine Ent.pick (by repeat (first | exact Pick.here | apply Pick.there)) ?_) | refine Ent.skip ?_)) (by kernel_rfl) ?_
            refine r_done (by kernel_rfl) ?_
            refine k_then_n ?_
            refine c_seq ?_
            refine c_region ?_
            refine l_step (s_q rfl wn (q_loadpa (vs := encConf c) ag_60 rfl (by repeat (first | exact Pick.here | apply Pick.there)) rfl) ?_)
            refine l_step (s_q rfl wn (q_move rfl) ?_)
            refine l_step (s_q rfl wn (q_move rfl) ?_)
            refine l_step (s_fnq rfl wn Try.func26 rfl (by kernel_rfl) rfl (fun ρ' hL => enough_spec c ms_a ms_n ms_c ms (by first | rfl | assumption | (simp; done) | (simp <;> omega) | omega) (commitF c.Voters.xs ms) ρ' (by first | assumption | omega) (by first | exact hL.ro (by assumption) | exact hL.row (by repeat (first | exact Pick.here | apply Pick.there)) | assumption) (by first | exact hL.ro (by assumption) | exact hL.row (by repeat (first | exact Pick.here | apply Pick.there)) | assumption)) ?_)
            refine l_step (s_q rfl wn (q_move rfl) ?_)
            refine Tr.env (.cons (t := 41) (v := .bool true) rfl (congrArg Value.bool (commit_enough hn)) (EnvLe.refl _)) ?_
            refine l_step (s_q rfl (wy rfl rfl rfl) (q_move rfl) ?_)
            refine l_step (s_q rfl (wy rfl rfl rfl) (q_eql rfl rfl) ?_)
            refine l_step (s_q rfl (wy rfl rfl rfl) (q_move rfl) ?_)
            refine t_split (d := 44) rfl (fun g7_7 => ?_) (fun g7_7 => ?_)
            · try simp only [Bool.and_eq_true, Bool.or_eq_true, Bool.not_eq_true', Bool.and_eq_false_iff, Bool.or_eq_false_iff, Bool.not_eq_false', decide_eq_true_eq, decide_eq_false_iff_not, Bool.not_eq_eq_eq_not, Bool.not_true, Bool.not_false, Bool.not_eq_true, Bool.not_eq_false, beq_iff_eq, bne_iff_ne, ne_eq, Decidable.not_not] at g7_7
              refine l_step (s_no rfl (wno rfl rfl (by decide)) ?_)
              refine l_step (s_no rfl (wno rfl rfl (by decide)) ?_)
              refine l_step (s_no rfl (wno rfl rfl (by decide)) ?_)
              refine l_step (s_no rfl (wno rfl rfl (by decide)) ?_)
              refine l_step (s_no rfl (wno rfl rfl (by decide)) ?_)
              refine l_step (s_no rfl (wno rfl rfl (by decide)) ?_)
              refine l_step (s_q rfl (wy rfl rfl rfl) (q_pick rfl rfl rfl) ?_)
              refine l_step (s_q rfl wn (q_pick rfl rfl rfl) ?_)
              refine l_step (s_q rfl wn (q_move rfl) ?_)
              refine l_step (s_q rfl (wy rfl rfl rfl) (q_loadpa (vs := encConf c) ag_60 rfl (by repeat (first | exact Pick.here | apply Pick.there)) rfl) ?_)
              refine l_step (s_q rfl (wy rfl rfl rfl) (q_move rfl) ?_)
              refine l_step (s_fnq rfl (wy rfl rfl rfl) Try.func24 rfl (by kernel_rfl) rfl (fun ρ' hL => commit_spec c a36 (ms_n + 1) c36 (ms ++ [more]) (by first | rfl | assumption | (simp; done) | (simp <;> omega) | omega) ρ' (by first | assumption | omega) (by first | exact hL.ro (by assumption) | exact hL.row (by repeat (first | exact Pick.here | apply Pick.there)) | assumption) (by first | exact hL.ro (by assumption) | exact hL.row (by repeat (first | exact Pick.here | apply Pick.there)) | assumption)) ?_)
              refine l_step (s_q rfl (wy rfl rfl rfl) (q_move rfl) ?_)
              refine l_step (s_q rfl (wy rfl rfl rfl) (q_geq rfl rfl) ?_)
              refine l_step (s_q rfl wn (q_pick rfl rfl rfl) ?_)
              refine l_step (s_q rfl wn (q_assign rfl) ?_)
              refine l_nil ?_
              refine k_then_n ?_
              refine c_ret ?_
              exact t_ret [] rfl (.tmp rfl .nil) rfl (Hp.le_refl _) ⟨rfl, boole (by first | exact decide_eq_true (commit_rises hn) | (rw [commit_not hn, decide_eq_true (commit_rises hn)]; rfl)), rfl⟩ (by (repeat refine Ent.skip ?_); exact Ent.refl _)
            · try simp only [Bool.and_eq_true, Bool.or_eq_true, Bool.not_eq_true', Bool.and_eq_false_iff, Bool.or_eq_false_iff, Bool.not_eq_false', decide_eq_true_eq, decide_eq_false_iff_not, Bool.not_eq_eq_eq_not, Bool.not_true, Bool.not_false, Bool.not_eq_true, Bool.not_eq_false, beq_iff_eq, bne_iff_ne, ne_eq, Decidable.not_not] at g7_7
              have hmx := commit_max (vs := c.Voters.xs) hw
              have hmn := commit_nonneg c.Voters.xs ms
              refine l_step (s_q rfl (wy rfl rfl rfl) (q_loadpa (vs := encConf c) ag_60 rfl (by repeat (first | exact Pick.here | apply Pick.there)) rfl) ?_)
              refine l_step (s_q rfl (wy rfl rfl rfl) (q_move rfl) ?_)
              refine l_step (s_q rfl (wy rfl rfl rfl) (q_move rfl) ?_)
              refine l_step (s_q rfl (wy rfl rfl rfl) (q_add rfl rfl (by omega) (by omega)) ?_)
              refine l_step (s_fnq rfl (wy rfl rfl rfl) Try.func26 rfl (by kernel_rfl) rfl (fun ρ' hL => enough_spec c ms_a ms_n ms_c ms (by first | rfl | assumption | (simp; done) | (simp <;> omega) | omega) ((commitF c.Voters.xs ms) + 1) ρ' (by first | assumption | omega) (by first | exact hL.ro (by assumption) | exact hL.row (by repeat (first | exact Pick.here | apply Pick.there)) | assumption) (by first | exact hL.ro (by assumption) | exact hL.row (by repeat (first | exact Pick.here | apply Pick.there)) | assumption)) ?_)
              refine l_step (s_q rfl (wy rfl rfl rfl) (q_not rfl) ?_)
              refine l_step (s_q rfl (wy rfl rfl rfl) (q_pick rfl rfl rfl) ?_)
              refine l_step (s_q rfl wn (q_pick rfl rfl rfl) ?_)
              refine l_step (s_q rfl wn (q_move rfl) ?_)
              refine l_step (s_qg rfl (ask_t rfl rfl) (b := (!(enoughF c.Voters.xs ms ((commitF c.Voters.xs ms) + 1)))) (fun hb => q_loadpa (vs := encConf c) ag_60 rfl (by repeat (first | exact Pick.here | apply Pick.there)) rfl) ?_)
              refine l_step (s_qg rfl (ask_t rfl rfl) (b := (!(enoughF c.Voters.xs ms ((commitF c.Voters.xs ms) + 1)))) (fun hb => q_move rfl) ?_)
              refine l_step (s_fnqg (b := (!(enoughF c.Voters.xs ms ((commitF c.Voters.xs ms) + 1)))) rfl (ask_t rfl rfl) Try.func24 rfl (by kernel_rfl) (fun hb => (.cons rfl (gd_t hb) (.cons rfl (gd_t hb) (.nil _)) : EnvLe [(54, .agg (encConf c).toArray), (55, .slice a36 (ms_n + 1) c36)] _)) rfl (fun hb ρ' hL => commit_spec c a36 (ms_n + 1) c36 (ms ++ [more]) (by first | rfl | assumption | (simp; done) | (simp <;> omega) | omega) ρ' (by first | assumption | omega) (by first | exact hL.ro (by assumption) | exact hL.row (by repeat (first | exact Pick.here | apply Pick.there)) | assumption) (by first | exact hL.ro (by assumption) | exact hL.row (by repeat (first | exact Pick.here | apply Pick.there)) | assumption)) ?_)
              refine l_step (s_qg rfl (ask_t rfl rfl) (b := (!(enoughF c.Voters.xs ms ((commitF c.Voters.xs ms) + 1)))) (fun hb => q_move rfl) ?_)
              refine l_step (s_qg rfl (ask_t rfl rfl) (b := (!(enoughF c.Voters.xs ms ((commitF c.Voters.xs ms) + 1)))) (fun hb => OpQ.env (.cons rfl (gd_t hb) (.cons rfl (gd_t hb) (.nil _)) : EnvLe [(56, .int .i64 (commitF c.Voters.xs (ms ++ [more]))), (57, .int .i64 (commitF c.Voters.xs ms))] _) (q_geq rfl rfl)) ?_)
              refine l_step (s_q rfl wn (q_pick_and rfl rfl rfl (fun h => h)) ?_)
              refine l_step (s_q rfl wn (q_assign rfl) ?_)
              refine l_nil ?_
              refine k_then_n ?_
              refine c_ret ?_
              exact t_ret [] rfl (.tmp rfl .nil) rfl (Hp.le_refl _) ⟨rfl, boole (by first | exact decide_eq_true (commit_rises hn) | (rw [commit_not hn, decide_eq_true (commit_rises hn)]; rfl)), rfl⟩ (by (repeat refine Ent.skip ?_); exact Ent.refl _)
          · skip
            refine o_step rfl (s_s rfl wn (s_buildSlice (cs := ([more] : List Mtch).flatMap encMtch) Try.underlying61 eo_67 rfl rfl rfl rfl (by decide) (by decide)) ?_)
            rintro _ _ ⟨b35, rfl, rfl⟩
            refine r_cont (Hp.le_refl _) (by repeat (first | exact Ent.nil _ | exact Ent.refl _ | (refine Ent.pick (by repeat (first | exact Pick.here | apply Pick.there)) ?_) | refine Ent.skip ?_)) ?_
            refine r_one (i := 2) (bs' := #[true, true, true, true, true, false, false]) (by kernel_rfl) (by kernel_rfl) ?_
            refine o_step rfl (s_s rfl wn (s_appendn (enc := encMtch) (xs := ([] : List Mtch)) (ys := (ms : List Mtch)) (Γ' := fun a' cap' => _) Try.underlying61 eo_67 (by decide) rfl rfl (by first | assumption | exact rd_ro (by assumption) | exact rd_row (by repeat (first | exact Pick.here | apply Pick.there))) (oneMtchs _) (by first | omega | (simp only [List.length_append, List.length_cons, List.length_nil] at *; omega)) (by first | omega | (simp only [List.length_append, List.length_cons, List.length_nil] at *; omega)) (fun _ _ => (by repeat (first | exact Pick.here | apply Pick.there)))) ?_)
            rintro _ _ ⟨a33, c33, rfl, rfl⟩
            simp only [Nat.zero_add, List.nil_append]
            refine r_cont (Hp.le_refl _) (by repeat (first | exact Ent.nil _ | exact Ent.refl _ | (refine Ent.pick (by repeat (first | exact Pick.here | apply Pick.there)) ?_) | refine Ent.skip ?_)) ?_
            refine r_one (i := 5) (bs' := #[true, true, true, true, true, true, false]) (by kernel_rfl) (by kernel_rfl) ?_
            refine o_step rfl (s_s rfl wn (s_appendn (enc := encMtch) (xs := (ms : List Mtch)) (ys := ([more] : List Mtch)) (Γ' := fun a' cap' => _) Try.underlying61 eo_67 (by decide) rfl rfl (rd_row (by repeat (first | exact Pick.here | apply Pick.there))) (oneMtchs _) (by first | omega | (simp only [List.length_append, List.length_cons, List.length_nil] at *; omega)) (by first | omega | (simp only [List.length_append, List.length_cons, List.length_nil] at *; omega)) (fun _ _ => (by repeat (first | exact Pick.here | apply Pick.there)))) ?_)
            rintro _ _ ⟨a36, c36, rfl, rfl⟩
            refine r_cont (Hp.le_refl _) (by repeat (first | exact Ent.nil _ | exact Ent.refl _ | (refine Ent.pick (by repeat (first | exact Pick.here | apply Pick.there)) ?_) | refine Ent.skip ?_)) ?_
            refine r_take (i := 6) (bs' := #[true, true, true, true, true, true, true]) rfl (by kernel_rfl) (by kernel_rfl) (by kernel_rfl) (fun _ _ _ h => h) rfl wn (q_assign rfl) (Hp.le_refl _) (by repeat (first | exact Ent.nil _ | exact Ent.refl _ | (refine Ent.pick (by repeat (first | exact Pick.here | apply Pick.there)) ?_) | refine Ent.skip ?_)) (by kernel_rfl) ?_
            refine r_done (by kernel_rfl) ?_
            refine k_then_n ?_
            refine c_seq ?_
            refine c_region ?_
            refine l_step (s_q rfl wn (q_loadpa (vs := encConf c) ag_60 rfl (by repeat (first | exact Pick.here | apply Pick.there)) rfl) ?_)
            refine l_step (s_q rfl wn (q_move rfl) ?_)
            refine l_step (s_q rfl wn (q_move rfl) ?_)
            refine l_step (s_fnq rfl wn Try.func26 rfl (by kernel_rfl) rfl (fun ρ' hL => enough_spec c ms_a ms_n ms_c ms (by first | rfl | assumption | (simp; done) | (simp <;> omega) | omega) (commitF c.Voters.xs ms) ρ' (by first | assumption | omega) (by first | exact hL.ro (by assumption) | exact hL.row (by repeat (first | exact Pick.here | apply Pick.there)) | assumption) (by first | exact hL.ro (by assumption) | exact hL.row (by repeat (first | exact Pick.here | apply Pick.there)) | assumption)) ?_)
            refine l_step (s_q rfl wn (q_move rfl) ?_)
            refine Tr.env (.cons (t := 41) (v := .bool true) rfl (congrArg Value.bool (commit_enough hn)) (EnvLe.refl _)) ?_
            refine l_step (s_q rfl (wy rfl rfl rfl) (q_move rfl) ?_)
            refine l_step (s_q rfl (wy rfl rfl rfl) (q_eql rfl rfl) ?_)
            refine l_step (s_q rfl (wy rfl rfl rfl) (q_move rfl) ?_)
            refine t_split (d := 44) rfl (fun g7_7 => ?_) (fun g7_7 => ?_)
            · try simp only [Bool.and_eq_true, Bool.or_eq_true, Bool.not_eq_true', Bool.and_eq_false_iff, Bool.or_eq_false_iff, Bool.not_eq_false', decide_eq_true_eq, decide_eq_false_iff_not, Bool.not_eq_eq_eq_not, Bool.not_true, Bool.not_false, Bool.not_eq_true, Bool.not_eq_false, beq_iff_eq, bne_iff_ne, ne_eq, Decidable.not_not] at g7_7
              refine l_step (s_no rfl (wno rfl rfl (by decide)) ?_)
              refine l_step (s_no rfl (wno rfl rfl (by decide)) ?_)
              refine l_step (s_no rfl (wno rfl rfl (by decide)) ?_)
              refine l_step (s_no rfl (wno rfl rfl (by decide)) ?_)
              refine l_step (s_no rfl (wno rfl rfl (by decide)) ?_)
              refine l_step (s_no rfl (wno rfl rfl (by decide)) ?_)
              refine l_step (s_q rfl (wy rfl rfl rfl) (q_pick rfl rfl rfl) ?_)
              refine l_step (s_q rfl wn (q_pick rfl rfl rfl) ?_)
              refine l_step (s_q rfl wn (q_move rfl) ?_)
              refine l_step (s_q rfl (wy rfl rfl rfl) (q_loadpa (vs := encConf c) ag_60 rfl (by repeat (first | exact Pick.here | apply Pick.there)) rfl) ?_)
              refine l_step (s_q rfl (wy rfl rfl rfl) (q_move rfl) ?_)
              refine l_step (s_fnq rfl (wy rfl rfl rfl) Try.func24 rfl (by kernel_rfl) rfl (fun ρ' hL => commit_spec c a36 (ms_n + 1) c36 (ms ++ [more]) (by first | rfl | assumption | (simp; done) | (simp <;> omega) | omega) ρ' (by first | assumption | omega) (by first | exact hL.ro (by assumption) | exact hL.row (by repeat (first | exact Pick.here | apply Pick.there)) | assumption) (by first | exact hL.ro (by assumption) | exact hL.row (by repeat (first | exact Pick.here | apply Pick.there)) | assumption)) ?_)
              refine l_step (s_q rfl (wy rfl rfl rfl) (q_move rfl) ?_)
              refine l_step (s_q rfl (wy rfl rfl rfl) (q_geq rfl rfl) ?_)
              refine l_step (s_q rfl wn (q_pick rfl rfl rfl) ?_)
              refine l_step (s_q rfl wn (q_assign rfl) ?_)
              refine l_nil ?_
              refine k_then_n ?_
              refine c_ret ?_
              exact t_ret [] rfl (.tmp rfl .nil) rfl (Hp.le_refl _) ⟨rfl, boole (by first | exact decide_eq_true (commit_rises hn) | (rw [commit_not hn, decide_eq_true (commit_rises hn)]; rfl)), rfl⟩ (by (repeat refine Ent.skip ?_); exact Ent.refl _)
            · try simp only [Bool.and_eq_true, Bool.or_eq_true, Bool.not_eq_true', Bool.and_eq_false_iff, Bool.or_eq_false_iff, Bool.not_eq_false', decide_eq_true_eq, decide_eq_false_iff_not, Bool.not_eq_eq_eq_not, Bool.not_true, Bool.not_false, Bool.not_eq_true, Bool.not_eq_false, beq_iff_eq, bne_iff_ne, ne_eq, Decidable.not_not] at g7_7
              have hmx := commit_max (vs := c.Voters.xs) hw
              have hmn := commit_nonneg c.Voters.xs ms
              refine l_step (s_q rfl (wy rfl rfl rfl) (q_loadpa (vs := encConf c) ag_60 rfl (by repeat (first | exact Pick.here | apply Pick.there)) rfl) ?_)
              refine l_step (s_q rfl (wy rfl rfl rfl) (q_move rfl) ?_)
              refine l_step (s_q rfl (wy rfl rfl rfl) (q_move rfl) ?_)
              refine l_step (s_q rfl (wy rfl rfl rfl) (q_add rfl rfl (by omega) (by omega)) ?_)
              refine l_step (s_fnq rfl (wy rfl rfl rfl) Try.func26 rfl (by kernel_rfl) rfl (fun ρ' hL => enough_spec c ms_a ms_n ms_c ms (by first | rfl | assumption | (simp; done) | (simp <;> omega) | omega) ((commitF c.Voters.xs ms) + 1) ρ' (by first | assumption | omega) (by first | exact hL.ro (by assumption) | exact hL.row (by repeat (first | exact Pick.here | apply Pick.there)) | assumption) (by first | exact hL.ro (by assumption) | exact hL.row (by repeat (first | exact Pick.here | apply Pick.there)) | assumption)) ?_)
              refine l_step (s_q rfl (wy rfl rfl rfl) (q_not rfl) ?_)
              refine l_step (s_q rfl (wy rfl rfl rfl) (q_pick rfl rfl rfl) ?_)
              refine l_step (s_q rfl wn (q_pick rfl rfl rfl) ?_)
              refine l_step (s_q rfl wn (q_move rfl) ?_)
              refine l_step (s_qg rfl (ask_t rfl rfl) (b := (!(enoughF c.Voters.xs ms ((commitF c.Voters.xs ms) + 1)))) (fun hb => q_loadpa (vs := encConf c) ag_60 rfl (by repeat (first | exact Pick.here | apply Pick.there)) rfl) ?_)
              refine l_step (s_qg rfl (ask_t rfl rfl) (b := (!(enoughF c.Voters.xs ms ((commitF c.Voters.xs ms) + 1)))) (fun hb => q_move rfl) ?_)
              refine l_step (s_fnqg (b := (!(enoughF c.Voters.xs ms ((commitF c.Voters.xs ms) + 1)))) rfl (ask_t rfl rfl) Try.func24 rfl (by kernel_rfl) (fun hb => (.cons rfl (gd_t hb) (.cons rfl (gd_t hb) (.nil _)) : EnvLe [(54, .agg (encConf c).toArray), (55, .slice a36 (ms_n + 1) c36)] _)) rfl (fun hb ρ' hL => commit_spec c a36 (ms_n + 1) c36 (ms ++ [more]) (by first | rfl | assumption | (simp; done) | (simp <;> omega) | omega) ρ' (by first | assumption | omega) (by first | exact hL.ro (by assumption) | exact hL.row (by repeat (first | exact Pick.here | apply Pick.there)) | assumption) (by first | exact hL.ro (by assumption) | exact hL.row (by repeat (first | exact Pick.here | apply Pick.there)) | assumption)) ?_)
              refine l_step (s_qg rfl (ask_t rfl rfl) (b := (!(enoughF c.Voters.xs ms ((commitF c.Voters.xs ms) + 1)))) (fun hb => q_move rfl) ?_)
              refine l_step (s_qg rfl (ask_t rfl rfl) (b := (!(enoughF c.Voters.xs ms ((commitF c.Voters.xs ms) + 1)))) (fun hb => OpQ.env (.cons rfl (gd_t hb) (.cons rfl (gd_t hb) (.nil _)) : EnvLe [(56, .int .i64 (commitF c.Voters.xs (ms ++ [more]))), (57, .int .i64 (commitF c.Voters.xs ms))] _) (q_geq rfl rfl)) ?_)
              refine l_step (s_q rfl wn (q_pick_and rfl rfl rfl (fun h => h)) ?_)
              refine l_step (s_q rfl wn (q_assign rfl) ?_)
              refine l_nil ?_
              refine k_then_n ?_
              refine c_ret ?_
              exact t_ret [] rfl (.tmp rfl .nil) rfl (Hp.le_refl _) ⟨rfl, boole (by first | exact decide_eq_true (commit_rises hn) | (rw [commit_not hn, decide_eq_true (commit_rises hn)]; rfl)), rfl⟩ (by (repeat refine Ent.skip ?_); exact Ent.refl _)
        · skip
          refine o_step rfl (s_s rfl wn (s_buildSlice (cs := ([more] : List Mtch).flatMap encMtch) Try.underlying61 eo_67 rfl rfl rfl rfl (by decide) (by decide)) ?_)
          rintro _ _ ⟨b35, rfl, rfl⟩
          refine r_cont (Hp.le_refl _) (by repeat (first | exact Ent.nil _ | exact Ent.refl _ | (refine Ent.pick (by repeat (first | exact Pick.here | apply Pick.there)) ?_) | refine Ent.skip ?_)) ?_
          refine r_one (i := 0) (bs' := #[true, true, false, true, true, false, false]) (by kernel_rfl) (by kernel_rfl) ?_
          refine o_step rfl (s_s rfl wn (s_buildSlice (cs := ([] : List Mtch).flatMap encMtch) Try.underlying61 eo_67 rfl rfl rfl rfl (by decide) (by decide)) ?_)
          rintro _ _ ⟨b31, rfl, rfl⟩
          refine r_cont (Hp.le_refl _) (by repeat (first | exact Ent.nil _ | exact Ent.refl _ | (refine Ent.pick (by repeat (first | exact Pick.here | apply Pick.there)) ?_) | refine Ent.skip ?_)) ?_
          refine r_one (i := 2) (bs' := #[true, true, true, true, true, false, false]) (by kernel_rfl) (by kernel_rfl) ?_
          refine o_step rfl (s_s rfl wn (s_appendn (enc := encMtch) (xs := ([] : List Mtch)) (ys := (ms : List Mtch)) (Γ' := fun a' cap' => _) Try.underlying61 eo_67 (by decide) rfl rfl (by first | assumption | exact rd_ro (by assumption) | exact rd_row (by repeat (first | exact Pick.here | apply Pick.there))) (oneMtchs _) (by first | omega | (simp only [List.length_append, List.length_cons, List.length_nil] at *; omega)) (by first | omega | (simp only [List.length_append, List.length_cons, List.length_nil] at *; omega)) (fun _ _ => (by repeat (first | exact Pick.here | apply Pick.there)))) ?_)
          rintro _ _ ⟨a33, c33, rfl, rfl⟩
          simp only [Nat.zero_add, List.nil_append]
          refine r_cont (Hp.le_refl _) (by repeat (first | exact Ent.nil _ | exact Ent.refl _ | (refine Ent.pick (by repeat (first | exact Pick.here | apply Pick.there)) ?_) | refine Ent.skip ?_)) ?_
          refine r_one (i := 5) (bs' := #[true, true, true, true, true, true, false]) (by kernel_rfl) (by kernel_rfl) ?_
          refine o_step rfl (s_s rfl wn (s_appendn (enc := encMtch) (xs := (ms : List Mtch)) (ys := ([more] : List Mtch)) (Γ' := fun a' cap' => _) Try.underlying61 eo_67 (by decide) rfl rfl (rd_row (by repeat (first | exact Pick.here | apply Pick.there))) (oneMtchs _) (by first | omega | (simp only [List.length_append, List.length_cons, List.length_nil] at *; omega)) (by first | omega | (simp only [List.length_append, List.length_cons, List.length_nil] at *; omega)) (fun _ _ => (by repeat (first | exact Pick.here | apply Pick.there)))) ?_)
          rintro _ _ ⟨a36, c36, rfl, rfl⟩
          refine r_cont (Hp.le_refl _) (by repeat (first | exact Ent.nil _ | exact Ent.refl _ | (refine Ent.pick (by repeat (first | exact Pick.here | apply Pick.there)) ?_) | refine Ent.skip ?_)) ?_
          refine r_take (i := 6) (bs' := #[true, true, true, true, true, true, true]) rfl (by kernel_rfl) (by kernel_rfl) (by kernel_rfl) (fun _ _ _ h => h) rfl wn (q_assign rfl) (Hp.le_refl _) (by repeat (first | exact Ent.nil _ | exact Ent.refl _ | (refine Ent.pick (by repeat (first | exact Pick.here | apply Pick.there)) ?_) | refine Ent.skip ?_)) (by kernel_rfl) ?_
          refine r_done (by kernel_rfl) ?_
          refine k_then_n ?_
          refine c_seq ?_
          refine c_region ?_
          refine l_step (s_q rfl wn (q_loadpa (vs := encConf c) ag_60 rfl (by repeat (first | exact Pick.here | apply Pick.there)) rfl) ?_)
          refine l_step (s_q rfl wn (q_move rfl) ?_)
          refine l_step (s_q rfl wn (q_move rfl) ?_)
          refine l_step (s_fnq rfl wn Try.func26 rfl (by kernel_rfl) rfl (fun ρ' hL => enough_spec c ms_a ms_n ms_c ms (by first | rfl | assumption | (simp; done) | (simp <;> omega) | omega) (commitF c.Voters.xs ms) ρ' (by first | assumption | omega) (by first | exact hL.ro (by assumption) | exact hL.row (by repeat (first | exact Pick.here | apply Pick.there)) | assumption) (by first | exact hL.ro (by assumption) | exact hL.row (by repeat (first | exact Pick.here | apply Pick.there)) | assumption)) ?_)
          refine l_step (s_q rfl wn (q_move rfl) ?_)
          refine Tr.env (.cons (t := 41) (v := .bool true) rfl (congrArg Value.bool (commit_enough hn)) (EnvLe.refl _)) ?_
          refine l_step (s_q rfl (wy rfl rfl rfl) (q_move rfl) ?_)
          refine l_step (s_q rfl (wy rfl rfl rfl) (q_eql rfl rfl) ?_)
          refine l_step (s_q rfl (wy rfl rfl rfl) (q_move rfl) ?_)
          refine t_split (d := 44) rfl (fun g7_7 => ?_) (fun g7_7 => ?_)
          · try simp only [Bool.and_eq_true, Bool.or_eq_true, Bool.not_eq_true', Bool.and_eq_false_iff, Bool.or_eq_false_iff, Bool.not_eq_false', decide_eq_true_eq, decide_eq_false_iff_not, Bool.not_eq_eq_eq_not, Bool.not_true, Bool.not_false, Bool.not_eq_true, Bool.not_eq_false, beq_iff_eq, bne_iff_ne, ne_eq, Decidable.not_not] at g7_7
            refine l_step (s_no rfl (wno rfl rfl (by decide)) ?_)
            refine l_step (s_no rfl (wno rfl rfl (by decide)) ?_)
            refine l_step (s_no rfl (wno rfl rfl (by decide)) ?_)
            refine l_step (s_no rfl (wno rfl rfl (by decide)) ?_)
            refine l_step (s_no rfl (wno rfl rfl (by decide)) ?_)
            refine l_step (s_no rfl (wno rfl rfl (by decide)) ?_)
            refine l_step (s_q rfl (wy rfl rfl rfl) (q_pick rfl rfl rfl) ?_)
            refine l_step (s_q rfl wn (q_pick rfl rfl rfl) ?_)
            refine l_step (s_q rfl wn (q_move rfl) ?_)
            refine l_step (s_q rfl (wy rfl rfl rfl) (q_loadpa (vs := encConf c) ag_60 rfl (by repeat (first | exact Pick.here | apply Pick.there)) rfl) ?_)
            refine l_step (s_q rfl (wy rfl rfl rfl) (q_move rfl) ?_)
            refine l_step (s_fnq rfl (wy rfl rfl rfl) Try.func24 rfl (by kernel_rfl) rfl (fun ρ' hL => commit_spec c a36 (ms_n + 1) c36 (ms ++ [more]) (by first | rfl | assumption | (simp; done) | (simp <;> omega) | omega) ρ' (by first | assumption | omega) (by first | exact hL.ro (by assumption) | exact hL.row (by repeat (first | exact Pick.here | apply Pick.there)) | assumption) (by first | exact hL.ro (by assumption) | exact hL.row (by repeat (first | exact Pick.here | apply Pick.there)) | assumption)) ?_)
            refine l_step (s_q rfl (wy rfl rfl rfl) (q_move rfl) ?_)
            refine l_step (s_q rfl (wy rfl rfl rfl) (q_geq rfl rfl) ?_)
            refine l_step (s_q rfl wn (q_pick rfl rfl rfl) ?_)
            refine l_step (s_q rfl wn (q_assign rfl) ?_)
            refine l_nil ?_
            refine k_then_n ?_
            refine c_ret ?_
            exact t_ret [] rfl (.tmp rfl .nil) rfl (Hp.le_refl _) ⟨rfl, boole (by first | exact decide_eq_true (commit_rises hn) | (rw [commit_not hn, decide_eq_true (commit_rises hn)]; rfl)), rfl⟩ (by (repeat refine Ent.skip ?_); exact Ent.refl _)
          · try simp only [Bool.and_eq_true, Bool.or_eq_true, Bool.not_eq_true', Bool.and_eq_false_iff, Bool.or_eq_false_iff, Bool.not_eq_false', decide_eq_true_eq, decide_eq_false_iff_not, Bool.not_eq_eq_eq_not, Bool.not_true, Bool.not_false, Bool.not_eq_true, Bool.not_eq_false, beq_iff_eq, bne_iff_ne, ne_eq, Decidable.not_not] at g7_7
            have hmx := commit_max (vs := c.Voters.xs) hw
            have hmn := commit_nonneg c.Voters.xs ms
            refine l_step (s_q rfl (wy rfl rfl rfl) (q_loadpa (vs := encConf c) ag_60 rfl (by repeat (first | exact Pick.here | apply Pick.there)) rfl) ?_)
            refine l_step (s_q rfl (wy rfl rfl rfl) (q_move rfl) ?_)
            refine l_step (s_q rfl (wy rfl rfl rfl) (q_move rfl) ?_)
            refine l_step (s_q rfl (wy rfl rfl rfl) (q_add rfl rfl (by omega) (by omega)) ?_)
            refine l_step (s_fnq rfl (wy rfl rfl rfl) Try.func26 rfl (by kernel_rfl) rfl (fun ρ' hL => enough_spec c ms_a ms_n ms_c ms (by first | rfl | assumption | (simp; done) | (simp <;> omega) | omega) ((commitF c.Voters.xs ms) + 1) ρ' (by first | assumption | omega) (by first | exact hL.ro (by assumption) | exact hL.row (by repeat (first | exact Pick.here | apply Pick.there)) | assumption) (by first | exact hL.ro (by assumption) | exact hL.row (by repeat (first | exact Pick.here | apply Pick.there)) | assumption)) ?_)
            refine l_step (s_q rfl (wy rfl rfl rfl) (q_not rfl) ?_)
            refine l_step (s_q rfl (wy rfl rfl rfl) (q_pick rfl rfl rfl) ?_)
            refine l_step (s_q rfl wn (q_pick rfl rfl rfl) ?_)
            refine l_step (s_q rfl wn (q_move rfl) ?_)
            refine l_step (s_qg rfl (ask_t rfl rfl) (b := (!(enoughF c.Voters.xs ms ((commitF c.Voters.xs ms) + 1)))) (fun hb => q_loadpa (vs := encConf c) ag_60 rfl (by repeat (first | exact Pick.here | apply Pick.there)) rfl) ?_)
            refine l_step (s_qg rfl (ask_t rfl rfl) (b := (!(enoughF c.Voters.xs ms ((commitF c.Voters.xs ms) + 1)))) (fun hb => q_move rfl) ?_)
            refine l_step (s_fnqg (b := (!(enoughF c.Voters.xs ms ((commitF c.Voters.xs ms) + 1)))) rfl (ask_t rfl rfl) Try.func24 rfl (by kernel_rfl) (fun hb => (.cons rfl (gd_t hb) (.cons rfl (gd_t hb) (.nil _)) : EnvLe [(54, .agg (encConf c).toArray), (55, .slice a36 (ms_n + 1) c36)] _)) rfl (fun hb ρ' hL => commit_spec c a36 (ms_n + 1) c36 (ms ++ [more]) (by first | rfl | assumption | (simp; done) | (simp <;> omega) | omega) ρ' (by first | assumption | omega) (by first | exact hL.ro (by assumption) | exact hL.row (by repeat (first | exact Pick.here | apply Pick.there)) | assumption) (by first | exact hL.ro (by assumption) | exact hL.row (by repeat (first | exact Pick.here | apply Pick.there)) | assumption)) ?_)
            refine l_step (s_qg rfl (ask_t rfl rfl) (b := (!(enoughF c.Voters.xs ms ((commitF c.Voters.xs ms) + 1)))) (fun hb => q_move rfl) ?_)
            refine l_step (s_qg rfl (ask_t rfl rfl) (b := (!(enoughF c.Voters.xs ms ((commitF c.Voters.xs ms) + 1)))) (fun hb => OpQ.env (.cons rfl (gd_t hb) (.cons rfl (gd_t hb) (.nil _)) : EnvLe [(56, .int .i64 (commitF c.Voters.xs (ms ++ [more]))), (57, .int .i64 (commitF c.Voters.xs ms))] _) (q_geq rfl rfl)) ?_)
            refine l_step (s_q rfl wn (q_pick_and rfl rfl rfl (fun h => h)) ?_)
            refine l_step (s_q rfl wn (q_assign rfl) ?_)
            refine l_nil ?_
            refine k_then_n ?_
            refine c_ret ?_
            exact t_ret [] rfl (.tmp rfl .nil) rfl (Hp.le_refl _) ⟨rfl, boole (by first | exact decide_eq_true (commit_rises hn) | (rw [commit_not hn, decide_eq_true (commit_rises hn)]; rfl)), rfl⟩ (by (repeat refine Ent.skip ?_); exact Ent.refl _)
end Go.Tly.D

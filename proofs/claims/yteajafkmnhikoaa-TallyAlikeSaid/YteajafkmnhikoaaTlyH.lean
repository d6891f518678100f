/-
  The track of package tally, walked.
-/
import Derived.Test.YteajafkmnhikoaaTlyB
import Derived.Test.YteajafkmnhikoaaTlyG
import Derived.Test.YteajafkmnhikoaaDspL
import Derived.Test.YteajafkmnhikoaaProg
set_option maxRecDepth 100000
set_option maxHeartbeats 4000000
set_option linter.unusedSimpArgs false
set_option linter.unusedVariables false
namespace Go.Tly.H
open Go Go.SL Go.Proofs Go.Tly Go.Tly.B Go.Dsp.L
attribute [local irreducible] Go.SL.Ent
theorem ag_60 : aggSize Try.prog 60 = some 2 := by kernel_rfl
theorem ag_67 : aggSize Try.prog 67 = some 2 := by kernel_rfl
theorem eo_67 : elemOk Try.prog 67 2 16 = true := by kernel_rfl
theorem fo_60_0 : fieldOff Try.prog 60 0 = some (0, 22) := by kernel_rfl
theorem fo_67_0 : fieldOff Try.prog 67 0 = some (0, 3) := by kernel_rfl
theorem sc_22 : isScalar Try.prog 22 = true := by kernel_rfl
theorem sc_3 : isScalar Try.prog 3 = true := by kernel_rfl
theorem sz_3 : sizeIs Try.prog 3 = some 1 := by kernel_rfl
theorem sz_67 : sizeIs Try.prog 67 = some 2 := by kernel_rfl

theorem alike_spec (c : Conf) (ms_a : Option Addr) (ms_n ms_c : Nat) (ms : List Mtch) (hms_n : ms.length = ms_n) (turn : Int) (ρ : Hp) (hv : Ro ρ 1 c.Voters.a c.Voters.xs.length c.Voters.cap (c.Voters.xs.flatMap encI)) (hms : Ro ρ 2 ms_a ms_n ms_c (ms.flatMap encMtch)) : Spec0 Try.prog 9 #[.agg (encConf c).toArray, .slice ms_a ms_n ms_c, .int .i64 turn] ρ [] (fun v Γ' => v = .bool true ∧ Γ' = []) := by
  refine spec_of (n := 111) (vs := [_, _, _]) (σ := [(0, _), (1, _), (2, _)]) Try.func9 rfl rfl rfl rfl fun E Δ => ?_
  rw [List.nil_append]
  have hcap : ms_n ≤ ms_c := hms.2.1
  refine c_seq ?_
  refine c_region ?_
  refine l_step (s_s rfl wn (s_box (cs := encConf c) rfl rfl) ?_)
  rintro _ _ ⟨b3, rfl, rfl⟩
  refine l_step (s_q rfl wn (q_assign rfl) ?_)
  refine l_nil ?_
  refine k_then_n ?_
  refine c_seq ?_
  refine c_seq ?_
  refine c_region ?_
  refine l_step (s_fnq rfl wn Try.func22 rfl (by kernel_rfl) rfl (fun ρ' hL => awake_spec  ρ') ?_)
  refine l_step (s_q rfl wn (q_not rfl) ?_)
  refine l_step (s_q rfl wn (q_move rfl) ?_)
  refine l_step (s_q rfl (wy rfl rfl rfl) (q_loadpa (vs := encConf c) ag_60 rfl (by repeat (first | exact Pick.here | apply Pick.there)) rfl) ?_)
  refine l_step (s_fnq rfl (wy rfl rfl rfl) Try.func23 rfl (by kernel_rfl) rfl (fun ρ' hL => small_spec c ρ') ?_)
  refine l_step (s_q rfl (wy rfl rfl rfl) (q_not rfl) ?_)
  refine l_step (s_q rfl wn (q_pick rfl rfl rfl) ?_)
  refine l_step (s_q rfl wn (q_move rfl) ?_)
  refine l_step (s_qg rfl (ask_f rfl rfl) (b := (!(!((decide ((c.Voters.xs.length : Int) ≤ 60) && decide ((c.Learners.xs.length : Int) ≤ 60)))))) (fun hb => q_move rfl) ?_)
  refine l_step (s_qg rfl (ask_f rfl rfl) (b := (!(!((decide ((c.Voters.xs.length : Int) ≤ 60) && decide ((c.Learners.xs.length : Int) ≤ 60)))))) (fun hb => OpQ.env (.cons rfl (gd_t hb) (.nil _) : EnvLe [(22, .slice ms_a ms_n ms_c)] _) (q_len Try.underlying61 rfl)) ?_)
  refine l_step (s_qg rfl (ask_f rfl rfl) (b := (!(!((decide ((c.Voters.xs.length : Int) ≤ 60) && decide ((c.Learners.xs.length : Int) ≤ 60)))))) (fun hb => OpQ.env (.cons rfl (gd_t hb) (.nil _) : EnvLe [(23, .int .i64 (ms_n : Int))] _) (q_gtr rfl rfl)) ?_)
  refine l_step (s_q rfl wn (q_pick_or rfl rfl rfl (fun h => by first | (rw [h]; rfl) | exact congrArg not h)) ?_)
  refine l_nil ?_
  refine k_then_n ?_
  refine c_cond rfl (fun h0 => ?_) (fun h0 => ?_)
  · try simp only [Bool.and_eq_true, Bool.or_eq_true, Bool.not_eq_true', Bool.and_eq_false_iff, Bool.or_eq_false_iff, Bool.not_eq_false', decide_eq_true_eq, decide_eq_false_iff_not, Bool.not_eq_eq_eq_not, Bool.not_true, Bool.not_false, Bool.not_eq_true, Bool.not_eq_false, beq_iff_eq, bne_iff_ne, ne_eq, Decidable.not_not] at h0
    refine c_seq ?_
    refine c_region ?_
    refine l_step (s_fnq rfl wn Try.func22 rfl (by kernel_rfl) rfl (fun ρ' hL => awake_spec  ρ') ?_)
    refine l_step (s_q rfl wn (q_assign rfl) ?_)
    refine l_nil ?_
    refine k_then_n ?_
    refine c_ret ?_
    refine k_then_r ?_
    exact t_ret [] rfl (.tmp rfl .nil) rfl (Hp.le_refl _) ⟨rfl, boole (by rfl), rfl⟩ (by (repeat refine Ent.skip ?_); exact Ent.refl _)
  · try simp only [Bool.and_eq_true, Bool.or_eq_true, Bool.not_eq_true', Bool.and_eq_false_iff, Bool.or_eq_false_iff, Bool.not_eq_false', decide_eq_true_eq, decide_eq_false_iff_not, Bool.not_eq_eq_eq_not, Bool.not_true, Bool.not_false, Bool.not_eq_true, Bool.not_eq_false, beq_iff_eq, bne_iff_ne, ne_eq, Decidable.not_not] at h0
    refine c_skip ?_
    refine k_then_n ?_
    refine c_seq ?_
    refine c_region ?_
    refine l_step (s_q rfl wn (q_loadpa (vs := encConf c) ag_60 rfl (by repeat (first | exact Pick.here | apply Pick.there)) rfl) ?_)
    refine l_step (s_q rfl wn (q_move rfl) ?_)
    refine l_step (s_fnq rfl wn Try.func24 rfl (by kernel_rfl) rfl (fun ρ' hL => commit_spec c ms_a ms_n ms_c ms (by first | rfl | assumption | (simp; done) | (simp <;> omega) | omega) ρ' (by first | assumption | omega) (by first | exact hL.ro (by assumption) | exact hL.row (by repeat (first | exact Pick.here | apply Pick.there)) | assumption) (by first | exact hL.ro (by assumption) | exact hL.row (by repeat (first | exact Pick.here | apply Pick.there)) | assumption)) ?_)
    refine l_step (s_q rfl wn (q_assign rfl) ?_)
    refine l_nil ?_
    refine k_then_n ?_
    refine c_seq ?_
    refine c_region ?_
    refine l_step (s_q rfl wn (q_assign rfl) ?_)
    refine l_nil ?_
    refine k_then_n ?_
    refine c_seq ?_
    refine c_seq ?_
    refine c_region ?_
    refine l_step (s_q rfl wn (q_move rfl) ?_)
    refine l_step (s_q rfl wn (q_len Try.underlying61 rfl) ?_)
    refine l_step (s_q rfl wn (q_sub rfl rfl (by omega) (by omega)) ?_)
    refine l_step (s_q rfl wn (q_assign rfl) ?_)
    refine l_nil ?_
    refine k_then_n ?_
    refine c_block ?_
    refine Tr.ent (Ent.nilrow 67 2 _) ?_
    refine Tr.env (σ' := [(1, _), (2, _), (3, _), (6, _), (7, _), (8, _), (9, _)]) (.cons rfl rfl (.cons rfl rfl (.cons rfl rfl (.cons rfl rfl (.cons rfl rfl (.cons rfl rfl (.cons rfl rfl (.nil _)))))))) ?_
    refine t_loop (ι := Lp (Nat)) (fun x => x.d ≤ ms_n) (fun x => ms_n - x.d) (fun x => [(1, .slice ms_a ms_n ms_c), (2, .int .i64 turn), (3, .pointer (some ⟨b3, 0, none⟩)), (6, .bool false), (7, .int .i64 (commitF c.Voters.xs ms)), (8, .slice x.a1 ((ms.reverse.take x.d).length) x.c1), (9, .int .i64 ((ms_n : Int) - 1 - (x.d : Int)))]) (fun x => .row 67 2 x.a1 ((ms.reverse.take x.d).length) x.c1 ((ms.reverse.take x.d).flatMap encMtch) :: .pts b3 (encConf c) 60 :: Δ) (⟨0, none, 0, none, 0, none, 0⟩ : Lp _) (Nat.zero_le _) ?_ ?_ ?_
    · exact .cons rfl (by first | rfl | exact inte (by omega) | (simp; done) | (simp <;> omega) | simp [*]) (.cons rfl (by first | rfl | exact inte (by omega) | (simp; done) | (simp <;> omega) | simp [*]) (.cons rfl (by first | rfl | exact inte (by omega) | (simp; done) | (simp <;> omega) | simp [*]) (.cons rfl (by first | rfl | exact inte (by omega) | (simp; done) | (simp <;> omega) | simp [*]) (.cons rfl (by first | rfl | exact inte (by omega) | (simp; done) | (simp <;> omega) | simp [*]) (.cons rfl (by first | rfl | exact inte (by omega) | (simp; done) | (simp <;> omega) | simp [*]) (.cons rfl (by first | rfl | exact inte (by omega) | (simp; done) | (simp <;> omega) | simp [*]) (.nil _)))))))
    · exact (by repeat (first | exact Ent.nil _ | exact Ent.refl _ | (refine Ent.pick (by repeat (first | exact Pick.here | apply Pick.there)) ?_) | refine Ent.skip ?_))
    intro x hx
    have hln : (ms.reverse.take x.d).length = x.d := by rw [List.length_take, List.length_reverse]; omega
    refine c_seq ?_
    refine c_seq ?_
    refine c_region ?_
    refine l_step (s_q rfl wn (q_move rfl) ?_)
    refine l_step (s_q rfl wn (q_geq rfl rfl) ?_)
    refine l_nil ?_
    refine k_then_n ?_
    refine c_cond rfl (fun h1 => ?_) (fun h1 => ?_)
    · try simp only [Bool.and_eq_true, Bool.or_eq_true, Bool.not_eq_true', Bool.and_eq_false_iff, Bool.or_eq_false_iff, Bool.not_eq_false', decide_eq_true_eq, decide_eq_false_iff_not, Bool.not_eq_eq_eq_not, Bool.not_true, Bool.not_false, Bool.not_eq_true, Bool.not_eq_false, beq_iff_eq, bne_iff_ne, ne_eq, Decidable.not_not] at h1
      refine c_skip ?_
      refine k_then_n ?_
      refine c_seq ?_
      refine c_block ?_
      refine c_region ?_
      refine l_step (s_q rfl wn (q_move rfl) ?_)
      refine l_step (s_q rfl wn (q_move rfl) ?_)
      refine l_step (s_q rfl wn (q_move rfl) ?_)
      refine l_step (s_q rfl wn (q_indexe ((((ms_n : Int) - 1 - (x.d : Int))).toNat) Try.underlying61 sz_67 rfl rfl (by first | assumption | exact rd_ro (by assumption) | exact rd_row (by repeat (first | exact Pick.here | apply Pick.there))) (by decide) (by omega) (by first | assumption | omega | (simp only [List.length_cons, List.length_nil]; omega))) ?_)
      refine l_step (s_q rfl wn (q_loadea (vs := encMtch (ms.getD ((((ms_n : Int) - 1 - (x.d : Int))).toNat) default)) (enc := encMtch) (xs := ms) (j := (((ms_n : Int) - 1 - (x.d : Int))).toNat) (off := 0) ag_67 rfl (by first | assumption | exact rd_ro (by assumption) | exact rd_row (by repeat (first | exact Pick.here | apply Pick.there))) (fun _ => rfl) (by first | assumption | omega | (simp only [List.length_cons, List.length_nil]; omega)) (by simp [encMtch]) (by simp [encMtch]) rfl) ?_)
      refine l_step (s_s rfl wn (s_buildSlice (cs := ([(ms.getD ((((ms_n : Int) - 1 - (x.d : Int))).toNat) default)] : List Mtch).flatMap encMtch) Try.underlying61 eo_67 rfl rfl rfl rfl (by decide) (by decide)) ?_)
      rintro _ _ ⟨b42, rfl, rfl⟩
      refine l_step (s_s rfl wn (s_appendn (enc := encMtch) (xs := ((ms.reverse.take x.d) : List Mtch)) (ys := ([(ms.getD ((((ms_n : Int) - 1 - (x.d : Int))).toNat) default)] : List Mtch)) (Γ' := fun a' cap' => _) Try.underlying61 eo_67 (by decide) rfl rfl (rd_row (by repeat (first | exact Pick.here | apply Pick.there))) (oneMtchs _) (by first | omega | (simp only [List.length_append, List.length_cons, List.length_nil] at *; omega)) (by first | omega | (simp only [List.length_append, List.length_cons, List.length_nil] at *; omega)) (fun _ _ => (by repeat (first | exact Pick.here | apply Pick.there)))) ?_)
      rintro _ _ ⟨a43, c43, rfl, rfl⟩
      refine l_step (s_q rfl wn (q_assign rfl) ?_)
      refine l_nil ?_
      refine k_blk_n ?_
      refine k_then_n ?_
      refine c_region ?_
      refine l_step (s_q rfl wn (q_move rfl) ?_)
      refine l_step (s_q rfl wn (q_sub rfl rfl (by omega) (by omega)) ?_)
      refine l_step (s_q rfl wn (q_assign rfl) ?_)
      refine l_nil ?_
      refine k_then_n ?_
      have hxs : (ms.reverse.take x.d) ++ [ms.getD ((ms_n : Int) - 1 - (x.d : Int)).toNat default] = (ms.reverse.take (x.d + 1)) := by rw [← hms_n]; exact rev_take ms (by omega)
      have hn1 : (ms.reverse.take x.d).length + 1 = (ms.reverse.take (x.d + 1)).length := by rw [← hxs, List.length_append]; rfl
      rw [hxs, hn1]
      exact t_next (⟨x.d + 1, a43, c43, none, 0, none, 0⟩ : Lp _) ⟨by simp only []; omega, by simp only []; omega⟩ (.cons rfl (by first | rfl | exact inte (by omega) | (simp; done) | (simp <;> omega) | simp [*]) (.cons rfl (by first | rfl | exact inte (by omega) | (simp; done) | (simp <;> omega) | simp [*]) (.cons rfl (by first | rfl | exact inte (by omega) | (simp; done) | (simp <;> omega) | simp [*]) (.cons rfl (by first | rfl | exact inte (by omega) | (simp; done) | (simp <;> omega) | simp [*]) (.cons rfl (by first | rfl | exact inte (by omega) | (simp; done) | (simp <;> omega) | simp [*]) (.cons rfl (by first | rfl | exact inte (by omega) | (simp; done) | (simp <;> omega) | simp [*]) (.cons rfl (by first | rfl | exact inte (by omega) | (simp; done) | (simp <;> omega) | simp [*]) (.nil _)))))))) (by repeat (first | exact Ent.nil _ | exact Ent.refl _ | (refine Ent.pick (by repeat (first | exact Pick.here | apply Pick.there)) ?_) | refine Ent.skip ?_))
    · try simp only [Bool.and_eq_true, Bool.or_eq_true, Bool.not_eq_true', Bool.and_eq_false_iff, Bool.or_eq_false_iff, Bool.not_eq_false', decide_eq_true_eq, decide_eq_false_iff_not, Bool.not_eq_eq_eq_not, Bool.not_true, Bool.not_false, Bool.not_eq_true, Bool.not_eq_false, beq_iff_eq, bne_iff_ne, ne_eq, Decidable.not_not] at h1
      have hk1 : x.d = ms.length := by omega
      have hrv : (ms.reverse.take x.d) = ms.reverse := by rw [hk1, ← List.length_reverse, List.take_length]
      have hrl : (ms.reverse.take x.d).length = ms_n := by omega
      rw [hrv, show ms.reverse.length = ms_n from by rw [List.length_reverse]; exact hms_n]
      refine c_exit ?_
      refine k_then_x ?_
      refine k_then_x ?_
      refine k_blk_x ?_
      refine k_then_n ?_
      refine c_seq ?_
      refine c_seq ?_
      refine c_region ?_
      refine l_step (s_q rfl wn (q_move rfl) ?_)
      refine l_step (s_q rfl wn (q_len Try.underlying61 rfl) ?_)
      refine l_step (s_q rfl wn (q_gtr rfl rfl) ?_)
      refine l_nil ?_
      refine k_then_n ?_
      refine c_cond rfl (fun h2 => ?_) (fun h2 => ?_)
      · try simp only [Bool.and_eq_true, Bool.or_eq_true, Bool.not_eq_true', Bool.and_eq_false_iff, Bool.or_eq_false_iff, Bool.not_eq_false', decide_eq_true_eq, decide_eq_false_iff_not, Bool.not_eq_eq_eq_not, Bool.not_true, Bool.not_false, Bool.not_eq_true, Bool.not_eq_false, beq_iff_eq, bne_iff_ne, ne_eq, Decidable.not_not] at h2
        refine c_seq ?_
        refine c_region ?_
        refine l_step (s_q rfl wn (q_move rfl) ?_)
        refine l_step (s_q rfl wn (q_move rfl) ?_)
        refine l_step (s_q rfl wn (q_len Try.underlying61 rfl) ?_)
        refine l_step (s_q rfl wn (q_rem rfl rfl (by omega)) ?_)
        refine l_step (s_q rfl wn (q_move rfl) ?_)
        refine l_step (s_q rfl wn (q_len Try.underlying61 rfl) ?_)
        have htb := turn_b (t := turn) (n := ms_n) (by omega)
        have htl := turn_lt (t := turn) (n := ms_n) (by omega)
        refine l_step (s_q rfl wn (q_add rfl rfl (by omega) (by omega)) ?_)
        refine l_step (s_q rfl wn (q_move rfl) ?_)
        refine l_step (s_q rfl wn (q_len Try.underlying61 rfl) ?_)
        refine l_step (s_q rfl wn (q_rem rfl rfl (by omega)) ?_)
        refine l_step (s_q rfl wn (q_assign rfl) ?_)
        refine l_nil ?_
        refine k_then_n ?_
        refine c_draw (m := 12) (bs := #[false, false, false, false, false, false, false, false, false, false, false, false]) [] (by kernel_rfl) rfl (by kernel_rfl) ?_
        refine r_take (i := 0) (bs' := #[true, false, false, false, false, false, false, false, false, false, false, false]) rfl (by kernel_rfl) (by kernel_rfl) (by kernel_rfl) (fun _ _ _ h => h) rfl wn (q_move rfl) (Hp.le_refl _) (by repeat (first | exact Ent.nil _ | exact Ent.refl _ | (refine Ent.pick (by repeat (first | exact Pick.here | apply Pick.there)) ?_) | refine Ent.skip ?_)) (by kernel_rfl) ?_
        refine r_take (i := 1) (bs' := #[true, true, false, false, false, false, false, false, false, false, false, false]) rfl (by kernel_rfl) (by kernel_rfl) (by kernel_rfl) (fun _ _ _ h => h) rfl wn (q_move rfl) (Hp.le_refl _) (by repeat (first | exact Ent.nil _ | exact Ent.refl _ | (refine Ent.pick (by repeat (first | exact Pick.here | apply Pick.there)) ?_) | refine Ent.skip ?_)) (by kernel_rfl) ?_
        refine r_take (i := 2) (bs' := #[true, true, true, false, false, false, false, false, false, false, false, false]) rfl (by kernel_rfl) (by kernel_rfl) (by kernel_rfl) (fun _ _ _ h => h) rfl wn (q_move rfl) (Hp.le_refl _) (by repeat (first | exact Ent.nil _ | exact Ent.refl _ | (refine Ent.pick (by repeat (first | exact Pick.here | apply Pick.there)) ?_) | refine Ent.skip ?_)) (by kernel_rfl) ?_
        refine r_take (i := 3) (bs' := #[true, true, true, true, false, false, false, false, false, false, false, false]) rfl (by kernel_rfl) (by kernel_rfl) (by kernel_rfl) (fun _ _ _ h => h) rfl wn (q_indexe (((((turn.tmod (ms_n : Int)) + (ms_n : Int)).tmod (ms_n : Int))).toNat) Try.underlying61 sz_67 rfl rfl (by first | assumption | exact rd_ro (by assumption) | exact rd_row (by repeat (first | exact Pick.here | apply Pick.there))) (by decide) (by omega) (by first | assumption | omega | (simp only [List.length_cons, List.length_nil]; omega))) (Hp.le_refl _) (by repeat (first | exact Ent.nil _ | exact Ent.refl _ | (refine Ent.pick (by repeat (first | exact Pick.here | apply Pick.there)) ?_) | refine Ent.skip ?_)) (by kernel_rfl) ?_
        refine r_take (i := 4) (bs' := #[true, true, true, true, true, false, false, false, false, false, false, false]) rfl (by kernel_rfl) (by kernel_rfl) (by kernel_rfl) (fun _ _ _ h => h) rfl wn (q_loadea (vs := encMtch (ms.getD (((((turn.tmod (ms_n : Int)) + (ms_n : Int)).tmod (ms_n : Int))).toNat) default)) (enc := encMtch) (xs := ms) (j := ((((turn.tmod (ms_n : Int)) + (ms_n : Int)).tmod (ms_n : Int))).toNat) (off := 0) ag_67 rfl (by first | assumption | exact rd_ro (by assumption) | exact rd_row (by repeat (first | exact Pick.here | apply Pick.there))) (fun _ => rfl) (by first | assumption | omega | (simp only [List.length_cons, List.length_nil]; omega)) (by simp [encMtch]) (by simp [encMtch]) rfl) (Hp.le_refl _) (by repeat (first | exact Ent.nil _ | exact Ent.refl _ | (refine Ent.pick (by repeat (first | exact Pick.here | apply Pick.there)) ?_) | refine Ent.skip ?_)) (by kernel_rfl) ?_
        refine r_take (i := 5) (bs' := #[true, true, true, true, true, true, false, false, false, false, false, false]) rfl (by kernel_rfl) (by kernel_rfl) (by kernel_rfl) (fun _ _ _ h => h) rfl wn (q_move rfl) (Hp.le_refl _) (by repeat (first | exact Ent.nil _ | exact Ent.refl _ | (refine Ent.pick (by repeat (first | exact Pick.here | apply Pick.there)) ?_) | refine Ent.skip ?_)) (by kernel_rfl) ?_
        refine r_take (i := 6) (bs' := #[true, true, true, true, true, true, true, false, false, false, false, false]) rfl (by kernel_rfl) (by kernel_rfl) (by kernel_rfl) (fun _ _ _ h => h) rfl wn (q_move rfl) (Hp.le_refl _) (by repeat (first | exact Ent.nil _ | exact Ent.refl _ | (refine Ent.pick (by repeat (first | exact Pick.here | apply Pick.there)) ?_) | refine Ent.skip ?_)) (by kernel_rfl) ?_
        refine r_take (i := 7) (bs' := #[true, true, true, true, true, true, true, true, false, false, false, false]) rfl (by kernel_rfl) (by kernel_rfl) (by kernel_rfl) (fun _ _ _ h => h) rfl wn (q_indexe (((((turn.tmod (ms_n : Int)) + (ms_n : Int)).tmod (ms_n : Int))).toNat) Try.underlying61 sz_67 rfl rfl (by first | assumption | exact rd_ro (by assumption) | exact rd_row (by repeat (first | exact Pick.here | apply Pick.there))) (by decide) (by omega) (by first | assumption | omega | (simp only [List.length_cons, List.length_nil]; omega))) (Hp.le_refl _) (by repeat (first | exact Ent.nil _ | exact Ent.refl _ | (refine Ent.pick (by repeat (first | exact Pick.here | apply Pick.there)) ?_) | refine Ent.skip ?_)) (by kernel_rfl) ?_
        refine r_take (i := 8) (bs' := #[true, true, true, true, true, true, true, true, true, false, false, false]) rfl (by kernel_rfl) (by kernel_rfl) (by kernel_rfl) (fun _ _ _ h => h) rfl wn (q_loadea (vs := encMtch (ms.getD (((((turn.tmod (ms_n : Int)) + (ms_n : Int)).tmod (ms_n : Int))).toNat) default)) (enc := encMtch) (xs := ms) (j := ((((turn.tmod (ms_n : Int)) + (ms_n : Int)).tmod (ms_n : Int))).toNat) (off := 0) ag_67 rfl (by first | assumption | exact rd_ro (by assumption) | exact rd_row (by repeat (first | exact Pick.here | apply Pick.there))) (fun _ => rfl) (by first | assumption | omega | (simp only [List.length_cons, List.length_nil]; omega)) (by simp [encMtch]) (by simp [encMtch]) rfl) (Hp.le_refl _) (by repeat (first | exact Ent.nil _ | exact Ent.refl _ | (refine Ent.pick (by repeat (first | exact Pick.here | apply Pick.there)) ?_) | refine Ent.skip ?_)) (by kernel_rfl) ?_
        refine r_one (i := 9) (bs' := #[true, true, true, true, true, true, true, true, true, true, false, false]) (by kernel_rfl) (by kernel_rfl) ?_
        refine o_step rfl (s_s rfl wn (s_buildSlice (cs := ([(ms.getD (((((turn.tmod (ms_n : Int)) + (ms_n : Int)).tmod (ms_n : Int))).toNat) default), (ms.getD (((((turn.tmod (ms_n : Int)) + (ms_n : Int)).tmod (ms_n : Int))).toNat) default)] : List Mtch).flatMap encMtch) Try.underlying61 eo_67 rfl rfl rfl rfl (by decide) (by decide)) ?_)
        rintro _ _ ⟨b66, rfl, rfl⟩
        refine r_cont (Hp.le_refl _) (by repeat (first | exact Ent.nil _ | exact Ent.refl _ | (refine Ent.pick (by repeat (first | exact Pick.here | apply Pick.there)) ?_) | refine Ent.skip ?_)) ?_
        refine r_one (i := 10) (bs' := #[true, true, true, true, true, true, true, true, true, true, true, false]) (by kernel_rfl) (by kernel_rfl) ?_
        refine o_step rfl (s_s rfl wn (s_appendn (enc := encMtch) (xs := (ms.reverse : List Mtch)) (ys := ([(ms.getD (((((turn.tmod (ms_n : Int)) + (ms_n : Int)).tmod (ms_n : Int))).toNat) default), (ms.getD (((((turn.tmod (ms_n : Int)) + (ms_n : Int)).tmod (ms_n : Int))).toNat) default)] : List Mtch)) (Γ' := fun a' cap' => _) Try.underlying61 eo_67 (by decide) rfl rfl (rd_row (by repeat (first | exact Pick.here | apply Pick.there))) (oneMtchs _) (by first | omega | (simp only [List.length_append, List.length_cons, List.length_nil] at *; omega)) (by first | omega | (simp only [List.length_append, List.length_cons, List.length_nil] at *; omega)) (fun _ _ => (by repeat (first | exact Pick.here | apply Pick.there)))) ?_)
        rintro _ _ ⟨a67, c67, rfl, rfl⟩
        refine r_cont (Hp.le_refl _) (by repeat (first | exact Ent.nil _ | exact Ent.refl _ | (refine Ent.pick (by repeat (first | exact Pick.here | apply Pick.there)) ?_) | refine Ent.skip ?_)) ?_
        refine r_take (i := 11) (bs' := #[true, true, true, true, true, true, true, true, true, true, true, true]) rfl (by kernel_rfl) (by kernel_rfl) (by kernel_rfl) (fun _ _ _ h => h) rfl wn (q_assign rfl) (Hp.le_refl _) (by repeat (first | exact Ent.nil _ | exact Ent.refl _ | (refine Ent.pick (by repeat (first | exact Pick.here | apply Pick.there)) ?_) | refine Ent.skip ?_)) (by kernel_rfl) ?_
        refine r_done (by kernel_rfl) ?_
        refine k_then_n ?_
        refine c_seq ?_
        refine c_region ?_
        refine l_step (s_q rfl wn (q_assign rfl) ?_)
        refine l_nil ?_
        refine k_then_n ?_
        refine c_seq ?_
        refine c_seq ?_
        refine c_region ?_
        refine l_step (s_q rfl wn (q_assign rfl) ?_)
        refine l_nil ?_
        refine k_then_n ?_
        refine c_block ?_
        refine Tr.ent (Ent.nilrow 67 2 _) ?_
        refine Tr.env (σ' := [(1, _), (3, _), (6, _), (7, _), (8, _), (11, _), (12, _)]) (.cons rfl rfl (.cons rfl rfl (.cons rfl rfl (.cons rfl rfl (.cons rfl rfl (.cons rfl rfl (.cons rfl rfl (.nil _)))))))) ?_
        refine t_loop (ι := Lp (Nat)) (fun y => y.d ≤ ms_n) (fun y => ms_n - y.d) (fun y => [(1, .slice ms_a ms_n ms_c), (3, .pointer (some ⟨b3, 0, none⟩)), (6, .bool false), (7, .int .i64 (commitF c.Voters.xs ms)), (8, .slice a67 (ms_n + 2) c67), (11, .slice y.a1 (((ms.take y.d).filter (inV c.Voters.xs)).length) y.c1), (12, .int .i64 (y.d : Int))]) (fun y => .row 67 2 y.a1 (((ms.take y.d).filter (inV c.Voters.xs)).length) y.c1 (((ms.take y.d).filter (inV c.Voters.xs)).flatMap encMtch) :: .row 67 2 (some ⟨b66, 0, none⟩) 2 2 ([(ms.getD (((((turn.tmod (ms_n : Int)) + (ms_n : Int)).tmod (ms_n : Int))).toNat) default), (ms.getD (((((turn.tmod (ms_n : Int)) + (ms_n : Int)).tmod (ms_n : Int))).toNat) default)].flatMap encMtch) :: .row 67 2 a67 (ms_n + 2) c67 ((ms.reverse ++ [(ms.getD (((((turn.tmod (ms_n : Int)) + (ms_n : Int)).tmod (ms_n : Int))).toNat) default), (ms.getD (((((turn.tmod (ms_n : Int)) + (ms_n : Int)).tmod (ms_n : Int))).toNat) default)]).flatMap encMtch) :: .pts b3 (encConf c) 60 :: Δ) (⟨0, none, 0, none, 0, none, 0⟩ : Lp _) (Nat.zero_le _) ?_ ?_ ?_
        · exact .cons rfl (by first | rfl | exact inte (by omega) | (simp; done) | (simp <;> omega) | simp [*]) (.cons rfl (by first | rfl | exact inte (by omega) | (simp; done) | (simp <;> omega) | simp [*]) (.cons rfl (by first | rfl | exact inte (by omega) | (simp; done) | (simp <;> omega) | simp [*]) (.cons rfl (by first | rfl | exact inte (by omega) | (simp; done) | (simp <;> omega) | simp [*]) (.cons rfl (by first | rfl | exact inte (by omega) | (simp; done) | (simp <;> omega) | simp [*]) (.cons rfl (by first | rfl | exact inte (by omega) | (simp; done) | (simp <;> omega) | simp [*]) (.cons rfl (by first | rfl | exact inte (by omega) | (simp; done) | (simp <;> omega) | simp [*]) (.nil _)))))))
        · exact (by repeat (first | exact Ent.nil _ | exact Ent.refl _ | (refine Ent.pick (by repeat (first | exact Pick.here | apply Pick.there)) ?_) | refine Ent.skip ?_))
        intro y hy
        have hlv : ((ms.take y.d).filter (inV c.Voters.xs)).length ≤ y.d := Nat.le_trans (List.length_filter_le _ _) (by rw [List.length_take]; omega)
        refine c_seq ?_
        refine c_seq ?_
        refine c_region ?_
        refine l_step (s_q rfl wn (q_move rfl) ?_)
        refine l_step (s_q rfl wn (q_move rfl) ?_)
        refine l_step (s_q rfl wn (q_len Try.underlying61 rfl) ?_)
        refine l_step (s_q rfl wn (q_lss rfl rfl) ?_)
        refine l_nil ?_
        refine k_then_n ?_
        refine c_cond rfl (fun h3 => ?_) (fun h3 => ?_)
        · try simp only [Bool.and_eq_true, Bool.or_eq_true, Bool.not_eq_true', Bool.and_eq_false_iff, Bool.or_eq_false_iff, Bool.not_eq_false', decide_eq_true_eq, decide_eq_false_iff_not, Bool.not_eq_eq_eq_not, Bool.not_true, Bool.not_false, Bool.not_eq_true, Bool.not_eq_false, beq_iff_eq, bne_iff_ne, ne_eq, Decidable.not_not] at h3
          refine c_skip ?_
          refine k_then_n ?_
          refine c_seq ?_
          refine c_block ?_
          refine c_seq ?_
          refine c_region ?_
          refine l_step (s_q rfl wn (q_assign rfl) ?_)
          refine l_nil ?_
          refine k_then_n ?_
          refine c_block ?_
          refine Tr.env (σ' := [(1, _), (3, _), (6, _), (7, _), (8, _), (11, _), (12, _), (13, _), (68, _), (69, _), (70, _), (71, _)]) (.cons rfl rfl (.cons rfl rfl (.cons rfl rfl (.cons rfl rfl (.cons rfl rfl (.cons rfl rfl (.cons rfl rfl (.cons rfl rfl (.cons rfl rfl (.cons rfl rfl (.cons rfl rfl (.cons rfl rfl (.nil _))))))))))))) ?_
          refine t_loop (ι := Lp (Nat)) (fun z => z.d ≤ c.Voters.xs.length ∧ (ms.getD y.d default).ID ∉ c.Voters.xs.take z.d) (fun z => c.Voters.xs.length - z.d) (fun z => [(1, .slice ms_a ms_n ms_c), (3, .pointer (some ⟨b3, 0, none⟩)), (6, .bool false), (7, .int .i64 (commitF c.Voters.xs ms)), (8, .slice a67 (ms_n + 2) c67), (11, .slice z.a1 (((ms.take y.d).filter (inV c.Voters.xs)).length) z.c1), (12, .int .i64 (y.d : Int)), (13, .int .i64 (z.d : Int)), (68, .int .i64 (y.d : Int)), (69, .slice ms_a ms_n ms_c), (70, .int .i64 (ms_n : Int)), (71, .bool (decide ((y.d : Int) < (ms_n : Int))))]) (fun z => .row 67 2 z.a1 (((ms.take y.d).filter (inV c.Voters.xs)).length) z.c1 (((ms.take y.d).filter (inV c.Voters.xs)).flatMap encMtch) :: .row 67 2 (some ⟨b66, 0, none⟩) 2 2 ([(ms.getD (((((turn.tmod (ms_n : Int)) + (ms_n : Int)).tmod (ms_n : Int))).toNat) default), (ms.getD (((((turn.tmod (ms_n : Int)) + (ms_n : Int)).tmod (ms_n : Int))).toNat) default)].flatMap encMtch) :: .row 67 2 a67 (ms_n + 2) c67 ((ms.reverse ++ [(ms.getD (((((turn.tmod (ms_n : Int)) + (ms_n : Int)).tmod (ms_n : Int))).toNat) default), (ms.getD (((((turn.tmod (ms_n : Int)) + (ms_n : Int)).tmod (ms_n : Int))).toNat) default)]).flatMap encMtch) :: .pts b3 (encConf c) 60 :: Δ) (⟨0, y.a1, y.c1, none, 0, none, 0⟩ : Lp _) ⟨Nat.zero_le _, by simp⟩ ?_ ?_ ?_
          · exact .cons rfl (by first | rfl | exact inte (by omega) | (simp; done) | (simp <;> omega) | simp [*]) (.cons rfl (by first | rfl | exact inte (by omega) | (simp; done) | (simp <;> omega) | simp [*]) (.cons rfl (by first | rfl | exact inte (by omega) | (simp; done) | (simp <;> omega) | simp [*]) (.cons rfl (by first | rfl | exact inte (by omega) | (simp; done) | (simp <;> omega) | simp [*]) (.cons rfl (by first | rfl | exact inte (by omega) | (simp; done) | (simp <;> omega) | simp [*]) (.cons rfl (by first | rfl | exact inte (by omega) | (simp; done) | (simp <;> omega) | simp [*]) (.cons rfl (by first | rfl | exact inte (by omega) | (simp; done) | (simp <;> omega) | simp [*]) (.cons rfl (by first | rfl | exact inte (by omega) | (simp; done) | (simp <;> omega) | simp [*]) (.cons rfl (by first | rfl | exact inte (by omega) | (simp; done) | (simp <;> omega) | simp [*]) (.cons rfl (by first | rfl | exact inte (by omega) | (simp; done) | (simp <;> omega) | simp [*]) (.cons rfl (by first | rfl | exact inte (by omega) | (simp; done) | (simp <;> omega) | simp [*]) (.cons rfl (by first | rfl | exact inte (by omega) | (simp; done) | (simp <;> omega) | simp [*]) (.nil _))))))))))))
          · exact (by repeat (first | exact Ent.nil _ | exact Ent.refl _ | (refine Ent.pick (by repeat (first | exact Pick.here | apply Pick.there)) ?_) | refine Ent.skip ?_))
          intro z hz
          obtain ⟨hz1, hz2⟩ := hz
          refine c_seq ?_
          refine c_seq ?_
          refine c_region ?_
          refine l_step (s_q rfl wn (q_move rfl) ?_)
          refine l_step (s_q rfl wn (q_fieldp rfl fo_60_0) ?_)
          refine l_step (s_q rfl wn (q_loadp (v := .slice c.Voters.a c.Voters.xs.length c.Voters.cap) sc_22 rfl (by repeat (first | exact Pick.here | apply Pick.there)) rfl) ?_)
          refine l_step (s_q rfl wn (q_len Try.underlying22 rfl) ?_)
          refine l_step (s_q rfl wn (q_lss rfl rfl) ?_)
          refine l_nil ?_
          refine k_then_n ?_
          refine c_cond rfl (fun h4 => ?_) (fun h4 => ?_)
          · try simp only [Bool.and_eq_true, Bool.or_eq_true, Bool.not_eq_true', Bool.and_eq_false_iff, Bool.or_eq_false_iff, Bool.not_eq_false', decide_eq_true_eq, decide_eq_false_iff_not, Bool.not_eq_eq_eq_not, Bool.not_true, Bool.not_false, Bool.not_eq_true, Bool.not_eq_false, beq_iff_eq, bne_iff_ne, ne_eq, Decidable.not_not] at h4
            refine c_skip ?_
            refine k_then_n ?_
            refine c_seq ?_
            refine c_block ?_
            refine c_seq ?_
            refine c_draw (m := 11) (bs := #[false, false, false, false, false, false, false, false, false, false, false]) [.row 67 2 z.a1 (((ms.take y.d).filter (inV c.Voters.xs)).length) z.c1 (((ms.take y.d).filter (inV c.Voters.xs)).flatMap encMtch), .row 67 2 (some ⟨b66, 0, none⟩) 2 2 ([(ms.getD (((((turn.tmod (ms_n : Int)) + (ms_n : Int)).tmod (ms_n : Int))).toNat) default), (ms.getD (((((turn.tmod (ms_n : Int)) + (ms_n : Int)).tmod (ms_n : Int))).toNat) default)].flatMap encMtch), .row 67 2 a67 (ms_n + 2) c67 ((ms.reverse ++ [(ms.getD (((((turn.tmod (ms_n : Int)) + (ms_n : Int)).tmod (ms_n : Int))).toNat) default), (ms.getD (((((turn.tmod (ms_n : Int)) + (ms_n : Int)).tmod (ms_n : Int))).toNat) default)]).flatMap encMtch), .pts b3 (encConf c) 60] (by kernel_rfl) rfl (by kernel_rfl) ?_
            refine r_take (i := 0) (bs' := #[true, false, false, false, false, false, false, false, false, false, false]) rfl (by kernel_rfl) (by kernel_rfl) (by kernel_rfl) (fun _ _ _ h => h) rfl wn (q_move rfl) (Hp.le_refl _) (by repeat (first | exact Ent.nil _ | exact Ent.refl _ | (refine Ent.pick (by repeat (first | exact Pick.here | apply Pick.there)) ?_) | refine Ent.skip ?_)) (by kernel_rfl) ?_
            refine r_take (i := 1) (bs' := #[true, true, false, false, false, false, false, false, false, false, false]) rfl (by kernel_rfl) (by kernel_rfl) (by kernel_rfl) (fun _ _ _ h => h) rfl wn (q_move rfl) (Hp.le_refl _) (by repeat (first | exact Ent.nil _ | exact Ent.refl _ | (refine Ent.pick (by repeat (first | exact Pick.here | apply Pick.there)) ?_) | refine Ent.skip ?_)) (by kernel_rfl) ?_
            refine r_take (i := 2) (bs' := #[true, true, true, false, false, false, false, false, false, false, false]) rfl (by kernel_rfl) (by kernel_rfl) (by kernel_rfl) (fun _ _ _ h => h) rfl wn (q_indexe y.d Try.underlying61 sz_67 rfl rfl (by first | assumption | exact rd_ro (by assumption) | exact rd_row (by repeat (first | exact Pick.here | apply Pick.there))) (by decide) rfl (by first | assumption | omega | (simp only [List.length_cons, List.length_nil]; omega))) (Hp.le_refl _) (by repeat (first | exact Ent.nil _ | exact Ent.refl _ | (refine Ent.pick (by repeat (first | exact Pick.here | apply Pick.there)) ?_) | refine Ent.skip ?_)) (by kernel_rfl) ?_
            refine r_take (i := 3) (bs' := #[true, true, true, true, false, false, false, false, false, false, false]) rfl (by kernel_rfl) (by kernel_rfl) (by kernel_rfl) (fun _ _ _ h => h) rfl wn (q_fielde rfl fo_67_0) (Hp.le_refl _) (by repeat (first | exact Ent.nil _ | exact Ent.refl _ | (refine Ent.pick (by repeat (first | exact Pick.here | apply Pick.there)) ?_) | refine Ent.skip ?_)) (by kernel_rfl) ?_
            refine r_take (i := 4) (bs' := #[true, true, true, true, true, false, false, false, false, false, false]) rfl (by kernel_rfl) (by kernel_rfl) (by kernel_rfl) (fun _ _ _ h => h) rfl wn (q_loade (enc := encMtch) (xs := ms) (j := y.d) (off := 0) sc_3 rfl (by first | assumption | exact rd_ro (by assumption) | exact rd_row (by repeat (first | exact Pick.here | apply Pick.there))) (fun _ => rfl) (by first | assumption | omega | (simp only [List.length_cons, List.length_nil]; omega)) (by decide) rfl) (Hp.le_refl _) (by repeat (first | exact Ent.nil _ | exact Ent.refl _ | (refine Ent.pick (by repeat (first | exact Pick.here | apply Pick.there)) ?_) | refine Ent.skip ?_)) (by kernel_rfl) ?_
            refine r_take (i := 5) (bs' := #[true, true, true, true, true, true, false, false, false, false, false]) rfl (by kernel_rfl) (by kernel_rfl) (by kernel_rfl) (fun _ _ _ h => h) rfl wn (q_fieldp rfl fo_60_0) (Hp.le_refl _) (by repeat (first | exact Ent.nil _ | exact Ent.refl _ | (refine Ent.pick (by repeat (first | exact Pick.here | apply Pick.there)) ?_) | refine Ent.skip ?_)) (by kernel_rfl) ?_
            refine r_take (i := 6) (bs' := #[true, true, true, true, true, true, true, false, false, false, false]) rfl (by kernel_rfl) (by kernel_rfl) (by kernel_rfl) (fun _ _ _ h => h) rfl wn (q_loadp (v := .slice c.Voters.a c.Voters.xs.length c.Voters.cap) sc_22 rfl (by repeat (first | exact Pick.here | apply Pick.there)) rfl) (Hp.le_refl _) (by repeat (first | exact Ent.nil _ | exact Ent.refl _ | (refine Ent.pick (by repeat (first | exact Pick.here | apply Pick.there)) ?_) | refine Ent.skip ?_)) (by kernel_rfl) ?_
            refine r_take (i := 7) (bs' := #[true, true, true, true, true, true, true, true, false, false, false]) rfl (by kernel_rfl) (by kernel_rfl) (by kernel_rfl) (fun _ _ _ h => h) rfl wn (q_move rfl) (Hp.le_refl _) (by repeat (first | exact Ent.nil _ | exact Ent.refl _ | (refine Ent.pick (by repeat (first | exact Pick.here | apply Pick.there)) ?_) | refine Ent.skip ?_)) (by kernel_rfl) ?_
            refine r_take (i := 8) (bs' := #[true, true, true, true, true, true, true, true, true, false, false]) rfl (by kernel_rfl) (by kernel_rfl) (by kernel_rfl) (fun _ _ _ h => h) rfl wn (q_indexe z.d Try.underlying22 sz_3 rfl rfl (by first | assumption | exact rd_ro (by assumption) | exact rd_row (by repeat (first | exact Pick.here | apply Pick.there))) (by decide) rfl (by first | assumption | omega | (simp only [List.length_cons, List.length_nil]; omega))) (Hp.le_refl _) (by repeat (first | exact Ent.nil _ | exact Ent.refl _ | (refine Ent.pick (by repeat (first | exact Pick.here | apply Pick.there)) ?_) | refine Ent.skip ?_)) (by kernel_rfl) ?_
            refine r_take (i := 9) (bs' := #[true, true, true, true, true, true, true, true, true, true, false]) rfl (by kernel_rfl) (by kernel_rfl) (by kernel_rfl) (fun _ _ _ h => h) rfl wn (q_loade (enc := encI) (xs := c.Voters.xs) (j := z.d) (off := 0) sc_3 rfl (by first | assumption | exact rd_ro (by assumption) | exact rd_row (by repeat (first | exact Pick.here | apply Pick.there))) (fun _ => rfl) (by first | assumption | omega | (simp only [List.length_cons, List.length_nil]; omega)) (by decide) rfl) (Hp.le_refl _) (by repeat (first | exact Ent.nil _ | exact Ent.refl _ | (refine Ent.pick (by repeat (first | exact Pick.here | apply Pick.there)) ?_) | refine Ent.skip ?_)) (by kernel_rfl) ?_
            refine r_take (i := 10) (bs' := #[true, true, true, true, true, true, true, true, true, true, true]) rfl (by kernel_rfl) (by kernel_rfl) (by kernel_rfl) (fun _ _ _ h => h) rfl wn (q_eql rfl rfl) (Hp.le_refl _) (by repeat (first | exact Ent.nil _ | exact Ent.refl _ | (refine Ent.pick (by repeat (first | exact Pick.here | apply Pick.there)) ?_) | refine Ent.skip ?_)) (by kernel_rfl) ?_
            refine r_done (by kernel_rfl) ?_
            refine k_then_n ?_
            refine c_cond rfl (fun h5 => ?_) (fun h5 => ?_)
            · try simp only [Bool.and_eq_true, Bool.or_eq_true, Bool.not_eq_true', Bool.and_eq_false_iff, Bool.or_eq_false_iff, Bool.not_eq_false', decide_eq_true_eq, decide_eq_false_iff_not, Bool.not_eq_eq_eq_not, Bool.not_true, Bool.not_false, Bool.not_eq_true, Bool.not_eq_false, beq_iff_eq, bne_iff_ne, ne_eq, Decidable.not_not] at h5
              refine c_seq ?_
              refine c_region ?_
              refine l_step (s_q rfl wn (q_move rfl) ?_)
              refine l_step (s_q rfl wn (q_move rfl) ?_)
              refine l_step (s_q rfl wn (q_move rfl) ?_)
              refine l_step (s_q rfl wn (q_indexe y.d Try.underlying61 sz_67 rfl rfl (by first | assumption | exact rd_ro (by assumption) | exact rd_row (by repeat (first | exact Pick.here | apply Pick.there))) (by decide) rfl (by first | assumption | omega | (simp only [List.length_cons, List.length_nil]; omega))) ?_)
              refine l_step (s_q rfl wn (q_loadea (vs := encMtch (ms.getD y.d default)) (enc := encMtch) (xs := ms) (j := y.d) (off := 0) ag_67 rfl (by first | assumption | exact rd_ro (by assumption) | exact rd_row (by repeat (first | exact Pick.here | apply Pick.there))) (fun _ => rfl) (by first | assumption | omega | (simp only [List.length_cons, List.length_nil]; omega)) (by simp [encMtch]) (by simp [encMtch]) rfl) ?_)
              refine l_step (s_s rfl wn (s_buildSlice (cs := ([(ms.getD y.d default)] : List Mtch).flatMap encMtch) Try.underlying61 eo_67 rfl rfl rfl rfl (by decide) (by decide)) ?_)
              rintro _ _ ⟨b97, rfl, rfl⟩
              refine l_step (s_s rfl wn (s_appendn (enc := encMtch) (xs := (((ms.take y.d).filter (inV c.Voters.xs)) : List Mtch)) (ys := ([(ms.getD y.d default)] : List Mtch)) (Γ' := fun a' cap' => _) Try.underlying61 eo_67 (by decide) rfl rfl (rd_row (by repeat (first | exact Pick.here | apply Pick.there))) (oneMtchs _) (by first | omega | (simp only [List.length_append, List.length_cons, List.length_nil] at *; omega)) (by first | omega | (simp only [List.length_append, List.length_cons, List.length_nil] at *; omega)) (fun _ _ => (by repeat (first | exact Pick.here | apply Pick.there)))) ?_)
              rintro _ _ ⟨a98, c98, rfl, rfl⟩
              refine l_step (s_q rfl wn (q_assign rfl) ?_)
              refine l_nil ?_
              refine k_then_n ?_
              refine c_exit ?_
              refine k_blk_xo rfl ?_
              refine k_then_x ?_
              refine k_then_x ?_
              refine k_blk_x ?_
              refine k_blk_n ?_
              refine k_then_n ?_
              refine c_region ?_
              refine l_step (s_q rfl wn (q_move rfl) ?_)
              refine l_step (s_q rfl wn (q_add rfl rfl (by omega) (by omega)) ?_)
              refine l_step (s_q rfl wn (q_assign rfl) ?_)
              refine l_nil ?_
              refine k_then_n ?_
              have hv5 := voters_yes (vs := c.Voters.xs) (ms := ms) (k := y.d) (by omega) (voter_at (by omega) h5)
              have hn5 : ((ms.take y.d).filter (inV c.Voters.xs)).length + 1 = ((ms.take (y.d + 1)).filter (inV c.Voters.xs)).length := by rw [← hv5, List.length_append]; rfl
              rw [hv5, hn5]
              exact t_next (⟨y.d + 1, a98, c98, none, 0, none, 0⟩ : Lp _) ⟨by simp only []; omega, by simp only []; omega⟩ (.cons rfl (by first | rfl | exact inte (by omega) | (simp; done) | (simp <;> omega) | simp [*]) (.cons rfl (by first | rfl | exact inte (by omega) | (simp; done) | (simp <;> omega) | simp [*]) (.cons rfl (by first | rfl | exact inte (by omega) | (simp; done) | (simp <;> omega) | simp [*]) (.cons rfl (by first | rfl | exact inte (by omega) | (simp; done) | (simp <;> omega) | simp [*]) (.cons rfl (by first | rfl | exact inte (by omega) | (simp; done) | (simp <;> omega) | simp [*]) (.cons rfl (by first | rfl | exact inte (by omega) | (simp; done) | (simp <;> omega) | simp [*]) (.cons rfl (by first | rfl | exact inte (by omega) | (simp; done) | (simp <;> omega) | simp [*]) (.nil _)))))))) (by repeat (first | exact Ent.nil _ | exact Ent.refl _ | (refine Ent.pick (by repeat (first | exact Pick.here | apply Pick.there)) ?_) | refine Ent.skip ?_))
            · try simp only [Bool.and_eq_true, Bool.or_eq_true, Bool.not_eq_true', Bool.and_eq_false_iff, Bool.or_eq_false_iff, Bool.not_eq_false', decide_eq_true_eq, decide_eq_false_iff_not, Bool.not_eq_eq_eq_not, Bool.not_true, Bool.not_false, Bool.not_eq_true, Bool.not_eq_false, beq_iff_eq, bne_iff_ne, ne_eq, Decidable.not_not] at h5
              refine c_skip ?_
              refine k_blk_n ?_
              refine k_then_n ?_
              refine c_region ?_
              refine l_step (s_q rfl wn (q_move rfl) ?_)
              refine l_step (s_q rfl wn (q_add rfl rfl (by omega) (by omega)) ?_)
              refine l_step (s_q rfl wn (q_assign rfl) ?_)
              refine l_nil ?_
              refine k_then_n ?_
              exact t_next (⟨z.d + 1, z.a1, z.c1, none, 0, none, 0⟩ : Lp _) ⟨⟨by simp only []; omega, not_take_succI (by omega) hz2 h5⟩, by simp only []; omega⟩ (.cons rfl (by first | rfl | exact inte (by omega) | (simp; done) | (simp <;> omega) | simp [*]) (.cons rfl (by first | rfl | exact inte (by omega) | (simp; done) | (simp <;> omega) | simp [*]) (.cons rfl (by first | rfl | exact inte (by omega) | (simp; done) | (simp <;> omega) | simp [*]) (.cons rfl (by first | rfl | exact inte (by omega) | (simp; done) | (simp <;> omega) | simp [*]) (.cons rfl (by first | rfl | exact inte (by omega) | (simp; done) | (simp <;> omega) | simp [*]) (.cons rfl (by first | rfl | exact inte (by omega) | (simp; done) | (simp <;> omega) | simp [*]) (.cons rfl (by first | rfl | exact inte (by omega) | (simp; done) | (simp <;> omega) | simp [*]) (.cons rfl (by first | rfl | exact inte (by omega) | (simp; done) | (simp <;> omega) | simp [*]) (.cons rfl (by first | rfl | exact inte (by omega) | (simp; done) | (simp <;> omega) | simp [*]) (.cons rfl (by first | rfl | exact inte (by omega) | (simp; done) | (simp <;> omega) | simp [*]) (.cons rfl (by first | rfl | exact inte (by omega) | (simp; done) | (simp <;> omega) | simp [*]) (.cons rfl (by first | rfl | exact inte (by omega) | (simp; done) | (simp <;> omega) | simp [*]) (.nil _))))))))))))) (by repeat (first | exact Ent.nil _ | exact Ent.refl _ | (refine Ent.pick (by repeat (first | exact Pick.here | apply Pick.there)) ?_) | refine Ent.skip ?_))
          · try simp only [Bool.and_eq_true, Bool.or_eq_true, Bool.not_eq_true', Bool.and_eq_false_iff, Bool.or_eq_false_iff, Bool.not_eq_false', decide_eq_true_eq, decide_eq_false_iff_not, Bool.not_eq_eq_eq_not, Bool.not_true, Bool.not_false, Bool.not_eq_true, Bool.not_eq_false, beq_iff_eq, bne_iff_ne, ne_eq, Decidable.not_not] at h4
            refine c_exit ?_
            refine k_then_x ?_
            refine k_then_x ?_
            refine k_blk_x ?_
            refine k_blk_n ?_
            refine k_then_n ?_
            refine c_region ?_
            refine l_step (s_q rfl wn (q_move rfl) ?_)
            refine l_step (s_q rfl wn (q_add rfl rfl (by omega) (by omega)) ?_)
            refine l_step (s_q rfl wn (q_assign rfl) ?_)
            refine l_nil ?_
            refine k_then_n ?_
            have hv5 : ((ms.take (y.d + 1)).filter (inV c.Voters.xs)) = ((ms.take y.d).filter (inV c.Voters.xs)) := voters_no (by omega) (by rw [show z.d = c.Voters.xs.length from by omega, List.take_length] at hz2; exact hz2)
            rw [← hv5]
            exact t_next (⟨y.d + 1, z.a1, z.c1, none, 0, none, 0⟩ : Lp _) ⟨by simp only []; omega, by simp only []; omega⟩ (.cons rfl (by first | rfl | exact inte (by omega) | (simp; done) | (simp <;> omega) | simp [*]) (.cons rfl (by first | rfl | exact inte (by omega) | (simp; done) | (simp <;> omega) | simp [*]) (.cons rfl (by first | rfl | exact inte (by omega) | (simp; done) | (simp <;> omega) | simp [*]) (.cons rfl (by first | rfl | exact inte (by omega) | (simp; done) | (simp <;> omega) | simp [*]) (.cons rfl (by first | rfl | exact inte (by omega) | (simp; done) | (simp <;> omega) | simp [*]) (.cons rfl (by first | rfl | exact inte (by omega) | (simp; done) | (simp <;> omega) | simp [*]) (.cons rfl (by first | rfl | exact inte (by omega) | (simp; done) | (simp <;> omega) | simp [*]) (.nil _)))))))) (by repeat (first | exact Ent.nil _ | exact Ent.refl _ | (refine Ent.pick (by repeat (first | exact Pick.here | apply Pick.there)) ?_) | refine Ent.skip ?_))
        · try simp only [Bool.and_eq_true, Bool.or_eq_true, Bool.not_eq_true', Bool.and_eq_false_iff, Bool.or_eq_false_iff, Bool.not_eq_false', decide_eq_true_eq, decide_eq_false_iff_not, Bool.not_eq_eq_eq_not, Bool.not_true, Bool.not_false, Bool.not_eq_true, Bool.not_eq_false, beq_iff_eq, bne_iff_ne, ne_eq, Decidable.not_not] at h3
          have hk3 : y.d = ms.length := by omega
          have hfv : ((ms.take y.d).filter (inV c.Voters.xs)) = ms.filter (inV c.Voters.xs) := by rw [hk3, List.take_length]
          rw [hfv]
          refine c_exit ?_
          refine k_then_x ?_
          refine k_then_x ?_
          refine k_blk_x ?_
          refine k_then_n ?_
          refine c_seq ?_
          refine c_region ?_
          refine l_step (s_q rfl wn (q_loadpa (vs := encConf c) ag_60 rfl (by repeat (first | exact Pick.here | apply Pick.there)) rfl) ?_)
          refine l_step (s_q rfl wn (q_move rfl) ?_)
          refine l_step (s_fnq rfl wn Try.func24 rfl (by kernel_rfl) rfl (fun ρ' hL => commit_spec c a67 (ms_n + 2) c67 (ms.reverse ++ [(ms.getD (((((turn.tmod (ms_n : Int)) + (ms_n : Int)).tmod (ms_n : Int))).toNat) default), (ms.getD (((((turn.tmod (ms_n : Int)) + (ms_n : Int)).tmod (ms_n : Int))).toNat) default)]) (by first | rfl | assumption | (simp; done) | (simp <;> omega) | omega) ρ' (by first | assumption | omega) (by first | exact hL.ro (by assumption) | exact hL.row (by repeat (first | exact Pick.here | apply Pick.there)) | assumption) (by first | exact hL.ro (by assumption) | exact hL.row (by repeat (first | exact Pick.here | apply Pick.there)) | assumption)) ?_)
          refine l_step (s_q rfl wn (q_move rfl) ?_)
          refine l_step (s_q rfl wn (q_eql rfl rfl) ?_)
          refine l_step (s_q rfl wn (q_move rfl) ?_)
          refine l_step (s_qg rfl (ask_t rfl rfl) (b := (decide ((commitF c.Voters.xs (ms.reverse ++ [(ms.getD (((((turn.tmod (ms_n : Int)) + (ms_n : Int)).tmod (ms_n : Int))).toNat) default), (ms.getD (((((turn.tmod (ms_n : Int)) + (ms_n : Int)).tmod (ms_n : Int))).toNat) default)])) = (commitF c.Voters.xs ms)))) (fun hb => q_loadpa (vs := encConf c) ag_60 rfl (by repeat (first | exact Pick.here | apply Pick.there)) rfl) ?_)
          refine l_step (s_qg rfl (ask_t rfl rfl) (b := (decide ((commitF c.Voters.xs (ms.reverse ++ [(ms.getD (((((turn.tmod (ms_n : Int)) + (ms_n : Int)).tmod (ms_n : Int))).toNat) default), (ms.getD (((((turn.tmod (ms_n : Int)) + (ms_n : Int)).tmod (ms_n : Int))).toNat) default)])) = (commitF c.Voters.xs ms)))) (fun hb => q_move rfl) ?_)
          refine l_step (s_fnqg (b := (decide ((commitF c.Voters.xs (ms.reverse ++ [(ms.getD (((((turn.tmod (ms_n : Int)) + (ms_n : Int)).tmod (ms_n : Int))).toNat) default), (ms.getD (((((turn.tmod (ms_n : Int)) + (ms_n : Int)).tmod (ms_n : Int))).toNat) default)])) = (commitF c.Voters.xs ms)))) rfl (ask_t rfl rfl) Try.func24 rfl (by kernel_rfl) (fun hb => (.cons rfl (gd_t hb) (.cons rfl (gd_t hb) (.nil _)) : EnvLe [(105, .agg (encConf c).toArray), (106, .slice y.a1 ((ms.filter (inV c.Voters.xs)).length) y.c1)] _)) rfl (fun hb ρ' hL => commit_spec c y.a1 ((ms.filter (inV c.Voters.xs)).length) y.c1 (ms.filter (inV c.Voters.xs)) (by first | rfl | assumption | (simp; done) | (simp <;> omega) | omega) ρ' (by first | assumption | omega) (by first | exact hL.ro (by assumption) | exact hL.row (by repeat (first | exact Pick.here | apply Pick.there)) | assumption) (by first | exact hL.ro (by assumption) | exact hL.row (by repeat (first | exact Pick.here | apply Pick.there)) | assumption)) ?_)
          refine l_step (s_qg rfl (ask_t rfl rfl) (b := (decide ((commitF c.Voters.xs (ms.reverse ++ [(ms.getD (((((turn.tmod (ms_n : Int)) + (ms_n : Int)).tmod (ms_n : Int))).toNat) default), (ms.getD (((((turn.tmod (ms_n : Int)) + (ms_n : Int)).tmod (ms_n : Int))).toNat) default)])) = (commitF c.Voters.xs ms)))) (fun hb => q_move rfl) ?_)
          refine l_step (s_qg rfl (ask_t rfl rfl) (b := (decide ((commitF c.Voters.xs (ms.reverse ++ [(ms.getD (((((turn.tmod (ms_n : Int)) + (ms_n : Int)).tmod (ms_n : Int))).toNat) default), (ms.getD (((((turn.tmod (ms_n : Int)) + (ms_n : Int)).tmod (ms_n : Int))).toNat) default)])) = (commitF c.Voters.xs ms)))) (fun hb => OpQ.env (.cons rfl (gd_t hb) (.cons rfl (gd_t hb) (.nil _)) : EnvLe [(107, .int .i64 (commitF c.Voters.xs (ms.filter (inV c.Voters.xs)))), (108, .int .i64 (commitF c.Voters.xs ms))] _) (q_eql rfl rfl)) ?_)
          refine l_step (s_q rfl wn (q_pick_and rfl rfl rfl (fun h => h)) ?_)
          refine l_step (s_q rfl wn (q_assign rfl) ?_)
          refine l_nil ?_
          refine k_then_n ?_
          refine c_ret ?_
          exact t_ret [] rfl (.tmp rfl .nil) rfl (Hp.le_refl _) ⟨rfl, boole (by rw [commit_rev2 _ _ (by omega), commit_voters]; simp), rfl⟩ (by (repeat refine Ent.skip ?_); exact Ent.refl _)
      · try simp only [Bool.and_eq_true, Bool.or_eq_true, Bool.not_eq_true', Bool.and_eq_false_iff, Bool.or_eq_false_iff, Bool.not_eq_false', decide_eq_true_eq, decide_eq_false_iff_not, Bool.not_eq_eq_eq_not, Bool.not_true, Bool.not_false, Bool.not_eq_true, Bool.not_eq_false, beq_iff_eq, bne_iff_ne, ne_eq, Decidable.not_not] at h2
        refine c_skip ?_
        refine k_then_n ?_
        refine c_seq ?_
        refine c_region ?_
        refine l_step (s_q rfl wn (q_assign rfl) ?_)
        refine l_nil ?_
        refine k_then_n ?_
        refine c_seq ?_
        refine c_seq ?_
        refine c_region ?_
        refine l_step (s_q rfl wn (q_assign rfl) ?_)
        refine l_nil ?_
        refine k_then_n ?_
        refine c_block ?_
        refine Tr.ent (Ent.nilrow 67 2 _) ?_
        refine Tr.env (σ' := [(1, _), (3, _), (6, _), (7, _), (8, _), (11, _), (12, _)]) (.cons rfl rfl (.cons rfl rfl (.cons rfl rfl (.cons rfl rfl (.cons rfl rfl (.cons rfl rfl (.cons rfl rfl (.nil _)))))))) ?_
        refine t_loop (ι := Lp (Nat)) (fun y => y.d ≤ ms_n) (fun y => ms_n - y.d) (fun y => [(1, .slice ms_a ms_n ms_c), (3, .pointer (some ⟨b3, 0, none⟩)), (6, .bool false), (7, .int .i64 (commitF c.Voters.xs ms)), (8, .slice x.a1 ms_n x.c1), (11, .slice y.a1 (((ms.take y.d).filter (inV c.Voters.xs)).length) y.c1), (12, .int .i64 (y.d : Int))]) (fun y => .row 67 2 y.a1 (((ms.take y.d).filter (inV c.Voters.xs)).length) y.c1 (((ms.take y.d).filter (inV c.Voters.xs)).flatMap encMtch) :: .row 67 2 x.a1 ms_n x.c1 (ms.reverse.flatMap encMtch) :: .pts b3 (encConf c) 60 :: Δ) (⟨0, none, 0, none, 0, none, 0⟩ : Lp _) (Nat.zero_le _) ?_ ?_ ?_
        · exact .cons rfl (by first | rfl | exact inte (by omega) | (simp; done) | (simp <;> omega) | simp [*]) (.cons rfl (by first | rfl | exact inte (by omega) | (simp; done) | (simp <;> omega) | simp [*]) (.cons rfl (by first | rfl | exact inte (by omega) | (simp; done) | (simp <;> omega) | simp [*]) (.cons rfl (by first | rfl | exact inte (by omega) | (simp; done) | (simp <;> omega) | simp [*]) (.cons rfl (by first | rfl | exact inte (by omega) | (simp; done) | (simp <;> omega) | simp [*]) (.cons rfl (by first | rfl | exact inte (by omega) | (simp; done) | (simp <;> omega) | simp [*]) (.cons rfl (by first | rfl | exact inte (by omega) | (simp; done) | (simp <;> omega) | simp [*]) (.nil _)))))))
        · exact (by repeat (first | exact Ent.nil _ | exact Ent.refl _ | (refine Ent.pick (by repeat (first | exact Pick.here | apply Pick.there)) ?_) | refine Ent.skip ?_))
        intro y hy
        have hlv : ((ms.take y.d).filter (inV c.Voters.xs)).length ≤ y.d := Nat.le_trans (List.length_filter_le _ _) (by rw [List.length_take]; omega)
        refine c_seq ?_
        refine c_seq ?_
        refine c_region ?_
        refine l_step (s_q rfl wn (q_move rfl) ?_)
        refine l_step (s_q rfl wn (q_move rfl) ?_)
        refine l_step (s_q rfl wn (q_len Try.underlying61 rfl) ?_)
        refine l_step (s_q rfl wn (q_lss rfl rfl) ?_)
        refine l_nil ?_
        refine k_then_n ?_
        refine c_cond rfl (fun h3 => ?_) (fun h3 => ?_)
        · try simp only [Bool.and_eq_true, Bool.or_eq_true, Bool.not_eq_true', Bool.and_eq_false_iff, Bool.or_eq_false_iff, Bool.not_eq_false', decide_eq_true_eq, decide_eq_false_iff_not, Bool.not_eq_eq_eq_not, Bool.not_true, Bool.not_false, Bool.not_eq_true, Bool.not_eq_false, beq_iff_eq, bne_iff_ne, ne_eq, Decidable.not_not] at h3
          refine c_skip ?_
          refine k_then_n ?_
          refine c_seq ?_
          refine c_block ?_
          refine c_seq ?_
          refine c_region ?_
          refine l_step (s_q rfl wn (q_assign rfl) ?_)
          refine l_nil ?_
          refine k_then_n ?_
          refine c_block ?_
          refine Tr.env (σ' := [(1, _), (3, _), (6, _), (7, _), (8, _), (11, _), (12, _), (13, _), (68, _), (69, _), (70, _), (71, _)]) (.cons rfl rfl (.cons rfl rfl (.cons rfl rfl (.cons rfl rfl (.cons rfl rfl (.cons rfl rfl (.cons rfl rfl (.cons rfl rfl (.cons rfl rfl (.cons rfl rfl (.cons rfl rfl (.cons rfl rfl (.nil _))))))))))))) ?_
          refine t_loop (ι := Lp (Nat)) (fun z => z.d ≤ c.Voters.xs.length ∧ (ms.getD y.d default).ID ∉ c.Voters.xs.take z.d) (fun z => c.Voters.xs.length - z.d) (fun z => [(1, .slice ms_a ms_n ms_c), (3, .pointer (some ⟨b3, 0, none⟩)), (6, .bool false), (7, .int .i64 (commitF c.Voters.xs ms)), (8, .slice x.a1 ms_n x.c1), (11, .slice z.a1 (((ms.take y.d).filter (inV c.Voters.xs)).length) z.c1), (12, .int .i64 (y.d : Int)), (13, .int .i64 (z.d : Int)), (68, .int .i64 (y.d : Int)), (69, .slice ms_a ms_n ms_c), (70, .int .i64 (ms_n : Int)), (71, .bool (decide ((y.d : Int) < (ms_n : Int))))]) (fun z => .row 67 2 z.a1 (((ms.take y.d).filter (inV c.Voters.xs)).length) z.c1 (((ms.take y.d).filter (inV c.Voters.xs)).flatMap encMtch) :: .row 67 2 x.a1 ms_n x.c1 (ms.reverse.flatMap encMtch) :: .pts b3 (encConf c) 60 :: Δ) (⟨0, y.a1, y.c1, none, 0, none, 0⟩ : Lp _) ⟨Nat.zero_le _, by simp⟩ ?_ ?_ ?_
          · exact .cons rfl (by first | rfl | exact inte (by omega) | (simp; done) | (simp <;> omega) | simp [*]) (.cons rfl (by first | rfl | exact inte (by omega) | (simp; done) | (simp <;> omega) | simp [*]) (.cons rfl (by first | rfl | exact inte (by omega) | (simp; done) | (simp <;> omega) | simp [*]) (.cons rfl (by first | rfl | exact inte (by omega) | (simp; done) | (simp <;> omega) | simp [*]) (.cons rfl (by first | rfl | exact inte (by omega) | (simp; done) | (simp <;> omega) | simp [*]) (.cons rfl (by first | rfl | exact inte (by omega) | (simp; done) | (simp <;> omega) | simp [*]) (.cons rfl (by first | rfl | exact inte (by omega) | (simp; done) | (simp <;> omega) | simp [*]) (.cons rfl (by first | rfl | exact inte (by omega) | (simp; done) | (simp <;> omega) | simp [*]) (.cons rfl (by first | rfl | exact inte (by omega) | (simp; done) | (simp <;> omega) | simp [*]) (.cons rfl (by first | rfl | exact inte (by omega) | (simp; done) | (simp <;> omega) | simp [*]) (.cons rfl (by first | rfl | exact inte (by omega) | (simp; done) | (simp <;> omega) | simp [*]) (.cons rfl (by first | rfl | exact inte (by omega) | (simp; done) | (simp <;> omega) | simp [*]) (.nil _))))))))))))
          · exact (by repeat (first | exact Ent.nil _ | exact Ent.refl _ | (refine Ent.pick (by repeat (first | exact Pick.here | apply Pick.there)) ?_) | refine Ent.skip ?_))
          intro z hz
          obtain ⟨hz1, hz2⟩ := hz
          refine c_seq ?_
          refine c_seq ?_
          refine c_region ?_
          refine l_step (s_q rfl wn (q_move rfl) ?_)
          refine l_step (s_q rfl wn (q_fieldp rfl fo_60_0) ?_)
          refine l_step (s_q rfl wn (q_loadp (v := .slice c.Voters.a c.Voters.xs.length c.Voters.cap) sc_22 rfl (by repeat (first | exact Pick.here | apply Pick.there)) rfl) ?_)
          refine l_step (s_q rfl wn (q_len Try.underlying22 rfl) ?_)
          refine l_step (s_q rfl wn (q_lss rfl rfl) ?_)
          refine l_nil ?_
          refine k_then_n ?_
          refine c_cond rfl (fun h4 => ?_) (fun h4 => ?_)
          · try simp only [Bool.and_eq_true, Bool.or_eq_true, Bool.not_eq_true', Bool.and_eq_false_iff, Bool.or_eq_false_iff, Bool.not_eq_false', decide_eq_true_eq, decide_eq_false_iff_not, Bool.not_eq_eq_eq_not, Bool.not_true, Bool.not_false, Bool.not_eq_true, Bool.not_eq_false, beq_iff_eq, bne_iff_ne, ne_eq, Decidable.not_not] at h4
            refine c_skip ?_
            refine k_then_n ?_
            refine c_seq ?_
            refine c_block ?_
            refine c_seq ?_
            refine c_draw (m := 11) (bs := #[false, false, false, false, false, false, false, false, false, false, false]) [.row 67 2 z.a1 (((ms.take y.d).filter (inV c.Voters.xs)).length) z.c1 (((ms.take y.d).filter (inV c.Voters.xs)).flatMap encMtch), .row 67 2 x.a1 ms_n x.c1 (ms.reverse.flatMap encMtch), .pts b3 (encConf c) 60] (by kernel_rfl) rfl (by kernel_rfl) ?_
            refine r_take (i := 0) (bs' := #[true, false, false, false, false, false, false, false, false, false, false]) rfl (by kernel_rfl) (by kernel_rfl) (by kernel_rfl) (fun _ _ _ h => h) rfl wn (q_move rfl) (Hp.le_refl _) (by repeat (first | exact Ent.nil _ | exact Ent.refl _ | (refine Ent.pick (by repeat (first | exact Pick.here | apply Pick.there)) ?_) | refine Ent.skip ?_)) (by kernel_rfl) ?_
            refine r_take (i := 1) (bs' := #[true, true, false, false, false, false, false, false, false, false, false]) rfl (by kernel_rfl) (by kernel_rfl) (by kernel_rfl) (fun _ _ _ h => h) rfl wn (q_move rfl) (Hp.le_refl _) (by repeat (first | exact Ent.nil _ | exact Ent.refl _ | (refine Ent.pick (by repeat (first | exact Pick.here | apply Pick.there)) ?_) | refine Ent.skip ?_)) (by kernel_rfl) ?_
            refine r_take (i := 2) (bs' := #[true, true, true, false, false, false, false, false, false, false, false]) rfl (by kernel_rfl) (by kernel_rfl) (by kernel_rfl) (fun _ _ _ h => h) rfl wn (q_indexe y.d Try.underlying61 sz_67 rfl rfl (by first | assumption | exact rd_ro (by assumption) | exact rd_row (by repeat (first | exact Pick.here | apply Pick.there))) (by decide) rfl (by first | assumption | omega | (simp only [List.length_cons, List.length_nil]; omega))) (Hp.le_refl _) (by repeat (first | exact Ent.nil _ | exact Ent.refl _ | (refine Ent.pick (by repeat (first | exact Pick.here | apply Pick.there)) ?_) | refine Ent.skip ?_)) (by kernel_rfl) ?_
            refine r_take (i := 3) (bs' := #[true, true, true, true, false, false, false, false, false, false, false]) rfl (by kernel_rfl) (by kernel_rfl) (by kernel_rfl) (fun _ _ _ h => h) rfl wn (q_fielde rfl fo_67_0) (Hp.le_refl _) (by repeat (first | exact Ent.nil _ | exact Ent.refl _ | (refine Ent.pick (by repeat (first | exact Pick.here | apply Pick.there)) ?_) | refine Ent.skip ?_)) (by kernel_rfl) ?_
            refine r_take (i := 4) (bs' := #[true, true, true, true, true, false, false, false, false, false, false]) rfl (by kernel_rfl) (by kernel_rfl) (by kernel_rfl) (fun _ _ _ h => h) rfl wn (q_loade (enc := encMtch) (xs := ms) (j := y.d) (off := 0) sc_3 rfl (by first | assumption | exact rd_ro (by assumption) | exact rd_row (by repeat (first | exact Pick.here | apply Pick.there))) (fun _ => rfl) (by first | assumption | omega | (simp only [List.length_cons, List.length_nil]; omega)) (by decide) rfl) (Hp.le_refl _) (by repeat (first | exact Ent.nil _ | exact Ent.refl _ | (refine Ent.pick (by repeat (first | exact Pick.here | apply Pick.there)) ?_) | refine Ent.skip ?_)) (by kernel_rfl) ?_
            refine r_take (i := 5) (bs' := #[true, true, true, true, true, true, false, false, false, false, false]) rfl (by kernel_rfl) (by kernel_rfl) (by kernel_rfl) (fun _ _ _ h => h) rfl wn (q_fieldp rfl fo_60_0) (Hp.le_refl _) (by repeat (first | exact Ent.nil _ | exact Ent.refl _ | (refine Ent.pick (by repeat (first | exact Pick.here | apply Pick.there)) ?_) | refine Ent.skip ?_)) (by kernel_rfl) ?_
            refine r_take (i := 6) (bs' := #[true, true, true, true, true, true, true, false, false, false, false]) rfl (by kernel_rfl) (by kernel_rfl) (by kernel_rfl) (fun _ _ _ h => h) rfl wn (q_loadp (v := .slice c.Voters.a c.Voters.xs.length c.Voters.cap) sc_22 rfl (by repeat (first | exact Pick.here | apply Pick.there)) rfl) (Hp.le_refl _) (by repeat (first | exact Ent.nil _ | exact Ent.refl _ | (refine Ent.pick (by repeat (first | exact Pick.here | apply Pick.there)) ?_) | refine Ent.skip ?_)) (by kernel_rfl) ?_
            refine r_take (i := 7) (bs' := #[true, true, true, true, true, true, true, true, false, false, false]) rfl (by kernel_rfl) (by kernel_rfl) (by kernel_rfl) (fun _ _ _ h => h) rfl wn (q_move rfl) (Hp.le_refl _) (by repeat (first | exact Ent.nil _ | exact Ent.refl _ | (refine Ent.pick (by repeat (first | exact Pick.here | apply Pick.there)) ?_) | refine Ent.skip ?_)) (by kernel_rfl) ?_
            refine r_take (i := 8) (bs' := #[true, true, true, true, true, true, true, true, true, false, false]) rfl (by kernel_rfl) (by kernel_rfl) (by kernel_rfl) (fun _ _ _ h => h) rfl wn (q_indexe z.d Try.underlying22 sz_3 rfl rfl (by first | assumption | exact rd_ro (by assumption) | exact rd_row (by repeat (first | exact Pick.here | apply Pick.there))) (by decide) rfl (by first | assumption | omega | (simp only [List.length_cons, List.length_nil]; omega))) (Hp.le_refl _) (by repeat (first | exact Ent.nil _ | exact Ent.refl _ | (refine Ent.pick (by repeat (first | exact Pick.here | apply Pick.there)) ?_) | refine Ent.skip ?_)) (by kernel_rfl) ?_
            refine r_take (i := 9) (bs' := #[true, true, true, true, true, true, true, true, true, true, false]) rfl (by kernel_rfl) (by kernel_rfl) (by kernel_rfl) (fun _ _ _ h => h) rfl wn (q_loade (enc := encI) (xs := c.Voters.xs) (j := z.d) (off := 0) sc_3 rfl (by first | assumption | exact rd_ro (by assumption) | exact rd_row (by repeat (first | exact Pick.here | apply Pick.there))) (fun _ => rfl) (by first | assumption | omega | (simp only [List.length_cons, List.length_nil]; omega)) (by decide) rfl) (Hp.le_refl _) (by repeat (first | exact Ent.nil _ | exact Ent.refl _ | (refine Ent.pick (by repeat (first | exact Pick.here | apply Pick.there)) ?_) | refine Ent.skip ?_)) (by kernel_rfl) ?_
            refine r_take (i := 10) (bs' := #[true, true, true, true, true, true, true, true, true, true, true]) rfl (by kernel_rfl) (by kernel_rfl) (by kernel_rfl) (fun _ _ _ h => h) rfl wn (q_eql rfl rfl) (Hp.le_refl _) (by repeat (first | exact Ent.nil _ | exact Ent.refl _ | (refine Ent.pick (by repeat (first | exact Pick.here | apply Pick.there)) ?_) | refine Ent.skip ?_)) (by kernel_rfl) ?_
            refine r_done (by kernel_rfl) ?_
            refine k_then_n ?_
            refine c_cond rfl (fun h5 => ?_) (fun h5 => ?_)
            · try simp only [Bool.and_eq_true, Bool.or_eq_true, Bool.not_eq_true', Bool.and_eq_false_iff, Bool.or_eq_false_iff, Bool.not_eq_false', decide_eq_true_eq, decide_eq_false_iff_not, Bool.not_eq_eq_eq_not, Bool.not_true, Bool.not_false, Bool.not_eq_true, Bool.not_eq_false, beq_iff_eq, bne_iff_ne, ne_eq, Decidable.not_not] at h5
              refine c_seq ?_
              refine c_region ?_
              refine l_step (s_q rfl wn (q_move rfl) ?_)
              refine l_step (s_q rfl wn (q_move rfl) ?_)
              refine l_step (s_q rfl wn (q_move rfl) ?_)
              refine l_step (s_q rfl wn (q_indexe y.d Try.underlying61 sz_67 rfl rfl (by first | assumption | exact rd_ro (by assumption) | exact rd_row (by repeat (first | exact Pick.here | apply Pick.there))) (by decide) rfl (by first | assumption | omega | (simp only [List.length_cons, List.length_nil]; omega))) ?_)
              refine l_step (s_q rfl wn (q_loadea (vs := encMtch (ms.getD y.d default)) (enc := encMtch) (xs := ms) (j := y.d) (off := 0) ag_67 rfl (by first | assumption | exact rd_ro (by assumption) | exact rd_row (by repeat (first | exact Pick.here | apply Pick.there))) (fun _ => rfl) (by first | assumption | omega | (simp only [List.length_cons, List.length_nil]; omega)) (by simp [encMtch]) (by simp [encMtch]) rfl) ?_)
              refine l_step (s_s rfl wn (s_buildSlice (cs := ([(ms.getD y.d default)] : List Mtch).flatMap encMtch) Try.underlying61 eo_67 rfl rfl rfl rfl (by decide) (by decide)) ?_)
              rintro _ _ ⟨b97, rfl, rfl⟩
              refine l_step (s_s rfl wn (s_appendn (enc := encMtch) (xs := (((ms.take y.d).filter (inV c.Voters.xs)) : List Mtch)) (ys := ([(ms.getD y.d default)] : List Mtch)) (Γ' := fun a' cap' => _) Try.underlying61 eo_67 (by decide) rfl rfl (rd_row (by repeat (first | exact Pick.here | apply Pick.there))) (oneMtchs _) (by first | omega | (simp only [List.length_append, List.length_cons, List.length_nil] at *; omega)) (by first | omega | (simp only [List.length_append, List.length_cons, List.length_nil] at *; omega)) (fun _ _ => (by repeat (first | exact Pick.here | apply Pick.there)))) ?_)
              rintro _ _ ⟨a98, c98, rfl, rfl⟩
              refine l_step (s_q rfl wn (q_assign rfl) ?_)
              refine l_nil ?_
              refine k_then_n ?_
              refine c_exit ?_
              refine k_blk_xo rfl ?_
              refine k_then_x ?_
              refine k_then_x ?_
              refine k_blk_x ?_
              refine k_blk_n ?_
              refine k_then_n ?_
              refine c_region ?_
              refine l_step (s_q rfl wn (q_move rfl) ?_)
              refine l_step (s_q rfl wn (q_add rfl rfl (by omega) (by omega)) ?_)
              refine l_step (s_q rfl wn (q_assign rfl) ?_)
              refine l_nil ?_
              refine k_then_n ?_
              have hv5 := voters_yes (vs := c.Voters.xs) (ms := ms) (k := y.d) (by omega) (voter_at (by omega) h5)
              have hn5 : ((ms.take y.d).filter (inV c.Voters.xs)).length + 1 = ((ms.take (y.d + 1)).filter (inV c.Voters.xs)).length := by rw [← hv5, List.length_append]; rfl
              rw [hv5, hn5]
              exact t_next (⟨y.d + 1, a98, c98, none, 0, none, 0⟩ : Lp _) ⟨by simp only []; omega, by simp only []; omega⟩ (.cons rfl (by first | rfl | exact inte (by omega) | (simp; done) | (simp <;> omega) | simp [*]) (.cons rfl (by first | rfl | exact inte (by omega) | (simp; done) | (simp <;> omega) | simp [*]) (.cons rfl (by first | rfl | exact inte (by omega) | (simp; done) | (simp <;> omega) | simp [*]) (.cons rfl (by first | rfl | exact inte (by omega) | (simp; done) | (simp <;> omega) | simp [*]) (.cons rfl (by first | rfl | exact inte (by omega) | (simp; done) | (simp <;> omega) | simp [*]) (.cons rfl (by first | rfl | exact inte (by omega) | (simp; done) | (simp <;> omega) | simp [*]) (.cons rfl (by first | rfl | exact inte (by omega) | (simp; done) | (simp <;> omega) | simp [*]) (.nil _)))))))) (by repeat (first | exact Ent.nil _ | exact Ent.refl _ | (refine Ent.pick (by repeat (first | exact Pick.here | apply Pick.there)) ?_) | refine Ent.skip ?_))
            · try simp only [Bool.and_eq_true, Bool.or_eq_true, Bool.not_eq_true', Bool.and_eq_false_iff, Bool.or_eq_false_iff, Bool.not_eq_false', decide_eq_true_eq, decide_eq_false_iff_not, Bool.not_eq_eq_eq_not, Bool.not_true, Bool.not_false, Bool.not_eq_true, Bool.not_eq_false, beq_iff_eq, bne_iff_ne, ne_eq, Decidable.not_not] at h5
              refine c_skip ?_
              refine k_blk_n ?_
              refine k_then_n ?_
              refine c_region ?_
              refine l_step (s_q rfl wn (q_move rfl) ?_)
              refine l_step (s_q rfl wn (q_add rfl rfl (by omega) (by omega)) ?_)
              refine l_step (s_q rfl wn (q_assign rfl) ?_)
              refine l_nil ?_
              refine k_then_n ?_
              exact t_next (⟨z.d + 1, z.a1, z.c1, none, 0, none, 0⟩ : Lp _) ⟨⟨by simp only []; omega, not_take_succI (by omega) hz2 h5⟩, by simp only []; omega⟩ (.cons rfl (by first | rfl | exact inte (by omega) | (simp; done) | (simp <;> omega) | simp [*]) (.cons rfl (by first | rfl | exact inte (by omega) | (simp; done) | (simp <;> omega) | simp [*]) (.cons rfl (by first | rfl | exact inte (by omega) | (simp; done) | (simp <;> omega) | simp [*]) (.cons rfl (by first | rfl | exact inte (by omega) | (simp; done) | (simp <;> omega) | simp [*]) (.cons rfl (by first | rfl | exact inte (by omega) | (simp; done) | (simp <;> omega) | simp [*]) (.cons rfl (by first | rfl | exact inte (by omega) | (simp; done) | (simp <;> omega) | simp [*]) (.cons rfl (by first | rfl | exact inte (by omega) | (simp; done) | (simp <;> omega) | simp [*]) (.cons rfl (by first | rfl | exact inte (by omega) | (simp; done) | (simp <;> omega) | simp [*]) (.cons rfl (by first | rfl | exact inte (by omega) | (simp; done) | (simp <;> omega) | simp [*]) (.cons rfl (by first | rfl | exact inte (by omega) | (simp; done) | (simp <;> omega) | simp [*]) (.cons rfl (by first | rfl | exact inte (by omega) | (simp; done) | (simp <;> omega) | simp [*]) (.cons rfl (by first | rfl | exact inte (by omega) | (simp; done) | (simp <;> omega) | simp [*]) (.nil _))))))))))))) (by repeat (first | exact Ent.nil _ | exact Ent.refl _ | (refine Ent.pick (by repeat (first | exact Pick.here | apply Pick.there)) ?_) | refine Ent.skip ?_))
          · try simp only [Bool.and_eq_true, Bool.or_eq_true, Bool.not_eq_true', Bool.and_eq_false_iff, Bool.or_eq_false_iff, Bool.not_eq_false', decide_eq_true_eq, decide_eq_false_iff_not, Bool.not_eq_eq_eq_not, Bool.not_true, Bool.not_false, Bool.not_eq_true, Bool.not_eq_false, beq_iff_eq, bne_iff_ne, ne_eq, Decidable.not_not] at h4
            refine c_exit ?_
            refine k_then_x ?_
            refine k_then_x ?_
            refine k_blk_x ?_
            refine k_blk_n ?_
            refine k_then_n ?_
            refine c_region ?_
            refine l_step (s_q rfl wn (q_move rfl) ?_)
            refine l_step (s_q rfl wn (q_add rfl rfl (by omega) (by omega)) ?_)
            refine l_step (s_q rfl wn (q_assign rfl) ?_)
            refine l_nil ?_
            refine k_then_n ?_
            have hv5 : ((ms.take (y.d + 1)).filter (inV c.Voters.xs)) = ((ms.take y.d).filter (inV c.Voters.xs)) := voters_no (by omega) (by rw [show z.d = c.Voters.xs.length from by omega, List.take_length] at hz2; exact hz2)
            rw [← hv5]
            exact t_next (⟨y.d + 1, z.a1, z.c1, none, 0, none, 0⟩ : Lp _) ⟨by simp only []; omega, by simp only []; omega⟩ (.cons rfl (by first | rfl | exact inte (by omega) | (simp; done) | (simp <;> omega) | simp [*]) (.cons rfl (by first | rfl | exact inte (by omega) | (simp; done) | (simp <;> omega) | simp [*]) (.cons rfl (by first | rfl | exact inte (by omega) | (simp; done) | (simp <;> omega) | simp [*]) (.cons rfl (by first | rfl | exact inte (by omega) | (simp; done) | (simp <;> omega) | simp [*]) (.cons rfl (by first | rfl | exact inte (by omega) | (simp; done) | (simp <;> omega) | simp [*]) (.cons rfl (by first | rfl | exact inte (by omega) | (simp; done) | (simp <;> omega) | simp [*]) (.cons rfl (by first | rfl | exact inte (by omega) | (simp; done) | (simp <;> omega) | simp [*]) (.nil _)))))))) (by repeat (first | exact Ent.nil _ | exact Ent.refl _ | (refine Ent.pick (by repeat (first | exact Pick.here | apply Pick.there)) ?_) | refine Ent.skip ?_))
        · try simp only [Bool.and_eq_true, Bool.or_eq_true, Bool.not_eq_true', Bool.and_eq_false_iff, Bool.or_eq_false_iff, Bool.not_eq_false', decide_eq_true_eq, decide_eq_false_iff_not, Bool.not_eq_eq_eq_not, Bool.not_true, Bool.not_false, Bool.not_eq_true, Bool.not_eq_false, beq_iff_eq, bne_iff_ne, ne_eq, Decidable.not_not] at h3
          have hk3 : y.d = ms.length := by omega
          have hfv : ((ms.take y.d).filter (inV c.Voters.xs)) = ms.filter (inV c.Voters.xs) := by rw [hk3, List.take_length]
          rw [hfv]
          refine c_exit ?_
          refine k_then_x ?_
          refine k_then_x ?_
          refine k_blk_x ?_
          refine k_then_n ?_
          refine c_seq ?_
          refine c_region ?_
          refine l_step (s_q rfl wn (q_loadpa (vs := encConf c) ag_60 rfl (by repeat (first | exact Pick.here | apply Pick.there)) rfl) ?_)
          refine l_step (s_q rfl wn (q_move rfl) ?_)
          refine l_step (s_fnq rfl wn Try.func24 rfl (by kernel_rfl) rfl (fun ρ' hL => commit_spec c x.a1 ms_n x.c1 ms.reverse (by first | rfl | assumption | (simp; done) | (simp <;> omega) | omega) ρ' (by first | assumption | omega) (by first | exact hL.ro (by assumption) | exact hL.row (by repeat (first | exact Pick.here | apply Pick.there)) | assumption) (by first | exact hL.ro (by assumption) | exact hL.row (by repeat (first | exact Pick.here | apply Pick.there)) | assumption)) ?_)
          refine l_step (s_q rfl wn (q_move rfl) ?_)
          refine l_step (s_q rfl wn (q_eql rfl rfl) ?_)
          refine l_step (s_q rfl wn (q_move rfl) ?_)
          refine l_step (s_qg rfl (ask_t rfl rfl) (b := (decide ((commitF c.Voters.xs ms.reverse) = (commitF c.Voters.xs ms)))) (fun hb => q_loadpa (vs := encConf c) ag_60 rfl (by repeat (first | exact Pick.here | apply Pick.there)) rfl) ?_)
          refine l_step (s_qg rfl (ask_t rfl rfl) (b := (decide ((commitF c.Voters.xs ms.reverse) = (commitF c.Voters.xs ms)))) (fun hb => q_move rfl) ?_)
          refine l_step (s_fnqg (b := (decide ((commitF c.Voters.xs ms.reverse) = (commitF c.Voters.xs ms)))) rfl (ask_t rfl rfl) Try.func24 rfl (by kernel_rfl) (fun hb => (.cons rfl (gd_t hb) (.cons rfl (gd_t hb) (.nil _)) : EnvLe [(105, .agg (encConf c).toArray), (106, .slice y.a1 ((ms.filter (inV c.Voters.xs)).length) y.c1)] _)) rfl (fun hb ρ' hL => commit_spec c y.a1 ((ms.filter (inV c.Voters.xs)).length) y.c1 (ms.filter (inV c.Voters.xs)) (by first | rfl | assumption | (simp; done) | (simp <;> omega) | omega) ρ' (by first | assumption | omega) (by first | exact hL.ro (by assumption) | exact hL.row (by repeat (first | exact Pick.here | apply Pick.there)) | assumption) (by first | exact hL.ro (by assumption) | exact hL.row (by repeat (first | exact Pick.here | apply Pick.there)) | assumption)) ?_)
          refine l_step (s_qg rfl (ask_t rfl rfl) (b := (decide ((commitF c.Voters.xs ms.reverse) = (commitF c.Voters.xs ms)))) (fun hb => q_move rfl) ?_)
          refine l_step (s_qg rfl (ask_t rfl rfl) (b := (decide ((commitF c.Voters.xs ms.reverse) = (commitF c.Voters.xs ms)))) (fun hb => OpQ.env (.cons rfl (gd_t hb) (.cons rfl (gd_t hb) (.nil _)) : EnvLe [(107, .int .i64 (commitF c.Voters.xs (ms.filter (inV c.Voters.xs)))), (108, .int .i64 (commitF c.Voters.xs ms))] _) (q_eql rfl rfl)) ?_)
          refine l_step (s_q rfl wn (q_pick_and rfl rfl rfl (fun h => h)) ?_)
          refine l_step (s_q rfl wn (q_assign rfl) ?_)
          refine l_nil ?_
          refine k_then_n ?_
          refine c_ret ?_
          exact t_ret [] rfl (.tmp rfl .nil) rfl (Hp.le_refl _) ⟨rfl, boole (by rw [commit_rev, commit_voters]; simp), rfl⟩ (by (repeat refine Ent.skip ?_); exact Ent.refl _)
end Go.Tly.H

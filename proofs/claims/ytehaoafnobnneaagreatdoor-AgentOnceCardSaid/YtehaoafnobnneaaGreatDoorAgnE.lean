/-
  Walked.
-/
import Derived.Test.YtehaoafnobnneaaGreatDoorAgnD
import Derived.Test.YtehaoafnobnneaaGreatDoorProg
set_option maxRecDepth 100000
set_option maxHeartbeats 4000000
set_option linter.unusedSimpArgs false
set_option linter.unusedVariables false
namespace Go.Agn
open Go Go.SL Go.Proofs Go.Mou Go.Dsk Go.Hrd
attribute [local irreducible] Go.SL.Ent
theorem zc_69 : zeroCs Tryz.prog 69 = some [.int .i64 0, .int .i64 0, .int .i64 0, .int .i64 0] := by kernel_rfl
theorem pl_69 : placesOf Tryz.prog 69 = some [(0, 1), (1, 1), (2, 1), (3, 1)] := by kernel_rfl

theorem awake_spec  (ρ : Hp) : Spec0 Tryz.prog 26 #[] ρ [] (fun v Γ' => v = .bool (true) ∧ Γ' = []) := by
  refine spec_of (n := 91) (vs := []) (σ := []) Tryz.func26 rfl rfl rfl rfl fun E Δ => ?_
  rw [List.nil_append]
  refine sr ?_
  refine e_as rfl ?_
  refine l_n ?_
  refine sr ?_
  refine e_fn Tryz.func27 rfl sl_ (fun ρ' hL => Go.Dsk.X.new_spec 1000 ρ') ?_
  rintro _ _ hnew
  obtain ⟨bD, mbD, rfl, rfl⟩ := or_yes hnew (by omega)
  try simp only [List.cons_append, List.nil_append]
  have hG0 : AI (vw []) zKept1 := ai_nil
  refine e_mv rfl ?_
  refine e_q (q_extract rfl rfl) ?_
  refine e_q (q_extract rfl rfl) ?_
  refine e_as rfl ?_
  refine e_as rfl ?_
  refine l_n ?_
  refine sr ?_
  refine e_mv rfl ?_
  refine e_fn Tryz.func28 rfl sl_ (fun ρ' hL => open__spec bD 1000 mbD (-1) [] 7 2 ρ' rfl hG0.fok (by decide) (by decide) (by decide)) ?_
  rintro _ _ ⟨aA, kaA, maA, T0, rfl, hsc, hvT0, rfl⟩
  try simp only [List.cons_append, List.nil_append]
  obtain ⟨rfl, hoT0⟩ := hG0.scan hsc
  have hG1 : AI (vw T0) zKept1 := by rw [hvT0, hoT0]; exact hG0
  refine e_mv rfl ?_
  refine e_q (q_extract rfl rfl) ?_
  refine e_q (q_extract rfl rfl) ?_
  refine e_as rfl ?_
  refine e_as rfl ?_
  refine l_n ?_
  refine c_seq ?_
  refine sr ?_
  refine e_mv rfl ?_
  refine e_q (by first | exact q_eqlp rfl rfl Tryz.underlying64 | exact q_eqlp0 rfl rfl Tryz.underlying64) ?_
  refine e_mv rfl ?_
  refine e_qw (wy rfl rfl rfl) (q_move rfl) ?_
  refine e_qw (wy rfl rfl rfl) (q_neq rfl rfl) ?_
  refine e_q (q_pick rfl rfl rfl) ?_
  refine l_n ?_
  refine c_sure false rfl (by rfl) ?_
  simp only [Bool.false_eq_true, if_true, if_false]
  refine c_skip ?_
  refine k_then_n ?_
  refine sr ?_
  refine e_q (q_build (cs := encOrder1 (⟨3, 1, 7, 1⟩ : Order1)) zc_69 pl_69 rfl rfl) ?_
  refine e_s (s_allocz (cs := encOrder1 zOrder1) (by kernel_rfl)) ?_
  rintro _ _ ⟨b5, rfl, rfl⟩
  refine l_step (s_s0 wn (s_storep (ws := encOrder1 (⟨3, 1, 7, 1⟩ : Order1)) (cs := encOrder1 zOrder1) (cs' := encOrder1 (⟨3, 1, 7, 1⟩ : Order1)) rfl rfl rfl sz_69 (oneOrder1 _) (by simp [encOrder1, encOrder1]) rfl pk_) ?_)
  rintro _ _ ⟨rfl, rfl⟩
  refine l_n ?_
  refine sr ?_
  refine e_mv rfl ?_
  refine e_q (q_loadpa (vs := encOrder1 (⟨3, 1, 7, 1⟩ : Order1)) ag_69 rfl pk_ rfl) ?_
  refine e_s (s_buildSlice (cs := ([(⟨3, 1, 7, 1⟩ : Order1)] : List Order1).flatMap encOrder1) Tryz.underlying72 eo_69 rfl rfl rfl rfl (by decide) (by decide)) ?_
  rintro _ _ ⟨b31, rfl, rfl⟩
  refine e_fn Tryz.func29 rfl sl_ (fun ρ' hL => Hear_spec bD 1000 mbD (-1) T0 aA zKept1 7 2 0 false (some ⟨b31, 0, none⟩) 1 (⟨3, 1, 7, 1⟩ : Order1) ρ' (hL.row pk_) hG1.fok (by have h9 := hG1.usd; omega) (by decide) (by decide) (by have h9 := hG1.usd; omega) hG1.kk) ?_
  rintro _ _ ⟨T1, rfl, hvT1, rfl⟩
  try simp only [List.cons_append, List.nil_append]
  obtain ⟨VT1, heT1, hqT1⟩ := hear_fine (room := 1000) (w := 0) (o := (⟨3, 1, 7, 1⟩ : Order1)) (cl := 7) hG1 (by decide) rfl (by decide) rfl
  rw [heT1] at hvT1
  rw [heT1]
  have hG2 : AI (vw T1) (hearK zKept1 (⟨3, 1, 7, 1⟩ : Order1)) := by rw [hvT1]; exact hqT1
  refine e_mv rfl ?_
  refine l_step (s_fnr rfl wn Tryz.func31 rfl (by kernel_rfl) rfl sl_ (fun ρ' hL => busy_spec aA (hearK zKept1 (⟨3, 1, 7, 1⟩ : Order1)) 7 2 0 false bD ρ') ?_)
  refine e_as rfl ?_
  refine e_as rfl ?_
  refine l_n ?_
  refine sr ?_
  refine e_mv rfl ?_
  refine e_q (q_loadpa (vs := encOrder1 (⟨3, 1, 7, 1⟩ : Order1)) ag_69 rfl pk_ rfl) ?_
  refine e_s (s_buildSlice (cs := ([(⟨3, 1, 7, 1⟩ : Order1)] : List Order1).flatMap encOrder1) Tryz.underlying72 eo_69 rfl rfl rfl rfl (by decide) (by decide)) ?_
  rintro _ _ ⟨b37, rfl, rfl⟩
  refine e_fn Tryz.func29 rfl sl_ (fun ρ' hL => Hear_spec bD 1000 mbD (-1) T1 aA (hearK zKept1 (⟨3, 1, 7, 1⟩ : Order1)) 7 2 0 false (some ⟨b37, 0, none⟩) 1 (⟨3, 1, 7, 1⟩ : Order1) ρ' (hL.row pk_) hG2.fok (by have h9 := hG2.usd; omega) (by decide) (by decide) (by have h9 := hG2.usd; omega) hG2.kk) ?_
  rintro _ _ ⟨T2, rfl, hvT2, rfl⟩
  try simp only [List.cons_append, List.nil_append]
  have heT2 := hear_may (room := 1000) (calls := -1) (V := vw T1) (k := (hearK zKept1 (⟨3, 1, 7, 1⟩ : Order1))) (w := 0) (o := (⟨3, 1, 7, 1⟩ : Order1)) (cl := 7) (e := 131) rfl (by decide) (by decide)
  rw [heT2] at hvT2
  rw [heT2]
  have hG3 : AI (vw T2) (hearK zKept1 (⟨3, 1, 7, 1⟩ : Order1)) := by rw [hvT2]; exact hG2
  refine e_as rfl ?_
  refine l_n ?_
  refine sr ?_
  refine e_mv rfl ?_
  refine e_fn Tryz.func30 rfl sl_ (fun ρ' hL => tick_spec bD 1000 mbD (-1) T2 aA (hearK zKept1 (⟨3, 1, 7, 1⟩ : Order1)) 7 2 0 false ρ' hG3.fok (by have h9 := hG3.usd; omega) (by decide) (by decide) (by have h9 := hG3.usd; omega) hG3.kk (by decide) (by decide)) ?_
  rintro _ _ ⟨T3, rfl, hvT3, rfl⟩
  try simp only [List.cons_append, List.nil_append]
  have heT3 := tick_wait (room := 1000) (calls := -1) (V := vw T2) (k := (hearK zKept1 (⟨3, 1, 7, 1⟩ : Order1))) (w := 0) (work := 2) (by decide) (by decide)
  rw [heT3] at hvT3
  rw [heT3]
  have hG4 : AI (vw T3) (hearK zKept1 (⟨3, 1, 7, 1⟩ : Order1)) := by rw [hvT3]; exact hG3
  refine e_mv rfl ?_
  refine e_fn Tryz.func30 rfl sl_ (fun ρ' hL => tick_spec bD 1000 mbD (-1) T3 aA (hearK zKept1 (⟨3, 1, 7, 1⟩ : Order1)) 7 2 (0 + 1) false ρ' hG4.fok (by have h9 := hG4.usd; omega) (by decide) (by decide) (by have h9 := hG4.usd; omega) hG4.kk (by decide) (by decide)) ?_
  rintro _ _ ⟨T4, rfl, hvT4, rfl⟩
  try simp only [List.cons_append, List.nil_append]
  obtain ⟨VT4, heT4, hqT4⟩ := tick_fine (room := 1000) (w := (0 + 1)) (work := 2) hG4 (by decide) (by decide) (by decide)
  rw [heT4] at hvT4
  rw [heT4]
  have hG5 : AI (vw T4) (tickK (hearK zKept1 (⟨3, 1, 7, 1⟩ : Order1))) := by rw [hvT4]; exact hqT4
  refine e_as rfl ?_
  refine e_as rfl ?_
  refine l_n ?_
  refine sr ?_
  refine e_mv rfl ?_
  refine e_q (q_loadpa (vs := encOrder1 (⟨3, 1, 7, 1⟩ : Order1)) ag_69 rfl pk_ rfl) ?_
  refine e_s (s_buildSlice (cs := ([(⟨3, 1, 7, 1⟩ : Order1)] : List Order1).flatMap encOrder1) Tryz.underlying72 eo_69 rfl rfl rfl rfl (by decide) (by decide)) ?_
  rintro _ _ ⟨b45, rfl, rfl⟩
  refine e_fn Tryz.func29 rfl sl_ (fun ρ' hL => Hear_spec bD 1000 mbD (-1) T4 aA (tickK (hearK zKept1 (⟨3, 1, 7, 1⟩ : Order1))) 7 2 ((0 + 1) + 1) false (some ⟨b45, 0, none⟩) 1 (⟨3, 1, 7, 1⟩ : Order1) ρ' (hL.row pk_) hG5.fok (by have h9 := hG5.usd; omega) (by decide) (by decide) (by have h9 := hG5.usd; omega) hG5.kk) ?_
  rintro _ _ ⟨T5, rfl, hvT5, rfl⟩
  try simp only [List.cons_append, List.nil_append]
  have heT5 := hear_may (room := 1000) (calls := -1) (V := vw T4) (k := (tickK (hearK zKept1 (⟨3, 1, 7, 1⟩ : Order1)))) (w := ((0 + 1) + 1)) (o := (⟨3, 1, 7, 1⟩ : Order1)) (cl := 7) (e := 131) rfl (by decide) (by decide)
  rw [heT5] at hvT5
  rw [heT5]
  have hG6 : AI (vw T5) (tickK (hearK zKept1 (⟨3, 1, 7, 1⟩ : Order1))) := by rw [hvT5]; exact hG5
  refine e_mv rfl ?_
  refine e_q (q_build (cs := encOrder1 (⟨2, 1, 7, 0⟩ : Order1)) zc_69 pl_69 rfl rfl) ?_
  refine e_s (s_buildSlice (cs := ([(⟨2, 1, 7, 0⟩ : Order1)] : List Order1).flatMap encOrder1) Tryz.underlying72 eo_69 rfl rfl rfl rfl (by decide) (by decide)) ?_
  rintro _ _ ⟨b49, rfl, rfl⟩
  refine e_fn Tryz.func29 rfl sl_ (fun ρ' hL => Hear_spec bD 1000 mbD (-1) T5 aA (tickK (hearK zKept1 (⟨3, 1, 7, 1⟩ : Order1))) 7 2 ((0 + 1) + 1) false (some ⟨b49, 0, none⟩) 1 (⟨2, 1, 7, 0⟩ : Order1) ρ' (hL.row pk_) hG6.fok (by have h9 := hG6.usd; omega) (by decide) (by decide) (by have h9 := hG6.usd; omega) hG6.kk) ?_
  rintro _ _ ⟨T6, rfl, hvT6, rfl⟩
  try simp only [List.cons_append, List.nil_append]
  have heT6 := hear_may (room := 1000) (calls := -1) (V := vw T5) (k := (tickK (hearK zKept1 (⟨3, 1, 7, 1⟩ : Order1)))) (w := ((0 + 1) + 1)) (o := (⟨2, 1, 7, 0⟩ : Order1)) (cl := 7) (e := 70) rfl (by decide) (by decide)
  rw [heT6] at hvT6
  rw [heT6]
  have hG7 : AI (vw T6) (tickK (hearK zKept1 (⟨3, 1, 7, 1⟩ : Order1))) := by rw [hvT6]; exact hG6
  refine e_as rfl ?_
  refine e_as rfl ?_
  refine l_n ?_
  refine sr ?_
  refine e_mv rfl ?_
  refine e_q (q_eql rfl rfl) ?_
  refine e_mv rfl ?_
  refine l_step (s_qg rfl (ask_t rfl rfl) (b := (decide (0 = 0))) (fun hb => q_move rfl) ?_)
  refine l_step (s_qg rfl (ask_t rfl rfl) (b := (decide (0 = 0))) (fun hb => OpQ.env (.cons rfl (gd_t hb) (.nil _) : EnvLe [(54, .int .i64 ((hearK zKept1 (⟨3, 1, 7, 1⟩ : Order1)).at_))] _) (q_eql rfl rfl)) ?_)
  refine e_q (q_pick_and rfl rfl rfl (fun h => h)) ?_
  refine e_mv rfl ?_
  refine l_step (s_qg rfl (ask_t rfl rfl) (b := ((decide (0 = 0)) && (decide (((hearK zKept1 (⟨3, 1, 7, 1⟩ : Order1)).at_) = 3)))) (fun hb => q_move rfl) ?_)
  refine l_step (s_qg rfl (ask_t rfl rfl) (b := ((decide (0 = 0)) && (decide (((hearK zKept1 (⟨3, 1, 7, 1⟩ : Order1)).at_) = 3)))) (fun hb => OpQ.env (.cons rfl (gd_t hb) (.nil _) : EnvLe [(58, .int .i64 131)] _) (q_eql rfl rfl)) ?_)
  refine e_q (q_pick_and rfl rfl rfl (fun h => h)) ?_
  refine e_mv rfl ?_
  refine l_step (s_qg rfl (ask_t rfl rfl) (b := (((decide (0 = 0)) && (decide (((hearK zKept1 (⟨3, 1, 7, 1⟩ : Order1)).at_) = 3))) && (decide (131 = 131)))) (fun hb => q_move rfl) ?_)
  refine l_step (s_qg rfl (ask_t rfl rfl) (b := (((decide (0 = 0)) && (decide (((hearK zKept1 (⟨3, 1, 7, 1⟩ : Order1)).at_) = 3))) && (decide (131 = 131)))) (fun hb => OpQ.env (.cons rfl (gd_t hb) (.nil _) : EnvLe [(62, .bool false)] _) (q_not rfl)) ?_)
  refine e_q (q_pick_and rfl rfl rfl (fun h => h)) ?_
  refine e_mv rfl ?_
  refine l_step (s_qg rfl (ask_t rfl rfl) (b := ((((decide (0 = 0)) && (decide (((hearK zKept1 (⟨3, 1, 7, 1⟩ : Order1)).at_) = 3))) && (decide (131 = 131))) && true)) (fun hb => q_move rfl) ?_)
  refine e_q (q_pick_and rfl rfl rfl (fun h => h)) ?_
  refine e_mv rfl ?_
  refine Tr.env (.cons (t := 68) (v := .bool true) rfl (congrArg Value.bool (by rfl)) (EnvLe.refl _)) ?_
  refine e_qw (wy rfl rfl rfl) (q_move rfl) ?_
  refine l_step (s_fnr rfl (wy rfl rfl rfl) Tryz.func32 rfl (by kernel_rfl) rfl sl_ (fun ρ' hL => version_spec aA (tickK (hearK zKept1 (⟨3, 1, 7, 1⟩ : Order1))) 7 2 ((0 + 1) + 1) false bD ρ') ?_)
  refine e_qw (wy rfl rfl rfl) (q_eql rfl rfl) ?_
  refine e_q (q_pick rfl rfl rfl) ?_
  refine e_mv rfl ?_
  refine Tr.env (.cons (t := 73) (v := .bool true) rfl (congrArg Value.bool (by rfl)) (EnvLe.refl _)) ?_
  refine e_qw (wy rfl rfl rfl) (q_move rfl) ?_
  refine l_step (s_fnr rfl (wy rfl rfl rfl) Tryz.func33 rfl (by kernel_rfl) rfl sl_ (fun ρ' hL => done_spec aA (tickK (hearK zKept1 (⟨3, 1, 7, 1⟩ : Order1))) 7 2 ((0 + 1) + 1) false bD ρ') ?_)
  refine e_qw (wy rfl rfl rfl) (q_eql rfl rfl) ?_
  refine e_q (q_pick rfl rfl rfl) ?_
  refine e_mv rfl ?_
  refine Tr.env (.cons (t := 78) (v := .bool true) rfl (congrArg Value.bool (by rfl)) (EnvLe.refl _)) ?_
  refine e_qw (wy rfl rfl rfl) (q_move rfl) ?_
  refine l_step (s_fnr rfl (wy rfl rfl rfl) Tryz.func31 rfl (by kernel_rfl) rfl sl_ (fun ρ' hL => busy_spec aA (tickK (hearK zKept1 (⟨3, 1, 7, 1⟩ : Order1))) 7 2 ((0 + 1) + 1) false bD ρ') ?_)
  refine e_qw (wy rfl rfl rfl) (q_eql rfl rfl) ?_
  refine e_q (q_pick rfl rfl rfl) ?_
  refine e_mv rfl ?_
  refine l_step (s_qg rfl (ask_t rfl rfl) (b := (decide (((tickK (hearK zKept1 (⟨3, 1, 7, 1⟩ : Order1))).at_) = 0))) (fun hb => q_move rfl) ?_)
  refine l_step (s_qg rfl (ask_t rfl rfl) (b := (decide (((tickK (hearK zKept1 (⟨3, 1, 7, 1⟩ : Order1))).at_) = 0))) (fun hb => OpQ.env (.cons rfl (gd_t hb) (.nil _) : EnvLe [(84, .int .i64 131)] _) (q_eql rfl rfl)) ?_)
  refine e_q (q_pick_and rfl rfl rfl (fun h => h)) ?_
  refine e_mv rfl ?_
  refine l_step (s_qg rfl (ask_t rfl rfl) (b := ((decide (((tickK (hearK zKept1 (⟨3, 1, 7, 1⟩ : Order1))).at_) = 0)) && (decide (131 = 131)))) (fun hb => q_move rfl) ?_)
  refine l_step (s_qg rfl (ask_t rfl rfl) (b := ((decide (((tickK (hearK zKept1 (⟨3, 1, 7, 1⟩ : Order1))).at_) = 0)) && (decide (131 = 131)))) (fun hb => OpQ.env (.cons rfl (gd_t hb) (.nil _) : EnvLe [(88, .int .i64 70)] _) (q_eql rfl rfl)) ?_)
  refine e_q (q_pick_and rfl rfl rfl (fun h => h)) ?_
  refine e_as rfl ?_
  refine l_n ?_
  refine c_ret ?_
  exact t_rt [] rfl (.tmp rfl .nil) rfl ⟨rfl, boole (by rfl), rfl⟩ (by (repeat refine Ent.skip ?_); exact Ent.refl _)

theorem works_spec (work : Int) (crash : Int) (version : Int) (ρ : Hp) : Spec0 Tryz.prog 7 #[.int .i64 work, .int .i64 crash, .int .i64 version] ρ [] (fun v Γ' => v = .bool (true) ∧ Γ' = []) := by
  refine spec_of (n := 133) (vs := [_, _, _]) (σ := [(0, _), (1, _), (2, _)]) Tryz.func7 rfl rfl rfl rfl fun E Δ => ?_
  rw [List.nil_append]
  refine sr ?_
  refine e_as rfl ?_
  refine l_n ?_
  refine c_seq ?_
  refine sr ?_
  refine l_step (s_fnq rfl wn Tryz.func26 rfl (by kernel_rfl) rfl (fun ρ' hL => awake_spec ρ') ?_)
  refine e_q (q_not rfl) ?_
  refine l_n ?_
  refine c_no rfl ?_
  refine c_skip ?_
  refine k_then_n ?_
  refine sr ?_
  have m1 := Int.tmod_lt_of_pos work (show (0 : Int) < 50 by decide)
  have m2 := Int.lt_tmod_of_pos work (show (0 : Int) < 50 by decide)
  have m3 := Int.tmod_lt_of_pos version (show (0 : Int) < 1000 by decide)
  have m4 := Int.lt_tmod_of_pos version (show (0 : Int) < 1000 by decide)
  refine e_mv rfl ?_
  refine e_q (q_rem rfl rfl (by omega)) ?_
  refine e_q (q_add rfl rfl (by omega) (by omega)) ?_
  refine e_q (q_remp rfl rfl (by omega) (by omega)) ?_
  refine e_q (q_add rfl rfl (by omega) (by omega)) ?_
  refine e_mv rfl ?_
  refine e_q (q_rem rfl rfl (by omega)) ?_
  refine e_q (q_add rfl rfl (by omega) (by omega)) ?_
  refine e_q (q_remp rfl rfl (by omega) (by omega)) ?_
  refine e_as rfl ?_
  refine e_as rfl ?_
  refine l_n ?_
  refine sr ?_
  obtain ⟨wk, hwk⟩ : ∃ z, z = 1 + ((work.tmod 50) + 50) % 50 := ⟨_, rfl⟩
  obtain ⟨vv, hvv⟩ : ∃ z, z = ((version.tmod 1000) + 1000) % 1000 := ⟨_, rfl⟩
  rw [← hwk, ← hvv]
  have hw0 : 1 ≤ wk := by omega
  have hw1 : wk ≤ 50 := by omega
  have hv0 : 0 ≤ vv := by omega
  have hv1 : vv < 1000 := by omega
  clear hwk hvv
  have m5 := Int.tmod_lt_of_pos crash (show 0 < wk by omega)
  have m6 := Int.lt_tmod_of_pos crash (show 0 < wk by omega)
  refine e_mv rfl ?_
  refine e_mv rfl ?_
  refine e_q (q_rem rfl rfl (by omega)) ?_
  refine e_mv rfl ?_
  refine e_q (q_add rfl rfl (by omega) (by omega)) ?_
  refine e_mv rfl ?_
  refine e_q (q_remp rfl rfl (by omega) (by omega)) ?_
  refine e_as rfl ?_
  refine l_n ?_
  refine sr ?_
  have hc0 : 0 ≤ ((crash.tmod wk) + wk) % wk := Int.emod_nonneg _ (by omega)
  have hc1 : ((crash.tmod wk) + wk) % wk < wk := Int.emod_lt_of_pos _ (by omega)
  generalize ((crash.tmod wk) + wk) % wk = cc at hc0 hc1 ⊢
  refine e_fn Tryz.func27 rfl sl_ (fun ρ' hL => Go.Dsk.X.new_spec 1000 ρ') ?_
  rintro _ _ hnew
  obtain ⟨bD, mbD, rfl, rfl⟩ := or_yes hnew (by omega)
  try simp only [List.cons_append, List.nil_append]
  have hG0 : AI (vw []) zKept1 := ai_nil
  refine e_mv rfl ?_
  refine e_q (q_extract rfl rfl) ?_
  refine e_q (q_extract rfl rfl) ?_
  refine e_as rfl ?_
  refine e_as rfl ?_
  refine l_n ?_
  refine sr ?_
  refine e_mv rfl ?_
  refine e_mv rfl ?_
  refine e_fn Tryz.func28 rfl sl_ (fun ρ' hL => open__spec bD 1000 mbD (-1) [] 3 wk ρ' rfl hG0.fok (by decide) (by decide) hw0) ?_
  rintro _ _ ⟨aA, kaA, maA, T0, rfl, hsc, hvT0, rfl⟩
  try simp only [List.cons_append, List.nil_append]
  obtain ⟨rfl, hoT0⟩ := hG0.scan hsc
  have hG1 : AI (vw T0) zKept1 := by rw [hvT0, hoT0]; exact hG0
  refine e_mv rfl ?_
  refine e_q (q_extract rfl rfl) ?_
  refine e_q (q_extract rfl rfl) ?_
  refine e_as rfl ?_
  refine e_as rfl ?_
  refine l_n ?_
  refine c_seq ?_
  refine sr ?_
  refine e_mv rfl ?_
  refine e_q (by first | exact q_eqlp rfl rfl Tryz.underlying64 | exact q_eqlp0 rfl rfl Tryz.underlying64) ?_
  refine e_mv rfl ?_
  refine e_qw (wy rfl rfl rfl) (q_move rfl) ?_
  refine e_qw (wy rfl rfl rfl) (q_neq rfl rfl) ?_
  refine e_q (q_pick rfl rfl rfl) ?_
  refine e_mv rfl ?_
  refine Tr.env (.cons (t := 52) (v := .bool false) rfl (congrArg Value.bool (by rfl)) (EnvLe.refl _)) ?_
  refine e_qw (wy rfl rfl rfl) (q_move rfl) ?_
  refine e_qw (wy rfl rfl rfl) (q_move rfl) ?_
  refine e_qw (wy rfl rfl rfl) (q_build (cs := encOrder1 (⟨9, 2, 3, vv⟩ : Order1)) zc_69 pl_69 rfl rfl) ?_
  refine l_step (s_s rfl (wy rfl rfl rfl) (s_buildSlice (cs := ([(⟨9, 2, 3, vv⟩ : Order1)] : List Order1).flatMap encOrder1) Tryz.underlying72 eo_69 rfl rfl rfl rfl (by decide) (by decide)) ?_)
  rintro _ _ ⟨b56, rfl, rfl⟩
  refine e_fnw (wy rfl rfl rfl) Tryz.func29 rfl sl_ (fun ρ' hL => Hear_spec bD 1000 mbD (-1) T0 aA zKept1 3 wk 0 false (some ⟨b56, 0, none⟩) 1 (⟨9, 2, 3, vv⟩ : Order1) ρ' (hL.row pk_) hG1.fok (by have h9 := hG1.usd; omega) (by decide) (by decide) (by have h9 := hG1.usd; omega) hG1.kk) ?_
  rintro _ _ ⟨T1, rfl, hvT1, rfl⟩
  try simp only [List.cons_append, List.nil_append]
  obtain ⟨VT1, heT1, hqT1⟩ := hear_fine (room := 1000) (w := 0) (o := (⟨9, 2, 3, vv⟩ : Order1)) (cl := 3) hG1 (by decide) rfl (may_ok (by show (1 : Int) ≤ 9; decide) (by show (9 : Int) < _; decide) (by show (0 : Int) ≤ 2; decide) (by show (2 : Int) < _; decide) (by show (0 : Int) ≤ 3; decide) (by show (3 : Int) < _; decide) (by show 0 ≤ vv; omega) (by show vv < _; omega) (by show (0 : Int) < 9; decide) (by show (0 : Int) ≤ 2; decide)) rfl
  rw [heT1] at hvT1
  rw [heT1]
  have hG2 : AI (vw T1) (hearK zKept1 (⟨9, 2, 3, vv⟩ : Order1)) := by rw [hvT1]; exact hqT1
  refine e_qw (wy rfl rfl rfl) (q_neq rfl rfl) ?_
  refine e_q (q_pick rfl rfl rfl) ?_
  refine l_n ?_
  refine c_sure false rfl (by rfl) ?_
  simp only [Bool.false_eq_true, if_true, if_false]
  refine c_skip ?_
  refine k_then_n ?_
  refine c_seq ?_
  refine sr ?_
  refine e_as rfl ?_
  refine l_n ?_
  refine c_block ?_
  refine Tr.env (σ' := [(7, _), (8, _), (9, _), (10, _), (12, _), (14, _)]) ev_ ?_
  refine t_loop (ι := Lp (Nat × FT)) (fun x => (x.d.1 : Int) ≤ cc ∧ AI (vw x.d.2) (hearK zKept1 (⟨9, 2, 3, vv⟩ : Order1))) (fun x => (cc - x.d.1).toNat) (fun x => [(7, .int .i64 wk), (8, .int .i64 vv), (9, .int .i64 cc), (10, .pointer (some ⟨bD, 0, none⟩)), (12, .pointer (some ⟨aA, 0, none⟩)), (14, .int .i64 (x.d.1 : Int))]) (fun x => .row 69 4 (some ⟨b56, 0, none⟩) 1 1 ([(⟨9, 2, 3, vv⟩ : Order1)].flatMap encOrder1) :: .pts aA (encAgent1 (⟨(hearK zKept1 (⟨9, 2, 3, vv⟩ : Order1)), (some bD), 3, wk, (x.d.1 : Int), false⟩ : Agent1)) 81 :: .pts bD (encDisk1 (⟨1000, (some mbD), (-1)⟩ : Disk1)) 105 :: MP strB ptV mbD (fm x.d.2) :: FB 109 5 x.d.2 :: Δ) (⟨(0, T1), none, 0, none, 0, none, 0⟩ : Lp _) ⟨hc0, hG2⟩ ?_ ?_ ?_
  · exact .c (.c (.c (.c (.c (.c (.nil _))))))
  · exact en_
  intro x hx
  obtain ⟨hx1, hx2⟩ := hx
  refine c_seq ?_
  refine sr ?_
  refine e_mv rfl ?_
  refine e_mv rfl ?_
  refine e_q (q_lss rfl rfl) ?_
  refine l_n ?_
  refine c_cond rfl (fun h2 => ?_) (fun h2 => ?_)
  · try simp only [decide_eq_true_eq, decide_eq_false_iff_not] at h2
    refine c_skip ?_
    refine k_then_n ?_
    refine c_seq ?_
    refine c_block ?_
    refine sr ?_
    refine e_mv rfl ?_
    refine e_fn Tryz.func30 rfl sl_ (fun ρ' hL => tick_spec bD 1000 mbD (-1) x.d.2 aA (hearK zKept1 (⟨9, 2, 3, vv⟩ : Order1)) 3 wk (x.d.1 : Int) false ρ' hx2.fok (by have h9 := hx2.usd; omega) (by decide) (by decide) (by have h9 := hx2.usd; omega) hx2.kk (by omega) (by omega)) ?_
    rintro _ _ ⟨T2, rfl, hvT2, rfl⟩
    try simp only [List.cons_append, List.nil_append]
    have heT2 := tick_wait (room := 1000) (calls := -1) (V := vw x.d.2) (k := (hearK zKept1 (⟨9, 2, 3, vv⟩ : Order1))) (w := (x.d.1 : Int)) (work := wk) (by show (9 : Int) ≠ 0; decide) (by omega)
    rw [heT2] at hvT2
    rw [heT2]
    have hx3 : AI (vw T2) (hearK zKept1 (⟨9, 2, 3, vv⟩ : Order1)) := by rw [hvT2]; exact hx2
    refine e_mv rfl ?_
    refine e_qw (wy rfl rfl rfl) (q_move rfl) ?_
    refine l_step (s_fnr rfl (wy rfl rfl rfl) Tryz.func31 rfl (by kernel_rfl) rfl sl_ (fun ρ' hL => busy_spec aA (hearK zKept1 (⟨9, 2, 3, vv⟩ : Order1)) 3 wk ((x.d.1 : Int) + 1) false bD ρ') ?_)
    refine e_qw (wy rfl rfl rfl) (q_neq rfl rfl) ?_
    refine e_q (q_pick rfl rfl rfl) ?_
    refine l_n ?_
    refine c_sure false rfl (by rfl) ?_
    simp only [Bool.false_eq_true, if_true, if_false]
    refine c_skip ?_
    refine k_blk_n ?_
    refine k_then_n ?_
    refine c_region ?_
    refine e_mv rfl ?_
    refine e_q (q_add rfl rfl (by omega) (by omega)) ?_
    refine e_as rfl ?_
    refine l_n ?_
    rw [show ((x.d.1 : Int) + 1) = ((x.d.1 + 1 : Nat) : Int) from by omega]
    exact t_nx (⟨(x.d.1 + 1, T2), none, 0, none, 0, none, 0⟩ : Lp _) ⟨⟨by show ((x.d.1 + 1 : Nat) : Int) ≤ _; omega, hx3⟩, by show (cc - ((x.d.1 + 1 : Nat) : Int)).toNat < _; omega⟩ (.c (.c (.c (.c (.c (.c (.nil _)))))))
  · try simp only [decide_eq_true_eq, decide_eq_false_iff_not] at h2
    refine c_exit ?_
    refine k_then_x ?_
    refine k_then_x ?_
    refine k_blk_x ?_
    refine k_then_n ?_
    refine sr ?_
    refine e_mv rfl ?_
    refine e_fn Tryz.func18 rfl sl_ (fun ρ' hL => Go.Dsk.V.crash_spec bD 1000 mbD (-1) x.d.2 none 0 0 [] rfl ρ' hx2.fok (SL.ro_nil encI 1 ρ')) ?_
    rintro _ _ ⟨T3, rfl, hvT3, rfl⟩
    try simp only [List.cons_append, List.nil_append]
    generalize (crR [] (vw x.d.2)).2 = gT3
    refine l_n ?_
    refine sr ?_
    refine e_mv rfl ?_
    refine e_mv rfl ?_
    refine e_fn Tryz.func28 rfl sl_ (fun ρ' hL => open__spec bD 1000 mbD (-1) T3 3 wk ρ' rfl (fok_of hvT3 (vok_cr hx2.ok _)) (by decide) (by decide) hw0) ?_
    rintro _ _ ⟨aB, kaB, maB, T4, rfl, hsc, hvT4, rfl⟩
    try simp only [List.cons_append, List.nil_append]
    rw [hvT3] at hsc hvT4
    obtain ⟨rfl, hqT4⟩ := hx2.crash hsc
    have hG4 : AI (vw T4) (hearK zKept1 (⟨9, 2, 3, vv⟩ : Order1)) := by rw [hvT4]; exact hqT4
    refine e_mv rfl ?_
    refine e_q (q_extract rfl rfl) ?_
    refine e_q (q_extract rfl rfl) ?_
    refine e_as rfl ?_
    refine e_as rfl ?_
    refine l_n ?_
    refine c_seq ?_
    refine sr ?_
    refine e_mv rfl ?_
    refine e_q (by first | exact q_eqlp rfl rfl Tryz.underlying64 | exact q_eqlp0 rfl rfl Tryz.underlying64) ?_
    refine e_mv rfl ?_
    refine e_qw (wy rfl rfl rfl) (q_move rfl) ?_
    refine e_qw (wy rfl rfl rfl) (q_neq rfl rfl) ?_
    refine e_q (q_pick rfl rfl rfl) ?_
    refine e_mv rfl ?_
    refine Tr.env (.cons (t := 86) (v := .bool false) rfl (congrArg Value.bool (by rfl)) (EnvLe.refl _)) ?_
    refine e_qw (wy rfl rfl rfl) (q_move rfl) ?_
    refine l_step (s_fnr rfl (wy rfl rfl rfl) Tryz.func31 rfl (by kernel_rfl) rfl sl_ (fun ρ' hL => busy_spec aB (hearK zKept1 (⟨9, 2, 3, vv⟩ : Order1)) 3 wk 0 false bD ρ') ?_)
    refine e_qw (wy rfl rfl rfl) (q_neq rfl rfl) ?_
    refine e_q (q_pick rfl rfl rfl) ?_
    refine e_mv rfl ?_
    refine Tr.env (.cons (t := 91) (v := .bool false) rfl (congrArg Value.bool (by rfl)) (EnvLe.refl _)) ?_
    refine e_qw (wy rfl rfl rfl) (q_move rfl) ?_
    refine l_step (s_fnr rfl (wy rfl rfl rfl) Tryz.func32 rfl (by kernel_rfl) rfl sl_ (fun ρ' hL => version_spec aB (hearK zKept1 (⟨9, 2, 3, vv⟩ : Order1)) 3 wk 0 false bD ρ') ?_)
    refine e_qw (wy rfl rfl rfl) (q_neq rfl rfl) ?_
    refine e_q (q_pick rfl rfl rfl) ?_
    refine l_n ?_
    refine c_sure false rfl (by rfl) ?_
    simp only [Bool.false_eq_true, if_true, if_false]
    refine c_skip ?_
    refine k_then_n ?_
    refine c_seq ?_
    refine sr ?_
    refine e_as rfl ?_
    refine l_n ?_
    refine c_block ?_
    refine Tr.env (σ' := [(7, _), (8, _), (15, _), (17, _)]) ev_ ?_
    refine t_loop (ι := Lp (Nat × FT)) (fun y => (y.d.1 : Int) + 1 ≤ wk ∧ AI (vw y.d.2) (hearK zKept1 (⟨9, 2, 3, vv⟩ : Order1))) (fun y => (wk - y.d.1).toNat) (fun y => [(7, .int .i64 wk), (8, .int .i64 vv), (15, .pointer (some ⟨aB, 0, none⟩)), (17, .int .i64 ((y.d.1 : Int) + 1))]) (fun y => .pts aB (encAgent1 (⟨(hearK zKept1 (⟨9, 2, 3, vv⟩ : Order1)), (some bD), 3, wk, (y.d.1 : Int), false⟩ : Agent1)) 81 :: .row 69 4 (some ⟨b56, 0, none⟩) 1 1 ([(⟨9, 2, 3, vv⟩ : Order1)].flatMap encOrder1) :: .pts aA (encAgent1 (⟨(hearK zKept1 (⟨9, 2, 3, vv⟩ : Order1)), (some bD), 3, wk, (x.d.1 : Int), false⟩ : Agent1)) 81 :: .pts bD (encDisk1 (⟨1000, (some mbD), (-1)⟩ : Disk1)) 105 :: MP strB ptV mbD (fm y.d.2) :: FB 109 5 y.d.2 :: Δ) (⟨(0, T4), none, 0, none, 0, none, 0⟩ : Lp _) ⟨by show ((0 : Nat) : Int) + 1 ≤ wk; omega, hG4⟩ ?_ ?_ ?_
    · exact .c (.c (.c (.c (.nil _))))
    · exact en_
    intro y hy
    obtain ⟨hy1, hy2⟩ := hy
    refine c_seq ?_
    refine sr ?_
    refine e_mv rfl ?_
    refine e_mv rfl ?_
    refine e_q (q_lss rfl rfl) ?_
    refine l_n ?_
    refine c_cond rfl (fun h5 => ?_) (fun h5 => ?_)
    · try simp only [decide_eq_true_eq, decide_eq_false_iff_not] at h5
      refine c_skip ?_
      refine k_then_n ?_
      refine c_seq ?_
      refine c_block ?_
      refine sr ?_
      refine e_mv rfl ?_
      refine e_fn Tryz.func30 rfl sl_ (fun ρ' hL => tick_spec bD 1000 mbD (-1) y.d.2 aB (hearK zKept1 (⟨9, 2, 3, vv⟩ : Order1)) 3 wk (y.d.1 : Int) false ρ' hy2.fok (by have h9 := hy2.usd; omega) (by decide) (by decide) (by have h9 := hy2.usd; omega) hy2.kk (by omega) (by omega)) ?_
      rintro _ _ ⟨T5, rfl, hvT5, rfl⟩
      try simp only [List.cons_append, List.nil_append]
      have heT5 := tick_wait (room := 1000) (calls := -1) (V := vw y.d.2) (k := (hearK zKept1 (⟨9, 2, 3, vv⟩ : Order1))) (w := (y.d.1 : Int)) (work := wk) (by show (9 : Int) ≠ 0; decide) (by omega)
      rw [heT5] at hvT5
      rw [heT5]
      have hy3 : AI (vw T5) (hearK zKept1 (⟨9, 2, 3, vv⟩ : Order1)) := by rw [hvT5]; exact hy2
      refine l_n ?_
      refine c_no rfl ?_
      refine c_skip ?_
      refine k_blk_n ?_
      refine k_then_n ?_
      refine c_region ?_
      refine e_mv rfl ?_
      refine e_q (q_add rfl rfl (by omega) (by omega)) ?_
      refine e_as rfl ?_
      refine l_n ?_
      rw [show ((y.d.1 : Int) + 1) = ((y.d.1 + 1 : Nat) : Int) from by omega]
      exact t_nx (⟨(y.d.1 + 1, T5), none, 0, none, 0, none, 0⟩ : Lp _) ⟨⟨by show ((y.d.1 + 1 : Nat) : Int) + 1 ≤ _; omega, hy3⟩, by show (wk - ((y.d.1 + 1 : Nat) : Int)).toNat < _; omega⟩ (.c (.c (.c (.c (.nil _)))))
    · try simp only [decide_eq_true_eq, decide_eq_false_iff_not] at h5
      refine c_exit ?_
      refine k_then_x ?_
      refine k_then_x ?_
      refine k_blk_x ?_
      refine k_then_n ?_
      refine sr ?_
      refine e_mv rfl ?_
      refine e_fn Tryz.func30 rfl sl_ (fun ρ' hL => tick_spec bD 1000 mbD (-1) y.d.2 aB (hearK zKept1 (⟨9, 2, 3, vv⟩ : Order1)) 3 wk (y.d.1 : Int) false ρ' hy2.fok (by have h9 := hy2.usd; omega) (by decide) (by decide) (by have h9 := hy2.usd; omega) hy2.kk (by omega) (by omega)) ?_
      rintro _ _ ⟨T6, rfl, hvT6, rfl⟩
      try simp only [List.cons_append, List.nil_append]
      obtain ⟨VT6, heT6, hqT6⟩ := tick_fine (room := 1000) (w := (y.d.1 : Int)) (work := wk) hy2 (by decide) (by show (9 : Int) ≠ 0; decide) (by omega)
      rw [heT6] at hvT6
      rw [heT6]
      have hG6 : AI (vw T6) (tickK (hearK zKept1 (⟨9, 2, 3, vv⟩ : Order1))) := by rw [hvT6]; exact hqT6
      refine e_mv rfl ?_
      refine e_qw (wy rfl rfl rfl) (q_move rfl) ?_
      refine l_step (s_fnr rfl (wy rfl rfl rfl) Tryz.func32 rfl (by kernel_rfl) rfl sl_ (fun ρ' hL => version_spec aB (tickK (hearK zKept1 (⟨9, 2, 3, vv⟩ : Order1))) 3 wk ((y.d.1 : Int) + 1) false bD ρ') ?_)
      refine e_qw (wy rfl rfl rfl) (q_move rfl) ?_
      refine e_qw (wy rfl rfl rfl) (q_eql rfl rfl) ?_
      refine e_q (q_pick rfl rfl rfl) ?_
      refine e_mv rfl ?_
      refine Tr.env (.cons (t := 111) (v := .bool true) rfl (congrArg Value.bool (decide_eq_true rfl)) (EnvLe.refl _)) ?_
      refine e_qw (wy rfl rfl rfl) (q_move rfl) ?_
      refine l_step (s_fnr rfl (wy rfl rfl rfl) Tryz.func33 rfl (by kernel_rfl) rfl sl_ (fun ρ' hL => done_spec aB (tickK (hearK zKept1 (⟨9, 2, 3, vv⟩ : Order1))) 3 wk ((y.d.1 : Int) + 1) false bD ρ') ?_)
      refine e_qw (wy rfl rfl rfl) (q_eql rfl rfl) ?_
      refine e_q (q_pick rfl rfl rfl) ?_
      refine e_mv rfl ?_
      refine Tr.env (.cons (t := 116) (v := .bool true) rfl (congrArg Value.bool (by rfl)) (EnvLe.refl _)) ?_
      refine e_qw (wy rfl rfl rfl) (q_move rfl) ?_
      refine l_step (s_fnr rfl (wy rfl rfl rfl) Tryz.func31 rfl (by kernel_rfl) rfl sl_ (fun ρ' hL => busy_spec aB (tickK (hearK zKept1 (⟨9, 2, 3, vv⟩ : Order1))) 3 wk ((y.d.1 : Int) + 1) false bD ρ') ?_)
      refine e_qw (wy rfl rfl rfl) (q_eql rfl rfl) ?_
      refine e_q (q_pick rfl rfl rfl) ?_
      refine e_mv rfl ?_
      refine Tr.env (.cons (t := 121) (v := .bool true) rfl (congrArg Value.bool (by rfl)) (EnvLe.refl _)) ?_
      refine e_qw (wy rfl rfl rfl) (q_move rfl) ?_
      refine e_fnw (wy rfl rfl rfl) Tryz.func30 rfl sl_ (fun ρ' hL => tick_spec bD 1000 mbD (-1) T6 aB (tickK (hearK zKept1 (⟨9, 2, 3, vv⟩ : Order1))) 3 wk ((y.d.1 : Int) + 1) false ρ' hG6.fok (by have h9 := hG6.usd; omega) (by decide) (by decide) (by have h9 := hG6.usd; omega) hG6.kk (by omega) (by omega)) ?_
      rintro _ _ ⟨T7, rfl, hvT7, rfl⟩
      try simp only [List.cons_append, List.nil_append]
      have heT7 := tick_idle (room := 1000) (calls := -1) (V := vw T6) (k := (tickK (hearK zKept1 (⟨9, 2, 3, vv⟩ : Order1)))) (w := ((y.d.1 : Int) + 1)) (work := wk) (dn := false) rfl
      rw [heT7] at hvT7
      rw [heT7]
      have hG7 : AI (vw T7) (tickK (hearK zKept1 (⟨9, 2, 3, vv⟩ : Order1))) := by rw [hvT7]; exact hG6
      refine e_qw (wy rfl rfl rfl) (q_not rfl) ?_
      refine e_q (q_pick rfl rfl rfl) ?_
      refine e_mv rfl ?_
      refine e_qw (wy rfl rfl rfl) (q_move rfl) ?_
      refine e_qw (wy rfl rfl rfl) (q_build (cs := encOrder1 (⟨10, 2, 4, 0⟩ : Order1)) zc_69 pl_69 rfl rfl) ?_
      refine l_step (s_s rfl (wy rfl rfl rfl) (s_buildSlice (cs := ([(⟨10, 2, 4, 0⟩ : Order1)] : List Order1).flatMap encOrder1) Tryz.underlying72 eo_69 rfl rfl rfl rfl (by decide) (by decide)) ?_)
      rintro _ _ ⟨b129, rfl, rfl⟩
      refine e_fnw (wy rfl rfl rfl) Tryz.func29 rfl sl_ (fun ρ' hL => Hear_spec bD 1000 mbD (-1) T7 aB (tickK (hearK zKept1 (⟨9, 2, 3, vv⟩ : Order1))) 3 wk ((y.d.1 : Int) + 1) false (some ⟨b129, 0, none⟩) 1 (⟨10, 2, 4, 0⟩ : Order1) ρ' (hL.row pk_) hG7.fok (by have h9 := hG7.usd; omega) (by decide) (by decide) (by have h9 := hG7.usd; omega) hG7.kk) ?_
      rintro _ _ ⟨T8, rfl, hvT8, rfl⟩
      try simp only [List.cons_append, List.nil_append]
      have heT8 := hear_oth (room := 1000) (calls := -1) (V := vw T7) (k := (tickK (hearK zKept1 (⟨9, 2, 3, vv⟩ : Order1)))) (w := ((y.d.1 : Int) + 1)) (o := (⟨10, 2, 4, 0⟩ : Order1)) (cl := 3) (by show (4 : Int) ≠ 3; decide)
      rw [heT8] at hvT8
      rw [heT8]
      have hG8 : AI (vw T8) (tickK (hearK zKept1 (⟨9, 2, 3, vv⟩ : Order1))) := by rw [hvT8]; exact hG7
      refine e_qw (wy rfl rfl rfl) (q_eql rfl rfl) ?_
      refine e_q (q_pick rfl rfl rfl) ?_
      refine e_as rfl ?_
      refine l_n ?_
      refine c_ret ?_
      exact t_rt [] rfl (.tmp rfl .nil) rfl ⟨rfl, boole (by rfl), rfl⟩ (by (repeat refine Ent.skip ?_); exact Ent.refl _)
end Go.Agn

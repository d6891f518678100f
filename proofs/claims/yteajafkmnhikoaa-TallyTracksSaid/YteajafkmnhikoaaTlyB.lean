/-
  The track of package tally, walked.
-/
import Derived.Test.YteajafkmnhikoaaTlyZ
import Derived.Test.YteajafkmnhikoaaTlyV
import Derived.Test.YteajafkmnhikoaaTlyU
import Derived.Test.YteajafkmnhikoaaTlyA
import Derived.Test.YteajafkmnhikoaaDspL
import Derived.Test.YteajafkmnhikoaaProg
set_option maxRecDepth 100000
set_option maxHeartbeats 4000000
set_option linter.unusedSimpArgs false
set_option linter.unusedVariables false
namespace Go.Tly.B
open Go Go.SL Go.Proofs Go.Tly Go.Tly.X Go.Tly.V Go.Tly.U Go.Tly.Z Go.Dsp.L
attribute [local irreducible] Go.SL.Ent
theorem ag_60 : aggSize Try.prog 60 = some 2 := by kernel_rfl
theorem eo_3 : elemOk Try.prog 3 1 8 = true := by kernel_rfl
theorem eo_67 : elemOk Try.prog 67 2 16 = true := by kernel_rfl
theorem pl_60 : placesOf Try.prog 60 = some [(0, 1), (1, 1)] := by kernel_rfl
theorem pl_67 : placesOf Try.prog 67 = some [(0, 1), (1, 1)] := by kernel_rfl
theorem sz_60 : sizeIs Try.prog 60 = some 2 := by kernel_rfl
theorem zc_60 : zeroCs Try.prog 60 = some [.slice none 0 0, .slice none 0 0] := by kernel_rfl
theorem zc_67 : zeroCs Try.prog 67 = some [.int .i64 0, .int .i64 0] := by kernel_rfl

theorem awake_spec  (ρ : Hp) : Spec0 Try.prog 22 #[] ρ [] (fun v Γ' => v = .bool (true) ∧ Γ' = []) := by
  refine spec_of (n := 76) (vs := []) (σ := []) Try.func22 rfl rfl rfl rfl fun E Δ => ?_
  rw [List.nil_append]
  refine c_seq ?_
  refine c_region ?_
  refine l_step (s_q rfl wn (q_assign rfl) ?_)
  refine l_nil ?_
  refine k_then_n ?_
  refine c_seq ?_
  refine c_region ?_
  refine l_step (s_s rfl wn (s_buildSlice (cs := ([1, 2, 3] : List Int).flatMap encI) Try.underlying22 eo_3 rfl rfl rfl rfl (by decide) (by decide)) ?_)
  rintro _ _ ⟨b8, rfl, rfl⟩
  refine l_step (s_q rfl wn (q_build (cs := encConf (⟨⟨(some ⟨b8, 0, none⟩), [1, 2, 3], 3⟩, ⟨none, [], 0⟩⟩ : Conf)) zc_60 pl_60 rfl rfl) ?_)
  refine l_step (s_s rfl wn (s_allocz (cs := encConf zConf) (by kernel_rfl)) ?_)
  rintro _ _ ⟨b1, rfl, rfl⟩
  refine l_step (s_s0 wn (s_storep (ws := encConf (⟨⟨(some ⟨b8, 0, none⟩), [1, 2, 3], 3⟩, ⟨none, [], 0⟩⟩ : Conf)) (cs := encConf zConf) (cs' := encConf (⟨⟨(some ⟨b8, 0, none⟩), [1, 2, 3], 3⟩, ⟨none, [], 0⟩⟩ : Conf)) rfl rfl rfl sz_60 (oneConf _) (by simp [encConf, encConf]) rfl (by repeat (first | exact Pick.here | apply Pick.there))) ?_)
  rintro _ _ ⟨rfl, rfl⟩
  refine l_nil ?_
  refine k_then_n ?_
  refine c_seq ?_
  refine c_region ?_
  refine l_step (s_q rfl wn (q_loadpa (vs := encConf (⟨⟨(some ⟨b8, 0, none⟩), [1, 2, 3], 3⟩, ⟨none, [], 0⟩⟩ : Conf)) ag_60 rfl (by repeat (first | exact Pick.here | apply Pick.there)) rfl) ?_)
  refine l_step (s_fnb rfl wn Try.func27 rfl (by kernel_rfl) rfl (by repeat (first | exact Sel.nil | exact Pick.here | apply Sel.cons | apply Pick.there)) (fun ρ' hL => V.newPoll_spec (⟨⟨(some ⟨b8, 0, none⟩), [1, 2, 3], 3⟩, ⟨none, [], 0⟩⟩ : Conf) ρ' (show 3 ≤ 1000000 from by decide) (by first | exact hL.ro (by assumption) | exact hL.row (by repeat (first | exact Pick.here | apply Pick.there)) | assumption)) ?_)
  rintro _ _ ⟨bP, qP, hqn, rfl, rfl⟩
  try simp only [List.cons_append, List.nil_append]
  refine l_step (s_s rfl wn (s_buildSlice (cs := ([2] : List Int).flatMap encI) Try.underlying22 eo_3 rfl rfl rfl rfl (by decide) (by decide)) ?_)
  rintro _ _ ⟨b12, rfl, rfl⟩
  refine l_step (s_fnb rfl wn Try.func31 rfl (by kernel_rfl) rfl (by repeat (first | exact Sel.nil | exact Pick.here | apply Sel.cons | apply Pick.there)) (fun ρ' hL => Z.newTrack_spec 7 (some ⟨b12, 0, none⟩) 1 1 [2] rfl ρ' (by decide) (by first | exact hL.ro (by assumption) | exact hL.row (by repeat (first | exact Pick.here | apply Pick.there)) | assumption)) ?_)
  rintro _ _ ⟨bT, mT, T', hO, rfl, rfl⟩
  try simp only [List.cons_append, List.nil_append]
  obtain ⟨bq, rfl⟩ := only_one hO
  have hqn : qP.n = 3 := hqn
  refine l_step (s_q rfl wn (q_assign rfl) ?_)
  refine l_step (s_q rfl wn (q_assign rfl) ?_)
  refine l_nil ?_
  refine k_then_n ?_
  refine c_seq ?_
  refine c_seq ?_
  refine c_region ?_
  refine l_step (s_q rfl wn (q_move rfl) ?_)
  refine l_step (s_q rfl wn (by first | exact q_eqlp rfl rfl Try.underlying71 | exact q_eqlp0 rfl rfl Try.underlying71) ?_)
  refine l_step (s_q rfl wn (q_move rfl) ?_)
  refine l_step (s_q rfl (wy rfl rfl rfl) (q_move rfl) ?_)
  refine l_step (s_q rfl (wy rfl rfl rfl) (by first | exact q_eqlp rfl rfl Try.underlying80 | exact q_eqlp0 rfl rfl Try.underlying80) ?_)
  refine l_step (s_q rfl wn (q_pick rfl rfl rfl) ?_)
  refine l_nil ?_
  refine k_then_n ?_
  refine c_sure false rfl (by rfl) ?_
  simp only [Bool.false_eq_true, if_true, if_false]
  refine c_skip ?_
  refine k_then_n ?_
  refine c_seq ?_
  refine c_region ?_
  refine l_step (s_q rfl wn (q_move rfl) ?_)
  refine l_step (s_s rfl wn (s_buildSlice (cs := ([1, 1] : List Int).flatMap encI) Try.underlying22 eo_3 rfl rfl rfl rfl (by decide) (by decide)) ?_)
  rintro _ _ ⟨b21, rfl, rfl⟩
  refine l_step (s_fnb rfl wn Try.func30 rfl (by kernel_rfl) rfl (by repeat (first | exact Sel.nil | exact Pick.here | apply Sel.cons | apply Pick.there)) (fun ρ' hL => V.say_spec bP (⟨[1, 2, 3], [], []⟩ : PD) qP true (some ⟨b21, 0, none⟩) 2 2 [1, 1] rfl ρ' (by first | exact hL.ro (by assumption) | exact hL.row (by repeat (first | exact Pick.here | apply Pick.there)) | assumption)) ?_)
  rintro _ _ ⟨rfl, rfl⟩
  try simp only [List.cons_append, List.nil_append]
  have hs5 : sayF (⟨[1, 2, 3], [], []⟩ : PD) true [1, 1] = ([((1 : Int), true)], [((1 : Int), true)]) := rfl
  simp only [hs5]
  refine l_nil ?_
  refine k_then_n ?_
  refine c_seq ?_
  refine c_region ?_
  refine l_step (s_q rfl wn (q_move rfl) ?_)
  refine l_step (s_fnr rfl wn Try.func28 rfl (by kernel_rfl) rfl (by repeat (first | exact Sel.nil | exact Pick.here | apply Sel.cons | apply Pick.there)) (fun ρ' hL => stands_spec bP (⟨[1, 2, 3], [((1 : Int), true)], [((1 : Int), true)]⟩ : PD) qP ρ' (by first | assumption | omega)) ?_)
  refine l_step (s_q rfl wn (q_assign rfl) ?_)
  refine l_nil ?_
  refine k_then_n ?_
  refine c_seq ?_
  refine c_region ?_
  refine l_step (s_q rfl wn (q_move rfl) ?_)
  refine l_step (s_s rfl wn (s_buildSlice (cs := ([3] : List Int).flatMap encI) Try.underlying22 eo_3 rfl rfl rfl rfl (by decide) (by decide)) ?_)
  rintro _ _ ⟨b26, rfl, rfl⟩
  refine l_step (s_fnb rfl wn Try.func30 rfl (by kernel_rfl) rfl (by repeat (first | exact Sel.nil | exact Pick.here | apply Sel.cons | apply Pick.there)) (fun ρ' hL => V.say_spec bP (⟨[1, 2, 3], [((1 : Int), true)], [((1 : Int), true)]⟩ : PD) qP true (some ⟨b26, 0, none⟩) 1 1 [3] rfl ρ' (by first | exact hL.ro (by assumption) | exact hL.row (by repeat (first | exact Pick.here | apply Pick.there)) | assumption)) ?_)
  rintro _ _ ⟨rfl, rfl⟩
  try simp only [List.cons_append, List.nil_append]
  have hs7 : sayF (⟨[1, 2, 3], [((1 : Int), true)], [((1 : Int), true)]⟩ : PD) true [3] = ([((1 : Int), true), (3, true)], [((1 : Int), true), (3, true)]) := rfl
  simp only [hs7]
  refine l_nil ?_
  refine k_then_n ?_
  refine c_seq ?_
  refine c_region ?_
  refine l_step (s_q rfl wn (q_move rfl) ?_)
  refine l_step (s_fnr rfl wn Try.func39 rfl (by kernel_rfl) rfl (by repeat (first | exact Sel.nil | exact Pick.here | apply Sel.cons | apply Pick.there)) (fun ρ' hL => tnext_spec bT mT [((2 : Int), bq, (⟨0, 8⟩ : Peer))] 2 ρ') ?_)
  refine l_step (s_q rfl wn (q_assign rfl) ?_)
  refine l_nil ?_
  refine k_then_n ?_
  refine c_seq ?_
  refine c_region ?_
  refine l_step (s_q rfl wn (q_move rfl) ?_)
  refine l_step (s_fnb rfl wn Try.func35 rfl (by kernel_rfl) rfl (by repeat (first | exact Sel.nil | exact Pick.here | apply Sel.cons | apply Pick.there)) (fun ρ' hL => back_spec bT mT [((2 : Int), bq, (⟨0, 8⟩ : Peer))] 2 7 4 ρ' (show TOk [((2 : Int), bq, (⟨0, 8⟩ : Peer))] from ⟨by simp, fun e he => by rw [List.mem_singleton.1 he]; show (0 : Int) ≤ 0 ∧ (0 : Int) < 8 ∧ (8 : Int) ≤ 4398046511104; decide⟩) (by decide)) ?_)
  rintro _ _ ⟨rfl, rfl⟩
  try simp only [List.cons_append, List.nil_append]
  have htback : backT [((2 : Int), bq, (⟨0, 8⟩ : Peer))] 2 7 4 = [((2 : Int), bq, (⟨0, 5⟩ : Peer))] := rfl
  rw [htback]
  refine l_step (s_q rfl wn (q_move rfl) ?_)
  refine l_step (s_fnb rfl wn Try.func34 rfl (by kernel_rfl) rfl (by repeat (first | exact Sel.nil | exact Pick.here | apply Sel.cons | apply Pick.there)) (fun ρ' hL => ack_spec bT mT [((2 : Int), bq, (⟨0, 5⟩ : Peer))] 2 6 ρ' (show TOk [((2 : Int), bq, (⟨0, 5⟩ : Peer))] from ⟨by simp, fun e he => by rw [List.mem_singleton.1 he]; show (0 : Int) ≤ 0 ∧ (0 : Int) < 5 ∧ (5 : Int) ≤ 4398046511104; decide⟩) (by decide)) ?_)
  rintro _ _ ⟨rfl, rfl⟩
  try simp only [List.cons_append, List.nil_append]
  have htack : ackT [((2 : Int), bq, (⟨0, 5⟩ : Peer))] 2 6 = [((2 : Int), bq, (⟨6, 7⟩ : Peer))] := rfl
  rw [htack]
  refine l_step (s_q rfl wn (q_assign rfl) ?_)
  refine l_step (s_q rfl wn (q_assign rfl) ?_)
  refine l_nil ?_
  refine k_then_n ?_
  refine c_seq ?_
  refine c_region ?_
  refine l_step (s_q rfl wn (q_loadpa (vs := encConf (⟨⟨(some ⟨b8, 0, none⟩), [1, 2, 3], 3⟩, ⟨none, [], 0⟩⟩ : Conf)) ag_60 rfl (by repeat (first | exact Pick.here | apply Pick.there)) rfl) ?_)
  refine l_step (s_q rfl wn (q_build (cs := encMtch (⟨1, 5⟩ : Mtch)) zc_67 pl_67 rfl rfl) ?_)
  refine l_step (s_q rfl wn (q_build (cs := encMtch (⟨2, 3⟩ : Mtch)) zc_67 pl_67 rfl rfl) ?_)
  refine l_step (s_s rfl wn (s_buildSlice (cs := ([(⟨1, 5⟩ : Mtch), (⟨2, 3⟩ : Mtch)] : List Mtch).flatMap encMtch) Try.underlying61 eo_67 rfl rfl rfl rfl (by decide) (by decide)) ?_)
  rintro _ _ ⟨b37, rfl, rfl⟩
  refine l_step (s_fnq rfl wn Try.func24 rfl (by kernel_rfl) rfl (fun ρ' hL => commit_spec (⟨⟨(some ⟨b8, 0, none⟩), [1, 2, 3], 3⟩, ⟨none, [], 0⟩⟩ : Conf) (some ⟨b37, 0, none⟩) 2 2 [(⟨1, 5⟩ : Mtch), (⟨2, 3⟩ : Mtch)] (by first | rfl | assumption | (simp; done) | (simp <;> omega) | omega) ρ' (by first | assumption | omega) (by first | exact hL.ro (by assumption) | exact hL.row (by repeat (first | exact Pick.here | apply Pick.there)) | assumption) (by first | exact hL.ro (by assumption) | exact hL.row (by repeat (first | exact Pick.here | apply Pick.there)) | assumption)) ?_)
  refine l_step (s_q rfl wn (q_eql rfl rfl) ?_)
  refine l_step (s_q rfl wn (q_move rfl) ?_)
  refine Tr.env (.cons (t := 40) (v := .bool true) rfl (congrArg Value.bool (by rw [commit_eq]; rfl)) (EnvLe.refl _)) ?_
  refine l_step (s_q rfl (wy rfl rfl rfl) (q_loadpa (vs := encConf (⟨⟨(some ⟨b8, 0, none⟩), [1, 2, 3], 3⟩, ⟨none, [], 0⟩⟩ : Conf)) ag_60 rfl (by repeat (first | exact Pick.here | apply Pick.there)) rfl) ?_)
  refine l_step (s_q rfl (wy rfl rfl rfl) (q_build (cs := encMtch (⟨1, 5⟩ : Mtch)) zc_67 pl_67 rfl rfl) ?_)
  refine l_step (s_s rfl (wy rfl rfl rfl) (s_buildSlice (cs := ([(⟨1, 5⟩ : Mtch)] : List Mtch).flatMap encMtch) Try.underlying61 eo_67 rfl rfl rfl rfl (by decide) (by decide)) ?_)
  rintro _ _ ⟨b43, rfl, rfl⟩
  refine l_step (s_fnq rfl (wy rfl rfl rfl) Try.func24 rfl (by kernel_rfl) rfl (fun ρ' hL => commit_spec (⟨⟨(some ⟨b8, 0, none⟩), [1, 2, 3], 3⟩, ⟨none, [], 0⟩⟩ : Conf) (some ⟨b43, 0, none⟩) 1 1 [(⟨1, 5⟩ : Mtch)] (by first | rfl | assumption | (simp; done) | (simp <;> omega) | omega) ρ' (by first | assumption | omega) (by first | exact hL.ro (by assumption) | exact hL.row (by repeat (first | exact Pick.here | apply Pick.there)) | assumption) (by first | exact hL.ro (by assumption) | exact hL.row (by repeat (first | exact Pick.here | apply Pick.there)) | assumption)) ?_)
  refine l_step (s_q rfl (wy rfl rfl rfl) (q_eql rfl rfl) ?_)
  refine l_step (s_q rfl wn (q_pick rfl rfl rfl) ?_)
  refine l_step (s_q rfl wn (q_move rfl) ?_)
  refine l_step (s_qg rfl (ask_t rfl rfl) (b := (decide ((commitF (⟨⟨(some ⟨b8, 0, none⟩), [1, 2, 3], 3⟩, ⟨none, [], 0⟩⟩ : Conf).Voters.xs [(⟨1, 5⟩ : Mtch)]) = 0))) (fun hb => q_move rfl) ?_)
  refine l_step (s_qg rfl (ask_t rfl rfl) (b := (decide ((commitF (⟨⟨(some ⟨b8, 0, none⟩), [1, 2, 3], 3⟩, ⟨none, [], 0⟩⟩ : Conf).Voters.xs [(⟨1, 5⟩ : Mtch)]) = 0))) (fun hb => OpQ.env (.cons rfl (gd_t hb) (.nil _) : EnvLe [(48, .int .i64 (standsF (⟨[1, 2, 3], [((1 : Int), true)], [((1 : Int), true)]⟩ : PD)))] _) (q_eql rfl rfl)) ?_)
  refine l_step (s_q rfl wn (q_pick_and rfl rfl rfl (fun h => h)) ?_)
  refine l_step (s_q rfl wn (q_move rfl) ?_)
  refine l_step (s_qg rfl (ask_t rfl rfl) (b := ((decide ((commitF (⟨⟨(some ⟨b8, 0, none⟩), [1, 2, 3], 3⟩, ⟨none, [], 0⟩⟩ : Conf).Voters.xs [(⟨1, 5⟩ : Mtch)]) = 0)) && (decide ((standsF (⟨[1, 2, 3], [((1 : Int), true)], [((1 : Int), true)]⟩ : PD)) = 0)))) (fun hb => q_move rfl) ?_)
  refine l_step (s_fnrg (b := ((decide ((commitF (⟨⟨(some ⟨b8, 0, none⟩), [1, 2, 3], 3⟩, ⟨none, [], 0⟩⟩ : Conf).Voters.xs [(⟨1, 5⟩ : Mtch)]) = 0)) && (decide ((standsF (⟨[1, 2, 3], [((1 : Int), true)], [((1 : Int), true)]⟩ : PD)) = 0)))) rfl (ask_t rfl rfl) Try.func28 rfl (by kernel_rfl) (fun hb => (.cons rfl (gd_t hb) (.nil _) : EnvLe [(52, .pointer (some ⟨bP, 0, none⟩))] _)) rfl (by repeat (first | exact Sel.nil | exact Pick.here | apply Sel.cons | apply Pick.there)) (fun hb ρ' hL => stands_spec bP (⟨[1, 2, 3], [((1 : Int), true), (3, true)], [((1 : Int), true), (3, true)]⟩ : PD) qP ρ' (by first | assumption | omega)) ?_)
  refine l_step (s_qg rfl (ask_t rfl rfl) (b := ((decide ((commitF (⟨⟨(some ⟨b8, 0, none⟩), [1, 2, 3], 3⟩, ⟨none, [], 0⟩⟩ : Conf).Voters.xs [(⟨1, 5⟩ : Mtch)]) = 0)) && (decide ((standsF (⟨[1, 2, 3], [((1 : Int), true)], [((1 : Int), true)]⟩ : PD)) = 0)))) (fun hb => OpQ.env (.cons rfl (gd_t hb) (.nil _) : EnvLe [(53, .int .i64 (standsF (⟨[1, 2, 3], [((1 : Int), true), (3, true)], [((1 : Int), true), (3, true)]⟩ : PD)))] _) (q_eql rfl rfl)) ?_)
  refine l_step (s_q rfl wn (q_pick_and rfl rfl rfl (fun h => h)) ?_)
  refine l_step (s_q rfl wn (q_move rfl) ?_)
  refine l_step (s_qg rfl (ask_t rfl rfl) (b := (((decide ((commitF (⟨⟨(some ⟨b8, 0, none⟩), [1, 2, 3], 3⟩, ⟨none, [], 0⟩⟩ : Conf).Voters.xs [(⟨1, 5⟩ : Mtch)]) = 0)) && (decide ((standsF (⟨[1, 2, 3], [((1 : Int), true)], [((1 : Int), true)]⟩ : PD)) = 0))) && (decide ((standsF (⟨[1, 2, 3], [((1 : Int), true), (3, true)], [((1 : Int), true), (3, true)]⟩ : PD)) = 1)))) (fun hb => q_move rfl) ?_)
  refine l_step (s_qg rfl (ask_t rfl rfl) (b := (((decide ((commitF (⟨⟨(some ⟨b8, 0, none⟩), [1, 2, 3], 3⟩, ⟨none, [], 0⟩⟩ : Conf).Voters.xs [(⟨1, 5⟩ : Mtch)]) = 0)) && (decide ((standsF (⟨[1, 2, 3], [((1 : Int), true)], [((1 : Int), true)]⟩ : PD)) = 0))) && (decide ((standsF (⟨[1, 2, 3], [((1 : Int), true), (3, true)], [((1 : Int), true), (3, true)]⟩ : PD)) = 1)))) (fun hb => OpQ.env (.cons rfl (gd_t hb) (.nil _) : EnvLe [(57, .int .i64 (nextF [((2 : Int), bq, (⟨0, 8⟩ : Peer))] 2))] _) (q_eql rfl rfl)) ?_)
  refine l_step (s_q rfl wn (q_pick_and rfl rfl rfl (fun h => h)) ?_)
  refine l_step (s_q rfl wn (q_move rfl) ?_)
  refine l_step (s_qg rfl (ask_t rfl rfl) (b := ((((decide ((commitF (⟨⟨(some ⟨b8, 0, none⟩), [1, 2, 3], 3⟩, ⟨none, [], 0⟩⟩ : Conf).Voters.xs [(⟨1, 5⟩ : Mtch)]) = 0)) && (decide ((standsF (⟨[1, 2, 3], [((1 : Int), true)], [((1 : Int), true)]⟩ : PD)) = 0))) && (decide ((standsF (⟨[1, 2, 3], [((1 : Int), true), (3, true)], [((1 : Int), true), (3, true)]⟩ : PD)) = 1))) && (decide ((nextF [((2 : Int), bq, (⟨0, 8⟩ : Peer))] 2) = 8)))) (fun hb => q_move rfl) ?_)
  refine l_step (s_q rfl wn (q_pick_and rfl rfl rfl (fun h => h)) ?_)
  refine l_step (s_q rfl wn (q_move rfl) ?_)
  refine l_step (s_qg rfl (ask_t rfl rfl) (b := (((((decide ((commitF (⟨⟨(some ⟨b8, 0, none⟩), [1, 2, 3], 3⟩, ⟨none, [], 0⟩⟩ : Conf).Voters.xs [(⟨1, 5⟩ : Mtch)]) = 0)) && (decide ((standsF (⟨[1, 2, 3], [((1 : Int), true)], [((1 : Int), true)]⟩ : PD)) = 0))) && (decide ((standsF (⟨[1, 2, 3], [((1 : Int), true), (3, true)], [((1 : Int), true), (3, true)]⟩ : PD)) = 1))) && (decide ((nextF [((2 : Int), bq, (⟨0, 8⟩ : Peer))] 2) = 8))) && (backB [((2 : Int), bq, (⟨0, 8⟩ : Peer))] 2 7))) (fun hb => q_move rfl) ?_)
  refine l_step (s_q rfl wn (q_pick_and rfl rfl rfl (fun h => h)) ?_)
  refine l_step (s_q rfl wn (q_move rfl) ?_)
  refine l_step (s_qg rfl (ask_t rfl rfl) (b := ((((((decide ((commitF (⟨⟨(some ⟨b8, 0, none⟩), [1, 2, 3], 3⟩, ⟨none, [], 0⟩⟩ : Conf).Voters.xs [(⟨1, 5⟩ : Mtch)]) = 0)) && (decide ((standsF (⟨[1, 2, 3], [((1 : Int), true)], [((1 : Int), true)]⟩ : PD)) = 0))) && (decide ((standsF (⟨[1, 2, 3], [((1 : Int), true), (3, true)], [((1 : Int), true), (3, true)]⟩ : PD)) = 1))) && (decide ((nextF [((2 : Int), bq, (⟨0, 8⟩ : Peer))] 2) = 8))) && (backB [((2 : Int), bq, (⟨0, 8⟩ : Peer))] 2 7)) && (ackB [((2 : Int), bq, (⟨0, 5⟩ : Peer))] 2 6))) (fun hb => q_move rfl) ?_)
  refine l_step (s_fnrg (b := ((((((decide ((commitF (⟨⟨(some ⟨b8, 0, none⟩), [1, 2, 3], 3⟩, ⟨none, [], 0⟩⟩ : Conf).Voters.xs [(⟨1, 5⟩ : Mtch)]) = 0)) && (decide ((standsF (⟨[1, 2, 3], [((1 : Int), true)], [((1 : Int), true)]⟩ : PD)) = 0))) && (decide ((standsF (⟨[1, 2, 3], [((1 : Int), true), (3, true)], [((1 : Int), true), (3, true)]⟩ : PD)) = 1))) && (decide ((nextF [((2 : Int), bq, (⟨0, 8⟩ : Peer))] 2) = 8))) && (backB [((2 : Int), bq, (⟨0, 8⟩ : Peer))] 2 7)) && (ackB [((2 : Int), bq, (⟨0, 5⟩ : Peer))] 2 6))) rfl (ask_t rfl rfl) Try.func37 rfl (by kernel_rfl) (fun hb => (.cons rfl (gd_t hb) (.nil _) : EnvLe [(67, .pointer (some ⟨bT, 0, none⟩))] _)) rfl (by repeat (first | exact Sel.nil | exact Pick.here | apply Sel.cons | apply Pick.there)) (fun hb ρ' hL => tmatch_spec bT mT [((2 : Int), bq, (⟨6, 7⟩ : Peer))] 2 ρ') ?_)
  refine l_step (s_qg rfl (ask_t rfl rfl) (b := ((((((decide ((commitF (⟨⟨(some ⟨b8, 0, none⟩), [1, 2, 3], 3⟩, ⟨none, [], 0⟩⟩ : Conf).Voters.xs [(⟨1, 5⟩ : Mtch)]) = 0)) && (decide ((standsF (⟨[1, 2, 3], [((1 : Int), true)], [((1 : Int), true)]⟩ : PD)) = 0))) && (decide ((standsF (⟨[1, 2, 3], [((1 : Int), true), (3, true)], [((1 : Int), true), (3, true)]⟩ : PD)) = 1))) && (decide ((nextF [((2 : Int), bq, (⟨0, 8⟩ : Peer))] 2) = 8))) && (backB [((2 : Int), bq, (⟨0, 8⟩ : Peer))] 2 7)) && (ackB [((2 : Int), bq, (⟨0, 5⟩ : Peer))] 2 6))) (fun hb => OpQ.env (.cons rfl (gd_t hb) (.nil _) : EnvLe [(68, .int .i64 (matchF [((2 : Int), bq, (⟨6, 7⟩ : Peer))] 2))] _) (q_eql rfl rfl)) ?_)
  refine l_step (s_q rfl wn (q_pick_and rfl rfl rfl (fun h => h)) ?_)
  refine l_step (s_q rfl wn (q_move rfl) ?_)
  refine l_step (s_qg rfl (ask_t rfl rfl) (b := (((((((decide ((commitF (⟨⟨(some ⟨b8, 0, none⟩), [1, 2, 3], 3⟩, ⟨none, [], 0⟩⟩ : Conf).Voters.xs [(⟨1, 5⟩ : Mtch)]) = 0)) && (decide ((standsF (⟨[1, 2, 3], [((1 : Int), true)], [((1 : Int), true)]⟩ : PD)) = 0))) && (decide ((standsF (⟨[1, 2, 3], [((1 : Int), true), (3, true)], [((1 : Int), true), (3, true)]⟩ : PD)) = 1))) && (decide ((nextF [((2 : Int), bq, (⟨0, 8⟩ : Peer))] 2) = 8))) && (backB [((2 : Int), bq, (⟨0, 8⟩ : Peer))] 2 7)) && (ackB [((2 : Int), bq, (⟨0, 5⟩ : Peer))] 2 6)) && (decide ((matchF [((2 : Int), bq, (⟨6, 7⟩ : Peer))] 2) = 6)))) (fun hb => q_move rfl) ?_)
  refine l_step (s_fnrg (b := (((((((decide ((commitF (⟨⟨(some ⟨b8, 0, none⟩), [1, 2, 3], 3⟩, ⟨none, [], 0⟩⟩ : Conf).Voters.xs [(⟨1, 5⟩ : Mtch)]) = 0)) && (decide ((standsF (⟨[1, 2, 3], [((1 : Int), true)], [((1 : Int), true)]⟩ : PD)) = 0))) && (decide ((standsF (⟨[1, 2, 3], [((1 : Int), true), (3, true)], [((1 : Int), true), (3, true)]⟩ : PD)) = 1))) && (decide ((nextF [((2 : Int), bq, (⟨0, 8⟩ : Peer))] 2) = 8))) && (backB [((2 : Int), bq, (⟨0, 8⟩ : Peer))] 2 7)) && (ackB [((2 : Int), bq, (⟨0, 5⟩ : Peer))] 2 6)) && (decide ((matchF [((2 : Int), bq, (⟨6, 7⟩ : Peer))] 2) = 6)))) rfl (ask_t rfl rfl) Try.func39 rfl (by kernel_rfl) (fun hb => (.cons rfl (gd_t hb) (.nil _) : EnvLe [(72, .pointer (some ⟨bT, 0, none⟩))] _)) rfl (by repeat (first | exact Sel.nil | exact Pick.here | apply Sel.cons | apply Pick.there)) (fun hb ρ' hL => tnext_spec bT mT [((2 : Int), bq, (⟨6, 7⟩ : Peer))] 2 ρ') ?_)
  refine l_step (s_qg rfl (ask_t rfl rfl) (b := (((((((decide ((commitF (⟨⟨(some ⟨b8, 0, none⟩), [1, 2, 3], 3⟩, ⟨none, [], 0⟩⟩ : Conf).Voters.xs [(⟨1, 5⟩ : Mtch)]) = 0)) && (decide ((standsF (⟨[1, 2, 3], [((1 : Int), true)], [((1 : Int), true)]⟩ : PD)) = 0))) && (decide ((standsF (⟨[1, 2, 3], [((1 : Int), true), (3, true)], [((1 : Int), true), (3, true)]⟩ : PD)) = 1))) && (decide ((nextF [((2 : Int), bq, (⟨0, 8⟩ : Peer))] 2) = 8))) && (backB [((2 : Int), bq, (⟨0, 8⟩ : Peer))] 2 7)) && (ackB [((2 : Int), bq, (⟨0, 5⟩ : Peer))] 2 6)) && (decide ((matchF [((2 : Int), bq, (⟨6, 7⟩ : Peer))] 2) = 6)))) (fun hb => OpQ.env (.cons rfl (gd_t hb) (.nil _) : EnvLe [(73, .int .i64 (nextF [((2 : Int), bq, (⟨6, 7⟩ : Peer))] 2))] _) (q_eql rfl rfl)) ?_)
  refine l_step (s_q rfl wn (q_pick_and rfl rfl rfl (fun h => h)) ?_)
  refine l_step (s_q rfl wn (q_assign rfl) ?_)
  refine l_nil ?_
  refine k_then_n ?_
  refine c_ret ?_
  exact t_ret [] rfl (.tmp rfl .nil) rfl (Hp.le_refl _) ⟨rfl, boole (by first | rfl | (rw [commit_eq]; rfl) | (rw [commit_eq, commit_eq]; rfl)), rfl⟩ (by (repeat refine Ent.skip ?_); exact Ent.refl _)
end Go.Tly.B

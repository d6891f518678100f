/-
  Laws over dispatch, walked.
-/
import Derived.Test.YteajafkmnhikoaaDspW
import Derived.Test.YteajafkmnhikoaaDspQ
import Derived.Test.YteajafkmnhikoaaDspL
import Derived.Test.YteajafkmnhikoaaProg
set_option maxRecDepth 100000
set_option maxHeartbeats 4000000
set_option linter.unusedSimpArgs false
set_option linter.unusedVariables false
namespace Go.Dsp.A
open Go Go.SL Go.Proofs Go.Dsp Go.Dsp.L
attribute [local irreducible] Go.SL.Ent
theorem eo_30 : elemOk Try.prog 30 4 32 = true := by kernel_rfl
theorem eo_34 : elemOk Try.prog 34 6 48 = true := by kernel_rfl
theorem fo_39_0 : fieldOff Try.prog 39 0 = some (0, 3) := by kernel_rfl
theorem pl_30 : placesOf Try.prog 30 = some [(0, 1), (1, 1), (2, 1), (3, 1)] := by kernel_rfl
theorem pl_34 : placesOf Try.prog 34 = some [(0, 1), (1, 1), (2, 1), (3, 1), (4, 1), (5, 1)] := by kernel_rfl
theorem sc_3 : isScalar Try.prog 3 = true := by kernel_rfl
theorem sz_39 : sizeIs Try.prog 39 = some 7 := by kernel_rfl
theorem zc_30 : zeroCs Try.prog 30 = some [.int .i64 0, .int .i64 0, .int .i64 0, .int .i64 0] := by kernel_rfl
theorem zc_34 : zeroCs Try.prog 34 = some [.int .i64 0, .int .i64 0, .int .i64 0, .int .i64 0, .int .i64 0, .bool false] := by kernel_rfl

theorem awake_spec  (ρ : Hp) : Spec0 Try.prog 11 #[] ρ [] (fun v Γ' => v = .bool (true) ∧ Γ' = []) := by
  refine spec_of (n := 87) (vs := []) (σ := []) Try.func11 rfl rfl rfl rfl fun E Δ => ?_
  rw [List.nil_append]
  refine c_seq ?_
  refine c_region ?_
  refine l_step (s_q rfl wn (q_assign rfl) ?_)
  refine l_nil ?_
  refine k_then_n ?_
  refine c_seq ?_
  refine c_region ?_
  refine l_step (s_fnb rfl wn Try.func12 rfl (by kernel_rfl) rfl (by repeat (first | exact Sel.nil | exact Pick.here | apply Sel.cons | apply Pick.there)) (fun ρ' hL => new_spec 3 ρ') ?_)
  rintro _ _ hnew
  obtain ⟨hsp, bN, boN, btN, rfl, rfl⟩ := hnew.resolve_right (fun h => h.1 (by decide))
  try simp only [List.cons_append, List.nil_append]
  refine l_step (s_q rfl wn (q_move rfl) ?_)
  refine l_step (s_q rfl wn (q_extract rfl rfl) ?_)
  refine l_step (s_q rfl wn (q_extract rfl rfl) ?_)
  refine l_step (s_q rfl wn (q_assign rfl) ?_)
  refine l_step (s_q rfl wn (q_assign rfl) ?_)
  refine l_nil ?_
  refine k_then_n ?_
  refine c_seq ?_
  refine c_seq ?_
  refine c_region ?_
  refine l_step (s_q rfl wn (q_move rfl) ?_)
  refine l_step (s_q rfl wn (by first | exact q_eqlp rfl rfl Try.underlying24 | exact q_eqlp0 rfl rfl Try.underlying24) ?_)
  refine l_step (s_q rfl wn (q_move rfl) ?_)
  refine l_step (s_q rfl (wy rfl rfl rfl) (q_move rfl) ?_)
  refine l_step (s_q rfl (wy rfl rfl rfl) (q_neq rfl rfl) ?_)
  refine l_step (s_q rfl wn (q_pick rfl rfl rfl) ?_)
  refine l_nil ?_
  refine k_then_n ?_
  refine c_sure false rfl (by rfl) ?_
  simp only [Bool.false_eq_true, if_true, if_false]
  refine c_skip ?_
  refine k_then_n ?_
  refine c_seq ?_
  refine c_region ?_
  refine l_step (s_q rfl wn (q_move rfl) ?_)
  refine l_step (s_q rfl wn (q_build (cs := encOrd (⟨5, 0, 7, 0⟩ : Ord)) zc_30 pl_30 rfl rfl) ?_)
  refine l_step (s_s rfl wn (s_buildSlice (cs := ([(⟨5, 0, 7, 0⟩ : Ord)] : List Ord).flatMap encOrd) Try.underlying40 eo_30 rfl rfl rfl rfl (by decide) (by decide)) ?_)
  rintro _ _ ⟨b21, rfl, rfl⟩
  refine l_step (s_fnb rfl wn Try.func13 rfl (by kernel_rfl) rfl (by repeat (first | exact Sel.nil | exact Pick.here | apply Sel.cons | apply Pick.there)) (fun ρ' hL => set_spec bN (⟨3, 0, boN, btN, [], []⟩ : DD) (some ⟨b21, 0, none⟩) 1 1 [(⟨5, 0, 7, 0⟩ : Ord)] (by first | rfl | simp) ρ' (by first | omega | decide | (simp <;> omega)) (by first | exact hL.ro (by assumption) | exact hL.row (by repeat (first | exact Pick.here | apply Pick.there)) | assumption)) ?_)
  rintro _ _ ⟨bo22, rfl, rfl⟩
  try simp only [List.cons_append, List.nil_append]
  have hs4 : setF [] [(⟨5, 0, 7, 0⟩ : Ord)] = [((7 : Int), (⟨(⟨5, 0, 7, 0⟩ : Ord), (-1)⟩ : Sent))] := by rfl
  rw [hs4]
  refine l_nil ?_
  refine k_then_n ?_
  refine c_seq ?_
  refine c_region ?_
  refine l_step (s_q rfl wn (q_move rfl) ?_)
  refine l_step (s_fnb rfl wn Try.func15 rfl (by kernel_rfl) rfl (by repeat (first | exact Sel.nil | exact Pick.here | apply Sel.cons | apply Pick.there)) (fun ρ' hL => tick_spec bN (⟨3, 0, bo22, btN, [((7 : Int), (⟨(⟨5, 0, 7, 0⟩ : Ord), (-1)⟩ : Sent))], []⟩ : DD) ρ' (show OutOk 0 [((7 : Int), (⟨(⟨5, 0, 7, 0⟩ : Ord), (-1)⟩ : Sent))] from ⟨fun p hp => by rw [List.mem_singleton.1 hp]; exact ⟨i64_small (z := 7) (by decide) (by decide), by decide, by decide⟩, by decide⟩) (show (0 : Int) ≤ 0 ∧ (0 : Int) ≤ 1000000 from by decide)) ?_)
  rintro _ _ ⟨a24, c24, rfl, rfl⟩
  try simp only [List.cons_append, List.nil_append]
  have ht1 : tickF (0 + 1) 3 [((7 : Int), (⟨(⟨5, 0, 7, 0⟩ : Ord), (-1)⟩ : Sent))] = ([((7 : Int), (⟨(⟨5, 0, 7, 0⟩ : Ord), 1⟩ : Sent))], [(⟨5, 0, 7, 0⟩ : Ord)]) := by rw [tick_one]; rfl
  simp only [ht1, List.length_cons, List.length_nil, Nat.zero_add]
  refine l_step (s_q rfl wn (q_move rfl) ?_)
  refine l_step (s_fnb rfl wn Try.func15 rfl (by kernel_rfl) rfl (by repeat (first | exact Sel.nil | exact Pick.here | apply Sel.cons | apply Pick.there)) (fun ρ' hL => tick_spec bN (⟨3, 1, bo22, btN, [((7 : Int), (⟨(⟨5, 0, 7, 0⟩ : Ord), 1⟩ : Sent))], []⟩ : DD) ρ' (show OutOk 1 [((7 : Int), (⟨(⟨5, 0, 7, 0⟩ : Ord), 1⟩ : Sent))] from ⟨fun p hp => by rw [List.mem_singleton.1 hp]; exact ⟨i64_small (z := 7) (by decide) (by decide), by decide, by decide⟩, by decide⟩) (show (0 : Int) ≤ 1 ∧ (1 : Int) ≤ 1000000 from by decide)) ?_)
  rintro _ _ ⟨a26, c26, rfl, rfl⟩
  try simp only [List.cons_append, List.nil_append]
  have ht2 : tickF (1 + 1) 3 [((7 : Int), (⟨(⟨5, 0, 7, 0⟩ : Ord), 1⟩ : Sent))] = ([((7 : Int), (⟨(⟨5, 0, 7, 0⟩ : Ord), 1⟩ : Sent))], []) := by rw [tick_one]; rfl
  simp only [ht2, List.length_cons, List.length_nil, Nat.zero_add]
  refine l_step (s_q rfl wn (q_move rfl) ?_)
  refine l_step (s_fnb rfl wn Try.func15 rfl (by kernel_rfl) rfl (by repeat (first | exact Sel.nil | exact Pick.here | apply Sel.cons | apply Pick.there)) (fun ρ' hL => tick_spec bN (⟨3, 2, bo22, btN, [((7 : Int), (⟨(⟨5, 0, 7, 0⟩ : Ord), 1⟩ : Sent))], []⟩ : DD) ρ' (show OutOk 2 [((7 : Int), (⟨(⟨5, 0, 7, 0⟩ : Ord), 1⟩ : Sent))] from ⟨fun p hp => by rw [List.mem_singleton.1 hp]; exact ⟨i64_small (z := 7) (by decide) (by decide), by decide, by decide⟩, by decide⟩) (show (0 : Int) ≤ 2 ∧ (2 : Int) ≤ 1000000 from by decide)) ?_)
  rintro _ _ ⟨a28, c28, rfl, rfl⟩
  try simp only [List.cons_append, List.nil_append]
  have ht3 : tickF (2 + 1) 3 [((7 : Int), (⟨(⟨5, 0, 7, 0⟩ : Ord), 1⟩ : Sent))] = ([((7 : Int), (⟨(⟨5, 0, 7, 0⟩ : Ord), 1⟩ : Sent))], []) := by rw [tick_one]; rfl
  simp only [ht3, List.length_cons, List.length_nil, Nat.zero_add]
  refine l_step (s_q rfl wn (q_move rfl) ?_)
  refine l_step (s_fnb rfl wn Try.func15 rfl (by kernel_rfl) rfl (by repeat (first | exact Sel.nil | exact Pick.here | apply Sel.cons | apply Pick.there)) (fun ρ' hL => tick_spec bN (⟨3, 3, bo22, btN, [((7 : Int), (⟨(⟨5, 0, 7, 0⟩ : Ord), 1⟩ : Sent))], []⟩ : DD) ρ' (show OutOk 3 [((7 : Int), (⟨(⟨5, 0, 7, 0⟩ : Ord), 1⟩ : Sent))] from ⟨fun p hp => by rw [List.mem_singleton.1 hp]; exact ⟨i64_small (z := 7) (by decide) (by decide), by decide, by decide⟩, by decide⟩) (show (0 : Int) ≤ 3 ∧ (3 : Int) ≤ 1000000 from by decide)) ?_)
  rintro _ _ ⟨a30, c30, rfl, rfl⟩
  try simp only [List.cons_append, List.nil_append]
  have ht4 : tickF (3 + 1) 3 [((7 : Int), (⟨(⟨5, 0, 7, 0⟩ : Ord), 1⟩ : Sent))] = ([((7 : Int), (⟨(⟨5, 0, 7, 0⟩ : Ord), 4⟩ : Sent))], [(⟨5, 0, 7, 0⟩ : Ord)]) := by rw [tick_one]; rfl
  simp only [ht4, List.length_cons, List.length_nil, Nat.zero_add]
  refine l_step (s_q rfl wn (q_assign rfl) ?_)
  refine l_step (s_q rfl wn (q_assign rfl) ?_)
  refine l_step (s_q rfl wn (q_assign rfl) ?_)
  refine l_step (s_q rfl wn (q_assign rfl) ?_)
  refine l_nil ?_
  refine k_then_n ?_
  refine c_seq ?_
  refine c_region ?_
  refine l_step (s_q rfl wn (q_move rfl) ?_)
  refine l_step (s_q rfl wn (q_build (cs := encRep_ (⟨7, 5, 0, 0, 1, true⟩ : Rep_)) zc_34 pl_34 rfl rfl) ?_)
  refine l_step (s_s rfl wn (s_buildSlice (cs := ([(⟨7, 5, 0, 0, 1, true⟩ : Rep_)] : List Rep_).flatMap encRep_) Try.underlying49 eo_34 rfl rfl rfl rfl (by decide) (by decide)) ?_)
  rintro _ _ ⟨b33, rfl, rfl⟩
  refine l_step (s_fnb rfl wn Try.func14 rfl (by kernel_rfl) rfl (by repeat (first | exact Sel.nil | exact Pick.here | apply Sel.cons | apply Pick.there)) (fun ρ' hL => hear_spec bN (⟨3, 4, bo22, btN, [((7 : Int), (⟨(⟨5, 0, 7, 0⟩ : Ord), 4⟩ : Sent))], []⟩ : DD) (some ⟨b33, 0, none⟩) 1 1 [(⟨7, 5, 0, 0, 1, true⟩ : Rep_)] (by first | rfl | simp) ρ' (show OutOk 4 [((7 : Int), (⟨(⟨5, 0, 7, 0⟩ : Ord), 4⟩ : Sent))] from ⟨fun p hp => by rw [List.mem_singleton.1 hp]; exact ⟨i64_small (z := 7) (by decide) (by decide), by decide, by decide⟩, by decide⟩) (told_nil 4) (show (0 : Int) ≤ 4 ∧ (4 : Int) ≤ 1000000 from by decide) (fun r hr => by rw [List.mem_singleton.1 hr]; exact i64_small (z := 7) (by decide) (by decide)) (by first | omega | decide | simp) (by first | exact hL.ro (by assumption) | exact hL.row (by repeat (first | exact Pick.here | apply Pick.there)) | assumption)) ?_)
  rintro _ _ ⟨a34, c34, rfl, rfl⟩
  try simp only [List.cons_append, List.nil_append]
  have hh6 : hearF 4 3 [((7 : Int), (⟨(⟨5, 0, 7, 0⟩ : Ord), 4⟩ : Sent))] [] [(⟨7, 5, 0, 0, 1, true⟩ : Rep_)] = ([((7 : Int), (⟨1, 5, 4, true⟩ : Told))], [opD (⟨7, 5, 0, 0, 1, true⟩ : Rep_), opH (⟨7, 5, 0, 0, 1, true⟩ : Rep_)]) := by rfl
  simp only [hh6, List.length_cons, List.length_nil, Nat.zero_add, Nat.reduceAdd]
  refine l_step (s_q rfl wn (q_assign rfl) ?_)
  refine l_nil ?_
  refine k_then_n ?_
  refine c_seq ?_
  refine c_region ?_
  refine l_step (s_q rfl wn (q_move rfl) ?_)
  refine l_step (s_q rfl wn (q_build (cs := encRep_ (⟨7, 5, 0, 0, 1, true⟩ : Rep_)) zc_34 pl_34 rfl rfl) ?_)
  refine l_step (s_s rfl wn (s_buildSlice (cs := ([(⟨7, 5, 0, 0, 1, true⟩ : Rep_)] : List Rep_).flatMap encRep_) Try.underlying49 eo_34 rfl rfl rfl rfl (by decide) (by decide)) ?_)
  rintro _ _ ⟨b37, rfl, rfl⟩
  refine l_step (s_fnb rfl wn Try.func14 rfl (by kernel_rfl) rfl (by repeat (first | exact Sel.nil | exact Pick.here | apply Sel.cons | apply Pick.there)) (fun ρ' hL => hear_spec bN (⟨3, 4, bo22, btN, [((7 : Int), (⟨(⟨5, 0, 7, 0⟩ : Ord), 4⟩ : Sent))], [((7 : Int), (⟨1, 5, 4, true⟩ : Told))]⟩ : DD) (some ⟨b37, 0, none⟩) 1 1 [(⟨7, 5, 0, 0, 1, true⟩ : Rep_)] (by first | rfl | simp) ρ' (show OutOk 4 [((7 : Int), (⟨(⟨5, 0, 7, 0⟩ : Ord), 4⟩ : Sent))] from ⟨fun p hp => by rw [List.mem_singleton.1 hp]; exact ⟨i64_small (z := 7) (by decide) (by decide), by decide, by decide⟩, by decide⟩) (show ToldOk 4 [((7 : Int), (⟨1, 5, 4, true⟩ : Told))] from ⟨fun p hp => by rw [List.mem_singleton.1 hp]; exact ⟨i64_small (z := 7) (by decide) (by decide), by decide, by decide⟩, by decide⟩) (show (0 : Int) ≤ 4 ∧ (4 : Int) ≤ 1000000 from by decide) (fun r hr => by rw [List.mem_singleton.1 hr]; exact i64_small (z := 7) (by decide) (by decide)) (by first | omega | decide | simp) (by first | exact hL.ro (by assumption) | exact hL.row (by repeat (first | exact Pick.here | apply Pick.there)) | assumption)) ?_)
  rintro _ _ ⟨a38, c38, rfl, rfl⟩
  try simp only [List.cons_append, List.nil_append]
  have hh7 : hearF 4 3 [((7 : Int), (⟨(⟨5, 0, 7, 0⟩ : Ord), 4⟩ : Sent))] [((7 : Int), (⟨1, 5, 4, true⟩ : Told))] [(⟨7, 5, 0, 0, 1, true⟩ : Rep_)] = ([((7 : Int), (⟨1, 5, 4, true⟩ : Told))], []) := by rfl
  simp only [hh7, List.length_nil]
  refine l_step (s_q rfl wn (q_assign rfl) ?_)
  refine l_nil ?_
  refine k_then_n ?_
  refine c_seq ?_
  refine c_region ?_
  refine l_step (s_q rfl wn (q_move rfl) ?_)
  refine l_step (s_fnb rfl wn Try.func13 rfl (by kernel_rfl) rfl (by repeat (first | exact Sel.nil | exact Pick.here | apply Sel.cons | apply Pick.there)) (fun ρ' hL => set_spec bN (⟨3, 4, bo22, btN, [((7 : Int), (⟨(⟨5, 0, 7, 0⟩ : Ord), 4⟩ : Sent))], [((7 : Int), (⟨1, 5, 4, true⟩ : Told))]⟩ : DD) none 0 0 [] (by first | rfl | simp) ρ' (by first | omega | decide | (simp <;> omega)) (Ro.nil _ _)) ?_)
  rintro _ _ ⟨bo40, rfl, rfl⟩
  try simp only [List.cons_append, List.nil_append]
  have hs8 : setF [((7 : Int), (⟨(⟨5, 0, 7, 0⟩ : Ord), 4⟩ : Sent))] [] = [] := by rfl
  rw [hs8]
  refine l_nil ?_
  refine k_then_n ?_
  refine c_seq ?_
  refine c_region ?_
  refine l_step (s_q rfl wn (q_move rfl) ?_)
  refine l_step (s_q rfl wn (q_len Try.underlying40 rfl) ?_)
  refine l_step (s_q rfl wn (q_eql rfl rfl) ?_)
  refine l_step (s_q rfl wn (q_move rfl) ?_)
  refine l_step (s_qg rfl (ask_t rfl rfl) (b := (decide ((1 : Int) = 1))) (fun hb => q_move rfl) ?_)
  refine l_step (s_qg rfl (ask_t rfl rfl) (b := (decide ((1 : Int) = 1))) (fun hb => OpQ.env (.cons rfl (gd_t hb) (.nil _) : EnvLe [(45, .slice a26 0 c26)] _) (q_len Try.underlying40 rfl)) ?_)
  refine l_step (s_qg rfl (ask_t rfl rfl) (b := (decide ((1 : Int) = 1))) (fun hb => q_move rfl) ?_)
  refine l_step (s_qg rfl (ask_t rfl rfl) (b := (decide ((1 : Int) = 1))) (fun hb => OpQ.env (.cons rfl (gd_t hb) (.nil _) : EnvLe [(47, .slice a28 0 c28)] _) (q_len Try.underlying40 rfl)) ?_)
  refine l_step (s_qg rfl (ask_t rfl rfl) (b := (decide ((1 : Int) = 1))) (fun hb => OpQ.env (.cons rfl (gd_t hb) (.cons rfl (gd_t hb) (.nil _)) : EnvLe [(46, .int .i64 (0 : Int)), (48, .int .i64 (0 : Int))] _) (q_add rfl rfl (by first | omega | (have hb2 := hb; (try simp only [Bool.and_eq_true, Bool.or_eq_true, Bool.not_eq_true', Bool.and_eq_false_iff, Bool.or_eq_false_iff, Bool.not_eq_false', decide_eq_true_eq, decide_eq_false_iff_not, Bool.not_eq_eq_eq_not, Bool.not_true, Bool.not_false, Bool.not_eq_true, Bool.not_eq_false, beq_iff_eq, bne_iff_ne, ne_eq, Decidable.not_not] at hb2); omega)) (by first | omega | (have hb2 := hb; (try simp only [Bool.and_eq_true, Bool.or_eq_true, Bool.not_eq_true', Bool.and_eq_false_iff, Bool.or_eq_false_iff, Bool.not_eq_false', decide_eq_true_eq, decide_eq_false_iff_not, Bool.not_eq_eq_eq_not, Bool.not_true, Bool.not_false, Bool.not_eq_true, Bool.not_eq_false, beq_iff_eq, bne_iff_ne, ne_eq, Decidable.not_not] at hb2); omega)))) ?_)
  refine l_step (s_qg rfl (ask_t rfl rfl) (b := (decide ((1 : Int) = 1))) (fun hb => OpQ.env (.cons rfl (gd_t hb) (.nil _) : EnvLe [(49, .int .i64 ((0 : Int) + (0 : Int)))] _) (q_eql rfl rfl)) ?_)
  refine l_step (s_q rfl wn (q_pick_and rfl rfl rfl (fun h => h)) ?_)
  refine l_step (s_q rfl wn (q_move rfl) ?_)
  refine l_step (s_qg rfl (ask_t rfl rfl) (b := ((decide ((1 : Int) = 1)) && (decide (((0 : Int) + (0 : Int)) = 0)))) (fun hb => q_move rfl) ?_)
  refine l_step (s_qg rfl (ask_t rfl rfl) (b := ((decide ((1 : Int) = 1)) && (decide (((0 : Int) + (0 : Int)) = 0)))) (fun hb => OpQ.env (.cons rfl (gd_t hb) (.nil _) : EnvLe [(53, .slice a30 1 c30)] _) (q_len Try.underlying40 rfl)) ?_)
  refine l_step (s_qg rfl (ask_t rfl rfl) (b := ((decide ((1 : Int) = 1)) && (decide (((0 : Int) + (0 : Int)) = 0)))) (fun hb => OpQ.env (.cons rfl (gd_t hb) (.nil _) : EnvLe [(54, .int .i64 (1 : Int))] _) (q_eql rfl rfl)) ?_)
  refine l_step (s_q rfl wn (q_pick_and rfl rfl rfl (fun h => h)) ?_)
  refine l_step (s_q rfl wn (q_move rfl) ?_)
  refine l_step (s_qg rfl (ask_t rfl rfl) (b := (((decide ((1 : Int) = 1)) && (decide (((0 : Int) + (0 : Int)) = 0))) && (decide ((1 : Int) = 1)))) (fun hb => q_move rfl) ?_)
  refine l_step (s_qg rfl (ask_t rfl rfl) (b := (((decide ((1 : Int) = 1)) && (decide (((0 : Int) + (0 : Int)) = 0))) && (decide ((1 : Int) = 1)))) (fun hb => OpQ.env (.cons rfl (gd_t hb) (.nil _) : EnvLe [(58, .slice a34 2 c34)] _) (q_len Try.underlying31 rfl)) ?_)
  refine l_step (s_qg rfl (ask_t rfl rfl) (b := (((decide ((1 : Int) = 1)) && (decide (((0 : Int) + (0 : Int)) = 0))) && (decide ((1 : Int) = 1)))) (fun hb => OpQ.env (.cons rfl (gd_t hb) (.nil _) : EnvLe [(59, .int .i64 (2 : Int))] _) (q_eql rfl rfl)) ?_)
  refine l_step (s_q rfl wn (q_pick_and rfl rfl rfl (fun h => h)) ?_)
  refine l_step (s_q rfl wn (q_move rfl) ?_)
  refine l_step (s_qg rfl (ask_t rfl rfl) (b := ((((decide ((1 : Int) = 1)) && (decide (((0 : Int) + (0 : Int)) = 0))) && (decide ((1 : Int) = 1))) && (decide ((2 : Int) = 2)))) (fun hb => q_move rfl) ?_)
  refine l_step (s_qg rfl (ask_t rfl rfl) (b := ((((decide ((1 : Int) = 1)) && (decide (((0 : Int) + (0 : Int)) = 0))) && (decide ((1 : Int) = 1))) && (decide ((2 : Int) = 2)))) (fun hb => OpQ.env (.cons rfl (gd_t hb) (.nil _) : EnvLe [(63, .slice a34 2 c34)] _) (q_indexe 0 Try.underlying31 sz_39 rfl rfl (rd_row (by repeat (first | exact Pick.here | apply Pick.there))) (by decide) rfl (by first | assumption | omega | (have hb2 := hb; (try simp only [Bool.and_eq_true, Bool.or_eq_true, Bool.not_eq_true', Bool.and_eq_false_iff, Bool.or_eq_false_iff, Bool.not_eq_false', decide_eq_true_eq, decide_eq_false_iff_not, Bool.not_eq_eq_eq_not, Bool.not_true, Bool.not_false, Bool.not_eq_true, Bool.not_eq_false, beq_iff_eq, bne_iff_ne, ne_eq, Decidable.not_not] at hb2); omega) | (simp only [List.length_cons, List.length_nil]; omega)))) ?_)
  refine l_step (s_qg rfl (ask_t rfl rfl) (b := ((((decide ((1 : Int) = 1)) && (decide (((0 : Int) + (0 : Int)) = 0))) && (decide ((1 : Int) = 1))) && (decide ((2 : Int) = 2)))) (fun hb => OpQ.env (.cons rfl (gd_t hb) (.nil _) : EnvLe [(64, pe a34 0 7 0)] _) (q_fielde rfl fo_39_0)) ?_)
  refine l_step (s_qg rfl (ask_t rfl rfl) (b := ((((decide ((1 : Int) = 1)) && (decide (((0 : Int) + (0 : Int)) = 0))) && (decide ((1 : Int) = 1))) && (decide ((2 : Int) = 2)))) (fun hb => OpQ.env (.cons rfl (gd_t hb) (.nil _) : EnvLe [(65, pe a34 0 7 0)] _) (q_loade (enc := encOp1) (xs := [opD (⟨7, 5, 0, 0, 1, true⟩ : Rep_), opH (⟨7, 5, 0, 0, 1, true⟩ : Rep_)]) (j := 0) (off := 0) sc_3 rfl (rd_row (by repeat (first | exact Pick.here | apply Pick.there))) (fun _ => rfl) (by first | assumption | omega | (have hb2 := hb; (try simp only [Bool.and_eq_true, Bool.or_eq_true, Bool.not_eq_true', Bool.and_eq_false_iff, Bool.or_eq_false_iff, Bool.not_eq_false', decide_eq_true_eq, decide_eq_false_iff_not, Bool.not_eq_eq_eq_not, Bool.not_true, Bool.not_false, Bool.not_eq_true, Bool.not_eq_false, beq_iff_eq, bne_iff_ne, ne_eq, Decidable.not_not] at hb2); omega) | (simp only [List.length_cons, List.length_nil]; omega)) (by decide) rfl)) ?_)
  refine l_step (s_qg rfl (ask_t rfl rfl) (b := ((((decide ((1 : Int) = 1)) && (decide (((0 : Int) + (0 : Int)) = 0))) && (decide ((1 : Int) = 1))) && (decide ((2 : Int) = 2)))) (fun hb => OpQ.env (.cons rfl (gd_t hb) (.nil _) : EnvLe [(66, .int .i64 (([opD (⟨7, 5, 0, 0, 1, true⟩ : Rep_), opH (⟨7, 5, 0, 0, 1, true⟩ : Rep_)].getD 0 default).Kind))] _) (q_eql rfl rfl)) ?_)
  refine l_step (s_q rfl wn (q_pick_and rfl rfl rfl (fun h => h)) ?_)
  refine l_step (s_q rfl wn (q_move rfl) ?_)
  refine l_step (s_qg rfl (ask_t rfl rfl) (b := (((((decide ((1 : Int) = 1)) && (decide (((0 : Int) + (0 : Int)) = 0))) && (decide ((1 : Int) = 1))) && (decide ((2 : Int) = 2))) && (decide (([opD (⟨7, 5, 0, 0, 1, true⟩ : Rep_), opH (⟨7, 5, 0, 0, 1, true⟩ : Rep_)].getD 0 default).Kind = 6)))) (fun hb => q_move rfl) ?_)
  refine l_step (s_qg rfl (ask_t rfl rfl) (b := (((((decide ((1 : Int) = 1)) && (decide (((0 : Int) + (0 : Int)) = 0))) && (decide ((1 : Int) = 1))) && (decide ((2 : Int) = 2))) && (decide (([opD (⟨7, 5, 0, 0, 1, true⟩ : Rep_), opH (⟨7, 5, 0, 0, 1, true⟩ : Rep_)].getD 0 default).Kind = 6)))) (fun hb => OpQ.env (.cons rfl (gd_t hb) (.nil _) : EnvLe [(70, .slice a34 2 c34)] _) (q_indexe 1 Try.underlying31 sz_39 rfl rfl (rd_row (by repeat (first | exact Pick.here | apply Pick.there))) (by decide) rfl (by first | assumption | omega | (have hb2 := hb; (try simp only [Bool.and_eq_true, Bool.or_eq_true, Bool.not_eq_true', Bool.and_eq_false_iff, Bool.or_eq_false_iff, Bool.not_eq_false', decide_eq_true_eq, decide_eq_false_iff_not, Bool.not_eq_eq_eq_not, Bool.not_true, Bool.not_false, Bool.not_eq_true, Bool.not_eq_false, beq_iff_eq, bne_iff_ne, ne_eq, Decidable.not_not] at hb2); omega) | (simp only [List.length_cons, List.length_nil]; omega)))) ?_)
  refine l_step (s_qg rfl (ask_t rfl rfl) (b := (((((decide ((1 : Int) = 1)) && (decide (((0 : Int) + (0 : Int)) = 0))) && (decide ((1 : Int) = 1))) && (decide ((2 : Int) = 2))) && (decide (([opD (⟨7, 5, 0, 0, 1, true⟩ : Rep_), opH (⟨7, 5, 0, 0, 1, true⟩ : Rep_)].getD 0 default).Kind = 6)))) (fun hb => OpQ.env (.cons rfl (gd_t hb) (.nil _) : EnvLe [(71, pe a34 1 7 0)] _) (q_fielde rfl fo_39_0)) ?_)
  refine l_step (s_qg rfl (ask_t rfl rfl) (b := (((((decide ((1 : Int) = 1)) && (decide (((0 : Int) + (0 : Int)) = 0))) && (decide ((1 : Int) = 1))) && (decide ((2 : Int) = 2))) && (decide (([opD (⟨7, 5, 0, 0, 1, true⟩ : Rep_), opH (⟨7, 5, 0, 0, 1, true⟩ : Rep_)].getD 0 default).Kind = 6)))) (fun hb => OpQ.env (.cons rfl (gd_t hb) (.nil _) : EnvLe [(72, pe a34 1 7 0)] _) (q_loade (enc := encOp1) (xs := [opD (⟨7, 5, 0, 0, 1, true⟩ : Rep_), opH (⟨7, 5, 0, 0, 1, true⟩ : Rep_)]) (j := 1) (off := 0) sc_3 rfl (rd_row (by repeat (first | exact Pick.here | apply Pick.there))) (fun _ => rfl) (by first | assumption | omega | (have hb2 := hb; (try simp only [Bool.and_eq_true, Bool.or_eq_true, Bool.not_eq_true', Bool.and_eq_false_iff, Bool.or_eq_false_iff, Bool.not_eq_false', decide_eq_true_eq, decide_eq_false_iff_not, Bool.not_eq_eq_eq_not, Bool.not_true, Bool.not_false, Bool.not_eq_true, Bool.not_eq_false, beq_iff_eq, bne_iff_ne, ne_eq, Decidable.not_not] at hb2); omega) | (simp only [List.length_cons, List.length_nil]; omega)) (by decide) rfl)) ?_)
  refine l_step (s_qg rfl (ask_t rfl rfl) (b := (((((decide ((1 : Int) = 1)) && (decide (((0 : Int) + (0 : Int)) = 0))) && (decide ((1 : Int) = 1))) && (decide ((2 : Int) = 2))) && (decide (([opD (⟨7, 5, 0, 0, 1, true⟩ : Rep_), opH (⟨7, 5, 0, 0, 1, true⟩ : Rep_)].getD 0 default).Kind = 6)))) (fun hb => OpQ.env (.cons rfl (gd_t hb) (.nil _) : EnvLe [(73, .int .i64 (([opD (⟨7, 5, 0, 0, 1, true⟩ : Rep_), opH (⟨7, 5, 0, 0, 1, true⟩ : Rep_)].getD 1 default).Kind))] _) (q_eql rfl rfl)) ?_)
  refine l_step (s_q rfl wn (q_pick_and rfl rfl rfl (fun h => h)) ?_)
  refine l_step (s_q rfl wn (q_move rfl) ?_)
  refine l_step (s_qg rfl (ask_t rfl rfl) (b := ((((((decide ((1 : Int) = 1)) && (decide (((0 : Int) + (0 : Int)) = 0))) && (decide ((1 : Int) = 1))) && (decide ((2 : Int) = 2))) && (decide (([opD (⟨7, 5, 0, 0, 1, true⟩ : Rep_), opH (⟨7, 5, 0, 0, 1, true⟩ : Rep_)].getD 0 default).Kind = 6))) && (decide (([opD (⟨7, 5, 0, 0, 1, true⟩ : Rep_), opH (⟨7, 5, 0, 0, 1, true⟩ : Rep_)].getD 1 default).Kind = 7)))) (fun hb => q_move rfl) ?_)
  refine l_step (s_qg rfl (ask_t rfl rfl) (b := ((((((decide ((1 : Int) = 1)) && (decide (((0 : Int) + (0 : Int)) = 0))) && (decide ((1 : Int) = 1))) && (decide ((2 : Int) = 2))) && (decide (([opD (⟨7, 5, 0, 0, 1, true⟩ : Rep_), opH (⟨7, 5, 0, 0, 1, true⟩ : Rep_)].getD 0 default).Kind = 6))) && (decide (([opD (⟨7, 5, 0, 0, 1, true⟩ : Rep_), opH (⟨7, 5, 0, 0, 1, true⟩ : Rep_)].getD 1 default).Kind = 7)))) (fun hb => OpQ.env (.cons rfl (gd_t hb) (.nil _) : EnvLe [(77, .slice a38 0 c38)] _) (q_len Try.underlying31 rfl)) ?_)
  refine l_step (s_qg rfl (ask_t rfl rfl) (b := ((((((decide ((1 : Int) = 1)) && (decide (((0 : Int) + (0 : Int)) = 0))) && (decide ((1 : Int) = 1))) && (decide ((2 : Int) = 2))) && (decide (([opD (⟨7, 5, 0, 0, 1, true⟩ : Rep_), opH (⟨7, 5, 0, 0, 1, true⟩ : Rep_)].getD 0 default).Kind = 6))) && (decide (([opD (⟨7, 5, 0, 0, 1, true⟩ : Rep_), opH (⟨7, 5, 0, 0, 1, true⟩ : Rep_)].getD 1 default).Kind = 7)))) (fun hb => OpQ.env (.cons rfl (gd_t hb) (.nil _) : EnvLe [(78, .int .i64 (0 : Int))] _) (q_eql rfl rfl)) ?_)
  refine l_step (s_q rfl wn (q_pick_and rfl rfl rfl (fun h => h)) ?_)
  refine l_step (s_q rfl wn (q_move rfl) ?_)
  refine Tr.env (.cons (t := 81) (v := .bool true) rfl (congrArg Value.bool (by rfl)) (EnvLe.refl _)) ?_
  refine l_step (s_q rfl (wy rfl rfl rfl) (q_move rfl) ?_)
  refine l_step (s_fnb rfl (wy rfl rfl rfl) Try.func15 rfl (by kernel_rfl) rfl (by repeat (first | exact Sel.nil | exact Pick.here | apply Sel.cons | apply Pick.there)) (fun ρ' hL => tick_spec bN (⟨3, 4, bo40, btN, [], [((7 : Int), (⟨1, 5, 4, true⟩ : Told))]⟩ : DD) ρ' (out_nil 4) (show (0 : Int) ≤ 4 ∧ (4 : Int) ≤ 1000000 from by decide)) ?_)
  rintro _ _ ⟨a83, c83, rfl, rfl⟩
  try simp only [List.cons_append, List.nil_append]
  have ht5 : tickF (4 + 1) 3 [] = ([], []) := tick_nil _ _
  simp only [ht5, List.length_nil]
  refine l_step (s_q rfl (wy rfl rfl rfl) (q_len Try.underlying40 rfl) ?_)
  refine l_step (s_q rfl (wy rfl rfl rfl) (q_eql rfl rfl) ?_)
  refine l_step (s_q rfl wn (q_pick rfl rfl rfl) ?_)
  refine l_step (s_q rfl wn (q_assign rfl) ?_)
  refine l_nil ?_
  refine k_then_n ?_
  refine c_ret ?_
  exact t_ret [] rfl (.tmp rfl .nil) rfl (Hp.le_refl _) ⟨rfl, boole (by rfl), rfl⟩ (by (repeat refine Ent.skip ?_); exact Ent.refl _)
end Go.Dsp.A

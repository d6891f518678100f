/-
  The laws over the client, walked: the document's examples; tries; names.
-/
import Derived.Test.YtppngeebdmbeaaaCliW
import Derived.Test.YtppngeebdmbeaaaCliQ
set_option maxRecDepth 100000
set_option maxHeartbeats 4000000
set_option linter.unusedSimpArgs false
set_option linter.unusedVariables false
namespace Go.CliV
open Go Go.SL Go.Proofs Go.Cli
attribute [local irreducible] Go.SL.Ent Go.Cli.AskMem Go.Cli.OwMem
theorem ag_64 : aggSize Try.prog 64 = some 13 := by kernel_rfl
theorem eo_3 : elemOk Try.prog 3 1 8 = true := by kernel_rfl
theorem eo_64 : elemOk Try.prog 64 13 152 = true := by kernel_rfl
theorem fo_50_0 : fieldOff Try.prog 50 0 = some (0, 3) := by kernel_rfl
theorem fo_54_1 : fieldOff Try.prog 54 1 = some (1, 3) := by kernel_rfl
theorem fo_54_2 : fieldOff Try.prog 54 2 = some (2, 3) := by kernel_rfl
theorem fo_54_3 : fieldOff Try.prog 54 3 = some (3, 50) := by kernel_rfl
theorem fo_62_5 : fieldOff Try.prog 62 5 = some (5, 59) := by kernel_rfl
theorem fo_62_6 : fieldOff Try.prog 62 6 = some (6, 60) := by kernel_rfl
theorem fo_62_7 : fieldOff Try.prog 62 7 = some (7, 40) := by kernel_rfl
theorem fo_64_0 : fieldOff Try.prog 64 0 = some (0, 3) := by kernel_rfl
theorem fo_64_1 : fieldOff Try.prog 64 1 = some (1, 3) := by kernel_rfl
theorem fo_64_2 : fieldOff Try.prog 64 2 = some (2, 33) := by kernel_rfl
theorem fo_64_5 : fieldOff Try.prog 64 5 = some (5, 62) := by kernel_rfl
theorem pl_50 : placesOf Try.prog 50 = some [(0, 1), (1, 1), (2, 1), (3, 1), (4, 3)] := by kernel_rfl
theorem pl_54 : placesOf Try.prog 54 = some [(0, 1), (1, 1), (2, 1), (3, 7), (10, 2)] := by kernel_rfl
theorem pl_64 : placesOf Try.prog 64 = some [(0, 1), (1, 1), (2, 1), (3, 1), (4, 1), (5, 8)] := by kernel_rfl
theorem sc_3 : isScalar Try.prog 3 = true := by kernel_rfl
theorem sc_33 : isScalar Try.prog 33 = true := by kernel_rfl
theorem sc_40 : isScalar Try.prog 40 = true := by kernel_rfl
theorem sc_59 : isScalar Try.prog 59 = true := by kernel_rfl
theorem sc_60 : isScalar Try.prog 60 = true := by kernel_rfl
theorem sz_3 : sizeIs Try.prog 3 = some 1 := by kernel_rfl
theorem sz_54 : sizeIs Try.prog 54 = some 12 := by kernel_rfl
theorem sz_64 : sizeIs Try.prog 64 = some 13 := by kernel_rfl
theorem zc_50 : zeroCs Try.prog 50 = some [.int .i64 0, .int .i64 0, .int .i64 0, .bool false, .int .i64 0, .int .i64 0, .slice none 0 0] := by kernel_rfl
theorem zc_54 : zeroCs Try.prog 54 = some [.int .i64 0, .int .i64 0, .int .i64 0, .int .i64 0, .int .i64 0, .int .i64 0, .bool false, .int .i64 0, .int .i64 0, .slice none 0 0, .int .i64 0, .int .i64 0] := by kernel_rfl
theorem zc_64 : zeroCs Try.prog 64 = some [.int .i64 0, .int .i64 0, .int .i64 0, .int .i64 0, .int .i64 0, .int .i64 0, .int .i64 0, .int .i64 0, .int .i64 0, .int .i64 0, .slice none 0 0, .slice none 0 0, .slice none 0 0] := by kernel_rfl

theorem awake_spec (ρ : Hp) : Spec0 Try.prog 21 #[] ρ [] (fun v Γ' => v = .bool true ∧ Γ' = []) := by
  refine spec_of (n := 131) (vs := []) (σ := []) Try.func21 rfl rfl rfl rfl fun E Δ => ?_
  rw [List.nil_append]
  refine c_seq ?_
  refine c_region ?_
  refine l_step (s_q rfl wn (q_assign rfl) ?_)
  refine l_nil ?_
  refine k_then_n ?_
  refine c_seq ?_
  refine c_region ?_
  refine l_step (s_s rfl wn (s_buildSlice Try.underlying40 eo_3 rfl rfl rfl rfl (by decide) (by decide)) ?_)
  rintro _ _ ⟨b23, rfl, rfl⟩
  refine l_step (s_fn rfl wn Try.func23 rfl (by kernel_rfl) rfl (new_spec 7 3 ⟨some ⟨b23, 0, none⟩, [4, 5, 6], 3⟩ (by simp) ρ _ (by exact rd_row (by repeat (first | exact Pick.here | apply Pick.there)))) (sel_all _) ?_)
  rintro _ _ _ - ⟨rfl, hnew⟩
  obtain ⟨bc, a24, c24, rfl, rfl⟩ := or_yes (show newOk 7 3 [4, 5, 6] from by decide) hnew
  clear hnew
  refine Tr.ent (Ent.cast (List.append_nil _)) ?_
  have s0 := st_new 7 3 a24 [4, 5, 6] c24
  generalize hg_c0 : Cl.new 7 3 ⟨a24, [4, 5, 6], c24⟩ = c0 at s0 ⊢
  try simp only [CliM, List.cons_append, List.nil_append, List.append_nil]
  refine l_step (s_q rfl wn (q_move rfl) ?_)
  refine l_step (s_q rfl wn (q_extract rfl rfl) ?_)
  refine l_step (s_q rfl wn (q_extract rfl rfl) ?_)
  refine l_step (s_q rfl wn (q_assign rfl) ?_)
  refine l_step (s_q rfl wn (q_assign rfl) ?_)
  refine l_nil ?_
  refine k_then_n ?_
  refine c_seq ?_
  refine c_seq ?_
  refine c_region ?_
  refine l_step (s_q rfl wn (q_move rfl) ?_)
  refine l_step (s_q rfl wn (by first | exact q_eqlp rfl rfl Try.underlying42 | exact q_eqlp0 rfl rfl Try.underlying42) ?_)
  refine l_step (s_q rfl wn (q_move rfl) ?_)
  refine Tr.env (.cons (t := 29) (v := .bool false) rfl (congrArg Value.bool rfl) (EnvLe.refl _)) ?_
  refine l_step (s_q rfl (wy rfl rfl rfl) (q_move rfl) ?_)
  refine l_step (s_q rfl (wy rfl rfl rfl) (q_neq rfl rfl) ?_)
  refine l_step (s_q rfl wn (q_pick rfl rfl rfl) ?_)
  refine l_step (s_q rfl wn (q_move rfl) ?_)
  refine Tr.env (.cons (t := 33) (v := .bool false) rfl (congrArg Value.bool (by decide)) (EnvLe.refl _)) ?_
  refine l_step (s_q rfl (wy rfl rfl rfl) (q_move rfl) ?_)
  refine l_step (s_q rfl (wy rfl rfl rfl) (q_build (cs := [_, _, _, _, _, _, _, _, _, _, _, _]) zc_54 pl_54 rfl rfl) ?_)
  refine l_step (s_fn rfl (wy rfl rfl rfl) Try.func24 rfl (by kernel_rfl) rfl (begin_spec bc c0 (⟨2, 0, 0, 0, 0, 0, false, 0, 0, ⟨none, [], 0⟩, 0, 0⟩ : AskV) small_nil (by rw [s0.seq]; decide) ρ (askMem_nil _)) (by repeat (first | exact Sel.nil | exact Pick.here | apply Sel.cons | apply Pick.there)) ?_)
  rintro _ _ _ - ⟨rfl, hb⟩
  obtain ⟨w36, hw36, rfl, rfl⟩ := or_beg s0.on ⟨by decide, by decide⟩ hb
  clear hb
  have s1 := st_begun s0 hw36 small_nil
  generalize hg_c1 : Cli.begun c0 (⟨2, 0, 0, 0, 0, 0, false, 0, 0, ⟨none, [], 0⟩, 0, 0⟩ : AskV) w36 = c1 at s1 ⊢
  try simp only [CliM, List.cons_append, List.nil_append, List.append_nil]
  refine l_step (s_q rfl (wy rfl rfl rfl) (q_neq rfl rfl) ?_)
  refine l_step (s_q rfl wn (q_pick rfl rfl rfl) ?_)
  refine l_nil ?_
  refine k_then_n ?_
  refine c_sure false rfl (by decide) ?_
  simp only [Bool.false_eq_true, if_true, if_false]
  refine c_skip ?_
  refine k_then_n ?_
  refine c_seq ?_
  refine c_region ?_
  refine l_step (s_q rfl wn (q_move rfl) ?_)
  refine l_step (s_fn rfl wn Try.func25 rfl (by kernel_rfl) rfl (tick_spec bc c1 (s1.ok (by decide) (by decide)) (by rw [s1.since]; omega) ρ) (by repeat (first | exact Sel.nil | exact Pick.here | apply Sel.cons | apply Pick.there)) ?_)
  rintro _ _ _ - ⟨rfl, ht⟩
  obtain ⟨w41, hw_w41, rfl, rfl⟩ := or_a (s1.sends rfl (by omega)) ht
  clear ht
  have s2 := st_tick2n s1 (by decide)
  have hr_c2 : c1.row.xs.getD (tick2 c1).at_ default = [4, 5, 6].getD (tick2 c1).at_ default := by rw [s1.row]
  rw [hr_c2, s2.at_]
  generalize hg_c2 : tick2 c1 = c2 at s2 ⊢
  try simp only [CliM, List.cons_append, List.nil_append, List.append_nil]
  refine l_step (s_q rfl wn (q_move rfl) ?_)
  refine l_step (s_q rfl wn (q_extract rfl rfl) ?_)
  refine l_step (s_q rfl wn (q_extract rfl rfl) ?_)
  refine l_step (s_q rfl wn (q_extract rfl rfl) ?_)
  refine l_step (s_s rfl wn (s_allocz zc_54) ?_)
  rintro _ _ ⟨b4, rfl, rfl⟩
  refine l_step (s_q rfl wn (q_assign rfl) ?_)
  refine l_step (s_s0 wn (s_storep (ws := encAsk { c1.ask with waves := w41 }) (cs := encAsk askZ) (cs' := encAsk { c1.ask with waves := w41 }) rfl rfl rfl sz_54 (oneAsk _) (by simp [encAsk]) rfl (by repeat (first | exact Pick.here | apply Pick.there))) ?_)
  rintro _ _ ⟨rfl, rfl⟩
  refine l_step (s_q rfl wn (q_assign rfl) ?_)
  refine l_nil ?_
  refine k_then_n ?_
  refine c_seq ?_
  refine c_region ?_
  refine l_step (s_q rfl wn (q_move rfl) ?_)
  refine l_step (s_fn rfl wn Try.func25 rfl (by kernel_rfl) rfl (tick_spec bc c2 (s2.ok (by decide) (by decide)) (by rw [s2.since]; omega) ρ) (by repeat (first | exact Sel.nil | exact Pick.here | apply Sel.cons | apply Pick.there)) ?_)
  rintro _ _ _ - ⟨rfl, ht⟩
  obtain ⟨rfl, rfl⟩ := or_b (s2.idle ⟨rfl, by decide⟩) ht
  clear ht
  have s3 := st_tick1 s2
  generalize hg_c3 : tick1 c2 = c3 at s3 ⊢
  try simp only [CliM, List.cons_append, List.nil_append, List.append_nil]
  refine l_step (s_q rfl wn (q_move rfl) ?_)
  refine l_step (s_q rfl wn (q_extract rfl rfl) ?_)
  refine l_step (s_q rfl wn (q_extract rfl rfl) ?_)
  refine l_step (s_q rfl wn (q_extract rfl rfl) ?_)
  refine l_step (s_s rfl wn (s_allocz zc_54) ?_)
  rintro _ _ ⟨b7, rfl, rfl⟩
  refine l_step (s_q rfl wn (q_assign rfl) ?_)
  refine l_step (s_s0 wn (s_storep (ws := encAsk askZ) (cs := encAsk askZ) (cs' := encAsk askZ) rfl rfl rfl sz_54 (oneAsk _) (by simp [encAsk]) rfl (by repeat (first | exact Pick.here | apply Pick.there))) ?_)
  rintro _ _ ⟨rfl, rfl⟩
  refine l_step (s_q rfl wn (q_assign rfl) ?_)
  refine l_nil ?_
  refine k_then_n ?_
  refine c_seq ?_
  refine c_region ?_
  refine l_step (s_q rfl wn (q_move rfl) ?_)
  refine l_step (s_fn rfl wn Try.func25 rfl (by kernel_rfl) rfl (tick_spec bc c3 (s3.ok (by decide) (by decide)) (by rw [s3.since]; omega) ρ) (by repeat (first | exact Sel.nil | exact Pick.here | apply Sel.cons | apply Pick.there)) ?_)
  rintro _ _ _ - ⟨rfl, ht⟩
  obtain ⟨rfl, rfl⟩ := or_b (s3.idle ⟨rfl, by decide⟩) ht
  clear ht
  have s3b := st_tick1 s3
  generalize hg_c3b : tick1 c3 = c3b at s3b ⊢
  try simp only [CliM, List.cons_append, List.nil_append, List.append_nil]
  refine l_step (s_q rfl wn (q_move rfl) ?_)
  refine l_step (s_q rfl wn (q_extract rfl rfl) ?_)
  refine l_step (s_q rfl wn (q_extract rfl rfl) ?_)
  refine l_step (s_q rfl wn (q_extract rfl rfl) ?_)
  refine l_step (s_s rfl wn (s_allocz zc_54) ?_)
  rintro _ _ ⟨b10, rfl, rfl⟩
  refine l_step (s_q rfl wn (q_assign rfl) ?_)
  refine l_step (s_s0 wn (s_storep (ws := encAsk askZ) (cs := encAsk askZ) (cs' := encAsk askZ) rfl rfl rfl sz_54 (oneAsk _) (by simp [encAsk]) rfl (by repeat (first | exact Pick.here | apply Pick.there))) ?_)
  rintro _ _ ⟨rfl, rfl⟩
  refine l_step (s_q rfl wn (q_assign rfl) ?_)
  refine l_nil ?_
  refine k_then_n ?_
  refine c_seq ?_
  refine c_region ?_
  refine l_step (s_q rfl wn (q_move rfl) ?_)
  refine l_step (s_fn rfl wn Try.func25 rfl (by kernel_rfl) rfl (tick_spec bc c3b (s3b.ok (by decide) (by decide)) (by rw [s3b.since]; omega) ρ) (by repeat (first | exact Sel.nil | exact Pick.here | apply Sel.cons | apply Pick.there)) ?_)
  rintro _ _ _ - ⟨rfl, ht⟩
  obtain ⟨w59, hw_w59, rfl, rfl⟩ := or_a (s3b.sends rfl (by omega)) ht
  clear ht
  have s4 := st_tick2y s3b rfl
  have hr_c4 : c3b.row.xs.getD (tick2 c3b).at_ default = [4, 5, 6].getD (tick2 c3b).at_ default := by rw [s3b.row]
  rw [hr_c4, s4.at_]
  generalize hg_c4 : tick2 c3b = c4 at s4 ⊢
  try simp only [CliM, List.cons_append, List.nil_append, List.append_nil]
  refine l_step (s_q rfl wn (q_move rfl) ?_)
  refine l_step (s_q rfl wn (q_extract rfl rfl) ?_)
  refine l_step (s_q rfl wn (q_extract rfl rfl) ?_)
  refine l_step (s_q rfl wn (q_extract rfl rfl) ?_)
  refine l_step (s_s rfl wn (s_allocz zc_54) ?_)
  rintro _ _ ⟨b13, rfl, rfl⟩
  refine l_step (s_q rfl wn (q_assign rfl) ?_)
  refine l_step (s_s0 wn (s_storep (ws := encAsk { c3b.ask with waves := w59 }) (cs := encAsk askZ) (cs' := encAsk { c3b.ask with waves := w59 }) rfl rfl rfl sz_54 (oneAsk _) (by simp [encAsk]) rfl (by repeat (first | exact Pick.here | apply Pick.there))) ?_)
  rintro _ _ ⟨rfl, rfl⟩
  refine l_step (s_q rfl wn (q_assign rfl) ?_)
  refine l_nil ?_
  refine k_then_n ?_
  refine c_seq ?_
  refine c_region ?_
  refine l_step (s_q rfl wn (q_move rfl) ?_)
  refine l_step (s_q rfl wn (q_build (cs := [_, _, _, _, _, _, _, _, _, _, _, _, _]) zc_64 pl_64 rfl rfl) ?_)
  refine l_step (s_s rfl wn (s_buildSlice Try.underlying58 eo_64 rfl rfl rfl rfl (by decide) (by decide)) ?_)
  rintro _ _ ⟨b65, rfl, rfl⟩
  refine l_step (s_fn rfl wn Try.func27 rfl (by kernel_rfl) rfl (Hear_spec bc c4 (s4.ok (by decide) (by decide)) _ _ [(⟨7, 1, 90, 6, 0, 0, 0, 0, 0, 0, ⟨none, [], 0⟩, ⟨none, [], 0⟩, ⟨none, [], 0⟩⟩ : RepV)] (by simp) ρ [.row 64 13 (some ⟨b65, 0, none⟩) 1 1 ([(⟨7, 1, 90, 6, 0, 0, 0, 0, 0, 0, ⟨none, [], 0⟩, ⟨none, [], 0⟩, ⟨none, [], 0⟩⟩ : RepV)].flatMap encRep)] (by exact rd_row Pick.here)) (by repeat (first | exact Sel.nil | exact Pick.here | apply Sel.cons | apply Pick.there)) ?_)
  rintro _ _ _ - ⟨rfl, rfl, rfl⟩
  rw [hearN_one, hear_off (s4.mine ⟨rfl, rfl, rfl⟩) (s4.off.2 (.inl rfl))]
  have s5 := st_lead (r := (⟨7, 1, 90, 6, 0, 0, 0, 0, 0, 0, ⟨none, [], 0⟩, ⟨none, [], 0⟩, ⟨none, [], 0⟩⟩ : RepV)) (j := 2) s4 (by decide) (by decide)
  generalize hg_c5 : ({ leadTo c4 (⟨7, 1, 90, 6, 0, 0, 0, 0, 0, 0, ⟨none, [], 0⟩, ⟨none, [], 0⟩, ⟨none, [], 0⟩⟩ : RepV) with st := 2 } : Cl) = c5 at s5 ⊢
  try simp only [CliM, List.cons_append, List.nil_append, List.append_nil]
  refine l_step (s_q rfl wn (q_assign rfl) ?_)
  refine l_nil ?_
  refine k_then_n ?_
  refine c_seq ?_
  refine c_region ?_
  refine l_step (s_q rfl wn (q_move rfl) ?_)
  refine l_step (s_fn rfl wn Try.func25 rfl (by kernel_rfl) rfl (tick_spec bc c5 (s5.ok (by decide) (by decide)) (by rw [s5.since]; omega) ρ) (by repeat (first | exact Sel.nil | exact Pick.here | apply Sel.cons | apply Pick.there)) ?_)
  rintro _ _ _ - ⟨rfl, ht⟩
  obtain ⟨w69, hw_w69, rfl, rfl⟩ := or_a (s5.sends rfl (by omega)) ht
  clear ht
  have s6 := st_tick2n s5 (by decide)
  have hr_c6 : c5.row.xs.getD (tick2 c5).at_ default = [4, 5, 6].getD (tick2 c5).at_ default := by rw [s5.row]
  rw [hr_c6, s6.at_]
  generalize hg_c6 : tick2 c5 = c6 at s6 ⊢
  try simp only [CliM, List.cons_append, List.nil_append, List.append_nil]
  refine l_step (s_q rfl wn (q_move rfl) ?_)
  refine l_step (s_q rfl wn (q_extract rfl rfl) ?_)
  refine l_step (s_q rfl wn (q_extract rfl rfl) ?_)
  refine l_step (s_q rfl wn (q_extract rfl rfl) ?_)
  refine l_step (s_s rfl wn (s_allocz zc_54) ?_)
  rintro _ _ ⟨b17, rfl, rfl⟩
  refine l_step (s_q rfl wn (q_assign rfl) ?_)
  refine l_step (s_s0 wn (s_storep (ws := encAsk { c5.ask with waves := w69 }) (cs := encAsk askZ) (cs' := encAsk { c5.ask with waves := w69 }) rfl rfl rfl sz_54 (oneAsk _) (by simp [encAsk]) rfl (by repeat (first | exact Pick.here | apply Pick.there))) ?_)
  rintro _ _ ⟨rfl, rfl⟩
  refine l_step (s_q rfl wn (q_assign rfl) ?_)
  refine l_nil ?_
  refine k_then_n ?_
  refine c_seq ?_
  refine c_region ?_
  refine l_step (s_q rfl wn (q_move rfl) ?_)
  refine l_step (s_q rfl wn (q_build (cs := [_, _, _, _, _, _, _, _, _, _, _, _, _]) zc_64 pl_64 rfl rfl) ?_)
  refine l_step (s_s rfl wn (s_buildSlice Try.underlying58 eo_64 rfl rfl rfl rfl (by decide) (by decide)) ?_)
  rintro _ _ ⟨b75, rfl, rfl⟩
  refine l_step (s_fn rfl wn Try.func27 rfl (by kernel_rfl) rfl (Hear_spec bc c6 (s6.ok (by decide) (by decide)) _ _ [(⟨7, 1, 0, 0, 0, 0, 0, 0, 0, 0, ⟨none, [], 0⟩, ⟨none, [], 0⟩, ⟨none, [], 0⟩⟩ : RepV)] (by simp) ρ [.row 64 13 (some ⟨b75, 0, none⟩) 1 1 ([(⟨7, 1, 0, 0, 0, 0, 0, 0, 0, 0, ⟨none, [], 0⟩, ⟨none, [], 0⟩, ⟨none, [], 0⟩⟩ : RepV)].flatMap encRep)] (by exact rd_row Pick.here)) (by repeat (first | exact Sel.nil | exact Pick.here | apply Sel.cons | apply Pick.there)) ?_)
  rintro _ _ _ - ⟨rfl, rfl, rfl⟩
  rw [hearN_one, hear_over (s6.mine ⟨rfl, rfl, rfl⟩) (fun q => by have := s6.off.1 q; simp at this)]
  have s7 := st_over (r := (⟨7, 1, 0, 0, 0, 0, 0, 0, 0, 0, ⟨none, [], 0⟩, ⟨none, [], 0⟩, ⟨none, [], 0⟩⟩ : RepV)) s6
  generalize hg_c7 : ({ c6 with on := false, over := true, last := (⟨7, 1, 0, 0, 0, 0, 0, 0, 0, 0, ⟨none, [], 0⟩, ⟨none, [], 0⟩, ⟨none, [], 0⟩⟩ : RepV) } : Cl) = c7 at s7 ⊢
  try simp only [CliM, List.cons_append, List.nil_append, List.append_nil]
  refine l_step (s_q rfl wn (q_assign rfl) ?_)
  refine l_nil ?_
  refine k_then_n ?_
  refine c_seq ?_
  refine c_region ?_
  refine l_step (s_q rfl wn (q_move rfl) ?_)
  refine l_step (s_fn rfl wn Try.func26 rfl (by kernel_rfl) rfl (on_spec bc c7 (s7.ok (by decide) (by decide)) ρ) (by repeat (first | exact Sel.nil | exact Pick.here | apply Sel.cons | apply Pick.there)) ?_)
  rintro _ _ _ - ⟨rfl, ho⟩
  obtain ⟨rfl, rfl⟩ := or_off s7.on ho
  clear ho
  try simp only [CliM, List.cons_append, List.nil_append, List.append_nil]
  refine l_step (s_q rfl wn (q_move rfl) ?_)
  refine l_step (s_q rfl wn (q_extract rfl rfl) ?_)
  refine l_step (s_q rfl wn (q_extract rfl rfl) ?_)
  refine l_step (s_s rfl wn (s_allocz zc_54) ?_)
  rintro _ _ ⟨b20, rfl, rfl⟩
  refine l_step (s_s0 wn (s_storep (ws := encAsk askZ) (cs := encAsk askZ) (cs' := encAsk askZ) rfl rfl rfl sz_54 (oneAsk _) (by simp [encAsk]) rfl (by repeat (first | exact Pick.here | apply Pick.there))) ?_)
  rintro _ _ ⟨rfl, rfl⟩
  refine l_step (s_q rfl wn (q_assign rfl) ?_)
  refine l_nil ?_
  refine k_then_n ?_
  refine c_seq ?_
  refine c_region ?_
  refine l_step (s_q rfl wn (q_move rfl) ?_)
  refine l_step (s_q rfl wn (q_eql rfl rfl) ?_)
  refine l_step (s_q rfl wn (q_move rfl) ?_)
  refine Tr.env (.cons (t := 84) (v := .bool true) rfl (congrArg Value.bool (by simp)) (EnvLe.refl _)) ?_
  refine l_step (s_q rfl (wy rfl rfl rfl) (q_move rfl) ?_)
  refine l_step (s_q rfl wn (q_pick rfl rfl rfl) ?_)
  refine l_step (s_q rfl wn (q_move rfl) ?_)
  refine Tr.env (.cons (t := 87) (v := .bool true) rfl (congrArg Value.bool rfl) (EnvLe.refl _)) ?_
  refine l_step (s_q rfl (wy rfl rfl rfl) (by first | exact q_fieldp rfl fo_54_1 | exact q_fielde rfl fo_54_1 | exact q_fieldr rfl fo_54_1) ?_)
  refine l_step (s_q rfl (wy rfl rfl rfl) (by first | exact q_loadp sc_3 rfl (by repeat (first | exact Pick.here | apply Pick.there)) rfl | exact q_loade sc_3 rfl (by first | assumption | exact rd_ro (by assumption) | exact rd_row (by repeat (first | exact Pick.here | apply Pick.there))) (fun _ => rfl) (by first | assumption | omega) (by decide) rfl) ?_)
  refine l_step (s_q rfl (wy rfl rfl rfl) (q_eql rfl rfl) ?_)
  refine l_step (s_q rfl wn (q_pick rfl rfl rfl) ?_)
  refine l_step (s_q rfl wn (q_move rfl) ?_)
  refine Tr.env (.cons (t := 92) (v := .bool true) rfl (congrArg Value.bool (decide_eq_true (s1.who rfl).1)) (EnvLe.refl _)) ?_
  refine l_step (s_q rfl (wy rfl rfl rfl) (by first | exact q_fieldp rfl fo_54_2 | exact q_fielde rfl fo_54_2 | exact q_fieldr rfl fo_54_2) ?_)
  refine l_step (s_q rfl (wy rfl rfl rfl) (by first | exact q_loadp sc_3 rfl (by repeat (first | exact Pick.here | apply Pick.there)) rfl | exact q_loade sc_3 rfl (by first | assumption | exact rd_ro (by assumption) | exact rd_row (by repeat (first | exact Pick.here | apply Pick.there))) (fun _ => rfl) (by first | assumption | omega) (by decide) rfl) ?_)
  refine l_step (s_q rfl (wy rfl rfl rfl) (q_eql rfl rfl) ?_)
  refine l_step (s_q rfl wn (q_pick rfl rfl rfl) ?_)
  refine l_step (s_q rfl wn (q_move rfl) ?_)
  refine Tr.env (.cons (t := 97) (v := .bool true) rfl (congrArg Value.bool (decide_eq_true (s1.who rfl).2)) (EnvLe.refl _)) ?_
  refine l_step (s_q rfl (wy rfl rfl rfl) (q_move rfl) ?_)
  refine l_step (s_q rfl (wy rfl rfl rfl) (q_not rfl) ?_)
  refine l_step (s_q rfl wn (q_pick rfl rfl rfl) ?_)
  refine l_step (s_q rfl wn (q_move rfl) ?_)
  refine Tr.env (.cons (t := 101) (v := .bool true) rfl (congrArg Value.bool rfl) (EnvLe.refl _)) ?_
  refine l_step (s_q rfl (wy rfl rfl rfl) (q_move rfl) ?_)
  refine l_step (s_q rfl (wy rfl rfl rfl) (q_not rfl) ?_)
  refine l_step (s_q rfl wn (q_pick rfl rfl rfl) ?_)
  refine l_step (s_q rfl wn (q_move rfl) ?_)
  refine Tr.env (.cons (t := 105) (v := .bool true) rfl (congrArg Value.bool rfl) (EnvLe.refl _)) ?_
  refine l_step (s_q rfl (wy rfl rfl rfl) (q_move rfl) ?_)
  refine l_step (s_q rfl (wy rfl rfl rfl) (q_eql rfl rfl) ?_)
  refine l_step (s_q rfl wn (q_pick rfl rfl rfl) ?_)
  refine l_step (s_q rfl wn (q_move rfl) ?_)
  refine Tr.env (.cons (t := 109) (v := .bool true) rfl (congrArg Value.bool (by simp)) (EnvLe.refl _)) ?_
  refine l_step (s_q rfl (wy rfl rfl rfl) (q_move rfl) ?_)
  refine l_step (s_q rfl wn (q_pick rfl rfl rfl) ?_)
  refine l_step (s_q rfl wn (q_move rfl) ?_)
  refine Tr.env (.cons (t := 112) (v := .bool true) rfl (congrArg Value.bool rfl) (EnvLe.refl _)) ?_
  refine l_step (s_q rfl (wy rfl rfl rfl) (q_move rfl) ?_)
  refine l_step (s_q rfl (wy rfl rfl rfl) (q_eql rfl rfl) ?_)
  refine l_step (s_q rfl wn (q_pick rfl rfl rfl) ?_)
  refine l_step (s_q rfl wn (q_move rfl) ?_)
  refine Tr.env (.cons (t := 116) (v := .bool true) rfl (congrArg Value.bool (by simp)) (EnvLe.refl _)) ?_
  refine l_step (s_q rfl (wy rfl rfl rfl) (q_move rfl) ?_)
  refine l_step (s_q rfl (wy rfl rfl rfl) (q_eql rfl rfl) ?_)
  refine l_step (s_q rfl wn (q_pick rfl rfl rfl) ?_)
  refine l_step (s_q rfl wn (q_move rfl) ?_)
  refine Tr.env (.cons (t := 120) (v := .bool true) rfl (congrArg Value.bool (by simp)) (EnvLe.refl _)) ?_
  refine l_step (s_q rfl (wy rfl rfl rfl) (q_move rfl) ?_)
  refine l_step (s_q rfl wn (q_pick rfl rfl rfl) ?_)
  refine l_step (s_q rfl wn (q_move rfl) ?_)
  refine Tr.env (.cons (t := 123) (v := .bool true) rfl (congrArg Value.bool rfl) (EnvLe.refl _)) ?_
  refine l_step (s_q rfl (wy rfl rfl rfl) (q_move rfl) ?_)
  refine l_step (s_q rfl (wy rfl rfl rfl) (q_eql rfl rfl) ?_)
  refine l_step (s_q rfl wn (q_pick rfl rfl rfl) ?_)
  refine l_step (s_q rfl wn (q_move rfl) ?_)
  refine Tr.env (.cons (t := 127) (v := .bool true) rfl (congrArg Value.bool (by simp)) (EnvLe.refl _)) ?_
  refine l_step (s_q rfl (wy rfl rfl rfl) (q_move rfl) ?_)
  refine l_step (s_q rfl (wy rfl rfl rfl) (q_not rfl) ?_)
  refine l_step (s_q rfl wn (q_pick rfl rfl rfl) ?_)
  refine l_step (s_q rfl wn (q_assign rfl) ?_)
  refine l_nil ?_
  refine k_then_n ?_
  refine c_ret ?_
  exact t_ret [] rfl (.tmp rfl .nil) rfl (Hp.le_refl _) ⟨rfl, rfl, rfl⟩ (by (repeat refine Ent.skip ?_); exact Ent.refl _)

theorem tries_spec (fr : Int) (S : SL Int) (tk : Int) (ρ : Hp) (hS : Ro ρ 1 S.a S.xs.length S.cap (S.xs.flatMap encI)) : Spec0 Try.prog 7 #[.int .i64 fr, .slice S.a S.xs.length S.cap, .int .i64 tk] ρ [] (fun v Γ' => v = .bool true ∧ Γ' = []) := by
  refine spec_of (n := 106) (vs := [_, _, _]) (σ := [(0, _), (1, _), (2, _)]) Try.func7 rfl rfl rfl rfl fun E Δ => ?_
  rw [List.nil_append]
  refine c_seq ?_
  refine c_region ?_
  refine l_step (s_q rfl wn (q_assign rfl) ?_)
  refine l_nil ?_
  refine k_then_n ?_
  refine c_seq ?_
  refine c_seq ?_
  refine c_region ?_
  refine l_step (s_fn rfl wn Try.func21 rfl (by kernel_rfl) rfl (awake_spec ρ) (by repeat (first | exact Sel.nil | exact Pick.here | apply Sel.cons | apply Pick.there)) ?_)
  rintro _ _ _ - ⟨rfl, rfl, rfl⟩
  try simp only [List.cons_append, List.nil_append]
  refine l_step (s_q rfl wn (q_not rfl) ?_)
  refine l_step (s_q rfl wn (q_move rfl) ?_)
  refine Tr.env (.cons (t := 18) (v := .bool false) rfl (congrArg Value.bool rfl) (EnvLe.refl _)) ?_
  refine l_step (s_q rfl (wy rfl rfl rfl) (q_move rfl) ?_)
  refine l_step (s_fn rfl (wy rfl rfl rfl) Try.func22 rfl (by kernel_rfl) rfl (right_spec 0 1 S ρ [] (rd_ro hS)) (by repeat (first | exact Sel.nil | exact Pick.here | apply Sel.cons | apply Pick.there)) ?_)
  rintro _ _ _ - ⟨rfl, rfl, rfl⟩
  try simp only [List.cons_append, List.nil_append]
  refine l_step (s_q rfl (wy rfl rfl rfl) (q_not rfl) ?_)
  refine l_step (s_q rfl wn (q_pick rfl rfl rfl) ?_)
  refine l_step (s_q rfl wn (q_move rfl) ?_)
  first | refine t_splitd (d := 23) rfl (fun g1_7 => ?_) (fun g1_7 => ?_) | refine t_split (d := 23) rfl (fun g1_7 => ?_) (fun g1_7 => ?_)
  · skip
    refine l_step (s_no rfl (wno rfl rfl (by decide)) ?_)
    refine l_step (s_no rfl (wno rfl rfl (by decide)) ?_)
    refine l_step (s_no rfl (wno rfl rfl (by decide)) ?_)
    refine l_step (s_q rfl wn (q_pick rfl rfl rfl) ?_)
    refine l_nil ?_
    refine k_then_n ?_
    refine c_yes rfl ?_
    refine c_seq ?_
    refine c_region ?_
    refine l_step (s_fn rfl wn Try.func21 rfl (by kernel_rfl) rfl (awake_spec ρ) (by repeat (first | exact Sel.nil | exact Pick.here | apply Sel.cons | apply Pick.there)) ?_)
    rintro _ _ _ - ⟨rfl, rfl, rfl⟩
    try simp only [List.cons_append, List.nil_append]
    refine l_step (s_q rfl wn (q_assign rfl) ?_)
    refine l_nil ?_
    refine k_then_n ?_
    refine c_ret ?_
    refine k_then_r ?_
    exact t_ret [] rfl (.tmp rfl .nil) rfl (Hp.le_refl _) ⟨rfl, rfl, rfl⟩ (by (repeat refine Ent.skip ?_); exact Ent.refl _)
  · skip
    refine l_step (s_q rfl (wy rfl rfl rfl) (q_move rfl) ?_)
    refine l_step (s_q rfl (wy rfl rfl rfl) (q_len Try.underlying40 rfl) ?_)
    refine l_step (s_q rfl (wy rfl rfl rfl) (q_gtr rfl rfl) ?_)
    refine l_step (s_q rfl wn (q_pick rfl rfl rfl) ?_)
    refine l_nil ?_
    refine k_then_n ?_
    first | refine c_if rfl (fun h0 => ?_) (fun h0 => ?_) | refine c_cond rfl (fun h0 => ?_) (fun h0 => ?_)
    · skip
      refine c_seq ?_
      refine c_region ?_
      refine l_step (s_fn rfl wn Try.func21 rfl (by kernel_rfl) rfl (awake_spec ρ) (by repeat (first | exact Sel.nil | exact Pick.here | apply Sel.cons | apply Pick.there)) ?_)
      rintro _ _ _ - ⟨rfl, rfl, rfl⟩
      try simp only [List.cons_append, List.nil_append]
      refine l_step (s_q rfl wn (q_assign rfl) ?_)
      refine l_nil ?_
      refine k_then_n ?_
      refine c_ret ?_
      refine k_then_r ?_
      exact t_ret [] rfl (.tmp rfl .nil) rfl (Hp.le_refl _) ⟨rfl, rfl, rfl⟩ (by (repeat refine Ent.skip ?_); exact Ent.refl _)
    · skip
      have hok : newOk 0 1 S.xs := by simpa using g1_7
      obtain ⟨⟨-, -, -, -, hne⟩, hpos, hnd⟩ := hok
      have hlen := List.length_pos_iff.2 hne
      have m1 := Int.tmod_lt_of_pos fr (show (0 : Int) < 15 by decide)
      have m2 := Int.lt_tmod_of_pos fr (show (0 : Int) < 15 by decide)
      have m3 := Int.tmod_lt_of_pos tk (show (0 : Int) < 200 by decide)
      have m4 := Int.lt_tmod_of_pos tk (show (0 : Int) < 200 by decide)
      refine c_skip ?_
      refine k_then_n ?_
      refine c_seq ?_
      refine c_region ?_
      refine l_step (s_q rfl wn (q_move rfl) ?_)
      refine l_step (s_q rfl wn (by first | exact q_remp rfl rfl (by omega) (by omega) | exact q_rem rfl rfl (by omega)) ?_)
      refine l_step (s_q rfl wn (by first | exact q_add rfl rfl (by omega) (by omega) | exact q_addw rfl rfl) ?_)
      refine l_step (s_q rfl wn (by first | exact q_remp rfl rfl (by omega) (by omega) | exact q_rem rfl rfl (by omega)) ?_)
      refine l_step (s_q rfl wn (by first | exact q_add rfl rfl (by omega) (by omega) | exact q_addw rfl rfl) ?_)
      refine l_step (s_q rfl wn (q_move rfl) ?_)
      refine l_step (s_q rfl wn (by first | exact q_remp rfl rfl (by omega) (by omega) | exact q_rem rfl rfl (by omega)) ?_)
      refine l_step (s_q rfl wn (by first | exact q_add rfl rfl (by omega) (by omega) | exact q_addw rfl rfl) ?_)
      refine l_step (s_q rfl wn (by first | exact q_remp rfl rfl (by omega) (by omega) | exact q_rem rfl rfl (by omega)) ?_)
      refine l_step (s_q rfl wn (q_assign rfl) ?_)
      refine l_step (s_q rfl wn (q_assign rfl) ?_)
      refine l_nil ?_
      refine k_then_n ?_
      refine c_seq ?_
      refine c_region ?_
      obtain ⟨n, hn⟩ : ∃ k : Nat, (1 + (fr.tmod 15 + 15) % 15 : Int) = (k : Int) := ⟨_, (Int.toNat_of_nonneg (by omega)).symm⟩
      obtain ⟨T, hT⟩ : ∃ k : Nat, ((tk.tmod 200 + 200) % 200 : Int) = (k : Int) := ⟨_, (Int.toNat_of_nonneg (by omega)).symm⟩
      rw [hn, hT]
      have hn1 : 0 < n := by omega
      have hn2 : n ≤ 15 := by omega
      have hT2 : T < 200 := by omega
      refine l_step (s_q rfl wn (q_move rfl) ?_)
      refine l_step (s_q rfl wn (q_move rfl) ?_)
      refine l_step (s_fn rfl wn Try.func23 rfl (by kernel_rfl) rfl (new_spec 3 n S (by omega) ρ [] (rd_ro hS)) (by repeat (first | exact Sel.nil | exact Pick.here | apply Sel.cons | apply Pick.there)) ?_)
      rintro _ _ _ - ⟨rfl, hnew⟩
      obtain ⟨bc, a41, c41, rfl, rfl⟩ := or_yes (show newOk 3 n S.xs from ⟨⟨by decide, by decide, by omega, by omega, hne⟩, hpos, hnd⟩) hnew
      clear hnew
      have s0 := st_new 3 n a41 S.xs c41
      generalize hg_c0 : Cl.new 3 n ⟨a41, S.xs, c41⟩ = c0 at s0 ⊢
      try simp only [CliM, List.cons_append, List.nil_append, List.append_nil]
      refine l_step (s_q rfl wn (q_move rfl) ?_)
      refine l_step (s_q rfl wn (q_extract rfl rfl) ?_)
      refine l_step (s_q rfl wn (q_extract rfl rfl) ?_)
      refine l_step (s_q rfl wn (q_assign rfl) ?_)
      refine l_step (s_q rfl wn (q_assign rfl) ?_)
      refine l_nil ?_
      refine k_then_n ?_
      refine c_seq ?_
      refine c_seq ?_
      refine c_region ?_
      refine l_step (s_q rfl wn (q_move rfl) ?_)
      refine l_step (s_q rfl wn (by first | exact q_eqlp rfl rfl Try.underlying42 | exact q_eqlp0 rfl rfl Try.underlying42) ?_)
      refine l_step (s_q rfl wn (q_move rfl) ?_)
      refine Tr.env (.cons (t := 46) (v := .bool false) rfl (congrArg Value.bool rfl) (EnvLe.refl _)) ?_
      refine l_step (s_q rfl (wy rfl rfl rfl) (q_move rfl) ?_)
      refine l_step (s_q rfl (wy rfl rfl rfl) (q_neq rfl rfl) ?_)
      refine l_step (s_q rfl wn (q_pick rfl rfl rfl) ?_)
      refine l_step (s_q rfl wn (q_move rfl) ?_)
      refine Tr.env (.cons (t := 50) (v := .bool false) rfl (congrArg Value.bool (by simp)) (EnvLe.refl _)) ?_
      refine l_step (s_q rfl (wy rfl rfl rfl) (q_move rfl) ?_)
      refine l_step (s_q rfl (wy rfl rfl rfl) (q_build (cs := [_, _, _, _, _, _, _]) zc_50 pl_50 rfl rfl) ?_)
      refine l_step (s_q rfl (wy rfl rfl rfl) (q_build (cs := [_, _, _, _, _, _, _, _, _, _, _, _]) zc_54 pl_54 rfl rfl) ?_)
      refine l_step (s_fn rfl (wy rfl rfl rfl) Try.func24 rfl (by kernel_rfl) rfl (begin_spec bc c0 (⟨1, 0, 0, 2, 0, 0, false, 0, 0, ⟨none, [], 0⟩, 0, 0⟩ : AskV) small_nil (by rw [s0.seq]; decide) ρ (askMem_nil _)) (by repeat (first | exact Sel.nil | exact Pick.here | apply Sel.cons | apply Pick.there)) ?_)
      rintro _ _ _ - ⟨rfl, hb⟩
      obtain ⟨w36, hw36, rfl, rfl⟩ := or_beg s0.on ⟨by decide, by decide⟩ hb
      clear hb
      have s1 := st_begun s0 hw36 small_nil
      generalize hg_c1 : Cli.begun c0 (⟨1, 0, 0, 2, 0, 0, false, 0, 0, ⟨none, [], 0⟩, 0, 0⟩ : AskV) w36 = c1 at s1 ⊢
      try simp only [CliM, List.cons_append, List.nil_append, List.append_nil]
      refine l_step (s_q rfl (wy rfl rfl rfl) (q_neq rfl rfl) ?_)
      refine l_step (s_q rfl wn (q_pick rfl rfl rfl) ?_)
      refine l_nil ?_
      refine k_then_n ?_
      refine c_sure false rfl (by simp) ?_
      simp only [Bool.false_eq_true, if_true, if_false]
      refine c_skip ?_
      refine k_then_n ?_
      refine c_seq ?_
      refine c_region ?_
      refine l_step (s_q rfl wn (q_assign rfl) ?_)
      refine l_nil ?_
      refine k_then_n ?_
      refine c_seq ?_
      refine c_seq ?_
      refine c_region ?_
      refine l_step (s_q rfl wn (q_assign rfl) ?_)
      refine l_nil ?_
      refine k_then_n ?_
      refine c_block ?_
      refine t_loop (ι := TS) (fun x => x.i ≤ T ∧ TrI n S.xs x.i x.sent x.c ∧ x.sent ≤ x.i) (fun x => T - x.i) (fun x => [(1, .slice S.a S.xs.length S.cap), (7, .int .i64 (n : Int)), (8, .int .i64 (T : Int)), (9, .pointer (some ⟨bc, 0, none⟩)), (11, .int .i64 (x.sent : Int)), (12, .int .i64 (x.i : Int))]) (fun x => CliM 3 122 bc x.c ++ Δ) ⟨0, 0, c1⟩ ⟨Nat.zero_le _, ⟨0, 0, 0, s1, .inl ⟨rfl, rfl, rfl, rfl, rfl⟩⟩, Nat.le_refl _⟩ ?_ ?_ ?_
      · exact .cons rfl (by first | rfl | (simp; done) | simp [*]) (.cons rfl (by first | rfl | (simp; done) | simp [*]) (.cons rfl (by first | rfl | (simp; done) | simp [*]) (.cons rfl (by first | rfl | (simp; done) | simp [*]) (.cons rfl (by first | rfl | (simp; done) | simp [*]) (.cons rfl (by first | rfl | (simp; done) | simp [*]) (.nil _))))))
      · exact Ent.refl _
      intro x hx
      obtain ⟨hx1, hx2, hx3⟩ := hx
      obtain ⟨ok, hsn⟩ := tri_ok hx2 hlen (by omega) hn1 hn2
      have hm := Nat.mod_lt x.sent hlen
      try simp only [CliM, List.cons_append, List.nil_append, List.append_nil]
      refine c_seq ?_
      refine c_seq ?_
      refine c_region ?_
      refine l_step (s_q rfl wn (q_move rfl) ?_)
      refine l_step (s_q rfl wn (q_move rfl) ?_)
      refine l_step (s_q rfl wn (q_lss rfl rfl) ?_)
      refine l_nil ?_
      refine k_then_n ?_
      first | refine c_if rfl (fun h2 => ?_) (fun h2 => ?_) | refine c_cond rfl (fun h2 => ?_) (fun h2 => ?_)
      · skip
        refine c_skip ?_
        refine k_then_n ?_
        refine c_seq ?_
        refine c_block ?_
        refine c_seq ?_
        refine c_region ?_
        refine l_step (s_q rfl wn (q_move rfl) ?_)
        refine l_step (s_fn rfl wn Try.func25 rfl (by kernel_rfl) rfl (tick_spec bc x.c ok hsn ρ) (by repeat (first | exact Sel.nil | exact Pick.here | apply Sel.cons | apply Pick.there)) ?_)
        rintro _ _ _ - ⟨rfl, (⟨hs, rfl, rfl⟩ | ⟨hs, w66, hw66, rfl, rfl⟩)⟩
        · skip
          try simp only [CliM, List.cons_append, List.nil_append, List.append_nil]
          have hI := tri_idle hx2 hn1 hs
          refine l_step (s_q rfl wn (q_move rfl) ?_)
          refine l_step (s_q rfl wn (q_extract rfl rfl) ?_)
          refine l_step (s_q rfl wn (q_extract rfl rfl) ?_)
          refine l_step (s_q rfl wn (q_extract rfl rfl) ?_)
          refine l_step (s_s rfl wn (s_allocz zc_54) ?_)
          rintro _ _ ⟨b14, rfl, rfl⟩
          refine l_step (s_q rfl wn (q_assign rfl) ?_)
          refine l_step (s_s0 wn (s_storep (ws := encAsk askZ) (cs := encAsk askZ) (cs' := encAsk askZ) rfl rfl rfl sz_54 (oneAsk _) (by simp [encAsk]) rfl (by repeat (first | exact Pick.here | apply Pick.there))) ?_)
          rintro _ _ ⟨rfl, rfl⟩
          refine l_step (s_q rfl wn (q_assign rfl) ?_)
          refine l_nil ?_
          refine k_then_n ?_
          refine c_seq ?_
          refine c_seq ?_
          refine c_region ?_
          refine l_step (s_q rfl wn (q_move rfl) ?_)
          refine l_step (s_q rfl wn (q_move rfl) ?_)
          refine l_step (s_q rfl wn (q_move rfl) ?_)
          refine l_step (s_q rfl wn (q_remn (m := x.i) (q := n) rfl rfl rfl rfl hn1) ?_)
          refine l_step (s_q rfl wn (q_eql rfl rfl) ?_)
          refine l_step (s_q rfl wn (q_neqb rfl rfl Try.underlying4) ?_)
          refine l_nil ?_
          refine k_then_n ?_
          refine c_sure false rfl (chk_no hI.1) ?_
          simp only [Bool.false_eq_true, if_true, if_false]
          refine c_skip ?_
          refine k_then_n ?_
          refine c_seq ?_
          refine c_region ?_
          refine l_step (s_q rfl wn (q_move rfl) ?_)
          refine l_nil ?_
          refine k_then_n ?_
          refine c_no rfl ?_
          refine c_skip ?_
          refine k_blk_n ?_
          refine k_then_n ?_
          refine c_region ?_
          refine l_step (s_q rfl wn (q_move rfl) ?_)
          refine l_step (s_q rfl wn (by first | exact q_add rfl rfl (by omega) (by omega) | exact q_addw rfl rfl) ?_)
          refine l_step (s_q rfl wn (q_assign rfl) ?_)
          refine l_nil ?_
          refine k_then_n ?_
          exact t_next ⟨x.i + 1, x.sent, tick1 x.c⟩ ⟨⟨by simp only []; omega, hI.2, by simp only []; omega⟩, by simp only []; omega⟩ (.cons rfl (by first | rfl | (simp; done) | simp [*]) (.cons rfl (by first | rfl | (simp; done) | simp [*]) (.cons rfl (by first | rfl | (simp; done) | simp [*]) (.cons rfl (by first | rfl | (simp; done) | simp [*]) (.cons rfl (by first | rfl | (simp; done) | simp [*]) (.cons rfl (by first | rfl | (simp; done) | simp [*]) (.nil _))))))) (by simp only [CliM, List.cons_append, List.nil_append]; exact (by repeat (first | exact Ent.nil _ | exact Ent.refl _ | (refine Ent.pick (by repeat (first | exact Pick.here | apply Pick.there)) ?_) | refine Ent.skip ?_)))
        · skip
          try simp only [CliM, List.cons_append, List.nil_append, List.append_nil]
          have hI := tri_send hx2 hn1 hlen hs
          refine l_step (s_q rfl wn (q_move rfl) ?_)
          refine l_step (s_q rfl wn (q_extract rfl rfl) ?_)
          refine l_step (s_q rfl wn (q_extract rfl rfl) ?_)
          refine l_step (s_q rfl wn (q_extract rfl rfl) ?_)
          refine l_step (s_s rfl wn (s_allocz zc_54) ?_)
          rintro _ _ ⟨b14, rfl, rfl⟩
          refine l_step (s_q rfl wn (q_assign rfl) ?_)
          refine l_step (s_s0 wn (s_storep (ws := encAsk { x.c.ask with waves := w66 }) (cs := encAsk askZ) (cs' := encAsk { x.c.ask with waves := w66 }) rfl rfl rfl sz_54 (oneAsk _) (by simp [encAsk]) rfl (by repeat (first | exact Pick.here | apply Pick.there))) ?_)
          rintro _ _ ⟨rfl, rfl⟩
          refine l_step (s_q rfl wn (q_assign rfl) ?_)
          refine l_nil ?_
          refine k_then_n ?_
          refine c_seq ?_
          refine c_seq ?_
          refine c_region ?_
          refine l_step (s_q rfl wn (q_move rfl) ?_)
          refine l_step (s_q rfl wn (q_move rfl) ?_)
          refine l_step (s_q rfl wn (q_move rfl) ?_)
          refine l_step (s_q rfl wn (q_remn (m := x.i) (q := n) rfl rfl rfl rfl hn1) ?_)
          refine l_step (s_q rfl wn (q_eql rfl rfl) ?_)
          refine l_step (s_q rfl wn (q_neqb rfl rfl Try.underlying4) ?_)
          refine l_nil ?_
          refine k_then_n ?_
          refine c_sure false rfl (chk_yes hI.1) ?_
          simp only [Bool.false_eq_true, if_true, if_false]
          refine c_skip ?_
          refine k_then_n ?_
          refine c_seq ?_
          refine c_region ?_
          refine l_step (s_q rfl wn (q_move rfl) ?_)
          refine l_nil ?_
          refine k_then_n ?_
          refine c_yes rfl ?_
          refine c_seq ?_
          refine c_seq ?_
          refine c_region ?_
          refine l_step (s_q rfl wn (q_move rfl) ?_)
          refine l_step (s_q rfl wn (q_move rfl) ?_)
          refine l_step (s_q rfl wn (q_move rfl) ?_)
          refine l_step (s_q rfl wn (q_move rfl) ?_)
          refine l_step (s_q rfl wn (q_len Try.underlying40 rfl) ?_)
          refine l_step (s_q rfl wn (q_remn (m := x.sent) (q := S.xs.length) rfl rfl rfl rfl hlen) ?_)
          refine l_step (s_q rfl wn (q_indexe (x.sent % S.xs.length) Try.underlying40 sz_3 rfl rfl (rd_ro hS) (by decide) rfl hm) ?_)
          refine l_step (s_q rfl wn (by first | exact q_loadp sc_3 rfl (by repeat (first | exact Pick.here | apply Pick.there)) rfl | exact q_loade sc_3 rfl (by first | assumption | exact rd_ro (by assumption) | exact rd_row (by repeat (first | exact Pick.here | apply Pick.there))) (fun _ => rfl) (by first | assumption | omega) (by decide) rfl) ?_)
          refine l_step (s_q rfl wn (q_neq rfl rfl) ?_)
          refine l_step (s_q rfl wn (q_move rfl) ?_)
          refine Tr.env (.cons (t := 84) (v := .bool false) rfl (congrArg Value.bool (decide_eq_false (fun h => h hI.2.1))) (EnvLe.refl _)) ?_
          refine l_step (s_q rfl (wy rfl rfl rfl) (by first | exact q_fieldp rfl fo_54_1 | exact q_fielde rfl fo_54_1 | exact q_fieldr rfl fo_54_1) ?_)
          refine l_step (s_q rfl (wy rfl rfl rfl) (by first | exact q_loadp sc_3 rfl (by repeat (first | exact Pick.here | apply Pick.there)) rfl | exact q_loade sc_3 rfl (by first | assumption | exact rd_ro (by assumption) | exact rd_row (by repeat (first | exact Pick.here | apply Pick.there))) (fun _ => rfl) (by first | assumption | omega) (by decide) rfl) ?_)
          refine l_step (s_q rfl (wy rfl rfl rfl) (q_neq rfl rfl) ?_)
          refine l_step (s_q rfl wn (q_pick rfl rfl rfl) ?_)
          refine l_step (s_q rfl wn (q_move rfl) ?_)
          refine Tr.env (.cons (t := 89) (v := .bool false) rfl (congrArg Value.bool (decide_eq_false (fun h => h hI.2.2.2.1))) (EnvLe.refl _)) ?_
          refine l_step (s_q rfl (wy rfl rfl rfl) (by first | exact q_fieldp rfl fo_54_2 | exact q_fielde rfl fo_54_2 | exact q_fieldr rfl fo_54_2) ?_)
          refine l_step (s_q rfl (wy rfl rfl rfl) (by first | exact q_loadp sc_3 rfl (by repeat (first | exact Pick.here | apply Pick.there)) rfl | exact q_loade sc_3 rfl (by first | assumption | exact rd_ro (by assumption) | exact rd_row (by repeat (first | exact Pick.here | apply Pick.there))) (fun _ => rfl) (by first | assumption | omega) (by decide) rfl) ?_)
          refine l_step (s_q rfl (wy rfl rfl rfl) (q_neq rfl rfl) ?_)
          refine l_step (s_q rfl wn (q_pick rfl rfl rfl) ?_)
          refine l_step (s_q rfl wn (q_move rfl) ?_)
          refine Tr.env (.cons (t := 94) (v := .bool false) rfl (congrArg Value.bool (decide_eq_false (fun h => h hI.2.2.2.2.1))) (EnvLe.refl _)) ?_
          refine l_step (s_q rfl (wy rfl rfl rfl) (by first | exact q_fieldp rfl fo_54_3 | exact q_fielde rfl fo_54_3 | exact q_fieldr rfl fo_54_3) ?_)
          refine l_step (s_q rfl (wy rfl rfl rfl) (by first | exact q_fieldp rfl fo_50_0 | exact q_fielde rfl fo_50_0 | exact q_fieldr rfl fo_50_0) ?_)
          refine l_step (s_q rfl (wy rfl rfl rfl) (by first | exact q_loadp sc_3 rfl (by repeat (first | exact Pick.here | apply Pick.there)) rfl | exact q_loade sc_3 rfl (by first | assumption | exact rd_ro (by assumption) | exact rd_row (by repeat (first | exact Pick.here | apply Pick.there))) (fun _ => rfl) (by first | assumption | omega) (by decide) rfl) ?_)
          refine l_step (s_q rfl (wy rfl rfl rfl) (q_neq rfl rfl) ?_)
          refine l_step (s_q rfl wn (q_pick rfl rfl rfl) ?_)
          refine l_nil ?_
          refine k_then_n ?_
          refine c_sure false rfl (decide_eq_false (fun h => h hI.2.2.2.2.2)) ?_
          simp only [Bool.false_eq_true, if_true, if_false]
          refine c_skip ?_
          refine k_then_n ?_
          refine c_region ?_
          refine l_step (s_q rfl wn (q_move rfl) ?_)
          refine l_step (s_q rfl wn (by first | exact q_add rfl rfl (by omega) (by omega) | exact q_addw rfl rfl) ?_)
          refine l_step (s_q rfl wn (q_assign rfl) ?_)
          refine l_nil ?_
          refine k_blk_n ?_
          refine k_then_n ?_
          refine c_region ?_
          refine l_step (s_q rfl wn (q_move rfl) ?_)
          refine l_step (s_q rfl wn (by first | exact q_add rfl rfl (by omega) (by omega) | exact q_addw rfl rfl) ?_)
          refine l_step (s_q rfl wn (q_assign rfl) ?_)
          refine l_nil ?_
          refine k_then_n ?_
          exact t_next ⟨x.i + 1, x.sent + 1, tick2 x.c⟩ ⟨⟨by simp only []; omega, hI.2.2.1, by simp only []; omega⟩, by simp only []; omega⟩ (.cons rfl (by first | rfl | (simp; done) | simp [*]) (.cons rfl (by first | rfl | (simp; done) | simp [*]) (.cons rfl (by first | rfl | (simp; done) | simp [*]) (.cons rfl (by first | rfl | (simp; done) | simp [*]) (.cons rfl (by first | rfl | (simp; done) | simp [*]) (.cons rfl (by first | rfl | (simp; done) | simp [*]) (.nil _))))))) (by simp only [CliM, List.cons_append, List.nil_append]; exact (by repeat (first | exact Ent.nil _ | exact Ent.refl _ | (refine Ent.pick (by repeat (first | exact Pick.here | apply Pick.there)) ?_) | refine Ent.skip ?_)))
      · skip
        refine c_exit ?_
        refine k_then_x ?_
        refine k_then_x ?_
        refine k_blk_x ?_
        refine k_then_n ?_
        refine c_seq ?_
        refine c_region ?_
        refine l_step (s_q rfl wn (q_move rfl) ?_)
        refine l_step (s_q rfl wn (q_build (cs := [_, _, _, _, _, _, _, _, _, _, _, _]) zc_54 pl_54 rfl rfl) ?_)
        refine l_step (s_fn rfl wn Try.func24 rfl (by kernel_rfl) rfl (begin_spec bc x.c (⟨2, 0, 0, 0, 0, 0, false, 0, 0, ⟨none, [], 0⟩, 0, 0⟩ : AskV) small_nil (by rw [(tri_on hx2).1]; decide) ρ (askMem_nil _)) (by repeat (first | exact Sel.nil | exact Pick.here | apply Sel.cons | apply Pick.there)) ?_)
        rintro _ _ _ - ⟨rfl, hb⟩
        obtain ⟨rfl, rfl⟩ := or_busy (tri_on hx2).2 hb
        clear hb
        try simp only [CliM, List.cons_append, List.nil_append, List.append_nil]
        refine l_step (s_q rfl wn (q_eql rfl rfl) ?_)
        refine l_step (s_q rfl wn (q_assign rfl) ?_)
        refine l_nil ?_
        refine k_then_n ?_
        refine c_ret ?_
        exact t_ret [] rfl (.tmp rfl .nil) rfl (Hp.le_refl _) ⟨rfl, rfl, rfl⟩ (by (repeat refine Ent.skip ?_); exact Ent.refl _)

theorem names_spec (fr : Int) (a1 : Option Addr) (c1 : Nat) (xs : List RepV) (ρ : Hp) (hR : Ro ρ 13 a1 xs.length c1 (xs.flatMap encRep)) : Spec0 Try.prog 8 #[.int .i64 fr, .slice a1 xs.length c1] ρ [] (fun v Γ' => v = .bool true ∧ Γ' = []) := by
  refine spec_of (n := 177) (vs := [_, _]) (σ := [(0, _), (1, _)]) Try.func8 rfl rfl rfl rfl fun E Δ => ?_
  rw [List.nil_append]
  refine c_seq ?_
  refine c_region ?_
  refine l_step (s_q rfl wn (q_assign rfl) ?_)
  refine l_nil ?_
  refine k_then_n ?_
  refine c_seq ?_
  refine c_seq ?_
  refine c_region ?_
  refine l_step (s_fn rfl wn Try.func21 rfl (by kernel_rfl) rfl (awake_spec ρ) (by repeat (first | exact Sel.nil | exact Pick.here | apply Sel.cons | apply Pick.there)) ?_)
  rintro _ _ _ - ⟨rfl, rfl, rfl⟩
  try simp only [List.cons_append, List.nil_append]
  refine l_step (s_q rfl wn (q_not rfl) ?_)
  refine l_step (s_q rfl wn (q_move rfl) ?_)
  refine Tr.env (.cons (t := 20) (v := .bool false) rfl (congrArg Value.bool rfl) (EnvLe.refl _)) ?_
  refine l_step (s_q rfl (wy rfl rfl rfl) (q_move rfl) ?_)
  refine l_step (s_q rfl (wy rfl rfl rfl) (q_len Try.underlying58 rfl) ?_)
  refine l_step (s_q rfl (wy rfl rfl rfl) (q_gtr rfl rfl) ?_)
  refine l_step (s_q rfl wn (q_pick rfl rfl rfl) ?_)
  refine l_nil ?_
  refine k_then_n ?_
  first | refine c_if rfl (fun h0 => ?_) (fun h0 => ?_) | refine c_cond rfl (fun h0 => ?_) (fun h0 => ?_)
  · skip
    refine c_seq ?_
    refine c_region ?_
    refine l_step (s_fn rfl wn Try.func21 rfl (by kernel_rfl) rfl (awake_spec ρ) (by repeat (first | exact Sel.nil | exact Pick.here | apply Sel.cons | apply Pick.there)) ?_)
    rintro _ _ _ - ⟨rfl, rfl, rfl⟩
    try simp only [List.cons_append, List.nil_append]
    refine l_step (s_q rfl wn (q_assign rfl) ?_)
    refine l_nil ?_
    refine k_then_n ?_
    refine c_ret ?_
    refine k_then_r ?_
    exact t_ret [] rfl (.tmp rfl .nil) rfl (Hp.le_refl _) ⟨rfl, rfl, rfl⟩ (by (repeat refine Ent.skip ?_); exact Ent.refl _)
  · skip
    have m1 := Int.tmod_lt_of_pos fr (show (0 : Int) < 1000 by decide)
    have m2 := Int.lt_tmod_of_pos fr (show (0 : Int) < 1000 by decide)
    refine c_skip ?_
    refine k_then_n ?_
    refine c_seq ?_
    refine c_region ?_
    refine l_step (s_q rfl wn (q_move rfl) ?_)
    refine l_step (s_q rfl wn (by first | exact q_remp rfl rfl (by omega) (by omega) | exact q_rem rfl rfl (by omega)) ?_)
    refine l_step (s_q rfl wn (by first | exact q_add rfl rfl (by omega) (by omega) | exact q_addw rfl rfl) ?_)
    refine l_step (s_q rfl wn (by first | exact q_remp rfl rfl (by omega) (by omega) | exact q_rem rfl rfl (by omega)) ?_)
    refine l_step (s_q rfl wn (q_assign rfl) ?_)
    refine l_nil ?_
    refine k_then_n ?_
    refine c_seq ?_
    refine c_region ?_
    obtain ⟨me, hme⟩ : ∃ k : Nat, ((fr.tmod 1000 + 1000) % 1000 : Int) = (k : Int) := ⟨_, (Int.toNat_of_nonneg (by omega)).symm⟩
    rw [hme]
    have hme2 : me < 1000 := by omega
    refine l_step (s_q rfl wn (q_move rfl) ?_)
    refine l_step (s_s rfl wn (s_buildSlice Try.underlying40 eo_3 rfl rfl rfl rfl (by decide) (by decide)) ?_)
    rintro _ _ ⟨b32, rfl, rfl⟩
    refine l_step (s_fn rfl wn Try.func23 rfl (by kernel_rfl) rfl (new_spec me 5 ⟨some ⟨b32, 0, none⟩, [0, 1, 2], 3⟩ (by simp) ρ _ (by exact rd_row (by repeat (first | exact Pick.here | apply Pick.there)))) (sel_all _) ?_)
    rintro _ _ _ - ⟨rfl, hnew⟩
    obtain ⟨bc, a41, c41, rfl, rfl⟩ := or_yes (show newOk me 5 [0, 1, 2] from ⟨⟨by omega, by omega, by decide, by decide, by decide⟩, by decide, by decide⟩) hnew
    clear hnew
    refine Tr.ent (Ent.cast (List.append_nil _)) ?_
    have s0 := st_new me 5 a41 [0, 1, 2] c41
    generalize hg_c0 : Cl.new me 5 ⟨a41, [0, 1, 2], c41⟩ = c0 at s0 ⊢
    try simp only [CliM, List.cons_append, List.nil_append, List.append_nil]
    refine l_step (s_q rfl wn (q_move rfl) ?_)
    refine l_step (s_q rfl wn (q_extract rfl rfl) ?_)
    refine l_step (s_q rfl wn (q_extract rfl rfl) ?_)
    refine l_step (s_q rfl wn (q_assign rfl) ?_)
    refine l_step (s_q rfl wn (q_assign rfl) ?_)
    refine l_nil ?_
    refine k_then_n ?_
    refine c_seq ?_
    refine c_seq ?_
    refine c_region ?_
    refine l_step (s_q rfl wn (q_move rfl) ?_)
    refine l_step (s_q rfl wn (by first | exact q_eqlp rfl rfl Try.underlying42 | exact q_eqlp0 rfl rfl Try.underlying42) ?_)
    refine l_step (s_q rfl wn (q_move rfl) ?_)
    refine Tr.env (.cons (t := 38) (v := .bool false) rfl (congrArg Value.bool rfl) (EnvLe.refl _)) ?_
    refine l_step (s_q rfl (wy rfl rfl rfl) (q_move rfl) ?_)
    refine l_step (s_q rfl (wy rfl rfl rfl) (q_neq rfl rfl) ?_)
    refine l_step (s_q rfl wn (q_pick rfl rfl rfl) ?_)
    refine l_nil ?_
    refine k_then_n ?_
    refine c_sure false rfl (by simp) ?_
    simp only [Bool.false_eq_true, if_true, if_false]
    refine c_skip ?_
    refine k_then_n ?_
    refine c_seq ?_
    refine c_region ?_
    refine l_step (s_q rfl wn (q_assign rfl) ?_)
    refine l_step (s_q rfl wn (q_assign rfl) ?_)
    refine l_nil ?_
    refine k_then_n ?_
    refine c_seq ?_
    refine c_seq ?_
    refine c_region ?_
    refine l_step (s_q rfl wn (q_assign rfl) ?_)
    refine l_nil ?_
    refine k_then_n ?_
    refine c_block ?_
    refine t_loop (ι := NS) (fun x => x.k ≤ xs.length ∧ NI (me : Int) x.seq x.ended x.c ∧ x.seq ≤ x.k + 1) (fun x => xs.length - x.k) (fun x => [(1, .slice a1 xs.length c1), (5, .int .i64 (me : Int)), (6, .pointer (some ⟨bc, 0, none⟩)), (8, .int .i64 (x.seq : Int)), (9, .int .i64 (x.ended : Int)), (10, .int .i64 (x.k : Int))]) (fun x => CliM 3 122 bc x.c ++ Δ) ⟨0, 0, 0, c0⟩ ⟨Nat.zero_le _, ⟨0, 0, 0, 0, by decide, by rw [s0.on]; exact s0, (fun q => by rw [s0.on] at q; cases q), fun _ => rfl⟩, Nat.zero_le _⟩ ?_ ?_ ?_
    · exact .cons rfl (by first | rfl | (simp; done) | simp [*]) (.cons rfl (by first | rfl | (simp; done) | simp [*]) (.cons rfl (by first | rfl | (simp; done) | simp [*]) (.cons rfl (by first | rfl | (simp; done) | simp [*]) (.cons rfl (by first | rfl | (simp; done) | simp [*]) (.cons rfl (by first | rfl | (simp; done) | simp [*]) (.nil _))))))
    · exact (by repeat (first | exact Ent.nil _ | exact Ent.refl _ | (refine Ent.pick (by repeat (first | exact Pick.here | apply Pick.there)) ?_) | refine Ent.skip ?_))
    intro x hx
    obtain ⟨hx1, hx2, hx3⟩ := hx
    obtain ⟨ok, hsq⟩ := ni_ok hx2
    have hle := ni_le hx2
    try simp only [CliM, List.cons_append, List.nil_append, List.append_nil]
    refine c_seq ?_
    refine c_seq ?_
    refine c_region ?_
    refine l_step (s_q rfl wn (q_move rfl) ?_)
    refine l_step (s_q rfl wn (q_move rfl) ?_)
    refine l_step (s_q rfl wn (q_len Try.underlying58 rfl) ?_)
    refine l_step (s_q rfl wn (q_lss rfl rfl) ?_)
    refine l_nil ?_
    refine k_then_n ?_
    first | refine c_if rfl (fun h2 => ?_) (fun h2 => ?_) | refine c_cond rfl (fun h2 => ?_) (fun h2 => ?_)
    · skip
      have hk2 : x.k < xs.length := by omega
      refine c_skip ?_
      refine k_then_n ?_
      refine c_seq ?_
      refine c_block ?_
      refine c_seq ?_
      refine c_seq ?_
      refine c_draw (m := 24) (bs := #[false, false, false, false, false, false, false, false, false, false, false, false, false, false, false, false, false, false, false, false, false, false, false, false]) [] (by kernel_rfl) rfl (by kernel_rfl) ?_
      refine r_take (i := 0) (bs' := #[true, false, false, false, false, false, false, false, false, false, false, false, false, false, false, false, false, false, false, false, false, false, false, false]) rfl (by kernel_rfl) (by kernel_rfl) (by kernel_rfl) (fun _ _ _ h => h) rfl wn (q_move rfl) (Hp.le_refl _) (by repeat (first | exact Ent.nil _ | exact Ent.refl _ | (refine Ent.pick (by repeat (first | exact Pick.here | apply Pick.there)) ?_) | refine Ent.skip ?_)) (by kernel_rfl) ?_
      refine r_take (i := 1) (bs' := #[true, true, false, false, false, false, false, false, false, false, false, false, false, false, false, false, false, false, false, false, false, false, false, false]) rfl (by kernel_rfl) (by kernel_rfl) (by kernel_rfl) (fun _ _ _ h => h) rfl wn (q_move rfl) (Hp.le_refl _) (by repeat (first | exact Ent.nil _ | exact Ent.refl _ | (refine Ent.pick (by repeat (first | exact Pick.here | apply Pick.there)) ?_) | refine Ent.skip ?_)) (by kernel_rfl) ?_
      refine r_take (i := 2) (bs' := #[true, true, true, false, false, false, false, false, false, false, false, false, false, false, false, false, false, false, false, false, false, false, false, false]) rfl (by kernel_rfl) (by kernel_rfl) (by kernel_rfl) (fun _ _ _ h => h) rfl wn (q_indexe x.k Try.underlying58 sz_64 rfl rfl (rd_ro hR) (by decide) rfl hk2) (Hp.le_refl _) (by repeat (first | exact Ent.nil _ | exact Ent.refl _ | (refine Ent.pick (by repeat (first | exact Pick.here | apply Pick.there)) ?_) | refine Ent.skip ?_)) (by kernel_rfl) ?_
      refine r_take (i := 3) (bs' := #[true, true, true, true, false, false, false, false, false, false, false, false, false, false, false, false, false, false, false, false, false, false, false, false]) rfl (by kernel_rfl) (by kernel_rfl) (by kernel_rfl) (fun _ _ _ h => h) rfl wn (by first | exact q_fieldp rfl fo_64_5 | exact q_fielde rfl fo_64_5 | exact q_fieldr rfl fo_64_5) (Hp.le_refl _) (by repeat (first | exact Ent.nil _ | exact Ent.refl _ | (refine Ent.pick (by repeat (first | exact Pick.here | apply Pick.there)) ?_) | refine Ent.skip ?_)) (by kernel_rfl) ?_
      refine r_take (i := 4) (bs' := #[true, true, true, true, true, false, false, false, false, false, false, false, false, false, false, false, false, false, false, false, false, false, false, false]) rfl (by kernel_rfl) (by kernel_rfl) (by kernel_rfl) (fun _ _ _ h => h) rfl wn (by first | exact q_fieldp rfl fo_62_5 | exact q_fielde rfl fo_62_5 | exact q_fieldr rfl fo_62_5) (Hp.le_refl _) (by repeat (first | exact Ent.nil _ | exact Ent.refl _ | (refine Ent.pick (by repeat (first | exact Pick.here | apply Pick.there)) ?_) | refine Ent.skip ?_)) (by kernel_rfl) ?_
      refine r_take (i := 5) (bs' := #[true, true, true, true, true, true, false, false, false, false, false, false, false, false, false, false, false, false, false, false, false, false, false, false]) rfl (by kernel_rfl) (by kernel_rfl) (by kernel_rfl) (fun _ _ _ h => h) rfl wn (q_loade (enc := encRep) (xs := xs) (j := x.k) (off := 10) sc_59 rfl (rd_ro hR) (fun _ => rfl) hk2 (by decide) rfl) (Hp.le_refl _) (by repeat (first | exact Ent.nil _ | exact Ent.refl _ | (refine Ent.pick (by repeat (first | exact Pick.here | apply Pick.there)) ?_) | refine Ent.skip ?_)) (by kernel_rfl) ?_
      refine r_take (i := 6) (bs' := #[true, true, true, true, true, true, true, false, false, false, false, false, false, false, false, false, false, false, false, false, false, false, false, false]) rfl (by kernel_rfl) (by kernel_rfl) (by kernel_rfl) (fun _ _ _ h => h) rfl wn (q_len Try.underlying59 rfl) (Hp.le_refl _) (by repeat (first | exact Ent.nil _ | exact Ent.refl _ | (refine Ent.pick (by repeat (first | exact Pick.here | apply Pick.there)) ?_) | refine Ent.skip ?_)) (by kernel_rfl) ?_
      refine r_take (i := 7) (bs' := #[true, true, true, true, true, true, true, true, false, false, false, false, false, false, false, false, false, false, false, false, false, false, false, false]) rfl (by kernel_rfl) (by kernel_rfl) (by kernel_rfl) (fun _ _ _ h => h) rfl wn (q_move rfl) (Hp.le_refl _) (by repeat (first | exact Ent.nil _ | exact Ent.refl _ | (refine Ent.pick (by repeat (first | exact Pick.here | apply Pick.there)) ?_) | refine Ent.skip ?_)) (by kernel_rfl) ?_
      refine r_take (i := 8) (bs' := #[true, true, true, true, true, true, true, true, true, false, false, false, false, false, false, false, false, false, false, false, false, false, false, false]) rfl (by kernel_rfl) (by kernel_rfl) (by kernel_rfl) (fun _ _ _ h => h) rfl wn (q_move rfl) (Hp.le_refl _) (by repeat (first | exact Ent.nil _ | exact Ent.refl _ | (refine Ent.pick (by repeat (first | exact Pick.here | apply Pick.there)) ?_) | refine Ent.skip ?_)) (by kernel_rfl) ?_
      refine r_take (i := 9) (bs' := #[true, true, true, true, true, true, true, true, true, true, false, false, false, false, false, false, false, false, false, false, false, false, false, false]) rfl (by kernel_rfl) (by kernel_rfl) (by kernel_rfl) (fun _ _ _ h => h) rfl wn (q_indexe x.k Try.underlying58 sz_64 rfl rfl (rd_ro hR) (by decide) rfl hk2) (Hp.le_refl _) (by repeat (first | exact Ent.nil _ | exact Ent.refl _ | (refine Ent.pick (by repeat (first | exact Pick.here | apply Pick.there)) ?_) | refine Ent.skip ?_)) (by kernel_rfl) ?_
      refine r_take (i := 10) (bs' := #[true, true, true, true, true, true, true, true, true, true, true, false, false, false, false, false, false, false, false, false, false, false, false, false]) rfl (by kernel_rfl) (by kernel_rfl) (by kernel_rfl) (fun _ _ _ h => h) rfl wn (by first | exact q_fieldp rfl fo_64_5 | exact q_fielde rfl fo_64_5 | exact q_fieldr rfl fo_64_5) (Hp.le_refl _) (by repeat (first | exact Ent.nil _ | exact Ent.refl _ | (refine Ent.pick (by repeat (first | exact Pick.here | apply Pick.there)) ?_) | refine Ent.skip ?_)) (by kernel_rfl) ?_
      refine r_take (i := 11) (bs' := #[true, true, true, true, true, true, true, true, true, true, true, true, false, false, false, false, false, false, false, false, false, false, false, false]) rfl (by kernel_rfl) (by kernel_rfl) (by kernel_rfl) (fun _ _ _ h => h) rfl wn (by first | exact q_fieldp rfl fo_62_6 | exact q_fielde rfl fo_62_6 | exact q_fieldr rfl fo_62_6) (Hp.le_refl _) (by repeat (first | exact Ent.nil _ | exact Ent.refl _ | (refine Ent.pick (by repeat (first | exact Pick.here | apply Pick.there)) ?_) | refine Ent.skip ?_)) (by kernel_rfl) ?_
      refine r_take (i := 12) (bs' := #[true, true, true, true, true, true, true, true, true, true, true, true, true, false, false, false, false, false, false, false, false, false, false, false]) rfl (by kernel_rfl) (by kernel_rfl) (by kernel_rfl) (fun _ _ _ h => h) rfl wn (q_loade (enc := encRep) (xs := xs) (j := x.k) (off := 11) sc_60 rfl (rd_ro hR) (fun _ => rfl) hk2 (by decide) rfl) (Hp.le_refl _) (by repeat (first | exact Ent.nil _ | exact Ent.refl _ | (refine Ent.pick (by repeat (first | exact Pick.here | apply Pick.there)) ?_) | refine Ent.skip ?_)) (by kernel_rfl) ?_
      refine r_take (i := 13) (bs' := #[true, true, true, true, true, true, true, true, true, true, true, true, true, true, false, false, false, false, false, false, false, false, false, false]) rfl (by kernel_rfl) (by kernel_rfl) (by kernel_rfl) (fun _ _ _ h => h) rfl wn (q_len Try.underlying60 rfl) (Hp.le_refl _) (by repeat (first | exact Ent.nil _ | exact Ent.refl _ | (refine Ent.pick (by repeat (first | exact Pick.here | apply Pick.there)) ?_) | refine Ent.skip ?_)) (by kernel_rfl) ?_
      refine r_take (i := 14) (bs' := #[true, true, true, true, true, true, true, true, true, true, true, true, true, true, true, false, false, false, false, false, false, false, false, false]) rfl (by kernel_rfl) (by kernel_rfl) (by kernel_rfl) (fun _ _ _ h => h) rfl wn (q_addw rfl rfl) (Hp.le_refl _) (by repeat (first | exact Ent.nil _ | exact Ent.refl _ | (refine Ent.pick (by repeat (first | exact Pick.here | apply Pick.there)) ?_) | refine Ent.skip ?_)) (by kernel_rfl) ?_
      refine r_take (i := 15) (bs' := #[true, true, true, true, true, true, true, true, true, true, true, true, true, true, true, true, false, false, false, false, false, false, false, false]) rfl (by kernel_rfl) (by kernel_rfl) (by kernel_rfl) (fun _ _ _ h => h) rfl wn (q_move rfl) (Hp.le_refl _) (by repeat (first | exact Ent.nil _ | exact Ent.refl _ | (refine Ent.pick (by repeat (first | exact Pick.here | apply Pick.there)) ?_) | refine Ent.skip ?_)) (by kernel_rfl) ?_
      refine r_take (i := 16) (bs' := #[true, true, true, true, true, true, true, true, true, true, true, true, true, true, true, true, true, false, false, false, false, false, false, false]) rfl (by kernel_rfl) (by kernel_rfl) (by kernel_rfl) (fun _ _ _ h => h) rfl wn (q_move rfl) (Hp.le_refl _) (by repeat (first | exact Ent.nil _ | exact Ent.refl _ | (refine Ent.pick (by repeat (first | exact Pick.here | apply Pick.there)) ?_) | refine Ent.skip ?_)) (by kernel_rfl) ?_
      refine r_take (i := 17) (bs' := #[true, true, true, true, true, true, true, true, true, true, true, true, true, true, true, true, true, true, false, false, false, false, false, false]) rfl (by kernel_rfl) (by kernel_rfl) (by kernel_rfl) (fun _ _ _ h => h) rfl wn (q_indexe x.k Try.underlying58 sz_64 rfl rfl (rd_ro hR) (by decide) rfl hk2) (Hp.le_refl _) (by repeat (first | exact Ent.nil _ | exact Ent.refl _ | (refine Ent.pick (by repeat (first | exact Pick.here | apply Pick.there)) ?_) | refine Ent.skip ?_)) (by kernel_rfl) ?_
      refine r_take (i := 18) (bs' := #[true, true, true, true, true, true, true, true, true, true, true, true, true, true, true, true, true, true, true, false, false, false, false, false]) rfl (by kernel_rfl) (by kernel_rfl) (by kernel_rfl) (fun _ _ _ h => h) rfl wn (by first | exact q_fieldp rfl fo_64_5 | exact q_fielde rfl fo_64_5 | exact q_fieldr rfl fo_64_5) (Hp.le_refl _) (by repeat (first | exact Ent.nil _ | exact Ent.refl _ | (refine Ent.pick (by repeat (first | exact Pick.here | apply Pick.there)) ?_) | refine Ent.skip ?_)) (by kernel_rfl) ?_
      refine r_take (i := 19) (bs' := #[true, true, true, true, true, true, true, true, true, true, true, true, true, true, true, true, true, true, true, true, false, false, false, false]) rfl (by kernel_rfl) (by kernel_rfl) (by kernel_rfl) (fun _ _ _ h => h) rfl wn (by first | exact q_fieldp rfl fo_62_7 | exact q_fielde rfl fo_62_7 | exact q_fieldr rfl fo_62_7) (Hp.le_refl _) (by repeat (first | exact Ent.nil _ | exact Ent.refl _ | (refine Ent.pick (by repeat (first | exact Pick.here | apply Pick.there)) ?_) | refine Ent.skip ?_)) (by kernel_rfl) ?_
      refine r_take (i := 20) (bs' := #[true, true, true, true, true, true, true, true, true, true, true, true, true, true, true, true, true, true, true, true, true, false, false, false]) rfl (by kernel_rfl) (by kernel_rfl) (by kernel_rfl) (fun _ _ _ h => h) rfl wn (q_loade (enc := encRep) (xs := xs) (j := x.k) (off := 12) sc_40 rfl (rd_ro hR) (fun _ => rfl) hk2 (by decide) rfl) (Hp.le_refl _) (by repeat (first | exact Ent.nil _ | exact Ent.refl _ | (refine Ent.pick (by repeat (first | exact Pick.here | apply Pick.there)) ?_) | refine Ent.skip ?_)) (by kernel_rfl) ?_
      refine r_take (i := 21) (bs' := #[true, true, true, true, true, true, true, true, true, true, true, true, true, true, true, true, true, true, true, true, true, true, false, false]) rfl (by kernel_rfl) (by kernel_rfl) (by kernel_rfl) (fun _ _ _ h => h) rfl wn (q_len Try.underlying40 rfl) (Hp.le_refl _) (by repeat (first | exact Ent.nil _ | exact Ent.refl _ | (refine Ent.pick (by repeat (first | exact Pick.here | apply Pick.there)) ?_) | refine Ent.skip ?_)) (by kernel_rfl) ?_
      refine r_take (i := 22) (bs' := #[true, true, true, true, true, true, true, true, true, true, true, true, true, true, true, true, true, true, true, true, true, true, true, false]) rfl (by kernel_rfl) (by kernel_rfl) (by kernel_rfl) (fun _ _ _ h => h) rfl wn (q_addw rfl rfl) (Hp.le_refl _) (by repeat (first | exact Ent.nil _ | exact Ent.refl _ | (refine Ent.pick (by repeat (first | exact Pick.here | apply Pick.there)) ?_) | refine Ent.skip ?_)) (by kernel_rfl) ?_
      refine r_take (i := 23) (bs' := #[true, true, true, true, true, true, true, true, true, true, true, true, true, true, true, true, true, true, true, true, true, true, true, true]) rfl (by kernel_rfl) (by kernel_rfl) (by kernel_rfl) (fun _ _ _ h => h) rfl wn (q_gtr rfl rfl) (Hp.le_refl _) (by repeat (first | exact Ent.nil _ | exact Ent.refl _ | (refine Ent.pick (by repeat (first | exact Pick.here | apply Pick.there)) ?_) | refine Ent.skip ?_)) (by kernel_rfl) ?_
      refine r_done (by kernel_rfl) ?_
      refine k_then_n ?_
      first | refine c_if rfl (fun h3 => ?_) (fun h3 => ?_) | refine c_cond rfl (fun h3 => ?_) (fun h3 => ?_)
      · skip
        refine c_seq ?_
        refine c_region ?_
        refine l_step (s_q rfl wn (q_assign rfl) ?_)
        refine l_nil ?_
        refine k_then_n ?_
        refine c_ret ?_
        refine k_then_r ?_
        refine k_blk_r ?_
        refine k_then_r ?_
        refine k_then_r ?_
        refine k_blk_r ?_
        refine k_then_r ?_
        exact t_ret [] rfl (.tmp rfl .nil) rfl (Hp.le_refl _) ⟨rfl, rfl, rfl⟩ (by (repeat refine Ent.skip ?_); exact Ent.refl _)
      · skip
        refine c_skip ?_
        refine k_then_n ?_
        refine c_seq ?_
        refine c_seq ?_
        refine c_region ?_
        refine l_step (s_q rfl wn (q_move rfl) ?_)
        refine l_step (s_fn rfl wn Try.func26 rfl (by kernel_rfl) rfl (on_spec bc x.c ok ρ) (by repeat (first | exact Sel.nil | exact Pick.here | apply Sel.cons | apply Pick.there)) ?_)
        rintro _ _ _ - ⟨rfl, (⟨ho, rfl, rfl⟩ | ⟨ho, w74, hw74, rfl, rfl⟩)⟩
        · skip
          try simp only [CliM, List.cons_append, List.nil_append, List.append_nil]
          refine l_step (s_q rfl wn (q_move rfl) ?_)
          refine l_step (s_q rfl wn (q_extract rfl rfl) ?_)
          refine l_step (s_q rfl wn (q_extract rfl rfl) ?_)
          refine l_step (s_s rfl wn (s_allocz zc_54) ?_)
          rintro _ _ ⟨b11, rfl, rfl⟩
          refine l_step (s_s0 wn (s_storep (ws := encAsk askZ) (cs := encAsk askZ) (cs' := encAsk askZ) rfl rfl rfl sz_54 (oneAsk _) (by simp [encAsk]) rfl (by repeat (first | exact Pick.here | apply Pick.there))) ?_)
          rintro _ _ ⟨rfl, rfl⟩
          refine l_step (s_q rfl wn (q_assign rfl) ?_)
          refine l_nil ?_
          refine k_then_n ?_
          refine c_seq ?_
          refine c_region ?_
          refine l_step (s_q rfl wn (q_move rfl) ?_)
          refine l_step (s_q rfl wn (q_not rfl) ?_)
          refine l_nil ?_
          refine k_then_n ?_
          refine c_sure true rfl rfl ?_
          simp only [Bool.false_eq_true, if_true, if_false]
          refine c_seq ?_
          refine c_seq ?_
          refine c_region ?_
          refine l_step (s_q rfl wn (q_move rfl) ?_)
          refine l_step (s_q rfl wn (q_build (cs := [_, _, _, _, _, _, _, _, _, _, _, _]) zc_54 pl_54 rfl rfl) ?_)
          refine l_step (s_fn rfl wn Try.func24 rfl (by kernel_rfl) rfl (begin_spec bc x.c (⟨1, 0, 0, 0, 0, 0, false, 0, 0, ⟨none, [], 0⟩, 0, 0⟩ : AskV) small_nil (by rw [hsq]; omega) ρ (askMem_nil _)) (by repeat (first | exact Sel.nil | exact Pick.here | apply Sel.cons | apply Pick.there)) ?_)
          rintro _ _ _ - ⟨rfl, hb⟩
          obtain ⟨w81, hw81, rfl, rfl⟩ := or_beg ho ⟨by decide, by decide⟩ hb
          clear hb
          have hni := ni_begun hx2 ho hw81 small_nil rfl
          obtain ⟨sq, hsqv⟩ : ∃ k : Nat, k = x.seq + 1 := ⟨_, rfl⟩
          rw [← hsqv] at hni
          have hon : (Cli.begun x.c (⟨1, 0, 0, 0, 0, 0, false, 0, 0, ⟨none, [], 0⟩, 0, 0⟩ : AskV) w81).on = true := rfl
          generalize hg_cc : Cli.begun x.c (⟨1, 0, 0, 0, 0, 0, false, 0, 0, ⟨none, [], 0⟩, 0, 0⟩ : AskV) w81 = cc at hni hon ⊢
          try simp only [CliM, List.cons_append, List.nil_append, List.append_nil]
          refine l_step (s_q rfl wn (q_neq rfl rfl) ?_)
          refine l_nil ?_
          refine k_then_n ?_
          refine c_sure false rfl (by simp) ?_
          simp only [Bool.false_eq_true, if_true, if_false]
          refine c_skip ?_
          refine k_then_n ?_
          refine c_region ?_
          refine l_step (s_q rfl wn (q_move rfl) ?_)
          refine l_step (s_q rfl wn (by first | exact q_add rfl rfl (by omega) (by omega) | exact q_addw rfl rfl) ?_)
          refine l_step (s_q rfl wn (q_assign rfl) ?_)
          refine l_nil ?_
          refine k_then_n ?_
          refine c_seq ?_
          refine c_region ?_
          refine l_step (s_q rfl wn (q_move rfl) ?_)
          refine l_step (s_fn rfl wn Try.func26 rfl (by kernel_rfl) rfl (on_spec bc cc (ni_ok hni).1 ρ) (by repeat (first | exact Sel.nil | exact Pick.here | apply Sel.cons | apply Pick.there)) ?_)
          rintro _ _ _ - ⟨rfl, ho2⟩
          obtain ⟨w87, hw87, rfl, rfl⟩ := or_on hon ho2
          clear ho2
          try simp only [CliM, List.cons_append, List.nil_append, List.append_nil]
          refine l_step (s_q rfl wn (q_move rfl) ?_)
          refine l_step (s_q rfl wn (q_extract rfl rfl) ?_)
          refine l_step (s_q rfl wn (q_extract rfl rfl) ?_)
          refine l_step (s_s rfl wn (s_allocz zc_54) ?_)
          rintro _ _ ⟨b13, rfl, rfl⟩
          refine l_step (s_s0 wn (s_storep (ws := encAsk { cc.ask with waves := w87 }) (cs := encAsk askZ) (cs' := encAsk { cc.ask with waves := w87 }) rfl rfl rfl sz_54 (oneAsk _) (by simp [encAsk]) rfl (by repeat (first | exact Pick.here | apply Pick.there))) ?_)
          rintro _ _ ⟨rfl, rfl⟩
          refine l_step (s_q rfl wn (q_assign rfl) ?_)
          refine l_nil ?_
          refine k_then_n ?_
          refine c_seq ?_
          refine c_seq ?_
          refine c_region ?_
          refine l_step (s_q rfl wn (q_move rfl) ?_)
          refine l_step (s_q rfl wn (q_not rfl) ?_)
          refine l_step (s_q rfl wn (q_move rfl) ?_)
          refine Tr.env (.cons (t := 92) (v := .bool false) rfl (congrArg Value.bool rfl) (EnvLe.refl _)) ?_
          refine l_step (s_q rfl (wy rfl rfl rfl) (by first | exact q_fieldp rfl fo_54_2 | exact q_fielde rfl fo_54_2 | exact q_fieldr rfl fo_54_2) ?_)
          refine l_step (s_q rfl (wy rfl rfl rfl) (by first | exact q_loadp sc_3 rfl (by repeat (first | exact Pick.here | apply Pick.there)) rfl | exact q_loade sc_3 rfl (by first | assumption | exact rd_ro (by assumption) | exact rd_row (by repeat (first | exact Pick.here | apply Pick.there))) (fun _ => rfl) (by first | assumption | omega) (by decide) rfl) ?_)
          refine l_step (s_q rfl (wy rfl rfl rfl) (q_move rfl) ?_)
          refine l_step (s_q rfl (wy rfl rfl rfl) (q_neq rfl rfl) ?_)
          refine l_step (s_q rfl wn (q_pick rfl rfl rfl) ?_)
          refine l_step (s_q rfl wn (q_move rfl) ?_)
          refine Tr.env (.cons (t := 98) (v := .bool false) rfl (congrArg Value.bool (decide_eq_false (fun h => h (by rw [(ni_who hni hon).2]; omega)))) (EnvLe.refl _)) ?_
          refine l_step (s_q rfl (wy rfl rfl rfl) (by first | exact q_fieldp rfl fo_54_1 | exact q_fielde rfl fo_54_1 | exact q_fieldr rfl fo_54_1) ?_)
          refine l_step (s_q rfl (wy rfl rfl rfl) (by first | exact q_loadp sc_3 rfl (by repeat (first | exact Pick.here | apply Pick.there)) rfl | exact q_loade sc_3 rfl (by first | assumption | exact rd_ro (by assumption) | exact rd_row (by repeat (first | exact Pick.here | apply Pick.there))) (fun _ => rfl) (by first | assumption | omega) (by decide) rfl) ?_)
          refine l_step (s_q rfl (wy rfl rfl rfl) (q_move rfl) ?_)
          refine l_step (s_q rfl (wy rfl rfl rfl) (q_neq rfl rfl) ?_)
          refine l_step (s_q rfl wn (q_pick rfl rfl rfl) ?_)
          refine l_nil ?_
          refine k_then_n ?_
          refine c_sure false rfl (decide_eq_false (fun h => h (ni_who hni hon).1)) ?_
          simp only [Bool.false_eq_true, if_true, if_false]
          refine c_skip ?_
          refine k_then_n ?_
          refine c_seq ?_
          refine t_cut (ι := Unit) (fun _u => True) (fun _u => [(1, .slice a1 xs.length c1), (5, .int .i64 (me : Int)), (6, .pointer (some ⟨bc, 0, none⟩)), (8, .int .i64 (sq : Int)), (9, .int .i64 (x.ended : Int)), (10, .int .i64 (x.k : Int)), (15, .bool (decide ((xs.getD x.k default).client = (me : Int) ∧ (xs.getD x.k default).seq = (sq : Int))))]) (fun _u => CliM 3 122 bc cc ++ Δ) ?_ ?_
          · skip
            refine c_region ?_
            refine l_step (s_q rfl wn (q_move rfl) ?_)
            refine l_step (s_q rfl wn (q_move rfl) ?_)
            refine l_step (s_q rfl wn (q_indexe x.k Try.underlying58 sz_64 rfl rfl (rd_ro hR) (by decide) rfl hk2) ?_)
            refine l_step (s_q rfl wn (by first | exact q_fieldp rfl fo_64_0 | exact q_fielde rfl fo_64_0 | exact q_fieldr rfl fo_64_0) ?_)
            refine l_step (s_q rfl wn (q_loade (enc := encRep) (xs := xs) (j := x.k) (off := 0) sc_3 rfl (rd_ro hR) (fun _ => rfl) hk2 (by decide) rfl) ?_)
            refine l_step (s_q rfl wn (q_move rfl) ?_)
            refine l_step (s_q rfl wn (q_eql rfl rfl) ?_)
            refine l_step (s_q rfl wn (q_move rfl) ?_)
            first | refine t_splitd (d := 111) rfl (fun g21_7 => ?_) (fun g21_7 => ?_) | refine t_split (d := 111) rfl (fun g21_7 => ?_) (fun g21_7 => ?_)
            · skip
              refine l_step (s_q rfl (wy rfl rfl rfl) (q_move rfl) ?_)
              refine l_step (s_q rfl (wy rfl rfl rfl) (q_move rfl) ?_)
              refine l_step (s_q rfl (wy rfl rfl rfl) (q_indexe x.k Try.underlying58 sz_64 rfl rfl (rd_ro hR) (by decide) rfl hk2) ?_)
              refine l_step (s_q rfl (wy rfl rfl rfl) (by first | exact q_fieldp rfl fo_64_1 | exact q_fielde rfl fo_64_1 | exact q_fieldr rfl fo_64_1) ?_)
              refine l_step (s_q rfl (wy rfl rfl rfl) (q_loade (enc := encRep) (xs := xs) (j := x.k) (off := 1) sc_3 rfl (rd_ro hR) (fun _ => rfl) hk2 (by decide) rfl) ?_)
              refine l_step (s_q rfl (wy rfl rfl rfl) (q_move rfl) ?_)
              refine l_step (s_q rfl (wy rfl rfl rfl) (q_eql rfl rfl) ?_)
              refine l_step (s_q rfl wn (q_pick rfl rfl rfl) ?_)
              refine l_step (s_q rfl wn (q_assign rfl) ?_)
              refine l_nil ?_
              refine k_then_n ?_
              exact t_next () trivial (.cons rfl (by first | rfl | (simp; done) | simp [*]) (.cons rfl (by first | rfl | (simp; done) | simp [*]) (.cons rfl (by first | rfl | (simp; done) | simp [*]) (.cons rfl (inte (by omega)) (.cons rfl (by first | rfl | (simp; done) | simp [*]) (.cons rfl (by first | rfl | (simp; done) | simp [*]) (.cons rfl (boole (by simp only [g21_7, true_and, false_and, decide_false]; try (first | rfl | (rw [decide_eq_decide]; constructor <;> intro q <;> omega)))) (.nil _)))))))) (by simp only [CliM, List.cons_append, List.nil_append]; exact (by repeat (first | exact Ent.nil _ | exact Ent.refl _ | (refine Ent.pick (by repeat (first | exact Pick.here | apply Pick.there)) ?_) | refine Ent.skip ?_)))
            · skip
              refine l_step (s_no rfl (wno rfl rfl (by decide)) ?_)
              refine l_step (s_no rfl (wno rfl rfl (by decide)) ?_)
              refine l_step (s_no rfl (wno rfl rfl (by decide)) ?_)
              refine l_step (s_no rfl (wno rfl rfl (by decide)) ?_)
              refine l_step (s_no rfl (wno rfl rfl (by decide)) ?_)
              refine l_step (s_no rfl (wno rfl rfl (by decide)) ?_)
              refine l_step (s_no rfl (wno rfl rfl (by decide)) ?_)
              refine l_step (s_q rfl wn (q_pick rfl rfl rfl) ?_)
              refine l_step (s_q rfl wn (q_assign rfl) ?_)
              refine l_nil ?_
              refine k_then_n ?_
              exact t_next () trivial (.cons rfl (by first | rfl | (simp; done) | simp [*]) (.cons rfl (by first | rfl | (simp; done) | simp [*]) (.cons rfl (by first | rfl | (simp; done) | simp [*]) (.cons rfl (inte (by omega)) (.cons rfl (by first | rfl | (simp; done) | simp [*]) (.cons rfl (by first | rfl | (simp; done) | simp [*]) (.cons rfl (boole (by simp only [g21_7, true_and, false_and, decide_false]; try (first | rfl | (rw [decide_eq_decide]; constructor <;> intro q <;> omega)))) (.nil _)))))))) (by simp only [CliM, List.cons_append, List.nil_append]; exact (by repeat (first | exact Ent.nil _ | exact Ent.refl _ | (refine Ent.pick (by repeat (first | exact Pick.here | apply Pick.there)) ?_) | refine Ent.skip ?_)))
          intro _u _hJ
          try simp only [CliM, List.cons_append, List.nil_append, List.append_nil]
          refine c_seq ?_
          refine t_cut (ι := Unit) (fun _u => True) (fun _u => [(1, .slice a1 xs.length c1), (5, .int .i64 (me : Int)), (6, .pointer (some ⟨bc, 0, none⟩)), (8, .int .i64 (sq : Int)), (9, .int .i64 (x.ended : Int)), (10, .int .i64 (x.k : Int)), (16, .bool (decide (((xs.getD x.k default).client = (me : Int) ∧ (xs.getD x.k default).seq = (sq : Int)) ∧ (xs.getD x.k default).err ≠ 90 ∧ (xs.getD x.k default).err ≠ 92)))]) (fun _u => CliM 3 122 bc cc ++ Δ) ?_ ?_
          · skip
            refine c_region ?_
            refine l_step (s_q rfl wn (q_move rfl) ?_)
            refine l_step (s_q rfl wn (q_move rfl) ?_)
            first | refine t_splitd (d := 121) rfl (fun g22_1 => ?_) (fun g22_1 => ?_) | refine t_split (d := 121) rfl (fun g22_1 => ?_) (fun g22_1 => ?_)
            · skip
              refine l_step (s_q rfl (wy rfl rfl rfl) (q_move rfl) ?_)
              refine l_step (s_q rfl (wy rfl rfl rfl) (q_move rfl) ?_)
              refine l_step (s_q rfl (wy rfl rfl rfl) (q_indexe x.k Try.underlying58 sz_64 rfl rfl (rd_ro hR) (by decide) rfl hk2) ?_)
              refine l_step (s_q rfl (wy rfl rfl rfl) (by first | exact q_fieldp rfl fo_64_2 | exact q_fielde rfl fo_64_2 | exact q_fieldr rfl fo_64_2) ?_)
              refine l_step (s_q rfl (wy rfl rfl rfl) (q_loade (enc := encRep) (xs := xs) (j := x.k) (off := 2) sc_33 rfl (rd_ro hR) (fun _ => rfl) hk2 (by decide) rfl) ?_)
              refine l_step (s_q rfl (wy rfl rfl rfl) (q_neq rfl rfl) ?_)
              refine l_step (s_q rfl wn (q_pick rfl rfl rfl) ?_)
              refine l_step (s_q rfl wn (q_move rfl) ?_)
              first | refine t_splitd (d := 129) rfl (fun g22_9 => ?_) (fun g22_9 => ?_) | refine t_split (d := 129) rfl (fun g22_9 => ?_) (fun g22_9 => ?_)
              · skip
                refine l_step (s_q rfl (wy rfl rfl rfl) (q_move rfl) ?_)
                refine l_step (s_q rfl (wy rfl rfl rfl) (q_move rfl) ?_)
                refine l_step (s_q rfl (wy rfl rfl rfl) (q_indexe x.k Try.underlying58 sz_64 rfl rfl (rd_ro hR) (by decide) rfl hk2) ?_)
                refine l_step (s_q rfl (wy rfl rfl rfl) (by first | exact q_fieldp rfl fo_64_2 | exact q_fielde rfl fo_64_2 | exact q_fieldr rfl fo_64_2) ?_)
                refine l_step (s_q rfl (wy rfl rfl rfl) (q_loade (enc := encRep) (xs := xs) (j := x.k) (off := 2) sc_33 rfl (rd_ro hR) (fun _ => rfl) hk2 (by decide) rfl) ?_)
                refine l_step (s_q rfl (wy rfl rfl rfl) (q_neq rfl rfl) ?_)
                refine l_step (s_q rfl wn (q_pick rfl rfl rfl) ?_)
                refine l_step (s_q rfl wn (q_assign rfl) ?_)
                refine l_nil ?_
                refine k_then_n ?_
                exact t_next () trivial (.cons rfl (by first | rfl | (simp; done) | simp [*]) (.cons rfl (by first | rfl | (simp; done) | simp [*]) (.cons rfl (by first | rfl | (simp; done) | simp [*]) (.cons rfl (by first | rfl | (simp; done) | simp [*]) (.cons rfl (by first | rfl | (simp; done) | simp [*]) (.cons rfl (by first | rfl | (simp; done) | simp [*]) (.cons rfl (boole (by simp_all)) (.nil _)))))))) (by simp only [CliM, List.cons_append, List.nil_append]; exact (by repeat (first | exact Ent.nil _ | exact Ent.refl _ | (refine Ent.pick (by repeat (first | exact Pick.here | apply Pick.there)) ?_) | refine Ent.skip ?_)))
              · skip
                refine l_step (s_no rfl (wno rfl rfl (by decide)) ?_)
                refine l_step (s_no rfl (wno rfl rfl (by decide)) ?_)
                refine l_step (s_no rfl (wno rfl rfl (by decide)) ?_)
                refine l_step (s_no rfl (wno rfl rfl (by decide)) ?_)
                refine l_step (s_no rfl (wno rfl rfl (by decide)) ?_)
                refine l_step (s_no rfl (wno rfl rfl (by decide)) ?_)
                refine l_step (s_q rfl wn (q_pick rfl rfl rfl) ?_)
                refine l_step (s_q rfl wn (q_assign rfl) ?_)
                refine l_nil ?_
                refine k_then_n ?_
                exact t_next () trivial (.cons rfl (by first | rfl | (simp; done) | simp [*]) (.cons rfl (by first | rfl | (simp; done) | simp [*]) (.cons rfl (by first | rfl | (simp; done) | simp [*]) (.cons rfl (by first | rfl | (simp; done) | simp [*]) (.cons rfl (by first | rfl | (simp; done) | simp [*]) (.cons rfl (by first | rfl | (simp; done) | simp [*]) (.cons rfl (boole (by simp_all)) (.nil _)))))))) (by simp only [CliM, List.cons_append, List.nil_append]; exact (by repeat (first | exact Ent.nil _ | exact Ent.refl _ | (refine Ent.pick (by repeat (first | exact Pick.here | apply Pick.there)) ?_) | refine Ent.skip ?_)))
            · skip
              refine l_step (s_no rfl (wno rfl rfl (by decide)) ?_)
              refine l_step (s_no rfl (wno rfl rfl (by decide)) ?_)
              refine l_step (s_no rfl (wno rfl rfl (by decide)) ?_)
              refine l_step (s_no rfl (wno rfl rfl (by decide)) ?_)
              refine l_step (s_no rfl (wno rfl rfl (by decide)) ?_)
              refine l_step (s_no rfl (wno rfl rfl (by decide)) ?_)
              refine l_step (s_q rfl wn (q_pick rfl rfl rfl) ?_)
              refine l_step (s_q rfl wn (q_move rfl) ?_)
              first | refine t_splitd (d := 129) rfl (fun g22_9 => ?_) (fun g22_9 => ?_) | refine t_split (d := 129) rfl (fun g22_9 => ?_) (fun g22_9 => ?_)
              · skip
                refine l_step (s_q rfl (wy rfl rfl rfl) (q_move rfl) ?_)
                refine l_step (s_q rfl (wy rfl rfl rfl) (q_move rfl) ?_)
                refine l_step (s_q rfl (wy rfl rfl rfl) (q_indexe x.k Try.underlying58 sz_64 rfl rfl (rd_ro hR) (by decide) rfl hk2) ?_)
                refine l_step (s_q rfl (wy rfl rfl rfl) (by first | exact q_fieldp rfl fo_64_2 | exact q_fielde rfl fo_64_2 | exact q_fieldr rfl fo_64_2) ?_)
                refine l_step (s_q rfl (wy rfl rfl rfl) (q_loade (enc := encRep) (xs := xs) (j := x.k) (off := 2) sc_33 rfl (rd_ro hR) (fun _ => rfl) hk2 (by decide) rfl) ?_)
                refine l_step (s_q rfl (wy rfl rfl rfl) (q_neq rfl rfl) ?_)
                refine l_step (s_q rfl wn (q_pick rfl rfl rfl) ?_)
                refine l_step (s_q rfl wn (q_assign rfl) ?_)
                refine l_nil ?_
                refine k_then_n ?_
                exact t_next () trivial (.cons rfl (by first | rfl | (simp; done) | simp [*]) (.cons rfl (by first | rfl | (simp; done) | simp [*]) (.cons rfl (by first | rfl | (simp; done) | simp [*]) (.cons rfl (by first | rfl | (simp; done) | simp [*]) (.cons rfl (by first | rfl | (simp; done) | simp [*]) (.cons rfl (by first | rfl | (simp; done) | simp [*]) (.cons rfl (boole (by simp_all)) (.nil _)))))))) (by simp only [CliM, List.cons_append, List.nil_append]; exact (by repeat (first | exact Ent.nil _ | exact Ent.refl _ | (refine Ent.pick (by repeat (first | exact Pick.here | apply Pick.there)) ?_) | refine Ent.skip ?_)))
              · skip
                refine l_step (s_no rfl (wno rfl rfl (by decide)) ?_)
                refine l_step (s_no rfl (wno rfl rfl (by decide)) ?_)
                refine l_step (s_no rfl (wno rfl rfl (by decide)) ?_)
                refine l_step (s_no rfl (wno rfl rfl (by decide)) ?_)
                refine l_step (s_no rfl (wno rfl rfl (by decide)) ?_)
                refine l_step (s_no rfl (wno rfl rfl (by decide)) ?_)
                refine l_step (s_q rfl wn (q_pick rfl rfl rfl) ?_)
                refine l_step (s_q rfl wn (q_assign rfl) ?_)
                refine l_nil ?_
                refine k_then_n ?_
                exact t_next () trivial (.cons rfl (by first | rfl | (simp; done) | simp [*]) (.cons rfl (by first | rfl | (simp; done) | simp [*]) (.cons rfl (by first | rfl | (simp; done) | simp [*]) (.cons rfl (by first | rfl | (simp; done) | simp [*]) (.cons rfl (by first | rfl | (simp; done) | simp [*]) (.cons rfl (by first | rfl | (simp; done) | simp [*]) (.cons rfl (boole (by simp_all)) (.nil _)))))))) (by simp only [CliM, List.cons_append, List.nil_append]; exact (by repeat (first | exact Ent.nil _ | exact Ent.refl _ | (refine Ent.pick (by repeat (first | exact Pick.here | apply Pick.there)) ?_) | refine Ent.skip ?_)))
          intro _u _hJ
          try simp only [CliM, List.cons_append, List.nil_append, List.append_nil]
          refine c_seq ?_
          refine c_region ?_
          refine l_step (s_q rfl wn (q_move rfl) ?_)
          refine l_step (s_q rfl wn (q_move rfl) ?_)
          refine l_step (s_q rfl wn (q_move rfl) ?_)
          refine l_step (s_q rfl wn (q_indexe x.k Try.underlying58 sz_64 rfl rfl (rd_ro hR) (by decide) rfl hk2) ?_)
          refine l_step (s_q rfl wn (q_loadea (vs := encRep (xs.getD x.k default)) ag_64 rfl (rd_ro hR) (fun _ => rfl) hk2 (by simp [encRep]) (by simp [encRep]) rfl) ?_)
          refine l_step (s_s rfl wn (s_buildSlice Try.underlying58 eo_64 rfl rfl rfl rfl (by decide) (by decide)) ?_)
          rintro _ _ ⟨b142, rfl, rfl⟩
          refine l_step (s_fn rfl wn Try.func27 rfl (by kernel_rfl) rfl (Hear_spec bc cc (ni_ok hni).1 _ _ [(xs.getD x.k default)] (by simp) ρ [.row 64 13 (some ⟨b142, 0, none⟩) 1 1 ([(xs.getD x.k default)].flatMap encRep)] (by exact rd_row Pick.here)) (by repeat (first | exact Sel.nil | exact Pick.here | apply Sel.cons | apply Pick.there)) ?_)
          rintro _ _ _ - ⟨rfl, rfl, rfl⟩
          rw [hearN_one]
          have hov := ni_over (r := (xs.getD x.k default)) hni hon
          obtain ⟨hni2, hdead⟩ := ni_hear (r := (xs.getD x.k default)) hni
          have hok2 := (ni_ok hni2).1
          by_cases hb : (hearF cc (xs.getD x.k default)).2 = true
          · skip
            have hO := hov.1 hb
            have hoff := hdead hb
            rw [if_pos hb] at hni2 ⊢
            generalize hg_cd : (hearF cc (xs.getD x.k default)).1 = cd at hni2 hoff hok2 ⊢
            try simp only [CliM, List.cons_append, List.nil_append, List.append_nil]
            refine l_step (s_q rfl wn (q_assign rfl) ?_)
            refine l_nil ?_
            refine k_then_n ?_
            refine c_seq ?_
            refine c_seq ?_
            refine c_region ?_
            refine l_step (s_q rfl wn (q_move rfl) ?_)
            refine l_step (s_q rfl wn (q_eql rfl rfl) ?_)
            refine l_step (s_q rfl wn (q_move rfl) ?_)
            refine l_step (s_q rfl wn (q_neqb rfl rfl Try.underlying4) ?_)
            refine l_step (s_q rfl wn (q_move rfl) ?_)
            refine Tr.env (.cons (t := 148) (v := .bool false) rfl (congrArg Value.bool (by rw [decide_eq_true (show (((xs.getD x.k default).client = (me : Int) ∧ (xs.getD x.k default).seq = (sq : Int)) ∧ (xs.getD x.k default).err ≠ 90 ∧ (xs.getD x.k default).err ≠ 92) from hO)]; rfl)) (EnvLe.refl _)) ?_
            refine l_step (s_q rfl (wy rfl rfl rfl) (q_move rfl) ?_)
            refine l_step (s_q rfl (wy rfl rfl rfl) (q_gtr rfl rfl) ?_)
            refine l_step (s_q rfl wn (q_pick rfl rfl rfl) ?_)
            refine l_step (s_q rfl wn (q_move rfl) ?_)
            refine Tr.env (.cons (t := 152) (v := .bool false) rfl (congrArg Value.bool (by simp)) (EnvLe.refl _)) ?_
            refine l_step (s_q rfl (wy rfl rfl rfl) (q_move rfl) ?_)
            refine l_step (s_q rfl (wy rfl rfl rfl) (q_move rfl) ?_)
            refine Tr.env (.cons (t := 154) (v := .bool true) rfl (congrArg Value.bool (decide_eq_true hO)) (EnvLe.refl _)) ?_
            refine l_step (s_q rfl (wy rfl rfl rfl) (q_move rfl) ?_)
            refine l_step (s_q rfl (wy rfl rfl rfl) (q_move rfl) ?_)
            refine l_step (s_q rfl (wy rfl rfl rfl) (q_move rfl) ?_)
            refine l_step (s_q rfl (wy rfl rfl rfl) (q_indexe x.k Try.underlying58 sz_64 rfl rfl (rd_ro hR) (by decide) rfl hk2) ?_)
            refine l_step (s_q rfl (wy rfl rfl rfl) (q_loadea (vs := encRep (xs.getD x.k default)) ag_64 rfl (rd_ro hR) (fun _ => rfl) hk2 (by simp [encRep]) (by simp [encRep]) rfl) ?_)
            refine l_step (s_s rfl (wy rfl rfl rfl) (s_buildSlice Try.underlying58 eo_64 rfl rfl rfl rfl (by decide) (by decide)) ?_)
            rintro _ _ ⟨b160, rfl, rfl⟩
            refine l_step (s_fn rfl (wy rfl rfl rfl) Try.func27 rfl (by kernel_rfl) rfl (Hear_spec bc cd hok2 _ _ [(xs.getD x.k default)] (by simp) ρ [.row 64 13 (some ⟨b160, 0, none⟩) 1 1 ([(xs.getD x.k default)].flatMap encRep)] (by exact rd_row Pick.here)) (by repeat (first | exact Sel.nil | exact Pick.here | apply Sel.cons | apply Pick.there)) ?_)
            rintro _ _ _ - ⟨rfl, rfl, rfl⟩
            rw [hearN_one, hear_dead hoff]
            try simp only [CliM, List.cons_append, List.nil_append, List.append_nil]
            refine l_step (s_q rfl (wy rfl rfl rfl) (q_neq rfl rfl) ?_)
            refine l_step (s_q rfl (wy rfl rfl rfl) (q_pick rfl rfl rfl) ?_)
            refine l_step (s_q rfl wn (q_pick rfl rfl rfl) ?_)
            refine l_nil ?_
            refine k_then_n ?_
            refine c_sure false rfl (by simp) ?_
            simp only [Bool.false_eq_true, if_true, if_false]
            refine c_skip ?_
            refine k_then_n ?_
            refine c_region ?_
            refine l_step (s_q rfl wn (q_move rfl) ?_)
            refine l_step (s_q rfl wn (q_move rfl) ?_)
            refine l_step (s_q rfl wn (by first | exact q_add rfl rfl (by omega) (by omega) | exact q_addw rfl rfl) ?_)
            refine l_step (s_q rfl wn (q_assign rfl) ?_)
            refine l_nil ?_
            refine k_blk_n ?_
            refine k_then_n ?_
            refine c_region ?_
            refine l_step (s_q rfl wn (q_move rfl) ?_)
            refine l_step (s_q rfl wn (by first | exact q_add rfl rfl (by omega) (by omega) | exact q_addw rfl rfl) ?_)
            refine l_step (s_q rfl wn (q_assign rfl) ?_)
            refine l_nil ?_
            refine k_then_n ?_
            exact t_next ⟨x.k + 1, sq, x.ended + 1, cd⟩ ⟨⟨by simp only []; omega, hni2, by simp only []; omega⟩, by simp only []; omega⟩ (.cons rfl (by first | rfl | (simp; done) | simp [*]) (.cons rfl (by first | rfl | (simp; done) | simp [*]) (.cons rfl (by first | rfl | (simp; done) | simp [*]) (.cons rfl (by first | rfl | (simp; done) | simp [*]) (.cons rfl (by first | rfl | (simp; done) | simp [*]) (.cons rfl (by first | rfl | (simp; done) | simp [*]) (.nil _))))))) (by simp only [CliM, List.cons_append, List.nil_append]; exact (by repeat (first | exact Ent.nil _ | exact Ent.refl _ | (refine Ent.pick (by repeat (first | exact Pick.here | apply Pick.there)) ?_) | refine Ent.skip ?_)))
          · skip
            have hO := fun q => hb (hov.2 q)
            rw [if_neg hb] at hni2 ⊢
            generalize hg_cd : (hearF cc (xs.getD x.k default)).1 = cd at hni2 hok2 ⊢
            try simp only [CliM, List.cons_append, List.nil_append, List.append_nil]
            refine l_step (s_q rfl wn (q_assign rfl) ?_)
            refine l_nil ?_
            refine k_then_n ?_
            refine c_seq ?_
            refine c_seq ?_
            refine c_region ?_
            refine l_step (s_q rfl wn (q_move rfl) ?_)
            refine l_step (s_q rfl wn (q_eql rfl rfl) ?_)
            refine l_step (s_q rfl wn (q_move rfl) ?_)
            refine l_step (s_q rfl wn (q_neqb rfl rfl Try.underlying4) ?_)
            refine l_step (s_q rfl wn (q_move rfl) ?_)
            refine Tr.env (.cons (t := 148) (v := .bool false) rfl (congrArg Value.bool (by rw [decide_eq_false (show ¬ (((xs.getD x.k default).client = (me : Int) ∧ (xs.getD x.k default).seq = (sq : Int)) ∧ (xs.getD x.k default).err ≠ 90 ∧ (xs.getD x.k default).err ≠ 92) from hO)]; rfl)) (EnvLe.refl _)) ?_
            refine l_step (s_q rfl (wy rfl rfl rfl) (q_move rfl) ?_)
            refine l_step (s_q rfl (wy rfl rfl rfl) (q_gtr rfl rfl) ?_)
            refine l_step (s_q rfl wn (q_pick rfl rfl rfl) ?_)
            refine l_step (s_q rfl wn (q_move rfl) ?_)
            refine Tr.env (.cons (t := 152) (v := .bool false) rfl (congrArg Value.bool (by simp)) (EnvLe.refl _)) ?_
            refine l_step (s_q rfl (wy rfl rfl rfl) (q_move rfl) ?_)
            refine l_step (s_q rfl (wy rfl rfl rfl) (q_move rfl) ?_)
            refine Tr.env (.cons (t := 154) (v := .bool false) rfl (congrArg Value.bool (decide_eq_false hO)) (EnvLe.refl _)) ?_
            refine l_step (s_no rfl (wno rfl rfl (by decide)) ?_)
            refine l_step (s_no rfl (wno rfl rfl (by decide)) ?_)
            refine l_step (s_no rfl (wno rfl rfl (by decide)) ?_)
            refine l_step (s_no rfl (wno rfl rfl (by decide)) ?_)
            refine l_step (s_no rfl (wno rfl rfl (by decide)) ?_)
            refine l_step (s_no rfl (wno rfl rfl (by decide)) ?_)
            refine l_step (s_no rfl (wno rfl rfl (by decide)) ?_)
            refine l_step (s_no rfl (wno rfl rfl (by decide)) ?_)
            refine l_step (s_q rfl (wy rfl rfl rfl) (q_pick rfl rfl rfl) ?_)
            refine l_step (s_q rfl wn (q_pick rfl rfl rfl) ?_)
            refine l_nil ?_
            refine k_then_n ?_
            refine c_no rfl ?_
            refine c_skip ?_
            refine k_then_n ?_
            refine c_region ?_
            refine l_step (s_q rfl wn (q_move rfl) ?_)
            refine l_step (s_q rfl wn (q_move rfl) ?_)
            refine l_step (s_q rfl wn (by first | exact q_add rfl rfl (by omega) (by omega) | exact q_addw rfl rfl) ?_)
            refine l_step (s_q rfl wn (q_assign rfl) ?_)
            refine l_nil ?_
            refine k_blk_n ?_
            refine k_then_n ?_
            refine c_region ?_
            refine l_step (s_q rfl wn (q_move rfl) ?_)
            refine l_step (s_q rfl wn (by first | exact q_add rfl rfl (by omega) (by omega) | exact q_addw rfl rfl) ?_)
            refine l_step (s_q rfl wn (q_assign rfl) ?_)
            refine l_nil ?_
            refine k_then_n ?_
            exact t_next ⟨x.k + 1, sq, x.ended, cd⟩ ⟨⟨by simp only []; omega, hni2, by simp only []; omega⟩, by simp only []; omega⟩ (.cons rfl (by first | rfl | (simp; done) | simp [*]) (.cons rfl (by first | rfl | (simp; done) | simp [*]) (.cons rfl (by first | rfl | (simp; done) | simp [*]) (.cons rfl (by first | rfl | (simp; done) | simp [*]) (.cons rfl (by first | rfl | (simp; done) | simp [*]) (.cons rfl (by first | rfl | (simp; done) | simp [*]) (.nil _))))))) (by simp only [CliM, List.cons_append, List.nil_append]; exact (by repeat (first | exact Ent.nil _ | exact Ent.refl _ | (refine Ent.pick (by repeat (first | exact Pick.here | apply Pick.there)) ?_) | refine Ent.skip ?_)))
        · skip
          try simp only [CliM, List.cons_append, List.nil_append, List.append_nil]
          have hon := ho
          have hni := hx2
          obtain ⟨sq, hsqv⟩ : ∃ k : Nat, k = x.seq := ⟨_, rfl⟩
          rw [← hsqv] at hni
          generalize hg_cc : x.c = cc at hni hon ⊢
          refine l_step (s_q rfl wn (q_move rfl) ?_)
          refine l_step (s_q rfl wn (q_extract rfl rfl) ?_)
          refine l_step (s_q rfl wn (q_extract rfl rfl) ?_)
          refine l_step (s_s rfl wn (s_allocz zc_54) ?_)
          rintro _ _ ⟨b11, rfl, rfl⟩
          refine l_step (s_s0 wn (s_storep (ws := encAsk { cc.ask with waves := w74 }) (cs := encAsk askZ) (cs' := encAsk { cc.ask with waves := w74 }) rfl rfl rfl sz_54 (oneAsk _) (by simp [encAsk]) rfl (by repeat (first | exact Pick.here | apply Pick.there))) ?_)
          rintro _ _ ⟨rfl, rfl⟩
          refine l_step (s_q rfl wn (q_assign rfl) ?_)
          refine l_nil ?_
          refine k_then_n ?_
          refine c_seq ?_
          refine c_region ?_
          refine l_step (s_q rfl wn (q_move rfl) ?_)
          refine l_step (s_q rfl wn (q_not rfl) ?_)
          refine l_nil ?_
          refine k_then_n ?_
          refine c_sure false rfl rfl ?_
          simp only [Bool.false_eq_true, if_true, if_false]
          refine c_skip ?_
          refine k_then_n ?_
          refine c_seq ?_
          refine c_region ?_
          refine l_step (s_q rfl wn (q_move rfl) ?_)
          refine l_step (s_fn rfl wn Try.func26 rfl (by kernel_rfl) rfl (on_spec bc cc (ni_ok hni).1 ρ) (by repeat (first | exact Sel.nil | exact Pick.here | apply Sel.cons | apply Pick.there)) ?_)
          rintro _ _ _ - ⟨rfl, ho2⟩
          obtain ⟨w87, hw87, rfl, rfl⟩ := or_on hon ho2
          clear ho2
          try simp only [CliM, List.cons_append, List.nil_append, List.append_nil]
          refine l_step (s_q rfl wn (q_move rfl) ?_)
          refine l_step (s_q rfl wn (q_extract rfl rfl) ?_)
          refine l_step (s_q rfl wn (q_extract rfl rfl) ?_)
          refine l_step (s_s rfl wn (s_allocz zc_54) ?_)
          rintro _ _ ⟨b13, rfl, rfl⟩
          refine l_step (s_s0 wn (s_storep (ws := encAsk { cc.ask with waves := w87 }) (cs := encAsk askZ) (cs' := encAsk { cc.ask with waves := w87 }) rfl rfl rfl sz_54 (oneAsk _) (by simp [encAsk]) rfl (by repeat (first | exact Pick.here | apply Pick.there))) ?_)
          rintro _ _ ⟨rfl, rfl⟩
          refine l_step (s_q rfl wn (q_assign rfl) ?_)
          refine l_nil ?_
          refine k_then_n ?_
          refine c_seq ?_
          refine c_seq ?_
          refine c_region ?_
          refine l_step (s_q rfl wn (q_move rfl) ?_)
          refine l_step (s_q rfl wn (q_not rfl) ?_)
          refine l_step (s_q rfl wn (q_move rfl) ?_)
          refine Tr.env (.cons (t := 92) (v := .bool false) rfl (congrArg Value.bool rfl) (EnvLe.refl _)) ?_
          refine l_step (s_q rfl (wy rfl rfl rfl) (by first | exact q_fieldp rfl fo_54_2 | exact q_fielde rfl fo_54_2 | exact q_fieldr rfl fo_54_2) ?_)
          refine l_step (s_q rfl (wy rfl rfl rfl) (by first | exact q_loadp sc_3 rfl (by repeat (first | exact Pick.here | apply Pick.there)) rfl | exact q_loade sc_3 rfl (by first | assumption | exact rd_ro (by assumption) | exact rd_row (by repeat (first | exact Pick.here | apply Pick.there))) (fun _ => rfl) (by first | assumption | omega) (by decide) rfl) ?_)
          refine l_step (s_q rfl (wy rfl rfl rfl) (q_move rfl) ?_)
          refine l_step (s_q rfl (wy rfl rfl rfl) (q_neq rfl rfl) ?_)
          refine l_step (s_q rfl wn (q_pick rfl rfl rfl) ?_)
          refine l_step (s_q rfl wn (q_move rfl) ?_)
          refine Tr.env (.cons (t := 98) (v := .bool false) rfl (congrArg Value.bool (decide_eq_false (fun h => h (by rw [(ni_who hni hon).2]; omega)))) (EnvLe.refl _)) ?_
          refine l_step (s_q rfl (wy rfl rfl rfl) (by first | exact q_fieldp rfl fo_54_1 | exact q_fielde rfl fo_54_1 | exact q_fieldr rfl fo_54_1) ?_)
          refine l_step (s_q rfl (wy rfl rfl rfl) (by first | exact q_loadp sc_3 rfl (by repeat (first | exact Pick.here | apply Pick.there)) rfl | exact q_loade sc_3 rfl (by first | assumption | exact rd_ro (by assumption) | exact rd_row (by repeat (first | exact Pick.here | apply Pick.there))) (fun _ => rfl) (by first | assumption | omega) (by decide) rfl) ?_)
          refine l_step (s_q rfl (wy rfl rfl rfl) (q_move rfl) ?_)
          refine l_step (s_q rfl (wy rfl rfl rfl) (q_neq rfl rfl) ?_)
          refine l_step (s_q rfl wn (q_pick rfl rfl rfl) ?_)
          refine l_nil ?_
          refine k_then_n ?_
          refine c_sure false rfl (decide_eq_false (fun h => h (ni_who hni hon).1)) ?_
          simp only [Bool.false_eq_true, if_true, if_false]
          refine c_skip ?_
          refine k_then_n ?_
          refine c_seq ?_
          refine t_cut (ι := Unit) (fun _u => True) (fun _u => [(1, .slice a1 xs.length c1), (5, .int .i64 (me : Int)), (6, .pointer (some ⟨bc, 0, none⟩)), (8, .int .i64 (sq : Int)), (9, .int .i64 (x.ended : Int)), (10, .int .i64 (x.k : Int)), (15, .bool (decide ((xs.getD x.k default).client = (me : Int) ∧ (xs.getD x.k default).seq = (sq : Int))))]) (fun _u => CliM 3 122 bc cc ++ Δ) ?_ ?_
          · skip
            refine c_region ?_
            refine l_step (s_q rfl wn (q_move rfl) ?_)
            refine l_step (s_q rfl wn (q_move rfl) ?_)
            refine l_step (s_q rfl wn (q_indexe x.k Try.underlying58 sz_64 rfl rfl (rd_ro hR) (by decide) rfl hk2) ?_)
            refine l_step (s_q rfl wn (by first | exact q_fieldp rfl fo_64_0 | exact q_fielde rfl fo_64_0 | exact q_fieldr rfl fo_64_0) ?_)
            refine l_step (s_q rfl wn (q_loade (enc := encRep) (xs := xs) (j := x.k) (off := 0) sc_3 rfl (rd_ro hR) (fun _ => rfl) hk2 (by decide) rfl) ?_)
            refine l_step (s_q rfl wn (q_move rfl) ?_)
            refine l_step (s_q rfl wn (q_eql rfl rfl) ?_)
            refine l_step (s_q rfl wn (q_move rfl) ?_)
            first | refine t_splitd (d := 111) rfl (fun g21_7 => ?_) (fun g21_7 => ?_) | refine t_split (d := 111) rfl (fun g21_7 => ?_) (fun g21_7 => ?_)
            · skip
              refine l_step (s_q rfl (wy rfl rfl rfl) (q_move rfl) ?_)
              refine l_step (s_q rfl (wy rfl rfl rfl) (q_move rfl) ?_)
              refine l_step (s_q rfl (wy rfl rfl rfl) (q_indexe x.k Try.underlying58 sz_64 rfl rfl (rd_ro hR) (by decide) rfl hk2) ?_)
              refine l_step (s_q rfl (wy rfl rfl rfl) (by first | exact q_fieldp rfl fo_64_1 | exact q_fielde rfl fo_64_1 | exact q_fieldr rfl fo_64_1) ?_)
              refine l_step (s_q rfl (wy rfl rfl rfl) (q_loade (enc := encRep) (xs := xs) (j := x.k) (off := 1) sc_3 rfl (rd_ro hR) (fun _ => rfl) hk2 (by decide) rfl) ?_)
              refine l_step (s_q rfl (wy rfl rfl rfl) (q_move rfl) ?_)
              refine l_step (s_q rfl (wy rfl rfl rfl) (q_eql rfl rfl) ?_)
              refine l_step (s_q rfl wn (q_pick rfl rfl rfl) ?_)
              refine l_step (s_q rfl wn (q_assign rfl) ?_)
              refine l_nil ?_
              refine k_then_n ?_
              exact t_next () trivial (.cons rfl (by first | rfl | (simp; done) | simp [*]) (.cons rfl (by first | rfl | (simp; done) | simp [*]) (.cons rfl (by first | rfl | (simp; done) | simp [*]) (.cons rfl (inte (by omega)) (.cons rfl (by first | rfl | (simp; done) | simp [*]) (.cons rfl (by first | rfl | (simp; done) | simp [*]) (.cons rfl (boole (by simp only [g21_7, true_and, false_and, decide_false]; try (first | rfl | (rw [decide_eq_decide]; constructor <;> intro q <;> omega)))) (.nil _)))))))) (by simp only [CliM, List.cons_append, List.nil_append]; exact (by repeat (first | exact Ent.nil _ | exact Ent.refl _ | (refine Ent.pick (by repeat (first | exact Pick.here | apply Pick.there)) ?_) | refine Ent.skip ?_)))
            · skip
              refine l_step (s_no rfl (wno rfl rfl (by decide)) ?_)
              refine l_step (s_no rfl (wno rfl rfl (by decide)) ?_)
              refine l_step (s_no rfl (wno rfl rfl (by decide)) ?_)
              refine l_step (s_no rfl (wno rfl rfl (by decide)) ?_)
              refine l_step (s_no rfl (wno rfl rfl (by decide)) ?_)
              refine l_step (s_no rfl (wno rfl rfl (by decide)) ?_)
              refine l_step (s_no rfl (wno rfl rfl (by decide)) ?_)
              refine l_step (s_q rfl wn (q_pick rfl rfl rfl) ?_)
              refine l_step (s_q rfl wn (q_assign rfl) ?_)
              refine l_nil ?_
              refine k_then_n ?_
              exact t_next () trivial (.cons rfl (by first | rfl | (simp; done) | simp [*]) (.cons rfl (by first | rfl | (simp; done) | simp [*]) (.cons rfl (by first | rfl | (simp; done) | simp [*]) (.cons rfl (inte (by omega)) (.cons rfl (by first | rfl | (simp; done) | simp [*]) (.cons rfl (by first | rfl | (simp; done) | simp [*]) (.cons rfl (boole (by simp only [g21_7, true_and, false_and, decide_false]; try (first | rfl | (rw [decide_eq_decide]; constructor <;> intro q <;> omega)))) (.nil _)))))))) (by simp only [CliM, List.cons_append, List.nil_append]; exact (by repeat (first | exact Ent.nil _ | exact Ent.refl _ | (refine Ent.pick (by repeat (first | exact Pick.here | apply Pick.there)) ?_) | refine Ent.skip ?_)))
          intro _u _hJ
          try simp only [CliM, List.cons_append, List.nil_append, List.append_nil]
          refine c_seq ?_
          refine t_cut (ι := Unit) (fun _u => True) (fun _u => [(1, .slice a1 xs.length c1), (5, .int .i64 (me : Int)), (6, .pointer (some ⟨bc, 0, none⟩)), (8, .int .i64 (sq : Int)), (9, .int .i64 (x.ended : Int)), (10, .int .i64 (x.k : Int)), (16, .bool (decide (((xs.getD x.k default).client = (me : Int) ∧ (xs.getD x.k default).seq = (sq : Int)) ∧ (xs.getD x.k default).err ≠ 90 ∧ (xs.getD x.k default).err ≠ 92)))]) (fun _u => CliM 3 122 bc cc ++ Δ) ?_ ?_
          · skip
            refine c_region ?_
            refine l_step (s_q rfl wn (q_move rfl) ?_)
            refine l_step (s_q rfl wn (q_move rfl) ?_)
            first | refine t_splitd (d := 121) rfl (fun g22_1 => ?_) (fun g22_1 => ?_) | refine t_split (d := 121) rfl (fun g22_1 => ?_) (fun g22_1 => ?_)
            · skip
              refine l_step (s_q rfl (wy rfl rfl rfl) (q_move rfl) ?_)
              refine l_step (s_q rfl (wy rfl rfl rfl) (q_move rfl) ?_)
              refine l_step (s_q rfl (wy rfl rfl rfl) (q_indexe x.k Try.underlying58 sz_64 rfl rfl (rd_ro hR) (by decide) rfl hk2) ?_)
              refine l_step (s_q rfl (wy rfl rfl rfl) (by first | exact q_fieldp rfl fo_64_2 | exact q_fielde rfl fo_64_2 | exact q_fieldr rfl fo_64_2) ?_)
              refine l_step (s_q rfl (wy rfl rfl rfl) (q_loade (enc := encRep) (xs := xs) (j := x.k) (off := 2) sc_33 rfl (rd_ro hR) (fun _ => rfl) hk2 (by decide) rfl) ?_)
              refine l_step (s_q rfl (wy rfl rfl rfl) (q_neq rfl rfl) ?_)
              refine l_step (s_q rfl wn (q_pick rfl rfl rfl) ?_)
              refine l_step (s_q rfl wn (q_move rfl) ?_)
              first | refine t_splitd (d := 129) rfl (fun g22_9 => ?_) (fun g22_9 => ?_) | refine t_split (d := 129) rfl (fun g22_9 => ?_) (fun g22_9 => ?_)
              · skip
                refine l_step (s_q rfl (wy rfl rfl rfl) (q_move rfl) ?_)
                refine l_step (s_q rfl (wy rfl rfl rfl) (q_move rfl) ?_)
                refine l_step (s_q rfl (wy rfl rfl rfl) (q_indexe x.k Try.underlying58 sz_64 rfl rfl (rd_ro hR) (by decide) rfl hk2) ?_)
                refine l_step (s_q rfl (wy rfl rfl rfl) (by first | exact q_fieldp rfl fo_64_2 | exact q_fielde rfl fo_64_2 | exact q_fieldr rfl fo_64_2) ?_)
                refine l_step (s_q rfl (wy rfl rfl rfl) (q_loade (enc := encRep) (xs := xs) (j := x.k) (off := 2) sc_33 rfl (rd_ro hR) (fun _ => rfl) hk2 (by decide) rfl) ?_)
                refine l_step (s_q rfl (wy rfl rfl rfl) (q_neq rfl rfl) ?_)
                refine l_step (s_q rfl wn (q_pick rfl rfl rfl) ?_)
                refine l_step (s_q rfl wn (q_assign rfl) ?_)
                refine l_nil ?_
                refine k_then_n ?_
                exact t_next () trivial (.cons rfl (by first | rfl | (simp; done) | simp [*]) (.cons rfl (by first | rfl | (simp; done) | simp [*]) (.cons rfl (by first | rfl | (simp; done) | simp [*]) (.cons rfl (by first | rfl | (simp; done) | simp [*]) (.cons rfl (by first | rfl | (simp; done) | simp [*]) (.cons rfl (by first | rfl | (simp; done) | simp [*]) (.cons rfl (boole (by simp_all)) (.nil _)))))))) (by simp only [CliM, List.cons_append, List.nil_append]; exact (by repeat (first | exact Ent.nil _ | exact Ent.refl _ | (refine Ent.pick (by repeat (first | exact Pick.here | apply Pick.there)) ?_) | refine Ent.skip ?_)))
              · skip
                refine l_step (s_no rfl (wno rfl rfl (by decide)) ?_)
                refine l_step (s_no rfl (wno rfl rfl (by decide)) ?_)
                refine l_step (s_no rfl (wno rfl rfl (by decide)) ?_)
                refine l_step (s_no rfl (wno rfl rfl (by decide)) ?_)
                refine l_step (s_no rfl (wno rfl rfl (by decide)) ?_)
                refine l_step (s_no rfl (wno rfl rfl (by decide)) ?_)
                refine l_step (s_q rfl wn (q_pick rfl rfl rfl) ?_)
                refine l_step (s_q rfl wn (q_assign rfl) ?_)
                refine l_nil ?_
                refine k_then_n ?_
                exact t_next () trivial (.cons rfl (by first | rfl | (simp; done) | simp [*]) (.cons rfl (by first | rfl | (simp; done) | simp [*]) (.cons rfl (by first | rfl | (simp; done) | simp [*]) (.cons rfl (by first | rfl | (simp; done) | simp [*]) (.cons rfl (by first | rfl | (simp; done) | simp [*]) (.cons rfl (by first | rfl | (simp; done) | simp [*]) (.cons rfl (boole (by simp_all)) (.nil _)))))))) (by simp only [CliM, List.cons_append, List.nil_append]; exact (by repeat (first | exact Ent.nil _ | exact Ent.refl _ | (refine Ent.pick (by repeat (first | exact Pick.here | apply Pick.there)) ?_) | refine Ent.skip ?_)))
            · skip
              refine l_step (s_no rfl (wno rfl rfl (by decide)) ?_)
              refine l_step (s_no rfl (wno rfl rfl (by decide)) ?_)
              refine l_step (s_no rfl (wno rfl rfl (by decide)) ?_)
              refine l_step (s_no rfl (wno rfl rfl (by decide)) ?_)
              refine l_step (s_no rfl (wno rfl rfl (by decide)) ?_)
              refine l_step (s_no rfl (wno rfl rfl (by decide)) ?_)
              refine l_step (s_q rfl wn (q_pick rfl rfl rfl) ?_)
              refine l_step (s_q rfl wn (q_move rfl) ?_)
              first | refine t_splitd (d := 129) rfl (fun g22_9 => ?_) (fun g22_9 => ?_) | refine t_split (d := 129) rfl (fun g22_9 => ?_) (fun g22_9 => ?_)
              · skip
                refine l_step (s_q rfl (wy rfl rfl rfl) (q_move rfl) ?_)
                refine l_step (s_q rfl (wy rfl rfl rfl) (q_move rfl) ?_)
                refine l_step (s_q rfl (wy rfl rfl rfl) (q_indexe x.k Try.underlying58 sz_64 rfl rfl (rd_ro hR) (by decide) rfl hk2) ?_)
                refine l_step (s_q rfl (wy rfl rfl rfl) (by first | exact q_fieldp rfl fo_64_2 | exact q_fielde rfl fo_64_2 | exact q_fieldr rfl fo_64_2) ?_)
                refine l_step (s_q rfl (wy rfl rfl rfl) (q_loade (enc := encRep) (xs := xs) (j := x.k) (off := 2) sc_33 rfl (rd_ro hR) (fun _ => rfl) hk2 (by decide) rfl) ?_)
                refine l_step (s_q rfl (wy rfl rfl rfl) (q_neq rfl rfl) ?_)
                refine l_step (s_q rfl wn (q_pick rfl rfl rfl) ?_)
                refine l_step (s_q rfl wn (q_assign rfl) ?_)
                refine l_nil ?_
                refine k_then_n ?_
                exact t_next () trivial (.cons rfl (by first | rfl | (simp; done) | simp [*]) (.cons rfl (by first | rfl | (simp; done) | simp [*]) (.cons rfl (by first | rfl | (simp; done) | simp [*]) (.cons rfl (by first | rfl | (simp; done) | simp [*]) (.cons rfl (by first | rfl | (simp; done) | simp [*]) (.cons rfl (by first | rfl | (simp; done) | simp [*]) (.cons rfl (boole (by simp_all)) (.nil _)))))))) (by simp only [CliM, List.cons_append, List.nil_append]; exact (by repeat (first | exact Ent.nil _ | exact Ent.refl _ | (refine Ent.pick (by repeat (first | exact Pick.here | apply Pick.there)) ?_) | refine Ent.skip ?_)))
              · skip
                refine l_step (s_no rfl (wno rfl rfl (by decide)) ?_)
                refine l_step (s_no rfl (wno rfl rfl (by decide)) ?_)
                refine l_step (s_no rfl (wno rfl rfl (by decide)) ?_)
                refine l_step (s_no rfl (wno rfl rfl (by decide)) ?_)
                refine l_step (s_no rfl (wno rfl rfl (by decide)) ?_)
                refine l_step (s_no rfl (wno rfl rfl (by decide)) ?_)
                refine l_step (s_q rfl wn (q_pick rfl rfl rfl) ?_)
                refine l_step (s_q rfl wn (q_assign rfl) ?_)
                refine l_nil ?_
                refine k_then_n ?_
                exact t_next () trivial (.cons rfl (by first | rfl | (simp; done) | simp [*]) (.cons rfl (by first | rfl | (simp; done) | simp [*]) (.cons rfl (by first | rfl | (simp; done) | simp [*]) (.cons rfl (by first | rfl | (simp; done) | simp [*]) (.cons rfl (by first | rfl | (simp; done) | simp [*]) (.cons rfl (by first | rfl | (simp; done) | simp [*]) (.cons rfl (boole (by simp_all)) (.nil _)))))))) (by simp only [CliM, List.cons_append, List.nil_append]; exact (by repeat (first | exact Ent.nil _ | exact Ent.refl _ | (refine Ent.pick (by repeat (first | exact Pick.here | apply Pick.there)) ?_) | refine Ent.skip ?_)))
          intro _u _hJ
          try simp only [CliM, List.cons_append, List.nil_append, List.append_nil]
          refine c_seq ?_
          refine c_region ?_
          refine l_step (s_q rfl wn (q_move rfl) ?_)
          refine l_step (s_q rfl wn (q_move rfl) ?_)
          refine l_step (s_q rfl wn (q_move rfl) ?_)
          refine l_step (s_q rfl wn (q_indexe x.k Try.underlying58 sz_64 rfl rfl (rd_ro hR) (by decide) rfl hk2) ?_)
          refine l_step (s_q rfl wn (q_loadea (vs := encRep (xs.getD x.k default)) ag_64 rfl (rd_ro hR) (fun _ => rfl) hk2 (by simp [encRep]) (by simp [encRep]) rfl) ?_)
          refine l_step (s_s rfl wn (s_buildSlice Try.underlying58 eo_64 rfl rfl rfl rfl (by decide) (by decide)) ?_)
          rintro _ _ ⟨b142, rfl, rfl⟩
          refine l_step (s_fn rfl wn Try.func27 rfl (by kernel_rfl) rfl (Hear_spec bc cc (ni_ok hni).1 _ _ [(xs.getD x.k default)] (by simp) ρ [.row 64 13 (some ⟨b142, 0, none⟩) 1 1 ([(xs.getD x.k default)].flatMap encRep)] (by exact rd_row Pick.here)) (by repeat (first | exact Sel.nil | exact Pick.here | apply Sel.cons | apply Pick.there)) ?_)
          rintro _ _ _ - ⟨rfl, rfl, rfl⟩
          rw [hearN_one]
          have hov := ni_over (r := (xs.getD x.k default)) hni hon
          obtain ⟨hni2, hdead⟩ := ni_hear (r := (xs.getD x.k default)) hni
          have hok2 := (ni_ok hni2).1
          by_cases hb : (hearF cc (xs.getD x.k default)).2 = true
          · skip
            have hO := hov.1 hb
            have hoff := hdead hb
            rw [if_pos hb] at hni2 ⊢
            generalize hg_cd : (hearF cc (xs.getD x.k default)).1 = cd at hni2 hoff hok2 ⊢
            try simp only [CliM, List.cons_append, List.nil_append, List.append_nil]
            refine l_step (s_q rfl wn (q_assign rfl) ?_)
            refine l_nil ?_
            refine k_then_n ?_
            refine c_seq ?_
            refine c_seq ?_
            refine c_region ?_
            refine l_step (s_q rfl wn (q_move rfl) ?_)
            refine l_step (s_q rfl wn (q_eql rfl rfl) ?_)
            refine l_step (s_q rfl wn (q_move rfl) ?_)
            refine l_step (s_q rfl wn (q_neqb rfl rfl Try.underlying4) ?_)
            refine l_step (s_q rfl wn (q_move rfl) ?_)
            refine Tr.env (.cons (t := 148) (v := .bool false) rfl (congrArg Value.bool (by rw [decide_eq_true (show (((xs.getD x.k default).client = (me : Int) ∧ (xs.getD x.k default).seq = (sq : Int)) ∧ (xs.getD x.k default).err ≠ 90 ∧ (xs.getD x.k default).err ≠ 92) from hO)]; rfl)) (EnvLe.refl _)) ?_
            refine l_step (s_q rfl (wy rfl rfl rfl) (q_move rfl) ?_)
            refine l_step (s_q rfl (wy rfl rfl rfl) (q_gtr rfl rfl) ?_)
            refine l_step (s_q rfl wn (q_pick rfl rfl rfl) ?_)
            refine l_step (s_q rfl wn (q_move rfl) ?_)
            refine Tr.env (.cons (t := 152) (v := .bool false) rfl (congrArg Value.bool (by simp)) (EnvLe.refl _)) ?_
            refine l_step (s_q rfl (wy rfl rfl rfl) (q_move rfl) ?_)
            refine l_step (s_q rfl (wy rfl rfl rfl) (q_move rfl) ?_)
            refine Tr.env (.cons (t := 154) (v := .bool true) rfl (congrArg Value.bool (decide_eq_true hO)) (EnvLe.refl _)) ?_
            refine l_step (s_q rfl (wy rfl rfl rfl) (q_move rfl) ?_)
            refine l_step (s_q rfl (wy rfl rfl rfl) (q_move rfl) ?_)
            refine l_step (s_q rfl (wy rfl rfl rfl) (q_move rfl) ?_)
            refine l_step (s_q rfl (wy rfl rfl rfl) (q_indexe x.k Try.underlying58 sz_64 rfl rfl (rd_ro hR) (by decide) rfl hk2) ?_)
            refine l_step (s_q rfl (wy rfl rfl rfl) (q_loadea (vs := encRep (xs.getD x.k default)) ag_64 rfl (rd_ro hR) (fun _ => rfl) hk2 (by simp [encRep]) (by simp [encRep]) rfl) ?_)
            refine l_step (s_s rfl (wy rfl rfl rfl) (s_buildSlice Try.underlying58 eo_64 rfl rfl rfl rfl (by decide) (by decide)) ?_)
            rintro _ _ ⟨b160, rfl, rfl⟩
            refine l_step (s_fn rfl (wy rfl rfl rfl) Try.func27 rfl (by kernel_rfl) rfl (Hear_spec bc cd hok2 _ _ [(xs.getD x.k default)] (by simp) ρ [.row 64 13 (some ⟨b160, 0, none⟩) 1 1 ([(xs.getD x.k default)].flatMap encRep)] (by exact rd_row Pick.here)) (by repeat (first | exact Sel.nil | exact Pick.here | apply Sel.cons | apply Pick.there)) ?_)
            rintro _ _ _ - ⟨rfl, rfl, rfl⟩
            rw [hearN_one, hear_dead hoff]
            try simp only [CliM, List.cons_append, List.nil_append, List.append_nil]
            refine l_step (s_q rfl (wy rfl rfl rfl) (q_neq rfl rfl) ?_)
            refine l_step (s_q rfl (wy rfl rfl rfl) (q_pick rfl rfl rfl) ?_)
            refine l_step (s_q rfl wn (q_pick rfl rfl rfl) ?_)
            refine l_nil ?_
            refine k_then_n ?_
            refine c_sure false rfl (by simp) ?_
            simp only [Bool.false_eq_true, if_true, if_false]
            refine c_skip ?_
            refine k_then_n ?_
            refine c_region ?_
            refine l_step (s_q rfl wn (q_move rfl) ?_)
            refine l_step (s_q rfl wn (q_move rfl) ?_)
            refine l_step (s_q rfl wn (by first | exact q_add rfl rfl (by omega) (by omega) | exact q_addw rfl rfl) ?_)
            refine l_step (s_q rfl wn (q_assign rfl) ?_)
            refine l_nil ?_
            refine k_blk_n ?_
            refine k_then_n ?_
            refine c_region ?_
            refine l_step (s_q rfl wn (q_move rfl) ?_)
            refine l_step (s_q rfl wn (by first | exact q_add rfl rfl (by omega) (by omega) | exact q_addw rfl rfl) ?_)
            refine l_step (s_q rfl wn (q_assign rfl) ?_)
            refine l_nil ?_
            refine k_then_n ?_
            exact t_next ⟨x.k + 1, sq, x.ended + 1, cd⟩ ⟨⟨by simp only []; omega, hni2, by simp only []; omega⟩, by simp only []; omega⟩ (.cons rfl (by first | rfl | (simp; done) | simp [*]) (.cons rfl (by first | rfl | (simp; done) | simp [*]) (.cons rfl (by first | rfl | (simp; done) | simp [*]) (.cons rfl (by first | rfl | (simp; done) | simp [*]) (.cons rfl (by first | rfl | (simp; done) | simp [*]) (.cons rfl (by first | rfl | (simp; done) | simp [*]) (.nil _))))))) (by simp only [CliM, List.cons_append, List.nil_append]; exact (by repeat (first | exact Ent.nil _ | exact Ent.refl _ | (refine Ent.pick (by repeat (first | exact Pick.here | apply Pick.there)) ?_) | refine Ent.skip ?_)))
          · skip
            have hO := fun q => hb (hov.2 q)
            rw [if_neg hb] at hni2 ⊢
            generalize hg_cd : (hearF cc (xs.getD x.k default)).1 = cd at hni2 hok2 ⊢
            try simp only [CliM, List.cons_append, List.nil_append, List.append_nil]
            refine l_step (s_q rfl wn (q_assign rfl) ?_)
            refine l_nil ?_
            refine k_then_n ?_
            refine c_seq ?_
            refine c_seq ?_
            refine c_region ?_
            refine l_step (s_q rfl wn (q_move rfl) ?_)
            refine l_step (s_q rfl wn (q_eql rfl rfl) ?_)
            refine l_step (s_q rfl wn (q_move rfl) ?_)
            refine l_step (s_q rfl wn (q_neqb rfl rfl Try.underlying4) ?_)
            refine l_step (s_q rfl wn (q_move rfl) ?_)
            refine Tr.env (.cons (t := 148) (v := .bool false) rfl (congrArg Value.bool (by rw [decide_eq_false (show ¬ (((xs.getD x.k default).client = (me : Int) ∧ (xs.getD x.k default).seq = (sq : Int)) ∧ (xs.getD x.k default).err ≠ 90 ∧ (xs.getD x.k default).err ≠ 92) from hO)]; rfl)) (EnvLe.refl _)) ?_
            refine l_step (s_q rfl (wy rfl rfl rfl) (q_move rfl) ?_)
            refine l_step (s_q rfl (wy rfl rfl rfl) (q_gtr rfl rfl) ?_)
            refine l_step (s_q rfl wn (q_pick rfl rfl rfl) ?_)
            refine l_step (s_q rfl wn (q_move rfl) ?_)
            refine Tr.env (.cons (t := 152) (v := .bool false) rfl (congrArg Value.bool (by simp)) (EnvLe.refl _)) ?_
            refine l_step (s_q rfl (wy rfl rfl rfl) (q_move rfl) ?_)
            refine l_step (s_q rfl (wy rfl rfl rfl) (q_move rfl) ?_)
            refine Tr.env (.cons (t := 154) (v := .bool false) rfl (congrArg Value.bool (decide_eq_false hO)) (EnvLe.refl _)) ?_
            refine l_step (s_no rfl (wno rfl rfl (by decide)) ?_)
            refine l_step (s_no rfl (wno rfl rfl (by decide)) ?_)
            refine l_step (s_no rfl (wno rfl rfl (by decide)) ?_)
            refine l_step (s_no rfl (wno rfl rfl (by decide)) ?_)
            refine l_step (s_no rfl (wno rfl rfl (by decide)) ?_)
            refine l_step (s_no rfl (wno rfl rfl (by decide)) ?_)
            refine l_step (s_no rfl (wno rfl rfl (by decide)) ?_)
            refine l_step (s_no rfl (wno rfl rfl (by decide)) ?_)
            refine l_step (s_q rfl (wy rfl rfl rfl) (q_pick rfl rfl rfl) ?_)
            refine l_step (s_q rfl wn (q_pick rfl rfl rfl) ?_)
            refine l_nil ?_
            refine k_then_n ?_
            refine c_no rfl ?_
            refine c_skip ?_
            refine k_then_n ?_
            refine c_region ?_
            refine l_step (s_q rfl wn (q_move rfl) ?_)
            refine l_step (s_q rfl wn (q_move rfl) ?_)
            refine l_step (s_q rfl wn (by first | exact q_add rfl rfl (by omega) (by omega) | exact q_addw rfl rfl) ?_)
            refine l_step (s_q rfl wn (q_assign rfl) ?_)
            refine l_nil ?_
            refine k_blk_n ?_
            refine k_then_n ?_
            refine c_region ?_
            refine l_step (s_q rfl wn (q_move rfl) ?_)
            refine l_step (s_q rfl wn (by first | exact q_add rfl rfl (by omega) (by omega) | exact q_addw rfl rfl) ?_)
            refine l_step (s_q rfl wn (q_assign rfl) ?_)
            refine l_nil ?_
            refine k_then_n ?_
            exact t_next ⟨x.k + 1, sq, x.ended, cd⟩ ⟨⟨by simp only []; omega, hni2, by simp only []; omega⟩, by simp only []; omega⟩ (.cons rfl (by first | rfl | (simp; done) | simp [*]) (.cons rfl (by first | rfl | (simp; done) | simp [*]) (.cons rfl (by first | rfl | (simp; done) | simp [*]) (.cons rfl (by first | rfl | (simp; done) | simp [*]) (.cons rfl (by first | rfl | (simp; done) | simp [*]) (.cons rfl (by first | rfl | (simp; done) | simp [*]) (.nil _))))))) (by simp only [CliM, List.cons_append, List.nil_append]; exact (by repeat (first | exact Ent.nil _ | exact Ent.refl _ | (refine Ent.pick (by repeat (first | exact Pick.here | apply Pick.there)) ?_) | refine Ent.skip ?_)))
    · skip
      have hle := ni_le hx2
      refine c_exit ?_
      refine k_then_x ?_
      refine k_then_x ?_
      refine k_blk_x ?_
      refine k_then_n ?_
      refine c_seq ?_
      refine c_region ?_
      refine l_step (s_q rfl wn (q_move rfl) ?_)
      refine l_step (s_q rfl wn (q_move rfl) ?_)
      refine l_step (s_q rfl wn (q_leq rfl rfl) ?_)
      refine l_step (s_q rfl wn (q_move rfl) ?_)
      refine Tr.env (.cons (t := 171) (v := .bool true) rfl (congrArg Value.bool (decide_eq_true (by have := ni_le hx2; omega))) (EnvLe.refl _)) ?_
      refine l_step (s_q rfl (wy rfl rfl rfl) (q_move rfl) ?_)
      refine l_step (s_q rfl (wy rfl rfl rfl) (q_move rfl) ?_)
      refine l_step (s_q rfl (wy rfl rfl rfl) (by first | exact q_add rfl rfl (by omega) (by omega) | exact q_addw rfl rfl) ?_)
      refine l_step (s_q rfl (wy rfl rfl rfl) (q_leq rfl rfl) ?_)
      refine l_step (s_q rfl wn (q_pick rfl rfl rfl) ?_)
      refine l_step (s_q rfl wn (q_assign rfl) ?_)
      refine l_nil ?_
      refine k_then_n ?_
      refine c_ret ?_
      exact t_ret [] rfl (.tmp rfl .nil) rfl (Hp.le_refl _) ⟨rfl, congrArg Value.bool (decide_eq_true (by have := ni_le hx2; omega)), rfl⟩ (by (repeat refine Ent.skip ?_); exact Ent.refl _)
end Go.CliV

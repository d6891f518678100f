/-
  The laws over check sums, walked.
-/
import Derived.Test.YtppngeebdmbeaaaSumW
import Derived.Test.YtppngeebdmbeaaaSumQ
import Derived.Test.YtppngeebdmbeaaaSumR
import Derived.Test.YtppngeebdmbeaaaSlH
set_option maxRecDepth 100000
set_option linter.unusedSimpArgs false
set_option linter.unusedVariables false
namespace Go.SumV
open Go.Sum
open Go Go.SL Go.Proofs
attribute [local irreducible] Go.SL.Ent
theorem ag_37 : aggSize Try.prog 37 = some 4 := by kernel_rfl
theorem eo_22 : elemOk Try.prog 22 1 24 = true := by kernel_rfl
theorem eo_5 : elemOk Try.prog 5 1 1 = true := by kernel_rfl
theorem sc_22 : isScalar Try.prog 22 = true := by kernel_rfl
theorem sc_5 : isScalar Try.prog 5 = true := by kernel_rfl
theorem sz_22 : sizeIs Try.prog 22 = some 1 := by kernel_rfl
theorem sz_37 : sizeIs Try.prog 37 = some 4 := by kernel_rfl
theorem sz_5 : sizeIs Try.prog 5 = some 1 := by kernel_rfl
theorem zc_37 : zeroCs Try.prog 37 = some [.int .u8 0, .int .u8 0, .int .u8 0, .int .u8 0] := by kernel_rfl

theorem awake_spec (ρ : Hp) : Spec0 Try.prog 14 #[] ρ [] (fun v Γ' => v = .bool true ∧ Γ' = []) := by
  refine spec_of (n := 32) (vs := []) (σ := []) Try.func14 rfl rfl rfl rfl fun E Δ => ?_
  rw [List.nil_append]
  refine c_seq ?_
  refine c_region ?_
  refine l_step (s_q rfl wn (q_assign rfl) ?_)
  refine l_nil ?_
  refine k_then_n ?_
  refine c_seq ?_
  refine c_region ?_
  refine l_step (s_s rfl wn (s_buildSlice Try.underlying22 eo_5 rfl rfl rfl rfl (by decide) (by decide)) ?_)
  rintro _ _ ⟨b4, rfl, rfl⟩
  refine l_step (s_s rfl wn (s_mark Try.underlying22 Try.underlying5 rfl (by repeat (first | exact Pick.here | apply Pick.there))) ?_)
  rintro _ _ ⟨rfl, rfl⟩
  refine l_step (s_s rfl wn (s_buildSlice Try.underlying32 eo_22 rfl rfl rfl rfl (by decide) (by decide)) ?_)
  rintro _ _ ⟨b6, rfl, rfl⟩
  refine l_step (s_fn rfl wn Try.func15 rfl (by kernel_rfl) rfl (of_spec _ _ [⟨some ⟨b4, 0, none⟩, 4, [49, 50, 51, 52]⟩] ρ _ (by simp) (by intro t ht; simp at ht; subst ht; (try simp) <;> omega) (by exact rdbb_row (by repeat (first | exact Pick.here | apply Pick.there)) (rda (rdb_row (by repeat (first | exact Pick.here | apply Pick.there))) (rda_nil _ _)))) (sel_all _) ?_)
  rintro _ _ _ - ⟨rfl, rfl, rfl⟩
  refine Tr.ent (Ent.cast (List.append_nil _)) ?_
  refine l_step (s_s rfl wn (s_buildSlice Try.underlying22 eo_5 rfl rfl rfl rfl (by decide) (by decide)) ?_)
  rintro _ _ ⟨b8, rfl, rfl⟩
  refine l_step (s_s rfl wn (s_mark Try.underlying22 Try.underlying5 rfl (by repeat (first | exact Pick.here | apply Pick.there))) ?_)
  rintro _ _ ⟨rfl, rfl⟩
  refine l_step (s_s rfl wn (s_buildSlice Try.underlying32 eo_22 rfl rfl rfl rfl (by decide) (by decide)) ?_)
  rintro _ _ ⟨b10, rfl, rfl⟩
  refine l_step (s_fn rfl wn Try.func15 rfl (by kernel_rfl) rfl (of_spec _ _ [⟨some ⟨b8, 0, none⟩, 5, [53, 54, 55, 56, 57]⟩] ρ _ (by simp) (by intro t ht; simp at ht; subst ht; (try simp) <;> omega) (by exact rdbb_row (by repeat (first | exact Pick.here | apply Pick.there)) (rda (rdb_row (by repeat (first | exact Pick.here | apply Pick.there))) (rda_nil _ _)))) (sel_all _) ?_)
  rintro _ _ _ - ⟨rfl, rfl, rfl⟩
  refine Tr.ent (Ent.cast (List.append_nil _)) ?_
  refine l_step (s_fn rfl wn Try.func19 rfl (by kernel_rfl) rfl (join_spec _ _ 5 (by decide) ρ) (by repeat (first | exact Sel.nil | exact Pick.here | apply Sel.cons | apply Pick.there)) ?_)
  rintro _ _ _ - ⟨rfl, rfl, rfl⟩
  try simp only [List.cons_append, List.nil_append]
  refine l_step (s_q rfl wn (q_move rfl) ?_)
  refine l_step (s_q rfl wn (q_extract rfl rfl) ?_)
  refine l_step (s_q rfl wn (q_extract rfl rfl) ?_)
  refine l_step (s_q rfl wn (q_assign rfl) ?_)
  refine l_step (s_q rfl wn (q_assign rfl) ?_)
  refine l_nil ?_
  refine k_then_n ?_
  refine c_seq ?_
  refine c_region ?_
  refine l_step (s_s rfl wn (s_buildSlice Try.underlying22 eo_5 rfl rfl rfl rfl (by decide) (by decide)) ?_)
  rintro _ _ ⟨b15, rfl, rfl⟩
  refine l_step (s_s rfl wn (s_mark Try.underlying22 Try.underlying5 rfl (by repeat (first | exact Pick.here | apply Pick.there))) ?_)
  rintro _ _ ⟨rfl, rfl⟩
  refine l_step (s_s rfl wn (s_buildSlice Try.underlying32 eo_22 rfl rfl rfl rfl (by decide) (by decide)) ?_)
  rintro _ _ ⟨b17, rfl, rfl⟩
  refine l_step (s_fn rfl wn Try.func15 rfl (by kernel_rfl) rfl (of_spec _ _ [⟨some ⟨b15, 0, none⟩, 9, [49, 50, 51, 52, 53, 54, 55, 56, 57]⟩] ρ _ (by simp) (by intro t ht; simp at ht; subst ht; (try simp) <;> omega) (by exact rdbb_row (by repeat (first | exact Pick.here | apply Pick.there)) (rda (rdb_row (by repeat (first | exact Pick.here | apply Pick.there))) (rda_nil _ _)))) (sel_all _) ?_)
  rintro _ _ _ - ⟨rfl, rfl, rfl⟩
  refine Tr.ent (Ent.cast (List.append_nil _)) ?_
  refine l_step (s_q rfl wn (q_eql rfl rfl) ?_)
  refine l_step (s_q rfl wn (q_move rfl) ?_)
  refine Tr.env (.cons (t := 20) (v := .bool true) rfl (congrArg Value.bool (decide_eq_true sum_nine)) (EnvLe.refl _)) ?_
  refine l_step (s_fn rfl (wy rfl rfl rfl) Try.func15 rfl (by kernel_rfl) rfl (of_spec none 0 [] ρ [] (by simp) (by simp) ⟨fun _ => rd_ro (Ro.nil _ _), rda_nil _ _⟩) (by repeat (first | exact Sel.nil | exact Pick.here | apply Sel.cons | apply Pick.there)) ?_)
  rintro _ _ _ - ⟨rfl, rfl, rfl⟩
  try simp only [List.cons_append, List.nil_append]
  refine l_step (s_q rfl (wy rfl rfl rfl) (q_eql rfl rfl) ?_)
  refine l_step (s_q rfl wn (q_pick rfl rfl rfl) ?_)
  refine l_step (s_q rfl wn (q_move rfl) ?_)
  refine Tr.env (.cons (t := 24) (v := .bool true) rfl (congrArg Value.bool (decide_eq_true sum_none)) (EnvLe.refl _)) ?_
  refine l_step (s_q rfl (wy rfl rfl rfl) (q_move rfl) ?_)
  refine l_step (s_q rfl (wy rfl rfl rfl) (q_eql rfl rfl) ?_)
  refine l_step (s_q rfl wn (q_pick rfl rfl rfl) ?_)
  refine l_step (s_q rfl wn (q_move rfl) ?_)
  refine Tr.env (.cons (t := 28) (v := .bool true) rfl (congrArg Value.bool (decide_eq_true rfl)) (EnvLe.refl _)) ?_
  refine l_step (s_q rfl (wy rfl rfl rfl) (q_move rfl) ?_)
  refine l_step (s_q rfl (wy rfl rfl rfl) (q_eql rfl rfl) ?_)
  refine l_step (s_q rfl wn (q_pick rfl rfl rfl) ?_)
  refine l_step (s_q rfl wn (q_assign rfl) ?_)
  refine l_nil ?_
  refine k_then_n ?_
  refine c_ret ?_
  exact t_ret [] rfl (.tmp rfl .nil) rfl (Hp.le_refl _) ⟨rfl, congrArg Value.bool (decide_eq_true sum_join), rfl⟩ (by (repeat refine Ent.skip ?_); exact Ent.refl _)

theorem sums_spec (A B : SB) (c : UInt8) (ρ : Hp) (hA : Ro ρ 1 A.a A.bs.length A.cap (A.bs.flatMap encB)) (hB : Ro ρ 1 B.a B.bs.length B.cap (B.bs.flatMap encB)) : Spec0 Try.prog 4 #[.slice A.a A.bs.length A.cap, .slice B.a B.bs.length B.cap, .int .u8 (c.toNat : Int)] ρ [] (fun v Γ' => v = .bool true ∧ Γ' = []) := by
  refine spec_of (n := 78) (vs := [_, _, _]) (σ := [(0, _), (1, _), (2, _)]) Try.func4 rfl rfl rfl rfl fun E Δ => ?_
  rw [List.nil_append]
  refine c_seq ?_
  refine c_region ?_
  refine l_step (s_q rfl wn (q_assign rfl) ?_)
  refine l_nil ?_
  refine k_then_n ?_
  refine c_seq ?_
  refine c_seq ?_
  refine c_region ?_
  refine l_step (s_fn rfl wn Try.func14 rfl (by kernel_rfl) rfl (awake_spec ρ) (by repeat (first | exact Sel.nil | exact Pick.here | apply Sel.cons | apply Pick.there)) ?_)
  rintro _ _ _ - ⟨rfl, rfl, rfl⟩
  try simp only [List.cons_append, List.nil_append]
  refine l_step (s_q rfl wn (q_not rfl) ?_)
  refine l_step (s_q rfl wn (q_move rfl) ?_)
  refine Tr.env (.cons (t := 12) (v := .bool false) rfl (congrArg Value.bool rfl) (EnvLe.refl _)) ?_
  refine l_step (s_q rfl (wy rfl rfl rfl) (q_move rfl) ?_)
  refine l_step (s_q rfl (wy rfl rfl rfl) (q_len Try.underlying22 rfl) ?_)
  refine l_step (s_q rfl (wy rfl rfl rfl) (q_gtr rfl rfl) ?_)
  refine l_step (s_q rfl wn (q_pick rfl rfl rfl) ?_)
  refine l_step (s_q rfl wn (q_move rfl) ?_)
  first | refine t_splitd (d := 17) rfl (fun g1_7 => ?_) (fun g1_7 => ?_) | refine t_split (d := 17) rfl (fun g1_7 => ?_) (fun g1_7 => ?_)
  · skip
    refine l_step (s_no rfl (wno rfl rfl (by decide)) ?_)
    refine l_step (s_no rfl (wno rfl rfl (by decide)) ?_)
    refine l_step (s_no rfl (wno rfl rfl (by decide)) ?_)
    refine l_step (s_q rfl wn (q_pick rfl rfl rfl) ?_)
    refine l_nil ?_
    refine k_then_n ?_
    refine c_yes rfl ?_
    refine c_seq ?_
    refine c_region ?_
    refine l_step (s_fn rfl wn Try.func14 rfl (by kernel_rfl) rfl (awake_spec ρ) (by repeat (first | exact Sel.nil | exact Pick.here | apply Sel.cons | apply Pick.there)) ?_)
    rintro _ _ _ - ⟨rfl, rfl, rfl⟩
    try simp only [List.cons_append, List.nil_append]
    refine l_step (s_q rfl wn (q_assign rfl) ?_)
    refine l_nil ?_
    refine k_then_n ?_
    refine c_ret ?_
    refine k_then_r ?_
    exact t_ret [] rfl (.tmp rfl .nil) rfl (Hp.le_refl _) ⟨rfl, rfl, rfl⟩ (by (repeat refine Ent.skip ?_); exact Ent.refl _)
  · skip
    refine l_step (s_q rfl (wy rfl rfl rfl) (q_move rfl) ?_)
    refine l_step (s_q rfl (wy rfl rfl rfl) (q_len Try.underlying22 rfl) ?_)
    refine l_step (s_q rfl (wy rfl rfl rfl) (q_gtr rfl rfl) ?_)
    refine l_step (s_q rfl wn (q_pick rfl rfl rfl) ?_)
    refine l_nil ?_
    refine k_then_n ?_
    first | refine c_if rfl (fun h0 => ?_) (fun h0 => ?_) | refine c_cond rfl (fun h0 => ?_) (fun h0 => ?_)
    · skip
      refine c_seq ?_
      refine c_region ?_
      refine l_step (s_fn rfl wn Try.func14 rfl (by kernel_rfl) rfl (awake_spec ρ) (by repeat (first | exact Sel.nil | exact Pick.here | apply Sel.cons | apply Pick.there)) ?_)
      rintro _ _ _ - ⟨rfl, rfl, rfl⟩
      try simp only [List.cons_append, List.nil_append]
      refine l_step (s_q rfl wn (q_assign rfl) ?_)
      refine l_nil ?_
      refine k_then_n ?_
      refine c_ret ?_
      refine k_then_r ?_
      exact t_ret [] rfl (.tmp rfl .nil) rfl (Hp.le_refl _) ⟨rfl, rfl, rfl⟩ (by (repeat refine Ent.skip ?_); exact Ent.refl _)
    · skip
      refine c_skip ?_
      refine k_then_n ?_
      refine c_seq ?_
      refine c_region ?_
      refine l_step (s_s rfl wn (s_buildSlice Try.underlying22 eo_5 rfl rfl rfl rfl (by decide) (by decide)) ?_)
      rintro _ _ ⟨b23, rfl, rfl⟩
      refine l_step (s_q rfl wn (q_move rfl) ?_)
      refine l_step (s_s rfl wn (s_appende (enc := encB) (xs := []) (ys := A.bs) (Γ' := fun a' cap' => _) Try.underlying22 eo_5 (by decide) rfl rfl (rd_ro hA) (oneB _) (by first | omega | (simp <;> omega)) (by first | omega | (simp <;> omega)) (fun _ _ => (by repeat (first | exact Pick.here | apply Pick.there)))) ?_)
      rintro _ _ ⟨a25, c25, rfl, rfl⟩
      refine l_step (s_q rfl wn (q_move rfl) ?_)
      refine l_step (s_s rfl wn (s_appende (enc := encB) (xs := A.bs) (ys := B.bs) (Γ' := fun a' cap' => _) Try.underlying22 eo_5 (by decide) rfl rfl (rd_ro hB) (oneB _) (by first | omega | (simp <;> omega)) (by first | omega | (simp <;> omega)) (fun _ _ => (by repeat (first | exact Pick.here | apply Pick.there)))) ?_)
      rintro _ _ ⟨a27, c27, rfl, rfl⟩
      refine l_step (s_q rfl wn (q_move rfl) ?_)
      refine l_step (s_s rfl wn (s_buildSlice Try.underlying22 eo_5 rfl rfl rfl rfl (by decide) (by decide)) ?_)
      rintro _ _ ⟨b29, rfl, rfl⟩
      refine l_step (s_s rfl wn (s_appende (enc := encB) (xs := (A.bs ++ B.bs)) (ys := [c]) (Γ' := fun a' cap' => _) Try.underlying22 eo_5 (by decide) rfl rfl (rd_row (by repeat (first | exact Pick.here | apply Pick.there))) (oneB _) (by first | omega | (simp <;> omega)) (by first | omega | (simp <;> omega)) (fun _ _ => (by repeat (first | exact Pick.here | apply Pick.there)))) ?_)
      rintro _ _ ⟨a30, c30, rfl, rfl⟩
      refine l_step (s_q rfl wn (q_assign rfl) ?_)
      refine l_nil ?_
      refine k_then_n ?_
      refine c_seq ?_
      refine c_region ?_
      refine l_step (s_q rfl wn (q_move rfl) ?_)
      refine l_step (s_fn rfl wn Try.func16 rfl (by kernel_rfl) rfl (refOf_spec ⟨a30, c30, A.bs ++ B.bs ++ [c]⟩ ρ _ (by simp <;> omega) (by exact rdb_row (by repeat (first | exact Pick.here | apply Pick.there)))) (sel_all _) ?_)
      rintro _ _ _ - ⟨rfl, rfl, rfl⟩
      refine Tr.ent (Ent.cast (List.append_nil _)) ?_
      refine l_step (s_q rfl wn (q_assign rfl) ?_)
      refine l_nil ?_
      refine k_then_n ?_
      refine c_seq ?_
      refine c_region ?_
      refine l_step (s_q rfl wn (q_move rfl) ?_)
      refine l_step (s_q rfl wn (q_move rfl) ?_)
      refine l_step (s_q rfl wn (q_move rfl) ?_)
      refine l_step (s_s rfl wn (s_buildSlice Try.underlying22 eo_5 rfl rfl rfl rfl (by decide) (by decide)) ?_)
      rintro _ _ ⟨b36, rfl, rfl⟩
      refine l_step (s_s rfl wn (s_buildSlice Try.underlying32 eo_22 rfl rfl rfl rfl (by decide) (by decide)) ?_)
      rintro _ _ ⟨b37, rfl, rfl⟩
      refine l_step (s_fn rfl wn Try.func15 rfl (by kernel_rfl) rfl (of_spec _ _ [A, B, ⟨some ⟨b36, 0, none⟩, 1, [c]⟩] ρ _ (by simp) (by intro t ht; simp at ht; rcases ht with rfl | rfl | rfl <;> (try simp) <;> omega) (by exact rdbb_row (by repeat (first | exact Pick.here | apply Pick.there)) (rda (rdb_ro hA) (rda (rdb_ro hB) (rda (rdb_row (by repeat (first | exact Pick.here | apply Pick.there))) (rda_nil _ _)))))) (sel_all _) ?_)
      rintro _ _ _ - ⟨rfl, rfl, rfl⟩
      refine Tr.ent (Ent.cast (List.append_nil _)) ?_
      refine l_step (s_q rfl wn (q_assign rfl) ?_)
      refine l_nil ?_
      refine k_then_n ?_
      refine c_seq ?_
      refine c_region ?_
      refine l_step (s_q rfl wn (q_move rfl) ?_)
      refine l_step (s_q rfl wn (q_move rfl) ?_)
      refine l_step (s_q rfl wn (q_eql rfl rfl) ?_)
      refine l_step (s_q rfl wn (q_move rfl) ?_)
      refine Tr.env (.cons (t := 42) (v := .bool true) rfl (congrArg Value.bool (decide_eq_true (by simp))) (EnvLe.refl _)) ?_
      refine l_step (s_q rfl (wy rfl rfl rfl) (q_move rfl) ?_)
      refine l_step (s_s rfl (wy rfl rfl rfl) (s_buildSlice Try.underlying32 eo_22 rfl rfl rfl rfl (by decide) (by decide)) ?_)
      rintro _ _ ⟨b44, rfl, rfl⟩
      refine l_step (s_fn rfl (wy rfl rfl rfl) Try.func15 rfl (by kernel_rfl) rfl (of_spec _ _ [A] ρ _ (by simp) (by intro t ht; simp at ht; subst ht; (try simp) <;> omega) (by exact rdbb_row (by repeat (first | exact Pick.here | apply Pick.there)) (rda (rdb_ro hA) (rda_nil _ _)))) (sel_all _) ?_)
      rintro _ _ _ - ⟨rfl, rfl, rfl⟩
      refine Tr.ent (Ent.cast (List.append_nil _)) ?_
      refine l_step (s_q rfl (wy rfl rfl rfl) (q_move rfl) ?_)
      refine l_step (s_q rfl (wy rfl rfl rfl) (q_move rfl) ?_)
      refine l_step (s_s rfl (wy rfl rfl rfl) (s_buildSlice Try.underlying22 eo_5 rfl rfl rfl rfl (by decide) (by decide)) ?_)
      rintro _ _ ⟨b48, rfl, rfl⟩
      refine l_step (s_s rfl (wy rfl rfl rfl) (s_buildSlice Try.underlying32 eo_22 rfl rfl rfl rfl (by decide) (by decide)) ?_)
      rintro _ _ ⟨b49, rfl, rfl⟩
      refine l_step (s_fn rfl (wy rfl rfl rfl) Try.func17 rfl (by kernel_rfl) rfl (more_spec _ _ _ [B, ⟨some ⟨b48, 0, none⟩, 1, [c]⟩] ρ _ (by simp) (by intro t ht; simp at ht; rcases ht with rfl | rfl <;> (try simp) <;> omega) (by exact rdbb_row (by repeat (first | exact Pick.here | apply Pick.there)) (rda (rdb_ro hB) (rda (rdb_row (by repeat (first | exact Pick.here | apply Pick.there))) (rda_nil _ _))))) (sel_all _) ?_)
      rintro _ _ _ - ⟨rfl, rfl, rfl⟩
      refine Tr.ent (Ent.cast (List.append_nil _)) ?_
      refine l_step (s_q rfl (wy rfl rfl rfl) (q_move rfl) ?_)
      refine l_step (s_q rfl (wy rfl rfl rfl) (q_eql rfl rfl) ?_)
      refine l_step (s_q rfl wn (q_pick rfl rfl rfl) ?_)
      refine l_step (s_q rfl wn (q_move rfl) ?_)
      refine Tr.env (.cons (t := 54) (v := .bool true) rfl (congrArg Value.bool (decide_eq_true (by simp [sumB_append]))) (EnvLe.refl _)) ?_
      refine l_step (s_q rfl (wy rfl rfl rfl) (q_move rfl) ?_)
      refine l_step (s_s rfl (wy rfl rfl rfl) (s_buildSlice Try.underlying32 eo_22 rfl rfl rfl rfl (by decide) (by decide)) ?_)
      rintro _ _ ⟨b56, rfl, rfl⟩
      refine l_step (s_fn rfl (wy rfl rfl rfl) Try.func15 rfl (by kernel_rfl) rfl (of_spec _ _ [⟨a30, c30, A.bs ++ B.bs ++ [c]⟩] ρ _ (by simp) (by intro t ht; simp at ht; subst ht; (try simp) <;> omega) (by exact rdbb_row (by repeat (first | exact Pick.here | apply Pick.there)) (rda (rdb_row (by repeat (first | exact Pick.here | apply Pick.there))) (rda_nil _ _)))) (sel_all _) ?_)
      rintro _ _ _ - ⟨rfl, rfl, rfl⟩
      refine Tr.ent (Ent.cast (List.append_nil _)) ?_
      refine l_step (s_q rfl (wy rfl rfl rfl) (q_move rfl) ?_)
      refine l_step (s_q rfl (wy rfl rfl rfl) (q_eql rfl rfl) ?_)
      refine l_step (s_q rfl wn (q_pick rfl rfl rfl) ?_)
      refine l_step (s_q rfl wn (q_move rfl) ?_)
      refine Tr.env (.cons (t := 61) (v := .bool true) rfl (congrArg Value.bool (decide_eq_true (by simp))) (EnvLe.refl _)) ?_
      refine l_step (s_q rfl (wy rfl rfl rfl) (q_move rfl) ?_)
      refine l_step (s_q rfl (wy rfl rfl rfl) (q_move rfl) ?_)
      refine l_step (s_q rfl (wy rfl rfl rfl) (q_move rfl) ?_)
      refine l_step (s_q rfl (wy rfl rfl rfl) (q_move rfl) ?_)
      refine l_step (s_s rfl (wy rfl rfl rfl) (s_buildSlice Try.underlying22 eo_5 rfl rfl rfl rfl (by decide) (by decide)) ?_)
      rintro _ _ ⟨b66, rfl, rfl⟩
      refine l_step (s_s rfl (wy rfl rfl rfl) (s_buildSlice Try.underlying32 eo_22 rfl rfl rfl rfl (by decide) (by decide)) ?_)
      rintro _ _ ⟨b67, rfl, rfl⟩
      refine l_step (s_fn rfl (wy rfl rfl rfl) Try.func18 rfl (by kernel_rfl) rfl (fits_spec _ _ _ [A, B, ⟨some ⟨b66, 0, none⟩, 1, [c]⟩] ρ _ (by simp) (by intro t ht; simp at ht; rcases ht with rfl | rfl | rfl <;> (try simp) <;> omega) (by exact rdbb_row (by repeat (first | exact Pick.here | apply Pick.there)) (rda (rdb_ro hA) (rda (rdb_ro hB) (rda (rdb_row (by repeat (first | exact Pick.here | apply Pick.there))) (rda_nil _ _)))))) (sel_all _) ?_)
      rintro _ _ _ - ⟨rfl, rfl, rfl⟩
      refine Tr.ent (Ent.cast (List.append_nil _)) ?_
      refine l_step (s_q rfl wn (q_pick rfl rfl rfl) ?_)
      refine l_step (s_q rfl wn (q_move rfl) ?_)
      refine Tr.env (.cons (t := 70) (v := .bool true) rfl (congrArg Value.bool (decide_eq_true (by simp))) (EnvLe.refl _)) ?_
      refine l_step (s_q rfl (wy rfl rfl rfl) (q_move rfl) ?_)
      refine l_step (s_q rfl (wy rfl rfl rfl) (q32_xor (q := 1#32) rfl rfl rfl rfl) ?_)
      refine l_step (s_q rfl (wy rfl rfl rfl) (q_move rfl) ?_)
      refine l_step (s_s rfl (wy rfl rfl rfl) (s_buildSlice Try.underlying32 eo_22 rfl rfl rfl rfl (by decide) (by decide)) ?_)
      rintro _ _ ⟨b74, rfl, rfl⟩
      refine l_step (s_fn rfl (wy rfl rfl rfl) Try.func18 rfl (by kernel_rfl) rfl (fits_spec _ _ _ [⟨a30, c30, A.bs ++ B.bs ++ [c]⟩] ρ _ (by simp) (by intro t ht; simp at ht; subst ht; (try simp) <;> omega) (by exact rdbb_row (by repeat (first | exact Pick.here | apply Pick.there)) (rda (rdb_row (by repeat (first | exact Pick.here | apply Pick.there))) (rda_nil _ _)))) (sel_all _) ?_)
      rintro _ _ _ - ⟨rfl, rfl, rfl⟩
      refine Tr.ent (Ent.cast (List.append_nil _)) ?_
      refine l_step (s_q rfl (wy rfl rfl rfl) (q_not rfl) ?_)
      refine l_step (s_q rfl wn (q_pick rfl rfl rfl) ?_)
      refine l_step (s_q rfl wn (q_assign rfl) ?_)
      refine l_nil ?_
      refine k_then_n ?_
      refine c_ret ?_
      exact t_ret [] rfl (.tmp rfl .nil) rfl (Hp.le_refl _) ⟨rfl, congrArg Value.bool (by rw [Bool.not_eq_true', decide_eq_false_iff_not]; exact fun h => xor_one_ne (sumB (A.bs ++ B.bs ++ [c])) (by simpa using h)), rfl⟩ (by (repeat refine Ent.skip ?_); exact Ent.refl _)

structure PS where
  k : Nat
  a : Option Addr
  cap : Nat

theorem pieces_spec (a0 : Option Addr) (cap0 : Nat) (L : List SB) (ρ : Hp) (ro : Ro ρ 1 a0 L.length cap0 (L.flatMap encS)) (hro : ∀ s ∈ L, Ro ρ 1 s.a s.bs.length s.cap (s.bs.flatMap encB)) : Spec0 Try.prog 5 #[.slice a0 L.length cap0] ρ [] (fun v Γ' => v = .bool true ∧ Γ' = []) := by
  refine spec_of (n := 83) (vs := [_]) (σ := [(0, _)]) Try.func5 rfl rfl rfl rfl fun E Δ => ?_
  rw [List.nil_append]
  refine c_seq ?_
  refine c_region ?_
  refine l_step (s_q rfl wn (q_assign rfl) ?_)
  refine l_nil ?_
  refine k_then_n ?_
  refine c_seq ?_
  refine c_seq ?_
  refine c_region ?_
  refine l_step (s_fn rfl wn Try.func14 rfl (by kernel_rfl) rfl (awake_spec ρ) (by repeat (first | exact Sel.nil | exact Pick.here | apply Sel.cons | apply Pick.there)) ?_)
  rintro _ _ _ - ⟨rfl, rfl, rfl⟩
  try simp only [List.cons_append, List.nil_append]
  refine l_step (s_q rfl wn (q_not rfl) ?_)
  refine l_step (s_q rfl wn (q_move rfl) ?_)
  refine Tr.env (.cons (t := 12) (v := .bool false) rfl (congrArg Value.bool rfl) (EnvLe.refl _)) ?_
  refine l_step (s_q rfl (wy rfl rfl rfl) (q_move rfl) ?_)
  refine l_step (s_q rfl (wy rfl rfl rfl) (q_len Try.underlying32 rfl) ?_)
  refine l_step (s_q rfl (wy rfl rfl rfl) (q_gtr rfl rfl) ?_)
  refine l_step (s_q rfl wn (q_pick rfl rfl rfl) ?_)
  refine l_nil ?_
  refine k_then_n ?_
  first | refine c_if rfl (fun h0 => ?_) (fun h0 => ?_) | refine c_cond rfl (fun h0 => ?_) (fun h0 => ?_)
  · skip
    refine c_seq ?_
    refine c_region ?_
    refine l_step (s_fn rfl wn Try.func14 rfl (by kernel_rfl) rfl (awake_spec ρ) (by repeat (first | exact Sel.nil | exact Pick.here | apply Sel.cons | apply Pick.there)) ?_)
    rintro _ _ _ - ⟨rfl, rfl, rfl⟩
    try simp only [List.cons_append, List.nil_append]
    refine l_step (s_q rfl wn (q_assign rfl) ?_)
    refine l_nil ?_
    refine k_then_n ?_
    refine c_ret ?_
    refine k_then_r ?_
    exact t_ret [] rfl (.tmp rfl .nil) rfl (Hp.le_refl _) ⟨rfl, rfl, rfl⟩ (by (repeat refine Ent.skip ?_); exact Ent.refl _)
  · skip
    refine c_skip ?_
    refine k_then_n ?_
    refine c_seq ?_
    refine c_region ?_
    refine l_step (s_q rfl wn (q_assign rfl) ?_)
    refine l_nil ?_
    refine k_then_n ?_
    refine c_seq ?_
    refine c_region ?_
    refine l_step (s_q rfl wn (q_assign rfl) ?_)
    refine l_step (s_q rfl wn (q_assign rfl) ?_)
    refine l_nil ?_
    refine k_then_n ?_
    refine c_seq ?_
    refine c_seq ?_
    refine c_region ?_
    refine l_step (s_q rfl wn (q_assign rfl) ?_)
    refine l_nil ?_
    refine k_then_n ?_
    refine c_block ?_
    refine t_loop (ι := PS) (fun x => x.k ≤ L.length ∧ ∀ t ∈ L.take x.k, t.bs.length ≤ 500) (fun x => L.length - x.k) (fun x => [(0, .slice a0 L.length cap0), (3, .slice x.a ((L.take x.k).flatMap SB.bs).length x.cap), (4, .int .u32 ((sumB ((L.take x.k).flatMap SB.bs)).toNat : Int)), (5, .int .u32 ((sumB ((L.take x.k).flatMap SB.bs)).toNat : Int)), (6, .int .i64 (x.k : Int))]) (fun x => .row 5 1 x.a ((L.take x.k).flatMap SB.bs).length x.cap (((L.take x.k).flatMap SB.bs).flatMap encB) :: Δ) ⟨0, none, 0⟩ ⟨Nat.zero_le _, by simp⟩ ?_ ?_ ?_
    · exact .cons rfl (by first | rfl | (simp; done) | simp [*]) (.cons rfl (by first | rfl | (simp; done) | simp [*]) (.cons rfl sum_zero (.cons rfl sum_zero (.cons rfl (by first | rfl | (simp; done) | simp [*]) (.nil _)))))
    · exact Ent.nilrow _ _ _
    intro x hx
    obtain ⟨hx1, hx2⟩ := hx
    have hfl := flat_le hx2
    rw [List.length_take] at hfl
    refine c_seq ?_
    refine c_seq ?_
    refine c_region ?_
    refine l_step (s_q rfl wn (q_move rfl) ?_)
    refine l_step (s_q rfl wn (q_move rfl) ?_)
    refine l_step (s_q rfl wn (q_len Try.underlying32 rfl) ?_)
    refine l_step (s_q rfl wn (q_lss rfl rfl) ?_)
    refine l_nil ?_
    refine k_then_n ?_
    first | refine c_if rfl (fun h1 => ?_) (fun h1 => ?_) | refine c_cond rfl (fun h1 => ?_) (fun h1 => ?_)
    · skip
      have hk2 : x.k < L.length := by omega
      have rok := hro _ (getD_mem L x.k hk2)
      refine c_skip ?_
      refine k_then_n ?_
      refine c_seq ?_
      refine c_block ?_
      refine c_seq ?_
      refine c_seq ?_
      refine c_region ?_
      refine l_step (s_q rfl wn (q_move rfl) ?_)
      refine l_step (s_q rfl wn (q_move rfl) ?_)
      refine l_step (s_q rfl wn (q_indexe _ Try.underlying32 sz_22 rfl rfl (by first | assumption | exact rd_ro (by assumption) | exact rd_row (by repeat (first | exact Pick.here | apply Pick.there))) (by decide) rfl (by first | assumption | omega)) ?_)
      refine l_step (s_q rfl wn (by first | exact q_loadp sc_22 rfl (by repeat (first | exact Pick.here | apply Pick.there)) rfl | exact q_loade sc_22 rfl (by first | assumption | exact rd_ro (by assumption) | exact rd_row (by repeat (first | exact Pick.here | apply Pick.there))) (fun _ => rfl) (by first | assumption | omega) (by decide) rfl) ?_)
      refine l_step (s_q rfl wn (q_len Try.underlying22 rfl) ?_)
      refine l_step (s_q rfl wn (q_gtr rfl rfl) ?_)
      refine l_nil ?_
      refine k_then_n ?_
      first | refine c_if rfl (fun h2 => ?_) (fun h2 => ?_) | refine c_cond rfl (fun h2 => ?_) (fun h2 => ?_)
      · skip
        refine c_seq ?_
        refine c_region ?_
        refine l_step (s_q rfl wn (q_assign rfl) ?_)
        refine l_nil ?_
        refine k_then_n ?_
        refine c_ret ?_
        refine k_then_r ?_
        refine k_blk_r ?_
        refine k_then_r ?_
        refine k_then_r ?_
        refine k_blk_r ?_
        refine k_then_r ?_
        exact t_ret [] rfl (.tmp rfl .nil) rfl (Hp.le_refl _) ⟨rfl, rfl, rfl⟩ (by (repeat refine Ent.skip ?_); exact Ent.refl _)
      · skip
        refine c_skip ?_
        refine k_then_n ?_
        refine c_seq ?_
        refine c_region ?_
        refine l_step (s_q rfl wn (q_move rfl) ?_)
        refine l_step (s_q rfl wn (q_move rfl) ?_)
        refine l_step (s_q rfl wn (q_move rfl) ?_)
        refine l_step (s_q rfl wn (q_indexe _ Try.underlying32 sz_22 rfl rfl (by first | assumption | exact rd_ro (by assumption) | exact rd_row (by repeat (first | exact Pick.here | apply Pick.there))) (by decide) rfl (by first | assumption | omega)) ?_)
        refine l_step (s_q rfl wn (by first | exact q_loadp sc_22 rfl (by repeat (first | exact Pick.here | apply Pick.there)) rfl | exact q_loade sc_22 rfl (by first | assumption | exact rd_ro (by assumption) | exact rd_row (by repeat (first | exact Pick.here | apply Pick.there))) (fun _ => rfl) (by first | assumption | omega) (by decide) rfl) ?_)
        refine l_step (s_s rfl wn (s_appende (enc := encB) (xs := ((L.take x.k).flatMap SB.bs)) (ys := (L.getD x.k default).bs) (Γ' := fun a' cap' => _) Try.underlying22 eo_5 (by decide) rfl rfl (rd_ro rok) (oneB _) (by first | omega | (simp <;> omega)) (by first | omega | (simp <;> omega)) (fun _ _ => (by repeat (first | exact Pick.here | apply Pick.there)))) ?_)
        rintro _ _ ⟨a35, c35, rfl, rfl⟩
        refine l_step (s_q rfl wn (q_assign rfl) ?_)
        refine l_nil ?_
        refine k_then_n ?_
        refine c_seq ?_
        refine c_draw (m := 18) (bs := #[false, false, false, false, false, false, false, false, false, false, false, false, false, false, false, false, false, false]) [] (by kernel_rfl) rfl (by kernel_rfl) ?_
        refine r_take (i := 0) (bs' := #[true, false, false, false, false, false, false, false, false, false, false, false, false, false, false, false, false, false]) rfl (by kernel_rfl) (by kernel_rfl) (by kernel_rfl) (fun _ _ _ h => h) rfl wn (q_move rfl) (Hp.le_refl _) (by repeat (first | exact Ent.nil _ | exact Ent.refl _ | (refine Ent.pick (by repeat (first | exact Pick.here | apply Pick.there)) ?_) | refine Ent.skip ?_)) (by kernel_rfl) ?_
        refine r_take (i := 1) (bs' := #[true, true, false, false, false, false, false, false, false, false, false, false, false, false, false, false, false, false]) rfl (by kernel_rfl) (by kernel_rfl) (by kernel_rfl) (fun _ _ _ h => h) rfl wn (q_move rfl) (Hp.le_refl _) (by repeat (first | exact Ent.nil _ | exact Ent.refl _ | (refine Ent.pick (by repeat (first | exact Pick.here | apply Pick.there)) ?_) | refine Ent.skip ?_)) (by kernel_rfl) ?_
        refine r_take (i := 2) (bs' := #[true, true, true, false, false, false, false, false, false, false, false, false, false, false, false, false, false, false]) rfl (by kernel_rfl) (by kernel_rfl) (by kernel_rfl) (fun _ _ _ h => h) rfl wn (q_move rfl) (Hp.le_refl _) (by repeat (first | exact Ent.nil _ | exact Ent.refl _ | (refine Ent.pick (by repeat (first | exact Pick.here | apply Pick.there)) ?_) | refine Ent.skip ?_)) (by kernel_rfl) ?_
        refine r_take (i := 3) (bs' := #[true, true, true, true, false, false, false, false, false, false, false, false, false, false, false, false, false, false]) rfl (by kernel_rfl) (by kernel_rfl) (by kernel_rfl) (fun _ _ _ h => h) rfl wn (q_indexe _ Try.underlying32 sz_22 rfl rfl (by first | assumption | exact rd_ro (by assumption) | exact rd_row (by repeat (first | exact Pick.here | apply Pick.there))) (by decide) rfl (by first | assumption | omega)) (Hp.le_refl _) (by repeat (first | exact Ent.nil _ | exact Ent.refl _ | (refine Ent.pick (by repeat (first | exact Pick.here | apply Pick.there)) ?_) | refine Ent.skip ?_)) (by kernel_rfl) ?_
        refine r_take (i := 4) (bs' := #[true, true, true, true, true, false, false, false, false, false, false, false, false, false, false, false, false, false]) rfl (by kernel_rfl) (by kernel_rfl) (by kernel_rfl) (fun _ _ _ h => h) rfl wn (by first | exact q_loadp sc_22 rfl (by repeat (first | exact Pick.here | apply Pick.there)) rfl | exact q_loade sc_22 rfl (by first | assumption | exact rd_ro (by assumption) | exact rd_row (by repeat (first | exact Pick.here | apply Pick.there))) (fun _ => rfl) (by first | assumption | omega) (by decide) rfl) (Hp.le_refl _) (by repeat (first | exact Ent.nil _ | exact Ent.refl _ | (refine Ent.pick (by repeat (first | exact Pick.here | apply Pick.there)) ?_) | refine Ent.skip ?_)) (by kernel_rfl) ?_
        refine r_take (i := 7) (bs' := #[true, true, true, true, true, false, false, true, false, false, false, false, false, false, false, false, false, false]) rfl (by kernel_rfl) (by kernel_rfl) (by kernel_rfl) (fun _ _ _ h => h) rfl wn (q_move rfl) (Hp.le_refl _) (by repeat (first | exact Ent.nil _ | exact Ent.refl _ | (refine Ent.pick (by repeat (first | exact Pick.here | apply Pick.there)) ?_) | refine Ent.skip ?_)) (by kernel_rfl) ?_
        refine r_take (i := 8) (bs' := #[true, true, true, true, true, false, false, true, true, false, false, false, false, false, false, false, false, false]) rfl (by kernel_rfl) (by kernel_rfl) (by kernel_rfl) (fun _ _ _ h => h) rfl wn (q_move rfl) (Hp.le_refl _) (by repeat (first | exact Ent.nil _ | exact Ent.refl _ | (refine Ent.pick (by repeat (first | exact Pick.here | apply Pick.there)) ?_) | refine Ent.skip ?_)) (by kernel_rfl) ?_
        refine r_take (i := 9) (bs' := #[true, true, true, true, true, false, false, true, true, true, false, false, false, false, false, false, false, false]) rfl (by kernel_rfl) (by kernel_rfl) (by kernel_rfl) (fun _ _ _ h => h) rfl wn (q_indexe _ Try.underlying32 sz_22 rfl rfl (by first | assumption | exact rd_ro (by assumption) | exact rd_row (by repeat (first | exact Pick.here | apply Pick.there))) (by decide) rfl (by first | assumption | omega)) (Hp.le_refl _) (by repeat (first | exact Ent.nil _ | exact Ent.refl _ | (refine Ent.pick (by repeat (first | exact Pick.here | apply Pick.there)) ?_) | refine Ent.skip ?_)) (by kernel_rfl) ?_
        refine r_take (i := 10) (bs' := #[true, true, true, true, true, false, false, true, true, true, true, false, false, false, false, false, false, false]) rfl (by kernel_rfl) (by kernel_rfl) (by kernel_rfl) (fun _ _ _ h => h) rfl wn (by first | exact q_loadp sc_22 rfl (by repeat (first | exact Pick.here | apply Pick.there)) rfl | exact q_loade sc_22 rfl (by first | assumption | exact rd_ro (by assumption) | exact rd_row (by repeat (first | exact Pick.here | apply Pick.there))) (fun _ => rfl) (by first | assumption | omega) (by decide) rfl) (Hp.le_refl _) (by repeat (first | exact Ent.nil _ | exact Ent.refl _ | (refine Ent.pick (by repeat (first | exact Pick.here | apply Pick.there)) ?_) | refine Ent.skip ?_)) (by kernel_rfl) ?_
        refine r_take (i := 11) (bs' := #[true, true, true, true, true, false, false, true, true, true, true, true, false, false, false, false, false, false]) rfl (by kernel_rfl) (by kernel_rfl) (by kernel_rfl) (fun _ _ _ h => h) rfl wn (q_len Try.underlying22 rfl) (Hp.le_refl _) (by repeat (first | exact Ent.nil _ | exact Ent.refl _ | (refine Ent.pick (by repeat (first | exact Pick.here | apply Pick.there)) ?_) | refine Ent.skip ?_)) (by kernel_rfl) ?_
        refine r_one (i := 5) (bs' := #[true, true, true, true, true, true, false, true, true, true, true, true, false, false, false, false, false, false]) (by kernel_rfl) (by kernel_rfl) ?_
        refine o_step rfl (s_s rfl wn (s_buildSlice Try.underlying32 eo_22 rfl rfl rfl rfl (by decide) (by decide)) ?_)
        rintro _ _ ⟨b42, rfl, rfl⟩
        refine r_cont (Hp.le_refl _) (by repeat (first | exact Ent.nil _ | exact Ent.refl _ | (refine Ent.pick (by repeat (first | exact Pick.here | apply Pick.there)) ?_) | refine Ent.skip ?_)) ?_
        refine r_one (i := 6) (bs' := #[true, true, true, true, true, true, true, true, true, true, true, true, false, false, false, false, false, false]) (by kernel_rfl) (by kernel_rfl) ?_
        refine o_step rfl (s_fn rfl wn Try.func15 rfl (by kernel_rfl) rfl (of_spec _ _ [(L.getD x.k default)] ρ _ (by simp) (fun t ht => by rw [List.mem_singleton.1 ht]; omega) (by exact rdbb_row (by repeat (first | exact Pick.here | apply Pick.there)) (rda (rdb_ro rok) (rda_nil _ _)))) (sel_all _) ?_)
        rintro _ _ _ - ⟨rfl, rfl, rfl⟩
        refine Tr.ent (Ent.cast (List.append_nil _)) ?_
        refine r_cont (Hp.le_refl _) (by repeat (first | exact Ent.nil _ | exact Ent.refl _ | (refine Ent.pick (by repeat (first | exact Pick.here | apply Pick.there)) ?_) | refine Ent.skip ?_)) ?_
        refine r_one (i := 12) (bs' := #[true, true, true, true, true, true, true, true, true, true, true, true, true, false, false, false, false, false]) (by kernel_rfl) (by kernel_rfl) ?_
        refine o_step rfl (s_fn rfl wn Try.func19 rfl (by kernel_rfl) rfl (join_spec _ _ (L.getD x.k default).bs.length (by omega) ρ) (by repeat (first | exact Sel.nil | exact Pick.here | apply Sel.cons | apply Pick.there)) ?_)
        rintro _ _ _ - ⟨rfl, rfl, rfl⟩
        try simp only [List.cons_append, List.nil_append]
        refine r_cont (Hp.le_refl _) (by repeat (first | exact Ent.nil _ | exact Ent.refl _ | (refine Ent.pick (by repeat (first | exact Pick.here | apply Pick.there)) ?_) | refine Ent.skip ?_)) ?_
        refine r_take (i := 13) (bs' := #[true, true, true, true, true, true, true, true, true, true, true, true, true, true, false, false, false, false]) rfl (by kernel_rfl) (by kernel_rfl) (by kernel_rfl) (fun _ _ _ h => h) rfl wn (q_move rfl) (Hp.le_refl _) (by repeat (first | exact Ent.nil _ | exact Ent.refl _ | (refine Ent.pick (by repeat (first | exact Pick.here | apply Pick.there)) ?_) | refine Ent.skip ?_)) (by kernel_rfl) ?_
        refine r_take (i := 14) (bs' := #[true, true, true, true, true, true, true, true, true, true, true, true, true, true, true, false, false, false]) rfl (by kernel_rfl) (by kernel_rfl) (by kernel_rfl) (fun _ _ _ h => h) rfl wn (q_extract rfl rfl) (Hp.le_refl _) (by repeat (first | exact Ent.nil _ | exact Ent.refl _ | (refine Ent.pick (by repeat (first | exact Pick.here | apply Pick.there)) ?_) | refine Ent.skip ?_)) (by kernel_rfl) ?_
        refine r_take (i := 15) (bs' := #[true, true, true, true, true, true, true, true, true, true, true, true, true, true, true, true, false, false]) rfl (by kernel_rfl) (by kernel_rfl) (by kernel_rfl) (fun _ _ _ h => h) rfl wn (q_extract rfl rfl) (Hp.le_refl _) (by repeat (first | exact Ent.nil _ | exact Ent.refl _ | (refine Ent.pick (by repeat (first | exact Pick.here | apply Pick.there)) ?_) | refine Ent.skip ?_)) (by kernel_rfl) ?_
        refine r_take (i := 16) (bs' := #[true, true, true, true, true, true, true, true, true, true, true, true, true, true, true, true, true, false]) rfl (by kernel_rfl) (by kernel_rfl) (by kernel_rfl) (fun _ _ _ h => h) rfl wn (q_assign rfl) (Hp.le_refl _) (by repeat (first | exact Ent.nil _ | exact Ent.refl _ | (refine Ent.pick (by repeat (first | exact Pick.here | apply Pick.there)) ?_) | refine Ent.skip ?_)) (by kernel_rfl) ?_
        refine r_take (i := 17) (bs' := #[true, true, true, true, true, true, true, true, true, true, true, true, true, true, true, true, true, true]) rfl (by kernel_rfl) (by kernel_rfl) (by kernel_rfl) (fun _ _ _ h => h) rfl wn (q_assign rfl) (Hp.le_refl _) (by repeat (first | exact Ent.nil _ | exact Ent.refl _ | (refine Ent.pick (by repeat (first | exact Pick.here | apply Pick.there)) ?_) | refine Ent.skip ?_)) (by kernel_rfl) ?_
        refine r_done (by kernel_rfl) ?_
        refine k_then_n ?_
        refine c_seq ?_
        refine c_seq ?_
        refine c_region ?_
        refine l_step (s_q rfl wn (q_move rfl) ?_)
        refine l_step (s_q rfl wn (q_neq rfl rfl) ?_)
        refine l_nil ?_
        refine k_then_n ?_
        refine c_sure false rfl (by simp) ?_
        simp only [Bool.false_eq_true, if_true, if_false]
        refine c_skip ?_
        refine k_then_n ?_
        refine c_region ?_
        refine l_step (s_q rfl wn (q_move rfl) ?_)
        refine l_step (s_q rfl wn (q_move rfl) ?_)
        refine l_step (s_q rfl wn (q_move rfl) ?_)
        refine l_step (s_q rfl wn (q_move rfl) ?_)
        refine l_step (s_q rfl wn (q_indexe _ Try.underlying32 sz_22 rfl rfl (by first | assumption | exact rd_ro (by assumption) | exact rd_row (by repeat (first | exact Pick.here | apply Pick.there))) (by decide) rfl (by first | assumption | omega)) ?_)
        refine l_step (s_q rfl wn (by first | exact q_loadp sc_22 rfl (by repeat (first | exact Pick.here | apply Pick.there)) rfl | exact q_loade sc_22 rfl (by first | assumption | exact rd_ro (by assumption) | exact rd_row (by repeat (first | exact Pick.here | apply Pick.there))) (fun _ => rfl) (by first | assumption | omega) (by decide) rfl) ?_)
        refine l_step (s_s rfl wn (s_buildSlice Try.underlying32 eo_22 rfl rfl rfl rfl (by decide) (by decide)) ?_)
        rintro _ _ ⟨b60, rfl, rfl⟩
        refine l_step (s_fn rfl wn Try.func17 rfl (by kernel_rfl) rfl (more_spec _ _ _ [(L.getD x.k default)] ρ _ (by simp) (fun t ht => by rw [List.mem_singleton.1 ht]; omega) (by exact rdbb_row (by repeat (first | exact Pick.here | apply Pick.there)) (rda (rdb_ro rok) (rda_nil _ _)))) (sel_all _) ?_)
        rintro _ _ _ - ⟨rfl, rfl, rfl⟩
        refine Tr.ent (Ent.cast (List.append_nil _)) ?_
        refine l_step (s_q rfl wn (q_assign rfl) ?_)
        refine l_step (s_q rfl wn (q_assign rfl) ?_)
        refine l_nil ?_
        refine k_blk_n ?_
        refine k_then_n ?_
        refine c_region ?_
        refine l_step (s_q rfl wn (q_move rfl) ?_)
        refine l_step (s_q rfl wn (by first | exact q_add rfl rfl (by omega) (by omega) | exact q_addw rfl rfl) ?_)
        refine l_step (s_q rfl wn (q_assign rfl) ?_)
        refine l_nil ?_
        refine k_then_n ?_
        exact t_next ⟨x.k + 1, a35, c35⟩ ⟨⟨by simp only []; omega, take_le hk2 hx2 (by omega)⟩, by simp only []; omega⟩ (.cons rfl (by first | rfl | (simp; done) | simp [*]) (.cons rfl (by simp only []; rw [flat_take_succ _ _ _ hk2]) (.cons rfl (u32e (by rw [flat_take_succ _ _ _ hk2, show List.flatMap SB.bs [(L.getD x.k default)] = (L.getD x.k default).bs from by simp, join_sum])) (.cons rfl (u32e (by rw [flat_take_succ _ _ _ hk2, show List.flatMap SB.bs [(L.getD x.k default)] = (L.getD x.k default).bs from by simp, sumB_append])) (.cons rfl (by first | rfl | (simp; done) | simp [*]) (.nil _)))))) (by (first | rw [flat_take_succ _ _ _ hk2] | skip); (repeat (first | exact Ent.refl _ | refine Ent.pick (by repeat (first | exact Pick.here | apply Pick.there)) ?_ | refine Ent.skip ?_)))
    · skip
      have hk3 : x.k = L.length := by omega
      rw [hk3, List.take_length] at hx2 hfl ⊢
      refine c_exit ?_
      refine k_then_x ?_
      refine k_then_x ?_
      refine k_blk_x ?_
      refine k_then_n ?_
      refine c_seq ?_
      refine c_region ?_
      refine l_step (s_q rfl wn (q_move rfl) ?_)
      refine l_step (s_fn rfl wn Try.func16 rfl (by kernel_rfl) rfl (refOf_spec ⟨x.a, x.cap, L.flatMap SB.bs⟩ ρ _ (by simp only []; omega) (by exact rdb_row (by repeat (first | exact Pick.here | apply Pick.there)))) (sel_all _) ?_)
      rintro _ _ _ - ⟨rfl, rfl, rfl⟩
      refine Tr.ent (Ent.cast (List.append_nil _)) ?_
      refine l_step (s_q rfl wn (q_assign rfl) ?_)
      refine l_nil ?_
      refine k_then_n ?_
      refine c_seq ?_
      refine c_region ?_
      refine l_step (s_q rfl wn (q_move rfl) ?_)
      refine l_step (s_fn rfl wn Try.func15 rfl (by kernel_rfl) rfl (of_spec _ _ L ρ [] (by omega) (fun t ht => by have := hx2 t ht; omega) ⟨fun _ => rd_ro ro, fun t ht => rdb_ro (hro t ht)⟩) (by repeat (first | exact Sel.nil | exact Pick.here | apply Sel.cons | apply Pick.there)) ?_)
      rintro _ _ _ - ⟨rfl, rfl, rfl⟩
      try simp only [List.cons_append, List.nil_append]
      refine l_step (s_q rfl wn (q_move rfl) ?_)
      refine l_step (s_q rfl wn (q_eql rfl rfl) ?_)
      refine l_step (s_q rfl wn (q_move rfl) ?_)
      refine Tr.env (.cons (t := 68) (v := .bool true) rfl (congrArg Value.bool (decide_eq_true rfl)) (EnvLe.refl _)) ?_
      refine l_step (s_q rfl (wy rfl rfl rfl) (q_move rfl) ?_)
      refine l_step (s_q rfl (wy rfl rfl rfl) (q_move rfl) ?_)
      refine l_step (s_q rfl (wy rfl rfl rfl) (q_eql rfl rfl) ?_)
      refine l_step (s_q rfl wn (q_pick rfl rfl rfl) ?_)
      refine l_step (s_q rfl wn (q_move rfl) ?_)
      refine Tr.env (.cons (t := 73) (v := .bool true) rfl (congrArg Value.bool (decide_eq_true rfl)) (EnvLe.refl _)) ?_
      refine l_step (s_q rfl (wy rfl rfl rfl) (q_move rfl) ?_)
      refine l_step (s_q rfl (wy rfl rfl rfl) (q_move rfl) ?_)
      refine l_step (s_q rfl (wy rfl rfl rfl) (q_eql rfl rfl) ?_)
      refine l_step (s_q rfl wn (q_pick rfl rfl rfl) ?_)
      refine l_step (s_q rfl wn (q_move rfl) ?_)
      refine Tr.env (.cons (t := 78) (v := .bool true) rfl (congrArg Value.bool (decide_eq_true rfl)) (EnvLe.refl _)) ?_
      refine l_step (s_q rfl (wy rfl rfl rfl) (q_move rfl) ?_)
      refine l_step (s_q rfl (wy rfl rfl rfl) (q_move rfl) ?_)
      refine l_step (s_fn rfl (wy rfl rfl rfl) Try.func18 rfl (by kernel_rfl) rfl (fits_spec _ _ _ L ρ [] (by omega) (fun t ht => by have := hx2 t ht; omega) ⟨fun _ => rd_ro ro, fun t ht => rdb_ro (hro t ht)⟩) (by repeat (first | exact Sel.nil | exact Pick.here | apply Sel.cons | apply Pick.there)) ?_)
      rintro _ _ _ - ⟨rfl, rfl, rfl⟩
      try simp only [List.cons_append, List.nil_append]
      refine l_step (s_q rfl wn (q_pick rfl rfl rfl) ?_)
      refine l_step (s_q rfl wn (q_assign rfl) ?_)
      refine l_nil ?_
      refine k_then_n ?_
      refine c_ret ?_
      exact t_ret [] rfl (.tmp rfl .nil) rfl (Hp.le_refl _) ⟨rfl, congrArg Value.bool (by simp), rfl⟩ (by (repeat refine Ent.skip ?_); exact Ent.refl _)

theorem fixes_spec (A : SB) (w : BitVec 32) (o0 o1 o2 o3 : UInt8) (ρ : Hp) (hA : Ro ρ 1 A.a A.bs.length A.cap (A.bs.flatMap encB)) : Spec0 Try.prog 6 #[.slice A.a A.bs.length A.cap, .int .u32 (w.toNat : Int), .agg #[.int .u8 (o0.toNat : Int), .int .u8 (o1.toNat : Int), .int .u8 (o2.toNat : Int), .int .u8 (o3.toNat : Int)]] ρ [] (fun v Γ' => v = .bool true ∧ Γ' = []) := by
  have hfx : (fixB (sumB A.bs) w).length = 4 := rfl
  refine spec_of (n := 41) (vs := [_, _, _]) (σ := [(0, _), (1, _), (2, _)]) Try.func6 rfl rfl rfl rfl fun E Δ => ?_
  rw [List.nil_append]
  refine c_seq ?_
  refine c_region ?_
  refine l_step (s_s rfl wn (s_box rfl rfl) ?_)
  rintro _ _ ⟨b5, rfl, rfl⟩
  refine l_step (s_q rfl wn (q_assign rfl) ?_)
  refine l_nil ?_
  refine k_then_n ?_
  refine c_seq ?_
  refine c_seq ?_
  refine c_region ?_
  refine l_step (s_fn rfl wn Try.func14 rfl (by kernel_rfl) rfl (awake_spec ρ) (by repeat (first | exact Sel.nil | exact Pick.here | apply Sel.cons | apply Pick.there)) ?_)
  rintro _ _ _ - ⟨rfl, rfl, rfl⟩
  try simp only [List.cons_append, List.nil_append]
  refine l_step (s_q rfl wn (q_not rfl) ?_)
  refine l_step (s_q rfl wn (q_move rfl) ?_)
  refine Tr.env (.cons (t := 10) (v := .bool false) rfl (congrArg Value.bool rfl) (EnvLe.refl _)) ?_
  refine l_step (s_q rfl (wy rfl rfl rfl) (q_move rfl) ?_)
  refine l_step (s_q rfl (wy rfl rfl rfl) (q_len Try.underlying22 rfl) ?_)
  refine l_step (s_q rfl (wy rfl rfl rfl) (q_gtr rfl rfl) ?_)
  refine l_step (s_q rfl wn (q_pick rfl rfl rfl) ?_)
  refine l_nil ?_
  refine k_then_n ?_
  first | refine c_if rfl (fun h0 => ?_) (fun h0 => ?_) | refine c_cond rfl (fun h0 => ?_) (fun h0 => ?_)
  · skip
    refine c_seq ?_
    refine c_region ?_
    refine l_step (s_fn rfl wn Try.func14 rfl (by kernel_rfl) rfl (awake_spec ρ) (by repeat (first | exact Sel.nil | exact Pick.here | apply Sel.cons | apply Pick.there)) ?_)
    rintro _ _ _ - ⟨rfl, rfl, rfl⟩
    try simp only [List.cons_append, List.nil_append]
    refine l_step (s_q rfl wn (q_assign rfl) ?_)
    refine l_nil ?_
    refine k_then_n ?_
    refine c_ret ?_
    refine k_then_r ?_
    exact t_ret [] rfl (.tmp rfl .nil) rfl (Hp.le_refl _) ⟨rfl, rfl, rfl⟩ (by (repeat refine Ent.skip ?_); exact Ent.refl _)
  · skip
    refine c_skip ?_
    refine k_then_n ?_
    refine c_seq ?_
    refine c_region ?_
    refine l_step (s_q rfl wn (q_move rfl) ?_)
    refine l_step (s_fn rfl wn Try.func16 rfl (by kernel_rfl) rfl (refOf_spec A ρ [] (by omega) (by exact rdb_ro hA)) (by repeat (first | exact Sel.nil | exact Pick.here | apply Sel.cons | apply Pick.there)) ?_)
    rintro _ _ _ - ⟨rfl, rfl, rfl⟩
    try simp only [List.cons_append, List.nil_append]
    refine l_step (s_q rfl wn (q_move rfl) ?_)
    refine l_step (s_fn rfl wn Try.func20 rfl (by kernel_rfl) rfl (fix_spec _ _ ρ) (by repeat (first | exact Sel.nil | exact Pick.here | apply Sel.cons | apply Pick.there)) ?_)
    rintro _ _ _ - ⟨rfl, rfl, rfl⟩
    try simp only [List.cons_append, List.nil_append]
    refine l_step (s_s rfl wn (s_allocz zc_37) ?_)
    rintro _ _ ⟨b7, rfl, rfl⟩
    refine l_step (s_s0 wn (s_storep (ws := (fixB (sumB A.bs) w).flatMap encB) (cs := [.int .u8 0, .int .u8 0, .int .u8 0, .int .u8 0]) (cs' := (fixB (sumB A.bs) w).flatMap encB) rfl rfl rfl sz_37 (oneB _) (by simp [fixB, encB]) rfl (by repeat (first | exact Pick.here | apply Pick.there))) ?_)
    rintro _ _ ⟨rfl, rfl⟩
    refine l_nil ?_
    refine k_then_n ?_
    refine c_seq ?_
    refine c_seq ?_
    refine c_draw (m := 8) (bs := #[false, false, false, false, false, false, false, false]) [] (by kernel_rfl) rfl (by kernel_rfl) ?_
    refine r_take (i := 1) (bs' := #[false, true, false, false, false, false, false, false]) rfl (by kernel_rfl) (by kernel_rfl) (by kernel_rfl) (fun _ _ _ h => h) rfl wn (q_move rfl) (Hp.le_refl _) (by repeat (first | exact Ent.nil _ | exact Ent.refl _ | (refine Ent.pick (by repeat (first | exact Pick.here | apply Pick.there)) ?_) | refine Ent.skip ?_)) (by kernel_rfl) ?_
    refine r_take (i := 3) (bs' := #[false, true, false, true, false, false, false, false]) rfl (by kernel_rfl) (by kernel_rfl) (by kernel_rfl) (fun _ _ _ h => h) rfl wn (q_cut_arr Try.underlying37 sz_5 rfl) (Hp.le_refl _) (by repeat (first | exact Ent.nil _ | exact Ent.refl _ | (refine Ent.pick (by repeat (first | exact Pick.here | apply Pick.there)) ?_) | refine Ent.skip ?_)) (by kernel_rfl) ?_
    refine r_take (i := 6) (bs' := #[false, true, false, true, false, false, true, false]) rfl (by kernel_rfl) (by kernel_rfl) (by kernel_rfl) (fun _ _ _ h => h) rfl wn (q_move rfl) (Hp.le_refl _) (by repeat (first | exact Ent.nil _ | exact Ent.refl _ | (refine Ent.pick (by repeat (first | exact Pick.here | apply Pick.there)) ?_) | refine Ent.skip ?_)) (by kernel_rfl) ?_
    refine r_one (i := 0) (bs' := #[true, true, false, true, false, false, true, false]) (by kernel_rfl) (by kernel_rfl) ?_
    refine o_step rfl (s_s rfl wn (s_buildSlice Try.underlying22 eo_5 rfl rfl rfl rfl (by decide) (by decide)) ?_)
    rintro _ _ ⟨b20, rfl, rfl⟩
    refine r_cont (Hp.le_refl _) (by repeat (first | exact Ent.nil _ | exact Ent.refl _ | (refine Ent.pick (by repeat (first | exact Pick.here | apply Pick.there)) ?_) | refine Ent.skip ?_)) ?_
    refine r_one (i := 2) (bs' := #[true, true, true, true, false, false, true, false]) (by kernel_rfl) (by kernel_rfl) ?_
    refine o_step rfl (s_s rfl wn (s_appende (enc := encB) (xs := []) (ys := A.bs) (Γ' := fun a' cap' => _) Try.underlying22 eo_5 (by decide) rfl rfl (rd_ro hA) (oneB _) (by first | omega | (simp <;> omega)) (by first | omega | (simp <;> omega)) (fun _ _ => (by repeat (first | exact Pick.here | apply Pick.there)))) ?_)
    rintro _ _ ⟨a22, c22, rfl, rfl⟩
    refine r_cont (Hp.le_refl _) (by repeat (first | exact Ent.nil _ | exact Ent.refl _ | (refine Ent.pick (by repeat (first | exact Pick.here | apply Pick.there)) ?_) | refine Ent.skip ?_)) ?_
    refine r_one (i := 4) (bs' := #[true, true, true, true, true, false, true, false]) (by kernel_rfl) (by kernel_rfl) ?_
    refine o_step rfl (s_s rfl wn (s_appende (enc := encB) (xs := A.bs) (ys := (fixB (sumB A.bs) w)) (Γ' := fun a' cap' => _) Try.underlying22 eo_5 (by decide) rfl rfl (rd_pts (ds := (fixB (sumB A.bs) w).flatMap encB) (by repeat (first | exact Pick.here | apply Pick.there)) rfl (by simp [fixB]) (by decide) (fun j c e => by rw [Nat.zero_add]; exact e)) (oneB _) (by first | omega | (simp <;> omega)) (by first | omega | (simp <;> omega)) (fun _ _ => (by repeat (first | exact Pick.here | apply Pick.there)))) ?_)
    rintro _ _ ⟨a24, c24, rfl, rfl⟩
    refine r_cont (Hp.le_refl _) (by repeat (first | exact Ent.nil _ | exact Ent.refl _ | (refine Ent.pick (by repeat (first | exact Pick.here | apply Pick.there)) ?_) | refine Ent.skip ?_)) ?_
    refine r_one (i := 5) (bs' := #[true, true, true, true, true, true, true, false]) (by kernel_rfl) (by kernel_rfl) ?_
    refine o_step rfl (s_fn rfl wn Try.func16 rfl (by kernel_rfl) rfl (refOf_spec ⟨a24, c24, A.bs ++ (fixB (sumB A.bs) w)⟩ ρ _ (by simp [fixB]; omega) (by exact rdb_row (by repeat (first | exact Pick.here | apply Pick.there)))) (sel_all _) ?_)
    rintro _ _ _ - ⟨rfl, rfl, rfl⟩
    refine Tr.ent (Ent.cast (List.append_nil _)) ?_
    refine r_cont (Hp.le_refl _) (by repeat (first | exact Ent.nil _ | exact Ent.refl _ | (refine Ent.pick (by repeat (first | exact Pick.here | apply Pick.there)) ?_) | refine Ent.skip ?_)) ?_
    refine r_take (i := 7) (bs' := #[true, true, true, true, true, true, true, true]) rfl (by kernel_rfl) (by kernel_rfl) (by kernel_rfl) (fun _ _ _ h => h) rfl wn (q_neq rfl rfl) (Hp.le_refl _) (by repeat (first | exact Ent.nil _ | exact Ent.refl _ | (refine Ent.pick (by repeat (first | exact Pick.here | apply Pick.there)) ?_) | refine Ent.skip ?_)) (by kernel_rfl) ?_
    refine r_done (by kernel_rfl) ?_
    refine k_then_n ?_
    refine c_sure false rfl (decide_eq_false (by have := fix_sum A.bs w; simp only [List.nil_append, ne_eq, Decidable.not_not]; rw [this])) ?_
    simp only [Bool.false_eq_true, if_true, if_false]
    refine c_skip ?_
    refine k_then_n ?_
    refine c_seq ?_
    refine c_draw (m := 14) (bs := #[false, false, false, false, false, false, false, false, false, false, false, false, false, false]) [.pts b5 [.int .u8 (o0.toNat : Int), .int .u8 (o1.toNat : Int), .int .u8 (o2.toNat : Int), .int .u8 (o3.toNat : Int)] 37, .pts b7 ((fixB (sumB A.bs) w).flatMap encB) 37] (by kernel_rfl) rfl (by kernel_rfl) ?_
    refine r_take (i := 0) (bs' := #[true, false, false, false, false, false, false, false, false, false, false, false, false, false]) rfl (by kernel_rfl) (by kernel_rfl) (by kernel_rfl) (fun _ _ _ h => h) rfl wn (q_loadpa (vs := [.int .u8 (o0.toNat : Int), .int .u8 (o1.toNat : Int), .int .u8 (o2.toNat : Int), .int .u8 (o3.toNat : Int)]) ag_37 rfl (by repeat (first | exact Pick.here | apply Pick.there)) rfl) (Hp.le_refl _) (by repeat (first | exact Ent.nil _ | exact Ent.refl _ | (refine Ent.pick (by repeat (first | exact Pick.here | apply Pick.there)) ?_) | refine Ent.skip ?_)) (by kernel_rfl) ?_
    refine r_take (i := 1) (bs' := #[true, true, false, false, false, false, false, false, false, false, false, false, false, false]) rfl (by kernel_rfl) (by kernel_rfl) (by kernel_rfl) (fun _ _ _ h => h) rfl wn (q_loadpa (vs := (fixB (sumB A.bs) w).flatMap encB) ag_37 rfl (by repeat (first | exact Pick.here | apply Pick.there)) rfl) (Hp.le_refl _) (by repeat (first | exact Ent.nil _ | exact Ent.refl _ | (refine Ent.pick (by repeat (first | exact Pick.here | apply Pick.there)) ?_) | refine Ent.skip ?_)) (by kernel_rfl) ?_
    refine r_take (i := 2) (bs' := #[true, true, true, false, false, false, false, false, false, false, false, false, false, false]) rfl (by kernel_rfl) (by kernel_rfl) (by kernel_rfl) (fun _ _ _ h => h) rfl wn (q_eqla4 Try.underlying37 Try.underlying5 (by kernel_rfl) (by kernel_rfl) (by kernel_rfl) rfl rfl) (Hp.le_refl _) (by repeat (first | exact Ent.nil _ | exact Ent.refl _ | (refine Ent.pick (by repeat (first | exact Pick.here | apply Pick.there)) ?_) | refine Ent.skip ?_)) (by kernel_rfl) ?_
    refine r_take (i := 3) (bs' := #[true, true, true, true, false, false, false, false, false, false, false, false, false, false]) rfl (by kernel_rfl) (by kernel_rfl) (by kernel_rfl) (fun _ _ _ h => h) rfl wn (q_move rfl) (Hp.le_refl _) (by repeat (first | exact Ent.nil _ | exact Ent.refl _ | (refine Ent.pick (by repeat (first | exact Pick.here | apply Pick.there)) ?_) | refine Ent.skip ?_)) (by kernel_rfl) ?_
    first | refine t_splitd (d := 31) rfl (fun g6_3 => ?_) (fun g6_3 => ?_) | refine t_split (d := 31) rfl (fun g6_3 => ?_) (fun g6_3 => ?_)
    · skip
      refine r_skip (i := 4) (bs' := #[true, true, true, true, true, false, false, false, false, false, false, false, false, false]) rfl (by kernel_rfl) (by kernel_rfl) (by kernel_rfl) (fun _ _ _ h => h) rfl (wno rfl rfl (by decide)) (Hp.le_refl _) (by repeat (first | exact Ent.nil _ | exact Ent.refl _ | (refine Ent.pick (by repeat (first | exact Pick.here | apply Pick.there)) ?_) | refine Ent.skip ?_)) (by kernel_rfl) ?_
      refine r_skip (i := 5) (bs' := #[true, true, true, true, true, true, false, false, false, false, false, false, false, false]) rfl (by kernel_rfl) (by kernel_rfl) (by kernel_rfl) (fun _ _ _ h => h) rfl (wno rfl rfl (by decide)) (Hp.le_refl _) (by repeat (first | exact Ent.nil _ | exact Ent.refl _ | (refine Ent.pick (by repeat (first | exact Pick.here | apply Pick.there)) ?_) | refine Ent.skip ?_)) (by kernel_rfl) ?_
      refine r_skip (i := 6) (bs' := #[true, true, true, true, true, true, true, false, false, false, false, false, false, false]) rfl (by kernel_rfl) (by kernel_rfl) (by kernel_rfl) (fun _ _ _ h => h) rfl (wno rfl rfl (by decide)) (Hp.le_refl _) (by repeat (first | exact Ent.nil _ | exact Ent.refl _ | (refine Ent.pick (by repeat (first | exact Pick.here | apply Pick.there)) ?_) | refine Ent.skip ?_)) (by kernel_rfl) ?_
      refine r_skip (i := 7) (bs' := #[true, true, true, true, true, true, true, true, false, false, false, false, false, false]) rfl (by kernel_rfl) (by kernel_rfl) (by kernel_rfl) (fun _ _ _ h => h) rfl (wno rfl rfl (by decide)) (Hp.le_refl _) (by repeat (first | exact Ent.nil _ | exact Ent.refl _ | (refine Ent.pick (by repeat (first | exact Pick.here | apply Pick.there)) ?_) | refine Ent.skip ?_)) (by kernel_rfl) ?_
      refine r_skip (i := 8) (bs' := #[true, true, true, true, true, true, true, true, true, false, false, false, false, false]) rfl (by kernel_rfl) (by kernel_rfl) (by kernel_rfl) (fun _ _ _ h => h) rfl (wno rfl rfl (by decide)) (Hp.le_refl _) (by repeat (first | exact Ent.nil _ | exact Ent.refl _ | (refine Ent.pick (by repeat (first | exact Pick.here | apply Pick.there)) ?_) | refine Ent.skip ?_)) (by kernel_rfl) ?_
      refine r_skip (i := 9) (bs' := #[true, true, true, true, true, true, true, true, true, true, false, false, false, false]) rfl (by kernel_rfl) (by kernel_rfl) (by kernel_rfl) (fun _ _ _ h => h) rfl (wno rfl rfl (by decide)) (Hp.le_refl _) (by repeat (first | exact Ent.nil _ | exact Ent.refl _ | (refine Ent.pick (by repeat (first | exact Pick.here | apply Pick.there)) ?_) | refine Ent.skip ?_)) (by kernel_rfl) ?_
      refine r_skip (i := 10) (bs' := #[true, true, true, true, true, true, true, true, true, true, true, false, false, false]) rfl (by kernel_rfl) (by kernel_rfl) (by kernel_rfl) (fun _ _ _ h => h) rfl (wno rfl rfl (by decide)) (Hp.le_refl _) (by repeat (first | exact Ent.nil _ | exact Ent.refl _ | (refine Ent.pick (by repeat (first | exact Pick.here | apply Pick.there)) ?_) | refine Ent.skip ?_)) (by kernel_rfl) ?_
      refine r_skip (i := 11) (bs' := #[true, true, true, true, true, true, true, true, true, true, true, true, false, false]) rfl (by kernel_rfl) (by kernel_rfl) (by kernel_rfl) (fun _ _ _ h => h) rfl (wno rfl rfl (by decide)) (Hp.le_refl _) (by repeat (first | exact Ent.nil _ | exact Ent.refl _ | (refine Ent.pick (by repeat (first | exact Pick.here | apply Pick.there)) ?_) | refine Ent.skip ?_)) (by kernel_rfl) ?_
      refine r_take (i := 12) (bs' := #[true, true, true, true, true, true, true, true, true, true, true, true, true, false]) rfl (by kernel_rfl) (by kernel_rfl) (by kernel_rfl) (fun _ _ _ h => h) rfl wn (q_pick rfl rfl rfl) (Hp.le_refl _) (by repeat (first | exact Ent.nil _ | exact Ent.refl _ | (refine Ent.pick (by repeat (first | exact Pick.here | apply Pick.there)) ?_) | refine Ent.skip ?_)) (by kernel_rfl) ?_
      refine r_take (i := 13) (bs' := #[true, true, true, true, true, true, true, true, true, true, true, true, true, true]) rfl (by kernel_rfl) (by kernel_rfl) (by kernel_rfl) (fun _ _ _ h => h) rfl wn (q_assign rfl) (Hp.le_refl _) (by repeat (first | exact Ent.nil _ | exact Ent.refl _ | (refine Ent.pick (by repeat (first | exact Pick.here | apply Pick.there)) ?_) | refine Ent.skip ?_)) (by kernel_rfl) ?_
      refine r_done (by kernel_rfl) ?_
      refine k_then_n ?_
      refine c_ret ?_
      exact t_ret [] rfl (.tmp rfl .nil) rfl (Hp.le_refl _) ⟨rfl, rfl, rfl⟩ (by (repeat refine Ent.skip ?_); exact Ent.refl _)
    · skip
      refine r_take (i := 5) (bs' := #[true, true, true, true, false, true, false, false, false, false, false, false, false, false]) rfl (by kernel_rfl) (by kernel_rfl) (by kernel_rfl) (fun _ _ _ h => h) rfl (wy rfl rfl rfl) (q_move rfl) (Hp.le_refl _) (by repeat (first | exact Ent.nil _ | exact Ent.refl _ | (refine Ent.pick (by repeat (first | exact Pick.here | apply Pick.there)) ?_) | refine Ent.skip ?_)) (by kernel_rfl) ?_
      refine r_take (i := 7) (bs' := #[true, true, true, true, false, true, false, true, false, false, false, false, false, false]) rfl (by kernel_rfl) (by kernel_rfl) (by kernel_rfl) (fun _ _ _ h => h) rfl (wy rfl rfl rfl) (q_cut_arr Try.underlying37 sz_5 rfl) (Hp.le_refl _) (by repeat (first | exact Ent.nil _ | exact Ent.refl _ | (refine Ent.pick (by repeat (first | exact Pick.here | apply Pick.there)) ?_) | refine Ent.skip ?_)) (by kernel_rfl) ?_
      refine r_take (i := 10) (bs' := #[true, true, true, true, false, true, false, true, false, false, true, false, false, false]) rfl (by kernel_rfl) (by kernel_rfl) (by kernel_rfl) (fun _ _ _ h => h) rfl (wy rfl rfl rfl) (q_move rfl) (Hp.le_refl _) (by repeat (first | exact Ent.nil _ | exact Ent.refl _ | (refine Ent.pick (by repeat (first | exact Pick.here | apply Pick.there)) ?_) | refine Ent.skip ?_)) (by kernel_rfl) ?_
      refine r_one (i := 4) (bs' := #[true, true, true, true, true, true, false, true, false, false, true, false, false, false]) (by kernel_rfl) (by kernel_rfl) ?_
      refine o_step rfl (s_s rfl (wy rfl rfl rfl) (s_buildSlice Try.underlying22 eo_5 rfl rfl rfl rfl (by decide) (by decide)) ?_)
      rintro _ _ ⟨b32, rfl, rfl⟩
      refine r_cont (Hp.le_refl _) (by repeat (first | exact Ent.nil _ | exact Ent.refl _ | (refine Ent.pick (by repeat (first | exact Pick.here | apply Pick.there)) ?_) | refine Ent.skip ?_)) ?_
      refine r_one (i := 6) (bs' := #[true, true, true, true, true, true, true, true, false, false, true, false, false, false]) (by kernel_rfl) (by kernel_rfl) ?_
      refine o_step rfl (s_s rfl (wy rfl rfl rfl) (s_appende (enc := encB) (xs := []) (ys := A.bs) (Γ' := fun a' cap' => _) Try.underlying22 eo_5 (by decide) rfl rfl (rd_ro hA) (oneB _) (by first | omega | (simp <;> omega)) (by first | omega | (simp <;> omega)) (fun _ _ => (by repeat (first | exact Pick.here | apply Pick.there)))) ?_)
      rintro _ _ ⟨a34, c34, rfl, rfl⟩
      refine r_cont (Hp.le_refl _) (by repeat (first | exact Ent.nil _ | exact Ent.refl _ | (refine Ent.pick (by repeat (first | exact Pick.here | apply Pick.there)) ?_) | refine Ent.skip ?_)) ?_
      refine r_one (i := 8) (bs' := #[true, true, true, true, true, true, true, true, true, false, true, false, false, false]) (by kernel_rfl) (by kernel_rfl) ?_
      refine o_step rfl (s_s rfl (wy rfl rfl rfl) (s_appende (enc := encB) (xs := A.bs) (ys := [o0, o1, o2, o3]) (Γ' := fun a' cap' => _) Try.underlying22 eo_5 (by decide) rfl rfl (rd_pts (ds := [.int .u8 (o0.toNat : Int), .int .u8 (o1.toNat : Int), .int .u8 (o2.toNat : Int), .int .u8 (o3.toNat : Int)]) (by repeat (first | exact Pick.here | apply Pick.there)) rfl (by simp [fixB]) (by decide) (fun j c e => by rw [Nat.zero_add]; exact e)) (oneB _) (by first | omega | (simp <;> omega)) (by first | omega | (simp <;> omega)) (fun _ _ => (by repeat (first | exact Pick.here | apply Pick.there)))) ?_)
      rintro _ _ ⟨a36, c36, rfl, rfl⟩
      refine r_cont (Hp.le_refl _) (by repeat (first | exact Ent.nil _ | exact Ent.refl _ | (refine Ent.pick (by repeat (first | exact Pick.here | apply Pick.there)) ?_) | refine Ent.skip ?_)) ?_
      refine r_one (i := 9) (bs' := #[true, true, true, true, true, true, true, true, true, true, true, false, false, false]) (by kernel_rfl) (by kernel_rfl) ?_
      refine o_step rfl (s_fn rfl (wy rfl rfl rfl) Try.func16 rfl (by kernel_rfl) rfl (refOf_spec ⟨a36, c36, A.bs ++ [o0, o1, o2, o3]⟩ ρ _ (by simp; omega) (by exact rdb_row (by repeat (first | exact Pick.here | apply Pick.there)))) (sel_all _) ?_)
      rintro _ _ _ - ⟨rfl, rfl, rfl⟩
      refine Tr.ent (Ent.cast (List.append_nil _)) ?_
      refine r_cont (Hp.le_refl _) (by repeat (first | exact Ent.nil _ | exact Ent.refl _ | (refine Ent.pick (by repeat (first | exact Pick.here | apply Pick.there)) ?_) | refine Ent.skip ?_)) ?_
      refine r_take (i := 11) (bs' := #[true, true, true, true, true, true, true, true, true, true, true, true, false, false]) rfl (by kernel_rfl) (by kernel_rfl) (by kernel_rfl) (fun _ _ _ h => h) rfl (wy rfl rfl rfl) (q_neq rfl rfl) (Hp.le_refl _) (by repeat (first | exact Ent.nil _ | exact Ent.refl _ | (refine Ent.pick (by repeat (first | exact Pick.here | apply Pick.there)) ?_) | refine Ent.skip ?_)) (by kernel_rfl) ?_
      refine r_take (i := 12) (bs' := #[true, true, true, true, true, true, true, true, true, true, true, true, true, false]) rfl (by kernel_rfl) (by kernel_rfl) (by kernel_rfl) (fun _ _ _ h => h) rfl wn (q_pick rfl rfl rfl) (Hp.le_refl _) (by repeat (first | exact Ent.nil _ | exact Ent.refl _ | (refine Ent.pick (by repeat (first | exact Pick.here | apply Pick.there)) ?_) | refine Ent.skip ?_)) (by kernel_rfl) ?_
      refine r_take (i := 13) (bs' := #[true, true, true, true, true, true, true, true, true, true, true, true, true, true]) rfl (by kernel_rfl) (by kernel_rfl) (by kernel_rfl) (fun _ _ _ h => h) rfl wn (q_assign rfl) (Hp.le_refl _) (by repeat (first | exact Ent.nil _ | exact Ent.refl _ | (refine Ent.pick (by repeat (first | exact Pick.here | apply Pick.there)) ?_) | refine Ent.skip ?_)) (by kernel_rfl) ?_
      refine r_done (by kernel_rfl) ?_
      refine k_then_n ?_
      refine c_ret ?_
      exact t_ret [] rfl (.tmp rfl .nil) rfl (Hp.le_refl _) ⟨rfl, congrArg Value.bool (decide_eq_true (fun h => g6_3 (fix_only (BitVec.eq_of_toNat_eq (Int.ofNat.inj h))))), rfl⟩ (by (repeat refine Ent.skip ?_); exact Ent.refl _)

structure BS where
  k : Nat
  c : List UInt8

theorem bursts_spec (B : SB) (fr : Int) (hf : -9223372036854775808 ≤ fr ∧ fr ≤ 9223372036854775807) (bits : BitVec 32) (ρ : Hp) (hB : Ro ρ 1 B.a B.bs.length B.cap (B.bs.flatMap encB)) : Spec0 Try.prog 3 #[.slice B.a B.bs.length B.cap, .int .i64 fr, .int .u32 (bits.toNat : Int)] ρ [] (fun v Γ' => v = .bool true ∧ Γ' = []) := by
  refine spec_of (n := 77) (vs := [_, _, _]) (σ := [(0, _), (1, _), (2, _)]) Try.func3 rfl rfl rfl rfl fun E Δ => ?_
  rw [List.nil_append]
  refine c_seq ?_
  refine c_region ?_
  refine l_step (s_q rfl wn (q_assign rfl) ?_)
  refine l_nil ?_
  refine k_then_n ?_
  refine c_seq ?_
  refine c_seq ?_
  refine c_region ?_
  refine l_step (s_fn rfl wn Try.func14 rfl (by kernel_rfl) rfl (awake_spec ρ) (by repeat (first | exact Sel.nil | exact Pick.here | apply Sel.cons | apply Pick.there)) ?_)
  rintro _ _ _ - ⟨rfl, rfl, rfl⟩
  try simp only [List.cons_append, List.nil_append]
  refine l_step (s_q rfl wn (q_not rfl) ?_)
  refine l_step (s_q rfl wn (q_move rfl) ?_)
  refine Tr.env (.cons (t := 14) (v := .bool false) rfl (congrArg Value.bool rfl) (EnvLe.refl _)) ?_
  refine l_step (s_q rfl (wy rfl rfl rfl) (q_move rfl) ?_)
  refine l_step (s_q rfl (wy rfl rfl rfl) (q_len Try.underlying22 rfl) ?_)
  refine l_step (s_q rfl (wy rfl rfl rfl) (q_gtr rfl rfl) ?_)
  refine l_step (s_q rfl wn (q_pick rfl rfl rfl) ?_)
  refine l_step (s_q rfl wn (q_move rfl) ?_)
  first | refine t_splitd (d := 19) rfl (fun g1_7 => ?_) (fun g1_7 => ?_) | refine t_split (d := 19) rfl (fun g1_7 => ?_) (fun g1_7 => ?_)
  · skip
    refine l_step (s_no rfl (wno rfl rfl (by decide)) ?_)
    refine l_step (s_no rfl (wno rfl rfl (by decide)) ?_)
    refine l_step (s_no rfl (wno rfl rfl (by decide)) ?_)
    refine l_step (s_q rfl wn (q_pick rfl rfl rfl) ?_)
    refine l_step (s_q rfl wn (q_move rfl) ?_)
    skip
    refine l_step (s_no rfl (wno rfl rfl (by decide)) ?_)
    refine l_step (s_no rfl (wno rfl rfl (by decide)) ?_)
    refine l_step (s_q rfl wn (q_pick rfl rfl rfl) ?_)
    refine l_nil ?_
    refine k_then_n ?_
    refine c_yes rfl ?_
    refine c_seq ?_
    refine c_region ?_
    refine l_step (s_fn rfl wn Try.func14 rfl (by kernel_rfl) rfl (awake_spec ρ) (by repeat (first | exact Sel.nil | exact Pick.here | apply Sel.cons | apply Pick.there)) ?_)
    rintro _ _ _ - ⟨rfl, rfl, rfl⟩
    try simp only [List.cons_append, List.nil_append]
    refine l_step (s_q rfl wn (q_assign rfl) ?_)
    refine l_nil ?_
    refine k_then_n ?_
    refine c_ret ?_
    refine k_then_r ?_
    exact t_ret [] rfl (.tmp rfl .nil) rfl (Hp.le_refl _) ⟨rfl, rfl, rfl⟩ (by (repeat refine Ent.skip ?_); exact Ent.refl _)
  · skip
    refine l_step (s_q rfl (wy rfl rfl rfl) (q_move rfl) ?_)
    refine l_step (s_q rfl (wy rfl rfl rfl) (q_len Try.underlying22 rfl) ?_)
    refine l_step (s_q rfl (wy rfl rfl rfl) (q_lss rfl rfl) ?_)
    refine l_step (s_q rfl wn (q_pick rfl rfl rfl) ?_)
    refine l_step (s_q rfl wn (q_move rfl) ?_)
    first | refine t_splitd (d := 24) rfl (fun g1_12 => ?_) (fun g1_12 => ?_) | refine t_split (d := 24) rfl (fun g1_12 => ?_) (fun g1_12 => ?_)
    · skip
      refine l_step (s_no rfl (wno rfl rfl (by decide)) ?_)
      refine l_step (s_no rfl (wno rfl rfl (by decide)) ?_)
      refine l_step (s_q rfl wn (q_pick rfl rfl rfl) ?_)
      refine l_nil ?_
      refine k_then_n ?_
      refine c_yes rfl ?_
      refine c_seq ?_
      refine c_region ?_
      refine l_step (s_fn rfl wn Try.func14 rfl (by kernel_rfl) rfl (awake_spec ρ) (by repeat (first | exact Sel.nil | exact Pick.here | apply Sel.cons | apply Pick.there)) ?_)
      rintro _ _ _ - ⟨rfl, rfl, rfl⟩
      try simp only [List.cons_append, List.nil_append]
      refine l_step (s_q rfl wn (q_assign rfl) ?_)
      refine l_nil ?_
      refine k_then_n ?_
      refine c_ret ?_
      refine k_then_r ?_
      exact t_ret [] rfl (.tmp rfl .nil) rfl (Hp.le_refl _) ⟨rfl, rfl, rfl⟩ (by (repeat refine Ent.skip ?_); exact Ent.refl _)
    · skip
      refine l_step (s_q rfl (wy rfl rfl rfl) (q_move rfl) ?_)
      refine l_step (s_q rfl (wy rfl rfl rfl) (q_eql rfl rfl) ?_)
      refine l_step (s_q rfl wn (q_pick rfl rfl rfl) ?_)
      refine l_nil ?_
      refine k_then_n ?_
      first | refine c_if rfl (fun h0 => ?_) (fun h0 => ?_) | refine c_cond rfl (fun h0 => ?_) (fun h0 => ?_)
      · skip
        refine c_seq ?_
        refine c_region ?_
        refine l_step (s_fn rfl wn Try.func14 rfl (by kernel_rfl) rfl (awake_spec ρ) (by repeat (first | exact Sel.nil | exact Pick.here | apply Sel.cons | apply Pick.there)) ?_)
        rintro _ _ _ - ⟨rfl, rfl, rfl⟩
        try simp only [List.cons_append, List.nil_append]
        refine l_step (s_q rfl wn (q_assign rfl) ?_)
        refine l_nil ?_
        refine k_then_n ?_
        refine c_ret ?_
        refine k_then_r ?_
        exact t_ret [] rfl (.tmp rfl .nil) rfl (Hp.le_refl _) ⟨rfl, rfl, rfl⟩ (by (repeat refine Ent.skip ?_); exact Ent.refl _)
      · skip
        have hn : (0 : Int) < (8 * (B.bs.length : Int) - 32) := by omega
        have t1 := Int.tmod_lt_of_pos fr hn
        have t2 := Int.lt_tmod_of_pos fr hn
        obtain ⟨at_, hat⟩ : ∃ k : Nat, (fr.tmod (8 * (B.bs.length : Int) - 32) + (8 * (B.bs.length : Int) - 32)) % (8 * (B.bs.length : Int) - 32) = (k : Int) := ⟨_, (Int.toNat_of_nonneg (Int.emod_nonneg _ (by omega))).symm⟩
        have hat2 : (at_ : Int) < (8 * (B.bs.length : Int) - 32) := by rw [← hat]; exact Int.emod_lt_of_pos _ hn
        refine c_skip ?_
        refine k_then_n ?_
        refine c_seq ?_
        refine c_region ?_
        refine l_step (s_s rfl wn (s_buildSlice Try.underlying22 eo_5 rfl rfl rfl rfl (by decide) (by decide)) ?_)
        rintro _ _ ⟨b29, rfl, rfl⟩
        refine l_step (s_q rfl wn (q_move rfl) ?_)
        refine l_step (s_s rfl wn (s_appende (enc := encB) (xs := []) (ys := B.bs) (Γ' := fun a' cap' => _) Try.underlying22 eo_5 (by decide) rfl rfl (rd_ro hB) (oneB _) (by first | omega | (simp <;> omega)) (by first | omega | (simp <;> omega)) (fun _ _ => (by repeat (first | exact Pick.here | apply Pick.there)))) ?_)
        rintro _ _ ⟨a31, c31, rfl, rfl⟩
        refine l_step (s_q rfl wn (q_assign rfl) ?_)
        refine l_nil ?_
        refine k_then_n ?_
        refine c_seq ?_
        refine c_region ?_
        refine l_step (s_q rfl wn (q_move rfl) ?_)
        refine l_step (s_q rfl wn (q_len Try.underlying22 rfl) ?_)
        refine l_step (s_q rfl wn (by first | exact q_mul rfl rfl (by omega) (by omega) | exact q_mulw rfl rfl) ?_)
        refine l_step (s_q rfl wn (by first | exact q_sub rfl rfl (by omega) (by omega) | exact q_subw rfl rfl) ?_)
        refine l_step (s_q rfl wn (q_assign rfl) ?_)
        refine l_nil ?_
        refine k_then_n ?_
        refine c_seq ?_
        refine c_region ?_
        refine l_step (s_q rfl wn (q_move rfl) ?_)
        refine l_step (s_q rfl wn (q_move rfl) ?_)
        refine l_step (s_q rfl wn (by first | exact q_remp rfl rfl (by omega) (by omega) | exact q_rem rfl rfl (by omega)) ?_)
        refine l_step (s_q rfl wn (q_move rfl) ?_)
        refine l_step (s_q rfl wn (by first | exact q_add rfl rfl (by omega) (by omega) | exact q_addw rfl rfl) ?_)
        refine l_step (s_q rfl wn (q_move rfl) ?_)
        refine l_step (s_q rfl wn (by first | exact q_remp rfl rfl (by omega) (by omega) | exact q_rem rfl rfl (by omega)) ?_)
        refine l_step (s_q rfl wn (q_assign rfl) ?_)
        refine l_nil ?_
        refine k_then_n ?_
        refine c_seq ?_
        refine c_seq ?_
        refine c_region ?_
        refine l_step (s_q rfl wn (q_assign rfl) ?_)
        refine l_nil ?_
        refine k_then_n ?_
        refine c_block ?_
        refine t_loop (ι := BS) (fun x => x.k ≤ 32 ∧ x.c.length = B.bs.length ∧ crcR (~~~ 0#32) x.c = crcR (~~~ 0#32) B.bs ^^^ timesTo (burstF B.bs.length at_) bits x.k) (fun x => 32 - x.k) (fun x => [(0, .slice B.a B.bs.length B.cap), (2, .int .u32 (bits.toNat : Int)), (7, .slice a31 x.c.length c31), (9, .int .i64 (at_ : Int)), (10, .int .i64 (x.k : Int))]) (fun x => .row 5 1 a31 x.c.length c31 (x.c.flatMap encB) :: Δ) ⟨0, B.bs⟩ ⟨Nat.zero_le _, rfl, by simp [timesTo]⟩ ?_ ?_ ?_
        · exact .cons rfl (by first | rfl | (simp; done) | simp [*]) (.cons rfl (by first | rfl | (simp; done) | simp [*]) (.cons rfl (by first | rfl | (simp; done) | simp [*]) (.cons rfl (inte hat) (.cons rfl (by first | rfl | (simp; done) | simp [*]) (.nil _)))))
        · exact (by repeat (first | exact Ent.nil _ | exact Ent.refl _ | (refine Ent.pick (by repeat (first | exact Pick.here | apply Pick.there)) ?_) | refine Ent.skip ?_))
        intro x hx
        obtain ⟨hx1, hx2, hx3⟩ := hx
        refine c_seq ?_
        refine c_seq ?_
        refine c_region ?_
        refine l_step (s_q rfl wn (q_move rfl) ?_)
        refine l_step (s_q rfl wn (q_lss rfl rfl) ?_)
        refine l_nil ?_
        refine k_then_n ?_
        first | refine c_if rfl (fun h1 => ?_) (fun h1 => ?_) | refine c_cond rfl (fun h1 => ?_) (fun h1 => ?_)
        · skip
          refine c_skip ?_
          refine k_then_n ?_
          refine c_seq ?_
          refine c_block ?_
          refine c_seq ?_
          refine c_region ?_
          refine l_step (s_q rfl wn (q_move rfl) ?_)
          refine l_step (s_q rfl wn (q_move rfl) ?_)
          refine l_step (s_q rfl wn (by first | exact q_conv rfl Try.underlying3 Try.underlying25 (by assumption) | exact q_conv rfl Try.underlying3 Try.underlying25 (wrap_u64 (by omega) (by omega)) | exact q_convw rfl Try.underlying3 Try.underlying25) ?_)
          refine l_step (s_q rfl wn (q32_shr (m := x.k) rfl rfl rfl rfl (by omega)) ?_)
          refine l_step (s_q rfl wn (q32_and (q := 1#32) rfl rfl rfl rfl) ?_)
          refine l_step (s_q rfl wn (q_eql rfl rfl) ?_)
          refine l_nil ?_
          refine k_then_n ?_
          first | refine c_if rfl (fun h2 => ?_) (fun h2 => ?_) | refine c_cond rfl (fun h2 => ?_) (fun h2 => ?_)
          · skip
            refine c_seq ?_
            refine c_region ?_
            refine l_step (s_q rfl wn (q_move rfl) ?_)
            refine l_step (s_q rfl wn (q_move rfl) ?_)
            refine l_step (s_q rfl wn (by first | exact q_add rfl rfl (by omega) (by omega) | exact q_addw rfl rfl) ?_)
            refine l_step (s_q rfl wn (q_assign rfl) ?_)
            refine l_nil ?_
            refine k_then_n ?_
            refine c_region ?_
            refine l_step (s_q rfl wn (q_move rfl) ?_)
            refine l_step (s_q rfl wn (q_move rfl) ?_)
            refine l_step (s_q rfl wn (by first | exact q_quop rfl rfl (by omega) (by omega) (by omega) | exact q_quo rfl rfl (by omega)) ?_)
            refine l_step (s_q rfl wn (q_move rfl) ?_)
            refine l_step (s_q rfl wn (q_move rfl) ?_)
            refine l_step (s_q rfl wn (by first | exact q_quop rfl rfl (by omega) (by omega) (by omega) | exact q_quo rfl rfl (by omega)) ?_)
            refine l_step (s_q rfl wn (q_indexe ((at_ + x.k) / 8) Try.underlying22 sz_5 rfl rfl (by first | assumption | exact rd_ro (by assumption) | exact rd_row (by repeat (first | exact Pick.here | apply Pick.there))) (by decide) (by omega) (by omega)) ?_)
            refine l_step (s_q rfl wn (by first | exact q_loadp sc_5 rfl (by repeat (first | exact Pick.here | apply Pick.there)) rfl | exact q_loade sc_5 rfl (by first | assumption | exact rd_ro (by assumption) | exact rd_row (by repeat (first | exact Pick.here | apply Pick.there))) (fun _ => rfl) (by first | assumption | omega) (by decide) rfl) ?_)
            refine l_step (s_q rfl wn (q_move rfl) ?_)
            refine l_step (s_q rfl wn (by first | exact q_remp rfl rfl (by omega) (by omega) | exact q_rem rfl rfl (by omega)) ?_)
            refine l_step (s_q rfl wn (by first | exact q_conv rfl Try.underlying3 Try.underlying25 (by assumption) | exact q_conv rfl Try.underlying3 Try.underlying25 (wrap_u64 (by omega) (by omega)) | exact q_convw rfl Try.underlying3 Try.underlying25) ?_)
            refine l_step (s_q rfl wn (q8_shl (p := 1) (m := (at_ + x.k) % 8) rfl rfl rfl (by omega) (by omega)) ?_)
            refine l_step (s_q rfl wn (q8_xor rfl rfl rfl rfl) ?_)
            refine l_step (s_q rfl wn (q_indexe ((at_ + x.k) / 8) Try.underlying22 sz_5 rfl rfl (by first | assumption | exact rd_ro (by assumption) | exact rd_row (by repeat (first | exact Pick.here | apply Pick.there))) (by decide) (by omega) (by omega)) ?_)
            refine l_step (s_s0 wn (s_storee (ws := [_]) (enc := encB) (x.c.getD ((at_ + x.k) / 8) default ^^^ ((1 : UInt8) <<< UInt8.ofNat ((at_ + x.k) % 8))) rfl rfl rfl sz_5 (by simp) (by simp [Value.oneCell']) (by repeat (first | exact Pick.here | apply Pick.there)) (fun _ => rfl) (by omega) (by simp) rfl) ?_)
            rintro _ _ ⟨rfl, rfl⟩
            refine l_nil ?_
            refine k_blk_n ?_
            refine k_then_n ?_
            refine c_region ?_
            refine l_step (s_q rfl wn (q_move rfl) ?_)
            refine l_step (s_q rfl wn (by first | exact q_add rfl rfl (by omega) (by omega) | exact q_addw rfl rfl) ?_)
            refine l_step (s_q rfl wn (q_assign rfl) ?_)
            refine l_nil ?_
            refine k_then_n ?_
            exact t_next ⟨x.k + 1, flipB x.c (at_ + x.k)⟩ ⟨⟨by simp only []; omega, by rw [flip_len]; exact hx2, burst_step hx2 (by omega) (by omega) hx3 h2⟩, by simp only []; omega⟩ (.cons rfl (by first | rfl | (simp; done) | simp [*]) (.cons rfl (by first | rfl | (simp; done) | simp [*]) (.cons rfl (by simp only [flip_len]) (.cons rfl (by first | rfl | (simp; done) | simp [*]) (.cons rfl (by first | rfl | (simp; done) | simp [*]) (.nil _)))))) (by simp only [flip_len]; exact Ent.refl _)
          · skip
            refine c_skip ?_
            refine k_blk_n ?_
            refine k_then_n ?_
            refine c_region ?_
            refine l_step (s_q rfl wn (q_move rfl) ?_)
            refine l_step (s_q rfl wn (by first | exact q_add rfl rfl (by omega) (by omega) | exact q_addw rfl rfl) ?_)
            refine l_step (s_q rfl wn (q_assign rfl) ?_)
            refine l_nil ?_
            refine k_then_n ?_
            exact t_next ⟨x.k + 1, x.c⟩ ⟨⟨by simp only []; omega, hx2, burst_skip hx3 h2⟩, by simp only []; omega⟩ (.cons rfl (by first | rfl | (simp; done) | simp [*]) (.cons rfl (by first | rfl | (simp; done) | simp [*]) (.cons rfl (by first | rfl | (simp; done) | simp [*]) (.cons rfl (by first | rfl | (simp; done) | simp [*]) (.cons rfl (by first | rfl | (simp; done) | simp [*]) (.nil _)))))) (by repeat (first | exact Ent.nil _ | exact Ent.refl _ | (refine Ent.pick (by repeat (first | exact Pick.here | apply Pick.there)) ?_) | refine Ent.skip ?_))
        · skip
          have hk3 : x.k = 32 := by omega
          rw [hk3] at hx3
          refine c_exit ?_
          refine k_then_x ?_
          refine k_then_x ?_
          refine k_blk_x ?_
          refine k_then_n ?_
          refine c_seq ?_
          refine c_region ?_
          refine l_step (s_q rfl wn (q_move rfl) ?_)
          refine l_step (s_s rfl wn (s_buildSlice Try.underlying32 eo_22 rfl rfl rfl rfl (by decide) (by decide)) ?_)
          rintro _ _ ⟨b71, rfl, rfl⟩
          refine l_step (s_fn rfl wn Try.func15 rfl (by kernel_rfl) rfl (of_spec _ _ [B] ρ _ (by simp) (by intro t ht; simp at ht; subst ht; (try simp) <;> omega) (by exact rdbb_row (by repeat (first | exact Pick.here | apply Pick.there)) (rda (rdb_ro hB) (rda_nil _ _)))) (sel_all _) ?_)
          rintro _ _ _ - ⟨rfl, rfl, rfl⟩
          refine Tr.ent (Ent.cast (List.append_nil _)) ?_
          refine l_step (s_q rfl wn (q_move rfl) ?_)
          refine l_step (s_s rfl wn (s_buildSlice Try.underlying32 eo_22 rfl rfl rfl rfl (by decide) (by decide)) ?_)
          rintro _ _ ⟨b74, rfl, rfl⟩
          refine l_step (s_fn rfl wn Try.func15 rfl (by kernel_rfl) rfl (of_spec _ _ [⟨a31, c31, x.c⟩] ρ _ (by simp) (by intro t ht; simp at ht; subst ht; (try simp) <;> omega) (by exact rdbb_row (by repeat (first | exact Pick.here | apply Pick.there)) (rda (rdb_row (by repeat (first | exact Pick.here | apply Pick.there))) (rda_nil _ _)))) (sel_all _) ?_)
          rintro _ _ _ - ⟨rfl, rfl, rfl⟩
          refine Tr.ent (Ent.cast (List.append_nil _)) ?_
          refine l_step (s_q rfl wn (q_neq rfl rfl) ?_)
          refine l_step (s_q rfl wn (q_assign rfl) ?_)
          refine l_nil ?_
          refine k_then_n ?_
          refine c_ret ?_
          exact t_ret [] rfl (.tmp rfl .nil) rfl (Hp.le_refl _) ⟨rfl, congrArg Value.bool (decide_eq_true (by have := burst_ne (b := B.bs) (c := x.c) h0 hx3; simpa using this)), rfl⟩ (by (repeat refine Ent.skip ?_); exact Ent.refl _)
end Go.SumV

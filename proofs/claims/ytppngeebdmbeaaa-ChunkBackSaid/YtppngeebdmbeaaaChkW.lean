/-
  Package chunk and its reference, walked.
-/
import Derived.Test.YtppngeebdmbeaaaChkP
import Derived.Test.YtppngeebdmbeaaaSumW
import Derived.Test.YtppngeebdmbeaaaProg
set_option maxRecDepth 100000
set_option maxHeartbeats 4000000
set_option linter.unusedSimpArgs false
set_option linter.unusedVariables false
namespace Go.Chk
open Go Go.SL Go.Proofs Go.Sum
attribute [local irreducible] Go.SL.Ent
theorem ag_87 : aggSize Try.prog 87 = some 2 := by kernel_rfl
theorem ag_95 : aggSize Try.prog 95 = some 6 := by kernel_rfl
theorem eo_22 : elemOk Try.prog 22 1 24 = true := by kernel_rfl
theorem eo_4 : elemOk Try.prog 4 1 1 = true := by kernel_rfl
theorem eo_5 : elemOk Try.prog 5 1 1 = true := by kernel_rfl
theorem fo_138_0 : fieldOff Try.prog 138 0 = some (0, 3) := by kernel_rfl
theorem fo_138_1 : fieldOff Try.prog 138 1 = some (1, 95) := by kernel_rfl
theorem fo_138_2 : fieldOff Try.prog 138 2 = some (7, 4) := by kernel_rfl
theorem fo_138_3 : fieldOff Try.prog 138 3 = some (8, 22) := by kernel_rfl
theorem fo_138_4 : fieldOff Try.prog 138 4 = some (9, 60) := by kernel_rfl
theorem fo_138_5 : fieldOff Try.prog 138 5 = some (10, 3) := by kernel_rfl
theorem fo_87_0 : fieldOff Try.prog 87 0 = some (0, 3) := by kernel_rfl
theorem fo_87_1 : fieldOff Try.prog 87 1 = some (1, 3) := by kernel_rfl
theorem fo_95_0 : fieldOff Try.prog 95 0 = some (0, 87) := by kernel_rfl
theorem fo_95_1 : fieldOff Try.prog 95 1 = some (2, 23) := by kernel_rfl
theorem fo_95_2 : fieldOff Try.prog 95 2 = some (3, 3) := by kernel_rfl
theorem fo_95_3 : fieldOff Try.prog 95 3 = some (4, 3) := by kernel_rfl
theorem fo_95_4 : fieldOff Try.prog 95 4 = some (5, 22) := by kernel_rfl
theorem pl_138 : placesOf Try.prog 138 = some [(0, 1), (1, 6), (7, 1), (8, 1), (9, 1), (10, 1)] := by kernel_rfl
theorem pl_87 : placesOf Try.prog 87 = some [(0, 1), (1, 1)] := by kernel_rfl
theorem sc_22 : isScalar Try.prog 22 = true := by kernel_rfl
theorem sc_23 : isScalar Try.prog 23 = true := by kernel_rfl
theorem sc_3 : isScalar Try.prog 3 = true := by kernel_rfl
theorem sc_4 : isScalar Try.prog 4 = true := by kernel_rfl
theorem sc_5 : isScalar Try.prog 5 = true := by kernel_rfl
theorem sc_60 : isScalar Try.prog 60 = true := by kernel_rfl
theorem sz_138 : sizeIs Try.prog 138 = some 11 := by kernel_rfl
theorem sz_22 : sizeIs Try.prog 22 = some 1 := by kernel_rfl
theorem sz_3 : sizeIs Try.prog 3 = some 1 := by kernel_rfl
theorem sz_4 : sizeIs Try.prog 4 = some 1 := by kernel_rfl
theorem sz_5 : sizeIs Try.prog 5 = some 1 := by kernel_rfl
theorem sz_60 : sizeIs Try.prog 60 = some 1 := by kernel_rfl
theorem sz_87 : sizeIs Try.prog 87 = some 2 := by kernel_rfl
theorem sz_95 : sizeIs Try.prog 95 = some 6 := by kernel_rfl
theorem zc_138 : zeroCs Try.prog 138 = some [.int .i64 0, .int .i64 0, .int .i64 0, .int .u32 0, .int .i64 0, .int .i64 0, .slice none 0 0, .bool false, .slice none 0 0, .slice none 0 0, .int .i64 0] := by kernel_rfl
theorem zc_4 : zeroCs Try.prog 4 = some [.bool false] := by kernel_rfl
theorem zc_5 : zeroCs Try.prog 5 = some [.int .u8 0] := by kernel_rfl
theorem zc_87 : zeroCs Try.prog 87 = some [.int .i64 0, .int .i64 0] := by kernel_rfl

theorem right_spec (m : Mark) (ρ : Hp) : Spec0 Try.prog 64 #[.agg (encMark m).toArray] ρ [] (fun v Γ' => v = .bool (rightB m) ∧ Γ' = []) := by
  refine spec_of (n := 21) (vs := [_]) (σ := [(0, _)]) Try.func64 rfl rfl rfl rfl fun E Δ => ?_
  rw [List.nil_append]
  refine c_seq ?_
  refine c_region ?_
  refine l_step (s_s rfl wn (s_box (cs := encMark m) rfl rfl) ?_)
  rintro _ _ ⟨b1, rfl, rfl⟩
  refine l_step (s_q rfl wn (q_assign rfl) ?_)
  refine l_nil ?_
  refine k_then_n ?_
  refine c_seq ?_
  refine c_region ?_
  refine l_step (s_q rfl wn (q_fieldp rfl fo_87_0) ?_)
  refine l_step (s_q rfl wn (q_loadp (v := .int .i64 m.Index) sc_3 rfl (by repeat (first | exact Pick.here | apply Pick.there)) rfl) ?_)
  refine l_step (s_q rfl wn (q_geq rfl rfl) ?_)
  refine l_step (s_q rfl wn (q_move rfl) ?_)
  refine l_step (s_qg rfl (ask_t rfl rfl) (b := (decide (1 ≤ m.Index))) (fun hb => q_fieldp rfl fo_87_1) ?_)
  refine l_step (s_qg rfl (ask_t rfl rfl) (b := (decide (1 ≤ m.Index))) (fun hb => OpQ.env (.cons rfl (gd_t hb) (.nil _) : EnvLe [(7, .pointer (some ⟨b1, 1, none⟩))] _) (q_loadp (v := .int .i64 m.Term) sc_3 rfl (by repeat (first | exact Pick.here | apply Pick.there)) rfl)) ?_)
  refine l_step (s_qg rfl (ask_t rfl rfl) (b := (decide (1 ≤ m.Index))) (fun hb => OpQ.env (.cons rfl (gd_t hb) (.nil _) : EnvLe [(8, .int .i64 m.Term)] _) (q_geq rfl rfl)) ?_)
  refine l_step (s_q rfl wn (q_pick_and rfl rfl rfl (fun h => h)) ?_)
  refine l_step (s_q rfl wn (q_move rfl) ?_)
  refine l_step (s_qg rfl (ask_t rfl rfl) (b := ((decide (1 ≤ m.Index)) && (decide (1 ≤ m.Term)))) (fun hb => q_fieldp rfl fo_87_0) ?_)
  refine l_step (s_qg rfl (ask_t rfl rfl) (b := ((decide (1 ≤ m.Index)) && (decide (1 ≤ m.Term)))) (fun hb => OpQ.env (.cons rfl (gd_t hb) (.nil _) : EnvLe [(12, .pointer (some ⟨b1, 0, none⟩))] _) (q_loadp (v := .int .i64 m.Index) sc_3 rfl (by repeat (first | exact Pick.here | apply Pick.there)) rfl)) ?_)
  refine l_step (s_qg rfl (ask_t rfl rfl) (b := ((decide (1 ≤ m.Index)) && (decide (1 ≤ m.Term)))) (fun hb => OpQ.env (.cons rfl (gd_t hb) (.nil _) : EnvLe [(13, .int .i64 m.Index)] _) (q_lss rfl rfl)) ?_)
  refine l_step (s_q rfl wn (q_pick_and rfl rfl rfl (fun h => h)) ?_)
  refine l_step (s_q rfl wn (q_move rfl) ?_)
  refine l_step (s_qg rfl (ask_t rfl rfl) (b := (((decide (1 ≤ m.Index)) && (decide (1 ≤ m.Term))) && (decide (m.Index < 10000000000)))) (fun hb => q_fieldp rfl fo_87_1) ?_)
  refine l_step (s_qg rfl (ask_t rfl rfl) (b := (((decide (1 ≤ m.Index)) && (decide (1 ≤ m.Term))) && (decide (m.Index < 10000000000)))) (fun hb => OpQ.env (.cons rfl (gd_t hb) (.nil _) : EnvLe [(17, .pointer (some ⟨b1, 1, none⟩))] _) (q_loadp (v := .int .i64 m.Term) sc_3 rfl (by repeat (first | exact Pick.here | apply Pick.there)) rfl)) ?_)
  refine l_step (s_qg rfl (ask_t rfl rfl) (b := (((decide (1 ≤ m.Index)) && (decide (1 ≤ m.Term))) && (decide (m.Index < 10000000000)))) (fun hb => OpQ.env (.cons rfl (gd_t hb) (.nil _) : EnvLe [(18, .int .i64 m.Term)] _) (q_lss rfl rfl)) ?_)
  refine l_step (s_q rfl wn (q_pick_and rfl rfl rfl (fun h => h)) ?_)
  refine l_step (s_q rfl wn (q_assign rfl) ?_)
  refine l_nil ?_
  refine k_then_n ?_
  refine c_ret ?_
  exact t_ret [] rfl (.tmp rfl .nil) rfl (Hp.le_refl _) ⟨rfl, rfl, rfl⟩ (by (repeat refine Ent.skip ?_); exact Ent.refl _)

theorem together_spec (a : Piece) (b : Piece) (ρ : Hp) : Spec0 Try.prog 76 #[.agg (encPiece a).toArray, .agg (encPiece b).toArray] ρ [] (fun v Γ' => v = .bool (togetherB a b) ∧ Γ' = []) := by
  refine spec_of (n := 24) (vs := [_, _]) (σ := [(0, _), (1, _)]) Try.func76 rfl rfl rfl rfl fun E Δ => ?_
  rw [List.nil_append]
  refine c_seq ?_
  refine c_region ?_
  refine l_step (s_s rfl wn (s_box (cs := encPiece a) rfl rfl) ?_)
  rintro _ _ ⟨b2, rfl, rfl⟩
  refine l_step (s_s rfl wn (s_box (cs := encPiece b) rfl rfl) ?_)
  rintro _ _ ⟨b3, rfl, rfl⟩
  refine l_step (s_q rfl wn (q_assign rfl) ?_)
  refine l_nil ?_
  refine k_then_n ?_
  refine c_seq ?_
  refine c_region ?_
  refine l_step (s_q rfl wn (q_fieldp rfl fo_95_0) ?_)
  refine l_step (s_q rfl wn (q_loadpa (vs := encMark a.Mark) ag_87 rfl (by repeat (first | exact Pick.here | apply Pick.there)) rfl) ?_)
  refine l_step (s_q rfl wn (q_fieldp rfl fo_95_0) ?_)
  refine l_step (s_q rfl wn (q_loadpa (vs := encMark b.Mark) ag_87 rfl (by repeat (first | exact Pick.here | apply Pick.there)) rfl) ?_)
  refine l_step (s_q rfl wn (q_eqlst (offs := [0, 1]) (la := [a.Mark.Index, a.Mark.Term]) (lb := [b.Mark.Index, b.Mark.Term]) (by kernel_rfl) rfl rfl (by intro o ho; simp only [List.mem_cons, List.not_mem_nil, or_false] at ho; rcases ho with rfl | rfl <;> exact ⟨_, _, _, rfl, rfl⟩) rfl rfl) ?_)
  refine l_step (s_q rfl wn (q_move rfl) ?_)
  refine l_step (s_qg rfl (ask_t rfl rfl) (b := (decide ([a.Mark.Index, a.Mark.Term] = [b.Mark.Index, b.Mark.Term]))) (fun hb => q_fieldp rfl fo_95_1) ?_)
  refine l_step (s_qg rfl (ask_t rfl rfl) (b := (decide ([a.Mark.Index, a.Mark.Term] = [b.Mark.Index, b.Mark.Term]))) (fun hb => OpQ.env (.cons rfl (gd_t hb) (.nil _) : EnvLe [(11, .pointer (some ⟨b2, 2, none⟩))] _) (q_loadp (v := .int .u32 (a.Sum.toNat : Int)) sc_23 rfl (by repeat (first | exact Pick.here | apply Pick.there)) rfl)) ?_)
  refine l_step (s_qg rfl (ask_t rfl rfl) (b := (decide ([a.Mark.Index, a.Mark.Term] = [b.Mark.Index, b.Mark.Term]))) (fun hb => q_fieldp rfl fo_95_1) ?_)
  refine l_step (s_qg rfl (ask_t rfl rfl) (b := (decide ([a.Mark.Index, a.Mark.Term] = [b.Mark.Index, b.Mark.Term]))) (fun hb => OpQ.env (.cons rfl (gd_t hb) (.nil _) : EnvLe [(13, .pointer (some ⟨b3, 2, none⟩))] _) (q_loadp (v := .int .u32 (b.Sum.toNat : Int)) sc_23 rfl (by repeat (first | exact Pick.here | apply Pick.there)) rfl)) ?_)
  refine l_step (s_qg rfl (ask_t rfl rfl) (b := (decide ([a.Mark.Index, a.Mark.Term] = [b.Mark.Index, b.Mark.Term]))) (fun hb => OpQ.env (.cons rfl (gd_t hb) (.cons rfl (gd_t hb) (.nil _)) : EnvLe [(12, .int .u32 (a.Sum.toNat : Int)), (14, .int .u32 (b.Sum.toNat : Int))] _) (q_eql rfl rfl)) ?_)
  refine l_step (s_q rfl wn (q_pick_and rfl rfl rfl (fun h => h)) ?_)
  refine l_step (s_q rfl wn (q_move rfl) ?_)
  refine l_step (s_qg rfl (ask_t rfl rfl) (b := ((decide ([a.Mark.Index, a.Mark.Term] = [b.Mark.Index, b.Mark.Term])) && (decide ((a.Sum.toNat : Int) = (b.Sum.toNat : Int))))) (fun hb => q_fieldp rfl fo_95_2) ?_)
  refine l_step (s_qg rfl (ask_t rfl rfl) (b := ((decide ([a.Mark.Index, a.Mark.Term] = [b.Mark.Index, b.Mark.Term])) && (decide ((a.Sum.toNat : Int) = (b.Sum.toNat : Int))))) (fun hb => OpQ.env (.cons rfl (gd_t hb) (.nil _) : EnvLe [(18, .pointer (some ⟨b2, 3, none⟩))] _) (q_loadp (v := .int .i64 a.Total) sc_3 rfl (by repeat (first | exact Pick.here | apply Pick.there)) rfl)) ?_)
  refine l_step (s_qg rfl (ask_t rfl rfl) (b := ((decide ([a.Mark.Index, a.Mark.Term] = [b.Mark.Index, b.Mark.Term])) && (decide ((a.Sum.toNat : Int) = (b.Sum.toNat : Int))))) (fun hb => q_fieldp rfl fo_95_2) ?_)
  refine l_step (s_qg rfl (ask_t rfl rfl) (b := ((decide ([a.Mark.Index, a.Mark.Term] = [b.Mark.Index, b.Mark.Term])) && (decide ((a.Sum.toNat : Int) = (b.Sum.toNat : Int))))) (fun hb => OpQ.env (.cons rfl (gd_t hb) (.nil _) : EnvLe [(20, .pointer (some ⟨b3, 3, none⟩))] _) (q_loadp (v := .int .i64 b.Total) sc_3 rfl (by repeat (first | exact Pick.here | apply Pick.there)) rfl)) ?_)
  refine l_step (s_qg rfl (ask_t rfl rfl) (b := ((decide ([a.Mark.Index, a.Mark.Term] = [b.Mark.Index, b.Mark.Term])) && (decide ((a.Sum.toNat : Int) = (b.Sum.toNat : Int))))) (fun hb => OpQ.env (.cons rfl (gd_t hb) (.cons rfl (gd_t hb) (.nil _)) : EnvLe [(19, .int .i64 a.Total), (21, .int .i64 b.Total)] _) (q_eql rfl rfl)) ?_)
  refine l_step (s_q rfl wn (q_pick_and rfl rfl rfl (fun h => h)) ?_)
  refine l_step (s_q rfl wn (q_assign rfl) ?_)
  refine l_nil ?_
  refine k_then_n ?_
  refine c_ret ?_
  exact t_ret [] rfl (.tmp rfl .nil) rfl (Hp.le_refl _) ⟨rfl, rfl, rfl⟩ (by (repeat refine Ent.skip ?_); exact Ent.refl _)

theorem fits_spec (h : Nat) (hd : Heap) (p : Piece) (ρ : Hp) (hm : hd.most ≤ 9223372036854775807) : Spec0 Try.prog 75 #[.pointer (some ⟨h, 0, none⟩), .agg (encPiece p).toArray] ρ [.pts h (encHeap hd) 138] (fun v Γ' => v = .bool (fitsB hd.most p) ∧ Γ' = [.pts h (encHeap hd) 138]) := by
  refine spec_of (n := 55) (vs := [_, _]) (σ := [(0, _), (1, _)]) Try.func75 rfl rfl rfl rfl fun E Δ => ?_
  simp only [List.cons_append, List.nil_append]
  refine c_seq ?_
  refine c_region ?_
  refine l_step (s_s rfl wn (s_box (cs := encPiece p) rfl rfl) ?_)
  rintro _ _ ⟨b3, rfl, rfl⟩
  refine l_step (s_q rfl wn (q_assign rfl) ?_)
  refine l_nil ?_
  refine k_then_n ?_
  refine c_seq ?_
  refine c_block ?_
  refine c_seq ?_
  refine c_draw (m := 42) (bs := #[false, false, false, false, false, false, false, false, false, false, false, false, false, false, false, false, false, false, false, false, false, false, false, false, false, false, false, false, false, false, false, false, false, false, false, false, false, false, false, false, false, false]) [.pts b3 (encPiece p) 95, .pts h (encHeap hd) 138] (by kernel_rfl) rfl (by kernel_rfl) ?_
  refine r_take (i := 0) (bs' := #[true, false, false, false, false, false, false, false, false, false, false, false, false, false, false, false, false, false, false, false, false, false, false, false, false, false, false, false, false, false, false, false, false, false, false, false, false, false, false, false, false, false]) rfl (by kernel_rfl) (by kernel_rfl) (by kernel_rfl) (fun _ _ _ h => h) rfl wn (q_fieldp rfl fo_95_0) (Hp.le_refl _) (by repeat (first | exact Ent.nil _ | exact Ent.refl _ | (refine Ent.pick (by repeat (first | exact Pick.here | apply Pick.there)) ?_) | refine Ent.skip ?_)) (by kernel_rfl) ?_
  refine r_take (i := 1) (bs' := #[true, true, false, false, false, false, false, false, false, false, false, false, false, false, false, false, false, false, false, false, false, false, false, false, false, false, false, false, false, false, false, false, false, false, false, false, false, false, false, false, false, false]) rfl (by kernel_rfl) (by kernel_rfl) (by kernel_rfl) (fun _ _ _ h => h) rfl wn (q_loadpa (vs := encMark p.Mark) ag_87 rfl (by repeat (first | exact Pick.here | apply Pick.there)) rfl) (Hp.le_refl _) (by repeat (first | exact Ent.nil _ | exact Ent.refl _ | (refine Ent.pick (by repeat (first | exact Pick.here | apply Pick.there)) ?_) | refine Ent.skip ?_)) (by kernel_rfl) ?_
  refine r_one (i := 2) (bs' := #[true, true, true, false, false, false, false, false, false, false, false, false, false, false, false, false, false, false, false, false, false, false, false, false, false, false, false, false, false, false, false, false, false, false, false, false, false, false, false, false, false, false]) (by kernel_rfl) (by kernel_rfl) ?_
  refine o_step rfl (s_fnq rfl wn Try.func64 rfl (by kernel_rfl) rfl (fun ρ' hL => right_spec p.Mark ρ') ?_)
  refine r_cont (Hp.le_refl _) (by repeat (first | exact Ent.nil _ | exact Ent.refl _ | (refine Ent.pick (by repeat (first | exact Pick.here | apply Pick.there)) ?_) | refine Ent.skip ?_)) ?_
  refine r_take (i := 3) (bs' := #[true, true, true, true, false, false, false, false, false, false, false, false, false, false, false, false, false, false, false, false, false, false, false, false, false, false, false, false, false, false, false, false, false, false, false, false, false, false, false, false, false, false]) rfl (by kernel_rfl) (by kernel_rfl) (by kernel_rfl) (fun _ _ _ h => h) rfl wn (q_not rfl) (Hp.le_refl _) (by repeat (first | exact Ent.nil _ | exact Ent.refl _ | (refine Ent.pick (by repeat (first | exact Pick.here | apply Pick.there)) ?_) | refine Ent.skip ?_)) (by kernel_rfl) ?_
  refine r_take (i := 4) (bs' := #[true, true, true, true, true, false, false, false, false, false, false, false, false, false, false, false, false, false, false, false, false, false, false, false, false, false, false, false, false, false, false, false, false, false, false, false, false, false, false, false, false, false]) rfl (by kernel_rfl) (by kernel_rfl) (by kernel_rfl) (fun _ _ _ h => h) rfl wn (q_move rfl) (Hp.le_refl _) (by repeat (first | exact Ent.nil _ | exact Ent.refl _ | (refine Ent.pick (by repeat (first | exact Pick.here | apply Pick.there)) ?_) | refine Ent.skip ?_)) (by kernel_rfl) ?_
  refine r_takeg (i := 5) (b := (!(!(rightB p.Mark)))) (bs' := #[true, true, true, true, true, true, false, false, false, false, false, false, false, false, false, false, false, false, false, false, false, false, false, false, false, false, false, false, false, false, false, false, false, false, false, false, false, false, false, false, false, false]) rfl (by kernel_rfl) (by kernel_rfl) (by kernel_rfl) (fun _ _ _ h => h) rfl (ask_f rfl rfl) (fun hb => q_fieldp rfl fo_95_2) (Hp.le_refl _) (by repeat (first | exact Ent.nil _ | exact Ent.refl _ | (refine Ent.pick (by repeat (first | exact Pick.here | apply Pick.there)) ?_) | refine Ent.skip ?_)) (by kernel_rfl) ?_
  refine r_takeg (i := 6) (b := (!(!(rightB p.Mark)))) (bs' := #[true, true, true, true, true, true, true, false, false, false, false, false, false, false, false, false, false, false, false, false, false, false, false, false, false, false, false, false, false, false, false, false, false, false, false, false, false, false, false, false, false, false]) rfl (by kernel_rfl) (by kernel_rfl) (by kernel_rfl) (fun _ _ _ h => h) rfl (ask_f rfl rfl) (fun hb => OpQ.env (.cons rfl (gd_t hb) (.nil _) : EnvLe [(11, .pointer (some ⟨b3, 3, none⟩))] _) (q_loadp (v := .int .i64 p.Total) sc_3 rfl (by repeat (first | exact Pick.here | apply Pick.there)) rfl)) (Hp.le_refl _) (by repeat (first | exact Ent.nil _ | exact Ent.refl _ | (refine Ent.pick (by repeat (first | exact Pick.here | apply Pick.there)) ?_) | refine Ent.skip ?_)) (by kernel_rfl) ?_
  refine r_takeg (i := 7) (b := (!(!(rightB p.Mark)))) (bs' := #[true, true, true, true, true, true, true, true, false, false, false, false, false, false, false, false, false, false, false, false, false, false, false, false, false, false, false, false, false, false, false, false, false, false, false, false, false, false, false, false, false, false]) rfl (by kernel_rfl) (by kernel_rfl) (by kernel_rfl) (fun _ _ _ h => h) rfl (ask_f rfl rfl) (fun hb => OpQ.env (.cons rfl (gd_t hb) (.nil _) : EnvLe [(12, .int .i64 p.Total)] _) (q_lss rfl rfl)) (Hp.le_refl _) (by repeat (first | exact Ent.nil _ | exact Ent.refl _ | (refine Ent.pick (by repeat (first | exact Pick.here | apply Pick.there)) ?_) | refine Ent.skip ?_)) (by kernel_rfl) ?_
  refine r_take (i := 8) (bs' := #[true, true, true, true, true, true, true, true, true, false, false, false, false, false, false, false, false, false, false, false, false, false, false, false, false, false, false, false, false, false, false, false, false, false, false, false, false, false, false, false, false, false]) rfl (by kernel_rfl) (by kernel_rfl) (by kernel_rfl) (fun _ _ _ h => h) rfl wn (q_pick_or rfl rfl rfl (fun h => by first | (rw [h]; rfl) | exact congrArg not h)) (Hp.le_refl _) (by repeat (first | exact Ent.nil _ | exact Ent.refl _ | (refine Ent.pick (by repeat (first | exact Pick.here | apply Pick.there)) ?_) | refine Ent.skip ?_)) (by kernel_rfl) ?_
  refine r_take (i := 9) (bs' := #[true, true, true, true, true, true, true, true, true, true, false, false, false, false, false, false, false, false, false, false, false, false, false, false, false, false, false, false, false, false, false, false, false, false, false, false, false, false, false, false, false, false]) rfl (by kernel_rfl) (by kernel_rfl) (by kernel_rfl) (fun _ _ _ h => h) rfl wn (q_move rfl) (Hp.le_refl _) (by repeat (first | exact Ent.nil _ | exact Ent.refl _ | (refine Ent.pick (by repeat (first | exact Pick.here | apply Pick.there)) ?_) | refine Ent.skip ?_)) (by kernel_rfl) ?_
  refine r_takeg (i := 10) (b := (!((!(rightB p.Mark)) || (decide (p.Total < 0))))) (bs' := #[true, true, true, true, true, true, true, true, true, true, true, false, false, false, false, false, false, false, false, false, false, false, false, false, false, false, false, false, false, false, false, false, false, false, false, false, false, false, false, false, false, false]) rfl (by kernel_rfl) (by kernel_rfl) (by kernel_rfl) (fun _ _ _ h => h) rfl (ask_f rfl rfl) (fun hb => q_fieldp rfl fo_95_2) (Hp.le_refl _) (by repeat (first | exact Ent.nil _ | exact Ent.refl _ | (refine Ent.pick (by repeat (first | exact Pick.here | apply Pick.there)) ?_) | refine Ent.skip ?_)) (by kernel_rfl) ?_
  refine r_takeg (i := 11) (b := (!((!(rightB p.Mark)) || (decide (p.Total < 0))))) (bs' := #[true, true, true, true, true, true, true, true, true, true, true, true, false, false, false, false, false, false, false, false, false, false, false, false, false, false, false, false, false, false, false, false, false, false, false, false, false, false, false, false, false, false]) rfl (by kernel_rfl) (by kernel_rfl) (by kernel_rfl) (fun _ _ _ h => h) rfl (ask_f rfl rfl) (fun hb => OpQ.env (.cons rfl (gd_t hb) (.nil _) : EnvLe [(16, .pointer (some ⟨b3, 3, none⟩))] _) (q_loadp (v := .int .i64 p.Total) sc_3 rfl (by repeat (first | exact Pick.here | apply Pick.there)) rfl)) (Hp.le_refl _) (by repeat (first | exact Ent.nil _ | exact Ent.refl _ | (refine Ent.pick (by repeat (first | exact Pick.here | apply Pick.there)) ?_) | refine Ent.skip ?_)) (by kernel_rfl) ?_
  refine r_takeg (i := 12) (b := (!((!(rightB p.Mark)) || (decide (p.Total < 0))))) (bs' := #[true, true, true, true, true, true, true, true, true, true, true, true, true, false, false, false, false, false, false, false, false, false, false, false, false, false, false, false, false, false, false, false, false, false, false, false, false, false, false, false, false, false]) rfl (by kernel_rfl) (by kernel_rfl) (by kernel_rfl) (fun _ _ _ h => h) rfl (ask_f rfl rfl) (fun hb => q_move rfl) (Hp.le_refl _) (by repeat (first | exact Ent.nil _ | exact Ent.refl _ | (refine Ent.pick (by repeat (first | exact Pick.here | apply Pick.there)) ?_) | refine Ent.skip ?_)) (by kernel_rfl) ?_
  refine r_takeg (i := 13) (b := (!((!(rightB p.Mark)) || (decide (p.Total < 0))))) (bs' := #[true, true, true, true, true, true, true, true, true, true, true, true, true, true, false, false, false, false, false, false, false, false, false, false, false, false, false, false, false, false, false, false, false, false, false, false, false, false, false, false, false, false]) rfl (by kernel_rfl) (by kernel_rfl) (by kernel_rfl) (fun _ _ _ h => h) rfl (ask_f rfl rfl) (fun hb => OpQ.env (.cons rfl (gd_t hb) (.nil _) : EnvLe [(18, .pointer (some ⟨h, 0, none⟩))] _) (q_nilCheck rfl)) (Hp.le_refl _) (by repeat (first | exact Ent.nil _ | exact Ent.refl _ | (refine Ent.pick (by repeat (first | exact Pick.here | apply Pick.there)) ?_) | refine Ent.skip ?_)) (by kernel_rfl) ?_
  refine r_takeg (i := 14) (b := (!((!(rightB p.Mark)) || (decide (p.Total < 0))))) (bs' := #[true, true, true, true, true, true, true, true, true, true, true, true, true, true, true, false, false, false, false, false, false, false, false, false, false, false, false, false, false, false, false, false, false, false, false, false, false, false, false, false, false, false]) rfl (by kernel_rfl) (by kernel_rfl) (by kernel_rfl) (fun _ _ _ h => h) rfl (ask_f rfl rfl) (fun hb => OpQ.env (.cons rfl (gd_t hb) (.nil _) : EnvLe [(19, .pointer (some ⟨h, 0, none⟩))] _) (q_fieldp rfl fo_138_0)) (Hp.le_refl _) (by repeat (first | exact Ent.nil _ | exact Ent.refl _ | (refine Ent.pick (by repeat (first | exact Pick.here | apply Pick.there)) ?_) | refine Ent.skip ?_)) (by kernel_rfl) ?_
  refine r_takeg (i := 15) (b := (!((!(rightB p.Mark)) || (decide (p.Total < 0))))) (bs' := #[true, true, true, true, true, true, true, true, true, true, true, true, true, true, true, true, false, false, false, false, false, false, false, false, false, false, false, false, false, false, false, false, false, false, false, false, false, false, false, false, false, false]) rfl (by kernel_rfl) (by kernel_rfl) (by kernel_rfl) (fun _ _ _ h => h) rfl (ask_f rfl rfl) (fun hb => OpQ.env (.cons rfl (gd_t hb) (.nil _) : EnvLe [(20, .pointer (some ⟨h, 0, none⟩))] _) (q_loadp (v := .int .i64 hd.most) sc_3 rfl (by repeat (first | exact Pick.here | apply Pick.there)) rfl)) (Hp.le_refl _) (by repeat (first | exact Ent.nil _ | exact Ent.refl _ | (refine Ent.pick (by repeat (first | exact Pick.here | apply Pick.there)) ?_) | refine Ent.skip ?_)) (by kernel_rfl) ?_
  refine r_takeg (i := 16) (b := (!((!(rightB p.Mark)) || (decide (p.Total < 0))))) (bs' := #[true, true, true, true, true, true, true, true, true, true, true, true, true, true, true, true, true, false, false, false, false, false, false, false, false, false, false, false, false, false, false, false, false, false, false, false, false, false, false, false, false, false]) rfl (by kernel_rfl) (by kernel_rfl) (by kernel_rfl) (fun _ _ _ h => h) rfl (ask_f rfl rfl) (fun hb => OpQ.env (.cons rfl (gd_t hb) (.cons rfl (gd_t hb) (.nil _)) : EnvLe [(17, .int .i64 p.Total), (21, .int .i64 hd.most)] _) (q_gtr rfl rfl)) (Hp.le_refl _) (by repeat (first | exact Ent.nil _ | exact Ent.refl _ | (refine Ent.pick (by repeat (first | exact Pick.here | apply Pick.there)) ?_) | refine Ent.skip ?_)) (by kernel_rfl) ?_
  refine r_take (i := 17) (bs' := #[true, true, true, true, true, true, true, true, true, true, true, true, true, true, true, true, true, true, false, false, false, false, false, false, false, false, false, false, false, false, false, false, false, false, false, false, false, false, false, false, false, false]) rfl (by kernel_rfl) (by kernel_rfl) (by kernel_rfl) (fun _ _ _ h => h) rfl wn (q_pick_or rfl rfl rfl (fun h => by first | (rw [h]; rfl) | exact congrArg not h)) (Hp.le_refl _) (by repeat (first | exact Ent.nil _ | exact Ent.refl _ | (refine Ent.pick (by repeat (first | exact Pick.here | apply Pick.there)) ?_) | refine Ent.skip ?_)) (by kernel_rfl) ?_
  refine r_take (i := 18) (bs' := #[true, true, true, true, true, true, true, true, true, true, true, true, true, true, true, true, true, true, true, false, false, false, false, false, false, false, false, false, false, false, false, false, false, false, false, false, false, false, false, false, false, false]) rfl (by kernel_rfl) (by kernel_rfl) (by kernel_rfl) (fun _ _ _ h => h) rfl wn (q_move rfl) (Hp.le_refl _) (by repeat (first | exact Ent.nil _ | exact Ent.refl _ | (refine Ent.pick (by repeat (first | exact Pick.here | apply Pick.there)) ?_) | refine Ent.skip ?_)) (by kernel_rfl) ?_
  refine r_takeg (i := 19) (b := (!(((!(rightB p.Mark)) || (decide (p.Total < 0))) || (decide (hd.most < p.Total))))) (bs' := #[true, true, true, true, true, true, true, true, true, true, true, true, true, true, true, true, true, true, true, true, false, false, false, false, false, false, false, false, false, false, false, false, false, false, false, false, false, false, false, false, false, false]) rfl (by kernel_rfl) (by kernel_rfl) (by kernel_rfl) (fun _ _ _ h => h) rfl (ask_f rfl rfl) (fun hb => q_fieldp rfl fo_95_3) (Hp.le_refl _) (by repeat (first | exact Ent.nil _ | exact Ent.refl _ | (refine Ent.pick (by repeat (first | exact Pick.here | apply Pick.there)) ?_) | refine Ent.skip ?_)) (by kernel_rfl) ?_
  refine r_takeg (i := 20) (b := (!(((!(rightB p.Mark)) || (decide (p.Total < 0))) || (decide (hd.most < p.Total))))) (bs' := #[true, true, true, true, true, true, true, true, true, true, true, true, true, true, true, true, true, true, true, true, true, false, false, false, false, false, false, false, false, false, false, false, false, false, false, false, false, false, false, false, false, false]) rfl (by kernel_rfl) (by kernel_rfl) (by kernel_rfl) (fun _ _ _ h => h) rfl (ask_f rfl rfl) (fun hb => OpQ.env (.cons rfl (gd_t hb) (.nil _) : EnvLe [(25, .pointer (some ⟨b3, 4, none⟩))] _) (q_loadp (v := .int .i64 p.At) sc_3 rfl (by repeat (first | exact Pick.here | apply Pick.there)) rfl)) (Hp.le_refl _) (by repeat (first | exact Ent.nil _ | exact Ent.refl _ | (refine Ent.pick (by repeat (first | exact Pick.here | apply Pick.there)) ?_) | refine Ent.skip ?_)) (by kernel_rfl) ?_
  refine r_takeg (i := 21) (b := (!(((!(rightB p.Mark)) || (decide (p.Total < 0))) || (decide (hd.most < p.Total))))) (bs' := #[true, true, true, true, true, true, true, true, true, true, true, true, true, true, true, true, true, true, true, true, true, true, false, false, false, false, false, false, false, false, false, false, false, false, false, false, false, false, false, false, false, false]) rfl (by kernel_rfl) (by kernel_rfl) (by kernel_rfl) (fun _ _ _ h => h) rfl (ask_f rfl rfl) (fun hb => OpQ.env (.cons rfl (gd_t hb) (.nil _) : EnvLe [(26, .int .i64 p.At)] _) (q_lss rfl rfl)) (Hp.le_refl _) (by repeat (first | exact Ent.nil _ | exact Ent.refl _ | (refine Ent.pick (by repeat (first | exact Pick.here | apply Pick.there)) ?_) | refine Ent.skip ?_)) (by kernel_rfl) ?_
  refine r_take (i := 22) (bs' := #[true, true, true, true, true, true, true, true, true, true, true, true, true, true, true, true, true, true, true, true, true, true, true, false, false, false, false, false, false, false, false, false, false, false, false, false, false, false, false, false, false, false]) rfl (by kernel_rfl) (by kernel_rfl) (by kernel_rfl) (fun _ _ _ h => h) rfl wn (q_pick_or rfl rfl rfl (fun h => by first | (rw [h]; rfl) | exact congrArg not h)) (Hp.le_refl _) (by repeat (first | exact Ent.nil _ | exact Ent.refl _ | (refine Ent.pick (by repeat (first | exact Pick.here | apply Pick.there)) ?_) | refine Ent.skip ?_)) (by kernel_rfl) ?_
  refine r_take (i := 23) (bs' := #[true, true, true, true, true, true, true, true, true, true, true, true, true, true, true, true, true, true, true, true, true, true, true, true, false, false, false, false, false, false, false, false, false, false, false, false, false, false, false, false, false, false]) rfl (by kernel_rfl) (by kernel_rfl) (by kernel_rfl) (fun _ _ _ h => h) rfl wn (q_move rfl) (Hp.le_refl _) (by repeat (first | exact Ent.nil _ | exact Ent.refl _ | (refine Ent.pick (by repeat (first | exact Pick.here | apply Pick.there)) ?_) | refine Ent.skip ?_)) (by kernel_rfl) ?_
  refine r_takeg (i := 24) (b := (!((((!(rightB p.Mark)) || (decide (p.Total < 0))) || (decide (hd.most < p.Total))) || (decide (p.At < 0))))) (bs' := #[true, true, true, true, true, true, true, true, true, true, true, true, true, true, true, true, true, true, true, true, true, true, true, true, true, false, false, false, false, false, false, false, false, false, false, false, false, false, false, false, false, false]) rfl (by kernel_rfl) (by kernel_rfl) (by kernel_rfl) (fun _ _ _ h => h) rfl (ask_f rfl rfl) (fun hb => q_fieldp rfl fo_95_3) (Hp.le_refl _) (by repeat (first | exact Ent.nil _ | exact Ent.refl _ | (refine Ent.pick (by repeat (first | exact Pick.here | apply Pick.there)) ?_) | refine Ent.skip ?_)) (by kernel_rfl) ?_
  refine r_takeg (i := 25) (b := (!((((!(rightB p.Mark)) || (decide (p.Total < 0))) || (decide (hd.most < p.Total))) || (decide (p.At < 0))))) (bs' := #[true, true, true, true, true, true, true, true, true, true, true, true, true, true, true, true, true, true, true, true, true, true, true, true, true, true, false, false, false, false, false, false, false, false, false, false, false, false, false, false, false, false]) rfl (by kernel_rfl) (by kernel_rfl) (by kernel_rfl) (fun _ _ _ h => h) rfl (ask_f rfl rfl) (fun hb => OpQ.env (.cons rfl (gd_t hb) (.nil _) : EnvLe [(30, .pointer (some ⟨b3, 4, none⟩))] _) (q_loadp (v := .int .i64 p.At) sc_3 rfl (by repeat (first | exact Pick.here | apply Pick.there)) rfl)) (Hp.le_refl _) (by repeat (first | exact Ent.nil _ | exact Ent.refl _ | (refine Ent.pick (by repeat (first | exact Pick.here | apply Pick.there)) ?_) | refine Ent.skip ?_)) (by kernel_rfl) ?_
  refine r_takeg (i := 26) (b := (!((((!(rightB p.Mark)) || (decide (p.Total < 0))) || (decide (hd.most < p.Total))) || (decide (p.At < 0))))) (bs' := #[true, true, true, true, true, true, true, true, true, true, true, true, true, true, true, true, true, true, true, true, true, true, true, true, true, true, true, false, false, false, false, false, false, false, false, false, false, false, false, false, false, false]) rfl (by kernel_rfl) (by kernel_rfl) (by kernel_rfl) (fun _ _ _ h => h) rfl (ask_f rfl rfl) (fun hb => q_fieldp rfl fo_95_2) (Hp.le_refl _) (by repeat (first | exact Ent.nil _ | exact Ent.refl _ | (refine Ent.pick (by repeat (first | exact Pick.here | apply Pick.there)) ?_) | refine Ent.skip ?_)) (by kernel_rfl) ?_
  refine r_takeg (i := 27) (b := (!((((!(rightB p.Mark)) || (decide (p.Total < 0))) || (decide (hd.most < p.Total))) || (decide (p.At < 0))))) (bs' := #[true, true, true, true, true, true, true, true, true, true, true, true, true, true, true, true, true, true, true, true, true, true, true, true, true, true, true, true, false, false, false, false, false, false, false, false, false, false, false, false, false, false]) rfl (by kernel_rfl) (by kernel_rfl) (by kernel_rfl) (fun _ _ _ h => h) rfl (ask_f rfl rfl) (fun hb => OpQ.env (.cons rfl (gd_t hb) (.nil _) : EnvLe [(32, .pointer (some ⟨b3, 3, none⟩))] _) (q_loadp (v := .int .i64 p.Total) sc_3 rfl (by repeat (first | exact Pick.here | apply Pick.there)) rfl)) (Hp.le_refl _) (by repeat (first | exact Ent.nil _ | exact Ent.refl _ | (refine Ent.pick (by repeat (first | exact Pick.here | apply Pick.there)) ?_) | refine Ent.skip ?_)) (by kernel_rfl) ?_
  refine r_takeg (i := 28) (b := (!((((!(rightB p.Mark)) || (decide (p.Total < 0))) || (decide (hd.most < p.Total))) || (decide (p.At < 0))))) (bs' := #[true, true, true, true, true, true, true, true, true, true, true, true, true, true, true, true, true, true, true, true, true, true, true, true, true, true, true, true, true, false, false, false, false, false, false, false, false, false, false, false, false, false]) rfl (by kernel_rfl) (by kernel_rfl) (by kernel_rfl) (fun _ _ _ h => h) rfl (ask_f rfl rfl) (fun hb => OpQ.env (.cons rfl (gd_t hb) (.cons rfl (gd_t hb) (.nil _)) : EnvLe [(31, .int .i64 p.At), (33, .int .i64 p.Total)] _) (q_gtr rfl rfl)) (Hp.le_refl _) (by repeat (first | exact Ent.nil _ | exact Ent.refl _ | (refine Ent.pick (by repeat (first | exact Pick.here | apply Pick.there)) ?_) | refine Ent.skip ?_)) (by kernel_rfl) ?_
  refine r_take (i := 29) (bs' := #[true, true, true, true, true, true, true, true, true, true, true, true, true, true, true, true, true, true, true, true, true, true, true, true, true, true, true, true, true, true, false, false, false, false, false, false, false, false, false, false, false, false]) rfl (by kernel_rfl) (by kernel_rfl) (by kernel_rfl) (fun _ _ _ h => h) rfl wn (q_pick_or rfl rfl rfl (fun h => by first | (rw [h]; rfl) | exact congrArg not h)) (Hp.le_refl _) (by repeat (first | exact Ent.nil _ | exact Ent.refl _ | (refine Ent.pick (by repeat (first | exact Pick.here | apply Pick.there)) ?_) | refine Ent.skip ?_)) (by kernel_rfl) ?_
  refine r_take (i := 30) (bs' := #[true, true, true, true, true, true, true, true, true, true, true, true, true, true, true, true, true, true, true, true, true, true, true, true, true, true, true, true, true, true, true, false, false, false, false, false, false, false, false, false, false, false]) rfl (by kernel_rfl) (by kernel_rfl) (by kernel_rfl) (fun _ _ _ h => h) rfl wn (q_move rfl) (Hp.le_refl _) (by repeat (first | exact Ent.nil _ | exact Ent.refl _ | (refine Ent.pick (by repeat (first | exact Pick.here | apply Pick.there)) ?_) | refine Ent.skip ?_)) (by kernel_rfl) ?_
  refine r_takeg (i := 31) (b := (!(((((!(rightB p.Mark)) || (decide (p.Total < 0))) || (decide (hd.most < p.Total))) || (decide (p.At < 0))) || (decide (p.Total < p.At))))) (bs' := #[true, true, true, true, true, true, true, true, true, true, true, true, true, true, true, true, true, true, true, true, true, true, true, true, true, true, true, true, true, true, true, true, false, false, false, false, false, false, false, false, false, false]) rfl (by kernel_rfl) (by kernel_rfl) (by kernel_rfl) (fun _ _ _ h => h) rfl (ask_f rfl rfl) (fun hb => q_fieldp rfl fo_95_4) (Hp.le_refl _) (by repeat (first | exact Ent.nil _ | exact Ent.refl _ | (refine Ent.pick (by repeat (first | exact Pick.here | apply Pick.there)) ?_) | refine Ent.skip ?_)) (by kernel_rfl) ?_
  refine r_takeg (i := 32) (b := (!(((((!(rightB p.Mark)) || (decide (p.Total < 0))) || (decide (hd.most < p.Total))) || (decide (p.At < 0))) || (decide (p.Total < p.At))))) (bs' := #[true, true, true, true, true, true, true, true, true, true, true, true, true, true, true, true, true, true, true, true, true, true, true, true, true, true, true, true, true, true, true, true, true, false, false, false, false, false, false, false, false, false]) rfl (by kernel_rfl) (by kernel_rfl) (by kernel_rfl) (fun _ _ _ h => h) rfl (ask_f rfl rfl) (fun hb => OpQ.env (.cons rfl (gd_t hb) (.nil _) : EnvLe [(37, .pointer (some ⟨b3, 5, none⟩))] _) (q_loadp (v := .slice p.B.a p.B.xs.length p.B.cap) sc_22 rfl (by repeat (first | exact Pick.here | apply Pick.there)) rfl)) (Hp.le_refl _) (by repeat (first | exact Ent.nil _ | exact Ent.refl _ | (refine Ent.pick (by repeat (first | exact Pick.here | apply Pick.there)) ?_) | refine Ent.skip ?_)) (by kernel_rfl) ?_
  refine r_takeg (i := 33) (b := (!(((((!(rightB p.Mark)) || (decide (p.Total < 0))) || (decide (hd.most < p.Total))) || (decide (p.At < 0))) || (decide (p.Total < p.At))))) (bs' := #[true, true, true, true, true, true, true, true, true, true, true, true, true, true, true, true, true, true, true, true, true, true, true, true, true, true, true, true, true, true, true, true, true, true, false, false, false, false, false, false, false, false]) rfl (by kernel_rfl) (by kernel_rfl) (by kernel_rfl) (fun _ _ _ h => h) rfl (ask_f rfl rfl) (fun hb => OpQ.env (.cons rfl (gd_t hb) (.nil _) : EnvLe [(38, .slice p.B.a p.B.xs.length p.B.cap)] _) (q_len Try.underlying22 rfl)) (Hp.le_refl _) (by repeat (first | exact Ent.nil _ | exact Ent.refl _ | (refine Ent.pick (by repeat (first | exact Pick.here | apply Pick.there)) ?_) | refine Ent.skip ?_)) (by kernel_rfl) ?_
  refine r_takeg (i := 34) (b := (!(((((!(rightB p.Mark)) || (decide (p.Total < 0))) || (decide (hd.most < p.Total))) || (decide (p.At < 0))) || (decide (p.Total < p.At))))) (bs' := #[true, true, true, true, true, true, true, true, true, true, true, true, true, true, true, true, true, true, true, true, true, true, true, true, true, true, true, true, true, true, true, true, true, true, true, false, false, false, false, false, false, false]) rfl (by kernel_rfl) (by kernel_rfl) (by kernel_rfl) (fun _ _ _ h => h) rfl (ask_f rfl rfl) (fun hb => q_fieldp rfl fo_95_2) (Hp.le_refl _) (by repeat (first | exact Ent.nil _ | exact Ent.refl _ | (refine Ent.pick (by repeat (first | exact Pick.here | apply Pick.there)) ?_) | refine Ent.skip ?_)) (by kernel_rfl) ?_
  refine r_takeg (i := 35) (b := (!(((((!(rightB p.Mark)) || (decide (p.Total < 0))) || (decide (hd.most < p.Total))) || (decide (p.At < 0))) || (decide (p.Total < p.At))))) (bs' := #[true, true, true, true, true, true, true, true, true, true, true, true, true, true, true, true, true, true, true, true, true, true, true, true, true, true, true, true, true, true, true, true, true, true, true, true, false, false, false, false, false, false]) rfl (by kernel_rfl) (by kernel_rfl) (by kernel_rfl) (fun _ _ _ h => h) rfl (ask_f rfl rfl) (fun hb => OpQ.env (.cons rfl (gd_t hb) (.nil _) : EnvLe [(40, .pointer (some ⟨b3, 3, none⟩))] _) (q_loadp (v := .int .i64 p.Total) sc_3 rfl (by repeat (first | exact Pick.here | apply Pick.there)) rfl)) (Hp.le_refl _) (by repeat (first | exact Ent.nil _ | exact Ent.refl _ | (refine Ent.pick (by repeat (first | exact Pick.here | apply Pick.there)) ?_) | refine Ent.skip ?_)) (by kernel_rfl) ?_
  refine r_takeg (i := 36) (b := (!(((((!(rightB p.Mark)) || (decide (p.Total < 0))) || (decide (hd.most < p.Total))) || (decide (p.At < 0))) || (decide (p.Total < p.At))))) (bs' := #[true, true, true, true, true, true, true, true, true, true, true, true, true, true, true, true, true, true, true, true, true, true, true, true, true, true, true, true, true, true, true, true, true, true, true, true, true, false, false, false, false, false]) rfl (by kernel_rfl) (by kernel_rfl) (by kernel_rfl) (fun _ _ _ h => h) rfl (ask_f rfl rfl) (fun hb => q_fieldp rfl fo_95_3) (Hp.le_refl _) (by repeat (first | exact Ent.nil _ | exact Ent.refl _ | (refine Ent.pick (by repeat (first | exact Pick.here | apply Pick.there)) ?_) | refine Ent.skip ?_)) (by kernel_rfl) ?_
  refine r_takeg (i := 37) (b := (!(((((!(rightB p.Mark)) || (decide (p.Total < 0))) || (decide (hd.most < p.Total))) || (decide (p.At < 0))) || (decide (p.Total < p.At))))) (bs' := #[true, true, true, true, true, true, true, true, true, true, true, true, true, true, true, true, true, true, true, true, true, true, true, true, true, true, true, true, true, true, true, true, true, true, true, true, true, true, false, false, false, false]) rfl (by kernel_rfl) (by kernel_rfl) (by kernel_rfl) (fun _ _ _ h => h) rfl (ask_f rfl rfl) (fun hb => OpQ.env (.cons rfl (gd_t hb) (.nil _) : EnvLe [(42, .pointer (some ⟨b3, 4, none⟩))] _) (q_loadp (v := .int .i64 p.At) sc_3 rfl (by repeat (first | exact Pick.here | apply Pick.there)) rfl)) (Hp.le_refl _) (by repeat (first | exact Ent.nil _ | exact Ent.refl _ | (refine Ent.pick (by repeat (first | exact Pick.here | apply Pick.there)) ?_) | refine Ent.skip ?_)) (by kernel_rfl) ?_
  refine r_takeg (i := 38) (b := (!(((((!(rightB p.Mark)) || (decide (p.Total < 0))) || (decide (hd.most < p.Total))) || (decide (p.At < 0))) || (decide (p.Total < p.At))))) (bs' := #[true, true, true, true, true, true, true, true, true, true, true, true, true, true, true, true, true, true, true, true, true, true, true, true, true, true, true, true, true, true, true, true, true, true, true, true, true, true, true, false, false, false]) rfl (by kernel_rfl) (by kernel_rfl) (by kernel_rfl) (fun _ _ _ h => h) rfl (ask_f rfl rfl) (fun hb => OpQ.env (.cons rfl (gd_t hb) (.cons rfl (gd_t hb) (.nil _)) : EnvLe [(41, .int .i64 p.Total), (43, .int .i64 p.At)] _) (q_sub rfl rfl (by first | omega | (have hb2 := hb; (try simp only [Bool.and_eq_true, Bool.or_eq_true, Bool.not_eq_true', Bool.and_eq_false_iff, Bool.or_eq_false_iff, Bool.not_eq_false', decide_eq_true_eq, decide_eq_false_iff_not, Bool.not_eq_eq_eq_not, Bool.not_true, Bool.not_false, Bool.not_eq_true, Bool.not_eq_false, beq_iff_eq, bne_iff_ne, ne_eq, Decidable.not_not] at hb2); omega)) (by first | omega | (have hb2 := hb; (try simp only [Bool.and_eq_true, Bool.or_eq_true, Bool.not_eq_true', Bool.and_eq_false_iff, Bool.or_eq_false_iff, Bool.not_eq_false', decide_eq_true_eq, decide_eq_false_iff_not, Bool.not_eq_eq_eq_not, Bool.not_true, Bool.not_false, Bool.not_eq_true, Bool.not_eq_false, beq_iff_eq, bne_iff_ne, ne_eq, Decidable.not_not] at hb2); omega)))) (Hp.le_refl _) (by repeat (first | exact Ent.nil _ | exact Ent.refl _ | (refine Ent.pick (by repeat (first | exact Pick.here | apply Pick.there)) ?_) | refine Ent.skip ?_)) (by kernel_rfl) ?_
  refine r_takeg (i := 39) (b := (!(((((!(rightB p.Mark)) || (decide (p.Total < 0))) || (decide (hd.most < p.Total))) || (decide (p.At < 0))) || (decide (p.Total < p.At))))) (bs' := #[true, true, true, true, true, true, true, true, true, true, true, true, true, true, true, true, true, true, true, true, true, true, true, true, true, true, true, true, true, true, true, true, true, true, true, true, true, true, true, true, false, false]) rfl (by kernel_rfl) (by kernel_rfl) (by kernel_rfl) (fun _ _ _ h => h) rfl (ask_f rfl rfl) (fun hb => OpQ.env (.cons rfl (gd_t hb) (.cons rfl (gd_t hb) (.nil _)) : EnvLe [(39, .int .i64 (p.B.xs.length : Int)), (44, .int .i64 (p.Total - p.At))] _) (q_gtr rfl rfl)) (Hp.le_refl _) (by repeat (first | exact Ent.nil _ | exact Ent.refl _ | (refine Ent.pick (by repeat (first | exact Pick.here | apply Pick.there)) ?_) | refine Ent.skip ?_)) (by kernel_rfl) ?_
  refine r_take (i := 40) (bs' := #[true, true, true, true, true, true, true, true, true, true, true, true, true, true, true, true, true, true, true, true, true, true, true, true, true, true, true, true, true, true, true, true, true, true, true, true, true, true, true, true, true, false]) rfl (by kernel_rfl) (by kernel_rfl) (by kernel_rfl) (fun _ _ _ h => h) rfl wn (q_pick_or rfl rfl rfl (fun h => by first | (rw [h]; rfl) | exact congrArg not h)) (Hp.le_refl _) (by repeat (first | exact Ent.nil _ | exact Ent.refl _ | (refine Ent.pick (by repeat (first | exact Pick.here | apply Pick.there)) ?_) | refine Ent.skip ?_)) (by kernel_rfl) ?_
  refine r_take (i := 41) (bs' := #[true, true, true, true, true, true, true, true, true, true, true, true, true, true, true, true, true, true, true, true, true, true, true, true, true, true, true, true, true, true, true, true, true, true, true, true, true, true, true, true, true, true]) rfl (by kernel_rfl) (by kernel_rfl) (by kernel_rfl) (fun _ _ _ h => h) rfl wn (q_assign rfl) (Hp.le_refl _) (by repeat (first | exact Ent.nil _ | exact Ent.refl _ | (refine Ent.pick (by repeat (first | exact Pick.here | apply Pick.there)) ?_) | refine Ent.skip ?_)) (by kernel_rfl) ?_
  refine r_done (by kernel_rfl) ?_
  refine k_then_n ?_
  refine c_cond rfl (fun h0 => ?_) (fun h0 => ?_)
  · (try dsimp only [heapOf] at h0); try simp only [Bool.and_eq_true, Bool.or_eq_true, Bool.not_eq_true', Bool.and_eq_false_iff, Bool.or_eq_false_iff, Bool.not_eq_false', decide_eq_true_eq, decide_eq_false_iff_not, Bool.not_eq_eq_eq_not, Bool.not_true, Bool.not_false, Bool.not_eq_true, Bool.not_eq_false, beq_iff_eq, bne_iff_ne, ne_eq, Decidable.not_not] at h0
    refine c_seq ?_
    refine c_region ?_
    refine l_step (s_q rfl wn (q_assign rfl) ?_)
    refine l_nil ?_
    refine k_then_n ?_
    refine c_ret ?_
    refine k_blk_r ?_
    refine k_then_r ?_
    exact t_ret [.pts h (encHeap hd) 138] rfl (.tmp rfl .nil) rfl (Hp.le_refl _) ⟨rfl, boole (by unfold fitsB; rw [if_pos (by simpa using h0)]), rfl⟩ (by repeat (first | exact Ent.nil _ | exact Ent.refl _ | (refine Ent.pick (by repeat (first | exact Pick.here | apply Pick.there)) ?_) | refine Ent.skip ?_))
  · (try dsimp only [heapOf] at h0); try simp only [Bool.and_eq_true, Bool.or_eq_true, Bool.not_eq_true', Bool.and_eq_false_iff, Bool.or_eq_false_iff, Bool.not_eq_false', decide_eq_true_eq, decide_eq_false_iff_not, Bool.not_eq_eq_eq_not, Bool.not_true, Bool.not_false, Bool.not_eq_true, Bool.not_eq_false, beq_iff_eq, bne_iff_ne, ne_eq, Decidable.not_not] at h0
    refine c_skip ?_
    refine k_blk_n ?_
    refine k_then_n ?_
    refine c_seq ?_
    refine c_region ?_
    refine l_step (s_q rfl wn (q_fieldp rfl fo_95_4) ?_)
    refine l_step (s_q rfl wn (q_loadp (v := .slice p.B.a p.B.xs.length p.B.cap) sc_22 rfl (by repeat (first | exact Pick.here | apply Pick.there)) rfl) ?_)
    refine l_step (s_q rfl wn (q_len Try.underlying22 rfl) ?_)
    refine l_step (s_q rfl wn (q_gtr rfl rfl) ?_)
    refine l_step (s_q rfl wn (q_fieldp rfl fo_95_2) ?_)
    refine l_step (s_q rfl wn (q_loadp (v := .int .i64 p.Total) sc_3 rfl (by repeat (first | exact Pick.here | apply Pick.there)) rfl) ?_)
    refine l_step (s_q rfl wn (q_gtr rfl rfl) ?_)
    refine l_step (s_q rfl wn (q_eqlb rfl rfl Try.underlying4) ?_)
    refine l_step (s_q rfl wn (q_assign rfl) ?_)
    refine l_nil ?_
    refine k_then_n ?_
    refine c_ret ?_
    exact t_ret [.pts h (encHeap hd) 138] rfl (.tmp rfl .nil) rfl (Hp.le_refl _) ⟨rfl, boole (by unfold fitsB; rw [if_neg (by simpa using h0)]), rfl⟩ (by repeat (first | exact Ent.nil _ | exact Ent.refl _ | (refine Ent.pick (by repeat (first | exact Pick.here | apply Pick.there)) ?_) | refine Ent.skip ?_))

theorem bclone_spec (s_a : Option Addr) (s_n s_c : Nat) (s : List UInt8) (hs_n : s.length = s_n) (ρ : Hp) (hl : s_n ≤ 1000000000) (hro : Ro ρ 1 s_a s_n s_c (s.flatMap encB)) : Spec0 Try.prog 66 #[.slice s_a s_n s_c] ρ [] (fun v Γ' => ∃ a c, v = .slice a s_n c ∧ Γ' = [.row 5 1 a s_n c (s.flatMap encB)]) := by
  refine spec_of (n := 8) (vs := [_]) (σ := [(0, _)]) Try.func66 rfl rfl rfl rfl fun E Δ => ?_
  rw [List.nil_append]
  refine c_seq ?_
  refine c_region ?_
  refine l_step (s_q rfl wn (q_assign rfl) ?_)
  refine l_nil ?_
  refine k_then_n ?_
  refine c_seq ?_
  refine c_seq ?_
  refine c_region ?_
  refine l_step (s_q rfl wn (q_move rfl) ?_)
  refine l_step (s_q rfl wn (q_eqnil Try.underlying22 rfl rfl) ?_)
  refine l_nil ?_
  refine k_then_n ?_
  refine c_cond rfl (fun h0 => ?_) (fun h0 => ?_)
  · (try dsimp only [heapOf] at h0); try simp only [Bool.and_eq_true, Bool.or_eq_true, Bool.not_eq_true', Bool.and_eq_false_iff, Bool.or_eq_false_iff, Bool.not_eq_false', decide_eq_true_eq, decide_eq_false_iff_not, Bool.not_eq_eq_eq_not, Bool.not_true, Bool.not_false, Bool.not_eq_true, Bool.not_eq_false, beq_iff_eq, bne_iff_ne, ne_eq, Decidable.not_not] at h0
    have hz : s = [] := ro_nil_xs hro (by decide) (fun _ => rfl) h0
    subst hz
    obtain rfl : 0 = s_n := hs_n
    refine c_seq ?_
    refine c_region ?_
    refine l_step (s_q rfl wn (q_assign rfl) ?_)
    refine l_nil ?_
    refine k_then_n ?_
    refine c_ret ?_
    refine k_then_r ?_
    exact t_ret [.row 5 1 none 0 0 []] rfl (.tmp rfl .nil) rfl (Hp.le_refl _) ⟨rfl, none, 0, rfl, rfl⟩ (Ent.nilrow _ _ _)
  · (try dsimp only [heapOf] at h0); try simp only [Bool.and_eq_true, Bool.or_eq_true, Bool.not_eq_true', Bool.and_eq_false_iff, Bool.or_eq_false_iff, Bool.not_eq_false', decide_eq_true_eq, decide_eq_false_iff_not, Bool.not_eq_eq_eq_not, Bool.not_true, Bool.not_false, Bool.not_eq_true, Bool.not_eq_false, beq_iff_eq, bne_iff_ne, ne_eq, Decidable.not_not] at h0
    refine c_skip ?_
    refine k_then_n ?_
    refine c_seq ?_
    refine c_region ?_
    refine l_step (s_s rfl wn (s_buildSlice (cs := ([] : List UInt8).flatMap encB) Try.underlying22 eo_5 rfl rfl rfl rfl (by decide) (by decide)) ?_)
    rintro _ _ ⟨b5, rfl, rfl⟩
    refine l_step (s_q rfl wn (q_move rfl) ?_)
    refine l_step (s_s rfl wn (s_appendn (enc := encB) (xs := ([] : List UInt8)) (ys := (s : List UInt8)) (Γ' := fun a' cap' => _) Try.underlying22 eo_5 (by decide) rfl rfl (by first | assumption | exact rd_ro (by assumption) | exact rd_row (by repeat (first | exact Pick.here | apply Pick.there))) (oneB _) (by first | omega | (simp only [List.length_append, List.length_cons, List.length_nil] at *; omega)) (by first | omega | (simp only [List.length_append, List.length_cons, List.length_nil] at *; omega)) (fun _ _ => (by repeat (first | exact Pick.here | apply Pick.there)))) ?_)
    rintro _ _ ⟨a7, c7, rfl, rfl⟩
    simp only [Nat.zero_add, List.nil_append]
    refine l_step (s_q rfl wn (q_assign rfl) ?_)
    refine l_nil ?_
    refine k_then_n ?_
    refine c_ret ?_
    exact t_ret [.row 5 1 a7 s_n c7 (s.flatMap encB)] rfl (.tmp rfl .nil) rfl (Hp.le_refl _) ⟨rfl, a7, c7, rfl, rfl⟩ (by repeat (first | exact Ent.nil _ | exact Ent.refl _ | (refine Ent.pick (by repeat (first | exact Pick.here | apply Pick.there)) ?_) | refine Ent.skip ?_))

theorem idxb_spec (s_a : Option Addr) (s_n s_c : Nat) (s : List Bool) (hs_n : s.length = s_n) (q : Bool) (ρ : Hp) (hl : s_n ≤ 1000000000) (hro : Ro ρ 1 s_a s_n s_c (s.flatMap encO)) : Spec0 Try.prog 70 #[.slice s_a s_n s_c, .bool q] ρ [] (fun v Γ' => v = .int .i64 (idxB s q) ∧ Γ' = []) := by
  refine spec_of (n := 19) (vs := [_, _]) (σ := [(0, _), (1, _)]) Try.func70 rfl rfl rfl rfl fun E Δ => ?_
  rw [List.nil_append]
  refine c_seq ?_
  refine c_region ?_
  refine l_step (s_q rfl wn (q_assign rfl) ?_)
  refine l_nil ?_
  refine k_then_n ?_
  refine c_seq ?_
  refine c_seq ?_
  refine c_region ?_
  refine l_step (s_q rfl wn (q_move rfl) ?_)
  refine l_step (s_q rfl wn (q_len Try.underlying60 rfl) ?_)
  refine l_step (s_q rfl wn (q_move rfl) ?_)
  refine l_nil ?_
  refine k_then_n ?_
  refine c_block ?_
  refine Tr.env (σ' := [(0, _), (1, _), (7, _), (8, _)]) (.cons rfl rfl (.cons rfl rfl (.cons rfl rfl (.cons rfl rfl (.nil _))))) ?_
  refine t_loop (ι := Lp (Nat)) (fun x => x.d ≤ s_n ∧ q ∉ s.take x.d) (fun x => s_n - x.d) (fun x => [(0, .slice s_a s_n s_c), (1, .bool q), (7, .int .i64 (s_n : Int)), (8, .int .i64 (x.d : Int))]) (fun x => Δ) (⟨0, none, 0, none, 0, none, 0⟩ : Lp _) ⟨Nat.zero_le _, by simp⟩ ?_ ?_ ?_
  · exact .cons rfl (by first | rfl | exact inte (by omega) | (simp; done) | (simp <;> omega) | simp [*]) (.cons rfl (by first | rfl | exact inte (by omega) | (simp; done) | (simp <;> omega) | simp [*]) (.cons rfl (by first | rfl | exact inte (by omega) | (simp; done) | (simp <;> omega) | simp [*]) (.cons rfl (by first | rfl | exact inte (by omega) | (simp; done) | (simp <;> omega) | simp [*]) (.nil _))))
  · exact (by repeat (first | exact Ent.nil _ | exact Ent.refl _ | (refine Ent.pick (by repeat (first | exact Pick.here | apply Pick.there)) ?_) | refine Ent.skip ?_))
  intro x hx
  obtain ⟨hx1, hx2⟩ := hx
  refine c_seq ?_
  refine c_region ?_
  refine l_step (s_q rfl wn (q_lss rfl rfl) ?_)
  refine l_nil ?_
  refine k_then_n ?_
  refine c_seq ?_
  refine c_cond rfl (fun h0 => ?_) (fun h0 => ?_)
  · (try dsimp only [heapOf] at h0); try simp only [Bool.and_eq_true, Bool.or_eq_true, Bool.not_eq_true', Bool.and_eq_false_iff, Bool.or_eq_false_iff, Bool.not_eq_false', decide_eq_true_eq, decide_eq_false_iff_not, Bool.not_eq_eq_eq_not, Bool.not_true, Bool.not_false, Bool.not_eq_true, Bool.not_eq_false, beq_iff_eq, bne_iff_ne, ne_eq, Decidable.not_not] at h0
    refine c_skip ?_
    refine k_then_n ?_
    refine c_seq ?_
    refine c_block ?_
    refine c_seq ?_
    refine c_region ?_
    refine l_step (s_q rfl wn (q_move rfl) ?_)
    refine l_step (s_q rfl wn (q_assign rfl) ?_)
    refine l_nil ?_
    refine k_then_n ?_
    refine c_seq ?_
    refine c_region ?_
    refine l_step (s_q rfl wn (q_move rfl) ?_)
    refine l_step (s_q rfl wn (q_move rfl) ?_)
    refine l_step (s_q rfl wn (q_move rfl) ?_)
    refine l_step (s_q rfl wn (q_indexe x.d Try.underlying60 sz_4 rfl rfl (by first | assumption | exact rd_ro (by assumption) | exact rd_row (by repeat (first | exact Pick.here | apply Pick.there))) (by decide) rfl (by first | assumption | omega | (simp only [List.length_cons, List.length_nil]; omega))) ?_)
    refine l_step (s_q rfl wn (q_loade (enc := encO) (xs := s) (j := x.d) (off := 0) sc_4 rfl (by first | assumption | exact rd_ro (by assumption) | exact rd_row (by repeat (first | exact Pick.here | apply Pick.there))) (fun _ => rfl) (by first | assumption | omega | (simp only [List.length_cons, List.length_nil]; omega)) (by decide) rfl) ?_)
    refine l_step (s_q rfl wn (q_eqlb rfl rfl Try.underlying4) ?_)
    refine l_nil ?_
    refine k_then_n ?_
    refine c_cond rfl (fun h1 => ?_) (fun h1 => ?_)
    · (try dsimp only [heapOf] at h1); try simp only [Bool.and_eq_true, Bool.or_eq_true, Bool.not_eq_true', Bool.and_eq_false_iff, Bool.or_eq_false_iff, Bool.not_eq_false', decide_eq_true_eq, decide_eq_false_iff_not, Bool.not_eq_eq_eq_not, Bool.not_true, Bool.not_false, Bool.not_eq_true, Bool.not_eq_false, beq_iff_eq, bne_iff_ne, ne_eq, Decidable.not_not] at h1
      refine c_seq ?_
      refine c_region ?_
      refine l_step (s_q rfl wn (q_move rfl) ?_)
      refine l_step (s_q rfl wn (q_assign rfl) ?_)
      refine l_nil ?_
      refine k_then_n ?_
      refine c_ret ?_
      refine k_blk_r ?_
      refine k_then_r ?_
      refine k_then_r ?_
      refine k_blk_r ?_
      refine k_then_r ?_
      exact t_ret [] rfl (.tmp rfl .nil) rfl (Hp.le_refl _) ⟨rfl, inte (idxB_at (by omega) hx2 (by simpa using h1)).symm, rfl⟩ (by (repeat refine Ent.skip ?_); exact Ent.refl _)
    · (try dsimp only [heapOf] at h1); try simp only [Bool.and_eq_true, Bool.or_eq_true, Bool.not_eq_true', Bool.and_eq_false_iff, Bool.or_eq_false_iff, Bool.not_eq_false', decide_eq_true_eq, decide_eq_false_iff_not, Bool.not_eq_eq_eq_not, Bool.not_true, Bool.not_false, Bool.not_eq_true, Bool.not_eq_false, beq_iff_eq, bne_iff_ne, ne_eq, Decidable.not_not] at h1
      refine c_skip ?_
      refine k_blk_n ?_
      refine k_then_n ?_
      refine c_region ?_
      refine l_step (s_q rfl wn (q_add rfl rfl (by omega) (by omega)) ?_)
      refine l_step (s_q rfl wn (q_move rfl) ?_)
      refine l_nil ?_
      refine k_then_n ?_
      exact t_next (⟨x.d + 1, none, 0, none, 0, none, 0⟩ : Lp _) ⟨⟨by simp only []; omega, not_take_succB (by omega) hx2 (by simpa using h1)⟩, by simp only []; omega⟩ (.cons rfl (by first | rfl | exact inte (by omega) | (simp; done) | (simp <;> omega) | simp [*]) (.cons rfl (by first | rfl | exact inte (by omega) | (simp; done) | (simp <;> omega) | simp [*]) (.cons rfl (by first | rfl | exact inte (by omega) | (simp; done) | (simp <;> omega) | simp [*]) (.cons rfl (by first | rfl | exact inte (by omega) | (simp; done) | (simp <;> omega) | simp [*]) (.nil _))))) (by repeat (first | exact Ent.nil _ | exact Ent.refl _ | (refine Ent.pick (by repeat (first | exact Pick.here | apply Pick.there)) ?_) | refine Ent.skip ?_))
  · (try dsimp only [heapOf] at h0); try simp only [Bool.and_eq_true, Bool.or_eq_true, Bool.not_eq_true', Bool.and_eq_false_iff, Bool.or_eq_false_iff, Bool.not_eq_false', decide_eq_true_eq, decide_eq_false_iff_not, Bool.not_eq_eq_eq_not, Bool.not_true, Bool.not_false, Bool.not_eq_true, Bool.not_eq_false, beq_iff_eq, bne_iff_ne, ne_eq, Decidable.not_not] at h0
    have hk : x.d = s.length := by omega
    rw [hk, List.take_length] at hx2
    refine c_exit ?_
    refine k_then_x ?_
    refine k_then_x ?_
    refine k_blk_x ?_
    refine k_then_n ?_
    refine c_seq ?_
    refine c_region ?_
    refine l_step (s_q rfl wn (q_assign rfl) ?_)
    refine l_nil ?_
    refine k_then_n ?_
    refine c_ret ?_
    exact t_ret [] rfl (.tmp rfl .nil) rfl (Hp.le_refl _) ⟨rfl, inte (idxB_none hx2).symm, rfl⟩ (by (repeat refine Ent.skip ?_); exact Ent.refl _)

theorem new_spec (most : Int) (ρ : Hp) : Spec0 Try.prog 40 #[.int .i64 most] ρ [] (fun v Γ' => ∃ b, v = .pointer (some ⟨b, 0, none⟩) ∧ Γ' = (HeapM 138 5 4 b (newD most) noX)) := by
  refine spec_of (n := 6) (vs := [_]) (σ := [(0, _)]) Try.func40 rfl rfl rfl rfl fun E Δ => ?_
  rw [List.nil_append]
  refine c_seq ?_
  refine c_region ?_
  refine l_step (s_q rfl wn (q_assign rfl) ?_)
  refine l_nil ?_
  refine k_then_n ?_
  refine c_seq ?_
  refine c_region ?_
  refine l_step (s_q rfl wn (q_move rfl) ?_)
  refine l_step (s_q rfl wn (q_build (cs := encHeap (⟨most, zPiece, false, ⟨none, 0, 0⟩, ⟨none, 0, 0⟩, 0⟩ : Heap)) zc_138 pl_138 rfl rfl) ?_)
  refine l_step (s_s rfl wn (s_box (cs := encHeap (⟨most, zPiece, false, ⟨none, 0, 0⟩, ⟨none, 0, 0⟩, 0⟩ : Heap)) rfl rfl) ?_)
  rintro _ _ ⟨b5, rfl, rfl⟩
  refine l_step (s_q rfl wn (q_assign rfl) ?_)
  refine l_nil ?_
  refine k_then_n ?_
  refine c_ret ?_
  exact t_ret (HeapM 138 5 4 b5 (newD most) noX) rfl (.tmp rfl .nil) rfl (Hp.le_refl _) ⟨rfl, b5, rfl, rfl⟩ (by simp only [HeapM, List.cons_append, List.nil_append]; exact Ent.pick Pick.here (Ent.trans (Ent.nilrow _ _ _) (Ent.pick Pick.here (Ent.trans (Ent.nilrow _ _ _) (Ent.refl _)))))

theorem drop_spec (h : Nat) (d : HD) (x : HX) (ρ : Hp) : Spec0 Try.prog 41 #[.pointer (some ⟨h, 0, none⟩)] ρ [.pts h (encHeap (⟨d.most, d.of, d.on, ⟨x.a1, x.n1, x.c1⟩, ⟨x.a2, x.n2, x.c2⟩, d.left⟩ : Heap)) 138, .row 5 1 x.a1 x.n1 x.c1 (d.b.flatMap encB), .row 4 1 x.a2 x.n2 x.c2 (d.there.flatMap encO)] (fun v Γ' => v = .tuple #[] ∧ Γ' = (HeapM 138 5 4 h (newD d.most) noX)) := by
  refine spec_of (n := 9) (vs := [_]) (σ := [(0, _)]) Try.func41 rfl rfl rfl rfl fun E Δ => ?_
  simp only [List.cons_append, List.nil_append]
  refine c_region ?_
  refine l_step (s_q rfl wn (q_move rfl) ?_)
  refine l_step (s_q rfl wn (q_move rfl) ?_)
  refine l_step (s_q rfl wn (q_nilCheck rfl) ?_)
  refine l_step (s_q rfl wn (q_fieldp rfl fo_138_0) ?_)
  refine l_step (s_q rfl wn (q_loadp (v := .int .i64 d.most) sc_3 rfl (by repeat (first | exact Pick.here | apply Pick.there)) rfl) ?_)
  refine l_step (s_q rfl wn (q_build (cs := encHeap (⟨d.most, zPiece, false, ⟨none, 0, 0⟩, ⟨none, 0, 0⟩, 0⟩ : Heap)) zc_138 pl_138 rfl rfl) ?_)
  refine l_step (s_q rfl wn (q_nilCheck rfl) ?_)
  refine l_step (s_s0 wn (s_storep (ws := encHeap (⟨d.most, zPiece, false, ⟨none, 0, 0⟩, ⟨none, 0, 0⟩, 0⟩ : Heap)) (cs := encHeap (⟨d.most, d.of, d.on, ⟨x.a1, x.n1, x.c1⟩, ⟨x.a2, x.n2, x.c2⟩, d.left⟩ : Heap)) (cs' := encHeap (⟨d.most, zPiece, false, ⟨none, 0, 0⟩, ⟨none, 0, 0⟩, 0⟩ : Heap)) rfl rfl rfl sz_138 (oneHeap _) (by simp [encHeap, encHeap]) rfl (by repeat (first | exact Pick.here | apply Pick.there))) ?_)
  rintro _ _ ⟨rfl, rfl⟩
  refine l_nil ?_
  refine k_body_n ?_
  exact t_ret (HeapM 138 5 4 h (newD d.most) noX) rfl .nil rfl (Hp.le_refl _) ⟨rfl, rfl, rfl⟩ (by simp only [HeapM, List.cons_append, List.nil_append]; exact Ent.pick Pick.here (Ent.trans (Ent.nilrow _ _ _) (Ent.pick Pick.here (Ent.trans (Ent.nilrow _ _ _) (Ent.pick Pick.here (Ent.skip (Ent.skip (Ent.refl _))))))))

theorem mark_spec (h : Nat) (d : HD) (x : HX) (ρ : Hp) : Spec0 Try.prog 46 #[.pointer (some ⟨h, 0, none⟩)] ρ [.pts h (encHeap (⟨d.most, d.of, d.on, ⟨x.a1, x.n1, x.c1⟩, ⟨x.a2, x.n2, x.c2⟩, d.left⟩ : Heap)) 138, .row 5 1 x.a1 x.n1 x.c1 (d.b.flatMap encB), .row 4 1 x.a2 x.n2 x.c2 (d.there.flatMap encO)] (fun v Γ' => v = .agg (encMark (markOf d)).toArray ∧ Γ' = [.pts h (encHeap (⟨d.most, d.of, d.on, ⟨x.a1, x.n1, x.c1⟩, ⟨x.a2, x.n2, x.c2⟩, d.left⟩ : Heap)) 138, .row 5 1 x.a1 x.n1 x.c1 (d.b.flatMap encB), .row 4 1 x.a2 x.n2 x.c2 (d.there.flatMap encO)]) := by
  refine spec_of (n := 14) (vs := [_]) (σ := [(0, _)]) Try.func46 rfl rfl rfl rfl fun E Δ => ?_
  simp only [List.cons_append, List.nil_append]
  refine c_seq ?_
  refine c_region ?_
  refine l_step (s_s rfl wn (s_allocz (cs := encMark zMark) (by kernel_rfl)) ?_)
  rintro _ _ ⟨b2, rfl, rfl⟩
  refine l_nil ?_
  refine k_then_n ?_
  refine c_seq ?_
  refine c_seq ?_
  refine c_region ?_
  refine l_step (s_q rfl wn (q_move rfl) ?_)
  refine l_step (s_q rfl wn (q_nilCheck rfl) ?_)
  refine l_step (s_q rfl wn (q_fieldp rfl fo_138_2) ?_)
  refine l_step (s_q rfl wn (q_loadp (v := .bool d.on) sc_4 rfl (by repeat (first | exact Pick.here | apply Pick.there)) rfl) ?_)
  refine l_step (s_q rfl wn (q_not rfl) ?_)
  refine l_nil ?_
  refine k_then_n ?_
  refine c_cond rfl (fun h0 => ?_) (fun h0 => ?_)
  · (try dsimp only [heapOf] at h0); try simp only [Bool.and_eq_true, Bool.or_eq_true, Bool.not_eq_true', Bool.and_eq_false_iff, Bool.or_eq_false_iff, Bool.not_eq_false', decide_eq_true_eq, decide_eq_false_iff_not, Bool.not_eq_eq_eq_not, Bool.not_true, Bool.not_false, Bool.not_eq_true, Bool.not_eq_false, beq_iff_eq, bne_iff_ne, ne_eq, Decidable.not_not] at h0
    refine c_seq ?_
    refine c_region ?_
    refine l_step (s_q rfl wn (q_build (cs := encMark (⟨0, 0⟩ : Mark)) zc_87 pl_87 rfl rfl) ?_)
    refine l_step (s_s0 wn (s_storep (ws := encMark (⟨0, 0⟩ : Mark)) (cs := encMark zMark) (cs' := encMark (⟨0, 0⟩ : Mark)) rfl rfl rfl sz_87 (oneMark _) (by simp [encMark, encMark]) rfl (by repeat (first | exact Pick.here | apply Pick.there))) ?_)
    rintro _ _ ⟨rfl, rfl⟩
    refine l_nil ?_
    refine k_then_n ?_
    refine c_ret ?_
    refine k_then_r ?_
    exact t_ret [.pts h (encHeap (⟨d.most, d.of, d.on, ⟨x.a1, x.n1, x.c1⟩, ⟨x.a2, x.n2, x.c2⟩, d.left⟩ : Heap)) 138, .row 5 1 x.a1 x.n1 x.c1 (d.b.flatMap encB), .row 4 1 x.a2 x.n2 x.c2 (d.there.flatMap encO)] rfl (.cell rfl (by repeat (first | exact Pick.here | apply Pick.there)) (fun w h => ld_agg (by exact ag_87) h) .nil) rfl (Hp.le_refl _) ⟨rfl, (by rw [show markOf d = zMark from by unfold markOf; rw [if_neg (by simpa using h0)]]; rfl), rfl⟩ (by repeat (first | exact Ent.nil _ | exact Ent.refl _ | (refine Ent.pick (by repeat (first | exact Pick.here | apply Pick.there)) ?_) | refine Ent.skip ?_))
  · (try dsimp only [heapOf] at h0); try simp only [Bool.and_eq_true, Bool.or_eq_true, Bool.not_eq_true', Bool.and_eq_false_iff, Bool.or_eq_false_iff, Bool.not_eq_false', decide_eq_true_eq, decide_eq_false_iff_not, Bool.not_eq_eq_eq_not, Bool.not_true, Bool.not_false, Bool.not_eq_true, Bool.not_eq_false, beq_iff_eq, bne_iff_ne, ne_eq, Decidable.not_not] at h0
    refine c_skip ?_
    refine k_then_n ?_
    refine c_seq ?_
    refine c_region ?_
    refine l_step (s_q rfl wn (q_move rfl) ?_)
    refine l_step (s_q rfl wn (q_nilCheck rfl) ?_)
    refine l_step (s_q rfl wn (q_fieldp rfl fo_138_1) ?_)
    refine l_step (s_q rfl wn (q_fieldp rfl fo_95_0) ?_)
    refine l_step (s_q rfl wn (q_loadpa (vs := encMark d.of.Mark) ag_87 rfl (by repeat (first | exact Pick.here | apply Pick.there)) rfl) ?_)
    refine l_step (s_s0 wn (s_storep (ws := encMark d.of.Mark) (cs := encMark zMark) (cs' := encMark d.of.Mark) rfl rfl rfl sz_87 (oneMark _) (by simp [encMark, encMark]) rfl (by repeat (first | exact Pick.here | apply Pick.there))) ?_)
    rintro _ _ ⟨rfl, rfl⟩
    refine l_nil ?_
    refine k_then_n ?_
    refine c_ret ?_
    exact t_ret [.pts h (encHeap (⟨d.most, d.of, d.on, ⟨x.a1, x.n1, x.c1⟩, ⟨x.a2, x.n2, x.c2⟩, d.left⟩ : Heap)) 138, .row 5 1 x.a1 x.n1 x.c1 (d.b.flatMap encB), .row 4 1 x.a2 x.n2 x.c2 (d.there.flatMap encO)] rfl (.cell rfl (by repeat (first | exact Pick.here | apply Pick.there)) (fun w h => ld_agg (by exact ag_87) h) .nil) rfl (Hp.le_refl _) ⟨rfl, (by rw [show markOf d = d.of.Mark from by unfold markOf; rw [if_pos (by simpa using h0)]]; rfl), rfl⟩ (by repeat (first | exact Ent.nil _ | exact Ent.refl _ | (refine Ent.pick (by repeat (first | exact Pick.here | apply Pick.there)) ?_) | refine Ent.skip ?_))

theorem missing_spec (h : Nat) (d : HD) (x : HX) (ρ : Hp) (hl2 : x.n2 ≤ 1000000000) : Spec0 Try.prog 47 #[.pointer (some ⟨h, 0, none⟩)] ρ [.pts h (encHeap (⟨d.most, d.of, d.on, ⟨x.a1, x.n1, x.c1⟩, ⟨x.a2, x.n2, x.c2⟩, d.left⟩ : Heap)) 138, .row 5 1 x.a1 x.n1 x.c1 (d.b.flatMap encB), .row 4 1 x.a2 x.n2 x.c2 (d.there.flatMap encO)] (fun v Γ' => v = .int .i64 (missingI d) ∧ Γ' = [.pts h (encHeap (⟨d.most, d.of, d.on, ⟨x.a1, x.n1, x.c1⟩, ⟨x.a2, x.n2, x.c2⟩, d.left⟩ : Heap)) 138, .row 5 1 x.a1 x.n1 x.c1 (d.b.flatMap encB), .row 4 1 x.a2 x.n2 x.c2 (d.there.flatMap encO)]) := by
  refine spec_of (n := 17) (vs := [_]) (σ := [(0, _)]) Try.func47 rfl rfl rfl rfl fun E Δ => ?_
  simp only [List.cons_append, List.nil_append]
  refine t_rd (Γ := _) (rd_row (Pick.there Pick.here)) fun hb1 _ _ _ => ?_
  refine t_rd (Γ := _) (rd_row (Pick.there (Pick.there Pick.here))) fun hb2 _ _ _ => ?_
  replace hb1 := lenz hb1 (fun _ => rfl) (by decide)
  replace hb2 := lenz hb2 (fun _ => rfl) (by decide)
  refine c_seq ?_
  refine c_region ?_
  refine l_step (s_q rfl wn (q_assign rfl) ?_)
  refine l_nil ?_
  refine k_then_n ?_
  refine c_seq ?_
  refine c_seq ?_
  refine c_region ?_
  refine l_step (s_q rfl wn (q_move rfl) ?_)
  refine l_step (s_q rfl wn (q_nilCheck rfl) ?_)
  refine l_step (s_q rfl wn (q_fieldp rfl fo_138_4) ?_)
  refine l_step (s_q rfl wn (q_loadp (v := .slice x.a2 x.n2 x.c2) sc_60 rfl (by repeat (first | exact Pick.here | apply Pick.there)) rfl) ?_)
  refine l_step (s_fnq rfl wn Try.func70 rfl (by kernel_rfl) rfl (fun ρ' hL => idxb_spec x.a2 x.n2 x.c2 d.there (by first | rfl | assumption | simp | (simp <;> omega) | omega) false ρ' (by assumption) (by first | exact hL.ro (by assumption) | exact hL.row (by repeat (first | exact Pick.here | apply Pick.there)) | assumption)) ?_)
  refine l_step (s_q rfl wn (q_assign rfl) ?_)
  refine l_nil ?_
  refine k_then_n ?_
  refine c_seq ?_
  refine c_region ?_
  refine l_step (s_q rfl wn (q_move rfl) ?_)
  refine l_step (s_q rfl wn (q_geq rfl rfl) ?_)
  refine l_nil ?_
  refine k_then_n ?_
  refine c_cond rfl (fun h0 => ?_) (fun h0 => ?_)
  · (try dsimp only [heapOf] at h0); try simp only [Bool.and_eq_true, Bool.or_eq_true, Bool.not_eq_true', Bool.and_eq_false_iff, Bool.or_eq_false_iff, Bool.not_eq_false', decide_eq_true_eq, decide_eq_false_iff_not, Bool.not_eq_eq_eq_not, Bool.not_true, Bool.not_false, Bool.not_eq_true, Bool.not_eq_false, beq_iff_eq, bne_iff_ne, ne_eq, Decidable.not_not] at h0
    refine c_seq ?_
    refine c_region ?_
    refine l_step (s_q rfl wn (q_move rfl) ?_)
    refine l_step (s_q rfl wn (q_assign rfl) ?_)
    refine l_nil ?_
    refine k_then_n ?_
    refine c_ret ?_
    refine k_then_r ?_
    exact t_ret [.pts h (encHeap (⟨d.most, d.of, d.on, ⟨x.a1, x.n1, x.c1⟩, ⟨x.a2, x.n2, x.c2⟩, d.left⟩ : Heap)) 138, .row 5 1 x.a1 x.n1 x.c1 (d.b.flatMap encB), .row 4 1 x.a2 x.n2 x.c2 (d.there.flatMap encO)] rfl (.tmp rfl .nil) rfl (Hp.le_refl _) ⟨rfl, inte (by unfold missingI; rw [if_pos (by simpa using h0)]), rfl⟩ (by repeat (first | exact Ent.nil _ | exact Ent.refl _ | (refine Ent.pick (by repeat (first | exact Pick.here | apply Pick.there)) ?_) | refine Ent.skip ?_))
  · (try dsimp only [heapOf] at h0); try simp only [Bool.and_eq_true, Bool.or_eq_true, Bool.not_eq_true', Bool.and_eq_false_iff, Bool.or_eq_false_iff, Bool.not_eq_false', decide_eq_true_eq, decide_eq_false_iff_not, Bool.not_eq_eq_eq_not, Bool.not_true, Bool.not_false, Bool.not_eq_true, Bool.not_eq_false, beq_iff_eq, bne_iff_ne, ne_eq, Decidable.not_not] at h0
    refine c_skip ?_
    refine k_then_n ?_
    refine c_seq ?_
    refine c_region ?_
    refine l_step (s_q rfl wn (q_move rfl) ?_)
    refine l_step (s_q rfl wn (q_nilCheck rfl) ?_)
    refine l_step (s_q rfl wn (q_fieldp rfl fo_138_3) ?_)
    refine l_step (s_q rfl wn (q_loadp (v := .slice x.a1 x.n1 x.c1) sc_22 rfl (by repeat (first | exact Pick.here | apply Pick.there)) rfl) ?_)
    refine l_step (s_q rfl wn (q_len Try.underlying22 rfl) ?_)
    refine l_step (s_q rfl wn (q_assign rfl) ?_)
    refine l_nil ?_
    refine k_then_n ?_
    refine c_ret ?_
    exact t_ret [.pts h (encHeap (⟨d.most, d.of, d.on, ⟨x.a1, x.n1, x.c1⟩, ⟨x.a2, x.n2, x.c2⟩, d.left⟩ : Heap)) 138, .row 5 1 x.a1 x.n1 x.c1 (d.b.flatMap encB), .row 4 1 x.a2 x.n2 x.c2 (d.there.flatMap encO)] rfl (.tmp rfl .nil) rfl (Hp.le_refl _) ⟨rfl, inte (by unfold missingI; rw [if_neg (by simpa using h0)]; omega), rfl⟩ (by repeat (first | exact Ent.nil _ | exact Ent.refl _ | (refine Ent.pick (by repeat (first | exact Pick.here | apply Pick.there)) ?_) | refine Ent.skip ?_))

theorem whole_spec (h : Nat) (d : HD) (x : HX) (ρ : Hp) (hl1 : x.n1 ≤ 1000000000) : Spec0 Try.prog 45 #[.pointer (some ⟨h, 0, none⟩)] ρ [.pts h (encHeap (⟨d.most, d.of, d.on, ⟨x.a1, x.n1, x.c1⟩, ⟨x.a2, x.n2, x.c2⟩, d.left⟩ : Heap)) 138, .row 5 1 x.a1 x.n1 x.c1 (d.b.flatMap encB), .row 4 1 x.a2 x.n2 x.c2 (d.there.flatMap encO)] (fun v Γ' => (wholeOk d = false ∧ v = .tuple #[.slice none 0 0, .bool false] ∧ Γ' = [.pts h (encHeap (heapOf d x)) 138, .row 5 1 x.a1 x.n1 x.c1 (d.b.flatMap encB), .row 4 1 x.a2 x.n2 x.c2 (d.there.flatMap encO)]) ∨ (wholeOk d = true ∧ ∃ a c, v = .tuple #[.slice a x.n1 c, .bool true] ∧ Γ' = .row 5 1 a x.n1 c (d.b.flatMap encB) :: [.pts h (encHeap (heapOf d x)) 138, .row 5 1 x.a1 x.n1 x.c1 (d.b.flatMap encB), .row 4 1 x.a2 x.n2 x.c2 (d.there.flatMap encO)])) := by
  refine spec_of (n := 21) (vs := [_]) (σ := [(0, _)]) Try.func45 rfl rfl rfl rfl fun E Δ => ?_
  simp only [List.cons_append, List.nil_append]
  refine t_rd (Γ := _) (rd_row (Pick.there Pick.here)) fun hb1 _ _ _ => ?_
  refine t_rd (Γ := _) (rd_row (Pick.there (Pick.there Pick.here))) fun hb2 _ _ _ => ?_
  replace hb1 := lenz hb1 (fun _ => rfl) (by decide)
  replace hb2 := lenz hb2 (fun _ => rfl) (by decide)
  refine c_seq ?_
  refine c_region ?_
  refine l_step (s_q rfl wn (q_assign rfl) ?_)
  refine l_step (s_q rfl wn (q_assign rfl) ?_)
  refine l_nil ?_
  refine k_then_n ?_
  refine c_seq ?_
  refine c_seq ?_
  refine c_region ?_
  refine l_step (s_q rfl wn (q_move rfl) ?_)
  refine l_step (s_q rfl wn (q_nilCheck rfl) ?_)
  refine l_step (s_q rfl wn (q_fieldp rfl fo_138_2) ?_)
  refine l_step (s_q rfl wn (q_loadp (v := .bool d.on) sc_4 rfl (by repeat (first | exact Pick.here | apply Pick.there)) rfl) ?_)
  refine l_step (s_q rfl wn (q_not rfl) ?_)
  refine l_step (s_q rfl wn (q_move rfl) ?_)
  refine l_step (s_qg rfl (ask_f rfl rfl) (b := (!(!d.on))) (fun hb => q_move rfl) ?_)
  refine l_step (s_qg rfl (ask_f rfl rfl) (b := (!(!d.on))) (fun hb => OpQ.env (.cons rfl (gd_t hb) (.nil _) : EnvLe [(10, .pointer (some ⟨h, 0, none⟩))] _) (q_nilCheck rfl)) ?_)
  refine l_step (s_qg rfl (ask_f rfl rfl) (b := (!(!d.on))) (fun hb => OpQ.env (.cons rfl (gd_t hb) (.nil _) : EnvLe [(11, .pointer (some ⟨h, 0, none⟩))] _) (q_fieldp rfl fo_138_5)) ?_)
  refine l_step (s_qg rfl (ask_f rfl rfl) (b := (!(!d.on))) (fun hb => OpQ.env (.cons rfl (gd_t hb) (.nil _) : EnvLe [(12, .pointer (some ⟨h, 10, none⟩))] _) (q_loadp (v := .int .i64 d.left) sc_3 rfl (by repeat (first | exact Pick.here | apply Pick.there)) rfl)) ?_)
  refine l_step (s_qg rfl (ask_f rfl rfl) (b := (!(!d.on))) (fun hb => OpQ.env (.cons rfl (gd_t hb) (.nil _) : EnvLe [(13, .int .i64 d.left)] _) (q_gtr rfl rfl)) ?_)
  refine l_step (s_q rfl wn (q_pick_or rfl rfl rfl (fun h => by first | (rw [h]; rfl) | exact congrArg not h)) ?_)
  refine l_nil ?_
  refine k_then_n ?_
  refine c_cond rfl (fun h0 => ?_) (fun h0 => ?_)
  · (try dsimp only [heapOf] at h0); try simp only [Bool.and_eq_true, Bool.or_eq_true, Bool.not_eq_true', Bool.and_eq_false_iff, Bool.or_eq_false_iff, Bool.not_eq_false', decide_eq_true_eq, decide_eq_false_iff_not, Bool.not_eq_eq_eq_not, Bool.not_true, Bool.not_false, Bool.not_eq_true, Bool.not_eq_false, beq_iff_eq, bne_iff_ne, ne_eq, Decidable.not_not] at h0
    refine c_seq ?_
    refine c_region ?_
    refine l_step (s_q rfl wn (q_assign rfl) ?_)
    refine l_step (s_q rfl wn (q_assign rfl) ?_)
    refine l_nil ?_
    refine k_then_n ?_
    refine c_ret ?_
    refine k_then_r ?_
    exact t_ret [.pts h (encHeap (heapOf d x)) 138, .row 5 1 x.a1 x.n1 x.c1 (d.b.flatMap encB), .row 4 1 x.a2 x.n2 x.c2 (d.there.flatMap encO)] rfl (.tmp rfl (.tmp rfl .nil)) rfl (Hp.le_refl _) ⟨rfl, .inl ⟨by unfold wholeOk; simp only [Bool.not_eq_false', Bool.or_eq_true, Bool.not_eq_true', decide_eq_true_eq]; exact h0, rfl, rfl⟩⟩ (by repeat (first | exact Ent.nil _ | exact Ent.refl _ | (refine Ent.pick (by repeat (first | exact Pick.here | apply Pick.there)) ?_) | refine Ent.skip ?_))
  · (try dsimp only [heapOf] at h0); try simp only [Bool.and_eq_true, Bool.or_eq_true, Bool.not_eq_true', Bool.and_eq_false_iff, Bool.or_eq_false_iff, Bool.not_eq_false', decide_eq_true_eq, decide_eq_false_iff_not, Bool.not_eq_eq_eq_not, Bool.not_true, Bool.not_false, Bool.not_eq_true, Bool.not_eq_false, beq_iff_eq, bne_iff_ne, ne_eq, Decidable.not_not] at h0
    refine c_skip ?_
    refine k_then_n ?_
    refine c_seq ?_
    refine c_region ?_
    refine l_step (s_q rfl wn (q_move rfl) ?_)
    refine l_step (s_q rfl wn (q_nilCheck rfl) ?_)
    refine l_step (s_q rfl wn (q_fieldp rfl fo_138_3) ?_)
    refine l_step (s_q rfl wn (q_loadp (v := .slice x.a1 x.n1 x.c1) sc_22 rfl (by repeat (first | exact Pick.here | apply Pick.there)) rfl) ?_)
    refine l_step (s_fnb rfl wn Try.func66 rfl (by kernel_rfl) rfl (by repeat (first | exact Sel.nil | exact Pick.here | apply Sel.cons | apply Pick.there)) (fun ρ' hL => bclone_spec x.a1 x.n1 x.c1 d.b (by first | rfl | assumption | simp | (simp <;> omega) | omega) ρ' (by first | assumption | omega | (simp; done)) (by first | exact hL.ro (by assumption) | exact hL.row (by repeat (first | exact Pick.here | apply Pick.there)) | assumption)) ?_)
    rintro _ _ ⟨a20, c20, rfl, rfl⟩
    try simp only [List.cons_append, List.nil_append]
    refine l_step (s_q rfl wn (q_assign rfl) ?_)
    refine l_step (s_q rfl wn (q_assign rfl) ?_)
    refine l_nil ?_
    refine k_then_n ?_
    refine c_ret ?_
    exact t_ret (.row 5 1 a20 x.n1 c20 (d.b.flatMap encB) :: [.pts h (encHeap (heapOf d x)) 138, .row 5 1 x.a1 x.n1 x.c1 (d.b.flatMap encB), .row 4 1 x.a2 x.n2 x.c2 (d.there.flatMap encO)]) rfl (.tmp rfl (.tmp rfl .nil)) rfl (Hp.le_refl _) ⟨rfl, .inr ⟨by unfold wholeOk; simpa using h0, a20, c20, rfl, rfl⟩⟩ (by repeat (first | exact Ent.nil _ | exact Ent.refl _ | (refine Ent.pick (by repeat (first | exact Pick.here | apply Pick.there)) ?_) | refine Ent.skip ?_))

theorem sfits_spec (w : BitVec 32) (b n cap : Nat) (a : Option Addr) (xs : List UInt8) (hn : xs.length = n) (hl : xs.length ≤ 1000000000000) (ρ : Hp) (h1 : Ro ρ 1 (some ⟨b, 0, none⟩) 1 1 ([(⟨a, n, cap⟩ : SH)].flatMap encSH)) (h2 : Ro ρ 1 a n cap (xs.flatMap encB)) : Spec0 Try.prog 18 #[.int .u32 (w.toNat : Int), .slice (some ⟨b, 0, none⟩) 1 1] ρ [] (fun v Γ' => v = .bool (decide (((sumB xs).toNat : Int) = (w.toNat : Int))) ∧ Γ' = []) := by
  have := Go.Sum.fits_spec w (some ⟨b, 0, none⟩) 1 [⟨a, cap, xs⟩] ρ [] (by simp) (by simpa using hl) ⟨fun _ => rd_ro (by subst hn; exact h1), fun t ht => by simp only [List.mem_singleton] at ht; subst ht; exact fun _ => rd_ro (by subst hn; exact h2)⟩
  simp only [List.flatMap_cons, List.flatMap_nil, List.append_nil] at this
  exact spec0_flip this

theorem take1_spec (h : Nat) (d : HD) (x : HX) (p : Piece) (ρ : Hp) (hok : HOk d) (ht : p.Total ≤ 1000000000) (hB : Ro ρ 1 p.B.a p.B.xs.length p.B.cap (p.B.xs.flatMap encB)) : Spec0 Try.prog 68 #[.pointer (some ⟨h, 0, none⟩), .agg (encPiece p).toArray] ρ [.pts h (encHeap (⟨d.most, d.of, d.on, ⟨x.a1, x.n1, x.c1⟩, ⟨x.a2, x.n2, x.c2⟩, d.left⟩ : Heap)) 138, .row 5 1 x.a1 x.n1 x.c1 (d.b.flatMap encB), .row 4 1 x.a2 x.n2 x.c2 (d.there.flatMap encO)] (fun v Γ' => ∃ x', v = .int .i64 (takeF d p).2 ∧ Γ' = (HeapM 138 5 4 h (takeF d p).1 x')) := by
  refine spec_of (n := 188) (vs := [_, _]) (σ := [(0, _), (1, _)]) Try.func68 rfl rfl rfl rfl fun E Δ => ?_
  simp only [List.cons_append, List.nil_append]
  have hm := hok.most
  refine c_seq ?_
  refine c_region ?_
  refine l_step (s_s rfl wn (s_box (cs := encPiece p) rfl rfl) ?_)
  rintro _ _ ⟨b3, rfl, rfl⟩
  refine l_step (s_q rfl wn (q_assign rfl) ?_)
  refine l_nil ?_
  refine k_then_n ?_
  refine c_seq ?_
  refine c_block ?_
  refine c_seq ?_
  refine c_region ?_
  refine l_step (s_q rfl wn (q_move rfl) ?_)
  refine l_step (s_q rfl wn (q_loadpa (vs := encPiece p) ag_95 rfl (by repeat (first | exact Pick.here | apply Pick.there)) rfl) ?_)
  refine l_step (s_fnr rfl wn Try.func75 rfl (by kernel_rfl) rfl (by repeat (first | exact Sel.nil | exact Pick.here | apply Sel.cons | apply Pick.there)) (fun ρ' hL => fits_spec h (⟨d.most, d.of, d.on, ⟨x.a1, x.n1, x.c1⟩, ⟨x.a2, x.n2, x.c2⟩, d.left⟩ : Heap) p ρ' (by assumption)) ?_)
  refine l_step (s_q rfl wn (q_not rfl) ?_)
  refine l_step (s_q rfl wn (q_assign rfl) ?_)
  refine l_nil ?_
  refine k_then_n ?_
  refine c_cond rfl (fun h0 => ?_) (fun h0 => ?_)
  · (try dsimp only [heapOf] at h0); try simp only [Bool.and_eq_true, Bool.or_eq_true, Bool.not_eq_true', Bool.and_eq_false_iff, Bool.or_eq_false_iff, Bool.not_eq_false', decide_eq_true_eq, decide_eq_false_iff_not, Bool.not_eq_eq_eq_not, Bool.not_true, Bool.not_false, Bool.not_eq_true, Bool.not_eq_false, beq_iff_eq, bne_iff_ne, ne_eq, Decidable.not_not] at h0
    refine c_seq ?_
    refine c_region ?_
    refine l_step (s_q rfl wn (q_assign rfl) ?_)
    refine l_nil ?_
    refine k_then_n ?_
    refine c_ret ?_
    refine k_blk_r ?_
    refine k_then_r ?_
    have hT := take_arg h0
    exact t_ret (HeapM 138 5 4 h d x) rfl (.tmp rfl .nil) rfl (Hp.le_refl _) ⟨rfl, x, (by rw [hT]; try rfl), (by rw [hT]; try rfl)⟩ (by simp only [HeapM, List.cons_append, List.nil_append]; exact (by repeat (first | exact Ent.nil _ | exact Ent.refl _ | (refine Ent.pick (by repeat (first | exact Pick.here | apply Pick.there)) ?_) | refine Ent.skip ?_)))
  · (try dsimp only [heapOf] at h0); try simp only [Bool.and_eq_true, Bool.or_eq_true, Bool.not_eq_true', Bool.and_eq_false_iff, Bool.or_eq_false_iff, Bool.not_eq_false', decide_eq_true_eq, decide_eq_false_iff_not, Bool.not_eq_eq_eq_not, Bool.not_true, Bool.not_false, Bool.not_eq_true, Bool.not_eq_false, beq_iff_eq, bne_iff_ne, ne_eq, Decidable.not_not] at h0
    obtain ⟨f1, f2, f3, f4, f5, f6, f7⟩ := fits_facts h0
    refine c_seq ?_
    refine c_draw (m := 38) (bs := #[false, false, false, false, false, false, false, false, false, false, false, false, false, false, false, false, false, false, false, false, false, false, false, false, false, false, false, false, false, false, false, false, false, false, false, false, false, false]) [.pts b3 (encPiece p) 95, .pts h (encHeap (⟨d.most, d.of, d.on, ⟨x.a1, x.n1, x.c1⟩, ⟨x.a2, x.n2, x.c2⟩, d.left⟩ : Heap)) 138, .row 5 1 x.a1 x.n1 x.c1 (d.b.flatMap encB), .row 4 1 x.a2 x.n2 x.c2 (d.there.flatMap encO)] (by kernel_rfl) rfl (by kernel_rfl) ?_
    refine r_take (i := 0) (bs' := #[true, false, false, false, false, false, false, false, false, false, false, false, false, false, false, false, false, false, false, false, false, false, false, false, false, false, false, false, false, false, false, false, false, false, false, false, false, false]) rfl (by kernel_rfl) (by kernel_rfl) (by kernel_rfl) (fun _ _ _ h => h) rfl wn (q_move rfl) (Hp.le_refl _) (by repeat (first | exact Ent.nil _ | exact Ent.refl _ | (refine Ent.pick (by repeat (first | exact Pick.here | apply Pick.there)) ?_) | refine Ent.skip ?_)) (by kernel_rfl) ?_
    refine r_take (i := 1) (bs' := #[true, true, false, false, false, false, false, false, false, false, false, false, false, false, false, false, false, false, false, false, false, false, false, false, false, false, false, false, false, false, false, false, false, false, false, false, false, false]) rfl (by kernel_rfl) (by kernel_rfl) (by kernel_rfl) (fun _ _ _ h => h) rfl wn (q_nilCheck rfl) (Hp.le_refl _) (by repeat (first | exact Ent.nil _ | exact Ent.refl _ | (refine Ent.pick (by repeat (first | exact Pick.here | apply Pick.there)) ?_) | refine Ent.skip ?_)) (by kernel_rfl) ?_
    refine r_take (i := 2) (bs' := #[true, true, true, false, false, false, false, false, false, false, false, false, false, false, false, false, false, false, false, false, false, false, false, false, false, false, false, false, false, false, false, false, false, false, false, false, false, false]) rfl (by kernel_rfl) (by kernel_rfl) (by kernel_rfl) (fun _ _ _ h => h) rfl wn (q_fieldp rfl fo_138_2) (Hp.le_refl _) (by repeat (first | exact Ent.nil _ | exact Ent.refl _ | (refine Ent.pick (by repeat (first | exact Pick.here | apply Pick.there)) ?_) | refine Ent.skip ?_)) (by kernel_rfl) ?_
    refine r_take (i := 3) (bs' := #[true, true, true, true, false, false, false, false, false, false, false, false, false, false, false, false, false, false, false, false, false, false, false, false, false, false, false, false, false, false, false, false, false, false, false, false, false, false]) rfl (by kernel_rfl) (by kernel_rfl) (by kernel_rfl) (fun _ _ _ h => h) rfl wn (q_loadp (v := .bool d.on) sc_4 rfl (by repeat (first | exact Pick.here | apply Pick.there)) rfl) (Hp.le_refl _) (by repeat (first | exact Ent.nil _ | exact Ent.refl _ | (refine Ent.pick (by repeat (first | exact Pick.here | apply Pick.there)) ?_) | refine Ent.skip ?_)) (by kernel_rfl) ?_
    refine r_take (i := 4) (bs' := #[true, true, true, true, true, false, false, false, false, false, false, false, false, false, false, false, false, false, false, false, false, false, false, false, false, false, false, false, false, false, false, false, false, false, false, false, false, false]) rfl (by kernel_rfl) (by kernel_rfl) (by kernel_rfl) (fun _ _ _ h => h) rfl wn (q_move rfl) (Hp.le_refl _) (by repeat (first | exact Ent.nil _ | exact Ent.refl _ | (refine Ent.pick (by repeat (first | exact Pick.here | apply Pick.there)) ?_) | refine Ent.skip ?_)) (by kernel_rfl) ?_
    refine r_takeg (i := 5) (b := d.on) (bs' := #[true, true, true, true, true, true, false, false, false, false, false, false, false, false, false, false, false, false, false, false, false, false, false, false, false, false, false, false, false, false, false, false, false, false, false, false, false, false]) rfl (by kernel_rfl) (by kernel_rfl) (by kernel_rfl) (fun _ _ _ h => h) rfl (ask_t rfl rfl) (fun hb => q_fieldp rfl fo_95_0) (Hp.le_refl _) (by repeat (first | exact Ent.nil _ | exact Ent.refl _ | (refine Ent.pick (by repeat (first | exact Pick.here | apply Pick.there)) ?_) | refine Ent.skip ?_)) (by kernel_rfl) ?_
    refine r_takeg (i := 6) (b := d.on) (bs' := #[true, true, true, true, true, true, true, false, false, false, false, false, false, false, false, false, false, false, false, false, false, false, false, false, false, false, false, false, false, false, false, false, false, false, false, false, false, false]) rfl (by kernel_rfl) (by kernel_rfl) (by kernel_rfl) (fun _ _ _ h => h) rfl (ask_t rfl rfl) (fun hb => OpQ.env (.cons rfl (gd_t hb) (.nil _) : EnvLe [(19, .pointer (some ⟨b3, 0, none⟩))] _) (q_fieldp rfl fo_87_0)) (Hp.le_refl _) (by repeat (first | exact Ent.nil _ | exact Ent.refl _ | (refine Ent.pick (by repeat (first | exact Pick.here | apply Pick.there)) ?_) | refine Ent.skip ?_)) (by kernel_rfl) ?_
    refine r_takeg (i := 7) (b := d.on) (bs' := #[true, true, true, true, true, true, true, true, false, false, false, false, false, false, false, false, false, false, false, false, false, false, false, false, false, false, false, false, false, false, false, false, false, false, false, false, false, false]) rfl (by kernel_rfl) (by kernel_rfl) (by kernel_rfl) (fun _ _ _ h => h) rfl (ask_t rfl rfl) (fun hb => OpQ.env (.cons rfl (gd_t hb) (.nil _) : EnvLe [(20, .pointer (some ⟨b3, 0, none⟩))] _) (q_loadp (v := .int .i64 p.Mark.Index) sc_3 rfl (by repeat (first | exact Pick.here | apply Pick.there)) rfl)) (Hp.le_refl _) (by repeat (first | exact Ent.nil _ | exact Ent.refl _ | (refine Ent.pick (by repeat (first | exact Pick.here | apply Pick.there)) ?_) | refine Ent.skip ?_)) (by kernel_rfl) ?_
    refine r_takeg (i := 8) (b := d.on) (bs' := #[true, true, true, true, true, true, true, true, true, false, false, false, false, false, false, false, false, false, false, false, false, false, false, false, false, false, false, false, false, false, false, false, false, false, false, false, false, false]) rfl (by kernel_rfl) (by kernel_rfl) (by kernel_rfl) (fun _ _ _ h => h) rfl (ask_t rfl rfl) (fun hb => q_move rfl) (Hp.le_refl _) (by repeat (first | exact Ent.nil _ | exact Ent.refl _ | (refine Ent.pick (by repeat (first | exact Pick.here | apply Pick.there)) ?_) | refine Ent.skip ?_)) (by kernel_rfl) ?_
    refine r_takeg (i := 9) (b := d.on) (bs' := #[true, true, true, true, true, true, true, true, true, true, false, false, false, false, false, false, false, false, false, false, false, false, false, false, false, false, false, false, false, false, false, false, false, false, false, false, false, false]) rfl (by kernel_rfl) (by kernel_rfl) (by kernel_rfl) (fun _ _ _ h => h) rfl (ask_t rfl rfl) (fun hb => OpQ.env (.cons rfl (gd_t hb) (.nil _) : EnvLe [(22, .pointer (some ⟨h, 0, none⟩))] _) (q_nilCheck rfl)) (Hp.le_refl _) (by repeat (first | exact Ent.nil _ | exact Ent.refl _ | (refine Ent.pick (by repeat (first | exact Pick.here | apply Pick.there)) ?_) | refine Ent.skip ?_)) (by kernel_rfl) ?_
    refine r_takeg (i := 10) (b := d.on) (bs' := #[true, true, true, true, true, true, true, true, true, true, true, false, false, false, false, false, false, false, false, false, false, false, false, false, false, false, false, false, false, false, false, false, false, false, false, false, false, false]) rfl (by kernel_rfl) (by kernel_rfl) (by kernel_rfl) (fun _ _ _ h => h) rfl (ask_t rfl rfl) (fun hb => OpQ.env (.cons rfl (gd_t hb) (.nil _) : EnvLe [(23, .pointer (some ⟨h, 0, none⟩))] _) (q_fieldp rfl fo_138_1)) (Hp.le_refl _) (by repeat (first | exact Ent.nil _ | exact Ent.refl _ | (refine Ent.pick (by repeat (first | exact Pick.here | apply Pick.there)) ?_) | refine Ent.skip ?_)) (by kernel_rfl) ?_
    refine r_takeg (i := 11) (b := d.on) (bs' := #[true, true, true, true, true, true, true, true, true, true, true, true, false, false, false, false, false, false, false, false, false, false, false, false, false, false, false, false, false, false, false, false, false, false, false, false, false, false]) rfl (by kernel_rfl) (by kernel_rfl) (by kernel_rfl) (fun _ _ _ h => h) rfl (ask_t rfl rfl) (fun hb => OpQ.env (.cons rfl (gd_t hb) (.nil _) : EnvLe [(24, .pointer (some ⟨h, 1, none⟩))] _) (q_fieldp rfl fo_95_0)) (Hp.le_refl _) (by repeat (first | exact Ent.nil _ | exact Ent.refl _ | (refine Ent.pick (by repeat (first | exact Pick.here | apply Pick.there)) ?_) | refine Ent.skip ?_)) (by kernel_rfl) ?_
    refine r_takeg (i := 12) (b := d.on) (bs' := #[true, true, true, true, true, true, true, true, true, true, true, true, true, false, false, false, false, false, false, false, false, false, false, false, false, false, false, false, false, false, false, false, false, false, false, false, false, false]) rfl (by kernel_rfl) (by kernel_rfl) (by kernel_rfl) (fun _ _ _ h => h) rfl (ask_t rfl rfl) (fun hb => OpQ.env (.cons rfl (gd_t hb) (.nil _) : EnvLe [(25, .pointer (some ⟨h, 1, none⟩))] _) (q_fieldp rfl fo_87_0)) (Hp.le_refl _) (by repeat (first | exact Ent.nil _ | exact Ent.refl _ | (refine Ent.pick (by repeat (first | exact Pick.here | apply Pick.there)) ?_) | refine Ent.skip ?_)) (by kernel_rfl) ?_
    refine r_takeg (i := 13) (b := d.on) (bs' := #[true, true, true, true, true, true, true, true, true, true, true, true, true, true, false, false, false, false, false, false, false, false, false, false, false, false, false, false, false, false, false, false, false, false, false, false, false, false]) rfl (by kernel_rfl) (by kernel_rfl) (by kernel_rfl) (fun _ _ _ h => h) rfl (ask_t rfl rfl) (fun hb => OpQ.env (.cons rfl (gd_t hb) (.nil _) : EnvLe [(26, .pointer (some ⟨h, 1, none⟩))] _) (q_loadp (v := .int .i64 d.of.Mark.Index) sc_3 rfl (by repeat (first | exact Pick.here | apply Pick.there)) rfl)) (Hp.le_refl _) (by repeat (first | exact Ent.nil _ | exact Ent.refl _ | (refine Ent.pick (by repeat (first | exact Pick.here | apply Pick.there)) ?_) | refine Ent.skip ?_)) (by kernel_rfl) ?_
    refine r_takeg (i := 14) (b := d.on) (bs' := #[true, true, true, true, true, true, true, true, true, true, true, true, true, true, true, false, false, false, false, false, false, false, false, false, false, false, false, false, false, false, false, false, false, false, false, false, false, false]) rfl (by kernel_rfl) (by kernel_rfl) (by kernel_rfl) (fun _ _ _ h => h) rfl (ask_t rfl rfl) (fun hb => OpQ.env (.cons rfl (gd_t hb) (.cons rfl (gd_t hb) (.nil _)) : EnvLe [(21, .int .i64 p.Mark.Index), (27, .int .i64 d.of.Mark.Index)] _) (q_lss rfl rfl)) (Hp.le_refl _) (by repeat (first | exact Ent.nil _ | exact Ent.refl _ | (refine Ent.pick (by repeat (first | exact Pick.here | apply Pick.there)) ?_) | refine Ent.skip ?_)) (by kernel_rfl) ?_
    refine r_takeg (i := 15) (b := d.on) (bs' := #[true, true, true, true, true, true, true, true, true, true, true, true, true, true, true, true, false, false, false, false, false, false, false, false, false, false, false, false, false, false, false, false, false, false, false, false, false, false]) rfl (by kernel_rfl) (by kernel_rfl) (by kernel_rfl) (fun _ _ _ h => h) rfl (ask_t rfl rfl) (fun hb => OpQ.env (.cons rfl (gd_t hb) (.nil _) : EnvLe [(28, .bool (decide (p.Mark.Index < d.of.Mark.Index)))] _) (q_move rfl)) (Hp.le_refl _) (by repeat (first | exact Ent.nil _ | exact Ent.refl _ | (refine Ent.pick (by repeat (first | exact Pick.here | apply Pick.there)) ?_) | refine Ent.skip ?_)) (by kernel_rfl) ?_
    refine r_takeg (i := 16) (b := (d.on && !(decide (p.Mark.Index < d.of.Mark.Index)))) (bs' := #[true, true, true, true, true, true, true, true, true, true, true, true, true, true, true, true, true, false, false, false, false, false, false, false, false, false, false, false, false, false, false, false, false, false, false, false, false, false]) rfl (by kernel_rfl) (by kernel_rfl) (by kernel_rfl) (fun _ _ _ h => h) rfl (ask_gf rfl rfl) (fun hb => q_fieldp rfl fo_95_0) (Hp.le_refl _) (by repeat (first | exact Ent.nil _ | exact Ent.refl _ | (refine Ent.pick (by repeat (first | exact Pick.here | apply Pick.there)) ?_) | refine Ent.skip ?_)) (by kernel_rfl) ?_
    refine r_takeg (i := 17) (b := (d.on && !(decide (p.Mark.Index < d.of.Mark.Index)))) (bs' := #[true, true, true, true, true, true, true, true, true, true, true, true, true, true, true, true, true, true, false, false, false, false, false, false, false, false, false, false, false, false, false, false, false, false, false, false, false, false]) rfl (by kernel_rfl) (by kernel_rfl) (by kernel_rfl) (fun _ _ _ h => h) rfl (ask_gf rfl rfl) (fun hb => OpQ.env (.cons rfl (gd_t hb) (.nil _) : EnvLe [(30, .pointer (some ⟨b3, 0, none⟩))] _) (q_fieldp rfl fo_87_0)) (Hp.le_refl _) (by repeat (first | exact Ent.nil _ | exact Ent.refl _ | (refine Ent.pick (by repeat (first | exact Pick.here | apply Pick.there)) ?_) | refine Ent.skip ?_)) (by kernel_rfl) ?_
    refine r_takeg (i := 18) (b := (d.on && !(decide (p.Mark.Index < d.of.Mark.Index)))) (bs' := #[true, true, true, true, true, true, true, true, true, true, true, true, true, true, true, true, true, true, true, false, false, false, false, false, false, false, false, false, false, false, false, false, false, false, false, false, false, false]) rfl (by kernel_rfl) (by kernel_rfl) (by kernel_rfl) (fun _ _ _ h => h) rfl (ask_gf rfl rfl) (fun hb => OpQ.env (.cons rfl (gd_t hb) (.nil _) : EnvLe [(31, .pointer (some ⟨b3, 0, none⟩))] _) (q_loadp (v := .int .i64 p.Mark.Index) sc_3 rfl (by repeat (first | exact Pick.here | apply Pick.there)) rfl)) (Hp.le_refl _) (by repeat (first | exact Ent.nil _ | exact Ent.refl _ | (refine Ent.pick (by repeat (first | exact Pick.here | apply Pick.there)) ?_) | refine Ent.skip ?_)) (by kernel_rfl) ?_
    refine r_takeg (i := 19) (b := (d.on && !(decide (p.Mark.Index < d.of.Mark.Index)))) (bs' := #[true, true, true, true, true, true, true, true, true, true, true, true, true, true, true, true, true, true, true, true, false, false, false, false, false, false, false, false, false, false, false, false, false, false, false, false, false, false]) rfl (by kernel_rfl) (by kernel_rfl) (by kernel_rfl) (fun _ _ _ h => h) rfl (ask_gf rfl rfl) (fun hb => q_move rfl) (Hp.le_refl _) (by repeat (first | exact Ent.nil _ | exact Ent.refl _ | (refine Ent.pick (by repeat (first | exact Pick.here | apply Pick.there)) ?_) | refine Ent.skip ?_)) (by kernel_rfl) ?_
    refine r_takeg (i := 20) (b := (d.on && !(decide (p.Mark.Index < d.of.Mark.Index)))) (bs' := #[true, true, true, true, true, true, true, true, true, true, true, true, true, true, true, true, true, true, true, true, true, false, false, false, false, false, false, false, false, false, false, false, false, false, false, false, false, false]) rfl (by kernel_rfl) (by kernel_rfl) (by kernel_rfl) (fun _ _ _ h => h) rfl (ask_gf rfl rfl) (fun hb => OpQ.env (.cons rfl (gd_t hb) (.nil _) : EnvLe [(33, .pointer (some ⟨h, 0, none⟩))] _) (q_nilCheck rfl)) (Hp.le_refl _) (by repeat (first | exact Ent.nil _ | exact Ent.refl _ | (refine Ent.pick (by repeat (first | exact Pick.here | apply Pick.there)) ?_) | refine Ent.skip ?_)) (by kernel_rfl) ?_
    refine r_takeg (i := 21) (b := (d.on && !(decide (p.Mark.Index < d.of.Mark.Index)))) (bs' := #[true, true, true, true, true, true, true, true, true, true, true, true, true, true, true, true, true, true, true, true, true, true, false, false, false, false, false, false, false, false, false, false, false, false, false, false, false, false]) rfl (by kernel_rfl) (by kernel_rfl) (by kernel_rfl) (fun _ _ _ h => h) rfl (ask_gf rfl rfl) (fun hb => OpQ.env (.cons rfl (gd_t hb) (.nil _) : EnvLe [(34, .pointer (some ⟨h, 0, none⟩))] _) (q_fieldp rfl fo_138_1)) (Hp.le_refl _) (by repeat (first | exact Ent.nil _ | exact Ent.refl _ | (refine Ent.pick (by repeat (first | exact Pick.here | apply Pick.there)) ?_) | refine Ent.skip ?_)) (by kernel_rfl) ?_
    refine r_takeg (i := 22) (b := (d.on && !(decide (p.Mark.Index < d.of.Mark.Index)))) (bs' := #[true, true, true, true, true, true, true, true, true, true, true, true, true, true, true, true, true, true, true, true, true, true, true, false, false, false, false, false, false, false, false, false, false, false, false, false, false, false]) rfl (by kernel_rfl) (by kernel_rfl) (by kernel_rfl) (fun _ _ _ h => h) rfl (ask_gf rfl rfl) (fun hb => OpQ.env (.cons rfl (gd_t hb) (.nil _) : EnvLe [(35, .pointer (some ⟨h, 1, none⟩))] _) (q_fieldp rfl fo_95_0)) (Hp.le_refl _) (by repeat (first | exact Ent.nil _ | exact Ent.refl _ | (refine Ent.pick (by repeat (first | exact Pick.here | apply Pick.there)) ?_) | refine Ent.skip ?_)) (by kernel_rfl) ?_
    refine r_takeg (i := 23) (b := (d.on && !(decide (p.Mark.Index < d.of.Mark.Index)))) (bs' := #[true, true, true, true, true, true, true, true, true, true, true, true, true, true, true, true, true, true, true, true, true, true, true, true, false, false, false, false, false, false, false, false, false, false, false, false, false, false]) rfl (by kernel_rfl) (by kernel_rfl) (by kernel_rfl) (fun _ _ _ h => h) rfl (ask_gf rfl rfl) (fun hb => OpQ.env (.cons rfl (gd_t hb) (.nil _) : EnvLe [(36, .pointer (some ⟨h, 1, none⟩))] _) (q_fieldp rfl fo_87_0)) (Hp.le_refl _) (by repeat (first | exact Ent.nil _ | exact Ent.refl _ | (refine Ent.pick (by repeat (first | exact Pick.here | apply Pick.there)) ?_) | refine Ent.skip ?_)) (by kernel_rfl) ?_
    refine r_takeg (i := 24) (b := (d.on && !(decide (p.Mark.Index < d.of.Mark.Index)))) (bs' := #[true, true, true, true, true, true, true, true, true, true, true, true, true, true, true, true, true, true, true, true, true, true, true, true, true, false, false, false, false, false, false, false, false, false, false, false, false, false]) rfl (by kernel_rfl) (by kernel_rfl) (by kernel_rfl) (fun _ _ _ h => h) rfl (ask_gf rfl rfl) (fun hb => OpQ.env (.cons rfl (gd_t hb) (.nil _) : EnvLe [(37, .pointer (some ⟨h, 1, none⟩))] _) (q_loadp (v := .int .i64 d.of.Mark.Index) sc_3 rfl (by repeat (first | exact Pick.here | apply Pick.there)) rfl)) (Hp.le_refl _) (by repeat (first | exact Ent.nil _ | exact Ent.refl _ | (refine Ent.pick (by repeat (first | exact Pick.here | apply Pick.there)) ?_) | refine Ent.skip ?_)) (by kernel_rfl) ?_
    refine r_takeg (i := 25) (b := (d.on && !(decide (p.Mark.Index < d.of.Mark.Index)))) (bs' := #[true, true, true, true, true, true, true, true, true, true, true, true, true, true, true, true, true, true, true, true, true, true, true, true, true, true, false, false, false, false, false, false, false, false, false, false, false, false]) rfl (by kernel_rfl) (by kernel_rfl) (by kernel_rfl) (fun _ _ _ h => h) rfl (ask_gf rfl rfl) (fun hb => OpQ.env (.cons rfl (gd_t hb) (.cons rfl (gd_t hb) (.nil _)) : EnvLe [(32, .int .i64 p.Mark.Index), (38, .int .i64 d.of.Mark.Index)] _) (q_eql rfl rfl)) (Hp.le_refl _) (by repeat (first | exact Ent.nil _ | exact Ent.refl _ | (refine Ent.pick (by repeat (first | exact Pick.here | apply Pick.there)) ?_) | refine Ent.skip ?_)) (by kernel_rfl) ?_
    refine r_takeg (i := 26) (b := (d.on && !(decide (p.Mark.Index < d.of.Mark.Index)))) (bs' := #[true, true, true, true, true, true, true, true, true, true, true, true, true, true, true, true, true, true, true, true, true, true, true, true, true, true, true, false, false, false, false, false, false, false, false, false, false, false]) rfl (by kernel_rfl) (by kernel_rfl) (by kernel_rfl) (fun _ _ _ h => h) rfl (ask_gf rfl rfl) (fun hb => OpQ.env (.cons rfl (gd_t hb) (.nil _) : EnvLe [(39, .bool (decide (p.Mark.Index = d.of.Mark.Index)))] _) (q_move rfl)) (Hp.le_refl _) (by repeat (first | exact Ent.nil _ | exact Ent.refl _ | (refine Ent.pick (by repeat (first | exact Pick.here | apply Pick.there)) ?_) | refine Ent.skip ?_)) (by kernel_rfl) ?_
    refine r_takeg (i := 27) (b := ((d.on && !(decide (p.Mark.Index < d.of.Mark.Index))) && (decide (p.Mark.Index = d.of.Mark.Index)))) (bs' := #[true, true, true, true, true, true, true, true, true, true, true, true, true, true, true, true, true, true, true, true, true, true, true, true, true, true, true, true, false, false, false, false, false, false, false, false, false, false]) rfl (by kernel_rfl) (by kernel_rfl) (by kernel_rfl) (fun _ _ _ h => h) rfl (ask_gt rfl rfl) (fun hb => q_loadpa (vs := encPiece p) ag_95 rfl (by repeat (first | exact Pick.here | apply Pick.there)) rfl) (Hp.le_refl _) (by repeat (first | exact Ent.nil _ | exact Ent.refl _ | (refine Ent.pick (by repeat (first | exact Pick.here | apply Pick.there)) ?_) | refine Ent.skip ?_)) (by kernel_rfl) ?_
    refine r_takeg (i := 28) (b := ((d.on && !(decide (p.Mark.Index < d.of.Mark.Index))) && (decide (p.Mark.Index = d.of.Mark.Index)))) (bs' := #[true, true, true, true, true, true, true, true, true, true, true, true, true, true, true, true, true, true, true, true, true, true, true, true, true, true, true, true, true, false, false, false, false, false, false, false, false, false]) rfl (by kernel_rfl) (by kernel_rfl) (by kernel_rfl) (fun _ _ _ h => h) rfl (ask_gt rfl rfl) (fun hb => q_move rfl) (Hp.le_refl _) (by repeat (first | exact Ent.nil _ | exact Ent.refl _ | (refine Ent.pick (by repeat (first | exact Pick.here | apply Pick.there)) ?_) | refine Ent.skip ?_)) (by kernel_rfl) ?_
    refine r_takeg (i := 29) (b := ((d.on && !(decide (p.Mark.Index < d.of.Mark.Index))) && (decide (p.Mark.Index = d.of.Mark.Index)))) (bs' := #[true, true, true, true, true, true, true, true, true, true, true, true, true, true, true, true, true, true, true, true, true, true, true, true, true, true, true, true, true, true, false, false, false, false, false, false, false, false]) rfl (by kernel_rfl) (by kernel_rfl) (by kernel_rfl) (fun _ _ _ h => h) rfl (ask_gt rfl rfl) (fun hb => OpQ.env (.cons rfl (gd_t hb) (.nil _) : EnvLe [(42, .pointer (some ⟨h, 0, none⟩))] _) (q_nilCheck rfl)) (Hp.le_refl _) (by repeat (first | exact Ent.nil _ | exact Ent.refl _ | (refine Ent.pick (by repeat (first | exact Pick.here | apply Pick.there)) ?_) | refine Ent.skip ?_)) (by kernel_rfl) ?_
    refine r_takeg (i := 30) (b := ((d.on && !(decide (p.Mark.Index < d.of.Mark.Index))) && (decide (p.Mark.Index = d.of.Mark.Index)))) (bs' := #[true, true, true, true, true, true, true, true, true, true, true, true, true, true, true, true, true, true, true, true, true, true, true, true, true, true, true, true, true, true, true, false, false, false, false, false, false, false]) rfl (by kernel_rfl) (by kernel_rfl) (by kernel_rfl) (fun _ _ _ h => h) rfl (ask_gt rfl rfl) (fun hb => OpQ.env (.cons rfl (gd_t hb) (.nil _) : EnvLe [(43, .pointer (some ⟨h, 0, none⟩))] _) (q_fieldp rfl fo_138_1)) (Hp.le_refl _) (by repeat (first | exact Ent.nil _ | exact Ent.refl _ | (refine Ent.pick (by repeat (first | exact Pick.here | apply Pick.there)) ?_) | refine Ent.skip ?_)) (by kernel_rfl) ?_
    refine r_takeg (i := 31) (b := ((d.on && !(decide (p.Mark.Index < d.of.Mark.Index))) && (decide (p.Mark.Index = d.of.Mark.Index)))) (bs' := #[true, true, true, true, true, true, true, true, true, true, true, true, true, true, true, true, true, true, true, true, true, true, true, true, true, true, true, true, true, true, true, true, false, false, false, false, false, false]) rfl (by kernel_rfl) (by kernel_rfl) (by kernel_rfl) (fun _ _ _ h => h) rfl (ask_gt rfl rfl) (fun hb => OpQ.env (.cons rfl (gd_t hb) (.nil _) : EnvLe [(44, .pointer (some ⟨h, 1, none⟩))] _) (q_loadpa (vs := encPiece d.of) ag_95 rfl (by repeat (first | exact Pick.here | apply Pick.there)) rfl)) (Hp.le_refl _) (by repeat (first | exact Ent.nil _ | exact Ent.refl _ | (refine Ent.pick (by repeat (first | exact Pick.here | apply Pick.there)) ?_) | refine Ent.skip ?_)) (by kernel_rfl) ?_
    refine r_one (i := 32) (bs' := #[true, true, true, true, true, true, true, true, true, true, true, true, true, true, true, true, true, true, true, true, true, true, true, true, true, true, true, true, true, true, true, true, true, false, false, false, false, false]) (by kernel_rfl) (by kernel_rfl) ?_
    refine o_step rfl (s_fnqg (b := ((d.on && !(decide (p.Mark.Index < d.of.Mark.Index))) && (decide (p.Mark.Index = d.of.Mark.Index)))) rfl (ask_gt rfl rfl) Try.func76 rfl (by kernel_rfl) (fun hb => (.cons rfl (gd_t hb) (.cons rfl (gd_t hb) (.nil _)) : EnvLe [(41, .agg (encPiece p).toArray), (45, .agg (encPiece d.of).toArray)] _)) rfl (fun hb ρ' hL => together_spec p d.of ρ') ?_)
    refine r_cont (Hp.le_refl _) (by repeat (first | exact Ent.nil _ | exact Ent.refl _ | (refine Ent.pick (by repeat (first | exact Pick.here | apply Pick.there)) ?_) | refine Ent.skip ?_)) ?_
    refine r_takeg (i := 33) (b := ((d.on && !(decide (p.Mark.Index < d.of.Mark.Index))) && (decide (p.Mark.Index = d.of.Mark.Index)))) (bs' := #[true, true, true, true, true, true, true, true, true, true, true, true, true, true, true, true, true, true, true, true, true, true, true, true, true, true, true, true, true, true, true, true, true, true, false, false, false, false]) rfl (by kernel_rfl) (by kernel_rfl) (by kernel_rfl) (fun _ _ _ h => h) rfl (ask_gt rfl rfl) (fun hb => OpQ.env (.cons rfl (gd_t hb) (.nil _) : EnvLe [(46, .bool (togetherB p d.of))] _) (q_not rfl)) (Hp.le_refl _) (by repeat (first | exact Ent.nil _ | exact Ent.refl _ | (refine Ent.pick (by repeat (first | exact Pick.here | apply Pick.there)) ?_) | refine Ent.skip ?_)) (by kernel_rfl) ?_
    refine r_takeg (i := 34) (b := (d.on && !(decide (p.Mark.Index < d.of.Mark.Index)))) (bs' := #[true, true, true, true, true, true, true, true, true, true, true, true, true, true, true, true, true, true, true, true, true, true, true, true, true, true, true, true, true, true, true, true, true, true, true, false, false, false]) rfl (by kernel_rfl) (by kernel_rfl) (by kernel_rfl) (fun _ _ _ h => h) rfl (ask_gf rfl rfl) (fun hb => OpQ.env (.cons rfl (gd_t hb) (.cons rfl rfl (.nil _)) : EnvLe [(40, .bool (decide (p.Mark.Index = d.of.Mark.Index))), (47, gd ((d.on && !(decide (p.Mark.Index < d.of.Mark.Index))) && (decide (p.Mark.Index = d.of.Mark.Index))) (.bool (!(togetherB p d.of))))] _) (q_pick_and rfl rfl rfl (fun h => by simp_all))) (Hp.le_refl _) (by repeat (first | exact Ent.nil _ | exact Ent.refl _ | (refine Ent.pick (by repeat (first | exact Pick.here | apply Pick.there)) ?_) | refine Ent.skip ?_)) (by kernel_rfl) ?_
    refine r_takeg (i := 35) (b := d.on) (bs' := #[true, true, true, true, true, true, true, true, true, true, true, true, true, true, true, true, true, true, true, true, true, true, true, true, true, true, true, true, true, true, true, true, true, true, true, true, false, false]) rfl (by kernel_rfl) (by kernel_rfl) (by kernel_rfl) (fun _ _ _ h => h) rfl (ask_t rfl rfl) (fun hb => OpQ.env (.cons rfl (gd_t hb) (.cons rfl rfl (.nil _)) : EnvLe [(29, .bool (decide (p.Mark.Index < d.of.Mark.Index))), (48, gd (d.on && !(decide (p.Mark.Index < d.of.Mark.Index))) (.bool ((decide (p.Mark.Index = d.of.Mark.Index)) && (!(togetherB p d.of)))))] _) (q_pick_or rfl rfl rfl (fun h => by simp_all))) (Hp.le_refl _) (by repeat (first | exact Ent.nil _ | exact Ent.refl _ | (refine Ent.pick (by repeat (first | exact Pick.here | apply Pick.there)) ?_) | refine Ent.skip ?_)) (by kernel_rfl) ?_
    refine r_take (i := 36) (bs' := #[true, true, true, true, true, true, true, true, true, true, true, true, true, true, true, true, true, true, true, true, true, true, true, true, true, true, true, true, true, true, true, true, true, true, true, true, true, false]) rfl (by kernel_rfl) (by kernel_rfl) (by kernel_rfl) (fun _ _ _ h => h) rfl wn (q_pick_and rfl rfl rfl (fun h => h)) (Hp.le_refl _) (by repeat (first | exact Ent.nil _ | exact Ent.refl _ | (refine Ent.pick (by repeat (first | exact Pick.here | apply Pick.there)) ?_) | refine Ent.skip ?_)) (by kernel_rfl) ?_
    refine r_take (i := 37) (bs' := #[true, true, true, true, true, true, true, true, true, true, true, true, true, true, true, true, true, true, true, true, true, true, true, true, true, true, true, true, true, true, true, true, true, true, true, true, true, true]) rfl (by kernel_rfl) (by kernel_rfl) (by kernel_rfl) (fun _ _ _ h => h) rfl wn (q_assign rfl) (Hp.le_refl _) (by repeat (first | exact Ent.nil _ | exact Ent.refl _ | (refine Ent.pick (by repeat (first | exact Pick.here | apply Pick.there)) ?_) | refine Ent.skip ?_)) (by kernel_rfl) ?_
    refine r_done (by kernel_rfl) ?_
    refine k_then_n ?_
    refine c_cond rfl (fun h1 => ?_) (fun h1 => ?_)
    · skip
      have h1 : staleB d p = true := by simpa [staleB] using h1
      refine c_seq ?_
      refine c_region ?_
      refine l_step (s_q rfl wn (q_assign rfl) ?_)
      refine l_nil ?_
      refine k_then_n ?_
      refine c_ret ?_
      refine k_blk_r ?_
      refine k_then_r ?_
      have hT := take_stale h0 h1
      exact t_ret (HeapM 138 5 4 h d x) rfl (.tmp rfl .nil) rfl (Hp.le_refl _) ⟨rfl, x, (by rw [hT]; try rfl), (by rw [hT]; try rfl)⟩ (by simp only [HeapM, List.cons_append, List.nil_append]; exact (by repeat (first | exact Ent.nil _ | exact Ent.refl _ | (refine Ent.pick (by repeat (first | exact Pick.here | apply Pick.there)) ?_) | refine Ent.skip ?_)))
    · skip
      have h1 : staleB d p = false := by simpa [staleB] using h1
      obtain ⟨hok1, hon1, hl1, htot, hsum, hmk⟩ := begun_facts hok ht h0 h1
      refine c_seq ?_
      refine c_draw (m := 18) (bs := #[false, false, false, false, false, false, false, false, false, false, false, false, false, false, false, false, false, false]) [.pts b3 (encPiece p) 95, .pts h (encHeap (⟨d.most, d.of, d.on, ⟨x.a1, x.n1, x.c1⟩, ⟨x.a2, x.n2, x.c2⟩, d.left⟩ : Heap)) 138, .row 5 1 x.a1 x.n1 x.c1 (d.b.flatMap encB), .row 4 1 x.a2 x.n2 x.c2 (d.there.flatMap encO)] (by kernel_rfl) rfl (by kernel_rfl) ?_
      refine r_take (i := 0) (bs' := #[true, false, false, false, false, false, false, false, false, false, false, false, false, false, false, false, false, false]) rfl (by kernel_rfl) (by kernel_rfl) (by kernel_rfl) (fun _ _ _ h => h) rfl wn (q_move rfl) (Hp.le_refl _) (by repeat (first | exact Ent.nil _ | exact Ent.refl _ | (refine Ent.pick (by repeat (first | exact Pick.here | apply Pick.there)) ?_) | refine Ent.skip ?_)) (by kernel_rfl) ?_
      refine r_take (i := 1) (bs' := #[true, true, false, false, false, false, false, false, false, false, false, false, false, false, false, false, false, false]) rfl (by kernel_rfl) (by kernel_rfl) (by kernel_rfl) (fun _ _ _ h => h) rfl wn (q_nilCheck rfl) (Hp.le_refl _) (by repeat (first | exact Ent.nil _ | exact Ent.refl _ | (refine Ent.pick (by repeat (first | exact Pick.here | apply Pick.there)) ?_) | refine Ent.skip ?_)) (by kernel_rfl) ?_
      refine r_take (i := 2) (bs' := #[true, true, true, false, false, false, false, false, false, false, false, false, false, false, false, false, false, false]) rfl (by kernel_rfl) (by kernel_rfl) (by kernel_rfl) (fun _ _ _ h => h) rfl wn (q_fieldp rfl fo_138_2) (Hp.le_refl _) (by repeat (first | exact Ent.nil _ | exact Ent.refl _ | (refine Ent.pick (by repeat (first | exact Pick.here | apply Pick.there)) ?_) | refine Ent.skip ?_)) (by kernel_rfl) ?_
      refine r_take (i := 3) (bs' := #[true, true, true, true, false, false, false, false, false, false, false, false, false, false, false, false, false, false]) rfl (by kernel_rfl) (by kernel_rfl) (by kernel_rfl) (fun _ _ _ h => h) rfl wn (q_loadp (v := .bool d.on) sc_4 rfl (by repeat (first | exact Pick.here | apply Pick.there)) rfl) (Hp.le_refl _) (by repeat (first | exact Ent.nil _ | exact Ent.refl _ | (refine Ent.pick (by repeat (first | exact Pick.here | apply Pick.there)) ?_) | refine Ent.skip ?_)) (by kernel_rfl) ?_
      refine r_take (i := 4) (bs' := #[true, true, true, true, true, false, false, false, false, false, false, false, false, false, false, false, false, false]) rfl (by kernel_rfl) (by kernel_rfl) (by kernel_rfl) (fun _ _ _ h => h) rfl wn (q_not rfl) (Hp.le_refl _) (by repeat (first | exact Ent.nil _ | exact Ent.refl _ | (refine Ent.pick (by repeat (first | exact Pick.here | apply Pick.there)) ?_) | refine Ent.skip ?_)) (by kernel_rfl) ?_
      refine r_take (i := 5) (bs' := #[true, true, true, true, true, true, false, false, false, false, false, false, false, false, false, false, false, false]) rfl (by kernel_rfl) (by kernel_rfl) (by kernel_rfl) (fun _ _ _ h => h) rfl wn (q_move rfl) (Hp.le_refl _) (by repeat (first | exact Ent.nil _ | exact Ent.refl _ | (refine Ent.pick (by repeat (first | exact Pick.here | apply Pick.there)) ?_) | refine Ent.skip ?_)) (by kernel_rfl) ?_
      refine r_takeg (i := 6) (b := (!(!d.on))) (bs' := #[true, true, true, true, true, true, true, false, false, false, false, false, false, false, false, false, false, false]) rfl (by kernel_rfl) (by kernel_rfl) (by kernel_rfl) (fun _ _ _ h => h) rfl (ask_f rfl rfl) (fun hb => q_fieldp rfl fo_95_0) (Hp.le_refl _) (by repeat (first | exact Ent.nil _ | exact Ent.refl _ | (refine Ent.pick (by repeat (first | exact Pick.here | apply Pick.there)) ?_) | refine Ent.skip ?_)) (by kernel_rfl) ?_
      refine r_takeg (i := 7) (b := (!(!d.on))) (bs' := #[true, true, true, true, true, true, true, true, false, false, false, false, false, false, false, false, false, false]) rfl (by kernel_rfl) (by kernel_rfl) (by kernel_rfl) (fun _ _ _ h => h) rfl (ask_f rfl rfl) (fun hb => OpQ.env (.cons rfl (gd_t hb) (.nil _) : EnvLe [(58, .pointer (some ⟨b3, 0, none⟩))] _) (q_fieldp rfl fo_87_0)) (Hp.le_refl _) (by repeat (first | exact Ent.nil _ | exact Ent.refl _ | (refine Ent.pick (by repeat (first | exact Pick.here | apply Pick.there)) ?_) | refine Ent.skip ?_)) (by kernel_rfl) ?_
      refine r_takeg (i := 8) (b := (!(!d.on))) (bs' := #[true, true, true, true, true, true, true, true, true, false, false, false, false, false, false, false, false, false]) rfl (by kernel_rfl) (by kernel_rfl) (by kernel_rfl) (fun _ _ _ h => h) rfl (ask_f rfl rfl) (fun hb => OpQ.env (.cons rfl (gd_t hb) (.nil _) : EnvLe [(59, .pointer (some ⟨b3, 0, none⟩))] _) (q_loadp (v := .int .i64 p.Mark.Index) sc_3 rfl (by repeat (first | exact Pick.here | apply Pick.there)) rfl)) (Hp.le_refl _) (by repeat (first | exact Ent.nil _ | exact Ent.refl _ | (refine Ent.pick (by repeat (first | exact Pick.here | apply Pick.there)) ?_) | refine Ent.skip ?_)) (by kernel_rfl) ?_
      refine r_takeg (i := 9) (b := (!(!d.on))) (bs' := #[true, true, true, true, true, true, true, true, true, true, false, false, false, false, false, false, false, false]) rfl (by kernel_rfl) (by kernel_rfl) (by kernel_rfl) (fun _ _ _ h => h) rfl (ask_f rfl rfl) (fun hb => q_move rfl) (Hp.le_refl _) (by repeat (first | exact Ent.nil _ | exact Ent.refl _ | (refine Ent.pick (by repeat (first | exact Pick.here | apply Pick.there)) ?_) | refine Ent.skip ?_)) (by kernel_rfl) ?_
      refine r_takeg (i := 10) (b := (!(!d.on))) (bs' := #[true, true, true, true, true, true, true, true, true, true, true, false, false, false, false, false, false, false]) rfl (by kernel_rfl) (by kernel_rfl) (by kernel_rfl) (fun _ _ _ h => h) rfl (ask_f rfl rfl) (fun hb => OpQ.env (.cons rfl (gd_t hb) (.nil _) : EnvLe [(61, .pointer (some ⟨h, 0, none⟩))] _) (q_nilCheck rfl)) (Hp.le_refl _) (by repeat (first | exact Ent.nil _ | exact Ent.refl _ | (refine Ent.pick (by repeat (first | exact Pick.here | apply Pick.there)) ?_) | refine Ent.skip ?_)) (by kernel_rfl) ?_
      refine r_takeg (i := 11) (b := (!(!d.on))) (bs' := #[true, true, true, true, true, true, true, true, true, true, true, true, false, false, false, false, false, false]) rfl (by kernel_rfl) (by kernel_rfl) (by kernel_rfl) (fun _ _ _ h => h) rfl (ask_f rfl rfl) (fun hb => OpQ.env (.cons rfl (gd_t hb) (.nil _) : EnvLe [(62, .pointer (some ⟨h, 0, none⟩))] _) (q_fieldp rfl fo_138_1)) (Hp.le_refl _) (by repeat (first | exact Ent.nil _ | exact Ent.refl _ | (refine Ent.pick (by repeat (first | exact Pick.here | apply Pick.there)) ?_) | refine Ent.skip ?_)) (by kernel_rfl) ?_
      refine r_takeg (i := 12) (b := (!(!d.on))) (bs' := #[true, true, true, true, true, true, true, true, true, true, true, true, true, false, false, false, false, false]) rfl (by kernel_rfl) (by kernel_rfl) (by kernel_rfl) (fun _ _ _ h => h) rfl (ask_f rfl rfl) (fun hb => OpQ.env (.cons rfl (gd_t hb) (.nil _) : EnvLe [(63, .pointer (some ⟨h, 1, none⟩))] _) (q_fieldp rfl fo_95_0)) (Hp.le_refl _) (by repeat (first | exact Ent.nil _ | exact Ent.refl _ | (refine Ent.pick (by repeat (first | exact Pick.here | apply Pick.there)) ?_) | refine Ent.skip ?_)) (by kernel_rfl) ?_
      refine r_takeg (i := 13) (b := (!(!d.on))) (bs' := #[true, true, true, true, true, true, true, true, true, true, true, true, true, true, false, false, false, false]) rfl (by kernel_rfl) (by kernel_rfl) (by kernel_rfl) (fun _ _ _ h => h) rfl (ask_f rfl rfl) (fun hb => OpQ.env (.cons rfl (gd_t hb) (.nil _) : EnvLe [(64, .pointer (some ⟨h, 1, none⟩))] _) (q_fieldp rfl fo_87_0)) (Hp.le_refl _) (by repeat (first | exact Ent.nil _ | exact Ent.refl _ | (refine Ent.pick (by repeat (first | exact Pick.here | apply Pick.there)) ?_) | refine Ent.skip ?_)) (by kernel_rfl) ?_
      refine r_takeg (i := 14) (b := (!(!d.on))) (bs' := #[true, true, true, true, true, true, true, true, true, true, true, true, true, true, true, false, false, false]) rfl (by kernel_rfl) (by kernel_rfl) (by kernel_rfl) (fun _ _ _ h => h) rfl (ask_f rfl rfl) (fun hb => OpQ.env (.cons rfl (gd_t hb) (.nil _) : EnvLe [(65, .pointer (some ⟨h, 1, none⟩))] _) (q_loadp (v := .int .i64 d.of.Mark.Index) sc_3 rfl (by repeat (first | exact Pick.here | apply Pick.there)) rfl)) (Hp.le_refl _) (by repeat (first | exact Ent.nil _ | exact Ent.refl _ | (refine Ent.pick (by repeat (first | exact Pick.here | apply Pick.there)) ?_) | refine Ent.skip ?_)) (by kernel_rfl) ?_
      refine r_takeg (i := 15) (b := (!(!d.on))) (bs' := #[true, true, true, true, true, true, true, true, true, true, true, true, true, true, true, true, false, false]) rfl (by kernel_rfl) (by kernel_rfl) (by kernel_rfl) (fun _ _ _ h => h) rfl (ask_f rfl rfl) (fun hb => OpQ.env (.cons rfl (gd_t hb) (.cons rfl (gd_t hb) (.nil _)) : EnvLe [(60, .int .i64 p.Mark.Index), (66, .int .i64 d.of.Mark.Index)] _) (q_gtr rfl rfl)) (Hp.le_refl _) (by repeat (first | exact Ent.nil _ | exact Ent.refl _ | (refine Ent.pick (by repeat (first | exact Pick.here | apply Pick.there)) ?_) | refine Ent.skip ?_)) (by kernel_rfl) ?_
      refine r_take (i := 16) (bs' := #[true, true, true, true, true, true, true, true, true, true, true, true, true, true, true, true, true, false]) rfl (by kernel_rfl) (by kernel_rfl) (by kernel_rfl) (fun _ _ _ h => h) rfl wn (q_pick_or rfl rfl rfl (fun h => by first | (rw [h]; rfl) | exact congrArg not h)) (Hp.le_refl _) (by repeat (first | exact Ent.nil _ | exact Ent.refl _ | (refine Ent.pick (by repeat (first | exact Pick.here | apply Pick.there)) ?_) | refine Ent.skip ?_)) (by kernel_rfl) ?_
      refine r_take (i := 17) (bs' := #[true, true, true, true, true, true, true, true, true, true, true, true, true, true, true, true, true, true]) rfl (by kernel_rfl) (by kernel_rfl) (by kernel_rfl) (fun _ _ _ h => h) rfl wn (q_assign rfl) (Hp.le_refl _) (by repeat (first | exact Ent.nil _ | exact Ent.refl _ | (refine Ent.pick (by repeat (first | exact Pick.here | apply Pick.there)) ?_) | refine Ent.skip ?_)) (by kernel_rfl) ?_
      refine r_done (by kernel_rfl) ?_
      refine k_then_n ?_
      refine t_cutq (ι := HX) (fun x1 => True) (fun x1 => [(0, .pointer (some ⟨h, 0, none⟩)), (3, .pointer (some ⟨b3, 0, none⟩)), (4, .int .i64 0)]) (fun x1 => .pts b3 (encPiece p) 95 :: .pts h (encHeap (⟨(begunD d p).most, (begunD d p).of, (begunD d p).on, ⟨x1.a1, x1.n1, x1.c1⟩, ⟨x1.a2, x1.n2, x1.c2⟩, (begunD d p).left⟩ : Heap)) 138 :: .row 5 1 x1.a1 x1.n1 x1.c1 (((begunD d p).b).flatMap encB) :: .row 4 1 x1.a2 x1.n2 x1.c2 (((begunD d p).there).flatMap encO) :: Δ) ?_ ?_
      · skip
        refine c_cond rfl (fun h2 => ?_) (fun h2 => ?_)
        · skip
          have hbg : begunD d p = ⟨d.most, p, true, List.replicate p.Total.toNat 0, List.replicate p.Total.toNat false, p.Total⟩ := if_pos h2
          refine c_seq ?_
          refine c_region ?_
          refine l_step (s_q rfl wn (q_move rfl) ?_)
          refine l_step (s_q rfl wn (q_move rfl) ?_)
          refine l_step (s_q rfl wn (q_loadpa (vs := encPiece p) ag_95 rfl (by repeat (first | exact Pick.here | apply Pick.there)) rfl) ?_)
          refine l_step (s_q rfl wn (q_nilCheck rfl) ?_)
          refine l_step (s_q rfl wn (q_fieldp rfl fo_138_1) ?_)
          refine l_step (s_s0 wn (s_storep (ws := encPiece p) (cs := encHeap (⟨d.most, d.of, d.on, ⟨x.a1, x.n1, x.c1⟩, ⟨x.a2, x.n2, x.c2⟩, d.left⟩ : Heap)) (cs' := encHeap (⟨d.most, p, d.on, ⟨x.a1, x.n1, x.c1⟩, ⟨x.a2, x.n2, x.c2⟩, d.left⟩ : Heap)) rfl rfl rfl sz_95 (onePiece _) (by simp [encHeap, encPiece]) rfl (by repeat (first | exact Pick.here | apply Pick.there))) ?_)
          rintro _ _ ⟨rfl, rfl⟩
          refine l_step (s_q rfl wn (q_nilCheck rfl) ?_)
          refine l_step (s_q rfl wn (q_fieldp rfl fo_138_2) ?_)
          refine l_step (s_s0 wn (s_storep (ws := [.bool true]) (cs := encHeap (⟨d.most, p, d.on, ⟨x.a1, x.n1, x.c1⟩, ⟨x.a2, x.n2, x.c2⟩, d.left⟩ : Heap)) (cs' := encHeap (⟨d.most, p, true, ⟨x.a1, x.n1, x.c1⟩, ⟨x.a2, x.n2, x.c2⟩, d.left⟩ : Heap)) rfl rfl rfl sz_4 (by simp [Value.oneCell', strB, ptV, SL.v, SH.v]) (by simp [encHeap]) rfl (by repeat (first | exact Pick.here | apply Pick.there))) ?_)
          rintro _ _ ⟨rfl, rfl⟩
          refine l_nil ?_
          refine k_then_n ?_
          refine c_draw (m := 20) (bs := #[false, false, false, false, false, false, false, false, false, false, false, false, false, false, false, false, false, false, false, false]) [.pts b3 (encPiece p) 95, .row 5 1 x.a1 x.n1 x.c1 (d.b.flatMap encB), .row 4 1 x.a2 x.n2 x.c2 (d.there.flatMap encO)] (by kernel_rfl) rfl (by kernel_rfl) ?_
          refine r_take (i := 0) (bs' := #[true, false, false, false, false, false, false, false, false, false, false, false, false, false, false, false, false, false, false, false]) rfl (by kernel_rfl) (by kernel_rfl) (by kernel_rfl) (fun _ _ _ h => h) rfl wn (q_move rfl) (Hp.le_refl _) (by repeat (first | exact Ent.nil _ | exact Ent.refl _ | (refine Ent.pick (by repeat (first | exact Pick.here | apply Pick.there)) ?_) | refine Ent.skip ?_)) (by kernel_rfl) ?_
          refine r_take (i := 1) (bs' := #[true, true, false, false, false, false, false, false, false, false, false, false, false, false, false, false, false, false, false, false]) rfl (by kernel_rfl) (by kernel_rfl) (by kernel_rfl) (fun _ _ _ h => h) rfl wn (q_move rfl) (Hp.le_refl _) (by repeat (first | exact Ent.nil _ | exact Ent.refl _ | (refine Ent.pick (by repeat (first | exact Pick.here | apply Pick.there)) ?_) | refine Ent.skip ?_)) (by kernel_rfl) ?_
          refine r_take (i := 2) (bs' := #[true, true, true, false, false, false, false, false, false, false, false, false, false, false, false, false, false, false, false, false]) rfl (by kernel_rfl) (by kernel_rfl) (by kernel_rfl) (fun _ _ _ h => h) rfl wn (q_move rfl) (Hp.le_refl _) (by repeat (first | exact Ent.nil _ | exact Ent.refl _ | (refine Ent.pick (by repeat (first | exact Pick.here | apply Pick.there)) ?_) | refine Ent.skip ?_)) (by kernel_rfl) ?_
          refine r_take (i := 3) (bs' := #[true, true, true, true, false, false, false, false, false, false, false, false, false, false, false, false, false, false, false, false]) rfl (by kernel_rfl) (by kernel_rfl) (by kernel_rfl) (fun _ _ _ h => h) rfl wn (q_fieldp rfl fo_95_2) (Hp.le_refl _) (by repeat (first | exact Ent.nil _ | exact Ent.refl _ | (refine Ent.pick (by repeat (first | exact Pick.here | apply Pick.there)) ?_) | refine Ent.skip ?_)) (by kernel_rfl) ?_
          refine r_take (i := 4) (bs' := #[true, true, true, true, true, false, false, false, false, false, false, false, false, false, false, false, false, false, false, false]) rfl (by kernel_rfl) (by kernel_rfl) (by kernel_rfl) (fun _ _ _ h => h) rfl wn (q_loadp (v := .int .i64 p.Total) sc_3 rfl (by repeat (first | exact Pick.here | apply Pick.there)) rfl) (Hp.le_refl _) (by repeat (first | exact Ent.nil _ | exact Ent.refl _ | (refine Ent.pick (by repeat (first | exact Pick.here | apply Pick.there)) ?_) | refine Ent.skip ?_)) (by kernel_rfl) ?_
          refine r_take (i := 6) (bs' := #[true, true, true, true, true, false, true, false, false, false, false, false, false, false, false, false, false, false, false, false]) rfl (by kernel_rfl) (by kernel_rfl) (by kernel_rfl) (fun _ _ _ h => h) rfl wn (q_fieldp rfl fo_95_2) (Hp.le_refl _) (by repeat (first | exact Ent.nil _ | exact Ent.refl _ | (refine Ent.pick (by repeat (first | exact Pick.here | apply Pick.there)) ?_) | refine Ent.skip ?_)) (by kernel_rfl) ?_
          refine r_take (i := 7) (bs' := #[true, true, true, true, true, false, true, true, false, false, false, false, false, false, false, false, false, false, false, false]) rfl (by kernel_rfl) (by kernel_rfl) (by kernel_rfl) (fun _ _ _ h => h) rfl wn (q_loadp (v := .int .i64 p.Total) sc_3 rfl (by repeat (first | exact Pick.here | apply Pick.there)) rfl) (Hp.le_refl _) (by repeat (first | exact Ent.nil _ | exact Ent.refl _ | (refine Ent.pick (by repeat (first | exact Pick.here | apply Pick.there)) ?_) | refine Ent.skip ?_)) (by kernel_rfl) ?_
          refine r_take (i := 9) (bs' := #[true, true, true, true, true, false, true, true, false, true, false, false, false, false, false, false, false, false, false, false]) rfl (by kernel_rfl) (by kernel_rfl) (by kernel_rfl) (fun _ _ _ h => h) rfl wn (q_fieldp rfl fo_95_2) (Hp.le_refl _) (by repeat (first | exact Ent.nil _ | exact Ent.refl _ | (refine Ent.pick (by repeat (first | exact Pick.here | apply Pick.there)) ?_) | refine Ent.skip ?_)) (by kernel_rfl) ?_
          refine r_take (i := 10) (bs' := #[true, true, true, true, true, false, true, true, false, true, true, false, false, false, false, false, false, false, false, false]) rfl (by kernel_rfl) (by kernel_rfl) (by kernel_rfl) (fun _ _ _ h => h) rfl wn (q_loadp (v := .int .i64 p.Total) sc_3 rfl (by repeat (first | exact Pick.here | apply Pick.there)) rfl) (Hp.le_refl _) (by repeat (first | exact Ent.nil _ | exact Ent.refl _ | (refine Ent.pick (by repeat (first | exact Pick.here | apply Pick.there)) ?_) | refine Ent.skip ?_)) (by kernel_rfl) ?_
          refine r_two (i := 5) (j := 8) (bi := #[true, true, true, true, true, true, true, true, false, true, true, false, false, false, false, false, false, false, false, false]) (bj := #[true, true, true, true, true, false, true, true, true, true, true, false, false, false, false, false, false, false, false, false]) (by kernel_rfl) (by kernel_rfl) (by kernel_rfl) ?_ ?_
          · skip
            refine o_step rfl (s_s rfl wn (s_makeSlicee (enc := encB) (z := 0) Try.underlying22 eo_5 zc_5 rfl rfl rfl (by omega) rfl (by omega) (by omega)) ?_)
            rintro _ _ ⟨b81, rfl, rfl⟩
            refine r_cont (Hp.le_refl _) (by repeat (first | exact Ent.nil _ | exact Ent.refl _ | (refine Ent.pick (by repeat (first | exact Pick.here | apply Pick.there)) ?_) | refine Ent.skip ?_)) ?_
            refine r_take (i := 11) (bs' := #[true, true, true, true, true, true, true, true, false, true, true, true, false, false, false, false, false, false, false, false]) rfl (by kernel_rfl) (by kernel_rfl) (by kernel_rfl) (fun _ _ _ h => h) rfl wn (q_nilCheck rfl) (Hp.le_refl _) (by repeat (first | exact Ent.nil _ | exact Ent.refl _ | (refine Ent.pick (by repeat (first | exact Pick.here | apply Pick.there)) ?_) | refine Ent.skip ?_)) (by kernel_rfl) ?_
            refine r_take (i := 12) (bs' := #[true, true, true, true, true, true, true, true, false, true, true, true, true, false, false, false, false, false, false, false]) rfl (by kernel_rfl) (by kernel_rfl) (by kernel_rfl) (fun _ _ _ h => h) rfl wn (q_fieldp rfl fo_138_3) (Hp.le_refl _) (by repeat (first | exact Ent.nil _ | exact Ent.refl _ | (refine Ent.pick (by repeat (first | exact Pick.here | apply Pick.there)) ?_) | refine Ent.skip ?_)) (by kernel_rfl) ?_
            refine r_two (i := 8) (j := 13) (bi := #[true, true, true, true, true, true, true, true, true, true, true, true, true, false, false, false, false, false, false, false]) (bj := #[true, true, true, true, true, true, true, true, false, true, true, true, true, true, false, false, false, false, false, false]) (by kernel_rfl) (by kernel_rfl) (by kernel_rfl) ?_ ?_
            · skip
              refine o_step rfl (s_s rfl wn (s_makeSlicee (enc := encO) (z := false) Try.underlying60 eo_4 zc_4 rfl rfl rfl (by omega) rfl (by omega) (by omega)) ?_)
              rintro _ _ ⟨b84, rfl, rfl⟩
              refine r_cont (Hp.le_refl _) (by repeat (first | exact Ent.nil _ | exact Ent.refl _ | (refine Ent.pick (by repeat (first | exact Pick.here | apply Pick.there)) ?_) | refine Ent.skip ?_)) ?_
              refine r_one (i := 13) (bs' := #[true, true, true, true, true, true, true, true, true, true, true, true, true, true, false, false, false, false, false, false]) (by kernel_rfl) (by kernel_rfl) ?_
              refine o_step rfl (s_s0 wn (s_storep (ws := [.slice (some ⟨b81, 0, none⟩) ((p.Total).toNat) ((p.Total).toNat)]) (cs := encHeap (⟨d.most, p, true, ⟨x.a1, x.n1, x.c1⟩, ⟨x.a2, x.n2, x.c2⟩, d.left⟩ : Heap)) (cs' := encHeap (⟨d.most, p, true, ⟨(some ⟨b81, 0, none⟩), (p.Total).toNat, (p.Total).toNat⟩, ⟨x.a2, x.n2, x.c2⟩, d.left⟩ : Heap)) rfl rfl rfl sz_22 (by simp [Value.oneCell', strB, ptV, SL.v, SH.v]) (by simp [encHeap]) rfl (by repeat (first | exact Pick.here | apply Pick.there))) ?_)
              rintro _ _ ⟨rfl, rfl⟩
              refine r_cont (Hp.le_refl _) (by repeat (first | exact Ent.nil _ | exact Ent.refl _ | (refine Ent.pick (by repeat (first | exact Pick.here | apply Pick.there)) ?_) | refine Ent.skip ?_)) ?_
              refine r_take (i := 14) (bs' := #[true, true, true, true, true, true, true, true, true, true, true, true, true, true, true, false, false, false, false, false]) rfl (by kernel_rfl) (by kernel_rfl) (by kernel_rfl) (fun _ _ _ h => h) rfl wn (q_nilCheck rfl) (Hp.le_refl _) (by repeat (first | exact Ent.nil _ | exact Ent.refl _ | (refine Ent.pick (by repeat (first | exact Pick.here | apply Pick.there)) ?_) | refine Ent.skip ?_)) (by kernel_rfl) ?_
              refine r_take (i := 15) (bs' := #[true, true, true, true, true, true, true, true, true, true, true, true, true, true, true, true, false, false, false, false]) rfl (by kernel_rfl) (by kernel_rfl) (by kernel_rfl) (fun _ _ _ h => h) rfl wn (q_fieldp rfl fo_138_4) (Hp.le_refl _) (by repeat (first | exact Ent.nil _ | exact Ent.refl _ | (refine Ent.pick (by repeat (first | exact Pick.here | apply Pick.there)) ?_) | refine Ent.skip ?_)) (by kernel_rfl) ?_
              refine r_one (i := 16) (bs' := #[true, true, true, true, true, true, true, true, true, true, true, true, true, true, true, true, true, false, false, false]) (by kernel_rfl) (by kernel_rfl) ?_
              refine o_step rfl (s_s0 wn (s_storep (ws := [.slice (some ⟨b84, 0, none⟩) ((p.Total).toNat) ((p.Total).toNat)]) (cs := encHeap (⟨d.most, p, true, ⟨(some ⟨b81, 0, none⟩), (p.Total).toNat, (p.Total).toNat⟩, ⟨x.a2, x.n2, x.c2⟩, d.left⟩ : Heap)) (cs' := encHeap (⟨d.most, p, true, ⟨(some ⟨b81, 0, none⟩), (p.Total).toNat, (p.Total).toNat⟩, ⟨(some ⟨b84, 0, none⟩), (p.Total).toNat, (p.Total).toNat⟩, d.left⟩ : Heap)) rfl rfl rfl sz_60 (by simp [Value.oneCell', strB, ptV, SL.v, SH.v]) (by simp [encHeap]) rfl (by repeat (first | exact Pick.here | apply Pick.there))) ?_)
              rintro _ _ ⟨rfl, rfl⟩
              refine r_cont (Hp.le_refl _) (by repeat (first | exact Ent.nil _ | exact Ent.refl _ | (refine Ent.pick (by repeat (first | exact Pick.here | apply Pick.there)) ?_) | refine Ent.skip ?_)) ?_
              refine r_take (i := 17) (bs' := #[true, true, true, true, true, true, true, true, true, true, true, true, true, true, true, true, true, true, false, false]) rfl (by kernel_rfl) (by kernel_rfl) (by kernel_rfl) (fun _ _ _ h => h) rfl wn (q_nilCheck rfl) (Hp.le_refl _) (by repeat (first | exact Ent.nil _ | exact Ent.refl _ | (refine Ent.pick (by repeat (first | exact Pick.here | apply Pick.there)) ?_) | refine Ent.skip ?_)) (by kernel_rfl) ?_
              refine r_take (i := 18) (bs' := #[true, true, true, true, true, true, true, true, true, true, true, true, true, true, true, true, true, true, true, false]) rfl (by kernel_rfl) (by kernel_rfl) (by kernel_rfl) (fun _ _ _ h => h) rfl wn (q_fieldp rfl fo_138_5) (Hp.le_refl _) (by repeat (first | exact Ent.nil _ | exact Ent.refl _ | (refine Ent.pick (by repeat (first | exact Pick.here | apply Pick.there)) ?_) | refine Ent.skip ?_)) (by kernel_rfl) ?_
              refine r_one (i := 19) (bs' := #[true, true, true, true, true, true, true, true, true, true, true, true, true, true, true, true, true, true, true, true]) (by kernel_rfl) (by kernel_rfl) ?_
              refine o_step rfl (s_s0 wn (s_storep (ws := [.int .i64 p.Total]) (cs := encHeap (⟨d.most, p, true, ⟨(some ⟨b81, 0, none⟩), (p.Total).toNat, (p.Total).toNat⟩, ⟨(some ⟨b84, 0, none⟩), (p.Total).toNat, (p.Total).toNat⟩, d.left⟩ : Heap)) (cs' := encHeap (⟨d.most, p, true, ⟨(some ⟨b81, 0, none⟩), (p.Total).toNat, (p.Total).toNat⟩, ⟨(some ⟨b84, 0, none⟩), (p.Total).toNat, (p.Total).toNat⟩, p.Total⟩ : Heap)) rfl rfl rfl sz_3 (by simp [Value.oneCell', strB, ptV, SL.v, SH.v]) (by simp [encHeap]) rfl (by repeat (first | exact Pick.here | apply Pick.there))) ?_)
              rintro _ _ ⟨rfl, rfl⟩
              refine r_cont (Hp.le_refl _) (by repeat (first | exact Ent.nil _ | exact Ent.refl _ | (refine Ent.pick (by repeat (first | exact Pick.here | apply Pick.there)) ?_) | refine Ent.skip ?_)) ?_
              refine r_done (by kernel_rfl) ?_
              refine k_then_n ?_
              rw [hbg]
              exact t_next ⟨some ⟨b81, 0, none⟩, p.Total.toNat, p.Total.toNat, some ⟨b84, 0, none⟩, p.Total.toNat, p.Total.toNat⟩ trivial (.cons rfl (by first | rfl | exact inte (by omega) | (simp; done) | (simp <;> omega) | simp [*]) (.cons rfl (by first | rfl | exact inte (by omega) | (simp; done) | (simp <;> omega) | simp [*]) (.cons rfl (by first | rfl | exact inte (by omega) | (simp; done) | (simp <;> omega) | simp [*]) (.nil _)))) (by repeat (first | exact Ent.nil _ | exact Ent.refl _ | (refine Ent.pick (by repeat (first | exact Pick.here | apply Pick.there)) ?_) | refine Ent.skip ?_))
            · skip
              refine o_step rfl (s_s0 wn (s_storep (ws := [.slice (some ⟨b81, 0, none⟩) ((p.Total).toNat) ((p.Total).toNat)]) (cs := encHeap (⟨d.most, p, true, ⟨x.a1, x.n1, x.c1⟩, ⟨x.a2, x.n2, x.c2⟩, d.left⟩ : Heap)) (cs' := encHeap (⟨d.most, p, true, ⟨(some ⟨b81, 0, none⟩), (p.Total).toNat, (p.Total).toNat⟩, ⟨x.a2, x.n2, x.c2⟩, d.left⟩ : Heap)) rfl rfl rfl sz_22 (by simp [Value.oneCell', strB, ptV, SL.v, SH.v]) (by simp [encHeap]) rfl (by repeat (first | exact Pick.here | apply Pick.there))) ?_)
              rintro _ _ ⟨rfl, rfl⟩
              refine r_cont (Hp.le_refl _) (by repeat (first | exact Ent.nil _ | exact Ent.refl _ | (refine Ent.pick (by repeat (first | exact Pick.here | apply Pick.there)) ?_) | refine Ent.skip ?_)) ?_
              refine r_one (i := 8) (bs' := #[true, true, true, true, true, true, true, true, true, true, true, true, true, true, false, false, false, false, false, false]) (by kernel_rfl) (by kernel_rfl) ?_
              refine o_step rfl (s_s rfl wn (s_makeSlicee (enc := encO) (z := false) Try.underlying60 eo_4 zc_4 rfl rfl rfl (by omega) rfl (by omega) (by omega)) ?_)
              rintro _ _ ⟨b84, rfl, rfl⟩
              refine r_cont (Hp.le_refl _) (by repeat (first | exact Ent.nil _ | exact Ent.refl _ | (refine Ent.pick (by repeat (first | exact Pick.here | apply Pick.there)) ?_) | refine Ent.skip ?_)) ?_
              refine r_take (i := 14) (bs' := #[true, true, true, true, true, true, true, true, true, true, true, true, true, true, true, false, false, false, false, false]) rfl (by kernel_rfl) (by kernel_rfl) (by kernel_rfl) (fun _ _ _ h => h) rfl wn (q_nilCheck rfl) (Hp.le_refl _) (by repeat (first | exact Ent.nil _ | exact Ent.refl _ | (refine Ent.pick (by repeat (first | exact Pick.here | apply Pick.there)) ?_) | refine Ent.skip ?_)) (by kernel_rfl) ?_
              refine r_take (i := 15) (bs' := #[true, true, true, true, true, true, true, true, true, true, true, true, true, true, true, true, false, false, false, false]) rfl (by kernel_rfl) (by kernel_rfl) (by kernel_rfl) (fun _ _ _ h => h) rfl wn (q_fieldp rfl fo_138_4) (Hp.le_refl _) (by repeat (first | exact Ent.nil _ | exact Ent.refl _ | (refine Ent.pick (by repeat (first | exact Pick.here | apply Pick.there)) ?_) | refine Ent.skip ?_)) (by kernel_rfl) ?_
              refine r_one (i := 16) (bs' := #[true, true, true, true, true, true, true, true, true, true, true, true, true, true, true, true, true, false, false, false]) (by kernel_rfl) (by kernel_rfl) ?_
              refine o_step rfl (s_s0 wn (s_storep (ws := [.slice (some ⟨b84, 0, none⟩) ((p.Total).toNat) ((p.Total).toNat)]) (cs := encHeap (⟨d.most, p, true, ⟨(some ⟨b81, 0, none⟩), (p.Total).toNat, (p.Total).toNat⟩, ⟨x.a2, x.n2, x.c2⟩, d.left⟩ : Heap)) (cs' := encHeap (⟨d.most, p, true, ⟨(some ⟨b81, 0, none⟩), (p.Total).toNat, (p.Total).toNat⟩, ⟨(some ⟨b84, 0, none⟩), (p.Total).toNat, (p.Total).toNat⟩, d.left⟩ : Heap)) rfl rfl rfl sz_60 (by simp [Value.oneCell', strB, ptV, SL.v, SH.v]) (by simp [encHeap]) rfl (by repeat (first | exact Pick.here | apply Pick.there))) ?_)
              rintro _ _ ⟨rfl, rfl⟩
              refine r_cont (Hp.le_refl _) (by repeat (first | exact Ent.nil _ | exact Ent.refl _ | (refine Ent.pick (by repeat (first | exact Pick.here | apply Pick.there)) ?_) | refine Ent.skip ?_)) ?_
              refine r_take (i := 17) (bs' := #[true, true, true, true, true, true, true, true, true, true, true, true, true, true, true, true, true, true, false, false]) rfl (by kernel_rfl) (by kernel_rfl) (by kernel_rfl) (fun _ _ _ h => h) rfl wn (q_nilCheck rfl) (Hp.le_refl _) (by repeat (first | exact Ent.nil _ | exact Ent.refl _ | (refine Ent.pick (by repeat (first | exact Pick.here | apply Pick.there)) ?_) | refine Ent.skip ?_)) (by kernel_rfl) ?_
              refine r_take (i := 18) (bs' := #[true, true, true, true, true, true, true, true, true, true, true, true, true, true, true, true, true, true, true, false]) rfl (by kernel_rfl) (by kernel_rfl) (by kernel_rfl) (fun _ _ _ h => h) rfl wn (q_fieldp rfl fo_138_5) (Hp.le_refl _) (by repeat (first | exact Ent.nil _ | exact Ent.refl _ | (refine Ent.pick (by repeat (first | exact Pick.here | apply Pick.there)) ?_) | refine Ent.skip ?_)) (by kernel_rfl) ?_
              refine r_one (i := 19) (bs' := #[true, true, true, true, true, true, true, true, true, true, true, true, true, true, true, true, true, true, true, true]) (by kernel_rfl) (by kernel_rfl) ?_
              refine o_step rfl (s_s0 wn (s_storep (ws := [.int .i64 p.Total]) (cs := encHeap (⟨d.most, p, true, ⟨(some ⟨b81, 0, none⟩), (p.Total).toNat, (p.Total).toNat⟩, ⟨(some ⟨b84, 0, none⟩), (p.Total).toNat, (p.Total).toNat⟩, d.left⟩ : Heap)) (cs' := encHeap (⟨d.most, p, true, ⟨(some ⟨b81, 0, none⟩), (p.Total).toNat, (p.Total).toNat⟩, ⟨(some ⟨b84, 0, none⟩), (p.Total).toNat, (p.Total).toNat⟩, p.Total⟩ : Heap)) rfl rfl rfl sz_3 (by simp [Value.oneCell', strB, ptV, SL.v, SH.v]) (by simp [encHeap]) rfl (by repeat (first | exact Pick.here | apply Pick.there))) ?_)
              rintro _ _ ⟨rfl, rfl⟩
              refine r_cont (Hp.le_refl _) (by repeat (first | exact Ent.nil _ | exact Ent.refl _ | (refine Ent.pick (by repeat (first | exact Pick.here | apply Pick.there)) ?_) | refine Ent.skip ?_)) ?_
              refine r_done (by kernel_rfl) ?_
              refine k_then_n ?_
              rw [hbg]
              exact t_next ⟨some ⟨b81, 0, none⟩, p.Total.toNat, p.Total.toNat, some ⟨b84, 0, none⟩, p.Total.toNat, p.Total.toNat⟩ trivial (.cons rfl (by first | rfl | exact inte (by omega) | (simp; done) | (simp <;> omega) | simp [*]) (.cons rfl (by first | rfl | exact inte (by omega) | (simp; done) | (simp <;> omega) | simp [*]) (.cons rfl (by first | rfl | exact inte (by omega) | (simp; done) | (simp <;> omega) | simp [*]) (.nil _)))) (by repeat (first | exact Ent.nil _ | exact Ent.refl _ | (refine Ent.pick (by repeat (first | exact Pick.here | apply Pick.there)) ?_) | refine Ent.skip ?_))
          · skip
            refine o_step rfl (s_s rfl wn (s_makeSlicee (enc := encO) (z := false) Try.underlying60 eo_4 zc_4 rfl rfl rfl (by omega) rfl (by omega) (by omega)) ?_)
            rintro _ _ ⟨b84, rfl, rfl⟩
            refine r_cont (Hp.le_refl _) (by repeat (first | exact Ent.nil _ | exact Ent.refl _ | (refine Ent.pick (by repeat (first | exact Pick.here | apply Pick.there)) ?_) | refine Ent.skip ?_)) ?_
            refine r_one (i := 5) (bs' := #[true, true, true, true, true, true, true, true, true, true, true, false, false, false, false, false, false, false, false, false]) (by kernel_rfl) (by kernel_rfl) ?_
            refine o_step rfl (s_s rfl wn (s_makeSlicee (enc := encB) (z := 0) Try.underlying22 eo_5 zc_5 rfl rfl rfl (by omega) rfl (by omega) (by omega)) ?_)
            rintro _ _ ⟨b81, rfl, rfl⟩
            refine r_cont (Hp.le_refl _) (by repeat (first | exact Ent.nil _ | exact Ent.refl _ | (refine Ent.pick (by repeat (first | exact Pick.here | apply Pick.there)) ?_) | refine Ent.skip ?_)) ?_
            refine r_take (i := 11) (bs' := #[true, true, true, true, true, true, true, true, true, true, true, true, false, false, false, false, false, false, false, false]) rfl (by kernel_rfl) (by kernel_rfl) (by kernel_rfl) (fun _ _ _ h => h) rfl wn (q_nilCheck rfl) (Hp.le_refl _) (by repeat (first | exact Ent.nil _ | exact Ent.refl _ | (refine Ent.pick (by repeat (first | exact Pick.here | apply Pick.there)) ?_) | refine Ent.skip ?_)) (by kernel_rfl) ?_
            refine r_take (i := 12) (bs' := #[true, true, true, true, true, true, true, true, true, true, true, true, true, false, false, false, false, false, false, false]) rfl (by kernel_rfl) (by kernel_rfl) (by kernel_rfl) (fun _ _ _ h => h) rfl wn (q_fieldp rfl fo_138_3) (Hp.le_refl _) (by repeat (first | exact Ent.nil _ | exact Ent.refl _ | (refine Ent.pick (by repeat (first | exact Pick.here | apply Pick.there)) ?_) | refine Ent.skip ?_)) (by kernel_rfl) ?_
            refine r_one (i := 13) (bs' := #[true, true, true, true, true, true, true, true, true, true, true, true, true, true, false, false, false, false, false, false]) (by kernel_rfl) (by kernel_rfl) ?_
            refine o_step rfl (s_s0 wn (s_storep (ws := [.slice (some ⟨b81, 0, none⟩) ((p.Total).toNat) ((p.Total).toNat)]) (cs := encHeap (⟨d.most, p, true, ⟨x.a1, x.n1, x.c1⟩, ⟨x.a2, x.n2, x.c2⟩, d.left⟩ : Heap)) (cs' := encHeap (⟨d.most, p, true, ⟨(some ⟨b81, 0, none⟩), (p.Total).toNat, (p.Total).toNat⟩, ⟨x.a2, x.n2, x.c2⟩, d.left⟩ : Heap)) rfl rfl rfl sz_22 (by simp [Value.oneCell', strB, ptV, SL.v, SH.v]) (by simp [encHeap]) rfl (by repeat (first | exact Pick.here | apply Pick.there))) ?_)
            rintro _ _ ⟨rfl, rfl⟩
            refine r_cont (Hp.le_refl _) (by repeat (first | exact Ent.nil _ | exact Ent.refl _ | (refine Ent.pick (by repeat (first | exact Pick.here | apply Pick.there)) ?_) | refine Ent.skip ?_)) ?_
            refine r_take (i := 14) (bs' := #[true, true, true, true, true, true, true, true, true, true, true, true, true, true, true, false, false, false, false, false]) rfl (by kernel_rfl) (by kernel_rfl) (by kernel_rfl) (fun _ _ _ h => h) rfl wn (q_nilCheck rfl) (Hp.le_refl _) (by repeat (first | exact Ent.nil _ | exact Ent.refl _ | (refine Ent.pick (by repeat (first | exact Pick.here | apply Pick.there)) ?_) | refine Ent.skip ?_)) (by kernel_rfl) ?_
            refine r_take (i := 15) (bs' := #[true, true, true, true, true, true, true, true, true, true, true, true, true, true, true, true, false, false, false, false]) rfl (by kernel_rfl) (by kernel_rfl) (by kernel_rfl) (fun _ _ _ h => h) rfl wn (q_fieldp rfl fo_138_4) (Hp.le_refl _) (by repeat (first | exact Ent.nil _ | exact Ent.refl _ | (refine Ent.pick (by repeat (first | exact Pick.here | apply Pick.there)) ?_) | refine Ent.skip ?_)) (by kernel_rfl) ?_
            refine r_one (i := 16) (bs' := #[true, true, true, true, true, true, true, true, true, true, true, true, true, true, true, true, true, false, false, false]) (by kernel_rfl) (by kernel_rfl) ?_
            refine o_step rfl (s_s0 wn (s_storep (ws := [.slice (some ⟨b84, 0, none⟩) ((p.Total).toNat) ((p.Total).toNat)]) (cs := encHeap (⟨d.most, p, true, ⟨(some ⟨b81, 0, none⟩), (p.Total).toNat, (p.Total).toNat⟩, ⟨x.a2, x.n2, x.c2⟩, d.left⟩ : Heap)) (cs' := encHeap (⟨d.most, p, true, ⟨(some ⟨b81, 0, none⟩), (p.Total).toNat, (p.Total).toNat⟩, ⟨(some ⟨b84, 0, none⟩), (p.Total).toNat, (p.Total).toNat⟩, d.left⟩ : Heap)) rfl rfl rfl sz_60 (by simp [Value.oneCell', strB, ptV, SL.v, SH.v]) (by simp [encHeap]) rfl (by repeat (first | exact Pick.here | apply Pick.there))) ?_)
            rintro _ _ ⟨rfl, rfl⟩
            refine r_cont (Hp.le_refl _) (by repeat (first | exact Ent.nil _ | exact Ent.refl _ | (refine Ent.pick (by repeat (first | exact Pick.here | apply Pick.there)) ?_) | refine Ent.skip ?_)) ?_
            refine r_take (i := 17) (bs' := #[true, true, true, true, true, true, true, true, true, true, true, true, true, true, true, true, true, true, false, false]) rfl (by kernel_rfl) (by kernel_rfl) (by kernel_rfl) (fun _ _ _ h => h) rfl wn (q_nilCheck rfl) (Hp.le_refl _) (by repeat (first | exact Ent.nil _ | exact Ent.refl _ | (refine Ent.pick (by repeat (first | exact Pick.here | apply Pick.there)) ?_) | refine Ent.skip ?_)) (by kernel_rfl) ?_
            refine r_take (i := 18) (bs' := #[true, true, true, true, true, true, true, true, true, true, true, true, true, true, true, true, true, true, true, false]) rfl (by kernel_rfl) (by kernel_rfl) (by kernel_rfl) (fun _ _ _ h => h) rfl wn (q_fieldp rfl fo_138_5) (Hp.le_refl _) (by repeat (first | exact Ent.nil _ | exact Ent.refl _ | (refine Ent.pick (by repeat (first | exact Pick.here | apply Pick.there)) ?_) | refine Ent.skip ?_)) (by kernel_rfl) ?_
            refine r_one (i := 19) (bs' := #[true, true, true, true, true, true, true, true, true, true, true, true, true, true, true, true, true, true, true, true]) (by kernel_rfl) (by kernel_rfl) ?_
            refine o_step rfl (s_s0 wn (s_storep (ws := [.int .i64 p.Total]) (cs := encHeap (⟨d.most, p, true, ⟨(some ⟨b81, 0, none⟩), (p.Total).toNat, (p.Total).toNat⟩, ⟨(some ⟨b84, 0, none⟩), (p.Total).toNat, (p.Total).toNat⟩, d.left⟩ : Heap)) (cs' := encHeap (⟨d.most, p, true, ⟨(some ⟨b81, 0, none⟩), (p.Total).toNat, (p.Total).toNat⟩, ⟨(some ⟨b84, 0, none⟩), (p.Total).toNat, (p.Total).toNat⟩, p.Total⟩ : Heap)) rfl rfl rfl sz_3 (by simp [Value.oneCell', strB, ptV, SL.v, SH.v]) (by simp [encHeap]) rfl (by repeat (first | exact Pick.here | apply Pick.there))) ?_)
            rintro _ _ ⟨rfl, rfl⟩
            refine r_cont (Hp.le_refl _) (by repeat (first | exact Ent.nil _ | exact Ent.refl _ | (refine Ent.pick (by repeat (first | exact Pick.here | apply Pick.there)) ?_) | refine Ent.skip ?_)) ?_
            refine r_done (by kernel_rfl) ?_
            refine k_then_n ?_
            rw [hbg]
            exact t_next ⟨some ⟨b81, 0, none⟩, p.Total.toNat, p.Total.toNat, some ⟨b84, 0, none⟩, p.Total.toNat, p.Total.toNat⟩ trivial (.cons rfl (by first | rfl | exact inte (by omega) | (simp; done) | (simp <;> omega) | simp [*]) (.cons rfl (by first | rfl | exact inte (by omega) | (simp; done) | (simp <;> omega) | simp [*]) (.cons rfl (by first | rfl | exact inte (by omega) | (simp; done) | (simp <;> omega) | simp [*]) (.nil _)))) (by repeat (first | exact Ent.nil _ | exact Ent.refl _ | (refine Ent.pick (by repeat (first | exact Pick.here | apply Pick.there)) ?_) | refine Ent.skip ?_))
        · skip
          have hbg : begunD d p = d := if_neg (by rw [h2]; decide)
          refine c_skip ?_
          refine k_then_n ?_
          rw [hbg]
          exact t_next x trivial (.cons rfl (by first | rfl | exact inte (by omega) | (simp; done) | (simp <;> omega) | simp [*]) (.cons rfl (by first | rfl | exact inte (by omega) | (simp; done) | (simp <;> omega) | simp [*]) (.cons rfl (by first | rfl | exact inte (by omega) | (simp; done) | (simp <;> omega) | simp [*]) (.nil _)))) (by repeat (first | exact Ent.nil _ | exact Ent.refl _ | (refine Ent.pick (by repeat (first | exact Pick.here | apply Pick.there)) ?_) | refine Ent.skip ?_))
      intro x1 hj2
      refine t_rd (Γ := _) (rd_row (Pick.there (Pick.there Pick.here))) fun hb1 _ _ _ => ?_
      refine t_rd (Γ := _) (rd_row (Pick.there (Pick.there (Pick.there Pick.here)))) fun hb2 _ _ _ => ?_
      replace hb1 := lenz hb1 (fun _ => rfl) (by decide)
      replace hb2 := lenz hb2 (fun _ => rfl) (by decide)
      have hl2 := hok1.len1
      refine k_blk_n ?_
      refine k_then_n ?_
      refine c_seq ?_
      refine c_seq ?_
      refine c_region ?_
      refine l_step (s_q rfl wn (q_fieldp rfl fo_95_4) ?_)
      refine l_step (s_q rfl wn (q_loadp (v := .slice p.B.a p.B.xs.length p.B.cap) sc_22 rfl (by repeat (first | exact Pick.here | apply Pick.there)) rfl) ?_)
      refine l_step (s_q rfl wn (q_len Try.underlying22 rfl) ?_)
      refine l_step (s_q rfl wn (q_move rfl) ?_)
      refine l_nil ?_
      refine k_then_n ?_
      refine c_block ?_
      refine Tr.env (σ' := [(0, _), (3, _), (94, _), (95, _), (96, _)]) (.cons rfl rfl (.cons rfl rfl (.cons rfl rfl (.cons rfl rfl (.cons rfl rfl (.nil _)))))) ?_
      refine t_loop (ι := Lp (Nat)) (fun x => x.d ≤ p.B.xs.length ∧ clashB (begunD d p) p x.d = false) (fun x => p.B.xs.length - x.d) (fun x => [(0, .pointer (some ⟨h, 0, none⟩)), (3, .pointer (some ⟨b3, 0, none⟩)), (94, .slice p.B.a p.B.xs.length p.B.cap), (95, .int .i64 (p.B.xs.length : Int)), (96, .int .i64 (x.d : Int))]) (fun x => .pts b3 (encPiece p) 95 :: .pts h (encHeap (⟨(begunD d p).most, (begunD d p).of, (begunD d p).on, ⟨x1.a1, x1.n1, x1.c1⟩, ⟨x1.a2, x1.n2, x1.c2⟩, (begunD d p).left⟩ : Heap)) 138 :: .row 5 1 x1.a1 x1.n1 x1.c1 (((begunD d p).b).flatMap encB) :: .row 4 1 x1.a2 x1.n2 x1.c2 (((begunD d p).there).flatMap encO) :: Δ) (⟨0, none, 0, none, 0, none, 0⟩ : Lp _) ⟨Nat.zero_le _, rfl⟩ ?_ ?_ ?_
      · exact .cons rfl (by first | rfl | exact inte (by omega) | (simp; done) | (simp <;> omega) | simp [*]) (.cons rfl (by first | rfl | exact inte (by omega) | (simp; done) | (simp <;> omega) | simp [*]) (.cons rfl (by first | rfl | exact inte (by omega) | (simp; done) | (simp <;> omega) | simp [*]) (.cons rfl (by first | rfl | exact inte (by omega) | (simp; done) | (simp <;> omega) | simp [*]) (.cons rfl (by first | rfl | exact inte (by omega) | (simp; done) | (simp <;> omega) | simp [*]) (.nil _)))))
      · exact (by repeat (first | exact Ent.nil _ | exact Ent.refl _ | (refine Ent.pick (by repeat (first | exact Pick.here | apply Pick.there)) ?_) | refine Ent.skip ?_))
      intro x hx
      obtain ⟨hx1, hx2⟩ := hx
      refine c_seq ?_
      refine c_region ?_
      refine l_step (s_q rfl wn (q_lss rfl rfl) ?_)
      refine l_nil ?_
      refine k_then_n ?_
      refine c_seq ?_
      refine c_cond rfl (fun h3 => ?_) (fun h3 => ?_)
      · (try dsimp only [heapOf] at h3); try simp only [Bool.and_eq_true, Bool.or_eq_true, Bool.not_eq_true', Bool.and_eq_false_iff, Bool.or_eq_false_iff, Bool.not_eq_false', decide_eq_true_eq, decide_eq_false_iff_not, Bool.not_eq_eq_eq_not, Bool.not_true, Bool.not_false, Bool.not_eq_true, Bool.not_eq_false, beq_iff_eq, bne_iff_ne, ne_eq, Decidable.not_not] at h3
        refine c_skip ?_
        refine k_then_n ?_
        refine c_seq ?_
        refine c_block ?_
        refine c_seq ?_
        refine c_region ?_
        refine l_step (s_q rfl wn (q_move rfl) ?_)
        refine l_step (s_q rfl wn (q_indexe x.d Try.underlying22 sz_5 rfl rfl (by first | assumption | exact rd_ro (by assumption) | exact rd_row (by repeat (first | exact Pick.here | apply Pick.there))) (by decide) rfl (by first | assumption | omega | (simp only [List.length_cons, List.length_nil]; omega))) ?_)
        refine l_step (s_q rfl wn (q_loade (enc := encB) (xs := p.B.xs) (j := x.d) (off := 0) sc_5 rfl (by first | assumption | exact rd_ro (by assumption) | exact rd_row (by repeat (first | exact Pick.here | apply Pick.there))) (fun _ => rfl) (by first | assumption | omega | (simp only [List.length_cons, List.length_nil]; omega)) (by decide) rfl) ?_)
        refine l_step (s_q rfl wn (q_assign rfl) ?_)
        refine l_step (s_q rfl wn (q_assign rfl) ?_)
        refine l_nil ?_
        refine k_then_n ?_
        refine c_seq ?_
        refine c_draw (m := 24) (bs := #[false, false, false, false, false, false, false, false, false, false, false, false, false, false, false, false, false, false, false, false, false, false, false, false]) [.pts b3 (encPiece p) 95, .pts h (encHeap (⟨(begunD d p).most, (begunD d p).of, (begunD d p).on, ⟨x1.a1, x1.n1, x1.c1⟩, ⟨x1.a2, x1.n2, x1.c2⟩, (begunD d p).left⟩ : Heap)) 138, .row 5 1 x1.a1 x1.n1 x1.c1 (((begunD d p).b).flatMap encB), .row 4 1 x1.a2 x1.n2 x1.c2 (((begunD d p).there).flatMap encO)] (by kernel_rfl) rfl (by kernel_rfl) ?_
        refine r_take (i := 0) (bs' := #[true, false, false, false, false, false, false, false, false, false, false, false, false, false, false, false, false, false, false, false, false, false, false, false]) rfl (by kernel_rfl) (by kernel_rfl) (by kernel_rfl) (fun _ _ _ h => h) rfl wn (q_move rfl) (Hp.le_refl _) (by repeat (first | exact Ent.nil _ | exact Ent.refl _ | (refine Ent.pick (by repeat (first | exact Pick.here | apply Pick.there)) ?_) | refine Ent.skip ?_)) (by kernel_rfl) ?_
        refine r_take (i := 1) (bs' := #[true, true, false, false, false, false, false, false, false, false, false, false, false, false, false, false, false, false, false, false, false, false, false, false]) rfl (by kernel_rfl) (by kernel_rfl) (by kernel_rfl) (fun _ _ _ h => h) rfl wn (q_nilCheck rfl) (Hp.le_refl _) (by repeat (first | exact Ent.nil _ | exact Ent.refl _ | (refine Ent.pick (by repeat (first | exact Pick.here | apply Pick.there)) ?_) | refine Ent.skip ?_)) (by kernel_rfl) ?_
        refine r_take (i := 2) (bs' := #[true, true, true, false, false, false, false, false, false, false, false, false, false, false, false, false, false, false, false, false, false, false, false, false]) rfl (by kernel_rfl) (by kernel_rfl) (by kernel_rfl) (fun _ _ _ h => h) rfl wn (q_fieldp rfl fo_138_4) (Hp.le_refl _) (by repeat (first | exact Ent.nil _ | exact Ent.refl _ | (refine Ent.pick (by repeat (first | exact Pick.here | apply Pick.there)) ?_) | refine Ent.skip ?_)) (by kernel_rfl) ?_
        refine r_take (i := 3) (bs' := #[true, true, true, true, false, false, false, false, false, false, false, false, false, false, false, false, false, false, false, false, false, false, false, false]) rfl (by kernel_rfl) (by kernel_rfl) (by kernel_rfl) (fun _ _ _ h => h) rfl wn (q_loadp (v := .slice x1.a2 x1.n2 x1.c2) sc_60 rfl (by repeat (first | exact Pick.here | apply Pick.there)) rfl) (Hp.le_refl _) (by repeat (first | exact Ent.nil _ | exact Ent.refl _ | (refine Ent.pick (by repeat (first | exact Pick.here | apply Pick.there)) ?_) | refine Ent.skip ?_)) (by kernel_rfl) ?_
        refine r_take (i := 4) (bs' := #[true, true, true, true, true, false, false, false, false, false, false, false, false, false, false, false, false, false, false, false, false, false, false, false]) rfl (by kernel_rfl) (by kernel_rfl) (by kernel_rfl) (fun _ _ _ h => h) rfl wn (q_fieldp rfl fo_95_3) (Hp.le_refl _) (by repeat (first | exact Ent.nil _ | exact Ent.refl _ | (refine Ent.pick (by repeat (first | exact Pick.here | apply Pick.there)) ?_) | refine Ent.skip ?_)) (by kernel_rfl) ?_
        refine r_take (i := 5) (bs' := #[true, true, true, true, true, true, false, false, false, false, false, false, false, false, false, false, false, false, false, false, false, false, false, false]) rfl (by kernel_rfl) (by kernel_rfl) (by kernel_rfl) (fun _ _ _ h => h) rfl wn (q_loadp (v := .int .i64 p.At) sc_3 rfl (by repeat (first | exact Pick.here | apply Pick.there)) rfl) (Hp.le_refl _) (by repeat (first | exact Ent.nil _ | exact Ent.refl _ | (refine Ent.pick (by repeat (first | exact Pick.here | apply Pick.there)) ?_) | refine Ent.skip ?_)) (by kernel_rfl) ?_
        refine r_take (i := 6) (bs' := #[true, true, true, true, true, true, true, false, false, false, false, false, false, false, false, false, false, false, false, false, false, false, false, false]) rfl (by kernel_rfl) (by kernel_rfl) (by kernel_rfl) (fun _ _ _ h => h) rfl wn (q_move rfl) (Hp.le_refl _) (by repeat (first | exact Ent.nil _ | exact Ent.refl _ | (refine Ent.pick (by repeat (first | exact Pick.here | apply Pick.there)) ?_) | refine Ent.skip ?_)) (by kernel_rfl) ?_
        refine r_take (i := 7) (bs' := #[true, true, true, true, true, true, true, true, false, false, false, false, false, false, false, false, false, false, false, false, false, false, false, false]) rfl (by kernel_rfl) (by kernel_rfl) (by kernel_rfl) (fun _ _ _ h => h) rfl wn (q_add rfl rfl (by omega) (by omega)) (Hp.le_refl _) (by repeat (first | exact Ent.nil _ | exact Ent.refl _ | (refine Ent.pick (by repeat (first | exact Pick.here | apply Pick.there)) ?_) | refine Ent.skip ?_)) (by kernel_rfl) ?_
        refine r_take (i := 8) (bs' := #[true, true, true, true, true, true, true, true, true, false, false, false, false, false, false, false, false, false, false, false, false, false, false, false]) rfl (by kernel_rfl) (by kernel_rfl) (by kernel_rfl) (fun _ _ _ h => h) rfl wn (q_indexe (p.At.toNat + x.d) Try.underlying60 sz_4 rfl rfl (rd_row (by repeat (first | exact Pick.here | apply Pick.there))) (by decide) (by omega) (by omega)) (Hp.le_refl _) (by repeat (first | exact Ent.nil _ | exact Ent.refl _ | (refine Ent.pick (by repeat (first | exact Pick.here | apply Pick.there)) ?_) | refine Ent.skip ?_)) (by kernel_rfl) ?_
        refine r_take (i := 9) (bs' := #[true, true, true, true, true, true, true, true, true, true, false, false, false, false, false, false, false, false, false, false, false, false, false, false]) rfl (by kernel_rfl) (by kernel_rfl) (by kernel_rfl) (fun _ _ _ h => h) rfl wn (q_loade (enc := encO) (xs := (begunD d p).there) (j := p.At.toNat + x.d) (off := 0) sc_4 rfl (rd_row (by repeat (first | exact Pick.here | apply Pick.there))) (fun _ => rfl) (by omega) (by decide) rfl) (Hp.le_refl _) (by repeat (first | exact Ent.nil _ | exact Ent.refl _ | (refine Ent.pick (by repeat (first | exact Pick.here | apply Pick.there)) ?_) | refine Ent.skip ?_)) (by kernel_rfl) ?_
        refine r_take (i := 10) (bs' := #[true, true, true, true, true, true, true, true, true, true, true, false, false, false, false, false, false, false, false, false, false, false, false, false]) rfl (by kernel_rfl) (by kernel_rfl) (by kernel_rfl) (fun _ _ _ h => h) rfl wn (q_move rfl) (Hp.le_refl _) (by repeat (first | exact Ent.nil _ | exact Ent.refl _ | (refine Ent.pick (by repeat (first | exact Pick.here | apply Pick.there)) ?_) | refine Ent.skip ?_)) (by kernel_rfl) ?_
        refine r_takeg (i := 11) (b := (((begunD d p).there).getD (p.At.toNat + x.d) default)) (bs' := #[true, true, true, true, true, true, true, true, true, true, true, true, false, false, false, false, false, false, false, false, false, false, false, false]) rfl (by kernel_rfl) (by kernel_rfl) (by kernel_rfl) (fun _ _ _ h => h) rfl (ask_t rfl rfl) (fun hb => q_move rfl) (Hp.le_refl _) (by repeat (first | exact Ent.nil _ | exact Ent.refl _ | (refine Ent.pick (by repeat (first | exact Pick.here | apply Pick.there)) ?_) | refine Ent.skip ?_)) (by kernel_rfl) ?_
        refine r_takeg (i := 12) (b := (((begunD d p).there).getD (p.At.toNat + x.d) default)) (bs' := #[true, true, true, true, true, true, true, true, true, true, true, true, true, false, false, false, false, false, false, false, false, false, false, false]) rfl (by kernel_rfl) (by kernel_rfl) (by kernel_rfl) (fun _ _ _ h => h) rfl (ask_t rfl rfl) (fun hb => OpQ.env (.cons rfl (gd_t hb) (.nil _) : EnvLe [(112, .pointer (some ⟨h, 0, none⟩))] _) (q_nilCheck rfl)) (Hp.le_refl _) (by repeat (first | exact Ent.nil _ | exact Ent.refl _ | (refine Ent.pick (by repeat (first | exact Pick.here | apply Pick.there)) ?_) | refine Ent.skip ?_)) (by kernel_rfl) ?_
        refine r_takeg (i := 13) (b := (((begunD d p).there).getD (p.At.toNat + x.d) default)) (bs' := #[true, true, true, true, true, true, true, true, true, true, true, true, true, true, false, false, false, false, false, false, false, false, false, false]) rfl (by kernel_rfl) (by kernel_rfl) (by kernel_rfl) (fun _ _ _ h => h) rfl (ask_t rfl rfl) (fun hb => OpQ.env (.cons rfl (gd_t hb) (.nil _) : EnvLe [(113, .pointer (some ⟨h, 0, none⟩))] _) (q_fieldp rfl fo_138_3)) (Hp.le_refl _) (by repeat (first | exact Ent.nil _ | exact Ent.refl _ | (refine Ent.pick (by repeat (first | exact Pick.here | apply Pick.there)) ?_) | refine Ent.skip ?_)) (by kernel_rfl) ?_
        refine r_takeg (i := 14) (b := (((begunD d p).there).getD (p.At.toNat + x.d) default)) (bs' := #[true, true, true, true, true, true, true, true, true, true, true, true, true, true, true, false, false, false, false, false, false, false, false, false]) rfl (by kernel_rfl) (by kernel_rfl) (by kernel_rfl) (fun _ _ _ h => h) rfl (ask_t rfl rfl) (fun hb => OpQ.env (.cons rfl (gd_t hb) (.nil _) : EnvLe [(114, .pointer (some ⟨h, 8, none⟩))] _) (q_loadp (v := .slice x1.a1 x1.n1 x1.c1) sc_22 rfl (by repeat (first | exact Pick.here | apply Pick.there)) rfl)) (Hp.le_refl _) (by repeat (first | exact Ent.nil _ | exact Ent.refl _ | (refine Ent.pick (by repeat (first | exact Pick.here | apply Pick.there)) ?_) | refine Ent.skip ?_)) (by kernel_rfl) ?_
        refine r_takeg (i := 15) (b := (((begunD d p).there).getD (p.At.toNat + x.d) default)) (bs' := #[true, true, true, true, true, true, true, true, true, true, true, true, true, true, true, true, false, false, false, false, false, false, false, false]) rfl (by kernel_rfl) (by kernel_rfl) (by kernel_rfl) (fun _ _ _ h => h) rfl (ask_t rfl rfl) (fun hb => q_fieldp rfl fo_95_3) (Hp.le_refl _) (by repeat (first | exact Ent.nil _ | exact Ent.refl _ | (refine Ent.pick (by repeat (first | exact Pick.here | apply Pick.there)) ?_) | refine Ent.skip ?_)) (by kernel_rfl) ?_
        refine r_takeg (i := 16) (b := (((begunD d p).there).getD (p.At.toNat + x.d) default)) (bs' := #[true, true, true, true, true, true, true, true, true, true, true, true, true, true, true, true, true, false, false, false, false, false, false, false]) rfl (by kernel_rfl) (by kernel_rfl) (by kernel_rfl) (fun _ _ _ h => h) rfl (ask_t rfl rfl) (fun hb => OpQ.env (.cons rfl (gd_t hb) (.nil _) : EnvLe [(116, .pointer (some ⟨b3, 4, none⟩))] _) (q_loadp (v := .int .i64 p.At) sc_3 rfl (by repeat (first | exact Pick.here | apply Pick.there)) rfl)) (Hp.le_refl _) (by repeat (first | exact Ent.nil _ | exact Ent.refl _ | (refine Ent.pick (by repeat (first | exact Pick.here | apply Pick.there)) ?_) | refine Ent.skip ?_)) (by kernel_rfl) ?_
        refine r_takeg (i := 17) (b := (((begunD d p).there).getD (p.At.toNat + x.d) default)) (bs' := #[true, true, true, true, true, true, true, true, true, true, true, true, true, true, true, true, true, true, false, false, false, false, false, false]) rfl (by kernel_rfl) (by kernel_rfl) (by kernel_rfl) (fun _ _ _ h => h) rfl (ask_t rfl rfl) (fun hb => q_move rfl) (Hp.le_refl _) (by repeat (first | exact Ent.nil _ | exact Ent.refl _ | (refine Ent.pick (by repeat (first | exact Pick.here | apply Pick.there)) ?_) | refine Ent.skip ?_)) (by kernel_rfl) ?_
        refine r_takeg (i := 18) (b := (((begunD d p).there).getD (p.At.toNat + x.d) default)) (bs' := #[true, true, true, true, true, true, true, true, true, true, true, true, true, true, true, true, true, true, true, false, false, false, false, false]) rfl (by kernel_rfl) (by kernel_rfl) (by kernel_rfl) (fun _ _ _ h => h) rfl (ask_t rfl rfl) (fun hb => OpQ.env (.cons rfl (gd_t hb) (.cons rfl (gd_t hb) (.nil _)) : EnvLe [(117, .int .i64 p.At), (118, .int .i64 (x.d : Int))] _) (q_add rfl rfl (by first | omega | (have hb2 := hb; (try simp only [Bool.and_eq_true, Bool.or_eq_true, Bool.not_eq_true', Bool.and_eq_false_iff, Bool.or_eq_false_iff, Bool.not_eq_false', decide_eq_true_eq, decide_eq_false_iff_not, Bool.not_eq_eq_eq_not, Bool.not_true, Bool.not_false, Bool.not_eq_true, Bool.not_eq_false, beq_iff_eq, bne_iff_ne, ne_eq, Decidable.not_not] at hb2); omega)) (by first | omega | (have hb2 := hb; (try simp only [Bool.and_eq_true, Bool.or_eq_true, Bool.not_eq_true', Bool.and_eq_false_iff, Bool.or_eq_false_iff, Bool.not_eq_false', decide_eq_true_eq, decide_eq_false_iff_not, Bool.not_eq_eq_eq_not, Bool.not_true, Bool.not_false, Bool.not_eq_true, Bool.not_eq_false, beq_iff_eq, bne_iff_ne, ne_eq, Decidable.not_not] at hb2); omega)))) (Hp.le_refl _) (by repeat (first | exact Ent.nil _ | exact Ent.refl _ | (refine Ent.pick (by repeat (first | exact Pick.here | apply Pick.there)) ?_) | refine Ent.skip ?_)) (by kernel_rfl) ?_
        refine r_takeg (i := 19) (b := (((begunD d p).there).getD (p.At.toNat + x.d) default)) (bs' := #[true, true, true, true, true, true, true, true, true, true, true, true, true, true, true, true, true, true, true, true, false, false, false, false]) rfl (by kernel_rfl) (by kernel_rfl) (by kernel_rfl) (fun _ _ _ h => h) rfl (ask_t rfl rfl) (fun hb => OpQ.env (.cons rfl (gd_t hb) (.cons rfl (gd_t hb) (.nil _)) : EnvLe [(115, .slice x1.a1 x1.n1 x1.c1), (119, .int .i64 (p.At + (x.d : Int)))] _) (q_indexe (p.At.toNat + x.d) Try.underlying22 sz_5 rfl rfl (rd_row (by repeat (first | exact Pick.here | apply Pick.there))) (by decide) (by first | omega | (have hb2 := hb; (try simp only [Bool.and_eq_true, Bool.or_eq_true, Bool.not_eq_true', Bool.and_eq_false_iff, Bool.or_eq_false_iff, Bool.not_eq_false', decide_eq_true_eq, decide_eq_false_iff_not, Bool.not_eq_eq_eq_not, Bool.not_true, Bool.not_false, Bool.not_eq_true, Bool.not_eq_false, beq_iff_eq, bne_iff_ne, ne_eq, Decidable.not_not] at hb2); omega)) (by first | omega | (have hb2 := hb; (try simp only [Bool.and_eq_true, Bool.or_eq_true, Bool.not_eq_true', Bool.and_eq_false_iff, Bool.or_eq_false_iff, Bool.not_eq_false', decide_eq_true_eq, decide_eq_false_iff_not, Bool.not_eq_eq_eq_not, Bool.not_true, Bool.not_false, Bool.not_eq_true, Bool.not_eq_false, beq_iff_eq, bne_iff_ne, ne_eq, Decidable.not_not] at hb2); omega)))) (Hp.le_refl _) (by repeat (first | exact Ent.nil _ | exact Ent.refl _ | (refine Ent.pick (by repeat (first | exact Pick.here | apply Pick.there)) ?_) | refine Ent.skip ?_)) (by kernel_rfl) ?_
        refine r_takeg (i := 20) (b := (((begunD d p).there).getD (p.At.toNat + x.d) default)) (bs' := #[true, true, true, true, true, true, true, true, true, true, true, true, true, true, true, true, true, true, true, true, true, false, false, false]) rfl (by kernel_rfl) (by kernel_rfl) (by kernel_rfl) (fun _ _ _ h => h) rfl (ask_t rfl rfl) (fun hb => OpQ.env (.cons rfl (gd_t hb) (.nil _) : EnvLe [(120, pe x1.a1 (p.At.toNat + x.d) 1 0)] _) (q_loade (enc := encB) (xs := (begunD d p).b) (j := p.At.toNat + x.d) (off := 0) sc_5 rfl (rd_row (by repeat (first | exact Pick.here | apply Pick.there))) (fun _ => rfl) (by first | omega | (have hb2 := hb; (try simp only [Bool.and_eq_true, Bool.or_eq_true, Bool.not_eq_true', Bool.and_eq_false_iff, Bool.or_eq_false_iff, Bool.not_eq_false', decide_eq_true_eq, decide_eq_false_iff_not, Bool.not_eq_eq_eq_not, Bool.not_true, Bool.not_false, Bool.not_eq_true, Bool.not_eq_false, beq_iff_eq, bne_iff_ne, ne_eq, Decidable.not_not] at hb2); omega)) (by decide) rfl)) (Hp.le_refl _) (by repeat (first | exact Ent.nil _ | exact Ent.refl _ | (refine Ent.pick (by repeat (first | exact Pick.here | apply Pick.there)) ?_) | refine Ent.skip ?_)) (by kernel_rfl) ?_
        refine r_takeg (i := 21) (b := (((begunD d p).there).getD (p.At.toNat + x.d) default)) (bs' := #[true, true, true, true, true, true, true, true, true, true, true, true, true, true, true, true, true, true, true, true, true, true, false, false]) rfl (by kernel_rfl) (by kernel_rfl) (by kernel_rfl) (fun _ _ _ h => h) rfl (ask_t rfl rfl) (fun hb => q_move rfl) (Hp.le_refl _) (by repeat (first | exact Ent.nil _ | exact Ent.refl _ | (refine Ent.pick (by repeat (first | exact Pick.here | apply Pick.there)) ?_) | refine Ent.skip ?_)) (by kernel_rfl) ?_
        refine r_takeg (i := 22) (b := (((begunD d p).there).getD (p.At.toNat + x.d) default)) (bs' := #[true, true, true, true, true, true, true, true, true, true, true, true, true, true, true, true, true, true, true, true, true, true, true, false]) rfl (by kernel_rfl) (by kernel_rfl) (by kernel_rfl) (fun _ _ _ h => h) rfl (ask_t rfl rfl) (fun hb => OpQ.env (.cons rfl (gd_t hb) (.cons rfl (gd_t hb) (.nil _)) : EnvLe [(121, .int .u8 ((((begunD d p).b).getD (p.At.toNat + x.d) default).toNat : Int)), (122, .int .u8 ((p.B.xs.getD x.d default).toNat : Int))] _) (q_neq rfl rfl)) (Hp.le_refl _) (by repeat (first | exact Ent.nil _ | exact Ent.refl _ | (refine Ent.pick (by repeat (first | exact Pick.here | apply Pick.there)) ?_) | refine Ent.skip ?_)) (by kernel_rfl) ?_
        refine r_take (i := 23) (bs' := #[true, true, true, true, true, true, true, true, true, true, true, true, true, true, true, true, true, true, true, true, true, true, true, true]) rfl (by kernel_rfl) (by kernel_rfl) (by kernel_rfl) (fun _ _ _ h => h) rfl wn (q_pick_and rfl rfl rfl (fun h => h)) (Hp.le_refl _) (by repeat (first | exact Ent.nil _ | exact Ent.refl _ | (refine Ent.pick (by repeat (first | exact Pick.here | apply Pick.there)) ?_) | refine Ent.skip ?_)) (by kernel_rfl) ?_
        refine r_done (by kernel_rfl) ?_
        refine k_then_n ?_
        refine c_cond rfl (fun h4 => ?_) (fun h4 => ?_)
        · skip
          have hcl : clashB (begunD d p) p (x.d + 1) = true := by simp only [clashB, clashAt, Bool.or_eq_true]; exact .inr h4
          refine c_seq ?_
          refine c_region ?_
          refine l_step (s_q rfl wn (q_assign rfl) ?_)
          refine l_nil ?_
          refine k_then_n ?_
          refine c_ret ?_
          refine k_blk_r ?_
          refine k_then_r ?_
          refine k_then_r ?_
          refine k_blk_r ?_
          refine k_then_r ?_
          have hT := take_clash h0 h1 (clash_mono _ (by omega) hcl)
          exact t_ret (HeapM 138 5 4 h (begunD d p) x1) rfl (.tmp rfl .nil) rfl (Hp.le_refl _) ⟨rfl, x1, (by rw [hT]; try rfl), (by rw [hT]; try rfl)⟩ (by simp only [HeapM, List.cons_append, List.nil_append]; exact (by repeat (first | exact Ent.nil _ | exact Ent.refl _ | (refine Ent.pick (by repeat (first | exact Pick.here | apply Pick.there)) ?_) | refine Ent.skip ?_)))
        · skip
          refine c_skip ?_
          refine k_blk_n ?_
          refine k_then_n ?_
          refine c_region ?_
          refine l_step (s_q rfl wn (q_add rfl rfl (by omega) (by omega)) ?_)
          refine l_step (s_q rfl wn (q_move rfl) ?_)
          refine l_nil ?_
          refine k_then_n ?_
          exact t_next (⟨x.d + 1, none, 0, none, 0, none, 0⟩ : Lp _) ⟨⟨by simp only []; omega, by simp only [clashB, clashAt, Bool.or_eq_false_iff]; exact ⟨hx2, by simpa using h4⟩⟩, by simp only []; omega⟩ (.cons rfl (by first | rfl | exact inte (by omega) | (simp; done) | (simp <;> omega) | simp [*]) (.cons rfl (by first | rfl | exact inte (by omega) | (simp; done) | (simp <;> omega) | simp [*]) (.cons rfl (by first | rfl | exact inte (by omega) | (simp; done) | (simp <;> omega) | simp [*]) (.cons rfl (by first | rfl | exact inte (by omega) | (simp; done) | (simp <;> omega) | simp [*]) (.cons rfl (by first | rfl | exact inte (by omega) | (simp; done) | (simp <;> omega) | simp [*]) (.nil _)))))) (by repeat (first | exact Ent.nil _ | exact Ent.refl _ | (refine Ent.pick (by repeat (first | exact Pick.here | apply Pick.there)) ?_) | refine Ent.skip ?_))
      · (try dsimp only [heapOf] at h3); try simp only [Bool.and_eq_true, Bool.or_eq_true, Bool.not_eq_true', Bool.and_eq_false_iff, Bool.or_eq_false_iff, Bool.not_eq_false', decide_eq_true_eq, decide_eq_false_iff_not, Bool.not_eq_eq_eq_not, Bool.not_true, Bool.not_false, Bool.not_eq_true, Bool.not_eq_false, beq_iff_eq, bne_iff_ne, ne_eq, Decidable.not_not] at h3
        have hk : x.d = p.B.xs.length := by omega
        rw [hk] at hx2
        refine c_exit ?_
        refine k_then_x ?_
        refine k_then_x ?_
        refine k_blk_x ?_
        refine k_then_n ?_
        refine c_seq ?_
        refine c_seq ?_
        refine c_draw (m := 11) (bs := #[false, false, false, false, false, false, false, false, false, false, false]) [.pts b3 (encPiece p) 95, .pts h (encHeap (⟨(begunD d p).most, (begunD d p).of, (begunD d p).on, ⟨x1.a1, x1.n1, x1.c1⟩, ⟨x1.a2, x1.n2, x1.c2⟩, (begunD d p).left⟩ : Heap)) 138, .row 4 1 x1.a2 x1.n2 x1.c2 (((begunD d p).there).flatMap encO)] (by kernel_rfl) rfl (by kernel_rfl) ?_
        refine r_take (i := 0) (bs' := #[true, false, false, false, false, false, false, false, false, false, false]) rfl (by kernel_rfl) (by kernel_rfl) (by kernel_rfl) (fun _ _ _ h => h) rfl wn (q_move rfl) (Hp.le_refl _) (by repeat (first | exact Ent.nil _ | exact Ent.refl _ | (refine Ent.pick (by repeat (first | exact Pick.here | apply Pick.there)) ?_) | refine Ent.skip ?_)) (by kernel_rfl) ?_
        refine r_take (i := 1) (bs' := #[true, true, false, false, false, false, false, false, false, false, false]) rfl (by kernel_rfl) (by kernel_rfl) (by kernel_rfl) (fun _ _ _ h => h) rfl wn (q_nilCheck rfl) (Hp.le_refl _) (by repeat (first | exact Ent.nil _ | exact Ent.refl _ | (refine Ent.pick (by repeat (first | exact Pick.here | apply Pick.there)) ?_) | refine Ent.skip ?_)) (by kernel_rfl) ?_
        refine r_take (i := 2) (bs' := #[true, true, true, false, false, false, false, false, false, false, false]) rfl (by kernel_rfl) (by kernel_rfl) (by kernel_rfl) (fun _ _ _ h => h) rfl wn (q_fieldp rfl fo_138_3) (Hp.le_refl _) (by repeat (first | exact Ent.nil _ | exact Ent.refl _ | (refine Ent.pick (by repeat (first | exact Pick.here | apply Pick.there)) ?_) | refine Ent.skip ?_)) (by kernel_rfl) ?_
        refine r_take (i := 3) (bs' := #[true, true, true, true, false, false, false, false, false, false, false]) rfl (by kernel_rfl) (by kernel_rfl) (by kernel_rfl) (fun _ _ _ h => h) rfl wn (q_loadp (v := .slice x1.a1 x1.n1 x1.c1) sc_22 rfl (by repeat (first | exact Pick.here | apply Pick.there)) rfl) (Hp.le_refl _) (by repeat (first | exact Ent.nil _ | exact Ent.refl _ | (refine Ent.pick (by repeat (first | exact Pick.here | apply Pick.there)) ?_) | refine Ent.skip ?_)) (by kernel_rfl) ?_
        refine r_take (i := 4) (bs' := #[true, true, true, true, true, false, false, false, false, false, false]) rfl (by kernel_rfl) (by kernel_rfl) (by kernel_rfl) (fun _ _ _ h => h) rfl wn (q_fieldp rfl fo_95_3) (Hp.le_refl _) (by repeat (first | exact Ent.nil _ | exact Ent.refl _ | (refine Ent.pick (by repeat (first | exact Pick.here | apply Pick.there)) ?_) | refine Ent.skip ?_)) (by kernel_rfl) ?_
        refine r_take (i := 5) (bs' := #[true, true, true, true, true, true, false, false, false, false, false]) rfl (by kernel_rfl) (by kernel_rfl) (by kernel_rfl) (fun _ _ _ h => h) rfl wn (q_loadp (v := .int .i64 p.At) sc_3 rfl (by repeat (first | exact Pick.here | apply Pick.there)) rfl) (Hp.le_refl _) (by repeat (first | exact Ent.nil _ | exact Ent.refl _ | (refine Ent.pick (by repeat (first | exact Pick.here | apply Pick.there)) ?_) | refine Ent.skip ?_)) (by kernel_rfl) ?_
        refine r_take (i := 6) (bs' := #[true, true, true, true, true, true, true, false, false, false, false]) rfl (by kernel_rfl) (by kernel_rfl) (by kernel_rfl) (fun _ _ _ h => h) rfl wn (q_cut_lo Try.underlying22 sz_5 rfl rfl (by omega) (by omega)) (Hp.le_refl _) (by repeat (first | exact Ent.nil _ | exact Ent.refl _ | (refine Ent.pick (by repeat (first | exact Pick.here | apply Pick.there)) ?_) | refine Ent.skip ?_)) (by kernel_rfl) ?_
        refine r_take (i := 7) (bs' := #[true, true, true, true, true, true, true, true, false, false, false]) rfl (by kernel_rfl) (by kernel_rfl) (by kernel_rfl) (fun _ _ _ h => h) rfl wn (q_fieldp rfl fo_95_4) (Hp.le_refl _) (by repeat (first | exact Ent.nil _ | exact Ent.refl _ | (refine Ent.pick (by repeat (first | exact Pick.here | apply Pick.there)) ?_) | refine Ent.skip ?_)) (by kernel_rfl) ?_
        refine r_take (i := 8) (bs' := #[true, true, true, true, true, true, true, true, true, false, false]) rfl (by kernel_rfl) (by kernel_rfl) (by kernel_rfl) (fun _ _ _ h => h) rfl wn (q_loadp (v := .slice p.B.a p.B.xs.length p.B.cap) sc_22 rfl (by repeat (first | exact Pick.here | apply Pick.there)) rfl) (Hp.le_refl _) (by repeat (first | exact Ent.nil _ | exact Ent.refl _ | (refine Ent.pick (by repeat (first | exact Pick.here | apply Pick.there)) ?_) | refine Ent.skip ?_)) (by kernel_rfl) ?_
        refine r_take (i := 10) (bs' := #[true, true, true, true, true, true, true, true, true, false, true]) rfl (by kernel_rfl) (by kernel_rfl) (by kernel_rfl) (fun _ _ _ h => h) rfl wn (q_move rfl) (Hp.le_refl _) (by repeat (first | exact Ent.nil _ | exact Ent.refl _ | (refine Ent.pick (by repeat (first | exact Pick.here | apply Pick.there)) ?_) | refine Ent.skip ?_)) (by kernel_rfl) ?_
        refine r_one (i := 9) (bs' := #[true, true, true, true, true, true, true, true, true, true, true]) (by kernel_rfl) (by kernel_rfl) ?_
        refine o_step rfl (s_s rfl wn (s_copye (enc := encB) (xs := (begunD d p).b) (ys := p.B.xs) ((p.At).toNat) Try.underlying22 sz_5 (by decide) (fun _ => rfl) rfl rfl (by first | assumption | exact rd_ro (by assumption) | exact rd_row (by repeat (first | exact Pick.here | apply Pick.there))) (oneB _) (by omega) (by repeat (first | exact Pick.here | apply Pick.there))) ?_)
        rintro _ _ ⟨rfl, rfl⟩
        refine r_cont (Hp.le_refl _) (by repeat (first | exact Ent.nil _ | exact Ent.refl _ | (refine Ent.pick (by repeat (first | exact Pick.here | apply Pick.there)) ?_) | refine Ent.skip ?_)) ?_
        refine r_done (by kernel_rfl) ?_
        refine k_then_n ?_
        refine c_block ?_
        refine Tr.env (σ' := [(0, _), (3, _), (135, _), (136, _)]) (.cons rfl rfl (.cons rfl rfl (.cons rfl rfl (.cons rfl rfl (.nil _))))) ?_
        refine t_loop (ι := Lp (Nat)) (fun x => x.d ≤ p.B.xs.length) (fun x => p.B.xs.length - x.d) (fun x => [(0, .pointer (some ⟨h, 0, none⟩)), (3, .pointer (some ⟨b3, 0, none⟩)), (135, .int .i64 (p.B.xs.length : Int)), (136, .int .i64 (x.d : Int))]) (fun x => .pts b3 (encPiece p) 95 :: .pts h (encHeap (⟨(begunD d p).most, (begunD d p).of, (begunD d p).on, ⟨x1.a1, x1.n1, x1.c1⟩, ⟨x1.a2, x1.n2, x1.c2⟩, (marks (begunD d p).there (begunD d p).left p.At.toNat x.d).2⟩ : Heap)) 138 :: .row 5 1 x1.a1 x1.n1 x1.c1 ((((begunD d p).b).take ((p.At).toNat) ++ p.B.xs ++ ((begunD d p).b).drop ((p.At).toNat + p.B.xs.length)).flatMap encB) :: .row 4 1 x1.a2 x1.n2 x1.c2 (((marks (begunD d p).there (begunD d p).left p.At.toNat x.d).1).flatMap encO) :: Δ) (⟨0, none, 0, none, 0, none, 0⟩ : Lp _) (Nat.zero_le _) ?_ ?_ ?_
        · exact .cons rfl (by first | rfl | exact inte (by omega) | (simp; done) | (simp <;> omega) | simp [*]) (.cons rfl (by first | rfl | exact inte (by omega) | (simp; done) | (simp <;> omega) | simp [*]) (.cons rfl (by first | rfl | exact inte (by omega) | (simp; done) | (simp <;> omega) | simp [*]) (.cons rfl (by first | rfl | exact inte (by omega) | (simp; done) | (simp <;> omega) | simp [*]) (.nil _))))
        · exact (by repeat (first | exact Ent.nil _ | exact Ent.refl _ | (refine Ent.pick (by repeat (first | exact Pick.here | apply Pick.there)) ?_) | refine Ent.skip ?_))
        intro x hx
        have hml := marks_le (begunD d p).there (begunD d p).left p.At.toNat x.d
        have hlft := hok1.left_
        refine c_seq ?_
        refine c_region ?_
        refine l_step (s_q rfl wn (q_lss rfl rfl) ?_)
        refine l_nil ?_
        refine k_then_n ?_
        refine c_seq ?_
        refine c_cond rfl (fun h5 => ?_) (fun h5 => ?_)
        · (try dsimp only [heapOf] at h5); try simp only [Bool.and_eq_true, Bool.or_eq_true, Bool.not_eq_true', Bool.and_eq_false_iff, Bool.or_eq_false_iff, Bool.not_eq_false', decide_eq_true_eq, decide_eq_false_iff_not, Bool.not_eq_eq_eq_not, Bool.not_true, Bool.not_false, Bool.not_eq_true, Bool.not_eq_false, beq_iff_eq, bne_iff_ne, ne_eq, Decidable.not_not] at h5
          refine c_skip ?_
          refine k_then_n ?_
          refine c_seq ?_
          refine c_block ?_
          refine c_seq ?_
          refine c_region ?_
          refine l_step (s_q rfl wn (q_move rfl) ?_)
          refine l_step (s_q rfl wn (q_assign rfl) ?_)
          refine l_nil ?_
          refine k_then_n ?_
          refine c_seq ?_
          refine c_seq ?_
          refine c_draw (m := 11) (bs := #[false, false, false, false, false, false, false, false, false, false, false]) [.pts b3 (encPiece p) 95, .pts h (encHeap (⟨(begunD d p).most, (begunD d p).of, (begunD d p).on, ⟨x1.a1, x1.n1, x1.c1⟩, ⟨x1.a2, x1.n2, x1.c2⟩, (marks (begunD d p).there (begunD d p).left p.At.toNat x.d).2⟩ : Heap)) 138, .row 5 1 x1.a1 x1.n1 x1.c1 ((((begunD d p).b).take ((p.At).toNat) ++ p.B.xs ++ ((begunD d p).b).drop ((p.At).toNat + p.B.xs.length)).flatMap encB), .row 4 1 x1.a2 x1.n2 x1.c2 (((marks (begunD d p).there (begunD d p).left p.At.toNat x.d).1).flatMap encO)] (by kernel_rfl) rfl (by kernel_rfl) ?_
          refine r_take (i := 0) (bs' := #[true, false, false, false, false, false, false, false, false, false, false]) rfl (by kernel_rfl) (by kernel_rfl) (by kernel_rfl) (fun _ _ _ h => h) rfl wn (q_move rfl) (Hp.le_refl _) (by repeat (first | exact Ent.nil _ | exact Ent.refl _ | (refine Ent.pick (by repeat (first | exact Pick.here | apply Pick.there)) ?_) | refine Ent.skip ?_)) (by kernel_rfl) ?_
          refine r_take (i := 1) (bs' := #[true, true, false, false, false, false, false, false, false, false, false]) rfl (by kernel_rfl) (by kernel_rfl) (by kernel_rfl) (fun _ _ _ h => h) rfl wn (q_nilCheck rfl) (Hp.le_refl _) (by repeat (first | exact Ent.nil _ | exact Ent.refl _ | (refine Ent.pick (by repeat (first | exact Pick.here | apply Pick.there)) ?_) | refine Ent.skip ?_)) (by kernel_rfl) ?_
          refine r_take (i := 2) (bs' := #[true, true, true, false, false, false, false, false, false, false, false]) rfl (by kernel_rfl) (by kernel_rfl) (by kernel_rfl) (fun _ _ _ h => h) rfl wn (q_fieldp rfl fo_138_4) (Hp.le_refl _) (by repeat (first | exact Ent.nil _ | exact Ent.refl _ | (refine Ent.pick (by repeat (first | exact Pick.here | apply Pick.there)) ?_) | refine Ent.skip ?_)) (by kernel_rfl) ?_
          refine r_take (i := 3) (bs' := #[true, true, true, true, false, false, false, false, false, false, false]) rfl (by kernel_rfl) (by kernel_rfl) (by kernel_rfl) (fun _ _ _ h => h) rfl wn (q_loadp (v := .slice x1.a2 x1.n2 x1.c2) sc_60 rfl (by repeat (first | exact Pick.here | apply Pick.there)) rfl) (Hp.le_refl _) (by repeat (first | exact Ent.nil _ | exact Ent.refl _ | (refine Ent.pick (by repeat (first | exact Pick.here | apply Pick.there)) ?_) | refine Ent.skip ?_)) (by kernel_rfl) ?_
          refine r_take (i := 4) (bs' := #[true, true, true, true, true, false, false, false, false, false, false]) rfl (by kernel_rfl) (by kernel_rfl) (by kernel_rfl) (fun _ _ _ h => h) rfl wn (q_fieldp rfl fo_95_3) (Hp.le_refl _) (by repeat (first | exact Ent.nil _ | exact Ent.refl _ | (refine Ent.pick (by repeat (first | exact Pick.here | apply Pick.there)) ?_) | refine Ent.skip ?_)) (by kernel_rfl) ?_
          refine r_take (i := 5) (bs' := #[true, true, true, true, true, true, false, false, false, false, false]) rfl (by kernel_rfl) (by kernel_rfl) (by kernel_rfl) (fun _ _ _ h => h) rfl wn (q_loadp (v := .int .i64 p.At) sc_3 rfl (by repeat (first | exact Pick.here | apply Pick.there)) rfl) (Hp.le_refl _) (by repeat (first | exact Ent.nil _ | exact Ent.refl _ | (refine Ent.pick (by repeat (first | exact Pick.here | apply Pick.there)) ?_) | refine Ent.skip ?_)) (by kernel_rfl) ?_
          refine r_take (i := 6) (bs' := #[true, true, true, true, true, true, true, false, false, false, false]) rfl (by kernel_rfl) (by kernel_rfl) (by kernel_rfl) (fun _ _ _ h => h) rfl wn (q_move rfl) (Hp.le_refl _) (by repeat (first | exact Ent.nil _ | exact Ent.refl _ | (refine Ent.pick (by repeat (first | exact Pick.here | apply Pick.there)) ?_) | refine Ent.skip ?_)) (by kernel_rfl) ?_
          refine r_take (i := 7) (bs' := #[true, true, true, true, true, true, true, true, false, false, false]) rfl (by kernel_rfl) (by kernel_rfl) (by kernel_rfl) (fun _ _ _ h => h) rfl wn (q_add rfl rfl (by omega) (by omega)) (Hp.le_refl _) (by repeat (first | exact Ent.nil _ | exact Ent.refl _ | (refine Ent.pick (by repeat (first | exact Pick.here | apply Pick.there)) ?_) | refine Ent.skip ?_)) (by kernel_rfl) ?_
          refine r_take (i := 8) (bs' := #[true, true, true, true, true, true, true, true, true, false, false]) rfl (by kernel_rfl) (by kernel_rfl) (by kernel_rfl) (fun _ _ _ h => h) rfl wn (q_indexe (p.At.toNat + x.d) Try.underlying60 sz_4 rfl rfl (rd_row (by repeat (first | exact Pick.here | apply Pick.there))) (by decide) (by omega) (by first | omega | (rw [marks_len]; omega))) (Hp.le_refl _) (by repeat (first | exact Ent.nil _ | exact Ent.refl _ | (refine Ent.pick (by repeat (first | exact Pick.here | apply Pick.there)) ?_) | refine Ent.skip ?_)) (by kernel_rfl) ?_
          refine r_take (i := 9) (bs' := #[true, true, true, true, true, true, true, true, true, true, false]) rfl (by kernel_rfl) (by kernel_rfl) (by kernel_rfl) (fun _ _ _ h => h) rfl wn (q_loade (enc := encO) (xs := (marks (begunD d p).there (begunD d p).left p.At.toNat x.d).1) (j := p.At.toNat + x.d) (off := 0) sc_4 rfl (rd_row (by repeat (first | exact Pick.here | apply Pick.there))) (fun _ => rfl) (by first | omega | (rw [marks_len]; omega)) (by decide) rfl) (Hp.le_refl _) (by repeat (first | exact Ent.nil _ | exact Ent.refl _ | (refine Ent.pick (by repeat (first | exact Pick.here | apply Pick.there)) ?_) | refine Ent.skip ?_)) (by kernel_rfl) ?_
          refine r_take (i := 10) (bs' := #[true, true, true, true, true, true, true, true, true, true, true]) rfl (by kernel_rfl) (by kernel_rfl) (by kernel_rfl) (fun _ _ _ h => h) rfl wn (q_not rfl) (Hp.le_refl _) (by repeat (first | exact Ent.nil _ | exact Ent.refl _ | (refine Ent.pick (by repeat (first | exact Pick.here | apply Pick.there)) ?_) | refine Ent.skip ?_)) (by kernel_rfl) ?_
          refine r_done (by kernel_rfl) ?_
          refine k_then_n ?_
          refine c_cond rfl (fun h6 => ?_) (fun h6 => ?_)
          · (try dsimp only [heapOf] at h6); try simp only [Bool.and_eq_true, Bool.or_eq_true, Bool.not_eq_true', Bool.and_eq_false_iff, Bool.or_eq_false_iff, Bool.not_eq_false', decide_eq_true_eq, decide_eq_false_iff_not, Bool.not_eq_eq_eq_not, Bool.not_true, Bool.not_false, Bool.not_eq_true, Bool.not_eq_false, beq_iff_eq, bne_iff_ne, ne_eq, Decidable.not_not] at h6
            have hmk : (marks (begunD d p).there (begunD d p).left p.At.toNat (x.d + 1)) = ((marks (begunD d p).there (begunD d p).left p.At.toNat x.d).1.set (p.At.toNat + x.d) true, (marks (begunD d p).there (begunD d p).left p.At.toNat x.d).2 - 1) := by simp only [marks]; rw [if_neg (by rw [h6]; decide)]
            refine c_region ?_
            refine l_step (s_q rfl wn (q_move rfl) ?_)
            refine l_step (s_q rfl wn (q_nilCheck rfl) ?_)
            refine l_step (s_q rfl wn (q_fieldp rfl fo_138_5) ?_)
            refine l_step (s_q rfl wn (q_loadp (v := .int .i64 ((marks (begunD d p).there (begunD d p).left p.At.toNat x.d).2)) sc_3 rfl (by repeat (first | exact Pick.here | apply Pick.there)) rfl) ?_)
            refine l_step (s_q rfl wn (q_sub rfl rfl (by omega) (by omega)) ?_)
            refine l_step (s_q rfl wn (q_nilCheck rfl) ?_)
            refine l_step (s_q rfl wn (q_fieldp rfl fo_138_5) ?_)
            refine l_step (s_s0 wn (s_storep (ws := [.int .i64 (((marks (begunD d p).there (begunD d p).left p.At.toNat x.d).2) - 1)]) (cs := encHeap (⟨(begunD d p).most, (begunD d p).of, (begunD d p).on, ⟨x1.a1, x1.n1, x1.c1⟩, ⟨x1.a2, x1.n2, x1.c2⟩, (marks (begunD d p).there (begunD d p).left p.At.toNat x.d).2⟩ : Heap)) (cs' := encHeap (⟨(begunD d p).most, (begunD d p).of, (begunD d p).on, ⟨x1.a1, x1.n1, x1.c1⟩, ⟨x1.a2, x1.n2, x1.c2⟩, (((marks (begunD d p).there (begunD d p).left p.At.toNat x.d).2) - 1)⟩ : Heap)) rfl rfl rfl sz_3 (by simp [Value.oneCell', strB, ptV, SL.v, SH.v]) (by simp [encHeap]) rfl (by repeat (first | exact Pick.here | apply Pick.there))) ?_)
            rintro _ _ ⟨rfl, rfl⟩
            refine l_nil ?_
            refine k_then_n ?_
            refine c_draw (m := 10) (bs := #[false, false, false, false, false, false, false, false, false, false]) [.pts b3 (encPiece p) 95, .pts h (encHeap (⟨(begunD d p).most, (begunD d p).of, (begunD d p).on, ⟨x1.a1, x1.n1, x1.c1⟩, ⟨x1.a2, x1.n2, x1.c2⟩, (((marks (begunD d p).there (begunD d p).left p.At.toNat x.d).2) - 1)⟩ : Heap)) 138, .row 5 1 x1.a1 x1.n1 x1.c1 ((((begunD d p).b).take ((p.At).toNat) ++ p.B.xs ++ ((begunD d p).b).drop ((p.At).toNat + p.B.xs.length)).flatMap encB)] (by kernel_rfl) rfl (by kernel_rfl) ?_
            refine r_take (i := 0) (bs' := #[true, false, false, false, false, false, false, false, false, false]) rfl (by kernel_rfl) (by kernel_rfl) (by kernel_rfl) (fun _ _ _ h => h) rfl wn (q_move rfl) (Hp.le_refl _) (by repeat (first | exact Ent.nil _ | exact Ent.refl _ | (refine Ent.pick (by repeat (first | exact Pick.here | apply Pick.there)) ?_) | refine Ent.skip ?_)) (by kernel_rfl) ?_
            refine r_take (i := 1) (bs' := #[true, true, false, false, false, false, false, false, false, false]) rfl (by kernel_rfl) (by kernel_rfl) (by kernel_rfl) (fun _ _ _ h => h) rfl wn (q_nilCheck rfl) (Hp.le_refl _) (by repeat (first | exact Ent.nil _ | exact Ent.refl _ | (refine Ent.pick (by repeat (first | exact Pick.here | apply Pick.there)) ?_) | refine Ent.skip ?_)) (by kernel_rfl) ?_
            refine r_take (i := 2) (bs' := #[true, true, true, false, false, false, false, false, false, false]) rfl (by kernel_rfl) (by kernel_rfl) (by kernel_rfl) (fun _ _ _ h => h) rfl wn (q_fieldp rfl fo_138_4) (Hp.le_refl _) (by repeat (first | exact Ent.nil _ | exact Ent.refl _ | (refine Ent.pick (by repeat (first | exact Pick.here | apply Pick.there)) ?_) | refine Ent.skip ?_)) (by kernel_rfl) ?_
            refine r_take (i := 3) (bs' := #[true, true, true, true, false, false, false, false, false, false]) rfl (by kernel_rfl) (by kernel_rfl) (by kernel_rfl) (fun _ _ _ h => h) rfl wn (q_loadp (v := .slice x1.a2 x1.n2 x1.c2) sc_60 rfl (by repeat (first | exact Pick.here | apply Pick.there)) rfl) (Hp.le_refl _) (by repeat (first | exact Ent.nil _ | exact Ent.refl _ | (refine Ent.pick (by repeat (first | exact Pick.here | apply Pick.there)) ?_) | refine Ent.skip ?_)) (by kernel_rfl) ?_
            refine r_take (i := 4) (bs' := #[true, true, true, true, true, false, false, false, false, false]) rfl (by kernel_rfl) (by kernel_rfl) (by kernel_rfl) (fun _ _ _ h => h) rfl wn (q_fieldp rfl fo_95_3) (Hp.le_refl _) (by repeat (first | exact Ent.nil _ | exact Ent.refl _ | (refine Ent.pick (by repeat (first | exact Pick.here | apply Pick.there)) ?_) | refine Ent.skip ?_)) (by kernel_rfl) ?_
            refine r_take (i := 5) (bs' := #[true, true, true, true, true, true, false, false, false, false]) rfl (by kernel_rfl) (by kernel_rfl) (by kernel_rfl) (fun _ _ _ h => h) rfl wn (q_loadp (v := .int .i64 p.At) sc_3 rfl (by repeat (first | exact Pick.here | apply Pick.there)) rfl) (Hp.le_refl _) (by repeat (first | exact Ent.nil _ | exact Ent.refl _ | (refine Ent.pick (by repeat (first | exact Pick.here | apply Pick.there)) ?_) | refine Ent.skip ?_)) (by kernel_rfl) ?_
            refine r_take (i := 6) (bs' := #[true, true, true, true, true, true, true, false, false, false]) rfl (by kernel_rfl) (by kernel_rfl) (by kernel_rfl) (fun _ _ _ h => h) rfl wn (q_move rfl) (Hp.le_refl _) (by repeat (first | exact Ent.nil _ | exact Ent.refl _ | (refine Ent.pick (by repeat (first | exact Pick.here | apply Pick.there)) ?_) | refine Ent.skip ?_)) (by kernel_rfl) ?_
            refine r_take (i := 7) (bs' := #[true, true, true, true, true, true, true, true, false, false]) rfl (by kernel_rfl) (by kernel_rfl) (by kernel_rfl) (fun _ _ _ h => h) rfl wn (q_add rfl rfl (by omega) (by omega)) (Hp.le_refl _) (by repeat (first | exact Ent.nil _ | exact Ent.refl _ | (refine Ent.pick (by repeat (first | exact Pick.here | apply Pick.there)) ?_) | refine Ent.skip ?_)) (by kernel_rfl) ?_
            refine r_one (i := 8) (bs' := #[true, true, true, true, true, true, true, true, true, false]) (by kernel_rfl) (by kernel_rfl) ?_
            refine o_step rfl (s_q rfl wn (q_indexe (p.At.toNat + x.d) Try.underlying60 sz_4 rfl rfl (rd_row (by repeat (first | exact Pick.here | apply Pick.there))) (by decide) (by omega) (by first | omega | (rw [marks_len]; omega))) ?_)
            refine r_cont (Hp.le_refl _) (by repeat (first | exact Ent.nil _ | exact Ent.refl _ | (refine Ent.pick (by repeat (first | exact Pick.here | apply Pick.there)) ?_) | refine Ent.skip ?_)) ?_
            refine r_one (i := 9) (bs' := #[true, true, true, true, true, true, true, true, true, true]) (by kernel_rfl) (by kernel_rfl) ?_
            refine o_step rfl (s_s0 wn (s_storee (ws := [.bool true]) (enc := encO) (xs := (marks (begunD d p).there (begunD d p).left p.At.toNat x.d).1) (j := p.At.toNat + x.d) (off := 0) true rfl rfl rfl sz_4 (by simp) (by simp [Value.oneCell', strB, ptV, SL.v]) (by repeat (first | exact Pick.here | apply Pick.there)) (fun _ => rfl) (by first | omega | (rw [marks_len]; omega)) (by simp) (by first | rfl | simp [encO])) ?_)
            rintro _ _ ⟨rfl, rfl⟩
            refine r_cont (Hp.le_refl _) (by repeat (first | exact Ent.nil _ | exact Ent.refl _ | (refine Ent.pick (by repeat (first | exact Pick.here | apply Pick.there)) ?_) | refine Ent.skip ?_)) ?_
            refine r_done (by kernel_rfl) ?_
            refine k_blk_n ?_
            refine k_then_n ?_
            refine c_region ?_
            refine l_step (s_q rfl wn (q_add rfl rfl (by omega) (by omega)) ?_)
            refine l_step (s_q rfl wn (q_move rfl) ?_)
            refine l_nil ?_
            refine k_then_n ?_
            have hm1 := congrArg Prod.fst hmk
            have hm2 := congrArg Prod.snd hmk
            dsimp only at hm1 hm2
            rw [← hm1]
            try rw [← hm2]
            exact t_next (⟨x.d + 1, none, 0, none, 0, none, 0⟩ : Lp _) ⟨by simp only []; omega, by simp only []; omega⟩ (.cons rfl (by first | rfl | exact inte (by omega) | (simp; done) | (simp <;> omega) | simp [*]) (.cons rfl (by first | rfl | exact inte (by omega) | (simp; done) | (simp <;> omega) | simp [*]) (.cons rfl (by first | rfl | exact inte (by omega) | (simp; done) | (simp <;> omega) | simp [*]) (.cons rfl (by first | rfl | exact inte (by omega) | (simp; done) | (simp <;> omega) | simp [*]) (.nil _))))) (by repeat (first | exact Ent.nil _ | exact Ent.refl _ | (refine Ent.pick (by repeat (first | exact Pick.here | apply Pick.there)) ?_) | refine Ent.skip ?_))
          · (try dsimp only [heapOf] at h6); try simp only [Bool.and_eq_true, Bool.or_eq_true, Bool.not_eq_true', Bool.and_eq_false_iff, Bool.or_eq_false_iff, Bool.not_eq_false', decide_eq_true_eq, decide_eq_false_iff_not, Bool.not_eq_eq_eq_not, Bool.not_true, Bool.not_false, Bool.not_eq_true, Bool.not_eq_false, beq_iff_eq, bne_iff_ne, ne_eq, Decidable.not_not] at h6
            have hmk : (marks (begunD d p).there (begunD d p).left p.At.toNat (x.d + 1)) = ((marks (begunD d p).there (begunD d p).left p.At.toNat x.d).1.set (p.At.toNat + x.d) true, (marks (begunD d p).there (begunD d p).left p.At.toNat x.d).2) := by simp only [marks]; rw [if_pos h6]
            refine c_skip ?_
            refine k_then_n ?_
            refine c_draw (m := 10) (bs := #[false, false, false, false, false, false, false, false, false, false]) [.pts b3 (encPiece p) 95, .pts h (encHeap (⟨(begunD d p).most, (begunD d p).of, (begunD d p).on, ⟨x1.a1, x1.n1, x1.c1⟩, ⟨x1.a2, x1.n2, x1.c2⟩, (marks (begunD d p).there (begunD d p).left p.At.toNat x.d).2⟩ : Heap)) 138, .row 5 1 x1.a1 x1.n1 x1.c1 ((((begunD d p).b).take ((p.At).toNat) ++ p.B.xs ++ ((begunD d p).b).drop ((p.At).toNat + p.B.xs.length)).flatMap encB)] (by kernel_rfl) rfl (by kernel_rfl) ?_
            refine r_take (i := 0) (bs' := #[true, false, false, false, false, false, false, false, false, false]) rfl (by kernel_rfl) (by kernel_rfl) (by kernel_rfl) (fun _ _ _ h => h) rfl wn (q_move rfl) (Hp.le_refl _) (by repeat (first | exact Ent.nil _ | exact Ent.refl _ | (refine Ent.pick (by repeat (first | exact Pick.here | apply Pick.there)) ?_) | refine Ent.skip ?_)) (by kernel_rfl) ?_
            refine r_take (i := 1) (bs' := #[true, true, false, false, false, false, false, false, false, false]) rfl (by kernel_rfl) (by kernel_rfl) (by kernel_rfl) (fun _ _ _ h => h) rfl wn (q_nilCheck rfl) (Hp.le_refl _) (by repeat (first | exact Ent.nil _ | exact Ent.refl _ | (refine Ent.pick (by repeat (first | exact Pick.here | apply Pick.there)) ?_) | refine Ent.skip ?_)) (by kernel_rfl) ?_
            refine r_take (i := 2) (bs' := #[true, true, true, false, false, false, false, false, false, false]) rfl (by kernel_rfl) (by kernel_rfl) (by kernel_rfl) (fun _ _ _ h => h) rfl wn (q_fieldp rfl fo_138_4) (Hp.le_refl _) (by repeat (first | exact Ent.nil _ | exact Ent.refl _ | (refine Ent.pick (by repeat (first | exact Pick.here | apply Pick.there)) ?_) | refine Ent.skip ?_)) (by kernel_rfl) ?_
            refine r_take (i := 3) (bs' := #[true, true, true, true, false, false, false, false, false, false]) rfl (by kernel_rfl) (by kernel_rfl) (by kernel_rfl) (fun _ _ _ h => h) rfl wn (q_loadp (v := .slice x1.a2 x1.n2 x1.c2) sc_60 rfl (by repeat (first | exact Pick.here | apply Pick.there)) rfl) (Hp.le_refl _) (by repeat (first | exact Ent.nil _ | exact Ent.refl _ | (refine Ent.pick (by repeat (first | exact Pick.here | apply Pick.there)) ?_) | refine Ent.skip ?_)) (by kernel_rfl) ?_
            refine r_take (i := 4) (bs' := #[true, true, true, true, true, false, false, false, false, false]) rfl (by kernel_rfl) (by kernel_rfl) (by kernel_rfl) (fun _ _ _ h => h) rfl wn (q_fieldp rfl fo_95_3) (Hp.le_refl _) (by repeat (first | exact Ent.nil _ | exact Ent.refl _ | (refine Ent.pick (by repeat (first | exact Pick.here | apply Pick.there)) ?_) | refine Ent.skip ?_)) (by kernel_rfl) ?_
            refine r_take (i := 5) (bs' := #[true, true, true, true, true, true, false, false, false, false]) rfl (by kernel_rfl) (by kernel_rfl) (by kernel_rfl) (fun _ _ _ h => h) rfl wn (q_loadp (v := .int .i64 p.At) sc_3 rfl (by repeat (first | exact Pick.here | apply Pick.there)) rfl) (Hp.le_refl _) (by repeat (first | exact Ent.nil _ | exact Ent.refl _ | (refine Ent.pick (by repeat (first | exact Pick.here | apply Pick.there)) ?_) | refine Ent.skip ?_)) (by kernel_rfl) ?_
            refine r_take (i := 6) (bs' := #[true, true, true, true, true, true, true, false, false, false]) rfl (by kernel_rfl) (by kernel_rfl) (by kernel_rfl) (fun _ _ _ h => h) rfl wn (q_move rfl) (Hp.le_refl _) (by repeat (first | exact Ent.nil _ | exact Ent.refl _ | (refine Ent.pick (by repeat (first | exact Pick.here | apply Pick.there)) ?_) | refine Ent.skip ?_)) (by kernel_rfl) ?_
            refine r_take (i := 7) (bs' := #[true, true, true, true, true, true, true, true, false, false]) rfl (by kernel_rfl) (by kernel_rfl) (by kernel_rfl) (fun _ _ _ h => h) rfl wn (q_add rfl rfl (by omega) (by omega)) (Hp.le_refl _) (by repeat (first | exact Ent.nil _ | exact Ent.refl _ | (refine Ent.pick (by repeat (first | exact Pick.here | apply Pick.there)) ?_) | refine Ent.skip ?_)) (by kernel_rfl) ?_
            refine r_one (i := 8) (bs' := #[true, true, true, true, true, true, true, true, true, false]) (by kernel_rfl) (by kernel_rfl) ?_
            refine o_step rfl (s_q rfl wn (q_indexe (p.At.toNat + x.d) Try.underlying60 sz_4 rfl rfl (rd_row (by repeat (first | exact Pick.here | apply Pick.there))) (by decide) (by omega) (by first | omega | (rw [marks_len]; omega))) ?_)
            refine r_cont (Hp.le_refl _) (by repeat (first | exact Ent.nil _ | exact Ent.refl _ | (refine Ent.pick (by repeat (first | exact Pick.here | apply Pick.there)) ?_) | refine Ent.skip ?_)) ?_
            refine r_one (i := 9) (bs' := #[true, true, true, true, true, true, true, true, true, true]) (by kernel_rfl) (by kernel_rfl) ?_
            refine o_step rfl (s_s0 wn (s_storee (ws := [.bool true]) (enc := encO) (xs := (marks (begunD d p).there (begunD d p).left p.At.toNat x.d).1) (j := p.At.toNat + x.d) (off := 0) true rfl rfl rfl sz_4 (by simp) (by simp [Value.oneCell', strB, ptV, SL.v]) (by repeat (first | exact Pick.here | apply Pick.there)) (fun _ => rfl) (by first | omega | (rw [marks_len]; omega)) (by simp) (by first | rfl | simp [encO])) ?_)
            rintro _ _ ⟨rfl, rfl⟩
            refine r_cont (Hp.le_refl _) (by repeat (first | exact Ent.nil _ | exact Ent.refl _ | (refine Ent.pick (by repeat (first | exact Pick.here | apply Pick.there)) ?_) | refine Ent.skip ?_)) ?_
            refine r_done (by kernel_rfl) ?_
            refine k_blk_n ?_
            refine k_then_n ?_
            refine c_region ?_
            refine l_step (s_q rfl wn (q_add rfl rfl (by omega) (by omega)) ?_)
            refine l_step (s_q rfl wn (q_move rfl) ?_)
            refine l_nil ?_
            refine k_then_n ?_
            have hm1 := congrArg Prod.fst hmk
            have hm2 := congrArg Prod.snd hmk
            dsimp only at hm1 hm2
            rw [← hm1]
            try rw [← hm2]
            exact t_next (⟨x.d + 1, none, 0, none, 0, none, 0⟩ : Lp _) ⟨by simp only []; omega, by simp only []; omega⟩ (.cons rfl (by first | rfl | exact inte (by omega) | (simp; done) | (simp <;> omega) | simp [*]) (.cons rfl (by first | rfl | exact inte (by omega) | (simp; done) | (simp <;> omega) | simp [*]) (.cons rfl (by first | rfl | exact inte (by omega) | (simp; done) | (simp <;> omega) | simp [*]) (.cons rfl (by first | rfl | exact inte (by omega) | (simp; done) | (simp <;> omega) | simp [*]) (.nil _))))) (by repeat (first | exact Ent.nil _ | exact Ent.refl _ | (refine Ent.pick (by repeat (first | exact Pick.here | apply Pick.there)) ?_) | refine Ent.skip ?_))
        · (try dsimp only [heapOf] at h5); try simp only [Bool.and_eq_true, Bool.or_eq_true, Bool.not_eq_true', Bool.and_eq_false_iff, Bool.or_eq_false_iff, Bool.not_eq_false', decide_eq_true_eq, decide_eq_false_iff_not, Bool.not_eq_eq_eq_not, Bool.not_true, Bool.not_false, Bool.not_eq_true, Bool.not_eq_false, beq_iff_eq, bne_iff_ne, ne_eq, Decidable.not_not] at h5
          have hk2 : x.d = p.B.xs.length := by omega
          rw [hk2]
          refine c_exit ?_
          refine k_then_x ?_
          refine k_then_x ?_
          refine k_blk_x ?_
          refine k_then_n ?_
          refine c_seq ?_
          refine c_seq ?_
          refine c_draw (m := 19) (bs := #[false, false, false, false, false, false, false, false, false, false, false, false, false, false, false, false, false, false, false]) [.pts b3 (encPiece p) 95, .pts h (encHeap (⟨(laidD (begunD d p) p).most, (laidD (begunD d p) p).of, (laidD (begunD d p) p).on, ⟨x1.a1, x1.n1, x1.c1⟩, ⟨x1.a2, x1.n2, x1.c2⟩, (laidD (begunD d p) p).left⟩ : Heap)) 138, .row 5 1 x1.a1 x1.n1 x1.c1 (((laidD (begunD d p) p).b).flatMap encB), .row 4 1 x1.a2 x1.n2 x1.c2 (((laidD (begunD d p) p).there).flatMap encO)] (by kernel_rfl) rfl (by kernel_rfl) ?_
          refine r_take (i := 0) (bs' := #[true, false, false, false, false, false, false, false, false, false, false, false, false, false, false, false, false, false, false]) rfl (by kernel_rfl) (by kernel_rfl) (by kernel_rfl) (fun _ _ _ h => h) rfl wn (q_move rfl) (Hp.le_refl _) (by repeat (first | exact Ent.nil _ | exact Ent.refl _ | (refine Ent.pick (by repeat (first | exact Pick.here | apply Pick.there)) ?_) | refine Ent.skip ?_)) (by kernel_rfl) ?_
          refine r_take (i := 1) (bs' := #[true, true, false, false, false, false, false, false, false, false, false, false, false, false, false, false, false, false, false]) rfl (by kernel_rfl) (by kernel_rfl) (by kernel_rfl) (fun _ _ _ h => h) rfl wn (q_nilCheck rfl) (Hp.le_refl _) (by repeat (first | exact Ent.nil _ | exact Ent.refl _ | (refine Ent.pick (by repeat (first | exact Pick.here | apply Pick.there)) ?_) | refine Ent.skip ?_)) (by kernel_rfl) ?_
          refine r_take (i := 2) (bs' := #[true, true, true, false, false, false, false, false, false, false, false, false, false, false, false, false, false, false, false]) rfl (by kernel_rfl) (by kernel_rfl) (by kernel_rfl) (fun _ _ _ h => h) rfl wn (q_fieldp rfl fo_138_5) (Hp.le_refl _) (by repeat (first | exact Ent.nil _ | exact Ent.refl _ | (refine Ent.pick (by repeat (first | exact Pick.here | apply Pick.there)) ?_) | refine Ent.skip ?_)) (by kernel_rfl) ?_
          refine r_take (i := 3) (bs' := #[true, true, true, true, false, false, false, false, false, false, false, false, false, false, false, false, false, false, false]) rfl (by kernel_rfl) (by kernel_rfl) (by kernel_rfl) (fun _ _ _ h => h) rfl wn (q_loadp (v := .int .i64 ((laidD (begunD d p) p).left)) sc_3 rfl (by repeat (first | exact Pick.here | apply Pick.there)) rfl) (Hp.le_refl _) (by repeat (first | exact Ent.nil _ | exact Ent.refl _ | (refine Ent.pick (by repeat (first | exact Pick.here | apply Pick.there)) ?_) | refine Ent.skip ?_)) (by kernel_rfl) ?_
          refine r_take (i := 4) (bs' := #[true, true, true, true, true, false, false, false, false, false, false, false, false, false, false, false, false, false, false]) rfl (by kernel_rfl) (by kernel_rfl) (by kernel_rfl) (fun _ _ _ h => h) rfl wn (q_eql rfl rfl) (Hp.le_refl _) (by repeat (first | exact Ent.nil _ | exact Ent.refl _ | (refine Ent.pick (by repeat (first | exact Pick.here | apply Pick.there)) ?_) | refine Ent.skip ?_)) (by kernel_rfl) ?_
          refine r_take (i := 5) (bs' := #[true, true, true, true, true, true, false, false, false, false, false, false, false, false, false, false, false, false, false]) rfl (by kernel_rfl) (by kernel_rfl) (by kernel_rfl) (fun _ _ _ h => h) rfl wn (q_move rfl) (Hp.le_refl _) (by repeat (first | exact Ent.nil _ | exact Ent.refl _ | (refine Ent.pick (by repeat (first | exact Pick.here | apply Pick.there)) ?_) | refine Ent.skip ?_)) (by kernel_rfl) ?_
          refine t_split (d := 172) rfl (fun g21_5 => ?_) (fun g21_5 => ?_)
          · (try dsimp only [heapOf] at g21_5); try simp only [Bool.and_eq_true, Bool.or_eq_true, Bool.not_eq_true', Bool.and_eq_false_iff, Bool.or_eq_false_iff, Bool.not_eq_false', decide_eq_true_eq, decide_eq_false_iff_not, Bool.not_eq_eq_eq_not, Bool.not_true, Bool.not_false, Bool.not_eq_true, Bool.not_eq_false, beq_iff_eq, bne_iff_ne, ne_eq, Decidable.not_not] at g21_5
            refine r_take (i := 6) (bs' := #[true, true, true, true, true, true, true, false, false, false, false, false, false, false, false, false, false, false, false]) rfl (by kernel_rfl) (by kernel_rfl) (by kernel_rfl) (fun _ _ _ h => h) rfl (wy rfl rfl rfl) (q_move rfl) (Hp.le_refl _) (by repeat (first | exact Ent.nil _ | exact Ent.refl _ | (refine Ent.pick (by repeat (first | exact Pick.here | apply Pick.there)) ?_) | refine Ent.skip ?_)) (by kernel_rfl) ?_
            refine r_take (i := 7) (bs' := #[true, true, true, true, true, true, true, true, false, false, false, false, false, false, false, false, false, false, false]) rfl (by kernel_rfl) (by kernel_rfl) (by kernel_rfl) (fun _ _ _ h => h) rfl (wy rfl rfl rfl) (q_nilCheck rfl) (Hp.le_refl _) (by repeat (first | exact Ent.nil _ | exact Ent.refl _ | (refine Ent.pick (by repeat (first | exact Pick.here | apply Pick.there)) ?_) | refine Ent.skip ?_)) (by kernel_rfl) ?_
            refine r_take (i := 8) (bs' := #[true, true, true, true, true, true, true, true, true, false, false, false, false, false, false, false, false, false, false]) rfl (by kernel_rfl) (by kernel_rfl) (by kernel_rfl) (fun _ _ _ h => h) rfl (wy rfl rfl rfl) (q_fieldp rfl fo_138_1) (Hp.le_refl _) (by repeat (first | exact Ent.nil _ | exact Ent.refl _ | (refine Ent.pick (by repeat (first | exact Pick.here | apply Pick.there)) ?_) | refine Ent.skip ?_)) (by kernel_rfl) ?_
            refine r_take (i := 9) (bs' := #[true, true, true, true, true, true, true, true, true, true, false, false, false, false, false, false, false, false, false]) rfl (by kernel_rfl) (by kernel_rfl) (by kernel_rfl) (fun _ _ _ h => h) rfl (wy rfl rfl rfl) (q_fieldp rfl fo_95_1) (Hp.le_refl _) (by repeat (first | exact Ent.nil _ | exact Ent.refl _ | (refine Ent.pick (by repeat (first | exact Pick.here | apply Pick.there)) ?_) | refine Ent.skip ?_)) (by kernel_rfl) ?_
            refine r_take (i := 10) (bs' := #[true, true, true, true, true, true, true, true, true, true, true, false, false, false, false, false, false, false, false]) rfl (by kernel_rfl) (by kernel_rfl) (by kernel_rfl) (fun _ _ _ h => h) rfl (wy rfl rfl rfl) (q_loadp (v := .int .u32 ((((laidD (begunD d p) p).of).Sum).toNat : Int)) sc_23 rfl (by repeat (first | exact Pick.here | apply Pick.there)) rfl) (Hp.le_refl _) (by repeat (first | exact Ent.nil _ | exact Ent.refl _ | (refine Ent.pick (by repeat (first | exact Pick.here | apply Pick.there)) ?_) | refine Ent.skip ?_)) (by kernel_rfl) ?_
            refine r_take (i := 11) (bs' := #[true, true, true, true, true, true, true, true, true, true, true, true, false, false, false, false, false, false, false]) rfl (by kernel_rfl) (by kernel_rfl) (by kernel_rfl) (fun _ _ _ h => h) rfl (wy rfl rfl rfl) (q_move rfl) (Hp.le_refl _) (by repeat (first | exact Ent.nil _ | exact Ent.refl _ | (refine Ent.pick (by repeat (first | exact Pick.here | apply Pick.there)) ?_) | refine Ent.skip ?_)) (by kernel_rfl) ?_
            refine r_take (i := 12) (bs' := #[true, true, true, true, true, true, true, true, true, true, true, true, true, false, false, false, false, false, false]) rfl (by kernel_rfl) (by kernel_rfl) (by kernel_rfl) (fun _ _ _ h => h) rfl (wy rfl rfl rfl) (q_nilCheck rfl) (Hp.le_refl _) (by repeat (first | exact Ent.nil _ | exact Ent.refl _ | (refine Ent.pick (by repeat (first | exact Pick.here | apply Pick.there)) ?_) | refine Ent.skip ?_)) (by kernel_rfl) ?_
            refine r_take (i := 13) (bs' := #[true, true, true, true, true, true, true, true, true, true, true, true, true, true, false, false, false, false, false]) rfl (by kernel_rfl) (by kernel_rfl) (by kernel_rfl) (fun _ _ _ h => h) rfl (wy rfl rfl rfl) (q_fieldp rfl fo_138_3) (Hp.le_refl _) (by repeat (first | exact Ent.nil _ | exact Ent.refl _ | (refine Ent.pick (by repeat (first | exact Pick.here | apply Pick.there)) ?_) | refine Ent.skip ?_)) (by kernel_rfl) ?_
            refine r_take (i := 14) (bs' := #[true, true, true, true, true, true, true, true, true, true, true, true, true, true, true, false, false, false, false]) rfl (by kernel_rfl) (by kernel_rfl) (by kernel_rfl) (fun _ _ _ h => h) rfl (wy rfl rfl rfl) (q_loadp (v := .slice x1.a1 x1.n1 x1.c1) sc_22 rfl (by repeat (first | exact Pick.here | apply Pick.there)) rfl) (Hp.le_refl _) (by repeat (first | exact Ent.nil _ | exact Ent.refl _ | (refine Ent.pick (by repeat (first | exact Pick.here | apply Pick.there)) ?_) | refine Ent.skip ?_)) (by kernel_rfl) ?_
            refine r_one (i := 15) (bs' := #[true, true, true, true, true, true, true, true, true, true, true, true, true, true, true, true, false, false, false]) (by kernel_rfl) (by kernel_rfl) ?_
            refine o_step rfl (s_s rfl (wy rfl rfl rfl) (s_buildSlice (cs := ([⟨x1.a1, x1.n1, x1.c1⟩] : List SH).flatMap encSH) Try.underlying32 eo_22 rfl rfl rfl rfl (by decide) (by decide)) ?_)
            rintro _ _ ⟨b182, rfl, rfl⟩
            refine r_cont (Hp.le_refl _) (by repeat (first | exact Ent.nil _ | exact Ent.refl _ | (refine Ent.pick (by repeat (first | exact Pick.here | apply Pick.there)) ?_) | refine Ent.skip ?_)) ?_
            refine r_one (i := 16) (bs' := #[true, true, true, true, true, true, true, true, true, true, true, true, true, true, true, true, true, false, false]) (by kernel_rfl) (by kernel_rfl) ?_
            refine o_step rfl (s_fnq rfl (wy rfl rfl rfl) Try.func18 rfl (by kernel_rfl) rfl (fun ρ' hL => sfits_spec (begunD d p).of.Sum b182 x1.n1 x1.c1 x1.a1 (laidD (begunD d p) p).b (by rw [← hb1]; simp only [laidD, List.length_append, List.length_take, List.length_drop]; omega) (by simp only [laidD, List.length_append, List.length_take, List.length_drop]; omega) ρ' (hL.row (by repeat (first | exact Pick.here | apply Pick.there))) (hL.row (by repeat (first | exact Pick.here | apply Pick.there)))) ?_)
            refine r_cont (Hp.le_refl _) (by repeat (first | exact Ent.nil _ | exact Ent.refl _ | (refine Ent.pick (by repeat (first | exact Pick.here | apply Pick.there)) ?_) | refine Ent.skip ?_)) ?_
            refine r_take (i := 17) (bs' := #[true, true, true, true, true, true, true, true, true, true, true, true, true, true, true, true, true, true, false]) rfl (by kernel_rfl) (by kernel_rfl) (by kernel_rfl) (fun _ _ _ h => h) rfl (wy rfl rfl rfl) (q_not rfl) (Hp.le_refl _) (by repeat (first | exact Ent.nil _ | exact Ent.refl _ | (refine Ent.pick (by repeat (first | exact Pick.here | apply Pick.there)) ?_) | refine Ent.skip ?_)) (by kernel_rfl) ?_
            refine r_take (i := 18) (bs' := #[true, true, true, true, true, true, true, true, true, true, true, true, true, true, true, true, true, true, true]) rfl (by kernel_rfl) (by kernel_rfl) (by kernel_rfl) (fun _ _ _ h => h) rfl wn (q_pick rfl rfl rfl) (Hp.le_refl _) (by repeat (first | exact Ent.nil _ | exact Ent.refl _ | (refine Ent.pick (by repeat (first | exact Pick.here | apply Pick.there)) ?_) | refine Ent.skip ?_)) (by kernel_rfl) ?_
            refine r_done (by kernel_rfl) ?_
            refine k_then_n ?_
            refine c_cond rfl (fun h7 => ?_) (fun h7 => ?_)
            · (try dsimp only [heapOf] at h7); try simp only [Bool.and_eq_true, Bool.or_eq_true, Bool.not_eq_true', Bool.and_eq_false_iff, Bool.or_eq_false_iff, Bool.not_eq_false', decide_eq_true_eq, decide_eq_false_iff_not, Bool.not_eq_eq_eq_not, Bool.not_true, Bool.not_false, Bool.not_eq_true, Bool.not_eq_false, beq_iff_eq, bne_iff_ne, ne_eq, Decidable.not_not] at h7
              refine c_seq ?_
              refine c_region ?_
              refine l_step (s_q rfl wn (q_move rfl) ?_)
              refine l_step (s_fnb rfl wn Try.func41 rfl (by kernel_rfl) rfl (by repeat (first | exact Sel.nil | exact Pick.here | apply Sel.cons | apply Pick.there)) (fun ρ' hL => drop_spec h (laidD (begunD d p) p) x1 ρ') ?_)
              rintro _ _ ⟨rfl, rfl⟩
              try simp only [List.cons_append, List.nil_append]
              simp only [HeapM, List.cons_append, List.nil_append]
              refine l_nil ?_
              refine k_then_n ?_
              refine c_seq ?_
              refine c_region ?_
              refine l_step (s_q rfl wn (q_assign rfl) ?_)
              refine l_nil ?_
              refine k_then_n ?_
              refine c_ret ?_
              refine k_then_r ?_
              have hdn : (decide ((laidD (begunD d p) p).left = 0) && !decide (((sumB (laidD (begunD d p) p).b).toNat : Int) = ((laidD (begunD d p) p).of.Sum.toNat : Int))) = true := by simp only [Bool.and_eq_true, Bool.not_eq_true', decide_eq_true_eq, decide_eq_false_iff_not]; exact ⟨g21_5, h7⟩
              have hT := (take_done h0 h1 hx2).trans (if_pos hdn)
              exact t_ret (HeapM 138 5 4 h (newD (begunD d p).most) noX) rfl (.tmp rfl .nil) rfl (Hp.le_refl _) ⟨rfl, noX, (by rw [hT]; try rfl), (by rw [hT]; try rfl)⟩ (by simp only [HeapM, List.cons_append, List.nil_append]; exact (by repeat (first | exact Ent.nil _ | exact Ent.refl _ | (refine Ent.pick (by repeat (first | exact Pick.here | apply Pick.there)) ?_) | refine Ent.skip ?_)))
            · (try dsimp only [heapOf] at h7); try simp only [Bool.and_eq_true, Bool.or_eq_true, Bool.not_eq_true', Bool.and_eq_false_iff, Bool.or_eq_false_iff, Bool.not_eq_false', decide_eq_true_eq, decide_eq_false_iff_not, Bool.not_eq_eq_eq_not, Bool.not_true, Bool.not_false, Bool.not_eq_true, Bool.not_eq_false, beq_iff_eq, bne_iff_ne, ne_eq, Decidable.not_not] at h7
              refine c_skip ?_
              refine k_then_n ?_
              refine c_seq ?_
              refine c_region ?_
              refine l_step (s_q rfl wn (q_assign rfl) ?_)
              refine l_nil ?_
              refine k_then_n ?_
              refine c_ret ?_
              have hdn : ¬ (decide ((laidD (begunD d p) p).left = 0) && !decide (((sumB (laidD (begunD d p) p).b).toNat : Int) = ((laidD (begunD d p) p).of.Sum.toNat : Int))) = true := by simp only [Bool.and_eq_true, Bool.not_eq_true', decide_eq_true_eq, decide_eq_false_iff_not]; exact fun q => q.2 h7
              have hT := (take_done h0 h1 hx2).trans (if_neg hdn)
              exact t_ret (HeapM 138 5 4 h (laidD (begunD d p) p) x1) rfl (.tmp rfl .nil) rfl (Hp.le_refl _) ⟨rfl, x1, (by rw [hT]; try rfl), (by rw [hT]; try rfl)⟩ (by simp only [HeapM, List.cons_append, List.nil_append]; exact (by repeat (first | exact Ent.nil _ | exact Ent.refl _ | (refine Ent.pick (by repeat (first | exact Pick.here | apply Pick.there)) ?_) | refine Ent.skip ?_)))
          · (try dsimp only [heapOf] at g21_5); try simp only [Bool.and_eq_true, Bool.or_eq_true, Bool.not_eq_true', Bool.and_eq_false_iff, Bool.or_eq_false_iff, Bool.not_eq_false', decide_eq_true_eq, decide_eq_false_iff_not, Bool.not_eq_eq_eq_not, Bool.not_true, Bool.not_false, Bool.not_eq_true, Bool.not_eq_false, beq_iff_eq, bne_iff_ne, ne_eq, Decidable.not_not] at g21_5
            refine r_skip (i := 6) (bs' := #[true, true, true, true, true, true, true, false, false, false, false, false, false, false, false, false, false, false, false]) rfl (by kernel_rfl) (by kernel_rfl) (by kernel_rfl) (fun _ _ _ h => h) rfl (wno rfl rfl (by decide)) (Hp.le_refl _) (by repeat (first | exact Ent.nil _ | exact Ent.refl _ | (refine Ent.pick (by repeat (first | exact Pick.here | apply Pick.there)) ?_) | refine Ent.skip ?_)) (by kernel_rfl) ?_
            refine r_skip (i := 7) (bs' := #[true, true, true, true, true, true, true, true, false, false, false, false, false, false, false, false, false, false, false]) rfl (by kernel_rfl) (by kernel_rfl) (by kernel_rfl) (fun _ _ _ h => h) rfl (wno rfl rfl (by decide)) (Hp.le_refl _) (by repeat (first | exact Ent.nil _ | exact Ent.refl _ | (refine Ent.pick (by repeat (first | exact Pick.here | apply Pick.there)) ?_) | refine Ent.skip ?_)) (by kernel_rfl) ?_
            refine r_skip (i := 8) (bs' := #[true, true, true, true, true, true, true, true, true, false, false, false, false, false, false, false, false, false, false]) rfl (by kernel_rfl) (by kernel_rfl) (by kernel_rfl) (fun _ _ _ h => h) rfl (wno rfl rfl (by decide)) (Hp.le_refl _) (by repeat (first | exact Ent.nil _ | exact Ent.refl _ | (refine Ent.pick (by repeat (first | exact Pick.here | apply Pick.there)) ?_) | refine Ent.skip ?_)) (by kernel_rfl) ?_
            refine r_skip (i := 9) (bs' := #[true, true, true, true, true, true, true, true, true, true, false, false, false, false, false, false, false, false, false]) rfl (by kernel_rfl) (by kernel_rfl) (by kernel_rfl) (fun _ _ _ h => h) rfl (wno rfl rfl (by decide)) (Hp.le_refl _) (by repeat (first | exact Ent.nil _ | exact Ent.refl _ | (refine Ent.pick (by repeat (first | exact Pick.here | apply Pick.there)) ?_) | refine Ent.skip ?_)) (by kernel_rfl) ?_
            refine r_skip (i := 10) (bs' := #[true, true, true, true, true, true, true, true, true, true, true, false, false, false, false, false, false, false, false]) rfl (by kernel_rfl) (by kernel_rfl) (by kernel_rfl) (fun _ _ _ h => h) rfl (wno rfl rfl (by decide)) (Hp.le_refl _) (by repeat (first | exact Ent.nil _ | exact Ent.refl _ | (refine Ent.pick (by repeat (first | exact Pick.here | apply Pick.there)) ?_) | refine Ent.skip ?_)) (by kernel_rfl) ?_
            refine r_skip (i := 11) (bs' := #[true, true, true, true, true, true, true, true, true, true, true, true, false, false, false, false, false, false, false]) rfl (by kernel_rfl) (by kernel_rfl) (by kernel_rfl) (fun _ _ _ h => h) rfl (wno rfl rfl (by decide)) (Hp.le_refl _) (by repeat (first | exact Ent.nil _ | exact Ent.refl _ | (refine Ent.pick (by repeat (first | exact Pick.here | apply Pick.there)) ?_) | refine Ent.skip ?_)) (by kernel_rfl) ?_
            refine r_skip (i := 12) (bs' := #[true, true, true, true, true, true, true, true, true, true, true, true, true, false, false, false, false, false, false]) rfl (by kernel_rfl) (by kernel_rfl) (by kernel_rfl) (fun _ _ _ h => h) rfl (wno rfl rfl (by decide)) (Hp.le_refl _) (by repeat (first | exact Ent.nil _ | exact Ent.refl _ | (refine Ent.pick (by repeat (first | exact Pick.here | apply Pick.there)) ?_) | refine Ent.skip ?_)) (by kernel_rfl) ?_
            refine r_skip (i := 13) (bs' := #[true, true, true, true, true, true, true, true, true, true, true, true, true, true, false, false, false, false, false]) rfl (by kernel_rfl) (by kernel_rfl) (by kernel_rfl) (fun _ _ _ h => h) rfl (wno rfl rfl (by decide)) (Hp.le_refl _) (by repeat (first | exact Ent.nil _ | exact Ent.refl _ | (refine Ent.pick (by repeat (first | exact Pick.here | apply Pick.there)) ?_) | refine Ent.skip ?_)) (by kernel_rfl) ?_
            refine r_skip (i := 14) (bs' := #[true, true, true, true, true, true, true, true, true, true, true, true, true, true, true, false, false, false, false]) rfl (by kernel_rfl) (by kernel_rfl) (by kernel_rfl) (fun _ _ _ h => h) rfl (wno rfl rfl (by decide)) (Hp.le_refl _) (by repeat (first | exact Ent.nil _ | exact Ent.refl _ | (refine Ent.pick (by repeat (first | exact Pick.here | apply Pick.there)) ?_) | refine Ent.skip ?_)) (by kernel_rfl) ?_
            refine r_skip (i := 15) (bs' := #[true, true, true, true, true, true, true, true, true, true, true, true, true, true, true, true, false, false, false]) rfl (by kernel_rfl) (by kernel_rfl) (by kernel_rfl) (fun _ _ _ h => h) rfl (wno rfl rfl (by decide)) (Hp.le_refl _) (by repeat (first | exact Ent.nil _ | exact Ent.refl _ | (refine Ent.pick (by repeat (first | exact Pick.here | apply Pick.there)) ?_) | refine Ent.skip ?_)) (by kernel_rfl) ?_
            refine r_skip (i := 16) (bs' := #[true, true, true, true, true, true, true, true, true, true, true, true, true, true, true, true, true, false, false]) rfl (by kernel_rfl) (by kernel_rfl) (by kernel_rfl) (fun _ _ _ h => h) rfl (wno rfl rfl (by decide)) (Hp.le_refl _) (by repeat (first | exact Ent.nil _ | exact Ent.refl _ | (refine Ent.pick (by repeat (first | exact Pick.here | apply Pick.there)) ?_) | refine Ent.skip ?_)) (by kernel_rfl) ?_
            refine r_skip (i := 17) (bs' := #[true, true, true, true, true, true, true, true, true, true, true, true, true, true, true, true, true, true, false]) rfl (by kernel_rfl) (by kernel_rfl) (by kernel_rfl) (fun _ _ _ h => h) rfl (wno rfl rfl (by decide)) (Hp.le_refl _) (by repeat (first | exact Ent.nil _ | exact Ent.refl _ | (refine Ent.pick (by repeat (first | exact Pick.here | apply Pick.there)) ?_) | refine Ent.skip ?_)) (by kernel_rfl) ?_
            refine r_take (i := 18) (bs' := #[true, true, true, true, true, true, true, true, true, true, true, true, true, true, true, true, true, true, true]) rfl (by kernel_rfl) (by kernel_rfl) (by kernel_rfl) (fun _ _ _ h => h) rfl wn (q_pick rfl rfl rfl) (Hp.le_refl _) (by repeat (first | exact Ent.nil _ | exact Ent.refl _ | (refine Ent.pick (by repeat (first | exact Pick.here | apply Pick.there)) ?_) | refine Ent.skip ?_)) (by kernel_rfl) ?_
            refine r_done (by kernel_rfl) ?_
            refine k_then_n ?_
            refine c_no rfl ?_
            refine c_skip ?_
            refine k_then_n ?_
            refine c_seq ?_
            refine c_region ?_
            refine l_step (s_q rfl wn (q_assign rfl) ?_)
            refine l_nil ?_
            refine k_then_n ?_
            refine c_ret ?_
            have hdn : ¬ (decide ((laidD (begunD d p) p).left = 0) && !decide (((sumB (laidD (begunD d p) p).b).toNat : Int) = ((laidD (begunD d p) p).of.Sum.toNat : Int))) = true := by simp only [Bool.and_eq_true, Bool.not_eq_true', decide_eq_true_eq, decide_eq_false_iff_not]; exact fun q => g21_5 (by simpa using q.1)
            have hT := (take_done h0 h1 hx2).trans (if_neg hdn)
            exact t_ret (HeapM 138 5 4 h (laidD (begunD d p) p) x1) rfl (.tmp rfl .nil) rfl (Hp.le_refl _) ⟨rfl, x1, (by rw [hT]; try rfl), (by rw [hT]; try rfl)⟩ (by simp only [HeapM, List.cons_append, List.nil_append]; exact (by repeat (first | exact Ent.nil _ | exact Ent.refl _ | (refine Ent.pick (by repeat (first | exact Pick.here | apply Pick.there)) ?_) | refine Ent.skip ?_)))
end Go.Chk

/-
  Laws of chunk, walked.
-/
import Derived.Test.YtppngeebdmbeaaaChkQ
import Derived.Test.YtppngeebdmbeaaaChkE
import Derived.Test.YtppngeebdmbeaaaProg
set_option maxRecDepth 100000
set_option maxHeartbeats 4000000
set_option linter.unusedSimpArgs false
set_option linter.unusedVariables false
namespace Go.Chk.F
open Go Go.SL Go.Proofs Go.Sum Go.Chk.C Go.Chk.D Go.Chk.E
attribute [local irreducible] Go.SL.Ent
theorem ag_87 : aggSize Try.prog 87 = some 2 := by kernel_rfl
theorem ag_95 : aggSize Try.prog 95 = some 6 := by kernel_rfl
theorem eo_5 : elemOk Try.prog 5 1 1 = true := by kernel_rfl
theorem fo_95_4 : fieldOff Try.prog 95 4 = some (5, 22) := by kernel_rfl
theorem sc_22 : isScalar Try.prog 22 = true := by kernel_rfl
theorem sc_5 : isScalar Try.prog 5 = true := by kernel_rfl
theorem sz_5 : sizeIs Try.prog 5 = some 1 := by kernel_rfl
theorem sz_95 : sizeIs Try.prog 95 = some 6 := by kernel_rfl

theorem cuts_spec (m : Mark) (s_a : Option Addr) (s_n s_c : Nat) (s : List UInt8) (hs_n : s.length = s_n) (size : Int) (ρ : Hp) (hro : Ro ρ 1 s_a s_n s_c (s.flatMap encB)) : Spec0 Try.prog 10 #[.agg (encMark m).toArray, .slice s_a s_n s_c, .int .i64 size] ρ [] (fun v Γ' => v = .bool true ∧ Γ' = []) := by
  refine spec_of (n := 96) (vs := [_, _, _]) (σ := [(0, _), (1, _), (2, _)]) Try.func10 rfl rfl rfl rfl fun E Δ => ?_
  rw [List.nil_append]
  refine c_seq ?_
  refine c_region ?_
  refine l_step (s_s rfl wn (s_box (cs := encMark m) rfl rfl) ?_)
  rintro _ _ ⟨b3, rfl, rfl⟩
  refine l_step (s_q rfl wn (q_assign rfl) ?_)
  refine l_nil ?_
  refine k_then_n ?_
  refine c_seq ?_
  refine c_seq ?_
  refine c_region ?_
  refine l_step (s_fnq rfl wn Try.func36 rfl (by kernel_rfl) rfl (fun ρ' hL => awake_spec  ρ') ?_)
  refine l_step (s_q rfl wn (q_not rfl) ?_)
  refine l_step (s_q rfl wn (q_move rfl) ?_)
  refine l_step (s_q rfl (wy rfl rfl rfl) (q_move rfl) ?_)
  refine l_step (s_q rfl (wy rfl rfl rfl) (q_len Try.underlying22 rfl) ?_)
  refine l_step (s_q rfl (wy rfl rfl rfl) (q_gtr rfl rfl) ?_)
  refine l_step (s_q rfl wn (q_pick rfl rfl rfl) ?_)
  refine l_nil ?_
  refine k_then_n ?_
  refine c_cond rfl (fun h0 => ?_) (fun h0 => ?_)
  · (try dsimp only [heapOf] at h0); try simp only [Bool.and_eq_true, Bool.or_eq_true, Bool.not_eq_true', Bool.and_eq_false_iff, Bool.or_eq_false_iff, Bool.not_eq_false', decide_eq_true_eq, decide_eq_false_iff_not, Bool.not_eq_eq_eq_not, Bool.not_true, Bool.not_false, Bool.not_eq_true, Bool.not_eq_false, beq_iff_eq, bne_iff_ne, ne_eq, Decidable.not_not] at h0
    refine c_seq ?_
    refine c_region ?_
    refine l_step (s_fnq rfl wn Try.func36 rfl (by kernel_rfl) rfl (fun ρ' hL => awake_spec  ρ') ?_)
    refine l_step (s_q rfl wn (q_assign rfl) ?_)
    refine l_nil ?_
    refine k_then_n ?_
    refine c_ret ?_
    refine k_then_r ?_
    exact t_ret [] rfl (.tmp rfl .nil) rfl (Hp.le_refl _) ⟨rfl, boole (by simp), rfl⟩ (by (repeat refine Ent.skip ?_); exact Ent.refl _)
  · (try dsimp only [heapOf] at h0); try simp only [Bool.and_eq_true, Bool.or_eq_true, Bool.not_eq_true', Bool.and_eq_false_iff, Bool.or_eq_false_iff, Bool.not_eq_false', decide_eq_true_eq, decide_eq_false_iff_not, Bool.not_eq_eq_eq_not, Bool.not_true, Bool.not_false, Bool.not_eq_true, Bool.not_eq_false, beq_iff_eq, bne_iff_ne, ne_eq, Decidable.not_not] at h0
    refine c_skip ?_
    refine k_then_n ?_
    refine c_seq ?_
    refine c_region ?_
    refine l_step (s_s rfl wn (s_buildSlice (cs := ([] : List UInt8).flatMap encB) Try.underlying22 eo_5 rfl rfl rfl rfl (by decide) (by decide)) ?_)
    rintro _ _ ⟨b22, rfl, rfl⟩
    refine l_step (s_q rfl wn (q_move rfl) ?_)
    refine l_step (s_s rfl wn (s_appendn (enc := encB) (xs := ([] : List UInt8)) (ys := (s : List UInt8)) (Γ' := fun a' cap' => _) Try.underlying22 eo_5 (by decide) rfl rfl (by first | assumption | exact rd_ro (by assumption) | exact rd_row (by repeat (first | exact Pick.here | apply Pick.there))) (oneB _) (by first | omega | (simp only [List.length_append, List.length_cons, List.length_nil] at *; omega)) (by first | omega | (simp only [List.length_append, List.length_cons, List.length_nil] at *; omega)) (fun _ _ => (by repeat (first | exact Pick.here | apply Pick.there)))) ?_)
    rintro _ _ ⟨a24, c24, rfl, rfl⟩
    simp only [Nat.zero_add, List.nil_append]
    refine l_step (s_q rfl wn (q_assign rfl) ?_)
    refine l_nil ?_
    refine k_then_n ?_
    refine c_seq ?_
    refine c_region ?_
    refine l_step (s_q rfl wn (q_loadpa (vs := encMark m) ag_87 rfl (by repeat (first | exact Pick.here | apply Pick.there)) rfl) ?_)
    refine l_step (s_q rfl wn (q_move rfl) ?_)
    refine l_step (s_q rfl wn (q_move rfl) ?_)
    refine l_step (s_fnb rfl wn Try.func37 rfl (by kernel_rfl) rfl (by repeat (first | exact Sel.nil | exact Pick.here | apply Sel.cons | apply Pick.there)) (fun ρ' hL => cut_spec m a24 s_n c24 s (by first | rfl | assumption | simp | (simp <;> omega) | omega) size ρ' (by omega) (by first | exact hL.ro (by assumption) | exact hL.row (by repeat (first | exact Pick.here | apply Pick.there)) | assumption)) ?_)
    rintro _ _ ⟨a29, c29, ps29, rfl, hm29, rfl⟩
    try simp only [List.cons_append, List.nil_append]
    refine l_step (s_q rfl wn (q_move rfl) ?_)
    refine l_step (s_q rfl wn (q_extract rfl rfl) ?_)
    refine l_step (s_q rfl wn (q_extract rfl rfl) ?_)
    refine l_step (s_q rfl wn (q_assign rfl) ?_)
    refine l_step (s_q rfl wn (q_assign rfl) ?_)
    refine l_nil ?_
    refine k_then_n ?_
    refine c_seq ?_
    refine c_region ?_
    refine l_step (s_q rfl wn (q_loadpa (vs := encMark m) ag_87 rfl (by repeat (first | exact Pick.here | apply Pick.there)) rfl) ?_)
    refine l_step (s_q rfl wn (q_move rfl) ?_)
    refine l_step (s_q rfl wn (q_move rfl) ?_)
    refine l_step (s_fnb rfl wn Try.func38 rfl (by kernel_rfl) rfl (by repeat (first | exact Sel.nil | exact Pick.here | apply Sel.cons | apply Pick.there)) (fun ρ' hL => rcut_spec m s_a s_n s_c s (by first | rfl | assumption | simp | (simp <;> omega) | omega) size ρ' (by omega) (by first | exact hL.ro (by assumption) | exact hL.bun (L := ps29.map (rowP 5)) (by repeat (first | exact Pick.here | apply Pick.there)) (in_map _ (by first | assumption | omega | (simp only [List.length_cons, List.length_nil]; omega) | decide) rfl) | exact hL.row (by repeat (first | exact Pick.here | apply Pick.there)) | assumption)) ?_)
    rintro _ _ ⟨a36, c36, ps36, rfl, hm36, rfl⟩
    try simp only [List.cons_append, List.nil_append]
    refine l_step (s_q rfl wn (q_move rfl) ?_)
    refine l_step (s_q rfl wn (q_extract rfl rfl) ?_)
    refine l_step (s_q rfl wn (q_extract rfl rfl) ?_)
    refine l_step (s_q rfl wn (q_assign rfl) ?_)
    refine l_step (s_q rfl wn (q_assign rfl) ?_)
    refine l_nil ?_
    refine k_then_n ?_
    refine c_seq ?_
    refine c_seq ?_
    refine c_region ?_
    refine l_step (s_q rfl wn (q_move rfl) ?_)
    refine l_step (s_q rfl wn (q_move rfl) ?_)
    refine l_step (s_q rfl wn (q_neq rfl rfl) ?_)
    refine l_step (s_q rfl wn (q_move rfl) ?_)
    refine l_step (s_qg rfl (ask_f rfl rfl) (b := (!(decide ((cutE m size) ≠ (cutE m size))))) (fun hb => q_move rfl) ?_)
    refine l_step (s_qg rfl (ask_f rfl rfl) (b := (!(decide ((cutE m size) ≠ (cutE m size))))) (fun hb => OpQ.env (.cons rfl (gd_t hb) (.nil _) : EnvLe [(43, .slice a29 ps29.length c29)] _) (q_len Try.underlying88 rfl)) ?_)
    refine l_step (s_qg rfl (ask_f rfl rfl) (b := (!(decide ((cutE m size) ≠ (cutE m size))))) (fun hb => q_move rfl) ?_)
    refine l_step (s_qg rfl (ask_f rfl rfl) (b := (!(decide ((cutE m size) ≠ (cutE m size))))) (fun hb => OpQ.env (.cons rfl (gd_t hb) (.nil _) : EnvLe [(45, .slice a36 ps36.length c36)] _) (q_len Try.underlying88 rfl)) ?_)
    refine l_step (s_qg rfl (ask_f rfl rfl) (b := (!(decide ((cutE m size) ≠ (cutE m size))))) (fun hb => OpQ.env (.cons rfl (gd_t hb) (.cons rfl (gd_t hb) (.nil _)) : EnvLe [(44, .int .i64 (ps29.length : Int)), (46, .int .i64 (ps36.length : Int))] _) (q_neq rfl rfl)) ?_)
    refine l_step (s_q rfl wn (q_pick_or rfl rfl rfl (fun h => by rw [h]; rfl)) ?_)
    refine l_nil ?_
    refine k_then_n ?_
    refine t_rd (Γ := _) (rd_row (a := a29) (by repeat (first | exact Pick.here | apply Pick.there))) fun _ hc1 hc2 _ => ?_
    have hml : ps29.length ≤ 9223372036854775807 := Nat.le_trans hc1 hc2
    have hpp := hm29.trans hm36.symm
    have hlen : ps29.length = ps36.length := by simpa using congrArg List.length hpp
    refine c_sure false rfl (by simp [hlen]) ?_
    simp only [Bool.false_eq_true, if_true, if_false]
    refine c_skip ?_
    refine k_then_n ?_
    refine c_seq ?_
    refine c_seq ?_
    refine c_region ?_
    refine l_step (s_q rfl wn (q_assign rfl) ?_)
    refine l_nil ?_
    refine k_then_n ?_
    refine c_block ?_
    refine Tr.env (σ' := [(1, _), (7, _), (8, _), (10, _), (12, _)]) (.cons rfl rfl (.cons rfl rfl (.cons rfl rfl (.cons rfl rfl (.cons rfl rfl (.nil _)))))) ?_
    refine t_loop (ι := Lp (Nat)) (fun x => x.d ≤ ps29.length) (fun x => ps29.length - x.d) (fun x => [(1, .slice s_a s_n s_c), (7, .slice a24 s_n c24), (8, .slice a29 ps29.length c29), (10, .slice a36 ps36.length c36), (12, .int .i64 (x.d : Int))]) (fun x => .row 95 6 a36 ps36.length c36 (ps36.flatMap encPiece) :: Bun (ps36.map (rowP 5)) :: .row 95 6 a29 ps29.length c29 (ps29.flatMap encPiece) :: Bun ((ps29.drop x.d).map (rowP 5)) :: .row 5 1 a24 s_n c24 (s.flatMap encB) :: .pts b3 (encMark m) 87 :: Δ) (⟨0, none, 0, none, 0, none, 0⟩ : Lp _) (Nat.zero_le _) ?_ ?_ ?_
    · exact .cons rfl (by first | rfl | exact inte (by omega) | (simp; done) | (simp <;> omega) | simp [*]) (.cons rfl (by first | rfl | exact inte (by omega) | (simp; done) | (simp <;> omega) | simp [*]) (.cons rfl (by first | rfl | exact inte (by omega) | (simp; done) | (simp <;> omega) | simp [*]) (.cons rfl (by first | rfl | exact inte (by omega) | (simp; done) | (simp <;> omega) | simp [*]) (.cons rfl (by first | rfl | exact inte (by omega) | (simp; done) | (simp <;> omega) | simp [*]) (.nil _)))))
    · exact (by repeat (first | exact Ent.nil _ | exact Ent.refl _ | (refine Ent.pick (by repeat (first | exact Pick.here | apply Pick.there)) ?_) | refine Ent.skip ?_))
    intro x hx
    refine c_seq ?_
    refine c_seq ?_
    refine c_region ?_
    refine l_step (s_q rfl wn (q_move rfl) ?_)
    refine l_step (s_q rfl wn (q_move rfl) ?_)
    refine l_step (s_q rfl wn (q_len Try.underlying88 rfl) ?_)
    refine l_step (s_q rfl wn (q_lss rfl rfl) ?_)
    refine l_nil ?_
    refine k_then_n ?_
    refine c_cond rfl (fun h2 => ?_) (fun h2 => ?_)
    · (try dsimp only [heapOf] at h2); try simp only [Bool.and_eq_true, Bool.or_eq_true, Bool.not_eq_true', Bool.and_eq_false_iff, Bool.or_eq_false_iff, Bool.not_eq_false', decide_eq_true_eq, decide_eq_false_iff_not, Bool.not_eq_eq_eq_not, Bool.not_true, Bool.not_false, Bool.not_eq_true, Bool.not_eq_false, beq_iff_eq, bne_iff_ne, ne_eq, Decidable.not_not] at h2
      rw [drop_getD (l := ps29) (k := x.d) (by omega), List.map_cons]
      refine Tr.ent (Ent.trans (Ent.pick (A := Bun (rowP 5 (ps29.getD x.d default) :: (ps29.drop (x.d + 1)).map (rowP 5))) (by repeat (first | exact Pick.here | apply Pick.there)) (Ent.refl _)) (bun_cons _ _ _)) ?_
      rw [show rowP 5 (ps29.getD x.d default) = .row 5 1 ((ps29.getD x.d default).B.a) ((ps29.getD x.d default).B.xs.length) ((ps29.getD x.d default).B.cap) (((ps29.getD x.d default).B.xs).flatMap encB) from rfl]
      refine t_rd (Γ := _) (rd_row (a := (ps29.getD x.d default).B.a) (by repeat (first | exact Pick.here | apply Pick.there))) fun _ hc3 hc4 _ => ?_
      have hmr : (ps29.getD x.d default).B.xs.length ≤ 9223372036854775807 := Nat.le_trans hc3 hc4
      refine c_skip ?_
      refine k_then_n ?_
      refine c_seq ?_
      refine c_block ?_
      refine c_seq ?_
      refine c_seq ?_
      refine c_draw (m := 10) (bs := #[false, false, false, false, false, false, false, false, false, false]) [.row 5 1 ((ps29.getD x.d default).B.a) ((ps29.getD x.d default).B.xs.length) ((ps29.getD x.d default).B.cap) (((ps29.getD x.d default).B.xs).flatMap encB), .row 95 6 a36 ps36.length c36 (ps36.flatMap encPiece), Bun (ps36.map (rowP 5)), .row 95 6 a29 ps29.length c29 (ps29.flatMap encPiece), Bun ((ps29.drop (x.d + 1)).map (rowP 5)), .row 5 1 a24 s_n c24 (s.flatMap encB), .pts b3 (encMark m) 87] (by kernel_rfl) rfl (by kernel_rfl) ?_
      refine r_take (i := 0) (bs' := #[true, false, false, false, false, false, false, false, false, false]) rfl (by kernel_rfl) (by kernel_rfl) (by kernel_rfl) (fun _ _ _ h => h) rfl wn (q_move rfl) (Hp.le_refl _) (by repeat (first | exact Ent.nil _ | exact Ent.refl _ | (refine Ent.pick (by repeat (first | exact Pick.here | apply Pick.there)) ?_) | refine Ent.skip ?_)) (by kernel_rfl) ?_
      refine r_take (i := 1) (bs' := #[true, true, false, false, false, false, false, false, false, false]) rfl (by kernel_rfl) (by kernel_rfl) (by kernel_rfl) (fun _ _ _ h => h) rfl wn (q_move rfl) (Hp.le_refl _) (by repeat (first | exact Ent.nil _ | exact Ent.refl _ | (refine Ent.pick (by repeat (first | exact Pick.here | apply Pick.there)) ?_) | refine Ent.skip ?_)) (by kernel_rfl) ?_
      refine r_take (i := 2) (bs' := #[true, true, true, false, false, false, false, false, false, false]) rfl (by kernel_rfl) (by kernel_rfl) (by kernel_rfl) (fun _ _ _ h => h) rfl wn (q_indexe x.d Try.underlying88 sz_95 rfl rfl (rd_row (by repeat (first | exact Pick.here | apply Pick.there))) (by decide) rfl (by first | assumption | omega | (simp only [List.length_cons, List.length_nil]; omega))) (Hp.le_refl _) (by repeat (first | exact Ent.nil _ | exact Ent.refl _ | (refine Ent.pick (by repeat (first | exact Pick.here | apply Pick.there)) ?_) | refine Ent.skip ?_)) (by kernel_rfl) ?_
      refine r_take (i := 3) (bs' := #[true, true, true, true, false, false, false, false, false, false]) rfl (by kernel_rfl) (by kernel_rfl) (by kernel_rfl) (fun _ _ _ h => h) rfl wn (q_loadea (vs := encPiece (ps29.getD x.d default)) (enc := encPiece) (xs := ps29) (j := x.d) (off := 0) ag_95 rfl (rd_row (by repeat (first | exact Pick.here | apply Pick.there))) (fun _ => rfl) (by first | assumption | omega | (simp only [List.length_cons, List.length_nil]; omega)) (by simp [encPiece]) (by simp [encPiece]) rfl) (Hp.le_refl _) (by repeat (first | exact Ent.nil _ | exact Ent.refl _ | (refine Ent.pick (by repeat (first | exact Pick.here | apply Pick.there)) ?_) | refine Ent.skip ?_)) (by kernel_rfl) ?_
      refine r_take (i := 4) (bs' := #[true, true, true, true, true, false, false, false, false, false]) rfl (by kernel_rfl) (by kernel_rfl) (by kernel_rfl) (fun _ _ _ h => h) rfl wn (q_move rfl) (Hp.le_refl _) (by repeat (first | exact Ent.nil _ | exact Ent.refl _ | (refine Ent.pick (by repeat (first | exact Pick.here | apply Pick.there)) ?_) | refine Ent.skip ?_)) (by kernel_rfl) ?_
      refine r_take (i := 5) (bs' := #[true, true, true, true, true, true, false, false, false, false]) rfl (by kernel_rfl) (by kernel_rfl) (by kernel_rfl) (fun _ _ _ h => h) rfl wn (q_move rfl) (Hp.le_refl _) (by repeat (first | exact Ent.nil _ | exact Ent.refl _ | (refine Ent.pick (by repeat (first | exact Pick.here | apply Pick.there)) ?_) | refine Ent.skip ?_)) (by kernel_rfl) ?_
      refine r_take (i := 6) (bs' := #[true, true, true, true, true, true, true, false, false, false]) rfl (by kernel_rfl) (by kernel_rfl) (by kernel_rfl) (fun _ _ _ h => h) rfl wn (q_indexe x.d Try.underlying88 sz_95 rfl rfl (rd_row (by repeat (first | exact Pick.here | apply Pick.there))) (by decide) rfl (by first | assumption | omega | (simp only [List.length_cons, List.length_nil]; omega))) (Hp.le_refl _) (by repeat (first | exact Ent.nil _ | exact Ent.refl _ | (refine Ent.pick (by repeat (first | exact Pick.here | apply Pick.there)) ?_) | refine Ent.skip ?_)) (by kernel_rfl) ?_
      refine r_take (i := 7) (bs' := #[true, true, true, true, true, true, true, true, false, false]) rfl (by kernel_rfl) (by kernel_rfl) (by kernel_rfl) (fun _ _ _ h => h) rfl wn (q_loadea (vs := encPiece (ps36.getD x.d default)) (enc := encPiece) (xs := ps36) (j := x.d) (off := 0) ag_95 rfl (rd_row (by repeat (first | exact Pick.here | apply Pick.there))) (fun _ => rfl) (by first | assumption | omega | (simp only [List.length_cons, List.length_nil]; omega)) (by simp [encPiece]) (by simp [encPiece]) rfl) (Hp.le_refl _) (by repeat (first | exact Ent.nil _ | exact Ent.refl _ | (refine Ent.pick (by repeat (first | exact Pick.here | apply Pick.there)) ?_) | refine Ent.skip ?_)) (by kernel_rfl) ?_
      refine r_one (i := 8) (bs' := #[true, true, true, true, true, true, true, true, true, false]) (by kernel_rfl) (by kernel_rfl) ?_
      refine o_step rfl (s_fnq rfl wn Try.func39 rfl (by kernel_rfl) rfl (fun ρ' hL => same_spec (ps29.getD x.d default) (ps36.getD x.d default) ρ' (by first | exact hL.ro (by assumption) | exact hL.bun (L := ps36.map (rowP 5)) (by repeat (first | exact Pick.here | apply Pick.there)) (in_map _ (by first | assumption | omega | (simp only [List.length_cons, List.length_nil]; omega) | decide) rfl) | exact hL.bun (L := (ps29.drop (x.d + 1)).map (rowP 5)) (by repeat (first | exact Pick.here | apply Pick.there)) (in_map _ (by first | assumption | omega | (simp only [List.length_cons, List.length_nil]; omega) | decide) rfl) | exact hL.row (by repeat (first | exact Pick.here | apply Pick.there)) | assumption) (by first | exact hL.ro (by assumption) | exact hL.bun (L := ps36.map (rowP 5)) (by repeat (first | exact Pick.here | apply Pick.there)) (in_map _ (by first | assumption | omega | (simp only [List.length_cons, List.length_nil]; omega) | decide) rfl) | exact hL.bun (L := (ps29.drop (x.d + 1)).map (rowP 5)) (by repeat (first | exact Pick.here | apply Pick.there)) (in_map _ (by first | assumption | omega | (simp only [List.length_cons, List.length_nil]; omega) | decide) rfl) | exact hL.row (by repeat (first | exact Pick.here | apply Pick.there)) | assumption)) ?_)
      refine r_cont (Hp.le_refl _) (by repeat (first | exact Ent.nil _ | exact Ent.refl _ | (refine Ent.pick (by repeat (first | exact Pick.here | apply Pick.there)) ?_) | refine Ent.skip ?_)) ?_
      refine r_take (i := 9) (bs' := #[true, true, true, true, true, true, true, true, true, true]) rfl (by kernel_rfl) (by kernel_rfl) (by kernel_rfl) (fun _ _ _ h => h) rfl wn (q_not rfl) (Hp.le_refl _) (by repeat (first | exact Ent.nil _ | exact Ent.refl _ | (refine Ent.pick (by repeat (first | exact Pick.here | apply Pick.there)) ?_) | refine Ent.skip ?_)) (by kernel_rfl) ?_
      refine r_done (by kernel_rfl) ?_
      refine k_then_n ?_
      refine c_sure false rfl (by rw [same_pd (pd_getD hpp (by omega))]; rfl) ?_
      simp only [Bool.false_eq_true, if_true, if_false]
      refine c_skip ?_
      refine k_then_n ?_
      refine c_seq ?_
      refine c_region ?_
      refine l_step (s_q rfl wn (q_assign rfl) ?_)
      refine l_nil ?_
      refine k_then_n ?_
      refine c_block ?_
      refine Tr.env (σ' := [(1, _), (7, _), (8, _), (10, _), (12, _), (13, _), (49, _), (50, _), (51, _), (52, _), (55, _), (56, _), (57, _), (58, _), (59, _), (60, _), (61, _), (62, _), (63, _), (64, _)]) (.cons rfl rfl (.cons rfl rfl (.cons rfl rfl (.cons rfl rfl (.cons rfl rfl (.cons rfl rfl (.cons rfl rfl (.cons rfl rfl (.cons rfl rfl (.cons rfl rfl (.cons rfl rfl (.cons rfl rfl (.cons rfl rfl (.cons rfl rfl (.cons rfl rfl (.cons rfl rfl (.cons rfl rfl (.cons rfl rfl (.cons rfl rfl (.cons rfl rfl (.nil _))))))))))))))))))))) ?_
      refine t_loop (ι := Lp (Nat × List UInt8)) (fun z => z.d.1 ≤ (ps29.getD x.d default).B.xs.length ∧ z.d.2.length = (ps29.getD x.d default).B.xs.length) (fun z => (ps29.getD x.d default).B.xs.length - z.d.1) (fun z => [(1, .slice s_a s_n s_c), (7, .slice a24 s_n c24), (8, .slice a29 ps29.length c29), (10, .slice a36 ps36.length c36), (12, .int .i64 (x.d : Int)), (13, .int .i64 (z.d.1 : Int)), (49, .int .i64 (x.d : Int)), (50, .slice a29 ps29.length c29), (51, .int .i64 (ps29.length : Int)), (52, .bool (decide ((x.d : Int) < (ps29.length : Int)))), (55, .slice a29 ps29.length c29), (56, .int .i64 (x.d : Int)), (57, pe a29 x.d 6 0), (58, .agg (encPiece (ps29.getD x.d default)).toArray), (59, .slice a36 ps36.length c36), (60, .int .i64 (x.d : Int)), (61, pe a36 x.d 6 0), (62, .agg (encPiece (ps36.getD x.d default)).toArray), (63, .bool (sameB (ps29.getD x.d default) (ps36.getD x.d default))), (64, .bool (!(sameB (ps29.getD x.d default) (ps36.getD x.d default))))]) (fun z => .row 5 1 ((ps29.getD x.d default).B.a) ((ps29.getD x.d default).B.xs.length) ((ps29.getD x.d default).B.cap) (z.d.2.flatMap encB) :: .row 95 6 a36 ps36.length c36 (ps36.flatMap encPiece) :: Bun (ps36.map (rowP 5)) :: .row 95 6 a29 ps29.length c29 (ps29.flatMap encPiece) :: Bun ((ps29.drop (x.d + 1)).map (rowP 5)) :: .row 5 1 a24 s_n c24 (s.flatMap encB) :: .pts b3 (encMark m) 87 :: Δ) (⟨(0, (ps29.getD x.d default).B.xs), none, 0, none, 0, none, 0⟩ : Lp _) ⟨Nat.zero_le _, rfl⟩ ?_ ?_ ?_
      · exact .cons rfl (by first | rfl | exact inte (by omega) | (simp; done) | (simp <;> omega) | simp [*]) (.cons rfl (by first | rfl | exact inte (by omega) | (simp; done) | (simp <;> omega) | simp [*]) (.cons rfl (by first | rfl | exact inte (by omega) | (simp; done) | (simp <;> omega) | simp [*]) (.cons rfl (by first | rfl | exact inte (by omega) | (simp; done) | (simp <;> omega) | simp [*]) (.cons rfl (by first | rfl | exact inte (by omega) | (simp; done) | (simp <;> omega) | simp [*]) (.cons rfl (by first | rfl | exact inte (by omega) | (simp; done) | (simp <;> omega) | simp [*]) (.cons rfl (by first | rfl | exact inte (by omega) | (simp; done) | (simp <;> omega) | simp [*]) (.cons rfl (by first | rfl | exact inte (by omega) | (simp; done) | (simp <;> omega) | simp [*]) (.cons rfl (by first | rfl | exact inte (by omega) | (simp; done) | (simp <;> omega) | simp [*]) (.cons rfl (by first | rfl | exact inte (by omega) | (simp; done) | (simp <;> omega) | simp [*]) (.cons rfl (by first | rfl | exact inte (by omega) | (simp; done) | (simp <;> omega) | simp [*]) (.cons rfl (by first | rfl | exact inte (by omega) | (simp; done) | (simp <;> omega) | simp [*]) (.cons rfl (by first | rfl | exact inte (by omega) | (simp; done) | (simp <;> omega) | simp [*]) (.cons rfl (by first | rfl | exact inte (by omega) | (simp; done) | (simp <;> omega) | simp [*]) (.cons rfl (by first | rfl | exact inte (by omega) | (simp; done) | (simp <;> omega) | simp [*]) (.cons rfl (by first | rfl | exact inte (by omega) | (simp; done) | (simp <;> omega) | simp [*]) (.cons rfl (by first | rfl | exact inte (by omega) | (simp; done) | (simp <;> omega) | simp [*]) (.cons rfl (by first | rfl | exact inte (by omega) | (simp; done) | (simp <;> omega) | simp [*]) (.cons rfl (by first | rfl | exact inte (by omega) | (simp; done) | (simp <;> omega) | simp [*]) (.cons rfl (by first | rfl | exact inte (by omega) | (simp; done) | (simp <;> omega) | simp [*]) (.nil _))))))))))))))))))))
      · exact (by repeat (first | exact Ent.nil _ | exact Ent.refl _ | (refine Ent.pick (by repeat (first | exact Pick.here | apply Pick.there)) ?_) | refine Ent.skip ?_))
      intro z hz
      obtain ⟨hz1, hz2⟩ := hz
      refine c_seq ?_
      refine c_seq ?_
      refine c_region ?_
      refine l_step (s_q rfl wn (q_move rfl) ?_)
      refine l_step (s_q rfl wn (q_move rfl) ?_)
      refine l_step (s_q rfl wn (q_move rfl) ?_)
      refine l_step (s_q rfl wn (q_indexe x.d Try.underlying88 sz_95 rfl rfl (rd_row (by repeat (first | exact Pick.here | apply Pick.there))) (by decide) rfl (by first | assumption | omega | (simp only [List.length_cons, List.length_nil]; omega))) ?_)
      refine l_step (s_q rfl wn (q_fielde rfl fo_95_4) ?_)
      refine l_step (s_q rfl wn (q_loade (enc := encPiece) (xs := ps29) (j := x.d) (off := 5) sc_22 rfl (rd_row (by repeat (first | exact Pick.here | apply Pick.there))) (fun _ => rfl) (by first | assumption | omega | (simp only [List.length_cons, List.length_nil]; omega)) (by decide) rfl) ?_)
      refine l_step (s_q rfl wn (q_len Try.underlying22 rfl) ?_)
      refine l_step (s_q rfl wn (q_lss rfl rfl) ?_)
      refine l_nil ?_
      refine k_then_n ?_
      refine c_cond rfl (fun h4 => ?_) (fun h4 => ?_)
      · (try dsimp only [heapOf] at h4); try simp only [Bool.and_eq_true, Bool.or_eq_true, Bool.not_eq_true', Bool.and_eq_false_iff, Bool.or_eq_false_iff, Bool.not_eq_false', decide_eq_true_eq, decide_eq_false_iff_not, Bool.not_eq_eq_eq_not, Bool.not_true, Bool.not_false, Bool.not_eq_true, Bool.not_eq_false, beq_iff_eq, bne_iff_ne, ne_eq, Decidable.not_not] at h4
        refine c_skip ?_
        refine k_then_n ?_
        refine c_seq ?_
        refine c_block ?_
        refine c_draw (m := 17) (bs := #[false, false, false, false, false, false, false, false, false, false, false, false, false, false, false, false, false]) [.row 95 6 a36 ps36.length c36 (ps36.flatMap encPiece), Bun (ps36.map (rowP 5)), .row 95 6 a29 ps29.length c29 (ps29.flatMap encPiece), Bun ((ps29.drop (x.d + 1)).map (rowP 5)), .row 5 1 a24 s_n c24 (s.flatMap encB), .pts b3 (encMark m) 87] (by kernel_rfl) rfl (by kernel_rfl) ?_
        refine r_take (i := 0) (bs' := #[true, false, false, false, false, false, false, false, false, false, false, false, false, false, false, false, false]) rfl (by kernel_rfl) (by kernel_rfl) (by kernel_rfl) (fun _ _ _ h => h) rfl wn (q_move rfl) (Hp.le_refl _) (by repeat (first | exact Ent.nil _ | exact Ent.refl _ | (refine Ent.pick (by repeat (first | exact Pick.here | apply Pick.there)) ?_) | refine Ent.skip ?_)) (by kernel_rfl) ?_
        refine r_take (i := 1) (bs' := #[true, true, false, false, false, false, false, false, false, false, false, false, false, false, false, false, false]) rfl (by kernel_rfl) (by kernel_rfl) (by kernel_rfl) (fun _ _ _ h => h) rfl wn (q_move rfl) (Hp.le_refl _) (by repeat (first | exact Ent.nil _ | exact Ent.refl _ | (refine Ent.pick (by repeat (first | exact Pick.here | apply Pick.there)) ?_) | refine Ent.skip ?_)) (by kernel_rfl) ?_
        refine r_take (i := 2) (bs' := #[true, true, true, false, false, false, false, false, false, false, false, false, false, false, false, false, false]) rfl (by kernel_rfl) (by kernel_rfl) (by kernel_rfl) (fun _ _ _ h => h) rfl wn (q_indexe x.d Try.underlying88 sz_95 rfl rfl (rd_row (by repeat (first | exact Pick.here | apply Pick.there))) (by decide) rfl (by first | assumption | omega | (simp only [List.length_cons, List.length_nil]; omega))) (Hp.le_refl _) (by repeat (first | exact Ent.nil _ | exact Ent.refl _ | (refine Ent.pick (by repeat (first | exact Pick.here | apply Pick.there)) ?_) | refine Ent.skip ?_)) (by kernel_rfl) ?_
        refine r_take (i := 3) (bs' := #[true, true, true, true, false, false, false, false, false, false, false, false, false, false, false, false, false]) rfl (by kernel_rfl) (by kernel_rfl) (by kernel_rfl) (fun _ _ _ h => h) rfl wn (q_fielde rfl fo_95_4) (Hp.le_refl _) (by repeat (first | exact Ent.nil _ | exact Ent.refl _ | (refine Ent.pick (by repeat (first | exact Pick.here | apply Pick.there)) ?_) | refine Ent.skip ?_)) (by kernel_rfl) ?_
        refine r_take (i := 4) (bs' := #[true, true, true, true, true, false, false, false, false, false, false, false, false, false, false, false, false]) rfl (by kernel_rfl) (by kernel_rfl) (by kernel_rfl) (fun _ _ _ h => h) rfl wn (q_loade (enc := encPiece) (xs := ps29) (j := x.d) (off := 5) sc_22 rfl (rd_row (by repeat (first | exact Pick.here | apply Pick.there))) (fun _ => rfl) (by first | assumption | omega | (simp only [List.length_cons, List.length_nil]; omega)) (by decide) rfl) (Hp.le_refl _) (by repeat (first | exact Ent.nil _ | exact Ent.refl _ | (refine Ent.pick (by repeat (first | exact Pick.here | apply Pick.there)) ?_) | refine Ent.skip ?_)) (by kernel_rfl) ?_
        refine r_take (i := 5) (bs' := #[true, true, true, true, true, true, false, false, false, false, false, false, false, false, false, false, false]) rfl (by kernel_rfl) (by kernel_rfl) (by kernel_rfl) (fun _ _ _ h => h) rfl wn (q_move rfl) (Hp.le_refl _) (by repeat (first | exact Ent.nil _ | exact Ent.refl _ | (refine Ent.pick (by repeat (first | exact Pick.here | apply Pick.there)) ?_) | refine Ent.skip ?_)) (by kernel_rfl) ?_
        refine r_take (i := 6) (bs' := #[true, true, true, true, true, true, true, false, false, false, false, false, false, false, false, false, false]) rfl (by kernel_rfl) (by kernel_rfl) (by kernel_rfl) (fun _ _ _ h => h) rfl wn (q_move rfl) (Hp.le_refl _) (by repeat (first | exact Ent.nil _ | exact Ent.refl _ | (refine Ent.pick (by repeat (first | exact Pick.here | apply Pick.there)) ?_) | refine Ent.skip ?_)) (by kernel_rfl) ?_
        refine r_take (i := 7) (bs' := #[true, true, true, true, true, true, true, true, false, false, false, false, false, false, false, false, false]) rfl (by kernel_rfl) (by kernel_rfl) (by kernel_rfl) (fun _ _ _ h => h) rfl wn (q_move rfl) (Hp.le_refl _) (by repeat (first | exact Ent.nil _ | exact Ent.refl _ | (refine Ent.pick (by repeat (first | exact Pick.here | apply Pick.there)) ?_) | refine Ent.skip ?_)) (by kernel_rfl) ?_
        refine r_take (i := 8) (bs' := #[true, true, true, true, true, true, true, true, true, false, false, false, false, false, false, false, false]) rfl (by kernel_rfl) (by kernel_rfl) (by kernel_rfl) (fun _ _ _ h => h) rfl wn (q_indexe x.d Try.underlying88 sz_95 rfl rfl (rd_row (by repeat (first | exact Pick.here | apply Pick.there))) (by decide) rfl (by first | assumption | omega | (simp only [List.length_cons, List.length_nil]; omega))) (Hp.le_refl _) (by repeat (first | exact Ent.nil _ | exact Ent.refl _ | (refine Ent.pick (by repeat (first | exact Pick.here | apply Pick.there)) ?_) | refine Ent.skip ?_)) (by kernel_rfl) ?_
        refine r_take (i := 9) (bs' := #[true, true, true, true, true, true, true, true, true, true, false, false, false, false, false, false, false]) rfl (by kernel_rfl) (by kernel_rfl) (by kernel_rfl) (fun _ _ _ h => h) rfl wn (q_fielde rfl fo_95_4) (Hp.le_refl _) (by repeat (first | exact Ent.nil _ | exact Ent.refl _ | (refine Ent.pick (by repeat (first | exact Pick.here | apply Pick.there)) ?_) | refine Ent.skip ?_)) (by kernel_rfl) ?_
        refine r_take (i := 10) (bs' := #[true, true, true, true, true, true, true, true, true, true, true, false, false, false, false, false, false]) rfl (by kernel_rfl) (by kernel_rfl) (by kernel_rfl) (fun _ _ _ h => h) rfl wn (q_loade (enc := encPiece) (xs := ps29) (j := x.d) (off := 5) sc_22 rfl (rd_row (by repeat (first | exact Pick.here | apply Pick.there))) (fun _ => rfl) (by first | assumption | omega | (simp only [List.length_cons, List.length_nil]; omega)) (by decide) rfl) (Hp.le_refl _) (by repeat (first | exact Ent.nil _ | exact Ent.refl _ | (refine Ent.pick (by repeat (first | exact Pick.here | apply Pick.there)) ?_) | refine Ent.skip ?_)) (by kernel_rfl) ?_
        refine r_take (i := 11) (bs' := #[true, true, true, true, true, true, true, true, true, true, true, true, false, false, false, false, false]) rfl (by kernel_rfl) (by kernel_rfl) (by kernel_rfl) (fun _ _ _ h => h) rfl wn (q_move rfl) (Hp.le_refl _) (by repeat (first | exact Ent.nil _ | exact Ent.refl _ | (refine Ent.pick (by repeat (first | exact Pick.here | apply Pick.there)) ?_) | refine Ent.skip ?_)) (by kernel_rfl) ?_
        refine r_one (i := 12) (bs' := #[true, true, true, true, true, true, true, true, true, true, true, true, true, false, false, false, false]) (by kernel_rfl) (by kernel_rfl) ?_
        refine o_step rfl (s_q rfl wn (q_indexe z.d.1 Try.underlying22 sz_5 rfl rfl (rd_row (by repeat (first | exact Pick.here | apply Pick.there))) (by decide) rfl (by first | assumption | omega | (simp only [List.length_cons, List.length_nil]; omega))) ?_)
        refine r_cont (Hp.le_refl _) (by repeat (first | exact Ent.nil _ | exact Ent.refl _ | (refine Ent.pick (by repeat (first | exact Pick.here | apply Pick.there)) ?_) | refine Ent.skip ?_)) ?_
        refine r_one (i := 13) (bs' := #[true, true, true, true, true, true, true, true, true, true, true, true, true, true, false, false, false]) (by kernel_rfl) (by kernel_rfl) ?_
        refine o_step rfl (s_q rfl wn (q_loade (enc := encB) (xs := z.d.2) (j := z.d.1) (off := 0) sc_5 rfl (rd_row (by repeat (first | exact Pick.here | apply Pick.there))) (fun _ => rfl) (by first | assumption | omega | (simp only [List.length_cons, List.length_nil]; omega)) (by decide) rfl) ?_)
        refine r_cont (Hp.le_refl _) (by repeat (first | exact Ent.nil _ | exact Ent.refl _ | (refine Ent.pick (by repeat (first | exact Pick.here | apply Pick.there)) ?_) | refine Ent.skip ?_)) ?_
        refine r_take (i := 14) (bs' := #[true, true, true, true, true, true, true, true, true, true, true, true, true, true, true, false, false]) rfl (by kernel_rfl) (by kernel_rfl) (by kernel_rfl) (fun _ _ _ h => h) rfl wn (q8_xor (p := (z.d.2.getD z.d.1 default)) (q := (1 : UInt8)) rfl rfl rfl rfl) (Hp.le_refl _) (by repeat (first | exact Ent.nil _ | exact Ent.refl _ | (refine Ent.pick (by repeat (first | exact Pick.here | apply Pick.there)) ?_) | refine Ent.skip ?_)) (by kernel_rfl) ?_
        refine r_one (i := 15) (bs' := #[true, true, true, true, true, true, true, true, true, true, true, true, true, true, true, true, false]) (by kernel_rfl) (by kernel_rfl) ?_
        refine o_step rfl (s_q rfl wn (q_indexe z.d.1 Try.underlying22 sz_5 rfl rfl (rd_row (by repeat (first | exact Pick.here | apply Pick.there))) (by decide) rfl (by first | assumption | omega | (simp only [List.length_cons, List.length_nil]; omega))) ?_)
        refine r_cont (Hp.le_refl _) (by repeat (first | exact Ent.nil _ | exact Ent.refl _ | (refine Ent.pick (by repeat (first | exact Pick.here | apply Pick.there)) ?_) | refine Ent.skip ?_)) ?_
        refine r_one (i := 16) (bs' := #[true, true, true, true, true, true, true, true, true, true, true, true, true, true, true, true, true]) (by kernel_rfl) (by kernel_rfl) ?_
        refine o_step rfl (s_s0 wn (s_storee (ws := [.int .u8 (((z.d.2.getD z.d.1 default) ^^^ (1 : UInt8)).toNat : Int)]) (enc := encB) (xs := z.d.2) (j := z.d.1) (off := 0) ((z.d.2.getD z.d.1 default) ^^^ (1 : UInt8)) rfl rfl rfl sz_5 (by simp) (by simp [Value.oneCell', strB, ptV, SL.v]) (by repeat (first | exact Pick.here | apply Pick.there)) (fun _ => rfl) (by first | assumption | omega | (simp only [List.length_cons, List.length_nil]; omega)) (by simp) (by first | rfl | simp [encB])) ?_)
        rintro _ _ ⟨rfl, rfl⟩
        refine r_cont (Hp.le_refl _) (by repeat (first | exact Ent.nil _ | exact Ent.refl _ | (refine Ent.pick (by repeat (first | exact Pick.here | apply Pick.there)) ?_) | refine Ent.skip ?_)) ?_
        refine r_done (by kernel_rfl) ?_
        refine k_blk_n ?_
        refine k_then_n ?_
        refine c_region ?_
        refine l_step (s_q rfl wn (q_move rfl) ?_)
        refine l_step (s_q rfl wn (q_add rfl rfl (by omega) (by omega)) ?_)
        refine l_step (s_q rfl wn (q_assign rfl) ?_)
        refine l_nil ?_
        refine k_then_n ?_
        exact t_next (⟨(z.d.1 + 1, (z.d.2.set z.d.1 ((z.d.2.getD z.d.1 default) ^^^ (1 : UInt8)))), none, 0, none, 0, none, 0⟩ : Lp _) ⟨⟨by simp only []; omega, by simp only [List.length_set]; exact hz2⟩, by simp only []; omega⟩ (.cons rfl (by first | rfl | exact inte (by omega) | (simp; done) | (simp <;> omega) | simp [*]) (.cons rfl (by first | rfl | exact inte (by omega) | (simp; done) | (simp <;> omega) | simp [*]) (.cons rfl (by first | rfl | exact inte (by omega) | (simp; done) | (simp <;> omega) | simp [*]) (.cons rfl (by first | rfl | exact inte (by omega) | (simp; done) | (simp <;> omega) | simp [*]) (.cons rfl (by first | rfl | exact inte (by omega) | (simp; done) | (simp <;> omega) | simp [*]) (.cons rfl (by first | rfl | exact inte (by omega) | (simp; done) | (simp <;> omega) | simp [*]) (.cons rfl (by first | rfl | exact inte (by omega) | (simp; done) | (simp <;> omega) | simp [*]) (.cons rfl (by first | rfl | exact inte (by omega) | (simp; done) | (simp <;> omega) | simp [*]) (.cons rfl (by first | rfl | exact inte (by omega) | (simp; done) | (simp <;> omega) | simp [*]) (.cons rfl (by first | rfl | exact inte (by omega) | (simp; done) | (simp <;> omega) | simp [*]) (.cons rfl (by first | rfl | exact inte (by omega) | (simp; done) | (simp <;> omega) | simp [*]) (.cons rfl (by first | rfl | exact inte (by omega) | (simp; done) | (simp <;> omega) | simp [*]) (.cons rfl (by first | rfl | exact inte (by omega) | (simp; done) | (simp <;> omega) | simp [*]) (.cons rfl (by first | rfl | exact inte (by omega) | (simp; done) | (simp <;> omega) | simp [*]) (.cons rfl (by first | rfl | exact inte (by omega) | (simp; done) | (simp <;> omega) | simp [*]) (.cons rfl (by first | rfl | exact inte (by omega) | (simp; done) | (simp <;> omega) | simp [*]) (.cons rfl (by first | rfl | exact inte (by omega) | (simp; done) | (simp <;> omega) | simp [*]) (.cons rfl (by first | rfl | exact inte (by omega) | (simp; done) | (simp <;> omega) | simp [*]) (.cons rfl (by first | rfl | exact inte (by omega) | (simp; done) | (simp <;> omega) | simp [*]) (.cons rfl (by first | rfl | exact inte (by omega) | (simp; done) | (simp <;> omega) | simp [*]) (.nil _))))))))))))))))))))) (by repeat (first | exact Ent.nil _ | exact Ent.refl _ | (refine Ent.pick (by repeat (first | exact Pick.here | apply Pick.there)) ?_) | refine Ent.skip ?_))
      · (try dsimp only [heapOf] at h4); try simp only [Bool.and_eq_true, Bool.or_eq_true, Bool.not_eq_true', Bool.and_eq_false_iff, Bool.or_eq_false_iff, Bool.not_eq_false', decide_eq_true_eq, decide_eq_false_iff_not, Bool.not_eq_eq_eq_not, Bool.not_true, Bool.not_false, Bool.not_eq_true, Bool.not_eq_false, beq_iff_eq, bne_iff_ne, ne_eq, Decidable.not_not] at h4
        refine c_exit ?_
        refine k_then_x ?_
        refine k_then_x ?_
        refine k_blk_x ?_
        refine k_blk_n ?_
        refine k_then_n ?_
        refine c_region ?_
        refine l_step (s_q rfl wn (q_move rfl) ?_)
        refine l_step (s_q rfl wn (q_add rfl rfl (by omega) (by omega)) ?_)
        refine l_step (s_q rfl wn (q_assign rfl) ?_)
        refine l_nil ?_
        refine k_then_n ?_
        exact t_next (⟨x.d + 1, none, 0, none, 0, none, 0⟩ : Lp _) ⟨by simp only []; omega, by simp only []; omega⟩ (.cons rfl (by first | rfl | exact inte (by omega) | (simp; done) | (simp <;> omega) | simp [*]) (.cons rfl (by first | rfl | exact inte (by omega) | (simp; done) | (simp <;> omega) | simp [*]) (.cons rfl (by first | rfl | exact inte (by omega) | (simp; done) | (simp <;> omega) | simp [*]) (.cons rfl (by first | rfl | exact inte (by omega) | (simp; done) | (simp <;> omega) | simp [*]) (.cons rfl (by first | rfl | exact inte (by omega) | (simp; done) | (simp <;> omega) | simp [*]) (.nil _)))))) (by repeat (first | exact Ent.nil _ | exact Ent.refl _ | (refine Ent.pick (by repeat (first | exact Pick.here | apply Pick.there)) ?_) | refine Ent.skip ?_))
    · (try dsimp only [heapOf] at h2); try simp only [Bool.and_eq_true, Bool.or_eq_true, Bool.not_eq_true', Bool.and_eq_false_iff, Bool.or_eq_false_iff, Bool.not_eq_false', decide_eq_true_eq, decide_eq_false_iff_not, Bool.not_eq_eq_eq_not, Bool.not_true, Bool.not_false, Bool.not_eq_true, Bool.not_eq_false, beq_iff_eq, bne_iff_ne, ne_eq, Decidable.not_not] at h2
      refine c_exit ?_
      refine k_then_x ?_
      refine k_then_x ?_
      refine k_blk_x ?_
      refine k_then_n ?_
      refine c_seq ?_
      refine c_region ?_
      refine l_step (s_q rfl wn (q_move rfl) ?_)
      refine l_step (s_q rfl wn (q_tostr (bs := s) Try.underlying22 Try.underlying5 Try.underlying9 rfl (rd_row (by repeat (first | exact Pick.here | apply Pick.there)))) ?_)
      refine l_step (s_q rfl wn (q_move rfl) ?_)
      refine l_step (s_q rfl wn (q_tostr (bs := s) Try.underlying22 Try.underlying5 Try.underlying9 rfl (by first | assumption | exact rd_ro (by assumption) | exact rd_bun (L := ps36.map (rowP 5)) (by repeat (first | exact Pick.here | apply Pick.there)) (in_map _ (by first | assumption | omega | (simp only [List.length_cons, List.length_nil]; omega) | decide) rfl) | exact rd_bun (L := (ps29.drop x.d).map (rowP 5)) (by repeat (first | exact Pick.here | apply Pick.there)) (in_map _ (by first | assumption | omega | (simp only [List.length_cons, List.length_nil]; omega) | decide) rfl) | exact rd_row (by repeat (first | exact Pick.here | apply Pick.there)))) ?_)
      refine l_step (s_q rfl wn (q_eqlsB (p := s) (q := s) rfl rfl) ?_)
      refine l_step (s_q rfl wn (q_assign rfl) ?_)
      refine l_nil ?_
      refine k_then_n ?_
      refine c_ret ?_
      exact t_ret [] rfl (.tmp rfl .nil) rfl (Hp.le_refl _) ⟨rfl, boole (by simp), rfl⟩ (by (repeat refine Ent.skip ?_); exact Ent.refl _)
end Go.Chk.F

/-
  Laws over dispatch, walked.
-/
import Derived.Test.YteajafkmnhikoaaDspA
import Derived.Test.YteajafkmnhikoaaDspQ
import Derived.Test.YteajafkmnhikoaaDspL
import Derived.Test.YteajafkmnhikoaaProg
set_option maxRecDepth 100000
set_option maxHeartbeats 4000000
set_option linter.unusedSimpArgs false
set_option linter.unusedVariables false
namespace Go.Dsp.B
open Go Go.SL Go.Proofs Go.Dsp Go.Dsp.L Go.Dsp.A
attribute [local irreducible] Go.SL.Ent
theorem ag_30 : aggSize Try.prog 30 = some 4 := by kernel_rfl
theorem eo_30 : elemOk Try.prog 30 4 32 = true := by kernel_rfl
theorem pl_30 : placesOf Try.prog 30 = some [(0, 1), (1, 1), (2, 1), (3, 1)] := by kernel_rfl
theorem sc_3 : isScalar Try.prog 3 = true := by kernel_rfl
theorem sz_3 : sizeIs Try.prog 3 = some 1 := by kernel_rfl
theorem sz_30 : sizeIs Try.prog 30 = some 4 := by kernel_rfl
theorem zc_30 : zeroCs Try.prog 30 = some [.int .i64 0, .int .i64 0, .int .i64 0, .int .i64 0] := by kernel_rfl

theorem again_spec (span : Int) (others_a : Option Addr) (others_n others_c : Nat) (others : List Int) (hothers_n : others.length = others_n) (ticks : Int) (ρ : Hp) (hro : Ro ρ 1 others_a others_n others_c (others.flatMap encI)) : Spec0 Try.prog 5 #[.int .i64 span, .slice others_a others_n others_c, .int .i64 ticks] ρ [] (fun v Γ' => v = .bool true ∧ Γ' = []) := by
  refine spec_of (n := 131) (vs := [_, _, _]) (σ := [(0, _), (1, _), (2, _)]) Try.func5 rfl rfl rfl rfl fun E Δ => ?_
  rw [List.nil_append]
  refine c_seq ?_
  refine c_region ?_
  refine l_step (s_q rfl wn (q_assign rfl) ?_)
  refine l_nil ?_
  refine k_then_n ?_
  refine c_seq ?_
  refine c_seq ?_
  refine c_region ?_
  refine l_step (s_fnq rfl wn Try.func11 rfl (by kernel_rfl) rfl (fun ρ' hL => awake_spec  ρ') ?_)
  refine l_step (s_q rfl wn (q_not rfl) ?_)
  refine l_step (s_q rfl wn (q_move rfl) ?_)
  refine l_step (s_q rfl (wy rfl rfl rfl) (q_move rfl) ?_)
  refine l_step (s_q rfl (wy rfl rfl rfl) (q_len Try.underlying22 rfl) ?_)
  refine l_step (s_q rfl (wy rfl rfl rfl) (q_gtr rfl rfl) ?_)
  refine l_step (s_q rfl wn (q_pick rfl rfl rfl) ?_)
  refine l_nil ?_
  refine k_then_n ?_
  refine c_cond rfl (fun h0 => ?_) (fun h0 => ?_)
  · try simp only [Bool.and_eq_true, Bool.or_eq_true, Bool.not_eq_true', Bool.and_eq_false_iff, Bool.or_eq_false_iff, Bool.not_eq_false', decide_eq_true_eq, decide_eq_false_iff_not, Bool.not_eq_eq_eq_not, Bool.not_true, Bool.not_false, Bool.not_eq_true, Bool.not_eq_false, beq_iff_eq, bne_iff_ne, ne_eq, Decidable.not_not] at h0
    refine c_seq ?_
    refine c_region ?_
    refine l_step (s_fnq rfl wn Try.func11 rfl (by kernel_rfl) rfl (fun ρ' hL => awake_spec  ρ') ?_)
    refine l_step (s_q rfl wn (q_assign rfl) ?_)
    refine l_nil ?_
    refine k_then_n ?_
    refine c_ret ?_
    refine k_then_r ?_
    exact t_ret [] rfl (.tmp rfl .nil) rfl (Hp.le_refl _) ⟨rfl, boole (by rfl), rfl⟩ (by (repeat refine Ent.skip ?_); exact Ent.refl _)
  · try simp only [Bool.and_eq_true, Bool.or_eq_true, Bool.not_eq_true', Bool.and_eq_false_iff, Bool.or_eq_false_iff, Bool.not_eq_false', decide_eq_true_eq, decide_eq_false_iff_not, Bool.not_eq_eq_eq_not, Bool.not_true, Bool.not_false, Bool.not_eq_true, Bool.not_eq_false, beq_iff_eq, bne_iff_ne, ne_eq, Decidable.not_not] at h0
    refine c_skip ?_
    refine k_then_n ?_
    refine c_seq ?_
    refine c_region ?_
    have m1 := Int.tmod_lt_of_pos span (show (0 : Int) < 20 by decide)
    have m2 := Int.lt_tmod_of_pos span (show (0 : Int) < 20 by decide)
    have m3 := Int.tmod_lt_of_pos ticks (show (0 : Int) < 120 by decide)
    have m4 := Int.lt_tmod_of_pos ticks (show (0 : Int) < 120 by decide)
    refine l_step (s_q rfl wn (q_move rfl) ?_)
    refine l_step (s_q rfl wn (q_rem rfl rfl (by omega)) ?_)
    refine l_step (s_q rfl wn (q_add rfl rfl (by omega) (by omega)) ?_)
    refine l_step (s_q rfl wn (q_remp rfl rfl (by omega) (by omega)) ?_)
    refine l_step (s_q rfl wn (q_add rfl rfl (by omega) (by omega)) ?_)
    refine l_step (s_q rfl wn (q_move rfl) ?_)
    refine l_step (s_q rfl wn (q_rem rfl rfl (by omega)) ?_)
    refine l_step (s_q rfl wn (q_add rfl rfl (by omega) (by omega)) ?_)
    refine l_step (s_q rfl wn (q_remp rfl rfl (by omega) (by omega)) ?_)
    refine l_step (s_q rfl wn (q_assign rfl) ?_)
    refine l_step (s_q rfl wn (q_assign rfl) ?_)
    refine l_nil ?_
    refine k_then_n ?_
    refine c_seq ?_
    refine c_region ?_
    obtain ⟨n, hn⟩ : ∃ k : Nat, (1 + ((span.tmod 20) + 20) % 20 : Int) = (k : Int) := ⟨_, (Int.toNat_of_nonneg (by omega)).symm⟩
    obtain ⟨T, hT⟩ : ∃ k : Nat, (((ticks.tmod 120) + 120) % 120 : Int) = (k : Int) := ⟨_, (Int.toNat_of_nonneg (by omega)).symm⟩
    rw [hn, hT]
    have hn1 : 0 < n := by omega
    have hn2 : n ≤ 20 := by omega
    have hT2 : T < 120 := by omega
    refine l_step (s_q rfl wn (q_move rfl) ?_)
    refine l_step (s_fnb rfl wn Try.func12 rfl (by kernel_rfl) rfl (by repeat (first | exact Sel.nil | exact Pick.here | apply Sel.cons | apply Pick.there)) (fun ρ' hL => new_spec (n : Int) ρ') ?_)
    rintro _ _ hnew
    obtain ⟨hsp, bN, boN, btN, rfl, rfl⟩ := hnew.resolve_right (fun h => h.1 ⟨by omega, by omega⟩)
    try simp only [List.cons_append, List.nil_append]
    refine l_step (s_q rfl wn (q_move rfl) ?_)
    refine l_step (s_q rfl wn (q_extract rfl rfl) ?_)
    refine l_step (s_q rfl wn (q_extract rfl rfl) ?_)
    refine l_step (s_q rfl wn (q_assign rfl) ?_)
    refine l_step (s_q rfl wn (q_assign rfl) ?_)
    refine l_nil ?_
    refine k_then_n ?_
    refine c_seq ?_
    refine c_seq ?_
    refine c_region ?_
    refine l_step (s_q rfl wn (q_move rfl) ?_)
    refine l_step (s_q rfl wn (by first | exact q_eqlp rfl rfl Try.underlying24 | exact q_eqlp0 rfl rfl Try.underlying24) ?_)
    refine l_step (s_q rfl wn (q_move rfl) ?_)
    refine l_step (s_q rfl (wy rfl rfl rfl) (q_move rfl) ?_)
    refine l_step (s_q rfl (wy rfl rfl rfl) (q_neq rfl rfl) ?_)
    refine l_step (s_q rfl wn (q_pick rfl rfl rfl) ?_)
    refine l_nil ?_
    refine k_then_n ?_
    refine c_sure false rfl (by rfl) ?_
    simp only [Bool.false_eq_true, if_true, if_false]
    refine c_skip ?_
    refine k_then_n ?_
    refine c_seq ?_
    refine c_region ?_
    refine l_step (s_q rfl wn (q_build (cs := encOrd (⟨9, 1, 50, 0⟩ : Ord)) zc_30 pl_30 rfl rfl) ?_)
    refine l_step (s_s rfl wn (s_allocz (cs := encOrd zOrd) (by kernel_rfl)) ?_)
    rintro _ _ ⟨b11, rfl, rfl⟩
    refine l_step (s_s0 wn (s_storep (ws := encOrd (⟨9, 1, 50, 0⟩ : Ord)) (cs := encOrd zOrd) (cs' := encOrd (⟨9, 1, 50, 0⟩ : Ord)) rfl rfl rfl sz_30 (oneOrd _) (by simp [encOrd, encOrd]) rfl (by repeat (first | exact Pick.here | apply Pick.there))) ?_)
    rintro _ _ ⟨rfl, rfl⟩
    refine l_nil ?_
    refine k_then_n ?_
    refine c_seq ?_
    refine c_seq ?_
    refine c_region ?_
    refine l_step (s_q rfl wn (q_assign rfl) ?_)
    refine l_nil ?_
    refine k_then_n ?_
    refine c_block ?_
    refine Tr.env (σ' := [(1, _), (7, _), (8, _), (9, _), (11, _), (12, _)]) (.cons rfl rfl (.cons rfl rfl (.cons rfl rfl (.cons rfl rfl (.cons rfl rfl (.cons rfl rfl (.nil _))))))) ?_
    refine t_loop (ι := Lp (Nat × OM × Nat)) (fun x => x.d.1 ≤ T ∧ AgI x.d.1 n x.d.2.1) (fun x => T - x.d.1) (fun x => [(1, .slice others_a others_n others_c), (7, .int .i64 (n : Int)), (8, .int .i64 (T : Int)), (9, .pointer (some ⟨bN, 0, none⟩)), (11, .pointer (some ⟨b11, 0, none⟩)), (12, .int .i64 (x.d.1 : Int))]) (fun x => .pts b11 (encOrd (⟨9, 1, 50, 0⟩ : Ord)) 30 :: MP (Value.int .i64) (aggV encTold) btN [] :: MP (Value.int .i64) (aggV encSent) x.d.2.2 x.d.2.1 :: .pts bN (encDisp (⟨(n : Int), (x.d.1 : Int), (some x.d.2.2), (some btN)⟩ : Disp)) 98 :: Δ) (⟨(0, [], boN), none, 0, none, 0, none, 0⟩ : Lp _) ⟨Nat.zero_le _, .inl ⟨rfl, rfl⟩⟩ ?_ ?_ ?_
    · exact .cons rfl (by first | rfl | exact inte (by omega) | (simp; done) | (simp <;> omega) | simp [*]) (.cons rfl (by first | rfl | exact inte (by omega) | (simp; done) | (simp <;> omega) | simp [*]) (.cons rfl (by first | rfl | exact inte (by omega) | (simp; done) | (simp <;> omega) | simp [*]) (.cons rfl (by first | rfl | exact inte (by omega) | (simp; done) | (simp <;> omega) | simp [*]) (.cons rfl (by first | rfl | exact inte (by omega) | (simp; done) | (simp <;> omega) | simp [*]) (.cons rfl (by first | rfl | exact inte (by omega) | (simp; done) | (simp <;> omega) | simp [*]) (.nil _))))))
    · exact (by repeat (first | exact Ent.nil _ | exact Ent.refl _ | (refine Ent.pick (by repeat (first | exact Pick.here | apply Pick.there)) ?_) | refine Ent.skip ?_))
    intro x hx
    obtain ⟨hx1, hI⟩ := hx
    refine c_seq ?_
    refine c_seq ?_
    refine c_region ?_
    refine l_step (s_q rfl wn (q_move rfl) ?_)
    refine l_step (s_q rfl wn (q_move rfl) ?_)
    refine l_step (s_q rfl wn (q_lss rfl rfl) ?_)
    refine l_nil ?_
    refine k_then_n ?_
    refine c_cond rfl (fun h2 => ?_) (fun h2 => ?_)
    · try simp only [Bool.and_eq_true, Bool.or_eq_true, Bool.not_eq_true', Bool.and_eq_false_iff, Bool.or_eq_false_iff, Bool.not_eq_false', decide_eq_true_eq, decide_eq_false_iff_not, Bool.not_eq_eq_eq_not, Bool.not_true, Bool.not_false, Bool.not_eq_true, Bool.not_eq_false, beq_iff_eq, bne_iff_ne, ne_eq, Decidable.not_not] at h2
      refine c_skip ?_
      refine k_then_n ?_
      refine c_seq ?_
      refine c_block ?_
      refine c_seq ?_
      refine c_region ?_
      refine l_step (s_q rfl wn (q_loadpa (vs := encOrd (⟨9, 1, 50, 0⟩ : Ord)) ag_30 rfl (by repeat (first | exact Pick.here | apply Pick.there)) rfl) ?_)
      refine l_step (s_s rfl wn (s_buildSlice (cs := ([(⟨9, 1, 50, 0⟩ : Ord)] : List Ord).flatMap encOrd) Try.underlying40 eo_30 rfl rfl rfl rfl (by decide) (by decide)) ?_)
      rintro _ _ ⟨b53, rfl, rfl⟩
      refine l_step (s_q rfl wn (q_assign rfl) ?_)
      refine l_nil ?_
      refine k_then_n ?_
      refine c_seq ?_
      refine c_seq ?_
      refine c_region ?_
      refine l_step (s_q rfl wn (q_move rfl) ?_)
      refine l_step (s_q rfl wn (q_move rfl) ?_)
      refine l_step (s_q rfl wn (q_len Try.underlying22 rfl) ?_)
      refine l_step (s_q rfl wn (q_lss rfl rfl) ?_)
      refine l_nil ?_
      refine k_then_n ?_
      refine t_cutq (ι := Option Ord × Option Addr × Nat) (fun z => OthOk x.d.1 z.1) (fun z => [(1, .slice others_a others_n others_c), (7, .int .i64 (n : Int)), (8, .int .i64 (T : Int)), (9, .pointer (some ⟨bN, 0, none⟩)), (11, .pointer (some ⟨b11, 0, none⟩)), (12, .int .i64 (x.d.1 : Int)), (13, .slice z.2.1 ((setL z.1).length) z.2.2), (47, .int .i64 (x.d.1 : Int)), (48, .int .i64 (T : Int)), (49, .bool (decide ((x.d.1 : Int) < (T : Int)))), (52, .agg (encOrd (⟨9, 1, 50, 0⟩ : Ord)).toArray), (53, .slice (some ⟨b53, 0, none⟩) 1 1), (54, .int .i64 (x.d.1 : Int)), (55, .slice others_a others_n others_c), (56, .int .i64 (others_n : Int)), (57, .bool (decide ((x.d.1 : Int) < (others_n : Int))))]) (fun z => .row 30 4 z.2.1 ((setL z.1).length) z.2.2 ((setL z.1).flatMap encOrd) :: .pts b11 (encOrd (⟨9, 1, 50, 0⟩ : Ord)) 30 :: MP (Value.int .i64) (aggV encTold) btN [] :: MP (Value.int .i64) (aggV encSent) x.d.2.2 x.d.2.1 :: .pts bN (encDisp (⟨(n : Int), (x.d.1 : Int), (some x.d.2.2), (some btN)⟩ : Disp)) 98 :: Δ) ?_ ?_
      · skip
        refine c_cond rfl (fun h3 => ?_) (fun h3 => ?_)
        · try simp only [Bool.and_eq_true, Bool.or_eq_true, Bool.not_eq_true', Bool.and_eq_false_iff, Bool.or_eq_false_iff, Bool.not_eq_false', decide_eq_true_eq, decide_eq_false_iff_not, Bool.not_eq_eq_eq_not, Bool.not_true, Bool.not_false, Bool.not_eq_true, Bool.not_eq_false, beq_iff_eq, bne_iff_ne, ne_eq, Decidable.not_not] at h3
          refine c_seq ?_
          refine c_region ?_
          refine l_step (s_q rfl wn (q_move rfl) ?_)
          refine l_step (s_q rfl wn (q_move rfl) ?_)
          refine l_step (s_q rfl wn (q_indexe x.d.1 Try.underlying22 sz_3 rfl rfl (by first | assumption | exact rd_ro (by assumption) | exact rd_row (by repeat (first | exact Pick.here | apply Pick.there))) (by decide) rfl (by first | assumption | omega | (simp only [List.length_cons, List.length_nil]; omega))) ?_)
          refine l_step (s_q rfl wn (q_loade (enc := encI) (xs := others) (j := x.d.1) (off := 0) sc_3 rfl (by first | assumption | exact rd_ro (by assumption) | exact rd_row (by repeat (first | exact Pick.here | apply Pick.there))) (fun _ => rfl) (by first | assumption | omega | (simp only [List.length_cons, List.length_nil]; omega)) (by decide) rfl) ?_)
          have m5 := Int.tmod_lt_of_pos (others.getD x.d.1 default) (show (0 : Int) < 40 by decide)
          have m6 := Int.lt_tmod_of_pos (others.getD x.d.1 default) (show (0 : Int) < 40 by decide)
          refine l_step (s_q rfl wn (q_rem rfl rfl (by omega)) ?_)
          refine l_step (s_q rfl wn (q_add rfl rfl (by omega) (by omega)) ?_)
          refine l_step (s_q rfl wn (q_remp rfl rfl (by omega) (by omega)) ?_)
          refine l_step (s_q rfl wn (q_assign rfl) ?_)
          refine l_nil ?_
          refine k_then_n ?_
          refine c_region ?_
          refine l_step (s_q rfl wn (q_move rfl) ?_)
          refine l_step (s_q rfl wn (q_move rfl) ?_)
          refine l_step (s_q rfl wn (q_add rfl rfl (by omega) (by omega)) ?_)
          refine l_step (s_q rfl wn (q_move rfl) ?_)
          refine l_step (s_q rfl wn (q_build (cs := encOrd (⟨(100 + (x.d.1 : Int)), 0, ((((others.getD x.d.1 default).tmod 40) + 40) % 40), 0⟩ : Ord)) zc_30 pl_30 rfl rfl) ?_)
          refine l_step (s_s rfl wn (s_buildSlice (cs := ([(⟨(100 + (x.d.1 : Int)), 0, ((((others.getD x.d.1 default).tmod 40) + 40) % 40), 0⟩ : Ord)] : List Ord).flatMap encOrd) Try.underlying40 eo_30 rfl rfl rfl rfl (by decide) (by decide)) ?_)
          rintro _ _ ⟨b70, rfl, rfl⟩
          refine l_step (s_s rfl wn (s_appendn (enc := encOrd) (xs := ([(⟨9, 1, 50, 0⟩ : Ord)] : List Ord)) (ys := ([(⟨(100 + (x.d.1 : Int)), 0, ((((others.getD x.d.1 default).tmod 40) + 40) % 40), 0⟩ : Ord)] : List Ord)) (Γ' := fun a' cap' => _) Try.underlying40 eo_30 (by decide) rfl rfl (rd_row (by repeat (first | exact Pick.here | apply Pick.there))) (oneOrds _) (by first | omega | (simp only [List.length_append, List.length_cons, List.length_nil] at *; omega)) (by first | omega | (simp only [List.length_append, List.length_cons, List.length_nil] at *; omega)) (fun _ _ => (by repeat (first | exact Pick.here | apply Pick.there)))) ?_)
          rintro _ _ ⟨a71, c71, rfl, rfl⟩
          refine l_step (s_q rfl wn (q_assign rfl) ?_)
          refine l_nil ?_
          refine k_then_n ?_
          exact t_next (some (⟨100 + (x.d.1 : Int), 0, ((((others.getD x.d.1 default).tmod 40) + 40) % 40), 0⟩ : Ord), a71, c71) (fun y hy => by cases hy; exact ⟨rfl, by show (0 : Int) ≤ ((((others.getD x.d.1 default).tmod 40) + 40) % 40); omega, by show ((((others.getD x.d.1 default).tmod 40) + 40) % 40) < 40; omega⟩) (.cons rfl (by first | rfl | exact inte (by omega) | (simp; done) | (simp <;> omega) | simp [*]) (.cons rfl (by first | rfl | exact inte (by omega) | (simp; done) | (simp <;> omega) | simp [*]) (.cons rfl (by first | rfl | exact inte (by omega) | (simp; done) | (simp <;> omega) | simp [*]) (.cons rfl (by first | rfl | exact inte (by omega) | (simp; done) | (simp <;> omega) | simp [*]) (.cons rfl (by first | rfl | exact inte (by omega) | (simp; done) | (simp <;> omega) | simp [*]) (.cons rfl (by first | rfl | exact inte (by omega) | (simp; done) | (simp <;> omega) | simp [*]) (.cons rfl (by first | rfl | exact inte (by omega) | (simp; done) | (simp <;> omega) | simp [*]) (.cons rfl (by first | rfl | exact inte (by omega) | (simp; done) | (simp <;> omega) | simp [*]) (.cons rfl (by first | rfl | exact inte (by omega) | (simp; done) | (simp <;> omega) | simp [*]) (.cons rfl (by first | rfl | exact inte (by omega) | (simp; done) | (simp <;> omega) | simp [*]) (.cons rfl (by first | rfl | exact inte (by omega) | (simp; done) | (simp <;> omega) | simp [*]) (.cons rfl (by first | rfl | exact inte (by omega) | (simp; done) | (simp <;> omega) | simp [*]) (.cons rfl (by first | rfl | exact inte (by omega) | (simp; done) | (simp <;> omega) | simp [*]) (.cons rfl (by first | rfl | exact inte (by omega) | (simp; done) | (simp <;> omega) | simp [*]) (.cons rfl (by first | rfl | exact inte (by omega) | (simp; done) | (simp <;> omega) | simp [*]) (.cons rfl (by first | rfl | exact inte (by omega) | (simp; done) | (simp <;> omega) | simp [*]) (.nil _))))))))))))))))) (by repeat (first | exact Ent.nil _ | exact Ent.refl _ | (refine Ent.pick (by repeat (first | exact Pick.here | apply Pick.there)) ?_) | refine Ent.skip ?_))
        · try simp only [Bool.and_eq_true, Bool.or_eq_true, Bool.not_eq_true', Bool.and_eq_false_iff, Bool.or_eq_false_iff, Bool.not_eq_false', decide_eq_true_eq, decide_eq_false_iff_not, Bool.not_eq_eq_eq_not, Bool.not_true, Bool.not_false, Bool.not_eq_true, Bool.not_eq_false, beq_iff_eq, bne_iff_ne, ne_eq, Decidable.not_not] at h3
          refine c_skip ?_
          refine k_then_n ?_
          exact t_next (none, some ⟨b53, 0, none⟩, 1) (fun y hy => by cases hy) (.cons rfl (by first | rfl | exact inte (by omega) | (simp; done) | (simp <;> omega) | simp [*]) (.cons rfl (by first | rfl | exact inte (by omega) | (simp; done) | (simp <;> omega) | simp [*]) (.cons rfl (by first | rfl | exact inte (by omega) | (simp; done) | (simp <;> omega) | simp [*]) (.cons rfl (by first | rfl | exact inte (by omega) | (simp; done) | (simp <;> omega) | simp [*]) (.cons rfl (by first | rfl | exact inte (by omega) | (simp; done) | (simp <;> omega) | simp [*]) (.cons rfl (by first | rfl | exact inte (by omega) | (simp; done) | (simp <;> omega) | simp [*]) (.cons rfl (by first | rfl | exact inte (by omega) | (simp; done) | (simp <;> omega) | simp [*]) (.cons rfl (by first | rfl | exact inte (by omega) | (simp; done) | (simp <;> omega) | simp [*]) (.cons rfl (by first | rfl | exact inte (by omega) | (simp; done) | (simp <;> omega) | simp [*]) (.cons rfl (by first | rfl | exact inte (by omega) | (simp; done) | (simp <;> omega) | simp [*]) (.cons rfl (by first | rfl | exact inte (by omega) | (simp; done) | (simp <;> omega) | simp [*]) (.cons rfl (by first | rfl | exact inte (by omega) | (simp; done) | (simp <;> omega) | simp [*]) (.cons rfl (by first | rfl | exact inte (by omega) | (simp; done) | (simp <;> omega) | simp [*]) (.cons rfl (by first | rfl | exact inte (by omega) | (simp; done) | (simp <;> omega) | simp [*]) (.cons rfl (by first | rfl | exact inte (by omega) | (simp; done) | (simp <;> omega) | simp [*]) (.cons rfl (by first | rfl | exact inte (by omega) | (simp; done) | (simp <;> omega) | simp [*]) (.nil _))))))))))))))))) (by repeat (first | exact Ent.nil _ | exact Ent.refl _ | (refine Ent.pick (by repeat (first | exact Pick.here | apply Pick.there)) ?_) | refine Ent.skip ?_))
      intro z hO
      have hsl := setL_len z.1
      have hsl2 := sent_len x.d.1 n z.1
      refine k_then_n ?_
      refine c_seq ?_
      refine c_region ?_
      refine l_step (s_q rfl wn (q_move rfl) ?_)
      refine l_step (s_q rfl wn (q_move rfl) ?_)
      refine l_step (s_fnb rfl wn Try.func13 rfl (by kernel_rfl) rfl (by repeat (first | exact Sel.nil | exact Pick.here | apply Sel.cons | apply Pick.there)) (fun ρ' hL => set_spec bN (⟨(n : Int), (x.d.1 : Int), x.d.2.2, btN, x.d.2.1, []⟩ : DD) z.2.1 ((setL z.1).length) z.2.2 (setL z.1) (by first | rfl | simp) ρ' (by first | omega | decide | (simp <;> omega)) (by first | exact hL.ro (by assumption) | exact hL.row (by repeat (first | exact Pick.here | apply Pick.there)) | assumption)) ?_)
      rintro _ _ ⟨bo74, rfl, rfl⟩
      try simp only [List.cons_append, List.nil_append]
      refine l_nil ?_
      refine k_then_n ?_
      refine c_seq ?_
      refine c_region ?_
      refine l_step (s_q rfl wn (q_move rfl) ?_)
      refine l_step (s_fnb rfl wn Try.func15 rfl (by kernel_rfl) rfl (by repeat (first | exact Sel.nil | exact Pick.here | apply Sel.cons | apply Pick.there)) (fun ρ' hL => tick_spec bN (⟨(n : Int), (x.d.1 : Int), bo74, btN, (setF x.d.2.1 (setL z.1)), []⟩ : DD) ρ' (set_ok2 hI hO) (show (0 : Int) ≤ (x.d.1 : Int) ∧ (x.d.1 : Int) ≤ 1000000 from ⟨by omega, by omega⟩)) ?_)
      rintro _ _ ⟨a76, c76, rfl, rfl⟩
      try simp only [List.cons_append, List.nil_append]
      obtain ⟨hts, hAg⟩ := again_tick (by omega) hI hO
      simp only [hts]
      refine l_step (s_q rfl wn (q_assign rfl) ?_)
      refine l_nil ?_
      refine k_then_n ?_
      refine c_seq ?_
      refine c_region ?_
      refine l_step (s_q rfl wn (q_assign rfl) ?_)
      refine l_nil ?_
      refine k_then_n ?_
      refine c_seq ?_
      refine c_seq ?_
      refine c_region ?_
      refine l_step (s_q rfl wn (q_assign rfl) ?_)
      refine l_nil ?_
      refine k_then_n ?_
      refine c_block ?_
      refine Tr.env (σ' := [(1, _), (7, _), (8, _), (9, _), (11, _), (12, _), (13, _), (15, _), (16, _), (17, _), (47, _), (48, _), (49, _), (52, _), (53, _), (54, _), (55, _), (56, _), (57, _), (72, _), (73, _), (75, _), (76, _)]) (.cons rfl rfl (.cons rfl rfl (.cons rfl rfl (.cons rfl rfl (.cons rfl rfl (.cons rfl rfl (.cons rfl rfl (.cons rfl rfl (.cons rfl rfl (.cons rfl rfl (.cons rfl rfl (.cons rfl rfl (.cons rfl rfl (.cons rfl rfl (.cons rfl rfl (.cons rfl rfl (.cons rfl rfl (.cons rfl rfl (.cons rfl rfl (.cons rfl rfl (.cons rfl rfl (.cons rfl rfl (.cons rfl rfl (.nil _)))))))))))))))))))))))) ?_
      refine t_loop (ι := Lp (Nat)) (fun y => y.d ≤ (z.1.toList ++ if x.d.1 % n = 0 then [mine] else []).length) (fun y => (z.1.toList ++ if x.d.1 % n = 0 then [mine] else []).length - y.d) (fun y => [(1, .slice others_a others_n others_c), (7, .int .i64 (n : Int)), (8, .int .i64 (T : Int)), (9, .pointer (some ⟨bN, 0, none⟩)), (11, .pointer (some ⟨b11, 0, none⟩)), (12, .int .i64 (x.d.1 : Int)), (13, .slice z.2.1 ((setL z.1).length) z.2.2), (15, .slice a76 ((z.1.toList ++ if x.d.1 % n = 0 then [mine] else []).length) c76), (16, .bool (fndB ((z.1.toList ++ if x.d.1 % n = 0 then [mine] else []).take y.d))), (17, .int .i64 (y.d : Int)), (47, .int .i64 (x.d.1 : Int)), (48, .int .i64 (T : Int)), (49, .bool (decide ((x.d.1 : Int) < (T : Int)))), (52, .agg (encOrd (⟨9, 1, 50, 0⟩ : Ord)).toArray), (53, .slice (some ⟨b53, 0, none⟩) 1 1), (54, .int .i64 (x.d.1 : Int)), (55, .slice others_a others_n others_c), (56, .int .i64 (others_n : Int)), (57, .bool (decide ((x.d.1 : Int) < (others_n : Int)))), (72, .pointer (some ⟨bN, 0, none⟩)), (73, .slice z.2.1 ((setL z.1).length) z.2.2), (75, .pointer (some ⟨bN, 0, none⟩)), (76, .slice a76 ((z.1.toList ++ if x.d.1 % n = 0 then [mine] else []).length) c76)]) (fun y => .row 30 4 a76 ((z.1.toList ++ if x.d.1 % n = 0 then [mine] else []).length) c76 ((z.1.toList ++ if x.d.1 % n = 0 then [mine] else []).flatMap encOrd) :: .row 30 4 z.2.1 ((setL z.1).length) z.2.2 ((setL z.1).flatMap encOrd) :: .pts b11 (encOrd (⟨9, 1, 50, 0⟩ : Ord)) 30 :: MP (Value.int .i64) (aggV encTold) btN [] :: MP (Value.int .i64) (aggV encSent) bo74 ((tickF ((x.d.1 : Int) + 1) (n : Int) (setF x.d.2.1 (setL z.1))).1) :: .pts bN (encDisp (⟨(n : Int), ((x.d.1 : Int) + 1), (some bo74), (some btN)⟩ : Disp)) 98 :: Δ) (⟨0, none, 0, none, 0, none, 0⟩ : Lp _) (Nat.zero_le _) ?_ ?_ ?_
      · exact .cons rfl (by first | rfl | exact inte (by omega) | (simp; done) | (simp <;> omega) | simp [*]) (.cons rfl (by first | rfl | exact inte (by omega) | (simp; done) | (simp <;> omega) | simp [*]) (.cons rfl (by first | rfl | exact inte (by omega) | (simp; done) | (simp <;> omega) | simp [*]) (.cons rfl (by first | rfl | exact inte (by omega) | (simp; done) | (simp <;> omega) | simp [*]) (.cons rfl (by first | rfl | exact inte (by omega) | (simp; done) | (simp <;> omega) | simp [*]) (.cons rfl (by first | rfl | exact inte (by omega) | (simp; done) | (simp <;> omega) | simp [*]) (.cons rfl (by first | rfl | exact inte (by omega) | (simp; done) | (simp <;> omega) | simp [*]) (.cons rfl (by first | rfl | exact inte (by omega) | (simp; done) | (simp <;> omega) | simp [*]) (.cons rfl (by first | rfl | exact inte (by omega) | (simp; done) | (simp <;> omega) | simp [*]) (.cons rfl (by first | rfl | exact inte (by omega) | (simp; done) | (simp <;> omega) | simp [*]) (.cons rfl (by first | rfl | exact inte (by omega) | (simp; done) | (simp <;> omega) | simp [*]) (.cons rfl (by first | rfl | exact inte (by omega) | (simp; done) | (simp <;> omega) | simp [*]) (.cons rfl (by first | rfl | exact inte (by omega) | (simp; done) | (simp <;> omega) | simp [*]) (.cons rfl (by first | rfl | exact inte (by omega) | (simp; done) | (simp <;> omega) | simp [*]) (.cons rfl (by first | rfl | exact inte (by omega) | (simp; done) | (simp <;> omega) | simp [*]) (.cons rfl (by first | rfl | exact inte (by omega) | (simp; done) | (simp <;> omega) | simp [*]) (.cons rfl (by first | rfl | exact inte (by omega) | (simp; done) | (simp <;> omega) | simp [*]) (.cons rfl (by first | rfl | exact inte (by omega) | (simp; done) | (simp <;> omega) | simp [*]) (.cons rfl (by first | rfl | exact inte (by omega) | (simp; done) | (simp <;> omega) | simp [*]) (.cons rfl (by first | rfl | exact inte (by omega) | (simp; done) | (simp <;> omega) | simp [*]) (.cons rfl (by first | rfl | exact inte (by omega) | (simp; done) | (simp <;> omega) | simp [*]) (.cons rfl (by first | rfl | exact inte (by omega) | (simp; done) | (simp <;> omega) | simp [*]) (.cons rfl (by first | rfl | exact inte (by omega) | (simp; done) | (simp <;> omega) | simp [*]) (.nil _)))))))))))))))))))))))
      · exact (by repeat (first | exact Ent.nil _ | exact Ent.refl _ | (refine Ent.pick (by repeat (first | exact Pick.here | apply Pick.there)) ?_) | refine Ent.skip ?_))
      intro y hy
      refine c_seq ?_
      refine c_seq ?_
      refine c_region ?_
      refine l_step (s_q rfl wn (q_move rfl) ?_)
      refine l_step (s_q rfl wn (q_move rfl) ?_)
      refine l_step (s_q rfl wn (q_len Try.underlying40 rfl) ?_)
      refine l_step (s_q rfl wn (q_lss rfl rfl) ?_)
      refine l_nil ?_
      refine k_then_n ?_
      refine c_cond rfl (fun h4 => ?_) (fun h4 => ?_)
      · try simp only [Bool.and_eq_true, Bool.or_eq_true, Bool.not_eq_true', Bool.and_eq_false_iff, Bool.or_eq_false_iff, Bool.not_eq_false', decide_eq_true_eq, decide_eq_false_iff_not, Bool.not_eq_eq_eq_not, Bool.not_true, Bool.not_false, Bool.not_eq_true, Bool.not_eq_false, beq_iff_eq, bne_iff_ne, ne_eq, Decidable.not_not] at h4
        refine c_skip ?_
        refine k_then_n ?_
        refine c_seq ?_
        refine c_block ?_
        refine c_seq ?_
        refine c_draw (m := 10) (bs := #[false, false, false, false, false, false, false, false, false, false]) [.row 30 4 a76 ((z.1.toList ++ if x.d.1 % n = 0 then [mine] else []).length) c76 ((z.1.toList ++ if x.d.1 % n = 0 then [mine] else []).flatMap encOrd), .row 30 4 z.2.1 ((setL z.1).length) z.2.2 ((setL z.1).flatMap encOrd), .pts b11 (encOrd (⟨9, 1, 50, 0⟩ : Ord)) 30, MP (Value.int .i64) (aggV encTold) btN [], MP (Value.int .i64) (aggV encSent) bo74 ((tickF ((x.d.1 : Int) + 1) (n : Int) (setF x.d.2.1 (setL z.1))).1), .pts bN (encDisp (⟨(n : Int), ((x.d.1 : Int) + 1), (some bo74), (some btN)⟩ : Disp)) 98] (by kernel_rfl) rfl (by kernel_rfl) ?_
        refine r_take (i := 0) (bs' := #[true, false, false, false, false, false, false, false, false, false]) rfl (by kernel_rfl) (by kernel_rfl) (by kernel_rfl) (fun _ _ _ h => h) rfl wn (q_move rfl) (Hp.le_refl _) (by repeat (first | exact Ent.nil _ | exact Ent.refl _ | (refine Ent.pick (by repeat (first | exact Pick.here | apply Pick.there)) ?_) | refine Ent.skip ?_)) (by kernel_rfl) ?_
        refine r_take (i := 1) (bs' := #[true, true, false, false, false, false, false, false, false, false]) rfl (by kernel_rfl) (by kernel_rfl) (by kernel_rfl) (fun _ _ _ h => h) rfl wn (q_move rfl) (Hp.le_refl _) (by repeat (first | exact Ent.nil _ | exact Ent.refl _ | (refine Ent.pick (by repeat (first | exact Pick.here | apply Pick.there)) ?_) | refine Ent.skip ?_)) (by kernel_rfl) ?_
        refine r_takeg (i := 2) (b := (!(fndB ((z.1.toList ++ if x.d.1 % n = 0 then [mine] else []).take y.d)))) (bs' := #[true, true, true, false, false, false, false, false, false, false]) rfl (by kernel_rfl) (by kernel_rfl) (by kernel_rfl) (fun _ _ _ h => h) rfl (ask_f rfl rfl) (fun hb => q_move rfl) (Hp.le_refl _) (by repeat (first | exact Ent.nil _ | exact Ent.refl _ | (refine Ent.pick (by repeat (first | exact Pick.here | apply Pick.there)) ?_) | refine Ent.skip ?_)) (by kernel_rfl) ?_
        refine r_takeg (i := 3) (b := (!(fndB ((z.1.toList ++ if x.d.1 % n = 0 then [mine] else []).take y.d)))) (bs' := #[true, true, true, true, false, false, false, false, false, false]) rfl (by kernel_rfl) (by kernel_rfl) (by kernel_rfl) (fun _ _ _ h => h) rfl (ask_f rfl rfl) (fun hb => q_move rfl) (Hp.le_refl _) (by repeat (first | exact Ent.nil _ | exact Ent.refl _ | (refine Ent.pick (by repeat (first | exact Pick.here | apply Pick.there)) ?_) | refine Ent.skip ?_)) (by kernel_rfl) ?_
        refine r_takeg (i := 4) (b := (!(fndB ((z.1.toList ++ if x.d.1 % n = 0 then [mine] else []).take y.d)))) (bs' := #[true, true, true, true, true, false, false, false, false, false]) rfl (by kernel_rfl) (by kernel_rfl) (by kernel_rfl) (fun _ _ _ h => h) rfl (ask_f rfl rfl) (fun hb => OpQ.env (.cons rfl (gd_t hb) (.cons rfl (gd_t hb) (.nil _)) : EnvLe [(85, .slice a76 ((z.1.toList ++ if x.d.1 % n = 0 then [mine] else []).length) c76), (86, .int .i64 (y.d : Int))] _) (q_indexe y.d Try.underlying40 sz_30 rfl rfl (rd_row (by repeat (first | exact Pick.here | apply Pick.there))) (by decide) rfl (by first | assumption | omega | (have hb2 := hb; (try simp only [Bool.and_eq_true, Bool.or_eq_true, Bool.not_eq_true', Bool.and_eq_false_iff, Bool.or_eq_false_iff, Bool.not_eq_false', decide_eq_true_eq, decide_eq_false_iff_not, Bool.not_eq_eq_eq_not, Bool.not_true, Bool.not_false, Bool.not_eq_true, Bool.not_eq_false, beq_iff_eq, bne_iff_ne, ne_eq, Decidable.not_not] at hb2); omega) | (simp only [List.length_cons, List.length_nil]; omega)))) (Hp.le_refl _) (by repeat (first | exact Ent.nil _ | exact Ent.refl _ | (refine Ent.pick (by repeat (first | exact Pick.here | apply Pick.there)) ?_) | refine Ent.skip ?_)) (by kernel_rfl) ?_
        refine r_takeg (i := 5) (b := (!(fndB ((z.1.toList ++ if x.d.1 % n = 0 then [mine] else []).take y.d)))) (bs' := #[true, true, true, true, true, true, false, false, false, false]) rfl (by kernel_rfl) (by kernel_rfl) (by kernel_rfl) (fun _ _ _ h => h) rfl (ask_f rfl rfl) (fun hb => OpQ.env (.cons rfl (gd_t hb) (.nil _) : EnvLe [(87, pe a76 y.d 4 0)] _) (q_loadea (vs := encOrd ((z.1.toList ++ if x.d.1 % n = 0 then [mine] else []).getD y.d default)) (enc := encOrd) (xs := (z.1.toList ++ if x.d.1 % n = 0 then [mine] else [])) (j := y.d) (off := 0) ag_30 rfl (rd_row (by repeat (first | exact Pick.here | apply Pick.there))) (fun _ => rfl) (by first | assumption | omega | (have hb2 := hb; (try simp only [Bool.and_eq_true, Bool.or_eq_true, Bool.not_eq_true', Bool.and_eq_false_iff, Bool.or_eq_false_iff, Bool.not_eq_false', decide_eq_true_eq, decide_eq_false_iff_not, Bool.not_eq_eq_eq_not, Bool.not_true, Bool.not_false, Bool.not_eq_true, Bool.not_eq_false, beq_iff_eq, bne_iff_ne, ne_eq, Decidable.not_not] at hb2); omega) | (simp only [List.length_cons, List.length_nil]; omega)) (by simp [encOrd]) (by simp [encOrd]) rfl)) (Hp.le_refl _) (by repeat (first | exact Ent.nil _ | exact Ent.refl _ | (refine Ent.pick (by repeat (first | exact Pick.here | apply Pick.there)) ?_) | refine Ent.skip ?_)) (by kernel_rfl) ?_
        refine r_takeg (i := 6) (b := (!(fndB ((z.1.toList ++ if x.d.1 % n = 0 then [mine] else []).take y.d)))) (bs' := #[true, true, true, true, true, true, true, false, false, false]) rfl (by kernel_rfl) (by kernel_rfl) (by kernel_rfl) (fun _ _ _ h => h) rfl (ask_f rfl rfl) (fun hb => q_loadpa (vs := encOrd (⟨9, 1, 50, 0⟩ : Ord)) ag_30 rfl (by repeat (first | exact Pick.here | apply Pick.there)) rfl) (Hp.le_refl _) (by repeat (first | exact Ent.nil _ | exact Ent.refl _ | (refine Ent.pick (by repeat (first | exact Pick.here | apply Pick.there)) ?_) | refine Ent.skip ?_)) (by kernel_rfl) ?_
        refine r_takeg (i := 7) (b := (!(fndB ((z.1.toList ++ if x.d.1 % n = 0 then [mine] else []).take y.d)))) (bs' := #[true, true, true, true, true, true, true, true, false, false]) rfl (by kernel_rfl) (by kernel_rfl) (by kernel_rfl) (fun _ _ _ h => h) rfl (ask_f rfl rfl) (fun hb => OpQ.env (.cons rfl (gd_t hb) (.cons rfl (gd_t hb) (.nil _)) : EnvLe [(88, .agg (encOrd ((z.1.toList ++ if x.d.1 % n = 0 then [mine] else []).getD y.d default)).toArray), (89, .agg (encOrd (⟨9, 1, 50, 0⟩ : Ord)).toArray)] _) (q_eqlst (offs := [0, 1, 2, 3]) (la := [((z.1.toList ++ if x.d.1 % n = 0 then [mine] else []).getD y.d default).ID, ((z.1.toList ++ if x.d.1 % n = 0 then [mine] else []).getD y.d default).Epoch, ((z.1.toList ++ if x.d.1 % n = 0 then [mine] else []).getD y.d default).Cluster, ((z.1.toList ++ if x.d.1 % n = 0 then [mine] else []).getD y.d default).Version]) (lb := [(⟨9, 1, 50, 0⟩ : Ord).ID, (⟨9, 1, 50, 0⟩ : Ord).Epoch, (⟨9, 1, 50, 0⟩ : Ord).Cluster, (⟨9, 1, 50, 0⟩ : Ord).Version]) (by kernel_rfl) rfl rfl (by intro o ho; simp only [List.mem_cons, List.not_mem_nil, or_false] at ho; rcases ho with rfl | rfl | rfl | rfl <;> exact ⟨_, _, _, rfl, rfl⟩) rfl rfl)) (Hp.le_refl _) (by repeat (first | exact Ent.nil _ | exact Ent.refl _ | (refine Ent.pick (by repeat (first | exact Pick.here | apply Pick.there)) ?_) | refine Ent.skip ?_)) (by kernel_rfl) ?_
        refine r_take (i := 8) (bs' := #[true, true, true, true, true, true, true, true, true, false]) rfl (by kernel_rfl) (by kernel_rfl) (by kernel_rfl) (fun _ _ _ h => h) rfl wn (q_pick_or rfl rfl rfl (fun h => by first | (rw [h]; rfl) | exact congrArg not h)) (Hp.le_refl _) (by repeat (first | exact Ent.nil _ | exact Ent.refl _ | (refine Ent.pick (by repeat (first | exact Pick.here | apply Pick.there)) ?_) | refine Ent.skip ?_)) (by kernel_rfl) ?_
        refine r_take (i := 9) (bs' := #[true, true, true, true, true, true, true, true, true, true]) rfl (by kernel_rfl) (by kernel_rfl) (by kernel_rfl) (fun _ _ _ h => h) rfl wn (q_assign rfl) (Hp.le_refl _) (by repeat (first | exact Ent.nil _ | exact Ent.refl _ | (refine Ent.pick (by repeat (first | exact Pick.here | apply Pick.there)) ?_) | refine Ent.skip ?_)) (by kernel_rfl) ?_
        refine r_done (by kernel_rfl) ?_
        refine k_then_n ?_
        refine c_seq ?_
        refine c_draw (m := 21) (bs := #[false, false, false, false, false, false, false, false, false, false, false, false, false, false, false, false, false, false, false, false, false]) [.row 30 4 a76 ((z.1.toList ++ if x.d.1 % n = 0 then [mine] else []).length) c76 ((z.1.toList ++ if x.d.1 % n = 0 then [mine] else []).flatMap encOrd), .row 30 4 z.2.1 ((setL z.1).length) z.2.2 ((setL z.1).flatMap encOrd), .pts b11 (encOrd (⟨9, 1, 50, 0⟩ : Ord)) 30, MP (Value.int .i64) (aggV encTold) btN [], MP (Value.int .i64) (aggV encSent) bo74 ((tickF ((x.d.1 : Int) + 1) (n : Int) (setF x.d.2.1 (setL z.1))).1), .pts bN (encDisp (⟨(n : Int), ((x.d.1 : Int) + 1), (some bo74), (some btN)⟩ : Disp)) 98] (by kernel_rfl) rfl (by kernel_rfl) ?_
        refine r_take (i := 0) (bs' := #[true, false, false, false, false, false, false, false, false, false, false, false, false, false, false, false, false, false, false, false, false]) rfl (by kernel_rfl) (by kernel_rfl) (by kernel_rfl) (fun _ _ _ h => h) rfl wn (q_move rfl) (Hp.le_refl _) (by repeat (first | exact Ent.nil _ | exact Ent.refl _ | (refine Ent.pick (by repeat (first | exact Pick.here | apply Pick.there)) ?_) | refine Ent.skip ?_)) (by kernel_rfl) ?_
        refine r_take (i := 1) (bs' := #[true, true, false, false, false, false, false, false, false, false, false, false, false, false, false, false, false, false, false, false, false]) rfl (by kernel_rfl) (by kernel_rfl) (by kernel_rfl) (fun _ _ _ h => h) rfl wn (q_move rfl) (Hp.le_refl _) (by repeat (first | exact Ent.nil _ | exact Ent.refl _ | (refine Ent.pick (by repeat (first | exact Pick.here | apply Pick.there)) ?_) | refine Ent.skip ?_)) (by kernel_rfl) ?_
        refine r_take (i := 2) (bs' := #[true, true, true, false, false, false, false, false, false, false, false, false, false, false, false, false, false, false, false, false, false]) rfl (by kernel_rfl) (by kernel_rfl) (by kernel_rfl) (fun _ _ _ h => h) rfl wn (q_indexe y.d Try.underlying40 sz_30 rfl rfl (rd_row (by repeat (first | exact Pick.here | apply Pick.there))) (by decide) rfl (by first | assumption | omega | (simp only [List.length_cons, List.length_nil]; omega))) (Hp.le_refl _) (by repeat (first | exact Ent.nil _ | exact Ent.refl _ | (refine Ent.pick (by repeat (first | exact Pick.here | apply Pick.there)) ?_) | refine Ent.skip ?_)) (by kernel_rfl) ?_
        refine r_take (i := 3) (bs' := #[true, true, true, true, false, false, false, false, false, false, false, false, false, false, false, false, false, false, false, false, false]) rfl (by kernel_rfl) (by kernel_rfl) (by kernel_rfl) (fun _ _ _ h => h) rfl wn (q_loadea (vs := encOrd ((z.1.toList ++ if x.d.1 % n = 0 then [mine] else []).getD y.d default)) (enc := encOrd) (xs := (z.1.toList ++ if x.d.1 % n = 0 then [mine] else [])) (j := y.d) (off := 0) ag_30 rfl (rd_row (by repeat (first | exact Pick.here | apply Pick.there))) (fun _ => rfl) (by first | assumption | omega | (simp only [List.length_cons, List.length_nil]; omega)) (by simp [encOrd]) (by simp [encOrd]) rfl) (Hp.le_refl _) (by repeat (first | exact Ent.nil _ | exact Ent.refl _ | (refine Ent.pick (by repeat (first | exact Pick.here | apply Pick.there)) ?_) | refine Ent.skip ?_)) (by kernel_rfl) ?_
        refine r_take (i := 4) (bs' := #[true, true, true, true, true, false, false, false, false, false, false, false, false, false, false, false, false, false, false, false, false]) rfl (by kernel_rfl) (by kernel_rfl) (by kernel_rfl) (fun _ _ _ h => h) rfl wn (q_loadpa (vs := encOrd (⟨9, 1, 50, 0⟩ : Ord)) ag_30 rfl (by repeat (first | exact Pick.here | apply Pick.there)) rfl) (Hp.le_refl _) (by repeat (first | exact Ent.nil _ | exact Ent.refl _ | (refine Ent.pick (by repeat (first | exact Pick.here | apply Pick.there)) ?_) | refine Ent.skip ?_)) (by kernel_rfl) ?_
        refine r_take (i := 5) (bs' := #[true, true, true, true, true, true, false, false, false, false, false, false, false, false, false, false, false, false, false, false, false]) rfl (by kernel_rfl) (by kernel_rfl) (by kernel_rfl) (fun _ _ _ h => h) rfl wn (q_neqst (offs := [0, 1, 2, 3]) (la := [((z.1.toList ++ if x.d.1 % n = 0 then [mine] else []).getD y.d default).ID, ((z.1.toList ++ if x.d.1 % n = 0 then [mine] else []).getD y.d default).Epoch, ((z.1.toList ++ if x.d.1 % n = 0 then [mine] else []).getD y.d default).Cluster, ((z.1.toList ++ if x.d.1 % n = 0 then [mine] else []).getD y.d default).Version]) (lb := [(⟨9, 1, 50, 0⟩ : Ord).ID, (⟨9, 1, 50, 0⟩ : Ord).Epoch, (⟨9, 1, 50, 0⟩ : Ord).Cluster, (⟨9, 1, 50, 0⟩ : Ord).Version]) (by kernel_rfl) rfl rfl (by intro o ho; simp only [List.mem_cons, List.not_mem_nil, or_false] at ho; rcases ho with rfl | rfl | rfl | rfl <;> exact ⟨_, _, _, rfl, rfl⟩) rfl rfl) (Hp.le_refl _) (by repeat (first | exact Ent.nil _ | exact Ent.refl _ | (refine Ent.pick (by repeat (first | exact Pick.here | apply Pick.there)) ?_) | refine Ent.skip ?_)) (by kernel_rfl) ?_
        refine r_take (i := 6) (bs' := #[true, true, true, true, true, true, true, false, false, false, false, false, false, false, false, false, false, false, false, false, false]) rfl (by kernel_rfl) (by kernel_rfl) (by kernel_rfl) (fun _ _ _ h => h) rfl wn (q_move rfl) (Hp.le_refl _) (by repeat (first | exact Ent.nil _ | exact Ent.refl _ | (refine Ent.pick (by repeat (first | exact Pick.here | apply Pick.there)) ?_) | refine Ent.skip ?_)) (by kernel_rfl) ?_
        refine r_takeg (i := 7) (b := (!decide ([((z.1.toList ++ if x.d.1 % n = 0 then [mine] else []).getD y.d default).ID, ((z.1.toList ++ if x.d.1 % n = 0 then [mine] else []).getD y.d default).Epoch, ((z.1.toList ++ if x.d.1 % n = 0 then [mine] else []).getD y.d default).Cluster, ((z.1.toList ++ if x.d.1 % n = 0 then [mine] else []).getD y.d default).Version] = [(⟨9, 1, 50, 0⟩ : Ord).ID, (⟨9, 1, 50, 0⟩ : Ord).Epoch, (⟨9, 1, 50, 0⟩ : Ord).Cluster, (⟨9, 1, 50, 0⟩ : Ord).Version]))) (bs' := #[true, true, true, true, true, true, true, true, false, false, false, false, false, false, false, false, false, false, false, false, false]) rfl (by kernel_rfl) (by kernel_rfl) (by kernel_rfl) (fun _ _ _ h => h) rfl (ask_t rfl rfl) (fun hb => q_move rfl) (Hp.le_refl _) (by repeat (first | exact Ent.nil _ | exact Ent.refl _ | (refine Ent.pick (by repeat (first | exact Pick.here | apply Pick.there)) ?_) | refine Ent.skip ?_)) (by kernel_rfl) ?_
        refine r_takeg (i := 8) (b := (!decide ([((z.1.toList ++ if x.d.1 % n = 0 then [mine] else []).getD y.d default).ID, ((z.1.toList ++ if x.d.1 % n = 0 then [mine] else []).getD y.d default).Epoch, ((z.1.toList ++ if x.d.1 % n = 0 then [mine] else []).getD y.d default).Cluster, ((z.1.toList ++ if x.d.1 % n = 0 then [mine] else []).getD y.d default).Version] = [(⟨9, 1, 50, 0⟩ : Ord).ID, (⟨9, 1, 50, 0⟩ : Ord).Epoch, (⟨9, 1, 50, 0⟩ : Ord).Cluster, (⟨9, 1, 50, 0⟩ : Ord).Version]))) (bs' := #[true, true, true, true, true, true, true, true, true, false, false, false, false, false, false, false, false, false, false, false, false]) rfl (by kernel_rfl) (by kernel_rfl) (by kernel_rfl) (fun _ _ _ h => h) rfl (ask_t rfl rfl) (fun hb => OpQ.env (.cons rfl (gd_t hb) (.nil _) : EnvLe [(99, .slice z.2.1 ((setL z.1).length) z.2.2)] _) (q_len Try.underlying40 rfl)) (Hp.le_refl _) (by repeat (first | exact Ent.nil _ | exact Ent.refl _ | (refine Ent.pick (by repeat (first | exact Pick.here | apply Pick.there)) ?_) | refine Ent.skip ?_)) (by kernel_rfl) ?_
        refine r_takeg (i := 9) (b := (!decide ([((z.1.toList ++ if x.d.1 % n = 0 then [mine] else []).getD y.d default).ID, ((z.1.toList ++ if x.d.1 % n = 0 then [mine] else []).getD y.d default).Epoch, ((z.1.toList ++ if x.d.1 % n = 0 then [mine] else []).getD y.d default).Cluster, ((z.1.toList ++ if x.d.1 % n = 0 then [mine] else []).getD y.d default).Version] = [(⟨9, 1, 50, 0⟩ : Ord).ID, (⟨9, 1, 50, 0⟩ : Ord).Epoch, (⟨9, 1, 50, 0⟩ : Ord).Cluster, (⟨9, 1, 50, 0⟩ : Ord).Version]))) (bs' := #[true, true, true, true, true, true, true, true, true, true, false, false, false, false, false, false, false, false, false, false, false]) rfl (by kernel_rfl) (by kernel_rfl) (by kernel_rfl) (fun _ _ _ h => h) rfl (ask_t rfl rfl) (fun hb => OpQ.env (.cons rfl (gd_t hb) (.nil _) : EnvLe [(100, .int .i64 ((setL z.1).length : Int))] _) (q_lss rfl rfl)) (Hp.le_refl _) (by repeat (first | exact Ent.nil _ | exact Ent.refl _ | (refine Ent.pick (by repeat (first | exact Pick.here | apply Pick.there)) ?_) | refine Ent.skip ?_)) (by kernel_rfl) ?_
        refine r_takeg (i := 10) (b := (!decide ([((z.1.toList ++ if x.d.1 % n = 0 then [mine] else []).getD y.d default).ID, ((z.1.toList ++ if x.d.1 % n = 0 then [mine] else []).getD y.d default).Epoch, ((z.1.toList ++ if x.d.1 % n = 0 then [mine] else []).getD y.d default).Cluster, ((z.1.toList ++ if x.d.1 % n = 0 then [mine] else []).getD y.d default).Version] = [(⟨9, 1, 50, 0⟩ : Ord).ID, (⟨9, 1, 50, 0⟩ : Ord).Epoch, (⟨9, 1, 50, 0⟩ : Ord).Cluster, (⟨9, 1, 50, 0⟩ : Ord).Version]))) (bs' := #[true, true, true, true, true, true, true, true, true, true, true, false, false, false, false, false, false, false, false, false, false]) rfl (by kernel_rfl) (by kernel_rfl) (by kernel_rfl) (fun _ _ _ h => h) rfl (ask_t rfl rfl) (fun hb => OpQ.env (.cons rfl (gd_t hb) (.nil _) : EnvLe [(101, .bool (decide (((setL z.1).length : Int) < 2)))] _) (q_move rfl)) (Hp.le_refl _) (by repeat (first | exact Ent.nil _ | exact Ent.refl _ | (refine Ent.pick (by repeat (first | exact Pick.here | apply Pick.there)) ?_) | refine Ent.skip ?_)) (by kernel_rfl) ?_
        refine r_takeg (i := 11) (b := ((!decide ([((z.1.toList ++ if x.d.1 % n = 0 then [mine] else []).getD y.d default).ID, ((z.1.toList ++ if x.d.1 % n = 0 then [mine] else []).getD y.d default).Epoch, ((z.1.toList ++ if x.d.1 % n = 0 then [mine] else []).getD y.d default).Cluster, ((z.1.toList ++ if x.d.1 % n = 0 then [mine] else []).getD y.d default).Version] = [(⟨9, 1, 50, 0⟩ : Ord).ID, (⟨9, 1, 50, 0⟩ : Ord).Epoch, (⟨9, 1, 50, 0⟩ : Ord).Cluster, (⟨9, 1, 50, 0⟩ : Ord).Version])) && !(decide (((setL z.1).length : Int) < 2)))) (bs' := #[true, true, true, true, true, true, true, true, true, true, true, true, false, false, false, false, false, false, false, false, false]) rfl (by kernel_rfl) (by kernel_rfl) (by kernel_rfl) (fun _ _ _ h => h) rfl (ask_gf rfl rfl) (fun hb => q_move rfl) (Hp.le_refl _) (by repeat (first | exact Ent.nil _ | exact Ent.refl _ | (refine Ent.pick (by repeat (first | exact Pick.here | apply Pick.there)) ?_) | refine Ent.skip ?_)) (by kernel_rfl) ?_
        refine r_takeg (i := 12) (b := ((!decide ([((z.1.toList ++ if x.d.1 % n = 0 then [mine] else []).getD y.d default).ID, ((z.1.toList ++ if x.d.1 % n = 0 then [mine] else []).getD y.d default).Epoch, ((z.1.toList ++ if x.d.1 % n = 0 then [mine] else []).getD y.d default).Cluster, ((z.1.toList ++ if x.d.1 % n = 0 then [mine] else []).getD y.d default).Version] = [(⟨9, 1, 50, 0⟩ : Ord).ID, (⟨9, 1, 50, 0⟩ : Ord).Epoch, (⟨9, 1, 50, 0⟩ : Ord).Cluster, (⟨9, 1, 50, 0⟩ : Ord).Version])) && !(decide (((setL z.1).length : Int) < 2)))) (bs' := #[true, true, true, true, true, true, true, true, true, true, true, true, true, false, false, false, false, false, false, false, false]) rfl (by kernel_rfl) (by kernel_rfl) (by kernel_rfl) (fun _ _ _ h => h) rfl (ask_gf rfl rfl) (fun hb => q_move rfl) (Hp.le_refl _) (by repeat (first | exact Ent.nil _ | exact Ent.refl _ | (refine Ent.pick (by repeat (first | exact Pick.here | apply Pick.there)) ?_) | refine Ent.skip ?_)) (by kernel_rfl) ?_
        refine r_takeg (i := 13) (b := ((!decide ([((z.1.toList ++ if x.d.1 % n = 0 then [mine] else []).getD y.d default).ID, ((z.1.toList ++ if x.d.1 % n = 0 then [mine] else []).getD y.d default).Epoch, ((z.1.toList ++ if x.d.1 % n = 0 then [mine] else []).getD y.d default).Cluster, ((z.1.toList ++ if x.d.1 % n = 0 then [mine] else []).getD y.d default).Version] = [(⟨9, 1, 50, 0⟩ : Ord).ID, (⟨9, 1, 50, 0⟩ : Ord).Epoch, (⟨9, 1, 50, 0⟩ : Ord).Cluster, (⟨9, 1, 50, 0⟩ : Ord).Version])) && !(decide (((setL z.1).length : Int) < 2)))) (bs' := #[true, true, true, true, true, true, true, true, true, true, true, true, true, true, false, false, false, false, false, false, false]) rfl (by kernel_rfl) (by kernel_rfl) (by kernel_rfl) (fun _ _ _ h => h) rfl (ask_gf rfl rfl) (fun hb => OpQ.env (.cons rfl (gd_t hb) (.cons rfl (gd_t hb) (.nil _)) : EnvLe [(103, .slice a76 ((z.1.toList ++ if x.d.1 % n = 0 then [mine] else []).length) c76), (104, .int .i64 (y.d : Int))] _) (q_indexe y.d Try.underlying40 sz_30 rfl rfl (rd_row (by repeat (first | exact Pick.here | apply Pick.there))) (by decide) rfl (by first | assumption | omega | (have hb2 := hb; (try simp only [Bool.and_eq_true, Bool.or_eq_true, Bool.not_eq_true', Bool.and_eq_false_iff, Bool.or_eq_false_iff, Bool.not_eq_false', decide_eq_true_eq, decide_eq_false_iff_not, Bool.not_eq_eq_eq_not, Bool.not_true, Bool.not_false, Bool.not_eq_true, Bool.not_eq_false, beq_iff_eq, bne_iff_ne, ne_eq, Decidable.not_not] at hb2); omega) | (simp only [List.length_cons, List.length_nil]; omega)))) (Hp.le_refl _) (by repeat (first | exact Ent.nil _ | exact Ent.refl _ | (refine Ent.pick (by repeat (first | exact Pick.here | apply Pick.there)) ?_) | refine Ent.skip ?_)) (by kernel_rfl) ?_
        refine r_takeg (i := 14) (b := ((!decide ([((z.1.toList ++ if x.d.1 % n = 0 then [mine] else []).getD y.d default).ID, ((z.1.toList ++ if x.d.1 % n = 0 then [mine] else []).getD y.d default).Epoch, ((z.1.toList ++ if x.d.1 % n = 0 then [mine] else []).getD y.d default).Cluster, ((z.1.toList ++ if x.d.1 % n = 0 then [mine] else []).getD y.d default).Version] = [(⟨9, 1, 50, 0⟩ : Ord).ID, (⟨9, 1, 50, 0⟩ : Ord).Epoch, (⟨9, 1, 50, 0⟩ : Ord).Cluster, (⟨9, 1, 50, 0⟩ : Ord).Version])) && !(decide (((setL z.1).length : Int) < 2)))) (bs' := #[true, true, true, true, true, true, true, true, true, true, true, true, true, true, true, false, false, false, false, false, false]) rfl (by kernel_rfl) (by kernel_rfl) (by kernel_rfl) (fun _ _ _ h => h) rfl (ask_gf rfl rfl) (fun hb => OpQ.env (.cons rfl (gd_t hb) (.nil _) : EnvLe [(105, pe a76 y.d 4 0)] _) (q_loadea (vs := encOrd ((z.1.toList ++ if x.d.1 % n = 0 then [mine] else []).getD y.d default)) (enc := encOrd) (xs := (z.1.toList ++ if x.d.1 % n = 0 then [mine] else [])) (j := y.d) (off := 0) ag_30 rfl (rd_row (by repeat (first | exact Pick.here | apply Pick.there))) (fun _ => rfl) (by first | assumption | omega | (have hb2 := hb; (try simp only [Bool.and_eq_true, Bool.or_eq_true, Bool.not_eq_true', Bool.and_eq_false_iff, Bool.or_eq_false_iff, Bool.not_eq_false', decide_eq_true_eq, decide_eq_false_iff_not, Bool.not_eq_eq_eq_not, Bool.not_true, Bool.not_false, Bool.not_eq_true, Bool.not_eq_false, beq_iff_eq, bne_iff_ne, ne_eq, Decidable.not_not] at hb2); omega) | (simp only [List.length_cons, List.length_nil]; omega)) (by simp [encOrd]) (by simp [encOrd]) rfl)) (Hp.le_refl _) (by repeat (first | exact Ent.nil _ | exact Ent.refl _ | (refine Ent.pick (by repeat (first | exact Pick.here | apply Pick.there)) ?_) | refine Ent.skip ?_)) (by kernel_rfl) ?_
        refine r_takeg (i := 15) (b := ((!decide ([((z.1.toList ++ if x.d.1 % n = 0 then [mine] else []).getD y.d default).ID, ((z.1.toList ++ if x.d.1 % n = 0 then [mine] else []).getD y.d default).Epoch, ((z.1.toList ++ if x.d.1 % n = 0 then [mine] else []).getD y.d default).Cluster, ((z.1.toList ++ if x.d.1 % n = 0 then [mine] else []).getD y.d default).Version] = [(⟨9, 1, 50, 0⟩ : Ord).ID, (⟨9, 1, 50, 0⟩ : Ord).Epoch, (⟨9, 1, 50, 0⟩ : Ord).Cluster, (⟨9, 1, 50, 0⟩ : Ord).Version])) && !(decide (((setL z.1).length : Int) < 2)))) (bs' := #[true, true, true, true, true, true, true, true, true, true, true, true, true, true, true, true, false, false, false, false, false]) rfl (by kernel_rfl) (by kernel_rfl) (by kernel_rfl) (fun _ _ _ h => h) rfl (ask_gf rfl rfl) (fun hb => q_move rfl) (Hp.le_refl _) (by repeat (first | exact Ent.nil _ | exact Ent.refl _ | (refine Ent.pick (by repeat (first | exact Pick.here | apply Pick.there)) ?_) | refine Ent.skip ?_)) (by kernel_rfl) ?_
        refine r_takeg (i := 16) (b := ((!decide ([((z.1.toList ++ if x.d.1 % n = 0 then [mine] else []).getD y.d default).ID, ((z.1.toList ++ if x.d.1 % n = 0 then [mine] else []).getD y.d default).Epoch, ((z.1.toList ++ if x.d.1 % n = 0 then [mine] else []).getD y.d default).Cluster, ((z.1.toList ++ if x.d.1 % n = 0 then [mine] else []).getD y.d default).Version] = [(⟨9, 1, 50, 0⟩ : Ord).ID, (⟨9, 1, 50, 0⟩ : Ord).Epoch, (⟨9, 1, 50, 0⟩ : Ord).Cluster, (⟨9, 1, 50, 0⟩ : Ord).Version])) && !(decide (((setL z.1).length : Int) < 2)))) (bs' := #[true, true, true, true, true, true, true, true, true, true, true, true, true, true, true, true, true, false, false, false, false]) rfl (by kernel_rfl) (by kernel_rfl) (by kernel_rfl) (fun _ _ _ h => h) rfl (ask_gf rfl rfl) (fun hb => OpQ.env (.cons rfl (gd_t hb) (.nil _) : EnvLe [(107, .slice z.2.1 ((setL z.1).length) z.2.2)] _) (q_indexe 1 Try.underlying40 sz_30 rfl rfl (rd_row (by repeat (first | exact Pick.here | apply Pick.there))) (by decide) rfl (by first | assumption | omega | (have hb2 := hb; (try simp only [Bool.and_eq_true, Bool.or_eq_true, Bool.not_eq_true', Bool.and_eq_false_iff, Bool.or_eq_false_iff, Bool.not_eq_false', decide_eq_true_eq, decide_eq_false_iff_not, Bool.not_eq_eq_eq_not, Bool.not_true, Bool.not_false, Bool.not_eq_true, Bool.not_eq_false, beq_iff_eq, bne_iff_ne, ne_eq, Decidable.not_not] at hb2); omega) | (simp only [List.length_cons, List.length_nil]; omega)))) (Hp.le_refl _) (by repeat (first | exact Ent.nil _ | exact Ent.refl _ | (refine Ent.pick (by repeat (first | exact Pick.here | apply Pick.there)) ?_) | refine Ent.skip ?_)) (by kernel_rfl) ?_
        refine r_takeg (i := 17) (b := ((!decide ([((z.1.toList ++ if x.d.1 % n = 0 then [mine] else []).getD y.d default).ID, ((z.1.toList ++ if x.d.1 % n = 0 then [mine] else []).getD y.d default).Epoch, ((z.1.toList ++ if x.d.1 % n = 0 then [mine] else []).getD y.d default).Cluster, ((z.1.toList ++ if x.d.1 % n = 0 then [mine] else []).getD y.d default).Version] = [(⟨9, 1, 50, 0⟩ : Ord).ID, (⟨9, 1, 50, 0⟩ : Ord).Epoch, (⟨9, 1, 50, 0⟩ : Ord).Cluster, (⟨9, 1, 50, 0⟩ : Ord).Version])) && !(decide (((setL z.1).length : Int) < 2)))) (bs' := #[true, true, true, true, true, true, true, true, true, true, true, true, true, true, true, true, true, true, false, false, false]) rfl (by kernel_rfl) (by kernel_rfl) (by kernel_rfl) (fun _ _ _ h => h) rfl (ask_gf rfl rfl) (fun hb => OpQ.env (.cons rfl (gd_t hb) (.nil _) : EnvLe [(108, pe z.2.1 1 4 0)] _) (q_loadea (vs := encOrd ((setL z.1).getD 1 default)) (enc := encOrd) (xs := (setL z.1)) (j := 1) (off := 0) ag_30 rfl (rd_row (by repeat (first | exact Pick.here | apply Pick.there))) (fun _ => rfl) (by first | assumption | omega | (have hb2 := hb; (try simp only [Bool.and_eq_true, Bool.or_eq_true, Bool.not_eq_true', Bool.and_eq_false_iff, Bool.or_eq_false_iff, Bool.not_eq_false', decide_eq_true_eq, decide_eq_false_iff_not, Bool.not_eq_eq_eq_not, Bool.not_true, Bool.not_false, Bool.not_eq_true, Bool.not_eq_false, beq_iff_eq, bne_iff_ne, ne_eq, Decidable.not_not] at hb2); omega) | (simp only [List.length_cons, List.length_nil]; omega)) (by simp [encOrd]) (by simp [encOrd]) rfl)) (Hp.le_refl _) (by repeat (first | exact Ent.nil _ | exact Ent.refl _ | (refine Ent.pick (by repeat (first | exact Pick.here | apply Pick.there)) ?_) | refine Ent.skip ?_)) (by kernel_rfl) ?_
        refine r_takeg (i := 18) (b := ((!decide ([((z.1.toList ++ if x.d.1 % n = 0 then [mine] else []).getD y.d default).ID, ((z.1.toList ++ if x.d.1 % n = 0 then [mine] else []).getD y.d default).Epoch, ((z.1.toList ++ if x.d.1 % n = 0 then [mine] else []).getD y.d default).Cluster, ((z.1.toList ++ if x.d.1 % n = 0 then [mine] else []).getD y.d default).Version] = [(⟨9, 1, 50, 0⟩ : Ord).ID, (⟨9, 1, 50, 0⟩ : Ord).Epoch, (⟨9, 1, 50, 0⟩ : Ord).Cluster, (⟨9, 1, 50, 0⟩ : Ord).Version])) && !(decide (((setL z.1).length : Int) < 2)))) (bs' := #[true, true, true, true, true, true, true, true, true, true, true, true, true, true, true, true, true, true, true, false, false]) rfl (by kernel_rfl) (by kernel_rfl) (by kernel_rfl) (fun _ _ _ h => h) rfl (ask_gf rfl rfl) (fun hb => OpQ.env (.cons rfl (gd_t hb) (.cons rfl (gd_t hb) (.nil _)) : EnvLe [(106, .agg (encOrd ((z.1.toList ++ if x.d.1 % n = 0 then [mine] else []).getD y.d default)).toArray), (109, .agg (encOrd ((setL z.1).getD 1 default)).toArray)] _) (q_neqst (offs := [0, 1, 2, 3]) (la := [((z.1.toList ++ if x.d.1 % n = 0 then [mine] else []).getD y.d default).ID, ((z.1.toList ++ if x.d.1 % n = 0 then [mine] else []).getD y.d default).Epoch, ((z.1.toList ++ if x.d.1 % n = 0 then [mine] else []).getD y.d default).Cluster, ((z.1.toList ++ if x.d.1 % n = 0 then [mine] else []).getD y.d default).Version]) (lb := [((setL z.1).getD 1 default).ID, ((setL z.1).getD 1 default).Epoch, ((setL z.1).getD 1 default).Cluster, ((setL z.1).getD 1 default).Version]) (by kernel_rfl) rfl rfl (by intro o ho; simp only [List.mem_cons, List.not_mem_nil, or_false] at ho; rcases ho with rfl | rfl | rfl | rfl <;> exact ⟨_, _, _, rfl, rfl⟩) rfl rfl)) (Hp.le_refl _) (by repeat (first | exact Ent.nil _ | exact Ent.refl _ | (refine Ent.pick (by repeat (first | exact Pick.here | apply Pick.there)) ?_) | refine Ent.skip ?_)) (by kernel_rfl) ?_
        refine r_takeg (i := 19) (b := (!decide ([((z.1.toList ++ if x.d.1 % n = 0 then [mine] else []).getD y.d default).ID, ((z.1.toList ++ if x.d.1 % n = 0 then [mine] else []).getD y.d default).Epoch, ((z.1.toList ++ if x.d.1 % n = 0 then [mine] else []).getD y.d default).Cluster, ((z.1.toList ++ if x.d.1 % n = 0 then [mine] else []).getD y.d default).Version] = [(⟨9, 1, 50, 0⟩ : Ord).ID, (⟨9, 1, 50, 0⟩ : Ord).Epoch, (⟨9, 1, 50, 0⟩ : Ord).Cluster, (⟨9, 1, 50, 0⟩ : Ord).Version]))) (bs' := #[true, true, true, true, true, true, true, true, true, true, true, true, true, true, true, true, true, true, true, true, false]) rfl (by kernel_rfl) (by kernel_rfl) (by kernel_rfl) (fun _ _ _ h => h) rfl (ask_t rfl rfl) (fun hb => OpQ.env (.cons rfl (gd_t hb) (.cons rfl rfl (.nil _)) : EnvLe [(102, .bool (decide (((setL z.1).length : Int) < 2))), (110, gd ((!decide ([((z.1.toList ++ if x.d.1 % n = 0 then [mine] else []).getD y.d default).ID, ((z.1.toList ++ if x.d.1 % n = 0 then [mine] else []).getD y.d default).Epoch, ((z.1.toList ++ if x.d.1 % n = 0 then [mine] else []).getD y.d default).Cluster, ((z.1.toList ++ if x.d.1 % n = 0 then [mine] else []).getD y.d default).Version] = [(⟨9, 1, 50, 0⟩ : Ord).ID, (⟨9, 1, 50, 0⟩ : Ord).Epoch, (⟨9, 1, 50, 0⟩ : Ord).Cluster, (⟨9, 1, 50, 0⟩ : Ord).Version])) && !(decide (((setL z.1).length : Int) < 2))) (.bool (!decide ([((z.1.toList ++ if x.d.1 % n = 0 then [mine] else []).getD y.d default).ID, ((z.1.toList ++ if x.d.1 % n = 0 then [mine] else []).getD y.d default).Epoch, ((z.1.toList ++ if x.d.1 % n = 0 then [mine] else []).getD y.d default).Cluster, ((z.1.toList ++ if x.d.1 % n = 0 then [mine] else []).getD y.d default).Version] = [((setL z.1).getD 1 default).ID, ((setL z.1).getD 1 default).Epoch, ((setL z.1).getD 1 default).Cluster, ((setL z.1).getD 1 default).Version]))))] _) (q_pick_or rfl rfl rfl (fun h => by simp_all))) (Hp.le_refl _) (by repeat (first | exact Ent.nil _ | exact Ent.refl _ | (refine Ent.pick (by repeat (first | exact Pick.here | apply Pick.there)) ?_) | refine Ent.skip ?_)) (by kernel_rfl) ?_
        refine r_take (i := 20) (bs' := #[true, true, true, true, true, true, true, true, true, true, true, true, true, true, true, true, true, true, true, true, true]) rfl (by kernel_rfl) (by kernel_rfl) (by kernel_rfl) (fun _ _ _ h => h) rfl wn (q_pick_and rfl rfl rfl (fun h => h)) (Hp.le_refl _) (by repeat (first | exact Ent.nil _ | exact Ent.refl _ | (refine Ent.pick (by repeat (first | exact Pick.here | apply Pick.there)) ?_) | refine Ent.skip ?_)) (by kernel_rfl) ?_
        refine r_done (by kernel_rfl) ?_
        refine k_then_n ?_
        refine c_sure false rfl (chk_ok (by omega)) ?_
        simp only [Bool.false_eq_true, if_true, if_false]
        refine c_skip ?_
        refine k_blk_n ?_
        refine k_then_n ?_
        refine c_region ?_
        refine l_step (s_q rfl wn (q_move rfl) ?_)
        refine l_step (s_q rfl wn (q_add rfl rfl (by omega) (by omega)) ?_)
        refine l_step (s_q rfl wn (q_assign rfl) ?_)
        refine l_nil ?_
        refine k_then_n ?_
        exact t_next (⟨y.d + 1, none, 0, none, 0, none, 0⟩ : Lp _) ⟨by simp only []; omega, by simp only []; omega⟩ (.cons rfl (by first | rfl | exact inte (by omega) | (simp; done) | (simp <;> omega) | simp [*]) (.cons rfl (by first | rfl | exact inte (by omega) | (simp; done) | (simp <;> omega) | simp [*]) (.cons rfl (by first | rfl | exact inte (by omega) | (simp; done) | (simp <;> omega) | simp [*]) (.cons rfl (by first | rfl | exact inte (by omega) | (simp; done) | (simp <;> omega) | simp [*]) (.cons rfl (by first | rfl | exact inte (by omega) | (simp; done) | (simp <;> omega) | simp [*]) (.cons rfl (by first | rfl | exact inte (by omega) | (simp; done) | (simp <;> omega) | simp [*]) (.cons rfl (by first | rfl | exact inte (by omega) | (simp; done) | (simp <;> omega) | simp [*]) (.cons rfl (by first | rfl | exact inte (by omega) | (simp; done) | (simp <;> omega) | simp [*]) (.cons rfl (boole (fnd_succ _ _ (by omega)).symm) (.cons rfl (by first | rfl | exact inte (by omega) | (simp; done) | (simp <;> omega) | simp [*]) (.cons rfl (by first | rfl | exact inte (by omega) | (simp; done) | (simp <;> omega) | simp [*]) (.cons rfl (by first | rfl | exact inte (by omega) | (simp; done) | (simp <;> omega) | simp [*]) (.cons rfl (by first | rfl | exact inte (by omega) | (simp; done) | (simp <;> omega) | simp [*]) (.cons rfl (by first | rfl | exact inte (by omega) | (simp; done) | (simp <;> omega) | simp [*]) (.cons rfl (by first | rfl | exact inte (by omega) | (simp; done) | (simp <;> omega) | simp [*]) (.cons rfl (by first | rfl | exact inte (by omega) | (simp; done) | (simp <;> omega) | simp [*]) (.cons rfl (by first | rfl | exact inte (by omega) | (simp; done) | (simp <;> omega) | simp [*]) (.cons rfl (by first | rfl | exact inte (by omega) | (simp; done) | (simp <;> omega) | simp [*]) (.cons rfl (by first | rfl | exact inte (by omega) | (simp; done) | (simp <;> omega) | simp [*]) (.cons rfl (by first | rfl | exact inte (by omega) | (simp; done) | (simp <;> omega) | simp [*]) (.cons rfl (by first | rfl | exact inte (by omega) | (simp; done) | (simp <;> omega) | simp [*]) (.cons rfl (by first | rfl | exact inte (by omega) | (simp; done) | (simp <;> omega) | simp [*]) (.cons rfl (by first | rfl | exact inte (by omega) | (simp; done) | (simp <;> omega) | simp [*]) (.nil _)))))))))))))))))))))))) (by repeat (first | exact Ent.nil _ | exact Ent.refl _ | (refine Ent.pick (by repeat (first | exact Pick.here | apply Pick.there)) ?_) | refine Ent.skip ?_))
      · try simp only [Bool.and_eq_true, Bool.or_eq_true, Bool.not_eq_true', Bool.and_eq_false_iff, Bool.or_eq_false_iff, Bool.not_eq_false', decide_eq_true_eq, decide_eq_false_iff_not, Bool.not_eq_eq_eq_not, Bool.not_true, Bool.not_false, Bool.not_eq_true, Bool.not_eq_false, beq_iff_eq, bne_iff_ne, ne_eq, Decidable.not_not] at h4
        have hk : y.d = (z.1.toList ++ if x.d.1 % n = 0 then [mine] else []).length := by omega
        refine c_exit ?_
        refine k_then_x ?_
        refine k_then_x ?_
        refine k_blk_x ?_
        refine k_then_n ?_
        refine c_seq ?_
        refine c_region ?_
        refine l_step (s_q rfl wn (q_move rfl) ?_)
        refine l_step (s_q rfl wn (q_move rfl) ?_)
        refine l_step (s_q rfl wn (q_move rfl) ?_)
        refine l_step (s_q rfl wn (q_remn (m := x.d.1) (q := n) rfl rfl rfl rfl (by omega)) ?_)
        refine l_step (s_q rfl wn (q_eql rfl rfl) ?_)
        refine l_step (s_q rfl wn (q_neqb rfl rfl Try.underlying4) ?_)
        refine l_nil ?_
        refine k_then_n ?_
        refine c_sure false rfl (by rw [hk, List.take_length, fnd_all hO]; exact mod_dec _ _) ?_
        simp only [Bool.false_eq_true, if_true, if_false]
        refine c_skip ?_
        refine k_blk_n ?_
        refine k_then_n ?_
        refine c_region ?_
        refine l_step (s_q rfl wn (q_move rfl) ?_)
        refine l_step (s_q rfl wn (q_add rfl rfl (by omega) (by omega)) ?_)
        refine l_step (s_q rfl wn (q_assign rfl) ?_)
        refine l_nil ?_
        refine k_then_n ?_
        exact t_next (⟨(x.d.1 + 1, (tickF ((x.d.1 : Int) + 1) n (setF x.d.2.1 (setL z.1))).1, bo74), none, 0, none, 0, none, 0⟩ : Lp _) ⟨⟨by simp only []; omega, hAg⟩, by simp only []; omega⟩ (.cons rfl (by first | rfl | exact inte (by omega) | (simp; done) | (simp <;> omega) | simp [*]) (.cons rfl (by first | rfl | exact inte (by omega) | (simp; done) | (simp <;> omega) | simp [*]) (.cons rfl (by first | rfl | exact inte (by omega) | (simp; done) | (simp <;> omega) | simp [*]) (.cons rfl (by first | rfl | exact inte (by omega) | (simp; done) | (simp <;> omega) | simp [*]) (.cons rfl (by first | rfl | exact inte (by omega) | (simp; done) | (simp <;> omega) | simp [*]) (.cons rfl (by first | rfl | exact inte (by omega) | (simp; done) | (simp <;> omega) | simp [*]) (.nil _))))))) (by repeat (first | exact Ent.nil _ | exact Ent.refl _ | (refine Ent.pick (by repeat (first | exact Pick.here | apply Pick.there)) ?_) | refine Ent.skip ?_))
    · try simp only [Bool.and_eq_true, Bool.or_eq_true, Bool.not_eq_true', Bool.and_eq_false_iff, Bool.or_eq_false_iff, Bool.not_eq_false', decide_eq_true_eq, decide_eq_false_iff_not, Bool.not_eq_eq_eq_not, Bool.not_true, Bool.not_false, Bool.not_eq_true, Bool.not_eq_false, beq_iff_eq, bne_iff_ne, ne_eq, Decidable.not_not] at h2
      refine c_exit ?_
      refine k_then_x ?_
      refine k_then_x ?_
      refine k_blk_x ?_
      refine k_then_n ?_
      refine c_seq ?_
      refine c_region ?_
      refine l_step (s_q rfl wn (q_move rfl) ?_)
      refine l_step (s_fnb rfl wn Try.func13 rfl (by kernel_rfl) rfl (by repeat (first | exact Sel.nil | exact Pick.here | apply Sel.cons | apply Pick.there)) (fun ρ' hL => set_spec bN (⟨(n : Int), (x.d.1 : Int), x.d.2.2, btN, x.d.2.1, []⟩ : DD) none 0 0 [] (by first | rfl | simp) ρ' (by first | omega | decide | (simp <;> omega)) (Ro.nil _ _)) ?_)
      rintro _ _ ⟨bo120, rfl, rfl⟩
      try simp only [List.cons_append, List.nil_append]
      refine l_nil ?_
      refine k_then_n ?_
      refine c_seq ?_
      refine c_region ?_
      refine l_step (s_q rfl wn (q_move rfl) ?_)
      refine l_step (s_fnb rfl wn Try.func15 rfl (by kernel_rfl) rfl (by repeat (first | exact Sel.nil | exact Pick.here | apply Sel.cons | apply Pick.there)) (fun ρ' hL => tick_spec bN (⟨(n : Int), (x.d.1 : Int), bo120, btN, [], []⟩ : DD) ρ' (out_nil _) (show (0 : Int) ≤ (x.d.1 : Int) ∧ (x.d.1 : Int) ≤ 1000000 from ⟨by omega, by omega⟩)) ?_)
      rintro _ _ ⟨a122, c122, rfl, rfl⟩
      try simp only [List.cons_append, List.nil_append]
      have htn : ∀ a b, tickF a b [] = ([], []) := tick_nil
      simp only [htn, List.length_nil]
      refine l_step (s_q rfl wn (q_len Try.underlying40 rfl) ?_)
      refine l_step (s_q rfl wn (q_eql rfl rfl) ?_)
      refine l_step (s_q rfl wn (q_move rfl) ?_)
      refine Tr.env (.cons (t := 125) (v := .bool true) rfl (congrArg Value.bool (by rfl)) (EnvLe.refl _)) ?_
      refine l_step (s_q rfl (wy rfl rfl rfl) (q_move rfl) ?_)
      refine l_step (s_fnb rfl (wy rfl rfl rfl) Try.func21 rfl (by kernel_rfl) rfl (by repeat (first | exact Sel.nil | exact Pick.here | apply Sel.cons | apply Pick.there)) (fun ρ' hL => out_spec bN (⟨(n : Int), ((x.d.1 : Int) + 1), bo120, btN, [], []⟩ : DD) ρ' (fun k hk => by cases hk) (show ([] : OM).length ≤ 1000000000 from by decide)) ?_)
      rintro _ _ ⟨a127, c127, rfl, rfl⟩
      try simp only [List.cons_append, List.nil_append]
      refine l_step (s_q rfl (wy rfl rfl rfl) (q_len Try.underlying40 rfl) ?_)
      refine l_step (s_q rfl (wy rfl rfl rfl) (q_eql rfl rfl) ?_)
      refine l_step (s_q rfl wn (q_pick rfl rfl rfl) ?_)
      refine l_step (s_q rfl wn (q_assign rfl) ?_)
      refine l_nil ?_
      refine k_then_n ?_
      refine c_ret ?_
      exact t_ret [] rfl (.tmp rfl .nil) rfl (Hp.le_refl _) ⟨rfl, boole (by rfl), rfl⟩ (by (repeat refine Ent.skip ?_); exact Ent.refl _)
end Go.Dsp.B

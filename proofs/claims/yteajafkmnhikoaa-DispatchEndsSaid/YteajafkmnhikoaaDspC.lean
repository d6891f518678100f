/-
  Laws over dispatch, walked.
-/
import Derived.Test.YteajafkmnhikoaaDspA
import Derived.Test.YteajafkmnhikoaaDspE
import Derived.Test.YteajafkmnhikoaaDspQ
import Derived.Test.YteajafkmnhikoaaDspL
import Derived.Test.YteajafkmnhikoaaProg
set_option maxRecDepth 100000
set_option maxHeartbeats 4000000
set_option linter.unusedSimpArgs false
set_option linter.unusedVariables false
namespace Go.Dsp.C
open Go Go.SL Go.Proofs Go.Dsp Go.Dsp.L Go.Dsp.A
attribute [local irreducible] Go.SL.Ent
theorem eo_30 : elemOk Try.prog 30 4 32 = true := by kernel_rfl
theorem eo_34 : elemOk Try.prog 34 6 48 = true := by kernel_rfl
theorem fo_39_0 : fieldOff Try.prog 39 0 = some (0, 3) := by kernel_rfl
theorem fo_39_1 : fieldOff Try.prog 39 1 = some (1, 3) := by kernel_rfl
theorem fo_39_2 : fieldOff Try.prog 39 2 = some (2, 3) := by kernel_rfl
theorem pl_30 : placesOf Try.prog 30 = some [(0, 1), (1, 1), (2, 1), (3, 1)] := by kernel_rfl
theorem pl_34 : placesOf Try.prog 34 = some [(0, 1), (1, 1), (2, 1), (3, 1), (4, 1), (5, 1)] := by kernel_rfl
theorem sc_3 : isScalar Try.prog 3 = true := by kernel_rfl
theorem sz_3 : sizeIs Try.prog 3 = some 1 := by kernel_rfl
theorem sz_39 : sizeIs Try.prog 39 = some 7 := by kernel_rfl
theorem zc_30 : zeroCs Try.prog 30 = some [.int .i64 0, .int .i64 0, .int .i64 0, .int .i64 0] := by kernel_rfl
theorem zc_34 : zeroCs Try.prog 34 = some [.int .i64 0, .int .i64 0, .int .i64 0, .int .i64 0, .int .i64 0, .bool false] := by kernel_rfl

theorem ends_spec (span : Int) (reports_a : Option Addr) (reports_n reports_c : Nat) (reports : List Int) (hreports_n : reports.length = reports_n) (ticks : Int) (ρ : Hp) (hro : Ro ρ 1 reports_a reports_n reports_c (reports.flatMap encI)) : Spec0 Try.prog 3 #[.int .i64 span, .slice reports_a reports_n reports_c, .int .i64 ticks] ρ [] (fun v Γ' => v = .bool true ∧ Γ' = []) := by
  refine spec_of (n := 138) (vs := [_, _, _]) (σ := [(0, _), (1, _), (2, _)]) Try.func3 rfl rfl rfl rfl fun E Δ => ?_
  rw [List.nil_append]
  refine c_seq ?_
  refine c_region ?_
  refine l_step (s_q rfl wn (q_assign rfl) ?_)
  refine l_nil ?_
  refine k_then_n ?_
  refine c_seq ?_
  refine c_seq ?_
  refine c_region ?_
  refine l_step (s_fnq rfl wn Try.func11 rfl (by kernel_rfl) rfl (fun ρ' hL => awake_spec  ρ') ?_)
  refine l_step (s_q rfl wn (q_not rfl) ?_)
  refine l_step (s_q rfl wn (q_move rfl) ?_)
  refine l_step (s_q rfl (wy rfl rfl rfl) (q_move rfl) ?_)
  refine l_step (s_q rfl (wy rfl rfl rfl) (q_len Try.underlying22 rfl) ?_)
  refine l_step (s_q rfl (wy rfl rfl rfl) (q_gtr rfl rfl) ?_)
  refine l_step (s_q rfl wn (q_pick rfl rfl rfl) ?_)
  refine l_nil ?_
  refine k_then_n ?_
  refine c_cond rfl (fun h0 => ?_) (fun h0 => ?_)
  · try simp only [Bool.and_eq_true, Bool.or_eq_true, Bool.not_eq_true', Bool.and_eq_false_iff, Bool.or_eq_false_iff, Bool.not_eq_false', decide_eq_true_eq, decide_eq_false_iff_not, Bool.not_eq_eq_eq_not, Bool.not_true, Bool.not_false, Bool.not_eq_true, Bool.not_eq_false, beq_iff_eq, bne_iff_ne, ne_eq, Decidable.not_not] at h0
    refine c_seq ?_
    refine c_region ?_
    refine l_step (s_fnq rfl wn Try.func11 rfl (by kernel_rfl) rfl (fun ρ' hL => awake_spec  ρ') ?_)
    refine l_step (s_q rfl wn (q_assign rfl) ?_)
    refine l_nil ?_
    refine k_then_n ?_
    refine c_ret ?_
    refine k_then_r ?_
    exact t_ret [] rfl (.tmp rfl .nil) rfl (Hp.le_refl _) ⟨rfl, boole (by rfl), rfl⟩ (by (repeat refine Ent.skip ?_); exact Ent.refl _)
  · try simp only [Bool.and_eq_true, Bool.or_eq_true, Bool.not_eq_true', Bool.and_eq_false_iff, Bool.or_eq_false_iff, Bool.not_eq_false', decide_eq_true_eq, decide_eq_false_iff_not, Bool.not_eq_eq_eq_not, Bool.not_true, Bool.not_false, Bool.not_eq_true, Bool.not_eq_false, beq_iff_eq, bne_iff_ne, ne_eq, Decidable.not_not] at h0
    refine c_skip ?_
    refine k_then_n ?_
    refine c_seq ?_
    refine c_region ?_
    have m1 := Int.tmod_lt_of_pos span (show (0 : Int) < 10 by decide)
    have m2 := Int.lt_tmod_of_pos span (show (0 : Int) < 10 by decide)
    have m3 := Int.tmod_lt_of_pos ticks (show (0 : Int) < 30 by decide)
    have m4 := Int.lt_tmod_of_pos ticks (show (0 : Int) < 30 by decide)
    refine l_step (s_q rfl wn (q_move rfl) ?_)
    refine l_step (s_q rfl wn (q_rem rfl rfl (by omega)) ?_)
    refine l_step (s_q rfl wn (q_add rfl rfl (by omega) (by omega)) ?_)
    refine l_step (s_q rfl wn (q_remp rfl rfl (by omega) (by omega)) ?_)
    refine l_step (s_q rfl wn (q_add rfl rfl (by omega) (by omega)) ?_)
    refine l_step (s_q rfl wn (q_assign rfl) ?_)
    refine l_nil ?_
    refine k_then_n ?_
    refine c_seq ?_
    refine c_region ?_
    obtain ⟨n, hn⟩ : ∃ k : Nat, (1 + ((span.tmod 10) + 10) % 10 : Int) = (k : Int) := ⟨_, (Int.toNat_of_nonneg (by omega)).symm⟩
    rw [hn]
    have hn1 : 0 < n := by omega
    have hn2 : n ≤ 10 := by omega
    refine l_step (s_q rfl wn (q_move rfl) ?_)
    refine l_step (s_fnb rfl wn Try.func12 rfl (by kernel_rfl) rfl (by repeat (first | exact Sel.nil | exact Pick.here | apply Sel.cons | apply Pick.there)) (fun ρ' hL => new_spec (n : Int) ρ') ?_)
    rintro _ _ hnew
    obtain ⟨hsp, bN, boN, btN, rfl, rfl⟩ := hnew.resolve_right (fun h => h.1 ⟨by omega, by omega⟩)
    try simp only [List.cons_append, List.nil_append]
    refine l_step (s_q rfl wn (q_move rfl) ?_)
    refine l_step (s_q rfl wn (q_extract rfl rfl) ?_)
    refine l_step (s_q rfl wn (q_extract rfl rfl) ?_)
    refine l_step (s_q rfl wn (q_assign rfl) ?_)
    refine l_step (s_q rfl wn (q_assign rfl) ?_)
    refine l_nil ?_
    refine k_then_n ?_
    refine c_seq ?_
    refine c_seq ?_
    refine c_region ?_
    refine l_step (s_q rfl wn (q_move rfl) ?_)
    refine l_step (s_q rfl wn (by first | exact q_eqlp rfl rfl Try.underlying24 | exact q_eqlp0 rfl rfl Try.underlying24) ?_)
    refine l_step (s_q rfl wn (q_move rfl) ?_)
    refine l_step (s_q rfl (wy rfl rfl rfl) (q_move rfl) ?_)
    refine l_step (s_q rfl (wy rfl rfl rfl) (q_neq rfl rfl) ?_)
    refine l_step (s_q rfl wn (q_pick rfl rfl rfl) ?_)
    refine l_nil ?_
    refine k_then_n ?_
    refine c_sure false rfl (by rfl) ?_
    simp only [Bool.false_eq_true, if_true, if_false]
    refine c_skip ?_
    refine k_then_n ?_
    refine c_seq ?_
    refine c_region ?_
    refine l_step (s_q rfl wn (q_move rfl) ?_)
    refine l_step (s_q rfl wn (q_build (cs := encOrd (⟨5, 0, 1, 0⟩ : Ord)) zc_30 pl_30 rfl rfl) ?_)
    refine l_step (s_q rfl wn (q_build (cs := encOrd (⟨6, 0, 2, 0⟩ : Ord)) zc_30 pl_30 rfl rfl) ?_)
    refine l_step (s_s rfl wn (s_buildSlice (cs := ([(⟨5, 0, 1, 0⟩ : Ord), (⟨6, 0, 2, 0⟩ : Ord)] : List Ord).flatMap encOrd) Try.underlying40 eo_30 rfl rfl rfl rfl (by decide) (by decide)) ?_)
    rintro _ _ ⟨b43, rfl, rfl⟩
    refine l_step (s_fnb rfl wn Try.func13 rfl (by kernel_rfl) rfl (by repeat (first | exact Sel.nil | exact Pick.here | apply Sel.cons | apply Pick.there)) (fun ρ' hL => set_spec bN (⟨(n : Int), 0, boN, btN, [], []⟩ : DD) (some ⟨b43, 0, none⟩) 2 2 [(⟨5, 0, 1, 0⟩ : Ord), (⟨6, 0, 2, 0⟩ : Ord)] (by first | rfl | simp) ρ' (by first | omega | decide | (simp <;> omega)) (by first | exact hL.ro (by assumption) | exact hL.row (by repeat (first | exact Pick.here | apply Pick.there)) | assumption)) ?_)
    rintro _ _ ⟨bo44, rfl, rfl⟩
    try simp only [List.cons_append, List.nil_append]
    refine l_nil ?_
    refine k_then_n ?_
    refine c_seq ?_
    refine c_region ?_
    refine l_step (s_q rfl wn (q_assign rfl) ?_)
    refine l_nil ?_
    refine k_then_n ?_
    refine c_seq ?_
    refine c_seq ?_
    refine c_region ?_
    refine l_step (s_q rfl wn (q_assign rfl) ?_)
    refine l_nil ?_
    refine k_then_n ?_
    refine c_block ?_
    refine Tr.env (σ' := [(1, _), (2, _), (7, _), (8, _), (10, _), (11, _)]) (.cons rfl rfl (.cons rfl rfl (.cons rfl rfl (.cons rfl rfl (.cons rfl rfl (.cons rfl rfl (.nil _))))))) ?_
    refine t_loop (ι := Lp (Nat × Int × Int × Int × TM)) (fun x => x.d.1 ≤ reports_n ∧ EnT x.d.2.1 x.d.2.2.2.2 ∧ OutOk (x.d.1 : Int) (EO x.d.2.2.1 x.d.2.2.2.1) ∧ -1 ≤ x.d.2.1 ∧ x.d.2.1 ≤ x.d.1) (fun x => reports_n - x.d.1) (fun x => [(1, .slice reports_a reports_n reports_c), (2, .int .i64 ticks), (7, .int .i64 (n : Int)), (8, .pointer (some ⟨bN, 0, none⟩)), (10, .int .i64 x.d.2.1), (11, .int .i64 (x.d.1 : Int))]) (fun x => .row 30 4 (some ⟨b43, 0, none⟩) 2 2 ([(⟨5, 0, 1, 0⟩ : Ord), (⟨6, 0, 2, 0⟩ : Ord)].flatMap encOrd) :: MP (Value.int .i64) (aggV encTold) btN x.d.2.2.2.2 :: MP (Value.int .i64) (aggV encSent) bo44 (EO x.d.2.2.1 x.d.2.2.2.1) :: .pts bN (encDisp (⟨(n : Int), (x.d.1 : Int), (some bo44), (some btN)⟩ : Disp)) 98 :: Δ) (⟨(0, -1, -1, -1, []), none, 0, none, 0, none, 0⟩ : Lp _) ⟨Nat.zero_le _, .inl ⟨rfl, rfl⟩, e0_ok, by decide, by decide⟩ ?_ ?_ ?_
    · exact .cons rfl (by first | rfl | exact inte (by omega) | (simp; done) | (simp <;> omega) | simp [*]) (.cons rfl (by first | rfl | exact inte (by omega) | (simp; done) | (simp <;> omega) | simp [*]) (.cons rfl (by first | rfl | exact inte (by omega) | (simp; done) | (simp <;> omega) | simp [*]) (.cons rfl (by first | rfl | exact inte (by omega) | (simp; done) | (simp <;> omega) | simp [*]) (.cons rfl (by first | rfl | exact inte (by omega) | (simp; done) | (simp <;> omega) | simp [*]) (.cons rfl (by first | rfl | exact inte (by omega) | (simp; done) | (simp <;> omega) | simp [*]) (.nil _))))))
    · exact (by repeat (first | exact Ent.nil _ | exact Ent.refl _ | (refine Ent.pick (by repeat (first | exact Pick.here | apply Pick.there)) ?_) | refine Ent.skip ?_))
    intro x hx
    obtain ⟨hx1, hE, hok, hl1, hl2⟩ := hx
    refine c_seq ?_
    refine c_seq ?_
    refine c_region ?_
    refine l_step (s_q rfl wn (q_move rfl) ?_)
    refine l_step (s_q rfl wn (q_move rfl) ?_)
    refine l_step (s_q rfl wn (q_len Try.underlying22 rfl) ?_)
    refine l_step (s_q rfl wn (q_lss rfl rfl) ?_)
    refine l_nil ?_
    refine k_then_n ?_
    refine c_cond rfl (fun h2 => ?_) (fun h2 => ?_)
    · try simp only [Bool.and_eq_true, Bool.or_eq_true, Bool.not_eq_true', Bool.and_eq_false_iff, Bool.or_eq_false_iff, Bool.not_eq_false', decide_eq_true_eq, decide_eq_false_iff_not, Bool.not_eq_eq_eq_not, Bool.not_true, Bool.not_false, Bool.not_eq_true, Bool.not_eq_false, beq_iff_eq, bne_iff_ne, ne_eq, Decidable.not_not] at h2
      refine c_skip ?_
      refine k_then_n ?_
      refine c_seq ?_
      refine c_block ?_
      refine c_seq ?_
      refine c_region ?_
      refine l_step (s_q rfl wn (q_move rfl) ?_)
      refine l_step (s_q rfl wn (q_move rfl) ?_)
      refine l_step (s_q rfl wn (q_indexe x.d.1 Try.underlying22 sz_3 rfl rfl (by first | assumption | exact rd_ro (by assumption) | exact rd_row (by repeat (first | exact Pick.here | apply Pick.there))) (by decide) rfl (by first | assumption | omega | (simp only [List.length_cons, List.length_nil]; omega))) ?_)
      refine l_step (s_q rfl wn (q_loade (enc := encI) (xs := reports) (j := x.d.1) (off := 0) sc_3 rfl (by first | assumption | exact rd_ro (by assumption) | exact rd_row (by repeat (first | exact Pick.here | apply Pick.there))) (fun _ => rfl) (by first | assumption | omega | (simp only [List.length_cons, List.length_nil]; omega)) (by decide) rfl) ?_)
      have m5 := Int.tmod_lt_of_pos (reports.getD x.d.1 default) (show (0 : Int) < 8 by decide)
      have m6 := Int.lt_tmod_of_pos (reports.getD x.d.1 default) (show (0 : Int) < 8 by decide)
      refine l_step (s_q rfl wn (q_rem rfl rfl (by omega)) ?_)
      refine l_step (s_q rfl wn (q_add rfl rfl (by omega) (by omega)) ?_)
      refine l_step (s_q rfl wn (q_remp rfl rfl (by omega) (by omega)) ?_)
      refine l_step (s_q rfl wn (q_assign rfl) ?_)
      refine l_nil ?_
      refine k_then_n ?_
      refine c_seq ?_
      refine c_region ?_
      refine l_step (s_q rfl wn (q_move rfl) ?_)
      refine l_step (s_q rfl wn (q_move rfl) ?_)
      refine l_step (s_q rfl wn (q_build (cs := encRep_ (⟨1, ((((reports.getD x.d.1 default).tmod 8) + 8) % 8), 0, 0, 0, false⟩ : Rep_)) zc_34 pl_34 rfl rfl) ?_)
      refine l_step (s_s rfl wn (s_buildSlice (cs := ([(⟨1, ((((reports.getD x.d.1 default).tmod 8) + 8) % 8), 0, 0, 0, false⟩ : Rep_)] : List Rep_).flatMap encRep_) Try.underlying49 eo_34 rfl rfl rfl rfl (by decide) (by decide)) ?_)
      rintro _ _ ⟨b61, rfl, rfl⟩
      refine l_step (s_fnb rfl wn Try.func14 rfl (by kernel_rfl) rfl (by repeat (first | exact Sel.nil | exact Pick.here | apply Sel.cons | apply Pick.there)) (fun ρ' hL => hear_spec bN (⟨(n : Int), (x.d.1 : Int), bo44, btN, (EO x.d.2.2.1 x.d.2.2.2.1), x.d.2.2.2.2⟩ : DD) (some ⟨b61, 0, none⟩) 1 1 [(⟨1, ((((reports.getD x.d.1 default).tmod 8) + 8) % 8), 0, 0, 0, false⟩ : Rep_)] (by first | rfl | simp) ρ' hok (hE.ok (i := (x.d.1 : Int)) (by omega) (by omega)) (show (0 : Int) ≤ (x.d.1 : Int) ∧ (x.d.1 : Int) ≤ 1000000 from ⟨by omega, by omega⟩) (rp_ok1 1 _ (.inl rfl)) (by first | omega | decide | simp) (by first | exact hL.ro (by assumption) | exact hL.row (by repeat (first | exact Pick.here | apply Pick.there)) | assumption)) ?_)
      rintro _ _ ⟨a62, c62, rfl, rfl⟩
      try simp only [List.cons_append, List.nil_append]
      have hh := (ends_hear (i := (x.d.1 : Int)) (n := n) (a := x.d.2.2.1) (b := x.d.2.2.2.1) (id := ((((reports.getD x.d.1 default).tmod 8) + 8) % 8)) hE).resolve_right (by omega)
      have hh' : hearF (x.d.1 : Int) n (EO x.d.2.2.1 x.d.2.2.2.1) x.d.2.2.2.2 [(⟨1, ((((reports.getD x.d.1 default).tmod 8) + 8) % 8), 0, 0, 0, false⟩ : Rep_)] = _ := hh
      simp only [hh']
      refine l_step (s_q rfl wn (q_assign rfl) ?_)
      refine l_nil ?_
      refine k_then_n ?_
      refine c_seq ?_
      refine c_region ?_
      refine l_step (s_q rfl wn (q_move rfl) ?_)
      refine l_step (s_q rfl wn (q_eql rfl rfl) ?_)
      refine l_step (s_q rfl wn (q_move rfl) ?_)
      refine l_step (s_qg rfl (ask_t rfl rfl) (b := (decide (((((reports.getD x.d.1 default).tmod 8) + 8) % 8) = 5))) (fun hb => q_move rfl) ?_)
      refine l_step (s_qg rfl (ask_t rfl rfl) (b := (decide (((((reports.getD x.d.1 default).tmod 8) + 8) % 8) = 5))) (fun hb => OpQ.env (.cons rfl (gd_t hb) (.nil _) : EnvLe [(66, .int .i64 x.d.2.1)] _) (q_lss rfl rfl)) ?_)
      refine l_step (s_qg rfl (ask_t rfl rfl) (b := (decide (((((reports.getD x.d.1 default).tmod 8) + 8) % 8) = 5))) (fun hb => OpQ.env (.cons rfl (gd_t hb) (.nil _) : EnvLe [(67, .bool (decide (x.d.2.1 < 0)))] _) (q_move rfl)) ?_)
      refine l_step (s_qg rfl (ask_gf rfl rfl) (b := ((decide (((((reports.getD x.d.1 default).tmod 8) + 8) % 8) = 5)) && !(decide (x.d.2.1 < 0)))) (fun hb => q_move rfl) ?_)
      refine l_step (s_qg rfl (ask_gf rfl rfl) (b := ((decide (((((reports.getD x.d.1 default).tmod 8) + 8) % 8) = 5)) && !(decide (x.d.2.1 < 0)))) (fun hb => q_move rfl) ?_)
      refine l_step (s_qg rfl (ask_gf rfl rfl) (b := ((decide (((((reports.getD x.d.1 default).tmod 8) + 8) % 8) = 5)) && !(decide (x.d.2.1 < 0)))) (fun hb => OpQ.env (.cons rfl (gd_t hb) (.cons rfl (gd_t hb) (.nil _)) : EnvLe [(69, .int .i64 (x.d.1 : Int)), (70, .int .i64 x.d.2.1)] _) (q_sub rfl rfl (by first | omega | (have hb2 := hb; (try simp only [Bool.and_eq_true, Bool.or_eq_true, Bool.not_eq_true', Bool.and_eq_false_iff, Bool.or_eq_false_iff, Bool.not_eq_false', decide_eq_true_eq, decide_eq_false_iff_not, Bool.not_eq_eq_eq_not, Bool.not_true, Bool.not_false, Bool.not_eq_true, Bool.not_eq_false, beq_iff_eq, bne_iff_ne, ne_eq, Decidable.not_not] at hb2); omega)) (by first | omega | (have hb2 := hb; (try simp only [Bool.and_eq_true, Bool.or_eq_true, Bool.not_eq_true', Bool.and_eq_false_iff, Bool.or_eq_false_iff, Bool.not_eq_false', decide_eq_true_eq, decide_eq_false_iff_not, Bool.not_eq_eq_eq_not, Bool.not_true, Bool.not_false, Bool.not_eq_true, Bool.not_eq_false, beq_iff_eq, bne_iff_ne, ne_eq, Decidable.not_not] at hb2); omega)))) ?_)
      refine l_step (s_qg rfl (ask_gf rfl rfl) (b := ((decide (((((reports.getD x.d.1 default).tmod 8) + 8) % 8) = 5)) && !(decide (x.d.2.1 < 0)))) (fun hb => q_move rfl) ?_)
      refine l_step (s_qg rfl (ask_gf rfl rfl) (b := ((decide (((((reports.getD x.d.1 default).tmod 8) + 8) % 8) = 5)) && !(decide (x.d.2.1 < 0)))) (fun hb => OpQ.env (.cons rfl (gd_t hb) (.cons rfl (gd_t hb) (.nil _)) : EnvLe [(71, .int .i64 ((x.d.1 : Int) - x.d.2.1)), (72, .int .i64 (n : Int))] _) (q_geq rfl rfl)) ?_)
      refine l_step (s_qg rfl (ask_t rfl rfl) (b := (decide (((((reports.getD x.d.1 default).tmod 8) + 8) % 8) = 5))) (fun hb => OpQ.env (.cons rfl (gd_t hb) (.cons rfl rfl (.nil _)) : EnvLe [(68, .bool (decide (x.d.2.1 < 0))), (73, gd ((decide (((((reports.getD x.d.1 default).tmod 8) + 8) % 8) = 5)) && !(decide (x.d.2.1 < 0))) (.bool (decide ((n : Int) ≤ ((x.d.1 : Int) - x.d.2.1)))))] _) (q_pick_or rfl rfl rfl (fun h => by simp_all))) ?_)
      refine l_step (s_q rfl wn (q_pick_and rfl rfl rfl (fun h => h)) ?_)
      refine l_step (s_q rfl wn (q_assign rfl) ?_)
      refine l_nil ?_
      refine k_then_n ?_
      refine c_seq ?_
      refine c_seq ?_
      refine c_region ?_
      refine l_step (s_q rfl wn (q_move rfl) ?_)
      refine l_nil ?_
      refine k_then_n ?_
      refine c_cond rfl (fun h3 => ?_) (fun h3 => ?_)
      · skip
        have hT3 : tellB (x.d.1 : Int) n x.d.2.1 ((((reports.getD x.d.1 default).tmod 8) + 8) % 8) = true := h3
        have hid : ((((reports.getD x.d.1 default).tmod 8) + 8) % 8) = 5 := by have := hT3; unfold tellB at this; simp only [Bool.and_eq_true, decide_eq_true_eq] at this; exact this.1
        rw [show (if tellB (x.d.1 : Int) n x.d.2.1 ((((reports.getD x.d.1 default).tmod 8) + 8) % 8) = true then (x.d.1 : Int) else x.d.2.1) = (x.d.1 : Int) from if_pos hT3]
        rw [show (if tellB (x.d.1 : Int) n x.d.2.1 ((((reports.getD x.d.1 default).tmod 8) + 8) % 8) = true then [opD (rp 1 ((((reports.getD x.d.1 default).tmod 8) + 8) % 8))] else []) = [opD (rp 1 ((((reports.getD x.d.1 default).tmod 8) + 8) % 8))] from if_pos hT3]
        refine c_region ?_
        refine l_step (s_q rfl wn (q_move rfl) ?_)
        refine l_step (s_q rfl wn (q_assign rfl) ?_)
        refine l_nil ?_
        refine k_then_n ?_
        refine c_seq ?_
        refine c_seq ?_
        refine c_region ?_
        refine l_step (s_q rfl wn (q_move rfl) ?_)
        refine l_step (s_q rfl wn (q_move rfl) ?_)
        refine l_step (s_q rfl wn (q_len Try.underlying31 rfl) ?_)
        refine l_step (s_q rfl wn (q_eql rfl rfl) ?_)
        refine l_step (s_q rfl wn (q_neqb rfl rfl Try.underlying4) ?_)
        refine l_step (s_q rfl wn (q_move rfl) ?_)
        refine Tr.env (.cons (t := 83) (v := .bool false) rfl (congrArg Value.bool (by rw [show (decide (((((reports.getD x.d.1 default).tmod 8) + 8) % 8) = 5) && (decide (x.d.2.1 < 0) || decide ((n : Int) ≤ (x.d.1 : Int) - x.d.2.1))) = true from h3]; rfl)) (EnvLe.refl _)) ?_
        refine l_step (s_q rfl (wy rfl rfl rfl) (q_move rfl) ?_)
        refine l_step (s_q rfl (wy rfl rfl rfl) (q_move rfl) ?_)
        refine Tr.env (.cons (t := 85) (v := .bool true) rfl (congrArg Value.bool h3) (EnvLe.refl _)) ?_
        refine l_step (s_q rfl (wy rfl rfl rfl) (q_move rfl) ?_)
        refine l_step (s_q rfl (wy rfl rfl rfl) (q_indexe 0 Try.underlying31 sz_39 rfl rfl (rd_row (by repeat (first | exact Pick.here | apply Pick.there))) (by decide) rfl (by first | assumption | omega | (simp only [List.length_cons, List.length_nil]; omega))) ?_)
        refine l_step (s_q rfl (wy rfl rfl rfl) (q_fielde rfl fo_39_0) ?_)
        refine l_step (s_q rfl (wy rfl rfl rfl) (q_loade (enc := encOp1) (xs := [opD (rp 1 ((((reports.getD x.d.1 default).tmod 8) + 8) % 8))]) (j := 0) (off := 0) sc_3 rfl (rd_row (by repeat (first | exact Pick.here | apply Pick.there))) (fun _ => rfl) (by first | assumption | omega | (simp only [List.length_cons, List.length_nil]; omega)) (by decide) rfl) ?_)
        refine l_step (s_q rfl (wy rfl rfl rfl) (q_neq rfl rfl) ?_)
        refine l_step (s_q rfl (wy rfl rfl rfl) (q_move rfl) ?_)
        refine Tr.env (.cons (t := 91) (v := .bool false) rfl (congrArg Value.bool rfl) (EnvLe.refl _)) ?_
        refine l_step (s_q rfl (wy rfl rfl rfl) (q_move rfl) ?_)
        refine l_step (s_q rfl (wy rfl rfl rfl) (q_indexe 0 Try.underlying31 sz_39 rfl rfl (rd_row (by repeat (first | exact Pick.here | apply Pick.there))) (by decide) rfl (by first | assumption | omega | (simp only [List.length_cons, List.length_nil]; omega))) ?_)
        refine l_step (s_q rfl (wy rfl rfl rfl) (q_fielde rfl fo_39_1) ?_)
        refine l_step (s_q rfl (wy rfl rfl rfl) (q_loade (enc := encOp1) (xs := [opD (rp 1 ((((reports.getD x.d.1 default).tmod 8) + 8) % 8))]) (j := 0) (off := 1) sc_3 rfl (rd_row (by repeat (first | exact Pick.here | apply Pick.there))) (fun _ => rfl) (by first | assumption | omega | (simp only [List.length_cons, List.length_nil]; omega)) (by decide) rfl) ?_)
        refine l_step (s_q rfl (wy rfl rfl rfl) (q_neq rfl rfl) ?_)
        refine l_step (s_q rfl (wy rfl rfl rfl) (q_pick rfl rfl rfl) ?_)
        refine l_step (s_q rfl (wy rfl rfl rfl) (q_move rfl) ?_)
        refine Tr.env (.cons (t := 98) (v := .bool false) rfl (congrArg Value.bool rfl) (EnvLe.refl _)) ?_
        refine l_step (s_q rfl (wy rfl rfl rfl) (q_move rfl) ?_)
        refine l_step (s_q rfl (wy rfl rfl rfl) (q_indexe 0 Try.underlying31 sz_39 rfl rfl (rd_row (by repeat (first | exact Pick.here | apply Pick.there))) (by decide) rfl (by first | assumption | omega | (simp only [List.length_cons, List.length_nil]; omega))) ?_)
        refine l_step (s_q rfl (wy rfl rfl rfl) (q_fielde rfl fo_39_2) ?_)
        refine l_step (s_q rfl (wy rfl rfl rfl) (q_loade (enc := encOp1) (xs := [opD (rp 1 ((((reports.getD x.d.1 default).tmod 8) + 8) % 8))]) (j := 0) (off := 2) sc_3 rfl (rd_row (by repeat (first | exact Pick.here | apply Pick.there))) (fun _ => rfl) (by first | assumption | omega | (simp only [List.length_cons, List.length_nil]; omega)) (by decide) rfl) ?_)
        refine l_step (s_q rfl (wy rfl rfl rfl) (q_neq rfl rfl) ?_)
        refine l_step (s_q rfl (wy rfl rfl rfl) (q_pick rfl rfl rfl) ?_)
        refine l_step (s_q rfl (wy rfl rfl rfl) (q_pick rfl rfl rfl) ?_)
        refine l_step (s_q rfl wn (q_pick rfl rfl rfl) ?_)
        refine l_nil ?_
        refine k_then_n ?_
        refine c_sure false rfl (decide_eq_false (fun h => h hid)) ?_
        simp only [Bool.false_eq_true, if_true, if_false]
        refine c_skip ?_
        refine k_then_n ?_
        refine c_region ?_
        refine l_step (s_q rfl wn (q_move rfl) ?_)
        refine l_step (s_fnb rfl wn Try.func15 rfl (by kernel_rfl) rfl (by repeat (first | exact Sel.nil | exact Pick.here | apply Sel.cons | apply Pick.there)) (fun ρ' hL => tick_spec bN (⟨(n : Int), (x.d.1 : Int), bo44, btN, (EO x.d.2.2.1 x.d.2.2.2.1), [((1 : Int), tl (x.d.1 : Int))]⟩ : DD) ρ' hok (show (0 : Int) ≤ (x.d.1 : Int) ∧ (x.d.1 : Int) ≤ 1000000 from ⟨by omega, by omega⟩)) ?_)
        rintro _ _ ⟨a108, c108, rfl, rfl⟩
        try simp only [List.cons_append, List.nil_append]
        obtain ⟨a2, b2, he2⟩ := ends_tick ((x.d.1 : Int) + 1) n x.d.2.2.1 x.d.2.2.2.1
        have hok2 := tick_ok (now := (x.d.1 : Int) + 1) (span := n) hok.up (by omega)
        rw [he2] at hok2
        simp only [he2]
        refine l_nil ?_
        refine k_blk_n ?_
        refine k_then_n ?_
        refine c_region ?_
        refine l_step (s_q rfl wn (q_move rfl) ?_)
        refine l_step (s_q rfl wn (q_add rfl rfl (by omega) (by omega)) ?_)
        refine l_step (s_q rfl wn (q_assign rfl) ?_)
        refine l_nil ?_
        refine k_then_n ?_
        exact t_next (⟨(x.d.1 + 1, (x.d.1 : Int), a2, b2, [((1 : Int), tl (x.d.1 : Int))]), none, 0, none, 0, none, 0⟩ : Lp _) ⟨⟨by simp only []; omega, .inr rfl, hok2, by simp only []; omega, by simp only []; omega⟩, by simp only []; omega⟩ (.cons rfl (by first | rfl | exact inte (by omega) | (simp; done) | (simp <;> omega) | simp [*]) (.cons rfl (by first | rfl | exact inte (by omega) | (simp; done) | (simp <;> omega) | simp [*]) (.cons rfl (by first | rfl | exact inte (by omega) | (simp; done) | (simp <;> omega) | simp [*]) (.cons rfl (by first | rfl | exact inte (by omega) | (simp; done) | (simp <;> omega) | simp [*]) (.cons rfl (by first | rfl | exact inte (by omega) | (simp; done) | (simp <;> omega) | simp [*]) (.cons rfl (by first | rfl | exact inte (by omega) | (simp; done) | (simp <;> omega) | simp [*]) (.nil _))))))) (by repeat (first | exact Ent.nil _ | exact Ent.refl _ | (refine Ent.pick (by repeat (first | exact Pick.here | apply Pick.there)) ?_) | refine Ent.skip ?_))
      · skip
        have hT3 : tellB (x.d.1 : Int) n x.d.2.1 ((((reports.getD x.d.1 default).tmod 8) + 8) % 8) = false := h3
        rw [show (if tellB (x.d.1 : Int) n x.d.2.1 ((((reports.getD x.d.1 default).tmod 8) + 8) % 8) = true then (x.d.1 : Int) else x.d.2.1) = x.d.2.1 from if_neg (by rw [hT3]; decide)]
        rw [show (if tellB (x.d.1 : Int) n x.d.2.1 ((((reports.getD x.d.1 default).tmod 8) + 8) % 8) = true then [opD (rp 1 ((((reports.getD x.d.1 default).tmod 8) + 8) % 8))] else []) = ([] : List Op1) from if_neg (by rw [hT3]; decide)]
        refine c_skip ?_
        refine k_then_n ?_
        refine c_seq ?_
        refine c_seq ?_
        refine c_region ?_
        refine l_step (s_q rfl wn (q_move rfl) ?_)
        refine l_step (s_q rfl wn (q_move rfl) ?_)
        refine l_step (s_q rfl wn (q_len Try.underlying31 rfl) ?_)
        refine l_step (s_q rfl wn (q_eql rfl rfl) ?_)
        refine l_step (s_q rfl wn (q_neqb rfl rfl Try.underlying4) ?_)
        refine l_step (s_q rfl wn (q_move rfl) ?_)
        refine Tr.env (.cons (t := 83) (v := .bool false) rfl (congrArg Value.bool (by rw [show (decide (((((reports.getD x.d.1 default).tmod 8) + 8) % 8) = 5) && (decide (x.d.2.1 < 0) || decide ((n : Int) ≤ (x.d.1 : Int) - x.d.2.1))) = false from h3]; rfl)) (EnvLe.refl _)) ?_
        refine l_step (s_q rfl (wy rfl rfl rfl) (q_move rfl) ?_)
        refine l_step (s_q rfl (wy rfl rfl rfl) (q_move rfl) ?_)
        refine Tr.env (.cons (t := 85) (v := .bool false) rfl (congrArg Value.bool h3) (EnvLe.refl _)) ?_
        refine l_step (s_no rfl (wno rfl rfl (by decide)) ?_)
        refine l_step (s_no rfl (wno rfl rfl (by decide)) ?_)
        refine l_step (s_no rfl (wno rfl rfl (by decide)) ?_)
        refine l_step (s_no rfl (wno rfl rfl (by decide)) ?_)
        refine l_step (s_no rfl (wno rfl rfl (by decide)) ?_)
        refine l_step (s_no rfl (wno rfl rfl (by decide)) ?_)
        refine l_step (s_no rfl (wun rfl rfl) ?_)
        refine l_step (s_no rfl (wun rfl rfl) ?_)
        refine l_step (s_no rfl (wun rfl rfl) ?_)
        refine l_step (s_no rfl (wun rfl rfl) ?_)
        refine l_step (s_no rfl (wun rfl rfl) ?_)
        refine l_step (s_no rfl (wno rfl rfl (by decide)) ?_)
        refine l_step (s_no rfl (wno rfl rfl (by decide)) ?_)
        refine l_step (s_no rfl (wun rfl rfl) ?_)
        refine l_step (s_no rfl (wun rfl rfl) ?_)
        refine l_step (s_no rfl (wun rfl rfl) ?_)
        refine l_step (s_no rfl (wun rfl rfl) ?_)
        refine l_step (s_no rfl (wun rfl rfl) ?_)
        refine l_step (s_no rfl (wno rfl rfl (by decide)) ?_)
        refine l_step (s_q rfl (wy rfl rfl rfl) (q_pick rfl rfl rfl) ?_)
        refine l_step (s_q rfl wn (q_pick rfl rfl rfl) ?_)
        refine l_nil ?_
        refine k_then_n ?_
        refine c_no rfl ?_
        refine c_skip ?_
        refine k_then_n ?_
        refine c_region ?_
        refine l_step (s_q rfl wn (q_move rfl) ?_)
        refine l_step (s_fnb rfl wn Try.func15 rfl (by kernel_rfl) rfl (by repeat (first | exact Sel.nil | exact Pick.here | apply Sel.cons | apply Pick.there)) (fun ρ' hL => tick_spec bN (⟨(n : Int), (x.d.1 : Int), bo44, btN, (EO x.d.2.2.1 x.d.2.2.2.1), [((1 : Int), tl x.d.2.1)]⟩ : DD) ρ' hok (show (0 : Int) ≤ (x.d.1 : Int) ∧ (x.d.1 : Int) ≤ 1000000 from ⟨by omega, by omega⟩)) ?_)
        rintro _ _ ⟨a108, c108, rfl, rfl⟩
        try simp only [List.cons_append, List.nil_append]
        obtain ⟨a2, b2, he2⟩ := ends_tick ((x.d.1 : Int) + 1) n x.d.2.2.1 x.d.2.2.2.1
        have hok2 := tick_ok (now := (x.d.1 : Int) + 1) (span := n) hok.up (by omega)
        rw [he2] at hok2
        simp only [he2]
        refine l_nil ?_
        refine k_blk_n ?_
        refine k_then_n ?_
        refine c_region ?_
        refine l_step (s_q rfl wn (q_move rfl) ?_)
        refine l_step (s_q rfl wn (q_add rfl rfl (by omega) (by omega)) ?_)
        refine l_step (s_q rfl wn (q_assign rfl) ?_)
        refine l_nil ?_
        refine k_then_n ?_
        exact t_next (⟨(x.d.1 + 1, x.d.2.1, a2, b2, [((1 : Int), tl x.d.2.1)]), none, 0, none, 0, none, 0⟩ : Lp _) ⟨⟨by simp only []; omega, .inr rfl, hok2, by simp only []; omega, by simp only []; omega⟩, by simp only []; omega⟩ (.cons rfl (by first | rfl | exact inte (by omega) | (simp; done) | (simp <;> omega) | simp [*]) (.cons rfl (by first | rfl | exact inte (by omega) | (simp; done) | (simp <;> omega) | simp [*]) (.cons rfl (by first | rfl | exact inte (by omega) | (simp; done) | (simp <;> omega) | simp [*]) (.cons rfl (by first | rfl | exact inte (by omega) | (simp; done) | (simp <;> omega) | simp [*]) (.cons rfl (by first | rfl | exact inte (by omega) | (simp; done) | (simp <;> omega) | simp [*]) (.cons rfl (by first | rfl | exact inte (by omega) | (simp; done) | (simp <;> omega) | simp [*]) (.nil _))))))) (by repeat (first | exact Ent.nil _ | exact Ent.refl _ | (refine Ent.pick (by repeat (first | exact Pick.here | apply Pick.there)) ?_) | refine Ent.skip ?_))
    · try simp only [Bool.and_eq_true, Bool.or_eq_true, Bool.not_eq_true', Bool.and_eq_false_iff, Bool.or_eq_false_iff, Bool.not_eq_false', decide_eq_true_eq, decide_eq_false_iff_not, Bool.not_eq_eq_eq_not, Bool.not_true, Bool.not_false, Bool.not_eq_true, Bool.not_eq_false, beq_iff_eq, bne_iff_ne, ne_eq, Decidable.not_not] at h2
      have hxr : x.d.1 = reports_n := by omega
      refine c_exit ?_
      refine k_then_x ?_
      refine k_then_x ?_
      refine k_blk_x ?_
      refine k_then_n ?_
      refine c_seq ?_
      refine c_region ?_
      refine l_step (s_q rfl wn (q_move rfl) ?_)
      refine l_step (s_q rfl wn (q_build (cs := encOrd (⟨6, 0, 2, 0⟩ : Ord)) zc_30 pl_30 rfl rfl) ?_)
      refine l_step (s_s rfl wn (s_buildSlice (cs := ([(⟨6, 0, 2, 0⟩ : Ord)] : List Ord).flatMap encOrd) Try.underlying40 eo_30 rfl rfl rfl rfl (by decide) (by decide)) ?_)
      rintro _ _ ⟨b111, rfl, rfl⟩
      refine l_step (s_fnb rfl wn Try.func13 rfl (by kernel_rfl) rfl (by repeat (first | exact Sel.nil | exact Pick.here | apply Sel.cons | apply Pick.there)) (fun ρ' hL => set_spec bN (⟨(n : Int), (x.d.1 : Int), bo44, btN, (EO x.d.2.2.1 x.d.2.2.2.1), x.d.2.2.2.2⟩ : DD) (some ⟨b111, 0, none⟩) 1 1 [(⟨6, 0, 2, 0⟩ : Ord)] (by first | rfl | simp) ρ' (by first | omega | decide | (simp <;> omega)) (by first | exact hL.ro (by assumption) | exact hL.row (by repeat (first | exact Pick.here | apply Pick.there)) | assumption)) ?_)
      rintro _ _ ⟨bo112, rfl, rfl⟩
      try simp only [List.cons_append, List.nil_append]
      have hs1 : setF (EO x.d.2.2.1 x.d.2.2.2.1) [(⟨6, 0, 2, 0⟩ : Ord)] = E1 x.d.2.2.2.1 := ends_set1 _ _
      simp only [hs1]
      refine l_nil ?_
      refine k_then_n ?_
      refine c_seq ?_
      refine c_seq ?_
      refine c_region ?_
      refine l_step (s_q rfl wn (q_assign rfl) ?_)
      refine l_nil ?_
      refine k_then_n ?_
      refine c_block ?_
      refine Tr.env (σ' := [(2, _), (8, _), (15, _)]) (.cons rfl rfl (.cons rfl rfl (.cons rfl rfl (.nil _)))) ?_
      refine t_loop (ι := Lp (Nat × Int)) (fun y => (y.d.1 : Int) ≤ (((ticks.tmod 30) + 30) % 30) ∧ OutOk ((x.d.1 : Int) + (y.d.1 : Int)) (E1 y.d.2)) (fun y => (((ticks.tmod 30) + 30) % 30).toNat - y.d.1) (fun y => [(2, .int .i64 ticks), (8, .pointer (some ⟨bN, 0, none⟩)), (15, .int .i64 (y.d.1 : Int))]) (fun y => .row 30 4 (some ⟨b111, 0, none⟩) 1 1 ([(⟨6, 0, 2, 0⟩ : Ord)].flatMap encOrd) :: .row 30 4 (some ⟨b43, 0, none⟩) 2 2 ([(⟨5, 0, 1, 0⟩ : Ord), (⟨6, 0, 2, 0⟩ : Ord)].flatMap encOrd) :: MP (Value.int .i64) (aggV encTold) btN x.d.2.2.2.2 :: MP (Value.int .i64) (aggV encSent) bo112 (E1 y.d.2) :: .pts bN (encDisp (⟨(n : Int), ((x.d.1 : Int) + (y.d.1 : Int)), (some bo112), (some btN)⟩ : Disp)) 98 :: Δ) (⟨(0, x.d.2.2.2.1), none, 0, none, 0, none, 0⟩ : Lp _) ⟨by simp only []; omega, by have := e1_ok hok; simpa using this⟩ ?_ ?_ ?_
      · exact .cons rfl (by first | rfl | exact inte (by omega) | (simp; done) | (simp <;> omega) | simp [*]) (.cons rfl (by first | rfl | exact inte (by omega) | (simp; done) | (simp <;> omega) | simp [*]) (.cons rfl (by first | rfl | exact inte (by omega) | (simp; done) | (simp <;> omega) | simp [*]) (.nil _)))
      · exact (by repeat (first | exact Ent.nil _ | exact Ent.refl _ | (refine Ent.pick (by repeat (first | exact Pick.here | apply Pick.there)) ?_) | refine Ent.skip ?_))
      intro y hy
      obtain ⟨hy1, hy3⟩ := hy
      refine c_seq ?_
      refine c_seq ?_
      refine c_region ?_
      refine l_step (s_q rfl wn (q_move rfl) ?_)
      refine l_step (s_q rfl wn (q_move rfl) ?_)
      refine l_step (s_q rfl wn (q_rem rfl rfl (by omega)) ?_)
      refine l_step (s_q rfl wn (q_add rfl rfl (by omega) (by omega)) ?_)
      refine l_step (s_q rfl wn (q_remp rfl rfl (by omega) (by omega)) ?_)
      refine l_step (s_q rfl wn (q_lss rfl rfl) ?_)
      refine l_nil ?_
      refine k_then_n ?_
      refine c_cond rfl (fun h5 => ?_) (fun h5 => ?_)
      · try simp only [Bool.and_eq_true, Bool.or_eq_true, Bool.not_eq_true', Bool.and_eq_false_iff, Bool.or_eq_false_iff, Bool.not_eq_false', decide_eq_true_eq, decide_eq_false_iff_not, Bool.not_eq_eq_eq_not, Bool.not_true, Bool.not_false, Bool.not_eq_true, Bool.not_eq_false, beq_iff_eq, bne_iff_ne, ne_eq, Decidable.not_not] at h5
        refine c_skip ?_
        refine k_then_n ?_
        refine c_seq ?_
        refine c_block ?_
        refine c_region ?_
        refine l_step (s_q rfl wn (q_move rfl) ?_)
        refine l_step (s_fnb rfl wn Try.func15 rfl (by kernel_rfl) rfl (by repeat (first | exact Sel.nil | exact Pick.here | apply Sel.cons | apply Pick.there)) (fun ρ' hL => tick_spec bN (⟨(n : Int), ((x.d.1 : Int) + (y.d.1 : Int)), bo112, btN, (E1 y.d.2), x.d.2.2.2.2⟩ : DD) ρ' hy3 (show (0 : Int) ≤ ((x.d.1 : Int) + (y.d.1 : Int)) ∧ ((x.d.1 : Int) + (y.d.1 : Int)) ≤ 1000000 from ⟨by omega, by omega⟩)) ?_)
        rintro _ _ ⟨a122, c122, rfl, rfl⟩
        try simp only [List.cons_append, List.nil_append]
        obtain ⟨b3, he3⟩ := ends_tick1 (((x.d.1 : Int) + (y.d.1 : Int)) + 1) n y.d.2
        have hok3 := tick_ok (now := ((x.d.1 : Int) + (y.d.1 : Int)) + 1) (span := n) hy3.up (by omega)
        rw [he3] at hok3
        simp only [he3]
        refine l_nil ?_
        refine k_blk_n ?_
        refine k_then_n ?_
        refine c_region ?_
        refine l_step (s_q rfl wn (q_move rfl) ?_)
        refine l_step (s_q rfl wn (q_add rfl rfl (by omega) (by omega)) ?_)
        refine l_step (s_q rfl wn (q_assign rfl) ?_)
        refine l_nil ?_
        refine k_then_n ?_
        exact t_next (⟨(y.d.1 + 1, b3), none, 0, none, 0, none, 0⟩ : Lp _) ⟨⟨by simp only []; omega, by have := hok3; rw [Int.add_assoc] at this; exact this⟩, by simp only []; omega⟩ (.cons rfl (by first | rfl | exact inte (by omega) | (simp; done) | (simp <;> omega) | simp [*]) (.cons rfl (by first | rfl | exact inte (by omega) | (simp; done) | (simp <;> omega) | simp [*]) (.cons rfl (by first | rfl | exact inte (by omega) | (simp; done) | (simp <;> omega) | simp [*]) (.nil _)))) (by repeat (first | exact Ent.nil _ | exact Ent.refl _ | (refine Ent.pick (by repeat (first | exact Pick.here | apply Pick.there)) ?_) | refine Ent.skip ?_))
      · try simp only [Bool.and_eq_true, Bool.or_eq_true, Bool.not_eq_true', Bool.and_eq_false_iff, Bool.or_eq_false_iff, Bool.not_eq_false', decide_eq_true_eq, decide_eq_false_iff_not, Bool.not_eq_eq_eq_not, Bool.not_true, Bool.not_false, Bool.not_eq_true, Bool.not_eq_false, beq_iff_eq, bne_iff_ne, ne_eq, Decidable.not_not] at h5
        refine c_exit ?_
        refine k_then_x ?_
        refine k_then_x ?_
        refine k_blk_x ?_
        refine k_then_n ?_
        refine c_seq ?_
        refine c_region ?_
        refine l_step (s_q rfl wn (q_move rfl) ?_)
        refine l_step (s_q rfl wn (q_build (cs := encRep_ (⟨1, 5, 0, 0, 0, false⟩ : Rep_)) zc_34 pl_34 rfl rfl) ?_)
        refine l_step (s_q rfl wn (q_build (cs := encRep_ (⟨2, 5, 0, 0, 0, false⟩ : Rep_)) zc_34 pl_34 rfl rfl) ?_)
        refine l_step (s_s rfl wn (s_buildSlice (cs := ([(⟨1, 5, 0, 0, 0, false⟩ : Rep_), (⟨2, 5, 0, 0, 0, false⟩ : Rep_)] : List Rep_).flatMap encRep_) Try.underlying49 eo_34 rfl rfl rfl rfl (by decide) (by decide)) ?_)
        rintro _ _ ⟨b126, rfl, rfl⟩
        refine l_step (s_fnb rfl wn Try.func14 rfl (by kernel_rfl) rfl (by repeat (first | exact Sel.nil | exact Pick.here | apply Sel.cons | apply Pick.there)) (fun ρ' hL => hear_spec bN (⟨(n : Int), ((x.d.1 : Int) + (y.d.1 : Int)), bo112, btN, (E1 y.d.2), x.d.2.2.2.2⟩ : DD) (some ⟨b126, 0, none⟩) 2 2 [(⟨1, 5, 0, 0, 0, false⟩ : Rep_), (⟨2, 5, 0, 0, 0, false⟩ : Rep_)] (by first | rfl | simp) ρ' hy3 (hE.ok (i := ((x.d.1 : Int) + (y.d.1 : Int))) (by omega) (by omega)) (show (0 : Int) ≤ ((x.d.1 : Int) + (y.d.1 : Int)) ∧ ((x.d.1 : Int) + (y.d.1 : Int)) ≤ 1000000 from ⟨by omega, by omega⟩) (rp_ok2 5 5) (by first | omega | decide | simp) (by first | exact hL.ro (by assumption) | exact hL.row (by repeat (first | exact Pick.here | apply Pick.there)) | assumption)) ?_)
        rintro _ _ ⟨a127, c127, rfl, rfl⟩
        try simp only [List.cons_append, List.nil_append]
        have hh2 : hearF ((x.d.1 : Int) + (y.d.1 : Int)) n (E1 y.d.2) x.d.2.2.2.2 [(⟨1, 5, 0, 0, 0, false⟩ : Rep_), (⟨2, 5, 0, 0, 0, false⟩ : Rep_)] = _ := ends_hear2 hE
        simp only [hh2, List.length_nil]
        refine l_step (s_q rfl wn (q_len Try.underlying31 rfl) ?_)
        refine l_step (s_q rfl wn (q_eql rfl rfl) ?_)
        refine l_step (s_q rfl wn (q_move rfl) ?_)
        refine Tr.env (.cons (t := 130) (v := .bool true) rfl (congrArg Value.bool (by rfl)) (EnvLe.refl _)) ?_
        refine l_step (s_q rfl (wy rfl rfl rfl) (q_move rfl) ?_)
        refine l_step (s_q rfl (wy rfl rfl rfl) (q_build (cs := encRep_ (⟨2, 6, 0, 0, 0, false⟩ : Rep_)) zc_34 pl_34 rfl rfl) ?_)
        refine l_step (s_s rfl (wy rfl rfl rfl) (s_buildSlice (cs := ([(⟨2, 6, 0, 0, 0, false⟩ : Rep_)] : List Rep_).flatMap encRep_) Try.underlying49 eo_34 rfl rfl rfl rfl (by decide) (by decide)) ?_)
        rintro _ _ ⟨b133, rfl, rfl⟩
        refine l_step (s_fnb rfl (wy rfl rfl rfl) Try.func14 rfl (by kernel_rfl) rfl (by repeat (first | exact Sel.nil | exact Pick.here | apply Sel.cons | apply Pick.there)) (fun ρ' hL => hear_spec bN (⟨(n : Int), ((x.d.1 : Int) + (y.d.1 : Int)), bo112, btN, (E1 y.d.2), [((1 : Int), tl x.d.2.1), ((2 : Int), zTold)]⟩ : DD) (some ⟨b133, 0, none⟩) 1 1 [(⟨2, 6, 0, 0, 0, false⟩ : Rep_)] (by first | rfl | simp) ρ' hy3 (told_two_ok (i := ((x.d.1 : Int) + (y.d.1 : Int))) (by omega) (by omega)) (show (0 : Int) ≤ ((x.d.1 : Int) + (y.d.1 : Int)) ∧ ((x.d.1 : Int) + (y.d.1 : Int)) ≤ 1000000 from ⟨by omega, by omega⟩) (rp_ok1 2 6 (.inr rfl)) (by first | omega | decide | simp) (by first | exact hL.ro (by assumption) | exact hL.row (by repeat (first | exact Pick.here | apply Pick.there)) | assumption)) ?_)
        rintro _ _ ⟨a134, c134, rfl, rfl⟩
        try simp only [List.cons_append, List.nil_append]
        have hh3 : (hearF ((x.d.1 : Int) + (y.d.1 : Int)) n (E1 y.d.2) [((1 : Int), tl x.d.2.1), ((2 : Int), zTold)] [(⟨2, 6, 0, 0, 0, false⟩ : Rep_)]).2 = _ := ends_hear3
        simp only [hh3, List.length_cons, List.length_nil, Nat.zero_add]
        refine l_step (s_q rfl (wy rfl rfl rfl) (q_len Try.underlying31 rfl) ?_)
        refine l_step (s_q rfl (wy rfl rfl rfl) (q_eql rfl rfl) ?_)
        refine l_step (s_q rfl wn (q_pick rfl rfl rfl) ?_)
        refine l_step (s_q rfl wn (q_assign rfl) ?_)
        refine l_nil ?_
        refine k_then_n ?_
        refine c_ret ?_
        exact t_ret [] rfl (.tmp rfl .nil) rfl (Hp.le_refl _) ⟨rfl, boole (by rfl), rfl⟩ (by (repeat refine Ent.skip ?_); exact Ent.refl _)
end Go.Dsp.C

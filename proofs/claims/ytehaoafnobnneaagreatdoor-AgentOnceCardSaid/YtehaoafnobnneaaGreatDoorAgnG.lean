/-
  Walked.
-/
import Derived.Test.YtehaoafnobnneaaGreatDoorAgnF
import Derived.Test.YtehaoafnobnneaaGreatDoorAgnTa
import Derived.Test.YtehaoafnobnneaaGreatDoorProg
set_option maxRecDepth 100000
set_option maxHeartbeats 4000000
set_option linter.unusedSimpArgs false
set_option linter.unusedVariables false
namespace Go.Agn
open Go Go.SL Go.Proofs Go.Mou Go.Dsk Go.Hrd
attribute [local irreducible] Go.SL.Ent
theorem sz_74 : sizeIs Tryz.prog 74 = some 5 := by kernel_rfl
theorem ag_74 : aggSize Tryz.prog 74 = some 5 := by kernel_rfl
theorem fo_74_2 : fieldOff Tryz.prog 74 2 = some (2, 72) := by kernel_rfl
theorem sc_72 : isScalar Tryz.prog 72 = true := by kernel_rfl
theorem fo_74_3 : fieldOff Tryz.prog 74 3 = some (3, 37) := by kernel_rfl
theorem sc_37 : isScalar Tryz.prog 37 = true := by kernel_rfl
theorem fo_74_0 : fieldOff Tryz.prog 74 0 = some (0, 3) := by kernel_rfl
theorem fo_74_1 : fieldOff Tryz.prog 74 1 = some (1, 3) := by kernel_rfl

theorem once_spec (work : Int) (acts_a : Option Addr) (acts_n acts_c : Nat) (acts : List AAct) (hacts_n : acts.length = acts_n) (ρ : Hp) (hro : Ro ρ 5 acts_a acts_n acts_c (acts.flatMap encAAct)) (hA : ∀ a ∈ acts, AActM a ρ ∧ a.N ≤ 9223372036854775807) : Spec0 Tryz.prog 8 #[.int .i64 work, .slice acts_a acts_n acts_c] ρ [] (fun v Γ' => v = .bool true ∧ Γ' = []) := by
  refine spec_of (n := 281) (vs := [_, _]) (σ := [(0, _), (1, _)]) Tryz.func8 rfl rfl rfl rfl fun E Δ => ?_
  rw [List.nil_append]
  refine sr ?_
  refine e_as rfl ?_
  refine l_n ?_
  refine c_seq ?_
  refine sr ?_
  refine l_step (s_fnq rfl wn Tryz.func26 rfl (by kernel_rfl) rfl (fun ρ' hL => awake_spec ρ') ?_)
  refine e_q (q_not rfl) ?_
  refine e_mv rfl ?_
  refine e_qw (wy rfl rfl rfl) (q_move rfl) ?_
  refine e_qw (wy rfl rfl rfl) (q_len Tryz.underlying71 rfl) ?_
  refine e_qw (wy rfl rfl rfl) (q_gtr rfl rfl) ?_
  refine e_q (q_pick rfl rfl rfl) ?_
  refine l_n ?_
  refine c_cond rfl (fun h0 => ?_) (fun h0 => ?_)
  · try simp only [decide_eq_true_eq, decide_eq_false_iff_not] at h0
    refine sr ?_
    refine l_step (s_fnq rfl wn Tryz.func26 rfl (by kernel_rfl) rfl (fun ρ' hL => awake_spec ρ') ?_)
    refine e_as rfl ?_
    refine l_n ?_
    refine c_ret ?_
    refine k_then_r ?_
    exact t_rt [] rfl (.tmp rfl .nil) rfl ⟨rfl, boole (by rfl), rfl⟩ (by (repeat refine Ent.skip ?_); exact Ent.refl _)
  · try simp only [decide_eq_true_eq, decide_eq_false_iff_not] at h0
    refine c_skip ?_
    refine k_then_n ?_
    refine sr ?_
    have m1 := Int.tmod_lt_of_pos work (show (0 : Int) < 5 by decide)
    have m2 := Int.lt_tmod_of_pos work (show (0 : Int) < 5 by decide)
    refine e_mv rfl ?_
    refine e_q (q_rem rfl rfl (by omega)) ?_
    refine e_q (q_add rfl rfl (by omega) (by omega)) ?_
    refine e_q (q_remp rfl rfl (by omega) (by omega)) ?_
    refine e_q (q_add rfl rfl (by omega) (by omega)) ?_
    refine e_as rfl ?_
    refine l_n ?_
    refine sr ?_
    obtain ⟨wk, hwk⟩ : ∃ z, z = 1 + ((work.tmod 5) + 5) % 5 := ⟨_, rfl⟩
    rw [← hwk]
    have hwk1 : 1 ≤ wk := by omega
    clear hwk m1 m2
    refine e_fn Tryz.func27 rfl sl_ (fun ρ' hL => Go.Dsk.X.new_spec 100000 ρ') ?_
    rintro _ _ hnew
    obtain ⟨bD, mbD, rfl, rfl⟩ := or_yes hnew (by omega)
    try simp only [List.cons_append, List.nil_append]
    have hG0 : AI (vw []) zKept1 := ai_nil
    refine e_mv rfl ?_
    refine e_q (q_extract rfl rfl) ?_
    refine e_q (q_extract rfl rfl) ?_
    refine e_as rfl ?_
    refine e_as rfl ?_
    refine l_n ?_
    refine sr ?_
    refine e_mv rfl ?_
    refine e_mv rfl ?_
    refine e_fn Tryz.func28 rfl sl_ (fun ρ' hL => open__spec bD 100000 mbD (-1) [] 7 wk ρ' rfl hG0.fok (by decide) (by decide) hwk1) ?_
    rintro _ _ ⟨aA, kaA, maA, T0, rfl, hsc, hvT0, rfl⟩
    try simp only [List.cons_append, List.nil_append]
    obtain ⟨rfl, hoT0⟩ := hG0.scan hsc
    have hG1 : AI (vw T0) zKept1 := by rw [hvT0, hoT0]; exact hG0
    refine e_mv rfl ?_
    refine e_q (q_extract rfl rfl) ?_
    refine e_q (q_extract rfl rfl) ?_
    refine e_as rfl ?_
    refine e_as rfl ?_
    refine l_n ?_
    refine c_seq ?_
    refine sr ?_
    refine e_mv rfl ?_
    refine e_q (by first | exact q_eqlp rfl rfl Tryz.underlying64 | exact q_eqlp0 rfl rfl Tryz.underlying64) ?_
    refine e_mv rfl ?_
    refine e_qw (wy rfl rfl rfl) (q_move rfl) ?_
    refine e_qw (wy rfl rfl rfl) (q_neq rfl rfl) ?_
    refine e_q (q_pick rfl rfl rfl) ?_
    refine l_n ?_
    refine c_sure false rfl (by rfl) ?_
    simp only [Bool.false_eq_true, if_true, if_false]
    refine c_skip ?_
    refine k_then_n ?_
    refine sr ?_
    refine e_as rfl ?_
    refine l_n ?_
    refine sr ?_
    refine e_as rfl ?_
    refine e_as rfl ?_
    refine e_as rfl ?_
    refine e_as rfl ?_
    refine l_n ?_
    refine c_seq ?_
    refine sr ?_
    refine e_as rfl ?_
    refine l_n ?_
    refine c_block ?_
    refine Tr.ent (Ent.nilrow 3 1 _) ?_
    refine Tr.env (σ' := [(1, _), (5, _), (6, _), (8, _), (10, _), (11, _), (12, _), (13, _), (14, _), (15, _)]) ev_ ?_
    refine t_loop (ι := Lp (Nat × FT × Int × Nat × Kept1 × Int × List Int × Int × Int)) (fun x => x.d.1 ≤ acts_n ∧ AI (vw x.d.2.1) x.d.2.2.2.2.1 ∧ OF x.d.2.2.2.2.1 x.d.2.2.2.2.2.2.1 x.d.2.2.2.2.2.2.2.1 x.d.2.2.2.2.2.2.2.2 ∧ 0 ≤ x.d.2.2.2.2.2.1 ∧ x.d.2.2.2.2.2.1 ≤ (x.d.1 : Int) ∧ Cb x.d.2.2.1 ∧ x.d.2.2.2.2.2.2.1.length ≤ 21 * x.d.1) (fun x => acts_n - x.d.1) (fun x => [(1, .slice acts_a acts_n acts_c), (5, .int .i64 wk), (6, .pointer (some ⟨bD, 0, none⟩)), (8, .pointer (some ⟨x.d.2.2.2.1, 0, none⟩)), (10, .slice x.a1 x.d.2.2.2.2.2.2.1.length x.c1), (11, .int .i64 x.d.2.2.2.2.1.done), (12, .int .i64 x.d.2.2.2.2.2.2.2.1), (13, .int .i64 x.d.2.2.2.2.2.2.2.2), (14, .int .i64 x.d.2.2.2.2.1.at_), (15, .int .i64 (x.d.1 : Int))]) (fun x => .row 3 1 x.a1 x.d.2.2.2.2.2.2.1.length x.c1 (x.d.2.2.2.2.2.2.1.flatMap encI) :: .pts x.d.2.2.2.1 (encAgent1 (⟨x.d.2.2.2.2.1, (some bD), 7, wk, x.d.2.2.2.2.2.1, false⟩ : Agent1)) 81 :: .pts bD (encDisk1 (⟨100000, (some mbD), x.d.2.2.1⟩ : Disk1)) 105 :: MP strB ptV mbD (fm x.d.2.1) :: FB 109 5 x.d.2.1 :: Δ) (⟨(0, T0, -1, aA, zKept1, 0, [], 0, 0), none, 0, none, 0, none, 0⟩ : Lp _) ⟨Nat.zero_le _, hG1, ⟨Int.le_refl 0, Int.le_refl 0, (fun n hn => by cases hn), (fun h9 => absurd rfl h9), (fun h9 => absurd rfl h9)⟩, Int.le_refl 0, (show (0 : Int) ≤ ((0 : Nat) : Int) by decide), ⟨Int.le_refl (-1), (show (-1 : Int) ≤ 9223372036854775807 by decide)⟩, Nat.zero_le _⟩ ?_ ?_ ?_
    · exact .c (.c (.c (.c (.c (.c (.c (.c (.c (.c (.nil _))))))))))
    · exact en_
    intro x hx
    obtain ⟨hx1, hx2, hx3, hx4, hx5, hcb, hx7⟩ := hx
    refine c_seq ?_
    refine sr ?_
    refine e_mv rfl ?_
    refine e_mv rfl ?_
    refine e_q (q_len Tryz.underlying71 rfl) ?_
    refine e_q (q_lss rfl rfl) ?_
    refine l_n ?_
    refine c_cond rfl (fun h2 => ?_) (fun h2 => ?_)
    · try simp only [decide_eq_true_eq, decide_eq_false_iff_not] at h2
      refine c_skip ?_
      refine k_then_n ?_
      refine c_seq ?_
      refine c_block ?_
      refine sr ?_
      refine e_mv rfl ?_
      refine e_mv rfl ?_
      refine e_q (q_indexe x.d.1 Tryz.underlying71 sz_74 rfl rfl (by first | assumption | exact rd_ro (by assumption) | exact rd_row pk_) (by decide) rfl (by first | assumption | omega | (simp only [List.length_cons, List.length_nil]; omega))) ?_
      refine e_q (q_loadea (vs := encAAct (acts.getD x.d.1 default)) (enc := encAAct) (xs := acts) (j := x.d.1) (off := 0) ag_74 rfl (by first | assumption | exact rd_ro (by assumption) | exact rd_row pk_) (fun _ => rfl) (by first | assumption | omega | (simp only [List.length_cons, List.length_nil]; omega)) (by simp [encAAct]) (by simp [encAAct]) rfl) ?_
      refine e_s (s_allocz (cs := encAAct zAAct) (by kernel_rfl)) ?_
      rintro _ _ ⟨b16, rfl, rfl⟩
      refine l_step (s_s0 wn (s_storep (ws := encAAct (acts.getD x.d.1 default)) (cs := encAAct zAAct) (cs' := encAAct (acts.getD x.d.1 default)) rfl rfl rfl sz_74 (oneAAct _) (by simp [encAAct, encAAct]) rfl pk_) ?_)
      rintro _ _ ⟨rfl, rfl⟩
      refine l_n ?_
      refine c_seq ?_
      refine sr ?_
      obtain ⟨hAk, hN9⟩ := hA (acts.getD x.d.1 default) (getD_in (by omega))
      have hroO : Ro ρ 4 (acts.getD x.d.1 default).Os.a (acts.getD x.d.1 default).Os.xs.length (acts.getD x.d.1 default).Os.cap ((acts.getD x.d.1 default).Os.xs.flatMap encOrder1) := hAk.os
      refine e_q (q_fieldp rfl fo_74_2) ?_
      refine e_q (q_loadp (v := .slice (((acts.getD x.d.1 default).Os).a) (((acts.getD x.d.1 default).Os).xs.length) (((acts.getD x.d.1 default).Os).cap)) sc_72 rfl pk_ rfl) ?_
      refine e_q (q_len Tryz.underlying72 rfl) ?_
      refine e_q (q_gtr rfl rfl) ?_
      refine e_mv rfl ?_
      refine l_step (s_qg rfl (ask_f rfl rfl) (b := (!(decide (20 < (((acts.getD x.d.1 default).Os).xs.length : Int))))) (fun hb => q_fieldp rfl fo_74_3) ?_)
      refine l_step (s_qg rfl (ask_f rfl rfl) (b := (!(decide (20 < (((acts.getD x.d.1 default).Os).xs.length : Int))))) (fun hb => OpQ.env (.cons rfl (gd_t hb) (.nil _) : EnvLe [(67, .pointer (some ⟨b16, 3, none⟩))] _) (q_loadp (v := .slice (((acts.getD x.d.1 default).Keep).a) (((acts.getD x.d.1 default).Keep).xs.length) (((acts.getD x.d.1 default).Keep).cap)) sc_37 rfl pk_ rfl)) ?_)
      refine l_step (s_qg rfl (ask_f rfl rfl) (b := (!(decide (20 < (((acts.getD x.d.1 default).Os).xs.length : Int))))) (fun hb => OpQ.env (.cons rfl (gd_t hb) (.nil _) : EnvLe [(68, .slice (((acts.getD x.d.1 default).Keep).a) (((acts.getD x.d.1 default).Keep).xs.length) (((acts.getD x.d.1 default).Keep).cap))] _) (q_len Tryz.underlying37 rfl)) ?_)
      refine l_step (s_qg rfl (ask_f rfl rfl) (b := (!(decide (20 < (((acts.getD x.d.1 default).Os).xs.length : Int))))) (fun hb => OpQ.env (.cons rfl (gd_t hb) (.nil _) : EnvLe [(69, .int .i64 (((acts.getD x.d.1 default).Keep).xs.length : Int))] _) (q_gtr rfl rfl)) ?_)
      refine e_q (q_pick_or rfl rfl rfl (fun h => by first | (rw [h]; rfl) | exact congrArg not h)) ?_
      refine l_n ?_
      refine c_cond rfl (fun h3 => ?_) (fun h3 => ?_)
      · try simp only [decide_eq_true_eq, decide_eq_false_iff_not, Bool.or_eq_true, Bool.or_eq_false_iff] at h3
        refine sr ?_
        refine e_as rfl ?_
        refine l_n ?_
        refine c_ret ?_
        refine k_then_r ?_
        refine k_blk_r ?_
        refine k_then_r ?_
        refine k_then_r ?_
        refine k_blk_r ?_
        refine k_then_r ?_
        exact t_rt [] rfl (.tmp rfl .nil) rfl ⟨rfl, boole (by rfl), rfl⟩ (by (repeat refine Ent.skip ?_); exact Ent.refl _)
      · try simp only [decide_eq_true_eq, decide_eq_false_iff_not, Bool.or_eq_true, Bool.or_eq_false_iff] at h3
        refine c_skip ?_
        refine k_then_n ?_
        refine sr ?_
        refine e_q (q_build (cs := encOrder1 (⟨0, 0, 0, 0⟩ : Order1)) zc_69 pl_69 rfl rfl) ?_
        refine e_s (s_allocz (cs := encOrder1 zOrder1) (by kernel_rfl)) ?_
        rintro _ _ ⟨b17, rfl, rfl⟩
        refine l_step (s_s0 wn (s_storep (ws := encOrder1 (⟨0, 0, 0, 0⟩ : Order1)) (cs := encOrder1 zOrder1) (cs' := encOrder1 (⟨0, 0, 0, 0⟩ : Order1)) rfl rfl rfl sz_69 (oneOrder1 _) (by simp [encOrder1, encOrder1]) rfl pk_) ?_)
        rintro _ _ ⟨rfl, rfl⟩
        refine l_n ?_
        refine c_seq ?_
        refine sr ?_
        refine e_q (q_fieldp rfl fo_74_0) ?_
        refine e_q (q_loadp (v := .int .i64 ((acts.getD x.d.1 default).Kind)) sc_3 rfl pk_ rfl) ?_
        refine l_n ?_
        refine c_block ?_
        refine sr ?_
        refine e_q (q_eql rfl rfl) ?_
        refine e_as rfl ?_
        refine l_n ?_
        refine t_cutq (ι := FT × Int × Kept1 × Int × List Int × Bool × Kept1 × Order1 × Option Addr × Nat) (fun j9 => EI (vw j9.1) j9.2.2.1 j9.2.2.2.2.2.2.1 j9.2.2.2.2.2.1 j9.2.2.2.2.2.2.2.1 ∧ Cb j9.2.1 ∧ OF j9.2.2.1 j9.2.2.2.2.1 x.d.2.2.2.2.2.2.2.1 x.d.2.2.2.2.2.2.2.2 ∧ 0 ≤ j9.2.2.2.1 ∧ j9.2.2.2.1 ≤ (x.d.1 : Int) + 1 ∧ j9.2.2.2.2.1.length ≤ 21 * x.d.1 + 20) (fun j9 => [(1, .slice acts_a acts_n acts_c), (5, .int .i64 wk), (6, .pointer (some ⟨bD, 0, none⟩)), (8, .pointer (some ⟨x.d.2.2.2.1, 0, none⟩)), (10, .slice j9.2.2.2.2.2.2.2.2.1 j9.2.2.2.2.1.length j9.2.2.2.2.2.2.2.2.2), (11, .int .i64 j9.2.2.1.done), (12, .int .i64 x.d.2.2.2.2.2.2.2.1), (13, .int .i64 x.d.2.2.2.2.2.2.2.2), (14, .int .i64 j9.2.2.1.at_), (15, .int .i64 (x.d.1 : Int)), (16, .pointer (some ⟨b16, 0, none⟩)), (17, .pointer (some ⟨b17, 0, none⟩)), (52, .int .i64 (x.d.1 : Int)), (53, .slice acts_a acts_n acts_c), (54, .int .i64 (acts_n : Int)), (55, .bool (decide ((x.d.1 : Int) < (acts_n : Int)))), (58, .slice acts_a acts_n acts_c), (59, .int .i64 (x.d.1 : Int)), (60, pe acts_a x.d.1 5 0), (61, .agg (encAAct (acts.getD x.d.1 default)).toArray), (62, .pointer (some ⟨b16, 2, none⟩)), (63, .slice (((acts.getD x.d.1 default).Os).a) (((acts.getD x.d.1 default).Os).xs.length) (((acts.getD x.d.1 default).Os).cap)), (64, .int .i64 (((acts.getD x.d.1 default).Os).xs.length : Int)), (65, .bool (decide (20 < (((acts.getD x.d.1 default).Os).xs.length : Int)))), (66, .bool (decide (20 < (((acts.getD x.d.1 default).Os).xs.length : Int)))), (67, gd (!(decide (20 < (((acts.getD x.d.1 default).Os).xs.length : Int)))) (.pointer (some ⟨b16, 3, none⟩))), (68, gd (!(decide (20 < (((acts.getD x.d.1 default).Os).xs.length : Int)))) (.slice (((acts.getD x.d.1 default).Keep).a) (((acts.getD x.d.1 default).Keep).xs.length) (((acts.getD x.d.1 default).Keep).cap))), (69, gd (!(decide (20 < (((acts.getD x.d.1 default).Os).xs.length : Int)))) (.int .i64 (((acts.getD x.d.1 default).Keep).xs.length : Int))), (70, gd (!(decide (20 < (((acts.getD x.d.1 default).Os).xs.length : Int)))) (.bool (decide (100 < (((acts.getD x.d.1 default).Keep).xs.length : Int))))), (71, .bool ((decide (20 < (((acts.getD x.d.1 default).Os).xs.length : Int))) || (decide (100 < (((acts.getD x.d.1 default).Keep).xs.length : Int))))), (72, .agg (encOrder1 (⟨0, 0, 0, 0⟩ : Order1)).toArray), (73, .pointer (some ⟨b16, 0, none⟩)), (74, .int .i64 ((acts.getD x.d.1 default).Kind)), (75, .bool (decide (((acts.getD x.d.1 default).Kind) = 0))), (76, .bool (decide (((acts.getD x.d.1 default).Kind) = 0)))]) (fun j9 => .pts b17 (encOrder1 j9.2.2.2.2.2.2.2.1) 69 :: .pts b16 (encAAct (⟨(acts.getD x.d.1 default).Kind, (acts.getD x.d.1 default).N, (acts.getD x.d.1 default).Os, (acts.getD x.d.1 default).Keep, (acts.getD x.d.1 default).B⟩ : AAct)) 74 :: .row 3 1 j9.2.2.2.2.2.2.2.2.1 j9.2.2.2.2.1.length j9.2.2.2.2.2.2.2.2.2 (j9.2.2.2.2.1.flatMap encI) :: .pts x.d.2.2.2.1 (encAgent1 (⟨j9.2.2.1, (some bD), 7, wk, j9.2.2.2.1, j9.2.2.2.2.2.1⟩ : Agent1)) 81 :: .pts bD (encDisk1 (⟨100000, (some mbD), j9.2.1⟩ : Disk1)) 105 :: MP strB ptV mbD (fm j9.1) :: FB 109 5 j9.1 :: Δ) ?_ ?_
        · skip
          refine c_cond rfl (fun h4 => ?_) (fun h4 => ?_)
          · try simp only [decide_eq_true_eq, decide_eq_false_iff_not] at h4
            refine sr ?_
            refine e_as rfl ?_
            refine l_n ?_
            refine c_block ?_
            refine Tr.env (σ' := [(1, _), (5, _), (6, _), (8, _), (10, _), (11, _), (12, _), (13, _), (14, _), (15, _), (16, _), (17, _), (18, _), (52, _), (53, _), (54, _), (55, _), (58, _), (59, _), (60, _), (61, _), (62, _), (63, _), (64, _), (65, _), (66, _), (67, _), (68, _), (69, _), (70, _), (71, _), (72, _), (73, _), (74, _), (75, _), (76, _)]) ev_ ?_
            refine t_loop (ι := Lp (Nat × FT × Int × Kept1 × Int × List Int × Bool × Order1)) (fun y => y.d.1 ≤ (acts.getD x.d.1 default).Os.xs.length ∧ HI (vw y.d.2.1) y.d.2.2.1 y.d.2.2.2.1 y.d.2.2.2.2.2.2.1 y.d.2.2.2.2.2.2.2 ∧ OF y.d.2.2.2.1 y.d.2.2.2.2.2.1 x.d.2.2.2.2.2.2.2.1 x.d.2.2.2.2.2.2.2.2 ∧ 0 ≤ y.d.2.2.2.2.1 ∧ y.d.2.2.2.2.1 ≤ (x.d.1 : Int) ∧ y.d.2.2.2.2.2.1.length ≤ 21 * x.d.1 + y.d.1 ∧ y.d.2.2.2.1.done = x.d.2.2.2.2.1.done) (fun y => (acts.getD x.d.1 default).Os.xs.length - y.d.1) (fun y => [(1, .slice acts_a acts_n acts_c), (5, .int .i64 wk), (6, .pointer (some ⟨bD, 0, none⟩)), (8, .pointer (some ⟨x.d.2.2.2.1, 0, none⟩)), (10, .slice y.a1 y.d.2.2.2.2.2.1.length y.c1), (11, .int .i64 x.d.2.2.2.2.1.done), (12, .int .i64 x.d.2.2.2.2.2.2.2.1), (13, .int .i64 x.d.2.2.2.2.2.2.2.2), (14, .int .i64 y.d.2.2.2.1.at_), (15, .int .i64 (x.d.1 : Int)), (16, .pointer (some ⟨b16, 0, none⟩)), (17, .pointer (some ⟨b17, 0, none⟩)), (18, .int .i64 (y.d.1 : Int)), (52, .int .i64 (x.d.1 : Int)), (53, .slice acts_a acts_n acts_c), (54, .int .i64 (acts_n : Int)), (55, .bool (decide ((x.d.1 : Int) < (acts_n : Int)))), (58, .slice acts_a acts_n acts_c), (59, .int .i64 (x.d.1 : Int)), (60, pe acts_a x.d.1 5 0), (61, .agg (encAAct (acts.getD x.d.1 default)).toArray), (62, .pointer (some ⟨b16, 2, none⟩)), (63, .slice (((acts.getD x.d.1 default).Os).a) (((acts.getD x.d.1 default).Os).xs.length) (((acts.getD x.d.1 default).Os).cap)), (64, .int .i64 (((acts.getD x.d.1 default).Os).xs.length : Int)), (65, .bool (decide (20 < (((acts.getD x.d.1 default).Os).xs.length : Int)))), (66, .bool (decide (20 < (((acts.getD x.d.1 default).Os).xs.length : Int)))), (67, gd (!(decide (20 < (((acts.getD x.d.1 default).Os).xs.length : Int)))) (.pointer (some ⟨b16, 3, none⟩))), (68, gd (!(decide (20 < (((acts.getD x.d.1 default).Os).xs.length : Int)))) (.slice (((acts.getD x.d.1 default).Keep).a) (((acts.getD x.d.1 default).Keep).xs.length) (((acts.getD x.d.1 default).Keep).cap))), (69, gd (!(decide (20 < (((acts.getD x.d.1 default).Os).xs.length : Int)))) (.int .i64 (((acts.getD x.d.1 default).Keep).xs.length : Int))), (70, gd (!(decide (20 < (((acts.getD x.d.1 default).Os).xs.length : Int)))) (.bool (decide (100 < (((acts.getD x.d.1 default).Keep).xs.length : Int))))), (71, .bool ((decide (20 < (((acts.getD x.d.1 default).Os).xs.length : Int))) || (decide (100 < (((acts.getD x.d.1 default).Keep).xs.length : Int))))), (72, .agg (encOrder1 (⟨0, 0, 0, 0⟩ : Order1)).toArray), (73, .pointer (some ⟨b16, 0, none⟩)), (74, .int .i64 ((acts.getD x.d.1 default).Kind)), (75, .bool (decide (((acts.getD x.d.1 default).Kind) = 0))), (76, .bool (decide (((acts.getD x.d.1 default).Kind) = 0)))]) (fun y => .pts b17 (encOrder1 y.d.2.2.2.2.2.2.2) 69 :: .pts b16 (encAAct (⟨(acts.getD x.d.1 default).Kind, (acts.getD x.d.1 default).N, (acts.getD x.d.1 default).Os, (acts.getD x.d.1 default).Keep, (acts.getD x.d.1 default).B⟩ : AAct)) 74 :: .row 3 1 y.a1 y.d.2.2.2.2.2.1.length y.c1 (y.d.2.2.2.2.2.1.flatMap encI) :: .pts x.d.2.2.2.1 (encAgent1 (⟨y.d.2.2.2.1, (some bD), 7, wk, y.d.2.2.2.2.1, y.d.2.2.2.2.2.2.1⟩ : Agent1)) 81 :: .pts bD (encDisk1 (⟨100000, (some mbD), y.d.2.2.1⟩ : Disk1)) 105 :: MP strB ptV mbD (fm y.d.2.1) :: FB 109 5 y.d.2.1 :: Δ) (⟨(0, x.d.2.1, x.d.2.2.1, x.d.2.2.2.2.1, x.d.2.2.2.2.2.1, x.d.2.2.2.2.2.2.1, false, (⟨0, 0, 0, 0⟩ : Order1)), x.a1, x.c1, none, 0, none, 0⟩ : Lp _) ⟨Nat.zero_le _, ⟨hcb, .inl ⟨rfl, rfl, hx2⟩⟩, hx3, hx4, hx5, by show _ ≤ 21 * x.d.1 + 0; omega, rfl⟩ ?_ ?_ ?_
            · exact .c (.c (.c (.c (.c (.c (.c (.c (.c (.c (.c (.c (.c (.c (.c (.c (.c (.c (.c (.c (.c (.c (.c (.c (.c (.c (.c (.c (.c (.c (.c (.c (.c (.c (.c (.c (.nil _))))))))))))))))))))))))))))))))))))
            · exact en_
            intro y hy
            obtain ⟨hy1, hy2, hy3, hy4, hy5, hy6, hy7⟩ := hy
            refine c_seq ?_
            refine sr ?_
            refine e_mv rfl ?_
            refine e_q (q_fieldp rfl fo_74_2) ?_
            refine e_q (q_loadp (v := .slice (((acts.getD x.d.1 default).Os).a) (((acts.getD x.d.1 default).Os).xs.length) (((acts.getD x.d.1 default).Os).cap)) sc_72 rfl pk_ rfl) ?_
            refine e_q (q_len Tryz.underlying72 rfl) ?_
            refine e_q (q_lss rfl rfl) ?_
            refine l_n ?_
            refine c_cond rfl (fun h5 => ?_) (fun h5 => ?_)
            · try simp only [decide_eq_true_eq, decide_eq_false_iff_not] at h5
              refine c_skip ?_
              refine k_then_n ?_
              refine c_seq ?_
              refine c_block ?_
              refine sr ?_
              refine e_q (q_fieldp rfl fo_74_2) ?_
              refine e_q (q_loadp (v := .slice (((acts.getD x.d.1 default).Os).a) (((acts.getD x.d.1 default).Os).xs.length) (((acts.getD x.d.1 default).Os).cap)) sc_72 rfl pk_ rfl) ?_
              refine e_mv rfl ?_
              refine e_q (q_indexe y.d.1 Tryz.underlying72 sz_69 rfl rfl (rd_ro hroO) (by decide) rfl (by first | assumption | omega | (simp only [List.length_cons, List.length_nil]; omega))) ?_
              refine e_q (q_loadea (vs := encOrder1 ((((acts.getD x.d.1 default).Os).xs).getD y.d.1 default)) (enc := encOrder1) (xs := ((acts.getD x.d.1 default).Os).xs) (j := y.d.1) (off := 0) ag_69 rfl (rd_ro hroO) (fun _ => rfl) (by first | assumption | omega | (simp only [List.length_cons, List.length_nil]; omega)) (by simp [encOrder1]) (by simp [encOrder1]) rfl) ?_
              refine e_s (s_allocz (cs := encOrder1 zOrder1) (by kernel_rfl)) ?_
              rintro _ _ ⟨b19, rfl, rfl⟩
              refine l_step (s_s0 wn (s_storep (ws := encOrder1 ((((acts.getD x.d.1 default).Os).xs).getD y.d.1 default)) (cs := encOrder1 zOrder1) (cs' := encOrder1 ((((acts.getD x.d.1 default).Os).xs).getD y.d.1 default)) rfl rfl rfl sz_69 (oneOrder1 _) (by simp [encOrder1, encOrder1]) rfl pk_) ?_)
              rintro _ _ ⟨rfl, rfl⟩
              refine l_n ?_
              refine sr ?_
              refine e_q (q_fieldp rfl fo_69_2) ?_
              refine l_step (s_s0 wn (s_storep (ws := [.int .i64 7]) (cs := encOrder1 (⟨((acts.getD x.d.1 default).Os.xs.getD y.d.1 default).ID, ((acts.getD x.d.1 default).Os.xs.getD y.d.1 default).Epoch, ((acts.getD x.d.1 default).Os.xs.getD y.d.1 default).Cluster, ((acts.getD x.d.1 default).Os.xs.getD y.d.1 default).Version⟩ : Order1)) (cs' := encOrder1 (⟨((acts.getD x.d.1 default).Os.xs.getD y.d.1 default).ID, ((acts.getD x.d.1 default).Os.xs.getD y.d.1 default).Epoch, 7, ((acts.getD x.d.1 default).Os.xs.getD y.d.1 default).Version⟩ : Order1)) rfl rfl rfl sz_3 (by simp [Value.oneCell', strB, ptV, SL.v, SH.v]) (by simp [encOrder1]) rfl pk_) ?_)
              rintro _ _ ⟨rfl, rfl⟩
              refine l_n ?_
              refine sr ?_
              have hcl : ((⟨((acts.getD x.d.1 default).Os.xs.getD y.d.1 default).ID, ((acts.getD x.d.1 default).Os.xs.getD y.d.1 default).Epoch, 7, ((acts.getD x.d.1 default).Os.xs.getD y.d.1 default).Version⟩ : Order1)).Cluster = 7 := rfl
              generalize hoo : (⟨((acts.getD x.d.1 default).Os.xs.getD y.d.1 default).ID, ((acts.getD x.d.1 default).Os.xs.getD y.d.1 default).Epoch, 7, ((acts.getD x.d.1 default).Os.xs.getD y.d.1 default).Version⟩ : Order1) = oo at hcl ⊢
              clear hoo
              refine e_mv rfl ?_
              refine e_q (q_loadpa (vs := encOrder1 oo) ag_69 rfl pk_ rfl) ?_
              refine e_s (s_buildSlice (cs := ([oo] : List Order1).flatMap encOrder1) Tryz.underlying72 eo_69 rfl rfl rfl rfl (by decide) (by decide)) ?_
              rintro _ _ ⟨b92, rfl, rfl⟩
              refine e_fn Tryz.func29 rfl sl_ (fun ρ' hL => hear4_spec bD x.d.2.2.2.1 mbD y.d.2.2.1 y.d.2.1 y.d.2.2.2.1 wk y.d.2.2.2.2.1 y.d.2.2.2.2.2.2.1 y.d.2.2.2.2.2.2.2 y.d.2.2.2.2.2.1 x.d.2.2.2.2.2.2.2.1 x.d.2.2.2.2.2.2.2.2 (some ⟨b92, 0, none⟩) 1 oo ρ' (hL.row pk_) hy2 hy3 hcl) ?_
              rintro _ _ (⟨T1, c1, rfl, rfl, hdn, hka, hnb, hH1, hO1⟩ | ⟨e9, T1, rfl, rfl, hne, hte, hv1⟩ | ⟨T1, c1, rfl, rfl, ht0, hH1⟩)
              try simp only [List.cons_append, List.nil_append]
              · skip
                try simp only [List.cons_append, List.nil_append]
                refine e_as rfl ?_
                refine l_n ?_
                refine c_seq ?_
                refine sr ?_
                refine e_mv rfl ?_
                refine e_q (q_eql rfl rfl) ?_
                refine l_n ?_
                refine c_sure true rfl (by rfl) ?_
                simp only [Bool.false_eq_true, if_true, if_false]
                refine c_seq ?_
                refine c_seq ?_
                refine d_r 15 [.row 69 4 (some ⟨b92, 0, none⟩) 1 1 ([oo].flatMap encOrder1), .pts b19 (encOrder1 oo) 69, .pts b17 (encOrder1 y.d.2.2.2.2.2.2.2) 69, .pts b16 (encAAct (⟨(acts.getD x.d.1 default).Kind, (acts.getD x.d.1 default).N, (acts.getD x.d.1 default).Os, (acts.getD x.d.1 default).Keep, (acts.getD x.d.1 default).B⟩ : AAct)) 74, .row 3 1 y.a1 y.d.2.2.2.2.2.1.length y.c1 (y.d.2.2.2.2.2.1.flatMap encI), .pts x.d.2.2.2.1 (encAgent1 (⟨(hearK y.d.2.2.2.1 oo), (some bD), 7, wk, 0, false⟩ : Agent1)) 81, .pts bD (encDisk1 (⟨100000, (some mbD), c1⟩ : Disk1)) 105, MP strB ptV mbD (fm T1), FB 109 5 T1] ?_
                refine d_t 0 rfl wn (q_move rfl) ?_
                refine d_t 1 rfl wn (q_neq rfl rfl) ?_
                refine d_t 2 rfl wn (q_move rfl) ?_
                refine Tr.env (.cons (t := 98) (v := .bool false) rfl (congrArg Value.bool (decide_eq_false (fun h99 => h99 hka))) (EnvLe.refl _)) ?_
                refine d_t 3 rfl (wy rfl rfl rfl) (q_move rfl) ?_
                refine d_t 4 rfl (wy rfl rfl rfl) (q_fieldp rfl fo_69_0) ?_
                refine d_t 5 rfl (wy rfl rfl rfl) (q_loadp (v := .int .i64 oo.ID) sc_3 rfl pk_ rfl) ?_
                refine d_1 6 ?_
                refine o_step rfl (s_fnq rfl (wy rfl rfl rfl) Tryz.func34 rfl (by kernel_rfl) rfl (fun ρ' hL => has_spec y.a1 y.d.2.2.2.2.2.1.length y.c1 y.d.2.2.2.2.2.1 (by first | rfl | simp) oo.ID ρ' (hL.row pk_)) ?_)
                refine d_c ?_
                refine d_t 7 rfl wn (q_pick rfl rfl rfl) ?_
                refine d_t 8 rfl wn (q_move rfl) ?_
                refine Tr.env (.cons (t := 104) (v := .bool false) rfl (congrArg Value.bool (decide_eq_false hnb)) (EnvLe.refl _)) ?_
                refine d_t 9 rfl (wy rfl rfl rfl) (q_move rfl) ?_
                refine d_t 11 rfl (wy rfl rfl rfl) (q_fieldp rfl fo_69_0) ?_
                refine d_t 12 rfl (wy rfl rfl rfl) (q_loadp (v := .int .i64 oo.ID) sc_3 rfl pk_ rfl) ?_
                refine d_1 10 ?_
                refine o_step rfl (s_fnr rfl (wy rfl rfl rfl) Tryz.func31 rfl (by kernel_rfl) rfl sl_ (fun ρ' hL => busy_spec x.d.2.2.2.1 (hearK y.d.2.2.2.1 oo) 7 wk 0 false bD ρ') ?_)
                refine d_c ?_
                refine d_t 13 rfl (wy rfl rfl rfl) (q_neq rfl rfl) ?_
                refine d_t 14 rfl wn (q_pick rfl rfl rfl) ?_
                refine d_d ?_
                refine k_then_n ?_
                refine c_sure false rfl (decide_eq_false (fun h99 => h99 rfl)) ?_
                simp only [Bool.false_eq_true, if_true, if_false]
                refine c_skip ?_
                refine k_then_n ?_
                refine sr ?_
                refine e_mv rfl ?_
                refine e_q (q_fieldp rfl fo_69_0) ?_
                refine e_q (q_loadp (v := .int .i64 oo.ID) sc_3 rfl pk_ rfl) ?_
                refine e_s (s_buildSlice (cs := ([oo.ID] : List Int).flatMap encI) Tryz.underlying37 eo_3 rfl rfl rfl rfl (by decide) (by decide)) ?_
                rintro _ _ ⟨b114, rfl, rfl⟩
                refine e_s (s_appendn (enc := encI) (xs := (y.d.2.2.2.2.2.1 : List Int)) (ys := ([oo.ID] : List Int)) (Γ' := fun a' cap' => _) Tryz.underlying37 eo_3 (by decide) rfl rfl (rd_row pk_) (oneI _) (by first | omega | (simp only [List.length_append, List.length_cons, List.length_nil] at *; omega)) (by first | omega | (simp only [List.length_append, List.length_cons, List.length_nil] at *; omega)) (fun _ _ => pk_)) ?_
                rintro _ _ ⟨a115, c115, rfl, rfl⟩
                refine e_as rfl ?_
                refine l_n ?_
                refine c_region ?_
                refine e_q (q_fieldp rfl fo_69_0) ?_
                refine e_q (q_loadp (v := .int .i64 oo.ID) sc_3 rfl pk_ rfl) ?_
                refine e_as rfl ?_
                refine l_n ?_
                refine sr ?_
                refine e_mv rfl ?_
                refine e_q (q_eql rfl rfl) ?_
                refine e_mv rfl ?_
                refine Tr.env (.cons (t := 120) (v := .bool false) rfl (congrArg Value.bool (by rfl)) (EnvLe.refl _)) ?_
                refine l_step (s_no rfl (wno rfl rfl (by decide)) ?_)
                refine l_step (s_no rfl (wno rfl rfl (by decide)) ?_)
                refine l_step (s_no rfl (wno rfl rfl (by decide)) ?_)
                refine e_q (q_pick rfl rfl rfl) ?_
                refine l_n ?_
                refine c_no rfl ?_
                refine c_skip ?_
                refine k_blk_n ?_
                refine k_then_n ?_
                refine c_region ?_
                refine e_mv rfl ?_
                refine e_q (q_add rfl rfl (by omega) (by omega)) ?_
                refine e_as rfl ?_
                refine l_n ?_
                rw [show y.d.2.2.2.2.2.1.length + 1 = (y.d.2.2.2.2.2.1 ++ [oo.ID]).length from by simp]
                exact t_next (⟨(y.d.1 + 1, T1, c1, hearK y.d.2.2.2.1 oo, 0, y.d.2.2.2.2.2.1 ++ [oo.ID], false, y.d.2.2.2.2.2.2.2), a115, c115, none, 0, none, 0⟩ : Lp _) ⟨⟨by show y.d.1 + 1 ≤ _; omega, hH1, hO1, Int.le_refl 0, by show (0 : Int) ≤ _; omega, by show (y.d.2.2.2.2.2.1 ++ [oo.ID]).length ≤ 21 * x.d.1 + (y.d.1 + 1); rw [List.length_append, List.length_singleton]; omega, hy7⟩, by show _ - (y.d.1 + 1) < _; omega⟩ (.c (.c (.c (.c (.c (.c (.c (.c (.c (.c (.c (.c (.c (.c (.c (.c (.c (.c (.c (.c (.c (.c (.c (.c (.c (.c (.c (.c (.c (.c (.c (.c (.c (.c (.c (.c (.nil _))))))))))))))))))))))))))))))))))))) (by refine Ent.pick pk_ ?_; refine Ent.pick pk_ ?_; refine Ent.pick pk_ ?_; refine Ent.pick pk_ ?_; refine Ent.pick pk_ ?_; refine Ent.pick pk_ ?_; refine Ent.pick pk_ ?_; repeat (first | exact Ent.refl _ | refine Ent.skip ?_))
              · skip
                try simp only [List.cons_append, List.nil_append]
                refine e_as rfl ?_
                refine l_n ?_
                refine c_seq ?_
                refine sr ?_
                refine e_mv rfl ?_
                refine e_q (q_eql rfl rfl) ?_
                refine l_n ?_
                refine c_sure false rfl (decide_eq_false hne) ?_
                simp only [Bool.false_eq_true, if_true, if_false]
                refine c_skip ?_
                refine k_then_n ?_
                refine sr ?_
                refine e_mv rfl ?_
                refine e_q (q_eql rfl rfl) ?_
                refine e_mv rfl ?_
                refine t_split (d := 120) rfl (fun g30_2 => ?_) (fun g30_2 => ?_)
                · try simp only [decide_eq_true_eq, decide_eq_false_iff_not] at g30_2
                  refine e_qw (wy rfl rfl rfl) (q_fieldp rfl fo_69_0) ?_
                  refine e_qw (wy rfl rfl rfl) (q_loadp (v := .int .i64 y.d.2.2.2.2.2.2.2.ID) sc_3 rfl pk_ rfl) ?_
                  refine e_qw (wy rfl rfl rfl) (q_eql rfl rfl) ?_
                  refine e_q (q_pick rfl rfl rfl) ?_
                  refine l_n ?_
                  refine c_sure false rfl (decide_eq_false (hte g30_2)) ?_
                  simp only [Bool.false_eq_true, if_true, if_false]
                  refine c_skip ?_
                  refine k_blk_n ?_
                  refine k_then_n ?_
                  refine c_region ?_
                  refine e_mv rfl ?_
                  refine e_q (q_add rfl rfl (by omega) (by omega)) ?_
                  refine e_as rfl ?_
                  refine l_n ?_
                  exact t_next (⟨(y.d.1 + 1, T1, y.d.2.2.1, y.d.2.2.2.1, y.d.2.2.2.2.1, y.d.2.2.2.2.2.1, y.d.2.2.2.2.2.2.1, y.d.2.2.2.2.2.2.2), y.a1, y.c1, none, 0, none, 0⟩ : Lp _) ⟨⟨by show y.d.1 + 1 ≤ _; omega, hy2.same hv1, hy3, hy4, hy5, by show y.d.2.2.2.2.2.1.length ≤ 21 * x.d.1 + (y.d.1 + 1); omega, hy7⟩, by show _ - (y.d.1 + 1) < _; omega⟩ (.c (.c (.c (.c (.c (.c (.c (.c (.c (.c (.c (.c (.c (.c (.c (.c (.c (.c (.c (.c (.c (.c (.c (.c (.c (.c (.c (.c (.c (.c (.c (.c (.c (.c (.c (.c (.nil _))))))))))))))))))))))))))))))))))))) (by refine Ent.pick pk_ ?_; refine Ent.pick pk_ ?_; refine Ent.pick pk_ ?_; refine Ent.pick pk_ ?_; refine Ent.pick pk_ ?_; refine Ent.pick pk_ ?_; refine Ent.pick pk_ ?_; repeat (first | exact Ent.refl _ | refine Ent.skip ?_))
                · try simp only [decide_eq_true_eq, decide_eq_false_iff_not] at g30_2
                  refine l_step (s_no rfl (wno rfl rfl (by decide)) ?_)
                  refine l_step (s_no rfl (wno rfl rfl (by decide)) ?_)
                  refine l_step (s_no rfl (wno rfl rfl (by decide)) ?_)
                  refine e_q (q_pick rfl rfl rfl) ?_
                  refine l_n ?_
                  refine c_no rfl ?_
                  refine c_skip ?_
                  refine k_blk_n ?_
                  refine k_then_n ?_
                  refine c_region ?_
                  refine e_mv rfl ?_
                  refine e_q (q_add rfl rfl (by omega) (by omega)) ?_
                  refine e_as rfl ?_
                  refine l_n ?_
                  exact t_next (⟨(y.d.1 + 1, T1, y.d.2.2.1, y.d.2.2.2.1, y.d.2.2.2.2.1, y.d.2.2.2.2.2.1, y.d.2.2.2.2.2.2.1, y.d.2.2.2.2.2.2.2), y.a1, y.c1, none, 0, none, 0⟩ : Lp _) ⟨⟨by show y.d.1 + 1 ≤ _; omega, hy2.same hv1, hy3, hy4, hy5, by show y.d.2.2.2.2.2.1.length ≤ 21 * x.d.1 + (y.d.1 + 1); omega, hy7⟩, by show _ - (y.d.1 + 1) < _; omega⟩ (.c (.c (.c (.c (.c (.c (.c (.c (.c (.c (.c (.c (.c (.c (.c (.c (.c (.c (.c (.c (.c (.c (.c (.c (.c (.c (.c (.c (.c (.c (.c (.c (.c (.c (.c (.c (.nil _))))))))))))))))))))))))))))))))))))) (by refine Ent.pick pk_ ?_; refine Ent.pick pk_ ?_; refine Ent.pick pk_ ?_; refine Ent.pick pk_ ?_; refine Ent.pick pk_ ?_; refine Ent.pick pk_ ?_; refine Ent.pick pk_ ?_; repeat (first | exact Ent.refl _ | refine Ent.skip ?_))
              · skip
                try simp only [List.cons_append, List.nil_append]
                refine e_as rfl ?_
                refine l_n ?_
                refine c_seq ?_
                refine sr ?_
                refine e_mv rfl ?_
                refine e_q (q_eql rfl rfl) ?_
                refine l_n ?_
                refine c_sure false rfl (by rfl) ?_
                simp only [Bool.false_eq_true, if_true, if_false]
                refine c_skip ?_
                refine k_then_n ?_
                refine sr ?_
                refine e_mv rfl ?_
                refine e_q (q_eql rfl rfl) ?_
                refine e_mv rfl ?_
                refine Tr.env (.cons (t := 120) (v := .bool true) rfl (congrArg Value.bool (by rfl)) (EnvLe.refl _)) ?_
                refine e_qw (wy rfl rfl rfl) (q_fieldp rfl fo_69_0) ?_
                refine e_qw (wy rfl rfl rfl) (q_loadp (v := .int .i64 y.d.2.2.2.2.2.2.2.ID) sc_3 rfl pk_ rfl) ?_
                refine e_qw (wy rfl rfl rfl) (q_eql rfl rfl) ?_
                refine e_q (q_pick rfl rfl rfl) ?_
                refine l_n ?_
                refine c_sure true rfl (decide_eq_true ht0) ?_
                simp only [Bool.false_eq_true, if_true, if_false]
                refine c_region ?_
                refine e_q (q_loadpa (vs := encOrder1 oo) ag_69 rfl pk_ rfl) ?_
                refine l_step (s_s0 wn (s_storep (ws := encOrder1 oo) (cs := encOrder1 y.d.2.2.2.2.2.2.2) (cs' := encOrder1 oo) rfl rfl rfl sz_69 (oneOrder1 _) (by simp [encOrder1, encOrder1]) rfl pk_) ?_)
                rintro _ _ ⟨rfl, rfl⟩
                refine l_nil ?_
                refine k_blk_n ?_
                refine k_then_n ?_
                refine c_region ?_
                refine e_mv rfl ?_
                refine e_q (q_add rfl rfl (by omega) (by omega)) ?_
                refine e_as rfl ?_
                refine l_n ?_
                exact t_next (⟨(y.d.1 + 1, T1, c1, y.d.2.2.2.1, y.d.2.2.2.2.1, y.d.2.2.2.2.2.1, true, oo), y.a1, y.c1, none, 0, none, 0⟩ : Lp _) ⟨⟨by show y.d.1 + 1 ≤ _; omega, hH1, hy3, hy4, hy5, by show y.d.2.2.2.2.2.1.length ≤ 21 * x.d.1 + (y.d.1 + 1); omega, hy7⟩, by show _ - (y.d.1 + 1) < _; omega⟩ (.c (.c (.c (.c (.c (.c (.c (.c (.c (.c (.c (.c (.c (.c (.c (.c (.c (.c (.c (.c (.c (.c (.c (.c (.c (.c (.c (.c (.c (.c (.c (.c (.c (.c (.c (.c (.nil _))))))))))))))))))))))))))))))))))))) (by refine Ent.pick pk_ ?_; refine Ent.pick pk_ ?_; refine Ent.pick pk_ ?_; refine Ent.pick pk_ ?_; refine Ent.pick pk_ ?_; refine Ent.pick pk_ ?_; refine Ent.pick pk_ ?_; repeat (first | exact Ent.refl _ | refine Ent.skip ?_))
            · try simp only [decide_eq_true_eq, decide_eq_false_iff_not] at h5
              refine c_exit ?_
              refine k_then_x ?_
              refine k_then_x ?_
              refine k_blk_x ?_
              refine k_then_n ?_
              exact t_next (y.d.2.1, y.d.2.2.1, y.d.2.2.2.1, y.d.2.2.2.2.1, y.d.2.2.2.2.2.1, y.d.2.2.2.2.2.2.1, (if y.d.2.2.2.2.2.2.1 = true then hearK y.d.2.2.2.1 y.d.2.2.2.2.2.2.2 else y.d.2.2.2.1), y.d.2.2.2.2.2.2.2, y.a1, y.c1) ⟨hy2.ei, hy2.1, hy3, hy4, by show y.d.2.2.2.2.1 ≤ (x.d.1 : Int) + 1; omega, by show y.d.2.2.2.2.2.1.length ≤ 21 * x.d.1 + 20; omega⟩ (.c (.c (.c (.c (.c (.c (.c (.c (.c (.c (.c (.c (.c (.c (.c (.c (.c (.c (.c (.c (.c (.c (.c (.c (.c (.c (.c (.c (.c (.c (.c (.c (.c (.c (.c (.nil _)))))))))))))))))))))))))))))))))))) (by refine Ent.pick pk_ ?_; refine Ent.pick pk_ ?_; refine Ent.pick pk_ ?_; refine Ent.pick pk_ ?_; refine Ent.pick pk_ ?_; refine Ent.pick pk_ ?_; refine Ent.pick pk_ ?_; repeat (first | exact Ent.refl _ | refine Ent.skip ?_))
          · try simp only [decide_eq_true_eq, decide_eq_false_iff_not] at h4
            refine sr ?_
            refine e_q (q_eql rfl rfl) ?_
            refine e_as rfl ?_
            refine l_n ?_
            refine c_cond rfl (fun h9 => ?_) (fun h9 => ?_)
            · try simp only [decide_eq_true_eq, decide_eq_false_iff_not] at h9
              refine sr ?_
              refine e_mv rfl ?_
              refine e_fn Tryz.func30 rfl sl_ (fun ρ' hL => tick3_spec bD x.d.2.2.2.1 mbD x.d.2.2.1 x.d.2.1 x.d.2.2.2.2.1 wk x.d.2.2.2.2.2.1 x.d.2.2.2.2.2.2.1 x.d.2.2.2.2.2.2.2.1 x.d.2.2.2.2.2.2.2.2 ρ' hcb hx2 hx3 hx4 (by omega)) ?_
              rintro _ _ (⟨T1, c1, rfl, rfl, hka, hcb1, hA1, hO1⟩ | ⟨T1, w1, rfl, rfl, hw1, hv1⟩ | ⟨T1, c1, rfl, rfl, hka, hcb1, hR1⟩)
              try simp only [List.cons_append, List.nil_append]
              · skip
                try simp only [List.cons_append, List.nil_append]
                refine l_n ?_
                refine c_yes rfl ?_
                refine c_seq ?_
                refine sr ?_
                refine e_mv rfl ?_
                refine e_q (q_eql rfl rfl) ?_
                refine e_mv rfl ?_
                refine Tr.env (.cons (t := 132) (v := .bool false) rfl (congrArg Value.bool (decide_eq_false hka)) (EnvLe.refl _)) ?_
                refine e_qw (wy rfl rfl rfl) (q_move rfl) ?_
                refine l_step (s_fnr rfl (wy rfl rfl rfl) Tryz.func33 rfl (by kernel_rfl) rfl sl_ (fun ρ' hL => done_spec x.d.2.2.2.1 (tickK x.d.2.2.2.2.1) 7 wk (x.d.2.2.2.2.2.1 + 1) false bD ρ') ?_)
                refine e_qw (wy rfl rfl rfl) (q_move rfl) ?_
                refine e_qw (wy rfl rfl rfl) (q_neq rfl rfl) ?_
                refine e_q (q_pick rfl rfl rfl) ?_
                refine e_mv rfl ?_
                refine Tr.env (.cons (t := 138) (v := .bool false) rfl (congrArg Value.bool (decide_eq_false (fun h99 => h99 rfl))) (EnvLe.refl _)) ?_
                refine e_qw (wy rfl rfl rfl) (q_move rfl) ?_
                refine l_step (s_fnr rfl (wy rfl rfl rfl) Tryz.func31 rfl (by kernel_rfl) rfl sl_ (fun ρ' hL => busy_spec x.d.2.2.2.1 (tickK x.d.2.2.2.2.1) 7 wk (x.d.2.2.2.2.2.1 + 1) false bD ρ') ?_)
                refine e_qw (wy rfl rfl rfl) (q_neq rfl rfl) ?_
                refine e_q (q_pick rfl rfl rfl) ?_
                refine l_n ?_
                refine c_sure false rfl (decide_eq_false (fun h99 => h99 rfl)) ?_
                simp only [Bool.false_eq_true, if_true, if_false]
                refine c_skip ?_
                refine k_then_n ?_
                refine c_region ?_
                refine e_mv rfl ?_
                refine e_as rfl ?_
                refine e_as rfl ?_
                refine l_n ?_
                exact t_next (T1, c1, tickK x.d.2.2.2.2.1, x.d.2.2.2.2.2.1 + 1, x.d.2.2.2.2.2.2.1, false, tickK x.d.2.2.2.2.1, (⟨0, 0, 0, 0⟩ : Order1), x.a1, x.c1) ⟨.inl ⟨rfl, hA1, rfl⟩, hcb1, hO1, by show 0 ≤ x.d.2.2.2.2.2.1 + 1; omega, by show x.d.2.2.2.2.2.1 + 1 ≤ (x.d.1 : Int) + 1; omega, by show x.d.2.2.2.2.2.2.1.length ≤ 21 * x.d.1 + 20; omega⟩ (.c (.c (.c (.c (.c (.c (.c (.c (.c (.c (.c (.c (.c (.c (.c (.c (.c (.c (.c (.c (.c (.c (.c (.c (.c (.c (.c (.c (.c (.c (.c (.c (.c (.c (.c (.nil _)))))))))))))))))))))))))))))))))))) (by refine Ent.pick pk_ ?_; refine Ent.pick pk_ ?_; refine Ent.pick pk_ ?_; refine Ent.pick pk_ ?_; refine Ent.pick pk_ ?_; refine Ent.pick pk_ ?_; refine Ent.pick pk_ ?_; repeat (first | exact Ent.refl _ | refine Ent.skip ?_))
              · skip
                try simp only [List.cons_append, List.nil_append]
                refine l_n ?_
                refine c_no rfl ?_
                refine c_skip ?_
                refine k_then_n ?_
                exact t_next (T1, x.d.2.2.1, x.d.2.2.2.2.1, w1, x.d.2.2.2.2.2.2.1, false, x.d.2.2.2.2.1, (⟨0, 0, 0, 0⟩ : Order1), x.a1, x.c1) ⟨.inl ⟨rfl, by rw [hv1]; exact hx2, rfl⟩, hcb, hx3, by show 0 ≤ w1; omega, by show w1 ≤ (x.d.1 : Int) + 1; omega, by show x.d.2.2.2.2.2.2.1.length ≤ 21 * x.d.1 + 20; omega⟩ (.c (.c (.c (.c (.c (.c (.c (.c (.c (.c (.c (.c (.c (.c (.c (.c (.c (.c (.c (.c (.c (.c (.c (.c (.c (.c (.c (.c (.c (.c (.c (.c (.c (.c (.c (.nil _)))))))))))))))))))))))))))))))))))) (by refine Ent.pick pk_ ?_; refine Ent.pick pk_ ?_; refine Ent.pick pk_ ?_; refine Ent.pick pk_ ?_; refine Ent.pick pk_ ?_; refine Ent.pick pk_ ?_; refine Ent.pick pk_ ?_; repeat (first | exact Ent.refl _ | refine Ent.skip ?_))
              · skip
                try simp only [List.cons_append, List.nil_append]
                refine l_n ?_
                refine c_no rfl ?_
                refine c_skip ?_
                refine k_then_n ?_
                exact t_next (T1, c1, x.d.2.2.2.2.1, x.d.2.2.2.2.2.1 + 1, x.d.2.2.2.2.2.2.1, true, tickK x.d.2.2.2.2.1, (⟨0, 0, 0, 0⟩ : Order1), x.a1, x.c1) ⟨.inr ⟨rfl, hR1, .inr ⟨hka, rfl⟩⟩, hcb1, hx3, by show 0 ≤ x.d.2.2.2.2.2.1 + 1; omega, by show x.d.2.2.2.2.2.1 + 1 ≤ (x.d.1 : Int) + 1; omega, by show x.d.2.2.2.2.2.2.1.length ≤ 21 * x.d.1 + 20; omega⟩ (.c (.c (.c (.c (.c (.c (.c (.c (.c (.c (.c (.c (.c (.c (.c (.c (.c (.c (.c (.c (.c (.c (.c (.c (.c (.c (.c (.c (.c (.c (.c (.c (.c (.c (.c (.nil _)))))))))))))))))))))))))))))))))))) (by refine Ent.pick pk_ ?_; refine Ent.pick pk_ ?_; refine Ent.pick pk_ ?_; refine Ent.pick pk_ ?_; refine Ent.pick pk_ ?_; refine Ent.pick pk_ ?_; refine Ent.pick pk_ ?_; repeat (first | exact Ent.refl _ | refine Ent.skip ?_))
            · try simp only [decide_eq_true_eq, decide_eq_false_iff_not] at h9
              refine sr ?_
              refine e_q (q_eql rfl rfl) ?_
              refine e_as rfl ?_
              refine l_n ?_
              refine c_cond rfl (fun h12 => ?_) (fun h12 => ?_)
              · try simp only [decide_eq_true_eq, decide_eq_false_iff_not] at h12
                refine c_region ?_
                refine e_mv rfl ?_
                refine e_q (q_fieldp rfl fo_74_1) ?_
                refine e_q (q_loadp (v := .int .i64 ((acts.getD x.d.1 default).N)) sc_3 rfl pk_ rfl) ?_
                refine e_fn Tryz.func16 rfl sl_ (fun ρ' hL => Go.Dsk.stop_spec bD 100000 mbD x.d.2.2.1 x.d.2.1 (acts.getD x.d.1 default).N ρ') ?_
                rintro _ _ ⟨rfl, rfl⟩
                try simp only [List.cons_append, List.nil_append]
                refine l_n ?_
                exact t_next (x.d.2.1, (if (-1) > (acts.getD x.d.1 default).N then (-1) else (acts.getD x.d.1 default).N), x.d.2.2.2.2.1, x.d.2.2.2.2.2.1, x.d.2.2.2.2.2.2.1, false, x.d.2.2.2.2.1, (⟨0, 0, 0, 0⟩ : Order1), x.a1, x.c1) ⟨.inl ⟨rfl, hx2, rfl⟩, cb_stop hN9, hx3, hx4, by show x.d.2.2.2.2.2.1 ≤ (x.d.1 : Int) + 1; omega, by show x.d.2.2.2.2.2.2.1.length ≤ 21 * x.d.1 + 20; omega⟩ (.c (.c (.c (.c (.c (.c (.c (.c (.c (.c (.c (.c (.c (.c (.c (.c (.c (.c (.c (.c (.c (.c (.c (.c (.c (.c (.c (.c (.c (.c (.c (.c (.c (.c (.c (.nil _)))))))))))))))))))))))))))))))))))) (by refine Ent.pick pk_ ?_; refine Ent.pick pk_ ?_; refine Ent.pick pk_ ?_; refine Ent.pick pk_ ?_; refine Ent.pick pk_ ?_; refine Ent.pick pk_ ?_; refine Ent.pick pk_ ?_; repeat (first | exact Ent.refl _ | refine Ent.skip ?_))
              · try simp only [decide_eq_true_eq, decide_eq_false_iff_not] at h12
                refine c_skip ?_
                refine k_then_n ?_
                exact t_next (x.d.2.1, x.d.2.2.1, x.d.2.2.2.2.1, x.d.2.2.2.2.2.1, x.d.2.2.2.2.2.2.1, false, x.d.2.2.2.2.1, (⟨0, 0, 0, 0⟩ : Order1), x.a1, x.c1) ⟨.inl ⟨rfl, hx2, rfl⟩, hcb, hx3, hx4, by show x.d.2.2.2.2.2.1 ≤ (x.d.1 : Int) + 1; omega, by show x.d.2.2.2.2.2.2.1.length ≤ 21 * x.d.1 + 20; omega⟩ (.c (.c (.c (.c (.c (.c (.c (.c (.c (.c (.c (.c (.c (.c (.c (.c (.c (.c (.c (.c (.c (.c (.c (.c (.c (.c (.c (.c (.c (.c (.c (.c (.c (.c (.c (.nil _)))))))))))))))))))))))))))))))))))) (by refine Ent.pick pk_ ?_; refine Ent.pick pk_ ?_; refine Ent.pick pk_ ?_; refine Ent.pick pk_ ?_; refine Ent.pick pk_ ?_; refine Ent.pick pk_ ?_; refine Ent.pick pk_ ?_; repeat (first | exact Ent.refl _ | refine Ent.skip ?_))
        intro j9 hj9
        obtain ⟨hE, hcbj, hO, hw0, hw1, hbl⟩ := hj9
        refine k_blk_n ?_
        refine k_then_n ?_
        refine c_seq ?_
        refine sr ?_
        refine e_mv rfl ?_
        refine l_step (s_fnr rfl wn Tryz.func35 rfl (by kernel_rfl) rfl sl_ (fun ρ' hL => down_spec x.d.2.2.2.1 j9.2.2.1 7 wk j9.2.2.2.1 j9.2.2.2.2.2.1 bD ρ') ?_)
        refine e_mv rfl ?_
        refine l_step (s_qg rfl (ask_f rfl rfl) (b := (!(j9.2.2.2.2.2.1))) (fun hb => q_fieldp rfl fo_74_0) ?_)
        refine l_step (s_qg rfl (ask_f rfl rfl) (b := (!(j9.2.2.2.2.2.1))) (fun hb => OpQ.env (.cons rfl (gd_t hb) (.nil _) : EnvLe [(153, .pointer (some ⟨b16, 0, none⟩))] _) (q_loadp (v := .int .i64 ((acts.getD x.d.1 default).Kind)) sc_3 rfl pk_ rfl)) ?_)
        refine l_step (s_qg rfl (ask_f rfl rfl) (b := (!(j9.2.2.2.2.2.1))) (fun hb => OpQ.env (.cons rfl (gd_t hb) (.nil _) : EnvLe [(154, .int .i64 ((acts.getD x.d.1 default).Kind))] _) (q_eql rfl rfl)) ?_)
        refine e_q (q_pick_or rfl rfl rfl (fun h => by first | (rw [h]; rfl) | exact congrArg not h)) ?_
        refine l_n ?_
        refine c_cond rfl (fun h13 => ?_) (fun h13 => ?_)
        · try simp only [decide_eq_true_eq, decide_eq_false_iff_not, Bool.or_eq_true, Bool.or_eq_false_iff] at h13
          refine sr ?_
          refine e_mv rfl ?_
          refine e_q (q_fieldp rfl fo_74_3) ?_
          refine e_q (q_loadp (v := .slice (((acts.getD x.d.1 default).Keep).a) (((acts.getD x.d.1 default).Keep).xs.length) (((acts.getD x.d.1 default).Keep).cap)) sc_37 rfl pk_ rfl) ?_
          refine e_fn Tryz.func18 rfl sl_ (fun ρ' hL => Go.Dsk.V.crash_spec bD 100000 mbD j9.2.1 j9.1 (acts.getD x.d.1 default).Keep.a (acts.getD x.d.1 default).Keep.xs.length (acts.getD x.d.1 default).Keep.cap (acts.getD x.d.1 default).Keep.xs rfl ρ' (Go.Dsk.fok.2 hE.vok.1) (Ro.mono hL.1 hAk.kp)) ?_
          rintro _ _ ⟨T2, rfl, hvT2, rfl⟩
          try simp only [List.cons_append, List.nil_append]
          generalize (crR (acts.getD x.d.1 default).Keep.xs (vw j9.1)).2 = gT2
          refine l_n ?_
          refine sr ?_
          refine e_mv rfl ?_
          refine e_mv rfl ?_
          refine e_fn Tryz.func28 rfl sl_ (fun ρ' hL => open3_spec bD mbD T2 wk (acts.getD x.d.1 default).Keep.xs (vw j9.1) j9.2.2.1 j9.2.2.2.2.2.2.1 j9.2.2.2.2.2.1 j9.2.2.2.2.2.2.2.1 j9.2.2.2.2.1 x.d.2.2.2.2.2.2.2.1 x.d.2.2.2.2.2.2.2.2 ρ' hvT2 hE hO hwk1) ?_
          rintro _ _ (⟨aB, T3, rfl, rfl, hA3⟩ | ⟨aB, T3, rfl, rfl, hA3, hka3, htz, htb, hO3⟩ | ⟨aB, T3, rfl, rfl, hA3, hka3, hO3⟩)
          try simp only [List.cons_append, List.nil_append]
          · skip
            try simp only [List.cons_append, List.nil_append]
            have hO3 := hO
            refine e_mv rfl ?_
            refine e_q (q_extract rfl rfl) ?_
            refine e_q (q_extract rfl rfl) ?_
            refine e_as rfl ?_
            refine e_as rfl ?_
            refine l_n ?_
            refine c_seq ?_
            refine sr ?_
            refine e_mv rfl ?_
            refine e_q (by first | exact q_eqlp rfl rfl Tryz.underlying64 | exact q_eqlp0 rfl rfl Tryz.underlying64) ?_
            refine e_mv rfl ?_
            refine e_qw (wy rfl rfl rfl) (q_move rfl) ?_
            refine e_qw (wy rfl rfl rfl) (q_neq rfl rfl) ?_
            refine e_q (q_pick rfl rfl rfl) ?_
            refine l_n ?_
            refine c_sure false rfl (by rfl) ?_
            simp only [Bool.false_eq_true, if_true, if_false]
            refine c_skip ?_
            refine k_then_n ?_
            refine sr ?_
            refine e_mv rfl ?_
            refine l_step (s_fnr rfl wn Tryz.func31 rfl (by kernel_rfl) rfl sl_ (fun ρ' hL => busy_spec aB j9.2.2.1 7 wk 0 false bD ρ') ?_)
            refine e_mv rfl ?_
            refine e_q (q_neq rfl rfl) ?_
            refine l_n ?_
            refine c_sure false rfl (decide_eq_false (fun h99 => h99 rfl)) ?_
            simp only [Bool.false_eq_true, if_true, if_false]
            refine c_skip ?_
            refine k_then_n ?_
            refine c_seq ?_
            refine sr ?_
            refine e_mv rfl ?_
            refine l_step (s_fnr rfl wn Tryz.func33 rfl (by kernel_rfl) rfl sl_ (fun ρ' hL => done_spec aB j9.2.2.1 7 wk 0 false bD ρ') ?_)
            refine e_mv rfl ?_
            refine e_q (q_neq rfl rfl) ?_
            refine e_mv rfl ?_
            refine Tr.env (.cons (t := 231) (v := .bool false) rfl (congrArg Value.bool (decide_eq_false (fun h99 => h99 rfl))) (EnvLe.refl _)) ?_
            refine e_qw (wy rfl rfl rfl) (q_move rfl) ?_
            refine e_qw (wy rfl rfl rfl) (q_nilCheck rfl) ?_
            refine e_qw (wy rfl rfl rfl) (q_fieldp rfl fo_81_0) ?_
            refine e_qw (wy rfl rfl rfl) (q_fieldp rfl fo_79_0) ?_
            refine e_qw (wy rfl rfl rfl) (q_fieldp rfl fo_77_0) ?_
            refine e_qw (wy rfl rfl rfl) (q_loadp (v := .int .i64 j9.2.2.1.Fence.ID) sc_3 rfl pk_ rfl) ?_
            refine e_qw (wy rfl rfl rfl) (q_move rfl) ?_
            refine e_qw (wy rfl rfl rfl) (q_lss rfl rfl) ?_
            refine e_q (q_pick rfl rfl rfl) ?_
            refine e_mv rfl ?_
            refine Tr.env (.cons (t := 241) (v := .bool false) rfl (congrArg Value.bool (decide_eq_false (by have h99 := hO3.id; omega))) (EnvLe.refl _)) ?_
            refine e_qw (wy rfl rfl rfl) (q_move rfl) ?_
            refine e_qw (wy rfl rfl rfl) (q_nilCheck rfl) ?_
            refine e_qw (wy rfl rfl rfl) (q_fieldp rfl fo_81_0) ?_
            refine e_qw (wy rfl rfl rfl) (q_fieldp rfl fo_79_0) ?_
            refine e_qw (wy rfl rfl rfl) (q_fieldp rfl fo_77_1) ?_
            refine e_qw (wy rfl rfl rfl) (q_loadp (v := .int .i64 j9.2.2.1.Fence.Epoch) sc_3 rfl pk_ rfl) ?_
            refine e_qw (wy rfl rfl rfl) (q_move rfl) ?_
            refine e_qw (wy rfl rfl rfl) (q_lss rfl rfl) ?_
            refine e_q (q_pick rfl rfl rfl) ?_
            refine e_mv rfl ?_
            refine Tr.env (.cons (t := 251) (v := .bool false) rfl (congrArg Value.bool (decide_eq_false (by have h99 := hO3.ep; omega))) (EnvLe.refl _)) ?_
            refine e_qw (wy rfl rfl rfl) (q_move rfl) ?_
            refine l_step (s_fnr rfl (wy rfl rfl rfl) Tryz.func31 rfl (by kernel_rfl) rfl sl_ (fun ρ' hL => busy_spec aB j9.2.2.1 7 wk 0 false bD ρ') ?_)
            refine e_qw (wy rfl rfl rfl) (q_move rfl) ?_
            refine e_qw (wy rfl rfl rfl) (q_neq rfl rfl) ?_
            refine e_q (q_pick rfl rfl rfl) ?_
            refine e_mv rfl ?_
            refine Tr.env (.cons (t := 257) (v := .bool false) rfl (congrArg Value.bool (decide_eq_false (fun h99 => h99 rfl))) (EnvLe.refl _)) ?_
            refine e_qw (wy rfl rfl rfl) (q_move rfl) ?_
            refine l_step (s_fnr rfl (wy rfl rfl rfl) Tryz.func33 rfl (by kernel_rfl) rfl sl_ (fun ρ' hL => done_spec aB j9.2.2.1 7 wk 0 false bD ρ') ?_)
            refine e_qw (wy rfl rfl rfl) (q_neq rfl rfl) ?_
            refine e_qw (wy rfl rfl rfl) (q_move rfl) ?_
            refine t_split (d := 261) rfl (fun g54_34 => ?_) (fun g54_34 => ?_)
            · try simp only [decide_eq_true_eq, decide_eq_false_iff_not, ne_eq, Decidable.not_not] at g54_34
              refine e_qw (wy rfl rfl rfl) (q_move rfl) ?_
              refine e_qw (wy rfl rfl rfl) (q_move rfl) ?_
              refine l_step (s_fnr rfl (wy rfl rfl rfl) Tryz.func33 rfl (by kernel_rfl) rfl sl_ (fun ρ' hL => done_spec aB j9.2.2.1 7 wk 0 false bD ρ') ?_)
              refine l_step (s_fnq rfl (wy rfl rfl rfl) Tryz.func34 rfl (by kernel_rfl) rfl (fun ρ' hL => has_spec j9.2.2.2.2.2.2.2.2.1 j9.2.2.2.2.1.length j9.2.2.2.2.2.2.2.2.2 j9.2.2.2.2.1 (by first | rfl | simp) j9.2.2.1.done ρ' (hL.row pk_)) ?_)
              refine e_qw (wy rfl rfl rfl) (q_not rfl) ?_
              refine e_qw (wy rfl rfl rfl) (q_pick rfl rfl rfl) ?_
              refine e_q (q_pick rfl rfl rfl) ?_
              refine l_n ?_
              refine c_sure false rfl (by rw [has_of_dn hO3 g54_34]; rfl) ?_
              simp only [Bool.false_eq_true, if_true, if_false]
              refine c_skip ?_
              refine k_then_n ?_
              refine d_r 14 [.pts aB (encAgent1 (⟨j9.2.2.1, (some bD), 7, wk, 0, false⟩ : Agent1)) 81, .pts b17 (encOrder1 j9.2.2.2.2.2.2.2.1) 69, .pts b16 (encAAct (⟨(acts.getD x.d.1 default).Kind, (acts.getD x.d.1 default).N, (acts.getD x.d.1 default).Os, (acts.getD x.d.1 default).Keep, (acts.getD x.d.1 default).B⟩ : AAct)) 74, .row 3 1 j9.2.2.2.2.2.2.2.2.1 j9.2.2.2.2.1.length j9.2.2.2.2.2.2.2.2.2 (j9.2.2.2.2.1.flatMap encI), .pts x.d.2.2.2.1 (encAgent1 (⟨j9.2.2.1, (some bD), 7, wk, j9.2.2.2.1, j9.2.2.2.2.2.1⟩ : Agent1)) 81, .pts bD (encDisk1 (⟨100000, (some mbD), (-1)⟩ : Disk1)) 105, MP strB ptV mbD (fm T3), FB 109 5 T3] ?_
              refine d_t 0 rfl wn (q_move rfl) ?_
              refine d_t 1 rfl wn (q_nilCheck rfl) ?_
              refine d_t 2 rfl wn (q_fieldp rfl fo_81_0) ?_
              refine d_t 3 rfl wn (q_fieldp rfl fo_79_0) ?_
              refine d_t 4 rfl wn (q_fieldp rfl fo_77_0) ?_
              refine d_t 5 rfl wn (q_loadp (v := .int .i64 j9.2.2.1.Fence.ID) sc_3 rfl pk_ rfl) ?_
              refine d_t 6 rfl wn (q_move rfl) ?_
              refine d_t 7 rfl wn (q_nilCheck rfl) ?_
              refine d_t 8 rfl wn (q_fieldp rfl fo_81_0) ?_
              refine d_t 9 rfl wn (q_fieldp rfl fo_79_0) ?_
              refine d_t 10 rfl wn (q_fieldp rfl fo_77_1) ?_
              refine d_t 11 rfl wn (q_loadp (v := .int .i64 j9.2.2.1.Fence.Epoch) sc_3 rfl pk_ rfl) ?_
              refine d_t 12 rfl wn (q_assign rfl) ?_
              refine d_t 13 rfl wn (q_assign rfl) ?_
              refine d_d ?_
              refine k_blk_n ?_
              refine k_then_n ?_
              refine c_region ?_
              refine e_mv rfl ?_
              refine e_q (q_add rfl rfl (by omega) (by omega)) ?_
              refine e_as rfl ?_
              refine l_n ?_
              exact t_next (⟨(x.d.1 + 1, T3, -1, aB, j9.2.2.1, 0, j9.2.2.2.2.1, j9.2.2.1.Fence.ID, j9.2.2.1.Fence.Epoch), j9.2.2.2.2.2.2.2.2.1, j9.2.2.2.2.2.2.2.2.2, none, 0, none, 0⟩ : Lp _) ⟨⟨by show x.d.1 + 1 ≤ _; omega, hA3, of_up hO3, Int.le_refl 0, by show (0 : Int) ≤ ((x.d.1 + 1 : Nat) : Int); omega, ⟨Int.le_refl (-1), (show (-1 : Int) ≤ 9223372036854775807 by decide)⟩, by show j9.2.2.2.2.1.length ≤ 21 * (x.d.1 + 1); omega⟩, by show _ - (x.d.1 + 1) < _; omega⟩ (.c (.c (.c (.c (.c (.c (.c (.c (.c (.c (.nil _))))))))))) (by refine Ent.pick pk_ ?_; refine Ent.pick pk_ ?_; refine Ent.pick pk_ ?_; refine Ent.pick pk_ ?_; refine Ent.pick pk_ ?_; repeat (first | exact Ent.refl _ | refine Ent.skip ?_))
            · try simp only [decide_eq_true_eq, decide_eq_false_iff_not, ne_eq, Decidable.not_not] at g54_34
              refine l_step (s_no rfl (wno rfl rfl (by decide)) ?_)
              refine l_step (s_no rfl (wno rfl rfl (by decide)) ?_)
              refine l_step (s_no rfl (wno rfl rfl (by decide)) ?_)
              refine l_step (s_no rfl (wno rfl rfl (by decide)) ?_)
              refine l_step (s_no rfl (wno rfl rfl (by decide)) ?_)
              refine e_qw (wy rfl rfl rfl) (q_pick rfl rfl rfl) ?_
              refine e_q (q_pick rfl rfl rfl) ?_
              refine l_n ?_
              refine c_no rfl ?_
              refine c_skip ?_
              refine k_then_n ?_
              refine d_r 14 [.pts aB (encAgent1 (⟨j9.2.2.1, (some bD), 7, wk, 0, false⟩ : Agent1)) 81, .pts b17 (encOrder1 j9.2.2.2.2.2.2.2.1) 69, .pts b16 (encAAct (⟨(acts.getD x.d.1 default).Kind, (acts.getD x.d.1 default).N, (acts.getD x.d.1 default).Os, (acts.getD x.d.1 default).Keep, (acts.getD x.d.1 default).B⟩ : AAct)) 74, .row 3 1 j9.2.2.2.2.2.2.2.2.1 j9.2.2.2.2.1.length j9.2.2.2.2.2.2.2.2.2 (j9.2.2.2.2.1.flatMap encI), .pts x.d.2.2.2.1 (encAgent1 (⟨j9.2.2.1, (some bD), 7, wk, j9.2.2.2.1, j9.2.2.2.2.2.1⟩ : Agent1)) 81, .pts bD (encDisk1 (⟨100000, (some mbD), (-1)⟩ : Disk1)) 105, MP strB ptV mbD (fm T3), FB 109 5 T3] ?_
              refine d_t 0 rfl wn (q_move rfl) ?_
              refine d_t 1 rfl wn (q_nilCheck rfl) ?_
              refine d_t 2 rfl wn (q_fieldp rfl fo_81_0) ?_
              refine d_t 3 rfl wn (q_fieldp rfl fo_79_0) ?_
              refine d_t 4 rfl wn (q_fieldp rfl fo_77_0) ?_
              refine d_t 5 rfl wn (q_loadp (v := .int .i64 j9.2.2.1.Fence.ID) sc_3 rfl pk_ rfl) ?_
              refine d_t 6 rfl wn (q_move rfl) ?_
              refine d_t 7 rfl wn (q_nilCheck rfl) ?_
              refine d_t 8 rfl wn (q_fieldp rfl fo_81_0) ?_
              refine d_t 9 rfl wn (q_fieldp rfl fo_79_0) ?_
              refine d_t 10 rfl wn (q_fieldp rfl fo_77_1) ?_
              refine d_t 11 rfl wn (q_loadp (v := .int .i64 j9.2.2.1.Fence.Epoch) sc_3 rfl pk_ rfl) ?_
              refine d_t 12 rfl wn (q_assign rfl) ?_
              refine d_t 13 rfl wn (q_assign rfl) ?_
              refine d_d ?_
              refine k_blk_n ?_
              refine k_then_n ?_
              refine c_region ?_
              refine e_mv rfl ?_
              refine e_q (q_add rfl rfl (by omega) (by omega)) ?_
              refine e_as rfl ?_
              refine l_n ?_
              exact t_next (⟨(x.d.1 + 1, T3, -1, aB, j9.2.2.1, 0, j9.2.2.2.2.1, j9.2.2.1.Fence.ID, j9.2.2.1.Fence.Epoch), j9.2.2.2.2.2.2.2.2.1, j9.2.2.2.2.2.2.2.2.2, none, 0, none, 0⟩ : Lp _) ⟨⟨by show x.d.1 + 1 ≤ _; omega, hA3, of_up hO3, Int.le_refl 0, by show (0 : Int) ≤ ((x.d.1 + 1 : Nat) : Int); omega, ⟨Int.le_refl (-1), (show (-1 : Int) ≤ 9223372036854775807 by decide)⟩, by show j9.2.2.2.2.1.length ≤ 21 * (x.d.1 + 1); omega⟩, by show _ - (x.d.1 + 1) < _; omega⟩ (.c (.c (.c (.c (.c (.c (.c (.c (.c (.c (.nil _))))))))))) (by refine Ent.pick pk_ ?_; refine Ent.pick pk_ ?_; refine Ent.pick pk_ ?_; refine Ent.pick pk_ ?_; refine Ent.pick pk_ ?_; repeat (first | exact Ent.refl _ | refine Ent.skip ?_))
          · skip
            try simp only [List.cons_append, List.nil_append]
            refine e_mv rfl ?_
            refine e_q (q_extract rfl rfl) ?_
            refine e_q (q_extract rfl rfl) ?_
            refine e_as rfl ?_
            refine e_as rfl ?_
            refine l_n ?_
            refine c_seq ?_
            refine sr ?_
            refine e_mv rfl ?_
            refine e_q (by first | exact q_eqlp rfl rfl Tryz.underlying64 | exact q_eqlp0 rfl rfl Tryz.underlying64) ?_
            refine e_mv rfl ?_
            refine e_qw (wy rfl rfl rfl) (q_move rfl) ?_
            refine e_qw (wy rfl rfl rfl) (q_neq rfl rfl) ?_
            refine e_q (q_pick rfl rfl rfl) ?_
            refine l_n ?_
            refine c_sure false rfl (by rfl) ?_
            simp only [Bool.false_eq_true, if_true, if_false]
            refine c_skip ?_
            refine k_then_n ?_
            refine sr ?_
            refine e_mv rfl ?_
            refine l_step (s_fnr rfl wn Tryz.func31 rfl (by kernel_rfl) rfl sl_ (fun ρ' hL => busy_spec aB (hearK j9.2.2.1 j9.2.2.2.2.2.2.2.1) 7 wk 0 false bD ρ') ?_)
            refine e_mv rfl ?_
            refine e_q (q_neq rfl rfl) ?_
            refine l_n ?_
            refine c_sure true rfl (decide_eq_true (fun h99 => htz (h99.trans hka3))) ?_
            simp only [Bool.false_eq_true, if_true, if_false]
            refine c_seq ?_
            refine d_r 22 [.pts aB (encAgent1 (⟨(hearK j9.2.2.1 j9.2.2.2.2.2.2.2.1), (some bD), 7, wk, 0, false⟩ : Agent1)) 81, .pts b17 (encOrder1 j9.2.2.2.2.2.2.2.1) 69, .pts b16 (encAAct (⟨(acts.getD x.d.1 default).Kind, (acts.getD x.d.1 default).N, (acts.getD x.d.1 default).Os, (acts.getD x.d.1 default).Keep, (acts.getD x.d.1 default).B⟩ : AAct)) 74, .row 3 1 j9.2.2.2.2.2.2.2.2.1 j9.2.2.2.2.1.length j9.2.2.2.2.2.2.2.2.2 (j9.2.2.2.2.1.flatMap encI), .pts x.d.2.2.2.1 (encAgent1 (⟨j9.2.2.1, (some bD), 7, wk, j9.2.2.2.1, j9.2.2.2.2.2.1⟩ : Agent1)) 81, .pts bD (encDisk1 (⟨100000, (some mbD), (-1)⟩ : Disk1)) 105, MP strB ptV mbD (fm T3), FB 109 5 T3] ?_
            refine d_t 0 rfl wn (q_move rfl) ?_
            refine d_t 1 rfl wn (q_eql rfl rfl) ?_
            refine d_t 2 rfl wn (q_move rfl) ?_
            refine Tr.env (.cons (t := 179) (v := .bool true) rfl (congrArg Value.bool (decide_eq_true hka3)) (EnvLe.refl _)) ?_
            refine d_t 3 rfl (wy rfl rfl rfl) (q_move rfl) ?_
            refine d_t 5 rfl (wy rfl rfl rfl) (q_fieldp rfl fo_69_0) ?_
            refine d_t 6 rfl (wy rfl rfl rfl) (q_loadp (v := .int .i64 j9.2.2.2.2.2.2.2.1.ID) sc_3 rfl pk_ rfl) ?_
            refine d_1 4 ?_
            refine o_step rfl (s_fnr rfl (wy rfl rfl rfl) Tryz.func31 rfl (by kernel_rfl) rfl sl_ (fun ρ' hL => busy_spec aB (hearK j9.2.2.1 j9.2.2.2.2.2.2.2.1) 7 wk 0 false bD ρ') ?_)
            refine d_c ?_
            refine d_t 7 rfl (wy rfl rfl rfl) (q_eql rfl rfl) ?_
            refine d_t 8 rfl wn (q_pick rfl rfl rfl) ?_
            refine d_t 9 rfl wn (q_move rfl) ?_
            refine Tr.env (.cons (t := 186) (v := .bool true) rfl (congrArg Value.bool (decide_eq_true rfl)) (EnvLe.refl _)) ?_
            refine d_t 10 rfl (wy rfl rfl rfl) (q_fieldp rfl fo_69_0) ?_
            refine d_t 11 rfl (wy rfl rfl rfl) (q_loadp (v := .int .i64 j9.2.2.2.2.2.2.2.1.ID) sc_3 rfl pk_ rfl) ?_
            refine d_t 12 rfl (wy rfl rfl rfl) (q_neq rfl rfl) ?_
            refine d_t 13 rfl wn (q_pick rfl rfl rfl) ?_
            refine d_t 14 rfl wn (q_move rfl) ?_
            refine Tr.env (.cons (t := 191) (v := .bool true) rfl (congrArg Value.bool (decide_eq_true htz)) (EnvLe.refl _)) ?_
            refine d_t 15 rfl (wy rfl rfl rfl) (q_move rfl) ?_
            refine d_t 16 rfl (wy rfl rfl rfl) (q_fieldp rfl fo_69_0) ?_
            refine d_t 17 rfl (wy rfl rfl rfl) (q_loadp (v := .int .i64 j9.2.2.2.2.2.2.2.1.ID) sc_3 rfl pk_ rfl) ?_
            refine d_1 18 ?_
            refine o_step rfl (s_fnq rfl (wy rfl rfl rfl) Tryz.func34 rfl (by kernel_rfl) rfl (fun ρ' hL => has_spec j9.2.2.2.2.2.2.2.2.1 j9.2.2.2.2.1.length j9.2.2.2.2.2.2.2.2.2 j9.2.2.2.2.1 (by first | rfl | simp) j9.2.2.2.2.2.2.2.1.ID ρ' (hL.row pk_)) ?_)
            refine d_c ?_
            refine d_t 19 rfl (wy rfl rfl rfl) (q_not rfl) ?_
            refine d_t 20 rfl wn (q_pick rfl rfl rfl) ?_
            refine d_t 21 rfl wn (q_assign rfl) ?_
            refine d_d ?_
            refine k_then_n ?_
            refine sr ?_
            refine e_mv rfl ?_
            refine e_q (q_neq rfl rfl) ?_
            refine e_mv rfl ?_
            refine Tr.env (.cons (t := 200) (v := .bool false) rfl (congrArg Value.bool (decide_eq_false (fun h99 => h99 hka3))) (EnvLe.refl _)) ?_
            refine l_step (s_no rfl (wno rfl rfl (by decide)) ?_)
            refine l_step (s_no rfl (wno rfl rfl (by decide)) ?_)
            refine l_step (s_no rfl (wno rfl rfl (by decide)) ?_)
            refine e_q (q_pick rfl rfl rfl) ?_
            refine e_mv rfl ?_
            refine l_step (s_no rfl (wno rfl rfl (by decide)) ?_)
            refine l_step (s_no rfl (wno rfl rfl (by decide)) ?_)
            refine l_step (s_no rfl (wno rfl rfl (by decide)) ?_)
            refine l_step (s_no rfl (wno rfl rfl (by decide)) ?_)
            refine e_q (q_pick rfl rfl rfl) ?_
            refine e_as rfl ?_
            refine l_n ?_
            refine c_seq ?_
            refine sr ?_
            refine e_mv rfl ?_
            refine e_q (q_not rfl) ?_
            refine e_mv rfl ?_
            refine Tr.env (.cons (t := 213) (v := .bool false) rfl (congrArg Value.bool (by rw [decide_eq_false htb]; rfl)) (EnvLe.refl _)) ?_
            refine l_step (s_no rfl (wno rfl rfl (by decide)) ?_)
            refine l_step (s_no rfl (wno rfl rfl (by decide)) ?_)
            refine e_q (q_pick rfl rfl rfl) ?_
            refine l_n ?_
            refine c_no rfl ?_
            refine c_skip ?_
            refine k_then_n ?_
            refine c_seq ?_
            refine sr ?_
            refine e_mv rfl ?_
            refine l_n ?_
            refine c_sure true rfl (by rw [decide_eq_false htb]; rfl) ?_
            simp only [Bool.false_eq_true, if_true, if_false]
            refine c_region ?_
            refine e_mv rfl ?_
            refine e_q (q_fieldp rfl fo_69_0) ?_
            refine e_q (q_loadp (v := .int .i64 j9.2.2.2.2.2.2.2.1.ID) sc_3 rfl pk_ rfl) ?_
            refine e_s (s_buildSlice (cs := ([j9.2.2.2.2.2.2.2.1.ID] : List Int).flatMap encI) Tryz.underlying37 eo_3 rfl rfl rfl rfl (by decide) (by decide)) ?_
            rintro _ _ ⟨b221, rfl, rfl⟩
            refine e_s (s_appendn (enc := encI) (xs := (j9.2.2.2.2.1 : List Int)) (ys := ([j9.2.2.2.2.2.2.2.1.ID] : List Int)) (Γ' := fun a' cap' => _) Tryz.underlying37 eo_3 (by decide) rfl rfl (rd_row pk_) (oneI _) (by first | omega | (simp only [List.length_append, List.length_cons, List.length_nil] at *; omega)) (by first | omega | (simp only [List.length_append, List.length_cons, List.length_nil] at *; omega)) (fun _ _ => pk_)) ?_
            rintro _ _ ⟨a222, c222, rfl, rfl⟩
            refine e_as rfl ?_
            refine l_n ?_
            refine c_seq ?_
            refine sr ?_
            refine e_mv rfl ?_
            refine l_n ?_
            refine c_no rfl ?_
            refine c_skip ?_
            refine k_then_n ?_
            refine c_region ?_
            refine e_mv rfl ?_
            refine l_step (s_fnr rfl wn Tryz.func31 rfl (by kernel_rfl) rfl sl_ (fun ρ' hL => busy_spec aB (hearK j9.2.2.1 j9.2.2.2.2.2.2.2.1) 7 wk 0 false bD ρ') ?_)
            refine e_as rfl ?_
            refine l_n ?_
            refine c_seq ?_
            refine sr ?_
            refine e_mv rfl ?_
            refine l_step (s_fnr rfl wn Tryz.func33 rfl (by kernel_rfl) rfl sl_ (fun ρ' hL => done_spec aB (hearK j9.2.2.1 j9.2.2.2.2.2.2.2.1) 7 wk 0 false bD ρ') ?_)
            refine e_mv rfl ?_
            refine e_q (q_neq rfl rfl) ?_
            refine e_mv rfl ?_
            refine Tr.env (.cons (t := 231) (v := .bool false) rfl (congrArg Value.bool (decide_eq_false (fun h99 => h99 rfl))) (EnvLe.refl _)) ?_
            refine e_qw (wy rfl rfl rfl) (q_move rfl) ?_
            refine e_qw (wy rfl rfl rfl) (q_nilCheck rfl) ?_
            refine e_qw (wy rfl rfl rfl) (q_fieldp rfl fo_81_0) ?_
            refine e_qw (wy rfl rfl rfl) (q_fieldp rfl fo_79_0) ?_
            refine e_qw (wy rfl rfl rfl) (q_fieldp rfl fo_77_0) ?_
            refine e_qw (wy rfl rfl rfl) (q_loadp (v := .int .i64 (((hearK j9.2.2.1 j9.2.2.2.2.2.2.2.1).Fence).ID)) sc_3 rfl pk_ rfl) ?_
            refine e_qw (wy rfl rfl rfl) (q_move rfl) ?_
            refine e_qw (wy rfl rfl rfl) (q_lss rfl rfl) ?_
            refine e_q (q_pick rfl rfl rfl) ?_
            refine e_mv rfl ?_
            refine Tr.env (.cons (t := 241) (v := .bool false) rfl (congrArg Value.bool (decide_eq_false (by have h99 := hO3.id; omega))) (EnvLe.refl _)) ?_
            refine e_qw (wy rfl rfl rfl) (q_move rfl) ?_
            refine e_qw (wy rfl rfl rfl) (q_nilCheck rfl) ?_
            refine e_qw (wy rfl rfl rfl) (q_fieldp rfl fo_81_0) ?_
            refine e_qw (wy rfl rfl rfl) (q_fieldp rfl fo_79_0) ?_
            refine e_qw (wy rfl rfl rfl) (q_fieldp rfl fo_77_1) ?_
            refine e_qw (wy rfl rfl rfl) (q_loadp (v := .int .i64 (((hearK j9.2.2.1 j9.2.2.2.2.2.2.2.1).Fence).Epoch)) sc_3 rfl pk_ rfl) ?_
            refine e_qw (wy rfl rfl rfl) (q_move rfl) ?_
            refine e_qw (wy rfl rfl rfl) (q_lss rfl rfl) ?_
            refine e_q (q_pick rfl rfl rfl) ?_
            refine e_mv rfl ?_
            refine Tr.env (.cons (t := 251) (v := .bool false) rfl (congrArg Value.bool (decide_eq_false (by have h99 := hO3.ep; omega))) (EnvLe.refl _)) ?_
            refine e_qw (wy rfl rfl rfl) (q_move rfl) ?_
            refine l_step (s_fnr rfl (wy rfl rfl rfl) Tryz.func31 rfl (by kernel_rfl) rfl sl_ (fun ρ' hL => busy_spec aB (hearK j9.2.2.1 j9.2.2.2.2.2.2.2.1) 7 wk 0 false bD ρ') ?_)
            refine e_qw (wy rfl rfl rfl) (q_move rfl) ?_
            refine e_qw (wy rfl rfl rfl) (q_neq rfl rfl) ?_
            refine e_q (q_pick rfl rfl rfl) ?_
            refine e_mv rfl ?_
            refine Tr.env (.cons (t := 257) (v := .bool false) rfl (congrArg Value.bool (decide_eq_false (fun h99 => h99 rfl))) (EnvLe.refl _)) ?_
            refine e_qw (wy rfl rfl rfl) (q_move rfl) ?_
            refine l_step (s_fnr rfl (wy rfl rfl rfl) Tryz.func33 rfl (by kernel_rfl) rfl sl_ (fun ρ' hL => done_spec aB (hearK j9.2.2.1 j9.2.2.2.2.2.2.2.1) 7 wk 0 false bD ρ') ?_)
            refine e_qw (wy rfl rfl rfl) (q_neq rfl rfl) ?_
            refine e_qw (wy rfl rfl rfl) (q_move rfl) ?_
            refine t_split (d := 261) rfl (fun g54_34 => ?_) (fun g54_34 => ?_)
            · try simp only [decide_eq_true_eq, decide_eq_false_iff_not, ne_eq, Decidable.not_not] at g54_34
              refine e_qw (wy rfl rfl rfl) (q_move rfl) ?_
              refine e_qw (wy rfl rfl rfl) (q_move rfl) ?_
              refine l_step (s_fnr rfl (wy rfl rfl rfl) Tryz.func33 rfl (by kernel_rfl) rfl sl_ (fun ρ' hL => done_spec aB (hearK j9.2.2.1 j9.2.2.2.2.2.2.2.1) 7 wk 0 false bD ρ') ?_)
              refine l_step (s_fnq rfl (wy rfl rfl rfl) Tryz.func34 rfl (by kernel_rfl) rfl (fun ρ' hL => has_spec a222 (j9.2.2.2.2.1.length + 1) c222 (j9.2.2.2.2.1 ++ [j9.2.2.2.2.2.2.2.1.ID]) (by first | rfl | simp) ((hearK j9.2.2.1 j9.2.2.2.2.2.2.2.1).done) ρ' (hL.row pk_)) ?_)
              refine e_qw (wy rfl rfl rfl) (q_not rfl) ?_
              refine e_qw (wy rfl rfl rfl) (q_pick rfl rfl rfl) ?_
              refine e_q (q_pick rfl rfl rfl) ?_
              refine l_n ?_
              refine c_sure false rfl (by rw [has_of_dn hO3 g54_34]; rfl) ?_
              simp only [Bool.false_eq_true, if_true, if_false]
              refine c_skip ?_
              refine k_then_n ?_
              refine d_r 14 [.row 3 1 (some ⟨b221, 0, none⟩) 1 1 ([j9.2.2.2.2.2.2.2.1.ID].flatMap encI), .pts aB (encAgent1 (⟨(hearK j9.2.2.1 j9.2.2.2.2.2.2.2.1), (some bD), 7, wk, 0, false⟩ : Agent1)) 81, .pts b17 (encOrder1 j9.2.2.2.2.2.2.2.1) 69, .pts b16 (encAAct (⟨(acts.getD x.d.1 default).Kind, (acts.getD x.d.1 default).N, (acts.getD x.d.1 default).Os, (acts.getD x.d.1 default).Keep, (acts.getD x.d.1 default).B⟩ : AAct)) 74, .row 3 1 a222 (j9.2.2.2.2.1.length + 1) c222 ((j9.2.2.2.2.1 ++ [j9.2.2.2.2.2.2.2.1.ID]).flatMap encI), .pts x.d.2.2.2.1 (encAgent1 (⟨j9.2.2.1, (some bD), 7, wk, j9.2.2.2.1, j9.2.2.2.2.2.1⟩ : Agent1)) 81, .pts bD (encDisk1 (⟨100000, (some mbD), (-1)⟩ : Disk1)) 105, MP strB ptV mbD (fm T3), FB 109 5 T3] ?_
              refine d_t 0 rfl wn (q_move rfl) ?_
              refine d_t 1 rfl wn (q_nilCheck rfl) ?_
              refine d_t 2 rfl wn (q_fieldp rfl fo_81_0) ?_
              refine d_t 3 rfl wn (q_fieldp rfl fo_79_0) ?_
              refine d_t 4 rfl wn (q_fieldp rfl fo_77_0) ?_
              refine d_t 5 rfl wn (q_loadp (v := .int .i64 (((hearK j9.2.2.1 j9.2.2.2.2.2.2.2.1).Fence).ID)) sc_3 rfl pk_ rfl) ?_
              refine d_t 6 rfl wn (q_move rfl) ?_
              refine d_t 7 rfl wn (q_nilCheck rfl) ?_
              refine d_t 8 rfl wn (q_fieldp rfl fo_81_0) ?_
              refine d_t 9 rfl wn (q_fieldp rfl fo_79_0) ?_
              refine d_t 10 rfl wn (q_fieldp rfl fo_77_1) ?_
              refine d_t 11 rfl wn (q_loadp (v := .int .i64 (((hearK j9.2.2.1 j9.2.2.2.2.2.2.2.1).Fence).Epoch)) sc_3 rfl pk_ rfl) ?_
              refine d_t 12 rfl wn (q_assign rfl) ?_
              refine d_t 13 rfl wn (q_assign rfl) ?_
              refine d_d ?_
              refine k_blk_n ?_
              refine k_then_n ?_
              refine c_region ?_
              refine e_mv rfl ?_
              refine e_q (q_add rfl rfl (by omega) (by omega)) ?_
              refine e_as rfl ?_
              refine l_n ?_
              rw [show j9.2.2.2.2.1.length + 1 = (j9.2.2.2.2.1 ++ [j9.2.2.2.2.2.2.2.1.ID]).length from by simp]
              exact t_next (⟨(x.d.1 + 1, T3, -1, aB, (hearK j9.2.2.1 j9.2.2.2.2.2.2.2.1), 0, (j9.2.2.2.2.1 ++ [j9.2.2.2.2.2.2.2.1.ID]), (hearK j9.2.2.1 j9.2.2.2.2.2.2.2.1).Fence.ID, (hearK j9.2.2.1 j9.2.2.2.2.2.2.2.1).Fence.Epoch), a222, c222, none, 0, none, 0⟩ : Lp _) ⟨⟨by show x.d.1 + 1 ≤ _; omega, hA3, of_up hO3, Int.le_refl 0, by show (0 : Int) ≤ ((x.d.1 + 1 : Nat) : Int); omega, ⟨Int.le_refl (-1), (show (-1 : Int) ≤ 9223372036854775807 by decide)⟩, by show (j9.2.2.2.2.1 ++ [_]).length ≤ 21 * (x.d.1 + 1); rw [List.length_append, List.length_singleton]; omega⟩, by show _ - (x.d.1 + 1) < _; omega⟩ (.c (.c (.c (.c (.c (.c (.c (.c (.c (.c (.nil _))))))))))) (by refine Ent.pick pk_ ?_; refine Ent.pick pk_ ?_; refine Ent.pick pk_ ?_; refine Ent.pick pk_ ?_; refine Ent.pick pk_ ?_; repeat (first | exact Ent.refl _ | refine Ent.skip ?_))
            · try simp only [decide_eq_true_eq, decide_eq_false_iff_not, ne_eq, Decidable.not_not] at g54_34
              refine l_step (s_no rfl (wno rfl rfl (by decide)) ?_)
              refine l_step (s_no rfl (wno rfl rfl (by decide)) ?_)
              refine l_step (s_no rfl (wno rfl rfl (by decide)) ?_)
              refine l_step (s_no rfl (wno rfl rfl (by decide)) ?_)
              refine l_step (s_no rfl (wno rfl rfl (by decide)) ?_)
              refine e_qw (wy rfl rfl rfl) (q_pick rfl rfl rfl) ?_
              refine e_q (q_pick rfl rfl rfl) ?_
              refine l_n ?_
              refine c_no rfl ?_
              refine c_skip ?_
              refine k_then_n ?_
              refine d_r 14 [.row 3 1 (some ⟨b221, 0, none⟩) 1 1 ([j9.2.2.2.2.2.2.2.1.ID].flatMap encI), .pts aB (encAgent1 (⟨(hearK j9.2.2.1 j9.2.2.2.2.2.2.2.1), (some bD), 7, wk, 0, false⟩ : Agent1)) 81, .pts b17 (encOrder1 j9.2.2.2.2.2.2.2.1) 69, .pts b16 (encAAct (⟨(acts.getD x.d.1 default).Kind, (acts.getD x.d.1 default).N, (acts.getD x.d.1 default).Os, (acts.getD x.d.1 default).Keep, (acts.getD x.d.1 default).B⟩ : AAct)) 74, .row 3 1 a222 (j9.2.2.2.2.1.length + 1) c222 ((j9.2.2.2.2.1 ++ [j9.2.2.2.2.2.2.2.1.ID]).flatMap encI), .pts x.d.2.2.2.1 (encAgent1 (⟨j9.2.2.1, (some bD), 7, wk, j9.2.2.2.1, j9.2.2.2.2.2.1⟩ : Agent1)) 81, .pts bD (encDisk1 (⟨100000, (some mbD), (-1)⟩ : Disk1)) 105, MP strB ptV mbD (fm T3), FB 109 5 T3] ?_
              refine d_t 0 rfl wn (q_move rfl) ?_
              refine d_t 1 rfl wn (q_nilCheck rfl) ?_
              refine d_t 2 rfl wn (q_fieldp rfl fo_81_0) ?_
              refine d_t 3 rfl wn (q_fieldp rfl fo_79_0) ?_
              refine d_t 4 rfl wn (q_fieldp rfl fo_77_0) ?_
              refine d_t 5 rfl wn (q_loadp (v := .int .i64 (((hearK j9.2.2.1 j9.2.2.2.2.2.2.2.1).Fence).ID)) sc_3 rfl pk_ rfl) ?_
              refine d_t 6 rfl wn (q_move rfl) ?_
              refine d_t 7 rfl wn (q_nilCheck rfl) ?_
              refine d_t 8 rfl wn (q_fieldp rfl fo_81_0) ?_
              refine d_t 9 rfl wn (q_fieldp rfl fo_79_0) ?_
              refine d_t 10 rfl wn (q_fieldp rfl fo_77_1) ?_
              refine d_t 11 rfl wn (q_loadp (v := .int .i64 (((hearK j9.2.2.1 j9.2.2.2.2.2.2.2.1).Fence).Epoch)) sc_3 rfl pk_ rfl) ?_
              refine d_t 12 rfl wn (q_assign rfl) ?_
              refine d_t 13 rfl wn (q_assign rfl) ?_
              refine d_d ?_
              refine k_blk_n ?_
              refine k_then_n ?_
              refine c_region ?_
              refine e_mv rfl ?_
              refine e_q (q_add rfl rfl (by omega) (by omega)) ?_
              refine e_as rfl ?_
              refine l_n ?_
              rw [show j9.2.2.2.2.1.length + 1 = (j9.2.2.2.2.1 ++ [j9.2.2.2.2.2.2.2.1.ID]).length from by simp]
              exact t_next (⟨(x.d.1 + 1, T3, -1, aB, (hearK j9.2.2.1 j9.2.2.2.2.2.2.2.1), 0, (j9.2.2.2.2.1 ++ [j9.2.2.2.2.2.2.2.1.ID]), (hearK j9.2.2.1 j9.2.2.2.2.2.2.2.1).Fence.ID, (hearK j9.2.2.1 j9.2.2.2.2.2.2.2.1).Fence.Epoch), a222, c222, none, 0, none, 0⟩ : Lp _) ⟨⟨by show x.d.1 + 1 ≤ _; omega, hA3, of_up hO3, Int.le_refl 0, by show (0 : Int) ≤ ((x.d.1 + 1 : Nat) : Int); omega, ⟨Int.le_refl (-1), (show (-1 : Int) ≤ 9223372036854775807 by decide)⟩, by show (j9.2.2.2.2.1 ++ [_]).length ≤ 21 * (x.d.1 + 1); rw [List.length_append, List.length_singleton]; omega⟩, by show _ - (x.d.1 + 1) < _; omega⟩ (.c (.c (.c (.c (.c (.c (.c (.c (.c (.c (.nil _))))))))))) (by refine Ent.pick pk_ ?_; refine Ent.pick pk_ ?_; refine Ent.pick pk_ ?_; refine Ent.pick pk_ ?_; refine Ent.pick pk_ ?_; repeat (first | exact Ent.refl _ | refine Ent.skip ?_))
          · skip
            try simp only [List.cons_append, List.nil_append]
            refine e_mv rfl ?_
            refine e_q (q_extract rfl rfl) ?_
            refine e_q (q_extract rfl rfl) ?_
            refine e_as rfl ?_
            refine e_as rfl ?_
            refine l_n ?_
            refine c_seq ?_
            refine sr ?_
            refine e_mv rfl ?_
            refine e_q (by first | exact q_eqlp rfl rfl Tryz.underlying64 | exact q_eqlp0 rfl rfl Tryz.underlying64) ?_
            refine e_mv rfl ?_
            refine e_qw (wy rfl rfl rfl) (q_move rfl) ?_
            refine e_qw (wy rfl rfl rfl) (q_neq rfl rfl) ?_
            refine e_q (q_pick rfl rfl rfl) ?_
            refine l_n ?_
            refine c_sure false rfl (by rfl) ?_
            simp only [Bool.false_eq_true, if_true, if_false]
            refine c_skip ?_
            refine k_then_n ?_
            refine sr ?_
            refine e_mv rfl ?_
            refine l_step (s_fnr rfl wn Tryz.func31 rfl (by kernel_rfl) rfl sl_ (fun ρ' hL => busy_spec aB (tickK j9.2.2.1) 7 wk 0 false bD ρ') ?_)
            refine e_mv rfl ?_
            refine e_q (q_neq rfl rfl) ?_
            refine l_n ?_
            refine c_sure true rfl (decide_eq_true (fun h99 => hka3 h99.symm)) ?_
            simp only [Bool.false_eq_true, if_true, if_false]
            refine c_seq ?_
            refine d_r 22 [.pts aB (encAgent1 (⟨(tickK j9.2.2.1), (some bD), 7, wk, 0, false⟩ : Agent1)) 81, .pts b17 (encOrder1 j9.2.2.2.2.2.2.2.1) 69, .pts b16 (encAAct (⟨(acts.getD x.d.1 default).Kind, (acts.getD x.d.1 default).N, (acts.getD x.d.1 default).Os, (acts.getD x.d.1 default).Keep, (acts.getD x.d.1 default).B⟩ : AAct)) 74, .row 3 1 j9.2.2.2.2.2.2.2.2.1 j9.2.2.2.2.1.length j9.2.2.2.2.2.2.2.2.2 (j9.2.2.2.2.1.flatMap encI), .pts x.d.2.2.2.1 (encAgent1 (⟨j9.2.2.1, (some bD), 7, wk, j9.2.2.2.1, j9.2.2.2.2.2.1⟩ : Agent1)) 81, .pts bD (encDisk1 (⟨100000, (some mbD), (-1)⟩ : Disk1)) 105, MP strB ptV mbD (fm T3), FB 109 5 T3] ?_
            refine d_t 0 rfl wn (q_move rfl) ?_
            refine d_t 1 rfl wn (q_eql rfl rfl) ?_
            refine d_t 2 rfl wn (q_move rfl) ?_
            refine Tr.env (.cons (t := 179) (v := .bool false) rfl (congrArg Value.bool (decide_eq_false hka3)) (EnvLe.refl _)) ?_
            refine d_s 3 rfl (wno rfl rfl (by decide)) ?_
            refine d_s 4 rfl (wno rfl rfl (by decide)) ?_
            refine d_s 5 rfl (wno rfl rfl (by decide)) ?_
            refine d_s 6 rfl (wno rfl rfl (by decide)) ?_
            refine d_s 7 rfl (wno rfl rfl (by decide)) ?_
            refine d_t 8 rfl wn (q_pick rfl rfl rfl) ?_
            refine d_t 9 rfl wn (q_move rfl) ?_
            refine d_s 10 rfl (wno rfl rfl (by decide)) ?_
            refine d_s 11 rfl (wno rfl rfl (by decide)) ?_
            refine d_s 12 rfl (wno rfl rfl (by decide)) ?_
            refine d_t 13 rfl wn (q_pick rfl rfl rfl) ?_
            refine d_t 14 rfl wn (q_move rfl) ?_
            refine d_s 15 rfl (wno rfl rfl (by decide)) ?_
            refine d_s 16 rfl (wno rfl rfl (by decide)) ?_
            refine d_s 17 rfl (wno rfl rfl (by decide)) ?_
            refine d_s 18 rfl (wno rfl rfl (by decide)) ?_
            refine d_s 19 rfl (wno rfl rfl (by decide)) ?_
            refine d_t 20 rfl wn (q_pick rfl rfl rfl) ?_
            refine d_t 21 rfl wn (q_assign rfl) ?_
            refine d_d ?_
            refine k_then_n ?_
            refine sr ?_
            refine e_mv rfl ?_
            refine e_q (q_neq rfl rfl) ?_
            refine e_mv rfl ?_
            refine Tr.env (.cons (t := 200) (v := .bool true) rfl (congrArg Value.bool (decide_eq_true hka3)) (EnvLe.refl _)) ?_
            refine e_qw (wy rfl rfl rfl) (q_move rfl) ?_
            refine l_step (s_fnr rfl (wy rfl rfl rfl) Tryz.func31 rfl (by kernel_rfl) rfl sl_ (fun ρ' hL => busy_spec aB (tickK j9.2.2.1) 7 wk 0 false bD ρ') ?_)
            refine e_qw (wy rfl rfl rfl) (q_eql rfl rfl) ?_
            refine e_q (q_pick rfl rfl rfl) ?_
            refine e_mv rfl ?_
            refine Tr.env (.cons (t := 205) (v := .bool true) rfl (congrArg Value.bool (decide_eq_true rfl)) (EnvLe.refl _)) ?_
            refine e_qw (wy rfl rfl rfl) (q_move rfl) ?_
            refine l_step (s_fnr rfl (wy rfl rfl rfl) Tryz.func33 rfl (by kernel_rfl) rfl sl_ (fun ρ' hL => done_spec aB (tickK j9.2.2.1) 7 wk 0 false bD ρ') ?_)
            refine e_qw (wy rfl rfl rfl) (q_move rfl) ?_
            refine e_qw (wy rfl rfl rfl) (q_eql rfl rfl) ?_
            refine e_q (q_pick rfl rfl rfl) ?_
            refine e_as rfl ?_
            refine l_n ?_
            refine c_seq ?_
            refine sr ?_
            refine e_mv rfl ?_
            refine e_q (q_not rfl) ?_
            refine e_mv rfl ?_
            refine e_qw (wy rfl rfl rfl) (q_move rfl) ?_
            refine e_qw (wy rfl rfl rfl) (q_not rfl) ?_
            refine e_q (q_pick rfl rfl rfl) ?_
            refine l_n ?_
            refine c_sure false rfl (congrArg not (decide_eq_true rfl)) ?_
            simp only [Bool.false_eq_true, if_true, if_false]
            refine c_skip ?_
            refine k_then_n ?_
            refine c_seq ?_
            refine sr ?_
            refine e_mv rfl ?_
            refine l_n ?_
            refine c_no rfl ?_
            refine c_skip ?_
            refine k_then_n ?_
            refine c_seq ?_
            refine sr ?_
            refine e_mv rfl ?_
            refine l_n ?_
            refine c_sure true rfl (decide_eq_true rfl) ?_
            simp only [Bool.false_eq_true, if_true, if_false]
            refine c_region ?_
            refine e_mv rfl ?_
            refine e_as rfl ?_
            refine l_n ?_
            refine c_region ?_
            refine e_mv rfl ?_
            refine l_step (s_fnr rfl wn Tryz.func31 rfl (by kernel_rfl) rfl sl_ (fun ρ' hL => busy_spec aB (tickK j9.2.2.1) 7 wk 0 false bD ρ') ?_)
            refine e_as rfl ?_
            refine l_n ?_
            refine c_seq ?_
            refine sr ?_
            refine e_mv rfl ?_
            refine l_step (s_fnr rfl wn Tryz.func33 rfl (by kernel_rfl) rfl sl_ (fun ρ' hL => done_spec aB (tickK j9.2.2.1) 7 wk 0 false bD ρ') ?_)
            refine e_mv rfl ?_
            refine e_q (q_neq rfl rfl) ?_
            refine e_mv rfl ?_
            refine Tr.env (.cons (t := 231) (v := .bool false) rfl (congrArg Value.bool (decide_eq_false (fun h99 => h99 rfl))) (EnvLe.refl _)) ?_
            refine e_qw (wy rfl rfl rfl) (q_move rfl) ?_
            refine e_qw (wy rfl rfl rfl) (q_nilCheck rfl) ?_
            refine e_qw (wy rfl rfl rfl) (q_fieldp rfl fo_81_0) ?_
            refine e_qw (wy rfl rfl rfl) (q_fieldp rfl fo_79_0) ?_
            refine e_qw (wy rfl rfl rfl) (q_fieldp rfl fo_77_0) ?_
            refine e_qw (wy rfl rfl rfl) (q_loadp (v := .int .i64 (((tickK j9.2.2.1).Fence).ID)) sc_3 rfl pk_ rfl) ?_
            refine e_qw (wy rfl rfl rfl) (q_move rfl) ?_
            refine e_qw (wy rfl rfl rfl) (q_lss rfl rfl) ?_
            refine e_q (q_pick rfl rfl rfl) ?_
            refine e_mv rfl ?_
            refine Tr.env (.cons (t := 241) (v := .bool false) rfl (congrArg Value.bool (decide_eq_false (by have h99 := hO3.id; omega))) (EnvLe.refl _)) ?_
            refine e_qw (wy rfl rfl rfl) (q_move rfl) ?_
            refine e_qw (wy rfl rfl rfl) (q_nilCheck rfl) ?_
            refine e_qw (wy rfl rfl rfl) (q_fieldp rfl fo_81_0) ?_
            refine e_qw (wy rfl rfl rfl) (q_fieldp rfl fo_79_0) ?_
            refine e_qw (wy rfl rfl rfl) (q_fieldp rfl fo_77_1) ?_
            refine e_qw (wy rfl rfl rfl) (q_loadp (v := .int .i64 (((tickK j9.2.2.1).Fence).Epoch)) sc_3 rfl pk_ rfl) ?_
            refine e_qw (wy rfl rfl rfl) (q_move rfl) ?_
            refine e_qw (wy rfl rfl rfl) (q_lss rfl rfl) ?_
            refine e_q (q_pick rfl rfl rfl) ?_
            refine e_mv rfl ?_
            refine Tr.env (.cons (t := 251) (v := .bool false) rfl (congrArg Value.bool (decide_eq_false (by have h99 := hO3.ep; omega))) (EnvLe.refl _)) ?_
            refine e_qw (wy rfl rfl rfl) (q_move rfl) ?_
            refine l_step (s_fnr rfl (wy rfl rfl rfl) Tryz.func31 rfl (by kernel_rfl) rfl sl_ (fun ρ' hL => busy_spec aB (tickK j9.2.2.1) 7 wk 0 false bD ρ') ?_)
            refine e_qw (wy rfl rfl rfl) (q_move rfl) ?_
            refine e_qw (wy rfl rfl rfl) (q_neq rfl rfl) ?_
            refine e_q (q_pick rfl rfl rfl) ?_
            refine e_mv rfl ?_
            refine Tr.env (.cons (t := 257) (v := .bool false) rfl (congrArg Value.bool (decide_eq_false (fun h99 => h99 rfl))) (EnvLe.refl _)) ?_
            refine e_qw (wy rfl rfl rfl) (q_move rfl) ?_
            refine l_step (s_fnr rfl (wy rfl rfl rfl) Tryz.func33 rfl (by kernel_rfl) rfl sl_ (fun ρ' hL => done_spec aB (tickK j9.2.2.1) 7 wk 0 false bD ρ') ?_)
            refine e_qw (wy rfl rfl rfl) (q_neq rfl rfl) ?_
            refine e_qw (wy rfl rfl rfl) (q_move rfl) ?_
            refine t_split (d := 261) rfl (fun g54_34 => ?_) (fun g54_34 => ?_)
            · try simp only [decide_eq_true_eq, decide_eq_false_iff_not, ne_eq, Decidable.not_not] at g54_34
              refine e_qw (wy rfl rfl rfl) (q_move rfl) ?_
              refine e_qw (wy rfl rfl rfl) (q_move rfl) ?_
              refine l_step (s_fnr rfl (wy rfl rfl rfl) Tryz.func33 rfl (by kernel_rfl) rfl sl_ (fun ρ' hL => done_spec aB (tickK j9.2.2.1) 7 wk 0 false bD ρ') ?_)
              refine l_step (s_fnq rfl (wy rfl rfl rfl) Tryz.func34 rfl (by kernel_rfl) rfl (fun ρ' hL => has_spec j9.2.2.2.2.2.2.2.2.1 j9.2.2.2.2.1.length j9.2.2.2.2.2.2.2.2.2 j9.2.2.2.2.1 (by first | rfl | simp) ((tickK j9.2.2.1).done) ρ' (hL.row pk_)) ?_)
              refine e_qw (wy rfl rfl rfl) (q_not rfl) ?_
              refine e_qw (wy rfl rfl rfl) (q_pick rfl rfl rfl) ?_
              refine e_q (q_pick rfl rfl rfl) ?_
              refine l_n ?_
              refine c_sure false rfl (by rw [has_of_dn hO3 g54_34]; rfl) ?_
              simp only [Bool.false_eq_true, if_true, if_false]
              refine c_skip ?_
              refine k_then_n ?_
              refine d_r 14 [.pts aB (encAgent1 (⟨(tickK j9.2.2.1), (some bD), 7, wk, 0, false⟩ : Agent1)) 81, .pts b17 (encOrder1 j9.2.2.2.2.2.2.2.1) 69, .pts b16 (encAAct (⟨(acts.getD x.d.1 default).Kind, (acts.getD x.d.1 default).N, (acts.getD x.d.1 default).Os, (acts.getD x.d.1 default).Keep, (acts.getD x.d.1 default).B⟩ : AAct)) 74, .row 3 1 j9.2.2.2.2.2.2.2.2.1 j9.2.2.2.2.1.length j9.2.2.2.2.2.2.2.2.2 (j9.2.2.2.2.1.flatMap encI), .pts x.d.2.2.2.1 (encAgent1 (⟨j9.2.2.1, (some bD), 7, wk, j9.2.2.2.1, j9.2.2.2.2.2.1⟩ : Agent1)) 81, .pts bD (encDisk1 (⟨100000, (some mbD), (-1)⟩ : Disk1)) 105, MP strB ptV mbD (fm T3), FB 109 5 T3] ?_
              refine d_t 0 rfl wn (q_move rfl) ?_
              refine d_t 1 rfl wn (q_nilCheck rfl) ?_
              refine d_t 2 rfl wn (q_fieldp rfl fo_81_0) ?_
              refine d_t 3 rfl wn (q_fieldp rfl fo_79_0) ?_
              refine d_t 4 rfl wn (q_fieldp rfl fo_77_0) ?_
              refine d_t 5 rfl wn (q_loadp (v := .int .i64 (((tickK j9.2.2.1).Fence).ID)) sc_3 rfl pk_ rfl) ?_
              refine d_t 6 rfl wn (q_move rfl) ?_
              refine d_t 7 rfl wn (q_nilCheck rfl) ?_
              refine d_t 8 rfl wn (q_fieldp rfl fo_81_0) ?_
              refine d_t 9 rfl wn (q_fieldp rfl fo_79_0) ?_
              refine d_t 10 rfl wn (q_fieldp rfl fo_77_1) ?_
              refine d_t 11 rfl wn (q_loadp (v := .int .i64 (((tickK j9.2.2.1).Fence).Epoch)) sc_3 rfl pk_ rfl) ?_
              refine d_t 12 rfl wn (q_assign rfl) ?_
              refine d_t 13 rfl wn (q_assign rfl) ?_
              refine d_d ?_
              refine k_blk_n ?_
              refine k_then_n ?_
              refine c_region ?_
              refine e_mv rfl ?_
              refine e_q (q_add rfl rfl (by omega) (by omega)) ?_
              refine e_as rfl ?_
              refine l_n ?_
              exact t_next (⟨(x.d.1 + 1, T3, -1, aB, (tickK j9.2.2.1), 0, j9.2.2.2.2.1, (tickK j9.2.2.1).Fence.ID, (tickK j9.2.2.1).Fence.Epoch), j9.2.2.2.2.2.2.2.2.1, j9.2.2.2.2.2.2.2.2.2, none, 0, none, 0⟩ : Lp _) ⟨⟨by show x.d.1 + 1 ≤ _; omega, hA3, of_up hO3, Int.le_refl 0, by show (0 : Int) ≤ ((x.d.1 + 1 : Nat) : Int); omega, ⟨Int.le_refl (-1), (show (-1 : Int) ≤ 9223372036854775807 by decide)⟩, by show j9.2.2.2.2.1.length ≤ 21 * (x.d.1 + 1); omega⟩, by show _ - (x.d.1 + 1) < _; omega⟩ (.c (.c (.c (.c (.c (.c (.c (.c (.c (.c (.nil _))))))))))) (by refine Ent.pick pk_ ?_; refine Ent.pick pk_ ?_; refine Ent.pick pk_ ?_; refine Ent.pick pk_ ?_; refine Ent.pick pk_ ?_; repeat (first | exact Ent.refl _ | refine Ent.skip ?_))
            · try simp only [decide_eq_true_eq, decide_eq_false_iff_not, ne_eq, Decidable.not_not] at g54_34
              refine l_step (s_no rfl (wno rfl rfl (by decide)) ?_)
              refine l_step (s_no rfl (wno rfl rfl (by decide)) ?_)
              refine l_step (s_no rfl (wno rfl rfl (by decide)) ?_)
              refine l_step (s_no rfl (wno rfl rfl (by decide)) ?_)
              refine l_step (s_no rfl (wno rfl rfl (by decide)) ?_)
              refine e_qw (wy rfl rfl rfl) (q_pick rfl rfl rfl) ?_
              refine e_q (q_pick rfl rfl rfl) ?_
              refine l_n ?_
              refine c_no rfl ?_
              refine c_skip ?_
              refine k_then_n ?_
              refine d_r 14 [.pts aB (encAgent1 (⟨(tickK j9.2.2.1), (some bD), 7, wk, 0, false⟩ : Agent1)) 81, .pts b17 (encOrder1 j9.2.2.2.2.2.2.2.1) 69, .pts b16 (encAAct (⟨(acts.getD x.d.1 default).Kind, (acts.getD x.d.1 default).N, (acts.getD x.d.1 default).Os, (acts.getD x.d.1 default).Keep, (acts.getD x.d.1 default).B⟩ : AAct)) 74, .row 3 1 j9.2.2.2.2.2.2.2.2.1 j9.2.2.2.2.1.length j9.2.2.2.2.2.2.2.2.2 (j9.2.2.2.2.1.flatMap encI), .pts x.d.2.2.2.1 (encAgent1 (⟨j9.2.2.1, (some bD), 7, wk, j9.2.2.2.1, j9.2.2.2.2.2.1⟩ : Agent1)) 81, .pts bD (encDisk1 (⟨100000, (some mbD), (-1)⟩ : Disk1)) 105, MP strB ptV mbD (fm T3), FB 109 5 T3] ?_
              refine d_t 0 rfl wn (q_move rfl) ?_
              refine d_t 1 rfl wn (q_nilCheck rfl) ?_
              refine d_t 2 rfl wn (q_fieldp rfl fo_81_0) ?_
              refine d_t 3 rfl wn (q_fieldp rfl fo_79_0) ?_
              refine d_t 4 rfl wn (q_fieldp rfl fo_77_0) ?_
              refine d_t 5 rfl wn (q_loadp (v := .int .i64 (((tickK j9.2.2.1).Fence).ID)) sc_3 rfl pk_ rfl) ?_
              refine d_t 6 rfl wn (q_move rfl) ?_
              refine d_t 7 rfl wn (q_nilCheck rfl) ?_
              refine d_t 8 rfl wn (q_fieldp rfl fo_81_0) ?_
              refine d_t 9 rfl wn (q_fieldp rfl fo_79_0) ?_
              refine d_t 10 rfl wn (q_fieldp rfl fo_77_1) ?_
              refine d_t 11 rfl wn (q_loadp (v := .int .i64 (((tickK j9.2.2.1).Fence).Epoch)) sc_3 rfl pk_ rfl) ?_
              refine d_t 12 rfl wn (q_assign rfl) ?_
              refine d_t 13 rfl wn (q_assign rfl) ?_
              refine d_d ?_
              refine k_blk_n ?_
              refine k_then_n ?_
              refine c_region ?_
              refine e_mv rfl ?_
              refine e_q (q_add rfl rfl (by omega) (by omega)) ?_
              refine e_as rfl ?_
              refine l_n ?_
              exact t_next (⟨(x.d.1 + 1, T3, -1, aB, (tickK j9.2.2.1), 0, j9.2.2.2.2.1, (tickK j9.2.2.1).Fence.ID, (tickK j9.2.2.1).Fence.Epoch), j9.2.2.2.2.2.2.2.2.1, j9.2.2.2.2.2.2.2.2.2, none, 0, none, 0⟩ : Lp _) ⟨⟨by show x.d.1 + 1 ≤ _; omega, hA3, of_up hO3, Int.le_refl 0, by show (0 : Int) ≤ ((x.d.1 + 1 : Nat) : Int); omega, ⟨Int.le_refl (-1), (show (-1 : Int) ≤ 9223372036854775807 by decide)⟩, by show j9.2.2.2.2.1.length ≤ 21 * (x.d.1 + 1); omega⟩, by show _ - (x.d.1 + 1) < _; omega⟩ (.c (.c (.c (.c (.c (.c (.c (.c (.c (.c (.nil _))))))))))) (by refine Ent.pick pk_ ?_; refine Ent.pick pk_ ?_; refine Ent.pick pk_ ?_; refine Ent.pick pk_ ?_; refine Ent.pick pk_ ?_; repeat (first | exact Ent.refl _ | refine Ent.skip ?_))
        · try simp only [decide_eq_true_eq, decide_eq_false_iff_not, Bool.or_eq_true, Bool.or_eq_false_iff] at h13
          have hdn9 : j9.2.2.2.2.2.1 = false := by first | exact h13.1 | simp_all
          have hA3 := hE.up hdn9
          have hO3 := hO
          rw [hdn9]
          refine c_skip ?_
          refine k_then_n ?_
          refine c_seq ?_
          refine sr ?_
          refine e_mv rfl ?_
          refine l_step (s_fnr rfl wn Tryz.func33 rfl (by kernel_rfl) rfl sl_ (fun ρ' hL => done_spec x.d.2.2.2.1 j9.2.2.1 7 wk j9.2.2.2.1 false bD ρ') ?_)
          refine e_mv rfl ?_
          refine e_q (q_neq rfl rfl) ?_
          refine e_mv rfl ?_
          refine Tr.env (.cons (t := 231) (v := .bool false) rfl (congrArg Value.bool (decide_eq_false (fun h99 => h99 rfl))) (EnvLe.refl _)) ?_
          refine e_qw (wy rfl rfl rfl) (q_move rfl) ?_
          refine e_qw (wy rfl rfl rfl) (q_nilCheck rfl) ?_
          refine e_qw (wy rfl rfl rfl) (q_fieldp rfl fo_81_0) ?_
          refine e_qw (wy rfl rfl rfl) (q_fieldp rfl fo_79_0) ?_
          refine e_qw (wy rfl rfl rfl) (q_fieldp rfl fo_77_0) ?_
          refine e_qw (wy rfl rfl rfl) (q_loadp (v := .int .i64 j9.2.2.1.Fence.ID) sc_3 rfl pk_ rfl) ?_
          refine e_qw (wy rfl rfl rfl) (q_move rfl) ?_
          refine e_qw (wy rfl rfl rfl) (q_lss rfl rfl) ?_
          refine e_q (q_pick rfl rfl rfl) ?_
          refine e_mv rfl ?_
          refine Tr.env (.cons (t := 241) (v := .bool false) rfl (congrArg Value.bool (decide_eq_false (by have h99 := hO3.id; omega))) (EnvLe.refl _)) ?_
          refine e_qw (wy rfl rfl rfl) (q_move rfl) ?_
          refine e_qw (wy rfl rfl rfl) (q_nilCheck rfl) ?_
          refine e_qw (wy rfl rfl rfl) (q_fieldp rfl fo_81_0) ?_
          refine e_qw (wy rfl rfl rfl) (q_fieldp rfl fo_79_0) ?_
          refine e_qw (wy rfl rfl rfl) (q_fieldp rfl fo_77_1) ?_
          refine e_qw (wy rfl rfl rfl) (q_loadp (v := .int .i64 j9.2.2.1.Fence.Epoch) sc_3 rfl pk_ rfl) ?_
          refine e_qw (wy rfl rfl rfl) (q_move rfl) ?_
          refine e_qw (wy rfl rfl rfl) (q_lss rfl rfl) ?_
          refine e_q (q_pick rfl rfl rfl) ?_
          refine e_mv rfl ?_
          refine Tr.env (.cons (t := 251) (v := .bool false) rfl (congrArg Value.bool (decide_eq_false (by have h99 := hO3.ep; omega))) (EnvLe.refl _)) ?_
          refine e_qw (wy rfl rfl rfl) (q_move rfl) ?_
          refine l_step (s_fnr rfl (wy rfl rfl rfl) Tryz.func31 rfl (by kernel_rfl) rfl sl_ (fun ρ' hL => busy_spec x.d.2.2.2.1 j9.2.2.1 7 wk j9.2.2.2.1 false bD ρ') ?_)
          refine e_qw (wy rfl rfl rfl) (q_move rfl) ?_
          refine e_qw (wy rfl rfl rfl) (q_neq rfl rfl) ?_
          refine e_q (q_pick rfl rfl rfl) ?_
          refine e_mv rfl ?_
          refine Tr.env (.cons (t := 257) (v := .bool false) rfl (congrArg Value.bool (decide_eq_false (fun h99 => h99 rfl))) (EnvLe.refl _)) ?_
          refine e_qw (wy rfl rfl rfl) (q_move rfl) ?_
          refine l_step (s_fnr rfl (wy rfl rfl rfl) Tryz.func33 rfl (by kernel_rfl) rfl sl_ (fun ρ' hL => done_spec x.d.2.2.2.1 j9.2.2.1 7 wk j9.2.2.2.1 false bD ρ') ?_)
          refine e_qw (wy rfl rfl rfl) (q_neq rfl rfl) ?_
          refine e_qw (wy rfl rfl rfl) (q_move rfl) ?_
          refine t_split (d := 261) rfl (fun g54_34 => ?_) (fun g54_34 => ?_)
          · try simp only [decide_eq_true_eq, decide_eq_false_iff_not, ne_eq, Decidable.not_not] at g54_34
            refine e_qw (wy rfl rfl rfl) (q_move rfl) ?_
            refine e_qw (wy rfl rfl rfl) (q_move rfl) ?_
            refine l_step (s_fnr rfl (wy rfl rfl rfl) Tryz.func33 rfl (by kernel_rfl) rfl sl_ (fun ρ' hL => done_spec x.d.2.2.2.1 j9.2.2.1 7 wk j9.2.2.2.1 false bD ρ') ?_)
            refine l_step (s_fnq rfl (wy rfl rfl rfl) Tryz.func34 rfl (by kernel_rfl) rfl (fun ρ' hL => has_spec j9.2.2.2.2.2.2.2.2.1 j9.2.2.2.2.1.length j9.2.2.2.2.2.2.2.2.2 j9.2.2.2.2.1 (by first | rfl | simp) j9.2.2.1.done ρ' (hL.row pk_)) ?_)
            refine e_qw (wy rfl rfl rfl) (q_not rfl) ?_
            refine e_qw (wy rfl rfl rfl) (q_pick rfl rfl rfl) ?_
            refine e_q (q_pick rfl rfl rfl) ?_
            refine l_n ?_
            refine c_sure false rfl (by rw [has_of_dn hO3 g54_34]; rfl) ?_
            simp only [Bool.false_eq_true, if_true, if_false]
            refine c_skip ?_
            refine k_then_n ?_
            refine d_r 14 [.pts b17 (encOrder1 j9.2.2.2.2.2.2.2.1) 69, .pts b16 (encAAct (⟨(acts.getD x.d.1 default).Kind, (acts.getD x.d.1 default).N, (acts.getD x.d.1 default).Os, (acts.getD x.d.1 default).Keep, (acts.getD x.d.1 default).B⟩ : AAct)) 74, .row 3 1 j9.2.2.2.2.2.2.2.2.1 j9.2.2.2.2.1.length j9.2.2.2.2.2.2.2.2.2 (j9.2.2.2.2.1.flatMap encI), .pts x.d.2.2.2.1 (encAgent1 (⟨j9.2.2.1, (some bD), 7, wk, j9.2.2.2.1, false⟩ : Agent1)) 81, .pts bD (encDisk1 (⟨100000, (some mbD), j9.2.1⟩ : Disk1)) 105, MP strB ptV mbD (fm j9.1), FB 109 5 j9.1] ?_
            refine d_t 0 rfl wn (q_move rfl) ?_
            refine d_t 1 rfl wn (q_nilCheck rfl) ?_
            refine d_t 2 rfl wn (q_fieldp rfl fo_81_0) ?_
            refine d_t 3 rfl wn (q_fieldp rfl fo_79_0) ?_
            refine d_t 4 rfl wn (q_fieldp rfl fo_77_0) ?_
            refine d_t 5 rfl wn (q_loadp (v := .int .i64 j9.2.2.1.Fence.ID) sc_3 rfl pk_ rfl) ?_
            refine d_t 6 rfl wn (q_move rfl) ?_
            refine d_t 7 rfl wn (q_nilCheck rfl) ?_
            refine d_t 8 rfl wn (q_fieldp rfl fo_81_0) ?_
            refine d_t 9 rfl wn (q_fieldp rfl fo_79_0) ?_
            refine d_t 10 rfl wn (q_fieldp rfl fo_77_1) ?_
            refine d_t 11 rfl wn (q_loadp (v := .int .i64 j9.2.2.1.Fence.Epoch) sc_3 rfl pk_ rfl) ?_
            refine d_t 12 rfl wn (q_assign rfl) ?_
            refine d_t 13 rfl wn (q_assign rfl) ?_
            refine d_d ?_
            refine k_blk_n ?_
            refine k_then_n ?_
            refine c_region ?_
            refine e_mv rfl ?_
            refine e_q (q_add rfl rfl (by omega) (by omega)) ?_
            refine e_as rfl ?_
            refine l_n ?_
            exact t_next (⟨(x.d.1 + 1, j9.1, j9.2.1, x.d.2.2.2.1, j9.2.2.1, j9.2.2.2.1, j9.2.2.2.2.1, j9.2.2.1.Fence.ID, j9.2.2.1.Fence.Epoch), j9.2.2.2.2.2.2.2.2.1, j9.2.2.2.2.2.2.2.2.2, none, 0, none, 0⟩ : Lp _) ⟨⟨by show x.d.1 + 1 ≤ _; omega, hA3, of_up hO3, hw0, by show j9.2.2.2.1 ≤ ((x.d.1 + 1 : Nat) : Int); omega, hcbj, by show j9.2.2.2.2.1.length ≤ 21 * (x.d.1 + 1); omega⟩, by show _ - (x.d.1 + 1) < _; omega⟩ (.c (.c (.c (.c (.c (.c (.c (.c (.c (.c (.nil _))))))))))) (by refine Ent.pick pk_ ?_; refine Ent.pick pk_ ?_; refine Ent.pick pk_ ?_; refine Ent.pick pk_ ?_; refine Ent.pick pk_ ?_; repeat (first | exact Ent.refl _ | refine Ent.skip ?_))
          · try simp only [decide_eq_true_eq, decide_eq_false_iff_not, ne_eq, Decidable.not_not] at g54_34
            refine l_step (s_no rfl (wno rfl rfl (by decide)) ?_)
            refine l_step (s_no rfl (wno rfl rfl (by decide)) ?_)
            refine l_step (s_no rfl (wno rfl rfl (by decide)) ?_)
            refine l_step (s_no rfl (wno rfl rfl (by decide)) ?_)
            refine l_step (s_no rfl (wno rfl rfl (by decide)) ?_)
            refine e_qw (wy rfl rfl rfl) (q_pick rfl rfl rfl) ?_
            refine e_q (q_pick rfl rfl rfl) ?_
            refine l_n ?_
            refine c_no rfl ?_
            refine c_skip ?_
            refine k_then_n ?_
            refine d_r 14 [.pts b17 (encOrder1 j9.2.2.2.2.2.2.2.1) 69, .pts b16 (encAAct (⟨(acts.getD x.d.1 default).Kind, (acts.getD x.d.1 default).N, (acts.getD x.d.1 default).Os, (acts.getD x.d.1 default).Keep, (acts.getD x.d.1 default).B⟩ : AAct)) 74, .row 3 1 j9.2.2.2.2.2.2.2.2.1 j9.2.2.2.2.1.length j9.2.2.2.2.2.2.2.2.2 (j9.2.2.2.2.1.flatMap encI), .pts x.d.2.2.2.1 (encAgent1 (⟨j9.2.2.1, (some bD), 7, wk, j9.2.2.2.1, false⟩ : Agent1)) 81, .pts bD (encDisk1 (⟨100000, (some mbD), j9.2.1⟩ : Disk1)) 105, MP strB ptV mbD (fm j9.1), FB 109 5 j9.1] ?_
            refine d_t 0 rfl wn (q_move rfl) ?_
            refine d_t 1 rfl wn (q_nilCheck rfl) ?_
            refine d_t 2 rfl wn (q_fieldp rfl fo_81_0) ?_
            refine d_t 3 rfl wn (q_fieldp rfl fo_79_0) ?_
            refine d_t 4 rfl wn (q_fieldp rfl fo_77_0) ?_
            refine d_t 5 rfl wn (q_loadp (v := .int .i64 j9.2.2.1.Fence.ID) sc_3 rfl pk_ rfl) ?_
            refine d_t 6 rfl wn (q_move rfl) ?_
            refine d_t 7 rfl wn (q_nilCheck rfl) ?_
            refine d_t 8 rfl wn (q_fieldp rfl fo_81_0) ?_
            refine d_t 9 rfl wn (q_fieldp rfl fo_79_0) ?_
            refine d_t 10 rfl wn (q_fieldp rfl fo_77_1) ?_
            refine d_t 11 rfl wn (q_loadp (v := .int .i64 j9.2.2.1.Fence.Epoch) sc_3 rfl pk_ rfl) ?_
            refine d_t 12 rfl wn (q_assign rfl) ?_
            refine d_t 13 rfl wn (q_assign rfl) ?_
            refine d_d ?_
            refine k_blk_n ?_
            refine k_then_n ?_
            refine c_region ?_
            refine e_mv rfl ?_
            refine e_q (q_add rfl rfl (by omega) (by omega)) ?_
            refine e_as rfl ?_
            refine l_n ?_
            exact t_next (⟨(x.d.1 + 1, j9.1, j9.2.1, x.d.2.2.2.1, j9.2.2.1, j9.2.2.2.1, j9.2.2.2.2.1, j9.2.2.1.Fence.ID, j9.2.2.1.Fence.Epoch), j9.2.2.2.2.2.2.2.2.1, j9.2.2.2.2.2.2.2.2.2, none, 0, none, 0⟩ : Lp _) ⟨⟨by show x.d.1 + 1 ≤ _; omega, hA3, of_up hO3, hw0, by show j9.2.2.2.1 ≤ ((x.d.1 + 1 : Nat) : Int); omega, hcbj, by show j9.2.2.2.2.1.length ≤ 21 * (x.d.1 + 1); omega⟩, by show _ - (x.d.1 + 1) < _; omega⟩ (.c (.c (.c (.c (.c (.c (.c (.c (.c (.c (.nil _))))))))))) (by refine Ent.pick pk_ ?_; refine Ent.pick pk_ ?_; refine Ent.pick pk_ ?_; refine Ent.pick pk_ ?_; refine Ent.pick pk_ ?_; repeat (first | exact Ent.refl _ | refine Ent.skip ?_))
    · try simp only [decide_eq_true_eq, decide_eq_false_iff_not] at h2
      refine c_exit ?_
      refine k_then_x ?_
      refine k_then_x ?_
      refine k_blk_x ?_
      refine k_then_n ?_
      refine sr ?_
      refine e_as rfl ?_
      refine l_n ?_
      refine c_ret ?_
      exact t_rt [] rfl (.tmp rfl .nil) rfl ⟨rfl, boole (by rfl), rfl⟩ (by (repeat refine Ent.skip ?_); exact Ent.refl _)
end Go.Agn

/-
  Laws over dispatch, walked.
-/
import Derived.Test.YteajafkmnhikoaaDspA
import Derived.Test.YteajafkmnhikoaaDspI
import Derived.Test.YteajafkmnhikoaaDspR
import Derived.Test.YteajafkmnhikoaaDspH
import Derived.Test.YteajafkmnhikoaaDspQ
import Derived.Test.YteajafkmnhikoaaDspL
import Derived.Test.YteajafkmnhikoaaProg
set_option maxRecDepth 100000
set_option maxHeartbeats 4000000
set_option linter.unusedSimpArgs false
set_option linter.unusedVariables false
namespace Go.Dsp.J
open Go Go.SL Go.Proofs Go.Dsp Go.Dsp.L Go.Dsp.A
attribute [local irreducible] Go.SL.Ent
theorem ag_30 : aggSize Try.prog 30 = some 4 := by kernel_rfl
theorem ag_34 : aggSize Try.prog 34 = some 6 := by kernel_rfl
theorem ag_39 : aggSize Try.prog 39 = some 7 := by kernel_rfl
theorem ag_51 : aggSize Try.prog 51 = some 3 := by kernel_rfl
theorem eo_39 : elemOk Try.prog 39 7 72 = true := by kernel_rfl
theorem fo_37_0 : fieldOff Try.prog 37 0 = some (0, 3) := by kernel_rfl
theorem fo_37_1 : fieldOff Try.prog 37 1 = some (1, 3) := by kernel_rfl
theorem fo_37_2 : fieldOff Try.prog 37 2 = some (2, 35) := by kernel_rfl
theorem fo_39_0 : fieldOff Try.prog 39 0 = some (0, 3) := by kernel_rfl
theorem fo_39_1 : fieldOff Try.prog 39 1 = some (1, 3) := by kernel_rfl
theorem fo_39_2 : fieldOff Try.prog 39 2 = some (2, 3) := by kernel_rfl
theorem fo_39_3 : fieldOff Try.prog 39 3 = some (3, 4) := by kernel_rfl
theorem fo_39_4 : fieldOff Try.prog 39 4 = some (4, 37) := by kernel_rfl
theorem fo_48_1 : fieldOff Try.prog 48 1 = some (1, 45) := by kernel_rfl
theorem fo_51_0 : fieldOff Try.prog 51 0 = some (0, 3) := by kernel_rfl
theorem fo_51_1 : fieldOff Try.prog 51 1 = some (1, 40) := by kernel_rfl
theorem fo_51_2 : fieldOff Try.prog 51 2 = some (2, 49) := by kernel_rfl
theorem fo_57_0 : fieldOff Try.prog 57 0 = some (0, 30) := by kernel_rfl
theorem pl_48 : placesOf Try.prog 48 = some [(0, 1), (1, 1), (2, 1)] := by kernel_rfl
theorem sc_3 : isScalar Try.prog 3 = true := by kernel_rfl
theorem sc_35 : isScalar Try.prog 35 = true := by kernel_rfl
theorem sc_4 : isScalar Try.prog 4 = true := by kernel_rfl
theorem sc_40 : isScalar Try.prog 40 = true := by kernel_rfl
theorem sc_45 : isScalar Try.prog 45 = true := by kernel_rfl
theorem sc_49 : isScalar Try.prog 49 = true := by kernel_rfl
theorem sz_30 : sizeIs Try.prog 30 = some 4 := by kernel_rfl
theorem sz_34 : sizeIs Try.prog 34 = some 6 := by kernel_rfl
theorem sz_39 : sizeIs Try.prog 39 = some 7 := by kernel_rfl
theorem sz_51 : sizeIs Try.prog 51 = some 3 := by kernel_rfl
theorem sz_57 : sizeIs Try.prog 57 = some 5 := by kernel_rfl
theorem zc_48 : zeroCs Try.prog 48 = some [.int .i64 0, .slice none 0 0, .slice none 0 0] := by kernel_rfl

theorem orders_spec (a_a : Option Addr) (a_n a_c : Nat) (a : List Ord) (ha_n : a.length = a_n) (b_a : Option Addr) (b_n b_c : Nat) (b : List Ord) (hb_n : b.length = b_n) (ρ : Hp) (hra : Ro ρ 4 a_a a_n a_c (a.flatMap encOrd)) (hrb : Ro ρ 4 b_a b_n b_c (b.flatMap encOrd)) : Spec0 Try.prog 17 #[.slice a_a a_n a_c, .slice b_a b_n b_c] ρ [] (fun v Γ' => v = .bool (ordsB a b) ∧ Γ' = []) := by
  refine spec_of (n := 26) (vs := [_, _]) (σ := [(0, _), (1, _)]) Try.func17 rfl rfl rfl rfl fun E Δ => ?_
  rw [List.nil_append]
  have hml : a_n ≤ 9223372036854775807 := Nat.le_trans hra.2.1 hra.2.2.1
  refine c_seq ?_
  refine c_region ?_
  refine l_step (s_q rfl wn (q_assign rfl) ?_)
  refine l_nil ?_
  refine k_then_n ?_
  refine c_seq ?_
  refine c_seq ?_
  refine c_region ?_
  refine l_step (s_q rfl wn (q_move rfl) ?_)
  refine l_step (s_q rfl wn (q_len Try.underlying40 rfl) ?_)
  refine l_step (s_q rfl wn (q_move rfl) ?_)
  refine l_step (s_q rfl wn (q_len Try.underlying40 rfl) ?_)
  refine l_step (s_q rfl wn (q_neq rfl rfl) ?_)
  refine l_nil ?_
  refine k_then_n ?_
  refine c_cond rfl (fun h0 => ?_) (fun h0 => ?_)
  · skip
    replace h0 : ¬ (a_n : Int) = (b_n : Int) := by simpa using h0
    have hne : ¬ a = b := fun e => by subst e; omega
    refine c_seq ?_
    refine c_region ?_
    refine l_step (s_q rfl wn (q_assign rfl) ?_)
    refine l_nil ?_
    refine k_then_n ?_
    refine c_ret ?_
    refine k_then_r ?_
    exact t_ret [] rfl (.tmp rfl .nil) rfl (Hp.le_refl _) ⟨rfl, boole (ordsB_ne hne).symm, rfl⟩ (by (repeat refine Ent.skip ?_); exact Ent.refl _)
  · skip
    replace h0 : (a_n : Int) = (b_n : Int) := by simpa using h0
    refine c_skip ?_
    refine k_then_n ?_
    refine c_seq ?_
    refine c_seq ?_
    refine c_region ?_
    refine l_step (s_q rfl wn (q_assign rfl) ?_)
    refine l_nil ?_
    refine k_then_n ?_
    refine c_block ?_
    refine Tr.env (σ' := [(0, _), (1, _), (5, _)]) (.cons rfl rfl (.cons rfl rfl (.cons rfl rfl (.nil _)))) ?_
    refine t_loop (ι := Lp (Nat)) (fun x => x.d ≤ a_n ∧ a.take x.d = b.take x.d) (fun x => a_n - x.d) (fun x => [(0, .slice a_a a_n a_c), (1, .slice b_a b_n b_c), (5, .int .i64 (x.d : Int))]) (fun x => Δ) (⟨0, none, 0, none, 0, none, 0⟩ : Lp _) ⟨Nat.zero_le _, rfl⟩ ?_ ?_ ?_
    · exact .cons rfl (by first | rfl | exact inte (by omega) | (simp; done) | (simp <;> omega) | simp [*]) (.cons rfl (by first | rfl | exact inte (by omega) | (simp; done) | (simp <;> omega) | simp [*]) (.cons rfl (by first | rfl | exact inte (by omega) | (simp; done) | (simp <;> omega) | simp [*]) (.nil _)))
    · exact (by repeat (first | exact Ent.nil _ | exact Ent.refl _ | (refine Ent.pick (by repeat (first | exact Pick.here | apply Pick.there)) ?_) | refine Ent.skip ?_))
    intro x hx
    obtain ⟨hx1, hx2⟩ := hx
    refine c_seq ?_
    refine c_seq ?_
    refine c_region ?_
    refine l_step (s_q rfl wn (q_move rfl) ?_)
    refine l_step (s_q rfl wn (q_move rfl) ?_)
    refine l_step (s_q rfl wn (q_len Try.underlying40 rfl) ?_)
    refine l_step (s_q rfl wn (q_lss rfl rfl) ?_)
    refine l_nil ?_
    refine k_then_n ?_
    refine c_cond rfl (fun h1 => ?_) (fun h1 => ?_)
    · try simp only [Bool.and_eq_true, Bool.or_eq_true, Bool.not_eq_true', Bool.and_eq_false_iff, Bool.or_eq_false_iff, Bool.not_eq_false', decide_eq_true_eq, decide_eq_false_iff_not, Bool.not_eq_eq_eq_not, Bool.not_true, Bool.not_false, Bool.not_eq_true, Bool.not_eq_false, beq_iff_eq, bne_iff_ne, ne_eq, Decidable.not_not] at h1
      refine c_skip ?_
      refine k_then_n ?_
      refine c_seq ?_
      refine c_block ?_
      refine c_seq ?_
      refine c_draw (m := 9) (bs := #[false, false, false, false, false, false, false, false, false]) [] (by kernel_rfl) rfl (by kernel_rfl) ?_
      refine r_take (i := 0) (bs' := #[true, false, false, false, false, false, false, false, false]) rfl (by kernel_rfl) (by kernel_rfl) (by kernel_rfl) (fun _ _ _ h => h) rfl wn (q_move rfl) (Hp.le_refl _) (by repeat (first | exact Ent.nil _ | exact Ent.refl _ | (refine Ent.pick (by repeat (first | exact Pick.here | apply Pick.there)) ?_) | refine Ent.skip ?_)) (by kernel_rfl) ?_
      refine r_take (i := 1) (bs' := #[true, true, false, false, false, false, false, false, false]) rfl (by kernel_rfl) (by kernel_rfl) (by kernel_rfl) (fun _ _ _ h => h) rfl wn (q_move rfl) (Hp.le_refl _) (by repeat (first | exact Ent.nil _ | exact Ent.refl _ | (refine Ent.pick (by repeat (first | exact Pick.here | apply Pick.there)) ?_) | refine Ent.skip ?_)) (by kernel_rfl) ?_
      refine r_take (i := 2) (bs' := #[true, true, true, false, false, false, false, false, false]) rfl (by kernel_rfl) (by kernel_rfl) (by kernel_rfl) (fun _ _ _ h => h) rfl wn (q_indexe x.d Try.underlying40 sz_30 rfl rfl (by first | assumption | exact rd_ro (by assumption) | exact rd_row (by repeat (first | exact Pick.here | apply Pick.there))) (by decide) rfl (by first | assumption | omega | (simp only [List.length_cons, List.length_nil]; omega))) (Hp.le_refl _) (by repeat (first | exact Ent.nil _ | exact Ent.refl _ | (refine Ent.pick (by repeat (first | exact Pick.here | apply Pick.there)) ?_) | refine Ent.skip ?_)) (by kernel_rfl) ?_
      refine r_take (i := 3) (bs' := #[true, true, true, true, false, false, false, false, false]) rfl (by kernel_rfl) (by kernel_rfl) (by kernel_rfl) (fun _ _ _ h => h) rfl wn (q_loadea (vs := encOrd (a.getD x.d default)) (enc := encOrd) (xs := a) (j := x.d) (off := 0) ag_30 rfl (by first | assumption | exact rd_ro (by assumption) | exact rd_row (by repeat (first | exact Pick.here | apply Pick.there))) (fun _ => rfl) (by first | assumption | omega | (simp only [List.length_cons, List.length_nil]; omega)) (by simp [encOrd]) (by simp [encOrd]) rfl) (Hp.le_refl _) (by repeat (first | exact Ent.nil _ | exact Ent.refl _ | (refine Ent.pick (by repeat (first | exact Pick.here | apply Pick.there)) ?_) | refine Ent.skip ?_)) (by kernel_rfl) ?_
      refine r_take (i := 4) (bs' := #[true, true, true, true, true, false, false, false, false]) rfl (by kernel_rfl) (by kernel_rfl) (by kernel_rfl) (fun _ _ _ h => h) rfl wn (q_move rfl) (Hp.le_refl _) (by repeat (first | exact Ent.nil _ | exact Ent.refl _ | (refine Ent.pick (by repeat (first | exact Pick.here | apply Pick.there)) ?_) | refine Ent.skip ?_)) (by kernel_rfl) ?_
      refine r_take (i := 5) (bs' := #[true, true, true, true, true, true, false, false, false]) rfl (by kernel_rfl) (by kernel_rfl) (by kernel_rfl) (fun _ _ _ h => h) rfl wn (q_move rfl) (Hp.le_refl _) (by repeat (first | exact Ent.nil _ | exact Ent.refl _ | (refine Ent.pick (by repeat (first | exact Pick.here | apply Pick.there)) ?_) | refine Ent.skip ?_)) (by kernel_rfl) ?_
      refine r_take (i := 6) (bs' := #[true, true, true, true, true, true, true, false, false]) rfl (by kernel_rfl) (by kernel_rfl) (by kernel_rfl) (fun _ _ _ h => h) rfl wn (q_indexe x.d Try.underlying40 sz_30 rfl rfl (by first | assumption | exact rd_ro (by assumption) | exact rd_row (by repeat (first | exact Pick.here | apply Pick.there))) (by decide) rfl (by first | assumption | omega | (simp only [List.length_cons, List.length_nil]; omega))) (Hp.le_refl _) (by repeat (first | exact Ent.nil _ | exact Ent.refl _ | (refine Ent.pick (by repeat (first | exact Pick.here | apply Pick.there)) ?_) | refine Ent.skip ?_)) (by kernel_rfl) ?_
      refine r_take (i := 7) (bs' := #[true, true, true, true, true, true, true, true, false]) rfl (by kernel_rfl) (by kernel_rfl) (by kernel_rfl) (fun _ _ _ h => h) rfl wn (q_loadea (vs := encOrd (b.getD x.d default)) (enc := encOrd) (xs := b) (j := x.d) (off := 0) ag_30 rfl (by first | assumption | exact rd_ro (by assumption) | exact rd_row (by repeat (first | exact Pick.here | apply Pick.there))) (fun _ => rfl) (by first | assumption | omega | (simp only [List.length_cons, List.length_nil]; omega)) (by simp [encOrd]) (by simp [encOrd]) rfl) (Hp.le_refl _) (by repeat (first | exact Ent.nil _ | exact Ent.refl _ | (refine Ent.pick (by repeat (first | exact Pick.here | apply Pick.there)) ?_) | refine Ent.skip ?_)) (by kernel_rfl) ?_
      refine r_take (i := 8) (bs' := #[true, true, true, true, true, true, true, true, true]) rfl (by kernel_rfl) (by kernel_rfl) (by kernel_rfl) (fun _ _ _ h => h) rfl wn (q_neqst (offs := [0, 1, 2, 3]) (la := [(a.getD x.d default).ID, (a.getD x.d default).Epoch, (a.getD x.d default).Cluster, (a.getD x.d default).Version]) (lb := [(b.getD x.d default).ID, (b.getD x.d default).Epoch, (b.getD x.d default).Cluster, (b.getD x.d default).Version]) (by kernel_rfl) rfl rfl (by intro o ho; simp only [List.mem_cons, List.not_mem_nil, or_false] at ho; rcases ho with rfl | rfl | rfl | rfl <;> exact ⟨_, _, _, rfl, rfl⟩) rfl rfl) (Hp.le_refl _) (by repeat (first | exact Ent.nil _ | exact Ent.refl _ | (refine Ent.pick (by repeat (first | exact Pick.here | apply Pick.there)) ?_) | refine Ent.skip ?_)) (by kernel_rfl) ?_
      refine r_done (by kernel_rfl) ?_
      refine k_then_n ?_
      refine c_cond rfl (fun h2 => ?_) (fun h2 => ?_)
      · skip
        have hne : ¬ a = b := fun e => by subst e; simp at h2
        refine c_seq ?_
        refine c_region ?_
        refine l_step (s_q rfl wn (q_assign rfl) ?_)
        refine l_nil ?_
        refine k_then_n ?_
        refine c_ret ?_
        refine k_blk_r ?_
        refine k_then_r ?_
        refine k_then_r ?_
        refine k_blk_r ?_
        refine k_then_r ?_
        exact t_ret [] rfl (.tmp rfl .nil) rfl (Hp.le_refl _) ⟨rfl, boole (ordsB_ne hne).symm, rfl⟩ (by (repeat refine Ent.skip ?_); exact Ent.refl _)
      · skip
        replace h2 : a.getD x.d default = b.getD x.d default := ordL_eq.1 (by simpa using h2)
        refine c_skip ?_
        refine k_blk_n ?_
        refine k_then_n ?_
        refine c_region ?_
        refine l_step (s_q rfl wn (q_move rfl) ?_)
        refine l_step (s_q rfl wn (q_add rfl rfl (by omega) (by omega)) ?_)
        refine l_step (s_q rfl wn (q_assign rfl) ?_)
        refine l_nil ?_
        refine k_then_n ?_
        exact t_next (⟨x.d + 1, none, 0, none, 0, none, 0⟩ : Lp _) ⟨⟨by simp only []; omega, by simp only []; exact take_next (by omega) (by omega) hx2 h2⟩, by simp only []; omega⟩ (.cons rfl (by first | rfl | exact inte (by omega) | (simp; done) | (simp <;> omega) | simp [*]) (.cons rfl (by first | rfl | exact inte (by omega) | (simp; done) | (simp <;> omega) | simp [*]) (.cons rfl (by first | rfl | exact inte (by omega) | (simp; done) | (simp <;> omega) | simp [*]) (.nil _)))) (by repeat (first | exact Ent.nil _ | exact Ent.refl _ | (refine Ent.pick (by repeat (first | exact Pick.here | apply Pick.there)) ?_) | refine Ent.skip ?_))
    · try simp only [Bool.and_eq_true, Bool.or_eq_true, Bool.not_eq_true', Bool.and_eq_false_iff, Bool.or_eq_false_iff, Bool.not_eq_false', decide_eq_true_eq, decide_eq_false_iff_not, Bool.not_eq_eq_eq_not, Bool.not_true, Bool.not_false, Bool.not_eq_true, Bool.not_eq_false, beq_iff_eq, bne_iff_ne, ne_eq, Decidable.not_not] at h1
      have heq : a = b := by rw [show x.d = a.length from by omega, List.take_length, show a.length = b.length from by omega, List.take_length] at hx2; exact hx2
      refine c_exit ?_
      refine k_then_x ?_
      refine k_then_x ?_
      refine k_blk_x ?_
      refine k_then_n ?_
      refine c_seq ?_
      refine c_region ?_
      refine l_step (s_q rfl wn (q_assign rfl) ?_)
      refine l_nil ?_
      refine k_then_n ?_
      refine c_ret ?_
      exact t_ret [] rfl (.tmp rfl .nil) rfl (Hp.le_refl _) ⟨rfl, boole (ordsB_of heq).symm, rfl⟩ (by (repeat refine Ent.skip ?_); exact Ent.refl _)

theorem same_spec (a : Op1) (b : Op1) (ρ : Hp) : Spec0 Try.prog 20 #[.agg (encOp1 a).toArray, .agg (encOp1 b).toArray] ρ [] (fun v Γ' => v = .bool (sameB a b) ∧ Γ' = []) := by
  refine spec_of (n := 50) (vs := [_, _]) (σ := [(0, _), (1, _)]) Try.func20 rfl rfl rfl rfl fun E Δ => ?_
  rw [List.nil_append]
  refine c_seq ?_
  refine c_region ?_
  refine l_step (s_s rfl wn (s_box (cs := encOp1 a) rfl rfl) ?_)
  rintro _ _ ⟨b2, rfl, rfl⟩
  refine l_step (s_s rfl wn (s_box (cs := encOp1 b) rfl rfl) ?_)
  rintro _ _ ⟨b3, rfl, rfl⟩
  refine l_step (s_q rfl wn (q_assign rfl) ?_)
  refine l_nil ?_
  refine k_then_n ?_
  refine c_seq ?_
  refine c_region ?_
  refine l_step (s_q rfl wn (q_fieldp rfl fo_39_0) ?_)
  refine l_step (s_q rfl wn (q_loadp (v := .int .i64 a.Kind) sc_3 rfl (by repeat (first | exact Pick.here | apply Pick.there)) rfl) ?_)
  refine l_step (s_q rfl wn (q_fieldp rfl fo_39_0) ?_)
  refine l_step (s_q rfl wn (q_loadp (v := .int .i64 b.Kind) sc_3 rfl (by repeat (first | exact Pick.here | apply Pick.there)) rfl) ?_)
  refine l_step (s_q rfl wn (q_eql rfl rfl) ?_)
  refine l_step (s_q rfl wn (q_move rfl) ?_)
  refine l_step (s_qg rfl (ask_t rfl rfl) (b := (decide (a.Kind = b.Kind))) (fun hb => q_fieldp rfl fo_39_1) ?_)
  refine l_step (s_qg rfl (ask_t rfl rfl) (b := (decide (a.Kind = b.Kind))) (fun hb => OpQ.env (.cons rfl (gd_t hb) (.nil _) : EnvLe [(11, .pointer (some ⟨b2, 1, none⟩))] _) (q_loadp (v := .int .i64 a.Cluster) sc_3 rfl (by repeat (first | exact Pick.here | apply Pick.there)) rfl)) ?_)
  refine l_step (s_qg rfl (ask_t rfl rfl) (b := (decide (a.Kind = b.Kind))) (fun hb => q_fieldp rfl fo_39_1) ?_)
  refine l_step (s_qg rfl (ask_t rfl rfl) (b := (decide (a.Kind = b.Kind))) (fun hb => OpQ.env (.cons rfl (gd_t hb) (.nil _) : EnvLe [(13, .pointer (some ⟨b3, 1, none⟩))] _) (q_loadp (v := .int .i64 b.Cluster) sc_3 rfl (by repeat (first | exact Pick.here | apply Pick.there)) rfl)) ?_)
  refine l_step (s_qg rfl (ask_t rfl rfl) (b := (decide (a.Kind = b.Kind))) (fun hb => OpQ.env (.cons rfl (gd_t hb) (.cons rfl (gd_t hb) (.nil _)) : EnvLe [(12, .int .i64 a.Cluster), (14, .int .i64 b.Cluster)] _) (q_eql rfl rfl)) ?_)
  refine l_step (s_q rfl wn (q_pick_and rfl rfl rfl (fun h => h)) ?_)
  refine l_step (s_q rfl wn (q_move rfl) ?_)
  refine l_step (s_qg rfl (ask_t rfl rfl) (b := ((decide (a.Kind = b.Kind)) && (decide (a.Cluster = b.Cluster)))) (fun hb => q_fieldp rfl fo_39_2) ?_)
  refine l_step (s_qg rfl (ask_t rfl rfl) (b := ((decide (a.Kind = b.Kind)) && (decide (a.Cluster = b.Cluster)))) (fun hb => OpQ.env (.cons rfl (gd_t hb) (.nil _) : EnvLe [(18, .pointer (some ⟨b2, 2, none⟩))] _) (q_loadp (v := .int .i64 a.Number) sc_3 rfl (by repeat (first | exact Pick.here | apply Pick.there)) rfl)) ?_)
  refine l_step (s_qg rfl (ask_t rfl rfl) (b := ((decide (a.Kind = b.Kind)) && (decide (a.Cluster = b.Cluster)))) (fun hb => q_fieldp rfl fo_39_2) ?_)
  refine l_step (s_qg rfl (ask_t rfl rfl) (b := ((decide (a.Kind = b.Kind)) && (decide (a.Cluster = b.Cluster)))) (fun hb => OpQ.env (.cons rfl (gd_t hb) (.nil _) : EnvLe [(20, .pointer (some ⟨b3, 2, none⟩))] _) (q_loadp (v := .int .i64 b.Number) sc_3 rfl (by repeat (first | exact Pick.here | apply Pick.there)) rfl)) ?_)
  refine l_step (s_qg rfl (ask_t rfl rfl) (b := ((decide (a.Kind = b.Kind)) && (decide (a.Cluster = b.Cluster)))) (fun hb => OpQ.env (.cons rfl (gd_t hb) (.cons rfl (gd_t hb) (.nil _)) : EnvLe [(19, .int .i64 a.Number), (21, .int .i64 b.Number)] _) (q_eql rfl rfl)) ?_)
  refine l_step (s_q rfl wn (q_pick_and rfl rfl rfl (fun h => h)) ?_)
  refine l_step (s_q rfl wn (q_move rfl) ?_)
  refine l_step (s_qg rfl (ask_t rfl rfl) (b := (((decide (a.Kind = b.Kind)) && (decide (a.Cluster = b.Cluster))) && (decide (a.Number = b.Number)))) (fun hb => q_fieldp rfl fo_39_3) ?_)
  refine l_step (s_qg rfl (ask_t rfl rfl) (b := (((decide (a.Kind = b.Kind)) && (decide (a.Cluster = b.Cluster))) && (decide (a.Number = b.Number)))) (fun hb => OpQ.env (.cons rfl (gd_t hb) (.nil _) : EnvLe [(25, .pointer (some ⟨b2, 3, none⟩))] _) (q_loadp (v := .bool a.Good) sc_4 rfl (by repeat (first | exact Pick.here | apply Pick.there)) rfl)) ?_)
  refine l_step (s_qg rfl (ask_t rfl rfl) (b := (((decide (a.Kind = b.Kind)) && (decide (a.Cluster = b.Cluster))) && (decide (a.Number = b.Number)))) (fun hb => q_fieldp rfl fo_39_3) ?_)
  refine l_step (s_qg rfl (ask_t rfl rfl) (b := (((decide (a.Kind = b.Kind)) && (decide (a.Cluster = b.Cluster))) && (decide (a.Number = b.Number)))) (fun hb => OpQ.env (.cons rfl (gd_t hb) (.nil _) : EnvLe [(27, .pointer (some ⟨b3, 3, none⟩))] _) (q_loadp (v := .bool b.Good) sc_4 rfl (by repeat (first | exact Pick.here | apply Pick.there)) rfl)) ?_)
  refine l_step (s_qg rfl (ask_t rfl rfl) (b := (((decide (a.Kind = b.Kind)) && (decide (a.Cluster = b.Cluster))) && (decide (a.Number = b.Number)))) (fun hb => OpQ.env (.cons rfl (gd_t hb) (.cons rfl (gd_t hb) (.nil _)) : EnvLe [(26, .bool a.Good), (28, .bool b.Good)] _) (q_eqlb rfl rfl Try.underlying4)) ?_)
  refine l_step (s_q rfl wn (q_pick_and rfl rfl rfl (fun h => h)) ?_)
  refine l_step (s_q rfl wn (q_move rfl) ?_)
  refine l_step (s_qg rfl (ask_t rfl rfl) (b := ((((decide (a.Kind = b.Kind)) && (decide (a.Cluster = b.Cluster))) && (decide (a.Number = b.Number))) && (a.Good == b.Good))) (fun hb => q_fieldp rfl fo_39_4) ?_)
  refine l_step (s_qg rfl (ask_t rfl rfl) (b := ((((decide (a.Kind = b.Kind)) && (decide (a.Cluster = b.Cluster))) && (decide (a.Number = b.Number))) && (a.Good == b.Good))) (fun hb => OpQ.env (.cons rfl (gd_t hb) (.nil _) : EnvLe [(32, .pointer (some ⟨b2, 4, none⟩))] _) (q_fieldp rfl fo_37_2)) ?_)
  refine l_step (s_qg rfl (ask_t rfl rfl) (b := ((((decide (a.Kind = b.Kind)) && (decide (a.Cluster = b.Cluster))) && (decide (a.Number = b.Number))) && (a.Good == b.Good))) (fun hb => OpQ.env (.cons rfl (gd_t hb) (.nil _) : EnvLe [(33, .pointer (some ⟨b2, 6, none⟩))] _) (q_loadp (v := .slice a.Plan.Waves.a a.Plan.Waves.xs.length a.Plan.Waves.cap) sc_35 rfl (by repeat (first | exact Pick.here | apply Pick.there)) rfl)) ?_)
  refine l_step (s_qg rfl (ask_t rfl rfl) (b := ((((decide (a.Kind = b.Kind)) && (decide (a.Cluster = b.Cluster))) && (decide (a.Number = b.Number))) && (a.Good == b.Good))) (fun hb => OpQ.env (.cons rfl (gd_t hb) (.nil _) : EnvLe [(34, .slice a.Plan.Waves.a a.Plan.Waves.xs.length a.Plan.Waves.cap)] _) (q_len Try.underlying35 rfl)) ?_)
  refine l_step (s_qg rfl (ask_t rfl rfl) (b := ((((decide (a.Kind = b.Kind)) && (decide (a.Cluster = b.Cluster))) && (decide (a.Number = b.Number))) && (a.Good == b.Good))) (fun hb => OpQ.env (.cons rfl (gd_t hb) (.nil _) : EnvLe [(35, .int .i64 (a.Plan.Waves.xs.length : Int))] _) (q_eql rfl rfl)) ?_)
  refine l_step (s_q rfl wn (q_pick_and rfl rfl rfl (fun h => h)) ?_)
  refine l_step (s_q rfl wn (q_move rfl) ?_)
  refine l_step (s_qg rfl (ask_t rfl rfl) (b := (((((decide (a.Kind = b.Kind)) && (decide (a.Cluster = b.Cluster))) && (decide (a.Number = b.Number))) && (a.Good == b.Good)) && (decide ((a.Plan.Waves.xs.length : Int) = 0)))) (fun hb => q_fieldp rfl fo_39_4) ?_)
  refine l_step (s_qg rfl (ask_t rfl rfl) (b := (((((decide (a.Kind = b.Kind)) && (decide (a.Cluster = b.Cluster))) && (decide (a.Number = b.Number))) && (a.Good == b.Good)) && (decide ((a.Plan.Waves.xs.length : Int) = 0)))) (fun hb => OpQ.env (.cons rfl (gd_t hb) (.nil _) : EnvLe [(39, .pointer (some ⟨b2, 4, none⟩))] _) (q_fieldp rfl fo_37_0)) ?_)
  refine l_step (s_qg rfl (ask_t rfl rfl) (b := (((((decide (a.Kind = b.Kind)) && (decide (a.Cluster = b.Cluster))) && (decide (a.Number = b.Number))) && (a.Good == b.Good)) && (decide ((a.Plan.Waves.xs.length : Int) = 0)))) (fun hb => OpQ.env (.cons rfl (gd_t hb) (.nil _) : EnvLe [(40, .pointer (some ⟨b2, 4, none⟩))] _) (q_loadp (v := .int .i64 a.Plan.Budget) sc_3 rfl (by repeat (first | exact Pick.here | apply Pick.there)) rfl)) ?_)
  refine l_step (s_qg rfl (ask_t rfl rfl) (b := (((((decide (a.Kind = b.Kind)) && (decide (a.Cluster = b.Cluster))) && (decide (a.Number = b.Number))) && (a.Good == b.Good)) && (decide ((a.Plan.Waves.xs.length : Int) = 0)))) (fun hb => OpQ.env (.cons rfl (gd_t hb) (.nil _) : EnvLe [(41, .int .i64 a.Plan.Budget)] _) (q_eql rfl rfl)) ?_)
  refine l_step (s_q rfl wn (q_pick_and rfl rfl rfl (fun h => h)) ?_)
  refine l_step (s_q rfl wn (q_move rfl) ?_)
  refine l_step (s_qg rfl (ask_t rfl rfl) (b := ((((((decide (a.Kind = b.Kind)) && (decide (a.Cluster = b.Cluster))) && (decide (a.Number = b.Number))) && (a.Good == b.Good)) && (decide ((a.Plan.Waves.xs.length : Int) = 0))) && (decide (a.Plan.Budget = 0)))) (fun hb => q_fieldp rfl fo_39_4) ?_)
  refine l_step (s_qg rfl (ask_t rfl rfl) (b := ((((((decide (a.Kind = b.Kind)) && (decide (a.Cluster = b.Cluster))) && (decide (a.Number = b.Number))) && (a.Good == b.Good)) && (decide ((a.Plan.Waves.xs.length : Int) = 0))) && (decide (a.Plan.Budget = 0)))) (fun hb => OpQ.env (.cons rfl (gd_t hb) (.nil _) : EnvLe [(45, .pointer (some ⟨b2, 4, none⟩))] _) (q_fieldp rfl fo_37_1)) ?_)
  refine l_step (s_qg rfl (ask_t rfl rfl) (b := ((((((decide (a.Kind = b.Kind)) && (decide (a.Cluster = b.Cluster))) && (decide (a.Number = b.Number))) && (a.Good == b.Good)) && (decide ((a.Plan.Waves.xs.length : Int) = 0))) && (decide (a.Plan.Budget = 0)))) (fun hb => OpQ.env (.cons rfl (gd_t hb) (.nil _) : EnvLe [(46, .pointer (some ⟨b2, 5, none⟩))] _) (q_loadp (v := .int .i64 a.Plan.Bad) sc_3 rfl (by repeat (first | exact Pick.here | apply Pick.there)) rfl)) ?_)
  refine l_step (s_qg rfl (ask_t rfl rfl) (b := ((((((decide (a.Kind = b.Kind)) && (decide (a.Cluster = b.Cluster))) && (decide (a.Number = b.Number))) && (a.Good == b.Good)) && (decide ((a.Plan.Waves.xs.length : Int) = 0))) && (decide (a.Plan.Budget = 0)))) (fun hb => OpQ.env (.cons rfl (gd_t hb) (.nil _) : EnvLe [(47, .int .i64 a.Plan.Bad)] _) (q_eql rfl rfl)) ?_)
  refine l_step (s_q rfl wn (q_pick_and rfl rfl rfl (fun h => h)) ?_)
  refine l_step (s_q rfl wn (q_assign rfl) ?_)
  refine l_nil ?_
  refine k_then_n ?_
  refine c_ret ?_
  exact t_ret [] rfl (.tmp rfl .nil) rfl (Hp.le_refl _) ⟨rfl, rfl, rfl⟩ (by (repeat refine Ent.skip ?_); exact Ent.refl _)

theorem acts_spec (span : Int) (acts_a : Option Addr) (acts_n acts_c : Nat) (acts : List Act1) (hacts_n : acts.length = acts_n) (ρ : Hp) (hro : Ro ρ 3 acts_a acts_n acts_c (acts.flatMap encAct1)) (hmem : ∀ a ∈ acts, ActM a ρ) : Spec0 Try.prog 4 #[.int .i64 span, .slice acts_a acts_n acts_c] ρ [] (fun v Γ' => v = .bool true ∧ Γ' = []) := by
  refine spec_of (n := 162) (vs := [_, _]) (σ := [(0, _), (1, _)]) Try.func4 rfl rfl rfl rfl fun E Δ => ?_
  rw [List.nil_append]
  refine c_seq ?_
  refine c_region ?_
  refine l_step (s_q rfl wn (q_assign rfl) ?_)
  refine l_nil ?_
  refine k_then_n ?_
  refine c_seq ?_
  refine c_seq ?_
  refine c_region ?_
  refine l_step (s_fnq rfl wn Try.func11 rfl (by kernel_rfl) rfl (fun ρ' hL => awake_spec  ρ') ?_)
  refine l_step (s_q rfl wn (q_not rfl) ?_)
  refine l_step (s_q rfl wn (q_move rfl) ?_)
  refine l_step (s_q rfl (wy rfl rfl rfl) (q_move rfl) ?_)
  refine l_step (s_q rfl (wy rfl rfl rfl) (q_len Try.underlying43 rfl) ?_)
  refine l_step (s_q rfl (wy rfl rfl rfl) (q_gtr rfl rfl) ?_)
  refine l_step (s_q rfl wn (q_pick rfl rfl rfl) ?_)
  refine l_nil ?_
  refine k_then_n ?_
  refine c_cond rfl (fun h0 => ?_) (fun h0 => ?_)
  · try simp only [Bool.and_eq_true, Bool.or_eq_true, Bool.not_eq_true', Bool.and_eq_false_iff, Bool.or_eq_false_iff, Bool.not_eq_false', decide_eq_true_eq, decide_eq_false_iff_not, Bool.not_eq_eq_eq_not, Bool.not_true, Bool.not_false, Bool.not_eq_true, Bool.not_eq_false, beq_iff_eq, bne_iff_ne, ne_eq, Decidable.not_not] at h0
    refine c_seq ?_
    refine c_region ?_
    refine l_step (s_fnq rfl wn Try.func11 rfl (by kernel_rfl) rfl (fun ρ' hL => awake_spec  ρ') ?_)
    refine l_step (s_q rfl wn (q_assign rfl) ?_)
    refine l_nil ?_
    refine k_then_n ?_
    refine c_ret ?_
    refine k_then_r ?_
    exact t_ret [] rfl (.tmp rfl .nil) rfl (Hp.le_refl _) ⟨rfl, boole (by rfl), rfl⟩ (by (repeat refine Ent.skip ?_); exact Ent.refl _)
  · try simp only [Bool.and_eq_true, Bool.or_eq_true, Bool.not_eq_true', Bool.and_eq_false_iff, Bool.or_eq_false_iff, Bool.not_eq_false', decide_eq_true_eq, decide_eq_false_iff_not, Bool.not_eq_eq_eq_not, Bool.not_true, Bool.not_false, Bool.not_eq_true, Bool.not_eq_false, beq_iff_eq, bne_iff_ne, ne_eq, Decidable.not_not] at h0
    refine c_skip ?_
    refine k_then_n ?_
    refine c_seq ?_
    refine c_region ?_
    refine l_step (s_q rfl wn (q_move rfl) ?_)
    refine l_step (s_fnb rfl wn Try.func12 rfl (by kernel_rfl) rfl (by repeat (first | exact Sel.nil | exact Pick.here | apply Sel.cons | apply Pick.there)) (fun ρ' hL => new_spec span ρ') ?_)
    rintro _ _ (⟨hsp, bN, boN, btN, rfl, rfl⟩ | ⟨hsp, rfl, rfl⟩)
    try simp only [List.cons_append, List.nil_append]
    · skip
      refine l_step (s_q rfl wn (q_move rfl) ?_)
      refine l_step (s_q rfl wn (q_extract rfl rfl) ?_)
      refine l_step (s_q rfl wn (q_extract rfl rfl) ?_)
      refine l_step (s_q rfl wn (q_assign rfl) ?_)
      refine l_step (s_q rfl wn (q_assign rfl) ?_)
      refine l_nil ?_
      refine k_then_n ?_
      refine c_seq ?_
      refine c_seq ?_
      refine c_region ?_
      refine l_step (s_q rfl wn (q_move rfl) ?_)
      refine l_step (s_q rfl wn (q_lss rfl rfl) ?_)
      refine l_step (s_q rfl wn (q_move rfl) ?_)
      refine l_step (s_qg rfl (ask_f rfl rfl) (b := (!(decide (span < 1)))) (fun hb => q_move rfl) ?_)
      refine l_step (s_qg rfl (ask_f rfl rfl) (b := (!(decide (span < 1)))) (fun hb => OpQ.env (.cons rfl (gd_t hb) (.nil _) : EnvLe [(32, .int .i64 span)] _) (q_gtr rfl rfl)) ?_)
      refine l_step (s_q rfl wn (q_pick_or rfl rfl rfl (fun h => by first | (rw [h]; rfl) | exact congrArg not h)) ?_)
      refine l_nil ?_
      refine k_then_n ?_
      refine c_sure false rfl (by simp only [Bool.or_eq_false_iff, decide_eq_false_iff_not]; omega) ?_
      simp only [Bool.false_eq_true, if_true, if_false]
      refine c_skip ?_
      refine k_then_n ?_
      refine c_seq ?_
      refine c_seq ?_
      refine c_region ?_
      refine l_step (s_q rfl wn (q_move rfl) ?_)
      refine l_step (s_q rfl wn (by first | exact q_eqlp rfl rfl Try.underlying24 | exact q_eqlp0 rfl rfl Try.underlying24) ?_)
      refine l_step (s_q rfl wn (q_move rfl) ?_)
      refine l_step (s_q rfl (wy rfl rfl rfl) (q_move rfl) ?_)
      refine l_step (s_q rfl (wy rfl rfl rfl) (q_neq rfl rfl) ?_)
      refine l_step (s_q rfl wn (q_pick rfl rfl rfl) ?_)
      refine l_nil ?_
      refine k_then_n ?_
      refine c_sure false rfl (by rfl) ?_
      simp only [Bool.false_eq_true, if_true, if_false]
      refine c_skip ?_
      refine k_then_n ?_
      refine c_seq ?_
      refine c_region ?_
      refine l_step (s_q rfl wn (q_move rfl) ?_)
      refine l_step (s_q rfl wn (q_build (cs := encRDisp (⟨span, ⟨none, 0, 0⟩, ⟨none, 0, 0⟩⟩ : RDisp)) zc_48 pl_48 rfl rfl) ?_)
      refine l_step (s_s rfl wn (s_box (cs := encRDisp (⟨span, ⟨none, 0, 0⟩, ⟨none, 0, 0⟩⟩ : RDisp)) rfl rfl) ?_)
      rintro _ _ ⟨b49, rfl, rfl⟩
      refine l_step (s_q rfl wn (q_assign rfl) ?_)
      refine l_nil ?_
      refine k_then_n ?_
      refine c_seq ?_
      refine c_seq ?_
      refine c_region ?_
      refine Tr.ent (Ent.nilrow 106 4 _) ?_
      refine Tr.ent (Ent.nilrow 57 5 _) ?_
      refine l_step (s_q rfl wn (q_assign rfl) ?_)
      refine l_nil ?_
      refine k_then_n ?_
      refine c_block ?_
      refine Tr.env (σ' := [(1, _), (5, _), (7, _), (8, _)]) (.cons rfl rfl (.cons rfl rfl (.cons rfl rfl (.cons rfl rfl (.nil _))))) ?_
      refine t_loop (ι := Lp (Nat × AD)) (fun x => x.d.1 ≤ acts_n ∧ ActI x.d.1 x.d.2) (fun x => acts_n - x.d.1) (fun x => [(1, .slice acts_a acts_n acts_c), (5, .pointer (some ⟨bN, 0, none⟩)), (7, .pointer (some ⟨b49, 0, none⟩)), (8, .int .i64 (x.d.1 : Int))]) (fun x => .row 57 5 x.d.2.q.a1 x.d.2.q.n1 x.d.2.q.c1 ((relL x.d.2.now x.d.2.out).flatMap encRSent) :: .row 106 4 x.d.2.q.a2 x.d.2.q.n2 x.d.2.q.c2 ((relT x.d.2.now x.d.2.told).flatMap encRTold) :: .pts b49 (encRDisp (⟨span, ⟨x.d.2.q.a1, x.d.2.q.n1, x.d.2.q.c1⟩, ⟨x.d.2.q.a2, x.d.2.q.n2, x.d.2.q.c2⟩⟩ : RDisp)) 48 :: MP (Value.int .i64) (aggV encTold) x.d.2.bt x.d.2.told :: MP (Value.int .i64) (aggV encSent) x.d.2.bo x.d.2.out :: .pts bN (encDisp (⟨span, x.d.2.now, (some x.d.2.bo), (some x.d.2.bt)⟩ : Disp)) 98 :: Δ) (⟨(0, (⟨0, boN, btN, [], [], ⟨none, 0, 0, none, 0, 0⟩⟩ : AD)), none, 0, none, 0, none, 0⟩ : Lp _) ⟨Nat.zero_le _, act_zero⟩ ?_ ?_ ?_
      · exact .cons rfl (by first | rfl | exact inte (by omega) | (simp; done) | (simp <;> omega) | simp [*]) (.cons rfl (by first | rfl | exact inte (by omega) | (simp; done) | (simp <;> omega) | simp [*]) (.cons rfl (by first | rfl | exact inte (by omega) | (simp; done) | (simp <;> omega) | simp [*]) (.cons rfl (by first | rfl | exact inte (by omega) | (simp; done) | (simp <;> omega) | simp [*]) (.nil _))))
      · (rw [relL_nil]; exact (by repeat (first | exact Ent.nil _ | exact Ent.refl _ | (refine Ent.pick (by repeat (first | exact Pick.here | apply Pick.there)) ?_) | refine Ent.skip ?_)))
      intro x hx
      obtain ⟨hx1, hI⟩ := hx
      have hN : x.d.1 ≤ 100 := by omega
      have hn0 := hI.n0
      have hn1 := hI.n1
      have hol := hI.ol
      have htl := hI.tl
      have hq1 := hI.q1
      have hq2 := hI.q2
      refine c_seq ?_
      refine c_seq ?_
      refine c_region ?_
      refine l_step (s_q rfl wn (q_move rfl) ?_)
      refine l_step (s_q rfl wn (q_move rfl) ?_)
      refine l_step (s_q rfl wn (q_len Try.underlying43 rfl) ?_)
      refine l_step (s_q rfl wn (q_lss rfl rfl) ?_)
      refine l_nil ?_
      refine k_then_n ?_
      refine c_cond rfl (fun h3 => ?_) (fun h3 => ?_)
      · try simp only [Bool.and_eq_true, Bool.or_eq_true, Bool.not_eq_true', Bool.and_eq_false_iff, Bool.or_eq_false_iff, Bool.not_eq_false', decide_eq_true_eq, decide_eq_false_iff_not, Bool.not_eq_eq_eq_not, Bool.not_true, Bool.not_false, Bool.not_eq_true, Bool.not_eq_false, beq_iff_eq, bne_iff_ne, ne_eq, Decidable.not_not] at h3
        have hA : ActM (acts.getD x.d.1 default) ρ := hmem _ (getD_mem_ (by omega))
        have hOs := hA.1
        have hRs := hA.2.1
        refine c_skip ?_
        refine k_then_n ?_
        refine c_seq ?_
        refine c_block ?_
        refine c_seq ?_
        refine c_region ?_
        refine l_step (s_q rfl wn (q_move rfl) ?_)
        refine l_step (s_q rfl wn (q_move rfl) ?_)
        refine l_step (s_q rfl wn (q_indexe x.d.1 Try.underlying43 sz_51 rfl rfl (by first | assumption | exact rd_ro (by assumption) | exact rd_row (by repeat (first | exact Pick.here | apply Pick.there))) (by decide) rfl (by first | assumption | omega | (simp only [List.length_cons, List.length_nil]; omega))) ?_)
        refine l_step (s_q rfl wn (q_loadea (vs := encAct1 (acts.getD x.d.1 default)) (enc := encAct1) (xs := acts) (j := x.d.1) (off := 0) ag_51 rfl (by first | assumption | exact rd_ro (by assumption) | exact rd_row (by repeat (first | exact Pick.here | apply Pick.there))) (fun _ => rfl) (by first | assumption | omega | (simp only [List.length_cons, List.length_nil]; omega)) (by simp [encAct1]) (by simp [encAct1]) rfl) ?_)
        refine l_step (s_s rfl wn (s_allocz (cs := encAct1 zAct1) (by kernel_rfl)) ?_)
        rintro _ _ ⟨b9, rfl, rfl⟩
        refine l_step (s_s0 wn (s_storep (ws := encAct1 (acts.getD x.d.1 default)) (cs := encAct1 zAct1) (cs' := encAct1 (acts.getD x.d.1 default)) rfl rfl rfl sz_51 (oneAct1 _) (by simp [encAct1, encAct1]) rfl (by repeat (first | exact Pick.here | apply Pick.there))) ?_)
        rintro _ _ ⟨rfl, rfl⟩
        refine l_nil ?_
        refine k_then_n ?_
        refine c_seq ?_
        refine c_seq ?_
        refine c_region ?_
        refine l_step (s_q rfl wn (q_fieldp rfl fo_51_1) ?_)
        refine l_step (s_q rfl wn (q_loadp (v := .slice (((acts.getD x.d.1 default).Os).a) (((acts.getD x.d.1 default).Os).xs.length) (((acts.getD x.d.1 default).Os).cap)) sc_40 rfl (by repeat (first | exact Pick.here | apply Pick.there)) rfl) ?_)
        refine l_step (s_q rfl wn (q_len Try.underlying40 rfl) ?_)
        refine l_step (s_q rfl wn (q_gtr rfl rfl) ?_)
        refine l_step (s_q rfl wn (q_move rfl) ?_)
        refine l_step (s_qg rfl (ask_f rfl rfl) (b := (!(decide (30 < (((acts.getD x.d.1 default).Os).xs.length : Int))))) (fun hb => q_fieldp rfl fo_51_2) ?_)
        refine l_step (s_qg rfl (ask_f rfl rfl) (b := (!(decide (30 < (((acts.getD x.d.1 default).Os).xs.length : Int))))) (fun hb => OpQ.env (.cons rfl (gd_t hb) (.nil _) : EnvLe [(65, .pointer (some ⟨b9, 2, none⟩))] _) (q_loadp (v := .slice (((acts.getD x.d.1 default).Rs).a) (((acts.getD x.d.1 default).Rs).xs.length) (((acts.getD x.d.1 default).Rs).cap)) sc_49 rfl (by repeat (first | exact Pick.here | apply Pick.there)) rfl)) ?_)
        refine l_step (s_qg rfl (ask_f rfl rfl) (b := (!(decide (30 < (((acts.getD x.d.1 default).Os).xs.length : Int))))) (fun hb => OpQ.env (.cons rfl (gd_t hb) (.nil _) : EnvLe [(66, .slice (((acts.getD x.d.1 default).Rs).a) (((acts.getD x.d.1 default).Rs).xs.length) (((acts.getD x.d.1 default).Rs).cap))] _) (q_len Try.underlying49 rfl)) ?_)
        refine l_step (s_qg rfl (ask_f rfl rfl) (b := (!(decide (30 < (((acts.getD x.d.1 default).Os).xs.length : Int))))) (fun hb => OpQ.env (.cons rfl (gd_t hb) (.nil _) : EnvLe [(67, .int .i64 (((acts.getD x.d.1 default).Rs).xs.length : Int))] _) (q_gtr rfl rfl)) ?_)
        refine l_step (s_q rfl wn (q_pick_or rfl rfl rfl (fun h => by first | (rw [h]; rfl) | exact congrArg not h)) ?_)
        refine l_nil ?_
        refine k_then_n ?_
        refine c_cond rfl (fun h4 => ?_) (fun h4 => ?_)
        · try simp only [Bool.and_eq_true, Bool.or_eq_true, Bool.not_eq_true', Bool.and_eq_false_iff, Bool.or_eq_false_iff, Bool.not_eq_false', decide_eq_true_eq, decide_eq_false_iff_not, Bool.not_eq_eq_eq_not, Bool.not_true, Bool.not_false, Bool.not_eq_true, Bool.not_eq_false, beq_iff_eq, bne_iff_ne, ne_eq, Decidable.not_not] at h4
          refine c_seq ?_
          refine c_region ?_
          refine l_step (s_q rfl wn (q_assign rfl) ?_)
          refine l_nil ?_
          refine k_then_n ?_
          refine c_ret ?_
          refine k_then_r ?_
          refine k_blk_r ?_
          refine k_then_r ?_
          refine k_then_r ?_
          refine k_blk_r ?_
          refine k_then_r ?_
          exact t_ret [] rfl (.tmp rfl .nil) rfl (Hp.le_refl _) ⟨rfl, boole (by rfl), rfl⟩ (by (repeat refine Ent.skip ?_); exact Ent.refl _)
        · try simp only [Bool.and_eq_true, Bool.or_eq_true, Bool.not_eq_true', Bool.and_eq_false_iff, Bool.or_eq_false_iff, Bool.not_eq_false', decide_eq_true_eq, decide_eq_false_iff_not, Bool.not_eq_eq_eq_not, Bool.not_true, Bool.not_false, Bool.not_eq_true, Bool.not_eq_false, beq_iff_eq, bne_iff_ne, ne_eq, Decidable.not_not] at h4
          refine c_skip ?_
          refine k_then_n ?_
          refine c_seq ?_
          refine c_seq ?_
          refine c_region ?_
          refine l_step (s_q rfl wn (q_fieldp rfl fo_51_0) ?_)
          refine l_step (s_q rfl wn (q_loadp (v := .int .i64 ((acts.getD x.d.1 default).Kind)) sc_3 rfl (by repeat (first | exact Pick.here | apply Pick.there)) rfl) ?_)
          refine l_nil ?_
          refine k_then_n ?_
          refine c_block ?_
          refine c_seq ?_
          refine c_region ?_
          refine l_step (s_q rfl wn (q_eql rfl rfl) ?_)
          refine l_step (s_q rfl wn (q_assign rfl) ?_)
          refine l_nil ?_
          refine k_then_n ?_
          refine t_cutq (ι := AD) (fun z => ActI (x.d.1 + 1) z) (fun z => [(1, .slice acts_a acts_n acts_c), (5, .pointer (some ⟨bN, 0, none⟩)), (7, .pointer (some ⟨b49, 0, none⟩)), (8, .int .i64 (x.d.1 : Int)), (9, .pointer (some ⟨b9, 0, none⟩)), (50, .int .i64 (x.d.1 : Int)), (51, .slice acts_a acts_n acts_c), (52, .int .i64 (acts_n : Int)), (53, .bool (decide ((x.d.1 : Int) < (acts_n : Int)))), (56, .slice acts_a acts_n acts_c), (57, .int .i64 (x.d.1 : Int)), (58, pe acts_a x.d.1 3 0), (59, .agg (encAct1 (acts.getD x.d.1 default)).toArray), (60, .pointer (some ⟨b9, 1, none⟩)), (61, .slice (((acts.getD x.d.1 default).Os).a) (((acts.getD x.d.1 default).Os).xs.length) (((acts.getD x.d.1 default).Os).cap)), (62, .int .i64 (((acts.getD x.d.1 default).Os).xs.length : Int)), (63, .bool (decide (30 < (((acts.getD x.d.1 default).Os).xs.length : Int)))), (64, .bool (decide (30 < (((acts.getD x.d.1 default).Os).xs.length : Int)))), (65, gd (!(decide (30 < (((acts.getD x.d.1 default).Os).xs.length : Int)))) (.pointer (some ⟨b9, 2, none⟩))), (66, gd (!(decide (30 < (((acts.getD x.d.1 default).Os).xs.length : Int)))) (.slice (((acts.getD x.d.1 default).Rs).a) (((acts.getD x.d.1 default).Rs).xs.length) (((acts.getD x.d.1 default).Rs).cap))), (67, gd (!(decide (30 < (((acts.getD x.d.1 default).Os).xs.length : Int)))) (.int .i64 (((acts.getD x.d.1 default).Rs).xs.length : Int))), (68, gd (!(decide (30 < (((acts.getD x.d.1 default).Os).xs.length : Int)))) (.bool (decide (30 < (((acts.getD x.d.1 default).Rs).xs.length : Int))))), (69, .bool ((decide (30 < (((acts.getD x.d.1 default).Os).xs.length : Int))) || (decide (30 < (((acts.getD x.d.1 default).Rs).xs.length : Int))))), (70, .pointer (some ⟨b9, 0, none⟩)), (71, .int .i64 ((acts.getD x.d.1 default).Kind)), (72, .bool (decide (((acts.getD x.d.1 default).Kind) = 0))), (73, .bool (decide (((acts.getD x.d.1 default).Kind) = 0)))]) (fun z => .pts b9 (encAct1 (acts.getD x.d.1 default)) 51 :: .row 57 5 z.q.a1 z.q.n1 z.q.c1 ((relL z.now z.out).flatMap encRSent) :: .row 106 4 z.q.a2 z.q.n2 z.q.c2 ((relT z.now z.told).flatMap encRTold) :: .pts b49 (encRDisp (⟨span, ⟨z.q.a1, z.q.n1, z.q.c1⟩, ⟨z.q.a2, z.q.n2, z.q.c2⟩⟩ : RDisp)) 48 :: MP (Value.int .i64) (aggV encTold) z.bt z.told :: MP (Value.int .i64) (aggV encSent) z.bo z.out :: .pts bN (encDisp (⟨span, z.now, (some z.bo), (some z.bt)⟩ : Disp)) 98 :: Δ) ?_ ?_
          · skip
            refine c_cond rfl (fun h5 => ?_) (fun h5 => ?_)
            · try simp only [Bool.and_eq_true, Bool.or_eq_true, Bool.not_eq_true', Bool.and_eq_false_iff, Bool.or_eq_false_iff, Bool.not_eq_false', decide_eq_true_eq, decide_eq_false_iff_not, Bool.not_eq_eq_eq_not, Bool.not_true, Bool.not_false, Bool.not_eq_true, Bool.not_eq_false, beq_iff_eq, bne_iff_ne, ne_eq, Decidable.not_not] at h5
              refine c_seq ?_
              refine c_region ?_
              refine l_step (s_q rfl wn (q_move rfl) ?_)
              refine l_step (s_q rfl wn (q_fieldp rfl fo_51_1) ?_)
              refine l_step (s_q rfl wn (q_loadp (v := .slice (((acts.getD x.d.1 default).Os).a) (((acts.getD x.d.1 default).Os).xs.length) (((acts.getD x.d.1 default).Os).cap)) sc_40 rfl (by repeat (first | exact Pick.here | apply Pick.there)) rfl) ?_)
              refine l_step (s_fnb rfl wn Try.func13 rfl (by kernel_rfl) rfl (by repeat (first | exact Sel.nil | exact Pick.here | apply Sel.cons | apply Pick.there)) (fun ρ' hL => set_spec bN (⟨span, x.d.2.now, x.d.2.bo, x.d.2.bt, x.d.2.out, x.d.2.told⟩ : DD) (((acts.getD x.d.1 default).Os).a) (((acts.getD x.d.1 default).Os).xs.length) (((acts.getD x.d.1 default).Os).cap) (((acts.getD x.d.1 default).Os).xs) (by first | rfl | simp) ρ' (by first | omega | decide | (simp <;> omega)) (by first | exact hL.ro (by assumption) | exact hL.row (by repeat (first | exact Pick.here | apply Pick.there)) | assumption)) ?_)
              rintro _ _ ⟨bo77, rfl, rfl⟩
              try simp only [List.cons_append, List.nil_append]
              refine l_nil ?_
              refine k_then_n ?_
              refine c_region ?_
              refine l_step (s_q rfl wn (q_move rfl) ?_)
              refine l_step (s_q rfl wn (q_fieldp rfl fo_51_1) ?_)
              refine l_step (s_q rfl wn (q_loadp (v := .slice (((acts.getD x.d.1 default).Os).a) (((acts.getD x.d.1 default).Os).xs.length) (((acts.getD x.d.1 default).Os).cap)) sc_40 rfl (by repeat (first | exact Pick.here | apply Pick.there)) rfl) ?_)
              refine l_step (s_fnb rfl wn Try.func16 rfl (by kernel_rfl) rfl (by repeat (first | exact Sel.nil | exact Pick.here | apply Sel.cons | apply Pick.there)) (fun ρ' hL => R.rset_spec b49 (⟨span, (relL x.d.2.now x.d.2.out), (relT x.d.2.now x.d.2.told)⟩ : RD) (⟨x.d.2.q.a1, x.d.2.q.n1, x.d.2.q.c1, x.d.2.q.a2, x.d.2.q.n2, x.d.2.q.c2⟩ : RA) (((acts.getD x.d.1 default).Os).a) (((acts.getD x.d.1 default).Os).xs.length) (((acts.getD x.d.1 default).Os).cap) (((acts.getD x.d.1 default).Os).xs) rfl ρ' (by omega) (show x.d.2.q.n1 ≤ 1000000 from by omega) (rset_bound hI.ok ((acts.getD x.d.1 default).Os.xs) (by omega)) (by first | exact hL.ro (by assumption) | exact hL.row (by repeat (first | exact Pick.here | apply Pick.there)) | assumption)) ?_)
              rintro _ _ ⟨ra81, rc81, rfl, rfl⟩
              try simp only [List.cons_append, List.nil_append]
              have hS := rel_set (now := x.d.2.now) hI.ok ((acts.getD x.d.1 default).Os.xs)
              rw [hS.1]
              refine l_nil ?_
              refine k_then_n ?_
              exact t_next (⟨x.d.2.now, bo77, x.d.2.bt, (setF x.d.2.out ((acts.getD x.d.1 default).Os.xs)), x.d.2.told, ⟨ra81, (relL x.d.2.now (setF x.d.2.out ((acts.getD x.d.1 default).Os.xs))).length, rc81, x.d.2.q.a2, x.d.2.q.n2, x.d.2.q.c2⟩⟩ : AD) (act_set hI hA.2.2.1 (by omega)) (.cons rfl (by first | rfl | exact inte (by omega) | (simp; done) | (simp <;> omega) | simp [*]) (.cons rfl (by first | rfl | exact inte (by omega) | (simp; done) | (simp <;> omega) | simp [*]) (.cons rfl (by first | rfl | exact inte (by omega) | (simp; done) | (simp <;> omega) | simp [*]) (.cons rfl (by first | rfl | exact inte (by omega) | (simp; done) | (simp <;> omega) | simp [*]) (.cons rfl (by first | rfl | exact inte (by omega) | (simp; done) | (simp <;> omega) | simp [*]) (.cons rfl (by first | rfl | exact inte (by omega) | (simp; done) | (simp <;> omega) | simp [*]) (.cons rfl (by first | rfl | exact inte (by omega) | (simp; done) | (simp <;> omega) | simp [*]) (.cons rfl (by first | rfl | exact inte (by omega) | (simp; done) | (simp <;> omega) | simp [*]) (.cons rfl (by first | rfl | exact inte (by omega) | (simp; done) | (simp <;> omega) | simp [*]) (.cons rfl (by first | rfl | exact inte (by omega) | (simp; done) | (simp <;> omega) | simp [*]) (.cons rfl (by first | rfl | exact inte (by omega) | (simp; done) | (simp <;> omega) | simp [*]) (.cons rfl (by first | rfl | exact inte (by omega) | (simp; done) | (simp <;> omega) | simp [*]) (.cons rfl (by first | rfl | exact inte (by omega) | (simp; done) | (simp <;> omega) | simp [*]) (.cons rfl (by first | rfl | exact inte (by omega) | (simp; done) | (simp <;> omega) | simp [*]) (.cons rfl (by first | rfl | exact inte (by omega) | (simp; done) | (simp <;> omega) | simp [*]) (.cons rfl (by first | rfl | exact inte (by omega) | (simp; done) | (simp <;> omega) | simp [*]) (.cons rfl (by first | rfl | exact inte (by omega) | (simp; done) | (simp <;> omega) | simp [*]) (.cons rfl (by first | rfl | exact inte (by omega) | (simp; done) | (simp <;> omega) | simp [*]) (.cons rfl (by first | rfl | exact inte (by omega) | (simp; done) | (simp <;> omega) | simp [*]) (.cons rfl (by first | rfl | exact inte (by omega) | (simp; done) | (simp <;> omega) | simp [*]) (.cons rfl (by first | rfl | exact inte (by omega) | (simp; done) | (simp <;> omega) | simp [*]) (.cons rfl (by first | rfl | exact inte (by omega) | (simp; done) | (simp <;> omega) | simp [*]) (.cons rfl (by first | rfl | exact inte (by omega) | (simp; done) | (simp <;> omega) | simp [*]) (.cons rfl (by first | rfl | exact inte (by omega) | (simp; done) | (simp <;> omega) | simp [*]) (.cons rfl (by first | rfl | exact inte (by omega) | (simp; done) | (simp <;> omega) | simp [*]) (.cons rfl (by first | rfl | exact inte (by omega) | (simp; done) | (simp <;> omega) | simp [*]) (.cons rfl (by first | rfl | exact inte (by omega) | (simp; done) | (simp <;> omega) | simp [*]) (.nil _)))))))))))))))))))))))))))) (by repeat (first | exact Ent.nil _ | exact Ent.refl _ | (refine Ent.pick (by repeat (first | exact Pick.here | apply Pick.there)) ?_) | refine Ent.skip ?_))
            · try simp only [Bool.and_eq_true, Bool.or_eq_true, Bool.not_eq_true', Bool.and_eq_false_iff, Bool.or_eq_false_iff, Bool.not_eq_false', decide_eq_true_eq, decide_eq_false_iff_not, Bool.not_eq_eq_eq_not, Bool.not_true, Bool.not_false, Bool.not_eq_true, Bool.not_eq_false, beq_iff_eq, bne_iff_ne, ne_eq, Decidable.not_not] at h5
              refine c_seq ?_
              refine c_region ?_
              refine l_step (s_q rfl wn (q_eql rfl rfl) ?_)
              refine l_step (s_q rfl wn (q_assign rfl) ?_)
              refine l_nil ?_
              refine k_then_n ?_
              refine c_cond rfl (fun h6 => ?_) (fun h6 => ?_)
              · try simp only [Bool.and_eq_true, Bool.or_eq_true, Bool.not_eq_true', Bool.and_eq_false_iff, Bool.or_eq_false_iff, Bool.not_eq_false', decide_eq_true_eq, decide_eq_false_iff_not, Bool.not_eq_eq_eq_not, Bool.not_true, Bool.not_false, Bool.not_eq_true, Bool.not_eq_false, beq_iff_eq, bne_iff_ne, ne_eq, Decidable.not_not] at h6
                refine c_seq ?_
                refine c_region ?_
                refine l_step (s_q rfl wn (q_move rfl) ?_)
                refine l_step (s_fnb rfl wn Try.func15 rfl (by kernel_rfl) rfl (by repeat (first | exact Sel.nil | exact Pick.here | apply Sel.cons | apply Pick.there)) (fun ρ' hL => tick_spec bN (⟨span, x.d.2.now, x.d.2.bo, x.d.2.bt, x.d.2.out, x.d.2.told⟩ : DD) ρ' hI.oo (show (0 : Int) ≤ x.d.2.now ∧ x.d.2.now ≤ 1000000 from ⟨hI.n0, by omega⟩)) ?_)
                rintro _ _ ⟨a85, c85, rfl, rfl⟩
                try simp only [List.cons_append, List.nil_append]
                refine l_step (s_q rfl wn (q_move rfl) ?_)
                refine l_step (s_fnb rfl wn Try.func18 rfl (by kernel_rfl) rfl (by repeat (first | exact Sel.nil | exact Pick.here | apply Sel.cons | apply Pick.there)) (fun ρ' hL => R.rtick_spec b49 (⟨span, (relL x.d.2.now x.d.2.out), (relT x.d.2.now x.d.2.told)⟩ : RD) (⟨x.d.2.q.a1, x.d.2.q.n1, x.d.2.q.c1, x.d.2.q.a2, x.d.2.q.n2, x.d.2.q.c2⟩ : RA) ρ' (show x.d.2.q.n1 ≤ 1000000 from by omega) (show x.d.2.q.n2 ≤ 1000000 from by omega) (relL_since hI.oo hI.n0 (by omega)) (relT_since hI.to hI.n0 (by omega))) ?_)
                rintro _ _ ⟨ra87, rc87, rfl, rfl⟩
                try simp only [List.cons_append, List.nil_append]
                have hT := rel_tick (span := span) hI.ok hI.oo hI.n0
                rw [← hT.2.1, rel_tickT hI.to, ← hT.1]
                refine l_step (s_fnq rfl wn Try.func17 rfl (by kernel_rfl) rfl (fun ρ' hL => orders_spec a85 ((tickF (x.d.2.now + 1) span x.d.2.out).2.length) c85 ((tickF (x.d.2.now + 1) span x.d.2.out).2) (by first | rfl | assumption | simp | (simp <;> omega) | omega) ra87 ((tickF (x.d.2.now + 1) span x.d.2.out).2.length) rc87 ((tickF (x.d.2.now + 1) span x.d.2.out).2) (by first | rfl | assumption | simp | (simp <;> omega) | omega) ρ' (by first | exact hL.ro (by assumption) | exact hL.row (by repeat (first | exact Pick.here | apply Pick.there)) | assumption) (by first | exact hL.ro (by assumption) | exact hL.row (by repeat (first | exact Pick.here | apply Pick.there)) | assumption)) ?_)
                refine l_step (s_q rfl wn (q_not rfl) ?_)
                refine l_nil ?_
                refine k_then_n ?_
                refine c_sure false rfl (by rw [ordsB_self]; rfl) ?_
                simp only [Bool.false_eq_true, if_true, if_false]
                refine c_skip ?_
                refine k_then_n ?_
                exact t_next (⟨x.d.2.now + 1, x.d.2.bo, x.d.2.bt, (tickF (x.d.2.now + 1) span x.d.2.out).1, x.d.2.told, x.d.2.q⟩ : AD) (act_tick hI) (.cons rfl (by first | rfl | exact inte (by omega) | (simp; done) | (simp <;> omega) | simp [*]) (.cons rfl (by first | rfl | exact inte (by omega) | (simp; done) | (simp <;> omega) | simp [*]) (.cons rfl (by first | rfl | exact inte (by omega) | (simp; done) | (simp <;> omega) | simp [*]) (.cons rfl (by first | rfl | exact inte (by omega) | (simp; done) | (simp <;> omega) | simp [*]) (.cons rfl (by first | rfl | exact inte (by omega) | (simp; done) | (simp <;> omega) | simp [*]) (.cons rfl (by first | rfl | exact inte (by omega) | (simp; done) | (simp <;> omega) | simp [*]) (.cons rfl (by first | rfl | exact inte (by omega) | (simp; done) | (simp <;> omega) | simp [*]) (.cons rfl (by first | rfl | exact inte (by omega) | (simp; done) | (simp <;> omega) | simp [*]) (.cons rfl (by first | rfl | exact inte (by omega) | (simp; done) | (simp <;> omega) | simp [*]) (.cons rfl (by first | rfl | exact inte (by omega) | (simp; done) | (simp <;> omega) | simp [*]) (.cons rfl (by first | rfl | exact inte (by omega) | (simp; done) | (simp <;> omega) | simp [*]) (.cons rfl (by first | rfl | exact inte (by omega) | (simp; done) | (simp <;> omega) | simp [*]) (.cons rfl (by first | rfl | exact inte (by omega) | (simp; done) | (simp <;> omega) | simp [*]) (.cons rfl (by first | rfl | exact inte (by omega) | (simp; done) | (simp <;> omega) | simp [*]) (.cons rfl (by first | rfl | exact inte (by omega) | (simp; done) | (simp <;> omega) | simp [*]) (.cons rfl (by first | rfl | exact inte (by omega) | (simp; done) | (simp <;> omega) | simp [*]) (.cons rfl (by first | rfl | exact inte (by omega) | (simp; done) | (simp <;> omega) | simp [*]) (.cons rfl (by first | rfl | exact inte (by omega) | (simp; done) | (simp <;> omega) | simp [*]) (.cons rfl (by first | rfl | exact inte (by omega) | (simp; done) | (simp <;> omega) | simp [*]) (.cons rfl (by first | rfl | exact inte (by omega) | (simp; done) | (simp <;> omega) | simp [*]) (.cons rfl (by first | rfl | exact inte (by omega) | (simp; done) | (simp <;> omega) | simp [*]) (.cons rfl (by first | rfl | exact inte (by omega) | (simp; done) | (simp <;> omega) | simp [*]) (.cons rfl (by first | rfl | exact inte (by omega) | (simp; done) | (simp <;> omega) | simp [*]) (.cons rfl (by first | rfl | exact inte (by omega) | (simp; done) | (simp <;> omega) | simp [*]) (.cons rfl (by first | rfl | exact inte (by omega) | (simp; done) | (simp <;> omega) | simp [*]) (.cons rfl (by first | rfl | exact inte (by omega) | (simp; done) | (simp <;> omega) | simp [*]) (.cons rfl (by first | rfl | exact inte (by omega) | (simp; done) | (simp <;> omega) | simp [*]) (.nil _)))))))))))))))))))))))))))) (by repeat (first | exact Ent.nil _ | exact Ent.refl _ | (refine Ent.pick (by repeat (first | exact Pick.here | apply Pick.there)) ?_) | refine Ent.skip ?_))
              · try simp only [Bool.and_eq_true, Bool.or_eq_true, Bool.not_eq_true', Bool.and_eq_false_iff, Bool.or_eq_false_iff, Bool.not_eq_false', decide_eq_true_eq, decide_eq_false_iff_not, Bool.not_eq_eq_eq_not, Bool.not_true, Bool.not_false, Bool.not_eq_true, Bool.not_eq_false, beq_iff_eq, bne_iff_ne, ne_eq, Decidable.not_not] at h6
                refine c_seq ?_
                refine c_region ?_
                refine l_step (s_q rfl wn (q_eql rfl rfl) ?_)
                refine l_step (s_q rfl wn (q_assign rfl) ?_)
                refine l_nil ?_
                refine k_then_n ?_
                refine c_cond rfl (fun h8 => ?_) (fun h8 => ?_)
                · try simp only [Bool.and_eq_true, Bool.or_eq_true, Bool.not_eq_true', Bool.and_eq_false_iff, Bool.or_eq_false_iff, Bool.not_eq_false', decide_eq_true_eq, decide_eq_false_iff_not, Bool.not_eq_eq_eq_not, Bool.not_true, Bool.not_false, Bool.not_eq_true, Bool.not_eq_false, beq_iff_eq, bne_iff_ne, ne_eq, Decidable.not_not] at h8
                  refine c_seq ?_
                  refine c_region ?_
                  refine l_step (s_q rfl wn (q_assign rfl) ?_)
                  refine l_nil ?_
                  refine k_then_n ?_
                  refine c_seq ?_
                  refine c_seq ?_
                  refine c_region ?_
                  refine l_step (s_q rfl wn (q_assign rfl) ?_)
                  refine l_nil ?_
                  refine k_then_n ?_
                  refine c_block ?_
                  refine Tr.ent (Ent.nilrow 39 7 _) ?_
                  refine Tr.env (σ' := [(1, _), (5, _), (7, _), (8, _), (9, _), (10, _), (11, _), (50, _), (51, _), (52, _), (53, _), (56, _), (57, _), (58, _), (59, _), (60, _), (61, _), (62, _), (63, _), (64, _), (65, _), (66, _), (67, _), (68, _), (69, _), (70, _), (71, _), (72, _), (73, _), (82, _), (83, _), (90, _), (91, _)]) (.cons rfl rfl (.cons rfl rfl (.cons rfl rfl (.cons rfl rfl (.cons rfl rfl (.cons rfl rfl (.cons rfl rfl (.cons rfl rfl (.cons rfl rfl (.cons rfl rfl (.cons rfl rfl (.cons rfl rfl (.cons rfl rfl (.cons rfl rfl (.cons rfl rfl (.cons rfl rfl (.cons rfl rfl (.cons rfl rfl (.cons rfl rfl (.cons rfl rfl (.cons rfl rfl (.cons rfl rfl (.cons rfl rfl (.cons rfl rfl (.cons rfl rfl (.cons rfl rfl (.cons rfl rfl (.cons rfl rfl (.cons rfl rfl (.cons rfl rfl (.cons rfl rfl (.cons rfl rfl (.cons rfl rfl (.nil _)))))))))))))))))))))))))))))))))) ?_
                  refine t_loop (ι := Lp (Nat × Option Addr × Nat × Nat)) (fun y => y.d.1 ≤ (acts.getD x.d.1 default).Rs.xs.length ∧ y.d.2.2.1 = (hK x.d.2.now span x.d.2.out x.d.2.told (acts.getD x.d.1 default).Rs.xs y.d.1).1.length) (fun y => (acts.getD x.d.1 default).Rs.xs.length - y.d.1) (fun y => [(1, .slice acts_a acts_n acts_c), (5, .pointer (some ⟨bN, 0, none⟩)), (7, .pointer (some ⟨b49, 0, none⟩)), (8, .int .i64 (x.d.1 : Int)), (9, .pointer (some ⟨b9, 0, none⟩)), (10, .slice y.a1 (((hK x.d.2.now span x.d.2.out x.d.2.told (acts.getD x.d.1 default).Rs.xs y.d.1).2).length) y.c1), (11, .int .i64 (y.d.1 : Int)), (50, .int .i64 (x.d.1 : Int)), (51, .slice acts_a acts_n acts_c), (52, .int .i64 (acts_n : Int)), (53, .bool (decide ((x.d.1 : Int) < (acts_n : Int)))), (56, .slice acts_a acts_n acts_c), (57, .int .i64 (x.d.1 : Int)), (58, pe acts_a x.d.1 3 0), (59, .agg (encAct1 (acts.getD x.d.1 default)).toArray), (60, .pointer (some ⟨b9, 1, none⟩)), (61, .slice (((acts.getD x.d.1 default).Os).a) (((acts.getD x.d.1 default).Os).xs.length) (((acts.getD x.d.1 default).Os).cap)), (62, .int .i64 (((acts.getD x.d.1 default).Os).xs.length : Int)), (63, .bool (decide (30 < (((acts.getD x.d.1 default).Os).xs.length : Int)))), (64, .bool (decide (30 < (((acts.getD x.d.1 default).Os).xs.length : Int)))), (65, gd (!(decide (30 < (((acts.getD x.d.1 default).Os).xs.length : Int)))) (.pointer (some ⟨b9, 2, none⟩))), (66, gd (!(decide (30 < (((acts.getD x.d.1 default).Os).xs.length : Int)))) (.slice (((acts.getD x.d.1 default).Rs).a) (((acts.getD x.d.1 default).Rs).xs.length) (((acts.getD x.d.1 default).Rs).cap))), (67, gd (!(decide (30 < (((acts.getD x.d.1 default).Os).xs.length : Int)))) (.int .i64 (((acts.getD x.d.1 default).Rs).xs.length : Int))), (68, gd (!(decide (30 < (((acts.getD x.d.1 default).Os).xs.length : Int)))) (.bool (decide (30 < (((acts.getD x.d.1 default).Rs).xs.length : Int))))), (69, .bool ((decide (30 < (((acts.getD x.d.1 default).Os).xs.length : Int))) || (decide (30 < (((acts.getD x.d.1 default).Rs).xs.length : Int))))), (70, .pointer (some ⟨b9, 0, none⟩)), (71, .int .i64 ((acts.getD x.d.1 default).Kind)), (72, .bool (decide (((acts.getD x.d.1 default).Kind) = 0))), (73, .bool (decide (((acts.getD x.d.1 default).Kind) = 0))), (82, .bool (decide (((acts.getD x.d.1 default).Kind) = 1))), (83, .bool (decide (((acts.getD x.d.1 default).Kind) = 1))), (90, .bool (decide (((acts.getD x.d.1 default).Kind) = 2))), (91, .bool (decide (((acts.getD x.d.1 default).Kind) = 2)))]) (fun y => .row 39 7 y.a1 (((hK x.d.2.now span x.d.2.out x.d.2.told (acts.getD x.d.1 default).Rs.xs y.d.1).2).length) y.c1 (((hK x.d.2.now span x.d.2.out x.d.2.told (acts.getD x.d.1 default).Rs.xs y.d.1).2).flatMap encOp1) :: .pts b9 (encAct1 (acts.getD x.d.1 default)) 51 :: .row 57 5 x.d.2.q.a1 x.d.2.q.n1 x.d.2.q.c1 ((relL x.d.2.now x.d.2.out).flatMap encRSent) :: .row 106 4 y.d.2.1 y.d.2.2.1 y.d.2.2.2 ((relT x.d.2.now (hK x.d.2.now span x.d.2.out x.d.2.told (acts.getD x.d.1 default).Rs.xs y.d.1).1).flatMap encRTold) :: .pts b49 (encRDisp (⟨span, ⟨x.d.2.q.a1, x.d.2.q.n1, x.d.2.q.c1⟩, ⟨y.d.2.1, y.d.2.2.1, y.d.2.2.2⟩⟩ : RDisp)) 48 :: MP (Value.int .i64) (aggV encTold) x.d.2.bt x.d.2.told :: MP (Value.int .i64) (aggV encSent) x.d.2.bo x.d.2.out :: .pts bN (encDisp (⟨span, x.d.2.now, (some x.d.2.bo), (some x.d.2.bt)⟩ : Disp)) 98 :: Δ) (⟨(0, x.d.2.q.a2, x.d.2.q.n2, x.d.2.q.c2), none, 0, none, 0, none, 0⟩ : Lp _) ⟨Nat.zero_le _, hI.q2⟩ ?_ ?_ ?_
                  · exact .cons rfl (by first | rfl | exact inte (by omega) | (simp; done) | (simp <;> omega) | simp [*]) (.cons rfl (by first | rfl | exact inte (by omega) | (simp; done) | (simp <;> omega) | simp [*]) (.cons rfl (by first | rfl | exact inte (by omega) | (simp; done) | (simp <;> omega) | simp [*]) (.cons rfl (by first | rfl | exact inte (by omega) | (simp; done) | (simp <;> omega) | simp [*]) (.cons rfl (by first | rfl | exact inte (by omega) | (simp; done) | (simp <;> omega) | simp [*]) (.cons rfl (by first | rfl | exact inte (by omega) | (simp; done) | (simp <;> omega) | simp [*]) (.cons rfl (by first | rfl | exact inte (by omega) | (simp; done) | (simp <;> omega) | simp [*]) (.cons rfl (by first | rfl | exact inte (by omega) | (simp; done) | (simp <;> omega) | simp [*]) (.cons rfl (by first | rfl | exact inte (by omega) | (simp; done) | (simp <;> omega) | simp [*]) (.cons rfl (by first | rfl | exact inte (by omega) | (simp; done) | (simp <;> omega) | simp [*]) (.cons rfl (by first | rfl | exact inte (by omega) | (simp; done) | (simp <;> omega) | simp [*]) (.cons rfl (by first | rfl | exact inte (by omega) | (simp; done) | (simp <;> omega) | simp [*]) (.cons rfl (by first | rfl | exact inte (by omega) | (simp; done) | (simp <;> omega) | simp [*]) (.cons rfl (by first | rfl | exact inte (by omega) | (simp; done) | (simp <;> omega) | simp [*]) (.cons rfl (by first | rfl | exact inte (by omega) | (simp; done) | (simp <;> omega) | simp [*]) (.cons rfl (by first | rfl | exact inte (by omega) | (simp; done) | (simp <;> omega) | simp [*]) (.cons rfl (by first | rfl | exact inte (by omega) | (simp; done) | (simp <;> omega) | simp [*]) (.cons rfl (by first | rfl | exact inte (by omega) | (simp; done) | (simp <;> omega) | simp [*]) (.cons rfl (by first | rfl | exact inte (by omega) | (simp; done) | (simp <;> omega) | simp [*]) (.cons rfl (by first | rfl | exact inte (by omega) | (simp; done) | (simp <;> omega) | simp [*]) (.cons rfl (by first | rfl | exact inte (by omega) | (simp; done) | (simp <;> omega) | simp [*]) (.cons rfl (by first | rfl | exact inte (by omega) | (simp; done) | (simp <;> omega) | simp [*]) (.cons rfl (by first | rfl | exact inte (by omega) | (simp; done) | (simp <;> omega) | simp [*]) (.cons rfl (by first | rfl | exact inte (by omega) | (simp; done) | (simp <;> omega) | simp [*]) (.cons rfl (by first | rfl | exact inte (by omega) | (simp; done) | (simp <;> omega) | simp [*]) (.cons rfl (by first | rfl | exact inte (by omega) | (simp; done) | (simp <;> omega) | simp [*]) (.cons rfl (by first | rfl | exact inte (by omega) | (simp; done) | (simp <;> omega) | simp [*]) (.cons rfl (by first | rfl | exact inte (by omega) | (simp; done) | (simp <;> omega) | simp [*]) (.cons rfl (by first | rfl | exact inte (by omega) | (simp; done) | (simp <;> omega) | simp [*]) (.cons rfl (by first | rfl | exact inte (by omega) | (simp; done) | (simp <;> omega) | simp [*]) (.cons rfl (by first | rfl | exact inte (by omega) | (simp; done) | (simp <;> omega) | simp [*]) (.cons rfl (by first | rfl | exact inte (by omega) | (simp; done) | (simp <;> omega) | simp [*]) (.cons rfl (by first | rfl | exact inte (by omega) | (simp; done) | (simp <;> omega) | simp [*]) (.nil _)))))))))))))))))))))))))))))))))
                  · exact (by repeat (first | exact Ent.nil _ | exact Ent.refl _ | (refine Ent.pick (by repeat (first | exact Pick.here | apply Pick.there)) ?_) | refine Ent.skip ?_))
                  intro y hy
                  obtain ⟨hy1, hy2⟩ := hy
                  have hTk := hK_ok (span := span) (out := x.d.2.out) (k := y.d.1) hI.to hI.n0 hA.2.2.2 (by omega)
                  have hTn := hK_nd (now := x.d.2.now) (span := span) (out := x.d.2.out) (rs := (acts.getD x.d.1 default).Rs.xs) (k := y.d.1) hI.nd
                  have hiv := hK_inv (span := span) (out := x.d.2.out) (k := y.d.1) hI.to hI.n0 hA.2.2.2
                  have hiw := (hK_inv (span := span) (out := x.d.2.out) (k := y.d.1 + 1) hI.to hI.n0 hA.2.2.2).2.2
                  have hi1 := hiv.2.1
                  have hi2 := hiv.2.2
                  rw [List.length_take] at hiw hi1 hi2
                  refine c_seq ?_
                  refine c_seq ?_
                  refine c_region ?_
                  refine l_step (s_q rfl wn (q_move rfl) ?_)
                  refine l_step (s_q rfl wn (q_fieldp rfl fo_51_2) ?_)
                  refine l_step (s_q rfl wn (q_loadp (v := .slice (((acts.getD x.d.1 default).Rs).a) (((acts.getD x.d.1 default).Rs).xs.length) (((acts.getD x.d.1 default).Rs).cap)) sc_49 rfl (by repeat (first | exact Pick.here | apply Pick.there)) rfl) ?_)
                  refine l_step (s_q rfl wn (q_len Try.underlying49 rfl) ?_)
                  refine l_step (s_q rfl wn (q_lss rfl rfl) ?_)
                  refine l_nil ?_
                  refine k_then_n ?_
                  refine c_cond rfl (fun h9 => ?_) (fun h9 => ?_)
                  · try simp only [Bool.and_eq_true, Bool.or_eq_true, Bool.not_eq_true', Bool.and_eq_false_iff, Bool.or_eq_false_iff, Bool.not_eq_false', decide_eq_true_eq, decide_eq_false_iff_not, Bool.not_eq_eq_eq_not, Bool.not_true, Bool.not_false, Bool.not_eq_true, Bool.not_eq_false, beq_iff_eq, bne_iff_ne, ne_eq, Decidable.not_not] at h9
                    refine c_skip ?_
                    refine k_then_n ?_
                    refine c_seq ?_
                    refine c_block ?_
                    refine c_region ?_
                    refine l_step (s_q rfl wn (q_move rfl) ?_)
                    refine l_step (s_q rfl wn (q_move rfl) ?_)
                    refine l_step (s_q rfl wn (q_fieldp rfl fo_51_2) ?_)
                    refine l_step (s_q rfl wn (q_loadp (v := .slice (((acts.getD x.d.1 default).Rs).a) (((acts.getD x.d.1 default).Rs).xs.length) (((acts.getD x.d.1 default).Rs).cap)) sc_49 rfl (by repeat (first | exact Pick.here | apply Pick.there)) rfl) ?_)
                    refine l_step (s_q rfl wn (q_move rfl) ?_)
                    refine l_step (s_q rfl wn (q_indexe y.d.1 Try.underlying49 sz_34 rfl rfl (by first | assumption | exact rd_ro (by assumption) | exact rd_row (by repeat (first | exact Pick.here | apply Pick.there))) (by decide) rfl (by first | assumption | omega | (simp only [List.length_cons, List.length_nil]; omega))) ?_)
                    refine l_step (s_q rfl wn (q_loadea (vs := encRep_ ((((acts.getD x.d.1 default).Rs).xs).getD y.d.1 default)) (enc := encRep_) (xs := ((acts.getD x.d.1 default).Rs).xs) (j := y.d.1) (off := 0) ag_34 rfl (by first | assumption | exact rd_ro (by assumption) | exact rd_row (by repeat (first | exact Pick.here | apply Pick.there))) (fun _ => rfl) (by first | assumption | omega | (simp only [List.length_cons, List.length_nil]; omega)) (by simp [encRep_]) (by simp [encRep_]) rfl) ?_)
                    refine l_step (s_fnb rfl wn Try.func19 rfl (by kernel_rfl) rfl (by repeat (first | exact Sel.nil | exact Pick.here | apply Sel.cons | apply Pick.there)) (fun ρ' hL => H.rhear_spec b49 (⟨span, (relL x.d.2.now x.d.2.out), (relT x.d.2.now (hK x.d.2.now span x.d.2.out x.d.2.told (acts.getD x.d.1 default).Rs.xs y.d.1).1)⟩ : RD) (⟨x.d.2.q.a1, x.d.2.q.n1, x.d.2.q.c1, y.d.2.1, y.d.2.2.1, y.d.2.2.2⟩ : RA) ((acts.getD x.d.1 default).Rs.xs.getD y.d.1 default) ρ' (show x.d.2.q.n1 ≤ 1000000 from by omega) (show y.d.2.2.1 ≤ 1000000 from by omega)) ?_)
                    rintro _ _ ⟨ra106, rc106, rb106, rn106, rd106, hn106, rfl, rfl⟩
                    try simp only [List.cons_append, List.nil_append]
                    have hH : (rhearF span (relL x.d.2.now x.d.2.out) (relT x.d.2.now (hK x.d.2.now span x.d.2.out x.d.2.told (acts.getD x.d.1 default).Rs.xs y.d.1).1) ((acts.getD x.d.1 default).Rs.xs.getD y.d.1 default)).1 = relT x.d.2.now (hK x.d.2.now span x.d.2.out x.d.2.told (acts.getD x.d.1 default).Rs.xs (y.d.1 + 1)).1 ∧ (hK x.d.2.now span x.d.2.out x.d.2.told (acts.getD x.d.1 default).Rs.xs y.d.1).2 ++ (rhearF span (relL x.d.2.now x.d.2.out) (relT x.d.2.now (hK x.d.2.now span x.d.2.out x.d.2.told (acts.getD x.d.1 default).Rs.xs y.d.1).1) ((acts.getD x.d.1 default).Rs.xs.getD y.d.1 default)).2 = (hK x.d.2.now span x.d.2.out x.d.2.told (acts.getD x.d.1 default).Rs.xs (y.d.1 + 1)).2 := by have hq := rel_hear (span := span) hI.ok hI.oo hTk hTn hI.n0 (hK x.d.2.now span x.d.2.out x.d.2.told (acts.getD x.d.1 default).Rs.xs y.d.1).2 ((acts.getD x.d.1 default).Rs.xs.getD y.d.1 default); rw [hK_succ (by omega)]; exact ⟨hq.1, hq.2.1⟩
                    rw [hH.1] at hn106 ⊢
                    have e3 : (hK x.d.2.now span x.d.2.out x.d.2.told (acts.getD x.d.1 default).Rs.xs y.d.1).2.length + (rhearF span (relL x.d.2.now x.d.2.out) (relT x.d.2.now (hK x.d.2.now span x.d.2.out x.d.2.told (acts.getD x.d.1 default).Rs.xs y.d.1).1) ((acts.getD x.d.1 default).Rs.xs.getD y.d.1 default)).2.length = (hK x.d.2.now span x.d.2.out x.d.2.told (acts.getD x.d.1 default).Rs.xs (y.d.1 + 1)).2.length := by rw [← hH.2, List.length_append]
                    refine l_step (s_s rfl wn (s_appendn (enc := encOp1) (xs := (((hK x.d.2.now span x.d.2.out x.d.2.told (acts.getD x.d.1 default).Rs.xs y.d.1).2) : List Op1)) (ys := ((rhearF span (relL x.d.2.now x.d.2.out) (relT x.d.2.now (hK x.d.2.now span x.d.2.out x.d.2.told (acts.getD x.d.1 default).Rs.xs y.d.1).1) ((acts.getD x.d.1 default).Rs.xs.getD y.d.1 default)).2 : List Op1)) (Γ' := fun a' cap' => _) Try.underlying31 eo_39 (by decide) rfl rfl (rd_row (by repeat (first | exact Pick.here | apply Pick.there))) (oneOp1s _) (by first | omega | (simp only [List.length_append, List.length_cons, List.length_nil] at *; omega)) (by first | omega | (simp only [List.length_append, List.length_cons, List.length_nil] at *; omega)) (fun _ _ => (by repeat (first | exact Pick.here | apply Pick.there)))) ?_)
                    rintro _ _ ⟨a107, c107, rfl, rfl⟩
                    refine l_step (s_q rfl wn (q_assign rfl) ?_)
                    refine l_nil ?_
                    refine k_blk_n ?_
                    refine k_then_n ?_
                    refine c_region ?_
                    refine l_step (s_q rfl wn (q_move rfl) ?_)
                    refine l_step (s_q rfl wn (q_add rfl rfl (by omega) (by omega)) ?_)
                    refine l_step (s_q rfl wn (q_assign rfl) ?_)
                    refine l_nil ?_
                    refine k_then_n ?_
                    rw [hH.2, e3]
                    exact t_next (⟨(y.d.1 + 1, rb106, rn106, rd106), a107, c107, none, 0, none, 0⟩ : Lp _) ⟨⟨by simp only []; omega, by simp only []; rw [hn106, relT_len]⟩, by simp only []; omega⟩ (.cons rfl (by first | rfl | exact inte (by omega) | (simp; done) | (simp <;> omega) | simp [*]) (.cons rfl (by first | rfl | exact inte (by omega) | (simp; done) | (simp <;> omega) | simp [*]) (.cons rfl (by first | rfl | exact inte (by omega) | (simp; done) | (simp <;> omega) | simp [*]) (.cons rfl (by first | rfl | exact inte (by omega) | (simp; done) | (simp <;> omega) | simp [*]) (.cons rfl (by first | rfl | exact inte (by omega) | (simp; done) | (simp <;> omega) | simp [*]) (.cons rfl (by first | rfl | exact inte (by omega) | (simp; done) | (simp <;> omega) | simp [*]) (.cons rfl (by first | rfl | exact inte (by omega) | (simp; done) | (simp <;> omega) | simp [*]) (.cons rfl (by first | rfl | exact inte (by omega) | (simp; done) | (simp <;> omega) | simp [*]) (.cons rfl (by first | rfl | exact inte (by omega) | (simp; done) | (simp <;> omega) | simp [*]) (.cons rfl (by first | rfl | exact inte (by omega) | (simp; done) | (simp <;> omega) | simp [*]) (.cons rfl (by first | rfl | exact inte (by omega) | (simp; done) | (simp <;> omega) | simp [*]) (.cons rfl (by first | rfl | exact inte (by omega) | (simp; done) | (simp <;> omega) | simp [*]) (.cons rfl (by first | rfl | exact inte (by omega) | (simp; done) | (simp <;> omega) | simp [*]) (.cons rfl (by first | rfl | exact inte (by omega) | (simp; done) | (simp <;> omega) | simp [*]) (.cons rfl (by first | rfl | exact inte (by omega) | (simp; done) | (simp <;> omega) | simp [*]) (.cons rfl (by first | rfl | exact inte (by omega) | (simp; done) | (simp <;> omega) | simp [*]) (.cons rfl (by first | rfl | exact inte (by omega) | (simp; done) | (simp <;> omega) | simp [*]) (.cons rfl (by first | rfl | exact inte (by omega) | (simp; done) | (simp <;> omega) | simp [*]) (.cons rfl (by first | rfl | exact inte (by omega) | (simp; done) | (simp <;> omega) | simp [*]) (.cons rfl (by first | rfl | exact inte (by omega) | (simp; done) | (simp <;> omega) | simp [*]) (.cons rfl (by first | rfl | exact inte (by omega) | (simp; done) | (simp <;> omega) | simp [*]) (.cons rfl (by first | rfl | exact inte (by omega) | (simp; done) | (simp <;> omega) | simp [*]) (.cons rfl (by first | rfl | exact inte (by omega) | (simp; done) | (simp <;> omega) | simp [*]) (.cons rfl (by first | rfl | exact inte (by omega) | (simp; done) | (simp <;> omega) | simp [*]) (.cons rfl (by first | rfl | exact inte (by omega) | (simp; done) | (simp <;> omega) | simp [*]) (.cons rfl (by first | rfl | exact inte (by omega) | (simp; done) | (simp <;> omega) | simp [*]) (.cons rfl (by first | rfl | exact inte (by omega) | (simp; done) | (simp <;> omega) | simp [*]) (.cons rfl (by first | rfl | exact inte (by omega) | (simp; done) | (simp <;> omega) | simp [*]) (.cons rfl (by first | rfl | exact inte (by omega) | (simp; done) | (simp <;> omega) | simp [*]) (.cons rfl (by first | rfl | exact inte (by omega) | (simp; done) | (simp <;> omega) | simp [*]) (.cons rfl (by first | rfl | exact inte (by omega) | (simp; done) | (simp <;> omega) | simp [*]) (.cons rfl (by first | rfl | exact inte (by omega) | (simp; done) | (simp <;> omega) | simp [*]) (.cons rfl (by first | rfl | exact inte (by omega) | (simp; done) | (simp <;> omega) | simp [*]) (.nil _)))))))))))))))))))))))))))))))))) (by repeat (first | exact Ent.nil _ | exact Ent.refl _ | (refine Ent.pick (by repeat (first | exact Pick.here | apply Pick.there)) ?_) | refine Ent.skip ?_))
                  · try simp only [Bool.and_eq_true, Bool.or_eq_true, Bool.not_eq_true', Bool.and_eq_false_iff, Bool.or_eq_false_iff, Bool.not_eq_false', decide_eq_true_eq, decide_eq_false_iff_not, Bool.not_eq_eq_eq_not, Bool.not_true, Bool.not_false, Bool.not_eq_true, Bool.not_eq_false, beq_iff_eq, bne_iff_ne, ne_eq, Decidable.not_not] at h9
                    have hk9 : y.d.1 = (acts.getD x.d.1 default).Rs.xs.length := by omega
                    rw [hk9, hK_all] at hy2
                    have hF2 : (hearF x.d.2.now span x.d.2.out x.d.2.told ((acts.getD x.d.1 default).Rs.xs)).2.length ≤ 60 := by have h5 := (hear_inv (span := span) (out := x.d.2.out) hI.to hI.n0 (acts.getD x.d.1 default).Rs.xs hA.2.2.2).2.2; exact Nat.le_trans h5 (by omega)
                    rw [hk9, hK_all]
                    refine c_exit ?_
                    refine k_then_x ?_
                    refine k_then_x ?_
                    refine k_blk_x ?_
                    refine k_then_n ?_
                    refine c_seq ?_
                    refine c_region ?_
                    refine l_step (s_q rfl wn (q_move rfl) ?_)
                    refine l_step (s_q rfl wn (q_fieldp rfl fo_51_2) ?_)
                    refine l_step (s_q rfl wn (q_loadp (v := .slice (((acts.getD x.d.1 default).Rs).a) (((acts.getD x.d.1 default).Rs).xs.length) (((acts.getD x.d.1 default).Rs).cap)) sc_49 rfl (by repeat (first | exact Pick.here | apply Pick.there)) rfl) ?_)
                    refine l_step (s_fnb rfl wn Try.func14 rfl (by kernel_rfl) rfl (by repeat (first | exact Sel.nil | exact Pick.here | apply Sel.cons | apply Pick.there)) (fun ρ' hL => hear_spec bN (⟨span, x.d.2.now, x.d.2.bo, x.d.2.bt, x.d.2.out, x.d.2.told⟩ : DD) (((acts.getD x.d.1 default).Rs).a) (((acts.getD x.d.1 default).Rs).xs.length) (((acts.getD x.d.1 default).Rs).cap) (((acts.getD x.d.1 default).Rs).xs) (by first | rfl | simp) ρ' hI.oo hI.to (show (0 : Int) ≤ x.d.2.now ∧ x.d.2.now ≤ 1000000 from ⟨hI.n0, by omega⟩) hA.2.2.2 (by first | omega | decide | simp) (by first | exact hL.ro (by assumption) | exact hL.row (by repeat (first | exact Pick.here | apply Pick.there)) | assumption)) ?_)
                    rintro _ _ ⟨a111, c111, rfl, rfl⟩
                    try simp only [List.cons_append, List.nil_append]
                    refine l_step (s_q rfl wn (q_assign rfl) ?_)
                    refine l_nil ?_
                    refine k_then_n ?_
                    refine c_seq ?_
                    refine c_seq ?_
                    refine c_region ?_
                    refine l_step (s_q rfl wn (q_move rfl) ?_)
                    refine l_step (s_q rfl wn (q_len Try.underlying31 rfl) ?_)
                    refine l_step (s_q rfl wn (q_move rfl) ?_)
                    refine l_step (s_q rfl wn (q_len Try.underlying31 rfl) ?_)
                    refine l_step (s_q rfl wn (q_neq rfl rfl) ?_)
                    refine l_nil ?_
                    refine k_then_n ?_
                    refine c_sure false rfl (by simp) ?_
                    simp only [Bool.false_eq_true, if_true, if_false]
                    refine c_skip ?_
                    refine k_then_n ?_
                    refine c_seq ?_
                    refine c_region ?_
                    refine l_step (s_q rfl wn (q_assign rfl) ?_)
                    refine l_nil ?_
                    refine k_then_n ?_
                    refine c_block ?_
                    refine Tr.env (σ' := [(1, _), (5, _), (7, _), (8, _), (9, _), (10, _), (11, _), (12, _), (13, _), (50, _), (51, _), (52, _), (53, _), (56, _), (57, _), (58, _), (59, _), (60, _), (61, _), (62, _), (63, _), (64, _), (65, _), (66, _), (67, _), (68, _), (69, _), (70, _), (71, _), (72, _), (73, _), (82, _), (83, _), (90, _), (91, _), (92, _), (93, _), (94, _), (95, _), (96, _), (108, _), (109, _), (110, _), (111, _), (112, _), (113, _), (114, _), (115, _), (116, _)]) (.cons rfl rfl (.cons rfl rfl (.cons rfl rfl (.cons rfl rfl (.cons rfl rfl (.cons rfl rfl (.cons rfl rfl (.cons rfl rfl (.cons rfl rfl (.cons rfl rfl (.cons rfl rfl (.cons rfl rfl (.cons rfl rfl (.cons rfl rfl (.cons rfl rfl (.cons rfl rfl (.cons rfl rfl (.cons rfl rfl (.cons rfl rfl (.cons rfl rfl (.cons rfl rfl (.cons rfl rfl (.cons rfl rfl (.cons rfl rfl (.cons rfl rfl (.cons rfl rfl (.cons rfl rfl (.cons rfl rfl (.cons rfl rfl (.cons rfl rfl (.cons rfl rfl (.cons rfl rfl (.cons rfl rfl (.cons rfl rfl (.cons rfl rfl (.cons rfl rfl (.cons rfl rfl (.cons rfl rfl (.cons rfl rfl (.cons rfl rfl (.cons rfl rfl (.cons rfl rfl (.cons rfl rfl (.cons rfl rfl (.cons rfl rfl (.cons rfl rfl (.cons rfl rfl (.cons rfl rfl (.cons rfl rfl (.nil _)))))))))))))))))))))))))))))))))))))))))))))))))) ?_
                    refine t_loop (ι := Lp (Nat)) (fun u => u.d ≤ (hearF x.d.2.now span x.d.2.out x.d.2.told ((acts.getD x.d.1 default).Rs.xs)).2.length) (fun u => (hearF x.d.2.now span x.d.2.out x.d.2.told ((acts.getD x.d.1 default).Rs.xs)).2.length - u.d) (fun u => [(1, .slice acts_a acts_n acts_c), (5, .pointer (some ⟨bN, 0, none⟩)), (7, .pointer (some ⟨b49, 0, none⟩)), (8, .int .i64 (x.d.1 : Int)), (9, .pointer (some ⟨b9, 0, none⟩)), (10, .slice y.a1 (((hearF x.d.2.now span x.d.2.out x.d.2.told ((acts.getD x.d.1 default).Rs.xs)).2).length) y.c1), (11, .int .i64 (y.d.1 : Int)), (12, .slice a111 ((hearF x.d.2.now span x.d.2.out x.d.2.told (((acts.getD x.d.1 default).Rs).xs)).2.length) c111), (13, .int .i64 (u.d : Int)), (50, .int .i64 (x.d.1 : Int)), (51, .slice acts_a acts_n acts_c), (52, .int .i64 (acts_n : Int)), (53, .bool (decide ((x.d.1 : Int) < (acts_n : Int)))), (56, .slice acts_a acts_n acts_c), (57, .int .i64 (x.d.1 : Int)), (58, pe acts_a x.d.1 3 0), (59, .agg (encAct1 (acts.getD x.d.1 default)).toArray), (60, .pointer (some ⟨b9, 1, none⟩)), (61, .slice (((acts.getD x.d.1 default).Os).a) (((acts.getD x.d.1 default).Os).xs.length) (((acts.getD x.d.1 default).Os).cap)), (62, .int .i64 (((acts.getD x.d.1 default).Os).xs.length : Int)), (63, .bool (decide (30 < (((acts.getD x.d.1 default).Os).xs.length : Int)))), (64, .bool (decide (30 < (((acts.getD x.d.1 default).Os).xs.length : Int)))), (65, gd (!(decide (30 < (((acts.getD x.d.1 default).Os).xs.length : Int)))) (.pointer (some ⟨b9, 2, none⟩))), (66, gd (!(decide (30 < (((acts.getD x.d.1 default).Os).xs.length : Int)))) (.slice (((acts.getD x.d.1 default).Rs).a) (((acts.getD x.d.1 default).Rs).xs.length) (((acts.getD x.d.1 default).Rs).cap))), (67, gd (!(decide (30 < (((acts.getD x.d.1 default).Os).xs.length : Int)))) (.int .i64 (((acts.getD x.d.1 default).Rs).xs.length : Int))), (68, gd (!(decide (30 < (((acts.getD x.d.1 default).Os).xs.length : Int)))) (.bool (decide (30 < (((acts.getD x.d.1 default).Rs).xs.length : Int))))), (69, .bool ((decide (30 < (((acts.getD x.d.1 default).Os).xs.length : Int))) || (decide (30 < (((acts.getD x.d.1 default).Rs).xs.length : Int))))), (70, .pointer (some ⟨b9, 0, none⟩)), (71, .int .i64 ((acts.getD x.d.1 default).Kind)), (72, .bool (decide (((acts.getD x.d.1 default).Kind) = 0))), (73, .bool (decide (((acts.getD x.d.1 default).Kind) = 0))), (82, .bool (decide (((acts.getD x.d.1 default).Kind) = 1))), (83, .bool (decide (((acts.getD x.d.1 default).Kind) = 1))), (90, .bool (decide (((acts.getD x.d.1 default).Kind) = 2))), (91, .bool (decide (((acts.getD x.d.1 default).Kind) = 2))), (92, .int .i64 (y.d.1 : Int)), (93, .pointer (some ⟨b9, 2, none⟩)), (94, .slice (((acts.getD x.d.1 default).Rs).a) (((acts.getD x.d.1 default).Rs).xs.length) (((acts.getD x.d.1 default).Rs).cap)), (95, .int .i64 (((acts.getD x.d.1 default).Rs).xs.length : Int)), (96, .bool (decide ((y.d.1 : Int) < (((acts.getD x.d.1 default).Rs).xs.length : Int)))), (108, .pointer (some ⟨bN, 0, none⟩)), (109, .pointer (some ⟨b9, 2, none⟩)), (110, .slice (((acts.getD x.d.1 default).Rs).a) (((acts.getD x.d.1 default).Rs).xs.length) (((acts.getD x.d.1 default).Rs).cap)), (111, .slice a111 ((hearF x.d.2.now span x.d.2.out x.d.2.told (((acts.getD x.d.1 default).Rs).xs)).2.length) c111), (112, .slice a111 ((hearF x.d.2.now span x.d.2.out x.d.2.told (((acts.getD x.d.1 default).Rs).xs)).2.length) c111), (113, .int .i64 ((hearF x.d.2.now span x.d.2.out x.d.2.told (((acts.getD x.d.1 default).Rs).xs)).2.length : Int)), (114, .slice y.a1 (((hearF x.d.2.now span x.d.2.out x.d.2.told ((acts.getD x.d.1 default).Rs.xs)).2).length) y.c1), (115, .int .i64 (((hearF x.d.2.now span x.d.2.out x.d.2.told ((acts.getD x.d.1 default).Rs.xs)).2).length : Int)), (116, .bool (decide (((hearF x.d.2.now span x.d.2.out x.d.2.told (((acts.getD x.d.1 default).Rs).xs)).2.length : Int) ≠ (((hearF x.d.2.now span x.d.2.out x.d.2.told ((acts.getD x.d.1 default).Rs.xs)).2).length : Int))))]) (fun u => .row 39 7 a111 ((hearF x.d.2.now span x.d.2.out x.d.2.told (((acts.getD x.d.1 default).Rs).xs)).2.length) c111 (((hearF x.d.2.now span x.d.2.out x.d.2.told (((acts.getD x.d.1 default).Rs).xs)).2).flatMap encOp1) :: .row 39 7 y.a1 (((hearF x.d.2.now span x.d.2.out x.d.2.told ((acts.getD x.d.1 default).Rs.xs)).2).length) y.c1 (((hearF x.d.2.now span x.d.2.out x.d.2.told ((acts.getD x.d.1 default).Rs.xs)).2).flatMap encOp1) :: .pts b9 (encAct1 (acts.getD x.d.1 default)) 51 :: .row 57 5 x.d.2.q.a1 x.d.2.q.n1 x.d.2.q.c1 ((relL x.d.2.now x.d.2.out).flatMap encRSent) :: .row 106 4 y.d.2.1 y.d.2.2.1 y.d.2.2.2 ((relT x.d.2.now (hearF x.d.2.now span x.d.2.out x.d.2.told ((acts.getD x.d.1 default).Rs.xs)).1).flatMap encRTold) :: .pts b49 (encRDisp (⟨span, ⟨x.d.2.q.a1, x.d.2.q.n1, x.d.2.q.c1⟩, ⟨y.d.2.1, y.d.2.2.1, y.d.2.2.2⟩⟩ : RDisp)) 48 :: MP (Value.int .i64) (aggV encTold) x.d.2.bt ((hearF x.d.2.now span x.d.2.out x.d.2.told (((acts.getD x.d.1 default).Rs).xs)).1) :: MP (Value.int .i64) (aggV encSent) x.d.2.bo x.d.2.out :: .pts bN (encDisp (⟨span, x.d.2.now, (some x.d.2.bo), (some x.d.2.bt)⟩ : Disp)) 98 :: Δ) (⟨0, none, 0, none, 0, none, 0⟩ : Lp _) (Nat.zero_le _) ?_ ?_ ?_
                    · exact .cons rfl (by first | rfl | exact inte (by omega) | (simp; done) | (simp <;> omega) | simp [*]) (.cons rfl (by first | rfl | exact inte (by omega) | (simp; done) | (simp <;> omega) | simp [*]) (.cons rfl (by first | rfl | exact inte (by omega) | (simp; done) | (simp <;> omega) | simp [*]) (.cons rfl (by first | rfl | exact inte (by omega) | (simp; done) | (simp <;> omega) | simp [*]) (.cons rfl (by first | rfl | exact inte (by omega) | (simp; done) | (simp <;> omega) | simp [*]) (.cons rfl (by first | rfl | exact inte (by omega) | (simp; done) | (simp <;> omega) | simp [*]) (.cons rfl (by first | rfl | exact inte (by omega) | (simp; done) | (simp <;> omega) | simp [*]) (.cons rfl (by first | rfl | exact inte (by omega) | (simp; done) | (simp <;> omega) | simp [*]) (.cons rfl (by first | rfl | exact inte (by omega) | (simp; done) | (simp <;> omega) | simp [*]) (.cons rfl (by first | rfl | exact inte (by omega) | (simp; done) | (simp <;> omega) | simp [*]) (.cons rfl (by first | rfl | exact inte (by omega) | (simp; done) | (simp <;> omega) | simp [*]) (.cons rfl (by first | rfl | exact inte (by omega) | (simp; done) | (simp <;> omega) | simp [*]) (.cons rfl (by first | rfl | exact inte (by omega) | (simp; done) | (simp <;> omega) | simp [*]) (.cons rfl (by first | rfl | exact inte (by omega) | (simp; done) | (simp <;> omega) | simp [*]) (.cons rfl (by first | rfl | exact inte (by omega) | (simp; done) | (simp <;> omega) | simp [*]) (.cons rfl (by first | rfl | exact inte (by omega) | (simp; done) | (simp <;> omega) | simp [*]) (.cons rfl (by first | rfl | exact inte (by omega) | (simp; done) | (simp <;> omega) | simp [*]) (.cons rfl (by first | rfl | exact inte (by omega) | (simp; done) | (simp <;> omega) | simp [*]) (.cons rfl (by first | rfl | exact inte (by omega) | (simp; done) | (simp <;> omega) | simp [*]) (.cons rfl (by first | rfl | exact inte (by omega) | (simp; done) | (simp <;> omega) | simp [*]) (.cons rfl (by first | rfl | exact inte (by omega) | (simp; done) | (simp <;> omega) | simp [*]) (.cons rfl (by first | rfl | exact inte (by omega) | (simp; done) | (simp <;> omega) | simp [*]) (.cons rfl (by first | rfl | exact inte (by omega) | (simp; done) | (simp <;> omega) | simp [*]) (.cons rfl (by first | rfl | exact inte (by omega) | (simp; done) | (simp <;> omega) | simp [*]) (.cons rfl (by first | rfl | exact inte (by omega) | (simp; done) | (simp <;> omega) | simp [*]) (.cons rfl (by first | rfl | exact inte (by omega) | (simp; done) | (simp <;> omega) | simp [*]) (.cons rfl (by first | rfl | exact inte (by omega) | (simp; done) | (simp <;> omega) | simp [*]) (.cons rfl (by first | rfl | exact inte (by omega) | (simp; done) | (simp <;> omega) | simp [*]) (.cons rfl (by first | rfl | exact inte (by omega) | (simp; done) | (simp <;> omega) | simp [*]) (.cons rfl (by first | rfl | exact inte (by omega) | (simp; done) | (simp <;> omega) | simp [*]) (.cons rfl (by first | rfl | exact inte (by omega) | (simp; done) | (simp <;> omega) | simp [*]) (.cons rfl (by first | rfl | exact inte (by omega) | (simp; done) | (simp <;> omega) | simp [*]) (.cons rfl (by first | rfl | exact inte (by omega) | (simp; done) | (simp <;> omega) | simp [*]) (.cons rfl (by first | rfl | exact inte (by omega) | (simp; done) | (simp <;> omega) | simp [*]) (.cons rfl (by first | rfl | exact inte (by omega) | (simp; done) | (simp <;> omega) | simp [*]) (.cons rfl (by first | rfl | exact inte (by omega) | (simp; done) | (simp <;> omega) | simp [*]) (.cons rfl (by first | rfl | exact inte (by omega) | (simp; done) | (simp <;> omega) | simp [*]) (.cons rfl (by first | rfl | exact inte (by omega) | (simp; done) | (simp <;> omega) | simp [*]) (.cons rfl (by first | rfl | exact inte (by omega) | (simp; done) | (simp <;> omega) | simp [*]) (.cons rfl (by first | rfl | exact inte (by omega) | (simp; done) | (simp <;> omega) | simp [*]) (.cons rfl (by first | rfl | exact inte (by omega) | (simp; done) | (simp <;> omega) | simp [*]) (.cons rfl (by first | rfl | exact inte (by omega) | (simp; done) | (simp <;> omega) | simp [*]) (.cons rfl (by first | rfl | exact inte (by omega) | (simp; done) | (simp <;> omega) | simp [*]) (.cons rfl (by first | rfl | exact inte (by omega) | (simp; done) | (simp <;> omega) | simp [*]) (.cons rfl (by first | rfl | exact inte (by omega) | (simp; done) | (simp <;> omega) | simp [*]) (.cons rfl (by first | rfl | exact inte (by omega) | (simp; done) | (simp <;> omega) | simp [*]) (.cons rfl (by first | rfl | exact inte (by omega) | (simp; done) | (simp <;> omega) | simp [*]) (.cons rfl (by first | rfl | exact inte (by omega) | (simp; done) | (simp <;> omega) | simp [*]) (.cons rfl (by first | rfl | exact inte (by omega) | (simp; done) | (simp <;> omega) | simp [*]) (.nil _)))))))))))))))))))))))))))))))))))))))))))))))))
                    · exact (by repeat (first | exact Ent.nil _ | exact Ent.refl _ | (refine Ent.pick (by repeat (first | exact Pick.here | apply Pick.there)) ?_) | refine Ent.skip ?_))
                    intro u hu
                    refine c_seq ?_
                    refine c_seq ?_
                    refine c_region ?_
                    refine l_step (s_q rfl wn (q_move rfl) ?_)
                    refine l_step (s_q rfl wn (q_move rfl) ?_)
                    refine l_step (s_q rfl wn (q_len Try.underlying31 rfl) ?_)
                    refine l_step (s_q rfl wn (q_lss rfl rfl) ?_)
                    refine l_nil ?_
                    refine k_then_n ?_
                    refine c_cond rfl (fun h11 => ?_) (fun h11 => ?_)
                    · try simp only [Bool.and_eq_true, Bool.or_eq_true, Bool.not_eq_true', Bool.and_eq_false_iff, Bool.or_eq_false_iff, Bool.not_eq_false', decide_eq_true_eq, decide_eq_false_iff_not, Bool.not_eq_eq_eq_not, Bool.not_true, Bool.not_false, Bool.not_eq_true, Bool.not_eq_false, beq_iff_eq, bne_iff_ne, ne_eq, Decidable.not_not] at h11
                      refine c_skip ?_
                      refine k_then_n ?_
                      refine c_seq ?_
                      refine c_block ?_
                      refine c_seq ?_
                      refine c_draw (m := 10) (bs := #[false, false, false, false, false, false, false, false, false, false]) [.row 39 7 a111 ((hearF x.d.2.now span x.d.2.out x.d.2.told (((acts.getD x.d.1 default).Rs).xs)).2.length) c111 (((hearF x.d.2.now span x.d.2.out x.d.2.told (((acts.getD x.d.1 default).Rs).xs)).2).flatMap encOp1), .row 39 7 y.a1 (((hearF x.d.2.now span x.d.2.out x.d.2.told ((acts.getD x.d.1 default).Rs.xs)).2).length) y.c1 (((hearF x.d.2.now span x.d.2.out x.d.2.told ((acts.getD x.d.1 default).Rs.xs)).2).flatMap encOp1), .pts b9 (encAct1 (acts.getD x.d.1 default)) 51, .row 57 5 x.d.2.q.a1 x.d.2.q.n1 x.d.2.q.c1 ((relL x.d.2.now x.d.2.out).flatMap encRSent), .row 106 4 y.d.2.1 y.d.2.2.1 y.d.2.2.2 ((relT x.d.2.now (hearF x.d.2.now span x.d.2.out x.d.2.told ((acts.getD x.d.1 default).Rs.xs)).1).flatMap encRTold), .pts b49 (encRDisp (⟨span, ⟨x.d.2.q.a1, x.d.2.q.n1, x.d.2.q.c1⟩, ⟨y.d.2.1, y.d.2.2.1, y.d.2.2.2⟩⟩ : RDisp)) 48, MP (Value.int .i64) (aggV encTold) x.d.2.bt ((hearF x.d.2.now span x.d.2.out x.d.2.told (((acts.getD x.d.1 default).Rs).xs)).1), MP (Value.int .i64) (aggV encSent) x.d.2.bo x.d.2.out, .pts bN (encDisp (⟨span, x.d.2.now, (some x.d.2.bo), (some x.d.2.bt)⟩ : Disp)) 98] (by kernel_rfl) rfl (by kernel_rfl) ?_
                      refine r_take (i := 0) (bs' := #[true, false, false, false, false, false, false, false, false, false]) rfl (by kernel_rfl) (by kernel_rfl) (by kernel_rfl) (fun _ _ _ h => h) rfl wn (q_move rfl) (Hp.le_refl _) (by repeat (first | exact Ent.nil _ | exact Ent.refl _ | (refine Ent.pick (by repeat (first | exact Pick.here | apply Pick.there)) ?_) | refine Ent.skip ?_)) (by kernel_rfl) ?_
                      refine r_take (i := 1) (bs' := #[true, true, false, false, false, false, false, false, false, false]) rfl (by kernel_rfl) (by kernel_rfl) (by kernel_rfl) (fun _ _ _ h => h) rfl wn (q_move rfl) (Hp.le_refl _) (by repeat (first | exact Ent.nil _ | exact Ent.refl _ | (refine Ent.pick (by repeat (first | exact Pick.here | apply Pick.there)) ?_) | refine Ent.skip ?_)) (by kernel_rfl) ?_
                      refine r_take (i := 2) (bs' := #[true, true, true, false, false, false, false, false, false, false]) rfl (by kernel_rfl) (by kernel_rfl) (by kernel_rfl) (fun _ _ _ h => h) rfl wn (q_indexe u.d Try.underlying31 sz_39 rfl rfl (rd_row (by repeat (first | exact Pick.here | apply Pick.there))) (by decide) rfl (by first | assumption | omega | (simp only [List.length_cons, List.length_nil]; omega))) (Hp.le_refl _) (by repeat (first | exact Ent.nil _ | exact Ent.refl _ | (refine Ent.pick (by repeat (first | exact Pick.here | apply Pick.there)) ?_) | refine Ent.skip ?_)) (by kernel_rfl) ?_
                      refine r_take (i := 3) (bs' := #[true, true, true, true, false, false, false, false, false, false]) rfl (by kernel_rfl) (by kernel_rfl) (by kernel_rfl) (fun _ _ _ h => h) rfl wn (q_loadea (vs := encOp1 (((hearF x.d.2.now span x.d.2.out x.d.2.told (((acts.getD x.d.1 default).Rs).xs)).2).getD u.d default)) (enc := encOp1) (xs := (hearF x.d.2.now span x.d.2.out x.d.2.told (((acts.getD x.d.1 default).Rs).xs)).2) (j := u.d) (off := 0) ag_39 rfl (rd_row (by repeat (first | exact Pick.here | apply Pick.there))) (fun _ => rfl) (by first | assumption | omega | (simp only [List.length_cons, List.length_nil]; omega)) (by simp [encOp1]) (by simp [encOp1]) rfl) (Hp.le_refl _) (by repeat (first | exact Ent.nil _ | exact Ent.refl _ | (refine Ent.pick (by repeat (first | exact Pick.here | apply Pick.there)) ?_) | refine Ent.skip ?_)) (by kernel_rfl) ?_
                      refine r_take (i := 4) (bs' := #[true, true, true, true, true, false, false, false, false, false]) rfl (by kernel_rfl) (by kernel_rfl) (by kernel_rfl) (fun _ _ _ h => h) rfl wn (q_move rfl) (Hp.le_refl _) (by repeat (first | exact Ent.nil _ | exact Ent.refl _ | (refine Ent.pick (by repeat (first | exact Pick.here | apply Pick.there)) ?_) | refine Ent.skip ?_)) (by kernel_rfl) ?_
                      refine r_take (i := 5) (bs' := #[true, true, true, true, true, true, false, false, false, false]) rfl (by kernel_rfl) (by kernel_rfl) (by kernel_rfl) (fun _ _ _ h => h) rfl wn (q_move rfl) (Hp.le_refl _) (by repeat (first | exact Ent.nil _ | exact Ent.refl _ | (refine Ent.pick (by repeat (first | exact Pick.here | apply Pick.there)) ?_) | refine Ent.skip ?_)) (by kernel_rfl) ?_
                      refine r_take (i := 6) (bs' := #[true, true, true, true, true, true, true, false, false, false]) rfl (by kernel_rfl) (by kernel_rfl) (by kernel_rfl) (fun _ _ _ h => h) rfl wn (q_indexe u.d Try.underlying31 sz_39 rfl rfl (rd_row (by repeat (first | exact Pick.here | apply Pick.there))) (by decide) rfl (by first | assumption | omega | (simp only [List.length_cons, List.length_nil]; omega))) (Hp.le_refl _) (by repeat (first | exact Ent.nil _ | exact Ent.refl _ | (refine Ent.pick (by repeat (first | exact Pick.here | apply Pick.there)) ?_) | refine Ent.skip ?_)) (by kernel_rfl) ?_
                      refine r_take (i := 7) (bs' := #[true, true, true, true, true, true, true, true, false, false]) rfl (by kernel_rfl) (by kernel_rfl) (by kernel_rfl) (fun _ _ _ h => h) rfl wn (q_loadea (vs := encOp1 (((hearF x.d.2.now span x.d.2.out x.d.2.told ((acts.getD x.d.1 default).Rs.xs)).2).getD u.d default)) (enc := encOp1) (xs := ((hearF x.d.2.now span x.d.2.out x.d.2.told ((acts.getD x.d.1 default).Rs.xs)).2)) (j := u.d) (off := 0) ag_39 rfl (rd_row (by repeat (first | exact Pick.here | apply Pick.there))) (fun _ => rfl) (by first | assumption | omega | (simp only [List.length_cons, List.length_nil]; omega)) (by simp [encOp1]) (by simp [encOp1]) rfl) (Hp.le_refl _) (by repeat (first | exact Ent.nil _ | exact Ent.refl _ | (refine Ent.pick (by repeat (first | exact Pick.here | apply Pick.there)) ?_) | refine Ent.skip ?_)) (by kernel_rfl) ?_
                      refine r_one (i := 8) (bs' := #[true, true, true, true, true, true, true, true, true, false]) (by kernel_rfl) (by kernel_rfl) ?_
                      refine o_step rfl (s_fnq rfl wn Try.func20 rfl (by kernel_rfl) rfl (fun ρ' hL => same_spec (((hearF x.d.2.now span x.d.2.out x.d.2.told (((acts.getD x.d.1 default).Rs).xs)).2).getD u.d default) (((hearF x.d.2.now span x.d.2.out x.d.2.told ((acts.getD x.d.1 default).Rs.xs)).2).getD u.d default) ρ') ?_)
                      refine r_cont (Hp.le_refl _) (by repeat (first | exact Ent.nil _ | exact Ent.refl _ | (refine Ent.pick (by repeat (first | exact Pick.here | apply Pick.there)) ?_) | refine Ent.skip ?_)) ?_
                      refine r_take (i := 9) (bs' := #[true, true, true, true, true, true, true, true, true, true]) rfl (by kernel_rfl) (by kernel_rfl) (by kernel_rfl) (fun _ _ _ h => h) rfl wn (q_not rfl) (Hp.le_refl _) (by repeat (first | exact Ent.nil _ | exact Ent.refl _ | (refine Ent.pick (by repeat (first | exact Pick.here | apply Pick.there)) ?_) | refine Ent.skip ?_)) (by kernel_rfl) ?_
                      refine r_done (by kernel_rfl) ?_
                      refine k_then_n ?_
                      refine c_sure false rfl (by rw [hear_same rfl _ (getD_mem_ (by omega))]; rfl) ?_
                      simp only [Bool.false_eq_true, if_true, if_false]
                      refine c_skip ?_
                      refine k_blk_n ?_
                      refine k_then_n ?_
                      refine c_region ?_
                      refine l_step (s_q rfl wn (q_move rfl) ?_)
                      refine l_step (s_q rfl wn (q_add rfl rfl (by omega) (by omega)) ?_)
                      refine l_step (s_q rfl wn (q_assign rfl) ?_)
                      refine l_nil ?_
                      refine k_then_n ?_
                      exact t_next (⟨u.d + 1, none, 0, none, 0, none, 0⟩ : Lp _) ⟨by simp only []; omega, by simp only []; omega⟩ (.cons rfl (by first | rfl | exact inte (by omega) | (simp; done) | (simp <;> omega) | simp [*]) (.cons rfl (by first | rfl | exact inte (by omega) | (simp; done) | (simp <;> omega) | simp [*]) (.cons rfl (by first | rfl | exact inte (by omega) | (simp; done) | (simp <;> omega) | simp [*]) (.cons rfl (by first | rfl | exact inte (by omega) | (simp; done) | (simp <;> omega) | simp [*]) (.cons rfl (by first | rfl | exact inte (by omega) | (simp; done) | (simp <;> omega) | simp [*]) (.cons rfl (by first | rfl | exact inte (by omega) | (simp; done) | (simp <;> omega) | simp [*]) (.cons rfl (by first | rfl | exact inte (by omega) | (simp; done) | (simp <;> omega) | simp [*]) (.cons rfl (by first | rfl | exact inte (by omega) | (simp; done) | (simp <;> omega) | simp [*]) (.cons rfl (by first | rfl | exact inte (by omega) | (simp; done) | (simp <;> omega) | simp [*]) (.cons rfl (by first | rfl | exact inte (by omega) | (simp; done) | (simp <;> omega) | simp [*]) (.cons rfl (by first | rfl | exact inte (by omega) | (simp; done) | (simp <;> omega) | simp [*]) (.cons rfl (by first | rfl | exact inte (by omega) | (simp; done) | (simp <;> omega) | simp [*]) (.cons rfl (by first | rfl | exact inte (by omega) | (simp; done) | (simp <;> omega) | simp [*]) (.cons rfl (by first | rfl | exact inte (by omega) | (simp; done) | (simp <;> omega) | simp [*]) (.cons rfl (by first | rfl | exact inte (by omega) | (simp; done) | (simp <;> omega) | simp [*]) (.cons rfl (by first | rfl | exact inte (by omega) | (simp; done) | (simp <;> omega) | simp [*]) (.cons rfl (by first | rfl | exact inte (by omega) | (simp; done) | (simp <;> omega) | simp [*]) (.cons rfl (by first | rfl | exact inte (by omega) | (simp; done) | (simp <;> omega) | simp [*]) (.cons rfl (by first | rfl | exact inte (by omega) | (simp; done) | (simp <;> omega) | simp [*]) (.cons rfl (by first | rfl | exact inte (by omega) | (simp; done) | (simp <;> omega) | simp [*]) (.cons rfl (by first | rfl | exact inte (by omega) | (simp; done) | (simp <;> omega) | simp [*]) (.cons rfl (by first | rfl | exact inte (by omega) | (simp; done) | (simp <;> omega) | simp [*]) (.cons rfl (by first | rfl | exact inte (by omega) | (simp; done) | (simp <;> omega) | simp [*]) (.cons rfl (by first | rfl | exact inte (by omega) | (simp; done) | (simp <;> omega) | simp [*]) (.cons rfl (by first | rfl | exact inte (by omega) | (simp; done) | (simp <;> omega) | simp [*]) (.cons rfl (by first | rfl | exact inte (by omega) | (simp; done) | (simp <;> omega) | simp [*]) (.cons rfl (by first | rfl | exact inte (by omega) | (simp; done) | (simp <;> omega) | simp [*]) (.cons rfl (by first | rfl | exact inte (by omega) | (simp; done) | (simp <;> omega) | simp [*]) (.cons rfl (by first | rfl | exact inte (by omega) | (simp; done) | (simp <;> omega) | simp [*]) (.cons rfl (by first | rfl | exact inte (by omega) | (simp; done) | (simp <;> omega) | simp [*]) (.cons rfl (by first | rfl | exact inte (by omega) | (simp; done) | (simp <;> omega) | simp [*]) (.cons rfl (by first | rfl | exact inte (by omega) | (simp; done) | (simp <;> omega) | simp [*]) (.cons rfl (by first | rfl | exact inte (by omega) | (simp; done) | (simp <;> omega) | simp [*]) (.cons rfl (by first | rfl | exact inte (by omega) | (simp; done) | (simp <;> omega) | simp [*]) (.cons rfl (by first | rfl | exact inte (by omega) | (simp; done) | (simp <;> omega) | simp [*]) (.cons rfl (by first | rfl | exact inte (by omega) | (simp; done) | (simp <;> omega) | simp [*]) (.cons rfl (by first | rfl | exact inte (by omega) | (simp; done) | (simp <;> omega) | simp [*]) (.cons rfl (by first | rfl | exact inte (by omega) | (simp; done) | (simp <;> omega) | simp [*]) (.cons rfl (by first | rfl | exact inte (by omega) | (simp; done) | (simp <;> omega) | simp [*]) (.cons rfl (by first | rfl | exact inte (by omega) | (simp; done) | (simp <;> omega) | simp [*]) (.cons rfl (by first | rfl | exact inte (by omega) | (simp; done) | (simp <;> omega) | simp [*]) (.cons rfl (by first | rfl | exact inte (by omega) | (simp; done) | (simp <;> omega) | simp [*]) (.cons rfl (by first | rfl | exact inte (by omega) | (simp; done) | (simp <;> omega) | simp [*]) (.cons rfl (by first | rfl | exact inte (by omega) | (simp; done) | (simp <;> omega) | simp [*]) (.cons rfl (by first | rfl | exact inte (by omega) | (simp; done) | (simp <;> omega) | simp [*]) (.cons rfl (by first | rfl | exact inte (by omega) | (simp; done) | (simp <;> omega) | simp [*]) (.cons rfl (by first | rfl | exact inte (by omega) | (simp; done) | (simp <;> omega) | simp [*]) (.cons rfl (by first | rfl | exact inte (by omega) | (simp; done) | (simp <;> omega) | simp [*]) (.cons rfl (by first | rfl | exact inte (by omega) | (simp; done) | (simp <;> omega) | simp [*]) (.nil _)))))))))))))))))))))))))))))))))))))))))))))))))) (by repeat (first | exact Ent.nil _ | exact Ent.refl _ | (refine Ent.pick (by repeat (first | exact Pick.here | apply Pick.there)) ?_) | refine Ent.skip ?_))
                    · try simp only [Bool.and_eq_true, Bool.or_eq_true, Bool.not_eq_true', Bool.and_eq_false_iff, Bool.or_eq_false_iff, Bool.not_eq_false', decide_eq_true_eq, decide_eq_false_iff_not, Bool.not_eq_eq_eq_not, Bool.not_true, Bool.not_false, Bool.not_eq_true, Bool.not_eq_false, beq_iff_eq, bne_iff_ne, ne_eq, Decidable.not_not] at h11
                      refine c_exit ?_
                      refine k_then_x ?_
                      refine k_then_x ?_
                      refine k_blk_x ?_
                      refine k_then_n ?_
                      exact t_next (⟨x.d.2.now, x.d.2.bo, x.d.2.bt, x.d.2.out, (hearF x.d.2.now span x.d.2.out x.d.2.told ((acts.getD x.d.1 default).Rs.xs)).1, ⟨x.d.2.q.a1, x.d.2.q.n1, x.d.2.q.c1, y.d.2.1, y.d.2.2.1, y.d.2.2.2⟩⟩ : AD) (act_hear hI hA.2.2.2 (by omega) hN hy2) (.cons rfl (by first | rfl | exact inte (by omega) | (simp; done) | (simp <;> omega) | simp [*]) (.cons rfl (by first | rfl | exact inte (by omega) | (simp; done) | (simp <;> omega) | simp [*]) (.cons rfl (by first | rfl | exact inte (by omega) | (simp; done) | (simp <;> omega) | simp [*]) (.cons rfl (by first | rfl | exact inte (by omega) | (simp; done) | (simp <;> omega) | simp [*]) (.cons rfl (by first | rfl | exact inte (by omega) | (simp; done) | (simp <;> omega) | simp [*]) (.cons rfl (by first | rfl | exact inte (by omega) | (simp; done) | (simp <;> omega) | simp [*]) (.cons rfl (by first | rfl | exact inte (by omega) | (simp; done) | (simp <;> omega) | simp [*]) (.cons rfl (by first | rfl | exact inte (by omega) | (simp; done) | (simp <;> omega) | simp [*]) (.cons rfl (by first | rfl | exact inte (by omega) | (simp; done) | (simp <;> omega) | simp [*]) (.cons rfl (by first | rfl | exact inte (by omega) | (simp; done) | (simp <;> omega) | simp [*]) (.cons rfl (by first | rfl | exact inte (by omega) | (simp; done) | (simp <;> omega) | simp [*]) (.cons rfl (by first | rfl | exact inte (by omega) | (simp; done) | (simp <;> omega) | simp [*]) (.cons rfl (by first | rfl | exact inte (by omega) | (simp; done) | (simp <;> omega) | simp [*]) (.cons rfl (by first | rfl | exact inte (by omega) | (simp; done) | (simp <;> omega) | simp [*]) (.cons rfl (by first | rfl | exact inte (by omega) | (simp; done) | (simp <;> omega) | simp [*]) (.cons rfl (by first | rfl | exact inte (by omega) | (simp; done) | (simp <;> omega) | simp [*]) (.cons rfl (by first | rfl | exact inte (by omega) | (simp; done) | (simp <;> omega) | simp [*]) (.cons rfl (by first | rfl | exact inte (by omega) | (simp; done) | (simp <;> omega) | simp [*]) (.cons rfl (by first | rfl | exact inte (by omega) | (simp; done) | (simp <;> omega) | simp [*]) (.cons rfl (by first | rfl | exact inte (by omega) | (simp; done) | (simp <;> omega) | simp [*]) (.cons rfl (by first | rfl | exact inte (by omega) | (simp; done) | (simp <;> omega) | simp [*]) (.cons rfl (by first | rfl | exact inte (by omega) | (simp; done) | (simp <;> omega) | simp [*]) (.cons rfl (by first | rfl | exact inte (by omega) | (simp; done) | (simp <;> omega) | simp [*]) (.cons rfl (by first | rfl | exact inte (by omega) | (simp; done) | (simp <;> omega) | simp [*]) (.cons rfl (by first | rfl | exact inte (by omega) | (simp; done) | (simp <;> omega) | simp [*]) (.cons rfl (by first | rfl | exact inte (by omega) | (simp; done) | (simp <;> omega) | simp [*]) (.cons rfl (by first | rfl | exact inte (by omega) | (simp; done) | (simp <;> omega) | simp [*]) (.nil _)))))))))))))))))))))))))))) (by repeat (first | exact Ent.nil _ | exact Ent.refl _ | (refine Ent.pick (by repeat (first | exact Pick.here | apply Pick.there)) ?_) | refine Ent.skip ?_))
                · try simp only [Bool.and_eq_true, Bool.or_eq_true, Bool.not_eq_true', Bool.and_eq_false_iff, Bool.or_eq_false_iff, Bool.not_eq_false', decide_eq_true_eq, decide_eq_false_iff_not, Bool.not_eq_eq_eq_not, Bool.not_true, Bool.not_false, Bool.not_eq_true, Bool.not_eq_false, beq_iff_eq, bne_iff_ne, ne_eq, Decidable.not_not] at h8
                  refine c_skip ?_
                  refine k_then_n ?_
                  exact t_next x.d.2 hI.mono (.cons rfl (by first | rfl | exact inte (by omega) | (simp; done) | (simp <;> omega) | simp [*]) (.cons rfl (by first | rfl | exact inte (by omega) | (simp; done) | (simp <;> omega) | simp [*]) (.cons rfl (by first | rfl | exact inte (by omega) | (simp; done) | (simp <;> omega) | simp [*]) (.cons rfl (by first | rfl | exact inte (by omega) | (simp; done) | (simp <;> omega) | simp [*]) (.cons rfl (by first | rfl | exact inte (by omega) | (simp; done) | (simp <;> omega) | simp [*]) (.cons rfl (by first | rfl | exact inte (by omega) | (simp; done) | (simp <;> omega) | simp [*]) (.cons rfl (by first | rfl | exact inte (by omega) | (simp; done) | (simp <;> omega) | simp [*]) (.cons rfl (by first | rfl | exact inte (by omega) | (simp; done) | (simp <;> omega) | simp [*]) (.cons rfl (by first | rfl | exact inte (by omega) | (simp; done) | (simp <;> omega) | simp [*]) (.cons rfl (by first | rfl | exact inte (by omega) | (simp; done) | (simp <;> omega) | simp [*]) (.cons rfl (by first | rfl | exact inte (by omega) | (simp; done) | (simp <;> omega) | simp [*]) (.cons rfl (by first | rfl | exact inte (by omega) | (simp; done) | (simp <;> omega) | simp [*]) (.cons rfl (by first | rfl | exact inte (by omega) | (simp; done) | (simp <;> omega) | simp [*]) (.cons rfl (by first | rfl | exact inte (by omega) | (simp; done) | (simp <;> omega) | simp [*]) (.cons rfl (by first | rfl | exact inte (by omega) | (simp; done) | (simp <;> omega) | simp [*]) (.cons rfl (by first | rfl | exact inte (by omega) | (simp; done) | (simp <;> omega) | simp [*]) (.cons rfl (by first | rfl | exact inte (by omega) | (simp; done) | (simp <;> omega) | simp [*]) (.cons rfl (by first | rfl | exact inte (by omega) | (simp; done) | (simp <;> omega) | simp [*]) (.cons rfl (by first | rfl | exact inte (by omega) | (simp; done) | (simp <;> omega) | simp [*]) (.cons rfl (by first | rfl | exact inte (by omega) | (simp; done) | (simp <;> omega) | simp [*]) (.cons rfl (by first | rfl | exact inte (by omega) | (simp; done) | (simp <;> omega) | simp [*]) (.cons rfl (by first | rfl | exact inte (by omega) | (simp; done) | (simp <;> omega) | simp [*]) (.cons rfl (by first | rfl | exact inte (by omega) | (simp; done) | (simp <;> omega) | simp [*]) (.cons rfl (by first | rfl | exact inte (by omega) | (simp; done) | (simp <;> omega) | simp [*]) (.cons rfl (by first | rfl | exact inte (by omega) | (simp; done) | (simp <;> omega) | simp [*]) (.cons rfl (by first | rfl | exact inte (by omega) | (simp; done) | (simp <;> omega) | simp [*]) (.cons rfl (by first | rfl | exact inte (by omega) | (simp; done) | (simp <;> omega) | simp [*]) (.nil _)))))))))))))))))))))))))))) (by repeat (first | exact Ent.nil _ | exact Ent.refl _ | (refine Ent.pick (by repeat (first | exact Pick.here | apply Pick.there)) ?_) | refine Ent.skip ?_))
          intro z hZ
          have hrl := relL_len z.now z.out
          have hfl := outF_len z.out
          have hzo := hZ.ol
          have hzq := hZ.q1
          refine k_blk_n ?_
          refine k_then_n ?_
          refine c_seq ?_
          refine c_region ?_
          refine l_step (s_q rfl wn (q_move rfl) ?_)
          refine l_step (s_fnb rfl wn Try.func21 rfl (by kernel_rfl) rfl (by repeat (first | exact Sel.nil | exact Pick.here | apply Sel.cons | apply Pick.there)) (fun ρ' hL => out_spec bN (⟨span, z.now, z.bo, z.bt, z.out, z.told⟩ : DD) ρ' hZ.oo.keys (show z.out.length ≤ 1000000000 from by omega)) ?_)
          rintro _ _ ⟨a134, c134, rfl, rfl⟩
          try simp only [List.cons_append, List.nil_append]
          refine l_step (s_q rfl wn (q_assign rfl) ?_)
          refine l_nil ?_
          refine k_then_n ?_
          refine c_seq ?_
          refine c_seq ?_
          refine c_region ?_
          refine l_step (s_q rfl wn (q_move rfl) ?_)
          refine l_step (s_q rfl wn (q_len Try.underlying40 rfl) ?_)
          refine l_step (s_q rfl wn (q_move rfl) ?_)
          refine l_step (s_q rfl wn (q_nilCheck rfl) ?_)
          refine l_step (s_q rfl wn (q_fieldp rfl fo_48_1) ?_)
          refine l_step (s_q rfl wn (q_loadp (v := .slice z.q.a1 z.q.n1 z.q.c1) sc_45 rfl (by repeat (first | exact Pick.here | apply Pick.there)) rfl) ?_)
          refine l_step (s_q rfl wn (q_len Try.underlying45 rfl) ?_)
          refine l_step (s_q rfl wn (q_neq rfl rfl) ?_)
          refine l_nil ?_
          refine k_then_n ?_
          refine c_sure false rfl (by rw [hzq]; simp) ?_
          simp only [Bool.false_eq_true, if_true, if_false]
          refine c_skip ?_
          refine k_then_n ?_
          refine c_seq ?_
          refine c_region ?_
          refine l_step (s_q rfl wn (q_assign rfl) ?_)
          refine l_nil ?_
          refine k_then_n ?_
          refine c_block ?_
          refine Tr.env (σ' := [(1, _), (5, _), (7, _), (8, _), (9, _), (14, _), (15, _), (50, _), (51, _), (52, _), (53, _), (56, _), (57, _), (58, _), (59, _), (60, _), (61, _), (62, _), (63, _), (64, _), (65, _), (66, _), (67, _), (68, _), (69, _), (70, _), (71, _), (72, _), (73, _), (133, _), (134, _), (135, _), (136, _), (137, _), (138, _), (139, _), (140, _), (141, _), (142, _)]) (.cons rfl rfl (.cons rfl rfl (.cons rfl rfl (.cons rfl rfl (.cons rfl rfl (.cons rfl rfl (.cons rfl rfl (.cons rfl rfl (.cons rfl rfl (.cons rfl rfl (.cons rfl rfl (.cons rfl rfl (.cons rfl rfl (.cons rfl rfl (.cons rfl rfl (.cons rfl rfl (.cons rfl rfl (.cons rfl rfl (.cons rfl rfl (.cons rfl rfl (.cons rfl rfl (.cons rfl rfl (.cons rfl rfl (.cons rfl rfl (.cons rfl rfl (.cons rfl rfl (.cons rfl rfl (.cons rfl rfl (.cons rfl rfl (.cons rfl rfl (.cons rfl rfl (.cons rfl rfl (.cons rfl rfl (.cons rfl rfl (.cons rfl rfl (.cons rfl rfl (.cons rfl rfl (.cons rfl rfl (.cons rfl rfl (.nil _)))))))))))))))))))))))))))))))))))))))) ?_
          refine t_loop (ι := Lp (Nat)) (fun t => t.d ≤ z.out.length) (fun t => z.out.length - t.d) (fun t => [(1, .slice acts_a acts_n acts_c), (5, .pointer (some ⟨bN, 0, none⟩)), (7, .pointer (some ⟨b49, 0, none⟩)), (8, .int .i64 (x.d.1 : Int)), (9, .pointer (some ⟨b9, 0, none⟩)), (14, .slice a134 z.out.length c134), (15, .int .i64 (t.d : Int)), (50, .int .i64 (x.d.1 : Int)), (51, .slice acts_a acts_n acts_c), (52, .int .i64 (acts_n : Int)), (53, .bool (decide ((x.d.1 : Int) < (acts_n : Int)))), (56, .slice acts_a acts_n acts_c), (57, .int .i64 (x.d.1 : Int)), (58, pe acts_a x.d.1 3 0), (59, .agg (encAct1 (acts.getD x.d.1 default)).toArray), (60, .pointer (some ⟨b9, 1, none⟩)), (61, .slice (((acts.getD x.d.1 default).Os).a) (((acts.getD x.d.1 default).Os).xs.length) (((acts.getD x.d.1 default).Os).cap)), (62, .int .i64 (((acts.getD x.d.1 default).Os).xs.length : Int)), (63, .bool (decide (30 < (((acts.getD x.d.1 default).Os).xs.length : Int)))), (64, .bool (decide (30 < (((acts.getD x.d.1 default).Os).xs.length : Int)))), (65, gd (!(decide (30 < (((acts.getD x.d.1 default).Os).xs.length : Int)))) (.pointer (some ⟨b9, 2, none⟩))), (66, gd (!(decide (30 < (((acts.getD x.d.1 default).Os).xs.length : Int)))) (.slice (((acts.getD x.d.1 default).Rs).a) (((acts.getD x.d.1 default).Rs).xs.length) (((acts.getD x.d.1 default).Rs).cap))), (67, gd (!(decide (30 < (((acts.getD x.d.1 default).Os).xs.length : Int)))) (.int .i64 (((acts.getD x.d.1 default).Rs).xs.length : Int))), (68, gd (!(decide (30 < (((acts.getD x.d.1 default).Os).xs.length : Int)))) (.bool (decide (30 < (((acts.getD x.d.1 default).Rs).xs.length : Int))))), (69, .bool ((decide (30 < (((acts.getD x.d.1 default).Os).xs.length : Int))) || (decide (30 < (((acts.getD x.d.1 default).Rs).xs.length : Int))))), (70, .pointer (some ⟨b9, 0, none⟩)), (71, .int .i64 ((acts.getD x.d.1 default).Kind)), (72, .bool (decide (((acts.getD x.d.1 default).Kind) = 0))), (73, .bool (decide (((acts.getD x.d.1 default).Kind) = 0))), (133, .pointer (some ⟨bN, 0, none⟩)), (134, .slice a134 z.out.length c134), (135, .slice a134 z.out.length c134), (136, .int .i64 (z.out.length : Int)), (137, .pointer (some ⟨b49, 0, none⟩)), (138, .pointer (some ⟨b49, 0, none⟩)), (139, .pointer (some ⟨b49, 1, none⟩)), (140, .slice z.q.a1 z.q.n1 z.q.c1), (141, .int .i64 (z.q.n1 : Int)), (142, .bool (decide ((z.out.length : Int) ≠ (z.q.n1 : Int))))]) (fun t => .row 30 4 a134 z.out.length c134 ((outF z.out).flatMap encOrd) :: .pts b9 (encAct1 (acts.getD x.d.1 default)) 51 :: .row 57 5 z.q.a1 z.q.n1 z.q.c1 ((relL z.now z.out).flatMap encRSent) :: .row 106 4 z.q.a2 z.q.n2 z.q.c2 ((relT z.now z.told).flatMap encRTold) :: .pts b49 (encRDisp (⟨span, ⟨z.q.a1, z.q.n1, z.q.c1⟩, ⟨z.q.a2, z.q.n2, z.q.c2⟩⟩ : RDisp)) 48 :: MP (Value.int .i64) (aggV encTold) z.bt z.told :: MP (Value.int .i64) (aggV encSent) z.bo z.out :: .pts bN (encDisp (⟨span, z.now, (some z.bo), (some z.bt)⟩ : Disp)) 98 :: Δ) (⟨0, none, 0, none, 0, none, 0⟩ : Lp _) (Nat.zero_le _) ?_ ?_ ?_
          · exact .cons rfl (by first | rfl | exact inte (by omega) | (simp; done) | (simp <;> omega) | simp [*]) (.cons rfl (by first | rfl | exact inte (by omega) | (simp; done) | (simp <;> omega) | simp [*]) (.cons rfl (by first | rfl | exact inte (by omega) | (simp; done) | (simp <;> omega) | simp [*]) (.cons rfl (by first | rfl | exact inte (by omega) | (simp; done) | (simp <;> omega) | simp [*]) (.cons rfl (by first | rfl | exact inte (by omega) | (simp; done) | (simp <;> omega) | simp [*]) (.cons rfl (by first | rfl | exact inte (by omega) | (simp; done) | (simp <;> omega) | simp [*]) (.cons rfl (by first | rfl | exact inte (by omega) | (simp; done) | (simp <;> omega) | simp [*]) (.cons rfl (by first | rfl | exact inte (by omega) | (simp; done) | (simp <;> omega) | simp [*]) (.cons rfl (by first | rfl | exact inte (by omega) | (simp; done) | (simp <;> omega) | simp [*]) (.cons rfl (by first | rfl | exact inte (by omega) | (simp; done) | (simp <;> omega) | simp [*]) (.cons rfl (by first | rfl | exact inte (by omega) | (simp; done) | (simp <;> omega) | simp [*]) (.cons rfl (by first | rfl | exact inte (by omega) | (simp; done) | (simp <;> omega) | simp [*]) (.cons rfl (by first | rfl | exact inte (by omega) | (simp; done) | (simp <;> omega) | simp [*]) (.cons rfl (by first | rfl | exact inte (by omega) | (simp; done) | (simp <;> omega) | simp [*]) (.cons rfl (by first | rfl | exact inte (by omega) | (simp; done) | (simp <;> omega) | simp [*]) (.cons rfl (by first | rfl | exact inte (by omega) | (simp; done) | (simp <;> omega) | simp [*]) (.cons rfl (by first | rfl | exact inte (by omega) | (simp; done) | (simp <;> omega) | simp [*]) (.cons rfl (by first | rfl | exact inte (by omega) | (simp; done) | (simp <;> omega) | simp [*]) (.cons rfl (by first | rfl | exact inte (by omega) | (simp; done) | (simp <;> omega) | simp [*]) (.cons rfl (by first | rfl | exact inte (by omega) | (simp; done) | (simp <;> omega) | simp [*]) (.cons rfl (by first | rfl | exact inte (by omega) | (simp; done) | (simp <;> omega) | simp [*]) (.cons rfl (by first | rfl | exact inte (by omega) | (simp; done) | (simp <;> omega) | simp [*]) (.cons rfl (by first | rfl | exact inte (by omega) | (simp; done) | (simp <;> omega) | simp [*]) (.cons rfl (by first | rfl | exact inte (by omega) | (simp; done) | (simp <;> omega) | simp [*]) (.cons rfl (by first | rfl | exact inte (by omega) | (simp; done) | (simp <;> omega) | simp [*]) (.cons rfl (by first | rfl | exact inte (by omega) | (simp; done) | (simp <;> omega) | simp [*]) (.cons rfl (by first | rfl | exact inte (by omega) | (simp; done) | (simp <;> omega) | simp [*]) (.cons rfl (by first | rfl | exact inte (by omega) | (simp; done) | (simp <;> omega) | simp [*]) (.cons rfl (by first | rfl | exact inte (by omega) | (simp; done) | (simp <;> omega) | simp [*]) (.cons rfl (by first | rfl | exact inte (by omega) | (simp; done) | (simp <;> omega) | simp [*]) (.cons rfl (by first | rfl | exact inte (by omega) | (simp; done) | (simp <;> omega) | simp [*]) (.cons rfl (by first | rfl | exact inte (by omega) | (simp; done) | (simp <;> omega) | simp [*]) (.cons rfl (by first | rfl | exact inte (by omega) | (simp; done) | (simp <;> omega) | simp [*]) (.cons rfl (by first | rfl | exact inte (by omega) | (simp; done) | (simp <;> omega) | simp [*]) (.cons rfl (by first | rfl | exact inte (by omega) | (simp; done) | (simp <;> omega) | simp [*]) (.cons rfl (by first | rfl | exact inte (by omega) | (simp; done) | (simp <;> omega) | simp [*]) (.cons rfl (by first | rfl | exact inte (by omega) | (simp; done) | (simp <;> omega) | simp [*]) (.cons rfl (by first | rfl | exact inte (by omega) | (simp; done) | (simp <;> omega) | simp [*]) (.cons rfl (by first | rfl | exact inte (by omega) | (simp; done) | (simp <;> omega) | simp [*]) (.nil _)))))))))))))))))))))))))))))))))))))))
          · exact (by repeat (first | exact Ent.nil _ | exact Ent.refl _ | (refine Ent.pick (by repeat (first | exact Pick.here | apply Pick.there)) ?_) | refine Ent.skip ?_))
          intro t ht
          refine c_seq ?_
          refine c_seq ?_
          refine c_region ?_
          refine l_step (s_q rfl wn (q_move rfl) ?_)
          refine l_step (s_q rfl wn (q_move rfl) ?_)
          refine l_step (s_q rfl wn (q_len Try.underlying40 rfl) ?_)
          refine l_step (s_q rfl wn (q_lss rfl rfl) ?_)
          refine l_nil ?_
          refine k_then_n ?_
          refine c_cond rfl (fun h14 => ?_) (fun h14 => ?_)
          · try simp only [Bool.and_eq_true, Bool.or_eq_true, Bool.not_eq_true', Bool.and_eq_false_iff, Bool.or_eq_false_iff, Bool.not_eq_false', decide_eq_true_eq, decide_eq_false_iff_not, Bool.not_eq_eq_eq_not, Bool.not_true, Bool.not_false, Bool.not_eq_true, Bool.not_eq_false, beq_iff_eq, bne_iff_ne, ne_eq, Decidable.not_not] at h14
            refine c_skip ?_
            refine k_then_n ?_
            refine c_seq ?_
            refine c_block ?_
            refine c_seq ?_
            refine c_draw (m := 13) (bs := #[false, false, false, false, false, false, false, false, false, false, false, false, false]) [.row 30 4 a134 z.out.length c134 ((outF z.out).flatMap encOrd), .pts b9 (encAct1 (acts.getD x.d.1 default)) 51, .row 57 5 z.q.a1 z.q.n1 z.q.c1 ((relL z.now z.out).flatMap encRSent), .row 106 4 z.q.a2 z.q.n2 z.q.c2 ((relT z.now z.told).flatMap encRTold), .pts b49 (encRDisp (⟨span, ⟨z.q.a1, z.q.n1, z.q.c1⟩, ⟨z.q.a2, z.q.n2, z.q.c2⟩⟩ : RDisp)) 48, MP (Value.int .i64) (aggV encTold) z.bt z.told, MP (Value.int .i64) (aggV encSent) z.bo z.out, .pts bN (encDisp (⟨span, z.now, (some z.bo), (some z.bt)⟩ : Disp)) 98] (by kernel_rfl) rfl (by kernel_rfl) ?_
            refine r_take (i := 0) (bs' := #[true, false, false, false, false, false, false, false, false, false, false, false, false]) rfl (by kernel_rfl) (by kernel_rfl) (by kernel_rfl) (fun _ _ _ h => h) rfl wn (q_move rfl) (Hp.le_refl _) (by repeat (first | exact Ent.nil _ | exact Ent.refl _ | (refine Ent.pick (by repeat (first | exact Pick.here | apply Pick.there)) ?_) | refine Ent.skip ?_)) (by kernel_rfl) ?_
            refine r_take (i := 1) (bs' := #[true, true, false, false, false, false, false, false, false, false, false, false, false]) rfl (by kernel_rfl) (by kernel_rfl) (by kernel_rfl) (fun _ _ _ h => h) rfl wn (q_move rfl) (Hp.le_refl _) (by repeat (first | exact Ent.nil _ | exact Ent.refl _ | (refine Ent.pick (by repeat (first | exact Pick.here | apply Pick.there)) ?_) | refine Ent.skip ?_)) (by kernel_rfl) ?_
            refine r_take (i := 2) (bs' := #[true, true, true, false, false, false, false, false, false, false, false, false, false]) rfl (by kernel_rfl) (by kernel_rfl) (by kernel_rfl) (fun _ _ _ h => h) rfl wn (q_indexe t.d Try.underlying40 sz_30 rfl rfl (rd_row (by repeat (first | exact Pick.here | apply Pick.there))) (by decide) rfl (by first | assumption | omega | (simp only [List.length_cons, List.length_nil]; omega))) (Hp.le_refl _) (by repeat (first | exact Ent.nil _ | exact Ent.refl _ | (refine Ent.pick (by repeat (first | exact Pick.here | apply Pick.there)) ?_) | refine Ent.skip ?_)) (by kernel_rfl) ?_
            refine r_take (i := 3) (bs' := #[true, true, true, true, false, false, false, false, false, false, false, false, false]) rfl (by kernel_rfl) (by kernel_rfl) (by kernel_rfl) (fun _ _ _ h => h) rfl wn (q_loadea (vs := encOrd ((outF z.out).getD t.d default)) (enc := encOrd) (xs := (outF z.out)) (j := t.d) (off := 0) ag_30 rfl (rd_row (by repeat (first | exact Pick.here | apply Pick.there))) (fun _ => rfl) (by first | assumption | omega | (simp only [List.length_cons, List.length_nil]; omega)) (by simp [encOrd]) (by simp [encOrd]) rfl) (Hp.le_refl _) (by repeat (first | exact Ent.nil _ | exact Ent.refl _ | (refine Ent.pick (by repeat (first | exact Pick.here | apply Pick.there)) ?_) | refine Ent.skip ?_)) (by kernel_rfl) ?_
            refine r_take (i := 4) (bs' := #[true, true, true, true, true, false, false, false, false, false, false, false, false]) rfl (by kernel_rfl) (by kernel_rfl) (by kernel_rfl) (fun _ _ _ h => h) rfl wn (q_move rfl) (Hp.le_refl _) (by repeat (first | exact Ent.nil _ | exact Ent.refl _ | (refine Ent.pick (by repeat (first | exact Pick.here | apply Pick.there)) ?_) | refine Ent.skip ?_)) (by kernel_rfl) ?_
            refine r_take (i := 5) (bs' := #[true, true, true, true, true, true, false, false, false, false, false, false, false]) rfl (by kernel_rfl) (by kernel_rfl) (by kernel_rfl) (fun _ _ _ h => h) rfl wn (q_nilCheck rfl) (Hp.le_refl _) (by repeat (first | exact Ent.nil _ | exact Ent.refl _ | (refine Ent.pick (by repeat (first | exact Pick.here | apply Pick.there)) ?_) | refine Ent.skip ?_)) (by kernel_rfl) ?_
            refine r_take (i := 6) (bs' := #[true, true, true, true, true, true, true, false, false, false, false, false, false]) rfl (by kernel_rfl) (by kernel_rfl) (by kernel_rfl) (fun _ _ _ h => h) rfl wn (q_fieldp rfl fo_48_1) (Hp.le_refl _) (by repeat (first | exact Ent.nil _ | exact Ent.refl _ | (refine Ent.pick (by repeat (first | exact Pick.here | apply Pick.there)) ?_) | refine Ent.skip ?_)) (by kernel_rfl) ?_
            refine r_take (i := 7) (bs' := #[true, true, true, true, true, true, true, true, false, false, false, false, false]) rfl (by kernel_rfl) (by kernel_rfl) (by kernel_rfl) (fun _ _ _ h => h) rfl wn (q_loadp (v := .slice z.q.a1 z.q.n1 z.q.c1) sc_45 rfl (by repeat (first | exact Pick.here | apply Pick.there)) rfl) (Hp.le_refl _) (by repeat (first | exact Ent.nil _ | exact Ent.refl _ | (refine Ent.pick (by repeat (first | exact Pick.here | apply Pick.there)) ?_) | refine Ent.skip ?_)) (by kernel_rfl) ?_
            refine r_take (i := 8) (bs' := #[true, true, true, true, true, true, true, true, true, false, false, false, false]) rfl (by kernel_rfl) (by kernel_rfl) (by kernel_rfl) (fun _ _ _ h => h) rfl wn (q_move rfl) (Hp.le_refl _) (by repeat (first | exact Ent.nil _ | exact Ent.refl _ | (refine Ent.pick (by repeat (first | exact Pick.here | apply Pick.there)) ?_) | refine Ent.skip ?_)) (by kernel_rfl) ?_
            refine r_take (i := 9) (bs' := #[true, true, true, true, true, true, true, true, true, true, false, false, false]) rfl (by kernel_rfl) (by kernel_rfl) (by kernel_rfl) (fun _ _ _ h => h) rfl wn (q_indexe t.d Try.underlying45 sz_57 rfl rfl (rd_row (by repeat (first | exact Pick.here | apply Pick.there))) (by decide) rfl (by first | assumption | omega | (simp only [List.length_cons, List.length_nil]; omega))) (Hp.le_refl _) (by repeat (first | exact Ent.nil _ | exact Ent.refl _ | (refine Ent.pick (by repeat (first | exact Pick.here | apply Pick.there)) ?_) | refine Ent.skip ?_)) (by kernel_rfl) ?_
            refine r_take (i := 10) (bs' := #[true, true, true, true, true, true, true, true, true, true, true, false, false]) rfl (by kernel_rfl) (by kernel_rfl) (by kernel_rfl) (fun _ _ _ h => h) rfl wn (q_fielde rfl fo_57_0) (Hp.le_refl _) (by repeat (first | exact Ent.nil _ | exact Ent.refl _ | (refine Ent.pick (by repeat (first | exact Pick.here | apply Pick.there)) ?_) | refine Ent.skip ?_)) (by kernel_rfl) ?_
            refine r_take (i := 11) (bs' := #[true, true, true, true, true, true, true, true, true, true, true, true, false]) rfl (by kernel_rfl) (by kernel_rfl) (by kernel_rfl) (fun _ _ _ h => h) rfl wn (q_loadea (vs := encOrd ((relL z.now z.out).getD t.d default).O) (enc := encRSent) (xs := (relL z.now z.out)) (j := t.d) (off := 0) ag_30 rfl (rd_row (by repeat (first | exact Pick.here | apply Pick.there))) (fun _ => rfl) (by first | assumption | omega | (simp only [List.length_cons, List.length_nil]; omega)) (by simp [encOrd]) (by simp [encOrd]) rfl) (Hp.le_refl _) (by repeat (first | exact Ent.nil _ | exact Ent.refl _ | (refine Ent.pick (by repeat (first | exact Pick.here | apply Pick.there)) ?_) | refine Ent.skip ?_)) (by kernel_rfl) ?_
            refine r_take (i := 12) (bs' := #[true, true, true, true, true, true, true, true, true, true, true, true, true]) rfl (by kernel_rfl) (by kernel_rfl) (by kernel_rfl) (fun _ _ _ h => h) rfl wn (q_neqst (offs := [0, 1, 2, 3]) (la := [((outF z.out).getD t.d default).ID, ((outF z.out).getD t.d default).Epoch, ((outF z.out).getD t.d default).Cluster, ((outF z.out).getD t.d default).Version]) (lb := [(((relL z.now z.out).getD t.d default).O).ID, (((relL z.now z.out).getD t.d default).O).Epoch, (((relL z.now z.out).getD t.d default).O).Cluster, (((relL z.now z.out).getD t.d default).O).Version]) (by kernel_rfl) rfl rfl (by intro o ho; simp only [List.mem_cons, List.not_mem_nil, or_false] at ho; rcases ho with rfl | rfl | rfl | rfl <;> exact ⟨_, _, _, rfl, rfl⟩) rfl rfl) (Hp.le_refl _) (by repeat (first | exact Ent.nil _ | exact Ent.refl _ | (refine Ent.pick (by repeat (first | exact Pick.here | apply Pick.there)) ?_) | refine Ent.skip ?_)) (by kernel_rfl) ?_
            refine r_done (by kernel_rfl) ?_
            refine k_then_n ?_
            refine c_sure false rfl (by rw [out_get (now := z.now) (by omega)]; simp) ?_
            simp only [Bool.false_eq_true, if_true, if_false]
            refine c_skip ?_
            refine k_blk_n ?_
            refine k_then_n ?_
            refine c_region ?_
            refine l_step (s_q rfl wn (q_move rfl) ?_)
            refine l_step (s_q rfl wn (q_add rfl rfl (by omega) (by omega)) ?_)
            refine l_step (s_q rfl wn (q_assign rfl) ?_)
            refine l_nil ?_
            refine k_then_n ?_
            exact t_next (⟨t.d + 1, none, 0, none, 0, none, 0⟩ : Lp _) ⟨by simp only []; omega, by simp only []; omega⟩ (.cons rfl (by first | rfl | exact inte (by omega) | (simp; done) | (simp <;> omega) | simp [*]) (.cons rfl (by first | rfl | exact inte (by omega) | (simp; done) | (simp <;> omega) | simp [*]) (.cons rfl (by first | rfl | exact inte (by omega) | (simp; done) | (simp <;> omega) | simp [*]) (.cons rfl (by first | rfl | exact inte (by omega) | (simp; done) | (simp <;> omega) | simp [*]) (.cons rfl (by first | rfl | exact inte (by omega) | (simp; done) | (simp <;> omega) | simp [*]) (.cons rfl (by first | rfl | exact inte (by omega) | (simp; done) | (simp <;> omega) | simp [*]) (.cons rfl (by first | rfl | exact inte (by omega) | (simp; done) | (simp <;> omega) | simp [*]) (.cons rfl (by first | rfl | exact inte (by omega) | (simp; done) | (simp <;> omega) | simp [*]) (.cons rfl (by first | rfl | exact inte (by omega) | (simp; done) | (simp <;> omega) | simp [*]) (.cons rfl (by first | rfl | exact inte (by omega) | (simp; done) | (simp <;> omega) | simp [*]) (.cons rfl (by first | rfl | exact inte (by omega) | (simp; done) | (simp <;> omega) | simp [*]) (.cons rfl (by first | rfl | exact inte (by omega) | (simp; done) | (simp <;> omega) | simp [*]) (.cons rfl (by first | rfl | exact inte (by omega) | (simp; done) | (simp <;> omega) | simp [*]) (.cons rfl (by first | rfl | exact inte (by omega) | (simp; done) | (simp <;> omega) | simp [*]) (.cons rfl (by first | rfl | exact inte (by omega) | (simp; done) | (simp <;> omega) | simp [*]) (.cons rfl (by first | rfl | exact inte (by omega) | (simp; done) | (simp <;> omega) | simp [*]) (.cons rfl (by first | rfl | exact inte (by omega) | (simp; done) | (simp <;> omega) | simp [*]) (.cons rfl (by first | rfl | exact inte (by omega) | (simp; done) | (simp <;> omega) | simp [*]) (.cons rfl (by first | rfl | exact inte (by omega) | (simp; done) | (simp <;> omega) | simp [*]) (.cons rfl (by first | rfl | exact inte (by omega) | (simp; done) | (simp <;> omega) | simp [*]) (.cons rfl (by first | rfl | exact inte (by omega) | (simp; done) | (simp <;> omega) | simp [*]) (.cons rfl (by first | rfl | exact inte (by omega) | (simp; done) | (simp <;> omega) | simp [*]) (.cons rfl (by first | rfl | exact inte (by omega) | (simp; done) | (simp <;> omega) | simp [*]) (.cons rfl (by first | rfl | exact inte (by omega) | (simp; done) | (simp <;> omega) | simp [*]) (.cons rfl (by first | rfl | exact inte (by omega) | (simp; done) | (simp <;> omega) | simp [*]) (.cons rfl (by first | rfl | exact inte (by omega) | (simp; done) | (simp <;> omega) | simp [*]) (.cons rfl (by first | rfl | exact inte (by omega) | (simp; done) | (simp <;> omega) | simp [*]) (.cons rfl (by first | rfl | exact inte (by omega) | (simp; done) | (simp <;> omega) | simp [*]) (.cons rfl (by first | rfl | exact inte (by omega) | (simp; done) | (simp <;> omega) | simp [*]) (.cons rfl (by first | rfl | exact inte (by omega) | (simp; done) | (simp <;> omega) | simp [*]) (.cons rfl (by first | rfl | exact inte (by omega) | (simp; done) | (simp <;> omega) | simp [*]) (.cons rfl (by first | rfl | exact inte (by omega) | (simp; done) | (simp <;> omega) | simp [*]) (.cons rfl (by first | rfl | exact inte (by omega) | (simp; done) | (simp <;> omega) | simp [*]) (.cons rfl (by first | rfl | exact inte (by omega) | (simp; done) | (simp <;> omega) | simp [*]) (.cons rfl (by first | rfl | exact inte (by omega) | (simp; done) | (simp <;> omega) | simp [*]) (.cons rfl (by first | rfl | exact inte (by omega) | (simp; done) | (simp <;> omega) | simp [*]) (.cons rfl (by first | rfl | exact inte (by omega) | (simp; done) | (simp <;> omega) | simp [*]) (.cons rfl (by first | rfl | exact inte (by omega) | (simp; done) | (simp <;> omega) | simp [*]) (.cons rfl (by first | rfl | exact inte (by omega) | (simp; done) | (simp <;> omega) | simp [*]) (.nil _)))))))))))))))))))))))))))))))))))))))) (by repeat (first | exact Ent.nil _ | exact Ent.refl _ | (refine Ent.pick (by repeat (first | exact Pick.here | apply Pick.there)) ?_) | refine Ent.skip ?_))
          · try simp only [Bool.and_eq_true, Bool.or_eq_true, Bool.not_eq_true', Bool.and_eq_false_iff, Bool.or_eq_false_iff, Bool.not_eq_false', decide_eq_true_eq, decide_eq_false_iff_not, Bool.not_eq_eq_eq_not, Bool.not_true, Bool.not_false, Bool.not_eq_true, Bool.not_eq_false, beq_iff_eq, bne_iff_ne, ne_eq, Decidable.not_not] at h14
            refine c_exit ?_
            refine k_then_x ?_
            refine k_then_x ?_
            refine k_blk_x ?_
            refine k_blk_n ?_
            refine k_then_n ?_
            refine c_region ?_
            refine l_step (s_q rfl wn (q_move rfl) ?_)
            refine l_step (s_q rfl wn (q_add rfl rfl (by omega) (by omega)) ?_)
            refine l_step (s_q rfl wn (q_assign rfl) ?_)
            refine l_nil ?_
            refine k_then_n ?_
            exact t_next (⟨(x.d.1 + 1, z), none, 0, none, 0, none, 0⟩ : Lp _) ⟨⟨by simp only []; omega, hZ⟩, by simp only []; omega⟩ (.cons rfl (by first | rfl | exact inte (by omega) | (simp; done) | (simp <;> omega) | simp [*]) (.cons rfl (by first | rfl | exact inte (by omega) | (simp; done) | (simp <;> omega) | simp [*]) (.cons rfl (by first | rfl | exact inte (by omega) | (simp; done) | (simp <;> omega) | simp [*]) (.cons rfl (by first | rfl | exact inte (by omega) | (simp; done) | (simp <;> omega) | simp [*]) (.nil _))))) (by repeat (first | exact Ent.nil _ | exact Ent.refl _ | (refine Ent.pick (by repeat (first | exact Pick.here | apply Pick.there)) ?_) | refine Ent.skip ?_))
      · try simp only [Bool.and_eq_true, Bool.or_eq_true, Bool.not_eq_true', Bool.and_eq_false_iff, Bool.or_eq_false_iff, Bool.not_eq_false', decide_eq_true_eq, decide_eq_false_iff_not, Bool.not_eq_eq_eq_not, Bool.not_true, Bool.not_false, Bool.not_eq_true, Bool.not_eq_false, beq_iff_eq, bne_iff_ne, ne_eq, Decidable.not_not] at h3
        refine c_exit ?_
        refine k_then_x ?_
        refine k_then_x ?_
        refine k_blk_x ?_
        refine k_then_n ?_
        refine c_seq ?_
        refine c_region ?_
        refine l_step (s_q rfl wn (q_assign rfl) ?_)
        refine l_nil ?_
        refine k_then_n ?_
        refine c_ret ?_
        exact t_ret [] rfl (.tmp rfl .nil) rfl (Hp.le_refl _) ⟨rfl, boole (by rfl), rfl⟩ (by (repeat refine Ent.skip ?_); exact Ent.refl _)
    · skip
      try simp only [List.cons_append, List.nil_append]
      refine l_step (s_q rfl wn (q_move rfl) ?_)
      refine l_step (s_q rfl wn (q_extract rfl rfl) ?_)
      refine l_step (s_q rfl wn (q_extract rfl rfl) ?_)
      refine l_step (s_q rfl wn (q_assign rfl) ?_)
      refine l_step (s_q rfl wn (q_assign rfl) ?_)
      refine l_nil ?_
      refine k_then_n ?_
      refine c_seq ?_
      refine c_seq ?_
      refine c_region ?_
      refine l_step (s_q rfl wn (q_move rfl) ?_)
      refine l_step (s_q rfl wn (q_lss rfl rfl) ?_)
      refine l_step (s_q rfl wn (q_move rfl) ?_)
      refine l_step (s_qg rfl (ask_f rfl rfl) (b := (!(decide (span < 1)))) (fun hb => q_move rfl) ?_)
      refine l_step (s_qg rfl (ask_f rfl rfl) (b := (!(decide (span < 1)))) (fun hb => OpQ.env (.cons rfl (gd_t hb) (.nil _) : EnvLe [(32, .int .i64 span)] _) (q_gtr rfl rfl)) ?_)
      refine l_step (s_q rfl wn (q_pick_or rfl rfl rfl (fun h => by first | (rw [h]; rfl) | exact congrArg not h)) ?_)
      refine l_nil ?_
      refine k_then_n ?_
      refine c_sure true rfl (by simp only [Bool.or_eq_true, decide_eq_true_eq]; omega) ?_
      simp only [Bool.false_eq_true, if_true, if_false]
      refine c_seq ?_
      refine c_region ?_
      refine l_step (s_q rfl wn (q_move rfl) ?_)
      refine l_step (s_q rfl wn (by first | exact q_eqlp rfl rfl Try.underlying24 | exact q_eqlp0 rfl rfl Try.underlying24) ?_)
      refine l_step (s_q rfl wn (q_move rfl) ?_)
      refine l_step (s_q rfl (wy rfl rfl rfl) (q_move rfl) ?_)
      refine l_step (s_q rfl (wy rfl rfl rfl) (q_eql rfl rfl) ?_)
      refine l_step (s_q rfl wn (q_pick rfl rfl rfl) ?_)
      refine l_step (s_q rfl wn (q_assign rfl) ?_)
      refine l_nil ?_
      refine k_then_n ?_
      refine c_ret ?_
      refine k_then_r ?_
      exact t_ret [] rfl (.tmp rfl .nil) rfl (Hp.le_refl _) ⟨rfl, boole (by rfl), rfl⟩ (by (repeat refine Ent.skip ?_); exact Ent.refl _)
end Go.Dsp.J

/-
  The track of package tally, walked.
-/
import Derived.Test.YteajafkmnhikoaaTlyB
import Derived.Test.YteajafkmnhikoaaTlyE
import Derived.Test.YteajafkmnhikoaaDspL
import Derived.Test.YteajafkmnhikoaaProg
set_option maxRecDepth 100000
set_option maxHeartbeats 4000000
set_option linter.unusedSimpArgs false
set_option linter.unusedVariables false
namespace Go.Tly.F
open Go Go.SL Go.Proofs Go.Tly Go.Tly.V Go.Tly.U Go.Tly.B Go.Dsp.L
attribute [local irreducible] Go.SL.Ent
theorem ag_60 : aggSize Try.prog 60 = some 2 := by kernel_rfl
theorem eo_3 : elemOk Try.prog 3 1 8 = true := by kernel_rfl
theorem fo_60_0 : fieldOff Try.prog 60 0 = some (0, 22) := by kernel_rfl
theorem fo_77_0 : fieldOff Try.prog 77 0 = some (0, 4) := by kernel_rfl
theorem fo_77_1 : fieldOff Try.prog 77 1 = some (1, 3) := by kernel_rfl
theorem pl_60 : placesOf Try.prog 60 = some [(0, 1), (1, 1)] := by kernel_rfl
theorem sc_22 : isScalar Try.prog 22 = true := by kernel_rfl
theorem sc_3 : isScalar Try.prog 3 = true := by kernel_rfl
theorem sc_4 : isScalar Try.prog 4 = true := by kernel_rfl
theorem sz_3 : sizeIs Try.prog 3 = some 1 := by kernel_rfl
theorem sz_60 : sizeIs Try.prog 60 = some 2 := by kernel_rfl
theorem sz_77 : sizeIs Try.prog 77 = some 2 := by kernel_rfl
theorem zc_60 : zeroCs Try.prog 60 = some [.slice none 0 0, .slice none 0 0] := by kernel_rfl

theorem polls_spec (c : Conf) (l_a : Option Addr) (l_n l_c : Nat) (l : List Said1) (hl_n : l.length = l_n) (ρ : Hp) (hv : Ro ρ 1 c.Voters.a c.Voters.xs.length c.Voters.cap (c.Voters.xs.flatMap encI)) (hrl : Ro ρ 2 l_a l_n l_c (l.flatMap encSaid1)) : Spec0 Try.prog 8 #[.agg (encConf c).toArray, .slice l_a l_n l_c] ρ [] (fun v Γ' => v = .bool true ∧ Γ' = []) := by
  refine spec_of (n := 89) (vs := [_, _]) (σ := [(0, _), (1, _)]) Try.func8 rfl rfl rfl rfl fun E Δ => ?_
  rw [List.nil_append]
  have hcap : l_n ≤ l_c := hrl.2.1
  refine c_seq ?_
  refine c_region ?_
  refine l_step (s_s rfl wn (s_box (cs := encConf c) rfl rfl) ?_)
  rintro _ _ ⟨b2, rfl, rfl⟩
  refine l_step (s_q rfl wn (q_assign rfl) ?_)
  refine l_nil ?_
  refine k_then_n ?_
  refine c_seq ?_
  refine c_seq ?_
  refine c_region ?_
  refine l_step (s_fnq rfl wn Try.func22 rfl (by kernel_rfl) rfl (fun ρ' hL => awake_spec  ρ') ?_)
  refine l_step (s_q rfl wn (q_not rfl) ?_)
  refine l_step (s_q rfl wn (q_move rfl) ?_)
  refine l_step (s_q rfl (wy rfl rfl rfl) (q_loadpa (vs := encConf c) ag_60 rfl (by repeat (first | exact Pick.here | apply Pick.there)) rfl) ?_)
  refine l_step (s_fnq rfl (wy rfl rfl rfl) Try.func23 rfl (by kernel_rfl) rfl (fun ρ' hL => small_spec c ρ') ?_)
  refine l_step (s_q rfl (wy rfl rfl rfl) (q_not rfl) ?_)
  refine l_step (s_q rfl wn (q_pick rfl rfl rfl) ?_)
  refine l_step (s_q rfl wn (q_move rfl) ?_)
  refine l_step (s_qg rfl (ask_f rfl rfl) (b := (!(!((decide ((c.Voters.xs.length : Int) ≤ 60) && decide ((c.Learners.xs.length : Int) ≤ 60)))))) (fun hb => q_move rfl) ?_)
  refine l_step (s_qg rfl (ask_f rfl rfl) (b := (!(!((decide ((c.Voters.xs.length : Int) ≤ 60) && decide ((c.Learners.xs.length : Int) ≤ 60)))))) (fun hb => OpQ.env (.cons rfl (gd_t hb) (.nil _) : EnvLe [(19, .slice l_a l_n l_c)] _) (q_len Try.underlying70 rfl)) ?_)
  refine l_step (s_qg rfl (ask_f rfl rfl) (b := (!(!((decide ((c.Voters.xs.length : Int) ≤ 60) && decide ((c.Learners.xs.length : Int) ≤ 60)))))) (fun hb => OpQ.env (.cons rfl (gd_t hb) (.nil _) : EnvLe [(20, .int .i64 (l_n : Int))] _) (q_gtr rfl rfl)) ?_)
  refine l_step (s_q rfl wn (q_pick_or rfl rfl rfl (fun h => by first | (rw [h]; rfl) | exact congrArg not h)) ?_)
  refine l_nil ?_
  refine k_then_n ?_
  refine c_cond rfl (fun h0 => ?_) (fun h0 => ?_)
  · try simp only [Bool.and_eq_true, Bool.or_eq_true, Bool.not_eq_true', Bool.and_eq_false_iff, Bool.or_eq_false_iff, Bool.not_eq_false', decide_eq_true_eq, decide_eq_false_iff_not, Bool.not_eq_eq_eq_not, Bool.not_true, Bool.not_false, Bool.not_eq_true, Bool.not_eq_false, beq_iff_eq, bne_iff_ne, ne_eq, Decidable.not_not] at h0
    refine c_seq ?_
    refine c_region ?_
    refine l_step (s_fnq rfl wn Try.func22 rfl (by kernel_rfl) rfl (fun ρ' hL => awake_spec  ρ') ?_)
    refine l_step (s_q rfl wn (q_assign rfl) ?_)
    refine l_nil ?_
    refine k_then_n ?_
    refine c_ret ?_
    refine k_then_r ?_
    exact t_ret [] rfl (.tmp rfl .nil) rfl (Hp.le_refl _) ⟨rfl, boole (by rfl), rfl⟩ (by (repeat refine Ent.skip ?_); exact Ent.refl _)
  · try simp only [Bool.and_eq_true, Bool.or_eq_true, Bool.not_eq_true', Bool.and_eq_false_iff, Bool.or_eq_false_iff, Bool.not_eq_false', decide_eq_true_eq, decide_eq_false_iff_not, Bool.not_eq_eq_eq_not, Bool.not_true, Bool.not_false, Bool.not_eq_true, Bool.not_eq_false, beq_iff_eq, bne_iff_ne, ne_eq, Decidable.not_not] at h0
    refine c_skip ?_
    refine k_then_n ?_
    refine c_seq ?_
    refine c_region ?_
    refine l_step (s_s rfl wn (s_buildSlice (cs := ([] : List Int).flatMap encI) Try.underlying22 eo_3 rfl rfl rfl rfl (by decide) (by decide)) ?_)
    rintro _ _ ⟨b24, rfl, rfl⟩
    refine l_step (s_q rfl wn (q_fieldp rfl fo_60_0) ?_)
    refine l_step (s_q rfl wn (q_loadp (v := .slice c.Voters.a c.Voters.xs.length c.Voters.cap) sc_22 rfl (by repeat (first | exact Pick.here | apply Pick.there)) rfl) ?_)
    refine l_step (s_s rfl wn (s_appendn (enc := encI) (xs := ([] : List Int)) (ys := (c.Voters.xs : List Int)) (Γ' := fun a' cap' => _) Try.underlying22 eo_3 (by decide) rfl rfl (by first | assumption | exact rd_ro (by assumption) | exact rd_row (by repeat (first | exact Pick.here | apply Pick.there))) (oneI _) (by first | omega | (simp only [List.length_append, List.length_cons, List.length_nil] at *; omega)) (by first | omega | (simp only [List.length_append, List.length_cons, List.length_nil] at *; omega)) (fun _ _ => (by repeat (first | exact Pick.here | apply Pick.there)))) ?_)
    rintro _ _ ⟨a27, c27, rfl, rfl⟩
    simp only [Nat.zero_add, List.nil_append]
    refine l_step (s_q rfl wn (q_build (cs := encConf (⟨⟨a27, c.Voters.xs, c27⟩, ⟨none, [], 0⟩⟩ : Conf)) zc_60 pl_60 rfl rfl) ?_)
    refine l_step (s_s rfl wn (s_allocz (cs := encConf zConf) (by kernel_rfl)) ?_)
    rintro _ _ ⟨b5, rfl, rfl⟩
    refine l_step (s_s0 wn (s_storep (ws := encConf (⟨⟨a27, c.Voters.xs, c27⟩, ⟨none, [], 0⟩⟩ : Conf)) (cs := encConf zConf) (cs' := encConf (⟨⟨a27, c.Voters.xs, c27⟩, ⟨none, [], 0⟩⟩ : Conf)) rfl rfl rfl sz_60 (oneConf _) (by simp [encConf, encConf]) rfl (by repeat (first | exact Pick.here | apply Pick.there))) ?_)
    rintro _ _ ⟨rfl, rfl⟩
    refine l_nil ?_
    refine k_then_n ?_
    refine c_seq ?_
    refine c_region ?_
    refine l_step (s_q rfl wn (q_loadpa (vs := encConf (⟨⟨a27, c.Voters.xs, c27⟩, ⟨none, [], 0⟩⟩ : Conf)) ag_60 rfl (by repeat (first | exact Pick.here | apply Pick.there)) rfl) ?_)
    refine l_step (s_fnb rfl wn Try.func27 rfl (by kernel_rfl) rfl (by repeat (first | exact Sel.nil | exact Pick.here | apply Sel.cons | apply Pick.there)) (fun ρ' hL => V.newPoll_spec (⟨⟨a27, c.Voters.xs, c27⟩, ⟨none, [], 0⟩⟩ : Conf) ρ' (show c.Voters.xs.length ≤ 1000000 from by omega) (by first | exact hL.ro (by assumption) | exact hL.row (by repeat (first | exact Pick.here | apply Pick.there)) | assumption)) ?_)
    rintro _ _ ⟨bP, qP, hqn, rfl, rfl⟩
    try simp only [List.cons_append, List.nil_append]
    have hqn : qP.n = c.Voters.xs.length := hqn
    refine l_step (s_q rfl wn (q_assign rfl) ?_)
    refine l_nil ?_
    refine k_then_n ?_
    refine c_seq ?_
    refine c_seq ?_
    refine c_region ?_
    refine l_step (s_q rfl wn (q_move rfl) ?_)
    refine l_step (s_q rfl wn (by first | exact q_eqlp rfl rfl Try.underlying71 | exact q_eqlp0 rfl rfl Try.underlying71) ?_)
    refine l_nil ?_
    refine k_then_n ?_
    refine c_sure false rfl (by rfl) ?_
    simp only [Bool.false_eq_true, if_true, if_false]
    refine c_skip ?_
    refine k_then_n ?_
    refine c_seq ?_
    refine c_seq ?_
    refine c_region ?_
    refine l_step (s_q rfl wn (q_assign rfl) ?_)
    refine l_nil ?_
    refine k_then_n ?_
    refine c_block ?_
    refine Tr.env (σ' := [(1, _), (2, _), (4, _), (5, _), (6, _), (7, _)]) (.cons rfl rfl (.cons rfl rfl (.cons rfl rfl (.cons rfl rfl (.cons rfl rfl (.cons rfl rfl (.nil _))))))) ?_
    refine t_loop (ι := Lp (Nat × List Int)) (fun u => u.d.1 ≤ c.Voters.xs.length ∧ u.d.2.length = c.Voters.xs.length) (fun u => c.Voters.xs.length - u.d.1) (fun u => [(1, .slice l_a l_n l_c), (2, .pointer (some ⟨b2, 0, none⟩)), (4, .bool false), (5, .pointer (some ⟨b5, 0, none⟩)), (6, .pointer (some ⟨bP, 0, none⟩)), (7, .int .i64 (u.d.1 : Int))]) (fun u => .pts bP (encPoll (⟨⟨qP.a, qP.n, qP.c⟩, (some qP.bs), (some qP.by_)⟩ : Poll)) 113 :: .row 3 1 qP.a qP.n qP.c (c.Voters.xs.flatMap encI) :: MP (Value.int .i64) Value.bool qP.bs ([] : SM) :: MP (Value.int .i64) Value.bool qP.by_ ([] : SM) :: .pts b5 (encConf (⟨⟨a27, c.Voters.xs, c27⟩, ⟨none, [], 0⟩⟩ : Conf)) 60 :: .row 3 1 a27 c.Voters.xs.length c27 (u.d.2.flatMap encI) :: .pts b2 (encConf c) 60 :: Δ) (⟨(0, c.Voters.xs), none, 0, none, 0, none, 0⟩ : Lp _) ⟨Nat.zero_le _, rfl⟩ ?_ ?_ ?_
    · exact .cons rfl (by first | rfl | exact inte (by omega) | (simp; done) | (simp <;> omega) | simp [*]) (.cons rfl (by first | rfl | exact inte (by omega) | (simp; done) | (simp <;> omega) | simp [*]) (.cons rfl (by first | rfl | exact inte (by omega) | (simp; done) | (simp <;> omega) | simp [*]) (.cons rfl (by first | rfl | exact inte (by omega) | (simp; done) | (simp <;> omega) | simp [*]) (.cons rfl (by first | rfl | exact inte (by omega) | (simp; done) | (simp <;> omega) | simp [*]) (.cons rfl (by first | rfl | exact inte (by omega) | (simp; done) | (simp <;> omega) | simp [*]) (.nil _))))))
    · exact (by repeat (first | exact Ent.nil _ | exact Ent.refl _ | (refine Ent.pick (by repeat (first | exact Pick.here | apply Pick.there)) ?_) | refine Ent.skip ?_))
    intro u hu
    obtain ⟨hu1, hu2⟩ := hu
    refine c_seq ?_
    refine c_seq ?_
    refine c_region ?_
    refine l_step (s_q rfl wn (q_move rfl) ?_)
    refine l_step (s_q rfl wn (q_fieldp rfl fo_60_0) ?_)
    refine l_step (s_q rfl wn (q_loadp (v := .slice a27 c.Voters.xs.length c27) sc_22 rfl (by repeat (first | exact Pick.here | apply Pick.there)) rfl) ?_)
    refine l_step (s_q rfl wn (q_len Try.underlying22 rfl) ?_)
    refine l_step (s_q rfl wn (q_lss rfl rfl) ?_)
    refine l_nil ?_
    refine k_then_n ?_
    refine c_cond rfl (fun h2 => ?_) (fun h2 => ?_)
    · try simp only [Bool.and_eq_true, Bool.or_eq_true, Bool.not_eq_true', Bool.and_eq_false_iff, Bool.or_eq_false_iff, Bool.not_eq_false', decide_eq_true_eq, decide_eq_false_iff_not, Bool.not_eq_eq_eq_not, Bool.not_true, Bool.not_false, Bool.not_eq_true, Bool.not_eq_false, beq_iff_eq, bne_iff_ne, ne_eq, Decidable.not_not] at h2
      refine c_skip ?_
      refine k_then_n ?_
      refine c_seq ?_
      refine c_block ?_
      refine c_region ?_
      refine l_step (s_q rfl wn (q_fieldp rfl fo_60_0) ?_)
      refine l_step (s_q rfl wn (q_loadp (v := .slice a27 c.Voters.xs.length c27) sc_22 rfl (by repeat (first | exact Pick.here | apply Pick.there)) rfl) ?_)
      refine l_step (s_q rfl wn (q_move rfl) ?_)
      refine l_step (s_q rfl wn (q_indexe u.d.1 Try.underlying22 sz_3 rfl rfl (rd_row (by repeat (first | exact Pick.here | apply Pick.there))) (by decide) rfl (by first | assumption | omega | (simp only [List.length_cons, List.length_nil]; omega))) ?_)
      refine l_step (s_s0 wn (s_storee (ws := [.int .i64 (-7)]) (enc := encI) (xs := u.d.2) (j := u.d.1) (off := 0) (-7) rfl rfl rfl sz_3 (by simp) (by simp [Value.oneCell', strB, ptV, SL.v]) (by repeat (first | exact Pick.here | apply Pick.there)) (fun _ => rfl) (by first | assumption | omega | (simp only [List.length_cons, List.length_nil]; omega)) (by simp) (by first | rfl | simp [encI])) ?_)
      rintro _ _ ⟨rfl, rfl⟩
      refine l_nil ?_
      refine k_blk_n ?_
      refine k_then_n ?_
      refine c_region ?_
      refine l_step (s_q rfl wn (q_move rfl) ?_)
      refine l_step (s_q rfl wn (q_add rfl rfl (by omega) (by omega)) ?_)
      refine l_step (s_q rfl wn (q_assign rfl) ?_)
      refine l_nil ?_
      refine k_then_n ?_
      exact t_next (⟨(u.d.1 + 1, u.d.2.set u.d.1 (-7)), none, 0, none, 0, none, 0⟩ : Lp _) ⟨⟨by simp only []; omega, by simp only [List.length_set]; exact hu2⟩, by simp only []; omega⟩ (.cons rfl (by first | rfl | exact inte (by omega) | (simp; done) | (simp <;> omega) | simp [*]) (.cons rfl (by first | rfl | exact inte (by omega) | (simp; done) | (simp <;> omega) | simp [*]) (.cons rfl (by first | rfl | exact inte (by omega) | (simp; done) | (simp <;> omega) | simp [*]) (.cons rfl (by first | rfl | exact inte (by omega) | (simp; done) | (simp <;> omega) | simp [*]) (.cons rfl (by first | rfl | exact inte (by omega) | (simp; done) | (simp <;> omega) | simp [*]) (.cons rfl (by first | rfl | exact inte (by omega) | (simp; done) | (simp <;> omega) | simp [*]) (.nil _))))))) (by repeat (first | exact Ent.nil _ | exact Ent.refl _ | (refine Ent.pick (by repeat (first | exact Pick.here | apply Pick.there)) ?_) | refine Ent.skip ?_))
    · try simp only [Bool.and_eq_true, Bool.or_eq_true, Bool.not_eq_true', Bool.and_eq_false_iff, Bool.or_eq_false_iff, Bool.not_eq_false', decide_eq_true_eq, decide_eq_false_iff_not, Bool.not_eq_eq_eq_not, Bool.not_true, Bool.not_false, Bool.not_eq_true, Bool.not_eq_false, beq_iff_eq, bne_iff_ne, ne_eq, Decidable.not_not] at h2
      refine c_exit ?_
      refine k_then_x ?_
      refine k_then_x ?_
      refine k_blk_x ?_
      refine k_then_n ?_
      refine c_seq ?_
      refine c_region ?_
      refine l_step (s_q rfl wn (q_move rfl) ?_)
      refine l_step (s_fnr rfl wn Try.func28 rfl (by kernel_rfl) rfl (by repeat (first | exact Sel.nil | exact Pick.here | apply Sel.cons | apply Pick.there)) (fun ρ' hL => stands_spec bP (⟨c.Voters.xs, [], []⟩ : PD) qP ρ' (by first | assumption | omega)) ?_)
      refine l_step (s_q rfl wn (q_assign rfl) ?_)
      refine l_nil ?_
      refine k_then_n ?_
      refine c_seq ?_
      refine c_seq ?_
      refine c_region ?_
      refine l_step (s_q rfl wn (q_move rfl) ?_)
      refine l_step (s_q rfl wn (q_loadpa (vs := encConf c) ag_60 rfl (by repeat (first | exact Pick.here | apply Pick.there)) rfl) ?_)
      refine l_step (s_fnb rfl wn Try.func29 rfl (by kernel_rfl) rfl (by repeat (first | exact Sel.nil | exact Pick.here | apply Sel.cons | apply Pick.there)) (fun ρ' hL => U.rstands_spec c none 0 0 [] rfl ρ' (by omega) (hL.ro (by assumption)) (Ro.nil ρ' 2)) ?_)
      rintro _ _ ⟨rfl, rfl⟩
      try simp only [List.cons_append, List.nil_append]
      refine l_step (s_q rfl wn (q_neq rfl rfl) ?_)
      refine l_nil ?_
      refine k_then_n ?_
      refine c_sure false rfl (decide_eq_false (fun h => h (stands_eq c.Voters.xs []))) ?_
      simp only [Bool.false_eq_true, if_true, if_false]
      refine c_skip ?_
      refine k_then_n ?_
      refine c_seq ?_
      refine c_seq ?_
      refine c_region ?_
      refine l_step (s_q rfl wn (q_assign rfl) ?_)
      refine l_nil ?_
      refine k_then_n ?_
      refine c_block ?_
      refine Tr.env (σ' := [(1, _), (2, _), (6, _), (8, _), (9, _)]) (.cons rfl rfl (.cons rfl rfl (.cons rfl rfl (.cons rfl rfl (.cons rfl rfl (.nil _)))))) ?_
      refine t_loop (ι := Lp (Nat)) (fun x => x.d ≤ l_n) (fun x => l_n - x.d) (fun x => [(1, .slice l_a l_n l_c), (2, .pointer (some ⟨b2, 0, none⟩)), (6, .pointer (some ⟨bP, 0, none⟩)), (8, .int .i64 (rstandsF c.Voters.xs (l.take x.d))), (9, .int .i64 (x.d : Int))]) (fun x => .pts bP (encPoll (⟨⟨qP.a, qP.n, qP.c⟩, (some qP.bs), (some qP.by_)⟩ : Poll)) 113 :: .row 3 1 qP.a qP.n qP.c (c.Voters.xs.flatMap encI) :: MP (Value.int .i64) Value.bool qP.bs ((saidF (l.take x.d)).1) :: MP (Value.int .i64) Value.bool qP.by_ ((saidF (l.take x.d)).2) :: .pts b5 (encConf (⟨⟨a27, c.Voters.xs, c27⟩, ⟨none, [], 0⟩⟩ : Conf)) 60 :: .row 3 1 a27 c.Voters.xs.length c27 (u.d.2.flatMap encI) :: .pts b2 (encConf c) 60 :: Δ) (⟨0, none, 0, none, 0, none, 0⟩ : Lp _) (Nat.zero_le _) ?_ ?_ ?_
      · exact .cons rfl (by first | rfl | exact inte (by omega) | (simp; done) | (simp <;> omega) | simp [*]) (.cons rfl (by first | rfl | exact inte (by omega) | (simp; done) | (simp <;> omega) | simp [*]) (.cons rfl (by first | rfl | exact inte (by omega) | (simp; done) | (simp <;> omega) | simp [*]) (.cons rfl (inte (stands_eq c.Voters.xs [])) (.cons rfl (by first | rfl | exact inte (by omega) | (simp; done) | (simp <;> omega) | simp [*]) (.nil _)))))
      · exact (by repeat (first | exact Ent.nil _ | exact Ent.refl _ | (refine Ent.pick (by repeat (first | exact Pick.here | apply Pick.there)) ?_) | refine Ent.skip ?_))
      intro x hx
      refine c_seq ?_
      refine c_seq ?_
      refine c_region ?_
      refine l_step (s_q rfl wn (q_move rfl) ?_)
      refine l_step (s_q rfl wn (q_move rfl) ?_)
      refine l_step (s_q rfl wn (q_len Try.underlying70 rfl) ?_)
      refine l_step (s_q rfl wn (q_lss rfl rfl) ?_)
      refine l_nil ?_
      refine k_then_n ?_
      refine c_cond rfl (fun h4 => ?_) (fun h4 => ?_)
      · try simp only [Bool.and_eq_true, Bool.or_eq_true, Bool.not_eq_true', Bool.and_eq_false_iff, Bool.or_eq_false_iff, Bool.not_eq_false', decide_eq_true_eq, decide_eq_false_iff_not, Bool.not_eq_eq_eq_not, Bool.not_true, Bool.not_false, Bool.not_eq_true, Bool.not_eq_false, beq_iff_eq, bne_iff_ne, ne_eq, Decidable.not_not] at h4
        have hrk : Ro ρ 2 l_a ((x.d : Int) + 1).toNat l_c ((l.take ((x.d : Int) + 1).toNat).flatMap encSaid1) := by rw [← flat_take (sz := 2) (fun _ => rfl)]; exact Ro.take hrl _ (by omega)
        refine c_skip ?_
        refine k_then_n ?_
        refine c_seq ?_
        refine c_block ?_
        refine c_seq ?_
        refine c_draw (m := 13) (bs := #[false, false, false, false, false, false, false, false, false, false, false, false, false]) [.pts b5 (encConf (⟨⟨a27, c.Voters.xs, c27⟩, ⟨none, [], 0⟩⟩ : Conf)) 60, .row 3 1 a27 c.Voters.xs.length c27 (u.d.2.flatMap encI), .pts b2 (encConf c) 60] (by kernel_rfl) rfl (by kernel_rfl) ?_
        refine r_take (i := 0) (bs' := #[true, false, false, false, false, false, false, false, false, false, false, false, false]) rfl (by kernel_rfl) (by kernel_rfl) (by kernel_rfl) (fun _ _ _ h => h) rfl wn (q_move rfl) (Hp.le_refl _) (by repeat (first | exact Ent.nil _ | exact Ent.refl _ | (refine Ent.pick (by repeat (first | exact Pick.here | apply Pick.there)) ?_) | refine Ent.skip ?_)) (by kernel_rfl) ?_
        refine r_take (i := 1) (bs' := #[true, true, false, false, false, false, false, false, false, false, false, false, false]) rfl (by kernel_rfl) (by kernel_rfl) (by kernel_rfl) (fun _ _ _ h => h) rfl wn (q_move rfl) (Hp.le_refl _) (by repeat (first | exact Ent.nil _ | exact Ent.refl _ | (refine Ent.pick (by repeat (first | exact Pick.here | apply Pick.there)) ?_) | refine Ent.skip ?_)) (by kernel_rfl) ?_
        refine r_take (i := 2) (bs' := #[true, true, true, false, false, false, false, false, false, false, false, false, false]) rfl (by kernel_rfl) (by kernel_rfl) (by kernel_rfl) (fun _ _ _ h => h) rfl wn (q_move rfl) (Hp.le_refl _) (by repeat (first | exact Ent.nil _ | exact Ent.refl _ | (refine Ent.pick (by repeat (first | exact Pick.here | apply Pick.there)) ?_) | refine Ent.skip ?_)) (by kernel_rfl) ?_
        refine r_take (i := 3) (bs' := #[true, true, true, true, false, false, false, false, false, false, false, false, false]) rfl (by kernel_rfl) (by kernel_rfl) (by kernel_rfl) (fun _ _ _ h => h) rfl wn (q_indexe x.d Try.underlying70 sz_77 rfl rfl (by first | assumption | exact rd_ro (by assumption) | exact rd_row (by repeat (first | exact Pick.here | apply Pick.there))) (by decide) rfl (by first | assumption | omega | (simp only [List.length_cons, List.length_nil]; omega))) (Hp.le_refl _) (by repeat (first | exact Ent.nil _ | exact Ent.refl _ | (refine Ent.pick (by repeat (first | exact Pick.here | apply Pick.there)) ?_) | refine Ent.skip ?_)) (by kernel_rfl) ?_
        refine r_take (i := 4) (bs' := #[true, true, true, true, true, false, false, false, false, false, false, false, false]) rfl (by kernel_rfl) (by kernel_rfl) (by kernel_rfl) (fun _ _ _ h => h) rfl wn (q_fielde rfl fo_77_0) (Hp.le_refl _) (by repeat (first | exact Ent.nil _ | exact Ent.refl _ | (refine Ent.pick (by repeat (first | exact Pick.here | apply Pick.there)) ?_) | refine Ent.skip ?_)) (by kernel_rfl) ?_
        refine r_take (i := 5) (bs' := #[true, true, true, true, true, true, false, false, false, false, false, false, false]) rfl (by kernel_rfl) (by kernel_rfl) (by kernel_rfl) (fun _ _ _ h => h) rfl wn (q_loade (enc := encSaid1) (xs := l) (j := x.d) (off := 0) sc_4 rfl (by first | assumption | exact rd_ro (by assumption) | exact rd_row (by repeat (first | exact Pick.here | apply Pick.there))) (fun _ => rfl) (by first | assumption | omega | (simp only [List.length_cons, List.length_nil]; omega)) (by decide) rfl) (Hp.le_refl _) (by repeat (first | exact Ent.nil _ | exact Ent.refl _ | (refine Ent.pick (by repeat (first | exact Pick.here | apply Pick.there)) ?_) | refine Ent.skip ?_)) (by kernel_rfl) ?_
        refine r_take (i := 6) (bs' := #[true, true, true, true, true, true, true, false, false, false, false, false, false]) rfl (by kernel_rfl) (by kernel_rfl) (by kernel_rfl) (fun _ _ _ h => h) rfl wn (q_move rfl) (Hp.le_refl _) (by repeat (first | exact Ent.nil _ | exact Ent.refl _ | (refine Ent.pick (by repeat (first | exact Pick.here | apply Pick.there)) ?_) | refine Ent.skip ?_)) (by kernel_rfl) ?_
        refine r_take (i := 7) (bs' := #[true, true, true, true, true, true, true, true, false, false, false, false, false]) rfl (by kernel_rfl) (by kernel_rfl) (by kernel_rfl) (fun _ _ _ h => h) rfl wn (q_move rfl) (Hp.le_refl _) (by repeat (first | exact Ent.nil _ | exact Ent.refl _ | (refine Ent.pick (by repeat (first | exact Pick.here | apply Pick.there)) ?_) | refine Ent.skip ?_)) (by kernel_rfl) ?_
        refine r_take (i := 8) (bs' := #[true, true, true, true, true, true, true, true, true, false, false, false, false]) rfl (by kernel_rfl) (by kernel_rfl) (by kernel_rfl) (fun _ _ _ h => h) rfl wn (q_indexe x.d Try.underlying70 sz_77 rfl rfl (by first | assumption | exact rd_ro (by assumption) | exact rd_row (by repeat (first | exact Pick.here | apply Pick.there))) (by decide) rfl (by first | assumption | omega | (simp only [List.length_cons, List.length_nil]; omega))) (Hp.le_refl _) (by repeat (first | exact Ent.nil _ | exact Ent.refl _ | (refine Ent.pick (by repeat (first | exact Pick.here | apply Pick.there)) ?_) | refine Ent.skip ?_)) (by kernel_rfl) ?_
        refine r_take (i := 9) (bs' := #[true, true, true, true, true, true, true, true, true, true, false, false, false]) rfl (by kernel_rfl) (by kernel_rfl) (by kernel_rfl) (fun _ _ _ h => h) rfl wn (q_fielde rfl fo_77_1) (Hp.le_refl _) (by repeat (first | exact Ent.nil _ | exact Ent.refl _ | (refine Ent.pick (by repeat (first | exact Pick.here | apply Pick.there)) ?_) | refine Ent.skip ?_)) (by kernel_rfl) ?_
        refine r_take (i := 10) (bs' := #[true, true, true, true, true, true, true, true, true, true, true, false, false]) rfl (by kernel_rfl) (by kernel_rfl) (by kernel_rfl) (fun _ _ _ h => h) rfl wn (q_loade (enc := encSaid1) (xs := l) (j := x.d) (off := 1) sc_3 rfl (by first | assumption | exact rd_ro (by assumption) | exact rd_row (by repeat (first | exact Pick.here | apply Pick.there))) (fun _ => rfl) (by first | assumption | omega | (simp only [List.length_cons, List.length_nil]; omega)) (by decide) rfl) (Hp.le_refl _) (by repeat (first | exact Ent.nil _ | exact Ent.refl _ | (refine Ent.pick (by repeat (first | exact Pick.here | apply Pick.there)) ?_) | refine Ent.skip ?_)) (by kernel_rfl) ?_
        refine r_one (i := 11) (bs' := #[true, true, true, true, true, true, true, true, true, true, true, true, false]) (by kernel_rfl) (by kernel_rfl) ?_
        refine o_step rfl (s_s rfl wn (s_buildSlice (cs := ([(l.getD x.d default).ID] : List Int).flatMap encI) Try.underlying22 eo_3 rfl rfl rfl rfl (by decide) (by decide)) ?_)
        rintro _ _ ⟨b67, rfl, rfl⟩
        refine r_cont (Hp.le_refl _) (by repeat (first | exact Ent.nil _ | exact Ent.refl _ | (refine Ent.pick (by repeat (first | exact Pick.here | apply Pick.there)) ?_) | refine Ent.skip ?_)) ?_
        refine r_one (i := 12) (bs' := #[true, true, true, true, true, true, true, true, true, true, true, true, true]) (by kernel_rfl) (by kernel_rfl) ?_
        refine o_step rfl (s_fnb rfl wn Try.func30 rfl (by kernel_rfl) rfl (by repeat (first | exact Sel.nil | exact Pick.here | apply Sel.cons | apply Pick.there)) (fun ρ' hL => V.say_spec bP (⟨c.Voters.xs, (saidF (l.take x.d)).1, (saidF (l.take x.d)).2⟩ : PD) qP ((l.getD x.d default).Yes) (some ⟨b67, 0, none⟩) 1 1 [(l.getD x.d default).ID] rfl ρ' (by first | exact hL.ro (by assumption) | exact hL.row (by repeat (first | exact Pick.here | apply Pick.there)) | assumption)) ?_)
        rintro _ _ ⟨rfl, rfl⟩
        try simp only [List.cons_append, List.nil_append]
        rw [poll_say c.Voters.xs l x.d (by omega)]
        refine r_cont (Hp.le_refl _) (by repeat (first | exact Ent.nil _ | exact Ent.refl _ | (refine Ent.pick (by repeat (first | exact Pick.here | apply Pick.there)) ?_) | refine Ent.skip ?_)) ?_
        refine r_done (by kernel_rfl) ?_
        refine k_then_n ?_
        refine c_seq ?_
        refine c_region ?_
        refine l_step (s_q rfl wn (q_move rfl) ?_)
        refine l_step (s_fnr rfl wn Try.func28 rfl (by kernel_rfl) rfl (by repeat (first | exact Sel.nil | exact Pick.here | apply Sel.cons | apply Pick.there)) (fun ρ' hL => stands_spec bP (⟨c.Voters.xs, (saidF (l.take (x.d + 1))).1, (saidF (l.take (x.d + 1))).2⟩ : PD) qP ρ' (by first | assumption | omega)) ?_)
        refine l_step (s_q rfl wn (q_assign rfl) ?_)
        refine l_nil ?_
        refine k_then_n ?_
        refine c_seq ?_
        refine c_seq ?_
        refine c_draw (m := 17) (bs := #[false, false, false, false, false, false, false, false, false, false, false, false, false, false, false, false, false]) [.row 3 1 (some ⟨b67, 0, none⟩) 1 1 ([(l.getD x.d default).ID].flatMap encI), .pts bP (encPoll (⟨⟨qP.a, qP.n, qP.c⟩, (some qP.bs), (some qP.by_)⟩ : Poll)) 113, .row 3 1 qP.a qP.n qP.c (c.Voters.xs.flatMap encI), MP (Value.int .i64) Value.bool qP.bs ((saidF (l.take (x.d + 1))).1), MP (Value.int .i64) Value.bool qP.by_ ((saidF (l.take (x.d + 1))).2), .pts b5 (encConf (⟨⟨a27, c.Voters.xs, c27⟩, ⟨none, [], 0⟩⟩ : Conf)) 60, .row 3 1 a27 c.Voters.xs.length c27 (u.d.2.flatMap encI), .pts b2 (encConf c) 60] (by kernel_rfl) rfl (by kernel_rfl) ?_
        refine r_take (i := 0) (bs' := #[true, false, false, false, false, false, false, false, false, false, false, false, false, false, false, false, false]) rfl (by kernel_rfl) (by kernel_rfl) (by kernel_rfl) (fun _ _ _ h => h) rfl wn (q_move rfl) (Hp.le_refl _) (by repeat (first | exact Ent.nil _ | exact Ent.refl _ | (refine Ent.pick (by repeat (first | exact Pick.here | apply Pick.there)) ?_) | refine Ent.skip ?_)) (by kernel_rfl) ?_
        refine r_take (i := 1) (bs' := #[true, true, false, false, false, false, false, false, false, false, false, false, false, false, false, false, false]) rfl (by kernel_rfl) (by kernel_rfl) (by kernel_rfl) (fun _ _ _ h => h) rfl wn (q_loadpa (vs := encConf c) ag_60 rfl (by repeat (first | exact Pick.here | apply Pick.there)) rfl) (Hp.le_refl _) (by repeat (first | exact Ent.nil _ | exact Ent.refl _ | (refine Ent.pick (by repeat (first | exact Pick.here | apply Pick.there)) ?_) | refine Ent.skip ?_)) (by kernel_rfl) ?_
        refine r_take (i := 2) (bs' := #[true, true, true, false, false, false, false, false, false, false, false, false, false, false, false, false, false]) rfl (by kernel_rfl) (by kernel_rfl) (by kernel_rfl) (fun _ _ _ h => h) rfl wn (q_move rfl) (Hp.le_refl _) (by repeat (first | exact Ent.nil _ | exact Ent.refl _ | (refine Ent.pick (by repeat (first | exact Pick.here | apply Pick.there)) ?_) | refine Ent.skip ?_)) (by kernel_rfl) ?_
        refine r_take (i := 3) (bs' := #[true, true, true, true, false, false, false, false, false, false, false, false, false, false, false, false, false]) rfl (by kernel_rfl) (by kernel_rfl) (by kernel_rfl) (fun _ _ _ h => h) rfl wn (q_move rfl) (Hp.le_refl _) (by repeat (first | exact Ent.nil _ | exact Ent.refl _ | (refine Ent.pick (by repeat (first | exact Pick.here | apply Pick.there)) ?_) | refine Ent.skip ?_)) (by kernel_rfl) ?_
        refine r_take (i := 4) (bs' := #[true, true, true, true, true, false, false, false, false, false, false, false, false, false, false, false, false]) rfl (by kernel_rfl) (by kernel_rfl) (by kernel_rfl) (fun _ _ _ h => h) rfl wn (q_add rfl rfl (by omega) (by omega)) (Hp.le_refl _) (by repeat (first | exact Ent.nil _ | exact Ent.refl _ | (refine Ent.pick (by repeat (first | exact Pick.here | apply Pick.there)) ?_) | refine Ent.skip ?_)) (by kernel_rfl) ?_
        refine r_take (i := 5) (bs' := #[true, true, true, true, true, true, false, false, false, false, false, false, false, false, false, false, false]) rfl (by kernel_rfl) (by kernel_rfl) (by kernel_rfl) (fun _ _ _ h => h) rfl wn (q_cut_hi Try.underlying70 sz_77 rfl rfl (by omega) (by omega)) (Hp.le_refl _) (by repeat (first | exact Ent.nil _ | exact Ent.refl _ | (refine Ent.pick (by repeat (first | exact Pick.here | apply Pick.there)) ?_) | refine Ent.skip ?_)) (by kernel_rfl) ?_
        refine r_one (i := 6) (bs' := #[true, true, true, true, true, true, true, false, false, false, false, false, false, false, false, false, false]) (by kernel_rfl) (by kernel_rfl) ?_
        refine o_step rfl (s_fnq rfl wn Try.func29 rfl (by kernel_rfl) rfl (fun ρ' hL => rstands_spec c l_a ((((x.d : Int) + 1)).toNat) l_c (l.take (((x.d : Int) + 1)).toNat) (by first | rfl | assumption | (simp; done) | (simp <;> omega) | omega) ρ' (by first | assumption | omega) (by first | exact hL.ro (by assumption) | exact hL.row (by repeat (first | exact Pick.here | apply Pick.there)) | assumption) (by first | exact hL.ro (by assumption) | exact hL.row (by repeat (first | exact Pick.here | apply Pick.there)) | assumption)) ?_)
        refine r_cont (Hp.le_refl _) (by repeat (first | exact Ent.nil _ | exact Ent.refl _ | (refine Ent.pick (by repeat (first | exact Pick.here | apply Pick.there)) ?_) | refine Ent.skip ?_)) ?_
        refine r_take (i := 7) (bs' := #[true, true, true, true, true, true, true, true, false, false, false, false, false, false, false, false, false]) rfl (by kernel_rfl) (by kernel_rfl) (by kernel_rfl) (fun _ _ _ h => h) rfl wn (q_neq rfl rfl) (Hp.le_refl _) (by repeat (first | exact Ent.nil _ | exact Ent.refl _ | (refine Ent.pick (by repeat (first | exact Pick.here | apply Pick.there)) ?_) | refine Ent.skip ?_)) (by kernel_rfl) ?_
        refine r_take (i := 8) (bs' := #[true, true, true, true, true, true, true, true, true, false, false, false, false, false, false, false, false]) rfl (by kernel_rfl) (by kernel_rfl) (by kernel_rfl) (fun _ _ _ h => h) rfl wn (q_move rfl) (Hp.le_refl _) (by repeat (first | exact Ent.nil _ | exact Ent.refl _ | (refine Ent.pick (by repeat (first | exact Pick.here | apply Pick.there)) ?_) | refine Ent.skip ?_)) (by kernel_rfl) ?_
        refine r_takeg (i := 9) (b := (!(decide ((standsF (⟨c.Voters.xs, (saidF (l.take (x.d + 1))).1, (saidF (l.take (x.d + 1))).2⟩ : PD)) ≠ (rstandsF c.Voters.xs (l.take (((x.d : Int) + 1)).toNat)))))) (bs' := #[true, true, true, true, true, true, true, true, true, true, false, false, false, false, false, false, false]) rfl (by kernel_rfl) (by kernel_rfl) (by kernel_rfl) (fun _ _ _ h => h) rfl (ask_f rfl rfl) (fun hb => q_move rfl) (Hp.le_refl _) (by repeat (first | exact Ent.nil _ | exact Ent.refl _ | (refine Ent.pick (by repeat (first | exact Pick.here | apply Pick.there)) ?_) | refine Ent.skip ?_)) (by kernel_rfl) ?_
        refine r_takeg (i := 10) (b := (!(decide ((standsF (⟨c.Voters.xs, (saidF (l.take (x.d + 1))).1, (saidF (l.take (x.d + 1))).2⟩ : PD)) ≠ (rstandsF c.Voters.xs (l.take (((x.d : Int) + 1)).toNat)))))) (bs' := #[true, true, true, true, true, true, true, true, true, true, true, false, false, false, false, false, false]) rfl (by kernel_rfl) (by kernel_rfl) (by kernel_rfl) (fun _ _ _ h => h) rfl (ask_f rfl rfl) (fun hb => OpQ.env (.cons rfl (gd_t hb) (.nil _) : EnvLe [(80, .int .i64 (rstandsF c.Voters.xs (l.take x.d)))] _) (q_neq rfl rfl)) (Hp.le_refl _) (by repeat (first | exact Ent.nil _ | exact Ent.refl _ | (refine Ent.pick (by repeat (first | exact Pick.here | apply Pick.there)) ?_) | refine Ent.skip ?_)) (by kernel_rfl) ?_
        refine r_takeg (i := 11) (b := (!(decide ((standsF (⟨c.Voters.xs, (saidF (l.take (x.d + 1))).1, (saidF (l.take (x.d + 1))).2⟩ : PD)) ≠ (rstandsF c.Voters.xs (l.take (((x.d : Int) + 1)).toNat)))))) (bs' := #[true, true, true, true, true, true, true, true, true, true, true, true, false, false, false, false, false]) rfl (by kernel_rfl) (by kernel_rfl) (by kernel_rfl) (fun _ _ _ h => h) rfl (ask_f rfl rfl) (fun hb => OpQ.env (.cons rfl (gd_t hb) (.nil _) : EnvLe [(81, .bool (decide ((rstandsF c.Voters.xs (l.take x.d)) ≠ 0)))] _) (q_move rfl)) (Hp.le_refl _) (by repeat (first | exact Ent.nil _ | exact Ent.refl _ | (refine Ent.pick (by repeat (first | exact Pick.here | apply Pick.there)) ?_) | refine Ent.skip ?_)) (by kernel_rfl) ?_
        refine r_takeg (i := 12) (b := ((!(decide ((standsF (⟨c.Voters.xs, (saidF (l.take (x.d + 1))).1, (saidF (l.take (x.d + 1))).2⟩ : PD)) ≠ (rstandsF c.Voters.xs (l.take (((x.d : Int) + 1)).toNat))))) && (decide ((rstandsF c.Voters.xs (l.take x.d)) ≠ 0)))) (bs' := #[true, true, true, true, true, true, true, true, true, true, true, true, true, false, false, false, false]) rfl (by kernel_rfl) (by kernel_rfl) (by kernel_rfl) (fun _ _ _ h => h) rfl (ask_gt rfl rfl) (fun hb => q_move rfl) (Hp.le_refl _) (by repeat (first | exact Ent.nil _ | exact Ent.refl _ | (refine Ent.pick (by repeat (first | exact Pick.here | apply Pick.there)) ?_) | refine Ent.skip ?_)) (by kernel_rfl) ?_
        refine r_takeg (i := 13) (b := ((!(decide ((standsF (⟨c.Voters.xs, (saidF (l.take (x.d + 1))).1, (saidF (l.take (x.d + 1))).2⟩ : PD)) ≠ (rstandsF c.Voters.xs (l.take (((x.d : Int) + 1)).toNat))))) && (decide ((rstandsF c.Voters.xs (l.take x.d)) ≠ 0)))) (bs' := #[true, true, true, true, true, true, true, true, true, true, true, true, true, true, false, false, false]) rfl (by kernel_rfl) (by kernel_rfl) (by kernel_rfl) (fun _ _ _ h => h) rfl (ask_gt rfl rfl) (fun hb => q_move rfl) (Hp.le_refl _) (by repeat (first | exact Ent.nil _ | exact Ent.refl _ | (refine Ent.pick (by repeat (first | exact Pick.here | apply Pick.there)) ?_) | refine Ent.skip ?_)) (by kernel_rfl) ?_
        refine r_takeg (i := 14) (b := ((!(decide ((standsF (⟨c.Voters.xs, (saidF (l.take (x.d + 1))).1, (saidF (l.take (x.d + 1))).2⟩ : PD)) ≠ (rstandsF c.Voters.xs (l.take (((x.d : Int) + 1)).toNat))))) && (decide ((rstandsF c.Voters.xs (l.take x.d)) ≠ 0)))) (bs' := #[true, true, true, true, true, true, true, true, true, true, true, true, true, true, true, false, false]) rfl (by kernel_rfl) (by kernel_rfl) (by kernel_rfl) (fun _ _ _ h => h) rfl (ask_gt rfl rfl) (fun hb => OpQ.env (.cons rfl (gd_t hb) (.cons rfl (gd_t hb) (.nil _)) : EnvLe [(83, .int .i64 (standsF (⟨c.Voters.xs, (saidF (l.take (x.d + 1))).1, (saidF (l.take (x.d + 1))).2⟩ : PD))), (84, .int .i64 (rstandsF c.Voters.xs (l.take x.d)))] _) (q_neq rfl rfl)) (Hp.le_refl _) (by repeat (first | exact Ent.nil _ | exact Ent.refl _ | (refine Ent.pick (by repeat (first | exact Pick.here | apply Pick.there)) ?_) | refine Ent.skip ?_)) (by kernel_rfl) ?_
        refine r_takeg (i := 15) (b := (!(decide ((standsF (⟨c.Voters.xs, (saidF (l.take (x.d + 1))).1, (saidF (l.take (x.d + 1))).2⟩ : PD)) ≠ (rstandsF c.Voters.xs (l.take (((x.d : Int) + 1)).toNat)))))) (bs' := #[true, true, true, true, true, true, true, true, true, true, true, true, true, true, true, true, false]) rfl (by kernel_rfl) (by kernel_rfl) (by kernel_rfl) (fun _ _ _ h => h) rfl (ask_f rfl rfl) (fun hb => OpQ.env (.cons rfl (gd_t hb) (.cons rfl rfl (.nil _)) : EnvLe [(82, .bool (decide ((rstandsF c.Voters.xs (l.take x.d)) ≠ 0))), (85, gd ((!(decide ((standsF (⟨c.Voters.xs, (saidF (l.take (x.d + 1))).1, (saidF (l.take (x.d + 1))).2⟩ : PD)) ≠ (rstandsF c.Voters.xs (l.take (((x.d : Int) + 1)).toNat))))) && (decide ((rstandsF c.Voters.xs (l.take x.d)) ≠ 0))) (.bool (decide ((standsF (⟨c.Voters.xs, (saidF (l.take (x.d + 1))).1, (saidF (l.take (x.d + 1))).2⟩ : PD)) ≠ (rstandsF c.Voters.xs (l.take x.d))))))] _) (q_pick_and rfl rfl rfl (fun h => by simp_all))) (Hp.le_refl _) (by repeat (first | exact Ent.nil _ | exact Ent.refl _ | (refine Ent.pick (by repeat (first | exact Pick.here | apply Pick.there)) ?_) | refine Ent.skip ?_)) (by kernel_rfl) ?_
        refine r_take (i := 16) (bs' := #[true, true, true, true, true, true, true, true, true, true, true, true, true, true, true, true, true]) rfl (by kernel_rfl) (by kernel_rfl) (by kernel_rfl) (fun _ _ _ h => h) rfl wn (q_pick_or rfl rfl rfl (fun h => by first | (rw [h]; rfl) | exact congrArg not h)) (Hp.le_refl _) (by repeat (first | exact Ent.nil _ | exact Ent.refl _ | (refine Ent.pick (by repeat (first | exact Pick.here | apply Pick.there)) ?_) | refine Ent.skip ?_)) (by kernel_rfl) ?_
        refine r_done (by kernel_rfl) ?_
        refine k_then_n ?_
        refine c_sure false rfl (by rw [stands_eq, show ((x.d : Int) + 1).toNat = x.d + 1 from by omega]; rcases polls_at (vs := c.Voters.xs) (l := l) (k := x.d) (by omega) with h | h <;> simp [h]) ?_
        simp only [Bool.false_eq_true, if_true, if_false]
        refine c_skip ?_
        refine k_then_n ?_
        refine c_region ?_
        refine l_step (s_q rfl wn (q_move rfl) ?_)
        refine l_step (s_q rfl wn (q_assign rfl) ?_)
        refine l_nil ?_
        refine k_blk_n ?_
        refine k_then_n ?_
        refine c_region ?_
        refine l_step (s_q rfl wn (q_move rfl) ?_)
        refine l_step (s_q rfl wn (q_add rfl rfl (by omega) (by omega)) ?_)
        refine l_step (s_q rfl wn (q_assign rfl) ?_)
        refine l_nil ?_
        refine k_then_n ?_
        exact t_next (⟨x.d + 1, none, 0, none, 0, none, 0⟩ : Lp _) ⟨by simp only []; omega, by simp only []; omega⟩ (.cons rfl (by first | rfl | exact inte (by omega) | (simp; done) | (simp <;> omega) | simp [*]) (.cons rfl (by first | rfl | exact inte (by omega) | (simp; done) | (simp <;> omega) | simp [*]) (.cons rfl (by first | rfl | exact inte (by omega) | (simp; done) | (simp <;> omega) | simp [*]) (.cons rfl (inte (stands_eq c.Voters.xs _)) (.cons rfl (by first | rfl | exact inte (by omega) | (simp; done) | (simp <;> omega) | simp [*]) (.nil _)))))) (by repeat (first | exact Ent.nil _ | exact Ent.refl _ | (refine Ent.pick (by repeat (first | exact Pick.here | apply Pick.there)) ?_) | refine Ent.skip ?_))
      · try simp only [Bool.and_eq_true, Bool.or_eq_true, Bool.not_eq_true', Bool.and_eq_false_iff, Bool.or_eq_false_iff, Bool.not_eq_false', decide_eq_true_eq, decide_eq_false_iff_not, Bool.not_eq_eq_eq_not, Bool.not_true, Bool.not_false, Bool.not_eq_true, Bool.not_eq_false, beq_iff_eq, bne_iff_ne, ne_eq, Decidable.not_not] at h4
        refine c_exit ?_
        refine k_then_x ?_
        refine k_then_x ?_
        refine k_blk_x ?_
        refine k_then_n ?_
        refine c_seq ?_
        refine c_region ?_
        refine l_step (s_q rfl wn (q_assign rfl) ?_)
        refine l_nil ?_
        refine k_then_n ?_
        refine c_ret ?_
        exact t_ret [] rfl (.tmp rfl .nil) rfl (Hp.le_refl _) ⟨rfl, boole (by rfl), rfl⟩ (by (repeat refine Ent.skip ?_); exact Ent.refl _)
end Go.Tly.F

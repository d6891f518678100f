/-
  The track of package tally, walked.
-/
import Derived.Test.YteajafkmnhikoaaTlyS
import Derived.Test.YteajafkmnhikoaaTlyW
import Derived.Test.YteajafkmnhikoaaDspL
import Derived.Test.YteajafkmnhikoaaProg
set_option maxRecDepth 100000
set_option maxHeartbeats 4000000
set_option linter.unusedSimpArgs false
set_option linter.unusedVariables false
namespace Go.Tly.U
open Go Go.SL Go.Proofs Go.Tly Go.Dsp.L
attribute [local irreducible] Go.SL.Ent
theorem fo_60_0 : fieldOff Try.prog 60 0 = some (0, 22) := by kernel_rfl
theorem fo_77_0 : fieldOff Try.prog 77 0 = some (0, 4) := by kernel_rfl
theorem fo_77_1 : fieldOff Try.prog 77 1 = some (1, 3) := by kernel_rfl
theorem fo_88_0 : fieldOff Try.prog 88 0 = some (0, 3) := by kernel_rfl
theorem sc_22 : isScalar Try.prog 22 = true := by kernel_rfl
theorem sc_3 : isScalar Try.prog 3 = true := by kernel_rfl
theorem sc_4 : isScalar Try.prog 4 = true := by kernel_rfl
theorem sz_3 : sizeIs Try.prog 3 = some 1 := by kernel_rfl
theorem sz_77 : sizeIs Try.prog 77 = some 2 := by kernel_rfl
theorem sz_88 : sizeIs Try.prog 88 = some 3 := by kernel_rfl

theorem rstands_spec (c : Conf) (l_a : Option Addr) (l_n l_c : Nat) (l : List Said1) (hl_n : l.length = l_n) (ρ : Hp) (hl : c.Voters.xs.length ≤ 1000000) (hv : Ro ρ 1 c.Voters.a c.Voters.xs.length c.Voters.cap (c.Voters.xs.flatMap encI)) (hrl : Ro ρ 2 l_a l_n l_c (l.flatMap encSaid1)) : Spec0 Try.prog 29 #[.agg (encConf c).toArray, .slice l_a l_n l_c] ρ [] (fun v Γ' => v = .int .i64 (rstandsF c.Voters.xs l) ∧ Γ' = []) := by
  refine spec_of (n := 56) (vs := [_, _]) (σ := [(0, _), (1, _)]) Try.func29 rfl rfl rfl rfl fun E Δ => ?_
  rw [List.nil_append]
  have hrlb : l_n ≤ 9223372036854775807 := Nat.le_trans hrl.2.1 hrl.2.2.1
  refine c_seq ?_
  refine c_region ?_
  refine l_step (s_s rfl wn (s_box (cs := encConf c) rfl rfl) ?_)
  rintro _ _ ⟨b2, rfl, rfl⟩
  refine l_step (s_q rfl wn (q_assign rfl) ?_)
  refine l_nil ?_
  refine k_then_n ?_
  refine c_seq ?_
  refine c_region ?_
  refine l_step (s_q rfl wn (q_assign rfl) ?_)
  refine l_step (s_q rfl wn (q_assign rfl) ?_)
  refine l_nil ?_
  refine k_then_n ?_
  refine c_seq ?_
  refine c_seq ?_
  refine c_region ?_
  refine l_step (s_q rfl wn (q_assign rfl) ?_)
  refine l_nil ?_
  refine k_then_n ?_
  refine c_block ?_
  refine Tr.env (σ' := [(1, _), (2, _), (4, _), (5, _), (6, _), (7, _)]) (.cons rfl rfl (.cons rfl rfl (.cons rfl rfl (.cons rfl rfl (.cons rfl rfl (.cons rfl rfl (.nil _))))))) ?_
  refine t_loop (ι := Lp (Nat)) (fun x => x.d ≤ c.Voters.xs.length) (fun x => c.Voters.xs.length - x.d) (fun x => [(1, .slice l_a l_n l_c), (2, .pointer (some ⟨b2, 0, none⟩)), (4, .int .i64 0), (5, .int .i64 (((c.Voters.xs.take x.d).foldl (rsStep l) (0, 0)).1)), (6, .int .i64 (((c.Voters.xs.take x.d).foldl (rsStep l) (0, 0)).2)), (7, .int .i64 (x.d : Int))]) (fun x => .pts b2 (encConf c) 60 :: Δ) (⟨0, none, 0, none, 0, none, 0⟩ : Lp _) (Nat.zero_le _) ?_ ?_ ?_
  · exact .cons rfl (by first | rfl | exact inte (by omega) | (simp; done) | (simp <;> omega) | simp [*]) (.cons rfl (by first | rfl | exact inte (by omega) | (simp; done) | (simp <;> omega) | simp [*]) (.cons rfl (by first | rfl | exact inte (by omega) | (simp; done) | (simp <;> omega) | simp [*]) (.cons rfl (by first | rfl | exact inte (by omega) | (simp; done) | (simp <;> omega) | simp [*]) (.cons rfl (by first | rfl | exact inte (by omega) | (simp; done) | (simp <;> omega) | simp [*]) (.cons rfl (by first | rfl | exact inte (by omega) | (simp; done) | (simp <;> omega) | simp [*]) (.nil _))))))
  · exact (by repeat (first | exact Ent.nil _ | exact Ent.refl _ | (refine Ent.pick (by repeat (first | exact Pick.here | apply Pick.there)) ?_) | refine Ent.skip ?_))
  intro x hx
  have hst := rs_le l (c.Voters.xs.take x.d) (0, 0)
  rw [List.length_take] at hst
  simp only [] at hst
  refine c_seq ?_
  refine c_seq ?_
  refine c_region ?_
  refine l_step (s_q rfl wn (q_move rfl) ?_)
  refine l_step (s_q rfl wn (q_fieldp rfl fo_60_0) ?_)
  refine l_step (s_q rfl wn (q_loadp (v := .slice c.Voters.a c.Voters.xs.length c.Voters.cap) sc_22 rfl (by repeat (first | exact Pick.here | apply Pick.there)) rfl) ?_)
  refine l_step (s_q rfl wn (q_len Try.underlying22 rfl) ?_)
  refine l_step (s_q rfl wn (q_lss rfl rfl) ?_)
  refine l_nil ?_
  refine k_then_n ?_
  refine c_cond rfl (fun h0 => ?_) (fun h0 => ?_)
  · try simp only [Bool.and_eq_true, Bool.or_eq_true, Bool.not_eq_true', Bool.and_eq_false_iff, Bool.or_eq_false_iff, Bool.not_eq_false', decide_eq_true_eq, decide_eq_false_iff_not, Bool.not_eq_eq_eq_not, Bool.not_true, Bool.not_false, Bool.not_eq_true, Bool.not_eq_false, beq_iff_eq, bne_iff_ne, ne_eq, Decidable.not_not] at h0
    refine c_skip ?_
    refine k_then_n ?_
    refine c_seq ?_
    refine c_block ?_
    refine c_seq ?_
    refine c_region ?_
    refine l_step (s_q rfl wn (q_assign rfl) ?_)
    refine l_nil ?_
    refine k_then_n ?_
    refine c_block ?_
    refine Tr.env (σ' := [(1, _), (2, _), (4, _), (5, _), (6, _), (7, _), (8, _), (10, _), (11, _), (12, _), (13, _), (14, _)]) (.cons rfl rfl (.cons rfl rfl (.cons rfl rfl (.cons rfl rfl (.cons rfl rfl (.cons rfl rfl (.cons rfl rfl (.cons rfl rfl (.cons rfl rfl (.cons rfl rfl (.cons rfl rfl (.cons rfl rfl (.nil _))))))))))))) ?_
    refine t_loop (ι := Lp (Nat)) (fun y => y.d ≤ l_n ∧ (l.take y.d).find? (whoB (c.Voters.xs.getD x.d default)) = none) (fun y => l_n - y.d) (fun y => [(1, .slice l_a l_n l_c), (2, .pointer (some ⟨b2, 0, none⟩)), (4, .int .i64 0), (5, .int .i64 (((c.Voters.xs.take x.d).foldl (rsStep l) (0, 0)).1)), (6, .int .i64 (((c.Voters.xs.take x.d).foldl (rsStep l) (0, 0)).2)), (7, .int .i64 (x.d : Int)), (8, .int .i64 (y.d : Int)), (10, .int .i64 (x.d : Int)), (11, .pointer (some ⟨b2, 0, none⟩)), (12, .slice c.Voters.a c.Voters.xs.length c.Voters.cap), (13, .int .i64 (c.Voters.xs.length : Int)), (14, .bool (decide ((x.d : Int) < (c.Voters.xs.length : Int))))]) (fun y => .pts b2 (encConf c) 60 :: Δ) (⟨0, none, 0, none, 0, none, 0⟩ : Lp _) ⟨Nat.zero_le _, rfl⟩ ?_ ?_ ?_
    · exact .cons rfl (by first | rfl | exact inte (by omega) | (simp; done) | (simp <;> omega) | simp [*]) (.cons rfl (by first | rfl | exact inte (by omega) | (simp; done) | (simp <;> omega) | simp [*]) (.cons rfl (by first | rfl | exact inte (by omega) | (simp; done) | (simp <;> omega) | simp [*]) (.cons rfl (by first | rfl | exact inte (by omega) | (simp; done) | (simp <;> omega) | simp [*]) (.cons rfl (by first | rfl | exact inte (by omega) | (simp; done) | (simp <;> omega) | simp [*]) (.cons rfl (by first | rfl | exact inte (by omega) | (simp; done) | (simp <;> omega) | simp [*]) (.cons rfl (by first | rfl | exact inte (by omega) | (simp; done) | (simp <;> omega) | simp [*]) (.cons rfl (by first | rfl | exact inte (by omega) | (simp; done) | (simp <;> omega) | simp [*]) (.cons rfl (by first | rfl | exact inte (by omega) | (simp; done) | (simp <;> omega) | simp [*]) (.cons rfl (by first | rfl | exact inte (by omega) | (simp; done) | (simp <;> omega) | simp [*]) (.cons rfl (by first | rfl | exact inte (by omega) | (simp; done) | (simp <;> omega) | simp [*]) (.cons rfl (by first | rfl | exact inte (by omega) | (simp; done) | (simp <;> omega) | simp [*]) (.nil _))))))))))))
    · exact (by repeat (first | exact Ent.nil _ | exact Ent.refl _ | (refine Ent.pick (by repeat (first | exact Pick.here | apply Pick.there)) ?_) | refine Ent.skip ?_))
    intro y hy
    obtain ⟨hy1, hy2⟩ := hy
    refine c_seq ?_
    refine c_seq ?_
    refine c_region ?_
    refine l_step (s_q rfl wn (q_move rfl) ?_)
    refine l_step (s_q rfl wn (q_move rfl) ?_)
    refine l_step (s_q rfl wn (q_len Try.underlying70 rfl) ?_)
    refine l_step (s_q rfl wn (q_lss rfl rfl) ?_)
    refine l_nil ?_
    refine k_then_n ?_
    refine c_cond rfl (fun h1 => ?_) (fun h1 => ?_)
    · try simp only [Bool.and_eq_true, Bool.or_eq_true, Bool.not_eq_true', Bool.and_eq_false_iff, Bool.or_eq_false_iff, Bool.not_eq_false', decide_eq_true_eq, decide_eq_false_iff_not, Bool.not_eq_eq_eq_not, Bool.not_true, Bool.not_false, Bool.not_eq_true, Bool.not_eq_false, beq_iff_eq, bne_iff_ne, ne_eq, Decidable.not_not] at h1
      refine c_skip ?_
      refine k_then_n ?_
      refine c_seq ?_
      refine c_block ?_
      refine c_seq ?_
      refine c_seq ?_
      refine c_draw (m := 11) (bs := #[false, false, false, false, false, false, false, false, false, false, false]) [.pts b2 (encConf c) 60] (by kernel_rfl) rfl (by kernel_rfl) ?_
      refine r_take (i := 0) (bs' := #[true, false, false, false, false, false, false, false, false, false, false]) rfl (by kernel_rfl) (by kernel_rfl) (by kernel_rfl) (fun _ _ _ h => h) rfl wn (q_move rfl) (Hp.le_refl _) (by repeat (first | exact Ent.nil _ | exact Ent.refl _ | (refine Ent.pick (by repeat (first | exact Pick.here | apply Pick.there)) ?_) | refine Ent.skip ?_)) (by kernel_rfl) ?_
      refine r_take (i := 1) (bs' := #[true, true, false, false, false, false, false, false, false, false, false]) rfl (by kernel_rfl) (by kernel_rfl) (by kernel_rfl) (fun _ _ _ h => h) rfl wn (q_move rfl) (Hp.le_refl _) (by repeat (first | exact Ent.nil _ | exact Ent.refl _ | (refine Ent.pick (by repeat (first | exact Pick.here | apply Pick.there)) ?_) | refine Ent.skip ?_)) (by kernel_rfl) ?_
      refine r_take (i := 2) (bs' := #[true, true, true, false, false, false, false, false, false, false, false]) rfl (by kernel_rfl) (by kernel_rfl) (by kernel_rfl) (fun _ _ _ h => h) rfl wn (q_indexe y.d Try.underlying70 sz_77 rfl rfl (by first | assumption | exact rd_ro (by assumption) | exact rd_row (by repeat (first | exact Pick.here | apply Pick.there))) (by decide) rfl (by first | assumption | omega | (simp only [List.length_cons, List.length_nil]; omega))) (Hp.le_refl _) (by repeat (first | exact Ent.nil _ | exact Ent.refl _ | (refine Ent.pick (by repeat (first | exact Pick.here | apply Pick.there)) ?_) | refine Ent.skip ?_)) (by kernel_rfl) ?_
      refine r_take (i := 3) (bs' := #[true, true, true, true, false, false, false, false, false, false, false]) rfl (by kernel_rfl) (by kernel_rfl) (by kernel_rfl) (fun _ _ _ h => h) rfl wn (q_fielde rfl fo_77_1) (Hp.le_refl _) (by repeat (first | exact Ent.nil _ | exact Ent.refl _ | (refine Ent.pick (by repeat (first | exact Pick.here | apply Pick.there)) ?_) | refine Ent.skip ?_)) (by kernel_rfl) ?_
      refine r_take (i := 4) (bs' := #[true, true, true, true, true, false, false, false, false, false, false]) rfl (by kernel_rfl) (by kernel_rfl) (by kernel_rfl) (fun _ _ _ h => h) rfl wn (q_loade (enc := encSaid1) (xs := l) (j := y.d) (off := 1) sc_3 rfl (by first | assumption | exact rd_ro (by assumption) | exact rd_row (by repeat (first | exact Pick.here | apply Pick.there))) (fun _ => rfl) (by first | assumption | omega | (simp only [List.length_cons, List.length_nil]; omega)) (by decide) rfl) (Hp.le_refl _) (by repeat (first | exact Ent.nil _ | exact Ent.refl _ | (refine Ent.pick (by repeat (first | exact Pick.here | apply Pick.there)) ?_) | refine Ent.skip ?_)) (by kernel_rfl) ?_
      refine r_take (i := 5) (bs' := #[true, true, true, true, true, true, false, false, false, false, false]) rfl (by kernel_rfl) (by kernel_rfl) (by kernel_rfl) (fun _ _ _ h => h) rfl wn (q_fieldp rfl fo_60_0) (Hp.le_refl _) (by repeat (first | exact Ent.nil _ | exact Ent.refl _ | (refine Ent.pick (by repeat (first | exact Pick.here | apply Pick.there)) ?_) | refine Ent.skip ?_)) (by kernel_rfl) ?_
      refine r_take (i := 6) (bs' := #[true, true, true, true, true, true, true, false, false, false, false]) rfl (by kernel_rfl) (by kernel_rfl) (by kernel_rfl) (fun _ _ _ h => h) rfl wn (q_loadp (v := .slice c.Voters.a c.Voters.xs.length c.Voters.cap) sc_22 rfl (by repeat (first | exact Pick.here | apply Pick.there)) rfl) (Hp.le_refl _) (by repeat (first | exact Ent.nil _ | exact Ent.refl _ | (refine Ent.pick (by repeat (first | exact Pick.here | apply Pick.there)) ?_) | refine Ent.skip ?_)) (by kernel_rfl) ?_
      refine r_take (i := 7) (bs' := #[true, true, true, true, true, true, true, true, false, false, false]) rfl (by kernel_rfl) (by kernel_rfl) (by kernel_rfl) (fun _ _ _ h => h) rfl wn (q_move rfl) (Hp.le_refl _) (by repeat (first | exact Ent.nil _ | exact Ent.refl _ | (refine Ent.pick (by repeat (first | exact Pick.here | apply Pick.there)) ?_) | refine Ent.skip ?_)) (by kernel_rfl) ?_
      refine r_take (i := 8) (bs' := #[true, true, true, true, true, true, true, true, true, false, false]) rfl (by kernel_rfl) (by kernel_rfl) (by kernel_rfl) (fun _ _ _ h => h) rfl wn (q_indexe x.d Try.underlying22 sz_3 rfl rfl (by first | assumption | exact rd_ro (by assumption) | exact rd_row (by repeat (first | exact Pick.here | apply Pick.there))) (by decide) rfl (by first | assumption | omega | (simp only [List.length_cons, List.length_nil]; omega))) (Hp.le_refl _) (by repeat (first | exact Ent.nil _ | exact Ent.refl _ | (refine Ent.pick (by repeat (first | exact Pick.here | apply Pick.there)) ?_) | refine Ent.skip ?_)) (by kernel_rfl) ?_
      refine r_take (i := 9) (bs' := #[true, true, true, true, true, true, true, true, true, true, false]) rfl (by kernel_rfl) (by kernel_rfl) (by kernel_rfl) (fun _ _ _ h => h) rfl wn (q_loade (enc := encI) (xs := c.Voters.xs) (j := x.d) (off := 0) sc_3 rfl (by first | assumption | exact rd_ro (by assumption) | exact rd_row (by repeat (first | exact Pick.here | apply Pick.there))) (fun _ => rfl) (by first | assumption | omega | (simp only [List.length_cons, List.length_nil]; omega)) (by decide) rfl) (Hp.le_refl _) (by repeat (first | exact Ent.nil _ | exact Ent.refl _ | (refine Ent.pick (by repeat (first | exact Pick.here | apply Pick.there)) ?_) | refine Ent.skip ?_)) (by kernel_rfl) ?_
      refine r_take (i := 10) (bs' := #[true, true, true, true, true, true, true, true, true, true, true]) rfl (by kernel_rfl) (by kernel_rfl) (by kernel_rfl) (fun _ _ _ h => h) rfl wn (q_neq rfl rfl) (Hp.le_refl _) (by repeat (first | exact Ent.nil _ | exact Ent.refl _ | (refine Ent.pick (by repeat (first | exact Pick.here | apply Pick.there)) ?_) | refine Ent.skip ?_)) (by kernel_rfl) ?_
      refine r_done (by kernel_rfl) ?_
      refine k_then_n ?_
      refine c_cond rfl (fun h2 => ?_) (fun h2 => ?_)
      · try simp only [Bool.and_eq_true, Bool.or_eq_true, Bool.not_eq_true', Bool.and_eq_false_iff, Bool.or_eq_false_iff, Bool.not_eq_false', decide_eq_true_eq, decide_eq_false_iff_not, Bool.not_eq_eq_eq_not, Bool.not_true, Bool.not_false, Bool.not_eq_true, Bool.not_eq_false, beq_iff_eq, bne_iff_ne, ne_eq, Decidable.not_not] at h2
        refine c_exit ?_
        refine k_then_x ?_
        refine k_blk_x ?_
        refine k_then_n ?_
        refine c_region ?_
        refine l_step (s_q rfl wn (q_move rfl) ?_)
        refine l_step (s_q rfl wn (q_add rfl rfl (by omega) (by omega)) ?_)
        refine l_step (s_q rfl wn (q_assign rfl) ?_)
        refine l_nil ?_
        refine k_then_n ?_
        exact t_next (⟨y.d + 1, none, 0, none, 0, none, 0⟩ : Lp _) ⟨⟨by simp only []; omega, who_next (by omega) hy2 h2⟩, by simp only []; omega⟩ (.cons rfl (by first | rfl | exact inte (by omega) | (simp; done) | (simp <;> omega) | simp [*]) (.cons rfl (by first | rfl | exact inte (by omega) | (simp; done) | (simp <;> omega) | simp [*]) (.cons rfl (by first | rfl | exact inte (by omega) | (simp; done) | (simp <;> omega) | simp [*]) (.cons rfl (by first | rfl | exact inte (by omega) | (simp; done) | (simp <;> omega) | simp [*]) (.cons rfl (by first | rfl | exact inte (by omega) | (simp; done) | (simp <;> omega) | simp [*]) (.cons rfl (by first | rfl | exact inte (by omega) | (simp; done) | (simp <;> omega) | simp [*]) (.cons rfl (by first | rfl | exact inte (by omega) | (simp; done) | (simp <;> omega) | simp [*]) (.cons rfl (by first | rfl | exact inte (by omega) | (simp; done) | (simp <;> omega) | simp [*]) (.cons rfl (by first | rfl | exact inte (by omega) | (simp; done) | (simp <;> omega) | simp [*]) (.cons rfl (by first | rfl | exact inte (by omega) | (simp; done) | (simp <;> omega) | simp [*]) (.cons rfl (by first | rfl | exact inte (by omega) | (simp; done) | (simp <;> omega) | simp [*]) (.cons rfl (by first | rfl | exact inte (by omega) | (simp; done) | (simp <;> omega) | simp [*]) (.nil _))))))))))))) (by repeat (first | exact Ent.nil _ | exact Ent.refl _ | (refine Ent.pick (by repeat (first | exact Pick.here | apply Pick.there)) ?_) | refine Ent.skip ?_))
      · try simp only [Bool.and_eq_true, Bool.or_eq_true, Bool.not_eq_true', Bool.and_eq_false_iff, Bool.or_eq_false_iff, Bool.not_eq_false', decide_eq_true_eq, decide_eq_false_iff_not, Bool.not_eq_eq_eq_not, Bool.not_true, Bool.not_false, Bool.not_eq_true, Bool.not_eq_false, beq_iff_eq, bne_iff_ne, ne_eq, Decidable.not_not] at h2
        have hw := who_at (by omega) hy2 h2
        refine c_skip ?_
        refine k_then_n ?_
        refine c_seq ?_
        refine c_seq ?_
        refine c_region ?_
        refine l_step (s_q rfl wn (q_move rfl) ?_)
        refine l_step (s_q rfl wn (q_move rfl) ?_)
        refine l_step (s_q rfl wn (q_indexe y.d Try.underlying70 sz_77 rfl rfl (by first | assumption | exact rd_ro (by assumption) | exact rd_row (by repeat (first | exact Pick.here | apply Pick.there))) (by decide) rfl (by first | assumption | omega | (simp only [List.length_cons, List.length_nil]; omega))) ?_)
        refine l_step (s_q rfl wn (q_fielde rfl fo_77_0) ?_)
        refine l_step (s_q rfl wn (q_loade (enc := encSaid1) (xs := l) (j := y.d) (off := 0) sc_4 rfl (by first | assumption | exact rd_ro (by assumption) | exact rd_row (by repeat (first | exact Pick.here | apply Pick.there))) (fun _ => rfl) (by first | assumption | omega | (simp only [List.length_cons, List.length_nil]; omega)) (by decide) rfl) ?_)
        refine l_nil ?_
        refine k_then_n ?_
        refine c_cond rfl (fun h3 => ?_) (fun h3 => ?_)
        · skip
          refine c_region ?_
          refine l_step (s_q rfl wn (q_move rfl) ?_)
          refine l_step (s_q rfl wn (q_add rfl rfl (by omega) (by omega)) ?_)
          refine l_step (s_q rfl wn (q_assign rfl) ?_)
          refine l_nil ?_
          refine k_then_n ?_
          refine c_exit ?_
          refine k_blk_xo rfl ?_
          refine k_then_x ?_
          refine k_then_x ?_
          refine k_blk_x ?_
          refine k_blk_n ?_
          refine k_then_n ?_
          refine c_region ?_
          refine l_step (s_q rfl wn (q_move rfl) ?_)
          refine l_step (s_q rfl wn (q_add rfl rfl (by omega) (by omega)) ?_)
          refine l_step (s_q rfl wn (q_assign rfl) ?_)
          refine l_nil ?_
          refine k_then_n ?_
          exact t_next (⟨x.d + 1, none, 0, none, 0, none, 0⟩ : Lp _) ⟨by simp only []; omega, by simp only []; omega⟩ (.cons rfl (by first | rfl | exact inte (by omega) | (simp; done) | (simp <;> omega) | simp [*]) (.cons rfl (by first | rfl | exact inte (by omega) | (simp; done) | (simp <;> omega) | simp [*]) (.cons rfl (by first | rfl | exact inte (by omega) | (simp; done) | (simp <;> omega) | simp [*]) (.cons rfl (inte (by rw [foldl_take _ _ _ _ (by omega), rs_y hw h3])) (.cons rfl (inte (by rw [foldl_take _ _ _ _ (by omega), rs_y hw h3])) (.cons rfl (by first | rfl | exact inte (by omega) | (simp; done) | (simp <;> omega) | simp [*]) (.nil _))))))) (by repeat (first | exact Ent.nil _ | exact Ent.refl _ | (refine Ent.pick (by repeat (first | exact Pick.here | apply Pick.there)) ?_) | refine Ent.skip ?_))
        · skip
          refine c_region ?_
          refine l_step (s_q rfl wn (q_move rfl) ?_)
          refine l_step (s_q rfl wn (q_add rfl rfl (by omega) (by omega)) ?_)
          refine l_step (s_q rfl wn (q_assign rfl) ?_)
          refine l_nil ?_
          refine k_then_n ?_
          refine c_exit ?_
          refine k_blk_xo rfl ?_
          refine k_then_x ?_
          refine k_then_x ?_
          refine k_blk_x ?_
          refine k_blk_n ?_
          refine k_then_n ?_
          refine c_region ?_
          refine l_step (s_q rfl wn (q_move rfl) ?_)
          refine l_step (s_q rfl wn (q_add rfl rfl (by omega) (by omega)) ?_)
          refine l_step (s_q rfl wn (q_assign rfl) ?_)
          refine l_nil ?_
          refine k_then_n ?_
          exact t_next (⟨x.d + 1, none, 0, none, 0, none, 0⟩ : Lp _) ⟨by simp only []; omega, by simp only []; omega⟩ (.cons rfl (by first | rfl | exact inte (by omega) | (simp; done) | (simp <;> omega) | simp [*]) (.cons rfl (by first | rfl | exact inte (by omega) | (simp; done) | (simp <;> omega) | simp [*]) (.cons rfl (by first | rfl | exact inte (by omega) | (simp; done) | (simp <;> omega) | simp [*]) (.cons rfl (inte (by rw [foldl_take _ _ _ _ (by omega), rs_n hw h3])) (.cons rfl (inte (by rw [foldl_take _ _ _ _ (by omega), rs_n hw h3])) (.cons rfl (by first | rfl | exact inte (by omega) | (simp; done) | (simp <;> omega) | simp [*]) (.nil _))))))) (by repeat (first | exact Ent.nil _ | exact Ent.refl _ | (refine Ent.pick (by repeat (first | exact Pick.here | apply Pick.there)) ?_) | refine Ent.skip ?_))
    · try simp only [Bool.and_eq_true, Bool.or_eq_true, Bool.not_eq_true', Bool.and_eq_false_iff, Bool.or_eq_false_iff, Bool.not_eq_false', decide_eq_true_eq, decide_eq_false_iff_not, Bool.not_eq_eq_eq_not, Bool.not_true, Bool.not_false, Bool.not_eq_true, Bool.not_eq_false, beq_iff_eq, bne_iff_ne, ne_eq, Decidable.not_not] at h1
      have hk1 : y.d = l.length := by omega
      rw [hk1, List.take_length] at hy2
      refine c_exit ?_
      refine k_then_x ?_
      refine k_then_x ?_
      refine k_blk_x ?_
      refine k_blk_n ?_
      refine k_then_n ?_
      refine c_region ?_
      refine l_step (s_q rfl wn (q_move rfl) ?_)
      refine l_step (s_q rfl wn (q_add rfl rfl (by omega) (by omega)) ?_)
      refine l_step (s_q rfl wn (q_assign rfl) ?_)
      refine l_nil ?_
      refine k_then_n ?_
      exact t_next (⟨x.d + 1, none, 0, none, 0, none, 0⟩ : Lp _) ⟨by simp only []; omega, by simp only []; omega⟩ (.cons rfl (by first | rfl | exact inte (by omega) | (simp; done) | (simp <;> omega) | simp [*]) (.cons rfl (by first | rfl | exact inte (by omega) | (simp; done) | (simp <;> omega) | simp [*]) (.cons rfl (by first | rfl | exact inte (by omega) | (simp; done) | (simp <;> omega) | simp [*]) (.cons rfl (inte (by rw [foldl_take _ _ _ _ (by omega), rs_0 hy2])) (.cons rfl (inte (by rw [foldl_take _ _ _ _ (by omega), rs_0 hy2])) (.cons rfl (by first | rfl | exact inte (by omega) | (simp; done) | (simp <;> omega) | simp [*]) (.nil _))))))) (by repeat (first | exact Ent.nil _ | exact Ent.refl _ | (refine Ent.pick (by repeat (first | exact Pick.here | apply Pick.there)) ?_) | refine Ent.skip ?_))
  · try simp only [Bool.and_eq_true, Bool.or_eq_true, Bool.not_eq_true', Bool.and_eq_false_iff, Bool.or_eq_false_iff, Bool.not_eq_false', decide_eq_true_eq, decide_eq_false_iff_not, Bool.not_eq_eq_eq_not, Bool.not_true, Bool.not_false, Bool.not_eq_true, Bool.not_eq_false, beq_iff_eq, bne_iff_ne, ne_eq, Decidable.not_not] at h0
    have hk : x.d = c.Voters.xs.length := by omega
    have hof : ((c.Voters.xs.take x.d).foldl (rsStep l) (0, 0)) = rsF c.Voters.xs l := by rw [hk, List.take_length]; rfl
    rw [hof] at hst ⊢
    refine c_exit ?_
    refine k_then_x ?_
    refine k_then_x ?_
    refine k_blk_x ?_
    refine k_then_n ?_
    refine c_seq ?_
    refine c_region ?_
    refine l_step (s_q rfl wn (q_fieldp rfl fo_60_0) ?_)
    refine l_step (s_q rfl wn (q_loadp (v := .slice c.Voters.a c.Voters.xs.length c.Voters.cap) sc_22 rfl (by repeat (first | exact Pick.here | apply Pick.there)) rfl) ?_)
    refine l_step (s_q rfl wn (q_len Try.underlying22 rfl) ?_)
    refine l_step (s_q rfl wn (q_assign rfl) ?_)
    refine l_nil ?_
    refine k_then_n ?_
    refine c_seq ?_
    refine c_seq ?_
    refine c_region ?_
    refine l_step (s_q rfl wn (q_move rfl) ?_)
    refine l_step (s_q rfl wn (q_move rfl) ?_)
    refine l_step (s_q rfl wn (q_quop rfl rfl (by omega) (by omega) (by omega)) ?_)
    refine l_step (s_q rfl wn (q_gtr rfl rfl) ?_)
    refine l_nil ?_
    refine k_then_n ?_
    refine c_cond rfl (fun h4 => ?_) (fun h4 => ?_)
    · try simp only [Bool.and_eq_true, Bool.or_eq_true, Bool.not_eq_true', Bool.and_eq_false_iff, Bool.or_eq_false_iff, Bool.not_eq_false', decide_eq_true_eq, decide_eq_false_iff_not, Bool.not_eq_eq_eq_not, Bool.not_true, Bool.not_false, Bool.not_eq_true, Bool.not_eq_false, beq_iff_eq, bne_iff_ne, ne_eq, Decidable.not_not] at h4
      refine c_seq ?_
      refine c_region ?_
      refine l_step (s_q rfl wn (q_assign rfl) ?_)
      refine l_nil ?_
      refine k_then_n ?_
      refine c_ret ?_
      refine k_then_r ?_
      exact t_ret [] rfl (.tmp rfl .nil) rfl (Hp.le_refl _) ⟨rfl, inte (by unfold rstandsF rwonF; rw [if_pos (by omega)]), rfl⟩ (by (repeat refine Ent.skip ?_); exact Ent.refl _)
    · try simp only [Bool.and_eq_true, Bool.or_eq_true, Bool.not_eq_true', Bool.and_eq_false_iff, Bool.or_eq_false_iff, Bool.not_eq_false', decide_eq_true_eq, decide_eq_false_iff_not, Bool.not_eq_eq_eq_not, Bool.not_true, Bool.not_false, Bool.not_eq_true, Bool.not_eq_false, beq_iff_eq, bne_iff_ne, ne_eq, Decidable.not_not] at h4
      refine c_skip ?_
      refine k_then_n ?_
      refine c_seq ?_
      refine c_seq ?_
      refine c_region ?_
      refine l_step (s_q rfl wn (q_move rfl) ?_)
      refine l_step (s_q rfl wn (q_move rfl) ?_)
      refine l_step (s_q rfl wn (q_sub rfl rfl (by omega) (by omega)) ?_)
      refine l_step (s_q rfl wn (q_move rfl) ?_)
      refine l_step (s_q rfl wn (q_quop rfl rfl (by omega) (by omega) (by omega)) ?_)
      refine l_step (s_q rfl wn (q_leq rfl rfl) ?_)
      refine l_nil ?_
      refine k_then_n ?_
      refine c_cond rfl (fun h5 => ?_) (fun h5 => ?_)
      · try simp only [Bool.and_eq_true, Bool.or_eq_true, Bool.not_eq_true', Bool.and_eq_false_iff, Bool.or_eq_false_iff, Bool.not_eq_false', decide_eq_true_eq, decide_eq_false_iff_not, Bool.not_eq_eq_eq_not, Bool.not_true, Bool.not_false, Bool.not_eq_true, Bool.not_eq_false, beq_iff_eq, bne_iff_ne, ne_eq, Decidable.not_not] at h5
        refine c_seq ?_
        refine c_region ?_
        refine l_step (s_q rfl wn (q_assign rfl) ?_)
        refine l_nil ?_
        refine k_then_n ?_
        refine c_ret ?_
        refine k_then_r ?_
        exact t_ret [] rfl (.tmp rfl .nil) rfl (Hp.le_refl _) ⟨rfl, inte (by unfold rstandsF rwonF; rw [if_neg (by omega), if_pos (by omega)]), rfl⟩ (by (repeat refine Ent.skip ?_); exact Ent.refl _)
      · try simp only [Bool.and_eq_true, Bool.or_eq_true, Bool.not_eq_true', Bool.and_eq_false_iff, Bool.or_eq_false_iff, Bool.not_eq_false', decide_eq_true_eq, decide_eq_false_iff_not, Bool.not_eq_eq_eq_not, Bool.not_true, Bool.not_false, Bool.not_eq_true, Bool.not_eq_false, beq_iff_eq, bne_iff_ne, ne_eq, Decidable.not_not] at h5
        refine c_skip ?_
        refine k_then_n ?_
        refine c_seq ?_
        refine c_region ?_
        refine l_step (s_q rfl wn (q_assign rfl) ?_)
        refine l_nil ?_
        refine k_then_n ?_
        refine c_ret ?_
        exact t_ret [] rfl (.tmp rfl .nil) rfl (Hp.le_refl _) ⟨rfl, inte (by unfold rstandsF rwonF; rw [if_neg (by omega), if_neg (by omega)]), rfl⟩ (by (repeat refine Ent.skip ?_); exact Ent.refl _)

theorem hasp_spec (l_a : Option Addr) (l_n l_c : Nat) (l : List RPeer) (hl_n : l.length = l_n) (id : Int) (ρ : Hp) (hrl : Ro ρ 3 l_a l_n l_c (l.flatMap encRPeer)) : Spec0 Try.prog 38 #[.slice l_a l_n l_c, .int .i64 id] ρ [] (fun v Γ' => v = .bool (hasP l id) ∧ Γ' = []) := by
  refine spec_of (n := 19) (vs := [_, _]) (σ := [(0, _), (1, _)]) Try.func38 rfl rfl rfl rfl fun E Δ => ?_
  rw [List.nil_append]
  have hrlb : l_n ≤ 9223372036854775807 := Nat.le_trans hrl.2.1 hrl.2.2.1
  refine c_seq ?_
  refine c_region ?_
  refine l_step (s_q rfl wn (q_assign rfl) ?_)
  refine l_nil ?_
  refine k_then_n ?_
  refine c_seq ?_
  refine c_seq ?_
  refine c_region ?_
  refine l_step (s_q rfl wn (q_assign rfl) ?_)
  refine l_nil ?_
  refine k_then_n ?_
  refine c_block ?_
  refine Tr.env (σ' := [(0, _), (1, _), (5, _)]) (.cons rfl rfl (.cons rfl rfl (.cons rfl rfl (.nil _)))) ?_
  refine t_loop (ι := Lp (Nat)) (fun x => x.d ≤ l_n ∧ hasP (l.take x.d) id = false) (fun x => l_n - x.d) (fun x => [(0, .slice l_a l_n l_c), (1, .int .i64 id), (5, .int .i64 (x.d : Int))]) (fun x => Δ) (⟨0, none, 0, none, 0, none, 0⟩ : Lp _) ⟨Nat.zero_le _, rfl⟩ ?_ ?_ ?_
  · exact .cons rfl (by first | rfl | exact inte (by omega) | (simp; done) | (simp <;> omega) | simp [*]) (.cons rfl (by first | rfl | exact inte (by omega) | (simp; done) | (simp <;> omega) | simp [*]) (.cons rfl (by first | rfl | exact inte (by omega) | (simp; done) | (simp <;> omega) | simp [*]) (.nil _)))
  · exact (by repeat (first | exact Ent.nil _ | exact Ent.refl _ | (refine Ent.pick (by repeat (first | exact Pick.here | apply Pick.there)) ?_) | refine Ent.skip ?_))
  intro x hx
  obtain ⟨hx1, hx2⟩ := hx
  refine c_seq ?_
  refine c_seq ?_
  refine c_region ?_
  refine l_step (s_q rfl wn (q_move rfl) ?_)
  refine l_step (s_q rfl wn (q_move rfl) ?_)
  refine l_step (s_q rfl wn (q_len Try.underlying82 rfl) ?_)
  refine l_step (s_q rfl wn (q_lss rfl rfl) ?_)
  refine l_nil ?_
  refine k_then_n ?_
  refine c_cond rfl (fun h0 => ?_) (fun h0 => ?_)
  · try simp only [Bool.and_eq_true, Bool.or_eq_true, Bool.not_eq_true', Bool.and_eq_false_iff, Bool.or_eq_false_iff, Bool.not_eq_false', decide_eq_true_eq, decide_eq_false_iff_not, Bool.not_eq_eq_eq_not, Bool.not_true, Bool.not_false, Bool.not_eq_true, Bool.not_eq_false, beq_iff_eq, bne_iff_ne, ne_eq, Decidable.not_not] at h0
    refine c_skip ?_
    refine k_then_n ?_
    refine c_seq ?_
    refine c_block ?_
    refine c_seq ?_
    refine c_region ?_
    refine l_step (s_q rfl wn (q_move rfl) ?_)
    refine l_step (s_q rfl wn (q_move rfl) ?_)
    refine l_step (s_q rfl wn (q_indexe x.d Try.underlying82 sz_88 rfl rfl (by first | assumption | exact rd_ro (by assumption) | exact rd_row (by repeat (first | exact Pick.here | apply Pick.there))) (by decide) rfl (by first | assumption | omega | (simp only [List.length_cons, List.length_nil]; omega))) ?_)
    refine l_step (s_q rfl wn (q_fielde rfl fo_88_0) ?_)
    refine l_step (s_q rfl wn (q_loade (enc := encRPeer) (xs := l) (j := x.d) (off := 0) sc_3 rfl (by first | assumption | exact rd_ro (by assumption) | exact rd_row (by repeat (first | exact Pick.here | apply Pick.there))) (fun _ => rfl) (by first | assumption | omega | (simp only [List.length_cons, List.length_nil]; omega)) (by decide) rfl) ?_)
    refine l_step (s_q rfl wn (q_move rfl) ?_)
    refine l_step (s_q rfl wn (q_eql rfl rfl) ?_)
    refine l_nil ?_
    refine k_then_n ?_
    refine c_cond rfl (fun h1 => ?_) (fun h1 => ?_)
    · try simp only [Bool.and_eq_true, Bool.or_eq_true, Bool.not_eq_true', Bool.and_eq_false_iff, Bool.or_eq_false_iff, Bool.not_eq_false', decide_eq_true_eq, decide_eq_false_iff_not, Bool.not_eq_eq_eq_not, Bool.not_true, Bool.not_false, Bool.not_eq_true, Bool.not_eq_false, beq_iff_eq, bne_iff_ne, ne_eq, Decidable.not_not] at h1
      refine c_seq ?_
      refine c_region ?_
      refine l_step (s_q rfl wn (q_assign rfl) ?_)
      refine l_nil ?_
      refine k_then_n ?_
      refine c_ret ?_
      refine k_blk_r ?_
      refine k_then_r ?_
      refine k_then_r ?_
      refine k_blk_r ?_
      refine k_then_r ?_
      exact t_ret [] rfl (.tmp rfl .nil) rfl (Hp.le_refl _) ⟨rfl, boole (hasP_at (by omega) h1).symm, rfl⟩ (by (repeat refine Ent.skip ?_); exact Ent.refl _)
    · try simp only [Bool.and_eq_true, Bool.or_eq_true, Bool.not_eq_true', Bool.and_eq_false_iff, Bool.or_eq_false_iff, Bool.not_eq_false', decide_eq_true_eq, decide_eq_false_iff_not, Bool.not_eq_eq_eq_not, Bool.not_true, Bool.not_false, Bool.not_eq_true, Bool.not_eq_false, beq_iff_eq, bne_iff_ne, ne_eq, Decidable.not_not] at h1
      refine c_skip ?_
      refine k_blk_n ?_
      refine k_then_n ?_
      refine c_region ?_
      refine l_step (s_q rfl wn (q_move rfl) ?_)
      refine l_step (s_q rfl wn (q_add rfl rfl (by omega) (by omega)) ?_)
      refine l_step (s_q rfl wn (q_assign rfl) ?_)
      refine l_nil ?_
      refine k_then_n ?_
      exact t_next (⟨x.d + 1, none, 0, none, 0, none, 0⟩ : Lp _) ⟨⟨by simp only []; omega, hasP_next (by omega) hx2 h1⟩, by simp only []; omega⟩ (.cons rfl (by first | rfl | exact inte (by omega) | (simp; done) | (simp <;> omega) | simp [*]) (.cons rfl (by first | rfl | exact inte (by omega) | (simp; done) | (simp <;> omega) | simp [*]) (.cons rfl (by first | rfl | exact inte (by omega) | (simp; done) | (simp <;> omega) | simp [*]) (.nil _)))) (by repeat (first | exact Ent.nil _ | exact Ent.refl _ | (refine Ent.pick (by repeat (first | exact Pick.here | apply Pick.there)) ?_) | refine Ent.skip ?_))
  · try simp only [Bool.and_eq_true, Bool.or_eq_true, Bool.not_eq_true', Bool.and_eq_false_iff, Bool.or_eq_false_iff, Bool.not_eq_false', decide_eq_true_eq, decide_eq_false_iff_not, Bool.not_eq_eq_eq_not, Bool.not_true, Bool.not_false, Bool.not_eq_true, Bool.not_eq_false, beq_iff_eq, bne_iff_ne, ne_eq, Decidable.not_not] at h0
    have hk : x.d = l.length := by omega
    rw [hk, List.take_length] at hx2
    refine c_exit ?_
    refine k_then_x ?_
    refine k_then_x ?_
    refine k_blk_x ?_
    refine k_then_n ?_
    refine c_seq ?_
    refine c_region ?_
    refine l_step (s_q rfl wn (q_assign rfl) ?_)
    refine l_nil ?_
    refine k_then_n ?_
    refine c_ret ?_
    exact t_ret [] rfl (.tmp rfl .nil) rfl (Hp.le_refl _) ⟨rfl, boole hx2.symm, rfl⟩ (by (repeat refine Ent.skip ?_); exact Ent.refl _)
end Go.Tly.U

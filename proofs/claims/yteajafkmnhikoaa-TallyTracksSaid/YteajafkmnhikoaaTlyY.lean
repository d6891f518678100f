/-
  The track of package tally, walked.
-/
import Derived.Test.YteajafkmnhikoaaTlyX
import Derived.Test.YteajafkmnhikoaaTlyL
import Derived.Test.YteajafkmnhikoaaDspL
import Derived.Test.YteajafkmnhikoaaProg
set_option maxRecDepth 100000
set_option maxHeartbeats 4000000
set_option linter.unusedSimpArgs false
set_option linter.unusedVariables false
namespace Go.Tly.Y
open Go Go.SL Go.Proofs Go.Tly Go.Dsp.L
attribute [local irreducible] Go.SL.Ent
theorem sc_22 : isScalar Try.prog 22 = true := by kernel_rfl
theorem sc_3 : isScalar Try.prog 3 = true := by kernel_rfl
theorem sz_3 : sizeIs Try.prog 3 = some 1 := by kernel_rfl

theorem idxi_spec (s_a : Option Addr) (s_n s_c : Nat) (s : List Int) (hs_n : s.length = s_n) (q : Int) (ρ : Hp) (hro : Ro ρ 1 s_a s_n s_c (s.flatMap encI)) : Spec0 Try.prog 52 #[.slice s_a s_n s_c, .int .i64 q] ρ [] (fun v Γ' => v = .int .i64 (idxI s q) ∧ Γ' = []) := by
  refine spec_of (n := 19) (vs := [_, _]) (σ := [(0, _), (1, _)]) Try.func52 rfl rfl rfl rfl fun E Δ => ?_
  rw [List.nil_append]
  have hrob : s_n ≤ 9223372036854775807 := Nat.le_trans hro.2.1 hro.2.2.1
  refine c_seq ?_
  refine c_region ?_
  refine l_step (s_q rfl wn (q_assign rfl) ?_)
  refine l_nil ?_
  refine k_then_n ?_
  refine c_seq ?_
  refine c_seq ?_
  refine c_region ?_
  refine l_step (s_q rfl wn (q_move rfl) ?_)
  refine l_step (s_q rfl wn (q_len Try.underlying22 rfl) ?_)
  refine l_step (s_q rfl wn (q_move rfl) ?_)
  refine l_nil ?_
  refine k_then_n ?_
  refine c_block ?_
  refine Tr.env (σ' := [(0, _), (1, _), (7, _), (8, _)]) (.cons rfl rfl (.cons rfl rfl (.cons rfl rfl (.cons rfl rfl (.nil _))))) ?_
  refine t_loop (ι := Lp (Nat)) (fun x => x.d ≤ s_n ∧ q ∉ s.take x.d) (fun x => s_n - x.d) (fun x => [(0, .slice s_a s_n s_c), (1, .int .i64 q), (7, .int .i64 (s_n : Int)), (8, .int .i64 (x.d : Int))]) (fun x => Δ) (⟨0, none, 0, none, 0, none, 0⟩ : Lp _) ⟨Nat.zero_le _, by simp⟩ ?_ ?_ ?_
  · exact .cons rfl (by first | rfl | exact inte (by omega) | (simp; done) | (simp <;> omega) | simp [*]) (.cons rfl (by first | rfl | exact inte (by omega) | (simp; done) | (simp <;> omega) | simp [*]) (.cons rfl (by first | rfl | exact inte (by omega) | (simp; done) | (simp <;> omega) | simp [*]) (.cons rfl (by first | rfl | exact inte (by omega) | (simp; done) | (simp <;> omega) | simp [*]) (.nil _))))
  · exact (by repeat (first | exact Ent.nil _ | exact Ent.refl _ | (refine Ent.pick (by repeat (first | exact Pick.here | apply Pick.there)) ?_) | refine Ent.skip ?_))
  intro x hx
  obtain ⟨hx1, hx2⟩ := hx
  refine c_seq ?_
  refine c_region ?_
  refine l_step (s_q rfl wn (q_lss rfl rfl) ?_)
  refine l_nil ?_
  refine k_then_n ?_
  refine c_seq ?_
  refine c_cond rfl (fun h0 => ?_) (fun h0 => ?_)
  · try simp only [Bool.and_eq_true, Bool.or_eq_true, Bool.not_eq_true', Bool.and_eq_false_iff, Bool.or_eq_false_iff, Bool.not_eq_false', decide_eq_true_eq, decide_eq_false_iff_not, Bool.not_eq_eq_eq_not, Bool.not_true, Bool.not_false, Bool.not_eq_true, Bool.not_eq_false, beq_iff_eq, bne_iff_ne, ne_eq, Decidable.not_not] at h0
    refine c_skip ?_
    refine k_then_n ?_
    refine c_seq ?_
    refine c_block ?_
    refine c_seq ?_
    refine c_region ?_
    refine l_step (s_q rfl wn (q_move rfl) ?_)
    refine l_step (s_q rfl wn (q_assign rfl) ?_)
    refine l_nil ?_
    refine k_then_n ?_
    refine c_seq ?_
    refine c_region ?_
    refine l_step (s_q rfl wn (q_move rfl) ?_)
    refine l_step (s_q rfl wn (q_move rfl) ?_)
    refine l_step (s_q rfl wn (q_move rfl) ?_)
    refine l_step (s_q rfl wn (q_indexe x.d Try.underlying22 sz_3 rfl rfl (by first | assumption | exact rd_ro (by assumption) | exact rd_row (by repeat (first | exact Pick.here | apply Pick.there))) (by decide) rfl (by first | assumption | omega | (simp only [List.length_cons, List.length_nil]; omega))) ?_)
    refine l_step (s_q rfl wn (q_loade (enc := encI) (xs := s) (j := x.d) (off := 0) sc_3 rfl (by first | assumption | exact rd_ro (by assumption) | exact rd_row (by repeat (first | exact Pick.here | apply Pick.there))) (fun _ => rfl) (by first | assumption | omega | (simp only [List.length_cons, List.length_nil]; omega)) (by decide) rfl) ?_)
    refine l_step (s_q rfl wn (q_eql rfl rfl) ?_)
    refine l_nil ?_
    refine k_then_n ?_
    refine c_cond rfl (fun h1 => ?_) (fun h1 => ?_)
    · try simp only [Bool.and_eq_true, Bool.or_eq_true, Bool.not_eq_true', Bool.and_eq_false_iff, Bool.or_eq_false_iff, Bool.not_eq_false', decide_eq_true_eq, decide_eq_false_iff_not, Bool.not_eq_eq_eq_not, Bool.not_true, Bool.not_false, Bool.not_eq_true, Bool.not_eq_false, beq_iff_eq, bne_iff_ne, ne_eq, Decidable.not_not] at h1
      refine c_seq ?_
      refine c_region ?_
      refine l_step (s_q rfl wn (q_move rfl) ?_)
      refine l_step (s_q rfl wn (q_assign rfl) ?_)
      refine l_nil ?_
      refine k_then_n ?_
      refine c_ret ?_
      refine k_blk_r ?_
      refine k_then_r ?_
      refine k_then_r ?_
      refine k_blk_r ?_
      refine k_then_r ?_
      exact t_ret [] rfl (.tmp rfl .nil) rfl (Hp.le_refl _) ⟨rfl, inte (idxI_at (by omega) hx2 (by simpa using h1)).symm, rfl⟩ (by (repeat refine Ent.skip ?_); exact Ent.refl _)
    · try simp only [Bool.and_eq_true, Bool.or_eq_true, Bool.not_eq_true', Bool.and_eq_false_iff, Bool.or_eq_false_iff, Bool.not_eq_false', decide_eq_true_eq, decide_eq_false_iff_not, Bool.not_eq_eq_eq_not, Bool.not_true, Bool.not_false, Bool.not_eq_true, Bool.not_eq_false, beq_iff_eq, bne_iff_ne, ne_eq, Decidable.not_not] at h1
      refine c_skip ?_
      refine k_blk_n ?_
      refine k_then_n ?_
      refine c_region ?_
      refine l_step (s_q rfl wn (q_add rfl rfl (by omega) (by omega)) ?_)
      refine l_step (s_q rfl wn (q_move rfl) ?_)
      refine l_nil ?_
      refine k_then_n ?_
      exact t_next (⟨x.d + 1, none, 0, none, 0, none, 0⟩ : Lp _) ⟨⟨by simp only []; omega, not_take_succI (by omega) hx2 (by simpa using h1)⟩, by simp only []; omega⟩ (.cons rfl (by first | rfl | exact inte (by omega) | (simp; done) | (simp <;> omega) | simp [*]) (.cons rfl (by first | rfl | exact inte (by omega) | (simp; done) | (simp <;> omega) | simp [*]) (.cons rfl (by first | rfl | exact inte (by omega) | (simp; done) | (simp <;> omega) | simp [*]) (.cons rfl (by first | rfl | exact inte (by omega) | (simp; done) | (simp <;> omega) | simp [*]) (.nil _))))) (by repeat (first | exact Ent.nil _ | exact Ent.refl _ | (refine Ent.pick (by repeat (first | exact Pick.here | apply Pick.there)) ?_) | refine Ent.skip ?_))
  · try simp only [Bool.and_eq_true, Bool.or_eq_true, Bool.not_eq_true', Bool.and_eq_false_iff, Bool.or_eq_false_iff, Bool.not_eq_false', decide_eq_true_eq, decide_eq_false_iff_not, Bool.not_eq_eq_eq_not, Bool.not_true, Bool.not_false, Bool.not_eq_true, Bool.not_eq_false, beq_iff_eq, bne_iff_ne, ne_eq, Decidable.not_not] at h0
    have hk : x.d = s.length := by omega
    rw [hk, List.take_length] at hx2
    refine c_exit ?_
    refine k_then_x ?_
    refine k_then_x ?_
    refine k_blk_x ?_
    refine k_then_n ?_
    refine c_seq ?_
    refine c_region ?_
    refine l_step (s_q rfl wn (q_assign rfl) ?_)
    refine l_nil ?_
    refine k_then_n ?_
    refine c_ret ?_
    exact t_ret [] rfl (.tmp rfl .nil) rfl (Hp.le_refl _) ⟨rfl, inte (idxI_none hx2).symm, rfl⟩ (by (repeat refine Ent.skip ?_); exact Ent.refl _)

theorem hasi_spec (s_a : Option Addr) (s_n s_c : Nat) (s : List Int) (hs_n : s.length = s_n) (q : Int) (ρ : Hp) (hro : Ro ρ 1 s_a s_n s_c (s.flatMap encI)) : Spec0 Try.prog 46 #[.slice s_a s_n s_c, .int .i64 q] ρ [] (fun v Γ' => v = .bool (decide (q ∈ s)) ∧ Γ' = []) := by
  refine spec_of (n := 9) (vs := [_, _]) (σ := [(0, _), (1, _)]) Try.func46 rfl rfl rfl rfl fun E Δ => ?_
  rw [List.nil_append]
  refine c_seq ?_
  refine c_region ?_
  refine l_step (s_q rfl wn (q_assign rfl) ?_)
  refine l_nil ?_
  refine k_then_n ?_
  refine c_seq ?_
  refine c_region ?_
  refine l_step (s_q rfl wn (q_move rfl) ?_)
  refine l_step (s_q rfl wn (q_move rfl) ?_)
  refine l_step (s_fnq rfl wn Try.func52 rfl (by kernel_rfl) rfl (fun ρ' hL => idxi_spec s_a s_n s_c s (by first | rfl | assumption | (simp; done) | (simp <;> omega) | omega) q ρ' (by first | exact hL.ro (by assumption) | exact hL.row (by repeat (first | exact Pick.here | apply Pick.there)) | assumption)) ?_)
  refine l_step (s_q rfl wn (q_geq rfl rfl) ?_)
  refine l_step (s_q rfl wn (q_assign rfl) ?_)
  refine l_nil ?_
  refine k_then_n ?_
  refine c_ret ?_
  exact t_ret [] rfl (.tmp rfl .nil) rfl (Hp.le_refl _) ⟨rfl, boole (idxI_mem s q), rfl⟩ (by (repeat refine Ent.skip ?_); exact Ent.refl _)

theorem only1_spec (s_a : Option Addr) (s_n : Nat) (s_c : Nat) (s : List Int) (id : Int) (u : Value) (c : Nat) (ρ : Hp) (hs_n : s.length = s_n) (hro : Ro ρ 1 s_a s_n s_c (s.flatMap encI)) : Spec0 Try.prog 45 #[.int .i64 id, u, .pointer (some ⟨c, 0, none⟩)] ρ [.pts c [.slice s_a s_n s_c] 22] (fun v Γ' => v = .bool (!decide (id ∈ s)) ∧ Γ' = [.pts c [.slice s_a s_n s_c] 22]) := by
  refine spec_of (n := 10) (vs := [_, _, _]) (σ := [(0, _), (1, _), (2, _)]) Try.func45 rfl rfl rfl rfl fun E Δ => ?_
  simp only [List.cons_append, List.nil_append]
  refine c_seq ?_
  refine c_region ?_
  refine l_step (s_q rfl wn (q_assign rfl) ?_)
  refine l_nil ?_
  refine k_then_n ?_
  refine c_seq ?_
  refine c_region ?_
  refine l_step (s_q rfl wn (q_loadp (v := .slice s_a s_n s_c) sc_22 rfl (by repeat (first | exact Pick.here | apply Pick.there)) rfl) ?_)
  refine l_step (s_q rfl wn (q_move rfl) ?_)
  refine l_step (s_fnq rfl wn Try.func46 rfl (by kernel_rfl) rfl (fun ρ' hL => hasi_spec s_a s_n s_c s (by first | rfl | assumption | (simp; done) | (simp <;> omega) | omega) id ρ' (by first | exact hL.ro (by assumption) | exact hL.row (by repeat (first | exact Pick.here | apply Pick.there)) | assumption)) ?_)
  refine l_step (s_q rfl wn (q_not rfl) ?_)
  refine l_step (s_q rfl wn (q_assign rfl) ?_)
  refine l_nil ?_
  refine k_then_n ?_
  refine c_ret ?_
  exact t_ret [.pts c [.slice s_a s_n s_c] 22] rfl (.tmp rfl .nil) rfl (Hp.le_refl _) ⟨rfl, rfl, rfl⟩ (by repeat (first | exact Ent.nil _ | exact Ent.refl _ | (refine Ent.pick (by repeat (first | exact Pick.here | apply Pick.there)) ?_) | refine Ent.skip ?_))
end Go.Tly.Y

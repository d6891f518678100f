/-
  Package client, walked: what each of its functions makes of a client's data and memory.
-/
import Derived.Test.YtppngeebdmbeaaaCliP
import Derived.Test.YtppngeebdmbeaaaProg
set_option maxRecDepth 100000
set_option linter.unusedSimpArgs false
set_option linter.unusedVariables false
namespace Go.Cli
open Go Go.SL Go.Proofs
attribute [local irreducible] Go.SL.Ent Go.Cli.AskMem Go.Cli.OwMem
theorem ag_125 : aggSize Try.prog 125 = some 3 := by kernel_rfl
theorem ag_54 : aggSize Try.prog 54 = some 12 := by kernel_rfl
theorem ag_64 : aggSize Try.prog 64 = some 13 := by kernel_rfl
theorem eo_125 : elemOk Try.prog 125 3 56 = true := by kernel_rfl
theorem eo_3 : elemOk Try.prog 3 1 8 = true := by kernel_rfl
theorem fo_122_0 : fieldOff Try.prog 122 0 = some (0, 3) := by kernel_rfl
theorem fo_122_1 : fieldOff Try.prog 122 1 = some (1, 3) := by kernel_rfl
theorem fo_122_10 : fieldOff Try.prog 122 10 = some (33, 4) := by kernel_rfl
theorem fo_122_2 : fieldOff Try.prog 122 2 = some (2, 40) := by kernel_rfl
theorem fo_122_3 : fieldOff Try.prog 122 3 = some (3, 3) := by kernel_rfl
theorem fo_122_4 : fieldOff Try.prog 122 4 = some (4, 3) := by kernel_rfl
theorem fo_122_5 : fieldOff Try.prog 122 5 = some (5, 54) := by kernel_rfl
theorem fo_122_6 : fieldOff Try.prog 122 6 = some (17, 4) := by kernel_rfl
theorem fo_122_7 : fieldOff Try.prog 122 7 = some (18, 120) := by kernel_rfl
theorem fo_122_8 : fieldOff Try.prog 122 8 = some (19, 3) := by kernel_rfl
theorem fo_122_9 : fieldOff Try.prog 122 9 = some (20, 64) := by kernel_rfl
theorem fo_125_0 : fieldOff Try.prog 125 0 = some (0, 40) := by kernel_rfl
theorem fo_125_1 : fieldOff Try.prog 125 1 = some (1, 40) := by kernel_rfl
theorem fo_48_2 : fieldOff Try.prog 48 2 = some (2, 46) := by kernel_rfl
theorem fo_50_4 : fieldOff Try.prog 50 4 = some (4, 48) := by kernel_rfl
theorem fo_54_0 : fieldOff Try.prog 54 0 = some (0, 3) := by kernel_rfl
theorem fo_54_1 : fieldOff Try.prog 54 1 = some (1, 3) := by kernel_rfl
theorem fo_54_2 : fieldOff Try.prog 54 2 = some (2, 3) := by kernel_rfl
theorem fo_54_3 : fieldOff Try.prog 54 3 = some (3, 50) := by kernel_rfl
theorem fo_64_0 : fieldOff Try.prog 64 0 = some (0, 3) := by kernel_rfl
theorem fo_64_1 : fieldOff Try.prog 64 1 = some (1, 3) := by kernel_rfl
theorem fo_64_2 : fieldOff Try.prog 64 2 = some (2, 33) := by kernel_rfl
theorem fo_64_3 : fieldOff Try.prog 64 3 = some (3, 3) := by kernel_rfl
theorem pl_122 : placesOf Try.prog 122 = some [(0, 1), (1, 1), (2, 1), (3, 1), (4, 1), (5, 12), (17, 1), (18, 1), (19, 1), (20, 13), (33, 1)] := by kernel_rfl
theorem pl_54 : placesOf Try.prog 54 = some [(0, 1), (1, 1), (2, 1), (3, 7), (10, 2)] := by kernel_rfl
theorem sc_120 : isScalar Try.prog 120 = true := by kernel_rfl
theorem sc_3 : isScalar Try.prog 3 = true := by kernel_rfl
theorem sc_33 : isScalar Try.prog 33 = true := by kernel_rfl
theorem sc_4 : isScalar Try.prog 4 = true := by kernel_rfl
theorem sc_40 : isScalar Try.prog 40 = true := by kernel_rfl
theorem sc_46 : isScalar Try.prog 46 = true := by kernel_rfl
theorem sz_120 : sizeIs Try.prog 120 = some 1 := by kernel_rfl
theorem sz_125 : sizeIs Try.prog 125 = some 3 := by kernel_rfl
theorem sz_3 : sizeIs Try.prog 3 = some 1 := by kernel_rfl
theorem sz_4 : sizeIs Try.prog 4 = some 1 := by kernel_rfl
theorem sz_40 : sizeIs Try.prog 40 = some 1 := by kernel_rfl
theorem sz_46 : sizeIs Try.prog 46 = some 1 := by kernel_rfl
theorem sz_54 : sizeIs Try.prog 54 = some 12 := by kernel_rfl
theorem sz_64 : sizeIs Try.prog 64 = some 13 := by kernel_rfl
theorem zc_122 : zeroCs Try.prog 122 = some [.int .i64 0, .int .i64 0, .slice none 0 0, .int .i64 0, .int .i64 0, .int .i64 0, .int .i64 0, .int .i64 0, .int .i64 0, .int .i64 0, .int .i64 0, .bool false, .int .i64 0, .int .i64 0, .slice none 0 0, .int .i64 0, .int .i64 0, .bool false, .int .i64 0, .int .i64 0, .int .i64 0, .int .i64 0, .int .i64 0, .int .i64 0, .int .i64 0, .int .i64 0, .int .i64 0, .int .i64 0, .int .i64 0, .int .i64 0, .slice none 0 0, .slice none 0 0, .slice none 0 0, .bool false] := by kernel_rfl
theorem zc_125 : zeroCs Try.prog 125 = some [.slice none 0 0, .slice none 0 0, .int .i64 0] := by kernel_rfl
theorem zc_54 : zeroCs Try.prog 54 = some [.int .i64 0, .int .i64 0, .int .i64 0, .int .i64 0, .int .i64 0, .int .i64 0, .bool false, .int .i64 0, .int .i64 0, .slice none 0 0, .int .i64 0, .int .i64 0] := by kernel_rfl
theorem zc_64 : zeroCs Try.prog 64 = some [.int .i64 0, .int .i64 0, .int .i64 0, .int .i64 0, .int .i64 0, .int .i64 0, .int .i64 0, .int .i64 0, .int .i64 0, .int .i64 0, .slice none 0 0, .slice none 0 0, .slice none 0 0] := by kernel_rfl

theorem cloneI_spec (s : SL Int) (hl : s.xs.length ≤ 100000) (ρ : Hp) (Γ : List Asn) (rd : Rd ρ Γ 1 s.a s.xs.length s.cap (s.xs.flatMap encI)) : Spec0 Try.prog 56 #[.slice s.a s.xs.length s.cap] ρ Γ (fun v Γ' => ∃ a' cap', v = .slice a' s.xs.length cap' ∧ Γ' = .row 3 1 a' s.xs.length cap' (s.xs.flatMap encI) :: Γ) := by
  refine spec_of (n := 8) (vs := [_]) (σ := [(0, _)]) Try.func56 rfl rfl rfl rfl fun E Δ => ?_
  have rd2 := rd_up rd (Ent.app Γ Δ)
  refine c_seq ?_
  refine c_region ?_
  refine l_step (s_q rfl wn (q_assign rfl) ?_)
  refine l_nil ?_
  refine k_then_n ?_
  refine c_seq ?_
  refine c_seq ?_
  refine c_region ?_
  refine l_step (s_q rfl wn (q_move rfl) ?_)
  refine l_step (s_q rfl wn (q_eqnil Try.underlying40 rfl rfl) ?_)
  refine l_nil ?_
  refine k_then_n ?_
  first | refine c_if rfl (fun h0 => ?_) (fun h0 => ?_) | refine c_cond rfl (fun h0 => ?_) (fun h0 => ?_)
  · skip
    refine t_rd rd2 fun hl' _ _ hn => ?_
    have hz : s.xs = [] := by
      rw [hn (Option.isNone_iff_eq_none.1 h0)] at hl'
      exact List.eq_nil_of_length_eq_zero (by simp at hl'; omega)
    refine c_seq ?_
    refine c_region ?_
    refine l_step (s_q rfl wn (q_assign rfl) ?_)
    refine l_nil ?_
    refine k_then_n ?_
    refine c_ret ?_
    refine k_then_r ?_
    exact t_ret (.row 3 1 none s.xs.length 0 (s.xs.flatMap encI) :: Γ) rfl (.tmp rfl .nil) rfl (Hp.le_refl _) ⟨rfl, none, 0, by rw [hz]; rfl, rfl⟩ (by rw [hz]; exact Ent.nilrow _ _ _)
  · skip
    refine c_skip ?_
    refine k_then_n ?_
    refine c_seq ?_
    refine c_region ?_
    refine l_step (s_s rfl wn (s_buildSlice Try.underlying40 eo_3 rfl rfl rfl rfl (by decide) (by decide)) ?_)
    rintro _ _ ⟨b5, rfl, rfl⟩
    refine l_step (s_q rfl wn (q_move rfl) ?_)
    refine l_step (s_s rfl wn (s_appende (enc := encI) (xs := []) (ys := s.xs) (Γ' := fun a' cap' => _) Try.underlying40 eo_3 (by decide) rfl rfl (rd_up rd2 (Ent.skip (Ent.refl _))) (oneI _) (by simp; omega) (by simp; omega) (fun _ _ => (by repeat (first | exact Pick.here | apply Pick.there)))) ?_)
    rintro _ _ ⟨a7, c7, rfl, rfl⟩
    refine l_step (s_q rfl wn (q_assign rfl) ?_)
    refine l_nil ?_
    refine k_then_n ?_
    refine c_ret ?_
    exact t_ret (.row 3 1 a7 s.xs.length c7 (s.xs.flatMap encI) :: Γ) rfl (.tmp rfl .nil) rfl (Hp.le_refl _) ⟨rfl, a7, c7, rfl, rfl⟩ (Ent.refl _)

theorem cloneW_spec (s : SL WvV) (hl : s.xs.length ≤ 100000) (ρ : Hp) (Γ : List Asn) (rd : Rd ρ Γ 3 s.a s.xs.length s.cap (s.xs.flatMap encW)) : Spec0 Try.prog 72 #[.slice s.a s.xs.length s.cap] ρ Γ (fun v Γ' => ∃ a' cap', v = .slice a' s.xs.length cap' ∧ Γ' = .row 125 3 a' s.xs.length cap' (s.xs.flatMap encW) :: Γ) := by
  refine spec_of (n := 8) (vs := [_]) (σ := [(0, _)]) Try.func72 rfl rfl rfl rfl fun E Δ => ?_
  have rd2 := rd_up rd (Ent.app Γ Δ)
  refine c_seq ?_
  refine c_region ?_
  refine l_step (s_q rfl wn (q_assign rfl) ?_)
  refine l_nil ?_
  refine k_then_n ?_
  refine c_seq ?_
  refine c_seq ?_
  refine c_region ?_
  refine l_step (s_q rfl wn (q_move rfl) ?_)
  refine l_step (s_q rfl wn (q_eqnil Try.underlying46 rfl rfl) ?_)
  refine l_nil ?_
  refine k_then_n ?_
  first | refine c_if rfl (fun h0 => ?_) (fun h0 => ?_) | refine c_cond rfl (fun h0 => ?_) (fun h0 => ?_)
  · skip
    refine t_rd rd2 fun hl' _ _ hn => ?_
    have hz : s.xs = [] := by
      rw [hn (Option.isNone_iff_eq_none.1 h0)] at hl'
      exact List.eq_nil_of_length_eq_zero (by simp at hl'; omega)
    refine c_seq ?_
    refine c_region ?_
    refine l_step (s_q rfl wn (q_assign rfl) ?_)
    refine l_nil ?_
    refine k_then_n ?_
    refine c_ret ?_
    refine k_then_r ?_
    exact t_ret (.row 125 3 none s.xs.length 0 (s.xs.flatMap encW) :: Γ) rfl (.tmp rfl .nil) rfl (Hp.le_refl _) ⟨rfl, none, 0, by rw [hz]; rfl, rfl⟩ (by rw [hz]; exact Ent.nilrow _ _ _)
  · skip
    refine c_skip ?_
    refine k_then_n ?_
    refine c_seq ?_
    refine c_region ?_
    refine l_step (s_s rfl wn (s_buildSlice Try.underlying46 eo_125 rfl rfl rfl rfl (by decide) (by decide)) ?_)
    rintro _ _ ⟨b5, rfl, rfl⟩
    refine l_step (s_q rfl wn (q_move rfl) ?_)
    refine l_step (s_s rfl wn (s_appende (enc := encW) (xs := []) (ys := s.xs) (Γ' := fun a' cap' => _) Try.underlying46 eo_125 (by decide) rfl rfl (rd_up rd2 (Ent.skip (Ent.refl _))) (oneW _) (by simp; omega) (by simp; omega) (fun _ _ => (by repeat (first | exact Pick.here | apply Pick.there)))) ?_)
    rintro _ _ ⟨a7, c7, rfl, rfl⟩
    refine l_step (s_q rfl wn (q_assign rfl) ?_)
    refine l_nil ?_
    refine k_then_n ?_
    refine c_ret ?_
    exact t_ret (.row 125 3 a7 s.xs.length c7 (s.xs.flatMap encW) :: Γ) rfl (.tmp rfl .nil) rfl (Hp.le_refl _) ⟨rfl, a7, c7, rfl, rfl⟩ (Ent.refl _)

theorem idx_spec (a : Option Addr) (n cap : Nat) (xs : List Int) (hn : xs.length = n) (hl : n ≤ 1000000000) (z : Int) (ρ : Hp) (Γ : List Asn) (rd : Rd ρ Γ 1 a n cap (xs.flatMap encI)) : Spec0 Try.prog 71 #[.slice a n cap, .int .i64 z] ρ Γ (fun v Γ' => v = .int .i64 (idxF xs z) ∧ Γ = Γ') := by
  refine spec_of (n := 19) (vs := [_, _]) (σ := [(0, _), (1, _)]) Try.func71 rfl rfl rfl rfl fun E Δ => ?_
  have rd2 := rd_up rd (Ent.app Γ Δ)
  refine c_seq ?_
  refine c_region ?_
  refine l_step (s_q rfl wn (q_assign rfl) ?_)
  refine l_nil ?_
  refine k_then_n ?_
  refine c_seq ?_
  refine c_seq ?_
  refine c_region ?_
  refine l_step (s_q rfl wn (q_move rfl) ?_)
  refine l_step (s_q rfl wn (q_len Try.underlying40 rfl) ?_)
  refine l_step (s_q rfl wn (q_move rfl) ?_)
  refine l_nil ?_
  refine k_then_n ?_
  refine c_block ?_
  refine t_loop (ι := Nat) (fun k => k ≤ n ∧ z ∉ xs.take k) (fun k => n - k) (fun k => [(0, .slice a n cap), (1, .int .i64 z), (7, .int .i64 (n : Int)), (8, .int .i64 (k : Int))]) (fun k => Γ ++ Δ) 0 ⟨Nat.zero_le _, by simp⟩ ?_ ?_ ?_
  · exact .cons rfl (by first | rfl | (simp; done) | simp [*]) (.cons rfl (by first | rfl | (simp; done) | simp [*]) (.cons rfl (by first | rfl | (simp; done) | simp [*]) (.cons rfl (by first | rfl | (simp; done) | simp [*]) (.nil _))))
  · exact (by repeat (first | exact Ent.nil _ | exact Ent.refl _ | (refine Ent.pick (by repeat (first | exact Pick.here | apply Pick.there)) ?_) | refine Ent.skip ?_))
  intro k hk
  obtain ⟨hk1, hk2⟩ := hk
  refine c_seq ?_
  refine c_region ?_
  refine l_step (s_q rfl wn (q_lss rfl rfl) ?_)
  refine l_nil ?_
  refine k_then_n ?_
  refine c_seq ?_
  first | refine c_if rfl (fun h0 => ?_) (fun h0 => ?_) | refine c_cond rfl (fun h0 => ?_) (fun h0 => ?_)
  · skip
    refine c_skip ?_
    refine k_then_n ?_
    refine c_seq ?_
    refine c_block ?_
    refine c_seq ?_
    refine c_region ?_
    refine l_step (s_q rfl wn (q_move rfl) ?_)
    refine l_step (s_q rfl wn (q_assign rfl) ?_)
    refine l_nil ?_
    refine k_then_n ?_
    refine c_seq ?_
    refine c_region ?_
    refine l_step (s_q rfl wn (q_move rfl) ?_)
    refine l_step (s_q rfl wn (q_move rfl) ?_)
    refine l_step (s_q rfl wn (q_move rfl) ?_)
    refine l_step (s_q rfl wn (q_indexe _ Try.underlying40 sz_3 rfl rfl (by first | assumption | exact rd_ro (by assumption) | exact rd_row (by repeat (first | exact Pick.here | apply Pick.there))) (by decide) rfl (by first | assumption | omega)) ?_)
    refine l_step (s_q rfl wn (by first | exact q_loadp sc_3 rfl (by repeat (first | exact Pick.here | apply Pick.there)) rfl | exact q_loade sc_3 rfl (by first | assumption | exact rd_ro (by assumption) | exact rd_row (by repeat (first | exact Pick.here | apply Pick.there))) (fun _ => rfl) (by first | assumption | omega) (by decide) rfl) ?_)
    refine l_step (s_q rfl wn (q_eql rfl rfl) ?_)
    refine l_nil ?_
    refine k_then_n ?_
    first | refine c_if rfl (fun h1 => ?_) (fun h1 => ?_) | refine c_cond rfl (fun h1 => ?_) (fun h1 => ?_)
    · skip
      refine c_seq ?_
      refine c_region ?_
      refine l_step (s_q rfl wn (q_move rfl) ?_)
      refine l_step (s_q rfl wn (q_assign rfl) ?_)
      refine l_nil ?_
      refine k_then_n ?_
      refine c_ret ?_
      refine k_blk_r ?_
      refine k_then_r ?_
      refine k_then_r ?_
      refine k_blk_r ?_
      refine k_then_r ?_
      exact t_ret Γ rfl (.tmp rfl .nil) rfl (Hp.le_refl _) ⟨rfl, inte (idxOf_take (by omega) hk2 h1).symm, rfl⟩ (by (repeat refine Ent.skip ?_); exact Ent.refl _)
    · skip
      refine c_skip ?_
      refine k_blk_n ?_
      refine k_then_n ?_
      refine c_region ?_
      refine l_step (s_q rfl wn (by first | exact q_add rfl rfl (by omega) (by omega) | exact q_addw rfl rfl) ?_)
      refine l_step (s_q rfl wn (q_move rfl) ?_)
      refine l_nil ?_
      refine k_then_n ?_
      exact t_next (k + 1) ⟨⟨by omega, not_take_succ (by omega) hk2 h1⟩, by omega⟩ (.cons rfl (by first | rfl | (simp; done) | simp [*]) (.cons rfl (by first | rfl | (simp; done) | simp [*]) (.cons rfl (by first | rfl | (simp; done) | simp [*]) (.cons rfl (by first | rfl | (simp; done) | simp [*]) (.nil _))))) (by repeat (first | exact Ent.nil _ | exact Ent.refl _ | (refine Ent.pick (by repeat (first | exact Pick.here | apply Pick.there)) ?_) | refine Ent.skip ?_))
  · skip
    obtain rfl : k = n := by omega
    rw [← hn, List.take_length] at hk2
    refine c_exit ?_
    refine k_then_x ?_
    refine k_then_x ?_
    refine k_blk_x ?_
    refine k_then_n ?_
    refine c_seq ?_
    refine c_region ?_
    refine l_step (s_q rfl wn (q_assign rfl) ?_)
    refine l_nil ?_
    refine k_then_n ?_
    refine c_ret ?_
    exact t_ret Γ rfl (.tmp rfl .nil) rfl (Hp.le_refl _) ⟨rfl, inte (idx_none hk2).symm, rfl⟩ (by (repeat refine Ent.skip ?_); exact Ent.refl _)

theorem con_spec (a : Option Addr) (n cap : Nat) (xs : List Int) (hn : xs.length = n) (hl : n ≤ 1000000000) (z : Int) (ρ : Hp) (Γ : List Asn) (rd : Rd ρ Γ 1 a n cap (xs.flatMap encI)) : Spec0 Try.prog 55 #[.slice a n cap, .int .i64 z] ρ Γ (fun v Γ' => v = .bool (decide (z ∈ xs)) ∧ Γ = Γ') := by
  refine spec_of (n := 9) (vs := [_, _]) (σ := [(0, _), (1, _)]) Try.func55 rfl rfl rfl rfl fun E Δ => ?_
  refine c_seq ?_
  refine c_region ?_
  refine l_step (s_q rfl wn (q_assign rfl) ?_)
  refine l_nil ?_
  refine k_then_n ?_
  refine c_seq ?_
  refine c_region ?_
  refine l_step (s_q rfl wn (q_move rfl) ?_)
  refine l_step (s_q rfl wn (q_move rfl) ?_)
  refine l_step (s_fn rfl wn Try.func71 rfl (by kernel_rfl) rfl (idx_spec a n cap xs hn hl z ρ Γ rd) (sel_app Γ Δ) ?_)
  rintro _ _ _ - ⟨rfl, rfl, rfl⟩
  refine l_step (s_q rfl wn (q_geq rfl rfl) ?_)
  refine l_step (s_q rfl wn (q_assign rfl) ?_)
  refine l_nil ?_
  refine k_then_n ?_
  refine c_ret ?_
  exact t_ret Γ rfl (.tmp rfl .nil) rfl (Hp.le_refl _) ⟨rfl, boole (decide_eq_decide.2 (idx_ge xs z)), rfl⟩ (by (repeat refine Ent.skip ?_); exact Ent.refl _)

theorem own_spec (a : AskV) (hs : Small a.waves) (ρ : Hp) (Γ : List Asn) (rd : AskRd ρ Γ a.waves) : Spec0 Try.prog 57 #[.agg (encAsk a).toArray] ρ Γ (fun v Γ' => ∃ w : SL WvV, w.xs.map WvD = a.waves.xs.map WvD ∧ v = .agg (encAsk { a with waves := w }).toArray ∧ Γ' = .raw (AskMem w) :: Γ) := by
  refine spec_of (n := 38) (vs := [_]) (σ := [(0, _)]) Try.func57 rfl rfl rfl rfl fun E Δ => ?_
  have rd2 := askRd_up rd (Ent.app Γ Δ)
  have hs1 := hs.1
  refine c_seq ?_
  refine c_region ?_
  refine l_step (s_s rfl wn (s_box rfl rfl) ?_)
  rintro _ _ ⟨b1, rfl, rfl⟩
  refine l_step (s_s rfl wn (s_allocz zc_54) ?_)
  rintro _ _ ⟨b2, rfl, rfl⟩
  refine l_nil ?_
  refine k_then_n ?_
  refine c_seq ?_
  refine c_region ?_
  refine l_step (s_q rfl wn (by first | exact q_fieldp rfl fo_54_3 | exact q_fielde rfl fo_54_3 | exact q_fieldr rfl fo_54_3) ?_)
  refine l_step (s_q rfl wn (by first | exact q_fieldp rfl fo_50_4 | exact q_fielde rfl fo_50_4 | exact q_fieldr rfl fo_50_4) ?_)
  refine l_step (s_q rfl wn (by first | exact q_fieldp rfl fo_48_2 | exact q_fielde rfl fo_48_2 | exact q_fieldr rfl fo_48_2) ?_)
  refine l_step (s_q rfl wn (by first | exact q_loadp sc_46 rfl (by repeat (first | exact Pick.here | apply Pick.there)) rfl | exact q_loade sc_46 rfl (by first | assumption | exact rd_ro (by assumption) | exact rd_row (by repeat (first | exact Pick.here | apply Pick.there))) (fun _ => rfl) (by first | assumption | omega) (by decide) rfl) ?_)
  refine l_step (s_fn rfl wn Try.func72 rfl (by kernel_rfl) rfl (cloneW_spec a.waves hs.1 ρ _ (rd_up rd2.1 (by (repeat refine Ent.skip ?_); exact Ent.refl _))) (sel_all _) ?_)
  rintro _ _ _ - ⟨rfl, a10, c10, rfl, rfl⟩
  refine Tr.ent (Ent.cast (List.append_nil _)) ?_
  refine l_step (s_q rfl wn (q_assign rfl) ?_)
  refine l_nil ?_
  refine k_then_n ?_
  refine c_seq ?_
  refine c_seq ?_
  refine c_region ?_
  refine l_step (s_q rfl wn (q_move rfl) ?_)
  refine l_step (s_q rfl wn (q_len Try.underlying46 rfl) ?_)
  refine l_step (s_q rfl wn (q_move rfl) ?_)
  refine l_nil ?_
  refine k_then_n ?_
  refine c_block ?_
  refine t_loop (ι := OW) (fun x => OwJ a.waves.xs x) (fun x => a.waves.xs.length - x.k) (fun x => [(1, .pointer (some ⟨b1, 0, none⟩)), (2, .pointer (some ⟨b2, 0, none⟩)), (3, .slice a10 a.waves.xs.length c10), (11, .slice a10 a.waves.xs.length c10), (12, .int .i64 (a.waves.xs.length : Int)), (13, .int .i64 (x.k : Int))]) (fun x => .row 125 3 a10 a.waves.xs.length c10 (x.ws.flatMap encW) :: .raw (OwMem x) :: .pts b1 (encAsk a) 54 :: .pts b2 (encAsk askZ) 54 :: (Γ ++ Δ)) ⟨0, a.waves.xs⟩ ⟨Nat.zero_le _, rfl, rfl, fun _ _ _ => rfl⟩ ?_ ?_ ?_
  · exact .cons rfl (by first | rfl | (simp; done) | simp [*]) (.cons rfl (by first | rfl | (simp; done) | simp [*]) (.cons rfl (by first | rfl | (simp; done) | simp [*]) (.cons rfl (by first | rfl | (simp; done) | simp [*]) (.cons rfl (by first | rfl | (simp; done) | simp [*]) (.cons rfl (by first | rfl | (simp; done) | simp [*]) (.nil _))))))
  · exact Ent.trans (Ent.raw (A := OwMem ⟨0, a.waves.xs⟩) (fun h => by unfold OwMem; exact fun i hi => absurd hi (Nat.not_lt_zero _)) _) (by repeat (first | exact Ent.nil _ | exact Ent.refl _ | (refine Ent.pick (by repeat (first | exact Pick.here | apply Pick.there)) ?_) | refine Ent.skip ?_))
  intro x hx
  have hx0 := hx
  obtain ⟨hx1, hx2, hx3, hx4⟩ := hx
  refine c_seq ?_
  refine c_region ?_
  refine l_step (s_q rfl wn (q_lss rfl rfl) ?_)
  refine l_nil ?_
  refine k_then_n ?_
  refine c_seq ?_
  first | refine c_if rfl (fun h0 => ?_) (fun h0 => ?_) | refine c_cond rfl (fun h0 => ?_) (fun h0 => ?_)
  · skip
    have hk2 : x.k < a.waves.xs.length := by omega
    have e4 := hx4 x.k (Nat.le_refl _) hk2
    have rd3 := rd2.2 _ (getD_mem a.waves.xs x.k hk2)
    refine c_skip ?_
    refine k_then_n ?_
    refine c_seq ?_
    refine c_block ?_
    refine c_seq ?_
    refine c_region ?_
    refine l_step (s_q rfl wn (q_move rfl) ?_)
    refine l_step (s_q rfl wn (q_indexe _ Try.underlying46 sz_125 rfl rfl (by first | assumption | exact rd_ro (by assumption) | exact rd_row (by repeat (first | exact Pick.here | apply Pick.there))) (by decide) rfl (by first | assumption | omega)) ?_)
    refine l_step (s_q rfl wn (q_loadea (vs := encW (a.waves.xs.getD x.k default)) ag_125 rfl (by first | assumption | exact rd_ro (by assumption) | exact rd_row (by repeat (first | exact Pick.here | apply Pick.there))) (fun _ => rfl) (by omega) (by simp [encW]) (by simp [encW]) (by rw [e4]; rfl)) ?_)
    refine l_step (s_s rfl wn (s_allocz zc_125) ?_)
    rintro _ _ ⟨b5, rfl, rfl⟩
    refine l_step (s_q rfl wn (q_assign rfl) ?_)
    refine l_step (s_s0 wn (s_storep (ws := encW (a.waves.xs.getD x.k default)) (cs := [.slice none 0 0, .slice none 0 0, .int .i64 0]) (cs' := encW (a.waves.xs.getD x.k default)) rfl rfl rfl sz_125 (oneW1 _) (by simp [encCli, encAsk, encW, encRep]) rfl (by repeat (first | exact Pick.here | apply Pick.there))) ?_)
    rintro _ _ ⟨rfl, rfl⟩
    refine l_nil ?_
    refine k_then_n ?_
    refine c_draw (m := 16) (bs := #[false, false, false, false, false, false, false, false, false, false, false, false, false, false, false, false]) [.pts b5 (encW (a.waves.xs.getD x.k default)) 125] (by kernel_rfl) rfl (by kernel_rfl) ?_
    refine r_take (i := 0) (bs' := #[true, false, false, false, false, false, false, false, false, false, false, false, false, false, false, false]) rfl (by kernel_rfl) (by kernel_rfl) (by kernel_rfl) (fun _ _ _ h => h) rfl wn (q_move rfl) (Hp.le_refl _) (by repeat (first | exact Ent.nil _ | exact Ent.refl _ | (refine Ent.pick (by repeat (first | exact Pick.here | apply Pick.there)) ?_) | refine Ent.skip ?_)) (by kernel_rfl) ?_
    refine r_take (i := 1) (bs' := #[true, true, false, false, false, false, false, false, false, false, false, false, false, false, false, false]) rfl (by kernel_rfl) (by kernel_rfl) (by kernel_rfl) (fun _ _ _ h => h) rfl wn (q_move rfl) (Hp.le_refl _) (by repeat (first | exact Ent.nil _ | exact Ent.refl _ | (refine Ent.pick (by repeat (first | exact Pick.here | apply Pick.there)) ?_) | refine Ent.skip ?_)) (by kernel_rfl) ?_
    refine r_take (i := 2) (bs' := #[true, true, true, false, false, false, false, false, false, false, false, false, false, false, false, false]) rfl (by kernel_rfl) (by kernel_rfl) (by kernel_rfl) (fun _ _ _ h => h) rfl wn (q_move rfl) (Hp.le_refl _) (by repeat (first | exact Ent.nil _ | exact Ent.refl _ | (refine Ent.pick (by repeat (first | exact Pick.here | apply Pick.there)) ?_) | refine Ent.skip ?_)) (by kernel_rfl) ?_
    refine r_take (i := 3) (bs' := #[true, true, true, true, false, false, false, false, false, false, false, false, false, false, false, false]) rfl (by kernel_rfl) (by kernel_rfl) (by kernel_rfl) (fun _ _ _ h => h) rfl wn (q_move rfl) (Hp.le_refl _) (by repeat (first | exact Ent.nil _ | exact Ent.refl _ | (refine Ent.pick (by repeat (first | exact Pick.here | apply Pick.there)) ?_) | refine Ent.skip ?_)) (by kernel_rfl) ?_
    refine r_take (i := 4) (bs' := #[true, true, true, true, true, false, false, false, false, false, false, false, false, false, false, false]) rfl (by kernel_rfl) (by kernel_rfl) (by kernel_rfl) (fun _ _ _ h => h) rfl wn (by first | exact q_fieldp rfl fo_125_0 | exact q_fielde rfl fo_125_0 | exact q_fieldr rfl fo_125_0) (Hp.le_refl _) (by repeat (first | exact Ent.nil _ | exact Ent.refl _ | (refine Ent.pick (by repeat (first | exact Pick.here | apply Pick.there)) ?_) | refine Ent.skip ?_)) (by kernel_rfl) ?_
    refine r_take (i := 5) (bs' := #[true, true, true, true, true, true, false, false, false, false, false, false, false, false, false, false]) rfl (by kernel_rfl) (by kernel_rfl) (by kernel_rfl) (fun _ _ _ h => h) rfl wn (by first | exact q_loadp sc_40 rfl (by repeat (first | exact Pick.here | apply Pick.there)) rfl | exact q_loade sc_40 rfl (by first | assumption | exact rd_ro (by assumption) | exact rd_row (by repeat (first | exact Pick.here | apply Pick.there))) (fun _ => rfl) (by first | assumption | omega) (by decide) rfl) (Hp.le_refl _) (by repeat (first | exact Ent.nil _ | exact Ent.refl _ | (refine Ent.pick (by repeat (first | exact Pick.here | apply Pick.there)) ?_) | refine Ent.skip ?_)) (by kernel_rfl) ?_
    refine r_take (i := 7) (bs' := #[true, true, true, true, true, true, false, true, false, false, false, false, false, false, false, false]) rfl (by kernel_rfl) (by kernel_rfl) (by kernel_rfl) (fun _ _ _ h => h) rfl wn (by first | exact q_fieldp rfl fo_125_1 | exact q_fielde rfl fo_125_1 | exact q_fieldr rfl fo_125_1) (Hp.le_refl _) (by repeat (first | exact Ent.nil _ | exact Ent.refl _ | (refine Ent.pick (by repeat (first | exact Pick.here | apply Pick.there)) ?_) | refine Ent.skip ?_)) (by kernel_rfl) ?_
    refine r_take (i := 8) (bs' := #[true, true, true, true, true, true, false, true, true, false, false, false, false, false, false, false]) rfl (by kernel_rfl) (by kernel_rfl) (by kernel_rfl) (fun _ _ _ h => h) rfl wn (by first | exact q_loadp sc_40 rfl (by repeat (first | exact Pick.here | apply Pick.there)) rfl | exact q_loade sc_40 rfl (by first | assumption | exact rd_ro (by assumption) | exact rd_row (by repeat (first | exact Pick.here | apply Pick.there))) (fun _ => rfl) (by first | assumption | omega) (by decide) rfl) (Hp.le_refl _) (by repeat (first | exact Ent.nil _ | exact Ent.refl _ | (refine Ent.pick (by repeat (first | exact Pick.here | apply Pick.there)) ?_) | refine Ent.skip ?_)) (by kernel_rfl) ?_
    refine r_one (i := 6) (bs' := #[true, true, true, true, true, true, true, true, true, false, false, false, false, false, false, false]) (by kernel_rfl) (by kernel_rfl) ?_
    refine o_step rfl (s_fn rfl wn Try.func56 rfl (by kernel_rfl) rfl (cloneI_spec (a.waves.xs.getD x.k default).after (hs.2 _ (getD_mem a.waves.xs x.k hk2)).1 ρ _ (rd_up rd3.1 (by (repeat refine Ent.skip ?_); exact Ent.refl _))) (sel_all _) ?_)
    rintro _ _ _ - ⟨rfl, a24, c24, rfl, rfl⟩
    refine Tr.ent (Ent.cast (List.append_nil _)) ?_
    refine r_cont (Hp.le_refl _) (by repeat (first | exact Ent.nil _ | exact Ent.refl _ | (refine Ent.pick (by repeat (first | exact Pick.here | apply Pick.there)) ?_) | refine Ent.skip ?_)) ?_
    refine r_one (i := 9) (bs' := #[true, true, true, true, true, true, true, true, true, true, false, false, false, false, false, false]) (by kernel_rfl) (by kernel_rfl) ?_
    refine o_step rfl (s_fn rfl wn Try.func56 rfl (by kernel_rfl) rfl (cloneI_spec (a.waves.xs.getD x.k default).clu (hs.2 _ (getD_mem a.waves.xs x.k hk2)).2 ρ _ (rd_up rd3.2 (by (repeat refine Ent.skip ?_); exact Ent.refl _))) (sel_all _) ?_)
    rintro _ _ _ - ⟨rfl, a27, c27, rfl, rfl⟩
    refine Tr.ent (Ent.cast (List.append_nil _)) ?_
    refine r_cont (Hp.le_refl _) (by repeat (first | exact Ent.nil _ | exact Ent.refl _ | (refine Ent.pick (by repeat (first | exact Pick.here | apply Pick.there)) ?_) | refine Ent.skip ?_)) ?_
    refine r_one (i := 10) (bs' := #[true, true, true, true, true, true, true, true, true, true, true, false, false, false, false, false]) (by kernel_rfl) (by kernel_rfl) ?_
    refine o_step rfl (s_q rfl wn (q_indexe _ Try.underlying46 sz_125 rfl rfl (by first | assumption | exact rd_ro (by assumption) | exact rd_row (by repeat (first | exact Pick.here | apply Pick.there))) (by decide) rfl (by first | assumption | omega)) ?_)
    refine r_cont (Hp.le_refl _) (by repeat (first | exact Ent.nil _ | exact Ent.refl _ | (refine Ent.pick (by repeat (first | exact Pick.here | apply Pick.there)) ?_) | refine Ent.skip ?_)) ?_
    refine r_one (i := 11) (bs' := #[true, true, true, true, true, true, true, true, true, true, true, true, false, false, false, false]) (by kernel_rfl) (by kernel_rfl) ?_
    refine o_step rfl (s_q rfl wn (by first | exact q_fieldp rfl fo_125_0 | exact q_fielde rfl fo_125_0 | exact q_fieldr rfl fo_125_0) ?_)
    refine r_cont (Hp.le_refl _) (by repeat (first | exact Ent.nil _ | exact Ent.refl _ | (refine Ent.pick (by repeat (first | exact Pick.here | apply Pick.there)) ?_) | refine Ent.skip ?_)) ?_
    refine r_one (i := 12) (bs' := #[true, true, true, true, true, true, true, true, true, true, true, true, true, false, false, false]) (by kernel_rfl) (by kernel_rfl) ?_
    refine o_step rfl (s_s0 wn (s_storee (ws := [_]) (enc := encW) (⟨⟨a24, (a.waves.xs.getD x.k default).after.xs, c24⟩, (a.waves.xs.getD x.k default).clu, (a.waves.xs.getD x.k default).bake⟩ : WvV) rfl rfl rfl sz_40 (by simp) (by simp [Value.oneCell']) (by repeat (first | exact Pick.here | apply Pick.there)) (fun _ => rfl) (by omega) (by simp) (by rw [e4]; rfl)) ?_)
    rintro _ _ ⟨rfl, rfl⟩
    refine r_cont (Hp.le_refl _) (by repeat (first | exact Ent.nil _ | exact Ent.refl _ | (refine Ent.pick (by repeat (first | exact Pick.here | apply Pick.there)) ?_) | refine Ent.skip ?_)) ?_
    refine r_one (i := 13) (bs' := #[true, true, true, true, true, true, true, true, true, true, true, true, true, true, false, false]) (by kernel_rfl) (by kernel_rfl) ?_
    refine o_step rfl (s_q rfl wn (q_indexe _ Try.underlying46 sz_125 rfl rfl (by first | assumption | exact rd_ro (by assumption) | exact rd_row (by repeat (first | exact Pick.here | apply Pick.there))) (by decide) rfl (by first | assumption | omega)) ?_)
    refine r_cont (Hp.le_refl _) (by repeat (first | exact Ent.nil _ | exact Ent.refl _ | (refine Ent.pick (by repeat (first | exact Pick.here | apply Pick.there)) ?_) | refine Ent.skip ?_)) ?_
    refine r_one (i := 14) (bs' := #[true, true, true, true, true, true, true, true, true, true, true, true, true, true, true, false]) (by kernel_rfl) (by kernel_rfl) ?_
    refine o_step rfl (s_q rfl wn (by first | exact q_fieldp rfl fo_125_1 | exact q_fielde rfl fo_125_1 | exact q_fieldr rfl fo_125_1) ?_)
    refine r_cont (Hp.le_refl _) (by repeat (first | exact Ent.nil _ | exact Ent.refl _ | (refine Ent.pick (by repeat (first | exact Pick.here | apply Pick.there)) ?_) | refine Ent.skip ?_)) ?_
    refine r_one (i := 15) (bs' := #[true, true, true, true, true, true, true, true, true, true, true, true, true, true, true, true]) (by kernel_rfl) (by kernel_rfl) ?_
    refine o_step rfl (s_s0 wn (s_storee (ws := [_]) (enc := encW) (xs := x.ws.set x.k (⟨⟨a24, (a.waves.xs.getD x.k default).after.xs, c24⟩, (a.waves.xs.getD x.k default).clu, (a.waves.xs.getD x.k default).bake⟩ : WvV)) (⟨⟨a24, (a.waves.xs.getD x.k default).after.xs, c24⟩, ⟨a27, (a.waves.xs.getD x.k default).clu.xs, c27⟩, (a.waves.xs.getD x.k default).bake⟩ : WvV) rfl rfl rfl sz_40 (by simp) (by simp [Value.oneCell']) (by repeat (first | exact Pick.here | apply Pick.there)) (fun _ => rfl) (by simp; omega) (by simp) (by rw [getD_set_self _ _ (by omega)]; rfl)) ?_)
    rintro _ _ ⟨rfl, rfl⟩
    refine r_cont (Hp.le_refl _) (by repeat (first | exact Ent.nil _ | exact Ent.refl _ | (refine Ent.pick (by repeat (first | exact Pick.here | apply Pick.there)) ?_) | refine Ent.skip ?_)) ?_
    refine r_done (by kernel_rfl) ?_
    refine k_blk_n ?_
    refine k_then_n ?_
    refine c_region ?_
    refine l_step (s_q rfl wn (by first | exact q_add rfl rfl (by omega) (by omega) | exact q_addw rfl rfl) ?_)
    refine l_step (s_q rfl wn (q_move rfl) ?_)
    refine l_nil ?_
    refine k_then_n ?_
    exact t_next ⟨x.k + 1, x.ws.set x.k (⟨⟨a24, (a.waves.xs.getD x.k default).after.xs, c24⟩, ⟨a27, (a.waves.xs.getD x.k default).clu.xs, c27⟩, (a.waves.xs.getD x.k default).bake⟩ : WvV)⟩ ⟨owJ_next hx0 hk2 rfl, by simp only []; omega⟩ (.cons rfl (by first | rfl | (simp; done) | simp [*]) (.cons rfl (by first | rfl | (simp; done) | simp [*]) (.cons rfl (by first | rfl | (simp; done) | simp [*]) (.cons rfl (by first | rfl | (simp; done) | simp [*]) (.cons rfl (by first | rfl | (simp; done) | simp [*]) (.cons rfl (by first | rfl | (simp; done) | simp [*]) (.nil _))))))) (by rw [List.set_set]; exact own_next (s := ⟨a24, (a.waves.xs.getD x.k default).after.xs, c24⟩) (t := ⟨a27, (a.waves.xs.getD x.k default).clu.xs, c27⟩) (by omega) rfl rfl)
  · skip
    have hk3 : x.k = a.waves.xs.length := by omega
    rw [← hx2]
    refine c_exit ?_
    refine k_then_x ?_
    refine k_then_x ?_
    refine k_blk_x ?_
    refine k_then_n ?_
    refine c_seq ?_
    refine c_region ?_
    refine l_step (s_q rfl wn (q_move rfl) ?_)
    refine l_step (s_q rfl wn (by first | exact q_fieldp rfl fo_54_3 | exact q_fielde rfl fo_54_3 | exact q_fieldr rfl fo_54_3) ?_)
    refine l_step (s_q rfl wn (by first | exact q_fieldp rfl fo_50_4 | exact q_fielde rfl fo_50_4 | exact q_fieldr rfl fo_50_4) ?_)
    refine l_step (s_q rfl wn (by first | exact q_fieldp rfl fo_48_2 | exact q_fielde rfl fo_48_2 | exact q_fieldr rfl fo_48_2) ?_)
    refine l_step (s_s0 wn (s_storep (ws := [_]) (cs := encAsk a) (cs' := encAsk { a with waves := ⟨a10, x.ws, c10⟩ }) rfl rfl rfl sz_46 (by simp [Value.oneCell']) (by simp [encCli, encAsk, encW, encRep]) rfl (by repeat (first | exact Pick.here | apply Pick.there))) ?_)
    rintro _ _ ⟨rfl, rfl⟩
    refine l_nil ?_
    refine k_then_n ?_
    refine c_seq ?_
    refine c_region ?_
    refine l_step (s_q rfl wn (q_loadpa (vs := encAsk { a with waves := ⟨a10, x.ws, c10⟩ }) ag_54 rfl (by repeat (first | exact Pick.here | apply Pick.there)) rfl) ?_)
    refine l_step (s_s0 wn (s_storep (ws := encAsk { a with waves := ⟨a10, x.ws, c10⟩ }) (cs := encAsk askZ) (cs' := encAsk { a with waves := ⟨a10, x.ws, c10⟩ }) rfl rfl rfl sz_54 (oneAsk _) (by simp [encCli, encAsk, encW, encRep]) rfl (by repeat (first | exact Pick.here | apply Pick.there))) ?_)
    rintro _ _ ⟨rfl, rfl⟩
    refine l_nil ?_
    refine k_then_n ?_
    refine c_ret ?_
    exact t_ret (.raw (AskMem ⟨a10, x.ws, c10⟩) :: Γ) rfl (.cell rfl (by repeat (first | exact Pick.here | apply Pick.there)) (fun w h => ld_agg (by exact ag_54) h) .nil) rfl (Hp.le_refl _) ⟨rfl, ⟨a10, x.ws, c10⟩, hx3, rfl, rfl⟩ (Ent.trans (own_done hx0 hk3 rfl) (by refine Ent.pick Pick.here ?_; (repeat refine Ent.skip ?_); exact Ent.refl _))

theorem new_spec (id span : Int) (s : SL Int) (hl : s.xs.length ≤ 100000) (ρ : Hp) (Γ : List Asn) (rd : Rd ρ Γ 1 s.a s.xs.length s.cap (s.xs.flatMap encI)) : Spec0 Try.prog 23 #[.int .i64 id, .int .i64 span, .slice s.a s.xs.length s.cap] ρ Γ (fun v Γ' => (newOk id span s.xs ∧ ∃ b a' cap', v = .tuple #[.pointer (some ⟨b, 0, none⟩), .int .i64 0] ∧ Γ' = (CliM 3 122 b (Cl.new id span ⟨a', s.xs, cap'⟩)) ++ Γ) ∨ (¬ newOk id span s.xs ∧ v = .tuple #[.pointer none, .int .i64 2] ∧ Γ' = Γ)) := by
  refine spec_of (n := 52) (vs := [_, _, _]) (σ := [(0, _), (1, _), (2, _)]) Try.func23 rfl rfl rfl rfl fun E Δ => ?_
  have rd2 := rd_up rd (Ent.app Γ Δ)
  refine t_rd rd2 fun _ hcap _ _ => ?_
  refine c_seq ?_
  refine c_region ?_
  refine l_step (s_q rfl wn (q_assign rfl) ?_)
  refine l_step (s_q rfl wn (q_assign rfl) ?_)
  refine l_nil ?_
  refine k_then_n ?_
  refine c_seq ?_
  refine c_seq ?_
  refine c_region ?_
  refine l_step (s_q rfl wn (q_move rfl) ?_)
  refine l_step (s_q rfl wn (q_lss rfl rfl) ?_)
  refine l_step (s_q rfl wn (q_move rfl) ?_)
  first | refine t_splitd (d := 12) rfl (fun g1_2 => ?_) (fun g1_2 => ?_) | refine t_split (d := 12) rfl (fun g1_2 => ?_) (fun g1_2 => ?_)
  · skip
    refine l_step (s_no rfl (wno rfl rfl (by decide)) ?_)
    refine l_step (s_no rfl (wno rfl rfl (by decide)) ?_)
    refine l_step (s_q rfl wn (q_pick rfl rfl rfl) ?_)
    refine l_step (s_q rfl wn (q_move rfl) ?_)
    skip
    refine l_step (s_no rfl (wno rfl rfl (by decide)) ?_)
    refine l_step (s_no rfl (wno rfl rfl (by decide)) ?_)
    refine l_step (s_q rfl wn (q_pick rfl rfl rfl) ?_)
    refine l_step (s_q rfl wn (q_move rfl) ?_)
    skip
    refine l_step (s_no rfl (wno rfl rfl (by decide)) ?_)
    refine l_step (s_no rfl (wno rfl rfl (by decide)) ?_)
    refine l_step (s_q rfl wn (q_pick rfl rfl rfl) ?_)
    refine l_step (s_q rfl wn (q_move rfl) ?_)
    skip
    refine l_step (s_no rfl (wno rfl rfl (by decide)) ?_)
    refine l_step (s_no rfl (wno rfl rfl (by decide)) ?_)
    refine l_step (s_no rfl (wno rfl rfl (by decide)) ?_)
    refine l_step (s_q rfl wn (q_pick rfl rfl rfl) ?_)
    refine l_nil ?_
    refine k_then_n ?_
    refine c_yes rfl ?_
    refine c_seq ?_
    refine c_region ?_
    refine l_step (s_q rfl wn (q_assign rfl) ?_)
    refine l_step (s_q rfl wn (q_assign rfl) ?_)
    refine l_nil ?_
    refine k_then_n ?_
    refine c_ret ?_
    refine k_then_r ?_
    exact t_ret Γ rfl (.tmp rfl (.tmp rfl .nil)) rfl (Hp.le_refl _) ⟨rfl, .inr ⟨by intro hN; unfold newOk at hN; obtain ⟨⟨n1, n2, n3, n4, n5⟩, n6, n7⟩ := hN; first | omega | (exact n5 (List.eq_nil_of_length_eq_zero (by omega))) | (have := n6 _ (getD_mem s.xs k (by omega)); omega) | (exact not_nodup (by omega) (of_decide_eq_true h2) n7), rfl, rfl⟩⟩ (by (repeat refine Ent.skip ?_); exact Ent.refl _)
  · skip
    refine l_step (s_q rfl (wy rfl rfl rfl) (q_move rfl) ?_)
    refine l_step (s_q rfl (wy rfl rfl rfl) (q_geq rfl rfl) ?_)
    refine l_step (s_q rfl wn (q_pick rfl rfl rfl) ?_)
    refine l_step (s_q rfl wn (q_move rfl) ?_)
    first | refine t_splitd (d := 16) rfl (fun g1_6 => ?_) (fun g1_6 => ?_) | refine t_split (d := 16) rfl (fun g1_6 => ?_) (fun g1_6 => ?_)
    · skip
      refine l_step (s_no rfl (wno rfl rfl (by decide)) ?_)
      refine l_step (s_no rfl (wno rfl rfl (by decide)) ?_)
      refine l_step (s_q rfl wn (q_pick rfl rfl rfl) ?_)
      refine l_step (s_q rfl wn (q_move rfl) ?_)
      skip
      refine l_step (s_no rfl (wno rfl rfl (by decide)) ?_)
      refine l_step (s_no rfl (wno rfl rfl (by decide)) ?_)
      refine l_step (s_q rfl wn (q_pick rfl rfl rfl) ?_)
      refine l_step (s_q rfl wn (q_move rfl) ?_)
      skip
      refine l_step (s_no rfl (wno rfl rfl (by decide)) ?_)
      refine l_step (s_no rfl (wno rfl rfl (by decide)) ?_)
      refine l_step (s_no rfl (wno rfl rfl (by decide)) ?_)
      refine l_step (s_q rfl wn (q_pick rfl rfl rfl) ?_)
      refine l_nil ?_
      refine k_then_n ?_
      refine c_yes rfl ?_
      refine c_seq ?_
      refine c_region ?_
      refine l_step (s_q rfl wn (q_assign rfl) ?_)
      refine l_step (s_q rfl wn (q_assign rfl) ?_)
      refine l_nil ?_
      refine k_then_n ?_
      refine c_ret ?_
      refine k_then_r ?_
      exact t_ret Γ rfl (.tmp rfl (.tmp rfl .nil)) rfl (Hp.le_refl _) ⟨rfl, .inr ⟨by intro hN; unfold newOk at hN; obtain ⟨⟨n1, n2, n3, n4, n5⟩, n6, n7⟩ := hN; first | omega | (exact n5 (List.eq_nil_of_length_eq_zero (by omega))) | (have := n6 _ (getD_mem s.xs k (by omega)); omega) | (exact not_nodup (by omega) (of_decide_eq_true h2) n7), rfl, rfl⟩⟩ (by (repeat refine Ent.skip ?_); exact Ent.refl _)
    · skip
      refine l_step (s_q rfl (wy rfl rfl rfl) (q_move rfl) ?_)
      refine l_step (s_q rfl (wy rfl rfl rfl) (q_lss rfl rfl) ?_)
      refine l_step (s_q rfl wn (q_pick rfl rfl rfl) ?_)
      refine l_step (s_q rfl wn (q_move rfl) ?_)
      first | refine t_splitd (d := 20) rfl (fun g1_10 => ?_) (fun g1_10 => ?_) | refine t_split (d := 20) rfl (fun g1_10 => ?_) (fun g1_10 => ?_)
      · skip
        refine l_step (s_no rfl (wno rfl rfl (by decide)) ?_)
        refine l_step (s_no rfl (wno rfl rfl (by decide)) ?_)
        refine l_step (s_q rfl wn (q_pick rfl rfl rfl) ?_)
        refine l_step (s_q rfl wn (q_move rfl) ?_)
        skip
        refine l_step (s_no rfl (wno rfl rfl (by decide)) ?_)
        refine l_step (s_no rfl (wno rfl rfl (by decide)) ?_)
        refine l_step (s_no rfl (wno rfl rfl (by decide)) ?_)
        refine l_step (s_q rfl wn (q_pick rfl rfl rfl) ?_)
        refine l_nil ?_
        refine k_then_n ?_
        refine c_yes rfl ?_
        refine c_seq ?_
        refine c_region ?_
        refine l_step (s_q rfl wn (q_assign rfl) ?_)
        refine l_step (s_q rfl wn (q_assign rfl) ?_)
        refine l_nil ?_
        refine k_then_n ?_
        refine c_ret ?_
        refine k_then_r ?_
        exact t_ret Γ rfl (.tmp rfl (.tmp rfl .nil)) rfl (Hp.le_refl _) ⟨rfl, .inr ⟨by intro hN; unfold newOk at hN; obtain ⟨⟨n1, n2, n3, n4, n5⟩, n6, n7⟩ := hN; first | omega | (exact n5 (List.eq_nil_of_length_eq_zero (by omega))) | (have := n6 _ (getD_mem s.xs k (by omega)); omega) | (exact not_nodup (by omega) (of_decide_eq_true h2) n7), rfl, rfl⟩⟩ (by (repeat refine Ent.skip ?_); exact Ent.refl _)
      · skip
        refine l_step (s_q rfl (wy rfl rfl rfl) (q_move rfl) ?_)
        refine l_step (s_q rfl (wy rfl rfl rfl) (q_gtr rfl rfl) ?_)
        refine l_step (s_q rfl wn (q_pick rfl rfl rfl) ?_)
        refine l_step (s_q rfl wn (q_move rfl) ?_)
        first | refine t_splitd (d := 24) rfl (fun g1_14 => ?_) (fun g1_14 => ?_) | refine t_split (d := 24) rfl (fun g1_14 => ?_) (fun g1_14 => ?_)
        · skip
          refine l_step (s_no rfl (wno rfl rfl (by decide)) ?_)
          refine l_step (s_no rfl (wno rfl rfl (by decide)) ?_)
          refine l_step (s_no rfl (wno rfl rfl (by decide)) ?_)
          refine l_step (s_q rfl wn (q_pick rfl rfl rfl) ?_)
          refine l_nil ?_
          refine k_then_n ?_
          refine c_yes rfl ?_
          refine c_seq ?_
          refine c_region ?_
          refine l_step (s_q rfl wn (q_assign rfl) ?_)
          refine l_step (s_q rfl wn (q_assign rfl) ?_)
          refine l_nil ?_
          refine k_then_n ?_
          refine c_ret ?_
          refine k_then_r ?_
          exact t_ret Γ rfl (.tmp rfl (.tmp rfl .nil)) rfl (Hp.le_refl _) ⟨rfl, .inr ⟨by intro hN; unfold newOk at hN; obtain ⟨⟨n1, n2, n3, n4, n5⟩, n6, n7⟩ := hN; first | omega | (exact n5 (List.eq_nil_of_length_eq_zero (by omega))) | (have := n6 _ (getD_mem s.xs k (by omega)); omega) | (exact not_nodup (by omega) (of_decide_eq_true h2) n7), rfl, rfl⟩⟩ (by (repeat refine Ent.skip ?_); exact Ent.refl _)
        · skip
          refine l_step (s_q rfl (wy rfl rfl rfl) (q_move rfl) ?_)
          refine l_step (s_q rfl (wy rfl rfl rfl) (q_len Try.underlying40 rfl) ?_)
          refine l_step (s_q rfl (wy rfl rfl rfl) (q_eql rfl rfl) ?_)
          refine l_step (s_q rfl wn (q_pick rfl rfl rfl) ?_)
          refine l_nil ?_
          refine k_then_n ?_
          first | refine c_if rfl (fun h0 => ?_) (fun h0 => ?_) | refine c_cond rfl (fun h0 => ?_) (fun h0 => ?_)
          · skip
            refine c_seq ?_
            refine c_region ?_
            refine l_step (s_q rfl wn (q_assign rfl) ?_)
            refine l_step (s_q rfl wn (q_assign rfl) ?_)
            refine l_nil ?_
            refine k_then_n ?_
            refine c_ret ?_
            refine k_then_r ?_
            exact t_ret Γ rfl (.tmp rfl (.tmp rfl .nil)) rfl (Hp.le_refl _) ⟨rfl, .inr ⟨by intro hN; unfold newOk at hN; obtain ⟨⟨n1, n2, n3, n4, n5⟩, n6, n7⟩ := hN; first | omega | (exact n5 (List.eq_nil_of_length_eq_zero (by omega))) | (have := n6 _ (getD_mem s.xs k (by omega)); omega) | (exact not_nodup (by omega) (of_decide_eq_true h2) n7), rfl, rfl⟩⟩ (by (repeat refine Ent.skip ?_); exact Ent.refl _)
          · skip
            refine c_skip ?_
            refine k_then_n ?_
            refine c_seq ?_
            refine c_seq ?_
            refine c_region ?_
            refine l_step (s_q rfl wn (q_move rfl) ?_)
            refine l_step (s_q rfl wn (q_len Try.underlying40 rfl) ?_)
            refine l_step (s_q rfl wn (q_move rfl) ?_)
            refine l_nil ?_
            refine k_then_n ?_
            refine c_block ?_
            refine t_loop (ι := Nat) (fun k => k ≤ s.xs.length ∧ (∀ z ∈ s.xs.take k, 0 ≤ z) ∧ (s.xs.take k).Nodup) (fun k => s.xs.length - k) (fun k => [(0, .int .i64 id), (1, .int .i64 span), (2, .slice s.a s.xs.length s.cap), (29, .slice s.a s.xs.length s.cap), (30, .int .i64 (s.xs.length : Int)), (31, .int .i64 (k : Int))]) (fun k => Γ ++ Δ) 0 ⟨Nat.zero_le _, by simp, by simp⟩ ?_ ?_ ?_
            · exact .cons rfl (by first | rfl | (simp; done) | simp [*]) (.cons rfl (by first | rfl | (simp; done) | simp [*]) (.cons rfl (by first | rfl | (simp; done) | simp [*]) (.cons rfl (by first | rfl | (simp; done) | simp [*]) (.cons rfl (by first | rfl | (simp; done) | simp [*]) (.cons rfl (by first | rfl | (simp; done) | simp [*]) (.nil _))))))
            · exact (by repeat (first | exact Ent.nil _ | exact Ent.refl _ | (refine Ent.pick (by repeat (first | exact Pick.here | apply Pick.there)) ?_) | refine Ent.skip ?_))
            intro k hk
            obtain ⟨hk1, hk2, hk4⟩ := hk
            refine c_seq ?_
            refine c_region ?_
            refine l_step (s_q rfl wn (q_lss rfl rfl) ?_)
            refine l_nil ?_
            refine k_then_n ?_
            refine c_seq ?_
            first | refine c_if rfl (fun h1 => ?_) (fun h1 => ?_) | refine c_cond rfl (fun h1 => ?_) (fun h1 => ?_)
            · skip
              refine c_skip ?_
              refine k_then_n ?_
              refine c_seq ?_
              refine c_block ?_
              refine c_seq ?_
              refine c_region ?_
              refine l_step (s_q rfl wn (q_move rfl) ?_)
              refine l_step (s_q rfl wn (q_indexe _ Try.underlying40 sz_3 rfl rfl (by first | assumption | exact rd_ro (by assumption) | exact rd_row (by repeat (first | exact Pick.here | apply Pick.there))) (by decide) rfl (by first | assumption | omega)) ?_)
              refine l_step (s_q rfl wn (by first | exact q_loadp sc_3 rfl (by repeat (first | exact Pick.here | apply Pick.there)) rfl | exact q_loade sc_3 rfl (by first | assumption | exact rd_ro (by assumption) | exact rd_row (by repeat (first | exact Pick.here | apply Pick.there))) (fun _ => rfl) (by first | assumption | omega) (by decide) rfl) ?_)
              refine l_step (s_q rfl wn (q_assign rfl) ?_)
              refine l_step (s_q rfl wn (q_assign rfl) ?_)
              refine l_nil ?_
              refine k_then_n ?_
              refine c_seq ?_
              refine c_region ?_
              refine l_step (s_q rfl wn (q_move rfl) ?_)
              refine l_step (s_q rfl wn (q_lss rfl rfl) ?_)
              refine l_step (s_q rfl wn (q_move rfl) ?_)
              first | refine t_splitd (d := 38) rfl (fun g6_2 => ?_) (fun g6_2 => ?_) | refine t_split (d := 38) rfl (fun g6_2 => ?_) (fun g6_2 => ?_)
              · skip
                refine l_step (s_no rfl (wno rfl rfl (by decide)) ?_)
                refine l_step (s_no rfl (wno rfl rfl (by decide)) ?_)
                refine l_step (s_no rfl (wno rfl rfl (by decide)) ?_)
                refine l_step (s_no rfl (wno rfl rfl (by decide)) ?_)
                refine l_step (s_no rfl (wno rfl rfl (by decide)) ?_)
                refine l_step (s_q rfl wn (q_pick rfl rfl rfl) ?_)
                refine l_nil ?_
                refine k_then_n ?_
                refine c_yes rfl ?_
                refine c_seq ?_
                refine c_region ?_
                refine l_step (s_q rfl wn (q_assign rfl) ?_)
                refine l_step (s_q rfl wn (q_assign rfl) ?_)
                refine l_nil ?_
                refine k_then_n ?_
                refine c_ret ?_
                refine k_blk_r ?_
                refine k_then_r ?_
                refine k_then_r ?_
                refine k_blk_r ?_
                refine k_then_r ?_
                exact t_ret Γ rfl (.tmp rfl (.tmp rfl .nil)) rfl (Hp.le_refl _) ⟨rfl, .inr ⟨by intro hN; unfold newOk at hN; obtain ⟨⟨n1, n2, n3, n4, n5⟩, n6, n7⟩ := hN; first | omega | (exact n5 (List.eq_nil_of_length_eq_zero (by omega))) | (have := n6 _ (getD_mem s.xs k (by omega)); omega) | (exact not_nodup (by omega) (of_decide_eq_true h2) n7), rfl, rfl⟩⟩ (by (repeat refine Ent.skip ?_); exact Ent.refl _)
              · skip
                refine l_step (s_q rfl (wy rfl rfl rfl) (q_move rfl) ?_)
                refine l_step (s_q rfl (wy rfl rfl rfl) (q_move rfl) ?_)
                refine l_step (s_q rfl (wy rfl rfl rfl) (q_cut_hi Try.underlying40 sz_3 rfl rfl (by omega) (by omega)) ?_)
                refine l_step (s_q rfl (wy rfl rfl rfl) (q_move rfl) ?_)
                refine l_step (s_fn rfl (wy rfl rfl rfl) Try.func55 rfl (by kernel_rfl) rfl (con_spec s.a k s.cap (s.xs.take k) (by rw [List.length_take]; omega) (by omega) _ ρ _ (rd_takee (en := encI) (sz := 1) (fun _ => rfl) rd k (by omega))) (sel_app Γ Δ) ?_)
                rintro _ _ _ - ⟨rfl, rfl, rfl⟩
                refine l_step (s_q rfl wn (q_pick rfl rfl rfl) ?_)
                refine l_nil ?_
                refine k_then_n ?_
                refine c_cond rfl (fun h2 => ?_) (fun h2 => ?_)
                · skip
                  refine c_seq ?_
                  refine c_region ?_
                  refine l_step (s_q rfl wn (q_assign rfl) ?_)
                  refine l_step (s_q rfl wn (q_assign rfl) ?_)
                  refine l_nil ?_
                  refine k_then_n ?_
                  refine c_ret ?_
                  refine k_blk_r ?_
                  refine k_then_r ?_
                  refine k_then_r ?_
                  refine k_blk_r ?_
                  refine k_then_r ?_
                  exact t_ret Γ rfl (.tmp rfl (.tmp rfl .nil)) rfl (Hp.le_refl _) ⟨rfl, .inr ⟨by intro hN; unfold newOk at hN; obtain ⟨⟨n1, n2, n3, n4, n5⟩, n6, n7⟩ := hN; first | omega | (exact n5 (List.eq_nil_of_length_eq_zero (by omega))) | (have := n6 _ (getD_mem s.xs k (by omega)); omega) | (exact not_nodup (by omega) (of_decide_eq_true h2) n7), rfl, rfl⟩⟩ (by (repeat refine Ent.skip ?_); exact Ent.refl _)
                · skip
                  refine c_skip ?_
                  refine k_blk_n ?_
                  refine k_then_n ?_
                  refine c_region ?_
                  refine l_step (s_q rfl wn (by first | exact q_add rfl rfl (by omega) (by omega) | exact q_addw rfl rfl) ?_)
                  refine l_step (s_q rfl wn (q_move rfl) ?_)
                  refine l_nil ?_
                  refine k_then_n ?_
                  exact t_next (k + 1) ⟨⟨by omega, nonneg_take_succ (by omega) hk2 g6_2, nodup_take_succ (by omega) hk4 (of_decide_eq_false h2)⟩, by omega⟩ (.cons rfl (by first | rfl | (simp; done) | simp [*]) (.cons rfl (by first | rfl | (simp; done) | simp [*]) (.cons rfl (by first | rfl | (simp; done) | simp [*]) (.cons rfl (by first | rfl | (simp; done) | simp [*]) (.cons rfl (by first | rfl | (simp; done) | simp [*]) (.cons rfl (by first | rfl | (simp; done) | simp [*]) (.nil _))))))) (by repeat (first | exact Ent.nil _ | exact Ent.refl _ | (refine Ent.pick (by repeat (first | exact Pick.here | apply Pick.there)) ?_) | refine Ent.skip ?_))
            · skip
              have hk3 : k = s.xs.length := by omega
              rw [hk3, List.take_length] at hk2 hk4
              refine c_exit ?_
              refine k_then_x ?_
              refine k_then_x ?_
              refine k_blk_x ?_
              refine k_then_n ?_
              refine c_seq ?_
              refine c_region ?_
              refine l_step (s_q rfl wn (q_move rfl) ?_)
              refine l_step (s_q rfl wn (q_move rfl) ?_)
              refine l_step (s_q rfl wn (q_move rfl) ?_)
              refine l_step (s_fn rfl wn Try.func56 rfl (by kernel_rfl) rfl (cloneI_spec s hl ρ Γ rd) (sel_app Γ Δ) ?_)
              rintro _ _ _ - ⟨rfl, a49, c49, rfl, rfl⟩
              simp only [List.cons_append]
              refine l_step (s_q rfl wn (q_build (cs := [_, _, _, _, _, _, _, _, _, _, _, _, _, _, _, _, _, _, _, _, _, _, _, _, _, _, _, _, _, _, _, _, _, _]) zc_122 pl_122 rfl rfl) ?_)
              refine l_step (s_s rfl wn (s_box rfl rfl) ?_)
              rintro _ _ ⟨b51, rfl, rfl⟩
              refine l_step (s_q rfl wn (q_assign rfl) ?_)
              refine l_step (s_q rfl wn (q_assign rfl) ?_)
              refine l_nil ?_
              refine k_then_n ?_
              refine c_ret ?_
              exact t_ret ((CliM 3 122 b51 (Cl.new id span ⟨a49, s.xs, c49⟩)) ++ Γ) rfl (.tmp rfl (.tmp rfl .nil)) rfl (Hp.le_refl _) ⟨rfl, .inl ⟨⟨⟨by omega, by omega, by omega, by omega, fun hN => by rw [hN] at h0; simp at h0⟩, hk2, hk4⟩, b51, a49, c49, rfl, rfl⟩⟩ (by simp only [CliM, List.cons_append, List.nil_append]; exact Ent.pick Pick.here (Ent.pick Pick.here (Ent.trans (Ent.raw (A := AskMem ⟨none, [], 0⟩) askMem_nil _) (Ent.refl _))))

theorem right_spec (id span : Int) (s : SL Int) (ρ : Hp) (Γ : List Asn) (rd : Rd ρ Γ 1 s.a s.xs.length s.cap (s.xs.flatMap encI)) : Spec0 Try.prog 22 #[.int .i64 id, .int .i64 span, .slice s.a s.xs.length s.cap] ρ Γ (fun v Γ' => v = .bool (decide (newOk id span s.xs)) ∧ Γ = Γ') := by
  refine spec_of (n := 53) (vs := [_, _, _]) (σ := [(0, _), (1, _), (2, _)]) Try.func22 rfl rfl rfl rfl fun E Δ => ?_
  have rd2 := rd_up rd (Ent.app Γ Δ)
  refine t_rd rd2 fun _ hcap hmax _ => ?_
  have hmx : maxLen ≤ 9223372036854775807 := by decide
  refine c_seq ?_
  refine c_region ?_
  refine l_step (s_q rfl wn (q_assign rfl) ?_)
  refine l_nil ?_
  refine k_then_n ?_
  refine c_seq ?_
  refine c_seq ?_
  refine c_region ?_
  refine l_step (s_q rfl wn (q_assign rfl) ?_)
  refine l_nil ?_
  refine k_then_n ?_
  refine c_block ?_
  refine t_loop (ι := Nat) (fun k => k ≤ s.xs.length ∧ (∀ z ∈ s.xs.take k, 0 ≤ z) ∧ (s.xs.take k).Nodup) (fun k => s.xs.length - k) (fun k => [(0, .int .i64 id), (1, .int .i64 span), (2, .slice s.a s.xs.length s.cap), (7, .int .i64 (k : Int))]) (fun k => Γ ++ Δ) 0 ⟨Nat.zero_le _, by simp, by simp⟩ ?_ ?_ ?_
  · exact .cons rfl (by first | rfl | (simp; done) | simp [*]) (.cons rfl (by first | rfl | (simp; done) | simp [*]) (.cons rfl (by first | rfl | (simp; done) | simp [*]) (.cons rfl (by first | rfl | (simp; done) | simp [*]) (.nil _))))
  · exact (by repeat (first | exact Ent.nil _ | exact Ent.refl _ | (refine Ent.pick (by repeat (first | exact Pick.here | apply Pick.there)) ?_) | refine Ent.skip ?_))
  intro k hk
  obtain ⟨hk1, hk2, hk4⟩ := hk
  refine c_seq ?_
  refine c_seq ?_
  refine c_region ?_
  refine l_step (s_q rfl wn (q_move rfl) ?_)
  refine l_step (s_q rfl wn (q_move rfl) ?_)
  refine l_step (s_q rfl wn (q_len Try.underlying40 rfl) ?_)
  refine l_step (s_q rfl wn (q_lss rfl rfl) ?_)
  refine l_nil ?_
  refine k_then_n ?_
  first | refine c_if rfl (fun h0 => ?_) (fun h0 => ?_) | refine c_cond rfl (fun h0 => ?_) (fun h0 => ?_)
  · skip
    refine c_skip ?_
    refine k_then_n ?_
    refine c_seq ?_
    refine c_block ?_
    refine c_seq ?_
    refine c_seq ?_
    refine c_region ?_
    refine l_step (s_q rfl wn (q_assign rfl) ?_)
    refine l_nil ?_
    refine k_then_n ?_
    refine c_block ?_
    refine t_loop (ι := Nat) (fun j => j ≤ k ∧ ¬ s.xs.getD k default ∈ s.xs.take j) (fun j => k - j) (fun j => [(0, .int .i64 id), (1, .int .i64 span), (2, .slice s.a s.xs.length s.cap), (7, .int .i64 (k : Int)), (8, .int .i64 (j : Int))]) (fun j => Γ ++ Δ) 0 ⟨Nat.zero_le _, by simp⟩ ?_ ?_ ?_
    · exact .cons rfl (by first | rfl | (simp; done) | simp [*]) (.cons rfl (by first | rfl | (simp; done) | simp [*]) (.cons rfl (by first | rfl | (simp; done) | simp [*]) (.cons rfl (by first | rfl | (simp; done) | simp [*]) (.cons rfl (by first | rfl | (simp; done) | simp [*]) (.nil _)))))
    · exact (by repeat (first | exact Ent.nil _ | exact Ent.refl _ | (refine Ent.pick (by repeat (first | exact Pick.here | apply Pick.there)) ?_) | refine Ent.skip ?_))
    intro j hj
    obtain ⟨hj1, hj2⟩ := hj
    refine c_seq ?_
    refine c_seq ?_
    refine c_region ?_
    refine l_step (s_q rfl wn (q_move rfl) ?_)
    refine l_step (s_q rfl wn (q_move rfl) ?_)
    refine l_step (s_q rfl wn (q_lss rfl rfl) ?_)
    refine l_nil ?_
    refine k_then_n ?_
    first | refine c_if rfl (fun h1 => ?_) (fun h1 => ?_) | refine c_cond rfl (fun h1 => ?_) (fun h1 => ?_)
    · skip
      refine c_skip ?_
      refine k_then_n ?_
      refine c_seq ?_
      refine c_block ?_
      refine c_seq ?_
      refine c_drawG (m := 9) (bs := #[false, false, false, false, false, false, false, false, false]) (by kernel_rfl) rfl (by kernel_rfl) ?_
      refine r_take (i := 0) (bs' := #[true, false, false, false, false, false, false, false, false]) rfl (by kernel_rfl) (by kernel_rfl) (by kernel_rfl) (fun _ _ _ h => h) rfl wn (q_move rfl) (Hp.le_refl _) (by repeat (first | exact Ent.nil _ | exact Ent.refl _ | (refine Ent.pick (by repeat (first | exact Pick.here | apply Pick.there)) ?_) | refine Ent.skip ?_)) (by kernel_rfl) ?_
      refine r_take (i := 1) (bs' := #[true, true, false, false, false, false, false, false, false]) rfl (by kernel_rfl) (by kernel_rfl) (by kernel_rfl) (fun _ _ _ h => h) rfl wn (q_move rfl) (Hp.le_refl _) (by repeat (first | exact Ent.nil _ | exact Ent.refl _ | (refine Ent.pick (by repeat (first | exact Pick.here | apply Pick.there)) ?_) | refine Ent.skip ?_)) (by kernel_rfl) ?_
      refine r_take (i := 2) (bs' := #[true, true, true, false, false, false, false, false, false]) rfl (by kernel_rfl) (by kernel_rfl) (by kernel_rfl) (fun _ _ _ h => h) rfl wn (q_indexe _ Try.underlying40 sz_3 rfl rfl (by first | assumption | exact rd_ro (by assumption) | exact rd_row (by repeat (first | exact Pick.here | apply Pick.there))) (by decide) rfl (by first | assumption | omega)) (Hp.le_refl _) (by repeat (first | exact Ent.nil _ | exact Ent.refl _ | (refine Ent.pick (by repeat (first | exact Pick.here | apply Pick.there)) ?_) | refine Ent.skip ?_)) (by kernel_rfl) ?_
      refine r_take (i := 3) (bs' := #[true, true, true, true, false, false, false, false, false]) rfl (by kernel_rfl) (by kernel_rfl) (by kernel_rfl) (fun _ _ _ h => h) rfl wn (by first | exact q_loadp sc_3 rfl (by repeat (first | exact Pick.here | apply Pick.there)) rfl | exact q_loade sc_3 rfl (by first | assumption | exact rd_ro (by assumption) | exact rd_row (by repeat (first | exact Pick.here | apply Pick.there))) (fun _ => rfl) (by first | assumption | omega) (by decide) rfl) (Hp.le_refl _) (by repeat (first | exact Ent.nil _ | exact Ent.refl _ | (refine Ent.pick (by repeat (first | exact Pick.here | apply Pick.there)) ?_) | refine Ent.skip ?_)) (by kernel_rfl) ?_
      refine r_take (i := 4) (bs' := #[true, true, true, true, true, false, false, false, false]) rfl (by kernel_rfl) (by kernel_rfl) (by kernel_rfl) (fun _ _ _ h => h) rfl wn (q_move rfl) (Hp.le_refl _) (by repeat (first | exact Ent.nil _ | exact Ent.refl _ | (refine Ent.pick (by repeat (first | exact Pick.here | apply Pick.there)) ?_) | refine Ent.skip ?_)) (by kernel_rfl) ?_
      refine r_take (i := 5) (bs' := #[true, true, true, true, true, true, false, false, false]) rfl (by kernel_rfl) (by kernel_rfl) (by kernel_rfl) (fun _ _ _ h => h) rfl wn (q_move rfl) (Hp.le_refl _) (by repeat (first | exact Ent.nil _ | exact Ent.refl _ | (refine Ent.pick (by repeat (first | exact Pick.here | apply Pick.there)) ?_) | refine Ent.skip ?_)) (by kernel_rfl) ?_
      refine r_take (i := 6) (bs' := #[true, true, true, true, true, true, true, false, false]) rfl (by kernel_rfl) (by kernel_rfl) (by kernel_rfl) (fun _ _ _ h => h) rfl wn (q_indexe _ Try.underlying40 sz_3 rfl rfl (by first | assumption | exact rd_ro (by assumption) | exact rd_row (by repeat (first | exact Pick.here | apply Pick.there))) (by decide) rfl (by first | assumption | omega)) (Hp.le_refl _) (by repeat (first | exact Ent.nil _ | exact Ent.refl _ | (refine Ent.pick (by repeat (first | exact Pick.here | apply Pick.there)) ?_) | refine Ent.skip ?_)) (by kernel_rfl) ?_
      refine r_take (i := 7) (bs' := #[true, true, true, true, true, true, true, true, false]) rfl (by kernel_rfl) (by kernel_rfl) (by kernel_rfl) (fun _ _ _ h => h) rfl wn (by first | exact q_loadp sc_3 rfl (by repeat (first | exact Pick.here | apply Pick.there)) rfl | exact q_loade sc_3 rfl (by first | assumption | exact rd_ro (by assumption) | exact rd_row (by repeat (first | exact Pick.here | apply Pick.there))) (fun _ => rfl) (by first | assumption | omega) (by decide) rfl) (Hp.le_refl _) (by repeat (first | exact Ent.nil _ | exact Ent.refl _ | (refine Ent.pick (by repeat (first | exact Pick.here | apply Pick.there)) ?_) | refine Ent.skip ?_)) (by kernel_rfl) ?_
      refine r_take (i := 8) (bs' := #[true, true, true, true, true, true, true, true, true]) rfl (by kernel_rfl) (by kernel_rfl) (by kernel_rfl) (fun _ _ _ h => h) rfl wn (q_eql rfl rfl) (Hp.le_refl _) (by repeat (first | exact Ent.nil _ | exact Ent.refl _ | (refine Ent.pick (by repeat (first | exact Pick.here | apply Pick.there)) ?_) | refine Ent.skip ?_)) (by kernel_rfl) ?_
      refine r_done (by kernel_rfl) ?_
      refine k_then_n ?_
      first | refine c_if rfl (fun h2 => ?_) (fun h2 => ?_) | refine c_cond rfl (fun h2 => ?_) (fun h2 => ?_)
      · skip
        refine c_seq ?_
        refine c_region ?_
        refine l_step (s_q rfl wn (q_assign rfl) ?_)
        refine l_nil ?_
        refine k_then_n ?_
        refine c_ret ?_
        refine k_blk_r ?_
        refine k_then_r ?_
        refine k_then_r ?_
        refine k_blk_r ?_
        refine k_then_r ?_
        refine k_blk_r ?_
        refine k_then_r ?_
        refine k_then_r ?_
        refine k_blk_r ?_
        refine k_then_r ?_
        exact t_ret Γ rfl (.tmp rfl .nil) rfl (Hp.le_refl _) ⟨rfl, congrArg Value.bool (decide_eq_false (by intro hN; exact not_nodup (k := k) (by omega) (by rw [← h2]; exact mem_take_of (by omega) (by omega)) hN.2.2)).symm, rfl⟩ (by (repeat refine Ent.skip ?_); exact Ent.refl _)
      · skip
        refine c_skip ?_
        refine k_blk_n ?_
        refine k_then_n ?_
        refine c_region ?_
        refine l_step (s_q rfl wn (q_move rfl) ?_)
        refine l_step (s_q rfl wn (by first | exact q_add rfl rfl (by omega) (by omega) | exact q_addw rfl rfl) ?_)
        refine l_step (s_q rfl wn (q_assign rfl) ?_)
        refine l_nil ?_
        refine k_then_n ?_
        exact t_next (j + 1) ⟨⟨by omega, not_take_succ (by omega) hj2 (fun e => h2 e.symm)⟩, by omega⟩ (.cons rfl (by first | rfl | (simp; done) | simp [*]) (.cons rfl (by first | rfl | (simp; done) | simp [*]) (.cons rfl (by first | rfl | (simp; done) | simp [*]) (.cons rfl (by first | rfl | (simp; done) | simp [*]) (.cons rfl (by first | rfl | (simp; done) | simp [*]) (.nil _)))))) (by repeat (first | exact Ent.nil _ | exact Ent.refl _ | (refine Ent.pick (by repeat (first | exact Pick.here | apply Pick.there)) ?_) | refine Ent.skip ?_))
    · skip
      have hj3 : j = k := by omega
      have hj4 : ¬ s.xs.getD k default ∈ s.xs.take k := hj3 ▸ hj2
      refine c_exit ?_
      refine k_then_x ?_
      refine k_then_x ?_
      refine k_blk_x ?_
      refine k_then_n ?_
      refine c_seq ?_
      refine c_region ?_
      refine l_step (s_q rfl wn (q_move rfl) ?_)
      refine l_step (s_q rfl wn (q_move rfl) ?_)
      refine l_step (s_q rfl wn (q_indexe _ Try.underlying40 sz_3 rfl rfl (by first | assumption | exact rd_ro (by assumption) | exact rd_row (by repeat (first | exact Pick.here | apply Pick.there))) (by decide) rfl (by first | assumption | omega)) ?_)
      refine l_step (s_q rfl wn (by first | exact q_loadp sc_3 rfl (by repeat (first | exact Pick.here | apply Pick.there)) rfl | exact q_loade sc_3 rfl (by first | assumption | exact rd_ro (by assumption) | exact rd_row (by repeat (first | exact Pick.here | apply Pick.there))) (fun _ => rfl) (by first | assumption | omega) (by decide) rfl) ?_)
      refine l_step (s_q rfl wn (q_lss rfl rfl) ?_)
      refine l_nil ?_
      refine k_then_n ?_
      first | refine c_if rfl (fun h3 => ?_) (fun h3 => ?_) | refine c_cond rfl (fun h3 => ?_) (fun h3 => ?_)
      · skip
        refine c_seq ?_
        refine c_region ?_
        refine l_step (s_q rfl wn (q_assign rfl) ?_)
        refine l_nil ?_
        refine k_then_n ?_
        refine c_ret ?_
        refine k_blk_r ?_
        refine k_then_r ?_
        refine k_then_r ?_
        refine k_blk_r ?_
        refine k_then_r ?_
        exact t_ret Γ rfl (.tmp rfl .nil) rfl (Hp.le_refl _) ⟨rfl, congrArg Value.bool (decide_eq_false (by intro hN; have := hN.2.1 _ (getD_mem s.xs k (by omega)); omega)).symm, rfl⟩ (by (repeat refine Ent.skip ?_); exact Ent.refl _)
      · skip
        refine c_skip ?_
        refine k_blk_n ?_
        refine k_then_n ?_
        refine c_region ?_
        refine l_step (s_q rfl wn (q_move rfl) ?_)
        refine l_step (s_q rfl wn (by first | exact q_add rfl rfl (by omega) (by omega) | exact q_addw rfl rfl) ?_)
        refine l_step (s_q rfl wn (q_assign rfl) ?_)
        refine l_nil ?_
        refine k_then_n ?_
        exact t_next (k + 1) ⟨⟨by omega, nonneg_take_succ (by omega) hk2 h3, nodup_take_succ (by omega) hk4 hj4⟩, by omega⟩ (.cons rfl (by first | rfl | (simp; done) | simp [*]) (.cons rfl (by first | rfl | (simp; done) | simp [*]) (.cons rfl (by first | rfl | (simp; done) | simp [*]) (.cons rfl (by first | rfl | (simp; done) | simp [*]) (.nil _))))) (by repeat (first | exact Ent.nil _ | exact Ent.refl _ | (refine Ent.pick (by repeat (first | exact Pick.here | apply Pick.there)) ?_) | refine Ent.skip ?_))
  · skip
    have hk3 : k = s.xs.length := by omega
    rw [hk3, List.take_length] at hk2 hk4
    refine c_exit ?_
    refine k_then_x ?_
    refine k_then_x ?_
    refine k_blk_x ?_
    refine k_then_n ?_
    refine c_seq ?_
    refine c_region ?_
    refine l_step (s_q rfl wn (q_move rfl) ?_)
    refine l_step (s_q rfl wn (q_geq rfl rfl) ?_)
    refine l_step (s_q rfl wn (q_move rfl) ?_)
    first | refine t_splitd (d := 36) rfl (fun g11_2 => ?_) (fun g11_2 => ?_) | refine t_split (d := 36) rfl (fun g11_2 => ?_) (fun g11_2 => ?_)
    · skip
      refine l_step (s_q rfl (wy rfl rfl rfl) (q_move rfl) ?_)
      refine l_step (s_q rfl (wy rfl rfl rfl) (q_lss rfl rfl) ?_)
      refine l_step (s_q rfl wn (q_pick rfl rfl rfl) ?_)
      refine l_step (s_q rfl wn (q_move rfl) ?_)
      first | refine t_splitd (d := 40) rfl (fun g11_6 => ?_) (fun g11_6 => ?_) | refine t_split (d := 40) rfl (fun g11_6 => ?_) (fun g11_6 => ?_)
      · skip
        refine l_step (s_q rfl (wy rfl rfl rfl) (q_move rfl) ?_)
        refine l_step (s_q rfl (wy rfl rfl rfl) (q_gtr rfl rfl) ?_)
        refine l_step (s_q rfl wn (q_pick rfl rfl rfl) ?_)
        refine l_step (s_q rfl wn (q_move rfl) ?_)
        first | refine t_splitd (d := 44) rfl (fun g11_10 => ?_) (fun g11_10 => ?_) | refine t_split (d := 44) rfl (fun g11_10 => ?_) (fun g11_10 => ?_)
        · skip
          refine l_step (s_q rfl (wy rfl rfl rfl) (q_move rfl) ?_)
          refine l_step (s_q rfl (wy rfl rfl rfl) (q_leq rfl rfl) ?_)
          refine l_step (s_q rfl wn (q_pick rfl rfl rfl) ?_)
          refine l_step (s_q rfl wn (q_move rfl) ?_)
          first | refine t_splitd (d := 48) rfl (fun g11_14 => ?_) (fun g11_14 => ?_) | refine t_split (d := 48) rfl (fun g11_14 => ?_) (fun g11_14 => ?_)
          · skip
            refine l_step (s_q rfl (wy rfl rfl rfl) (q_move rfl) ?_)
            refine l_step (s_q rfl (wy rfl rfl rfl) (q_len Try.underlying40 rfl) ?_)
            refine l_step (s_q rfl (wy rfl rfl rfl) (q_gtr rfl rfl) ?_)
            refine l_step (s_q rfl wn (q_pick rfl rfl rfl) ?_)
            refine l_step (s_q rfl wn (q_assign rfl) ?_)
            refine l_nil ?_
            refine k_then_n ?_
            refine c_ret ?_
            exact t_ret Γ rfl (.tmp rfl .nil) rfl (Hp.le_refl _) ⟨rfl, congrArg Value.bool (by simp only [decide_eq_decide, decide_eq_true_eq]; unfold newOk; constructor <;> intro hN <;> first | exact ⟨⟨by omega, by omega, by omega, by omega, fun e => by rw [e] at hN; simp at hN⟩, hk2, hk4⟩ | exact (by have := List.length_pos_iff.2 hN.1.2.2.2.2; omega)), rfl⟩ (by (repeat refine Ent.skip ?_); exact Ent.refl _)
          · skip
            refine l_step (s_no rfl (wno rfl rfl (by decide)) ?_)
            refine l_step (s_no rfl (wno rfl rfl (by decide)) ?_)
            refine l_step (s_no rfl (wno rfl rfl (by decide)) ?_)
            refine l_step (s_q rfl wn (q_pick rfl rfl rfl) ?_)
            refine l_step (s_q rfl wn (q_assign rfl) ?_)
            refine l_nil ?_
            refine k_then_n ?_
            refine c_ret ?_
            exact t_ret Γ rfl (.tmp rfl .nil) rfl (Hp.le_refl _) ⟨rfl, congrArg Value.bool (decide_eq_false (by intro hN; obtain ⟨⟨n1, n2, n3, n4, n5⟩, n6, n7⟩ := hN; omega)).symm, rfl⟩ (by (repeat refine Ent.skip ?_); exact Ent.refl _)
        · skip
          refine l_step (s_no rfl (wno rfl rfl (by decide)) ?_)
          refine l_step (s_no rfl (wno rfl rfl (by decide)) ?_)
          refine l_step (s_q rfl wn (q_pick rfl rfl rfl) ?_)
          refine l_step (s_q rfl wn (q_move rfl) ?_)
          skip
          refine l_step (s_no rfl (wno rfl rfl (by decide)) ?_)
          refine l_step (s_no rfl (wno rfl rfl (by decide)) ?_)
          refine l_step (s_no rfl (wno rfl rfl (by decide)) ?_)
          refine l_step (s_q rfl wn (q_pick rfl rfl rfl) ?_)
          refine l_step (s_q rfl wn (q_assign rfl) ?_)
          refine l_nil ?_
          refine k_then_n ?_
          refine c_ret ?_
          exact t_ret Γ rfl (.tmp rfl .nil) rfl (Hp.le_refl _) ⟨rfl, congrArg Value.bool (decide_eq_false (by intro hN; obtain ⟨⟨n1, n2, n3, n4, n5⟩, n6, n7⟩ := hN; omega)).symm, rfl⟩ (by (repeat refine Ent.skip ?_); exact Ent.refl _)
      · skip
        refine l_step (s_no rfl (wno rfl rfl (by decide)) ?_)
        refine l_step (s_no rfl (wno rfl rfl (by decide)) ?_)
        refine l_step (s_q rfl wn (q_pick rfl rfl rfl) ?_)
        refine l_step (s_q rfl wn (q_move rfl) ?_)
        skip
        refine l_step (s_no rfl (wno rfl rfl (by decide)) ?_)
        refine l_step (s_no rfl (wno rfl rfl (by decide)) ?_)
        refine l_step (s_q rfl wn (q_pick rfl rfl rfl) ?_)
        refine l_step (s_q rfl wn (q_move rfl) ?_)
        skip
        refine l_step (s_no rfl (wno rfl rfl (by decide)) ?_)
        refine l_step (s_no rfl (wno rfl rfl (by decide)) ?_)
        refine l_step (s_no rfl (wno rfl rfl (by decide)) ?_)
        refine l_step (s_q rfl wn (q_pick rfl rfl rfl) ?_)
        refine l_step (s_q rfl wn (q_assign rfl) ?_)
        refine l_nil ?_
        refine k_then_n ?_
        refine c_ret ?_
        exact t_ret Γ rfl (.tmp rfl .nil) rfl (Hp.le_refl _) ⟨rfl, congrArg Value.bool (decide_eq_false (by intro hN; obtain ⟨⟨n1, n2, n3, n4, n5⟩, n6, n7⟩ := hN; omega)).symm, rfl⟩ (by (repeat refine Ent.skip ?_); exact Ent.refl _)
    · skip
      refine l_step (s_no rfl (wno rfl rfl (by decide)) ?_)
      refine l_step (s_no rfl (wno rfl rfl (by decide)) ?_)
      refine l_step (s_q rfl wn (q_pick rfl rfl rfl) ?_)
      refine l_step (s_q rfl wn (q_move rfl) ?_)
      skip
      refine l_step (s_no rfl (wno rfl rfl (by decide)) ?_)
      refine l_step (s_no rfl (wno rfl rfl (by decide)) ?_)
      refine l_step (s_q rfl wn (q_pick rfl rfl rfl) ?_)
      refine l_step (s_q rfl wn (q_move rfl) ?_)
      skip
      refine l_step (s_no rfl (wno rfl rfl (by decide)) ?_)
      refine l_step (s_no rfl (wno rfl rfl (by decide)) ?_)
      refine l_step (s_q rfl wn (q_pick rfl rfl rfl) ?_)
      refine l_step (s_q rfl wn (q_move rfl) ?_)
      skip
      refine l_step (s_no rfl (wno rfl rfl (by decide)) ?_)
      refine l_step (s_no rfl (wno rfl rfl (by decide)) ?_)
      refine l_step (s_no rfl (wno rfl rfl (by decide)) ?_)
      refine l_step (s_q rfl wn (q_pick rfl rfl rfl) ?_)
      refine l_step (s_q rfl wn (q_assign rfl) ?_)
      refine l_nil ?_
      refine k_then_n ?_
      refine c_ret ?_
      exact t_ret Γ rfl (.tmp rfl .nil) rfl (Hp.le_refl _) ⟨rfl, congrArg Value.bool (decide_eq_false (by intro hN; obtain ⟨⟨n1, n2, n3, n4, n5⟩, n6, n7⟩ := hN; omega)).symm, rfl⟩ (by (repeat refine Ent.skip ?_); exact Ent.refl _)

theorem next_spec (b : Nat) (c : Cl) (h : c.at_ < c.row.xs.length) (hl : c.row.xs.length ≤ 1000000000) (ρ : Hp) : Spec0 Try.prog 58 #[.pointer (some ⟨b, 0, none⟩)] ρ [.pts b (encCli c) 122] (fun v Γ' => v = .tuple #[] ∧ Γ' = [.pts b (encCli (nextF c)) 122]) := by
  refine spec_of (n := 16) (vs := [_]) (σ := [(0, _)]) Try.func58 rfl rfl rfl rfl fun E Δ => ?_
  simp only [List.cons_append, List.nil_append]
  refine c_draw (m := 15) (bs := #[false, false, false, false, false, false, false, false, false, false, false, false, false, false, false]) [] (by kernel_rfl) rfl (by kernel_rfl) ?_
  refine r_take (i := 0) (bs' := #[true, false, false, false, false, false, false, false, false, false, false, false, false, false, false]) rfl (by kernel_rfl) (by kernel_rfl) (by kernel_rfl) (fun _ _ _ h => h) rfl wn (q_move rfl) (Hp.le_refl _) (by repeat (first | exact Ent.nil _ | exact Ent.refl _ | (refine Ent.pick (by repeat (first | exact Pick.here | apply Pick.there)) ?_) | refine Ent.skip ?_)) (by kernel_rfl) ?_
  refine r_take (i := 1) (bs' := #[true, true, false, false, false, false, false, false, false, false, false, false, false, false, false]) rfl (by kernel_rfl) (by kernel_rfl) (by kernel_rfl) (fun _ _ _ h => h) rfl wn (q_move rfl) (Hp.le_refl _) (by repeat (first | exact Ent.nil _ | exact Ent.refl _ | (refine Ent.pick (by repeat (first | exact Pick.here | apply Pick.there)) ?_) | refine Ent.skip ?_)) (by kernel_rfl) ?_
  refine r_take (i := 2) (bs' := #[true, true, true, false, false, false, false, false, false, false, false, false, false, false, false]) rfl (by kernel_rfl) (by kernel_rfl) (by kernel_rfl) (fun _ _ _ h => h) rfl wn (q_nilCheck rfl) (Hp.le_refl _) (by repeat (first | exact Ent.nil _ | exact Ent.refl _ | (refine Ent.pick (by repeat (first | exact Pick.here | apply Pick.there)) ?_) | refine Ent.skip ?_)) (by kernel_rfl) ?_
  refine r_take (i := 3) (bs' := #[true, true, true, true, false, false, false, false, false, false, false, false, false, false, false]) rfl (by kernel_rfl) (by kernel_rfl) (by kernel_rfl) (fun _ _ _ h => h) rfl wn (by first | exact q_fieldp rfl fo_122_3 | exact q_fielde rfl fo_122_3 | exact q_fieldr rfl fo_122_3) (Hp.le_refl _) (by repeat (first | exact Ent.nil _ | exact Ent.refl _ | (refine Ent.pick (by repeat (first | exact Pick.here | apply Pick.there)) ?_) | refine Ent.skip ?_)) (by kernel_rfl) ?_
  refine r_take (i := 6) (bs' := #[true, true, true, true, false, false, true, false, false, false, false, false, false, false, false]) rfl (by kernel_rfl) (by kernel_rfl) (by kernel_rfl) (fun _ _ _ h => h) rfl wn (q_move rfl) (Hp.le_refl _) (by repeat (first | exact Ent.nil _ | exact Ent.refl _ | (refine Ent.pick (by repeat (first | exact Pick.here | apply Pick.there)) ?_) | refine Ent.skip ?_)) (by kernel_rfl) ?_
  refine r_take (i := 7) (bs' := #[true, true, true, true, false, false, true, true, false, false, false, false, false, false, false]) rfl (by kernel_rfl) (by kernel_rfl) (by kernel_rfl) (fun _ _ _ h => h) rfl wn (q_nilCheck rfl) (Hp.le_refl _) (by repeat (first | exact Ent.nil _ | exact Ent.refl _ | (refine Ent.pick (by repeat (first | exact Pick.here | apply Pick.there)) ?_) | refine Ent.skip ?_)) (by kernel_rfl) ?_
  refine r_take (i := 8) (bs' := #[true, true, true, true, false, false, true, true, true, false, false, false, false, false, false]) rfl (by kernel_rfl) (by kernel_rfl) (by kernel_rfl) (fun _ _ _ h => h) rfl wn (by first | exact q_fieldp rfl fo_122_2 | exact q_fielde rfl fo_122_2 | exact q_fieldr rfl fo_122_2) (Hp.le_refl _) (by repeat (first | exact Ent.nil _ | exact Ent.refl _ | (refine Ent.pick (by repeat (first | exact Pick.here | apply Pick.there)) ?_) | refine Ent.skip ?_)) (by kernel_rfl) ?_
  refine r_two (i := 4) (j := 9) (bi := #[true, true, true, true, true, false, true, true, true, false, false, false, false, false, false]) (bj := #[true, true, true, true, false, false, true, true, true, true, false, false, false, false, false]) (by kernel_rfl) (by kernel_rfl) (by kernel_rfl) ?_ ?_
  · skip
    refine o_step rfl (s_q rfl wn (by first | exact q_loadp sc_3 rfl (by repeat (first | exact Pick.here | apply Pick.there)) rfl | exact q_loade sc_3 rfl (by first | assumption | exact rd_ro (by assumption) | exact rd_row (by repeat (first | exact Pick.here | apply Pick.there))) (fun _ => rfl) (by first | assumption | omega) (by decide) rfl) ?_)
    refine r_cont (Hp.le_refl _) (by repeat (first | exact Ent.nil _ | exact Ent.refl _ | (refine Ent.pick (by repeat (first | exact Pick.here | apply Pick.there)) ?_) | refine Ent.skip ?_)) ?_
    refine r_take (i := 5) (bs' := #[true, true, true, true, true, true, true, true, true, false, false, false, false, false, false]) rfl (by kernel_rfl) (by kernel_rfl) (by kernel_rfl) (fun _ _ _ h => h) rfl wn (q_add rfl rfl (by omega) (by omega)) (Hp.le_refl _) (by repeat (first | exact Ent.nil _ | exact Ent.refl _ | (refine Ent.pick (by repeat (first | exact Pick.here | apply Pick.there)) ?_) | refine Ent.skip ?_)) (by kernel_rfl) ?_
    refine r_one (i := 9) (bs' := #[true, true, true, true, true, true, true, true, true, true, false, false, false, false, false]) (by kernel_rfl) (by kernel_rfl) ?_
    refine o_step rfl (s_q rfl wn (by first | exact q_loadp sc_40 rfl (by repeat (first | exact Pick.here | apply Pick.there)) rfl | exact q_loade sc_40 rfl (by first | assumption | exact rd_ro (by assumption) | exact rd_row (by repeat (first | exact Pick.here | apply Pick.there))) (fun _ => rfl) (by first | assumption | omega) (by decide) rfl) ?_)
    refine r_cont (Hp.le_refl _) (by repeat (first | exact Ent.nil _ | exact Ent.refl _ | (refine Ent.pick (by repeat (first | exact Pick.here | apply Pick.there)) ?_) | refine Ent.skip ?_)) ?_
    refine r_take (i := 10) (bs' := #[true, true, true, true, true, true, true, true, true, true, true, false, false, false, false]) rfl (by kernel_rfl) (by kernel_rfl) (by kernel_rfl) (fun _ _ _ h => h) rfl wn (q_len Try.underlying40 rfl) (Hp.le_refl _) (by repeat (first | exact Ent.nil _ | exact Ent.refl _ | (refine Ent.pick (by repeat (first | exact Pick.here | apply Pick.there)) ?_) | refine Ent.skip ?_)) (by kernel_rfl) ?_
    refine r_take (i := 11) (bs' := #[true, true, true, true, true, true, true, true, true, true, true, true, false, false, false]) rfl (by kernel_rfl) (by kernel_rfl) (by kernel_rfl) (fun _ _ _ h => h) rfl wn (q_remn (m := c.at_ + 1) (q := c.row.xs.length) rfl rfl (by omega) rfl (by omega)) (Hp.le_refl _) (by repeat (first | exact Ent.nil _ | exact Ent.refl _ | (refine Ent.pick (by repeat (first | exact Pick.here | apply Pick.there)) ?_) | refine Ent.skip ?_)) (by kernel_rfl) ?_
    refine r_take (i := 12) (bs' := #[true, true, true, true, true, true, true, true, true, true, true, true, true, false, false]) rfl (by kernel_rfl) (by kernel_rfl) (by kernel_rfl) (fun _ _ _ h => h) rfl wn (q_nilCheck rfl) (Hp.le_refl _) (by repeat (first | exact Ent.nil _ | exact Ent.refl _ | (refine Ent.pick (by repeat (first | exact Pick.here | apply Pick.there)) ?_) | refine Ent.skip ?_)) (by kernel_rfl) ?_
    refine r_take (i := 13) (bs' := #[true, true, true, true, true, true, true, true, true, true, true, true, true, true, false]) rfl (by kernel_rfl) (by kernel_rfl) (by kernel_rfl) (fun _ _ _ h => h) rfl wn (by first | exact q_fieldp rfl fo_122_3 | exact q_fielde rfl fo_122_3 | exact q_fieldr rfl fo_122_3) (Hp.le_refl _) (by repeat (first | exact Ent.nil _ | exact Ent.refl _ | (refine Ent.pick (by repeat (first | exact Pick.here | apply Pick.there)) ?_) | refine Ent.skip ?_)) (by kernel_rfl) ?_
    refine r_one (i := 14) (bs' := #[true, true, true, true, true, true, true, true, true, true, true, true, true, true, true]) (by kernel_rfl) (by kernel_rfl) ?_
    refine o_step rfl (s_s0 wn (s_storep (ws := [_]) (cs := encCli c) (cs' := encCli (nextF c)) rfl rfl rfl sz_3 (by simp [Value.oneCell']) (by simp [encCli, encAsk, encW, encRep]) rfl (by repeat (first | exact Pick.here | apply Pick.there))) ?_)
    rintro _ _ ⟨rfl, rfl⟩
    refine r_cont (Hp.le_refl _) (by repeat (first | exact Ent.nil _ | exact Ent.refl _ | (refine Ent.pick (by repeat (first | exact Pick.here | apply Pick.there)) ?_) | refine Ent.skip ?_)) ?_
    refine r_done (by kernel_rfl) ?_
    refine k_body_n ?_
    exact t_ret [_] rfl .nil rfl (Hp.le_refl _) ⟨rfl, rfl, rfl⟩ (by repeat (first | exact Ent.nil _ | exact Ent.refl _ | (refine Ent.pick (by repeat (first | exact Pick.here | apply Pick.there)) ?_) | refine Ent.skip ?_))
  · skip
    refine o_step rfl (s_q rfl wn (by first | exact q_loadp sc_40 rfl (by repeat (first | exact Pick.here | apply Pick.there)) rfl | exact q_loade sc_40 rfl (by first | assumption | exact rd_ro (by assumption) | exact rd_row (by repeat (first | exact Pick.here | apply Pick.there))) (fun _ => rfl) (by first | assumption | omega) (by decide) rfl) ?_)
    refine r_cont (Hp.le_refl _) (by repeat (first | exact Ent.nil _ | exact Ent.refl _ | (refine Ent.pick (by repeat (first | exact Pick.here | apply Pick.there)) ?_) | refine Ent.skip ?_)) ?_
    refine r_take (i := 10) (bs' := #[true, true, true, true, false, false, true, true, true, true, true, false, false, false, false]) rfl (by kernel_rfl) (by kernel_rfl) (by kernel_rfl) (fun _ _ _ h => h) rfl wn (q_len Try.underlying40 rfl) (Hp.le_refl _) (by repeat (first | exact Ent.nil _ | exact Ent.refl _ | (refine Ent.pick (by repeat (first | exact Pick.here | apply Pick.there)) ?_) | refine Ent.skip ?_)) (by kernel_rfl) ?_
    refine r_one (i := 4) (bs' := #[true, true, true, true, true, false, true, true, true, true, true, false, false, false, false]) (by kernel_rfl) (by kernel_rfl) ?_
    refine o_step rfl (s_q rfl wn (by first | exact q_loadp sc_3 rfl (by repeat (first | exact Pick.here | apply Pick.there)) rfl | exact q_loade sc_3 rfl (by first | assumption | exact rd_ro (by assumption) | exact rd_row (by repeat (first | exact Pick.here | apply Pick.there))) (fun _ => rfl) (by first | assumption | omega) (by decide) rfl) ?_)
    refine r_cont (Hp.le_refl _) (by repeat (first | exact Ent.nil _ | exact Ent.refl _ | (refine Ent.pick (by repeat (first | exact Pick.here | apply Pick.there)) ?_) | refine Ent.skip ?_)) ?_
    refine r_take (i := 5) (bs' := #[true, true, true, true, true, true, true, true, true, true, true, false, false, false, false]) rfl (by kernel_rfl) (by kernel_rfl) (by kernel_rfl) (fun _ _ _ h => h) rfl wn (q_add rfl rfl (by omega) (by omega)) (Hp.le_refl _) (by repeat (first | exact Ent.nil _ | exact Ent.refl _ | (refine Ent.pick (by repeat (first | exact Pick.here | apply Pick.there)) ?_) | refine Ent.skip ?_)) (by kernel_rfl) ?_
    refine r_take (i := 11) (bs' := #[true, true, true, true, true, true, true, true, true, true, true, true, false, false, false]) rfl (by kernel_rfl) (by kernel_rfl) (by kernel_rfl) (fun _ _ _ h => h) rfl wn (q_remn (m := c.at_ + 1) (q := c.row.xs.length) rfl rfl (by omega) rfl (by omega)) (Hp.le_refl _) (by repeat (first | exact Ent.nil _ | exact Ent.refl _ | (refine Ent.pick (by repeat (first | exact Pick.here | apply Pick.there)) ?_) | refine Ent.skip ?_)) (by kernel_rfl) ?_
    refine r_take (i := 12) (bs' := #[true, true, true, true, true, true, true, true, true, true, true, true, true, false, false]) rfl (by kernel_rfl) (by kernel_rfl) (by kernel_rfl) (fun _ _ _ h => h) rfl wn (q_nilCheck rfl) (Hp.le_refl _) (by repeat (first | exact Ent.nil _ | exact Ent.refl _ | (refine Ent.pick (by repeat (first | exact Pick.here | apply Pick.there)) ?_) | refine Ent.skip ?_)) (by kernel_rfl) ?_
    refine r_take (i := 13) (bs' := #[true, true, true, true, true, true, true, true, true, true, true, true, true, true, false]) rfl (by kernel_rfl) (by kernel_rfl) (by kernel_rfl) (fun _ _ _ h => h) rfl wn (by first | exact q_fieldp rfl fo_122_3 | exact q_fielde rfl fo_122_3 | exact q_fieldr rfl fo_122_3) (Hp.le_refl _) (by repeat (first | exact Ent.nil _ | exact Ent.refl _ | (refine Ent.pick (by repeat (first | exact Pick.here | apply Pick.there)) ?_) | refine Ent.skip ?_)) (by kernel_rfl) ?_
    refine r_one (i := 14) (bs' := #[true, true, true, true, true, true, true, true, true, true, true, true, true, true, true]) (by kernel_rfl) (by kernel_rfl) ?_
    refine o_step rfl (s_s0 wn (s_storep (ws := [_]) (cs := encCli c) (cs' := encCli (nextF c)) rfl rfl rfl sz_3 (by simp [Value.oneCell']) (by simp [encCli, encAsk, encW, encRep]) rfl (by repeat (first | exact Pick.here | apply Pick.there))) ?_)
    rintro _ _ ⟨rfl, rfl⟩
    refine r_cont (Hp.le_refl _) (by repeat (first | exact Ent.nil _ | exact Ent.refl _ | (refine Ent.pick (by repeat (first | exact Pick.here | apply Pick.there)) ?_) | refine Ent.skip ?_)) ?_
    refine r_done (by kernel_rfl) ?_
    refine k_body_n ?_
    exact t_ret [_] rfl .nil rfl (Hp.le_refl _) ⟨rfl, rfl, rfl⟩ (by repeat (first | exact Ent.nil _ | exact Ent.refl _ | (refine Ent.pick (by repeat (first | exact Pick.here | apply Pick.there)) ?_) | refine Ent.skip ?_))

theorem tick_spec (b : Nat) (c : Cl) (ok : CliOk c) (hs : 0 ≤ c.since ∧ c.since ≤ 1000000000) (ρ : Hp) : Spec0 Try.prog 25 #[.pointer (some ⟨b, 0, none⟩)] ρ (CliM 3 122 b c) (fun v Γ' => (¬ sendsF c ∧ v = .tuple #[.int .i64 0, .agg (encAsk askZ).toArray, .bool false] ∧ Γ' = (CliM 3 122 b (tick1 c))) ∨ (sendsF c ∧ ∃ w : SL WvV, w.xs.map WvD = c.ask.waves.xs.map WvD ∧ v = .tuple #[.int .i64 (c.row.xs.getD (tick2 c).at_ default), .agg (encAsk { c.ask with waves := w }).toArray, .bool true] ∧ Γ' = .raw (AskMem w) :: (CliM 3 122 b (tick2 c)))) := by
  refine spec_of (n := 64) (vs := [_]) (σ := [(0, _)]) Try.func25 rfl rfl rfl rfl fun E Δ => ?_
  simp only [CliM, List.cons_append, List.nil_append]
  obtain ⟨ok1, ok2, ok3⟩ := ok
  refine c_seq ?_
  refine c_region ?_
  refine l_step (s_q rfl wn (q_assign rfl) ?_)
  refine l_step (s_s rfl wn (s_allocz zc_54) ?_)
  rintro _ _ ⟨b3, rfl, rfl⟩
  refine l_step (s_q rfl wn (q_assign rfl) ?_)
  refine l_nil ?_
  refine k_then_n ?_
  refine c_seq ?_
  refine c_region ?_
  refine l_step (s_q rfl wn (q_move rfl) ?_)
  refine l_step (s_q rfl wn (q_nilCheck rfl) ?_)
  refine l_step (s_q rfl wn (by first | exact q_fieldp rfl fo_122_8 | exact q_fielde rfl fo_122_8 | exact q_fieldr rfl fo_122_8) ?_)
  refine l_step (s_q rfl wn (by first | exact q_loadp sc_3 rfl (by repeat (first | exact Pick.here | apply Pick.there)) rfl | exact q_loade sc_3 rfl (by first | assumption | exact rd_ro (by assumption) | exact rd_row (by repeat (first | exact Pick.here | apply Pick.there))) (fun _ => rfl) (by first | assumption | omega) (by decide) rfl) ?_)
  refine l_step (s_q rfl wn (by first | exact q_add rfl rfl (by omega) (by omega) | exact q_addw rfl rfl) ?_)
  refine l_step (s_q rfl wn (q_nilCheck rfl) ?_)
  refine l_step (s_q rfl wn (by first | exact q_fieldp rfl fo_122_8 | exact q_fielde rfl fo_122_8 | exact q_fieldr rfl fo_122_8) ?_)
  refine l_step (s_s0 wn (s_storep (ws := [_]) (cs := encCli c) (cs' := encCli (tick1 c)) rfl rfl rfl sz_3 (by simp [Value.oneCell']) (by simp [encCli, encAsk, encW, encRep]) rfl (by repeat (first | exact Pick.here | apply Pick.there))) ?_)
  rintro _ _ ⟨rfl, rfl⟩
  refine l_nil ?_
  refine k_then_n ?_
  refine c_seq ?_
  refine c_seq ?_
  refine c_drawG (m := 23) (bs := #[false, false, false, false, false, false, false, false, false, false, false, false, false, false, false, false, false, false, false, false, false, false, false]) (by kernel_rfl) rfl (by kernel_rfl) ?_
  refine r_take (i := 0) (bs' := #[true, false, false, false, false, false, false, false, false, false, false, false, false, false, false, false, false, false, false, false, false, false, false]) rfl (by kernel_rfl) (by kernel_rfl) (by kernel_rfl) (fun _ _ _ h => h) rfl wn (q_move rfl) (Hp.le_refl _) (by repeat (first | exact Ent.nil _ | exact Ent.refl _ | (refine Ent.pick (by repeat (first | exact Pick.here | apply Pick.there)) ?_) | refine Ent.skip ?_)) (by kernel_rfl) ?_
  refine r_take (i := 1) (bs' := #[true, true, false, false, false, false, false, false, false, false, false, false, false, false, false, false, false, false, false, false, false, false, false]) rfl (by kernel_rfl) (by kernel_rfl) (by kernel_rfl) (fun _ _ _ h => h) rfl wn (q_nilCheck rfl) (Hp.le_refl _) (by repeat (first | exact Ent.nil _ | exact Ent.refl _ | (refine Ent.pick (by repeat (first | exact Pick.here | apply Pick.there)) ?_) | refine Ent.skip ?_)) (by kernel_rfl) ?_
  refine r_take (i := 2) (bs' := #[true, true, true, false, false, false, false, false, false, false, false, false, false, false, false, false, false, false, false, false, false, false, false]) rfl (by kernel_rfl) (by kernel_rfl) (by kernel_rfl) (fun _ _ _ h => h) rfl wn (by first | exact q_fieldp rfl fo_122_6 | exact q_fielde rfl fo_122_6 | exact q_fieldr rfl fo_122_6) (Hp.le_refl _) (by repeat (first | exact Ent.nil _ | exact Ent.refl _ | (refine Ent.pick (by repeat (first | exact Pick.here | apply Pick.there)) ?_) | refine Ent.skip ?_)) (by kernel_rfl) ?_
  refine r_take (i := 3) (bs' := #[true, true, true, true, false, false, false, false, false, false, false, false, false, false, false, false, false, false, false, false, false, false, false]) rfl (by kernel_rfl) (by kernel_rfl) (by kernel_rfl) (fun _ _ _ h => h) rfl wn (by first | exact q_loadp sc_4 rfl (by repeat (first | exact Pick.here | apply Pick.there)) rfl | exact q_loade sc_4 rfl (by first | assumption | exact rd_ro (by assumption) | exact rd_row (by repeat (first | exact Pick.here | apply Pick.there))) (fun _ => rfl) (by first | assumption | omega) (by decide) rfl) (Hp.le_refl _) (by repeat (first | exact Ent.nil _ | exact Ent.refl _ | (refine Ent.pick (by repeat (first | exact Pick.here | apply Pick.there)) ?_) | refine Ent.skip ?_)) (by kernel_rfl) ?_
  refine r_take (i := 4) (bs' := #[true, true, true, true, true, false, false, false, false, false, false, false, false, false, false, false, false, false, false, false, false, false, false]) rfl (by kernel_rfl) (by kernel_rfl) (by kernel_rfl) (fun _ _ _ h => h) rfl wn (q_not rfl) (Hp.le_refl _) (by repeat (first | exact Ent.nil _ | exact Ent.refl _ | (refine Ent.pick (by repeat (first | exact Pick.here | apply Pick.there)) ?_) | refine Ent.skip ?_)) (by kernel_rfl) ?_
  refine r_take (i := 5) (bs' := #[true, true, true, true, true, true, false, false, false, false, false, false, false, false, false, false, false, false, false, false, false, false, false]) rfl (by kernel_rfl) (by kernel_rfl) (by kernel_rfl) (fun _ _ _ h => h) rfl wn (q_move rfl) (Hp.le_refl _) (by repeat (first | exact Ent.nil _ | exact Ent.refl _ | (refine Ent.pick (by repeat (first | exact Pick.here | apply Pick.there)) ?_) | refine Ent.skip ?_)) (by kernel_rfl) ?_
  first | refine t_splitd (d := 17) rfl (fun g2_5 => ?_) (fun g2_5 => ?_) | refine t_split (d := 17) rfl (fun g2_5 => ?_) (fun g2_5 => ?_)
  · skip
    refine r_skip (i := 6) (bs' := #[true, true, true, true, true, true, true, false, false, false, false, false, false, false, false, false, false, false, false, false, false, false, false]) rfl (by kernel_rfl) (by kernel_rfl) (by kernel_rfl) (fun _ _ _ h => h) rfl (wno rfl rfl (by decide)) (Hp.le_refl _) (by repeat (first | exact Ent.nil _ | exact Ent.refl _ | (refine Ent.pick (by repeat (first | exact Pick.here | apply Pick.there)) ?_) | refine Ent.skip ?_)) (by kernel_rfl) ?_
    refine r_skip (i := 7) (bs' := #[true, true, true, true, true, true, true, true, false, false, false, false, false, false, false, false, false, false, false, false, false, false, false]) rfl (by kernel_rfl) (by kernel_rfl) (by kernel_rfl) (fun _ _ _ h => h) rfl (wno rfl rfl (by decide)) (Hp.le_refl _) (by repeat (first | exact Ent.nil _ | exact Ent.refl _ | (refine Ent.pick (by repeat (first | exact Pick.here | apply Pick.there)) ?_) | refine Ent.skip ?_)) (by kernel_rfl) ?_
    refine r_skip (i := 8) (bs' := #[true, true, true, true, true, true, true, true, true, false, false, false, false, false, false, false, false, false, false, false, false, false, false]) rfl (by kernel_rfl) (by kernel_rfl) (by kernel_rfl) (fun _ _ _ h => h) rfl (wno rfl rfl (by decide)) (Hp.le_refl _) (by repeat (first | exact Ent.nil _ | exact Ent.refl _ | (refine Ent.pick (by repeat (first | exact Pick.here | apply Pick.there)) ?_) | refine Ent.skip ?_)) (by kernel_rfl) ?_
    refine r_skip (i := 9) (bs' := #[true, true, true, true, true, true, true, true, true, true, false, false, false, false, false, false, false, false, false, false, false, false, false]) rfl (by kernel_rfl) (by kernel_rfl) (by kernel_rfl) (fun _ _ _ h => h) rfl (wno rfl rfl (by decide)) (Hp.le_refl _) (by repeat (first | exact Ent.nil _ | exact Ent.refl _ | (refine Ent.pick (by repeat (first | exact Pick.here | apply Pick.there)) ?_) | refine Ent.skip ?_)) (by kernel_rfl) ?_
    refine r_skip (i := 10) (bs' := #[true, true, true, true, true, true, true, true, true, true, true, false, false, false, false, false, false, false, false, false, false, false, false]) rfl (by kernel_rfl) (by kernel_rfl) (by kernel_rfl) (fun _ _ _ h => h) rfl (wno rfl rfl (by decide)) (Hp.le_refl _) (by repeat (first | exact Ent.nil _ | exact Ent.refl _ | (refine Ent.pick (by repeat (first | exact Pick.here | apply Pick.there)) ?_) | refine Ent.skip ?_)) (by kernel_rfl) ?_
    refine r_skip (i := 11) (bs' := #[true, true, true, true, true, true, true, true, true, true, true, true, false, false, false, false, false, false, false, false, false, false, false]) rfl (by kernel_rfl) (by kernel_rfl) (by kernel_rfl) (fun _ _ _ h => h) rfl (wno rfl rfl (by decide)) (Hp.le_refl _) (by repeat (first | exact Ent.nil _ | exact Ent.refl _ | (refine Ent.pick (by repeat (first | exact Pick.here | apply Pick.there)) ?_) | refine Ent.skip ?_)) (by kernel_rfl) ?_
    refine r_skip (i := 12) (bs' := #[true, true, true, true, true, true, true, true, true, true, true, true, true, false, false, false, false, false, false, false, false, false, false]) rfl (by kernel_rfl) (by kernel_rfl) (by kernel_rfl) (fun _ _ _ h => h) rfl (wun rfl rfl) (Hp.le_refl _) (by repeat (first | exact Ent.nil _ | exact Ent.refl _ | (refine Ent.pick (by repeat (first | exact Pick.here | apply Pick.there)) ?_) | refine Ent.skip ?_)) (by kernel_rfl) ?_
    refine r_skip (i := 13) (bs' := #[true, true, true, true, true, true, true, true, true, true, true, true, true, true, false, false, false, false, false, false, false, false, false]) rfl (by kernel_rfl) (by kernel_rfl) (by kernel_rfl) (fun _ _ _ h => h) rfl (wun rfl rfl) (Hp.le_refl _) (by repeat (first | exact Ent.nil _ | exact Ent.refl _ | (refine Ent.pick (by repeat (first | exact Pick.here | apply Pick.there)) ?_) | refine Ent.skip ?_)) (by kernel_rfl) ?_
    refine r_skip (i := 14) (bs' := #[true, true, true, true, true, true, true, true, true, true, true, true, true, true, true, false, false, false, false, false, false, false, false]) rfl (by kernel_rfl) (by kernel_rfl) (by kernel_rfl) (fun _ _ _ h => h) rfl (wun rfl rfl) (Hp.le_refl _) (by repeat (first | exact Ent.nil _ | exact Ent.refl _ | (refine Ent.pick (by repeat (first | exact Pick.here | apply Pick.there)) ?_) | refine Ent.skip ?_)) (by kernel_rfl) ?_
    refine r_skip (i := 15) (bs' := #[true, true, true, true, true, true, true, true, true, true, true, true, true, true, true, true, false, false, false, false, false, false, false]) rfl (by kernel_rfl) (by kernel_rfl) (by kernel_rfl) (fun _ _ _ h => h) rfl (wun rfl rfl) (Hp.le_refl _) (by repeat (first | exact Ent.nil _ | exact Ent.refl _ | (refine Ent.pick (by repeat (first | exact Pick.here | apply Pick.there)) ?_) | refine Ent.skip ?_)) (by kernel_rfl) ?_
    refine r_skip (i := 16) (bs' := #[true, true, true, true, true, true, true, true, true, true, true, true, true, true, true, true, true, false, false, false, false, false, false]) rfl (by kernel_rfl) (by kernel_rfl) (by kernel_rfl) (fun _ _ _ h => h) rfl (wun rfl rfl) (Hp.le_refl _) (by repeat (first | exact Ent.nil _ | exact Ent.refl _ | (refine Ent.pick (by repeat (first | exact Pick.here | apply Pick.there)) ?_) | refine Ent.skip ?_)) (by kernel_rfl) ?_
    refine r_skip (i := 17) (bs' := #[true, true, true, true, true, true, true, true, true, true, true, true, true, true, true, true, true, true, false, false, false, false, false]) rfl (by kernel_rfl) (by kernel_rfl) (by kernel_rfl) (fun _ _ _ h => h) rfl (wun rfl rfl) (Hp.le_refl _) (by repeat (first | exact Ent.nil _ | exact Ent.refl _ | (refine Ent.pick (by repeat (first | exact Pick.here | apply Pick.there)) ?_) | refine Ent.skip ?_)) (by kernel_rfl) ?_
    refine r_skip (i := 18) (bs' := #[true, true, true, true, true, true, true, true, true, true, true, true, true, true, true, true, true, true, true, false, false, false, false]) rfl (by kernel_rfl) (by kernel_rfl) (by kernel_rfl) (fun _ _ _ h => h) rfl (wun rfl rfl) (Hp.le_refl _) (by repeat (first | exact Ent.nil _ | exact Ent.refl _ | (refine Ent.pick (by repeat (first | exact Pick.here | apply Pick.there)) ?_) | refine Ent.skip ?_)) (by kernel_rfl) ?_
    refine r_skip (i := 19) (bs' := #[true, true, true, true, true, true, true, true, true, true, true, true, true, true, true, true, true, true, true, true, false, false, false]) rfl (by kernel_rfl) (by kernel_rfl) (by kernel_rfl) (fun _ _ _ h => h) rfl (wun rfl rfl) (Hp.le_refl _) (by repeat (first | exact Ent.nil _ | exact Ent.refl _ | (refine Ent.pick (by repeat (first | exact Pick.here | apply Pick.there)) ?_) | refine Ent.skip ?_)) (by kernel_rfl) ?_
    refine r_skip (i := 20) (bs' := #[true, true, true, true, true, true, true, true, true, true, true, true, true, true, true, true, true, true, true, true, true, false, false]) rfl (by kernel_rfl) (by kernel_rfl) (by kernel_rfl) (fun _ _ _ h => h) rfl (wun rfl rfl) (Hp.le_refl _) (by repeat (first | exact Ent.nil _ | exact Ent.refl _ | (refine Ent.pick (by repeat (first | exact Pick.here | apply Pick.there)) ?_) | refine Ent.skip ?_)) (by kernel_rfl) ?_
    refine r_skip (i := 21) (bs' := #[true, true, true, true, true, true, true, true, true, true, true, true, true, true, true, true, true, true, true, true, true, true, false]) rfl (by kernel_rfl) (by kernel_rfl) (by kernel_rfl) (fun _ _ _ h => h) rfl (wno rfl rfl (by decide)) (Hp.le_refl _) (by repeat (first | exact Ent.nil _ | exact Ent.refl _ | (refine Ent.pick (by repeat (first | exact Pick.here | apply Pick.there)) ?_) | refine Ent.skip ?_)) (by kernel_rfl) ?_
    refine r_take (i := 22) (bs' := #[true, true, true, true, true, true, true, true, true, true, true, true, true, true, true, true, true, true, true, true, true, true, true]) rfl (by kernel_rfl) (by kernel_rfl) (by kernel_rfl) (fun _ _ _ h => h) rfl wn (q_pick rfl rfl rfl) (Hp.le_refl _) (by repeat (first | exact Ent.nil _ | exact Ent.refl _ | (refine Ent.pick (by repeat (first | exact Pick.here | apply Pick.there)) ?_) | refine Ent.skip ?_)) (by kernel_rfl) ?_
    refine r_done (by kernel_rfl) ?_
    refine k_then_n ?_
    refine c_yes rfl ?_
    refine c_seq ?_
    refine c_region ?_
    refine l_step (s_q rfl wn (q_build (cs := [_, _, _, _, _, _, _, _, _, _, _, _]) zc_54 pl_54 rfl rfl) ?_)
    refine l_step (s_q rfl wn (q_assign rfl) ?_)
    refine l_step (s_s0 wn (s_storep (ws := encAsk askZ) (cs := encAsk askZ) (cs' := encAsk askZ) rfl rfl rfl sz_54 (oneAsk _) (by simp [encCli, encAsk, encW, encRep]) rfl (by repeat (first | exact Pick.here | apply Pick.there))) ?_)
    rintro _ _ ⟨rfl, rfl⟩
    refine l_step (s_q rfl wn (q_assign rfl) ?_)
    refine l_nil ?_
    refine k_then_n ?_
    refine c_ret ?_
    refine k_then_r ?_
    exact t_ret (CliM 3 122 b (tick1 c)) rfl (.tmp rfl (.cell rfl (by repeat (first | exact Pick.here | apply Pick.there)) (fun w h => ld_agg (by exact ag_54) h) (.tmp rfl .nil))) rfl (Hp.le_refl _) ⟨rfl, .inl ⟨(by rintro ⟨q1, q2⟩; (have q3 : c.on = false := by simpa [tick1] using g2_5); rw [q1] at q3; cases q3), rfl, rfl⟩⟩ (by simp only [CliM, List.cons_append, List.nil_append]; exact (by repeat (first | exact Ent.nil _ | exact Ent.refl _ | (refine Ent.pick (by repeat (first | exact Pick.here | apply Pick.there)) ?_) | refine Ent.skip ?_)))
  · skip
    refine r_take (i := 6) (bs' := #[true, true, true, true, true, true, true, false, false, false, false, false, false, false, false, false, false, false, false, false, false, false, false]) rfl (by kernel_rfl) (by kernel_rfl) (by kernel_rfl) (fun _ _ _ h => h) rfl (wy rfl rfl rfl) (q_move rfl) (Hp.le_refl _) (by repeat (first | exact Ent.nil _ | exact Ent.refl _ | (refine Ent.pick (by repeat (first | exact Pick.here | apply Pick.there)) ?_) | refine Ent.skip ?_)) (by kernel_rfl) ?_
    refine r_take (i := 7) (bs' := #[true, true, true, true, true, true, true, true, false, false, false, false, false, false, false, false, false, false, false, false, false, false, false]) rfl (by kernel_rfl) (by kernel_rfl) (by kernel_rfl) (fun _ _ _ h => h) rfl (wy rfl rfl rfl) (q_nilCheck rfl) (Hp.le_refl _) (by repeat (first | exact Ent.nil _ | exact Ent.refl _ | (refine Ent.pick (by repeat (first | exact Pick.here | apply Pick.there)) ?_) | refine Ent.skip ?_)) (by kernel_rfl) ?_
    refine r_take (i := 8) (bs' := #[true, true, true, true, true, true, true, true, true, false, false, false, false, false, false, false, false, false, false, false, false, false, false]) rfl (by kernel_rfl) (by kernel_rfl) (by kernel_rfl) (fun _ _ _ h => h) rfl (wy rfl rfl rfl) (by first | exact q_fieldp rfl fo_122_7 | exact q_fielde rfl fo_122_7 | exact q_fieldr rfl fo_122_7) (Hp.le_refl _) (by repeat (first | exact Ent.nil _ | exact Ent.refl _ | (refine Ent.pick (by repeat (first | exact Pick.here | apply Pick.there)) ?_) | refine Ent.skip ?_)) (by kernel_rfl) ?_
    refine r_take (i := 9) (bs' := #[true, true, true, true, true, true, true, true, true, true, false, false, false, false, false, false, false, false, false, false, false, false, false]) rfl (by kernel_rfl) (by kernel_rfl) (by kernel_rfl) (fun _ _ _ h => h) rfl (wy rfl rfl rfl) (by first | exact q_loadp sc_120 rfl (by repeat (first | exact Pick.here | apply Pick.there)) rfl | exact q_loade sc_120 rfl (by first | assumption | exact rd_ro (by assumption) | exact rd_row (by repeat (first | exact Pick.here | apply Pick.there))) (fun _ => rfl) (by first | assumption | omega) (by decide) rfl) (Hp.le_refl _) (by repeat (first | exact Ent.nil _ | exact Ent.refl _ | (refine Ent.pick (by repeat (first | exact Pick.here | apply Pick.there)) ?_) | refine Ent.skip ?_)) (by kernel_rfl) ?_
    refine r_take (i := 10) (bs' := #[true, true, true, true, true, true, true, true, true, true, true, false, false, false, false, false, false, false, false, false, false, false, false]) rfl (by kernel_rfl) (by kernel_rfl) (by kernel_rfl) (fun _ _ _ h => h) rfl (wy rfl rfl rfl) (q_eql rfl rfl) (Hp.le_refl _) (by repeat (first | exact Ent.nil _ | exact Ent.refl _ | (refine Ent.pick (by repeat (first | exact Pick.here | apply Pick.there)) ?_) | refine Ent.skip ?_)) (by kernel_rfl) ?_
    refine r_take (i := 11) (bs' := #[true, true, true, true, true, true, true, true, true, true, true, true, false, false, false, false, false, false, false, false, false, false, false]) rfl (by kernel_rfl) (by kernel_rfl) (by kernel_rfl) (fun _ _ _ h => h) rfl (wy rfl rfl rfl) (q_move rfl) (Hp.le_refl _) (by repeat (first | exact Ent.nil _ | exact Ent.refl _ | (refine Ent.pick (by repeat (first | exact Pick.here | apply Pick.there)) ?_) | refine Ent.skip ?_)) (by kernel_rfl) ?_
    first | refine t_splitd (d := 23) rfl (fun g2_11 => ?_) (fun g2_11 => ?_) | refine t_split (d := 23) rfl (fun g2_11 => ?_) (fun g2_11 => ?_)
    · skip
      refine r_take (i := 12) (bs' := #[true, true, true, true, true, true, true, true, true, true, true, true, true, false, false, false, false, false, false, false, false, false, false]) rfl (by kernel_rfl) (by kernel_rfl) (by kernel_rfl) (fun _ _ _ h => h) rfl (wy rfl rfl rfl) (q_move rfl) (Hp.le_refl _) (by repeat (first | exact Ent.nil _ | exact Ent.refl _ | (refine Ent.pick (by repeat (first | exact Pick.here | apply Pick.there)) ?_) | refine Ent.skip ?_)) (by kernel_rfl) ?_
      refine r_take (i := 13) (bs' := #[true, true, true, true, true, true, true, true, true, true, true, true, true, true, false, false, false, false, false, false, false, false, false]) rfl (by kernel_rfl) (by kernel_rfl) (by kernel_rfl) (fun _ _ _ h => h) rfl (wy rfl rfl rfl) (q_nilCheck rfl) (Hp.le_refl _) (by repeat (first | exact Ent.nil _ | exact Ent.refl _ | (refine Ent.pick (by repeat (first | exact Pick.here | apply Pick.there)) ?_) | refine Ent.skip ?_)) (by kernel_rfl) ?_
      refine r_take (i := 14) (bs' := #[true, true, true, true, true, true, true, true, true, true, true, true, true, true, true, false, false, false, false, false, false, false, false]) rfl (by kernel_rfl) (by kernel_rfl) (by kernel_rfl) (fun _ _ _ h => h) rfl (wy rfl rfl rfl) (by first | exact q_fieldp rfl fo_122_8 | exact q_fielde rfl fo_122_8 | exact q_fieldr rfl fo_122_8) (Hp.le_refl _) (by repeat (first | exact Ent.nil _ | exact Ent.refl _ | (refine Ent.pick (by repeat (first | exact Pick.here | apply Pick.there)) ?_) | refine Ent.skip ?_)) (by kernel_rfl) ?_
      refine r_take (i := 15) (bs' := #[true, true, true, true, true, true, true, true, true, true, true, true, true, true, true, true, false, false, false, false, false, false, false]) rfl (by kernel_rfl) (by kernel_rfl) (by kernel_rfl) (fun _ _ _ h => h) rfl (wy rfl rfl rfl) (by first | exact q_loadp sc_3 rfl (by repeat (first | exact Pick.here | apply Pick.there)) rfl | exact q_loade sc_3 rfl (by first | assumption | exact rd_ro (by assumption) | exact rd_row (by repeat (first | exact Pick.here | apply Pick.there))) (fun _ => rfl) (by first | assumption | omega) (by decide) rfl) (Hp.le_refl _) (by repeat (first | exact Ent.nil _ | exact Ent.refl _ | (refine Ent.pick (by repeat (first | exact Pick.here | apply Pick.there)) ?_) | refine Ent.skip ?_)) (by kernel_rfl) ?_
      refine r_take (i := 16) (bs' := #[true, true, true, true, true, true, true, true, true, true, true, true, true, true, true, true, true, false, false, false, false, false, false]) rfl (by kernel_rfl) (by kernel_rfl) (by kernel_rfl) (fun _ _ _ h => h) rfl (wy rfl rfl rfl) (q_move rfl) (Hp.le_refl _) (by repeat (first | exact Ent.nil _ | exact Ent.refl _ | (refine Ent.pick (by repeat (first | exact Pick.here | apply Pick.there)) ?_) | refine Ent.skip ?_)) (by kernel_rfl) ?_
      refine r_take (i := 17) (bs' := #[true, true, true, true, true, true, true, true, true, true, true, true, true, true, true, true, true, true, false, false, false, false, false]) rfl (by kernel_rfl) (by kernel_rfl) (by kernel_rfl) (fun _ _ _ h => h) rfl (wy rfl rfl rfl) (q_nilCheck rfl) (Hp.le_refl _) (by repeat (first | exact Ent.nil _ | exact Ent.refl _ | (refine Ent.pick (by repeat (first | exact Pick.here | apply Pick.there)) ?_) | refine Ent.skip ?_)) (by kernel_rfl) ?_
      refine r_take (i := 18) (bs' := #[true, true, true, true, true, true, true, true, true, true, true, true, true, true, true, true, true, true, true, false, false, false, false]) rfl (by kernel_rfl) (by kernel_rfl) (by kernel_rfl) (fun _ _ _ h => h) rfl (wy rfl rfl rfl) (by first | exact q_fieldp rfl fo_122_1 | exact q_fielde rfl fo_122_1 | exact q_fieldr rfl fo_122_1) (Hp.le_refl _) (by repeat (first | exact Ent.nil _ | exact Ent.refl _ | (refine Ent.pick (by repeat (first | exact Pick.here | apply Pick.there)) ?_) | refine Ent.skip ?_)) (by kernel_rfl) ?_
      refine r_take (i := 19) (bs' := #[true, true, true, true, true, true, true, true, true, true, true, true, true, true, true, true, true, true, true, true, false, false, false]) rfl (by kernel_rfl) (by kernel_rfl) (by kernel_rfl) (fun _ _ _ h => h) rfl (wy rfl rfl rfl) (by first | exact q_loadp sc_3 rfl (by repeat (first | exact Pick.here | apply Pick.there)) rfl | exact q_loade sc_3 rfl (by first | assumption | exact rd_ro (by assumption) | exact rd_row (by repeat (first | exact Pick.here | apply Pick.there))) (fun _ => rfl) (by first | assumption | omega) (by decide) rfl) (Hp.le_refl _) (by repeat (first | exact Ent.nil _ | exact Ent.refl _ | (refine Ent.pick (by repeat (first | exact Pick.here | apply Pick.there)) ?_) | refine Ent.skip ?_)) (by kernel_rfl) ?_
      refine r_take (i := 20) (bs' := #[true, true, true, true, true, true, true, true, true, true, true, true, true, true, true, true, true, true, true, true, true, false, false]) rfl (by kernel_rfl) (by kernel_rfl) (by kernel_rfl) (fun _ _ _ h => h) rfl (wy rfl rfl rfl) (q_lss rfl rfl) (Hp.le_refl _) (by repeat (first | exact Ent.nil _ | exact Ent.refl _ | (refine Ent.pick (by repeat (first | exact Pick.here | apply Pick.there)) ?_) | refine Ent.skip ?_)) (by kernel_rfl) ?_
      refine r_take (i := 21) (bs' := #[true, true, true, true, true, true, true, true, true, true, true, true, true, true, true, true, true, true, true, true, true, true, false]) rfl (by kernel_rfl) (by kernel_rfl) (by kernel_rfl) (fun _ _ _ h => h) rfl (wy rfl rfl rfl) (q_pick rfl rfl rfl) (Hp.le_refl _) (by repeat (first | exact Ent.nil _ | exact Ent.refl _ | (refine Ent.pick (by repeat (first | exact Pick.here | apply Pick.there)) ?_) | refine Ent.skip ?_)) (by kernel_rfl) ?_
      refine r_take (i := 22) (bs' := #[true, true, true, true, true, true, true, true, true, true, true, true, true, true, true, true, true, true, true, true, true, true, true]) rfl (by kernel_rfl) (by kernel_rfl) (by kernel_rfl) (fun _ _ _ h => h) rfl wn (q_pick rfl rfl rfl) (Hp.le_refl _) (by repeat (first | exact Ent.nil _ | exact Ent.refl _ | (refine Ent.pick (by repeat (first | exact Pick.here | apply Pick.there)) ?_) | refine Ent.skip ?_)) (by kernel_rfl) ?_
      refine r_done (by kernel_rfl) ?_
      refine k_then_n ?_
      first | refine c_if rfl (fun h0 => ?_) (fun h0 => ?_) | refine c_cond rfl (fun h0 => ?_) (fun h0 => ?_)
      · skip
        refine c_seq ?_
        refine c_region ?_
        refine l_step (s_q rfl wn (q_build (cs := [_, _, _, _, _, _, _, _, _, _, _, _]) zc_54 pl_54 rfl rfl) ?_)
        refine l_step (s_q rfl wn (q_assign rfl) ?_)
        refine l_step (s_s0 wn (s_storep (ws := encAsk askZ) (cs := encAsk askZ) (cs' := encAsk askZ) rfl rfl rfl sz_54 (oneAsk _) (by simp [encCli, encAsk, encW, encRep]) rfl (by repeat (first | exact Pick.here | apply Pick.there))) ?_)
        rintro _ _ ⟨rfl, rfl⟩
        refine l_step (s_q rfl wn (q_assign rfl) ?_)
        refine l_nil ?_
        refine k_then_n ?_
        refine c_ret ?_
        refine k_then_r ?_
        exact t_ret (CliM 3 122 b (tick1 c)) rfl (.tmp rfl (.cell rfl (by repeat (first | exact Pick.here | apply Pick.there)) (fun w h => ld_agg (by exact ag_54) h) (.tmp rfl .nil))) rfl (Hp.le_refl _) ⟨rfl, .inl ⟨(by rintro ⟨q1, q2⟩; exact q2 ⟨g2_11, h0⟩), rfl, rfl⟩⟩ (by simp only [CliM, List.cons_append, List.nil_append]; exact (by repeat (first | exact Ent.nil _ | exact Ent.refl _ | (refine Ent.pick (by repeat (first | exact Pick.here | apply Pick.there)) ?_) | refine Ent.skip ?_)))
      · skip
        refine c_skip ?_
        refine k_then_n ?_
        refine c_seq ?_
        refine c_seq ?_
        refine c_region ?_
        refine l_step (s_q rfl wn (q_move rfl) ?_)
        refine l_step (s_q rfl wn (q_nilCheck rfl) ?_)
        refine l_step (s_q rfl wn (by first | exact q_fieldp rfl fo_122_7 | exact q_fielde rfl fo_122_7 | exact q_fieldr rfl fo_122_7) ?_)
        refine l_step (s_q rfl wn (by first | exact q_loadp sc_120 rfl (by repeat (first | exact Pick.here | apply Pick.there)) rfl | exact q_loade sc_120 rfl (by first | assumption | exact rd_ro (by assumption) | exact rd_row (by repeat (first | exact Pick.here | apply Pick.there))) (fun _ => rfl) (by first | assumption | omega) (by decide) rfl) ?_)
        refine l_step (s_q rfl wn (q_eql rfl rfl) ?_)
        refine l_nil ?_
        refine k_then_n ?_
        refine c_sure true rfl (decide_eq_true g2_11) ?_
        simp only [Bool.false_eq_true, if_true, if_false]
        refine c_region ?_
        refine l_step (s_q rfl wn (q_move rfl) ?_)
        refine l_step (s_fn rfl wn Try.func58 rfl (by kernel_rfl) rfl (next_spec b (tick1 c) ok1 ok2 ρ) (by repeat (first | exact Sel.nil | exact Pick.here | apply Sel.cons | apply Pick.there)) ?_)
        rintro _ _ _ - ⟨rfl, rfl, rfl⟩
        try simp only [List.cons_append, List.nil_append]
        refine l_nil ?_
        refine k_then_n ?_
        refine c_seq ?_
        refine c_region ?_
        refine l_step (s_q rfl wn (q_move rfl) ?_)
        refine l_step (s_q rfl wn (q_move rfl) ?_)
        refine l_step (s_q rfl wn (q_nilCheck rfl) ?_)
        refine l_step (s_q rfl wn (by first | exact q_fieldp rfl fo_122_7 | exact q_fielde rfl fo_122_7 | exact q_fieldr rfl fo_122_7) ?_)
        refine l_step (s_s0 wn (s_storep (ws := [_]) (cs := encCli (nextF (tick1 c))) (cs' := encCli { nextF (tick1 c) with st := 1 }) rfl rfl rfl sz_120 (by simp [Value.oneCell']) (by simp [encCli, encAsk, encW, encRep]) rfl (by repeat (first | exact Pick.here | apply Pick.there))) ?_)
        rintro _ _ ⟨rfl, rfl⟩
        refine l_step (s_q rfl wn (q_nilCheck rfl) ?_)
        refine l_step (s_q rfl wn (by first | exact q_fieldp rfl fo_122_8 | exact q_fielde rfl fo_122_8 | exact q_fieldr rfl fo_122_8) ?_)
        refine l_step (s_s0 wn (s_storep (ws := [_]) (cs := encCli { nextF (tick1 c) with st := 1 }) (cs' := encCli ({ nextF (tick1 c) with st := 1, since := 0 } : Cl)) rfl rfl rfl sz_3 (by simp [Value.oneCell']) (by simp [encCli, encAsk, encW, encRep]) rfl (by repeat (first | exact Pick.here | apply Pick.there))) ?_)
        rintro _ _ ⟨rfl, rfl⟩
        refine l_nil ?_
        refine k_then_n ?_
        refine c_seq ?_
        refine c_draw (m := 18) (bs := #[false, false, false, false, false, false, false, false, false, false, false, false, false, false, false, false, false, false]) [.pts b (encCli ({ nextF (tick1 c) with st := 1, since := 0 } : Cl)) 122, .row 3 1 c.row.a c.row.xs.length c.row.cap (c.row.xs.flatMap encI)] (by kernel_rfl) rfl (by kernel_rfl) ?_
        have hat : (({ nextF (tick1 c) with st := 1, since := 0 } : Cl)).at_ < c.row.xs.length := Nat.mod_lt _ (Nat.lt_of_le_of_lt (Nat.zero_le _) ok1)
        refine r_take (i := 0) (bs' := #[true, false, false, false, false, false, false, false, false, false, false, false, false, false, false, false, false, false]) rfl (by kernel_rfl) (by kernel_rfl) (by kernel_rfl) (fun _ _ _ h => h) rfl wn (q_move rfl) (Hp.le_refl _) (by repeat (first | exact Ent.nil _ | exact Ent.refl _ | (refine Ent.pick (by repeat (first | exact Pick.here | apply Pick.there)) ?_) | refine Ent.skip ?_)) (by kernel_rfl) ?_
        refine r_take (i := 1) (bs' := #[true, true, false, false, false, false, false, false, false, false, false, false, false, false, false, false, false, false]) rfl (by kernel_rfl) (by kernel_rfl) (by kernel_rfl) (fun _ _ _ h => h) rfl wn (q_nilCheck rfl) (Hp.le_refl _) (by repeat (first | exact Ent.nil _ | exact Ent.refl _ | (refine Ent.pick (by repeat (first | exact Pick.here | apply Pick.there)) ?_) | refine Ent.skip ?_)) (by kernel_rfl) ?_
        refine r_take (i := 2) (bs' := #[true, true, true, false, false, false, false, false, false, false, false, false, false, false, false, false, false, false]) rfl (by kernel_rfl) (by kernel_rfl) (by kernel_rfl) (fun _ _ _ h => h) rfl wn (by first | exact q_fieldp rfl fo_122_2 | exact q_fielde rfl fo_122_2 | exact q_fieldr rfl fo_122_2) (Hp.le_refl _) (by repeat (first | exact Ent.nil _ | exact Ent.refl _ | (refine Ent.pick (by repeat (first | exact Pick.here | apply Pick.there)) ?_) | refine Ent.skip ?_)) (by kernel_rfl) ?_
        refine r_take (i := 3) (bs' := #[true, true, true, true, false, false, false, false, false, false, false, false, false, false, false, false, false, false]) rfl (by kernel_rfl) (by kernel_rfl) (by kernel_rfl) (fun _ _ _ h => h) rfl wn (by first | exact q_loadp sc_40 rfl (by repeat (first | exact Pick.here | apply Pick.there)) rfl | exact q_loade sc_40 rfl (by first | assumption | exact rd_ro (by assumption) | exact rd_row (by repeat (first | exact Pick.here | apply Pick.there))) (fun _ => rfl) (by first | assumption | omega) (by decide) rfl) (Hp.le_refl _) (by repeat (first | exact Ent.nil _ | exact Ent.refl _ | (refine Ent.pick (by repeat (first | exact Pick.here | apply Pick.there)) ?_) | refine Ent.skip ?_)) (by kernel_rfl) ?_
        refine r_take (i := 4) (bs' := #[true, true, true, true, true, false, false, false, false, false, false, false, false, false, false, false, false, false]) rfl (by kernel_rfl) (by kernel_rfl) (by kernel_rfl) (fun _ _ _ h => h) rfl wn (q_move rfl) (Hp.le_refl _) (by repeat (first | exact Ent.nil _ | exact Ent.refl _ | (refine Ent.pick (by repeat (first | exact Pick.here | apply Pick.there)) ?_) | refine Ent.skip ?_)) (by kernel_rfl) ?_
        refine r_take (i := 5) (bs' := #[true, true, true, true, true, true, false, false, false, false, false, false, false, false, false, false, false, false]) rfl (by kernel_rfl) (by kernel_rfl) (by kernel_rfl) (fun _ _ _ h => h) rfl wn (q_nilCheck rfl) (Hp.le_refl _) (by repeat (first | exact Ent.nil _ | exact Ent.refl _ | (refine Ent.pick (by repeat (first | exact Pick.here | apply Pick.there)) ?_) | refine Ent.skip ?_)) (by kernel_rfl) ?_
        refine r_take (i := 6) (bs' := #[true, true, true, true, true, true, true, false, false, false, false, false, false, false, false, false, false, false]) rfl (by kernel_rfl) (by kernel_rfl) (by kernel_rfl) (fun _ _ _ h => h) rfl wn (by first | exact q_fieldp rfl fo_122_3 | exact q_fielde rfl fo_122_3 | exact q_fieldr rfl fo_122_3) (Hp.le_refl _) (by repeat (first | exact Ent.nil _ | exact Ent.refl _ | (refine Ent.pick (by repeat (first | exact Pick.here | apply Pick.there)) ?_) | refine Ent.skip ?_)) (by kernel_rfl) ?_
        refine r_take (i := 7) (bs' := #[true, true, true, true, true, true, true, true, false, false, false, false, false, false, false, false, false, false]) rfl (by kernel_rfl) (by kernel_rfl) (by kernel_rfl) (fun _ _ _ h => h) rfl wn (by first | exact q_loadp sc_3 rfl (by repeat (first | exact Pick.here | apply Pick.there)) rfl | exact q_loade sc_3 rfl (by first | assumption | exact rd_ro (by assumption) | exact rd_row (by repeat (first | exact Pick.here | apply Pick.there))) (fun _ => rfl) (by first | assumption | omega) (by decide) rfl) (Hp.le_refl _) (by repeat (first | exact Ent.nil _ | exact Ent.refl _ | (refine Ent.pick (by repeat (first | exact Pick.here | apply Pick.there)) ?_) | refine Ent.skip ?_)) (by kernel_rfl) ?_
        refine r_take (i := 8) (bs' := #[true, true, true, true, true, true, true, true, true, false, false, false, false, false, false, false, false, false]) rfl (by kernel_rfl) (by kernel_rfl) (by kernel_rfl) (fun _ _ _ h => h) rfl wn (q_indexe (({ nextF (tick1 c) with st := 1, since := 0 } : Cl)).at_ Try.underlying40 sz_3 rfl rfl (by first | assumption | exact rd_ro (by assumption) | exact rd_row (by repeat (first | exact Pick.here | apply Pick.there))) (by decide) rfl hat) (Hp.le_refl _) (by repeat (first | exact Ent.nil _ | exact Ent.refl _ | (refine Ent.pick (by repeat (first | exact Pick.here | apply Pick.there)) ?_) | refine Ent.skip ?_)) (by kernel_rfl) ?_
        refine r_take (i := 9) (bs' := #[true, true, true, true, true, true, true, true, true, true, false, false, false, false, false, false, false, false]) rfl (by kernel_rfl) (by kernel_rfl) (by kernel_rfl) (fun _ _ _ h => h) rfl wn (by first | exact q_loadp sc_3 rfl (by repeat (first | exact Pick.here | apply Pick.there)) rfl | exact q_loade sc_3 rfl (by first | assumption | exact rd_ro (by assumption) | exact rd_row (by repeat (first | exact Pick.here | apply Pick.there))) (fun _ => rfl) (by first | assumption | omega) (by decide) rfl) (Hp.le_refl _) (by repeat (first | exact Ent.nil _ | exact Ent.refl _ | (refine Ent.pick (by repeat (first | exact Pick.here | apply Pick.there)) ?_) | refine Ent.skip ?_)) (by kernel_rfl) ?_
        refine r_take (i := 10) (bs' := #[true, true, true, true, true, true, true, true, true, true, true, false, false, false, false, false, false, false]) rfl (by kernel_rfl) (by kernel_rfl) (by kernel_rfl) (fun _ _ _ h => h) rfl wn (q_move rfl) (Hp.le_refl _) (by repeat (first | exact Ent.nil _ | exact Ent.refl _ | (refine Ent.pick (by repeat (first | exact Pick.here | apply Pick.there)) ?_) | refine Ent.skip ?_)) (by kernel_rfl) ?_
        refine r_take (i := 11) (bs' := #[true, true, true, true, true, true, true, true, true, true, true, true, false, false, false, false, false, false]) rfl (by kernel_rfl) (by kernel_rfl) (by kernel_rfl) (fun _ _ _ h => h) rfl wn (q_nilCheck rfl) (Hp.le_refl _) (by repeat (first | exact Ent.nil _ | exact Ent.refl _ | (refine Ent.pick (by repeat (first | exact Pick.here | apply Pick.there)) ?_) | refine Ent.skip ?_)) (by kernel_rfl) ?_
        refine r_take (i := 12) (bs' := #[true, true, true, true, true, true, true, true, true, true, true, true, true, false, false, false, false, false]) rfl (by kernel_rfl) (by kernel_rfl) (by kernel_rfl) (fun _ _ _ h => h) rfl wn (by first | exact q_fieldp rfl fo_122_5 | exact q_fielde rfl fo_122_5 | exact q_fieldr rfl fo_122_5) (Hp.le_refl _) (by repeat (first | exact Ent.nil _ | exact Ent.refl _ | (refine Ent.pick (by repeat (first | exact Pick.here | apply Pick.there)) ?_) | refine Ent.skip ?_)) (by kernel_rfl) ?_
        refine r_take (i := 13) (bs' := #[true, true, true, true, true, true, true, true, true, true, true, true, true, true, false, false, false, false]) rfl (by kernel_rfl) (by kernel_rfl) (by kernel_rfl) (fun _ _ _ h => h) rfl wn (q_loadpa (vs := encAsk c.ask) ag_54 rfl (by repeat (first | exact Pick.here | apply Pick.there)) rfl) (Hp.le_refl _) (by repeat (first | exact Ent.nil _ | exact Ent.refl _ | (refine Ent.pick (by repeat (first | exact Pick.here | apply Pick.there)) ?_) | refine Ent.skip ?_)) (by kernel_rfl) ?_
        refine r_one (i := 14) (bs' := #[true, true, true, true, true, true, true, true, true, true, true, true, true, true, true, false, false, false]) (by kernel_rfl) (by kernel_rfl) ?_
        refine o_step rfl (s_fn rfl wn Try.func57 rfl (by kernel_rfl) rfl (own_spec c.ask ok3 ρ _ (by exact askRd_raw (by repeat (first | exact Pick.here | apply Pick.there)))) (sel_all _) ?_)
        rintro _ _ _ - ⟨rfl, w63, hw63, rfl, rfl⟩
        refine Tr.ent (Ent.cast (List.append_nil _)) ?_
        refine r_cont (Hp.le_refl _) (by repeat (first | exact Ent.nil _ | exact Ent.refl _ | (refine Ent.pick (by repeat (first | exact Pick.here | apply Pick.there)) ?_) | refine Ent.skip ?_)) ?_
        refine r_take (i := 15) (bs' := #[true, true, true, true, true, true, true, true, true, true, true, true, true, true, true, true, false, false]) rfl (by kernel_rfl) (by kernel_rfl) (by kernel_rfl) (fun _ _ _ h => h) rfl wn (q_assign rfl) (Hp.le_refl _) (by repeat (first | exact Ent.nil _ | exact Ent.refl _ | (refine Ent.pick (by repeat (first | exact Pick.here | apply Pick.there)) ?_) | refine Ent.skip ?_)) (by kernel_rfl) ?_
        refine r_one (i := 16) (bs' := #[true, true, true, true, true, true, true, true, true, true, true, true, true, true, true, true, true, false]) (by kernel_rfl) (by kernel_rfl) ?_
        refine o_step rfl (s_s0 wn (s_storep (ws := encAsk { c.ask with waves := w63 }) (cs := encAsk askZ) (cs' := encAsk { c.ask with waves := w63 }) rfl rfl rfl sz_54 (oneAsk _) (by simp [encCli, encAsk, encW, encRep]) rfl (by repeat (first | exact Pick.here | apply Pick.there))) ?_)
        rintro _ _ ⟨rfl, rfl⟩
        refine r_cont (Hp.le_refl _) (by repeat (first | exact Ent.nil _ | exact Ent.refl _ | (refine Ent.pick (by repeat (first | exact Pick.here | apply Pick.there)) ?_) | refine Ent.skip ?_)) ?_
        refine r_take (i := 17) (bs' := #[true, true, true, true, true, true, true, true, true, true, true, true, true, true, true, true, true, true]) rfl (by kernel_rfl) (by kernel_rfl) (by kernel_rfl) (fun _ _ _ h => h) rfl wn (q_assign rfl) (Hp.le_refl _) (by repeat (first | exact Ent.nil _ | exact Ent.refl _ | (refine Ent.pick (by repeat (first | exact Pick.here | apply Pick.there)) ?_) | refine Ent.skip ?_)) (by kernel_rfl) ?_
        refine r_done (by kernel_rfl) ?_
        refine k_then_n ?_
        refine c_ret ?_
        exact t_ret (.raw (AskMem w63) :: (CliM 3 122 b (tick2 c))) rfl (.tmp rfl (.cell rfl (by repeat (first | exact Pick.here | apply Pick.there)) (fun w h => ld_agg (by exact ag_54) h) (.tmp rfl .nil))) rfl (Hp.le_refl _) ⟨rfl, .inr ⟨⟨by simpa [tick1] using g2_5, fun q => h0 q.2⟩, w63, hw63, (by rw [tick2_yes (c := c) g2_11]; rfl), rfl⟩⟩ (by rw [tick2_yes (c := c) g2_11]; simp only [CliM, List.cons_append, List.nil_append]; exact (by repeat (first | exact Ent.nil _ | exact Ent.refl _ | (refine Ent.pick (by repeat (first | exact Pick.here | apply Pick.there)) ?_) | refine Ent.skip ?_)))
    · skip
      refine r_skip (i := 12) (bs' := #[true, true, true, true, true, true, true, true, true, true, true, true, true, false, false, false, false, false, false, false, false, false, false]) rfl (by kernel_rfl) (by kernel_rfl) (by kernel_rfl) (fun _ _ _ h => h) rfl (wno rfl rfl (by decide)) (Hp.le_refl _) (by repeat (first | exact Ent.nil _ | exact Ent.refl _ | (refine Ent.pick (by repeat (first | exact Pick.here | apply Pick.there)) ?_) | refine Ent.skip ?_)) (by kernel_rfl) ?_
      refine r_skip (i := 13) (bs' := #[true, true, true, true, true, true, true, true, true, true, true, true, true, true, false, false, false, false, false, false, false, false, false]) rfl (by kernel_rfl) (by kernel_rfl) (by kernel_rfl) (fun _ _ _ h => h) rfl (wno rfl rfl (by decide)) (Hp.le_refl _) (by repeat (first | exact Ent.nil _ | exact Ent.refl _ | (refine Ent.pick (by repeat (first | exact Pick.here | apply Pick.there)) ?_) | refine Ent.skip ?_)) (by kernel_rfl) ?_
      refine r_skip (i := 14) (bs' := #[true, true, true, true, true, true, true, true, true, true, true, true, true, true, true, false, false, false, false, false, false, false, false]) rfl (by kernel_rfl) (by kernel_rfl) (by kernel_rfl) (fun _ _ _ h => h) rfl (wno rfl rfl (by decide)) (Hp.le_refl _) (by repeat (first | exact Ent.nil _ | exact Ent.refl _ | (refine Ent.pick (by repeat (first | exact Pick.here | apply Pick.there)) ?_) | refine Ent.skip ?_)) (by kernel_rfl) ?_
      refine r_skip (i := 15) (bs' := #[true, true, true, true, true, true, true, true, true, true, true, true, true, true, true, true, false, false, false, false, false, false, false]) rfl (by kernel_rfl) (by kernel_rfl) (by kernel_rfl) (fun _ _ _ h => h) rfl (wno rfl rfl (by decide)) (Hp.le_refl _) (by repeat (first | exact Ent.nil _ | exact Ent.refl _ | (refine Ent.pick (by repeat (first | exact Pick.here | apply Pick.there)) ?_) | refine Ent.skip ?_)) (by kernel_rfl) ?_
      refine r_skip (i := 16) (bs' := #[true, true, true, true, true, true, true, true, true, true, true, true, true, true, true, true, true, false, false, false, false, false, false]) rfl (by kernel_rfl) (by kernel_rfl) (by kernel_rfl) (fun _ _ _ h => h) rfl (wno rfl rfl (by decide)) (Hp.le_refl _) (by repeat (first | exact Ent.nil _ | exact Ent.refl _ | (refine Ent.pick (by repeat (first | exact Pick.here | apply Pick.there)) ?_) | refine Ent.skip ?_)) (by kernel_rfl) ?_
      refine r_skip (i := 17) (bs' := #[true, true, true, true, true, true, true, true, true, true, true, true, true, true, true, true, true, true, false, false, false, false, false]) rfl (by kernel_rfl) (by kernel_rfl) (by kernel_rfl) (fun _ _ _ h => h) rfl (wno rfl rfl (by decide)) (Hp.le_refl _) (by repeat (first | exact Ent.nil _ | exact Ent.refl _ | (refine Ent.pick (by repeat (first | exact Pick.here | apply Pick.there)) ?_) | refine Ent.skip ?_)) (by kernel_rfl) ?_
      refine r_skip (i := 18) (bs' := #[true, true, true, true, true, true, true, true, true, true, true, true, true, true, true, true, true, true, true, false, false, false, false]) rfl (by kernel_rfl) (by kernel_rfl) (by kernel_rfl) (fun _ _ _ h => h) rfl (wno rfl rfl (by decide)) (Hp.le_refl _) (by repeat (first | exact Ent.nil _ | exact Ent.refl _ | (refine Ent.pick (by repeat (first | exact Pick.here | apply Pick.there)) ?_) | refine Ent.skip ?_)) (by kernel_rfl) ?_
      refine r_skip (i := 19) (bs' := #[true, true, true, true, true, true, true, true, true, true, true, true, true, true, true, true, true, true, true, true, false, false, false]) rfl (by kernel_rfl) (by kernel_rfl) (by kernel_rfl) (fun _ _ _ h => h) rfl (wno rfl rfl (by decide)) (Hp.le_refl _) (by repeat (first | exact Ent.nil _ | exact Ent.refl _ | (refine Ent.pick (by repeat (first | exact Pick.here | apply Pick.there)) ?_) | refine Ent.skip ?_)) (by kernel_rfl) ?_
      refine r_skip (i := 20) (bs' := #[true, true, true, true, true, true, true, true, true, true, true, true, true, true, true, true, true, true, true, true, true, false, false]) rfl (by kernel_rfl) (by kernel_rfl) (by kernel_rfl) (fun _ _ _ h => h) rfl (wno rfl rfl (by decide)) (Hp.le_refl _) (by repeat (first | exact Ent.nil _ | exact Ent.refl _ | (refine Ent.pick (by repeat (first | exact Pick.here | apply Pick.there)) ?_) | refine Ent.skip ?_)) (by kernel_rfl) ?_
      refine r_take (i := 21) (bs' := #[true, true, true, true, true, true, true, true, true, true, true, true, true, true, true, true, true, true, true, true, true, true, false]) rfl (by kernel_rfl) (by kernel_rfl) (by kernel_rfl) (fun _ _ _ h => h) rfl (wy rfl rfl rfl) (q_pick rfl rfl rfl) (Hp.le_refl _) (by repeat (first | exact Ent.nil _ | exact Ent.refl _ | (refine Ent.pick (by repeat (first | exact Pick.here | apply Pick.there)) ?_) | refine Ent.skip ?_)) (by kernel_rfl) ?_
      refine r_take (i := 22) (bs' := #[true, true, true, true, true, true, true, true, true, true, true, true, true, true, true, true, true, true, true, true, true, true, true]) rfl (by kernel_rfl) (by kernel_rfl) (by kernel_rfl) (fun _ _ _ h => h) rfl wn (q_pick rfl rfl rfl) (Hp.le_refl _) (by repeat (first | exact Ent.nil _ | exact Ent.refl _ | (refine Ent.pick (by repeat (first | exact Pick.here | apply Pick.there)) ?_) | refine Ent.skip ?_)) (by kernel_rfl) ?_
      refine r_done (by kernel_rfl) ?_
      refine k_then_n ?_
      refine c_no rfl ?_
      refine c_skip ?_
      refine k_then_n ?_
      refine c_seq ?_
      refine c_seq ?_
      refine c_region ?_
      refine l_step (s_q rfl wn (q_move rfl) ?_)
      refine l_step (s_q rfl wn (q_nilCheck rfl) ?_)
      refine l_step (s_q rfl wn (by first | exact q_fieldp rfl fo_122_7 | exact q_fielde rfl fo_122_7 | exact q_fieldr rfl fo_122_7) ?_)
      refine l_step (s_q rfl wn (by first | exact q_loadp sc_120 rfl (by repeat (first | exact Pick.here | apply Pick.there)) rfl | exact q_loade sc_120 rfl (by first | assumption | exact rd_ro (by assumption) | exact rd_row (by repeat (first | exact Pick.here | apply Pick.there))) (fun _ => rfl) (by first | assumption | omega) (by decide) rfl) ?_)
      refine l_step (s_q rfl wn (q_eql rfl rfl) ?_)
      refine l_nil ?_
      refine k_then_n ?_
      refine c_sure false rfl (decide_eq_false g2_11) ?_
      simp only [Bool.false_eq_true, if_true, if_false]
      refine c_skip ?_
      refine k_then_n ?_
      refine c_seq ?_
      refine c_region ?_
      refine l_step (s_q rfl wn (q_move rfl) ?_)
      refine l_step (s_q rfl wn (q_move rfl) ?_)
      refine l_step (s_q rfl wn (q_nilCheck rfl) ?_)
      refine l_step (s_q rfl wn (by first | exact q_fieldp rfl fo_122_7 | exact q_fielde rfl fo_122_7 | exact q_fieldr rfl fo_122_7) ?_)
      refine l_step (s_s0 wn (s_storep (ws := [_]) (cs := encCli (tick1 c)) (cs' := encCli { tick1 c with st := 1 }) rfl rfl rfl sz_120 (by simp [Value.oneCell']) (by simp [encCli, encAsk, encW, encRep]) rfl (by repeat (first | exact Pick.here | apply Pick.there))) ?_)
      rintro _ _ ⟨rfl, rfl⟩
      refine l_step (s_q rfl wn (q_nilCheck rfl) ?_)
      refine l_step (s_q rfl wn (by first | exact q_fieldp rfl fo_122_8 | exact q_fielde rfl fo_122_8 | exact q_fieldr rfl fo_122_8) ?_)
      refine l_step (s_s0 wn (s_storep (ws := [_]) (cs := encCli { tick1 c with st := 1 }) (cs' := encCli ({ tick1 c with st := 1, since := 0 } : Cl)) rfl rfl rfl sz_3 (by simp [Value.oneCell']) (by simp [encCli, encAsk, encW, encRep]) rfl (by repeat (first | exact Pick.here | apply Pick.there))) ?_)
      rintro _ _ ⟨rfl, rfl⟩
      refine l_nil ?_
      refine k_then_n ?_
      refine c_seq ?_
      refine c_draw (m := 18) (bs := #[false, false, false, false, false, false, false, false, false, false, false, false, false, false, false, false, false, false]) [.pts b (encCli ({ tick1 c with st := 1, since := 0 } : Cl)) 122, .row 3 1 c.row.a c.row.xs.length c.row.cap (c.row.xs.flatMap encI)] (by kernel_rfl) rfl (by kernel_rfl) ?_
      have hat : (({ tick1 c with st := 1, since := 0 } : Cl)).at_ < c.row.xs.length := ok1
      refine r_take (i := 0) (bs' := #[true, false, false, false, false, false, false, false, false, false, false, false, false, false, false, false, false, false]) rfl (by kernel_rfl) (by kernel_rfl) (by kernel_rfl) (fun _ _ _ h => h) rfl wn (q_move rfl) (Hp.le_refl _) (by repeat (first | exact Ent.nil _ | exact Ent.refl _ | (refine Ent.pick (by repeat (first | exact Pick.here | apply Pick.there)) ?_) | refine Ent.skip ?_)) (by kernel_rfl) ?_
      refine r_take (i := 1) (bs' := #[true, true, false, false, false, false, false, false, false, false, false, false, false, false, false, false, false, false]) rfl (by kernel_rfl) (by kernel_rfl) (by kernel_rfl) (fun _ _ _ h => h) rfl wn (q_nilCheck rfl) (Hp.le_refl _) (by repeat (first | exact Ent.nil _ | exact Ent.refl _ | (refine Ent.pick (by repeat (first | exact Pick.here | apply Pick.there)) ?_) | refine Ent.skip ?_)) (by kernel_rfl) ?_
      refine r_take (i := 2) (bs' := #[true, true, true, false, false, false, false, false, false, false, false, false, false, false, false, false, false, false]) rfl (by kernel_rfl) (by kernel_rfl) (by kernel_rfl) (fun _ _ _ h => h) rfl wn (by first | exact q_fieldp rfl fo_122_2 | exact q_fielde rfl fo_122_2 | exact q_fieldr rfl fo_122_2) (Hp.le_refl _) (by repeat (first | exact Ent.nil _ | exact Ent.refl _ | (refine Ent.pick (by repeat (first | exact Pick.here | apply Pick.there)) ?_) | refine Ent.skip ?_)) (by kernel_rfl) ?_
      refine r_take (i := 3) (bs' := #[true, true, true, true, false, false, false, false, false, false, false, false, false, false, false, false, false, false]) rfl (by kernel_rfl) (by kernel_rfl) (by kernel_rfl) (fun _ _ _ h => h) rfl wn (by first | exact q_loadp sc_40 rfl (by repeat (first | exact Pick.here | apply Pick.there)) rfl | exact q_loade sc_40 rfl (by first | assumption | exact rd_ro (by assumption) | exact rd_row (by repeat (first | exact Pick.here | apply Pick.there))) (fun _ => rfl) (by first | assumption | omega) (by decide) rfl) (Hp.le_refl _) (by repeat (first | exact Ent.nil _ | exact Ent.refl _ | (refine Ent.pick (by repeat (first | exact Pick.here | apply Pick.there)) ?_) | refine Ent.skip ?_)) (by kernel_rfl) ?_
      refine r_take (i := 4) (bs' := #[true, true, true, true, true, false, false, false, false, false, false, false, false, false, false, false, false, false]) rfl (by kernel_rfl) (by kernel_rfl) (by kernel_rfl) (fun _ _ _ h => h) rfl wn (q_move rfl) (Hp.le_refl _) (by repeat (first | exact Ent.nil _ | exact Ent.refl _ | (refine Ent.pick (by repeat (first | exact Pick.here | apply Pick.there)) ?_) | refine Ent.skip ?_)) (by kernel_rfl) ?_
      refine r_take (i := 5) (bs' := #[true, true, true, true, true, true, false, false, false, false, false, false, false, false, false, false, false, false]) rfl (by kernel_rfl) (by kernel_rfl) (by kernel_rfl) (fun _ _ _ h => h) rfl wn (q_nilCheck rfl) (Hp.le_refl _) (by repeat (first | exact Ent.nil _ | exact Ent.refl _ | (refine Ent.pick (by repeat (first | exact Pick.here | apply Pick.there)) ?_) | refine Ent.skip ?_)) (by kernel_rfl) ?_
      refine r_take (i := 6) (bs' := #[true, true, true, true, true, true, true, false, false, false, false, false, false, false, false, false, false, false]) rfl (by kernel_rfl) (by kernel_rfl) (by kernel_rfl) (fun _ _ _ h => h) rfl wn (by first | exact q_fieldp rfl fo_122_3 | exact q_fielde rfl fo_122_3 | exact q_fieldr rfl fo_122_3) (Hp.le_refl _) (by repeat (first | exact Ent.nil _ | exact Ent.refl _ | (refine Ent.pick (by repeat (first | exact Pick.here | apply Pick.there)) ?_) | refine Ent.skip ?_)) (by kernel_rfl) ?_
      refine r_take (i := 7) (bs' := #[true, true, true, true, true, true, true, true, false, false, false, false, false, false, false, false, false, false]) rfl (by kernel_rfl) (by kernel_rfl) (by kernel_rfl) (fun _ _ _ h => h) rfl wn (by first | exact q_loadp sc_3 rfl (by repeat (first | exact Pick.here | apply Pick.there)) rfl | exact q_loade sc_3 rfl (by first | assumption | exact rd_ro (by assumption) | exact rd_row (by repeat (first | exact Pick.here | apply Pick.there))) (fun _ => rfl) (by first | assumption | omega) (by decide) rfl) (Hp.le_refl _) (by repeat (first | exact Ent.nil _ | exact Ent.refl _ | (refine Ent.pick (by repeat (first | exact Pick.here | apply Pick.there)) ?_) | refine Ent.skip ?_)) (by kernel_rfl) ?_
      refine r_take (i := 8) (bs' := #[true, true, true, true, true, true, true, true, true, false, false, false, false, false, false, false, false, false]) rfl (by kernel_rfl) (by kernel_rfl) (by kernel_rfl) (fun _ _ _ h => h) rfl wn (q_indexe (({ tick1 c with st := 1, since := 0 } : Cl)).at_ Try.underlying40 sz_3 rfl rfl (by first | assumption | exact rd_ro (by assumption) | exact rd_row (by repeat (first | exact Pick.here | apply Pick.there))) (by decide) rfl hat) (Hp.le_refl _) (by repeat (first | exact Ent.nil _ | exact Ent.refl _ | (refine Ent.pick (by repeat (first | exact Pick.here | apply Pick.there)) ?_) | refine Ent.skip ?_)) (by kernel_rfl) ?_
      refine r_take (i := 9) (bs' := #[true, true, true, true, true, true, true, true, true, true, false, false, false, false, false, false, false, false]) rfl (by kernel_rfl) (by kernel_rfl) (by kernel_rfl) (fun _ _ _ h => h) rfl wn (by first | exact q_loadp sc_3 rfl (by repeat (first | exact Pick.here | apply Pick.there)) rfl | exact q_loade sc_3 rfl (by first | assumption | exact rd_ro (by assumption) | exact rd_row (by repeat (first | exact Pick.here | apply Pick.there))) (fun _ => rfl) (by first | assumption | omega) (by decide) rfl) (Hp.le_refl _) (by repeat (first | exact Ent.nil _ | exact Ent.refl _ | (refine Ent.pick (by repeat (first | exact Pick.here | apply Pick.there)) ?_) | refine Ent.skip ?_)) (by kernel_rfl) ?_
      refine r_take (i := 10) (bs' := #[true, true, true, true, true, true, true, true, true, true, true, false, false, false, false, false, false, false]) rfl (by kernel_rfl) (by kernel_rfl) (by kernel_rfl) (fun _ _ _ h => h) rfl wn (q_move rfl) (Hp.le_refl _) (by repeat (first | exact Ent.nil _ | exact Ent.refl _ | (refine Ent.pick (by repeat (first | exact Pick.here | apply Pick.there)) ?_) | refine Ent.skip ?_)) (by kernel_rfl) ?_
      refine r_take (i := 11) (bs' := #[true, true, true, true, true, true, true, true, true, true, true, true, false, false, false, false, false, false]) rfl (by kernel_rfl) (by kernel_rfl) (by kernel_rfl) (fun _ _ _ h => h) rfl wn (q_nilCheck rfl) (Hp.le_refl _) (by repeat (first | exact Ent.nil _ | exact Ent.refl _ | (refine Ent.pick (by repeat (first | exact Pick.here | apply Pick.there)) ?_) | refine Ent.skip ?_)) (by kernel_rfl) ?_
      refine r_take (i := 12) (bs' := #[true, true, true, true, true, true, true, true, true, true, true, true, true, false, false, false, false, false]) rfl (by kernel_rfl) (by kernel_rfl) (by kernel_rfl) (fun _ _ _ h => h) rfl wn (by first | exact q_fieldp rfl fo_122_5 | exact q_fielde rfl fo_122_5 | exact q_fieldr rfl fo_122_5) (Hp.le_refl _) (by repeat (first | exact Ent.nil _ | exact Ent.refl _ | (refine Ent.pick (by repeat (first | exact Pick.here | apply Pick.there)) ?_) | refine Ent.skip ?_)) (by kernel_rfl) ?_
      refine r_take (i := 13) (bs' := #[true, true, true, true, true, true, true, true, true, true, true, true, true, true, false, false, false, false]) rfl (by kernel_rfl) (by kernel_rfl) (by kernel_rfl) (fun _ _ _ h => h) rfl wn (q_loadpa (vs := encAsk c.ask) ag_54 rfl (by repeat (first | exact Pick.here | apply Pick.there)) rfl) (Hp.le_refl _) (by repeat (first | exact Ent.nil _ | exact Ent.refl _ | (refine Ent.pick (by repeat (first | exact Pick.here | apply Pick.there)) ?_) | refine Ent.skip ?_)) (by kernel_rfl) ?_
      refine r_one (i := 14) (bs' := #[true, true, true, true, true, true, true, true, true, true, true, true, true, true, true, false, false, false]) (by kernel_rfl) (by kernel_rfl) ?_
      refine o_step rfl (s_fn rfl wn Try.func57 rfl (by kernel_rfl) rfl (own_spec c.ask ok3 ρ _ (by exact askRd_raw (by repeat (first | exact Pick.here | apply Pick.there)))) (sel_all _) ?_)
      rintro _ _ _ - ⟨rfl, w63, hw63, rfl, rfl⟩
      refine Tr.ent (Ent.cast (List.append_nil _)) ?_
      refine r_cont (Hp.le_refl _) (by repeat (first | exact Ent.nil _ | exact Ent.refl _ | (refine Ent.pick (by repeat (first | exact Pick.here | apply Pick.there)) ?_) | refine Ent.skip ?_)) ?_
      refine r_take (i := 15) (bs' := #[true, true, true, true, true, true, true, true, true, true, true, true, true, true, true, true, false, false]) rfl (by kernel_rfl) (by kernel_rfl) (by kernel_rfl) (fun _ _ _ h => h) rfl wn (q_assign rfl) (Hp.le_refl _) (by repeat (first | exact Ent.nil _ | exact Ent.refl _ | (refine Ent.pick (by repeat (first | exact Pick.here | apply Pick.there)) ?_) | refine Ent.skip ?_)) (by kernel_rfl) ?_
      refine r_one (i := 16) (bs' := #[true, true, true, true, true, true, true, true, true, true, true, true, true, true, true, true, true, false]) (by kernel_rfl) (by kernel_rfl) ?_
      refine o_step rfl (s_s0 wn (s_storep (ws := encAsk { c.ask with waves := w63 }) (cs := encAsk askZ) (cs' := encAsk { c.ask with waves := w63 }) rfl rfl rfl sz_54 (oneAsk _) (by simp [encCli, encAsk, encW, encRep]) rfl (by repeat (first | exact Pick.here | apply Pick.there))) ?_)
      rintro _ _ ⟨rfl, rfl⟩
      refine r_cont (Hp.le_refl _) (by repeat (first | exact Ent.nil _ | exact Ent.refl _ | (refine Ent.pick (by repeat (first | exact Pick.here | apply Pick.there)) ?_) | refine Ent.skip ?_)) ?_
      refine r_take (i := 17) (bs' := #[true, true, true, true, true, true, true, true, true, true, true, true, true, true, true, true, true, true]) rfl (by kernel_rfl) (by kernel_rfl) (by kernel_rfl) (fun _ _ _ h => h) rfl wn (q_assign rfl) (Hp.le_refl _) (by repeat (first | exact Ent.nil _ | exact Ent.refl _ | (refine Ent.pick (by repeat (first | exact Pick.here | apply Pick.there)) ?_) | refine Ent.skip ?_)) (by kernel_rfl) ?_
      refine r_done (by kernel_rfl) ?_
      refine k_then_n ?_
      refine c_ret ?_
      exact t_ret (.raw (AskMem w63) :: (CliM 3 122 b (tick2 c))) rfl (.tmp rfl (.cell rfl (by repeat (first | exact Pick.here | apply Pick.there)) (fun w h => ld_agg (by exact ag_54) h) (.tmp rfl .nil))) rfl (Hp.le_refl _) ⟨rfl, .inr ⟨⟨by simpa [tick1] using g2_5, fun q => g2_11 q.1⟩, w63, hw63, (by rw [tick2_no (c := c) g2_11]; rfl), rfl⟩⟩ (by rw [tick2_no (c := c) g2_11]; simp only [CliM, List.cons_append, List.nil_append]; exact (by repeat (first | exact Ent.nil _ | exact Ent.refl _ | (refine Ent.pick (by repeat (first | exact Pick.here | apply Pick.there)) ?_) | refine Ent.skip ?_)))

theorem on_spec (b : Nat) (c : Cl) (ok : CliOk c) (ρ : Hp) : Spec0 Try.prog 26 #[.pointer (some ⟨b, 0, none⟩)] ρ (CliM 3 122 b c) (fun v Γ' => (c.on = false ∧ v = .tuple #[.agg (encAsk askZ).toArray, .bool false] ∧ Γ' = (CliM 3 122 b c)) ∨ (c.on = true ∧ ∃ w : SL WvV, w.xs.map WvD = c.ask.waves.xs.map WvD ∧ v = .tuple #[.agg (encAsk { c.ask with waves := w }).toArray, .bool true] ∧ Γ' = .raw (AskMem w) :: (CliM 3 122 b c))) := by
  refine spec_of (n := 15) (vs := [_]) (σ := [(0, _)]) Try.func26 rfl rfl rfl rfl fun E Δ => ?_
  simp only [CliM, List.cons_append, List.nil_append]
  obtain ⟨ok1, ok2, ok3⟩ := ok
  refine c_seq ?_
  refine c_region ?_
  refine l_step (s_s rfl wn (s_allocz zc_54) ?_)
  rintro _ _ ⟨b2, rfl, rfl⟩
  refine l_step (s_q rfl wn (q_assign rfl) ?_)
  refine l_nil ?_
  refine k_then_n ?_
  refine c_seq ?_
  refine c_seq ?_
  refine c_region ?_
  refine l_step (s_q rfl wn (q_move rfl) ?_)
  refine l_step (s_q rfl wn (q_nilCheck rfl) ?_)
  refine l_step (s_q rfl wn (by first | exact q_fieldp rfl fo_122_6 | exact q_fielde rfl fo_122_6 | exact q_fieldr rfl fo_122_6) ?_)
  refine l_step (s_q rfl wn (by first | exact q_loadp sc_4 rfl (by repeat (first | exact Pick.here | apply Pick.there)) rfl | exact q_loade sc_4 rfl (by first | assumption | exact rd_ro (by assumption) | exact rd_row (by repeat (first | exact Pick.here | apply Pick.there))) (fun _ => rfl) (by first | assumption | omega) (by decide) rfl) ?_)
  refine l_step (s_q rfl wn (q_not rfl) ?_)
  refine l_nil ?_
  refine k_then_n ?_
  first | refine c_if rfl (fun h0 => ?_) (fun h0 => ?_) | refine c_cond rfl (fun h0 => ?_) (fun h0 => ?_)
  · skip
    refine c_seq ?_
    refine c_region ?_
    refine l_step (s_q rfl wn (q_build (cs := [_, _, _, _, _, _, _, _, _, _, _, _]) zc_54 pl_54 rfl rfl) ?_)
    refine l_step (s_s0 wn (s_storep (ws := encAsk askZ) (cs := encAsk askZ) (cs' := encAsk askZ) rfl rfl rfl sz_54 (oneAsk _) (by simp [encCli, encAsk, encW, encRep]) rfl (by repeat (first | exact Pick.here | apply Pick.there))) ?_)
    rintro _ _ ⟨rfl, rfl⟩
    refine l_step (s_q rfl wn (q_assign rfl) ?_)
    refine l_nil ?_
    refine k_then_n ?_
    refine c_ret ?_
    refine k_then_r ?_
    exact t_ret (CliM 3 122 b c) rfl (.cell rfl (by repeat (first | exact Pick.here | apply Pick.there)) (fun w h => ld_agg (by exact ag_54) h) (.tmp rfl .nil)) rfl (Hp.le_refl _) ⟨rfl, .inl ⟨by simpa using h0, rfl, rfl⟩⟩ (by simp only [CliM, List.cons_append, List.nil_append]; exact (by repeat (first | exact Ent.nil _ | exact Ent.refl _ | (refine Ent.pick (by repeat (first | exact Pick.here | apply Pick.there)) ?_) | refine Ent.skip ?_)))
  · skip
    refine c_skip ?_
    refine k_then_n ?_
    refine c_seq ?_
    refine c_region ?_
    refine l_step (s_q rfl wn (q_move rfl) ?_)
    refine l_step (s_q rfl wn (q_nilCheck rfl) ?_)
    refine l_step (s_q rfl wn (by first | exact q_fieldp rfl fo_122_5 | exact q_fielde rfl fo_122_5 | exact q_fieldr rfl fo_122_5) ?_)
    refine l_step (s_q rfl wn (q_loadpa (vs := encAsk c.ask) ag_54 rfl (by repeat (first | exact Pick.here | apply Pick.there)) rfl) ?_)
    refine l_step (s_fn rfl wn Try.func57 rfl (by kernel_rfl) rfl (own_spec c.ask ok3 ρ _ (by exact askRd_raw (by repeat (first | exact Pick.here | apply Pick.there)))) (sel_all _) ?_)
    rintro _ _ _ - ⟨rfl, w14, hw14, rfl, rfl⟩
    refine Tr.ent (Ent.cast (List.append_nil _)) ?_
    refine l_step (s_s0 wn (s_storep (ws := encAsk { c.ask with waves := w14 }) (cs := encAsk askZ) (cs' := encAsk { c.ask with waves := w14 }) rfl rfl rfl sz_54 (oneAsk _) (by simp [encCli, encAsk, encW, encRep]) rfl (by repeat (first | exact Pick.here | apply Pick.there))) ?_)
    rintro _ _ ⟨rfl, rfl⟩
    refine l_step (s_q rfl wn (q_assign rfl) ?_)
    refine l_nil ?_
    refine k_then_n ?_
    refine c_ret ?_
    exact t_ret (.raw (AskMem w14) :: (CliM 3 122 b c)) rfl (.cell rfl (by repeat (first | exact Pick.here | apply Pick.there)) (fun w h => ld_agg (by exact ag_54) h) (.tmp rfl .nil)) rfl (Hp.le_refl _) ⟨rfl, .inr ⟨by simpa using h0, w14, hw14, rfl, rfl⟩⟩ (by simp only [CliM, List.cons_append, List.nil_append]; exact (by repeat (first | exact Ent.nil _ | exact Ent.refl _ | (refine Ent.pick (by repeat (first | exact Pick.here | apply Pick.there)) ?_) | refine Ent.skip ?_)))

theorem begin_spec (b : Nat) (c : Cl) (a : AskV) (sm : Small a.waves) (hq : 0 ≤ c.seq ∧ c.seq ≤ 1000000000) (ρ : Hp) (ha : AskMem a.waves ρ) : Spec0 Try.prog 24 #[.pointer (some ⟨b, 0, none⟩), .agg (encAsk a).toArray] ρ (CliM 3 122 b c) (fun v Γ' => (c.on = true ∧ v = .int .i64 91 ∧ Γ' = (CliM 3 122 b c)) ∨ (c.on = false ∧ ¬ (1 ≤ a.kind ∧ a.kind ≤ 3) ∧ v = .int .i64 2 ∧ Γ' = (CliM 3 122 b c)) ∨ (c.on = false ∧ (1 ≤ a.kind ∧ a.kind ≤ 3) ∧ ∃ w : SL WvV, w.xs.map WvD = a.waves.xs.map WvD ∧ v = .int .i64 0 ∧ Γ' = (CliM 3 122 b (begun c a w)))) := by
  refine spec_of (n := 53) (vs := [_, _]) (σ := [(0, _), (1, _)]) Try.func24 rfl rfl rfl rfl fun E Δ => ?_
  simp only [CliM, List.cons_append, List.nil_append]
  refine c_seq ?_
  refine c_region ?_
  refine l_step (s_s rfl wn (s_box rfl rfl) ?_)
  rintro _ _ ⟨b3, rfl, rfl⟩
  refine l_step (s_q rfl wn (q_assign rfl) ?_)
  refine l_nil ?_
  refine k_then_n ?_
  refine c_seq ?_
  refine c_block ?_
  refine c_seq ?_
  refine c_region ?_
  refine l_step (s_q rfl wn (q_move rfl) ?_)
  refine l_step (s_q rfl wn (q_nilCheck rfl) ?_)
  refine l_step (s_q rfl wn (by first | exact q_fieldp rfl fo_122_6 | exact q_fielde rfl fo_122_6 | exact q_fieldr rfl fo_122_6) ?_)
  refine l_step (s_q rfl wn (by first | exact q_loadp sc_4 rfl (by repeat (first | exact Pick.here | apply Pick.there)) rfl | exact q_loade sc_4 rfl (by first | assumption | exact rd_ro (by assumption) | exact rd_row (by repeat (first | exact Pick.here | apply Pick.there))) (fun _ => rfl) (by first | assumption | omega) (by decide) rfl) ?_)
  refine l_step (s_q rfl wn (q_assign rfl) ?_)
  refine l_nil ?_
  refine k_then_n ?_
  first | refine c_if rfl (fun h0 => ?_) (fun h0 => ?_) | refine c_cond rfl (fun h0 => ?_) (fun h0 => ?_)
  · skip
    refine c_seq ?_
    refine c_region ?_
    refine l_step (s_q rfl wn (q_assign rfl) ?_)
    refine l_nil ?_
    refine k_then_n ?_
    refine c_ret ?_
    refine k_blk_r ?_
    refine k_then_r ?_
    exact t_ret (CliM 3 122 b c) rfl (.tmp rfl .nil) rfl (Hp.le_refl _) ⟨rfl, .inl ⟨h0, rfl, rfl⟩⟩ (by simp only [CliM, List.cons_append, List.nil_append]; exact (by repeat (first | exact Ent.nil _ | exact Ent.refl _ | (refine Ent.pick (by repeat (first | exact Pick.here | apply Pick.there)) ?_) | refine Ent.skip ?_)))
  · skip
    refine c_seq ?_
    refine c_region ?_
    refine l_step (s_q rfl wn (by first | exact q_fieldp rfl fo_54_0 | exact q_fielde rfl fo_54_0 | exact q_fieldr rfl fo_54_0) ?_)
    refine l_step (s_q rfl wn (by first | exact q_loadp sc_3 rfl (by repeat (first | exact Pick.here | apply Pick.there)) rfl | exact q_loade sc_3 rfl (by first | assumption | exact rd_ro (by assumption) | exact rd_row (by repeat (first | exact Pick.here | apply Pick.there))) (fun _ => rfl) (by first | assumption | omega) (by decide) rfl) ?_)
    refine l_step (s_q rfl wn (q_lss rfl rfl) ?_)
    refine l_step (s_q rfl wn (q_move rfl) ?_)
    first | refine t_splitd (d := 14) rfl (fun g3_3 => ?_) (fun g3_3 => ?_) | refine t_split (d := 14) rfl (fun g3_3 => ?_) (fun g3_3 => ?_)
    · skip
      refine l_step (s_no rfl (wno rfl rfl (by decide)) ?_)
      refine l_step (s_no rfl (wno rfl rfl (by decide)) ?_)
      refine l_step (s_no rfl (wno rfl rfl (by decide)) ?_)
      refine l_step (s_q rfl wn (q_pick rfl rfl rfl) ?_)
      refine l_step (s_q rfl wn (q_assign rfl) ?_)
      refine l_nil ?_
      refine k_then_n ?_
      refine c_yes rfl ?_
      refine c_seq ?_
      refine c_region ?_
      refine l_step (s_q rfl wn (q_assign rfl) ?_)
      refine l_nil ?_
      refine k_then_n ?_
      refine c_ret ?_
      refine k_blk_r ?_
      refine k_then_r ?_
      exact t_ret (CliM 3 122 b c) rfl (.tmp rfl .nil) rfl (Hp.le_refl _) ⟨rfl, .inr (.inl ⟨h0, by omega, rfl, rfl⟩)⟩ (by simp only [CliM, List.cons_append, List.nil_append]; exact (by repeat (first | exact Ent.nil _ | exact Ent.refl _ | (refine Ent.pick (by repeat (first | exact Pick.here | apply Pick.there)) ?_) | refine Ent.skip ?_)))
    · skip
      refine l_step (s_q rfl (wy rfl rfl rfl) (by first | exact q_fieldp rfl fo_54_0 | exact q_fielde rfl fo_54_0 | exact q_fieldr rfl fo_54_0) ?_)
      refine l_step (s_q rfl (wy rfl rfl rfl) (by first | exact q_loadp sc_3 rfl (by repeat (first | exact Pick.here | apply Pick.there)) rfl | exact q_loade sc_3 rfl (by first | assumption | exact rd_ro (by assumption) | exact rd_row (by repeat (first | exact Pick.here | apply Pick.there))) (fun _ => rfl) (by first | assumption | omega) (by decide) rfl) ?_)
      refine l_step (s_q rfl (wy rfl rfl rfl) (q_gtr rfl rfl) ?_)
      refine l_step (s_q rfl wn (q_pick rfl rfl rfl) ?_)
      refine l_step (s_q rfl wn (q_assign rfl) ?_)
      refine l_nil ?_
      refine k_then_n ?_
      first | refine c_if rfl (fun h1 => ?_) (fun h1 => ?_) | refine c_cond rfl (fun h1 => ?_) (fun h1 => ?_)
      · skip
        refine c_seq ?_
        refine c_region ?_
        refine l_step (s_q rfl wn (q_assign rfl) ?_)
        refine l_nil ?_
        refine k_then_n ?_
        refine c_ret ?_
        refine k_blk_r ?_
        refine k_then_r ?_
        exact t_ret (CliM 3 122 b c) rfl (.tmp rfl .nil) rfl (Hp.le_refl _) ⟨rfl, .inr (.inl ⟨h0, by omega, rfl, rfl⟩)⟩ (by simp only [CliM, List.cons_append, List.nil_append]; exact (by repeat (first | exact Ent.nil _ | exact Ent.refl _ | (refine Ent.pick (by repeat (first | exact Pick.here | apply Pick.there)) ?_) | refine Ent.skip ?_)))
      · skip
        refine c_skip ?_
        refine k_blk_n ?_
        refine k_then_n ?_
        refine c_seq ?_
        refine c_region ?_
        refine l_step (s_q rfl wn (q_move rfl) ?_)
        refine l_step (s_q rfl wn (q_nilCheck rfl) ?_)
        refine l_step (s_q rfl wn (by first | exact q_fieldp rfl fo_122_4 | exact q_fielde rfl fo_122_4 | exact q_fieldr rfl fo_122_4) ?_)
        refine l_step (s_q rfl wn (by first | exact q_loadp sc_3 rfl (by repeat (first | exact Pick.here | apply Pick.there)) rfl | exact q_loade sc_3 rfl (by first | assumption | exact rd_ro (by assumption) | exact rd_row (by repeat (first | exact Pick.here | apply Pick.there))) (fun _ => rfl) (by first | assumption | omega) (by decide) rfl) ?_)
        refine l_step (s_q rfl wn (by first | exact q_add rfl rfl (by omega) (by omega) | exact q_addw rfl rfl) ?_)
        refine l_step (s_q rfl wn (q_nilCheck rfl) ?_)
        refine l_step (s_q rfl wn (by first | exact q_fieldp rfl fo_122_4 | exact q_fielde rfl fo_122_4 | exact q_fieldr rfl fo_122_4) ?_)
        refine l_step (s_s0 wn (s_storep (ws := [_]) (cs := encCli c) (cs' := encCli ({ c with seq := c.seq + 1 } : Cl)) rfl rfl rfl sz_3 (by simp [Value.oneCell']) (by simp [encCli, encAsk, encW, encRep]) rfl (by repeat (first | exact Pick.here | apply Pick.there))) ?_)
        rintro _ _ ⟨rfl, rfl⟩
        refine l_nil ?_
        refine k_then_n ?_
        refine c_seq ?_
        refine c_region ?_
        refine l_step (s_q rfl wn (q_move rfl) ?_)
        refine l_step (s_q rfl wn (q_move rfl) ?_)
        refine l_step (s_q rfl wn (q_move rfl) ?_)
        refine l_step (s_q rfl wn (q_loadpa (vs := encAsk a) ag_54 rfl (by repeat (first | exact Pick.here | apply Pick.there)) rfl) ?_)
        refine l_step (s_fn rfl wn Try.func57 rfl (by kernel_rfl) rfl (own_spec a sm ρ _ (askRd_ro ha)) (sel_all _) ?_)
        rintro _ _ _ - ⟨rfl, w30, hw30, rfl, rfl⟩
        refine Tr.ent (Ent.cast (List.append_nil _)) ?_
        refine l_step (s_q rfl wn (q_nilCheck rfl) ?_)
        refine l_step (s_q rfl wn (by first | exact q_fieldp rfl fo_122_5 | exact q_fielde rfl fo_122_5 | exact q_fieldr rfl fo_122_5) ?_)
        refine l_step (s_s0 wn (s_storep (ws := encAsk { a with waves := w30 }) (cs := encCli ({ c with seq := c.seq + 1 } : Cl)) (cs' := encCli ({ c with seq := c.seq + 1, ask := { a with waves := w30 } } : Cl)) rfl rfl rfl sz_54 (oneAsk _) (by simp [encCli, encAsk, encW, encRep]) rfl (by repeat (first | exact Pick.here | apply Pick.there))) ?_)
        rintro _ _ ⟨rfl, rfl⟩
        refine l_step (s_q rfl wn (q_nilCheck rfl) ?_)
        refine l_step (s_q rfl wn (by first | exact q_fieldp rfl fo_122_6 | exact q_fielde rfl fo_122_6 | exact q_fieldr rfl fo_122_6) ?_)
        refine l_step (s_s0 wn (s_storep (ws := [_]) (cs := encCli ({ c with seq := c.seq + 1, ask := { a with waves := w30 } } : Cl)) (cs' := encCli ({ c with seq := c.seq + 1, ask := { a with waves := w30 }, on := true } : Cl)) rfl rfl rfl sz_4 (by simp [Value.oneCell']) (by simp [encCli, encAsk, encW, encRep]) rfl (by repeat (first | exact Pick.here | apply Pick.there))) ?_)
        rintro _ _ ⟨rfl, rfl⟩
        refine l_step (s_q rfl wn (q_nilCheck rfl) ?_)
        refine l_step (s_q rfl wn (by first | exact q_fieldp rfl fo_122_7 | exact q_fielde rfl fo_122_7 | exact q_fieldr rfl fo_122_7) ?_)
        refine l_step (s_s0 wn (s_storep (ws := [_]) (cs := encCli ({ c with seq := c.seq + 1, ask := { a with waves := w30 }, on := true } : Cl)) (cs' := encCli ({ c with seq := c.seq + 1, ask := { a with waves := w30 }, on := true, st := 0 } : Cl)) rfl rfl rfl sz_120 (by simp [Value.oneCell']) (by simp [encCli, encAsk, encW, encRep]) rfl (by repeat (first | exact Pick.here | apply Pick.there))) ?_)
        rintro _ _ ⟨rfl, rfl⟩
        refine l_nil ?_
        refine k_then_n ?_
        refine c_seq ?_
        refine c_draw (m := 18) (bs := #[false, false, false, false, false, false, false, false, false, false, false, false, false, false, false, false, false, false]) [] (by kernel_rfl) rfl (by kernel_rfl) ?_
        refine r_take (i := 0) (bs' := #[true, false, false, false, false, false, false, false, false, false, false, false, false, false, false, false, false, false]) rfl (by kernel_rfl) (by kernel_rfl) (by kernel_rfl) (fun _ _ _ h => h) rfl wn (q_move rfl) (Hp.le_refl _) (by repeat (first | exact Ent.nil _ | exact Ent.refl _ | (refine Ent.pick (by repeat (first | exact Pick.here | apply Pick.there)) ?_) | refine Ent.skip ?_)) (by kernel_rfl) ?_
        refine r_take (i := 1) (bs' := #[true, true, false, false, false, false, false, false, false, false, false, false, false, false, false, false, false, false]) rfl (by kernel_rfl) (by kernel_rfl) (by kernel_rfl) (fun _ _ _ h => h) rfl wn (q_move rfl) (Hp.le_refl _) (by repeat (first | exact Ent.nil _ | exact Ent.refl _ | (refine Ent.pick (by repeat (first | exact Pick.here | apply Pick.there)) ?_) | refine Ent.skip ?_)) (by kernel_rfl) ?_
        refine r_take (i := 2) (bs' := #[true, true, true, false, false, false, false, false, false, false, false, false, false, false, false, false, false, false]) rfl (by kernel_rfl) (by kernel_rfl) (by kernel_rfl) (fun _ _ _ h => h) rfl wn (q_move rfl) (Hp.le_refl _) (by repeat (first | exact Ent.nil _ | exact Ent.refl _ | (refine Ent.pick (by repeat (first | exact Pick.here | apply Pick.there)) ?_) | refine Ent.skip ?_)) (by kernel_rfl) ?_
        refine r_take (i := 3) (bs' := #[true, true, true, true, false, false, false, false, false, false, false, false, false, false, false, false, false, false]) rfl (by kernel_rfl) (by kernel_rfl) (by kernel_rfl) (fun _ _ _ h => h) rfl wn (q_nilCheck rfl) (Hp.le_refl _) (by repeat (first | exact Ent.nil _ | exact Ent.refl _ | (refine Ent.pick (by repeat (first | exact Pick.here | apply Pick.there)) ?_) | refine Ent.skip ?_)) (by kernel_rfl) ?_
        refine r_take (i := 4) (bs' := #[true, true, true, true, true, false, false, false, false, false, false, false, false, false, false, false, false, false]) rfl (by kernel_rfl) (by kernel_rfl) (by kernel_rfl) (fun _ _ _ h => h) rfl wn (by first | exact q_fieldp rfl fo_122_0 | exact q_fielde rfl fo_122_0 | exact q_fieldr rfl fo_122_0) (Hp.le_refl _) (by repeat (first | exact Ent.nil _ | exact Ent.refl _ | (refine Ent.pick (by repeat (first | exact Pick.here | apply Pick.there)) ?_) | refine Ent.skip ?_)) (by kernel_rfl) ?_
        refine r_take (i := 6) (bs' := #[true, true, true, true, true, false, true, false, false, false, false, false, false, false, false, false, false, false]) rfl (by kernel_rfl) (by kernel_rfl) (by kernel_rfl) (fun _ _ _ h => h) rfl wn (q_move rfl) (Hp.le_refl _) (by repeat (first | exact Ent.nil _ | exact Ent.refl _ | (refine Ent.pick (by repeat (first | exact Pick.here | apply Pick.there)) ?_) | refine Ent.skip ?_)) (by kernel_rfl) ?_
        refine r_take (i := 7) (bs' := #[true, true, true, true, true, false, true, true, false, false, false, false, false, false, false, false, false, false]) rfl (by kernel_rfl) (by kernel_rfl) (by kernel_rfl) (fun _ _ _ h => h) rfl wn (q_nilCheck rfl) (Hp.le_refl _) (by repeat (first | exact Ent.nil _ | exact Ent.refl _ | (refine Ent.pick (by repeat (first | exact Pick.here | apply Pick.there)) ?_) | refine Ent.skip ?_)) (by kernel_rfl) ?_
        refine r_take (i := 8) (bs' := #[true, true, true, true, true, false, true, true, true, false, false, false, false, false, false, false, false, false]) rfl (by kernel_rfl) (by kernel_rfl) (by kernel_rfl) (fun _ _ _ h => h) rfl wn (by first | exact q_fieldp rfl fo_122_4 | exact q_fielde rfl fo_122_4 | exact q_fieldr rfl fo_122_4) (Hp.le_refl _) (by repeat (first | exact Ent.nil _ | exact Ent.refl _ | (refine Ent.pick (by repeat (first | exact Pick.here | apply Pick.there)) ?_) | refine Ent.skip ?_)) (by kernel_rfl) ?_
        refine r_two (i := 5) (j := 9) (bi := #[true, true, true, true, true, true, true, true, true, false, false, false, false, false, false, false, false, false]) (bj := #[true, true, true, true, true, false, true, true, true, true, false, false, false, false, false, false, false, false]) (by kernel_rfl) (by kernel_rfl) (by kernel_rfl) ?_ ?_
        · skip
          refine o_step rfl (s_q rfl wn (by first | exact q_loadp sc_3 rfl (by repeat (first | exact Pick.here | apply Pick.there)) rfl | exact q_loade sc_3 rfl (by first | assumption | exact rd_ro (by assumption) | exact rd_row (by repeat (first | exact Pick.here | apply Pick.there))) (fun _ => rfl) (by first | assumption | omega) (by decide) rfl) ?_)
          refine r_cont (Hp.le_refl _) (by repeat (first | exact Ent.nil _ | exact Ent.refl _ | (refine Ent.pick (by repeat (first | exact Pick.here | apply Pick.there)) ?_) | refine Ent.skip ?_)) ?_
          refine r_one (i := 9) (bs' := #[true, true, true, true, true, true, true, true, true, true, false, false, false, false, false, false, false, false]) (by kernel_rfl) (by kernel_rfl) ?_
          refine o_step rfl (s_q rfl wn (by first | exact q_loadp sc_3 rfl (by repeat (first | exact Pick.here | apply Pick.there)) rfl | exact q_loade sc_3 rfl (by first | assumption | exact rd_ro (by assumption) | exact rd_row (by repeat (first | exact Pick.here | apply Pick.there))) (fun _ => rfl) (by first | assumption | omega) (by decide) rfl) ?_)
          refine r_cont (Hp.le_refl _) (by repeat (first | exact Ent.nil _ | exact Ent.refl _ | (refine Ent.pick (by repeat (first | exact Pick.here | apply Pick.there)) ?_) | refine Ent.skip ?_)) ?_
          refine r_take (i := 10) (bs' := #[true, true, true, true, true, true, true, true, true, true, true, false, false, false, false, false, false, false]) rfl (by kernel_rfl) (by kernel_rfl) (by kernel_rfl) (fun _ _ _ h => h) rfl wn (q_nilCheck rfl) (Hp.le_refl _) (by repeat (first | exact Ent.nil _ | exact Ent.refl _ | (refine Ent.pick (by repeat (first | exact Pick.here | apply Pick.there)) ?_) | refine Ent.skip ?_)) (by kernel_rfl) ?_
          refine r_take (i := 11) (bs' := #[true, true, true, true, true, true, true, true, true, true, true, true, false, false, false, false, false, false]) rfl (by kernel_rfl) (by kernel_rfl) (by kernel_rfl) (fun _ _ _ h => h) rfl wn (by first | exact q_fieldp rfl fo_122_5 | exact q_fielde rfl fo_122_5 | exact q_fieldr rfl fo_122_5) (Hp.le_refl _) (by repeat (first | exact Ent.nil _ | exact Ent.refl _ | (refine Ent.pick (by repeat (first | exact Pick.here | apply Pick.there)) ?_) | refine Ent.skip ?_)) (by kernel_rfl) ?_
          refine r_take (i := 12) (bs' := #[true, true, true, true, true, true, true, true, true, true, true, true, true, false, false, false, false, false]) rfl (by kernel_rfl) (by kernel_rfl) (by kernel_rfl) (fun _ _ _ h => h) rfl wn (by first | exact q_fieldp rfl fo_54_1 | exact q_fielde rfl fo_54_1 | exact q_fieldr rfl fo_54_1) (Hp.le_refl _) (by repeat (first | exact Ent.nil _ | exact Ent.refl _ | (refine Ent.pick (by repeat (first | exact Pick.here | apply Pick.there)) ?_) | refine Ent.skip ?_)) (by kernel_rfl) ?_
          refine r_one (i := 13) (bs' := #[true, true, true, true, true, true, true, true, true, true, true, true, true, true, false, false, false, false]) (by kernel_rfl) (by kernel_rfl) ?_
          refine o_step rfl (s_s0 wn (s_storep (ws := [_]) (cs := encCli ({ c with seq := c.seq + 1, ask := { a with waves := w30 }, on := true, st := 0 } : Cl)) (cs' := encCli ({ c with seq := c.seq + 1, ask := { a with waves := w30, client := c.id }, on := true, st := 0 } : Cl)) rfl rfl rfl sz_3 (by simp [Value.oneCell']) (by simp [encCli, encAsk, encW, encRep]) rfl (by repeat (first | exact Pick.here | apply Pick.there))) ?_)
          rintro _ _ ⟨rfl, rfl⟩
          refine r_cont (Hp.le_refl _) (by repeat (first | exact Ent.nil _ | exact Ent.refl _ | (refine Ent.pick (by repeat (first | exact Pick.here | apply Pick.there)) ?_) | refine Ent.skip ?_)) ?_
          refine r_take (i := 14) (bs' := #[true, true, true, true, true, true, true, true, true, true, true, true, true, true, true, false, false, false]) rfl (by kernel_rfl) (by kernel_rfl) (by kernel_rfl) (fun _ _ _ h => h) rfl wn (q_nilCheck rfl) (Hp.le_refl _) (by repeat (first | exact Ent.nil _ | exact Ent.refl _ | (refine Ent.pick (by repeat (first | exact Pick.here | apply Pick.there)) ?_) | refine Ent.skip ?_)) (by kernel_rfl) ?_
          refine r_take (i := 15) (bs' := #[true, true, true, true, true, true, true, true, true, true, true, true, true, true, true, true, false, false]) rfl (by kernel_rfl) (by kernel_rfl) (by kernel_rfl) (fun _ _ _ h => h) rfl wn (by first | exact q_fieldp rfl fo_122_5 | exact q_fielde rfl fo_122_5 | exact q_fieldr rfl fo_122_5) (Hp.le_refl _) (by repeat (first | exact Ent.nil _ | exact Ent.refl _ | (refine Ent.pick (by repeat (first | exact Pick.here | apply Pick.there)) ?_) | refine Ent.skip ?_)) (by kernel_rfl) ?_
          refine r_take (i := 16) (bs' := #[true, true, true, true, true, true, true, true, true, true, true, true, true, true, true, true, true, false]) rfl (by kernel_rfl) (by kernel_rfl) (by kernel_rfl) (fun _ _ _ h => h) rfl wn (by first | exact q_fieldp rfl fo_54_2 | exact q_fielde rfl fo_54_2 | exact q_fieldr rfl fo_54_2) (Hp.le_refl _) (by repeat (first | exact Ent.nil _ | exact Ent.refl _ | (refine Ent.pick (by repeat (first | exact Pick.here | apply Pick.there)) ?_) | refine Ent.skip ?_)) (by kernel_rfl) ?_
          refine r_one (i := 17) (bs' := #[true, true, true, true, true, true, true, true, true, true, true, true, true, true, true, true, true, true]) (by kernel_rfl) (by kernel_rfl) ?_
          refine o_step rfl (s_s0 wn (s_storep (ws := [_]) (cs := encCli ({ c with seq := c.seq + 1, ask := { a with waves := w30, client := c.id }, on := true, st := 0 } : Cl)) (cs' := encCli (begun c a w30)) rfl rfl rfl sz_3 (by simp [Value.oneCell']) (by simp [encCli, encAsk, encW, encRep]) rfl (by repeat (first | exact Pick.here | apply Pick.there))) ?_)
          rintro _ _ ⟨rfl, rfl⟩
          refine r_cont (Hp.le_refl _) (by repeat (first | exact Ent.nil _ | exact Ent.refl _ | (refine Ent.pick (by repeat (first | exact Pick.here | apply Pick.there)) ?_) | refine Ent.skip ?_)) ?_
          refine r_done (by kernel_rfl) ?_
          refine k_then_n ?_
          refine c_seq ?_
          refine c_region ?_
          refine l_step (s_q rfl wn (q_assign rfl) ?_)
          refine l_nil ?_
          refine k_then_n ?_
          refine c_ret ?_
          exact t_ret (CliM 3 122 b (begun c a w30)) rfl (.tmp rfl .nil) rfl (Hp.le_refl _) ⟨rfl, .inr (.inr ⟨h0, ⟨by omega, by omega⟩, w30, hw30, rfl, rfl⟩)⟩ (by simp only [CliM, List.cons_append, List.nil_append]; exact (by repeat (first | exact Ent.nil _ | exact Ent.refl _ | (refine Ent.pick (by repeat (first | exact Pick.here | apply Pick.there)) ?_) | refine Ent.skip ?_)))
        · skip
          refine o_step rfl (s_q rfl wn (by first | exact q_loadp sc_3 rfl (by repeat (first | exact Pick.here | apply Pick.there)) rfl | exact q_loade sc_3 rfl (by first | assumption | exact rd_ro (by assumption) | exact rd_row (by repeat (first | exact Pick.here | apply Pick.there))) (fun _ => rfl) (by first | assumption | omega) (by decide) rfl) ?_)
          refine r_cont (Hp.le_refl _) (by repeat (first | exact Ent.nil _ | exact Ent.refl _ | (refine Ent.pick (by repeat (first | exact Pick.here | apply Pick.there)) ?_) | refine Ent.skip ?_)) ?_
          refine r_one (i := 5) (bs' := #[true, true, true, true, true, true, true, true, true, true, false, false, false, false, false, false, false, false]) (by kernel_rfl) (by kernel_rfl) ?_
          refine o_step rfl (s_q rfl wn (by first | exact q_loadp sc_3 rfl (by repeat (first | exact Pick.here | apply Pick.there)) rfl | exact q_loade sc_3 rfl (by first | assumption | exact rd_ro (by assumption) | exact rd_row (by repeat (first | exact Pick.here | apply Pick.there))) (fun _ => rfl) (by first | assumption | omega) (by decide) rfl) ?_)
          refine r_cont (Hp.le_refl _) (by repeat (first | exact Ent.nil _ | exact Ent.refl _ | (refine Ent.pick (by repeat (first | exact Pick.here | apply Pick.there)) ?_) | refine Ent.skip ?_)) ?_
          refine r_take (i := 10) (bs' := #[true, true, true, true, true, true, true, true, true, true, true, false, false, false, false, false, false, false]) rfl (by kernel_rfl) (by kernel_rfl) (by kernel_rfl) (fun _ _ _ h => h) rfl wn (q_nilCheck rfl) (Hp.le_refl _) (by repeat (first | exact Ent.nil _ | exact Ent.refl _ | (refine Ent.pick (by repeat (first | exact Pick.here | apply Pick.there)) ?_) | refine Ent.skip ?_)) (by kernel_rfl) ?_
          refine r_take (i := 11) (bs' := #[true, true, true, true, true, true, true, true, true, true, true, true, false, false, false, false, false, false]) rfl (by kernel_rfl) (by kernel_rfl) (by kernel_rfl) (fun _ _ _ h => h) rfl wn (by first | exact q_fieldp rfl fo_122_5 | exact q_fielde rfl fo_122_5 | exact q_fieldr rfl fo_122_5) (Hp.le_refl _) (by repeat (first | exact Ent.nil _ | exact Ent.refl _ | (refine Ent.pick (by repeat (first | exact Pick.here | apply Pick.there)) ?_) | refine Ent.skip ?_)) (by kernel_rfl) ?_
          refine r_take (i := 12) (bs' := #[true, true, true, true, true, true, true, true, true, true, true, true, true, false, false, false, false, false]) rfl (by kernel_rfl) (by kernel_rfl) (by kernel_rfl) (fun _ _ _ h => h) rfl wn (by first | exact q_fieldp rfl fo_54_1 | exact q_fielde rfl fo_54_1 | exact q_fieldr rfl fo_54_1) (Hp.le_refl _) (by repeat (first | exact Ent.nil _ | exact Ent.refl _ | (refine Ent.pick (by repeat (first | exact Pick.here | apply Pick.there)) ?_) | refine Ent.skip ?_)) (by kernel_rfl) ?_
          refine r_one (i := 13) (bs' := #[true, true, true, true, true, true, true, true, true, true, true, true, true, true, false, false, false, false]) (by kernel_rfl) (by kernel_rfl) ?_
          refine o_step rfl (s_s0 wn (s_storep (ws := [_]) (cs := encCli ({ c with seq := c.seq + 1, ask := { a with waves := w30 }, on := true, st := 0 } : Cl)) (cs' := encCli ({ c with seq := c.seq + 1, ask := { a with waves := w30, client := c.id }, on := true, st := 0 } : Cl)) rfl rfl rfl sz_3 (by simp [Value.oneCell']) (by simp [encCli, encAsk, encW, encRep]) rfl (by repeat (first | exact Pick.here | apply Pick.there))) ?_)
          rintro _ _ ⟨rfl, rfl⟩
          refine r_cont (Hp.le_refl _) (by repeat (first | exact Ent.nil _ | exact Ent.refl _ | (refine Ent.pick (by repeat (first | exact Pick.here | apply Pick.there)) ?_) | refine Ent.skip ?_)) ?_
          refine r_take (i := 14) (bs' := #[true, true, true, true, true, true, true, true, true, true, true, true, true, true, true, false, false, false]) rfl (by kernel_rfl) (by kernel_rfl) (by kernel_rfl) (fun _ _ _ h => h) rfl wn (q_nilCheck rfl) (Hp.le_refl _) (by repeat (first | exact Ent.nil _ | exact Ent.refl _ | (refine Ent.pick (by repeat (first | exact Pick.here | apply Pick.there)) ?_) | refine Ent.skip ?_)) (by kernel_rfl) ?_
          refine r_take (i := 15) (bs' := #[true, true, true, true, true, true, true, true, true, true, true, true, true, true, true, true, false, false]) rfl (by kernel_rfl) (by kernel_rfl) (by kernel_rfl) (fun _ _ _ h => h) rfl wn (by first | exact q_fieldp rfl fo_122_5 | exact q_fielde rfl fo_122_5 | exact q_fieldr rfl fo_122_5) (Hp.le_refl _) (by repeat (first | exact Ent.nil _ | exact Ent.refl _ | (refine Ent.pick (by repeat (first | exact Pick.here | apply Pick.there)) ?_) | refine Ent.skip ?_)) (by kernel_rfl) ?_
          refine r_take (i := 16) (bs' := #[true, true, true, true, true, true, true, true, true, true, true, true, true, true, true, true, true, false]) rfl (by kernel_rfl) (by kernel_rfl) (by kernel_rfl) (fun _ _ _ h => h) rfl wn (by first | exact q_fieldp rfl fo_54_2 | exact q_fielde rfl fo_54_2 | exact q_fieldr rfl fo_54_2) (Hp.le_refl _) (by repeat (first | exact Ent.nil _ | exact Ent.refl _ | (refine Ent.pick (by repeat (first | exact Pick.here | apply Pick.there)) ?_) | refine Ent.skip ?_)) (by kernel_rfl) ?_
          refine r_one (i := 17) (bs' := #[true, true, true, true, true, true, true, true, true, true, true, true, true, true, true, true, true, true]) (by kernel_rfl) (by kernel_rfl) ?_
          refine o_step rfl (s_s0 wn (s_storep (ws := [_]) (cs := encCli ({ c with seq := c.seq + 1, ask := { a with waves := w30, client := c.id }, on := true, st := 0 } : Cl)) (cs' := encCli (begun c a w30)) rfl rfl rfl sz_3 (by simp [Value.oneCell']) (by simp [encCli, encAsk, encW, encRep]) rfl (by repeat (first | exact Pick.here | apply Pick.there))) ?_)
          rintro _ _ ⟨rfl, rfl⟩
          refine r_cont (Hp.le_refl _) (by repeat (first | exact Ent.nil _ | exact Ent.refl _ | (refine Ent.pick (by repeat (first | exact Pick.here | apply Pick.there)) ?_) | refine Ent.skip ?_)) ?_
          refine r_done (by kernel_rfl) ?_
          refine k_then_n ?_
          refine c_seq ?_
          refine c_region ?_
          refine l_step (s_q rfl wn (q_assign rfl) ?_)
          refine l_nil ?_
          refine k_then_n ?_
          refine c_ret ?_
          exact t_ret (CliM 3 122 b (begun c a w30)) rfl (.tmp rfl .nil) rfl (Hp.le_refl _) ⟨rfl, .inr (.inr ⟨h0, ⟨by omega, by omega⟩, w30, hw30, rfl, rfl⟩)⟩ (by simp only [CliM, List.cons_append, List.nil_append]; exact (by repeat (first | exact Ent.nil _ | exact Ent.refl _ | (refine Ent.pick (by repeat (first | exact Pick.here | apply Pick.there)) ?_) | refine Ent.skip ?_)))

theorem hear_spec (b : Nat) (c : Cl) (r : RepV) (ok : CliOk c) (ρ : Hp) : Spec0 Try.prog 59 #[.pointer (some ⟨b, 0, none⟩), .agg (encRep r).toArray] ρ (CliM 3 122 b c) (fun v Γ' => v = .bool (hearF c r).2 ∧ Γ' = (CliM 3 122 b (hearF c r).1)) := by
  refine spec_of (n := 86) (vs := [_, _]) (σ := [(0, _), (1, _)]) Try.func59 rfl rfl rfl rfl fun E Δ => ?_
  simp only [CliM, List.cons_append, List.nil_append]
  obtain ⟨ok1, ok2, ok3⟩ := ok
  refine c_seq ?_
  refine c_region ?_
  refine l_step (s_s rfl wn (s_box rfl rfl) ?_)
  rintro _ _ ⟨b3, rfl, rfl⟩
  refine l_step (s_q rfl wn (q_assign rfl) ?_)
  refine l_nil ?_
  refine k_then_n ?_
  refine c_seq ?_
  refine c_seq ?_
  refine c_drawG (m := 23) (bs := #[false, false, false, false, false, false, false, false, false, false, false, false, false, false, false, false, false, false, false, false, false, false, false]) (by kernel_rfl) rfl (by kernel_rfl) ?_
  refine r_take (i := 0) (bs' := #[true, false, false, false, false, false, false, false, false, false, false, false, false, false, false, false, false, false, false, false, false, false, false]) rfl (by kernel_rfl) (by kernel_rfl) (by kernel_rfl) (fun _ _ _ h => h) rfl wn (q_move rfl) (Hp.le_refl _) (by repeat (first | exact Ent.nil _ | exact Ent.refl _ | (refine Ent.pick (by repeat (first | exact Pick.here | apply Pick.there)) ?_) | refine Ent.skip ?_)) (by kernel_rfl) ?_
  refine r_take (i := 1) (bs' := #[true, true, false, false, false, false, false, false, false, false, false, false, false, false, false, false, false, false, false, false, false, false, false]) rfl (by kernel_rfl) (by kernel_rfl) (by kernel_rfl) (fun _ _ _ h => h) rfl wn (q_nilCheck rfl) (Hp.le_refl _) (by repeat (first | exact Ent.nil _ | exact Ent.refl _ | (refine Ent.pick (by repeat (first | exact Pick.here | apply Pick.there)) ?_) | refine Ent.skip ?_)) (by kernel_rfl) ?_
  refine r_take (i := 2) (bs' := #[true, true, true, false, false, false, false, false, false, false, false, false, false, false, false, false, false, false, false, false, false, false, false]) rfl (by kernel_rfl) (by kernel_rfl) (by kernel_rfl) (fun _ _ _ h => h) rfl wn (by first | exact q_fieldp rfl fo_122_6 | exact q_fielde rfl fo_122_6 | exact q_fieldr rfl fo_122_6) (Hp.le_refl _) (by repeat (first | exact Ent.nil _ | exact Ent.refl _ | (refine Ent.pick (by repeat (first | exact Pick.here | apply Pick.there)) ?_) | refine Ent.skip ?_)) (by kernel_rfl) ?_
  refine r_take (i := 3) (bs' := #[true, true, true, true, false, false, false, false, false, false, false, false, false, false, false, false, false, false, false, false, false, false, false]) rfl (by kernel_rfl) (by kernel_rfl) (by kernel_rfl) (fun _ _ _ h => h) rfl wn (by first | exact q_loadp sc_4 rfl (by repeat (first | exact Pick.here | apply Pick.there)) rfl | exact q_loade sc_4 rfl (by first | assumption | exact rd_ro (by assumption) | exact rd_row (by repeat (first | exact Pick.here | apply Pick.there))) (fun _ => rfl) (by first | assumption | omega) (by decide) rfl) (Hp.le_refl _) (by repeat (first | exact Ent.nil _ | exact Ent.refl _ | (refine Ent.pick (by repeat (first | exact Pick.here | apply Pick.there)) ?_) | refine Ent.skip ?_)) (by kernel_rfl) ?_
  refine r_take (i := 4) (bs' := #[true, true, true, true, true, false, false, false, false, false, false, false, false, false, false, false, false, false, false, false, false, false, false]) rfl (by kernel_rfl) (by kernel_rfl) (by kernel_rfl) (fun _ _ _ h => h) rfl wn (q_not rfl) (Hp.le_refl _) (by repeat (first | exact Ent.nil _ | exact Ent.refl _ | (refine Ent.pick (by repeat (first | exact Pick.here | apply Pick.there)) ?_) | refine Ent.skip ?_)) (by kernel_rfl) ?_
  refine r_take (i := 5) (bs' := #[true, true, true, true, true, true, false, false, false, false, false, false, false, false, false, false, false, false, false, false, false, false, false]) rfl (by kernel_rfl) (by kernel_rfl) (by kernel_rfl) (fun _ _ _ h => h) rfl wn (q_move rfl) (Hp.le_refl _) (by repeat (first | exact Ent.nil _ | exact Ent.refl _ | (refine Ent.pick (by repeat (first | exact Pick.here | apply Pick.there)) ?_) | refine Ent.skip ?_)) (by kernel_rfl) ?_
  first | refine t_splitd (d := 11) rfl (fun g1_5 => ?_) (fun g1_5 => ?_) | refine t_split (d := 11) rfl (fun g1_5 => ?_) (fun g1_5 => ?_)
  · skip
    refine r_skip (i := 6) (bs' := #[true, true, true, true, true, true, true, false, false, false, false, false, false, false, false, false, false, false, false, false, false, false, false]) rfl (by kernel_rfl) (by kernel_rfl) (by kernel_rfl) (fun _ _ _ h => h) rfl (wno rfl rfl (by decide)) (Hp.le_refl _) (by repeat (first | exact Ent.nil _ | exact Ent.refl _ | (refine Ent.pick (by repeat (first | exact Pick.here | apply Pick.there)) ?_) | refine Ent.skip ?_)) (by kernel_rfl) ?_
    refine r_skip (i := 7) (bs' := #[true, true, true, true, true, true, true, true, false, false, false, false, false, false, false, false, false, false, false, false, false, false, false]) rfl (by kernel_rfl) (by kernel_rfl) (by kernel_rfl) (fun _ _ _ h => h) rfl (wno rfl rfl (by decide)) (Hp.le_refl _) (by repeat (first | exact Ent.nil _ | exact Ent.refl _ | (refine Ent.pick (by repeat (first | exact Pick.here | apply Pick.there)) ?_) | refine Ent.skip ?_)) (by kernel_rfl) ?_
    refine r_skip (i := 8) (bs' := #[true, true, true, true, true, true, true, true, true, false, false, false, false, false, false, false, false, false, false, false, false, false, false]) rfl (by kernel_rfl) (by kernel_rfl) (by kernel_rfl) (fun _ _ _ h => h) rfl (wno rfl rfl (by decide)) (Hp.le_refl _) (by repeat (first | exact Ent.nil _ | exact Ent.refl _ | (refine Ent.pick (by repeat (first | exact Pick.here | apply Pick.there)) ?_) | refine Ent.skip ?_)) (by kernel_rfl) ?_
    refine r_skip (i := 9) (bs' := #[true, true, true, true, true, true, true, true, true, true, false, false, false, false, false, false, false, false, false, false, false, false, false]) rfl (by kernel_rfl) (by kernel_rfl) (by kernel_rfl) (fun _ _ _ h => h) rfl (wno rfl rfl (by decide)) (Hp.le_refl _) (by repeat (first | exact Ent.nil _ | exact Ent.refl _ | (refine Ent.pick (by repeat (first | exact Pick.here | apply Pick.there)) ?_) | refine Ent.skip ?_)) (by kernel_rfl) ?_
    refine r_skip (i := 10) (bs' := #[true, true, true, true, true, true, true, true, true, true, true, false, false, false, false, false, false, false, false, false, false, false, false]) rfl (by kernel_rfl) (by kernel_rfl) (by kernel_rfl) (fun _ _ _ h => h) rfl (wno rfl rfl (by decide)) (Hp.le_refl _) (by repeat (first | exact Ent.nil _ | exact Ent.refl _ | (refine Ent.pick (by repeat (first | exact Pick.here | apply Pick.there)) ?_) | refine Ent.skip ?_)) (by kernel_rfl) ?_
    refine r_skip (i := 11) (bs' := #[true, true, true, true, true, true, true, true, true, true, true, true, false, false, false, false, false, false, false, false, false, false, false]) rfl (by kernel_rfl) (by kernel_rfl) (by kernel_rfl) (fun _ _ _ h => h) rfl (wno rfl rfl (by decide)) (Hp.le_refl _) (by repeat (first | exact Ent.nil _ | exact Ent.refl _ | (refine Ent.pick (by repeat (first | exact Pick.here | apply Pick.there)) ?_) | refine Ent.skip ?_)) (by kernel_rfl) ?_
    refine r_skip (i := 12) (bs' := #[true, true, true, true, true, true, true, true, true, true, true, true, true, false, false, false, false, false, false, false, false, false, false]) rfl (by kernel_rfl) (by kernel_rfl) (by kernel_rfl) (fun _ _ _ h => h) rfl (wno rfl rfl (by decide)) (Hp.le_refl _) (by repeat (first | exact Ent.nil _ | exact Ent.refl _ | (refine Ent.pick (by repeat (first | exact Pick.here | apply Pick.there)) ?_) | refine Ent.skip ?_)) (by kernel_rfl) ?_
    refine r_take (i := 13) (bs' := #[true, true, true, true, true, true, true, true, true, true, true, true, true, true, false, false, false, false, false, false, false, false, false]) rfl (by kernel_rfl) (by kernel_rfl) (by kernel_rfl) (fun _ _ _ h => h) rfl wn (q_pick rfl rfl rfl) (Hp.le_refl _) (by repeat (first | exact Ent.nil _ | exact Ent.refl _ | (refine Ent.pick (by repeat (first | exact Pick.here | apply Pick.there)) ?_) | refine Ent.skip ?_)) (by kernel_rfl) ?_
    refine r_take (i := 14) (bs' := #[true, true, true, true, true, true, true, true, true, true, true, true, true, true, true, false, false, false, false, false, false, false, false]) rfl (by kernel_rfl) (by kernel_rfl) (by kernel_rfl) (fun _ _ _ h => h) rfl wn (q_move rfl) (Hp.le_refl _) (by repeat (first | exact Ent.nil _ | exact Ent.refl _ | (refine Ent.pick (by repeat (first | exact Pick.here | apply Pick.there)) ?_) | refine Ent.skip ?_)) (by kernel_rfl) ?_
    skip
    refine r_skip (i := 15) (bs' := #[true, true, true, true, true, true, true, true, true, true, true, true, true, true, true, true, false, false, false, false, false, false, false]) rfl (by kernel_rfl) (by kernel_rfl) (by kernel_rfl) (fun _ _ _ h => h) rfl (wno rfl rfl (by decide)) (Hp.le_refl _) (by repeat (first | exact Ent.nil _ | exact Ent.refl _ | (refine Ent.pick (by repeat (first | exact Pick.here | apply Pick.there)) ?_) | refine Ent.skip ?_)) (by kernel_rfl) ?_
    refine r_skip (i := 16) (bs' := #[true, true, true, true, true, true, true, true, true, true, true, true, true, true, true, true, true, false, false, false, false, false, false]) rfl (by kernel_rfl) (by kernel_rfl) (by kernel_rfl) (fun _ _ _ h => h) rfl (wno rfl rfl (by decide)) (Hp.le_refl _) (by repeat (first | exact Ent.nil _ | exact Ent.refl _ | (refine Ent.pick (by repeat (first | exact Pick.here | apply Pick.there)) ?_) | refine Ent.skip ?_)) (by kernel_rfl) ?_
    refine r_skip (i := 17) (bs' := #[true, true, true, true, true, true, true, true, true, true, true, true, true, true, true, true, true, true, false, false, false, false, false]) rfl (by kernel_rfl) (by kernel_rfl) (by kernel_rfl) (fun _ _ _ h => h) rfl (wno rfl rfl (by decide)) (Hp.le_refl _) (by repeat (first | exact Ent.nil _ | exact Ent.refl _ | (refine Ent.pick (by repeat (first | exact Pick.here | apply Pick.there)) ?_) | refine Ent.skip ?_)) (by kernel_rfl) ?_
    refine r_skip (i := 18) (bs' := #[true, true, true, true, true, true, true, true, true, true, true, true, true, true, true, true, true, true, true, false, false, false, false]) rfl (by kernel_rfl) (by kernel_rfl) (by kernel_rfl) (fun _ _ _ h => h) rfl (wno rfl rfl (by decide)) (Hp.le_refl _) (by repeat (first | exact Ent.nil _ | exact Ent.refl _ | (refine Ent.pick (by repeat (first | exact Pick.here | apply Pick.there)) ?_) | refine Ent.skip ?_)) (by kernel_rfl) ?_
    refine r_skip (i := 19) (bs' := #[true, true, true, true, true, true, true, true, true, true, true, true, true, true, true, true, true, true, true, true, false, false, false]) rfl (by kernel_rfl) (by kernel_rfl) (by kernel_rfl) (fun _ _ _ h => h) rfl (wno rfl rfl (by decide)) (Hp.le_refl _) (by repeat (first | exact Ent.nil _ | exact Ent.refl _ | (refine Ent.pick (by repeat (first | exact Pick.here | apply Pick.there)) ?_) | refine Ent.skip ?_)) (by kernel_rfl) ?_
    refine r_skip (i := 20) (bs' := #[true, true, true, true, true, true, true, true, true, true, true, true, true, true, true, true, true, true, true, true, true, false, false]) rfl (by kernel_rfl) (by kernel_rfl) (by kernel_rfl) (fun _ _ _ h => h) rfl (wno rfl rfl (by decide)) (Hp.le_refl _) (by repeat (first | exact Ent.nil _ | exact Ent.refl _ | (refine Ent.pick (by repeat (first | exact Pick.here | apply Pick.there)) ?_) | refine Ent.skip ?_)) (by kernel_rfl) ?_
    refine r_skip (i := 21) (bs' := #[true, true, true, true, true, true, true, true, true, true, true, true, true, true, true, true, true, true, true, true, true, true, false]) rfl (by kernel_rfl) (by kernel_rfl) (by kernel_rfl) (fun _ _ _ h => h) rfl (wno rfl rfl (by decide)) (Hp.le_refl _) (by repeat (first | exact Ent.nil _ | exact Ent.refl _ | (refine Ent.pick (by repeat (first | exact Pick.here | apply Pick.there)) ?_) | refine Ent.skip ?_)) (by kernel_rfl) ?_
    refine r_take (i := 22) (bs' := #[true, true, true, true, true, true, true, true, true, true, true, true, true, true, true, true, true, true, true, true, true, true, true]) rfl (by kernel_rfl) (by kernel_rfl) (by kernel_rfl) (fun _ _ _ h => h) rfl wn (q_pick rfl rfl rfl) (Hp.le_refl _) (by repeat (first | exact Ent.nil _ | exact Ent.refl _ | (refine Ent.pick (by repeat (first | exact Pick.here | apply Pick.there)) ?_) | refine Ent.skip ?_)) (by kernel_rfl) ?_
    refine r_done (by kernel_rfl) ?_
    refine k_then_n ?_
    refine c_yes rfl ?_
    refine c_seq ?_
    refine c_region ?_
    refine l_step (s_q rfl wn (q_assign rfl) ?_)
    refine l_nil ?_
    refine k_then_n ?_
    refine c_ret ?_
    refine k_then_r ?_
    exact t_ret (CliM 3 122 b c) rfl (.tmp rfl .nil) rfl (Hp.le_refl _) ⟨rfl, (by rw [hear_no (by rintro ⟨q1, q2, q3⟩; rw [q1] at g1_5; cases g1_5)]; rfl), (by rw [hear_no (by rintro ⟨q1, q2, q3⟩; rw [q1] at g1_5; cases g1_5)]; rfl)⟩ (by simp only [CliM, List.cons_append, List.nil_append]; exact (by repeat (first | exact Ent.nil _ | exact Ent.refl _ | (refine Ent.pick (by repeat (first | exact Pick.here | apply Pick.there)) ?_) | refine Ent.skip ?_)))
  · skip
    refine r_take (i := 6) (bs' := #[true, true, true, true, true, true, true, false, false, false, false, false, false, false, false, false, false, false, false, false, false, false, false]) rfl (by kernel_rfl) (by kernel_rfl) (by kernel_rfl) (fun _ _ _ h => h) rfl (wy rfl rfl rfl) (by first | exact q_fieldp rfl fo_64_0 | exact q_fielde rfl fo_64_0 | exact q_fieldr rfl fo_64_0) (Hp.le_refl _) (by repeat (first | exact Ent.nil _ | exact Ent.refl _ | (refine Ent.pick (by repeat (first | exact Pick.here | apply Pick.there)) ?_) | refine Ent.skip ?_)) (by kernel_rfl) ?_
    refine r_take (i := 7) (bs' := #[true, true, true, true, true, true, true, true, false, false, false, false, false, false, false, false, false, false, false, false, false, false, false]) rfl (by kernel_rfl) (by kernel_rfl) (by kernel_rfl) (fun _ _ _ h => h) rfl (wy rfl rfl rfl) (by first | exact q_loadp sc_3 rfl (by repeat (first | exact Pick.here | apply Pick.there)) rfl | exact q_loade sc_3 rfl (by first | assumption | exact rd_ro (by assumption) | exact rd_row (by repeat (first | exact Pick.here | apply Pick.there))) (fun _ => rfl) (by first | assumption | omega) (by decide) rfl) (Hp.le_refl _) (by repeat (first | exact Ent.nil _ | exact Ent.refl _ | (refine Ent.pick (by repeat (first | exact Pick.here | apply Pick.there)) ?_) | refine Ent.skip ?_)) (by kernel_rfl) ?_
    refine r_take (i := 8) (bs' := #[true, true, true, true, true, true, true, true, true, false, false, false, false, false, false, false, false, false, false, false, false, false, false]) rfl (by kernel_rfl) (by kernel_rfl) (by kernel_rfl) (fun _ _ _ h => h) rfl (wy rfl rfl rfl) (q_move rfl) (Hp.le_refl _) (by repeat (first | exact Ent.nil _ | exact Ent.refl _ | (refine Ent.pick (by repeat (first | exact Pick.here | apply Pick.there)) ?_) | refine Ent.skip ?_)) (by kernel_rfl) ?_
    refine r_take (i := 9) (bs' := #[true, true, true, true, true, true, true, true, true, true, false, false, false, false, false, false, false, false, false, false, false, false, false]) rfl (by kernel_rfl) (by kernel_rfl) (by kernel_rfl) (fun _ _ _ h => h) rfl (wy rfl rfl rfl) (q_nilCheck rfl) (Hp.le_refl _) (by repeat (first | exact Ent.nil _ | exact Ent.refl _ | (refine Ent.pick (by repeat (first | exact Pick.here | apply Pick.there)) ?_) | refine Ent.skip ?_)) (by kernel_rfl) ?_
    refine r_take (i := 10) (bs' := #[true, true, true, true, true, true, true, true, true, true, true, false, false, false, false, false, false, false, false, false, false, false, false]) rfl (by kernel_rfl) (by kernel_rfl) (by kernel_rfl) (fun _ _ _ h => h) rfl (wy rfl rfl rfl) (by first | exact q_fieldp rfl fo_122_0 | exact q_fielde rfl fo_122_0 | exact q_fieldr rfl fo_122_0) (Hp.le_refl _) (by repeat (first | exact Ent.nil _ | exact Ent.refl _ | (refine Ent.pick (by repeat (first | exact Pick.here | apply Pick.there)) ?_) | refine Ent.skip ?_)) (by kernel_rfl) ?_
    refine r_take (i := 11) (bs' := #[true, true, true, true, true, true, true, true, true, true, true, true, false, false, false, false, false, false, false, false, false, false, false]) rfl (by kernel_rfl) (by kernel_rfl) (by kernel_rfl) (fun _ _ _ h => h) rfl (wy rfl rfl rfl) (by first | exact q_loadp sc_3 rfl (by repeat (first | exact Pick.here | apply Pick.there)) rfl | exact q_loade sc_3 rfl (by first | assumption | exact rd_ro (by assumption) | exact rd_row (by repeat (first | exact Pick.here | apply Pick.there))) (fun _ => rfl) (by first | assumption | omega) (by decide) rfl) (Hp.le_refl _) (by repeat (first | exact Ent.nil _ | exact Ent.refl _ | (refine Ent.pick (by repeat (first | exact Pick.here | apply Pick.there)) ?_) | refine Ent.skip ?_)) (by kernel_rfl) ?_
    refine r_take (i := 12) (bs' := #[true, true, true, true, true, true, true, true, true, true, true, true, true, false, false, false, false, false, false, false, false, false, false]) rfl (by kernel_rfl) (by kernel_rfl) (by kernel_rfl) (fun _ _ _ h => h) rfl (wy rfl rfl rfl) (q_neq rfl rfl) (Hp.le_refl _) (by repeat (first | exact Ent.nil _ | exact Ent.refl _ | (refine Ent.pick (by repeat (first | exact Pick.here | apply Pick.there)) ?_) | refine Ent.skip ?_)) (by kernel_rfl) ?_
    refine r_take (i := 13) (bs' := #[true, true, true, true, true, true, true, true, true, true, true, true, true, true, false, false, false, false, false, false, false, false, false]) rfl (by kernel_rfl) (by kernel_rfl) (by kernel_rfl) (fun _ _ _ h => h) rfl wn (q_pick rfl rfl rfl) (Hp.le_refl _) (by repeat (first | exact Ent.nil _ | exact Ent.refl _ | (refine Ent.pick (by repeat (first | exact Pick.here | apply Pick.there)) ?_) | refine Ent.skip ?_)) (by kernel_rfl) ?_
    refine r_take (i := 14) (bs' := #[true, true, true, true, true, true, true, true, true, true, true, true, true, true, true, false, false, false, false, false, false, false, false]) rfl (by kernel_rfl) (by kernel_rfl) (by kernel_rfl) (fun _ _ _ h => h) rfl wn (q_move rfl) (Hp.le_refl _) (by repeat (first | exact Ent.nil _ | exact Ent.refl _ | (refine Ent.pick (by repeat (first | exact Pick.here | apply Pick.there)) ?_) | refine Ent.skip ?_)) (by kernel_rfl) ?_
    first | refine t_splitd (d := 20) rfl (fun g1_14 => ?_) (fun g1_14 => ?_) | refine t_split (d := 20) rfl (fun g1_14 => ?_) (fun g1_14 => ?_)
    · skip
      refine r_skip (i := 15) (bs' := #[true, true, true, true, true, true, true, true, true, true, true, true, true, true, true, true, false, false, false, false, false, false, false]) rfl (by kernel_rfl) (by kernel_rfl) (by kernel_rfl) (fun _ _ _ h => h) rfl (wno rfl rfl (by decide)) (Hp.le_refl _) (by repeat (first | exact Ent.nil _ | exact Ent.refl _ | (refine Ent.pick (by repeat (first | exact Pick.here | apply Pick.there)) ?_) | refine Ent.skip ?_)) (by kernel_rfl) ?_
      refine r_skip (i := 16) (bs' := #[true, true, true, true, true, true, true, true, true, true, true, true, true, true, true, true, true, false, false, false, false, false, false]) rfl (by kernel_rfl) (by kernel_rfl) (by kernel_rfl) (fun _ _ _ h => h) rfl (wno rfl rfl (by decide)) (Hp.le_refl _) (by repeat (first | exact Ent.nil _ | exact Ent.refl _ | (refine Ent.pick (by repeat (first | exact Pick.here | apply Pick.there)) ?_) | refine Ent.skip ?_)) (by kernel_rfl) ?_
      refine r_skip (i := 17) (bs' := #[true, true, true, true, true, true, true, true, true, true, true, true, true, true, true, true, true, true, false, false, false, false, false]) rfl (by kernel_rfl) (by kernel_rfl) (by kernel_rfl) (fun _ _ _ h => h) rfl (wno rfl rfl (by decide)) (Hp.le_refl _) (by repeat (first | exact Ent.nil _ | exact Ent.refl _ | (refine Ent.pick (by repeat (first | exact Pick.here | apply Pick.there)) ?_) | refine Ent.skip ?_)) (by kernel_rfl) ?_
      refine r_skip (i := 18) (bs' := #[true, true, true, true, true, true, true, true, true, true, true, true, true, true, true, true, true, true, true, false, false, false, false]) rfl (by kernel_rfl) (by kernel_rfl) (by kernel_rfl) (fun _ _ _ h => h) rfl (wno rfl rfl (by decide)) (Hp.le_refl _) (by repeat (first | exact Ent.nil _ | exact Ent.refl _ | (refine Ent.pick (by repeat (first | exact Pick.here | apply Pick.there)) ?_) | refine Ent.skip ?_)) (by kernel_rfl) ?_
      refine r_skip (i := 19) (bs' := #[true, true, true, true, true, true, true, true, true, true, true, true, true, true, true, true, true, true, true, true, false, false, false]) rfl (by kernel_rfl) (by kernel_rfl) (by kernel_rfl) (fun _ _ _ h => h) rfl (wno rfl rfl (by decide)) (Hp.le_refl _) (by repeat (first | exact Ent.nil _ | exact Ent.refl _ | (refine Ent.pick (by repeat (first | exact Pick.here | apply Pick.there)) ?_) | refine Ent.skip ?_)) (by kernel_rfl) ?_
      refine r_skip (i := 20) (bs' := #[true, true, true, true, true, true, true, true, true, true, true, true, true, true, true, true, true, true, true, true, true, false, false]) rfl (by kernel_rfl) (by kernel_rfl) (by kernel_rfl) (fun _ _ _ h => h) rfl (wno rfl rfl (by decide)) (Hp.le_refl _) (by repeat (first | exact Ent.nil _ | exact Ent.refl _ | (refine Ent.pick (by repeat (first | exact Pick.here | apply Pick.there)) ?_) | refine Ent.skip ?_)) (by kernel_rfl) ?_
      refine r_skip (i := 21) (bs' := #[true, true, true, true, true, true, true, true, true, true, true, true, true, true, true, true, true, true, true, true, true, true, false]) rfl (by kernel_rfl) (by kernel_rfl) (by kernel_rfl) (fun _ _ _ h => h) rfl (wno rfl rfl (by decide)) (Hp.le_refl _) (by repeat (first | exact Ent.nil _ | exact Ent.refl _ | (refine Ent.pick (by repeat (first | exact Pick.here | apply Pick.there)) ?_) | refine Ent.skip ?_)) (by kernel_rfl) ?_
      refine r_take (i := 22) (bs' := #[true, true, true, true, true, true, true, true, true, true, true, true, true, true, true, true, true, true, true, true, true, true, true]) rfl (by kernel_rfl) (by kernel_rfl) (by kernel_rfl) (fun _ _ _ h => h) rfl wn (q_pick rfl rfl rfl) (Hp.le_refl _) (by repeat (first | exact Ent.nil _ | exact Ent.refl _ | (refine Ent.pick (by repeat (first | exact Pick.here | apply Pick.there)) ?_) | refine Ent.skip ?_)) (by kernel_rfl) ?_
      refine r_done (by kernel_rfl) ?_
      refine k_then_n ?_
      refine c_yes rfl ?_
      refine c_seq ?_
      refine c_region ?_
      refine l_step (s_q rfl wn (q_assign rfl) ?_)
      refine l_nil ?_
      refine k_then_n ?_
      refine c_ret ?_
      refine k_then_r ?_
      exact t_ret (CliM 3 122 b c) rfl (.tmp rfl .nil) rfl (Hp.le_refl _) ⟨rfl, (by rw [hear_no (by rintro ⟨q1, q2, q3⟩; exact g1_14 q2)]; rfl), (by rw [hear_no (by rintro ⟨q1, q2, q3⟩; exact g1_14 q2)]; rfl)⟩ (by simp only [CliM, List.cons_append, List.nil_append]; exact (by repeat (first | exact Ent.nil _ | exact Ent.refl _ | (refine Ent.pick (by repeat (first | exact Pick.here | apply Pick.there)) ?_) | refine Ent.skip ?_)))
    · skip
      refine r_take (i := 15) (bs' := #[true, true, true, true, true, true, true, true, true, true, true, true, true, true, true, true, false, false, false, false, false, false, false]) rfl (by kernel_rfl) (by kernel_rfl) (by kernel_rfl) (fun _ _ _ h => h) rfl (wy rfl rfl rfl) (by first | exact q_fieldp rfl fo_64_1 | exact q_fielde rfl fo_64_1 | exact q_fieldr rfl fo_64_1) (Hp.le_refl _) (by repeat (first | exact Ent.nil _ | exact Ent.refl _ | (refine Ent.pick (by repeat (first | exact Pick.here | apply Pick.there)) ?_) | refine Ent.skip ?_)) (by kernel_rfl) ?_
      refine r_take (i := 16) (bs' := #[true, true, true, true, true, true, true, true, true, true, true, true, true, true, true, true, true, false, false, false, false, false, false]) rfl (by kernel_rfl) (by kernel_rfl) (by kernel_rfl) (fun _ _ _ h => h) rfl (wy rfl rfl rfl) (by first | exact q_loadp sc_3 rfl (by repeat (first | exact Pick.here | apply Pick.there)) rfl | exact q_loade sc_3 rfl (by first | assumption | exact rd_ro (by assumption) | exact rd_row (by repeat (first | exact Pick.here | apply Pick.there))) (fun _ => rfl) (by first | assumption | omega) (by decide) rfl) (Hp.le_refl _) (by repeat (first | exact Ent.nil _ | exact Ent.refl _ | (refine Ent.pick (by repeat (first | exact Pick.here | apply Pick.there)) ?_) | refine Ent.skip ?_)) (by kernel_rfl) ?_
      refine r_take (i := 17) (bs' := #[true, true, true, true, true, true, true, true, true, true, true, true, true, true, true, true, true, true, false, false, false, false, false]) rfl (by kernel_rfl) (by kernel_rfl) (by kernel_rfl) (fun _ _ _ h => h) rfl (wy rfl rfl rfl) (q_move rfl) (Hp.le_refl _) (by repeat (first | exact Ent.nil _ | exact Ent.refl _ | (refine Ent.pick (by repeat (first | exact Pick.here | apply Pick.there)) ?_) | refine Ent.skip ?_)) (by kernel_rfl) ?_
      refine r_take (i := 18) (bs' := #[true, true, true, true, true, true, true, true, true, true, true, true, true, true, true, true, true, true, true, false, false, false, false]) rfl (by kernel_rfl) (by kernel_rfl) (by kernel_rfl) (fun _ _ _ h => h) rfl (wy rfl rfl rfl) (q_nilCheck rfl) (Hp.le_refl _) (by repeat (first | exact Ent.nil _ | exact Ent.refl _ | (refine Ent.pick (by repeat (first | exact Pick.here | apply Pick.there)) ?_) | refine Ent.skip ?_)) (by kernel_rfl) ?_
      refine r_take (i := 19) (bs' := #[true, true, true, true, true, true, true, true, true, true, true, true, true, true, true, true, true, true, true, true, false, false, false]) rfl (by kernel_rfl) (by kernel_rfl) (by kernel_rfl) (fun _ _ _ h => h) rfl (wy rfl rfl rfl) (by first | exact q_fieldp rfl fo_122_4 | exact q_fielde rfl fo_122_4 | exact q_fieldr rfl fo_122_4) (Hp.le_refl _) (by repeat (first | exact Ent.nil _ | exact Ent.refl _ | (refine Ent.pick (by repeat (first | exact Pick.here | apply Pick.there)) ?_) | refine Ent.skip ?_)) (by kernel_rfl) ?_
      refine r_take (i := 20) (bs' := #[true, true, true, true, true, true, true, true, true, true, true, true, true, true, true, true, true, true, true, true, true, false, false]) rfl (by kernel_rfl) (by kernel_rfl) (by kernel_rfl) (fun _ _ _ h => h) rfl (wy rfl rfl rfl) (by first | exact q_loadp sc_3 rfl (by repeat (first | exact Pick.here | apply Pick.there)) rfl | exact q_loade sc_3 rfl (by first | assumption | exact rd_ro (by assumption) | exact rd_row (by repeat (first | exact Pick.here | apply Pick.there))) (fun _ => rfl) (by first | assumption | omega) (by decide) rfl) (Hp.le_refl _) (by repeat (first | exact Ent.nil _ | exact Ent.refl _ | (refine Ent.pick (by repeat (first | exact Pick.here | apply Pick.there)) ?_) | refine Ent.skip ?_)) (by kernel_rfl) ?_
      refine r_take (i := 21) (bs' := #[true, true, true, true, true, true, true, true, true, true, true, true, true, true, true, true, true, true, true, true, true, true, false]) rfl (by kernel_rfl) (by kernel_rfl) (by kernel_rfl) (fun _ _ _ h => h) rfl (wy rfl rfl rfl) (q_neq rfl rfl) (Hp.le_refl _) (by repeat (first | exact Ent.nil _ | exact Ent.refl _ | (refine Ent.pick (by repeat (first | exact Pick.here | apply Pick.there)) ?_) | refine Ent.skip ?_)) (by kernel_rfl) ?_
      refine r_take (i := 22) (bs' := #[true, true, true, true, true, true, true, true, true, true, true, true, true, true, true, true, true, true, true, true, true, true, true]) rfl (by kernel_rfl) (by kernel_rfl) (by kernel_rfl) (fun _ _ _ h => h) rfl wn (q_pick rfl rfl rfl) (Hp.le_refl _) (by repeat (first | exact Ent.nil _ | exact Ent.refl _ | (refine Ent.pick (by repeat (first | exact Pick.here | apply Pick.there)) ?_) | refine Ent.skip ?_)) (by kernel_rfl) ?_
      refine r_done (by kernel_rfl) ?_
      refine k_then_n ?_
      first | refine c_if rfl (fun h0 => ?_) (fun h0 => ?_) | refine c_cond rfl (fun h0 => ?_) (fun h0 => ?_)
      · skip
        refine c_seq ?_
        refine c_region ?_
        refine l_step (s_q rfl wn (q_assign rfl) ?_)
        refine l_nil ?_
        refine k_then_n ?_
        refine c_ret ?_
        refine k_then_r ?_
        exact t_ret (CliM 3 122 b c) rfl (.tmp rfl .nil) rfl (Hp.le_refl _) ⟨rfl, (by rw [hear_no (by rintro ⟨q1, q2, q3⟩; exact h0 q3)]; rfl), (by rw [hear_no (by rintro ⟨q1, q2, q3⟩; exact h0 q3)]; rfl)⟩ (by simp only [CliM, List.cons_append, List.nil_append]; exact (by repeat (first | exact Ent.nil _ | exact Ent.refl _ | (refine Ent.pick (by repeat (first | exact Pick.here | apply Pick.there)) ?_) | refine Ent.skip ?_)))
      · skip
        refine c_skip ?_
        refine k_then_n ?_
        refine c_seq ?_
        refine c_seq ?_
        refine c_region ?_
        refine l_step (s_q rfl wn (by first | exact q_fieldp rfl fo_64_2 | exact q_fielde rfl fo_64_2 | exact q_fieldr rfl fo_64_2) ?_)
        refine l_step (s_q rfl wn (by first | exact q_loadp sc_33 rfl (by repeat (first | exact Pick.here | apply Pick.there)) rfl | exact q_loade sc_33 rfl (by first | assumption | exact rd_ro (by assumption) | exact rd_row (by repeat (first | exact Pick.here | apply Pick.there))) (fun _ => rfl) (by first | assumption | omega) (by decide) rfl) ?_)
        refine l_step (s_q rfl wn (q_eql rfl rfl) ?_)
        refine l_step (s_q rfl wn (q_move rfl) ?_)
        first | refine t_splitd (d := 32) rfl (fun g3_3 => ?_) (fun g3_3 => ?_) | refine t_split (d := 32) rfl (fun g3_3 => ?_) (fun g3_3 => ?_)
        · skip
          refine l_step (s_no rfl (wno rfl rfl (by decide)) ?_)
          refine l_step (s_no rfl (wno rfl rfl (by decide)) ?_)
          refine l_step (s_no rfl (wno rfl rfl (by decide)) ?_)
          refine l_step (s_q rfl wn (q_pick rfl rfl rfl) ?_)
          refine l_step (s_q rfl wn (q_move rfl) ?_)
          skip
          refine l_step (s_no rfl (wno rfl rfl (by decide)) ?_)
          refine l_step (s_no rfl (wno rfl rfl (by decide)) ?_)
          refine l_step (s_no rfl (wno rfl rfl (by decide)) ?_)
          refine l_step (s_no rfl (wno rfl rfl (by decide)) ?_)
          refine l_step (s_no rfl (wun rfl rfl) ?_)
          refine l_step (s_no rfl (wun rfl rfl) ?_)
          refine l_step (s_no rfl (wun rfl rfl) ?_)
          refine l_step (s_no rfl (wun rfl rfl) ?_)
          refine l_step (s_no rfl (wun rfl rfl) ?_)
          refine l_step (s_no rfl (wun rfl rfl) ?_)
          refine l_step (s_no rfl (wno rfl rfl (by decide)) ?_)
          refine l_step (s_q rfl wn (q_pick rfl rfl rfl) ?_)
          refine l_nil ?_
          refine k_then_n ?_
          refine c_yes rfl ?_
          refine c_seq ?_
          refine c_seq ?_
          refine c_drawG (m := 8) (bs := #[false, false, false, false, false, false, false, false]) (by kernel_rfl) rfl (by kernel_rfl) ?_
          refine r_take (i := 0) (bs' := #[true, false, false, false, false, false, false, false]) rfl (by kernel_rfl) (by kernel_rfl) (by kernel_rfl) (fun _ _ _ h => h) rfl wn (q_move rfl) (Hp.le_refl _) (by repeat (first | exact Ent.nil _ | exact Ent.refl _ | (refine Ent.pick (by repeat (first | exact Pick.here | apply Pick.there)) ?_) | refine Ent.skip ?_)) (by kernel_rfl) ?_
          refine r_take (i := 1) (bs' := #[true, true, false, false, false, false, false, false]) rfl (by kernel_rfl) (by kernel_rfl) (by kernel_rfl) (fun _ _ _ h => h) rfl wn (q_nilCheck rfl) (Hp.le_refl _) (by repeat (first | exact Ent.nil _ | exact Ent.refl _ | (refine Ent.pick (by repeat (first | exact Pick.here | apply Pick.there)) ?_) | refine Ent.skip ?_)) (by kernel_rfl) ?_
          refine r_take (i := 2) (bs' := #[true, true, true, false, false, false, false, false]) rfl (by kernel_rfl) (by kernel_rfl) (by kernel_rfl) (fun _ _ _ h => h) rfl wn (by first | exact q_fieldp rfl fo_122_2 | exact q_fielde rfl fo_122_2 | exact q_fieldr rfl fo_122_2) (Hp.le_refl _) (by repeat (first | exact Ent.nil _ | exact Ent.refl _ | (refine Ent.pick (by repeat (first | exact Pick.here | apply Pick.there)) ?_) | refine Ent.skip ?_)) (by kernel_rfl) ?_
          refine r_take (i := 3) (bs' := #[true, true, true, true, false, false, false, false]) rfl (by kernel_rfl) (by kernel_rfl) (by kernel_rfl) (fun _ _ _ h => h) rfl wn (by first | exact q_loadp sc_40 rfl (by repeat (first | exact Pick.here | apply Pick.there)) rfl | exact q_loade sc_40 rfl (by first | assumption | exact rd_ro (by assumption) | exact rd_row (by repeat (first | exact Pick.here | apply Pick.there))) (fun _ => rfl) (by first | assumption | omega) (by decide) rfl) (Hp.le_refl _) (by repeat (first | exact Ent.nil _ | exact Ent.refl _ | (refine Ent.pick (by repeat (first | exact Pick.here | apply Pick.there)) ?_) | refine Ent.skip ?_)) (by kernel_rfl) ?_
          refine r_take (i := 4) (bs' := #[true, true, true, true, true, false, false, false]) rfl (by kernel_rfl) (by kernel_rfl) (by kernel_rfl) (fun _ _ _ h => h) rfl wn (by first | exact q_fieldp rfl fo_64_3 | exact q_fielde rfl fo_64_3 | exact q_fieldr rfl fo_64_3) (Hp.le_refl _) (by repeat (first | exact Ent.nil _ | exact Ent.refl _ | (refine Ent.pick (by repeat (first | exact Pick.here | apply Pick.there)) ?_) | refine Ent.skip ?_)) (by kernel_rfl) ?_
          refine r_take (i := 5) (bs' := #[true, true, true, true, true, true, false, false]) rfl (by kernel_rfl) (by kernel_rfl) (by kernel_rfl) (fun _ _ _ h => h) rfl wn (by first | exact q_loadp sc_3 rfl (by repeat (first | exact Pick.here | apply Pick.there)) rfl | exact q_loade sc_3 rfl (by first | assumption | exact rd_ro (by assumption) | exact rd_row (by repeat (first | exact Pick.here | apply Pick.there))) (fun _ => rfl) (by first | assumption | omega) (by decide) rfl) (Hp.le_refl _) (by repeat (first | exact Ent.nil _ | exact Ent.refl _ | (refine Ent.pick (by repeat (first | exact Pick.here | apply Pick.there)) ?_) | refine Ent.skip ?_)) (by kernel_rfl) ?_
          refine r_one (i := 6) (bs' := #[true, true, true, true, true, true, true, false]) (by kernel_rfl) (by kernel_rfl) ?_
          refine o_step rfl (s_fn rfl wn Try.func71 rfl (by kernel_rfl) rfl (idx_spec _ _ _ c.row.xs rfl ok2 _ ρ _ (by exact rd_row (by repeat (first | exact Pick.here | apply Pick.there)))) (sel_all _) ?_)
          rintro _ _ _ - ⟨rfl, rfl, rfl⟩
          refine Tr.ent (Ent.cast (List.append_nil _)) ?_
          refine r_cont (Hp.le_refl _) (by repeat (first | exact Ent.nil _ | exact Ent.refl _ | (refine Ent.pick (by repeat (first | exact Pick.here | apply Pick.there)) ?_) | refine Ent.skip ?_)) ?_
          refine r_take (i := 7) (bs' := #[true, true, true, true, true, true, true, true]) rfl (by kernel_rfl) (by kernel_rfl) (by kernel_rfl) (fun _ _ _ h => h) rfl wn (q_assign rfl) (Hp.le_refl _) (by repeat (first | exact Ent.nil _ | exact Ent.refl _ | (refine Ent.pick (by repeat (first | exact Pick.here | apply Pick.there)) ?_) | refine Ent.skip ?_)) (by kernel_rfl) ?_
          refine r_done (by kernel_rfl) ?_
          refine k_then_n ?_
          refine c_seq ?_
          refine c_region ?_
          refine l_step (s_q rfl wn (q_move rfl) ?_)
          refine l_step (s_q rfl wn (q_geq rfl rfl) ?_)
          refine l_step (s_q rfl wn (q_move rfl) ?_)
          first | refine t_splitd (d := 59) rfl (fun g5_2 => ?_) (fun g5_2 => ?_) | refine t_split (d := 59) rfl (fun g5_2 => ?_) (fun g5_2 => ?_)
          · skip
            refine l_step (s_q rfl (wy rfl rfl rfl) (q_move rfl) ?_)
            refine l_step (s_q rfl (wy rfl rfl rfl) (q_move rfl) ?_)
            refine l_step (s_q rfl (wy rfl rfl rfl) (q_nilCheck rfl) ?_)
            refine l_step (s_q rfl (wy rfl rfl rfl) (by first | exact q_fieldp rfl fo_122_3 | exact q_fielde rfl fo_122_3 | exact q_fieldr rfl fo_122_3) ?_)
            refine l_step (s_q rfl (wy rfl rfl rfl) (by first | exact q_loadp sc_3 rfl (by repeat (first | exact Pick.here | apply Pick.there)) rfl | exact q_loade sc_3 rfl (by first | assumption | exact rd_ro (by assumption) | exact rd_row (by repeat (first | exact Pick.here | apply Pick.there))) (fun _ => rfl) (by first | assumption | omega) (by decide) rfl) ?_)
            refine l_step (s_q rfl (wy rfl rfl rfl) (q_neq rfl rfl) ?_)
            refine l_step (s_q rfl wn (q_pick rfl rfl rfl) ?_)
            refine l_nil ?_
            refine k_then_n ?_
            first | refine c_if rfl (fun h2 => ?_) (fun h2 => ?_) | refine c_cond rfl (fun h2 => ?_) (fun h2 => ?_)
            · skip
              refine c_region ?_
              refine l_step (s_q rfl wn (q_move rfl) ?_)
              refine l_step (s_q rfl wn (q_move rfl) ?_)
              refine l_step (s_q rfl wn (q_nilCheck rfl) ?_)
              refine l_step (s_q rfl wn (by first | exact q_fieldp rfl fo_122_3 | exact q_fielde rfl fo_122_3 | exact q_fieldr rfl fo_122_3) ?_)
              refine Tr.env (.cons (t := 68) (v := .int .i64 ((idxF c.row.xs r.leads).toNat : Int)) rfl (inte (Int.toNat_of_nonneg g5_2).symm) (EnvLe.refl _)) ?_
              refine l_step (s_s0 wn (s_storep (ws := [_]) (cs := encCli c) (cs' := encCli { c with at_ := (idxF c.row.xs r.leads).toNat }) rfl rfl rfl sz_3 (by simp [Value.oneCell']) (by simp [encCli, encAsk, encW, encRep]) rfl (by repeat (first | exact Pick.here | apply Pick.there))) ?_)
              rintro _ _ ⟨rfl, rfl⟩
              refine l_nil ?_
              refine k_then_n ?_
              refine c_seq ?_
              refine c_region ?_
              refine l_step (s_q rfl wn (q_move rfl) ?_)
              refine l_step (s_q rfl wn (q_nilCheck rfl) ?_)
              refine l_step (s_q rfl wn (by first | exact q_fieldp rfl fo_122_7 | exact q_fielde rfl fo_122_7 | exact q_fieldr rfl fo_122_7) ?_)
              refine l_step (s_s0 wn (s_storep (ws := [_]) (cs := encCli ({ c with at_ := (idxF c.row.xs r.leads).toNat } : Cl)) (cs' := encCli { ({ c with at_ := (idxF c.row.xs r.leads).toNat } : Cl) with st := 2 }) rfl rfl rfl sz_120 (by simp [Value.oneCell']) (by simp [encCli, encAsk, encW, encRep]) rfl (by repeat (first | exact Pick.here | apply Pick.there))) ?_)
              rintro _ _ ⟨rfl, rfl⟩
              refine l_nil ?_
              refine k_then_n ?_
              refine c_seq ?_
              refine c_region ?_
              refine l_step (s_q rfl wn (q_assign rfl) ?_)
              refine l_nil ?_
              refine k_then_n ?_
              refine c_ret ?_
              refine k_then_r ?_
              exact t_ret (CliM 3 122 b ({ ({ c with at_ := (idxF c.row.xs r.leads).toNat } : Cl) with st := 2 } : Cl)) rfl (.tmp rfl .nil) rfl (Hp.le_refl _) ⟨rfl, (by rw [hear_off (c := c) (r := r) ⟨by simpa using g1_5, Decidable.not_not.1 g1_14, Decidable.not_not.1 h0⟩ (Or.inl g3_3), lead_yes g5_2 h2]; rfl), (by rw [hear_off (c := c) (r := r) ⟨by simpa using g1_5, Decidable.not_not.1 g1_14, Decidable.not_not.1 h0⟩ (Or.inl g3_3), lead_yes g5_2 h2]; rfl)⟩ (by simp only [CliM, List.cons_append, List.nil_append]; exact (by repeat (first | exact Ent.nil _ | exact Ent.refl _ | (refine Ent.pick (by repeat (first | exact Pick.here | apply Pick.there)) ?_) | refine Ent.skip ?_)))
            · skip
              refine c_region ?_
              refine l_step (s_q rfl wn (q_move rfl) ?_)
              refine l_step (s_fn rfl wn Try.func58 rfl (by kernel_rfl) rfl (next_spec b c ok1 ok2 ρ) (by repeat (first | exact Sel.nil | exact Pick.here | apply Sel.cons | apply Pick.there)) ?_)
              rintro _ _ _ - ⟨rfl, rfl, rfl⟩
              try simp only [List.cons_append, List.nil_append]
              refine l_nil ?_
              refine k_then_n ?_
              refine c_seq ?_
              refine c_region ?_
              refine l_step (s_q rfl wn (q_move rfl) ?_)
              refine l_step (s_q rfl wn (q_nilCheck rfl) ?_)
              refine l_step (s_q rfl wn (by first | exact q_fieldp rfl fo_122_7 | exact q_fielde rfl fo_122_7 | exact q_fieldr rfl fo_122_7) ?_)
              refine l_step (s_s0 wn (s_storep (ws := [_]) (cs := encCli (nextF c)) (cs' := encCli { (nextF c) with st := 2 }) rfl rfl rfl sz_120 (by simp [Value.oneCell']) (by simp [encCli, encAsk, encW, encRep]) rfl (by repeat (first | exact Pick.here | apply Pick.there))) ?_)
              rintro _ _ ⟨rfl, rfl⟩
              refine l_nil ?_
              refine k_then_n ?_
              refine c_seq ?_
              refine c_region ?_
              refine l_step (s_q rfl wn (q_assign rfl) ?_)
              refine l_nil ?_
              refine k_then_n ?_
              refine c_ret ?_
              refine k_then_r ?_
              exact t_ret (CliM 3 122 b ({ (nextF c) with st := 2 } : Cl)) rfl (.tmp rfl .nil) rfl (Hp.le_refl _) ⟨rfl, (by rw [hear_off (c := c) (r := r) ⟨by simpa using g1_5, Decidable.not_not.1 g1_14, Decidable.not_not.1 h0⟩ (Or.inl g3_3), lead_no (fun q => h2 q.2)]; rfl), (by rw [hear_off (c := c) (r := r) ⟨by simpa using g1_5, Decidable.not_not.1 g1_14, Decidable.not_not.1 h0⟩ (Or.inl g3_3), lead_no (fun q => h2 q.2)]; rfl)⟩ (by simp only [CliM, List.cons_append, List.nil_append]; exact (by repeat (first | exact Ent.nil _ | exact Ent.refl _ | (refine Ent.pick (by repeat (first | exact Pick.here | apply Pick.there)) ?_) | refine Ent.skip ?_)))
          · skip
            refine l_step (s_no rfl (wno rfl rfl (by decide)) ?_)
            refine l_step (s_no rfl (wno rfl rfl (by decide)) ?_)
            refine l_step (s_no rfl (wno rfl rfl (by decide)) ?_)
            refine l_step (s_no rfl (wno rfl rfl (by decide)) ?_)
            refine l_step (s_no rfl (wno rfl rfl (by decide)) ?_)
            refine l_step (s_no rfl (wno rfl rfl (by decide)) ?_)
            refine l_step (s_q rfl wn (q_pick rfl rfl rfl) ?_)
            refine l_nil ?_
            refine k_then_n ?_
            refine c_no rfl ?_
            refine c_region ?_
            refine l_step (s_q rfl wn (q_move rfl) ?_)
            refine l_step (s_fn rfl wn Try.func58 rfl (by kernel_rfl) rfl (next_spec b c ok1 ok2 ρ) (by repeat (first | exact Sel.nil | exact Pick.here | apply Sel.cons | apply Pick.there)) ?_)
            rintro _ _ _ - ⟨rfl, rfl, rfl⟩
            try simp only [List.cons_append, List.nil_append]
            refine l_nil ?_
            refine k_then_n ?_
            refine c_seq ?_
            refine c_region ?_
            refine l_step (s_q rfl wn (q_move rfl) ?_)
            refine l_step (s_q rfl wn (q_nilCheck rfl) ?_)
            refine l_step (s_q rfl wn (by first | exact q_fieldp rfl fo_122_7 | exact q_fielde rfl fo_122_7 | exact q_fieldr rfl fo_122_7) ?_)
            refine l_step (s_s0 wn (s_storep (ws := [_]) (cs := encCli (nextF c)) (cs' := encCli { (nextF c) with st := 2 }) rfl rfl rfl sz_120 (by simp [Value.oneCell']) (by simp [encCli, encAsk, encW, encRep]) rfl (by repeat (first | exact Pick.here | apply Pick.there))) ?_)
            rintro _ _ ⟨rfl, rfl⟩
            refine l_nil ?_
            refine k_then_n ?_
            refine c_seq ?_
            refine c_region ?_
            refine l_step (s_q rfl wn (q_assign rfl) ?_)
            refine l_nil ?_
            refine k_then_n ?_
            refine c_ret ?_
            refine k_then_r ?_
            exact t_ret (CliM 3 122 b ({ (nextF c) with st := 2 } : Cl)) rfl (.tmp rfl .nil) rfl (Hp.le_refl _) ⟨rfl, (by rw [hear_off (c := c) (r := r) ⟨by simpa using g1_5, Decidable.not_not.1 g1_14, Decidable.not_not.1 h0⟩ (Or.inl g3_3), lead_no (fun q => g5_2 q.1)]; rfl), (by rw [hear_off (c := c) (r := r) ⟨by simpa using g1_5, Decidable.not_not.1 g1_14, Decidable.not_not.1 h0⟩ (Or.inl g3_3), lead_no (fun q => g5_2 q.1)]; rfl)⟩ (by simp only [CliM, List.cons_append, List.nil_append]; exact (by repeat (first | exact Ent.nil _ | exact Ent.refl _ | (refine Ent.pick (by repeat (first | exact Pick.here | apply Pick.there)) ?_) | refine Ent.skip ?_)))
        · skip
          refine l_step (s_q rfl (wy rfl rfl rfl) (by first | exact q_fieldp rfl fo_64_2 | exact q_fielde rfl fo_64_2 | exact q_fieldr rfl fo_64_2) ?_)
          refine l_step (s_q rfl (wy rfl rfl rfl) (by first | exact q_loadp sc_33 rfl (by repeat (first | exact Pick.here | apply Pick.there)) rfl | exact q_loade sc_33 rfl (by first | assumption | exact rd_ro (by assumption) | exact rd_row (by repeat (first | exact Pick.here | apply Pick.there))) (fun _ => rfl) (by first | assumption | omega) (by decide) rfl) ?_)
          refine l_step (s_q rfl (wy rfl rfl rfl) (q_eql rfl rfl) ?_)
          refine l_step (s_q rfl wn (q_pick rfl rfl rfl) ?_)
          refine l_step (s_q rfl wn (q_move rfl) ?_)
          first | refine t_splitd (d := 37) rfl (fun g3_8 => ?_) (fun g3_8 => ?_) | refine t_split (d := 37) rfl (fun g3_8 => ?_) (fun g3_8 => ?_)
          · skip
            refine l_step (s_no rfl (wno rfl rfl (by decide)) ?_)
            refine l_step (s_no rfl (wno rfl rfl (by decide)) ?_)
            refine l_step (s_no rfl (wno rfl rfl (by decide)) ?_)
            refine l_step (s_no rfl (wno rfl rfl (by decide)) ?_)
            refine l_step (s_no rfl (wun rfl rfl) ?_)
            refine l_step (s_no rfl (wun rfl rfl) ?_)
            refine l_step (s_no rfl (wun rfl rfl) ?_)
            refine l_step (s_no rfl (wun rfl rfl) ?_)
            refine l_step (s_no rfl (wun rfl rfl) ?_)
            refine l_step (s_no rfl (wun rfl rfl) ?_)
            refine l_step (s_no rfl (wno rfl rfl (by decide)) ?_)
            refine l_step (s_q rfl wn (q_pick rfl rfl rfl) ?_)
            refine l_nil ?_
            refine k_then_n ?_
            refine c_yes rfl ?_
            refine c_seq ?_
            refine c_seq ?_
            refine c_drawG (m := 8) (bs := #[false, false, false, false, false, false, false, false]) (by kernel_rfl) rfl (by kernel_rfl) ?_
            refine r_take (i := 0) (bs' := #[true, false, false, false, false, false, false, false]) rfl (by kernel_rfl) (by kernel_rfl) (by kernel_rfl) (fun _ _ _ h => h) rfl wn (q_move rfl) (Hp.le_refl _) (by repeat (first | exact Ent.nil _ | exact Ent.refl _ | (refine Ent.pick (by repeat (first | exact Pick.here | apply Pick.there)) ?_) | refine Ent.skip ?_)) (by kernel_rfl) ?_
            refine r_take (i := 1) (bs' := #[true, true, false, false, false, false, false, false]) rfl (by kernel_rfl) (by kernel_rfl) (by kernel_rfl) (fun _ _ _ h => h) rfl wn (q_nilCheck rfl) (Hp.le_refl _) (by repeat (first | exact Ent.nil _ | exact Ent.refl _ | (refine Ent.pick (by repeat (first | exact Pick.here | apply Pick.there)) ?_) | refine Ent.skip ?_)) (by kernel_rfl) ?_
            refine r_take (i := 2) (bs' := #[true, true, true, false, false, false, false, false]) rfl (by kernel_rfl) (by kernel_rfl) (by kernel_rfl) (fun _ _ _ h => h) rfl wn (by first | exact q_fieldp rfl fo_122_2 | exact q_fielde rfl fo_122_2 | exact q_fieldr rfl fo_122_2) (Hp.le_refl _) (by repeat (first | exact Ent.nil _ | exact Ent.refl _ | (refine Ent.pick (by repeat (first | exact Pick.here | apply Pick.there)) ?_) | refine Ent.skip ?_)) (by kernel_rfl) ?_
            refine r_take (i := 3) (bs' := #[true, true, true, true, false, false, false, false]) rfl (by kernel_rfl) (by kernel_rfl) (by kernel_rfl) (fun _ _ _ h => h) rfl wn (by first | exact q_loadp sc_40 rfl (by repeat (first | exact Pick.here | apply Pick.there)) rfl | exact q_loade sc_40 rfl (by first | assumption | exact rd_ro (by assumption) | exact rd_row (by repeat (first | exact Pick.here | apply Pick.there))) (fun _ => rfl) (by first | assumption | omega) (by decide) rfl) (Hp.le_refl _) (by repeat (first | exact Ent.nil _ | exact Ent.refl _ | (refine Ent.pick (by repeat (first | exact Pick.here | apply Pick.there)) ?_) | refine Ent.skip ?_)) (by kernel_rfl) ?_
            refine r_take (i := 4) (bs' := #[true, true, true, true, true, false, false, false]) rfl (by kernel_rfl) (by kernel_rfl) (by kernel_rfl) (fun _ _ _ h => h) rfl wn (by first | exact q_fieldp rfl fo_64_3 | exact q_fielde rfl fo_64_3 | exact q_fieldr rfl fo_64_3) (Hp.le_refl _) (by repeat (first | exact Ent.nil _ | exact Ent.refl _ | (refine Ent.pick (by repeat (first | exact Pick.here | apply Pick.there)) ?_) | refine Ent.skip ?_)) (by kernel_rfl) ?_
            refine r_take (i := 5) (bs' := #[true, true, true, true, true, true, false, false]) rfl (by kernel_rfl) (by kernel_rfl) (by kernel_rfl) (fun _ _ _ h => h) rfl wn (by first | exact q_loadp sc_3 rfl (by repeat (first | exact Pick.here | apply Pick.there)) rfl | exact q_loade sc_3 rfl (by first | assumption | exact rd_ro (by assumption) | exact rd_row (by repeat (first | exact Pick.here | apply Pick.there))) (fun _ => rfl) (by first | assumption | omega) (by decide) rfl) (Hp.le_refl _) (by repeat (first | exact Ent.nil _ | exact Ent.refl _ | (refine Ent.pick (by repeat (first | exact Pick.here | apply Pick.there)) ?_) | refine Ent.skip ?_)) (by kernel_rfl) ?_
            refine r_one (i := 6) (bs' := #[true, true, true, true, true, true, true, false]) (by kernel_rfl) (by kernel_rfl) ?_
            refine o_step rfl (s_fn rfl wn Try.func71 rfl (by kernel_rfl) rfl (idx_spec _ _ _ c.row.xs rfl ok2 _ ρ _ (by exact rd_row (by repeat (first | exact Pick.here | apply Pick.there)))) (sel_all _) ?_)
            rintro _ _ _ - ⟨rfl, rfl, rfl⟩
            refine Tr.ent (Ent.cast (List.append_nil _)) ?_
            refine r_cont (Hp.le_refl _) (by repeat (first | exact Ent.nil _ | exact Ent.refl _ | (refine Ent.pick (by repeat (first | exact Pick.here | apply Pick.there)) ?_) | refine Ent.skip ?_)) ?_
            refine r_take (i := 7) (bs' := #[true, true, true, true, true, true, true, true]) rfl (by kernel_rfl) (by kernel_rfl) (by kernel_rfl) (fun _ _ _ h => h) rfl wn (q_assign rfl) (Hp.le_refl _) (by repeat (first | exact Ent.nil _ | exact Ent.refl _ | (refine Ent.pick (by repeat (first | exact Pick.here | apply Pick.there)) ?_) | refine Ent.skip ?_)) (by kernel_rfl) ?_
            refine r_done (by kernel_rfl) ?_
            refine k_then_n ?_
            refine c_seq ?_
            refine c_region ?_
            refine l_step (s_q rfl wn (q_move rfl) ?_)
            refine l_step (s_q rfl wn (q_geq rfl rfl) ?_)
            refine l_step (s_q rfl wn (q_move rfl) ?_)
            first | refine t_splitd (d := 59) rfl (fun g5_2 => ?_) (fun g5_2 => ?_) | refine t_split (d := 59) rfl (fun g5_2 => ?_) (fun g5_2 => ?_)
            · skip
              refine l_step (s_q rfl (wy rfl rfl rfl) (q_move rfl) ?_)
              refine l_step (s_q rfl (wy rfl rfl rfl) (q_move rfl) ?_)
              refine l_step (s_q rfl (wy rfl rfl rfl) (q_nilCheck rfl) ?_)
              refine l_step (s_q rfl (wy rfl rfl rfl) (by first | exact q_fieldp rfl fo_122_3 | exact q_fielde rfl fo_122_3 | exact q_fieldr rfl fo_122_3) ?_)
              refine l_step (s_q rfl (wy rfl rfl rfl) (by first | exact q_loadp sc_3 rfl (by repeat (first | exact Pick.here | apply Pick.there)) rfl | exact q_loade sc_3 rfl (by first | assumption | exact rd_ro (by assumption) | exact rd_row (by repeat (first | exact Pick.here | apply Pick.there))) (fun _ => rfl) (by first | assumption | omega) (by decide) rfl) ?_)
              refine l_step (s_q rfl (wy rfl rfl rfl) (q_neq rfl rfl) ?_)
              refine l_step (s_q rfl wn (q_pick rfl rfl rfl) ?_)
              refine l_nil ?_
              refine k_then_n ?_
              first | refine c_if rfl (fun h2 => ?_) (fun h2 => ?_) | refine c_cond rfl (fun h2 => ?_) (fun h2 => ?_)
              · skip
                refine c_region ?_
                refine l_step (s_q rfl wn (q_move rfl) ?_)
                refine l_step (s_q rfl wn (q_move rfl) ?_)
                refine l_step (s_q rfl wn (q_nilCheck rfl) ?_)
                refine l_step (s_q rfl wn (by first | exact q_fieldp rfl fo_122_3 | exact q_fielde rfl fo_122_3 | exact q_fieldr rfl fo_122_3) ?_)
                refine Tr.env (.cons (t := 68) (v := .int .i64 ((idxF c.row.xs r.leads).toNat : Int)) rfl (inte (Int.toNat_of_nonneg g5_2).symm) (EnvLe.refl _)) ?_
                refine l_step (s_s0 wn (s_storep (ws := [_]) (cs := encCli c) (cs' := encCli { c with at_ := (idxF c.row.xs r.leads).toNat }) rfl rfl rfl sz_3 (by simp [Value.oneCell']) (by simp [encCli, encAsk, encW, encRep]) rfl (by repeat (first | exact Pick.here | apply Pick.there))) ?_)
                rintro _ _ ⟨rfl, rfl⟩
                refine l_nil ?_
                refine k_then_n ?_
                refine c_seq ?_
                refine c_region ?_
                refine l_step (s_q rfl wn (q_move rfl) ?_)
                refine l_step (s_q rfl wn (q_nilCheck rfl) ?_)
                refine l_step (s_q rfl wn (by first | exact q_fieldp rfl fo_122_7 | exact q_fielde rfl fo_122_7 | exact q_fieldr rfl fo_122_7) ?_)
                refine l_step (s_s0 wn (s_storep (ws := [_]) (cs := encCli ({ c with at_ := (idxF c.row.xs r.leads).toNat } : Cl)) (cs' := encCli { ({ c with at_ := (idxF c.row.xs r.leads).toNat } : Cl) with st := 2 }) rfl rfl rfl sz_120 (by simp [Value.oneCell']) (by simp [encCli, encAsk, encW, encRep]) rfl (by repeat (first | exact Pick.here | apply Pick.there))) ?_)
                rintro _ _ ⟨rfl, rfl⟩
                refine l_nil ?_
                refine k_then_n ?_
                refine c_seq ?_
                refine c_region ?_
                refine l_step (s_q rfl wn (q_assign rfl) ?_)
                refine l_nil ?_
                refine k_then_n ?_
                refine c_ret ?_
                refine k_then_r ?_
                exact t_ret (CliM 3 122 b ({ ({ c with at_ := (idxF c.row.xs r.leads).toNat } : Cl) with st := 2 } : Cl)) rfl (.tmp rfl .nil) rfl (Hp.le_refl _) ⟨rfl, (by rw [hear_off (c := c) (r := r) ⟨by simpa using g1_5, Decidable.not_not.1 g1_14, Decidable.not_not.1 h0⟩ (Or.inr (.inl g3_8)), lead_yes g5_2 h2]; rfl), (by rw [hear_off (c := c) (r := r) ⟨by simpa using g1_5, Decidable.not_not.1 g1_14, Decidable.not_not.1 h0⟩ (Or.inr (.inl g3_8)), lead_yes g5_2 h2]; rfl)⟩ (by simp only [CliM, List.cons_append, List.nil_append]; exact (by repeat (first | exact Ent.nil _ | exact Ent.refl _ | (refine Ent.pick (by repeat (first | exact Pick.here | apply Pick.there)) ?_) | refine Ent.skip ?_)))
              · skip
                refine c_region ?_
                refine l_step (s_q rfl wn (q_move rfl) ?_)
                refine l_step (s_fn rfl wn Try.func58 rfl (by kernel_rfl) rfl (next_spec b c ok1 ok2 ρ) (by repeat (first | exact Sel.nil | exact Pick.here | apply Sel.cons | apply Pick.there)) ?_)
                rintro _ _ _ - ⟨rfl, rfl, rfl⟩
                try simp only [List.cons_append, List.nil_append]
                refine l_nil ?_
                refine k_then_n ?_
                refine c_seq ?_
                refine c_region ?_
                refine l_step (s_q rfl wn (q_move rfl) ?_)
                refine l_step (s_q rfl wn (q_nilCheck rfl) ?_)
                refine l_step (s_q rfl wn (by first | exact q_fieldp rfl fo_122_7 | exact q_fielde rfl fo_122_7 | exact q_fieldr rfl fo_122_7) ?_)
                refine l_step (s_s0 wn (s_storep (ws := [_]) (cs := encCli (nextF c)) (cs' := encCli { (nextF c) with st := 2 }) rfl rfl rfl sz_120 (by simp [Value.oneCell']) (by simp [encCli, encAsk, encW, encRep]) rfl (by repeat (first | exact Pick.here | apply Pick.there))) ?_)
                rintro _ _ ⟨rfl, rfl⟩
                refine l_nil ?_
                refine k_then_n ?_
                refine c_seq ?_
                refine c_region ?_
                refine l_step (s_q rfl wn (q_assign rfl) ?_)
                refine l_nil ?_
                refine k_then_n ?_
                refine c_ret ?_
                refine k_then_r ?_
                exact t_ret (CliM 3 122 b ({ (nextF c) with st := 2 } : Cl)) rfl (.tmp rfl .nil) rfl (Hp.le_refl _) ⟨rfl, (by rw [hear_off (c := c) (r := r) ⟨by simpa using g1_5, Decidable.not_not.1 g1_14, Decidable.not_not.1 h0⟩ (Or.inr (.inl g3_8)), lead_no (fun q => h2 q.2)]; rfl), (by rw [hear_off (c := c) (r := r) ⟨by simpa using g1_5, Decidable.not_not.1 g1_14, Decidable.not_not.1 h0⟩ (Or.inr (.inl g3_8)), lead_no (fun q => h2 q.2)]; rfl)⟩ (by simp only [CliM, List.cons_append, List.nil_append]; exact (by repeat (first | exact Ent.nil _ | exact Ent.refl _ | (refine Ent.pick (by repeat (first | exact Pick.here | apply Pick.there)) ?_) | refine Ent.skip ?_)))
            · skip
              refine l_step (s_no rfl (wno rfl rfl (by decide)) ?_)
              refine l_step (s_no rfl (wno rfl rfl (by decide)) ?_)
              refine l_step (s_no rfl (wno rfl rfl (by decide)) ?_)
              refine l_step (s_no rfl (wno rfl rfl (by decide)) ?_)
              refine l_step (s_no rfl (wno rfl rfl (by decide)) ?_)
              refine l_step (s_no rfl (wno rfl rfl (by decide)) ?_)
              refine l_step (s_q rfl wn (q_pick rfl rfl rfl) ?_)
              refine l_nil ?_
              refine k_then_n ?_
              refine c_no rfl ?_
              refine c_region ?_
              refine l_step (s_q rfl wn (q_move rfl) ?_)
              refine l_step (s_fn rfl wn Try.func58 rfl (by kernel_rfl) rfl (next_spec b c ok1 ok2 ρ) (by repeat (first | exact Sel.nil | exact Pick.here | apply Sel.cons | apply Pick.there)) ?_)
              rintro _ _ _ - ⟨rfl, rfl, rfl⟩
              try simp only [List.cons_append, List.nil_append]
              refine l_nil ?_
              refine k_then_n ?_
              refine c_seq ?_
              refine c_region ?_
              refine l_step (s_q rfl wn (q_move rfl) ?_)
              refine l_step (s_q rfl wn (q_nilCheck rfl) ?_)
              refine l_step (s_q rfl wn (by first | exact q_fieldp rfl fo_122_7 | exact q_fielde rfl fo_122_7 | exact q_fieldr rfl fo_122_7) ?_)
              refine l_step (s_s0 wn (s_storep (ws := [_]) (cs := encCli (nextF c)) (cs' := encCli { (nextF c) with st := 2 }) rfl rfl rfl sz_120 (by simp [Value.oneCell']) (by simp [encCli, encAsk, encW, encRep]) rfl (by repeat (first | exact Pick.here | apply Pick.there))) ?_)
              rintro _ _ ⟨rfl, rfl⟩
              refine l_nil ?_
              refine k_then_n ?_
              refine c_seq ?_
              refine c_region ?_
              refine l_step (s_q rfl wn (q_assign rfl) ?_)
              refine l_nil ?_
              refine k_then_n ?_
              refine c_ret ?_
              refine k_then_r ?_
              exact t_ret (CliM 3 122 b ({ (nextF c) with st := 2 } : Cl)) rfl (.tmp rfl .nil) rfl (Hp.le_refl _) ⟨rfl, (by rw [hear_off (c := c) (r := r) ⟨by simpa using g1_5, Decidable.not_not.1 g1_14, Decidable.not_not.1 h0⟩ (Or.inr (.inl g3_8)), lead_no (fun q => g5_2 q.1)]; rfl), (by rw [hear_off (c := c) (r := r) ⟨by simpa using g1_5, Decidable.not_not.1 g1_14, Decidable.not_not.1 h0⟩ (Or.inr (.inl g3_8)), lead_no (fun q => g5_2 q.1)]; rfl)⟩ (by simp only [CliM, List.cons_append, List.nil_append]; exact (by repeat (first | exact Ent.nil _ | exact Ent.refl _ | (refine Ent.pick (by repeat (first | exact Pick.here | apply Pick.there)) ?_) | refine Ent.skip ?_)))
          · skip
            refine l_step (s_q rfl (wy rfl rfl rfl) (by first | exact q_fieldp rfl fo_64_2 | exact q_fielde rfl fo_64_2 | exact q_fieldr rfl fo_64_2) ?_)
            refine l_step (s_q rfl (wy rfl rfl rfl) (by first | exact q_loadp sc_33 rfl (by repeat (first | exact Pick.here | apply Pick.there)) rfl | exact q_loade sc_33 rfl (by first | assumption | exact rd_ro (by assumption) | exact rd_row (by repeat (first | exact Pick.here | apply Pick.there))) (fun _ => rfl) (by first | assumption | omega) (by decide) rfl) ?_)
            refine l_step (s_q rfl (wy rfl rfl rfl) (q_eql rfl rfl) ?_)
            refine l_step (s_q rfl (wy rfl rfl rfl) (q_move rfl) ?_)
            first | refine t_splitd (d := 41) rfl (fun g3_12 => ?_) (fun g3_12 => ?_) | refine t_split (d := 41) rfl (fun g3_12 => ?_) (fun g3_12 => ?_)
            · skip
              refine l_step (s_q rfl (wy rfl rfl rfl) (q_move rfl) ?_)
              refine l_step (s_q rfl (wy rfl rfl rfl) (q_nilCheck rfl) ?_)
              refine l_step (s_q rfl (wy rfl rfl rfl) (by first | exact q_fieldp rfl fo_122_5 | exact q_fielde rfl fo_122_5 | exact q_fieldr rfl fo_122_5) ?_)
              refine l_step (s_q rfl (wy rfl rfl rfl) (by first | exact q_fieldp rfl fo_54_0 | exact q_fielde rfl fo_54_0 | exact q_fieldr rfl fo_54_0) ?_)
              refine l_step (s_q rfl (wy rfl rfl rfl) (by first | exact q_loadp sc_3 rfl (by repeat (first | exact Pick.here | apply Pick.there)) rfl | exact q_loade sc_3 rfl (by first | assumption | exact rd_ro (by assumption) | exact rd_row (by repeat (first | exact Pick.here | apply Pick.there))) (fun _ => rfl) (by first | assumption | omega) (by decide) rfl) ?_)
              refine l_step (s_q rfl (wy rfl rfl rfl) (q_neq rfl rfl) ?_)
              refine l_step (s_q rfl (wy rfl rfl rfl) (q_pick rfl rfl rfl) ?_)
              refine l_step (s_q rfl wn (q_pick rfl rfl rfl) ?_)
              refine l_nil ?_
              refine k_then_n ?_
              first | refine c_if rfl (fun h1 => ?_) (fun h1 => ?_) | refine c_cond rfl (fun h1 => ?_) (fun h1 => ?_)
              · skip
                refine c_seq ?_
                refine c_seq ?_
                refine c_drawG (m := 8) (bs := #[false, false, false, false, false, false, false, false]) (by kernel_rfl) rfl (by kernel_rfl) ?_
                refine r_take (i := 0) (bs' := #[true, false, false, false, false, false, false, false]) rfl (by kernel_rfl) (by kernel_rfl) (by kernel_rfl) (fun _ _ _ h => h) rfl wn (q_move rfl) (Hp.le_refl _) (by repeat (first | exact Ent.nil _ | exact Ent.refl _ | (refine Ent.pick (by repeat (first | exact Pick.here | apply Pick.there)) ?_) | refine Ent.skip ?_)) (by kernel_rfl) ?_
                refine r_take (i := 1) (bs' := #[true, true, false, false, false, false, false, false]) rfl (by kernel_rfl) (by kernel_rfl) (by kernel_rfl) (fun _ _ _ h => h) rfl wn (q_nilCheck rfl) (Hp.le_refl _) (by repeat (first | exact Ent.nil _ | exact Ent.refl _ | (refine Ent.pick (by repeat (first | exact Pick.here | apply Pick.there)) ?_) | refine Ent.skip ?_)) (by kernel_rfl) ?_
                refine r_take (i := 2) (bs' := #[true, true, true, false, false, false, false, false]) rfl (by kernel_rfl) (by kernel_rfl) (by kernel_rfl) (fun _ _ _ h => h) rfl wn (by first | exact q_fieldp rfl fo_122_2 | exact q_fielde rfl fo_122_2 | exact q_fieldr rfl fo_122_2) (Hp.le_refl _) (by repeat (first | exact Ent.nil _ | exact Ent.refl _ | (refine Ent.pick (by repeat (first | exact Pick.here | apply Pick.there)) ?_) | refine Ent.skip ?_)) (by kernel_rfl) ?_
                refine r_take (i := 3) (bs' := #[true, true, true, true, false, false, false, false]) rfl (by kernel_rfl) (by kernel_rfl) (by kernel_rfl) (fun _ _ _ h => h) rfl wn (by first | exact q_loadp sc_40 rfl (by repeat (first | exact Pick.here | apply Pick.there)) rfl | exact q_loade sc_40 rfl (by first | assumption | exact rd_ro (by assumption) | exact rd_row (by repeat (first | exact Pick.here | apply Pick.there))) (fun _ => rfl) (by first | assumption | omega) (by decide) rfl) (Hp.le_refl _) (by repeat (first | exact Ent.nil _ | exact Ent.refl _ | (refine Ent.pick (by repeat (first | exact Pick.here | apply Pick.there)) ?_) | refine Ent.skip ?_)) (by kernel_rfl) ?_
                refine r_take (i := 4) (bs' := #[true, true, true, true, true, false, false, false]) rfl (by kernel_rfl) (by kernel_rfl) (by kernel_rfl) (fun _ _ _ h => h) rfl wn (by first | exact q_fieldp rfl fo_64_3 | exact q_fielde rfl fo_64_3 | exact q_fieldr rfl fo_64_3) (Hp.le_refl _) (by repeat (first | exact Ent.nil _ | exact Ent.refl _ | (refine Ent.pick (by repeat (first | exact Pick.here | apply Pick.there)) ?_) | refine Ent.skip ?_)) (by kernel_rfl) ?_
                refine r_take (i := 5) (bs' := #[true, true, true, true, true, true, false, false]) rfl (by kernel_rfl) (by kernel_rfl) (by kernel_rfl) (fun _ _ _ h => h) rfl wn (by first | exact q_loadp sc_3 rfl (by repeat (first | exact Pick.here | apply Pick.there)) rfl | exact q_loade sc_3 rfl (by first | assumption | exact rd_ro (by assumption) | exact rd_row (by repeat (first | exact Pick.here | apply Pick.there))) (fun _ => rfl) (by first | assumption | omega) (by decide) rfl) (Hp.le_refl _) (by repeat (first | exact Ent.nil _ | exact Ent.refl _ | (refine Ent.pick (by repeat (first | exact Pick.here | apply Pick.there)) ?_) | refine Ent.skip ?_)) (by kernel_rfl) ?_
                refine r_one (i := 6) (bs' := #[true, true, true, true, true, true, true, false]) (by kernel_rfl) (by kernel_rfl) ?_
                refine o_step rfl (s_fn rfl wn Try.func71 rfl (by kernel_rfl) rfl (idx_spec _ _ _ c.row.xs rfl ok2 _ ρ _ (by exact rd_row (by repeat (first | exact Pick.here | apply Pick.there)))) (sel_all _) ?_)
                rintro _ _ _ - ⟨rfl, rfl, rfl⟩
                refine Tr.ent (Ent.cast (List.append_nil _)) ?_
                refine r_cont (Hp.le_refl _) (by repeat (first | exact Ent.nil _ | exact Ent.refl _ | (refine Ent.pick (by repeat (first | exact Pick.here | apply Pick.there)) ?_) | refine Ent.skip ?_)) ?_
                refine r_take (i := 7) (bs' := #[true, true, true, true, true, true, true, true]) rfl (by kernel_rfl) (by kernel_rfl) (by kernel_rfl) (fun _ _ _ h => h) rfl wn (q_assign rfl) (Hp.le_refl _) (by repeat (first | exact Ent.nil _ | exact Ent.refl _ | (refine Ent.pick (by repeat (first | exact Pick.here | apply Pick.there)) ?_) | refine Ent.skip ?_)) (by kernel_rfl) ?_
                refine r_done (by kernel_rfl) ?_
                refine k_then_n ?_
                refine c_seq ?_
                refine c_region ?_
                refine l_step (s_q rfl wn (q_move rfl) ?_)
                refine l_step (s_q rfl wn (q_geq rfl rfl) ?_)
                refine l_step (s_q rfl wn (q_move rfl) ?_)
                first | refine t_splitd (d := 59) rfl (fun g5_2 => ?_) (fun g5_2 => ?_) | refine t_split (d := 59) rfl (fun g5_2 => ?_) (fun g5_2 => ?_)
                · skip
                  refine l_step (s_q rfl (wy rfl rfl rfl) (q_move rfl) ?_)
                  refine l_step (s_q rfl (wy rfl rfl rfl) (q_move rfl) ?_)
                  refine l_step (s_q rfl (wy rfl rfl rfl) (q_nilCheck rfl) ?_)
                  refine l_step (s_q rfl (wy rfl rfl rfl) (by first | exact q_fieldp rfl fo_122_3 | exact q_fielde rfl fo_122_3 | exact q_fieldr rfl fo_122_3) ?_)
                  refine l_step (s_q rfl (wy rfl rfl rfl) (by first | exact q_loadp sc_3 rfl (by repeat (first | exact Pick.here | apply Pick.there)) rfl | exact q_loade sc_3 rfl (by first | assumption | exact rd_ro (by assumption) | exact rd_row (by repeat (first | exact Pick.here | apply Pick.there))) (fun _ => rfl) (by first | assumption | omega) (by decide) rfl) ?_)
                  refine l_step (s_q rfl (wy rfl rfl rfl) (q_neq rfl rfl) ?_)
                  refine l_step (s_q rfl wn (q_pick rfl rfl rfl) ?_)
                  refine l_nil ?_
                  refine k_then_n ?_
                  first | refine c_if rfl (fun h2 => ?_) (fun h2 => ?_) | refine c_cond rfl (fun h2 => ?_) (fun h2 => ?_)
                  · skip
                    refine c_region ?_
                    refine l_step (s_q rfl wn (q_move rfl) ?_)
                    refine l_step (s_q rfl wn (q_move rfl) ?_)
                    refine l_step (s_q rfl wn (q_nilCheck rfl) ?_)
                    refine l_step (s_q rfl wn (by first | exact q_fieldp rfl fo_122_3 | exact q_fielde rfl fo_122_3 | exact q_fieldr rfl fo_122_3) ?_)
                    refine Tr.env (.cons (t := 68) (v := .int .i64 ((idxF c.row.xs r.leads).toNat : Int)) rfl (inte (Int.toNat_of_nonneg g5_2).symm) (EnvLe.refl _)) ?_
                    refine l_step (s_s0 wn (s_storep (ws := [_]) (cs := encCli c) (cs' := encCli { c with at_ := (idxF c.row.xs r.leads).toNat }) rfl rfl rfl sz_3 (by simp [Value.oneCell']) (by simp [encCli, encAsk, encW, encRep]) rfl (by repeat (first | exact Pick.here | apply Pick.there))) ?_)
                    rintro _ _ ⟨rfl, rfl⟩
                    refine l_nil ?_
                    refine k_then_n ?_
                    refine c_seq ?_
                    refine c_region ?_
                    refine l_step (s_q rfl wn (q_move rfl) ?_)
                    refine l_step (s_q rfl wn (q_nilCheck rfl) ?_)
                    refine l_step (s_q rfl wn (by first | exact q_fieldp rfl fo_122_7 | exact q_fielde rfl fo_122_7 | exact q_fieldr rfl fo_122_7) ?_)
                    refine l_step (s_s0 wn (s_storep (ws := [_]) (cs := encCli ({ c with at_ := (idxF c.row.xs r.leads).toNat } : Cl)) (cs' := encCli { ({ c with at_ := (idxF c.row.xs r.leads).toNat } : Cl) with st := 2 }) rfl rfl rfl sz_120 (by simp [Value.oneCell']) (by simp [encCli, encAsk, encW, encRep]) rfl (by repeat (first | exact Pick.here | apply Pick.there))) ?_)
                    rintro _ _ ⟨rfl, rfl⟩
                    refine l_nil ?_
                    refine k_then_n ?_
                    refine c_seq ?_
                    refine c_region ?_
                    refine l_step (s_q rfl wn (q_assign rfl) ?_)
                    refine l_nil ?_
                    refine k_then_n ?_
                    refine c_ret ?_
                    refine k_then_r ?_
                    exact t_ret (CliM 3 122 b ({ ({ c with at_ := (idxF c.row.xs r.leads).toNat } : Cl) with st := 2 } : Cl)) rfl (.tmp rfl .nil) rfl (Hp.le_refl _) ⟨rfl, (by rw [hear_off (c := c) (r := r) ⟨by simpa using g1_5, Decidable.not_not.1 g1_14, Decidable.not_not.1 h0⟩ (Or.inr (.inr ⟨g3_12, h1⟩)), lead_yes g5_2 h2]; rfl), (by rw [hear_off (c := c) (r := r) ⟨by simpa using g1_5, Decidable.not_not.1 g1_14, Decidable.not_not.1 h0⟩ (Or.inr (.inr ⟨g3_12, h1⟩)), lead_yes g5_2 h2]; rfl)⟩ (by simp only [CliM, List.cons_append, List.nil_append]; exact (by repeat (first | exact Ent.nil _ | exact Ent.refl _ | (refine Ent.pick (by repeat (first | exact Pick.here | apply Pick.there)) ?_) | refine Ent.skip ?_)))
                  · skip
                    refine c_region ?_
                    refine l_step (s_q rfl wn (q_move rfl) ?_)
                    refine l_step (s_fn rfl wn Try.func58 rfl (by kernel_rfl) rfl (next_spec b c ok1 ok2 ρ) (by repeat (first | exact Sel.nil | exact Pick.here | apply Sel.cons | apply Pick.there)) ?_)
                    rintro _ _ _ - ⟨rfl, rfl, rfl⟩
                    try simp only [List.cons_append, List.nil_append]
                    refine l_nil ?_
                    refine k_then_n ?_
                    refine c_seq ?_
                    refine c_region ?_
                    refine l_step (s_q rfl wn (q_move rfl) ?_)
                    refine l_step (s_q rfl wn (q_nilCheck rfl) ?_)
                    refine l_step (s_q rfl wn (by first | exact q_fieldp rfl fo_122_7 | exact q_fielde rfl fo_122_7 | exact q_fieldr rfl fo_122_7) ?_)
                    refine l_step (s_s0 wn (s_storep (ws := [_]) (cs := encCli (nextF c)) (cs' := encCli { (nextF c) with st := 2 }) rfl rfl rfl sz_120 (by simp [Value.oneCell']) (by simp [encCli, encAsk, encW, encRep]) rfl (by repeat (first | exact Pick.here | apply Pick.there))) ?_)
                    rintro _ _ ⟨rfl, rfl⟩
                    refine l_nil ?_
                    refine k_then_n ?_
                    refine c_seq ?_
                    refine c_region ?_
                    refine l_step (s_q rfl wn (q_assign rfl) ?_)
                    refine l_nil ?_
                    refine k_then_n ?_
                    refine c_ret ?_
                    refine k_then_r ?_
                    exact t_ret (CliM 3 122 b ({ (nextF c) with st := 2 } : Cl)) rfl (.tmp rfl .nil) rfl (Hp.le_refl _) ⟨rfl, (by rw [hear_off (c := c) (r := r) ⟨by simpa using g1_5, Decidable.not_not.1 g1_14, Decidable.not_not.1 h0⟩ (Or.inr (.inr ⟨g3_12, h1⟩)), lead_no (fun q => h2 q.2)]; rfl), (by rw [hear_off (c := c) (r := r) ⟨by simpa using g1_5, Decidable.not_not.1 g1_14, Decidable.not_not.1 h0⟩ (Or.inr (.inr ⟨g3_12, h1⟩)), lead_no (fun q => h2 q.2)]; rfl)⟩ (by simp only [CliM, List.cons_append, List.nil_append]; exact (by repeat (first | exact Ent.nil _ | exact Ent.refl _ | (refine Ent.pick (by repeat (first | exact Pick.here | apply Pick.there)) ?_) | refine Ent.skip ?_)))
                · skip
                  refine l_step (s_no rfl (wno rfl rfl (by decide)) ?_)
                  refine l_step (s_no rfl (wno rfl rfl (by decide)) ?_)
                  refine l_step (s_no rfl (wno rfl rfl (by decide)) ?_)
                  refine l_step (s_no rfl (wno rfl rfl (by decide)) ?_)
                  refine l_step (s_no rfl (wno rfl rfl (by decide)) ?_)
                  refine l_step (s_no rfl (wno rfl rfl (by decide)) ?_)
                  refine l_step (s_q rfl wn (q_pick rfl rfl rfl) ?_)
                  refine l_nil ?_
                  refine k_then_n ?_
                  refine c_no rfl ?_
                  refine c_region ?_
                  refine l_step (s_q rfl wn (q_move rfl) ?_)
                  refine l_step (s_fn rfl wn Try.func58 rfl (by kernel_rfl) rfl (next_spec b c ok1 ok2 ρ) (by repeat (first | exact Sel.nil | exact Pick.here | apply Sel.cons | apply Pick.there)) ?_)
                  rintro _ _ _ - ⟨rfl, rfl, rfl⟩
                  try simp only [List.cons_append, List.nil_append]
                  refine l_nil ?_
                  refine k_then_n ?_
                  refine c_seq ?_
                  refine c_region ?_
                  refine l_step (s_q rfl wn (q_move rfl) ?_)
                  refine l_step (s_q rfl wn (q_nilCheck rfl) ?_)
                  refine l_step (s_q rfl wn (by first | exact q_fieldp rfl fo_122_7 | exact q_fielde rfl fo_122_7 | exact q_fieldr rfl fo_122_7) ?_)
                  refine l_step (s_s0 wn (s_storep (ws := [_]) (cs := encCli (nextF c)) (cs' := encCli { (nextF c) with st := 2 }) rfl rfl rfl sz_120 (by simp [Value.oneCell']) (by simp [encCli, encAsk, encW, encRep]) rfl (by repeat (first | exact Pick.here | apply Pick.there))) ?_)
                  rintro _ _ ⟨rfl, rfl⟩
                  refine l_nil ?_
                  refine k_then_n ?_
                  refine c_seq ?_
                  refine c_region ?_
                  refine l_step (s_q rfl wn (q_assign rfl) ?_)
                  refine l_nil ?_
                  refine k_then_n ?_
                  refine c_ret ?_
                  refine k_then_r ?_
                  exact t_ret (CliM 3 122 b ({ (nextF c) with st := 2 } : Cl)) rfl (.tmp rfl .nil) rfl (Hp.le_refl _) ⟨rfl, (by rw [hear_off (c := c) (r := r) ⟨by simpa using g1_5, Decidable.not_not.1 g1_14, Decidable.not_not.1 h0⟩ (Or.inr (.inr ⟨g3_12, h1⟩)), lead_no (fun q => g5_2 q.1)]; rfl), (by rw [hear_off (c := c) (r := r) ⟨by simpa using g1_5, Decidable.not_not.1 g1_14, Decidable.not_not.1 h0⟩ (Or.inr (.inr ⟨g3_12, h1⟩)), lead_no (fun q => g5_2 q.1)]; rfl)⟩ (by simp only [CliM, List.cons_append, List.nil_append]; exact (by repeat (first | exact Ent.nil _ | exact Ent.refl _ | (refine Ent.pick (by repeat (first | exact Pick.here | apply Pick.there)) ?_) | refine Ent.skip ?_)))
              · skip
                refine c_skip ?_
                refine k_then_n ?_
                refine c_seq ?_
                refine c_draw (m := 13) (bs := #[false, false, false, false, false, false, false, false, false, false, false, false, false]) [.pts b3 (encRep r) 64] (by kernel_rfl) rfl (by kernel_rfl) ?_
                refine r_take (i := 0) (bs' := #[true, false, false, false, false, false, false, false, false, false, false, false, false]) rfl (by kernel_rfl) (by kernel_rfl) (by kernel_rfl) (fun _ _ _ h => h) rfl wn (q_move rfl) (Hp.le_refl _) (by repeat (first | exact Ent.nil _ | exact Ent.refl _ | (refine Ent.pick (by repeat (first | exact Pick.here | apply Pick.there)) ?_) | refine Ent.skip ?_)) (by kernel_rfl) ?_
                refine r_take (i := 1) (bs' := #[true, true, false, false, false, false, false, false, false, false, false, false, false]) rfl (by kernel_rfl) (by kernel_rfl) (by kernel_rfl) (fun _ _ _ h => h) rfl wn (q_move rfl) (Hp.le_refl _) (by repeat (first | exact Ent.nil _ | exact Ent.refl _ | (refine Ent.pick (by repeat (first | exact Pick.here | apply Pick.there)) ?_) | refine Ent.skip ?_)) (by kernel_rfl) ?_
                refine r_take (i := 2) (bs' := #[true, true, true, false, false, false, false, false, false, false, false, false, false]) rfl (by kernel_rfl) (by kernel_rfl) (by kernel_rfl) (fun _ _ _ h => h) rfl wn (q_move rfl) (Hp.le_refl _) (by repeat (first | exact Ent.nil _ | exact Ent.refl _ | (refine Ent.pick (by repeat (first | exact Pick.here | apply Pick.there)) ?_) | refine Ent.skip ?_)) (by kernel_rfl) ?_
                refine r_take (i := 3) (bs' := #[true, true, true, true, false, false, false, false, false, false, false, false, false]) rfl (by kernel_rfl) (by kernel_rfl) (by kernel_rfl) (fun _ _ _ h => h) rfl wn (q_loadpa (vs := encRep r) ag_64 rfl (by repeat (first | exact Pick.here | apply Pick.there)) rfl) (Hp.le_refl _) (by repeat (first | exact Ent.nil _ | exact Ent.refl _ | (refine Ent.pick (by repeat (first | exact Pick.here | apply Pick.there)) ?_) | refine Ent.skip ?_)) (by kernel_rfl) ?_
                refine r_take (i := 4) (bs' := #[true, true, true, true, true, false, false, false, false, false, false, false, false]) rfl (by kernel_rfl) (by kernel_rfl) (by kernel_rfl) (fun _ _ _ h => h) rfl wn (q_nilCheck rfl) (Hp.le_refl _) (by repeat (first | exact Ent.nil _ | exact Ent.refl _ | (refine Ent.pick (by repeat (first | exact Pick.here | apply Pick.there)) ?_) | refine Ent.skip ?_)) (by kernel_rfl) ?_
                refine r_take (i := 5) (bs' := #[true, true, true, true, true, true, false, false, false, false, false, false, false]) rfl (by kernel_rfl) (by kernel_rfl) (by kernel_rfl) (fun _ _ _ h => h) rfl wn (by first | exact q_fieldp rfl fo_122_6 | exact q_fielde rfl fo_122_6 | exact q_fieldr rfl fo_122_6) (Hp.le_refl _) (by repeat (first | exact Ent.nil _ | exact Ent.refl _ | (refine Ent.pick (by repeat (first | exact Pick.here | apply Pick.there)) ?_) | refine Ent.skip ?_)) (by kernel_rfl) ?_
                refine r_one (i := 6) (bs' := #[true, true, true, true, true, true, true, false, false, false, false, false, false]) (by kernel_rfl) (by kernel_rfl) ?_
                refine o_step rfl (s_s0 wn (s_storep (ws := [_]) (cs := encCli c) (cs' := encCli { c with on := false }) rfl rfl rfl sz_4 (by simp [Value.oneCell']) (by simp [encCli, encAsk, encW, encRep]) rfl (by repeat (first | exact Pick.here | apply Pick.there))) ?_)
                rintro _ _ ⟨rfl, rfl⟩
                refine r_cont (Hp.le_refl _) (by repeat (first | exact Ent.nil _ | exact Ent.refl _ | (refine Ent.pick (by repeat (first | exact Pick.here | apply Pick.there)) ?_) | refine Ent.skip ?_)) ?_
                refine r_take (i := 7) (bs' := #[true, true, true, true, true, true, true, true, false, false, false, false, false]) rfl (by kernel_rfl) (by kernel_rfl) (by kernel_rfl) (fun _ _ _ h => h) rfl wn (q_nilCheck rfl) (Hp.le_refl _) (by repeat (first | exact Ent.nil _ | exact Ent.refl _ | (refine Ent.pick (by repeat (first | exact Pick.here | apply Pick.there)) ?_) | refine Ent.skip ?_)) (by kernel_rfl) ?_
                refine r_take (i := 8) (bs' := #[true, true, true, true, true, true, true, true, true, false, false, false, false]) rfl (by kernel_rfl) (by kernel_rfl) (by kernel_rfl) (fun _ _ _ h => h) rfl wn (by first | exact q_fieldp rfl fo_122_10 | exact q_fielde rfl fo_122_10 | exact q_fieldr rfl fo_122_10) (Hp.le_refl _) (by repeat (first | exact Ent.nil _ | exact Ent.refl _ | (refine Ent.pick (by repeat (first | exact Pick.here | apply Pick.there)) ?_) | refine Ent.skip ?_)) (by kernel_rfl) ?_
                refine r_one (i := 9) (bs' := #[true, true, true, true, true, true, true, true, true, true, false, false, false]) (by kernel_rfl) (by kernel_rfl) ?_
                refine o_step rfl (s_s0 wn (s_storep (ws := [_]) (cs := encCli { c with on := false }) (cs' := encCli { c with on := false, over := true }) rfl rfl rfl sz_4 (by simp [Value.oneCell']) (by simp [encCli, encAsk, encW, encRep]) rfl (by repeat (first | exact Pick.here | apply Pick.there))) ?_)
                rintro _ _ ⟨rfl, rfl⟩
                refine r_cont (Hp.le_refl _) (by repeat (first | exact Ent.nil _ | exact Ent.refl _ | (refine Ent.pick (by repeat (first | exact Pick.here | apply Pick.there)) ?_) | refine Ent.skip ?_)) ?_
                refine r_take (i := 10) (bs' := #[true, true, true, true, true, true, true, true, true, true, true, false, false]) rfl (by kernel_rfl) (by kernel_rfl) (by kernel_rfl) (fun _ _ _ h => h) rfl wn (q_nilCheck rfl) (Hp.le_refl _) (by repeat (first | exact Ent.nil _ | exact Ent.refl _ | (refine Ent.pick (by repeat (first | exact Pick.here | apply Pick.there)) ?_) | refine Ent.skip ?_)) (by kernel_rfl) ?_
                refine r_take (i := 11) (bs' := #[true, true, true, true, true, true, true, true, true, true, true, true, false]) rfl (by kernel_rfl) (by kernel_rfl) (by kernel_rfl) (fun _ _ _ h => h) rfl wn (by first | exact q_fieldp rfl fo_122_9 | exact q_fielde rfl fo_122_9 | exact q_fieldr rfl fo_122_9) (Hp.le_refl _) (by repeat (first | exact Ent.nil _ | exact Ent.refl _ | (refine Ent.pick (by repeat (first | exact Pick.here | apply Pick.there)) ?_) | refine Ent.skip ?_)) (by kernel_rfl) ?_
                refine r_one (i := 12) (bs' := #[true, true, true, true, true, true, true, true, true, true, true, true, true]) (by kernel_rfl) (by kernel_rfl) ?_
                refine o_step rfl (s_s0 wn (s_storep (ws := encRep r) (cs := encCli { c with on := false, over := true }) (cs' := encCli { c with on := false, over := true, last := r }) rfl rfl rfl sz_64 (oneRep _) (by simp [encCli, encAsk, encW, encRep]) rfl (by repeat (first | exact Pick.here | apply Pick.there))) ?_)
                rintro _ _ ⟨rfl, rfl⟩
                refine r_cont (Hp.le_refl _) (by repeat (first | exact Ent.nil _ | exact Ent.refl _ | (refine Ent.pick (by repeat (first | exact Pick.here | apply Pick.there)) ?_) | refine Ent.skip ?_)) ?_
                refine r_done (by kernel_rfl) ?_
                refine k_then_n ?_
                refine c_seq ?_
                refine c_region ?_
                refine l_step (s_q rfl wn (q_assign rfl) ?_)
                refine l_nil ?_
                refine k_then_n ?_
                refine c_ret ?_
                exact t_ret (CliM 3 122 b ({ c with on := false, over := true, last := r } : Cl)) rfl (.tmp rfl .nil) rfl (Hp.le_refl _) ⟨rfl, (by rw [hear_over (c := c) (r := r) ⟨by simpa using g1_5, Decidable.not_not.1 g1_14, Decidable.not_not.1 h0⟩ (by rintro (q | q | ⟨q, q2⟩); exact g3_3 q; exact g3_8 q; exact h1 q2)]; rfl), (by rw [hear_over (c := c) (r := r) ⟨by simpa using g1_5, Decidable.not_not.1 g1_14, Decidable.not_not.1 h0⟩ (by rintro (q | q | ⟨q, q2⟩); exact g3_3 q; exact g3_8 q; exact h1 q2)]; rfl)⟩ (by simp only [CliM, List.cons_append, List.nil_append]; exact (by repeat (first | exact Ent.nil _ | exact Ent.refl _ | (refine Ent.pick (by repeat (first | exact Pick.here | apply Pick.there)) ?_) | refine Ent.skip ?_)))
            · skip
              refine l_step (s_no rfl (wno rfl rfl (by decide)) ?_)
              refine l_step (s_no rfl (wno rfl rfl (by decide)) ?_)
              refine l_step (s_no rfl (wno rfl rfl (by decide)) ?_)
              refine l_step (s_no rfl (wno rfl rfl (by decide)) ?_)
              refine l_step (s_no rfl (wno rfl rfl (by decide)) ?_)
              refine l_step (s_no rfl (wno rfl rfl (by decide)) ?_)
              refine l_step (s_q rfl (wy rfl rfl rfl) (q_pick rfl rfl rfl) ?_)
              refine l_step (s_q rfl wn (q_pick rfl rfl rfl) ?_)
              refine l_nil ?_
              refine k_then_n ?_
              refine c_no rfl ?_
              refine c_skip ?_
              refine k_then_n ?_
              refine c_seq ?_
              refine c_draw (m := 13) (bs := #[false, false, false, false, false, false, false, false, false, false, false, false, false]) [.pts b3 (encRep r) 64] (by kernel_rfl) rfl (by kernel_rfl) ?_
              refine r_take (i := 0) (bs' := #[true, false, false, false, false, false, false, false, false, false, false, false, false]) rfl (by kernel_rfl) (by kernel_rfl) (by kernel_rfl) (fun _ _ _ h => h) rfl wn (q_move rfl) (Hp.le_refl _) (by repeat (first | exact Ent.nil _ | exact Ent.refl _ | (refine Ent.pick (by repeat (first | exact Pick.here | apply Pick.there)) ?_) | refine Ent.skip ?_)) (by kernel_rfl) ?_
              refine r_take (i := 1) (bs' := #[true, true, false, false, false, false, false, false, false, false, false, false, false]) rfl (by kernel_rfl) (by kernel_rfl) (by kernel_rfl) (fun _ _ _ h => h) rfl wn (q_move rfl) (Hp.le_refl _) (by repeat (first | exact Ent.nil _ | exact Ent.refl _ | (refine Ent.pick (by repeat (first | exact Pick.here | apply Pick.there)) ?_) | refine Ent.skip ?_)) (by kernel_rfl) ?_
              refine r_take (i := 2) (bs' := #[true, true, true, false, false, false, false, false, false, false, false, false, false]) rfl (by kernel_rfl) (by kernel_rfl) (by kernel_rfl) (fun _ _ _ h => h) rfl wn (q_move rfl) (Hp.le_refl _) (by repeat (first | exact Ent.nil _ | exact Ent.refl _ | (refine Ent.pick (by repeat (first | exact Pick.here | apply Pick.there)) ?_) | refine Ent.skip ?_)) (by kernel_rfl) ?_
              refine r_take (i := 3) (bs' := #[true, true, true, true, false, false, false, false, false, false, false, false, false]) rfl (by kernel_rfl) (by kernel_rfl) (by kernel_rfl) (fun _ _ _ h => h) rfl wn (q_loadpa (vs := encRep r) ag_64 rfl (by repeat (first | exact Pick.here | apply Pick.there)) rfl) (Hp.le_refl _) (by repeat (first | exact Ent.nil _ | exact Ent.refl _ | (refine Ent.pick (by repeat (first | exact Pick.here | apply Pick.there)) ?_) | refine Ent.skip ?_)) (by kernel_rfl) ?_
              refine r_take (i := 4) (bs' := #[true, true, true, true, true, false, false, false, false, false, false, false, false]) rfl (by kernel_rfl) (by kernel_rfl) (by kernel_rfl) (fun _ _ _ h => h) rfl wn (q_nilCheck rfl) (Hp.le_refl _) (by repeat (first | exact Ent.nil _ | exact Ent.refl _ | (refine Ent.pick (by repeat (first | exact Pick.here | apply Pick.there)) ?_) | refine Ent.skip ?_)) (by kernel_rfl) ?_
              refine r_take (i := 5) (bs' := #[true, true, true, true, true, true, false, false, false, false, false, false, false]) rfl (by kernel_rfl) (by kernel_rfl) (by kernel_rfl) (fun _ _ _ h => h) rfl wn (by first | exact q_fieldp rfl fo_122_6 | exact q_fielde rfl fo_122_6 | exact q_fieldr rfl fo_122_6) (Hp.le_refl _) (by repeat (first | exact Ent.nil _ | exact Ent.refl _ | (refine Ent.pick (by repeat (first | exact Pick.here | apply Pick.there)) ?_) | refine Ent.skip ?_)) (by kernel_rfl) ?_
              refine r_one (i := 6) (bs' := #[true, true, true, true, true, true, true, false, false, false, false, false, false]) (by kernel_rfl) (by kernel_rfl) ?_
              refine o_step rfl (s_s0 wn (s_storep (ws := [_]) (cs := encCli c) (cs' := encCli { c with on := false }) rfl rfl rfl sz_4 (by simp [Value.oneCell']) (by simp [encCli, encAsk, encW, encRep]) rfl (by repeat (first | exact Pick.here | apply Pick.there))) ?_)
              rintro _ _ ⟨rfl, rfl⟩
              refine r_cont (Hp.le_refl _) (by repeat (first | exact Ent.nil _ | exact Ent.refl _ | (refine Ent.pick (by repeat (first | exact Pick.here | apply Pick.there)) ?_) | refine Ent.skip ?_)) ?_
              refine r_take (i := 7) (bs' := #[true, true, true, true, true, true, true, true, false, false, false, false, false]) rfl (by kernel_rfl) (by kernel_rfl) (by kernel_rfl) (fun _ _ _ h => h) rfl wn (q_nilCheck rfl) (Hp.le_refl _) (by repeat (first | exact Ent.nil _ | exact Ent.refl _ | (refine Ent.pick (by repeat (first | exact Pick.here | apply Pick.there)) ?_) | refine Ent.skip ?_)) (by kernel_rfl) ?_
              refine r_take (i := 8) (bs' := #[true, true, true, true, true, true, true, true, true, false, false, false, false]) rfl (by kernel_rfl) (by kernel_rfl) (by kernel_rfl) (fun _ _ _ h => h) rfl wn (by first | exact q_fieldp rfl fo_122_10 | exact q_fielde rfl fo_122_10 | exact q_fieldr rfl fo_122_10) (Hp.le_refl _) (by repeat (first | exact Ent.nil _ | exact Ent.refl _ | (refine Ent.pick (by repeat (first | exact Pick.here | apply Pick.there)) ?_) | refine Ent.skip ?_)) (by kernel_rfl) ?_
              refine r_one (i := 9) (bs' := #[true, true, true, true, true, true, true, true, true, true, false, false, false]) (by kernel_rfl) (by kernel_rfl) ?_
              refine o_step rfl (s_s0 wn (s_storep (ws := [_]) (cs := encCli { c with on := false }) (cs' := encCli { c with on := false, over := true }) rfl rfl rfl sz_4 (by simp [Value.oneCell']) (by simp [encCli, encAsk, encW, encRep]) rfl (by repeat (first | exact Pick.here | apply Pick.there))) ?_)
              rintro _ _ ⟨rfl, rfl⟩
              refine r_cont (Hp.le_refl _) (by repeat (first | exact Ent.nil _ | exact Ent.refl _ | (refine Ent.pick (by repeat (first | exact Pick.here | apply Pick.there)) ?_) | refine Ent.skip ?_)) ?_
              refine r_take (i := 10) (bs' := #[true, true, true, true, true, true, true, true, true, true, true, false, false]) rfl (by kernel_rfl) (by kernel_rfl) (by kernel_rfl) (fun _ _ _ h => h) rfl wn (q_nilCheck rfl) (Hp.le_refl _) (by repeat (first | exact Ent.nil _ | exact Ent.refl _ | (refine Ent.pick (by repeat (first | exact Pick.here | apply Pick.there)) ?_) | refine Ent.skip ?_)) (by kernel_rfl) ?_
              refine r_take (i := 11) (bs' := #[true, true, true, true, true, true, true, true, true, true, true, true, false]) rfl (by kernel_rfl) (by kernel_rfl) (by kernel_rfl) (fun _ _ _ h => h) rfl wn (by first | exact q_fieldp rfl fo_122_9 | exact q_fielde rfl fo_122_9 | exact q_fieldr rfl fo_122_9) (Hp.le_refl _) (by repeat (first | exact Ent.nil _ | exact Ent.refl _ | (refine Ent.pick (by repeat (first | exact Pick.here | apply Pick.there)) ?_) | refine Ent.skip ?_)) (by kernel_rfl) ?_
              refine r_one (i := 12) (bs' := #[true, true, true, true, true, true, true, true, true, true, true, true, true]) (by kernel_rfl) (by kernel_rfl) ?_
              refine o_step rfl (s_s0 wn (s_storep (ws := encRep r) (cs := encCli { c with on := false, over := true }) (cs' := encCli { c with on := false, over := true, last := r }) rfl rfl rfl sz_64 (oneRep _) (by simp [encCli, encAsk, encW, encRep]) rfl (by repeat (first | exact Pick.here | apply Pick.there))) ?_)
              rintro _ _ ⟨rfl, rfl⟩
              refine r_cont (Hp.le_refl _) (by repeat (first | exact Ent.nil _ | exact Ent.refl _ | (refine Ent.pick (by repeat (first | exact Pick.here | apply Pick.there)) ?_) | refine Ent.skip ?_)) ?_
              refine r_done (by kernel_rfl) ?_
              refine k_then_n ?_
              refine c_seq ?_
              refine c_region ?_
              refine l_step (s_q rfl wn (q_assign rfl) ?_)
              refine l_nil ?_
              refine k_then_n ?_
              refine c_ret ?_
              exact t_ret (CliM 3 122 b ({ c with on := false, over := true, last := r } : Cl)) rfl (.tmp rfl .nil) rfl (Hp.le_refl _) ⟨rfl, (by rw [hear_over (c := c) (r := r) ⟨by simpa using g1_5, Decidable.not_not.1 g1_14, Decidable.not_not.1 h0⟩ (by rintro (q | q | ⟨q, q2⟩); exact g3_3 q; exact g3_8 q; exact g3_12 q)]; rfl), (by rw [hear_over (c := c) (r := r) ⟨by simpa using g1_5, Decidable.not_not.1 g1_14, Decidable.not_not.1 h0⟩ (by rintro (q | q | ⟨q, q2⟩); exact g3_3 q; exact g3_8 q; exact g3_12 q)]; rfl)⟩ (by simp only [CliM, List.cons_append, List.nil_append]; exact (by repeat (first | exact Ent.nil _ | exact Ent.refl _ | (refine Ent.pick (by repeat (first | exact Pick.here | apply Pick.there)) ?_) | refine Ent.skip ?_)))

theorem Hear_spec (b : Nat) (c : Cl) (ok : CliOk c) (a : Option Addr) (cap : Nat) (xs : List RepV) (hl : xs.length ≤ 1000000000) (ρ : Hp) (Γ : List Asn) (rd : Rd ρ Γ 13 a xs.length cap (xs.flatMap encRep)) : Spec0 Try.prog 27 #[.pointer (some ⟨b, 0, none⟩), .slice a xs.length cap] ρ ((CliM 3 122 b c) ++ Γ) (fun v Γ' => v = .int .i64 ((hearN c xs).2 : Int) ∧ Γ' = (CliM 3 122 b (hearN c xs).1) ++ Γ) := by
  refine spec_of (n := 21) (vs := [_, _]) (σ := [(0, _), (1, _)]) Try.func27 rfl rfl rfl rfl fun E Δ => ?_
  simp only [CliM, List.cons_append, List.nil_append]
  have rd2 := rd_up rd (Ent.app Γ Δ)
  refine c_seq ?_
  refine c_region ?_
  refine l_step (s_q rfl wn (q_assign rfl) ?_)
  refine l_nil ?_
  refine k_then_n ?_
  refine c_seq ?_
  refine c_region ?_
  refine l_step (s_q rfl wn (q_assign rfl) ?_)
  refine l_nil ?_
  refine k_then_n ?_
  refine c_seq ?_
  refine c_seq ?_
  refine c_region ?_
  refine l_step (s_q rfl wn (q_move rfl) ?_)
  refine l_step (s_q rfl wn (q_len Try.underlying58 rfl) ?_)
  refine l_step (s_q rfl wn (q_move rfl) ?_)
  refine l_nil ?_
  refine k_then_n ?_
  refine c_block ?_
  refine t_loop (ι := Nat) (fun k => k ≤ xs.length) (fun k => xs.length - k) (fun k => [(0, .pointer (some ⟨b, 0, none⟩)), (5, .int .i64 ((hearN c (xs.take k)).2 : Int)), (8, .slice a xs.length cap), (9, .int .i64 (xs.length : Int)), (10, .int .i64 (k : Int))]) (fun k => (CliM 3 122 b (hearN c (xs.take k)).1) ++ (Γ ++ Δ)) 0 (Nat.zero_le _) ?_ ?_ ?_
  · exact .cons rfl (by first | rfl | (simp; done) | simp [*]) (.cons rfl (by first | rfl | (simp; done) | simp [*]) (.cons rfl (by first | rfl | (simp; done) | simp [*]) (.cons rfl (by first | rfl | (simp; done) | simp [*]) (.cons rfl (by first | rfl | (simp; done) | simp [*]) (.nil _)))))
  · exact Ent.refl _
  intro k hk
  obtain ⟨ok', hn'⟩ := hearN_ok ok xs k hk
  simp only [CliM, List.cons_append, List.nil_append]
  refine c_seq ?_
  refine c_region ?_
  refine l_step (s_q rfl wn (q_lss rfl rfl) ?_)
  refine l_nil ?_
  refine k_then_n ?_
  refine c_seq ?_
  first | refine c_if rfl (fun h0 => ?_) (fun h0 => ?_) | refine c_cond rfl (fun h0 => ?_) (fun h0 => ?_)
  · skip
    have hk2 : k < xs.length := by omega
    refine c_skip ?_
    refine k_then_n ?_
    refine c_seq ?_
    refine c_block ?_
    refine c_seq ?_
    refine c_region ?_
    refine l_step (s_q rfl wn (q_indexe k Try.underlying58 sz_64 rfl rfl (rd_up rd2 (by (repeat refine Ent.skip ?_); exact Ent.refl _)) (by decide) rfl hk2) ?_)
    refine l_step (s_q rfl wn (q_loadea (vs := encRep (xs.getD k default)) ag_64 rfl (rd_up rd2 (by (repeat refine Ent.skip ?_); exact Ent.refl _)) (fun _ => rfl) hk2 (by simp [encRep]) (by simp [encRep]) rfl) ?_)
    refine l_step (s_s rfl wn (s_allocz zc_64) ?_)
    rintro _ _ ⟨b7, rfl, rfl⟩
    refine l_step (s_s0 wn (s_storep (ws := encRep (xs.getD k default)) (cs := encRep repZ) (cs' := encRep (xs.getD k default)) rfl rfl rfl sz_64 (oneRep _) (by simp [encCli, encAsk, encW, encRep]) rfl (by repeat (first | exact Pick.here | apply Pick.there))) ?_)
    rintro _ _ ⟨rfl, rfl⟩
    refine l_nil ?_
    refine k_then_n ?_
    refine c_seq ?_
    refine c_region ?_
    refine l_step (s_q rfl wn (q_move rfl) ?_)
    refine l_step (s_q rfl wn (q_loadpa (vs := encRep (xs.getD k default)) ag_64 rfl (by repeat (first | exact Pick.here | apply Pick.there)) rfl) ?_)
    refine l_step (s_fn rfl wn Try.func59 rfl (by kernel_rfl) rfl (hear_spec b _ _ ok' ρ) (by repeat (first | exact Sel.nil | exact Pick.here | apply Sel.cons | apply Pick.there)) ?_)
    rintro _ _ _ - ⟨rfl, rfl, rfl⟩
    try simp only [CliM, List.cons_append, List.nil_append, List.append_nil]
    refine l_nil ?_
    refine k_then_n ?_
    first | refine c_if rfl (fun h1 => ?_) (fun h1 => ?_) | refine c_cond rfl (fun h1 => ?_) (fun h1 => ?_)
    · skip
      refine c_region ?_
      refine l_step (s_q rfl wn (q_move rfl) ?_)
      refine l_step (s_q rfl wn (by first | exact q_add rfl rfl (by omega) (by omega) | exact q_addw rfl rfl) ?_)
      refine l_step (s_q rfl wn (q_assign rfl) ?_)
      refine l_nil ?_
      refine k_blk_n ?_
      refine k_then_n ?_
      refine c_region ?_
      refine l_step (s_q rfl wn (by first | exact q_add rfl rfl (by omega) (by omega) | exact q_addw rfl rfl) ?_)
      refine l_step (s_q rfl wn (q_move rfl) ?_)
      refine l_nil ?_
      refine k_then_n ?_
      exact t_next (k + 1) (by omega) (.cons rfl (by first | rfl | (simp; done) | simp [*]) (.cons rfl (inte (by rw [hearN_succ c xs k hk2]; simp only [h1]; rfl)) (.cons rfl (by first | rfl | (simp; done) | simp [*]) (.cons rfl (by first | rfl | (simp; done) | simp [*]) (.cons rfl (by first | rfl | (simp; done) | simp [*]) (.nil _)))))) (by rw [hearN_succ c xs k hk2]; simp only [CliM, List.cons_append, List.nil_append]; exact (by repeat (first | exact Ent.nil _ | exact Ent.refl _ | (refine Ent.pick (by repeat (first | exact Pick.here | apply Pick.there)) ?_) | refine Ent.skip ?_)))
    · skip
      refine c_skip ?_
      refine k_blk_n ?_
      refine k_then_n ?_
      refine c_region ?_
      refine l_step (s_q rfl wn (by first | exact q_add rfl rfl (by omega) (by omega) | exact q_addw rfl rfl) ?_)
      refine l_step (s_q rfl wn (q_move rfl) ?_)
      refine l_nil ?_
      refine k_then_n ?_
      exact t_next (k + 1) (by omega) (.cons rfl (by first | rfl | (simp; done) | simp [*]) (.cons rfl (inte (by rw [hearN_succ c xs k hk2]; simp only [h1]; rfl)) (.cons rfl (by first | rfl | (simp; done) | simp [*]) (.cons rfl (by first | rfl | (simp; done) | simp [*]) (.cons rfl (by first | rfl | (simp; done) | simp [*]) (.nil _)))))) (by rw [hearN_succ c xs k hk2]; simp only [CliM, List.cons_append, List.nil_append]; exact (by repeat (first | exact Ent.nil _ | exact Ent.refl _ | (refine Ent.pick (by repeat (first | exact Pick.here | apply Pick.there)) ?_) | refine Ent.skip ?_)))
  · skip
    have hk3 : k = xs.length := by omega
    rw [hk3, List.take_length]
    refine c_exit ?_
    refine k_then_x ?_
    refine k_then_x ?_
    refine k_blk_x ?_
    refine k_then_n ?_
    refine c_seq ?_
    refine c_region ?_
    refine l_step (s_q rfl wn (q_move rfl) ?_)
    refine l_step (s_q rfl wn (q_assign rfl) ?_)
    refine l_nil ?_
    refine k_then_n ?_
    refine c_ret ?_
    exact t_ret ((CliM 3 122 b (hearN c xs).1) ++ Γ) rfl (.tmp rfl .nil) rfl (Hp.le_refl _) ⟨rfl, rfl, rfl⟩ (by simp only [CliM, List.cons_append, List.nil_append]; exact (by repeat (first | exact Ent.nil _ | exact Ent.refl _ | (refine Ent.pick (by repeat (first | exact Pick.here | apply Pick.there)) ?_) | refine Ent.skip ?_)))
end Go.Cli

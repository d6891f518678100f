/-
  The reference's client and the bytes of plans, walked.
-/
import Derived.Test.YtppngeebdmbeaaaCliW
import Derived.Test.YtppngeebdmbeaaaCliR
set_option maxRecDepth 100000
set_option maxHeartbeats 4000000
set_option linter.unusedSimpArgs false
set_option linter.unusedVariables false
namespace Go.CliX
open Go Go.SL Go.Proofs Go.Cli
attribute [local irreducible] Go.SL.Ent Go.Cli.AskMem Go.Cli.OwMem
theorem ag_48 : aggSize Try.prog 48 = some 3 := by kernel_rfl
theorem ag_52 : aggSize Try.prog 52 = some 2 := by kernel_rfl
theorem ag_54 : aggSize Try.prog 54 = some 12 := by kernel_rfl
theorem ag_64 : aggSize Try.prog 64 = some 13 := by kernel_rfl
theorem eo_130 : elemOk Try.prog 130 5 40 = true := by kernel_rfl
theorem eo_4 : elemOk Try.prog 4 1 1 = true := by kernel_rfl
theorem eo_5 : elemOk Try.prog 5 1 1 = true := by kernel_rfl
theorem fo_122_2 : fieldOff Try.prog 122 2 = some (2, 40) := by kernel_rfl
theorem fo_122_3 : fieldOff Try.prog 122 3 = some (3, 3) := by kernel_rfl
theorem fo_125_0 : fieldOff Try.prog 125 0 = some (0, 40) := by kernel_rfl
theorem fo_125_1 : fieldOff Try.prog 125 1 = some (1, 40) := by kernel_rfl
theorem fo_125_2 : fieldOff Try.prog 125 2 = some (2, 3) := by kernel_rfl
theorem fo_48_0 : fieldOff Try.prog 48 0 = some (0, 3) := by kernel_rfl
theorem fo_48_1 : fieldOff Try.prog 48 1 = some (1, 3) := by kernel_rfl
theorem fo_48_2 : fieldOff Try.prog 48 2 = some (2, 46) := by kernel_rfl
theorem fo_50_0 : fieldOff Try.prog 50 0 = some (0, 3) := by kernel_rfl
theorem fo_50_1 : fieldOff Try.prog 50 1 = some (1, 3) := by kernel_rfl
theorem fo_50_2 : fieldOff Try.prog 50 2 = some (2, 3) := by kernel_rfl
theorem fo_50_3 : fieldOff Try.prog 50 3 = some (3, 4) := by kernel_rfl
theorem fo_50_4 : fieldOff Try.prog 50 4 = some (4, 48) := by kernel_rfl
theorem fo_54_0 : fieldOff Try.prog 54 0 = some (0, 3) := by kernel_rfl
theorem fo_54_1 : fieldOff Try.prog 54 1 = some (1, 3) := by kernel_rfl
theorem fo_54_2 : fieldOff Try.prog 54 2 = some (2, 3) := by kernel_rfl
theorem fo_54_3 : fieldOff Try.prog 54 3 = some (3, 50) := by kernel_rfl
theorem fo_54_4 : fieldOff Try.prog 54 4 = some (10, 52) := by kernel_rfl
theorem fo_64_0 : fieldOff Try.prog 64 0 = some (0, 3) := by kernel_rfl
theorem fo_64_1 : fieldOff Try.prog 64 1 = some (1, 3) := by kernel_rfl
theorem fo_64_2 : fieldOff Try.prog 64 2 = some (2, 33) := by kernel_rfl
theorem fo_64_3 : fieldOff Try.prog 64 3 = some (3, 3) := by kernel_rfl
theorem fo_74_0 : fieldOff Try.prog 74 0 = some (0, 3) := by kernel_rfl
theorem fo_74_1 : fieldOff Try.prog 74 1 = some (1, 3) := by kernel_rfl
theorem fo_74_2 : fieldOff Try.prog 74 2 = some (2, 3) := by kernel_rfl
theorem fo_74_3 : fieldOff Try.prog 74 3 = some (3, 3) := by kernel_rfl
theorem fo_74_4 : fieldOff Try.prog 74 4 = some (4, 3) := by kernel_rfl
theorem fo_74_5 : fieldOff Try.prog 74 5 = some (5, 40) := by kernel_rfl
theorem fo_74_6 : fieldOff Try.prog 74 6 = some (6, 4) := by kernel_rfl
theorem fo_74_7 : fieldOff Try.prog 74 7 = some (7, 4) := by kernel_rfl
theorem fo_74_8 : fieldOff Try.prog 74 8 = some (8, 54) := by kernel_rfl
theorem fo_74_9 : fieldOff Try.prog 74 9 = some (20, 64) := by kernel_rfl
theorem sc_3 : isScalar Try.prog 3 = true := by kernel_rfl
theorem sc_33 : isScalar Try.prog 33 = true := by kernel_rfl
theorem sc_4 : isScalar Try.prog 4 = true := by kernel_rfl
theorem sc_40 : isScalar Try.prog 40 = true := by kernel_rfl
theorem sc_46 : isScalar Try.prog 46 = true := by kernel_rfl
theorem sc_5 : isScalar Try.prog 5 = true := by kernel_rfl
theorem sz_125 : sizeIs Try.prog 125 = some 3 := by kernel_rfl
theorem sz_3 : sizeIs Try.prog 3 = some 1 := by kernel_rfl
theorem sz_4 : sizeIs Try.prog 4 = some 1 := by kernel_rfl
theorem sz_5 : sizeIs Try.prog 5 = some 1 := by kernel_rfl
theorem sz_54 : sizeIs Try.prog 54 = some 12 := by kernel_rfl
theorem sz_64 : sizeIs Try.prog 64 = some 13 := by kernel_rfl

theorem number_spec (n : Nat) (hn : n < 18446744073709551616) (ρ : Hp) : Spec0 Try.prog 77 #[.int .u64 (n : Int)] ρ [] (fun v Γ' => ∃ a c, v = .slice a (numB n).length c ∧ Γ' = [.row 5 1 a (numB n).length c ((numB n).flatMap encB)]) := by
  refine spec_of (n := 35) (vs := [_]) (σ := [(0, _)]) Try.func77 rfl rfl rfl rfl fun E Δ => ?_
  rw [List.nil_append]
  refine c_seq ?_
  refine c_region ?_
  refine l_step (s_q rfl wn (q_assign rfl) ?_)
  refine l_nil ?_
  refine k_then_n ?_
  refine c_seq ?_
  refine c_region ?_
  refine l_step (s_q rfl wn (q_assign rfl) ?_)
  refine l_nil ?_
  refine k_then_n ?_
  refine c_seq ?_
  refine c_block ?_
  refine t_loop (ι := NuS) (fun x => LoJ n x.s) (fun x => x.s.n) (fun x => [(0, .int .u64 (x.s.n : Int)), (3, .slice x.a x.s.low.length x.cap)]) (fun x => .row 5 1 x.a x.s.low.length x.cap (x.s.low.flatMap encB) :: Δ) ⟨⟨n, []⟩, none, 0⟩ ⟨by simp, by simp, by simpa using hn⟩ ?_ ?_ ?_
  · exact .cons rfl (by first | rfl | (simp; done) | simp [*]) (.cons rfl (by first | rfl | (simp; done) | simp [*]) (.nil _))
  · exact Ent.nilrow _ _ _
  intro x hx
  have hlt := lo_lt hx
  have hl8 := hx.2.1
  refine c_seq ?_
  refine c_seq ?_
  refine c_region ?_
  refine l_step (s_q rfl wn (q_move rfl) ?_)
  refine l_step (s_q rfl wn (q_gtr rfl rfl) ?_)
  refine l_nil ?_
  refine k_then_n ?_
  first | refine c_if rfl (fun h0 => ?_) (fun h0 => ?_) | refine c_cond rfl (fun h0 => ?_) (fun h0 => ?_)
  · skip
    refine c_skip ?_
    refine k_then_n ?_
    refine c_block ?_
    refine c_seq ?_
    refine c_region ?_
    refine l_step (s_q rfl wn (q_move rfl) ?_)
    refine l_step (s_q rfl wn (q_move rfl) ?_)
    refine l_step (s_q rfl wn (by first | exact q_remp rfl rfl (by omega) (by omega) | exact q_rem rfl rfl (by omega)) ?_)
    refine l_step (s_q rfl wn (by first | exact q_conv rfl Try.underlying112 Try.underlying5 (by assumption) | exact q_conv rfl Try.underlying112 Try.underlying5 (wrap_u8 (by omega) (by omega)) | exact q_convw rfl Try.underlying112 Try.underlying5) ?_)
    refine Tr.env (.cons (t := 11) (v := .int .u8 ((UInt8.ofNat (x.s.n % 256)).toNat : Int)) rfl (inte (byte_of _)) (EnvLe.refl _)) ?_
    refine l_step (s_s rfl wn (s_buildSlice Try.underlying22 eo_5 rfl rfl rfl rfl (by decide) (by decide)) ?_)
    rintro _ _ ⟨b12, rfl, rfl⟩
    refine l_step (s_s rfl wn (s_appende (enc := encB) (xs := x.s.low) (ys := [UInt8.ofNat (x.s.n % 256)]) (Γ' := fun a' cap' => _) Try.underlying22 eo_5 (by decide) rfl rfl (rd_row (by repeat (first | exact Pick.here | apply Pick.there))) (oneB _) (by first | omega | (rw [List.length_append]; omega) | (rw [List.length_append, List.length_append]; omega) | (simp <;> omega)) (by first | omega | (rw [List.length_append]; omega) | (rw [List.length_append, List.length_append]; omega) | (simp <;> omega)) (fun _ _ => (by repeat (first | exact Pick.here | apply Pick.there)))) ?_)
    rintro _ _ ⟨a13, c13, rfl, rfl⟩
    refine l_step (s_q rfl wn (q_assign rfl) ?_)
    refine l_nil ?_
    refine k_then_n ?_
    refine c_region ?_
    refine l_step (s_q rfl wn (q_move rfl) ?_)
    refine l_step (s_q rfl wn (q_quou rfl rfl (by omega) (by omega) (by omega)) ?_)
    refine l_step (s_q rfl wn (q_assign rfl) ?_)
    refine l_nil ?_
    refine k_blk_n ?_
    refine k_then_n ?_
    exact t_next ⟨⟨x.s.n / 256, x.s.low ++ [UInt8.ofNat (x.s.n % 256)]⟩, a13, c13⟩ ⟨(loJ_next hx (by omega)).1, by simp only []; omega⟩ (.cons rfl (inte (by simp only []; omega)) (.cons rfl (by first | rfl | (simp; done) | simp [*]) (.nil _))) (by repeat (first | exact Ent.nil _ | exact Ent.refl _ | (refine Ent.pick (by repeat (first | exact Pick.here | apply Pick.there)) ?_) | refine Ent.skip ?_))
  · skip
    have h0n : x.s.n = 0 := by omega
    have hL : x.s.low = lowB n := by have := hx.1; rw [h0n, lowB_zero, List.append_nil] at this; exact this
    rw [hL]
    have hl := lowB_len hn
    refine c_exit ?_
    refine k_then_x ?_
    refine k_then_x ?_
    refine k_blk_x ?_
    refine k_then_n ?_
    refine c_seq ?_
    refine c_region ?_
    refine l_step (s_q rfl wn (q_move rfl) ?_)
    refine l_step (s_q rfl wn (q_len Try.underlying22 rfl) ?_)
    refine l_step (s_q rfl wn (by first | exact q_conv rfl Try.underlying3 Try.underlying5 (by assumption) | exact q_conv rfl Try.underlying3 Try.underlying5 (wrap_u8 (by omega) (by omega)) | exact q_convw rfl Try.underlying3 Try.underlying5) ?_)
    refine Tr.env (.cons (t := 18) (v := .int .u8 ((UInt8.ofNat (lowB n).length).toNat : Int)) rfl (inte (byte_le (by omega))) (EnvLe.refl _)) ?_
    refine l_step (s_s rfl wn (s_buildSlice Try.underlying22 eo_5 rfl rfl rfl rfl (by decide) (by decide)) ?_)
    rintro _ _ ⟨b19, rfl, rfl⟩
    refine l_step (s_q rfl wn (q_assign rfl) ?_)
    refine l_nil ?_
    refine k_then_n ?_
    refine c_seq ?_
    refine c_seq ?_
    refine c_region ?_
    refine l_step (s_q rfl wn (q_move rfl) ?_)
    refine l_step (s_q rfl wn (q_len Try.underlying22 rfl) ?_)
    refine l_step (s_q rfl wn (by first | exact q_sub rfl rfl (by omega) (by omega) | exact q_subw rfl rfl) ?_)
    refine l_step (s_q rfl wn (q_assign rfl) ?_)
    refine l_nil ?_
    refine k_then_n ?_
    refine c_block ?_
    refine t_loop (ι := Nu2) (fun y => y.j ≤ (lowB n).length) (fun y => (lowB n).length - y.j) (fun y => [(3, .slice x.a (lowB n).length x.cap), (4, .slice y.a (UInt8.ofNat (lowB n).length :: (lowB n).reverse.take y.j).length y.cap), (5, .int .i64 (((lowB n).length : Int) - 1 - y.j))]) (fun y => .row 5 1 x.a (lowB n).length x.cap ((lowB n).flatMap encB) :: .row 5 1 y.a (UInt8.ofNat (lowB n).length :: (lowB n).reverse.take y.j).length y.cap ((UInt8.ofNat (lowB n).length :: (lowB n).reverse.take y.j).flatMap encB) :: Δ) ⟨0, some ⟨b19, 0, none⟩, 1⟩ (Nat.zero_le _) ?_ ?_ ?_
    · exact .cons rfl (by first | rfl | (simp; done) | simp [*]) (.cons rfl (by first | rfl | (simp; done) | simp [*]) (.cons rfl (inte (by simp)) (.nil _)))
    · exact (by repeat (first | exact Ent.nil _ | exact Ent.refl _ | (refine Ent.pick (by repeat (first | exact Pick.here | apply Pick.there)) ?_) | refine Ent.skip ?_))
    intro y hy
    refine c_seq ?_
    refine c_seq ?_
    refine c_region ?_
    refine l_step (s_q rfl wn (q_move rfl) ?_)
    refine l_step (s_q rfl wn (q_geq rfl rfl) ?_)
    refine l_nil ?_
    refine k_then_n ?_
    first | refine c_if rfl (fun h1 => ?_) (fun h1 => ?_) | refine c_cond rfl (fun h1 => ?_) (fun h1 => ?_)
    · skip
      have hj2 : y.j < (lowB n).length := by omega
      refine c_skip ?_
      refine k_then_n ?_
      refine c_seq ?_
      refine c_block ?_
      refine c_region ?_
      refine l_step (s_q rfl wn (q_move rfl) ?_)
      refine l_step (s_q rfl wn (q_move rfl) ?_)
      refine l_step (s_q rfl wn (q_move rfl) ?_)
      refine l_step (s_q rfl wn (q_indexe ((lowB n).length - 1 - y.j) Try.underlying22 sz_5 rfl rfl (rd_row (by repeat (first | exact Pick.here | apply Pick.there))) (by decide) (by omega) (by omega)) ?_)
      refine l_step (s_q rfl wn (by first | exact q_loadp sc_5 rfl (by repeat (first | exact Pick.here | apply Pick.there)) rfl | exact q_loade sc_5 rfl (by first | assumption | exact rd_ro (by assumption) | exact rd_row (by repeat (first | exact Pick.here | apply Pick.there))) (fun _ => rfl) (by first | assumption | omega) (by decide) rfl) ?_)
      refine l_step (s_s rfl wn (s_buildSlice Try.underlying22 eo_5 rfl rfl rfl rfl (by decide) (by decide)) ?_)
      rintro _ _ ⟨b32, rfl, rfl⟩
      refine l_step (s_s rfl wn (s_appende (enc := encB) (xs := (UInt8.ofNat (lowB n).length :: (lowB n).reverse.take y.j)) (ys := [(lowB n).getD ((lowB n).length - 1 - y.j) default]) (Γ' := fun a' cap' => _) Try.underlying22 eo_5 (by decide) rfl rfl (rd_row (by repeat (first | exact Pick.here | apply Pick.there))) (oneB _) (by first | omega | (rw [List.length_append]; omega) | (rw [List.length_append, List.length_append]; omega) | (simp <;> omega)) (by first | omega | (rw [List.length_append]; omega) | (rw [List.length_append, List.length_append]; omega) | (simp <;> omega)) (fun _ _ => (by repeat (first | exact Pick.here | apply Pick.there)))) ?_)
      rintro _ _ ⟨a33, c33, rfl, rfl⟩
      refine l_step (s_q rfl wn (q_assign rfl) ?_)
      refine l_nil ?_
      refine k_blk_n ?_
      refine k_then_n ?_
      refine c_region ?_
      refine l_step (s_q rfl wn (q_move rfl) ?_)
      refine l_step (s_q rfl wn (by first | exact q_sub rfl rfl (by omega) (by omega) | exact q_subw rfl rfl) ?_)
      refine l_step (s_q rfl wn (q_assign rfl) ?_)
      refine l_nil ?_
      refine k_then_n ?_
      exact t_next ⟨y.j + 1, a33, c33⟩ ⟨by simp only []; omega, by simp only []; omega⟩ (.cons rfl (by first | rfl | (simp; done) | simp [*]) (.cons rfl (by rw [num_next hj2]) (.cons rfl (inte (by simp only []; omega)) (.nil _)))) (by simp only []; rw [← num_next hj2]; exact (by repeat (first | exact Ent.nil _ | exact Ent.refl _ | (refine Ent.pick (by repeat (first | exact Pick.here | apply Pick.there)) ?_) | refine Ent.skip ?_)))
    · skip
      have hj3 : y.j = (lowB n).length := by omega
      have hO : (UInt8.ofNat (lowB n).length :: (lowB n).reverse.take y.j) = numB n := by rw [hj3, List.take_of_length_le (by simp)]; rfl
      rw [hO]
      refine c_exit ?_
      refine k_then_x ?_
      refine k_then_x ?_
      refine k_blk_x ?_
      refine k_then_n ?_
      refine c_seq ?_
      refine c_region ?_
      refine l_step (s_q rfl wn (q_move rfl) ?_)
      refine l_step (s_q rfl wn (q_assign rfl) ?_)
      refine l_nil ?_
      refine k_then_n ?_
      refine c_ret ?_
      exact t_ret [_] rfl (.tmp rfl .nil) rfl (Hp.le_refl _) ⟨rfl, _, _, rfl, rfl⟩ (by repeat (first | exact Ent.nil _ | exact Ent.refl _ | (refine Ent.pick (by repeat (first | exact Pick.here | apply Pick.there)) ?_) | refine Ent.skip ?_))

theorem list_spec (s : SL Int) (hl : s.xs.length ≤ 100000) (ρ : Hp) (Γ : List Asn) (rd : Rd ρ Γ 1 s.a s.xs.length s.cap (s.xs.flatMap encI)) : Spec0 Try.prog 78 #[.slice s.a s.xs.length s.cap] ρ Γ (fun v Γ' => ∃ a c, v = .slice a (listB s.xs).length c ∧ Γ' = .row 5 1 a (listB s.xs).length c ((listB s.xs).flatMap encB) :: Γ) := by
  refine spec_of (n := 24) (vs := [_]) (σ := [(0, _)]) Try.func78 rfl rfl rfl rfl fun E Δ => ?_
  refine c_seq ?_
  refine c_region ?_
  refine l_step (s_q rfl wn (q_assign rfl) ?_)
  refine l_nil ?_
  refine k_then_n ?_
  refine c_seq ?_
  refine c_region ?_
  refine l_step (s_q rfl wn (q_move rfl) ?_)
  refine l_step (s_q rfl wn (q_len Try.underlying40 rfl) ?_)
  refine l_step (s_q rfl wn (by first | exact q_conv rfl Try.underlying3 Try.underlying112 (by assumption) | exact q_conv rfl Try.underlying3 Try.underlying112 (wrap_u64 (by omega) (by omega)) | exact q_convw rfl Try.underlying3 Try.underlying112) ?_)
  refine l_step (s_fn rfl wn Try.func77 rfl (by kernel_rfl) rfl (number_spec s.xs.length (by omega) ρ) Sel.nil ?_)
  rintro _ _ _ - ⟨rfl, a8, c8, rfl, rfl⟩
  try simp only [List.cons_append, List.nil_append]
  refine l_step (s_q rfl wn (q_assign rfl) ?_)
  refine l_nil ?_
  refine k_then_n ?_
  refine c_seq ?_
  refine c_seq ?_
  refine c_region ?_
  refine l_step (s_q rfl wn (q_assign rfl) ?_)
  refine l_nil ?_
  refine k_then_n ?_
  refine c_block ?_
  refine t_loop (ι := Nu2) (fun y => y.j ≤ s.xs.length) (fun y => s.xs.length - y.j) (fun y => [(0, .slice s.a s.xs.length s.cap), (3, .slice y.a (numB s.xs.length ++ (s.xs.take y.j).flatMap fun z => numB (u64 z)).length y.cap), (4, .int .i64 (y.j : Int))]) (fun y => .row 5 1 y.a (numB s.xs.length ++ (s.xs.take y.j).flatMap fun z => numB (u64 z)).length y.cap ((numB s.xs.length ++ (s.xs.take y.j).flatMap fun z => numB (u64 z)).flatMap encB) :: (Γ ++ Δ)) ⟨0, a8, c8⟩ (Nat.zero_le _) ?_ ?_ ?_
  · exact .cons rfl (by first | rfl | (simp; done) | simp [*]) (.cons rfl (by simp) (.cons rfl (by first | rfl | (simp; done) | simp [*]) (.nil _)))
  · simp only [List.take_zero, List.flatMap_nil, List.append_nil]; exact Ent.refl _
  intro y hy
  have hOL := out_len (n := s.xs.length) (j := y.j) (l := s.xs) (by omega) (by omega)
  refine c_seq ?_
  refine c_seq ?_
  refine c_region ?_
  refine l_step (s_q rfl wn (q_move rfl) ?_)
  refine l_step (s_q rfl wn (q_move rfl) ?_)
  refine l_step (s_q rfl wn (q_len Try.underlying40 rfl) ?_)
  refine l_step (s_q rfl wn (q_lss rfl rfl) ?_)
  refine l_nil ?_
  refine k_then_n ?_
  first | refine c_if rfl (fun h0 => ?_) (fun h0 => ?_) | refine c_cond rfl (fun h0 => ?_) (fun h0 => ?_)
  · skip
    have hj2 : y.j < s.xs.length := by omega
    have hz := numB_len (u64_eq (s.xs.getD y.j default)).2
    have hnx : (numB s.xs.length ++ (s.xs.take (y.j + 1)).flatMap fun z => numB (u64 z)) = (numB s.xs.length ++ (s.xs.take y.j).flatMap fun z => numB (u64 z)) ++ numB (u64 (s.xs.getD y.j default)) := by rw [flat_take_succ _ _ _ hj2, List.append_assoc]
    refine c_skip ?_
    refine k_then_n ?_
    refine c_seq ?_
    refine c_block ?_
    refine c_region ?_
    refine l_step (s_q rfl wn (q_move rfl) ?_)
    refine l_step (s_q rfl wn (q_move rfl) ?_)
    refine l_step (s_q rfl wn (q_move rfl) ?_)
    refine l_step (s_q rfl wn (q_indexe y.j Try.underlying40 sz_3 rfl rfl (rd_up rd (by (repeat refine Ent.skip ?_); exact Ent.app _ _)) (by decide) rfl hj2) ?_)
    refine l_step (s_q rfl wn (q_loade (enc := encI) (xs := s.xs) sc_3 rfl (rd_up rd (by (repeat refine Ent.skip ?_); exact Ent.app _ _)) (fun _ => rfl) hj2 (by decide) rfl) ?_)
    refine l_step (s_q rfl wn (q_convw rfl Try.underlying3 Try.underlying112) ?_)
    refine Tr.env (.cons (t := 20) (v := .int .u64 (u64 (s.xs.getD y.j default) : Int)) rfl (inte (u64_eq _).1) (EnvLe.refl _)) ?_
    refine l_step (s_fn rfl wn Try.func77 rfl (by kernel_rfl) rfl (number_spec (u64 (s.xs.getD y.j default)) (u64_eq _).2 ρ) Sel.nil ?_)
    rintro _ _ _ - ⟨rfl, a21, c21, rfl, rfl⟩
    try simp only [List.cons_append, List.nil_append]
    refine l_step (s_s rfl wn (s_appende (enc := encB) (xs := (numB s.xs.length ++ (s.xs.take y.j).flatMap fun z => numB (u64 z))) (ys := (numB (u64 (s.xs.getD y.j default)))) (Γ' := fun a' cap' => _) Try.underlying22 eo_5 (by decide) rfl rfl (rd_row (by repeat (first | exact Pick.here | apply Pick.there))) (oneB _) (by first | omega | (rw [List.length_append]; omega) | (rw [List.length_append, List.length_append]; omega) | (simp <;> omega)) (by first | omega | (rw [List.length_append]; omega) | (rw [List.length_append, List.length_append]; omega) | (simp <;> omega)) (fun _ _ => (by repeat (first | exact Pick.here | apply Pick.there)))) ?_)
    rintro _ _ ⟨a22, c22, rfl, rfl⟩
    refine l_step (s_q rfl wn (q_assign rfl) ?_)
    refine l_nil ?_
    refine k_blk_n ?_
    refine k_then_n ?_
    refine c_region ?_
    refine l_step (s_q rfl wn (q_move rfl) ?_)
    refine l_step (s_q rfl wn (by first | exact q_add rfl rfl (by omega) (by omega) | exact q_addw rfl rfl) ?_)
    refine l_step (s_q rfl wn (q_assign rfl) ?_)
    refine l_nil ?_
    refine k_then_n ?_
    exact t_next ⟨y.j + 1, a22, c22⟩ ⟨by simp only []; omega, by simp only []; omega⟩ (.cons rfl (by first | rfl | (simp; done) | simp [*]) (.cons rfl (by simp only []; rw [hnx]) (.cons rfl (by first | rfl | (simp; done) | simp [*]) (.nil _)))) (by simp only []; rw [hnx]; exact (by repeat (first | exact Ent.nil _ | exact Ent.refl _ | (refine Ent.pick (by repeat (first | exact Pick.here | apply Pick.there)) ?_) | refine Ent.skip ?_)))
  · skip
    have hj3 : y.j = s.xs.length := by omega
    rw [hj3, List.take_length]
    refine c_exit ?_
    refine k_then_x ?_
    refine k_then_x ?_
    refine k_blk_x ?_
    refine k_then_n ?_
    refine c_seq ?_
    refine c_region ?_
    refine l_step (s_q rfl wn (q_move rfl) ?_)
    refine l_step (s_q rfl wn (q_assign rfl) ?_)
    refine l_nil ?_
    refine k_then_n ?_
    refine c_ret ?_
    exact t_ret (.row 5 1 y.a (listB s.xs).length y.cap ((listB s.xs).flatMap encB) :: Γ) rfl (.tmp rfl .nil) rfl (Hp.le_refl _) ⟨rfl, y.a, y.cap, rfl, rfl⟩ (Ent.refl _)

theorem bytes_spec (bud bad : Int) (w : SL WvV) (hs : Small w) (ρ : Hp) (Γ : List Asn) (rd : AskRd ρ Γ w) : Spec0 Try.prog 73 #[.agg #[.int .i64 bud, .int .i64 bad, .slice w.a w.xs.length w.cap]] ρ Γ (fun v Γ' => ∃ a c, v = .slice a (planB bud bad (w.xs.map WvD)).length c ∧ Γ' = .row 5 1 a (planB bud bad (w.xs.map WvD)).length c ((planB bud bad (w.xs.map WvD)).flatMap encB) :: Γ) := by
  refine spec_of (n := 57) (vs := [_]) (σ := [(0, _)]) Try.func73 rfl rfl rfl rfl fun E Δ => ?_
  have hs1 := hs.1
  have hb1 := numB_len (u64_eq bud).2
  have hb2 := numB_len (u64_eq bad).2
  have hb3 := numB_len (n := w.xs.length) (by omega)
  refine c_seq ?_
  refine c_region ?_
  refine l_step (s_s rfl wn (s_box rfl rfl) ?_)
  rintro _ _ ⟨b1, rfl, rfl⟩
  refine l_step (s_q rfl wn (q_assign rfl) ?_)
  refine l_nil ?_
  refine k_then_n ?_
  refine c_seq ?_
  refine c_draw (m := 10) (bs := #[false, false, false, false, false, false, false, false, false, false]) [.pts b1 [.int .i64 bud, .int .i64 bad, .slice w.a w.xs.length w.cap] 48] (by kernel_rfl) rfl (by kernel_rfl) ?_
  refine r_take (i := 0) (bs' := #[true, false, false, false, false, false, false, false, false, false]) rfl (by kernel_rfl) (by kernel_rfl) (by kernel_rfl) (fun _ _ _ h => h) rfl wn (by first | exact q_fieldp rfl fo_48_0 | exact q_fielde rfl fo_48_0 | exact q_fieldr rfl fo_48_0) (Hp.le_refl _) (by repeat (first | exact Ent.nil _ | exact Ent.refl _ | (refine Ent.pick (by repeat (first | exact Pick.here | apply Pick.there)) ?_) | refine Ent.skip ?_)) (by kernel_rfl) ?_
  refine r_take (i := 1) (bs' := #[true, true, false, false, false, false, false, false, false, false]) rfl (by kernel_rfl) (by kernel_rfl) (by kernel_rfl) (fun _ _ _ h => h) rfl wn (by first | exact q_loadp sc_3 rfl (by repeat (first | exact Pick.here | apply Pick.there)) rfl | exact q_loade sc_3 rfl (by first | assumption | exact rd_ro (by assumption) | exact rd_row (by repeat (first | exact Pick.here | apply Pick.there))) (fun _ => rfl) (by first | assumption | omega) (by decide) rfl) (Hp.le_refl _) (by repeat (first | exact Ent.nil _ | exact Ent.refl _ | (refine Ent.pick (by repeat (first | exact Pick.here | apply Pick.there)) ?_) | refine Ent.skip ?_)) (by kernel_rfl) ?_
  refine r_take (i := 2) (bs' := #[true, true, true, false, false, false, false, false, false, false]) rfl (by kernel_rfl) (by kernel_rfl) (by kernel_rfl) (fun _ _ _ h => h) rfl wn (q_convw rfl Try.underlying3 Try.underlying112) (Hp.le_refl _) (by repeat (first | exact Ent.nil _ | exact Ent.refl _ | (refine Ent.pick (by repeat (first | exact Pick.here | apply Pick.there)) ?_) | refine Ent.skip ?_)) (by kernel_rfl) ?_
  refine r_take (i := 4) (bs' := #[true, true, true, false, true, false, false, false, false, false]) rfl (by kernel_rfl) (by kernel_rfl) (by kernel_rfl) (fun _ _ _ h => h) rfl wn (by first | exact q_fieldp rfl fo_48_1 | exact q_fielde rfl fo_48_1 | exact q_fieldr rfl fo_48_1) (Hp.le_refl _) (by repeat (first | exact Ent.nil _ | exact Ent.refl _ | (refine Ent.pick (by repeat (first | exact Pick.here | apply Pick.there)) ?_) | refine Ent.skip ?_)) (by kernel_rfl) ?_
  refine r_take (i := 5) (bs' := #[true, true, true, false, true, true, false, false, false, false]) rfl (by kernel_rfl) (by kernel_rfl) (by kernel_rfl) (fun _ _ _ h => h) rfl wn (by first | exact q_loadp sc_3 rfl (by repeat (first | exact Pick.here | apply Pick.there)) rfl | exact q_loade sc_3 rfl (by first | assumption | exact rd_ro (by assumption) | exact rd_row (by repeat (first | exact Pick.here | apply Pick.there))) (fun _ => rfl) (by first | assumption | omega) (by decide) rfl) (Hp.le_refl _) (by repeat (first | exact Ent.nil _ | exact Ent.refl _ | (refine Ent.pick (by repeat (first | exact Pick.here | apply Pick.there)) ?_) | refine Ent.skip ?_)) (by kernel_rfl) ?_
  refine r_take (i := 6) (bs' := #[true, true, true, false, true, true, true, false, false, false]) rfl (by kernel_rfl) (by kernel_rfl) (by kernel_rfl) (fun _ _ _ h => h) rfl wn (q_convw rfl Try.underlying3 Try.underlying112) (Hp.le_refl _) (by repeat (first | exact Ent.nil _ | exact Ent.refl _ | (refine Ent.pick (by repeat (first | exact Pick.here | apply Pick.there)) ?_) | refine Ent.skip ?_)) (by kernel_rfl) ?_
  refine r_one (i := 3) (bs' := #[true, true, true, true, true, true, true, false, false, false]) (by kernel_rfl) (by kernel_rfl) ?_
  refine Tr.env (.cons (t := 7) (v := .int .u64 (u64 bud : Int)) rfl (inte (u64_eq _).1) (EnvLe.refl _)) ?_
  refine o_step rfl (s_fn rfl wn Try.func77 rfl (by kernel_rfl) rfl (number_spec (u64 bud) (u64_eq _).2 ρ) Sel.nil ?_)
  rintro _ _ _ - ⟨rfl, a8, c8, rfl, rfl⟩
  try simp only [List.cons_append, List.nil_append]
  refine r_cont (Hp.le_refl _) (by repeat (first | exact Ent.nil _ | exact Ent.refl _ | (refine Ent.pick (by repeat (first | exact Pick.here | apply Pick.there)) ?_) | refine Ent.skip ?_)) ?_
  refine r_one (i := 7) (bs' := #[true, true, true, true, true, true, true, true, false, false]) (by kernel_rfl) (by kernel_rfl) ?_
  refine Tr.env (.cons (t := 11) (v := .int .u64 (u64 bad : Int)) rfl (inte (u64_eq _).1) (EnvLe.refl _)) ?_
  refine o_step rfl (s_fn rfl wn Try.func77 rfl (by kernel_rfl) rfl (number_spec (u64 bad) (u64_eq _).2 ρ) Sel.nil ?_)
  rintro _ _ _ - ⟨rfl, a12, c12, rfl, rfl⟩
  try simp only [List.cons_append, List.nil_append]
  refine r_cont (Hp.le_refl _) (by repeat (first | exact Ent.nil _ | exact Ent.refl _ | (refine Ent.pick (by repeat (first | exact Pick.here | apply Pick.there)) ?_) | refine Ent.skip ?_)) ?_
  refine r_one (i := 8) (bs' := #[true, true, true, true, true, true, true, true, true, false]) (by kernel_rfl) (by kernel_rfl) ?_
  refine o_step rfl (s_s rfl wn (s_appende (enc := encB) (xs := (numB (u64 bud))) (ys := (numB (u64 bad))) (Γ' := fun a' cap' => _) Try.underlying22 eo_5 (by decide) rfl rfl (rd_row (by repeat (first | exact Pick.here | apply Pick.there))) (oneB _) (by first | omega | (rw [List.length_append]; omega) | (rw [List.length_append, List.length_append]; omega) | (simp <;> omega)) (by first | omega | (rw [List.length_append]; omega) | (rw [List.length_append, List.length_append]; omega) | (simp <;> omega)) (fun _ _ => (by repeat (first | exact Pick.here | apply Pick.there)))) ?_)
  rintro _ _ ⟨a13, c13, rfl, rfl⟩
  refine r_cont (Hp.le_refl _) (by repeat (first | exact Ent.nil _ | exact Ent.refl _ | (refine Ent.pick (by repeat (first | exact Pick.here | apply Pick.there)) ?_) | refine Ent.skip ?_)) ?_
  refine r_take (i := 9) (bs' := #[true, true, true, true, true, true, true, true, true, true]) rfl (by kernel_rfl) (by kernel_rfl) (by kernel_rfl) (fun _ _ _ h => h) rfl wn (q_assign rfl) (Hp.le_refl _) (by repeat (first | exact Ent.nil _ | exact Ent.refl _ | (refine Ent.pick (by repeat (first | exact Pick.here | apply Pick.there)) ?_) | refine Ent.skip ?_)) (by kernel_rfl) ?_
  refine r_done (by kernel_rfl) ?_
  refine k_then_n ?_
  refine c_seq ?_
  refine c_region ?_
  refine l_step (s_q rfl wn (q_move rfl) ?_)
  refine l_step (s_q rfl wn (by first | exact q_fieldp rfl fo_48_2 | exact q_fielde rfl fo_48_2 | exact q_fieldr rfl fo_48_2) ?_)
  refine l_step (s_q rfl wn (by first | exact q_loadp sc_46 rfl (by repeat (first | exact Pick.here | apply Pick.there)) rfl | exact q_loade sc_46 rfl (by first | assumption | exact rd_ro (by assumption) | exact rd_row (by repeat (first | exact Pick.here | apply Pick.there))) (fun _ => rfl) (by first | assumption | omega) (by decide) rfl) ?_)
  refine l_step (s_q rfl wn (q_len Try.underlying46 rfl) ?_)
  refine l_step (s_q rfl wn (by first | exact q_conv rfl Try.underlying3 Try.underlying112 (by assumption) | exact q_conv rfl Try.underlying3 Try.underlying112 (wrap_u64 (by omega) (by omega)) | exact q_convw rfl Try.underlying3 Try.underlying112) ?_)
  refine l_step (s_fn rfl wn Try.func77 rfl (by kernel_rfl) rfl (number_spec w.xs.length (by omega) ρ) Sel.nil ?_)
  rintro _ _ _ - ⟨rfl, a19, c19, rfl, rfl⟩
  try simp only [List.cons_append, List.nil_append]
  refine l_step (s_s rfl wn (s_appende (enc := encB) (xs := (numB (u64 bud) ++ numB (u64 bad))) (ys := (numB w.xs.length)) (Γ' := fun a' cap' => _) Try.underlying22 eo_5 (by decide) rfl rfl (rd_row (by repeat (first | exact Pick.here | apply Pick.there))) (oneB _) (by first | omega | (rw [List.length_append]; omega) | (rw [List.length_append, List.length_append]; omega) | (simp <;> omega)) (by first | omega | (rw [List.length_append]; omega) | (rw [List.length_append, List.length_append]; omega) | (simp <;> omega)) (fun _ _ => (by repeat (first | exact Pick.here | apply Pick.there)))) ?_)
  rintro _ _ ⟨a20, c20, rfl, rfl⟩
  refine l_step (s_q rfl wn (q_assign rfl) ?_)
  refine l_nil ?_
  refine k_then_n ?_
  refine c_seq ?_
  refine c_seq ?_
  refine c_region ?_
  refine l_step (s_q rfl wn (q_assign rfl) ?_)
  refine l_nil ?_
  refine k_then_n ?_
  refine c_block ?_
  refine t_loop (ι := Nu2) (fun y => y.j ≤ w.xs.length) (fun y => w.xs.length - y.j) (fun y => [(1, .pointer (some ⟨b1, 0, none⟩)), (3, .slice y.a ((numB (u64 bud) ++ numB (u64 bad) ++ numB w.xs.length) ++ (w.xs.take y.j).flatMap waveB).length y.cap), (4, .int .i64 (y.j : Int))]) (fun y => .row 5 1 y.a ((numB (u64 bud) ++ numB (u64 bad) ++ numB w.xs.length) ++ (w.xs.take y.j).flatMap waveB).length y.cap (((numB (u64 bud) ++ numB (u64 bad) ++ numB w.xs.length) ++ (w.xs.take y.j).flatMap waveB).flatMap encB) :: .pts b1 [.int .i64 bud, .int .i64 bad, .slice w.a w.xs.length w.cap] 48 :: (Γ ++ Δ)) ⟨0, a20, c20⟩ (Nat.zero_le _) ?_ ?_ ?_
  · exact .cons rfl (by first | rfl | (simp; done) | simp [*]) (.cons rfl (by simp) (.cons rfl (by first | rfl | (simp; done) | simp [*]) (.nil _)))
  · simp only [List.take_zero, List.flatMap_nil, List.append_nil]; exact (by repeat (first | exact Ent.nil _ | exact Ent.refl _ | (refine Ent.pick (by repeat (first | exact Pick.here | apply Pick.there)) ?_) | refine Ent.skip ?_))
  intro y hy
  have hOL := plan_len (n := w.xs.length) (j := y.j) (bud := bud) (bad := bad) hs (by omega)
  refine c_seq ?_
  refine c_seq ?_
  refine c_region ?_
  refine l_step (s_q rfl wn (q_move rfl) ?_)
  refine l_step (s_q rfl wn (by first | exact q_fieldp rfl fo_48_2 | exact q_fielde rfl fo_48_2 | exact q_fieldr rfl fo_48_2) ?_)
  refine l_step (s_q rfl wn (by first | exact q_loadp sc_46 rfl (by repeat (first | exact Pick.here | apply Pick.there)) rfl | exact q_loade sc_46 rfl (by first | assumption | exact rd_ro (by assumption) | exact rd_row (by repeat (first | exact Pick.here | apply Pick.there))) (fun _ => rfl) (by first | assumption | omega) (by decide) rfl) ?_)
  refine l_step (s_q rfl wn (q_len Try.underlying46 rfl) ?_)
  refine l_step (s_q rfl wn (q_lss rfl rfl) ?_)
  refine l_nil ?_
  refine k_then_n ?_
  first | refine c_if rfl (fun h0 => ?_) (fun h0 => ?_) | refine c_cond rfl (fun h0 => ?_) (fun h0 => ?_)
  · skip
    have hj2 : y.j < w.xs.length := by omega
    have hv := getD_mem w.xs y.j hj2
    have hl1 := listB_len (l := (w.xs.getD y.j default).after.xs) (by have := (hs.2 _ hv).1; omega)
    have hl2 := listB_len (l := (w.xs.getD y.j default).clu.xs) (by have := (hs.2 _ hv).2; omega)
    have hl3 := numB_len (u64_eq (w.xs.getD y.j default).bake).2
    have hq1 := (hs.2 _ hv).1
    have hq2 := (hs.2 _ hv).2
    have hnx : ((numB (u64 bud) ++ numB (u64 bad) ++ numB w.xs.length) ++ (w.xs.take (y.j + 1)).flatMap waveB) = ((numB (u64 bud) ++ numB (u64 bad) ++ numB w.xs.length) ++ (w.xs.take y.j).flatMap waveB) ++ listB (w.xs.getD y.j default).after.xs ++ listB (w.xs.getD y.j default).clu.xs ++ numB (u64 (w.xs.getD y.j default).bake) := by rw [flat_take_succ _ _ _ hj2]; simp only [waveB, List.append_assoc]
    refine c_skip ?_
    refine k_then_n ?_
    refine c_seq ?_
    refine c_block ?_
    refine c_seq ?_
    refine c_region ?_
    refine l_step (s_q rfl wn (q_move rfl) ?_)
    refine l_step (s_q rfl wn (by first | exact q_fieldp rfl fo_48_2 | exact q_fielde rfl fo_48_2 | exact q_fieldr rfl fo_48_2) ?_)
    refine l_step (s_q rfl wn (by first | exact q_loadp sc_46 rfl (by repeat (first | exact Pick.here | apply Pick.there)) rfl | exact q_loade sc_46 rfl (by first | assumption | exact rd_ro (by assumption) | exact rd_row (by repeat (first | exact Pick.here | apply Pick.there))) (fun _ => rfl) (by first | assumption | omega) (by decide) rfl) ?_)
    refine l_step (s_q rfl wn (q_move rfl) ?_)
    refine l_step (s_q rfl wn (q_indexe y.j Try.underlying46 sz_125 rfl rfl (rd_up rd.1 (by (repeat refine Ent.skip ?_); exact Ent.app _ _)) (by decide) rfl hj2) ?_)
    refine l_step (s_q rfl wn (by first | exact q_fieldp rfl fo_125_0 | exact q_fielde rfl fo_125_0 | exact q_fieldr rfl fo_125_0) ?_)
    refine l_step (s_q rfl wn (q_loade (enc := encW) (xs := w.xs) (j := y.j) (off := 0) sc_40 rfl (rd_up rd.1 (by (repeat refine Ent.skip ?_); exact Ent.app _ _)) (fun _ => rfl) hj2 (by decide) rfl) ?_)
    refine l_step (s_fn rfl wn Try.func78 rfl (by kernel_rfl) rfl (list_spec (w.xs.getD y.j default).after (hs.2 _ hv).1 ρ _ (rd_up (rd.2 _ hv).1 (by (repeat refine Ent.skip ?_); exact Ent.app _ _))) (sel_all _) ?_)
    rintro _ _ _ - ⟨rfl, a35, c35, rfl, rfl⟩
    refine Tr.ent (Ent.cast (List.append_nil _)) ?_
    refine l_step (s_s rfl wn (s_appende (enc := encB) (xs := ((numB (u64 bud) ++ numB (u64 bad) ++ numB w.xs.length) ++ (w.xs.take y.j).flatMap waveB)) (ys := (listB (w.xs.getD y.j default).after.xs)) (Γ' := fun a' cap' => _) Try.underlying22 eo_5 (by decide) rfl rfl (rd_row (by repeat (first | exact Pick.here | apply Pick.there))) (oneB _) (by first | omega | (rw [List.length_append]; omega) | (rw [List.length_append, List.length_append]; omega) | (simp <;> omega)) (by first | omega | (rw [List.length_append]; omega) | (rw [List.length_append, List.length_append]; omega) | (simp <;> omega)) (fun _ _ => (by repeat (first | exact Pick.here | apply Pick.there)))) ?_)
    rintro _ _ ⟨a36, c36, rfl, rfl⟩
    refine l_step (s_q rfl wn (q_assign rfl) ?_)
    refine l_nil ?_
    refine k_then_n ?_
    refine c_seq ?_
    refine c_region ?_
    refine l_step (s_q rfl wn (q_move rfl) ?_)
    refine l_step (s_q rfl wn (by first | exact q_fieldp rfl fo_48_2 | exact q_fielde rfl fo_48_2 | exact q_fieldr rfl fo_48_2) ?_)
    refine l_step (s_q rfl wn (by first | exact q_loadp sc_46 rfl (by repeat (first | exact Pick.here | apply Pick.there)) rfl | exact q_loade sc_46 rfl (by first | assumption | exact rd_ro (by assumption) | exact rd_row (by repeat (first | exact Pick.here | apply Pick.there))) (fun _ => rfl) (by first | assumption | omega) (by decide) rfl) ?_)
    refine l_step (s_q rfl wn (q_move rfl) ?_)
    refine l_step (s_q rfl wn (q_indexe y.j Try.underlying46 sz_125 rfl rfl (rd_up rd.1 (by (repeat refine Ent.skip ?_); exact Ent.app _ _)) (by decide) rfl hj2) ?_)
    refine l_step (s_q rfl wn (by first | exact q_fieldp rfl fo_125_1 | exact q_fielde rfl fo_125_1 | exact q_fieldr rfl fo_125_1) ?_)
    refine l_step (s_q rfl wn (q_loade (enc := encW) (xs := w.xs) (j := y.j) (off := 1) sc_40 rfl (rd_up rd.1 (by (repeat refine Ent.skip ?_); exact Ent.app _ _)) (fun _ => rfl) hj2 (by decide) rfl) ?_)
    refine l_step (s_fn rfl wn Try.func78 rfl (by kernel_rfl) rfl (list_spec (w.xs.getD y.j default).clu (hs.2 _ hv).2 ρ _ (rd_up (rd.2 _ hv).2 (by (repeat refine Ent.skip ?_); exact Ent.app _ _))) (sel_all _) ?_)
    rintro _ _ _ - ⟨rfl, a44, c44, rfl, rfl⟩
    refine Tr.ent (Ent.cast (List.append_nil _)) ?_
    refine l_step (s_s rfl wn (s_appende (enc := encB) (xs := (((numB (u64 bud) ++ numB (u64 bad) ++ numB w.xs.length) ++ (w.xs.take y.j).flatMap waveB) ++ listB (w.xs.getD y.j default).after.xs)) (ys := (listB (w.xs.getD y.j default).clu.xs)) (Γ' := fun a' cap' => _) Try.underlying22 eo_5 (by decide) rfl rfl (rd_row (by repeat (first | exact Pick.here | apply Pick.there))) (oneB _) (by first | omega | (rw [List.length_append]; omega) | (rw [List.length_append, List.length_append]; omega) | (simp <;> omega)) (by first | omega | (rw [List.length_append]; omega) | (rw [List.length_append, List.length_append]; omega) | (simp <;> omega)) (fun _ _ => (by repeat (first | exact Pick.here | apply Pick.there)))) ?_)
    rintro _ _ ⟨a45, c45, rfl, rfl⟩
    refine l_step (s_q rfl wn (q_assign rfl) ?_)
    refine l_nil ?_
    refine k_then_n ?_
    refine c_region ?_
    refine l_step (s_q rfl wn (q_move rfl) ?_)
    refine l_step (s_q rfl wn (by first | exact q_fieldp rfl fo_48_2 | exact q_fielde rfl fo_48_2 | exact q_fieldr rfl fo_48_2) ?_)
    refine l_step (s_q rfl wn (by first | exact q_loadp sc_46 rfl (by repeat (first | exact Pick.here | apply Pick.there)) rfl | exact q_loade sc_46 rfl (by first | assumption | exact rd_ro (by assumption) | exact rd_row (by repeat (first | exact Pick.here | apply Pick.there))) (fun _ => rfl) (by first | assumption | omega) (by decide) rfl) ?_)
    refine l_step (s_q rfl wn (q_move rfl) ?_)
    refine l_step (s_q rfl wn (q_indexe y.j Try.underlying46 sz_125 rfl rfl (rd_up rd.1 (by (repeat refine Ent.skip ?_); exact Ent.app _ _)) (by decide) rfl hj2) ?_)
    refine l_step (s_q rfl wn (by first | exact q_fieldp rfl fo_125_2 | exact q_fielde rfl fo_125_2 | exact q_fieldr rfl fo_125_2) ?_)
    refine l_step (s_q rfl wn (q_loade (enc := encW) (xs := w.xs) (j := y.j) (off := 2) sc_3 rfl (rd_up rd.1 (by (repeat refine Ent.skip ?_); exact Ent.app _ _)) (fun _ => rfl) hj2 (by decide) rfl) ?_)
    refine l_step (s_q rfl wn (q_convw rfl Try.underlying3 Try.underlying112) ?_)
    refine Tr.env (.cons (t := 53) (v := .int .u64 (u64 (w.xs.getD y.j default).bake : Int)) rfl (inte (u64_eq _).1) (EnvLe.refl _)) ?_
    refine l_step (s_fn rfl wn Try.func77 rfl (by kernel_rfl) rfl (number_spec (u64 (w.xs.getD y.j default).bake) (u64_eq _).2 ρ) Sel.nil ?_)
    rintro _ _ _ - ⟨rfl, a54, c54, rfl, rfl⟩
    try simp only [List.cons_append, List.nil_append]
    refine l_step (s_s rfl wn (s_appende (enc := encB) (xs := (((numB (u64 bud) ++ numB (u64 bad) ++ numB w.xs.length) ++ (w.xs.take y.j).flatMap waveB) ++ listB (w.xs.getD y.j default).after.xs ++ listB (w.xs.getD y.j default).clu.xs)) (ys := (numB (u64 (w.xs.getD y.j default).bake))) (Γ' := fun a' cap' => _) Try.underlying22 eo_5 (by decide) rfl rfl (rd_row (by repeat (first | exact Pick.here | apply Pick.there))) (oneB _) (by first | omega | (rw [List.length_append]; omega) | (rw [List.length_append, List.length_append]; omega) | (simp <;> omega)) (by first | omega | (rw [List.length_append]; omega) | (rw [List.length_append, List.length_append]; omega) | (simp <;> omega)) (fun _ _ => (by repeat (first | exact Pick.here | apply Pick.there)))) ?_)
    rintro _ _ ⟨a55, c55, rfl, rfl⟩
    refine l_step (s_q rfl wn (q_assign rfl) ?_)
    refine l_nil ?_
    refine k_blk_n ?_
    refine k_then_n ?_
    refine c_region ?_
    refine l_step (s_q rfl wn (q_move rfl) ?_)
    refine l_step (s_q rfl wn (by first | exact q_add rfl rfl (by omega) (by omega) | exact q_addw rfl rfl) ?_)
    refine l_step (s_q rfl wn (q_assign rfl) ?_)
    refine l_nil ?_
    refine k_then_n ?_
    exact t_next ⟨y.j + 1, a55, c55⟩ ⟨by simp only []; omega, by simp only []; omega⟩ (.cons rfl (by first | rfl | (simp; done) | simp [*]) (.cons rfl (by simp only []; rw [hnx]) (.cons rfl (by first | rfl | (simp; done) | simp [*]) (.nil _)))) (by simp only []; rw [hnx]; exact (by repeat (first | exact Ent.nil _ | exact Ent.refl _ | (refine Ent.pick (by repeat (first | exact Pick.here | apply Pick.there)) ?_) | refine Ent.skip ?_)))
  · skip
    have hj3 : y.j = w.xs.length := by omega
    rw [hj3, List.take_length, ← planB_eq]
    refine c_exit ?_
    refine k_then_x ?_
    refine k_then_x ?_
    refine k_blk_x ?_
    refine k_then_n ?_
    refine c_seq ?_
    refine c_region ?_
    refine l_step (s_q rfl wn (q_move rfl) ?_)
    refine l_step (s_q rfl wn (q_assign rfl) ?_)
    refine l_nil ?_
    refine k_then_n ?_
    refine c_ret ?_
    exact t_ret (.row 5 1 y.a (planB bud bad (w.xs.map WvD)).length y.cap ((planB bud bad (w.xs.map WvD)).flatMap encB) :: Γ) rfl (.tmp rfl .nil) rfl (Hp.le_refl _) ⟨rfl, y.a, y.cap, rfl, rfl⟩ (Ent.pick Pick.here (Ent.skip (Ent.refl _)))

theorem psame_spec (bud1 bad1 bud2 bad2 : Int) (w1 w2 : SL WvV) (hs1 : Small w1) (hs2 : Small w2) (ρ : Hp) (Γ : List Asn) (rd1 : AskRd ρ Γ w1) (rd2 : AskRd ρ Γ w2) : Spec0 Try.prog 61 #[.agg #[.int .i64 bud1, .int .i64 bad1, .slice w1.a w1.xs.length w1.cap], .agg #[.int .i64 bud2, .int .i64 bad2, .slice w2.a w2.xs.length w2.cap]] ρ Γ (fun v Γ' => v = .bool (decide ((planB bud1 bad1 (w1.xs.map WvD)) = (planB bud2 bad2 (w2.xs.map WvD)))) ∧ Γ = Γ') := by
  refine spec_of (n := 12) (vs := [_, _]) (σ := [(0, _), (1, _)]) Try.func61 rfl rfl rfl rfl fun E Δ => ?_
  refine c_seq ?_
  refine c_region ?_
  refine l_step (s_s rfl wn (s_box rfl rfl) ?_)
  rintro _ _ ⟨b2, rfl, rfl⟩
  refine l_step (s_s rfl wn (s_box rfl rfl) ?_)
  rintro _ _ ⟨b3, rfl, rfl⟩
  refine l_step (s_q rfl wn (q_assign rfl) ?_)
  refine l_nil ?_
  refine k_then_n ?_
  refine c_seq ?_
  refine c_draw (m := 8) (bs := #[false, false, false, false, false, false, false, false]) [.pts b2 [.int .i64 bud1, .int .i64 bad1, .slice w1.a w1.xs.length w1.cap] 48, .pts b3 [.int .i64 bud2, .int .i64 bad2, .slice w2.a w2.xs.length w2.cap] 48] (by kernel_rfl) rfl (by kernel_rfl) ?_
  refine r_take (i := 0) (bs' := #[true, false, false, false, false, false, false, false]) rfl (by kernel_rfl) (by kernel_rfl) (by kernel_rfl) (fun _ _ _ h => h) rfl wn (by first | exact q_loadpa (vs := [_, _, _]) ag_48 rfl (by repeat (first | exact Pick.here | apply Pick.there)) rfl | exact q_loadea (vs := [_, _, _]) ag_48 rfl (by first | assumption | exact rd_ro (by assumption) | exact rd_row (by repeat (first | exact Pick.here | apply Pick.there))) (fun _ => rfl) (by first | assumption | omega) (by decide) (by decide) rfl) (Hp.le_refl _) (by repeat (first | exact Ent.nil _ | exact Ent.refl _ | (refine Ent.pick (by repeat (first | exact Pick.here | apply Pick.there)) ?_) | refine Ent.skip ?_)) (by kernel_rfl) ?_
  refine r_take (i := 3) (bs' := #[true, false, false, true, false, false, false, false]) rfl (by kernel_rfl) (by kernel_rfl) (by kernel_rfl) (fun _ _ _ h => h) rfl wn (by first | exact q_loadpa (vs := [_, _, _]) ag_48 rfl (by repeat (first | exact Pick.here | apply Pick.there)) rfl | exact q_loadea (vs := [_, _, _]) ag_48 rfl (by first | assumption | exact rd_ro (by assumption) | exact rd_row (by repeat (first | exact Pick.here | apply Pick.there))) (fun _ => rfl) (by first | assumption | omega) (by decide) (by decide) rfl) (Hp.le_refl _) (by repeat (first | exact Ent.nil _ | exact Ent.refl _ | (refine Ent.pick (by repeat (first | exact Pick.here | apply Pick.there)) ?_) | refine Ent.skip ?_)) (by kernel_rfl) ?_
  refine r_one (i := 1) (bs' := #[true, true, false, true, false, false, false, false]) (by kernel_rfl) (by kernel_rfl) ?_
  refine o_step rfl (s_fn rfl wn Try.func73 rfl (by kernel_rfl) rfl (bytes_spec bud1 bad1 w1 hs1 ρ _ (askRd_up rd1 (by (repeat refine Ent.skip ?_); exact Ent.app _ _))) (sel_all _) ?_)
  rintro _ _ _ - ⟨rfl, a6, c6, rfl, rfl⟩
  refine Tr.ent (Ent.cast (List.append_nil _)) ?_
  refine r_cont (Hp.le_refl _) (by repeat (first | exact Ent.nil _ | exact Ent.refl _ | (refine Ent.pick (by repeat (first | exact Pick.here | apply Pick.there)) ?_) | refine Ent.skip ?_)) ?_
  refine r_two (i := 2) (j := 4) (bi := #[true, true, true, true, false, false, false, false]) (bj := #[true, true, false, true, true, false, false, false]) (by kernel_rfl) (by kernel_rfl) (by kernel_rfl) ?_ ?_
  · skip
    refine o_step rfl (s_q rfl wn (q_tostr (bs := (planB bud1 bad1 (w1.xs.map WvD))) Try.underlying22 Try.underlying5 Try.underlying9 rfl (rd_row (by repeat (first | exact Pick.here | apply Pick.there)))) ?_)
    refine r_cont (Hp.le_refl _) (by repeat (first | exact Ent.nil _ | exact Ent.refl _ | (refine Ent.pick (by repeat (first | exact Pick.here | apply Pick.there)) ?_) | refine Ent.skip ?_)) ?_
    refine r_one (i := 4) (bs' := #[true, true, true, true, true, false, false, false]) (by kernel_rfl) (by kernel_rfl) ?_
    refine o_step rfl (s_fn rfl wn Try.func73 rfl (by kernel_rfl) rfl (bytes_spec bud2 bad2 w2 hs2 ρ _ (askRd_up rd2 (by (repeat refine Ent.skip ?_); exact Ent.app _ _))) (sel_all _) ?_)
    rintro _ _ _ - ⟨rfl, a9, c9, rfl, rfl⟩
    refine Tr.ent (Ent.cast (List.append_nil _)) ?_
    refine r_cont (Hp.le_refl _) (by repeat (first | exact Ent.nil _ | exact Ent.refl _ | (refine Ent.pick (by repeat (first | exact Pick.here | apply Pick.there)) ?_) | refine Ent.skip ?_)) ?_
    refine r_one (i := 5) (bs' := #[true, true, true, true, true, true, false, false]) (by kernel_rfl) (by kernel_rfl) ?_
    refine o_step rfl (s_q rfl wn (q_tostr (bs := (planB bud2 bad2 (w2.xs.map WvD))) Try.underlying22 Try.underlying5 Try.underlying9 rfl (rd_row (by repeat (first | exact Pick.here | apply Pick.there)))) ?_)
    refine r_cont (Hp.le_refl _) (by repeat (first | exact Ent.nil _ | exact Ent.refl _ | (refine Ent.pick (by repeat (first | exact Pick.here | apply Pick.there)) ?_) | refine Ent.skip ?_)) ?_
    refine r_take (i := 6) (bs' := #[true, true, true, true, true, true, true, false]) rfl (by kernel_rfl) (by kernel_rfl) (by kernel_rfl) (fun _ _ _ h => h) rfl wn (q_eqlsB rfl rfl) (Hp.le_refl _) (by repeat (first | exact Ent.nil _ | exact Ent.refl _ | (refine Ent.pick (by repeat (first | exact Pick.here | apply Pick.there)) ?_) | refine Ent.skip ?_)) (by kernel_rfl) ?_
    refine r_take (i := 7) (bs' := #[true, true, true, true, true, true, true, true]) rfl (by kernel_rfl) (by kernel_rfl) (by kernel_rfl) (fun _ _ _ h => h) rfl wn (q_assign rfl) (Hp.le_refl _) (by repeat (first | exact Ent.nil _ | exact Ent.refl _ | (refine Ent.pick (by repeat (first | exact Pick.here | apply Pick.there)) ?_) | refine Ent.skip ?_)) (by kernel_rfl) ?_
    refine r_done (by kernel_rfl) ?_
    refine k_then_n ?_
    refine c_ret ?_
    exact t_ret Γ rfl (.tmp rfl .nil) rfl (Hp.le_refl _) ⟨rfl, rfl, rfl⟩ (by (repeat refine Ent.skip ?_); exact Ent.refl _)
  · skip
    refine o_step rfl (s_fn rfl wn Try.func73 rfl (by kernel_rfl) rfl (bytes_spec bud2 bad2 w2 hs2 ρ _ (askRd_up rd2 (by (repeat refine Ent.skip ?_); exact Ent.app _ _))) (sel_all _) ?_)
    rintro _ _ _ - ⟨rfl, a9, c9, rfl, rfl⟩
    refine Tr.ent (Ent.cast (List.append_nil _)) ?_
    refine r_cont (Hp.le_refl _) (by repeat (first | exact Ent.nil _ | exact Ent.refl _ | (refine Ent.pick (by repeat (first | exact Pick.here | apply Pick.there)) ?_) | refine Ent.skip ?_)) ?_
    refine r_two (i := 2) (j := 5) (bi := #[true, true, true, true, true, false, false, false]) (bj := #[true, true, false, true, true, true, false, false]) (by kernel_rfl) (by kernel_rfl) (by kernel_rfl) ?_ ?_
    · skip
      refine o_step rfl (s_q rfl wn (q_tostr (bs := (planB bud1 bad1 (w1.xs.map WvD))) Try.underlying22 Try.underlying5 Try.underlying9 rfl (rd_row (by repeat (first | exact Pick.here | apply Pick.there)))) ?_)
      refine r_cont (Hp.le_refl _) (by repeat (first | exact Ent.nil _ | exact Ent.refl _ | (refine Ent.pick (by repeat (first | exact Pick.here | apply Pick.there)) ?_) | refine Ent.skip ?_)) ?_
      refine r_one (i := 5) (bs' := #[true, true, true, true, true, true, false, false]) (by kernel_rfl) (by kernel_rfl) ?_
      refine o_step rfl (s_q rfl wn (q_tostr (bs := (planB bud2 bad2 (w2.xs.map WvD))) Try.underlying22 Try.underlying5 Try.underlying9 rfl (rd_row (by repeat (first | exact Pick.here | apply Pick.there)))) ?_)
      refine r_cont (Hp.le_refl _) (by repeat (first | exact Ent.nil _ | exact Ent.refl _ | (refine Ent.pick (by repeat (first | exact Pick.here | apply Pick.there)) ?_) | refine Ent.skip ?_)) ?_
      refine r_take (i := 6) (bs' := #[true, true, true, true, true, true, true, false]) rfl (by kernel_rfl) (by kernel_rfl) (by kernel_rfl) (fun _ _ _ h => h) rfl wn (q_eqlsB rfl rfl) (Hp.le_refl _) (by repeat (first | exact Ent.nil _ | exact Ent.refl _ | (refine Ent.pick (by repeat (first | exact Pick.here | apply Pick.there)) ?_) | refine Ent.skip ?_)) (by kernel_rfl) ?_
      refine r_take (i := 7) (bs' := #[true, true, true, true, true, true, true, true]) rfl (by kernel_rfl) (by kernel_rfl) (by kernel_rfl) (fun _ _ _ h => h) rfl wn (q_assign rfl) (Hp.le_refl _) (by repeat (first | exact Ent.nil _ | exact Ent.refl _ | (refine Ent.pick (by repeat (first | exact Pick.here | apply Pick.there)) ?_) | refine Ent.skip ?_)) (by kernel_rfl) ?_
      refine r_done (by kernel_rfl) ?_
      refine k_then_n ?_
      refine c_ret ?_
      exact t_ret Γ rfl (.tmp rfl .nil) rfl (Hp.le_refl _) ⟨rfl, rfl, rfl⟩ (by (repeat refine Ent.skip ?_); exact Ent.refl _)
    · skip
      refine o_step rfl (s_q rfl wn (q_tostr (bs := (planB bud2 bad2 (w2.xs.map WvD))) Try.underlying22 Try.underlying5 Try.underlying9 rfl (rd_row (by repeat (first | exact Pick.here | apply Pick.there)))) ?_)
      refine r_cont (Hp.le_refl _) (by repeat (first | exact Ent.nil _ | exact Ent.refl _ | (refine Ent.pick (by repeat (first | exact Pick.here | apply Pick.there)) ?_) | refine Ent.skip ?_)) ?_
      refine r_one (i := 2) (bs' := #[true, true, true, true, true, true, false, false]) (by kernel_rfl) (by kernel_rfl) ?_
      refine o_step rfl (s_q rfl wn (q_tostr (bs := (planB bud1 bad1 (w1.xs.map WvD))) Try.underlying22 Try.underlying5 Try.underlying9 rfl (rd_row (by repeat (first | exact Pick.here | apply Pick.there)))) ?_)
      refine r_cont (Hp.le_refl _) (by repeat (first | exact Ent.nil _ | exact Ent.refl _ | (refine Ent.pick (by repeat (first | exact Pick.here | apply Pick.there)) ?_) | refine Ent.skip ?_)) ?_
      refine r_take (i := 6) (bs' := #[true, true, true, true, true, true, true, false]) rfl (by kernel_rfl) (by kernel_rfl) (by kernel_rfl) (fun _ _ _ h => h) rfl wn (q_eqlsB rfl rfl) (Hp.le_refl _) (by repeat (first | exact Ent.nil _ | exact Ent.refl _ | (refine Ent.pick (by repeat (first | exact Pick.here | apply Pick.there)) ?_) | refine Ent.skip ?_)) (by kernel_rfl) ?_
      refine r_take (i := 7) (bs' := #[true, true, true, true, true, true, true, true]) rfl (by kernel_rfl) (by kernel_rfl) (by kernel_rfl) (fun _ _ _ h => h) rfl wn (q_assign rfl) (Hp.le_refl _) (by repeat (first | exact Ent.nil _ | exact Ent.refl _ | (refine Ent.pick (by repeat (first | exact Pick.here | apply Pick.there)) ?_) | refine Ent.skip ?_)) (by kernel_rfl) ?_
      refine r_done (by kernel_rfl) ?_
      refine k_then_n ?_
      refine c_ret ?_
      exact t_ret Γ rfl (.tmp rfl .nil) rfl (Hp.le_refl _) ⟨rfl, rfl, rfl⟩ (by (repeat refine Ent.skip ?_); exact Ent.refl _)

theorem cloneP_spec (s : SL PlV) (hl : s.xs.length ≤ 100000) (ρ : Hp) (Γ : List Asn) (rd : Rd ρ Γ 5 s.a s.xs.length s.cap (s.xs.flatMap encPl)) : Spec0 Try.prog 62 #[.slice s.a s.xs.length s.cap] ρ Γ (fun v Γ' => ∃ a' cap', v = .slice a' s.xs.length cap' ∧ Γ' = .row 130 5 a' s.xs.length cap' (s.xs.flatMap encPl) :: Γ) := by
  refine spec_of (n := 8) (vs := [_]) (σ := [(0, _)]) Try.func62 rfl rfl rfl rfl fun E Δ => ?_
  have rd2 := rd_up rd (Ent.app Γ Δ)
  refine c_seq ?_
  refine c_region ?_
  refine l_step (s_q rfl wn (q_assign rfl) ?_)
  refine l_nil ?_
  refine k_then_n ?_
  refine c_seq ?_
  refine c_seq ?_
  refine c_region ?_
  refine l_step (s_q rfl wn (q_move rfl) ?_)
  refine l_step (s_q rfl wn (q_eqnil Try.underlying59 rfl rfl) ?_)
  refine l_nil ?_
  refine k_then_n ?_
  first | refine c_if rfl (fun h0 => ?_) (fun h0 => ?_) | refine c_cond rfl (fun h0 => ?_) (fun h0 => ?_)
  · skip
    refine t_rd rd2 fun hl' _ _ hn => ?_
    have hz : s.xs = [] := by
      rw [hn (Option.isNone_iff_eq_none.1 h0)] at hl'
      exact List.eq_nil_of_length_eq_zero (by simp at hl'; omega)
    refine c_seq ?_
    refine c_region ?_
    refine l_step (s_q rfl wn (q_assign rfl) ?_)
    refine l_nil ?_
    refine k_then_n ?_
    refine c_ret ?_
    refine k_then_r ?_
    exact t_ret (.row 130 5 none s.xs.length 0 (s.xs.flatMap encPl) :: Γ) rfl (.tmp rfl .nil) rfl (Hp.le_refl _) ⟨rfl, none, 0, by rw [hz]; rfl, rfl⟩ (by rw [hz]; exact Ent.nilrow _ _ _)
  · skip
    refine c_skip ?_
    refine k_then_n ?_
    refine c_seq ?_
    refine c_region ?_
    refine l_step (s_s rfl wn (s_buildSlice Try.underlying59 eo_130 rfl rfl rfl rfl (by decide) (by decide)) ?_)
    rintro _ _ ⟨b5, rfl, rfl⟩
    refine l_step (s_q rfl wn (q_move rfl) ?_)
    refine l_step (s_s rfl wn (s_appende (enc := encPl) (xs := []) (ys := s.xs) (Γ' := fun a' cap' => _) Try.underlying59 eo_130 (by decide) rfl rfl (rd_up rd2 (Ent.skip (Ent.refl _))) (onePl _) (by simp; omega) (by simp; omega) (fun _ _ => (by repeat (first | exact Pick.here | apply Pick.there)))) ?_)
    rintro _ _ ⟨a7, c7, rfl, rfl⟩
    refine l_step (s_q rfl wn (q_assign rfl) ?_)
    refine l_nil ?_
    refine k_then_n ?_
    refine c_ret ?_
    exact t_ret (.row 130 5 a7 s.xs.length c7 (s.xs.flatMap encPl) :: Γ) rfl (.tmp rfl .nil) rfl (Hp.le_refl _) ⟨rfl, a7, c7, rfl, rfl⟩ (Ent.refl _)

theorem cloneO_spec (s : SL Bool) (hl : s.xs.length ≤ 100000) (ρ : Hp) (Γ : List Asn) (rd : Rd ρ Γ 1 s.a s.xs.length s.cap (s.xs.flatMap encO)) : Spec0 Try.prog 63 #[.slice s.a s.xs.length s.cap] ρ Γ (fun v Γ' => ∃ a' cap', v = .slice a' s.xs.length cap' ∧ Γ' = .row 4 1 a' s.xs.length cap' (s.xs.flatMap encO) :: Γ) := by
  refine spec_of (n := 8) (vs := [_]) (σ := [(0, _)]) Try.func63 rfl rfl rfl rfl fun E Δ => ?_
  have rd2 := rd_up rd (Ent.app Γ Δ)
  refine c_seq ?_
  refine c_region ?_
  refine l_step (s_q rfl wn (q_assign rfl) ?_)
  refine l_nil ?_
  refine k_then_n ?_
  refine c_seq ?_
  refine c_seq ?_
  refine c_region ?_
  refine l_step (s_q rfl wn (q_move rfl) ?_)
  refine l_step (s_q rfl wn (q_eqnil Try.underlying60 rfl rfl) ?_)
  refine l_nil ?_
  refine k_then_n ?_
  first | refine c_if rfl (fun h0 => ?_) (fun h0 => ?_) | refine c_cond rfl (fun h0 => ?_) (fun h0 => ?_)
  · skip
    refine t_rd rd2 fun hl' _ _ hn => ?_
    have hz : s.xs = [] := by
      rw [hn (Option.isNone_iff_eq_none.1 h0)] at hl'
      exact List.eq_nil_of_length_eq_zero (by simp at hl'; omega)
    refine c_seq ?_
    refine c_region ?_
    refine l_step (s_q rfl wn (q_assign rfl) ?_)
    refine l_nil ?_
    refine k_then_n ?_
    refine c_ret ?_
    refine k_then_r ?_
    exact t_ret (.row 4 1 none s.xs.length 0 (s.xs.flatMap encO) :: Γ) rfl (.tmp rfl .nil) rfl (Hp.le_refl _) ⟨rfl, none, 0, by rw [hz]; rfl, rfl⟩ (by rw [hz]; exact Ent.nilrow _ _ _)
  · skip
    refine c_skip ?_
    refine k_then_n ?_
    refine c_seq ?_
    refine c_region ?_
    refine l_step (s_s rfl wn (s_buildSlice Try.underlying60 eo_4 rfl rfl rfl rfl (by decide) (by decide)) ?_)
    rintro _ _ ⟨b5, rfl, rfl⟩
    refine l_step (s_q rfl wn (q_move rfl) ?_)
    refine l_step (s_s rfl wn (s_appende (enc := encO) (xs := []) (ys := s.xs) (Γ' := fun a' cap' => _) Try.underlying60 eo_4 (by decide) rfl rfl (rd_up rd2 (Ent.skip (Ent.refl _))) (oneO _) (by simp; omega) (by simp; omega) (fun _ _ => (by repeat (first | exact Pick.here | apply Pick.there)))) ?_)
    rintro _ _ ⟨a7, c7, rfl, rfl⟩
    refine l_step (s_q rfl wn (q_assign rfl) ?_)
    refine l_nil ?_
    refine k_then_n ?_
    refine c_ret ?_
    exact t_ret (.row 4 1 a7 s.xs.length c7 (s.xs.flatMap encO) :: Γ) rfl (.tmp rfl .nil) rfl (Hp.le_refl _) ⟨rfl, a7, c7, rfl, rfl⟩ (Ent.refl _)

theorem same_spec (a : AskV) (w1 w2 : SL WvV) (hw : w1.xs.map WvD = w2.xs.map WvD) (hs1 : Small w1) (hs2 : Small w2) (ρ : Hp) (Γ : List Asn) (rd1 : AskRd ρ Γ w1) (rd2 : AskRd ρ Γ w2) : Spec0 Try.prog 31 #[.agg (encAsk { a with waves := w1 }).toArray, .agg (encAsk { a with waves := w2 }).toArray] ρ Γ (fun v Γ' => v = .bool true ∧ Γ = Γ') := by
  refine spec_of (n := 76) (vs := [_, _]) (σ := [(0, _), (1, _)]) Try.func31 rfl rfl rfl rfl fun E Δ => ?_
  refine c_seq ?_
  refine c_region ?_
  refine l_step (s_s rfl wn (s_box rfl rfl) ?_)
  rintro _ _ ⟨b2, rfl, rfl⟩
  refine l_step (s_s rfl wn (s_box rfl rfl) ?_)
  rintro _ _ ⟨b3, rfl, rfl⟩
  refine l_step (s_q rfl wn (q_assign rfl) ?_)
  refine l_nil ?_
  refine k_then_n ?_
  refine c_seq ?_
  refine c_region ?_
  refine l_step (s_q rfl wn (by first | exact q_fieldp rfl fo_54_0 | exact q_fielde rfl fo_54_0 | exact q_fieldr rfl fo_54_0) ?_)
  refine l_step (s_q rfl wn (by first | exact q_loadp sc_3 rfl (by repeat (first | exact Pick.here | apply Pick.there)) rfl | exact q_loade sc_3 rfl (by first | assumption | exact rd_ro (by assumption) | exact rd_row (by repeat (first | exact Pick.here | apply Pick.there))) (fun _ => rfl) (by first | assumption | omega) (by decide) rfl) ?_)
  refine l_step (s_q rfl wn (by first | exact q_fieldp rfl fo_54_0 | exact q_fielde rfl fo_54_0 | exact q_fieldr rfl fo_54_0) ?_)
  refine l_step (s_q rfl wn (by first | exact q_loadp sc_3 rfl (by repeat (first | exact Pick.here | apply Pick.there)) rfl | exact q_loade sc_3 rfl (by first | assumption | exact rd_ro (by assumption) | exact rd_row (by repeat (first | exact Pick.here | apply Pick.there))) (fun _ => rfl) (by first | assumption | omega) (by decide) rfl) ?_)
  refine l_step (s_q rfl wn (q_eql rfl rfl) ?_)
  refine l_step (s_q rfl wn (q_move rfl) ?_)
  refine Tr.env (.cons (t := 10) (v := .bool true) rfl (congrArg Value.bool (decide_eq_true rfl)) (EnvLe.refl _)) ?_
  refine l_step (s_q rfl (wy rfl rfl rfl) (by first | exact q_fieldp rfl fo_54_1 | exact q_fielde rfl fo_54_1 | exact q_fieldr rfl fo_54_1) ?_)
  refine l_step (s_q rfl (wy rfl rfl rfl) (by first | exact q_loadp sc_3 rfl (by repeat (first | exact Pick.here | apply Pick.there)) rfl | exact q_loade sc_3 rfl (by first | assumption | exact rd_ro (by assumption) | exact rd_row (by repeat (first | exact Pick.here | apply Pick.there))) (fun _ => rfl) (by first | assumption | omega) (by decide) rfl) ?_)
  refine l_step (s_q rfl (wy rfl rfl rfl) (by first | exact q_fieldp rfl fo_54_1 | exact q_fielde rfl fo_54_1 | exact q_fieldr rfl fo_54_1) ?_)
  refine l_step (s_q rfl (wy rfl rfl rfl) (by first | exact q_loadp sc_3 rfl (by repeat (first | exact Pick.here | apply Pick.there)) rfl | exact q_loade sc_3 rfl (by first | assumption | exact rd_ro (by assumption) | exact rd_row (by repeat (first | exact Pick.here | apply Pick.there))) (fun _ => rfl) (by first | assumption | omega) (by decide) rfl) ?_)
  refine l_step (s_q rfl (wy rfl rfl rfl) (q_eql rfl rfl) ?_)
  refine l_step (s_q rfl wn (q_pick rfl rfl rfl) ?_)
  refine l_step (s_q rfl wn (q_move rfl) ?_)
  refine Tr.env (.cons (t := 17) (v := .bool true) rfl (congrArg Value.bool (decide_eq_true rfl)) (EnvLe.refl _)) ?_
  refine l_step (s_q rfl (wy rfl rfl rfl) (by first | exact q_fieldp rfl fo_54_2 | exact q_fielde rfl fo_54_2 | exact q_fieldr rfl fo_54_2) ?_)
  refine l_step (s_q rfl (wy rfl rfl rfl) (by first | exact q_loadp sc_3 rfl (by repeat (first | exact Pick.here | apply Pick.there)) rfl | exact q_loade sc_3 rfl (by first | assumption | exact rd_ro (by assumption) | exact rd_row (by repeat (first | exact Pick.here | apply Pick.there))) (fun _ => rfl) (by first | assumption | omega) (by decide) rfl) ?_)
  refine l_step (s_q rfl (wy rfl rfl rfl) (by first | exact q_fieldp rfl fo_54_2 | exact q_fielde rfl fo_54_2 | exact q_fieldr rfl fo_54_2) ?_)
  refine l_step (s_q rfl (wy rfl rfl rfl) (by first | exact q_loadp sc_3 rfl (by repeat (first | exact Pick.here | apply Pick.there)) rfl | exact q_loade sc_3 rfl (by first | assumption | exact rd_ro (by assumption) | exact rd_row (by repeat (first | exact Pick.here | apply Pick.there))) (fun _ => rfl) (by first | assumption | omega) (by decide) rfl) ?_)
  refine l_step (s_q rfl (wy rfl rfl rfl) (q_eql rfl rfl) ?_)
  refine l_step (s_q rfl wn (q_pick rfl rfl rfl) ?_)
  refine l_step (s_q rfl wn (q_move rfl) ?_)
  refine Tr.env (.cons (t := 24) (v := .bool true) rfl (congrArg Value.bool (decide_eq_true rfl)) (EnvLe.refl _)) ?_
  refine l_step (s_q rfl (wy rfl rfl rfl) (by first | exact q_fieldp rfl fo_54_4 | exact q_fielde rfl fo_54_4 | exact q_fieldr rfl fo_54_4) ?_)
  refine l_step (s_q rfl (wy rfl rfl rfl) (by first | exact q_loadpa (vs := [_, _]) ag_52 rfl (by repeat (first | exact Pick.here | apply Pick.there)) rfl | exact q_loadea (vs := [_, _]) ag_52 rfl (by first | assumption | exact rd_ro (by assumption) | exact rd_row (by repeat (first | exact Pick.here | apply Pick.there))) (fun _ => rfl) (by first | assumption | omega) (by decide) (by decide) rfl) ?_)
  refine l_step (s_q rfl (wy rfl rfl rfl) (by first | exact q_fieldp rfl fo_54_4 | exact q_fielde rfl fo_54_4 | exact q_fieldr rfl fo_54_4) ?_)
  refine l_step (s_q rfl (wy rfl rfl rfl) (by first | exact q_loadpa (vs := [_, _]) ag_52 rfl (by repeat (first | exact Pick.here | apply Pick.there)) rfl | exact q_loadea (vs := [_, _]) ag_52 rfl (by first | assumption | exact rd_ro (by assumption) | exact rd_row (by repeat (first | exact Pick.here | apply Pick.there))) (fun _ => rfl) (by first | assumption | omega) (by decide) (by decide) rfl) ?_)
  refine l_step (s_q rfl (wy rfl rfl rfl) (q_eqlr (offs := [0, 1]) (by kernel_rfl) rfl rfl (by intro o ho; simp at ho; rcases ho with rfl | rfl <;> exact ⟨_, _, rfl⟩)) ?_)
  refine l_step (s_q rfl wn (q_pick rfl rfl rfl) ?_)
  refine l_step (s_q rfl wn (q_move rfl) ?_)
  refine Tr.env (.cons (t := 31) (v := .bool true) rfl (congrArg Value.bool rfl) (EnvLe.refl _)) ?_
  refine l_step (s_q rfl (wy rfl rfl rfl) (by first | exact q_fieldp rfl fo_54_3 | exact q_fielde rfl fo_54_3 | exact q_fieldr rfl fo_54_3) ?_)
  refine l_step (s_q rfl (wy rfl rfl rfl) (by first | exact q_fieldp rfl fo_50_0 | exact q_fielde rfl fo_50_0 | exact q_fieldr rfl fo_50_0) ?_)
  refine l_step (s_q rfl (wy rfl rfl rfl) (by first | exact q_loadp sc_3 rfl (by repeat (first | exact Pick.here | apply Pick.there)) rfl | exact q_loade sc_3 rfl (by first | assumption | exact rd_ro (by assumption) | exact rd_row (by repeat (first | exact Pick.here | apply Pick.there))) (fun _ => rfl) (by first | assumption | omega) (by decide) rfl) ?_)
  refine l_step (s_q rfl (wy rfl rfl rfl) (by first | exact q_fieldp rfl fo_54_3 | exact q_fielde rfl fo_54_3 | exact q_fieldr rfl fo_54_3) ?_)
  refine l_step (s_q rfl (wy rfl rfl rfl) (by first | exact q_fieldp rfl fo_50_0 | exact q_fielde rfl fo_50_0 | exact q_fieldr rfl fo_50_0) ?_)
  refine l_step (s_q rfl (wy rfl rfl rfl) (by first | exact q_loadp sc_3 rfl (by repeat (first | exact Pick.here | apply Pick.there)) rfl | exact q_loade sc_3 rfl (by first | assumption | exact rd_ro (by assumption) | exact rd_row (by repeat (first | exact Pick.here | apply Pick.there))) (fun _ => rfl) (by first | assumption | omega) (by decide) rfl) ?_)
  refine l_step (s_q rfl (wy rfl rfl rfl) (q_eql rfl rfl) ?_)
  refine l_step (s_q rfl wn (q_pick rfl rfl rfl) ?_)
  refine l_step (s_q rfl wn (q_move rfl) ?_)
  refine Tr.env (.cons (t := 40) (v := .bool true) rfl (congrArg Value.bool (decide_eq_true rfl)) (EnvLe.refl _)) ?_
  refine l_step (s_q rfl (wy rfl rfl rfl) (by first | exact q_fieldp rfl fo_54_3 | exact q_fielde rfl fo_54_3 | exact q_fieldr rfl fo_54_3) ?_)
  refine l_step (s_q rfl (wy rfl rfl rfl) (by first | exact q_fieldp rfl fo_50_1 | exact q_fielde rfl fo_50_1 | exact q_fieldr rfl fo_50_1) ?_)
  refine l_step (s_q rfl (wy rfl rfl rfl) (by first | exact q_loadp sc_3 rfl (by repeat (first | exact Pick.here | apply Pick.there)) rfl | exact q_loade sc_3 rfl (by first | assumption | exact rd_ro (by assumption) | exact rd_row (by repeat (first | exact Pick.here | apply Pick.there))) (fun _ => rfl) (by first | assumption | omega) (by decide) rfl) ?_)
  refine l_step (s_q rfl (wy rfl rfl rfl) (by first | exact q_fieldp rfl fo_54_3 | exact q_fielde rfl fo_54_3 | exact q_fieldr rfl fo_54_3) ?_)
  refine l_step (s_q rfl (wy rfl rfl rfl) (by first | exact q_fieldp rfl fo_50_1 | exact q_fielde rfl fo_50_1 | exact q_fieldr rfl fo_50_1) ?_)
  refine l_step (s_q rfl (wy rfl rfl rfl) (by first | exact q_loadp sc_3 rfl (by repeat (first | exact Pick.here | apply Pick.there)) rfl | exact q_loade sc_3 rfl (by first | assumption | exact rd_ro (by assumption) | exact rd_row (by repeat (first | exact Pick.here | apply Pick.there))) (fun _ => rfl) (by first | assumption | omega) (by decide) rfl) ?_)
  refine l_step (s_q rfl (wy rfl rfl rfl) (q_eql rfl rfl) ?_)
  refine l_step (s_q rfl wn (q_pick rfl rfl rfl) ?_)
  refine l_step (s_q rfl wn (q_move rfl) ?_)
  refine Tr.env (.cons (t := 49) (v := .bool true) rfl (congrArg Value.bool (decide_eq_true rfl)) (EnvLe.refl _)) ?_
  refine l_step (s_q rfl (wy rfl rfl rfl) (by first | exact q_fieldp rfl fo_54_3 | exact q_fielde rfl fo_54_3 | exact q_fieldr rfl fo_54_3) ?_)
  refine l_step (s_q rfl (wy rfl rfl rfl) (by first | exact q_fieldp rfl fo_50_2 | exact q_fielde rfl fo_50_2 | exact q_fieldr rfl fo_50_2) ?_)
  refine l_step (s_q rfl (wy rfl rfl rfl) (by first | exact q_loadp sc_3 rfl (by repeat (first | exact Pick.here | apply Pick.there)) rfl | exact q_loade sc_3 rfl (by first | assumption | exact rd_ro (by assumption) | exact rd_row (by repeat (first | exact Pick.here | apply Pick.there))) (fun _ => rfl) (by first | assumption | omega) (by decide) rfl) ?_)
  refine l_step (s_q rfl (wy rfl rfl rfl) (by first | exact q_fieldp rfl fo_54_3 | exact q_fielde rfl fo_54_3 | exact q_fieldr rfl fo_54_3) ?_)
  refine l_step (s_q rfl (wy rfl rfl rfl) (by first | exact q_fieldp rfl fo_50_2 | exact q_fielde rfl fo_50_2 | exact q_fieldr rfl fo_50_2) ?_)
  refine l_step (s_q rfl (wy rfl rfl rfl) (by first | exact q_loadp sc_3 rfl (by repeat (first | exact Pick.here | apply Pick.there)) rfl | exact q_loade sc_3 rfl (by first | assumption | exact rd_ro (by assumption) | exact rd_row (by repeat (first | exact Pick.here | apply Pick.there))) (fun _ => rfl) (by first | assumption | omega) (by decide) rfl) ?_)
  refine l_step (s_q rfl (wy rfl rfl rfl) (q_eql rfl rfl) ?_)
  refine l_step (s_q rfl wn (q_pick rfl rfl rfl) ?_)
  refine l_step (s_q rfl wn (q_move rfl) ?_)
  refine Tr.env (.cons (t := 58) (v := .bool true) rfl (congrArg Value.bool (decide_eq_true rfl)) (EnvLe.refl _)) ?_
  refine l_step (s_q rfl (wy rfl rfl rfl) (by first | exact q_fieldp rfl fo_54_3 | exact q_fielde rfl fo_54_3 | exact q_fieldr rfl fo_54_3) ?_)
  refine l_step (s_q rfl (wy rfl rfl rfl) (by first | exact q_fieldp rfl fo_50_3 | exact q_fielde rfl fo_50_3 | exact q_fieldr rfl fo_50_3) ?_)
  refine l_step (s_q rfl (wy rfl rfl rfl) (by first | exact q_loadp sc_4 rfl (by repeat (first | exact Pick.here | apply Pick.there)) rfl | exact q_loade sc_4 rfl (by first | assumption | exact rd_ro (by assumption) | exact rd_row (by repeat (first | exact Pick.here | apply Pick.there))) (fun _ => rfl) (by first | assumption | omega) (by decide) rfl) ?_)
  refine l_step (s_q rfl (wy rfl rfl rfl) (by first | exact q_fieldp rfl fo_54_3 | exact q_fielde rfl fo_54_3 | exact q_fieldr rfl fo_54_3) ?_)
  refine l_step (s_q rfl (wy rfl rfl rfl) (by first | exact q_fieldp rfl fo_50_3 | exact q_fielde rfl fo_50_3 | exact q_fieldr rfl fo_50_3) ?_)
  refine l_step (s_q rfl (wy rfl rfl rfl) (by first | exact q_loadp sc_4 rfl (by repeat (first | exact Pick.here | apply Pick.there)) rfl | exact q_loade sc_4 rfl (by first | assumption | exact rd_ro (by assumption) | exact rd_row (by repeat (first | exact Pick.here | apply Pick.there))) (fun _ => rfl) (by first | assumption | omega) (by decide) rfl) ?_)
  refine l_step (s_q rfl (wy rfl rfl rfl) (q_eqlb rfl rfl Try.underlying4) ?_)
  refine l_step (s_q rfl wn (q_pick rfl rfl rfl) ?_)
  refine l_step (s_q rfl wn (q_move rfl) ?_)
  refine Tr.env (.cons (t := 67) (v := .bool true) rfl (congrArg Value.bool (by simp)) (EnvLe.refl _)) ?_
  refine l_step (s_q rfl (wy rfl rfl rfl) (by first | exact q_fieldp rfl fo_54_3 | exact q_fielde rfl fo_54_3 | exact q_fieldr rfl fo_54_3) ?_)
  refine l_step (s_q rfl (wy rfl rfl rfl) (by first | exact q_fieldp rfl fo_50_4 | exact q_fielde rfl fo_50_4 | exact q_fieldr rfl fo_50_4) ?_)
  refine l_step (s_q rfl (wy rfl rfl rfl) (by first | exact q_loadpa (vs := [_, _, _]) ag_48 rfl (by repeat (first | exact Pick.here | apply Pick.there)) rfl | exact q_loadea (vs := [_, _, _]) ag_48 rfl (by first | assumption | exact rd_ro (by assumption) | exact rd_row (by repeat (first | exact Pick.here | apply Pick.there))) (fun _ => rfl) (by first | assumption | omega) (by decide) (by decide) rfl) ?_)
  refine l_step (s_q rfl (wy rfl rfl rfl) (by first | exact q_fieldp rfl fo_54_3 | exact q_fielde rfl fo_54_3 | exact q_fieldr rfl fo_54_3) ?_)
  refine l_step (s_q rfl (wy rfl rfl rfl) (by first | exact q_fieldp rfl fo_50_4 | exact q_fielde rfl fo_50_4 | exact q_fieldr rfl fo_50_4) ?_)
  refine l_step (s_q rfl (wy rfl rfl rfl) (by first | exact q_loadpa (vs := [_, _, _]) ag_48 rfl (by repeat (first | exact Pick.here | apply Pick.there)) rfl | exact q_loadea (vs := [_, _, _]) ag_48 rfl (by first | assumption | exact rd_ro (by assumption) | exact rd_row (by repeat (first | exact Pick.here | apply Pick.there))) (fun _ => rfl) (by first | assumption | omega) (by decide) (by decide) rfl) ?_)
  refine l_step (s_fn rfl (wy rfl rfl rfl) Try.func61 rfl (by kernel_rfl) rfl (psame_spec a.bud a.bad a.bud a.bad w1 w2 hs1 hs2 ρ _ (askRd_up rd1 (by (repeat refine Ent.skip ?_); exact Ent.app _ _)) (askRd_up rd2 (by (repeat refine Ent.skip ?_); exact Ent.app _ _))) (sel_all _) ?_)
  rintro _ _ _ - ⟨rfl, rfl, rfl⟩
  refine Tr.ent (Ent.cast (List.append_nil _)) ?_
  refine l_step (s_q rfl wn (q_pick rfl rfl rfl) ?_)
  refine l_step (s_q rfl wn (q_assign rfl) ?_)
  refine l_nil ?_
  refine k_then_n ?_
  refine c_ret ?_
  exact t_ret Γ rfl (.tmp rfl .nil) rfl (Hp.le_refl _) ⟨rfl, congrArg Value.bool (decide_eq_true (by rw [hw])), rfl⟩ (by (repeat refine Ent.skip ?_); exact Ent.refl _)

theorem target_spec (b : Nat) (c : Cl) (h : c.at_ < c.row.xs.length) (ρ : Hp) : Spec0 Try.prog 34 #[.pointer (some ⟨b, 0, none⟩)] ρ [.pts b (encCli c) 122, .row 3 1 c.row.a c.row.xs.length c.row.cap (c.row.xs.flatMap encI)] (fun v Γ' => v = .int .i64 (c.row.xs.getD c.at_ default) ∧ Γ' = [.pts b (encCli c) 122, .row 3 1 c.row.a c.row.xs.length c.row.cap (c.row.xs.flatMap encI)]) := by
  refine spec_of (n := 13) (vs := [_]) (σ := [(0, _)]) Try.func34 rfl rfl rfl rfl fun E Δ => ?_
  simp only [List.cons_append, List.nil_append]
  refine c_seq ?_
  refine c_region ?_
  refine l_step (s_q rfl wn (q_assign rfl) ?_)
  refine l_nil ?_
  refine k_then_n ?_
  refine c_seq ?_
  refine c_drawG (m := 11) (bs := #[false, false, false, false, false, false, false, false, false, false, false]) (by kernel_rfl) rfl (by kernel_rfl) ?_
  refine r_take (i := 0) (bs' := #[true, false, false, false, false, false, false, false, false, false, false]) rfl (by kernel_rfl) (by kernel_rfl) (by kernel_rfl) (fun _ _ _ h => h) rfl wn (q_move rfl) (Hp.le_refl _) (by repeat (first | exact Ent.nil _ | exact Ent.refl _ | (refine Ent.pick (by repeat (first | exact Pick.here | apply Pick.there)) ?_) | refine Ent.skip ?_)) (by kernel_rfl) ?_
  refine r_take (i := 1) (bs' := #[true, true, false, false, false, false, false, false, false, false, false]) rfl (by kernel_rfl) (by kernel_rfl) (by kernel_rfl) (fun _ _ _ h => h) rfl wn (q_nilCheck rfl) (Hp.le_refl _) (by repeat (first | exact Ent.nil _ | exact Ent.refl _ | (refine Ent.pick (by repeat (first | exact Pick.here | apply Pick.there)) ?_) | refine Ent.skip ?_)) (by kernel_rfl) ?_
  refine r_take (i := 2) (bs' := #[true, true, true, false, false, false, false, false, false, false, false]) rfl (by kernel_rfl) (by kernel_rfl) (by kernel_rfl) (fun _ _ _ h => h) rfl wn (by first | exact q_fieldp rfl fo_122_2 | exact q_fielde rfl fo_122_2 | exact q_fieldr rfl fo_122_2) (Hp.le_refl _) (by repeat (first | exact Ent.nil _ | exact Ent.refl _ | (refine Ent.pick (by repeat (first | exact Pick.here | apply Pick.there)) ?_) | refine Ent.skip ?_)) (by kernel_rfl) ?_
  refine r_take (i := 3) (bs' := #[true, true, true, true, false, false, false, false, false, false, false]) rfl (by kernel_rfl) (by kernel_rfl) (by kernel_rfl) (fun _ _ _ h => h) rfl wn (by first | exact q_loadp sc_40 rfl (by repeat (first | exact Pick.here | apply Pick.there)) rfl | exact q_loade sc_40 rfl (by first | assumption | exact rd_ro (by assumption) | exact rd_row (by repeat (first | exact Pick.here | apply Pick.there))) (fun _ => rfl) (by first | assumption | omega) (by decide) rfl) (Hp.le_refl _) (by repeat (first | exact Ent.nil _ | exact Ent.refl _ | (refine Ent.pick (by repeat (first | exact Pick.here | apply Pick.there)) ?_) | refine Ent.skip ?_)) (by kernel_rfl) ?_
  refine r_take (i := 4) (bs' := #[true, true, true, true, true, false, false, false, false, false, false]) rfl (by kernel_rfl) (by kernel_rfl) (by kernel_rfl) (fun _ _ _ h => h) rfl wn (q_move rfl) (Hp.le_refl _) (by repeat (first | exact Ent.nil _ | exact Ent.refl _ | (refine Ent.pick (by repeat (first | exact Pick.here | apply Pick.there)) ?_) | refine Ent.skip ?_)) (by kernel_rfl) ?_
  refine r_take (i := 5) (bs' := #[true, true, true, true, true, true, false, false, false, false, false]) rfl (by kernel_rfl) (by kernel_rfl) (by kernel_rfl) (fun _ _ _ h => h) rfl wn (q_nilCheck rfl) (Hp.le_refl _) (by repeat (first | exact Ent.nil _ | exact Ent.refl _ | (refine Ent.pick (by repeat (first | exact Pick.here | apply Pick.there)) ?_) | refine Ent.skip ?_)) (by kernel_rfl) ?_
  refine r_take (i := 6) (bs' := #[true, true, true, true, true, true, true, false, false, false, false]) rfl (by kernel_rfl) (by kernel_rfl) (by kernel_rfl) (fun _ _ _ h => h) rfl wn (by first | exact q_fieldp rfl fo_122_3 | exact q_fielde rfl fo_122_3 | exact q_fieldr rfl fo_122_3) (Hp.le_refl _) (by repeat (first | exact Ent.nil _ | exact Ent.refl _ | (refine Ent.pick (by repeat (first | exact Pick.here | apply Pick.there)) ?_) | refine Ent.skip ?_)) (by kernel_rfl) ?_
  refine r_take (i := 7) (bs' := #[true, true, true, true, true, true, true, true, false, false, false]) rfl (by kernel_rfl) (by kernel_rfl) (by kernel_rfl) (fun _ _ _ h => h) rfl wn (by first | exact q_loadp sc_3 rfl (by repeat (first | exact Pick.here | apply Pick.there)) rfl | exact q_loade sc_3 rfl (by first | assumption | exact rd_ro (by assumption) | exact rd_row (by repeat (first | exact Pick.here | apply Pick.there))) (fun _ => rfl) (by first | assumption | omega) (by decide) rfl) (Hp.le_refl _) (by repeat (first | exact Ent.nil _ | exact Ent.refl _ | (refine Ent.pick (by repeat (first | exact Pick.here | apply Pick.there)) ?_) | refine Ent.skip ?_)) (by kernel_rfl) ?_
  refine r_take (i := 8) (bs' := #[true, true, true, true, true, true, true, true, true, false, false]) rfl (by kernel_rfl) (by kernel_rfl) (by kernel_rfl) (fun _ _ _ h => h) rfl wn (q_indexe c.at_ Try.underlying40 sz_3 rfl rfl (rd_row (by repeat (first | exact Pick.here | apply Pick.there))) (by decide) rfl h) (Hp.le_refl _) (by repeat (first | exact Ent.nil _ | exact Ent.refl _ | (refine Ent.pick (by repeat (first | exact Pick.here | apply Pick.there)) ?_) | refine Ent.skip ?_)) (by kernel_rfl) ?_
  refine r_take (i := 9) (bs' := #[true, true, true, true, true, true, true, true, true, true, false]) rfl (by kernel_rfl) (by kernel_rfl) (by kernel_rfl) (fun _ _ _ h => h) rfl wn (by first | exact q_loadp sc_3 rfl (by repeat (first | exact Pick.here | apply Pick.there)) rfl | exact q_loade sc_3 rfl (by first | assumption | exact rd_ro (by assumption) | exact rd_row (by repeat (first | exact Pick.here | apply Pick.there))) (fun _ => rfl) (by first | assumption | omega) (by decide) rfl) (Hp.le_refl _) (by repeat (first | exact Ent.nil _ | exact Ent.refl _ | (refine Ent.pick (by repeat (first | exact Pick.here | apply Pick.there)) ?_) | refine Ent.skip ?_)) (by kernel_rfl) ?_
  refine r_take (i := 10) (bs' := #[true, true, true, true, true, true, true, true, true, true, true]) rfl (by kernel_rfl) (by kernel_rfl) (by kernel_rfl) (fun _ _ _ h => h) rfl wn (q_assign rfl) (Hp.le_refl _) (by repeat (first | exact Ent.nil _ | exact Ent.refl _ | (refine Ent.pick (by repeat (first | exact Pick.here | apply Pick.there)) ?_) | refine Ent.skip ?_)) (by kernel_rfl) ?_
  refine r_done (by kernel_rfl) ?_
  refine k_then_n ?_
  refine c_ret ?_
  exact t_ret [_, _] rfl (.tmp rfl .nil) rfl (Hp.le_refl _) ⟨rfl, rfl, rfl⟩ (by repeat (first | exact Ent.nil _ | exact Ent.refl _ | (refine Ent.pick (by repeat (first | exact Pick.here | apply Pick.there)) ?_) | refine Ent.skip ?_))

theorem rnext_spec (b : Nat) (c : Rc) (h : c.at_ < c.row.xs.length) (hl : c.row.xs.length ≤ 1000000000) (ρ : Hp) : Spec0 Try.prog 60 #[.pointer (some ⟨b, 0, none⟩)] ρ [.pts b (encRc c) 74] (fun v Γ' => v = .tuple #[] ∧ Γ' = [.pts b (encRc (rnext c)) 74]) := by
  refine spec_of (n := 23) (vs := [_]) (σ := [(0, _)]) Try.func60 rfl rfl rfl rfl fun E Δ => ?_
  simp only [List.cons_append, List.nil_append]
  refine c_seq ?_
  refine c_region ?_
  refine l_step (s_q rfl wn (q_move rfl) ?_)
  refine l_step (s_q rfl wn (q_move rfl) ?_)
  refine l_step (s_q rfl wn (q_nilCheck rfl) ?_)
  refine l_step (s_q rfl wn (by first | exact q_fieldp rfl fo_74_2 | exact q_fielde rfl fo_74_2 | exact q_fieldr rfl fo_74_2) ?_)
  refine l_step (s_q rfl wn (by first | exact q_loadp sc_3 rfl (by repeat (first | exact Pick.here | apply Pick.there)) rfl | exact q_loade sc_3 rfl (by first | assumption | exact rd_ro (by assumption) | exact rd_row (by repeat (first | exact Pick.here | apply Pick.there))) (fun _ => rfl) (by first | assumption | omega) (by decide) rfl) ?_)
  refine l_step (s_q rfl wn (by first | exact q_add rfl rfl (by omega) (by omega) | exact q_addw rfl rfl) ?_)
  refine l_step (s_q rfl wn (q_nilCheck rfl) ?_)
  refine l_step (s_q rfl wn (by first | exact q_fieldp rfl fo_74_2 | exact q_fielde rfl fo_74_2 | exact q_fieldr rfl fo_74_2) ?_)
  refine Tr.env (.cons (t := 7) (v := .int .i64 ((c.at_ + 1 : Nat) : Int)) rfl (inte (by simp)) (EnvLe.refl _)) ?_
  refine l_step (s_s0 wn (s_storep (ws := [_]) (cs := encRc c) (cs' := encRc ({ c with at_ := c.at_ + 1 } : Rc)) rfl rfl rfl sz_3 (by simp [Value.oneCell']) (by simp [encRc, encAsk, encRep]) rfl (by repeat (first | exact Pick.here | apply Pick.there))) ?_)
  rintro _ _ ⟨rfl, rfl⟩
  refine l_nil ?_
  refine k_then_n ?_
  refine c_seq ?_
  refine c_drawG (m := 10) (bs := #[false, false, false, false, false, false, false, false, false, false]) (by kernel_rfl) rfl (by kernel_rfl) ?_
  refine r_take (i := 0) (bs' := #[true, false, false, false, false, false, false, false, false, false]) rfl (by kernel_rfl) (by kernel_rfl) (by kernel_rfl) (fun _ _ _ h => h) rfl wn (q_move rfl) (Hp.le_refl _) (by repeat (first | exact Ent.nil _ | exact Ent.refl _ | (refine Ent.pick (by repeat (first | exact Pick.here | apply Pick.there)) ?_) | refine Ent.skip ?_)) (by kernel_rfl) ?_
  refine r_take (i := 1) (bs' := #[true, true, false, false, false, false, false, false, false, false]) rfl (by kernel_rfl) (by kernel_rfl) (by kernel_rfl) (fun _ _ _ h => h) rfl wn (q_nilCheck rfl) (Hp.le_refl _) (by repeat (first | exact Ent.nil _ | exact Ent.refl _ | (refine Ent.pick (by repeat (first | exact Pick.here | apply Pick.there)) ?_) | refine Ent.skip ?_)) (by kernel_rfl) ?_
  refine r_take (i := 2) (bs' := #[true, true, true, false, false, false, false, false, false, false]) rfl (by kernel_rfl) (by kernel_rfl) (by kernel_rfl) (fun _ _ _ h => h) rfl wn (by first | exact q_fieldp rfl fo_74_2 | exact q_fielde rfl fo_74_2 | exact q_fieldr rfl fo_74_2) (Hp.le_refl _) (by repeat (first | exact Ent.nil _ | exact Ent.refl _ | (refine Ent.pick (by repeat (first | exact Pick.here | apply Pick.there)) ?_) | refine Ent.skip ?_)) (by kernel_rfl) ?_
  refine r_take (i := 3) (bs' := #[true, true, true, true, false, false, false, false, false, false]) rfl (by kernel_rfl) (by kernel_rfl) (by kernel_rfl) (fun _ _ _ h => h) rfl wn (by first | exact q_loadp sc_3 rfl (by repeat (first | exact Pick.here | apply Pick.there)) rfl | exact q_loade sc_3 rfl (by first | assumption | exact rd_ro (by assumption) | exact rd_row (by repeat (first | exact Pick.here | apply Pick.there))) (fun _ => rfl) (by first | assumption | omega) (by decide) rfl) (Hp.le_refl _) (by repeat (first | exact Ent.nil _ | exact Ent.refl _ | (refine Ent.pick (by repeat (first | exact Pick.here | apply Pick.there)) ?_) | refine Ent.skip ?_)) (by kernel_rfl) ?_
  refine r_take (i := 4) (bs' := #[true, true, true, true, true, false, false, false, false, false]) rfl (by kernel_rfl) (by kernel_rfl) (by kernel_rfl) (fun _ _ _ h => h) rfl wn (q_move rfl) (Hp.le_refl _) (by repeat (first | exact Ent.nil _ | exact Ent.refl _ | (refine Ent.pick (by repeat (first | exact Pick.here | apply Pick.there)) ?_) | refine Ent.skip ?_)) (by kernel_rfl) ?_
  refine r_take (i := 5) (bs' := #[true, true, true, true, true, true, false, false, false, false]) rfl (by kernel_rfl) (by kernel_rfl) (by kernel_rfl) (fun _ _ _ h => h) rfl wn (q_nilCheck rfl) (Hp.le_refl _) (by repeat (first | exact Ent.nil _ | exact Ent.refl _ | (refine Ent.pick (by repeat (first | exact Pick.here | apply Pick.there)) ?_) | refine Ent.skip ?_)) (by kernel_rfl) ?_
  refine r_take (i := 6) (bs' := #[true, true, true, true, true, true, true, false, false, false]) rfl (by kernel_rfl) (by kernel_rfl) (by kernel_rfl) (fun _ _ _ h => h) rfl wn (by first | exact q_fieldp rfl fo_74_5 | exact q_fielde rfl fo_74_5 | exact q_fieldr rfl fo_74_5) (Hp.le_refl _) (by repeat (first | exact Ent.nil _ | exact Ent.refl _ | (refine Ent.pick (by repeat (first | exact Pick.here | apply Pick.there)) ?_) | refine Ent.skip ?_)) (by kernel_rfl) ?_
  refine r_take (i := 7) (bs' := #[true, true, true, true, true, true, true, true, false, false]) rfl (by kernel_rfl) (by kernel_rfl) (by kernel_rfl) (fun _ _ _ h => h) rfl wn (by first | exact q_loadp sc_40 rfl (by repeat (first | exact Pick.here | apply Pick.there)) rfl | exact q_loade sc_40 rfl (by first | assumption | exact rd_ro (by assumption) | exact rd_row (by repeat (first | exact Pick.here | apply Pick.there))) (fun _ => rfl) (by first | assumption | omega) (by decide) rfl) (Hp.le_refl _) (by repeat (first | exact Ent.nil _ | exact Ent.refl _ | (refine Ent.pick (by repeat (first | exact Pick.here | apply Pick.there)) ?_) | refine Ent.skip ?_)) (by kernel_rfl) ?_
  refine r_take (i := 8) (bs' := #[true, true, true, true, true, true, true, true, true, false]) rfl (by kernel_rfl) (by kernel_rfl) (by kernel_rfl) (fun _ _ _ h => h) rfl wn (q_len Try.underlying40 rfl) (Hp.le_refl _) (by repeat (first | exact Ent.nil _ | exact Ent.refl _ | (refine Ent.pick (by repeat (first | exact Pick.here | apply Pick.there)) ?_) | refine Ent.skip ?_)) (by kernel_rfl) ?_
  refine r_take (i := 9) (bs' := #[true, true, true, true, true, true, true, true, true, true]) rfl (by kernel_rfl) (by kernel_rfl) (by kernel_rfl) (fun _ _ _ h => h) rfl wn (q_eql rfl rfl) (Hp.le_refl _) (by repeat (first | exact Ent.nil _ | exact Ent.refl _ | (refine Ent.pick (by repeat (first | exact Pick.here | apply Pick.there)) ?_) | refine Ent.skip ?_)) (by kernel_rfl) ?_
  refine r_done (by kernel_rfl) ?_
  refine k_then_n ?_
  first | refine c_if rfl (fun h0 => ?_) (fun h0 => ?_) | refine c_cond rfl (fun h0 => ?_) (fun h0 => ?_)
  · skip
    refine c_region ?_
    refine l_step (s_q rfl wn (q_move rfl) ?_)
    refine l_step (s_q rfl wn (q_nilCheck rfl) ?_)
    refine l_step (s_q rfl wn (by first | exact q_fieldp rfl fo_74_2 | exact q_fielde rfl fo_74_2 | exact q_fieldr rfl fo_74_2) ?_)
    refine l_step (s_s0 wn (s_storep (ws := [_]) (cs := encRc ({ c with at_ := c.at_ + 1 } : Rc)) (cs' := encRc ({ c with at_ := 0 } : Rc)) rfl rfl rfl sz_3 (by simp [Value.oneCell']) (by simp [encRc, encAsk, encRep]) rfl (by repeat (first | exact Pick.here | apply Pick.there))) ?_)
    rintro _ _ ⟨rfl, rfl⟩
    refine l_nil ?_
    refine k_body_n ?_
    exact t_ret [.pts b (encRc (rnext c)) 74] rfl .nil rfl (Hp.le_refl _) ⟨rfl, rfl, rfl⟩ (by rw [rnext_yes (by simp only [] at h0; omega)]; exact (by repeat (first | exact Ent.nil _ | exact Ent.refl _ | (refine Ent.pick (by repeat (first | exact Pick.here | apply Pick.there)) ?_) | refine Ent.skip ?_)))
  · skip
    refine c_skip ?_
    refine k_body_n ?_
    exact t_ret [.pts b (encRc (rnext c)) 74] rfl .nil rfl (Hp.le_refl _) ⟨rfl, rfl, rfl⟩ (by rw [rnext_no (by simp only [] at h0; omega)]; exact (by repeat (first | exact Ent.nil _ | exact Ent.refl _ | (refine Ent.pick (by repeat (first | exact Pick.here | apply Pick.there)) ?_) | refine Ent.skip ?_)))

theorem rbegin_spec (b : Nat) (c : Rc) (a : AskV) (hq : 0 ≤ c.seq ∧ c.seq ≤ 1000000000) (ρ : Hp) : Spec0 Try.prog 29 #[.pointer (some ⟨b, 0, none⟩), .agg (encAsk a).toArray] ρ [.pts b (encRc c) 74] (fun v Γ' => (c.on = true ∧ v = .int .i64 91 ∧ Γ' = [.pts b (encRc c) 74]) ∨ (c.on = false ∧ ¬ (1 ≤ a.kind ∧ a.kind ≤ 3) ∧ v = .int .i64 2 ∧ Γ' = [.pts b (encRc c) 74]) ∨ (c.on = false ∧ (1 ≤ a.kind ∧ a.kind ≤ 3) ∧ v = .int .i64 0 ∧ Γ' = [.pts b (encRc (rbegun c a)) 74])) := by
  refine spec_of (n := 56) (vs := [_, _]) (σ := [(0, _), (1, _)]) Try.func29 rfl rfl rfl rfl fun E Δ => ?_
  simp only [List.cons_append, List.nil_append]
  refine c_seq ?_
  refine c_region ?_
  refine l_step (s_s rfl wn (s_box rfl rfl) ?_)
  rintro _ _ ⟨b3, rfl, rfl⟩
  refine l_step (s_q rfl wn (q_assign rfl) ?_)
  refine l_nil ?_
  refine k_then_n ?_
  refine c_seq ?_
  refine c_seq ?_
  refine c_region ?_
  refine l_step (s_q rfl wn (q_move rfl) ?_)
  refine l_step (s_q rfl wn (q_nilCheck rfl) ?_)
  refine l_step (s_q rfl wn (by first | exact q_fieldp rfl fo_74_6 | exact q_fielde rfl fo_74_6 | exact q_fieldr rfl fo_74_6) ?_)
  refine l_step (s_q rfl wn (by first | exact q_loadp sc_4 rfl (by repeat (first | exact Pick.here | apply Pick.there)) rfl | exact q_loade sc_4 rfl (by first | assumption | exact rd_ro (by assumption) | exact rd_row (by repeat (first | exact Pick.here | apply Pick.there))) (fun _ => rfl) (by first | assumption | omega) (by decide) rfl) ?_)
  refine l_nil ?_
  refine k_then_n ?_
  first | refine c_if rfl (fun h0 => ?_) (fun h0 => ?_) | refine c_cond rfl (fun h0 => ?_) (fun h0 => ?_)
  · skip
    refine c_seq ?_
    refine c_region ?_
    refine l_step (s_q rfl wn (q_assign rfl) ?_)
    refine l_nil ?_
    refine k_then_n ?_
    refine c_ret ?_
    refine k_then_r ?_
    exact t_ret [_] rfl (.tmp rfl .nil) rfl (Hp.le_refl _) ⟨rfl, .inl ⟨h0, rfl, rfl⟩⟩ (by repeat (first | exact Ent.nil _ | exact Ent.refl _ | (refine Ent.pick (by repeat (first | exact Pick.here | apply Pick.there)) ?_) | refine Ent.skip ?_))
  · skip
    refine c_skip ?_
    refine k_then_n ?_
    refine c_seq ?_
    refine c_seq ?_
    refine c_region ?_
    refine l_step (s_q rfl wn (by first | exact q_fieldp rfl fo_54_0 | exact q_fielde rfl fo_54_0 | exact q_fieldr rfl fo_54_0) ?_)
    refine l_step (s_q rfl wn (by first | exact q_loadp sc_3 rfl (by repeat (first | exact Pick.here | apply Pick.there)) rfl | exact q_loade sc_3 rfl (by first | assumption | exact rd_ro (by assumption) | exact rd_row (by repeat (first | exact Pick.here | apply Pick.there))) (fun _ => rfl) (by first | assumption | omega) (by decide) rfl) ?_)
    refine l_step (s_q rfl wn (q_neq rfl rfl) ?_)
    refine l_step (s_q rfl wn (q_move rfl) ?_)
    first | refine t_splitd (d := 12) rfl (fun g3_3 => ?_) (fun g3_3 => ?_) | refine t_split (d := 12) rfl (fun g3_3 => ?_) (fun g3_3 => ?_)
    · skip
      refine l_step (s_q rfl (wy rfl rfl rfl) (by first | exact q_fieldp rfl fo_54_0 | exact q_fielde rfl fo_54_0 | exact q_fieldr rfl fo_54_0) ?_)
      refine l_step (s_q rfl (wy rfl rfl rfl) (by first | exact q_loadp sc_3 rfl (by repeat (first | exact Pick.here | apply Pick.there)) rfl | exact q_loade sc_3 rfl (by first | assumption | exact rd_ro (by assumption) | exact rd_row (by repeat (first | exact Pick.here | apply Pick.there))) (fun _ => rfl) (by first | assumption | omega) (by decide) rfl) ?_)
      refine l_step (s_q rfl (wy rfl rfl rfl) (q_neq rfl rfl) ?_)
      refine l_step (s_q rfl wn (q_pick rfl rfl rfl) ?_)
      refine l_step (s_q rfl wn (q_move rfl) ?_)
      first | refine t_splitd (d := 17) rfl (fun g3_8 => ?_) (fun g3_8 => ?_) | refine t_split (d := 17) rfl (fun g3_8 => ?_) (fun g3_8 => ?_)
      · skip
        refine l_step (s_q rfl (wy rfl rfl rfl) (by first | exact q_fieldp rfl fo_54_0 | exact q_fielde rfl fo_54_0 | exact q_fieldr rfl fo_54_0) ?_)
        refine l_step (s_q rfl (wy rfl rfl rfl) (by first | exact q_loadp sc_3 rfl (by repeat (first | exact Pick.here | apply Pick.there)) rfl | exact q_loade sc_3 rfl (by first | assumption | exact rd_ro (by assumption) | exact rd_row (by repeat (first | exact Pick.here | apply Pick.there))) (fun _ => rfl) (by first | assumption | omega) (by decide) rfl) ?_)
        refine l_step (s_q rfl (wy rfl rfl rfl) (q_neq rfl rfl) ?_)
        refine l_step (s_q rfl wn (q_pick rfl rfl rfl) ?_)
        refine l_nil ?_
        refine k_then_n ?_
        first | refine c_if rfl (fun h1 => ?_) (fun h1 => ?_) | refine c_cond rfl (fun h1 => ?_) (fun h1 => ?_)
        · skip
          refine c_seq ?_
          refine c_region ?_
          refine l_step (s_q rfl wn (q_assign rfl) ?_)
          refine l_nil ?_
          refine k_then_n ?_
          refine c_ret ?_
          refine k_then_r ?_
          exact t_ret [_] rfl (.tmp rfl .nil) rfl (Hp.le_refl _) ⟨rfl, .inr (.inl ⟨h0, by omega, rfl, rfl⟩)⟩ (by repeat (first | exact Ent.nil _ | exact Ent.refl _ | (refine Ent.pick (by repeat (first | exact Pick.here | apply Pick.there)) ?_) | refine Ent.skip ?_))
        · skip
          refine c_skip ?_
          refine k_then_n ?_
          refine c_seq ?_
          refine c_region ?_
          refine l_step (s_q rfl wn (q_move rfl) ?_)
          refine l_step (s_q rfl wn (q_move rfl) ?_)
          refine l_step (s_q rfl wn (q_nilCheck rfl) ?_)
          refine l_step (s_q rfl wn (by first | exact q_fieldp rfl fo_74_3 | exact q_fielde rfl fo_74_3 | exact q_fieldr rfl fo_74_3) ?_)
          refine l_step (s_q rfl wn (by first | exact q_loadp sc_3 rfl (by repeat (first | exact Pick.here | apply Pick.there)) rfl | exact q_loade sc_3 rfl (by first | assumption | exact rd_ro (by assumption) | exact rd_row (by repeat (first | exact Pick.here | apply Pick.there))) (fun _ => rfl) (by first | assumption | omega) (by decide) rfl) ?_)
          refine l_step (s_q rfl wn (by first | exact q_add rfl rfl (by omega) (by omega) | exact q_addw rfl rfl) ?_)
          refine l_step (s_q rfl wn (q_nilCheck rfl) ?_)
          refine l_step (s_q rfl wn (by first | exact q_fieldp rfl fo_74_3 | exact q_fielde rfl fo_74_3 | exact q_fieldr rfl fo_74_3) ?_)
          refine l_step (s_s0 wn (s_storep (ws := [_]) (cs := encRc c) (cs' := encRc ({ c with seq := c.seq + 1 } : Rc)) rfl rfl rfl sz_3 (by simp [Value.oneCell']) (by simp [encRc, encAsk, encRep]) rfl (by repeat (first | exact Pick.here | apply Pick.there))) ?_)
          rintro _ _ ⟨rfl, rfl⟩
          refine l_nil ?_
          refine k_then_n ?_
          refine c_seq ?_
          refine c_region ?_
          refine l_step (s_q rfl wn (q_move rfl) ?_)
          refine l_step (s_q rfl wn (q_loadpa (vs := encAsk a) ag_54 rfl (by repeat (first | exact Pick.here | apply Pick.there)) rfl) ?_)
          refine l_step (s_q rfl wn (q_nilCheck rfl) ?_)
          refine l_step (s_q rfl wn (by first | exact q_fieldp rfl fo_74_8 | exact q_fielde rfl fo_74_8 | exact q_fieldr rfl fo_74_8) ?_)
          refine l_step (s_s0 wn (s_storep (ws := (encAsk a)) (cs := encRc ({ c with seq := c.seq + 1 } : Rc)) (cs' := encRc ({ c with seq := c.seq + 1, ask := a } : Rc)) rfl rfl rfl sz_54 (oneAsk _) (by simp [encRc, encAsk, encRep]) rfl (by repeat (first | exact Pick.here | apply Pick.there))) ?_)
          rintro _ _ ⟨rfl, rfl⟩
          refine l_nil ?_
          refine k_then_n ?_
          refine c_seq ?_
          refine c_region ?_
          refine l_step (s_q rfl wn (q_move rfl) ?_)
          refine l_step (s_q rfl wn (q_move rfl) ?_)
          refine l_step (s_q rfl wn (q_nilCheck rfl) ?_)
          refine l_step (s_q rfl wn (by first | exact q_fieldp rfl fo_74_0 | exact q_fielde rfl fo_74_0 | exact q_fieldr rfl fo_74_0) ?_)
          refine l_step (s_q rfl wn (by first | exact q_loadp sc_3 rfl (by repeat (first | exact Pick.here | apply Pick.there)) rfl | exact q_loade sc_3 rfl (by first | assumption | exact rd_ro (by assumption) | exact rd_row (by repeat (first | exact Pick.here | apply Pick.there))) (fun _ => rfl) (by first | assumption | omega) (by decide) rfl) ?_)
          refine l_step (s_q rfl wn (q_nilCheck rfl) ?_)
          refine l_step (s_q rfl wn (by first | exact q_fieldp rfl fo_74_8 | exact q_fielde rfl fo_74_8 | exact q_fieldr rfl fo_74_8) ?_)
          refine l_step (s_q rfl wn (by first | exact q_fieldp rfl fo_54_1 | exact q_fielde rfl fo_54_1 | exact q_fieldr rfl fo_54_1) ?_)
          refine l_step (s_s0 wn (s_storep (ws := [_]) (cs := encRc ({ c with seq := c.seq + 1, ask := a } : Rc)) (cs' := encRc ({ c with seq := c.seq + 1, ask := { a with client := c.id } } : Rc)) rfl rfl rfl sz_3 (by simp [Value.oneCell']) (by simp [encRc, encAsk, encRep]) rfl (by repeat (first | exact Pick.here | apply Pick.there))) ?_)
          rintro _ _ ⟨rfl, rfl⟩
          refine l_nil ?_
          refine k_then_n ?_
          refine c_seq ?_
          refine c_region ?_
          refine l_step (s_q rfl wn (q_move rfl) ?_)
          refine l_step (s_q rfl wn (q_move rfl) ?_)
          refine l_step (s_q rfl wn (q_nilCheck rfl) ?_)
          refine l_step (s_q rfl wn (by first | exact q_fieldp rfl fo_74_3 | exact q_fielde rfl fo_74_3 | exact q_fieldr rfl fo_74_3) ?_)
          refine l_step (s_q rfl wn (by first | exact q_loadp sc_3 rfl (by repeat (first | exact Pick.here | apply Pick.there)) rfl | exact q_loade sc_3 rfl (by first | assumption | exact rd_ro (by assumption) | exact rd_row (by repeat (first | exact Pick.here | apply Pick.there))) (fun _ => rfl) (by first | assumption | omega) (by decide) rfl) ?_)
          refine l_step (s_q rfl wn (q_nilCheck rfl) ?_)
          refine l_step (s_q rfl wn (by first | exact q_fieldp rfl fo_74_8 | exact q_fielde rfl fo_74_8 | exact q_fieldr rfl fo_74_8) ?_)
          refine l_step (s_q rfl wn (by first | exact q_fieldp rfl fo_54_2 | exact q_fielde rfl fo_54_2 | exact q_fieldr rfl fo_54_2) ?_)
          refine l_step (s_s0 wn (s_storep (ws := [_]) (cs := encRc ({ c with seq := c.seq + 1, ask := { a with client := c.id } } : Rc)) (cs' := encRc ({ c with seq := c.seq + 1, ask := { a with client := c.id, seq := c.seq + 1 } } : Rc)) rfl rfl rfl sz_3 (by simp [Value.oneCell']) (by simp [encRc, encAsk, encRep]) rfl (by repeat (first | exact Pick.here | apply Pick.there))) ?_)
          rintro _ _ ⟨rfl, rfl⟩
          refine l_nil ?_
          refine k_then_n ?_
          refine c_seq ?_
          refine c_region ?_
          refine l_step (s_q rfl wn (q_move rfl) ?_)
          refine l_step (s_q rfl wn (q_nilCheck rfl) ?_)
          refine l_step (s_q rfl wn (by first | exact q_fieldp rfl fo_74_6 | exact q_fielde rfl fo_74_6 | exact q_fieldr rfl fo_74_6) ?_)
          refine l_step (s_s0 wn (s_storep (ws := [_]) (cs := encRc ({ c with seq := c.seq + 1, ask := { a with client := c.id, seq := c.seq + 1 } } : Rc)) (cs' := encRc ({ c with seq := c.seq + 1, ask := { a with client := c.id, seq := c.seq + 1 }, on := true } : Rc)) rfl rfl rfl sz_4 (by simp [Value.oneCell']) (by simp [encRc, encAsk, encRep]) rfl (by repeat (first | exact Pick.here | apply Pick.there))) ?_)
          rintro _ _ ⟨rfl, rfl⟩
          refine l_nil ?_
          refine k_then_n ?_
          refine c_seq ?_
          refine c_region ?_
          refine l_step (s_q rfl wn (q_move rfl) ?_)
          refine l_step (s_q rfl wn (q_nilCheck rfl) ?_)
          refine l_step (s_q rfl wn (by first | exact q_fieldp rfl fo_74_4 | exact q_fielde rfl fo_74_4 | exact q_fieldr rfl fo_74_4) ?_)
          refine l_step (s_s0 wn (s_storep (ws := [_]) (cs := encRc ({ c with seq := c.seq + 1, ask := { a with client := c.id, seq := c.seq + 1 }, on := true } : Rc)) (cs' := encRc (rbegun c a)) rfl rfl rfl sz_3 (by simp [Value.oneCell']) (by simp [encRc, encAsk, encRep]) rfl (by repeat (first | exact Pick.here | apply Pick.there))) ?_)
          rintro _ _ ⟨rfl, rfl⟩
          refine l_nil ?_
          refine k_then_n ?_
          refine c_seq ?_
          refine c_region ?_
          refine l_step (s_q rfl wn (q_assign rfl) ?_)
          refine l_nil ?_
          refine k_then_n ?_
          refine c_ret ?_
          exact t_ret [_] rfl (.tmp rfl .nil) rfl (Hp.le_refl _) ⟨rfl, .inr (.inr ⟨h0, ⟨by omega, by omega⟩, rfl, rfl⟩)⟩ (by repeat (first | exact Ent.nil _ | exact Ent.refl _ | (refine Ent.pick (by repeat (first | exact Pick.here | apply Pick.there)) ?_) | refine Ent.skip ?_))
      · skip
        refine l_step (s_no rfl (wno rfl rfl (by decide)) ?_)
        refine l_step (s_no rfl (wno rfl rfl (by decide)) ?_)
        refine l_step (s_no rfl (wno rfl rfl (by decide)) ?_)
        refine l_step (s_q rfl wn (q_pick rfl rfl rfl) ?_)
        refine l_nil ?_
        refine k_then_n ?_
        refine c_no rfl ?_
        refine c_skip ?_
        refine k_then_n ?_
        refine c_seq ?_
        refine c_region ?_
        refine l_step (s_q rfl wn (q_move rfl) ?_)
        refine l_step (s_q rfl wn (q_move rfl) ?_)
        refine l_step (s_q rfl wn (q_nilCheck rfl) ?_)
        refine l_step (s_q rfl wn (by first | exact q_fieldp rfl fo_74_3 | exact q_fielde rfl fo_74_3 | exact q_fieldr rfl fo_74_3) ?_)
        refine l_step (s_q rfl wn (by first | exact q_loadp sc_3 rfl (by repeat (first | exact Pick.here | apply Pick.there)) rfl | exact q_loade sc_3 rfl (by first | assumption | exact rd_ro (by assumption) | exact rd_row (by repeat (first | exact Pick.here | apply Pick.there))) (fun _ => rfl) (by first | assumption | omega) (by decide) rfl) ?_)
        refine l_step (s_q rfl wn (by first | exact q_add rfl rfl (by omega) (by omega) | exact q_addw rfl rfl) ?_)
        refine l_step (s_q rfl wn (q_nilCheck rfl) ?_)
        refine l_step (s_q rfl wn (by first | exact q_fieldp rfl fo_74_3 | exact q_fielde rfl fo_74_3 | exact q_fieldr rfl fo_74_3) ?_)
        refine l_step (s_s0 wn (s_storep (ws := [_]) (cs := encRc c) (cs' := encRc ({ c with seq := c.seq + 1 } : Rc)) rfl rfl rfl sz_3 (by simp [Value.oneCell']) (by simp [encRc, encAsk, encRep]) rfl (by repeat (first | exact Pick.here | apply Pick.there))) ?_)
        rintro _ _ ⟨rfl, rfl⟩
        refine l_nil ?_
        refine k_then_n ?_
        refine c_seq ?_
        refine c_region ?_
        refine l_step (s_q rfl wn (q_move rfl) ?_)
        refine l_step (s_q rfl wn (q_loadpa (vs := encAsk a) ag_54 rfl (by repeat (first | exact Pick.here | apply Pick.there)) rfl) ?_)
        refine l_step (s_q rfl wn (q_nilCheck rfl) ?_)
        refine l_step (s_q rfl wn (by first | exact q_fieldp rfl fo_74_8 | exact q_fielde rfl fo_74_8 | exact q_fieldr rfl fo_74_8) ?_)
        refine l_step (s_s0 wn (s_storep (ws := (encAsk a)) (cs := encRc ({ c with seq := c.seq + 1 } : Rc)) (cs' := encRc ({ c with seq := c.seq + 1, ask := a } : Rc)) rfl rfl rfl sz_54 (oneAsk _) (by simp [encRc, encAsk, encRep]) rfl (by repeat (first | exact Pick.here | apply Pick.there))) ?_)
        rintro _ _ ⟨rfl, rfl⟩
        refine l_nil ?_
        refine k_then_n ?_
        refine c_seq ?_
        refine c_region ?_
        refine l_step (s_q rfl wn (q_move rfl) ?_)
        refine l_step (s_q rfl wn (q_move rfl) ?_)
        refine l_step (s_q rfl wn (q_nilCheck rfl) ?_)
        refine l_step (s_q rfl wn (by first | exact q_fieldp rfl fo_74_0 | exact q_fielde rfl fo_74_0 | exact q_fieldr rfl fo_74_0) ?_)
        refine l_step (s_q rfl wn (by first | exact q_loadp sc_3 rfl (by repeat (first | exact Pick.here | apply Pick.there)) rfl | exact q_loade sc_3 rfl (by first | assumption | exact rd_ro (by assumption) | exact rd_row (by repeat (first | exact Pick.here | apply Pick.there))) (fun _ => rfl) (by first | assumption | omega) (by decide) rfl) ?_)
        refine l_step (s_q rfl wn (q_nilCheck rfl) ?_)
        refine l_step (s_q rfl wn (by first | exact q_fieldp rfl fo_74_8 | exact q_fielde rfl fo_74_8 | exact q_fieldr rfl fo_74_8) ?_)
        refine l_step (s_q rfl wn (by first | exact q_fieldp rfl fo_54_1 | exact q_fielde rfl fo_54_1 | exact q_fieldr rfl fo_54_1) ?_)
        refine l_step (s_s0 wn (s_storep (ws := [_]) (cs := encRc ({ c with seq := c.seq + 1, ask := a } : Rc)) (cs' := encRc ({ c with seq := c.seq + 1, ask := { a with client := c.id } } : Rc)) rfl rfl rfl sz_3 (by simp [Value.oneCell']) (by simp [encRc, encAsk, encRep]) rfl (by repeat (first | exact Pick.here | apply Pick.there))) ?_)
        rintro _ _ ⟨rfl, rfl⟩
        refine l_nil ?_
        refine k_then_n ?_
        refine c_seq ?_
        refine c_region ?_
        refine l_step (s_q rfl wn (q_move rfl) ?_)
        refine l_step (s_q rfl wn (q_move rfl) ?_)
        refine l_step (s_q rfl wn (q_nilCheck rfl) ?_)
        refine l_step (s_q rfl wn (by first | exact q_fieldp rfl fo_74_3 | exact q_fielde rfl fo_74_3 | exact q_fieldr rfl fo_74_3) ?_)
        refine l_step (s_q rfl wn (by first | exact q_loadp sc_3 rfl (by repeat (first | exact Pick.here | apply Pick.there)) rfl | exact q_loade sc_3 rfl (by first | assumption | exact rd_ro (by assumption) | exact rd_row (by repeat (first | exact Pick.here | apply Pick.there))) (fun _ => rfl) (by first | assumption | omega) (by decide) rfl) ?_)
        refine l_step (s_q rfl wn (q_nilCheck rfl) ?_)
        refine l_step (s_q rfl wn (by first | exact q_fieldp rfl fo_74_8 | exact q_fielde rfl fo_74_8 | exact q_fieldr rfl fo_74_8) ?_)
        refine l_step (s_q rfl wn (by first | exact q_fieldp rfl fo_54_2 | exact q_fielde rfl fo_54_2 | exact q_fieldr rfl fo_54_2) ?_)
        refine l_step (s_s0 wn (s_storep (ws := [_]) (cs := encRc ({ c with seq := c.seq + 1, ask := { a with client := c.id } } : Rc)) (cs' := encRc ({ c with seq := c.seq + 1, ask := { a with client := c.id, seq := c.seq + 1 } } : Rc)) rfl rfl rfl sz_3 (by simp [Value.oneCell']) (by simp [encRc, encAsk, encRep]) rfl (by repeat (first | exact Pick.here | apply Pick.there))) ?_)
        rintro _ _ ⟨rfl, rfl⟩
        refine l_nil ?_
        refine k_then_n ?_
        refine c_seq ?_
        refine c_region ?_
        refine l_step (s_q rfl wn (q_move rfl) ?_)
        refine l_step (s_q rfl wn (q_nilCheck rfl) ?_)
        refine l_step (s_q rfl wn (by first | exact q_fieldp rfl fo_74_6 | exact q_fielde rfl fo_74_6 | exact q_fieldr rfl fo_74_6) ?_)
        refine l_step (s_s0 wn (s_storep (ws := [_]) (cs := encRc ({ c with seq := c.seq + 1, ask := { a with client := c.id, seq := c.seq + 1 } } : Rc)) (cs' := encRc ({ c with seq := c.seq + 1, ask := { a with client := c.id, seq := c.seq + 1 }, on := true } : Rc)) rfl rfl rfl sz_4 (by simp [Value.oneCell']) (by simp [encRc, encAsk, encRep]) rfl (by repeat (first | exact Pick.here | apply Pick.there))) ?_)
        rintro _ _ ⟨rfl, rfl⟩
        refine l_nil ?_
        refine k_then_n ?_
        refine c_seq ?_
        refine c_region ?_
        refine l_step (s_q rfl wn (q_move rfl) ?_)
        refine l_step (s_q rfl wn (q_nilCheck rfl) ?_)
        refine l_step (s_q rfl wn (by first | exact q_fieldp rfl fo_74_4 | exact q_fielde rfl fo_74_4 | exact q_fieldr rfl fo_74_4) ?_)
        refine l_step (s_s0 wn (s_storep (ws := [_]) (cs := encRc ({ c with seq := c.seq + 1, ask := { a with client := c.id, seq := c.seq + 1 }, on := true } : Rc)) (cs' := encRc (rbegun c a)) rfl rfl rfl sz_3 (by simp [Value.oneCell']) (by simp [encRc, encAsk, encRep]) rfl (by repeat (first | exact Pick.here | apply Pick.there))) ?_)
        rintro _ _ ⟨rfl, rfl⟩
        refine l_nil ?_
        refine k_then_n ?_
        refine c_seq ?_
        refine c_region ?_
        refine l_step (s_q rfl wn (q_assign rfl) ?_)
        refine l_nil ?_
        refine k_then_n ?_
        refine c_ret ?_
        exact t_ret [_] rfl (.tmp rfl .nil) rfl (Hp.le_refl _) ⟨rfl, .inr (.inr ⟨h0, ⟨by omega, by omega⟩, rfl, rfl⟩)⟩ (by repeat (first | exact Ent.nil _ | exact Ent.refl _ | (refine Ent.pick (by repeat (first | exact Pick.here | apply Pick.there)) ?_) | refine Ent.skip ?_))
    · skip
      refine l_step (s_no rfl (wno rfl rfl (by decide)) ?_)
      refine l_step (s_no rfl (wno rfl rfl (by decide)) ?_)
      refine l_step (s_no rfl (wno rfl rfl (by decide)) ?_)
      refine l_step (s_q rfl wn (q_pick rfl rfl rfl) ?_)
      refine l_step (s_q rfl wn (q_move rfl) ?_)
      skip
      refine l_step (s_no rfl (wno rfl rfl (by decide)) ?_)
      refine l_step (s_no rfl (wno rfl rfl (by decide)) ?_)
      refine l_step (s_no rfl (wno rfl rfl (by decide)) ?_)
      refine l_step (s_q rfl wn (q_pick rfl rfl rfl) ?_)
      refine l_nil ?_
      refine k_then_n ?_
      refine c_no rfl ?_
      refine c_skip ?_
      refine k_then_n ?_
      refine c_seq ?_
      refine c_region ?_
      refine l_step (s_q rfl wn (q_move rfl) ?_)
      refine l_step (s_q rfl wn (q_move rfl) ?_)
      refine l_step (s_q rfl wn (q_nilCheck rfl) ?_)
      refine l_step (s_q rfl wn (by first | exact q_fieldp rfl fo_74_3 | exact q_fielde rfl fo_74_3 | exact q_fieldr rfl fo_74_3) ?_)
      refine l_step (s_q rfl wn (by first | exact q_loadp sc_3 rfl (by repeat (first | exact Pick.here | apply Pick.there)) rfl | exact q_loade sc_3 rfl (by first | assumption | exact rd_ro (by assumption) | exact rd_row (by repeat (first | exact Pick.here | apply Pick.there))) (fun _ => rfl) (by first | assumption | omega) (by decide) rfl) ?_)
      refine l_step (s_q rfl wn (by first | exact q_add rfl rfl (by omega) (by omega) | exact q_addw rfl rfl) ?_)
      refine l_step (s_q rfl wn (q_nilCheck rfl) ?_)
      refine l_step (s_q rfl wn (by first | exact q_fieldp rfl fo_74_3 | exact q_fielde rfl fo_74_3 | exact q_fieldr rfl fo_74_3) ?_)
      refine l_step (s_s0 wn (s_storep (ws := [_]) (cs := encRc c) (cs' := encRc ({ c with seq := c.seq + 1 } : Rc)) rfl rfl rfl sz_3 (by simp [Value.oneCell']) (by simp [encRc, encAsk, encRep]) rfl (by repeat (first | exact Pick.here | apply Pick.there))) ?_)
      rintro _ _ ⟨rfl, rfl⟩
      refine l_nil ?_
      refine k_then_n ?_
      refine c_seq ?_
      refine c_region ?_
      refine l_step (s_q rfl wn (q_move rfl) ?_)
      refine l_step (s_q rfl wn (q_loadpa (vs := encAsk a) ag_54 rfl (by repeat (first | exact Pick.here | apply Pick.there)) rfl) ?_)
      refine l_step (s_q rfl wn (q_nilCheck rfl) ?_)
      refine l_step (s_q rfl wn (by first | exact q_fieldp rfl fo_74_8 | exact q_fielde rfl fo_74_8 | exact q_fieldr rfl fo_74_8) ?_)
      refine l_step (s_s0 wn (s_storep (ws := (encAsk a)) (cs := encRc ({ c with seq := c.seq + 1 } : Rc)) (cs' := encRc ({ c with seq := c.seq + 1, ask := a } : Rc)) rfl rfl rfl sz_54 (oneAsk _) (by simp [encRc, encAsk, encRep]) rfl (by repeat (first | exact Pick.here | apply Pick.there))) ?_)
      rintro _ _ ⟨rfl, rfl⟩
      refine l_nil ?_
      refine k_then_n ?_
      refine c_seq ?_
      refine c_region ?_
      refine l_step (s_q rfl wn (q_move rfl) ?_)
      refine l_step (s_q rfl wn (q_move rfl) ?_)
      refine l_step (s_q rfl wn (q_nilCheck rfl) ?_)
      refine l_step (s_q rfl wn (by first | exact q_fieldp rfl fo_74_0 | exact q_fielde rfl fo_74_0 | exact q_fieldr rfl fo_74_0) ?_)
      refine l_step (s_q rfl wn (by first | exact q_loadp sc_3 rfl (by repeat (first | exact Pick.here | apply Pick.there)) rfl | exact q_loade sc_3 rfl (by first | assumption | exact rd_ro (by assumption) | exact rd_row (by repeat (first | exact Pick.here | apply Pick.there))) (fun _ => rfl) (by first | assumption | omega) (by decide) rfl) ?_)
      refine l_step (s_q rfl wn (q_nilCheck rfl) ?_)
      refine l_step (s_q rfl wn (by first | exact q_fieldp rfl fo_74_8 | exact q_fielde rfl fo_74_8 | exact q_fieldr rfl fo_74_8) ?_)
      refine l_step (s_q rfl wn (by first | exact q_fieldp rfl fo_54_1 | exact q_fielde rfl fo_54_1 | exact q_fieldr rfl fo_54_1) ?_)
      refine l_step (s_s0 wn (s_storep (ws := [_]) (cs := encRc ({ c with seq := c.seq + 1, ask := a } : Rc)) (cs' := encRc ({ c with seq := c.seq + 1, ask := { a with client := c.id } } : Rc)) rfl rfl rfl sz_3 (by simp [Value.oneCell']) (by simp [encRc, encAsk, encRep]) rfl (by repeat (first | exact Pick.here | apply Pick.there))) ?_)
      rintro _ _ ⟨rfl, rfl⟩
      refine l_nil ?_
      refine k_then_n ?_
      refine c_seq ?_
      refine c_region ?_
      refine l_step (s_q rfl wn (q_move rfl) ?_)
      refine l_step (s_q rfl wn (q_move rfl) ?_)
      refine l_step (s_q rfl wn (q_nilCheck rfl) ?_)
      refine l_step (s_q rfl wn (by first | exact q_fieldp rfl fo_74_3 | exact q_fielde rfl fo_74_3 | exact q_fieldr rfl fo_74_3) ?_)
      refine l_step (s_q rfl wn (by first | exact q_loadp sc_3 rfl (by repeat (first | exact Pick.here | apply Pick.there)) rfl | exact q_loade sc_3 rfl (by first | assumption | exact rd_ro (by assumption) | exact rd_row (by repeat (first | exact Pick.here | apply Pick.there))) (fun _ => rfl) (by first | assumption | omega) (by decide) rfl) ?_)
      refine l_step (s_q rfl wn (q_nilCheck rfl) ?_)
      refine l_step (s_q rfl wn (by first | exact q_fieldp rfl fo_74_8 | exact q_fielde rfl fo_74_8 | exact q_fieldr rfl fo_74_8) ?_)
      refine l_step (s_q rfl wn (by first | exact q_fieldp rfl fo_54_2 | exact q_fielde rfl fo_54_2 | exact q_fieldr rfl fo_54_2) ?_)
      refine l_step (s_s0 wn (s_storep (ws := [_]) (cs := encRc ({ c with seq := c.seq + 1, ask := { a with client := c.id } } : Rc)) (cs' := encRc ({ c with seq := c.seq + 1, ask := { a with client := c.id, seq := c.seq + 1 } } : Rc)) rfl rfl rfl sz_3 (by simp [Value.oneCell']) (by simp [encRc, encAsk, encRep]) rfl (by repeat (first | exact Pick.here | apply Pick.there))) ?_)
      rintro _ _ ⟨rfl, rfl⟩
      refine l_nil ?_
      refine k_then_n ?_
      refine c_seq ?_
      refine c_region ?_
      refine l_step (s_q rfl wn (q_move rfl) ?_)
      refine l_step (s_q rfl wn (q_nilCheck rfl) ?_)
      refine l_step (s_q rfl wn (by first | exact q_fieldp rfl fo_74_6 | exact q_fielde rfl fo_74_6 | exact q_fieldr rfl fo_74_6) ?_)
      refine l_step (s_s0 wn (s_storep (ws := [_]) (cs := encRc ({ c with seq := c.seq + 1, ask := { a with client := c.id, seq := c.seq + 1 } } : Rc)) (cs' := encRc ({ c with seq := c.seq + 1, ask := { a with client := c.id, seq := c.seq + 1 }, on := true } : Rc)) rfl rfl rfl sz_4 (by simp [Value.oneCell']) (by simp [encRc, encAsk, encRep]) rfl (by repeat (first | exact Pick.here | apply Pick.there))) ?_)
      rintro _ _ ⟨rfl, rfl⟩
      refine l_nil ?_
      refine k_then_n ?_
      refine c_seq ?_
      refine c_region ?_
      refine l_step (s_q rfl wn (q_move rfl) ?_)
      refine l_step (s_q rfl wn (q_nilCheck rfl) ?_)
      refine l_step (s_q rfl wn (by first | exact q_fieldp rfl fo_74_4 | exact q_fielde rfl fo_74_4 | exact q_fieldr rfl fo_74_4) ?_)
      refine l_step (s_s0 wn (s_storep (ws := [_]) (cs := encRc ({ c with seq := c.seq + 1, ask := { a with client := c.id, seq := c.seq + 1 }, on := true } : Rc)) (cs' := encRc (rbegun c a)) rfl rfl rfl sz_3 (by simp [Value.oneCell']) (by simp [encRc, encAsk, encRep]) rfl (by repeat (first | exact Pick.here | apply Pick.there))) ?_)
      rintro _ _ ⟨rfl, rfl⟩
      refine l_nil ?_
      refine k_then_n ?_
      refine c_seq ?_
      refine c_region ?_
      refine l_step (s_q rfl wn (q_assign rfl) ?_)
      refine l_nil ?_
      refine k_then_n ?_
      refine c_ret ?_
      exact t_ret [_] rfl (.tmp rfl .nil) rfl (Hp.le_refl _) ⟨rfl, .inr (.inr ⟨h0, ⟨by omega, by omega⟩, rfl, rfl⟩)⟩ (by repeat (first | exact Ent.nil _ | exact Ent.refl _ | (refine Ent.pick (by repeat (first | exact Pick.here | apply Pick.there)) ?_) | refine Ent.skip ?_))

theorem rtick_spec (b : Nat) (c : Rc) (h : c.at_ < c.row.xs.length) (hl : c.row.xs.length ≤ 1000000000) (hs : c.since ≤ 1000000000) (ρ : Hp) : Spec0 Try.prog 30 #[.pointer (some ⟨b, 0, none⟩)] ρ [.pts b (encRc c) 74, .row 3 1 c.row.a c.row.xs.length c.row.cap (c.row.xs.flatMap encI)] (fun v Γ' => v = .int .i64 (rtick c).2 ∧ Γ' = [.pts b (encRc (rtick c).1) 74, .row 3 1 c.row.a c.row.xs.length c.row.cap (c.row.xs.flatMap encI)]) := by
  refine spec_of (n := 45) (vs := [_]) (σ := [(0, _)]) Try.func30 rfl rfl rfl rfl fun E Δ => ?_
  simp only [List.cons_append, List.nil_append]
  refine c_seq ?_
  refine c_region ?_
  refine l_step (s_q rfl wn (q_assign rfl) ?_)
  refine l_nil ?_
  refine k_then_n ?_
  refine c_seq ?_
  refine c_seq ?_
  refine c_region ?_
  refine l_step (s_q rfl wn (q_move rfl) ?_)
  refine l_step (s_q rfl wn (q_nilCheck rfl) ?_)
  refine l_step (s_q rfl wn (by first | exact q_fieldp rfl fo_74_6 | exact q_fielde rfl fo_74_6 | exact q_fieldr rfl fo_74_6) ?_)
  refine l_step (s_q rfl wn (by first | exact q_loadp sc_4 rfl (by repeat (first | exact Pick.here | apply Pick.there)) rfl | exact q_loade sc_4 rfl (by first | assumption | exact rd_ro (by assumption) | exact rd_row (by repeat (first | exact Pick.here | apply Pick.there))) (fun _ => rfl) (by first | assumption | omega) (by decide) rfl) ?_)
  refine l_step (s_q rfl wn (q_not rfl) ?_)
  refine l_nil ?_
  refine k_then_n ?_
  first | refine c_if rfl (fun h0 => ?_) (fun h0 => ?_) | refine c_cond rfl (fun h0 => ?_) (fun h0 => ?_)
  · skip
    refine c_seq ?_
    refine c_region ?_
    refine l_step (s_q rfl wn (q_assign rfl) ?_)
    refine l_nil ?_
    refine k_then_n ?_
    refine c_ret ?_
    refine k_then_r ?_
    exact t_ret [.pts b (encRc (rtick c).1) 74, .row 3 1 c.row.a c.row.xs.length c.row.cap (c.row.xs.flatMap encI)] rfl (.tmp rfl .nil) rfl (Hp.le_refl _) ⟨rfl, (by rw [rtick_off (by simpa using h0)]; rfl), rfl⟩ (by rw [rtick_off (by simpa using h0)]; exact (by repeat (first | exact Ent.nil _ | exact Ent.refl _ | (refine Ent.pick (by repeat (first | exact Pick.here | apply Pick.there)) ?_) | refine Ent.skip ?_)))
  · skip
    refine c_skip ?_
    refine k_then_n ?_
    refine c_seq ?_
    refine c_seq ?_
    refine c_region ?_
    refine l_step (s_q rfl wn (q_move rfl) ?_)
    refine l_step (s_q rfl wn (q_nilCheck rfl) ?_)
    refine l_step (s_q rfl wn (by first | exact q_fieldp rfl fo_74_4 | exact q_fielde rfl fo_74_4 | exact q_fieldr rfl fo_74_4) ?_)
    refine l_step (s_q rfl wn (by first | exact q_loadp sc_3 rfl (by repeat (first | exact Pick.here | apply Pick.there)) rfl | exact q_loade sc_3 rfl (by first | assumption | exact rd_ro (by assumption) | exact rd_row (by repeat (first | exact Pick.here | apply Pick.there))) (fun _ => rfl) (by first | assumption | omega) (by decide) rfl) ?_)
    refine l_step (s_q rfl wn (q_geq rfl rfl) ?_)
    refine l_nil ?_
    refine k_then_n ?_
    first | refine c_if rfl (fun h1 => ?_) (fun h1 => ?_) | refine c_cond rfl (fun h1 => ?_) (fun h1 => ?_)
    · skip
      refine c_seq ?_
      refine c_region ?_
      refine l_step (s_q rfl wn (q_move rfl) ?_)
      refine l_step (s_q rfl wn (q_move rfl) ?_)
      refine l_step (s_q rfl wn (q_nilCheck rfl) ?_)
      refine l_step (s_q rfl wn (by first | exact q_fieldp rfl fo_74_4 | exact q_fielde rfl fo_74_4 | exact q_fieldr rfl fo_74_4) ?_)
      refine l_step (s_q rfl wn (by first | exact q_loadp sc_3 rfl (by repeat (first | exact Pick.here | apply Pick.there)) rfl | exact q_loade sc_3 rfl (by first | assumption | exact rd_ro (by assumption) | exact rd_row (by repeat (first | exact Pick.here | apply Pick.there))) (fun _ => rfl) (by first | assumption | omega) (by decide) rfl) ?_)
      refine l_step (s_q rfl wn (by first | exact q_add rfl rfl (by omega) (by omega) | exact q_addw rfl rfl) ?_)
      refine l_step (s_q rfl wn (q_nilCheck rfl) ?_)
      refine l_step (s_q rfl wn (by first | exact q_fieldp rfl fo_74_4 | exact q_fielde rfl fo_74_4 | exact q_fieldr rfl fo_74_4) ?_)
      refine l_step (s_s0 wn (s_storep (ws := [_]) (cs := encRc c) (cs' := encRc ({ c with since := c.since + 1 } : Rc)) rfl rfl rfl sz_3 (by simp [Value.oneCell']) (by simp [encRc, encAsk, encRep]) rfl (by repeat (first | exact Pick.here | apply Pick.there))) ?_)
      rintro _ _ ⟨rfl, rfl⟩
      refine l_nil ?_
      refine k_then_n ?_
      refine c_seq ?_
      refine c_seq ?_
      refine c_drawG (m := 9) (bs := #[false, false, false, false, false, false, false, false, false]) (by kernel_rfl) rfl (by kernel_rfl) ?_
      refine r_take (i := 0) (bs' := #[true, false, false, false, false, false, false, false, false]) rfl (by kernel_rfl) (by kernel_rfl) (by kernel_rfl) (fun _ _ _ h => h) rfl wn (q_move rfl) (Hp.le_refl _) (by repeat (first | exact Ent.nil _ | exact Ent.refl _ | (refine Ent.pick (by repeat (first | exact Pick.here | apply Pick.there)) ?_) | refine Ent.skip ?_)) (by kernel_rfl) ?_
      refine r_take (i := 1) (bs' := #[true, true, false, false, false, false, false, false, false]) rfl (by kernel_rfl) (by kernel_rfl) (by kernel_rfl) (fun _ _ _ h => h) rfl wn (q_nilCheck rfl) (Hp.le_refl _) (by repeat (first | exact Ent.nil _ | exact Ent.refl _ | (refine Ent.pick (by repeat (first | exact Pick.here | apply Pick.there)) ?_) | refine Ent.skip ?_)) (by kernel_rfl) ?_
      refine r_take (i := 2) (bs' := #[true, true, true, false, false, false, false, false, false]) rfl (by kernel_rfl) (by kernel_rfl) (by kernel_rfl) (fun _ _ _ h => h) rfl wn (by first | exact q_fieldp rfl fo_74_4 | exact q_fielde rfl fo_74_4 | exact q_fieldr rfl fo_74_4) (Hp.le_refl _) (by repeat (first | exact Ent.nil _ | exact Ent.refl _ | (refine Ent.pick (by repeat (first | exact Pick.here | apply Pick.there)) ?_) | refine Ent.skip ?_)) (by kernel_rfl) ?_
      refine r_take (i := 3) (bs' := #[true, true, true, true, false, false, false, false, false]) rfl (by kernel_rfl) (by kernel_rfl) (by kernel_rfl) (fun _ _ _ h => h) rfl wn (by first | exact q_loadp sc_3 rfl (by repeat (first | exact Pick.here | apply Pick.there)) rfl | exact q_loade sc_3 rfl (by first | assumption | exact rd_ro (by assumption) | exact rd_row (by repeat (first | exact Pick.here | apply Pick.there))) (fun _ => rfl) (by first | assumption | omega) (by decide) rfl) (Hp.le_refl _) (by repeat (first | exact Ent.nil _ | exact Ent.refl _ | (refine Ent.pick (by repeat (first | exact Pick.here | apply Pick.there)) ?_) | refine Ent.skip ?_)) (by kernel_rfl) ?_
      refine r_take (i := 4) (bs' := #[true, true, true, true, true, false, false, false, false]) rfl (by kernel_rfl) (by kernel_rfl) (by kernel_rfl) (fun _ _ _ h => h) rfl wn (q_move rfl) (Hp.le_refl _) (by repeat (first | exact Ent.nil _ | exact Ent.refl _ | (refine Ent.pick (by repeat (first | exact Pick.here | apply Pick.there)) ?_) | refine Ent.skip ?_)) (by kernel_rfl) ?_
      refine r_take (i := 5) (bs' := #[true, true, true, true, true, true, false, false, false]) rfl (by kernel_rfl) (by kernel_rfl) (by kernel_rfl) (fun _ _ _ h => h) rfl wn (q_nilCheck rfl) (Hp.le_refl _) (by repeat (first | exact Ent.nil _ | exact Ent.refl _ | (refine Ent.pick (by repeat (first | exact Pick.here | apply Pick.there)) ?_) | refine Ent.skip ?_)) (by kernel_rfl) ?_
      refine r_take (i := 6) (bs' := #[true, true, true, true, true, true, true, false, false]) rfl (by kernel_rfl) (by kernel_rfl) (by kernel_rfl) (fun _ _ _ h => h) rfl wn (by first | exact q_fieldp rfl fo_74_1 | exact q_fielde rfl fo_74_1 | exact q_fieldr rfl fo_74_1) (Hp.le_refl _) (by repeat (first | exact Ent.nil _ | exact Ent.refl _ | (refine Ent.pick (by repeat (first | exact Pick.here | apply Pick.there)) ?_) | refine Ent.skip ?_)) (by kernel_rfl) ?_
      refine r_take (i := 7) (bs' := #[true, true, true, true, true, true, true, true, false]) rfl (by kernel_rfl) (by kernel_rfl) (by kernel_rfl) (fun _ _ _ h => h) rfl wn (by first | exact q_loadp sc_3 rfl (by repeat (first | exact Pick.here | apply Pick.there)) rfl | exact q_loade sc_3 rfl (by first | assumption | exact rd_ro (by assumption) | exact rd_row (by repeat (first | exact Pick.here | apply Pick.there))) (fun _ => rfl) (by first | assumption | omega) (by decide) rfl) (Hp.le_refl _) (by repeat (first | exact Ent.nil _ | exact Ent.refl _ | (refine Ent.pick (by repeat (first | exact Pick.here | apply Pick.there)) ?_) | refine Ent.skip ?_)) (by kernel_rfl) ?_
      refine r_take (i := 8) (bs' := #[true, true, true, true, true, true, true, true, true]) rfl (by kernel_rfl) (by kernel_rfl) (by kernel_rfl) (fun _ _ _ h => h) rfl wn (q_lss rfl rfl) (Hp.le_refl _) (by repeat (first | exact Ent.nil _ | exact Ent.refl _ | (refine Ent.pick (by repeat (first | exact Pick.here | apply Pick.there)) ?_) | refine Ent.skip ?_)) (by kernel_rfl) ?_
      refine r_done (by kernel_rfl) ?_
      refine k_then_n ?_
      first | refine c_if rfl (fun h2 => ?_) (fun h2 => ?_) | refine c_cond rfl (fun h2 => ?_) (fun h2 => ?_)
      · skip
        refine c_seq ?_
        refine c_region ?_
        refine l_step (s_q rfl wn (q_assign rfl) ?_)
        refine l_nil ?_
        refine k_then_n ?_
        refine c_ret ?_
        refine k_then_r ?_
        refine k_then_r ?_
        exact t_ret [.pts b (encRc (rtick c).1) 74, .row 3 1 c.row.a c.row.xs.length c.row.cap (c.row.xs.flatMap encI)] rfl (.tmp rfl .nil) rfl (Hp.le_refl _) ⟨rfl, (by rw [rtick_wait (by simpa using h0) h1 h2]; rfl), rfl⟩ (by rw [rtick_wait (by simpa using h0) h1 h2]; exact (by repeat (first | exact Ent.nil _ | exact Ent.refl _ | (refine Ent.pick (by repeat (first | exact Pick.here | apply Pick.there)) ?_) | refine Ent.skip ?_)))
      · skip
        refine c_skip ?_
        refine k_then_n ?_
        refine c_region ?_
        refine l_step (s_q rfl wn (q_move rfl) ?_)
        refine l_step (s_fn rfl wn Try.func60 rfl (by kernel_rfl) rfl (rnext_spec b { c with since := c.since + 1 } h hl ρ) (by repeat (first | exact Sel.nil | exact Pick.here | apply Sel.cons | apply Pick.there)) ?_)
        rintro _ _ _ - ⟨rfl, rfl, rfl⟩
        try simp only [List.cons_append, List.nil_append]
        refine l_nil ?_
        refine k_then_n ?_
        refine c_seq ?_
        refine c_region ?_
        refine l_step (s_q rfl wn (q_move rfl) ?_)
        refine l_step (s_q rfl wn (q_nilCheck rfl) ?_)
        refine l_step (s_q rfl wn (by first | exact q_fieldp rfl fo_74_4 | exact q_fielde rfl fo_74_4 | exact q_fieldr rfl fo_74_4) ?_)
        refine l_step (s_s0 wn (s_storep (ws := [_]) (cs := encRc (rnext { c with since := c.since + 1 })) (cs' := encRc ({ rnext { c with since := c.since + 1 } with since := 0 } : Rc)) rfl rfl rfl sz_3 (by simp [Value.oneCell']) (by simp [encRc, encAsk, encRep]) rfl (by repeat (first | exact Pick.here | apply Pick.there))) ?_)
        rintro _ _ ⟨rfl, rfl⟩
        refine l_nil ?_
        refine k_then_n ?_
        refine c_seq ?_
        refine c_drawG (m := 11) (bs := #[false, false, false, false, false, false, false, false, false, false, false]) (by kernel_rfl) rfl (by kernel_rfl) ?_
        have hat : (({ rnext { c with since := c.since + 1 } with since := 0 } : Rc)).at_ < c.row.xs.length := rnext_lt (c := { c with since := c.since + 1 }) h
        refine r_take (i := 0) (bs' := #[true, false, false, false, false, false, false, false, false, false, false]) rfl (by kernel_rfl) (by kernel_rfl) (by kernel_rfl) (fun _ _ _ h => h) rfl wn (q_move rfl) (Hp.le_refl _) (by repeat (first | exact Ent.nil _ | exact Ent.refl _ | (refine Ent.pick (by repeat (first | exact Pick.here | apply Pick.there)) ?_) | refine Ent.skip ?_)) (by kernel_rfl) ?_
        refine r_take (i := 1) (bs' := #[true, true, false, false, false, false, false, false, false, false, false]) rfl (by kernel_rfl) (by kernel_rfl) (by kernel_rfl) (fun _ _ _ h => h) rfl wn (q_nilCheck rfl) (Hp.le_refl _) (by repeat (first | exact Ent.nil _ | exact Ent.refl _ | (refine Ent.pick (by repeat (first | exact Pick.here | apply Pick.there)) ?_) | refine Ent.skip ?_)) (by kernel_rfl) ?_
        refine r_take (i := 2) (bs' := #[true, true, true, false, false, false, false, false, false, false, false]) rfl (by kernel_rfl) (by kernel_rfl) (by kernel_rfl) (fun _ _ _ h => h) rfl wn (by first | exact q_fieldp rfl fo_74_5 | exact q_fielde rfl fo_74_5 | exact q_fieldr rfl fo_74_5) (Hp.le_refl _) (by repeat (first | exact Ent.nil _ | exact Ent.refl _ | (refine Ent.pick (by repeat (first | exact Pick.here | apply Pick.there)) ?_) | refine Ent.skip ?_)) (by kernel_rfl) ?_
        refine r_take (i := 3) (bs' := #[true, true, true, true, false, false, false, false, false, false, false]) rfl (by kernel_rfl) (by kernel_rfl) (by kernel_rfl) (fun _ _ _ h => h) rfl wn (q_loadp sc_40 rfl (by repeat (first | exact Pick.here | apply Pick.there)) (by show some (rnext { c with since := c.since + 1 }).row.v = some c.row.v; rw [rnext_row])) (Hp.le_refl _) (by repeat (first | exact Ent.nil _ | exact Ent.refl _ | (refine Ent.pick (by repeat (first | exact Pick.here | apply Pick.there)) ?_) | refine Ent.skip ?_)) (by kernel_rfl) ?_
        refine r_take (i := 4) (bs' := #[true, true, true, true, true, false, false, false, false, false, false]) rfl (by kernel_rfl) (by kernel_rfl) (by kernel_rfl) (fun _ _ _ h => h) rfl wn (q_move rfl) (Hp.le_refl _) (by repeat (first | exact Ent.nil _ | exact Ent.refl _ | (refine Ent.pick (by repeat (first | exact Pick.here | apply Pick.there)) ?_) | refine Ent.skip ?_)) (by kernel_rfl) ?_
        refine r_take (i := 5) (bs' := #[true, true, true, true, true, true, false, false, false, false, false]) rfl (by kernel_rfl) (by kernel_rfl) (by kernel_rfl) (fun _ _ _ h => h) rfl wn (q_nilCheck rfl) (Hp.le_refl _) (by repeat (first | exact Ent.nil _ | exact Ent.refl _ | (refine Ent.pick (by repeat (first | exact Pick.here | apply Pick.there)) ?_) | refine Ent.skip ?_)) (by kernel_rfl) ?_
        refine r_take (i := 6) (bs' := #[true, true, true, true, true, true, true, false, false, false, false]) rfl (by kernel_rfl) (by kernel_rfl) (by kernel_rfl) (fun _ _ _ h => h) rfl wn (by first | exact q_fieldp rfl fo_74_2 | exact q_fielde rfl fo_74_2 | exact q_fieldr rfl fo_74_2) (Hp.le_refl _) (by repeat (first | exact Ent.nil _ | exact Ent.refl _ | (refine Ent.pick (by repeat (first | exact Pick.here | apply Pick.there)) ?_) | refine Ent.skip ?_)) (by kernel_rfl) ?_
        refine r_take (i := 7) (bs' := #[true, true, true, true, true, true, true, true, false, false, false]) rfl (by kernel_rfl) (by kernel_rfl) (by kernel_rfl) (fun _ _ _ h => h) rfl wn (by first | exact q_loadp sc_3 rfl (by repeat (first | exact Pick.here | apply Pick.there)) rfl | exact q_loade sc_3 rfl (by first | assumption | exact rd_ro (by assumption) | exact rd_row (by repeat (first | exact Pick.here | apply Pick.there))) (fun _ => rfl) (by first | assumption | omega) (by decide) rfl) (Hp.le_refl _) (by repeat (first | exact Ent.nil _ | exact Ent.refl _ | (refine Ent.pick (by repeat (first | exact Pick.here | apply Pick.there)) ?_) | refine Ent.skip ?_)) (by kernel_rfl) ?_
        refine r_take (i := 8) (bs' := #[true, true, true, true, true, true, true, true, true, false, false]) rfl (by kernel_rfl) (by kernel_rfl) (by kernel_rfl) (fun _ _ _ h => h) rfl wn (q_indexe (({ rnext { c with since := c.since + 1 } with since := 0 } : Rc)).at_ Try.underlying40 sz_3 rfl rfl (rd_row (by repeat (first | exact Pick.here | apply Pick.there))) (by decide) rfl hat) (Hp.le_refl _) (by repeat (first | exact Ent.nil _ | exact Ent.refl _ | (refine Ent.pick (by repeat (first | exact Pick.here | apply Pick.there)) ?_) | refine Ent.skip ?_)) (by kernel_rfl) ?_
        refine r_take (i := 9) (bs' := #[true, true, true, true, true, true, true, true, true, true, false]) rfl (by kernel_rfl) (by kernel_rfl) (by kernel_rfl) (fun _ _ _ h => h) rfl wn (by first | exact q_loadp sc_3 rfl (by repeat (first | exact Pick.here | apply Pick.there)) rfl | exact q_loade sc_3 rfl (by first | assumption | exact rd_ro (by assumption) | exact rd_row (by repeat (first | exact Pick.here | apply Pick.there))) (fun _ => rfl) (by first | assumption | omega) (by decide) rfl) (Hp.le_refl _) (by repeat (first | exact Ent.nil _ | exact Ent.refl _ | (refine Ent.pick (by repeat (first | exact Pick.here | apply Pick.there)) ?_) | refine Ent.skip ?_)) (by kernel_rfl) ?_
        refine r_take (i := 10) (bs' := #[true, true, true, true, true, true, true, true, true, true, true]) rfl (by kernel_rfl) (by kernel_rfl) (by kernel_rfl) (fun _ _ _ h => h) rfl wn (q_assign rfl) (Hp.le_refl _) (by repeat (first | exact Ent.nil _ | exact Ent.refl _ | (refine Ent.pick (by repeat (first | exact Pick.here | apply Pick.there)) ?_) | refine Ent.skip ?_)) (by kernel_rfl) ?_
        refine r_done (by kernel_rfl) ?_
        refine k_then_n ?_
        refine c_ret ?_
        exact t_ret [.pts b (encRc (rtick c).1) 74, .row 3 1 c.row.a c.row.xs.length c.row.cap (c.row.xs.flatMap encI)] rfl (.tmp rfl .nil) rfl (Hp.le_refl _) ⟨rfl, (by rw [rtick_next (by simpa using h0) h1 h2]; rfl), rfl⟩ (by rw [rtick_next (by simpa using h0) h1 h2]; exact (by repeat (first | exact Ent.nil _ | exact Ent.refl _ | (refine Ent.pick (by repeat (first | exact Pick.here | apply Pick.there)) ?_) | refine Ent.skip ?_)))
    · skip
      refine c_skip ?_
      refine k_then_n ?_
      refine c_seq ?_
      refine c_region ?_
      refine l_step (s_q rfl wn (q_move rfl) ?_)
      refine l_step (s_q rfl wn (q_nilCheck rfl) ?_)
      refine l_step (s_q rfl wn (by first | exact q_fieldp rfl fo_74_4 | exact q_fielde rfl fo_74_4 | exact q_fieldr rfl fo_74_4) ?_)
      refine l_step (s_s0 wn (s_storep (ws := [_]) (cs := encRc c) (cs' := encRc ({ c with since := 0 } : Rc)) rfl rfl rfl sz_3 (by simp [Value.oneCell']) (by simp [encRc, encAsk, encRep]) rfl (by repeat (first | exact Pick.here | apply Pick.there))) ?_)
      rintro _ _ ⟨rfl, rfl⟩
      refine l_nil ?_
      refine k_then_n ?_
      refine c_seq ?_
      refine c_drawG (m := 11) (bs := #[false, false, false, false, false, false, false, false, false, false, false]) (by kernel_rfl) rfl (by kernel_rfl) ?_
      have hat : (({ c with since := 0 } : Rc)).at_ < c.row.xs.length := h
      refine r_take (i := 0) (bs' := #[true, false, false, false, false, false, false, false, false, false, false]) rfl (by kernel_rfl) (by kernel_rfl) (by kernel_rfl) (fun _ _ _ h => h) rfl wn (q_move rfl) (Hp.le_refl _) (by repeat (first | exact Ent.nil _ | exact Ent.refl _ | (refine Ent.pick (by repeat (first | exact Pick.here | apply Pick.there)) ?_) | refine Ent.skip ?_)) (by kernel_rfl) ?_
      refine r_take (i := 1) (bs' := #[true, true, false, false, false, false, false, false, false, false, false]) rfl (by kernel_rfl) (by kernel_rfl) (by kernel_rfl) (fun _ _ _ h => h) rfl wn (q_nilCheck rfl) (Hp.le_refl _) (by repeat (first | exact Ent.nil _ | exact Ent.refl _ | (refine Ent.pick (by repeat (first | exact Pick.here | apply Pick.there)) ?_) | refine Ent.skip ?_)) (by kernel_rfl) ?_
      refine r_take (i := 2) (bs' := #[true, true, true, false, false, false, false, false, false, false, false]) rfl (by kernel_rfl) (by kernel_rfl) (by kernel_rfl) (fun _ _ _ h => h) rfl wn (by first | exact q_fieldp rfl fo_74_5 | exact q_fielde rfl fo_74_5 | exact q_fieldr rfl fo_74_5) (Hp.le_refl _) (by repeat (first | exact Ent.nil _ | exact Ent.refl _ | (refine Ent.pick (by repeat (first | exact Pick.here | apply Pick.there)) ?_) | refine Ent.skip ?_)) (by kernel_rfl) ?_
      refine r_take (i := 3) (bs' := #[true, true, true, true, false, false, false, false, false, false, false]) rfl (by kernel_rfl) (by kernel_rfl) (by kernel_rfl) (fun _ _ _ h => h) rfl wn (q_loadp sc_40 rfl (by repeat (first | exact Pick.here | apply Pick.there)) rfl) (Hp.le_refl _) (by repeat (first | exact Ent.nil _ | exact Ent.refl _ | (refine Ent.pick (by repeat (first | exact Pick.here | apply Pick.there)) ?_) | refine Ent.skip ?_)) (by kernel_rfl) ?_
      refine r_take (i := 4) (bs' := #[true, true, true, true, true, false, false, false, false, false, false]) rfl (by kernel_rfl) (by kernel_rfl) (by kernel_rfl) (fun _ _ _ h => h) rfl wn (q_move rfl) (Hp.le_refl _) (by repeat (first | exact Ent.nil _ | exact Ent.refl _ | (refine Ent.pick (by repeat (first | exact Pick.here | apply Pick.there)) ?_) | refine Ent.skip ?_)) (by kernel_rfl) ?_
      refine r_take (i := 5) (bs' := #[true, true, true, true, true, true, false, false, false, false, false]) rfl (by kernel_rfl) (by kernel_rfl) (by kernel_rfl) (fun _ _ _ h => h) rfl wn (q_nilCheck rfl) (Hp.le_refl _) (by repeat (first | exact Ent.nil _ | exact Ent.refl _ | (refine Ent.pick (by repeat (first | exact Pick.here | apply Pick.there)) ?_) | refine Ent.skip ?_)) (by kernel_rfl) ?_
      refine r_take (i := 6) (bs' := #[true, true, true, true, true, true, true, false, false, false, false]) rfl (by kernel_rfl) (by kernel_rfl) (by kernel_rfl) (fun _ _ _ h => h) rfl wn (by first | exact q_fieldp rfl fo_74_2 | exact q_fielde rfl fo_74_2 | exact q_fieldr rfl fo_74_2) (Hp.le_refl _) (by repeat (first | exact Ent.nil _ | exact Ent.refl _ | (refine Ent.pick (by repeat (first | exact Pick.here | apply Pick.there)) ?_) | refine Ent.skip ?_)) (by kernel_rfl) ?_
      refine r_take (i := 7) (bs' := #[true, true, true, true, true, true, true, true, false, false, false]) rfl (by kernel_rfl) (by kernel_rfl) (by kernel_rfl) (fun _ _ _ h => h) rfl wn (by first | exact q_loadp sc_3 rfl (by repeat (first | exact Pick.here | apply Pick.there)) rfl | exact q_loade sc_3 rfl (by first | assumption | exact rd_ro (by assumption) | exact rd_row (by repeat (first | exact Pick.here | apply Pick.there))) (fun _ => rfl) (by first | assumption | omega) (by decide) rfl) (Hp.le_refl _) (by repeat (first | exact Ent.nil _ | exact Ent.refl _ | (refine Ent.pick (by repeat (first | exact Pick.here | apply Pick.there)) ?_) | refine Ent.skip ?_)) (by kernel_rfl) ?_
      refine r_take (i := 8) (bs' := #[true, true, true, true, true, true, true, true, true, false, false]) rfl (by kernel_rfl) (by kernel_rfl) (by kernel_rfl) (fun _ _ _ h => h) rfl wn (q_indexe (({ c with since := 0 } : Rc)).at_ Try.underlying40 sz_3 rfl rfl (rd_row (by repeat (first | exact Pick.here | apply Pick.there))) (by decide) rfl hat) (Hp.le_refl _) (by repeat (first | exact Ent.nil _ | exact Ent.refl _ | (refine Ent.pick (by repeat (first | exact Pick.here | apply Pick.there)) ?_) | refine Ent.skip ?_)) (by kernel_rfl) ?_
      refine r_take (i := 9) (bs' := #[true, true, true, true, true, true, true, true, true, true, false]) rfl (by kernel_rfl) (by kernel_rfl) (by kernel_rfl) (fun _ _ _ h => h) rfl wn (by first | exact q_loadp sc_3 rfl (by repeat (first | exact Pick.here | apply Pick.there)) rfl | exact q_loade sc_3 rfl (by first | assumption | exact rd_ro (by assumption) | exact rd_row (by repeat (first | exact Pick.here | apply Pick.there))) (fun _ => rfl) (by first | assumption | omega) (by decide) rfl) (Hp.le_refl _) (by repeat (first | exact Ent.nil _ | exact Ent.refl _ | (refine Ent.pick (by repeat (first | exact Pick.here | apply Pick.there)) ?_) | refine Ent.skip ?_)) (by kernel_rfl) ?_
      refine r_take (i := 10) (bs' := #[true, true, true, true, true, true, true, true, true, true, true]) rfl (by kernel_rfl) (by kernel_rfl) (by kernel_rfl) (fun _ _ _ h => h) rfl wn (q_assign rfl) (Hp.le_refl _) (by repeat (first | exact Ent.nil _ | exact Ent.refl _ | (refine Ent.pick (by repeat (first | exact Pick.here | apply Pick.there)) ?_) | refine Ent.skip ?_)) (by kernel_rfl) ?_
      refine r_done (by kernel_rfl) ?_
      refine k_then_n ?_
      refine c_ret ?_
      exact t_ret [.pts b (encRc (rtick c).1) 74, .row 3 1 c.row.a c.row.xs.length c.row.cap (c.row.xs.flatMap encI)] rfl (.tmp rfl .nil) rfl (Hp.le_refl _) ⟨rfl, (by rw [rtick_now (by simpa using h0) h1]; rfl), rfl⟩ (by rw [rtick_now (by simpa using h0) h1]; exact (by repeat (first | exact Ent.nil _ | exact Ent.refl _ | (refine Ent.pick (by repeat (first | exact Pick.here | apply Pick.there)) ?_) | refine Ent.skip ?_)))

theorem rhear_spec (b : Nat) (c : Rc) (r : RepV) (h : c.at_ < c.row.xs.length) (hl : c.row.xs.length ≤ 1000000000) (hn : c.row.xs.Nodup) (ρ : Hp) : Spec0 Try.prog 32 #[.pointer (some ⟨b, 0, none⟩), .agg (encRep r).toArray] ρ [.pts b (encRc c) 74, .row 3 1 c.row.a c.row.xs.length c.row.cap (c.row.xs.flatMap encI)] (fun v Γ' => v = .bool (rhear c r).2 ∧ Γ' = [.pts b (encRc (rhear c r).1) 74, .row 3 1 c.row.a c.row.xs.length c.row.cap (c.row.xs.flatMap encI)]) := by
  refine spec_of (n := 103) (vs := [_, _]) (σ := [(0, _), (1, _)]) Try.func32 rfl rfl rfl rfl fun E Δ => ?_
  simp only [List.cons_append, List.nil_append]
  refine c_seq ?_
  refine c_region ?_
  refine l_step (s_s rfl wn (s_box rfl rfl) ?_)
  rintro _ _ ⟨b3, rfl, rfl⟩
  refine l_step (s_q rfl wn (q_assign rfl) ?_)
  refine l_nil ?_
  refine k_then_n ?_
  refine c_seq ?_
  refine c_seq ?_
  refine c_drawG (m := 23) (bs := #[false, false, false, false, false, false, false, false, false, false, false, false, false, false, false, false, false, false, false, false, false, false, false]) (by kernel_rfl) rfl (by kernel_rfl) ?_
  refine r_take (i := 0) (bs' := #[true, false, false, false, false, false, false, false, false, false, false, false, false, false, false, false, false, false, false, false, false, false, false]) rfl (by kernel_rfl) (by kernel_rfl) (by kernel_rfl) (fun _ _ _ h => h) rfl wn (q_move rfl) (Hp.le_refl _) (by repeat (first | exact Ent.nil _ | exact Ent.refl _ | (refine Ent.pick (by repeat (first | exact Pick.here | apply Pick.there)) ?_) | refine Ent.skip ?_)) (by kernel_rfl) ?_
  refine r_take (i := 1) (bs' := #[true, true, false, false, false, false, false, false, false, false, false, false, false, false, false, false, false, false, false, false, false, false, false]) rfl (by kernel_rfl) (by kernel_rfl) (by kernel_rfl) (fun _ _ _ h => h) rfl wn (q_nilCheck rfl) (Hp.le_refl _) (by repeat (first | exact Ent.nil _ | exact Ent.refl _ | (refine Ent.pick (by repeat (first | exact Pick.here | apply Pick.there)) ?_) | refine Ent.skip ?_)) (by kernel_rfl) ?_
  refine r_take (i := 2) (bs' := #[true, true, true, false, false, false, false, false, false, false, false, false, false, false, false, false, false, false, false, false, false, false, false]) rfl (by kernel_rfl) (by kernel_rfl) (by kernel_rfl) (fun _ _ _ h => h) rfl wn (by first | exact q_fieldp rfl fo_74_6 | exact q_fielde rfl fo_74_6 | exact q_fieldr rfl fo_74_6) (Hp.le_refl _) (by repeat (first | exact Ent.nil _ | exact Ent.refl _ | (refine Ent.pick (by repeat (first | exact Pick.here | apply Pick.there)) ?_) | refine Ent.skip ?_)) (by kernel_rfl) ?_
  refine r_take (i := 3) (bs' := #[true, true, true, true, false, false, false, false, false, false, false, false, false, false, false, false, false, false, false, false, false, false, false]) rfl (by kernel_rfl) (by kernel_rfl) (by kernel_rfl) (fun _ _ _ h => h) rfl wn (by first | exact q_loadp sc_4 rfl (by repeat (first | exact Pick.here | apply Pick.there)) rfl | exact q_loade sc_4 rfl (by first | assumption | exact rd_ro (by assumption) | exact rd_row (by repeat (first | exact Pick.here | apply Pick.there))) (fun _ => rfl) (by first | assumption | omega) (by decide) rfl) (Hp.le_refl _) (by repeat (first | exact Ent.nil _ | exact Ent.refl _ | (refine Ent.pick (by repeat (first | exact Pick.here | apply Pick.there)) ?_) | refine Ent.skip ?_)) (by kernel_rfl) ?_
  refine r_take (i := 4) (bs' := #[true, true, true, true, true, false, false, false, false, false, false, false, false, false, false, false, false, false, false, false, false, false, false]) rfl (by kernel_rfl) (by kernel_rfl) (by kernel_rfl) (fun _ _ _ h => h) rfl wn (q_not rfl) (Hp.le_refl _) (by repeat (first | exact Ent.nil _ | exact Ent.refl _ | (refine Ent.pick (by repeat (first | exact Pick.here | apply Pick.there)) ?_) | refine Ent.skip ?_)) (by kernel_rfl) ?_
  refine r_take (i := 5) (bs' := #[true, true, true, true, true, true, false, false, false, false, false, false, false, false, false, false, false, false, false, false, false, false, false]) rfl (by kernel_rfl) (by kernel_rfl) (by kernel_rfl) (fun _ _ _ h => h) rfl wn (q_move rfl) (Hp.le_refl _) (by repeat (first | exact Ent.nil _ | exact Ent.refl _ | (refine Ent.pick (by repeat (first | exact Pick.here | apply Pick.there)) ?_) | refine Ent.skip ?_)) (by kernel_rfl) ?_
  first | refine t_splitd (d := 13) rfl (fun g1_5 => ?_) (fun g1_5 => ?_) | refine t_split (d := 13) rfl (fun g1_5 => ?_) (fun g1_5 => ?_)
  · skip
    refine r_skip (i := 6) (bs' := #[true, true, true, true, true, true, true, false, false, false, false, false, false, false, false, false, false, false, false, false, false, false, false]) rfl (by kernel_rfl) (by kernel_rfl) (by kernel_rfl) (fun _ _ _ h => h) rfl (wno rfl rfl (by decide)) (Hp.le_refl _) (by repeat (first | exact Ent.nil _ | exact Ent.refl _ | (refine Ent.pick (by repeat (first | exact Pick.here | apply Pick.there)) ?_) | refine Ent.skip ?_)) (by kernel_rfl) ?_
    refine r_skip (i := 7) (bs' := #[true, true, true, true, true, true, true, true, false, false, false, false, false, false, false, false, false, false, false, false, false, false, false]) rfl (by kernel_rfl) (by kernel_rfl) (by kernel_rfl) (fun _ _ _ h => h) rfl (wno rfl rfl (by decide)) (Hp.le_refl _) (by repeat (first | exact Ent.nil _ | exact Ent.refl _ | (refine Ent.pick (by repeat (first | exact Pick.here | apply Pick.there)) ?_) | refine Ent.skip ?_)) (by kernel_rfl) ?_
    refine r_skip (i := 8) (bs' := #[true, true, true, true, true, true, true, true, true, false, false, false, false, false, false, false, false, false, false, false, false, false, false]) rfl (by kernel_rfl) (by kernel_rfl) (by kernel_rfl) (fun _ _ _ h => h) rfl (wno rfl rfl (by decide)) (Hp.le_refl _) (by repeat (first | exact Ent.nil _ | exact Ent.refl _ | (refine Ent.pick (by repeat (first | exact Pick.here | apply Pick.there)) ?_) | refine Ent.skip ?_)) (by kernel_rfl) ?_
    refine r_skip (i := 9) (bs' := #[true, true, true, true, true, true, true, true, true, true, false, false, false, false, false, false, false, false, false, false, false, false, false]) rfl (by kernel_rfl) (by kernel_rfl) (by kernel_rfl) (fun _ _ _ h => h) rfl (wno rfl rfl (by decide)) (Hp.le_refl _) (by repeat (first | exact Ent.nil _ | exact Ent.refl _ | (refine Ent.pick (by repeat (first | exact Pick.here | apply Pick.there)) ?_) | refine Ent.skip ?_)) (by kernel_rfl) ?_
    refine r_skip (i := 10) (bs' := #[true, true, true, true, true, true, true, true, true, true, true, false, false, false, false, false, false, false, false, false, false, false, false]) rfl (by kernel_rfl) (by kernel_rfl) (by kernel_rfl) (fun _ _ _ h => h) rfl (wno rfl rfl (by decide)) (Hp.le_refl _) (by repeat (first | exact Ent.nil _ | exact Ent.refl _ | (refine Ent.pick (by repeat (first | exact Pick.here | apply Pick.there)) ?_) | refine Ent.skip ?_)) (by kernel_rfl) ?_
    refine r_skip (i := 11) (bs' := #[true, true, true, true, true, true, true, true, true, true, true, true, false, false, false, false, false, false, false, false, false, false, false]) rfl (by kernel_rfl) (by kernel_rfl) (by kernel_rfl) (fun _ _ _ h => h) rfl (wno rfl rfl (by decide)) (Hp.le_refl _) (by repeat (first | exact Ent.nil _ | exact Ent.refl _ | (refine Ent.pick (by repeat (first | exact Pick.here | apply Pick.there)) ?_) | refine Ent.skip ?_)) (by kernel_rfl) ?_
    refine r_skip (i := 12) (bs' := #[true, true, true, true, true, true, true, true, true, true, true, true, true, false, false, false, false, false, false, false, false, false, false]) rfl (by kernel_rfl) (by kernel_rfl) (by kernel_rfl) (fun _ _ _ h => h) rfl (wno rfl rfl (by decide)) (Hp.le_refl _) (by repeat (first | exact Ent.nil _ | exact Ent.refl _ | (refine Ent.pick (by repeat (first | exact Pick.here | apply Pick.there)) ?_) | refine Ent.skip ?_)) (by kernel_rfl) ?_
    refine r_take (i := 13) (bs' := #[true, true, true, true, true, true, true, true, true, true, true, true, true, true, false, false, false, false, false, false, false, false, false]) rfl (by kernel_rfl) (by kernel_rfl) (by kernel_rfl) (fun _ _ _ h => h) rfl wn (q_pick rfl rfl rfl) (Hp.le_refl _) (by repeat (first | exact Ent.nil _ | exact Ent.refl _ | (refine Ent.pick (by repeat (first | exact Pick.here | apply Pick.there)) ?_) | refine Ent.skip ?_)) (by kernel_rfl) ?_
    refine r_take (i := 14) (bs' := #[true, true, true, true, true, true, true, true, true, true, true, true, true, true, true, false, false, false, false, false, false, false, false]) rfl (by kernel_rfl) (by kernel_rfl) (by kernel_rfl) (fun _ _ _ h => h) rfl wn (q_move rfl) (Hp.le_refl _) (by repeat (first | exact Ent.nil _ | exact Ent.refl _ | (refine Ent.pick (by repeat (first | exact Pick.here | apply Pick.there)) ?_) | refine Ent.skip ?_)) (by kernel_rfl) ?_
    skip
    refine r_skip (i := 15) (bs' := #[true, true, true, true, true, true, true, true, true, true, true, true, true, true, true, true, false, false, false, false, false, false, false]) rfl (by kernel_rfl) (by kernel_rfl) (by kernel_rfl) (fun _ _ _ h => h) rfl (wno rfl rfl (by decide)) (Hp.le_refl _) (by repeat (first | exact Ent.nil _ | exact Ent.refl _ | (refine Ent.pick (by repeat (first | exact Pick.here | apply Pick.there)) ?_) | refine Ent.skip ?_)) (by kernel_rfl) ?_
    refine r_skip (i := 16) (bs' := #[true, true, true, true, true, true, true, true, true, true, true, true, true, true, true, true, true, false, false, false, false, false, false]) rfl (by kernel_rfl) (by kernel_rfl) (by kernel_rfl) (fun _ _ _ h => h) rfl (wno rfl rfl (by decide)) (Hp.le_refl _) (by repeat (first | exact Ent.nil _ | exact Ent.refl _ | (refine Ent.pick (by repeat (first | exact Pick.here | apply Pick.there)) ?_) | refine Ent.skip ?_)) (by kernel_rfl) ?_
    refine r_skip (i := 17) (bs' := #[true, true, true, true, true, true, true, true, true, true, true, true, true, true, true, true, true, true, false, false, false, false, false]) rfl (by kernel_rfl) (by kernel_rfl) (by kernel_rfl) (fun _ _ _ h => h) rfl (wno rfl rfl (by decide)) (Hp.le_refl _) (by repeat (first | exact Ent.nil _ | exact Ent.refl _ | (refine Ent.pick (by repeat (first | exact Pick.here | apply Pick.there)) ?_) | refine Ent.skip ?_)) (by kernel_rfl) ?_
    refine r_skip (i := 18) (bs' := #[true, true, true, true, true, true, true, true, true, true, true, true, true, true, true, true, true, true, true, false, false, false, false]) rfl (by kernel_rfl) (by kernel_rfl) (by kernel_rfl) (fun _ _ _ h => h) rfl (wno rfl rfl (by decide)) (Hp.le_refl _) (by repeat (first | exact Ent.nil _ | exact Ent.refl _ | (refine Ent.pick (by repeat (first | exact Pick.here | apply Pick.there)) ?_) | refine Ent.skip ?_)) (by kernel_rfl) ?_
    refine r_skip (i := 19) (bs' := #[true, true, true, true, true, true, true, true, true, true, true, true, true, true, true, true, true, true, true, true, false, false, false]) rfl (by kernel_rfl) (by kernel_rfl) (by kernel_rfl) (fun _ _ _ h => h) rfl (wno rfl rfl (by decide)) (Hp.le_refl _) (by repeat (first | exact Ent.nil _ | exact Ent.refl _ | (refine Ent.pick (by repeat (first | exact Pick.here | apply Pick.there)) ?_) | refine Ent.skip ?_)) (by kernel_rfl) ?_
    refine r_skip (i := 20) (bs' := #[true, true, true, true, true, true, true, true, true, true, true, true, true, true, true, true, true, true, true, true, true, false, false]) rfl (by kernel_rfl) (by kernel_rfl) (by kernel_rfl) (fun _ _ _ h => h) rfl (wno rfl rfl (by decide)) (Hp.le_refl _) (by repeat (first | exact Ent.nil _ | exact Ent.refl _ | (refine Ent.pick (by repeat (first | exact Pick.here | apply Pick.there)) ?_) | refine Ent.skip ?_)) (by kernel_rfl) ?_
    refine r_skip (i := 21) (bs' := #[true, true, true, true, true, true, true, true, true, true, true, true, true, true, true, true, true, true, true, true, true, true, false]) rfl (by kernel_rfl) (by kernel_rfl) (by kernel_rfl) (fun _ _ _ h => h) rfl (wno rfl rfl (by decide)) (Hp.le_refl _) (by repeat (first | exact Ent.nil _ | exact Ent.refl _ | (refine Ent.pick (by repeat (first | exact Pick.here | apply Pick.there)) ?_) | refine Ent.skip ?_)) (by kernel_rfl) ?_
    refine r_take (i := 22) (bs' := #[true, true, true, true, true, true, true, true, true, true, true, true, true, true, true, true, true, true, true, true, true, true, true]) rfl (by kernel_rfl) (by kernel_rfl) (by kernel_rfl) (fun _ _ _ h => h) rfl wn (q_pick rfl rfl rfl) (Hp.le_refl _) (by repeat (first | exact Ent.nil _ | exact Ent.refl _ | (refine Ent.pick (by repeat (first | exact Pick.here | apply Pick.there)) ?_) | refine Ent.skip ?_)) (by kernel_rfl) ?_
    refine r_done (by kernel_rfl) ?_
    refine k_then_n ?_
    refine c_yes rfl ?_
    refine c_seq ?_
    refine c_region ?_
    refine l_step (s_q rfl wn (q_assign rfl) ?_)
    refine l_nil ?_
    refine k_then_n ?_
    refine c_ret ?_
    refine k_then_r ?_
    exact t_ret [.pts b (encRc c) 74, .row 3 1 c.row.a c.row.xs.length c.row.cap (c.row.xs.flatMap encI)] rfl (.tmp rfl .nil) rfl (Hp.le_refl _) ⟨rfl, (by rw [rhear_no (by rintro ⟨q1, q2, q3⟩; rw [q1] at g1_5; cases g1_5)]; rfl), (by rw [rhear_no (by rintro ⟨q1, q2, q3⟩; rw [q1] at g1_5; cases g1_5)])⟩ (by repeat (first | exact Ent.nil _ | exact Ent.refl _ | (refine Ent.pick (by repeat (first | exact Pick.here | apply Pick.there)) ?_) | refine Ent.skip ?_))
  · skip
    refine r_take (i := 6) (bs' := #[true, true, true, true, true, true, true, false, false, false, false, false, false, false, false, false, false, false, false, false, false, false, false]) rfl (by kernel_rfl) (by kernel_rfl) (by kernel_rfl) (fun _ _ _ h => h) rfl (wy rfl rfl rfl) (by first | exact q_fieldp rfl fo_64_0 | exact q_fielde rfl fo_64_0 | exact q_fieldr rfl fo_64_0) (Hp.le_refl _) (by repeat (first | exact Ent.nil _ | exact Ent.refl _ | (refine Ent.pick (by repeat (first | exact Pick.here | apply Pick.there)) ?_) | refine Ent.skip ?_)) (by kernel_rfl) ?_
    refine r_take (i := 7) (bs' := #[true, true, true, true, true, true, true, true, false, false, false, false, false, false, false, false, false, false, false, false, false, false, false]) rfl (by kernel_rfl) (by kernel_rfl) (by kernel_rfl) (fun _ _ _ h => h) rfl (wy rfl rfl rfl) (by first | exact q_loadp sc_3 rfl (by repeat (first | exact Pick.here | apply Pick.there)) rfl | exact q_loade sc_3 rfl (by first | assumption | exact rd_ro (by assumption) | exact rd_row (by repeat (first | exact Pick.here | apply Pick.there))) (fun _ => rfl) (by first | assumption | omega) (by decide) rfl) (Hp.le_refl _) (by repeat (first | exact Ent.nil _ | exact Ent.refl _ | (refine Ent.pick (by repeat (first | exact Pick.here | apply Pick.there)) ?_) | refine Ent.skip ?_)) (by kernel_rfl) ?_
    refine r_take (i := 8) (bs' := #[true, true, true, true, true, true, true, true, true, false, false, false, false, false, false, false, false, false, false, false, false, false, false]) rfl (by kernel_rfl) (by kernel_rfl) (by kernel_rfl) (fun _ _ _ h => h) rfl (wy rfl rfl rfl) (q_move rfl) (Hp.le_refl _) (by repeat (first | exact Ent.nil _ | exact Ent.refl _ | (refine Ent.pick (by repeat (first | exact Pick.here | apply Pick.there)) ?_) | refine Ent.skip ?_)) (by kernel_rfl) ?_
    refine r_take (i := 9) (bs' := #[true, true, true, true, true, true, true, true, true, true, false, false, false, false, false, false, false, false, false, false, false, false, false]) rfl (by kernel_rfl) (by kernel_rfl) (by kernel_rfl) (fun _ _ _ h => h) rfl (wy rfl rfl rfl) (q_nilCheck rfl) (Hp.le_refl _) (by repeat (first | exact Ent.nil _ | exact Ent.refl _ | (refine Ent.pick (by repeat (first | exact Pick.here | apply Pick.there)) ?_) | refine Ent.skip ?_)) (by kernel_rfl) ?_
    refine r_take (i := 10) (bs' := #[true, true, true, true, true, true, true, true, true, true, true, false, false, false, false, false, false, false, false, false, false, false, false]) rfl (by kernel_rfl) (by kernel_rfl) (by kernel_rfl) (fun _ _ _ h => h) rfl (wy rfl rfl rfl) (by first | exact q_fieldp rfl fo_74_0 | exact q_fielde rfl fo_74_0 | exact q_fieldr rfl fo_74_0) (Hp.le_refl _) (by repeat (first | exact Ent.nil _ | exact Ent.refl _ | (refine Ent.pick (by repeat (first | exact Pick.here | apply Pick.there)) ?_) | refine Ent.skip ?_)) (by kernel_rfl) ?_
    refine r_take (i := 11) (bs' := #[true, true, true, true, true, true, true, true, true, true, true, true, false, false, false, false, false, false, false, false, false, false, false]) rfl (by kernel_rfl) (by kernel_rfl) (by kernel_rfl) (fun _ _ _ h => h) rfl (wy rfl rfl rfl) (by first | exact q_loadp sc_3 rfl (by repeat (first | exact Pick.here | apply Pick.there)) rfl | exact q_loade sc_3 rfl (by first | assumption | exact rd_ro (by assumption) | exact rd_row (by repeat (first | exact Pick.here | apply Pick.there))) (fun _ => rfl) (by first | assumption | omega) (by decide) rfl) (Hp.le_refl _) (by repeat (first | exact Ent.nil _ | exact Ent.refl _ | (refine Ent.pick (by repeat (first | exact Pick.here | apply Pick.there)) ?_) | refine Ent.skip ?_)) (by kernel_rfl) ?_
    refine r_take (i := 12) (bs' := #[true, true, true, true, true, true, true, true, true, true, true, true, true, false, false, false, false, false, false, false, false, false, false]) rfl (by kernel_rfl) (by kernel_rfl) (by kernel_rfl) (fun _ _ _ h => h) rfl (wy rfl rfl rfl) (q_neq rfl rfl) (Hp.le_refl _) (by repeat (first | exact Ent.nil _ | exact Ent.refl _ | (refine Ent.pick (by repeat (first | exact Pick.here | apply Pick.there)) ?_) | refine Ent.skip ?_)) (by kernel_rfl) ?_
    refine r_take (i := 13) (bs' := #[true, true, true, true, true, true, true, true, true, true, true, true, true, true, false, false, false, false, false, false, false, false, false]) rfl (by kernel_rfl) (by kernel_rfl) (by kernel_rfl) (fun _ _ _ h => h) rfl wn (q_pick rfl rfl rfl) (Hp.le_refl _) (by repeat (first | exact Ent.nil _ | exact Ent.refl _ | (refine Ent.pick (by repeat (first | exact Pick.here | apply Pick.there)) ?_) | refine Ent.skip ?_)) (by kernel_rfl) ?_
    refine r_take (i := 14) (bs' := #[true, true, true, true, true, true, true, true, true, true, true, true, true, true, true, false, false, false, false, false, false, false, false]) rfl (by kernel_rfl) (by kernel_rfl) (by kernel_rfl) (fun _ _ _ h => h) rfl wn (q_move rfl) (Hp.le_refl _) (by repeat (first | exact Ent.nil _ | exact Ent.refl _ | (refine Ent.pick (by repeat (first | exact Pick.here | apply Pick.there)) ?_) | refine Ent.skip ?_)) (by kernel_rfl) ?_
    first | refine t_splitd (d := 22) rfl (fun g1_14 => ?_) (fun g1_14 => ?_) | refine t_split (d := 22) rfl (fun g1_14 => ?_) (fun g1_14 => ?_)
    · skip
      refine r_skip (i := 15) (bs' := #[true, true, true, true, true, true, true, true, true, true, true, true, true, true, true, true, false, false, false, false, false, false, false]) rfl (by kernel_rfl) (by kernel_rfl) (by kernel_rfl) (fun _ _ _ h => h) rfl (wno rfl rfl (by decide)) (Hp.le_refl _) (by repeat (first | exact Ent.nil _ | exact Ent.refl _ | (refine Ent.pick (by repeat (first | exact Pick.here | apply Pick.there)) ?_) | refine Ent.skip ?_)) (by kernel_rfl) ?_
      refine r_skip (i := 16) (bs' := #[true, true, true, true, true, true, true, true, true, true, true, true, true, true, true, true, true, false, false, false, false, false, false]) rfl (by kernel_rfl) (by kernel_rfl) (by kernel_rfl) (fun _ _ _ h => h) rfl (wno rfl rfl (by decide)) (Hp.le_refl _) (by repeat (first | exact Ent.nil _ | exact Ent.refl _ | (refine Ent.pick (by repeat (first | exact Pick.here | apply Pick.there)) ?_) | refine Ent.skip ?_)) (by kernel_rfl) ?_
      refine r_skip (i := 17) (bs' := #[true, true, true, true, true, true, true, true, true, true, true, true, true, true, true, true, true, true, false, false, false, false, false]) rfl (by kernel_rfl) (by kernel_rfl) (by kernel_rfl) (fun _ _ _ h => h) rfl (wno rfl rfl (by decide)) (Hp.le_refl _) (by repeat (first | exact Ent.nil _ | exact Ent.refl _ | (refine Ent.pick (by repeat (first | exact Pick.here | apply Pick.there)) ?_) | refine Ent.skip ?_)) (by kernel_rfl) ?_
      refine r_skip (i := 18) (bs' := #[true, true, true, true, true, true, true, true, true, true, true, true, true, true, true, true, true, true, true, false, false, false, false]) rfl (by kernel_rfl) (by kernel_rfl) (by kernel_rfl) (fun _ _ _ h => h) rfl (wno rfl rfl (by decide)) (Hp.le_refl _) (by repeat (first | exact Ent.nil _ | exact Ent.refl _ | (refine Ent.pick (by repeat (first | exact Pick.here | apply Pick.there)) ?_) | refine Ent.skip ?_)) (by kernel_rfl) ?_
      refine r_skip (i := 19) (bs' := #[true, true, true, true, true, true, true, true, true, true, true, true, true, true, true, true, true, true, true, true, false, false, false]) rfl (by kernel_rfl) (by kernel_rfl) (by kernel_rfl) (fun _ _ _ h => h) rfl (wno rfl rfl (by decide)) (Hp.le_refl _) (by repeat (first | exact Ent.nil _ | exact Ent.refl _ | (refine Ent.pick (by repeat (first | exact Pick.here | apply Pick.there)) ?_) | refine Ent.skip ?_)) (by kernel_rfl) ?_
      refine r_skip (i := 20) (bs' := #[true, true, true, true, true, true, true, true, true, true, true, true, true, true, true, true, true, true, true, true, true, false, false]) rfl (by kernel_rfl) (by kernel_rfl) (by kernel_rfl) (fun _ _ _ h => h) rfl (wno rfl rfl (by decide)) (Hp.le_refl _) (by repeat (first | exact Ent.nil _ | exact Ent.refl _ | (refine Ent.pick (by repeat (first | exact Pick.here | apply Pick.there)) ?_) | refine Ent.skip ?_)) (by kernel_rfl) ?_
      refine r_skip (i := 21) (bs' := #[true, true, true, true, true, true, true, true, true, true, true, true, true, true, true, true, true, true, true, true, true, true, false]) rfl (by kernel_rfl) (by kernel_rfl) (by kernel_rfl) (fun _ _ _ h => h) rfl (wno rfl rfl (by decide)) (Hp.le_refl _) (by repeat (first | exact Ent.nil _ | exact Ent.refl _ | (refine Ent.pick (by repeat (first | exact Pick.here | apply Pick.there)) ?_) | refine Ent.skip ?_)) (by kernel_rfl) ?_
      refine r_take (i := 22) (bs' := #[true, true, true, true, true, true, true, true, true, true, true, true, true, true, true, true, true, true, true, true, true, true, true]) rfl (by kernel_rfl) (by kernel_rfl) (by kernel_rfl) (fun _ _ _ h => h) rfl wn (q_pick rfl rfl rfl) (Hp.le_refl _) (by repeat (first | exact Ent.nil _ | exact Ent.refl _ | (refine Ent.pick (by repeat (first | exact Pick.here | apply Pick.there)) ?_) | refine Ent.skip ?_)) (by kernel_rfl) ?_
      refine r_done (by kernel_rfl) ?_
      refine k_then_n ?_
      refine c_yes rfl ?_
      refine c_seq ?_
      refine c_region ?_
      refine l_step (s_q rfl wn (q_assign rfl) ?_)
      refine l_nil ?_
      refine k_then_n ?_
      refine c_ret ?_
      refine k_then_r ?_
      exact t_ret [.pts b (encRc c) 74, .row 3 1 c.row.a c.row.xs.length c.row.cap (c.row.xs.flatMap encI)] rfl (.tmp rfl .nil) rfl (Hp.le_refl _) ⟨rfl, (by rw [rhear_no (by rintro ⟨q1, q2, q3⟩; exact g1_14 q2)]; rfl), (by rw [rhear_no (by rintro ⟨q1, q2, q3⟩; exact g1_14 q2)])⟩ (by repeat (first | exact Ent.nil _ | exact Ent.refl _ | (refine Ent.pick (by repeat (first | exact Pick.here | apply Pick.there)) ?_) | refine Ent.skip ?_))
    · skip
      refine r_take (i := 15) (bs' := #[true, true, true, true, true, true, true, true, true, true, true, true, true, true, true, true, false, false, false, false, false, false, false]) rfl (by kernel_rfl) (by kernel_rfl) (by kernel_rfl) (fun _ _ _ h => h) rfl (wy rfl rfl rfl) (by first | exact q_fieldp rfl fo_64_1 | exact q_fielde rfl fo_64_1 | exact q_fieldr rfl fo_64_1) (Hp.le_refl _) (by repeat (first | exact Ent.nil _ | exact Ent.refl _ | (refine Ent.pick (by repeat (first | exact Pick.here | apply Pick.there)) ?_) | refine Ent.skip ?_)) (by kernel_rfl) ?_
      refine r_take (i := 16) (bs' := #[true, true, true, true, true, true, true, true, true, true, true, true, true, true, true, true, true, false, false, false, false, false, false]) rfl (by kernel_rfl) (by kernel_rfl) (by kernel_rfl) (fun _ _ _ h => h) rfl (wy rfl rfl rfl) (by first | exact q_loadp sc_3 rfl (by repeat (first | exact Pick.here | apply Pick.there)) rfl | exact q_loade sc_3 rfl (by first | assumption | exact rd_ro (by assumption) | exact rd_row (by repeat (first | exact Pick.here | apply Pick.there))) (fun _ => rfl) (by first | assumption | omega) (by decide) rfl) (Hp.le_refl _) (by repeat (first | exact Ent.nil _ | exact Ent.refl _ | (refine Ent.pick (by repeat (first | exact Pick.here | apply Pick.there)) ?_) | refine Ent.skip ?_)) (by kernel_rfl) ?_
      refine r_take (i := 17) (bs' := #[true, true, true, true, true, true, true, true, true, true, true, true, true, true, true, true, true, true, false, false, false, false, false]) rfl (by kernel_rfl) (by kernel_rfl) (by kernel_rfl) (fun _ _ _ h => h) rfl (wy rfl rfl rfl) (q_move rfl) (Hp.le_refl _) (by repeat (first | exact Ent.nil _ | exact Ent.refl _ | (refine Ent.pick (by repeat (first | exact Pick.here | apply Pick.there)) ?_) | refine Ent.skip ?_)) (by kernel_rfl) ?_
      refine r_take (i := 18) (bs' := #[true, true, true, true, true, true, true, true, true, true, true, true, true, true, true, true, true, true, true, false, false, false, false]) rfl (by kernel_rfl) (by kernel_rfl) (by kernel_rfl) (fun _ _ _ h => h) rfl (wy rfl rfl rfl) (q_nilCheck rfl) (Hp.le_refl _) (by repeat (first | exact Ent.nil _ | exact Ent.refl _ | (refine Ent.pick (by repeat (first | exact Pick.here | apply Pick.there)) ?_) | refine Ent.skip ?_)) (by kernel_rfl) ?_
      refine r_take (i := 19) (bs' := #[true, true, true, true, true, true, true, true, true, true, true, true, true, true, true, true, true, true, true, true, false, false, false]) rfl (by kernel_rfl) (by kernel_rfl) (by kernel_rfl) (fun _ _ _ h => h) rfl (wy rfl rfl rfl) (by first | exact q_fieldp rfl fo_74_3 | exact q_fielde rfl fo_74_3 | exact q_fieldr rfl fo_74_3) (Hp.le_refl _) (by repeat (first | exact Ent.nil _ | exact Ent.refl _ | (refine Ent.pick (by repeat (first | exact Pick.here | apply Pick.there)) ?_) | refine Ent.skip ?_)) (by kernel_rfl) ?_
      refine r_take (i := 20) (bs' := #[true, true, true, true, true, true, true, true, true, true, true, true, true, true, true, true, true, true, true, true, true, false, false]) rfl (by kernel_rfl) (by kernel_rfl) (by kernel_rfl) (fun _ _ _ h => h) rfl (wy rfl rfl rfl) (by first | exact q_loadp sc_3 rfl (by repeat (first | exact Pick.here | apply Pick.there)) rfl | exact q_loade sc_3 rfl (by first | assumption | exact rd_ro (by assumption) | exact rd_row (by repeat (first | exact Pick.here | apply Pick.there))) (fun _ => rfl) (by first | assumption | omega) (by decide) rfl) (Hp.le_refl _) (by repeat (first | exact Ent.nil _ | exact Ent.refl _ | (refine Ent.pick (by repeat (first | exact Pick.here | apply Pick.there)) ?_) | refine Ent.skip ?_)) (by kernel_rfl) ?_
      refine r_take (i := 21) (bs' := #[true, true, true, true, true, true, true, true, true, true, true, true, true, true, true, true, true, true, true, true, true, true, false]) rfl (by kernel_rfl) (by kernel_rfl) (by kernel_rfl) (fun _ _ _ h => h) rfl (wy rfl rfl rfl) (q_neq rfl rfl) (Hp.le_refl _) (by repeat (first | exact Ent.nil _ | exact Ent.refl _ | (refine Ent.pick (by repeat (first | exact Pick.here | apply Pick.there)) ?_) | refine Ent.skip ?_)) (by kernel_rfl) ?_
      refine r_take (i := 22) (bs' := #[true, true, true, true, true, true, true, true, true, true, true, true, true, true, true, true, true, true, true, true, true, true, true]) rfl (by kernel_rfl) (by kernel_rfl) (by kernel_rfl) (fun _ _ _ h => h) rfl wn (q_pick rfl rfl rfl) (Hp.le_refl _) (by repeat (first | exact Ent.nil _ | exact Ent.refl _ | (refine Ent.pick (by repeat (first | exact Pick.here | apply Pick.there)) ?_) | refine Ent.skip ?_)) (by kernel_rfl) ?_
      refine r_done (by kernel_rfl) ?_
      refine k_then_n ?_
      first | refine c_if rfl (fun h0 => ?_) (fun h0 => ?_) | refine c_cond rfl (fun h0 => ?_) (fun h0 => ?_)
      · skip
        refine c_seq ?_
        refine c_region ?_
        refine l_step (s_q rfl wn (q_assign rfl) ?_)
        refine l_nil ?_
        refine k_then_n ?_
        refine c_ret ?_
        refine k_then_r ?_
        exact t_ret [.pts b (encRc c) 74, .row 3 1 c.row.a c.row.xs.length c.row.cap (c.row.xs.flatMap encI)] rfl (.tmp rfl .nil) rfl (Hp.le_refl _) ⟨rfl, (by rw [rhear_no (by rintro ⟨q1, q2, q3⟩; exact h0 q3)]; rfl), (by rw [rhear_no (by rintro ⟨q1, q2, q3⟩; exact h0 q3)])⟩ (by repeat (first | exact Ent.nil _ | exact Ent.refl _ | (refine Ent.pick (by repeat (first | exact Pick.here | apply Pick.there)) ?_) | refine Ent.skip ?_))
      · skip
        have hmine : rmine c r := ⟨by simpa using g1_5, Decidable.not_not.1 g1_14, Decidable.not_not.1 h0⟩
        refine c_skip ?_
        refine k_then_n ?_
        refine c_seq ?_
        refine t_cut (ι := Unit) (fun _u => True) (fun _u => [(0, .pointer (some ⟨b, 0, none⟩)), (3, .pointer (some ⟨b3, 0, none⟩)), (5, .bool (decide (r.err = 90 ∨ r.err = 92 ∨ (r.err = 91 ∧ c.ask.kind ≠ 1))))]) (fun _u => .pts b3 (encRep r) 64 :: .pts b (encRc c) 74 :: .row 3 1 c.row.a c.row.xs.length c.row.cap (c.row.xs.flatMap encI) :: Δ) ?_ ?_
        · skip
          refine c_region ?_
          refine l_step (s_q rfl wn (by first | exact q_fieldp rfl fo_64_2 | exact q_fielde rfl fo_64_2 | exact q_fieldr rfl fo_64_2) ?_)
          refine l_step (s_q rfl wn (by first | exact q_loadp sc_33 rfl (by repeat (first | exact Pick.here | apply Pick.there)) rfl | exact q_loade sc_33 rfl (by first | assumption | exact rd_ro (by assumption) | exact rd_row (by repeat (first | exact Pick.here | apply Pick.there))) (fun _ => rfl) (by first | assumption | omega) (by decide) rfl) ?_)
          refine l_step (s_q rfl wn (q_eql rfl rfl) ?_)
          refine l_step (s_q rfl wn (q_move rfl) ?_)
          first | refine t_splitd (d := 34) rfl (fun g3_3 => ?_) (fun g3_3 => ?_) | refine t_split (d := 34) rfl (fun g3_3 => ?_) (fun g3_3 => ?_)
          · skip
            refine l_step (s_no rfl (wno rfl rfl (by decide)) ?_)
            refine l_step (s_no rfl (wno rfl rfl (by decide)) ?_)
            refine l_step (s_no rfl (wno rfl rfl (by decide)) ?_)
            refine l_step (s_q rfl wn (q_pick rfl rfl rfl) ?_)
            refine l_step (s_q rfl wn (q_move rfl) ?_)
            skip
            refine l_step (s_no rfl (wno rfl rfl (by decide)) ?_)
            refine l_step (s_no rfl (wno rfl rfl (by decide)) ?_)
            refine l_step (s_no rfl (wno rfl rfl (by decide)) ?_)
            refine l_step (s_no rfl (wno rfl rfl (by decide)) ?_)
            refine l_step (s_no rfl (wun rfl rfl) ?_)
            refine l_step (s_no rfl (wun rfl rfl) ?_)
            refine l_step (s_no rfl (wun rfl rfl) ?_)
            refine l_step (s_no rfl (wun rfl rfl) ?_)
            refine l_step (s_no rfl (wun rfl rfl) ?_)
            refine l_step (s_no rfl (wun rfl rfl) ?_)
            refine l_step (s_no rfl (wno rfl rfl (by decide)) ?_)
            refine l_step (s_q rfl wn (q_pick rfl rfl rfl) ?_)
            refine l_step (s_q rfl wn (q_assign rfl) ?_)
            refine l_nil ?_
            refine k_then_n ?_
            exact t_next () trivial (.cons rfl (by first | rfl | (simp; done) | simp [*]) (.cons rfl (by first | rfl | (simp; done) | simp [*]) (.cons rfl (boole (by simp [g3_3])) (.nil _)))) (by repeat (first | exact Ent.nil _ | exact Ent.refl _ | (refine Ent.pick (by repeat (first | exact Pick.here | apply Pick.there)) ?_) | refine Ent.skip ?_))
          · skip
            refine l_step (s_q rfl (wy rfl rfl rfl) (by first | exact q_fieldp rfl fo_64_2 | exact q_fielde rfl fo_64_2 | exact q_fieldr rfl fo_64_2) ?_)
            refine l_step (s_q rfl (wy rfl rfl rfl) (by first | exact q_loadp sc_33 rfl (by repeat (first | exact Pick.here | apply Pick.there)) rfl | exact q_loade sc_33 rfl (by first | assumption | exact rd_ro (by assumption) | exact rd_row (by repeat (first | exact Pick.here | apply Pick.there))) (fun _ => rfl) (by first | assumption | omega) (by decide) rfl) ?_)
            refine l_step (s_q rfl (wy rfl rfl rfl) (q_eql rfl rfl) ?_)
            refine l_step (s_q rfl wn (q_pick rfl rfl rfl) ?_)
            refine l_step (s_q rfl wn (q_move rfl) ?_)
            first | refine t_splitd (d := 39) rfl (fun g3_8 => ?_) (fun g3_8 => ?_) | refine t_split (d := 39) rfl (fun g3_8 => ?_) (fun g3_8 => ?_)
            · skip
              refine l_step (s_no rfl (wno rfl rfl (by decide)) ?_)
              refine l_step (s_no rfl (wno rfl rfl (by decide)) ?_)
              refine l_step (s_no rfl (wno rfl rfl (by decide)) ?_)
              refine l_step (s_no rfl (wno rfl rfl (by decide)) ?_)
              refine l_step (s_no rfl (wun rfl rfl) ?_)
              refine l_step (s_no rfl (wun rfl rfl) ?_)
              refine l_step (s_no rfl (wun rfl rfl) ?_)
              refine l_step (s_no rfl (wun rfl rfl) ?_)
              refine l_step (s_no rfl (wun rfl rfl) ?_)
              refine l_step (s_no rfl (wun rfl rfl) ?_)
              refine l_step (s_no rfl (wno rfl rfl (by decide)) ?_)
              refine l_step (s_q rfl wn (q_pick rfl rfl rfl) ?_)
              refine l_step (s_q rfl wn (q_assign rfl) ?_)
              refine l_nil ?_
              refine k_then_n ?_
              exact t_next () trivial (.cons rfl (by first | rfl | (simp; done) | simp [*]) (.cons rfl (by first | rfl | (simp; done) | simp [*]) (.cons rfl (boole (by simp [g3_8])) (.nil _)))) (by repeat (first | exact Ent.nil _ | exact Ent.refl _ | (refine Ent.pick (by repeat (first | exact Pick.here | apply Pick.there)) ?_) | refine Ent.skip ?_))
            · skip
              refine l_step (s_q rfl (wy rfl rfl rfl) (by first | exact q_fieldp rfl fo_64_2 | exact q_fielde rfl fo_64_2 | exact q_fieldr rfl fo_64_2) ?_)
              refine l_step (s_q rfl (wy rfl rfl rfl) (by first | exact q_loadp sc_33 rfl (by repeat (first | exact Pick.here | apply Pick.there)) rfl | exact q_loade sc_33 rfl (by first | assumption | exact rd_ro (by assumption) | exact rd_row (by repeat (first | exact Pick.here | apply Pick.there))) (fun _ => rfl) (by first | assumption | omega) (by decide) rfl) ?_)
              refine l_step (s_q rfl (wy rfl rfl rfl) (q_eql rfl rfl) ?_)
              refine l_step (s_q rfl (wy rfl rfl rfl) (q_move rfl) ?_)
              first | refine t_splitd (d := 43) rfl (fun g3_12 => ?_) (fun g3_12 => ?_) | refine t_split (d := 43) rfl (fun g3_12 => ?_) (fun g3_12 => ?_)
              · skip
                refine l_step (s_q rfl (wy rfl rfl rfl) (q_move rfl) ?_)
                refine l_step (s_q rfl (wy rfl rfl rfl) (q_nilCheck rfl) ?_)
                refine l_step (s_q rfl (wy rfl rfl rfl) (by first | exact q_fieldp rfl fo_74_8 | exact q_fielde rfl fo_74_8 | exact q_fieldr rfl fo_74_8) ?_)
                refine l_step (s_q rfl (wy rfl rfl rfl) (by first | exact q_fieldp rfl fo_54_0 | exact q_fielde rfl fo_54_0 | exact q_fieldr rfl fo_54_0) ?_)
                refine l_step (s_q rfl (wy rfl rfl rfl) (by first | exact q_loadp sc_3 rfl (by repeat (first | exact Pick.here | apply Pick.there)) rfl | exact q_loade sc_3 rfl (by first | assumption | exact rd_ro (by assumption) | exact rd_row (by repeat (first | exact Pick.here | apply Pick.there))) (fun _ => rfl) (by first | assumption | omega) (by decide) rfl) ?_)
                refine l_step (s_q rfl (wy rfl rfl rfl) (q_neq rfl rfl) ?_)
                refine l_step (s_q rfl (wy rfl rfl rfl) (q_pick rfl rfl rfl) ?_)
                refine l_step (s_q rfl wn (q_pick rfl rfl rfl) ?_)
                refine l_step (s_q rfl wn (q_assign rfl) ?_)
                refine l_nil ?_
                refine k_then_n ?_
                exact t_next () trivial (.cons rfl (by first | rfl | (simp; done) | simp [*]) (.cons rfl (by first | rfl | (simp; done) | simp [*]) (.cons rfl (boole (by simp [g3_3, g3_8, g3_12])) (.nil _)))) (by repeat (first | exact Ent.nil _ | exact Ent.refl _ | (refine Ent.pick (by repeat (first | exact Pick.here | apply Pick.there)) ?_) | refine Ent.skip ?_))
              · skip
                refine l_step (s_no rfl (wno rfl rfl (by decide)) ?_)
                refine l_step (s_no rfl (wno rfl rfl (by decide)) ?_)
                refine l_step (s_no rfl (wno rfl rfl (by decide)) ?_)
                refine l_step (s_no rfl (wno rfl rfl (by decide)) ?_)
                refine l_step (s_no rfl (wno rfl rfl (by decide)) ?_)
                refine l_step (s_no rfl (wno rfl rfl (by decide)) ?_)
                refine l_step (s_q rfl (wy rfl rfl rfl) (q_pick rfl rfl rfl) ?_)
                refine l_step (s_q rfl wn (q_pick rfl rfl rfl) ?_)
                refine l_step (s_q rfl wn (q_assign rfl) ?_)
                refine l_nil ?_
                refine k_then_n ?_
                exact t_next () trivial (.cons rfl (by first | rfl | (simp; done) | simp [*]) (.cons rfl (by first | rfl | (simp; done) | simp [*]) (.cons rfl (boole (by simp [g3_3, g3_8, g3_12])) (.nil _)))) (by repeat (first | exact Ent.nil _ | exact Ent.refl _ | (refine Ent.pick (by repeat (first | exact Pick.here | apply Pick.there)) ?_) | refine Ent.skip ?_))
        intro _u _hJ
        refine c_seq ?_
        refine c_seq ?_
        refine c_region ?_
        refine l_step (s_q rfl wn (q_move rfl) ?_)
        refine l_step (s_q rfl wn (q_not rfl) ?_)
        refine l_nil ?_
        refine k_then_n ?_
        first | refine c_if rfl (fun h1 => ?_) (fun h1 => ?_) | refine c_cond rfl (fun h1 => ?_) (fun h1 => ?_)
        · skip
          have hoff : ¬ roff c r := by rw [Bool.not_eq_true'] at h1; unfold roff; exact of_decide_eq_false h1
          refine c_seq ?_
          refine c_region ?_
          refine l_step (s_q rfl wn (q_move rfl) ?_)
          refine l_step (s_q rfl wn (q_nilCheck rfl) ?_)
          refine l_step (s_q rfl wn (by first | exact q_fieldp rfl fo_74_6 | exact q_fielde rfl fo_74_6 | exact q_fieldr rfl fo_74_6) ?_)
          refine l_step (s_s0 wn (s_storep (ws := [_]) (cs := encRc c) (cs' := encRc ({ c with on := false } : Rc)) rfl rfl rfl sz_4 (by simp [Value.oneCell']) (by simp [encRc, encAsk, encRep]) rfl (by repeat (first | exact Pick.here | apply Pick.there))) ?_)
          rintro _ _ ⟨rfl, rfl⟩
          refine l_nil ?_
          refine k_then_n ?_
          refine c_seq ?_
          refine c_region ?_
          refine l_step (s_q rfl wn (q_move rfl) ?_)
          refine l_step (s_q rfl wn (q_nilCheck rfl) ?_)
          refine l_step (s_q rfl wn (by first | exact q_fieldp rfl fo_74_7 | exact q_fielde rfl fo_74_7 | exact q_fieldr rfl fo_74_7) ?_)
          refine l_step (s_s0 wn (s_storep (ws := [_]) (cs := encRc ({ c with on := false } : Rc)) (cs' := encRc ({ c with on := false, over := true } : Rc)) rfl rfl rfl sz_4 (by simp [Value.oneCell']) (by simp [encRc, encAsk, encRep]) rfl (by repeat (first | exact Pick.here | apply Pick.there))) ?_)
          rintro _ _ ⟨rfl, rfl⟩
          refine l_nil ?_
          refine k_then_n ?_
          refine c_seq ?_
          refine c_region ?_
          refine l_step (s_q rfl wn (q_move rfl) ?_)
          refine l_step (s_q rfl wn (q_loadpa (vs := encRep r) ag_64 rfl (by repeat (first | exact Pick.here | apply Pick.there)) rfl) ?_)
          refine l_step (s_q rfl wn (q_nilCheck rfl) ?_)
          refine l_step (s_q rfl wn (by first | exact q_fieldp rfl fo_74_9 | exact q_fielde rfl fo_74_9 | exact q_fieldr rfl fo_74_9) ?_)
          refine l_step (s_s0 wn (s_storep (ws := (encRep r)) (cs := encRc ({ c with on := false, over := true } : Rc)) (cs' := encRc ({ c with on := false, over := true, last := r } : Rc)) rfl rfl rfl sz_64 (oneRep _) (by simp [encRc, encAsk, encRep]) rfl (by repeat (first | exact Pick.here | apply Pick.there))) ?_)
          rintro _ _ ⟨rfl, rfl⟩
          refine l_nil ?_
          refine k_then_n ?_
          refine c_seq ?_
          refine c_region ?_
          refine l_step (s_q rfl wn (q_assign rfl) ?_)
          refine l_nil ?_
          refine k_then_n ?_
          refine c_ret ?_
          refine k_then_r ?_
          exact t_ret [.pts b (encRc ({ c with on := false, over := true, last := r } : Rc)) 74, .row 3 1 c.row.a c.row.xs.length c.row.cap (c.row.xs.flatMap encI)] rfl (.tmp rfl .nil) rfl (Hp.le_refl _) ⟨rfl, (by rw [rhear_over (c := c) (r := r) hmine hoff]; rfl), (by rw [rhear_over (c := c) (r := r) hmine hoff])⟩ (by repeat (first | exact Ent.nil _ | exact Ent.refl _ | (refine Ent.pick (by repeat (first | exact Pick.here | apply Pick.there)) ?_) | refine Ent.skip ?_))
        · skip
          have hoff : roff c r := by rw [Bool.not_eq_false'] at h1; unfold roff; exact of_decide_eq_true h1
          refine c_skip ?_
          refine k_then_n ?_
          refine c_seq ?_
          refine c_region ?_
          refine l_step (s_q rfl wn (q_assign rfl) ?_)
          refine l_nil ?_
          refine k_then_n ?_
          refine c_seq ?_
          refine c_seq ?_
          refine c_region ?_
          refine l_step (s_q rfl wn (q_assign rfl) ?_)
          refine l_nil ?_
          refine k_then_n ?_
          refine c_block ?_
          refine t_loop (ι := Nat) (fun k => k ≤ c.row.xs.length) (fun k => c.row.xs.length - k) (fun k => [(0, .pointer (some ⟨b, 0, none⟩)), (3, .pointer (some ⟨b3, 0, none⟩)), (6, .int .i64 (toF c.row.xs r.leads c.at_ k)), (7, .int .i64 (k : Int))]) (fun k => .pts b3 (encRep r) 64 :: .pts b (encRc c) 74 :: .row 3 1 c.row.a c.row.xs.length c.row.cap (c.row.xs.flatMap encI) :: Δ) 0 (Nat.zero_le _) ?_ ?_ ?_
          · exact .cons rfl (by first | rfl | (simp; done) | simp [*]) (.cons rfl (by first | rfl | (simp; done) | simp [*]) (.cons rfl (inte (by unfold toF; rw [if_neg (by omega)])) (.cons rfl (by first | rfl | (simp; done) | simp [*]) (.nil _))))
          · exact (by repeat (first | exact Ent.nil _ | exact Ent.refl _ | (refine Ent.pick (by repeat (first | exact Pick.here | apply Pick.there)) ?_) | refine Ent.skip ?_))
          intro k hk
          refine c_seq ?_
          refine c_seq ?_
          refine c_region ?_
          refine l_step (s_q rfl wn (q_move rfl) ?_)
          refine l_step (s_q rfl wn (q_move rfl) ?_)
          refine l_step (s_q rfl wn (q_nilCheck rfl) ?_)
          refine l_step (s_q rfl wn (by first | exact q_fieldp rfl fo_74_5 | exact q_fielde rfl fo_74_5 | exact q_fieldr rfl fo_74_5) ?_)
          refine l_step (s_q rfl wn (by first | exact q_loadp sc_40 rfl (by repeat (first | exact Pick.here | apply Pick.there)) rfl | exact q_loade sc_40 rfl (by first | assumption | exact rd_ro (by assumption) | exact rd_row (by repeat (first | exact Pick.here | apply Pick.there))) (fun _ => rfl) (by first | assumption | omega) (by decide) rfl) ?_)
          refine l_step (s_q rfl wn (q_len Try.underlying40 rfl) ?_)
          refine l_step (s_q rfl wn (q_lss rfl rfl) ?_)
          refine l_nil ?_
          refine k_then_n ?_
          first | refine c_if rfl (fun h2 => ?_) (fun h2 => ?_) | refine c_cond rfl (fun h2 => ?_) (fun h2 => ?_)
          · skip
            refine c_skip ?_
            refine k_then_n ?_
            refine c_seq ?_
            refine c_block ?_
            refine c_seq ?_
            refine c_drawG (m := 18) (bs := #[false, false, false, false, false, false, false, false, false, false, false, false, false, false, false, false, false, false]) (by kernel_rfl) rfl (by kernel_rfl) ?_
            refine r_take (i := 0) (bs' := #[true, false, false, false, false, false, false, false, false, false, false, false, false, false, false, false, false, false]) rfl (by kernel_rfl) (by kernel_rfl) (by kernel_rfl) (fun _ _ _ h => h) rfl wn (q_move rfl) (Hp.le_refl _) (by repeat (first | exact Ent.nil _ | exact Ent.refl _ | (refine Ent.pick (by repeat (first | exact Pick.here | apply Pick.there)) ?_) | refine Ent.skip ?_)) (by kernel_rfl) ?_
            refine r_take (i := 1) (bs' := #[true, true, false, false, false, false, false, false, false, false, false, false, false, false, false, false, false, false]) rfl (by kernel_rfl) (by kernel_rfl) (by kernel_rfl) (fun _ _ _ h => h) rfl wn (q_nilCheck rfl) (Hp.le_refl _) (by repeat (first | exact Ent.nil _ | exact Ent.refl _ | (refine Ent.pick (by repeat (first | exact Pick.here | apply Pick.there)) ?_) | refine Ent.skip ?_)) (by kernel_rfl) ?_
            refine r_take (i := 2) (bs' := #[true, true, true, false, false, false, false, false, false, false, false, false, false, false, false, false, false, false]) rfl (by kernel_rfl) (by kernel_rfl) (by kernel_rfl) (fun _ _ _ h => h) rfl wn (by first | exact q_fieldp rfl fo_74_5 | exact q_fielde rfl fo_74_5 | exact q_fieldr rfl fo_74_5) (Hp.le_refl _) (by repeat (first | exact Ent.nil _ | exact Ent.refl _ | (refine Ent.pick (by repeat (first | exact Pick.here | apply Pick.there)) ?_) | refine Ent.skip ?_)) (by kernel_rfl) ?_
            refine r_take (i := 3) (bs' := #[true, true, true, true, false, false, false, false, false, false, false, false, false, false, false, false, false, false]) rfl (by kernel_rfl) (by kernel_rfl) (by kernel_rfl) (fun _ _ _ h => h) rfl wn (by first | exact q_loadp sc_40 rfl (by repeat (first | exact Pick.here | apply Pick.there)) rfl | exact q_loade sc_40 rfl (by first | assumption | exact rd_ro (by assumption) | exact rd_row (by repeat (first | exact Pick.here | apply Pick.there))) (fun _ => rfl) (by first | assumption | omega) (by decide) rfl) (Hp.le_refl _) (by repeat (first | exact Ent.nil _ | exact Ent.refl _ | (refine Ent.pick (by repeat (first | exact Pick.here | apply Pick.there)) ?_) | refine Ent.skip ?_)) (by kernel_rfl) ?_
            refine r_take (i := 4) (bs' := #[true, true, true, true, true, false, false, false, false, false, false, false, false, false, false, false, false, false]) rfl (by kernel_rfl) (by kernel_rfl) (by kernel_rfl) (fun _ _ _ h => h) rfl wn (q_move rfl) (Hp.le_refl _) (by repeat (first | exact Ent.nil _ | exact Ent.refl _ | (refine Ent.pick (by repeat (first | exact Pick.here | apply Pick.there)) ?_) | refine Ent.skip ?_)) (by kernel_rfl) ?_
            refine r_take (i := 5) (bs' := #[true, true, true, true, true, true, false, false, false, false, false, false, false, false, false, false, false, false]) rfl (by kernel_rfl) (by kernel_rfl) (by kernel_rfl) (fun _ _ _ h => h) rfl wn (q_indexe _ Try.underlying40 sz_3 rfl rfl (by first | assumption | exact rd_ro (by assumption) | exact rd_row (by repeat (first | exact Pick.here | apply Pick.there))) (by decide) rfl (by first | assumption | omega)) (Hp.le_refl _) (by repeat (first | exact Ent.nil _ | exact Ent.refl _ | (refine Ent.pick (by repeat (first | exact Pick.here | apply Pick.there)) ?_) | refine Ent.skip ?_)) (by kernel_rfl) ?_
            refine r_take (i := 6) (bs' := #[true, true, true, true, true, true, true, false, false, false, false, false, false, false, false, false, false, false]) rfl (by kernel_rfl) (by kernel_rfl) (by kernel_rfl) (fun _ _ _ h => h) rfl wn (by first | exact q_loadp sc_3 rfl (by repeat (first | exact Pick.here | apply Pick.there)) rfl | exact q_loade sc_3 rfl (by first | assumption | exact rd_ro (by assumption) | exact rd_row (by repeat (first | exact Pick.here | apply Pick.there))) (fun _ => rfl) (by first | assumption | omega) (by decide) rfl) (Hp.le_refl _) (by repeat (first | exact Ent.nil _ | exact Ent.refl _ | (refine Ent.pick (by repeat (first | exact Pick.here | apply Pick.there)) ?_) | refine Ent.skip ?_)) (by kernel_rfl) ?_
            refine r_take (i := 7) (bs' := #[true, true, true, true, true, true, true, true, false, false, false, false, false, false, false, false, false, false]) rfl (by kernel_rfl) (by kernel_rfl) (by kernel_rfl) (fun _ _ _ h => h) rfl wn (by first | exact q_fieldp rfl fo_64_3 | exact q_fielde rfl fo_64_3 | exact q_fieldr rfl fo_64_3) (Hp.le_refl _) (by repeat (first | exact Ent.nil _ | exact Ent.refl _ | (refine Ent.pick (by repeat (first | exact Pick.here | apply Pick.there)) ?_) | refine Ent.skip ?_)) (by kernel_rfl) ?_
            refine r_take (i := 8) (bs' := #[true, true, true, true, true, true, true, true, true, false, false, false, false, false, false, false, false, false]) rfl (by kernel_rfl) (by kernel_rfl) (by kernel_rfl) (fun _ _ _ h => h) rfl wn (by first | exact q_loadp sc_3 rfl (by repeat (first | exact Pick.here | apply Pick.there)) rfl | exact q_loade sc_3 rfl (by first | assumption | exact rd_ro (by assumption) | exact rd_row (by repeat (first | exact Pick.here | apply Pick.there))) (fun _ => rfl) (by first | assumption | omega) (by decide) rfl) (Hp.le_refl _) (by repeat (first | exact Ent.nil _ | exact Ent.refl _ | (refine Ent.pick (by repeat (first | exact Pick.here | apply Pick.there)) ?_) | refine Ent.skip ?_)) (by kernel_rfl) ?_
            refine r_take (i := 9) (bs' := #[true, true, true, true, true, true, true, true, true, true, false, false, false, false, false, false, false, false]) rfl (by kernel_rfl) (by kernel_rfl) (by kernel_rfl) (fun _ _ _ h => h) rfl wn (q_eql rfl rfl) (Hp.le_refl _) (by repeat (first | exact Ent.nil _ | exact Ent.refl _ | (refine Ent.pick (by repeat (first | exact Pick.here | apply Pick.there)) ?_) | refine Ent.skip ?_)) (by kernel_rfl) ?_
            refine r_take (i := 10) (bs' := #[true, true, true, true, true, true, true, true, true, true, true, false, false, false, false, false, false, false]) rfl (by kernel_rfl) (by kernel_rfl) (by kernel_rfl) (fun _ _ _ h => h) rfl wn (q_move rfl) (Hp.le_refl _) (by repeat (first | exact Ent.nil _ | exact Ent.refl _ | (refine Ent.pick (by repeat (first | exact Pick.here | apply Pick.there)) ?_) | refine Ent.skip ?_)) (by kernel_rfl) ?_
            first | refine t_splitd (d := 83) rfl (fun g13_10 => ?_) (fun g13_10 => ?_) | refine t_split (d := 83) rfl (fun g13_10 => ?_) (fun g13_10 => ?_)
            · skip
              refine r_take (i := 11) (bs' := #[true, true, true, true, true, true, true, true, true, true, true, true, false, false, false, false, false, false]) rfl (by kernel_rfl) (by kernel_rfl) (by kernel_rfl) (fun _ _ _ h => h) rfl (wy rfl rfl rfl) (q_move rfl) (Hp.le_refl _) (by repeat (first | exact Ent.nil _ | exact Ent.refl _ | (refine Ent.pick (by repeat (first | exact Pick.here | apply Pick.there)) ?_) | refine Ent.skip ?_)) (by kernel_rfl) ?_
              refine r_take (i := 12) (bs' := #[true, true, true, true, true, true, true, true, true, true, true, true, true, false, false, false, false, false]) rfl (by kernel_rfl) (by kernel_rfl) (by kernel_rfl) (fun _ _ _ h => h) rfl (wy rfl rfl rfl) (q_move rfl) (Hp.le_refl _) (by repeat (first | exact Ent.nil _ | exact Ent.refl _ | (refine Ent.pick (by repeat (first | exact Pick.here | apply Pick.there)) ?_) | refine Ent.skip ?_)) (by kernel_rfl) ?_
              refine r_take (i := 13) (bs' := #[true, true, true, true, true, true, true, true, true, true, true, true, true, true, false, false, false, false]) rfl (by kernel_rfl) (by kernel_rfl) (by kernel_rfl) (fun _ _ _ h => h) rfl (wy rfl rfl rfl) (q_nilCheck rfl) (Hp.le_refl _) (by repeat (first | exact Ent.nil _ | exact Ent.refl _ | (refine Ent.pick (by repeat (first | exact Pick.here | apply Pick.there)) ?_) | refine Ent.skip ?_)) (by kernel_rfl) ?_
              refine r_take (i := 14) (bs' := #[true, true, true, true, true, true, true, true, true, true, true, true, true, true, true, false, false, false]) rfl (by kernel_rfl) (by kernel_rfl) (by kernel_rfl) (fun _ _ _ h => h) rfl (wy rfl rfl rfl) (by first | exact q_fieldp rfl fo_74_2 | exact q_fielde rfl fo_74_2 | exact q_fieldr rfl fo_74_2) (Hp.le_refl _) (by repeat (first | exact Ent.nil _ | exact Ent.refl _ | (refine Ent.pick (by repeat (first | exact Pick.here | apply Pick.there)) ?_) | refine Ent.skip ?_)) (by kernel_rfl) ?_
              refine r_take (i := 15) (bs' := #[true, true, true, true, true, true, true, true, true, true, true, true, true, true, true, true, false, false]) rfl (by kernel_rfl) (by kernel_rfl) (by kernel_rfl) (fun _ _ _ h => h) rfl (wy rfl rfl rfl) (by first | exact q_loadp sc_3 rfl (by repeat (first | exact Pick.here | apply Pick.there)) rfl | exact q_loade sc_3 rfl (by first | assumption | exact rd_ro (by assumption) | exact rd_row (by repeat (first | exact Pick.here | apply Pick.there))) (fun _ => rfl) (by first | assumption | omega) (by decide) rfl) (Hp.le_refl _) (by repeat (first | exact Ent.nil _ | exact Ent.refl _ | (refine Ent.pick (by repeat (first | exact Pick.here | apply Pick.there)) ?_) | refine Ent.skip ?_)) (by kernel_rfl) ?_
              refine r_take (i := 16) (bs' := #[true, true, true, true, true, true, true, true, true, true, true, true, true, true, true, true, true, false]) rfl (by kernel_rfl) (by kernel_rfl) (by kernel_rfl) (fun _ _ _ h => h) rfl (wy rfl rfl rfl) (q_neq rfl rfl) (Hp.le_refl _) (by repeat (first | exact Ent.nil _ | exact Ent.refl _ | (refine Ent.pick (by repeat (first | exact Pick.here | apply Pick.there)) ?_) | refine Ent.skip ?_)) (by kernel_rfl) ?_
              refine r_take (i := 17) (bs' := #[true, true, true, true, true, true, true, true, true, true, true, true, true, true, true, true, true, true]) rfl (by kernel_rfl) (by kernel_rfl) (by kernel_rfl) (fun _ _ _ h => h) rfl wn (q_pick rfl rfl rfl) (Hp.le_refl _) (by repeat (first | exact Ent.nil _ | exact Ent.refl _ | (refine Ent.pick (by repeat (first | exact Pick.here | apply Pick.there)) ?_) | refine Ent.skip ?_)) (by kernel_rfl) ?_
              refine r_done (by kernel_rfl) ?_
              refine k_then_n ?_
              first | refine c_if rfl (fun h3 => ?_) (fun h3 => ?_) | refine c_cond rfl (fun h3 => ?_) (fun h3 => ?_)
              · skip
                refine c_region ?_
                refine l_step (s_q rfl wn (q_move rfl) ?_)
                refine l_step (s_q rfl wn (q_assign rfl) ?_)
                refine l_nil ?_
                refine k_blk_n ?_
                refine k_then_n ?_
                refine c_region ?_
                refine l_step (s_q rfl wn (q_move rfl) ?_)
                refine l_step (s_q rfl wn (by first | exact q_add rfl rfl (by omega) (by omega) | exact q_addw rfl rfl) ?_)
                refine l_step (s_q rfl wn (q_assign rfl) ?_)
                refine l_nil ?_
                refine k_then_n ?_
                exact t_next (k + 1) (by omega) (.cons rfl (by first | rfl | (simp; done) | simp [*]) (.cons rfl (by first | rfl | (simp; done) | simp [*]) (.cons rfl (inte (toF_yes hn (by omega) g13_10 h3).symm) (.cons rfl (by first | rfl | (simp; done) | simp [*]) (.nil _))))) (by repeat (first | exact Ent.nil _ | exact Ent.refl _ | (refine Ent.pick (by repeat (first | exact Pick.here | apply Pick.there)) ?_) | refine Ent.skip ?_))
              · skip
                refine c_skip ?_
                refine k_blk_n ?_
                refine k_then_n ?_
                refine c_region ?_
                refine l_step (s_q rfl wn (q_move rfl) ?_)
                refine l_step (s_q rfl wn (by first | exact q_add rfl rfl (by omega) (by omega) | exact q_addw rfl rfl) ?_)
                refine l_step (s_q rfl wn (q_assign rfl) ?_)
                refine l_nil ?_
                refine k_then_n ?_
                exact t_next (k + 1) (by omega) (.cons rfl (by first | rfl | (simp; done) | simp [*]) (.cons rfl (by first | rfl | (simp; done) | simp [*]) (.cons rfl (inte (toF_no (by rintro ⟨q1, q2⟩; exact h3 q2)).symm) (.cons rfl (by first | rfl | (simp; done) | simp [*]) (.nil _))))) (by repeat (first | exact Ent.nil _ | exact Ent.refl _ | (refine Ent.pick (by repeat (first | exact Pick.here | apply Pick.there)) ?_) | refine Ent.skip ?_))
            · skip
              refine r_skip (i := 11) (bs' := #[true, true, true, true, true, true, true, true, true, true, true, true, false, false, false, false, false, false]) rfl (by kernel_rfl) (by kernel_rfl) (by kernel_rfl) (fun _ _ _ h => h) rfl (wno rfl rfl (by decide)) (Hp.le_refl _) (by repeat (first | exact Ent.nil _ | exact Ent.refl _ | (refine Ent.pick (by repeat (first | exact Pick.here | apply Pick.there)) ?_) | refine Ent.skip ?_)) (by kernel_rfl) ?_
              refine r_skip (i := 12) (bs' := #[true, true, true, true, true, true, true, true, true, true, true, true, true, false, false, false, false, false]) rfl (by kernel_rfl) (by kernel_rfl) (by kernel_rfl) (fun _ _ _ h => h) rfl (wno rfl rfl (by decide)) (Hp.le_refl _) (by repeat (first | exact Ent.nil _ | exact Ent.refl _ | (refine Ent.pick (by repeat (first | exact Pick.here | apply Pick.there)) ?_) | refine Ent.skip ?_)) (by kernel_rfl) ?_
              refine r_skip (i := 13) (bs' := #[true, true, true, true, true, true, true, true, true, true, true, true, true, true, false, false, false, false]) rfl (by kernel_rfl) (by kernel_rfl) (by kernel_rfl) (fun _ _ _ h => h) rfl (wno rfl rfl (by decide)) (Hp.le_refl _) (by repeat (first | exact Ent.nil _ | exact Ent.refl _ | (refine Ent.pick (by repeat (first | exact Pick.here | apply Pick.there)) ?_) | refine Ent.skip ?_)) (by kernel_rfl) ?_
              refine r_skip (i := 14) (bs' := #[true, true, true, true, true, true, true, true, true, true, true, true, true, true, true, false, false, false]) rfl (by kernel_rfl) (by kernel_rfl) (by kernel_rfl) (fun _ _ _ h => h) rfl (wno rfl rfl (by decide)) (Hp.le_refl _) (by repeat (first | exact Ent.nil _ | exact Ent.refl _ | (refine Ent.pick (by repeat (first | exact Pick.here | apply Pick.there)) ?_) | refine Ent.skip ?_)) (by kernel_rfl) ?_
              refine r_skip (i := 15) (bs' := #[true, true, true, true, true, true, true, true, true, true, true, true, true, true, true, true, false, false]) rfl (by kernel_rfl) (by kernel_rfl) (by kernel_rfl) (fun _ _ _ h => h) rfl (wno rfl rfl (by decide)) (Hp.le_refl _) (by repeat (first | exact Ent.nil _ | exact Ent.refl _ | (refine Ent.pick (by repeat (first | exact Pick.here | apply Pick.there)) ?_) | refine Ent.skip ?_)) (by kernel_rfl) ?_
              refine r_skip (i := 16) (bs' := #[true, true, true, true, true, true, true, true, true, true, true, true, true, true, true, true, true, false]) rfl (by kernel_rfl) (by kernel_rfl) (by kernel_rfl) (fun _ _ _ h => h) rfl (wno rfl rfl (by decide)) (Hp.le_refl _) (by repeat (first | exact Ent.nil _ | exact Ent.refl _ | (refine Ent.pick (by repeat (first | exact Pick.here | apply Pick.there)) ?_) | refine Ent.skip ?_)) (by kernel_rfl) ?_
              refine r_take (i := 17) (bs' := #[true, true, true, true, true, true, true, true, true, true, true, true, true, true, true, true, true, true]) rfl (by kernel_rfl) (by kernel_rfl) (by kernel_rfl) (fun _ _ _ h => h) rfl wn (q_pick rfl rfl rfl) (Hp.le_refl _) (by repeat (first | exact Ent.nil _ | exact Ent.refl _ | (refine Ent.pick (by repeat (first | exact Pick.here | apply Pick.there)) ?_) | refine Ent.skip ?_)) (by kernel_rfl) ?_
              refine r_done (by kernel_rfl) ?_
              refine k_then_n ?_
              refine c_no rfl ?_
              refine c_skip ?_
              refine k_blk_n ?_
              refine k_then_n ?_
              refine c_region ?_
              refine l_step (s_q rfl wn (q_move rfl) ?_)
              refine l_step (s_q rfl wn (by first | exact q_add rfl rfl (by omega) (by omega) | exact q_addw rfl rfl) ?_)
              refine l_step (s_q rfl wn (q_assign rfl) ?_)
              refine l_nil ?_
              refine k_then_n ?_
              exact t_next (k + 1) (by omega) (.cons rfl (by first | rfl | (simp; done) | simp [*]) (.cons rfl (by first | rfl | (simp; done) | simp [*]) (.cons rfl (inte (toF_no (by rintro ⟨q1, q2⟩; exact g13_10 q1)).symm) (.cons rfl (by first | rfl | (simp; done) | simp [*]) (.nil _))))) (by repeat (first | exact Ent.nil _ | exact Ent.refl _ | (refine Ent.pick (by repeat (first | exact Pick.here | apply Pick.there)) ?_) | refine Ent.skip ?_))
          · skip
            have hk3 : k = c.row.xs.length := by omega
            rw [hk3, toF_all]
            refine c_exit ?_
            refine k_then_x ?_
            refine k_then_x ?_
            refine k_blk_x ?_
            refine k_then_n ?_
            refine c_seq ?_
            refine c_seq ?_
            refine c_region ?_
            refine l_step (s_q rfl wn (q_move rfl) ?_)
            refine l_step (s_q rfl wn (q_geq rfl rfl) ?_)
            refine l_nil ?_
            refine k_then_n ?_
            first | refine c_if rfl (fun h4 => ?_) (fun h4 => ?_) | refine c_cond rfl (fun h4 => ?_) (fun h4 => ?_)
            · skip
              have hto : 0 ≤ idxF c.row.xs r.leads ∧ idxF c.row.xs r.leads ≠ (c.at_ : Int) := Classical.byContradiction fun q => by rw [if_neg q] at h4; omega
              refine c_region ?_
              refine l_step (s_q rfl wn (q_move rfl) ?_)
              refine l_step (s_q rfl wn (q_move rfl) ?_)
              refine l_step (s_q rfl wn (q_nilCheck rfl) ?_)
              refine l_step (s_q rfl wn (by first | exact q_fieldp rfl fo_74_2 | exact q_fielde rfl fo_74_2 | exact q_fieldr rfl fo_74_2) ?_)
              rw [if_pos hto]
              refine Tr.env (.cons (t := 95) (v := .int .i64 ((idxF c.row.xs r.leads).toNat : Int)) rfl (inte (Int.toNat_of_nonneg hto.1).symm) (EnvLe.refl _)) ?_
              refine l_step (s_s0 wn (s_storep (ws := [_]) (cs := encRc c) (cs' := encRc ({ c with at_ := (idxF c.row.xs r.leads).toNat } : Rc)) rfl rfl rfl sz_3 (by simp [Value.oneCell']) (by simp [encRc, encAsk, encRep]) rfl (by repeat (first | exact Pick.here | apply Pick.there))) ?_)
              rintro _ _ ⟨rfl, rfl⟩
              refine l_nil ?_
              refine k_then_n ?_
              refine c_seq ?_
              refine c_region ?_
              refine l_step (s_q rfl wn (q_move rfl) ?_)
              refine l_step (s_q rfl wn (q_nilCheck rfl) ?_)
              refine l_step (s_q rfl wn (by first | exact q_fieldp rfl fo_74_4 | exact q_fielde rfl fo_74_4 | exact q_fieldr rfl fo_74_4) ?_)
              refine l_step (s_s0 wn (s_storep (ws := [_]) (cs := encRc ({ c with at_ := (idxF c.row.xs r.leads).toNat } : Rc)) (cs' := encRc ({ ({ c with at_ := (idxF c.row.xs r.leads).toNat } : Rc) with since := -1 } : Rc)) rfl rfl rfl sz_3 (by simp [Value.oneCell']) (by simp [encRc, encAsk, encRep]) rfl (by repeat (first | exact Pick.here | apply Pick.there))) ?_)
              rintro _ _ ⟨rfl, rfl⟩
              refine l_nil ?_
              refine k_then_n ?_
              refine c_seq ?_
              refine c_region ?_
              refine l_step (s_q rfl wn (q_assign rfl) ?_)
              refine l_nil ?_
              refine k_then_n ?_
              refine c_ret ?_
              exact t_ret [.pts b (encRc ({ ({ c with at_ := (idxF c.row.xs r.leads).toNat } : Rc) with since := -1 } : Rc)) 74, .row 3 1 c.row.a c.row.xs.length c.row.cap (c.row.xs.flatMap encI)] rfl (.tmp rfl .nil) rfl (Hp.le_refl _) ⟨rfl, (by rw [rhear_off (c := c) (r := r) hmine hoff, rlead_yes hto]; rfl), (by rw [rhear_off (c := c) (r := r) hmine hoff, rlead_yes hto])⟩ (by repeat (first | exact Ent.nil _ | exact Ent.refl _ | (refine Ent.pick (by repeat (first | exact Pick.here | apply Pick.there)) ?_) | refine Ent.skip ?_))
            · skip
              have hto : ¬ (0 ≤ idxF c.row.xs r.leads ∧ idxF c.row.xs r.leads ≠ (c.at_ : Int)) := fun q => by rw [if_pos q] at h4; exact h4 q.1
              refine c_region ?_
              refine l_step (s_q rfl wn (q_move rfl) ?_)
              refine l_step (s_fn rfl wn Try.func60 rfl (by kernel_rfl) rfl (rnext_spec b c h hl ρ) (by repeat (first | exact Sel.nil | exact Pick.here | apply Sel.cons | apply Pick.there)) ?_)
              rintro _ _ _ - ⟨rfl, rfl, rfl⟩
              try simp only [List.cons_append, List.nil_append]
              refine l_nil ?_
              refine k_then_n ?_
              refine c_seq ?_
              refine c_region ?_
              refine l_step (s_q rfl wn (q_move rfl) ?_)
              refine l_step (s_q rfl wn (q_nilCheck rfl) ?_)
              refine l_step (s_q rfl wn (by first | exact q_fieldp rfl fo_74_4 | exact q_fielde rfl fo_74_4 | exact q_fieldr rfl fo_74_4) ?_)
              refine l_step (s_s0 wn (s_storep (ws := [_]) (cs := encRc (rnext c)) (cs' := encRc ({ (rnext c) with since := -1 } : Rc)) rfl rfl rfl sz_3 (by simp [Value.oneCell']) (by simp [encRc, encAsk, encRep]) rfl (by repeat (first | exact Pick.here | apply Pick.there))) ?_)
              rintro _ _ ⟨rfl, rfl⟩
              refine l_nil ?_
              refine k_then_n ?_
              refine c_seq ?_
              refine c_region ?_
              refine l_step (s_q rfl wn (q_assign rfl) ?_)
              refine l_nil ?_
              refine k_then_n ?_
              refine c_ret ?_
              exact t_ret [.pts b (encRc ({ (rnext c) with since := -1 } : Rc)) 74, .row 3 1 c.row.a c.row.xs.length c.row.cap (c.row.xs.flatMap encI)] rfl (.tmp rfl .nil) rfl (Hp.le_refl _) ⟨rfl, (by rw [rhear_off (c := c) (r := r) hmine hoff, rlead_no hto]; rfl), (by rw [rhear_off (c := c) (r := r) hmine hoff, rlead_no hto])⟩ (by repeat (first | exact Ent.nil _ | exact Ent.refl _ | (refine Ent.pick (by repeat (first | exact Pick.here | apply Pick.there)) ?_) | refine Ent.skip ?_))

theorem size_spec (bud bad : Int) (w : SL WvV) (hb : Big w) (ρ : Hp) (Γ : List Asn) (rd : AskRd ρ Γ w) : Spec0 Try.prog 28 #[.agg #[.int .i64 bud, .int .i64 bad, .slice w.a w.xs.length w.cap]] ρ Γ (fun v Γ' => v = .int .i64 (sizeF w.xs : Int) ∧ Γ = Γ') := by
  refine spec_of (n := 31) (vs := [_]) (σ := [(0, _)]) Try.func28 rfl rfl rfl rfl fun E Δ => ?_
  have hb1 := hb.1
  refine c_seq ?_
  refine c_region ?_
  refine l_step (s_s rfl wn (s_box rfl rfl) ?_)
  rintro _ _ ⟨b1, rfl, rfl⟩
  refine l_step (s_q rfl wn (q_assign rfl) ?_)
  refine l_nil ?_
  refine k_then_n ?_
  refine c_seq ?_
  refine c_region ?_
  refine l_step (s_q rfl wn (q_assign rfl) ?_)
  refine l_nil ?_
  refine k_then_n ?_
  refine c_seq ?_
  refine c_seq ?_
  refine c_region ?_
  refine l_step (s_q rfl wn (q_assign rfl) ?_)
  refine l_nil ?_
  refine k_then_n ?_
  refine c_block ?_
  refine t_loop (ι := Nat) (fun k => k ≤ w.xs.length) (fun k => w.xs.length - k) (fun k => [(1, .pointer (some ⟨b1, 0, none⟩)), (3, .int .i64 (sizeF (w.xs.take k) : Int)), (4, .int .i64 (k : Int))]) (fun k => .pts b1 [.int .i64 bud, .int .i64 bad, .slice w.a w.xs.length w.cap] 48 :: (Γ ++ Δ)) 0 (Nat.zero_le _) ?_ ?_ ?_
  · exact .cons rfl (by first | rfl | (simp; done) | simp [*]) (.cons rfl (by simp [sizeF]) (.cons rfl (by first | rfl | (simp; done) | simp [*]) (.nil _)))
  · exact (by repeat (first | exact Ent.nil _ | exact Ent.refl _ | (refine Ent.pick (by repeat (first | exact Pick.here | apply Pick.there)) ?_) | refine Ent.skip ?_))
  intro k hk
  have hsz := sizeF_le (l := w.xs.take k) (fun v hv => hb.2 v (List.mem_of_mem_take hv))
  rw [List.length_take] at hsz
  refine c_seq ?_
  refine c_seq ?_
  refine c_region ?_
  refine l_step (s_q rfl wn (q_move rfl) ?_)
  refine l_step (s_q rfl wn (by first | exact q_fieldp rfl fo_48_2 | exact q_fielde rfl fo_48_2 | exact q_fieldr rfl fo_48_2) ?_)
  refine l_step (s_q rfl wn (by first | exact q_loadp sc_46 rfl (by repeat (first | exact Pick.here | apply Pick.there)) rfl | exact q_loade sc_46 rfl (by first | assumption | exact rd_ro (by assumption) | exact rd_row (by repeat (first | exact Pick.here | apply Pick.there))) (fun _ => rfl) (by first | assumption | omega) (by decide) rfl) ?_)
  refine l_step (s_q rfl wn (q_len Try.underlying46 rfl) ?_)
  refine l_step (s_q rfl wn (q_lss rfl rfl) ?_)
  refine l_nil ?_
  refine k_then_n ?_
  first | refine c_if rfl (fun h0 => ?_) (fun h0 => ?_) | refine c_cond rfl (fun h0 => ?_) (fun h0 => ?_)
  · skip
    have hk2 : k < w.xs.length := by omega
    have hv := hb.2 _ (getD_mem w.xs k hk2)
    have hv1 := hv.1
    have hv2 := hv.2
    refine c_skip ?_
    refine k_then_n ?_
    refine c_seq ?_
    refine c_block ?_
    refine c_drawG (m := 19) (bs := #[false, false, false, false, false, false, false, false, false, false, false, false, false, false, false, false, false, false, false]) (by kernel_rfl) rfl (by kernel_rfl) ?_
    refine r_take (i := 0) (bs' := #[true, false, false, false, false, false, false, false, false, false, false, false, false, false, false, false, false, false, false]) rfl (by kernel_rfl) (by kernel_rfl) (by kernel_rfl) (fun _ _ _ h => h) rfl wn (q_move rfl) (Hp.le_refl _) (by repeat (first | exact Ent.nil _ | exact Ent.refl _ | (refine Ent.pick (by repeat (first | exact Pick.here | apply Pick.there)) ?_) | refine Ent.skip ?_)) (by kernel_rfl) ?_
    refine r_take (i := 1) (bs' := #[true, true, false, false, false, false, false, false, false, false, false, false, false, false, false, false, false, false, false]) rfl (by kernel_rfl) (by kernel_rfl) (by kernel_rfl) (fun _ _ _ h => h) rfl wn (by first | exact q_add rfl rfl (by omega) (by omega) | exact q_addw rfl rfl) (Hp.le_refl _) (by repeat (first | exact Ent.nil _ | exact Ent.refl _ | (refine Ent.pick (by repeat (first | exact Pick.here | apply Pick.there)) ?_) | refine Ent.skip ?_)) (by kernel_rfl) ?_
    refine r_take (i := 2) (bs' := #[true, true, true, false, false, false, false, false, false, false, false, false, false, false, false, false, false, false, false]) rfl (by kernel_rfl) (by kernel_rfl) (by kernel_rfl) (fun _ _ _ h => h) rfl wn (by first | exact q_fieldp rfl fo_48_2 | exact q_fielde rfl fo_48_2 | exact q_fieldr rfl fo_48_2) (Hp.le_refl _) (by repeat (first | exact Ent.nil _ | exact Ent.refl _ | (refine Ent.pick (by repeat (first | exact Pick.here | apply Pick.there)) ?_) | refine Ent.skip ?_)) (by kernel_rfl) ?_
    refine r_take (i := 3) (bs' := #[true, true, true, true, false, false, false, false, false, false, false, false, false, false, false, false, false, false, false]) rfl (by kernel_rfl) (by kernel_rfl) (by kernel_rfl) (fun _ _ _ h => h) rfl wn (by first | exact q_loadp sc_46 rfl (by repeat (first | exact Pick.here | apply Pick.there)) rfl | exact q_loade sc_46 rfl (by first | assumption | exact rd_ro (by assumption) | exact rd_row (by repeat (first | exact Pick.here | apply Pick.there))) (fun _ => rfl) (by first | assumption | omega) (by decide) rfl) (Hp.le_refl _) (by repeat (first | exact Ent.nil _ | exact Ent.refl _ | (refine Ent.pick (by repeat (first | exact Pick.here | apply Pick.there)) ?_) | refine Ent.skip ?_)) (by kernel_rfl) ?_
    refine r_take (i := 4) (bs' := #[true, true, true, true, true, false, false, false, false, false, false, false, false, false, false, false, false, false, false]) rfl (by kernel_rfl) (by kernel_rfl) (by kernel_rfl) (fun _ _ _ h => h) rfl wn (q_move rfl) (Hp.le_refl _) (by repeat (first | exact Ent.nil _ | exact Ent.refl _ | (refine Ent.pick (by repeat (first | exact Pick.here | apply Pick.there)) ?_) | refine Ent.skip ?_)) (by kernel_rfl) ?_
    refine r_take (i := 5) (bs' := #[true, true, true, true, true, true, false, false, false, false, false, false, false, false, false, false, false, false, false]) rfl (by kernel_rfl) (by kernel_rfl) (by kernel_rfl) (fun _ _ _ h => h) rfl wn (q_indexe k Try.underlying46 sz_125 rfl rfl (rd_up rd.1 (by (repeat refine Ent.skip ?_); exact Ent.app _ _)) (by decide) rfl hk2) (Hp.le_refl _) (by repeat (first | exact Ent.nil _ | exact Ent.refl _ | (refine Ent.pick (by repeat (first | exact Pick.here | apply Pick.there)) ?_) | refine Ent.skip ?_)) (by kernel_rfl) ?_
    refine r_take (i := 6) (bs' := #[true, true, true, true, true, true, true, false, false, false, false, false, false, false, false, false, false, false, false]) rfl (by kernel_rfl) (by kernel_rfl) (by kernel_rfl) (fun _ _ _ h => h) rfl wn (by first | exact q_fieldp rfl fo_125_0 | exact q_fielde rfl fo_125_0 | exact q_fieldr rfl fo_125_0) (Hp.le_refl _) (by repeat (first | exact Ent.nil _ | exact Ent.refl _ | (refine Ent.pick (by repeat (first | exact Pick.here | apply Pick.there)) ?_) | refine Ent.skip ?_)) (by kernel_rfl) ?_
    refine r_take (i := 7) (bs' := #[true, true, true, true, true, true, true, true, false, false, false, false, false, false, false, false, false, false, false]) rfl (by kernel_rfl) (by kernel_rfl) (by kernel_rfl) (fun _ _ _ h => h) rfl wn (q_loade (enc := encW) (xs := w.xs) (j := k) (off := 0) sc_40 rfl (rd_up rd.1 (by (repeat refine Ent.skip ?_); exact Ent.app _ _)) (fun _ => rfl) hk2 (by decide) rfl) (Hp.le_refl _) (by repeat (first | exact Ent.nil _ | exact Ent.refl _ | (refine Ent.pick (by repeat (first | exact Pick.here | apply Pick.there)) ?_) | refine Ent.skip ?_)) (by kernel_rfl) ?_
    refine r_take (i := 8) (bs' := #[true, true, true, true, true, true, true, true, true, false, false, false, false, false, false, false, false, false, false]) rfl (by kernel_rfl) (by kernel_rfl) (by kernel_rfl) (fun _ _ _ h => h) rfl wn (q_len Try.underlying40 rfl) (Hp.le_refl _) (by repeat (first | exact Ent.nil _ | exact Ent.refl _ | (refine Ent.pick (by repeat (first | exact Pick.here | apply Pick.there)) ?_) | refine Ent.skip ?_)) (by kernel_rfl) ?_
    refine r_take (i := 9) (bs' := #[true, true, true, true, true, true, true, true, true, true, false, false, false, false, false, false, false, false, false]) rfl (by kernel_rfl) (by kernel_rfl) (by kernel_rfl) (fun _ _ _ h => h) rfl wn (by first | exact q_add rfl rfl (by omega) (by omega) | exact q_addw rfl rfl) (Hp.le_refl _) (by repeat (first | exact Ent.nil _ | exact Ent.refl _ | (refine Ent.pick (by repeat (first | exact Pick.here | apply Pick.there)) ?_) | refine Ent.skip ?_)) (by kernel_rfl) ?_
    refine r_take (i := 10) (bs' := #[true, true, true, true, true, true, true, true, true, true, true, false, false, false, false, false, false, false, false]) rfl (by kernel_rfl) (by kernel_rfl) (by kernel_rfl) (fun _ _ _ h => h) rfl wn (by first | exact q_fieldp rfl fo_48_2 | exact q_fielde rfl fo_48_2 | exact q_fieldr rfl fo_48_2) (Hp.le_refl _) (by repeat (first | exact Ent.nil _ | exact Ent.refl _ | (refine Ent.pick (by repeat (first | exact Pick.here | apply Pick.there)) ?_) | refine Ent.skip ?_)) (by kernel_rfl) ?_
    refine r_take (i := 11) (bs' := #[true, true, true, true, true, true, true, true, true, true, true, true, false, false, false, false, false, false, false]) rfl (by kernel_rfl) (by kernel_rfl) (by kernel_rfl) (fun _ _ _ h => h) rfl wn (by first | exact q_loadp sc_46 rfl (by repeat (first | exact Pick.here | apply Pick.there)) rfl | exact q_loade sc_46 rfl (by first | assumption | exact rd_ro (by assumption) | exact rd_row (by repeat (first | exact Pick.here | apply Pick.there))) (fun _ => rfl) (by first | assumption | omega) (by decide) rfl) (Hp.le_refl _) (by repeat (first | exact Ent.nil _ | exact Ent.refl _ | (refine Ent.pick (by repeat (first | exact Pick.here | apply Pick.there)) ?_) | refine Ent.skip ?_)) (by kernel_rfl) ?_
    refine r_take (i := 12) (bs' := #[true, true, true, true, true, true, true, true, true, true, true, true, true, false, false, false, false, false, false]) rfl (by kernel_rfl) (by kernel_rfl) (by kernel_rfl) (fun _ _ _ h => h) rfl wn (q_move rfl) (Hp.le_refl _) (by repeat (first | exact Ent.nil _ | exact Ent.refl _ | (refine Ent.pick (by repeat (first | exact Pick.here | apply Pick.there)) ?_) | refine Ent.skip ?_)) (by kernel_rfl) ?_
    refine r_take (i := 13) (bs' := #[true, true, true, true, true, true, true, true, true, true, true, true, true, true, false, false, false, false, false]) rfl (by kernel_rfl) (by kernel_rfl) (by kernel_rfl) (fun _ _ _ h => h) rfl wn (q_indexe k Try.underlying46 sz_125 rfl rfl (rd_up rd.1 (by (repeat refine Ent.skip ?_); exact Ent.app _ _)) (by decide) rfl hk2) (Hp.le_refl _) (by repeat (first | exact Ent.nil _ | exact Ent.refl _ | (refine Ent.pick (by repeat (first | exact Pick.here | apply Pick.there)) ?_) | refine Ent.skip ?_)) (by kernel_rfl) ?_
    refine r_take (i := 14) (bs' := #[true, true, true, true, true, true, true, true, true, true, true, true, true, true, true, false, false, false, false]) rfl (by kernel_rfl) (by kernel_rfl) (by kernel_rfl) (fun _ _ _ h => h) rfl wn (by first | exact q_fieldp rfl fo_125_1 | exact q_fielde rfl fo_125_1 | exact q_fieldr rfl fo_125_1) (Hp.le_refl _) (by repeat (first | exact Ent.nil _ | exact Ent.refl _ | (refine Ent.pick (by repeat (first | exact Pick.here | apply Pick.there)) ?_) | refine Ent.skip ?_)) (by kernel_rfl) ?_
    refine r_take (i := 15) (bs' := #[true, true, true, true, true, true, true, true, true, true, true, true, true, true, true, true, false, false, false]) rfl (by kernel_rfl) (by kernel_rfl) (by kernel_rfl) (fun _ _ _ h => h) rfl wn (q_loade (enc := encW) (xs := w.xs) (j := k) (off := 1) sc_40 rfl (rd_up rd.1 (by (repeat refine Ent.skip ?_); exact Ent.app _ _)) (fun _ => rfl) hk2 (by decide) rfl) (Hp.le_refl _) (by repeat (first | exact Ent.nil _ | exact Ent.refl _ | (refine Ent.pick (by repeat (first | exact Pick.here | apply Pick.there)) ?_) | refine Ent.skip ?_)) (by kernel_rfl) ?_
    refine r_take (i := 16) (bs' := #[true, true, true, true, true, true, true, true, true, true, true, true, true, true, true, true, true, false, false]) rfl (by kernel_rfl) (by kernel_rfl) (by kernel_rfl) (fun _ _ _ h => h) rfl wn (q_len Try.underlying40 rfl) (Hp.le_refl _) (by repeat (first | exact Ent.nil _ | exact Ent.refl _ | (refine Ent.pick (by repeat (first | exact Pick.here | apply Pick.there)) ?_) | refine Ent.skip ?_)) (by kernel_rfl) ?_
    refine r_take (i := 17) (bs' := #[true, true, true, true, true, true, true, true, true, true, true, true, true, true, true, true, true, true, false]) rfl (by kernel_rfl) (by kernel_rfl) (by kernel_rfl) (fun _ _ _ h => h) rfl wn (by first | exact q_add rfl rfl (by omega) (by omega) | exact q_addw rfl rfl) (Hp.le_refl _) (by repeat (first | exact Ent.nil _ | exact Ent.refl _ | (refine Ent.pick (by repeat (first | exact Pick.here | apply Pick.there)) ?_) | refine Ent.skip ?_)) (by kernel_rfl) ?_
    refine r_take (i := 18) (bs' := #[true, true, true, true, true, true, true, true, true, true, true, true, true, true, true, true, true, true, true]) rfl (by kernel_rfl) (by kernel_rfl) (by kernel_rfl) (fun _ _ _ h => h) rfl wn (q_assign rfl) (Hp.le_refl _) (by repeat (first | exact Ent.nil _ | exact Ent.refl _ | (refine Ent.pick (by repeat (first | exact Pick.here | apply Pick.there)) ?_) | refine Ent.skip ?_)) (by kernel_rfl) ?_
    refine r_done (by kernel_rfl) ?_
    refine k_blk_n ?_
    refine k_then_n ?_
    refine c_region ?_
    refine l_step (s_q rfl wn (q_move rfl) ?_)
    refine l_step (s_q rfl wn (by first | exact q_add rfl rfl (by omega) (by omega) | exact q_addw rfl rfl) ?_)
    refine l_step (s_q rfl wn (q_assign rfl) ?_)
    refine l_nil ?_
    refine k_then_n ?_
    exact t_next (k + 1) (by omega) (.cons rfl (by first | rfl | (simp; done) | simp [*]) (.cons rfl (inte (by rw [sizeF_succ _ _ hk2]; omega)) (.cons rfl (by first | rfl | (simp; done) | simp [*]) (.nil _)))) (by repeat (first | exact Ent.nil _ | exact Ent.refl _ | (refine Ent.pick (by repeat (first | exact Pick.here | apply Pick.there)) ?_) | refine Ent.skip ?_))
  · skip
    have hk3 : k = w.xs.length := by omega
    rw [hk3, List.take_length]
    refine c_exit ?_
    refine k_then_x ?_
    refine k_then_x ?_
    refine k_blk_x ?_
    refine k_then_n ?_
    refine c_seq ?_
    refine c_region ?_
    refine l_step (s_q rfl wn (q_move rfl) ?_)
    refine l_step (s_q rfl wn (q_assign rfl) ?_)
    refine l_nil ?_
    refine k_then_n ?_
    refine c_ret ?_
    exact t_ret Γ rfl (.tmp rfl .nil) rfl (Hp.le_refl _) ⟨rfl, rfl, rfl⟩ (by (repeat refine Ent.skip ?_); exact Ent.refl _)
end Go.CliX

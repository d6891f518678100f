/-
  Several texts, put together.
-/
import Derived.Test.YtehaoafnobnneaaGreatDoorHrdRR
import Derived.Test.YtehaoafnobnneaaGreatDoorProg
/-
  Walked.
-/
set_option maxRecDepth 100000
set_option maxHeartbeats 4000000
set_option linter.unusedSimpArgs false
set_option linter.unusedVariables false
namespace Go.HrdR
open Go Go.SL Go.Proofs Go.Mou Go.Dsk Go.Hrd Go.Sm
attribute [local irreducible] Go.SL.Ent
theorem zc_97 : zeroCs Tryz.prog 97 = some [.int .u64 0, .slice none 0 0, .slice none 0 0] := by kernel_rfl
theorem pl_97 : placesOf Tryz.prog 97 = some [(0, 1), (1, 1), (2, 1)] := by kernel_rfl
theorem sz_97 : sizeIs Tryz.prog 97 = some 3 := by kernel_rfl
theorem ag_97 : aggSize Tryz.prog 97 = some 3 := by kernel_rfl
theorem fo_97_0 : fieldOff Tryz.prog 97 0 = some (0, 46) := by kernel_rfl
theorem sz_46 : sizeIs Tryz.prog 46 = some 1 := by kernel_rfl

theorem rtake1_spec (bs_a : Option Addr) (bs_n bs_c : Nat) (bs : List UInt8) (hbs_n : bs.length = bs_n) (at_ : Nat) (ρ : Hp) (hro : Ro ρ 1 bs_a bs_n bs_c (bs.flatMap encB)) (hl : bs.length ≤ 1000000000000) (hat : at_ ≤ bs.length) : Spec0 Tryz.prog 76 #[strB [110], .slice bs_a bs_n bs_c, .int .i64 (at_ : Int)] ρ [] (fun v Γ' => v = .tuple #[.agg (encVal1 ((⟨(numR bs at_).1, ⟨none, [], 0⟩, ⟨none, 0, 0⟩⟩ : Val1))).toArray, .int .i64 ((numR bs at_).2.1), .int .i64 ((numR bs at_).2.2)] ∧ Γ' = []) := by
  refine spec_of (n := 156) (vs := [_, _, _]) (σ := [(0, _), (1, _), (2, _)]) Tryz.func76 rfl rfl rfl rfl fun E Δ => ?_
  rw [List.nil_append]
  have hl1 : 0 < ([110] : List UInt8).length := by decide
  refine sr ?_
  refine e_s (s_allocz (cs := encVal1 zVal1) (by kernel_rfl)) ?_
  rintro _ _ ⟨b6, rfl, rfl⟩
  refine e_as rfl ?_
  refine e_as rfl ?_
  refine l_n ?_
  refine sr ?_
  refine e_q (q_build (cs := encVal1 (⟨0, ⟨none, [], 0⟩, ⟨none, 0, 0⟩⟩ : Val1)) zc_97 pl_97 rfl rfl) ?_
  refine e_s (s_allocz (cs := encVal1 zVal1) (by kernel_rfl)) ?_
  rintro _ _ ⟨b9, rfl, rfl⟩
  refine l_step (s_s0 wn (s_storep (ws := encVal1 (⟨0, ⟨none, [], 0⟩, ⟨none, 0, 0⟩⟩ : Val1)) (cs := encVal1 zVal1) (cs' := encVal1 (⟨0, ⟨none, [], 0⟩, ⟨none, 0, 0⟩⟩ : Val1)) rfl rfl rfl sz_97 (oneVal1 _) (by simp [encVal1, encVal1]) rfl pk_) ?_)
  rintro _ _ ⟨rfl, rfl⟩
  refine l_n ?_
  refine c_seq ?_
  refine sr ?_
  refine e_mv rfl ?_
  refine e_q (q_indexs 0 Tryz.underlying9 rfl rfl rfl (by first | assumption | omega)) ?_
  refine e_q (q_eql rfl rfl) ?_
  refine l_n ?_
  refine c_sure false rfl (by rfl) ?_
  simp only [Bool.false_eq_true, if_true, if_false]
  refine c_skip ?_
  refine k_then_n ?_
  refine sr ?_
  refine e_mv rfl ?_
  refine e_mv rfl ?_
  refine e_fn Tryz.func100 rfl sl_ (fun ρ' hL => rnum_spec bs_a bs_n bs_c bs hbs_n at_ ρ' (Ro.mono hL.1 hro) hl hat) ?_
  rintro _ _ ⟨rfl, rfl⟩
  try simp only [List.cons_append, List.nil_append]
  refine e_mv rfl ?_
  refine e_q (q_extract rfl rfl) ?_
  refine e_q (q_extract rfl rfl) ?_
  refine e_q (q_extract rfl rfl) ?_
  refine e_as rfl ?_
  refine e_as rfl ?_
  refine e_as rfl ?_
  refine l_n ?_
  refine c_seq ?_
  refine sr ?_
  refine e_mv rfl ?_
  refine e_q (q_neq rfl rfl) ?_
  refine l_n ?_
  refine c_cond rfl (fun h3 => ?_) (fun h3 => ?_)
  · try simp only [decide_eq_true_eq, decide_eq_false_iff_not, ne_eq, Decidable.not_not] at h3
    obtain ⟨hz1, hz2⟩ := numR_err h3
    rw [hz1, hz2]
    refine sr ?_
    refine e_q (q_loadpa (vs := encVal1 (⟨0, ⟨none, [], 0⟩, ⟨none, 0, 0⟩⟩ : Val1)) ag_97 rfl pk_ rfl) ?_
    refine e_mv rfl ?_
    refine e_mv rfl ?_
    refine l_step (s_s0 wn (s_storep (ws := encVal1 (⟨0, ⟨none, [], 0⟩, ⟨none, 0, 0⟩⟩ : Val1)) (cs := encVal1 zVal1) (cs' := encVal1 (⟨0, ⟨none, [], 0⟩, ⟨none, 0, 0⟩⟩ : Val1)) rfl rfl rfl sz_97 (oneVal1 _) (by simp [encVal1, encVal1]) rfl pk_) ?_)
    rintro _ _ ⟨rfl, rfl⟩
    refine e_as rfl ?_
    refine e_as rfl ?_
    refine l_n ?_
    refine c_ret ?_
    refine k_then_r ?_
    exact t_rt [] rfl (.cell rfl pk_ (fun w h => ld_agg (by exact ag_97) h) (.tmp rfl (.tmp rfl .nil))) rfl ⟨rfl, rfl, rfl⟩ (by (repeat refine Ent.skip ?_); exact Ent.refl _)
  · try simp only [decide_eq_true_eq, decide_eq_false_iff_not, ne_eq, Decidable.not_not] at h3
    refine c_skip ?_
    refine k_then_n ?_
    refine sr ?_
    refine e_mv rfl ?_
    refine e_as rfl ?_
    refine l_n ?_
    refine c_seq ?_
    refine sr ?_
    refine e_mv rfl ?_
    refine e_q (q_indexs 0 Tryz.underlying9 rfl rfl rfl (by first | assumption | omega)) ?_
    refine e_q (q_eql rfl rfl) ?_
    refine l_n ?_
    refine c_sure true rfl (by rfl) ?_
    simp only [Bool.false_eq_true, if_true, if_false]
    refine sr ?_
    refine e_mv rfl ?_
    refine e_q (q_fieldp rfl fo_97_0) ?_
    refine l_step (s_s0 wn (s_storep (ws := [.int .u64 ((numR bs at_).1 : Int)]) (cs := encVal1 (⟨0, ⟨none, [], 0⟩, ⟨none, 0, 0⟩⟩ : Val1)) (cs' := encVal1 (⟨(numR bs at_).1, ⟨none, [], 0⟩, ⟨none, 0, 0⟩⟩ : Val1)) rfl rfl rfl sz_46 (by simp [Value.oneCell', strB, ptV, SL.v, SH.v]) (by simp [encVal1]) rfl pk_) ?_)
    rintro _ _ ⟨rfl, rfl⟩
    refine l_n ?_
    refine sr ?_
    refine e_q (q_loadpa (vs := encVal1 (⟨(numR bs at_).1, ⟨none, [], 0⟩, ⟨none, 0, 0⟩⟩ : Val1)) ag_97 rfl pk_ rfl) ?_
    refine e_mv rfl ?_
    refine l_step (s_s0 wn (s_storep (ws := encVal1 (⟨(numR bs at_).1, ⟨none, [], 0⟩, ⟨none, 0, 0⟩⟩ : Val1)) (cs := encVal1 zVal1) (cs' := encVal1 (⟨(numR bs at_).1, ⟨none, [], 0⟩, ⟨none, 0, 0⟩⟩ : Val1)) rfl rfl rfl sz_97 (oneVal1 _) (by simp [encVal1, encVal1]) rfl pk_) ?_)
    rintro _ _ ⟨rfl, rfl⟩
    refine e_as rfl ?_
    refine e_as rfl ?_
    refine l_n ?_
    refine c_ret ?_
    refine k_then_r ?_
    have hz : (numR bs at_).2.2 = 0 := by omega
    rw [hz]
    exact t_rt [] rfl (.cell rfl pk_ (fun w h => ld_agg (by exact ag_97) h) (.tmp rfl (.tmp rfl .nil))) rfl ⟨rfl, rfl, rfl⟩ (by (repeat refine Ent.skip ?_); exact Ent.refl _)
end Go.HrdR

/-
  Walked.
-/
set_option maxRecDepth 100000
set_option maxHeartbeats 4000000
set_option linter.unusedSimpArgs false
set_option linter.unusedVariables false
namespace Go.HrdR
open Go Go.SL Go.Proofs Go.Mou Go.Dsk Go.Hrd Go.Sm
attribute [local irreducible] Go.SL.Ent
theorem sz_9 : sizeIs Tryz.prog 9 = some 1 := by kernel_rfl
theorem sc_9 : isScalar Tryz.prog 9 = true := by kernel_rfl
theorem fo_97_2 : fieldOff Tryz.prog 97 2 = some (2, 95) := by kernel_rfl
theorem sc_95 : isScalar Tryz.prog 95 = true := by kernel_rfl
theorem eo_97 : elemOk Tryz.prog 97 3 56 = true := by kernel_rfl
theorem sz_95 : sizeIs Tryz.prog 95 = some 1 := by kernel_rfl

theorem rtake3_spec (bs_a : Option Addr) (bs_n bs_c : Nat) (bs : List UInt8) (hbs_n : bs.length = bs_n) (at_ : Nat) (ρ : Hp) (hro : Ro ρ 1 bs_a bs_n bs_c (bs.flatMap encB)) (hl : bs.length ≤ 1000000000000) (hat : at_ ≤ bs.length) : Spec0 Tryz.prog 76 #[strB nnn, .slice bs_a bs_n bs_c, .int .i64 (at_ : Int)] ρ [] (fun v Γ' => (∃ e b, rdN bs at_ 3 = .error e ∧ e ≠ 0 ∧ v = .tuple #[.agg (encVal1 zVal1).toArray, .int .i64 b, .int .i64 e] ∧ Γ' = []) ∨ (∃ L b a c, rdN bs at_ 3 = .ok (L, b) ∧ b ≤ bs.length ∧ L.length = 3 ∧ v = .tuple #[.agg (encVal1 (⟨0, ⟨none, [], 0⟩, ⟨a, L.length, c⟩⟩ : Val1)).toArray, .int .i64 (b : Int), .int .i64 0] ∧ Γ' = [.row 97 3 a L.length c ((L.map leafN).flatMap encVal1)])) := by
  refine spec_of (n := 156) (vs := [_, _, _]) (σ := [(0, _), (1, _), (2, _)]) Tryz.func76 rfl rfl rfl rfl fun E Δ => ?_
  rw [List.nil_append]
  have hl1 : 0 < nnn.length := by decide
  refine sr ?_
  refine e_s (s_allocz (cs := encVal1 zVal1) (by kernel_rfl)) ?_
  rintro _ _ ⟨b6, rfl, rfl⟩
  refine e_as rfl ?_
  refine e_as rfl ?_
  refine l_n ?_
  refine sr ?_
  refine e_q (q_build (cs := encVal1 (⟨0, ⟨none, [], 0⟩, ⟨none, 0, 0⟩⟩ : Val1)) zc_97 pl_97 rfl rfl) ?_
  refine e_s (s_allocz (cs := encVal1 zVal1) (by kernel_rfl)) ?_
  rintro _ _ ⟨b9, rfl, rfl⟩
  refine l_step (s_s0 wn (s_storep (ws := encVal1 (⟨0, ⟨none, [], 0⟩, ⟨none, 0, 0⟩⟩ : Val1)) (cs := encVal1 zVal1) (cs' := encVal1 (⟨0, ⟨none, [], 0⟩, ⟨none, 0, 0⟩⟩ : Val1)) rfl rfl rfl sz_97 (oneVal1 _) (by simp [encVal1, encVal1]) rfl pk_) ?_)
  rintro _ _ ⟨rfl, rfl⟩
  refine l_n ?_
  refine c_seq ?_
  refine sr ?_
  refine e_mv rfl ?_
  refine e_q (q_indexs 0 Tryz.underlying9 rfl rfl rfl (by first | assumption | omega)) ?_
  refine e_q (q_eql rfl rfl) ?_
  refine l_n ?_
  refine c_sure true rfl (by rfl) ?_
  simp only [Bool.false_eq_true, if_true, if_false]
  refine sr ?_
  refine e_mv rfl ?_
  refine e_fn Tryz.func99 rfl sl_ (fun ρ' hL => rrows_spec ρ') ?_
  rintro _ _ ⟨aL, cL, rfl, rfl⟩
  try simp only [List.cons_append, List.nil_append]
  refine e_as rfl ?_
  refine l_n ?_
  refine c_seq ?_
  refine sr ?_
  refine Tr.ent (Ent.nilrow 97 3 _) ?_
  refine e_as rfl ?_
  refine l_n ?_
  refine c_block ?_
  refine Tr.env (σ' := [(0, _), (1, _), (2, _), (6, _), (9, _), (10, _), (11, _)]) ev_ ?_
  refine t_loop (ι := Lp (Nat × List Nat × Nat × Option Addr × Nat)) (fun x => x.d.1 ≤ 3 ∧ rdN bs at_ x.d.1 = .ok (x.d.2.1, x.d.2.2.1) ∧ x.d.2.1.length = x.d.1 ∧ x.d.2.2.1 ≤ bs.length) (fun x => 3 - x.d.1) (fun x => [(0, (strB nnn)), (1, .slice bs_a bs_n bs_c), (2, .int .i64 (x.d.2.2.1 : Int)), (6, .pointer (some ⟨b6, 0, none⟩)), (9, .pointer (some ⟨b9, 0, none⟩)), (10, .slice aL 3 cL), (11, .int .i64 (x.d.1 : Int))]) (fun x => .row 97 3 x.d.2.2.2.1 x.d.2.1.length x.d.2.2.2.2 ((x.d.2.1.map leafN).flatMap encVal1) :: .row 9 1 aL 3 cL (([[110], [110], [110]] : List (List UInt8)).flatMap Go.SL.encStr) :: .pts b9 (encVal1 (⟨0, ⟨none, [], 0⟩, ⟨x.d.2.2.2.1, x.d.2.1.length, x.d.2.2.2.2⟩⟩ : Val1)) 97 :: .pts b6 (encVal1 zVal1) 97 :: Δ) (⟨(0, [], at_, none, 0), none, 0, none, 0, none, 0⟩ : Lp _) ⟨Nat.zero_le _, rfl, rfl, hat⟩ ?_ ?_ ?_
  · exact .c (.c (.c (.c (.c (.c (.c (.nil _)))))))
  · exact en_
  intro x hx
  obtain ⟨hx1, hx2, hx3, hx4⟩ := hx
  refine c_seq ?_
  refine sr ?_
  refine e_mv rfl ?_
  refine e_mv rfl ?_
  refine e_q (q_len Tryz.underlying49 rfl) ?_
  refine e_q (q_lss rfl rfl) ?_
  refine l_n ?_
  refine c_cond rfl (fun h1 => ?_) (fun h1 => ?_)
  · try simp only [decide_eq_true_eq, decide_eq_false_iff_not] at h1
    refine c_skip ?_
    refine k_then_n ?_
    refine c_seq ?_
    refine c_block ?_
    refine sr ?_
    refine e_mv rfl ?_
    refine e_mv rfl ?_
    refine e_q (q_indexe x.d.1 Tryz.underlying49 sz_9 rfl rfl (rd_row pk_) (by decide) rfl (by first | assumption | omega | (simp only [List.length_cons, List.length_nil]; omega))) ?_
    refine e_q (q_loade (enc := Go.SL.encStr) (xs := ([[110], [110], [110]] : List (List UInt8))) (j := x.d.1) (off := 0) sc_9 rfl (rd_row pk_) (fun _ => rfl) (by first | assumption | omega | (simp only [List.length_cons, List.length_nil]; omega)) (by decide) rfl) ?_
    refine e_mv rfl ?_
    refine e_mv rfl ?_
    refine e_fn Tryz.func76 rfl sl_ (fun ρ' hL => (by rw [ns_at x.d.1 (by omega)]; exact rtake1_spec bs_a bs_n bs_c bs hbs_n x.d.2.2.1 ρ' (Ro.mono hL.1 hro) hl hx4)) ?_
    rintro _ _ ⟨rfl, rfl⟩
    try simp only [List.cons_append, List.nil_append]
    refine e_mv rfl ?_
    refine e_q (q_extract rfl rfl) ?_
    refine e_q (q_extract rfl rfl) ?_
    refine e_q (q_extract rfl rfl) ?_
    refine e_s (s_allocz (cs := encVal1 zVal1) (by kernel_rfl)) ?_
    rintro _ _ ⟨b12, rfl, rfl⟩
    refine l_step (s_s0 wn (s_storep (ws := encVal1 (leafN (numR bs x.d.2.2.1).1)) (cs := encVal1 zVal1) (cs' := encVal1 (leafN (numR bs x.d.2.2.1).1)) rfl rfl rfl sz_97 (oneVal1 _) (by simp [encVal1, encVal1]) rfl pk_) ?_)
    rintro _ _ ⟨rfl, rfl⟩
    refine e_as rfl ?_
    refine e_as rfl ?_
    refine l_n ?_
    refine c_seq ?_
    refine sr ?_
    refine e_mv rfl ?_
    refine e_q (q_neq rfl rfl) ?_
    refine l_n ?_
    refine c_cond rfl (fun h2 => ?_) (fun h2 => ?_)
    · try simp only [decide_eq_true_eq, decide_eq_false_iff_not, ne_eq, Decidable.not_not] at h2
      refine sr ?_
      refine e_q (q_build (cs := encVal1 (⟨0, ⟨none, [], 0⟩, ⟨none, 0, 0⟩⟩ : Val1)) zc_97 pl_97 rfl rfl) ?_
      refine e_mv rfl ?_
      refine e_mv rfl ?_
      refine l_step (s_s0 wn (s_storep (ws := encVal1 (⟨0, ⟨none, [], 0⟩, ⟨none, 0, 0⟩⟩ : Val1)) (cs := encVal1 zVal1) (cs' := encVal1 (⟨0, ⟨none, [], 0⟩, ⟨none, 0, 0⟩⟩ : Val1)) rfl rfl rfl sz_97 (oneVal1 _) (by simp [encVal1, encVal1]) rfl pk_) ?_)
      rintro _ _ ⟨rfl, rfl⟩
      refine e_as rfl ?_
      refine e_as rfl ?_
      refine l_n ?_
      refine c_ret ?_
      refine k_then_r ?_
      refine k_blk_r ?_
      refine k_then_r ?_
      refine k_then_r ?_
      refine k_blk_r ?_
      refine k_then_r ?_
      refine k_then_r ?_
      exact t_rt [] rfl (.cell rfl pk_ (fun w h => ld_agg (by exact ag_97) h) (.tmp rfl (.tmp rfl .nil))) rfl ⟨rfl, .inl ⟨_, _, rdN_err hx2 (by omega) h2, h2, rfl, rfl⟩⟩ (by (repeat refine Ent.skip ?_); exact Ent.refl _)
    · try simp only [decide_eq_true_eq, decide_eq_false_iff_not, ne_eq, Decidable.not_not] at h2
      have hz9 : (numR bs x.d.2.2.1).2.2 = 0 := by omega
      have hbd := numR_bd hx4
      refine c_skip ?_
      refine k_then_n ?_
      refine sr ?_
      refine e_q (q_fieldp rfl fo_97_2) ?_
      refine e_q (q_loadp (v := .slice x.d.2.2.2.1 x.d.2.1.length x.d.2.2.2.2) sc_95 rfl pk_ rfl) ?_
      refine e_q (q_loadpa (vs := encVal1 (leafN (numR bs x.d.2.2.1).1)) ag_97 rfl pk_ rfl) ?_
      refine e_s (s_buildSlice (cs := ([(leafN (numR bs x.d.2.2.1).1)] : List Val1).flatMap encVal1) Tryz.underlying95 eo_97 rfl rfl rfl rfl (by decide) (by decide)) ?_
      rintro _ _ ⟨b54, rfl, rfl⟩
      refine e_s (s_appendn (enc := encVal1) (xs := ((x.d.2.1.map leafN) : List Val1)) (ys := ([(leafN (numR bs x.d.2.2.1).1)] : List Val1)) (Γ' := fun a' cap' => _) Tryz.underlying95 eo_97 (by decide) rfl rfl (rd_row pk_) (oneVal1s _) (by first | omega | (simp only [List.length_append, List.length_cons, List.length_nil] at *; omega)) (by first | omega | (simp only [List.length_append, List.length_cons, List.length_nil] at *; omega)) (fun _ _ => pk_)) ?_
      rintro _ _ ⟨a55, c55, rfl, rfl⟩
      refine e_q (q_fieldp rfl fo_97_2) ?_
      refine l_step (s_s0 wn (s_storep (ws := [.slice a55 (x.d.2.1.length + 1) c55]) (cs := encVal1 (⟨0, ⟨none, [], 0⟩, ⟨x.d.2.2.2.1, x.d.2.1.length, x.d.2.2.2.2⟩⟩ : Val1)) (cs' := encVal1 (⟨0, ⟨none, [], 0⟩, ⟨a55, (x.d.2.1.length + 1), c55⟩⟩ : Val1)) rfl rfl rfl sz_95 (by simp [Value.oneCell', strB, ptV, SL.v, SH.v]) (by simp [encVal1]) rfl pk_) ?_)
      rintro _ _ ⟨rfl, rfl⟩
      refine l_n ?_
      refine c_region ?_
      refine e_mv rfl ?_
      refine e_as rfl ?_
      refine l_nil ?_
      refine k_blk_n ?_
      refine k_then_n ?_
      refine c_region ?_
      refine e_mv rfl ?_
      refine e_q (q_add rfl rfl (by omega) (by omega)) ?_
      refine e_as rfl ?_
      refine l_n ?_
      rw [show x.d.2.1.map leafN ++ [leafN (numR bs x.d.2.2.1).1] = (x.d.2.1 ++ [(numR bs x.d.2.2.1).1]).map leafN from by simp, show x.d.2.1.length + 1 = (x.d.2.1 ++ [(numR bs x.d.2.2.1).1]).length from by simp]
      exact t_nx (⟨(x.d.1 + 1, (x.d.2.1 ++ [(numR bs x.d.2.2.1).1]), (numR bs x.d.2.2.1).2.1.toNat, a55, c55), none, 0, none, 0, none, 0⟩ : Lp _) ⟨⟨by (try simp only []); omega, rdN_ok hx2 hz9, by simp only [List.length_append, List.length_cons, List.length_nil]; omega, by (try simp only []); omega⟩, by (try simp only []); omega⟩ (.c (.c (.c (.c (.c (.c (.c (.nil _))))))))
  · try simp only [decide_eq_true_eq, decide_eq_false_iff_not] at h1
    have hk : x.d.1 = 3 := by omega
    refine c_exit ?_
    refine k_then_x ?_
    refine k_then_x ?_
    refine k_blk_x ?_
    refine k_then_n ?_
    refine sr ?_
    refine e_q (q_loadpa (vs := encVal1 (⟨0, ⟨none, [], 0⟩, ⟨x.d.2.2.2.1, x.d.2.1.length, x.d.2.2.2.2⟩⟩ : Val1)) ag_97 rfl pk_ rfl) ?_
    refine e_mv rfl ?_
    refine l_step (s_s0 wn (s_storep (ws := encVal1 (⟨0, ⟨none, [], 0⟩, ⟨x.d.2.2.2.1, x.d.2.1.length, x.d.2.2.2.2⟩⟩ : Val1)) (cs := encVal1 zVal1) (cs' := encVal1 (⟨0, ⟨none, [], 0⟩, ⟨x.d.2.2.2.1, x.d.2.1.length, x.d.2.2.2.2⟩⟩ : Val1)) rfl rfl rfl sz_97 (oneVal1 _) (by simp [encVal1, encVal1]) rfl pk_) ?_)
    rintro _ _ ⟨rfl, rfl⟩
    refine e_as rfl ?_
    refine e_as rfl ?_
    refine l_n ?_
    refine c_ret ?_
    refine k_then_r ?_
    exact t_rt [.row 97 3 x.d.2.2.2.1 x.d.2.1.length x.d.2.2.2.2 ((x.d.2.1.map leafN).flatMap encVal1)] rfl (.cell rfl pk_ (fun w h => ld_agg (by exact ag_97) h) (.tmp rfl (.tmp rfl .nil))) rfl ⟨rfl, .inr ⟨x.d.2.1, x.d.2.2.1, x.d.2.2.2.1, x.d.2.2.2.2, by rw [← hk]; exact hx2, hx4, by omega, rfl, rfl⟩⟩
end Go.HrdR

/-
  The reference's slot: the same as the program's. No program in sight.
-/
set_option linter.unusedVariables false
set_option linter.unusedSimpArgs false
namespace Go.Hrd
open Go Go.SL Go.Mou Go.Dsk Go.Sm
theorem beW_nat (a b c d : UInt8) : (beW a b c d).toNat = a.toNat * 16777216 + b.toNat * 65536 + c.toNat * 256 + d.toNat := by
  have ha := a.toNat_lt
  have hb := b.toNat_lt
  have hc := c.toNat_lt
  have hd := d.toNat_lt
  have e : ∀ x : UInt8, (x.toBitVec.setWidth 32).toNat = x.toNat := fun x => by
    have := x.toNat_lt
    rw [BitVec.toNat_setWidth, Nat.mod_eq_of_lt (by show x.toNat < _; omega)]; rfl
  unfold beW
  rw [BitVec.toNat_or, BitVec.toNat_or, BitVec.toNat_or, BitVec.toNat_shiftLeft, BitVec.toNat_shiftLeft, BitVec.toNat_shiftLeft, e, e, e, e]
  have e3 : a.toNat <<< 24 % 2 ^ 32 = 2 ^ 24 * a.toNat := by rw [Nat.shiftLeft_eq]; omega
  have e2 : b.toNat <<< 16 % 2 ^ 32 = 2 ^ 16 * b.toNat := by rw [Nat.shiftLeft_eq]; omega
  have e1 : c.toNat <<< 8 % 2 ^ 32 = 2 ^ 8 * c.toNat := by rw [Nat.shiftLeft_eq]; omega
  rw [e3, e2, e1]
  rw [← Nat.two_pow_add_eq_or_of_lt (i := 24) (by omega)]
  rw [show 2 ^ 24 * a.toNat + 2 ^ 16 * b.toNat = 2 ^ 16 * (2 ^ 8 * a.toNat + b.toNat) from by omega]
  rw [← Nat.two_pow_add_eq_or_of_lt (i := 16) (by omega)]
  rw [show 2 ^ 16 * (2 ^ 8 * a.toNat + b.toNat) + 2 ^ 8 * c.toNat = 2 ^ 8 * (2 ^ 8 * (2 ^ 8 * a.toNat + b.toNat) + c.toNat) from by omega]
  rw [← Nat.two_pow_add_eq_or_of_lt (i := 8) (by omega)]
  omega
theorem sum_is (w : BitVec 32) (a b c d : UInt8) : w = beW a b c d ↔ a.toNat = w.toNat / 16777216 % 256 ∧ b.toNat = w.toNat / 65536 % 256 ∧ c.toNat = w.toNat / 256 % 256 ∧ d.toNat = w.toNat % 256 := by
  have ha := a.toNat_lt
  have hb := b.toNat_lt
  have hc := c.toNat_lt
  have hd := d.toNat_lt
  have hw := w.isLt
  have hn := beW_nat a b c d
  constructor
  · intro e
    rw [← e] at hn
    omega
  · intro h
    apply BitVec.eq_of_toNat_eq
    rw [hn]
    omega
def leafPV (n : Nat) : PV := .mk n [] []
theorem numT_drop {bs r : List UInt8} {n : Nat} (h : numT bs = .ok (n, r)) : r = bs.drop (bs.length - r.length) := by
  cases bs with
  | nil => cases h
  | cons c q =>
    simp only [numT] at h
    split at h
    · cases h
    · split at h
      · cases h
      · split at h
        · cases h
        · rename_i h3
          cases h
          rw [List.length_drop, List.length_cons, show q.length + 1 - (q.length - c.toNat) = c.toNat + 1 by omega, List.drop_succ_cons]
theorem numR_is {bs : List UInt8} {k : Nat} (hk : k ≤ bs.length) :
    ((numR bs k).2.2 = 0 → numT (bs.drop k) = .ok ((numR bs k).1, bs.drop (numR bs k).2.1.toNat)) ∧ ((numR bs k).2.2 ≠ 0 → numT (bs.drop k) = .error (numR bs k).2.2) := by
  unfold numR
  split
  · rename_i n r h
    refine ⟨fun _ => ?_, fun h9 => absurd rfl h9⟩
    have h1 := numT_drop h
    have h2 := numT_le h
    rw [List.length_drop] at h1 h2
    rw [List.drop_drop] at h1
    rw [h]
    simp only []
    rw [show ((bs.length : Int) - (r.length : Int)).toNat = k + (bs.length - k - r.length) by omega, ← h1]
  · rename_i e h
    refine ⟨fun h9 => ?_, fun _ => h⟩
    simp only at h9
    subst h9
    exfalso
    cases hq : bs.drop k with
    | nil => rw [hq] at h; cases h
    | cons c q =>
      rw [hq] at h
      simp only [numT] at h
      split at h
      · cases h
      · split at h
        · cases h
        · split at h <;> cases h
theorem rd3 {bs : List UInt8} {k : Nat} (hk : k ≤ bs.length) :
    (∀ L a, rdN bs k 3 = .ok (L, a) → takeF sh3 (bs.drop k) = .ok (.mk 0 [] (L.map leafPV), bs.drop a)) ∧ (∀ e, rdN bs k 3 = .error e → ∃ e', takeF sh3 (bs.drop k) = .error e') := by
  have b0 := numR_bd hk
  obtain ⟨p0, q0⟩ := numR_is hk
  by_cases h0 : (numR bs k).2.2 = 0
  · have r1 : rdN bs k 1 = .ok ([(numR bs k).1], (numR bs k).2.1.toNat) := by simp [rdN, h0]
    have k1 : (numR bs k).2.1.toNat ≤ bs.length := by omega
    have t0 := p0 h0
    generalize (numR bs k).2.1.toNat = a1 at *
    generalize (numR bs k).1 = n1 at *
    have b1 := numR_bd k1
    obtain ⟨p1, q1⟩ := numR_is k1
    by_cases h1 : (numR bs a1).2.2 = 0
    · have r2 : rdN bs k 2 = .ok ([n1, (numR bs a1).1], (numR bs a1).2.1.toNat) := rdN_ok r1 h1
      have k2 : (numR bs a1).2.1.toNat ≤ bs.length := by omega
      have t1 := p1 h1
      generalize (numR bs a1).2.1.toNat = a2 at *
      generalize (numR bs a1).1 = n2 at *
      obtain ⟨p2, q2⟩ := numR_is k2
      by_cases h2 : (numR bs a2).2.2 = 0
      · have r3 : rdN bs k 3 = .ok ([n1, n2, (numR bs a2).1], (numR bs a2).2.1.toNat) := rdN_ok r2 h2
        have t2 := p2 h2
        refine ⟨fun L a h => ?_, fun e h => (by rw [r3] at h; cases h)⟩
        rw [r3] at h
        cases h
        exact take3_of t0 t1 t2
      · have r3 := rdN_err (n := 3) r2 (by omega) h2
        refine ⟨fun L a h => (by rw [r3] at h; cases h), fun e h => ⟨(numR bs a2).2.2, ?_⟩⟩
        simp only [sh3, takeF, takes, t0, t1, q2 h2]
    · have r3 := rdN_err (n := 3) r1 (by omega) h1
      refine ⟨fun L a h => (by rw [r3] at h; cases h), fun e h => ⟨(numR bs a1).2.2, ?_⟩⟩
      simp only [sh3, takeF, takes, t0, q1 h1]
  · have r0 : rdN bs k 0 = .ok ([], k) := rfl
    have r3 := rdN_err (n := 3) r0 (by omega) h0
    refine ⟨fun L a h => (by rw [r3] at h; cases h), fun e h => ⟨(numR bs k).2.2, ?_⟩⟩
    simp only [sh3, takeF, takes, q0 h0]
theorem body_bad {bs : List UInt8} {k : Nat} (hk : k ≤ bs.length) {e : Int} (h : rdN bs k 3 = .error e) : bodyF (bs.drop k) = (0, zSt) := by
  obtain ⟨e', h'⟩ := (rd3 hk).2 e h
  unfold bodyF; rw [h']
theorem body_more {bs : List UInt8} {k a : Nat} {L : List Nat} (hk : k ≤ bs.length) (h : rdN bs k 3 = .ok (L, a)) (ha : a < bs.length) : bodyF (bs.drop k) = (0, zSt) := by
  unfold bodyF
  rw [(rd3 hk).1 L a h]
  cases hq : bs.drop a with
  | nil => have := congrArg List.length hq; rw [List.length_drop] at this; simp at this; omega
  | cons c q => rfl
theorem body_all {bs : List UInt8} {k a : Nat} {L : List Nat} (hk : k ≤ bs.length) (h : rdN bs k 3 = .ok (L, a)) (ha : bs.length ≤ a) : bodyF (bs.drop k) = valF (.mk 0 [] (L.map leafPV)) := by
  unfold bodyF
  rw [(rd3 hk).1 L a h, List.drop_eq_nil_of_le ha]
theorem quo32 {n k : Nat} (h : n < 4294967296) : IntKind.wrap .u32 (((n : Int)).tdiv (k : Int)) = ((n / k : Nat) : Int) := by
  have h1 := Nat.div_le_self n k
  rw [Int.tdiv_eq_ediv_of_nonneg (by omega), ← Int.natCast_ediv]
  generalize n / k = q at h1 ⊢
  exact wrap_u32 (by omega) (by omega)
theorem conv8 (n : Nat) : IntKind.wrap .u8 (n : Int) = ((n % 256 : Nat) : Int) := by rw [wrap8, UInt8.toNat_ofNat']
theorem leaf_at {L : List Nat} {i : Nat} (h : i < L.length) : ((L.map leafN).getD i default).N = L.getD i default := by simp [List.getD, h, leafN]
theorem leafPV_at {L : List Nat} {i : Nat} (h : i < L.length) : ((L.map leafPV).getD i default).N = L.getD i default := by simp [List.getD, h, leafPV, PV.N]
section
variable {bs : List UInt8} {b : Nat} {L : List Nat}
theorem good_is (hL : L.length = 3) : goodV (.mk 0 [] (L.map leafPV)) = !(decide (4611686018427387904 ≤ L.getD 0 default) || decide (4611686018427387904 ≤ L.getD 1 default) || decide (4611686018427387904 < L.getD 2 default)) := by
  have g : ∀ i, i < 3 → ((PV.mk 0 [] (L.map leafPV)).L.getD i default).N = L.getD i default := fun i hi => leafPV_at (by omega)
  unfold goodV top62
  rw [g 0 (by omega), g 1 (by omega), g 2 (by omega)]
theorem slot_no (hs : slotF bs = bodyF (bs.drop 4)) (h4 : 4 ≤ bs.length) (hr : rdN bs 4 3 = .ok (L, b)) (hL : L.length = 3) (h : b < bs.length ∨ 4611686018427387904 ≤ L.getD 0 default ∨ 4611686018427387904 ≤ L.getD 1 default ∨ 4611686018427387904 < L.getD 2 default) : slotF bs = (0, zSt) := by
  rw [hs]
  by_cases hb : b < bs.length
  · exact body_more h4 hr hb
  · rw [body_all h4 hr (by omega)]
    apply val_bad
    rw [good_is hL]
    rcases h with h | h | h | h
    · exact absurd h hb
    · rw [decide_eq_true h]; rfl
    · rw [decide_eq_true h, Bool.or_true]; rfl
    · rw [decide_eq_true h, Bool.or_true]; rfl
theorem slot_yes (hs : slotF bs = bodyF (bs.drop 4)) (h4 : 4 ≤ bs.length) (hr : rdN bs 4 3 = .ok (L, b)) (hL : L.length = 3) (hb : bs.length ≤ b) (h0 : L.getD 0 default < 4611686018427387904) (h1 : L.getD 1 default < 4611686018427387904) (h2 : L.getD 2 default ≤ 4611686018427387904) :
    slotF bs = (L.getD 0 default, ⟨(L.getD 1 default : Int), (L.getD 2 default : Int) - 1⟩) := by
  have g : ∀ i, i < 3 → ((PV.mk 0 [] (L.map leafPV)).L.getD i default).N = L.getD i default := fun i hi => leafPV_at (by omega)
  rw [hs, body_all h4 hr hb, val_good]
  · rw [g 0 (by omega), g 1 (by omega), g 2 (by omega)]
  · rw [good_is hL, decide_eq_false (by omega), decide_eq_false (by omega), decide_eq_false (by omega)]; rfl
end
end Go.Hrd

/-
  Walked.
-/
set_option maxRecDepth 100000
set_option maxHeartbeats 4000000
set_option linter.unusedSimpArgs false
set_option linter.unusedVariables false
namespace Go.HrdR
open Go Go.SL Go.Proofs Go.Mou Go.Dsk Go.Hrd Go.Sm
attribute [local irreducible] Go.SL.Ent
theorem zc_23 : zeroCs Tryz.prog 23 = some [.int .i64 0, .int .i64 0] := by kernel_rfl
theorem pl_23 : placesOf Tryz.prog 23 = some [(0, 1), (1, 1)] := by kernel_rfl
theorem sz_23 : sizeIs Tryz.prog 23 = some 2 := by kernel_rfl
theorem ag_23 : aggSize Tryz.prog 23 = some 2 := by kernel_rfl
theorem sc_46 : isScalar Tryz.prog 46 = true := by kernel_rfl

theorem rslot_spec (bs_a : Option Addr) (bs_n bs_c : Nat) (bs : List UInt8) (hbs_n : bs.length = bs_n) (ρ : Hp) (hro : Ro ρ 1 bs_a bs_n bs_c (bs.flatMap encB)) (hl : bs.length ≤ 1000000000000) : Spec0 Tryz.prog 46 #[.slice bs_a bs_n bs_c] ρ [] (fun v Γ' => v = .tuple #[.int .u64 (((slotF bs).1) : Int), .agg (encState1 ((slotF bs).2)).toArray] ∧ Γ' = []) := by
  refine spec_of (n := 107) (vs := [_]) (σ := [(0, _)]) Tryz.func46 rfl rfl rfl rfl fun E Δ => ?_
  rw [List.nil_append]
  have hro2 : (⟨bs_a, bs, bs_c⟩ : SL UInt8).ro encB 1 ρ := by unfold SL.ro; rw [hbs_n]; exact hro
  have hcp : bs_n ≤ bs_c := hro.2.1
  refine sr ?_
  refine e_as rfl ?_
  refine e_s (s_allocz (cs := encState1 zState1) (by kernel_rfl)) ?_
  rintro _ _ ⟨b3, rfl, rfl⟩
  refine l_n ?_
  refine c_seq ?_
  refine sr ?_
  refine e_mv rfl ?_
  refine e_q (q_len Tryz.underlying38 rfl) ?_
  refine e_q (q_lss rfl rfl) ?_
  refine l_n ?_
  refine c_cond rfl (fun h0 => ?_) (fun h0 => ?_)
  · try simp only [decide_eq_true_eq, decide_eq_false_iff_not] at h0
    refine sr ?_
    refine e_q (q_build (cs := encState1 (⟨0, 0⟩ : State1)) zc_23 pl_23 rfl rfl) ?_
    refine e_as rfl ?_
    refine l_step (s_s0 wn (s_storep (ws := encState1 (⟨0, 0⟩ : State1)) (cs := encState1 zState1) (cs' := encState1 (⟨0, 0⟩ : State1)) rfl rfl rfl sz_23 (oneState1 _) (by simp [encState1, encState1]) rfl pk_) ?_)
    rintro _ _ ⟨rfl, rfl⟩
    refine l_n ?_
    refine c_ret ?_
    refine k_then_r ?_
    have hr : slotF bs = (0, zSt) := slot_short (by omega)
    rw [hr]
    exact t_rt [] rfl (.tmp rfl (.cell rfl pk_ (fun w h => ld_agg (by exact ag_23) h) .nil)) rfl ⟨rfl, rfl, rfl⟩ (by (repeat refine Ent.skip ?_); exact Ent.refl _)
  · try simp only [decide_eq_true_eq, decide_eq_false_iff_not] at h0
    refine c_skip ?_
    refine k_then_n ?_
    refine sr ?_
    refine e_mv rfl ?_
    refine e_q (q_as (v := .slice (sh bs_a bs_c 4 1) (bs.drop 4).length (bs_c - 4)) (q_cut_lo Tryz.underlying38 sz_5 rfl rfl (by omega) (by omega)) (by rw [List.length_drop, hbs_n]; rfl)) ?_
    refine l_step (s_fnq rfl wn Tryz.func68 rfl (by kernel_rfl) rfl (fun ρ' hL => rof_spec (sh bs_a bs_c 4 1) (bs.drop 4).length (bs_c - 4) (bs.drop 4) rfl ρ' (Ro.mono hL.1 ((Suf.drop (⟨bs_a, bs, bs_c⟩ : SL UInt8) (show 4 ≤ bs.length by omega)).1 ρ hro2))) ?_)
    refine e_as rfl ?_
    refine l_n ?_
    refine c_seq ?_
    refine sr ?_
    refine e_mv rfl ?_
    refine e_q (q_indexe 0 Tryz.underlying38 sz_5 rfl rfl (by first | assumption | exact rd_ro (by assumption) | exact rd_row pk_) (by decide) rfl (by first | assumption | omega | (simp only [List.length_cons, List.length_nil]; omega))) ?_
    refine e_q (q_loade (enc := encB) (xs := bs) (j := 0) (off := 0) sc_5 rfl (by first | assumption | exact rd_ro (by assumption) | exact rd_row pk_) (fun _ => rfl) (by first | assumption | omega | (simp only [List.length_cons, List.length_nil]; omega)) (by decide) rfl) ?_
    refine e_mv rfl ?_
    refine e_q (q_as (v := .int .u32 (((sumB (bs.drop 4)).toNat / 16777216 : Nat) : Int)) (q_quo rfl rfl (by decide)) (congrArg (Value.int .u32) (quo32 (sumB (bs.drop 4)).isLt))) ?_
    refine e_q (q_as (v := .int .u8 (((sumB (bs.drop 4)).toNat / 16777216 % 256 : Nat) : Int)) (q_convw rfl Tryz.underlying98 Tryz.underlying5) (congrArg (Value.int .u8) (conv8 _))) ?_
    refine e_q (q_neq rfl rfl) ?_
    refine e_mv rfl ?_
    refine l_step (s_qg rfl (ask_f rfl rfl) (b := (!(decide (((bs.getD 0 default).toNat : Int) ≠ (((sumB (bs.drop 4)).toNat / 16777216 % 256 : Nat) : Int))))) (fun hb => q_move rfl) ?_)
    refine l_step (s_qg rfl (ask_f rfl rfl) (b := (!(decide (((bs.getD 0 default).toNat : Int) ≠ (((sumB (bs.drop 4)).toNat / 16777216 % 256 : Nat) : Int))))) (fun hb => OpQ.env (.cons rfl (gd_t hb) (.nil _) : EnvLe [(23, .slice bs_a bs_n bs_c)] _) (q_indexe 1 Tryz.underlying38 sz_5 rfl rfl (by first | assumption | exact rd_ro (by assumption) | exact rd_row pk_) (by decide) rfl (by first | assumption | omega | (have hb2 := hb; (try simp only [Bool.and_eq_true, Bool.or_eq_true, Bool.not_eq_true', Bool.and_eq_false_iff, Bool.or_eq_false_iff, Bool.not_eq_false', decide_eq_true_eq, decide_eq_false_iff_not, Bool.not_eq_eq_eq_not, Bool.not_true, Bool.not_false, Bool.not_eq_true, Bool.not_eq_false, beq_iff_eq, bne_iff_ne, ne_eq, Decidable.not_not] at hb2); omega) | (simp only [List.length_cons, List.length_nil]; omega)))) ?_)
    refine l_step (s_qg rfl (ask_f rfl rfl) (b := (!(decide (((bs.getD 0 default).toNat : Int) ≠ (((sumB (bs.drop 4)).toNat / 16777216 % 256 : Nat) : Int))))) (fun hb => OpQ.env (.cons rfl (gd_t hb) (.nil _) : EnvLe [(24, pe bs_a 1 1 0)] _) (q_loade (enc := encB) (xs := bs) (j := 1) (off := 0) sc_5 rfl (by first | assumption | exact rd_ro (by assumption) | exact rd_row pk_) (fun _ => rfl) (by first | assumption | omega | (have hb2 := hb; (try simp only [Bool.and_eq_true, Bool.or_eq_true, Bool.not_eq_true', Bool.and_eq_false_iff, Bool.or_eq_false_iff, Bool.not_eq_false', decide_eq_true_eq, decide_eq_false_iff_not, Bool.not_eq_eq_eq_not, Bool.not_true, Bool.not_false, Bool.not_eq_true, Bool.not_eq_false, beq_iff_eq, bne_iff_ne, ne_eq, Decidable.not_not] at hb2); omega) | (simp only [List.length_cons, List.length_nil]; omega)) (by decide) rfl)) ?_)
    refine l_step (s_qg rfl (ask_f rfl rfl) (b := (!(decide (((bs.getD 0 default).toNat : Int) ≠ (((sumB (bs.drop 4)).toNat / 16777216 % 256 : Nat) : Int))))) (fun hb => q_move rfl) ?_)
    refine l_step (s_qg rfl (ask_f rfl rfl) (b := (!(decide (((bs.getD 0 default).toNat : Int) ≠ (((sumB (bs.drop 4)).toNat / 16777216 % 256 : Nat) : Int))))) (fun hb => OpQ.env (.cons rfl (gd_t hb) (.nil _) : EnvLe [(26, .int .u32 ((sumB (bs.drop 4)).toNat : Int))] _) (q_as (v := .int .u32 (((sumB (bs.drop 4)).toNat / 65536 : Nat) : Int)) (q_quo rfl rfl (by decide)) (congrArg (Value.int .u32) (quo32 (sumB (bs.drop 4)).isLt)))) ?_)
    refine l_step (s_qg rfl (ask_f rfl rfl) (b := (!(decide (((bs.getD 0 default).toNat : Int) ≠ (((sumB (bs.drop 4)).toNat / 16777216 % 256 : Nat) : Int))))) (fun hb => OpQ.env (.cons rfl (gd_t hb) (.nil _) : EnvLe [(27, .int .u32 (((sumB (bs.drop 4)).toNat / 65536 : Nat) : Int))] _) (q_as (v := .int .u8 (((sumB (bs.drop 4)).toNat / 65536 % 256 : Nat) : Int)) (q_convw rfl Tryz.underlying98 Tryz.underlying5) (congrArg (Value.int .u8) (conv8 _)))) ?_)
    refine l_step (s_qg rfl (ask_f rfl rfl) (b := (!(decide (((bs.getD 0 default).toNat : Int) ≠ (((sumB (bs.drop 4)).toNat / 16777216 % 256 : Nat) : Int))))) (fun hb => OpQ.env (.cons rfl (gd_t hb) (.cons rfl (gd_t hb) (.nil _)) : EnvLe [(25, .int .u8 ((bs.getD 1 default).toNat : Int)), (28, .int .u8 (((sumB (bs.drop 4)).toNat / 65536 % 256 : Nat) : Int))] _) (q_neq rfl rfl)) ?_)
    refine e_q (q_pick_or rfl rfl rfl (fun h => by first | (rw [h]; rfl) | exact congrArg not h)) ?_
    refine e_mv rfl ?_
    refine l_step (s_qg rfl (ask_f rfl rfl) (b := (!((decide (((bs.getD 0 default).toNat : Int) ≠ (((sumB (bs.drop 4)).toNat / 16777216 % 256 : Nat) : Int))) || (decide (((bs.getD 1 default).toNat : Int) ≠ (((sumB (bs.drop 4)).toNat / 65536 % 256 : Nat) : Int)))))) (fun hb => q_move rfl) ?_)
    refine l_step (s_qg rfl (ask_f rfl rfl) (b := (!((decide (((bs.getD 0 default).toNat : Int) ≠ (((sumB (bs.drop 4)).toNat / 16777216 % 256 : Nat) : Int))) || (decide (((bs.getD 1 default).toNat : Int) ≠ (((sumB (bs.drop 4)).toNat / 65536 % 256 : Nat) : Int)))))) (fun hb => OpQ.env (.cons rfl (gd_t hb) (.nil _) : EnvLe [(32, .slice bs_a bs_n bs_c)] _) (q_indexe 2 Tryz.underlying38 sz_5 rfl rfl (by first | assumption | exact rd_ro (by assumption) | exact rd_row pk_) (by decide) rfl (by first | assumption | omega | (have hb2 := hb; (try simp only [Bool.and_eq_true, Bool.or_eq_true, Bool.not_eq_true', Bool.and_eq_false_iff, Bool.or_eq_false_iff, Bool.not_eq_false', decide_eq_true_eq, decide_eq_false_iff_not, Bool.not_eq_eq_eq_not, Bool.not_true, Bool.not_false, Bool.not_eq_true, Bool.not_eq_false, beq_iff_eq, bne_iff_ne, ne_eq, Decidable.not_not] at hb2); omega) | (simp only [List.length_cons, List.length_nil]; omega)))) ?_)
    refine l_step (s_qg rfl (ask_f rfl rfl) (b := (!((decide (((bs.getD 0 default).toNat : Int) ≠ (((sumB (bs.drop 4)).toNat / 16777216 % 256 : Nat) : Int))) || (decide (((bs.getD 1 default).toNat : Int) ≠ (((sumB (bs.drop 4)).toNat / 65536 % 256 : Nat) : Int)))))) (fun hb => OpQ.env (.cons rfl (gd_t hb) (.nil _) : EnvLe [(33, pe bs_a 2 1 0)] _) (q_loade (enc := encB) (xs := bs) (j := 2) (off := 0) sc_5 rfl (by first | assumption | exact rd_ro (by assumption) | exact rd_row pk_) (fun _ => rfl) (by first | assumption | omega | (have hb2 := hb; (try simp only [Bool.and_eq_true, Bool.or_eq_true, Bool.not_eq_true', Bool.and_eq_false_iff, Bool.or_eq_false_iff, Bool.not_eq_false', decide_eq_true_eq, decide_eq_false_iff_not, Bool.not_eq_eq_eq_not, Bool.not_true, Bool.not_false, Bool.not_eq_true, Bool.not_eq_false, beq_iff_eq, bne_iff_ne, ne_eq, Decidable.not_not] at hb2); omega) | (simp only [List.length_cons, List.length_nil]; omega)) (by decide) rfl)) ?_)
    refine l_step (s_qg rfl (ask_f rfl rfl) (b := (!((decide (((bs.getD 0 default).toNat : Int) ≠ (((sumB (bs.drop 4)).toNat / 16777216 % 256 : Nat) : Int))) || (decide (((bs.getD 1 default).toNat : Int) ≠ (((sumB (bs.drop 4)).toNat / 65536 % 256 : Nat) : Int)))))) (fun hb => q_move rfl) ?_)
    refine l_step (s_qg rfl (ask_f rfl rfl) (b := (!((decide (((bs.getD 0 default).toNat : Int) ≠ (((sumB (bs.drop 4)).toNat / 16777216 % 256 : Nat) : Int))) || (decide (((bs.getD 1 default).toNat : Int) ≠ (((sumB (bs.drop 4)).toNat / 65536 % 256 : Nat) : Int)))))) (fun hb => OpQ.env (.cons rfl (gd_t hb) (.nil _) : EnvLe [(35, .int .u32 ((sumB (bs.drop 4)).toNat : Int))] _) (q_as (v := .int .u32 (((sumB (bs.drop 4)).toNat / 256 : Nat) : Int)) (q_quo rfl rfl (by decide)) (congrArg (Value.int .u32) (quo32 (sumB (bs.drop 4)).isLt)))) ?_)
    refine l_step (s_qg rfl (ask_f rfl rfl) (b := (!((decide (((bs.getD 0 default).toNat : Int) ≠ (((sumB (bs.drop 4)).toNat / 16777216 % 256 : Nat) : Int))) || (decide (((bs.getD 1 default).toNat : Int) ≠ (((sumB (bs.drop 4)).toNat / 65536 % 256 : Nat) : Int)))))) (fun hb => OpQ.env (.cons rfl (gd_t hb) (.nil _) : EnvLe [(36, .int .u32 (((sumB (bs.drop 4)).toNat / 256 : Nat) : Int))] _) (q_as (v := .int .u8 (((sumB (bs.drop 4)).toNat / 256 % 256 : Nat) : Int)) (q_convw rfl Tryz.underlying98 Tryz.underlying5) (congrArg (Value.int .u8) (conv8 _)))) ?_)
    refine l_step (s_qg rfl (ask_f rfl rfl) (b := (!((decide (((bs.getD 0 default).toNat : Int) ≠ (((sumB (bs.drop 4)).toNat / 16777216 % 256 : Nat) : Int))) || (decide (((bs.getD 1 default).toNat : Int) ≠ (((sumB (bs.drop 4)).toNat / 65536 % 256 : Nat) : Int)))))) (fun hb => OpQ.env (.cons rfl (gd_t hb) (.cons rfl (gd_t hb) (.nil _)) : EnvLe [(34, .int .u8 ((bs.getD 2 default).toNat : Int)), (37, .int .u8 (((sumB (bs.drop 4)).toNat / 256 % 256 : Nat) : Int))] _) (q_neq rfl rfl)) ?_)
    refine e_q (q_pick_or rfl rfl rfl (fun h => by first | (rw [h]; rfl) | exact congrArg not h)) ?_
    refine e_mv rfl ?_
    refine l_step (s_qg rfl (ask_f rfl rfl) (b := (!(((decide (((bs.getD 0 default).toNat : Int) ≠ (((sumB (bs.drop 4)).toNat / 16777216 % 256 : Nat) : Int))) || (decide (((bs.getD 1 default).toNat : Int) ≠ (((sumB (bs.drop 4)).toNat / 65536 % 256 : Nat) : Int)))) || (decide (((bs.getD 2 default).toNat : Int) ≠ (((sumB (bs.drop 4)).toNat / 256 % 256 : Nat) : Int)))))) (fun hb => q_move rfl) ?_)
    refine l_step (s_qg rfl (ask_f rfl rfl) (b := (!(((decide (((bs.getD 0 default).toNat : Int) ≠ (((sumB (bs.drop 4)).toNat / 16777216 % 256 : Nat) : Int))) || (decide (((bs.getD 1 default).toNat : Int) ≠ (((sumB (bs.drop 4)).toNat / 65536 % 256 : Nat) : Int)))) || (decide (((bs.getD 2 default).toNat : Int) ≠ (((sumB (bs.drop 4)).toNat / 256 % 256 : Nat) : Int)))))) (fun hb => OpQ.env (.cons rfl (gd_t hb) (.nil _) : EnvLe [(41, .slice bs_a bs_n bs_c)] _) (q_indexe 3 Tryz.underlying38 sz_5 rfl rfl (by first | assumption | exact rd_ro (by assumption) | exact rd_row pk_) (by decide) rfl (by first | assumption | omega | (have hb2 := hb; (try simp only [Bool.and_eq_true, Bool.or_eq_true, Bool.not_eq_true', Bool.and_eq_false_iff, Bool.or_eq_false_iff, Bool.not_eq_false', decide_eq_true_eq, decide_eq_false_iff_not, Bool.not_eq_eq_eq_not, Bool.not_true, Bool.not_false, Bool.not_eq_true, Bool.not_eq_false, beq_iff_eq, bne_iff_ne, ne_eq, Decidable.not_not] at hb2); omega) | (simp only [List.length_cons, List.length_nil]; omega)))) ?_)
    refine l_step (s_qg rfl (ask_f rfl rfl) (b := (!(((decide (((bs.getD 0 default).toNat : Int) ≠ (((sumB (bs.drop 4)).toNat / 16777216 % 256 : Nat) : Int))) || (decide (((bs.getD 1 default).toNat : Int) ≠ (((sumB (bs.drop 4)).toNat / 65536 % 256 : Nat) : Int)))) || (decide (((bs.getD 2 default).toNat : Int) ≠ (((sumB (bs.drop 4)).toNat / 256 % 256 : Nat) : Int)))))) (fun hb => OpQ.env (.cons rfl (gd_t hb) (.nil _) : EnvLe [(42, pe bs_a 3 1 0)] _) (q_loade (enc := encB) (xs := bs) (j := 3) (off := 0) sc_5 rfl (by first | assumption | exact rd_ro (by assumption) | exact rd_row pk_) (fun _ => rfl) (by first | assumption | omega | (have hb2 := hb; (try simp only [Bool.and_eq_true, Bool.or_eq_true, Bool.not_eq_true', Bool.and_eq_false_iff, Bool.or_eq_false_iff, Bool.not_eq_false', decide_eq_true_eq, decide_eq_false_iff_not, Bool.not_eq_eq_eq_not, Bool.not_true, Bool.not_false, Bool.not_eq_true, Bool.not_eq_false, beq_iff_eq, bne_iff_ne, ne_eq, Decidable.not_not] at hb2); omega) | (simp only [List.length_cons, List.length_nil]; omega)) (by decide) rfl)) ?_)
    refine l_step (s_qg rfl (ask_f rfl rfl) (b := (!(((decide (((bs.getD 0 default).toNat : Int) ≠ (((sumB (bs.drop 4)).toNat / 16777216 % 256 : Nat) : Int))) || (decide (((bs.getD 1 default).toNat : Int) ≠ (((sumB (bs.drop 4)).toNat / 65536 % 256 : Nat) : Int)))) || (decide (((bs.getD 2 default).toNat : Int) ≠ (((sumB (bs.drop 4)).toNat / 256 % 256 : Nat) : Int)))))) (fun hb => q_move rfl) ?_)
    refine l_step (s_qg rfl (ask_f rfl rfl) (b := (!(((decide (((bs.getD 0 default).toNat : Int) ≠ (((sumB (bs.drop 4)).toNat / 16777216 % 256 : Nat) : Int))) || (decide (((bs.getD 1 default).toNat : Int) ≠ (((sumB (bs.drop 4)).toNat / 65536 % 256 : Nat) : Int)))) || (decide (((bs.getD 2 default).toNat : Int) ≠ (((sumB (bs.drop 4)).toNat / 256 % 256 : Nat) : Int)))))) (fun hb => OpQ.env (.cons rfl (gd_t hb) (.nil _) : EnvLe [(44, .int .u32 ((sumB (bs.drop 4)).toNat : Int))] _) (q_as (v := .int .u8 (((sumB (bs.drop 4)).toNat % 256 : Nat) : Int)) (q_convw rfl Tryz.underlying98 Tryz.underlying5) (congrArg (Value.int .u8) (conv8 _)))) ?_)
    refine l_step (s_qg rfl (ask_f rfl rfl) (b := (!(((decide (((bs.getD 0 default).toNat : Int) ≠ (((sumB (bs.drop 4)).toNat / 16777216 % 256 : Nat) : Int))) || (decide (((bs.getD 1 default).toNat : Int) ≠ (((sumB (bs.drop 4)).toNat / 65536 % 256 : Nat) : Int)))) || (decide (((bs.getD 2 default).toNat : Int) ≠ (((sumB (bs.drop 4)).toNat / 256 % 256 : Nat) : Int)))))) (fun hb => OpQ.env (.cons rfl (gd_t hb) (.cons rfl (gd_t hb) (.nil _)) : EnvLe [(43, .int .u8 ((bs.getD 3 default).toNat : Int)), (45, .int .u8 (((sumB (bs.drop 4)).toNat % 256 : Nat) : Int))] _) (q_neq rfl rfl)) ?_)
    refine e_q (q_pick_or rfl rfl rfl (fun h => by first | (rw [h]; rfl) | exact congrArg not h)) ?_
    refine l_n ?_
    refine c_cond rfl (fun h1 => ?_) (fun h1 => ?_)
    · try simp only [decide_eq_true_eq, decide_eq_false_iff_not, Bool.or_eq_true, Bool.or_eq_false_iff, ne_eq, Decidable.not_not] at h1
      have hns : ¬ (sumB (bs.drop 4)) = beW (bs.getD 0 default) (bs.getD 1 default) (bs.getD 2 default) (bs.getD 3 default) := fun e => by have h9 := (sum_is _ _ _ _ _).1 e; omega
      refine sr ?_
      refine e_q (q_build (cs := encState1 (⟨0, 0⟩ : State1)) zc_23 pl_23 rfl rfl) ?_
      refine e_as rfl ?_
      refine l_step (s_s0 wn (s_storep (ws := encState1 (⟨0, 0⟩ : State1)) (cs := encState1 zState1) (cs' := encState1 (⟨0, 0⟩ : State1)) rfl rfl rfl sz_23 (oneState1 _) (by simp [encState1, encState1]) rfl pk_) ?_)
      rintro _ _ ⟨rfl, rfl⟩
      refine l_n ?_
      refine c_ret ?_
      refine k_then_r ?_
      have hr : slotF bs = (0, zSt) := slot_bad hns
      rw [hr]
      exact t_rt [] rfl (.tmp rfl (.cell rfl pk_ (fun w h => ld_agg (by exact ag_23) h) .nil)) rfl ⟨rfl, rfl, rfl⟩ (by (repeat refine Ent.skip ?_); exact Ent.refl _)
    · try simp only [decide_eq_true_eq, decide_eq_false_iff_not, Bool.or_eq_true, Bool.or_eq_false_iff, ne_eq, Decidable.not_not] at h1
      have hs9 : (sumB (bs.drop 4)) = beW (bs.getD 0 default) (bs.getD 1 default) (bs.getD 2 default) (bs.getD 3 default) := (sum_is _ _ _ _ _).2 (by omega)
      have hs8 : slotF bs = bodyF (bs.drop 4) := slot_sum (by omega) hs9
      refine c_skip ?_
      refine k_then_n ?_
      refine sr ?_
      refine e_mv rfl ?_
      refine e_fn Tryz.func76 rfl sl_ (fun ρ' hL => rtake3_spec bs_a bs_n bs_c bs hbs_n 4 ρ' (Ro.mono hL.1 hro) hl (by omega)) ?_
      rintro _ _ (⟨e3, b3, hr3, he3, rfl, rfl⟩ | ⟨L3, b3, a3, c3, hr3, hb3, hl3, rfl, rfl⟩)
      try simp only [List.cons_append, List.nil_append]
      · skip
        try simp only [List.cons_append, List.nil_append]
        refine e_mv rfl ?_
        refine e_q (q_extract rfl rfl) ?_
        refine e_q (q_extract rfl rfl) ?_
        refine e_q (q_extract rfl rfl) ?_
        refine e_s (s_allocz (cs := encVal1 zVal1) (by kernel_rfl)) ?_
        rintro _ _ ⟨b5, rfl, rfl⟩
        refine l_step (s_s0 wn (s_storep (ws := encVal1 zVal1) (cs := encVal1 zVal1) (cs' := encVal1 zVal1) rfl rfl rfl sz_97 (oneVal1 _) (by simp [encVal1, encVal1]) rfl pk_) ?_)
        rintro _ _ ⟨rfl, rfl⟩
        refine e_as rfl ?_
        refine e_as rfl ?_
        refine l_n ?_
        refine c_seq ?_
        refine sr ?_
        refine e_mv rfl ?_
        refine e_q (q_neq rfl rfl) ?_
        refine e_mv rfl ?_
        refine Tr.env (.cons (t := 57) (v := .bool true) rfl (congrArg Value.bool (decide_eq_true he3)) (EnvLe.refl _)) ?_
        refine l_step (s_no rfl (wno rfl rfl (by decide)) ?_)
        refine l_step (s_no rfl (wno rfl rfl (by decide)) ?_)
        refine l_step (s_no rfl (wno rfl rfl (by decide)) ?_)
        refine l_step (s_no rfl (wno rfl rfl (by decide)) ?_)
        refine e_q (q_pick rfl rfl rfl) ?_
        refine e_mv rfl ?_
        refine l_step (s_no rfl (wno rfl rfl (by decide)) ?_)
        refine l_step (s_no rfl (wno rfl rfl (by decide)) ?_)
        refine l_step (s_no rfl (wno rfl rfl (by decide)) ?_)
        refine l_step (s_no rfl (wno rfl rfl (by decide)) ?_)
        refine l_step (s_no rfl (wno rfl rfl (by decide)) ?_)
        refine l_step (s_no rfl (wno rfl rfl (by decide)) ?_)
        refine e_q (q_pick rfl rfl rfl) ?_
        refine e_mv rfl ?_
        refine l_step (s_no rfl (wno rfl rfl (by decide)) ?_)
        refine l_step (s_no rfl (wno rfl rfl (by decide)) ?_)
        refine l_step (s_no rfl (wno rfl rfl (by decide)) ?_)
        refine l_step (s_no rfl (wno rfl rfl (by decide)) ?_)
        refine l_step (s_no rfl (wno rfl rfl (by decide)) ?_)
        refine l_step (s_no rfl (wno rfl rfl (by decide)) ?_)
        refine e_q (q_pick rfl rfl rfl) ?_
        refine e_mv rfl ?_
        refine l_step (s_no rfl (wno rfl rfl (by decide)) ?_)
        refine l_step (s_no rfl (wno rfl rfl (by decide)) ?_)
        refine l_step (s_no rfl (wno rfl rfl (by decide)) ?_)
        refine l_step (s_no rfl (wno rfl rfl (by decide)) ?_)
        refine l_step (s_no rfl (wno rfl rfl (by decide)) ?_)
        refine l_step (s_no rfl (wno rfl rfl (by decide)) ?_)
        refine e_q (q_pick rfl rfl rfl) ?_
        refine l_n ?_
        refine c_yes rfl ?_
        refine sr ?_
        refine e_q (q_build (cs := encState1 (⟨0, 0⟩ : State1)) zc_23 pl_23 rfl rfl) ?_
        refine e_as rfl ?_
        refine l_step (s_s0 wn (s_storep (ws := encState1 (⟨0, 0⟩ : State1)) (cs := encState1 zState1) (cs' := encState1 (⟨0, 0⟩ : State1)) rfl rfl rfl sz_23 (oneState1 _) (by simp [encState1, encState1]) rfl pk_) ?_)
        rintro _ _ ⟨rfl, rfl⟩
        refine l_n ?_
        refine c_ret ?_
        refine k_then_r ?_
        have hr : slotF bs = (0, zSt) := hs8.trans (body_bad (by omega) hr3)
        rw [hr]
        exact t_rt [] rfl (.tmp rfl (.cell rfl pk_ (fun w h => ld_agg (by exact ag_23) h) .nil)) rfl ⟨rfl, rfl, rfl⟩ (by (repeat refine Ent.skip ?_); exact Ent.refl _)
      · skip
        try simp only [List.cons_append, List.nil_append]
        have hlm : (L3.map leafN).length = 3 := by rw [List.length_map]; exact hl3
        have e0 := leaf_at (L := L3) (i := 0) (by omega)
        have e1 := leaf_at (L := L3) (i := 1) (by omega)
        have e2 := leaf_at (L := L3) (i := 2) (by omega)
        refine e_mv rfl ?_
        refine e_q (q_extract rfl rfl) ?_
        refine e_q (q_extract rfl rfl) ?_
        refine e_q (q_extract rfl rfl) ?_
        refine e_s (s_allocz (cs := encVal1 zVal1) (by kernel_rfl)) ?_
        rintro _ _ ⟨b5, rfl, rfl⟩
        refine l_step (s_s0 wn (s_storep (ws := encVal1 (⟨0, ⟨none, [], 0⟩, ⟨a3, L3.length, c3⟩⟩ : Val1)) (cs := encVal1 zVal1) (cs' := encVal1 (⟨0, ⟨none, [], 0⟩, ⟨a3, L3.length, c3⟩⟩ : Val1)) rfl rfl rfl sz_97 (oneVal1 _) (by simp [encVal1, encVal1]) rfl pk_) ?_)
        rintro _ _ ⟨rfl, rfl⟩
        refine e_as rfl ?_
        refine e_as rfl ?_
        refine l_n ?_
        refine c_seq ?_
        refine sr ?_
        refine e_mv rfl ?_
        refine e_q (q_neq rfl rfl) ?_
        refine e_mv rfl ?_
        refine Tr.env (.cons (t := 57) (v := .bool false) rfl (congrArg Value.bool (by rfl)) (EnvLe.refl _)) ?_
        refine e_qw (wy rfl rfl rfl) (q_move rfl) ?_
        refine e_qw (wy rfl rfl rfl) (q_move rfl) ?_
        refine e_qw (wy rfl rfl rfl) (q_len Tryz.underlying38 rfl) ?_
        refine e_qw (wy rfl rfl rfl) (q_lss rfl rfl) ?_
        refine e_q (q_pick rfl rfl rfl) ?_
        refine e_mv rfl ?_
        refine l_step (s_qg rfl (ask_f rfl rfl) (b := (!(decide ((b3 : Int) < (bs_n : Int))))) (fun hb => q_fieldp rfl fo_97_2) ?_)
        refine l_step (s_qg rfl (ask_f rfl rfl) (b := (!(decide ((b3 : Int) < (bs_n : Int))))) (fun hb => OpQ.env (.cons rfl (gd_t hb) (.nil _) : EnvLe [(64, .pointer (some ⟨b5, 2, none⟩))] _) (q_loadp (v := .slice a3 L3.length c3) sc_95 rfl pk_ rfl)) ?_)
        refine l_step (s_qg rfl (ask_f rfl rfl) (b := (!(decide ((b3 : Int) < (bs_n : Int))))) (fun hb => OpQ.env (.cons rfl (gd_t hb) (.nil _) : EnvLe [(65, .slice a3 L3.length c3)] _) (q_indexe 0 Tryz.underlying95 sz_97 rfl rfl (rd_row pk_) (by decide) rfl (by first | assumption | omega | (have hb2 := hb; (try simp only [Bool.and_eq_true, Bool.or_eq_true, Bool.not_eq_true', Bool.and_eq_false_iff, Bool.or_eq_false_iff, Bool.not_eq_false', decide_eq_true_eq, decide_eq_false_iff_not, Bool.not_eq_eq_eq_not, Bool.not_true, Bool.not_false, Bool.not_eq_true, Bool.not_eq_false, beq_iff_eq, bne_iff_ne, ne_eq, Decidable.not_not] at hb2); omega) | (simp only [List.length_cons, List.length_nil]; omega)))) ?_)
        refine l_step (s_qg rfl (ask_f rfl rfl) (b := (!(decide ((b3 : Int) < (bs_n : Int))))) (fun hb => OpQ.env (.cons rfl (gd_t hb) (.nil _) : EnvLe [(66, pe a3 0 3 0)] _) (q_fielde rfl fo_97_0)) ?_)
        refine l_step (s_qg rfl (ask_f rfl rfl) (b := (!(decide ((b3 : Int) < (bs_n : Int))))) (fun hb => OpQ.env (.cons rfl (gd_t hb) (.nil _) : EnvLe [(67, pe a3 0 3 0)] _) (q_loade (enc := encVal1) (xs := (L3.map leafN)) (j := 0) (off := 0) sc_46 rfl (rd_row pk_) (fun _ => rfl) (by first | assumption | omega | (have hb2 := hb; (try simp only [Bool.and_eq_true, Bool.or_eq_true, Bool.not_eq_true', Bool.and_eq_false_iff, Bool.or_eq_false_iff, Bool.not_eq_false', decide_eq_true_eq, decide_eq_false_iff_not, Bool.not_eq_eq_eq_not, Bool.not_true, Bool.not_false, Bool.not_eq_true, Bool.not_eq_false, beq_iff_eq, bne_iff_ne, ne_eq, Decidable.not_not] at hb2); omega) | (simp only [List.length_cons, List.length_nil]; omega)) (by decide) rfl)) ?_)
        refine l_step (s_qg rfl (ask_f rfl rfl) (b := (!(decide ((b3 : Int) < (bs_n : Int))))) (fun hb => OpQ.env (.cons rfl (gd_t hb) (.nil _) : EnvLe [(68, .int .u64 (((L3.map leafN).getD 0 default).N : Int))] _) (q_geq rfl rfl)) ?_)
        refine e_q (q_pick_or rfl rfl rfl (fun h => by first | (rw [h]; rfl) | exact congrArg not h)) ?_
        refine e_mv rfl ?_
        refine l_step (s_qg rfl (ask_f rfl rfl) (b := (!((decide ((b3 : Int) < (bs_n : Int))) || (decide (4611686018427387904 ≤ (((L3.map leafN).getD 0 default).N : Int)))))) (fun hb => q_fieldp rfl fo_97_2) ?_)
        refine l_step (s_qg rfl (ask_f rfl rfl) (b := (!((decide ((b3 : Int) < (bs_n : Int))) || (decide (4611686018427387904 ≤ (((L3.map leafN).getD 0 default).N : Int)))))) (fun hb => OpQ.env (.cons rfl (gd_t hb) (.nil _) : EnvLe [(72, .pointer (some ⟨b5, 2, none⟩))] _) (q_loadp (v := .slice a3 L3.length c3) sc_95 rfl pk_ rfl)) ?_)
        refine l_step (s_qg rfl (ask_f rfl rfl) (b := (!((decide ((b3 : Int) < (bs_n : Int))) || (decide (4611686018427387904 ≤ (((L3.map leafN).getD 0 default).N : Int)))))) (fun hb => OpQ.env (.cons rfl (gd_t hb) (.nil _) : EnvLe [(73, .slice a3 L3.length c3)] _) (q_indexe 1 Tryz.underlying95 sz_97 rfl rfl (rd_row pk_) (by decide) rfl (by first | assumption | omega | (have hb2 := hb; (try simp only [Bool.and_eq_true, Bool.or_eq_true, Bool.not_eq_true', Bool.and_eq_false_iff, Bool.or_eq_false_iff, Bool.not_eq_false', decide_eq_true_eq, decide_eq_false_iff_not, Bool.not_eq_eq_eq_not, Bool.not_true, Bool.not_false, Bool.not_eq_true, Bool.not_eq_false, beq_iff_eq, bne_iff_ne, ne_eq, Decidable.not_not] at hb2); omega) | (simp only [List.length_cons, List.length_nil]; omega)))) ?_)
        refine l_step (s_qg rfl (ask_f rfl rfl) (b := (!((decide ((b3 : Int) < (bs_n : Int))) || (decide (4611686018427387904 ≤ (((L3.map leafN).getD 0 default).N : Int)))))) (fun hb => OpQ.env (.cons rfl (gd_t hb) (.nil _) : EnvLe [(74, pe a3 1 3 0)] _) (q_fielde rfl fo_97_0)) ?_)
        refine l_step (s_qg rfl (ask_f rfl rfl) (b := (!((decide ((b3 : Int) < (bs_n : Int))) || (decide (4611686018427387904 ≤ (((L3.map leafN).getD 0 default).N : Int)))))) (fun hb => OpQ.env (.cons rfl (gd_t hb) (.nil _) : EnvLe [(75, pe a3 1 3 0)] _) (q_loade (enc := encVal1) (xs := (L3.map leafN)) (j := 1) (off := 0) sc_46 rfl (rd_row pk_) (fun _ => rfl) (by first | assumption | omega | (have hb2 := hb; (try simp only [Bool.and_eq_true, Bool.or_eq_true, Bool.not_eq_true', Bool.and_eq_false_iff, Bool.or_eq_false_iff, Bool.not_eq_false', decide_eq_true_eq, decide_eq_false_iff_not, Bool.not_eq_eq_eq_not, Bool.not_true, Bool.not_false, Bool.not_eq_true, Bool.not_eq_false, beq_iff_eq, bne_iff_ne, ne_eq, Decidable.not_not] at hb2); omega) | (simp only [List.length_cons, List.length_nil]; omega)) (by decide) rfl)) ?_)
        refine l_step (s_qg rfl (ask_f rfl rfl) (b := (!((decide ((b3 : Int) < (bs_n : Int))) || (decide (4611686018427387904 ≤ (((L3.map leafN).getD 0 default).N : Int)))))) (fun hb => OpQ.env (.cons rfl (gd_t hb) (.nil _) : EnvLe [(76, .int .u64 (((L3.map leafN).getD 1 default).N : Int))] _) (q_geq rfl rfl)) ?_)
        refine e_q (q_pick_or rfl rfl rfl (fun h => by first | (rw [h]; rfl) | exact congrArg not h)) ?_
        refine e_mv rfl ?_
        refine l_step (s_qg rfl (ask_f rfl rfl) (b := (!(((decide ((b3 : Int) < (bs_n : Int))) || (decide (4611686018427387904 ≤ (((L3.map leafN).getD 0 default).N : Int)))) || (decide (4611686018427387904 ≤ (((L3.map leafN).getD 1 default).N : Int)))))) (fun hb => q_fieldp rfl fo_97_2) ?_)
        refine l_step (s_qg rfl (ask_f rfl rfl) (b := (!(((decide ((b3 : Int) < (bs_n : Int))) || (decide (4611686018427387904 ≤ (((L3.map leafN).getD 0 default).N : Int)))) || (decide (4611686018427387904 ≤ (((L3.map leafN).getD 1 default).N : Int)))))) (fun hb => OpQ.env (.cons rfl (gd_t hb) (.nil _) : EnvLe [(80, .pointer (some ⟨b5, 2, none⟩))] _) (q_loadp (v := .slice a3 L3.length c3) sc_95 rfl pk_ rfl)) ?_)
        refine l_step (s_qg rfl (ask_f rfl rfl) (b := (!(((decide ((b3 : Int) < (bs_n : Int))) || (decide (4611686018427387904 ≤ (((L3.map leafN).getD 0 default).N : Int)))) || (decide (4611686018427387904 ≤ (((L3.map leafN).getD 1 default).N : Int)))))) (fun hb => OpQ.env (.cons rfl (gd_t hb) (.nil _) : EnvLe [(81, .slice a3 L3.length c3)] _) (q_indexe 2 Tryz.underlying95 sz_97 rfl rfl (rd_row pk_) (by decide) rfl (by first | assumption | omega | (have hb2 := hb; (try simp only [Bool.and_eq_true, Bool.or_eq_true, Bool.not_eq_true', Bool.and_eq_false_iff, Bool.or_eq_false_iff, Bool.not_eq_false', decide_eq_true_eq, decide_eq_false_iff_not, Bool.not_eq_eq_eq_not, Bool.not_true, Bool.not_false, Bool.not_eq_true, Bool.not_eq_false, beq_iff_eq, bne_iff_ne, ne_eq, Decidable.not_not] at hb2); omega) | (simp only [List.length_cons, List.length_nil]; omega)))) ?_)
        refine l_step (s_qg rfl (ask_f rfl rfl) (b := (!(((decide ((b3 : Int) < (bs_n : Int))) || (decide (4611686018427387904 ≤ (((L3.map leafN).getD 0 default).N : Int)))) || (decide (4611686018427387904 ≤ (((L3.map leafN).getD 1 default).N : Int)))))) (fun hb => OpQ.env (.cons rfl (gd_t hb) (.nil _) : EnvLe [(82, pe a3 2 3 0)] _) (q_fielde rfl fo_97_0)) ?_)
        refine l_step (s_qg rfl (ask_f rfl rfl) (b := (!(((decide ((b3 : Int) < (bs_n : Int))) || (decide (4611686018427387904 ≤ (((L3.map leafN).getD 0 default).N : Int)))) || (decide (4611686018427387904 ≤ (((L3.map leafN).getD 1 default).N : Int)))))) (fun hb => OpQ.env (.cons rfl (gd_t hb) (.nil _) : EnvLe [(83, pe a3 2 3 0)] _) (q_loade (enc := encVal1) (xs := (L3.map leafN)) (j := 2) (off := 0) sc_46 rfl (rd_row pk_) (fun _ => rfl) (by first | assumption | omega | (have hb2 := hb; (try simp only [Bool.and_eq_true, Bool.or_eq_true, Bool.not_eq_true', Bool.and_eq_false_iff, Bool.or_eq_false_iff, Bool.not_eq_false', decide_eq_true_eq, decide_eq_false_iff_not, Bool.not_eq_eq_eq_not, Bool.not_true, Bool.not_false, Bool.not_eq_true, Bool.not_eq_false, beq_iff_eq, bne_iff_ne, ne_eq, Decidable.not_not] at hb2); omega) | (simp only [List.length_cons, List.length_nil]; omega)) (by decide) rfl)) ?_)
        refine l_step (s_qg rfl (ask_f rfl rfl) (b := (!(((decide ((b3 : Int) < (bs_n : Int))) || (decide (4611686018427387904 ≤ (((L3.map leafN).getD 0 default).N : Int)))) || (decide (4611686018427387904 ≤ (((L3.map leafN).getD 1 default).N : Int)))))) (fun hb => OpQ.env (.cons rfl (gd_t hb) (.nil _) : EnvLe [(84, .int .u64 (((L3.map leafN).getD 2 default).N : Int))] _) (q_gtr rfl rfl)) ?_)
        refine e_q (q_pick_or rfl rfl rfl (fun h => by first | (rw [h]; rfl) | exact congrArg not h)) ?_
        refine l_n ?_
        refine c_cond rfl (fun h2 => ?_) (fun h2 => ?_)
        · try simp only [decide_eq_true_eq, decide_eq_false_iff_not, Bool.or_eq_true, Bool.or_eq_false_iff] at h2
          refine sr ?_
          refine e_q (q_build (cs := encState1 (⟨0, 0⟩ : State1)) zc_23 pl_23 rfl rfl) ?_
          refine e_as rfl ?_
          refine l_step (s_s0 wn (s_storep (ws := encState1 (⟨0, 0⟩ : State1)) (cs := encState1 zState1) (cs' := encState1 (⟨0, 0⟩ : State1)) rfl rfl rfl sz_23 (oneState1 _) (by simp [encState1, encState1]) rfl pk_) ?_)
          rintro _ _ ⟨rfl, rfl⟩
          refine l_n ?_
          refine c_ret ?_
          refine k_then_r ?_
          have hr : slotF bs = (0, zSt) := slot_no hs8 (by omega) hr3 hl3 (by omega)
          rw [hr]
          exact t_rt [] rfl (.tmp rfl (.cell rfl pk_ (fun w h => ld_agg (by exact ag_23) h) .nil)) rfl ⟨rfl, rfl, rfl⟩ (by (repeat refine Ent.skip ?_); exact Ent.refl _)
        · try simp only [decide_eq_true_eq, decide_eq_false_iff_not, Bool.or_eq_true, Bool.or_eq_false_iff] at h2
          refine c_skip ?_
          refine k_then_n ?_
          refine c_seq ?_
          refine d_r 21 [.pts b5 (encVal1 (⟨0, ⟨none, [], 0⟩, ⟨a3, L3.length, c3⟩⟩ : Val1)) 97, .row 97 3 a3 L3.length c3 ((L3.map leafN).flatMap encVal1)] ?_
          refine d_t 0 rfl wn (q_fieldp rfl fo_97_2) ?_
          refine d_t 1 rfl wn (q_loadp (v := .slice a3 L3.length c3) sc_95 rfl pk_ rfl) ?_
          refine d_t 2 rfl wn (q_indexe 0 Tryz.underlying95 sz_97 rfl rfl (rd_row pk_) (by decide) rfl (by first | assumption | omega | (simp only [List.length_cons, List.length_nil]; omega))) ?_
          refine d_t 3 rfl wn (q_fielde rfl fo_97_0) ?_
          refine d_t 4 rfl wn (q_loade (enc := encVal1) (xs := (L3.map leafN)) (j := 0) (off := 0) sc_46 rfl (rd_row pk_) (fun _ => rfl) (by first | assumption | omega | (simp only [List.length_cons, List.length_nil]; omega)) (by decide) rfl) ?_
          refine d_t 5 rfl wn (q_fieldp rfl fo_97_2) ?_
          refine d_t 6 rfl wn (q_loadp (v := .slice a3 L3.length c3) sc_95 rfl pk_ rfl) ?_
          refine d_t 7 rfl wn (q_indexe 1 Tryz.underlying95 sz_97 rfl rfl (rd_row pk_) (by decide) rfl (by first | assumption | omega | (simp only [List.length_cons, List.length_nil]; omega))) ?_
          refine d_t 8 rfl wn (q_fielde rfl fo_97_0) ?_
          refine d_t 9 rfl wn (q_loade (enc := encVal1) (xs := (L3.map leafN)) (j := 1) (off := 0) sc_46 rfl (rd_row pk_) (fun _ => rfl) (by first | assumption | omega | (simp only [List.length_cons, List.length_nil]; omega)) (by decide) rfl) ?_
          refine d_t 10 rfl wn (q_conv rfl Tryz.underlying46 Tryz.underlying3 (by first | assumption | exact wrap_i64 (by omega) (by omega))) ?_
          refine d_t 11 rfl wn (q_fieldp rfl fo_97_2) ?_
          refine d_t 12 rfl wn (q_loadp (v := .slice a3 L3.length c3) sc_95 rfl pk_ rfl) ?_
          refine d_t 13 rfl wn (q_indexe 2 Tryz.underlying95 sz_97 rfl rfl (rd_row pk_) (by decide) rfl (by first | assumption | omega | (simp only [List.length_cons, List.length_nil]; omega))) ?_
          refine d_t 14 rfl wn (q_fielde rfl fo_97_0) ?_
          refine d_t 15 rfl wn (q_loade (enc := encVal1) (xs := (L3.map leafN)) (j := 2) (off := 0) sc_46 rfl (rd_row pk_) (fun _ => rfl) (by first | assumption | omega | (simp only [List.length_cons, List.length_nil]; omega)) (by decide) rfl) ?_
          refine d_t 16 rfl wn (q_conv rfl Tryz.underlying46 Tryz.underlying3 (by first | assumption | exact wrap_i64 (by omega) (by omega))) ?_
          refine d_t 17 rfl wn (q_sub rfl rfl (by omega) (by omega)) ?_
          refine d_t 18 rfl wn (q_build (cs := encState1 (⟨(((L3.map leafN).getD 1 default).N : Int), ((((L3.map leafN).getD 2 default).N : Int) - 1)⟩ : State1)) zc_23 pl_23 rfl rfl) ?_
          refine d_t 19 rfl wn (q_assign rfl) ?_
          refine d_1 20 ?_
          refine o_step rfl (s_s0 wn (s_storep (ws := encState1 (⟨(((L3.map leafN).getD 1 default).N : Int), ((((L3.map leafN).getD 2 default).N : Int) - 1)⟩ : State1)) (cs := encState1 zState1) (cs' := encState1 (⟨(((L3.map leafN).getD 1 default).N : Int), ((((L3.map leafN).getD 2 default).N : Int) - 1)⟩ : State1)) rfl rfl rfl sz_23 (oneState1 _) (by simp [encState1, encState1]) rfl pk_) ?_)
          rintro _ _ ⟨rfl, rfl⟩
          refine d_c ?_
          refine d_d ?_
          refine k_then_n ?_
          refine c_ret ?_
          have hr : slotF bs = (((L3.map leafN).getD 0 default).N, ⟨(((L3.map leafN).getD 1 default).N : Int), (((L3.map leafN).getD 2 default).N : Int) - 1⟩) := by rw [e0, e1, e2]; exact slot_yes hs8 (by omega) hr3 hl3 (by omega) (by omega) (by omega) (by omega)
          rw [hr]
          exact t_rt [] rfl (.tmp rfl (.cell rfl pk_ (fun w h => ld_agg (by exact ag_23) h) .nil)) rfl ⟨rfl, rfl, rfl⟩ (by (repeat refine Ent.skip ?_); exact Ent.refl _)
end Go.HrdR

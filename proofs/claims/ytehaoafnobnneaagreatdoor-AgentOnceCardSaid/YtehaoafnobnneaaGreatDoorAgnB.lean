/-
  Walked.
-/
import Derived.Test.YtehaoafnobnneaaGreatDoorAgnA
import Derived.Test.YtehaoafnobnneaaGreatDoorProg
set_option maxRecDepth 100000
set_option maxHeartbeats 4000000
set_option linter.unusedSimpArgs false
set_option linter.unusedVariables false
namespace Go.Agn
open Go Go.SL Go.Proofs Go.Mou Go.Dsk Go.Hrd
attribute [local irreducible] Go.SL.Ent
theorem fo_69_0 : fieldOff Tryz.prog 69 0 = some (0, 3) := by kernel_rfl
theorem fo_69_1 : fieldOff Tryz.prog 69 1 = some (1, 3) := by kernel_rfl
theorem fo_69_2 : fieldOff Tryz.prog 69 2 = some (2, 3) := by kernel_rfl
theorem fo_69_3 : fieldOff Tryz.prog 69 3 = some (3, 3) := by kernel_rfl
theorem sz_69 : sizeIs Tryz.prog 69 = some 4 := by kernel_rfl
theorem ag_69 : aggSize Tryz.prog 69 = some 4 := by kernel_rfl
theorem ag_77 : aggSize Tryz.prog 77 = some 2 := by kernel_rfl

theorem right_spec (ns_a : Option Addr) (ns_n ns_c : Nat) (ns : List Int) (hns_n : ns.length = ns_n) (ρ : Hp) (hro : Ro ρ 1 ns_a ns_n ns_c (ns.flatMap encI)) : Spec0 Tryz.prog 115 #[.slice ns_a ns_n ns_c] ρ [] (fun v Γ' => v = .bool ((rightB ns)) ∧ Γ' = []) := by
  refine spec_of (n := 18) (vs := [_]) (σ := [(0, _)]) Tryz.func115 rfl rfl rfl rfl fun E Δ => ?_
  rw [List.nil_append]
  have hnb : ns_n ≤ 9223372036854775807 := Nat.le_trans hro.2.1 hro.2.2.1
  refine sr ?_
  refine e_as rfl ?_
  refine l_n ?_
  refine c_seq ?_
  refine sr ?_
  refine e_mv rfl ?_
  refine e_q (q_len Tryz.underlying37 rfl) ?_
  refine e_mv rfl ?_
  refine l_n ?_
  refine c_block ?_
  refine Tr.env (σ' := [(5, _), (6, _), (7, _)]) ev_ ?_
  refine t_loop (ι := Lp (Nat)) (fun x => x.d ≤ ns_n ∧ rightB (ns.take x.d) = true) (fun x => ns_n - x.d) (fun x => [(5, .slice ns_a ns_n ns_c), (6, .int .i64 (ns_n : Int)), (7, .int .i64 (x.d : Int))]) (fun x => Δ) (⟨0, none, 0, none, 0, none, 0⟩ : Lp _) ⟨Nat.zero_le _, rfl⟩ ?_ ?_ ?_
  · exact .c (.c (.c (.nil _)))
  · exact en_
  intro x hx
  obtain ⟨hx1, hx2⟩ := hx
  refine sr ?_
  refine e_q (q_lss rfl rfl) ?_
  refine l_n ?_
  refine c_seq ?_
  refine c_cond rfl (fun h0 => ?_) (fun h0 => ?_)
  · try simp only [decide_eq_true_eq, decide_eq_false_iff_not] at h0
    refine c_skip ?_
    refine k_then_n ?_
    refine c_seq ?_
    refine c_block ?_
    refine sr ?_
    refine e_q (q_indexe x.d Tryz.underlying37 sz_3 rfl rfl (by first | assumption | exact rd_ro (by assumption) | exact rd_row pk_) (by decide) rfl (by first | assumption | omega | (simp only [List.length_cons, List.length_nil]; omega))) ?_
    refine e_q (q_loade (enc := encI) (xs := ns) (j := x.d) (off := 0) sc_3 rfl (by first | assumption | exact rd_ro (by assumption) | exact rd_row pk_) (fun _ => rfl) (by first | assumption | omega | (simp only [List.length_cons, List.length_nil]; omega)) (by decide) rfl) ?_
    refine e_as rfl ?_
    refine l_n ?_
    refine sr ?_
    refine e_mv rfl ?_
    refine e_q (q_lss rfl rfl) ?_
    refine e_mv rfl ?_
    refine l_step (s_qg rfl (ask_f rfl rfl) (b := (!(decide ((ns.getD x.d default) < 0)))) (fun hb => q_move rfl) ?_)
    refine l_step (s_qg rfl (ask_f rfl rfl) (b := (!(decide ((ns.getD x.d default) < 0)))) (fun hb => OpQ.env (.cons rfl (gd_t hb) (.nil _) : EnvLe [(14, .int .i64 (ns.getD x.d default))] _) (q_geq rfl rfl)) ?_)
    refine e_q (q_pick_or rfl rfl rfl (fun h => by first | (rw [h]; rfl) | exact congrArg not h)) ?_
    refine l_n ?_
    refine c_cond rfl (fun h1 => ?_) (fun h1 => ?_)
    · try simp only [decide_eq_true_eq, decide_eq_false_iff_not, Bool.or_eq_true, Bool.or_eq_false_iff] at h1
      refine sr ?_
      refine e_as rfl ?_
      refine l_n ?_
      refine c_ret ?_
      refine k_blk_r ?_
      refine k_then_r ?_
      refine k_then_r ?_
      refine k_blk_r ?_
      refine k_then_r ?_
      exact t_rt [] rfl (.tmp rfl .nil) rfl ⟨rfl, boole (right_bad (i := x.d) (by omega) (by omega)).symm, rfl⟩ (by (repeat refine Ent.skip ?_); exact Ent.refl _)
    · try simp only [decide_eq_true_eq, decide_eq_false_iff_not, Bool.or_eq_true, Bool.or_eq_false_iff] at h1
      refine c_skip ?_
      refine k_blk_n ?_
      refine k_then_n ?_
      refine c_region ?_
      refine e_q (q_add rfl rfl (by omega) (by omega)) ?_
      refine e_mv rfl ?_
      refine l_n ?_
      exact t_nx (⟨x.d + 1, none, 0, none, 0, none, 0⟩ : Lp _) ⟨⟨by show x.d + 1 ≤ _; omega, by show rightB (ns.take (x.d + 1)) = true; rw [right_next (by omega), hx2, decide_eq_true (by omega), decide_eq_true (by omega)]; rfl⟩, by show _ - (x.d + 1) < _; omega⟩ (.c (.c (.c (.nil _))))
  · try simp only [decide_eq_true_eq, decide_eq_false_iff_not] at h0
    have hk : x.d = ns.length := by omega
    rw [hk, List.take_length] at hx2
    refine c_exit ?_
    refine k_then_x ?_
    refine k_then_x ?_
    refine k_blk_x ?_
    refine k_then_n ?_
    refine sr ?_
    refine e_as rfl ?_
    refine l_n ?_
    refine c_ret ?_
    exact t_rt [] rfl (.tmp rfl .nil) rfl ⟨rfl, boole hx2.symm, rfl⟩ (by (repeat refine Ent.skip ?_); exact Ent.refl _)

theorem may_spec (f : Fence1) (o : Order1) (ρ : Hp) : Spec0 Tryz.prog 88 #[.agg (encFence1 f).toArray, .agg (encOrder1 o).toArray] ρ [] (fun v Γ' => v = .int .i64 ((mayF f o)) ∧ Γ' = []) := by
  refine spec_of (n := 41) (vs := [_, _]) (σ := [(0, _), (1, _)]) Tryz.func88 rfl rfl rfl rfl fun E Δ => ?_
  rw [List.nil_append]
  refine sr ?_
  refine e_s (s_box (cs := encFence1 f) rfl rfl) ?_
  rintro _ _ ⟨b2, rfl, rfl⟩
  refine e_s (s_box (cs := encOrder1 o) rfl rfl) ?_
  rintro _ _ ⟨b3, rfl, rfl⟩
  refine e_as rfl ?_
  refine l_n ?_
  refine c_seq ?_
  refine c_block ?_
  refine sr ?_
  refine e_q (q_fieldp rfl fo_69_0) ?_
  refine e_q (q_loadp (v := .int .i64 o.ID) sc_3 rfl pk_ rfl) ?_
  refine e_q (q_lss rfl rfl) ?_
  refine e_mv rfl ?_
  refine t_split (d := 9) rfl (fun g1_3 => ?_) (fun g1_3 => ?_)
  · try simp only [decide_eq_true_eq, decide_eq_false_iff_not] at g1_3
    refine l_step (s_no rfl (wno rfl rfl (by decide)) ?_)
    refine l_step (s_no rfl (wno rfl rfl (by decide)) ?_)
    refine l_step (s_no rfl (wno rfl rfl (by decide)) ?_)
    refine l_step (s_no rfl (wno rfl rfl (by decide)) ?_)
    refine l_step (s_no rfl (wno rfl rfl (by decide)) ?_)
    refine l_step (s_no rfl (wno rfl rfl (by decide)) ?_)
    refine l_step (s_no rfl (wno rfl rfl (by decide)) ?_)
    refine l_step (s_no rfl (wno rfl rfl (by decide)) ?_)
    refine l_step (s_no rfl (wno rfl rfl (by decide)) ?_)
    refine l_step (s_no rfl (wno rfl rfl (by decide)) ?_)
    refine l_step (s_no rfl (wno rfl rfl (by decide)) ?_)
    refine e_q (q_pick rfl rfl rfl) ?_
    refine e_as rfl ?_
    refine l_n ?_
    refine c_yes rfl ?_
    refine sr ?_
    refine e_as rfl ?_
    refine l_n ?_
    refine c_ret ?_
    refine k_blk_r ?_
    refine k_then_r ?_
    have hr : mayF f o = 2 := if_pos (by rw [decide_eq_true (show o.ID < 1 by omega)]; rfl)
    rw [hr]
    exact t_rt [] rfl (.tmp rfl .nil) rfl ⟨rfl, rfl, rfl⟩ (by (repeat refine Ent.skip ?_); exact Ent.refl _)
  · try simp only [decide_eq_true_eq, decide_eq_false_iff_not] at g1_3
    refine e_qw (wy rfl rfl rfl) (q_fieldp rfl fo_69_0) ?_
    refine e_qw (wy rfl rfl rfl) (q_loadp (v := .int .i64 o.ID) sc_3 rfl pk_ rfl) ?_
    refine e_qw (wy rfl rfl rfl) (q_fieldp rfl fo_69_1) ?_
    refine e_qw (wy rfl rfl rfl) (q_loadp (v := .int .i64 o.Epoch) sc_3 rfl pk_ rfl) ?_
    refine e_qw (wy rfl rfl rfl) (q_fieldp rfl fo_69_2) ?_
    refine e_qw (wy rfl rfl rfl) (q_loadp (v := .int .i64 o.Cluster) sc_3 rfl pk_ rfl) ?_
    refine e_qw (wy rfl rfl rfl) (q_fieldp rfl fo_69_3) ?_
    refine e_qw (wy rfl rfl rfl) (q_loadp (v := .int .i64 o.Version) sc_3 rfl pk_ rfl) ?_
    refine l_step (s_s rfl (wy rfl rfl rfl) (s_buildSlice (cs := ([o.ID, o.Epoch, o.Cluster, o.Version] : List Int).flatMap encI) Tryz.underlying37 eo_3 rfl rfl rfl rfl (by decide) (by decide)) ?_)
    rintro _ _ ⟨b18, rfl, rfl⟩
    refine l_step (s_fnq rfl (wy rfl rfl rfl) Tryz.func115 rfl (by kernel_rfl) rfl (fun ρ' hL => right_spec (some ⟨b18, 0, none⟩) 4 4 [o.ID, o.Epoch, o.Cluster, o.Version] rfl ρ' (hL.row pk_)) ?_)
    refine e_qw (wy rfl rfl rfl) (q_not rfl) ?_
    refine e_q (q_pick rfl rfl rfl) ?_
    refine e_as rfl ?_
    refine l_n ?_
    refine c_cond rfl (fun h0 => ?_) (fun h0 => ?_)
    · skip
      replace h0 : (!rightB [o.ID, o.Epoch, o.Cluster, o.Version]) = true := h0
      refine sr ?_
      refine e_as rfl ?_
      refine l_n ?_
      refine c_ret ?_
      refine k_blk_r ?_
      refine k_then_r ?_
      have hr : mayF f o = 2 := if_pos (by rw [h0]; exact Bool.or_true _)
      rw [hr]
      exact t_rt [] rfl (.tmp rfl .nil) rfl ⟨rfl, rfl, rfl⟩ (by (repeat refine Ent.skip ?_); exact Ent.refl _)
    · skip
      replace h0 : (!rightB [o.ID, o.Epoch, o.Cluster, o.Version]) = false := h0
      refine sr ?_
      refine e_q (q_fieldp rfl fo_69_0) ?_
      refine e_q (q_loadp (v := .int .i64 o.ID) sc_3 rfl pk_ rfl) ?_
      refine e_q (q_fieldp rfl fo_77_0) ?_
      refine e_q (q_loadp (v := .int .i64 f.ID) sc_3 rfl pk_ rfl) ?_
      refine e_q (q_eql rfl rfl) ?_
      refine e_as rfl ?_
      refine l_n ?_
      refine c_cond rfl (fun h1 => ?_) (fun h1 => ?_)
      · try simp only [decide_eq_true_eq, decide_eq_false_iff_not] at h1
        refine sr ?_
        refine e_as rfl ?_
        refine l_n ?_
        refine c_ret ?_
        refine k_blk_r ?_
        refine k_then_r ?_
        have hr1 : (decide (o.ID < 1) || !rightB [o.ID, o.Epoch, o.Cluster, o.Version]) = false := by rw [decide_eq_false (show ¬ o.ID < 1 by omega), h0]; rfl
        have hr : mayF f o = 131 := by unfold mayF; rw [if_neg (by rw [hr1]; decide), if_pos (by omega)]
        rw [hr]
        exact t_rt [] rfl (.tmp rfl .nil) rfl ⟨rfl, rfl, rfl⟩ (by (repeat refine Ent.skip ?_); exact Ent.refl _)
      · try simp only [decide_eq_true_eq, decide_eq_false_iff_not] at h1
        refine sr ?_
        refine e_q (q_fieldp rfl fo_69_0) ?_
        refine e_q (q_loadp (v := .int .i64 o.ID) sc_3 rfl pk_ rfl) ?_
        refine e_q (q_fieldp rfl fo_77_0) ?_
        refine e_q (q_loadp (v := .int .i64 f.ID) sc_3 rfl pk_ rfl) ?_
        refine e_q (q_lss rfl rfl) ?_
        refine e_mv rfl ?_
        refine l_step (s_qg rfl (ask_f rfl rfl) (b := (!(decide (o.ID < f.ID)))) (fun hb => q_fieldp rfl fo_69_1) ?_)
        refine l_step (s_qg rfl (ask_f rfl rfl) (b := (!(decide (o.ID < f.ID)))) (fun hb => OpQ.env (.cons rfl (gd_t hb) (.nil _) : EnvLe [(35, .pointer (some ⟨b3, 1, none⟩))] _) (q_loadp (v := .int .i64 o.Epoch) sc_3 rfl pk_ rfl)) ?_)
        refine l_step (s_qg rfl (ask_f rfl rfl) (b := (!(decide (o.ID < f.ID)))) (fun hb => q_fieldp rfl fo_77_1) ?_)
        refine l_step (s_qg rfl (ask_f rfl rfl) (b := (!(decide (o.ID < f.ID)))) (fun hb => OpQ.env (.cons rfl (gd_t hb) (.nil _) : EnvLe [(37, .pointer (some ⟨b2, 1, none⟩))] _) (q_loadp (v := .int .i64 f.Epoch) sc_3 rfl pk_ rfl)) ?_)
        refine l_step (s_qg rfl (ask_f rfl rfl) (b := (!(decide (o.ID < f.ID)))) (fun hb => OpQ.env (.cons rfl (gd_t hb) (.cons rfl (gd_t hb) (.nil _)) : EnvLe [(36, .int .i64 o.Epoch), (38, .int .i64 f.Epoch)] _) (q_lss rfl rfl)) ?_)
        refine e_q (q_pick_or rfl rfl rfl (fun h => by first | (rw [h]; rfl) | exact congrArg not h)) ?_
        refine e_as rfl ?_
        refine l_n ?_
        refine c_cond rfl (fun h2 => ?_) (fun h2 => ?_)
        · try simp only [decide_eq_true_eq, decide_eq_false_iff_not, Bool.or_eq_true, Bool.or_eq_false_iff] at h2
          refine sr ?_
          refine e_as rfl ?_
          refine l_n ?_
          refine c_ret ?_
          refine k_blk_r ?_
          refine k_then_r ?_
          have hr1 : (decide (o.ID < 1) || !rightB [o.ID, o.Epoch, o.Cluster, o.Version]) = false := by rw [decide_eq_false (show ¬ o.ID < 1 by omega), h0]; rfl
          have hr : mayF f o = 70 := by unfold mayF; rw [if_neg (by rw [hr1]; decide), if_neg (by omega), if_pos (by simp only [Bool.or_eq_true, decide_eq_true_eq]; omega)]
          rw [hr]
          exact t_rt [] rfl (.tmp rfl .nil) rfl ⟨rfl, rfl, rfl⟩ (by (repeat refine Ent.skip ?_); exact Ent.refl _)
        · try simp only [decide_eq_true_eq, decide_eq_false_iff_not, Bool.or_eq_true, Bool.or_eq_false_iff] at h2
          refine c_skip ?_
          refine k_blk_n ?_
          refine k_then_n ?_
          refine sr ?_
          refine e_as rfl ?_
          refine l_n ?_
          refine c_ret ?_
          have hr1 : (decide (o.ID < 1) || !rightB [o.ID, o.Epoch, o.Cluster, o.Version]) = false := by rw [decide_eq_false (show ¬ o.ID < 1 by omega), h0]; rfl
          have hr : mayF f o = 0 := by unfold mayF; rw [if_neg (by rw [hr1]; decide), if_neg (by omega), if_neg (by simp only [Bool.or_eq_true, decide_eq_true_eq]; omega)]
          rw [hr]
          exact t_rt [] rfl (.tmp rfl .nil) rfl ⟨rfl, rfl, rfl⟩ (by (repeat refine Ent.skip ?_); exact Ent.refl _)

theorem pass_spec (f : Nat) (k : Kept1) (p : Option Addr) (pc : Nat) (o : Order1) (ρ : Hp) (hro : Ro ρ 4 p 1 pc ([o].flatMap encOrder1)) (hm : mayF k.Fence o = 0) : Spec0 Tryz.prog 89 #[.pointer (some ⟨f, 0, none⟩), .slice p 1 pc] ρ [.pts f (encKept1 k) 79] (fun v Γ' => v = .int .i64 0 ∧ Γ' = [.pts f (encKept1 (⟨⟨o.ID, o.Epoch⟩, k.version, k.done, k.at_, k.to_⟩ : Kept1)) 79]) := by
  refine spec_of (n := 33) (vs := [_, _]) (σ := [(0, _), (1, _)]) Tryz.func89 rfl rfl rfl rfl fun E Δ => ?_
  simp only [List.cons_append, List.nil_append]
  refine sr ?_
  refine e_as rfl ?_
  refine l_n ?_
  refine c_seq ?_
  refine sr ?_
  refine e_mv rfl ?_
  refine e_q (q_len Tryz.underlying72 rfl) ?_
  refine e_mv rfl ?_
  refine l_n ?_
  refine c_block ?_
  refine Tr.env (σ' := [(0, _), (8, _), (9, _), (10, _)]) ev_ ?_
  refine t_loop (ι := Lp (Nat × Kept1)) (fun x => (x.d.1 = 0 ∧ x.d.2 = k) ∨ (x.d.1 = 1 ∧ x.d.2 = (⟨⟨o.ID, o.Epoch⟩, k.version, k.done, k.at_, k.to_⟩ : Kept1))) (fun x => 1 - x.d.1) (fun x => [(0, .pointer (some ⟨f, 0, none⟩)), (8, .slice p 1 pc), (9, .int .i64 (1 : Int)), (10, .int .i64 (x.d.1 : Int))]) (fun x => .pts f (encKept1 x.d.2) 79 :: Δ) (⟨(0, k), none, 0, none, 0, none, 0⟩ : Lp _) (.inl ⟨rfl, rfl⟩) ?_ ?_ ?_
  · exact .c (.c (.c (.c (.nil _))))
  · exact en_
  intro x hx
  refine sr ?_
  refine e_q (q_lss rfl rfl) ?_
  refine l_n ?_
  refine c_seq ?_
  refine c_cond rfl (fun h0 => ?_) (fun h0 => ?_)
  · try simp only [decide_eq_true_eq, decide_eq_false_iff_not] at h0
    have hx0 : x.d.1 = 0 := by omega
    have hxk : x.d.2 = k := by rcases hx with h9 | h9; exact h9.2; omega
    have hxe : ([o].getD x.d.1 default) = o := by rw [hx0]; rfl
    refine c_skip ?_
    refine k_then_n ?_
    refine c_seq ?_
    refine c_block ?_
    refine sr ?_
    refine e_q (q_indexe x.d.1 Tryz.underlying72 sz_69 rfl rfl (by first | assumption | exact rd_ro (by assumption) | exact rd_row pk_) (by decide) rfl (by first | assumption | omega | (simp only [List.length_cons, List.length_nil]; omega))) ?_
    refine e_q (q_loadea (vs := encOrder1 ([o].getD x.d.1 default)) (enc := encOrder1) (xs := [o]) (j := x.d.1) (off := 0) ag_69 rfl (by first | assumption | exact rd_ro (by assumption) | exact rd_row pk_) (fun _ => rfl) (by first | assumption | omega | (simp only [List.length_cons, List.length_nil]; omega)) (by simp [encOrder1]) (by simp [encOrder1]) rfl) ?_
    refine e_s (s_allocz (cs := encOrder1 zOrder1) (by kernel_rfl)) ?_
    rintro _ _ ⟨b6, rfl, rfl⟩
    refine l_step (s_s0 wn (s_storep (ws := encOrder1 ([o].getD x.d.1 default)) (cs := encOrder1 zOrder1) (cs' := encOrder1 ([o].getD x.d.1 default)) rfl rfl rfl sz_69 (oneOrder1 _) (by simp [encOrder1, encOrder1]) rfl pk_) ?_)
    rintro _ _ ⟨rfl, rfl⟩
    refine l_n ?_
    refine c_seq ?_
    refine c_seq ?_
    refine d_r 6 [.pts b6 (encOrder1 ([o].getD x.d.1 default)) 69, .pts f (encKept1 x.d.2) 79] ?_
    refine d_t 0 rfl wn (q_move rfl) ?_
    refine d_t 1 rfl wn (q_nilCheck rfl) ?_
    refine d_t 2 rfl wn (q_loadpa (vs := encFence1 x.d.2.Fence) ag_77 rfl pk_ rfl) ?_
    refine d_t 3 rfl wn (q_loadpa (vs := encOrder1 ([o].getD x.d.1 default)) ag_69 rfl pk_ rfl) ?_
    refine d_1 4 ?_
    refine o_step rfl (s_fnq rfl wn Tryz.func88 rfl (by kernel_rfl) rfl (fun ρ' hL => may_spec x.d.2.Fence ([o].getD x.d.1 default) ρ') ?_)
    refine d_c ?_
    refine d_t 5 rfl wn (q_assign rfl) ?_
    refine d_d ?_
    refine k_then_n ?_
    refine sr ?_
    refine e_mv rfl ?_
    refine e_q (q_neq rfl rfl) ?_
    refine l_n ?_
    refine c_sure false rfl (decide_eq_false (fun h9 => h9 (by rw [hxk, hxe]; exact hm))) ?_
    simp only [Bool.false_eq_true, if_true, if_false]
    refine c_skip ?_
    refine k_then_n ?_
    refine d_r 12 [.pts b6 (encOrder1 ([o].getD x.d.1 default)) 69] ?_
    refine d_t 0 rfl wn (q_move rfl) ?_
    refine d_t 1 rfl wn (q_move rfl) ?_
    refine d_t 2 rfl wn (q_fieldp rfl fo_69_0) ?_
    refine d_t 3 rfl wn (q_loadp (v := .int .i64 (([o].getD x.d.1 default).ID)) sc_3 rfl pk_ rfl) ?_
    refine d_t 4 rfl wn (q_fieldp rfl fo_69_1) ?_
    refine d_t 5 rfl wn (q_loadp (v := .int .i64 (([o].getD x.d.1 default).Epoch)) sc_3 rfl pk_ rfl) ?_
    refine d_t 6 rfl wn (q_nilCheck rfl) ?_
    refine d_t 7 rfl wn (q_fieldp rfl fo_77_0) ?_
    refine d_1 8 ?_
    refine o_step rfl (s_s0 wn (s_storep (ws := [.int .i64 (([o].getD x.d.1 default).ID)]) (cs := encKept1 x.d.2) (cs' := encKept1 { x.d.2 with Fence := { x.d.2.Fence with ID := (([o].getD x.d.1 default).ID) } }) rfl rfl rfl sz_3 (by simp [Value.oneCell', strB, ptV, SL.v, SH.v]) (by simp [encKept1]) rfl pk_) ?_)
    rintro _ _ ⟨rfl, rfl⟩
    refine d_c ?_
    refine d_t 9 rfl wn (q_nilCheck rfl) ?_
    refine d_t 10 rfl wn (q_fieldp rfl fo_77_1) ?_
    refine d_1 11 ?_
    refine o_step rfl (s_s0 wn (s_storep (ws := [.int .i64 (([o].getD x.d.1 default).Epoch)]) (cs := encKept1 { x.d.2 with Fence := { x.d.2.Fence with ID := (([o].getD x.d.1 default).ID) } }) (cs' := encKept1 { { x.d.2 with Fence := { x.d.2.Fence with ID := (([o].getD x.d.1 default).ID) } } with Fence := { { x.d.2 with Fence := { x.d.2.Fence with ID := (([o].getD x.d.1 default).ID) } }.Fence with Epoch := (([o].getD x.d.1 default).Epoch) } }) rfl rfl rfl sz_3 (by simp [Value.oneCell', strB, ptV, SL.v, SH.v]) (by simp [encKept1]) rfl pk_) ?_)
    rintro _ _ ⟨rfl, rfl⟩
    refine d_c ?_
    refine d_d ?_
    refine k_blk_n ?_
    refine k_then_n ?_
    refine c_region ?_
    refine e_q (q_add rfl rfl (by omega) (by omega)) ?_
    refine e_mv rfl ?_
    refine l_n ?_
    exact t_nx (⟨(x.d.1 + 1, { { x.d.2 with Fence := { x.d.2.Fence with ID := (([o].getD x.d.1 default).ID) } } with Fence := { { x.d.2 with Fence := { x.d.2.Fence with ID := (([o].getD x.d.1 default).ID) } }.Fence with Epoch := (([o].getD x.d.1 default).Epoch) } }), none, 0, none, 0, none, 0⟩ : Lp _) ⟨.inr ⟨by show x.d.1 + 1 = 1; omega, by first | (rw [hxe, hxk]; done) | (rw [hxe, hxk]; rfl)⟩, by show 1 - (x.d.1 + 1) < _; omega⟩ (.c (.c (.c (.c (.nil _)))))
  · try simp only [decide_eq_true_eq, decide_eq_false_iff_not] at h0
    have hxk : x.d.2 = (⟨⟨o.ID, o.Epoch⟩, k.version, k.done, k.at_, k.to_⟩ : Kept1) := by rcases hx with h9 | h9; omega; exact h9.2
    rw [hxk]
    refine c_exit ?_
    refine k_then_x ?_
    refine k_then_x ?_
    refine k_blk_x ?_
    refine k_then_n ?_
    refine sr ?_
    refine e_as rfl ?_
    refine l_n ?_
    refine c_ret ?_
    exact t_rt [.pts f (encKept1 (⟨⟨o.ID, o.Epoch⟩, k.version, k.done, k.at_, k.to_⟩ : Kept1)) 79] rfl (.tmp rfl .nil) rfl ⟨rfl, rfl, rfl⟩
end Go.Agn

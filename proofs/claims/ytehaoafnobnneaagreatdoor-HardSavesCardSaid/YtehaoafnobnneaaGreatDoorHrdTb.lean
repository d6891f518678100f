/-
  Walked.
-/
import Derived.Test.YtehaoafnobnneaaGreatDoorHrdTa
import Derived.Test.YtehaoafnobnneaaGreatDoorHrdQQ
import Derived.Test.YtehaoafnobnneaaGreatDoorProg
set_option maxRecDepth 100000
set_option maxHeartbeats 4000000
set_option linter.unusedSimpArgs false
set_option linter.unusedVariables false
namespace Go.HrdS
open Go Go.SL Go.Proofs Go.Mou Go.Dsk Go.Hrd Go.HrdL
attribute [local irreducible] Go.SL.Ent
theorem zc_23 : zeroCs Tryz.prog 23 = some [.int .i64 0, .int .i64 0] := by kernel_rfl
theorem pl_23 : placesOf Tryz.prog 23 = some [(0, 1), (1, 1)] := by kernel_rfl
theorem sz_23 : sizeIs Tryz.prog 23 = some 2 := by kernel_rfl
theorem sz_40 : sizeIs Tryz.prog 40 = some 6 := by kernel_rfl
theorem ag_40 : aggSize Tryz.prog 40 = some 6 := by kernel_rfl
theorem fo_40_4 : fieldOff Tryz.prog 40 4 = some (5, 38) := by kernel_rfl
theorem sc_38 : isScalar Tryz.prog 38 = true := by kernel_rfl
theorem fo_40_3 : fieldOff Tryz.prog 40 3 = some (4, 37) := by kernel_rfl
theorem sc_37 : isScalar Tryz.prog 37 = true := by kernel_rfl
theorem fo_40_0 : fieldOff Tryz.prog 40 0 = some (0, 3) := by kernel_rfl
theorem sc_3 : isScalar Tryz.prog 3 = true := by kernel_rfl
theorem ag_23 : aggSize Tryz.prog 23 = some 2 := by kernel_rfl
theorem fo_40_1 : fieldOff Tryz.prog 40 1 = some (1, 23) := by kernel_rfl
theorem fo_56_0 : fieldOff Tryz.prog 56 0 = some (0, 23) := by kernel_rfl
theorem fo_40_2 : fieldOff Tryz.prog 40 2 = some (3, 3) := by kernel_rfl
theorem eo_9 : elemOk Tryz.prog 9 1 16 = true := by kernel_rfl
theorem sz_9 : sizeIs Tryz.prog 9 = some 1 := by kernel_rfl
theorem sc_9 : isScalar Tryz.prog 9 = true := by kernel_rfl
theorem eo_38 : elemOk Tryz.prog 38 1 24 = true := by kernel_rfl

theorem on2 (b : Nat) (room : Int) (mb : Nat) (calls : Int) (T : FT) (L : FV) (ρ : Hp) (hT : FOk T) (hn : newF (vw T) = newF L) : Spec0 Tryz.prog 25 #[.pointer (some ⟨b, 0, none⟩)] ρ [.pts b (encDisk1 (⟨room, (some mb), calls⟩ : Disk1)) 105, MP strB ptV mb (fm T), FB 109 5 T] (fun v Γ' => v = .agg (encState1 (newF L).2.2).toArray ∧ Γ' = [.pts b (encDisk1 (⟨room, (some mb), calls⟩ : Disk1)) 105, MP strB ptV mb (fm T), FB 109 5 T]) := by
  rw [← hn]; exact Go.Hrd.on_spec b room mb calls T ρ hT

theorem saves_spec (room : Int) (acts_a : Option Addr) (acts_n acts_c : Nat) (acts : List HAct) (hacts_n : acts.length = acts_n) (ρ : Hp) (hr : room ≤ 9223372036854775807) (hro : Ro ρ 6 acts_a acts_n acts_c (acts.flatMap encHAct)) (hA : ∀ a ∈ acts, HActM a ρ ∧ a.N ≤ 9223372036854775807) : Spec0 Tryz.prog 4 #[.int .i64 room, .slice acts_a acts_n acts_c] ρ [] (fun v Γ' => v = .bool true ∧ Γ' = []) := by
  refine spec_of (n := 172) (vs := [_, _]) (σ := [(0, _), (1, _)]) Tryz.func4 rfl rfl rfl rfl fun E Δ => ?_
  rw [List.nil_append]
  refine sr ?_
  refine e_as rfl ?_
  refine l_n ?_
  refine c_seq ?_
  refine sr ?_
  refine l_step (s_fnq rfl wn Tryz.func9 rfl (by kernel_rfl) rfl (fun ρ' hL => Go.HrdL.awake_spec ρ') ?_)
  refine e_q (q_not rfl) ?_
  refine e_mv rfl ?_
  refine e_qw (wy rfl rfl rfl) (q_move rfl) ?_
  refine e_qw (wy rfl rfl rfl) (q_lss rfl rfl) ?_
  refine e_q (q_pick rfl rfl rfl) ?_
  refine e_mv rfl ?_
  refine l_step (s_qg rfl (ask_f rfl rfl) (b := (!(decide (room < 0)))) (fun hb => q_move rfl) ?_)
  refine l_step (s_qg rfl (ask_f rfl rfl) (b := (!(decide (room < 0)))) (fun hb => OpQ.env (.cons rfl (gd_t hb) (.nil _) : EnvLe [(24, .slice acts_a acts_n acts_c)] _) (q_len Tryz.underlying28 rfl)) ?_)
  refine l_step (s_qg rfl (ask_f rfl rfl) (b := (!(decide (room < 0)))) (fun hb => OpQ.env (.cons rfl (gd_t hb) (.nil _) : EnvLe [(25, .int .i64 (acts_n : Int))] _) (q_gtr rfl rfl)) ?_)
  refine e_q (q_pick_or rfl rfl rfl (fun h => by first | (rw [h]; rfl) | exact congrArg not h)) ?_
  refine l_n ?_
  refine c_cond rfl (fun h0 => ?_) (fun h0 => ?_)
  · try simp only [decide_eq_true_eq, decide_eq_false_iff_not, Bool.or_eq_true, Bool.or_eq_false_iff] at h0
    refine sr ?_
    refine l_step (s_fnq rfl wn Tryz.func9 rfl (by kernel_rfl) rfl (fun ρ' hL => Go.HrdL.awake_spec ρ') ?_)
    refine e_as rfl ?_
    refine l_n ?_
    refine c_ret ?_
    refine k_then_r ?_
    exact t_rt [] rfl (.tmp rfl .nil) rfl ⟨rfl, boole (by rfl), rfl⟩ (by (repeat refine Ent.skip ?_); exact Ent.refl _)
  · try simp only [decide_eq_true_eq, decide_eq_false_iff_not, Bool.or_eq_true, Bool.or_eq_false_iff] at h0
    refine c_skip ?_
    refine k_then_n ?_
    refine sr ?_
    refine e_mv rfl ?_
    refine e_fn Tryz.func12 rfl sl_ (fun ρ' hL => made_spec room ρ' (by omega)) ?_
    rintro _ _ ⟨bD, mbD, rD, rfl, rfl⟩
    try simp only [List.cons_append, List.nil_append]
    have hG0 : Gd (vw []) ⟨0, -1⟩ 0 n0 := gd_nil
    refine e_mv rfl ?_
    refine e_q (q_extract rfl rfl) ?_
    refine e_q (q_extract rfl rfl) ?_
    refine e_as rfl ?_
    refine e_as rfl ?_
    refine l_n ?_
    refine c_seq ?_
    refine sr ?_
    refine e_mv rfl ?_
    refine e_q (by first | exact q_eqlp rfl rfl Tryz.underlying29 | exact q_eqlp0 rfl rfl Tryz.underlying29) ?_
    refine l_n ?_
    refine c_sure false rfl (by rfl) ?_
    simp only [Bool.false_eq_true, if_true, if_false]
    refine c_skip ?_
    refine k_then_n ?_
    refine sr ?_
    refine Tr.ent (Ent.nilrow 89 3 _) ?_
    refine Tr.ent (bun_nil _) ?_
    refine e_mv rfl ?_
    refine e_fn Tryz.func13 rfl sl_ (fun ρ' hL => open__spec bD room mbD (-1) [] ρ' hG0.fok) ?_
    rintro _ _ ⟨h1, rfl, rfl⟩
    try simp only [List.cons_append, List.nil_append]
    rw [hG0.on]
    refine e_mv rfl ?_
    refine e_q (q_extract rfl rfl) ?_
    refine e_q (q_extract rfl rfl) ?_
    refine e_as rfl ?_
    refine e_as rfl ?_
    refine l_n ?_
    refine c_seq ?_
    refine sr ?_
    refine e_mv rfl ?_
    refine e_q (by first | exact q_eqlp rfl rfl Tryz.underlying33 | exact q_eqlp0 rfl rfl Tryz.underlying33) ?_
    refine e_mv rfl ?_
    refine e_qw (wy rfl rfl rfl) (q_move rfl) ?_
    refine e_qw (wy rfl rfl rfl) (q_neq rfl rfl) ?_
    refine e_q (q_pick rfl rfl rfl) ?_
    refine l_n ?_
    refine c_sure false rfl (by rfl) ?_
    simp only [Bool.false_eq_true, if_true, if_false]
    refine c_skip ?_
    refine k_then_n ?_
    refine sr ?_
    refine e_q (q_build (cs := encState1 (⟨0, (-1)⟩ : State1)) zc_23 pl_23 rfl rfl) ?_
    refine e_s (s_allocz (cs := encState1 zState1) (by kernel_rfl)) ?_
    rintro _ _ ⟨b9, rfl, rfl⟩
    refine l_step (s_s0 wn (s_storep (ws := encState1 (⟨0, (-1)⟩ : State1)) (cs := encState1 zState1) (cs' := encState1 (⟨0, (-1)⟩ : State1)) rfl rfl rfl sz_23 (oneState1 _) (by simp [encState1, encState1]) rfl pk_) ?_)
    rintro _ _ ⟨rfl, rfl⟩
    refine l_n ?_
    refine c_seq ?_
    refine sr ?_
    refine e_as rfl ?_
    refine l_n ?_
    refine c_block ?_
    refine Tr.env (σ' := [(1, _), (5, _), (6, _), (7, _), (9, _), (10, _)]) ev_ ?_
    refine t_loop (ι := Lp (Nat × FT × RT × Int × Option Addr × Nat × Bool × Int × Nat × State1)) (fun x => x.d.1 ≤ acts_n ∧ Go.Hrd.Alike room x.d.2.2.2.1 x.d.2.2.2.2.2.2.1 x.d.2.2.2.2.2.2.2.1 (vw x.d.2.1) (rvw x.d.2.2.1) (2000 * x.d.1)) (fun x => acts_n - x.d.1) (fun x => [(1, .slice acts_a acts_n acts_c), (5, .pointer (some ⟨bD, 0, none⟩)), (6, .pointer (some ⟨rD, 0, none⟩)), (7, .pointer (some ⟨x.d.2.2.2.2.2.2.2.2.1, 0, none⟩)), (9, .pointer (some ⟨b9, 0, none⟩)), (10, .int .i64 (x.d.1 : Int))]) (fun x => .pts b9 (encState1 x.d.2.2.2.2.2.2.2.2.2) 23 :: .pts x.d.2.2.2.2.2.2.2.2.1 (encHard1 (⟨x.d.2.2.2.2.2.2.2.2.2, (some bD)⟩ : Hard1)) 56 :: RB 5 x.d.2.2.1 :: .row 89 3 x.d.2.2.2.2.1 x.d.2.2.1.length x.d.2.2.2.2.2.1 (x.d.2.2.1.flatMap encRFile) :: .pts bD (encDisk1 (⟨room, (some mbD), x.d.2.2.2.1⟩ : Disk1)) 105 :: MP strB ptV mbD (fm x.d.2.1) :: FB 109 5 x.d.2.1 :: .pts rD (encRDisk (⟨room, ⟨x.d.2.2.2.2.1, x.d.2.2.1.length, x.d.2.2.2.2.2.1⟩, x.d.2.2.2.2.2.2.1, x.d.2.2.2.2.2.2.2.1⟩ : RDisk)) 87 :: Δ) (⟨(0, [], [], -1, none, 0, false, 0, h1, (⟨0, -1⟩ : State1)), none, 0, none, 0, none, 0⟩ : Lp _) ⟨Nat.zero_le _, ⟨sim_nil_, rfl, (fun h => by cases h), (show (0 : Int) ≤ 9223372036854775807 by decide), ⟨vok_nil, (show (0 : Nat) ≤ 2000 * 0 by decide), (show 2000 * 0 ≤ 1000000000000 by decide)⟩, (show ((0 : Nat) : Int) ≤ room from by omega)⟩⟩ ?_ ?_ ?_
    · exact .c (.c (.c (.c (.c (.c (.nil _))))))
    · exact en_
    intro x hx
    obtain ⟨hx1, hx2⟩ := hx
    refine c_seq ?_
    refine sr ?_
    refine e_mv rfl ?_
    refine e_mv rfl ?_
    refine e_q (q_len Tryz.underlying28 rfl) ?_
    refine e_q (q_lss rfl rfl) ?_
    refine l_n ?_
    refine c_cond rfl (fun h3 => ?_) (fun h3 => ?_)
    · try simp only [decide_eq_true_eq, decide_eq_false_iff_not] at h3
      refine c_skip ?_
      refine k_then_n ?_
      refine c_seq ?_
      refine c_block ?_
      refine sr ?_
      refine e_mv rfl ?_
      refine e_mv rfl ?_
      refine e_q (q_indexe x.d.1 Tryz.underlying28 sz_40 rfl rfl (by first | assumption | exact rd_ro (by assumption) | exact rd_row pk_) (by decide) rfl (by first | assumption | omega | (simp only [List.length_cons, List.length_nil]; omega))) ?_
      refine e_q (q_loadea (vs := encHAct (acts.getD x.d.1 default)) (enc := encHAct) (xs := acts) (j := x.d.1) (off := 0) ag_40 rfl (by first | assumption | exact rd_ro (by assumption) | exact rd_row pk_) (fun _ => rfl) (by first | assumption | omega | (simp only [List.length_cons, List.length_nil]; omega)) (by simp [encHAct]) (by simp [encHAct]) rfl) ?_
      refine e_s (s_allocz (cs := encHAct zHAct) (by kernel_rfl)) ?_
      rintro _ _ ⟨b11, rfl, rfl⟩
      refine l_step (s_s0 wn (s_storep (ws := encHAct (acts.getD x.d.1 default)) (cs := encHAct zHAct) (cs' := encHAct (acts.getD x.d.1 default)) rfl rfl rfl sz_40 (oneHAct _) (by simp [encHAct, encHAct]) rfl pk_) ?_)
      rintro _ _ ⟨rfl, rfl⟩
      refine l_n ?_
      refine c_seq ?_
      refine sr ?_
      obtain ⟨hAk, hN9⟩ := hA (acts.getD x.d.1 default) (getD_in (by omega))
      have hlm := hx2.lim.us
      refine e_q (q_fieldp rfl fo_40_4) ?_
      refine e_q (q_loadp (v := .slice (((acts.getD x.d.1 default).B).a) (((acts.getD x.d.1 default).B).xs.length) (((acts.getD x.d.1 default).B).cap)) sc_38 rfl pk_ rfl) ?_
      refine e_q (q_len Tryz.underlying38 rfl) ?_
      refine e_q (q_gtr rfl rfl) ?_
      refine e_mv rfl ?_
      refine l_step (s_qg rfl (ask_f rfl rfl) (b := (!(decide (1000 < (((acts.getD x.d.1 default).B).xs.length : Int))))) (fun hb => q_fieldp rfl fo_40_3) ?_)
      refine l_step (s_qg rfl (ask_f rfl rfl) (b := (!(decide (1000 < (((acts.getD x.d.1 default).B).xs.length : Int))))) (fun hb => OpQ.env (.cons rfl (gd_t hb) (.nil _) : EnvLe [(63, .pointer (some ⟨b11, 4, none⟩))] _) (q_loadp (v := .slice (((acts.getD x.d.1 default).Keep).a) (((acts.getD x.d.1 default).Keep).xs.length) (((acts.getD x.d.1 default).Keep).cap)) sc_37 rfl pk_ rfl)) ?_)
      refine l_step (s_qg rfl (ask_f rfl rfl) (b := (!(decide (1000 < (((acts.getD x.d.1 default).B).xs.length : Int))))) (fun hb => OpQ.env (.cons rfl (gd_t hb) (.nil _) : EnvLe [(64, .slice (((acts.getD x.d.1 default).Keep).a) (((acts.getD x.d.1 default).Keep).xs.length) (((acts.getD x.d.1 default).Keep).cap))] _) (q_len Tryz.underlying37 rfl)) ?_)
      refine l_step (s_qg rfl (ask_f rfl rfl) (b := (!(decide (1000 < (((acts.getD x.d.1 default).B).xs.length : Int))))) (fun hb => OpQ.env (.cons rfl (gd_t hb) (.nil _) : EnvLe [(65, .int .i64 (((acts.getD x.d.1 default).Keep).xs.length : Int))] _) (q_gtr rfl rfl)) ?_)
      refine e_q (q_pick_or rfl rfl rfl (fun h => by first | (rw [h]; rfl) | exact congrArg not h)) ?_
      refine l_n ?_
      refine c_cond rfl (fun h4 => ?_) (fun h4 => ?_)
      · try simp only [decide_eq_true_eq, decide_eq_false_iff_not, Bool.or_eq_true, Bool.or_eq_false_iff] at h4
        refine sr ?_
        refine e_as rfl ?_
        refine l_n ?_
        refine c_ret ?_
        refine k_then_r ?_
        refine k_blk_r ?_
        refine k_then_r ?_
        refine k_then_r ?_
        refine k_blk_r ?_
        refine k_then_r ?_
        exact t_rt [] rfl (.tmp rfl .nil) rfl ⟨rfl, boole (by rfl), rfl⟩ (by (repeat refine Ent.skip ?_); exact Ent.refl _)
      · try simp only [decide_eq_true_eq, decide_eq_false_iff_not, Bool.or_eq_true, Bool.or_eq_false_iff] at h4
        refine c_skip ?_
        refine k_then_n ?_
        refine c_seq ?_
        refine sr ?_
        refine e_q (q_fieldp rfl fo_40_0) ?_
        refine e_q (q_loadp (v := .int .i64 ((acts.getD x.d.1 default).Kind)) sc_3 rfl pk_ rfl) ?_
        refine l_n ?_
        refine c_block ?_
        refine sr ?_
        refine e_q (q_eql rfl rfl) ?_
        refine e_as rfl ?_
        refine l_n ?_
        refine c_cond rfl (fun h5 => ?_) (fun h5 => ?_)
        · try simp only [decide_eq_true_eq, decide_eq_false_iff_not] at h5
          refine sr ?_
          refine e_mv rfl ?_
          refine e_q (q_loadpa (vs := encState1 x.d.2.2.2.2.2.2.2.2.2) ag_23 rfl pk_ rfl) ?_
          refine e_q (q_fieldp rfl fo_40_1) ?_
          refine e_q (q_loadpa (vs := encState1 ((acts.getD x.d.1 default).S)) ag_23 rfl pk_ rfl) ?_
          refine e_fn Tryz.func14 rfl sl_ (fun ρ' hL => Go.HrdR.rsave_spec rD room x.d.2.2.2.2.1 x.d.2.2.2.2.2.1 x.d.2.2.2.2.2.2.1 x.d.2.2.2.2.2.2.2.1 x.d.2.2.1 x.d.2.2.2.2.2.2.2.2.2 (acts.getD x.d.1 default).S ρ' (hx2.sim.vok hx2.lim.ok) (sim_right hx2.sim) hx2.ce hx2.cb (by rw [← usedR_vw, ← hx2.sim.used]; exact hx2.us) hr (by rw [← usedR_vw, ← hx2.sim.used]; omega)) ?_
          rintro _ _ ⟨a1, c1, R1, rfl, hwR1, rfl⟩
          try simp only [List.cons_append, List.nil_append]
          refine e_as rfl ?_
          refine l_n ?_
          refine c_seq ?_
          refine sr ?_
          refine e_mv rfl ?_
          refine e_q (q_fieldp rfl fo_40_1) ?_
          refine e_q (q_loadpa (vs := encState1 ((acts.getD x.d.1 default).S)) ag_23 rfl pk_ rfl) ?_
          refine e_fn Tryz.func15 rfl sl_ (fun ρ' hL => Go.Hrd.save_spec bD room mbD x.d.2.2.2.1 x.d.2.1 x.d.2.2.2.2.2.2.2.2.1 x.d.2.2.2.2.2.2.2.2.2 (acts.getD x.d.1 default).S ρ' (fok.2 hx2.lim.ok) (by rw [← used_vw]; exact hx2.us) hr (al_cb hx2) (by rw [← used_vw]; omega)) ?_
          rintro _ _ ⟨T1, rfl, hvT1, rfl⟩
          try simp only [List.cons_append, List.nil_append]
          obtain ⟨hs1, hs2, hs3⟩ := al_save (h := x.d.2.2.2.2.2.2.2.2.2) (s := (acts.getD x.d.1 default).S) hx2 (by omega)
          have hal := al_to hvT1 hwR1 hs3
          refine e_mv rfl ?_
          refine e_q (q_neq rfl rfl) ?_
          refine l_n ?_
          refine c_sure false rfl (decide_eq_false (fun h99 => h99 hs1)) ?_
          simp only [Bool.false_eq_true, if_true, if_false]
          refine c_skip ?_
          refine k_then_n ?_
          refine sr ?_
          refine e_mv rfl ?_
          refine e_q (q_eql rfl rfl) ?_
          refine l_n ?_
          refine c_cond rfl (fun h7 => ?_) (fun h7 => ?_)
          · try simp only [decide_eq_true_eq, decide_eq_false_iff_not] at h7
            have hst : (saveP room x.d.2.2.2.1 (vw x.d.2.1) x.d.2.2.2.2.2.2.2.2.2 (acts.getD x.d.1 default).S).2.2.2 = (acts.getD x.d.1 default).S := by rw [hs2, hs1, if_pos h7]
            rw [hst]
            refine c_region ?_
            refine e_q (q_fieldp rfl fo_40_1) ?_
            refine e_q (q_loadpa (vs := encState1 ((acts.getD x.d.1 default).S)) ag_23 rfl pk_ rfl) ?_
            refine l_step (s_s0 wn (s_storep (ws := encState1 ((acts.getD x.d.1 default).S)) (cs := encState1 x.d.2.2.2.2.2.2.2.2.2) (cs' := encState1 ((acts.getD x.d.1 default).S)) rfl rfl rfl sz_23 (oneState1 _) (by simp [encState1, encState1]) rfl pk_) ?_)
            rintro _ _ ⟨rfl, rfl⟩
            refine l_nil ?_
            refine k_blk_n ?_
            refine k_then_n ?_
            refine sr ?_
            refine e_mv rfl ?_
            refine e_fn Tryz.func20 rfl sl_ (fun ρ' hL => Go.HrdR.ron_spec rD room a1 c1 x.d.2.2.2.2.2.2.1 ((saveE room x.d.2.2.2.2.2.2.1 x.d.2.2.2.2.2.2.2.1 (rvw x.d.2.2.1) x.d.2.2.2.2.2.2.2.2.2 (acts.getD x.d.1 default).S).2.2) R1 ρ' (hal.sim.vok hal.lim.ok)) ?_
            rintro _ _ ⟨rfl, rfl⟩
            try simp only [List.cons_append, List.nil_append]
            refine e_mv rfl ?_
            refine e_q (q_extract rfl rfl) ?_
            refine e_q (q_extract rfl rfl) ?_
            refine e_q (q_extract rfl rfl) ?_
            refine e_s (s_allocz (cs := encState1 zState1) (by kernel_rfl)) ?_
            rintro _ _ ⟨b16, rfl, rfl⟩
            refine e_as rfl ?_
            refine e_as rfl ?_
            refine l_step (s_s0 wn (s_storep (ws := encState1 ((newF (rvw R1)).2.2)) (cs := encState1 zState1) (cs' := encState1 ((newF (rvw R1)).2.2)) rfl rfl rfl sz_23 (oneState1 _) (by simp [encState1, encState1]) rfl pk_) ?_)
            rintro _ _ ⟨rfl, rfl⟩
            refine l_n ?_
            refine c_seq ?_
            refine d_r 12 [.pts b16 (encState1 ((newF (rvw R1)).2.2)) 23, .pts b11 (encHAct (⟨(acts.getD x.d.1 default).Kind, (acts.getD x.d.1 default).S, (acts.getD x.d.1 default).N, (acts.getD x.d.1 default).Keep, (acts.getD x.d.1 default).B⟩ : HAct)) 40, .pts b9 (encState1 ((acts.getD x.d.1 default).S)) 23, .pts x.d.2.2.2.2.2.2.2.2.1 (encHard1 (⟨(acts.getD x.d.1 default).S, (some bD)⟩ : Hard1)) 56, RB 5 R1, .row 89 3 a1 R1.length c1 (R1.flatMap encRFile), .pts bD (encDisk1 (⟨room, (some mbD), (saveP room x.d.2.2.2.1 (vw x.d.2.1) x.d.2.2.2.2.2.2.2.2.2 (acts.getD x.d.1 default).S).2.2.1⟩ : Disk1)) 105, MP strB ptV mbD (fm T1), FB 109 5 T1, .pts rD (encRDisk (⟨room, ⟨a1, R1.length, c1⟩, x.d.2.2.2.2.2.2.1, (saveE room x.d.2.2.2.2.2.2.1 x.d.2.2.2.2.2.2.2.1 (rvw x.d.2.2.1) x.d.2.2.2.2.2.2.2.2.2 (acts.getD x.d.1 default).S).2.2⟩ : RDisk)) 87] ?_
            refine d_t 0 rfl wn (q_move rfl) ?_
            refine d_t 1 rfl wn (q_nilCheck rfl) ?_
            refine d_t 2 rfl wn (q_fieldp rfl fo_56_0) ?_
            refine d_t 3 rfl wn (q_loadpa (vs := encState1 ((acts.getD x.d.1 default).S)) ag_23 rfl pk_ rfl) ?_
            refine d_t 4 rfl wn (q_loadpa (vs := encState1 ((acts.getD x.d.1 default).S)) ag_23 rfl pk_ rfl) ?_
            refine d_t 5 rfl wn (q_neqst (offs := [0, 1]) (la := [((acts.getD x.d.1 default).S).Term, ((acts.getD x.d.1 default).S).Vote]) (lb := [((acts.getD x.d.1 default).S).Term, ((acts.getD x.d.1 default).S).Vote]) (by kernel_rfl) rfl rfl (by intro o ho; simp only [List.mem_cons, List.not_mem_nil, or_false] at ho; rcases ho with rfl | rfl <;> exact ⟨_, _, _, rfl, rfl⟩) rfl rfl) ?_
            refine d_t 6 rfl wn (q_move rfl) ?_
            refine Tr.env (.cons (t := 166) (v := .bool false) rfl (congrArg Value.bool (by simp)) (EnvLe.refl _)) ?_
            refine d_t 7 rfl (wy rfl rfl rfl) (q_move rfl) ?_
            refine d_t 9 rfl (wy rfl rfl rfl) (q_loadpa (vs := encState1 ((newF (rvw R1)).2.2)) ag_23 rfl pk_ rfl) ?_
            refine d_1 8 ?_
            refine o_step rfl (s_fnr rfl (wy rfl rfl rfl) Tryz.func25 rfl (by kernel_rfl) rfl sl_ (fun ρ' hL => on2 bD room mbD ((saveP room x.d.2.2.2.1 (vw x.d.2.1) x.d.2.2.2.2.2.2.2.2.2 (acts.getD x.d.1 default).S).2.2.1) T1 (rvw R1) ρ' (fok.2 hal.lim.ok) (al_on hal)) ?_)
            refine d_c ?_
            refine d_t 10 rfl (wy rfl rfl rfl) (q_neqst (offs := [0, 1]) (la := [((newF (rvw R1)).2.2).Term, ((newF (rvw R1)).2.2).Vote]) (lb := [((newF (rvw R1)).2.2).Term, ((newF (rvw R1)).2.2).Vote]) (by kernel_rfl) rfl rfl (by intro o ho; simp only [List.mem_cons, List.not_mem_nil, or_false] at ho; rcases ho with rfl | rfl <;> exact ⟨_, _, _, rfl, rfl⟩) rfl rfl) ?_
            refine d_t 11 rfl wn (q_pick rfl rfl rfl) ?_
            refine d_d ?_
            refine k_then_n ?_
            refine c_sure false rfl (by simp) ?_
            simp only [Bool.false_eq_true, if_true, if_false]
            refine c_skip ?_
            refine k_blk_n ?_
            refine k_then_n ?_
            refine c_region ?_
            refine e_mv rfl ?_
            refine e_q (q_add rfl rfl (by omega) (by omega)) ?_
            refine e_as rfl ?_
            refine l_n ?_
            exact t_nx (⟨(x.d.1 + 1, T1, R1, (saveP room x.d.2.2.2.1 (vw x.d.2.1) x.d.2.2.2.2.2.2.2.2.2 (acts.getD x.d.1 default).S).2.2.1, a1, c1, x.d.2.2.2.2.2.2.1, (saveE room x.d.2.2.2.2.2.2.1 x.d.2.2.2.2.2.2.2.1 (rvw x.d.2.2.1) x.d.2.2.2.2.2.2.2.2.2 (acts.getD x.d.1 default).S).2.2, x.d.2.2.2.2.2.2.2.2.1, (acts.getD x.d.1 default).S), none, 0, none, 0, none, 0⟩ : Lp _) ⟨⟨by show x.d.1 + 1 ≤ _; omega, al_le hal (show _ ≤ 2000 * (x.d.1 + 1) by omega) (show 2000 * (x.d.1 + 1) ≤ _ by omega)⟩, by show acts_n - (x.d.1 + 1) < _; omega⟩ (.c (.c (.c (.c (.c (.c (.nil _)))))))
          · try simp only [decide_eq_true_eq, decide_eq_false_iff_not] at h7
            have hst : (saveP room x.d.2.2.2.1 (vw x.d.2.1) x.d.2.2.2.2.2.2.2.2.2 (acts.getD x.d.1 default).S).2.2.2 = x.d.2.2.2.2.2.2.2.2.2 := by rw [hs2, hs1, if_neg h7]
            rw [hst]
            refine c_skip ?_
            refine k_blk_n ?_
            refine k_then_n ?_
            refine sr ?_
            refine e_mv rfl ?_
            refine e_fn Tryz.func20 rfl sl_ (fun ρ' hL => Go.HrdR.ron_spec rD room a1 c1 x.d.2.2.2.2.2.2.1 ((saveE room x.d.2.2.2.2.2.2.1 x.d.2.2.2.2.2.2.2.1 (rvw x.d.2.2.1) x.d.2.2.2.2.2.2.2.2.2 (acts.getD x.d.1 default).S).2.2) R1 ρ' (hal.sim.vok hal.lim.ok)) ?_
            rintro _ _ ⟨rfl, rfl⟩
            try simp only [List.cons_append, List.nil_append]
            refine e_mv rfl ?_
            refine e_q (q_extract rfl rfl) ?_
            refine e_q (q_extract rfl rfl) ?_
            refine e_q (q_extract rfl rfl) ?_
            refine e_s (s_allocz (cs := encState1 zState1) (by kernel_rfl)) ?_
            rintro _ _ ⟨b16, rfl, rfl⟩
            refine e_as rfl ?_
            refine e_as rfl ?_
            refine l_step (s_s0 wn (s_storep (ws := encState1 ((newF (rvw R1)).2.2)) (cs := encState1 zState1) (cs' := encState1 ((newF (rvw R1)).2.2)) rfl rfl rfl sz_23 (oneState1 _) (by simp [encState1, encState1]) rfl pk_) ?_)
            rintro _ _ ⟨rfl, rfl⟩
            refine l_n ?_
            refine c_seq ?_
            refine d_r 12 [.pts b16 (encState1 ((newF (rvw R1)).2.2)) 23, .pts b11 (encHAct (⟨(acts.getD x.d.1 default).Kind, (acts.getD x.d.1 default).S, (acts.getD x.d.1 default).N, (acts.getD x.d.1 default).Keep, (acts.getD x.d.1 default).B⟩ : HAct)) 40, .pts b9 (encState1 x.d.2.2.2.2.2.2.2.2.2) 23, .pts x.d.2.2.2.2.2.2.2.2.1 (encHard1 (⟨x.d.2.2.2.2.2.2.2.2.2, (some bD)⟩ : Hard1)) 56, RB 5 R1, .row 89 3 a1 R1.length c1 (R1.flatMap encRFile), .pts bD (encDisk1 (⟨room, (some mbD), (saveP room x.d.2.2.2.1 (vw x.d.2.1) x.d.2.2.2.2.2.2.2.2.2 (acts.getD x.d.1 default).S).2.2.1⟩ : Disk1)) 105, MP strB ptV mbD (fm T1), FB 109 5 T1, .pts rD (encRDisk (⟨room, ⟨a1, R1.length, c1⟩, x.d.2.2.2.2.2.2.1, (saveE room x.d.2.2.2.2.2.2.1 x.d.2.2.2.2.2.2.2.1 (rvw x.d.2.2.1) x.d.2.2.2.2.2.2.2.2.2 (acts.getD x.d.1 default).S).2.2⟩ : RDisk)) 87] ?_
            refine d_t 0 rfl wn (q_move rfl) ?_
            refine d_t 1 rfl wn (q_nilCheck rfl) ?_
            refine d_t 2 rfl wn (q_fieldp rfl fo_56_0) ?_
            refine d_t 3 rfl wn (q_loadpa (vs := encState1 x.d.2.2.2.2.2.2.2.2.2) ag_23 rfl pk_ rfl) ?_
            refine d_t 4 rfl wn (q_loadpa (vs := encState1 x.d.2.2.2.2.2.2.2.2.2) ag_23 rfl pk_ rfl) ?_
            refine d_t 5 rfl wn (q_neqst (offs := [0, 1]) (la := [x.d.2.2.2.2.2.2.2.2.2.Term, x.d.2.2.2.2.2.2.2.2.2.Vote]) (lb := [x.d.2.2.2.2.2.2.2.2.2.Term, x.d.2.2.2.2.2.2.2.2.2.Vote]) (by kernel_rfl) rfl rfl (by intro o ho; simp only [List.mem_cons, List.not_mem_nil, or_false] at ho; rcases ho with rfl | rfl <;> exact ⟨_, _, _, rfl, rfl⟩) rfl rfl) ?_
            refine d_t 6 rfl wn (q_move rfl) ?_
            refine Tr.env (.cons (t := 166) (v := .bool false) rfl (congrArg Value.bool (by simp)) (EnvLe.refl _)) ?_
            refine d_t 7 rfl (wy rfl rfl rfl) (q_move rfl) ?_
            refine d_t 9 rfl (wy rfl rfl rfl) (q_loadpa (vs := encState1 ((newF (rvw R1)).2.2)) ag_23 rfl pk_ rfl) ?_
            refine d_1 8 ?_
            refine o_step rfl (s_fnr rfl (wy rfl rfl rfl) Tryz.func25 rfl (by kernel_rfl) rfl sl_ (fun ρ' hL => on2 bD room mbD ((saveP room x.d.2.2.2.1 (vw x.d.2.1) x.d.2.2.2.2.2.2.2.2.2 (acts.getD x.d.1 default).S).2.2.1) T1 (rvw R1) ρ' (fok.2 hal.lim.ok) (al_on hal)) ?_)
            refine d_c ?_
            refine d_t 10 rfl (wy rfl rfl rfl) (q_neqst (offs := [0, 1]) (la := [((newF (rvw R1)).2.2).Term, ((newF (rvw R1)).2.2).Vote]) (lb := [((newF (rvw R1)).2.2).Term, ((newF (rvw R1)).2.2).Vote]) (by kernel_rfl) rfl rfl (by intro o ho; simp only [List.mem_cons, List.not_mem_nil, or_false] at ho; rcases ho with rfl | rfl <;> exact ⟨_, _, _, rfl, rfl⟩) rfl rfl) ?_
            refine d_t 11 rfl wn (q_pick rfl rfl rfl) ?_
            refine d_d ?_
            refine k_then_n ?_
            refine c_sure false rfl (by simp) ?_
            simp only [Bool.false_eq_true, if_true, if_false]
            refine c_skip ?_
            refine k_blk_n ?_
            refine k_then_n ?_
            refine c_region ?_
            refine e_mv rfl ?_
            refine e_q (q_add rfl rfl (by omega) (by omega)) ?_
            refine e_as rfl ?_
            refine l_n ?_
            exact t_nx (⟨(x.d.1 + 1, T1, R1, (saveP room x.d.2.2.2.1 (vw x.d.2.1) x.d.2.2.2.2.2.2.2.2.2 (acts.getD x.d.1 default).S).2.2.1, a1, c1, x.d.2.2.2.2.2.2.1, (saveE room x.d.2.2.2.2.2.2.1 x.d.2.2.2.2.2.2.2.1 (rvw x.d.2.2.1) x.d.2.2.2.2.2.2.2.2.2 (acts.getD x.d.1 default).S).2.2, x.d.2.2.2.2.2.2.2.2.1, x.d.2.2.2.2.2.2.2.2.2), none, 0, none, 0, none, 0⟩ : Lp _) ⟨⟨by show x.d.1 + 1 ≤ _; omega, al_le hal (show _ ≤ 2000 * (x.d.1 + 1) by omega) (show 2000 * (x.d.1 + 1) ≤ _ by omega)⟩, by show acts_n - (x.d.1 + 1) < _; omega⟩ (.c (.c (.c (.c (.c (.c (.nil _)))))))
        · try simp only [decide_eq_true_eq, decide_eq_false_iff_not] at h5
          refine sr ?_
          refine e_q (q_eql rfl rfl) ?_
          refine e_as rfl ?_
          refine l_n ?_
          refine c_cond rfl (fun h8 => ?_) (fun h8 => ?_)
          · try simp only [decide_eq_true_eq, decide_eq_false_iff_not] at h8
            refine sr ?_
            refine e_mv rfl ?_
            refine e_q (q_fieldp rfl fo_40_2) ?_
            refine e_q (q_loadp (v := .int .i64 ((acts.getD x.d.1 default).N)) sc_3 rfl pk_ rfl) ?_
            refine e_fn Tryz.func16 rfl sl_ (fun ρ' hL => Go.Dsk.stop_spec bD room mbD x.d.2.2.2.1 x.d.2.1 (acts.getD x.d.1 default).N ρ') ?_
            rintro _ _ ⟨rfl, rfl⟩
            try simp only [List.cons_append, List.nil_append]
            refine l_n ?_
            refine c_region ?_
            refine e_mv rfl ?_
            refine e_q (q_fieldp rfl fo_40_2) ?_
            refine e_q (q_loadp (v := .int .i64 ((acts.getD x.d.1 default).N)) sc_3 rfl pk_ rfl) ?_
            refine e_fn Tryz.func17 rfl sl_ (fun ρ' hL => Go.Dsk.RA.rstop_spec rD room x.d.2.2.2.2.1 x.d.2.2.2.2.2.1 x.d.2.2.2.2.2.2.1 x.d.2.2.2.2.2.2.2.1 x.d.2.2.1 (acts.getD x.d.1 default).N ρ') ?_
            rintro _ _ ⟨rfl, rfl⟩
            try simp only [List.cons_append, List.nil_append]
            have hal := al_stop hx2 hN9
            refine l_nil ?_
            refine k_blk_n ?_
            refine k_then_n ?_
            refine sr ?_
            refine e_mv rfl ?_
            refine e_fn Tryz.func20 rfl sl_ (fun ρ' hL => Go.HrdR.ron_spec rD room x.d.2.2.2.2.1 x.d.2.2.2.2.2.1 (decide (0 ≤ (acts.getD x.d.1 default).N)) ((acts.getD x.d.1 default).N) x.d.2.2.1 ρ' (hal.sim.vok hal.lim.ok)) ?_
            rintro _ _ ⟨rfl, rfl⟩
            try simp only [List.cons_append, List.nil_append]
            refine e_mv rfl ?_
            refine e_q (q_extract rfl rfl) ?_
            refine e_q (q_extract rfl rfl) ?_
            refine e_q (q_extract rfl rfl) ?_
            refine e_s (s_allocz (cs := encState1 zState1) (by kernel_rfl)) ?_
            rintro _ _ ⟨b16, rfl, rfl⟩
            refine e_as rfl ?_
            refine e_as rfl ?_
            refine l_step (s_s0 wn (s_storep (ws := encState1 ((newF (rvw x.d.2.2.1)).2.2)) (cs := encState1 zState1) (cs' := encState1 ((newF (rvw x.d.2.2.1)).2.2)) rfl rfl rfl sz_23 (oneState1 _) (by simp [encState1, encState1]) rfl pk_) ?_)
            rintro _ _ ⟨rfl, rfl⟩
            refine l_n ?_
            refine c_seq ?_
            refine d_r 12 [.pts b16 (encState1 ((newF (rvw x.d.2.2.1)).2.2)) 23, .pts b11 (encHAct (⟨(acts.getD x.d.1 default).Kind, (acts.getD x.d.1 default).S, (acts.getD x.d.1 default).N, (acts.getD x.d.1 default).Keep, (acts.getD x.d.1 default).B⟩ : HAct)) 40, .pts b9 (encState1 x.d.2.2.2.2.2.2.2.2.2) 23, .pts x.d.2.2.2.2.2.2.2.2.1 (encHard1 (⟨x.d.2.2.2.2.2.2.2.2.2, (some bD)⟩ : Hard1)) 56, RB 5 x.d.2.2.1, .row 89 3 x.d.2.2.2.2.1 x.d.2.2.1.length x.d.2.2.2.2.2.1 (x.d.2.2.1.flatMap encRFile), .pts bD (encDisk1 (⟨room, (some mbD), (if (-1) > (acts.getD x.d.1 default).N then (-1) else (acts.getD x.d.1 default).N)⟩ : Disk1)) 105, MP strB ptV mbD (fm x.d.2.1), FB 109 5 x.d.2.1, .pts rD (encRDisk (⟨room, ⟨x.d.2.2.2.2.1, x.d.2.2.1.length, x.d.2.2.2.2.2.1⟩, (decide (0 ≤ (acts.getD x.d.1 default).N)), (acts.getD x.d.1 default).N⟩ : RDisk)) 87] ?_
            refine d_t 0 rfl wn (q_move rfl) ?_
            refine d_t 1 rfl wn (q_nilCheck rfl) ?_
            refine d_t 2 rfl wn (q_fieldp rfl fo_56_0) ?_
            refine d_t 3 rfl wn (q_loadpa (vs := encState1 x.d.2.2.2.2.2.2.2.2.2) ag_23 rfl pk_ rfl) ?_
            refine d_t 4 rfl wn (q_loadpa (vs := encState1 x.d.2.2.2.2.2.2.2.2.2) ag_23 rfl pk_ rfl) ?_
            refine d_t 5 rfl wn (q_neqst (offs := [0, 1]) (la := [x.d.2.2.2.2.2.2.2.2.2.Term, x.d.2.2.2.2.2.2.2.2.2.Vote]) (lb := [x.d.2.2.2.2.2.2.2.2.2.Term, x.d.2.2.2.2.2.2.2.2.2.Vote]) (by kernel_rfl) rfl rfl (by intro o ho; simp only [List.mem_cons, List.not_mem_nil, or_false] at ho; rcases ho with rfl | rfl <;> exact ⟨_, _, _, rfl, rfl⟩) rfl rfl) ?_
            refine d_t 6 rfl wn (q_move rfl) ?_
            refine Tr.env (.cons (t := 166) (v := .bool false) rfl (congrArg Value.bool (by simp)) (EnvLe.refl _)) ?_
            refine d_t 7 rfl (wy rfl rfl rfl) (q_move rfl) ?_
            refine d_t 9 rfl (wy rfl rfl rfl) (q_loadpa (vs := encState1 ((newF (rvw x.d.2.2.1)).2.2)) ag_23 rfl pk_ rfl) ?_
            refine d_1 8 ?_
            refine o_step rfl (s_fnr rfl (wy rfl rfl rfl) Tryz.func25 rfl (by kernel_rfl) rfl sl_ (fun ρ' hL => on2 bD room mbD (if (-1) > (acts.getD x.d.1 default).N then (-1) else (acts.getD x.d.1 default).N) x.d.2.1 (rvw x.d.2.2.1) ρ' (fok.2 hal.lim.ok) (al_on hal)) ?_)
            refine d_c ?_
            refine d_t 10 rfl (wy rfl rfl rfl) (q_neqst (offs := [0, 1]) (la := [((newF (rvw x.d.2.2.1)).2.2).Term, ((newF (rvw x.d.2.2.1)).2.2).Vote]) (lb := [((newF (rvw x.d.2.2.1)).2.2).Term, ((newF (rvw x.d.2.2.1)).2.2).Vote]) (by kernel_rfl) rfl rfl (by intro o ho; simp only [List.mem_cons, List.not_mem_nil, or_false] at ho; rcases ho with rfl | rfl <;> exact ⟨_, _, _, rfl, rfl⟩) rfl rfl) ?_
            refine d_t 11 rfl wn (q_pick rfl rfl rfl) ?_
            refine d_d ?_
            refine k_then_n ?_
            refine c_sure false rfl (by simp) ?_
            simp only [Bool.false_eq_true, if_true, if_false]
            refine c_skip ?_
            refine k_blk_n ?_
            refine k_then_n ?_
            refine c_region ?_
            refine e_mv rfl ?_
            refine e_q (q_add rfl rfl (by omega) (by omega)) ?_
            refine e_as rfl ?_
            refine l_n ?_
            exact t_nx (⟨(x.d.1 + 1, x.d.2.1, x.d.2.2.1, (if (-1) > (acts.getD x.d.1 default).N then (-1) else (acts.getD x.d.1 default).N), x.d.2.2.2.2.1, x.d.2.2.2.2.2.1, (decide (0 ≤ (acts.getD x.d.1 default).N)), (acts.getD x.d.1 default).N, x.d.2.2.2.2.2.2.2.2.1, x.d.2.2.2.2.2.2.2.2.2), none, 0, none, 0, none, 0⟩ : Lp _) ⟨⟨by show x.d.1 + 1 ≤ _; omega, al_le hal (show _ ≤ 2000 * (x.d.1 + 1) by omega) (show 2000 * (x.d.1 + 1) ≤ _ by omega)⟩, by show acts_n - (x.d.1 + 1) < _; omega⟩ (.c (.c (.c (.c (.c (.c (.nil _)))))))
          · try simp only [decide_eq_true_eq, decide_eq_false_iff_not] at h8
            refine sr ?_
            refine e_q (q_eql rfl rfl) ?_
            refine e_as rfl ?_
            refine l_n ?_
            refine c_cond rfl (fun h9 => ?_) (fun h9 => ?_)
            · try simp only [decide_eq_true_eq, decide_eq_false_iff_not] at h9
              refine sr ?_
              refine e_mv rfl ?_
              refine e_q (q_fieldp rfl fo_40_3) ?_
              refine e_q (q_loadp (v := .slice (((acts.getD x.d.1 default).Keep).a) (((acts.getD x.d.1 default).Keep).xs.length) (((acts.getD x.d.1 default).Keep).cap)) sc_37 rfl pk_ rfl) ?_
              refine e_fn Tryz.func18 rfl sl_ (fun ρ' hL => Go.Dsk.V.crash_spec bD room mbD x.d.2.2.2.1 x.d.2.1 (acts.getD x.d.1 default).Keep.a (acts.getD x.d.1 default).Keep.xs.length (acts.getD x.d.1 default).Keep.cap (acts.getD x.d.1 default).Keep.xs rfl ρ' (fok.2 hx2.lim.ok) (Ro.mono hL.1 hAk.kp)) ?_
              rintro _ _ ⟨T2, rfl, hvT2, rfl⟩
              try simp only [List.cons_append, List.nil_append]
              refine l_n ?_
              refine sr ?_
              refine e_mv rfl ?_
              refine e_q (q_fieldp rfl fo_40_3) ?_
              refine e_q (q_loadp (v := .slice (((acts.getD x.d.1 default).Keep).a) (((acts.getD x.d.1 default).Keep).xs.length) (((acts.getD x.d.1 default).Keep).cap)) sc_37 rfl pk_ rfl) ?_
              refine e_fn Tryz.func19 rfl sl_ (fun ρ' hL => Go.Dsk.RF.rcrash_spec rD room x.d.2.2.2.2.1 x.d.2.2.2.2.2.1 x.d.2.2.2.2.2.2.1 x.d.2.2.2.2.2.2.2.1 x.d.2.2.1 (acts.getD x.d.1 default).Keep.a (acts.getD x.d.1 default).Keep.xs.length (acts.getD x.d.1 default).Keep.cap (acts.getD x.d.1 default).Keep.xs rfl ρ' (hx2.sim.vok hx2.lim.ok) (Ro.mono hL.1 hAk.kp)) ?_
              rintro _ _ ⟨R2, rfl, hwR2, rfl⟩
              try simp only [List.cons_append, List.nil_append]
              have hal := al_to hvT2 (hwR2.trans (by rw [rvw_len])) (al_cr hx2 (acts.getD x.d.1 default).Keep.xs)
              refine l_n ?_
              refine sr ?_
              refine e_mv rfl ?_
              refine e_fn Tryz.func13 rfl sl_ (fun ρ' hL => Go.Hrd.open__spec bD room mbD (-1) T2 ρ' (fok.2 hal.lim.ok)) ?_
              rintro _ _ ⟨h2, rfl, rfl⟩
              try simp only [List.cons_append, List.nil_append]
              rw [al_on hal]
              refine e_mv rfl ?_
              refine e_q (q_extract rfl rfl) ?_
              refine e_q (q_extract rfl rfl) ?_
              refine e_as rfl ?_
              refine e_as rfl ?_
              refine l_n ?_
              refine c_seq ?_
              refine sr ?_
              refine e_mv rfl ?_
              refine e_q (by first | exact q_eqlp rfl rfl Tryz.underlying33 | exact q_eqlp0 rfl rfl Tryz.underlying33) ?_
              refine e_mv rfl ?_
              refine e_qw (wy rfl rfl rfl) (q_move rfl) ?_
              refine e_qw (wy rfl rfl rfl) (q_neq rfl rfl) ?_
              refine e_q (q_pick rfl rfl rfl) ?_
              refine l_n ?_
              refine c_sure false rfl (by rfl) ?_
              simp only [Bool.false_eq_true, if_true, if_false]
              refine c_skip ?_
              refine k_then_n ?_
              refine c_region ?_
              refine e_mv rfl ?_
              refine e_fn Tryz.func20 rfl sl_ (fun ρ' hL => Go.HrdR.ron_spec rD room x.d.2.2.2.2.1 x.d.2.2.2.2.2.1 false x.d.2.2.2.2.2.2.2.1 R2 ρ' (hal.sim.vok hal.lim.ok)) ?_
              rintro _ _ ⟨rfl, rfl⟩
              try simp only [List.cons_append, List.nil_append]
              refine e_mv rfl ?_
              refine e_q (q_extract rfl rfl) ?_
              refine e_q (q_extract rfl rfl) ?_
              refine e_q (q_extract rfl rfl) ?_
              refine l_step (s_s0 wn (s_storep (ws := encState1 ((newF (rvw R2)).2.2)) (cs := encState1 x.d.2.2.2.2.2.2.2.2.2) (cs' := encState1 ((newF (rvw R2)).2.2)) rfl rfl rfl sz_23 (oneState1 _) (by simp [encState1, encState1]) rfl pk_) ?_)
              rintro _ _ ⟨rfl, rfl⟩
              refine l_nil ?_
              refine k_blk_n ?_
              refine k_then_n ?_
              refine sr ?_
              refine e_mv rfl ?_
              refine e_fn Tryz.func20 rfl sl_ (fun ρ' hL => Go.HrdR.ron_spec rD room x.d.2.2.2.2.1 x.d.2.2.2.2.2.1 false x.d.2.2.2.2.2.2.2.1 R2 ρ' (hal.sim.vok hal.lim.ok)) ?_
              rintro _ _ ⟨rfl, rfl⟩
              try simp only [List.cons_append, List.nil_append]
              refine e_mv rfl ?_
              refine e_q (q_extract rfl rfl) ?_
              refine e_q (q_extract rfl rfl) ?_
              refine e_q (q_extract rfl rfl) ?_
              refine e_s (s_allocz (cs := encState1 zState1) (by kernel_rfl)) ?_
              rintro _ _ ⟨b16, rfl, rfl⟩
              refine e_as rfl ?_
              refine e_as rfl ?_
              refine l_step (s_s0 wn (s_storep (ws := encState1 ((newF (rvw R2)).2.2)) (cs := encState1 zState1) (cs' := encState1 ((newF (rvw R2)).2.2)) rfl rfl rfl sz_23 (oneState1 _) (by simp [encState1, encState1]) rfl pk_) ?_)
              rintro _ _ ⟨rfl, rfl⟩
              refine l_n ?_
              refine c_seq ?_
              refine d_r 12 [.pts b16 (encState1 ((newF (rvw R2)).2.2)) 23, .pts h2 (encHard1 (⟨(newF (rvw R2)).2.2, (some bD)⟩ : Hard1)) 56, .pts b11 (encHAct (⟨(acts.getD x.d.1 default).Kind, (acts.getD x.d.1 default).S, (acts.getD x.d.1 default).N, (acts.getD x.d.1 default).Keep, (acts.getD x.d.1 default).B⟩ : HAct)) 40, .pts b9 (encState1 ((newF (rvw R2)).2.2)) 23, .pts x.d.2.2.2.2.2.2.2.2.1 (encHard1 (⟨x.d.2.2.2.2.2.2.2.2.2, (some bD)⟩ : Hard1)) 56, RB 5 R2, .row 89 3 x.d.2.2.2.2.1 R2.length x.d.2.2.2.2.2.1 (R2.flatMap encRFile), .pts bD (encDisk1 (⟨room, (some mbD), (-1)⟩ : Disk1)) 105, MP strB ptV mbD (fm T2), FB 109 5 T2, .pts rD (encRDisk (⟨room, ⟨x.d.2.2.2.2.1, R2.length, x.d.2.2.2.2.2.1⟩, false, x.d.2.2.2.2.2.2.2.1⟩ : RDisk)) 87] ?_
              refine d_t 0 rfl wn (q_move rfl) ?_
              refine d_t 1 rfl wn (q_nilCheck rfl) ?_
              refine d_t 2 rfl wn (q_fieldp rfl fo_56_0) ?_
              refine d_t 3 rfl wn (q_loadpa (vs := encState1 ((newF (rvw R2)).2.2)) ag_23 rfl pk_ rfl) ?_
              refine d_t 4 rfl wn (q_loadpa (vs := encState1 ((newF (rvw R2)).2.2)) ag_23 rfl pk_ rfl) ?_
              refine d_t 5 rfl wn (q_neqst (offs := [0, 1]) (la := [((newF (rvw R2)).2.2).Term, ((newF (rvw R2)).2.2).Vote]) (lb := [((newF (rvw R2)).2.2).Term, ((newF (rvw R2)).2.2).Vote]) (by kernel_rfl) rfl rfl (by intro o ho; simp only [List.mem_cons, List.not_mem_nil, or_false] at ho; rcases ho with rfl | rfl <;> exact ⟨_, _, _, rfl, rfl⟩) rfl rfl) ?_
              refine d_t 6 rfl wn (q_move rfl) ?_
              refine Tr.env (.cons (t := 166) (v := .bool false) rfl (congrArg Value.bool (by simp)) (EnvLe.refl _)) ?_
              refine d_t 7 rfl (wy rfl rfl rfl) (q_move rfl) ?_
              refine d_t 9 rfl (wy rfl rfl rfl) (q_loadpa (vs := encState1 ((newF (rvw R2)).2.2)) ag_23 rfl pk_ rfl) ?_
              refine d_1 8 ?_
              refine o_step rfl (s_fnr rfl (wy rfl rfl rfl) Tryz.func25 rfl (by kernel_rfl) rfl sl_ (fun ρ' hL => on2 bD room mbD (-1) T2 (rvw R2) ρ' (fok.2 hal.lim.ok) (al_on hal)) ?_)
              refine d_c ?_
              refine d_t 10 rfl (wy rfl rfl rfl) (q_neqst (offs := [0, 1]) (la := [((newF (rvw R2)).2.2).Term, ((newF (rvw R2)).2.2).Vote]) (lb := [((newF (rvw R2)).2.2).Term, ((newF (rvw R2)).2.2).Vote]) (by kernel_rfl) rfl rfl (by intro o ho; simp only [List.mem_cons, List.not_mem_nil, or_false] at ho; rcases ho with rfl | rfl <;> exact ⟨_, _, _, rfl, rfl⟩) rfl rfl) ?_
              refine d_t 11 rfl wn (q_pick rfl rfl rfl) ?_
              refine d_d ?_
              refine k_then_n ?_
              refine c_sure false rfl (by simp) ?_
              simp only [Bool.false_eq_true, if_true, if_false]
              refine c_skip ?_
              refine k_blk_n ?_
              refine k_then_n ?_
              refine c_region ?_
              refine e_mv rfl ?_
              refine e_q (q_add rfl rfl (by omega) (by omega)) ?_
              refine e_as rfl ?_
              refine l_n ?_
              exact t_nx (⟨(x.d.1 + 1, T2, R2, -1, x.d.2.2.2.2.1, x.d.2.2.2.2.2.1, false, x.d.2.2.2.2.2.2.2.1, h2, (newF (rvw R2)).2.2), none, 0, none, 0, none, 0⟩ : Lp _) ⟨⟨by show x.d.1 + 1 ≤ _; omega, al_le hal (show _ ≤ 2000 * (x.d.1 + 1) by omega) (show 2000 * (x.d.1 + 1) ≤ _ by omega)⟩, by show acts_n - (x.d.1 + 1) < _; omega⟩ (.c (.c (.c (.c (.c (.c (.nil _)))))))
            · try simp only [decide_eq_true_eq, decide_eq_false_iff_not] at h9
              refine sr ?_
              refine e_q (q_eql rfl rfl) ?_
              refine e_as rfl ?_
              refine l_n ?_
              refine c_cond rfl (fun h11 => ?_) (fun h11 => ?_)
              · try simp only [decide_eq_true_eq, decide_eq_false_iff_not] at h11
                refine sr ?_
                obtain ⟨hm1, hm2, hm3, hm4⟩ := two_mod (acts.getD x.d.1 default).N
                refine e_s (s_buildSlice (cs := ([[104, 97, 114, 100, 45, 48], [104, 97, 114, 100, 45, 49]] : List (List UInt8)).flatMap Go.SL.encStr) Tryz.underlying49 eo_9 rfl rfl rfl rfl (by decide) (by decide)) ?_
                rintro _ _ ⟨b126, rfl, rfl⟩
                refine e_q (q_fieldp rfl fo_40_2) ?_
                refine e_q (q_loadp (v := .int .i64 ((acts.getD x.d.1 default).N)) sc_3 rfl pk_ rfl) ?_
                refine e_q (q_rem rfl rfl (by omega)) ?_
                refine e_q (q_add rfl rfl (by omega) (by omega)) ?_
                refine e_q (q_rem rfl rfl (by omega)) ?_
                refine e_q (q_indexe (((((((acts.getD x.d.1 default).N.tmod 2) + 2)).tmod 2)).toNat) Tryz.underlying49 sz_9 rfl rfl (rd_row pk_) (by decide) (by omega) (by first | assumption | omega | (simp only [List.length_cons, List.length_nil]; omega))) ?_
                refine e_q (q_loade (enc := Go.SL.encStr) (xs := [[104, 97, 114, 100, 45, 48], [104, 97, 114, 100, 45, 49]]) (j := ((((((acts.getD x.d.1 default).N.tmod 2) + 2)).tmod 2)).toNat) (off := 0) sc_9 rfl (rd_row pk_) (fun _ => rfl) (by first | assumption | omega | (simp only [List.length_cons, List.length_nil]; omega)) (by decide) rfl) ?_
                refine e_as rfl ?_
                refine l_n ?_
                refine sr ?_
                have hnl : (([[104, 97, 114, 100, 45, 48], [104, 97, 114, 100, 45, 49]] : List Nm).getD (((((acts.getD x.d.1 default).N.tmod 2) + 2)).tmod 2).toNat default).length ≤ 32 := name_two (by decide) _
                generalize hnm : (([[104, 97, 114, 100, 45, 48], [104, 97, 114, 100, 45, 49]] : List Nm).getD (((((acts.getD x.d.1 default).N.tmod 2) + 2)).tmod 2).toNat default) = nm at hnl ⊢
                have hcl9 : (catS [(acts.getD x.d.1 default).B]).length = (acts.getD x.d.1 default).B.xs.length := by simp [catS]
                refine e_mv rfl ?_
                refine e_mv rfl ?_
                refine e_s (s_buildSlice (cs := ([nm] : List (List UInt8)).flatMap Go.SL.encStr) Tryz.underlying49 eo_9 rfl rfl rfl rfl (by decide) (by decide)) ?_
                rintro _ _ ⟨b136, rfl, rfl⟩
                refine e_fn Tryz.func21 rfl sl_ (fun ρ' hL => Go.Dsk.R.remove_spec bD room mbD x.d.2.2.2.1 x.d.2.1 (some ⟨b136, 0, none⟩) 1 1 [nm] rfl ρ' (fok.2 hx2.lim.ok) (al_cb hx2) (by decide) (hL.row pk_)) ?_
                rintro _ _ ⟨T1, rfl, hvT1, rfl⟩
                try simp only [List.cons_append, List.nil_append]
                refine l_n ?_
                refine sr ?_
                refine e_mv rfl ?_
                refine e_mv rfl ?_
                refine e_s (s_buildSlice (cs := ([nm] : List (List UInt8)).flatMap Go.SL.encStr) Tryz.underlying49 eo_9 rfl rfl rfl rfl (by decide) (by decide)) ?_
                rintro _ _ ⟨b140, rfl, rfl⟩
                refine e_fn Tryz.func22 rfl sl_ (fun ρ' hL => Go.Dsk.RD.rremove_spec rD room x.d.2.2.2.2.1 x.d.2.2.2.2.2.1 x.d.2.2.2.2.2.2.1 x.d.2.2.2.2.2.2.2.1 x.d.2.2.1 (some ⟨b140, 0, none⟩) 1 1 [nm] rfl ρ' (hx2.sim.vok hx2.lim.ok) hx2.ce hx2.cb (hL.row pk_)) ?_
                rintro _ _ ⟨a1, c1, R1, rfl, hwR1, rfl⟩
                try simp only [List.cons_append, List.nil_append]
                have hal1 := al_to hvT1 hwR1 (al_rem hx2 [nm])
                have hlm1 := hal1.lim.us
                refine l_n ?_
                refine sr ?_
                refine e_mv rfl ?_
                refine e_mv rfl ?_
                refine e_q (q_fieldp rfl fo_40_4) ?_
                refine e_q (q_loadp (v := .slice (((acts.getD x.d.1 default).B).a) (((acts.getD x.d.1 default).B).xs.length) (((acts.getD x.d.1 default).B).cap)) sc_38 rfl pk_ rfl) ?_
                refine e_s (s_buildSlice (cs := ([((acts.getD x.d.1 default).B)] : List (SL UInt8)).flatMap encSL) Tryz.underlying54 eo_38 rfl rfl rfl rfl (by decide) (by decide)) ?_
                rintro _ _ ⟨b146, rfl, rfl⟩
                refine e_fn Tryz.func23 rfl sl_ (fun ρ' hL => Go.Dsk.Y.append_spec bD room mbD (decC x.d.2.2.2.1) T1 nm (some ⟨b146, 0, none⟩) 1 1 [(acts.getD x.d.1 default).B] rfl ρ' (fok.2 hal1.lim.ok) (by rw [← used_vw]; exact hal1.us) hr (al_cb hal1) (Nat.le_trans hnl (by decide)) (by decide) (by rw [← used_vw]; show _ + (catS [(acts.getD x.d.1 default).B]).length ≤ _; rw [hcl9]; omega) (hL.row pk_) (by intro q hq; rw [List.mem_singleton.1 hq]; exact Ro.mono hL.1 hAk.bb)) ?_
                rintro _ _ ⟨T2, rfl, hvT2, rfl⟩
                try simp only [List.cons_append, List.nil_append]
                refine l_n ?_
                refine c_region ?_
                refine e_mv rfl ?_
                refine e_mv rfl ?_
                refine e_q (q_fieldp rfl fo_40_4) ?_
                refine e_q (q_loadp (v := .slice (((acts.getD x.d.1 default).B).a) (((acts.getD x.d.1 default).B).xs.length) (((acts.getD x.d.1 default).B).cap)) sc_38 rfl pk_ rfl) ?_
                refine e_s (s_buildSlice (cs := ([((acts.getD x.d.1 default).B)] : List (SL UInt8)).flatMap encSL) Tryz.underlying54 eo_38 rfl rfl rfl rfl (by decide) (by decide)) ?_
                rintro _ _ ⟨b152, rfl, rfl⟩
                refine e_fn Tryz.func24 rfl sl_ (fun ρ' hL => Go.Dsk.RE.rappend_spec rD room a1 c1 x.d.2.2.2.2.2.2.1 (decR x.d.2.2.2.2.2.2.1 x.d.2.2.2.2.2.2.2.1) R1 nm (some ⟨b152, 0, none⟩) 1 1 [(acts.getD x.d.1 default).B] rfl ρ' (hal1.sim.vok hal1.lim.ok) hal1.ce hal1.cb (by rw [← usedR_vw, ← hal1.sim.used]; exact hal1.us) hr (Nat.le_trans hnl (by decide)) (by decide) (by rw [← usedR_vw, ← hal1.sim.used]; show _ + (catS [(acts.getD x.d.1 default).B]).length ≤ _; rw [hcl9]; omega) (hL.row pk_) (by intro q hq; rw [List.mem_singleton.1 hq]; exact Ro.mono hL.1 hAk.bb)) ?_
                rintro _ _ ⟨a2, c2, R2, rfl, hwR2, rfl⟩
                try simp only [List.cons_append, List.nil_append]
                have hal := al_to hvT2 hwR2 (al_app (b := (catS [(acts.getD x.d.1 default).B])) hal1 (by rw [hcl9]; omega))
                rw [hcl9] at hal
                refine l_nil ?_
                refine k_blk_n ?_
                refine k_then_n ?_
                refine sr ?_
                refine e_mv rfl ?_
                refine e_fn Tryz.func20 rfl sl_ (fun ρ' hL => Go.HrdR.ron_spec rD room a2 c2 x.d.2.2.2.2.2.2.1 (decR x.d.2.2.2.2.2.2.1 (decR x.d.2.2.2.2.2.2.1 x.d.2.2.2.2.2.2.2.1)) R2 ρ' (hal.sim.vok hal.lim.ok)) ?_
                rintro _ _ ⟨rfl, rfl⟩
                try simp only [List.cons_append, List.nil_append]
                refine e_mv rfl ?_
                refine e_q (q_extract rfl rfl) ?_
                refine e_q (q_extract rfl rfl) ?_
                refine e_q (q_extract rfl rfl) ?_
                refine e_s (s_allocz (cs := encState1 zState1) (by kernel_rfl)) ?_
                rintro _ _ ⟨b16, rfl, rfl⟩
                refine e_as rfl ?_
                refine e_as rfl ?_
                refine l_step (s_s0 wn (s_storep (ws := encState1 ((newF (rvw R2)).2.2)) (cs := encState1 zState1) (cs' := encState1 ((newF (rvw R2)).2.2)) rfl rfl rfl sz_23 (oneState1 _) (by simp [encState1, encState1]) rfl pk_) ?_)
                rintro _ _ ⟨rfl, rfl⟩
                refine l_n ?_
                refine c_seq ?_
                refine d_r 12 [.pts b16 (encState1 ((newF (rvw R2)).2.2)) 23, .row 38 1 (some ⟨b152, 0, none⟩) 1 1 ([((acts.getD x.d.1 default).B)].flatMap encSL), .row 38 1 (some ⟨b146, 0, none⟩) 1 1 ([((acts.getD x.d.1 default).B)].flatMap encSL), .row 9 1 (some ⟨b140, 0, none⟩) 1 1 ([nm].flatMap Go.SL.encStr), .row 9 1 (some ⟨b136, 0, none⟩) 1 1 ([nm].flatMap Go.SL.encStr), .row 9 1 (some ⟨b126, 0, none⟩) 2 2 ([[104, 97, 114, 100, 45, 48], [104, 97, 114, 100, 45, 49]].flatMap Go.SL.encStr), .pts b11 (encHAct (⟨(acts.getD x.d.1 default).Kind, (acts.getD x.d.1 default).S, (acts.getD x.d.1 default).N, (acts.getD x.d.1 default).Keep, (acts.getD x.d.1 default).B⟩ : HAct)) 40, .pts b9 (encState1 x.d.2.2.2.2.2.2.2.2.2) 23, .pts x.d.2.2.2.2.2.2.2.2.1 (encHard1 (⟨x.d.2.2.2.2.2.2.2.2.2, (some bD)⟩ : Hard1)) 56, RB 5 R2, .row 89 3 a2 R2.length c2 (R2.flatMap encRFile), .pts bD (encDisk1 (⟨room, (some mbD), (decC (decC x.d.2.2.2.1))⟩ : Disk1)) 105, MP strB ptV mbD (fm T2), FB 109 5 T2, .pts rD (encRDisk (⟨room, ⟨a2, R2.length, c2⟩, x.d.2.2.2.2.2.2.1, (decR x.d.2.2.2.2.2.2.1 (decR x.d.2.2.2.2.2.2.1 x.d.2.2.2.2.2.2.2.1))⟩ : RDisk)) 87] ?_
                refine d_t 0 rfl wn (q_move rfl) ?_
                refine d_t 1 rfl wn (q_nilCheck rfl) ?_
                refine d_t 2 rfl wn (q_fieldp rfl fo_56_0) ?_
                refine d_t 3 rfl wn (q_loadpa (vs := encState1 x.d.2.2.2.2.2.2.2.2.2) ag_23 rfl pk_ rfl) ?_
                refine d_t 4 rfl wn (q_loadpa (vs := encState1 x.d.2.2.2.2.2.2.2.2.2) ag_23 rfl pk_ rfl) ?_
                refine d_t 5 rfl wn (q_neqst (offs := [0, 1]) (la := [x.d.2.2.2.2.2.2.2.2.2.Term, x.d.2.2.2.2.2.2.2.2.2.Vote]) (lb := [x.d.2.2.2.2.2.2.2.2.2.Term, x.d.2.2.2.2.2.2.2.2.2.Vote]) (by kernel_rfl) rfl rfl (by intro o ho; simp only [List.mem_cons, List.not_mem_nil, or_false] at ho; rcases ho with rfl | rfl <;> exact ⟨_, _, _, rfl, rfl⟩) rfl rfl) ?_
                refine d_t 6 rfl wn (q_move rfl) ?_
                refine Tr.env (.cons (t := 166) (v := .bool false) rfl (congrArg Value.bool (by simp)) (EnvLe.refl _)) ?_
                refine d_t 7 rfl (wy rfl rfl rfl) (q_move rfl) ?_
                refine d_t 9 rfl (wy rfl rfl rfl) (q_loadpa (vs := encState1 ((newF (rvw R2)).2.2)) ag_23 rfl pk_ rfl) ?_
                refine d_1 8 ?_
                refine o_step rfl (s_fnr rfl (wy rfl rfl rfl) Tryz.func25 rfl (by kernel_rfl) rfl sl_ (fun ρ' hL => on2 bD room mbD (decC (decC x.d.2.2.2.1)) T2 (rvw R2) ρ' (fok.2 hal.lim.ok) (al_on hal)) ?_)
                refine d_c ?_
                refine d_t 10 rfl (wy rfl rfl rfl) (q_neqst (offs := [0, 1]) (la := [((newF (rvw R2)).2.2).Term, ((newF (rvw R2)).2.2).Vote]) (lb := [((newF (rvw R2)).2.2).Term, ((newF (rvw R2)).2.2).Vote]) (by kernel_rfl) rfl rfl (by intro o ho; simp only [List.mem_cons, List.not_mem_nil, or_false] at ho; rcases ho with rfl | rfl <;> exact ⟨_, _, _, rfl, rfl⟩) rfl rfl) ?_
                refine d_t 11 rfl wn (q_pick rfl rfl rfl) ?_
                refine d_d ?_
                refine k_then_n ?_
                refine c_sure false rfl (by simp) ?_
                simp only [Bool.false_eq_true, if_true, if_false]
                refine c_skip ?_
                refine k_blk_n ?_
                refine k_then_n ?_
                refine c_region ?_
                refine e_mv rfl ?_
                refine e_q (q_add rfl rfl (by omega) (by omega)) ?_
                refine e_as rfl ?_
                refine l_n ?_
                exact t_nx (⟨(x.d.1 + 1, T2, R2, (decC (decC x.d.2.2.2.1)), a2, c2, x.d.2.2.2.2.2.2.1, (decR x.d.2.2.2.2.2.2.1 (decR x.d.2.2.2.2.2.2.1 x.d.2.2.2.2.2.2.2.1)), x.d.2.2.2.2.2.2.2.2.1, x.d.2.2.2.2.2.2.2.2.2), none, 0, none, 0, none, 0⟩ : Lp _) ⟨⟨by show x.d.1 + 1 ≤ _; omega, al_le hal (show _ ≤ 2000 * (x.d.1 + 1) by omega) (show 2000 * (x.d.1 + 1) ≤ _ by omega)⟩, by show acts_n - (x.d.1 + 1) < _; omega⟩ (.c (.c (.c (.c (.c (.c (.nil _)))))))
              · try simp only [decide_eq_true_eq, decide_eq_false_iff_not] at h11
                have hal := hx2
                refine c_skip ?_
                refine k_blk_n ?_
                refine k_then_n ?_
                refine sr ?_
                refine e_mv rfl ?_
                refine e_fn Tryz.func20 rfl sl_ (fun ρ' hL => Go.HrdR.ron_spec rD room x.d.2.2.2.2.1 x.d.2.2.2.2.2.1 x.d.2.2.2.2.2.2.1 x.d.2.2.2.2.2.2.2.1 x.d.2.2.1 ρ' (hal.sim.vok hal.lim.ok)) ?_
                rintro _ _ ⟨rfl, rfl⟩
                try simp only [List.cons_append, List.nil_append]
                refine e_mv rfl ?_
                refine e_q (q_extract rfl rfl) ?_
                refine e_q (q_extract rfl rfl) ?_
                refine e_q (q_extract rfl rfl) ?_
                refine e_s (s_allocz (cs := encState1 zState1) (by kernel_rfl)) ?_
                rintro _ _ ⟨b16, rfl, rfl⟩
                refine e_as rfl ?_
                refine e_as rfl ?_
                refine l_step (s_s0 wn (s_storep (ws := encState1 ((newF (rvw x.d.2.2.1)).2.2)) (cs := encState1 zState1) (cs' := encState1 ((newF (rvw x.d.2.2.1)).2.2)) rfl rfl rfl sz_23 (oneState1 _) (by simp [encState1, encState1]) rfl pk_) ?_)
                rintro _ _ ⟨rfl, rfl⟩
                refine l_n ?_
                refine c_seq ?_
                refine d_r 12 [.pts b16 (encState1 ((newF (rvw x.d.2.2.1)).2.2)) 23, .pts b11 (encHAct (⟨(acts.getD x.d.1 default).Kind, (acts.getD x.d.1 default).S, (acts.getD x.d.1 default).N, (acts.getD x.d.1 default).Keep, (acts.getD x.d.1 default).B⟩ : HAct)) 40, .pts b9 (encState1 x.d.2.2.2.2.2.2.2.2.2) 23, .pts x.d.2.2.2.2.2.2.2.2.1 (encHard1 (⟨x.d.2.2.2.2.2.2.2.2.2, (some bD)⟩ : Hard1)) 56, RB 5 x.d.2.2.1, .row 89 3 x.d.2.2.2.2.1 x.d.2.2.1.length x.d.2.2.2.2.2.1 (x.d.2.2.1.flatMap encRFile), .pts bD (encDisk1 (⟨room, (some mbD), x.d.2.2.2.1⟩ : Disk1)) 105, MP strB ptV mbD (fm x.d.2.1), FB 109 5 x.d.2.1, .pts rD (encRDisk (⟨room, ⟨x.d.2.2.2.2.1, x.d.2.2.1.length, x.d.2.2.2.2.2.1⟩, x.d.2.2.2.2.2.2.1, x.d.2.2.2.2.2.2.2.1⟩ : RDisk)) 87] ?_
                refine d_t 0 rfl wn (q_move rfl) ?_
                refine d_t 1 rfl wn (q_nilCheck rfl) ?_
                refine d_t 2 rfl wn (q_fieldp rfl fo_56_0) ?_
                refine d_t 3 rfl wn (q_loadpa (vs := encState1 x.d.2.2.2.2.2.2.2.2.2) ag_23 rfl pk_ rfl) ?_
                refine d_t 4 rfl wn (q_loadpa (vs := encState1 x.d.2.2.2.2.2.2.2.2.2) ag_23 rfl pk_ rfl) ?_
                refine d_t 5 rfl wn (q_neqst (offs := [0, 1]) (la := [x.d.2.2.2.2.2.2.2.2.2.Term, x.d.2.2.2.2.2.2.2.2.2.Vote]) (lb := [x.d.2.2.2.2.2.2.2.2.2.Term, x.d.2.2.2.2.2.2.2.2.2.Vote]) (by kernel_rfl) rfl rfl (by intro o ho; simp only [List.mem_cons, List.not_mem_nil, or_false] at ho; rcases ho with rfl | rfl <;> exact ⟨_, _, _, rfl, rfl⟩) rfl rfl) ?_
                refine d_t 6 rfl wn (q_move rfl) ?_
                refine Tr.env (.cons (t := 166) (v := .bool false) rfl (congrArg Value.bool (by simp)) (EnvLe.refl _)) ?_
                refine d_t 7 rfl (wy rfl rfl rfl) (q_move rfl) ?_
                refine d_t 9 rfl (wy rfl rfl rfl) (q_loadpa (vs := encState1 ((newF (rvw x.d.2.2.1)).2.2)) ag_23 rfl pk_ rfl) ?_
                refine d_1 8 ?_
                refine o_step rfl (s_fnr rfl (wy rfl rfl rfl) Tryz.func25 rfl (by kernel_rfl) rfl sl_ (fun ρ' hL => on2 bD room mbD x.d.2.2.2.1 x.d.2.1 (rvw x.d.2.2.1) ρ' (fok.2 hal.lim.ok) (al_on hal)) ?_)
                refine d_c ?_
                refine d_t 10 rfl (wy rfl rfl rfl) (q_neqst (offs := [0, 1]) (la := [((newF (rvw x.d.2.2.1)).2.2).Term, ((newF (rvw x.d.2.2.1)).2.2).Vote]) (lb := [((newF (rvw x.d.2.2.1)).2.2).Term, ((newF (rvw x.d.2.2.1)).2.2).Vote]) (by kernel_rfl) rfl rfl (by intro o ho; simp only [List.mem_cons, List.not_mem_nil, or_false] at ho; rcases ho with rfl | rfl <;> exact ⟨_, _, _, rfl, rfl⟩) rfl rfl) ?_
                refine d_t 11 rfl wn (q_pick rfl rfl rfl) ?_
                refine d_d ?_
                refine k_then_n ?_
                refine c_sure false rfl (by simp) ?_
                simp only [Bool.false_eq_true, if_true, if_false]
                refine c_skip ?_
                refine k_blk_n ?_
                refine k_then_n ?_
                refine c_region ?_
                refine e_mv rfl ?_
                refine e_q (q_add rfl rfl (by omega) (by omega)) ?_
                refine e_as rfl ?_
                refine l_n ?_
                exact t_nx (⟨(x.d.1 + 1, x.d.2.1, x.d.2.2.1, x.d.2.2.2.1, x.d.2.2.2.2.1, x.d.2.2.2.2.2.1, x.d.2.2.2.2.2.2.1, x.d.2.2.2.2.2.2.2.1, x.d.2.2.2.2.2.2.2.2.1, x.d.2.2.2.2.2.2.2.2.2), none, 0, none, 0, none, 0⟩ : Lp _) ⟨⟨by show x.d.1 + 1 ≤ _; omega, al_le hal (show _ ≤ 2000 * (x.d.1 + 1) by omega) (show 2000 * (x.d.1 + 1) ≤ _ by omega)⟩, by show acts_n - (x.d.1 + 1) < _; omega⟩ (.c (.c (.c (.c (.c (.c (.nil _)))))))
    · try simp only [decide_eq_true_eq, decide_eq_false_iff_not] at h3
      refine c_exit ?_
      refine k_then_x ?_
      refine k_then_x ?_
      refine k_blk_x ?_
      refine k_then_n ?_
      refine sr ?_
      refine e_as rfl ?_
      refine l_n ?_
      refine c_ret ?_
      exact t_rt [] rfl (.tmp rfl .nil) rfl ⟨rfl, boole (by rfl), rfl⟩ (by (repeat refine Ent.skip ?_); exact Ent.refl _)
end Go.HrdS

/-
  Walked.
-/
import Derived.Test.YtehaoafnobnneaaGreatDoorHrdD
import Derived.Test.YtehaoafnobnneaaGreatDoorHrdX
import Derived.Test.YtehaoafnobnneaaGreatDoorProg
set_option maxRecDepth 100000
set_option maxHeartbeats 4000000
set_option linter.unusedSimpArgs false
set_option linter.unusedVariables false
namespace Go.HrdL
open Go Go.SL Go.Proofs Go.Mou Go.Dsk Go.Hrd
attribute [local irreducible] Go.SL.Ent
theorem sz_3 : sizeIs Tryz.prog 3 = some 1 := by kernel_rfl
theorem sz_23 : sizeIs Tryz.prog 23 = some 2 := by kernel_rfl

theorem ci_spec (b mb : Nat) (calls : Int) (T : FT) (h : Nat) (st s : State1) (L : List State1) (i : Nat) (ρ : Hp) (hC : CI (vw T) st L i calls) (hi : i < 60) :
    Spec0 Tryz.prog 15 #[.pointer (some ⟨h, 0, none⟩), .agg (encState1 s).toArray] ρ [.pts h (encHard1 (⟨st, (some b)⟩ : Hard1)) 56, .pts b (encDisk1 (⟨10000, (some mb), calls⟩ : Disk1)) 105, MP strB ptV mb (fm T), FB 109 5 T] (fun v Γ' =>
      (∃ T' c', v = .int .i64 0 ∧ Γ' = [.pts h (encHard1 (⟨s, (some b)⟩ : Hard1)) 56, .pts b (encDisk1 (⟨10000, (some mb), c'⟩ : Disk1)) 105, MP strB ptV mb (fm T'), FB 109 5 T'] ∧ CI (vw T') s (L ++ [s]) (i + 1) c') ∨ (∃ T' c', v = .int .i64 2 ∧ Γ' = [.pts h (encHard1 (⟨st, (some b)⟩ : Hard1)) 56, .pts b (encDisk1 (⟨10000, (some mb), c'⟩ : Disk1)) 105, MP strB ptV mb (fm T'), FB 109 5 T'] ∧ CI (vw T') st L (i + 1) c') ∨
      (∃ T' c', v = .int .i64 32 ∧ Γ' = [.pts h (encHard1 (⟨st, (some b)⟩ : Hard1)) 56, .pts b (encDisk1 (⟨10000, (some mb), c'⟩ : Disk1)) 105, MP strB ptV mb (fm T'), FB 109 5 T'] ∧ FOk T' ∧ CS (vw T') st s L (i + 1))) := by
  refine spec0_mono (Go.Hrd.save_spec b 10000 mb calls T h st s ρ hC.fok (by have h9 := hC.usd; omega) (by decide) hC.cb (by have h9 := hC.usd; omega)) ?_
  rintro v Γ' ⟨T', rfl, hv, rfl⟩
  rcases ci_save hC hi hv with ⟨h1, h2, h3⟩ | ⟨h1, h2, h3⟩ | ⟨h1, h2, h3⟩
  · exact .inl ⟨T', _, by rw [h1], by rw [h2], h3⟩
  · exact .inr (.inl ⟨T', _, by rw [h1], by rw [h2], h3⟩)
  · exact .inr (.inr ⟨T', _, by rw [h1], by rw [h2], h3⟩)

theorem crash_spec (states_a : Option Addr) (states_n states_c : Nat) (states : List State1) (hstates_n : states.length = states_n) (stops_a : Option Addr) (stops_n stops_c : Nat) (stops : List Int) (hstops_n : stops.length = stops_n) (keep_a : Option Addr) (keep_n keep_c : Nat) (keep : List Int) (hkeep_n : keep.length = keep_n) (ρ : Hp) (hrs : Ro ρ 2 states_a states_n states_c (states.flatMap encState1)) (hro : Ro ρ 1 stops_a stops_n stops_c (stops.flatMap encI)) (hrk : Ro ρ 1 keep_a keep_n keep_c (keep.flatMap encI)) : Spec0 Tryz.prog 5 #[.slice states_a states_n states_c, .slice stops_a stops_n stops_c, .slice keep_a keep_n keep_c] ρ [] (fun v Γ' => v = .bool true ∧ Γ' = []) := by
  refine spec_of (n := 164) (vs := [_, _, _]) (σ := [(0, _), (1, _), (2, _)]) Tryz.func5 rfl rfl rfl rfl fun E Δ => ?_
  rw [List.nil_append]
  refine sr ?_
  refine e_as rfl ?_
  refine l_n ?_
  refine c_seq ?_
  refine sr ?_
  refine l_step (s_fnq rfl wn Tryz.func9 rfl (by kernel_rfl) rfl (fun ρ' hL => awake_spec ρ') ?_)
  refine e_q (q_not rfl) ?_
  refine e_mv rfl ?_
  refine e_qw (wy rfl rfl rfl) (q_move rfl) ?_
  refine e_qw (wy rfl rfl rfl) (q_len Tryz.underlying59 rfl) ?_
  refine e_qw (wy rfl rfl rfl) (q_gtr rfl rfl) ?_
  refine e_q (q_pick rfl rfl rfl) ?_
  refine e_mv rfl ?_
  refine l_step (s_qg rfl (ask_f rfl rfl) (b := (!(decide (60 < (states_n : Int))))) (fun hb => q_move rfl) ?_)
  refine l_step (s_qg rfl (ask_f rfl rfl) (b := (!(decide (60 < (states_n : Int))))) (fun hb => OpQ.env (.cons rfl (gd_t hb) (.nil _) : EnvLe [(26, .slice keep_a keep_n keep_c)] _) (q_len Tryz.underlying37 rfl)) ?_)
  refine l_step (s_qg rfl (ask_f rfl rfl) (b := (!(decide (60 < (states_n : Int))))) (fun hb => OpQ.env (.cons rfl (gd_t hb) (.nil _) : EnvLe [(27, .int .i64 (keep_n : Int))] _) (q_gtr rfl rfl)) ?_)
  refine e_q (q_pick_or rfl rfl rfl (fun h => by first | (rw [h]; rfl) | exact congrArg not h)) ?_
  refine l_n ?_
  refine c_cond rfl (fun h0 => ?_) (fun h0 => ?_)
  · try simp only [decide_eq_true_eq, decide_eq_false_iff_not, Bool.or_eq_true, Bool.or_eq_false_iff] at h0
    refine sr ?_
    refine l_step (s_fnq rfl wn Tryz.func9 rfl (by kernel_rfl) rfl (fun ρ' hL => awake_spec ρ') ?_)
    refine e_as rfl ?_
    refine l_n ?_
    refine c_ret ?_
    refine k_then_r ?_
    exact t_rt [] rfl (.tmp rfl .nil) rfl ⟨rfl, boole (by rfl), rfl⟩ (by (repeat refine Ent.skip ?_); exact Ent.refl _)
  · try simp only [decide_eq_true_eq, decide_eq_false_iff_not, Bool.or_eq_true, Bool.or_eq_false_iff] at h0
    refine c_skip ?_
    refine k_then_n ?_
    refine sr ?_
    refine e_fn Tryz.func12 rfl sl_ (fun ρ' hL => made_spec 10000 ρ' (by omega)) ?_
    rintro _ _ ⟨bD, mbD, rD, rfl, rfl⟩
    try simp only [List.cons_append, List.nil_append]
    have hG0 : Gd (vw []) ⟨0, -1⟩ 0 n0 := gd_nil
    refine e_mv rfl ?_
    refine e_q (q_extract rfl rfl) ?_
    refine e_q (q_extract rfl rfl) ?_
    refine e_as rfl ?_
    refine e_as rfl ?_
    refine l_n ?_
    refine c_seq ?_
    refine sr ?_
    refine e_mv rfl ?_
    refine e_q (by first | exact q_eqlp rfl rfl Tryz.underlying29 | exact q_eqlp0 rfl rfl Tryz.underlying29) ?_
    refine l_n ?_
    refine c_sure false rfl (by rfl) ?_
    simp only [Bool.false_eq_true, if_true, if_false]
    refine c_skip ?_
    refine k_then_n ?_
    refine sr ?_
    refine e_mv rfl ?_
    refine e_fn Tryz.func13 rfl sl_ (fun ρ' hL => open__spec bD 10000 mbD (-1) [] ρ' hG0.fok) ?_
    rintro _ _ ⟨h1, rfl, rfl⟩
    try simp only [List.cons_append, List.nil_append]
    rw [hG0.on]
    refine e_mv rfl ?_
    refine e_q (q_extract rfl rfl) ?_
    refine e_q (q_extract rfl rfl) ?_
    refine e_as rfl ?_
    refine e_as rfl ?_
    refine l_n ?_
    refine c_seq ?_
    refine sr ?_
    refine e_mv rfl ?_
    refine e_q (by first | exact q_eqlp rfl rfl Tryz.underlying33 | exact q_eqlp0 rfl rfl Tryz.underlying33) ?_
    refine l_n ?_
    refine c_sure false rfl (by rfl) ?_
    simp only [Bool.false_eq_true, if_true, if_false]
    refine c_skip ?_
    refine k_then_n ?_
    refine sr ?_
    refine e_q (q_build (cs := encState1 (⟨0, (-1)⟩ : State1)) zc_23 pl_23 rfl rfl) ?_
    refine e_s (s_buildSlice (cs := ([(⟨0, (-1)⟩ : State1)] : List State1).flatMap encState1) Tryz.underlying59 eo_23 rfl rfl rfl rfl (by decide) (by decide)) ?_
    rintro _ _ ⟨b45, rfl, rfl⟩
    refine e_as rfl ?_
    refine l_n ?_
    refine sr ?_
    refine e_as rfl ?_
    refine l_n ?_
    refine c_seq ?_
    refine sr ?_
    refine e_as rfl ?_
    refine l_n ?_
    refine c_block ?_
    refine Tr.env (σ' := [(0, _), (1, _), (2, _), (7, _), (9, _), (11, _), (12, _), (13, _)]) ev_ ?_
    refine t_loop (ι := Lp (Nat × FT × Int × Nat × State1 × List State1)) (fun x => x.d.1 ≤ states_n ∧ CI (vw x.d.2.1) x.d.2.2.2.2.1 x.d.2.2.2.2.2 x.d.1 x.d.2.2.1) (fun x => states_n - x.d.1) (fun x => [(0, .slice states_a states_n states_c), (1, .slice stops_a stops_n stops_c), (2, .slice keep_a keep_n keep_c), (7, .pointer (some ⟨bD, 0, none⟩)), (9, .pointer (some ⟨x.d.2.2.2.1, 0, none⟩)), (11, .slice x.a1 x.d.2.2.2.2.2.length x.c1), (12, .slice none 0 0), (13, .int .i64 (x.d.1 : Int))]) (fun x => .row 23 2 x.a1 x.d.2.2.2.2.2.length x.c1 (x.d.2.2.2.2.2.flatMap encState1) :: .pts x.d.2.2.2.1 (encHard1 (⟨x.d.2.2.2.2.1, (some bD)⟩ : Hard1)) 56 :: .pts bD (encDisk1 (⟨10000, (some mbD), x.d.2.2.1⟩ : Disk1)) 105 :: MP strB ptV mbD (fm x.d.2.1) :: FB 109 5 x.d.2.1 :: .pts rD (encRDisk (⟨10000, ⟨none, 0, 0⟩, false, 0⟩ : RDisk)) 87 :: Δ) (⟨(0, [], -1, h1, (⟨0, -1⟩ : State1), [(⟨0, -1⟩ : State1)]), (some ⟨b45, 0, none⟩), 1, none, 0, none, 0⟩ : Lp _) ⟨Nat.zero_le _, ci_nil⟩ ?_ ?_ ?_
    · exact .c (.c (.c (.c (.c (.c (.c (.c (.nil _))))))))
    · exact en_
    intro x hx
    obtain ⟨hx1, hx2⟩ := hx
    have hll := hx2.ll
    have hne := hx2.ne
    have hla := hx2.la
    refine c_seq ?_
    refine sr ?_
    refine e_mv rfl ?_
    refine e_mv rfl ?_
    refine e_q (q_len Tryz.underlying59 rfl) ?_
    refine e_q (q_lss rfl rfl) ?_
    refine l_n ?_
    refine c_cond rfl (fun h3 => ?_) (fun h3 => ?_)
    · try simp only [decide_eq_true_eq, decide_eq_false_iff_not] at h3
      refine c_skip ?_
      refine k_then_n ?_
      refine c_seq ?_
      refine c_block ?_
      refine c_seq ?_
      refine sr ?_
      refine e_mv rfl ?_
      refine e_mv rfl ?_
      refine e_q (q_len Tryz.underlying37 rfl) ?_
      refine e_q (q_lss rfl rfl) ?_
      refine e_mv rfl ?_
      refine l_step (s_qg rfl (ask_t rfl rfl) (b := (decide ((x.d.1 : Int) < (stops_n : Int)))) (fun hb => q_move rfl) ?_)
      refine l_step (s_qg rfl (ask_t rfl rfl) (b := (decide ((x.d.1 : Int) < (stops_n : Int)))) (fun hb => q_move rfl) ?_)
      refine l_step (s_qg rfl (ask_t rfl rfl) (b := (decide ((x.d.1 : Int) < (stops_n : Int)))) (fun hb => OpQ.env (.cons rfl (gd_t hb) (.cons rfl (gd_t hb) (.nil _)) : EnvLe [(57, .slice stops_a stops_n stops_c), (58, .int .i64 (x.d.1 : Int))] _) (q_indexe x.d.1 Tryz.underlying37 sz_3 rfl rfl (by first | assumption | exact rd_ro (by assumption) | exact rd_row pk_) (by decide) rfl (by first | assumption | omega | (have hb2 := hb; (try simp only [Bool.and_eq_true, Bool.or_eq_true, Bool.not_eq_true', Bool.and_eq_false_iff, Bool.or_eq_false_iff, Bool.not_eq_false', decide_eq_true_eq, decide_eq_false_iff_not, Bool.not_eq_eq_eq_not, Bool.not_true, Bool.not_false, Bool.not_eq_true, Bool.not_eq_false, beq_iff_eq, bne_iff_ne, ne_eq, Decidable.not_not] at hb2); omega) | (simp only [List.length_cons, List.length_nil]; omega)))) ?_)
      refine l_step (s_qg rfl (ask_t rfl rfl) (b := (decide ((x.d.1 : Int) < (stops_n : Int)))) (fun hb => OpQ.env (.cons rfl (gd_t hb) (.nil _) : EnvLe [(59, pe stops_a x.d.1 1 0)] _) (q_loade (enc := encI) (xs := stops) (j := x.d.1) (off := 0) sc_3 rfl (by first | assumption | exact rd_ro (by assumption) | exact rd_row pk_) (fun _ => rfl) (by first | assumption | omega | (have hb2 := hb; (try simp only [Bool.and_eq_true, Bool.or_eq_true, Bool.not_eq_true', Bool.and_eq_false_iff, Bool.or_eq_false_iff, Bool.not_eq_false', decide_eq_true_eq, decide_eq_false_iff_not, Bool.not_eq_eq_eq_not, Bool.not_true, Bool.not_false, Bool.not_eq_true, Bool.not_eq_false, beq_iff_eq, bne_iff_ne, ne_eq, Decidable.not_not] at hb2); omega) | (simp only [List.length_cons, List.length_nil]; omega)) (by decide) rfl)) ?_)
      refine l_step (s_qg rfl (ask_t rfl rfl) (b := (decide ((x.d.1 : Int) < (stops_n : Int)))) (fun hb => OpQ.env (.cons rfl (gd_t hb) (.nil _) : EnvLe [(60, .int .i64 (stops.getD x.d.1 default))] _) (q_geq rfl rfl)) ?_)
      refine e_q (q_pick_and rfl rfl rfl (fun h => h)) ?_
      refine l_n ?_
      refine t_cutq (ι := Int) (fun k9 => CI (vw x.d.2.1) x.d.2.2.2.2.1 x.d.2.2.2.2.2 x.d.1 k9) (fun k9 => [(0, .slice states_a states_n states_c), (1, .slice stops_a stops_n stops_c), (2, .slice keep_a keep_n keep_c), (7, .pointer (some ⟨bD, 0, none⟩)), (9, .pointer (some ⟨x.d.2.2.2.1, 0, none⟩)), (11, .slice x.a1 x.d.2.2.2.2.2.length x.c1), (12, .slice none 0 0), (13, .int .i64 (x.d.1 : Int)), (46, .int .i64 (x.d.1 : Int)), (47, .slice states_a states_n states_c), (48, .int .i64 (states_n : Int)), (49, .bool (decide ((x.d.1 : Int) < (states_n : Int)))), (52, .int .i64 (x.d.1 : Int)), (53, .slice stops_a stops_n stops_c), (54, .int .i64 (stops_n : Int)), (55, .bool (decide ((x.d.1 : Int) < (stops_n : Int)))), (56, .bool (decide ((x.d.1 : Int) < (stops_n : Int)))), (57, gd (decide ((x.d.1 : Int) < (stops_n : Int))) (.slice stops_a stops_n stops_c)), (58, gd (decide ((x.d.1 : Int) < (stops_n : Int))) (.int .i64 (x.d.1 : Int))), (59, gd (decide ((x.d.1 : Int) < (stops_n : Int))) (pe stops_a x.d.1 1 0)), (60, gd (decide ((x.d.1 : Int) < (stops_n : Int))) (.int .i64 (stops.getD x.d.1 default))), (61, gd (decide ((x.d.1 : Int) < (stops_n : Int))) (.bool (decide (0 ≤ (stops.getD x.d.1 default))))), (62, .bool ((decide ((x.d.1 : Int) < (stops_n : Int))) && (decide (0 ≤ (stops.getD x.d.1 default)))))]) (fun k9 => .row 23 2 x.a1 x.d.2.2.2.2.2.length x.c1 (x.d.2.2.2.2.2.flatMap encState1) :: .pts x.d.2.2.2.1 (encHard1 (⟨x.d.2.2.2.2.1, (some bD)⟩ : Hard1)) 56 :: .pts bD (encDisk1 (⟨10000, (some mbD), k9⟩ : Disk1)) 105 :: MP strB ptV mbD (fm x.d.2.1) :: FB 109 5 x.d.2.1 :: .pts rD (encRDisk (⟨10000, ⟨none, 0, 0⟩, false, 0⟩ : RDisk)) 87 :: Δ) ?_ ?_
      · skip
        refine c_cond rfl (fun h4 => ?_) (fun h4 => ?_)
        · try simp only [decide_eq_true_eq, decide_eq_false_iff_not, Bool.and_eq_true, Bool.and_eq_false_iff] at h4
          have m1 := Int.tmod_lt_of_pos (stops.getD x.d.1 default) (show (0 : Int) < 4 by decide)
          have m2 : 0 ≤ (stops.getD x.d.1 default).tmod 4 := Int.tmod_nonneg 4 (by omega)
          refine c_region ?_
          refine e_mv rfl ?_
          refine e_mv rfl ?_
          refine e_mv rfl ?_
          refine e_q (q_indexe x.d.1 Tryz.underlying37 sz_3 rfl rfl (by first | assumption | exact rd_ro (by assumption) | exact rd_row pk_) (by decide) rfl (by first | assumption | omega | (simp only [List.length_cons, List.length_nil]; omega))) ?_
          refine e_q (q_loade (enc := encI) (xs := stops) (j := x.d.1) (off := 0) sc_3 rfl (by first | assumption | exact rd_ro (by assumption) | exact rd_row pk_) (fun _ => rfl) (by first | assumption | omega | (simp only [List.length_cons, List.length_nil]; omega)) (by decide) rfl) ?_
          refine e_q (q_rem rfl rfl (by omega)) ?_
          refine e_fn Tryz.func16 rfl sl_ (fun ρ' hL => Go.Dsk.stop_spec bD 10000 mbD x.d.2.2.1 x.d.2.1 ((stops.getD x.d.1 default).tmod 4) ρ') ?_
          rintro _ _ ⟨rfl, rfl⟩
          try simp only [List.cons_append, List.nil_append]
          rw [show (if (-1 : Int) > ((stops.getD x.d.1 default).tmod 4) then (-1) else ((stops.getD x.d.1 default).tmod 4)) = ((stops.getD x.d.1 default).tmod 4) from if_neg (by omega)]
          refine l_n ?_
          exact t_nx ((stops.getD x.d.1 default).tmod 4) (hx2.set (by omega) (by omega)) (.c (.c (.c (.c (.c (.c (.c (.c (.c (.c (.c (.c (.c (.c (.c (.c (.c (.c (.c (.c (.c (.c (.c (.nil _))))))))))))))))))))))))
        · try simp only [decide_eq_true_eq, decide_eq_false_iff_not, Bool.and_eq_true, Bool.and_eq_false_iff] at h4
          refine c_skip ?_
          refine k_then_n ?_
          exact t_nx x.d.2.2.1 hx2 (.c (.c (.c (.c (.c (.c (.c (.c (.c (.c (.c (.c (.c (.c (.c (.c (.c (.c (.c (.c (.c (.c (.c (.nil _))))))))))))))))))))))))
      intro k9 hj4
      have hK9 := hj4
      refine k_then_n ?_
      refine sr ?_
      refine e_mv rfl ?_
      refine e_mv rfl ?_
      refine e_mv rfl ?_
      refine e_q (q_indexe x.d.1 Tryz.underlying59 sz_23 rfl rfl (by first | assumption | exact rd_ro (by assumption) | exact rd_row pk_) (by decide) rfl (by first | assumption | omega | (simp only [List.length_cons, List.length_nil]; omega))) ?_
      refine e_q (q_loadea (vs := encState1 (states.getD x.d.1 default)) (enc := encState1) (xs := states) (j := x.d.1) (off := 0) ag_23 rfl (by first | assumption | exact rd_ro (by assumption) | exact rd_row pk_) (fun _ => rfl) (by first | assumption | omega | (simp only [List.length_cons, List.length_nil]; omega)) (by simp [encState1]) (by simp [encState1]) rfl) ?_
      refine e_fn Tryz.func15 rfl sl_ (fun ρ' hL => ci_spec bD mbD k9 x.d.2.1 x.d.2.2.2.1 x.d.2.2.2.2.1 (states.getD x.d.1 default) x.d.2.2.2.2.2 x.d.1 ρ' hK9 (by omega)) ?_
      rintro _ _ (⟨T1, c1, rfl, rfl, hC1⟩ | ⟨T1, c1, rfl, rfl, hC1⟩ | ⟨T1, c1, rfl, rfl, hF1, hS1⟩)
      try simp only [List.cons_append, List.nil_append]
      · skip
        try simp only [List.cons_append, List.nil_append]
        refine e_as rfl ?_
        refine l_n ?_
        refine sr ?_
        refine e_mv rfl ?_
        refine l_n ?_
        refine c_block ?_
        refine sr ?_
        refine e_q (q_eql rfl rfl) ?_
        refine e_as rfl ?_
        refine l_n ?_
        refine c_sure true rfl (by rfl) ?_
        simp only [Bool.false_eq_true, if_true, if_false]
        refine sr ?_
        refine e_mv rfl ?_
        refine e_mv rfl ?_
        refine e_mv rfl ?_
        refine e_q (q_indexe x.d.1 Tryz.underlying59 sz_23 rfl rfl (by first | assumption | exact rd_ro (by assumption) | exact rd_row pk_) (by decide) rfl (by first | assumption | omega | (simp only [List.length_cons, List.length_nil]; omega))) ?_
        refine e_q (q_loadea (vs := encState1 (states.getD x.d.1 default)) (enc := encState1) (xs := states) (j := x.d.1) (off := 0) ag_23 rfl (by first | assumption | exact rd_ro (by assumption) | exact rd_row pk_) (fun _ => rfl) (by first | assumption | omega | (simp only [List.length_cons, List.length_nil]; omega)) (by simp [encState1]) (by simp [encState1]) rfl) ?_
        refine e_s (s_buildSlice (cs := ([(states.getD x.d.1 default)] : List State1).flatMap encState1) Tryz.underlying59 eo_23 rfl rfl rfl rfl (by decide) (by decide)) ?_
        rintro _ _ ⟨b84, rfl, rfl⟩
        refine e_s (s_appendn (enc := encState1) (xs := (x.d.2.2.2.2.2 : List State1)) (ys := ([(states.getD x.d.1 default)] : List State1)) (Γ' := fun a' cap' => _) Tryz.underlying59 eo_23 (by decide) rfl rfl (rd_row pk_) (oneState1s _) (by first | omega | (simp only [List.length_append, List.length_cons, List.length_nil] at *; omega)) (by first | omega | (simp only [List.length_append, List.length_cons, List.length_nil] at *; omega)) (fun _ _ => pk_)) ?_
        rintro _ _ ⟨a85, c85, rfl, rfl⟩
        refine e_as rfl ?_
        refine l_n ?_
        refine c_region ?_
        refine e_as rfl ?_
        refine l_nil ?_
        refine k_blk_n ?_
        refine k_blk_n ?_
        refine k_then_n ?_
        refine c_region ?_
        refine e_mv rfl ?_
        refine e_q (q_add rfl rfl (by omega) (by omega)) ?_
        refine e_as rfl ?_
        refine l_n ?_
        rw [show x.d.2.2.2.2.2.length + 1 = (x.d.2.2.2.2.2 ++ [(states.getD x.d.1 default)]).length from by simp]
        exact t_nx (⟨(x.d.1 + 1, T1, c1, x.d.2.2.2.1, (states.getD x.d.1 default), (x.d.2.2.2.2.2 ++ [(states.getD x.d.1 default)])), a85, c85, none, 0, none, 0⟩ : Lp _) ⟨⟨by (try simp only []); omega, hC1⟩, by (try simp only []); omega⟩ (.c (.c (.c (.c (.c (.c (.c (.c (.nil _)))))))))
      · skip
        try simp only [List.cons_append, List.nil_append]
        refine e_as rfl ?_
        refine l_n ?_
        refine sr ?_
        refine e_mv rfl ?_
        refine l_n ?_
        refine c_block ?_
        refine sr ?_
        refine e_q (q_eql rfl rfl) ?_
        refine e_as rfl ?_
        refine l_n ?_
        refine c_sure false rfl (by rfl) ?_
        simp only [Bool.false_eq_true, if_true, if_false]
        refine sr ?_
        refine e_q (q_eql rfl rfl) ?_
        refine e_as rfl ?_
        refine l_n ?_
        refine c_sure false rfl (by rfl) ?_
        simp only [Bool.false_eq_true, if_true, if_false]
        refine sr ?_
        refine e_q (q_eql rfl rfl) ?_
        refine e_as rfl ?_
        refine l_n ?_
        refine c_sure true rfl (by rfl) ?_
        simp only [Bool.false_eq_true, if_true, if_false]
        refine c_skip ?_
        refine k_blk_n ?_
        refine k_blk_n ?_
        refine k_then_n ?_
        refine c_region ?_
        refine e_mv rfl ?_
        refine e_q (q_add rfl rfl (by omega) (by omega)) ?_
        refine e_as rfl ?_
        refine l_n ?_
        exact t_nx (⟨(x.d.1 + 1, T1, c1, x.d.2.2.2.1, x.d.2.2.2.2.1, x.d.2.2.2.2.2), x.a1, x.c1, none, 0, none, 0⟩ : Lp _) ⟨⟨by (try simp only []); omega, hC1⟩, by (try simp only []); omega⟩ (.c (.c (.c (.c (.c (.c (.c (.c (.nil _)))))))))
      · skip
        try simp only [List.cons_append, List.nil_append]
        refine e_as rfl ?_
        refine l_n ?_
        refine sr ?_
        refine e_mv rfl ?_
        refine l_n ?_
        refine c_block ?_
        refine sr ?_
        refine e_q (q_eql rfl rfl) ?_
        refine e_as rfl ?_
        refine l_n ?_
        refine c_sure false rfl (by rfl) ?_
        simp only [Bool.false_eq_true, if_true, if_false]
        refine sr ?_
        refine e_q (q_eql rfl rfl) ?_
        refine e_as rfl ?_
        refine l_n ?_
        refine c_sure true rfl (by rfl) ?_
        simp only [Bool.false_eq_true, if_true, if_false]
        refine sr ?_
        refine e_mv rfl ?_
        refine e_mv rfl ?_
        refine e_mv rfl ?_
        refine e_q (q_indexe x.d.1 Tryz.underlying59 sz_23 rfl rfl (by first | assumption | exact rd_ro (by assumption) | exact rd_row pk_) (by decide) rfl (by first | assumption | omega | (simp only [List.length_cons, List.length_nil]; omega))) ?_
        refine e_q (q_loadea (vs := encState1 (states.getD x.d.1 default)) (enc := encState1) (xs := states) (j := x.d.1) (off := 0) ag_23 rfl (by first | assumption | exact rd_ro (by assumption) | exact rd_row pk_) (fun _ => rfl) (by first | assumption | omega | (simp only [List.length_cons, List.length_nil]; omega)) (by simp [encState1]) (by simp [encState1]) rfl) ?_
        refine e_s (s_buildSlice (cs := ([(states.getD x.d.1 default)] : List State1).flatMap encState1) Tryz.underlying59 eo_23 rfl rfl rfl rfl (by decide) (by decide)) ?_
        rintro _ _ ⟨b93, rfl, rfl⟩
        refine Tr.ent (Ent.nilrow 23 2 _) ?_
        refine e_s (s_appendn (enc := encState1) (xs := ([] : List State1)) (ys := ([(states.getD x.d.1 default)] : List State1)) (Γ' := fun a' cap' => _) Tryz.underlying59 eo_23 (by decide) rfl rfl (rd_row pk_) (oneState1s _) (by first | omega | (simp only [List.length_append, List.length_cons, List.length_nil] at *; omega)) (by first | omega | (simp only [List.length_append, List.length_cons, List.length_nil] at *; omega)) (fun _ _ => pk_)) ?_
        rintro _ _ ⟨a94, c94, rfl, rfl⟩
        simp only [Nat.zero_add, List.nil_append]
        refine e_as rfl ?_
        refine l_n ?_
        refine sr ?_
        refine e_mv rfl ?_
        refine e_mv rfl ?_
        refine e_fn Tryz.func18 rfl sl_ (fun ρ' hL => Go.Dsk.V.crash_spec bD 10000 mbD c1 T1 keep_a keep_n keep_c keep hkeep_n ρ' hF1 (Ro.mono hL.1 hrk)) ?_
        rintro _ _ ⟨T2, rfl, hvT2, rfl⟩
        try simp only [List.cons_append, List.nil_append]
        generalize (crR keep (vw T1)).2 = gT2
        obtain ⟨on, hon, hf2, hC2⟩ := hS1 keep
        rw [← hvT2] at hC2
        refine l_n ?_
        refine sr ?_
        refine e_mv rfl ?_
        refine e_fn Tryz.func25 rfl sl_ (fun ρ' hL => Go.Hrd.on_spec bD 10000 mbD (-1) T2 ρ' hC2.fok) ?_
        rintro _ _ ⟨rfl, rfl⟩
        try simp only [List.cons_append, List.nil_append]
        rw [hC2.on]
        refine e_s (s_allocz (cs := encState1 zState1) (by kernel_rfl)) ?_
        rintro _ _ ⟨b15, rfl, rfl⟩
        refine l_step (s_s0 wn (s_storep (ws := encState1 on) (cs := encState1 zState1) (cs' := encState1 on) rfl rfl rfl sz_23 (oneState1 _) (by simp [encState1, encState1]) rfl pk_) ?_)
        rintro _ _ ⟨rfl, rfl⟩
        refine l_n ?_
        refine c_seq ?_
        refine d_r 9 [.pts b15 (encState1 on) 23, .row 23 2 a94 1 c94 ([(states.getD x.d.1 default)].flatMap encState1), .row 23 2 (some ⟨b93, 0, none⟩) 1 1 ([(states.getD x.d.1 default)].flatMap encState1), .row 23 2 x.a1 x.d.2.2.2.2.2.length x.c1 (x.d.2.2.2.2.2.flatMap encState1), .pts x.d.2.2.2.1 (encHard1 (⟨x.d.2.2.2.2.1, (some bD)⟩ : Hard1)) 56, .pts bD (encDisk1 (⟨10000, (some mbD), (-1)⟩ : Disk1)) 105, MP strB ptV mbD (fm T2), FB 109 5 T2, .pts rD (encRDisk (⟨10000, ⟨none, 0, 0⟩, false, 0⟩ : RDisk)) 87] ?_
        refine d_t 0 rfl wn (q_loadpa (vs := encState1 on) ag_23 rfl pk_ rfl) ?_
        refine d_t 1 rfl wn (q_move rfl) ?_
        refine d_t 2 rfl wn (q_move rfl) ?_
        refine d_t 3 rfl wn (q_len Tryz.underlying59 rfl) ?_
        refine d_t 4 rfl wn (q_sub rfl rfl (by omega) (by omega)) ?_
        refine d_t 5 rfl wn (q_indexe ((((x.d.2.2.2.2.2.length : Int) - 1)).toNat) Tryz.underlying59 sz_23 rfl rfl (rd_row pk_) (by decide) (by omega) (by first | assumption | omega | (simp only [List.length_cons, List.length_nil]; omega))) ?_
        refine d_t 6 rfl wn (q_loadea (vs := encState1 (x.d.2.2.2.2.2.getD ((((x.d.2.2.2.2.2.length : Int) - 1)).toNat) default)) (enc := encState1) (xs := x.d.2.2.2.2.2) (j := (((x.d.2.2.2.2.2.length : Int) - 1)).toNat) (off := 0) ag_23 rfl (rd_row pk_) (fun _ => rfl) (by first | assumption | omega | (simp only [List.length_cons, List.length_nil]; omega)) (by simp [encState1]) (by simp [encState1]) rfl) ?_
        refine d_t 7 rfl wn (q_eqlst (offs := [0, 1]) (la := [on.Term, on.Vote]) (lb := [(x.d.2.2.2.2.2.getD ((((x.d.2.2.2.2.2.length : Int) - 1)).toNat) default).Term, (x.d.2.2.2.2.2.getD ((((x.d.2.2.2.2.2.length : Int) - 1)).toNat) default).Vote]) (by kernel_rfl) rfl rfl (by intro o ho; simp only [List.mem_cons, List.not_mem_nil, or_false] at ho; rcases ho with rfl | rfl <;> exact ⟨_, _, _, rfl, rfl⟩) rfl rfl) ?_
        refine d_t 8 rfl wn (q_assign rfl) ?_
        refine d_d ?_
        refine k_then_n ?_
        refine c_seq ?_
        refine sr ?_
        have hlast : x.d.2.2.2.2.2.getD (((x.d.2.2.2.2.2.length : Int) - 1)).toNat default = x.d.2.2.2.2.1 := by rw [show (((x.d.2.2.2.2.2.length : Int) - 1)).toNat = x.d.2.2.2.2.2.length - 1 by omega]; exact hla
        rw [hlast, st_eq]
        refine e_as rfl ?_
        refine l_n ?_
        refine c_block ?_
        refine Tr.env (σ' := [(0, _), (1, _), (2, _), (7, _), (9, _), (11, _), (12, _), (13, _), (14, _), (15, _), (16, _), (17, _), (46, _), (47, _), (48, _), (49, _), (52, _), (53, _), (54, _), (55, _), (56, _), (57, _), (58, _), (59, _), (60, _), (61, _), (62, _), (70, _), (71, _), (72, _), (73, _), (74, _), (75, _), (76, _), (77, _), (78, _), (86, _), (87, _), (88, _), (89, _), (90, _), (91, _), (92, _), (93, _), (94, _), (95, _), (96, _), (98, _), (99, _), (100, _), (101, _), (102, _), (103, _), (104, _), (105, _), (106, _), (107, _)]) ev_ ?_
        refine t_loop (ι := Lp (Nat)) (fun y => y.d ≤ 1) (fun y => 1 - y.d) (fun y => [(0, .slice states_a states_n states_c), (1, .slice stops_a stops_n stops_c), (2, .slice keep_a keep_n keep_c), (7, .pointer (some ⟨bD, 0, none⟩)), (9, .pointer (some ⟨x.d.2.2.2.1, 0, none⟩)), (11, .slice x.a1 x.d.2.2.2.2.2.length x.c1), (12, .slice a94 1 c94), (13, .int .i64 (x.d.1 : Int)), (14, .int .i64 32), (15, .pointer (some ⟨b15, 0, none⟩)), (16, .bool (decide (on = x.d.2.2.2.2.1) || (decide (0 < y.d) && decide (on = (states.getD x.d.1 default))))), (17, .int .i64 (y.d : Int)), (46, .int .i64 (x.d.1 : Int)), (47, .slice states_a states_n states_c), (48, .int .i64 (states_n : Int)), (49, .bool (decide ((x.d.1 : Int) < (states_n : Int)))), (52, .int .i64 (x.d.1 : Int)), (53, .slice stops_a stops_n stops_c), (54, .int .i64 (stops_n : Int)), (55, .bool (decide ((x.d.1 : Int) < (stops_n : Int)))), (56, .bool (decide ((x.d.1 : Int) < (stops_n : Int)))), (57, gd (decide ((x.d.1 : Int) < (stops_n : Int))) (.slice stops_a stops_n stops_c)), (58, gd (decide ((x.d.1 : Int) < (stops_n : Int))) (.int .i64 (x.d.1 : Int))), (59, gd (decide ((x.d.1 : Int) < (stops_n : Int))) (pe stops_a x.d.1 1 0)), (60, gd (decide ((x.d.1 : Int) < (stops_n : Int))) (.int .i64 (stops.getD x.d.1 default))), (61, gd (decide ((x.d.1 : Int) < (stops_n : Int))) (.bool (decide (0 ≤ (stops.getD x.d.1 default))))), (62, .bool ((decide ((x.d.1 : Int) < (stops_n : Int))) && (decide (0 ≤ (stops.getD x.d.1 default))))), (70, .pointer (some ⟨x.d.2.2.2.1, 0, none⟩)), (71, .slice states_a states_n states_c), (72, .int .i64 (x.d.1 : Int)), (73, pe states_a x.d.1 2 0), (74, .agg (encState1 (states.getD x.d.1 default)).toArray), (75, .int .i64 32), (76, .int .i64 32), (77, .bool (decide (32 = 0))), (78, .bool (decide (32 = 0))), (86, .bool (decide (32 = 32))), (87, .bool (decide (32 = 32))), (88, .slice none 0 0), (89, .slice states_a states_n states_c), (90, .int .i64 (x.d.1 : Int)), (91, pe states_a x.d.1 2 0), (92, .agg (encState1 (states.getD x.d.1 default)).toArray), (93, .slice (some ⟨b93, 0, none⟩) 1 1), (94, .slice a94 1 c94), (95, .pointer (some ⟨bD, 0, none⟩)), (96, .slice keep_a keep_n keep_c), (98, .pointer (some ⟨bD, 0, none⟩)), (99, .agg (encState1 on).toArray), (100, .agg (encState1 on).toArray), (101, .slice x.a1 x.d.2.2.2.2.2.length x.c1), (102, .slice x.a1 x.d.2.2.2.2.2.length x.c1), (103, .int .i64 (x.d.2.2.2.2.2.length : Int)), (104, .int .i64 ((x.d.2.2.2.2.2.length : Int) - 1)), (105, pe x.a1 ((((x.d.2.2.2.2.2.length : Int) - 1)).toNat) 2 0), (106, .agg (encState1 x.d.2.2.2.2.1).toArray), (107, .bool (decide (on = x.d.2.2.2.2.1)))]) (fun y => .pts b15 (encState1 on) 23 :: .row 23 2 a94 1 c94 ([(states.getD x.d.1 default)].flatMap encState1) :: .row 23 2 (some ⟨b93, 0, none⟩) 1 1 ([(states.getD x.d.1 default)].flatMap encState1) :: .row 23 2 x.a1 x.d.2.2.2.2.2.length x.c1 (x.d.2.2.2.2.2.flatMap encState1) :: .pts x.d.2.2.2.1 (encHard1 (⟨x.d.2.2.2.2.1, (some bD)⟩ : Hard1)) 56 :: .pts bD (encDisk1 (⟨10000, (some mbD), (-1)⟩ : Disk1)) 105 :: MP strB ptV mbD (fm T2) :: FB 109 5 T2 :: .pts rD (encRDisk (⟨10000, ⟨none, 0, 0⟩, false, 0⟩ : RDisk)) 87 :: Δ) (⟨0, none, 0, none, 0, none, 0⟩ : Lp _) (by decide) ?_ ?_ ?_
        · exact .c (.c (.c (.c (.c (.c (.c (.c (.c (.c (.c (.c (.c (.c (.c (.c (.c (.c (.c (.c (.c (.c (.c (.c (.c (.c (.c (.c (.c (.c (.c (.c (.c (.c (.c (.c (.c (.c (.c (.c (.c (.c (.c (.c (.c (.c (.c (.c (.c (.c (.c (.c (.c (.c (.c (.c (.c (.nil _)))))))))))))))))))))))))))))))))))))))))))))))))))))))))
        · exact en_
        intro y hy
        refine c_seq ?_
        refine sr ?_
        refine e_mv rfl ?_
        refine e_mv rfl ?_
        refine e_q (q_len Tryz.underlying59 rfl) ?_
        refine e_q (q_lss rfl rfl) ?_
        refine l_n ?_
        refine c_cond rfl (fun h7 => ?_) (fun h7 => ?_)
        · try simp only [decide_eq_true_eq, decide_eq_false_iff_not] at h7
          have hy0 : y.d = 0 := by omega
          refine c_skip ?_
          refine k_then_n ?_
          refine c_seq ?_
          refine c_block ?_
          refine d_r 10 [.pts b15 (encState1 on) 23, .row 23 2 a94 1 c94 ([(states.getD x.d.1 default)].flatMap encState1), .row 23 2 (some ⟨b93, 0, none⟩) 1 1 ([(states.getD x.d.1 default)].flatMap encState1), .row 23 2 x.a1 x.d.2.2.2.2.2.length x.c1 (x.d.2.2.2.2.2.flatMap encState1), .pts x.d.2.2.2.1 (encHard1 (⟨x.d.2.2.2.2.1, (some bD)⟩ : Hard1)) 56, .pts bD (encDisk1 (⟨10000, (some mbD), (-1)⟩ : Disk1)) 105, MP strB ptV mbD (fm T2), FB 109 5 T2, .pts rD (encRDisk (⟨10000, ⟨none, 0, 0⟩, false, 0⟩ : RDisk)) 87] ?_
          refine d_t 0 rfl wn (q_move rfl) ?_
          refine d_t 1 rfl wn (q_move rfl) ?_
          refine d_g 2 ((!(decide (on = x.d.2.2.2.2.1) || (decide (0 < y.d) && decide (on = (states.getD x.d.1 default)))))) rfl (ask_f rfl rfl) (fun hb => q_loadpa (vs := encState1 on) ag_23 rfl pk_ rfl) ?_
          refine d_g 3 ((!(decide (on = x.d.2.2.2.2.1) || (decide (0 < y.d) && decide (on = (states.getD x.d.1 default)))))) rfl (ask_f rfl rfl) (fun hb => q_move rfl) ?_
          refine d_g 4 ((!(decide (on = x.d.2.2.2.2.1) || (decide (0 < y.d) && decide (on = (states.getD x.d.1 default)))))) rfl (ask_f rfl rfl) (fun hb => q_move rfl) ?_
          refine d_g 5 ((!(decide (on = x.d.2.2.2.2.1) || (decide (0 < y.d) && decide (on = (states.getD x.d.1 default)))))) rfl (ask_f rfl rfl) (fun hb => OpQ.env (.cons rfl (gd_t hb) (.cons rfl (gd_t hb) (.nil _)) : EnvLe [(117, .slice a94 1 c94), (118, .int .i64 (y.d : Int))] _) (q_indexe y.d Tryz.underlying59 sz_23 rfl rfl (rd_row pk_) (by decide) rfl (by first | assumption | omega | (have hb2 := hb; (try simp only [Bool.and_eq_true, Bool.or_eq_true, Bool.not_eq_true', Bool.and_eq_false_iff, Bool.or_eq_false_iff, Bool.not_eq_false', decide_eq_true_eq, decide_eq_false_iff_not, Bool.not_eq_eq_eq_not, Bool.not_true, Bool.not_false, Bool.not_eq_true, Bool.not_eq_false, beq_iff_eq, bne_iff_ne, ne_eq, Decidable.not_not] at hb2); omega) | (simp only [List.length_cons, List.length_nil]; omega)))) ?_
          refine d_g 6 ((!(decide (on = x.d.2.2.2.2.1) || (decide (0 < y.d) && decide (on = (states.getD x.d.1 default)))))) rfl (ask_f rfl rfl) (fun hb => OpQ.env (.cons rfl (gd_t hb) (.nil _) : EnvLe [(119, pe a94 y.d 2 0)] _) (q_loadea (vs := encState1 ([(states.getD x.d.1 default)].getD y.d default)) (enc := encState1) (xs := [(states.getD x.d.1 default)]) (j := y.d) (off := 0) ag_23 rfl (rd_row pk_) (fun _ => rfl) (by first | assumption | omega | (have hb2 := hb; (try simp only [Bool.and_eq_true, Bool.or_eq_true, Bool.not_eq_true', Bool.and_eq_false_iff, Bool.or_eq_false_iff, Bool.not_eq_false', decide_eq_true_eq, decide_eq_false_iff_not, Bool.not_eq_eq_eq_not, Bool.not_true, Bool.not_false, Bool.not_eq_true, Bool.not_eq_false, beq_iff_eq, bne_iff_ne, ne_eq, Decidable.not_not] at hb2); omega) | (simp only [List.length_cons, List.length_nil]; omega)) (by simp [encState1]) (by simp [encState1]) rfl)) ?_
          refine d_g 7 ((!(decide (on = x.d.2.2.2.2.1) || (decide (0 < y.d) && decide (on = (states.getD x.d.1 default)))))) rfl (ask_f rfl rfl) (fun hb => OpQ.env (.cons rfl (gd_t hb) (.cons rfl (gd_t hb) (.nil _)) : EnvLe [(116, .agg (encState1 on).toArray), (120, .agg (encState1 ([(states.getD x.d.1 default)].getD y.d default)).toArray)] _) (q_eqlst (offs := [0, 1]) (la := [on.Term, on.Vote]) (lb := [([(states.getD x.d.1 default)].getD y.d default).Term, ([(states.getD x.d.1 default)].getD y.d default).Vote]) (by kernel_rfl) rfl rfl (by intro o ho; simp only [List.mem_cons, List.not_mem_nil, or_false] at ho; rcases ho with rfl | rfl <;> exact ⟨_, _, _, rfl, rfl⟩) rfl rfl)) ?_
          refine d_t 8 rfl wn (q_pick_or rfl rfl rfl (fun h => by first | (rw [h]; rfl) | exact congrArg not h)) ?_
          refine d_t 9 rfl wn (q_assign rfl) ?_
          refine d_d ?_
          refine k_blk_n ?_
          refine k_then_n ?_
          refine c_region ?_
          refine e_mv rfl ?_
          refine e_q (q_add rfl rfl (by omega) (by omega)) ?_
          refine e_as rfl ?_
          refine l_n ?_
          exact t_nx (⟨y.d + 1, none, 0, none, 0, none, 0⟩ : Lp _) ⟨by (try simp only []); omega, by (try simp only []); omega⟩ (.c (.c (.c (.c (.c (.c (.c (.c (.c (.c (.cons rfl (boole (by rw [hy0]; show (_ || decide ([on.Term, on.Vote] = [(states.getD x.d.1 default).Term, (states.getD x.d.1 default).Vote])) = _; rw [st_eq]; simp)) (.c (.c (.c (.c (.c (.c (.c (.c (.c (.c (.c (.c (.c (.c (.c (.c (.c (.c (.c (.c (.c (.c (.c (.c (.c (.c (.c (.c (.c (.c (.c (.c (.c (.c (.c (.c (.c (.c (.c (.c (.c (.c (.c (.c (.c (.c (.nil _))))))))))))))))))))))))))))))))))))))))))))))))))))))))))
        · try simp only [decide_eq_true_eq, decide_eq_false_iff_not] at h7
          have hy1 : y.d = 1 := by omega
          refine c_exit ?_
          refine k_then_x ?_
          refine k_then_x ?_
          refine k_blk_x ?_
          refine k_then_n ?_
          refine c_seq ?_
          refine sr ?_
          refine e_mv rfl ?_
          refine e_q (q_not rfl) ?_
          refine e_mv rfl ?_
          refine Tr.env (.cons (t := 125) (v := .bool false) rfl (congrArg Value.bool (by rcases hon with h9 | h9 <;> simp [h9, hy1])) (EnvLe.refl _)) ?_
          refine e_qw (wy rfl rfl rfl) (q_loadpa (vs := encState1 on) ag_23 rfl pk_ rfl) ?_
          refine e_qw (wy rfl rfl rfl) (q_move rfl) ?_
          refine e_fnw (wy rfl rfl rfl) Tryz.func11 rfl sl_ (fun ρ' hL => Go.Hrd.follows_spec on x.a1 x.d.2.2.2.2.2.length x.c1 x.d.2.2.2.2.2 rfl ρ' (hL.row pk_)) ?_
          rintro _ _ ⟨rfl, rfl⟩
          try simp only [List.cons_append, List.nil_append]
          rw [hf2]
          refine e_qw (wy rfl rfl rfl) (q_not rfl) ?_
          refine e_q (q_pick rfl rfl rfl) ?_
          refine l_n ?_
          refine c_sure false rfl (by rfl) ?_
          simp only [Bool.false_eq_true, if_true, if_false]
          refine c_skip ?_
          refine k_then_n ?_
          refine sr ?_
          refine e_mv rfl ?_
          refine e_fn Tryz.func13 rfl sl_ (fun ρ' hL => Go.Hrd.open__spec bD 10000 mbD (-1) T2 ρ' hC2.fok) ?_
          rintro _ _ ⟨h2, rfl, rfl⟩
          try simp only [List.cons_append, List.nil_append]
          rw [hC2.on]
          refine e_mv rfl ?_
          refine e_q (q_extract rfl rfl) ?_
          refine e_q (q_extract rfl rfl) ?_
          refine e_as rfl ?_
          refine l_n ?_
          refine c_seq ?_
          refine c_seq ?_
          refine d_r 10 [.pts h2 (encHard1 (⟨on, (some bD)⟩ : Hard1)) 56, .pts b15 (encState1 on) 23, .row 23 2 a94 1 c94 ([(states.getD x.d.1 default)].flatMap encState1), .row 23 2 (some ⟨b93, 0, none⟩) 1 1 ([(states.getD x.d.1 default)].flatMap encState1), .row 23 2 x.a1 x.d.2.2.2.2.2.length x.c1 (x.d.2.2.2.2.2.flatMap encState1), .pts x.d.2.2.2.1 (encHard1 (⟨x.d.2.2.2.2.1, (some bD)⟩ : Hard1)) 56, .pts bD (encDisk1 (⟨10000, (some mbD), (-1)⟩ : Disk1)) 105, MP strB ptV mbD (fm T2), FB 109 5 T2, .pts rD (encRDisk (⟨10000, ⟨none, 0, 0⟩, false, 0⟩ : RDisk)) 87] ?_
          refine d_t 0 rfl wn (q_move rfl) ?_
          refine d_t 1 rfl wn (by first | exact q_eqlp rfl rfl Tryz.underlying33 | exact q_eqlp0 rfl rfl Tryz.underlying33) ?_
          refine d_t 2 rfl wn (q_move rfl) ?_
          refine d_t 3 rfl (wy rfl rfl rfl) (q_move rfl) ?_
          refine d_t 4 rfl (wy rfl rfl rfl) (q_nilCheck rfl) ?_
          refine d_t 5 rfl (wy rfl rfl rfl) (q_fieldp rfl fo_56_0) ?_
          refine d_t 6 rfl (wy rfl rfl rfl) (q_loadpa (vs := encState1 on) ag_23 rfl pk_ rfl) ?_
          refine d_t 7 rfl (wy rfl rfl rfl) (q_loadpa (vs := encState1 on) ag_23 rfl pk_ rfl) ?_
          refine d_t 8 rfl (wy rfl rfl rfl) (q_neqst (offs := [0, 1]) (la := [on.Term, on.Vote]) (lb := [on.Term, on.Vote]) (by kernel_rfl) rfl rfl (by intro o ho; simp only [List.mem_cons, List.not_mem_nil, or_false] at ho; rcases ho with rfl | rfl <;> exact ⟨_, _, _, rfl, rfl⟩) rfl rfl) ?_
          refine d_t 9 rfl wn (q_pick rfl rfl rfl) ?_
          refine d_d ?_
          refine k_then_n ?_
          refine c_sure false rfl (by simp) ?_
          simp only [Bool.false_eq_true, if_true, if_false]
          refine c_skip ?_
          refine k_then_n ?_
          refine sr ?_
          refine e_mv rfl ?_
          refine e_q (q_loadpa (vs := encState1 on) ag_23 rfl pk_ rfl) ?_
          refine e_s (s_buildSlice (cs := ([on] : List State1).flatMap encState1) Tryz.underlying59 eo_23 rfl rfl rfl rfl (by decide) (by decide)) ?_
          rintro _ _ ⟨b148, rfl, rfl⟩
          refine e_s (s_appendn (enc := encState1) (xs := (x.d.2.2.2.2.2 : List State1)) (ys := ([on] : List State1)) (Γ' := fun a' cap' => _) Tryz.underlying59 eo_23 (by decide) rfl rfl (rd_row pk_) (oneState1s _) (by first | omega | (simp only [List.length_append, List.length_cons, List.length_nil] at *; omega)) (by first | omega | (simp only [List.length_append, List.length_cons, List.length_nil] at *; omega)) (fun _ _ => pk_)) ?_
          rintro _ _ ⟨a149, c149, rfl, rfl⟩
          refine e_as rfl ?_
          refine l_n ?_
          refine c_region ?_
          refine e_as rfl ?_
          refine l_nil ?_
          refine k_blk_n ?_
          refine k_blk_n ?_
          refine k_then_n ?_
          refine c_region ?_
          refine e_mv rfl ?_
          refine e_q (q_add rfl rfl (by omega) (by omega)) ?_
          refine e_as rfl ?_
          refine l_n ?_
          rw [show x.d.2.2.2.2.2.length + 1 = (x.d.2.2.2.2.2 ++ [on]).length from by simp]
          exact t_nx (⟨(x.d.1 + 1, T2, -1, h2, on, (x.d.2.2.2.2.2 ++ [on])), a149, c149, none, 0, none, 0⟩ : Lp _) ⟨⟨by (try simp only []); omega, hC2⟩, by (try simp only []); omega⟩ (.c (.c (.c (.c (.c (.c (.c (.c (.nil _)))))))))
    · try simp only [decide_eq_true_eq, decide_eq_false_iff_not] at h3
      have hk : x.d.1 = states_n := by omega
      refine c_exit ?_
      refine k_then_x ?_
      refine k_then_x ?_
      refine k_blk_x ?_
      refine k_then_n ?_
      refine sr ?_
      refine e_mv rfl ?_
      refine e_mv rfl ?_
      refine e_fn Tryz.func18 rfl sl_ (fun ρ' hL => Go.Dsk.V.crash_spec bD 10000 mbD x.d.2.2.1 x.d.2.1 keep_a keep_n keep_c keep hkeep_n ρ' hx2.fok (Ro.mono hL.1 hrk)) ?_
      rintro _ _ ⟨T3, rfl, hvT3, rfl⟩
      try simp only [List.cons_append, List.nil_append]
      generalize (crR keep (vw x.d.2.1)).2 = gT3
      have hC3 := hx2.crash hvT3
      refine l_n ?_
      refine c_seq ?_
      refine d_r 10 [] ?_
      refine d_t 0 rfl wn (q_move rfl) ?_
      refine d_t 2 rfl wn (q_move rfl) ?_
      refine d_t 3 rfl wn (q_move rfl) ?_
      refine d_t 4 rfl wn (q_len Tryz.underlying59 rfl) ?_
      refine d_t 5 rfl wn (q_sub rfl rfl (by omega) (by omega)) ?_
      refine d_2 1 6 ?_ ?_
      · skip
        refine o_step rfl (s_fnb rfl wn Tryz.func25 rfl (by kernel_rfl) rfl sl_ (fun ρ' hL => Go.Hrd.on_spec bD 10000 mbD (-1) T3 ρ' hC3.fok) ?_)
        rintro _ _ ⟨rfl, rfl⟩
        try simp only [List.cons_append, List.nil_append]
        rw [hC3.on]
        refine d_c ?_
        refine d_1 6 ?_
        refine o_step rfl (s_q rfl wn (q_indexe ((((x.d.2.2.2.2.2.length : Int) - 1)).toNat) Tryz.underlying59 sz_23 rfl rfl (rd_row pk_) (by decide) (by omega) (by first | assumption | omega | (simp only [List.length_cons, List.length_nil]; omega))) ?_)
        refine d_c ?_
        refine d_1 7 ?_
        refine o_step rfl (s_q rfl wn (q_loadea (vs := encState1 (x.d.2.2.2.2.2.getD ((((x.d.2.2.2.2.2.length : Int) - 1)).toNat) default)) (enc := encState1) (xs := x.d.2.2.2.2.2) (j := (((x.d.2.2.2.2.2.length : Int) - 1)).toNat) (off := 0) ag_23 rfl (rd_row pk_) (fun _ => rfl) (by first | assumption | omega | (simp only [List.length_cons, List.length_nil]; omega)) (by simp [encState1]) (by simp [encState1]) rfl) ?_)
        refine d_c ?_
        refine d_t 8 rfl wn (q_eqlst (offs := [0, 1]) (la := [x.d.2.2.2.2.1.Term, x.d.2.2.2.2.1.Vote]) (lb := [(x.d.2.2.2.2.2.getD ((((x.d.2.2.2.2.2.length : Int) - 1)).toNat) default).Term, (x.d.2.2.2.2.2.getD ((((x.d.2.2.2.2.2.length : Int) - 1)).toNat) default).Vote]) (by kernel_rfl) rfl rfl (by intro o ho; simp only [List.mem_cons, List.not_mem_nil, or_false] at ho; rcases ho with rfl | rfl <;> exact ⟨_, _, _, rfl, rfl⟩) rfl rfl) ?_
        refine d_t 9 rfl wn (q_assign rfl) ?_
        refine d_d ?_
        refine k_then_n ?_
        refine c_ret ?_
        have hlast : x.d.2.2.2.2.2.getD (((x.d.2.2.2.2.2.length : Int) - 1)).toNat default = x.d.2.2.2.2.1 := by rw [show (((x.d.2.2.2.2.2.length : Int) - 1)).toNat = x.d.2.2.2.2.2.length - 1 by omega]; exact hla
        exact t_rt [] rfl (.tmp rfl .nil) rfl ⟨rfl, boole (by rw [hlast]; simp), rfl⟩ (by (repeat refine Ent.skip ?_); exact Ent.refl _)
      · skip
        refine o_step rfl (s_q rfl wn (q_indexe ((((x.d.2.2.2.2.2.length : Int) - 1)).toNat) Tryz.underlying59 sz_23 rfl rfl (rd_row pk_) (by decide) (by omega) (by first | assumption | omega | (simp only [List.length_cons, List.length_nil]; omega))) ?_)
        refine d_c ?_
        refine d_2 1 7 ?_ ?_
        · skip
          refine o_step rfl (s_fnb rfl wn Tryz.func25 rfl (by kernel_rfl) rfl sl_ (fun ρ' hL => Go.Hrd.on_spec bD 10000 mbD (-1) T3 ρ' hC3.fok) ?_)
          rintro _ _ ⟨rfl, rfl⟩
          try simp only [List.cons_append, List.nil_append]
          rw [hC3.on]
          refine d_c ?_
          refine d_1 7 ?_
          refine o_step rfl (s_q rfl wn (q_loadea (vs := encState1 (x.d.2.2.2.2.2.getD ((((x.d.2.2.2.2.2.length : Int) - 1)).toNat) default)) (enc := encState1) (xs := x.d.2.2.2.2.2) (j := (((x.d.2.2.2.2.2.length : Int) - 1)).toNat) (off := 0) ag_23 rfl (rd_row pk_) (fun _ => rfl) (by first | assumption | omega | (simp only [List.length_cons, List.length_nil]; omega)) (by simp [encState1]) (by simp [encState1]) rfl) ?_)
          refine d_c ?_
          refine d_t 8 rfl wn (q_eqlst (offs := [0, 1]) (la := [x.d.2.2.2.2.1.Term, x.d.2.2.2.2.1.Vote]) (lb := [(x.d.2.2.2.2.2.getD ((((x.d.2.2.2.2.2.length : Int) - 1)).toNat) default).Term, (x.d.2.2.2.2.2.getD ((((x.d.2.2.2.2.2.length : Int) - 1)).toNat) default).Vote]) (by kernel_rfl) rfl rfl (by intro o ho; simp only [List.mem_cons, List.not_mem_nil, or_false] at ho; rcases ho with rfl | rfl <;> exact ⟨_, _, _, rfl, rfl⟩) rfl rfl) ?_
          refine d_t 9 rfl wn (q_assign rfl) ?_
          refine d_d ?_
          refine k_then_n ?_
          refine c_ret ?_
          have hlast : x.d.2.2.2.2.2.getD (((x.d.2.2.2.2.2.length : Int) - 1)).toNat default = x.d.2.2.2.2.1 := by rw [show (((x.d.2.2.2.2.2.length : Int) - 1)).toNat = x.d.2.2.2.2.2.length - 1 by omega]; exact hla
          exact t_rt [] rfl (.tmp rfl .nil) rfl ⟨rfl, boole (by rw [hlast]; simp), rfl⟩ (by (repeat refine Ent.skip ?_); exact Ent.refl _)
        · skip
          refine o_step rfl (s_q rfl wn (q_loadea (vs := encState1 (x.d.2.2.2.2.2.getD ((((x.d.2.2.2.2.2.length : Int) - 1)).toNat) default)) (enc := encState1) (xs := x.d.2.2.2.2.2) (j := (((x.d.2.2.2.2.2.length : Int) - 1)).toNat) (off := 0) ag_23 rfl (rd_row pk_) (fun _ => rfl) (by first | assumption | omega | (simp only [List.length_cons, List.length_nil]; omega)) (by simp [encState1]) (by simp [encState1]) rfl) ?_)
          refine d_c ?_
          refine d_1 1 ?_
          refine o_step rfl (s_fnb rfl wn Tryz.func25 rfl (by kernel_rfl) rfl sl_ (fun ρ' hL => Go.Hrd.on_spec bD 10000 mbD (-1) T3 ρ' hC3.fok) ?_)
          rintro _ _ ⟨rfl, rfl⟩
          try simp only [List.cons_append, List.nil_append]
          rw [hC3.on]
          refine d_c ?_
          refine d_t 8 rfl wn (q_eqlst (offs := [0, 1]) (la := [x.d.2.2.2.2.1.Term, x.d.2.2.2.2.1.Vote]) (lb := [(x.d.2.2.2.2.2.getD ((((x.d.2.2.2.2.2.length : Int) - 1)).toNat) default).Term, (x.d.2.2.2.2.2.getD ((((x.d.2.2.2.2.2.length : Int) - 1)).toNat) default).Vote]) (by kernel_rfl) rfl rfl (by intro o ho; simp only [List.mem_cons, List.not_mem_nil, or_false] at ho; rcases ho with rfl | rfl <;> exact ⟨_, _, _, rfl, rfl⟩) rfl rfl) ?_
          refine d_t 9 rfl wn (q_assign rfl) ?_
          refine d_d ?_
          refine k_then_n ?_
          refine c_ret ?_
          have hlast : x.d.2.2.2.2.2.getD (((x.d.2.2.2.2.2.length : Int) - 1)).toNat default = x.d.2.2.2.2.1 := by rw [show (((x.d.2.2.2.2.2.length : Int) - 1)).toNat = x.d.2.2.2.2.2.length - 1 by omega]; exact hla
          exact t_rt [] rfl (.tmp rfl .nil) rfl ⟨rfl, boole (by rw [hlast]; simp), rfl⟩ (by (repeat refine Ent.skip ?_); exact Ent.refl _)
end Go.HrdL

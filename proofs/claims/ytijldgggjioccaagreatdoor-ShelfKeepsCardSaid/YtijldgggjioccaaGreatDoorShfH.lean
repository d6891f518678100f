/-
  Walked.
-/
import Derived.Test.YtijldgggjioccaaGreatDoorShfG
import Derived.Test.YtijldgggjioccaaGreatDoorProg
set_option maxRecDepth 100000
set_option maxHeartbeats 4000000
set_option linter.unusedSimpArgs false
set_option linter.unusedVariables false
namespace Go.Shf
open Go Go.SL Go.Proofs Go.Mou Go.Dsk Go.Hrd
attribute [local irreducible] Go.SL.Ent
theorem sz_3 : sizeIs Tryz.prog 3 = some 1 := by kernel_rfl

theorem keeps_spec (bodies_a : Option Addr) (bodies_n bodies_c : Nat) (bodies : List (SL UInt8)) (hbodies_n : bodies.length = bodies_n) (stops_a : Option Addr) (stops_n stops_c : Nat) (stops : List Int) (hstops_n : stops.length = stops_n) (keep_a : Option Addr) (keep_n keep_c : Nat) (keep : List Int) (hkeep_n : keep.length = keep_n) (ρ : Hp) (hrb : Ro ρ 1 bodies_a bodies_n bodies_c (bodies.flatMap encSL)) (hbm : ∀ B ∈ bodies, B.ro encB 1 ρ) (hro : Ro ρ 1 stops_a stops_n stops_c (stops.flatMap encI)) (hrk : Ro ρ 1 keep_a keep_n keep_c (keep.flatMap encI)) : Spec0 Tryz.prog 4 #[.slice bodies_a bodies_n bodies_c, .slice stops_a stops_n stops_c, .slice keep_a keep_n keep_c] ρ [] (fun v Γ' => v = .bool true ∧ Γ' = []) := by
  refine spec_of (n := 143) (vs := [_, _, _]) (σ := [(0, _), (1, _), (2, _)]) Tryz.func4 rfl rfl rfl rfl fun E Δ => ?_
  rw [List.nil_append]
  refine sr ?_
  refine e_as rfl ?_
  refine l_n ?_
  refine c_seq ?_
  refine sr ?_
  refine l_step (s_fnq rfl wn Tryz.func12 rfl (by kernel_rfl) rfl (fun ρ' hL => awake_spec ρ') ?_)
  refine e_q (q_not rfl) ?_
  refine e_mv rfl ?_
  refine e_qw (wy rfl rfl rfl) (q_move rfl) ?_
  refine e_qw (wy rfl rfl rfl) (q_len Tryz.underlying37 rfl) ?_
  refine e_qw (wy rfl rfl rfl) (q_gtr rfl rfl) ?_
  refine e_q (q_pick rfl rfl rfl) ?_
  refine e_mv rfl ?_
  refine l_step (s_qg rfl (ask_f rfl rfl) (b := (!(decide (30 < (bodies_n : Int))))) (fun hb => q_move rfl) ?_)
  refine l_step (s_qg rfl (ask_f rfl rfl) (b := (!(decide (30 < (bodies_n : Int))))) (fun hb => OpQ.env (.cons rfl (gd_t hb) (.nil _) : EnvLe [(27, .slice keep_a keep_n keep_c)] _) (q_len Tryz.underlying38 rfl)) ?_)
  refine l_step (s_qg rfl (ask_f rfl rfl) (b := (!(decide (30 < (bodies_n : Int))))) (fun hb => OpQ.env (.cons rfl (gd_t hb) (.nil _) : EnvLe [(28, .int .i64 (keep_n : Int))] _) (q_gtr rfl rfl)) ?_)
  refine e_q (q_pick_or rfl rfl rfl (fun h => by first | (rw [h]; rfl) | exact congrArg not h)) ?_
  refine l_n ?_
  refine c_cond rfl (fun h0 => ?_) (fun h0 => ?_)
  · try simp only [decide_eq_true_eq, decide_eq_false_iff_not, Bool.or_eq_true, Bool.or_eq_false_iff] at h0
    refine sr ?_
    refine l_step (s_fnq rfl wn Tryz.func12 rfl (by kernel_rfl) rfl (fun ρ' hL => awake_spec ρ') ?_)
    refine e_as rfl ?_
    refine l_n ?_
    refine c_ret ?_
    refine k_then_r ?_
    exact t_rt [] rfl (.tmp rfl .nil) rfl ⟨rfl, boole (by rfl), rfl⟩ (by (repeat refine Ent.skip ?_); exact Ent.refl _)
  · try simp only [decide_eq_true_eq, decide_eq_false_iff_not, Bool.or_eq_true, Bool.or_eq_false_iff] at h0
    refine c_skip ?_
    refine k_then_n ?_
    refine sr ?_
    refine e_fn Tryz.func19 rfl sl_ (fun ρ' hL => Go.Dsk.X.new_spec 100000 ρ') ?_
    rintro _ _ hnew
    obtain ⟨bD, mbD, rfl, rfl⟩ := Go.Dsk.or_yes hnew (by omega)
    try simp only [List.cons_append, List.nil_append]
    refine e_mv rfl ?_
    refine e_q (q_extract rfl rfl) ?_
    refine e_q (q_extract rfl rfl) ?_
    refine e_as rfl ?_
    refine e_as rfl ?_
    refine l_n ?_
    refine sr ?_
    refine e_mv rfl ?_
    refine e_fn Tryz.func20 rfl sl_ (fun ρ' hL => open__spec bD 100000 mbD (-1) [] ρ' (Go.Dsk.fok.2 si_nil.ok)) ?_
    rintro _ _ ⟨s0, t0, h0, rfl, hn0, rfl⟩
    try simp only [List.cons_append, List.nil_append]
    obtain ⟨ht0, hh0⟩ := Prod.mk.inj (hn0.trans (new_none si_nil))
    rw [hh0]
    refine e_mv rfl ?_
    refine e_q (q_extract rfl rfl) ?_
    refine e_q (q_extract rfl rfl) ?_
    refine e_as rfl ?_
    refine e_as rfl ?_
    refine l_n ?_
    refine c_seq ?_
    refine sr ?_
    refine e_mv rfl ?_
    refine e_q (by first | exact q_eqlp rfl rfl Tryz.underlying42 | exact q_eqlp0 rfl rfl Tryz.underlying42) ?_
    refine e_mv rfl ?_
    refine e_qw (wy rfl rfl rfl) (q_move rfl) ?_
    refine e_qw (wy rfl rfl rfl) (q_neq rfl rfl) ?_
    refine e_q (q_pick rfl rfl rfl) ?_
    refine l_n ?_
    refine c_sure false rfl (by rfl) ?_
    simp only [Bool.false_eq_true, if_true, if_false]
    refine c_skip ?_
    refine k_then_n ?_
    refine sr ?_
    refine e_s (s_allocz (cs := encSnap1 zSnap1) (by kernel_rfl)) ?_
    rintro _ _ ⟨b11, rfl, rfl⟩
    refine l_n ?_
    refine sr ?_
    refine e_as rfl ?_
    refine e_as rfl ?_
    refine l_n ?_
    refine c_seq ?_
    refine sr ?_
    refine Tr.ent (Ent.nilrow 5 1 _) ?_
    refine e_as rfl ?_
    refine l_n ?_
    refine c_block ?_
    refine Tr.env (σ' := [(0, _), (1, _), (2, _), (7, _), (9, _), (11, _), (12, _), (13, _), (14, _)]) ev_ ?_
    refine t_loop (ι := Lp (Nat × FT × Int × Nat × Snap1 × Bool × Snap1)) (fun x => x.d.1 ≤ bodies_n ∧ LI (vw x.d.2.1) x.d.2.2.2.2.2.1 (pS x.d.2.2.2.2.2.2) x.d.1 ∧ pS x.d.2.2.2.2.1 = pS x.d.2.2.2.2.2.2 ∧ Cc x.d.2.2.1 ∧ x.d.2.2.2.2.2.2.Body.ro encB 1 ρ) (fun x => bodies_n - x.d.1) (fun x => [(0, .slice bodies_a bodies_n bodies_c), (1, .slice stops_a stops_n stops_c), (2, .slice keep_a keep_n keep_c), (7, .pointer (some ⟨bD, 0, none⟩)), (9, .pointer (some ⟨x.d.2.2.2.1, 0, none⟩)), (11, .pointer (some ⟨b11, 0, none⟩)), (12, .int .i64 (2 * (x.d.1 : Int))), (13, .bool x.d.2.2.2.2.2.1), (14, .int .i64 (x.d.1 : Int))]) (fun x => .row 5 1 x.d.2.2.2.2.2.2.Conf.a x.d.2.2.2.2.2.2.Conf.xs.length x.d.2.2.2.2.2.2.Conf.cap (x.d.2.2.2.2.2.2.Conf.xs.flatMap encB) :: .pts b11 (encSnap1 x.d.2.2.2.2.2.2) 26 :: .row 5 1 x.d.2.2.2.2.1.Conf.a x.d.2.2.2.2.1.Conf.xs.length x.d.2.2.2.2.1.Conf.cap (x.d.2.2.2.2.1.Conf.xs.flatMap encB) :: .row 5 1 x.d.2.2.2.2.1.Body.a x.d.2.2.2.2.1.Body.xs.length x.d.2.2.2.2.1.Body.cap (x.d.2.2.2.2.1.Body.xs.flatMap encB) :: .pts x.d.2.2.2.1 (encShelf1 (⟨(some bD), x.d.2.2.2.2.1, x.d.2.2.2.2.2.1⟩ : Shelf1)) 145 :: .pts bD (encDisk1 (⟨100000, (some mbD), x.d.2.2.1⟩ : Disk1)) 143 :: MP strB ptV mbD (fm x.d.2.1) :: FB 154 5 x.d.2.1 :: Δ) (⟨(0, [], -1, s0, t0, false, zSnap1), none, 0, none, 0, none, 0⟩ : Lp _) ⟨Nat.zero_le _, li_nil, ht0, cc_neg, SL.ro_nil encB 1 ρ⟩ ?_ ?_ ?_
    · exact .c (.c (.c (.c (.c (.c (.c (.c (.c (.nil _)))))))))
    · exact en_
    intro x hx
    obtain ⟨hx1, hx2, hx3, hx4, hx5⟩ := hx
    refine c_seq ?_
    refine sr ?_
    refine e_mv rfl ?_
    refine e_mv rfl ?_
    refine e_q (q_len Tryz.underlying37 rfl) ?_
    refine e_q (q_lss rfl rfl) ?_
    refine l_n ?_
    refine c_cond rfl (fun h2 => ?_) (fun h2 => ?_)
    · try simp only [decide_eq_true_eq, decide_eq_false_iff_not] at h2
      refine c_skip ?_
      refine k_then_n ?_
      refine c_seq ?_
      refine c_block ?_
      refine c_seq ?_
      refine sr ?_
      have hBr := hbm (bodies.getD x.d.1 default) (getD_in (by omega))
      refine e_mv rfl ?_
      refine e_mv rfl ?_
      refine e_q (q_indexe x.d.1 Tryz.underlying37 sz_22 rfl rfl (by first | assumption | exact rd_ro (by assumption) | exact rd_row pk_) (by decide) rfl (by first | assumption | omega | (simp only [List.length_cons, List.length_nil]; omega))) ?_
      refine e_q (q_loade (enc := encSL) (xs := bodies) (j := x.d.1) (off := 0) sc_22 rfl (by first | assumption | exact rd_ro (by assumption) | exact rd_row pk_) (fun _ => rfl) (by first | assumption | omega | (simp only [List.length_cons, List.length_nil]; omega)) (by decide) rfl) ?_
      refine e_q (q_len Tryz.underlying22 rfl) ?_
      refine e_q (q_gtr rfl rfl) ?_
      refine l_n ?_
      refine c_cond rfl (fun h3 => ?_) (fun h3 => ?_)
      · try simp only [decide_eq_true_eq, decide_eq_false_iff_not] at h3
        refine sr ?_
        refine e_as rfl ?_
        refine l_n ?_
        refine c_ret ?_
        refine k_then_r ?_
        refine k_blk_r ?_
        refine k_then_r ?_
        refine k_then_r ?_
        refine k_blk_r ?_
        refine k_then_r ?_
        exact t_rt [] rfl (.tmp rfl .nil) rfl ⟨rfl, boole (by rfl), rfl⟩ (by (repeat refine Ent.skip ?_); exact Ent.refl _)
      · try simp only [decide_eq_true_eq, decide_eq_false_iff_not] at h3
        refine c_skip ?_
        refine k_then_n ?_
        refine c_seq ?_
        refine sr ?_
        refine e_mv rfl ?_
        refine e_mv rfl ?_
        refine e_q (q_len Tryz.underlying38 rfl) ?_
        refine e_q (q_lss rfl rfl) ?_
        refine e_mv rfl ?_
        refine l_step (s_qg rfl (ask_t rfl rfl) (b := (decide ((x.d.1 : Int) < (stops_n : Int)))) (fun hb => q_move rfl) ?_)
        refine l_step (s_qg rfl (ask_t rfl rfl) (b := (decide ((x.d.1 : Int) < (stops_n : Int)))) (fun hb => q_move rfl) ?_)
        refine l_step (s_qg rfl (ask_t rfl rfl) (b := (decide ((x.d.1 : Int) < (stops_n : Int)))) (fun hb => OpQ.env (.cons rfl (gd_t hb) (.cons rfl (gd_t hb) (.nil _)) : EnvLe [(64, .slice stops_a stops_n stops_c), (65, .int .i64 (x.d.1 : Int))] _) (q_indexe x.d.1 Tryz.underlying38 sz_3 rfl rfl (by first | assumption | exact rd_ro (by assumption) | exact rd_row pk_) (by decide) rfl (by first | assumption | omega | (have hb2 := hb; (try simp only [Bool.and_eq_true, Bool.or_eq_true, Bool.not_eq_true', Bool.and_eq_false_iff, Bool.or_eq_false_iff, Bool.not_eq_false', decide_eq_true_eq, decide_eq_false_iff_not, Bool.not_eq_eq_eq_not, Bool.not_true, Bool.not_false, Bool.not_eq_true, Bool.not_eq_false, beq_iff_eq, bne_iff_ne, ne_eq, Decidable.not_not] at hb2); omega) | (simp only [List.length_cons, List.length_nil]; omega)))) ?_)
        refine l_step (s_qg rfl (ask_t rfl rfl) (b := (decide ((x.d.1 : Int) < (stops_n : Int)))) (fun hb => OpQ.env (.cons rfl (gd_t hb) (.nil _) : EnvLe [(66, pe stops_a x.d.1 1 0)] _) (q_loade (enc := encI) (xs := stops) (j := x.d.1) (off := 0) sc_3 rfl (by first | assumption | exact rd_ro (by assumption) | exact rd_row pk_) (fun _ => rfl) (by first | assumption | omega | (have hb2 := hb; (try simp only [Bool.and_eq_true, Bool.or_eq_true, Bool.not_eq_true', Bool.and_eq_false_iff, Bool.or_eq_false_iff, Bool.not_eq_false', decide_eq_true_eq, decide_eq_false_iff_not, Bool.not_eq_eq_eq_not, Bool.not_true, Bool.not_false, Bool.not_eq_true, Bool.not_eq_false, beq_iff_eq, bne_iff_ne, ne_eq, Decidable.not_not] at hb2); omega) | (simp only [List.length_cons, List.length_nil]; omega)) (by decide) rfl)) ?_)
        refine l_step (s_qg rfl (ask_t rfl rfl) (b := (decide ((x.d.1 : Int) < (stops_n : Int)))) (fun hb => OpQ.env (.cons rfl (gd_t hb) (.nil _) : EnvLe [(67, .int .i64 (stops.getD x.d.1 default))] _) (q_geq rfl rfl)) ?_)
        refine e_q (q_pick_and rfl rfl rfl (fun h => h)) ?_
        refine l_n ?_
        refine t_cutq (ι := Int) (fun k9 => Cc k9) (fun k9 => [(0, .slice bodies_a bodies_n bodies_c), (1, .slice stops_a stops_n stops_c), (2, .slice keep_a keep_n keep_c), (7, .pointer (some ⟨bD, 0, none⟩)), (9, .pointer (some ⟨x.d.2.2.2.1, 0, none⟩)), (11, .pointer (some ⟨b11, 0, none⟩)), (12, .int .i64 (2 * (x.d.1 : Int))), (13, .bool x.d.2.2.2.2.2.1), (14, .int .i64 (x.d.1 : Int)), (47, .int .i64 (x.d.1 : Int)), (48, .slice bodies_a bodies_n bodies_c), (49, .int .i64 (bodies_n : Int)), (50, .bool (decide ((x.d.1 : Int) < (bodies_n : Int)))), (53, .slice bodies_a bodies_n bodies_c), (54, .int .i64 (x.d.1 : Int)), (55, pe bodies_a x.d.1 1 0), (56, .slice ((bodies.getD x.d.1 default).a) ((bodies.getD x.d.1 default).xs.length) ((bodies.getD x.d.1 default).cap)), (57, .int .i64 ((bodies.getD x.d.1 default).xs.length : Int)), (58, .bool (decide (1000 < ((bodies.getD x.d.1 default).xs.length : Int)))), (59, .int .i64 (x.d.1 : Int)), (60, .slice stops_a stops_n stops_c), (61, .int .i64 (stops_n : Int)), (62, .bool (decide ((x.d.1 : Int) < (stops_n : Int)))), (63, .bool (decide ((x.d.1 : Int) < (stops_n : Int)))), (64, gd (decide ((x.d.1 : Int) < (stops_n : Int))) (.slice stops_a stops_n stops_c)), (65, gd (decide ((x.d.1 : Int) < (stops_n : Int))) (.int .i64 (x.d.1 : Int))), (66, gd (decide ((x.d.1 : Int) < (stops_n : Int))) (pe stops_a x.d.1 1 0)), (67, gd (decide ((x.d.1 : Int) < (stops_n : Int))) (.int .i64 (stops.getD x.d.1 default))), (68, gd (decide ((x.d.1 : Int) < (stops_n : Int))) (.bool (decide (0 ≤ (stops.getD x.d.1 default))))), (69, .bool ((decide ((x.d.1 : Int) < (stops_n : Int))) && (decide (0 ≤ (stops.getD x.d.1 default)))))]) (fun k9 => .row 5 1 x.d.2.2.2.2.2.2.Conf.a x.d.2.2.2.2.2.2.Conf.xs.length x.d.2.2.2.2.2.2.Conf.cap (x.d.2.2.2.2.2.2.Conf.xs.flatMap encB) :: .pts b11 (encSnap1 x.d.2.2.2.2.2.2) 26 :: .row 5 1 x.d.2.2.2.2.1.Conf.a x.d.2.2.2.2.1.Conf.xs.length x.d.2.2.2.2.1.Conf.cap (x.d.2.2.2.2.1.Conf.xs.flatMap encB) :: .row 5 1 x.d.2.2.2.2.1.Body.a x.d.2.2.2.2.1.Body.xs.length x.d.2.2.2.2.1.Body.cap (x.d.2.2.2.2.1.Body.xs.flatMap encB) :: .pts x.d.2.2.2.1 (encShelf1 (⟨(some bD), x.d.2.2.2.2.1, x.d.2.2.2.2.2.1⟩ : Shelf1)) 145 :: .pts bD (encDisk1 (⟨100000, (some mbD), k9⟩ : Disk1)) 143 :: MP strB ptV mbD (fm x.d.2.1) :: FB 154 5 x.d.2.1 :: Δ) ?_ ?_
        · skip
          refine c_cond rfl (fun h4 => ?_) (fun h4 => ?_)
          · try simp only [decide_eq_true_eq, decide_eq_false_iff_not, Bool.and_eq_true, Bool.and_eq_false_iff] at h4
            have m1 := Int.tmod_lt_of_pos (stops.getD x.d.1 default) (show (0 : Int) < 8 by decide)
            have m2 : 0 ≤ (stops.getD x.d.1 default).tmod 8 := Int.tmod_nonneg 8 (by omega)
            refine c_region ?_
            refine e_mv rfl ?_
            refine e_mv rfl ?_
            refine e_mv rfl ?_
            refine e_q (q_indexe x.d.1 Tryz.underlying38 sz_3 rfl rfl (by first | assumption | exact rd_ro (by assumption) | exact rd_row pk_) (by decide) rfl (by first | assumption | omega | (simp only [List.length_cons, List.length_nil]; omega))) ?_
            refine e_q (q_loade (enc := encI) (xs := stops) (j := x.d.1) (off := 0) sc_3 rfl (by first | assumption | exact rd_ro (by assumption) | exact rd_row pk_) (fun _ => rfl) (by first | assumption | omega | (simp only [List.length_cons, List.length_nil]; omega)) (by decide) rfl) ?_
            refine e_q (q_rem rfl rfl (by omega)) ?_
            refine e_fn Tryz.func21 rfl sl_ (fun ρ' hL => Go.Dsk.stop_spec bD 100000 mbD x.d.2.2.1 x.d.2.1 ((stops.getD x.d.1 default).tmod 8) ρ') ?_
            rintro _ _ ⟨rfl, rfl⟩
            try simp only [List.cons_append, List.nil_append]
            rw [show (if (-1 : Int) > ((stops.getD x.d.1 default).tmod 8) then (-1) else ((stops.getD x.d.1 default).tmod 8)) = ((stops.getD x.d.1 default).tmod 8) from if_neg (by omega)]
            refine l_n ?_
            exact t_next ((stops.getD x.d.1 default).tmod 8) ⟨by omega, by omega⟩ (.c (.c (.c (.c (.c (.c (.c (.c (.c (.c (.c (.c (.c (.c (.c (.c (.c (.c (.c (.c (.c (.c (.c (.c (.c (.c (.c (.c (.c (.c (.nil _))))))))))))))))))))))))))))))) (by refine Ent.pick pk_ ?_; refine Ent.pick pk_ ?_; refine Ent.pick pk_ ?_; refine Ent.pick pk_ ?_; refine Ent.pick pk_ ?_; refine Ent.pick pk_ ?_; refine Ent.pick pk_ ?_; refine Ent.pick pk_ ?_; repeat (first | exact Ent.refl _ | refine Ent.skip ?_))
          · try simp only [decide_eq_true_eq, decide_eq_false_iff_not, Bool.and_eq_true, Bool.and_eq_false_iff] at h4
            refine c_skip ?_
            refine k_then_n ?_
            exact t_next x.d.2.2.1 hx4 (.c (.c (.c (.c (.c (.c (.c (.c (.c (.c (.c (.c (.c (.c (.c (.c (.c (.c (.c (.c (.c (.c (.c (.c (.c (.c (.c (.c (.c (.c (.nil _))))))))))))))))))))))))))))))) (by refine Ent.pick pk_ ?_; refine Ent.pick pk_ ?_; refine Ent.pick pk_ ?_; refine Ent.pick pk_ ?_; refine Ent.pick pk_ ?_; refine Ent.pick pk_ ?_; refine Ent.pick pk_ ?_; refine Ent.pick pk_ ?_; repeat (first | exact Ent.refl _ | refine Ent.skip ?_))
        intro k9 hK9
        refine k_then_n ?_
        refine sr ?_
        refine e_mv rfl ?_
        refine e_q (q_add rfl rfl (by omega) (by omega)) ?_
        refine e_as rfl ?_
        refine l_n ?_
        refine sr ?_
        refine e_mv rfl ?_
        refine e_mv rfl ?_
        refine e_q (q_quop rfl rfl (by omega) (by omega) (by omega)) ?_
        refine e_q (q_add rfl rfl (by omega) (by omega)) ?_
        refine e_q (q_build (cs := encMark1 (⟨((2 * (x.d.1 : Int)) + 2), (1 + ((x.d.1 : Int) / 3))⟩ : Mark1)) zc_24 pl_24 rfl rfl) ?_
        refine e_mv rfl ?_
        refine e_q (q_as (v := .int .u8 (((UInt8.ofNat x.d.1).toNat : Nat) : Int)) (q_conv rfl Tryz.underlying3 Tryz.underlying5 (wrap_u8 (by omega) (by omega))) (inte (of_byte (by omega)))) ?_
        refine e_s (s_buildSlice (cs := ([(UInt8.ofNat x.d.1)] : List UInt8).flatMap encB) Tryz.underlying22 eo_5 rfl rfl rfl rfl (by decide) (by decide)) ?_
        rintro _ _ ⟨b86, rfl, rfl⟩
        refine e_mv rfl ?_
        refine e_mv rfl ?_
        refine e_q (q_indexe x.d.1 Tryz.underlying37 sz_22 rfl rfl (by first | assumption | exact rd_ro (by assumption) | exact rd_row pk_) (by decide) rfl (by first | assumption | omega | (simp only [List.length_cons, List.length_nil]; omega))) ?_
        refine e_q (q_loade (enc := encSL) (xs := bodies) (j := x.d.1) (off := 0) sc_22 rfl (by first | assumption | exact rd_ro (by assumption) | exact rd_row pk_) (fun _ => rfl) (by first | assumption | omega | (simp only [List.length_cons, List.length_nil]; omega)) (by decide) rfl) ?_
        refine e_q (q_build (cs := encSnap1 (⟨(⟨((2 * (x.d.1 : Int)) + 2), (1 + ((x.d.1 : Int) / 3))⟩ : Mark1), ⟨(some ⟨b86, 0, none⟩), [(UInt8.ofNat x.d.1)], 1⟩, (bodies.getD x.d.1 default)⟩ : Snap1)) zc_26 pl_26 rfl rfl) ?_
        refine e_s (s_allocz (cs := encSnap1 zSnap1) (by kernel_rfl)) ?_
        rintro _ _ ⟨b15, rfl, rfl⟩
        refine l_step (s_s0 wn (s_storep (ws := encSnap1 (⟨(⟨((2 * (x.d.1 : Int)) + 2), (1 + ((x.d.1 : Int) / 3))⟩ : Mark1), ⟨(some ⟨b86, 0, none⟩), [(UInt8.ofNat x.d.1)], 1⟩, (bodies.getD x.d.1 default)⟩ : Snap1)) (cs := encSnap1 zSnap1) (cs' := encSnap1 (⟨(⟨((2 * (x.d.1 : Int)) + 2), (1 + ((x.d.1 : Int) / 3))⟩ : Mark1), ⟨(some ⟨b86, 0, none⟩), [(UInt8.ofNat x.d.1)], 1⟩, (bodies.getD x.d.1 default)⟩ : Snap1)) rfl rfl rfl sz_26 (oneSnap1 _) (by simp [encSnap1, encSnap1]) rfl pk_) ?_)
        rintro _ _ ⟨rfl, rfl⟩
        refine l_n ?_
        refine sr ?_
        have hXo : XOk (pS (⟨(⟨((2 * (x.d.1 : Int)) + 2), (1 + ((x.d.1 : Int) / 3))⟩ : Mark1), ⟨(some ⟨b86, 0, none⟩), [(UInt8.ofNat x.d.1)], 1⟩, (bodies.getD x.d.1 default)⟩ : Snap1)) := ⟨by show (1 : Int) ≤ 2 * (x.d.1 : Int) + 2; omega, by show 2 * (x.d.1 : Int) + 2 ≤ 99; omega, by show (1 : Int) ≤ 1 + (x.d.1 : Int) / 3; omega, by show 1 + (x.d.1 : Int) / 3 ≤ 1000; omega, Nat.le_refl 1, by show (bodies.getD x.d.1 default).xs.length ≤ 1000; omega⟩
        refine e_mv rfl ?_
        refine e_q (q_loadpa (vs := encSnap1 (⟨(⟨((2 * (x.d.1 : Int)) + 2), (1 + ((x.d.1 : Int) / 3))⟩ : Mark1), ⟨(some ⟨b86, 0, none⟩), [(UInt8.ofNat x.d.1)], 1⟩, (bodies.getD x.d.1 default)⟩ : Snap1)) ag_26 rfl pk_ rfl) ?_
        refine e_fn Tryz.func22 rfl sl_ (fun ρ' hL => put2_spec bD mbD k9 x.d.2.1 x.d.2.2.2.1 x.d.2.2.2.2.1 x.d.2.2.2.2.2.1 (pS x.d.2.2.2.2.2.2) x.d.1 (⟨(⟨((2 * (x.d.1 : Int)) + 2), (1 + ((x.d.1 : Int) / 3))⟩ : Mark1), ⟨(some ⟨b86, 0, none⟩), [(UInt8.ofNat x.d.1)], 1⟩, (bodies.getD x.d.1 default)⟩ : Snap1) ρ' hx2 hx3 (by omega) hK9 hXo rfl (hL.row pk_) (Ro.mono hL.1 hBr)) ?_
        rintro _ _ (⟨T1, c1, yP, rfl, rfl, hyP, hc1, hI1⟩ | ⟨T1, c1, rfl, rfl, hc1, hI1⟩)
        try simp only [List.cons_append, List.nil_append]
        · skip
          try simp only [List.cons_append, List.nil_append]
          refine e_as rfl ?_
          refine l_n ?_
          refine c_seq ?_
          refine sr ?_
          refine e_mv rfl ?_
          refine e_q (q_eql rfl rfl) ?_
          refine l_n ?_
          refine c_sure true rfl (by rfl) ?_
          simp only [Bool.false_eq_true, if_true, if_false]
          refine sr ?_
          refine e_q (q_loadpa (vs := encSnap1 (⟨(⟨((2 * (x.d.1 : Int)) + 2), (1 + ((x.d.1 : Int) / 3))⟩ : Mark1), ⟨(some ⟨b86, 0, none⟩), [(UInt8.ofNat x.d.1)], 1⟩, (bodies.getD x.d.1 default)⟩ : Snap1)) ag_26 rfl pk_ rfl) ?_
          refine l_step (s_s0 wn (s_storep (ws := encSnap1 (⟨(⟨((2 * (x.d.1 : Int)) + 2), (1 + ((x.d.1 : Int) / 3))⟩ : Mark1), ⟨(some ⟨b86, 0, none⟩), [(UInt8.ofNat x.d.1)], 1⟩, (bodies.getD x.d.1 default)⟩ : Snap1)) (cs := encSnap1 x.d.2.2.2.2.2.2) (cs' := encSnap1 (⟨(⟨((2 * (x.d.1 : Int)) + 2), (1 + ((x.d.1 : Int) / 3))⟩ : Mark1), ⟨(some ⟨b86, 0, none⟩), [(UInt8.ofNat x.d.1)], 1⟩, (bodies.getD x.d.1 default)⟩ : Snap1)) rfl rfl rfl sz_26 (oneSnap1 _) (by simp [encSnap1, encSnap1]) rfl pk_) ?_)
          rintro _ _ ⟨rfl, rfl⟩
          refine e_as rfl ?_
          refine l_n ?_
          refine c_region ?_
          refine e_mv rfl ?_
          refine e_fn Tryz.func23 rfl sl_ (fun ρ' hL => clean2_spec bD mbD c1 T1 x.d.2.2.2.1 yP (pS (⟨(⟨((2 * (x.d.1 : Int)) + 2), (1 + ((x.d.1 : Int) / 3))⟩ : Mark1), ⟨(some ⟨b86, 0, none⟩), [(UInt8.ofNat x.d.1)], 1⟩, (bodies.getD x.d.1 default)⟩ : Snap1)) (x.d.1 + 1) ρ' hI1 hyP hc1) ?_
          rintro _ _ (⟨T2, c2, rfl, rfl, hc2, hI2⟩ | ⟨T2, c2, rfl, rfl, hc2, hI2⟩)
          try simp only [List.cons_append, List.nil_append]
          · skip
            try simp only [List.cons_append, List.nil_append]
            refine e_as rfl ?_
            refine l_n ?_
            refine c_seq ?_
            refine sr ?_
            refine e_mv rfl ?_
            refine e_q (q_neq rfl rfl) ?_
            refine e_mv rfl ?_
            refine l_step (s_qg rfl (ask_t rfl rfl) (b := (decide (0 ≠ 0))) (fun hb => q_move rfl) ?_)
            refine l_step (s_qg rfl (ask_t rfl rfl) (b := (decide (0 ≠ 0))) (fun hb => OpQ.env (.cons rfl (gd_t hb) (.nil _) : EnvLe [(103, .int .i64 0)] _) (q_neq rfl rfl)) ?_)
            refine e_q (q_pick_and rfl rfl rfl (fun h => h)) ?_
            refine l_n ?_
            refine c_sure false rfl (by rfl) ?_
            simp only [Bool.false_eq_true, if_true, if_false]
            refine c_skip ?_
            refine k_then_n ?_
            refine c_seq ?_
            refine sr ?_
            refine e_mv rfl ?_
            refine e_q (q_eql rfl rfl) ?_
            refine l_n ?_
            refine c_sure true rfl (by rfl) ?_
            simp only [Bool.false_eq_true, if_true, if_false]
            refine c_exit ?_
            refine k_then_x ?_
            refine k_blk_x ?_
            refine k_then_n ?_
            refine c_region ?_
            refine e_mv rfl ?_
            refine e_q (q_add rfl rfl (by omega) (by omega)) ?_
            refine e_as rfl ?_
            refine l_n ?_
            exact t_next (⟨(x.d.1 + 1, T2, c2, x.d.2.2.2.1, yP, true, (⟨⟨(2 * (x.d.1 : Int) + 2), (1 + (x.d.1 : Int) / 3)⟩, ⟨(some ⟨b86, 0, none⟩), [(UInt8.ofNat x.d.1)], 1⟩, (bodies.getD x.d.1 default)⟩ : Snap1)), none, 0, none, 0, none, 0⟩ : Lp _) ⟨⟨by show x.d.1 + 1 ≤ _; omega, hI2, hyP, hc2, hBr⟩, by show _ - (x.d.1 + 1) < _; omega⟩ (.c (.c (.c (.c (.c (.c (.cons rfl (inte (by push_cast; omega)) (.c (.c (.nil _)))))))))) (by refine Ent.pick pk_ ?_; refine Ent.pick pk_ ?_; refine Ent.pick pk_ ?_; refine Ent.pick pk_ ?_; refine Ent.pick pk_ ?_; refine Ent.pick pk_ ?_; refine Ent.pick pk_ ?_; refine Ent.pick pk_ ?_; repeat (first | exact Ent.refl _ | refine Ent.skip ?_))
          · skip
            try simp only [List.cons_append, List.nil_append]
            refine e_as rfl ?_
            refine l_n ?_
            refine c_seq ?_
            refine sr ?_
            refine e_mv rfl ?_
            refine e_q (q_neq rfl rfl) ?_
            refine e_mv rfl ?_
            refine l_step (s_qg rfl (ask_t rfl rfl) (b := (decide (32 ≠ 0))) (fun hb => q_move rfl) ?_)
            refine l_step (s_qg rfl (ask_t rfl rfl) (b := (decide (32 ≠ 0))) (fun hb => OpQ.env (.cons rfl (gd_t hb) (.nil _) : EnvLe [(103, .int .i64 32)] _) (q_neq rfl rfl)) ?_)
            refine e_q (q_pick_and rfl rfl rfl (fun h => h)) ?_
            refine l_n ?_
            refine c_sure false rfl (by rfl) ?_
            simp only [Bool.false_eq_true, if_true, if_false]
            refine c_skip ?_
            refine k_then_n ?_
            refine c_seq ?_
            refine sr ?_
            refine e_mv rfl ?_
            refine e_q (q_eql rfl rfl) ?_
            refine l_n ?_
            refine c_sure false rfl (by rfl) ?_
            simp only [Bool.false_eq_true, if_true, if_false]
            refine c_skip ?_
            refine k_then_n ?_
            refine sr ?_
            refine e_mv rfl ?_
            refine e_mv rfl ?_
            refine e_fn Tryz.func24 rfl sl_ (fun ρ' hL => Go.Dsk.V.crash_spec bD 100000 mbD c2 T2 keep_a keep_n keep_c keep hkeep_n ρ' hI2.fok (Ro.mono hL.1 hrk)) ?_
            rintro _ _ ⟨T3, rfl, hvT3, rfl⟩
            try simp only [List.cons_append, List.nil_append]
            generalize (crR keep (vw T2)).2 = gT3
            have hI3 := hI2.crash keep
            rw [← hvT3] at hI3
            refine l_n ?_
            refine sr ?_
            refine e_mv rfl ?_
            refine e_fn Tryz.func20 rfl sl_ (fun ρ' hL => open__spec bD 100000 mbD (-1) T3 ρ' hI3.fok) ?_
            rintro _ _ ⟨s2, t2, h2, rfl, hn2, rfl⟩
            try simp only [List.cons_append, List.nil_append]
            obtain ⟨ht2, hh2⟩ := Prod.mk.inj (hn2.trans hI3.new)
            rw [hh2]
            have hl2 := hI3.ln
            rw [← ht2] at hl2
            have hl3 : t2.Conf.xs.length ≤ 1 := hl2.1
            have hl4 : t2.Body.xs.length ≤ 1000 := hl2.2
            refine e_mv rfl ?_
            refine e_q (q_extract rfl rfl) ?_
            refine e_q (q_extract rfl rfl) ?_
            refine e_as rfl ?_
            refine e_as rfl ?_
            refine l_n ?_
            refine c_seq ?_
            refine sr ?_
            refine e_mv rfl ?_
            refine e_q (by first | exact q_eqlp rfl rfl Tryz.underlying42 | exact q_eqlp0 rfl rfl Tryz.underlying42) ?_
            refine e_mv rfl ?_
            refine e_qw (wy rfl rfl rfl) (q_move rfl) ?_
            refine e_qw (wy rfl rfl rfl) (q_neq rfl rfl) ?_
            refine e_q (q_pick rfl rfl rfl) ?_
            refine l_n ?_
            refine c_sure false rfl (by rfl) ?_
            simp only [Bool.false_eq_true, if_true, if_false]
            refine c_skip ?_
            refine k_then_n ?_
            refine sr ?_
            refine e_mv rfl ?_
            refine e_fn Tryz.func25 rfl sl_ (fun ρ' hL => newest_spec bD s2 t2 true ρ' (by omega) (by omega)) ?_
            rintro _ _ ⟨y, rfl, hy1, hy2, hy3, rfl⟩
            try simp only [List.cons_append, List.nil_append]
            have hy4 : pS y = _ := (show pS y = pS t2 by unfold pS; rw [hy1, hy2, hy3]).trans ht2
            refine e_mv rfl ?_
            refine e_q (q_extract rfl rfl) ?_
            refine e_q (q_extract rfl rfl) ?_
            refine e_s (s_allocz (cs := encSnap1 zSnap1) (by kernel_rfl)) ?_
            rintro _ _ ⟨b17, rfl, rfl⟩
            refine l_step (s_s0 wn (s_storep (ws := encSnap1 y) (cs := encSnap1 zSnap1) (cs' := encSnap1 y) rfl rfl rfl sz_26 (oneSnap1 _) (by simp [encSnap1, encSnap1]) rfl pk_) ?_)
            rintro _ _ ⟨rfl, rfl⟩
            refine e_as rfl ?_
            refine l_n ?_
            refine c_seq ?_
            refine sr ?_
            refine e_mv rfl ?_
            refine e_mv rfl ?_
            refine e_qw (wy rfl rfl rfl) (q_loadpa (vs := encSnap1 y) ag_26 rfl pk_ rfl) ?_
            refine e_qw (wy rfl rfl rfl) (q_loadpa (vs := encSnap1 (⟨(⟨((2 * (x.d.1 : Int)) + 2), (1 + ((x.d.1 : Int) / 3))⟩ : Mark1), ⟨(some ⟨b86, 0, none⟩), [(UInt8.ofNat x.d.1)], 1⟩, (bodies.getD x.d.1 default)⟩ : Snap1)) ag_26 rfl pk_ rfl) ?_
            refine e_fnw (wy rfl rfl rfl) Tryz.func15 rfl sl_ (fun ρ' hL => same_spec y (⟨(⟨((2 * (x.d.1 : Int)) + 2), (1 + ((x.d.1 : Int) / 3))⟩ : Mark1), ⟨(some ⟨b86, 0, none⟩), [(UInt8.ofNat x.d.1)], 1⟩, (bodies.getD x.d.1 default)⟩ : Snap1) ρ' (hL.row pk_) (hL.row pk_) (hL.row pk_) (Ro.mono hL.1 hBr)) ?_
            rintro _ _ ⟨rfl, rfl⟩
            try simp only [List.cons_append, List.nil_append]
            refine e_q (q_pick rfl rfl rfl) ?_
            refine l_n ?_
            refine c_sure true rfl (decide_eq_true hy4) ?_
            simp only [Bool.false_eq_true, if_true, if_false]
            refine c_region ?_
            refine e_q (q_loadpa (vs := encSnap1 (⟨(⟨((2 * (x.d.1 : Int)) + 2), (1 + ((x.d.1 : Int) / 3))⟩ : Mark1), ⟨(some ⟨b86, 0, none⟩), [(UInt8.ofNat x.d.1)], 1⟩, (bodies.getD x.d.1 default)⟩ : Snap1)) ag_26 rfl pk_ rfl) ?_
            refine l_step (s_s0 wn (s_storep (ws := encSnap1 (⟨(⟨((2 * (x.d.1 : Int)) + 2), (1 + ((x.d.1 : Int) / 3))⟩ : Mark1), ⟨(some ⟨b86, 0, none⟩), [(UInt8.ofNat x.d.1)], 1⟩, (bodies.getD x.d.1 default)⟩ : Snap1)) (cs := encSnap1 (⟨(⟨((2 * (x.d.1 : Int)) + 2), (1 + ((x.d.1 : Int) / 3))⟩ : Mark1), ⟨(some ⟨b86, 0, none⟩), [(UInt8.ofNat x.d.1)], 1⟩, (bodies.getD x.d.1 default)⟩ : Snap1)) (cs' := encSnap1 (⟨(⟨((2 * (x.d.1 : Int)) + 2), (1 + ((x.d.1 : Int) / 3))⟩ : Mark1), ⟨(some ⟨b86, 0, none⟩), [(UInt8.ofNat x.d.1)], 1⟩, (bodies.getD x.d.1 default)⟩ : Snap1)) rfl rfl rfl sz_26 (oneSnap1 _) (by simp [encSnap1, encSnap1]) rfl pk_) ?_)
            rintro _ _ ⟨rfl, rfl⟩
            refine e_as rfl ?_
            refine l_n ?_
            refine sr ?_
            refine e_mv rfl ?_
            refine e_mv rfl ?_
            refine e_q (q_neqb rfl rfl Tryz.underlying4) ?_
            refine e_mv rfl ?_
            refine Tr.env (.cons (t := 137) (v := .bool false) rfl (congrArg Value.bool (by simp)) (EnvLe.refl _)) ?_
            refine e_qw (wy rfl rfl rfl) (q_loadpa (vs := encSnap1 y) ag_26 rfl pk_ rfl) ?_
            refine e_qw (wy rfl rfl rfl) (q_loadpa (vs := encSnap1 (⟨(⟨((2 * (x.d.1 : Int)) + 2), (1 + ((x.d.1 : Int) / 3))⟩ : Mark1), ⟨(some ⟨b86, 0, none⟩), [(UInt8.ofNat x.d.1)], 1⟩, (bodies.getD x.d.1 default)⟩ : Snap1)) ag_26 rfl pk_ rfl) ?_
            refine e_fnw (wy rfl rfl rfl) Tryz.func15 rfl sl_ (fun ρ' hL => same_spec y (⟨⟨(2 * (x.d.1 : Int) + 2), (1 + (x.d.1 : Int) / 3)⟩, ⟨(some ⟨b86, 0, none⟩), [(UInt8.ofNat x.d.1)], 1⟩, (bodies.getD x.d.1 default)⟩ : Snap1) ρ' (hL.row pk_) (hL.row pk_) (hL.row pk_) (Ro.mono hL.1 hBr)) ?_
            rintro _ _ ⟨rfl, rfl⟩
            try simp only [List.cons_append, List.nil_append]
            refine e_qw (wy rfl rfl rfl) (q_not rfl) ?_
            refine e_q (q_pick rfl rfl rfl) ?_
            refine l_n ?_
            refine c_sure false rfl (by rw [decide_eq_true hy4]; simp) ?_
            simp only [Bool.false_eq_true, if_true, if_false]
            refine c_skip ?_
            refine k_blk_n ?_
            refine k_then_n ?_
            refine c_region ?_
            refine e_mv rfl ?_
            refine e_q (q_add rfl rfl (by omega) (by omega)) ?_
            refine e_as rfl ?_
            refine l_n ?_
            exact t_next (⟨(x.d.1 + 1, T3, -1, s2, t2, true, (⟨⟨(2 * (x.d.1 : Int) + 2), (1 + (x.d.1 : Int) / 3)⟩, ⟨(some ⟨b86, 0, none⟩), [(UInt8.ofNat x.d.1)], 1⟩, (bodies.getD x.d.1 default)⟩ : Snap1)), none, 0, none, 0, none, 0⟩ : Lp _) ⟨⟨by show x.d.1 + 1 ≤ _; omega, hI3, ht2, cc_neg, hBr⟩, by show _ - (x.d.1 + 1) < _; omega⟩ (.c (.c (.c (.c (.c (.c (.cons rfl (inte (by push_cast; omega)) (.c (.c (.nil _)))))))))) (by refine Ent.pick pk_ ?_; refine Ent.pick pk_ ?_; refine Ent.pick pk_ ?_; refine Ent.pick pk_ ?_; refine Ent.pick pk_ ?_; refine Ent.pick pk_ ?_; refine Ent.pick pk_ ?_; refine Ent.pick pk_ ?_; repeat (first | exact Ent.refl _ | refine Ent.skip ?_))
        · skip
          try simp only [List.cons_append, List.nil_append]
          refine e_as rfl ?_
          refine l_n ?_
          refine c_seq ?_
          refine sr ?_
          refine e_mv rfl ?_
          refine e_q (q_eql rfl rfl) ?_
          refine l_n ?_
          refine c_sure false rfl (by rfl) ?_
          simp only [Bool.false_eq_true, if_true, if_false]
          refine c_skip ?_
          refine k_then_n ?_
          refine c_seq ?_
          refine sr ?_
          refine e_mv rfl ?_
          refine e_q (q_neq rfl rfl) ?_
          refine e_mv rfl ?_
          refine l_step (s_qg rfl (ask_t rfl rfl) (b := (decide (32 ≠ 0))) (fun hb => q_move rfl) ?_)
          refine l_step (s_qg rfl (ask_t rfl rfl) (b := (decide (32 ≠ 0))) (fun hb => OpQ.env (.cons rfl (gd_t hb) (.nil _) : EnvLe [(103, .int .i64 32)] _) (q_neq rfl rfl)) ?_)
          refine e_q (q_pick_and rfl rfl rfl (fun h => h)) ?_
          refine l_n ?_
          refine c_sure false rfl (by rfl) ?_
          simp only [Bool.false_eq_true, if_true, if_false]
          refine c_skip ?_
          refine k_then_n ?_
          refine c_seq ?_
          refine sr ?_
          refine e_mv rfl ?_
          refine e_q (q_eql rfl rfl) ?_
          refine l_n ?_
          refine c_sure false rfl (by rfl) ?_
          simp only [Bool.false_eq_true, if_true, if_false]
          refine c_skip ?_
          refine k_then_n ?_
          refine sr ?_
          refine e_mv rfl ?_
          refine e_mv rfl ?_
          refine e_fn Tryz.func24 rfl sl_ (fun ρ' hL => Go.Dsk.V.crash_spec bD 100000 mbD c1 T1 keep_a keep_n keep_c keep hkeep_n ρ' hI1.fok (Ro.mono hL.1 hrk)) ?_
          rintro _ _ ⟨T3, rfl, hvT3, rfl⟩
          try simp only [List.cons_append, List.nil_append]
          generalize (crR keep (vw T1)).2 = gT3
          have hI3 := hI1.crash keep
          rw [← hvT3] at hI3
          refine l_n ?_
          refine sr ?_
          refine e_mv rfl ?_
          refine e_fn Tryz.func20 rfl sl_ (fun ρ' hL => open__spec bD 100000 mbD (-1) T3 ρ' hI3.fok) ?_
          rintro _ _ ⟨s2, t2, h2, rfl, hn2, rfl⟩
          try simp only [List.cons_append, List.nil_append]
          obtain ⟨ht2, hh2⟩ := Prod.mk.inj (hn2.trans hI3.new)
          rw [hh2]
          have hl2 := hI3.ln
          rw [← ht2] at hl2
          have hl3 : t2.Conf.xs.length ≤ 1 := hl2.1
          have hl4 : t2.Body.xs.length ≤ 1000 := hl2.2
          refine e_mv rfl ?_
          refine e_q (q_extract rfl rfl) ?_
          refine e_q (q_extract rfl rfl) ?_
          refine e_as rfl ?_
          refine e_as rfl ?_
          refine l_n ?_
          refine c_seq ?_
          refine sr ?_
          refine e_mv rfl ?_
          refine e_q (by first | exact q_eqlp rfl rfl Tryz.underlying42 | exact q_eqlp0 rfl rfl Tryz.underlying42) ?_
          refine e_mv rfl ?_
          refine e_qw (wy rfl rfl rfl) (q_move rfl) ?_
          refine e_qw (wy rfl rfl rfl) (q_neq rfl rfl) ?_
          refine e_q (q_pick rfl rfl rfl) ?_
          refine l_n ?_
          refine c_sure false rfl (by rfl) ?_
          simp only [Bool.false_eq_true, if_true, if_false]
          refine c_skip ?_
          refine k_then_n ?_
          refine sr ?_
          refine e_mv rfl ?_
          refine e_fn Tryz.func25 rfl sl_ (fun ρ' hL => newest_spec bD s2 t2 x.d.2.2.2.2.2.1 ρ' (by omega) (by omega)) ?_
          rintro _ _ ⟨y, rfl, hy1, hy2, hy3, rfl⟩
          try simp only [List.cons_append, List.nil_append]
          have hy4 : pS y = _ := (show pS y = pS t2 by unfold pS; rw [hy1, hy2, hy3]).trans ht2
          refine e_mv rfl ?_
          refine e_q (q_extract rfl rfl) ?_
          refine e_q (q_extract rfl rfl) ?_
          refine e_s (s_allocz (cs := encSnap1 zSnap1) (by kernel_rfl)) ?_
          rintro _ _ ⟨b17, rfl, rfl⟩
          refine l_step (s_s0 wn (s_storep (ws := encSnap1 y) (cs := encSnap1 zSnap1) (cs' := encSnap1 y) rfl rfl rfl sz_26 (oneSnap1 _) (by simp [encSnap1, encSnap1]) rfl pk_) ?_)
          rintro _ _ ⟨rfl, rfl⟩
          refine e_as rfl ?_
          refine l_n ?_
          refine c_seq ?_
          refine sr ?_
          refine e_mv rfl ?_
          refine e_mv rfl ?_
          refine t_split (d := 128) rfl (fun g30_1 => ?_) (fun g30_1 => ?_)
          · skip
            refine e_qw (wy rfl rfl rfl) (q_loadpa (vs := encSnap1 y) ag_26 rfl pk_ rfl) ?_
            refine e_qw (wy rfl rfl rfl) (q_loadpa (vs := encSnap1 (⟨(⟨((2 * (x.d.1 : Int)) + 2), (1 + ((x.d.1 : Int) / 3))⟩ : Mark1), ⟨(some ⟨b86, 0, none⟩), [(UInt8.ofNat x.d.1)], 1⟩, (bodies.getD x.d.1 default)⟩ : Snap1)) ag_26 rfl pk_ rfl) ?_
            refine e_fnw (wy rfl rfl rfl) Tryz.func15 rfl sl_ (fun ρ' hL => same_spec y (⟨(⟨((2 * (x.d.1 : Int)) + 2), (1 + ((x.d.1 : Int) / 3))⟩ : Mark1), ⟨(some ⟨b86, 0, none⟩), [(UInt8.ofNat x.d.1)], 1⟩, (bodies.getD x.d.1 default)⟩ : Snap1) ρ' (hL.row pk_) (hL.row pk_) (hL.row pk_) (Ro.mono hL.1 hBr)) ?_
            rintro _ _ ⟨rfl, rfl⟩
            try simp only [List.cons_append, List.nil_append]
            refine e_q (q_pick rfl rfl rfl) ?_
            refine l_n ?_
            refine c_sure false rfl (decide_eq_false (fun h99 => by have h98 := congrArg PSnap.ix (hy4.symm.trans h99); have h97 := hx2.lt; rw [h98] at h97; have h96 : 2 * (x.d.1 : Int) + 2 ≤ 2 * (x.d.1 : Int) := h97; omega)) ?_
            simp only [Bool.false_eq_true, if_true, if_false]
            refine c_skip ?_
            refine k_then_n ?_
            refine sr ?_
            refine e_mv rfl ?_
            refine e_mv rfl ?_
            refine e_q (q_neqb rfl rfl Tryz.underlying4) ?_
            refine e_mv rfl ?_
            refine Tr.env (.cons (t := 137) (v := .bool false) rfl (congrArg Value.bool (by simp)) (EnvLe.refl _)) ?_
            refine e_qw (wy rfl rfl rfl) (q_loadpa (vs := encSnap1 y) ag_26 rfl pk_ rfl) ?_
            refine e_qw (wy rfl rfl rfl) (q_loadpa (vs := encSnap1 x.d.2.2.2.2.2.2) ag_26 rfl pk_ rfl) ?_
            refine e_fnw (wy rfl rfl rfl) Tryz.func15 rfl sl_ (fun ρ' hL => same_spec y x.d.2.2.2.2.2.2 ρ' (hL.row pk_) (hL.row pk_) (hL.row pk_) (Ro.mono hL.1 hx5)) ?_
            rintro _ _ ⟨rfl, rfl⟩
            try simp only [List.cons_append, List.nil_append]
            refine e_qw (wy rfl rfl rfl) (q_not rfl) ?_
            refine e_q (q_pick rfl rfl rfl) ?_
            refine l_n ?_
            refine c_sure false rfl (by rw [decide_eq_true hy4]; simp) ?_
            simp only [Bool.false_eq_true, if_true, if_false]
            refine c_skip ?_
            refine k_blk_n ?_
            refine k_then_n ?_
            refine c_region ?_
            refine e_mv rfl ?_
            refine e_q (q_add rfl rfl (by omega) (by omega)) ?_
            refine e_as rfl ?_
            refine l_n ?_
            exact t_next (⟨(x.d.1 + 1, T3, -1, s2, t2, x.d.2.2.2.2.2.1, x.d.2.2.2.2.2.2), none, 0, none, 0, none, 0⟩ : Lp _) ⟨⟨by show x.d.1 + 1 ≤ _; omega, hI3, ht2, cc_neg, hx5⟩, by show _ - (x.d.1 + 1) < _; omega⟩ (.c (.c (.c (.c (.c (.c (.cons rfl (inte (by push_cast; omega)) (.c (.c (.nil _)))))))))) (by refine Ent.pick pk_ ?_; refine Ent.pick pk_ ?_; refine Ent.pick pk_ ?_; refine Ent.pick pk_ ?_; refine Ent.pick pk_ ?_; refine Ent.pick pk_ ?_; refine Ent.pick pk_ ?_; refine Ent.pick pk_ ?_; repeat (first | exact Ent.refl _ | refine Ent.skip ?_))
          · skip
            refine l_step (s_no rfl (wno rfl rfl (by decide)) ?_)
            refine l_step (s_no rfl (wno rfl rfl (by decide)) ?_)
            refine l_step (s_no rfl (wno rfl rfl (by decide)) ?_)
            refine e_q (q_pick rfl rfl rfl) ?_
            refine l_n ?_
            refine c_sure false rfl (by rfl) ?_
            simp only [Bool.false_eq_true, if_true, if_false]
            refine c_skip ?_
            refine k_then_n ?_
            refine sr ?_
            refine e_mv rfl ?_
            refine e_mv rfl ?_
            refine e_q (q_neqb rfl rfl Tryz.underlying4) ?_
            refine e_mv rfl ?_
            refine Tr.env (.cons (t := 137) (v := .bool false) rfl (congrArg Value.bool (by simp)) (EnvLe.refl _)) ?_
            refine e_qw (wy rfl rfl rfl) (q_loadpa (vs := encSnap1 y) ag_26 rfl pk_ rfl) ?_
            refine e_qw (wy rfl rfl rfl) (q_loadpa (vs := encSnap1 x.d.2.2.2.2.2.2) ag_26 rfl pk_ rfl) ?_
            refine e_fnw (wy rfl rfl rfl) Tryz.func15 rfl sl_ (fun ρ' hL => same_spec y x.d.2.2.2.2.2.2 ρ' (hL.row pk_) (hL.row pk_) (hL.row pk_) (Ro.mono hL.1 hx5)) ?_
            rintro _ _ ⟨rfl, rfl⟩
            try simp only [List.cons_append, List.nil_append]
            refine e_qw (wy rfl rfl rfl) (q_not rfl) ?_
            refine e_q (q_pick rfl rfl rfl) ?_
            refine l_n ?_
            refine c_sure false rfl (by rw [decide_eq_true hy4]; simp) ?_
            simp only [Bool.false_eq_true, if_true, if_false]
            refine c_skip ?_
            refine k_blk_n ?_
            refine k_then_n ?_
            refine c_region ?_
            refine e_mv rfl ?_
            refine e_q (q_add rfl rfl (by omega) (by omega)) ?_
            refine e_as rfl ?_
            refine l_n ?_
            exact t_next (⟨(x.d.1 + 1, T3, -1, s2, t2, x.d.2.2.2.2.2.1, x.d.2.2.2.2.2.2), none, 0, none, 0, none, 0⟩ : Lp _) ⟨⟨by show x.d.1 + 1 ≤ _; omega, hI3, ht2, cc_neg, hx5⟩, by show _ - (x.d.1 + 1) < _; omega⟩ (.c (.c (.c (.c (.c (.c (.cons rfl (inte (by push_cast; omega)) (.c (.c (.nil _)))))))))) (by refine Ent.pick pk_ ?_; refine Ent.pick pk_ ?_; refine Ent.pick pk_ ?_; refine Ent.pick pk_ ?_; refine Ent.pick pk_ ?_; refine Ent.pick pk_ ?_; refine Ent.pick pk_ ?_; refine Ent.pick pk_ ?_; repeat (first | exact Ent.refl _ | refine Ent.skip ?_))
    · try simp only [decide_eq_true_eq, decide_eq_false_iff_not] at h2
      refine c_exit ?_
      refine k_then_x ?_
      refine k_then_x ?_
      refine k_blk_x ?_
      refine k_then_n ?_
      refine sr ?_
      refine e_as rfl ?_
      refine l_n ?_
      refine c_ret ?_
      exact t_rt [] rfl (.tmp rfl .nil) rfl ⟨rfl, boole (by rfl), rfl⟩ (by (repeat refine Ent.skip ?_); exact Ent.refl _)
end Go.Shf

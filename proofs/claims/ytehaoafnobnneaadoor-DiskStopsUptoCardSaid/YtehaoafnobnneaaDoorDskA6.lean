/-
  Package disk, walked.
-/
import Derived.Test.YtehaoafnobnneaaDoorDskKS
import Derived.Test.YtehaoafnobnneaaDoorDskAA
import Derived.Test.YtehaoafnobnneaaDoorSlSq
import Derived.Test.YtehaoafnobnneaaDoorDskL
import Derived.Test.YtehaoafnobnneaaDoorProg
set_option maxRecDepth 100000
set_option maxHeartbeats 4000000
set_option linter.unusedSimpArgs false
set_option linter.unusedVariables false
namespace Go.Dsk.A6
open Go Go.SL Go.Proofs Go.Dsk Go.Dsk.L Go.Dsk.X Go.Dsk.RA Go.Dsk.RB Go.Dsk.RC Go.Dsk.RD Go.Dsk.RE Go.Dsk.RF Go.Dsk.A1 Go.Dsk.A2 Go.Dsk.A3
attribute [local irreducible] Go.SL.Ent
theorem ag_53 : aggSize Tryd.prog 53 = some 5 := by kernel_rfl
theorem eo_3 : elemOk Tryd.prog 3 1 8 = true := by kernel_rfl
theorem fo_53_0 : fieldOff Tryd.prog 53 0 = some (0, 3) := by kernel_rfl
theorem pl_49 : placesOf Tryd.prog 49 = some [(0, 1), (1, 1), (2, 1), (3, 1)] := by kernel_rfl
theorem sc_3 : isScalar Tryd.prog 3 = true := by kernel_rfl
theorem sc_9 : isScalar Tryd.prog 9 = true := by kernel_rfl
theorem sz_53 : sizeIs Tryd.prog 53 = some 5 := by kernel_rfl
theorem sz_9 : sizeIs Tryd.prog 9 = some 1 := by kernel_rfl
theorem zc_49 : zeroCs Tryd.prog 49 = some [.int .i64 0, .slice none 0 0, .bool false, .int .i64 0] := by kernel_rfl

theorem stops_spec (room : Int) (acts_a : Option Addr) (acts_n acts_c : Nat) (acts : List DAct) (hacts_n : acts.length = acts_n) (n : Int) (ρ : Hp) (hr : room ≤ 9223372036854775807) (hro : Ro ρ 5 acts_a acts_n acts_c (acts.flatMap encDAct)) (hA : ∀ a ∈ acts, DActM a ρ ∧ actSize a ≤ 4611686018427387904 ∧ a.N ≤ 9223372036854775807) : Spec0 Tryd.prog 6 #[.int .i64 room, .slice acts_a acts_n acts_c, .int .i64 n] ρ [] (fun v Γ' => v = .bool true ∧ Γ' = []) := by
  refine spec_of (n := 187) (vs := [_, _, _]) (σ := [(0, _), (1, _), (2, _)]) Tryd.func6 rfl rfl rfl rfl fun E Δ => ?_
  rw [List.nil_append]
  refine sr ?_
  refine e_as rfl ?_
  refine l_n ?_
  refine c_seq ?_
  refine sr ?_
  refine l_step (s_fnq rfl wn Tryd.func9 rfl (by kernel_rfl) rfl (fun ρ' hL => Go.Dsk.B.awake_spec ρ') ?_)
  refine e_q (q_not rfl) ?_
  refine e_mv rfl ?_
  refine e_qw (wy rfl rfl rfl) (q_move rfl) ?_
  refine e_qw (wy rfl rfl rfl) (q_len Tryd.underlying45 rfl) ?_
  refine e_qw (wy rfl rfl rfl) (q_gtr rfl rfl) ?_
  refine e_q (q_pick rfl rfl rfl) ?_
  refine e_mv rfl ?_
  refine l_step (s_qg rfl (ask_f rfl rfl) (b := (!(decide (60 < (acts_n : Int))))) (fun hb => q_move rfl) ?_)
  refine l_step (s_qg rfl (ask_f rfl rfl) (b := (!(decide (60 < (acts_n : Int))))) (fun hb => OpQ.env (.cons rfl (gd_t hb) (.nil _) : EnvLe [(31, .int .i64 room)] _) (q_lss rfl rfl)) ?_)
  refine e_q (q_pick_or rfl rfl rfl (fun h => by first | (rw [h]; rfl) | exact congrArg not h)) ?_
  refine l_n ?_
  refine c_cond rfl (fun h0 => ?_) (fun h0 => ?_)
  · try simp only [decide_eq_true_eq, decide_eq_false_iff_not, Bool.or_eq_true, Bool.or_eq_false_iff] at h0
    refine sr ?_
    refine l_step (s_fnq rfl wn Tryd.func9 rfl (by kernel_rfl) rfl (fun ρ' hL => Go.Dsk.B.awake_spec ρ') ?_)
    refine e_as rfl ?_
    refine l_n ?_
    refine c_ret ?_
    refine k_then_r ?_
    exact t_rt [] rfl (.tmp rfl .nil) rfl ⟨rfl, boole (by rfl), rfl⟩ (by (repeat refine Ent.skip ?_); exact Ent.refl _)
  · try simp only [decide_eq_true_eq, decide_eq_false_iff_not, Bool.or_eq_true, Bool.or_eq_false_iff] at h0
    refine c_skip ?_
    refine k_then_n ?_
    refine sr ?_
    refine e_mv rfl ?_
    refine e_fn Tryd.func12 rfl sl_ (fun ρ' hL => Go.Dsk.X.new_spec room ρ') ?_
    rintro _ _ hnewbD
    obtain ⟨bD, mbbD, rfl, rfl⟩ := or_yes hnewbD (by omega)
    try simp only [List.cons_append, List.nil_append]
    refine e_mv rfl ?_
    refine e_q (q_extract rfl rfl) ?_
    refine e_q (q_extract rfl rfl) ?_
    refine e_as rfl ?_
    refine e_as rfl ?_
    refine l_n ?_
    refine c_seq ?_
    refine sr ?_
    refine e_mv rfl ?_
    refine e_q (by first | exact q_eqlp rfl rfl Tryd.underlying27 | exact q_eqlp0 rfl rfl Tryd.underlying27) ?_
    refine e_mv rfl ?_
    refine e_qw (wy rfl rfl rfl) (q_move rfl) ?_
    refine e_qw (wy rfl rfl rfl) (q_neq rfl rfl) ?_
    refine e_q (q_pick rfl rfl rfl) ?_
    refine l_n ?_
    refine c_sure false rfl (by rfl) ?_
    simp only [Bool.false_eq_true, if_true, if_false]
    refine c_skip ?_
    refine k_then_n ?_
    refine sr ?_
    refine e_mv rfl ?_
    refine e_fn Tryd.func12 rfl sl_ (fun ρ' hL => Go.Dsk.X.new_spec room ρ') ?_
    rintro _ _ hnewbE
    obtain ⟨bE, mbbE, rfl, rfl⟩ := or_yes hnewbE (by omega)
    try simp only [List.cons_append, List.nil_append]
    refine e_mv rfl ?_
    refine e_q (q_extract rfl rfl) ?_
    refine e_q (q_extract rfl rfl) ?_
    refine e_as rfl ?_
    refine e_as rfl ?_
    refine l_n ?_
    refine sr ?_
    refine e_mv rfl ?_
    refine e_q (q_build (cs := encRDisk (⟨room, ⟨none, 0, 0⟩, false, 0⟩ : RDisk)) zc_49 pl_49 rfl rfl) ?_
    refine e_s (s_box (cs := encRDisk (⟨room, ⟨none, 0, 0⟩, false, 0⟩ : RDisk)) rfl rfl) ?_
    rintro _ _ ⟨b53, rfl, rfl⟩
    refine e_as rfl ?_
    refine l_n ?_
    refine sr ?_
    have ht9 := turn_lt (t := n) (n := 20) (by decide)
    have ht8 := turn_b (t := n) (n := 20) (by decide)
    have ht7 : 0 ≤ (((n.tmod 20) + 20).tmod 20) ∧ (((n.tmod 20) + 20).tmod 20) < 20 := ht9
    have ht6 : (-20 : Int) < n.tmod 20 ∧ n.tmod 20 < 20 := ht8
    refine e_mv rfl ?_
    refine e_q (q_rem rfl rfl (by omega)) ?_
    refine e_q (q_add rfl rfl (by omega) (by omega)) ?_
    refine e_q (q_rem rfl rfl (by omega)) ?_
    refine e_as rfl ?_
    refine l_n ?_
    refine sr ?_
    refine Tr.ent (Ent.nilrow 82 3 _) ?_
    refine Tr.ent (bun_nil _) ?_
    refine e_mv rfl ?_
    refine e_mv rfl ?_
    refine e_fn Tryd.func23 rfl sl_ (fun ρ' hL => stop_spec bD room mbbD (-1) [] (((n.tmod 20) + 20).tmod 20) ρ') ?_
    rintro _ _ ⟨rfl, rfl⟩
    try simp only [List.cons_append, List.nil_append]
    rw [show (if (-1) > (((n.tmod 20) + 20).tmod 20) then (-1) else (((n.tmod 20) + 20).tmod 20)) = (((n.tmod 20) + 20).tmod 20) from if_neg (by omega)]
    refine l_n ?_
    refine c_seq ?_
    refine sr ?_
    refine e_as rfl ?_
    refine l_n ?_
    refine c_block ?_
    refine Tr.env (σ' := [(0, _), (1, _), (7, _), (9, _), (11, _), (12, _), (13, _)]) ev_ ?_
    refine t_loop (ι := Lp (Nat × Int × FT × FT × RT × Option Addr × Nat × Bool × Int)) (fun x => x.d.1 ≤ acts_n ∧ Alike room (-1) x.d.2.2.2.2.2.2.2.1 x.d.2.2.2.2.2.2.2.2 (vw x.d.2.2.2.1) (rvw x.d.2.2.2.2.1) (2000 * x.d.1) ∧ vw x.d.2.2.1 = vw x.d.2.2.2.1 ∧ 0 ≤ x.d.2.1 ∧ x.d.2.1 < 20) (fun x => acts_n - x.d.1) (fun x => [(0, .int .i64 room), (1, .slice acts_a acts_n acts_c), (7, .pointer (some ⟨bD, 0, none⟩)), (9, .pointer (some ⟨bE, 0, none⟩)), (11, .pointer (some ⟨b53, 0, none⟩)), (12, .int .i64 x.d.2.1), (13, .int .i64 (x.d.1 : Int))]) (fun x => RB 5 x.d.2.2.2.2.1 :: .row 82 3 x.d.2.2.2.2.2.1 x.d.2.2.2.2.1.length x.d.2.2.2.2.2.2.1 (x.d.2.2.2.2.1.flatMap encRFile) :: .pts b53 (encRDisk (⟨room, ⟨x.d.2.2.2.2.2.1, x.d.2.2.2.2.1.length, x.d.2.2.2.2.2.2.1⟩, x.d.2.2.2.2.2.2.2.1, x.d.2.2.2.2.2.2.2.2⟩ : RDisk)) 49 :: .pts bE (encDisk1 (⟨room, (some mbbE), (-1)⟩ : Disk1)) 62 :: MP strB ptV mbbE (fm x.d.2.2.2.1) :: FB 66 5 x.d.2.2.2.1 :: .pts bD (encDisk1 (⟨room, (some mbbD), x.d.2.1⟩ : Disk1)) 62 :: MP strB ptV mbbD (fm x.d.2.2.1) :: FB 66 5 x.d.2.2.1 :: Δ) (⟨(0, (((n.tmod 20) + 20).tmod 20), [], [], [], none, 0, false, 0), none, 0, none, 0, none, 0⟩ : Lp _) ⟨Nat.zero_le _, ⟨sim_nil, rfl, (fun h => by cases h), (show (0 : Int) ≤ 9223372036854775807 by decide), ⟨vok_nil, (show (0 : Nat) ≤ 2000 * 0 by decide), (show 2000 * 0 ≤ 1000000000000 by decide)⟩, (show ((0 : Nat) : Int) ≤ room from by omega)⟩, rfl, ht7⟩ ?_ ?_ ?_
    · exact .c (.c (.c (.c (.c (.c (.c (.nil _)))))))
    · exact en_
    intro x hx
    obtain ⟨hx1, hx2, hx3, hx4⟩ := hx
    refine c_seq ?_
    refine sr ?_
    refine e_mv rfl ?_
    refine e_mv rfl ?_
    refine e_q (q_len Tryd.underlying45 rfl) ?_
    refine e_q (q_lss rfl rfl) ?_
    refine l_n ?_
    refine c_cond rfl (fun h2 => ?_) (fun h2 => ?_)
    · try simp only [decide_eq_true_eq, decide_eq_false_iff_not] at h2
      refine c_skip ?_
      refine k_then_n ?_
      refine c_seq ?_
      refine c_block ?_
      refine c_seq ?_
      refine sr ?_
      obtain ⟨hAk, hAs, hN9⟩ := hA (acts.getD x.d.1 default) (getD_in (by omega))
      have hsz0 : actSize (acts.getD x.d.1 default) = (acts.getD x.d.1 default).Keep.xs.length + 1 + sumN (acts.getD x.d.1 default).Names.xs + sumB_ (acts.getD x.d.1 default).Bs.xs := rfl
      have hsb9 := sumB_len (acts.getD x.d.1 default).Bs.xs
      have hlm := hx2.lim.us
      refine e_mv rfl ?_
      refine e_mv rfl ?_
      refine e_q (q_indexe x.d.1 Tryd.underlying45 sz_53 rfl rfl (by first | assumption | exact rd_ro (by assumption) | exact rd_row pk_) (by decide) rfl (by first | assumption | omega | (simp only [List.length_cons, List.length_nil]; omega))) ?_
      refine e_q (q_loadea (vs := encDAct (acts.getD x.d.1 default)) (enc := encDAct) (xs := acts) (j := x.d.1) (off := 0) ag_53 rfl (by first | assumption | exact rd_ro (by assumption) | exact rd_row pk_) (fun _ => rfl) (by first | assumption | omega | (simp only [List.length_cons, List.length_nil]; omega)) (by simp [encDAct]) (by simp [encDAct]) rfl) ?_
      refine l_step (s_fnq rfl wn Tryd.func24 rfl (by kernel_rfl) rfl (fun ρ' hL => Go.Dsk.A1.asize_spec (acts.getD x.d.1 default) ρ' (hAk.mono hL.1) (by omega)) ?_)
      refine e_q (q_gtr rfl rfl) ?_
      refine l_n ?_
      refine c_cond rfl (fun h3 => ?_) (fun h3 => ?_)
      · try simp only [decide_eq_true_eq, decide_eq_false_iff_not] at h3
        refine sr ?_
        refine e_as rfl ?_
        refine l_n ?_
        refine c_ret ?_
        refine k_then_r ?_
        refine k_blk_r ?_
        refine k_then_r ?_
        refine k_then_r ?_
        refine k_blk_r ?_
        refine k_then_r ?_
        exact t_rt [] rfl (.tmp rfl .nil) rfl ⟨rfl, boole (by rfl), rfl⟩ (by (repeat refine Ent.skip ?_); exact Ent.refl _)
      · try simp only [decide_eq_true_eq, decide_eq_false_iff_not] at h3
        have hs2k : actSize (acts.getD x.d.1 default) ≤ 2000 := by omega
        refine c_skip ?_
        refine k_then_n ?_
        refine c_seq ?_
        refine sr ?_
        refine e_mv rfl ?_
        refine e_mv rfl ?_
        refine e_q (q_indexe x.d.1 Tryd.underlying45 sz_53 rfl rfl (by first | assumption | exact rd_ro (by assumption) | exact rd_row pk_) (by decide) rfl (by first | assumption | omega | (simp only [List.length_cons, List.length_nil]; omega))) ?_
        refine e_q (q_fielde rfl fo_53_0) ?_
        refine e_q (q_loade (enc := encDAct) (xs := acts) (j := x.d.1) (off := 0) sc_3 rfl (by first | assumption | exact rd_ro (by assumption) | exact rd_row pk_) (fun _ => rfl) (by first | assumption | omega | (simp only [List.length_cons, List.length_nil]; omega)) (by decide) rfl) ?_
        refine e_q (q_lss rfl rfl) ?_
        refine e_mv rfl ?_
        refine l_step (s_qg rfl (ask_f rfl rfl) (b := (!(decide ((acts.getD x.d.1 default).Kind < 0)))) (fun hb => q_move rfl) ?_)
        refine l_step (s_qg rfl (ask_f rfl rfl) (b := (!(decide ((acts.getD x.d.1 default).Kind < 0)))) (fun hb => q_move rfl) ?_)
        refine l_step (s_qg rfl (ask_f rfl rfl) (b := (!(decide ((acts.getD x.d.1 default).Kind < 0)))) (fun hb => OpQ.env (.cons rfl (gd_t hb) (.cons rfl (gd_t hb) (.nil _)) : EnvLe [(80, .slice acts_a acts_n acts_c), (81, .int .i64 (x.d.1 : Int))] _) (q_indexe x.d.1 Tryd.underlying45 sz_53 rfl rfl (by first | assumption | exact rd_ro (by assumption) | exact rd_row pk_) (by decide) rfl (by first | assumption | omega | (have hb2 := hb; (try simp only [Bool.and_eq_true, Bool.or_eq_true, Bool.not_eq_true', Bool.and_eq_false_iff, Bool.or_eq_false_iff, Bool.not_eq_false', decide_eq_true_eq, decide_eq_false_iff_not, Bool.not_eq_eq_eq_not, Bool.not_true, Bool.not_false, Bool.not_eq_true, Bool.not_eq_false, beq_iff_eq, bne_iff_ne, ne_eq, Decidable.not_not] at hb2); omega) | (simp only [List.length_cons, List.length_nil]; omega)))) ?_)
        refine l_step (s_qg rfl (ask_f rfl rfl) (b := (!(decide ((acts.getD x.d.1 default).Kind < 0)))) (fun hb => OpQ.env (.cons rfl (gd_t hb) (.nil _) : EnvLe [(82, pe acts_a x.d.1 5 0)] _) (q_fielde rfl fo_53_0)) ?_)
        refine l_step (s_qg rfl (ask_f rfl rfl) (b := (!(decide ((acts.getD x.d.1 default).Kind < 0)))) (fun hb => OpQ.env (.cons rfl (gd_t hb) (.nil _) : EnvLe [(83, pe acts_a x.d.1 5 0)] _) (q_loade (enc := encDAct) (xs := acts) (j := x.d.1) (off := 0) sc_3 rfl (by first | assumption | exact rd_ro (by assumption) | exact rd_row pk_) (fun _ => rfl) (by first | assumption | omega | (have hb2 := hb; (try simp only [Bool.and_eq_true, Bool.or_eq_true, Bool.not_eq_true', Bool.and_eq_false_iff, Bool.or_eq_false_iff, Bool.not_eq_false', decide_eq_true_eq, decide_eq_false_iff_not, Bool.not_eq_eq_eq_not, Bool.not_true, Bool.not_false, Bool.not_eq_true, Bool.not_eq_false, beq_iff_eq, bne_iff_ne, ne_eq, Decidable.not_not] at hb2); omega) | (simp only [List.length_cons, List.length_nil]; omega)) (by decide) rfl)) ?_)
        refine l_step (s_qg rfl (ask_f rfl rfl) (b := (!(decide ((acts.getD x.d.1 default).Kind < 0)))) (fun hb => OpQ.env (.cons rfl (gd_t hb) (.nil _) : EnvLe [(84, .int .i64 ((acts.getD x.d.1 default).Kind))] _) (q_gtr rfl rfl)) ?_)
        refine e_q (q_pick_or rfl rfl rfl (fun h => by first | (rw [h]; rfl) | exact congrArg not h)) ?_
        refine l_n ?_
        refine c_cond rfl (fun h4 => ?_) (fun h4 => ?_)
        · try simp only [decide_eq_true_eq, decide_eq_false_iff_not, Bool.or_eq_true, Bool.or_eq_false_iff] at h4
          refine c_exit ?_
          refine k_then_x ?_
          refine k_blk_x ?_
          refine k_then_n ?_
          refine c_region ?_
          refine e_mv rfl ?_
          refine e_q (q_add rfl rfl (by omega) (by omega)) ?_
          refine e_as rfl ?_
          refine l_n ?_
          exact t_nx (⟨(x.d.1 + 1, x.d.2), none, 0, none, 0, none, 0⟩ : Lp _) ⟨⟨by show x.d.1 + 1 ≤ _; omega, alike_next hx2 rfl rfl (by show 2000 * x.d.1  ≤ 2000 * (x.d.1 + 1); omega) (by show 2000 * (x.d.1 + 1) ≤ _; omega), hx3, hx4⟩, by show acts_n - (x.d.1 + 1) < _; omega⟩ (.c (.c (.c (.c (.c (.c (.c (.nil _))))))))
        · try simp only [decide_eq_true_eq, decide_eq_false_iff_not, Bool.or_eq_true, Bool.or_eq_false_iff] at h4
          have hak : ActK (acts.getD x.d.1 default) := ⟨by omega, by omega⟩
          refine c_skip ?_
          refine k_then_n ?_
          refine sr ?_
          refine e_mv rfl ?_
          refine e_q (q_build (cs := encRDisk (⟨room, ⟨none, 0, 0⟩, true, 0⟩ : RDisk)) zc_49 pl_49 rfl rfl) ?_
          refine e_s (s_box (cs := encRDisk (⟨room, ⟨none, 0, 0⟩, true, 0⟩ : RDisk)) rfl rfl) ?_
          rintro _ _ ⟨b89, rfl, rfl⟩
          refine e_as rfl ?_
          refine l_n ?_
          refine c_seq ?_
          refine sr ?_
          refine Tr.ent (Ent.nilrow 82 3 _) ?_
          refine Tr.ent (bun_nil _) ?_
          refine e_mv rfl ?_
          refine e_q (q_eql rfl rfl) ?_
          refine l_n ?_
          refine c_cond rfl (fun h5 => ?_) (fun h5 => ?_)
          · try simp only [decide_eq_true_eq, decide_eq_false_iff_not] at h5
            refine c_seq ?_
            refine sr ?_
            refine e_mv rfl ?_
            refine e_mv rfl ?_
            refine e_q (q_indexe x.d.1 Tryd.underlying45 sz_53 rfl rfl (by first | assumption | exact rd_ro (by assumption) | exact rd_row pk_) (by decide) rfl (by first | assumption | omega | (simp only [List.length_cons, List.length_nil]; omega))) ?_
            refine e_q (q_loadea (vs := encDAct (acts.getD x.d.1 default)) (enc := encDAct) (xs := acts) (j := x.d.1) (off := 0) ag_53 rfl (by first | assumption | exact rd_ro (by assumption) | exact rd_row pk_) (fun _ => rfl) (by first | assumption | omega | (simp only [List.length_cons, List.length_nil]; omega)) (by simp [encDAct]) (by simp [encDAct]) rfl) ?_
            refine e_mv rfl ?_
            refine e_mv rfl ?_
            refine e_fn Tryd.func25 rfl sl_ (fun ρ' hL => Go.Dsk.A2.ado_spec (acts.getD x.d.1 default) bD room mbbD x.d.2.1 x.d.2.2.1 b89 room none 0 true 0 [] ρ' (hAk.mono hL.1) (by omega) (fok.2 (by rw [hx3]; exact hx2.lim.ok)) (by exact vok_nil) (by rw [← used_vw, hx3]; exact hx2.us) hr (by omega) (fun _ => by decide) (by decide) (by show ((0 : Nat) : Int) ≤ room; omega) hr (by rw [← used_vw, hx3]; omega) (by show 0 + _ ≤ _; omega)) ?_
            rintro _ _ ⟨T1, R1, aR1, cR1, rfl, hvT1, hwR1, rfl⟩
            try simp only [List.cons_append, List.nil_append]
            have hz : (actP room x.d.2.1 (vw x.d.2.2.1) (acts.getD x.d.1 default)) = (32, vw x.d.2.2.1, 0) := by rw [h5]; exact act_zero _ _ hak
            rw [show (decide ((actP room x.d.2.1 (vw x.d.2.2.1) (acts.getD x.d.1 default)).1 = (actR room true 0 (rvw []) (acts.getD x.d.1 default)).1)) = true from decide_eq_true (by rw [hz]; exact (act_zeroR _ _ hak).symm)]
            rw [hz] at hvT1
            rw [hz]
            refine e_q (q_not rfl) ?_
            refine l_n ?_
            refine c_sure false rfl (by rfl) ?_
            simp only [Bool.false_eq_true, if_true, if_false]
            refine c_skip ?_
            refine k_then_n ?_
            refine c_exit ?_
            refine k_then_x ?_
            refine k_blk_x ?_
            refine k_then_n ?_
            refine c_region ?_
            refine e_mv rfl ?_
            refine e_q (q_add rfl rfl (by omega) (by omega)) ?_
            refine e_as rfl ?_
            refine l_n ?_
            exact t_nx (⟨(x.d.1 + 1, 0, T1, x.d.2.2.2), none, 0, none, 0, none, 0⟩ : Lp _) ⟨⟨by show x.d.1 + 1 ≤ _; omega, alike_next hx2 rfl rfl (by show 2000 * x.d.1  ≤ 2000 * (x.d.1 + 1); omega) (by show 2000 * (x.d.1 + 1) ≤ _; omega), hvT1.trans hx3, (show (0 : Int) ≤ 0 ∧ (0 : Int) < 20 by decide)⟩, by show acts_n - (x.d.1 + 1) < _; omega⟩ (.c (.c (.c (.c (.c (.c (.c (.nil _))))))))
          · try simp only [decide_eq_true_eq, decide_eq_false_iff_not] at h5
            refine c_skip ?_
            refine k_then_n ?_
            refine sr ?_
            refine e_mv rfl ?_
            refine e_q (q_sub rfl rfl (by omega) (by omega)) ?_
            refine e_as rfl ?_
            refine l_n ?_
            refine c_seq ?_
            refine sr ?_
            refine e_mv rfl ?_
            refine e_mv rfl ?_
            refine e_q (q_indexe x.d.1 Tryd.underlying45 sz_53 rfl rfl (by first | assumption | exact rd_ro (by assumption) | exact rd_row pk_) (by decide) rfl (by first | assumption | omega | (simp only [List.length_cons, List.length_nil]; omega))) ?_
            refine e_q (q_loadea (vs := encDAct (acts.getD x.d.1 default)) (enc := encDAct) (xs := acts) (j := x.d.1) (off := 0) ag_53 rfl (by first | assumption | exact rd_ro (by assumption) | exact rd_row pk_) (fun _ => rfl) (by first | assumption | omega | (simp only [List.length_cons, List.length_nil]; omega)) (by simp [encDAct]) (by simp [encDAct]) rfl) ?_
            refine e_mv rfl ?_
            refine e_mv rfl ?_
            refine e_fn Tryd.func25 rfl sl_ (fun ρ' hL => Go.Dsk.A2.ado_spec (acts.getD x.d.1 default) bE room mbbE (-1) x.d.2.2.2.1 b53 room x.d.2.2.2.2.2.1 x.d.2.2.2.2.2.2.1 x.d.2.2.2.2.2.2.2.1 x.d.2.2.2.2.2.2.2.2 x.d.2.2.2.2.1 ρ' (hAk.mono hL.1) (by omega) (fok.2 hx2.lim.ok) (hx2.sim.vok hx2.lim.ok) (by rw [← used_vw]; exact hx2.us) hr (by decide) hx2.ce hx2.cb (by rw [← usedR_vw, ← hx2.sim.used]; exact hx2.us) hr (by rw [← used_vw]; omega) (by rw [← usedR_vw, ← hx2.sim.used]; omega)) ?_
            rintro _ _ ⟨T2, R2, aR2, cR2, rfl, hvT2, hwR2, rfl⟩
            try simp only [List.cons_append, List.nil_append]
            have hal := act_alike hx2 (acts.getD x.d.1 default) hN9 (by omega)
            obtain ⟨hn1, hn2, hn3⟩ := act_run room (vw x.d.2.2.2.1) hak (show 0 < x.d.2.1 by omega)
            rw [show (decide ((actP room (-1) (vw x.d.2.2.2.1) (acts.getD x.d.1 default)).1 = (actR room x.d.2.2.2.2.2.2.2.1 x.d.2.2.2.2.2.2.2.2 (rvw x.d.2.2.2.2.1) (acts.getD x.d.1 default)).1)) = true from decide_eq_true hal.1]
            rw [hn3]
            rw [hn3] at hal
            refine e_q (q_not rfl) ?_
            refine l_n ?_
            refine c_sure false rfl (by rfl) ?_
            simp only [Bool.false_eq_true, if_true, if_false]
            refine c_skip ?_
            refine k_then_n ?_
            refine sr ?_
            refine e_mv rfl ?_
            refine e_q (q_build (cs := encRDisk (⟨room, ⟨none, 0, 0⟩, false, 0⟩ : RDisk)) zc_49 pl_49 rfl rfl) ?_
            refine e_s (s_box (cs := encRDisk (⟨room, ⟨none, 0, 0⟩, false, 0⟩ : RDisk)) rfl rfl) ?_
            rintro _ _ ⟨b112, rfl, rfl⟩
            refine e_as rfl ?_
            refine l_n ?_
            refine c_region ?_
            refine Tr.ent (Ent.nilrow 82 3 _) ?_
            refine Tr.ent (bun_nil _) ?_
            refine e_mv rfl ?_
            refine e_mv rfl ?_
            refine e_q (q_indexe x.d.1 Tryd.underlying45 sz_53 rfl rfl (by first | assumption | exact rd_ro (by assumption) | exact rd_row pk_) (by decide) rfl (by first | assumption | omega | (simp only [List.length_cons, List.length_nil]; omega))) ?_
            refine e_q (q_loadea (vs := encDAct (acts.getD x.d.1 default)) (enc := encDAct) (xs := acts) (j := x.d.1) (off := 0) ag_53 rfl (by first | assumption | exact rd_ro (by assumption) | exact rd_row pk_) (fun _ => rfl) (by first | assumption | omega | (simp only [List.length_cons, List.length_nil]; omega)) (by simp [encDAct]) (by simp [encDAct]) rfl) ?_
            refine e_mv rfl ?_
            refine e_mv rfl ?_
            refine e_fn Tryd.func25 rfl sl_ (fun ρ' hL => Go.Dsk.A2.ado_spec (acts.getD x.d.1 default) bD room mbbD x.d.2.1 x.d.2.2.1 b112 room none 0 false 0 [] ρ' (hAk.mono hL.1) (by omega) (fok.2 (by rw [hx3]; exact hx2.lim.ok)) (by exact vok_nil) (by rw [← used_vw, hx3]; exact hx2.us) hr (by omega) (fun h => by cases h) (by decide) (by show ((0 : Nat) : Int) ≤ room; omega) hr (by rw [← used_vw, hx3]; omega) (by show 0 + _ ≤ _; omega)) ?_
            rintro _ _ ⟨T3, R3, aR3, cR3, rfl, hvT3, hwR3, rfl⟩
            try simp only [List.cons_append, List.nil_append]
            have hp1 : (actP room x.d.2.1 (vw x.d.2.2.1) (acts.getD x.d.1 default)).2.1 = (actP room (-1) (vw x.d.2.2.2.1) (acts.getD x.d.1 default)).2.1 := by rw [hx3]; exact hn1
            have hp2 : (actP room x.d.2.1 (vw x.d.2.2.1) (acts.getD x.d.1 default)).2.2 = x.d.2.1 - 1 := by rw [hx3]; exact hn2
            rw [hp1] at hvT3
            rw [hp2]
            refine l_nil ?_
            refine k_blk_n ?_
            refine k_then_n ?_
            refine c_region ?_
            refine e_mv rfl ?_
            refine e_q (q_add rfl rfl (by omega) (by omega)) ?_
            refine e_as rfl ?_
            refine l_n ?_
            exact t_nx (⟨(x.d.1 + 1, x.d.2.1 - 1, T3, T2, R2, aR2, cR2, (actR room x.d.2.2.2.2.2.2.2.1 x.d.2.2.2.2.2.2.2.2 (rvw x.d.2.2.2.2.1) (acts.getD x.d.1 default)).2.2.1, (actR room x.d.2.2.2.2.2.2.2.1 x.d.2.2.2.2.2.2.2.2 (rvw x.d.2.2.2.2.1) (acts.getD x.d.1 default)).2.2.2), none, 0, none, 0, none, 0⟩ : Lp _) ⟨⟨by show x.d.1 + 1 ≤ _; omega, alike_next hal.2 hvT2 hwR2 (by show 2000 * x.d.1 + (catS (acts.getD x.d.1 default).Bs.xs).length ≤ 2000 * (x.d.1 + 1); omega) (by show 2000 * (x.d.1 + 1) ≤ _; omega), hvT3.trans hvT2.symm, by show 0 ≤ x.d.2.1 - 1 ∧ x.d.2.1 - 1 < 20; omega⟩, by show acts_n - (x.d.1 + 1) < _; omega⟩ (.c (.c (.c (.c (.c (.c (.c (.nil _))))))))
    · try simp only [decide_eq_true_eq, decide_eq_false_iff_not] at h2
      refine c_exit ?_
      refine k_then_x ?_
      refine k_then_x ?_
      refine k_blk_x ?_
      refine k_then_n ?_
      refine sr ?_
      refine e_mv rfl ?_
      refine e_s (s_buildSlice (cs := ([1, 2] : List Int).flatMap encI) Tryd.underlying51 eo_3 rfl rfl rfl rfl (by decide) (by decide)) ?_
      rintro _ _ ⟨b121, rfl, rfl⟩
      refine e_fn Tryd.func19 rfl sl_ (fun ρ' hL => Go.Dsk.V.crash_spec bD room mbbD x.d.2.1 x.d.2.2.1 (some ⟨b121, 0, none⟩) 2 2 [1, 2] rfl ρ' (fok.2 (by rw [hx3]; exact hx2.lim.ok)) (hL.row pk_)) ?_
      rintro _ _ ⟨T4, rfl, hvT4, rfl⟩
      try simp only [List.cons_append, List.nil_append]
      refine l_n ?_
      refine sr ?_
      refine e_mv rfl ?_
      refine e_s (s_buildSlice (cs := ([1, 2] : List Int).flatMap encI) Tryd.underlying51 eo_3 rfl rfl rfl rfl (by decide) (by decide)) ?_
      rintro _ _ ⟨b124, rfl, rfl⟩
      refine e_fn Tryd.func19 rfl sl_ (fun ρ' hL => Go.Dsk.V.crash_spec bE room mbbE (-1) x.d.2.2.2.1 (some ⟨b124, 0, none⟩) 2 2 [1, 2] rfl ρ' (fok.2 hx2.lim.ok) (hL.row pk_)) ?_
      rintro _ _ ⟨T5, rfl, hvT5, rfl⟩
      try simp only [List.cons_append, List.nil_append]
      have hE : vw T4 = vw T5 := by rw [hvT4, hvT5, hx3]
      have hL5 : Lim (vw T5) (2000 * x.d.1) := by rw [hvT5]; exact lim_cr hx2.lim
      have hF5 : FOk T5 := fok.2 hL5.ok
      have hF4 : FOk T4 := fok.2 (by rw [hE]; exact hL5.ok)
      have hu5 : (usedT T5 : Int) ≤ room := by rw [← used_vw, hvT5]; have h8 := used_cr hx2.lim [1, 2]; have h9 := hx2.us; omega
      have hu4 : usedT T4 = usedT T5 := by rw [← used_vw, hE, used_vw]
      have hl4 : T4.length = T5.length := by rw [← vw_len, hE, vw_len]
      have hl5 := hL5.us
      have hu9 := used_vw T5
      refine l_n ?_
      refine sr ?_
      refine e_mv rfl ?_
      refine e_fn Tryd.func20 rfl sl_ (fun ρ' hL => Go.Dsk.X.names_spec bD room mbbD (-1) T4 ρ' hF4) ?_
      rintro _ _ ⟨an127, cn127, rfl, rfl⟩
      try simp only [List.cons_append, List.nil_append]
      obtain ⟨NS, hNS⟩ : ∃ L : List (List UInt8), L = sortS (T4.map (·.name)) := ⟨_, rfl⟩
      rw [← hNS]
      refine e_mv rfl ?_
      refine e_fn Tryd.func20 rfl sl_ (fun ρ' hL => Go.Dsk.X.names_spec bE room mbbE (-1) T5 ρ' hF5) ?_
      rintro _ _ ⟨an129, cn129, rfl, rfl⟩
      try simp only [List.cons_append, List.nil_append]
      rw [show sortS (T5.map (·.name)) = NS from by rw [hNS, ← vw_keys, ← vw_keys, hE]]
      have hNl : NS.length = T5.length := by rw [hNS, sortS_len, List.length_map, hl4]
      have hln9 := hF5.ln
      clear hNS
      refine e_as rfl ?_
      refine e_as rfl ?_
      refine l_n ?_
      refine c_seq ?_
      refine sr ?_
      refine e_mv rfl ?_
      refine e_q (q_len Tryd.underlying41 rfl) ?_
      refine e_mv rfl ?_
      refine e_q (q_len Tryd.underlying41 rfl) ?_
      refine e_q (q_neq rfl rfl) ?_
      refine e_mv rfl ?_
      refine Tr.env (.cons (t := 135) (v := .bool false) rfl (congrArg Value.bool (decide_eq_false (by rw [hl4]; exact fun h => h rfl))) (EnvLe.refl _)) ?_
      refine e_qw (wy rfl rfl rfl) (q_move rfl) ?_
      refine l_step (s_fnr rfl (wy rfl rfl rfl) Tryd.func18 rfl (by kernel_rfl) rfl sl_ (fun ρ' hL => free_spec bD room mbbD (-1) T4 ρ' (by rw [hu4]; exact hu5) hr) ?_)
      refine e_qw (wy rfl rfl rfl) (q_move rfl) ?_
      refine l_step (s_fnr rfl (wy rfl rfl rfl) Tryd.func18 rfl (by kernel_rfl) rfl sl_ (fun ρ' hL => free_spec bE room mbbE (-1) T5 ρ' hu5 hr) ?_)
      refine e_qw (wy rfl rfl rfl) (q_neq rfl rfl) ?_
      refine e_q (q_pick rfl rfl rfl) ?_
      refine l_n ?_
      refine c_sure false rfl (decide_eq_false (by rw [hu4]; exact fun h => h rfl)) ?_
      simp only [Bool.false_eq_true, if_true, if_false]
      refine c_skip ?_
      refine k_then_n ?_
      refine c_seq ?_
      refine sr ?_
      refine e_as rfl ?_
      refine l_n ?_
      refine c_block ?_
      refine Tr.env (σ' := [(7, _), (9, _), (16, _), (17, _), (18, _)]) ev_ ?_
      refine t_loop (ι := Lp (Nat)) (fun z => z.d ≤ T4.length) (fun z => T4.length - z.d) (fun z => [(7, .pointer (some ⟨bD, 0, none⟩)), (9, .pointer (some ⟨bE, 0, none⟩)), (16, .slice an127 T4.length cn127), (17, .slice an129 T5.length cn129), (18, .int .i64 (z.d : Int))]) (fun z => .row 9 1 an129 T5.length cn129 (NS.flatMap Go.SL.encStr) :: .row 9 1 an127 T4.length cn127 (NS.flatMap Go.SL.encStr) :: .row 3 1 (some ⟨b124, 0, none⟩) 2 2 ([1, 2].flatMap encI) :: .row 3 1 (some ⟨b121, 0, none⟩) 2 2 ([1, 2].flatMap encI) :: RB 5 x.d.2.2.2.2.1 :: .row 82 3 x.d.2.2.2.2.2.1 x.d.2.2.2.2.1.length x.d.2.2.2.2.2.2.1 (x.d.2.2.2.2.1.flatMap encRFile) :: .pts b53 (encRDisk (⟨room, ⟨x.d.2.2.2.2.2.1, x.d.2.2.2.2.1.length, x.d.2.2.2.2.2.2.1⟩, x.d.2.2.2.2.2.2.2.1, x.d.2.2.2.2.2.2.2.2⟩ : RDisk)) 49 :: .pts bE (encDisk1 (⟨room, (some mbbE), (-1)⟩ : Disk1)) 62 :: MP strB ptV mbbE (fm T5) :: FB 66 5 T5 :: .pts bD (encDisk1 (⟨room, (some mbbD), (-1)⟩ : Disk1)) 62 :: MP strB ptV mbbD (fm T4) :: FB 66 5 T4 :: Δ) (⟨0, none, 0, none, 0, none, 0⟩ : Lp _) (Nat.zero_le _) ?_ ?_ ?_
      · exact .c (.c (.c (.c (.c (.nil _)))))
      · exact en_
      intro z hz
      refine c_seq ?_
      refine sr ?_
      refine e_mv rfl ?_
      refine e_mv rfl ?_
      refine e_q (q_len Tryd.underlying41 rfl) ?_
      refine e_q (q_lss rfl rfl) ?_
      refine l_n ?_
      refine c_cond rfl (fun h9 => ?_) (fun h9 => ?_)
      · try simp only [decide_eq_true_eq, decide_eq_false_iff_not] at h9
        refine c_skip ?_
        refine k_then_n ?_
        refine c_seq ?_
        refine c_block ?_
        refine sr ?_
        refine e_mv rfl ?_
        refine e_mv rfl ?_
        refine e_mv rfl ?_
        refine e_q (q_indexe z.d Tryd.underlying41 sz_9 rfl rfl (rd_row pk_) (by decide) rfl (by first | assumption | omega | (simp only [List.length_cons, List.length_nil]; omega))) ?_
        refine e_q (q_loade (enc := Go.SL.encStr) (xs := NS) (j := z.d) (off := 0) sc_9 rfl (rd_row pk_) (fun _ => rfl) (by first | assumption | omega | (simp only [List.length_cons, List.length_nil]; omega)) (by decide) rfl) ?_
        refine e_fn Tryd.func16 rfl sl_ (fun ρ' hL => Go.Dsk.X.read_spec bD room mbbD (-1) T4 (NS.getD z.d default) ρ' hF4) ?_
        rintro _ _ ⟨aR1, cR1, rfl, rfl⟩
        try simp only [List.cons_append, List.nil_append]
        refine e_mv rfl ?_
        refine e_q (q_extract rfl rfl) ?_
        refine e_q (q_extract rfl rfl) ?_
        refine e_as rfl ?_
        refine e_as rfl ?_
        refine l_n ?_
        refine sr ?_
        refine e_mv rfl ?_
        refine e_mv rfl ?_
        refine e_mv rfl ?_
        refine e_q (q_indexe z.d Tryd.underlying41 sz_9 rfl rfl (rd_row pk_) (by decide) rfl (by first | assumption | omega | (simp only [List.length_cons, List.length_nil]; omega))) ?_
        refine e_q (q_loade (enc := Go.SL.encStr) (xs := NS) (j := z.d) (off := 0) sc_9 rfl (rd_row pk_) (fun _ => rfl) (by first | assumption | omega | (simp only [List.length_cons, List.length_nil]; omega)) (by decide) rfl) ?_
        refine e_fn Tryd.func16 rfl sl_ (fun ρ' hL => Go.Dsk.X.read_spec bE room mbbE (-1) T5 (NS.getD z.d default) ρ' hF5) ?_
        rintro _ _ ⟨aR2, cR2, rfl, rfl⟩
        try simp only [List.cons_append, List.nil_append]
        refine e_mv rfl ?_
        refine e_q (q_extract rfl rfl) ?_
        refine e_q (q_extract rfl rfl) ?_
        refine e_as rfl ?_
        refine e_as rfl ?_
        refine l_n ?_
        refine c_seq ?_
        refine d_r 16 [.row 5 1 aR2 ((mgetD (vw T5) (NS.getD z.d default) zF).1.length) cR2 (((mgetD (vw T5) (NS.getD z.d default) zF).1).flatMap encB), .row 5 1 aR1 ((mgetD (vw T4) (NS.getD z.d default) zF).1.length) cR1 (((mgetD (vw T4) (NS.getD z.d default) zF).1).flatMap encB), .row 9 1 an129 T5.length cn129 (NS.flatMap Go.SL.encStr), .row 9 1 an127 T4.length cn127 (NS.flatMap Go.SL.encStr), .row 3 1 (some ⟨b124, 0, none⟩) 2 2 ([1, 2].flatMap encI), .row 3 1 (some ⟨b121, 0, none⟩) 2 2 ([1, 2].flatMap encI), RB 5 x.d.2.2.2.2.1, .row 82 3 x.d.2.2.2.2.2.1 x.d.2.2.2.2.1.length x.d.2.2.2.2.2.2.1 (x.d.2.2.2.2.1.flatMap encRFile), .pts b53 (encRDisk (⟨room, ⟨x.d.2.2.2.2.2.1, x.d.2.2.2.2.1.length, x.d.2.2.2.2.2.2.1⟩, x.d.2.2.2.2.2.2.2.1, x.d.2.2.2.2.2.2.2.2⟩ : RDisk)) 49, .pts bE (encDisk1 (⟨room, (some mbbE), (-1)⟩ : Disk1)) 62, MP strB ptV mbbE (fm T5), FB 66 5 T5, .pts bD (encDisk1 (⟨room, (some mbbD), (-1)⟩ : Disk1)) 62, MP strB ptV mbbD (fm T4), FB 66 5 T4] ?_
        refine d_t 0 rfl wn (q_move rfl) ?_
        refine d_t 1 rfl wn (q_move rfl) ?_
        refine d_t 2 rfl wn (q_indexe z.d Tryd.underlying41 sz_9 rfl rfl (rd_row pk_) (by decide) rfl (by first | assumption | omega | (simp only [List.length_cons, List.length_nil]; omega))) ?_
        refine d_t 3 rfl wn (q_loade (enc := Go.SL.encStr) (xs := NS) (j := z.d) (off := 0) sc_9 rfl (rd_row pk_) (fun _ => rfl) (by first | assumption | omega | (simp only [List.length_cons, List.length_nil]; omega)) (by decide) rfl) ?_
        refine d_t 4 rfl wn (q_move rfl) ?_
        refine d_t 5 rfl wn (q_move rfl) ?_
        refine d_t 6 rfl wn (q_indexe z.d Tryd.underlying41 sz_9 rfl rfl (rd_row pk_) (by decide) rfl (by first | assumption | omega | (simp only [List.length_cons, List.length_nil]; omega))) ?_
        refine d_t 7 rfl wn (q_loade (enc := Go.SL.encStr) (xs := NS) (j := z.d) (off := 0) sc_9 rfl (rd_row pk_) (fun _ => rfl) (by first | assumption | omega | (simp only [List.length_cons, List.length_nil]; omega)) (by decide) rfl) ?_
        refine d_t 8 rfl wn (q_neqsB (p := (NS.getD z.d default)) (q := (NS.getD z.d default)) rfl rfl) ?_
        refine d_t 9 rfl wn (q_move rfl) ?_
        refine Tr.env (.cons (t := 175) (v := .bool false) rfl (congrArg Value.bool (by simp)) (EnvLe.refl _)) ?_
        refine d_t 10 rfl (wy rfl rfl rfl) (q_move rfl) ?_
        refine d_t 11 rfl (wy rfl rfl rfl) (q_tostr (bs := (mgetD (vw T4) (NS.getD z.d default) zF).1) Tryd.underlying32 Tryd.underlying5 Tryd.underlying9 rfl (rd_row pk_)) ?_
        refine d_t 12 rfl (wy rfl rfl rfl) (q_move rfl) ?_
        refine d_t 13 rfl (wy rfl rfl rfl) (q_tostr (bs := (mgetD (vw T5) (NS.getD z.d default) zF).1) Tryd.underlying32 Tryd.underlying5 Tryd.underlying9 rfl (rd_row pk_)) ?_
        refine d_t 14 rfl (wy rfl rfl rfl) (q_neqsB (p := (mgetD (vw T4) (NS.getD z.d default) zF).1) (q := (mgetD (vw T5) (NS.getD z.d default) zF).1) rfl rfl) ?_
        refine d_t 15 rfl wn (q_pick rfl rfl rfl) ?_
        refine d_d ?_
        refine k_then_n ?_
        refine c_sure false rfl (by rw [hE]; simp) ?_
        simp only [Bool.false_eq_true, if_true, if_false]
        refine c_skip ?_
        refine k_blk_n ?_
        refine k_then_n ?_
        refine c_region ?_
        refine e_mv rfl ?_
        refine e_q (q_add rfl rfl (by omega) (by omega)) ?_
        refine e_as rfl ?_
        refine l_n ?_
        exact t_nx (⟨z.d + 1, none, 0, none, 0, none, 0⟩ : Lp _) ⟨by (try simp only []); omega, by (try simp only []); omega⟩ (.c (.c (.c (.c (.c (.nil _))))))
      · try simp only [decide_eq_true_eq, decide_eq_false_iff_not] at h9
        refine c_exit ?_
        refine k_then_x ?_
        refine k_then_x ?_
        refine k_blk_x ?_
        refine k_then_n ?_
        refine sr ?_
        refine e_mv rfl ?_
        refine e_fn Tryd.func13 rfl sl_ (fun ρ' hL => Go.Dsk.Y.append_spec bD room mbbD (-1) T4 [97] none 0 0 [] rfl ρ' hF4 (by rw [hu4]; exact hu5) hr (by decide) (by decide) (by decide) (by rw [hu4]; show _ + 0 ≤ _; omega) (SL.ro_nil encSL 1 ρ') (fun s hs => by cases hs)) ?_
        rintro _ _ ⟨T6, rfl, hvT6, rfl⟩
        try simp only [List.cons_append, List.nil_append]
        refine e_mv rfl ?_
        refine e_fn Tryd.func13 rfl sl_ (fun ρ' hL => Go.Dsk.Y.append_spec bE room mbbE (-1) T5 [97] none 0 0 [] rfl ρ' hF5 hu5 hr (by decide) (by decide) (by decide) (by show _ + 0 ≤ _; omega) (SL.ro_nil encSL 1 ρ') (fun s hs => by cases hs)) ?_
        rintro _ _ ⟨T7, rfl, hvT7, rfl⟩
        try simp only [List.cons_append, List.nil_append]
        refine e_q (q_eql rfl rfl) ?_
        refine e_as rfl ?_
        refine l_n ?_
        refine c_ret ?_
        exact t_rt [] rfl (.tmp rfl .nil) rfl ⟨rfl, boole (decide_eq_true (by rw [hE])), rfl⟩ (by (repeat refine Ent.skip ?_); exact Ent.refl _)
end Go.Dsk.A6

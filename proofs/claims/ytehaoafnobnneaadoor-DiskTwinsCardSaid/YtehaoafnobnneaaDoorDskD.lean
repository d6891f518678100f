/-
  Package disk, walked.
-/
import Derived.Test.YtehaoafnobnneaaDoorDskB
import Derived.Test.YtehaoafnobnneaaDoorDskG
import Derived.Test.YtehaoafnobnneaaDoorSlZa
import Derived.Test.YtehaoafnobnneaaDoorDskL
import Derived.Test.YtehaoafnobnneaaDoorProg
set_option maxRecDepth 100000
set_option maxHeartbeats 4000000
set_option linter.unusedSimpArgs false
set_option linter.unusedVariables false
namespace Go.Dsk.TW
open Go Go.SL Go.Proofs Go.Dsk Go.Dsk.L Go.Dsk.X Go.Dsk.B
attribute [local irreducible] Go.SL.Ent
theorem eo_3 : elemOk Tryd.prog 3 1 8 = true := by kernel_rfl
theorem eo_32 : elemOk Tryd.prog 32 1 24 = true := by kernel_rfl
theorem eo_5 : elemOk Tryd.prog 5 1 1 = true := by kernel_rfl
theorem eo_9 : elemOk Tryd.prog 9 1 16 = true := by kernel_rfl
theorem sc_32 : isScalar Tryd.prog 32 = true := by kernel_rfl
theorem sz_32 : sizeIs Tryd.prog 32 = some 1 := by kernel_rfl

theorem twins_spec (bs_a : Option Addr) (bs_n bs_c : Nat) (bs : List (SL UInt8)) (hbs_n : bs.length = bs_n) (cut : Int) (keep : Int) (ρ : Hp) (hro : Ro ρ 1 bs_a bs_n bs_c (bs.flatMap encSL)) (hbm : ∀ s ∈ bs, s.ro encB 1 ρ) : Spec0 Tryd.prog 4 #[.slice bs_a bs_n bs_c, .int .i64 cut, .int .i64 keep] ρ [] (fun v Γ' => v = .bool true ∧ Γ' = []) := by
  refine spec_of (n := 165) (vs := [_, _, _]) (σ := [(0, _), (1, _), (2, _)]) Tryd.func4 rfl rfl rfl rfl fun E Δ => ?_
  rw [List.nil_append]
  refine c_seq ?_
  refine c_region ?_
  refine l_step (s_q rfl wn (q_assign rfl) ?_)
  refine l_nil ?_
  refine k_then_n ?_
  refine c_seq ?_
  refine c_seq ?_
  refine c_region ?_
  refine l_step (s_fnq rfl wn Tryd.func9 rfl (by kernel_rfl) rfl (fun ρ' hL => awake_spec  ρ') ?_)
  refine l_step (s_q rfl wn (q_not rfl) ?_)
  refine l_step (s_q rfl wn (q_move rfl) ?_)
  refine l_step (s_q rfl (wy rfl rfl rfl) (q_move rfl) ?_)
  refine l_step (s_q rfl (wy rfl rfl rfl) (q_len Tryd.underlying26 rfl) ?_)
  refine l_step (s_q rfl (wy rfl rfl rfl) (q_gtr rfl rfl) ?_)
  refine l_step (s_q rfl wn (q_pick rfl rfl rfl) ?_)
  refine l_nil ?_
  refine k_then_n ?_
  refine c_cond rfl (fun h0 => ?_) (fun h0 => ?_)
  · try simp only [Bool.and_eq_true, Bool.or_eq_true, Bool.not_eq_true', Bool.and_eq_false_iff, Bool.or_eq_false_iff, Bool.not_eq_false', decide_eq_true_eq, decide_eq_false_iff_not, Bool.not_eq_eq_eq_not, Bool.not_true, Bool.not_false, Bool.not_eq_true, Bool.not_eq_false, beq_iff_eq, bne_iff_ne, ne_eq, Decidable.not_not] at h0
    refine c_seq ?_
    refine c_region ?_
    refine l_step (s_fnq rfl wn Tryd.func9 rfl (by kernel_rfl) rfl (fun ρ' hL => awake_spec  ρ') ?_)
    refine l_step (s_q rfl wn (q_assign rfl) ?_)
    refine l_nil ?_
    refine k_then_n ?_
    refine c_ret ?_
    refine k_then_r ?_
    exact t_ret [] rfl (.tmp rfl .nil) rfl (Hp.le_refl _) ⟨rfl, boole (by rfl), rfl⟩ (by (repeat refine Ent.skip ?_); exact Ent.refl _)
  · try simp only [Bool.and_eq_true, Bool.or_eq_true, Bool.not_eq_true', Bool.and_eq_false_iff, Bool.or_eq_false_iff, Bool.not_eq_false', decide_eq_true_eq, decide_eq_false_iff_not, Bool.not_eq_eq_eq_not, Bool.not_true, Bool.not_false, Bool.not_eq_true, Bool.not_eq_false, beq_iff_eq, bne_iff_ne, ne_eq, Decidable.not_not] at h0
    refine c_skip ?_
    refine k_then_n ?_
    refine c_seq ?_
    refine c_region ?_
    refine l_step (s_fnb rfl wn Tryd.func12 rfl (by kernel_rfl) rfl (by repeat (first | exact Sel.nil | exact Pick.here | apply Sel.cons | apply Pick.there)) (fun ρ' hL => X.new_spec 100000 ρ') ?_)
    rintro _ _ hnewbD
    obtain ⟨bD, mbbD, rfl, rfl⟩ := or_yes hnewbD (by omega)
    try simp only [List.cons_append, List.nil_append]
    refine l_step (s_q rfl wn (q_move rfl) ?_)
    refine l_step (s_q rfl wn (q_extract rfl rfl) ?_)
    refine l_step (s_q rfl wn (q_extract rfl rfl) ?_)
    refine l_step (s_q rfl wn (q_assign rfl) ?_)
    refine l_step (s_q rfl wn (q_assign rfl) ?_)
    refine l_nil ?_
    refine k_then_n ?_
    refine c_seq ?_
    refine c_seq ?_
    refine c_region ?_
    refine l_step (s_q rfl wn (q_move rfl) ?_)
    refine l_step (s_q rfl wn (by first | exact q_eqlp rfl rfl Tryd.underlying27 | exact q_eqlp0 rfl rfl Tryd.underlying27) ?_)
    refine l_step (s_q rfl wn (q_move rfl) ?_)
    refine l_step (s_q rfl (wy rfl rfl rfl) (q_move rfl) ?_)
    refine l_step (s_q rfl (wy rfl rfl rfl) (q_neq rfl rfl) ?_)
    refine l_step (s_q rfl wn (q_pick rfl rfl rfl) ?_)
    refine l_nil ?_
    refine k_then_n ?_
    refine c_sure false rfl (by rfl) ?_
    simp only [Bool.false_eq_true, if_true, if_false]
    refine c_skip ?_
    refine k_then_n ?_
    refine c_seq ?_
    refine c_region ?_
    have hTn : FOk [] := fok.2 vok_nil
    refine l_step (s_q rfl wn (q_move rfl) ?_)
    refine l_step (s_s rfl wn (s_buildSlice (cs := ([115, 116, 97, 121, 115] : List UInt8).flatMap encB) Tryd.underlying32 eo_5 rfl rfl rfl rfl (by decide) (by decide)) ?_)
    rintro _ _ ⟨b37, rfl, rfl⟩
    refine l_step (s_s rfl wn (s_mark Tryd.underlying32 Tryd.underlying5 rfl (by repeat (first | exact Pick.here | apply Pick.there))) ?_)
    rintro _ _ ⟨rfl, rfl⟩
    refine l_step (s_s rfl wn (s_buildSlice (cs := ([⟨(some ⟨b37, 0, none⟩), 5, 5⟩] : List SH).flatMap encSH) Tryd.underlying26 eo_32 rfl rfl rfl rfl (by decide) (by decide)) ?_)
    rintro _ _ ⟨b39, rfl, rfl⟩
    refine l_step (s_fnb rfl wn Tryd.func13 rfl (by kernel_rfl) rfl (by repeat (first | exact Sel.nil | exact Pick.here | apply Sel.cons | apply Pick.there)) (fun ρ' hL => Y.append_spec bD 100000 mbbD (-1) [] oth (some ⟨b39, 0, none⟩) 1 1 [⟨(some ⟨b37, 0, none⟩), [115, 116, 97, 121, 115], 5⟩] rfl ρ' (by assumption) (by decide) (by decide) (by decide) (by decide) (by decide) (by simp [usedT]) (hL.row (by repeat (first | exact Pick.here | apply Pick.there))) (by intro s hs; simp only [List.mem_cons, List.not_mem_nil, or_false] at hs; rcases hs with rfl <;> exact hL.row (by repeat (first | exact Pick.here | apply Pick.there)))) ?_)
    rintro _ _ ⟨T1, rfl, hvT1, rfl⟩
    try simp only [List.cons_append, List.nil_append]
    have hwT1 : vw T1 = [(oth, ([115, 116, 97, 121, 115], 0))] := hvT1.trans (by rfl)
    rw [show (appR 100000 (-1) (vw []) oth (([⟨(some ⟨b37, 0, none⟩), [115, 116, 97, 121, 115], 5⟩] : List (SL UInt8)).flatMap fun x : SL UInt8 => x.xs)).1 = 0 from by rfl]
    have hTT1 : FOk T1 := fok_of hwT1 (vok_one (by decide) (by decide) (by decide) (by decide))
    have huT1 : usedT T1 = usedV [(oth, ([115, 116, 97, 121, 115], 0))] := used_of hwT1
    rw [show decC (-1) = -1 from rfl]
    refine l_nil ?_
    refine k_then_n ?_
    refine c_seq ?_
    refine c_region ?_
    refine l_step (s_q rfl wn (q_move rfl) ?_)
    refine l_step (s_s rfl wn (s_buildSlice (cs := ([[111, 116, 104, 101, 114]] : List (List UInt8)).flatMap Go.SL.encStr) Tryd.underlying41 eo_9 rfl rfl rfl rfl (by decide) (by decide)) ?_)
    rintro _ _ ⟨b42, rfl, rfl⟩
    refine l_step (s_fnb rfl wn Tryd.func14 rfl (by kernel_rfl) rfl (by repeat (first | exact Sel.nil | exact Pick.here | apply Sel.cons | apply Pick.there)) (fun ρ' hL => Z.sync_spec bD 100000 mbbD (-1) T1 (some ⟨b42, 0, none⟩) 1 1 [[111, 116, 104, 101, 114]] rfl ρ' (by assumption) (by decide) (hL.row (by repeat (first | exact Pick.here | apply Pick.there)))) ?_)
    rintro _ _ ⟨T2, rfl, hvT2, rfl⟩
    try simp only [List.cons_append, List.nil_append]
    have hwT2 : vw T2 = [(oth, ([115, 116, 97, 121, 115], 5))] := hvT2.trans (by rw [hwT1]; rfl)
    rw [show (syncR (-1) (vw T1) [oth]).1 = 0 from by rw [hwT1]; rfl]
    have hTT2 : FOk T2 := fok_of hwT2 (vok_one (by decide) (by decide) (by decide) (by decide))
    have huT2 : usedT T2 = usedV [(oth, ([115, 116, 97, 121, 115], 5))] := used_of hwT2
    rw [show decC (-1) = -1 from rfl]
    refine l_nil ?_
    refine k_then_n ?_
    refine c_seq ?_
    refine c_region ?_
    refine l_step (s_q rfl wn (q_move rfl) ?_)
    refine l_step (s_s rfl wn (s_buildSlice (cs := ([108, 111, 115, 116] : List UInt8).flatMap encB) Tryd.underlying32 eo_5 rfl rfl rfl rfl (by decide) (by decide)) ?_)
    rintro _ _ ⟨b45, rfl, rfl⟩
    refine l_step (s_s rfl wn (s_mark Tryd.underlying32 Tryd.underlying5 rfl (by repeat (first | exact Pick.here | apply Pick.there))) ?_)
    rintro _ _ ⟨rfl, rfl⟩
    refine l_step (s_s rfl wn (s_buildSlice (cs := ([⟨(some ⟨b45, 0, none⟩), 4, 4⟩] : List SH).flatMap encSH) Tryd.underlying26 eo_32 rfl rfl rfl rfl (by decide) (by decide)) ?_)
    rintro _ _ ⟨b47, rfl, rfl⟩
    refine l_step (s_fnb rfl wn Tryd.func13 rfl (by kernel_rfl) rfl (by repeat (first | exact Sel.nil | exact Pick.here | apply Sel.cons | apply Pick.there)) (fun ρ' hL => Y.append_spec bD 100000 mbbD (-1) T2 oth (some ⟨b47, 0, none⟩) 1 1 [⟨(some ⟨b45, 0, none⟩), [108, 111, 115, 116], 4⟩] rfl ρ' (by assumption) (by rw [huT2]; decide) (by decide) (by decide) (by decide) (by decide) (by rw [huT2]; simp [usedV]) (hL.row (by repeat (first | exact Pick.here | apply Pick.there))) (by intro s hs; simp only [List.mem_cons, List.not_mem_nil, or_false] at hs; rcases hs with rfl <;> exact hL.row (by repeat (first | exact Pick.here | apply Pick.there)))) ?_)
    rintro _ _ ⟨T3, rfl, hvT3, rfl⟩
    try simp only [List.cons_append, List.nil_append]
    have hwT3 : vw T3 = tw1 := hvT3.trans (by rw [hwT2]; rfl)
    rw [show (appR 100000 (-1) (vw T2) oth (([⟨(some ⟨b45, 0, none⟩), [108, 111, 115, 116], 4⟩] : List (SL UInt8)).flatMap fun x : SL UInt8 => x.xs)).1 = 0 from by rw [hwT2]; rfl]
    have hTT3 : FOk T3 := fok_of hwT3 tw1_ok
    have huT3 : usedT T3 = usedV tw1 := used_of hwT3
    rw [show decC (-1) = -1 from rfl]
    refine l_nil ?_
    refine k_then_n ?_
    refine c_seq ?_
    refine c_region ?_
    refine l_step (s_q rfl wn (q_assign rfl) ?_)
    refine l_nil ?_
    refine k_then_n ?_
    refine c_seq ?_
    refine c_seq ?_
    refine c_region ?_
    refine l_step (s_q rfl wn (q_assign rfl) ?_)
    refine l_nil ?_
    refine k_then_n ?_
    refine c_block ?_
    refine Tr.env (σ' := [(0, _), (1, _), (2, _), (7, _), (9, _), (10, _)]) (.cons rfl rfl (.cons rfl rfl (.cons rfl rfl (.cons rfl rfl (.cons rfl rfl (.cons rfl rfl (.nil _))))))) ?_
    refine t_loop (ι := Lp (Nat × FT)) (fun x => x.d.1 ≤ bs_n ∧ vw x.d.2 = twV (bs.take x.d.1) ∧ ∀ s ∈ bs.take x.d.1, s.xs.length ≤ 500) (fun x => bs_n - x.d.1) (fun x => [(0, .slice bs_a bs_n bs_c), (1, .int .i64 cut), (2, .int .i64 keep), (7, .pointer (some ⟨bD, 0, none⟩)), (9, .int .i64 ((catS (bs.take x.d.1)).length : Int)), (10, .int .i64 (x.d.1 : Int))]) (fun x => .row 32 1 (some ⟨b47, 0, none⟩) 1 1 ([⟨(some ⟨b45, 0, none⟩), 4, 4⟩].flatMap encSH) :: .row 5 1 (some ⟨b45, 0, none⟩) 4 4 ([108, 111, 115, 116].flatMap encB) :: .row 9 1 (some ⟨b42, 0, none⟩) 1 1 ([[111, 116, 104, 101, 114]].flatMap Go.SL.encStr) :: .row 32 1 (some ⟨b39, 0, none⟩) 1 1 ([⟨(some ⟨b37, 0, none⟩), 5, 5⟩].flatMap encSH) :: .row 5 1 (some ⟨b37, 0, none⟩) 5 5 ([115, 116, 97, 121, 115].flatMap encB) :: .pts bD (encDisk1 (⟨100000, (some mbbD), (-1)⟩ : Disk1)) 62 :: MP strB ptV mbbD (fm x.d.2) :: FB 66 5 x.d.2 :: Δ) (⟨(0, T3), none, 0, none, 0, none, 0⟩ : Lp _) ⟨Nat.zero_le _, hwT3, fun s hs => by cases hs⟩ ?_ ?_ ?_
    · exact .cons rfl (by first | rfl | exact inte (by omega) | (simp; done) | (simp <;> omega) | simp [*]) (.cons rfl (by first | rfl | exact inte (by omega) | (simp; done) | (simp <;> omega) | simp [*]) (.cons rfl (by first | rfl | exact inte (by omega) | (simp; done) | (simp <;> omega) | simp [*]) (.cons rfl (by first | rfl | exact inte (by omega) | (simp; done) | (simp <;> omega) | simp [*]) (.cons rfl (by first | rfl | exact inte (by omega) | (simp; done) | (simp <;> omega) | simp [*]) (.cons rfl (by first | rfl | exact inte (by omega) | (simp; done) | (simp <;> omega) | simp [*]) (.nil _))))))
    · exact (by repeat (first | exact Ent.nil _ | exact Ent.refl _ | (refine Ent.pick (by repeat (first | exact Pick.here | apply Pick.there)) ?_) | refine Ent.skip ?_))
    intro x hx
    obtain ⟨hx1, hx2, hx3⟩ := hx
    have hxk : FOk x.d.2 := fok_of hx2 (twV_ok (by have := catS_le hx3; rw [List.length_take] at this; omega))
    have hux : usedT x.d.2 = 9 + (catS (bs.take x.d.1)).length := (used_of hx2).trans (twV_used _)
    have hcl := catS_le hx3
    rw [List.length_take] at hcl
    refine c_seq ?_
    refine c_seq ?_
    refine c_region ?_
    refine l_step (s_q rfl wn (q_move rfl) ?_)
    refine l_step (s_q rfl wn (q_move rfl) ?_)
    refine l_step (s_q rfl wn (q_len Tryd.underlying26 rfl) ?_)
    refine l_step (s_q rfl wn (q_lss rfl rfl) ?_)
    refine l_nil ?_
    refine k_then_n ?_
    refine c_cond rfl (fun h2 => ?_) (fun h2 => ?_)
    · try simp only [Bool.and_eq_true, Bool.or_eq_true, Bool.not_eq_true', Bool.and_eq_false_iff, Bool.or_eq_false_iff, Bool.not_eq_false', decide_eq_true_eq, decide_eq_false_iff_not, Bool.not_eq_eq_eq_not, Bool.not_true, Bool.not_false, Bool.not_eq_true, Bool.not_eq_false, beq_iff_eq, bne_iff_ne, ne_eq, Decidable.not_not] at h2
      refine c_skip ?_
      refine k_then_n ?_
      refine c_seq ?_
      refine c_block ?_
      refine c_seq ?_
      refine c_seq ?_
      refine c_region ?_
      refine l_step (s_q rfl wn (q_move rfl) ?_)
      refine l_step (s_q rfl wn (q_move rfl) ?_)
      refine l_step (s_q rfl wn (q_indexe x.d.1 Tryd.underlying26 sz_32 rfl rfl (by first | assumption | exact rd_ro (by assumption) | exact rd_row (by repeat (first | exact Pick.here | apply Pick.there))) (by decide) rfl (by first | assumption | omega | (simp only [List.length_cons, List.length_nil]; omega))) ?_)
      refine l_step (s_q rfl wn (q_loade (enc := encSL) (xs := bs) (j := x.d.1) (off := 0) sc_32 rfl (by first | assumption | exact rd_ro (by assumption) | exact rd_row (by repeat (first | exact Pick.here | apply Pick.there))) (fun _ => rfl) (by first | assumption | omega | (simp only [List.length_cons, List.length_nil]; omega)) (by decide) rfl) ?_)
      refine l_step (s_q rfl wn (q_len Tryd.underlying32 rfl) ?_)
      refine l_step (s_q rfl wn (q_gtr rfl rfl) ?_)
      refine l_nil ?_
      refine k_then_n ?_
      refine c_cond rfl (fun h3 => ?_) (fun h3 => ?_)
      · try simp only [Bool.and_eq_true, Bool.or_eq_true, Bool.not_eq_true', Bool.and_eq_false_iff, Bool.or_eq_false_iff, Bool.not_eq_false', decide_eq_true_eq, decide_eq_false_iff_not, Bool.not_eq_eq_eq_not, Bool.not_true, Bool.not_false, Bool.not_eq_true, Bool.not_eq_false, beq_iff_eq, bne_iff_ne, ne_eq, Decidable.not_not] at h3
        refine c_seq ?_
        refine c_region ?_
        refine l_step (s_q rfl wn (q_assign rfl) ?_)
        refine l_nil ?_
        refine k_then_n ?_
        refine c_ret ?_
        refine k_then_r ?_
        refine k_blk_r ?_
        refine k_then_r ?_
        refine k_then_r ?_
        refine k_blk_r ?_
        refine k_then_r ?_
        exact t_ret [] rfl (.tmp rfl .nil) rfl (Hp.le_refl _) ⟨rfl, boole (by rfl), rfl⟩ (by (repeat refine Ent.skip ?_); exact Ent.refl _)
      · try simp only [Bool.and_eq_true, Bool.or_eq_true, Bool.not_eq_true', Bool.and_eq_false_iff, Bool.or_eq_false_iff, Bool.not_eq_false', decide_eq_true_eq, decide_eq_false_iff_not, Bool.not_eq_eq_eq_not, Bool.not_true, Bool.not_false, Bool.not_eq_true, Bool.not_eq_false, beq_iff_eq, bne_iff_ne, ne_eq, Decidable.not_not] at h3
        refine c_skip ?_
        refine k_then_n ?_
        refine c_seq ?_
        refine c_region ?_
        refine l_step (s_q rfl wn (q_move rfl) ?_)
        refine l_step (s_q rfl wn (q_move rfl) ?_)
        refine l_step (s_q rfl wn (q_move rfl) ?_)
        refine l_step (s_q rfl wn (q_indexe x.d.1 Tryd.underlying26 sz_32 rfl rfl (by first | assumption | exact rd_ro (by assumption) | exact rd_row (by repeat (first | exact Pick.here | apply Pick.there))) (by decide) rfl (by first | assumption | omega | (simp only [List.length_cons, List.length_nil]; omega))) ?_)
        refine l_step (s_q rfl wn (q_loade (enc := encSL) (xs := bs) (j := x.d.1) (off := 0) sc_32 rfl (by first | assumption | exact rd_ro (by assumption) | exact rd_row (by repeat (first | exact Pick.here | apply Pick.there))) (fun _ => rfl) (by first | assumption | omega | (simp only [List.length_cons, List.length_nil]; omega)) (by decide) rfl) ?_)
        refine l_step (s_s rfl wn (s_buildSlice (cs := ([(bs.getD x.d.1 default)] : List (SL UInt8)).flatMap encSL) Tryd.underlying26 eo_32 rfl rfl rfl rfl (by decide) (by decide)) ?_)
        rintro _ _ ⟨b66, rfl, rfl⟩
        refine l_step (s_fnb rfl wn Tryd.func13 rfl (by kernel_rfl) rfl (by repeat (first | exact Sel.nil | exact Pick.here | apply Sel.cons | apply Pick.there)) (fun ρ' hL => Y.append_spec bD 100000 mbbD (-1) x.d.2 mine (some ⟨b66, 0, none⟩) 1 1 [(bs.getD x.d.1 default)] rfl ρ' (by assumption) (by omega) (by decide) (by decide) (by decide) (by decide) (by rw [hux, catS_one]; omega) (hL.row (by repeat (first | exact Pick.here | apply Pick.there))) (by intro s hs; rw [List.mem_singleton.1 hs]; exact Ro.mono hL.1 (hbm _ (getD_in (by omega))))) ?_)
        rintro _ _ ⟨T4, rfl, hvT4, rfl⟩
        try simp only [List.cons_append, List.nil_append]
        rw [show (appR 100000 (-1) (vw x.d.2) mine ([(bs.getD x.d.1 default)].flatMap fun x : SL UInt8 => x.xs)).1 = 0 from by rw [hx2, catS_one, tw_app (by omega)]]
        have hwT4 : vw T4 = twV (bs.take (x.d.1 + 1)) := hvT4.trans (by rw [hx2, catS_one, tw_app (by omega), take_succ_getD _ _ (by omega)])
        have hTT4 : FOk T4 := fok_of hwT4 (twV_ok (by rw [take_succ_getD _ _ (by omega), catS_snoc, List.length_append]; omega))
        rw [show decC (-1) = -1 from rfl]
        refine l_nil ?_
        refine k_then_n ?_
        refine c_region ?_
        refine l_step (s_q rfl wn (q_move rfl) ?_)
        refine l_step (s_q rfl wn (q_move rfl) ?_)
        refine l_step (s_q rfl wn (q_move rfl) ?_)
        refine l_step (s_q rfl wn (q_indexe x.d.1 Tryd.underlying26 sz_32 rfl rfl (by first | assumption | exact rd_ro (by assumption) | exact rd_row (by repeat (first | exact Pick.here | apply Pick.there))) (by decide) rfl (by first | assumption | omega | (simp only [List.length_cons, List.length_nil]; omega))) ?_)
        refine l_step (s_q rfl wn (q_loade (enc := encSL) (xs := bs) (j := x.d.1) (off := 0) sc_32 rfl (by first | assumption | exact rd_ro (by assumption) | exact rd_row (by repeat (first | exact Pick.here | apply Pick.there))) (fun _ => rfl) (by first | assumption | omega | (simp only [List.length_cons, List.length_nil]; omega)) (by decide) rfl) ?_)
        refine l_step (s_q rfl wn (q_len Tryd.underlying32 rfl) ?_)
        refine l_step (s_q rfl wn (q_add rfl rfl (by omega) (by omega)) ?_)
        refine l_step (s_q rfl wn (q_assign rfl) ?_)
        refine l_nil ?_
        refine k_blk_n ?_
        refine k_then_n ?_
        refine c_region ?_
        refine l_step (s_q rfl wn (q_move rfl) ?_)
        refine l_step (s_q rfl wn (q_add rfl rfl (by omega) (by omega)) ?_)
        refine l_step (s_q rfl wn (q_assign rfl) ?_)
        refine l_nil ?_
        refine k_then_n ?_
        exact t_next (⟨(x.d.1 + 1, T4), none, 0, none, 0, none, 0⟩ : Lp _) ⟨⟨by simp only []; omega, hwT4, fun s hs => by rw [take_succ_getD _ _ (by omega)] at hs; rcases List.mem_append.1 hs with h | h; exact hx3 s h; rw [List.mem_singleton.1 h]; omega⟩, by simp only []; omega⟩ (.cons rfl (by first | rfl | exact inte (by omega) | (simp; done) | (simp <;> omega) | simp [*]) (.cons rfl (by first | rfl | exact inte (by omega) | (simp; done) | (simp <;> omega) | simp [*]) (.cons rfl (by first | rfl | exact inte (by omega) | (simp; done) | (simp <;> omega) | simp [*]) (.cons rfl (by first | rfl | exact inte (by omega) | (simp; done) | (simp <;> omega) | simp [*]) (.cons rfl (inte (by rw [take_succ_getD _ _ (by omega), catS_snoc, List.length_append]; omega)) (.cons rfl (by first | rfl | exact inte (by omega) | (simp; done) | (simp <;> omega) | simp [*]) (.nil _))))))) (by repeat (first | exact Ent.nil _ | exact Ent.refl _ | (refine Ent.pick (by repeat (first | exact Pick.here | apply Pick.there)) ?_) | refine Ent.skip ?_))
    · try simp only [Bool.and_eq_true, Bool.or_eq_true, Bool.not_eq_true', Bool.and_eq_false_iff, Bool.or_eq_false_iff, Bool.not_eq_false', decide_eq_true_eq, decide_eq_false_iff_not, Bool.not_eq_eq_eq_not, Bool.not_true, Bool.not_false, Bool.not_eq_true, Bool.not_eq_false, beq_iff_eq, bne_iff_ne, ne_eq, Decidable.not_not] at h2
      have hk : x.d.1 = bs.length := by omega
      have hcc : catS (bs.take x.d.1) = catS bs := by rw [hk, List.take_length]
      rw [hcc] at hux hcl
      rw [hk, List.take_length] at hx2
      rw [hcc]
      have htb := turn2_b cut (catS bs).length
      refine c_exit ?_
      refine k_then_x ?_
      refine k_then_x ?_
      refine k_blk_x ?_
      refine k_then_n ?_
      refine c_seq ?_
      refine c_region ?_
      refine l_step (s_q rfl wn (q_move rfl) ?_)
      refine l_step (s_q rfl wn (q_move rfl) ?_)
      refine l_step (s_q rfl wn (q_add rfl rfl (by omega) (by omega)) ?_)
      refine l_step (s_q rfl wn (q_rem rfl rfl (by omega)) ?_)
      refine l_step (s_q rfl wn (q_move rfl) ?_)
      refine l_step (s_q rfl wn (q_add rfl rfl (by omega) (by omega)) ?_)
      refine l_step (s_q rfl wn (q_add rfl rfl (by omega) (by omega)) ?_)
      refine l_step (s_q rfl wn (q_move rfl) ?_)
      refine l_step (s_q rfl wn (q_add rfl rfl (by omega) (by omega)) ?_)
      refine l_step (s_q rfl wn (q_rem rfl rfl (by omega)) ?_)
      refine l_step (s_q rfl wn (q_assign rfl) ?_)
      refine l_nil ?_
      refine k_then_n ?_
      refine c_seq ?_
      refine c_seq ?_
      refine c_region ?_
      have hk0 : 0 ≤ ((((cut.tmod (((catS bs).length : Int) + 1)) + ((catS bs).length : Int)) + 1).tmod (((catS bs).length : Int) + 1)) := (turn2 cut (catS bs).length).1
      have hk1 : ((((cut.tmod (((catS bs).length : Int) + 1)) + ((catS bs).length : Int)) + 1).tmod (((catS bs).length : Int) + 1)) ≤ ((catS bs).length : Int) := (turn2 cut (catS bs).length).2
      refine l_step (s_q rfl wn (q_move rfl) ?_)
      refine l_step (s_q rfl wn (q_len Tryd.underlying26 rfl) ?_)
      refine l_step (s_q rfl wn (q_gtr rfl rfl) ?_)
      refine l_step (s_q rfl wn (q_move rfl) ?_)
      refine t_split (d := 88) rfl (fun g18_3 => ?_) (fun g18_3 => ?_)
      · try simp only [Bool.and_eq_true, Bool.or_eq_true, Bool.not_eq_true', Bool.and_eq_false_iff, Bool.or_eq_false_iff, Bool.not_eq_false', decide_eq_true_eq, decide_eq_false_iff_not, Bool.not_eq_eq_eq_not, Bool.not_true, Bool.not_false, Bool.not_eq_true, Bool.not_eq_false, beq_iff_eq, bne_iff_ne, ne_eq, Decidable.not_not] at g18_3
        have hwx : vw x.d.2 = tw2 (catS bs) := hx2.trans (if_neg (by intro e; rw [e] at hbs_n; simp at hbs_n; omega))
        refine l_step (s_q rfl (wy rfl rfl rfl) (q_move rfl) ?_)
        refine l_step (s_q rfl (wy rfl rfl rfl) (q_move rfl) ?_)
        refine l_step (s_fnb rfl (wy rfl rfl rfl) Tryd.func15 rfl (by kernel_rfl) rfl (by repeat (first | exact Sel.nil | exact Pick.here | apply Sel.cons | apply Pick.there)) (fun ρ' hL => Z.cut_spec bD 100000 mbbD (-1) x.d.2 mine ((((cut.tmod (((catS bs).length : Int) + 1)) + ((catS bs).length : Int)) + 1).tmod (((catS bs).length : Int) + 1)) ρ' (by assumption) (by decide)) ?_)
        rintro _ _ ⟨T5, rfl, hvT5, rfl⟩
        try simp only [List.cons_append, List.nil_append]
        rw [hwx] at hvT5
        rw [tw_cut hk0 hk1] at hvT5
        obtain ⟨B, hB⟩ : ∃ B : List UInt8, B = (catS bs).take ((((cut.tmod (((catS bs).length : Int) + 1)) + ((catS bs).length : Int)) + 1).tmod (((catS bs).length : Int) + 1)).toNat := ⟨_, rfl⟩
        have hwT5 : vw T5 = tw2 B := by rw [hB]; exact hvT5
        rw [show (cutR (-1) (vw x.d.2) mine ((((cut.tmod (((catS bs).length : Int) + 1)) + ((catS bs).length : Int)) + 1).tmod (((catS bs).length : Int) + 1))).1 = 0 from by rw [hwx, tw_cut hk0 hk1]]
        have hbl : B.length = ((((cut.tmod (((catS bs).length : Int) + 1)) + ((catS bs).length : Int)) + 1).tmod (((catS bs).length : Int) + 1)).toNat := by rw [hB, List.length_take]; omega
        have hTT5 : FOk T5 := fok_of hwT5 (tw2_ok (by omega))
        have huT5 : usedT T5 = 9 + B.length := (used_of hwT5).trans (by simp [usedV, tw2])
        rw [show decC (-1) = -1 from rfl]
        refine l_step (s_q rfl (wy rfl rfl rfl) (q_neq rfl rfl) ?_)
        refine l_step (s_q rfl wn (q_pick rfl rfl rfl) ?_)
        refine l_step (s_q rfl wn (q_move rfl) ?_)
        refine Tr.env (.cons (t := 94) (v := .bool false) rfl (congrArg Value.bool (by rfl)) (EnvLe.refl _)) ?_
        refine l_step (s_q rfl (wy rfl rfl rfl) (q_move rfl) ?_)
        refine l_step (s_q rfl (wy rfl rfl rfl) (q_len Tryd.underlying26 rfl) ?_)
        refine l_step (s_q rfl (wy rfl rfl rfl) (q_eql rfl rfl) ?_)
        refine l_step (s_q rfl (wy rfl rfl rfl) (q_move rfl) ?_)
        refine Tr.env (.cons (t := 98) (v := .bool false) rfl (congrArg Value.bool (decide_eq_false (by omega))) (EnvLe.refl _)) ?_
        refine l_step (s_no rfl (wno rfl rfl (by decide)) ?_)
        refine l_step (s_no rfl (wno rfl rfl (by decide)) ?_)
        refine l_step (s_no rfl (wno rfl rfl (by decide)) ?_)
        refine l_step (s_q rfl (wy rfl rfl rfl) (q_pick rfl rfl rfl) ?_)
        refine l_step (s_q rfl wn (q_pick rfl rfl rfl) ?_)
        refine l_nil ?_
        refine k_then_n ?_
        refine c_sure false rfl (by rfl) ?_
        simp only [Bool.false_eq_true, if_true, if_false]
        refine c_skip ?_
        refine k_then_n ?_
        refine c_seq ?_
        refine c_seq ?_
        refine c_region ?_
        refine l_step (s_q rfl wn (q_move rfl) ?_)
        refine l_step (s_q rfl wn (q_len Tryd.underlying26 rfl) ?_)
        refine l_step (s_q rfl wn (q_eql rfl rfl) ?_)
        refine l_nil ?_
        refine k_then_n ?_
        refine c_sure false rfl (decide_eq_false (by omega)) ?_
        simp only [Bool.false_eq_true, if_true, if_false]
        refine c_skip ?_
        refine k_then_n ?_
        refine c_seq ?_
        refine c_region ?_
        refine l_step (s_q rfl wn (q_move rfl) ?_)
        refine l_step (s_fnb rfl wn Tryd.func16 rfl (by kernel_rfl) rfl (by repeat (first | exact Sel.nil | exact Pick.here | apply Sel.cons | apply Pick.there)) (fun ρ' hL => X.read_spec bD 100000 mbbD (-1) T5 oth ρ' (by assumption)) ?_)
        rintro _ _ ⟨aR1, cR1, rfl, rfl⟩
        try simp only [List.cons_append, List.nil_append]
        rw [show (mgetD (vw T5) oth zF).1 = sloF from by rw [hwT5]; exact rfl, show mhas (vw T5) oth = true from by rw [hwT5]; rfl]
        refine l_step (s_q rfl wn (q_move rfl) ?_)
        refine l_step (s_q rfl wn (q_extract rfl rfl) ?_)
        refine l_step (s_q rfl wn (q_extract rfl rfl) ?_)
        refine l_step (s_q rfl wn (q_assign rfl) ?_)
        refine l_step (s_q rfl wn (q_assign rfl) ?_)
        refine l_nil ?_
        refine k_then_n ?_
        refine c_seq ?_
        refine c_seq ?_
        refine c_region ?_
        refine l_step (s_q rfl wn (q_move rfl) ?_)
        refine l_step (s_q rfl wn (q_not rfl) ?_)
        refine l_step (s_q rfl wn (q_move rfl) ?_)
        refine l_step (s_q rfl (wy rfl rfl rfl) (q_move rfl) ?_)
        refine l_step (s_q rfl (wy rfl rfl rfl) (q_tostr (bs := sloF) Tryd.underlying32 Tryd.underlying5 Tryd.underlying9 rfl (rd_row (by repeat (first | exact Pick.here | apply Pick.there)))) ?_)
        refine l_step (s_q rfl (wy rfl rfl rfl) (q_neqsB (p := sloF) (q := [115, 116, 97, 121, 115, 108, 111, 115, 116]) rfl rfl) ?_)
        refine l_step (s_q rfl wn (q_pick rfl rfl rfl) ?_)
        refine l_step (s_q rfl wn (q_move rfl) ?_)
        refine Tr.env (.cons (t := 119) (v := .bool false) rfl (congrArg Value.bool (by rfl)) (EnvLe.refl _)) ?_
        refine l_step (s_q rfl (wy rfl rfl rfl) (q_move rfl) ?_)
        refine l_step (s_fnb rfl (wy rfl rfl rfl) Tryd.func17 rfl (by kernel_rfl) rfl (by repeat (first | exact Sel.nil | exact Pick.here | apply Sel.cons | apply Pick.there)) (fun ρ' hL => X.safe_spec bD 100000 mbbD (-1) T5 oth ρ') ?_)
        rintro _ _ ⟨rfl, rfl⟩
        try simp only [List.cons_append, List.nil_append]
        rw [show (mgetD (vw T5) oth zF).2 = 5 from by rw [hwT5]; rfl]
        refine l_step (s_q rfl (wy rfl rfl rfl) (q_neq rfl rfl) ?_)
        refine l_step (s_q rfl wn (q_pick rfl rfl rfl) ?_)
        refine l_step (s_q rfl wn (q_move rfl) ?_)
        refine Tr.env (.cons (t := 124) (v := .bool false) rfl (congrArg Value.bool (by rfl)) (EnvLe.refl _)) ?_
        refine l_step (s_q rfl (wy rfl rfl rfl) (q_move rfl) ?_)
        refine l_step (s_fnb rfl (wy rfl rfl rfl) Tryd.func18 rfl (by kernel_rfl) rfl (by repeat (first | exact Sel.nil | exact Pick.here | apply Sel.cons | apply Pick.there)) (fun ρ' hL => free_spec bD 100000 mbbD (-1) T5 ρ' (by omega) (by omega)) ?_)
        rintro _ _ ⟨rfl, rfl⟩
        try simp only [List.cons_append, List.nil_append]
        refine l_step (s_q rfl (wy rfl rfl rfl) (q_move rfl) ?_)
        refine l_step (s_q rfl (wy rfl rfl rfl) (q_sub rfl rfl (by omega) (by omega)) ?_)
        refine l_step (s_q rfl (wy rfl rfl rfl) (q_neq rfl rfl) ?_)
        refine l_step (s_q rfl wn (q_pick rfl rfl rfl) ?_)
        refine l_nil ?_
        refine k_then_n ?_
        refine c_sure false rfl (by show decide _ = false; exact decide_eq_false (fun h => h (by omega))) ?_
        simp only [Bool.false_eq_true, if_true, if_false]
        refine c_skip ?_
        refine k_then_n ?_
        refine c_seq ?_
        refine c_region ?_
        refine l_step (s_q rfl wn (q_move rfl) ?_)
        refine l_step (s_s rfl wn (s_buildSlice (cs := ([[109, 105, 110, 101]] : List (List UInt8)).flatMap Go.SL.encStr) Tryd.underlying41 eo_9 rfl rfl rfl rfl (by decide) (by decide)) ?_)
        rintro _ _ ⟨b132, rfl, rfl⟩
        refine l_step (s_fnb rfl wn Tryd.func14 rfl (by kernel_rfl) rfl (by repeat (first | exact Sel.nil | exact Pick.here | apply Sel.cons | apply Pick.there)) (fun ρ' hL => Z.sync_spec bD 100000 mbbD (-1) T5 (some ⟨b132, 0, none⟩) 1 1 [[109, 105, 110, 101]] rfl ρ' (by assumption) (by decide) (hL.row (by repeat (first | exact Pick.here | apply Pick.there)))) ?_)
        rintro _ _ ⟨T6, rfl, hvT6, rfl⟩
        try simp only [List.cons_append, List.nil_append]
        have hwT6 : vw T6 = tw3 B := hvT6.trans (by rw [hwT5, tw_sync])
        rw [show (syncR (-1) (vw T5) [mine]).1 = 0 from by rw [hwT5, tw_sync]]
        have hTT6 : FOk T6 := fok_of hwT6 (tw3_ok (by omega))
        rw [show decC (-1) = -1 from rfl]
        refine l_nil ?_
        refine k_then_n ?_
        refine c_seq ?_
        refine c_region ?_
        refine l_step (s_q rfl wn (q_move rfl) ?_)
        refine l_step (s_q rfl wn (q_move rfl) ?_)
        refine l_step (s_s rfl wn (s_buildSlice (cs := ([keep] : List Int).flatMap encI) Tryd.underlying51 eo_3 rfl rfl rfl rfl (by decide) (by decide)) ?_)
        rintro _ _ ⟨b136, rfl, rfl⟩
        refine l_step (s_fnb rfl wn Tryd.func19 rfl (by kernel_rfl) rfl (by repeat (first | exact Sel.nil | exact Pick.here | apply Sel.cons | apply Pick.there)) (fun ρ' hL => V.crash_spec bD 100000 mbbD (-1) T6 (some ⟨b136, 0, none⟩) 1 1 [keep] rfl ρ' (by assumption) (hL.row (by repeat (first | exact Pick.here | apply Pick.there)))) ?_)
        rintro _ _ ⟨T7, rfl, hvT7, rfl⟩
        try simp only [List.cons_append, List.nil_append]
        have hwT7 : vw T7 = tw4 B := hvT7.trans (by rw [hwT6]; exact tw_crash keep B)
        have hTT7 : FOk T7 := fok_of hwT7 (tw4_ok (by omega))
        generalize (crR [keep] (vw T6)).2 = cg
        refine l_nil ?_
        refine k_then_n ?_
        refine c_seq ?_
        refine c_region ?_
        refine l_step (s_q rfl wn (q_move rfl) ?_)
        refine l_step (s_fnb rfl wn Tryd.func16 rfl (by kernel_rfl) rfl (by repeat (first | exact Sel.nil | exact Pick.here | apply Sel.cons | apply Pick.there)) (fun ρ' hL => X.read_spec bD 100000 mbbD (-1) T7 mine ρ' (by assumption)) ?_)
        rintro _ _ ⟨aR2, cR2, rfl, rfl⟩
        try simp only [List.cons_append, List.nil_append]
        rw [show (mgetD (vw T7) mine zF).1 = B from by rw [hwT7]; exact rfl, show mhas (vw T7) mine = true from by rw [hwT7]; rfl]
        refine l_step (s_q rfl wn (q_move rfl) ?_)
        refine l_step (s_q rfl wn (q_extract rfl rfl) ?_)
        refine l_step (s_q rfl wn (q_extract rfl rfl) ?_)
        refine l_step (s_q rfl wn (q_assign rfl) ?_)
        refine l_step (s_q rfl wn (q_assign rfl) ?_)
        refine l_nil ?_
        refine k_then_n ?_
        refine c_seq ?_
        refine c_region ?_
        refine l_step (s_q rfl wn (q_move rfl) ?_)
        refine l_step (s_fnb rfl wn Tryd.func16 rfl (by kernel_rfl) rfl (by repeat (first | exact Sel.nil | exact Pick.here | apply Sel.cons | apply Pick.there)) (fun ρ' hL => X.read_spec bD 100000 mbbD (-1) T7 oth ρ' (by assumption)) ?_)
        rintro _ _ ⟨aR3, cR3, rfl, rfl⟩
        try simp only [List.cons_append, List.nil_append]
        rw [show (mgetD (vw T7) oth zF).1 = ([115, 116, 97, 121, 115] : List UInt8) from by rw [hwT7]; exact rfl, show mhas (vw T7) oth = true from by rw [hwT7]; rfl]
        refine l_step (s_q rfl wn (q_move rfl) ?_)
        refine l_step (s_q rfl wn (q_extract rfl rfl) ?_)
        refine l_step (s_q rfl wn (q_extract rfl rfl) ?_)
        refine l_step (s_q rfl wn (q_assign rfl) ?_)
        refine l_step (s_q rfl wn (q_assign rfl) ?_)
        refine l_nil ?_
        refine k_then_n ?_
        refine c_seq ?_
        refine c_draw (m := 18) (bs := #[false, false, false, false, false, false, false, false, false, false, false, false, false, false, false, false, false, false]) [.row 5 1 aR3 (([115, 116, 97, 121, 115] : List UInt8).length) cR3 (([115, 116, 97, 121, 115] : List UInt8).flatMap encB), .row 5 1 aR2 B.length cR2 (B.flatMap encB), .row 3 1 (some ⟨b136, 0, none⟩) 1 1 ([keep].flatMap encI), .row 9 1 (some ⟨b132, 0, none⟩) 1 1 ([[109, 105, 110, 101]].flatMap Go.SL.encStr), .row 5 1 aR1 sloF.length cR1 (sloF.flatMap encB), .row 32 1 (some ⟨b47, 0, none⟩) 1 1 ([⟨(some ⟨b45, 0, none⟩), 4, 4⟩].flatMap encSH), .row 5 1 (some ⟨b45, 0, none⟩) 4 4 ([108, 111, 115, 116].flatMap encB), .row 9 1 (some ⟨b42, 0, none⟩) 1 1 ([[111, 116, 104, 101, 114]].flatMap Go.SL.encStr), .row 32 1 (some ⟨b39, 0, none⟩) 1 1 ([⟨(some ⟨b37, 0, none⟩), 5, 5⟩].flatMap encSH), .row 5 1 (some ⟨b37, 0, none⟩) 5 5 ([115, 116, 97, 121, 115].flatMap encB), .pts bD (encDisk1 (⟨100000, (some mbbD), (-1)⟩ : Disk1)) 62, MP strB ptV mbbD (fm T7), FB 66 5 T7] (by kernel_rfl) rfl (by kernel_rfl) ?_
        refine r_take (i := 0) (bs' := #[true, false, false, false, false, false, false, false, false, false, false, false, false, false, false, false, false, false]) rfl (by kernel_rfl) (by kernel_rfl) (by kernel_rfl) (fun _ _ _ h => h) rfl wn (q_move rfl) (Hp.le_refl _) (by repeat (first | exact Ent.nil _ | exact Ent.refl _ | (refine Ent.pick (by repeat (first | exact Pick.here | apply Pick.there)) ?_) | refine Ent.skip ?_)) (by kernel_rfl) ?_
        refine r_take (i := 1) (bs' := #[true, true, false, false, false, false, false, false, false, false, false, false, false, false, false, false, false, false]) rfl (by kernel_rfl) (by kernel_rfl) (by kernel_rfl) (fun _ _ _ h => h) rfl wn (q_len Tryd.underlying32 rfl) (Hp.le_refl _) (by repeat (first | exact Ent.nil _ | exact Ent.refl _ | (refine Ent.pick (by repeat (first | exact Pick.here | apply Pick.there)) ?_) | refine Ent.skip ?_)) (by kernel_rfl) ?_
        refine r_take (i := 2) (bs' := #[true, true, true, false, false, false, false, false, false, false, false, false, false, false, false, false, false, false]) rfl (by kernel_rfl) (by kernel_rfl) (by kernel_rfl) (fun _ _ _ h => h) rfl wn (q_move rfl) (Hp.le_refl _) (by repeat (first | exact Ent.nil _ | exact Ent.refl _ | (refine Ent.pick (by repeat (first | exact Pick.here | apply Pick.there)) ?_) | refine Ent.skip ?_)) (by kernel_rfl) ?_
        refine r_take (i := 3) (bs' := #[true, true, true, true, false, false, false, false, false, false, false, false, false, false, false, false, false, false]) rfl (by kernel_rfl) (by kernel_rfl) (by kernel_rfl) (fun _ _ _ h => h) rfl wn (q_eql rfl rfl) (Hp.le_refl _) (by repeat (first | exact Ent.nil _ | exact Ent.refl _ | (refine Ent.pick (by repeat (first | exact Pick.here | apply Pick.there)) ?_) | refine Ent.skip ?_)) (by kernel_rfl) ?_
        refine r_take (i := 4) (bs' := #[true, true, true, true, true, false, false, false, false, false, false, false, false, false, false, false, false, false]) rfl (by kernel_rfl) (by kernel_rfl) (by kernel_rfl) (fun _ _ _ h => h) rfl wn (q_move rfl) (Hp.le_refl _) (by repeat (first | exact Ent.nil _ | exact Ent.refl _ | (refine Ent.pick (by repeat (first | exact Pick.here | apply Pick.there)) ?_) | refine Ent.skip ?_)) (by kernel_rfl) ?_
        refine r_takeg (i := 5) (b := (decide ((B.length : Int) = ((((cut.tmod (((catS bs).length : Int) + 1)) + ((catS bs).length : Int)) + 1).tmod (((catS bs).length : Int) + 1))))) (bs' := #[true, true, true, true, true, true, false, false, false, false, false, false, false, false, false, false, false, false]) rfl (by kernel_rfl) (by kernel_rfl) (by kernel_rfl) (fun _ _ _ h => h) rfl (ask_t rfl rfl) (fun hb => q_move rfl) (Hp.le_refl _) (by repeat (first | exact Ent.nil _ | exact Ent.refl _ | (refine Ent.pick (by repeat (first | exact Pick.here | apply Pick.there)) ?_) | refine Ent.skip ?_)) (by kernel_rfl) ?_
        refine r_takeg (i := 6) (b := (decide ((B.length : Int) = ((((cut.tmod (((catS bs).length : Int) + 1)) + ((catS bs).length : Int)) + 1).tmod (((catS bs).length : Int) + 1))))) (bs' := #[true, true, true, true, true, true, true, false, false, false, false, false, false, false, false, false, false, false]) rfl (by kernel_rfl) (by kernel_rfl) (by kernel_rfl) (fun _ _ _ h => h) rfl (ask_t rfl rfl) (fun hb => OpQ.env (.cons rfl (gd_t hb) (.nil _) : EnvLe [(153, .slice aR3 (([115, 116, 97, 121, 115] : List UInt8).length) cR3)] _) (q_len Tryd.underlying32 rfl)) (Hp.le_refl _) (by repeat (first | exact Ent.nil _ | exact Ent.refl _ | (refine Ent.pick (by repeat (first | exact Pick.here | apply Pick.there)) ?_) | refine Ent.skip ?_)) (by kernel_rfl) ?_
        refine r_takeg (i := 7) (b := (decide ((B.length : Int) = ((((cut.tmod (((catS bs).length : Int) + 1)) + ((catS bs).length : Int)) + 1).tmod (((catS bs).length : Int) + 1))))) (bs' := #[true, true, true, true, true, true, true, true, false, false, false, false, false, false, false, false, false, false]) rfl (by kernel_rfl) (by kernel_rfl) (by kernel_rfl) (fun _ _ _ h => h) rfl (ask_t rfl rfl) (fun hb => OpQ.env (.cons rfl (gd_t hb) (.nil _) : EnvLe [(154, .int .i64 (([115, 116, 97, 121, 115] : List UInt8).length : Int))] _) (q_geq rfl rfl)) (Hp.le_refl _) (by repeat (first | exact Ent.nil _ | exact Ent.refl _ | (refine Ent.pick (by repeat (first | exact Pick.here | apply Pick.there)) ?_) | refine Ent.skip ?_)) (by kernel_rfl) ?_
        refine r_take (i := 8) (bs' := #[true, true, true, true, true, true, true, true, true, false, false, false, false, false, false, false, false, false]) rfl (by kernel_rfl) (by kernel_rfl) (by kernel_rfl) (fun _ _ _ h => h) rfl wn (q_pick_and rfl rfl rfl (fun h => h)) (Hp.le_refl _) (by repeat (first | exact Ent.nil _ | exact Ent.refl _ | (refine Ent.pick (by repeat (first | exact Pick.here | apply Pick.there)) ?_) | refine Ent.skip ?_)) (by kernel_rfl) ?_
        refine r_take (i := 9) (bs' := #[true, true, true, true, true, true, true, true, true, true, false, false, false, false, false, false, false, false]) rfl (by kernel_rfl) (by kernel_rfl) (by kernel_rfl) (fun _ _ _ h => h) rfl wn (q_move rfl) (Hp.le_refl _) (by repeat (first | exact Ent.nil _ | exact Ent.refl _ | (refine Ent.pick (by repeat (first | exact Pick.here | apply Pick.there)) ?_) | refine Ent.skip ?_)) (by kernel_rfl) ?_
        refine r_takeg (i := 10) (b := ((decide ((B.length : Int) = ((((cut.tmod (((catS bs).length : Int) + 1)) + ((catS bs).length : Int)) + 1).tmod (((catS bs).length : Int) + 1)))) && (decide (5 ≤ (([115, 116, 97, 121, 115] : List UInt8).length : Int))))) (bs' := #[true, true, true, true, true, true, true, true, true, true, true, false, false, false, false, false, false, false]) rfl (by kernel_rfl) (by kernel_rfl) (by kernel_rfl) (fun _ _ _ h => h) rfl (ask_t rfl rfl) (fun hb => q_move rfl) (Hp.le_refl _) (by repeat (first | exact Ent.nil _ | exact Ent.refl _ | (refine Ent.pick (by repeat (first | exact Pick.here | apply Pick.there)) ?_) | refine Ent.skip ?_)) (by kernel_rfl) ?_
        refine r_takeg (i := 11) (b := ((decide ((B.length : Int) = ((((cut.tmod (((catS bs).length : Int) + 1)) + ((catS bs).length : Int)) + 1).tmod (((catS bs).length : Int) + 1)))) && (decide (5 ≤ (([115, 116, 97, 121, 115] : List UInt8).length : Int))))) (bs' := #[true, true, true, true, true, true, true, true, true, true, true, true, false, false, false, false, false, false]) rfl (by kernel_rfl) (by kernel_rfl) (by kernel_rfl) (fun _ _ _ h => h) rfl (ask_t rfl rfl) (fun hb => OpQ.env (.cons rfl (gd_t hb) (.nil _) : EnvLe [(158, .slice aR3 (([115, 116, 97, 121, 115] : List UInt8).length) cR3)] _) (q_tostr (bs := ([115, 116, 97, 121, 115] : List UInt8)) Tryd.underlying32 Tryd.underlying5 Tryd.underlying9 rfl (rd_row (by repeat (first | exact Pick.here | apply Pick.there))))) (Hp.le_refl _) (by repeat (first | exact Ent.nil _ | exact Ent.refl _ | (refine Ent.pick (by repeat (first | exact Pick.here | apply Pick.there)) ?_) | refine Ent.skip ?_)) (by kernel_rfl) ?_
        refine r_takeg (i := 12) (b := ((decide ((B.length : Int) = ((((cut.tmod (((catS bs).length : Int) + 1)) + ((catS bs).length : Int)) + 1).tmod (((catS bs).length : Int) + 1)))) && (decide (5 ≤ (([115, 116, 97, 121, 115] : List UInt8).length : Int))))) (bs' := #[true, true, true, true, true, true, true, true, true, true, true, true, true, false, false, false, false, false]) rfl (by kernel_rfl) (by kernel_rfl) (by kernel_rfl) (fun _ _ _ h => h) rfl (ask_t rfl rfl) (fun hb => q_move rfl) (Hp.le_refl _) (by repeat (first | exact Ent.nil _ | exact Ent.refl _ | (refine Ent.pick (by repeat (first | exact Pick.here | apply Pick.there)) ?_) | refine Ent.skip ?_)) (by kernel_rfl) ?_
        refine r_takeg (i := 13) (b := ((decide ((B.length : Int) = ((((cut.tmod (((catS bs).length : Int) + 1)) + ((catS bs).length : Int)) + 1).tmod (((catS bs).length : Int) + 1)))) && (decide (5 ≤ (([115, 116, 97, 121, 115] : List UInt8).length : Int))))) (bs' := #[true, true, true, true, true, true, true, true, true, true, true, true, true, true, false, false, false, false]) rfl (by kernel_rfl) (by kernel_rfl) (by kernel_rfl) (fun _ _ _ h => h) rfl (ask_t rfl rfl) (fun hb => OpQ.env (.cons rfl (gd_t hb) (.nil _) : EnvLe [(160, .slice aR3 (([115, 116, 97, 121, 115] : List UInt8).length) cR3)] _) (q_len Tryd.underlying32 rfl)) (Hp.le_refl _) (by repeat (first | exact Ent.nil _ | exact Ent.refl _ | (refine Ent.pick (by repeat (first | exact Pick.here | apply Pick.there)) ?_) | refine Ent.skip ?_)) (by kernel_rfl) ?_
        refine r_takeg (i := 14) (b := ((decide ((B.length : Int) = ((((cut.tmod (((catS bs).length : Int) + 1)) + ((catS bs).length : Int)) + 1).tmod (((catS bs).length : Int) + 1)))) && (decide (5 ≤ (([115, 116, 97, 121, 115] : List UInt8).length : Int))))) (bs' := #[true, true, true, true, true, true, true, true, true, true, true, true, true, true, true, false, false, false]) rfl (by kernel_rfl) (by kernel_rfl) (by kernel_rfl) (fun _ _ _ h => h) rfl (ask_t rfl rfl) (fun hb => OpQ.env (.cons rfl (gd_t hb) (.nil _) : EnvLe [(161, .int .i64 (([115, 116, 97, 121, 115] : List UInt8).length : Int))] _) (q_cuts_hi (Tryd.underlying9) rfl rfl (by first | omega | (have hb2 := hb; (try simp only [Bool.and_eq_true, Bool.or_eq_true, Bool.not_eq_true', Bool.and_eq_false_iff, Bool.or_eq_false_iff, Bool.not_eq_false', decide_eq_true_eq, decide_eq_false_iff_not, Bool.not_eq_eq_eq_not, Bool.not_true, Bool.not_false, Bool.not_eq_true, Bool.not_eq_false, beq_iff_eq, bne_iff_ne, ne_eq, Decidable.not_not] at hb2); omega)) (by simp only [List.length_cons, List.length_nil]; omega))) (Hp.le_refl _) (by repeat (first | exact Ent.nil _ | exact Ent.refl _ | (refine Ent.pick (by repeat (first | exact Pick.here | apply Pick.there)) ?_) | refine Ent.skip ?_)) (by kernel_rfl) ?_
        refine r_takeg (i := 15) (b := ((decide ((B.length : Int) = ((((cut.tmod (((catS bs).length : Int) + 1)) + ((catS bs).length : Int)) + 1).tmod (((catS bs).length : Int) + 1)))) && (decide (5 ≤ (([115, 116, 97, 121, 115] : List UInt8).length : Int))))) (bs' := #[true, true, true, true, true, true, true, true, true, true, true, true, true, true, true, true, false, false]) rfl (by kernel_rfl) (by kernel_rfl) (by kernel_rfl) (fun _ _ _ h => h) rfl (ask_t rfl rfl) (fun hb => OpQ.env (.cons rfl (gd_t hb) (.cons rfl (gd_t hb) (.nil _)) : EnvLe [(159, (strB ([115, 116, 97, 121, 115] : List UInt8))), (162, (strB ([115, 116, 97, 121, 115, 108, 111, 115, 116].take ((([115, 116, 97, 121, 115] : List UInt8).length : Int)).toNat)))] _) (q_eqlsB (p := ([115, 116, 97, 121, 115] : List UInt8)) (q := ([115, 116, 97, 121, 115, 108, 111, 115, 116].take ((([115, 116, 97, 121, 115] : List UInt8).length : Int)).toNat)) rfl rfl)) (Hp.le_refl _) (by repeat (first | exact Ent.nil _ | exact Ent.refl _ | (refine Ent.pick (by repeat (first | exact Pick.here | apply Pick.there)) ?_) | refine Ent.skip ?_)) (by kernel_rfl) ?_
        refine r_take (i := 16) (bs' := #[true, true, true, true, true, true, true, true, true, true, true, true, true, true, true, true, true, false]) rfl (by kernel_rfl) (by kernel_rfl) (by kernel_rfl) (fun _ _ _ h => h) rfl wn (q_pick_and rfl rfl rfl (fun h => h)) (Hp.le_refl _) (by repeat (first | exact Ent.nil _ | exact Ent.refl _ | (refine Ent.pick (by repeat (first | exact Pick.here | apply Pick.there)) ?_) | refine Ent.skip ?_)) (by kernel_rfl) ?_
        refine r_take (i := 17) (bs' := #[true, true, true, true, true, true, true, true, true, true, true, true, true, true, true, true, true, true]) rfl (by kernel_rfl) (by kernel_rfl) (by kernel_rfl) (fun _ _ _ h => h) rfl wn (q_assign rfl) (Hp.le_refl _) (by repeat (first | exact Ent.nil _ | exact Ent.refl _ | (refine Ent.pick (by repeat (first | exact Pick.here | apply Pick.there)) ?_) | refine Ent.skip ?_)) (by kernel_rfl) ?_
        refine r_done (by kernel_rfl) ?_
        refine k_then_n ?_
        refine c_ret ?_
        exact t_ret [] rfl (.tmp rfl .nil) rfl (Hp.le_refl _) ⟨rfl, boole (by rw [decide_eq_true (show (B.length : Int) = _ by omega)]; rfl), rfl⟩ (by (repeat refine Ent.skip ?_); exact Ent.refl _)
      · try simp only [Bool.and_eq_true, Bool.or_eq_true, Bool.not_eq_true', Bool.and_eq_false_iff, Bool.or_eq_false_iff, Bool.not_eq_false', decide_eq_true_eq, decide_eq_false_iff_not, Bool.not_eq_eq_eq_not, Bool.not_true, Bool.not_false, Bool.not_eq_true, Bool.not_eq_false, beq_iff_eq, bne_iff_ne, ne_eq, Decidable.not_not] at g18_3
        have hbe : bs = [] := List.eq_nil_of_length_eq_zero (by omega)
        have hwx : vw x.d.2 = tw1 := hx2.trans (if_pos hbe)
        refine l_step (s_no rfl (wno rfl rfl (by decide)) ?_)
        refine l_step (s_no rfl (wno rfl rfl (by decide)) ?_)
        refine l_step (s_no rfl (wno rfl rfl (by decide)) ?_)
        refine l_step (s_no rfl (wno rfl rfl (by decide)) ?_)
        refine l_step (s_q rfl wn (q_pick rfl rfl rfl) ?_)
        refine l_step (s_q rfl wn (q_move rfl) ?_)
        refine l_step (s_q rfl (wy rfl rfl rfl) (q_move rfl) ?_)
        refine l_step (s_q rfl (wy rfl rfl rfl) (q_len Tryd.underlying26 rfl) ?_)
        refine l_step (s_q rfl (wy rfl rfl rfl) (q_eql rfl rfl) ?_)
        refine l_step (s_q rfl (wy rfl rfl rfl) (q_move rfl) ?_)
        refine Tr.env (.cons (t := 98) (v := .bool true) rfl (congrArg Value.bool (decide_eq_true (by omega))) (EnvLe.refl _)) ?_
        refine l_step (s_q rfl (wy rfl rfl rfl) (q_move rfl) ?_)
        refine l_step (s_fnb rfl (wy rfl rfl rfl) Tryd.func15 rfl (by kernel_rfl) rfl (by repeat (first | exact Sel.nil | exact Pick.here | apply Sel.cons | apply Pick.there)) (fun ρ' hL => Z.cut_spec bD 100000 mbbD (-1) x.d.2 mine 0 ρ' (by assumption) (by decide)) ?_)
        rintro _ _ ⟨T5, rfl, hvT5, rfl⟩
        try simp only [List.cons_append, List.nil_append]
        rw [hwx, tw_cut0] at hvT5
        have hwT5 : vw T5 = tw1 := hvT5
        rw [show (cutR (-1) (vw x.d.2) mine 0).1 = 30 from by rw [hwx, tw_cut0]]
        have hTT5 : FOk T5 := fok_of hwT5 tw1_ok
        have huT5 : usedT T5 = 9 := used_of hwT5
        rw [show decC (-1) = -1 from rfl]
        refine l_step (s_q rfl (wy rfl rfl rfl) (q_neq rfl rfl) ?_)
        refine l_step (s_q rfl (wy rfl rfl rfl) (q_pick rfl rfl rfl) ?_)
        refine l_step (s_q rfl wn (q_pick rfl rfl rfl) ?_)
        refine l_nil ?_
        refine k_then_n ?_
        refine c_sure false rfl (by rfl) ?_
        simp only [Bool.false_eq_true, if_true, if_false]
        refine c_skip ?_
        refine k_then_n ?_
        refine c_seq ?_
        refine c_seq ?_
        refine c_region ?_
        refine l_step (s_q rfl wn (q_move rfl) ?_)
        refine l_step (s_q rfl wn (q_len Tryd.underlying26 rfl) ?_)
        refine l_step (s_q rfl wn (q_eql rfl rfl) ?_)
        refine l_nil ?_
        refine k_then_n ?_
        refine c_sure true rfl (decide_eq_true (by omega)) ?_
        simp only [Bool.false_eq_true, if_true, if_false]
        refine c_region ?_
        refine l_step (s_q rfl wn (q_assign rfl) ?_)
        refine l_nil ?_
        refine k_then_n ?_
        refine c_seq ?_
        refine c_region ?_
        refine l_step (s_q rfl wn (q_move rfl) ?_)
        refine l_step (s_fnb rfl wn Tryd.func16 rfl (by kernel_rfl) rfl (by repeat (first | exact Sel.nil | exact Pick.here | apply Sel.cons | apply Pick.there)) (fun ρ' hL => X.read_spec bD 100000 mbbD (-1) T5 oth ρ' (by assumption)) ?_)
        rintro _ _ ⟨aR1, cR1, rfl, rfl⟩
        try simp only [List.cons_append, List.nil_append]
        rw [show (mgetD (vw T5) oth zF).1 = sloF from by rw [hwT5]; exact rfl, show mhas (vw T5) oth = true from by rw [hwT5]; rfl]
        refine l_step (s_q rfl wn (q_move rfl) ?_)
        refine l_step (s_q rfl wn (q_extract rfl rfl) ?_)
        refine l_step (s_q rfl wn (q_extract rfl rfl) ?_)
        refine l_step (s_q rfl wn (q_assign rfl) ?_)
        refine l_step (s_q rfl wn (q_assign rfl) ?_)
        refine l_nil ?_
        refine k_then_n ?_
        refine c_seq ?_
        refine c_seq ?_
        refine c_region ?_
        refine l_step (s_q rfl wn (q_move rfl) ?_)
        refine l_step (s_q rfl wn (q_not rfl) ?_)
        refine l_step (s_q rfl wn (q_move rfl) ?_)
        refine l_step (s_q rfl (wy rfl rfl rfl) (q_move rfl) ?_)
        refine l_step (s_q rfl (wy rfl rfl rfl) (q_tostr (bs := sloF) Tryd.underlying32 Tryd.underlying5 Tryd.underlying9 rfl (rd_row (by repeat (first | exact Pick.here | apply Pick.there)))) ?_)
        refine l_step (s_q rfl (wy rfl rfl rfl) (q_neqsB (p := sloF) (q := [115, 116, 97, 121, 115, 108, 111, 115, 116]) rfl rfl) ?_)
        refine l_step (s_q rfl wn (q_pick rfl rfl rfl) ?_)
        refine l_step (s_q rfl wn (q_move rfl) ?_)
        refine Tr.env (.cons (t := 119) (v := .bool false) rfl (congrArg Value.bool (by rfl)) (EnvLe.refl _)) ?_
        refine l_step (s_q rfl (wy rfl rfl rfl) (q_move rfl) ?_)
        refine l_step (s_fnb rfl (wy rfl rfl rfl) Tryd.func17 rfl (by kernel_rfl) rfl (by repeat (first | exact Sel.nil | exact Pick.here | apply Sel.cons | apply Pick.there)) (fun ρ' hL => X.safe_spec bD 100000 mbbD (-1) T5 oth ρ') ?_)
        rintro _ _ ⟨rfl, rfl⟩
        try simp only [List.cons_append, List.nil_append]
        rw [show (mgetD (vw T5) oth zF).2 = 5 from by rw [hwT5]; rfl]
        refine l_step (s_q rfl (wy rfl rfl rfl) (q_neq rfl rfl) ?_)
        refine l_step (s_q rfl wn (q_pick rfl rfl rfl) ?_)
        refine l_step (s_q rfl wn (q_move rfl) ?_)
        refine Tr.env (.cons (t := 124) (v := .bool false) rfl (congrArg Value.bool (by rfl)) (EnvLe.refl _)) ?_
        refine l_step (s_q rfl (wy rfl rfl rfl) (q_move rfl) ?_)
        refine l_step (s_fnb rfl (wy rfl rfl rfl) Tryd.func18 rfl (by kernel_rfl) rfl (by repeat (first | exact Sel.nil | exact Pick.here | apply Sel.cons | apply Pick.there)) (fun ρ' hL => free_spec bD 100000 mbbD (-1) T5 ρ' (by omega) (by omega)) ?_)
        rintro _ _ ⟨rfl, rfl⟩
        try simp only [List.cons_append, List.nil_append]
        refine l_step (s_q rfl (wy rfl rfl rfl) (q_move rfl) ?_)
        refine l_step (s_q rfl (wy rfl rfl rfl) (q_sub rfl rfl (by omega) (by omega)) ?_)
        refine l_step (s_q rfl (wy rfl rfl rfl) (q_neq rfl rfl) ?_)
        refine l_step (s_q rfl wn (q_pick rfl rfl rfl) ?_)
        refine l_nil ?_
        refine k_then_n ?_
        refine c_sure false rfl (by show decide _ = false; exact decide_eq_false (fun h => h (by omega))) ?_
        simp only [Bool.false_eq_true, if_true, if_false]
        refine c_skip ?_
        refine k_then_n ?_
        refine c_seq ?_
        refine c_region ?_
        refine l_step (s_q rfl wn (q_move rfl) ?_)
        refine l_step (s_s rfl wn (s_buildSlice (cs := ([[109, 105, 110, 101]] : List (List UInt8)).flatMap Go.SL.encStr) Tryd.underlying41 eo_9 rfl rfl rfl rfl (by decide) (by decide)) ?_)
        rintro _ _ ⟨b132, rfl, rfl⟩
        refine l_step (s_fnb rfl wn Tryd.func14 rfl (by kernel_rfl) rfl (by repeat (first | exact Sel.nil | exact Pick.here | apply Sel.cons | apply Pick.there)) (fun ρ' hL => Z.sync_spec bD 100000 mbbD (-1) T5 (some ⟨b132, 0, none⟩) 1 1 [[109, 105, 110, 101]] rfl ρ' (by assumption) (by decide) (hL.row (by repeat (first | exact Pick.here | apply Pick.there)))) ?_)
        rintro _ _ ⟨T6, rfl, hvT6, rfl⟩
        try simp only [List.cons_append, List.nil_append]
        have hwT6 : vw T6 = tw1 := hvT6.trans (by rw [hwT5, tw_sync0])
        rw [show (syncR (-1) (vw T5) [mine]).1 = 30 from by rw [hwT5, tw_sync0]]
        have hTT6 : FOk T6 := fok_of hwT6 tw1_ok
        rw [show decC (-1) = -1 from rfl]
        refine l_nil ?_
        refine k_then_n ?_
        refine c_seq ?_
        refine c_region ?_
        refine l_step (s_q rfl wn (q_move rfl) ?_)
        refine l_step (s_q rfl wn (q_move rfl) ?_)
        refine l_step (s_s rfl wn (s_buildSlice (cs := ([keep] : List Int).flatMap encI) Tryd.underlying51 eo_3 rfl rfl rfl rfl (by decide) (by decide)) ?_)
        rintro _ _ ⟨b136, rfl, rfl⟩
        refine l_step (s_fnb rfl wn Tryd.func19 rfl (by kernel_rfl) rfl (by repeat (first | exact Sel.nil | exact Pick.here | apply Sel.cons | apply Pick.there)) (fun ρ' hL => V.crash_spec bD 100000 mbbD (-1) T6 (some ⟨b136, 0, none⟩) 1 1 [keep] rfl ρ' (by assumption) (hL.row (by repeat (first | exact Pick.here | apply Pick.there)))) ?_)
        rintro _ _ ⟨T7, rfl, hvT7, rfl⟩
        try simp only [List.cons_append, List.nil_append]
        have hwT7 : vw T7 = tw5 keep := hvT7.trans (by rw [hwT6]; exact tw_crash0 keep)
        have hTT7 : FOk T7 := fok_of hwT7 (tw5_ok keep)
        have h5l := tw5_len keep
        have h5b := cr1_bd keep
        generalize (crR [keep] (vw T6)).2 = cg
        refine l_nil ?_
        refine k_then_n ?_
        refine c_seq ?_
        refine c_region ?_
        refine l_step (s_q rfl wn (q_move rfl) ?_)
        refine l_step (s_fnb rfl wn Tryd.func16 rfl (by kernel_rfl) rfl (by repeat (first | exact Sel.nil | exact Pick.here | apply Sel.cons | apply Pick.there)) (fun ρ' hL => X.read_spec bD 100000 mbbD (-1) T7 mine ρ' (by assumption)) ?_)
        rintro _ _ ⟨aR2, cR2, rfl, rfl⟩
        try simp only [List.cons_append, List.nil_append]
        rw [show (mgetD (vw T7) mine zF).1 = ([] : List UInt8) from by rw [hwT7]; exact rfl, show mhas (vw T7) mine = false from by rw [hwT7]; rfl]
        refine l_step (s_q rfl wn (q_move rfl) ?_)
        refine l_step (s_q rfl wn (q_extract rfl rfl) ?_)
        refine l_step (s_q rfl wn (q_extract rfl rfl) ?_)
        refine l_step (s_q rfl wn (q_assign rfl) ?_)
        refine l_step (s_q rfl wn (q_assign rfl) ?_)
        refine l_nil ?_
        refine k_then_n ?_
        refine c_seq ?_
        refine c_region ?_
        refine l_step (s_q rfl wn (q_move rfl) ?_)
        refine l_step (s_fnb rfl wn Tryd.func16 rfl (by kernel_rfl) rfl (by repeat (first | exact Sel.nil | exact Pick.here | apply Sel.cons | apply Pick.there)) (fun ρ' hL => X.read_spec bD 100000 mbbD (-1) T7 oth ρ' (by assumption)) ?_)
        rintro _ _ ⟨aR3, cR3, rfl, rfl⟩
        try simp only [List.cons_append, List.nil_append]
        rw [show (mgetD (vw T7) oth zF).1 = (sloF.take (cr1 keep).toNat) from by rw [hwT7]; exact rfl, show mhas (vw T7) oth = true from by rw [hwT7]; rfl]
        refine l_step (s_q rfl wn (q_move rfl) ?_)
        refine l_step (s_q rfl wn (q_extract rfl rfl) ?_)
        refine l_step (s_q rfl wn (q_extract rfl rfl) ?_)
        refine l_step (s_q rfl wn (q_assign rfl) ?_)
        refine l_step (s_q rfl wn (q_assign rfl) ?_)
        refine l_nil ?_
        refine k_then_n ?_
        refine c_seq ?_
        refine c_draw (m := 18) (bs := #[false, false, false, false, false, false, false, false, false, false, false, false, false, false, false, false, false, false]) [.row 5 1 aR3 ((sloF.take (cr1 keep).toNat).length) cR3 ((sloF.take (cr1 keep).toNat).flatMap encB), .row 5 1 aR2 (([] : List UInt8).length) cR2 (([] : List UInt8).flatMap encB), .row 3 1 (some ⟨b136, 0, none⟩) 1 1 ([keep].flatMap encI), .row 9 1 (some ⟨b132, 0, none⟩) 1 1 ([[109, 105, 110, 101]].flatMap Go.SL.encStr), .row 5 1 aR1 sloF.length cR1 (sloF.flatMap encB), .row 32 1 (some ⟨b47, 0, none⟩) 1 1 ([⟨(some ⟨b45, 0, none⟩), 4, 4⟩].flatMap encSH), .row 5 1 (some ⟨b45, 0, none⟩) 4 4 ([108, 111, 115, 116].flatMap encB), .row 9 1 (some ⟨b42, 0, none⟩) 1 1 ([[111, 116, 104, 101, 114]].flatMap Go.SL.encStr), .row 32 1 (some ⟨b39, 0, none⟩) 1 1 ([⟨(some ⟨b37, 0, none⟩), 5, 5⟩].flatMap encSH), .row 5 1 (some ⟨b37, 0, none⟩) 5 5 ([115, 116, 97, 121, 115].flatMap encB), .pts bD (encDisk1 (⟨100000, (some mbbD), (-1)⟩ : Disk1)) 62, MP strB ptV mbbD (fm T7), FB 66 5 T7] (by kernel_rfl) rfl (by kernel_rfl) ?_
        refine r_take (i := 0) (bs' := #[true, false, false, false, false, false, false, false, false, false, false, false, false, false, false, false, false, false]) rfl (by kernel_rfl) (by kernel_rfl) (by kernel_rfl) (fun _ _ _ h => h) rfl wn (q_move rfl) (Hp.le_refl _) (by repeat (first | exact Ent.nil _ | exact Ent.refl _ | (refine Ent.pick (by repeat (first | exact Pick.here | apply Pick.there)) ?_) | refine Ent.skip ?_)) (by kernel_rfl) ?_
        refine r_take (i := 1) (bs' := #[true, true, false, false, false, false, false, false, false, false, false, false, false, false, false, false, false, false]) rfl (by kernel_rfl) (by kernel_rfl) (by kernel_rfl) (fun _ _ _ h => h) rfl wn (q_len Tryd.underlying32 rfl) (Hp.le_refl _) (by repeat (first | exact Ent.nil _ | exact Ent.refl _ | (refine Ent.pick (by repeat (first | exact Pick.here | apply Pick.there)) ?_) | refine Ent.skip ?_)) (by kernel_rfl) ?_
        refine r_take (i := 2) (bs' := #[true, true, true, false, false, false, false, false, false, false, false, false, false, false, false, false, false, false]) rfl (by kernel_rfl) (by kernel_rfl) (by kernel_rfl) (fun _ _ _ h => h) rfl wn (q_move rfl) (Hp.le_refl _) (by repeat (first | exact Ent.nil _ | exact Ent.refl _ | (refine Ent.pick (by repeat (first | exact Pick.here | apply Pick.there)) ?_) | refine Ent.skip ?_)) (by kernel_rfl) ?_
        refine r_take (i := 3) (bs' := #[true, true, true, true, false, false, false, false, false, false, false, false, false, false, false, false, false, false]) rfl (by kernel_rfl) (by kernel_rfl) (by kernel_rfl) (fun _ _ _ h => h) rfl wn (q_eql rfl rfl) (Hp.le_refl _) (by repeat (first | exact Ent.nil _ | exact Ent.refl _ | (refine Ent.pick (by repeat (first | exact Pick.here | apply Pick.there)) ?_) | refine Ent.skip ?_)) (by kernel_rfl) ?_
        refine r_take (i := 4) (bs' := #[true, true, true, true, true, false, false, false, false, false, false, false, false, false, false, false, false, false]) rfl (by kernel_rfl) (by kernel_rfl) (by kernel_rfl) (fun _ _ _ h => h) rfl wn (q_move rfl) (Hp.le_refl _) (by repeat (first | exact Ent.nil _ | exact Ent.refl _ | (refine Ent.pick (by repeat (first | exact Pick.here | apply Pick.there)) ?_) | refine Ent.skip ?_)) (by kernel_rfl) ?_
        refine r_takeg (i := 5) (b := (decide ((([] : List UInt8).length : Int) = 0))) (bs' := #[true, true, true, true, true, true, false, false, false, false, false, false, false, false, false, false, false, false]) rfl (by kernel_rfl) (by kernel_rfl) (by kernel_rfl) (fun _ _ _ h => h) rfl (ask_t rfl rfl) (fun hb => q_move rfl) (Hp.le_refl _) (by repeat (first | exact Ent.nil _ | exact Ent.refl _ | (refine Ent.pick (by repeat (first | exact Pick.here | apply Pick.there)) ?_) | refine Ent.skip ?_)) (by kernel_rfl) ?_
        refine r_takeg (i := 6) (b := (decide ((([] : List UInt8).length : Int) = 0))) (bs' := #[true, true, true, true, true, true, true, false, false, false, false, false, false, false, false, false, false, false]) rfl (by kernel_rfl) (by kernel_rfl) (by kernel_rfl) (fun _ _ _ h => h) rfl (ask_t rfl rfl) (fun hb => OpQ.env (.cons rfl (gd_t hb) (.nil _) : EnvLe [(153, .slice aR3 ((sloF.take (cr1 keep).toNat).length) cR3)] _) (q_len Tryd.underlying32 rfl)) (Hp.le_refl _) (by repeat (first | exact Ent.nil _ | exact Ent.refl _ | (refine Ent.pick (by repeat (first | exact Pick.here | apply Pick.there)) ?_) | refine Ent.skip ?_)) (by kernel_rfl) ?_
        refine r_takeg (i := 7) (b := (decide ((([] : List UInt8).length : Int) = 0))) (bs' := #[true, true, true, true, true, true, true, true, false, false, false, false, false, false, false, false, false, false]) rfl (by kernel_rfl) (by kernel_rfl) (by kernel_rfl) (fun _ _ _ h => h) rfl (ask_t rfl rfl) (fun hb => OpQ.env (.cons rfl (gd_t hb) (.nil _) : EnvLe [(154, .int .i64 ((sloF.take (cr1 keep).toNat).length : Int))] _) (q_geq rfl rfl)) (Hp.le_refl _) (by repeat (first | exact Ent.nil _ | exact Ent.refl _ | (refine Ent.pick (by repeat (first | exact Pick.here | apply Pick.there)) ?_) | refine Ent.skip ?_)) (by kernel_rfl) ?_
        refine r_take (i := 8) (bs' := #[true, true, true, true, true, true, true, true, true, false, false, false, false, false, false, false, false, false]) rfl (by kernel_rfl) (by kernel_rfl) (by kernel_rfl) (fun _ _ _ h => h) rfl wn (q_pick_and rfl rfl rfl (fun h => h)) (Hp.le_refl _) (by repeat (first | exact Ent.nil _ | exact Ent.refl _ | (refine Ent.pick (by repeat (first | exact Pick.here | apply Pick.there)) ?_) | refine Ent.skip ?_)) (by kernel_rfl) ?_
        refine r_take (i := 9) (bs' := #[true, true, true, true, true, true, true, true, true, true, false, false, false, false, false, false, false, false]) rfl (by kernel_rfl) (by kernel_rfl) (by kernel_rfl) (fun _ _ _ h => h) rfl wn (q_move rfl) (Hp.le_refl _) (by repeat (first | exact Ent.nil _ | exact Ent.refl _ | (refine Ent.pick (by repeat (first | exact Pick.here | apply Pick.there)) ?_) | refine Ent.skip ?_)) (by kernel_rfl) ?_
        refine r_takeg (i := 10) (b := ((decide ((([] : List UInt8).length : Int) = 0)) && (decide (5 ≤ ((sloF.take (cr1 keep).toNat).length : Int))))) (bs' := #[true, true, true, true, true, true, true, true, true, true, true, false, false, false, false, false, false, false]) rfl (by kernel_rfl) (by kernel_rfl) (by kernel_rfl) (fun _ _ _ h => h) rfl (ask_t rfl rfl) (fun hb => q_move rfl) (Hp.le_refl _) (by repeat (first | exact Ent.nil _ | exact Ent.refl _ | (refine Ent.pick (by repeat (first | exact Pick.here | apply Pick.there)) ?_) | refine Ent.skip ?_)) (by kernel_rfl) ?_
        refine r_takeg (i := 11) (b := ((decide ((([] : List UInt8).length : Int) = 0)) && (decide (5 ≤ ((sloF.take (cr1 keep).toNat).length : Int))))) (bs' := #[true, true, true, true, true, true, true, true, true, true, true, true, false, false, false, false, false, false]) rfl (by kernel_rfl) (by kernel_rfl) (by kernel_rfl) (fun _ _ _ h => h) rfl (ask_t rfl rfl) (fun hb => OpQ.env (.cons rfl (gd_t hb) (.nil _) : EnvLe [(158, .slice aR3 ((sloF.take (cr1 keep).toNat).length) cR3)] _) (q_tostr (bs := (sloF.take (cr1 keep).toNat)) Tryd.underlying32 Tryd.underlying5 Tryd.underlying9 rfl (rd_row (by repeat (first | exact Pick.here | apply Pick.there))))) (Hp.le_refl _) (by repeat (first | exact Ent.nil _ | exact Ent.refl _ | (refine Ent.pick (by repeat (first | exact Pick.here | apply Pick.there)) ?_) | refine Ent.skip ?_)) (by kernel_rfl) ?_
        refine r_takeg (i := 12) (b := ((decide ((([] : List UInt8).length : Int) = 0)) && (decide (5 ≤ ((sloF.take (cr1 keep).toNat).length : Int))))) (bs' := #[true, true, true, true, true, true, true, true, true, true, true, true, true, false, false, false, false, false]) rfl (by kernel_rfl) (by kernel_rfl) (by kernel_rfl) (fun _ _ _ h => h) rfl (ask_t rfl rfl) (fun hb => q_move rfl) (Hp.le_refl _) (by repeat (first | exact Ent.nil _ | exact Ent.refl _ | (refine Ent.pick (by repeat (first | exact Pick.here | apply Pick.there)) ?_) | refine Ent.skip ?_)) (by kernel_rfl) ?_
        refine r_takeg (i := 13) (b := ((decide ((([] : List UInt8).length : Int) = 0)) && (decide (5 ≤ ((sloF.take (cr1 keep).toNat).length : Int))))) (bs' := #[true, true, true, true, true, true, true, true, true, true, true, true, true, true, false, false, false, false]) rfl (by kernel_rfl) (by kernel_rfl) (by kernel_rfl) (fun _ _ _ h => h) rfl (ask_t rfl rfl) (fun hb => OpQ.env (.cons rfl (gd_t hb) (.nil _) : EnvLe [(160, .slice aR3 ((sloF.take (cr1 keep).toNat).length) cR3)] _) (q_len Tryd.underlying32 rfl)) (Hp.le_refl _) (by repeat (first | exact Ent.nil _ | exact Ent.refl _ | (refine Ent.pick (by repeat (first | exact Pick.here | apply Pick.there)) ?_) | refine Ent.skip ?_)) (by kernel_rfl) ?_
        refine r_takeg (i := 14) (b := ((decide ((([] : List UInt8).length : Int) = 0)) && (decide (5 ≤ ((sloF.take (cr1 keep).toNat).length : Int))))) (bs' := #[true, true, true, true, true, true, true, true, true, true, true, true, true, true, true, false, false, false]) rfl (by kernel_rfl) (by kernel_rfl) (by kernel_rfl) (fun _ _ _ h => h) rfl (ask_t rfl rfl) (fun hb => OpQ.env (.cons rfl (gd_t hb) (.nil _) : EnvLe [(161, .int .i64 ((sloF.take (cr1 keep).toNat).length : Int))] _) (q_cuts_hi (Tryd.underlying9) rfl rfl (by first | omega | (have hb2 := hb; (try simp only [Bool.and_eq_true, Bool.or_eq_true, Bool.not_eq_true', Bool.and_eq_false_iff, Bool.or_eq_false_iff, Bool.not_eq_false', decide_eq_true_eq, decide_eq_false_iff_not, Bool.not_eq_eq_eq_not, Bool.not_true, Bool.not_false, Bool.not_eq_true, Bool.not_eq_false, beq_iff_eq, bne_iff_ne, ne_eq, Decidable.not_not] at hb2); omega)) (by simp only [List.length_cons, List.length_nil]; omega))) (Hp.le_refl _) (by repeat (first | exact Ent.nil _ | exact Ent.refl _ | (refine Ent.pick (by repeat (first | exact Pick.here | apply Pick.there)) ?_) | refine Ent.skip ?_)) (by kernel_rfl) ?_
        refine r_takeg (i := 15) (b := ((decide ((([] : List UInt8).length : Int) = 0)) && (decide (5 ≤ ((sloF.take (cr1 keep).toNat).length : Int))))) (bs' := #[true, true, true, true, true, true, true, true, true, true, true, true, true, true, true, true, false, false]) rfl (by kernel_rfl) (by kernel_rfl) (by kernel_rfl) (fun _ _ _ h => h) rfl (ask_t rfl rfl) (fun hb => OpQ.env (.cons rfl (gd_t hb) (.cons rfl (gd_t hb) (.nil _)) : EnvLe [(159, (strB (sloF.take (cr1 keep).toNat))), (162, (strB ([115, 116, 97, 121, 115, 108, 111, 115, 116].take (((sloF.take (cr1 keep).toNat).length : Int)).toNat)))] _) (q_eqlsB (p := (sloF.take (cr1 keep).toNat)) (q := ([115, 116, 97, 121, 115, 108, 111, 115, 116].take (((sloF.take (cr1 keep).toNat).length : Int)).toNat)) rfl rfl)) (Hp.le_refl _) (by repeat (first | exact Ent.nil _ | exact Ent.refl _ | (refine Ent.pick (by repeat (first | exact Pick.here | apply Pick.there)) ?_) | refine Ent.skip ?_)) (by kernel_rfl) ?_
        refine r_take (i := 16) (bs' := #[true, true, true, true, true, true, true, true, true, true, true, true, true, true, true, true, true, false]) rfl (by kernel_rfl) (by kernel_rfl) (by kernel_rfl) (fun _ _ _ h => h) rfl wn (q_pick_and rfl rfl rfl (fun h => h)) (Hp.le_refl _) (by repeat (first | exact Ent.nil _ | exact Ent.refl _ | (refine Ent.pick (by repeat (first | exact Pick.here | apply Pick.there)) ?_) | refine Ent.skip ?_)) (by kernel_rfl) ?_
        refine r_take (i := 17) (bs' := #[true, true, true, true, true, true, true, true, true, true, true, true, true, true, true, true, true, true]) rfl (by kernel_rfl) (by kernel_rfl) (by kernel_rfl) (fun _ _ _ h => h) rfl wn (q_assign rfl) (Hp.le_refl _) (by repeat (first | exact Ent.nil _ | exact Ent.refl _ | (refine Ent.pick (by repeat (first | exact Pick.here | apply Pick.there)) ?_) | refine Ent.skip ?_)) (by kernel_rfl) ?_
        refine r_done (by kernel_rfl) ?_
        refine k_then_n ?_
        refine c_ret ?_
        exact t_ret [] rfl (.tmp rfl .nil) rfl (Hp.le_refl _) ⟨rfl, boole (by rw [decide_eq_true (show (5 : Int) ≤ ((sloF.take (cr1 keep).toNat).length : Int) by omega), Int.toNat_natCast, h5l, decide_eq_true (show sloF.take (cr1 keep).toNat = _ from rfl)]; rfl), rfl⟩ (by (repeat refine Ent.skip ?_); exact Ent.refl _)
end Go.Dsk.TW

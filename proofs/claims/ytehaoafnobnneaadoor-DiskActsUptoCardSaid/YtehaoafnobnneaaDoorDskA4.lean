/-
  Package disk, walked.
-/
import Derived.Test.YtehaoafnobnneaaDoorDskAA
import Derived.Test.YtehaoafnobnneaaDoorDskL
import Derived.Test.YtehaoafnobnneaaDoorProg
set_option maxRecDepth 100000
set_option maxHeartbeats 4000000
set_option linter.unusedSimpArgs false
set_option linter.unusedVariables false
namespace Go.Dsk.A4
open Go Go.SL Go.Proofs Go.Dsk Go.Dsk.L Go.Dsk.X Go.Dsk.RA Go.Dsk.RB Go.Dsk.RC Go.Dsk.RD Go.Dsk.RE Go.Dsk.RF Go.Dsk.A1 Go.Dsk.A2 Go.Dsk.A3
attribute [local irreducible] Go.SL.Ent
theorem ag_53 : aggSize Tryd.prog 53 = some 5 := by kernel_rfl
theorem eo_32 : elemOk Tryd.prog 32 1 24 = true := by kernel_rfl
theorem eo_5 : elemOk Tryd.prog 5 1 1 = true := by kernel_rfl
theorem fo_53_2 : fieldOff Tryd.prog 53 2 = some (2, 26) := by kernel_rfl
theorem pl_49 : placesOf Tryd.prog 49 = some [(0, 1), (1, 1), (2, 1), (3, 1)] := by kernel_rfl
theorem sc_26 : isScalar Tryd.prog 26 = true := by kernel_rfl
theorem sc_32 : isScalar Tryd.prog 32 = true := by kernel_rfl
theorem sc_5 : isScalar Tryd.prog 5 = true := by kernel_rfl
theorem sz_26 : sizeIs Tryd.prog 26 = some 1 := by kernel_rfl
theorem sz_32 : sizeIs Tryd.prog 32 = some 1 := by kernel_rfl
theorem sz_5 : sizeIs Tryd.prog 5 = some 1 := by kernel_rfl
theorem sz_53 : sizeIs Tryd.prog 53 = some 5 := by kernel_rfl
theorem zc_49 : zeroCs Tryd.prog 49 = some [.int .i64 0, .slice none 0 0, .bool false, .int .i64 0] := by kernel_rfl

theorem acts_spec (room : Int) (acts_a : Option Addr) (acts_n acts_c : Nat) (acts : List DAct) (hacts_n : acts.length = acts_n) (ρ : Hp) (hr : room ≤ 9223372036854775807) (hro : Ro ρ 5 acts_a acts_n acts_c (acts.flatMap encDAct)) (hA : ∀ a ∈ acts, DActM a ρ ∧ actSize a ≤ 4611686018427387904 ∧ a.N ≤ 9223372036854775807) : Spec0 Tryd.prog 7 #[.int .i64 room, .slice acts_a acts_n acts_c] ρ [] (fun v Γ' => v = .bool true ∧ Γ' = []) := by
  refine spec_of (n := 114) (vs := [_, _]) (σ := [(0, _), (1, _)]) Tryd.func7 rfl rfl rfl rfl fun E Δ => ?_
  rw [List.nil_append]
  refine c_seq ?_
  refine c_region ?_
  refine l_step (s_q rfl wn (q_assign rfl) ?_)
  refine l_nil ?_
  refine k_then_n ?_
  refine c_seq ?_
  refine c_seq ?_
  refine c_region ?_
  refine l_step (s_fnq rfl wn Tryd.func9 rfl (by kernel_rfl) rfl (fun ρ' hL => Go.Dsk.B.awake_spec ρ') ?_)
  refine l_step (s_q rfl wn (q_not rfl) ?_)
  refine l_step (s_q rfl wn (q_move rfl) ?_)
  refine l_step (s_q rfl (wy rfl rfl rfl) (q_move rfl) ?_)
  refine l_step (s_q rfl (wy rfl rfl rfl) (q_len Tryd.underlying45 rfl) ?_)
  refine l_step (s_q rfl (wy rfl rfl rfl) (q_gtr rfl rfl) ?_)
  refine l_step (s_q rfl wn (q_pick rfl rfl rfl) ?_)
  refine l_nil ?_
  refine k_then_n ?_
  refine c_cond rfl (fun h0 => ?_) (fun h0 => ?_)
  · try simp only [Bool.and_eq_true, Bool.or_eq_true, Bool.not_eq_true', Bool.and_eq_false_iff, Bool.or_eq_false_iff, Bool.not_eq_false', decide_eq_true_eq, decide_eq_false_iff_not, Bool.not_eq_eq_eq_not, Bool.not_true, Bool.not_false, Bool.not_eq_true, Bool.not_eq_false, beq_iff_eq, bne_iff_ne, ne_eq, Decidable.not_not] at h0
    refine c_seq ?_
    refine c_region ?_
    refine l_step (s_fnq rfl wn Tryd.func9 rfl (by kernel_rfl) rfl (fun ρ' hL => Go.Dsk.B.awake_spec ρ') ?_)
    refine l_step (s_q rfl wn (q_assign rfl) ?_)
    refine l_nil ?_
    refine k_then_n ?_
    refine c_ret ?_
    refine k_then_r ?_
    exact t_ret [] rfl (.tmp rfl .nil) rfl (Hp.le_refl _) ⟨rfl, boole (by rfl), rfl⟩ (by (repeat refine Ent.skip ?_); exact Ent.refl _)
  · try simp only [Bool.and_eq_true, Bool.or_eq_true, Bool.not_eq_true', Bool.and_eq_false_iff, Bool.or_eq_false_iff, Bool.not_eq_false', decide_eq_true_eq, decide_eq_false_iff_not, Bool.not_eq_eq_eq_not, Bool.not_true, Bool.not_false, Bool.not_eq_true, Bool.not_eq_false, beq_iff_eq, bne_iff_ne, ne_eq, Decidable.not_not] at h0
    refine c_skip ?_
    refine k_then_n ?_
    refine c_seq ?_
    refine c_region ?_
    refine l_step (s_q rfl wn (q_move rfl) ?_)
    refine l_step (s_fnb rfl wn Tryd.func12 rfl (by kernel_rfl) rfl (by repeat (first | exact Sel.nil | exact Pick.here | apply Sel.cons | apply Pick.there)) (fun ρ' hL => Go.Dsk.X.new_spec room ρ') ?_)
    rintro _ _ (⟨hrm, bD, mbD, rfl, rfl⟩ | ⟨hrm, rfl, rfl⟩)
    try simp only [List.cons_append, List.nil_append]
    · skip
      refine l_step (s_q rfl wn (q_move rfl) ?_)
      refine l_step (s_q rfl wn (q_extract rfl rfl) ?_)
      refine l_step (s_q rfl wn (q_extract rfl rfl) ?_)
      refine l_step (s_q rfl wn (q_assign rfl) ?_)
      refine l_step (s_q rfl wn (q_assign rfl) ?_)
      refine l_nil ?_
      refine k_then_n ?_
      refine c_seq ?_
      refine c_seq ?_
      refine c_region ?_
      refine l_step (s_q rfl wn (q_move rfl) ?_)
      refine l_step (s_q rfl wn (q_lss rfl rfl) ?_)
      refine l_nil ?_
      refine k_then_n ?_
      refine c_sure false rfl (decide_eq_false (by omega)) ?_
      simp only [Bool.false_eq_true, if_true, if_false]
      refine c_skip ?_
      refine k_then_n ?_
      refine c_seq ?_
      refine c_seq ?_
      refine c_region ?_
      refine l_step (s_q rfl wn (q_move rfl) ?_)
      refine l_step (s_q rfl wn (by first | exact q_eqlp rfl rfl Tryd.underlying27 | exact q_eqlp0 rfl rfl Tryd.underlying27) ?_)
      refine l_step (s_q rfl wn (q_move rfl) ?_)
      refine l_step (s_q rfl (wy rfl rfl rfl) (q_move rfl) ?_)
      refine l_step (s_q rfl (wy rfl rfl rfl) (q_neq rfl rfl) ?_)
      refine l_step (s_q rfl wn (q_pick rfl rfl rfl) ?_)
      refine l_nil ?_
      refine k_then_n ?_
      refine c_sure false rfl (by rfl) ?_
      simp only [Bool.false_eq_true, if_true, if_false]
      refine c_skip ?_
      refine k_then_n ?_
      refine c_seq ?_
      refine c_region ?_
      refine l_step (s_q rfl wn (q_move rfl) ?_)
      refine l_step (s_q rfl wn (q_build (cs := encRDisk (⟨room, ⟨none, 0, 0⟩, false, 0⟩ : RDisk)) zc_49 pl_49 rfl rfl) ?_)
      refine l_step (s_s rfl wn (s_box (cs := encRDisk (⟨room, ⟨none, 0, 0⟩, false, 0⟩ : RDisk)) rfl rfl) ?_)
      rintro _ _ ⟨b43, rfl, rfl⟩
      refine l_step (s_q rfl wn (q_assign rfl) ?_)
      refine l_nil ?_
      refine k_then_n ?_
      refine c_seq ?_
      refine c_seq ?_
      refine c_region ?_
      refine Tr.ent (Ent.nilrow 82 3 _) ?_
      refine Tr.ent (bun_nil _) ?_
      refine l_step (s_q rfl wn (q_assign rfl) ?_)
      refine l_nil ?_
      refine k_then_n ?_
      refine c_block ?_
      refine Tr.env (σ' := [(1, _), (5, _), (7, _), (8, _)]) (.cons rfl rfl (.cons rfl rfl (.cons rfl rfl (.cons rfl rfl (.nil _))))) ?_
      refine t_loop (ι := Lp (Nat × FT × RT × Int × Option Addr × Nat × Bool × Int)) (fun x => x.d.1 ≤ acts_n ∧ Alike room x.d.2.2.2.1 x.d.2.2.2.2.2.2.1 x.d.2.2.2.2.2.2.2 (vw x.d.2.1) (rvw x.d.2.2.1) (2000 * x.d.1)) (fun x => acts_n - x.d.1) (fun x => [(1, .slice acts_a acts_n acts_c), (5, .pointer (some ⟨bD, 0, none⟩)), (7, .pointer (some ⟨b43, 0, none⟩)), (8, .int .i64 (x.d.1 : Int))]) (fun x => RB 5 x.d.2.2.1 :: .row 82 3 x.d.2.2.2.2.1 x.d.2.2.1.length x.d.2.2.2.2.2.1 (x.d.2.2.1.flatMap encRFile) :: .pts b43 (encRDisk (⟨room, ⟨x.d.2.2.2.2.1, x.d.2.2.1.length, x.d.2.2.2.2.2.1⟩, x.d.2.2.2.2.2.2.1, x.d.2.2.2.2.2.2.2⟩ : RDisk)) 49 :: .pts bD (encDisk1 (⟨room, (some mbD), x.d.2.2.2.1⟩ : Disk1)) 62 :: MP strB ptV mbD (fm x.d.2.1) :: FB 66 5 x.d.2.1 :: Δ) (⟨(0, [], [], -1, none, 0, false, 0), none, 0, none, 0, none, 0⟩ : Lp _) ⟨Nat.zero_le _, ⟨sim_nil, rfl, (fun h => by cases h), by decide, ⟨vok_nil, by decide, by decide⟩, (show ((0 : Nat) : Int) ≤ room from hrm)⟩⟩ ?_ ?_ ?_
      · exact .cons rfl (by first | rfl | exact inte (by omega) | (simp; done) | (simp <;> omega) | simp [*]) (.cons rfl (by first | rfl | exact inte (by omega) | (simp; done) | (simp <;> omega) | simp [*]) (.cons rfl (by first | rfl | exact inte (by omega) | (simp; done) | (simp <;> omega) | simp [*]) (.cons rfl (by first | rfl | exact inte (by omega) | (simp; done) | (simp <;> omega) | simp [*]) (.nil _))))
      · exact (by repeat (first | exact Ent.nil _ | exact Ent.refl _ | (refine Ent.pick (by repeat (first | exact Pick.here | apply Pick.there)) ?_) | refine Ent.skip ?_))
      intro x hx
      obtain ⟨hx1, hx2⟩ := hx
      refine c_seq ?_
      refine c_seq ?_
      refine c_region ?_
      refine l_step (s_q rfl wn (q_move rfl) ?_)
      refine l_step (s_q rfl wn (q_move rfl) ?_)
      refine l_step (s_q rfl wn (q_len Tryd.underlying45 rfl) ?_)
      refine l_step (s_q rfl wn (q_lss rfl rfl) ?_)
      refine l_nil ?_
      refine k_then_n ?_
      refine c_cond rfl (fun h3 => ?_) (fun h3 => ?_)
      · try simp only [Bool.and_eq_true, Bool.or_eq_true, Bool.not_eq_true', Bool.and_eq_false_iff, Bool.or_eq_false_iff, Bool.not_eq_false', decide_eq_true_eq, decide_eq_false_iff_not, Bool.not_eq_eq_eq_not, Bool.not_true, Bool.not_false, Bool.not_eq_true, Bool.not_eq_false, beq_iff_eq, bne_iff_ne, ne_eq, Decidable.not_not] at h3
        refine c_skip ?_
        refine k_then_n ?_
        refine c_seq ?_
        refine c_block ?_
        refine c_seq ?_
        refine c_region ?_
        refine l_step (s_q rfl wn (q_move rfl) ?_)
        refine l_step (s_q rfl wn (q_move rfl) ?_)
        refine l_step (s_q rfl wn (q_indexe x.d.1 Tryd.underlying45 sz_53 rfl rfl (by first | assumption | exact rd_ro (by assumption) | exact rd_row (by repeat (first | exact Pick.here | apply Pick.there))) (by decide) rfl (by first | assumption | omega | (simp only [List.length_cons, List.length_nil]; omega))) ?_)
        refine l_step (s_q rfl wn (q_loadea (vs := encDAct (acts.getD x.d.1 default)) (enc := encDAct) (xs := acts) (j := x.d.1) (off := 0) ag_53 rfl (by first | assumption | exact rd_ro (by assumption) | exact rd_row (by repeat (first | exact Pick.here | apply Pick.there))) (fun _ => rfl) (by first | assumption | omega | (simp only [List.length_cons, List.length_nil]; omega)) (by simp [encDAct]) (by simp [encDAct]) rfl) ?_)
        refine l_step (s_s rfl wn (s_allocz (cs := encDAct zDAct) (by kernel_rfl)) ?_)
        rintro _ _ ⟨b9, rfl, rfl⟩
        refine l_step (s_s0 wn (s_storep (ws := encDAct (acts.getD x.d.1 default)) (cs := encDAct zDAct) (cs' := encDAct (acts.getD x.d.1 default)) rfl rfl rfl sz_53 (oneDAct _) (by simp [encDAct, encDAct]) rfl (by repeat (first | exact Pick.here | apply Pick.there))) ?_)
        rintro _ _ ⟨rfl, rfl⟩
        refine l_nil ?_
        refine k_then_n ?_
        refine c_seq ?_
        refine c_seq ?_
        refine c_region ?_
        obtain ⟨hAk, hAs, hN9⟩ := hA (acts.getD x.d.1 default) (getD_in (by omega))
        have hsz0 : actSize (acts.getD x.d.1 default) = (acts.getD x.d.1 default).Keep.xs.length + 1 + sumN (acts.getD x.d.1 default).Names.xs + sumB_ (acts.getD x.d.1 default).Bs.xs := rfl
        have hsb9 := sumB_len (acts.getD x.d.1 default).Bs.xs
        have hroB : Ro ρ 1 (acts.getD x.d.1 default).Bs.a (acts.getD x.d.1 default).Bs.xs.length (acts.getD x.d.1 default).Bs.cap ((acts.getD x.d.1 default).Bs.xs.flatMap encSL) := hAk.bs
        refine l_step (s_q rfl wn (q_loadpa (vs := encDAct (⟨(acts.getD x.d.1 default).Kind, (acts.getD x.d.1 default).Names, (acts.getD x.d.1 default).Bs, (acts.getD x.d.1 default).N, (acts.getD x.d.1 default).Keep⟩ : DAct)) ag_53 rfl (by repeat (first | exact Pick.here | apply Pick.there)) rfl) ?_)
        refine l_step (s_fnq rfl wn Tryd.func24 rfl (by kernel_rfl) rfl (fun ρ' hL => Go.Dsk.A1.asize_spec (acts.getD x.d.1 default) ρ' (hAk.mono hL.1) (by omega)) ?_)
        refine l_step (s_q rfl wn (q_gtr rfl rfl) ?_)
        refine l_nil ?_
        refine k_then_n ?_
        refine c_cond rfl (fun h4 => ?_) (fun h4 => ?_)
        · try simp only [Bool.and_eq_true, Bool.or_eq_true, Bool.not_eq_true', Bool.and_eq_false_iff, Bool.or_eq_false_iff, Bool.not_eq_false', decide_eq_true_eq, decide_eq_false_iff_not, Bool.not_eq_eq_eq_not, Bool.not_true, Bool.not_false, Bool.not_eq_true, Bool.not_eq_false, beq_iff_eq, bne_iff_ne, ne_eq, Decidable.not_not] at h4
          refine c_seq ?_
          refine c_region ?_
          refine l_step (s_q rfl wn (q_assign rfl) ?_)
          refine l_nil ?_
          refine k_then_n ?_
          refine c_ret ?_
          refine k_then_r ?_
          refine k_blk_r ?_
          refine k_then_r ?_
          refine k_then_r ?_
          refine k_blk_r ?_
          refine k_then_r ?_
          exact t_ret [] rfl (.tmp rfl .nil) rfl (Hp.le_refl _) ⟨rfl, boole (by rfl), rfl⟩ (by (repeat refine Ent.skip ?_); exact Ent.refl _)
        · try simp only [Bool.and_eq_true, Bool.or_eq_true, Bool.not_eq_true', Bool.and_eq_false_iff, Bool.or_eq_false_iff, Bool.not_eq_false', decide_eq_true_eq, decide_eq_false_iff_not, Bool.not_eq_eq_eq_not, Bool.not_true, Bool.not_false, Bool.not_eq_true, Bool.not_eq_false, beq_iff_eq, bne_iff_ne, ne_eq, Decidable.not_not] at h4
          have hs2k : actSize (acts.getD x.d.1 default) ≤ 2000 := by omega
          refine c_skip ?_
          refine k_then_n ?_
          refine c_seq ?_
          refine c_region ?_
          refine l_step (s_q rfl wn (q_assign rfl) ?_)
          refine l_nil ?_
          refine k_then_n ?_
          refine c_seq ?_
          refine c_seq ?_
          refine c_region ?_
          refine Tr.ent (bun_nil _) ?_
          refine Tr.ent (Ent.nilrow 32 1 _) ?_
          refine l_step (s_q rfl wn (q_assign rfl) ?_)
          refine l_nil ?_
          refine k_then_n ?_
          refine c_block ?_
          refine Tr.env (σ' := [(1, _), (5, _), (7, _), (8, _), (9, _), (10, _), (11, _), (44, _), (45, _), (46, _), (47, _), (50, _), (51, _), (52, _), (53, _), (54, _), (55, _), (56, _)]) (.cons rfl rfl (.cons rfl rfl (.cons rfl rfl (.cons rfl rfl (.cons rfl rfl (.cons rfl rfl (.cons rfl rfl (.cons rfl rfl (.cons rfl rfl (.cons rfl rfl (.cons rfl rfl (.cons rfl rfl (.cons rfl rfl (.cons rfl rfl (.cons rfl rfl (.cons rfl rfl (.cons rfl rfl (.cons rfl rfl (.nil _))))))))))))))))))) ?_
          refine t_loop (ι := Lp (List (SL UInt8))) (fun y => y.d.length ≤ (acts.getD x.d.1 default).Bs.xs.length ∧ y.d.map (fun s => s.xs) = ((acts.getD x.d.1 default).Bs.xs.take y.d.length).map (fun s => s.xs)) (fun y => (acts.getD x.d.1 default).Bs.xs.length - y.d.length) (fun y => [(1, .slice acts_a acts_n acts_c), (5, .pointer (some ⟨bD, 0, none⟩)), (7, .pointer (some ⟨b43, 0, none⟩)), (8, .int .i64 (x.d.1 : Int)), (9, .pointer (some ⟨b9, 0, none⟩)), (10, .slice y.a1 y.d.length y.c1), (11, .int .i64 (y.d.length : Int)), (44, .int .i64 (x.d.1 : Int)), (45, .slice acts_a acts_n acts_c), (46, .int .i64 (acts_n : Int)), (47, .bool (decide ((x.d.1 : Int) < (acts_n : Int)))), (50, .slice acts_a acts_n acts_c), (51, .int .i64 (x.d.1 : Int)), (52, pe acts_a x.d.1 5 0), (53, .agg (encDAct (acts.getD x.d.1 default)).toArray), (54, .agg (encDAct (⟨(acts.getD x.d.1 default).Kind, (acts.getD x.d.1 default).Names, (acts.getD x.d.1 default).Bs, (acts.getD x.d.1 default).N, (acts.getD x.d.1 default).Keep⟩ : DAct)).toArray), (55, .int .i64 (actSize (acts.getD x.d.1 default) : Int)), (56, .bool (decide (2000 < (actSize (acts.getD x.d.1 default) : Int))))]) (fun y => .row 32 1 y.a1 y.d.length y.c1 (y.d.flatMap encSL) :: Bun (y.d.map (rowB 5)) :: .pts b9 (encDAct (⟨(acts.getD x.d.1 default).Kind, (acts.getD x.d.1 default).Names, (acts.getD x.d.1 default).Bs, (acts.getD x.d.1 default).N, (acts.getD x.d.1 default).Keep⟩ : DAct)) 53 :: RB 5 x.d.2.2.1 :: .row 82 3 x.d.2.2.2.2.1 x.d.2.2.1.length x.d.2.2.2.2.2.1 (x.d.2.2.1.flatMap encRFile) :: .pts b43 (encRDisk (⟨room, ⟨x.d.2.2.2.2.1, x.d.2.2.1.length, x.d.2.2.2.2.2.1⟩, x.d.2.2.2.2.2.2.1, x.d.2.2.2.2.2.2.2⟩ : RDisk)) 49 :: .pts bD (encDisk1 (⟨room, (some mbD), x.d.2.2.2.1⟩ : Disk1)) 62 :: MP strB ptV mbD (fm x.d.2.1) :: FB 66 5 x.d.2.1 :: Δ) (⟨[], none, 0, none, 0, none, 0⟩ : Lp _) ⟨Nat.zero_le _, rfl⟩ ?_ ?_ ?_
          · exact .cons rfl (by first | rfl | exact inte (by omega) | (simp; done) | (simp <;> omega) | simp [*]) (.cons rfl (by first | rfl | exact inte (by omega) | (simp; done) | (simp <;> omega) | simp [*]) (.cons rfl (by first | rfl | exact inte (by omega) | (simp; done) | (simp <;> omega) | simp [*]) (.cons rfl (by first | rfl | exact inte (by omega) | (simp; done) | (simp <;> omega) | simp [*]) (.cons rfl (by first | rfl | exact inte (by omega) | (simp; done) | (simp <;> omega) | simp [*]) (.cons rfl (by first | rfl | exact inte (by omega) | (simp; done) | (simp <;> omega) | simp [*]) (.cons rfl (by first | rfl | exact inte (by omega) | (simp; done) | (simp <;> omega) | simp [*]) (.cons rfl (by first | rfl | exact inte (by omega) | (simp; done) | (simp <;> omega) | simp [*]) (.cons rfl (by first | rfl | exact inte (by omega) | (simp; done) | (simp <;> omega) | simp [*]) (.cons rfl (by first | rfl | exact inte (by omega) | (simp; done) | (simp <;> omega) | simp [*]) (.cons rfl (by first | rfl | exact inte (by omega) | (simp; done) | (simp <;> omega) | simp [*]) (.cons rfl (by first | rfl | exact inte (by omega) | (simp; done) | (simp <;> omega) | simp [*]) (.cons rfl (by first | rfl | exact inte (by omega) | (simp; done) | (simp <;> omega) | simp [*]) (.cons rfl (by first | rfl | exact inte (by omega) | (simp; done) | (simp <;> omega) | simp [*]) (.cons rfl (by first | rfl | exact inte (by omega) | (simp; done) | (simp <;> omega) | simp [*]) (.cons rfl (by first | rfl | exact inte (by omega) | (simp; done) | (simp <;> omega) | simp [*]) (.cons rfl (by first | rfl | exact inte (by omega) | (simp; done) | (simp <;> omega) | simp [*]) (.cons rfl (by first | rfl | exact inte (by omega) | (simp; done) | (simp <;> omega) | simp [*]) (.nil _))))))))))))))))))
          · exact (by repeat (first | exact Ent.nil _ | exact Ent.refl _ | (refine Ent.pick (by repeat (first | exact Pick.here | apply Pick.there)) ?_) | refine Ent.skip ?_))
          intro y hy
          obtain ⟨hy1, hy2⟩ := hy
          refine c_seq ?_
          refine c_seq ?_
          refine c_region ?_
          refine l_step (s_q rfl wn (q_move rfl) ?_)
          refine l_step (s_q rfl wn (q_fieldp rfl fo_53_2) ?_)
          refine l_step (s_q rfl wn (q_loadp (v := .slice (((acts.getD x.d.1 default).Bs).a) (((acts.getD x.d.1 default).Bs).xs.length) (((acts.getD x.d.1 default).Bs).cap)) sc_26 rfl (by repeat (first | exact Pick.here | apply Pick.there)) rfl) ?_)
          refine l_step (s_q rfl wn (q_len Tryd.underlying26 rfl) ?_)
          refine l_step (s_q rfl wn (q_lss rfl rfl) ?_)
          refine l_nil ?_
          refine k_then_n ?_
          refine c_cond rfl (fun h5 => ?_) (fun h5 => ?_)
          · try simp only [Bool.and_eq_true, Bool.or_eq_true, Bool.not_eq_true', Bool.and_eq_false_iff, Bool.or_eq_false_iff, Bool.not_eq_false', decide_eq_true_eq, decide_eq_false_iff_not, Bool.not_eq_eq_eq_not, Bool.not_true, Bool.not_false, Bool.not_eq_true, Bool.not_eq_false, beq_iff_eq, bne_iff_ne, ne_eq, Decidable.not_not] at h5
            have hb1 := sumB_next (bs := (acts.getD x.d.1 default).Bs.xs) (k := y.d.length) (by omega)
            have hb2 := sumB_le (acts.getD x.d.1 default).Bs.xs (y.d.length + 1)
            refine c_skip ?_
            refine k_then_n ?_
            refine c_seq ?_
            refine c_block ?_
            refine c_region ?_
            refine l_step (s_q rfl wn (q_move rfl) ?_)
            refine l_step (s_s rfl wn (s_buildSlice (cs := ([] : List UInt8).flatMap encB) Tryd.underlying32 eo_5 rfl rfl rfl rfl (by decide) (by decide)) ?_)
            rintro _ _ ⟨b65, rfl, rfl⟩
            refine l_step (s_q rfl wn (q_fieldp rfl fo_53_2) ?_)
            refine l_step (s_q rfl wn (q_loadp (v := .slice (((acts.getD x.d.1 default).Bs).a) (((acts.getD x.d.1 default).Bs).xs.length) (((acts.getD x.d.1 default).Bs).cap)) sc_26 rfl (by repeat (first | exact Pick.here | apply Pick.there)) rfl) ?_)
            refine l_step (s_q rfl wn (q_move rfl) ?_)
            refine l_step (s_q rfl wn (q_indexe y.d.length Tryd.underlying26 sz_32 rfl rfl (by first | assumption | exact rd_ro (by assumption) | exact rd_bun (L := y.d.map (rowB 5)) (by repeat (first | exact Pick.here | apply Pick.there)) (in_map _ (by first | assumption | omega | (simp only [List.length_cons, List.length_nil]; omega) | decide) rfl) | exact rd_row (by repeat (first | exact Pick.here | apply Pick.there))) (by decide) rfl (by first | assumption | omega | (simp only [List.length_cons, List.length_nil]; omega))) ?_)
            refine l_step (s_q rfl wn (q_loade (enc := encSL) (xs := ((acts.getD x.d.1 default).Bs).xs) (j := y.d.length) (off := 0) sc_32 rfl (by first | assumption | exact rd_ro (by assumption) | exact rd_bun (L := y.d.map (rowB 5)) (by repeat (first | exact Pick.here | apply Pick.there)) (in_map _ (by first | assumption | omega | (simp only [List.length_cons, List.length_nil]; omega) | decide) rfl) | exact rd_row (by repeat (first | exact Pick.here | apply Pick.there))) (fun _ => rfl) (by first | assumption | omega | (simp only [List.length_cons, List.length_nil]; omega)) (by decide) rfl) ?_)
            refine l_step (s_s rfl wn (s_appendn (enc := encB) (xs := ([] : List UInt8)) (ys := (((((acts.getD x.d.1 default).Bs).xs).getD y.d.length default).xs : List UInt8)) (Γ' := fun a' cap' => _) Tryd.underlying32 eo_5 (by decide) rfl rfl (rd_ro (hAk.bm _ (getD_in (by omega)))) (oneB _) (by first | omega | (simp only [List.length_append, List.length_cons, List.length_nil] at *; omega)) (by first | omega | (simp only [List.length_append, List.length_cons, List.length_nil] at *; omega)) (fun _ _ => (by repeat (first | exact Pick.here | apply Pick.there)))) ?_)
            rintro _ _ ⟨a71, c71, rfl, rfl⟩
            simp only [Nat.zero_add, List.nil_append]
            refine l_step (s_s rfl wn (s_buildSlice (cs := ([⟨a71, ((((acts.getD x.d.1 default).Bs).xs).getD y.d.length default).xs, c71⟩] : List (SL UInt8)).flatMap encSL) Tryd.underlying26 eo_32 rfl rfl rfl rfl (by decide) (by decide)) ?_)
            rintro _ _ ⟨b72, rfl, rfl⟩
            refine l_step (s_s rfl wn (s_appendn (enc := encSL) (xs := (y.d : List (SL UInt8))) (ys := ([⟨a71, ((((acts.getD x.d.1 default).Bs).xs).getD y.d.length default).xs, c71⟩] : List (SL UInt8))) (Γ' := fun a' cap' => _) Tryd.underlying26 eo_32 (by decide) rfl rfl (rd_row (by repeat (first | exact Pick.here | apply Pick.there))) (oneSL _) (by first | omega | (simp only [List.length_append, List.length_cons, List.length_nil] at *; omega)) (by first | omega | (simp only [List.length_append, List.length_cons, List.length_nil] at *; omega)) (fun _ _ => (by repeat (first | exact Pick.here | apply Pick.there)))) ?_)
            rintro _ _ ⟨a73, c73, rfl, rfl⟩
            refine l_step (s_q rfl wn (q_assign rfl) ?_)
            refine l_nil ?_
            refine k_blk_n ?_
            refine k_then_n ?_
            refine c_region ?_
            refine l_step (s_q rfl wn (q_move rfl) ?_)
            refine l_step (s_q rfl wn (q_add rfl rfl (by omega) (by omega)) ?_)
            refine l_step (s_q rfl wn (q_assign rfl) ?_)
            refine l_nil ?_
            refine k_then_n ?_
            refine Tr.ent (Ent.pick (A := rowB 5 (⟨a71, ((acts.getD x.d.1 default).Bs.xs.getD y.d.length default).xs, c71⟩ : SL UInt8)) (by repeat (first | exact Pick.here | apply Pick.there)) (Ent.pick (A := Bun (y.d.map (rowB 5))) (by repeat (first | exact Pick.here | apply Pick.there)) (Ent.refl _))) ?_
            refine Tr.ent (bun_snoc _ _ _) ?_
            rw [show y.d.map (rowB 5) ++ [rowB 5 (⟨a71, ((acts.getD x.d.1 default).Bs.xs.getD y.d.length default).xs, c71⟩ : SL UInt8)] = (y.d ++ [(⟨a71, ((acts.getD x.d.1 default).Bs.xs.getD y.d.length default).xs, c71⟩ : SL UInt8)]).map (rowB 5) from by simp]
            rw [show y.d.length + 1 = (y.d ++ [(⟨a71, ((acts.getD x.d.1 default).Bs.xs.getD y.d.length default).xs, c71⟩ : SL UInt8)]).length from by simp]
            exact t_next (⟨(y.d ++ [⟨a71, ((acts.getD x.d.1 default).Bs.xs.getD y.d.length default).xs, c71⟩]), a73, c73, none, 0, none, 0⟩ : Lp _) ⟨⟨by simp only [List.length_append, List.length_cons, List.length_nil]; omega, by simp only [List.length_append, List.length_cons, List.length_nil]; rw [take_succ_getD _ _ (by omega), List.map_append, List.map_append, hy2]; rfl⟩, by simp only [List.length_append, List.length_cons, List.length_nil]; omega⟩ (.cons rfl (by first | rfl | exact inte (by omega) | (simp; done) | (simp <;> omega) | simp [*]) (.cons rfl (by first | rfl | exact inte (by omega) | (simp; done) | (simp <;> omega) | simp [*]) (.cons rfl (by first | rfl | exact inte (by omega) | (simp; done) | (simp <;> omega) | simp [*]) (.cons rfl (by first | rfl | exact inte (by omega) | (simp; done) | (simp <;> omega) | simp [*]) (.cons rfl (by first | rfl | exact inte (by omega) | (simp; done) | (simp <;> omega) | simp [*]) (.cons rfl (by first | rfl | exact inte (by omega) | (simp; done) | (simp <;> omega) | simp [*]) (.cons rfl (by first | rfl | exact inte (by omega) | (simp; done) | (simp <;> omega) | simp [*]) (.cons rfl (by first | rfl | exact inte (by omega) | (simp; done) | (simp <;> omega) | simp [*]) (.cons rfl (by first | rfl | exact inte (by omega) | (simp; done) | (simp <;> omega) | simp [*]) (.cons rfl (by first | rfl | exact inte (by omega) | (simp; done) | (simp <;> omega) | simp [*]) (.cons rfl (by first | rfl | exact inte (by omega) | (simp; done) | (simp <;> omega) | simp [*]) (.cons rfl (by first | rfl | exact inte (by omega) | (simp; done) | (simp <;> omega) | simp [*]) (.cons rfl (by first | rfl | exact inte (by omega) | (simp; done) | (simp <;> omega) | simp [*]) (.cons rfl (by first | rfl | exact inte (by omega) | (simp; done) | (simp <;> omega) | simp [*]) (.cons rfl (by first | rfl | exact inte (by omega) | (simp; done) | (simp <;> omega) | simp [*]) (.cons rfl (by first | rfl | exact inte (by omega) | (simp; done) | (simp <;> omega) | simp [*]) (.cons rfl (by first | rfl | exact inte (by omega) | (simp; done) | (simp <;> omega) | simp [*]) (.cons rfl (by first | rfl | exact inte (by omega) | (simp; done) | (simp <;> omega) | simp [*]) (.nil _))))))))))))))))))) (by repeat (first | exact Ent.nil _ | exact Ent.refl _ | (refine Ent.pick (by repeat (first | exact Pick.here | apply Pick.there)) ?_) | refine Ent.skip ?_))
          · try simp only [Bool.and_eq_true, Bool.or_eq_true, Bool.not_eq_true', Bool.and_eq_false_iff, Bool.or_eq_false_iff, Bool.not_eq_false', decide_eq_true_eq, decide_eq_false_iff_not, Bool.not_eq_eq_eq_not, Bool.not_true, Bool.not_false, Bool.not_eq_true, Bool.not_eq_false, beq_iff_eq, bne_iff_ne, ne_eq, Decidable.not_not] at h5
            have hk2 : y.d.length = (acts.getD x.d.1 default).Bs.xs.length := by omega
            refine c_exit ?_
            refine k_then_x ?_
            refine k_then_x ?_
            refine k_blk_x ?_
            refine k_then_n ?_
            refine c_seq ?_
            refine c_region ?_
            refine l_step (s_q rfl wn (q_move rfl) ?_)
            refine l_step (s_q rfl wn (q_fieldp rfl fo_53_2) ?_)
            refine l_step (s_s0 wn (s_storep (ws := [.slice y.a1 y.d.length y.c1]) (cs := encDAct (⟨(acts.getD x.d.1 default).Kind, (acts.getD x.d.1 default).Names, (acts.getD x.d.1 default).Bs, (acts.getD x.d.1 default).N, (acts.getD x.d.1 default).Keep⟩ : DAct)) (cs' := encDAct (⟨(acts.getD x.d.1 default).Kind, (acts.getD x.d.1 default).Names, ⟨y.a1, y.d, y.c1⟩, (acts.getD x.d.1 default).N, (acts.getD x.d.1 default).Keep⟩ : DAct)) rfl rfl rfl sz_26 (by simp [Value.oneCell', strB, ptV, SL.v, SH.v]) (by simp [encDAct]) rfl (by repeat (first | exact Pick.here | apply Pick.there))) ?_)
            rintro _ _ ⟨rfl, rfl⟩
            refine l_nil ?_
            refine k_then_n ?_
            refine c_seq ?_
            refine c_seq ?_
            refine c_region ?_
            have hcp := copies_size (L := y.d) (bs := (acts.getD x.d.1 default).Bs.xs) (by rw [hy2, hk2, List.take_length])
            have hcs9 := hcp.2
            have hsz9 : actSize (⟨(acts.getD x.d.1 default).Kind, (acts.getD x.d.1 default).Names, ⟨y.a1, y.d, y.c1⟩, (acts.getD x.d.1 default).N, (acts.getD x.d.1 default).Keep⟩ : DAct) = actSize (acts.getD x.d.1 default) := by unfold actSize; rw [hcp.1]
            have hlm := hx2.lim.us
            refine l_step (s_q rfl wn (q_loadpa (vs := encDAct (⟨(acts.getD x.d.1 default).Kind, (acts.getD x.d.1 default).Names, ⟨y.a1, y.d, y.c1⟩, (acts.getD x.d.1 default).N, (acts.getD x.d.1 default).Keep⟩ : DAct)) ag_53 rfl (by repeat (first | exact Pick.here | apply Pick.there)) rfl) ?_)
            refine l_step (s_q rfl wn (q_move rfl) ?_)
            refine l_step (s_q rfl wn (q_move rfl) ?_)
            refine l_step (s_fnb rfl wn Tryd.func25 rfl (by kernel_rfl) rfl (by repeat (first | exact Sel.nil | exact Pick.here | apply Sel.cons | apply Pick.there)) (fun ρ' hL => Go.Dsk.A2.ado_spec (⟨(acts.getD x.d.1 default).Kind, (acts.getD x.d.1 default).Names, ⟨y.a1, y.d, y.c1⟩, (acts.getD x.d.1 default).N, (acts.getD x.d.1 default).Keep⟩ : DAct) bD room mbD x.d.2.2.2.1 x.d.2.1 b43 room x.d.2.2.2.2.1 x.d.2.2.2.2.2.1 x.d.2.2.2.2.2.2.1 x.d.2.2.2.2.2.2.2 x.d.2.2.1 ρ' ⟨Ro.mono hL.1 hAk.nm, hL.row (by repeat (first | exact Pick.here | apply Pick.there)), lent_bun hL (by repeat (first | exact Pick.here | apply Pick.there)), Ro.mono hL.1 hAk.kp⟩ (by rw [hsz9]; omega) (fok.2 hx2.lim.ok) (hx2.sim.vok hx2.lim.ok) (by rw [← used_vw]; exact hx2.us) hr (cl_b hx2.cl hx2.cb) hx2.ce hx2.cb (by rw [← usedR_vw, ← hx2.sim.used]; exact hx2.us) hr (by rw [← used_vw, hcs9]; omega) (by rw [← usedR_vw, ← hx2.sim.used, hcs9]; omega)) ?_)
            rintro _ _ ⟨T1, R1, a1, c1, rfl, hv, hw, rfl⟩
            try simp only [List.cons_append, List.nil_append]
            have hal := act_alike hx2 (⟨(acts.getD x.d.1 default).Kind, (acts.getD x.d.1 default).Names, ⟨y.a1, y.d, y.c1⟩, (acts.getD x.d.1 default).N, (acts.getD x.d.1 default).Keep⟩ : DAct) hN9 (by show _ + (catS y.d).length ≤ _; rw [hcs9]; omega)
            rw [show (decide ((actP room x.d.2.2.2.1 (vw x.d.2.1) (⟨(acts.getD x.d.1 default).Kind, (acts.getD x.d.1 default).Names, ⟨y.a1, y.d, y.c1⟩, (acts.getD x.d.1 default).N, (acts.getD x.d.1 default).Keep⟩ : DAct)).1 = (actR room x.d.2.2.2.2.2.2.1 x.d.2.2.2.2.2.2.2 (rvw x.d.2.2.1) (⟨(acts.getD x.d.1 default).Kind, (acts.getD x.d.1 default).Names, ⟨y.a1, y.d, y.c1⟩, (acts.getD x.d.1 default).N, (acts.getD x.d.1 default).Keep⟩ : DAct)).1)) = true from decide_eq_true hal.1]
            refine l_step (s_q rfl wn (q_not rfl) ?_)
            refine l_nil ?_
            refine k_then_n ?_
            refine c_sure false rfl (by rfl) ?_
            simp only [Bool.false_eq_true, if_true, if_false]
            refine c_skip ?_
            refine k_then_n ?_
            refine c_seq ?_
            refine c_seq ?_
            refine c_region ?_
            refine l_step (s_q rfl wn (q_assign rfl) ?_)
            refine l_nil ?_
            refine k_then_n ?_
            refine c_block ?_
            refine Tr.env (σ' := [(1, _), (5, _), (7, _), (8, _), (9, _), (10, _), (11, _), (12, _), (44, _), (45, _), (46, _), (47, _), (50, _), (51, _), (52, _), (53, _), (54, _), (55, _), (56, _), (57, _), (58, _), (59, _), (60, _), (61, _), (74, _), (75, _), (76, _), (77, _), (78, _), (79, _), (80, _)]) (.cons rfl rfl (.cons rfl rfl (.cons rfl rfl (.cons rfl rfl (.cons rfl rfl (.cons rfl rfl (.cons rfl rfl (.cons rfl rfl (.cons rfl rfl (.cons rfl rfl (.cons rfl rfl (.cons rfl rfl (.cons rfl rfl (.cons rfl rfl (.cons rfl rfl (.cons rfl rfl (.cons rfl rfl (.cons rfl rfl (.cons rfl rfl (.cons rfl rfl (.cons rfl rfl (.cons rfl rfl (.cons rfl rfl (.cons rfl rfl (.cons rfl rfl (.cons rfl rfl (.cons rfl rfl (.cons rfl rfl (.cons rfl rfl (.cons rfl rfl (.cons rfl rfl (.nil _)))))))))))))))))))))))))))))))) ?_
            refine t_loop (ι := Lp (Nat × List (SL UInt8))) (fun z => z.d.1 ≤ y.d.length ∧ HS z.d.2 = HS y.d) (fun z => y.d.length - z.d.1) (fun z => [(1, .slice acts_a acts_n acts_c), (5, .pointer (some ⟨bD, 0, none⟩)), (7, .pointer (some ⟨b43, 0, none⟩)), (8, .int .i64 (x.d.1 : Int)), (9, .pointer (some ⟨b9, 0, none⟩)), (10, .slice y.a1 y.d.length y.c1), (11, .int .i64 (y.d.length : Int)), (12, .int .i64 (z.d.1 : Int)), (44, .int .i64 (x.d.1 : Int)), (45, .slice acts_a acts_n acts_c), (46, .int .i64 (acts_n : Int)), (47, .bool (decide ((x.d.1 : Int) < (acts_n : Int)))), (50, .slice acts_a acts_n acts_c), (51, .int .i64 (x.d.1 : Int)), (52, pe acts_a x.d.1 5 0), (53, .agg (encDAct (acts.getD x.d.1 default)).toArray), (54, .agg (encDAct (⟨(acts.getD x.d.1 default).Kind, (acts.getD x.d.1 default).Names, (acts.getD x.d.1 default).Bs, (acts.getD x.d.1 default).N, (acts.getD x.d.1 default).Keep⟩ : DAct)).toArray), (55, .int .i64 (actSize (acts.getD x.d.1 default) : Int)), (56, .bool (decide (2000 < (actSize (acts.getD x.d.1 default) : Int)))), (57, .int .i64 (y.d.length : Int)), (58, .pointer (some ⟨b9, 2, none⟩)), (59, .slice (((acts.getD x.d.1 default).Bs).a) (((acts.getD x.d.1 default).Bs).xs.length) (((acts.getD x.d.1 default).Bs).cap)), (60, .int .i64 (((acts.getD x.d.1 default).Bs).xs.length : Int)), (61, .bool (decide ((y.d.length : Int) < (((acts.getD x.d.1 default).Bs).xs.length : Int)))), (74, .slice y.a1 y.d.length y.c1), (75, .pointer (some ⟨b9, 2, none⟩)), (76, .agg (encDAct (⟨(acts.getD x.d.1 default).Kind, (acts.getD x.d.1 default).Names, ⟨y.a1, y.d, y.c1⟩, (acts.getD x.d.1 default).N, (acts.getD x.d.1 default).Keep⟩ : DAct)).toArray), (77, .pointer (some ⟨bD, 0, none⟩)), (78, .pointer (some ⟨b43, 0, none⟩)), (79, .bool true), (80, .bool false)]) (fun z => .row 32 1 y.a1 y.d.length y.c1 (z.d.2.flatMap encSL) :: Bun (z.d.2.map (rowB 5)) :: .pts b9 (encDAct (⟨(acts.getD x.d.1 default).Kind, (acts.getD x.d.1 default).Names, ⟨y.a1, y.d, y.c1⟩, (acts.getD x.d.1 default).N, (acts.getD x.d.1 default).Keep⟩ : DAct)) 53 :: RB 5 R1 :: .row 82 3 a1 R1.length c1 (R1.flatMap encRFile) :: .pts b43 (encRDisk (⟨room, ⟨a1, R1.length, c1⟩, (actR room x.d.2.2.2.2.2.2.1 x.d.2.2.2.2.2.2.2 (rvw x.d.2.2.1) (⟨(acts.getD x.d.1 default).Kind, (acts.getD x.d.1 default).Names, ⟨y.a1, y.d, y.c1⟩, (acts.getD x.d.1 default).N, (acts.getD x.d.1 default).Keep⟩ : DAct)).2.2.1, (actR room x.d.2.2.2.2.2.2.1 x.d.2.2.2.2.2.2.2 (rvw x.d.2.2.1) (⟨(acts.getD x.d.1 default).Kind, (acts.getD x.d.1 default).Names, ⟨y.a1, y.d, y.c1⟩, (acts.getD x.d.1 default).N, (acts.getD x.d.1 default).Keep⟩ : DAct)).2.2.2⟩ : RDisk)) 49 :: .pts bD (encDisk1 (⟨room, (some mbD), (actP room x.d.2.2.2.1 (vw x.d.2.1) (⟨(acts.getD x.d.1 default).Kind, (acts.getD x.d.1 default).Names, ⟨y.a1, y.d, y.c1⟩, (acts.getD x.d.1 default).N, (acts.getD x.d.1 default).Keep⟩ : DAct)).2.2⟩ : Disk1)) 62 :: MP strB ptV mbD (fm T1) :: FB 66 5 T1 :: Δ) (⟨(0, y.d), none, 0, none, 0, none, 0⟩ : Lp _) ⟨Nat.zero_le _, rfl⟩ ?_ ?_ ?_
            · exact .cons rfl (by first | rfl | exact inte (by omega) | (simp; done) | (simp <;> omega) | simp [*]) (.cons rfl (by first | rfl | exact inte (by omega) | (simp; done) | (simp <;> omega) | simp [*]) (.cons rfl (by first | rfl | exact inte (by omega) | (simp; done) | (simp <;> omega) | simp [*]) (.cons rfl (by first | rfl | exact inte (by omega) | (simp; done) | (simp <;> omega) | simp [*]) (.cons rfl (by first | rfl | exact inte (by omega) | (simp; done) | (simp <;> omega) | simp [*]) (.cons rfl (by first | rfl | exact inte (by omega) | (simp; done) | (simp <;> omega) | simp [*]) (.cons rfl (by first | rfl | exact inte (by omega) | (simp; done) | (simp <;> omega) | simp [*]) (.cons rfl (by first | rfl | exact inte (by omega) | (simp; done) | (simp <;> omega) | simp [*]) (.cons rfl (by first | rfl | exact inte (by omega) | (simp; done) | (simp <;> omega) | simp [*]) (.cons rfl (by first | rfl | exact inte (by omega) | (simp; done) | (simp <;> omega) | simp [*]) (.cons rfl (by first | rfl | exact inte (by omega) | (simp; done) | (simp <;> omega) | simp [*]) (.cons rfl (by first | rfl | exact inte (by omega) | (simp; done) | (simp <;> omega) | simp [*]) (.cons rfl (by first | rfl | exact inte (by omega) | (simp; done) | (simp <;> omega) | simp [*]) (.cons rfl (by first | rfl | exact inte (by omega) | (simp; done) | (simp <;> omega) | simp [*]) (.cons rfl (by first | rfl | exact inte (by omega) | (simp; done) | (simp <;> omega) | simp [*]) (.cons rfl (by first | rfl | exact inte (by omega) | (simp; done) | (simp <;> omega) | simp [*]) (.cons rfl (by first | rfl | exact inte (by omega) | (simp; done) | (simp <;> omega) | simp [*]) (.cons rfl (by first | rfl | exact inte (by omega) | (simp; done) | (simp <;> omega) | simp [*]) (.cons rfl (by first | rfl | exact inte (by omega) | (simp; done) | (simp <;> omega) | simp [*]) (.cons rfl (by first | rfl | exact inte (by omega) | (simp; done) | (simp <;> omega) | simp [*]) (.cons rfl (by first | rfl | exact inte (by omega) | (simp; done) | (simp <;> omega) | simp [*]) (.cons rfl (by first | rfl | exact inte (by omega) | (simp; done) | (simp <;> omega) | simp [*]) (.cons rfl (by first | rfl | exact inte (by omega) | (simp; done) | (simp <;> omega) | simp [*]) (.cons rfl (by first | rfl | exact inte (by omega) | (simp; done) | (simp <;> omega) | simp [*]) (.cons rfl (by first | rfl | exact inte (by omega) | (simp; done) | (simp <;> omega) | simp [*]) (.cons rfl (by first | rfl | exact inte (by omega) | (simp; done) | (simp <;> omega) | simp [*]) (.cons rfl (by first | rfl | exact inte (by omega) | (simp; done) | (simp <;> omega) | simp [*]) (.cons rfl (by first | rfl | exact inte (by omega) | (simp; done) | (simp <;> omega) | simp [*]) (.cons rfl (by first | rfl | exact inte (by omega) | (simp; done) | (simp <;> omega) | simp [*]) (.cons rfl (by first | rfl | exact inte (by omega) | (simp; done) | (simp <;> omega) | simp [*]) (.cons rfl (by first | rfl | exact inte (by omega) | (simp; done) | (simp <;> omega) | simp [*]) (.nil _)))))))))))))))))))))))))))))))
            · exact (by repeat (first | exact Ent.nil _ | exact Ent.refl _ | (refine Ent.pick (by repeat (first | exact Pick.here | apply Pick.there)) ?_) | refine Ent.skip ?_))
            intro z hz
            obtain ⟨hz1, hz2⟩ := hz
            have hzl := hs_len hz2
            refine c_seq ?_
            refine c_seq ?_
            refine c_region ?_
            refine l_step (s_q rfl wn (q_move rfl) ?_)
            refine l_step (s_q rfl wn (q_move rfl) ?_)
            refine l_step (s_q rfl wn (q_len Tryd.underlying26 rfl) ?_)
            refine l_step (s_q rfl wn (q_lss rfl rfl) ?_)
            refine l_nil ?_
            refine k_then_n ?_
            refine c_cond rfl (fun h7 => ?_) (fun h7 => ?_)
            · try simp only [Bool.and_eq_true, Bool.or_eq_true, Bool.not_eq_true', Bool.and_eq_false_iff, Bool.or_eq_false_iff, Bool.not_eq_false', decide_eq_true_eq, decide_eq_false_iff_not, Bool.not_eq_eq_eq_not, Bool.not_true, Bool.not_false, Bool.not_eq_true, Bool.not_eq_false, beq_iff_eq, bne_iff_ne, ne_eq, Decidable.not_not] at h7
              refine c_skip ?_
              refine k_then_n ?_
              refine c_seq ?_
              refine c_block ?_
              refine c_seq ?_
              refine c_region ?_
              refine l_step (s_q rfl wn (q_assign rfl) ?_)
              refine l_nil ?_
              refine k_then_n ?_
              refine c_block ?_
              refine Tr.env (σ' := [(1, _), (5, _), (7, _), (8, _), (9, _), (10, _), (11, _), (12, _), (13, _), (44, _), (45, _), (46, _), (47, _), (50, _), (51, _), (52, _), (53, _), (54, _), (55, _), (56, _), (57, _), (58, _), (59, _), (60, _), (61, _), (74, _), (75, _), (76, _), (77, _), (78, _), (79, _), (80, _), (81, _), (82, _), (83, _), (84, _)]) (.cons rfl rfl (.cons rfl rfl (.cons rfl rfl (.cons rfl rfl (.cons rfl rfl (.cons rfl rfl (.cons rfl rfl (.cons rfl rfl (.cons rfl rfl (.cons rfl rfl (.cons rfl rfl (.cons rfl rfl (.cons rfl rfl (.cons rfl rfl (.cons rfl rfl (.cons rfl rfl (.cons rfl rfl (.cons rfl rfl (.cons rfl rfl (.cons rfl rfl (.cons rfl rfl (.cons rfl rfl (.cons rfl rfl (.cons rfl rfl (.cons rfl rfl (.cons rfl rfl (.cons rfl rfl (.cons rfl rfl (.cons rfl rfl (.cons rfl rfl (.cons rfl rfl (.cons rfl rfl (.cons rfl rfl (.cons rfl rfl (.cons rfl rfl (.cons rfl rfl (.nil _))))))))))))))))))))))))))))))))))))) ?_
              refine t_loop (ι := Lp (Nat × List (SL UInt8))) (fun u => u.d.1 ≤ (u.d.2.getD z.d.1 default).xs.length ∧ HS u.d.2 = HS y.d) (fun u => (u.d.2.getD z.d.1 default).xs.length - u.d.1) (fun u => [(1, .slice acts_a acts_n acts_c), (5, .pointer (some ⟨bD, 0, none⟩)), (7, .pointer (some ⟨b43, 0, none⟩)), (8, .int .i64 (x.d.1 : Int)), (9, .pointer (some ⟨b9, 0, none⟩)), (10, .slice y.a1 y.d.length y.c1), (11, .int .i64 (y.d.length : Int)), (12, .int .i64 (z.d.1 : Int)), (13, .int .i64 (u.d.1 : Int)), (44, .int .i64 (x.d.1 : Int)), (45, .slice acts_a acts_n acts_c), (46, .int .i64 (acts_n : Int)), (47, .bool (decide ((x.d.1 : Int) < (acts_n : Int)))), (50, .slice acts_a acts_n acts_c), (51, .int .i64 (x.d.1 : Int)), (52, pe acts_a x.d.1 5 0), (53, .agg (encDAct (acts.getD x.d.1 default)).toArray), (54, .agg (encDAct (⟨(acts.getD x.d.1 default).Kind, (acts.getD x.d.1 default).Names, (acts.getD x.d.1 default).Bs, (acts.getD x.d.1 default).N, (acts.getD x.d.1 default).Keep⟩ : DAct)).toArray), (55, .int .i64 (actSize (acts.getD x.d.1 default) : Int)), (56, .bool (decide (2000 < (actSize (acts.getD x.d.1 default) : Int)))), (57, .int .i64 (y.d.length : Int)), (58, .pointer (some ⟨b9, 2, none⟩)), (59, .slice (((acts.getD x.d.1 default).Bs).a) (((acts.getD x.d.1 default).Bs).xs.length) (((acts.getD x.d.1 default).Bs).cap)), (60, .int .i64 (((acts.getD x.d.1 default).Bs).xs.length : Int)), (61, .bool (decide ((y.d.length : Int) < (((acts.getD x.d.1 default).Bs).xs.length : Int)))), (74, .slice y.a1 y.d.length y.c1), (75, .pointer (some ⟨b9, 2, none⟩)), (76, .agg (encDAct (⟨(acts.getD x.d.1 default).Kind, (acts.getD x.d.1 default).Names, ⟨y.a1, y.d, y.c1⟩, (acts.getD x.d.1 default).N, (acts.getD x.d.1 default).Keep⟩ : DAct)).toArray), (77, .pointer (some ⟨bD, 0, none⟩)), (78, .pointer (some ⟨b43, 0, none⟩)), (79, .bool true), (80, .bool false), (81, .int .i64 (z.d.1 : Int)), (82, .slice y.a1 y.d.length y.c1), (83, .int .i64 (y.d.length : Int)), (84, .bool (decide ((z.d.1 : Int) < (y.d.length : Int))))]) (fun u => .row 32 1 y.a1 y.d.length y.c1 (u.d.2.flatMap encSL) :: Bun (u.d.2.map (rowB 5)) :: .pts b9 (encDAct (⟨(acts.getD x.d.1 default).Kind, (acts.getD x.d.1 default).Names, ⟨y.a1, y.d, y.c1⟩, (acts.getD x.d.1 default).N, (acts.getD x.d.1 default).Keep⟩ : DAct)) 53 :: RB 5 R1 :: .row 82 3 a1 R1.length c1 (R1.flatMap encRFile) :: .pts b43 (encRDisk (⟨room, ⟨a1, R1.length, c1⟩, (actR room x.d.2.2.2.2.2.2.1 x.d.2.2.2.2.2.2.2 (rvw x.d.2.2.1) (⟨(acts.getD x.d.1 default).Kind, (acts.getD x.d.1 default).Names, ⟨y.a1, y.d, y.c1⟩, (acts.getD x.d.1 default).N, (acts.getD x.d.1 default).Keep⟩ : DAct)).2.2.1, (actR room x.d.2.2.2.2.2.2.1 x.d.2.2.2.2.2.2.2 (rvw x.d.2.2.1) (⟨(acts.getD x.d.1 default).Kind, (acts.getD x.d.1 default).Names, ⟨y.a1, y.d, y.c1⟩, (acts.getD x.d.1 default).N, (acts.getD x.d.1 default).Keep⟩ : DAct)).2.2.2⟩ : RDisk)) 49 :: .pts bD (encDisk1 (⟨room, (some mbD), (actP room x.d.2.2.2.1 (vw x.d.2.1) (⟨(acts.getD x.d.1 default).Kind, (acts.getD x.d.1 default).Names, ⟨y.a1, y.d, y.c1⟩, (acts.getD x.d.1 default).N, (acts.getD x.d.1 default).Keep⟩ : DAct)).2.2⟩ : Disk1)) 62 :: MP strB ptV mbD (fm T1) :: FB 66 5 T1 :: Δ) (⟨(0, z.d.2), none, 0, none, 0, none, 0⟩ : Lp _) ⟨Nat.zero_le _, hz2⟩ ?_ ?_ ?_
              · exact .cons rfl (by first | rfl | exact inte (by omega) | (simp; done) | (simp <;> omega) | simp [*]) (.cons rfl (by first | rfl | exact inte (by omega) | (simp; done) | (simp <;> omega) | simp [*]) (.cons rfl (by first | rfl | exact inte (by omega) | (simp; done) | (simp <;> omega) | simp [*]) (.cons rfl (by first | rfl | exact inte (by omega) | (simp; done) | (simp <;> omega) | simp [*]) (.cons rfl (by first | rfl | exact inte (by omega) | (simp; done) | (simp <;> omega) | simp [*]) (.cons rfl (by first | rfl | exact inte (by omega) | (simp; done) | (simp <;> omega) | simp [*]) (.cons rfl (by first | rfl | exact inte (by omega) | (simp; done) | (simp <;> omega) | simp [*]) (.cons rfl (by first | rfl | exact inte (by omega) | (simp; done) | (simp <;> omega) | simp [*]) (.cons rfl (by first | rfl | exact inte (by omega) | (simp; done) | (simp <;> omega) | simp [*]) (.cons rfl (by first | rfl | exact inte (by omega) | (simp; done) | (simp <;> omega) | simp [*]) (.cons rfl (by first | rfl | exact inte (by omega) | (simp; done) | (simp <;> omega) | simp [*]) (.cons rfl (by first | rfl | exact inte (by omega) | (simp; done) | (simp <;> omega) | simp [*]) (.cons rfl (by first | rfl | exact inte (by omega) | (simp; done) | (simp <;> omega) | simp [*]) (.cons rfl (by first | rfl | exact inte (by omega) | (simp; done) | (simp <;> omega) | simp [*]) (.cons rfl (by first | rfl | exact inte (by omega) | (simp; done) | (simp <;> omega) | simp [*]) (.cons rfl (by first | rfl | exact inte (by omega) | (simp; done) | (simp <;> omega) | simp [*]) (.cons rfl (by first | rfl | exact inte (by omega) | (simp; done) | (simp <;> omega) | simp [*]) (.cons rfl (by first | rfl | exact inte (by omega) | (simp; done) | (simp <;> omega) | simp [*]) (.cons rfl (by first | rfl | exact inte (by omega) | (simp; done) | (simp <;> omega) | simp [*]) (.cons rfl (by first | rfl | exact inte (by omega) | (simp; done) | (simp <;> omega) | simp [*]) (.cons rfl (by first | rfl | exact inte (by omega) | (simp; done) | (simp <;> omega) | simp [*]) (.cons rfl (by first | rfl | exact inte (by omega) | (simp; done) | (simp <;> omega) | simp [*]) (.cons rfl (by first | rfl | exact inte (by omega) | (simp; done) | (simp <;> omega) | simp [*]) (.cons rfl (by first | rfl | exact inte (by omega) | (simp; done) | (simp <;> omega) | simp [*]) (.cons rfl (by first | rfl | exact inte (by omega) | (simp; done) | (simp <;> omega) | simp [*]) (.cons rfl (by first | rfl | exact inte (by omega) | (simp; done) | (simp <;> omega) | simp [*]) (.cons rfl (by first | rfl | exact inte (by omega) | (simp; done) | (simp <;> omega) | simp [*]) (.cons rfl (by first | rfl | exact inte (by omega) | (simp; done) | (simp <;> omega) | simp [*]) (.cons rfl (by first | rfl | exact inte (by omega) | (simp; done) | (simp <;> omega) | simp [*]) (.cons rfl (by first | rfl | exact inte (by omega) | (simp; done) | (simp <;> omega) | simp [*]) (.cons rfl (by first | rfl | exact inte (by omega) | (simp; done) | (simp <;> omega) | simp [*]) (.cons rfl (by first | rfl | exact inte (by omega) | (simp; done) | (simp <;> omega) | simp [*]) (.cons rfl (by first | rfl | exact inte (by omega) | (simp; done) | (simp <;> omega) | simp [*]) (.cons rfl (by first | rfl | exact inte (by omega) | (simp; done) | (simp <;> omega) | simp [*]) (.cons rfl (by first | rfl | exact inte (by omega) | (simp; done) | (simp <;> omega) | simp [*]) (.cons rfl (by first | rfl | exact inte (by omega) | (simp; done) | (simp <;> omega) | simp [*]) (.nil _))))))))))))))))))))))))))))))))))))
              · exact (by repeat (first | exact Ent.nil _ | exact Ent.refl _ | (refine Ent.pick (by repeat (first | exact Pick.here | apply Pick.there)) ?_) | refine Ent.skip ?_))
              intro u hu
              obtain ⟨hu1, hu2⟩ := hu
              have hul := hs_len hu2
              refine c_seq ?_
              refine c_seq ?_
              refine c_region ?_
              refine l_step (s_q rfl wn (q_move rfl) ?_)
              refine l_step (s_q rfl wn (q_move rfl) ?_)
              refine l_step (s_q rfl wn (q_move rfl) ?_)
              refine l_step (s_q rfl wn (q_indexe z.d.1 Tryd.underlying26 sz_32 rfl rfl (rd_row (by repeat (first | exact Pick.here | apply Pick.there))) (by decide) rfl (by first | assumption | omega | (simp only [List.length_cons, List.length_nil]; omega))) ?_)
              refine l_step (s_q rfl wn (q_loade (enc := encSL) (xs := u.d.2) (j := z.d.1) (off := 0) sc_32 rfl (rd_row (by repeat (first | exact Pick.here | apply Pick.there))) (fun _ => rfl) (by first | assumption | omega | (simp only [List.length_cons, List.length_nil]; omega)) (by decide) rfl) ?_)
              refine l_step (s_q rfl wn (q_len Tryd.underlying32 rfl) ?_)
              refine l_step (s_q rfl wn (q_lss rfl rfl) ?_)
              refine l_nil ?_
              refine k_then_n ?_
              refine c_cond rfl (fun h8 => ?_) (fun h8 => ?_)
              · try simp only [Bool.and_eq_true, Bool.or_eq_true, Bool.not_eq_true', Bool.and_eq_false_iff, Bool.or_eq_false_iff, Bool.not_eq_false', decide_eq_true_eq, decide_eq_false_iff_not, Bool.not_eq_eq_eq_not, Bool.not_true, Bool.not_false, Bool.not_eq_true, Bool.not_eq_false, beq_iff_eq, bne_iff_ne, ne_eq, Decidable.not_not] at h8
                refine Tr.ent (Ent.trans (Ent.pick (A := Bun (u.d.2.map (rowB 5))) (by repeat (first | exact Pick.here | apply Pick.there)) (Ent.refl _)) (bunr_open (l := u.d.2) (i := z.d.1) (by omega))) ?_
                refine t_rd (Γ := _) (rd_row (a := (u.d.2.getD z.d.1 default).a) (cap := (u.d.2.getD z.d.1 default).cap) (by repeat (first | exact Pick.here | apply Pick.there))) fun _ hcp hcm _ => ?_
                have hub9 : (u.d.2.getD z.d.1 default).xs.length ≤ 9223372036854775807 := Nat.le_trans hcp hcm
                refine c_skip ?_
                refine k_then_n ?_
                refine c_seq ?_
                refine c_block ?_
                refine c_draw (m := 15) (bs := #[false, false, false, false, false, false, false, false, false, false, false, false, false, false, false]) [Bun ((u.d.2.map (rowB 5)).eraseIdx z.d.1), .row 32 1 y.a1 y.d.length y.c1 (u.d.2.flatMap encSL), .pts b9 (encDAct (⟨(acts.getD x.d.1 default).Kind, (acts.getD x.d.1 default).Names, ⟨y.a1, y.d, y.c1⟩, (acts.getD x.d.1 default).N, (acts.getD x.d.1 default).Keep⟩ : DAct)) 53, RB 5 R1, .row 82 3 a1 R1.length c1 (R1.flatMap encRFile), .pts b43 (encRDisk (⟨room, ⟨a1, R1.length, c1⟩, (actR room x.d.2.2.2.2.2.2.1 x.d.2.2.2.2.2.2.2 (rvw x.d.2.2.1) (⟨(acts.getD x.d.1 default).Kind, (acts.getD x.d.1 default).Names, ⟨y.a1, y.d, y.c1⟩, (acts.getD x.d.1 default).N, (acts.getD x.d.1 default).Keep⟩ : DAct)).2.2.1, (actR room x.d.2.2.2.2.2.2.1 x.d.2.2.2.2.2.2.2 (rvw x.d.2.2.1) (⟨(acts.getD x.d.1 default).Kind, (acts.getD x.d.1 default).Names, ⟨y.a1, y.d, y.c1⟩, (acts.getD x.d.1 default).N, (acts.getD x.d.1 default).Keep⟩ : DAct)).2.2.2⟩ : RDisk)) 49, .pts bD (encDisk1 (⟨room, (some mbD), (actP room x.d.2.2.2.1 (vw x.d.2.1) (⟨(acts.getD x.d.1 default).Kind, (acts.getD x.d.1 default).Names, ⟨y.a1, y.d, y.c1⟩, (acts.getD x.d.1 default).N, (acts.getD x.d.1 default).Keep⟩ : DAct)).2.2⟩ : Disk1)) 62, MP strB ptV mbD (fm T1), FB 66 5 T1] (by kernel_rfl) rfl (by kernel_rfl) ?_
                refine r_take (i := 0) (bs' := #[true, false, false, false, false, false, false, false, false, false, false, false, false, false, false]) rfl (by kernel_rfl) (by kernel_rfl) (by kernel_rfl) (fun _ _ _ h => h) rfl wn (q_move rfl) (Hp.le_refl _) (by repeat (first | exact Ent.nil _ | exact Ent.refl _ | (refine Ent.pick (by repeat (first | exact Pick.here | apply Pick.there)) ?_) | refine Ent.skip ?_)) (by kernel_rfl) ?_
                refine r_take (i := 1) (bs' := #[true, true, false, false, false, false, false, false, false, false, false, false, false, false, false]) rfl (by kernel_rfl) (by kernel_rfl) (by kernel_rfl) (fun _ _ _ h => h) rfl wn (q_move rfl) (Hp.le_refl _) (by repeat (first | exact Ent.nil _ | exact Ent.refl _ | (refine Ent.pick (by repeat (first | exact Pick.here | apply Pick.there)) ?_) | refine Ent.skip ?_)) (by kernel_rfl) ?_
                refine r_take (i := 2) (bs' := #[true, true, true, false, false, false, false, false, false, false, false, false, false, false, false]) rfl (by kernel_rfl) (by kernel_rfl) (by kernel_rfl) (fun _ _ _ h => h) rfl wn (q_indexe z.d.1 Tryd.underlying26 sz_32 rfl rfl (rd_row (by repeat (first | exact Pick.here | apply Pick.there))) (by decide) rfl (by first | assumption | omega | (simp only [List.length_cons, List.length_nil]; omega))) (Hp.le_refl _) (by repeat (first | exact Ent.nil _ | exact Ent.refl _ | (refine Ent.pick (by repeat (first | exact Pick.here | apply Pick.there)) ?_) | refine Ent.skip ?_)) (by kernel_rfl) ?_
                refine r_take (i := 3) (bs' := #[true, true, true, true, false, false, false, false, false, false, false, false, false, false, false]) rfl (by kernel_rfl) (by kernel_rfl) (by kernel_rfl) (fun _ _ _ h => h) rfl wn (q_loade (enc := encSL) (xs := u.d.2) (j := z.d.1) (off := 0) sc_32 rfl (rd_row (by repeat (first | exact Pick.here | apply Pick.there))) (fun _ => rfl) (by first | assumption | omega | (simp only [List.length_cons, List.length_nil]; omega)) (by decide) rfl) (Hp.le_refl _) (by repeat (first | exact Ent.nil _ | exact Ent.refl _ | (refine Ent.pick (by repeat (first | exact Pick.here | apply Pick.there)) ?_) | refine Ent.skip ?_)) (by kernel_rfl) ?_
                refine r_take (i := 4) (bs' := #[true, true, true, true, true, false, false, false, false, false, false, false, false, false, false]) rfl (by kernel_rfl) (by kernel_rfl) (by kernel_rfl) (fun _ _ _ h => h) rfl wn (q_move rfl) (Hp.le_refl _) (by repeat (first | exact Ent.nil _ | exact Ent.refl _ | (refine Ent.pick (by repeat (first | exact Pick.here | apply Pick.there)) ?_) | refine Ent.skip ?_)) (by kernel_rfl) ?_
                refine r_take (i := 5) (bs' := #[true, true, true, true, true, true, false, false, false, false, false, false, false, false, false]) rfl (by kernel_rfl) (by kernel_rfl) (by kernel_rfl) (fun _ _ _ h => h) rfl wn (q_move rfl) (Hp.le_refl _) (by repeat (first | exact Ent.nil _ | exact Ent.refl _ | (refine Ent.pick (by repeat (first | exact Pick.here | apply Pick.there)) ?_) | refine Ent.skip ?_)) (by kernel_rfl) ?_
                refine r_take (i := 6) (bs' := #[true, true, true, true, true, true, true, false, false, false, false, false, false, false, false]) rfl (by kernel_rfl) (by kernel_rfl) (by kernel_rfl) (fun _ _ _ h => h) rfl wn (q_move rfl) (Hp.le_refl _) (by repeat (first | exact Ent.nil _ | exact Ent.refl _ | (refine Ent.pick (by repeat (first | exact Pick.here | apply Pick.there)) ?_) | refine Ent.skip ?_)) (by kernel_rfl) ?_
                refine r_take (i := 7) (bs' := #[true, true, true, true, true, true, true, true, false, false, false, false, false, false, false]) rfl (by kernel_rfl) (by kernel_rfl) (by kernel_rfl) (fun _ _ _ h => h) rfl wn (q_indexe z.d.1 Tryd.underlying26 sz_32 rfl rfl (rd_row (by repeat (first | exact Pick.here | apply Pick.there))) (by decide) rfl (by first | assumption | omega | (simp only [List.length_cons, List.length_nil]; omega))) (Hp.le_refl _) (by repeat (first | exact Ent.nil _ | exact Ent.refl _ | (refine Ent.pick (by repeat (first | exact Pick.here | apply Pick.there)) ?_) | refine Ent.skip ?_)) (by kernel_rfl) ?_
                refine r_take (i := 8) (bs' := #[true, true, true, true, true, true, true, true, true, false, false, false, false, false, false]) rfl (by kernel_rfl) (by kernel_rfl) (by kernel_rfl) (fun _ _ _ h => h) rfl wn (q_loade (enc := encSL) (xs := u.d.2) (j := z.d.1) (off := 0) sc_32 rfl (rd_row (by repeat (first | exact Pick.here | apply Pick.there))) (fun _ => rfl) (by first | assumption | omega | (simp only [List.length_cons, List.length_nil]; omega)) (by decide) rfl) (Hp.le_refl _) (by repeat (first | exact Ent.nil _ | exact Ent.refl _ | (refine Ent.pick (by repeat (first | exact Pick.here | apply Pick.there)) ?_) | refine Ent.skip ?_)) (by kernel_rfl) ?_
                refine r_take (i := 9) (bs' := #[true, true, true, true, true, true, true, true, true, true, false, false, false, false, false]) rfl (by kernel_rfl) (by kernel_rfl) (by kernel_rfl) (fun _ _ _ h => h) rfl wn (q_move rfl) (Hp.le_refl _) (by repeat (first | exact Ent.nil _ | exact Ent.refl _ | (refine Ent.pick (by repeat (first | exact Pick.here | apply Pick.there)) ?_) | refine Ent.skip ?_)) (by kernel_rfl) ?_
                refine r_one (i := 10) (bs' := #[true, true, true, true, true, true, true, true, true, true, true, false, false, false, false]) (by kernel_rfl) (by kernel_rfl) ?_
                refine o_step rfl (s_q rfl wn (q_indexe u.d.1 Tryd.underlying32 sz_5 rfl rfl (rd_row (by repeat (first | exact Pick.here | apply Pick.there))) (by decide) rfl (by first | assumption | omega | (simp only [List.length_cons, List.length_nil]; omega))) ?_)
                refine r_cont (Hp.le_refl _) (by repeat (first | exact Ent.nil _ | exact Ent.refl _ | (refine Ent.pick (by repeat (first | exact Pick.here | apply Pick.there)) ?_) | refine Ent.skip ?_)) ?_
                refine r_one (i := 11) (bs' := #[true, true, true, true, true, true, true, true, true, true, true, true, false, false, false]) (by kernel_rfl) (by kernel_rfl) ?_
                refine o_step rfl (s_q rfl wn (q_loade (enc := encB) (xs := (u.d.2.getD z.d.1 default).xs) (j := u.d.1) (off := 0) sc_5 rfl (rd_row (by repeat (first | exact Pick.here | apply Pick.there))) (fun _ => rfl) (by first | assumption | omega | (simp only [List.length_cons, List.length_nil]; omega)) (by decide) rfl) ?_)
                refine r_cont (Hp.le_refl _) (by repeat (first | exact Ent.nil _ | exact Ent.refl _ | (refine Ent.pick (by repeat (first | exact Pick.here | apply Pick.there)) ?_) | refine Ent.skip ?_)) ?_
                refine r_take (i := 12) (bs' := #[true, true, true, true, true, true, true, true, true, true, true, true, true, false, false]) rfl (by kernel_rfl) (by kernel_rfl) (by kernel_rfl) (fun _ _ _ h => h) rfl wn (q8_xor (p := (((u.d.2.getD z.d.1 default).xs).getD u.d.1 default)) (q := (255 : UInt8)) rfl rfl rfl rfl) (Hp.le_refl _) (by repeat (first | exact Ent.nil _ | exact Ent.refl _ | (refine Ent.pick (by repeat (first | exact Pick.here | apply Pick.there)) ?_) | refine Ent.skip ?_)) (by kernel_rfl) ?_
                refine r_one (i := 13) (bs' := #[true, true, true, true, true, true, true, true, true, true, true, true, true, true, false]) (by kernel_rfl) (by kernel_rfl) ?_
                refine o_step rfl (s_q rfl wn (q_indexe u.d.1 Tryd.underlying32 sz_5 rfl rfl (rd_row (by repeat (first | exact Pick.here | apply Pick.there))) (by decide) rfl (by first | assumption | omega | (simp only [List.length_cons, List.length_nil]; omega))) ?_)
                refine r_cont (Hp.le_refl _) (by repeat (first | exact Ent.nil _ | exact Ent.refl _ | (refine Ent.pick (by repeat (first | exact Pick.here | apply Pick.there)) ?_) | refine Ent.skip ?_)) ?_
                refine r_one (i := 14) (bs' := #[true, true, true, true, true, true, true, true, true, true, true, true, true, true, true]) (by kernel_rfl) (by kernel_rfl) ?_
                refine o_step rfl (s_s0 wn (s_storee (ws := [.int .u8 (((((u.d.2.getD z.d.1 default).xs).getD u.d.1 default) ^^^ (255 : UInt8)).toNat : Int)]) (enc := encB) (xs := (u.d.2.getD z.d.1 default).xs) (j := u.d.1) (off := 0) ((((u.d.2.getD z.d.1 default).xs).getD u.d.1 default) ^^^ (255 : UInt8)) rfl rfl rfl sz_5 (by simp) (by simp [Value.oneCell', strB, ptV, SL.v]) (by repeat (first | exact Pick.here | apply Pick.there)) (fun _ => rfl) (by first | assumption | omega | (simp only [List.length_cons, List.length_nil]; omega)) (by simp) (by first | rfl | simp [encB])) ?_)
                rintro _ _ ⟨rfl, rfl⟩
                refine r_cont (Hp.le_refl _) (by repeat (first | exact Ent.nil _ | exact Ent.refl _ | (refine Ent.pick (by repeat (first | exact Pick.here | apply Pick.there)) ?_) | refine Ent.skip ?_)) ?_
                refine r_done (by kernel_rfl) ?_
                refine k_blk_n ?_
                refine k_then_n ?_
                refine c_region ?_
                refine l_step (s_q rfl wn (q_move rfl) ?_)
                refine l_step (s_q rfl wn (q_add rfl rfl (by omega) (by omega)) ?_)
                refine l_step (s_q rfl wn (q_assign rfl) ?_)
                refine l_nil ?_
                refine k_then_n ?_
                refine Tr.ent (Ent.trans (Ent.pick (A := .row 5 1 ((u.d.2.getD z.d.1 default).a) ((u.d.2.getD z.d.1 default).xs.length) ((u.d.2.getD z.d.1 default).cap) ((((u.d.2.getD z.d.1 default).xs).set u.d.1 ((((u.d.2.getD z.d.1 default).xs).getD u.d.1 default) ^^^ (255 : UInt8))).flatMap encB)) (by repeat (first | exact Pick.here | apply Pick.there)) (Ent.pick (A := Bun ((u.d.2.map (rowB 5)).eraseIdx z.d.1)) (by repeat (first | exact Pick.here | apply Pick.there)) (Ent.refl _))) (bunr_set (l := u.d.2) (i := z.d.1) (by omega) (((u.d.2.getD z.d.1 default).xs).set u.d.1 ((((u.d.2.getD z.d.1 default).xs).getD u.d.1 default) ^^^ (255 : UInt8))) (by simp))) ?_
                have hs9 : HS (u.d.2.set z.d.1 ⟨(u.d.2.getD z.d.1 default).a, (((u.d.2.getD z.d.1 default).xs).set u.d.1 ((((u.d.2.getD z.d.1 default).xs).getD u.d.1 default) ^^^ (255 : UInt8))), (u.d.2.getD z.d.1 default).cap⟩) = HS u.d.2 := hs_set (by omega) (by simp)
                have hl9 : ((u.d.2.set z.d.1 ⟨(u.d.2.getD z.d.1 default).a, (((u.d.2.getD z.d.1 default).xs).set u.d.1 ((((u.d.2.getD z.d.1 default).xs).getD u.d.1 default) ^^^ (255 : UInt8))), (u.d.2.getD z.d.1 default).cap⟩).getD z.d.1 default).xs.length = (u.d.2.getD z.d.1 default).xs.length := by rw [getD_setS (by omega)]; simp
                rw [show u.d.2.flatMap encSL = (u.d.2.set z.d.1 ⟨(u.d.2.getD z.d.1 default).a, (((u.d.2.getD z.d.1 default).xs).set u.d.1 ((((u.d.2.getD z.d.1 default).xs).getD u.d.1 default) ^^^ (255 : UInt8))), (u.d.2.getD z.d.1 default).cap⟩).flatMap encSL from (hs_enc hs9).symm]
                exact t_next (⟨(u.d.1 + 1, (u.d.2.set z.d.1 ⟨(u.d.2.getD z.d.1 default).a, ((u.d.2.getD z.d.1 default).xs.set u.d.1 ((u.d.2.getD z.d.1 default).xs.getD u.d.1 default ^^^ 255)), (u.d.2.getD z.d.1 default).cap⟩)), none, 0, none, 0, none, 0⟩ : Lp _) ⟨⟨by show u.d.1 + 1 ≤ _; rw [hl9]; omega, hs9.trans hu2⟩, by show _ - (u.d.1 + 1) < _; rw [hl9]; omega⟩ (.cons rfl (by first | rfl | exact inte (by omega) | (simp; done) | (simp <;> omega) | simp [*]) (.cons rfl (by first | rfl | exact inte (by omega) | (simp; done) | (simp <;> omega) | simp [*]) (.cons rfl (by first | rfl | exact inte (by omega) | (simp; done) | (simp <;> omega) | simp [*]) (.cons rfl (by first | rfl | exact inte (by omega) | (simp; done) | (simp <;> omega) | simp [*]) (.cons rfl (by first | rfl | exact inte (by omega) | (simp; done) | (simp <;> omega) | simp [*]) (.cons rfl (by first | rfl | exact inte (by omega) | (simp; done) | (simp <;> omega) | simp [*]) (.cons rfl (by first | rfl | exact inte (by omega) | (simp; done) | (simp <;> omega) | simp [*]) (.cons rfl (by first | rfl | exact inte (by omega) | (simp; done) | (simp <;> omega) | simp [*]) (.cons rfl (by first | rfl | exact inte (by omega) | (simp; done) | (simp <;> omega) | simp [*]) (.cons rfl (by first | rfl | exact inte (by omega) | (simp; done) | (simp <;> omega) | simp [*]) (.cons rfl (by first | rfl | exact inte (by omega) | (simp; done) | (simp <;> omega) | simp [*]) (.cons rfl (by first | rfl | exact inte (by omega) | (simp; done) | (simp <;> omega) | simp [*]) (.cons rfl (by first | rfl | exact inte (by omega) | (simp; done) | (simp <;> omega) | simp [*]) (.cons rfl (by first | rfl | exact inte (by omega) | (simp; done) | (simp <;> omega) | simp [*]) (.cons rfl (by first | rfl | exact inte (by omega) | (simp; done) | (simp <;> omega) | simp [*]) (.cons rfl (by first | rfl | exact inte (by omega) | (simp; done) | (simp <;> omega) | simp [*]) (.cons rfl (by first | rfl | exact inte (by omega) | (simp; done) | (simp <;> omega) | simp [*]) (.cons rfl (by first | rfl | exact inte (by omega) | (simp; done) | (simp <;> omega) | simp [*]) (.cons rfl (by first | rfl | exact inte (by omega) | (simp; done) | (simp <;> omega) | simp [*]) (.cons rfl (by first | rfl | exact inte (by omega) | (simp; done) | (simp <;> omega) | simp [*]) (.cons rfl (by first | rfl | exact inte (by omega) | (simp; done) | (simp <;> omega) | simp [*]) (.cons rfl (by first | rfl | exact inte (by omega) | (simp; done) | (simp <;> omega) | simp [*]) (.cons rfl (by first | rfl | exact inte (by omega) | (simp; done) | (simp <;> omega) | simp [*]) (.cons rfl (by first | rfl | exact inte (by omega) | (simp; done) | (simp <;> omega) | simp [*]) (.cons rfl (by first | rfl | exact inte (by omega) | (simp; done) | (simp <;> omega) | simp [*]) (.cons rfl (by first | rfl | exact inte (by omega) | (simp; done) | (simp <;> omega) | simp [*]) (.cons rfl (by first | rfl | exact inte (by omega) | (simp; done) | (simp <;> omega) | simp [*]) (.cons rfl (by first | rfl | exact inte (by omega) | (simp; done) | (simp <;> omega) | simp [*]) (.cons rfl (by first | rfl | exact inte (by omega) | (simp; done) | (simp <;> omega) | simp [*]) (.cons rfl (by first | rfl | exact inte (by omega) | (simp; done) | (simp <;> omega) | simp [*]) (.cons rfl (by first | rfl | exact inte (by omega) | (simp; done) | (simp <;> omega) | simp [*]) (.cons rfl (by first | rfl | exact inte (by omega) | (simp; done) | (simp <;> omega) | simp [*]) (.cons rfl (by first | rfl | exact inte (by omega) | (simp; done) | (simp <;> omega) | simp [*]) (.cons rfl (by first | rfl | exact inte (by omega) | (simp; done) | (simp <;> omega) | simp [*]) (.cons rfl (by first | rfl | exact inte (by omega) | (simp; done) | (simp <;> omega) | simp [*]) (.cons rfl (by first | rfl | exact inte (by omega) | (simp; done) | (simp <;> omega) | simp [*]) (.nil _))))))))))))))))))))))))))))))))))))) (by repeat (first | exact Ent.nil _ | exact Ent.refl _ | (refine Ent.pick (by repeat (first | exact Pick.here | apply Pick.there)) ?_) | refine Ent.skip ?_))
              · try simp only [Bool.and_eq_true, Bool.or_eq_true, Bool.not_eq_true', Bool.and_eq_false_iff, Bool.or_eq_false_iff, Bool.not_eq_false', decide_eq_true_eq, decide_eq_false_iff_not, Bool.not_eq_eq_eq_not, Bool.not_true, Bool.not_false, Bool.not_eq_true, Bool.not_eq_false, beq_iff_eq, bne_iff_ne, ne_eq, Decidable.not_not] at h8
                refine c_exit ?_
                refine k_then_x ?_
                refine k_then_x ?_
                refine k_blk_x ?_
                refine k_blk_n ?_
                refine k_then_n ?_
                refine c_region ?_
                refine l_step (s_q rfl wn (q_move rfl) ?_)
                refine l_step (s_q rfl wn (q_add rfl rfl (by omega) (by omega)) ?_)
                refine l_step (s_q rfl wn (q_assign rfl) ?_)
                refine l_nil ?_
                refine k_then_n ?_
                exact t_next (⟨(z.d.1 + 1, u.d.2), none, 0, none, 0, none, 0⟩ : Lp _) ⟨⟨by simp only []; omega, hu2⟩, by simp only []; omega⟩ (.cons rfl (by first | rfl | exact inte (by omega) | (simp; done) | (simp <;> omega) | simp [*]) (.cons rfl (by first | rfl | exact inte (by omega) | (simp; done) | (simp <;> omega) | simp [*]) (.cons rfl (by first | rfl | exact inte (by omega) | (simp; done) | (simp <;> omega) | simp [*]) (.cons rfl (by first | rfl | exact inte (by omega) | (simp; done) | (simp <;> omega) | simp [*]) (.cons rfl (by first | rfl | exact inte (by omega) | (simp; done) | (simp <;> omega) | simp [*]) (.cons rfl (by first | rfl | exact inte (by omega) | (simp; done) | (simp <;> omega) | simp [*]) (.cons rfl (by first | rfl | exact inte (by omega) | (simp; done) | (simp <;> omega) | simp [*]) (.cons rfl (by first | rfl | exact inte (by omega) | (simp; done) | (simp <;> omega) | simp [*]) (.cons rfl (by first | rfl | exact inte (by omega) | (simp; done) | (simp <;> omega) | simp [*]) (.cons rfl (by first | rfl | exact inte (by omega) | (simp; done) | (simp <;> omega) | simp [*]) (.cons rfl (by first | rfl | exact inte (by omega) | (simp; done) | (simp <;> omega) | simp [*]) (.cons rfl (by first | rfl | exact inte (by omega) | (simp; done) | (simp <;> omega) | simp [*]) (.cons rfl (by first | rfl | exact inte (by omega) | (simp; done) | (simp <;> omega) | simp [*]) (.cons rfl (by first | rfl | exact inte (by omega) | (simp; done) | (simp <;> omega) | simp [*]) (.cons rfl (by first | rfl | exact inte (by omega) | (simp; done) | (simp <;> omega) | simp [*]) (.cons rfl (by first | rfl | exact inte (by omega) | (simp; done) | (simp <;> omega) | simp [*]) (.cons rfl (by first | rfl | exact inte (by omega) | (simp; done) | (simp <;> omega) | simp [*]) (.cons rfl (by first | rfl | exact inte (by omega) | (simp; done) | (simp <;> omega) | simp [*]) (.cons rfl (by first | rfl | exact inte (by omega) | (simp; done) | (simp <;> omega) | simp [*]) (.cons rfl (by first | rfl | exact inte (by omega) | (simp; done) | (simp <;> omega) | simp [*]) (.cons rfl (by first | rfl | exact inte (by omega) | (simp; done) | (simp <;> omega) | simp [*]) (.cons rfl (by first | rfl | exact inte (by omega) | (simp; done) | (simp <;> omega) | simp [*]) (.cons rfl (by first | rfl | exact inte (by omega) | (simp; done) | (simp <;> omega) | simp [*]) (.cons rfl (by first | rfl | exact inte (by omega) | (simp; done) | (simp <;> omega) | simp [*]) (.cons rfl (by first | rfl | exact inte (by omega) | (simp; done) | (simp <;> omega) | simp [*]) (.cons rfl (by first | rfl | exact inte (by omega) | (simp; done) | (simp <;> omega) | simp [*]) (.cons rfl (by first | rfl | exact inte (by omega) | (simp; done) | (simp <;> omega) | simp [*]) (.cons rfl (by first | rfl | exact inte (by omega) | (simp; done) | (simp <;> omega) | simp [*]) (.cons rfl (by first | rfl | exact inte (by omega) | (simp; done) | (simp <;> omega) | simp [*]) (.cons rfl (by first | rfl | exact inte (by omega) | (simp; done) | (simp <;> omega) | simp [*]) (.cons rfl (by first | rfl | exact inte (by omega) | (simp; done) | (simp <;> omega) | simp [*]) (.nil _)))))))))))))))))))))))))))))))) (by repeat (first | exact Ent.nil _ | exact Ent.refl _ | (refine Ent.pick (by repeat (first | exact Pick.here | apply Pick.there)) ?_) | refine Ent.skip ?_))
            · try simp only [Bool.and_eq_true, Bool.or_eq_true, Bool.not_eq_true', Bool.and_eq_false_iff, Bool.or_eq_false_iff, Bool.not_eq_false', decide_eq_true_eq, decide_eq_false_iff_not, Bool.not_eq_eq_eq_not, Bool.not_true, Bool.not_false, Bool.not_eq_true, Bool.not_eq_false, beq_iff_eq, bne_iff_ne, ne_eq, Decidable.not_not] at h7
              refine c_exit ?_
              refine k_then_x ?_
              refine k_then_x ?_
              refine k_blk_x ?_
              refine k_then_n ?_
              refine c_seq ?_
              refine c_region ?_
              refine l_step (s_q rfl wn (q_move rfl) ?_)
              refine l_step (s_q rfl wn (q_move rfl) ?_)
              refine l_step (s_fnb rfl wn Tryd.func26 rfl (by kernel_rfl) rfl (by repeat (first | exact Sel.nil | exact Pick.here | apply Sel.cons | apply Pick.there)) (fun ρ' hL => Go.Dsk.A3.told_spec bD room mbD ((actP room x.d.2.2.2.1 (vw x.d.2.1) (⟨(acts.getD x.d.1 default).Kind, (acts.getD x.d.1 default).Names, ⟨y.a1, y.d, y.c1⟩, (acts.getD x.d.1 default).N, (acts.getD x.d.1 default).Keep⟩ : DAct)).2.2) T1 b43 a1 c1 ((actR room x.d.2.2.2.2.2.2.1 x.d.2.2.2.2.2.2.2 (rvw x.d.2.2.1) (⟨(acts.getD x.d.1 default).Kind, (acts.getD x.d.1 default).Names, ⟨y.a1, y.d, y.c1⟩, (acts.getD x.d.1 default).N, (acts.getD x.d.1 default).Keep⟩ : DAct)).2.2.1) ((actR room x.d.2.2.2.2.2.2.1 x.d.2.2.2.2.2.2.2 (rvw x.d.2.2.1) (⟨(acts.getD x.d.1 default).Kind, (acts.getD x.d.1 default).Names, ⟨y.a1, y.d, y.c1⟩, (acts.getD x.d.1 default).N, (acts.getD x.d.1 default).Keep⟩ : DAct)).2.2.2) R1 ρ' (fok.2 (by rw [hv]; exact hal.2.lim.ok)) (by rw [hv, hw]; exact hal.2.sim) (by rw [← used_vw, hv]; exact hal.2.us) hr) ?_)
              rintro _ _ ⟨rfl, rfl⟩
              try simp only [List.cons_append, List.nil_append]
              refine l_step (s_q rfl wn (q_not rfl) ?_)
              refine l_nil ?_
              refine k_then_n ?_
              refine c_sure false rfl (by rfl) ?_
              simp only [Bool.false_eq_true, if_true, if_false]
              refine c_skip ?_
              refine k_blk_n ?_
              refine k_then_n ?_
              refine c_region ?_
              refine l_step (s_q rfl wn (q_move rfl) ?_)
              refine l_step (s_q rfl wn (q_add rfl rfl (by omega) (by omega)) ?_)
              refine l_step (s_q rfl wn (q_assign rfl) ?_)
              refine l_nil ?_
              refine k_then_n ?_
              exact t_next (⟨(x.d.1 + 1, T1, R1, (actP room x.d.2.2.2.1 (vw x.d.2.1) (⟨(acts.getD x.d.1 default).Kind, (acts.getD x.d.1 default).Names, ⟨y.a1, y.d, y.c1⟩, (acts.getD x.d.1 default).N, (acts.getD x.d.1 default).Keep⟩ : DAct)).2.2, a1, c1, (actR room x.d.2.2.2.2.2.2.1 x.d.2.2.2.2.2.2.2 (rvw x.d.2.2.1) (⟨(acts.getD x.d.1 default).Kind, (acts.getD x.d.1 default).Names, ⟨y.a1, y.d, y.c1⟩, (acts.getD x.d.1 default).N, (acts.getD x.d.1 default).Keep⟩ : DAct)).2.2.1, (actR room x.d.2.2.2.2.2.2.1 x.d.2.2.2.2.2.2.2 (rvw x.d.2.2.1) (⟨(acts.getD x.d.1 default).Kind, (acts.getD x.d.1 default).Names, ⟨y.a1, y.d, y.c1⟩, (acts.getD x.d.1 default).N, (acts.getD x.d.1 default).Keep⟩ : DAct)).2.2.2), none, 0, none, 0, none, 0⟩ : Lp _) ⟨⟨by simp only []; omega, alike_next hal.2 hv hw (by show 2000 * x.d.1 + (catS y.d).length ≤ 2000 * (x.d.1 + 1); rw [hcs9]; omega) (by show 2000 * (x.d.1 + 1) ≤ _; omega)⟩, by simp only []; omega⟩ (.cons rfl (by first | rfl | exact inte (by omega) | (simp; done) | (simp <;> omega) | simp [*]) (.cons rfl (by first | rfl | exact inte (by omega) | (simp; done) | (simp <;> omega) | simp [*]) (.cons rfl (by first | rfl | exact inte (by omega) | (simp; done) | (simp <;> omega) | simp [*]) (.cons rfl (by first | rfl | exact inte (by omega) | (simp; done) | (simp <;> omega) | simp [*]) (.nil _))))) (by repeat (first | exact Ent.nil _ | exact Ent.refl _ | (refine Ent.pick (by repeat (first | exact Pick.here | apply Pick.there)) ?_) | refine Ent.skip ?_))
      · try simp only [Bool.and_eq_true, Bool.or_eq_true, Bool.not_eq_true', Bool.and_eq_false_iff, Bool.or_eq_false_iff, Bool.not_eq_false', decide_eq_true_eq, decide_eq_false_iff_not, Bool.not_eq_eq_eq_not, Bool.not_true, Bool.not_false, Bool.not_eq_true, Bool.not_eq_false, beq_iff_eq, bne_iff_ne, ne_eq, Decidable.not_not] at h3
        refine c_exit ?_
        refine k_then_x ?_
        refine k_then_x ?_
        refine k_blk_x ?_
        refine k_then_n ?_
        refine c_seq ?_
        refine c_region ?_
        refine l_step (s_q rfl wn (q_assign rfl) ?_)
        refine l_nil ?_
        refine k_then_n ?_
        refine c_ret ?_
        exact t_ret [] rfl (.tmp rfl .nil) rfl (Hp.le_refl _) ⟨rfl, boole (by rfl), rfl⟩ (by (repeat refine Ent.skip ?_); exact Ent.refl _)
    · skip
      try simp only [List.cons_append, List.nil_append]
      refine l_step (s_q rfl wn (q_move rfl) ?_)
      refine l_step (s_q rfl wn (q_extract rfl rfl) ?_)
      refine l_step (s_q rfl wn (q_extract rfl rfl) ?_)
      refine l_step (s_q rfl wn (q_assign rfl) ?_)
      refine l_step (s_q rfl wn (q_assign rfl) ?_)
      refine l_nil ?_
      refine k_then_n ?_
      refine c_seq ?_
      refine c_seq ?_
      refine c_region ?_
      refine l_step (s_q rfl wn (q_move rfl) ?_)
      refine l_step (s_q rfl wn (q_lss rfl rfl) ?_)
      refine l_nil ?_
      refine k_then_n ?_
      refine c_sure true rfl (decide_eq_true hrm) ?_
      simp only [Bool.false_eq_true, if_true, if_false]
      refine c_seq ?_
      refine c_region ?_
      refine l_step (s_q rfl wn (q_move rfl) ?_)
      refine l_step (s_q rfl wn (by first | exact q_eqlp rfl rfl Tryd.underlying27 | exact q_eqlp0 rfl rfl Tryd.underlying27) ?_)
      refine l_step (s_q rfl wn (q_move rfl) ?_)
      refine l_step (s_q rfl (wy rfl rfl rfl) (q_move rfl) ?_)
      refine l_step (s_q rfl (wy rfl rfl rfl) (q_eql rfl rfl) ?_)
      refine l_step (s_q rfl wn (q_pick rfl rfl rfl) ?_)
      refine l_step (s_q rfl wn (q_assign rfl) ?_)
      refine l_nil ?_
      refine k_then_n ?_
      refine c_ret ?_
      refine k_then_r ?_
      exact t_ret [] rfl (.tmp rfl .nil) rfl (Hp.le_refl _) ⟨rfl, boole (by rfl), rfl⟩ (by (repeat refine Ent.skip ?_); exact Ent.refl _)
end Go.Dsk.A4

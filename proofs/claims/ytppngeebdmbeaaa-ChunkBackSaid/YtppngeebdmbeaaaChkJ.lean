/-
  Laws of chunk, walked.
-/
import Derived.Test.YtppngeebdmbeaaaChkQ
import Derived.Test.YtppngeebdmbeaaaChkU
import Derived.Test.YtppngeebdmbeaaaChkH
import Derived.Test.YtppngeebdmbeaaaChkG
import Derived.Test.YtppngeebdmbeaaaChkE
import Derived.Test.YtppngeebdmbeaaaProg
set_option maxRecDepth 100000
set_option maxHeartbeats 4000000
set_option linter.unusedSimpArgs false
set_option linter.unusedVariables false
namespace Go.Chk.J
open Go Go.SL Go.Proofs Go.Sum Go.Chk.C Go.Chk.D Go.Chk.E Go.Chk.G Go.Chk.H
attribute [local irreducible] Go.SL.Ent
theorem ag_87 : aggSize Try.prog 87 = some 2 := by kernel_rfl
theorem ag_95 : aggSize Try.prog 95 = some 6 := by kernel_rfl
theorem eo_4 : elemOk Try.prog 4 1 1 = true := by kernel_rfl
theorem eo_5 : elemOk Try.prog 5 1 1 = true := by kernel_rfl
theorem eo_95 : elemOk Try.prog 95 6 64 = true := by kernel_rfl
theorem fo_95_4 : fieldOff Try.prog 95 4 = some (5, 22) := by kernel_rfl
theorem pl_87 : placesOf Try.prog 87 = some [(0, 1), (1, 1)] := by kernel_rfl
theorem sc_22 : isScalar Try.prog 22 = true := by kernel_rfl
theorem sc_3 : isScalar Try.prog 3 = true := by kernel_rfl
theorem sc_4 : isScalar Try.prog 4 = true := by kernel_rfl
theorem sc_5 : isScalar Try.prog 5 = true := by kernel_rfl
theorem sz_22 : sizeIs Try.prog 22 = some 1 := by kernel_rfl
theorem sz_3 : sizeIs Try.prog 3 = some 1 := by kernel_rfl
theorem sz_4 : sizeIs Try.prog 4 = some 1 := by kernel_rfl
theorem sz_5 : sizeIs Try.prog 5 = some 1 := by kernel_rfl
theorem sz_87 : sizeIs Try.prog 87 = some 2 := by kernel_rfl
theorem sz_95 : sizeIs Try.prog 95 = some 6 := by kernel_rfl
theorem zc_4 : zeroCs Try.prog 4 = some [.bool false] := by kernel_rfl
theorem zc_87 : zeroCs Try.prog 87 = some [.int .i64 0, .int .i64 0] := by kernel_rfl

theorem back_spec (s_a : Option Addr) (s_n s_c : Nat) (s : List UInt8) (hs_n : s.length = s_n) (size : Int) (order_a : Option Addr) (order_n order_c : Nat) (order : List Int) (horder_n : order.length = order_n) (ρ : Hp) (hro : Ro ρ 1 s_a s_n s_c (s.flatMap encB)) (hord : Ro ρ 1 order_a order_n order_c (order.flatMap encI)) : Spec0 Try.prog 12 #[.slice s_a s_n s_c, .int .i64 size, .slice order_a order_n order_c] ρ [] (fun v Γ' => v = .bool true ∧ Γ' = []) := by
  refine spec_of (n := 233) (vs := [_, _, _]) (σ := [(0, _), (1, _), (2, _)]) Try.func12 rfl rfl rfl rfl fun E Δ => ?_
  rw [List.nil_append]
  refine c_seq ?_
  refine c_region ?_
  refine l_step (s_q rfl wn (q_assign rfl) ?_)
  refine l_nil ?_
  refine k_then_n ?_
  refine c_seq ?_
  refine c_seq ?_
  refine c_region ?_
  refine l_step (s_fnq rfl wn Try.func36 rfl (by kernel_rfl) rfl (fun ρ' hL => awake_spec  ρ') ?_)
  refine l_step (s_q rfl wn (q_not rfl) ?_)
  refine l_step (s_q rfl wn (q_move rfl) ?_)
  refine l_step (s_q rfl (wy rfl rfl rfl) (q_move rfl) ?_)
  refine l_step (s_q rfl (wy rfl rfl rfl) (q_len Try.underlying22 rfl) ?_)
  refine l_step (s_q rfl (wy rfl rfl rfl) (q_gtr rfl rfl) ?_)
  refine l_step (s_q rfl wn (q_pick rfl rfl rfl) ?_)
  refine l_step (s_q rfl wn (q_move rfl) ?_)
  refine l_step (s_qg rfl (ask_f rfl rfl) (b := (!(decide (300 < (s_n : Int))))) (fun hb => q_move rfl) ?_)
  refine l_step (s_qg rfl (ask_f rfl rfl) (b := (!(decide (300 < (s_n : Int))))) (fun hb => OpQ.env (.cons rfl (gd_t hb) (.nil _) : EnvLe [(34, .int .i64 size)] _) (q_lss rfl rfl)) ?_)
  refine l_step (s_q rfl wn (q_pick_or rfl rfl rfl (fun h => by first | (rw [h]; rfl) | exact congrArg not h)) ?_)
  refine l_step (s_q rfl wn (q_move rfl) ?_)
  refine l_step (s_qg rfl (ask_f rfl rfl) (b := (!((decide (300 < (s_n : Int))) || (decide (size < 1))))) (fun hb => q_move rfl) ?_)
  refine l_step (s_qg rfl (ask_f rfl rfl) (b := (!((decide (300 < (s_n : Int))) || (decide (size < 1))))) (fun hb => OpQ.env (.cons rfl (gd_t hb) (.nil _) : EnvLe [(38, .slice order_a order_n order_c)] _) (q_len Try.underlying40 rfl)) ?_)
  refine l_step (s_qg rfl (ask_f rfl rfl) (b := (!((decide (300 < (s_n : Int))) || (decide (size < 1))))) (fun hb => OpQ.env (.cons rfl (gd_t hb) (.nil _) : EnvLe [(39, .int .i64 (order_n : Int))] _) (q_gtr rfl rfl)) ?_)
  refine l_step (s_q rfl wn (q_pick_or rfl rfl rfl (fun h => by first | (rw [h]; rfl) | exact congrArg not h)) ?_)
  refine l_nil ?_
  refine k_then_n ?_
  refine c_cond rfl (fun h0 => ?_) (fun h0 => ?_)
  · (try dsimp only [heapOf] at h0); try simp only [Bool.and_eq_true, Bool.or_eq_true, Bool.not_eq_true', Bool.and_eq_false_iff, Bool.or_eq_false_iff, Bool.not_eq_false', decide_eq_true_eq, decide_eq_false_iff_not, Bool.not_eq_eq_eq_not, Bool.not_true, Bool.not_false, Bool.not_eq_true, Bool.not_eq_false, beq_iff_eq, bne_iff_ne, ne_eq, Decidable.not_not] at h0
    refine c_seq ?_
    refine c_region ?_
    refine l_step (s_fnq rfl wn Try.func36 rfl (by kernel_rfl) rfl (fun ρ' hL => awake_spec  ρ') ?_)
    refine l_step (s_q rfl wn (q_assign rfl) ?_)
    refine l_nil ?_
    refine k_then_n ?_
    refine c_ret ?_
    refine k_then_r ?_
    exact t_ret [] rfl (.tmp rfl .nil) rfl (Hp.le_refl _) ⟨rfl, rfl, rfl⟩ (by (repeat refine Ent.skip ?_); exact Ent.refl _)
  · (try dsimp only [heapOf] at h0); try simp only [Bool.and_eq_true, Bool.or_eq_true, Bool.not_eq_true', Bool.and_eq_false_iff, Bool.or_eq_false_iff, Bool.not_eq_false', decide_eq_true_eq, decide_eq_false_iff_not, Bool.not_eq_eq_eq_not, Bool.not_true, Bool.not_false, Bool.not_eq_true, Bool.not_eq_false, beq_iff_eq, bne_iff_ne, ne_eq, Decidable.not_not] at h0
    refine c_skip ?_
    refine k_then_n ?_
    refine c_seq ?_
    refine c_region ?_
    refine l_step (s_q rfl wn (q_build (cs := encMark (⟨7, 2⟩ : Mark)) zc_87 pl_87 rfl rfl) ?_)
    refine l_step (s_s rfl wn (s_allocz (cs := encMark zMark) (by kernel_rfl)) ?_)
    rintro _ _ ⟨b7, rfl, rfl⟩
    refine l_step (s_s0 wn (s_storep (ws := encMark (⟨7, 2⟩ : Mark)) (cs := encMark zMark) (cs' := encMark (⟨7, 2⟩ : Mark)) rfl rfl rfl sz_87 (oneMark _) (by simp [encMark, encMark]) rfl (by repeat (first | exact Pick.here | apply Pick.there))) ?_)
    rintro _ _ ⟨rfl, rfl⟩
    refine l_nil ?_
    refine k_then_n ?_
    refine c_seq ?_
    refine c_region ?_
    refine l_step (s_q rfl wn (q_loadpa (vs := encMark (⟨7, 2⟩ : Mark)) ag_87 rfl (by repeat (first | exact Pick.here | apply Pick.there)) rfl) ?_)
    refine l_step (s_q rfl wn (q_move rfl) ?_)
    refine l_step (s_q rfl wn (q_move rfl) ?_)
    refine l_step (s_fnb rfl wn Try.func37 rfl (by kernel_rfl) rfl (by repeat (first | exact Sel.nil | exact Pick.here | apply Sel.cons | apply Pick.there)) (fun ρ' hL => cut_spec (⟨7, 2⟩ : Mark) s_a s_n s_c s (by first | rfl | assumption | simp | (simp <;> omega) | omega) size ρ' (by omega) (by first | exact hL.ro (by assumption) | exact hL.row (by repeat (first | exact Pick.here | apply Pick.there)) | assumption)) ?_)
    rintro _ _ ⟨a48, c48, ps48, rfl, hm48, rfl⟩
    try simp only [List.cons_append, List.nil_append]
    refine l_step (s_q rfl wn (q_move rfl) ?_)
    refine l_step (s_q rfl wn (q_extract rfl rfl) ?_)
    refine l_step (s_q rfl wn (q_extract rfl rfl) ?_)
    refine l_step (s_q rfl wn (q_assign rfl) ?_)
    refine l_step (s_q rfl wn (q_assign rfl) ?_)
    refine l_nil ?_
    refine k_then_n ?_
    refine c_seq ?_
    refine c_region ?_
    refine l_step (s_q rfl wn (q_build (cs := encMark (⟨6, 2⟩ : Mark)) zc_87 pl_87 rfl rfl) ?_)
    refine l_step (s_s rfl wn (s_buildSlice (cs := ([101, 108, 100, 101, 114] : List UInt8).flatMap encB) Try.underlying22 eo_5 rfl rfl rfl rfl (by decide) (by decide)) ?_)
    rintro _ _ ⟨b53, rfl, rfl⟩
    refine l_step (s_s rfl wn (s_mark Try.underlying22 Try.underlying5 rfl (by repeat (first | exact Pick.here | apply Pick.there))) ?_)
    rintro _ _ ⟨rfl, rfl⟩
    refine l_step (s_fnb rfl wn Try.func37 rfl (by kernel_rfl) rfl (by repeat (first | exact Sel.nil | exact Pick.here | apply Sel.cons | apply Pick.there)) (fun ρ' hL => cut_spec (⟨6, 2⟩ : Mark) (some ⟨b53, 0, none⟩) 5 5 [101, 108, 100, 101, 114] (by first | rfl | assumption | simp | (simp <;> omega) | omega) 2 ρ' (by omega) (by first | exact hL.ro (by assumption) | exact hL.bun (L := ps48.map (rowP 5)) (by repeat (first | exact Pick.here | apply Pick.there)) (in_map _ (by first | assumption | omega | (simp only [List.length_cons, List.length_nil]; omega) | decide) rfl) | exact hL.row (by repeat (first | exact Pick.here | apply Pick.there)) | assumption)) ?_)
    rintro _ _ ⟨a55, c55, ps55, rfl, hm55, rfl⟩
    try simp only [List.cons_append, List.nil_append]
    refine l_step (s_q rfl wn (q_move rfl) ?_)
    refine l_step (s_q rfl wn (q_extract rfl rfl) ?_)
    refine l_step (s_q rfl wn (q_extract rfl rfl) ?_)
    refine l_step (s_q rfl wn (q_assign rfl) ?_)
    refine l_step (s_q rfl wn (q_assign rfl) ?_)
    refine l_nil ?_
    refine k_then_n ?_
    refine c_seq ?_
    refine c_region ?_
    refine l_step (s_fnb rfl wn Try.func40 rfl (by kernel_rfl) rfl (by repeat (first | exact Sel.nil | exact Pick.here | apply Sel.cons | apply Pick.there)) (fun ρ' hL => new_spec 300 ρ') ?_)
    rintro _ _ ⟨b58, rfl, rfl⟩
    try simp only [List.cons_append, List.nil_append]
    simp only [HeapM, List.cons_append, List.nil_append]
    refine l_step (s_q rfl wn (q_assign rfl) ?_)
    refine l_nil ?_
    refine k_then_n ?_
    refine c_seq ?_
    refine c_seq ?_
    refine c_region ?_
    rw [cutE_ok (m := ⟨7, 2⟩) (size := size) (by decide) (by omega), cutE_ok (m := ⟨6, 2⟩) (size := 2) (by decide) (by decide)]
    have hcut48 := hm48.trans (cutG_ok (by decide) (by omega))
    have hcut55 := hm55.trans (cutG_ok (by decide) (by decide))
    have hl48 := cut_num hcut48 (by omega)
    have hl55 : ps55.length = 3 := by have := congrArg List.length hm55; rw [List.length_map] at this; exact this.trans (by kernel_rfl)
    refine l_step (s_q rfl wn (q_move rfl) ?_)
    refine l_step (s_q rfl wn (q_neq rfl rfl) ?_)
    refine l_step (s_q rfl wn (q_move rfl) ?_)
    refine l_step (s_qg rfl (ask_f rfl rfl) (b := (!(decide (0 ≠ 0)))) (fun hb => q_move rfl) ?_)
    refine l_step (s_qg rfl (ask_f rfl rfl) (b := (!(decide (0 ≠ 0)))) (fun hb => OpQ.env (.cons rfl (gd_t hb) (.nil _) : EnvLe [(62, .int .i64 0)] _) (q_neq rfl rfl)) ?_)
    refine l_step (s_q rfl wn (q_pick_or rfl rfl rfl (fun h => by first | (rw [h]; rfl) | exact congrArg not h)) ?_)
    refine l_step (s_q rfl wn (q_move rfl) ?_)
    refine l_step (s_qg rfl (ask_f rfl rfl) (b := (!((decide (0 ≠ 0)) || (decide (0 ≠ 0))))) (fun hb => q_move rfl) ?_)
    refine l_step (s_qg rfl (ask_f rfl rfl) (b := (!((decide (0 ≠ 0)) || (decide (0 ≠ 0))))) (fun hb => OpQ.env (.cons rfl (gd_t hb) (.nil _) : EnvLe [(66, .pointer (some ⟨b58, 0, none⟩))] _) (by first | exact q_eqlp rfl rfl Try.underlying97 | exact q_eqlp0 rfl rfl Try.underlying97)) ?_)
    refine l_step (s_q rfl wn (q_pick_or rfl rfl rfl (fun h => by first | (rw [h]; rfl) | exact congrArg not h)) ?_)
    refine l_step (s_q rfl wn (q_move rfl) ?_)
    refine l_step (s_qg rfl (ask_f rfl rfl) (b := (!(((decide (0 ≠ 0)) || (decide (0 ≠ 0))) || false))) (fun hb => q_move rfl) ?_)
    refine l_step (s_qg rfl (ask_f rfl rfl) (b := (!(((decide (0 ≠ 0)) || (decide (0 ≠ 0))) || false))) (fun hb => OpQ.env (.cons rfl (gd_t hb) (.nil _) : EnvLe [(70, .slice a48 ps48.length c48)] _) (q_len Try.underlying88 rfl)) ?_)
    refine l_step (s_qg rfl (ask_f rfl rfl) (b := (!(((decide (0 ≠ 0)) || (decide (0 ≠ 0))) || false))) (fun hb => OpQ.env (.cons rfl (gd_t hb) (.nil _) : EnvLe [(71, .int .i64 (ps48.length : Int))] _) (q_eql rfl rfl)) ?_)
    refine l_step (s_q rfl wn (q_pick_or rfl rfl rfl (fun h => by first | (rw [h]; rfl) | exact congrArg not h)) ?_)
    refine l_step (s_q rfl wn (q_move rfl) ?_)
    refine l_step (s_qg rfl (ask_f rfl rfl) (b := (!((((decide (0 ≠ 0)) || (decide (0 ≠ 0))) || false) || (decide ((ps48.length : Int) = 0))))) (fun hb => q_move rfl) ?_)
    refine l_step (s_qg rfl (ask_f rfl rfl) (b := (!((((decide (0 ≠ 0)) || (decide (0 ≠ 0))) || false) || (decide ((ps48.length : Int) = 0))))) (fun hb => OpQ.env (.cons rfl (gd_t hb) (.nil _) : EnvLe [(75, .slice a55 ps55.length c55)] _) (q_len Try.underlying88 rfl)) ?_)
    refine l_step (s_qg rfl (ask_f rfl rfl) (b := (!((((decide (0 ≠ 0)) || (decide (0 ≠ 0))) || false) || (decide ((ps48.length : Int) = 0))))) (fun hb => OpQ.env (.cons rfl (gd_t hb) (.nil _) : EnvLe [(76, .int .i64 (ps55.length : Int))] _) (q_neq rfl rfl)) ?_)
    refine l_step (s_q rfl wn (q_pick_or rfl rfl rfl (fun h => by first | (rw [h]; rfl) | exact congrArg not h)) ?_)
    refine l_nil ?_
    refine k_then_n ?_
    refine c_sure false rfl (by rw [decide_eq_false (by omega : ¬ (ps48.length : Int) = 0), hl55]; rfl) ?_
    simp only [Bool.false_eq_true, if_true, if_false]
    refine c_skip ?_
    refine k_then_n ?_
    refine c_seq ?_
    refine c_region ?_
    refine l_step (s_q rfl wn (q_move rfl) ?_)
    refine l_step (s_q rfl wn (q_move rfl) ?_)
    refine l_step (s_q rfl wn (q_indexe 0 Try.underlying88 sz_95 rfl rfl (rd_row (by repeat (first | exact Pick.here | apply Pick.there))) (by decide) rfl (by first | assumption | omega | (simp only [List.length_cons, List.length_nil]; omega))) ?_)
    refine l_step (s_q rfl wn (q_loadea (vs := encPiece (ps55.getD 0 default)) (enc := encPiece) (xs := ps55) (j := 0) (off := 0) ag_95 rfl (rd_row (by repeat (first | exact Pick.here | apply Pick.there))) (fun _ => rfl) (by first | assumption | omega | (simp only [List.length_cons, List.length_nil]; omega)) (by simp [encPiece]) (by simp [encPiece]) rfl) ?_)
    refine l_step (s_s rfl wn (s_buildSlice (cs := ([(ps55.getD 0 default)] : List Piece).flatMap encPiece) Try.underlying88 eo_95 rfl rfl rfl rfl (by decide) (by decide)) ?_)
    rintro _ _ ⟨b83, rfl, rfl⟩
    refine l_step (s_fnb rfl wn Try.func42 rfl (by kernel_rfl) rfl (by repeat (first | exact Sel.nil | exact Pick.here | apply Sel.cons | apply Pick.there)) (fun ρ' hL => takeone_spec b58 (newD 300) noX (some ⟨b83, 0, none⟩) 1 (ps55.getD 0 default) ρ' (hi_new (by decide)) (hL.row (by repeat (first | exact Pick.here | apply Pick.there))) (hL.bun (L := ps55.map (rowP 5)) (by repeat (first | exact Pick.here | apply Pick.there)) (in_map _ (by first | assumption | omega | exact Nat.mod_lt _ (by omega)) rfl)) (by have := cut_tot hcut55 (by decide) _ (getD_mem ps55 0 (by omega)); rw [this]; decide)) ?_)
    rintro _ _ ⟨x84, rfl, rfl⟩
    try simp only [List.cons_append, List.nil_append]
    simp only [HeapM, List.cons_append, List.nil_append]
    have h0t := hg_take (d := newD 300) (k := 0) (S := fun _ => false) (by decide) (by decide) (cutF_pk hcut55 (by decide) (by omega)) (show rightB ⟨6, 2⟩ = true by decide) (by decide) (by decide) (.inr ⟨⟨hi_new (by decide), .inl rfl⟩, rfl⟩)
    have hnw : Newer (takeF (newD 300) (ps55.getD 0 default)).1 ⟨7, 2⟩ := ⟨h0t.2.1.hi, .inr (by rw [h0t.2.1.mkd]; decide)⟩
    refine l_nil ?_
    refine k_then_n ?_
    refine c_seq ?_
    refine c_region ?_
    refine l_step (s_q rfl wn (q_move rfl) ?_)
    refine l_step (s_q rfl wn (q_len Try.underlying88 rfl) ?_)
    refine l_step (s_s rfl wn (s_makeSlicee (enc := encO) (z := false) Try.underlying60 eo_4 zc_4 rfl rfl rfl (by omega) rfl (by omega) (by omega)) ?_)
    rintro _ _ ⟨b87, rfl, rfl⟩
    refine l_step (s_q rfl wn (q_assign rfl) ?_)
    refine l_nil ?_
    refine k_then_n ?_
    refine c_seq ?_
    refine c_region ?_
    refine l_step (s_q rfl wn (q_move rfl) ?_)
    refine l_step (s_q rfl wn (q_len Try.underlying88 rfl) ?_)
    refine l_step (s_q rfl wn (q_assign rfl) ?_)
    refine l_nil ?_
    refine k_then_n ?_
    refine c_seq ?_
    refine c_seq ?_
    refine c_region ?_
    refine l_step (s_q rfl wn (q_assign rfl) ?_)
    refine l_nil ?_
    refine k_then_n ?_
    refine c_block ?_
    refine Tr.env (σ' := [(0, _), (2, _), (7, _), (8, _), (10, _), (12, _), (13, _), (14, _), (15, _)]) (.cons rfl rfl (.cons rfl rfl (.cons rfl rfl (.cons rfl rfl (.cons rfl rfl (.cons rfl rfl (.cons rfl rfl (.cons rfl rfl (.cons rfl rfl (.nil _)))))))))) ?_
    refine t_loop (ι := Lp (Nat × HD × HX × List Bool)) (fun x => x.d.1 ≤ order_n + ps48.length ∧ x.d.2.1.most = 300 ∧ HI x.d.2.1 ∧ x.d.2.2.2.length = ps48.length ∧ ((Newer x.d.2.1 ⟨7, 2⟩ ∧ x.d.2.2.2 = List.replicate ps48.length false) ∨ HG x.d.2.1 ⟨7, 2⟩ s (cutW s size) (fun j => x.d.2.2.2.getD j default)) ∧ ∀ j, j < x.d.1 - order_n → x.d.2.2.2.getD j default = true) (fun x => order_n + ps48.length - x.d.1) (fun x => [(0, .slice s_a s_n s_c), (2, .slice order_a order_n order_c), (7, .pointer (some ⟨b7, 0, none⟩)), (8, .slice a48 ps48.length c48), (10, .slice a55 ps55.length c55), (12, .pointer (some ⟨b58, 0, none⟩)), (13, .slice (some ⟨b87, 0, none⟩) (((ps48.length : Int)).toNat) (((ps48.length : Int)).toNat)), (14, .int .i64 ((x.d.2.2.2.count false : Nat) : Int)), (15, .int .i64 (x.d.1 : Int))]) (fun x => .row 4 1 (some ⟨b87, 0, none⟩) (((ps48.length : Int)).toNat) (((ps48.length : Int)).toNat) (x.d.2.2.2.flatMap encO) :: .row 95 6 (some ⟨b83, 0, none⟩) 1 1 ([(ps55.getD 0 default)].flatMap encPiece) :: .pts b58 (encHeap (⟨x.d.2.1.most, x.d.2.1.of, x.d.2.1.on, ⟨x.d.2.2.1.a1, x.d.2.2.1.n1, x.d.2.2.1.c1⟩, ⟨x.d.2.2.1.a2, x.d.2.2.1.n2, x.d.2.2.1.c2⟩, x.d.2.1.left⟩ : Heap)) 138 :: .row 4 1 x.d.2.2.1.a2 x.d.2.2.1.n2 x.d.2.2.1.c2 (x.d.2.1.there.flatMap encO) :: .row 5 1 x.d.2.2.1.a1 x.d.2.2.1.n1 x.d.2.2.1.c1 (x.d.2.1.b.flatMap encB) :: .row 95 6 a55 ps55.length c55 (ps55.flatMap encPiece) :: Bun (ps55.map (rowP 5)) :: .row 5 1 (some ⟨b53, 0, none⟩) 5 5 ([101, 108, 100, 101, 114].flatMap encB) :: .row 95 6 a48 ps48.length c48 (ps48.flatMap encPiece) :: Bun (ps48.map (rowP 5)) :: .pts b7 (encMark (⟨7, 2⟩ : Mark)) 87 :: Δ) (⟨(0, (takeF (newD 300) (ps55.getD 0 default)).1, x84, List.replicate ps48.length false), none, 0, none, 0, none, 0⟩ : Lp _) ⟨Nat.zero_le _, h0t.2.2, h0t.2.1.hi, List.length_replicate, .inl ⟨hnw, rfl⟩, fun j h => (by have h' : j < 0 - order_n := h; omega)⟩ ?_ ?_ ?_
    · exact .cons rfl (by first | rfl | exact inte (by omega) | (simp; done) | (simp <;> omega) | simp [*]) (.cons rfl (by first | rfl | exact inte (by omega) | (simp; done) | (simp <;> omega) | simp [*]) (.cons rfl (by first | rfl | exact inte (by omega) | (simp; done) | (simp <;> omega) | simp [*]) (.cons rfl (by first | rfl | exact inte (by omega) | (simp; done) | (simp <;> omega) | simp [*]) (.cons rfl (by first | rfl | exact inte (by omega) | (simp; done) | (simp <;> omega) | simp [*]) (.cons rfl (by first | rfl | exact inte (by omega) | (simp; done) | (simp <;> omega) | simp [*]) (.cons rfl (by first | rfl | exact inte (by omega) | (simp; done) | (simp <;> omega) | simp [*]) (.cons rfl (by first | rfl | exact inte (by omega) | (simp; done) | (simp <;> omega) | simp [*]) (.cons rfl (by first | rfl | exact inte (by omega) | (simp; done) | (simp <;> omega) | simp [*]) (.nil _)))))))))
    · exact (by repeat (first | exact Ent.nil _ | exact Ent.refl _ | (refine Ent.pick (by repeat (first | exact Pick.here | apply Pick.there)) ?_) | refine Ent.skip ?_))
    intro x hx
    obtain ⟨hx1, hx2, hx3, hx4, hx5, hx6⟩ := hx
    have hcle := count_le (l := x.d.2.2.2)
    refine c_seq ?_
    refine c_seq ?_
    refine c_region ?_
    refine l_step (s_q rfl wn (q_move rfl) ?_)
    refine l_step (s_q rfl wn (q_move rfl) ?_)
    refine l_step (s_q rfl wn (q_len Try.underlying40 rfl) ?_)
    refine l_step (s_q rfl wn (q_move rfl) ?_)
    refine l_step (s_q rfl wn (q_len Try.underlying88 rfl) ?_)
    refine l_step (s_q rfl wn (q_add rfl rfl (by omega) (by omega)) ?_)
    refine l_step (s_q rfl wn (q_lss rfl rfl) ?_)
    refine l_nil ?_
    refine k_then_n ?_
    refine c_cond rfl (fun h2 => ?_) (fun h2 => ?_)
    · (try dsimp only [heapOf] at h2); try simp only [Bool.and_eq_true, Bool.or_eq_true, Bool.not_eq_true', Bool.and_eq_false_iff, Bool.or_eq_false_iff, Bool.not_eq_false', decide_eq_true_eq, decide_eq_false_iff_not, Bool.not_eq_eq_eq_not, Bool.not_true, Bool.not_false, Bool.not_eq_true, Bool.not_eq_false, beq_iff_eq, bne_iff_ne, ne_eq, Decidable.not_not] at h2
      refine c_skip ?_
      refine k_then_n ?_
      refine c_seq ?_
      refine c_block ?_
      refine c_seq ?_
      refine c_region ?_
      refine l_step (s_q rfl wn (q_assign rfl) ?_)
      refine l_nil ?_
      refine k_then_n ?_
      refine c_seq ?_
      refine c_seq ?_
      refine c_region ?_
      refine l_step (s_q rfl wn (q_move rfl) ?_)
      refine l_step (s_q rfl wn (q_move rfl) ?_)
      refine l_step (s_q rfl wn (q_len Try.underlying40 rfl) ?_)
      refine l_step (s_q rfl wn (q_lss rfl rfl) ?_)
      refine l_nil ?_
      refine k_then_n ?_
      refine t_cutq (ι := Nat) (fun kk => kk < ps48.length ∧ (order_n ≤ x.d.1 → kk = x.d.1 - order_n)) (fun kk => [(0, .slice s_a s_n s_c), (2, .slice order_a order_n order_c), (7, .pointer (some ⟨b7, 0, none⟩)), (8, .slice a48 ps48.length c48), (10, .slice a55 ps55.length c55), (12, .pointer (some ⟨b58, 0, none⟩)), (13, .slice (some ⟨b87, 0, none⟩) (((ps48.length : Int)).toNat) (((ps48.length : Int)).toNat)), (14, .int .i64 ((x.d.2.2.2.count false : Nat) : Int)), (15, .int .i64 (x.d.1 : Int)), (16, .int .i64 (kk : Int)), (90, .int .i64 (x.d.1 : Int)), (91, .slice order_a order_n order_c), (92, .int .i64 (order_n : Int)), (93, .slice a48 ps48.length c48), (94, .int .i64 (ps48.length : Int)), (95, .int .i64 ((order_n : Int) + (ps48.length : Int))), (96, .bool (decide ((x.d.1 : Int) < ((order_n : Int) + (ps48.length : Int))))), (99, .int .i64 (x.d.1 : Int)), (100, .slice order_a order_n order_c), (101, .int .i64 (order_n : Int)), (102, .bool (decide ((x.d.1 : Int) < (order_n : Int))))]) (fun kk => .row 4 1 (some ⟨b87, 0, none⟩) (((ps48.length : Int)).toNat) (((ps48.length : Int)).toNat) (x.d.2.2.2.flatMap encO) :: .row 95 6 (some ⟨b83, 0, none⟩) 1 1 ([(ps55.getD 0 default)].flatMap encPiece) :: .pts b58 (encHeap (⟨x.d.2.1.most, x.d.2.1.of, x.d.2.1.on, ⟨x.d.2.2.1.a1, x.d.2.2.1.n1, x.d.2.2.1.c1⟩, ⟨x.d.2.2.1.a2, x.d.2.2.1.n2, x.d.2.2.1.c2⟩, x.d.2.1.left⟩ : Heap)) 138 :: .row 4 1 x.d.2.2.1.a2 x.d.2.2.1.n2 x.d.2.2.1.c2 (x.d.2.1.there.flatMap encO) :: .row 5 1 x.d.2.2.1.a1 x.d.2.2.1.n1 x.d.2.2.1.c1 (x.d.2.1.b.flatMap encB) :: .row 95 6 a55 ps55.length c55 (ps55.flatMap encPiece) :: Bun (ps55.map (rowP 5)) :: .row 5 1 (some ⟨b53, 0, none⟩) 5 5 ([101, 108, 100, 101, 114].flatMap encB) :: .row 95 6 a48 ps48.length c48 (ps48.flatMap encPiece) :: Bun (ps48.map (rowP 5)) :: .pts b7 (encMark (⟨7, 2⟩ : Mark)) 87 :: Δ) ?_ ?_
      · skip
        refine c_cond rfl (fun h3 => ?_) (fun h3 => ?_)
        · (try dsimp only [heapOf] at h3); try simp only [Bool.and_eq_true, Bool.or_eq_true, Bool.not_eq_true', Bool.and_eq_false_iff, Bool.or_eq_false_iff, Bool.not_eq_false', decide_eq_true_eq, decide_eq_false_iff_not, Bool.not_eq_eq_eq_not, Bool.not_true, Bool.not_false, Bool.not_eq_true, Bool.not_eq_false, beq_iff_eq, bne_iff_ne, ne_eq, Decidable.not_not] at h3
          refine c_region ?_
          refine l_step (s_q rfl wn (q_move rfl) ?_)
          refine l_step (s_q rfl wn (q_move rfl) ?_)
          refine l_step (s_q rfl wn (q_indexe x.d.1 Try.underlying40 sz_3 rfl rfl (by first | assumption | exact rd_ro (by assumption) | exact rd_bun (L := ps55.map (rowP 5)) (by repeat (first | exact Pick.here | apply Pick.there)) (in_map _ (by first | assumption | omega | (simp only [List.length_cons, List.length_nil]; omega) | decide) rfl) | exact rd_bun (L := ps48.map (rowP 5)) (by repeat (first | exact Pick.here | apply Pick.there)) (in_map _ (by first | assumption | omega | (simp only [List.length_cons, List.length_nil]; omega) | decide) rfl) | exact rd_row (by repeat (first | exact Pick.here | apply Pick.there))) (by decide) rfl (by first | assumption | omega | (simp only [List.length_cons, List.length_nil]; omega))) ?_)
          refine l_step (s_q rfl wn (q_loade (enc := encI) (xs := order) (j := x.d.1) (off := 0) sc_3 rfl (by first | assumption | exact rd_ro (by assumption) | exact rd_bun (L := ps55.map (rowP 5)) (by repeat (first | exact Pick.here | apply Pick.there)) (in_map _ (by first | assumption | omega | (simp only [List.length_cons, List.length_nil]; omega) | decide) rfl) | exact rd_bun (L := ps48.map (rowP 5)) (by repeat (first | exact Pick.here | apply Pick.there)) (in_map _ (by first | assumption | omega | (simp only [List.length_cons, List.length_nil]; omega) | decide) rfl) | exact rd_row (by repeat (first | exact Pick.here | apply Pick.there))) (fun _ => rfl) (by first | assumption | omega | (simp only [List.length_cons, List.length_nil]; omega)) (by decide) rfl) ?_)
          refine l_step (s_q rfl wn (q_move rfl) ?_)
          refine l_step (s_q rfl wn (q_len Try.underlying88 rfl) ?_)
          refine l_step (s_q rfl wn (q_rem rfl rfl (by omega)) ?_)
          refine l_step (s_q rfl wn (q_move rfl) ?_)
          refine l_step (s_q rfl wn (q_len Try.underlying88 rfl) ?_)
          have hk1 := tmod_bounds (order.getD x.d.1 default) (ps48.length : Int) (by omega)
          refine l_step (s_q rfl wn (q_add rfl rfl (by omega) (by omega)) ?_)
          refine l_step (s_q rfl wn (q_move rfl) ?_)
          refine l_step (s_q rfl wn (q_len Try.underlying88 rfl) ?_)
          refine l_step (s_q rfl wn (q_remp rfl rfl (by omega) (by omega)) ?_)
          refine l_step (s_q rfl wn (q_assign rfl) ?_)
          refine l_nil ?_
          refine k_then_n ?_
          have h1 := Int.emod_nonneg ((order.getD x.d.1 default).tmod (ps48.length : Int) + (ps48.length : Int)) (show (ps48.length : Int) ≠ 0 by omega)
          have h2 := Int.emod_lt_of_pos ((order.getD x.d.1 default).tmod (ps48.length : Int) + (ps48.length : Int)) (show 0 < (ps48.length : Int) by omega)
          exact t_next ((((order.getD x.d.1 default).tmod (ps48.length : Int) + (ps48.length : Int)) % (ps48.length : Int)).toNat) ⟨by omega, fun h => absurd h (by omega)⟩ (.cons rfl (by first | rfl | exact inte (by omega) | (simp; done) | (simp <;> omega) | simp [*]) (.cons rfl (by first | rfl | exact inte (by omega) | (simp; done) | (simp <;> omega) | simp [*]) (.cons rfl (by first | rfl | exact inte (by omega) | (simp; done) | (simp <;> omega) | simp [*]) (.cons rfl (by first | rfl | exact inte (by omega) | (simp; done) | (simp <;> omega) | simp [*]) (.cons rfl (by first | rfl | exact inte (by omega) | (simp; done) | (simp <;> omega) | simp [*]) (.cons rfl (by first | rfl | exact inte (by omega) | (simp; done) | (simp <;> omega) | simp [*]) (.cons rfl (by first | rfl | exact inte (by omega) | (simp; done) | (simp <;> omega) | simp [*]) (.cons rfl (by first | rfl | exact inte (by omega) | (simp; done) | (simp <;> omega) | simp [*]) (.cons rfl (by first | rfl | exact inte (by omega) | (simp; done) | (simp <;> omega) | simp [*]) (.cons rfl (by first | rfl | exact inte (by omega) | (simp; done) | (simp <;> omega) | simp [*]) (.cons rfl (by first | rfl | exact inte (by omega) | (simp; done) | (simp <;> omega) | simp [*]) (.cons rfl (by first | rfl | exact inte (by omega) | (simp; done) | (simp <;> omega) | simp [*]) (.cons rfl (by first | rfl | exact inte (by omega) | (simp; done) | (simp <;> omega) | simp [*]) (.cons rfl (by first | rfl | exact inte (by omega) | (simp; done) | (simp <;> omega) | simp [*]) (.cons rfl (by first | rfl | exact inte (by omega) | (simp; done) | (simp <;> omega) | simp [*]) (.cons rfl (by first | rfl | exact inte (by omega) | (simp; done) | (simp <;> omega) | simp [*]) (.cons rfl (by first | rfl | exact inte (by omega) | (simp; done) | (simp <;> omega) | simp [*]) (.cons rfl (by first | rfl | exact inte (by omega) | (simp; done) | (simp <;> omega) | simp [*]) (.cons rfl (by first | rfl | exact inte (by omega) | (simp; done) | (simp <;> omega) | simp [*]) (.cons rfl (by first | rfl | exact inte (by omega) | (simp; done) | (simp <;> omega) | simp [*]) (.cons rfl (by first | rfl | exact inte (by omega) | (simp; done) | (simp <;> omega) | simp [*]) (.nil _)))))))))))))))))))))) (by repeat (first | exact Ent.nil _ | exact Ent.refl _ | (refine Ent.pick (by repeat (first | exact Pick.here | apply Pick.there)) ?_) | refine Ent.skip ?_))
        · (try dsimp only [heapOf] at h3); try simp only [Bool.and_eq_true, Bool.or_eq_true, Bool.not_eq_true', Bool.and_eq_false_iff, Bool.or_eq_false_iff, Bool.not_eq_false', decide_eq_true_eq, decide_eq_false_iff_not, Bool.not_eq_eq_eq_not, Bool.not_true, Bool.not_false, Bool.not_eq_true, Bool.not_eq_false, beq_iff_eq, bne_iff_ne, ne_eq, Decidable.not_not] at h3
          refine c_region ?_
          refine l_step (s_q rfl wn (q_move rfl) ?_)
          refine l_step (s_q rfl wn (q_move rfl) ?_)
          refine l_step (s_q rfl wn (q_len Try.underlying40 rfl) ?_)
          refine l_step (s_q rfl wn (q_sub rfl rfl (by omega) (by omega)) ?_)
          refine l_step (s_q rfl wn (q_assign rfl) ?_)
          refine l_nil ?_
          refine k_then_n ?_
          exact t_next (x.d.1 - order_n) ⟨by omega, fun _ => rfl⟩ (.cons rfl (by first | rfl | exact inte (by omega) | (simp; done) | (simp <;> omega) | simp [*]) (.cons rfl (by first | rfl | exact inte (by omega) | (simp; done) | (simp <;> omega) | simp [*]) (.cons rfl (by first | rfl | exact inte (by omega) | (simp; done) | (simp <;> omega) | simp [*]) (.cons rfl (by first | rfl | exact inte (by omega) | (simp; done) | (simp <;> omega) | simp [*]) (.cons rfl (by first | rfl | exact inte (by omega) | (simp; done) | (simp <;> omega) | simp [*]) (.cons rfl (by first | rfl | exact inte (by omega) | (simp; done) | (simp <;> omega) | simp [*]) (.cons rfl (by first | rfl | exact inte (by omega) | (simp; done) | (simp <;> omega) | simp [*]) (.cons rfl (by first | rfl | exact inte (by omega) | (simp; done) | (simp <;> omega) | simp [*]) (.cons rfl (by first | rfl | exact inte (by omega) | (simp; done) | (simp <;> omega) | simp [*]) (.cons rfl (by first | rfl | exact inte (by omega) | (simp; done) | (simp <;> omega) | simp [*]) (.cons rfl (by first | rfl | exact inte (by omega) | (simp; done) | (simp <;> omega) | simp [*]) (.cons rfl (by first | rfl | exact inte (by omega) | (simp; done) | (simp <;> omega) | simp [*]) (.cons rfl (by first | rfl | exact inte (by omega) | (simp; done) | (simp <;> omega) | simp [*]) (.cons rfl (by first | rfl | exact inte (by omega) | (simp; done) | (simp <;> omega) | simp [*]) (.cons rfl (by first | rfl | exact inte (by omega) | (simp; done) | (simp <;> omega) | simp [*]) (.cons rfl (by first | rfl | exact inte (by omega) | (simp; done) | (simp <;> omega) | simp [*]) (.cons rfl (by first | rfl | exact inte (by omega) | (simp; done) | (simp <;> omega) | simp [*]) (.cons rfl (by first | rfl | exact inte (by omega) | (simp; done) | (simp <;> omega) | simp [*]) (.cons rfl (by first | rfl | exact inte (by omega) | (simp; done) | (simp <;> omega) | simp [*]) (.cons rfl (by first | rfl | exact inte (by omega) | (simp; done) | (simp <;> omega) | simp [*]) (.cons rfl (by first | rfl | exact inte (by omega) | (simp; done) | (simp <;> omega) | simp [*]) (.nil _)))))))))))))))))))))) (by repeat (first | exact Ent.nil _ | exact Ent.refl _ | (refine Ent.pick (by repeat (first | exact Pick.here | apply Pick.there)) ?_) | refine Ent.skip ?_))
      intro kk hkj
      obtain ⟨hkk, hko⟩ := hkj
      refine k_then_n ?_
      refine c_seq ?_
      refine c_region ?_
      refine l_step (s_q rfl wn (q_move rfl) ?_)
      refine l_step (s_q rfl wn (q_move rfl) ?_)
      refine l_step (s_q rfl wn (q_move rfl) ?_)
      refine l_step (s_q rfl wn (q_indexe kk Try.underlying88 sz_95 rfl rfl (rd_row (by repeat (first | exact Pick.here | apply Pick.there))) (by decide) rfl (by first | assumption | omega | (simp only [List.length_cons, List.length_nil]; omega))) ?_)
      refine l_step (s_q rfl wn (q_loadea (vs := encPiece (ps48.getD kk default)) (enc := encPiece) (xs := ps48) (j := kk) (off := 0) ag_95 rfl (rd_row (by repeat (first | exact Pick.here | apply Pick.there))) (fun _ => rfl) (by first | assumption | omega | (simp only [List.length_cons, List.length_nil]; omega)) (by simp [encPiece]) (by simp [encPiece]) rfl) ?_)
      refine l_step (s_s rfl wn (s_buildSlice (cs := ([(ps48.getD kk default)] : List Piece).flatMap encPiece) Try.underlying88 eo_95 rfl rfl rfl rfl (by decide) (by decide)) ?_)
      rintro _ _ ⟨b126, rfl, rfl⟩
      refine l_step (s_fnb rfl wn Try.func42 rfl (by kernel_rfl) rfl (by repeat (first | exact Sel.nil | exact Pick.here | apply Sel.cons | apply Pick.there)) (fun ρ' hL => takeone_spec b58 x.d.2.1 x.d.2.2.1 (some ⟨b126, 0, none⟩) 1 (ps48.getD kk default) ρ' hx3 (hL.row (by repeat (first | exact Pick.here | apply Pick.there))) (hL.bun (L := ps48.map (rowP 5)) (by repeat (first | exact Pick.here | apply Pick.there)) (in_map _ (by first | assumption | omega | exact Nat.mod_lt _ (by omega)) rfl)) (by have := cut_tot hcut48 (by omega) _ (getD_mem ps48 kk hkk); omega)) ?_)
      rintro _ _ ⟨x127, rfl, rfl⟩
      try simp only [List.cons_append, List.nil_append]
      simp only [HeapM, List.cons_append, List.nil_append]
      have ht := hg_take (S := fun j => x.d.2.2.2.getD j default) (by unfold cutW; omega) (by rw [← cutF_len hcut48 (by omega)]; exact hkk) (cutF_pk hcut48 (by omega) hkk) (show rightB ⟨7, 2⟩ = true by decide) (by rw [hx2]; omega) (by omega) (hx5.elim (fun h => .inr ⟨h.1, by rw [h.2]; exact rep_false _⟩) (fun h => .inl h.toHG0))
      obtain ⟨ht1, ht2, ht3⟩ := ht
      rw [← setS (by omega)] at ht2
      have hall := hg_all (by unfold cutW; omega) ht2 (by rw [List.length_set, ← cutF_len hcut48 (by omega)]; exact hx4)
      have hcnt := set_count (tk := x.d.2.2.2) (k := kk) (by omega)
      have hfi : fitsB (takeF x.d.2.1 (ps48.getD kk default)).1.most (ps55.getD (x.d.1 % 3) default) = true := (cutF_pk hcut55 (by decide) (by omega)).fits (by unfold cutW; decide) (by rw [← cutF_len hcut55 (by decide)]; omega) (by decide) (by rw [ht3, hx2]; decide)
      have hst := hg_stale ht2.toHG0 hfi (by rw [(cutF_pk hcut55 (by decide) (by omega)).mkd]; decide)
      refine l_step (s_q rfl wn (q_move rfl) ?_)
      refine l_step (s_q rfl wn (q_extract rfl rfl) ?_)
      refine l_step (s_q rfl wn (q_extract rfl rfl) ?_)
      refine l_step (s_q rfl wn (q_assign rfl) ?_)
      refine l_step (s_q rfl wn (q_assign rfl) ?_)
      refine l_nil ?_
      refine k_then_n ?_
      refine c_seq ?_
      refine c_seq ?_
      refine c_region ?_
      refine l_step (s_q rfl wn (q_move rfl) ?_)
      refine l_step (s_q rfl wn (q_move rfl) ?_)
      refine l_step (s_q rfl wn (q_indexe kk Try.underlying60 sz_4 rfl rfl (rd_row (by repeat (first | exact Pick.here | apply Pick.there))) (by decide) rfl (by first | assumption | omega | (simp only [List.length_cons, List.length_nil]; omega))) ?_)
      refine l_step (s_q rfl wn (q_loade (enc := encO) (xs := x.d.2.2.2) (j := kk) (off := 0) sc_4 rfl (rd_row (by repeat (first | exact Pick.here | apply Pick.there))) (fun _ => rfl) (by first | assumption | omega | (simp only [List.length_cons, List.length_nil]; omega)) (by decide) rfl) ?_)
      refine l_step (s_q rfl wn (q_not rfl) ?_)
      refine l_nil ?_
      refine k_then_n ?_
      refine t_cutq (ι := Unit) (fun _u => True) (fun _u => [(0, .slice s_a s_n s_c), (2, .slice order_a order_n order_c), (7, .pointer (some ⟨b7, 0, none⟩)), (8, .slice a48 ps48.length c48), (10, .slice a55 ps55.length c55), (12, .pointer (some ⟨b58, 0, none⟩)), (13, .slice (some ⟨b87, 0, none⟩) (((ps48.length : Int)).toNat) (((ps48.length : Int)).toNat)), (14, .int .i64 (((x.d.2.2.2.set kk true).count false : Nat) : Int)), (15, .int .i64 (x.d.1 : Int)), (16, .int .i64 (kk : Int)), (17, .bool (doneB (takeF x.d.2.1 (ps48.getD kk default)).1)), (18, .int .i64 ((takeF x.d.2.1 (ps48.getD kk default)).2)), (90, .int .i64 (x.d.1 : Int)), (91, .slice order_a order_n order_c), (92, .int .i64 (order_n : Int)), (93, .slice a48 ps48.length c48), (94, .int .i64 (ps48.length : Int)), (95, .int .i64 ((order_n : Int) + (ps48.length : Int))), (96, .bool (decide ((x.d.1 : Int) < ((order_n : Int) + (ps48.length : Int))))), (99, .int .i64 (x.d.1 : Int)), (100, .slice order_a order_n order_c), (101, .int .i64 (order_n : Int)), (102, .bool (decide ((x.d.1 : Int) < (order_n : Int)))), (120, .tuple #[.bool (doneB (takeF x.d.2.1 (ps48.getD kk default)).1), .int .i64 ((takeF x.d.2.1 (ps48.getD kk default)).2)]), (121, .pointer (some ⟨b58, 0, none⟩)), (122, .slice a48 ps48.length c48), (123, .int .i64 (kk : Int)), (124, pe a48 kk 6 0), (125, .agg (encPiece (ps48.getD kk default)).toArray), (126, .slice (some ⟨b126, 0, none⟩) 1 1), (127, .tuple #[.bool (doneB (takeF x.d.2.1 (ps48.getD kk default)).1), .int .i64 ((takeF x.d.2.1 (ps48.getD kk default)).2)]), (128, .bool (doneB (takeF x.d.2.1 (ps48.getD kk default)).1)), (129, .int .i64 ((takeF x.d.2.1 (ps48.getD kk default)).2)), (130, .slice (some ⟨b87, 0, none⟩) (((ps48.length : Int)).toNat) (((ps48.length : Int)).toNat)), (131, .int .i64 (kk : Int)), (132, pe (some ⟨b87, 0, none⟩) kk 1 0), (133, .bool (x.d.2.2.2.getD kk default)), (134, .bool (!(x.d.2.2.2.getD kk default)))]) (fun _u => .row 95 6 (some ⟨b126, 0, none⟩) 1 1 ([(ps48.getD kk default)].flatMap encPiece) :: .row 4 1 (some ⟨b87, 0, none⟩) (((ps48.length : Int)).toNat) (((ps48.length : Int)).toNat) (x.d.2.2.2.flatMap encO) :: .row 95 6 (some ⟨b83, 0, none⟩) 1 1 ([(ps55.getD 0 default)].flatMap encPiece) :: .pts b58 (encHeap (⟨((takeF x.d.2.1 (ps48.getD kk default)).1).most, ((takeF x.d.2.1 (ps48.getD kk default)).1).of, ((takeF x.d.2.1 (ps48.getD kk default)).1).on, ⟨x127.a1, x127.n1, x127.c1⟩, ⟨x127.a2, x127.n2, x127.c2⟩, ((takeF x.d.2.1 (ps48.getD kk default)).1).left⟩ : Heap)) 138 :: .row 4 1 x127.a2 x127.n2 x127.c2 (((takeF x.d.2.1 (ps48.getD kk default)).1.there).flatMap encO) :: .row 5 1 x127.a1 x127.n1 x127.c1 (((takeF x.d.2.1 (ps48.getD kk default)).1.b).flatMap encB) :: .row 95 6 a55 ps55.length c55 (ps55.flatMap encPiece) :: Bun (ps55.map (rowP 5)) :: .row 5 1 (some ⟨b53, 0, none⟩) 5 5 ([101, 108, 100, 101, 114].flatMap encB) :: .row 95 6 a48 ps48.length c48 (ps48.flatMap encPiece) :: Bun (ps48.map (rowP 5)) :: .pts b7 (encMark (⟨7, 2⟩ : Mark)) 87 :: Δ) ?_ ?_
      · skip
        refine c_cond rfl (fun h4 => ?_) (fun h4 => ?_)
        · (try dsimp only [heapOf] at h4); try simp only [Bool.and_eq_true, Bool.or_eq_true, Bool.not_eq_true', Bool.and_eq_false_iff, Bool.or_eq_false_iff, Bool.not_eq_false', decide_eq_true_eq, decide_eq_false_iff_not, Bool.not_eq_eq_eq_not, Bool.not_true, Bool.not_false, Bool.not_eq_true, Bool.not_eq_false, beq_iff_eq, bne_iff_ne, ne_eq, Decidable.not_not] at h4
          refine c_region ?_
          refine l_step (s_q rfl wn (q_move rfl) ?_)
          refine l_step (s_q rfl wn (q_sub rfl rfl (by omega) (by omega)) ?_)
          refine l_step (s_q rfl wn (q_assign rfl) ?_)
          refine l_nil ?_
          refine k_then_n ?_
          rw [if_neg (by rw [h4]; decide)] at hcnt
          exact t_next () trivial (.cons rfl (by first | rfl | exact inte (by omega) | (simp; done) | (simp <;> omega) | simp [*]) (.cons rfl (by first | rfl | exact inte (by omega) | (simp; done) | (simp <;> omega) | simp [*]) (.cons rfl (by first | rfl | exact inte (by omega) | (simp; done) | (simp <;> omega) | simp [*]) (.cons rfl (by first | rfl | exact inte (by omega) | (simp; done) | (simp <;> omega) | simp [*]) (.cons rfl (by first | rfl | exact inte (by omega) | (simp; done) | (simp <;> omega) | simp [*]) (.cons rfl (by first | rfl | exact inte (by omega) | (simp; done) | (simp <;> omega) | simp [*]) (.cons rfl (by first | rfl | exact inte (by omega) | (simp; done) | (simp <;> omega) | simp [*]) (.cons rfl (inte (by omega)) (.cons rfl (by first | rfl | exact inte (by omega) | (simp; done) | (simp <;> omega) | simp [*]) (.cons rfl (by first | rfl | exact inte (by omega) | (simp; done) | (simp <;> omega) | simp [*]) (.cons rfl (by first | rfl | exact inte (by omega) | (simp; done) | (simp <;> omega) | simp [*]) (.cons rfl (by first | rfl | exact inte (by omega) | (simp; done) | (simp <;> omega) | simp [*]) (.cons rfl (by first | rfl | exact inte (by omega) | (simp; done) | (simp <;> omega) | simp [*]) (.cons rfl (by first | rfl | exact inte (by omega) | (simp; done) | (simp <;> omega) | simp [*]) (.cons rfl (by first | rfl | exact inte (by omega) | (simp; done) | (simp <;> omega) | simp [*]) (.cons rfl (by first | rfl | exact inte (by omega) | (simp; done) | (simp <;> omega) | simp [*]) (.cons rfl (by first | rfl | exact inte (by omega) | (simp; done) | (simp <;> omega) | simp [*]) (.cons rfl (by first | rfl | exact inte (by omega) | (simp; done) | (simp <;> omega) | simp [*]) (.cons rfl (by first | rfl | exact inte (by omega) | (simp; done) | (simp <;> omega) | simp [*]) (.cons rfl (by first | rfl | exact inte (by omega) | (simp; done) | (simp <;> omega) | simp [*]) (.cons rfl (by first | rfl | exact inte (by omega) | (simp; done) | (simp <;> omega) | simp [*]) (.cons rfl (by first | rfl | exact inte (by omega) | (simp; done) | (simp <;> omega) | simp [*]) (.cons rfl (by first | rfl | exact inte (by omega) | (simp; done) | (simp <;> omega) | simp [*]) (.cons rfl (by first | rfl | exact inte (by omega) | (simp; done) | (simp <;> omega) | simp [*]) (.cons rfl (by first | rfl | exact inte (by omega) | (simp; done) | (simp <;> omega) | simp [*]) (.cons rfl (by first | rfl | exact inte (by omega) | (simp; done) | (simp <;> omega) | simp [*]) (.cons rfl (by first | rfl | exact inte (by omega) | (simp; done) | (simp <;> omega) | simp [*]) (.cons rfl (by first | rfl | exact inte (by omega) | (simp; done) | (simp <;> omega) | simp [*]) (.cons rfl (by first | rfl | exact inte (by omega) | (simp; done) | (simp <;> omega) | simp [*]) (.cons rfl (by first | rfl | exact inte (by omega) | (simp; done) | (simp <;> omega) | simp [*]) (.cons rfl (by first | rfl | exact inte (by omega) | (simp; done) | (simp <;> omega) | simp [*]) (.cons rfl (by first | rfl | exact inte (by omega) | (simp; done) | (simp <;> omega) | simp [*]) (.cons rfl (by first | rfl | exact inte (by omega) | (simp; done) | (simp <;> omega) | simp [*]) (.cons rfl (by first | rfl | exact inte (by omega) | (simp; done) | (simp <;> omega) | simp [*]) (.cons rfl (by first | rfl | exact inte (by omega) | (simp; done) | (simp <;> omega) | simp [*]) (.cons rfl (by first | rfl | exact inte (by omega) | (simp; done) | (simp <;> omega) | simp [*]) (.cons rfl (by first | rfl | exact inte (by omega) | (simp; done) | (simp <;> omega) | simp [*]) (.cons rfl (by first | rfl | exact inte (by omega) | (simp; done) | (simp <;> omega) | simp [*]) (.nil _))))))))))))))))))))))))))))))))))))))) (by repeat (first | exact Ent.nil _ | exact Ent.refl _ | (refine Ent.pick (by repeat (first | exact Pick.here | apply Pick.there)) ?_) | refine Ent.skip ?_))
        · (try dsimp only [heapOf] at h4); try simp only [Bool.and_eq_true, Bool.or_eq_true, Bool.not_eq_true', Bool.and_eq_false_iff, Bool.or_eq_false_iff, Bool.not_eq_false', decide_eq_true_eq, decide_eq_false_iff_not, Bool.not_eq_eq_eq_not, Bool.not_true, Bool.not_false, Bool.not_eq_true, Bool.not_eq_false, beq_iff_eq, bne_iff_ne, ne_eq, Decidable.not_not] at h4
          refine c_skip ?_
          refine k_then_n ?_
          rw [if_pos h4] at hcnt
          exact t_next () trivial (.cons rfl (by first | rfl | exact inte (by omega) | (simp; done) | (simp <;> omega) | simp [*]) (.cons rfl (by first | rfl | exact inte (by omega) | (simp; done) | (simp <;> omega) | simp [*]) (.cons rfl (by first | rfl | exact inte (by omega) | (simp; done) | (simp <;> omega) | simp [*]) (.cons rfl (by first | rfl | exact inte (by omega) | (simp; done) | (simp <;> omega) | simp [*]) (.cons rfl (by first | rfl | exact inte (by omega) | (simp; done) | (simp <;> omega) | simp [*]) (.cons rfl (by first | rfl | exact inte (by omega) | (simp; done) | (simp <;> omega) | simp [*]) (.cons rfl (by first | rfl | exact inte (by omega) | (simp; done) | (simp <;> omega) | simp [*]) (.cons rfl (inte (by omega)) (.cons rfl (by first | rfl | exact inte (by omega) | (simp; done) | (simp <;> omega) | simp [*]) (.cons rfl (by first | rfl | exact inte (by omega) | (simp; done) | (simp <;> omega) | simp [*]) (.cons rfl (by first | rfl | exact inte (by omega) | (simp; done) | (simp <;> omega) | simp [*]) (.cons rfl (by first | rfl | exact inte (by omega) | (simp; done) | (simp <;> omega) | simp [*]) (.cons rfl (by first | rfl | exact inte (by omega) | (simp; done) | (simp <;> omega) | simp [*]) (.cons rfl (by first | rfl | exact inte (by omega) | (simp; done) | (simp <;> omega) | simp [*]) (.cons rfl (by first | rfl | exact inte (by omega) | (simp; done) | (simp <;> omega) | simp [*]) (.cons rfl (by first | rfl | exact inte (by omega) | (simp; done) | (simp <;> omega) | simp [*]) (.cons rfl (by first | rfl | exact inte (by omega) | (simp; done) | (simp <;> omega) | simp [*]) (.cons rfl (by first | rfl | exact inte (by omega) | (simp; done) | (simp <;> omega) | simp [*]) (.cons rfl (by first | rfl | exact inte (by omega) | (simp; done) | (simp <;> omega) | simp [*]) (.cons rfl (by first | rfl | exact inte (by omega) | (simp; done) | (simp <;> omega) | simp [*]) (.cons rfl (by first | rfl | exact inte (by omega) | (simp; done) | (simp <;> omega) | simp [*]) (.cons rfl (by first | rfl | exact inte (by omega) | (simp; done) | (simp <;> omega) | simp [*]) (.cons rfl (by first | rfl | exact inte (by omega) | (simp; done) | (simp <;> omega) | simp [*]) (.cons rfl (by first | rfl | exact inte (by omega) | (simp; done) | (simp <;> omega) | simp [*]) (.cons rfl (by first | rfl | exact inte (by omega) | (simp; done) | (simp <;> omega) | simp [*]) (.cons rfl (by first | rfl | exact inte (by omega) | (simp; done) | (simp <;> omega) | simp [*]) (.cons rfl (by first | rfl | exact inte (by omega) | (simp; done) | (simp <;> omega) | simp [*]) (.cons rfl (by first | rfl | exact inte (by omega) | (simp; done) | (simp <;> omega) | simp [*]) (.cons rfl (by first | rfl | exact inte (by omega) | (simp; done) | (simp <;> omega) | simp [*]) (.cons rfl (by first | rfl | exact inte (by omega) | (simp; done) | (simp <;> omega) | simp [*]) (.cons rfl (by first | rfl | exact inte (by omega) | (simp; done) | (simp <;> omega) | simp [*]) (.cons rfl (by first | rfl | exact inte (by omega) | (simp; done) | (simp <;> omega) | simp [*]) (.cons rfl (by first | rfl | exact inte (by omega) | (simp; done) | (simp <;> omega) | simp [*]) (.cons rfl (by first | rfl | exact inte (by omega) | (simp; done) | (simp <;> omega) | simp [*]) (.cons rfl (by first | rfl | exact inte (by omega) | (simp; done) | (simp <;> omega) | simp [*]) (.cons rfl (by first | rfl | exact inte (by omega) | (simp; done) | (simp <;> omega) | simp [*]) (.cons rfl (by first | rfl | exact inte (by omega) | (simp; done) | (simp <;> omega) | simp [*]) (.cons rfl (by first | rfl | exact inte (by omega) | (simp; done) | (simp <;> omega) | simp [*]) (.nil _))))))))))))))))))))))))))))))))))))))) (by repeat (first | exact Ent.nil _ | exact Ent.refl _ | (refine Ent.pick (by repeat (first | exact Pick.here | apply Pick.there)) ?_) | refine Ent.skip ?_))
      intro _u hj4
      refine k_then_n ?_
      refine c_seq ?_
      refine c_region ?_
      refine l_step (s_q rfl wn (q_move rfl) ?_)
      refine l_step (s_q rfl wn (q_move rfl) ?_)
      refine l_step (s_q rfl wn (q_indexe kk Try.underlying60 sz_4 rfl rfl (rd_row (by repeat (first | exact Pick.here | apply Pick.there))) (by decide) rfl (by first | assumption | omega | (simp only [List.length_cons, List.length_nil]; omega))) ?_)
      refine l_step (s_s0 wn (s_storee (ws := [.bool true]) (enc := encO) (xs := x.d.2.2.2) (j := kk) (off := 0) true rfl rfl rfl sz_4 (by simp) (by simp [Value.oneCell', strB, ptV, SL.v]) (by repeat (first | exact Pick.here | apply Pick.there)) (fun _ => rfl) (by first | assumption | omega | (simp only [List.length_cons, List.length_nil]; omega)) (by simp) (by first | rfl | simp [encO])) ?_)
      rintro _ _ ⟨rfl, rfl⟩
      refine l_nil ?_
      refine k_then_n ?_
      refine c_seq ?_
      refine c_seq ?_
      refine c_region ?_
      refine l_step (s_q rfl wn (q_move rfl) ?_)
      refine l_step (s_q rfl wn (q_neq rfl rfl) ?_)
      refine l_step (s_q rfl wn (q_move rfl) ?_)
      refine l_step (s_qg rfl (ask_f rfl rfl) (b := (!(decide ((takeF x.d.2.1 (ps48.getD kk default)).2 ≠ 0)))) (fun hb => q_move rfl) ?_)
      refine l_step (s_qg rfl (ask_f rfl rfl) (b := (!(decide ((takeF x.d.2.1 (ps48.getD kk default)).2 ≠ 0)))) (fun hb => q_move rfl) ?_)
      refine l_step (s_qg rfl (ask_f rfl rfl) (b := (!(decide ((takeF x.d.2.1 (ps48.getD kk default)).2 ≠ 0)))) (fun hb => OpQ.env (.cons rfl (gd_t hb) (.nil _) : EnvLe [(144, .int .i64 (((x.d.2.2.2.set kk true).count false : Nat) : Int))] _) (q_eql rfl rfl)) ?_)
      refine l_step (s_qg rfl (ask_f rfl rfl) (b := (!(decide ((takeF x.d.2.1 (ps48.getD kk default)).2 ≠ 0)))) (fun hb => OpQ.env (.cons rfl (gd_t hb) (.cons rfl (gd_t hb) (.nil _)) : EnvLe [(143, .bool (doneB (takeF x.d.2.1 (ps48.getD kk default)).1)), (145, .bool (decide ((((x.d.2.2.2.set kk true).count false : Nat) : Int) = 0)))] _) (q_neqb rfl rfl Try.underlying4)) ?_)
      refine l_step (s_q rfl wn (q_pick_or rfl rfl rfl (fun h => by first | (rw [h]; rfl) | exact congrArg not h)) ?_)
      refine l_nil ?_
      refine k_then_n ?_
      refine c_sure false rfl (by rw [ht1, hall]; simp) ?_
      simp only [Bool.false_eq_true, if_true, if_false]
      refine c_skip ?_
      refine k_then_n ?_
      refine c_seq ?_
      refine c_region ?_
      refine l_step (s_q rfl wn (q_move rfl) ?_)
      refine l_step (s_q rfl wn (q_move rfl) ?_)
      refine l_step (s_q rfl wn (q_move rfl) ?_)
      refine l_step (s_q rfl wn (q_remn (m := x.d.1) (q := 3) rfl rfl rfl rfl (by decide)) ?_)
      refine l_step (s_q rfl wn (q_indexe (x.d.1 % 3) Try.underlying88 sz_95 rfl rfl (rd_row (by repeat (first | exact Pick.here | apply Pick.there))) (by decide) rfl (by omega)) ?_)
      refine l_step (s_q rfl wn (q_loadea (vs := encPiece (ps55.getD (x.d.1 % 3) default)) (enc := encPiece) (xs := ps55) (j := (x.d.1 % 3)) (off := 0) ag_95 rfl (rd_row (by repeat (first | exact Pick.here | apply Pick.there))) (fun _ => rfl) (by omega) (by simp [encPiece]) (by simp [encPiece]) rfl) ?_)
      refine l_step (s_s rfl wn (s_buildSlice (cs := ([(ps55.getD (x.d.1 % 3) default)] : List Piece).flatMap encPiece) Try.underlying88 eo_95 rfl rfl rfl rfl (by decide) (by decide)) ?_)
      rintro _ _ ⟨b155, rfl, rfl⟩
      refine l_step (s_fnb rfl wn Try.func42 rfl (by kernel_rfl) rfl (by repeat (first | exact Sel.nil | exact Pick.here | apply Sel.cons | apply Pick.there)) (fun ρ' hL => takeone_spec b58 (takeF x.d.2.1 (ps48.getD kk default)).1 x127 (some ⟨b155, 0, none⟩) 1 (ps55.getD (x.d.1 % 3) default) ρ' ht2.hi (hL.row (by repeat (first | exact Pick.here | apply Pick.there))) (hL.bun (L := ps55.map (rowP 5)) (by repeat (first | exact Pick.here | apply Pick.there)) (in_map _ (by first | assumption | omega | exact Nat.mod_lt _ (by omega)) rfl)) (by have := cut_tot hcut55 (by decide) _ (getD_mem ps55 (x.d.1 % 3) (by omega)); rw [this]; decide)) ?_)
      rintro _ _ ⟨x156, rfl, rfl⟩
      try simp only [List.cons_append, List.nil_append]
      simp only [HeapM, List.cons_append, List.nil_append]
      simp only [hst]
      refine l_step (s_q rfl wn (q_move rfl) ?_)
      refine l_step (s_q rfl wn (q_extract rfl rfl) ?_)
      refine l_step (s_q rfl wn (q_extract rfl rfl) ?_)
      refine l_step (s_q rfl wn (q_assign rfl) ?_)
      refine l_step (s_q rfl wn (q_assign rfl) ?_)
      refine l_nil ?_
      refine k_then_n ?_
      refine c_seq ?_
      refine c_seq ?_
      refine c_region ?_
      refine l_step (s_q rfl wn (q_move rfl) ?_)
      refine l_step (s_q rfl wn (q_neq rfl rfl) ?_)
      refine l_step (s_q rfl wn (q_move rfl) ?_)
      refine l_step (s_qg rfl (ask_f rfl rfl) (b := (!(decide (70 ≠ 70)))) (fun hb => q_move rfl) ?_)
      refine l_step (s_qg rfl (ask_f rfl rfl) (b := (!(decide (70 ≠ 70)))) (fun hb => q_move rfl) ?_)
      refine l_step (s_qg rfl (ask_f rfl rfl) (b := (!(decide (70 ≠ 70)))) (fun hb => OpQ.env (.cons rfl (gd_t hb) (.cons rfl (gd_t hb) (.nil _)) : EnvLe [(162, .bool (doneB (takeF x.d.2.1 (ps48.getD kk default)).1)), (163, .bool (doneB (takeF x.d.2.1 (ps48.getD kk default)).1))] _) (q_neqb rfl rfl Try.underlying4)) ?_)
      refine l_step (s_q rfl wn (q_pick_or rfl rfl rfl (fun h => by first | (rw [h]; rfl) | exact congrArg not h)) ?_)
      refine l_nil ?_
      refine k_then_n ?_
      refine c_sure false rfl (by simp) ?_
      simp only [Bool.false_eq_true, if_true, if_false]
      refine c_skip ?_
      refine k_then_n ?_
      refine c_seq ?_
      refine c_region ?_
      refine l_step (s_q rfl wn (q_move rfl) ?_)
      refine l_step (s_q rfl wn (q_move rfl) ?_)
      refine l_step (s_q rfl wn (q_indexe kk Try.underlying88 sz_95 rfl rfl (rd_row (by repeat (first | exact Pick.here | apply Pick.there))) (by decide) rfl (by first | assumption | omega | (simp only [List.length_cons, List.length_nil]; omega))) ?_)
      refine l_step (s_q rfl wn (q_fielde rfl fo_95_4) ?_)
      refine l_step (s_q rfl wn (q_loade (enc := encPiece) (xs := ps48) (j := kk) (off := 5) sc_22 rfl (rd_row (by repeat (first | exact Pick.here | apply Pick.there))) (fun _ => rfl) (by first | assumption | omega | (simp only [List.length_cons, List.length_nil]; omega)) (by decide) rfl) ?_)
      refine l_step (s_q rfl wn (q_len Try.underlying22 rfl) ?_)
      refine l_step (s_q rfl wn (q_gtr rfl rfl) ?_)
      refine l_nil ?_
      refine k_then_n ?_
      refine t_cutq (ι := HX) (fun xx => True) (fun xx => [(0, .slice s_a s_n s_c), (2, .slice order_a order_n order_c), (7, .pointer (some ⟨b7, 0, none⟩)), (8, .slice a48 ps48.length c48), (10, .slice a55 ps55.length c55), (12, .pointer (some ⟨b58, 0, none⟩)), (13, .slice (some ⟨b87, 0, none⟩) (((ps48.length : Int)).toNat) (((ps48.length : Int)).toNat)), (14, .int .i64 (((x.d.2.2.2.set kk true).count false : Nat) : Int)), (15, .int .i64 (x.d.1 : Int)), (16, .int .i64 (kk : Int)), (17, .bool (doneB (takeF x.d.2.1 (ps48.getD kk default)).1)), (18, .int .i64 ((takeF x.d.2.1 (ps48.getD kk default)).2)), (19, .bool (doneB (takeF x.d.2.1 (ps48.getD kk default)).1)), (20, .int .i64 70), (90, .int .i64 (x.d.1 : Int)), (91, .slice order_a order_n order_c), (92, .int .i64 (order_n : Int)), (93, .slice a48 ps48.length c48), (94, .int .i64 (ps48.length : Int)), (95, .int .i64 ((order_n : Int) + (ps48.length : Int))), (96, .bool (decide ((x.d.1 : Int) < ((order_n : Int) + (ps48.length : Int))))), (99, .int .i64 (x.d.1 : Int)), (100, .slice order_a order_n order_c), (101, .int .i64 (order_n : Int)), (102, .bool (decide ((x.d.1 : Int) < (order_n : Int)))), (120, .tuple #[.bool (doneB (takeF x.d.2.1 (ps48.getD kk default)).1), .int .i64 ((takeF x.d.2.1 (ps48.getD kk default)).2)]), (121, .pointer (some ⟨b58, 0, none⟩)), (122, .slice a48 ps48.length c48), (123, .int .i64 (kk : Int)), (124, pe a48 kk 6 0), (125, .agg (encPiece (ps48.getD kk default)).toArray), (126, .slice (some ⟨b126, 0, none⟩) 1 1), (127, .tuple #[.bool (doneB (takeF x.d.2.1 (ps48.getD kk default)).1), .int .i64 ((takeF x.d.2.1 (ps48.getD kk default)).2)]), (128, .bool (doneB (takeF x.d.2.1 (ps48.getD kk default)).1)), (129, .int .i64 ((takeF x.d.2.1 (ps48.getD kk default)).2)), (130, .slice (some ⟨b87, 0, none⟩) (((ps48.length : Int)).toNat) (((ps48.length : Int)).toNat)), (131, .int .i64 (kk : Int)), (132, pe (some ⟨b87, 0, none⟩) kk 1 0), (133, .bool (x.d.2.2.2.getD kk default)), (134, .bool (!(x.d.2.2.2.getD kk default))), (137, .slice (some ⟨b87, 0, none⟩) (((ps48.length : Int)).toNat) (((ps48.length : Int)).toNat)), (138, .int .i64 (kk : Int)), (139, pe (some ⟨b87, 0, none⟩) kk 1 0), (140, .int .i64 ((takeF x.d.2.1 (ps48.getD kk default)).2)), (141, .bool (decide ((takeF x.d.2.1 (ps48.getD kk default)).2 ≠ 0))), (142, .bool (decide ((takeF x.d.2.1 (ps48.getD kk default)).2 ≠ 0))), (143, gd (!(decide ((takeF x.d.2.1 (ps48.getD kk default)).2 ≠ 0))) (.bool (doneB (takeF x.d.2.1 (ps48.getD kk default)).1))), (144, gd (!(decide ((takeF x.d.2.1 (ps48.getD kk default)).2 ≠ 0))) (.int .i64 (((x.d.2.2.2.set kk true).count false : Nat) : Int))), (145, gd (!(decide ((takeF x.d.2.1 (ps48.getD kk default)).2 ≠ 0))) (.bool (decide ((((x.d.2.2.2.set kk true).count false : Nat) : Int) = 0)))), (146, gd (!(decide ((takeF x.d.2.1 (ps48.getD kk default)).2 ≠ 0))) (.bool ((doneB (takeF x.d.2.1 (ps48.getD kk default)).1) != (decide ((((x.d.2.2.2.set kk true).count false : Nat) : Int) = 0))))), (147, .bool ((decide ((takeF x.d.2.1 (ps48.getD kk default)).2 ≠ 0)) || ((doneB (takeF x.d.2.1 (ps48.getD kk default)).1) != (decide ((((x.d.2.2.2.set kk true).count false : Nat) : Int) = 0))))), (148, .tuple #[.bool (doneB (takeF x.d.2.1 (ps48.getD kk default)).1), .int .i64 70]), (149, .pointer (some ⟨b58, 0, none⟩)), (150, .slice a55 ps55.length c55), (151, .int .i64 (x.d.1 : Int)), (152, .int .i64 ((x.d.1 % 3 : Nat) : Int)), (153, pe a55 (x.d.1 % 3) 6 0), (154, .agg (encPiece (ps55.getD (x.d.1 % 3) default)).toArray), (155, .slice (some ⟨b155, 0, none⟩) 1 1), (156, .tuple #[.bool (doneB (takeF x.d.2.1 (ps48.getD kk default)).1), .int .i64 70]), (157, .bool (doneB (takeF x.d.2.1 (ps48.getD kk default)).1)), (158, .int .i64 70), (159, .int .i64 70), (160, .bool (decide (70 ≠ 70))), (161, .bool (decide (70 ≠ 70))), (162, gd (!(decide (70 ≠ 70))) (.bool (doneB (takeF x.d.2.1 (ps48.getD kk default)).1))), (163, gd (!(decide (70 ≠ 70))) (.bool (doneB (takeF x.d.2.1 (ps48.getD kk default)).1))), (164, gd (!(decide (70 ≠ 70))) (.bool ((doneB (takeF x.d.2.1 (ps48.getD kk default)).1) != (doneB (takeF x.d.2.1 (ps48.getD kk default)).1)))), (165, .bool ((decide (70 ≠ 70)) || ((doneB (takeF x.d.2.1 (ps48.getD kk default)).1) != (doneB (takeF x.d.2.1 (ps48.getD kk default)).1)))), (166, .slice a48 ps48.length c48), (167, .int .i64 (kk : Int)), (168, pe a48 kk 6 0), (169, pe a48 kk 6 5), (170, .slice ((ps48.getD kk default).B.a) ((ps48.getD kk default).B.xs.length) ((ps48.getD kk default).B.cap)), (171, .int .i64 ((ps48.getD kk default).B.xs.length : Int)), (172, .bool (decide (0 < ((ps48.getD kk default).B.xs.length : Int))))]) (fun xx => .row 95 6 (some ⟨b155, 0, none⟩) 1 1 ([(ps55.getD (x.d.1 % 3) default)].flatMap encPiece) :: .row 95 6 (some ⟨b126, 0, none⟩) 1 1 ([(ps48.getD kk default)].flatMap encPiece) :: .row 4 1 (some ⟨b87, 0, none⟩) (((ps48.length : Int)).toNat) (((ps48.length : Int)).toNat) ((x.d.2.2.2.set kk true).flatMap encO) :: .row 95 6 (some ⟨b83, 0, none⟩) 1 1 ([(ps55.getD 0 default)].flatMap encPiece) :: .pts b58 (encHeap (⟨((takeF x.d.2.1 (ps48.getD kk default)).1).most, ((takeF x.d.2.1 (ps48.getD kk default)).1).of, ((takeF x.d.2.1 (ps48.getD kk default)).1).on, ⟨xx.a1, xx.n1, xx.c1⟩, ⟨xx.a2, xx.n2, xx.c2⟩, ((takeF x.d.2.1 (ps48.getD kk default)).1).left⟩ : Heap)) 138 :: .row 4 1 xx.a2 xx.n2 xx.c2 (((takeF x.d.2.1 (ps48.getD kk default)).1.there).flatMap encO) :: .row 5 1 xx.a1 xx.n1 xx.c1 (((takeF x.d.2.1 (ps48.getD kk default)).1.b).flatMap encB) :: .row 95 6 a55 ps55.length c55 (ps55.flatMap encPiece) :: Bun (ps55.map (rowP 5)) :: .row 5 1 (some ⟨b53, 0, none⟩) 5 5 ([101, 108, 100, 101, 114].flatMap encB) :: .row 95 6 a48 ps48.length c48 (ps48.flatMap encPiece) :: Bun (ps48.map (rowP 5)) :: .pts b7 (encMark (⟨7, 2⟩ : Mark)) 87 :: Δ) ?_ ?_
      · skip
        refine c_cond rfl (fun h7 => ?_) (fun h7 => ?_)
        · (try dsimp only [heapOf] at h7); try simp only [Bool.and_eq_true, Bool.or_eq_true, Bool.not_eq_true', Bool.and_eq_false_iff, Bool.or_eq_false_iff, Bool.not_eq_false', decide_eq_true_eq, decide_eq_false_iff_not, Bool.not_eq_eq_eq_not, Bool.not_true, Bool.not_false, Bool.not_eq_true, Bool.not_eq_false, beq_iff_eq, bne_iff_ne, ne_eq, Decidable.not_not] at h7
          refine c_seq ?_
          refine c_region ?_
          refine l_step (s_q rfl wn (q_move rfl) ?_)
          refine l_step (s_q rfl wn (q_move rfl) ?_)
          refine l_step (s_q rfl wn (q_indexe kk Try.underlying88 sz_95 rfl rfl (rd_row (by repeat (first | exact Pick.here | apply Pick.there))) (by decide) rfl (by first | assumption | omega | (simp only [List.length_cons, List.length_nil]; omega))) ?_)
          refine l_step (s_q rfl wn (q_loadea (vs := encPiece (ps48.getD kk default)) (enc := encPiece) (xs := ps48) (j := kk) (off := 0) ag_95 rfl (rd_row (by repeat (first | exact Pick.here | apply Pick.there))) (fun _ => rfl) (by first | assumption | omega | (simp only [List.length_cons, List.length_nil]; omega)) (by simp [encPiece]) (by simp [encPiece]) rfl) ?_)
          refine l_step (s_s rfl wn (s_allocz (cs := encPiece zPiece) (by kernel_rfl)) ?_)
          rintro _ _ ⟨b21, rfl, rfl⟩
          refine l_step (s_s0 wn (s_storep (ws := encPiece (ps48.getD kk default)) (cs := encPiece zPiece) (cs' := encPiece (ps48.getD kk default)) rfl rfl rfl sz_95 (onePiece _) (by simp [encPiece, encPiece]) rfl (by repeat (first | exact Pick.here | apply Pick.there))) ?_)
          rintro _ _ ⟨rfl, rfl⟩
          refine l_nil ?_
          refine k_then_n ?_
          refine c_seq ?_
          refine c_region ?_
          have hblen : (ps48.getD kk default).B.xs.length ≤ 300 := by have := ((cutF_pk hcut48 (by omega) hkk).len (by unfold cutW; omega) (by rw [← cutF_len hcut48 (by omega)]; exact hkk)).2.1; omega
          refine l_step (s_s rfl wn (s_buildSlice (cs := ([] : List UInt8).flatMap encB) Try.underlying22 eo_5 rfl rfl rfl rfl (by decide) (by decide)) ?_)
          rintro _ _ ⟨b177, rfl, rfl⟩
          refine l_step (s_q rfl wn (q_move rfl) ?_)
          refine l_step (s_q rfl wn (q_move rfl) ?_)
          refine l_step (s_q rfl wn (q_indexe kk Try.underlying88 sz_95 rfl rfl (rd_row (by repeat (first | exact Pick.here | apply Pick.there))) (by decide) rfl (by first | assumption | omega | (simp only [List.length_cons, List.length_nil]; omega))) ?_)
          refine l_step (s_q rfl wn (q_fielde rfl fo_95_4) ?_)
          refine l_step (s_q rfl wn (q_loade (enc := encPiece) (xs := ps48) (j := kk) (off := 5) sc_22 rfl (rd_row (by repeat (first | exact Pick.here | apply Pick.there))) (fun _ => rfl) (by first | assumption | omega | (simp only [List.length_cons, List.length_nil]; omega)) (by decide) rfl) ?_)
          refine l_step (s_s rfl wn (s_appendn (enc := encB) (xs := ([] : List UInt8)) (ys := ((ps48.getD kk default).B.xs : List UInt8)) (Γ' := fun a' cap' => _) Try.underlying22 eo_5 (by decide) rfl rfl (by first | assumption | exact rd_ro (by assumption) | exact rd_bun (L := ps55.map (rowP 5)) (by repeat (first | exact Pick.here | apply Pick.there)) (in_map _ (by first | assumption | omega | (simp only [List.length_cons, List.length_nil]; omega) | decide) rfl) | exact rd_bun (L := ps48.map (rowP 5)) (by repeat (first | exact Pick.here | apply Pick.there)) (in_map _ (by first | assumption | omega | (simp only [List.length_cons, List.length_nil]; omega) | decide) rfl) | exact rd_row (by repeat (first | exact Pick.here | apply Pick.there))) (oneB _) (by first | omega | (simp only [List.length_append, List.length_cons, List.length_nil] at *; omega)) (by first | omega | (simp only [List.length_append, List.length_cons, List.length_nil] at *; omega)) (fun _ _ => (by repeat (first | exact Pick.here | apply Pick.there)))) ?_)
          rintro _ _ ⟨a183, c183, rfl, rfl⟩
          simp only [Nat.zero_add, List.nil_append]
          refine l_step (s_q rfl wn (q_fieldp rfl fo_95_4) ?_)
          refine l_step (s_s0 wn (s_storep (ws := [.slice a183 ((ps48.getD kk default).B.xs.length) c183]) (cs := encPiece (ps48.getD kk default)) (cs' := encPiece { (ps48.getD kk default) with B := ⟨a183, (ps48.getD kk default).B.xs, c183⟩ }) rfl rfl rfl sz_22 (by simp [Value.oneCell', strB, ptV, SL.v, SH.v]) (by simp [encPiece]) rfl (by repeat (first | exact Pick.here | apply Pick.there))) ?_)
          rintro _ _ ⟨rfl, rfl⟩
          refine l_nil ?_
          refine k_then_n ?_
          refine c_seq ?_
          refine c_draw (m := 9) (bs := #[false, false, false, false, false, false, false, false, false]) [.pts b21 (encPiece { (ps48.getD kk default) with B := ⟨a183, (ps48.getD kk default).B.xs, c183⟩ }) 95, .row 95 6 (some ⟨b155, 0, none⟩) 1 1 ([(ps55.getD (x.d.1 % 3) default)].flatMap encPiece), .row 95 6 (some ⟨b126, 0, none⟩) 1 1 ([(ps48.getD kk default)].flatMap encPiece), .row 4 1 (some ⟨b87, 0, none⟩) (((ps48.length : Int)).toNat) (((ps48.length : Int)).toNat) ((x.d.2.2.2.set kk true).flatMap encO), .row 95 6 (some ⟨b83, 0, none⟩) 1 1 ([(ps55.getD 0 default)].flatMap encPiece), .pts b58 (encHeap (⟨((takeF x.d.2.1 (ps48.getD kk default)).1).most, ((takeF x.d.2.1 (ps48.getD kk default)).1).of, ((takeF x.d.2.1 (ps48.getD kk default)).1).on, ⟨x156.a1, x156.n1, x156.c1⟩, ⟨x156.a2, x156.n2, x156.c2⟩, ((takeF x.d.2.1 (ps48.getD kk default)).1).left⟩ : Heap)) 138, .row 4 1 x156.a2 x156.n2 x156.c2 (((takeF x.d.2.1 (ps48.getD kk default)).1.there).flatMap encO), .row 5 1 x156.a1 x156.n1 x156.c1 (((takeF x.d.2.1 (ps48.getD kk default)).1.b).flatMap encB), .row 95 6 a55 ps55.length c55 (ps55.flatMap encPiece), Bun (ps55.map (rowP 5)), .row 5 1 (some ⟨b53, 0, none⟩) 5 5 ([101, 108, 100, 101, 114].flatMap encB), .row 95 6 a48 ps48.length c48 (ps48.flatMap encPiece), Bun (ps48.map (rowP 5)), .pts b7 (encMark (⟨7, 2⟩ : Mark)) 87] (by kernel_rfl) rfl (by kernel_rfl) ?_
          refine r_take (i := 0) (bs' := #[true, false, false, false, false, false, false, false, false]) rfl (by kernel_rfl) (by kernel_rfl) (by kernel_rfl) (fun _ _ _ h => h) rfl wn (q_fieldp rfl fo_95_4) (Hp.le_refl _) (by repeat (first | exact Ent.nil _ | exact Ent.refl _ | (refine Ent.pick (by repeat (first | exact Pick.here | apply Pick.there)) ?_) | refine Ent.skip ?_)) (by kernel_rfl) ?_
          refine r_take (i := 1) (bs' := #[true, true, false, false, false, false, false, false, false]) rfl (by kernel_rfl) (by kernel_rfl) (by kernel_rfl) (fun _ _ _ h => h) rfl wn (q_loadp (v := .slice a183 ((ps48.getD kk default).B.xs.length) c183) sc_22 rfl (by repeat (first | exact Pick.here | apply Pick.there)) rfl) (Hp.le_refl _) (by repeat (first | exact Ent.nil _ | exact Ent.refl _ | (refine Ent.pick (by repeat (first | exact Pick.here | apply Pick.there)) ?_) | refine Ent.skip ?_)) (by kernel_rfl) ?_
          refine r_take (i := 2) (bs' := #[true, true, true, false, false, false, false, false, false]) rfl (by kernel_rfl) (by kernel_rfl) (by kernel_rfl) (fun _ _ _ h => h) rfl wn (q_fieldp rfl fo_95_4) (Hp.le_refl _) (by repeat (first | exact Ent.nil _ | exact Ent.refl _ | (refine Ent.pick (by repeat (first | exact Pick.here | apply Pick.there)) ?_) | refine Ent.skip ?_)) (by kernel_rfl) ?_
          refine r_take (i := 3) (bs' := #[true, true, true, true, false, false, false, false, false]) rfl (by kernel_rfl) (by kernel_rfl) (by kernel_rfl) (fun _ _ _ h => h) rfl wn (q_loadp (v := .slice a183 ((ps48.getD kk default).B.xs.length) c183) sc_22 rfl (by repeat (first | exact Pick.here | apply Pick.there)) rfl) (Hp.le_refl _) (by repeat (first | exact Ent.nil _ | exact Ent.refl _ | (refine Ent.pick (by repeat (first | exact Pick.here | apply Pick.there)) ?_) | refine Ent.skip ?_)) (by kernel_rfl) ?_
          refine r_one (i := 4) (bs' := #[true, true, true, true, true, false, false, false, false]) (by kernel_rfl) (by kernel_rfl) ?_
          refine o_step rfl (s_q rfl wn (q_indexe 0 Try.underlying22 sz_5 rfl rfl (rd_row (by repeat (first | exact Pick.here | apply Pick.there))) (by decide) rfl (by first | assumption | omega | (simp only [List.length_cons, List.length_nil]; omega))) ?_)
          refine r_cont (Hp.le_refl _) (by repeat (first | exact Ent.nil _ | exact Ent.refl _ | (refine Ent.pick (by repeat (first | exact Pick.here | apply Pick.there)) ?_) | refine Ent.skip ?_)) ?_
          refine r_one (i := 5) (bs' := #[true, true, true, true, true, true, false, false, false]) (by kernel_rfl) (by kernel_rfl) ?_
          refine o_step rfl (s_q rfl wn (q_loade (enc := encB) (xs := (ps48.getD kk default).B.xs) (j := 0) (off := 0) sc_5 rfl (rd_row (by repeat (first | exact Pick.here | apply Pick.there))) (fun _ => rfl) (by first | assumption | omega | (simp only [List.length_cons, List.length_nil]; omega)) (by decide) rfl) ?_)
          refine r_cont (Hp.le_refl _) (by repeat (first | exact Ent.nil _ | exact Ent.refl _ | (refine Ent.pick (by repeat (first | exact Pick.here | apply Pick.there)) ?_) | refine Ent.skip ?_)) ?_
          refine r_take (i := 6) (bs' := #[true, true, true, true, true, true, true, false, false]) rfl (by kernel_rfl) (by kernel_rfl) (by kernel_rfl) (fun _ _ _ h => h) rfl wn (q8_xor (p := (((ps48.getD kk default).B.xs).getD 0 default)) (q := (255 : UInt8)) rfl rfl rfl rfl) (Hp.le_refl _) (by repeat (first | exact Ent.nil _ | exact Ent.refl _ | (refine Ent.pick (by repeat (first | exact Pick.here | apply Pick.there)) ?_) | refine Ent.skip ?_)) (by kernel_rfl) ?_
          refine r_one (i := 7) (bs' := #[true, true, true, true, true, true, true, true, false]) (by kernel_rfl) (by kernel_rfl) ?_
          refine o_step rfl (s_q rfl wn (q_indexe 0 Try.underlying22 sz_5 rfl rfl (rd_row (by repeat (first | exact Pick.here | apply Pick.there))) (by decide) rfl (by first | assumption | omega | (simp only [List.length_cons, List.length_nil]; omega))) ?_)
          refine r_cont (Hp.le_refl _) (by repeat (first | exact Ent.nil _ | exact Ent.refl _ | (refine Ent.pick (by repeat (first | exact Pick.here | apply Pick.there)) ?_) | refine Ent.skip ?_)) ?_
          refine r_one (i := 8) (bs' := #[true, true, true, true, true, true, true, true, true]) (by kernel_rfl) (by kernel_rfl) ?_
          refine o_step rfl (s_s0 wn (s_storee (ws := [.int .u8 (((((ps48.getD kk default).B.xs).getD 0 default) ^^^ (255 : UInt8)).toNat : Int)]) (enc := encB) (xs := (ps48.getD kk default).B.xs) (j := 0) (off := 0) ((((ps48.getD kk default).B.xs).getD 0 default) ^^^ (255 : UInt8)) rfl rfl rfl sz_5 (by simp) (by simp [Value.oneCell', strB, ptV, SL.v]) (by repeat (first | exact Pick.here | apply Pick.there)) (fun _ => rfl) (by first | assumption | omega | (simp only [List.length_cons, List.length_nil]; omega)) (by simp) (by first | rfl | simp [encB])) ?_)
          rintro _ _ ⟨rfl, rfl⟩
          refine r_cont (Hp.le_refl _) (by repeat (first | exact Ent.nil _ | exact Ent.refl _ | (refine Ent.pick (by repeat (first | exact Pick.here | apply Pick.there)) ?_) | refine Ent.skip ?_)) ?_
          refine r_done (by kernel_rfl) ?_
          refine k_then_n ?_
          refine c_seq ?_
          refine c_region ?_
          refine l_step (s_q rfl wn (q_move rfl) ?_)
          refine l_step (s_q rfl wn (q_loadpa (vs := encPiece { (ps48.getD kk default) with B := ⟨a183, (ps48.getD kk default).B.xs, c183⟩ }) ag_95 rfl (by repeat (first | exact Pick.here | apply Pick.there)) rfl) ?_)
          refine l_step (s_s rfl wn (s_buildSlice (cs := ([{ (ps48.getD kk default) with B := ⟨a183, (ps48.getD kk default).B.xs, c183⟩ }] : List Piece).flatMap encPiece) Try.underlying88 eo_95 rfl rfl rfl rfl (by decide) (by decide)) ?_)
          rintro _ _ ⟨b196, rfl, rfl⟩
          refine l_step (s_fnb rfl wn Try.func42 rfl (by kernel_rfl) rfl (by repeat (first | exact Sel.nil | exact Pick.here | apply Sel.cons | apply Pick.there)) (fun ρ' hL => takeone_spec b58 (takeF x.d.2.1 (ps48.getD kk default)).1 x156 (some ⟨b196, 0, none⟩) 1 ({ ps48.getD kk default with B := ⟨a183, (((ps48.getD kk default).B.xs).set 0 ((((ps48.getD kk default).B.xs).getD 0 default) ^^^ (255 : UInt8))), c183⟩ } : Piece) ρ' ht2.hi (by rw [show [({ ps48.getD kk default with B := ⟨a183, (((ps48.getD kk default).B.xs).set 0 ((((ps48.getD kk default).B.xs).getD 0 default) ^^^ (255 : UInt8))), c183⟩ } : Piece)].flatMap encPiece = [{ (ps48.getD kk default) with B := ⟨a183, (ps48.getD kk default).B.xs, c183⟩ }].flatMap encPiece from by simp [encPiece, SL.v]]; exact hL.row (by repeat (first | exact Pick.here | apply Pick.there))) (by have := hL.row (T := 5) (sz := 1) (a := a183) (by repeat (first | exact Pick.here | apply Pick.there)); simpa using this) (by have := cut_tot hcut48 (by omega) _ (getD_mem ps48 kk hkk); show (ps48.getD kk default).Total ≤ _; omega)) ?_)
          rintro _ _ ⟨x197, rfl, rfl⟩
          try simp only [List.cons_append, List.nil_append]
          simp only [HeapM, List.cons_append, List.nil_append]
          have hcl : takeF (takeF x.d.2.1 (ps48.getD kk default)).1 ({ ps48.getD kk default with B := ⟨a183, (((ps48.getD kk default).B.xs).set 0 ((((ps48.getD kk default).B.xs).getD 0 default) ^^^ (255 : UInt8))), c183⟩ } : Piece) = ((takeF x.d.2.1 (ps48.getD kk default)).1, 71) := hg_spoilt (by unfold cutW; omega) (by rw [← cutF_len hcut48 (by omega)]; exact hkk) ht2.toHG0 (by rw [set_getD _ _ _ _ (by omega), if_pos rfl]) (cutF_pk hcut48 (by omega) hkk) (by decide) (by rw [ht3, hx2]; omega) (by omega) a183 c183
          simp only [hcl]
          refine l_step (s_q rfl wn (q_move rfl) ?_)
          refine l_step (s_q rfl wn (q_extract rfl rfl) ?_)
          refine l_step (s_q rfl wn (q_extract rfl rfl) ?_)
          refine l_step (s_q rfl wn (q_assign rfl) ?_)
          refine l_step (s_q rfl wn (q_assign rfl) ?_)
          refine l_nil ?_
          refine k_then_n ?_
          refine c_seq ?_
          refine c_region ?_
          refine l_step (s_q rfl wn (q_move rfl) ?_)
          refine l_step (s_q rfl wn (q_neq rfl rfl) ?_)
          refine l_step (s_q rfl wn (q_move rfl) ?_)
          refine l_step (s_qg rfl (ask_f rfl rfl) (b := (!(decide (71 ≠ 71)))) (fun hb => q_move rfl) ?_)
          refine l_step (s_qg rfl (ask_f rfl rfl) (b := (!(decide (71 ≠ 71)))) (fun hb => q_move rfl) ?_)
          refine l_step (s_qg rfl (ask_f rfl rfl) (b := (!(decide (71 ≠ 71)))) (fun hb => OpQ.env (.cons rfl (gd_t hb) (.cons rfl (gd_t hb) (.nil _)) : EnvLe [(203, .bool (doneB (takeF x.d.2.1 (ps48.getD kk default)).1)), (204, .bool (doneB (takeF x.d.2.1 (ps48.getD kk default)).1))] _) (q_neqb rfl rfl Try.underlying4)) ?_)
          refine l_step (s_q rfl wn (q_pick_or rfl rfl rfl (fun h => by first | (rw [h]; rfl) | exact congrArg not h)) ?_)
          refine l_nil ?_
          refine k_then_n ?_
          refine c_sure false rfl (by simp) ?_
          simp only [Bool.false_eq_true, if_true, if_false]
          refine c_skip ?_
          refine k_then_n ?_
          exact t_next x197 trivial (.cons rfl (by first | rfl | exact inte (by omega) | (simp; done) | (simp <;> omega) | simp [*]) (.cons rfl (by first | rfl | exact inte (by omega) | (simp; done) | (simp <;> omega) | simp [*]) (.cons rfl (by first | rfl | exact inte (by omega) | (simp; done) | (simp <;> omega) | simp [*]) (.cons rfl (by first | rfl | exact inte (by omega) | (simp; done) | (simp <;> omega) | simp [*]) (.cons rfl (by first | rfl | exact inte (by omega) | (simp; done) | (simp <;> omega) | simp [*]) (.cons rfl (by first | rfl | exact inte (by omega) | (simp; done) | (simp <;> omega) | simp [*]) (.cons rfl (by first | rfl | exact inte (by omega) | (simp; done) | (simp <;> omega) | simp [*]) (.cons rfl (by first | rfl | exact inte (by omega) | (simp; done) | (simp <;> omega) | simp [*]) (.cons rfl (by first | rfl | exact inte (by omega) | (simp; done) | (simp <;> omega) | simp [*]) (.cons rfl (by first | rfl | exact inte (by omega) | (simp; done) | (simp <;> omega) | simp [*]) (.cons rfl (by first | rfl | exact inte (by omega) | (simp; done) | (simp <;> omega) | simp [*]) (.cons rfl (by first | rfl | exact inte (by omega) | (simp; done) | (simp <;> omega) | simp [*]) (.cons rfl (by first | rfl | exact inte (by omega) | (simp; done) | (simp <;> omega) | simp [*]) (.cons rfl (by first | rfl | exact inte (by omega) | (simp; done) | (simp <;> omega) | simp [*]) (.cons rfl (by first | rfl | exact inte (by omega) | (simp; done) | (simp <;> omega) | simp [*]) (.cons rfl (by first | rfl | exact inte (by omega) | (simp; done) | (simp <;> omega) | simp [*]) (.cons rfl (by first | rfl | exact inte (by omega) | (simp; done) | (simp <;> omega) | simp [*]) (.cons rfl (by first | rfl | exact inte (by omega) | (simp; done) | (simp <;> omega) | simp [*]) (.cons rfl (by first | rfl | exact inte (by omega) | (simp; done) | (simp <;> omega) | simp [*]) (.cons rfl (by first | rfl | exact inte (by omega) | (simp; done) | (simp <;> omega) | simp [*]) (.cons rfl (by first | rfl | exact inte (by omega) | (simp; done) | (simp <;> omega) | simp [*]) (.cons rfl (by first | rfl | exact inte (by omega) | (simp; done) | (simp <;> omega) | simp [*]) (.cons rfl (by first | rfl | exact inte (by omega) | (simp; done) | (simp <;> omega) | simp [*]) (.cons rfl (by first | rfl | exact inte (by omega) | (simp; done) | (simp <;> omega) | simp [*]) (.cons rfl (by first | rfl | exact inte (by omega) | (simp; done) | (simp <;> omega) | simp [*]) (.cons rfl (by first | rfl | exact inte (by omega) | (simp; done) | (simp <;> omega) | simp [*]) (.cons rfl (by first | rfl | exact inte (by omega) | (simp; done) | (simp <;> omega) | simp [*]) (.cons rfl (by first | rfl | exact inte (by omega) | (simp; done) | (simp <;> omega) | simp [*]) (.cons rfl (by first | rfl | exact inte (by omega) | (simp; done) | (simp <;> omega) | simp [*]) (.cons rfl (by first | rfl | exact inte (by omega) | (simp; done) | (simp <;> omega) | simp [*]) (.cons rfl (by first | rfl | exact inte (by omega) | (simp; done) | (simp <;> omega) | simp [*]) (.cons rfl (by first | rfl | exact inte (by omega) | (simp; done) | (simp <;> omega) | simp [*]) (.cons rfl (by first | rfl | exact inte (by omega) | (simp; done) | (simp <;> omega) | simp [*]) (.cons rfl (by first | rfl | exact inte (by omega) | (simp; done) | (simp <;> omega) | simp [*]) (.cons rfl (by first | rfl | exact inte (by omega) | (simp; done) | (simp <;> omega) | simp [*]) (.cons rfl (by first | rfl | exact inte (by omega) | (simp; done) | (simp <;> omega) | simp [*]) (.cons rfl (by first | rfl | exact inte (by omega) | (simp; done) | (simp <;> omega) | simp [*]) (.cons rfl (by first | rfl | exact inte (by omega) | (simp; done) | (simp <;> omega) | simp [*]) (.cons rfl (by first | rfl | exact inte (by omega) | (simp; done) | (simp <;> omega) | simp [*]) (.cons rfl (by first | rfl | exact inte (by omega) | (simp; done) | (simp <;> omega) | simp [*]) (.cons rfl (by first | rfl | exact inte (by omega) | (simp; done) | (simp <;> omega) | simp [*]) (.cons rfl (by first | rfl | exact inte (by omega) | (simp; done) | (simp <;> omega) | simp [*]) (.cons rfl (by first | rfl | exact inte (by omega) | (simp; done) | (simp <;> omega) | simp [*]) (.cons rfl (by first | rfl | exact inte (by omega) | (simp; done) | (simp <;> omega) | simp [*]) (.cons rfl (by first | rfl | exact inte (by omega) | (simp; done) | (simp <;> omega) | simp [*]) (.cons rfl (by first | rfl | exact inte (by omega) | (simp; done) | (simp <;> omega) | simp [*]) (.cons rfl (by first | rfl | exact inte (by omega) | (simp; done) | (simp <;> omega) | simp [*]) (.cons rfl (by first | rfl | exact inte (by omega) | (simp; done) | (simp <;> omega) | simp [*]) (.cons rfl (by first | rfl | exact inte (by omega) | (simp; done) | (simp <;> omega) | simp [*]) (.cons rfl (by first | rfl | exact inte (by omega) | (simp; done) | (simp <;> omega) | simp [*]) (.cons rfl (by first | rfl | exact inte (by omega) | (simp; done) | (simp <;> omega) | simp [*]) (.cons rfl (by first | rfl | exact inte (by omega) | (simp; done) | (simp <;> omega) | simp [*]) (.cons rfl (by first | rfl | exact inte (by omega) | (simp; done) | (simp <;> omega) | simp [*]) (.cons rfl (by first | rfl | exact inte (by omega) | (simp; done) | (simp <;> omega) | simp [*]) (.cons rfl (by first | rfl | exact inte (by omega) | (simp; done) | (simp <;> omega) | simp [*]) (.cons rfl (by first | rfl | exact inte (by omega) | (simp; done) | (simp <;> omega) | simp [*]) (.cons rfl (by first | rfl | exact inte (by omega) | (simp; done) | (simp <;> omega) | simp [*]) (.cons rfl (by first | rfl | exact inte (by omega) | (simp; done) | (simp <;> omega) | simp [*]) (.cons rfl (by first | rfl | exact inte (by omega) | (simp; done) | (simp <;> omega) | simp [*]) (.cons rfl (by first | rfl | exact inte (by omega) | (simp; done) | (simp <;> omega) | simp [*]) (.cons rfl (by first | rfl | exact inte (by omega) | (simp; done) | (simp <;> omega) | simp [*]) (.cons rfl (by first | rfl | exact inte (by omega) | (simp; done) | (simp <;> omega) | simp [*]) (.cons rfl (by first | rfl | exact inte (by omega) | (simp; done) | (simp <;> omega) | simp [*]) (.cons rfl (by first | rfl | exact inte (by omega) | (simp; done) | (simp <;> omega) | simp [*]) (.cons rfl (by first | rfl | exact inte (by omega) | (simp; done) | (simp <;> omega) | simp [*]) (.cons rfl (by first | rfl | exact inte (by omega) | (simp; done) | (simp <;> omega) | simp [*]) (.cons rfl (by first | rfl | exact inte (by omega) | (simp; done) | (simp <;> omega) | simp [*]) (.cons rfl (by first | rfl | exact inte (by omega) | (simp; done) | (simp <;> omega) | simp [*]) (.cons rfl (by first | rfl | exact inte (by omega) | (simp; done) | (simp <;> omega) | simp [*]) (.cons rfl (by first | rfl | exact inte (by omega) | (simp; done) | (simp <;> omega) | simp [*]) (.cons rfl (by first | rfl | exact inte (by omega) | (simp; done) | (simp <;> omega) | simp [*]) (.cons rfl (by first | rfl | exact inte (by omega) | (simp; done) | (simp <;> omega) | simp [*]) (.cons rfl (by first | rfl | exact inte (by omega) | (simp; done) | (simp <;> omega) | simp [*]) (.cons rfl (by first | rfl | exact inte (by omega) | (simp; done) | (simp <;> omega) | simp [*]) (.cons rfl (by first | rfl | exact inte (by omega) | (simp; done) | (simp <;> omega) | simp [*]) (.cons rfl (by first | rfl | exact inte (by omega) | (simp; done) | (simp <;> omega) | simp [*]) (.nil _))))))))))))))))))))))))))))))))))))))))))))))))))))))))))))))))))))))))))))) (by repeat (first | exact Ent.nil _ | exact Ent.refl _ | (refine Ent.pick (by repeat (first | exact Pick.here | apply Pick.there)) ?_) | refine Ent.skip ?_))
        · (try dsimp only [heapOf] at h7); try simp only [Bool.and_eq_true, Bool.or_eq_true, Bool.not_eq_true', Bool.and_eq_false_iff, Bool.or_eq_false_iff, Bool.not_eq_false', decide_eq_true_eq, decide_eq_false_iff_not, Bool.not_eq_eq_eq_not, Bool.not_true, Bool.not_false, Bool.not_eq_true, Bool.not_eq_false, beq_iff_eq, bne_iff_ne, ne_eq, Decidable.not_not] at h7
          refine c_skip ?_
          refine k_then_n ?_
          exact t_next x156 trivial (.cons rfl (by first | rfl | exact inte (by omega) | (simp; done) | (simp <;> omega) | simp [*]) (.cons rfl (by first | rfl | exact inte (by omega) | (simp; done) | (simp <;> omega) | simp [*]) (.cons rfl (by first | rfl | exact inte (by omega) | (simp; done) | (simp <;> omega) | simp [*]) (.cons rfl (by first | rfl | exact inte (by omega) | (simp; done) | (simp <;> omega) | simp [*]) (.cons rfl (by first | rfl | exact inte (by omega) | (simp; done) | (simp <;> omega) | simp [*]) (.cons rfl (by first | rfl | exact inte (by omega) | (simp; done) | (simp <;> omega) | simp [*]) (.cons rfl (by first | rfl | exact inte (by omega) | (simp; done) | (simp <;> omega) | simp [*]) (.cons rfl (by first | rfl | exact inte (by omega) | (simp; done) | (simp <;> omega) | simp [*]) (.cons rfl (by first | rfl | exact inte (by omega) | (simp; done) | (simp <;> omega) | simp [*]) (.cons rfl (by first | rfl | exact inte (by omega) | (simp; done) | (simp <;> omega) | simp [*]) (.cons rfl (by first | rfl | exact inte (by omega) | (simp; done) | (simp <;> omega) | simp [*]) (.cons rfl (by first | rfl | exact inte (by omega) | (simp; done) | (simp <;> omega) | simp [*]) (.cons rfl (by first | rfl | exact inte (by omega) | (simp; done) | (simp <;> omega) | simp [*]) (.cons rfl (by first | rfl | exact inte (by omega) | (simp; done) | (simp <;> omega) | simp [*]) (.cons rfl (by first | rfl | exact inte (by omega) | (simp; done) | (simp <;> omega) | simp [*]) (.cons rfl (by first | rfl | exact inte (by omega) | (simp; done) | (simp <;> omega) | simp [*]) (.cons rfl (by first | rfl | exact inte (by omega) | (simp; done) | (simp <;> omega) | simp [*]) (.cons rfl (by first | rfl | exact inte (by omega) | (simp; done) | (simp <;> omega) | simp [*]) (.cons rfl (by first | rfl | exact inte (by omega) | (simp; done) | (simp <;> omega) | simp [*]) (.cons rfl (by first | rfl | exact inte (by omega) | (simp; done) | (simp <;> omega) | simp [*]) (.cons rfl (by first | rfl | exact inte (by omega) | (simp; done) | (simp <;> omega) | simp [*]) (.cons rfl (by first | rfl | exact inte (by omega) | (simp; done) | (simp <;> omega) | simp [*]) (.cons rfl (by first | rfl | exact inte (by omega) | (simp; done) | (simp <;> omega) | simp [*]) (.cons rfl (by first | rfl | exact inte (by omega) | (simp; done) | (simp <;> omega) | simp [*]) (.cons rfl (by first | rfl | exact inte (by omega) | (simp; done) | (simp <;> omega) | simp [*]) (.cons rfl (by first | rfl | exact inte (by omega) | (simp; done) | (simp <;> omega) | simp [*]) (.cons rfl (by first | rfl | exact inte (by omega) | (simp; done) | (simp <;> omega) | simp [*]) (.cons rfl (by first | rfl | exact inte (by omega) | (simp; done) | (simp <;> omega) | simp [*]) (.cons rfl (by first | rfl | exact inte (by omega) | (simp; done) | (simp <;> omega) | simp [*]) (.cons rfl (by first | rfl | exact inte (by omega) | (simp; done) | (simp <;> omega) | simp [*]) (.cons rfl (by first | rfl | exact inte (by omega) | (simp; done) | (simp <;> omega) | simp [*]) (.cons rfl (by first | rfl | exact inte (by omega) | (simp; done) | (simp <;> omega) | simp [*]) (.cons rfl (by first | rfl | exact inte (by omega) | (simp; done) | (simp <;> omega) | simp [*]) (.cons rfl (by first | rfl | exact inte (by omega) | (simp; done) | (simp <;> omega) | simp [*]) (.cons rfl (by first | rfl | exact inte (by omega) | (simp; done) | (simp <;> omega) | simp [*]) (.cons rfl (by first | rfl | exact inte (by omega) | (simp; done) | (simp <;> omega) | simp [*]) (.cons rfl (by first | rfl | exact inte (by omega) | (simp; done) | (simp <;> omega) | simp [*]) (.cons rfl (by first | rfl | exact inte (by omega) | (simp; done) | (simp <;> omega) | simp [*]) (.cons rfl (by first | rfl | exact inte (by omega) | (simp; done) | (simp <;> omega) | simp [*]) (.cons rfl (by first | rfl | exact inte (by omega) | (simp; done) | (simp <;> omega) | simp [*]) (.cons rfl (by first | rfl | exact inte (by omega) | (simp; done) | (simp <;> omega) | simp [*]) (.cons rfl (by first | rfl | exact inte (by omega) | (simp; done) | (simp <;> omega) | simp [*]) (.cons rfl (by first | rfl | exact inte (by omega) | (simp; done) | (simp <;> omega) | simp [*]) (.cons rfl (by first | rfl | exact inte (by omega) | (simp; done) | (simp <;> omega) | simp [*]) (.cons rfl (by first | rfl | exact inte (by omega) | (simp; done) | (simp <;> omega) | simp [*]) (.cons rfl (by first | rfl | exact inte (by omega) | (simp; done) | (simp <;> omega) | simp [*]) (.cons rfl (by first | rfl | exact inte (by omega) | (simp; done) | (simp <;> omega) | simp [*]) (.cons rfl (by first | rfl | exact inte (by omega) | (simp; done) | (simp <;> omega) | simp [*]) (.cons rfl (by first | rfl | exact inte (by omega) | (simp; done) | (simp <;> omega) | simp [*]) (.cons rfl (by first | rfl | exact inte (by omega) | (simp; done) | (simp <;> omega) | simp [*]) (.cons rfl (by first | rfl | exact inte (by omega) | (simp; done) | (simp <;> omega) | simp [*]) (.cons rfl (by first | rfl | exact inte (by omega) | (simp; done) | (simp <;> omega) | simp [*]) (.cons rfl (by first | rfl | exact inte (by omega) | (simp; done) | (simp <;> omega) | simp [*]) (.cons rfl (by first | rfl | exact inte (by omega) | (simp; done) | (simp <;> omega) | simp [*]) (.cons rfl (by first | rfl | exact inte (by omega) | (simp; done) | (simp <;> omega) | simp [*]) (.cons rfl (by first | rfl | exact inte (by omega) | (simp; done) | (simp <;> omega) | simp [*]) (.cons rfl (by first | rfl | exact inte (by omega) | (simp; done) | (simp <;> omega) | simp [*]) (.cons rfl (by first | rfl | exact inte (by omega) | (simp; done) | (simp <;> omega) | simp [*]) (.cons rfl (by first | rfl | exact inte (by omega) | (simp; done) | (simp <;> omega) | simp [*]) (.cons rfl (by first | rfl | exact inte (by omega) | (simp; done) | (simp <;> omega) | simp [*]) (.cons rfl (by first | rfl | exact inte (by omega) | (simp; done) | (simp <;> omega) | simp [*]) (.cons rfl (by first | rfl | exact inte (by omega) | (simp; done) | (simp <;> omega) | simp [*]) (.cons rfl (by first | rfl | exact inte (by omega) | (simp; done) | (simp <;> omega) | simp [*]) (.cons rfl (by first | rfl | exact inte (by omega) | (simp; done) | (simp <;> omega) | simp [*]) (.cons rfl (by first | rfl | exact inte (by omega) | (simp; done) | (simp <;> omega) | simp [*]) (.cons rfl (by first | rfl | exact inte (by omega) | (simp; done) | (simp <;> omega) | simp [*]) (.cons rfl (by first | rfl | exact inte (by omega) | (simp; done) | (simp <;> omega) | simp [*]) (.cons rfl (by first | rfl | exact inte (by omega) | (simp; done) | (simp <;> omega) | simp [*]) (.cons rfl (by first | rfl | exact inte (by omega) | (simp; done) | (simp <;> omega) | simp [*]) (.cons rfl (by first | rfl | exact inte (by omega) | (simp; done) | (simp <;> omega) | simp [*]) (.cons rfl (by first | rfl | exact inte (by omega) | (simp; done) | (simp <;> omega) | simp [*]) (.cons rfl (by first | rfl | exact inte (by omega) | (simp; done) | (simp <;> omega) | simp [*]) (.cons rfl (by first | rfl | exact inte (by omega) | (simp; done) | (simp <;> omega) | simp [*]) (.cons rfl (by first | rfl | exact inte (by omega) | (simp; done) | (simp <;> omega) | simp [*]) (.cons rfl (by first | rfl | exact inte (by omega) | (simp; done) | (simp <;> omega) | simp [*]) (.cons rfl (by first | rfl | exact inte (by omega) | (simp; done) | (simp <;> omega) | simp [*]) (.nil _))))))))))))))))))))))))))))))))))))))))))))))))))))))))))))))))))))))))))))) (by repeat (first | exact Ent.nil _ | exact Ent.refl _ | (refine Ent.pick (by repeat (first | exact Pick.here | apply Pick.there)) ?_) | refine Ent.skip ?_))
      intro xx hj7
      refine k_blk_n ?_
      refine k_then_n ?_
      refine c_region ?_
      refine l_step (s_q rfl wn (q_move rfl) ?_)
      refine l_step (s_q rfl wn (q_add rfl rfl (by omega) (by omega)) ?_)
      refine l_step (s_q rfl wn (q_assign rfl) ?_)
      refine l_nil ?_
      refine k_then_n ?_
      exact t_next (⟨(x.d.1 + 1, (takeF x.d.2.1 (ps48.getD kk default)).1, xx, x.d.2.2.2.set kk true), none, 0, none, 0, none, 0⟩ : Lp _) ⟨⟨by simp only []; omega, ht3.trans hx2, ht2.hi, by rw [List.length_set]; exact hx4, .inr ht2, fun j hj => (congrFun (setS (tk := x.d.2.2.2) (k := kk) (by omega)) j).trans (by have hj' : j < x.d.1 + 1 - order_n := hj; by_cases e : j = kk <;> first | (rw [decide_eq_true e, Bool.or_true]; done) | (rw [hx6 j (by omega)]; rfl))⟩, by simp only []; omega⟩ (.cons rfl (by first | rfl | exact inte (by omega) | (simp; done) | (simp <;> omega) | simp [*]) (.cons rfl (by first | rfl | exact inte (by omega) | (simp; done) | (simp <;> omega) | simp [*]) (.cons rfl (by first | rfl | exact inte (by omega) | (simp; done) | (simp <;> omega) | simp [*]) (.cons rfl (by first | rfl | exact inte (by omega) | (simp; done) | (simp <;> omega) | simp [*]) (.cons rfl (by first | rfl | exact inte (by omega) | (simp; done) | (simp <;> omega) | simp [*]) (.cons rfl (by first | rfl | exact inte (by omega) | (simp; done) | (simp <;> omega) | simp [*]) (.cons rfl (by first | rfl | exact inte (by omega) | (simp; done) | (simp <;> omega) | simp [*]) (.cons rfl (by first | rfl | exact inte (by omega) | (simp; done) | (simp <;> omega) | simp [*]) (.cons rfl (by first | rfl | exact inte (by omega) | (simp; done) | (simp <;> omega) | simp [*]) (.nil _)))))))))) (by repeat (first | exact Ent.nil _ | exact Ent.refl _ | (refine Ent.pick (by repeat (first | exact Pick.here | apply Pick.there)) ?_) | refine Ent.skip ?_))
    · (try dsimp only [heapOf] at h2); try simp only [Bool.and_eq_true, Bool.or_eq_true, Bool.not_eq_true', Bool.and_eq_false_iff, Bool.or_eq_false_iff, Bool.not_eq_false', decide_eq_true_eq, decide_eq_false_iff_not, Bool.not_eq_eq_eq_not, Bool.not_true, Bool.not_false, Bool.not_eq_true, Bool.not_eq_false, beq_iff_eq, bne_iff_ne, ne_eq, Decidable.not_not] at h2
      refine c_exit ?_
      refine k_then_x ?_
      refine k_then_x ?_
      refine k_blk_x ?_
      refine k_then_n ?_
      refine c_seq ?_
      refine c_region ?_
      have hend : x.d.1 = order_n + ps48.length := by omega
      have hg := hx5.resolve_left (fun hh => by have := hx6 0 (by omega); rw [hh.2, rep_getD _ _ _ (by omega)] at this; cases this)
      have hc0 : x.d.2.2.2.count false = 0 := List.count_eq_zero.2 fun hm => by obtain ⟨q1, q2, q3⟩ := idx_props hm; have := hx6 _ (show x.d.2.2.2.idxOf false < x.d.1 - order_n by omega); rw [q2] at this; cases this
      have hdb : doneB x.d.2.1 = true := by rw [hg_all (by unfold cutW; omega) hg (by rw [hx4, cutF_len hcut48 (by omega)]), hc0]; rfl
      have hleft : x.d.2.1.left = 0 := by unfold doneB at hdb; simp only [Bool.and_eq_true, decide_eq_true_eq] at hdb; exact hdb.2
      have hby : x.d.2.1.b = s := all_bytes hg.toHG0 hleft
      refine t_hb (D := x.d.2.1) (X := x.d.2.2.1) hx3 (by repeat (first | exact Pick.here | apply Pick.there)) (by repeat (first | exact Pick.here | apply Pick.there)) fun hh1 hh2 hh3 => ?_
      refine l_step (s_q rfl wn (q_move rfl) ?_)
      refine l_step (s_fnb rfl wn Try.func45 rfl (by kernel_rfl) rfl (by repeat (first | exact Sel.nil | exact Pick.here | apply Sel.cons | apply Pick.there)) (fun ρ' hL => whole_spec b58 x.d.2.1 x.d.2.2.1 ρ' hh1) ?_)
      rintro _ _ (⟨hw, rfl, rfl⟩ | ⟨hw, a209, c209, rfl, rfl⟩)
      · exact absurd (hw.symm.trans ((wholeOk_eq hx3).trans hdb)) (by decide)
      try simp only [List.cons_append, List.nil_append]
      refine l_step (s_q rfl wn (q_move rfl) ?_)
      refine l_step (s_q rfl wn (q_extract rfl rfl) ?_)
      refine l_step (s_q rfl wn (q_extract rfl rfl) ?_)
      refine l_step (s_q rfl wn (q_assign rfl) ?_)
      refine l_step (s_q rfl wn (q_assign rfl) ?_)
      refine l_nil ?_
      refine k_then_n ?_
      refine c_seq ?_
      refine c_draw (m := 22) (bs := #[false, false, false, false, false, false, false, false, false, false, false, false, false, false, false, false, false, false, false, false, false, false]) [.row 5 1 a209 x.d.2.2.1.n1 c209 (x.d.2.1.b.flatMap encB), .row 4 1 (some ⟨b87, 0, none⟩) (((ps48.length : Int)).toNat) (((ps48.length : Int)).toNat) (x.d.2.2.2.flatMap encO), .row 95 6 (some ⟨b83, 0, none⟩) 1 1 ([(ps55.getD 0 default)].flatMap encPiece), .pts b58 (encHeap (⟨x.d.2.1.most, x.d.2.1.of, x.d.2.1.on, ⟨x.d.2.2.1.a1, x.d.2.2.1.n1, x.d.2.2.1.c1⟩, ⟨x.d.2.2.1.a2, x.d.2.2.1.n2, x.d.2.2.1.c2⟩, x.d.2.1.left⟩ : Heap)) 138, .row 4 1 x.d.2.2.1.a2 x.d.2.2.1.n2 x.d.2.2.1.c2 (x.d.2.1.there.flatMap encO), .row 5 1 x.d.2.2.1.a1 x.d.2.2.1.n1 x.d.2.2.1.c1 (x.d.2.1.b.flatMap encB), .row 95 6 a55 ps55.length c55 (ps55.flatMap encPiece), Bun (ps55.map (rowP 5)), .row 5 1 (some ⟨b53, 0, none⟩) 5 5 ([101, 108, 100, 101, 114].flatMap encB), .row 95 6 a48 ps48.length c48 (ps48.flatMap encPiece), Bun (ps48.map (rowP 5)), .pts b7 (encMark (⟨7, 2⟩ : Mark)) 87] (by kernel_rfl) rfl (by kernel_rfl) ?_
      refine r_take (i := 0) (bs' := #[true, false, false, false, false, false, false, false, false, false, false, false, false, false, false, false, false, false, false, false, false, false]) rfl (by kernel_rfl) (by kernel_rfl) (by kernel_rfl) (fun _ _ _ h => h) rfl wn (q_move rfl) (Hp.le_refl _) (by repeat (first | exact Ent.nil _ | exact Ent.refl _ | (refine Ent.pick (by repeat (first | exact Pick.here | apply Pick.there)) ?_) | refine Ent.skip ?_)) (by kernel_rfl) ?_
      refine r_take (i := 1) (bs' := #[true, true, false, false, false, false, false, false, false, false, false, false, false, false, false, false, false, false, false, false, false, false]) rfl (by kernel_rfl) (by kernel_rfl) (by kernel_rfl) (fun _ _ _ h => h) rfl wn (q_move rfl) (Hp.le_refl _) (by repeat (first | exact Ent.nil _ | exact Ent.refl _ | (refine Ent.pick (by repeat (first | exact Pick.here | apply Pick.there)) ?_) | refine Ent.skip ?_)) (by kernel_rfl) ?_
      refine r_take (i := 2) (bs' := #[true, true, true, false, false, false, false, false, false, false, false, false, false, false, false, false, false, false, false, false, false, false]) rfl (by kernel_rfl) (by kernel_rfl) (by kernel_rfl) (fun _ _ _ h => h) rfl (wy rfl rfl rfl) (q_move rfl) (Hp.le_refl _) (by repeat (first | exact Ent.nil _ | exact Ent.refl _ | (refine Ent.pick (by repeat (first | exact Pick.here | apply Pick.there)) ?_) | refine Ent.skip ?_)) (by kernel_rfl) ?_
      refine r_take (i := 3) (bs' := #[true, true, true, true, false, false, false, false, false, false, false, false, false, false, false, false, false, false, false, false, false, false]) rfl (by kernel_rfl) (by kernel_rfl) (by kernel_rfl) (fun _ _ _ h => h) rfl (wy rfl rfl rfl) (q_tostr (bs := x.d.2.1.b) Try.underlying22 Try.underlying5 Try.underlying9 rfl (rd_row (by repeat (first | exact Pick.here | apply Pick.there)))) (Hp.le_refl _) (by repeat (first | exact Ent.nil _ | exact Ent.refl _ | (refine Ent.pick (by repeat (first | exact Pick.here | apply Pick.there)) ?_) | refine Ent.skip ?_)) (by kernel_rfl) ?_
      refine r_take (i := 4) (bs' := #[true, true, true, true, true, false, false, false, false, false, false, false, false, false, false, false, false, false, false, false, false, false]) rfl (by kernel_rfl) (by kernel_rfl) (by kernel_rfl) (fun _ _ _ h => h) rfl (wy rfl rfl rfl) (q_move rfl) (Hp.le_refl _) (by repeat (first | exact Ent.nil _ | exact Ent.refl _ | (refine Ent.pick (by repeat (first | exact Pick.here | apply Pick.there)) ?_) | refine Ent.skip ?_)) (by kernel_rfl) ?_
      refine r_take (i := 5) (bs' := #[true, true, true, true, true, true, false, false, false, false, false, false, false, false, false, false, false, false, false, false, false, false]) rfl (by kernel_rfl) (by kernel_rfl) (by kernel_rfl) (fun _ _ _ h => h) rfl (wy rfl rfl rfl) (q_tostr (bs := s) Try.underlying22 Try.underlying5 Try.underlying9 rfl (by first | assumption | exact rd_ro (by assumption) | exact rd_bun (L := ps55.map (rowP 5)) (by repeat (first | exact Pick.here | apply Pick.there)) (in_map _ (by first | assumption | omega | (simp only [List.length_cons, List.length_nil]; omega) | decide) rfl) | exact rd_bun (L := ps48.map (rowP 5)) (by repeat (first | exact Pick.here | apply Pick.there)) (in_map _ (by first | assumption | omega | (simp only [List.length_cons, List.length_nil]; omega) | decide) rfl) | exact rd_row (by repeat (first | exact Pick.here | apply Pick.there)))) (Hp.le_refl _) (by repeat (first | exact Ent.nil _ | exact Ent.refl _ | (refine Ent.pick (by repeat (first | exact Pick.here | apply Pick.there)) ?_) | refine Ent.skip ?_)) (by kernel_rfl) ?_
      refine r_take (i := 6) (bs' := #[true, true, true, true, true, true, true, false, false, false, false, false, false, false, false, false, false, false, false, false, false, false]) rfl (by kernel_rfl) (by kernel_rfl) (by kernel_rfl) (fun _ _ _ h => h) rfl (wy rfl rfl rfl) (q_eqlsB (p := x.d.2.1.b) (q := s) rfl rfl) (Hp.le_refl _) (by repeat (first | exact Ent.nil _ | exact Ent.refl _ | (refine Ent.pick (by repeat (first | exact Pick.here | apply Pick.there)) ?_) | refine Ent.skip ?_)) (by kernel_rfl) ?_
      refine r_take (i := 7) (bs' := #[true, true, true, true, true, true, true, true, false, false, false, false, false, false, false, false, false, false, false, false, false, false]) rfl (by kernel_rfl) (by kernel_rfl) (by kernel_rfl) (fun _ _ _ h => h) rfl wn (q_pick rfl rfl rfl) (Hp.le_refl _) (by repeat (first | exact Ent.nil _ | exact Ent.refl _ | (refine Ent.pick (by repeat (first | exact Pick.here | apply Pick.there)) ?_) | refine Ent.skip ?_)) (by kernel_rfl) ?_
      refine r_take (i := 8) (bs' := #[true, true, true, true, true, true, true, true, true, false, false, false, false, false, false, false, false, false, false, false, false, false]) rfl (by kernel_rfl) (by kernel_rfl) (by kernel_rfl) (fun _ _ _ h => h) rfl wn (q_move rfl) (Hp.le_refl _) (by repeat (first | exact Ent.nil _ | exact Ent.refl _ | (refine Ent.pick (by repeat (first | exact Pick.here | apply Pick.there)) ?_) | refine Ent.skip ?_)) (by kernel_rfl) ?_
      refine r_takeg (i := 9) (b := (decide (x.d.2.1.b = s))) (bs' := #[true, true, true, true, true, true, true, true, true, true, false, false, false, false, false, false, false, false, false, false, false, false]) rfl (by kernel_rfl) (by kernel_rfl) (by kernel_rfl) (fun _ _ _ h => h) rfl (ask_t rfl rfl) (fun hb => q_move rfl) (Hp.le_refl _) (by repeat (first | exact Ent.nil _ | exact Ent.refl _ | (refine Ent.pick (by repeat (first | exact Pick.here | apply Pick.there)) ?_) | refine Ent.skip ?_)) (by kernel_rfl) ?_
      refine r_takeg (i := 11) (b := (decide (x.d.2.1.b = s))) (bs' := #[true, true, true, true, true, true, true, true, true, true, false, true, false, false, false, false, false, false, false, false, false, false]) rfl (by kernel_rfl) (by kernel_rfl) (by kernel_rfl) (fun _ _ _ h => h) rfl (ask_t rfl rfl) (fun hb => q_loadpa (vs := encMark (⟨7, 2⟩ : Mark)) ag_87 rfl (by repeat (first | exact Pick.here | apply Pick.there)) rfl) (Hp.le_refl _) (by repeat (first | exact Ent.nil _ | exact Ent.refl _ | (refine Ent.pick (by repeat (first | exact Pick.here | apply Pick.there)) ?_) | refine Ent.skip ?_)) (by kernel_rfl) ?_
      refine r_one (i := 10) (bs' := #[true, true, true, true, true, true, true, true, true, true, true, true, false, false, false, false, false, false, false, false, false, false]) (by kernel_rfl) (by kernel_rfl) ?_
      refine o_step rfl (s_fnrg (b := (decide (x.d.2.1.b = s))) rfl (ask_t rfl rfl) Try.func46 rfl (by kernel_rfl) (fun hb => (.cons rfl (gd_t hb) (.nil _) : EnvLe [(221, .pointer (some ⟨b58, 0, none⟩))] _)) rfl (by repeat (first | exact Sel.nil | exact Pick.here | apply Sel.cons | apply Pick.there)) (fun hb ρ' hL => mark_spec b58 x.d.2.1 x.d.2.2.1 ρ') ?_)
      refine r_cont (Hp.le_refl _) (by repeat (first | exact Ent.nil _ | exact Ent.refl _ | (refine Ent.pick (by repeat (first | exact Pick.here | apply Pick.there)) ?_) | refine Ent.skip ?_)) ?_
      refine r_takeg (i := 12) (b := (decide (x.d.2.1.b = s))) (bs' := #[true, true, true, true, true, true, true, true, true, true, true, true, true, false, false, false, false, false, false, false, false, false]) rfl (by kernel_rfl) (by kernel_rfl) (by kernel_rfl) (fun _ _ _ h => h) rfl (ask_t rfl rfl) (fun hb => OpQ.env (.cons rfl (gd_t hb) (.cons rfl (gd_t hb) (.nil _)) : EnvLe [(222, .agg (encMark (markOf x.d.2.1)).toArray), (223, .agg (encMark (⟨7, 2⟩ : Mark)).toArray)] _) (q_eqlst (offs := [0, 1]) (la := [(markOf x.d.2.1).Index, (markOf x.d.2.1).Term]) (lb := [(⟨7, 2⟩ : Mark).Index, (⟨7, 2⟩ : Mark).Term]) (by kernel_rfl) rfl rfl (by intro o ho; simp only [List.mem_cons, List.not_mem_nil, or_false] at ho; rcases ho with rfl | rfl <;> exact ⟨_, _, _, rfl, rfl⟩) rfl rfl)) (Hp.le_refl _) (by repeat (first | exact Ent.nil _ | exact Ent.refl _ | (refine Ent.pick (by repeat (first | exact Pick.here | apply Pick.there)) ?_) | refine Ent.skip ?_)) (by kernel_rfl) ?_
      refine r_take (i := 13) (bs' := #[true, true, true, true, true, true, true, true, true, true, true, true, true, true, false, false, false, false, false, false, false, false]) rfl (by kernel_rfl) (by kernel_rfl) (by kernel_rfl) (fun _ _ _ h => h) rfl wn (q_pick_and rfl rfl rfl (fun h => h)) (Hp.le_refl _) (by repeat (first | exact Ent.nil _ | exact Ent.refl _ | (refine Ent.pick (by repeat (first | exact Pick.here | apply Pick.there)) ?_) | refine Ent.skip ?_)) (by kernel_rfl) ?_
      refine r_take (i := 14) (bs' := #[true, true, true, true, true, true, true, true, true, true, true, true, true, true, true, false, false, false, false, false, false, false]) rfl (by kernel_rfl) (by kernel_rfl) (by kernel_rfl) (fun _ _ _ h => h) rfl wn (q_move rfl) (Hp.le_refl _) (by repeat (first | exact Ent.nil _ | exact Ent.refl _ | (refine Ent.pick (by repeat (first | exact Pick.here | apply Pick.there)) ?_) | refine Ent.skip ?_)) (by kernel_rfl) ?_
      refine r_takeg (i := 15) (b := ((decide (x.d.2.1.b = s)) && (decide ([(markOf x.d.2.1).Index, (markOf x.d.2.1).Term] = [(⟨7, 2⟩ : Mark).Index, (⟨7, 2⟩ : Mark).Term])))) (bs' := #[true, true, true, true, true, true, true, true, true, true, true, true, true, true, true, true, false, false, false, false, false, false]) rfl (by kernel_rfl) (by kernel_rfl) (by kernel_rfl) (fun _ _ _ h => h) rfl (ask_t rfl rfl) (fun hb => q_move rfl) (Hp.le_refl _) (by repeat (first | exact Ent.nil _ | exact Ent.refl _ | (refine Ent.pick (by repeat (first | exact Pick.here | apply Pick.there)) ?_) | refine Ent.skip ?_)) (by kernel_rfl) ?_
      refine r_takeg (i := 17) (b := ((decide (x.d.2.1.b = s)) && (decide ([(markOf x.d.2.1).Index, (markOf x.d.2.1).Term] = [(⟨7, 2⟩ : Mark).Index, (⟨7, 2⟩ : Mark).Term])))) (bs' := #[true, true, true, true, true, true, true, true, true, true, true, true, true, true, true, true, false, true, false, false, false, false]) rfl (by kernel_rfl) (by kernel_rfl) (by kernel_rfl) (fun _ _ _ h => h) rfl (ask_t rfl rfl) (fun hb => q_move rfl) (Hp.le_refl _) (by repeat (first | exact Ent.nil _ | exact Ent.refl _ | (refine Ent.pick (by repeat (first | exact Pick.here | apply Pick.there)) ?_) | refine Ent.skip ?_)) (by kernel_rfl) ?_
      refine r_takeg (i := 18) (b := ((decide (x.d.2.1.b = s)) && (decide ([(markOf x.d.2.1).Index, (markOf x.d.2.1).Term] = [(⟨7, 2⟩ : Mark).Index, (⟨7, 2⟩ : Mark).Term])))) (bs' := #[true, true, true, true, true, true, true, true, true, true, true, true, true, true, true, true, false, true, true, false, false, false]) rfl (by kernel_rfl) (by kernel_rfl) (by kernel_rfl) (fun _ _ _ h => h) rfl (ask_t rfl rfl) (fun hb => OpQ.env (.cons rfl (gd_t hb) (.nil _) : EnvLe [(229, .slice s_a s_n s_c)] _) (q_len Try.underlying22 rfl)) (Hp.le_refl _) (by repeat (first | exact Ent.nil _ | exact Ent.refl _ | (refine Ent.pick (by repeat (first | exact Pick.here | apply Pick.there)) ?_) | refine Ent.skip ?_)) (by kernel_rfl) ?_
      refine r_one (i := 16) (bs' := #[true, true, true, true, true, true, true, true, true, true, true, true, true, true, true, true, true, true, true, false, false, false]) (by kernel_rfl) (by kernel_rfl) ?_
      refine o_step rfl (s_fnrg (b := ((decide (x.d.2.1.b = s)) && (decide ([(markOf x.d.2.1).Index, (markOf x.d.2.1).Term] = [(⟨7, 2⟩ : Mark).Index, (⟨7, 2⟩ : Mark).Term])))) rfl (ask_t rfl rfl) Try.func47 rfl (by kernel_rfl) (fun hb => (.cons rfl (gd_t hb) (.nil _) : EnvLe [(227, .pointer (some ⟨b58, 0, none⟩))] _)) rfl (by repeat (first | exact Sel.nil | exact Pick.here | apply Sel.cons | apply Pick.there)) (fun hb ρ' hL => missing_spec b58 x.d.2.1 x.d.2.2.1 ρ' (by first | assumption | omega | simp)) ?_)
      refine r_cont (Hp.le_refl _) (by repeat (first | exact Ent.nil _ | exact Ent.refl _ | (refine Ent.pick (by repeat (first | exact Pick.here | apply Pick.there)) ?_) | refine Ent.skip ?_)) ?_
      refine r_takeg (i := 19) (b := ((decide (x.d.2.1.b = s)) && (decide ([(markOf x.d.2.1).Index, (markOf x.d.2.1).Term] = [(⟨7, 2⟩ : Mark).Index, (⟨7, 2⟩ : Mark).Term])))) (bs' := #[true, true, true, true, true, true, true, true, true, true, true, true, true, true, true, true, true, true, true, true, false, false]) rfl (by kernel_rfl) (by kernel_rfl) (by kernel_rfl) (fun _ _ _ h => h) rfl (ask_t rfl rfl) (fun hb => OpQ.env (.cons rfl (gd_t hb) (.cons rfl (gd_t hb) (.nil _)) : EnvLe [(228, .int .i64 (missingI x.d.2.1)), (230, .int .i64 (s_n : Int))] _) (q_eql rfl rfl)) (Hp.le_refl _) (by repeat (first | exact Ent.nil _ | exact Ent.refl _ | (refine Ent.pick (by repeat (first | exact Pick.here | apply Pick.there)) ?_) | refine Ent.skip ?_)) (by kernel_rfl) ?_
      refine r_take (i := 20) (bs' := #[true, true, true, true, true, true, true, true, true, true, true, true, true, true, true, true, true, true, true, true, true, false]) rfl (by kernel_rfl) (by kernel_rfl) (by kernel_rfl) (fun _ _ _ h => h) rfl wn (q_pick_and rfl rfl rfl (fun h => h)) (Hp.le_refl _) (by repeat (first | exact Ent.nil _ | exact Ent.refl _ | (refine Ent.pick (by repeat (first | exact Pick.here | apply Pick.there)) ?_) | refine Ent.skip ?_)) (by kernel_rfl) ?_
      refine r_take (i := 21) (bs' := #[true, true, true, true, true, true, true, true, true, true, true, true, true, true, true, true, true, true, true, true, true, true]) rfl (by kernel_rfl) (by kernel_rfl) (by kernel_rfl) (fun _ _ _ h => h) rfl wn (q_assign rfl) (Hp.le_refl _) (by repeat (first | exact Ent.nil _ | exact Ent.refl _ | (refine Ent.pick (by repeat (first | exact Pick.here | apply Pick.there)) ?_) | refine Ent.skip ?_)) (by kernel_rfl) ?_
      refine r_done (by kernel_rfl) ?_
      refine k_then_n ?_
      refine c_ret ?_
      exact t_ret [] rfl (.tmp rfl .nil) rfl (Hp.le_refl _) ⟨rfl, boole (by rw [hby, show markOf x.d.2.1 = ⟨7, 2⟩ from by unfold markOf; rw [hg.on]; exact hg.mkd, missing_full hx3 hleft, hby]; simp [hs_n]), rfl⟩ (by (repeat refine Ent.skip ?_); exact Ent.refl _)
end Go.Chk.J

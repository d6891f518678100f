/-
  Package dispatch, walked.
-/
import Derived.Test.YteajafkmnhikoaaDspP
import Derived.Test.YteajafkmnhikoaaDspL
import Derived.Test.YteajafkmnhikoaaProg
set_option maxRecDepth 100000
set_option maxHeartbeats 4000000
set_option linter.unusedSimpArgs false
set_option linter.unusedVariables false
namespace Go.Dsp
open Go Go.SL Go.Proofs Go.Dsp.L
attribute [local irreducible] Go.SL.Ent
theorem ag_100 : aggSize Try.prog 100 = some 5 := by kernel_rfl
theorem ag_103 : aggSize Try.prog 103 = some 4 := by kernel_rfl
theorem ag_30 : aggSize Try.prog 30 = some 4 := by kernel_rfl
theorem ag_34 : aggSize Try.prog 34 = some 6 := by kernel_rfl
theorem eo_30 : elemOk Try.prog 30 4 32 = true := by kernel_rfl
theorem eo_39 : elemOk Try.prog 39 7 72 = true := by kernel_rfl
theorem fo_100_0 : fieldOff Try.prog 100 0 = some (0, 30) := by kernel_rfl
theorem fo_100_1 : fieldOff Try.prog 100 1 = some (4, 3) := by kernel_rfl
theorem fo_103_0 : fieldOff Try.prog 103 0 = some (0, 3) := by kernel_rfl
theorem fo_103_1 : fieldOff Try.prog 103 1 = some (1, 3) := by kernel_rfl
theorem fo_103_2 : fieldOff Try.prog 103 2 = some (2, 3) := by kernel_rfl
theorem fo_103_3 : fieldOff Try.prog 103 3 = some (3, 4) := by kernel_rfl
theorem fo_30_0 : fieldOff Try.prog 30 0 = some (0, 3) := by kernel_rfl
theorem fo_30_2 : fieldOff Try.prog 30 2 = some (2, 3) := by kernel_rfl
theorem fo_34_0 : fieldOff Try.prog 34 0 = some (0, 3) := by kernel_rfl
theorem fo_34_1 : fieldOff Try.prog 34 1 = some (1, 3) := by kernel_rfl
theorem fo_34_4 : fieldOff Try.prog 34 4 = some (4, 3) := by kernel_rfl
theorem fo_34_5 : fieldOff Try.prog 34 5 = some (5, 4) := by kernel_rfl
theorem fo_98_0 : fieldOff Try.prog 98 0 = some (0, 3) := by kernel_rfl
theorem fo_98_1 : fieldOff Try.prog 98 1 = some (1, 3) := by kernel_rfl
theorem fo_98_2 : fieldOff Try.prog 98 2 = some (2, 95) := by kernel_rfl
theorem fo_98_3 : fieldOff Try.prog 98 3 = some (3, 96) := by kernel_rfl
theorem pl_100 : placesOf Try.prog 100 = some [(0, 4), (4, 1)] := by kernel_rfl
theorem pl_39 : placesOf Try.prog 39 = some [(0, 1), (1, 1), (2, 1), (3, 1), (4, 3)] := by kernel_rfl
theorem pl_98 : placesOf Try.prog 98 = some [(0, 1), (1, 1), (2, 1), (3, 1)] := by kernel_rfl
theorem sc_3 : isScalar Try.prog 3 = true := by kernel_rfl
theorem sc_4 : isScalar Try.prog 4 = true := by kernel_rfl
theorem sc_95 : isScalar Try.prog 95 = true := by kernel_rfl
theorem sc_96 : isScalar Try.prog 96 = true := by kernel_rfl
theorem sz_100 : sizeIs Try.prog 100 = some 5 := by kernel_rfl
theorem sz_103 : sizeIs Try.prog 103 = some 4 := by kernel_rfl
theorem sz_3 : sizeIs Try.prog 3 = some 1 := by kernel_rfl
theorem sz_30 : sizeIs Try.prog 30 = some 4 := by kernel_rfl
theorem sz_34 : sizeIs Try.prog 34 = some 6 := by kernel_rfl
theorem sz_4 : sizeIs Try.prog 4 = some 1 := by kernel_rfl
theorem sz_95 : sizeIs Try.prog 95 = some 1 := by kernel_rfl
theorem zc_100 : zeroCs Try.prog 100 = some [.int .i64 0, .int .i64 0, .int .i64 0, .int .i64 0, .int .i64 0] := by kernel_rfl
theorem zc_39 : zeroCs Try.prog 39 = some [.int .i64 0, .int .i64 0, .int .i64 0, .bool false, .int .i64 0, .int .i64 0, .slice none 0 0] := by kernel_rfl
theorem zc_98 : zeroCs Try.prog 98 = some [.int .i64 0, .int .i64 0, .map none, .map none] := by kernel_rfl
theorem zi_100 : (Try.prog.info? 100).bind (·.zero) = some ((aggV encSent) zSent) := by kernel_rfl
theorem zi_103 : (Try.prog.info? 103).bind (·.zero) = some ((aggV encTold) zTold) := by kernel_rfl

theorem keysD_spec (mb : Nat) (ρ : Hp) : Spec0 Try.prog 49 #[.map (some mb)] ρ [] (fun v Γ' => ∃ c, v = .func (.func 55) #[] #[.pointer (some ⟨c, 0, none⟩)] ∧ Γ' = [.pts c [.map (some mb)] 95]) := by
  refine spec_of (n := 4) (vs := [_]) (σ := [(0, _)]) Try.func49 rfl rfl rfl rfl fun E Δ => ?_
  rw [List.nil_append]
  refine c_seq ?_
  refine c_region ?_
  refine l_step (s_s rfl wn (s_box (cs := [.map (some mb)]) rfl rfl) ?_)
  rintro _ _ ⟨b1, rfl, rfl⟩
  refine l_step (s_q rfl wn (q_assign rfl) ?_)
  refine l_nil ?_
  refine k_then_n ?_
  refine c_seq ?_
  refine c_region ?_
  refine l_step (s_q rfl wn (q_makeFunc rfl rfl) ?_)
  refine l_step (s_q rfl wn (q_assign rfl) ?_)
  refine l_nil ?_
  refine k_then_n ?_
  refine c_ret ?_
  exact t_ret [.pts b1 [.map (some mb)] 95] rfl (.tmp rfl .nil) rfl (Hp.le_refl _) ⟨rfl, b1, rfl, rfl⟩ (by repeat (first | exact Ent.nil _ | exact Ent.refl _ | (refine Ent.pick (by repeat (first | exact Pick.here | apply Pick.there)) ?_) | refine Ent.skip ?_))

theorem new_spec (span : Int) (ρ : Hp) : Spec0 Try.prog 12 #[.int .i64 span] ρ [] (fun v Γ' => ((1 ≤ span ∧ span ≤ 1048576) ∧ ∃ b bo bt, v = .tuple #[.pointer (some ⟨b, 0, none⟩), .int .i64 0] ∧ Γ' = [.pts b (encDisp ⟨span, 0, some bo, some bt⟩) 98, MP (Value.int .i64) (aggV encSent) bo [], MP (Value.int .i64) (aggV encTold) bt []]) ∨ (¬ (1 ≤ span ∧ span ≤ 1048576) ∧ v = .tuple #[.pointer none, .int .i64 2] ∧ Γ' = [])) := by
  refine spec_of (n := 15) (vs := [_]) (σ := [(0, _)]) Try.func12 rfl rfl rfl rfl fun E Δ => ?_
  rw [List.nil_append]
  refine c_seq ?_
  refine c_region ?_
  refine l_step (s_q rfl wn (q_assign rfl) ?_)
  refine l_step (s_q rfl wn (q_assign rfl) ?_)
  refine l_nil ?_
  refine k_then_n ?_
  refine c_seq ?_
  refine c_seq ?_
  refine c_region ?_
  refine l_step (s_q rfl wn (q_move rfl) ?_)
  refine l_step (s_q rfl wn (q_lss rfl rfl) ?_)
  refine l_step (s_q rfl wn (q_move rfl) ?_)
  refine l_step (s_qg rfl (ask_f rfl rfl) (b := (!(decide (span < 1)))) (fun hb => q_move rfl) ?_)
  refine l_step (s_qg rfl (ask_f rfl rfl) (b := (!(decide (span < 1)))) (fun hb => OpQ.env (.cons rfl (gd_t hb) (.nil _) : EnvLe [(7, .int .i64 span)] _) (q_gtr rfl rfl)) ?_)
  refine l_step (s_q rfl wn (q_pick_or rfl rfl rfl (fun h => by first | (rw [h]; rfl) | exact congrArg not h)) ?_)
  refine l_nil ?_
  refine k_then_n ?_
  refine c_cond rfl (fun h0 => ?_) (fun h0 => ?_)
  · try simp only [Bool.and_eq_true, Bool.or_eq_true, Bool.not_eq_true', Bool.and_eq_false_iff, Bool.or_eq_false_iff, Bool.not_eq_false', decide_eq_true_eq, decide_eq_false_iff_not, Bool.not_eq_eq_eq_not, Bool.not_true, Bool.not_false, Bool.not_eq_true, Bool.not_eq_false, beq_iff_eq, bne_iff_ne, ne_eq, Decidable.not_not] at h0
    have hb : ¬ (1 ≤ span ∧ span ≤ 1048576) := by omega
    refine c_seq ?_
    refine c_region ?_
    refine l_step (s_q rfl wn (q_assign rfl) ?_)
    refine l_step (s_q rfl wn (q_assign rfl) ?_)
    refine l_nil ?_
    refine k_then_n ?_
    refine c_ret ?_
    refine k_then_r ?_
    exact t_ret [] rfl (.tmp rfl (.tmp rfl .nil)) rfl (Hp.le_refl _) ⟨rfl, .inr ⟨hb, rfl, rfl⟩⟩ (by (repeat refine Ent.skip ?_); exact Ent.refl _)
  · try simp only [Bool.and_eq_true, Bool.or_eq_true, Bool.not_eq_true', Bool.and_eq_false_iff, Bool.or_eq_false_iff, Bool.not_eq_false', decide_eq_true_eq, decide_eq_false_iff_not, Bool.not_eq_eq_eq_not, Bool.not_true, Bool.not_false, Bool.not_eq_true, Bool.not_eq_false, beq_iff_eq, bne_iff_ne, ne_eq, Decidable.not_not] at h0
    have hb : 1 ≤ span ∧ span ≤ 1048576 := by omega
    refine c_skip ?_
    refine k_then_n ?_
    refine c_seq ?_
    refine c_region ?_
    refine l_step (s_q rfl wn (q_move rfl) ?_)
    refine l_step (s_s rfl wn (s_makeMap (ek := (Value.int .i64)) (ev := (aggV encSent))) ?_)
    rintro _ _ ⟨b11, rfl, rfl⟩
    refine l_step (s_s rfl wn (s_makeMap (ek := (Value.int .i64)) (ev := (aggV encTold))) ?_)
    rintro _ _ ⟨b12, rfl, rfl⟩
    refine l_step (s_q rfl wn (q_build (cs := encDisp (⟨span, 0, (some b11), (some b12)⟩ : Disp)) zc_98 pl_98 rfl rfl) ?_)
    refine l_step (s_s rfl wn (s_box (cs := encDisp (⟨span, 0, (some b11), (some b12)⟩ : Disp)) rfl rfl) ?_)
    rintro _ _ ⟨b14, rfl, rfl⟩
    refine l_step (s_q rfl wn (q_assign rfl) ?_)
    refine l_step (s_q rfl wn (q_assign rfl) ?_)
    refine l_nil ?_
    refine k_then_n ?_
    refine c_ret ?_
    exact t_ret [.pts b14 (encDisp (⟨span, 0, (some b11), (some b12)⟩ : Disp)) 98, MP (Value.int .i64) (aggV encSent) b11 [], MP (Value.int .i64) (aggV encTold) b12 []] rfl (.tmp rfl (.tmp rfl .nil)) rfl (Hp.le_refl _) ⟨rfl, .inl ⟨hb, b14, b11, b12, rfl, rfl⟩⟩ (by repeat (first | exact Ent.nil _ | exact Ent.refl _ | (refine Ent.pick (by repeat (first | exact Pick.here | apply Pick.there)) ?_) | refine Ent.skip ?_))

theorem sorted_spec (b : Nat) (d : DD) (ρ : Hp) (hw : ∀ k ∈ mkeys d.out, I64 k) (hl : d.out.length ≤ 1000000000) : Spec0 Try.prog 40 #[.pointer (some ⟨b, 0, none⟩)] ρ [.pts b (encDisp (⟨d.span, d.now, (some d.bo), (some d.bt)⟩ : Disp)) 98, MP (Value.int .i64) (aggV encSent) d.bo d.out, MP (Value.int .i64) (aggV encTold) d.bt d.told] (fun v Γ' => ∃ a c, v = .slice a d.out.length c ∧ Γ' = [.row 3 1 a d.out.length c ((sortI (mkeys d.out)).flatMap encI), .pts b (encDisp (⟨d.span, d.now, (some d.bo), (some d.bt)⟩ : Disp)) 98, MP (Value.int .i64) (aggV encSent) d.bo d.out, MP (Value.int .i64) (aggV encTold) d.bt d.told]) := by
  refine spec_of (n := 9) (vs := [_]) (σ := [(0, _)]) Try.func40 rfl rfl rfl rfl fun E Δ => ?_
  simp only [List.cons_append, List.nil_append]
  refine c_seq ?_
  refine c_region ?_
  refine l_step (s_q rfl wn (q_assign rfl) ?_)
  refine l_nil ?_
  refine k_then_n ?_
  refine c_seq ?_
  refine c_region ?_
  refine l_step (s_q rfl wn (q_move rfl) ?_)
  refine l_step (s_q rfl wn (q_nilCheck rfl) ?_)
  refine l_step (s_q rfl wn (q_fieldp rfl fo_98_2) ?_)
  refine l_step (s_q rfl wn (q_loadp (v := .map (some d.bo)) sc_95 rfl (by repeat (first | exact Pick.here | apply Pick.there)) rfl) ?_)
  refine l_step (s_fnb rfl wn Try.func49 rfl (by kernel_rfl) rfl (by repeat (first | exact Sel.nil | exact Pick.here | apply Sel.cons | apply Pick.there)) (fun ρ' hL => keysD_spec d.bo ρ') ?_)
  rintro _ _ ⟨c7, rfl, rfl⟩
  try simp only [List.cons_append, List.nil_append]
  refine l_step (s_fnb rfl wn Try.func47 rfl (by kernel_rfl) rfl (by repeat (first | exact Sel.nil | exact Pick.here | apply Sel.cons | apply Pick.there)) (fun ρ' hL => keysD_sorted d.bo c7 d.out hw hl 95 ρ') ?_)
  rintro _ _ ⟨a8, c8, rfl, rfl⟩
  try simp only [List.cons_append, List.nil_append]
  refine l_step (s_q rfl wn (q_assign rfl) ?_)
  refine l_nil ?_
  refine k_then_n ?_
  refine c_ret ?_
  exact t_ret [.row 3 1 a8 d.out.length c8 ((sortI (mkeys d.out)).flatMap encI), .pts b (encDisp (⟨d.span, d.now, (some d.bo), (some d.bt)⟩ : Disp)) 98, MP (Value.int .i64) (aggV encSent) d.bo d.out, MP (Value.int .i64) (aggV encTold) d.bt d.told] rfl (.tmp rfl .nil) rfl (Hp.le_refl _) ⟨rfl, a8, c8, rfl, rfl⟩ (by repeat (first | exact Ent.nil _ | exact Ent.refl _ | (refine Ent.pick (by repeat (first | exact Pick.here | apply Pick.there)) ?_) | refine Ent.skip ?_))

theorem set_spec (b : Nat) (d : DD) (os_a : Option Addr) (os_n os_c : Nat) (os : List Ord) (hos_n : os.length = os_n) (ρ : Hp) (hlo : os_n ≤ 1000000) (hro : Ro ρ 4 os_a os_n os_c (os.flatMap encOrd)) : Spec0 Try.prog 13 #[.pointer (some ⟨b, 0, none⟩), .slice os_a os_n os_c] ρ [.pts b (encDisp (⟨d.span, d.now, (some d.bo), (some d.bt)⟩ : Disp)) 98, MP (Value.int .i64) (aggV encSent) d.bo d.out, MP (Value.int .i64) (aggV encTold) d.bt d.told] (fun v Γ' => ∃ bo, v = .tuple #[] ∧ Γ' = [.pts b (encDisp (⟨d.span, d.now, some bo, some d.bt⟩ : Disp)) 98, MP (Value.int .i64) (aggV encSent) bo (setF d.out os), MP (Value.int .i64) (aggV encTold) d.bt d.told]) := by
  refine spec_of (n := 46) (vs := [_, _]) (σ := [(0, _), (1, _)]) Try.func13 rfl rfl rfl rfl fun E Δ => ?_
  simp only [List.cons_append, List.nil_append]
  refine c_seq ?_
  refine c_region ?_
  refine l_step (s_s rfl wn (s_makeMap (ek := (Value.int .i64)) (ev := (aggV encSent))) ?_)
  rintro _ _ ⟨b10, rfl, rfl⟩
  refine l_step (s_q rfl wn (q_assign rfl) ?_)
  refine l_nil ?_
  refine k_then_n ?_
  refine c_seq ?_
  refine c_seq ?_
  refine c_region ?_
  refine l_step (s_q rfl wn (q_move rfl) ?_)
  refine l_step (s_q rfl wn (q_len Try.underlying40 rfl) ?_)
  refine l_step (s_q rfl wn (q_move rfl) ?_)
  refine l_nil ?_
  refine k_then_n ?_
  refine c_block ?_
  refine Tr.env (σ' := [(0, _), (4, _), (11, _), (12, _), (13, _)]) (.cons rfl rfl (.cons rfl rfl (.cons rfl rfl (.cons rfl rfl (.cons rfl rfl (.nil _)))))) ?_
  refine t_loop (ι := Lp (Nat)) (fun x => x.d ≤ os_n) (fun x => os_n - x.d) (fun x => [(0, .pointer (some ⟨b, 0, none⟩)), (4, .map (some b10)), (11, .slice os_a os_n os_c), (12, .int .i64 (os_n : Int)), (13, .int .i64 (x.d : Int))]) (fun x => MP (Value.int .i64) (aggV encSent) b10 ((os.take x.d).foldl (setStep d.out) []) :: .pts b (encDisp (⟨d.span, d.now, (some d.bo), (some d.bt)⟩ : Disp)) 98 :: MP (Value.int .i64) (aggV encSent) d.bo d.out :: MP (Value.int .i64) (aggV encTold) d.bt d.told :: Δ) (⟨0, none, 0, none, 0, none, 0⟩ : Lp _) (Nat.zero_le _) ?_ ?_ ?_
  · exact .cons rfl (by first | rfl | exact inte (by omega) | (simp; done) | (simp <;> omega) | simp [*]) (.cons rfl (by first | rfl | exact inte (by omega) | (simp; done) | (simp <;> omega) | simp [*]) (.cons rfl (by first | rfl | exact inte (by omega) | (simp; done) | (simp <;> omega) | simp [*]) (.cons rfl (by first | rfl | exact inte (by omega) | (simp; done) | (simp <;> omega) | simp [*]) (.cons rfl (by first | rfl | exact inte (by omega) | (simp; done) | (simp <;> omega) | simp [*]) (.nil _)))))
  · exact (by repeat (first | exact Ent.nil _ | exact Ent.refl _ | (refine Ent.pick (by repeat (first | exact Pick.here | apply Pick.there)) ?_) | refine Ent.skip ?_))
  intro x hx
  refine c_seq ?_
  refine c_region ?_
  refine l_step (s_q rfl wn (q_lss rfl rfl) ?_)
  refine l_nil ?_
  refine k_then_n ?_
  refine c_seq ?_
  refine c_cond rfl (fun h0 => ?_) (fun h0 => ?_)
  · try simp only [Bool.and_eq_true, Bool.or_eq_true, Bool.not_eq_true', Bool.and_eq_false_iff, Bool.or_eq_false_iff, Bool.not_eq_false', decide_eq_true_eq, decide_eq_false_iff_not, Bool.not_eq_eq_eq_not, Bool.not_true, Bool.not_false, Bool.not_eq_true, Bool.not_eq_false, beq_iff_eq, bne_iff_ne, ne_eq, Decidable.not_not] at h0
    refine c_skip ?_
    refine k_then_n ?_
    refine c_seq ?_
    refine c_block ?_
    refine c_seq ?_
    refine c_region ?_
    refine l_step (s_q rfl wn (q_indexe x.d Try.underlying40 sz_30 rfl rfl (by first | assumption | exact rd_ro (by assumption) | exact rd_row (by repeat (first | exact Pick.here | apply Pick.there))) (by decide) rfl (by first | assumption | omega | (simp only [List.length_cons, List.length_nil]; omega))) ?_)
    refine l_step (s_q rfl wn (q_loadea (vs := encOrd (os.getD x.d default)) (enc := encOrd) (xs := os) (j := x.d) (off := 0) ag_30 rfl (by first | assumption | exact rd_ro (by assumption) | exact rd_row (by repeat (first | exact Pick.here | apply Pick.there))) (fun _ => rfl) (by first | assumption | omega | (simp only [List.length_cons, List.length_nil]; omega)) (by simp [encOrd]) (by simp [encOrd]) rfl) ?_)
    refine l_step (s_s rfl wn (s_allocz (cs := encOrd zOrd) (by kernel_rfl)) ?_)
    rintro _ _ ⟨b6, rfl, rfl⟩
    refine l_step (s_s0 wn (s_storep (ws := encOrd (os.getD x.d default)) (cs := encOrd zOrd) (cs' := encOrd (os.getD x.d default)) rfl rfl rfl sz_30 (oneOrd _) (by simp [encOrd, encOrd]) rfl (by repeat (first | exact Pick.here | apply Pick.there))) ?_)
    rintro _ _ ⟨rfl, rfl⟩
    refine l_nil ?_
    refine k_then_n ?_
    refine c_seq ?_
    refine c_region ?_
    refine l_step (s_q rfl wn (q_loadpa (vs := encOrd (os.getD x.d default)) ag_30 rfl (by repeat (first | exact Pick.here | apply Pick.there)) rfl) ?_)
    refine l_step (s_q rfl wn (q_build (cs := encSent (⟨(os.getD x.d default), (-1)⟩ : Sent)) zc_100 pl_100 rfl rfl) ?_)
    refine l_step (s_s rfl wn (s_allocz (cs := encSent zSent) (by kernel_rfl)) ?_)
    rintro _ _ ⟨b7, rfl, rfl⟩
    refine l_step (s_s0 wn (s_storep (ws := encSent (⟨(os.getD x.d default), (-1)⟩ : Sent)) (cs := encSent zSent) (cs' := encSent (⟨(os.getD x.d default), (-1)⟩ : Sent)) rfl rfl rfl sz_100 (oneSent _) (by simp [encSent, encSent]) rfl (by repeat (first | exact Pick.here | apply Pick.there))) ?_)
    rintro _ _ ⟨rfl, rfl⟩
    refine l_nil ?_
    refine k_then_n ?_
    refine c_seq ?_
    refine c_seq ?_
    refine c_draw (m := 13) (bs := #[false, false, false, false, false, false, false, false, false, false, false, false, false]) [.pts b7 (encSent (⟨(os.getD x.d default), (-1)⟩ : Sent)) 100, .pts b6 (encOrd (os.getD x.d default)) 30, MP (Value.int .i64) (aggV encSent) b10 ((os.take x.d).foldl (setStep d.out) []), .pts b (encDisp (⟨d.span, d.now, (some d.bo), (some d.bt)⟩ : Disp)) 98, MP (Value.int .i64) (aggV encSent) d.bo d.out, MP (Value.int .i64) (aggV encTold) d.bt d.told] (by kernel_rfl) rfl (by kernel_rfl) ?_
    refine r_take (i := 0) (bs' := #[true, false, false, false, false, false, false, false, false, false, false, false, false]) rfl (by kernel_rfl) (by kernel_rfl) (by kernel_rfl) (fun _ _ _ h => h) rfl wn (q_move rfl) (Hp.le_refl _) (by repeat (first | exact Ent.nil _ | exact Ent.refl _ | (refine Ent.pick (by repeat (first | exact Pick.here | apply Pick.there)) ?_) | refine Ent.skip ?_)) (by kernel_rfl) ?_
    refine r_take (i := 1) (bs' := #[true, true, false, false, false, false, false, false, false, false, false, false, false]) rfl (by kernel_rfl) (by kernel_rfl) (by kernel_rfl) (fun _ _ _ h => h) rfl wn (q_nilCheck rfl) (Hp.le_refl _) (by repeat (first | exact Ent.nil _ | exact Ent.refl _ | (refine Ent.pick (by repeat (first | exact Pick.here | apply Pick.there)) ?_) | refine Ent.skip ?_)) (by kernel_rfl) ?_
    refine r_take (i := 2) (bs' := #[true, true, true, false, false, false, false, false, false, false, false, false, false]) rfl (by kernel_rfl) (by kernel_rfl) (by kernel_rfl) (fun _ _ _ h => h) rfl wn (q_fieldp rfl fo_98_2) (Hp.le_refl _) (by repeat (first | exact Ent.nil _ | exact Ent.refl _ | (refine Ent.pick (by repeat (first | exact Pick.here | apply Pick.there)) ?_) | refine Ent.skip ?_)) (by kernel_rfl) ?_
    refine r_take (i := 3) (bs' := #[true, true, true, true, false, false, false, false, false, false, false, false, false]) rfl (by kernel_rfl) (by kernel_rfl) (by kernel_rfl) (fun _ _ _ h => h) rfl wn (q_loadp (v := .map (some d.bo)) sc_95 rfl (by repeat (first | exact Pick.here | apply Pick.there)) rfl) (Hp.le_refl _) (by repeat (first | exact Ent.nil _ | exact Ent.refl _ | (refine Ent.pick (by repeat (first | exact Pick.here | apply Pick.there)) ?_) | refine Ent.skip ?_)) (by kernel_rfl) ?_
    refine r_take (i := 4) (bs' := #[true, true, true, true, true, false, false, false, false, false, false, false, false]) rfl (by kernel_rfl) (by kernel_rfl) (by kernel_rfl) (fun _ _ _ h => h) rfl wn (q_fieldp rfl fo_30_2) (Hp.le_refl _) (by repeat (first | exact Ent.nil _ | exact Ent.refl _ | (refine Ent.pick (by repeat (first | exact Pick.here | apply Pick.there)) ?_) | refine Ent.skip ?_)) (by kernel_rfl) ?_
    refine r_take (i := 5) (bs' := #[true, true, true, true, true, true, false, false, false, false, false, false, false]) rfl (by kernel_rfl) (by kernel_rfl) (by kernel_rfl) (fun _ _ _ h => h) rfl wn (q_loadp (v := .int .i64 ((os.getD x.d default).Cluster)) sc_3 rfl (by repeat (first | exact Pick.here | apply Pick.there)) rfl) (Hp.le_refl _) (by repeat (first | exact Ent.nil _ | exact Ent.refl _ | (refine Ent.pick (by repeat (first | exact Pick.here | apply Pick.there)) ?_) | refine Ent.skip ?_)) (by kernel_rfl) ?_
    refine r_take (i := 6) (bs' := #[true, true, true, true, true, true, true, false, false, false, false, false, false]) rfl (by kernel_rfl) (by kernel_rfl) (by kernel_rfl) (fun _ _ _ h => h) rfl wn (q_look2 (v := .agg (encSent (mgetD d.out ((os.getD x.d default).Cluster) zSent)).toArray) (ek := (Value.int .i64)) (ev := (aggV encSent)) (k := ((os.getD x.d default).Cluster)) (zv := zSent) Try.underlying95 (mkey_int Try.underlying3) zi_100 rfl rfl (by repeat (first | exact Pick.here | apply Pick.there)) rfl) (Hp.le_refl _) (by repeat (first | exact Ent.nil _ | exact Ent.refl _ | (refine Ent.pick (by repeat (first | exact Pick.here | apply Pick.there)) ?_) | refine Ent.skip ?_)) (by kernel_rfl) ?_
    refine r_take (i := 7) (bs' := #[true, true, true, true, true, true, true, true, false, false, false, false, false]) rfl (by kernel_rfl) (by kernel_rfl) (by kernel_rfl) (fun _ _ _ h => h) rfl wn (q_move rfl) (Hp.le_refl _) (by repeat (first | exact Ent.nil _ | exact Ent.refl _ | (refine Ent.pick (by repeat (first | exact Pick.here | apply Pick.there)) ?_) | refine Ent.skip ?_)) (by kernel_rfl) ?_
    refine r_take (i := 8) (bs' := #[true, true, true, true, true, true, true, true, true, false, false, false, false]) rfl (by kernel_rfl) (by kernel_rfl) (by kernel_rfl) (fun _ _ _ h => h) rfl wn (q_extract rfl rfl) (Hp.le_refl _) (by repeat (first | exact Ent.nil _ | exact Ent.refl _ | (refine Ent.pick (by repeat (first | exact Pick.here | apply Pick.there)) ?_) | refine Ent.skip ?_)) (by kernel_rfl) ?_
    refine r_take (i := 9) (bs' := #[true, true, true, true, true, true, true, true, true, true, false, false, false]) rfl (by kernel_rfl) (by kernel_rfl) (by kernel_rfl) (fun _ _ _ h => h) rfl wn (q_extract rfl rfl) (Hp.le_refl _) (by repeat (first | exact Ent.nil _ | exact Ent.refl _ | (refine Ent.pick (by repeat (first | exact Pick.here | apply Pick.there)) ?_) | refine Ent.skip ?_)) (by kernel_rfl) ?_
    refine r_one (i := 10) (bs' := #[true, true, true, true, true, true, true, true, true, true, true, false, false]) (by kernel_rfl) (by kernel_rfl) ?_
    refine o_step rfl (s_s rfl wn (s_allocz (cs := encSent zSent) (by kernel_rfl)) ?_)
    rintro _ _ ⟨b8, rfl, rfl⟩
    refine r_cont (Hp.le_refl _) (by repeat (first | exact Ent.nil _ | exact Ent.refl _ | (refine Ent.pick (by repeat (first | exact Pick.here | apply Pick.there)) ?_) | refine Ent.skip ?_)) ?_
    refine r_one (i := 11) (bs' := #[true, true, true, true, true, true, true, true, true, true, true, true, false]) (by kernel_rfl) (by kernel_rfl) ?_
    refine o_step rfl (s_s0 wn (s_storep (ws := encSent (mgetD d.out ((os.getD x.d default).Cluster) zSent)) (cs := encSent zSent) (cs' := encSent (mgetD d.out ((os.getD x.d default).Cluster) zSent)) rfl rfl rfl sz_100 (oneSent _) (by simp [encSent, encSent]) rfl (by repeat (first | exact Pick.here | apply Pick.there))) ?_)
    rintro _ _ ⟨rfl, rfl⟩
    refine r_cont (Hp.le_refl _) (by repeat (first | exact Ent.nil _ | exact Ent.refl _ | (refine Ent.pick (by repeat (first | exact Pick.here | apply Pick.there)) ?_) | refine Ent.skip ?_)) ?_
    refine r_take (i := 12) (bs' := #[true, true, true, true, true, true, true, true, true, true, true, true, true]) rfl (by kernel_rfl) (by kernel_rfl) (by kernel_rfl) (fun _ _ _ h => h) rfl wn (q_assign rfl) (Hp.le_refl _) (by repeat (first | exact Ent.nil _ | exact Ent.refl _ | (refine Ent.pick (by repeat (first | exact Pick.here | apply Pick.there)) ?_) | refine Ent.skip ?_)) (by kernel_rfl) ?_
    refine r_done (by kernel_rfl) ?_
    refine k_then_n ?_
    refine c_seq ?_
    refine c_region ?_
    refine l_step (s_q rfl wn (q_move rfl) ?_)
    refine l_step (s_q rfl wn (q_move rfl) ?_)
    refine l_step (s_qg rfl (ask_t rfl rfl) (b := (mhas d.out ((os.getD x.d default).Cluster))) (fun hb => q_fieldp rfl fo_100_0) ?_)
    refine l_step (s_qg rfl (ask_t rfl rfl) (b := (mhas d.out ((os.getD x.d default).Cluster))) (fun hb => OpQ.env (.cons rfl (gd_t hb) (.nil _) : EnvLe [(31, .pointer (some ⟨b8, 0, none⟩))] _) (q_loadpa (vs := encOrd ((mgetD d.out ((os.getD x.d default).Cluster) zSent).Order)) ag_30 rfl (by repeat (first | exact Pick.here | apply Pick.there)) rfl)) ?_)
    refine l_step (s_qg rfl (ask_t rfl rfl) (b := (mhas d.out ((os.getD x.d default).Cluster))) (fun hb => q_loadpa (vs := encOrd (os.getD x.d default)) ag_30 rfl (by repeat (first | exact Pick.here | apply Pick.there)) rfl) ?_)
    refine l_step (s_qg rfl (ask_t rfl rfl) (b := (mhas d.out ((os.getD x.d default).Cluster))) (fun hb => OpQ.env (.cons rfl (gd_t hb) (.cons rfl (gd_t hb) (.nil _)) : EnvLe [(32, .agg (encOrd ((mgetD d.out ((os.getD x.d default).Cluster) zSent).Order)).toArray), (33, .agg (encOrd (os.getD x.d default)).toArray)] _) (q_eqlst (offs := [0, 1, 2, 3]) (la := [((mgetD d.out ((os.getD x.d default).Cluster) zSent).Order).ID, ((mgetD d.out ((os.getD x.d default).Cluster) zSent).Order).Epoch, ((mgetD d.out ((os.getD x.d default).Cluster) zSent).Order).Cluster, ((mgetD d.out ((os.getD x.d default).Cluster) zSent).Order).Version]) (lb := [(os.getD x.d default).ID, (os.getD x.d default).Epoch, (os.getD x.d default).Cluster, (os.getD x.d default).Version]) (by kernel_rfl) rfl rfl (by intro o ho; simp only [List.mem_cons, List.not_mem_nil, or_false] at ho; rcases ho with rfl | rfl | rfl | rfl <;> exact ⟨_, _, _, rfl, rfl⟩) rfl rfl)) ?_)
    refine l_step (s_q rfl wn (q_pick_and rfl rfl rfl (fun h => h)) ?_)
    refine l_nil ?_
    refine k_then_n ?_
    refine t_cutq (ι := Unit) (fun _u => True) (fun _u => [(0, .pointer (some ⟨b, 0, none⟩)), (4, .map (some b10)), (6, .pointer (some ⟨b6, 0, none⟩)), (7, .pointer (some ⟨b7, 0, none⟩)), (8, .pointer (some ⟨b8, 0, none⟩)), (9, .bool (mhas d.out ((os.getD x.d default).Cluster))), (11, .slice os_a os_n os_c), (12, .int .i64 (os_n : Int)), (13, .int .i64 (x.d : Int)), (14, .bool (decide ((x.d : Int) < (os_n : Int)))), (15, pe os_a x.d 4 0), (16, .agg (encOrd (os.getD x.d default)).toArray), (17, .agg (encOrd (os.getD x.d default)).toArray), (18, .agg (encSent (⟨(os.getD x.d default), (-1)⟩ : Sent)).toArray), (19, .tuple #[.agg (encSent (mgetD d.out ((os.getD x.d default).Cluster) zSent)).toArray, .bool (mhas d.out ((os.getD x.d default).Cluster))]), (20, .pointer (some ⟨b, 0, none⟩)), (21, .pointer (some ⟨b, 0, none⟩)), (22, .pointer (some ⟨b, 2, none⟩)), (23, .map (some d.bo)), (24, .pointer (some ⟨b6, 2, none⟩)), (25, .int .i64 ((os.getD x.d default).Cluster)), (26, .tuple #[.agg (encSent (mgetD d.out ((os.getD x.d default).Cluster) zSent)).toArray, .bool (mhas d.out ((os.getD x.d default).Cluster))]), (27, .agg (encSent (mgetD d.out ((os.getD x.d default).Cluster) zSent)).toArray), (28, .bool (mhas d.out ((os.getD x.d default).Cluster))), (29, .bool (mhas d.out ((os.getD x.d default).Cluster))), (30, .bool (mhas d.out ((os.getD x.d default).Cluster))), (31, gd (mhas d.out ((os.getD x.d default).Cluster)) (.pointer (some ⟨b8, 0, none⟩))), (32, gd (mhas d.out ((os.getD x.d default).Cluster)) (.agg (encOrd ((mgetD d.out ((os.getD x.d default).Cluster) zSent).Order)).toArray)), (33, gd (mhas d.out ((os.getD x.d default).Cluster)) (.agg (encOrd (os.getD x.d default)).toArray)), (34, gd (mhas d.out ((os.getD x.d default).Cluster)) (.bool (decide ([((mgetD d.out ((os.getD x.d default).Cluster) zSent).Order).ID, ((mgetD d.out ((os.getD x.d default).Cluster) zSent).Order).Epoch, ((mgetD d.out ((os.getD x.d default).Cluster) zSent).Order).Cluster, ((mgetD d.out ((os.getD x.d default).Cluster) zSent).Order).Version] = [(os.getD x.d default).ID, (os.getD x.d default).Epoch, (os.getD x.d default).Cluster, (os.getD x.d default).Version])))), (35, .bool ((mhas d.out ((os.getD x.d default).Cluster)) && (decide ([((mgetD d.out ((os.getD x.d default).Cluster) zSent).Order).ID, ((mgetD d.out ((os.getD x.d default).Cluster) zSent).Order).Epoch, ((mgetD d.out ((os.getD x.d default).Cluster) zSent).Order).Cluster, ((mgetD d.out ((os.getD x.d default).Cluster) zSent).Order).Version] = [(os.getD x.d default).ID, (os.getD x.d default).Epoch, (os.getD x.d default).Cluster, (os.getD x.d default).Version]))))]) (fun _u => .pts b8 (encSent (mgetD d.out ((os.getD x.d default).Cluster) zSent)) 100 :: .pts b7 (encSent (keepF d.out (os.getD x.d default))) 100 :: .pts b6 (encOrd (os.getD x.d default)) 30 :: MP (Value.int .i64) (aggV encSent) b10 ((os.take x.d).foldl (setStep d.out) []) :: .pts b (encDisp (⟨d.span, d.now, (some d.bo), (some d.bt)⟩ : Disp)) 98 :: MP (Value.int .i64) (aggV encSent) d.bo d.out :: MP (Value.int .i64) (aggV encTold) d.bt d.told :: Δ) ?_ ?_
    · skip
      refine c_cond rfl (fun h1 => ?_) (fun h1 => ?_)
      · skip
        refine c_region ?_
        refine l_step (s_q rfl wn (q_loadpa (vs := encSent (mgetD d.out ((os.getD x.d default).Cluster) zSent)) ag_100 rfl (by repeat (first | exact Pick.here | apply Pick.there)) rfl) ?_)
        refine l_step (s_s0 wn (s_storep (ws := encSent (mgetD d.out ((os.getD x.d default).Cluster) zSent)) (cs := encSent (⟨(os.getD x.d default), (-1)⟩ : Sent)) (cs' := encSent (mgetD d.out ((os.getD x.d default).Cluster) zSent)) rfl rfl rfl sz_100 (oneSent _) (by simp [encSent, encSent]) rfl (by repeat (first | exact Pick.here | apply Pick.there))) ?_)
        rintro _ _ ⟨rfl, rfl⟩
        refine l_nil ?_
        refine k_then_n ?_
        rw [show keepF d.out (os.getD x.d default) = _ from if_pos h1]
        exact t_next () trivial (.cons rfl (by first | rfl | exact inte (by omega) | (simp; done) | (simp <;> omega) | simp [*]) (.cons rfl (by first | rfl | exact inte (by omega) | (simp; done) | (simp <;> omega) | simp [*]) (.cons rfl (by first | rfl | exact inte (by omega) | (simp; done) | (simp <;> omega) | simp [*]) (.cons rfl (by first | rfl | exact inte (by omega) | (simp; done) | (simp <;> omega) | simp [*]) (.cons rfl (by first | rfl | exact inte (by omega) | (simp; done) | (simp <;> omega) | simp [*]) (.cons rfl (by first | rfl | exact inte (by omega) | (simp; done) | (simp <;> omega) | simp [*]) (.cons rfl (by first | rfl | exact inte (by omega) | (simp; done) | (simp <;> omega) | simp [*]) (.cons rfl (by first | rfl | exact inte (by omega) | (simp; done) | (simp <;> omega) | simp [*]) (.cons rfl (by first | rfl | exact inte (by omega) | (simp; done) | (simp <;> omega) | simp [*]) (.cons rfl (by first | rfl | exact inte (by omega) | (simp; done) | (simp <;> omega) | simp [*]) (.cons rfl (by first | rfl | exact inte (by omega) | (simp; done) | (simp <;> omega) | simp [*]) (.cons rfl (by first | rfl | exact inte (by omega) | (simp; done) | (simp <;> omega) | simp [*]) (.cons rfl (by first | rfl | exact inte (by omega) | (simp; done) | (simp <;> omega) | simp [*]) (.cons rfl (by first | rfl | exact inte (by omega) | (simp; done) | (simp <;> omega) | simp [*]) (.cons rfl (by first | rfl | exact inte (by omega) | (simp; done) | (simp <;> omega) | simp [*]) (.cons rfl (by first | rfl | exact inte (by omega) | (simp; done) | (simp <;> omega) | simp [*]) (.cons rfl (by first | rfl | exact inte (by omega) | (simp; done) | (simp <;> omega) | simp [*]) (.cons rfl (by first | rfl | exact inte (by omega) | (simp; done) | (simp <;> omega) | simp [*]) (.cons rfl (by first | rfl | exact inte (by omega) | (simp; done) | (simp <;> omega) | simp [*]) (.cons rfl (by first | rfl | exact inte (by omega) | (simp; done) | (simp <;> omega) | simp [*]) (.cons rfl (by first | rfl | exact inte (by omega) | (simp; done) | (simp <;> omega) | simp [*]) (.cons rfl (by first | rfl | exact inte (by omega) | (simp; done) | (simp <;> omega) | simp [*]) (.cons rfl (by first | rfl | exact inte (by omega) | (simp; done) | (simp <;> omega) | simp [*]) (.cons rfl (by first | rfl | exact inte (by omega) | (simp; done) | (simp <;> omega) | simp [*]) (.cons rfl (by first | rfl | exact inte (by omega) | (simp; done) | (simp <;> omega) | simp [*]) (.cons rfl (by first | rfl | exact inte (by omega) | (simp; done) | (simp <;> omega) | simp [*]) (.cons rfl (by first | rfl | exact inte (by omega) | (simp; done) | (simp <;> omega) | simp [*]) (.cons rfl (by first | rfl | exact inte (by omega) | (simp; done) | (simp <;> omega) | simp [*]) (.cons rfl (by first | rfl | exact inte (by omega) | (simp; done) | (simp <;> omega) | simp [*]) (.cons rfl (by first | rfl | exact inte (by omega) | (simp; done) | (simp <;> omega) | simp [*]) (.cons rfl (by first | rfl | exact inte (by omega) | (simp; done) | (simp <;> omega) | simp [*]) (.nil _)))))))))))))))))))))))))))))))) (by repeat (first | exact Ent.nil _ | exact Ent.refl _ | (refine Ent.pick (by repeat (first | exact Pick.here | apply Pick.there)) ?_) | refine Ent.skip ?_))
      · skip
        refine c_skip ?_
        refine k_then_n ?_
        rw [show keepF d.out (os.getD x.d default) = _ from if_neg (by show ¬ (_ = true); rw [show keepB d.out (os.getD x.d default) = false from h1]; decide)]
        exact t_next () trivial (.cons rfl (by first | rfl | exact inte (by omega) | (simp; done) | (simp <;> omega) | simp [*]) (.cons rfl (by first | rfl | exact inte (by omega) | (simp; done) | (simp <;> omega) | simp [*]) (.cons rfl (by first | rfl | exact inte (by omega) | (simp; done) | (simp <;> omega) | simp [*]) (.cons rfl (by first | rfl | exact inte (by omega) | (simp; done) | (simp <;> omega) | simp [*]) (.cons rfl (by first | rfl | exact inte (by omega) | (simp; done) | (simp <;> omega) | simp [*]) (.cons rfl (by first | rfl | exact inte (by omega) | (simp; done) | (simp <;> omega) | simp [*]) (.cons rfl (by first | rfl | exact inte (by omega) | (simp; done) | (simp <;> omega) | simp [*]) (.cons rfl (by first | rfl | exact inte (by omega) | (simp; done) | (simp <;> omega) | simp [*]) (.cons rfl (by first | rfl | exact inte (by omega) | (simp; done) | (simp <;> omega) | simp [*]) (.cons rfl (by first | rfl | exact inte (by omega) | (simp; done) | (simp <;> omega) | simp [*]) (.cons rfl (by first | rfl | exact inte (by omega) | (simp; done) | (simp <;> omega) | simp [*]) (.cons rfl (by first | rfl | exact inte (by omega) | (simp; done) | (simp <;> omega) | simp [*]) (.cons rfl (by first | rfl | exact inte (by omega) | (simp; done) | (simp <;> omega) | simp [*]) (.cons rfl (by first | rfl | exact inte (by omega) | (simp; done) | (simp <;> omega) | simp [*]) (.cons rfl (by first | rfl | exact inte (by omega) | (simp; done) | (simp <;> omega) | simp [*]) (.cons rfl (by first | rfl | exact inte (by omega) | (simp; done) | (simp <;> omega) | simp [*]) (.cons rfl (by first | rfl | exact inte (by omega) | (simp; done) | (simp <;> omega) | simp [*]) (.cons rfl (by first | rfl | exact inte (by omega) | (simp; done) | (simp <;> omega) | simp [*]) (.cons rfl (by first | rfl | exact inte (by omega) | (simp; done) | (simp <;> omega) | simp [*]) (.cons rfl (by first | rfl | exact inte (by omega) | (simp; done) | (simp <;> omega) | simp [*]) (.cons rfl (by first | rfl | exact inte (by omega) | (simp; done) | (simp <;> omega) | simp [*]) (.cons rfl (by first | rfl | exact inte (by omega) | (simp; done) | (simp <;> omega) | simp [*]) (.cons rfl (by first | rfl | exact inte (by omega) | (simp; done) | (simp <;> omega) | simp [*]) (.cons rfl (by first | rfl | exact inte (by omega) | (simp; done) | (simp <;> omega) | simp [*]) (.cons rfl (by first | rfl | exact inte (by omega) | (simp; done) | (simp <;> omega) | simp [*]) (.cons rfl (by first | rfl | exact inte (by omega) | (simp; done) | (simp <;> omega) | simp [*]) (.cons rfl (by first | rfl | exact inte (by omega) | (simp; done) | (simp <;> omega) | simp [*]) (.cons rfl (by first | rfl | exact inte (by omega) | (simp; done) | (simp <;> omega) | simp [*]) (.cons rfl (by first | rfl | exact inte (by omega) | (simp; done) | (simp <;> omega) | simp [*]) (.cons rfl (by first | rfl | exact inte (by omega) | (simp; done) | (simp <;> omega) | simp [*]) (.cons rfl (by first | rfl | exact inte (by omega) | (simp; done) | (simp <;> omega) | simp [*]) (.nil _)))))))))))))))))))))))))))))))) (by repeat (first | exact Ent.nil _ | exact Ent.refl _ | (refine Ent.pick (by repeat (first | exact Pick.here | apply Pick.there)) ?_) | refine Ent.skip ?_))
    intro _u hj1
    refine k_then_n ?_
    refine c_region ?_
    refine l_step (s_q rfl wn (q_move rfl) ?_)
    refine l_step (s_q rfl wn (q_fieldp rfl fo_30_2) ?_)
    refine l_step (s_q rfl wn (q_loadp (v := .int .i64 ((os.getD x.d default).Cluster)) sc_3 rfl (by repeat (first | exact Pick.here | apply Pick.there)) rfl) ?_)
    refine l_step (s_q rfl wn (q_loadpa (vs := encSent (keepF d.out (os.getD x.d default))) ag_100 rfl (by repeat (first | exact Pick.here | apply Pick.there)) rfl) ?_)
    refine l_step (s_s0 wn (s_mset (ek := (Value.int .i64)) (ev := (aggV encSent)) (k := ((os.getD x.d default).Cluster)) (v := (keepF d.out (os.getD x.d default))) (m' := (mset ((os.take x.d).foldl (setStep d.out) []) ((os.getD x.d default).Cluster) (keepF d.out (os.getD x.d default)))) Try.underlying95 (mkey_int Try.underlying3) rfl rfl rfl rfl rfl (by repeat (first | exact Pick.here | apply Pick.there))) ?_)
    rintro _ _ ⟨rfl, rfl⟩
    refine l_nil ?_
    refine k_blk_n ?_
    refine k_then_n ?_
    refine c_region ?_
    refine l_step (s_q rfl wn (q_add rfl rfl (by omega) (by omega)) ?_)
    refine l_step (s_q rfl wn (q_move rfl) ?_)
    refine l_nil ?_
    refine k_then_n ?_
    exact t_next (⟨x.d + 1, none, 0, none, 0, none, 0⟩ : Lp _) ⟨by simp only []; omega, by simp only []; omega⟩ (.cons rfl (by first | rfl | exact inte (by omega) | (simp; done) | (simp <;> omega) | simp [*]) (.cons rfl (by first | rfl | exact inte (by omega) | (simp; done) | (simp <;> omega) | simp [*]) (.cons rfl (by first | rfl | exact inte (by omega) | (simp; done) | (simp <;> omega) | simp [*]) (.cons rfl (by first | rfl | exact inte (by omega) | (simp; done) | (simp <;> omega) | simp [*]) (.cons rfl (by first | rfl | exact inte (by omega) | (simp; done) | (simp <;> omega) | simp [*]) (.nil _)))))) (by simp only []; rw [foldl_take _ _ _ _ (by omega)]; exact (by repeat (first | exact Ent.nil _ | exact Ent.refl _ | (refine Ent.pick (by repeat (first | exact Pick.here | apply Pick.there)) ?_) | refine Ent.skip ?_)))
  · try simp only [Bool.and_eq_true, Bool.or_eq_true, Bool.not_eq_true', Bool.and_eq_false_iff, Bool.or_eq_false_iff, Bool.not_eq_false', decide_eq_true_eq, decide_eq_false_iff_not, Bool.not_eq_eq_eq_not, Bool.not_true, Bool.not_false, Bool.not_eq_true, Bool.not_eq_false, beq_iff_eq, bne_iff_ne, ne_eq, Decidable.not_not] at h0
    have hk : x.d = os.length := by omega
    rw [hk, List.take_length]
    refine c_exit ?_
    refine k_then_x ?_
    refine k_then_x ?_
    refine k_blk_x ?_
    refine k_then_n ?_
    refine c_region ?_
    refine l_step (s_q rfl wn (q_move rfl) ?_)
    refine l_step (s_q rfl wn (q_move rfl) ?_)
    refine l_step (s_q rfl wn (q_nilCheck rfl) ?_)
    refine l_step (s_q rfl wn (q_fieldp rfl fo_98_2) ?_)
    refine l_step (s_s0 wn (s_storep (ws := [.map (some b10)]) (cs := encDisp (⟨d.span, d.now, (some d.bo), (some d.bt)⟩ : Disp)) (cs' := encDisp (⟨d.span, d.now, (some b10), (some d.bt)⟩ : Disp)) rfl rfl rfl sz_95 (by simp [Value.oneCell', strB, ptV, SL.v, SH.v]) (by simp [encDisp]) rfl (by repeat (first | exact Pick.here | apply Pick.there))) ?_)
    rintro _ _ ⟨rfl, rfl⟩
    refine l_nil ?_
    refine k_body_n ?_
    exact t_ret [.pts b (encDisp (⟨d.span, d.now, (some b10), (some d.bt)⟩ : Disp)) 98, MP (Value.int .i64) (aggV encSent) b10 (setF d.out os), MP (Value.int .i64) (aggV encTold) d.bt d.told] rfl .nil rfl (Hp.le_refl _) ⟨rfl, b10, rfl, rfl⟩ (by repeat (first | exact Ent.nil _ | exact Ent.refl _ | (refine Ent.pick (by repeat (first | exact Pick.here | apply Pick.there)) ?_) | refine Ent.skip ?_))

theorem out_spec (b : Nat) (d : DD) (ρ : Hp) (hw : ∀ k ∈ mkeys d.out, I64 k) (hl : d.out.length ≤ 1000000000) : Spec0 Try.prog 21 #[.pointer (some ⟨b, 0, none⟩)] ρ [.pts b (encDisp (⟨d.span, d.now, (some d.bo), (some d.bt)⟩ : Disp)) 98, MP (Value.int .i64) (aggV encSent) d.bo d.out, MP (Value.int .i64) (aggV encTold) d.bt d.told] (fun v Γ' => ∃ a c, v = .slice a d.out.length c ∧ Γ' = [.row 30 4 a d.out.length c ((outF d.out).flatMap encOrd), .pts b (encDisp (⟨d.span, d.now, (some d.bo), (some d.bt)⟩ : Disp)) 98, MP (Value.int .i64) (aggV encSent) d.bo d.out, MP (Value.int .i64) (aggV encTold) d.bt d.told]) := by
  refine spec_of (n := 25) (vs := [_]) (σ := [(0, _)]) Try.func21 rfl rfl rfl rfl fun E Δ => ?_
  simp only [List.cons_append, List.nil_append]
  have hks := sorted_len d.out
  refine c_seq ?_
  refine c_region ?_
  refine l_step (s_q rfl wn (q_assign rfl) ?_)
  refine l_nil ?_
  refine k_then_n ?_
  refine c_seq ?_
  refine c_region ?_
  refine l_step (s_q rfl wn (q_assign rfl) ?_)
  refine l_nil ?_
  refine k_then_n ?_
  refine c_seq ?_
  refine c_seq ?_
  refine c_region ?_
  refine l_step (s_q rfl wn (q_move rfl) ?_)
  refine l_step (s_fnb rfl wn Try.func40 rfl (by kernel_rfl) rfl (by repeat (first | exact Sel.nil | exact Pick.here | apply Sel.cons | apply Pick.there)) (fun ρ' hL => sorted_spec b d ρ' hw hl) ?_)
  rintro _ _ ⟨a7, c7, rfl, rfl⟩
  try simp only [List.cons_append, List.nil_append]
  refine l_step (s_q rfl wn (q_len Try.underlying22 rfl) ?_)
  refine l_step (s_q rfl wn (q_move rfl) ?_)
  refine l_nil ?_
  refine k_then_n ?_
  refine c_block ?_
  refine Tr.ent (Ent.nilrow 30 4 _) ?_
  refine Tr.env (σ' := [(0, _), (2, _), (3, _), (7, _), (8, _), (9, _)]) (.cons rfl rfl (.cons rfl rfl (.cons rfl rfl (.cons rfl rfl (.cons rfl rfl (.cons rfl rfl (.nil _))))))) ?_
  refine t_loop (ι := Lp (Nat)) (fun x => x.d ≤ d.out.length) (fun x => d.out.length - x.d) (fun x => [(0, .pointer (some ⟨b, 0, none⟩)), (2, .slice none 0 0), (3, .slice x.a1 ((((sortI (mkeys d.out)).take x.d).map fun c => (mgetD d.out c zSent).Order).length) x.c1), (7, .slice a7 d.out.length c7), (8, .int .i64 (d.out.length : Int)), (9, .int .i64 (x.d : Int))]) (fun x => .row 30 4 x.a1 ((((sortI (mkeys d.out)).take x.d).map fun c => (mgetD d.out c zSent).Order).length) x.c1 ((((sortI (mkeys d.out)).take x.d).map fun c => (mgetD d.out c zSent).Order).flatMap encOrd) :: .row 3 1 a7 d.out.length c7 ((sortI (mkeys d.out)).flatMap encI) :: .pts b (encDisp (⟨d.span, d.now, (some d.bo), (some d.bt)⟩ : Disp)) 98 :: MP (Value.int .i64) (aggV encSent) d.bo d.out :: MP (Value.int .i64) (aggV encTold) d.bt d.told :: Δ) (⟨0, none, 0, none, 0, none, 0⟩ : Lp _) (Nat.zero_le _) ?_ ?_ ?_
  · exact .cons rfl (by first | rfl | exact inte (by omega) | (simp; done) | (simp <;> omega) | simp [*]) (.cons rfl (by first | rfl | exact inte (by omega) | (simp; done) | (simp <;> omega) | simp [*]) (.cons rfl (by first | rfl | exact inte (by omega) | (simp; done) | (simp <;> omega) | simp [*]) (.cons rfl (by first | rfl | exact inte (by omega) | (simp; done) | (simp <;> omega) | simp [*]) (.cons rfl (by first | rfl | exact inte (by omega) | (simp; done) | (simp <;> omega) | simp [*]) (.cons rfl (by first | rfl | exact inte (by omega) | (simp; done) | (simp <;> omega) | simp [*]) (.nil _))))))
  · exact (by repeat (first | exact Ent.nil _ | exact Ent.refl _ | (refine Ent.pick (by repeat (first | exact Pick.here | apply Pick.there)) ?_) | refine Ent.skip ?_))
  intro x hx
  have hln : (((sortI (mkeys d.out)).take x.d).map fun c => (mgetD d.out c zSent).Order).length = x.d := by rw [List.length_map, List.length_take]; omega
  refine c_seq ?_
  refine c_region ?_
  refine l_step (s_q rfl wn (q_lss rfl rfl) ?_)
  refine l_nil ?_
  refine k_then_n ?_
  refine c_seq ?_
  refine c_cond rfl (fun h0 => ?_) (fun h0 => ?_)
  · try simp only [Bool.and_eq_true, Bool.or_eq_true, Bool.not_eq_true', Bool.and_eq_false_iff, Bool.or_eq_false_iff, Bool.not_eq_false', decide_eq_true_eq, decide_eq_false_iff_not, Bool.not_eq_eq_eq_not, Bool.not_true, Bool.not_false, Bool.not_eq_true, Bool.not_eq_false, beq_iff_eq, bne_iff_ne, ne_eq, Decidable.not_not] at h0
    refine c_skip ?_
    refine k_then_n ?_
    refine c_seq ?_
    refine c_block ?_
    refine c_seq ?_
    refine c_region ?_
    refine l_step (s_q rfl wn (q_indexe x.d Try.underlying22 sz_3 rfl rfl (rd_row (by repeat (first | exact Pick.here | apply Pick.there))) (by decide) rfl (by first | assumption | omega | (simp only [List.length_cons, List.length_nil]; omega))) ?_)
    refine l_step (s_q rfl wn (q_loade (enc := encI) (xs := (sortI (mkeys d.out))) (j := x.d) (off := 0) sc_3 rfl (rd_row (by repeat (first | exact Pick.here | apply Pick.there))) (fun _ => rfl) (by first | assumption | omega | (simp only [List.length_cons, List.length_nil]; omega)) (by decide) rfl) ?_)
    refine l_step (s_q rfl wn (q_assign rfl) ?_)
    refine l_nil ?_
    refine k_then_n ?_
    refine c_region ?_
    refine l_step (s_q rfl wn (q_move rfl) ?_)
    refine l_step (s_q rfl wn (q_move rfl) ?_)
    refine l_step (s_q rfl wn (q_nilCheck rfl) ?_)
    refine l_step (s_q rfl wn (q_fieldp rfl fo_98_2) ?_)
    refine l_step (s_q rfl wn (q_loadp (v := .map (some d.bo)) sc_95 rfl (by repeat (first | exact Pick.here | apply Pick.there)) rfl) ?_)
    refine l_step (s_q rfl wn (q_move rfl) ?_)
    refine l_step (s_q rfl wn (q_look (v := .agg (encSent (mgetD d.out ((sortI (mkeys d.out)).getD x.d default) zSent)).toArray) (ek := (Value.int .i64)) (ev := (aggV encSent)) (k := ((sortI (mkeys d.out)).getD x.d default)) (zv := zSent) Try.underlying95 (mkey_int Try.underlying3) zi_100 rfl rfl (by repeat (first | exact Pick.here | apply Pick.there)) rfl) ?_)
    refine l_step (s_q rfl wn (q_fielda (vs := encOrd (mgetD d.out ((sortI (mkeys d.out)).getD x.d default) zSent).Order) rfl fo_100_0 ag_30 rfl) ?_)
    refine l_step (s_s rfl wn (s_buildSlice (cs := ([(mgetD d.out ((sortI (mkeys d.out)).getD x.d default) zSent).Order] : List Ord).flatMap encOrd) Try.underlying40 eo_30 rfl rfl rfl rfl (by decide) (by decide)) ?_)
    rintro _ _ ⟨b21, rfl, rfl⟩
    refine l_step (s_s rfl wn (s_appendn (enc := encOrd) (xs := ((((sortI (mkeys d.out)).take x.d).map fun c => (mgetD d.out c zSent).Order) : List Ord)) (ys := ([(mgetD d.out ((sortI (mkeys d.out)).getD x.d default) zSent).Order] : List Ord)) (Γ' := fun a' cap' => _) Try.underlying40 eo_30 (by decide) rfl rfl (rd_row (by repeat (first | exact Pick.here | apply Pick.there))) (oneOrds _) (by first | omega | (simp only [List.length_append, List.length_cons, List.length_nil] at *; omega)) (by first | omega | (simp only [List.length_append, List.length_cons, List.length_nil] at *; omega)) (fun _ _ => (by repeat (first | exact Pick.here | apply Pick.there)))) ?_)
    rintro _ _ ⟨a22, c22, rfl, rfl⟩
    refine l_step (s_q rfl wn (q_assign rfl) ?_)
    refine l_nil ?_
    refine k_blk_n ?_
    refine k_then_n ?_
    refine c_region ?_
    refine l_step (s_q rfl wn (q_add rfl rfl (by omega) (by omega)) ?_)
    refine l_step (s_q rfl wn (q_move rfl) ?_)
    refine l_nil ?_
    refine k_then_n ?_
    have hxs : (((sortI (mkeys d.out)).take x.d).map fun c => (mgetD d.out c zSent).Order) ++ [(mgetD d.out ((sortI (mkeys d.out)).getD x.d default) zSent).Order] = (((sortI (mkeys d.out)).take (x.d + 1)).map fun c => (mgetD d.out c zSent).Order) := by rw [take_succ_getD _ _ (by omega), List.map_append]; rfl
    have hn1 : (((sortI (mkeys d.out)).take x.d).map fun c => (mgetD d.out c zSent).Order).length + 1 = (((sortI (mkeys d.out)).take (x.d + 1)).map fun c => (mgetD d.out c zSent).Order).length := by rw [← hxs, List.length_append]; rfl
    rw [hxs, hn1]
    exact t_next (⟨x.d + 1, a22, c22, none, 0, none, 0⟩ : Lp _) ⟨by simp only []; omega, by simp only []; omega⟩ (.cons rfl (by first | rfl | exact inte (by omega) | (simp; done) | (simp <;> omega) | simp [*]) (.cons rfl (by first | rfl | exact inte (by omega) | (simp; done) | (simp <;> omega) | simp [*]) (.cons rfl (by first | rfl | exact inte (by omega) | (simp; done) | (simp <;> omega) | simp [*]) (.cons rfl (by first | rfl | exact inte (by omega) | (simp; done) | (simp <;> omega) | simp [*]) (.cons rfl (by first | rfl | exact inte (by omega) | (simp; done) | (simp <;> omega) | simp [*]) (.cons rfl (by first | rfl | exact inte (by omega) | (simp; done) | (simp <;> omega) | simp [*]) (.nil _))))))) (by repeat (first | exact Ent.nil _ | exact Ent.refl _ | (refine Ent.pick (by repeat (first | exact Pick.here | apply Pick.there)) ?_) | refine Ent.skip ?_))
  · try simp only [Bool.and_eq_true, Bool.or_eq_true, Bool.not_eq_true', Bool.and_eq_false_iff, Bool.or_eq_false_iff, Bool.not_eq_false', decide_eq_true_eq, decide_eq_false_iff_not, Bool.not_eq_eq_eq_not, Bool.not_true, Bool.not_false, Bool.not_eq_true, Bool.not_eq_false, beq_iff_eq, bne_iff_ne, ne_eq, Decidable.not_not] at h0
    have hk : x.d = (sortI (mkeys d.out)).length := by omega
    have hof : (((sortI (mkeys d.out)).take x.d).map fun c => (mgetD d.out c zSent).Order) = outF d.out := by rw [hk, List.take_length]; rfl
    rw [hof] at hln ⊢
    rw [show (outF d.out).length = d.out.length from by rw [hln, hk, hks]]
    refine c_exit ?_
    refine k_then_x ?_
    refine k_then_x ?_
    refine k_blk_x ?_
    refine k_then_n ?_
    refine c_seq ?_
    refine c_region ?_
    refine l_step (s_q rfl wn (q_move rfl) ?_)
    refine l_step (s_q rfl wn (q_assign rfl) ?_)
    refine l_nil ?_
    refine k_then_n ?_
    refine c_ret ?_
    exact t_ret [.row 30 4 x.a1 d.out.length x.c1 ((outF d.out).flatMap encOrd), .pts b (encDisp (⟨d.span, d.now, (some d.bo), (some d.bt)⟩ : Disp)) 98, MP (Value.int .i64) (aggV encSent) d.bo d.out, MP (Value.int .i64) (aggV encTold) d.bt d.told] rfl (.tmp rfl .nil) rfl (Hp.le_refl _) ⟨rfl, x.a1, x.c1, rfl, rfl⟩ (by repeat (first | exact Ent.nil _ | exact Ent.refl _ | (refine Ent.pick (by repeat (first | exact Pick.here | apply Pick.there)) ?_) | refine Ent.skip ?_))

theorem tick_spec (b : Nat) (d : DD) (ρ : Hp) (hok : OutOk d.now d.out) (h0' : 0 ≤ d.now ∧ d.now ≤ 1000000) : Spec0 Try.prog 15 #[.pointer (some ⟨b, 0, none⟩)] ρ [.pts b (encDisp (⟨d.span, d.now, (some d.bo), (some d.bt)⟩ : Disp)) 98, MP (Value.int .i64) (aggV encSent) d.bo d.out, MP (Value.int .i64) (aggV encTold) d.bt d.told] (fun v Γ' => ∃ a c, v = .slice a (tickF (d.now + 1) d.span d.out).2.length c ∧ Γ' = [.row 30 4 a (tickF (d.now + 1) d.span d.out).2.length c ((tickF (d.now + 1) d.span d.out).2.flatMap encOrd), .pts b (encDisp (⟨d.span, d.now + 1, some d.bo, some d.bt⟩ : Disp)) 98, MP (Value.int .i64) (aggV encSent) d.bo (tickF (d.now + 1) d.span d.out).1, MP (Value.int .i64) (aggV encTold) d.bt d.told]) := by
  refine spec_of (n := 62) (vs := [_]) (σ := [(0, _)]) Try.func15 rfl rfl rfl rfl fun E Δ => ?_
  simp only [List.cons_append, List.nil_append]
  have hks := sorted_len d.out
  have hw := hok.keys
  have hl : d.out.length ≤ 1000000000 := by have := hok.2; omega
  refine c_seq ?_
  refine c_region ?_
  refine l_step (s_q rfl wn (q_assign rfl) ?_)
  refine l_nil ?_
  refine k_then_n ?_
  refine c_seq ?_
  refine c_region ?_
  refine l_step (s_q rfl wn (q_move rfl) ?_)
  refine l_step (s_q rfl wn (q_nilCheck rfl) ?_)
  refine l_step (s_q rfl wn (q_fieldp rfl fo_98_1) ?_)
  refine l_step (s_q rfl wn (q_loadp (v := .int .i64 d.now) sc_3 rfl (by repeat (first | exact Pick.here | apply Pick.there)) rfl) ?_)
  refine l_step (s_q rfl wn (q_add rfl rfl (by omega) (by omega)) ?_)
  refine l_step (s_q rfl wn (q_nilCheck rfl) ?_)
  refine l_step (s_q rfl wn (q_fieldp rfl fo_98_1) ?_)
  refine l_step (s_s0 wn (s_storep (ws := [.int .i64 (d.now + 1)]) (cs := encDisp (⟨d.span, d.now, (some d.bo), (some d.bt)⟩ : Disp)) (cs' := encDisp (⟨d.span, (d.now + 1), (some d.bo), (some d.bt)⟩ : Disp)) rfl rfl rfl sz_3 (by simp [Value.oneCell', strB, ptV, SL.v, SH.v]) (by simp [encDisp]) rfl (by repeat (first | exact Pick.here | apply Pick.there))) ?_)
  rintro _ _ ⟨rfl, rfl⟩
  refine l_nil ?_
  refine k_then_n ?_
  refine c_seq ?_
  refine c_region ?_
  refine l_step (s_q rfl wn (q_assign rfl) ?_)
  refine l_nil ?_
  refine k_then_n ?_
  refine c_seq ?_
  refine c_seq ?_
  refine c_region ?_
  refine l_step (s_q rfl wn (q_move rfl) ?_)
  refine l_step (s_fnb rfl wn Try.func40 rfl (by kernel_rfl) rfl (by repeat (first | exact Sel.nil | exact Pick.here | apply Sel.cons | apply Pick.there)) (fun ρ' hL => sorted_spec b { d with now := d.now + 1 } ρ' hw hl) ?_)
  rintro _ _ ⟨a15, c15, rfl, rfl⟩
  try simp only [List.cons_append, List.nil_append]
  refine l_step (s_q rfl wn (q_len Try.underlying22 rfl) ?_)
  refine l_step (s_q rfl wn (q_move rfl) ?_)
  refine l_nil ?_
  refine k_then_n ?_
  refine c_block ?_
  refine Tr.ent (Ent.nilrow 30 4 _) ?_
  refine Tr.env (σ' := [(0, _), (2, _), (3, _), (15, _), (16, _), (17, _)]) (.cons rfl rfl (.cons rfl rfl (.cons rfl rfl (.cons rfl rfl (.cons rfl rfl (.cons rfl rfl (.nil _))))))) ?_
  refine t_loop (ι := Lp (Nat)) (fun x => x.d ≤ d.out.length) (fun x => d.out.length - x.d) (fun x => [(0, .pointer (some ⟨b, 0, none⟩)), (2, .slice none 0 0), (3, .slice x.a1 (((((sortI (mkeys d.out)).take x.d).foldl (tickStep (d.now + 1) d.span) (d.out, [])).2).length) x.c1), (15, .slice a15 d.out.length c15), (16, .int .i64 (d.out.length : Int)), (17, .int .i64 (x.d : Int))]) (fun x => .row 30 4 x.a1 (((((sortI (mkeys d.out)).take x.d).foldl (tickStep (d.now + 1) d.span) (d.out, [])).2).length) x.c1 (((((sortI (mkeys d.out)).take x.d).foldl (tickStep (d.now + 1) d.span) (d.out, [])).2).flatMap encOrd) :: .row 3 1 a15 d.out.length c15 ((sortI (mkeys d.out)).flatMap encI) :: .pts b (encDisp (⟨d.span, (d.now + 1), (some d.bo), (some d.bt)⟩ : Disp)) 98 :: MP (Value.int .i64) (aggV encSent) d.bo ((((sortI (mkeys d.out)).take x.d).foldl (tickStep (d.now + 1) d.span) (d.out, [])).1) :: MP (Value.int .i64) (aggV encTold) d.bt d.told :: Δ) (⟨0, none, 0, none, 0, none, 0⟩ : Lp _) (Nat.zero_le _) ?_ ?_ ?_
  · exact .cons rfl (by first | rfl | exact inte (by omega) | (simp; done) | (simp <;> omega) | simp [*]) (.cons rfl (by first | rfl | exact inte (by omega) | (simp; done) | (simp <;> omega) | simp [*]) (.cons rfl (by first | rfl | exact inte (by omega) | (simp; done) | (simp <;> omega) | simp [*]) (.cons rfl (by first | rfl | exact inte (by omega) | (simp; done) | (simp <;> omega) | simp [*]) (.cons rfl (by first | rfl | exact inte (by omega) | (simp; done) | (simp <;> omega) | simp [*]) (.cons rfl (by first | rfl | exact inte (by omega) | (simp; done) | (simp <;> omega) | simp [*]) (.nil _))))))
  · exact (by repeat (first | exact Ent.nil _ | exact Ent.refl _ | (refine Ent.pick (by repeat (first | exact Pick.here | apply Pick.there)) ?_) | refine Ent.skip ?_))
  intro x hx
  have hinv := tick_inv (span := d.span) hok.up (by omega) ((sortI (mkeys d.out)).take x.d) mem_sorted_take
  have hlt := hinv.2.2
  rw [List.length_take] at hlt
  have hat := hinv.2.1.at_ (by omega) ((sortI (mkeys d.out)).getD x.d default)
  have hbd := hok.2
  refine c_seq ?_
  refine c_region ?_
  refine l_step (s_q rfl wn (q_lss rfl rfl) ?_)
  refine l_nil ?_
  refine k_then_n ?_
  refine c_seq ?_
  refine c_cond rfl (fun h0 => ?_) (fun h0 => ?_)
  · try simp only [Bool.and_eq_true, Bool.or_eq_true, Bool.not_eq_true', Bool.and_eq_false_iff, Bool.or_eq_false_iff, Bool.not_eq_false', decide_eq_true_eq, decide_eq_false_iff_not, Bool.not_eq_eq_eq_not, Bool.not_true, Bool.not_false, Bool.not_eq_true, Bool.not_eq_false, beq_iff_eq, bne_iff_ne, ne_eq, Decidable.not_not] at h0
    refine c_skip ?_
    refine k_then_n ?_
    refine c_seq ?_
    refine c_block ?_
    refine c_seq ?_
    refine c_region ?_
    refine l_step (s_q rfl wn (q_indexe x.d Try.underlying22 sz_3 rfl rfl (rd_row (by repeat (first | exact Pick.here | apply Pick.there))) (by decide) rfl (by first | assumption | omega | (simp only [List.length_cons, List.length_nil]; omega))) ?_)
    refine l_step (s_q rfl wn (q_loade (enc := encI) (xs := (sortI (mkeys d.out))) (j := x.d) (off := 0) sc_3 rfl (rd_row (by repeat (first | exact Pick.here | apply Pick.there))) (fun _ => rfl) (by first | assumption | omega | (simp only [List.length_cons, List.length_nil]; omega)) (by decide) rfl) ?_)
    refine l_step (s_q rfl wn (q_assign rfl) ?_)
    refine l_nil ?_
    refine k_then_n ?_
    refine c_seq ?_
    refine c_region ?_
    refine l_step (s_q rfl wn (q_move rfl) ?_)
    refine l_step (s_q rfl wn (q_nilCheck rfl) ?_)
    refine l_step (s_q rfl wn (q_fieldp rfl fo_98_2) ?_)
    refine l_step (s_q rfl wn (q_loadp (v := .map (some d.bo)) sc_95 rfl (by repeat (first | exact Pick.here | apply Pick.there)) rfl) ?_)
    refine l_step (s_q rfl wn (q_move rfl) ?_)
    refine l_step (s_q rfl wn (q_look (v := .agg (encSent (mgetD ((((sortI (mkeys d.out)).take x.d).foldl (tickStep (d.now + 1) d.span) (d.out, [])).1) ((sortI (mkeys d.out)).getD x.d default) zSent)).toArray) (ek := (Value.int .i64)) (ev := (aggV encSent)) (k := ((sortI (mkeys d.out)).getD x.d default)) (zv := zSent) Try.underlying95 (mkey_int Try.underlying3) zi_100 rfl rfl (by repeat (first | exact Pick.here | apply Pick.there)) rfl) ?_)
    refine l_step (s_s rfl wn (s_allocz (cs := encSent zSent) (by kernel_rfl)) ?_)
    rintro _ _ ⟨b6, rfl, rfl⟩
    refine l_step (s_s0 wn (s_storep (ws := encSent (mgetD ((((sortI (mkeys d.out)).take x.d).foldl (tickStep (d.now + 1) d.span) (d.out, [])).1) ((sortI (mkeys d.out)).getD x.d default) zSent)) (cs := encSent zSent) (cs' := encSent (mgetD ((((sortI (mkeys d.out)).take x.d).foldl (tickStep (d.now + 1) d.span) (d.out, [])).1) ((sortI (mkeys d.out)).getD x.d default) zSent)) rfl rfl rfl sz_100 (oneSent _) (by simp [encSent, encSent]) rfl (by repeat (first | exact Pick.here | apply Pick.there))) ?_)
    rintro _ _ ⟨rfl, rfl⟩
    refine l_nil ?_
    refine k_then_n ?_
    refine c_seq ?_
    refine c_draw (m := 17) (bs := #[false, false, false, false, false, false, false, false, false, false, false, false, false, false, false, false, false]) [.pts b6 (encSent (mgetD ((((sortI (mkeys d.out)).take x.d).foldl (tickStep (d.now + 1) d.span) (d.out, [])).1) ((sortI (mkeys d.out)).getD x.d default) zSent)) 100, .row 30 4 x.a1 (((((sortI (mkeys d.out)).take x.d).foldl (tickStep (d.now + 1) d.span) (d.out, [])).2).length) x.c1 (((((sortI (mkeys d.out)).take x.d).foldl (tickStep (d.now + 1) d.span) (d.out, [])).2).flatMap encOrd), .row 3 1 a15 d.out.length c15 ((sortI (mkeys d.out)).flatMap encI), .pts b (encDisp (⟨d.span, (d.now + 1), (some d.bo), (some d.bt)⟩ : Disp)) 98, MP (Value.int .i64) (aggV encSent) d.bo ((((sortI (mkeys d.out)).take x.d).foldl (tickStep (d.now + 1) d.span) (d.out, [])).1), MP (Value.int .i64) (aggV encTold) d.bt d.told] (by kernel_rfl) rfl (by kernel_rfl) ?_
    refine r_take (i := 0) (bs' := #[true, false, false, false, false, false, false, false, false, false, false, false, false, false, false, false, false]) rfl (by kernel_rfl) (by kernel_rfl) (by kernel_rfl) (fun _ _ _ h => h) rfl wn (q_fieldp rfl fo_100_1) (Hp.le_refl _) (by repeat (first | exact Ent.nil _ | exact Ent.refl _ | (refine Ent.pick (by repeat (first | exact Pick.here | apply Pick.there)) ?_) | refine Ent.skip ?_)) (by kernel_rfl) ?_
    refine r_take (i := 1) (bs' := #[true, true, false, false, false, false, false, false, false, false, false, false, false, false, false, false, false]) rfl (by kernel_rfl) (by kernel_rfl) (by kernel_rfl) (fun _ _ _ h => h) rfl wn (q_loadp (v := .int .i64 ((mgetD ((((sortI (mkeys d.out)).take x.d).foldl (tickStep (d.now + 1) d.span) (d.out, [])).1) ((sortI (mkeys d.out)).getD x.d default) zSent).at_)) sc_3 rfl (by repeat (first | exact Pick.here | apply Pick.there)) rfl) (Hp.le_refl _) (by repeat (first | exact Ent.nil _ | exact Ent.refl _ | (refine Ent.pick (by repeat (first | exact Pick.here | apply Pick.there)) ?_) | refine Ent.skip ?_)) (by kernel_rfl) ?_
    refine r_take (i := 2) (bs' := #[true, true, true, false, false, false, false, false, false, false, false, false, false, false, false, false, false]) rfl (by kernel_rfl) (by kernel_rfl) (by kernel_rfl) (fun _ _ _ h => h) rfl wn (q_lss rfl rfl) (Hp.le_refl _) (by repeat (first | exact Ent.nil _ | exact Ent.refl _ | (refine Ent.pick (by repeat (first | exact Pick.here | apply Pick.there)) ?_) | refine Ent.skip ?_)) (by kernel_rfl) ?_
    refine r_take (i := 3) (bs' := #[true, true, true, true, false, false, false, false, false, false, false, false, false, false, false, false, false]) rfl (by kernel_rfl) (by kernel_rfl) (by kernel_rfl) (fun _ _ _ h => h) rfl wn (q_move rfl) (Hp.le_refl _) (by repeat (first | exact Ent.nil _ | exact Ent.refl _ | (refine Ent.pick (by repeat (first | exact Pick.here | apply Pick.there)) ?_) | refine Ent.skip ?_)) (by kernel_rfl) ?_
    refine r_takeg (i := 4) (b := (!(decide (((mgetD ((((sortI (mkeys d.out)).take x.d).foldl (tickStep (d.now + 1) d.span) (d.out, [])).1) ((sortI (mkeys d.out)).getD x.d default) zSent).at_) < 0)))) (bs' := #[true, true, true, true, true, false, false, false, false, false, false, false, false, false, false, false, false]) rfl (by kernel_rfl) (by kernel_rfl) (by kernel_rfl) (fun _ _ _ h => h) rfl (ask_f rfl rfl) (fun hb => q_move rfl) (Hp.le_refl _) (by repeat (first | exact Ent.nil _ | exact Ent.refl _ | (refine Ent.pick (by repeat (first | exact Pick.here | apply Pick.there)) ?_) | refine Ent.skip ?_)) (by kernel_rfl) ?_
    refine r_takeg (i := 5) (b := (!(decide (((mgetD ((((sortI (mkeys d.out)).take x.d).foldl (tickStep (d.now + 1) d.span) (d.out, [])).1) ((sortI (mkeys d.out)).getD x.d default) zSent).at_) < 0)))) (bs' := #[true, true, true, true, true, true, false, false, false, false, false, false, false, false, false, false, false]) rfl (by kernel_rfl) (by kernel_rfl) (by kernel_rfl) (fun _ _ _ h => h) rfl (ask_f rfl rfl) (fun hb => OpQ.env (.cons rfl (gd_t hb) (.nil _) : EnvLe [(31, .pointer (some ⟨b, 0, none⟩))] _) (q_nilCheck rfl)) (Hp.le_refl _) (by repeat (first | exact Ent.nil _ | exact Ent.refl _ | (refine Ent.pick (by repeat (first | exact Pick.here | apply Pick.there)) ?_) | refine Ent.skip ?_)) (by kernel_rfl) ?_
    refine r_takeg (i := 6) (b := (!(decide (((mgetD ((((sortI (mkeys d.out)).take x.d).foldl (tickStep (d.now + 1) d.span) (d.out, [])).1) ((sortI (mkeys d.out)).getD x.d default) zSent).at_) < 0)))) (bs' := #[true, true, true, true, true, true, true, false, false, false, false, false, false, false, false, false, false]) rfl (by kernel_rfl) (by kernel_rfl) (by kernel_rfl) (fun _ _ _ h => h) rfl (ask_f rfl rfl) (fun hb => OpQ.env (.cons rfl (gd_t hb) (.nil _) : EnvLe [(32, .pointer (some ⟨b, 0, none⟩))] _) (q_fieldp rfl fo_98_1)) (Hp.le_refl _) (by repeat (first | exact Ent.nil _ | exact Ent.refl _ | (refine Ent.pick (by repeat (first | exact Pick.here | apply Pick.there)) ?_) | refine Ent.skip ?_)) (by kernel_rfl) ?_
    refine r_takeg (i := 7) (b := (!(decide (((mgetD ((((sortI (mkeys d.out)).take x.d).foldl (tickStep (d.now + 1) d.span) (d.out, [])).1) ((sortI (mkeys d.out)).getD x.d default) zSent).at_) < 0)))) (bs' := #[true, true, true, true, true, true, true, true, false, false, false, false, false, false, false, false, false]) rfl (by kernel_rfl) (by kernel_rfl) (by kernel_rfl) (fun _ _ _ h => h) rfl (ask_f rfl rfl) (fun hb => OpQ.env (.cons rfl (gd_t hb) (.nil _) : EnvLe [(33, .pointer (some ⟨b, 1, none⟩))] _) (q_loadp (v := .int .i64 (d.now + 1)) sc_3 rfl (by repeat (first | exact Pick.here | apply Pick.there)) rfl)) (Hp.le_refl _) (by repeat (first | exact Ent.nil _ | exact Ent.refl _ | (refine Ent.pick (by repeat (first | exact Pick.here | apply Pick.there)) ?_) | refine Ent.skip ?_)) (by kernel_rfl) ?_
    refine r_takeg (i := 8) (b := (!(decide (((mgetD ((((sortI (mkeys d.out)).take x.d).foldl (tickStep (d.now + 1) d.span) (d.out, [])).1) ((sortI (mkeys d.out)).getD x.d default) zSent).at_) < 0)))) (bs' := #[true, true, true, true, true, true, true, true, true, false, false, false, false, false, false, false, false]) rfl (by kernel_rfl) (by kernel_rfl) (by kernel_rfl) (fun _ _ _ h => h) rfl (ask_f rfl rfl) (fun hb => q_fieldp rfl fo_100_1) (Hp.le_refl _) (by repeat (first | exact Ent.nil _ | exact Ent.refl _ | (refine Ent.pick (by repeat (first | exact Pick.here | apply Pick.there)) ?_) | refine Ent.skip ?_)) (by kernel_rfl) ?_
    refine r_takeg (i := 9) (b := (!(decide (((mgetD ((((sortI (mkeys d.out)).take x.d).foldl (tickStep (d.now + 1) d.span) (d.out, [])).1) ((sortI (mkeys d.out)).getD x.d default) zSent).at_) < 0)))) (bs' := #[true, true, true, true, true, true, true, true, true, true, false, false, false, false, false, false, false]) rfl (by kernel_rfl) (by kernel_rfl) (by kernel_rfl) (fun _ _ _ h => h) rfl (ask_f rfl rfl) (fun hb => OpQ.env (.cons rfl (gd_t hb) (.nil _) : EnvLe [(35, .pointer (some ⟨b6, 4, none⟩))] _) (q_loadp (v := .int .i64 ((mgetD ((((sortI (mkeys d.out)).take x.d).foldl (tickStep (d.now + 1) d.span) (d.out, [])).1) ((sortI (mkeys d.out)).getD x.d default) zSent).at_)) sc_3 rfl (by repeat (first | exact Pick.here | apply Pick.there)) rfl)) (Hp.le_refl _) (by repeat (first | exact Ent.nil _ | exact Ent.refl _ | (refine Ent.pick (by repeat (first | exact Pick.here | apply Pick.there)) ?_) | refine Ent.skip ?_)) (by kernel_rfl) ?_
    refine r_takeg (i := 10) (b := (!(decide (((mgetD ((((sortI (mkeys d.out)).take x.d).foldl (tickStep (d.now + 1) d.span) (d.out, [])).1) ((sortI (mkeys d.out)).getD x.d default) zSent).at_) < 0)))) (bs' := #[true, true, true, true, true, true, true, true, true, true, true, false, false, false, false, false, false]) rfl (by kernel_rfl) (by kernel_rfl) (by kernel_rfl) (fun _ _ _ h => h) rfl (ask_f rfl rfl) (fun hb => OpQ.env (.cons rfl (gd_t hb) (.cons rfl (gd_t hb) (.nil _)) : EnvLe [(34, .int .i64 (d.now + 1)), (36, .int .i64 ((mgetD ((((sortI (mkeys d.out)).take x.d).foldl (tickStep (d.now + 1) d.span) (d.out, [])).1) ((sortI (mkeys d.out)).getD x.d default) zSent).at_))] _) (q_sub rfl rfl (by first | omega | (have hb2 := hb; (try simp only [Bool.and_eq_true, Bool.or_eq_true, Bool.not_eq_true', Bool.and_eq_false_iff, Bool.or_eq_false_iff, Bool.not_eq_false', decide_eq_true_eq, decide_eq_false_iff_not, Bool.not_eq_eq_eq_not, Bool.not_true, Bool.not_false, Bool.not_eq_true, Bool.not_eq_false, beq_iff_eq, bne_iff_ne, ne_eq, Decidable.not_not] at hb2); omega)) (by first | omega | (have hb2 := hb; (try simp only [Bool.and_eq_true, Bool.or_eq_true, Bool.not_eq_true', Bool.and_eq_false_iff, Bool.or_eq_false_iff, Bool.not_eq_false', decide_eq_true_eq, decide_eq_false_iff_not, Bool.not_eq_eq_eq_not, Bool.not_true, Bool.not_false, Bool.not_eq_true, Bool.not_eq_false, beq_iff_eq, bne_iff_ne, ne_eq, Decidable.not_not] at hb2); omega)))) (Hp.le_refl _) (by repeat (first | exact Ent.nil _ | exact Ent.refl _ | (refine Ent.pick (by repeat (first | exact Pick.here | apply Pick.there)) ?_) | refine Ent.skip ?_)) (by kernel_rfl) ?_
    refine r_takeg (i := 11) (b := (!(decide (((mgetD ((((sortI (mkeys d.out)).take x.d).foldl (tickStep (d.now + 1) d.span) (d.out, [])).1) ((sortI (mkeys d.out)).getD x.d default) zSent).at_) < 0)))) (bs' := #[true, true, true, true, true, true, true, true, true, true, true, true, false, false, false, false, false]) rfl (by kernel_rfl) (by kernel_rfl) (by kernel_rfl) (fun _ _ _ h => h) rfl (ask_f rfl rfl) (fun hb => q_move rfl) (Hp.le_refl _) (by repeat (first | exact Ent.nil _ | exact Ent.refl _ | (refine Ent.pick (by repeat (first | exact Pick.here | apply Pick.there)) ?_) | refine Ent.skip ?_)) (by kernel_rfl) ?_
    refine r_takeg (i := 12) (b := (!(decide (((mgetD ((((sortI (mkeys d.out)).take x.d).foldl (tickStep (d.now + 1) d.span) (d.out, [])).1) ((sortI (mkeys d.out)).getD x.d default) zSent).at_) < 0)))) (bs' := #[true, true, true, true, true, true, true, true, true, true, true, true, true, false, false, false, false]) rfl (by kernel_rfl) (by kernel_rfl) (by kernel_rfl) (fun _ _ _ h => h) rfl (ask_f rfl rfl) (fun hb => OpQ.env (.cons rfl (gd_t hb) (.nil _) : EnvLe [(38, .pointer (some ⟨b, 0, none⟩))] _) (q_nilCheck rfl)) (Hp.le_refl _) (by repeat (first | exact Ent.nil _ | exact Ent.refl _ | (refine Ent.pick (by repeat (first | exact Pick.here | apply Pick.there)) ?_) | refine Ent.skip ?_)) (by kernel_rfl) ?_
    refine r_takeg (i := 13) (b := (!(decide (((mgetD ((((sortI (mkeys d.out)).take x.d).foldl (tickStep (d.now + 1) d.span) (d.out, [])).1) ((sortI (mkeys d.out)).getD x.d default) zSent).at_) < 0)))) (bs' := #[true, true, true, true, true, true, true, true, true, true, true, true, true, true, false, false, false]) rfl (by kernel_rfl) (by kernel_rfl) (by kernel_rfl) (fun _ _ _ h => h) rfl (ask_f rfl rfl) (fun hb => OpQ.env (.cons rfl (gd_t hb) (.nil _) : EnvLe [(39, .pointer (some ⟨b, 0, none⟩))] _) (q_fieldp rfl fo_98_0)) (Hp.le_refl _) (by repeat (first | exact Ent.nil _ | exact Ent.refl _ | (refine Ent.pick (by repeat (first | exact Pick.here | apply Pick.there)) ?_) | refine Ent.skip ?_)) (by kernel_rfl) ?_
    refine r_takeg (i := 14) (b := (!(decide (((mgetD ((((sortI (mkeys d.out)).take x.d).foldl (tickStep (d.now + 1) d.span) (d.out, [])).1) ((sortI (mkeys d.out)).getD x.d default) zSent).at_) < 0)))) (bs' := #[true, true, true, true, true, true, true, true, true, true, true, true, true, true, true, false, false]) rfl (by kernel_rfl) (by kernel_rfl) (by kernel_rfl) (fun _ _ _ h => h) rfl (ask_f rfl rfl) (fun hb => OpQ.env (.cons rfl (gd_t hb) (.nil _) : EnvLe [(40, .pointer (some ⟨b, 0, none⟩))] _) (q_loadp (v := .int .i64 d.span) sc_3 rfl (by repeat (first | exact Pick.here | apply Pick.there)) rfl)) (Hp.le_refl _) (by repeat (first | exact Ent.nil _ | exact Ent.refl _ | (refine Ent.pick (by repeat (first | exact Pick.here | apply Pick.there)) ?_) | refine Ent.skip ?_)) (by kernel_rfl) ?_
    refine r_takeg (i := 15) (b := (!(decide (((mgetD ((((sortI (mkeys d.out)).take x.d).foldl (tickStep (d.now + 1) d.span) (d.out, [])).1) ((sortI (mkeys d.out)).getD x.d default) zSent).at_) < 0)))) (bs' := #[true, true, true, true, true, true, true, true, true, true, true, true, true, true, true, true, false]) rfl (by kernel_rfl) (by kernel_rfl) (by kernel_rfl) (fun _ _ _ h => h) rfl (ask_f rfl rfl) (fun hb => OpQ.env (.cons rfl (gd_t hb) (.cons rfl (gd_t hb) (.nil _)) : EnvLe [(37, .int .i64 ((d.now + 1) - ((mgetD ((((sortI (mkeys d.out)).take x.d).foldl (tickStep (d.now + 1) d.span) (d.out, [])).1) ((sortI (mkeys d.out)).getD x.d default) zSent).at_))), (41, .int .i64 d.span)] _) (q_geq rfl rfl)) (Hp.le_refl _) (by repeat (first | exact Ent.nil _ | exact Ent.refl _ | (refine Ent.pick (by repeat (first | exact Pick.here | apply Pick.there)) ?_) | refine Ent.skip ?_)) (by kernel_rfl) ?_
    refine r_take (i := 16) (bs' := #[true, true, true, true, true, true, true, true, true, true, true, true, true, true, true, true, true]) rfl (by kernel_rfl) (by kernel_rfl) (by kernel_rfl) (fun _ _ _ h => h) rfl wn (q_pick_or rfl rfl rfl (fun h => by first | (rw [h]; rfl) | exact congrArg not h)) (Hp.le_refl _) (by repeat (first | exact Ent.nil _ | exact Ent.refl _ | (refine Ent.pick (by repeat (first | exact Pick.here | apply Pick.there)) ?_) | refine Ent.skip ?_)) (by kernel_rfl) ?_
    refine r_done (by kernel_rfl) ?_
    refine k_then_n ?_
    refine c_cond rfl (fun h1 => ?_) (fun h1 => ?_)
    · skip
      have hd : dueB (d.now + 1) d.span (mgetD (((sortI (mkeys d.out)).take x.d).foldl (tickStep (d.now + 1) d.span) (d.out, [])).1 ((sortI (mkeys d.out)).getD x.d default) zSent) = true := h1
      refine c_seq ?_
      refine c_region ?_
      refine l_step (s_q rfl wn (q_move rfl) ?_)
      refine l_step (s_q rfl wn (q_nilCheck rfl) ?_)
      refine l_step (s_q rfl wn (q_fieldp rfl fo_98_1) ?_)
      refine l_step (s_q rfl wn (q_loadp (v := .int .i64 (d.now + 1)) sc_3 rfl (by repeat (first | exact Pick.here | apply Pick.there)) rfl) ?_)
      refine l_step (s_q rfl wn (q_fieldp rfl fo_100_1) ?_)
      refine l_step (s_s0 wn (s_storep (ws := [.int .i64 (d.now + 1)]) (cs := encSent (mgetD ((((sortI (mkeys d.out)).take x.d).foldl (tickStep (d.now + 1) d.span) (d.out, [])).1) ((sortI (mkeys d.out)).getD x.d default) zSent)) (cs' := encSent { (mgetD ((((sortI (mkeys d.out)).take x.d).foldl (tickStep (d.now + 1) d.span) (d.out, [])).1) ((sortI (mkeys d.out)).getD x.d default) zSent) with at_ := (d.now + 1) }) rfl rfl rfl sz_3 (by simp [Value.oneCell', strB, ptV, SL.v, SH.v]) (by simp [encSent]) rfl (by repeat (first | exact Pick.here | apply Pick.there))) ?_)
      rintro _ _ ⟨rfl, rfl⟩
      refine l_nil ?_
      refine k_then_n ?_
      refine c_seq ?_
      refine c_draw (m := 7) (bs := #[false, false, false, false, false, false, false]) [.pts b6 (encSent { (mgetD ((((sortI (mkeys d.out)).take x.d).foldl (tickStep (d.now + 1) d.span) (d.out, [])).1) ((sortI (mkeys d.out)).getD x.d default) zSent) with at_ := (d.now + 1) }) 100, .row 30 4 x.a1 (((((sortI (mkeys d.out)).take x.d).foldl (tickStep (d.now + 1) d.span) (d.out, [])).2).length) x.c1 (((((sortI (mkeys d.out)).take x.d).foldl (tickStep (d.now + 1) d.span) (d.out, [])).2).flatMap encOrd), .row 3 1 a15 d.out.length c15 ((sortI (mkeys d.out)).flatMap encI), .pts b (encDisp (⟨d.span, (d.now + 1), (some d.bo), (some d.bt)⟩ : Disp)) 98, MP (Value.int .i64) (aggV encTold) d.bt d.told] (by kernel_rfl) rfl (by kernel_rfl) ?_
      refine r_take (i := 0) (bs' := #[true, false, false, false, false, false, false]) rfl (by kernel_rfl) (by kernel_rfl) (by kernel_rfl) (fun _ _ _ h => h) rfl wn (q_move rfl) (Hp.le_refl _) (by repeat (first | exact Ent.nil _ | exact Ent.refl _ | (refine Ent.pick (by repeat (first | exact Pick.here | apply Pick.there)) ?_) | refine Ent.skip ?_)) (by kernel_rfl) ?_
      refine r_take (i := 1) (bs' := #[true, true, false, false, false, false, false]) rfl (by kernel_rfl) (by kernel_rfl) (by kernel_rfl) (fun _ _ _ h => h) rfl wn (q_nilCheck rfl) (Hp.le_refl _) (by repeat (first | exact Ent.nil _ | exact Ent.refl _ | (refine Ent.pick (by repeat (first | exact Pick.here | apply Pick.there)) ?_) | refine Ent.skip ?_)) (by kernel_rfl) ?_
      refine r_take (i := 2) (bs' := #[true, true, true, false, false, false, false]) rfl (by kernel_rfl) (by kernel_rfl) (by kernel_rfl) (fun _ _ _ h => h) rfl wn (q_fieldp rfl fo_98_2) (Hp.le_refl _) (by repeat (first | exact Ent.nil _ | exact Ent.refl _ | (refine Ent.pick (by repeat (first | exact Pick.here | apply Pick.there)) ?_) | refine Ent.skip ?_)) (by kernel_rfl) ?_
      refine r_take (i := 3) (bs' := #[true, true, true, true, false, false, false]) rfl (by kernel_rfl) (by kernel_rfl) (by kernel_rfl) (fun _ _ _ h => h) rfl wn (q_loadp (v := .map (some d.bo)) sc_95 rfl (by repeat (first | exact Pick.here | apply Pick.there)) rfl) (Hp.le_refl _) (by repeat (first | exact Ent.nil _ | exact Ent.refl _ | (refine Ent.pick (by repeat (first | exact Pick.here | apply Pick.there)) ?_) | refine Ent.skip ?_)) (by kernel_rfl) ?_
      refine r_take (i := 4) (bs' := #[true, true, true, true, true, false, false]) rfl (by kernel_rfl) (by kernel_rfl) (by kernel_rfl) (fun _ _ _ h => h) rfl wn (q_move rfl) (Hp.le_refl _) (by repeat (first | exact Ent.nil _ | exact Ent.refl _ | (refine Ent.pick (by repeat (first | exact Pick.here | apply Pick.there)) ?_) | refine Ent.skip ?_)) (by kernel_rfl) ?_
      refine r_take (i := 5) (bs' := #[true, true, true, true, true, true, false]) rfl (by kernel_rfl) (by kernel_rfl) (by kernel_rfl) (fun _ _ _ h => h) rfl wn (q_loadpa (vs := encSent { (mgetD ((((sortI (mkeys d.out)).take x.d).foldl (tickStep (d.now + 1) d.span) (d.out, [])).1) ((sortI (mkeys d.out)).getD x.d default) zSent) with at_ := (d.now + 1) }) ag_100 rfl (by repeat (first | exact Pick.here | apply Pick.there)) rfl) (Hp.le_refl _) (by repeat (first | exact Ent.nil _ | exact Ent.refl _ | (refine Ent.pick (by repeat (first | exact Pick.here | apply Pick.there)) ?_) | refine Ent.skip ?_)) (by kernel_rfl) ?_
      refine r_one (i := 6) (bs' := #[true, true, true, true, true, true, true]) (by kernel_rfl) (by kernel_rfl) ?_
      refine o_step rfl (s_s0 wn (s_mset (ek := (Value.int .i64)) (ev := (aggV encSent)) (k := ((sortI (mkeys d.out)).getD x.d default)) (v := { (mgetD ((((sortI (mkeys d.out)).take x.d).foldl (tickStep (d.now + 1) d.span) (d.out, [])).1) ((sortI (mkeys d.out)).getD x.d default) zSent) with at_ := (d.now + 1) }) (m' := (mset ((((sortI (mkeys d.out)).take x.d).foldl (tickStep (d.now + 1) d.span) (d.out, [])).1) ((sortI (mkeys d.out)).getD x.d default) { (mgetD ((((sortI (mkeys d.out)).take x.d).foldl (tickStep (d.now + 1) d.span) (d.out, [])).1) ((sortI (mkeys d.out)).getD x.d default) zSent) with at_ := (d.now + 1) })) Try.underlying95 (mkey_int Try.underlying3) rfl rfl rfl rfl rfl (by repeat (first | exact Pick.here | apply Pick.there))) ?_)
      rintro _ _ ⟨rfl, rfl⟩
      refine r_cont (Hp.le_refl _) (by repeat (first | exact Ent.nil _ | exact Ent.refl _ | (refine Ent.pick (by repeat (first | exact Pick.here | apply Pick.there)) ?_) | refine Ent.skip ?_)) ?_
      refine r_done (by kernel_rfl) ?_
      refine k_then_n ?_
      refine c_region ?_
      refine l_step (s_q rfl wn (q_move rfl) ?_)
      refine l_step (s_q rfl wn (q_fieldp rfl fo_100_0) ?_)
      refine l_step (s_q rfl wn (q_loadpa (vs := encOrd ({ (mgetD ((((sortI (mkeys d.out)).take x.d).foldl (tickStep (d.now + 1) d.span) (d.out, [])).1) ((sortI (mkeys d.out)).getD x.d default) zSent) with at_ := (d.now + 1) }.Order)) ag_30 rfl (by repeat (first | exact Pick.here | apply Pick.there)) rfl) ?_)
      refine l_step (s_s rfl wn (s_buildSlice (cs := ([({ (mgetD ((((sortI (mkeys d.out)).take x.d).foldl (tickStep (d.now + 1) d.span) (d.out, [])).1) ((sortI (mkeys d.out)).getD x.d default) zSent) with at_ := (d.now + 1) }.Order)] : List Ord).flatMap encOrd) Try.underlying40 eo_30 rfl rfl rfl rfl (by decide) (by decide)) ?_)
      rintro _ _ ⟨b58, rfl, rfl⟩
      refine l_step (s_s rfl wn (s_appendn (enc := encOrd) (xs := (((((sortI (mkeys d.out)).take x.d).foldl (tickStep (d.now + 1) d.span) (d.out, [])).2) : List Ord)) (ys := ([({ (mgetD ((((sortI (mkeys d.out)).take x.d).foldl (tickStep (d.now + 1) d.span) (d.out, [])).1) ((sortI (mkeys d.out)).getD x.d default) zSent) with at_ := (d.now + 1) }.Order)] : List Ord)) (Γ' := fun a' cap' => _) Try.underlying40 eo_30 (by decide) rfl rfl (rd_row (by repeat (first | exact Pick.here | apply Pick.there))) (oneOrds _) (by first | omega | (simp only [List.length_append, List.length_cons, List.length_nil] at *; omega)) (by first | omega | (simp only [List.length_append, List.length_cons, List.length_nil] at *; omega)) (fun _ _ => (by repeat (first | exact Pick.here | apply Pick.there)))) ?_)
      rintro _ _ ⟨a59, c59, rfl, rfl⟩
      refine l_step (s_q rfl wn (q_assign rfl) ?_)
      refine l_nil ?_
      refine k_blk_n ?_
      refine k_then_n ?_
      refine c_region ?_
      refine l_step (s_q rfl wn (q_add rfl rfl (by omega) (by omega)) ?_)
      refine l_step (s_q rfl wn (q_move rfl) ?_)
      refine l_nil ?_
      refine k_then_n ?_
      have e1 : (((sortI (mkeys d.out)).take (x.d + 1)).foldl (tickStep (d.now + 1) d.span) (d.out, [])) = (mset (((sortI (mkeys d.out)).take x.d).foldl (tickStep (d.now + 1) d.span) (d.out, [])).1 ((sortI (mkeys d.out)).getD x.d default) { (mgetD (((sortI (mkeys d.out)).take x.d).foldl (tickStep (d.now + 1) d.span) (d.out, [])).1 ((sortI (mkeys d.out)).getD x.d default) zSent) with at_ := d.now + 1 }, (((sortI (mkeys d.out)).take x.d).foldl (tickStep (d.now + 1) d.span) (d.out, [])).2 ++ [(mgetD (((sortI (mkeys d.out)).take x.d).foldl (tickStep (d.now + 1) d.span) (d.out, [])).1 ((sortI (mkeys d.out)).getD x.d default) zSent).Order]) := by rw [foldl_take _ _ _ _ (by omega)]; exact if_pos hd
      have e2 : (((sortI (mkeys d.out)).take x.d).foldl (tickStep (d.now + 1) d.span) (d.out, [])).2 ++ [(mgetD (((sortI (mkeys d.out)).take x.d).foldl (tickStep (d.now + 1) d.span) (d.out, [])).1 ((sortI (mkeys d.out)).getD x.d default) zSent).Order] = (((sortI (mkeys d.out)).take (x.d + 1)).foldl (tickStep (d.now + 1) d.span) (d.out, [])).2 := by rw [e1]
      have e3 : (((sortI (mkeys d.out)).take x.d).foldl (tickStep (d.now + 1) d.span) (d.out, [])).2.length + 1 = (((sortI (mkeys d.out)).take (x.d + 1)).foldl (tickStep (d.now + 1) d.span) (d.out, [])).2.length := by rw [e1]; simp
      have e4 : mset (((sortI (mkeys d.out)).take x.d).foldl (tickStep (d.now + 1) d.span) (d.out, [])).1 ((sortI (mkeys d.out)).getD x.d default) { (mgetD (((sortI (mkeys d.out)).take x.d).foldl (tickStep (d.now + 1) d.span) (d.out, [])).1 ((sortI (mkeys d.out)).getD x.d default) zSent) with at_ := d.now + 1 } = (((sortI (mkeys d.out)).take (x.d + 1)).foldl (tickStep (d.now + 1) d.span) (d.out, [])).1 := by rw [e1]
      rw [e2, e3, e4]
      exact t_next (⟨x.d + 1, a59, c59, none, 0, none, 0⟩ : Lp _) ⟨by simp only []; omega, by simp only []; omega⟩ (.cons rfl (by first | rfl | exact inte (by omega) | (simp; done) | (simp <;> omega) | simp [*]) (.cons rfl (by first | rfl | exact inte (by omega) | (simp; done) | (simp <;> omega) | simp [*]) (.cons rfl (by first | rfl | exact inte (by omega) | (simp; done) | (simp <;> omega) | simp [*]) (.cons rfl (by first | rfl | exact inte (by omega) | (simp; done) | (simp <;> omega) | simp [*]) (.cons rfl (by first | rfl | exact inte (by omega) | (simp; done) | (simp <;> omega) | simp [*]) (.cons rfl (by first | rfl | exact inte (by omega) | (simp; done) | (simp <;> omega) | simp [*]) (.nil _))))))) (by repeat (first | exact Ent.nil _ | exact Ent.refl _ | (refine Ent.pick (by repeat (first | exact Pick.here | apply Pick.there)) ?_) | refine Ent.skip ?_))
    · skip
      have hd : dueB (d.now + 1) d.span (mgetD (((sortI (mkeys d.out)).take x.d).foldl (tickStep (d.now + 1) d.span) (d.out, [])).1 ((sortI (mkeys d.out)).getD x.d default) zSent) = false := h1
      refine c_skip ?_
      refine k_blk_n ?_
      refine k_then_n ?_
      refine c_region ?_
      refine l_step (s_q rfl wn (q_add rfl rfl (by omega) (by omega)) ?_)
      refine l_step (s_q rfl wn (q_move rfl) ?_)
      refine l_nil ?_
      refine k_then_n ?_
      have e1 : (((sortI (mkeys d.out)).take (x.d + 1)).foldl (tickStep (d.now + 1) d.span) (d.out, [])) = (((sortI (mkeys d.out)).take x.d).foldl (tickStep (d.now + 1) d.span) (d.out, [])) := by rw [foldl_take _ _ _ _ (by omega)]; exact if_neg (by rw [hd]; decide)
      rw [← e1]
      exact t_next (⟨x.d + 1, x.a1, x.c1, none, 0, none, 0⟩ : Lp _) ⟨by simp only []; omega, by simp only []; omega⟩ (.cons rfl (by first | rfl | exact inte (by omega) | (simp; done) | (simp <;> omega) | simp [*]) (.cons rfl (by first | rfl | exact inte (by omega) | (simp; done) | (simp <;> omega) | simp [*]) (.cons rfl (by first | rfl | exact inte (by omega) | (simp; done) | (simp <;> omega) | simp [*]) (.cons rfl (by first | rfl | exact inte (by omega) | (simp; done) | (simp <;> omega) | simp [*]) (.cons rfl (by first | rfl | exact inte (by omega) | (simp; done) | (simp <;> omega) | simp [*]) (.cons rfl (by first | rfl | exact inte (by omega) | (simp; done) | (simp <;> omega) | simp [*]) (.nil _))))))) (by repeat (first | exact Ent.nil _ | exact Ent.refl _ | (refine Ent.pick (by repeat (first | exact Pick.here | apply Pick.there)) ?_) | refine Ent.skip ?_))
  · try simp only [Bool.and_eq_true, Bool.or_eq_true, Bool.not_eq_true', Bool.and_eq_false_iff, Bool.or_eq_false_iff, Bool.not_eq_false', decide_eq_true_eq, decide_eq_false_iff_not, Bool.not_eq_eq_eq_not, Bool.not_true, Bool.not_false, Bool.not_eq_true, Bool.not_eq_false, beq_iff_eq, bne_iff_ne, ne_eq, Decidable.not_not] at h0
    have hk : x.d = (sortI (mkeys d.out)).length := by omega
    have hof : (((sortI (mkeys d.out)).take x.d).foldl (tickStep (d.now + 1) d.span) (d.out, [])) = tickF (d.now + 1) d.span d.out := by rw [hk, List.take_length]; rfl
    rw [hof]
    refine c_exit ?_
    refine k_then_x ?_
    refine k_then_x ?_
    refine k_blk_x ?_
    refine k_then_n ?_
    refine c_seq ?_
    refine c_region ?_
    refine l_step (s_q rfl wn (q_move rfl) ?_)
    refine l_step (s_q rfl wn (q_assign rfl) ?_)
    refine l_nil ?_
    refine k_then_n ?_
    refine c_ret ?_
    exact t_ret [.row 30 4 x.a1 (tickF (d.now + 1) d.span d.out).2.length x.c1 ((tickF (d.now + 1) d.span d.out).2.flatMap encOrd), .pts b (encDisp (⟨d.span, d.now + 1, some d.bo, some d.bt⟩ : Disp)) 98, MP (Value.int .i64) (aggV encSent) d.bo (tickF (d.now + 1) d.span d.out).1, MP (Value.int .i64) (aggV encTold) d.bt d.told] rfl (.tmp rfl .nil) rfl (Hp.le_refl _) ⟨rfl, x.a1, x.c1, rfl, rfl⟩ (by repeat (first | exact Ent.nil _ | exact Ent.refl _ | (refine Ent.pick (by repeat (first | exact Pick.here | apply Pick.there)) ?_) | refine Ent.skip ?_))

theorem hear_spec (b : Nat) (d : DD) (rs_a : Option Addr) (rs_n rs_c : Nat) (rs : List Rep_) (hrs_n : rs.length = rs_n) (ρ : Hp) (hok : OutOk d.now d.out) (htk : ToldOk d.now d.told) (h0' : 0 ≤ d.now ∧ d.now ≤ 1000000) (hwr : ∀ r ∈ rs, I64 r.Cluster) (hlr : rs.length ≤ 1000000) (hro : Ro ρ 6 rs_a rs_n rs_c (rs.flatMap encRep_)) : Spec0 Try.prog 14 #[.pointer (some ⟨b, 0, none⟩), .slice rs_a rs_n rs_c] ρ [.pts b (encDisp (⟨d.span, d.now, (some d.bo), (some d.bt)⟩ : Disp)) 98, MP (Value.int .i64) (aggV encSent) d.bo d.out, MP (Value.int .i64) (aggV encTold) d.bt d.told] (fun v Γ' => ∃ a c, v = .slice a (hearF d.now d.span d.out d.told rs).2.length c ∧ Γ' = [.row 39 7 a (hearF d.now d.span d.out d.told rs).2.length c ((hearF d.now d.span d.out d.told rs).2.flatMap encOp1), .pts b (encDisp (⟨d.span, d.now, (some d.bo), (some d.bt)⟩ : Disp)) 98, MP (Value.int .i64) (aggV encSent) d.bo d.out, MP (Value.int .i64) (aggV encTold) d.bt (hearF d.now d.span d.out d.told rs).1]) := by
  refine spec_of (n := 113) (vs := [_, _]) (σ := [(0, _), (1, _)]) Try.func14 rfl rfl rfl rfl fun E Δ => ?_
  simp only [List.cons_append, List.nil_append]
  refine c_seq ?_
  refine c_region ?_
  refine l_step (s_q rfl wn (q_assign rfl) ?_)
  refine l_nil ?_
  refine k_then_n ?_
  refine c_seq ?_
  refine c_region ?_
  refine l_step (s_q rfl wn (q_assign rfl) ?_)
  refine l_nil ?_
  refine k_then_n ?_
  refine c_seq ?_
  refine c_seq ?_
  refine c_region ?_
  refine l_step (s_q rfl wn (q_move rfl) ?_)
  refine l_step (s_q rfl wn (q_len Try.underlying49 rfl) ?_)
  refine l_step (s_q rfl wn (q_move rfl) ?_)
  refine l_nil ?_
  refine k_then_n ?_
  refine c_block ?_
  refine Tr.ent (Ent.nilrow 39 7 _) ?_
  refine Tr.env (σ' := [(0, _), (4, _), (5, _), (11, _), (12, _), (13, _)]) (.cons rfl rfl (.cons rfl rfl (.cons rfl rfl (.cons rfl rfl (.cons rfl rfl (.cons rfl rfl (.nil _))))))) ?_
  refine t_loop (ι := Lp (Nat)) (fun x => x.d ≤ rs_n) (fun x => rs_n - x.d) (fun x => [(0, .pointer (some ⟨b, 0, none⟩)), (4, .slice none 0 0), (5, .slice x.a1 ((((rs.take x.d).foldl (hearStep d.now d.span d.out) (d.told, [])).2).length) x.c1), (11, .slice rs_a rs_n rs_c), (12, .int .i64 (rs_n : Int)), (13, .int .i64 (x.d : Int))]) (fun x => .row 39 7 x.a1 ((((rs.take x.d).foldl (hearStep d.now d.span d.out) (d.told, [])).2).length) x.c1 ((((rs.take x.d).foldl (hearStep d.now d.span d.out) (d.told, [])).2).flatMap encOp1) :: .pts b (encDisp (⟨d.span, d.now, (some d.bo), (some d.bt)⟩ : Disp)) 98 :: MP (Value.int .i64) (aggV encSent) d.bo d.out :: MP (Value.int .i64) (aggV encTold) d.bt (((rs.take x.d).foldl (hearStep d.now d.span d.out) (d.told, [])).1) :: Δ) (⟨0, none, 0, none, 0, none, 0⟩ : Lp _) (Nat.zero_le _) ?_ ?_ ?_
  · exact .cons rfl (by first | rfl | exact inte (by omega) | (simp; done) | (simp <;> omega) | simp [*]) (.cons rfl (by first | rfl | exact inte (by omega) | (simp; done) | (simp <;> omega) | simp [*]) (.cons rfl (by first | rfl | exact inte (by omega) | (simp; done) | (simp <;> omega) | simp [*]) (.cons rfl (by first | rfl | exact inte (by omega) | (simp; done) | (simp <;> omega) | simp [*]) (.cons rfl (by first | rfl | exact inte (by omega) | (simp; done) | (simp <;> omega) | simp [*]) (.cons rfl (by first | rfl | exact inte (by omega) | (simp; done) | (simp <;> omega) | simp [*]) (.nil _))))))
  · exact (by repeat (first | exact Ent.nil _ | exact Ent.refl _ | (refine Ent.pick (by repeat (first | exact Pick.here | apply Pick.there)) ?_) | refine Ent.skip ?_))
  intro x hx
  have hinv := hear_inv (span := d.span) (out := d.out) htk h0'.1 (rs.take x.d) (fun r hr => hwr r (List.mem_of_mem_take hr))
  have hlt := hinv.2.2
  rw [List.length_take] at hlt
  have hlt2 : ((rs.take x.d).foldl (hearStep d.now d.span d.out) (d.told, [])).2.length ≤ 2 * min x.d rs.length := hlt
  have hat := get_ok (z := zTold) (Q := fun s : Told => 0 ≤ s.at_ ∧ s.at_ ≤ d.now) (fun p hp => (hinv.1 p hp).2) ⟨by decide, h0'.1⟩ (rs.getD x.d default).Cluster
  replace hat : 0 ≤ (mgetD ((rs.take x.d).foldl (hearStep d.now d.span d.out) (d.told, [])).1 (rs.getD x.d default).Cluster zTold).at_ ∧ (mgetD ((rs.take x.d).foldl (hearStep d.now d.span d.out) (d.told, [])).1 (rs.getD x.d default).Cluster zTold).at_ ≤ d.now := hat
  refine c_seq ?_
  refine c_region ?_
  refine l_step (s_q rfl wn (q_lss rfl rfl) ?_)
  refine l_nil ?_
  refine k_then_n ?_
  refine c_seq ?_
  refine c_cond rfl (fun h0 => ?_) (fun h0 => ?_)
  · try simp only [Bool.and_eq_true, Bool.or_eq_true, Bool.not_eq_true', Bool.and_eq_false_iff, Bool.or_eq_false_iff, Bool.not_eq_false', decide_eq_true_eq, decide_eq_false_iff_not, Bool.not_eq_eq_eq_not, Bool.not_true, Bool.not_false, Bool.not_eq_true, Bool.not_eq_false, beq_iff_eq, bne_iff_ne, ne_eq, Decidable.not_not] at h0
    refine c_skip ?_
    refine k_then_n ?_
    refine c_seq ?_
    refine c_block ?_
    refine c_seq ?_
    refine c_region ?_
    refine l_step (s_q rfl wn (q_indexe x.d Try.underlying49 sz_34 rfl rfl (by first | assumption | exact rd_ro (by assumption) | exact rd_row (by repeat (first | exact Pick.here | apply Pick.there))) (by decide) rfl (by first | assumption | omega | (simp only [List.length_cons, List.length_nil]; omega))) ?_)
    refine l_step (s_q rfl wn (q_loadea (vs := encRep_ (rs.getD x.d default)) (enc := encRep_) (xs := rs) (j := x.d) (off := 0) ag_34 rfl (by first | assumption | exact rd_ro (by assumption) | exact rd_row (by repeat (first | exact Pick.here | apply Pick.there))) (fun _ => rfl) (by first | assumption | omega | (simp only [List.length_cons, List.length_nil]; omega)) (by simp [encRep_]) (by simp [encRep_]) rfl) ?_)
    refine l_step (s_s rfl wn (s_allocz (cs := encRep_ zRep_) (by kernel_rfl)) ?_)
    rintro _ _ ⟨b7, rfl, rfl⟩
    refine l_step (s_s0 wn (s_storep (ws := encRep_ (rs.getD x.d default)) (cs := encRep_ zRep_) (cs' := encRep_ (rs.getD x.d default)) rfl rfl rfl sz_34 (oneRep_ _) (by simp [encRep_, encRep_]) rfl (by repeat (first | exact Pick.here | apply Pick.there))) ?_)
    rintro _ _ ⟨rfl, rfl⟩
    refine l_nil ?_
    refine k_then_n ?_
    refine c_seq ?_
    refine c_draw (m := 9) (bs := #[false, false, false, false, false, false, false, false, false]) [.pts b7 (encRep_ (rs.getD x.d default)) 34, .row 39 7 x.a1 ((((rs.take x.d).foldl (hearStep d.now d.span d.out) (d.told, [])).2).length) x.c1 ((((rs.take x.d).foldl (hearStep d.now d.span d.out) (d.told, [])).2).flatMap encOp1), .pts b (encDisp (⟨d.span, d.now, (some d.bo), (some d.bt)⟩ : Disp)) 98, MP (Value.int .i64) (aggV encSent) d.bo d.out, MP (Value.int .i64) (aggV encTold) d.bt (((rs.take x.d).foldl (hearStep d.now d.span d.out) (d.told, [])).1)] (by kernel_rfl) rfl (by kernel_rfl) ?_
    refine r_take (i := 0) (bs' := #[true, false, false, false, false, false, false, false, false]) rfl (by kernel_rfl) (by kernel_rfl) (by kernel_rfl) (fun _ _ _ h => h) rfl wn (q_move rfl) (Hp.le_refl _) (by repeat (first | exact Ent.nil _ | exact Ent.refl _ | (refine Ent.pick (by repeat (first | exact Pick.here | apply Pick.there)) ?_) | refine Ent.skip ?_)) (by kernel_rfl) ?_
    refine r_take (i := 1) (bs' := #[true, true, false, false, false, false, false, false, false]) rfl (by kernel_rfl) (by kernel_rfl) (by kernel_rfl) (fun _ _ _ h => h) rfl wn (q_nilCheck rfl) (Hp.le_refl _) (by repeat (first | exact Ent.nil _ | exact Ent.refl _ | (refine Ent.pick (by repeat (first | exact Pick.here | apply Pick.there)) ?_) | refine Ent.skip ?_)) (by kernel_rfl) ?_
    refine r_take (i := 2) (bs' := #[true, true, true, false, false, false, false, false, false]) rfl (by kernel_rfl) (by kernel_rfl) (by kernel_rfl) (fun _ _ _ h => h) rfl wn (q_fieldp rfl fo_98_3) (Hp.le_refl _) (by repeat (first | exact Ent.nil _ | exact Ent.refl _ | (refine Ent.pick (by repeat (first | exact Pick.here | apply Pick.there)) ?_) | refine Ent.skip ?_)) (by kernel_rfl) ?_
    refine r_take (i := 3) (bs' := #[true, true, true, true, false, false, false, false, false]) rfl (by kernel_rfl) (by kernel_rfl) (by kernel_rfl) (fun _ _ _ h => h) rfl wn (q_loadp (v := .map (some d.bt)) sc_96 rfl (by repeat (first | exact Pick.here | apply Pick.there)) rfl) (Hp.le_refl _) (by repeat (first | exact Ent.nil _ | exact Ent.refl _ | (refine Ent.pick (by repeat (first | exact Pick.here | apply Pick.there)) ?_) | refine Ent.skip ?_)) (by kernel_rfl) ?_
    refine r_take (i := 4) (bs' := #[true, true, true, true, true, false, false, false, false]) rfl (by kernel_rfl) (by kernel_rfl) (by kernel_rfl) (fun _ _ _ h => h) rfl wn (q_fieldp rfl fo_34_0) (Hp.le_refl _) (by repeat (first | exact Ent.nil _ | exact Ent.refl _ | (refine Ent.pick (by repeat (first | exact Pick.here | apply Pick.there)) ?_) | refine Ent.skip ?_)) (by kernel_rfl) ?_
    refine r_take (i := 5) (bs' := #[true, true, true, true, true, true, false, false, false]) rfl (by kernel_rfl) (by kernel_rfl) (by kernel_rfl) (fun _ _ _ h => h) rfl wn (q_loadp (v := .int .i64 ((rs.getD x.d default).Cluster)) sc_3 rfl (by repeat (first | exact Pick.here | apply Pick.there)) rfl) (Hp.le_refl _) (by repeat (first | exact Ent.nil _ | exact Ent.refl _ | (refine Ent.pick (by repeat (first | exact Pick.here | apply Pick.there)) ?_) | refine Ent.skip ?_)) (by kernel_rfl) ?_
    refine r_take (i := 6) (bs' := #[true, true, true, true, true, true, true, false, false]) rfl (by kernel_rfl) (by kernel_rfl) (by kernel_rfl) (fun _ _ _ h => h) rfl wn (q_look (v := .agg (encTold (mgetD (((rs.take x.d).foldl (hearStep d.now d.span d.out) (d.told, [])).1) ((rs.getD x.d default).Cluster) zTold)).toArray) (ek := (Value.int .i64)) (ev := (aggV encTold)) (k := ((rs.getD x.d default).Cluster)) (zv := zTold) Try.underlying96 (mkey_int Try.underlying3) zi_103 rfl rfl (by repeat (first | exact Pick.here | apply Pick.there)) rfl) (Hp.le_refl _) (by repeat (first | exact Ent.nil _ | exact Ent.refl _ | (refine Ent.pick (by repeat (first | exact Pick.here | apply Pick.there)) ?_) | refine Ent.skip ?_)) (by kernel_rfl) ?_
    refine r_one (i := 7) (bs' := #[true, true, true, true, true, true, true, true, false]) (by kernel_rfl) (by kernel_rfl) ?_
    refine o_step rfl (s_s rfl wn (s_allocz (cs := encTold zTold) (by kernel_rfl)) ?_)
    rintro _ _ ⟨b8, rfl, rfl⟩
    refine r_cont (Hp.le_refl _) (by repeat (first | exact Ent.nil _ | exact Ent.refl _ | (refine Ent.pick (by repeat (first | exact Pick.here | apply Pick.there)) ?_) | refine Ent.skip ?_)) ?_
    refine r_one (i := 8) (bs' := #[true, true, true, true, true, true, true, true, true]) (by kernel_rfl) (by kernel_rfl) ?_
    refine o_step rfl (s_s0 wn (s_storep (ws := encTold (mgetD (((rs.take x.d).foldl (hearStep d.now d.span d.out) (d.told, [])).1) ((rs.getD x.d default).Cluster) zTold)) (cs := encTold zTold) (cs' := encTold (mgetD (((rs.take x.d).foldl (hearStep d.now d.span d.out) (d.told, [])).1) ((rs.getD x.d default).Cluster) zTold)) rfl rfl rfl sz_103 (oneTold _) (by simp [encTold, encTold]) rfl (by repeat (first | exact Pick.here | apply Pick.there))) ?_)
    rintro _ _ ⟨rfl, rfl⟩
    refine r_cont (Hp.le_refl _) (by repeat (first | exact Ent.nil _ | exact Ent.refl _ | (refine Ent.pick (by repeat (first | exact Pick.here | apply Pick.there)) ?_) | refine Ent.skip ?_)) ?_
    refine r_done (by kernel_rfl) ?_
    refine k_then_n ?_
    refine c_seq ?_
    refine c_draw (m := 13) (bs := #[false, false, false, false, false, false, false, false, false, false, false, false, false]) [.pts b8 (encTold (mgetD (((rs.take x.d).foldl (hearStep d.now d.span d.out) (d.told, [])).1) ((rs.getD x.d default).Cluster) zTold)) 103, .pts b7 (encRep_ (rs.getD x.d default)) 34, .row 39 7 x.a1 ((((rs.take x.d).foldl (hearStep d.now d.span d.out) (d.told, [])).2).length) x.c1 ((((rs.take x.d).foldl (hearStep d.now d.span d.out) (d.told, [])).2).flatMap encOp1), .pts b (encDisp (⟨d.span, d.now, (some d.bo), (some d.bt)⟩ : Disp)) 98, MP (Value.int .i64) (aggV encSent) d.bo d.out, MP (Value.int .i64) (aggV encTold) d.bt (((rs.take x.d).foldl (hearStep d.now d.span d.out) (d.told, [])).1)] (by kernel_rfl) rfl (by kernel_rfl) ?_
    refine r_take (i := 0) (bs' := #[true, false, false, false, false, false, false, false, false, false, false, false, false]) rfl (by kernel_rfl) (by kernel_rfl) (by kernel_rfl) (fun _ _ _ h => h) rfl wn (q_move rfl) (Hp.le_refl _) (by repeat (first | exact Ent.nil _ | exact Ent.refl _ | (refine Ent.pick (by repeat (first | exact Pick.here | apply Pick.there)) ?_) | refine Ent.skip ?_)) (by kernel_rfl) ?_
    refine r_take (i := 1) (bs' := #[true, true, false, false, false, false, false, false, false, false, false, false, false]) rfl (by kernel_rfl) (by kernel_rfl) (by kernel_rfl) (fun _ _ _ h => h) rfl wn (q_nilCheck rfl) (Hp.le_refl _) (by repeat (first | exact Ent.nil _ | exact Ent.refl _ | (refine Ent.pick (by repeat (first | exact Pick.here | apply Pick.there)) ?_) | refine Ent.skip ?_)) (by kernel_rfl) ?_
    refine r_take (i := 2) (bs' := #[true, true, true, false, false, false, false, false, false, false, false, false, false]) rfl (by kernel_rfl) (by kernel_rfl) (by kernel_rfl) (fun _ _ _ h => h) rfl wn (q_fieldp rfl fo_98_2) (Hp.le_refl _) (by repeat (first | exact Ent.nil _ | exact Ent.refl _ | (refine Ent.pick (by repeat (first | exact Pick.here | apply Pick.there)) ?_) | refine Ent.skip ?_)) (by kernel_rfl) ?_
    refine r_take (i := 3) (bs' := #[true, true, true, true, false, false, false, false, false, false, false, false, false]) rfl (by kernel_rfl) (by kernel_rfl) (by kernel_rfl) (fun _ _ _ h => h) rfl wn (q_loadp (v := .map (some d.bo)) sc_95 rfl (by repeat (first | exact Pick.here | apply Pick.there)) rfl) (Hp.le_refl _) (by repeat (first | exact Ent.nil _ | exact Ent.refl _ | (refine Ent.pick (by repeat (first | exact Pick.here | apply Pick.there)) ?_) | refine Ent.skip ?_)) (by kernel_rfl) ?_
    refine r_take (i := 4) (bs' := #[true, true, true, true, true, false, false, false, false, false, false, false, false]) rfl (by kernel_rfl) (by kernel_rfl) (by kernel_rfl) (fun _ _ _ h => h) rfl wn (q_fieldp rfl fo_34_0) (Hp.le_refl _) (by repeat (first | exact Ent.nil _ | exact Ent.refl _ | (refine Ent.pick (by repeat (first | exact Pick.here | apply Pick.there)) ?_) | refine Ent.skip ?_)) (by kernel_rfl) ?_
    refine r_take (i := 5) (bs' := #[true, true, true, true, true, true, false, false, false, false, false, false, false]) rfl (by kernel_rfl) (by kernel_rfl) (by kernel_rfl) (fun _ _ _ h => h) rfl wn (q_loadp (v := .int .i64 ((rs.getD x.d default).Cluster)) sc_3 rfl (by repeat (first | exact Pick.here | apply Pick.there)) rfl) (Hp.le_refl _) (by repeat (first | exact Ent.nil _ | exact Ent.refl _ | (refine Ent.pick (by repeat (first | exact Pick.here | apply Pick.there)) ?_) | refine Ent.skip ?_)) (by kernel_rfl) ?_
    refine r_take (i := 6) (bs' := #[true, true, true, true, true, true, true, false, false, false, false, false, false]) rfl (by kernel_rfl) (by kernel_rfl) (by kernel_rfl) (fun _ _ _ h => h) rfl wn (q_look2 (v := .agg (encSent (mgetD d.out ((rs.getD x.d default).Cluster) zSent)).toArray) (ek := (Value.int .i64)) (ev := (aggV encSent)) (k := ((rs.getD x.d default).Cluster)) (zv := zSent) Try.underlying95 (mkey_int Try.underlying3) zi_100 rfl rfl (by repeat (first | exact Pick.here | apply Pick.there)) rfl) (Hp.le_refl _) (by repeat (first | exact Ent.nil _ | exact Ent.refl _ | (refine Ent.pick (by repeat (first | exact Pick.here | apply Pick.there)) ?_) | refine Ent.skip ?_)) (by kernel_rfl) ?_
    refine r_take (i := 7) (bs' := #[true, true, true, true, true, true, true, true, false, false, false, false, false]) rfl (by kernel_rfl) (by kernel_rfl) (by kernel_rfl) (fun _ _ _ h => h) rfl wn (q_move rfl) (Hp.le_refl _) (by repeat (first | exact Ent.nil _ | exact Ent.refl _ | (refine Ent.pick (by repeat (first | exact Pick.here | apply Pick.there)) ?_) | refine Ent.skip ?_)) (by kernel_rfl) ?_
    refine r_take (i := 8) (bs' := #[true, true, true, true, true, true, true, true, true, false, false, false, false]) rfl (by kernel_rfl) (by kernel_rfl) (by kernel_rfl) (fun _ _ _ h => h) rfl wn (q_extract rfl rfl) (Hp.le_refl _) (by repeat (first | exact Ent.nil _ | exact Ent.refl _ | (refine Ent.pick (by repeat (first | exact Pick.here | apply Pick.there)) ?_) | refine Ent.skip ?_)) (by kernel_rfl) ?_
    refine r_take (i := 9) (bs' := #[true, true, true, true, true, true, true, true, true, true, false, false, false]) rfl (by kernel_rfl) (by kernel_rfl) (by kernel_rfl) (fun _ _ _ h => h) rfl wn (q_extract rfl rfl) (Hp.le_refl _) (by repeat (first | exact Ent.nil _ | exact Ent.refl _ | (refine Ent.pick (by repeat (first | exact Pick.here | apply Pick.there)) ?_) | refine Ent.skip ?_)) (by kernel_rfl) ?_
    refine r_one (i := 10) (bs' := #[true, true, true, true, true, true, true, true, true, true, true, false, false]) (by kernel_rfl) (by kernel_rfl) ?_
    refine o_step rfl (s_s rfl wn (s_allocz (cs := encSent zSent) (by kernel_rfl)) ?_)
    rintro _ _ ⟨b9, rfl, rfl⟩
    refine r_cont (Hp.le_refl _) (by repeat (first | exact Ent.nil _ | exact Ent.refl _ | (refine Ent.pick (by repeat (first | exact Pick.here | apply Pick.there)) ?_) | refine Ent.skip ?_)) ?_
    refine r_one (i := 11) (bs' := #[true, true, true, true, true, true, true, true, true, true, true, true, false]) (by kernel_rfl) (by kernel_rfl) ?_
    refine o_step rfl (s_s0 wn (s_storep (ws := encSent (mgetD d.out ((rs.getD x.d default).Cluster) zSent)) (cs := encSent zSent) (cs' := encSent (mgetD d.out ((rs.getD x.d default).Cluster) zSent)) rfl rfl rfl sz_100 (oneSent _) (by simp [encSent, encSent]) rfl (by repeat (first | exact Pick.here | apply Pick.there))) ?_)
    rintro _ _ ⟨rfl, rfl⟩
    refine r_cont (Hp.le_refl _) (by repeat (first | exact Ent.nil _ | exact Ent.refl _ | (refine Ent.pick (by repeat (first | exact Pick.here | apply Pick.there)) ?_) | refine Ent.skip ?_)) ?_
    refine r_take (i := 12) (bs' := #[true, true, true, true, true, true, true, true, true, true, true, true, true]) rfl (by kernel_rfl) (by kernel_rfl) (by kernel_rfl) (fun _ _ _ h => h) rfl wn (q_assign rfl) (Hp.le_refl _) (by repeat (first | exact Ent.nil _ | exact Ent.refl _ | (refine Ent.pick (by repeat (first | exact Pick.here | apply Pick.there)) ?_) | refine Ent.skip ?_)) (by kernel_rfl) ?_
    refine r_done (by kernel_rfl) ?_
    refine k_then_n ?_
    refine c_seq ?_
    refine c_seq ?_
    refine c_draw (m := 35) (bs := #[false, false, false, false, false, false, false, false, false, false, false, false, false, false, false, false, false, false, false, false, false, false, false, false, false, false, false, false, false, false, false, false, false, false, false]) [.pts b9 (encSent (mgetD d.out ((rs.getD x.d default).Cluster) zSent)) 100, .pts b8 (encTold (mgetD (((rs.take x.d).foldl (hearStep d.now d.span d.out) (d.told, [])).1) ((rs.getD x.d default).Cluster) zTold)) 103, .pts b7 (encRep_ (rs.getD x.d default)) 34, .row 39 7 x.a1 ((((rs.take x.d).foldl (hearStep d.now d.span d.out) (d.told, [])).2).length) x.c1 ((((rs.take x.d).foldl (hearStep d.now d.span d.out) (d.told, [])).2).flatMap encOp1), .pts b (encDisp (⟨d.span, d.now, (some d.bo), (some d.bt)⟩ : Disp)) 98, MP (Value.int .i64) (aggV encSent) d.bo d.out, MP (Value.int .i64) (aggV encTold) d.bt (((rs.take x.d).foldl (hearStep d.now d.span d.out) (d.told, [])).1)] (by kernel_rfl) rfl (by kernel_rfl) ?_
    refine r_take (i := 0) (bs' := #[true, false, false, false, false, false, false, false, false, false, false, false, false, false, false, false, false, false, false, false, false, false, false, false, false, false, false, false, false, false, false, false, false, false, false]) rfl (by kernel_rfl) (by kernel_rfl) (by kernel_rfl) (fun _ _ _ h => h) rfl wn (q_move rfl) (Hp.le_refl _) (by repeat (first | exact Ent.nil _ | exact Ent.refl _ | (refine Ent.pick (by repeat (first | exact Pick.here | apply Pick.there)) ?_) | refine Ent.skip ?_)) (by kernel_rfl) ?_
    refine r_take (i := 1) (bs' := #[true, true, false, false, false, false, false, false, false, false, false, false, false, false, false, false, false, false, false, false, false, false, false, false, false, false, false, false, false, false, false, false, false, false, false]) rfl (by kernel_rfl) (by kernel_rfl) (by kernel_rfl) (fun _ _ _ h => h) rfl wn (q_move rfl) (Hp.le_refl _) (by repeat (first | exact Ent.nil _ | exact Ent.refl _ | (refine Ent.pick (by repeat (first | exact Pick.here | apply Pick.there)) ?_) | refine Ent.skip ?_)) (by kernel_rfl) ?_
    refine r_takeg (i := 2) (b := (mhas d.out ((rs.getD x.d default).Cluster))) (bs' := #[true, true, true, false, false, false, false, false, false, false, false, false, false, false, false, false, false, false, false, false, false, false, false, false, false, false, false, false, false, false, false, false, false, false, false]) rfl (by kernel_rfl) (by kernel_rfl) (by kernel_rfl) (fun _ _ _ h => h) rfl (ask_t rfl rfl) (fun hb => q_fieldp rfl fo_100_0) (Hp.le_refl _) (by repeat (first | exact Ent.nil _ | exact Ent.refl _ | (refine Ent.pick (by repeat (first | exact Pick.here | apply Pick.there)) ?_) | refine Ent.skip ?_)) (by kernel_rfl) ?_
    refine r_takeg (i := 3) (b := (mhas d.out ((rs.getD x.d default).Cluster))) (bs' := #[true, true, true, true, false, false, false, false, false, false, false, false, false, false, false, false, false, false, false, false, false, false, false, false, false, false, false, false, false, false, false, false, false, false, false]) rfl (by kernel_rfl) (by kernel_rfl) (by kernel_rfl) (fun _ _ _ h => h) rfl (ask_t rfl rfl) (fun hb => OpQ.env (.cons rfl (gd_t hb) (.nil _) : EnvLe [(36, .pointer (some ⟨b9, 0, none⟩))] _) (q_fieldp rfl fo_30_0)) (Hp.le_refl _) (by repeat (first | exact Ent.nil _ | exact Ent.refl _ | (refine Ent.pick (by repeat (first | exact Pick.here | apply Pick.there)) ?_) | refine Ent.skip ?_)) (by kernel_rfl) ?_
    refine r_takeg (i := 4) (b := (mhas d.out ((rs.getD x.d default).Cluster))) (bs' := #[true, true, true, true, true, false, false, false, false, false, false, false, false, false, false, false, false, false, false, false, false, false, false, false, false, false, false, false, false, false, false, false, false, false, false]) rfl (by kernel_rfl) (by kernel_rfl) (by kernel_rfl) (fun _ _ _ h => h) rfl (ask_t rfl rfl) (fun hb => OpQ.env (.cons rfl (gd_t hb) (.nil _) : EnvLe [(37, .pointer (some ⟨b9, 0, none⟩))] _) (q_loadp (v := .int .i64 (((mgetD d.out ((rs.getD x.d default).Cluster) zSent).Order).ID)) sc_3 rfl (by repeat (first | exact Pick.here | apply Pick.there)) rfl)) (Hp.le_refl _) (by repeat (first | exact Ent.nil _ | exact Ent.refl _ | (refine Ent.pick (by repeat (first | exact Pick.here | apply Pick.there)) ?_) | refine Ent.skip ?_)) (by kernel_rfl) ?_
    refine r_takeg (i := 5) (b := (mhas d.out ((rs.getD x.d default).Cluster))) (bs' := #[true, true, true, true, true, true, false, false, false, false, false, false, false, false, false, false, false, false, false, false, false, false, false, false, false, false, false, false, false, false, false, false, false, false, false]) rfl (by kernel_rfl) (by kernel_rfl) (by kernel_rfl) (fun _ _ _ h => h) rfl (ask_t rfl rfl) (fun hb => q_fieldp rfl fo_34_1) (Hp.le_refl _) (by repeat (first | exact Ent.nil _ | exact Ent.refl _ | (refine Ent.pick (by repeat (first | exact Pick.here | apply Pick.there)) ?_) | refine Ent.skip ?_)) (by kernel_rfl) ?_
    refine r_takeg (i := 6) (b := (mhas d.out ((rs.getD x.d default).Cluster))) (bs' := #[true, true, true, true, true, true, true, false, false, false, false, false, false, false, false, false, false, false, false, false, false, false, false, false, false, false, false, false, false, false, false, false, false, false, false]) rfl (by kernel_rfl) (by kernel_rfl) (by kernel_rfl) (fun _ _ _ h => h) rfl (ask_t rfl rfl) (fun hb => OpQ.env (.cons rfl (gd_t hb) (.nil _) : EnvLe [(39, .pointer (some ⟨b7, 1, none⟩))] _) (q_loadp (v := .int .i64 ((rs.getD x.d default).Done)) sc_3 rfl (by repeat (first | exact Pick.here | apply Pick.there)) rfl)) (Hp.le_refl _) (by repeat (first | exact Ent.nil _ | exact Ent.refl _ | (refine Ent.pick (by repeat (first | exact Pick.here | apply Pick.there)) ?_) | refine Ent.skip ?_)) (by kernel_rfl) ?_
    refine r_takeg (i := 7) (b := (mhas d.out ((rs.getD x.d default).Cluster))) (bs' := #[true, true, true, true, true, true, true, true, false, false, false, false, false, false, false, false, false, false, false, false, false, false, false, false, false, false, false, false, false, false, false, false, false, false, false]) rfl (by kernel_rfl) (by kernel_rfl) (by kernel_rfl) (fun _ _ _ h => h) rfl (ask_t rfl rfl) (fun hb => OpQ.env (.cons rfl (gd_t hb) (.cons rfl (gd_t hb) (.nil _)) : EnvLe [(38, .int .i64 (((mgetD d.out ((rs.getD x.d default).Cluster) zSent).Order).ID)), (40, .int .i64 ((rs.getD x.d default).Done))] _) (q_eql rfl rfl)) (Hp.le_refl _) (by repeat (first | exact Ent.nil _ | exact Ent.refl _ | (refine Ent.pick (by repeat (first | exact Pick.here | apply Pick.there)) ?_) | refine Ent.skip ?_)) (by kernel_rfl) ?_
    refine r_take (i := 8) (bs' := #[true, true, true, true, true, true, true, true, true, false, false, false, false, false, false, false, false, false, false, false, false, false, false, false, false, false, false, false, false, false, false, false, false, false, false]) rfl (by kernel_rfl) (by kernel_rfl) (by kernel_rfl) (fun _ _ _ h => h) rfl wn (q_pick_and rfl rfl rfl (fun h => h)) (Hp.le_refl _) (by repeat (first | exact Ent.nil _ | exact Ent.refl _ | (refine Ent.pick (by repeat (first | exact Pick.here | apply Pick.there)) ?_) | refine Ent.skip ?_)) (by kernel_rfl) ?_
    refine r_take (i := 9) (bs' := #[true, true, true, true, true, true, true, true, true, true, false, false, false, false, false, false, false, false, false, false, false, false, false, false, false, false, false, false, false, false, false, false, false, false, false]) rfl (by kernel_rfl) (by kernel_rfl) (by kernel_rfl) (fun _ _ _ h => h) rfl wn (q_move rfl) (Hp.le_refl _) (by repeat (first | exact Ent.nil _ | exact Ent.refl _ | (refine Ent.pick (by repeat (first | exact Pick.here | apply Pick.there)) ?_) | refine Ent.skip ?_)) (by kernel_rfl) ?_
    refine r_takeg (i := 10) (b := ((mhas d.out ((rs.getD x.d default).Cluster)) && (decide ((((mgetD d.out ((rs.getD x.d default).Cluster) zSent).Order).ID) = ((rs.getD x.d default).Done))))) (bs' := #[true, true, true, true, true, true, true, true, true, true, true, false, false, false, false, false, false, false, false, false, false, false, false, false, false, false, false, false, false, false, false, false, false, false, false]) rfl (by kernel_rfl) (by kernel_rfl) (by kernel_rfl) (fun _ _ _ h => h) rfl (ask_t rfl rfl) (fun hb => q_fieldp rfl fo_103_3) (Hp.le_refl _) (by repeat (first | exact Ent.nil _ | exact Ent.refl _ | (refine Ent.pick (by repeat (first | exact Pick.here | apply Pick.there)) ?_) | refine Ent.skip ?_)) (by kernel_rfl) ?_
    refine r_takeg (i := 11) (b := ((mhas d.out ((rs.getD x.d default).Cluster)) && (decide ((((mgetD d.out ((rs.getD x.d default).Cluster) zSent).Order).ID) = ((rs.getD x.d default).Done))))) (bs' := #[true, true, true, true, true, true, true, true, true, true, true, true, false, false, false, false, false, false, false, false, false, false, false, false, false, false, false, false, false, false, false, false, false, false, false]) rfl (by kernel_rfl) (by kernel_rfl) (by kernel_rfl) (fun _ _ _ h => h) rfl (ask_t rfl rfl) (fun hb => OpQ.env (.cons rfl (gd_t hb) (.nil _) : EnvLe [(44, .pointer (some ⟨b8, 3, none⟩))] _) (q_loadp (v := .bool ((mgetD (((rs.take x.d).foldl (hearStep d.now d.span d.out) (d.told, [])).1) ((rs.getD x.d default).Cluster) zTold).any)) sc_4 rfl (by repeat (first | exact Pick.here | apply Pick.there)) rfl)) (Hp.le_refl _) (by repeat (first | exact Ent.nil _ | exact Ent.refl _ | (refine Ent.pick (by repeat (first | exact Pick.here | apply Pick.there)) ?_) | refine Ent.skip ?_)) (by kernel_rfl) ?_
    refine r_takeg (i := 12) (b := ((mhas d.out ((rs.getD x.d default).Cluster)) && (decide ((((mgetD d.out ((rs.getD x.d default).Cluster) zSent).Order).ID) = ((rs.getD x.d default).Done))))) (bs' := #[true, true, true, true, true, true, true, true, true, true, true, true, true, false, false, false, false, false, false, false, false, false, false, false, false, false, false, false, false, false, false, false, false, false, false]) rfl (by kernel_rfl) (by kernel_rfl) (by kernel_rfl) (fun _ _ _ h => h) rfl (ask_t rfl rfl) (fun hb => OpQ.env (.cons rfl (gd_t hb) (.nil _) : EnvLe [(45, .bool ((mgetD (((rs.take x.d).foldl (hearStep d.now d.span d.out) (d.told, [])).1) ((rs.getD x.d default).Cluster) zTold).any))] _) (q_not rfl)) (Hp.le_refl _) (by repeat (first | exact Ent.nil _ | exact Ent.refl _ | (refine Ent.pick (by repeat (first | exact Pick.here | apply Pick.there)) ?_) | refine Ent.skip ?_)) (by kernel_rfl) ?_
    refine r_takeg (i := 13) (b := ((mhas d.out ((rs.getD x.d default).Cluster)) && (decide ((((mgetD d.out ((rs.getD x.d default).Cluster) zSent).Order).ID) = ((rs.getD x.d default).Done))))) (bs' := #[true, true, true, true, true, true, true, true, true, true, true, true, true, true, false, false, false, false, false, false, false, false, false, false, false, false, false, false, false, false, false, false, false, false, false]) rfl (by kernel_rfl) (by kernel_rfl) (by kernel_rfl) (fun _ _ _ h => h) rfl (ask_t rfl rfl) (fun hb => OpQ.env (.cons rfl (gd_t hb) (.nil _) : EnvLe [(46, .bool (!((mgetD (((rs.take x.d).foldl (hearStep d.now d.span d.out) (d.told, [])).1) ((rs.getD x.d default).Cluster) zTold).any)))] _) (q_move rfl)) (Hp.le_refl _) (by repeat (first | exact Ent.nil _ | exact Ent.refl _ | (refine Ent.pick (by repeat (first | exact Pick.here | apply Pick.there)) ?_) | refine Ent.skip ?_)) (by kernel_rfl) ?_
    refine r_takeg (i := 14) (b := (((mhas d.out ((rs.getD x.d default).Cluster)) && (decide ((((mgetD d.out ((rs.getD x.d default).Cluster) zSent).Order).ID) = ((rs.getD x.d default).Done)))) && !(!((mgetD (((rs.take x.d).foldl (hearStep d.now d.span d.out) (d.told, [])).1) ((rs.getD x.d default).Cluster) zTold).any)))) (bs' := #[true, true, true, true, true, true, true, true, true, true, true, true, true, true, true, false, false, false, false, false, false, false, false, false, false, false, false, false, false, false, false, false, false, false, false]) rfl (by kernel_rfl) (by kernel_rfl) (by kernel_rfl) (fun _ _ _ h => h) rfl (ask_gf rfl rfl) (fun hb => q_fieldp rfl fo_103_1) (Hp.le_refl _) (by repeat (first | exact Ent.nil _ | exact Ent.refl _ | (refine Ent.pick (by repeat (first | exact Pick.here | apply Pick.there)) ?_) | refine Ent.skip ?_)) (by kernel_rfl) ?_
    refine r_takeg (i := 15) (b := (((mhas d.out ((rs.getD x.d default).Cluster)) && (decide ((((mgetD d.out ((rs.getD x.d default).Cluster) zSent).Order).ID) = ((rs.getD x.d default).Done)))) && !(!((mgetD (((rs.take x.d).foldl (hearStep d.now d.span d.out) (d.told, [])).1) ((rs.getD x.d default).Cluster) zTold).any)))) (bs' := #[true, true, true, true, true, true, true, true, true, true, true, true, true, true, true, true, false, false, false, false, false, false, false, false, false, false, false, false, false, false, false, false, false, false, false]) rfl (by kernel_rfl) (by kernel_rfl) (by kernel_rfl) (fun _ _ _ h => h) rfl (ask_gf rfl rfl) (fun hb => OpQ.env (.cons rfl (gd_t hb) (.nil _) : EnvLe [(48, .pointer (some ⟨b8, 1, none⟩))] _) (q_loadp (v := .int .i64 ((mgetD (((rs.take x.d).foldl (hearStep d.now d.span d.out) (d.told, [])).1) ((rs.getD x.d default).Cluster) zTold).done)) sc_3 rfl (by repeat (first | exact Pick.here | apply Pick.there)) rfl)) (Hp.le_refl _) (by repeat (first | exact Ent.nil _ | exact Ent.refl _ | (refine Ent.pick (by repeat (first | exact Pick.here | apply Pick.there)) ?_) | refine Ent.skip ?_)) (by kernel_rfl) ?_
    refine r_takeg (i := 16) (b := (((mhas d.out ((rs.getD x.d default).Cluster)) && (decide ((((mgetD d.out ((rs.getD x.d default).Cluster) zSent).Order).ID) = ((rs.getD x.d default).Done)))) && !(!((mgetD (((rs.take x.d).foldl (hearStep d.now d.span d.out) (d.told, [])).1) ((rs.getD x.d default).Cluster) zTold).any)))) (bs' := #[true, true, true, true, true, true, true, true, true, true, true, true, true, true, true, true, true, false, false, false, false, false, false, false, false, false, false, false, false, false, false, false, false, false, false]) rfl (by kernel_rfl) (by kernel_rfl) (by kernel_rfl) (fun _ _ _ h => h) rfl (ask_gf rfl rfl) (fun hb => q_fieldp rfl fo_34_1) (Hp.le_refl _) (by repeat (first | exact Ent.nil _ | exact Ent.refl _ | (refine Ent.pick (by repeat (first | exact Pick.here | apply Pick.there)) ?_) | refine Ent.skip ?_)) (by kernel_rfl) ?_
    refine r_takeg (i := 17) (b := (((mhas d.out ((rs.getD x.d default).Cluster)) && (decide ((((mgetD d.out ((rs.getD x.d default).Cluster) zSent).Order).ID) = ((rs.getD x.d default).Done)))) && !(!((mgetD (((rs.take x.d).foldl (hearStep d.now d.span d.out) (d.told, [])).1) ((rs.getD x.d default).Cluster) zTold).any)))) (bs' := #[true, true, true, true, true, true, true, true, true, true, true, true, true, true, true, true, true, true, false, false, false, false, false, false, false, false, false, false, false, false, false, false, false, false, false]) rfl (by kernel_rfl) (by kernel_rfl) (by kernel_rfl) (fun _ _ _ h => h) rfl (ask_gf rfl rfl) (fun hb => OpQ.env (.cons rfl (gd_t hb) (.nil _) : EnvLe [(50, .pointer (some ⟨b7, 1, none⟩))] _) (q_loadp (v := .int .i64 ((rs.getD x.d default).Done)) sc_3 rfl (by repeat (first | exact Pick.here | apply Pick.there)) rfl)) (Hp.le_refl _) (by repeat (first | exact Ent.nil _ | exact Ent.refl _ | (refine Ent.pick (by repeat (first | exact Pick.here | apply Pick.there)) ?_) | refine Ent.skip ?_)) (by kernel_rfl) ?_
    refine r_takeg (i := 18) (b := (((mhas d.out ((rs.getD x.d default).Cluster)) && (decide ((((mgetD d.out ((rs.getD x.d default).Cluster) zSent).Order).ID) = ((rs.getD x.d default).Done)))) && !(!((mgetD (((rs.take x.d).foldl (hearStep d.now d.span d.out) (d.told, [])).1) ((rs.getD x.d default).Cluster) zTold).any)))) (bs' := #[true, true, true, true, true, true, true, true, true, true, true, true, true, true, true, true, true, true, true, false, false, false, false, false, false, false, false, false, false, false, false, false, false, false, false]) rfl (by kernel_rfl) (by kernel_rfl) (by kernel_rfl) (fun _ _ _ h => h) rfl (ask_gf rfl rfl) (fun hb => OpQ.env (.cons rfl (gd_t hb) (.cons rfl (gd_t hb) (.nil _)) : EnvLe [(49, .int .i64 ((mgetD (((rs.take x.d).foldl (hearStep d.now d.span d.out) (d.told, [])).1) ((rs.getD x.d default).Cluster) zTold).done)), (51, .int .i64 ((rs.getD x.d default).Done))] _) (q_neq rfl rfl)) (Hp.le_refl _) (by repeat (first | exact Ent.nil _ | exact Ent.refl _ | (refine Ent.pick (by repeat (first | exact Pick.here | apply Pick.there)) ?_) | refine Ent.skip ?_)) (by kernel_rfl) ?_
    refine r_takeg (i := 19) (b := ((mhas d.out ((rs.getD x.d default).Cluster)) && (decide ((((mgetD d.out ((rs.getD x.d default).Cluster) zSent).Order).ID) = ((rs.getD x.d default).Done))))) (bs' := #[true, true, true, true, true, true, true, true, true, true, true, true, true, true, true, true, true, true, true, true, false, false, false, false, false, false, false, false, false, false, false, false, false, false, false]) rfl (by kernel_rfl) (by kernel_rfl) (by kernel_rfl) (fun _ _ _ h => h) rfl (ask_t rfl rfl) (fun hb => OpQ.env (.cons rfl (gd_t hb) (.cons rfl rfl (.nil _)) : EnvLe [(47, .bool (!((mgetD (((rs.take x.d).foldl (hearStep d.now d.span d.out) (d.told, [])).1) ((rs.getD x.d default).Cluster) zTold).any))), (52, gd (((mhas d.out ((rs.getD x.d default).Cluster)) && (decide ((((mgetD d.out ((rs.getD x.d default).Cluster) zSent).Order).ID) = ((rs.getD x.d default).Done)))) && !(!((mgetD (((rs.take x.d).foldl (hearStep d.now d.span d.out) (d.told, [])).1) ((rs.getD x.d default).Cluster) zTold).any))) (.bool (decide (((mgetD (((rs.take x.d).foldl (hearStep d.now d.span d.out) (d.told, [])).1) ((rs.getD x.d default).Cluster) zTold).done) ≠ ((rs.getD x.d default).Done)))))] _) (q_pick_or rfl rfl rfl (fun h => by simp_all))) (Hp.le_refl _) (by repeat (first | exact Ent.nil _ | exact Ent.refl _ | (refine Ent.pick (by repeat (first | exact Pick.here | apply Pick.there)) ?_) | refine Ent.skip ?_)) (by kernel_rfl) ?_
    refine r_takeg (i := 20) (b := ((mhas d.out ((rs.getD x.d default).Cluster)) && (decide ((((mgetD d.out ((rs.getD x.d default).Cluster) zSent).Order).ID) = ((rs.getD x.d default).Done))))) (bs' := #[true, true, true, true, true, true, true, true, true, true, true, true, true, true, true, true, true, true, true, true, true, false, false, false, false, false, false, false, false, false, false, false, false, false, false]) rfl (by kernel_rfl) (by kernel_rfl) (by kernel_rfl) (fun _ _ _ h => h) rfl (ask_t rfl rfl) (fun hb => OpQ.env (.cons rfl (gd_t hb) (.nil _) : EnvLe [(53, .bool ((!((mgetD (((rs.take x.d).foldl (hearStep d.now d.span d.out) (d.told, [])).1) ((rs.getD x.d default).Cluster) zTold).any)) || (decide (((mgetD (((rs.take x.d).foldl (hearStep d.now d.span d.out) (d.told, [])).1) ((rs.getD x.d default).Cluster) zTold).done) ≠ ((rs.getD x.d default).Done)))))] _) (q_move rfl)) (Hp.le_refl _) (by repeat (first | exact Ent.nil _ | exact Ent.refl _ | (refine Ent.pick (by repeat (first | exact Pick.here | apply Pick.there)) ?_) | refine Ent.skip ?_)) (by kernel_rfl) ?_
    refine r_takeg (i := 21) (b := (((mhas d.out ((rs.getD x.d default).Cluster)) && (decide ((((mgetD d.out ((rs.getD x.d default).Cluster) zSent).Order).ID) = ((rs.getD x.d default).Done)))) && !((!((mgetD (((rs.take x.d).foldl (hearStep d.now d.span d.out) (d.told, [])).1) ((rs.getD x.d default).Cluster) zTold).any)) || (decide (((mgetD (((rs.take x.d).foldl (hearStep d.now d.span d.out) (d.told, [])).1) ((rs.getD x.d default).Cluster) zTold).done) ≠ ((rs.getD x.d default).Done)))))) (bs' := #[true, true, true, true, true, true, true, true, true, true, true, true, true, true, true, true, true, true, true, true, true, true, false, false, false, false, false, false, false, false, false, false, false, false, false]) rfl (by kernel_rfl) (by kernel_rfl) (by kernel_rfl) (fun _ _ _ h => h) rfl (ask_gf rfl rfl) (fun hb => q_move rfl) (Hp.le_refl _) (by repeat (first | exact Ent.nil _ | exact Ent.refl _ | (refine Ent.pick (by repeat (first | exact Pick.here | apply Pick.there)) ?_) | refine Ent.skip ?_)) (by kernel_rfl) ?_
    refine r_takeg (i := 22) (b := (((mhas d.out ((rs.getD x.d default).Cluster)) && (decide ((((mgetD d.out ((rs.getD x.d default).Cluster) zSent).Order).ID) = ((rs.getD x.d default).Done)))) && !((!((mgetD (((rs.take x.d).foldl (hearStep d.now d.span d.out) (d.told, [])).1) ((rs.getD x.d default).Cluster) zTold).any)) || (decide (((mgetD (((rs.take x.d).foldl (hearStep d.now d.span d.out) (d.told, [])).1) ((rs.getD x.d default).Cluster) zTold).done) ≠ ((rs.getD x.d default).Done)))))) (bs' := #[true, true, true, true, true, true, true, true, true, true, true, true, true, true, true, true, true, true, true, true, true, true, true, false, false, false, false, false, false, false, false, false, false, false, false]) rfl (by kernel_rfl) (by kernel_rfl) (by kernel_rfl) (fun _ _ _ h => h) rfl (ask_gf rfl rfl) (fun hb => OpQ.env (.cons rfl (gd_t hb) (.nil _) : EnvLe [(55, .pointer (some ⟨b, 0, none⟩))] _) (q_nilCheck rfl)) (Hp.le_refl _) (by repeat (first | exact Ent.nil _ | exact Ent.refl _ | (refine Ent.pick (by repeat (first | exact Pick.here | apply Pick.there)) ?_) | refine Ent.skip ?_)) (by kernel_rfl) ?_
    refine r_takeg (i := 23) (b := (((mhas d.out ((rs.getD x.d default).Cluster)) && (decide ((((mgetD d.out ((rs.getD x.d default).Cluster) zSent).Order).ID) = ((rs.getD x.d default).Done)))) && !((!((mgetD (((rs.take x.d).foldl (hearStep d.now d.span d.out) (d.told, [])).1) ((rs.getD x.d default).Cluster) zTold).any)) || (decide (((mgetD (((rs.take x.d).foldl (hearStep d.now d.span d.out) (d.told, [])).1) ((rs.getD x.d default).Cluster) zTold).done) ≠ ((rs.getD x.d default).Done)))))) (bs' := #[true, true, true, true, true, true, true, true, true, true, true, true, true, true, true, true, true, true, true, true, true, true, true, true, false, false, false, false, false, false, false, false, false, false, false]) rfl (by kernel_rfl) (by kernel_rfl) (by kernel_rfl) (fun _ _ _ h => h) rfl (ask_gf rfl rfl) (fun hb => OpQ.env (.cons rfl (gd_t hb) (.nil _) : EnvLe [(56, .pointer (some ⟨b, 0, none⟩))] _) (q_fieldp rfl fo_98_1)) (Hp.le_refl _) (by repeat (first | exact Ent.nil _ | exact Ent.refl _ | (refine Ent.pick (by repeat (first | exact Pick.here | apply Pick.there)) ?_) | refine Ent.skip ?_)) (by kernel_rfl) ?_
    refine r_takeg (i := 24) (b := (((mhas d.out ((rs.getD x.d default).Cluster)) && (decide ((((mgetD d.out ((rs.getD x.d default).Cluster) zSent).Order).ID) = ((rs.getD x.d default).Done)))) && !((!((mgetD (((rs.take x.d).foldl (hearStep d.now d.span d.out) (d.told, [])).1) ((rs.getD x.d default).Cluster) zTold).any)) || (decide (((mgetD (((rs.take x.d).foldl (hearStep d.now d.span d.out) (d.told, [])).1) ((rs.getD x.d default).Cluster) zTold).done) ≠ ((rs.getD x.d default).Done)))))) (bs' := #[true, true, true, true, true, true, true, true, true, true, true, true, true, true, true, true, true, true, true, true, true, true, true, true, true, false, false, false, false, false, false, false, false, false, false]) rfl (by kernel_rfl) (by kernel_rfl) (by kernel_rfl) (fun _ _ _ h => h) rfl (ask_gf rfl rfl) (fun hb => OpQ.env (.cons rfl (gd_t hb) (.nil _) : EnvLe [(57, .pointer (some ⟨b, 1, none⟩))] _) (q_loadp (v := .int .i64 d.now) sc_3 rfl (by repeat (first | exact Pick.here | apply Pick.there)) rfl)) (Hp.le_refl _) (by repeat (first | exact Ent.nil _ | exact Ent.refl _ | (refine Ent.pick (by repeat (first | exact Pick.here | apply Pick.there)) ?_) | refine Ent.skip ?_)) (by kernel_rfl) ?_
    refine r_takeg (i := 25) (b := (((mhas d.out ((rs.getD x.d default).Cluster)) && (decide ((((mgetD d.out ((rs.getD x.d default).Cluster) zSent).Order).ID) = ((rs.getD x.d default).Done)))) && !((!((mgetD (((rs.take x.d).foldl (hearStep d.now d.span d.out) (d.told, [])).1) ((rs.getD x.d default).Cluster) zTold).any)) || (decide (((mgetD (((rs.take x.d).foldl (hearStep d.now d.span d.out) (d.told, [])).1) ((rs.getD x.d default).Cluster) zTold).done) ≠ ((rs.getD x.d default).Done)))))) (bs' := #[true, true, true, true, true, true, true, true, true, true, true, true, true, true, true, true, true, true, true, true, true, true, true, true, true, true, false, false, false, false, false, false, false, false, false]) rfl (by kernel_rfl) (by kernel_rfl) (by kernel_rfl) (fun _ _ _ h => h) rfl (ask_gf rfl rfl) (fun hb => q_fieldp rfl fo_103_2) (Hp.le_refl _) (by repeat (first | exact Ent.nil _ | exact Ent.refl _ | (refine Ent.pick (by repeat (first | exact Pick.here | apply Pick.there)) ?_) | refine Ent.skip ?_)) (by kernel_rfl) ?_
    refine r_takeg (i := 26) (b := (((mhas d.out ((rs.getD x.d default).Cluster)) && (decide ((((mgetD d.out ((rs.getD x.d default).Cluster) zSent).Order).ID) = ((rs.getD x.d default).Done)))) && !((!((mgetD (((rs.take x.d).foldl (hearStep d.now d.span d.out) (d.told, [])).1) ((rs.getD x.d default).Cluster) zTold).any)) || (decide (((mgetD (((rs.take x.d).foldl (hearStep d.now d.span d.out) (d.told, [])).1) ((rs.getD x.d default).Cluster) zTold).done) ≠ ((rs.getD x.d default).Done)))))) (bs' := #[true, true, true, true, true, true, true, true, true, true, true, true, true, true, true, true, true, true, true, true, true, true, true, true, true, true, true, false, false, false, false, false, false, false, false]) rfl (by kernel_rfl) (by kernel_rfl) (by kernel_rfl) (fun _ _ _ h => h) rfl (ask_gf rfl rfl) (fun hb => OpQ.env (.cons rfl (gd_t hb) (.nil _) : EnvLe [(59, .pointer (some ⟨b8, 2, none⟩))] _) (q_loadp (v := .int .i64 ((mgetD (((rs.take x.d).foldl (hearStep d.now d.span d.out) (d.told, [])).1) ((rs.getD x.d default).Cluster) zTold).at_)) sc_3 rfl (by repeat (first | exact Pick.here | apply Pick.there)) rfl)) (Hp.le_refl _) (by repeat (first | exact Ent.nil _ | exact Ent.refl _ | (refine Ent.pick (by repeat (first | exact Pick.here | apply Pick.there)) ?_) | refine Ent.skip ?_)) (by kernel_rfl) ?_
    refine r_takeg (i := 27) (b := (((mhas d.out ((rs.getD x.d default).Cluster)) && (decide ((((mgetD d.out ((rs.getD x.d default).Cluster) zSent).Order).ID) = ((rs.getD x.d default).Done)))) && !((!((mgetD (((rs.take x.d).foldl (hearStep d.now d.span d.out) (d.told, [])).1) ((rs.getD x.d default).Cluster) zTold).any)) || (decide (((mgetD (((rs.take x.d).foldl (hearStep d.now d.span d.out) (d.told, [])).1) ((rs.getD x.d default).Cluster) zTold).done) ≠ ((rs.getD x.d default).Done)))))) (bs' := #[true, true, true, true, true, true, true, true, true, true, true, true, true, true, true, true, true, true, true, true, true, true, true, true, true, true, true, true, false, false, false, false, false, false, false]) rfl (by kernel_rfl) (by kernel_rfl) (by kernel_rfl) (fun _ _ _ h => h) rfl (ask_gf rfl rfl) (fun hb => OpQ.env (.cons rfl (gd_t hb) (.cons rfl (gd_t hb) (.nil _)) : EnvLe [(58, .int .i64 d.now), (60, .int .i64 ((mgetD (((rs.take x.d).foldl (hearStep d.now d.span d.out) (d.told, [])).1) ((rs.getD x.d default).Cluster) zTold).at_))] _) (q_sub rfl rfl (by first | omega | (have hb2 := hb; (try simp only [Bool.and_eq_true, Bool.or_eq_true, Bool.not_eq_true', Bool.and_eq_false_iff, Bool.or_eq_false_iff, Bool.not_eq_false', decide_eq_true_eq, decide_eq_false_iff_not, Bool.not_eq_eq_eq_not, Bool.not_true, Bool.not_false, Bool.not_eq_true, Bool.not_eq_false, beq_iff_eq, bne_iff_ne, ne_eq, Decidable.not_not] at hb2); omega)) (by first | omega | (have hb2 := hb; (try simp only [Bool.and_eq_true, Bool.or_eq_true, Bool.not_eq_true', Bool.and_eq_false_iff, Bool.or_eq_false_iff, Bool.not_eq_false', decide_eq_true_eq, decide_eq_false_iff_not, Bool.not_eq_eq_eq_not, Bool.not_true, Bool.not_false, Bool.not_eq_true, Bool.not_eq_false, beq_iff_eq, bne_iff_ne, ne_eq, Decidable.not_not] at hb2); omega)))) (Hp.le_refl _) (by repeat (first | exact Ent.nil _ | exact Ent.refl _ | (refine Ent.pick (by repeat (first | exact Pick.here | apply Pick.there)) ?_) | refine Ent.skip ?_)) (by kernel_rfl) ?_
    refine r_takeg (i := 28) (b := (((mhas d.out ((rs.getD x.d default).Cluster)) && (decide ((((mgetD d.out ((rs.getD x.d default).Cluster) zSent).Order).ID) = ((rs.getD x.d default).Done)))) && !((!((mgetD (((rs.take x.d).foldl (hearStep d.now d.span d.out) (d.told, [])).1) ((rs.getD x.d default).Cluster) zTold).any)) || (decide (((mgetD (((rs.take x.d).foldl (hearStep d.now d.span d.out) (d.told, [])).1) ((rs.getD x.d default).Cluster) zTold).done) ≠ ((rs.getD x.d default).Done)))))) (bs' := #[true, true, true, true, true, true, true, true, true, true, true, true, true, true, true, true, true, true, true, true, true, true, true, true, true, true, true, true, true, false, false, false, false, false, false]) rfl (by kernel_rfl) (by kernel_rfl) (by kernel_rfl) (fun _ _ _ h => h) rfl (ask_gf rfl rfl) (fun hb => q_move rfl) (Hp.le_refl _) (by repeat (first | exact Ent.nil _ | exact Ent.refl _ | (refine Ent.pick (by repeat (first | exact Pick.here | apply Pick.there)) ?_) | refine Ent.skip ?_)) (by kernel_rfl) ?_
    refine r_takeg (i := 29) (b := (((mhas d.out ((rs.getD x.d default).Cluster)) && (decide ((((mgetD d.out ((rs.getD x.d default).Cluster) zSent).Order).ID) = ((rs.getD x.d default).Done)))) && !((!((mgetD (((rs.take x.d).foldl (hearStep d.now d.span d.out) (d.told, [])).1) ((rs.getD x.d default).Cluster) zTold).any)) || (decide (((mgetD (((rs.take x.d).foldl (hearStep d.now d.span d.out) (d.told, [])).1) ((rs.getD x.d default).Cluster) zTold).done) ≠ ((rs.getD x.d default).Done)))))) (bs' := #[true, true, true, true, true, true, true, true, true, true, true, true, true, true, true, true, true, true, true, true, true, true, true, true, true, true, true, true, true, true, false, false, false, false, false]) rfl (by kernel_rfl) (by kernel_rfl) (by kernel_rfl) (fun _ _ _ h => h) rfl (ask_gf rfl rfl) (fun hb => OpQ.env (.cons rfl (gd_t hb) (.nil _) : EnvLe [(62, .pointer (some ⟨b, 0, none⟩))] _) (q_nilCheck rfl)) (Hp.le_refl _) (by repeat (first | exact Ent.nil _ | exact Ent.refl _ | (refine Ent.pick (by repeat (first | exact Pick.here | apply Pick.there)) ?_) | refine Ent.skip ?_)) (by kernel_rfl) ?_
    refine r_takeg (i := 30) (b := (((mhas d.out ((rs.getD x.d default).Cluster)) && (decide ((((mgetD d.out ((rs.getD x.d default).Cluster) zSent).Order).ID) = ((rs.getD x.d default).Done)))) && !((!((mgetD (((rs.take x.d).foldl (hearStep d.now d.span d.out) (d.told, [])).1) ((rs.getD x.d default).Cluster) zTold).any)) || (decide (((mgetD (((rs.take x.d).foldl (hearStep d.now d.span d.out) (d.told, [])).1) ((rs.getD x.d default).Cluster) zTold).done) ≠ ((rs.getD x.d default).Done)))))) (bs' := #[true, true, true, true, true, true, true, true, true, true, true, true, true, true, true, true, true, true, true, true, true, true, true, true, true, true, true, true, true, true, true, false, false, false, false]) rfl (by kernel_rfl) (by kernel_rfl) (by kernel_rfl) (fun _ _ _ h => h) rfl (ask_gf rfl rfl) (fun hb => OpQ.env (.cons rfl (gd_t hb) (.nil _) : EnvLe [(63, .pointer (some ⟨b, 0, none⟩))] _) (q_fieldp rfl fo_98_0)) (Hp.le_refl _) (by repeat (first | exact Ent.nil _ | exact Ent.refl _ | (refine Ent.pick (by repeat (first | exact Pick.here | apply Pick.there)) ?_) | refine Ent.skip ?_)) (by kernel_rfl) ?_
    refine r_takeg (i := 31) (b := (((mhas d.out ((rs.getD x.d default).Cluster)) && (decide ((((mgetD d.out ((rs.getD x.d default).Cluster) zSent).Order).ID) = ((rs.getD x.d default).Done)))) && !((!((mgetD (((rs.take x.d).foldl (hearStep d.now d.span d.out) (d.told, [])).1) ((rs.getD x.d default).Cluster) zTold).any)) || (decide (((mgetD (((rs.take x.d).foldl (hearStep d.now d.span d.out) (d.told, [])).1) ((rs.getD x.d default).Cluster) zTold).done) ≠ ((rs.getD x.d default).Done)))))) (bs' := #[true, true, true, true, true, true, true, true, true, true, true, true, true, true, true, true, true, true, true, true, true, true, true, true, true, true, true, true, true, true, true, true, false, false, false]) rfl (by kernel_rfl) (by kernel_rfl) (by kernel_rfl) (fun _ _ _ h => h) rfl (ask_gf rfl rfl) (fun hb => OpQ.env (.cons rfl (gd_t hb) (.nil _) : EnvLe [(64, .pointer (some ⟨b, 0, none⟩))] _) (q_loadp (v := .int .i64 d.span) sc_3 rfl (by repeat (first | exact Pick.here | apply Pick.there)) rfl)) (Hp.le_refl _) (by repeat (first | exact Ent.nil _ | exact Ent.refl _ | (refine Ent.pick (by repeat (first | exact Pick.here | apply Pick.there)) ?_) | refine Ent.skip ?_)) (by kernel_rfl) ?_
    refine r_takeg (i := 32) (b := (((mhas d.out ((rs.getD x.d default).Cluster)) && (decide ((((mgetD d.out ((rs.getD x.d default).Cluster) zSent).Order).ID) = ((rs.getD x.d default).Done)))) && !((!((mgetD (((rs.take x.d).foldl (hearStep d.now d.span d.out) (d.told, [])).1) ((rs.getD x.d default).Cluster) zTold).any)) || (decide (((mgetD (((rs.take x.d).foldl (hearStep d.now d.span d.out) (d.told, [])).1) ((rs.getD x.d default).Cluster) zTold).done) ≠ ((rs.getD x.d default).Done)))))) (bs' := #[true, true, true, true, true, true, true, true, true, true, true, true, true, true, true, true, true, true, true, true, true, true, true, true, true, true, true, true, true, true, true, true, true, false, false]) rfl (by kernel_rfl) (by kernel_rfl) (by kernel_rfl) (fun _ _ _ h => h) rfl (ask_gf rfl rfl) (fun hb => OpQ.env (.cons rfl (gd_t hb) (.cons rfl (gd_t hb) (.nil _)) : EnvLe [(61, .int .i64 (d.now - ((mgetD (((rs.take x.d).foldl (hearStep d.now d.span d.out) (d.told, [])).1) ((rs.getD x.d default).Cluster) zTold).at_))), (65, .int .i64 d.span)] _) (q_geq rfl rfl)) (Hp.le_refl _) (by repeat (first | exact Ent.nil _ | exact Ent.refl _ | (refine Ent.pick (by repeat (first | exact Pick.here | apply Pick.there)) ?_) | refine Ent.skip ?_)) (by kernel_rfl) ?_
    refine r_takeg (i := 33) (b := ((mhas d.out ((rs.getD x.d default).Cluster)) && (decide ((((mgetD d.out ((rs.getD x.d default).Cluster) zSent).Order).ID) = ((rs.getD x.d default).Done))))) (bs' := #[true, true, true, true, true, true, true, true, true, true, true, true, true, true, true, true, true, true, true, true, true, true, true, true, true, true, true, true, true, true, true, true, true, true, false]) rfl (by kernel_rfl) (by kernel_rfl) (by kernel_rfl) (fun _ _ _ h => h) rfl (ask_t rfl rfl) (fun hb => OpQ.env (.cons rfl (gd_t hb) (.cons rfl rfl (.nil _)) : EnvLe [(54, .bool ((!((mgetD (((rs.take x.d).foldl (hearStep d.now d.span d.out) (d.told, [])).1) ((rs.getD x.d default).Cluster) zTold).any)) || (decide (((mgetD (((rs.take x.d).foldl (hearStep d.now d.span d.out) (d.told, [])).1) ((rs.getD x.d default).Cluster) zTold).done) ≠ ((rs.getD x.d default).Done))))), (66, gd (((mhas d.out ((rs.getD x.d default).Cluster)) && (decide ((((mgetD d.out ((rs.getD x.d default).Cluster) zSent).Order).ID) = ((rs.getD x.d default).Done)))) && !((!((mgetD (((rs.take x.d).foldl (hearStep d.now d.span d.out) (d.told, [])).1) ((rs.getD x.d default).Cluster) zTold).any)) || (decide (((mgetD (((rs.take x.d).foldl (hearStep d.now d.span d.out) (d.told, [])).1) ((rs.getD x.d default).Cluster) zTold).done) ≠ ((rs.getD x.d default).Done))))) (.bool (decide (d.span ≤ (d.now - ((mgetD (((rs.take x.d).foldl (hearStep d.now d.span d.out) (d.told, [])).1) ((rs.getD x.d default).Cluster) zTold).at_))))))] _) (q_pick_or rfl rfl rfl (fun h => by simp_all))) (Hp.le_refl _) (by repeat (first | exact Ent.nil _ | exact Ent.refl _ | (refine Ent.pick (by repeat (first | exact Pick.here | apply Pick.there)) ?_) | refine Ent.skip ?_)) (by kernel_rfl) ?_
    refine r_take (i := 34) (bs' := #[true, true, true, true, true, true, true, true, true, true, true, true, true, true, true, true, true, true, true, true, true, true, true, true, true, true, true, true, true, true, true, true, true, true, true]) rfl (by kernel_rfl) (by kernel_rfl) (by kernel_rfl) (fun _ _ _ h => h) rfl wn (q_pick_and rfl rfl rfl (fun h => h)) (Hp.le_refl _) (by repeat (first | exact Ent.nil _ | exact Ent.refl _ | (refine Ent.pick (by repeat (first | exact Pick.here | apply Pick.there)) ?_) | refine Ent.skip ?_)) (by kernel_rfl) ?_
    refine r_done (by kernel_rfl) ?_
    refine k_then_n ?_
    refine c_cond rfl (fun h1 => ?_) (fun h1 => ?_)
    · skip
      have hB : doneB d.now d.span d.out (mgetD ((rs.take x.d).foldl (hearStep d.now d.span d.out) (d.told, [])).1 (rs.getD x.d default).Cluster zTold) (rs.getD x.d default) = true := h1
      refine c_seq ?_
      refine c_draw (m := 12) (bs := #[false, false, false, false, false, false, false, false, false, false, false, false]) [.pts b9 (encSent (mgetD d.out ((rs.getD x.d default).Cluster) zSent)) 100, .pts b7 (encRep_ (rs.getD x.d default)) 34, .row 39 7 x.a1 ((((rs.take x.d).foldl (hearStep d.now d.span d.out) (d.told, [])).2).length) x.c1 ((((rs.take x.d).foldl (hearStep d.now d.span d.out) (d.told, [])).2).flatMap encOp1), .pts b (encDisp (⟨d.span, d.now, (some d.bo), (some d.bt)⟩ : Disp)) 98, MP (Value.int .i64) (aggV encSent) d.bo d.out, MP (Value.int .i64) (aggV encTold) d.bt (((rs.take x.d).foldl (hearStep d.now d.span d.out) (d.told, [])).1)] (by kernel_rfl) rfl (by kernel_rfl) ?_
      refine r_take (i := 0) (bs' := #[true, false, false, false, false, false, false, false, false, false, false, false]) rfl (by kernel_rfl) (by kernel_rfl) (by kernel_rfl) (fun _ _ _ h => h) rfl wn (q_fieldp rfl fo_34_1) (Hp.le_refl _) (by repeat (first | exact Ent.nil _ | exact Ent.refl _ | (refine Ent.pick (by repeat (first | exact Pick.here | apply Pick.there)) ?_) | refine Ent.skip ?_)) (by kernel_rfl) ?_
      refine r_take (i := 1) (bs' := #[true, true, false, false, false, false, false, false, false, false, false, false]) rfl (by kernel_rfl) (by kernel_rfl) (by kernel_rfl) (fun _ _ _ h => h) rfl wn (q_loadp (v := .int .i64 ((rs.getD x.d default).Done)) sc_3 rfl (by repeat (first | exact Pick.here | apply Pick.there)) rfl) (Hp.le_refl _) (by repeat (first | exact Ent.nil _ | exact Ent.refl _ | (refine Ent.pick (by repeat (first | exact Pick.here | apply Pick.there)) ?_) | refine Ent.skip ?_)) (by kernel_rfl) ?_
      refine r_take (i := 2) (bs' := #[true, true, true, false, false, false, false, false, false, false, false, false]) rfl (by kernel_rfl) (by kernel_rfl) (by kernel_rfl) (fun _ _ _ h => h) rfl wn (q_move rfl) (Hp.le_refl _) (by repeat (first | exact Ent.nil _ | exact Ent.refl _ | (refine Ent.pick (by repeat (first | exact Pick.here | apply Pick.there)) ?_) | refine Ent.skip ?_)) (by kernel_rfl) ?_
      refine r_take (i := 3) (bs' := #[true, true, true, true, false, false, false, false, false, false, false, false]) rfl (by kernel_rfl) (by kernel_rfl) (by kernel_rfl) (fun _ _ _ h => h) rfl wn (q_nilCheck rfl) (Hp.le_refl _) (by repeat (first | exact Ent.nil _ | exact Ent.refl _ | (refine Ent.pick (by repeat (first | exact Pick.here | apply Pick.there)) ?_) | refine Ent.skip ?_)) (by kernel_rfl) ?_
      refine r_take (i := 4) (bs' := #[true, true, true, true, true, false, false, false, false, false, false, false]) rfl (by kernel_rfl) (by kernel_rfl) (by kernel_rfl) (fun _ _ _ h => h) rfl wn (q_fieldp rfl fo_98_1) (Hp.le_refl _) (by repeat (first | exact Ent.nil _ | exact Ent.refl _ | (refine Ent.pick (by repeat (first | exact Pick.here | apply Pick.there)) ?_) | refine Ent.skip ?_)) (by kernel_rfl) ?_
      refine r_take (i := 5) (bs' := #[true, true, true, true, true, true, false, false, false, false, false, false]) rfl (by kernel_rfl) (by kernel_rfl) (by kernel_rfl) (fun _ _ _ h => h) rfl wn (q_loadp (v := .int .i64 d.now) sc_3 rfl (by repeat (first | exact Pick.here | apply Pick.there)) rfl) (Hp.le_refl _) (by repeat (first | exact Ent.nil _ | exact Ent.refl _ | (refine Ent.pick (by repeat (first | exact Pick.here | apply Pick.there)) ?_) | refine Ent.skip ?_)) (by kernel_rfl) ?_
      refine r_take (i := 6) (bs' := #[true, true, true, true, true, true, true, false, false, false, false, false]) rfl (by kernel_rfl) (by kernel_rfl) (by kernel_rfl) (fun _ _ _ h => h) rfl wn (q_fieldp rfl fo_103_3) (Hp.le_refl _) (by repeat (first | exact Ent.nil _ | exact Ent.refl _ | (refine Ent.pick (by repeat (first | exact Pick.here | apply Pick.there)) ?_) | refine Ent.skip ?_)) (by kernel_rfl) ?_
      refine r_one (i := 7) (bs' := #[true, true, true, true, true, true, true, true, false, false, false, false]) (by kernel_rfl) (by kernel_rfl) ?_
      refine o_step rfl (s_s0 wn (s_storep (ws := [.bool true]) (cs := encTold (mgetD (((rs.take x.d).foldl (hearStep d.now d.span d.out) (d.told, [])).1) ((rs.getD x.d default).Cluster) zTold)) (cs' := encTold { (mgetD (((rs.take x.d).foldl (hearStep d.now d.span d.out) (d.told, [])).1) ((rs.getD x.d default).Cluster) zTold) with any := true }) rfl rfl rfl sz_4 (by simp [Value.oneCell', strB, ptV, SL.v, SH.v]) (by simp [encTold]) rfl (by repeat (first | exact Pick.here | apply Pick.there))) ?_)
      rintro _ _ ⟨rfl, rfl⟩
      refine r_cont (Hp.le_refl _) (by repeat (first | exact Ent.nil _ | exact Ent.refl _ | (refine Ent.pick (by repeat (first | exact Pick.here | apply Pick.there)) ?_) | refine Ent.skip ?_)) ?_
      refine r_take (i := 8) (bs' := #[true, true, true, true, true, true, true, true, true, false, false, false]) rfl (by kernel_rfl) (by kernel_rfl) (by kernel_rfl) (fun _ _ _ h => h) rfl wn (q_fieldp rfl fo_103_1) (Hp.le_refl _) (by repeat (first | exact Ent.nil _ | exact Ent.refl _ | (refine Ent.pick (by repeat (first | exact Pick.here | apply Pick.there)) ?_) | refine Ent.skip ?_)) (by kernel_rfl) ?_
      refine r_one (i := 9) (bs' := #[true, true, true, true, true, true, true, true, true, true, false, false]) (by kernel_rfl) (by kernel_rfl) ?_
      refine o_step rfl (s_s0 wn (s_storep (ws := [.int .i64 ((rs.getD x.d default).Done)]) (cs := encTold { (mgetD (((rs.take x.d).foldl (hearStep d.now d.span d.out) (d.told, [])).1) ((rs.getD x.d default).Cluster) zTold) with any := true }) (cs' := encTold { { (mgetD (((rs.take x.d).foldl (hearStep d.now d.span d.out) (d.told, [])).1) ((rs.getD x.d default).Cluster) zTold) with any := true } with done := ((rs.getD x.d default).Done) }) rfl rfl rfl sz_3 (by simp [Value.oneCell', strB, ptV, SL.v, SH.v]) (by simp [encTold]) rfl (by repeat (first | exact Pick.here | apply Pick.there))) ?_)
      rintro _ _ ⟨rfl, rfl⟩
      refine r_cont (Hp.le_refl _) (by repeat (first | exact Ent.nil _ | exact Ent.refl _ | (refine Ent.pick (by repeat (first | exact Pick.here | apply Pick.there)) ?_) | refine Ent.skip ?_)) ?_
      refine r_take (i := 10) (bs' := #[true, true, true, true, true, true, true, true, true, true, true, false]) rfl (by kernel_rfl) (by kernel_rfl) (by kernel_rfl) (fun _ _ _ h => h) rfl wn (q_fieldp rfl fo_103_2) (Hp.le_refl _) (by repeat (first | exact Ent.nil _ | exact Ent.refl _ | (refine Ent.pick (by repeat (first | exact Pick.here | apply Pick.there)) ?_) | refine Ent.skip ?_)) (by kernel_rfl) ?_
      refine r_one (i := 11) (bs' := #[true, true, true, true, true, true, true, true, true, true, true, true]) (by kernel_rfl) (by kernel_rfl) ?_
      refine o_step rfl (s_s0 wn (s_storep (ws := [.int .i64 d.now]) (cs := encTold { { (mgetD (((rs.take x.d).foldl (hearStep d.now d.span d.out) (d.told, [])).1) ((rs.getD x.d default).Cluster) zTold) with any := true } with done := ((rs.getD x.d default).Done) }) (cs' := encTold { { { (mgetD (((rs.take x.d).foldl (hearStep d.now d.span d.out) (d.told, [])).1) ((rs.getD x.d default).Cluster) zTold) with any := true } with done := ((rs.getD x.d default).Done) } with at_ := d.now }) rfl rfl rfl sz_3 (by simp [Value.oneCell', strB, ptV, SL.v, SH.v]) (by simp [encTold]) rfl (by repeat (first | exact Pick.here | apply Pick.there))) ?_)
      rintro _ _ ⟨rfl, rfl⟩
      refine r_cont (Hp.le_refl _) (by repeat (first | exact Ent.nil _ | exact Ent.refl _ | (refine Ent.pick (by repeat (first | exact Pick.here | apply Pick.there)) ?_) | refine Ent.skip ?_)) ?_
      refine r_done (by kernel_rfl) ?_
      refine k_then_n ?_
      refine c_region ?_
      refine l_step (s_q rfl wn (q_move rfl) ?_)
      refine l_step (s_q rfl wn (q_fieldp rfl fo_34_0) ?_)
      refine l_step (s_q rfl wn (q_loadp (v := .int .i64 ((rs.getD x.d default).Cluster)) sc_3 rfl (by repeat (first | exact Pick.here | apply Pick.there)) rfl) ?_)
      refine l_step (s_q rfl wn (q_fieldp rfl fo_34_1) ?_)
      refine l_step (s_q rfl wn (q_loadp (v := .int .i64 ((rs.getD x.d default).Done)) sc_3 rfl (by repeat (first | exact Pick.here | apply Pick.there)) rfl) ?_)
      refine l_step (s_q rfl wn (q_build (cs := encOp1 (⟨6, ((rs.getD x.d default).Cluster), ((rs.getD x.d default).Done), false, zPln⟩ : Op1)) zc_39 pl_39 rfl rfl) ?_)
      refine l_step (s_s rfl wn (s_buildSlice (cs := ([(⟨6, ((rs.getD x.d default).Cluster), ((rs.getD x.d default).Done), false, zPln⟩ : Op1)] : List Op1).flatMap encOp1) Try.underlying31 eo_39 rfl rfl rfl rfl (by decide) (by decide)) ?_)
      rintro _ _ ⟨b84, rfl, rfl⟩
      refine l_step (s_s rfl wn (s_appendn (enc := encOp1) (xs := ((((rs.take x.d).foldl (hearStep d.now d.span d.out) (d.told, [])).2) : List Op1)) (ys := ([(⟨6, ((rs.getD x.d default).Cluster), ((rs.getD x.d default).Done), false, zPln⟩ : Op1)] : List Op1)) (Γ' := fun a' cap' => _) Try.underlying31 eo_39 (by decide) rfl rfl (rd_row (by repeat (first | exact Pick.here | apply Pick.there))) (oneOp1s _) (by first | omega | (simp only [List.length_append, List.length_cons, List.length_nil] at *; omega)) (by first | omega | (simp only [List.length_append, List.length_cons, List.length_nil] at *; omega)) (fun _ _ => (by repeat (first | exact Pick.here | apply Pick.there)))) ?_)
      rintro _ _ ⟨a85, c85, rfl, rfl⟩
      refine l_step (s_q rfl wn (q_assign rfl) ?_)
      refine l_nil ?_
      refine k_then_n ?_
      refine c_seq ?_
      refine c_seq ?_
      refine c_region ?_
      refine l_step (s_q rfl wn (q_fieldp rfl fo_34_4) ?_)
      refine l_step (s_q rfl wn (q_loadp (v := .int .i64 ((rs.getD x.d default).Number)) sc_3 rfl (by repeat (first | exact Pick.here | apply Pick.there)) rfl) ?_)
      refine l_step (s_q rfl wn (q_fieldp rfl fo_103_0) ?_)
      refine l_step (s_q rfl wn (q_loadp (v := .int .i64 ({ { { (mgetD (((rs.take x.d).foldl (hearStep d.now d.span d.out) (d.told, [])).1) ((rs.getD x.d default).Cluster) zTold) with any := true } with done := ((rs.getD x.d default).Done) } with at_ := d.now }.number)) sc_3 rfl (by repeat (first | exact Pick.here | apply Pick.there)) rfl) ?_)
      refine l_step (s_q rfl wn (q_gtr rfl rfl) ?_)
      refine l_nil ?_
      refine k_then_n ?_
      refine c_cond rfl (fun h2 => ?_) (fun h2 => ?_)
      · skip
        have hN : newB (mgetD ((rs.take x.d).foldl (hearStep d.now d.span d.out) (d.told, [])).1 (rs.getD x.d default).Cluster zTold) (rs.getD x.d default) = true := h2
        refine c_seq ?_
        refine c_region ?_
        refine l_step (s_q rfl wn (q_fieldp rfl fo_34_4) ?_)
        refine l_step (s_q rfl wn (q_loadp (v := .int .i64 ((rs.getD x.d default).Number)) sc_3 rfl (by repeat (first | exact Pick.here | apply Pick.there)) rfl) ?_)
        refine l_step (s_q rfl wn (q_fieldp rfl fo_103_0) ?_)
        refine l_step (s_s0 wn (s_storep (ws := [.int .i64 ((rs.getD x.d default).Number)]) (cs := encTold { { { (mgetD (((rs.take x.d).foldl (hearStep d.now d.span d.out) (d.told, [])).1) ((rs.getD x.d default).Cluster) zTold) with any := true } with done := ((rs.getD x.d default).Done) } with at_ := d.now }) (cs' := encTold { { { { (mgetD (((rs.take x.d).foldl (hearStep d.now d.span d.out) (d.told, [])).1) ((rs.getD x.d default).Cluster) zTold) with any := true } with done := ((rs.getD x.d default).Done) } with at_ := d.now } with number := ((rs.getD x.d default).Number) }) rfl rfl rfl sz_3 (by simp [Value.oneCell', strB, ptV, SL.v, SH.v]) (by simp [encTold]) rfl (by repeat (first | exact Pick.here | apply Pick.there))) ?_)
        rintro _ _ ⟨rfl, rfl⟩
        refine l_nil ?_
        refine k_then_n ?_
        refine c_region ?_
        refine l_step (s_q rfl wn (q_move rfl) ?_)
        refine l_step (s_q rfl wn (q_fieldp rfl fo_34_0) ?_)
        refine l_step (s_q rfl wn (q_loadp (v := .int .i64 ((rs.getD x.d default).Cluster)) sc_3 rfl (by repeat (first | exact Pick.here | apply Pick.there)) rfl) ?_)
        refine l_step (s_q rfl wn (q_fieldp rfl fo_34_4) ?_)
        refine l_step (s_q rfl wn (q_loadp (v := .int .i64 ((rs.getD x.d default).Number)) sc_3 rfl (by repeat (first | exact Pick.here | apply Pick.there)) rfl) ?_)
        refine l_step (s_q rfl wn (q_fieldp rfl fo_34_5) ?_)
        refine l_step (s_q rfl wn (q_loadp (v := .bool ((rs.getD x.d default).Good)) sc_4 rfl (by repeat (first | exact Pick.here | apply Pick.there)) rfl) ?_)
        refine l_step (s_q rfl wn (q_build (cs := encOp1 (⟨7, ((rs.getD x.d default).Cluster), ((rs.getD x.d default).Number), ((rs.getD x.d default).Good), zPln⟩ : Op1)) zc_39 pl_39 rfl rfl) ?_)
        refine l_step (s_s rfl wn (s_buildSlice (cs := ([(⟨7, ((rs.getD x.d default).Cluster), ((rs.getD x.d default).Number), ((rs.getD x.d default).Good), zPln⟩ : Op1)] : List Op1).flatMap encOp1) Try.underlying31 eo_39 rfl rfl rfl rfl (by decide) (by decide)) ?_)
        rintro _ _ ⟨b102, rfl, rfl⟩
        refine l_step (s_s rfl wn (s_appendn (enc := encOp1) (xs := (((((rs.take x.d).foldl (hearStep d.now d.span d.out) (d.told, [])).2) ++ [(⟨6, ((rs.getD x.d default).Cluster), ((rs.getD x.d default).Done), false, zPln⟩ : Op1)]) : List Op1)) (ys := ([(⟨7, ((rs.getD x.d default).Cluster), ((rs.getD x.d default).Number), ((rs.getD x.d default).Good), zPln⟩ : Op1)] : List Op1)) (Γ' := fun a' cap' => _) Try.underlying31 eo_39 (by decide) rfl rfl (rd_row (by repeat (first | exact Pick.here | apply Pick.there))) (oneOp1s _) (by first | omega | (simp only [List.length_append, List.length_cons, List.length_nil] at *; omega)) (by first | omega | (simp only [List.length_append, List.length_cons, List.length_nil] at *; omega)) (fun _ _ => (by repeat (first | exact Pick.here | apply Pick.there)))) ?_)
        rintro _ _ ⟨a103, c103, rfl, rfl⟩
        refine l_step (s_q rfl wn (q_assign rfl) ?_)
        refine l_nil ?_
        refine k_then_n ?_
        refine c_draw (m := 8) (bs := #[false, false, false, false, false, false, false, false]) [.row 39 7 (some ⟨b102, 0, none⟩) 1 1 ([(⟨7, ((rs.getD x.d default).Cluster), ((rs.getD x.d default).Number), ((rs.getD x.d default).Good), zPln⟩ : Op1)].flatMap encOp1), .row 39 7 (some ⟨b84, 0, none⟩) 1 1 ([(⟨6, ((rs.getD x.d default).Cluster), ((rs.getD x.d default).Done), false, zPln⟩ : Op1)].flatMap encOp1), .pts b9 (encSent (mgetD d.out ((rs.getD x.d default).Cluster) zSent)) 100, .pts b8 (encTold { { { { (mgetD (((rs.take x.d).foldl (hearStep d.now d.span d.out) (d.told, [])).1) ((rs.getD x.d default).Cluster) zTold) with any := true } with done := ((rs.getD x.d default).Done) } with at_ := d.now } with number := ((rs.getD x.d default).Number) }) 103, .pts b7 (encRep_ (rs.getD x.d default)) 34, .row 39 7 a103 (((((rs.take x.d).foldl (hearStep d.now d.span d.out) (d.told, [])).2).length + 1) + 1) c103 ((((((rs.take x.d).foldl (hearStep d.now d.span d.out) (d.told, [])).2) ++ [(⟨6, ((rs.getD x.d default).Cluster), ((rs.getD x.d default).Done), false, zPln⟩ : Op1)]) ++ [(⟨7, ((rs.getD x.d default).Cluster), ((rs.getD x.d default).Number), ((rs.getD x.d default).Good), zPln⟩ : Op1)]).flatMap encOp1), .pts b (encDisp (⟨d.span, d.now, (some d.bo), (some d.bt)⟩ : Disp)) 98, MP (Value.int .i64) (aggV encSent) d.bo d.out] (by kernel_rfl) rfl (by kernel_rfl) ?_
        refine r_take (i := 0) (bs' := #[true, false, false, false, false, false, false, false]) rfl (by kernel_rfl) (by kernel_rfl) (by kernel_rfl) (fun _ _ _ h => h) rfl wn (q_move rfl) (Hp.le_refl _) (by repeat (first | exact Ent.nil _ | exact Ent.refl _ | (refine Ent.pick (by repeat (first | exact Pick.here | apply Pick.there)) ?_) | refine Ent.skip ?_)) (by kernel_rfl) ?_
        refine r_take (i := 1) (bs' := #[true, true, false, false, false, false, false, false]) rfl (by kernel_rfl) (by kernel_rfl) (by kernel_rfl) (fun _ _ _ h => h) rfl wn (q_nilCheck rfl) (Hp.le_refl _) (by repeat (first | exact Ent.nil _ | exact Ent.refl _ | (refine Ent.pick (by repeat (first | exact Pick.here | apply Pick.there)) ?_) | refine Ent.skip ?_)) (by kernel_rfl) ?_
        refine r_take (i := 2) (bs' := #[true, true, true, false, false, false, false, false]) rfl (by kernel_rfl) (by kernel_rfl) (by kernel_rfl) (fun _ _ _ h => h) rfl wn (q_fieldp rfl fo_98_3) (Hp.le_refl _) (by repeat (first | exact Ent.nil _ | exact Ent.refl _ | (refine Ent.pick (by repeat (first | exact Pick.here | apply Pick.there)) ?_) | refine Ent.skip ?_)) (by kernel_rfl) ?_
        refine r_take (i := 3) (bs' := #[true, true, true, true, false, false, false, false]) rfl (by kernel_rfl) (by kernel_rfl) (by kernel_rfl) (fun _ _ _ h => h) rfl wn (q_loadp (v := .map (some d.bt)) sc_96 rfl (by repeat (first | exact Pick.here | apply Pick.there)) rfl) (Hp.le_refl _) (by repeat (first | exact Ent.nil _ | exact Ent.refl _ | (refine Ent.pick (by repeat (first | exact Pick.here | apply Pick.there)) ?_) | refine Ent.skip ?_)) (by kernel_rfl) ?_
        refine r_take (i := 4) (bs' := #[true, true, true, true, true, false, false, false]) rfl (by kernel_rfl) (by kernel_rfl) (by kernel_rfl) (fun _ _ _ h => h) rfl wn (q_fieldp rfl fo_34_0) (Hp.le_refl _) (by repeat (first | exact Ent.nil _ | exact Ent.refl _ | (refine Ent.pick (by repeat (first | exact Pick.here | apply Pick.there)) ?_) | refine Ent.skip ?_)) (by kernel_rfl) ?_
        refine r_take (i := 5) (bs' := #[true, true, true, true, true, true, false, false]) rfl (by kernel_rfl) (by kernel_rfl) (by kernel_rfl) (fun _ _ _ h => h) rfl wn (q_loadp (v := .int .i64 ((rs.getD x.d default).Cluster)) sc_3 rfl (by repeat (first | exact Pick.here | apply Pick.there)) rfl) (Hp.le_refl _) (by repeat (first | exact Ent.nil _ | exact Ent.refl _ | (refine Ent.pick (by repeat (first | exact Pick.here | apply Pick.there)) ?_) | refine Ent.skip ?_)) (by kernel_rfl) ?_
        refine r_take (i := 6) (bs' := #[true, true, true, true, true, true, true, false]) rfl (by kernel_rfl) (by kernel_rfl) (by kernel_rfl) (fun _ _ _ h => h) rfl wn (q_loadpa (vs := encTold { { { { (mgetD (((rs.take x.d).foldl (hearStep d.now d.span d.out) (d.told, [])).1) ((rs.getD x.d default).Cluster) zTold) with any := true } with done := ((rs.getD x.d default).Done) } with at_ := d.now } with number := ((rs.getD x.d default).Number) }) ag_103 rfl (by repeat (first | exact Pick.here | apply Pick.there)) rfl) (Hp.le_refl _) (by repeat (first | exact Ent.nil _ | exact Ent.refl _ | (refine Ent.pick (by repeat (first | exact Pick.here | apply Pick.there)) ?_) | refine Ent.skip ?_)) (by kernel_rfl) ?_
        refine r_one (i := 7) (bs' := #[true, true, true, true, true, true, true, true]) (by kernel_rfl) (by kernel_rfl) ?_
        refine o_step rfl (s_s0 wn (s_mset (ek := (Value.int .i64)) (ev := (aggV encTold)) (k := ((rs.getD x.d default).Cluster)) (v := { { { { (mgetD (((rs.take x.d).foldl (hearStep d.now d.span d.out) (d.told, [])).1) ((rs.getD x.d default).Cluster) zTold) with any := true } with done := ((rs.getD x.d default).Done) } with at_ := d.now } with number := ((rs.getD x.d default).Number) }) (m' := (mset (((rs.take x.d).foldl (hearStep d.now d.span d.out) (d.told, [])).1) ((rs.getD x.d default).Cluster) { { { { (mgetD (((rs.take x.d).foldl (hearStep d.now d.span d.out) (d.told, [])).1) ((rs.getD x.d default).Cluster) zTold) with any := true } with done := ((rs.getD x.d default).Done) } with at_ := d.now } with number := ((rs.getD x.d default).Number) })) Try.underlying96 (mkey_int Try.underlying3) rfl rfl rfl rfl rfl (by repeat (first | exact Pick.here | apply Pick.there))) ?_)
        rintro _ _ ⟨rfl, rfl⟩
        refine r_cont (Hp.le_refl _) (by repeat (first | exact Ent.nil _ | exact Ent.refl _ | (refine Ent.pick (by repeat (first | exact Pick.here | apply Pick.there)) ?_) | refine Ent.skip ?_)) ?_
        refine r_done (by kernel_rfl) ?_
        refine k_blk_n ?_
        refine k_then_n ?_
        refine c_region ?_
        refine l_step (s_q rfl wn (q_add rfl rfl (by omega) (by omega)) ?_)
        refine l_step (s_q rfl wn (q_move rfl) ?_)
        refine l_nil ?_
        refine k_then_n ?_
        have e1 : ((rs.take (x.d + 1)).foldl (hearStep d.now d.span d.out) (d.told, [])) = (mset ((rs.take x.d).foldl (hearStep d.now d.span d.out) (d.told, [])).1 (rs.getD x.d default).Cluster ({ ({ (mgetD ((rs.take x.d).foldl (hearStep d.now d.span d.out) (d.told, [])).1 (rs.getD x.d default).Cluster zTold) with any := true, done := (rs.getD x.d default).Done, at_ := d.now } : Told) with number := (rs.getD x.d default).Number } : Told), ((rs.take x.d).foldl (hearStep d.now d.span d.out) (d.told, [])).2 ++ [(⟨6, (rs.getD x.d default).Cluster, (rs.getD x.d default).Done, false, zPln⟩ : Op1)] ++ [(⟨7, (rs.getD x.d default).Cluster, (rs.getD x.d default).Number, (rs.getD x.d default).Good, zPln⟩ : Op1)]) := by rw [foldl_take _ _ _ _ (by omega)]; simp only [hearStep, hB, hN, told1, told2, opD, opH, if_true, Bool.false_eq_true, if_false, List.append_nil]
        have e4 : mset ((rs.take x.d).foldl (hearStep d.now d.span d.out) (d.told, [])).1 (rs.getD x.d default).Cluster ({ ({ (mgetD ((rs.take x.d).foldl (hearStep d.now d.span d.out) (d.told, [])).1 (rs.getD x.d default).Cluster zTold) with any := true, done := (rs.getD x.d default).Done, at_ := d.now } : Told) with number := (rs.getD x.d default).Number } : Told) = ((rs.take (x.d + 1)).foldl (hearStep d.now d.span d.out) (d.told, [])).1 := by rw [e1]
        have e2 : ((rs.take x.d).foldl (hearStep d.now d.span d.out) (d.told, [])).2 ++ [(⟨6, (rs.getD x.d default).Cluster, (rs.getD x.d default).Done, false, zPln⟩ : Op1)] ++ [(⟨7, (rs.getD x.d default).Cluster, (rs.getD x.d default).Number, (rs.getD x.d default).Good, zPln⟩ : Op1)] = ((rs.take (x.d + 1)).foldl (hearStep d.now d.span d.out) (d.told, [])).2 := by rw [e1]
        have e3 : ((rs.take x.d).foldl (hearStep d.now d.span d.out) (d.told, [])).2.length + 1 + 1 = ((rs.take (x.d + 1)).foldl (hearStep d.now d.span d.out) (d.told, [])).2.length := by rw [e1]; simp
        rw [e2, e3]
        exact t_next (⟨x.d + 1, a103, c103, none, 0, none, 0⟩ : Lp _) ⟨by simp only []; omega, by simp only []; omega⟩ (.cons rfl (by first | rfl | exact inte (by omega) | (simp; done) | (simp <;> omega) | simp [*]) (.cons rfl (by first | rfl | exact inte (by omega) | (simp; done) | (simp <;> omega) | simp [*]) (.cons rfl (by first | rfl | exact inte (by omega) | (simp; done) | (simp <;> omega) | simp [*]) (.cons rfl (by first | rfl | exact inte (by omega) | (simp; done) | (simp <;> omega) | simp [*]) (.cons rfl (by first | rfl | exact inte (by omega) | (simp; done) | (simp <;> omega) | simp [*]) (.cons rfl (by first | rfl | exact inte (by omega) | (simp; done) | (simp <;> omega) | simp [*]) (.nil _))))))) (by simp only []; rw [← e4]; exact (by repeat (first | exact Ent.nil _ | exact Ent.refl _ | (refine Ent.pick (by repeat (first | exact Pick.here | apply Pick.there)) ?_) | refine Ent.skip ?_)))
      · skip
        have hN : newB (mgetD ((rs.take x.d).foldl (hearStep d.now d.span d.out) (d.told, [])).1 (rs.getD x.d default).Cluster zTold) (rs.getD x.d default) = false := h2
        refine c_skip ?_
        refine k_then_n ?_
        refine c_draw (m := 8) (bs := #[false, false, false, false, false, false, false, false]) [.row 39 7 (some ⟨b84, 0, none⟩) 1 1 ([(⟨6, ((rs.getD x.d default).Cluster), ((rs.getD x.d default).Done), false, zPln⟩ : Op1)].flatMap encOp1), .pts b9 (encSent (mgetD d.out ((rs.getD x.d default).Cluster) zSent)) 100, .pts b8 (encTold { { { (mgetD (((rs.take x.d).foldl (hearStep d.now d.span d.out) (d.told, [])).1) ((rs.getD x.d default).Cluster) zTold) with any := true } with done := ((rs.getD x.d default).Done) } with at_ := d.now }) 103, .pts b7 (encRep_ (rs.getD x.d default)) 34, .row 39 7 a85 ((((rs.take x.d).foldl (hearStep d.now d.span d.out) (d.told, [])).2).length + 1) c85 (((((rs.take x.d).foldl (hearStep d.now d.span d.out) (d.told, [])).2) ++ [(⟨6, ((rs.getD x.d default).Cluster), ((rs.getD x.d default).Done), false, zPln⟩ : Op1)]).flatMap encOp1), .pts b (encDisp (⟨d.span, d.now, (some d.bo), (some d.bt)⟩ : Disp)) 98, MP (Value.int .i64) (aggV encSent) d.bo d.out] (by kernel_rfl) rfl (by kernel_rfl) ?_
        refine r_take (i := 0) (bs' := #[true, false, false, false, false, false, false, false]) rfl (by kernel_rfl) (by kernel_rfl) (by kernel_rfl) (fun _ _ _ h => h) rfl wn (q_move rfl) (Hp.le_refl _) (by repeat (first | exact Ent.nil _ | exact Ent.refl _ | (refine Ent.pick (by repeat (first | exact Pick.here | apply Pick.there)) ?_) | refine Ent.skip ?_)) (by kernel_rfl) ?_
        refine r_take (i := 1) (bs' := #[true, true, false, false, false, false, false, false]) rfl (by kernel_rfl) (by kernel_rfl) (by kernel_rfl) (fun _ _ _ h => h) rfl wn (q_nilCheck rfl) (Hp.le_refl _) (by repeat (first | exact Ent.nil _ | exact Ent.refl _ | (refine Ent.pick (by repeat (first | exact Pick.here | apply Pick.there)) ?_) | refine Ent.skip ?_)) (by kernel_rfl) ?_
        refine r_take (i := 2) (bs' := #[true, true, true, false, false, false, false, false]) rfl (by kernel_rfl) (by kernel_rfl) (by kernel_rfl) (fun _ _ _ h => h) rfl wn (q_fieldp rfl fo_98_3) (Hp.le_refl _) (by repeat (first | exact Ent.nil _ | exact Ent.refl _ | (refine Ent.pick (by repeat (first | exact Pick.here | apply Pick.there)) ?_) | refine Ent.skip ?_)) (by kernel_rfl) ?_
        refine r_take (i := 3) (bs' := #[true, true, true, true, false, false, false, false]) rfl (by kernel_rfl) (by kernel_rfl) (by kernel_rfl) (fun _ _ _ h => h) rfl wn (q_loadp (v := .map (some d.bt)) sc_96 rfl (by repeat (first | exact Pick.here | apply Pick.there)) rfl) (Hp.le_refl _) (by repeat (first | exact Ent.nil _ | exact Ent.refl _ | (refine Ent.pick (by repeat (first | exact Pick.here | apply Pick.there)) ?_) | refine Ent.skip ?_)) (by kernel_rfl) ?_
        refine r_take (i := 4) (bs' := #[true, true, true, true, true, false, false, false]) rfl (by kernel_rfl) (by kernel_rfl) (by kernel_rfl) (fun _ _ _ h => h) rfl wn (q_fieldp rfl fo_34_0) (Hp.le_refl _) (by repeat (first | exact Ent.nil _ | exact Ent.refl _ | (refine Ent.pick (by repeat (first | exact Pick.here | apply Pick.there)) ?_) | refine Ent.skip ?_)) (by kernel_rfl) ?_
        refine r_take (i := 5) (bs' := #[true, true, true, true, true, true, false, false]) rfl (by kernel_rfl) (by kernel_rfl) (by kernel_rfl) (fun _ _ _ h => h) rfl wn (q_loadp (v := .int .i64 ((rs.getD x.d default).Cluster)) sc_3 rfl (by repeat (first | exact Pick.here | apply Pick.there)) rfl) (Hp.le_refl _) (by repeat (first | exact Ent.nil _ | exact Ent.refl _ | (refine Ent.pick (by repeat (first | exact Pick.here | apply Pick.there)) ?_) | refine Ent.skip ?_)) (by kernel_rfl) ?_
        refine r_take (i := 6) (bs' := #[true, true, true, true, true, true, true, false]) rfl (by kernel_rfl) (by kernel_rfl) (by kernel_rfl) (fun _ _ _ h => h) rfl wn (q_loadpa (vs := encTold { { { (mgetD (((rs.take x.d).foldl (hearStep d.now d.span d.out) (d.told, [])).1) ((rs.getD x.d default).Cluster) zTold) with any := true } with done := ((rs.getD x.d default).Done) } with at_ := d.now }) ag_103 rfl (by repeat (first | exact Pick.here | apply Pick.there)) rfl) (Hp.le_refl _) (by repeat (first | exact Ent.nil _ | exact Ent.refl _ | (refine Ent.pick (by repeat (first | exact Pick.here | apply Pick.there)) ?_) | refine Ent.skip ?_)) (by kernel_rfl) ?_
        refine r_one (i := 7) (bs' := #[true, true, true, true, true, true, true, true]) (by kernel_rfl) (by kernel_rfl) ?_
        refine o_step rfl (s_s0 wn (s_mset (ek := (Value.int .i64)) (ev := (aggV encTold)) (k := ((rs.getD x.d default).Cluster)) (v := { { { (mgetD (((rs.take x.d).foldl (hearStep d.now d.span d.out) (d.told, [])).1) ((rs.getD x.d default).Cluster) zTold) with any := true } with done := ((rs.getD x.d default).Done) } with at_ := d.now }) (m' := (mset (((rs.take x.d).foldl (hearStep d.now d.span d.out) (d.told, [])).1) ((rs.getD x.d default).Cluster) { { { (mgetD (((rs.take x.d).foldl (hearStep d.now d.span d.out) (d.told, [])).1) ((rs.getD x.d default).Cluster) zTold) with any := true } with done := ((rs.getD x.d default).Done) } with at_ := d.now })) Try.underlying96 (mkey_int Try.underlying3) rfl rfl rfl rfl rfl (by repeat (first | exact Pick.here | apply Pick.there))) ?_)
        rintro _ _ ⟨rfl, rfl⟩
        refine r_cont (Hp.le_refl _) (by repeat (first | exact Ent.nil _ | exact Ent.refl _ | (refine Ent.pick (by repeat (first | exact Pick.here | apply Pick.there)) ?_) | refine Ent.skip ?_)) ?_
        refine r_done (by kernel_rfl) ?_
        refine k_blk_n ?_
        refine k_then_n ?_
        refine c_region ?_
        refine l_step (s_q rfl wn (q_add rfl rfl (by omega) (by omega)) ?_)
        refine l_step (s_q rfl wn (q_move rfl) ?_)
        refine l_nil ?_
        refine k_then_n ?_
        have e1 : ((rs.take (x.d + 1)).foldl (hearStep d.now d.span d.out) (d.told, [])) = (mset ((rs.take x.d).foldl (hearStep d.now d.span d.out) (d.told, [])).1 (rs.getD x.d default).Cluster ({ (mgetD ((rs.take x.d).foldl (hearStep d.now d.span d.out) (d.told, [])).1 (rs.getD x.d default).Cluster zTold) with any := true, done := (rs.getD x.d default).Done, at_ := d.now } : Told), ((rs.take x.d).foldl (hearStep d.now d.span d.out) (d.told, [])).2 ++ [(⟨6, (rs.getD x.d default).Cluster, (rs.getD x.d default).Done, false, zPln⟩ : Op1)]) := by rw [foldl_take _ _ _ _ (by omega)]; simp only [hearStep, hB, hN, told1, told2, opD, opH, if_true, Bool.false_eq_true, if_false, List.append_nil]
        have e4 : mset ((rs.take x.d).foldl (hearStep d.now d.span d.out) (d.told, [])).1 (rs.getD x.d default).Cluster ({ (mgetD ((rs.take x.d).foldl (hearStep d.now d.span d.out) (d.told, [])).1 (rs.getD x.d default).Cluster zTold) with any := true, done := (rs.getD x.d default).Done, at_ := d.now } : Told) = ((rs.take (x.d + 1)).foldl (hearStep d.now d.span d.out) (d.told, [])).1 := by rw [e1]
        have e2 : ((rs.take x.d).foldl (hearStep d.now d.span d.out) (d.told, [])).2 ++ [(⟨6, (rs.getD x.d default).Cluster, (rs.getD x.d default).Done, false, zPln⟩ : Op1)] = ((rs.take (x.d + 1)).foldl (hearStep d.now d.span d.out) (d.told, [])).2 := by rw [e1]
        have e3 : ((rs.take x.d).foldl (hearStep d.now d.span d.out) (d.told, [])).2.length + 1 = ((rs.take (x.d + 1)).foldl (hearStep d.now d.span d.out) (d.told, [])).2.length := by rw [e1]; simp
        rw [e2, e3]
        exact t_next (⟨x.d + 1, a85, c85, none, 0, none, 0⟩ : Lp _) ⟨by simp only []; omega, by simp only []; omega⟩ (.cons rfl (by first | rfl | exact inte (by omega) | (simp; done) | (simp <;> omega) | simp [*]) (.cons rfl (by first | rfl | exact inte (by omega) | (simp; done) | (simp <;> omega) | simp [*]) (.cons rfl (by first | rfl | exact inte (by omega) | (simp; done) | (simp <;> omega) | simp [*]) (.cons rfl (by first | rfl | exact inte (by omega) | (simp; done) | (simp <;> omega) | simp [*]) (.cons rfl (by first | rfl | exact inte (by omega) | (simp; done) | (simp <;> omega) | simp [*]) (.cons rfl (by first | rfl | exact inte (by omega) | (simp; done) | (simp <;> omega) | simp [*]) (.nil _))))))) (by simp only []; rw [← e4]; exact (by repeat (first | exact Ent.nil _ | exact Ent.refl _ | (refine Ent.pick (by repeat (first | exact Pick.here | apply Pick.there)) ?_) | refine Ent.skip ?_)))
    · skip
      have hB : doneB d.now d.span d.out (mgetD ((rs.take x.d).foldl (hearStep d.now d.span d.out) (d.told, [])).1 (rs.getD x.d default).Cluster zTold) (rs.getD x.d default) = false := h1
      refine c_skip ?_
      refine k_then_n ?_
      refine c_seq ?_
      refine c_seq ?_
      refine c_region ?_
      refine l_step (s_q rfl wn (q_fieldp rfl fo_34_4) ?_)
      refine l_step (s_q rfl wn (q_loadp (v := .int .i64 ((rs.getD x.d default).Number)) sc_3 rfl (by repeat (first | exact Pick.here | apply Pick.there)) rfl) ?_)
      refine l_step (s_q rfl wn (q_fieldp rfl fo_103_0) ?_)
      refine l_step (s_q rfl wn (q_loadp (v := .int .i64 ((mgetD (((rs.take x.d).foldl (hearStep d.now d.span d.out) (d.told, [])).1) ((rs.getD x.d default).Cluster) zTold).number)) sc_3 rfl (by repeat (first | exact Pick.here | apply Pick.there)) rfl) ?_)
      refine l_step (s_q rfl wn (q_gtr rfl rfl) ?_)
      refine l_nil ?_
      refine k_then_n ?_
      refine c_cond rfl (fun h2 => ?_) (fun h2 => ?_)
      · skip
        have hN : newB (mgetD ((rs.take x.d).foldl (hearStep d.now d.span d.out) (d.told, [])).1 (rs.getD x.d default).Cluster zTold) (rs.getD x.d default) = true := h2
        refine c_seq ?_
        refine c_region ?_
        refine l_step (s_q rfl wn (q_fieldp rfl fo_34_4) ?_)
        refine l_step (s_q rfl wn (q_loadp (v := .int .i64 ((rs.getD x.d default).Number)) sc_3 rfl (by repeat (first | exact Pick.here | apply Pick.there)) rfl) ?_)
        refine l_step (s_q rfl wn (q_fieldp rfl fo_103_0) ?_)
        refine l_step (s_s0 wn (s_storep (ws := [.int .i64 ((rs.getD x.d default).Number)]) (cs := encTold (mgetD (((rs.take x.d).foldl (hearStep d.now d.span d.out) (d.told, [])).1) ((rs.getD x.d default).Cluster) zTold)) (cs' := encTold { (mgetD (((rs.take x.d).foldl (hearStep d.now d.span d.out) (d.told, [])).1) ((rs.getD x.d default).Cluster) zTold) with number := ((rs.getD x.d default).Number) }) rfl rfl rfl sz_3 (by simp [Value.oneCell', strB, ptV, SL.v, SH.v]) (by simp [encTold]) rfl (by repeat (first | exact Pick.here | apply Pick.there))) ?_)
        rintro _ _ ⟨rfl, rfl⟩
        refine l_nil ?_
        refine k_then_n ?_
        refine c_region ?_
        refine l_step (s_q rfl wn (q_move rfl) ?_)
        refine l_step (s_q rfl wn (q_fieldp rfl fo_34_0) ?_)
        refine l_step (s_q rfl wn (q_loadp (v := .int .i64 ((rs.getD x.d default).Cluster)) sc_3 rfl (by repeat (first | exact Pick.here | apply Pick.there)) rfl) ?_)
        refine l_step (s_q rfl wn (q_fieldp rfl fo_34_4) ?_)
        refine l_step (s_q rfl wn (q_loadp (v := .int .i64 ((rs.getD x.d default).Number)) sc_3 rfl (by repeat (first | exact Pick.here | apply Pick.there)) rfl) ?_)
        refine l_step (s_q rfl wn (q_fieldp rfl fo_34_5) ?_)
        refine l_step (s_q rfl wn (q_loadp (v := .bool ((rs.getD x.d default).Good)) sc_4 rfl (by repeat (first | exact Pick.here | apply Pick.there)) rfl) ?_)
        refine l_step (s_q rfl wn (q_build (cs := encOp1 (⟨7, ((rs.getD x.d default).Cluster), ((rs.getD x.d default).Number), ((rs.getD x.d default).Good), zPln⟩ : Op1)) zc_39 pl_39 rfl rfl) ?_)
        refine l_step (s_s rfl wn (s_buildSlice (cs := ([(⟨7, ((rs.getD x.d default).Cluster), ((rs.getD x.d default).Number), ((rs.getD x.d default).Good), zPln⟩ : Op1)] : List Op1).flatMap encOp1) Try.underlying31 eo_39 rfl rfl rfl rfl (by decide) (by decide)) ?_)
        rintro _ _ ⟨b102, rfl, rfl⟩
        refine l_step (s_s rfl wn (s_appendn (enc := encOp1) (xs := ((((rs.take x.d).foldl (hearStep d.now d.span d.out) (d.told, [])).2) : List Op1)) (ys := ([(⟨7, ((rs.getD x.d default).Cluster), ((rs.getD x.d default).Number), ((rs.getD x.d default).Good), zPln⟩ : Op1)] : List Op1)) (Γ' := fun a' cap' => _) Try.underlying31 eo_39 (by decide) rfl rfl (rd_row (by repeat (first | exact Pick.here | apply Pick.there))) (oneOp1s _) (by first | omega | (simp only [List.length_append, List.length_cons, List.length_nil] at *; omega)) (by first | omega | (simp only [List.length_append, List.length_cons, List.length_nil] at *; omega)) (fun _ _ => (by repeat (first | exact Pick.here | apply Pick.there)))) ?_)
        rintro _ _ ⟨a103, c103, rfl, rfl⟩
        refine l_step (s_q rfl wn (q_assign rfl) ?_)
        refine l_nil ?_
        refine k_then_n ?_
        refine c_draw (m := 8) (bs := #[false, false, false, false, false, false, false, false]) [.row 39 7 (some ⟨b102, 0, none⟩) 1 1 ([(⟨7, ((rs.getD x.d default).Cluster), ((rs.getD x.d default).Number), ((rs.getD x.d default).Good), zPln⟩ : Op1)].flatMap encOp1), .pts b9 (encSent (mgetD d.out ((rs.getD x.d default).Cluster) zSent)) 100, .pts b8 (encTold { (mgetD (((rs.take x.d).foldl (hearStep d.now d.span d.out) (d.told, [])).1) ((rs.getD x.d default).Cluster) zTold) with number := ((rs.getD x.d default).Number) }) 103, .pts b7 (encRep_ (rs.getD x.d default)) 34, .row 39 7 a103 ((((rs.take x.d).foldl (hearStep d.now d.span d.out) (d.told, [])).2).length + 1) c103 (((((rs.take x.d).foldl (hearStep d.now d.span d.out) (d.told, [])).2) ++ [(⟨7, ((rs.getD x.d default).Cluster), ((rs.getD x.d default).Number), ((rs.getD x.d default).Good), zPln⟩ : Op1)]).flatMap encOp1), .pts b (encDisp (⟨d.span, d.now, (some d.bo), (some d.bt)⟩ : Disp)) 98, MP (Value.int .i64) (aggV encSent) d.bo d.out] (by kernel_rfl) rfl (by kernel_rfl) ?_
        refine r_take (i := 0) (bs' := #[true, false, false, false, false, false, false, false]) rfl (by kernel_rfl) (by kernel_rfl) (by kernel_rfl) (fun _ _ _ h => h) rfl wn (q_move rfl) (Hp.le_refl _) (by repeat (first | exact Ent.nil _ | exact Ent.refl _ | (refine Ent.pick (by repeat (first | exact Pick.here | apply Pick.there)) ?_) | refine Ent.skip ?_)) (by kernel_rfl) ?_
        refine r_take (i := 1) (bs' := #[true, true, false, false, false, false, false, false]) rfl (by kernel_rfl) (by kernel_rfl) (by kernel_rfl) (fun _ _ _ h => h) rfl wn (q_nilCheck rfl) (Hp.le_refl _) (by repeat (first | exact Ent.nil _ | exact Ent.refl _ | (refine Ent.pick (by repeat (first | exact Pick.here | apply Pick.there)) ?_) | refine Ent.skip ?_)) (by kernel_rfl) ?_
        refine r_take (i := 2) (bs' := #[true, true, true, false, false, false, false, false]) rfl (by kernel_rfl) (by kernel_rfl) (by kernel_rfl) (fun _ _ _ h => h) rfl wn (q_fieldp rfl fo_98_3) (Hp.le_refl _) (by repeat (first | exact Ent.nil _ | exact Ent.refl _ | (refine Ent.pick (by repeat (first | exact Pick.here | apply Pick.there)) ?_) | refine Ent.skip ?_)) (by kernel_rfl) ?_
        refine r_take (i := 3) (bs' := #[true, true, true, true, false, false, false, false]) rfl (by kernel_rfl) (by kernel_rfl) (by kernel_rfl) (fun _ _ _ h => h) rfl wn (q_loadp (v := .map (some d.bt)) sc_96 rfl (by repeat (first | exact Pick.here | apply Pick.there)) rfl) (Hp.le_refl _) (by repeat (first | exact Ent.nil _ | exact Ent.refl _ | (refine Ent.pick (by repeat (first | exact Pick.here | apply Pick.there)) ?_) | refine Ent.skip ?_)) (by kernel_rfl) ?_
        refine r_take (i := 4) (bs' := #[true, true, true, true, true, false, false, false]) rfl (by kernel_rfl) (by kernel_rfl) (by kernel_rfl) (fun _ _ _ h => h) rfl wn (q_fieldp rfl fo_34_0) (Hp.le_refl _) (by repeat (first | exact Ent.nil _ | exact Ent.refl _ | (refine Ent.pick (by repeat (first | exact Pick.here | apply Pick.there)) ?_) | refine Ent.skip ?_)) (by kernel_rfl) ?_
        refine r_take (i := 5) (bs' := #[true, true, true, true, true, true, false, false]) rfl (by kernel_rfl) (by kernel_rfl) (by kernel_rfl) (fun _ _ _ h => h) rfl wn (q_loadp (v := .int .i64 ((rs.getD x.d default).Cluster)) sc_3 rfl (by repeat (first | exact Pick.here | apply Pick.there)) rfl) (Hp.le_refl _) (by repeat (first | exact Ent.nil _ | exact Ent.refl _ | (refine Ent.pick (by repeat (first | exact Pick.here | apply Pick.there)) ?_) | refine Ent.skip ?_)) (by kernel_rfl) ?_
        refine r_take (i := 6) (bs' := #[true, true, true, true, true, true, true, false]) rfl (by kernel_rfl) (by kernel_rfl) (by kernel_rfl) (fun _ _ _ h => h) rfl wn (q_loadpa (vs := encTold { (mgetD (((rs.take x.d).foldl (hearStep d.now d.span d.out) (d.told, [])).1) ((rs.getD x.d default).Cluster) zTold) with number := ((rs.getD x.d default).Number) }) ag_103 rfl (by repeat (first | exact Pick.here | apply Pick.there)) rfl) (Hp.le_refl _) (by repeat (first | exact Ent.nil _ | exact Ent.refl _ | (refine Ent.pick (by repeat (first | exact Pick.here | apply Pick.there)) ?_) | refine Ent.skip ?_)) (by kernel_rfl) ?_
        refine r_one (i := 7) (bs' := #[true, true, true, true, true, true, true, true]) (by kernel_rfl) (by kernel_rfl) ?_
        refine o_step rfl (s_s0 wn (s_mset (ek := (Value.int .i64)) (ev := (aggV encTold)) (k := ((rs.getD x.d default).Cluster)) (v := { (mgetD (((rs.take x.d).foldl (hearStep d.now d.span d.out) (d.told, [])).1) ((rs.getD x.d default).Cluster) zTold) with number := ((rs.getD x.d default).Number) }) (m' := (mset (((rs.take x.d).foldl (hearStep d.now d.span d.out) (d.told, [])).1) ((rs.getD x.d default).Cluster) { (mgetD (((rs.take x.d).foldl (hearStep d.now d.span d.out) (d.told, [])).1) ((rs.getD x.d default).Cluster) zTold) with number := ((rs.getD x.d default).Number) })) Try.underlying96 (mkey_int Try.underlying3) rfl rfl rfl rfl rfl (by repeat (first | exact Pick.here | apply Pick.there))) ?_)
        rintro _ _ ⟨rfl, rfl⟩
        refine r_cont (Hp.le_refl _) (by repeat (first | exact Ent.nil _ | exact Ent.refl _ | (refine Ent.pick (by repeat (first | exact Pick.here | apply Pick.there)) ?_) | refine Ent.skip ?_)) ?_
        refine r_done (by kernel_rfl) ?_
        refine k_blk_n ?_
        refine k_then_n ?_
        refine c_region ?_
        refine l_step (s_q rfl wn (q_add rfl rfl (by omega) (by omega)) ?_)
        refine l_step (s_q rfl wn (q_move rfl) ?_)
        refine l_nil ?_
        refine k_then_n ?_
        have e1 : ((rs.take (x.d + 1)).foldl (hearStep d.now d.span d.out) (d.told, [])) = (mset ((rs.take x.d).foldl (hearStep d.now d.span d.out) (d.told, [])).1 (rs.getD x.d default).Cluster ({ ((mgetD ((rs.take x.d).foldl (hearStep d.now d.span d.out) (d.told, [])).1 (rs.getD x.d default).Cluster zTold) : Told) with number := (rs.getD x.d default).Number } : Told), ((rs.take x.d).foldl (hearStep d.now d.span d.out) (d.told, [])).2 ++ [(⟨7, (rs.getD x.d default).Cluster, (rs.getD x.d default).Number, (rs.getD x.d default).Good, zPln⟩ : Op1)]) := by rw [foldl_take _ _ _ _ (by omega)]; simp only [hearStep, hB, hN, told1, told2, opD, opH, if_true, Bool.false_eq_true, if_false, List.append_nil]
        have e4 : mset ((rs.take x.d).foldl (hearStep d.now d.span d.out) (d.told, [])).1 (rs.getD x.d default).Cluster ({ ((mgetD ((rs.take x.d).foldl (hearStep d.now d.span d.out) (d.told, [])).1 (rs.getD x.d default).Cluster zTold) : Told) with number := (rs.getD x.d default).Number } : Told) = ((rs.take (x.d + 1)).foldl (hearStep d.now d.span d.out) (d.told, [])).1 := by rw [e1]
        have e2 : ((rs.take x.d).foldl (hearStep d.now d.span d.out) (d.told, [])).2 ++ [(⟨7, (rs.getD x.d default).Cluster, (rs.getD x.d default).Number, (rs.getD x.d default).Good, zPln⟩ : Op1)] = ((rs.take (x.d + 1)).foldl (hearStep d.now d.span d.out) (d.told, [])).2 := by rw [e1]
        have e3 : ((rs.take x.d).foldl (hearStep d.now d.span d.out) (d.told, [])).2.length + 1 = ((rs.take (x.d + 1)).foldl (hearStep d.now d.span d.out) (d.told, [])).2.length := by rw [e1]; simp
        rw [e2, e3]
        exact t_next (⟨x.d + 1, a103, c103, none, 0, none, 0⟩ : Lp _) ⟨by simp only []; omega, by simp only []; omega⟩ (.cons rfl (by first | rfl | exact inte (by omega) | (simp; done) | (simp <;> omega) | simp [*]) (.cons rfl (by first | rfl | exact inte (by omega) | (simp; done) | (simp <;> omega) | simp [*]) (.cons rfl (by first | rfl | exact inte (by omega) | (simp; done) | (simp <;> omega) | simp [*]) (.cons rfl (by first | rfl | exact inte (by omega) | (simp; done) | (simp <;> omega) | simp [*]) (.cons rfl (by first | rfl | exact inte (by omega) | (simp; done) | (simp <;> omega) | simp [*]) (.cons rfl (by first | rfl | exact inte (by omega) | (simp; done) | (simp <;> omega) | simp [*]) (.nil _))))))) (by simp only []; rw [← e4]; exact (by repeat (first | exact Ent.nil _ | exact Ent.refl _ | (refine Ent.pick (by repeat (first | exact Pick.here | apply Pick.there)) ?_) | refine Ent.skip ?_)))
      · skip
        have hN : newB (mgetD ((rs.take x.d).foldl (hearStep d.now d.span d.out) (d.told, [])).1 (rs.getD x.d default).Cluster zTold) (rs.getD x.d default) = false := h2
        refine c_skip ?_
        refine k_then_n ?_
        refine c_draw (m := 8) (bs := #[false, false, false, false, false, false, false, false]) [.pts b9 (encSent (mgetD d.out ((rs.getD x.d default).Cluster) zSent)) 100, .pts b8 (encTold (mgetD (((rs.take x.d).foldl (hearStep d.now d.span d.out) (d.told, [])).1) ((rs.getD x.d default).Cluster) zTold)) 103, .pts b7 (encRep_ (rs.getD x.d default)) 34, .row 39 7 x.a1 ((((rs.take x.d).foldl (hearStep d.now d.span d.out) (d.told, [])).2).length) x.c1 ((((rs.take x.d).foldl (hearStep d.now d.span d.out) (d.told, [])).2).flatMap encOp1), .pts b (encDisp (⟨d.span, d.now, (some d.bo), (some d.bt)⟩ : Disp)) 98, MP (Value.int .i64) (aggV encSent) d.bo d.out] (by kernel_rfl) rfl (by kernel_rfl) ?_
        refine r_take (i := 0) (bs' := #[true, false, false, false, false, false, false, false]) rfl (by kernel_rfl) (by kernel_rfl) (by kernel_rfl) (fun _ _ _ h => h) rfl wn (q_move rfl) (Hp.le_refl _) (by repeat (first | exact Ent.nil _ | exact Ent.refl _ | (refine Ent.pick (by repeat (first | exact Pick.here | apply Pick.there)) ?_) | refine Ent.skip ?_)) (by kernel_rfl) ?_
        refine r_take (i := 1) (bs' := #[true, true, false, false, false, false, false, false]) rfl (by kernel_rfl) (by kernel_rfl) (by kernel_rfl) (fun _ _ _ h => h) rfl wn (q_nilCheck rfl) (Hp.le_refl _) (by repeat (first | exact Ent.nil _ | exact Ent.refl _ | (refine Ent.pick (by repeat (first | exact Pick.here | apply Pick.there)) ?_) | refine Ent.skip ?_)) (by kernel_rfl) ?_
        refine r_take (i := 2) (bs' := #[true, true, true, false, false, false, false, false]) rfl (by kernel_rfl) (by kernel_rfl) (by kernel_rfl) (fun _ _ _ h => h) rfl wn (q_fieldp rfl fo_98_3) (Hp.le_refl _) (by repeat (first | exact Ent.nil _ | exact Ent.refl _ | (refine Ent.pick (by repeat (first | exact Pick.here | apply Pick.there)) ?_) | refine Ent.skip ?_)) (by kernel_rfl) ?_
        refine r_take (i := 3) (bs' := #[true, true, true, true, false, false, false, false]) rfl (by kernel_rfl) (by kernel_rfl) (by kernel_rfl) (fun _ _ _ h => h) rfl wn (q_loadp (v := .map (some d.bt)) sc_96 rfl (by repeat (first | exact Pick.here | apply Pick.there)) rfl) (Hp.le_refl _) (by repeat (first | exact Ent.nil _ | exact Ent.refl _ | (refine Ent.pick (by repeat (first | exact Pick.here | apply Pick.there)) ?_) | refine Ent.skip ?_)) (by kernel_rfl) ?_
        refine r_take (i := 4) (bs' := #[true, true, true, true, true, false, false, false]) rfl (by kernel_rfl) (by kernel_rfl) (by kernel_rfl) (fun _ _ _ h => h) rfl wn (q_fieldp rfl fo_34_0) (Hp.le_refl _) (by repeat (first | exact Ent.nil _ | exact Ent.refl _ | (refine Ent.pick (by repeat (first | exact Pick.here | apply Pick.there)) ?_) | refine Ent.skip ?_)) (by kernel_rfl) ?_
        refine r_take (i := 5) (bs' := #[true, true, true, true, true, true, false, false]) rfl (by kernel_rfl) (by kernel_rfl) (by kernel_rfl) (fun _ _ _ h => h) rfl wn (q_loadp (v := .int .i64 ((rs.getD x.d default).Cluster)) sc_3 rfl (by repeat (first | exact Pick.here | apply Pick.there)) rfl) (Hp.le_refl _) (by repeat (first | exact Ent.nil _ | exact Ent.refl _ | (refine Ent.pick (by repeat (first | exact Pick.here | apply Pick.there)) ?_) | refine Ent.skip ?_)) (by kernel_rfl) ?_
        refine r_take (i := 6) (bs' := #[true, true, true, true, true, true, true, false]) rfl (by kernel_rfl) (by kernel_rfl) (by kernel_rfl) (fun _ _ _ h => h) rfl wn (q_loadpa (vs := encTold (mgetD (((rs.take x.d).foldl (hearStep d.now d.span d.out) (d.told, [])).1) ((rs.getD x.d default).Cluster) zTold)) ag_103 rfl (by repeat (first | exact Pick.here | apply Pick.there)) rfl) (Hp.le_refl _) (by repeat (first | exact Ent.nil _ | exact Ent.refl _ | (refine Ent.pick (by repeat (first | exact Pick.here | apply Pick.there)) ?_) | refine Ent.skip ?_)) (by kernel_rfl) ?_
        refine r_one (i := 7) (bs' := #[true, true, true, true, true, true, true, true]) (by kernel_rfl) (by kernel_rfl) ?_
        refine o_step rfl (s_s0 wn (s_mset (ek := (Value.int .i64)) (ev := (aggV encTold)) (k := ((rs.getD x.d default).Cluster)) (v := (mgetD (((rs.take x.d).foldl (hearStep d.now d.span d.out) (d.told, [])).1) ((rs.getD x.d default).Cluster) zTold)) (m' := (mset (((rs.take x.d).foldl (hearStep d.now d.span d.out) (d.told, [])).1) ((rs.getD x.d default).Cluster) (mgetD (((rs.take x.d).foldl (hearStep d.now d.span d.out) (d.told, [])).1) ((rs.getD x.d default).Cluster) zTold))) Try.underlying96 (mkey_int Try.underlying3) rfl rfl rfl rfl rfl (by repeat (first | exact Pick.here | apply Pick.there))) ?_)
        rintro _ _ ⟨rfl, rfl⟩
        refine r_cont (Hp.le_refl _) (by repeat (first | exact Ent.nil _ | exact Ent.refl _ | (refine Ent.pick (by repeat (first | exact Pick.here | apply Pick.there)) ?_) | refine Ent.skip ?_)) ?_
        refine r_done (by kernel_rfl) ?_
        refine k_blk_n ?_
        refine k_then_n ?_
        refine c_region ?_
        refine l_step (s_q rfl wn (q_add rfl rfl (by omega) (by omega)) ?_)
        refine l_step (s_q rfl wn (q_move rfl) ?_)
        refine l_nil ?_
        refine k_then_n ?_
        have e1 : ((rs.take (x.d + 1)).foldl (hearStep d.now d.span d.out) (d.told, [])) = (mset ((rs.take x.d).foldl (hearStep d.now d.span d.out) (d.told, [])).1 (rs.getD x.d default).Cluster ((mgetD ((rs.take x.d).foldl (hearStep d.now d.span d.out) (d.told, [])).1 (rs.getD x.d default).Cluster zTold) : Told), ((rs.take x.d).foldl (hearStep d.now d.span d.out) (d.told, [])).2) := by rw [foldl_take _ _ _ _ (by omega)]; simp only [hearStep, hB, hN, told1, told2, opD, opH, if_true, Bool.false_eq_true, if_false, List.append_nil]
        have e4 : mset ((rs.take x.d).foldl (hearStep d.now d.span d.out) (d.told, [])).1 (rs.getD x.d default).Cluster ((mgetD ((rs.take x.d).foldl (hearStep d.now d.span d.out) (d.told, [])).1 (rs.getD x.d default).Cluster zTold) : Told) = ((rs.take (x.d + 1)).foldl (hearStep d.now d.span d.out) (d.told, [])).1 := by rw [e1]
        have e2 : ((rs.take x.d).foldl (hearStep d.now d.span d.out) (d.told, [])).2 = ((rs.take (x.d + 1)).foldl (hearStep d.now d.span d.out) (d.told, [])).2 := by rw [e1]
        rw [e2]
        exact t_next (⟨x.d + 1, x.a1, x.c1, none, 0, none, 0⟩ : Lp _) ⟨by simp only []; omega, by simp only []; omega⟩ (.cons rfl (by first | rfl | exact inte (by omega) | (simp; done) | (simp <;> omega) | simp [*]) (.cons rfl (by first | rfl | exact inte (by omega) | (simp; done) | (simp <;> omega) | simp [*]) (.cons rfl (by first | rfl | exact inte (by omega) | (simp; done) | (simp <;> omega) | simp [*]) (.cons rfl (by first | rfl | exact inte (by omega) | (simp; done) | (simp <;> omega) | simp [*]) (.cons rfl (by first | rfl | exact inte (by omega) | (simp; done) | (simp <;> omega) | simp [*]) (.cons rfl (by first | rfl | exact inte (by omega) | (simp; done) | (simp <;> omega) | simp [*]) (.nil _))))))) (by simp only []; rw [← e4]; exact (by repeat (first | exact Ent.nil _ | exact Ent.refl _ | (refine Ent.pick (by repeat (first | exact Pick.here | apply Pick.there)) ?_) | refine Ent.skip ?_)))
  · try simp only [Bool.and_eq_true, Bool.or_eq_true, Bool.not_eq_true', Bool.and_eq_false_iff, Bool.or_eq_false_iff, Bool.not_eq_false', decide_eq_true_eq, decide_eq_false_iff_not, Bool.not_eq_eq_eq_not, Bool.not_true, Bool.not_false, Bool.not_eq_true, Bool.not_eq_false, beq_iff_eq, bne_iff_ne, ne_eq, Decidable.not_not] at h0
    have hk : x.d = rs.length := by omega
    have hof : ((rs.take x.d).foldl (hearStep d.now d.span d.out) (d.told, [])) = (hearF d.now d.span d.out d.told rs) := by rw [hk, List.take_length]; rfl
    rw [hof]
    refine c_exit ?_
    refine k_then_x ?_
    refine k_then_x ?_
    refine k_blk_x ?_
    refine k_then_n ?_
    refine c_seq ?_
    refine c_region ?_
    refine l_step (s_q rfl wn (q_move rfl) ?_)
    refine l_step (s_q rfl wn (q_assign rfl) ?_)
    refine l_nil ?_
    refine k_then_n ?_
    refine c_ret ?_
    exact t_ret [.row 39 7 x.a1 (hearF d.now d.span d.out d.told rs).2.length x.c1 ((hearF d.now d.span d.out d.told rs).2.flatMap encOp1), .pts b (encDisp (⟨d.span, d.now, (some d.bo), (some d.bt)⟩ : Disp)) 98, MP (Value.int .i64) (aggV encSent) d.bo d.out, MP (Value.int .i64) (aggV encTold) d.bt (hearF d.now d.span d.out d.told rs).1] rfl (.tmp rfl .nil) rfl (Hp.le_refl _) ⟨rfl, x.a1, x.c1, rfl, rfl⟩ (by repeat (first | exact Ent.nil _ | exact Ent.refl _ | (refine Ent.pick (by repeat (first | exact Pick.here | apply Pick.there)) ?_) | refine Ent.skip ?_))
end Go.Dsp

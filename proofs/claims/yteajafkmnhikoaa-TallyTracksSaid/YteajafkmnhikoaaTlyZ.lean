/-
  The track of package tally, walked.
-/
import Derived.Test.YteajafkmnhikoaaTlyX
import Derived.Test.YteajafkmnhikoaaTlyY
import Derived.Test.YteajafkmnhikoaaTlyR
import Derived.Test.YteajafkmnhikoaaDspL
import Derived.Test.YteajafkmnhikoaaProg
set_option maxRecDepth 100000
set_option maxHeartbeats 4000000
set_option linter.unusedSimpArgs false
set_option linter.unusedVariables false
namespace Go.Tly.Z
open Go Go.SL Go.Proofs Go.Tly Go.Tly.L Go.Tly.X Go.Tly.Y Go.Dsp.L
attribute [local irreducible] Go.SL.Ent
theorem eo_67 : elemOk Try.prog 67 2 16 = true := by kernel_rfl
theorem fo_116_0 : fieldOff Try.prog 116 0 = some (0, 114) := by kernel_rfl
theorem fo_122_0 : fieldOff Try.prog 122 0 = some (0, 3) := by kernel_rfl
theorem pl_116 : placesOf Try.prog 116 = some [(0, 1)] := by kernel_rfl
theorem pl_122 : placesOf Try.prog 122 = some [(0, 1), (1, 1)] := by kernel_rfl
theorem pl_67 : placesOf Try.prog 67 = some [(0, 1), (1, 1)] := by kernel_rfl
theorem sc_114 : isScalar Try.prog 114 = true := by kernel_rfl
theorem sc_22 : isScalar Try.prog 22 = true := by kernel_rfl
theorem sc_3 : isScalar Try.prog 3 = true := by kernel_rfl
theorem sz_3 : sizeIs Try.prog 3 = some 1 := by kernel_rfl
theorem zc_116 : zeroCs Try.prog 116 = some [.map none] := by kernel_rfl
theorem zc_122 : zeroCs Try.prog 122 = some [.int .i64 0, .int .i64 0] := by kernel_rfl
theorem zc_67 : zeroCs Try.prog 67 = some [.int .i64 0, .int .i64 0] := by kernel_rfl
theorem zi_118 : (Try.prog.info? 118).bind (·.zero) = some (ptV none) := by kernel_rfl

theorem only_spec (b : Nat) (mb : Nat) (T : PT) (last : Int) (ids_a : Option Addr) (ids_n ids_c : Nat) (ids : List Int) (hids_n : ids.length = ids_n) (ρ : Hp) (hT : TOk T) (hl : last ≤ 2199023255552) (hw : ∀ e ∈ T, I64 e.1) (hlen : T.length ≤ 1000000) (hro : Ro ρ 1 ids_a ids_n ids_c (ids.flatMap encI)) : Spec0 Try.prog 33 #[.pointer (some ⟨b, 0, none⟩), .int .i64 last, .slice ids_a ids_n ids_c] ρ [.pts b (encTrack (⟨some mb⟩ : Track)) 116, MP (Value.int .i64) ptV mb (pm T), PB 122 T] (fun v Γ' => ∃ T', OnlyI T last ids ids_n T' ∧ v = .tuple #[] ∧ Γ' = [.pts b (encTrack (⟨some mb⟩ : Track)) 116, MP (Value.int .i64) ptV mb (pm T'), PB 122 T']) := by
  refine spec_of (n := 38) (vs := [_, _, _]) (σ := [(0, _), (1, _), (2, _)]) Try.func33 rfl rfl rfl rfl fun E Δ => ?_
  simp only [List.cons_append, List.nil_append]
  have hrob : ids_n ≤ 9223372036854775807 := Nat.le_trans hro.2.1 hro.2.2.1
  have hW : ∀ k ∈ mkeys (pm T), I64 k := fun k hk => by rw [pm_keys] at hk; obtain ⟨e, he, rfl⟩ := List.mem_map.1 hk; exact hw e he
  refine c_seq ?_
  refine c_region ?_
  refine l_step (s_s rfl wn (s_box (cs := [.slice ids_a ids_n ids_c]) rfl rfl) ?_)
  rintro _ _ ⟨b5, rfl, rfl⟩
  refine l_nil ?_
  refine k_then_n ?_
  refine c_seq ?_
  refine c_region ?_
  refine l_step (s_q rfl wn (q_move rfl) ?_)
  refine l_step (s_q rfl wn (q_nilCheck rfl) ?_)
  refine l_step (s_q rfl wn (q_fieldp rfl fo_116_0) ?_)
  refine l_step (s_q rfl wn (q_loadp (v := .map (some mb)) sc_114 rfl (by repeat (first | exact Pick.here | apply Pick.there)) rfl) ?_)
  refine l_step (s_q rfl wn (q_makeFunc rfl rfl) ?_)
  refine l_step (s_fnb rfl wn Try.func44 rfl (by kernel_rfl) rfl (by repeat (first | exact Sel.nil | exact Pick.here | apply Sel.cons | apply Pick.there)) (fun ρ' hL => deleteFunc (ev := ptV) delP rfl Try.underlying3 mb b5 [.slice ids_a ids_n ids_c] 22 (pm T) hW (by simp [pm]; omega) 45 (enters_of Try.func45 (by kernel_rfl) rfl) (fun k => !decide (k ∈ ids)) ρ' (fun ρ2 hl2 k u => only1_spec ids_a ids_n ids_c ids k u b5 ρ2 hids_n (Ro.mono hl2 (show Ro ρ' 1 ids_a ids_n ids_c (ids.flatMap encI) from (by first | exact hL.ro (by assumption) | exact hL.row (by repeat (first | exact Pick.here | apply Pick.there)) | assumption))))) ?_)
  rintro _ _ ⟨m', hpm, rfl, rfl⟩
  try simp only [List.cons_append, List.nil_append]
  obtain ⟨T1, hT1, rfl⟩ := perm_map_inv (fun e : Int × Nat × Peer => (e.1, some e.2.1)) hpm (T.filter fun e => decide (e.1 ∈ ids)) (by simp [pm, List.filter_map, Function.comp_def])
  have hm1 : T1.map (fun e : Int × Nat × Peer => (e.1, some e.2.1)) = pm T1 := rfl
  rw [hm1]
  refine Tr.ent (pb_less (t := 122) hT1 (by repeat (first | exact Pick.here | apply Pick.there))) ?_
  have hO := only_zero (last := last) hT.1 hT1
  refine l_nil ?_
  refine k_then_n ?_
  refine c_seq ?_
  refine c_region ?_
  refine l_step (s_q rfl wn (q_loadp (v := .slice ids_a ids_n ids_c) sc_22 rfl (by repeat (first | exact Pick.here | apply Pick.there)) rfl) ?_)
  refine l_step (s_q rfl wn (q_len Try.underlying22 rfl) ?_)
  refine l_step (s_q rfl wn (q_move rfl) ?_)
  refine l_nil ?_
  refine k_then_n ?_
  refine c_block ?_
  refine Tr.env (σ' := [(0, _), (1, _), (14, _), (15, _), (16, _)]) (.cons rfl rfl (.cons rfl rfl (.cons rfl rfl (.cons rfl rfl (.cons rfl rfl (.nil _)))))) ?_
  refine t_loop (ι := Lp (Nat × PT)) (fun x => x.d.1 ≤ ids_n ∧ OnlyI T last ids x.d.1 x.d.2) (fun x => ids_n - x.d.1) (fun x => [(0, .pointer (some ⟨b, 0, none⟩)), (1, .int .i64 last), (14, .slice ids_a ids_n ids_c), (15, .int .i64 (ids_n : Int)), (16, .int .i64 (x.d.1 : Int))]) (fun x => PB 122 x.d.2 :: .pts b5 [.slice ids_a ids_n ids_c] 22 :: .pts b (encTrack (⟨some mb⟩ : Track)) 116 :: MP (Value.int .i64) ptV mb (pm x.d.2) :: Δ) (⟨(0, T1), none, 0, none, 0, none, 0⟩ : Lp _) ⟨Nat.zero_le _, hO⟩ ?_ ?_ ?_
  · exact .cons rfl (by first | rfl | exact inte (by omega) | (simp; done) | (simp <;> omega) | simp [*]) (.cons rfl (by first | rfl | exact inte (by omega) | (simp; done) | (simp <;> omega) | simp [*]) (.cons rfl (by first | rfl | exact inte (by omega) | (simp; done) | (simp <;> omega) | simp [*]) (.cons rfl (by first | rfl | exact inte (by omega) | (simp; done) | (simp <;> omega) | simp [*]) (.cons rfl (by first | rfl | exact inte (by omega) | (simp; done) | (simp <;> omega) | simp [*]) (.nil _)))))
  · exact (by repeat (first | exact Ent.nil _ | exact Ent.refl _ | (refine Ent.pick (by repeat (first | exact Pick.here | apply Pick.there)) ?_) | refine Ent.skip ?_))
  intro x hx
  obtain ⟨hx1, hx2⟩ := hx
  refine c_seq ?_
  refine c_region ?_
  refine l_step (s_q rfl wn (q_lss rfl rfl) ?_)
  refine l_nil ?_
  refine k_then_n ?_
  refine c_seq ?_
  refine c_cond rfl (fun h0 => ?_) (fun h0 => ?_)
  · try simp only [Bool.and_eq_true, Bool.or_eq_true, Bool.not_eq_true', Bool.and_eq_false_iff, Bool.or_eq_false_iff, Bool.not_eq_false', decide_eq_true_eq, decide_eq_false_iff_not, Bool.not_eq_eq_eq_not, Bool.not_true, Bool.not_false, Bool.not_eq_true, Bool.not_eq_false, beq_iff_eq, bne_iff_ne, ne_eq, Decidable.not_not] at h0
    refine c_skip ?_
    refine k_then_n ?_
    refine c_seq ?_
    refine c_block ?_
    refine c_seq ?_
    refine c_region ?_
    refine l_step (s_q rfl wn (q_indexe x.d.1 Try.underlying22 sz_3 rfl rfl (by first | assumption | exact rd_ro (by assumption) | exact rd_row (by repeat (first | exact Pick.here | apply Pick.there))) (by decide) rfl (by first | assumption | omega | (simp only [List.length_cons, List.length_nil]; omega))) ?_)
    refine l_step (s_q rfl wn (q_loade (enc := encI) (xs := ids) (j := x.d.1) (off := 0) sc_3 rfl (by first | assumption | exact rd_ro (by assumption) | exact rd_row (by repeat (first | exact Pick.here | apply Pick.there))) (fun _ => rfl) (by first | assumption | omega | (simp only [List.length_cons, List.length_nil]; omega)) (by decide) rfl) ?_)
    refine l_step (s_q rfl wn (q_assign rfl) ?_)
    refine l_nil ?_
    refine k_then_n ?_
    refine c_seq ?_
    refine c_region ?_
    refine l_step (s_q rfl wn (q_move rfl) ?_)
    refine l_step (s_q rfl wn (q_nilCheck rfl) ?_)
    refine l_step (s_q rfl wn (q_fieldp rfl fo_116_0) ?_)
    refine l_step (s_q rfl wn (q_loadp (v := .map (some mb)) sc_114 rfl (by repeat (first | exact Pick.here | apply Pick.there)) rfl) ?_)
    refine l_step (s_q rfl wn (q_move rfl) ?_)
    refine l_step (s_q rfl wn (q_look (v := (ptV (mgetD (pm x.d.2) (ids.getD x.d.1 default) none))) (ek := (Value.int .i64)) (ev := ptV) (k := (ids.getD x.d.1 default)) (zv := none) Try.underlying114 (mkey_int Try.underlying3) zi_118 rfl rfl (by repeat (first | exact Pick.here | apply Pick.there)) rfl) ?_)
    refine l_step (s_q rfl wn (q_eqlo (e := (mgetD (pm x.d.2) (ids.getD x.d.1 default) none)) rfl rfl Try.underlying118) ?_)
    refine l_nil ?_
    refine k_then_n ?_
    refine c_cond rfl (fun h1 => ?_) (fun h1 => ?_)
    · skip
      refine c_region ?_
      refine l_step (s_q rfl wn (q_move rfl) ?_)
      refine l_step (s_q rfl wn (q_nilCheck rfl) ?_)
      refine l_step (s_q rfl wn (q_fieldp rfl fo_116_0) ?_)
      refine l_step (s_q rfl wn (q_loadp (v := .map (some mb)) sc_114 rfl (by repeat (first | exact Pick.here | apply Pick.there)) rfl) ?_)
      refine l_step (s_q rfl wn (q_move rfl) ?_)
      refine l_step (s_q rfl wn (q_move rfl) ?_)
      refine l_step (s_q rfl wn (q_max2 rfl rfl) ?_)
      refine l_step (s_q rfl wn (q_add rfl rfl (by omega) (by omega)) ?_)
      refine l_step (s_q rfl wn (q_build (cs := encPeer (⟨0, ((if 0 > last then 0 else last) + 1)⟩ : Peer)) zc_122 pl_122 rfl rfl) ?_)
      refine l_step (s_s rfl wn (s_box (cs := encPeer (⟨0, ((if 0 > last then 0 else last) + 1)⟩ : Peer)) rfl rfl) ?_)
      rintro _ _ ⟨b36, rfl, rfl⟩
      refine l_step (s_s0 wn (s_mset (ek := (Value.int .i64)) (ev := ptV) (k := (ids.getD x.d.1 default)) (v := (some b36)) (m' := (mset (pm x.d.2) (ids.getD x.d.1 default) (some b36))) Try.underlying114 (mkey_int Try.underlying3) rfl rfl rfl rfl rfl (by repeat (first | exact Pick.here | apply Pick.there))) ?_)
      rintro _ _ ⟨rfl, rfl⟩
      refine l_nil ?_
      refine k_blk_n ?_
      refine k_then_n ?_
      refine c_region ?_
      refine l_step (s_q rfl wn (q_add rfl rfl (by omega) (by omega)) ?_)
      refine l_step (s_q rfl wn (q_move rfl) ?_)
      refine l_nil ?_
      refine k_then_n ?_
      have hno := look_none (opt_none h1)
      rw [pm_new (p := newP last) hno]
      refine Tr.ent (Ent.trans (Ent.pick (A := .pts b36 (encPeer (newP last)) 122) (by repeat (first | exact Pick.here | apply Pick.there)) (Ent.pick (A := PB 122 x.d.2) (by repeat (first | exact Pick.here | apply Pick.there)) (Ent.refl _))) (pb_new (id := (ids.getD x.d.1 default)))) ?_
      exact t_next (⟨(x.d.1 + 1, x.d.2 ++ [((ids.getD x.d.1 default), b36, newP last)]), none, 0, none, 0, none, 0⟩ : Lp _) ⟨⟨by simp only []; omega, only_new hx2 (by omega) hno⟩, by simp only []; omega⟩ (.cons rfl (by first | rfl | exact inte (by omega) | (simp; done) | (simp <;> omega) | simp [*]) (.cons rfl (by first | rfl | exact inte (by omega) | (simp; done) | (simp <;> omega) | simp [*]) (.cons rfl (by first | rfl | exact inte (by omega) | (simp; done) | (simp <;> omega) | simp [*]) (.cons rfl (by first | rfl | exact inte (by omega) | (simp; done) | (simp <;> omega) | simp [*]) (.cons rfl (by first | rfl | exact inte (by omega) | (simp; done) | (simp <;> omega) | simp [*]) (.nil _)))))) (by repeat (first | exact Ent.nil _ | exact Ent.refl _ | (refine Ent.pick (by repeat (first | exact Pick.here | apply Pick.there)) ?_) | refine Ent.skip ?_))
    · skip
      refine c_skip ?_
      refine k_blk_n ?_
      refine k_then_n ?_
      refine c_region ?_
      refine l_step (s_q rfl wn (q_add rfl rfl (by omega) (by omega)) ?_)
      refine l_step (s_q rfl wn (q_move rfl) ?_)
      refine l_nil ?_
      refine k_then_n ?_
      exact t_next (⟨(x.d.1 + 1, x.d.2), none, 0, none, 0, none, 0⟩ : Lp _) ⟨⟨by simp only []; omega, only_old hx2 (by omega) (look_yes (opt_some h1))⟩, by simp only []; omega⟩ (.cons rfl (by first | rfl | exact inte (by omega) | (simp; done) | (simp <;> omega) | simp [*]) (.cons rfl (by first | rfl | exact inte (by omega) | (simp; done) | (simp <;> omega) | simp [*]) (.cons rfl (by first | rfl | exact inte (by omega) | (simp; done) | (simp <;> omega) | simp [*]) (.cons rfl (by first | rfl | exact inte (by omega) | (simp; done) | (simp <;> omega) | simp [*]) (.cons rfl (by first | rfl | exact inte (by omega) | (simp; done) | (simp <;> omega) | simp [*]) (.nil _)))))) (by repeat (first | exact Ent.nil _ | exact Ent.refl _ | (refine Ent.pick (by repeat (first | exact Pick.here | apply Pick.there)) ?_) | refine Ent.skip ?_))
  · try simp only [Bool.and_eq_true, Bool.or_eq_true, Bool.not_eq_true', Bool.and_eq_false_iff, Bool.or_eq_false_iff, Bool.not_eq_false', decide_eq_true_eq, decide_eq_false_iff_not, Bool.not_eq_eq_eq_not, Bool.not_true, Bool.not_false, Bool.not_eq_true, Bool.not_eq_false, beq_iff_eq, bne_iff_ne, ne_eq, Decidable.not_not] at h0
    refine c_exit ?_
    refine k_then_x ?_
    refine k_then_x ?_
    refine k_blk_x ?_
    refine k_body_n ?_
    exact t_ret [.pts b (encTrack (⟨some mb⟩ : Track)) 116, MP (Value.int .i64) ptV mb (pm x.d.2), PB 122 x.d.2] rfl .nil rfl (Hp.le_refl _) ⟨rfl, x.d.2, by rw [show ids_n = x.d.1 from by omega]; exact hx2, rfl, rfl⟩ (by repeat (first | exact Ent.nil _ | exact Ent.refl _ | (refine Ent.pick (by repeat (first | exact Pick.here | apply Pick.there)) ?_) | refine Ent.skip ?_))

theorem newTrack_spec (last : Int) (ids_a : Option Addr) (ids_n ids_c : Nat) (ids : List Int) (hids_n : ids.length = ids_n) (ρ : Hp) (hl : last ≤ 2199023255552) (hro : Ro ρ 1 ids_a ids_n ids_c (ids.flatMap encI)) : Spec0 Try.prog 31 #[.int .i64 last, .slice ids_a ids_n ids_c] ρ [] (fun v Γ' => ∃ b mb T', OnlyI [] last ids ids_n T' ∧ v = .pointer (some ⟨b, 0, none⟩) ∧ Γ' = [.pts b (encTrack (⟨some mb⟩ : Track)) 116, MP (Value.int .i64) ptV mb (pm T'), PB 122 T']) := by
  refine spec_of (n := 14) (vs := [_, _]) (σ := [(0, _), (1, _)]) Try.func31 rfl rfl rfl rfl fun E Δ => ?_
  rw [List.nil_append]
  refine c_seq ?_
  refine c_region ?_
  refine l_step (s_q rfl wn (q_assign rfl) ?_)
  refine l_nil ?_
  refine k_then_n ?_
  refine c_seq ?_
  refine c_region ?_
  refine l_step (s_s rfl wn (s_makeMap (ek := (Value.int .i64)) (ev := ptV)) ?_)
  rintro _ _ ⟨b6, rfl, rfl⟩
  refine l_step (s_q rfl wn (q_build (cs := encTrack (⟨(some b6)⟩ : Track)) zc_116 pl_116 rfl rfl) ?_)
  refine l_step (s_s rfl wn (s_box (cs := encTrack (⟨(some b6)⟩ : Track)) rfl rfl) ?_)
  rintro _ _ ⟨b8, rfl, rfl⟩
  refine l_step (s_q rfl wn (q_assign rfl) ?_)
  refine l_nil ?_
  refine k_then_n ?_
  refine c_seq ?_
  refine c_region ?_
  refine Tr.ent (bun_nil _) ?_
  refine l_step (s_q rfl wn (q_move rfl) ?_)
  refine l_step (s_q rfl wn (q_move rfl) ?_)
  refine l_step (s_q rfl wn (q_move rfl) ?_)
  refine l_step (s_fnb rfl wn Try.func33 rfl (by kernel_rfl) rfl (by repeat (first | exact Sel.nil | exact Pick.here | apply Sel.cons | apply Pick.there)) (fun ρ' hL => only_spec b8 b6 [] last ids_a ids_n ids_c ids (by first | rfl | assumption | simp) ρ' ⟨List.nodup_nil, fun e he => by cases he⟩ hl (fun e he => by cases he) (Nat.zero_le _) (by first | exact hL.ro (by assumption) | exact hL.row (by repeat (first | exact Pick.here | apply Pick.there)) | assumption)) ?_)
  rintro _ _ ⟨T', hO, rfl, rfl⟩
  try simp only [List.cons_append, List.nil_append]
  refine l_nil ?_
  refine k_then_n ?_
  refine c_seq ?_
  refine c_region ?_
  refine l_step (s_q rfl wn (q_move rfl) ?_)
  refine l_step (s_q rfl wn (q_assign rfl) ?_)
  refine l_nil ?_
  refine k_then_n ?_
  refine c_ret ?_
  exact t_ret [.pts b8 (encTrack (⟨some b6⟩ : Track)) 116, MP (Value.int .i64) ptV b6 (pm T'), PB 122 T'] rfl (.tmp rfl .nil) rfl (Hp.le_refl _) ⟨rfl, b8, b6, T', hO, rfl, rfl⟩ (by repeat (first | exact Ent.nil _ | exact Ent.refl _ | (refine Ent.pick (by repeat (first | exact Pick.here | apply Pick.there)) ?_) | refine Ent.skip ?_))

theorem keysP_spec (mb : Nat) (ρ : Hp) : Spec0 Try.prog 48 #[.map (some mb)] ρ [] (fun v Γ' => ∃ c, v = .func (.func 54) #[] #[.pointer (some ⟨c, 0, none⟩)] ∧ Γ' = [.pts c [.map (some mb)] 114]) := by
  refine spec_of (n := 4) (vs := [_]) (σ := [(0, _)]) Try.func48 rfl rfl rfl rfl fun E Δ => ?_
  rw [List.nil_append]
  refine c_seq ?_
  refine c_region ?_
  refine l_step (s_s rfl wn (s_box (cs := [.map (some mb)]) rfl rfl) ?_)
  rintro _ _ ⟨b1, rfl, rfl⟩
  refine l_step (s_q rfl wn (q_assign rfl) ?_)
  refine l_nil ?_
  refine k_then_n ?_
  refine c_seq ?_
  refine c_region ?_
  refine l_step (s_q rfl wn (q_makeFunc rfl rfl) ?_)
  refine l_step (s_q rfl wn (q_assign rfl) ?_)
  refine l_nil ?_
  refine k_then_n ?_
  refine c_ret ?_
  exact t_ret [.pts b1 [.map (some mb)] 114] rfl (.tmp rfl .nil) rfl (Hp.le_refl _) ⟨rfl, b1, rfl, rfl⟩ (by repeat (first | exact Ent.nil _ | exact Ent.refl _ | (refine Ent.pick (by repeat (first | exact Pick.here | apply Pick.there)) ?_) | refine Ent.skip ?_))

theorem all_spec (b : Nat) (mb : Nat) (T : PT) (ρ : Hp) (hw : ∀ e ∈ T, I64 e.1) (hlen : T.length ≤ 1000000) : Spec0 Try.prog 36 #[.pointer (some ⟨b, 0, none⟩)] ρ [.pts b (encTrack (⟨some mb⟩ : Track)) 116, MP (Value.int .i64) ptV mb (pm T), PB 122 T] (fun v Γ' => ∃ a c, v = .slice a T.length c ∧ Γ' = [.row 67 2 a T.length c ((allF T).flatMap encMtch), .pts b (encTrack (⟨some mb⟩ : Track)) 116, MP (Value.int .i64) ptV mb (pm T), PB 122 T]) := by
  refine spec_of (n := 33) (vs := [_]) (σ := [(0, _)]) Try.func36 rfl rfl rfl rfl fun E Δ => ?_
  simp only [List.cons_append, List.nil_append]
  have hW : ∀ k ∈ mkeys (pm T), I64 k := fun k hk => by rw [pm_keys] at hk; obtain ⟨e, he, rfl⟩ := List.mem_map.1 hk; exact hw e he
  have hkl := ks_len T
  have hpl : (pm T).length = T.length := by simp [pm]
  refine c_seq ?_
  refine c_region ?_
  refine l_step (s_q rfl wn (q_assign rfl) ?_)
  refine l_nil ?_
  refine k_then_n ?_
  refine c_seq ?_
  refine c_region ?_
  refine l_step (s_q rfl wn (q_assign rfl) ?_)
  refine l_nil ?_
  refine k_then_n ?_
  refine c_seq ?_
  refine c_seq ?_
  refine c_region ?_
  refine l_step (s_q rfl wn (q_move rfl) ?_)
  refine l_step (s_q rfl wn (q_nilCheck rfl) ?_)
  refine l_step (s_q rfl wn (q_fieldp rfl fo_116_0) ?_)
  refine l_step (s_q rfl wn (q_loadp (v := .map (some mb)) sc_114 rfl (by repeat (first | exact Pick.here | apply Pick.there)) rfl) ?_)
  refine l_step (s_fnb rfl wn Try.func48 rfl (by kernel_rfl) rfl (by repeat (first | exact Sel.nil | exact Pick.here | apply Sel.cons | apply Pick.there)) (fun ρ' hL => keysP_spec mb ρ') ?_)
  rintro _ _ ⟨c7, rfl, rfl⟩
  try simp only [List.cons_append, List.nil_append]
  refine l_step (s_fnb rfl wn Try.func47 rfl (by kernel_rfl) rfl (by repeat (first | exact Sel.nil | exact Pick.here | apply Sel.cons | apply Pick.there)) (fun ρ' hL => keysT_sorted mb c7 (pm T) hW (by simp [pm]; omega) 114 ρ') ?_)
  rintro _ _ ⟨a8, c8, rfl, rfl⟩
  try simp only [List.cons_append, List.nil_append]
  refine l_step (s_q rfl wn (q_len Try.underlying22 rfl) ?_)
  refine l_step (s_q rfl wn (q_move rfl) ?_)
  refine l_nil ?_
  refine k_then_n ?_
  refine c_block ?_
  refine Tr.ent (Ent.nilrow 67 2 _) ?_
  refine Tr.env (σ' := [(0, _), (2, _), (3, _), (11, _), (12, _), (13, _)]) (.cons rfl rfl (.cons rfl rfl (.cons rfl rfl (.cons rfl rfl (.cons rfl rfl (.cons rfl rfl (.nil _))))))) ?_
  refine t_loop (ι := Lp (Nat)) (fun x => x.d ≤ T.length) (fun x => T.length - x.d) (fun x => [(0, .pointer (some ⟨b, 0, none⟩)), (2, .slice none 0 0), (3, .slice x.a1 ((((sortI (mkeys (pm T))).take x.d).map fun id => (⟨id, matchF T id⟩ : Mtch)).length) x.c1), (11, .slice a8 ((pm T).length) c8), (12, .int .i64 ((pm T).length : Int)), (13, .int .i64 (x.d : Int))]) (fun x => .row 67 2 x.a1 ((((sortI (mkeys (pm T))).take x.d).map fun id => (⟨id, matchF T id⟩ : Mtch)).length) x.c1 ((((sortI (mkeys (pm T))).take x.d).map fun id => (⟨id, matchF T id⟩ : Mtch)).flatMap encMtch) :: .row 3 1 a8 ((pm T).length) c8 ((sortI (mkeys (pm T))).flatMap encI) :: .pts c7 [.map (some mb)] 114 :: .pts b (encTrack (⟨some mb⟩ : Track)) 116 :: MP (Value.int .i64) ptV mb (pm T) :: PB 122 T :: Δ) (⟨0, none, 0, none, 0, none, 0⟩ : Lp _) (Nat.zero_le _) ?_ ?_ ?_
  · exact .cons rfl (by first | rfl | exact inte (by omega) | (simp; done) | (simp <;> omega) | simp [*]) (.cons rfl (by first | rfl | exact inte (by omega) | (simp; done) | (simp <;> omega) | simp [*]) (.cons rfl (by first | rfl | exact inte (by omega) | (simp; done) | (simp <;> omega) | simp [*]) (.cons rfl (by first | rfl | exact inte (by omega) | (simp; done) | (simp <;> omega) | simp [*]) (.cons rfl (by first | rfl | exact inte (by omega) | (simp; done) | (simp <;> omega) | simp [*]) (.cons rfl (by first | rfl | exact inte (by omega) | (simp; done) | (simp <;> omega) | simp [*]) (.nil _))))))
  · exact (by repeat (first | exact Ent.nil _ | exact Ent.refl _ | (refine Ent.pick (by repeat (first | exact Pick.here | apply Pick.there)) ?_) | refine Ent.skip ?_))
  intro x hx
  have hln : (((sortI (mkeys (pm T))).take x.d).map fun id => (⟨id, matchF T id⟩ : Mtch)).length = x.d := by rw [List.length_map, List.length_take]; omega
  refine c_seq ?_
  refine c_region ?_
  refine l_step (s_q rfl wn (q_lss rfl rfl) ?_)
  refine l_nil ?_
  refine k_then_n ?_
  refine c_seq ?_
  refine c_cond rfl (fun h0 => ?_) (fun h0 => ?_)
  · try simp only [Bool.and_eq_true, Bool.or_eq_true, Bool.not_eq_true', Bool.and_eq_false_iff, Bool.or_eq_false_iff, Bool.not_eq_false', decide_eq_true_eq, decide_eq_false_iff_not, Bool.not_eq_eq_eq_not, Bool.not_true, Bool.not_false, Bool.not_eq_true, Bool.not_eq_false, beq_iff_eq, bne_iff_ne, ne_eq, Decidable.not_not] at h0
    refine c_skip ?_
    refine k_then_n ?_
    refine c_seq ?_
    refine c_block ?_
    refine c_seq ?_
    refine c_region ?_
    refine l_step (s_q rfl wn (q_indexe x.d Try.underlying22 sz_3 rfl rfl (rd_row (by repeat (first | exact Pick.here | apply Pick.there))) (by decide) rfl (by first | assumption | omega | (simp only [List.length_cons, List.length_nil]; omega))) ?_)
    refine l_step (s_q rfl wn (q_loade (enc := encI) (xs := (sortI (mkeys (pm T)))) (j := x.d) (off := 0) sc_3 rfl (rd_row (by repeat (first | exact Pick.here | apply Pick.there))) (fun _ => rfl) (by first | assumption | omega | (simp only [List.length_cons, List.length_nil]; omega)) (by decide) rfl) ?_)
    refine l_step (s_q rfl wn (q_assign rfl) ?_)
    refine l_nil ?_
    refine k_then_n ?_
    refine c_region ?_
    refine l_step (s_q rfl wn (q_move rfl) ?_)
    refine l_step (s_q rfl wn (q_move rfl) ?_)
    refine l_step (s_q rfl wn (q_move rfl) ?_)
    refine l_step (s_q rfl wn (q_nilCheck rfl) ?_)
    refine l_step (s_q rfl wn (q_fieldp rfl fo_116_0) ?_)
    refine l_step (s_q rfl wn (q_loadp (v := .map (some mb)) sc_114 rfl (by repeat (first | exact Pick.here | apply Pick.there)) rfl) ?_)
    refine l_step (s_q rfl wn (q_move rfl) ?_)
    refine l_step (s_q rfl wn (q_look (v := (ptV (mgetD (pm T) ((sortI (mkeys (pm T))).getD x.d default) none))) (ek := (Value.int .i64)) (ev := ptV) (k := ((sortI (mkeys (pm T))).getD x.d default)) (zv := none) Try.underlying114 (mkey_int Try.underlying3) zi_118 rfl rfl (by repeat (first | exact Pick.here | apply Pick.there)) rfl) ?_)
    have hin : ¬ mgetD (pm T) ((sortI (mkeys (pm T))).getD x.d default) none = none := key_in (key_at (by omega))
    obtain ⟨j, pb', p, hj, hjs, hte, hmg⟩ := look_some hin
    rw [hmg]
    refine Tr.ent (peer_open (t := 122) hjs (by repeat (first | exact Pick.here | apply Pick.there))) ?_
    refine l_step (s_q rfl wn (q_nilCheck rfl) ?_)
    refine l_step (s_q rfl wn (q_fieldp rfl fo_122_0) ?_)
    refine l_step (s_q rfl wn (q_loadp (v := .int .i64 p.match_) sc_3 rfl (by repeat (first | exact Pick.here | apply Pick.there)) rfl) ?_)
    refine l_step (s_q rfl wn (q_build (cs := encMtch (⟨((sortI (mkeys (pm T))).getD x.d default), p.match_⟩ : Mtch)) zc_67 pl_67 rfl rfl) ?_)
    refine l_step (s_s rfl wn (s_buildSlice (cs := ([(⟨((sortI (mkeys (pm T))).getD x.d default), p.match_⟩ : Mtch)] : List Mtch).flatMap encMtch) Try.underlying61 eo_67 rfl rfl rfl rfl (by decide) (by decide)) ?_)
    rintro _ _ ⟨b29, rfl, rfl⟩
    refine l_step (s_s rfl wn (s_appendn (enc := encMtch) (xs := ((((sortI (mkeys (pm T))).take x.d).map fun id => (⟨id, matchF T id⟩ : Mtch)) : List Mtch)) (ys := ([(⟨((sortI (mkeys (pm T))).getD x.d default), p.match_⟩ : Mtch)] : List Mtch)) (Γ' := fun a' cap' => _) Try.underlying61 eo_67 (by decide) rfl rfl (rd_row (by repeat (first | exact Pick.here | apply Pick.there))) (oneMtchs _) (by first | omega | (simp only [List.length_append, List.length_cons, List.length_nil] at *; omega)) (by first | omega | (simp only [List.length_append, List.length_cons, List.length_nil] at *; omega)) (fun _ _ => (by repeat (first | exact Pick.here | apply Pick.there)))) ?_)
    rintro _ _ ⟨a30, c30, rfl, rfl⟩
    refine l_step (s_q rfl wn (q_assign rfl) ?_)
    refine l_nil ?_
    refine k_blk_n ?_
    refine k_then_n ?_
    refine c_region ?_
    refine l_step (s_q rfl wn (q_add rfl rfl (by omega) (by omega)) ?_)
    refine l_step (s_q rfl wn (q_move rfl) ?_)
    refine l_nil ?_
    refine k_then_n ?_
    refine Tr.ent (Ent.trans (Ent.pick (A := .pts pb' (encPeer p) 122) (by repeat (first | exact Pick.here | apply Pick.there)) (Ent.pick (A := Bun ((pL 122 T).eraseIdx j)) (by repeat (first | exact Pick.here | apply Pick.there)) (Ent.refl _))) (peer_same hjs)) ?_
    have hmf : p.match_ = matchF T ((sortI (mkeys (pm T))).getD x.d default) := by unfold matchF; rw [hte]
    have hxs : (((sortI (mkeys (pm T))).take x.d).map fun id => (⟨id, matchF T id⟩ : Mtch)) ++ [(⟨((sortI (mkeys (pm T))).getD x.d default), p.match_⟩ : Mtch)] = (((sortI (mkeys (pm T))).take (x.d + 1)).map fun id => (⟨id, matchF T id⟩ : Mtch)) := by rw [take_succ_getD _ _ (by omega), List.map_append, hmf]; rfl
    have hn1 : (((sortI (mkeys (pm T))).take x.d).map fun id => (⟨id, matchF T id⟩ : Mtch)).length + 1 = (((sortI (mkeys (pm T))).take (x.d + 1)).map fun id => (⟨id, matchF T id⟩ : Mtch)).length := by rw [← hxs, List.length_append]; rfl
    rw [hxs, hn1]
    exact t_next (⟨x.d + 1, a30, c30, none, 0, none, 0⟩ : Lp _) ⟨by simp only []; omega, by simp only []; omega⟩ (.cons rfl (by first | rfl | exact inte (by omega) | (simp; done) | (simp <;> omega) | simp [*]) (.cons rfl (by first | rfl | exact inte (by omega) | (simp; done) | (simp <;> omega) | simp [*]) (.cons rfl (by first | rfl | exact inte (by omega) | (simp; done) | (simp <;> omega) | simp [*]) (.cons rfl (by first | rfl | exact inte (by omega) | (simp; done) | (simp <;> omega) | simp [*]) (.cons rfl (by first | rfl | exact inte (by omega) | (simp; done) | (simp <;> omega) | simp [*]) (.cons rfl (by first | rfl | exact inte (by omega) | (simp; done) | (simp <;> omega) | simp [*]) (.nil _))))))) (by repeat (first | exact Ent.nil _ | exact Ent.refl _ | (refine Ent.pick (by repeat (first | exact Pick.here | apply Pick.there)) ?_) | refine Ent.skip ?_))
  · try simp only [Bool.and_eq_true, Bool.or_eq_true, Bool.not_eq_true', Bool.and_eq_false_iff, Bool.or_eq_false_iff, Bool.not_eq_false', decide_eq_true_eq, decide_eq_false_iff_not, Bool.not_eq_eq_eq_not, Bool.not_true, Bool.not_false, Bool.not_eq_true, Bool.not_eq_false, beq_iff_eq, bne_iff_ne, ne_eq, Decidable.not_not] at h0
    have hk : x.d = (sortI (mkeys (pm T))).length := by omega
    have hof : (((sortI (mkeys (pm T))).take x.d).map fun id => (⟨id, matchF T id⟩ : Mtch)) = allF T := by rw [hk, List.take_length]; rfl
    rw [hof] at hln ⊢
    rw [show (allF T).length = T.length from by omega]
    refine c_exit ?_
    refine k_then_x ?_
    refine k_then_x ?_
    refine k_blk_x ?_
    refine k_then_n ?_
    refine c_seq ?_
    refine c_region ?_
    refine l_step (s_q rfl wn (q_move rfl) ?_)
    refine l_step (s_q rfl wn (q_assign rfl) ?_)
    refine l_nil ?_
    refine k_then_n ?_
    refine c_ret ?_
    exact t_ret [.row 67 2 x.a1 T.length x.c1 ((allF T).flatMap encMtch), .pts b (encTrack (⟨some mb⟩ : Track)) 116, MP (Value.int .i64) ptV mb (pm T), PB 122 T] rfl (.tmp rfl .nil) rfl (Hp.le_refl _) ⟨rfl, x.a1, x.c1, rfl, rfl⟩ (by repeat (first | exact Ent.nil _ | exact Ent.refl _ | (refine Ent.pick (by repeat (first | exact Pick.here | apply Pick.there)) ?_) | refine Ent.skip ?_))
end Go.Tly.Z

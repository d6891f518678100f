/-
  The track of package tally, walked.
-/
import Derived.Test.YteajafkmnhikoaaTlyQ
import Derived.Test.YteajafkmnhikoaaTlyW
import Derived.Test.YteajafkmnhikoaaDspL
import Derived.Test.YteajafkmnhikoaaProg
set_option maxRecDepth 100000
set_option maxHeartbeats 4000000
set_option linter.unusedSimpArgs false
set_option linter.unusedVariables false
namespace Go.Tly.X
open Go Go.SL Go.Proofs Go.Tly Go.Dsp.L
attribute [local irreducible] Go.SL.Ent
theorem fo_116_0 : fieldOff Try.prog 116 0 = some (0, 114) := by kernel_rfl
theorem fo_122_0 : fieldOff Try.prog 122 0 = some (0, 3) := by kernel_rfl
theorem fo_122_1 : fieldOff Try.prog 122 1 = some (1, 3) := by kernel_rfl
theorem sc_114 : isScalar Try.prog 114 = true := by kernel_rfl
theorem sc_3 : isScalar Try.prog 3 = true := by kernel_rfl
theorem sz_3 : sizeIs Try.prog 3 = some 1 := by kernel_rfl
theorem zi_118 : (Try.prog.info? 118).bind (·.zero) = some (ptV none) := by kernel_rfl

theorem tmatch_spec (b : Nat) (mb : Nat) (T : PT) (id : Int) (ρ : Hp) : Spec0 Try.prog 37 #[.pointer (some ⟨b, 0, none⟩), .int .i64 id] ρ [.pts b (encTrack (⟨some mb⟩ : Track)) 116, MP (Value.int .i64) ptV mb (pm T), PB 122 T] (fun v Γ' => v = .int .i64 (matchF T id) ∧ Γ' = [.pts b (encTrack (⟨some mb⟩ : Track)) 116, MP (Value.int .i64) ptV mb (pm T), PB 122 T]) := by
  refine spec_of (n := 18) (vs := [_, _]) (σ := [(0, _), (1, _)]) Try.func37 rfl rfl rfl rfl fun E Δ => ?_
  simp only [List.cons_append, List.nil_append]
  refine c_seq ?_
  refine c_region ?_
  refine l_step (s_q rfl wn (q_assign rfl) ?_)
  refine l_nil ?_
  refine k_then_n ?_
  refine c_seq ?_
  refine c_seq ?_
  refine c_region ?_
  refine l_step (s_q rfl wn (q_move rfl) ?_)
  refine l_step (s_q rfl wn (q_nilCheck rfl) ?_)
  refine l_step (s_q rfl wn (q_fieldp rfl fo_116_0) ?_)
  refine l_step (s_q rfl wn (q_loadp (v := .map (some mb)) sc_114 rfl (by repeat (first | exact Pick.here | apply Pick.there)) rfl) ?_)
  refine l_step (s_q rfl wn (q_move rfl) ?_)
  refine l_step (s_q rfl wn (q_look (v := (ptV (mgetD (pm T) id none))) (ek := (Value.int .i64)) (ev := ptV) (k := id) (zv := none) Try.underlying114 (mkey_int Try.underlying3) zi_118 rfl rfl (by repeat (first | exact Pick.here | apply Pick.there)) rfl) ?_)
  refine l_step (s_q rfl wn (q_assign rfl) ?_)
  refine l_nil ?_
  refine k_then_n ?_
  refine c_seq ?_
  refine c_region ?_
  refine l_step (s_q rfl wn (q_move rfl) ?_)
  refine l_step (s_q rfl wn (q_neqo (e := (mgetD (pm T) id none)) rfl rfl Try.underlying118) ?_)
  refine l_nil ?_
  refine k_then_n ?_
  refine c_cond rfl (fun h0 => ?_) (fun h0 => ?_)
  · skip
    obtain ⟨j, pb', p, hj, hjs, hte, hmg⟩ := look_some (iso_some h0)
    rw [hmg]
    refine Tr.ent (peer_open (t := 122) hjs (by repeat (first | exact Pick.here | apply Pick.there))) ?_
    refine c_seq ?_
    refine c_region ?_
    refine l_step (s_q rfl wn (q_move rfl) ?_)
    refine l_step (s_q rfl wn (q_nilCheck rfl) ?_)
    refine l_step (s_q rfl wn (q_fieldp rfl fo_122_0) ?_)
    refine l_step (s_q rfl wn (q_loadp (v := .int .i64 p.match_) sc_3 rfl (by repeat (first | exact Pick.here | apply Pick.there)) rfl) ?_)
    refine l_step (s_q rfl wn (q_assign rfl) ?_)
    refine l_nil ?_
    refine k_then_n ?_
    refine c_ret ?_
    refine k_then_r ?_
    refine Tr.ent (peer_same hjs) ?_
    exact t_ret [.pts b (encTrack (⟨some mb⟩ : Track)) 116, MP (Value.int .i64) ptV mb (pm T), PB 122 T] rfl (.tmp rfl .nil) rfl (Hp.le_refl _) ⟨rfl, (by unfold matchF; rw [hte]; rfl), rfl⟩ (by repeat (first | exact Ent.nil _ | exact Ent.refl _ | (refine Ent.pick (by repeat (first | exact Pick.here | apply Pick.there)) ?_) | refine Ent.skip ?_))
  · skip
    refine c_skip ?_
    refine k_then_n ?_
    refine c_seq ?_
    refine c_region ?_
    refine l_step (s_q rfl wn (q_assign rfl) ?_)
    refine l_nil ?_
    refine k_then_n ?_
    refine c_ret ?_
    exact t_ret [.pts b (encTrack (⟨some mb⟩ : Track)) 116, MP (Value.int .i64) ptV mb (pm T), PB 122 T] rfl (.tmp rfl .nil) rfl (Hp.le_refl _) ⟨rfl, (by unfold matchF; rw [look_none (iso_none h0)]; rfl), rfl⟩ (by repeat (first | exact Ent.nil _ | exact Ent.refl _ | (refine Ent.pick (by repeat (first | exact Pick.here | apply Pick.there)) ?_) | refine Ent.skip ?_))

theorem tnext_spec (b : Nat) (mb : Nat) (T : PT) (id : Int) (ρ : Hp) : Spec0 Try.prog 39 #[.pointer (some ⟨b, 0, none⟩), .int .i64 id] ρ [.pts b (encTrack (⟨some mb⟩ : Track)) 116, MP (Value.int .i64) ptV mb (pm T), PB 122 T] (fun v Γ' => v = .int .i64 (nextF T id) ∧ Γ' = [.pts b (encTrack (⟨some mb⟩ : Track)) 116, MP (Value.int .i64) ptV mb (pm T), PB 122 T]) := by
  refine spec_of (n := 18) (vs := [_, _]) (σ := [(0, _), (1, _)]) Try.func39 rfl rfl rfl rfl fun E Δ => ?_
  simp only [List.cons_append, List.nil_append]
  refine c_seq ?_
  refine c_region ?_
  refine l_step (s_q rfl wn (q_assign rfl) ?_)
  refine l_nil ?_
  refine k_then_n ?_
  refine c_seq ?_
  refine c_seq ?_
  refine c_region ?_
  refine l_step (s_q rfl wn (q_move rfl) ?_)
  refine l_step (s_q rfl wn (q_nilCheck rfl) ?_)
  refine l_step (s_q rfl wn (q_fieldp rfl fo_116_0) ?_)
  refine l_step (s_q rfl wn (q_loadp (v := .map (some mb)) sc_114 rfl (by repeat (first | exact Pick.here | apply Pick.there)) rfl) ?_)
  refine l_step (s_q rfl wn (q_move rfl) ?_)
  refine l_step (s_q rfl wn (q_look (v := (ptV (mgetD (pm T) id none))) (ek := (Value.int .i64)) (ev := ptV) (k := id) (zv := none) Try.underlying114 (mkey_int Try.underlying3) zi_118 rfl rfl (by repeat (first | exact Pick.here | apply Pick.there)) rfl) ?_)
  refine l_step (s_q rfl wn (q_assign rfl) ?_)
  refine l_nil ?_
  refine k_then_n ?_
  refine c_seq ?_
  refine c_region ?_
  refine l_step (s_q rfl wn (q_move rfl) ?_)
  refine l_step (s_q rfl wn (q_neqo (e := (mgetD (pm T) id none)) rfl rfl Try.underlying118) ?_)
  refine l_nil ?_
  refine k_then_n ?_
  refine c_cond rfl (fun h0 => ?_) (fun h0 => ?_)
  · skip
    obtain ⟨j, pb', p, hj, hjs, hte, hmg⟩ := look_some (iso_some h0)
    rw [hmg]
    refine Tr.ent (peer_open (t := 122) hjs (by repeat (first | exact Pick.here | apply Pick.there))) ?_
    refine c_seq ?_
    refine c_region ?_
    refine l_step (s_q rfl wn (q_move rfl) ?_)
    refine l_step (s_q rfl wn (q_nilCheck rfl) ?_)
    refine l_step (s_q rfl wn (q_fieldp rfl fo_122_1) ?_)
    refine l_step (s_q rfl wn (q_loadp (v := .int .i64 p.next) sc_3 rfl (by repeat (first | exact Pick.here | apply Pick.there)) rfl) ?_)
    refine l_step (s_q rfl wn (q_assign rfl) ?_)
    refine l_nil ?_
    refine k_then_n ?_
    refine c_ret ?_
    refine k_then_r ?_
    refine Tr.ent (peer_same hjs) ?_
    exact t_ret [.pts b (encTrack (⟨some mb⟩ : Track)) 116, MP (Value.int .i64) ptV mb (pm T), PB 122 T] rfl (.tmp rfl .nil) rfl (Hp.le_refl _) ⟨rfl, (by unfold nextF; rw [hte]; rfl), rfl⟩ (by repeat (first | exact Ent.nil _ | exact Ent.refl _ | (refine Ent.pick (by repeat (first | exact Pick.here | apply Pick.there)) ?_) | refine Ent.skip ?_))
  · skip
    refine c_skip ?_
    refine k_then_n ?_
    refine c_seq ?_
    refine c_region ?_
    refine l_step (s_q rfl wn (q_assign rfl) ?_)
    refine l_nil ?_
    refine k_then_n ?_
    refine c_ret ?_
    exact t_ret [.pts b (encTrack (⟨some mb⟩ : Track)) 116, MP (Value.int .i64) ptV mb (pm T), PB 122 T] rfl (.tmp rfl .nil) rfl (Hp.le_refl _) ⟨rfl, (by unfold nextF; rw [look_none (iso_none h0)]; rfl), rfl⟩ (by repeat (first | exact Ent.nil _ | exact Ent.refl _ | (refine Ent.pick (by repeat (first | exact Pick.here | apply Pick.there)) ?_) | refine Ent.skip ?_))

theorem ack_spec (b : Nat) (mb : Nat) (T : PT) (id : Int) (index : Int) (ρ : Hp) (hT : TOk T) (hi : index ≤ 2199023255552) : Spec0 Try.prog 34 #[.pointer (some ⟨b, 0, none⟩), .int .i64 id, .int .i64 index] ρ [.pts b (encTrack (⟨some mb⟩ : Track)) 116, MP (Value.int .i64) ptV mb (pm T), PB 122 T] (fun v Γ' => v = .bool (ackB T id index) ∧ Γ' = [.pts b (encTrack (⟨some mb⟩ : Track)) 116, MP (Value.int .i64) ptV mb (pm (ackT T id index)), PB 122 (ackT T id index)]) := by
  refine spec_of (n := 38) (vs := [_, _, _]) (σ := [(0, _), (1, _), (2, _)]) Try.func34 rfl rfl rfl rfl fun E Δ => ?_
  simp only [List.cons_append, List.nil_append]
  refine c_seq ?_
  refine c_region ?_
  refine l_step (s_q rfl wn (q_assign rfl) ?_)
  refine l_nil ?_
  refine k_then_n ?_
  refine c_seq ?_
  refine c_region ?_
  refine l_step (s_q rfl wn (q_move rfl) ?_)
  refine l_step (s_q rfl wn (q_nilCheck rfl) ?_)
  refine l_step (s_q rfl wn (q_fieldp rfl fo_116_0) ?_)
  refine l_step (s_q rfl wn (q_loadp (v := .map (some mb)) sc_114 rfl (by repeat (first | exact Pick.here | apply Pick.there)) rfl) ?_)
  refine l_step (s_q rfl wn (q_move rfl) ?_)
  refine l_step (s_q rfl wn (q_look (v := (ptV (mgetD (pm T) id none))) (ek := (Value.int .i64)) (ev := ptV) (k := id) (zv := none) Try.underlying114 (mkey_int Try.underlying3) zi_118 rfl rfl (by repeat (first | exact Pick.here | apply Pick.there)) rfl) ?_)
  refine l_step (s_q rfl wn (q_assign rfl) ?_)
  refine l_nil ?_
  refine k_then_n ?_
  refine c_seq ?_
  refine c_seq ?_
  refine c_region ?_
  refine l_step (s_q rfl wn (q_move rfl) ?_)
  refine l_step (s_q rfl wn (q_eqlo (e := (mgetD (pm T) id none)) rfl rfl Try.underlying118) ?_)
  refine l_step (s_q rfl wn (q_move rfl) ?_)
  refine t_split (d := 16) rfl (fun g2_2 => ?_) (fun g2_2 => ?_)
  · try simp only [Bool.and_eq_true, Bool.or_eq_true, Bool.not_eq_true', Bool.and_eq_false_iff, Bool.or_eq_false_iff, Bool.not_eq_false', decide_eq_true_eq, decide_eq_false_iff_not, Bool.not_eq_eq_eq_not, Bool.not_true, Bool.not_false, Bool.not_eq_true, Bool.not_eq_false, beq_iff_eq, bne_iff_ne, ne_eq, Decidable.not_not] at g2_2
    refine l_step (s_no rfl (wno rfl rfl (by decide)) ?_)
    refine l_step (s_no rfl (wno rfl rfl (by decide)) ?_)
    refine l_step (s_no rfl (wno rfl rfl (by decide)) ?_)
    refine l_step (s_no rfl (wno rfl rfl (by decide)) ?_)
    refine l_step (s_no rfl (wno rfl rfl (by decide)) ?_)
    refine l_step (s_no rfl (wno rfl rfl (by decide)) ?_)
    refine l_step (s_q rfl wn (q_pick rfl rfl rfl) ?_)
    refine l_nil ?_
    refine k_then_n ?_
    refine c_yes rfl ?_
    refine c_seq ?_
    refine c_region ?_
    refine l_step (s_q rfl wn (q_assign rfl) ?_)
    refine l_nil ?_
    refine k_then_n ?_
    refine c_ret ?_
    refine k_then_r ?_
    rw [show ackT T id index = T from map_no (look_none (opt_none g2_2)) _]
    exact t_ret [.pts b (encTrack (⟨some mb⟩ : Track)) 116, MP (Value.int .i64) ptV mb (pm T), PB 122 T] rfl (.tmp rfl .nil) rfl (Hp.le_refl _) ⟨rfl, boole (by unfold ackB; rw [look_none (opt_none g2_2)]), rfl⟩ (by repeat (first | exact Ent.nil _ | exact Ent.refl _ | (refine Ent.pick (by repeat (first | exact Pick.here | apply Pick.there)) ?_) | refine Ent.skip ?_))
  · try simp only [Bool.and_eq_true, Bool.or_eq_true, Bool.not_eq_true', Bool.and_eq_false_iff, Bool.or_eq_false_iff, Bool.not_eq_false', decide_eq_true_eq, decide_eq_false_iff_not, Bool.not_eq_eq_eq_not, Bool.not_true, Bool.not_false, Bool.not_eq_true, Bool.not_eq_false, beq_iff_eq, bne_iff_ne, ne_eq, Decidable.not_not] at g2_2
    obtain ⟨j, pb', p, hj, hjs, hte, hmg⟩ := look_some (opt_some g2_2)
    rw [hmg]
    refine Tr.ent (peer_open (t := 122) hjs (by repeat (first | exact Pick.here | apply Pick.there))) ?_
    have hpb := hT.at_ hjs
    refine l_step (s_q rfl (wy rfl rfl rfl) (q_move rfl) ?_)
    refine l_step (s_q rfl (wy rfl rfl rfl) (q_move rfl) ?_)
    refine l_step (s_q rfl (wy rfl rfl rfl) (q_nilCheck rfl) ?_)
    refine l_step (s_q rfl (wy rfl rfl rfl) (q_fieldp rfl fo_122_0) ?_)
    refine l_step (s_q rfl (wy rfl rfl rfl) (q_loadp (v := .int .i64 p.match_) sc_3 rfl (by repeat (first | exact Pick.here | apply Pick.there)) rfl) ?_)
    refine l_step (s_q rfl (wy rfl rfl rfl) (q_leq rfl rfl) ?_)
    refine l_step (s_q rfl wn (q_pick rfl rfl rfl) ?_)
    refine l_nil ?_
    refine k_then_n ?_
    refine c_cond rfl (fun h0 => ?_) (fun h0 => ?_)
    · try simp only [Bool.and_eq_true, Bool.or_eq_true, Bool.not_eq_true', Bool.and_eq_false_iff, Bool.or_eq_false_iff, Bool.not_eq_false', decide_eq_true_eq, decide_eq_false_iff_not, Bool.not_eq_eq_eq_not, Bool.not_true, Bool.not_false, Bool.not_eq_true, Bool.not_eq_false, beq_iff_eq, bne_iff_ne, ne_eq, Decidable.not_not] at h0
      refine c_seq ?_
      refine c_region ?_
      refine l_step (s_q rfl wn (q_assign rfl) ?_)
      refine l_nil ?_
      refine k_then_n ?_
      refine c_ret ?_
      refine k_then_r ?_
      have eT : ackT T id index = T := by have q := map_set_ hT.1 hjs (ackP index); rw [show ackP index p = p from if_neg (by omega), set_at hjs] at q; exact q.symm
      refine Tr.ent (peer_same hjs) ?_
      rw [eT]
      exact t_ret [.pts b (encTrack (⟨some mb⟩ : Track)) 116, MP (Value.int .i64) ptV mb (pm T), PB 122 T] rfl (.tmp rfl .nil) rfl (Hp.le_refl _) ⟨rfl, boole (by unfold ackB; rw [hte]; exact (decide_eq_false (show ¬ p.match_ < index from by omega)).symm), rfl⟩ (by repeat (first | exact Ent.nil _ | exact Ent.refl _ | (refine Ent.pick (by repeat (first | exact Pick.here | apply Pick.there)) ?_) | refine Ent.skip ?_))
    · try simp only [Bool.and_eq_true, Bool.or_eq_true, Bool.not_eq_true', Bool.and_eq_false_iff, Bool.or_eq_false_iff, Bool.not_eq_false', decide_eq_true_eq, decide_eq_false_iff_not, Bool.not_eq_eq_eq_not, Bool.not_true, Bool.not_false, Bool.not_eq_true, Bool.not_eq_false, beq_iff_eq, bne_iff_ne, ne_eq, Decidable.not_not] at h0
      refine c_skip ?_
      refine k_then_n ?_
      refine c_seq ?_
      refine c_region ?_
      refine l_step (s_q rfl wn (q_move rfl) ?_)
      refine l_step (s_q rfl wn (q_move rfl) ?_)
      refine l_step (s_q rfl wn (q_nilCheck rfl) ?_)
      refine l_step (s_q rfl wn (q_fieldp rfl fo_122_0) ?_)
      refine l_step (s_s0 wn (s_storep (ws := [.int .i64 index]) (cs := encPeer p) (cs' := encPeer { p with match_ := index }) rfl rfl rfl sz_3 (by simp [Value.oneCell', strB, ptV, SL.v, SH.v]) (by simp [encPeer]) rfl (by repeat (first | exact Pick.here | apply Pick.there))) ?_)
      rintro _ _ ⟨rfl, rfl⟩
      refine l_nil ?_
      refine k_then_n ?_
      refine c_seq ?_
      refine c_region ?_
      refine l_step (s_q rfl wn (q_move rfl) ?_)
      refine l_step (s_q rfl wn (q_move rfl) ?_)
      refine l_step (s_q rfl wn (q_nilCheck rfl) ?_)
      refine l_step (s_q rfl wn (q_fieldp rfl fo_122_1) ?_)
      refine l_step (s_q rfl wn (q_loadp (v := .int .i64 ({ p with match_ := index }.next)) sc_3 rfl (by repeat (first | exact Pick.here | apply Pick.there)) rfl) ?_)
      refine l_step (s_q rfl wn (q_move rfl) ?_)
      refine l_step (s_q rfl wn (q_add rfl rfl (by omega) (by omega)) ?_)
      refine l_step (s_q rfl wn (q_max2 rfl rfl) ?_)
      refine l_step (s_q rfl wn (q_nilCheck rfl) ?_)
      refine l_step (s_q rfl wn (q_fieldp rfl fo_122_1) ?_)
      refine l_step (s_s0 wn (s_storep (ws := [.int .i64 (if (index + 1) > ({ p with match_ := index }.next) then (index + 1) else ({ p with match_ := index }.next))]) (cs := encPeer { p with match_ := index }) (cs' := encPeer { { p with match_ := index } with next := (if (index + 1) > ({ p with match_ := index }.next) then (index + 1) else ({ p with match_ := index }.next)) }) rfl rfl rfl sz_3 (by simp [Value.oneCell', strB, ptV, SL.v, SH.v]) (by simp [encPeer]) rfl (by repeat (first | exact Pick.here | apply Pick.there))) ?_)
      rintro _ _ ⟨rfl, rfl⟩
      refine l_nil ?_
      refine k_then_n ?_
      refine c_seq ?_
      refine c_region ?_
      refine l_step (s_q rfl wn (q_assign rfl) ?_)
      refine l_nil ?_
      refine k_then_n ?_
      refine c_ret ?_
      have eT : T.set j (id, pb', { { p with match_ := index } with next := (if (index + 1) > ({ p with match_ := index }.next) then (index + 1) else ({ p with match_ := index }.next)) }) = ackT T id index := by have q := map_set_ hT.1 hjs (ackP index); rw [show ackP index p = { { p with match_ := index } with next := (if (index + 1) > ({ p with match_ := index }.next) then (index + 1) else ({ p with match_ := index }.next)) } from (by unfold ackP; rw [if_pos (by omega)]; rfl)] at q; exact q
      have eM : pm T = pm (ackT T id index) := by rw [← eT, pm_set hjs]
      refine Tr.ent (peer_shut hjs) ?_
      rw [eT, eM]
      exact t_ret [.pts b (encTrack (⟨some mb⟩ : Track)) 116, MP (Value.int .i64) ptV mb (pm (ackT T id index)), PB 122 (ackT T id index)] rfl (.tmp rfl .nil) rfl (Hp.le_refl _) ⟨rfl, boole (by unfold ackB; rw [hte]; exact (decide_eq_true (show p.match_ < index from by omega)).symm), rfl⟩ (by repeat (first | exact Ent.nil _ | exact Ent.refl _ | (refine Ent.pick (by repeat (first | exact Pick.here | apply Pick.there)) ?_) | refine Ent.skip ?_))

theorem back_spec (b : Nat) (mb : Nat) (T : PT) (id : Int) (index : Int) (hint : Int) (ρ : Hp) (hT : TOk T) (hh : hint ≤ 2199023255552) : Spec0 Try.prog 35 #[.pointer (some ⟨b, 0, none⟩), .int .i64 id, .int .i64 index, .int .i64 hint] ρ [.pts b (encTrack (⟨some mb⟩ : Track)) 116, MP (Value.int .i64) ptV mb (pm T), PB 122 T] (fun v Γ' => v = .bool (backB T id index) ∧ Γ' = [.pts b (encTrack (⟨some mb⟩ : Track)) 116, MP (Value.int .i64) ptV mb (pm (backT T id index hint)), PB 122 (backT T id index hint)]) := by
  refine spec_of (n := 49) (vs := [_, _, _, _]) (σ := [(0, _), (1, _), (2, _), (3, _)]) Try.func35 rfl rfl rfl rfl fun E Δ => ?_
  simp only [List.cons_append, List.nil_append]
  refine c_seq ?_
  refine c_region ?_
  refine l_step (s_q rfl wn (q_assign rfl) ?_)
  refine l_nil ?_
  refine k_then_n ?_
  refine c_seq ?_
  refine c_region ?_
  refine l_step (s_q rfl wn (q_move rfl) ?_)
  refine l_step (s_q rfl wn (q_nilCheck rfl) ?_)
  refine l_step (s_q rfl wn (q_fieldp rfl fo_116_0) ?_)
  refine l_step (s_q rfl wn (q_loadp (v := .map (some mb)) sc_114 rfl (by repeat (first | exact Pick.here | apply Pick.there)) rfl) ?_)
  refine l_step (s_q rfl wn (q_move rfl) ?_)
  refine l_step (s_q rfl wn (q_look (v := (ptV (mgetD (pm T) id none))) (ek := (Value.int .i64)) (ev := ptV) (k := id) (zv := none) Try.underlying114 (mkey_int Try.underlying3) zi_118 rfl rfl (by repeat (first | exact Pick.here | apply Pick.there)) rfl) ?_)
  refine l_step (s_q rfl wn (q_assign rfl) ?_)
  refine l_nil ?_
  refine k_then_n ?_
  refine c_seq ?_
  refine c_seq ?_
  refine c_region ?_
  refine l_step (s_q rfl wn (q_move rfl) ?_)
  refine l_step (s_q rfl wn (q_eqlo (e := (mgetD (pm T) id none)) rfl rfl Try.underlying118) ?_)
  refine l_step (s_q rfl wn (q_move rfl) ?_)
  refine t_split (d := 18) rfl (fun g2_2 => ?_) (fun g2_2 => ?_)
  · try simp only [Bool.and_eq_true, Bool.or_eq_true, Bool.not_eq_true', Bool.and_eq_false_iff, Bool.or_eq_false_iff, Bool.not_eq_false', decide_eq_true_eq, decide_eq_false_iff_not, Bool.not_eq_eq_eq_not, Bool.not_true, Bool.not_false, Bool.not_eq_true, Bool.not_eq_false, beq_iff_eq, bne_iff_ne, ne_eq, Decidable.not_not] at g2_2
    refine l_step (s_no rfl (wno rfl rfl (by decide)) ?_)
    refine l_step (s_no rfl (wno rfl rfl (by decide)) ?_)
    refine l_step (s_no rfl (wno rfl rfl (by decide)) ?_)
    refine l_step (s_no rfl (wno rfl rfl (by decide)) ?_)
    refine l_step (s_no rfl (wno rfl rfl (by decide)) ?_)
    refine l_step (s_no rfl (wno rfl rfl (by decide)) ?_)
    refine l_step (s_no rfl (wno rfl rfl (by decide)) ?_)
    refine l_step (s_q rfl wn (q_pick rfl rfl rfl) ?_)
    refine l_step (s_q rfl wn (q_move rfl) ?_)
    refine l_step (s_no rfl (wno rfl rfl (by decide)) ?_)
    refine l_step (s_no rfl (wno rfl rfl (by decide)) ?_)
    refine l_step (s_no rfl (wno rfl rfl (by decide)) ?_)
    refine l_step (s_no rfl (wno rfl rfl (by decide)) ?_)
    refine l_step (s_no rfl (wno rfl rfl (by decide)) ?_)
    refine l_step (s_no rfl (wno rfl rfl (by decide)) ?_)
    refine l_step (s_q rfl wn (q_pick rfl rfl rfl) ?_)
    refine l_nil ?_
    refine k_then_n ?_
    refine c_yes rfl ?_
    refine c_seq ?_
    refine c_region ?_
    refine l_step (s_q rfl wn (q_assign rfl) ?_)
    refine l_nil ?_
    refine k_then_n ?_
    refine c_ret ?_
    refine k_then_r ?_
    rw [show backT T id index hint = T from map_no (look_none (opt_none g2_2)) _]
    exact t_ret [.pts b (encTrack (⟨some mb⟩ : Track)) 116, MP (Value.int .i64) ptV mb (pm T), PB 122 T] rfl (.tmp rfl .nil) rfl (Hp.le_refl _) ⟨rfl, boole (by unfold backB; rw [look_none (opt_none g2_2)]), rfl⟩ (by repeat (first | exact Ent.nil _ | exact Ent.refl _ | (refine Ent.pick (by repeat (first | exact Pick.here | apply Pick.there)) ?_) | refine Ent.skip ?_))
  · try simp only [Bool.and_eq_true, Bool.or_eq_true, Bool.not_eq_true', Bool.and_eq_false_iff, Bool.or_eq_false_iff, Bool.not_eq_false', decide_eq_true_eq, decide_eq_false_iff_not, Bool.not_eq_eq_eq_not, Bool.not_true, Bool.not_false, Bool.not_eq_true, Bool.not_eq_false, beq_iff_eq, bne_iff_ne, ne_eq, Decidable.not_not] at g2_2
    obtain ⟨j, pb', p, hj, hjs, hte, hmg⟩ := look_some (opt_some g2_2)
    rw [hmg]
    refine Tr.ent (peer_open (t := 122) hjs (by repeat (first | exact Pick.here | apply Pick.there))) ?_
    have hpb := hT.at_ hjs
    refine l_step (s_q rfl (wy rfl rfl rfl) (q_move rfl) ?_)
    refine l_step (s_q rfl (wy rfl rfl rfl) (q_move rfl) ?_)
    refine l_step (s_q rfl (wy rfl rfl rfl) (q_nilCheck rfl) ?_)
    refine l_step (s_q rfl (wy rfl rfl rfl) (q_fieldp rfl fo_122_1) ?_)
    refine l_step (s_q rfl (wy rfl rfl rfl) (q_loadp (v := .int .i64 p.next) sc_3 rfl (by repeat (first | exact Pick.here | apply Pick.there)) rfl) ?_)
    refine l_step (s_q rfl (wy rfl rfl rfl) (q_sub rfl rfl (by omega) (by omega)) ?_)
    refine l_step (s_q rfl (wy rfl rfl rfl) (q_neq rfl rfl) ?_)
    refine l_step (s_q rfl wn (q_pick rfl rfl rfl) ?_)
    refine l_step (s_q rfl wn (q_move rfl) ?_)
    refine l_step (s_qg rfl (ask_f rfl rfl) (b := (!(decide (index ≠ (p.next - 1))))) (fun hb => q_move rfl) ?_)
    refine l_step (s_qg rfl (ask_f rfl rfl) (b := (!(decide (index ≠ (p.next - 1))))) (fun hb => q_move rfl) ?_)
    refine l_step (s_qg rfl (ask_f rfl rfl) (b := (!(decide (index ≠ (p.next - 1))))) (fun hb => OpQ.env (.cons rfl (gd_t hb) (.nil _) : EnvLe [(29, .pointer (some ⟨pb', 0, none⟩))] _) (q_nilCheck rfl)) ?_)
    refine l_step (s_qg rfl (ask_f rfl rfl) (b := (!(decide (index ≠ (p.next - 1))))) (fun hb => OpQ.env (.cons rfl (gd_t hb) (.nil _) : EnvLe [(30, .pointer (some ⟨pb', 0, none⟩))] _) (q_fieldp rfl fo_122_0)) ?_)
    refine l_step (s_qg rfl (ask_f rfl rfl) (b := (!(decide (index ≠ (p.next - 1))))) (fun hb => OpQ.env (.cons rfl (gd_t hb) (.nil _) : EnvLe [(31, .pointer (some ⟨pb', 0, none⟩))] _) (q_loadp (v := .int .i64 p.match_) sc_3 rfl (by repeat (first | exact Pick.here | apply Pick.there)) rfl)) ?_)
    refine l_step (s_qg rfl (ask_f rfl rfl) (b := (!(decide (index ≠ (p.next - 1))))) (fun hb => OpQ.env (.cons rfl (gd_t hb) (.cons rfl (gd_t hb) (.nil _)) : EnvLe [(28, .int .i64 index), (32, .int .i64 p.match_)] _) (q_leq rfl rfl)) ?_)
    refine l_step (s_q rfl wn (q_pick_or rfl rfl rfl (fun h => by first | (rw [h]; rfl) | exact congrArg not h)) ?_)
    refine l_nil ?_
    refine k_then_n ?_
    refine c_cond rfl (fun h0 => ?_) (fun h0 => ?_)
    · skip
      have hc : backC index p = false := by simp only [Bool.or_eq_true, Bool.not_eq_true', decide_eq_true_eq, decide_eq_false_iff_not] at h0; unfold backC; exact h0.elim (fun h => by rw [decide_eq_false h]; rfl) (fun h => by rw [decide_eq_false (show ¬ p.match_ < index from by omega), Bool.and_false])
      refine c_seq ?_
      refine c_region ?_
      refine l_step (s_q rfl wn (q_assign rfl) ?_)
      refine l_nil ?_
      refine k_then_n ?_
      refine c_ret ?_
      refine k_then_r ?_
      have eT : backT T id index hint = T := by have q := map_set_ hT.1 hjs (backP index hint); rw [show backP index hint p = p from if_neg (by rw [hc]; decide), set_at hjs] at q; exact q.symm
      refine Tr.ent (peer_same hjs) ?_
      rw [eT]
      exact t_ret [.pts b (encTrack (⟨some mb⟩ : Track)) 116, MP (Value.int .i64) ptV mb (pm T), PB 122 T] rfl (.tmp rfl .nil) rfl (Hp.le_refl _) ⟨rfl, boole (by unfold backB; rw [hte]; exact hc.symm), rfl⟩ (by repeat (first | exact Ent.nil _ | exact Ent.refl _ | (refine Ent.pick (by repeat (first | exact Pick.here | apply Pick.there)) ?_) | refine Ent.skip ?_))
    · skip
      have hc : backC index p = true := by simp only [Bool.or_eq_false_iff, Bool.not_eq_false', decide_eq_true_eq, decide_eq_false_iff_not] at h0; unfold backC; rw [decide_eq_true (Decidable.not_not.1 h0.1), decide_eq_true (show p.match_ < index from by omega)]; rfl
      refine c_skip ?_
      refine k_then_n ?_
      refine c_seq ?_
      refine c_region ?_
      refine l_step (s_q rfl wn (q_move rfl) ?_)
      refine l_step (s_q rfl wn (q_move rfl) ?_)
      refine l_step (s_q rfl wn (q_move rfl) ?_)
      refine l_step (s_q rfl wn (q_max2 rfl rfl) ?_)
      refine l_step (s_q rfl wn (q_add rfl rfl (by omega) (by omega)) ?_)
      refine l_step (s_q rfl wn (q_min2 rfl rfl) ?_)
      refine l_step (s_q rfl wn (q_move rfl) ?_)
      refine l_step (s_q rfl wn (q_nilCheck rfl) ?_)
      refine l_step (s_q rfl wn (q_fieldp rfl fo_122_0) ?_)
      refine l_step (s_q rfl wn (q_loadp (v := .int .i64 p.match_) sc_3 rfl (by repeat (first | exact Pick.here | apply Pick.there)) rfl) ?_)
      refine l_step (s_q rfl wn (q_add rfl rfl (by omega) (by omega)) ?_)
      refine l_step (s_q rfl wn (q_max2 rfl rfl) ?_)
      refine l_step (s_q rfl wn (q_nilCheck rfl) ?_)
      refine l_step (s_q rfl wn (q_fieldp rfl fo_122_1) ?_)
      refine l_step (s_s0 wn (s_storep (ws := [.int .i64 (if (p.match_ + 1) > (if ((if 0 > hint then 0 else hint) + 1) < index then ((if 0 > hint then 0 else hint) + 1) else index) then (p.match_ + 1) else (if ((if 0 > hint then 0 else hint) + 1) < index then ((if 0 > hint then 0 else hint) + 1) else index))]) (cs := encPeer p) (cs' := encPeer { p with next := (if (p.match_ + 1) > (if ((if 0 > hint then 0 else hint) + 1) < index then ((if 0 > hint then 0 else hint) + 1) else index) then (p.match_ + 1) else (if ((if 0 > hint then 0 else hint) + 1) < index then ((if 0 > hint then 0 else hint) + 1) else index)) }) rfl rfl rfl sz_3 (by simp [Value.oneCell', strB, ptV, SL.v, SH.v]) (by simp [encPeer]) rfl (by repeat (first | exact Pick.here | apply Pick.there))) ?_)
      rintro _ _ ⟨rfl, rfl⟩
      refine l_nil ?_
      refine k_then_n ?_
      refine c_seq ?_
      refine c_region ?_
      refine l_step (s_q rfl wn (q_assign rfl) ?_)
      refine l_nil ?_
      refine k_then_n ?_
      refine c_ret ?_
      have eT : T.set j (id, pb', { p with next := (if (p.match_ + 1) > (if ((if 0 > hint then 0 else hint) + 1) < index then ((if 0 > hint then 0 else hint) + 1) else index) then (p.match_ + 1) else (if ((if 0 > hint then 0 else hint) + 1) < index then ((if 0 > hint then 0 else hint) + 1) else index)) }) = backT T id index hint := by have q := map_set_ hT.1 hjs (backP index hint); rw [show backP index hint p = { p with next := (if (p.match_ + 1) > (if ((if 0 > hint then 0 else hint) + 1) < index then ((if 0 > hint then 0 else hint) + 1) else index) then (p.match_ + 1) else (if ((if 0 > hint then 0 else hint) + 1) < index then ((if 0 > hint then 0 else hint) + 1) else index)) } from (by unfold backP; rw [if_pos hc]; rfl)] at q; exact q
      have eM : pm T = pm (backT T id index hint) := by rw [← eT, pm_set hjs]
      refine Tr.ent (peer_shut hjs) ?_
      rw [eT, eM]
      exact t_ret [.pts b (encTrack (⟨some mb⟩ : Track)) 116, MP (Value.int .i64) ptV mb (pm (backT T id index hint)), PB 122 (backT T id index hint)] rfl (.tmp rfl .nil) rfl (Hp.le_refl _) ⟨rfl, boole (by unfold backB; rw [hte]; exact hc.symm), rfl⟩ (by repeat (first | exact Ent.nil _ | exact Ent.refl _ | (refine Ent.pick (by repeat (first | exact Pick.here | apply Pick.there)) ?_) | refine Ent.skip ?_))
end Go.Tly.X

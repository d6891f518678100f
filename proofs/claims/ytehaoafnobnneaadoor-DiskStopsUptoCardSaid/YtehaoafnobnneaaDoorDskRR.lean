/-
  Several texts, put together.
-/
import Derived.Test.YtehaoafnobnneaaDoorDskH
import Derived.Test.YtehaoafnobnneaaDoorDskL
import Derived.Test.YtehaoafnobnneaaDoorProg
import Derived.Test.YtehaoafnobnneaaDoorSlZa
import Derived.Test.YtehaoafnobnneaaDoorDskI
import Derived.Test.YtehaoafnobnneaaDoorDskC
/-
  Package disk, walked.
-/
set_option maxRecDepth 100000
set_option maxHeartbeats 4000000
set_option linter.unusedSimpArgs false
set_option linter.unusedVariables false
namespace Go.Dsk.RA
open Go Go.SL Go.Proofs Go.Dsk Go.Dsk.L
attribute [local irreducible] Go.SL.Ent
theorem fo_49_0 : fieldOff Tryd.prog 49 0 = some (0, 3) := by kernel_rfl
theorem fo_49_1 : fieldOff Tryd.prog 49 1 = some (1, 47) := by kernel_rfl
theorem fo_49_2 : fieldOff Tryd.prog 49 2 = some (2, 4) := by kernel_rfl
theorem fo_49_3 : fieldOff Tryd.prog 49 3 = some (3, 3) := by kernel_rfl
theorem fo_82_0 : fieldOff Tryd.prog 82 0 = some (0, 9) := by kernel_rfl
theorem fo_82_1 : fieldOff Tryd.prog 82 1 = some (1, 32) := by kernel_rfl
theorem sc_3 : isScalar Tryd.prog 3 = true := by kernel_rfl
theorem sc_32 : isScalar Tryd.prog 32 = true := by kernel_rfl
theorem sc_4 : isScalar Tryd.prog 4 = true := by kernel_rfl
theorem sc_47 : isScalar Tryd.prog 47 = true := by kernel_rfl
theorem sc_9 : isScalar Tryd.prog 9 = true := by kernel_rfl
theorem sz_3 : sizeIs Tryd.prog 3 = some 1 := by kernel_rfl
theorem sz_4 : sizeIs Tryd.prog 4 = some 1 := by kernel_rfl
theorem sz_82 : sizeIs Tryd.prog 82 = some 3 := by kernel_rfl

theorem rstop_spec (r : Nat) (room : Int) (la : Option Addr) (lc : Nat) (e : Bool) (c : Int) (T : RT) (n : Int) (ρ : Hp) : Spec0 Tryd.prog 45 #[.pointer (some ⟨r, 0, none⟩), .int .i64 n] ρ [.pts r (encRDisk (⟨room, ⟨la, T.length, lc⟩, e, c⟩ : RDisk)) 49] (fun v Γ' => v = .tuple #[] ∧ Γ' = [.pts r (encRDisk (⟨room, ⟨la, T.length, lc⟩, (decide (0 ≤ n)), n⟩ : RDisk)) 49]) := by
  refine spec_of (n := 13) (vs := [_, _]) (σ := [(0, _), (1, _)]) Tryd.func45 rfl rfl rfl rfl fun E Δ => ?_
  simp only [List.cons_append, List.nil_append]
  refine c_seq ?_
  refine c_region ?_
  refine l_step (s_q rfl wn (q_move rfl) ?_)
  refine l_step (s_q rfl wn (q_move rfl) ?_)
  refine l_step (s_q rfl wn (q_geq rfl rfl) ?_)
  refine l_step (s_q rfl wn (q_nilCheck rfl) ?_)
  refine l_step (s_q rfl wn (q_fieldp rfl fo_49_2) ?_)
  refine l_step (s_s0 wn (s_storep (ws := [.bool (decide (0 ≤ n))]) (cs := encRDisk (⟨room, ⟨la, T.length, lc⟩, e, c⟩ : RDisk)) (cs' := encRDisk (⟨room, ⟨la, T.length, lc⟩, (decide (0 ≤ n)), c⟩ : RDisk)) rfl rfl rfl sz_4 (by simp [Value.oneCell', strB, ptV, SL.v, SH.v]) (by simp [encRDisk]) rfl (by repeat (first | exact Pick.here | apply Pick.there))) ?_)
  rintro _ _ ⟨rfl, rfl⟩
  refine l_nil ?_
  refine k_then_n ?_
  refine c_region ?_
  refine l_step (s_q rfl wn (q_move rfl) ?_)
  refine l_step (s_q rfl wn (q_move rfl) ?_)
  refine l_step (s_q rfl wn (q_nilCheck rfl) ?_)
  refine l_step (s_q rfl wn (q_fieldp rfl fo_49_3) ?_)
  refine l_step (s_s0 wn (s_storep (ws := [.int .i64 n]) (cs := encRDisk (⟨room, ⟨la, T.length, lc⟩, (decide (0 ≤ n)), c⟩ : RDisk)) (cs' := encRDisk (⟨room, ⟨la, T.length, lc⟩, (decide (0 ≤ n)), n⟩ : RDisk)) rfl rfl rfl sz_3 (by simp [Value.oneCell', strB, ptV, SL.v, SH.v]) (by simp [encRDisk]) rfl (by repeat (first | exact Pick.here | apply Pick.there))) ?_)
  rintro _ _ ⟨rfl, rfl⟩
  refine l_nil ?_
  refine k_body_n ?_
  exact t_ret [.pts r (encRDisk (⟨room, ⟨la, T.length, lc⟩, (decide (0 ≤ n)), n⟩ : RDisk)) 49] rfl .nil rfl (Hp.le_refl _) ⟨rfl, rfl, rfl⟩ (by repeat (first | exact Ent.nil _ | exact Ent.refl _ | (refine Ent.pick (by repeat (first | exact Pick.here | apply Pick.there)) ?_) | refine Ent.skip ?_))

theorem rstopped_spec (r : Nat) (room : Int) (la : Option Addr) (lc : Nat) (e : Bool) (c : Int) (T : RT) (ρ : Hp) (hc : e = true → 0 ≤ c) (hc2 : c ≤ 9223372036854775807) : Spec0 Tryd.prog 61 #[.pointer (some ⟨r, 0, none⟩)] ρ [.pts r (encRDisk (⟨room, ⟨la, T.length, lc⟩, e, c⟩ : RDisk)) 49] (fun v Γ' => v = .bool (decide (cI e c = 0)) ∧ Γ' = [.pts r (encRDisk (⟨room, ⟨la, T.length, lc⟩, e, (decR e c)⟩ : RDisk)) 49]) := by
  refine spec_of (n := 21) (vs := [_]) (σ := [(0, _)]) Tryd.func61 rfl rfl rfl rfl fun E Δ => ?_
  simp only [List.cons_append, List.nil_append]
  refine c_seq ?_
  refine c_region ?_
  refine l_step (s_q rfl wn (q_assign rfl) ?_)
  refine l_nil ?_
  refine k_then_n ?_
  refine c_seq ?_
  refine c_seq ?_
  refine c_region ?_
  refine l_step (s_q rfl wn (q_move rfl) ?_)
  refine l_step (s_q rfl wn (q_nilCheck rfl) ?_)
  refine l_step (s_q rfl wn (q_fieldp rfl fo_49_2) ?_)
  refine l_step (s_q rfl wn (q_loadp (v := .bool e) sc_4 rfl (by repeat (first | exact Pick.here | apply Pick.there)) rfl) ?_)
  refine l_step (s_q rfl wn (q_not rfl) ?_)
  refine l_nil ?_
  refine k_then_n ?_
  refine c_cond rfl (fun h0 => ?_) (fun h0 => ?_)
  · try simp only [Bool.and_eq_true, Bool.or_eq_true, Bool.not_eq_true', Bool.and_eq_false_iff, Bool.or_eq_false_iff, Bool.not_eq_false', decide_eq_true_eq, decide_eq_false_iff_not, Bool.not_eq_eq_eq_not, Bool.not_true, Bool.not_false, Bool.not_eq_true, Bool.not_eq_false, beq_iff_eq, bne_iff_ne, ne_eq, Decidable.not_not] at h0
    refine c_seq ?_
    refine c_region ?_
    refine l_step (s_q rfl wn (q_assign rfl) ?_)
    refine l_nil ?_
    refine k_then_n ?_
    refine c_ret ?_
    refine k_then_r ?_
    have he : e = false := by simpa using h0
    have hd : decR e c = c := if_neg (by rw [he]; simp)
    exact t_ret [.pts r (encRDisk (⟨room, ⟨la, T.length, lc⟩, e, c⟩ : RDisk)) 49] rfl (.tmp rfl .nil) rfl (Hp.le_refl _) ⟨rfl, boole (by unfold cI; rw [he]; rfl), by rw [hd]⟩ (by repeat (first | exact Ent.nil _ | exact Ent.refl _ | (refine Ent.pick (by repeat (first | exact Pick.here | apply Pick.there)) ?_) | refine Ent.skip ?_))
  · try simp only [Bool.and_eq_true, Bool.or_eq_true, Bool.not_eq_true', Bool.and_eq_false_iff, Bool.or_eq_false_iff, Bool.not_eq_false', decide_eq_true_eq, decide_eq_false_iff_not, Bool.not_eq_eq_eq_not, Bool.not_true, Bool.not_false, Bool.not_eq_true, Bool.not_eq_false, beq_iff_eq, bne_iff_ne, ne_eq, Decidable.not_not] at h0
    refine c_skip ?_
    refine k_then_n ?_
    refine c_seq ?_
    refine c_seq ?_
    refine c_region ?_
    refine l_step (s_q rfl wn (q_move rfl) ?_)
    refine l_step (s_q rfl wn (q_nilCheck rfl) ?_)
    refine l_step (s_q rfl wn (q_fieldp rfl fo_49_3) ?_)
    refine l_step (s_q rfl wn (q_loadp (v := .int .i64 c) sc_3 rfl (by repeat (first | exact Pick.here | apply Pick.there)) rfl) ?_)
    refine l_step (s_q rfl wn (q_eql rfl rfl) ?_)
    refine l_nil ?_
    refine k_then_n ?_
    refine c_cond rfl (fun h1 => ?_) (fun h1 => ?_)
    · try simp only [Bool.and_eq_true, Bool.or_eq_true, Bool.not_eq_true', Bool.and_eq_false_iff, Bool.or_eq_false_iff, Bool.not_eq_false', decide_eq_true_eq, decide_eq_false_iff_not, Bool.not_eq_eq_eq_not, Bool.not_true, Bool.not_false, Bool.not_eq_true, Bool.not_eq_false, beq_iff_eq, bne_iff_ne, ne_eq, Decidable.not_not] at h1
      refine c_seq ?_
      refine c_region ?_
      refine l_step (s_q rfl wn (q_assign rfl) ?_)
      refine l_nil ?_
      refine k_then_n ?_
      refine c_ret ?_
      refine k_then_r ?_
      have he : e = true := by simpa using h0
      have hd : decR e c = c := if_neg (by rintro ⟨_, h⟩; exact h h1)
      exact t_ret [.pts r (encRDisk (⟨room, ⟨la, T.length, lc⟩, e, c⟩ : RDisk)) 49] rfl (.tmp rfl .nil) rfl (Hp.le_refl _) ⟨rfl, boole (by unfold cI; rw [he, if_pos rfl, decide_eq_true h1]), by rw [hd]⟩ (by repeat (first | exact Ent.nil _ | exact Ent.refl _ | (refine Ent.pick (by repeat (first | exact Pick.here | apply Pick.there)) ?_) | refine Ent.skip ?_))
    · try simp only [Bool.and_eq_true, Bool.or_eq_true, Bool.not_eq_true', Bool.and_eq_false_iff, Bool.or_eq_false_iff, Bool.not_eq_false', decide_eq_true_eq, decide_eq_false_iff_not, Bool.not_eq_eq_eq_not, Bool.not_true, Bool.not_false, Bool.not_eq_true, Bool.not_eq_false, beq_iff_eq, bne_iff_ne, ne_eq, Decidable.not_not] at h1
      have hc9 := hc (by simpa using h0)
      refine c_skip ?_
      refine k_then_n ?_
      refine c_seq ?_
      refine c_region ?_
      refine l_step (s_q rfl wn (q_move rfl) ?_)
      refine l_step (s_q rfl wn (q_move rfl) ?_)
      refine l_step (s_q rfl wn (q_nilCheck rfl) ?_)
      refine l_step (s_q rfl wn (q_fieldp rfl fo_49_3) ?_)
      refine l_step (s_q rfl wn (q_loadp (v := .int .i64 c) sc_3 rfl (by repeat (first | exact Pick.here | apply Pick.there)) rfl) ?_)
      refine l_step (s_q rfl wn (q_sub rfl rfl (by omega) (by omega)) ?_)
      refine l_step (s_q rfl wn (q_nilCheck rfl) ?_)
      refine l_step (s_q rfl wn (q_fieldp rfl fo_49_3) ?_)
      refine l_step (s_s0 wn (s_storep (ws := [.int .i64 (c - 1)]) (cs := encRDisk (⟨room, ⟨la, T.length, lc⟩, e, c⟩ : RDisk)) (cs' := encRDisk (⟨room, ⟨la, T.length, lc⟩, e, (c - 1)⟩ : RDisk)) rfl rfl rfl sz_3 (by simp [Value.oneCell', strB, ptV, SL.v, SH.v]) (by simp [encRDisk]) rfl (by repeat (first | exact Pick.here | apply Pick.there))) ?_)
      rintro _ _ ⟨rfl, rfl⟩
      refine l_nil ?_
      refine k_then_n ?_
      refine c_seq ?_
      refine c_region ?_
      refine l_step (s_q rfl wn (q_assign rfl) ?_)
      refine l_nil ?_
      refine k_then_n ?_
      refine c_ret ?_
      have he : e = true := by simpa using h0
      have hd : decR e c = c - 1 := if_pos ⟨he, h1⟩
      exact t_ret [.pts r (encRDisk (⟨room, ⟨la, T.length, lc⟩, e, (c - 1)⟩ : RDisk)) 49] rfl (.tmp rfl .nil) rfl (Hp.le_refl _) ⟨rfl, boole (by unfold cI; rw [he, if_pos rfl, decide_eq_false h1]), by rw [hd]⟩ (by repeat (first | exact Ent.nil _ | exact Ent.refl _ | (refine Ent.pick (by repeat (first | exact Pick.here | apply Pick.there)) ?_) | refine Ent.skip ?_))

theorem rfind_spec (r : Nat) (room : Int) (la : Option Addr) (lc : Nat) (e : Bool) (c : Int) (T : RT) (s : (List UInt8)) (ρ : Hp) : Spec0 Tryd.prog 62 #[.pointer (some ⟨r, 0, none⟩), (strB s)] ρ [.pts r (encRDisk (⟨room, ⟨la, T.length, lc⟩, e, c⟩ : RDisk)) 49, .row 82 3 la T.length lc (T.flatMap encRFile)] (fun v Γ' => v = .int .i64 ((rfi T s)) ∧ Γ' = [.pts r (encRDisk (⟨room, ⟨la, T.length, lc⟩, e, c⟩ : RDisk)) 49, .row 82 3 la T.length lc (T.flatMap encRFile)]) := by
  refine spec_of (n := 26) (vs := [_, _]) (σ := [(0, _), (1, _)]) Tryd.func62 rfl rfl rfl rfl fun E Δ => ?_
  simp only [List.cons_append, List.nil_append]
  refine t_rd (Γ := _) (rd_row (Pick.there Pick.here)) fun hlb hlb2 hlb3 _ => ?_
  have hlb4 : T.length ≤ 9223372036854775807 := Nat.le_trans hlb2 hlb3
  refine c_seq ?_
  refine c_region ?_
  refine l_step (s_q rfl wn (q_assign rfl) ?_)
  refine l_nil ?_
  refine k_then_n ?_
  refine c_seq ?_
  refine c_seq ?_
  refine c_region ?_
  refine l_step (s_q rfl wn (q_assign rfl) ?_)
  refine l_nil ?_
  refine k_then_n ?_
  refine c_block ?_
  refine Tr.env (σ' := [(0, _), (1, _), (5, _)]) (.cons rfl rfl (.cons rfl rfl (.cons rfl rfl (.nil _)))) ?_
  refine t_loop (ι := Lp (Nat)) (fun x => x.d ≤ T.length ∧ ((T.map (·.Name)).take x.d).any (fun n => decide (n = s)) = false) (fun x => T.length - x.d) (fun x => [(0, .pointer (some ⟨r, 0, none⟩)), (1, (strB s)), (5, .int .i64 (x.d : Int))]) (fun x => .pts r (encRDisk (⟨room, ⟨la, T.length, lc⟩, e, c⟩ : RDisk)) 49 :: .row 82 3 la T.length lc (T.flatMap encRFile) :: Δ) (⟨0, none, 0, none, 0, none, 0⟩ : Lp _) ⟨Nat.zero_le _, by simp⟩ ?_ ?_ ?_
  · exact .cons rfl (by first | rfl | exact inte (by omega) | (simp; done) | (simp <;> omega) | simp [*]) (.cons rfl (by first | rfl | exact inte (by omega) | (simp; done) | (simp <;> omega) | simp [*]) (.cons rfl (by first | rfl | exact inte (by omega) | (simp; done) | (simp <;> omega) | simp [*]) (.nil _)))
  · exact (by repeat (first | exact Ent.nil _ | exact Ent.refl _ | (refine Ent.pick (by repeat (first | exact Pick.here | apply Pick.there)) ?_) | refine Ent.skip ?_))
  intro x hx
  obtain ⟨hx1, hx2⟩ := hx
  refine c_seq ?_
  refine c_seq ?_
  refine c_region ?_
  refine l_step (s_q rfl wn (q_move rfl) ?_)
  refine l_step (s_q rfl wn (q_move rfl) ?_)
  refine l_step (s_q rfl wn (q_nilCheck rfl) ?_)
  refine l_step (s_q rfl wn (q_fieldp rfl fo_49_1) ?_)
  refine l_step (s_q rfl wn (q_loadp (v := .slice la T.length lc) sc_47 rfl (by repeat (first | exact Pick.here | apply Pick.there)) rfl) ?_)
  refine l_step (s_q rfl wn (q_len Tryd.underlying47 rfl) ?_)
  refine l_step (s_q rfl wn (q_lss rfl rfl) ?_)
  refine l_nil ?_
  refine k_then_n ?_
  refine c_cond rfl (fun h0 => ?_) (fun h0 => ?_)
  · try simp only [Bool.and_eq_true, Bool.or_eq_true, Bool.not_eq_true', Bool.and_eq_false_iff, Bool.or_eq_false_iff, Bool.not_eq_false', decide_eq_true_eq, decide_eq_false_iff_not, Bool.not_eq_eq_eq_not, Bool.not_true, Bool.not_false, Bool.not_eq_true, Bool.not_eq_false, beq_iff_eq, bne_iff_ne, ne_eq, Decidable.not_not] at h0
    refine c_skip ?_
    refine k_then_n ?_
    refine c_seq ?_
    refine c_block ?_
    refine c_seq ?_
    refine c_region ?_
    refine l_step (s_q rfl wn (q_move rfl) ?_)
    refine l_step (s_q rfl wn (q_nilCheck rfl) ?_)
    refine l_step (s_q rfl wn (q_fieldp rfl fo_49_1) ?_)
    refine l_step (s_q rfl wn (q_loadp (v := .slice la T.length lc) sc_47 rfl (by repeat (first | exact Pick.here | apply Pick.there)) rfl) ?_)
    refine l_step (s_q rfl wn (q_move rfl) ?_)
    refine l_step (s_q rfl wn (q_indexe x.d Tryd.underlying47 sz_82 rfl rfl (rd_row (by repeat (first | exact Pick.here | apply Pick.there))) (by decide) rfl (by first | assumption | omega | (simp only [List.length_cons, List.length_nil]; omega))) ?_)
    refine l_step (s_q rfl wn (q_fielde rfl fo_82_0) ?_)
    refine l_step (s_q rfl wn (q_loade (enc := encRFile) (xs := T) (j := x.d) (off := 0) sc_9 rfl (rd_row (by repeat (first | exact Pick.here | apply Pick.there))) (fun _ => rfl) (by first | assumption | omega | (simp only [List.length_cons, List.length_nil]; omega)) (by decide) rfl) ?_)
    refine l_step (s_q rfl wn (q_move rfl) ?_)
    refine l_step (s_q rfl wn (q_eqlsB (p := (T.getD x.d default).Name) (q := s) rfl rfl) ?_)
    refine l_nil ?_
    refine k_then_n ?_
    refine c_cond rfl (fun h1 => ?_) (fun h1 => ?_)
    · try simp only [Bool.and_eq_true, Bool.or_eq_true, Bool.not_eq_true', Bool.and_eq_false_iff, Bool.or_eq_false_iff, Bool.not_eq_false', decide_eq_true_eq, decide_eq_false_iff_not, Bool.not_eq_eq_eq_not, Bool.not_true, Bool.not_false, Bool.not_eq_true, Bool.not_eq_false, beq_iff_eq, bne_iff_ne, ne_eq, Decidable.not_not] at h1
      refine c_seq ?_
      refine c_region ?_
      refine l_step (s_q rfl wn (q_move rfl) ?_)
      refine l_step (s_q rfl wn (q_assign rfl) ?_)
      refine l_nil ?_
      refine k_then_n ?_
      refine c_ret ?_
      refine k_blk_r ?_
      refine k_then_r ?_
      refine k_then_r ?_
      refine k_blk_r ?_
      refine k_then_r ?_
      exact t_ret [.pts r (encRDisk (⟨room, ⟨la, T.length, lc⟩, e, c⟩ : RDisk)) 49, .row 82 3 la T.length lc (T.flatMap encRFile)] rfl (.tmp rfl .nil) rfl (Hp.le_refl _) ⟨rfl, inte (rfi_hit (by omega) hx2 h1).symm, rfl⟩ (by repeat (first | exact Ent.nil _ | exact Ent.refl _ | (refine Ent.pick (by repeat (first | exact Pick.here | apply Pick.there)) ?_) | refine Ent.skip ?_))
    · try simp only [Bool.and_eq_true, Bool.or_eq_true, Bool.not_eq_true', Bool.and_eq_false_iff, Bool.or_eq_false_iff, Bool.not_eq_false', decide_eq_true_eq, decide_eq_false_iff_not, Bool.not_eq_eq_eq_not, Bool.not_true, Bool.not_false, Bool.not_eq_true, Bool.not_eq_false, beq_iff_eq, bne_iff_ne, ne_eq, Decidable.not_not] at h1
      refine c_skip ?_
      refine k_blk_n ?_
      refine k_then_n ?_
      refine c_region ?_
      refine l_step (s_q rfl wn (q_move rfl) ?_)
      refine l_step (s_q rfl wn (q_add rfl rfl (by omega) (by omega)) ?_)
      refine l_step (s_q rfl wn (q_assign rfl) ?_)
      refine l_nil ?_
      refine k_then_n ?_
      exact t_next (⟨x.d + 1, none, 0, none, 0, none, 0⟩ : Lp _) ⟨⟨by simp only []; omega, rfi_next (by omega) hx2 h1⟩, by simp only []; omega⟩ (.cons rfl (by first | rfl | exact inte (by omega) | (simp; done) | (simp <;> omega) | simp [*]) (.cons rfl (by first | rfl | exact inte (by omega) | (simp; done) | (simp <;> omega) | simp [*]) (.cons rfl (by first | rfl | exact inte (by omega) | (simp; done) | (simp <;> omega) | simp [*]) (.nil _)))) (by repeat (first | exact Ent.nil _ | exact Ent.refl _ | (refine Ent.pick (by repeat (first | exact Pick.here | apply Pick.there)) ?_) | refine Ent.skip ?_))
  · try simp only [Bool.and_eq_true, Bool.or_eq_true, Bool.not_eq_true', Bool.and_eq_false_iff, Bool.or_eq_false_iff, Bool.not_eq_false', decide_eq_true_eq, decide_eq_false_iff_not, Bool.not_eq_eq_eq_not, Bool.not_true, Bool.not_false, Bool.not_eq_true, Bool.not_eq_false, beq_iff_eq, bne_iff_ne, ne_eq, Decidable.not_not] at h0
    have hk : x.d = T.length := by omega
    rw [hk] at hx2
    refine c_exit ?_
    refine k_then_x ?_
    refine k_then_x ?_
    refine k_blk_x ?_
    refine k_then_n ?_
    refine c_seq ?_
    refine c_region ?_
    refine l_step (s_q rfl wn (q_assign rfl) ?_)
    refine l_nil ?_
    refine k_then_n ?_
    refine c_ret ?_
    exact t_ret [.pts r (encRDisk (⟨room, ⟨la, T.length, lc⟩, e, c⟩ : RDisk)) 49, .row 82 3 la T.length lc (T.flatMap encRFile)] rfl (.tmp rfl .nil) rfl (Hp.le_refl _) ⟨rfl, inte (rfi_miss hx2).symm, rfl⟩ (by repeat (first | exact Ent.nil _ | exact Ent.refl _ | (refine Ent.pick (by repeat (first | exact Pick.here | apply Pick.there)) ?_) | refine Ent.skip ?_))

theorem rfree_spec (r : Nat) (room : Int) (la : Option Addr) (lc : Nat) (e : Bool) (c : Int) (T : RT) (ρ : Hp) (hU : (usedR T : Int) ≤ room) (hr : room ≤ 9223372036854775807) : Spec0 Tryd.prog 46 #[.pointer (some ⟨r, 0, none⟩)] ρ [.pts r (encRDisk (⟨room, ⟨la, T.length, lc⟩, e, c⟩ : RDisk)) 49, .row 82 3 la T.length lc (T.flatMap encRFile)] (fun v Γ' => v = .int .i64 ((room - (usedR T : Int))) ∧ Γ' = [.pts r (encRDisk (⟨room, ⟨la, T.length, lc⟩, e, c⟩ : RDisk)) 49, .row 82 3 la T.length lc (T.flatMap encRFile)]) := by
  refine spec_of (n := 30) (vs := [_]) (σ := [(0, _)]) Tryd.func46 rfl rfl rfl rfl fun E Δ => ?_
  simp only [List.cons_append, List.nil_append]
  refine t_rd (Γ := _) (rd_row (Pick.there Pick.here)) fun hlb hlb2 hlb3 _ => ?_
  have hlb4 : T.length ≤ 9223372036854775807 := Nat.le_trans hlb2 hlb3
  refine c_seq ?_
  refine c_region ?_
  refine l_step (s_q rfl wn (q_assign rfl) ?_)
  refine l_nil ?_
  refine k_then_n ?_
  refine c_seq ?_
  refine c_region ?_
  refine l_step (s_q rfl wn (q_move rfl) ?_)
  refine l_step (s_q rfl wn (q_nilCheck rfl) ?_)
  refine l_step (s_q rfl wn (q_fieldp rfl fo_49_0) ?_)
  refine l_step (s_q rfl wn (q_loadp (v := .int .i64 room) sc_3 rfl (by repeat (first | exact Pick.here | apply Pick.there)) rfl) ?_)
  refine l_step (s_q rfl wn (q_assign rfl) ?_)
  refine l_nil ?_
  refine k_then_n ?_
  refine c_seq ?_
  refine c_seq ?_
  refine c_region ?_
  refine l_step (s_q rfl wn (q_assign rfl) ?_)
  refine l_nil ?_
  refine k_then_n ?_
  refine c_block ?_
  refine Tr.env (σ' := [(0, _), (2, _), (3, _), (4, _)]) (.cons rfl rfl (.cons rfl rfl (.cons rfl rfl (.cons rfl rfl (.nil _))))) ?_
  refine t_loop (ι := Lp (Nat)) (fun x => x.d ≤ T.length) (fun x => T.length - x.d) (fun x => [(0, .pointer (some ⟨r, 0, none⟩)), (2, .int .i64 0), (3, .int .i64 (room - (usedR (T.take x.d) : Int))), (4, .int .i64 (x.d : Int))]) (fun x => .pts r (encRDisk (⟨room, ⟨la, T.length, lc⟩, e, c⟩ : RDisk)) 49 :: .row 82 3 la T.length lc (T.flatMap encRFile) :: Δ) (⟨0, none, 0, none, 0, none, 0⟩ : Lp _) (Nat.zero_le _) ?_ ?_ ?_
  · exact .cons rfl (by first | rfl | exact inte (by omega) | (simp; done) | (simp <;> omega) | simp [*]) (.cons rfl (by first | rfl | exact inte (by omega) | (simp; done) | (simp <;> omega) | simp [*]) (.cons rfl (by first | rfl | exact inte (by omega) | (simp; done) | (simp <;> omega) | simp [*]) (.cons rfl (by first | rfl | exact inte (by omega) | (simp; done) | (simp <;> omega) | simp [*]) (.nil _))))
  · exact (by repeat (first | exact Ent.nil _ | exact Ent.refl _ | (refine Ent.pick (by repeat (first | exact Pick.here | apply Pick.there)) ?_) | refine Ent.skip ?_))
  intro x hx
  refine c_seq ?_
  refine c_seq ?_
  refine c_region ?_
  refine l_step (s_q rfl wn (q_move rfl) ?_)
  refine l_step (s_q rfl wn (q_move rfl) ?_)
  refine l_step (s_q rfl wn (q_nilCheck rfl) ?_)
  refine l_step (s_q rfl wn (q_fieldp rfl fo_49_1) ?_)
  refine l_step (s_q rfl wn (q_loadp (v := .slice la T.length lc) sc_47 rfl (by repeat (first | exact Pick.here | apply Pick.there)) rfl) ?_)
  refine l_step (s_q rfl wn (q_len Tryd.underlying47 rfl) ?_)
  refine l_step (s_q rfl wn (q_lss rfl rfl) ?_)
  refine l_nil ?_
  refine k_then_n ?_
  refine c_cond rfl (fun h0 => ?_) (fun h0 => ?_)
  · try simp only [Bool.and_eq_true, Bool.or_eq_true, Bool.not_eq_true', Bool.and_eq_false_iff, Bool.or_eq_false_iff, Bool.not_eq_false', decide_eq_true_eq, decide_eq_false_iff_not, Bool.not_eq_eq_eq_not, Bool.not_true, Bool.not_false, Bool.not_eq_true, Bool.not_eq_false, beq_iff_eq, bne_iff_ne, ne_eq, Decidable.not_not] at h0
    have hu1 := usedR_take (T := T) (k := x.d) (by omega)
    have hu2 := usedR_le T (x.d + 1)
    refine c_skip ?_
    refine k_then_n ?_
    refine c_seq ?_
    refine c_block ?_
    refine c_region ?_
    refine l_step (s_q rfl wn (q_move rfl) ?_)
    refine l_step (s_q rfl wn (q_move rfl) ?_)
    refine l_step (s_q rfl wn (q_nilCheck rfl) ?_)
    refine l_step (s_q rfl wn (q_fieldp rfl fo_49_1) ?_)
    refine l_step (s_q rfl wn (q_loadp (v := .slice la T.length lc) sc_47 rfl (by repeat (first | exact Pick.here | apply Pick.there)) rfl) ?_)
    refine l_step (s_q rfl wn (q_move rfl) ?_)
    refine l_step (s_q rfl wn (q_indexe x.d Tryd.underlying47 sz_82 rfl rfl (rd_row (by repeat (first | exact Pick.here | apply Pick.there))) (by decide) rfl (by first | assumption | omega | (simp only [List.length_cons, List.length_nil]; omega))) ?_)
    refine l_step (s_q rfl wn (q_fielde rfl fo_82_1) ?_)
    refine l_step (s_q rfl wn (q_loade (enc := encRFile) (xs := T) (j := x.d) (off := 1) sc_32 rfl (rd_row (by repeat (first | exact Pick.here | apply Pick.there))) (fun _ => rfl) (by first | assumption | omega | (simp only [List.length_cons, List.length_nil]; omega)) (by decide) rfl) ?_)
    refine l_step (s_q rfl wn (q_len Tryd.underlying32 rfl) ?_)
    refine l_step (s_q rfl wn (q_sub rfl rfl (by omega) (by omega)) ?_)
    refine l_step (s_q rfl wn (q_assign rfl) ?_)
    refine l_nil ?_
    refine k_blk_n ?_
    refine k_then_n ?_
    refine c_region ?_
    refine l_step (s_q rfl wn (q_move rfl) ?_)
    refine l_step (s_q rfl wn (q_add rfl rfl (by omega) (by omega)) ?_)
    refine l_step (s_q rfl wn (q_assign rfl) ?_)
    refine l_nil ?_
    refine k_then_n ?_
    exact t_next (⟨x.d + 1, none, 0, none, 0, none, 0⟩ : Lp _) ⟨by simp only []; omega, by simp only []; omega⟩ (.cons rfl (by first | rfl | exact inte (by omega) | (simp; done) | (simp <;> omega) | simp [*]) (.cons rfl (by first | rfl | exact inte (by omega) | (simp; done) | (simp <;> omega) | simp [*]) (.cons rfl (inte (by rw [hu1]; omega)) (.cons rfl (by first | rfl | exact inte (by omega) | (simp; done) | (simp <;> omega) | simp [*]) (.nil _))))) (by repeat (first | exact Ent.nil _ | exact Ent.refl _ | (refine Ent.pick (by repeat (first | exact Pick.here | apply Pick.there)) ?_) | refine Ent.skip ?_))
  · try simp only [Bool.and_eq_true, Bool.or_eq_true, Bool.not_eq_true', Bool.and_eq_false_iff, Bool.or_eq_false_iff, Bool.not_eq_false', decide_eq_true_eq, decide_eq_false_iff_not, Bool.not_eq_eq_eq_not, Bool.not_true, Bool.not_false, Bool.not_eq_true, Bool.not_eq_false, beq_iff_eq, bne_iff_ne, ne_eq, Decidable.not_not] at h0
    have hk : x.d = T.length := by omega
    refine c_exit ?_
    refine k_then_x ?_
    refine k_then_x ?_
    refine k_blk_x ?_
    refine k_then_n ?_
    refine c_seq ?_
    refine c_region ?_
    refine l_step (s_q rfl wn (q_move rfl) ?_)
    refine l_step (s_q rfl wn (q_assign rfl) ?_)
    refine l_nil ?_
    refine k_then_n ?_
    refine c_ret ?_
    exact t_ret [.pts r (encRDisk (⟨room, ⟨la, T.length, lc⟩, e, c⟩ : RDisk)) 49, .row 82 3 la T.length lc (T.flatMap encRFile)] rfl (.tmp rfl .nil) rfl (Hp.le_refl _) ⟨rfl, inte (by rw [hk, List.take_length]), rfl⟩ (by repeat (first | exact Ent.nil _ | exact Ent.refl _ | (refine Ent.pick (by repeat (first | exact Pick.here | apply Pick.there)) ?_) | refine Ent.skip ?_))
end Go.Dsk.RA

/-
  Package disk, walked.
-/
set_option maxRecDepth 100000
set_option maxHeartbeats 4000000
set_option linter.unusedSimpArgs false
set_option linter.unusedVariables false
namespace Go.Dsk.RB
open Go Go.SL Go.Proofs Go.Dsk Go.Dsk.L Go.Dsk.RA
attribute [local irreducible] Go.SL.Ent
theorem ag_82 : aggSize Tryd.prog 82 = some 3 := by kernel_rfl
theorem eo_82 : elemOk Tryd.prog 82 3 48 = true := by kernel_rfl
theorem fo_49_1 : fieldOff Tryd.prog 49 1 = some (1, 47) := by kernel_rfl
theorem fo_82_0 : fieldOff Tryd.prog 82 0 = some (0, 9) := by kernel_rfl
theorem sc_47 : isScalar Tryd.prog 47 = true := by kernel_rfl
theorem sc_9 : isScalar Tryd.prog 9 = true := by kernel_rfl
theorem sz_47 : sizeIs Tryd.prog 47 = some 1 := by kernel_rfl
theorem sz_82 : sizeIs Tryd.prog 82 = some 3 := by kernel_rfl

theorem radd_spec (r : Nat) (room : Int) (la : Option Addr) (lc : Nat) (e : Bool) (c : Int) (T : RT) (f : RFile) (ρ : Hp) (hl : T.length ≤ 1000000) : Spec0 Tryd.prog 63 #[.pointer (some ⟨r, 0, none⟩), .agg (encRFile f).toArray] ρ [.pts r (encRDisk (⟨room, ⟨la, T.length, lc⟩, e, c⟩ : RDisk)) 49, .row 82 3 la T.length lc (T.flatMap encRFile), RB 5 T, .row 5 1 f.B.a f.B.xs.length f.B.cap (f.B.xs.flatMap encB)] (fun v Γ' => ∃ k a1 c1, k ≤ T.length ∧ (∀ e ∈ T.take k, e.Name < f.Name) ∧ (k < T.length → ¬ (T.getD k default).Name < f.Name) ∧ v = .tuple #[] ∧ Γ' = [.pts r (encRDisk (⟨room, ⟨a1, (T.take k ++ f :: T.drop k).length, c1⟩, e, c⟩ : RDisk)) 49, .row 82 3 a1 (T.take k ++ f :: T.drop k).length c1 ((T.take k ++ f :: T.drop k).flatMap encRFile), RB 5 (T.take k ++ f :: T.drop k)]) := by
  refine spec_of (n := 51) (vs := [_, _]) (σ := [(0, _), (1, _)]) Tryd.func63 rfl rfl rfl rfl fun E Δ => ?_
  simp only [List.cons_append, List.nil_append]
  refine t_rd (Γ := _) (rd_row (Pick.there Pick.here)) fun hlb hlb2 hlb3 _ => ?_
  have hlb4 : T.length ≤ 9223372036854775807 := Nat.le_trans hlb2 hlb3
  refine c_seq ?_
  refine c_region ?_
  refine l_step (s_s rfl wn (s_box (cs := encRFile f) rfl rfl) ?_)
  rintro _ _ ⟨b3, rfl, rfl⟩
  refine l_nil ?_
  refine k_then_n ?_
  refine c_seq ?_
  refine c_region ?_
  refine l_step (s_q rfl wn (q_assign rfl) ?_)
  refine l_nil ?_
  refine k_then_n ?_
  refine c_seq ?_
  refine c_block ?_
  refine Tr.env (σ' := [(0, _), (3, _), (4, _)]) (.cons rfl rfl (.cons rfl rfl (.cons rfl rfl (.nil _)))) ?_
  refine t_loop (ι := Lp (Nat)) (fun x => x.d ≤ T.length ∧ ∀ e ∈ T.take x.d, e.Name < f.Name) (fun x => T.length - x.d) (fun x => [(0, .pointer (some ⟨r, 0, none⟩)), (3, .pointer (some ⟨b3, 0, none⟩)), (4, .int .i64 (x.d : Int))]) (fun x => .pts b3 (encRFile f) 82 :: .pts r (encRDisk (⟨room, ⟨la, T.length, lc⟩, e, c⟩ : RDisk)) 49 :: .row 82 3 la T.length lc (T.flatMap encRFile) :: RB 5 T :: .row 5 1 f.B.a f.B.xs.length f.B.cap (f.B.xs.flatMap encB) :: Δ) (⟨0, none, 0, none, 0, none, 0⟩ : Lp _) ⟨Nat.zero_le _, fun e he => by cases he⟩ ?_ ?_ ?_
  · exact .cons rfl (by first | rfl | exact inte (by omega) | (simp; done) | (simp <;> omega) | simp [*]) (.cons rfl (by first | rfl | exact inte (by omega) | (simp; done) | (simp <;> omega) | simp [*]) (.cons rfl (by first | rfl | exact inte (by omega) | (simp; done) | (simp <;> omega) | simp [*]) (.nil _)))
  · exact (by repeat (first | exact Ent.nil _ | exact Ent.refl _ | (refine Ent.pick (by repeat (first | exact Pick.here | apply Pick.there)) ?_) | refine Ent.skip ?_))
  intro x hx
  obtain ⟨hx1, hx2⟩ := hx
  refine c_seq ?_
  refine c_seq ?_
  refine c_draw (m := 20) (bs := #[false, false, false, false, false, false, false, false, false, false, false, false, false, false, false, false, false, false, false, false]) [.pts b3 (encRFile f) 82, .pts r (encRDisk (⟨room, ⟨la, T.length, lc⟩, e, c⟩ : RDisk)) 49, .row 82 3 la T.length lc (T.flatMap encRFile), RB 5 T, .row 5 1 f.B.a f.B.xs.length f.B.cap (f.B.xs.flatMap encB)] (by kernel_rfl) rfl (by kernel_rfl) ?_
  refine r_take (i := 0) (bs' := #[true, false, false, false, false, false, false, false, false, false, false, false, false, false, false, false, false, false, false, false]) rfl (by kernel_rfl) (by kernel_rfl) (by kernel_rfl) (fun _ _ _ h => h) rfl wn (q_move rfl) (Hp.le_refl _) (by repeat (first | exact Ent.nil _ | exact Ent.refl _ | (refine Ent.pick (by repeat (first | exact Pick.here | apply Pick.there)) ?_) | refine Ent.skip ?_)) (by kernel_rfl) ?_
  refine r_take (i := 1) (bs' := #[true, true, false, false, false, false, false, false, false, false, false, false, false, false, false, false, false, false, false, false]) rfl (by kernel_rfl) (by kernel_rfl) (by kernel_rfl) (fun _ _ _ h => h) rfl wn (q_move rfl) (Hp.le_refl _) (by repeat (first | exact Ent.nil _ | exact Ent.refl _ | (refine Ent.pick (by repeat (first | exact Pick.here | apply Pick.there)) ?_) | refine Ent.skip ?_)) (by kernel_rfl) ?_
  refine r_take (i := 2) (bs' := #[true, true, true, false, false, false, false, false, false, false, false, false, false, false, false, false, false, false, false, false]) rfl (by kernel_rfl) (by kernel_rfl) (by kernel_rfl) (fun _ _ _ h => h) rfl wn (q_nilCheck rfl) (Hp.le_refl _) (by repeat (first | exact Ent.nil _ | exact Ent.refl _ | (refine Ent.pick (by repeat (first | exact Pick.here | apply Pick.there)) ?_) | refine Ent.skip ?_)) (by kernel_rfl) ?_
  refine r_take (i := 3) (bs' := #[true, true, true, true, false, false, false, false, false, false, false, false, false, false, false, false, false, false, false, false]) rfl (by kernel_rfl) (by kernel_rfl) (by kernel_rfl) (fun _ _ _ h => h) rfl wn (q_fieldp rfl fo_49_1) (Hp.le_refl _) (by repeat (first | exact Ent.nil _ | exact Ent.refl _ | (refine Ent.pick (by repeat (first | exact Pick.here | apply Pick.there)) ?_) | refine Ent.skip ?_)) (by kernel_rfl) ?_
  refine r_take (i := 4) (bs' := #[true, true, true, true, true, false, false, false, false, false, false, false, false, false, false, false, false, false, false, false]) rfl (by kernel_rfl) (by kernel_rfl) (by kernel_rfl) (fun _ _ _ h => h) rfl wn (q_loadp (v := .slice la T.length lc) sc_47 rfl (by repeat (first | exact Pick.here | apply Pick.there)) rfl) (Hp.le_refl _) (by repeat (first | exact Ent.nil _ | exact Ent.refl _ | (refine Ent.pick (by repeat (first | exact Pick.here | apply Pick.there)) ?_) | refine Ent.skip ?_)) (by kernel_rfl) ?_
  refine r_take (i := 5) (bs' := #[true, true, true, true, true, true, false, false, false, false, false, false, false, false, false, false, false, false, false, false]) rfl (by kernel_rfl) (by kernel_rfl) (by kernel_rfl) (fun _ _ _ h => h) rfl wn (q_len Tryd.underlying47 rfl) (Hp.le_refl _) (by repeat (first | exact Ent.nil _ | exact Ent.refl _ | (refine Ent.pick (by repeat (first | exact Pick.here | apply Pick.there)) ?_) | refine Ent.skip ?_)) (by kernel_rfl) ?_
  refine r_take (i := 6) (bs' := #[true, true, true, true, true, true, true, false, false, false, false, false, false, false, false, false, false, false, false, false]) rfl (by kernel_rfl) (by kernel_rfl) (by kernel_rfl) (fun _ _ _ h => h) rfl wn (q_lss rfl rfl) (Hp.le_refl _) (by repeat (first | exact Ent.nil _ | exact Ent.refl _ | (refine Ent.pick (by repeat (first | exact Pick.here | apply Pick.there)) ?_) | refine Ent.skip ?_)) (by kernel_rfl) ?_
  refine r_take (i := 7) (bs' := #[true, true, true, true, true, true, true, true, false, false, false, false, false, false, false, false, false, false, false, false]) rfl (by kernel_rfl) (by kernel_rfl) (by kernel_rfl) (fun _ _ _ h => h) rfl wn (q_move rfl) (Hp.le_refl _) (by repeat (first | exact Ent.nil _ | exact Ent.refl _ | (refine Ent.pick (by repeat (first | exact Pick.here | apply Pick.there)) ?_) | refine Ent.skip ?_)) (by kernel_rfl) ?_
  refine r_takeg (i := 8) (b := (decide ((x.d : Int) < (T.length : Int)))) (bs' := #[true, true, true, true, true, true, true, true, true, false, false, false, false, false, false, false, false, false, false, false]) rfl (by kernel_rfl) (by kernel_rfl) (by kernel_rfl) (fun _ _ _ h => h) rfl (ask_t rfl rfl) (fun hb => q_move rfl) (Hp.le_refl _) (by repeat (first | exact Ent.nil _ | exact Ent.refl _ | (refine Ent.pick (by repeat (first | exact Pick.here | apply Pick.there)) ?_) | refine Ent.skip ?_)) (by kernel_rfl) ?_
  refine r_takeg (i := 9) (b := (decide ((x.d : Int) < (T.length : Int)))) (bs' := #[true, true, true, true, true, true, true, true, true, true, false, false, false, false, false, false, false, false, false, false]) rfl (by kernel_rfl) (by kernel_rfl) (by kernel_rfl) (fun _ _ _ h => h) rfl (ask_t rfl rfl) (fun hb => OpQ.env (.cons rfl (gd_t hb) (.nil _) : EnvLe [(14, .pointer (some ⟨r, 0, none⟩))] _) (q_nilCheck rfl)) (Hp.le_refl _) (by repeat (first | exact Ent.nil _ | exact Ent.refl _ | (refine Ent.pick (by repeat (first | exact Pick.here | apply Pick.there)) ?_) | refine Ent.skip ?_)) (by kernel_rfl) ?_
  refine r_takeg (i := 10) (b := (decide ((x.d : Int) < (T.length : Int)))) (bs' := #[true, true, true, true, true, true, true, true, true, true, true, false, false, false, false, false, false, false, false, false]) rfl (by kernel_rfl) (by kernel_rfl) (by kernel_rfl) (fun _ _ _ h => h) rfl (ask_t rfl rfl) (fun hb => OpQ.env (.cons rfl (gd_t hb) (.nil _) : EnvLe [(15, .pointer (some ⟨r, 0, none⟩))] _) (q_fieldp rfl fo_49_1)) (Hp.le_refl _) (by repeat (first | exact Ent.nil _ | exact Ent.refl _ | (refine Ent.pick (by repeat (first | exact Pick.here | apply Pick.there)) ?_) | refine Ent.skip ?_)) (by kernel_rfl) ?_
  refine r_takeg (i := 11) (b := (decide ((x.d : Int) < (T.length : Int)))) (bs' := #[true, true, true, true, true, true, true, true, true, true, true, true, false, false, false, false, false, false, false, false]) rfl (by kernel_rfl) (by kernel_rfl) (by kernel_rfl) (fun _ _ _ h => h) rfl (ask_t rfl rfl) (fun hb => OpQ.env (.cons rfl (gd_t hb) (.nil _) : EnvLe [(16, .pointer (some ⟨r, 1, none⟩))] _) (q_loadp (v := .slice la T.length lc) sc_47 rfl (by repeat (first | exact Pick.here | apply Pick.there)) rfl)) (Hp.le_refl _) (by repeat (first | exact Ent.nil _ | exact Ent.refl _ | (refine Ent.pick (by repeat (first | exact Pick.here | apply Pick.there)) ?_) | refine Ent.skip ?_)) (by kernel_rfl) ?_
  refine r_takeg (i := 12) (b := (decide ((x.d : Int) < (T.length : Int)))) (bs' := #[true, true, true, true, true, true, true, true, true, true, true, true, true, false, false, false, false, false, false, false]) rfl (by kernel_rfl) (by kernel_rfl) (by kernel_rfl) (fun _ _ _ h => h) rfl (ask_t rfl rfl) (fun hb => q_move rfl) (Hp.le_refl _) (by repeat (first | exact Ent.nil _ | exact Ent.refl _ | (refine Ent.pick (by repeat (first | exact Pick.here | apply Pick.there)) ?_) | refine Ent.skip ?_)) (by kernel_rfl) ?_
  refine r_takeg (i := 13) (b := (decide ((x.d : Int) < (T.length : Int)))) (bs' := #[true, true, true, true, true, true, true, true, true, true, true, true, true, true, false, false, false, false, false, false]) rfl (by kernel_rfl) (by kernel_rfl) (by kernel_rfl) (fun _ _ _ h => h) rfl (ask_t rfl rfl) (fun hb => OpQ.env (.cons rfl (gd_t hb) (.cons rfl (gd_t hb) (.nil _)) : EnvLe [(17, .slice la T.length lc), (18, .int .i64 (x.d : Int))] _) (q_indexe x.d Tryd.underlying47 sz_82 rfl rfl (rd_row (by repeat (first | exact Pick.here | apply Pick.there))) (by decide) rfl (by first | assumption | omega | (have hb2 := hb; (try simp only [Bool.and_eq_true, Bool.or_eq_true, Bool.not_eq_true', Bool.and_eq_false_iff, Bool.or_eq_false_iff, Bool.not_eq_false', decide_eq_true_eq, decide_eq_false_iff_not, Bool.not_eq_eq_eq_not, Bool.not_true, Bool.not_false, Bool.not_eq_true, Bool.not_eq_false, beq_iff_eq, bne_iff_ne, ne_eq, Decidable.not_not] at hb2); omega) | (simp only [List.length_cons, List.length_nil]; omega)))) (Hp.le_refl _) (by repeat (first | exact Ent.nil _ | exact Ent.refl _ | (refine Ent.pick (by repeat (first | exact Pick.here | apply Pick.there)) ?_) | refine Ent.skip ?_)) (by kernel_rfl) ?_
  refine r_takeg (i := 14) (b := (decide ((x.d : Int) < (T.length : Int)))) (bs' := #[true, true, true, true, true, true, true, true, true, true, true, true, true, true, true, false, false, false, false, false]) rfl (by kernel_rfl) (by kernel_rfl) (by kernel_rfl) (fun _ _ _ h => h) rfl (ask_t rfl rfl) (fun hb => OpQ.env (.cons rfl (gd_t hb) (.nil _) : EnvLe [(19, pe la x.d 3 0)] _) (q_fielde rfl fo_82_0)) (Hp.le_refl _) (by repeat (first | exact Ent.nil _ | exact Ent.refl _ | (refine Ent.pick (by repeat (first | exact Pick.here | apply Pick.there)) ?_) | refine Ent.skip ?_)) (by kernel_rfl) ?_
  refine r_takeg (i := 15) (b := (decide ((x.d : Int) < (T.length : Int)))) (bs' := #[true, true, true, true, true, true, true, true, true, true, true, true, true, true, true, true, false, false, false, false]) rfl (by kernel_rfl) (by kernel_rfl) (by kernel_rfl) (fun _ _ _ h => h) rfl (ask_t rfl rfl) (fun hb => OpQ.env (.cons rfl (gd_t hb) (.nil _) : EnvLe [(20, pe la x.d 3 0)] _) (q_loade (enc := encRFile) (xs := T) (j := x.d) (off := 0) sc_9 rfl (rd_row (by repeat (first | exact Pick.here | apply Pick.there))) (fun _ => rfl) (by first | assumption | omega | (have hb2 := hb; (try simp only [Bool.and_eq_true, Bool.or_eq_true, Bool.not_eq_true', Bool.and_eq_false_iff, Bool.or_eq_false_iff, Bool.not_eq_false', decide_eq_true_eq, decide_eq_false_iff_not, Bool.not_eq_eq_eq_not, Bool.not_true, Bool.not_false, Bool.not_eq_true, Bool.not_eq_false, beq_iff_eq, bne_iff_ne, ne_eq, Decidable.not_not] at hb2); omega) | (simp only [List.length_cons, List.length_nil]; omega)) (by decide) rfl)) (Hp.le_refl _) (by repeat (first | exact Ent.nil _ | exact Ent.refl _ | (refine Ent.pick (by repeat (first | exact Pick.here | apply Pick.there)) ?_) | refine Ent.skip ?_)) (by kernel_rfl) ?_
  refine r_takeg (i := 16) (b := (decide ((x.d : Int) < (T.length : Int)))) (bs' := #[true, true, true, true, true, true, true, true, true, true, true, true, true, true, true, true, true, false, false, false]) rfl (by kernel_rfl) (by kernel_rfl) (by kernel_rfl) (fun _ _ _ h => h) rfl (ask_t rfl rfl) (fun hb => q_fieldp rfl fo_82_0) (Hp.le_refl _) (by repeat (first | exact Ent.nil _ | exact Ent.refl _ | (refine Ent.pick (by repeat (first | exact Pick.here | apply Pick.there)) ?_) | refine Ent.skip ?_)) (by kernel_rfl) ?_
  refine r_takeg (i := 17) (b := (decide ((x.d : Int) < (T.length : Int)))) (bs' := #[true, true, true, true, true, true, true, true, true, true, true, true, true, true, true, true, true, true, false, false]) rfl (by kernel_rfl) (by kernel_rfl) (by kernel_rfl) (fun _ _ _ h => h) rfl (ask_t rfl rfl) (fun hb => OpQ.env (.cons rfl (gd_t hb) (.nil _) : EnvLe [(22, .pointer (some ⟨b3, 0, none⟩))] _) (q_loadp (v := (strB f.Name)) sc_9 rfl (by repeat (first | exact Pick.here | apply Pick.there)) rfl)) (Hp.le_refl _) (by repeat (first | exact Ent.nil _ | exact Ent.refl _ | (refine Ent.pick (by repeat (first | exact Pick.here | apply Pick.there)) ?_) | refine Ent.skip ?_)) (by kernel_rfl) ?_
  refine r_takeg (i := 18) (b := (decide ((x.d : Int) < (T.length : Int)))) (bs' := #[true, true, true, true, true, true, true, true, true, true, true, true, true, true, true, true, true, true, true, false]) rfl (by kernel_rfl) (by kernel_rfl) (by kernel_rfl) (fun _ _ _ h => h) rfl (ask_t rfl rfl) (fun hb => OpQ.env (.cons rfl (gd_t hb) (.cons rfl (gd_t hb) (.nil _)) : EnvLe [(21, (strB ((T.getD x.d default).Name))), (23, (strB f.Name))] _) (q_lsssB (p := (T.getD x.d default).Name) (q := f.Name) rfl rfl)) (Hp.le_refl _) (by repeat (first | exact Ent.nil _ | exact Ent.refl _ | (refine Ent.pick (by repeat (first | exact Pick.here | apply Pick.there)) ?_) | refine Ent.skip ?_)) (by kernel_rfl) ?_
  refine r_take (i := 19) (bs' := #[true, true, true, true, true, true, true, true, true, true, true, true, true, true, true, true, true, true, true, true]) rfl (by kernel_rfl) (by kernel_rfl) (by kernel_rfl) (fun _ _ _ h => h) rfl wn (q_pick_and rfl rfl rfl (fun h => h)) (Hp.le_refl _) (by repeat (first | exact Ent.nil _ | exact Ent.refl _ | (refine Ent.pick (by repeat (first | exact Pick.here | apply Pick.there)) ?_) | refine Ent.skip ?_)) (by kernel_rfl) ?_
  refine r_done (by kernel_rfl) ?_
  refine k_then_n ?_
  refine c_cond rfl (fun h0 => ?_) (fun h0 => ?_)
  · try simp only [Bool.and_eq_true, Bool.or_eq_true, Bool.not_eq_true', Bool.and_eq_false_iff, Bool.or_eq_false_iff, Bool.not_eq_false', decide_eq_true_eq, decide_eq_false_iff_not, Bool.not_eq_eq_eq_not, Bool.not_true, Bool.not_false, Bool.not_eq_true, Bool.not_eq_false, beq_iff_eq, bne_iff_ne, ne_eq, Decidable.not_not] at h0
    refine c_skip ?_
    refine k_then_n ?_
    refine c_block ?_
    refine c_region ?_
    refine l_step (s_q rfl wn (q_move rfl) ?_)
    refine l_step (s_q rfl wn (q_add rfl rfl (by omega) (by omega)) ?_)
    refine l_step (s_q rfl wn (q_assign rfl) ?_)
    refine l_nil ?_
    refine k_blk_n ?_
    refine k_then_n ?_
    exact t_next (⟨x.d + 1, none, 0, none, 0, none, 0⟩ : Lp _) ⟨⟨by simp only []; omega, fun e he => by rw [take_succ_getD _ _ (by omega)] at he; rcases List.mem_append.1 he with h | h; exact hx2 e h; rw [List.mem_singleton.1 h]; exact h0.2⟩, by simp only []; omega⟩ (.cons rfl (by first | rfl | exact inte (by omega) | (simp; done) | (simp <;> omega) | simp [*]) (.cons rfl (by first | rfl | exact inte (by omega) | (simp; done) | (simp <;> omega) | simp [*]) (.cons rfl (by first | rfl | exact inte (by omega) | (simp; done) | (simp <;> omega) | simp [*]) (.nil _)))) (by repeat (first | exact Ent.nil _ | exact Ent.refl _ | (refine Ent.pick (by repeat (first | exact Pick.here | apply Pick.there)) ?_) | refine Ent.skip ?_))
  · try simp only [Bool.and_eq_true, Bool.or_eq_true, Bool.not_eq_true', Bool.and_eq_false_iff, Bool.or_eq_false_iff, Bool.not_eq_false', decide_eq_true_eq, decide_eq_false_iff_not, Bool.not_eq_eq_eq_not, Bool.not_true, Bool.not_false, Bool.not_eq_true, Bool.not_eq_false, beq_iff_eq, bne_iff_ne, ne_eq, Decidable.not_not] at h0
    refine c_exit ?_
    refine k_then_x ?_
    refine k_then_x ?_
    refine k_blk_x ?_
    refine k_then_n ?_
    refine c_seq ?_
    refine c_region ?_
    refine l_step (s_q rfl wn (q_assign rfl) ?_)
    refine l_nil ?_
    refine k_then_n ?_
    refine c_seq ?_
    refine c_region ?_
    refine l_step (s_q rfl wn (q_move rfl) ?_)
    refine l_step (s_q rfl wn (q_move rfl) ?_)
    refine l_step (s_q rfl wn (q_nilCheck rfl) ?_)
    refine l_step (s_q rfl wn (q_fieldp rfl fo_49_1) ?_)
    refine l_step (s_q rfl wn (q_loadp (v := .slice la T.length lc) sc_47 rfl (by repeat (first | exact Pick.here | apply Pick.there)) rfl) ?_)
    refine l_step (s_q rfl wn (q_move rfl) ?_)
    refine l_step (s_q rfl wn (q_cut_hi Tryd.underlying47 sz_82 rfl rfl (by omega) (by omega)) ?_)
    refine Tr.ent (Ent.nilrow 82 3 _) ?_
    refine l_step (s_s rfl wn (s_appendn (enc := encRFile) (xs := ([] : List RFile)) (ys := ((T.take x.d) : List RFile)) (Γ' := fun a' cap' => _) Tryd.underlying47 eo_82 (by decide) rfl rfl (rd_take (enc := encRFile) (rd_row (by repeat (first | exact Pick.here | apply Pick.there))) (fun _ => rfl) _ (by omega)) (oneRFiles _) (by first | omega | (simp only [List.length_append, List.length_cons, List.length_nil] at *; omega)) (by first | omega | (simp only [List.length_append, List.length_cons, List.length_nil] at *; omega)) (fun _ _ => (by repeat (first | exact Pick.here | apply Pick.there)))) ?_)
    rintro _ _ ⟨a35, c35, rfl, rfl⟩
    simp only [Nat.zero_add, List.nil_append]
    refine l_step (s_q rfl wn (q_assign rfl) ?_)
    refine l_nil ?_
    refine k_then_n ?_
    refine c_seq ?_
    refine c_region ?_
    refine l_step (s_q rfl wn (q_move rfl) ?_)
    refine l_step (s_q rfl wn (q_loadpa (vs := encRFile f) ag_82 rfl (by repeat (first | exact Pick.here | apply Pick.there)) rfl) ?_)
    refine l_step (s_s rfl wn (s_buildSlice (cs := ([f] : List RFile).flatMap encRFile) Tryd.underlying47 eo_82 rfl rfl rfl rfl (by decide) (by decide)) ?_)
    rintro _ _ ⟨b38, rfl, rfl⟩
    refine l_step (s_s rfl wn (s_appendn (enc := encRFile) (xs := ((T.take x.d) : List RFile)) (ys := ([f] : List RFile)) (Γ' := fun a' cap' => _) Tryd.underlying47 eo_82 (by decide) rfl rfl (rd_row (by repeat (first | exact Pick.here | apply Pick.there))) (oneRFiles _) (by first | omega | (simp only [List.length_append, List.length_cons, List.length_nil] at *; omega)) (by first | omega | (simp only [List.length_append, List.length_cons, List.length_nil] at *; omega)) (fun _ _ => (by repeat (first | exact Pick.here | apply Pick.there)))) ?_)
    rintro _ _ ⟨a39, c39, rfl, rfl⟩
    refine l_step (s_q rfl wn (q_assign rfl) ?_)
    refine l_nil ?_
    refine k_then_n ?_
    refine c_region ?_
    refine l_step (s_q rfl wn (q_move rfl) ?_)
    refine l_step (s_q rfl wn (q_move rfl) ?_)
    refine l_step (s_q rfl wn (q_move rfl) ?_)
    refine l_step (s_q rfl wn (q_nilCheck rfl) ?_)
    refine l_step (s_q rfl wn (q_fieldp rfl fo_49_1) ?_)
    refine l_step (s_q rfl wn (q_loadp (v := .slice la T.length lc) sc_47 rfl (by repeat (first | exact Pick.here | apply Pick.there)) rfl) ?_)
    refine l_step (s_q rfl wn (q_move rfl) ?_)
    refine l_step (s_q rfl wn (q_cut_lo Tryd.underlying47 sz_82 rfl rfl (by omega) (by omega)) ?_)
    refine l_step (s_s rfl wn (s_appendn (enc := encRFile) (xs := (((T.take x.d) ++ [f]) : List RFile)) (ys := ((T.drop x.d) : List RFile)) (Γ' := fun a' cap' => _) Tryd.underlying47 eo_82 (by decide) rfl rfl (rd_drop (enc := encRFile) (rd_row (by repeat (first | exact Pick.here | apply Pick.there))) (fun _ => rfl) _ (by omega)) (oneRFiles _) (by first | omega | (simp only [List.length_append, List.length_cons, List.length_nil] at *; omega)) (by first | omega | (simp only [List.length_append, List.length_cons, List.length_nil] at *; omega)) (fun _ _ => (by repeat (first | exact Pick.here | apply Pick.there)))) ?_)
    rintro _ _ ⟨a48, c48, rfl, rfl⟩
    refine l_step (s_q rfl wn (q_nilCheck rfl) ?_)
    refine l_step (s_q rfl wn (q_fieldp rfl fo_49_1) ?_)
    refine l_step (s_s0 wn (s_storep (ws := [.slice a48 ((((x.d : Int)).toNat + 1) + (T.length - ((x.d : Int)).toNat)) c48]) (cs := encRDisk (⟨room, ⟨la, T.length, lc⟩, e, c⟩ : RDisk)) (cs' := encRDisk (⟨room, ⟨a48, ((((x.d : Int)).toNat + 1) + (T.length - ((x.d : Int)).toNat)), c48⟩, e, c⟩ : RDisk)) rfl rfl rfl sz_47 (by simp [Value.oneCell', strB, ptV, SL.v, SH.v]) (by simp [encRDisk]) rfl (by repeat (first | exact Pick.here | apply Pick.there))) ?_)
    rintro _ _ ⟨rfl, rfl⟩
    refine l_nil ?_
    refine k_body_n ?_
    simp only [List.cons_append, List.nil_append]
    have e1 : T.take x.d ++ [f] ++ T.drop x.d = (T.take x.d ++ f :: T.drop x.d) := by simp
    have e2 : ((x.d : Int)).toNat + 1 + (T.length - ((x.d : Int)).toNat) = (T.take x.d ++ f :: T.drop x.d).length := by simp; omega
    rw [e1, e2]
    refine Tr.ent (Ent.trans (Ent.pick (A := R1 5 f) (by repeat (first | exact Pick.here | apply Pick.there)) (Ent.pick (A := RB 5 T) (by repeat (first | exact Pick.here | apply Pick.there)) (Ent.refl _))) (rb_ins x.d f)) ?_
    exact t_ret [.pts r (encRDisk (⟨room, ⟨a48, (T.take x.d ++ f :: T.drop x.d).length, c48⟩, e, c⟩ : RDisk)) 49, .row 82 3 a48 (T.take x.d ++ f :: T.drop x.d).length c48 ((T.take x.d ++ f :: T.drop x.d).flatMap encRFile), RB 5 (T.take x.d ++ f :: T.drop x.d)] rfl .nil rfl (Hp.le_refl _) ⟨rfl, x.d, a48, c48, hx1, hx2, (fun hk hlt => h0.elim (fun h => h (by omega)) (fun h => h hlt)), rfl, rfl⟩ (by repeat (first | exact Ent.nil _ | exact Ent.refl _ | (refine Ent.pick (by repeat (first | exact Pick.here | apply Pick.there)) ?_) | refine Ent.skip ?_))

theorem rtake_spec (r : Nat) (room : Int) (la : Option Addr) (lc : Nat) (e : Bool) (c : Int) (T : RT) (k : Nat) (ρ : Hp) (hk : k < T.length) (hl : T.length ≤ 1000000) : Spec0 Tryd.prog 64 #[.pointer (some ⟨r, 0, none⟩), .int .i64 (k : Int)] ρ [.pts r (encRDisk (⟨room, ⟨la, T.length, lc⟩, e, c⟩ : RDisk)) 49, .row 82 3 la T.length lc (T.flatMap encRFile), RB 5 T] (fun v Γ' => ∃ a1 c1, v = .agg (encRFile (T.getD k default)).toArray ∧ Γ' = [.pts r (encRDisk (⟨room, ⟨a1, (T.eraseIdx k).length, c1⟩, e, c⟩ : RDisk)) 49, .row 82 3 a1 (T.eraseIdx k).length c1 ((T.eraseIdx k).flatMap encRFile), RB 5 (T.eraseIdx k), .row 5 1 (T.getD k default).B.a (T.getD k default).B.xs.length (T.getD k default).B.cap ((T.getD k default).B.xs.flatMap encB)]) := by
  refine spec_of (n := 35) (vs := [_, _]) (σ := [(0, _), (1, _)]) Tryd.func64 rfl rfl rfl rfl fun E Δ => ?_
  simp only [List.cons_append, List.nil_append]
  refine t_rd (Γ := _) (rd_row (Pick.there Pick.here)) fun hlb hlb2 hlb3 _ => ?_
  have hlb4 : T.length ≤ 9223372036854775807 := Nat.le_trans hlb2 hlb3
  refine c_seq ?_
  refine c_region ?_
  refine l_step (s_s rfl wn (s_allocz (cs := encRFile zRFile) (by kernel_rfl)) ?_)
  rintro _ _ ⟨b4, rfl, rfl⟩
  refine l_nil ?_
  refine k_then_n ?_
  refine c_seq ?_
  refine c_region ?_
  refine l_step (s_q rfl wn (q_move rfl) ?_)
  refine l_step (s_q rfl wn (q_nilCheck rfl) ?_)
  refine l_step (s_q rfl wn (q_fieldp rfl fo_49_1) ?_)
  refine l_step (s_q rfl wn (q_loadp (v := .slice la T.length lc) sc_47 rfl (by repeat (first | exact Pick.here | apply Pick.there)) rfl) ?_)
  refine l_step (s_q rfl wn (q_move rfl) ?_)
  refine l_step (s_q rfl wn (q_indexe k Tryd.underlying47 sz_82 rfl rfl (rd_row (by repeat (first | exact Pick.here | apply Pick.there))) (by decide) rfl (by first | assumption | omega | (simp only [List.length_cons, List.length_nil]; omega))) ?_)
  refine l_step (s_q rfl wn (q_loadea (vs := encRFile (T.getD k default)) (enc := encRFile) (xs := T) (j := k) (off := 0) ag_82 rfl (rd_row (by repeat (first | exact Pick.here | apply Pick.there))) (fun _ => rfl) (by first | assumption | omega | (simp only [List.length_cons, List.length_nil]; omega)) (by simp [encRFile]) (by simp [encRFile]) rfl) ?_)
  refine l_step (s_s rfl wn (s_allocz (cs := encRFile zRFile) (by kernel_rfl)) ?_)
  rintro _ _ ⟨b5, rfl, rfl⟩
  refine l_step (s_s0 wn (s_storep (ws := encRFile (T.getD k default)) (cs := encRFile zRFile) (cs' := encRFile (T.getD k default)) rfl rfl rfl sz_82 (oneRFile _) (by simp [encRFile, encRFile]) rfl (by repeat (first | exact Pick.here | apply Pick.there))) ?_)
  rintro _ _ ⟨rfl, rfl⟩
  refine l_nil ?_
  refine k_then_n ?_
  refine c_seq ?_
  refine c_region ?_
  refine l_step (s_q rfl wn (q_assign rfl) ?_)
  refine l_nil ?_
  refine k_then_n ?_
  refine c_seq ?_
  refine c_region ?_
  refine l_step (s_q rfl wn (q_move rfl) ?_)
  refine l_step (s_q rfl wn (q_move rfl) ?_)
  refine l_step (s_q rfl wn (q_nilCheck rfl) ?_)
  refine l_step (s_q rfl wn (q_fieldp rfl fo_49_1) ?_)
  refine l_step (s_q rfl wn (q_loadp (v := .slice la T.length lc) sc_47 rfl (by repeat (first | exact Pick.here | apply Pick.there)) rfl) ?_)
  refine l_step (s_q rfl wn (q_move rfl) ?_)
  refine l_step (s_q rfl wn (q_cut_hi Tryd.underlying47 sz_82 rfl rfl (by omega) (by omega)) ?_)
  refine Tr.ent (Ent.nilrow 82 3 _) ?_
  refine l_step (s_s rfl wn (s_appendn (enc := encRFile) (xs := ([] : List RFile)) (ys := ((T.take k) : List RFile)) (Γ' := fun a' cap' => _) Tryd.underlying47 eo_82 (by decide) rfl rfl (rd_take (enc := encRFile) (rd_row (by repeat (first | exact Pick.here | apply Pick.there))) (fun _ => rfl) _ (by omega)) (oneRFiles _) (by first | omega | (simp only [List.length_append, List.length_cons, List.length_nil] at *; omega)) (by first | omega | (simp only [List.length_append, List.length_cons, List.length_nil] at *; omega)) (fun _ _ => (by repeat (first | exact Pick.here | apply Pick.there)))) ?_)
  rintro _ _ ⟨a21, c21, rfl, rfl⟩
  simp only [Nat.zero_add, List.nil_append]
  refine l_step (s_q rfl wn (q_assign rfl) ?_)
  refine l_nil ?_
  refine k_then_n ?_
  refine c_seq ?_
  refine c_region ?_
  refine l_step (s_q rfl wn (q_move rfl) ?_)
  refine l_step (s_q rfl wn (q_move rfl) ?_)
  refine l_step (s_q rfl wn (q_move rfl) ?_)
  refine l_step (s_q rfl wn (q_nilCheck rfl) ?_)
  refine l_step (s_q rfl wn (q_fieldp rfl fo_49_1) ?_)
  refine l_step (s_q rfl wn (q_loadp (v := .slice la T.length lc) sc_47 rfl (by repeat (first | exact Pick.here | apply Pick.there)) rfl) ?_)
  refine l_step (s_q rfl wn (q_move rfl) ?_)
  refine l_step (s_q rfl wn (q_add rfl rfl (by omega) (by omega)) ?_)
  refine l_step (s_q rfl wn (q_cut_lo Tryd.underlying47 sz_82 rfl rfl (by omega) (by omega)) ?_)
  refine l_step (s_s rfl wn (s_appendn (enc := encRFile) (xs := ((T.take k) : List RFile)) (ys := ((T.drop (((k : Int) + 1)).toNat) : List RFile)) (Γ' := fun a' cap' => _) Tryd.underlying47 eo_82 (by decide) rfl rfl (rd_drop (enc := encRFile) (rd_row (by repeat (first | exact Pick.here | apply Pick.there))) (fun _ => rfl) _ (by omega)) (oneRFiles _) (by first | omega | (simp only [List.length_append, List.length_cons, List.length_nil] at *; omega)) (by first | omega | (simp only [List.length_append, List.length_cons, List.length_nil] at *; omega)) (fun _ _ => (by repeat (first | exact Pick.here | apply Pick.there)))) ?_)
  rintro _ _ ⟨a31, c31, rfl, rfl⟩
  refine l_step (s_q rfl wn (q_nilCheck rfl) ?_)
  refine l_step (s_q rfl wn (q_fieldp rfl fo_49_1) ?_)
  refine l_step (s_s0 wn (s_storep (ws := [.slice a31 (((k : Int)).toNat + (T.length - (((k : Int) + 1)).toNat)) c31]) (cs := encRDisk (⟨room, ⟨la, T.length, lc⟩, e, c⟩ : RDisk)) (cs' := encRDisk (⟨room, ⟨a31, (((k : Int)).toNat + (T.length - (((k : Int) + 1)).toNat)), c31⟩, e, c⟩ : RDisk)) rfl rfl rfl sz_47 (by simp [Value.oneCell', strB, ptV, SL.v, SH.v]) (by simp [encRDisk]) rfl (by repeat (first | exact Pick.here | apply Pick.there))) ?_)
  rintro _ _ ⟨rfl, rfl⟩
  refine l_nil ?_
  refine k_then_n ?_
  refine c_seq ?_
  refine c_region ?_
  refine l_step (s_q rfl wn (q_loadpa (vs := encRFile (T.getD k default)) ag_82 rfl (by repeat (first | exact Pick.here | apply Pick.there)) rfl) ?_)
  refine l_step (s_s0 wn (s_storep (ws := encRFile (T.getD k default)) (cs := encRFile zRFile) (cs' := encRFile (T.getD k default)) rfl rfl rfl sz_82 (oneRFile _) (by simp [encRFile, encRFile]) rfl (by repeat (first | exact Pick.here | apply Pick.there))) ?_)
  rintro _ _ ⟨rfl, rfl⟩
  refine l_nil ?_
  refine k_then_n ?_
  refine c_ret ?_
  simp only [List.cons_append, List.nil_append]
  have e1 : T.take k ++ T.drop (k + 1) = (T.eraseIdx k) := (List.eraseIdx_eq_take_drop_succ T k).symm
  have e2 : ((k : Int)).toNat + (T.length - (((k : Int) + 1)).toNat) = (T.eraseIdx k).length := by rw [List.length_eraseIdx, if_pos hk]; omega
  rw [show ((k : Int) + 1).toNat = k + 1 from rfl, e1] at *
  rw [e2]
  refine Tr.ent (Ent.trans (Ent.pick (A := RB 5 T) (by repeat (first | exact Pick.here | apply Pick.there)) (Ent.refl _)) (rb_open hk)) ?_
  rw [rb_erase]
  exact t_ret [.pts r (encRDisk (⟨room, ⟨a31, (T.eraseIdx k).length, c31⟩, e, c⟩ : RDisk)) 49, .row 82 3 a31 (T.eraseIdx k).length c31 ((T.eraseIdx k).flatMap encRFile), RB 5 (T.eraseIdx k), .row 5 1 (T.getD k default).B.a (T.getD k default).B.xs.length (T.getD k default).B.cap ((T.getD k default).B.xs.flatMap encB)] rfl (.cell rfl (by repeat (first | exact Pick.here | apply Pick.there)) (fun w h => ld_agg (by exact ag_82) h) .nil) rfl (Hp.le_refl _) ⟨rfl, a31, c31, rfl, rfl⟩ (by repeat (first | exact Ent.nil _ | exact Ent.refl _ | (refine Ent.pick (by repeat (first | exact Pick.here | apply Pick.there)) ?_) | refine Ent.skip ?_))
end Go.Dsk.RB

/-
  Package disk, walked.
-/
set_option maxRecDepth 100000
set_option maxHeartbeats 4000000
set_option linter.unusedSimpArgs false
set_option linter.unusedVariables false
namespace Go.Dsk.RC
open Go Go.SL Go.Proofs Go.Dsk Go.Dsk.L Go.Dsk.RA Go.Dsk.RB
attribute [local irreducible] Go.SL.Ent
theorem fo_49_1 : fieldOff Tryd.prog 49 1 = some (1, 47) := by kernel_rfl
theorem fo_82_1 : fieldOff Tryd.prog 82 1 = some (1, 32) := by kernel_rfl
theorem fo_82_2 : fieldOff Tryd.prog 82 2 = some (2, 3) := by kernel_rfl
theorem sc_3 : isScalar Tryd.prog 3 = true := by kernel_rfl
theorem sc_32 : isScalar Tryd.prog 32 = true := by kernel_rfl
theorem sc_47 : isScalar Tryd.prog 47 = true := by kernel_rfl
theorem sc_9 : isScalar Tryd.prog 9 = true := by kernel_rfl
theorem sz_3 : sizeIs Tryd.prog 3 = some 1 := by kernel_rfl
theorem sz_32 : sizeIs Tryd.prog 32 = some 1 := by kernel_rfl
theorem sz_5 : sizeIs Tryd.prog 5 = some 1 := by kernel_rfl
theorem sz_82 : sizeIs Tryd.prog 82 = some 3 := by kernel_rfl
theorem sz_9 : sizeIs Tryd.prog 9 = some 1 := by kernel_rfl

theorem rsync_spec (r : Nat) (room : Int) (la : Option Addr) (lc : Nat) (e : Bool) (c : Int) (T : RT) (names_a : Option Addr) (names_n names_c : Nat) (names : List (List UInt8)) (hnames_n : names.length = names_n) (ρ : Hp) (hT : VOk (rvw T)) (hc : e = true → 0 ≤ c) (hc2 : c ≤ 9223372036854775807) (hro : Ro ρ 1 names_a names_n names_c (names.flatMap Go.SL.encStr)) : Spec0 Tryd.prog 40 #[.pointer (some ⟨r, 0, none⟩), .slice names_a names_n names_c] ρ [.pts r (encRDisk (⟨room, ⟨la, T.length, lc⟩, e, c⟩ : RDisk)) 49, .row 82 3 la T.length lc (T.flatMap encRFile), RB 5 T] (fun v Γ' => ∃ a1 c1 T', v = .int .i64 (syncR (cI e c) (rvw T) names).1 ∧ rvw T' = (syncR (cI e c) (rvw T) names).2 ∧ Γ' = [.pts r (encRDisk (⟨room, ⟨a1, T'.length, c1⟩, e, (decR e c)⟩ : RDisk)) 49, .row 82 3 a1 T'.length c1 (T'.flatMap encRFile), RB 5 T']) := by
  refine spec_of (n := 51) (vs := [_, _]) (σ := [(0, _), (1, _)]) Tryd.func40 rfl rfl rfl rfl fun E Δ => ?_
  simp only [List.cons_append, List.nil_append]
  have hrob : names_n ≤ 9223372036854775807 := Nat.le_trans hro.2.1 hro.2.2.1
  have hln := rat_ln hT
  have hus := rat_us hT
  have hnd := rnd hT
  refine c_seq ?_
  refine c_region ?_
  refine l_step (s_q rfl wn (q_assign rfl) ?_)
  refine l_nil ?_
  refine k_then_n ?_
  refine c_seq ?_
  refine c_seq ?_
  refine c_region ?_
  refine l_step (s_q rfl wn (q_move rfl) ?_)
  refine l_step (s_fnb rfl wn Tryd.func61 rfl (by kernel_rfl) rfl (by repeat (first | exact Sel.nil | exact Pick.here | apply Sel.cons | apply Pick.there)) (fun ρ' hL => rstopped_spec r room la lc e c T ρ' (by assumption) (by assumption)) ?_)
  rintro _ _ ⟨rfl, rfl⟩
  try simp only [List.cons_append, List.nil_append]
  refine l_nil ?_
  refine k_then_n ?_
  refine c_cond rfl (fun h0 => ?_) (fun h0 => ?_)
  · try simp only [Bool.and_eq_true, Bool.or_eq_true, Bool.not_eq_true', Bool.and_eq_false_iff, Bool.or_eq_false_iff, Bool.not_eq_false', decide_eq_true_eq, decide_eq_false_iff_not, Bool.not_eq_eq_eq_not, Bool.not_true, Bool.not_false, Bool.not_eq_true, Bool.not_eq_false, beq_iff_eq, bne_iff_ne, ne_eq, Decidable.not_not] at h0
    refine c_seq ?_
    refine c_region ?_
    refine l_step (s_q rfl wn (q_assign rfl) ?_)
    refine l_nil ?_
    refine k_then_n ?_
    refine c_ret ?_
    refine k_then_r ?_
    have hr : (syncR (cI e c) (rvw T) names) = (32, rvw T) := if_pos h0
    exact t_ret [.pts r (encRDisk (⟨room, ⟨la, T.length, lc⟩, e, (decR e c)⟩ : RDisk)) 49, .row 82 3 la T.length lc (T.flatMap encRFile), RB 5 T] rfl (.tmp rfl .nil) rfl (Hp.le_refl _) ⟨rfl, la, lc, T, by rw [hr]; rfl, by rw [hr], rfl⟩ (by repeat (first | exact Ent.nil _ | exact Ent.refl _ | (refine Ent.pick (by repeat (first | exact Pick.here | apply Pick.there)) ?_) | refine Ent.skip ?_))
  · try simp only [Bool.and_eq_true, Bool.or_eq_true, Bool.not_eq_true', Bool.and_eq_false_iff, Bool.or_eq_false_iff, Bool.not_eq_false', decide_eq_true_eq, decide_eq_false_iff_not, Bool.not_eq_eq_eq_not, Bool.not_true, Bool.not_false, Bool.not_eq_true, Bool.not_eq_false, beq_iff_eq, bne_iff_ne, ne_eq, Decidable.not_not] at h0
    refine c_skip ?_
    refine k_then_n ?_
    refine c_seq ?_
    refine c_seq ?_
    refine c_region ?_
    refine l_step (s_q rfl wn (q_assign rfl) ?_)
    refine l_nil ?_
    refine k_then_n ?_
    refine c_block ?_
    refine Tr.env (σ' := [(0, _), (1, _), (5, _)]) (.cons rfl rfl (.cons rfl rfl (.cons rfl rfl (.nil _)))) ?_
    refine t_loop (ι := Lp (Nat)) (fun x => x.d ≤ names_n ∧ (names.take x.d).all (mhas (rvw T)) = true) (fun x => names_n - x.d) (fun x => [(0, .pointer (some ⟨r, 0, none⟩)), (1, .slice names_a names_n names_c), (5, .int .i64 (x.d : Int))]) (fun x => .pts r (encRDisk (⟨room, ⟨la, T.length, lc⟩, e, (decR e c)⟩ : RDisk)) 49 :: .row 82 3 la T.length lc (T.flatMap encRFile) :: RB 5 T :: Δ) (⟨0, none, 0, none, 0, none, 0⟩ : Lp _) ⟨Nat.zero_le _, rfl⟩ ?_ ?_ ?_
    · exact .cons rfl (by first | rfl | exact inte (by omega) | (simp; done) | (simp <;> omega) | simp [*]) (.cons rfl (by first | rfl | exact inte (by omega) | (simp; done) | (simp <;> omega) | simp [*]) (.cons rfl (by first | rfl | exact inte (by omega) | (simp; done) | (simp <;> omega) | simp [*]) (.nil _)))
    · exact (by repeat (first | exact Ent.nil _ | exact Ent.refl _ | (refine Ent.pick (by repeat (first | exact Pick.here | apply Pick.there)) ?_) | refine Ent.skip ?_))
    intro x hx
    obtain ⟨hx1, hx2⟩ := hx
    refine c_seq ?_
    refine c_seq ?_
    refine c_region ?_
    refine l_step (s_q rfl wn (q_move rfl) ?_)
    refine l_step (s_q rfl wn (q_move rfl) ?_)
    refine l_step (s_q rfl wn (q_len Tryd.underlying41 rfl) ?_)
    refine l_step (s_q rfl wn (q_lss rfl rfl) ?_)
    refine l_nil ?_
    refine k_then_n ?_
    refine c_cond rfl (fun h1 => ?_) (fun h1 => ?_)
    · try simp only [Bool.and_eq_true, Bool.or_eq_true, Bool.not_eq_true', Bool.and_eq_false_iff, Bool.or_eq_false_iff, Bool.not_eq_false', decide_eq_true_eq, decide_eq_false_iff_not, Bool.not_eq_eq_eq_not, Bool.not_true, Bool.not_false, Bool.not_eq_true, Bool.not_eq_false, beq_iff_eq, bne_iff_ne, ne_eq, Decidable.not_not] at h1
      refine c_skip ?_
      refine k_then_n ?_
      refine c_seq ?_
      refine c_block ?_
      refine c_seq ?_
      refine c_region ?_
      refine l_step (s_q rfl wn (q_move rfl) ?_)
      refine l_step (s_q rfl wn (q_move rfl) ?_)
      refine l_step (s_q rfl wn (q_move rfl) ?_)
      refine l_step (s_q rfl wn (q_indexe x.d Tryd.underlying41 sz_9 rfl rfl (by first | assumption | exact rd_ro (by assumption) | exact rd_row (by repeat (first | exact Pick.here | apply Pick.there))) (by decide) rfl (by first | assumption | omega | (simp only [List.length_cons, List.length_nil]; omega))) ?_)
      refine l_step (s_q rfl wn (q_loade (enc := Go.SL.encStr) (xs := names) (j := x.d) (off := 0) sc_9 rfl (by first | assumption | exact rd_ro (by assumption) | exact rd_row (by repeat (first | exact Pick.here | apply Pick.there))) (fun _ => rfl) (by first | assumption | omega | (simp only [List.length_cons, List.length_nil]; omega)) (by decide) rfl) ?_)
      refine l_step (s_fnb rfl wn Tryd.func62 rfl (by kernel_rfl) rfl (by repeat (first | exact Sel.nil | exact Pick.here | apply Sel.cons | apply Pick.there)) (fun ρ' hL => rfind_spec r room la lc e (decR e c) T (names.getD x.d default) ρ') ?_)
      rintro _ _ ⟨rfl, rfl⟩
      try simp only [List.cons_append, List.nil_append]
      refine l_step (s_q rfl wn (q_lss rfl rfl) ?_)
      refine l_nil ?_
      refine k_then_n ?_
      rw [rfi_neg]
      refine c_cond rfl (fun h2 => ?_) (fun h2 => ?_)
      · skip
        have hq : mhas (rvw T) (names.getD x.d default) = false := by simpa using h2
        refine c_seq ?_
        refine c_region ?_
        refine l_step (s_q rfl wn (q_assign rfl) ?_)
        refine l_nil ?_
        refine k_then_n ?_
        refine c_ret ?_
        refine k_blk_r ?_
        refine k_then_r ?_
        refine k_then_r ?_
        refine k_blk_r ?_
        refine k_then_r ?_
        have hr : (syncR (cI e c) (rvw T) names) = (30, rvw T) := by unfold syncR; rw [if_neg h0, if_pos (all_no (by omega) hq)]
        exact t_ret [.pts r (encRDisk (⟨room, ⟨la, T.length, lc⟩, e, (decR e c)⟩ : RDisk)) 49, .row 82 3 la T.length lc (T.flatMap encRFile), RB 5 T] rfl (.tmp rfl .nil) rfl (Hp.le_refl _) ⟨rfl, la, lc, T, by rw [hr]; rfl, by rw [hr], rfl⟩ (by repeat (first | exact Ent.nil _ | exact Ent.refl _ | (refine Ent.pick (by repeat (first | exact Pick.here | apply Pick.there)) ?_) | refine Ent.skip ?_))
      · skip
        have hq : mhas (rvw T) (names.getD x.d default) = true := by simpa using h2
        refine c_skip ?_
        refine k_blk_n ?_
        refine k_then_n ?_
        refine c_region ?_
        refine l_step (s_q rfl wn (q_move rfl) ?_)
        refine l_step (s_q rfl wn (q_add rfl rfl (by omega) (by omega)) ?_)
        refine l_step (s_q rfl wn (q_assign rfl) ?_)
        refine l_nil ?_
        refine k_then_n ?_
        exact t_next (⟨x.d + 1, none, 0, none, 0, none, 0⟩ : Lp _) ⟨⟨by simp only []; omega, all_next (by omega) hx2 hq⟩, by simp only []; omega⟩ (.cons rfl (by first | rfl | exact inte (by omega) | (simp; done) | (simp <;> omega) | simp [*]) (.cons rfl (by first | rfl | exact inte (by omega) | (simp; done) | (simp <;> omega) | simp [*]) (.cons rfl (by first | rfl | exact inte (by omega) | (simp; done) | (simp <;> omega) | simp [*]) (.nil _)))) (by repeat (first | exact Ent.nil _ | exact Ent.refl _ | (refine Ent.pick (by repeat (first | exact Pick.here | apply Pick.there)) ?_) | refine Ent.skip ?_))
    · try simp only [Bool.and_eq_true, Bool.or_eq_true, Bool.not_eq_true', Bool.and_eq_false_iff, Bool.or_eq_false_iff, Bool.not_eq_false', decide_eq_true_eq, decide_eq_false_iff_not, Bool.not_eq_eq_eq_not, Bool.not_true, Bool.not_false, Bool.not_eq_true, Bool.not_eq_false, beq_iff_eq, bne_iff_ne, ne_eq, Decidable.not_not] at h1
      have hk : x.d = names.length := by omega
      rw [hk, List.take_length] at hx2
      refine c_exit ?_
      refine k_then_x ?_
      refine k_then_x ?_
      refine k_blk_x ?_
      refine k_then_n ?_
      refine c_seq ?_
      refine c_seq ?_
      refine c_region ?_
      refine l_step (s_q rfl wn (q_assign rfl) ?_)
      refine l_nil ?_
      refine k_then_n ?_
      refine c_block ?_
      refine Tr.env (σ' := [(0, _), (1, _), (6, _)]) (.cons rfl rfl (.cons rfl rfl (.cons rfl rfl (.nil _)))) ?_
      refine t_loop (ι := Lp (Nat × RT)) (fun y => y.d.1 ≤ names_n ∧ y.d.2.map (·.Name) = T.map (·.Name) ∧ rvw y.d.2 = ((names.take y.d.1).foldl syncStep (rvw T))) (fun y => names_n - y.d.1) (fun y => [(0, .pointer (some ⟨r, 0, none⟩)), (1, .slice names_a names_n names_c), (6, .int .i64 (y.d.1 : Int))]) (fun y => .pts r (encRDisk (⟨room, ⟨la, y.d.2.length, lc⟩, e, (decR e c)⟩ : RDisk)) 49 :: .row 82 3 la y.d.2.length lc (y.d.2.flatMap encRFile) :: RB 5 y.d.2 :: Δ) (⟨(0, T), none, 0, none, 0, none, 0⟩ : Lp _) ⟨Nat.zero_le _, rfl, rfl⟩ ?_ ?_ ?_
      · exact .cons rfl (by first | rfl | exact inte (by omega) | (simp; done) | (simp <;> omega) | simp [*]) (.cons rfl (by first | rfl | exact inte (by omega) | (simp; done) | (simp <;> omega) | simp [*]) (.cons rfl (by first | rfl | exact inte (by omega) | (simp; done) | (simp <;> omega) | simp [*]) (.nil _)))
      · exact (by repeat (first | exact Ent.nil _ | exact Ent.refl _ | (refine Ent.pick (by repeat (first | exact Pick.here | apply Pick.there)) ?_) | refine Ent.skip ?_))
      intro y hy
      obtain ⟨hy1, hy2, hy3⟩ := hy
      refine c_seq ?_
      refine c_seq ?_
      refine c_region ?_
      refine l_step (s_q rfl wn (q_move rfl) ?_)
      refine l_step (s_q rfl wn (q_move rfl) ?_)
      refine l_step (s_q rfl wn (q_len Tryd.underlying41 rfl) ?_)
      refine l_step (s_q rfl wn (q_lss rfl rfl) ?_)
      refine l_nil ?_
      refine k_then_n ?_
      refine c_cond rfl (fun h3 => ?_) (fun h3 => ?_)
      · try simp only [Bool.and_eq_true, Bool.or_eq_true, Bool.not_eq_true', Bool.and_eq_false_iff, Bool.or_eq_false_iff, Bool.not_eq_false', decide_eq_true_eq, decide_eq_false_iff_not, Bool.not_eq_eq_eq_not, Bool.not_true, Bool.not_false, Bool.not_eq_true, Bool.not_eq_false, beq_iff_eq, bne_iff_ne, ne_eq, Decidable.not_not] at h3
        refine c_skip ?_
        refine k_then_n ?_
        refine c_seq ?_
        refine c_block ?_
        refine c_seq ?_
        refine c_region ?_
        have hlm : y.d.2.length = T.length := by have := congrArg List.length hy2; simpa using this
        have hq : mhas (rvw y.d.2) (names.getD y.d.1 default) = true := by rw [rhas_names hy2]; exact (List.all_eq_true.1 hx2) _ (getD_in (by omega))
        obtain ⟨i, hi, hfi, hin⟩ := rfi_at hq
        refine l_step (s_q rfl wn (q_move rfl) ?_)
        refine l_step (s_q rfl wn (q_move rfl) ?_)
        refine l_step (s_q rfl wn (q_move rfl) ?_)
        refine l_step (s_q rfl wn (q_indexe y.d.1 Tryd.underlying41 sz_9 rfl rfl (by first | assumption | exact rd_ro (by assumption) | exact rd_row (by repeat (first | exact Pick.here | apply Pick.there))) (by decide) rfl (by first | assumption | omega | (simp only [List.length_cons, List.length_nil]; omega))) ?_)
        refine l_step (s_q rfl wn (q_loade (enc := Go.SL.encStr) (xs := names) (j := y.d.1) (off := 0) sc_9 rfl (by first | assumption | exact rd_ro (by assumption) | exact rd_row (by repeat (first | exact Pick.here | apply Pick.there))) (fun _ => rfl) (by first | assumption | omega | (simp only [List.length_cons, List.length_nil]; omega)) (by decide) rfl) ?_)
        refine l_step (s_fnb rfl wn Tryd.func62 rfl (by kernel_rfl) rfl (by repeat (first | exact Sel.nil | exact Pick.here | apply Sel.cons | apply Pick.there)) (fun ρ' hL => rfind_spec r room la lc e (decR e c) y.d.2 (names.getD y.d.1 default) ρ') ?_)
        rintro _ _ ⟨rfl, rfl⟩
        try simp only [List.cons_append, List.nil_append]
        refine l_step (s_q rfl wn (q_assign rfl) ?_)
        refine l_nil ?_
        refine k_then_n ?_
        refine c_draw (m := 17) (bs := #[false, false, false, false, false, false, false, false, false, false, false, false, false, false, false, false, false]) [.pts r (encRDisk (⟨room, ⟨la, y.d.2.length, lc⟩, e, (decR e c)⟩ : RDisk)) 49, RB 5 y.d.2] (by kernel_rfl) rfl (by kernel_rfl) ?_
        rw [hfi]
        refine r_take (i := 0) (bs' := #[true, false, false, false, false, false, false, false, false, false, false, false, false, false, false, false, false]) rfl (by kernel_rfl) (by kernel_rfl) (by kernel_rfl) (fun _ _ _ h => h) rfl wn (q_move rfl) (Hp.le_refl _) (by repeat (first | exact Ent.nil _ | exact Ent.refl _ | (refine Ent.pick (by repeat (first | exact Pick.here | apply Pick.there)) ?_) | refine Ent.skip ?_)) (by kernel_rfl) ?_
        refine r_take (i := 1) (bs' := #[true, true, false, false, false, false, false, false, false, false, false, false, false, false, false, false, false]) rfl (by kernel_rfl) (by kernel_rfl) (by kernel_rfl) (fun _ _ _ h => h) rfl wn (q_nilCheck rfl) (Hp.le_refl _) (by repeat (first | exact Ent.nil _ | exact Ent.refl _ | (refine Ent.pick (by repeat (first | exact Pick.here | apply Pick.there)) ?_) | refine Ent.skip ?_)) (by kernel_rfl) ?_
        refine r_take (i := 2) (bs' := #[true, true, true, false, false, false, false, false, false, false, false, false, false, false, false, false, false]) rfl (by kernel_rfl) (by kernel_rfl) (by kernel_rfl) (fun _ _ _ h => h) rfl wn (q_fieldp rfl fo_49_1) (Hp.le_refl _) (by repeat (first | exact Ent.nil _ | exact Ent.refl _ | (refine Ent.pick (by repeat (first | exact Pick.here | apply Pick.there)) ?_) | refine Ent.skip ?_)) (by kernel_rfl) ?_
        refine r_take (i := 3) (bs' := #[true, true, true, true, false, false, false, false, false, false, false, false, false, false, false, false, false]) rfl (by kernel_rfl) (by kernel_rfl) (by kernel_rfl) (fun _ _ _ h => h) rfl wn (q_loadp (v := .slice la y.d.2.length lc) sc_47 rfl (by repeat (first | exact Pick.here | apply Pick.there)) rfl) (Hp.le_refl _) (by repeat (first | exact Ent.nil _ | exact Ent.refl _ | (refine Ent.pick (by repeat (first | exact Pick.here | apply Pick.there)) ?_) | refine Ent.skip ?_)) (by kernel_rfl) ?_
        refine r_take (i := 4) (bs' := #[true, true, true, true, true, false, false, false, false, false, false, false, false, false, false, false, false]) rfl (by kernel_rfl) (by kernel_rfl) (by kernel_rfl) (fun _ _ _ h => h) rfl wn (q_move rfl) (Hp.le_refl _) (by repeat (first | exact Ent.nil _ | exact Ent.refl _ | (refine Ent.pick (by repeat (first | exact Pick.here | apply Pick.there)) ?_) | refine Ent.skip ?_)) (by kernel_rfl) ?_
        refine r_take (i := 5) (bs' := #[true, true, true, true, true, true, false, false, false, false, false, false, false, false, false, false, false]) rfl (by kernel_rfl) (by kernel_rfl) (by kernel_rfl) (fun _ _ _ h => h) rfl wn (q_move rfl) (Hp.le_refl _) (by repeat (first | exact Ent.nil _ | exact Ent.refl _ | (refine Ent.pick (by repeat (first | exact Pick.here | apply Pick.there)) ?_) | refine Ent.skip ?_)) (by kernel_rfl) ?_
        refine r_take (i := 6) (bs' := #[true, true, true, true, true, true, true, false, false, false, false, false, false, false, false, false, false]) rfl (by kernel_rfl) (by kernel_rfl) (by kernel_rfl) (fun _ _ _ h => h) rfl wn (q_nilCheck rfl) (Hp.le_refl _) (by repeat (first | exact Ent.nil _ | exact Ent.refl _ | (refine Ent.pick (by repeat (first | exact Pick.here | apply Pick.there)) ?_) | refine Ent.skip ?_)) (by kernel_rfl) ?_
        refine r_take (i := 7) (bs' := #[true, true, true, true, true, true, true, true, false, false, false, false, false, false, false, false, false]) rfl (by kernel_rfl) (by kernel_rfl) (by kernel_rfl) (fun _ _ _ h => h) rfl wn (q_fieldp rfl fo_49_1) (Hp.le_refl _) (by repeat (first | exact Ent.nil _ | exact Ent.refl _ | (refine Ent.pick (by repeat (first | exact Pick.here | apply Pick.there)) ?_) | refine Ent.skip ?_)) (by kernel_rfl) ?_
        refine r_take (i := 8) (bs' := #[true, true, true, true, true, true, true, true, true, false, false, false, false, false, false, false, false]) rfl (by kernel_rfl) (by kernel_rfl) (by kernel_rfl) (fun _ _ _ h => h) rfl wn (q_loadp (v := .slice la y.d.2.length lc) sc_47 rfl (by repeat (first | exact Pick.here | apply Pick.there)) rfl) (Hp.le_refl _) (by repeat (first | exact Ent.nil _ | exact Ent.refl _ | (refine Ent.pick (by repeat (first | exact Pick.here | apply Pick.there)) ?_) | refine Ent.skip ?_)) (by kernel_rfl) ?_
        refine r_take (i := 9) (bs' := #[true, true, true, true, true, true, true, true, true, true, false, false, false, false, false, false, false]) rfl (by kernel_rfl) (by kernel_rfl) (by kernel_rfl) (fun _ _ _ h => h) rfl wn (q_move rfl) (Hp.le_refl _) (by repeat (first | exact Ent.nil _ | exact Ent.refl _ | (refine Ent.pick (by repeat (first | exact Pick.here | apply Pick.there)) ?_) | refine Ent.skip ?_)) (by kernel_rfl) ?_
        refine r_one (i := 10) (bs' := #[true, true, true, true, true, true, true, true, true, true, true, false, false, false, false, false, false]) (by kernel_rfl) (by kernel_rfl) ?_
        refine o_step rfl (s_q rfl wn (q_indexe i Tryd.underlying47 sz_82 rfl rfl (rd_row (by repeat (first | exact Pick.here | apply Pick.there))) (by decide) rfl (by first | assumption | omega | (simp only [List.length_cons, List.length_nil]; omega))) ?_)
        refine r_cont (Hp.le_refl _) (by repeat (first | exact Ent.nil _ | exact Ent.refl _ | (refine Ent.pick (by repeat (first | exact Pick.here | apply Pick.there)) ?_) | refine Ent.skip ?_)) ?_
        refine r_take (i := 11) (bs' := #[true, true, true, true, true, true, true, true, true, true, true, true, false, false, false, false, false]) rfl (by kernel_rfl) (by kernel_rfl) (by kernel_rfl) (fun _ _ _ h => h) rfl wn (q_fielde rfl fo_82_1) (Hp.le_refl _) (by repeat (first | exact Ent.nil _ | exact Ent.refl _ | (refine Ent.pick (by repeat (first | exact Pick.here | apply Pick.there)) ?_) | refine Ent.skip ?_)) (by kernel_rfl) ?_
        refine r_one (i := 12) (bs' := #[true, true, true, true, true, true, true, true, true, true, true, true, true, false, false, false, false]) (by kernel_rfl) (by kernel_rfl) ?_
        refine o_step rfl (s_q rfl wn (q_loade (enc := encRFile) (xs := y.d.2) (j := i) (off := 1) sc_32 rfl (rd_row (by repeat (first | exact Pick.here | apply Pick.there))) (fun _ => rfl) (by first | assumption | omega | (simp only [List.length_cons, List.length_nil]; omega)) (by decide) rfl) ?_)
        refine r_cont (Hp.le_refl _) (by repeat (first | exact Ent.nil _ | exact Ent.refl _ | (refine Ent.pick (by repeat (first | exact Pick.here | apply Pick.there)) ?_) | refine Ent.skip ?_)) ?_
        refine r_take (i := 13) (bs' := #[true, true, true, true, true, true, true, true, true, true, true, true, true, true, false, false, false]) rfl (by kernel_rfl) (by kernel_rfl) (by kernel_rfl) (fun _ _ _ h => h) rfl wn (q_len Tryd.underlying32 rfl) (Hp.le_refl _) (by repeat (first | exact Ent.nil _ | exact Ent.refl _ | (refine Ent.pick (by repeat (first | exact Pick.here | apply Pick.there)) ?_) | refine Ent.skip ?_)) (by kernel_rfl) ?_
        refine r_one (i := 14) (bs' := #[true, true, true, true, true, true, true, true, true, true, true, true, true, true, true, false, false]) (by kernel_rfl) (by kernel_rfl) ?_
        refine o_step rfl (s_q rfl wn (q_indexe i Tryd.underlying47 sz_82 rfl rfl (rd_row (by repeat (first | exact Pick.here | apply Pick.there))) (by decide) rfl (by first | assumption | omega | (simp only [List.length_cons, List.length_nil]; omega))) ?_)
        refine r_cont (Hp.le_refl _) (by repeat (first | exact Ent.nil _ | exact Ent.refl _ | (refine Ent.pick (by repeat (first | exact Pick.here | apply Pick.there)) ?_) | refine Ent.skip ?_)) ?_
        refine r_take (i := 15) (bs' := #[true, true, true, true, true, true, true, true, true, true, true, true, true, true, true, true, false]) rfl (by kernel_rfl) (by kernel_rfl) (by kernel_rfl) (fun _ _ _ h => h) rfl wn (q_fielde rfl fo_82_2) (Hp.le_refl _) (by repeat (first | exact Ent.nil _ | exact Ent.refl _ | (refine Ent.pick (by repeat (first | exact Pick.here | apply Pick.there)) ?_) | refine Ent.skip ?_)) (by kernel_rfl) ?_
        refine r_one (i := 16) (bs' := #[true, true, true, true, true, true, true, true, true, true, true, true, true, true, true, true, true]) (by kernel_rfl) (by kernel_rfl) ?_
        refine o_step rfl (s_s0 wn (s_storee (ws := [.int .i64 ((y.d.2.getD i default).B.xs.length : Int)]) (enc := encRFile) (xs := y.d.2) (j := i) (off := 2) (⟨(y.d.2.getD i default).Name, (y.d.2.getD i default).B, ((y.d.2.getD i default).B.xs.length : Int)⟩ : RFile) rfl rfl rfl sz_3 (by simp) (by simp [Value.oneCell', strB, ptV, SL.v]) (by repeat (first | exact Pick.here | apply Pick.there)) (fun _ => rfl) (by first | assumption | omega | (simp only [List.length_cons, List.length_nil]; omega)) (by simp) (by first | rfl | simp [encRFile])) ?_)
        rintro _ _ ⟨rfl, rfl⟩
        refine r_cont (Hp.le_refl _) (by repeat (first | exact Ent.nil _ | exact Ent.refl _ | (refine Ent.pick (by repeat (first | exact Pick.here | apply Pick.there)) ?_) | refine Ent.skip ?_)) ?_
        refine r_done (by kernel_rfl) ?_
        refine k_blk_n ?_
        refine k_then_n ?_
        refine c_region ?_
        refine l_step (s_q rfl wn (q_move rfl) ?_)
        refine l_step (s_q rfl wn (q_add rfl rfl (by omega) (by omega)) ?_)
        refine l_step (s_q rfl wn (q_assign rfl) ?_)
        refine l_nil ?_
        refine k_then_n ?_
        have hndy : (y.d.2.map (·.Name)).Nodup := by rw [hy2]; exact hnd
        have hg := rget hndy hi
        rw [hin] at hg
        have hv9 : rvw (y.d.2.set i (⟨(y.d.2.getD i default).Name, (y.d.2.getD i default).B, ((y.d.2.getD i default).B.xs.length : Int)⟩ : RFile)) = ((names.take (y.d.1 + 1)).foldl syncStep (rvw T)) := by rw [foldl_take _ _ _ _ (by omega), ← hy3, rset hndy hi (⟨(y.d.2.getD i default).Name, (y.d.2.getD i default).B, ((y.d.2.getD i default).B.xs.length : Int)⟩ : RFile) rfl, hin]; unfold syncStep; rw [getD_of hg]
        rw [← rb_same (tb := 5) (T := y.d.2) (i := i) (e := (⟨(y.d.2.getD i default).Name, (y.d.2.getD i default).B, ((y.d.2.getD i default).B.xs.length : Int)⟩ : RFile)) hi rfl, show y.d.2.length = (y.d.2.set i (⟨(y.d.2.getD i default).Name, (y.d.2.getD i default).B, ((y.d.2.getD i default).B.xs.length : Int)⟩ : RFile)).length from (List.length_set ..).symm]
        exact t_next (⟨(y.d.1 + 1, y.d.2.set i (⟨(y.d.2.getD i default).Name, (y.d.2.getD i default).B, ((y.d.2.getD i default).B.xs.length : Int)⟩ : RFile)), none, 0, none, 0, none, 0⟩ : Lp _) ⟨⟨by simp only []; omega, (rnames_set (e := (⟨(y.d.2.getD i default).Name, (y.d.2.getD i default).B, ((y.d.2.getD i default).B.xs.length : Int)⟩ : RFile)) hi rfl).trans hy2, hv9⟩, by simp only []; omega⟩ (.cons rfl (by first | rfl | exact inte (by omega) | (simp; done) | (simp <;> omega) | simp [*]) (.cons rfl (by first | rfl | exact inte (by omega) | (simp; done) | (simp <;> omega) | simp [*]) (.cons rfl (by first | rfl | exact inte (by omega) | (simp; done) | (simp <;> omega) | simp [*]) (.nil _)))) (by repeat (first | exact Ent.nil _ | exact Ent.refl _ | (refine Ent.pick (by repeat (first | exact Pick.here | apply Pick.there)) ?_) | refine Ent.skip ?_))
      · try simp only [Bool.and_eq_true, Bool.or_eq_true, Bool.not_eq_true', Bool.and_eq_false_iff, Bool.or_eq_false_iff, Bool.not_eq_false', decide_eq_true_eq, decide_eq_false_iff_not, Bool.not_eq_eq_eq_not, Bool.not_true, Bool.not_false, Bool.not_eq_true, Bool.not_eq_false, beq_iff_eq, bne_iff_ne, ne_eq, Decidable.not_not] at h3
        have hk2 : y.d.1 = names.length := by omega
        rw [hk2, List.take_length] at hy3
        refine c_exit ?_
        refine k_then_x ?_
        refine k_then_x ?_
        refine k_blk_x ?_
        refine k_then_n ?_
        refine c_seq ?_
        refine c_region ?_
        refine l_step (s_q rfl wn (q_assign rfl) ?_)
        refine l_nil ?_
        refine k_then_n ?_
        refine c_ret ?_
        have hr : (syncR (cI e c) (rvw T) names) = (0, rvw y.d.2) := by unfold syncR; rw [if_neg h0, if_neg (by rw [hx2]; decide), hy3]
        exact t_ret [.pts r (encRDisk (⟨room, ⟨la, y.d.2.length, lc⟩, e, (decR e c)⟩ : RDisk)) 49, .row 82 3 la y.d.2.length lc (y.d.2.flatMap encRFile), RB 5 y.d.2] rfl (.tmp rfl .nil) rfl (Hp.le_refl _) ⟨rfl, la, lc, y.d.2, by rw [hr]; rfl, by rw [hr], rfl⟩ (by repeat (first | exact Ent.nil _ | exact Ent.refl _ | (refine Ent.pick (by repeat (first | exact Pick.here | apply Pick.there)) ?_) | refine Ent.skip ?_))

theorem rcut_spec (r : Nat) (room : Int) (la : Option Addr) (lc : Nat) (e : Bool) (c : Int) (T : RT) (s : (List UInt8)) (n : Int) (ρ : Hp) (hT : VOk (rvw T)) (hc : e = true → 0 ≤ c) (hc2 : c ≤ 9223372036854775807) : Spec0 Tryd.prog 43 #[.pointer (some ⟨r, 0, none⟩), (strB s), .int .i64 n] ρ [.pts r (encRDisk (⟨room, ⟨la, T.length, lc⟩, e, c⟩ : RDisk)) 49, .row 82 3 la T.length lc (T.flatMap encRFile), RB 5 T] (fun v Γ' => ∃ a1 c1 T', v = .int .i64 (cutR (cI e c) (rvw T) s n).1 ∧ rvw T' = (cutR (cI e c) (rvw T) s n).2 ∧ Γ' = [.pts r (encRDisk (⟨room, ⟨a1, T'.length, c1⟩, e, (decR e c)⟩ : RDisk)) 49, .row 82 3 a1 T'.length c1 (T'.flatMap encRFile), RB 5 T']) := by
  refine spec_of (n := 64) (vs := [_, _, _]) (σ := [(0, _), (1, _), (2, _)]) Tryd.func43 rfl rfl rfl rfl fun E Δ => ?_
  simp only [List.cons_append, List.nil_append]
  have hln := rat_ln hT
  have hus := rat_us hT
  have hnd := rnd hT
  refine c_seq ?_
  refine c_region ?_
  refine l_step (s_q rfl wn (q_assign rfl) ?_)
  refine l_nil ?_
  refine k_then_n ?_
  refine c_seq ?_
  refine c_seq ?_
  refine c_region ?_
  refine l_step (s_q rfl wn (q_move rfl) ?_)
  refine l_step (s_fnb rfl wn Tryd.func61 rfl (by kernel_rfl) rfl (by repeat (first | exact Sel.nil | exact Pick.here | apply Sel.cons | apply Pick.there)) (fun ρ' hL => rstopped_spec r room la lc e c T ρ' (by assumption) (by assumption)) ?_)
  rintro _ _ ⟨rfl, rfl⟩
  try simp only [List.cons_append, List.nil_append]
  refine l_nil ?_
  refine k_then_n ?_
  refine c_cond rfl (fun h0 => ?_) (fun h0 => ?_)
  · try simp only [Bool.and_eq_true, Bool.or_eq_true, Bool.not_eq_true', Bool.and_eq_false_iff, Bool.or_eq_false_iff, Bool.not_eq_false', decide_eq_true_eq, decide_eq_false_iff_not, Bool.not_eq_eq_eq_not, Bool.not_true, Bool.not_false, Bool.not_eq_true, Bool.not_eq_false, beq_iff_eq, bne_iff_ne, ne_eq, Decidable.not_not] at h0
    refine c_seq ?_
    refine c_region ?_
    refine l_step (s_q rfl wn (q_assign rfl) ?_)
    refine l_nil ?_
    refine k_then_n ?_
    refine c_ret ?_
    refine k_then_r ?_
    have hr : (cutR (cI e c) (rvw T) s n) = (32, rvw T) := if_pos h0
    exact t_ret [.pts r (encRDisk (⟨room, ⟨la, T.length, lc⟩, e, (decR e c)⟩ : RDisk)) 49, .row 82 3 la T.length lc (T.flatMap encRFile), RB 5 T] rfl (.tmp rfl .nil) rfl (Hp.le_refl _) ⟨rfl, la, lc, T, by rw [hr]; rfl, by rw [hr], rfl⟩ (by repeat (first | exact Ent.nil _ | exact Ent.refl _ | (refine Ent.pick (by repeat (first | exact Pick.here | apply Pick.there)) ?_) | refine Ent.skip ?_))
  · try simp only [Bool.and_eq_true, Bool.or_eq_true, Bool.not_eq_true', Bool.and_eq_false_iff, Bool.or_eq_false_iff, Bool.not_eq_false', decide_eq_true_eq, decide_eq_false_iff_not, Bool.not_eq_eq_eq_not, Bool.not_true, Bool.not_false, Bool.not_eq_true, Bool.not_eq_false, beq_iff_eq, bne_iff_ne, ne_eq, Decidable.not_not] at h0
    refine c_skip ?_
    refine k_then_n ?_
    refine c_seq ?_
    refine c_region ?_
    refine l_step (s_q rfl wn (q_move rfl) ?_)
    refine l_step (s_q rfl wn (q_move rfl) ?_)
    refine l_step (s_fnb rfl wn Tryd.func62 rfl (by kernel_rfl) rfl (by repeat (first | exact Sel.nil | exact Pick.here | apply Sel.cons | apply Pick.there)) (fun ρ' hL => rfind_spec r room la lc e (decR e c) T s ρ') ?_)
    rintro _ _ ⟨rfl, rfl⟩
    try simp only [List.cons_append, List.nil_append]
    refine l_step (s_q rfl wn (q_assign rfl) ?_)
    refine l_nil ?_
    refine k_then_n ?_
    refine c_seq ?_
    refine c_seq ?_
    refine c_region ?_
    refine l_step (s_q rfl wn (q_move rfl) ?_)
    refine l_step (s_q rfl wn (q_lss rfl rfl) ?_)
    refine l_nil ?_
    refine k_then_n ?_
    rw [rfi_neg]
    refine c_cond rfl (fun h1 => ?_) (fun h1 => ?_)
    · skip
      have hq : mhas (rvw T) s = false := by simpa using h1
      refine c_seq ?_
      refine c_region ?_
      refine l_step (s_q rfl wn (q_assign rfl) ?_)
      refine l_nil ?_
      refine k_then_n ?_
      refine c_ret ?_
      refine k_then_r ?_
      have hr : (cutR (cI e c) (rvw T) s n) = (30, rvw T) := by unfold cutR; rw [if_neg h0, if_pos hq]
      exact t_ret [.pts r (encRDisk (⟨room, ⟨la, T.length, lc⟩, e, (decR e c)⟩ : RDisk)) 49, .row 82 3 la T.length lc (T.flatMap encRFile), RB 5 T] rfl (.tmp rfl .nil) rfl (Hp.le_refl _) ⟨rfl, la, lc, T, by rw [hr]; rfl, by rw [hr], rfl⟩ (by repeat (first | exact Ent.nil _ | exact Ent.refl _ | (refine Ent.pick (by repeat (first | exact Pick.here | apply Pick.there)) ?_) | refine Ent.skip ?_))
    · skip
      have hq : mhas (rvw T) s = true := by simpa using h1
      obtain ⟨i, hi, hfi, hin⟩ := rfi_at hq
      rw [hfi]
      have hg := rget hnd hi
      rw [hin] at hg
      refine c_skip ?_
      refine k_then_n ?_
      refine c_seq ?_
      refine c_seq ?_
      refine c_region ?_
      refine l_step (s_q rfl wn (q_move rfl) ?_)
      refine l_step (s_q rfl wn (q_lss rfl rfl) ?_)
      refine l_step (s_q rfl wn (q_move rfl) ?_)
      refine l_step (s_qg rfl (ask_f rfl rfl) (b := (!(decide (n < 0)))) (fun hb => q_move rfl) ?_)
      refine l_step (s_qg rfl (ask_f rfl rfl) (b := (!(decide (n < 0)))) (fun hb => q_move rfl) ?_)
      refine l_step (s_qg rfl (ask_f rfl rfl) (b := (!(decide (n < 0)))) (fun hb => OpQ.env (.cons rfl (gd_t hb) (.nil _) : EnvLe [(19, .pointer (some ⟨r, 0, none⟩))] _) (q_nilCheck rfl)) ?_)
      refine l_step (s_qg rfl (ask_f rfl rfl) (b := (!(decide (n < 0)))) (fun hb => OpQ.env (.cons rfl (gd_t hb) (.nil _) : EnvLe [(20, .pointer (some ⟨r, 0, none⟩))] _) (q_fieldp rfl fo_49_1)) ?_)
      refine l_step (s_qg rfl (ask_f rfl rfl) (b := (!(decide (n < 0)))) (fun hb => OpQ.env (.cons rfl (gd_t hb) (.nil _) : EnvLe [(21, .pointer (some ⟨r, 1, none⟩))] _) (q_loadp (v := .slice la T.length lc) sc_47 rfl (by repeat (first | exact Pick.here | apply Pick.there)) rfl)) ?_)
      refine l_step (s_qg rfl (ask_f rfl rfl) (b := (!(decide (n < 0)))) (fun hb => q_move rfl) ?_)
      refine l_step (s_qg rfl (ask_f rfl rfl) (b := (!(decide (n < 0)))) (fun hb => OpQ.env (.cons rfl (gd_t hb) (.cons rfl (gd_t hb) (.nil _)) : EnvLe [(22, .slice la T.length lc), (23, .int .i64 (i : Int))] _) (q_indexe i Tryd.underlying47 sz_82 rfl rfl (rd_row (by repeat (first | exact Pick.here | apply Pick.there))) (by decide) rfl (by first | assumption | omega | (have hb2 := hb; (try simp only [Bool.and_eq_true, Bool.or_eq_true, Bool.not_eq_true', Bool.and_eq_false_iff, Bool.or_eq_false_iff, Bool.not_eq_false', decide_eq_true_eq, decide_eq_false_iff_not, Bool.not_eq_eq_eq_not, Bool.not_true, Bool.not_false, Bool.not_eq_true, Bool.not_eq_false, beq_iff_eq, bne_iff_ne, ne_eq, Decidable.not_not] at hb2); omega) | (simp only [List.length_cons, List.length_nil]; omega)))) ?_)
      refine l_step (s_qg rfl (ask_f rfl rfl) (b := (!(decide (n < 0)))) (fun hb => OpQ.env (.cons rfl (gd_t hb) (.nil _) : EnvLe [(24, pe la i 3 0)] _) (q_fielde rfl fo_82_1)) ?_)
      refine l_step (s_qg rfl (ask_f rfl rfl) (b := (!(decide (n < 0)))) (fun hb => OpQ.env (.cons rfl (gd_t hb) (.nil _) : EnvLe [(25, pe la i 3 1)] _) (q_loade (enc := encRFile) (xs := T) (j := i) (off := 1) sc_32 rfl (rd_row (by repeat (first | exact Pick.here | apply Pick.there))) (fun _ => rfl) (by first | assumption | omega | (have hb2 := hb; (try simp only [Bool.and_eq_true, Bool.or_eq_true, Bool.not_eq_true', Bool.and_eq_false_iff, Bool.or_eq_false_iff, Bool.not_eq_false', decide_eq_true_eq, decide_eq_false_iff_not, Bool.not_eq_eq_eq_not, Bool.not_true, Bool.not_false, Bool.not_eq_true, Bool.not_eq_false, beq_iff_eq, bne_iff_ne, ne_eq, Decidable.not_not] at hb2); omega) | (simp only [List.length_cons, List.length_nil]; omega)) (by decide) rfl)) ?_)
      refine l_step (s_qg rfl (ask_f rfl rfl) (b := (!(decide (n < 0)))) (fun hb => OpQ.env (.cons rfl (gd_t hb) (.nil _) : EnvLe [(26, .slice ((T.getD i default).B.a) ((T.getD i default).B.xs.length) ((T.getD i default).B.cap))] _) (q_len Tryd.underlying32 rfl)) ?_)
      refine l_step (s_qg rfl (ask_f rfl rfl) (b := (!(decide (n < 0)))) (fun hb => OpQ.env (.cons rfl (gd_t hb) (.cons rfl (gd_t hb) (.nil _)) : EnvLe [(18, .int .i64 n), (27, .int .i64 ((T.getD i default).B.xs.length : Int))] _) (q_gtr rfl rfl)) ?_)
      refine l_step (s_q rfl wn (q_pick_or rfl rfl rfl (fun h => by first | (rw [h]; rfl) | exact congrArg not h)) ?_)
      refine l_nil ?_
      refine k_then_n ?_
      refine c_cond rfl (fun h2 => ?_) (fun h2 => ?_)
      · skip
        refine c_seq ?_
        refine c_region ?_
        refine l_step (s_q rfl wn (q_assign rfl) ?_)
        refine l_nil ?_
        refine k_then_n ?_
        refine c_ret ?_
        refine k_then_r ?_
        have hr : (cutR (cI e c) (rvw T) s n) = (2, rvw T) := by unfold cutR; rw [if_neg h0, if_neg (by rw [hq]; decide), getD_of hg, if_pos h2]
        exact t_ret [.pts r (encRDisk (⟨room, ⟨la, T.length, lc⟩, e, (decR e c)⟩ : RDisk)) 49, .row 82 3 la T.length lc (T.flatMap encRFile), RB 5 T] rfl (.tmp rfl .nil) rfl (Hp.le_refl _) ⟨rfl, la, lc, T, by rw [hr]; rfl, by rw [hr], rfl⟩ (by repeat (first | exact Ent.nil _ | exact Ent.refl _ | (refine Ent.pick (by repeat (first | exact Pick.here | apply Pick.there)) ?_) | refine Ent.skip ?_))
      · skip
        have hc3 : 0 ≤ n ∧ n ≤ ((T.getD i default).B.xs.length : Int) := by have := h2; simp only [Bool.or_eq_false_iff, decide_eq_false_iff_not] at this; omega
        refine Tr.ent (Ent.trans (Ent.pick (A := RB 5 T) (by repeat (first | exact Pick.here | apply Pick.there)) (Ent.refl _)) (rb_open (T := T) (i := i) (by omega))) ?_
        refine t_rd (Γ := _) (rd_row (a := (T.getD i default).B.a) (cap := (T.getD i default).B.cap) (by repeat (first | exact Pick.here | apply Pick.there))) fun _ hcp _ _ => ?_
        refine Tr.ent (Ent.trans (Ent.pick (A := .row 5 1 ((T.getD i default).B.a) ((T.getD i default).B.xs.length) ((T.getD i default).B.cap) (((T.getD i default).B.xs).flatMap encB)) (by repeat (first | exact Pick.here | apply Pick.there)) (Ent.refl _)) (row_cut2 (n).toNat (by omega))) ?_
        refine c_skip ?_
        refine k_then_n ?_
        refine c_seq ?_
        refine c_draw (m := 18) (bs := #[false, false, false, false, false, false, false, false, false, false, false, false, false, false, false, false, false, false]) [.row 5 1 ((T.getD i default).B.a) ((((T.getD i default).B.xs).take (n).toNat).length) ((T.getD i default).B.cap) ((((T.getD i default).B.xs).take (n).toNat).flatMap encB), Bun ((T.map (R1 5)).eraseIdx i), .pts r (encRDisk (⟨room, ⟨la, T.length, lc⟩, e, (decR e c)⟩ : RDisk)) 49] (by kernel_rfl) rfl (by kernel_rfl) ?_
        refine r_take (i := 0) (bs' := #[true, false, false, false, false, false, false, false, false, false, false, false, false, false, false, false, false, false]) rfl (by kernel_rfl) (by kernel_rfl) (by kernel_rfl) (fun _ _ _ h => h) rfl wn (q_move rfl) (Hp.le_refl _) (by repeat (first | exact Ent.nil _ | exact Ent.refl _ | (refine Ent.pick (by repeat (first | exact Pick.here | apply Pick.there)) ?_) | refine Ent.skip ?_)) (by kernel_rfl) ?_
        refine r_take (i := 1) (bs' := #[true, true, false, false, false, false, false, false, false, false, false, false, false, false, false, false, false, false]) rfl (by kernel_rfl) (by kernel_rfl) (by kernel_rfl) (fun _ _ _ h => h) rfl wn (q_nilCheck rfl) (Hp.le_refl _) (by repeat (first | exact Ent.nil _ | exact Ent.refl _ | (refine Ent.pick (by repeat (first | exact Pick.here | apply Pick.there)) ?_) | refine Ent.skip ?_)) (by kernel_rfl) ?_
        refine r_take (i := 2) (bs' := #[true, true, true, false, false, false, false, false, false, false, false, false, false, false, false, false, false, false]) rfl (by kernel_rfl) (by kernel_rfl) (by kernel_rfl) (fun _ _ _ h => h) rfl wn (q_fieldp rfl fo_49_1) (Hp.le_refl _) (by repeat (first | exact Ent.nil _ | exact Ent.refl _ | (refine Ent.pick (by repeat (first | exact Pick.here | apply Pick.there)) ?_) | refine Ent.skip ?_)) (by kernel_rfl) ?_
        refine r_take (i := 3) (bs' := #[true, true, true, true, false, false, false, false, false, false, false, false, false, false, false, false, false, false]) rfl (by kernel_rfl) (by kernel_rfl) (by kernel_rfl) (fun _ _ _ h => h) rfl wn (q_loadp (v := .slice la T.length lc) sc_47 rfl (by repeat (first | exact Pick.here | apply Pick.there)) rfl) (Hp.le_refl _) (by repeat (first | exact Ent.nil _ | exact Ent.refl _ | (refine Ent.pick (by repeat (first | exact Pick.here | apply Pick.there)) ?_) | refine Ent.skip ?_)) (by kernel_rfl) ?_
        refine r_take (i := 4) (bs' := #[true, true, true, true, true, false, false, false, false, false, false, false, false, false, false, false, false, false]) rfl (by kernel_rfl) (by kernel_rfl) (by kernel_rfl) (fun _ _ _ h => h) rfl wn (q_move rfl) (Hp.le_refl _) (by repeat (first | exact Ent.nil _ | exact Ent.refl _ | (refine Ent.pick (by repeat (first | exact Pick.here | apply Pick.there)) ?_) | refine Ent.skip ?_)) (by kernel_rfl) ?_
        refine r_take (i := 5) (bs' := #[true, true, true, true, true, true, false, false, false, false, false, false, false, false, false, false, false, false]) rfl (by kernel_rfl) (by kernel_rfl) (by kernel_rfl) (fun _ _ _ h => h) rfl wn (q_move rfl) (Hp.le_refl _) (by repeat (first | exact Ent.nil _ | exact Ent.refl _ | (refine Ent.pick (by repeat (first | exact Pick.here | apply Pick.there)) ?_) | refine Ent.skip ?_)) (by kernel_rfl) ?_
        refine r_take (i := 6) (bs' := #[true, true, true, true, true, true, true, false, false, false, false, false, false, false, false, false, false, false]) rfl (by kernel_rfl) (by kernel_rfl) (by kernel_rfl) (fun _ _ _ h => h) rfl wn (q_nilCheck rfl) (Hp.le_refl _) (by repeat (first | exact Ent.nil _ | exact Ent.refl _ | (refine Ent.pick (by repeat (first | exact Pick.here | apply Pick.there)) ?_) | refine Ent.skip ?_)) (by kernel_rfl) ?_
        refine r_take (i := 7) (bs' := #[true, true, true, true, true, true, true, true, false, false, false, false, false, false, false, false, false, false]) rfl (by kernel_rfl) (by kernel_rfl) (by kernel_rfl) (fun _ _ _ h => h) rfl wn (q_fieldp rfl fo_49_1) (Hp.le_refl _) (by repeat (first | exact Ent.nil _ | exact Ent.refl _ | (refine Ent.pick (by repeat (first | exact Pick.here | apply Pick.there)) ?_) | refine Ent.skip ?_)) (by kernel_rfl) ?_
        refine r_take (i := 8) (bs' := #[true, true, true, true, true, true, true, true, true, false, false, false, false, false, false, false, false, false]) rfl (by kernel_rfl) (by kernel_rfl) (by kernel_rfl) (fun _ _ _ h => h) rfl wn (q_loadp (v := .slice la T.length lc) sc_47 rfl (by repeat (first | exact Pick.here | apply Pick.there)) rfl) (Hp.le_refl _) (by repeat (first | exact Ent.nil _ | exact Ent.refl _ | (refine Ent.pick (by repeat (first | exact Pick.here | apply Pick.there)) ?_) | refine Ent.skip ?_)) (by kernel_rfl) ?_
        refine r_take (i := 9) (bs' := #[true, true, true, true, true, true, true, true, true, true, false, false, false, false, false, false, false, false]) rfl (by kernel_rfl) (by kernel_rfl) (by kernel_rfl) (fun _ _ _ h => h) rfl wn (q_move rfl) (Hp.le_refl _) (by repeat (first | exact Ent.nil _ | exact Ent.refl _ | (refine Ent.pick (by repeat (first | exact Pick.here | apply Pick.there)) ?_) | refine Ent.skip ?_)) (by kernel_rfl) ?_
        refine r_take (i := 13) (bs' := #[true, true, true, true, true, true, true, true, true, true, false, false, false, true, false, false, false, false]) rfl (by kernel_rfl) (by kernel_rfl) (by kernel_rfl) (fun _ _ _ h => h) rfl wn (q_move rfl) (Hp.le_refl _) (by repeat (first | exact Ent.nil _ | exact Ent.refl _ | (refine Ent.pick (by repeat (first | exact Pick.here | apply Pick.there)) ?_) | refine Ent.skip ?_)) (by kernel_rfl) ?_
        refine r_one (i := 10) (bs' := #[true, true, true, true, true, true, true, true, true, true, true, false, false, true, false, false, false, false]) (by kernel_rfl) (by kernel_rfl) ?_
        refine o_step rfl (s_q rfl wn (q_indexe i Tryd.underlying47 sz_82 rfl rfl (rd_row (by repeat (first | exact Pick.here | apply Pick.there))) (by decide) rfl (by first | assumption | omega | (simp only [List.length_cons, List.length_nil]; omega))) ?_)
        refine r_cont (Hp.le_refl _) (by repeat (first | exact Ent.nil _ | exact Ent.refl _ | (refine Ent.pick (by repeat (first | exact Pick.here | apply Pick.there)) ?_) | refine Ent.skip ?_)) ?_
        refine r_take (i := 11) (bs' := #[true, true, true, true, true, true, true, true, true, true, true, true, false, true, false, false, false, false]) rfl (by kernel_rfl) (by kernel_rfl) (by kernel_rfl) (fun _ _ _ h => h) rfl wn (q_fielde rfl fo_82_1) (Hp.le_refl _) (by repeat (first | exact Ent.nil _ | exact Ent.refl _ | (refine Ent.pick (by repeat (first | exact Pick.here | apply Pick.there)) ?_) | refine Ent.skip ?_)) (by kernel_rfl) ?_
        refine r_one (i := 12) (bs' := #[true, true, true, true, true, true, true, true, true, true, true, true, true, true, false, false, false, false]) (by kernel_rfl) (by kernel_rfl) ?_
        refine o_step rfl (s_q rfl wn (q_loade (enc := encRFile) (xs := T) (j := i) (off := 1) sc_32 rfl (rd_row (by repeat (first | exact Pick.here | apply Pick.there))) (fun _ => rfl) (by first | assumption | omega | (simp only [List.length_cons, List.length_nil]; omega)) (by decide) rfl) ?_)
        refine r_cont (Hp.le_refl _) (by repeat (first | exact Ent.nil _ | exact Ent.refl _ | (refine Ent.pick (by repeat (first | exact Pick.here | apply Pick.there)) ?_) | refine Ent.skip ?_)) ?_
        refine r_take (i := 14) (bs' := #[true, true, true, true, true, true, true, true, true, true, true, true, true, true, true, false, false, false]) rfl (by kernel_rfl) (by kernel_rfl) (by kernel_rfl) (fun _ _ _ h => h) rfl wn (q_as (v := .slice (T.getD i default).B.a ((T.getD i default).B.xs.take (n).toNat).length (T.getD i default).B.cap) (q_cut_hi Tryd.underlying32 sz_5 rfl rfl (by omega) (by omega)) (by congr 1; rw [List.length_take]; omega)) (Hp.le_refl _) (by repeat (first | exact Ent.nil _ | exact Ent.refl _ | (refine Ent.pick (by repeat (first | exact Pick.here | apply Pick.there)) ?_) | refine Ent.skip ?_)) (by kernel_rfl) ?_
        refine r_one (i := 15) (bs' := #[true, true, true, true, true, true, true, true, true, true, true, true, true, true, true, true, false, false]) (by kernel_rfl) (by kernel_rfl) ?_
        refine o_step rfl (s_q rfl wn (q_indexe i Tryd.underlying47 sz_82 rfl rfl (rd_row (by repeat (first | exact Pick.here | apply Pick.there))) (by decide) rfl (by first | assumption | omega | (simp only [List.length_cons, List.length_nil]; omega))) ?_)
        refine r_cont (Hp.le_refl _) (by repeat (first | exact Ent.nil _ | exact Ent.refl _ | (refine Ent.pick (by repeat (first | exact Pick.here | apply Pick.there)) ?_) | refine Ent.skip ?_)) ?_
        refine r_take (i := 16) (bs' := #[true, true, true, true, true, true, true, true, true, true, true, true, true, true, true, true, true, false]) rfl (by kernel_rfl) (by kernel_rfl) (by kernel_rfl) (fun _ _ _ h => h) rfl wn (q_fielde rfl fo_82_1) (Hp.le_refl _) (by repeat (first | exact Ent.nil _ | exact Ent.refl _ | (refine Ent.pick (by repeat (first | exact Pick.here | apply Pick.there)) ?_) | refine Ent.skip ?_)) (by kernel_rfl) ?_
        refine r_one (i := 17) (bs' := #[true, true, true, true, true, true, true, true, true, true, true, true, true, true, true, true, true, true]) (by kernel_rfl) (by kernel_rfl) ?_
        refine o_step rfl (s_s0 wn (s_storee (ws := [.slice ((T.getD i default).B.a) (((T.getD i default).B.xs.take (n).toNat).length) ((T.getD i default).B.cap)]) (enc := encRFile) (xs := T) (j := i) (off := 1) (⟨(T.getD i default).Name, ⟨(T.getD i default).B.a, ((T.getD i default).B.xs.take (n).toNat), (T.getD i default).B.cap⟩, (T.getD i default).Safe⟩ : RFile) rfl rfl rfl sz_32 (by simp) (by simp [Value.oneCell', strB, ptV, SL.v]) (by repeat (first | exact Pick.here | apply Pick.there)) (fun _ => rfl) (by first | assumption | omega | (simp only [List.length_cons, List.length_nil]; omega)) (by simp) (by first | rfl | simp [encRFile])) ?_)
        rintro _ _ ⟨rfl, rfl⟩
        refine r_cont (Hp.le_refl _) (by repeat (first | exact Ent.nil _ | exact Ent.refl _ | (refine Ent.pick (by repeat (first | exact Pick.here | apply Pick.there)) ?_) | refine Ent.skip ?_)) ?_
        refine r_done (by kernel_rfl) ?_
        refine k_then_n ?_
        refine c_seq ?_
        refine c_draw (m := 18) (bs := #[false, false, false, false, false, false, false, false, false, false, false, false, false, false, false, false, false, false]) [.row 5 1 ((T.getD i default).B.a) ((((T.getD i default).B.xs).take (n).toNat).length) ((T.getD i default).B.cap) ((((T.getD i default).B.xs).take (n).toNat).flatMap encB), Bun ((T.map (R1 5)).eraseIdx i), .pts r (encRDisk (⟨room, ⟨la, T.length, lc⟩, e, (decR e c)⟩ : RDisk)) 49] (by kernel_rfl) rfl (by kernel_rfl) ?_
        have hi9 : i < (T.set i (⟨(T.getD i default).Name, ⟨(T.getD i default).B.a, ((T.getD i default).B.xs.take (n).toNat), (T.getD i default).B.cap⟩, (T.getD i default).Safe⟩ : RFile)).length := by rw [List.length_set]; exact hi
        refine r_take (i := 0) (bs' := #[true, false, false, false, false, false, false, false, false, false, false, false, false, false, false, false, false, false]) rfl (by kernel_rfl) (by kernel_rfl) (by kernel_rfl) (fun _ _ _ h => h) rfl wn (q_move rfl) (Hp.le_refl _) (by repeat (first | exact Ent.nil _ | exact Ent.refl _ | (refine Ent.pick (by repeat (first | exact Pick.here | apply Pick.there)) ?_) | refine Ent.skip ?_)) (by kernel_rfl) ?_
        refine r_take (i := 1) (bs' := #[true, true, false, false, false, false, false, false, false, false, false, false, false, false, false, false, false, false]) rfl (by kernel_rfl) (by kernel_rfl) (by kernel_rfl) (fun _ _ _ h => h) rfl wn (q_nilCheck rfl) (Hp.le_refl _) (by repeat (first | exact Ent.nil _ | exact Ent.refl _ | (refine Ent.pick (by repeat (first | exact Pick.here | apply Pick.there)) ?_) | refine Ent.skip ?_)) (by kernel_rfl) ?_
        refine r_take (i := 2) (bs' := #[true, true, true, false, false, false, false, false, false, false, false, false, false, false, false, false, false, false]) rfl (by kernel_rfl) (by kernel_rfl) (by kernel_rfl) (fun _ _ _ h => h) rfl wn (q_fieldp rfl fo_49_1) (Hp.le_refl _) (by repeat (first | exact Ent.nil _ | exact Ent.refl _ | (refine Ent.pick (by repeat (first | exact Pick.here | apply Pick.there)) ?_) | refine Ent.skip ?_)) (by kernel_rfl) ?_
        refine r_take (i := 3) (bs' := #[true, true, true, true, false, false, false, false, false, false, false, false, false, false, false, false, false, false]) rfl (by kernel_rfl) (by kernel_rfl) (by kernel_rfl) (fun _ _ _ h => h) rfl wn (q_loadp (v := .slice la T.length lc) sc_47 rfl (by repeat (first | exact Pick.here | apply Pick.there)) rfl) (Hp.le_refl _) (by repeat (first | exact Ent.nil _ | exact Ent.refl _ | (refine Ent.pick (by repeat (first | exact Pick.here | apply Pick.there)) ?_) | refine Ent.skip ?_)) (by kernel_rfl) ?_
        refine r_take (i := 4) (bs' := #[true, true, true, true, true, false, false, false, false, false, false, false, false, false, false, false, false, false]) rfl (by kernel_rfl) (by kernel_rfl) (by kernel_rfl) (fun _ _ _ h => h) rfl wn (q_move rfl) (Hp.le_refl _) (by repeat (first | exact Ent.nil _ | exact Ent.refl _ | (refine Ent.pick (by repeat (first | exact Pick.here | apply Pick.there)) ?_) | refine Ent.skip ?_)) (by kernel_rfl) ?_
        refine r_take (i := 5) (bs' := #[true, true, true, true, true, true, false, false, false, false, false, false, false, false, false, false, false, false]) rfl (by kernel_rfl) (by kernel_rfl) (by kernel_rfl) (fun _ _ _ h => h) rfl wn (q_move rfl) (Hp.le_refl _) (by repeat (first | exact Ent.nil _ | exact Ent.refl _ | (refine Ent.pick (by repeat (first | exact Pick.here | apply Pick.there)) ?_) | refine Ent.skip ?_)) (by kernel_rfl) ?_
        refine r_take (i := 6) (bs' := #[true, true, true, true, true, true, true, false, false, false, false, false, false, false, false, false, false, false]) rfl (by kernel_rfl) (by kernel_rfl) (by kernel_rfl) (fun _ _ _ h => h) rfl wn (q_nilCheck rfl) (Hp.le_refl _) (by repeat (first | exact Ent.nil _ | exact Ent.refl _ | (refine Ent.pick (by repeat (first | exact Pick.here | apply Pick.there)) ?_) | refine Ent.skip ?_)) (by kernel_rfl) ?_
        refine r_take (i := 7) (bs' := #[true, true, true, true, true, true, true, true, false, false, false, false, false, false, false, false, false, false]) rfl (by kernel_rfl) (by kernel_rfl) (by kernel_rfl) (fun _ _ _ h => h) rfl wn (q_fieldp rfl fo_49_1) (Hp.le_refl _) (by repeat (first | exact Ent.nil _ | exact Ent.refl _ | (refine Ent.pick (by repeat (first | exact Pick.here | apply Pick.there)) ?_) | refine Ent.skip ?_)) (by kernel_rfl) ?_
        refine r_take (i := 8) (bs' := #[true, true, true, true, true, true, true, true, true, false, false, false, false, false, false, false, false, false]) rfl (by kernel_rfl) (by kernel_rfl) (by kernel_rfl) (fun _ _ _ h => h) rfl wn (q_loadp (v := .slice la T.length lc) sc_47 rfl (by repeat (first | exact Pick.here | apply Pick.there)) rfl) (Hp.le_refl _) (by repeat (first | exact Ent.nil _ | exact Ent.refl _ | (refine Ent.pick (by repeat (first | exact Pick.here | apply Pick.there)) ?_) | refine Ent.skip ?_)) (by kernel_rfl) ?_
        refine r_take (i := 9) (bs' := #[true, true, true, true, true, true, true, true, true, true, false, false, false, false, false, false, false, false]) rfl (by kernel_rfl) (by kernel_rfl) (by kernel_rfl) (fun _ _ _ h => h) rfl wn (q_move rfl) (Hp.le_refl _) (by repeat (first | exact Ent.nil _ | exact Ent.refl _ | (refine Ent.pick (by repeat (first | exact Pick.here | apply Pick.there)) ?_) | refine Ent.skip ?_)) (by kernel_rfl) ?_
        refine r_take (i := 13) (bs' := #[true, true, true, true, true, true, true, true, true, true, false, false, false, true, false, false, false, false]) rfl (by kernel_rfl) (by kernel_rfl) (by kernel_rfl) (fun _ _ _ h => h) rfl wn (q_move rfl) (Hp.le_refl _) (by repeat (first | exact Ent.nil _ | exact Ent.refl _ | (refine Ent.pick (by repeat (first | exact Pick.here | apply Pick.there)) ?_) | refine Ent.skip ?_)) (by kernel_rfl) ?_
        refine r_one (i := 10) (bs' := #[true, true, true, true, true, true, true, true, true, true, true, false, false, true, false, false, false, false]) (by kernel_rfl) (by kernel_rfl) ?_
        refine o_step rfl (s_q rfl wn (q_indexe i Tryd.underlying47 sz_82 rfl rfl (rd_row (by repeat (first | exact Pick.here | apply Pick.there))) (by decide) rfl (by first | assumption | omega | (simp only [List.length_cons, List.length_nil]; omega))) ?_)
        refine r_cont (Hp.le_refl _) (by repeat (first | exact Ent.nil _ | exact Ent.refl _ | (refine Ent.pick (by repeat (first | exact Pick.here | apply Pick.there)) ?_) | refine Ent.skip ?_)) ?_
        refine r_take (i := 11) (bs' := #[true, true, true, true, true, true, true, true, true, true, true, true, false, true, false, false, false, false]) rfl (by kernel_rfl) (by kernel_rfl) (by kernel_rfl) (fun _ _ _ h => h) rfl wn (q_fielde rfl fo_82_2) (Hp.le_refl _) (by repeat (first | exact Ent.nil _ | exact Ent.refl _ | (refine Ent.pick (by repeat (first | exact Pick.here | apply Pick.there)) ?_) | refine Ent.skip ?_)) (by kernel_rfl) ?_
        refine r_one (i := 12) (bs' := #[true, true, true, true, true, true, true, true, true, true, true, true, true, true, false, false, false, false]) (by kernel_rfl) (by kernel_rfl) ?_
        refine o_step rfl (s_q rfl wn (q_loade (enc := encRFile) (xs := (T.set i (⟨(T.getD i default).Name, ⟨(T.getD i default).B.a, ((T.getD i default).B.xs.take (n).toNat), (T.getD i default).B.cap⟩, (T.getD i default).Safe⟩ : RFile))) (j := i) (off := 2) sc_3 rfl (rd_row (by repeat (first | exact Pick.here | apply Pick.there))) (fun _ => rfl) (by first | assumption | omega | (simp only [List.length_cons, List.length_nil]; omega)) (by decide) rfl) ?_)
        refine r_cont (Hp.le_refl _) (by repeat (first | exact Ent.nil _ | exact Ent.refl _ | (refine Ent.pick (by repeat (first | exact Pick.here | apply Pick.there)) ?_) | refine Ent.skip ?_)) ?_
        refine r_take (i := 14) (bs' := #[true, true, true, true, true, true, true, true, true, true, true, true, true, true, true, false, false, false]) rfl (by kernel_rfl) (by kernel_rfl) (by kernel_rfl) (fun _ _ _ h => h) rfl wn (q_min2 rfl rfl) (Hp.le_refl _) (by repeat (first | exact Ent.nil _ | exact Ent.refl _ | (refine Ent.pick (by repeat (first | exact Pick.here | apply Pick.there)) ?_) | refine Ent.skip ?_)) (by kernel_rfl) ?_
        refine r_one (i := 15) (bs' := #[true, true, true, true, true, true, true, true, true, true, true, true, true, true, true, true, false, false]) (by kernel_rfl) (by kernel_rfl) ?_
        refine o_step rfl (s_q rfl wn (q_indexe i Tryd.underlying47 sz_82 rfl rfl (rd_row (by repeat (first | exact Pick.here | apply Pick.there))) (by decide) rfl (by first | assumption | omega | (simp only [List.length_cons, List.length_nil]; omega))) ?_)
        refine r_cont (Hp.le_refl _) (by repeat (first | exact Ent.nil _ | exact Ent.refl _ | (refine Ent.pick (by repeat (first | exact Pick.here | apply Pick.there)) ?_) | refine Ent.skip ?_)) ?_
        refine r_take (i := 16) (bs' := #[true, true, true, true, true, true, true, true, true, true, true, true, true, true, true, true, true, false]) rfl (by kernel_rfl) (by kernel_rfl) (by kernel_rfl) (fun _ _ _ h => h) rfl wn (q_fielde rfl fo_82_2) (Hp.le_refl _) (by repeat (first | exact Ent.nil _ | exact Ent.refl _ | (refine Ent.pick (by repeat (first | exact Pick.here | apply Pick.there)) ?_) | refine Ent.skip ?_)) (by kernel_rfl) ?_
        refine r_one (i := 17) (bs' := #[true, true, true, true, true, true, true, true, true, true, true, true, true, true, true, true, true, true]) (by kernel_rfl) (by kernel_rfl) ?_
        refine o_step rfl (s_s0 wn (s_storee (ws := [.int .i64 (if n < ((T.set i (⟨(T.getD i default).Name, ⟨(T.getD i default).B.a, ((T.getD i default).B.xs.take (n).toNat), (T.getD i default).B.cap⟩, (T.getD i default).Safe⟩ : RFile)).getD i default).Safe then n else ((T.set i (⟨(T.getD i default).Name, ⟨(T.getD i default).B.a, ((T.getD i default).B.xs.take (n).toNat), (T.getD i default).B.cap⟩, (T.getD i default).Safe⟩ : RFile)).getD i default).Safe)]) (enc := encRFile) (xs := (T.set i (⟨(T.getD i default).Name, ⟨(T.getD i default).B.a, ((T.getD i default).B.xs.take (n).toNat), (T.getD i default).B.cap⟩, (T.getD i default).Safe⟩ : RFile))) (j := i) (off := 2) (⟨((T.set i (⟨(T.getD i default).Name, ⟨(T.getD i default).B.a, ((T.getD i default).B.xs.take (n).toNat), (T.getD i default).B.cap⟩, (T.getD i default).Safe⟩ : RFile)).getD i default).Name, ((T.set i (⟨(T.getD i default).Name, ⟨(T.getD i default).B.a, ((T.getD i default).B.xs.take (n).toNat), (T.getD i default).B.cap⟩, (T.getD i default).Safe⟩ : RFile)).getD i default).B, (if n < ((T.set i (⟨(T.getD i default).Name, ⟨(T.getD i default).B.a, ((T.getD i default).B.xs.take (n).toNat), (T.getD i default).B.cap⟩, (T.getD i default).Safe⟩ : RFile)).getD i default).Safe then n else ((T.set i (⟨(T.getD i default).Name, ⟨(T.getD i default).B.a, ((T.getD i default).B.xs.take (n).toNat), (T.getD i default).B.cap⟩, (T.getD i default).Safe⟩ : RFile)).getD i default).Safe)⟩ : RFile) rfl rfl rfl sz_3 (by simp) (by simp [Value.oneCell', strB, ptV, SL.v]) (by repeat (first | exact Pick.here | apply Pick.there)) (fun _ => rfl) (by first | assumption | omega | (simp only [List.length_cons, List.length_nil]; omega)) (by simp) (by first | rfl | simp [encRFile])) ?_)
        rintro _ _ ⟨rfl, rfl⟩
        refine r_cont (Hp.le_refl _) (by repeat (first | exact Ent.nil _ | exact Ent.refl _ | (refine Ent.pick (by repeat (first | exact Pick.here | apply Pick.there)) ?_) | refine Ent.skip ?_)) ?_
        refine r_done (by kernel_rfl) ?_
        refine k_then_n ?_
        refine c_seq ?_
        refine c_region ?_
        refine l_step (s_q rfl wn (q_assign rfl) ?_)
        refine l_nil ?_
        refine k_then_n ?_
        refine c_ret ?_
        simp only [List.cons_append, List.nil_append]
        have hTT : ((T.set i (⟨(T.getD i default).Name, ⟨(T.getD i default).B.a, ((T.getD i default).B.xs.take (n).toNat), (T.getD i default).B.cap⟩, (T.getD i default).Safe⟩ : RFile)).set i (⟨((T.set i (⟨(T.getD i default).Name, ⟨(T.getD i default).B.a, ((T.getD i default).B.xs.take (n).toNat), (T.getD i default).B.cap⟩, (T.getD i default).Safe⟩ : RFile)).getD i default).Name, ((T.set i (⟨(T.getD i default).Name, ⟨(T.getD i default).B.a, ((T.getD i default).B.xs.take (n).toNat), (T.getD i default).B.cap⟩, (T.getD i default).Safe⟩ : RFile)).getD i default).B, (if n < ((T.set i (⟨(T.getD i default).Name, ⟨(T.getD i default).B.a, ((T.getD i default).B.xs.take (n).toNat), (T.getD i default).B.cap⟩, (T.getD i default).Safe⟩ : RFile)).getD i default).Safe then n else ((T.set i (⟨(T.getD i default).Name, ⟨(T.getD i default).B.a, ((T.getD i default).B.xs.take (n).toNat), (T.getD i default).B.cap⟩, (T.getD i default).Safe⟩ : RFile)).getD i default).Safe)⟩ : RFile)) = (T.set i (⟨(T.getD i default).Name, ⟨(T.getD i default).B.a, ((T.getD i default).B.xs.take (n).toNat), (T.getD i default).B.cap⟩, mnI (T.getD i default).Safe n⟩ : RFile)) := by rw [getD_set hi, List.set_set]; rfl
        rw [hTT, show T.length = (T.set i (⟨(T.getD i default).Name, ⟨(T.getD i default).B.a, ((T.getD i default).B.xs.take (n).toNat), (T.getD i default).B.cap⟩, mnI (T.getD i default).Safe n⟩ : RFile)).length from (List.length_set ..).symm]
        refine Tr.ent (Ent.trans (Ent.pick (A := R1 5 (⟨(T.getD i default).Name, ⟨(T.getD i default).B.a, ((T.getD i default).B.xs.take (n).toNat), (T.getD i default).B.cap⟩, mnI (T.getD i default).Safe n⟩ : RFile)) (by repeat (first | exact Pick.here | apply Pick.there)) (Ent.pick (A := Bun ((T.map (R1 5)).eraseIdx i)) (by repeat (first | exact Pick.here | apply Pick.there)) (Ent.refl _))) (rb_set (T := T) (i := i) (by omega) (⟨(T.getD i default).Name, ⟨(T.getD i default).B.a, ((T.getD i default).B.xs.take (n).toNat), (T.getD i default).B.cap⟩, mnI (T.getD i default).Safe n⟩ : RFile))) ?_
        have hr : (cutR (cI e c) (rvw T) s n) = (0, rvw (T.set i (⟨(T.getD i default).Name, ⟨(T.getD i default).B.a, ((T.getD i default).B.xs.take (n).toNat), (T.getD i default).B.cap⟩, mnI (T.getD i default).Safe n⟩ : RFile))) := by unfold cutR; rw [if_neg h0, if_neg (by rw [hq]; decide), getD_of hg, if_neg (by rw [h2]; decide), rset hnd hi (⟨(T.getD i default).Name, ⟨(T.getD i default).B.a, ((T.getD i default).B.xs.take (n).toNat), (T.getD i default).B.cap⟩, mnI (T.getD i default).Safe n⟩ : RFile) rfl, hin]
        exact t_ret [.pts r (encRDisk (⟨room, ⟨la, (T.set i (⟨(T.getD i default).Name, ⟨(T.getD i default).B.a, ((T.getD i default).B.xs.take (n).toNat), (T.getD i default).B.cap⟩, mnI (T.getD i default).Safe n⟩ : RFile)).length, lc⟩, e, (decR e c)⟩ : RDisk)) 49, .row 82 3 la (T.set i (⟨(T.getD i default).Name, ⟨(T.getD i default).B.a, ((T.getD i default).B.xs.take (n).toNat), (T.getD i default).B.cap⟩, mnI (T.getD i default).Safe n⟩ : RFile)).length lc ((T.set i (⟨(T.getD i default).Name, ⟨(T.getD i default).B.a, ((T.getD i default).B.xs.take (n).toNat), (T.getD i default).B.cap⟩, mnI (T.getD i default).Safe n⟩ : RFile)).flatMap encRFile), RB 5 (T.set i (⟨(T.getD i default).Name, ⟨(T.getD i default).B.a, ((T.getD i default).B.xs.take (n).toNat), (T.getD i default).B.cap⟩, mnI (T.getD i default).Safe n⟩ : RFile))] rfl (.tmp rfl .nil) rfl (Hp.le_refl _) ⟨rfl, la, lc, (T.set i (⟨(T.getD i default).Name, ⟨(T.getD i default).B.a, ((T.getD i default).B.xs.take (n).toNat), (T.getD i default).B.cap⟩, mnI (T.getD i default).Safe n⟩ : RFile)), by rw [hr]; rfl, by rw [hr], rfl⟩ (by repeat (first | exact Ent.nil _ | exact Ent.refl _ | (refine Ent.pick (by repeat (first | exact Pick.here | apply Pick.there)) ?_) | refine Ent.skip ?_))
end Go.Dsk.RC

/-
  Package disk, walked.
-/
set_option maxRecDepth 100000
set_option maxHeartbeats 4000000
set_option linter.unusedSimpArgs false
set_option linter.unusedVariables false
namespace Go.Dsk.RD
open Go Go.SL Go.Proofs Go.Dsk Go.Dsk.L Go.Dsk.RA Go.Dsk.RB Go.Dsk.RC
attribute [local irreducible] Go.SL.Ent
theorem ag_82 : aggSize Tryd.prog 82 = some 3 := by kernel_rfl
theorem fo_82_0 : fieldOff Tryd.prog 82 0 = some (0, 9) := by kernel_rfl
theorem sc_9 : isScalar Tryd.prog 9 = true := by kernel_rfl
theorem sz_82 : sizeIs Tryd.prog 82 = some 3 := by kernel_rfl
theorem sz_9 : sizeIs Tryd.prog 9 = some 1 := by kernel_rfl

theorem rrename_spec (r : Nat) (room : Int) (la : Option Addr) (lc : Nat) (e : Bool) (c : Int) (T : RT) (src : (List UInt8)) (dst : (List UInt8)) (ρ : Hp) (hT : VOk (rvw T)) (hc : e = true → 0 ≤ c) (hc2 : c ≤ 9223372036854775807) (hd : dst.length ≤ 9223372036854775807) : Spec0 Tryd.prog 41 #[.pointer (some ⟨r, 0, none⟩), (strB src), (strB dst)] ρ [.pts r (encRDisk (⟨room, ⟨la, T.length, lc⟩, e, c⟩ : RDisk)) 49, .row 82 3 la T.length lc (T.flatMap encRFile), RB 5 T] (fun v Γ' => ∃ a1 c1 T', v = .int .i64 (renI (cI e c) (rvw T) src dst).1 ∧ rvw T' = (renI (cI e c) (rvw T) src dst).2 ∧ Γ' = [.pts r (encRDisk (⟨room, ⟨a1, T'.length, c1⟩, e, (decR e c)⟩ : RDisk)) 49, .row 82 3 a1 T'.length c1 (T'.flatMap encRFile), RB 5 T']) := by
  refine spec_of (n := 38) (vs := [_, _, _]) (σ := [(0, _), (1, _), (2, _)]) Tryd.func41 rfl rfl rfl rfl fun E Δ => ?_
  simp only [List.cons_append, List.nil_append]
  have hln := rat_ln hT
  have hus := rat_us hT
  have hnd := rnd hT
  refine c_seq ?_
  refine c_region ?_
  refine l_step (s_q rfl wn (q_assign rfl) ?_)
  refine l_nil ?_
  refine k_then_n ?_
  refine c_seq ?_
  refine c_seq ?_
  refine c_region ?_
  refine l_step (s_q rfl wn (q_move rfl) ?_)
  refine l_step (s_fnb rfl wn Tryd.func61 rfl (by kernel_rfl) rfl (by repeat (first | exact Sel.nil | exact Pick.here | apply Sel.cons | apply Pick.there)) (fun ρ' hL => rstopped_spec r room la lc e c T ρ' (by assumption) (by assumption)) ?_)
  rintro _ _ ⟨rfl, rfl⟩
  try simp only [List.cons_append, List.nil_append]
  refine l_nil ?_
  refine k_then_n ?_
  refine c_cond rfl (fun h0 => ?_) (fun h0 => ?_)
  · try simp only [Bool.and_eq_true, Bool.or_eq_true, Bool.not_eq_true', Bool.and_eq_false_iff, Bool.or_eq_false_iff, Bool.not_eq_false', decide_eq_true_eq, decide_eq_false_iff_not, Bool.not_eq_eq_eq_not, Bool.not_true, Bool.not_false, Bool.not_eq_true, Bool.not_eq_false, beq_iff_eq, bne_iff_ne, ne_eq, Decidable.not_not] at h0
    refine c_seq ?_
    refine c_region ?_
    refine l_step (s_q rfl wn (q_assign rfl) ?_)
    refine l_nil ?_
    refine k_then_n ?_
    refine c_ret ?_
    refine k_then_r ?_
    have hr : (renI (cI e c) (rvw T) src dst) = (32, rvw T) := if_pos h0
    exact t_ret [.pts r (encRDisk (⟨room, ⟨la, T.length, lc⟩, e, (decR e c)⟩ : RDisk)) 49, .row 82 3 la T.length lc (T.flatMap encRFile), RB 5 T] rfl (.tmp rfl .nil) rfl (Hp.le_refl _) ⟨rfl, la, lc, T, by rw [hr]; rfl, by rw [hr], rfl⟩ (by repeat (first | exact Ent.nil _ | exact Ent.refl _ | (refine Ent.pick (by repeat (first | exact Pick.here | apply Pick.there)) ?_) | refine Ent.skip ?_))
  · try simp only [Bool.and_eq_true, Bool.or_eq_true, Bool.not_eq_true', Bool.and_eq_false_iff, Bool.or_eq_false_iff, Bool.not_eq_false', decide_eq_true_eq, decide_eq_false_iff_not, Bool.not_eq_eq_eq_not, Bool.not_true, Bool.not_false, Bool.not_eq_true, Bool.not_eq_false, beq_iff_eq, bne_iff_ne, ne_eq, Decidable.not_not] at h0
    refine c_skip ?_
    refine k_then_n ?_
    refine c_seq ?_
    refine c_seq ?_
    refine c_region ?_
    refine l_step (s_q rfl wn (q_move rfl) ?_)
    refine l_step (s_q rfl wn (q_move rfl) ?_)
    refine l_step (s_fnb rfl wn Tryd.func62 rfl (by kernel_rfl) rfl (by repeat (first | exact Sel.nil | exact Pick.here | apply Sel.cons | apply Pick.there)) (fun ρ' hL => rfind_spec r room la lc e (decR e c) T src ρ') ?_)
    rintro _ _ ⟨rfl, rfl⟩
    try simp only [List.cons_append, List.nil_append]
    refine l_step (s_q rfl wn (q_lss rfl rfl) ?_)
    refine l_step (s_q rfl wn (q_move rfl) ?_)
    refine l_step (s_qg rfl (ask_f rfl rfl) (b := (!(decide ((rfi T src) < 0)))) (fun hb => q_move rfl) ?_)
    refine l_step (s_fnqg (b := (!(decide ((rfi T src) < 0)))) rfl (ask_f rfl rfl) Tryd.func10 rfl (by kernel_rfl) (fun hb => (.cons rfl (gd_t hb) (.nil _) : EnvLe [(15, (strB dst))] _)) rfl (fun hb ρ' hL => C.rname_spec dst ρ' hd) ?_)
    refine l_step (s_qg rfl (ask_f rfl rfl) (b := (!(decide ((rfi T src) < 0)))) (fun hb => OpQ.env (.cons rfl (gd_t hb) (.nil _) : EnvLe [(16, .bool (nameB dst))] _) (q_not rfl)) ?_)
    refine l_step (s_q rfl wn (q_pick_or rfl rfl rfl (fun h => by first | (rw [h]; rfl) | exact congrArg not h)) ?_)
    refine l_nil ?_
    refine k_then_n ?_
    rw [rfi_neg]
    refine c_cond rfl (fun h1 => ?_) (fun h1 => ?_)
    · skip
      refine c_seq ?_
      refine c_region ?_
      refine l_step (s_q rfl wn (q_assign rfl) ?_)
      refine l_nil ?_
      refine k_then_n ?_
      refine c_ret ?_
      refine k_then_r ?_
      have hr : (renI (cI e c) (rvw T) src dst) = (30, rvw T) := by unfold renI; rw [if_neg h0, if_pos h1]
      exact t_ret [.pts r (encRDisk (⟨room, ⟨la, T.length, lc⟩, e, (decR e c)⟩ : RDisk)) 49, .row 82 3 la T.length lc (T.flatMap encRFile), RB 5 T] rfl (.tmp rfl .nil) rfl (Hp.le_refl _) ⟨rfl, la, lc, T, by rw [hr]; rfl, by rw [hr], rfl⟩ (by repeat (first | exact Ent.nil _ | exact Ent.refl _ | (refine Ent.pick (by repeat (first | exact Pick.here | apply Pick.there)) ?_) | refine Ent.skip ?_))
    · skip
      have hq : mhas (rvw T) src = true := by have := h1; simp only [Bool.or_eq_false_iff, Bool.not_eq_false'] at this; exact this.1
      obtain ⟨i, hi, hfi, hin⟩ := rfi_at hq
      have hg := rget hnd hi
      rw [hin] at hg
      have hv0 : rvw (T.eraseIdx i) = mdel (rvw T) src := by rw [rdel hnd hi, hin]
      have hnd1 := rnd_erase hnd hi
      refine c_skip ?_
      refine k_then_n ?_
      refine c_seq ?_
      refine c_region ?_
      refine l_step (s_q rfl wn (q_move rfl) ?_)
      refine l_step (s_q rfl wn (q_move rfl) ?_)
      refine l_step (s_q rfl wn (q_move rfl) ?_)
      refine l_step (s_fnb rfl wn Tryd.func62 rfl (by kernel_rfl) rfl (by repeat (first | exact Sel.nil | exact Pick.here | apply Sel.cons | apply Pick.there)) (fun ρ' hL => rfind_spec r room la lc e (decR e c) T src ρ') ?_)
      rintro _ _ ⟨rfl, rfl⟩
      try simp only [List.cons_append, List.nil_append]
      rw [hfi]
      refine l_step (s_fnb rfl wn Tryd.func64 rfl (by kernel_rfl) rfl (by repeat (first | exact Sel.nil | exact Pick.here | apply Sel.cons | apply Pick.there)) (fun ρ' hL => rtake_spec r room la lc e (decR e c) T i ρ' hi (by first | omega | (simp only [List.length_eraseIdx]; (try split) <;> omega))) ?_)
      rintro _ _ ⟨aT1, cT1, rfl, rfl⟩
      try simp only [List.cons_append, List.nil_append]
      refine l_step (s_s rfl wn (s_allocz (cs := encRFile zRFile) (by kernel_rfl)) ?_)
      rintro _ _ ⟨b7, rfl, rfl⟩
      refine l_step (s_s0 wn (s_storep (ws := encRFile (T.getD i default)) (cs := encRFile zRFile) (cs' := encRFile (T.getD i default)) rfl rfl rfl sz_82 (oneRFile _) (by simp [encRFile, encRFile]) rfl (by repeat (first | exact Pick.here | apply Pick.there))) ?_)
      rintro _ _ ⟨rfl, rfl⟩
      refine l_nil ?_
      refine k_then_n ?_
      refine c_seq ?_
      refine c_region ?_
      refine l_step (s_q rfl wn (q_move rfl) ?_)
      refine l_step (s_q rfl wn (q_fieldp rfl fo_82_0) ?_)
      refine l_step (s_s0 wn (s_storep (ws := [(strB dst)]) (cs := encRFile (⟨(T.getD i default).Name, (T.getD i default).B, (T.getD i default).Safe⟩ : RFile)) (cs' := encRFile (⟨dst, (T.getD i default).B, (T.getD i default).Safe⟩ : RFile)) rfl rfl rfl sz_9 (by simp [Value.oneCell', strB, ptV, SL.v, SH.v]) (by simp [encRFile]) rfl (by repeat (first | exact Pick.here | apply Pick.there))) ?_)
      rintro _ _ ⟨rfl, rfl⟩
      refine l_nil ?_
      refine k_then_n ?_
      refine c_seq ?_
      refine c_seq ?_
      refine c_region ?_
      refine l_step (s_q rfl wn (q_move rfl) ?_)
      refine l_step (s_q rfl wn (q_move rfl) ?_)
      refine l_step (s_fnb rfl wn Tryd.func62 rfl (by kernel_rfl) rfl (by repeat (first | exact Sel.nil | exact Pick.here | apply Sel.cons | apply Pick.there)) (fun ρ' hL => rfind_spec r room aT1 cT1 e (decR e c) (T.eraseIdx i) dst ρ') ?_)
      rintro _ _ ⟨rfl, rfl⟩
      try simp only [List.cons_append, List.nil_append]
      refine l_step (s_q rfl wn (q_geq rfl rfl) ?_)
      refine l_nil ?_
      refine k_then_n ?_
      rw [rfi_pos]
      refine c_cond rfl (fun h2 => ?_) (fun h2 => ?_)
      · skip
        have hq2 : mhas (rvw (T.eraseIdx i)) dst = true := h2
        obtain ⟨i2, hi2, hfi2, hin2⟩ := rfi_at hq2
        refine c_region ?_
        refine l_step (s_q rfl wn (q_move rfl) ?_)
        refine l_step (s_q rfl wn (q_move rfl) ?_)
        refine l_step (s_q rfl wn (q_move rfl) ?_)
        refine l_step (s_fnb rfl wn Tryd.func62 rfl (by kernel_rfl) rfl (by repeat (first | exact Sel.nil | exact Pick.here | apply Sel.cons | apply Pick.there)) (fun ρ' hL => rfind_spec r room aT1 cT1 e (decR e c) (T.eraseIdx i) dst ρ') ?_)
        rintro _ _ ⟨rfl, rfl⟩
        try simp only [List.cons_append, List.nil_append]
        rw [hfi2]
        refine l_step (s_fnb rfl wn Tryd.func64 rfl (by kernel_rfl) rfl (by repeat (first | exact Sel.nil | exact Pick.here | apply Sel.cons | apply Pick.there)) (fun ρ' hL => rtake_spec r room aT1 cT1 e (decR e c) (T.eraseIdx i) i2 ρ' hi2 (by first | omega | (simp only [List.length_eraseIdx]; (try split) <;> omega))) ?_)
        rintro _ _ ⟨aT2, cT2, rfl, rfl⟩
        try simp only [List.cons_append, List.nil_append]
        refine l_nil ?_
        refine k_then_n ?_
        refine c_seq ?_
        refine c_region ?_
        refine l_step (s_q rfl wn (q_move rfl) ?_)
        refine l_step (s_q rfl wn (q_loadpa (vs := encRFile (⟨dst, (T.getD i default).B, (T.getD i default).Safe⟩ : RFile)) ag_82 rfl (by repeat (first | exact Pick.here | apply Pick.there)) rfl) ?_)
        refine l_step (s_fnb rfl wn Tryd.func63 rfl (by kernel_rfl) rfl (by repeat (first | exact Sel.nil | exact Pick.here | apply Sel.cons | apply Pick.there)) (fun ρ' hL => radd_spec r room aT2 cT2 e (decR e c) ((T.eraseIdx i).eraseIdx i2) (⟨dst, (T.getD i default).B, (T.getD i default).Safe⟩ : RFile) ρ' (by simp only [List.length_eraseIdx]; (try split) <;> (try split) <;> omega)) ?_)
        rintro _ _ ⟨kA, aA, cA, hkA, hkB, hkC, rfl, rfl⟩
        try simp only [List.cons_append, List.nil_append]
        refine l_nil ?_
        refine k_then_n ?_
        refine c_seq ?_
        refine c_region ?_
        refine l_step (s_q rfl wn (q_assign rfl) ?_)
        refine l_nil ?_
        refine k_then_n ?_
        refine c_ret ?_
        have hv1 : rvw ((T.eraseIdx i).eraseIdx i2) = mdel (mdel (rvw T) src) dst := by rw [rdel hnd1 hi2, hin2, rdel hnd hi, hin]
        have hr : (renI (cI e c) (rvw T) src dst) = (0, rvw (((T.eraseIdx i).eraseIdx i2).take kA ++ (⟨dst, (T.getD i default).B, (T.getD i default).Safe⟩ : RFile) :: ((T.eraseIdx i).eraseIdx i2).drop kA)) := by unfold renI; rw [if_neg h0, if_neg (by rw [h1]; decide), rin_vw (T := ((T.eraseIdx i).eraseIdx i2)) (f := (⟨dst, (T.getD i default).B, (T.getD i default).Safe⟩ : RFile)) ⟨kA, hkA, hkB, hkC, rfl⟩, hv1, getD_of hg]; rfl
        exact t_ret [.pts r (encRDisk (⟨room, ⟨aA, (((T.eraseIdx i).eraseIdx i2).take kA ++ (⟨dst, (T.getD i default).B, (T.getD i default).Safe⟩ : RFile) :: ((T.eraseIdx i).eraseIdx i2).drop kA).length, cA⟩, e, (decR e c)⟩ : RDisk)) 49, .row 82 3 aA (((T.eraseIdx i).eraseIdx i2).take kA ++ (⟨dst, (T.getD i default).B, (T.getD i default).Safe⟩ : RFile) :: ((T.eraseIdx i).eraseIdx i2).drop kA).length cA ((((T.eraseIdx i).eraseIdx i2).take kA ++ (⟨dst, (T.getD i default).B, (T.getD i default).Safe⟩ : RFile) :: ((T.eraseIdx i).eraseIdx i2).drop kA).flatMap encRFile), RB 5 (((T.eraseIdx i).eraseIdx i2).take kA ++ (⟨dst, (T.getD i default).B, (T.getD i default).Safe⟩ : RFile) :: ((T.eraseIdx i).eraseIdx i2).drop kA)] rfl (.tmp rfl .nil) rfl (Hp.le_refl _) ⟨rfl, aA, cA, (((T.eraseIdx i).eraseIdx i2).take kA ++ (⟨dst, (T.getD i default).B, (T.getD i default).Safe⟩ : RFile) :: ((T.eraseIdx i).eraseIdx i2).drop kA), by rw [hr]; rfl, by rw [hr], rfl⟩ (by repeat (first | exact Ent.nil _ | exact Ent.refl _ | (refine Ent.pick (by repeat (first | exact Pick.here | apply Pick.there)) ?_) | refine Ent.skip ?_))
      · skip
        have hq2 : mhas (rvw (T.eraseIdx i)) dst = false := h2
        refine c_skip ?_
        refine k_then_n ?_
        refine c_seq ?_
        refine c_region ?_
        refine l_step (s_q rfl wn (q_move rfl) ?_)
        refine l_step (s_q rfl wn (q_loadpa (vs := encRFile (⟨dst, (T.getD i default).B, (T.getD i default).Safe⟩ : RFile)) ag_82 rfl (by repeat (first | exact Pick.here | apply Pick.there)) rfl) ?_)
        refine l_step (s_fnb rfl wn Tryd.func63 rfl (by kernel_rfl) rfl (by repeat (first | exact Sel.nil | exact Pick.here | apply Sel.cons | apply Pick.there)) (fun ρ' hL => radd_spec r room aT1 cT1 e (decR e c) (T.eraseIdx i) (⟨dst, (T.getD i default).B, (T.getD i default).Safe⟩ : RFile) ρ' (by simp only [List.length_eraseIdx]; (try split) <;> (try split) <;> omega)) ?_)
        rintro _ _ ⟨kA, aA, cA, hkA, hkB, hkC, rfl, rfl⟩
        try simp only [List.cons_append, List.nil_append]
        refine l_nil ?_
        refine k_then_n ?_
        refine c_seq ?_
        refine c_region ?_
        refine l_step (s_q rfl wn (q_assign rfl) ?_)
        refine l_nil ?_
        refine k_then_n ?_
        refine c_ret ?_
        have hv1 : rvw (T.eraseIdx i) = mdel (mdel (rvw T) src) dst := by rw [mdel_nohas (V := mdel (rvw T) src) (by rw [← hv0]; exact hq2)]; exact hv0
        have hr : (renI (cI e c) (rvw T) src dst) = (0, rvw ((T.eraseIdx i).take kA ++ (⟨dst, (T.getD i default).B, (T.getD i default).Safe⟩ : RFile) :: (T.eraseIdx i).drop kA)) := by unfold renI; rw [if_neg h0, if_neg (by rw [h1]; decide), rin_vw (T := (T.eraseIdx i)) (f := (⟨dst, (T.getD i default).B, (T.getD i default).Safe⟩ : RFile)) ⟨kA, hkA, hkB, hkC, rfl⟩, hv1, getD_of hg]; rfl
        exact t_ret [.pts r (encRDisk (⟨room, ⟨aA, ((T.eraseIdx i).take kA ++ (⟨dst, (T.getD i default).B, (T.getD i default).Safe⟩ : RFile) :: (T.eraseIdx i).drop kA).length, cA⟩, e, (decR e c)⟩ : RDisk)) 49, .row 82 3 aA ((T.eraseIdx i).take kA ++ (⟨dst, (T.getD i default).B, (T.getD i default).Safe⟩ : RFile) :: (T.eraseIdx i).drop kA).length cA (((T.eraseIdx i).take kA ++ (⟨dst, (T.getD i default).B, (T.getD i default).Safe⟩ : RFile) :: (T.eraseIdx i).drop kA).flatMap encRFile), RB 5 ((T.eraseIdx i).take kA ++ (⟨dst, (T.getD i default).B, (T.getD i default).Safe⟩ : RFile) :: (T.eraseIdx i).drop kA)] rfl (.tmp rfl .nil) rfl (Hp.le_refl _) ⟨rfl, aA, cA, ((T.eraseIdx i).take kA ++ (⟨dst, (T.getD i default).B, (T.getD i default).Safe⟩ : RFile) :: (T.eraseIdx i).drop kA), by rw [hr]; rfl, by rw [hr], rfl⟩ (by repeat (first | exact Ent.nil _ | exact Ent.refl _ | (refine Ent.pick (by repeat (first | exact Pick.here | apply Pick.there)) ?_) | refine Ent.skip ?_))

theorem rremove_spec (r : Nat) (room : Int) (la : Option Addr) (lc : Nat) (e : Bool) (c : Int) (T : RT) (names_a : Option Addr) (names_n names_c : Nat) (names : List (List UInt8)) (hnames_n : names.length = names_n) (ρ : Hp) (hT : VOk (rvw T)) (hc : e = true → 0 ≤ c) (hc2 : c ≤ 9223372036854775807) (hro : Ro ρ 1 names_a names_n names_c (names.flatMap Go.SL.encStr)) : Spec0 Tryd.prog 42 #[.pointer (some ⟨r, 0, none⟩), .slice names_a names_n names_c] ρ [.pts r (encRDisk (⟨room, ⟨la, T.length, lc⟩, e, c⟩ : RDisk)) 49, .row 82 3 la T.length lc (T.flatMap encRFile), RB 5 T] (fun v Γ' => ∃ a1 c1 T', v = .int .i64 (remR (cI e c) (rvw T) names).1 ∧ rvw T' = (remR (cI e c) (rvw T) names).2 ∧ Γ' = [.pts r (encRDisk (⟨room, ⟨a1, T'.length, c1⟩, e, (decR e c)⟩ : RDisk)) 49, .row 82 3 a1 T'.length c1 (T'.flatMap encRFile), RB 5 T']) := by
  refine spec_of (n := 51) (vs := [_, _]) (σ := [(0, _), (1, _)]) Tryd.func42 rfl rfl rfl rfl fun E Δ => ?_
  simp only [List.cons_append, List.nil_append]
  have hrob : names_n ≤ 9223372036854775807 := Nat.le_trans hro.2.1 hro.2.2.1
  have hln := rat_ln hT
  have hus := rat_us hT
  have hnd := rnd hT
  refine c_seq ?_
  refine c_region ?_
  refine l_step (s_q rfl wn (q_assign rfl) ?_)
  refine l_nil ?_
  refine k_then_n ?_
  refine c_seq ?_
  refine c_seq ?_
  refine c_region ?_
  refine l_step (s_q rfl wn (q_move rfl) ?_)
  refine l_step (s_fnb rfl wn Tryd.func61 rfl (by kernel_rfl) rfl (by repeat (first | exact Sel.nil | exact Pick.here | apply Sel.cons | apply Pick.there)) (fun ρ' hL => rstopped_spec r room la lc e c T ρ' (by assumption) (by assumption)) ?_)
  rintro _ _ ⟨rfl, rfl⟩
  try simp only [List.cons_append, List.nil_append]
  refine l_nil ?_
  refine k_then_n ?_
  refine c_cond rfl (fun h0 => ?_) (fun h0 => ?_)
  · try simp only [Bool.and_eq_true, Bool.or_eq_true, Bool.not_eq_true', Bool.and_eq_false_iff, Bool.or_eq_false_iff, Bool.not_eq_false', decide_eq_true_eq, decide_eq_false_iff_not, Bool.not_eq_eq_eq_not, Bool.not_true, Bool.not_false, Bool.not_eq_true, Bool.not_eq_false, beq_iff_eq, bne_iff_ne, ne_eq, Decidable.not_not] at h0
    refine c_seq ?_
    refine c_region ?_
    refine l_step (s_q rfl wn (q_assign rfl) ?_)
    refine l_nil ?_
    refine k_then_n ?_
    refine c_ret ?_
    refine k_then_r ?_
    have hr : (remR (cI e c) (rvw T) names) = (32, rvw T) := if_pos h0
    exact t_ret [.pts r (encRDisk (⟨room, ⟨la, T.length, lc⟩, e, (decR e c)⟩ : RDisk)) 49, .row 82 3 la T.length lc (T.flatMap encRFile), RB 5 T] rfl (.tmp rfl .nil) rfl (Hp.le_refl _) ⟨rfl, la, lc, T, by rw [hr]; rfl, by rw [hr], rfl⟩ (by repeat (first | exact Ent.nil _ | exact Ent.refl _ | (refine Ent.pick (by repeat (first | exact Pick.here | apply Pick.there)) ?_) | refine Ent.skip ?_))
  · try simp only [Bool.and_eq_true, Bool.or_eq_true, Bool.not_eq_true', Bool.and_eq_false_iff, Bool.or_eq_false_iff, Bool.not_eq_false', decide_eq_true_eq, decide_eq_false_iff_not, Bool.not_eq_eq_eq_not, Bool.not_true, Bool.not_false, Bool.not_eq_true, Bool.not_eq_false, beq_iff_eq, bne_iff_ne, ne_eq, Decidable.not_not] at h0
    refine c_skip ?_
    refine k_then_n ?_
    refine c_seq ?_
    refine c_seq ?_
    refine c_region ?_
    refine l_step (s_q rfl wn (q_assign rfl) ?_)
    refine l_nil ?_
    refine k_then_n ?_
    refine c_block ?_
    refine Tr.env (σ' := [(0, _), (1, _), (5, _)]) (.cons rfl rfl (.cons rfl rfl (.cons rfl rfl (.nil _)))) ?_
    refine t_loop (ι := Lp (Nat)) (fun x => x.d ≤ names_n ∧ (names.take x.d).all (mhas (rvw T)) = true ∧ (names.take x.d).Nodup) (fun x => names_n - x.d) (fun x => [(0, .pointer (some ⟨r, 0, none⟩)), (1, .slice names_a names_n names_c), (5, .int .i64 (x.d : Int))]) (fun x => .pts r (encRDisk (⟨room, ⟨la, T.length, lc⟩, e, (decR e c)⟩ : RDisk)) 49 :: .row 82 3 la T.length lc (T.flatMap encRFile) :: RB 5 T :: Δ) (⟨0, none, 0, none, 0, none, 0⟩ : Lp _) ⟨Nat.zero_le _, rfl, List.nodup_nil⟩ ?_ ?_ ?_
    · exact .cons rfl (by first | rfl | exact inte (by omega) | (simp; done) | (simp <;> omega) | simp [*]) (.cons rfl (by first | rfl | exact inte (by omega) | (simp; done) | (simp <;> omega) | simp [*]) (.cons rfl (by first | rfl | exact inte (by omega) | (simp; done) | (simp <;> omega) | simp [*]) (.nil _)))
    · exact (by repeat (first | exact Ent.nil _ | exact Ent.refl _ | (refine Ent.pick (by repeat (first | exact Pick.here | apply Pick.there)) ?_) | refine Ent.skip ?_))
    intro x hx
    obtain ⟨hx1, hx2, hx3⟩ := hx
    refine c_seq ?_
    refine c_seq ?_
    refine c_region ?_
    refine l_step (s_q rfl wn (q_move rfl) ?_)
    refine l_step (s_q rfl wn (q_move rfl) ?_)
    refine l_step (s_q rfl wn (q_len Tryd.underlying41 rfl) ?_)
    refine l_step (s_q rfl wn (q_lss rfl rfl) ?_)
    refine l_nil ?_
    refine k_then_n ?_
    refine c_cond rfl (fun h1 => ?_) (fun h1 => ?_)
    · try simp only [Bool.and_eq_true, Bool.or_eq_true, Bool.not_eq_true', Bool.and_eq_false_iff, Bool.or_eq_false_iff, Bool.not_eq_false', decide_eq_true_eq, decide_eq_false_iff_not, Bool.not_eq_eq_eq_not, Bool.not_true, Bool.not_false, Bool.not_eq_true, Bool.not_eq_false, beq_iff_eq, bne_iff_ne, ne_eq, Decidable.not_not] at h1
      refine c_skip ?_
      refine k_then_n ?_
      refine c_seq ?_
      refine c_block ?_
      refine c_seq ?_
      refine c_seq ?_
      refine c_region ?_
      refine l_step (s_q rfl wn (q_move rfl) ?_)
      refine l_step (s_q rfl wn (q_move rfl) ?_)
      refine l_step (s_q rfl wn (q_move rfl) ?_)
      refine l_step (s_q rfl wn (q_indexe x.d Tryd.underlying41 sz_9 rfl rfl (by first | assumption | exact rd_ro (by assumption) | exact rd_row (by repeat (first | exact Pick.here | apply Pick.there))) (by decide) rfl (by first | assumption | omega | (simp only [List.length_cons, List.length_nil]; omega))) ?_)
      refine l_step (s_q rfl wn (q_loade (enc := Go.SL.encStr) (xs := names) (j := x.d) (off := 0) sc_9 rfl (by first | assumption | exact rd_ro (by assumption) | exact rd_row (by repeat (first | exact Pick.here | apply Pick.there))) (fun _ => rfl) (by first | assumption | omega | (simp only [List.length_cons, List.length_nil]; omega)) (by decide) rfl) ?_)
      refine l_step (s_fnb rfl wn Tryd.func62 rfl (by kernel_rfl) rfl (by repeat (first | exact Sel.nil | exact Pick.here | apply Sel.cons | apply Pick.there)) (fun ρ' hL => rfind_spec r room la lc e (decR e c) T (names.getD x.d default) ρ') ?_)
      rintro _ _ ⟨rfl, rfl⟩
      try simp only [List.cons_append, List.nil_append]
      refine l_step (s_q rfl wn (q_lss rfl rfl) ?_)
      refine l_nil ?_
      refine k_then_n ?_
      rw [rfi_neg]
      refine c_cond rfl (fun h2 => ?_) (fun h2 => ?_)
      · skip
        have hq : mhas (rvw T) (names.getD x.d default) = false := by simpa using h2
        refine c_seq ?_
        refine c_region ?_
        refine l_step (s_q rfl wn (q_assign rfl) ?_)
        refine l_nil ?_
        refine k_then_n ?_
        refine c_ret ?_
        refine k_then_r ?_
        refine k_blk_r ?_
        refine k_then_r ?_
        refine k_then_r ?_
        refine k_blk_r ?_
        refine k_then_r ?_
        have hr : (remR (cI e c) (rvw T) names) = (30, rvw T) := by unfold remR; rw [if_neg h0, if_pos (by rw [all_no (by omega) hq]; rfl)]
        exact t_ret [.pts r (encRDisk (⟨room, ⟨la, T.length, lc⟩, e, (decR e c)⟩ : RDisk)) 49, .row 82 3 la T.length lc (T.flatMap encRFile), RB 5 T] rfl (.tmp rfl .nil) rfl (Hp.le_refl _) ⟨rfl, la, lc, T, by rw [hr]; rfl, by rw [hr], rfl⟩ (by repeat (first | exact Ent.nil _ | exact Ent.refl _ | (refine Ent.pick (by repeat (first | exact Pick.here | apply Pick.there)) ?_) | refine Ent.skip ?_))
      · skip
        have hq : mhas (rvw T) (names.getD x.d default) = true := by simpa using h2
        refine c_skip ?_
        refine k_then_n ?_
        refine c_seq ?_
        refine c_region ?_
        refine l_step (s_q rfl wn (q_assign rfl) ?_)
        refine l_nil ?_
        refine k_then_n ?_
        refine c_block ?_
        refine Tr.env (σ' := [(0, _), (1, _), (5, _), (6, _), (10, _), (11, _), (12, _), (13, _), (16, _), (17, _), (18, _), (19, _), (20, _), (21, _), (22, _)]) (.cons rfl rfl (.cons rfl rfl (.cons rfl rfl (.cons rfl rfl (.cons rfl rfl (.cons rfl rfl (.cons rfl rfl (.cons rfl rfl (.cons rfl rfl (.cons rfl rfl (.cons rfl rfl (.cons rfl rfl (.cons rfl rfl (.cons rfl rfl (.cons rfl rfl (.nil _)))))))))))))))) ?_
        refine t_loop (ι := Lp (Nat)) (fun y => y.d ≤ x.d ∧ ∀ n ∈ names.take y.d, ¬ n = (names.getD x.d default)) (fun y => x.d - y.d) (fun y => [(0, .pointer (some ⟨r, 0, none⟩)), (1, .slice names_a names_n names_c), (5, .int .i64 (x.d : Int)), (6, .int .i64 (y.d : Int)), (10, .int .i64 (x.d : Int)), (11, .slice names_a names_n names_c), (12, .int .i64 (names_n : Int)), (13, .bool (decide ((x.d : Int) < (names_n : Int)))), (16, .pointer (some ⟨r, 0, none⟩)), (17, .slice names_a names_n names_c), (18, .int .i64 (x.d : Int)), (19, pe names_a x.d 1 0), (20, (strB (names.getD x.d default))), (21, .int .i64 (rfi T (names.getD x.d default))), (22, .bool (!mhas (rvw T) (names.getD x.d default)))]) (fun y => .pts r (encRDisk (⟨room, ⟨la, T.length, lc⟩, e, (decR e c)⟩ : RDisk)) 49 :: .row 82 3 la T.length lc (T.flatMap encRFile) :: RB 5 T :: Δ) (⟨0, none, 0, none, 0, none, 0⟩ : Lp _) ⟨Nat.zero_le _, fun n hn => by cases hn⟩ ?_ ?_ ?_
        · exact .cons rfl (by first | rfl | exact inte (by omega) | (simp; done) | (simp <;> omega) | simp [*]) (.cons rfl (by first | rfl | exact inte (by omega) | (simp; done) | (simp <;> omega) | simp [*]) (.cons rfl (by first | rfl | exact inte (by omega) | (simp; done) | (simp <;> omega) | simp [*]) (.cons rfl (by first | rfl | exact inte (by omega) | (simp; done) | (simp <;> omega) | simp [*]) (.cons rfl (by first | rfl | exact inte (by omega) | (simp; done) | (simp <;> omega) | simp [*]) (.cons rfl (by first | rfl | exact inte (by omega) | (simp; done) | (simp <;> omega) | simp [*]) (.cons rfl (by first | rfl | exact inte (by omega) | (simp; done) | (simp <;> omega) | simp [*]) (.cons rfl (by first | rfl | exact inte (by omega) | (simp; done) | (simp <;> omega) | simp [*]) (.cons rfl (by first | rfl | exact inte (by omega) | (simp; done) | (simp <;> omega) | simp [*]) (.cons rfl (by first | rfl | exact inte (by omega) | (simp; done) | (simp <;> omega) | simp [*]) (.cons rfl (by first | rfl | exact inte (by omega) | (simp; done) | (simp <;> omega) | simp [*]) (.cons rfl (by first | rfl | exact inte (by omega) | (simp; done) | (simp <;> omega) | simp [*]) (.cons rfl (by first | rfl | exact inte (by omega) | (simp; done) | (simp <;> omega) | simp [*]) (.cons rfl (by first | rfl | exact inte (by omega) | (simp; done) | (simp <;> omega) | simp [*]) (.cons rfl (by first | rfl | exact inte (by omega) | (simp; done) | (simp <;> omega) | simp [*]) (.nil _)))))))))))))))
        · exact (by repeat (first | exact Ent.nil _ | exact Ent.refl _ | (refine Ent.pick (by repeat (first | exact Pick.here | apply Pick.there)) ?_) | refine Ent.skip ?_))
        intro y hy
        obtain ⟨hy1, hy2⟩ := hy
        refine c_seq ?_
        refine c_seq ?_
        refine c_region ?_
        refine l_step (s_q rfl wn (q_move rfl) ?_)
        refine l_step (s_q rfl wn (q_move rfl) ?_)
        refine l_step (s_q rfl wn (q_lss rfl rfl) ?_)
        refine l_nil ?_
        refine k_then_n ?_
        refine c_cond rfl (fun h3 => ?_) (fun h3 => ?_)
        · try simp only [Bool.and_eq_true, Bool.or_eq_true, Bool.not_eq_true', Bool.and_eq_false_iff, Bool.or_eq_false_iff, Bool.not_eq_false', decide_eq_true_eq, decide_eq_false_iff_not, Bool.not_eq_eq_eq_not, Bool.not_true, Bool.not_false, Bool.not_eq_true, Bool.not_eq_false, beq_iff_eq, bne_iff_ne, ne_eq, Decidable.not_not] at h3
          refine c_skip ?_
          refine k_then_n ?_
          refine c_seq ?_
          refine c_block ?_
          refine c_seq ?_
          refine c_draw (m := 9) (bs := #[false, false, false, false, false, false, false, false, false]) [.pts r (encRDisk (⟨room, ⟨la, T.length, lc⟩, e, (decR e c)⟩ : RDisk)) 49, .row 82 3 la T.length lc (T.flatMap encRFile), RB 5 T] (by kernel_rfl) rfl (by kernel_rfl) ?_
          refine r_take (i := 0) (bs' := #[true, false, false, false, false, false, false, false, false]) rfl (by kernel_rfl) (by kernel_rfl) (by kernel_rfl) (fun _ _ _ h => h) rfl wn (q_move rfl) (Hp.le_refl _) (by repeat (first | exact Ent.nil _ | exact Ent.refl _ | (refine Ent.pick (by repeat (first | exact Pick.here | apply Pick.there)) ?_) | refine Ent.skip ?_)) (by kernel_rfl) ?_
          refine r_take (i := 1) (bs' := #[true, true, false, false, false, false, false, false, false]) rfl (by kernel_rfl) (by kernel_rfl) (by kernel_rfl) (fun _ _ _ h => h) rfl wn (q_move rfl) (Hp.le_refl _) (by repeat (first | exact Ent.nil _ | exact Ent.refl _ | (refine Ent.pick (by repeat (first | exact Pick.here | apply Pick.there)) ?_) | refine Ent.skip ?_)) (by kernel_rfl) ?_
          refine r_take (i := 2) (bs' := #[true, true, true, false, false, false, false, false, false]) rfl (by kernel_rfl) (by kernel_rfl) (by kernel_rfl) (fun _ _ _ h => h) rfl wn (q_indexe y.d Tryd.underlying41 sz_9 rfl rfl (by first | assumption | exact rd_ro (by assumption) | exact rd_row (by repeat (first | exact Pick.here | apply Pick.there))) (by decide) rfl (by first | assumption | omega | (simp only [List.length_cons, List.length_nil]; omega))) (Hp.le_refl _) (by repeat (first | exact Ent.nil _ | exact Ent.refl _ | (refine Ent.pick (by repeat (first | exact Pick.here | apply Pick.there)) ?_) | refine Ent.skip ?_)) (by kernel_rfl) ?_
          refine r_take (i := 3) (bs' := #[true, true, true, true, false, false, false, false, false]) rfl (by kernel_rfl) (by kernel_rfl) (by kernel_rfl) (fun _ _ _ h => h) rfl wn (q_loade (enc := Go.SL.encStr) (xs := names) (j := y.d) (off := 0) sc_9 rfl (by first | assumption | exact rd_ro (by assumption) | exact rd_row (by repeat (first | exact Pick.here | apply Pick.there))) (fun _ => rfl) (by first | assumption | omega | (simp only [List.length_cons, List.length_nil]; omega)) (by decide) rfl) (Hp.le_refl _) (by repeat (first | exact Ent.nil _ | exact Ent.refl _ | (refine Ent.pick (by repeat (first | exact Pick.here | apply Pick.there)) ?_) | refine Ent.skip ?_)) (by kernel_rfl) ?_
          refine r_take (i := 4) (bs' := #[true, true, true, true, true, false, false, false, false]) rfl (by kernel_rfl) (by kernel_rfl) (by kernel_rfl) (fun _ _ _ h => h) rfl wn (q_move rfl) (Hp.le_refl _) (by repeat (first | exact Ent.nil _ | exact Ent.refl _ | (refine Ent.pick (by repeat (first | exact Pick.here | apply Pick.there)) ?_) | refine Ent.skip ?_)) (by kernel_rfl) ?_
          refine r_take (i := 5) (bs' := #[true, true, true, true, true, true, false, false, false]) rfl (by kernel_rfl) (by kernel_rfl) (by kernel_rfl) (fun _ _ _ h => h) rfl wn (q_move rfl) (Hp.le_refl _) (by repeat (first | exact Ent.nil _ | exact Ent.refl _ | (refine Ent.pick (by repeat (first | exact Pick.here | apply Pick.there)) ?_) | refine Ent.skip ?_)) (by kernel_rfl) ?_
          refine r_take (i := 6) (bs' := #[true, true, true, true, true, true, true, false, false]) rfl (by kernel_rfl) (by kernel_rfl) (by kernel_rfl) (fun _ _ _ h => h) rfl wn (q_indexe x.d Tryd.underlying41 sz_9 rfl rfl (by first | assumption | exact rd_ro (by assumption) | exact rd_row (by repeat (first | exact Pick.here | apply Pick.there))) (by decide) rfl (by first | assumption | omega | (simp only [List.length_cons, List.length_nil]; omega))) (Hp.le_refl _) (by repeat (first | exact Ent.nil _ | exact Ent.refl _ | (refine Ent.pick (by repeat (first | exact Pick.here | apply Pick.there)) ?_) | refine Ent.skip ?_)) (by kernel_rfl) ?_
          refine r_take (i := 7) (bs' := #[true, true, true, true, true, true, true, true, false]) rfl (by kernel_rfl) (by kernel_rfl) (by kernel_rfl) (fun _ _ _ h => h) rfl wn (q_loade (enc := Go.SL.encStr) (xs := names) (j := x.d) (off := 0) sc_9 rfl (by first | assumption | exact rd_ro (by assumption) | exact rd_row (by repeat (first | exact Pick.here | apply Pick.there))) (fun _ => rfl) (by first | assumption | omega | (simp only [List.length_cons, List.length_nil]; omega)) (by decide) rfl) (Hp.le_refl _) (by repeat (first | exact Ent.nil _ | exact Ent.refl _ | (refine Ent.pick (by repeat (first | exact Pick.here | apply Pick.there)) ?_) | refine Ent.skip ?_)) (by kernel_rfl) ?_
          refine r_take (i := 8) (bs' := #[true, true, true, true, true, true, true, true, true]) rfl (by kernel_rfl) (by kernel_rfl) (by kernel_rfl) (fun _ _ _ h => h) rfl wn (q_eqlsB (p := (names.getD y.d default)) (q := (names.getD x.d default)) rfl rfl) (Hp.le_refl _) (by repeat (first | exact Ent.nil _ | exact Ent.refl _ | (refine Ent.pick (by repeat (first | exact Pick.here | apply Pick.there)) ?_) | refine Ent.skip ?_)) (by kernel_rfl) ?_
          refine r_done (by kernel_rfl) ?_
          refine k_then_n ?_
          refine c_cond rfl (fun h4 => ?_) (fun h4 => ?_)
          · try simp only [Bool.and_eq_true, Bool.or_eq_true, Bool.not_eq_true', Bool.and_eq_false_iff, Bool.or_eq_false_iff, Bool.not_eq_false', decide_eq_true_eq, decide_eq_false_iff_not, Bool.not_eq_eq_eq_not, Bool.not_true, Bool.not_false, Bool.not_eq_true, Bool.not_eq_false, beq_iff_eq, bne_iff_ne, ne_eq, Decidable.not_not] at h4
            refine c_seq ?_
            refine c_region ?_
            refine l_step (s_q rfl wn (q_assign rfl) ?_)
            refine l_nil ?_
            refine k_then_n ?_
            refine c_ret ?_
            refine k_blk_r ?_
            refine k_then_r ?_
            refine k_then_r ?_
            refine k_blk_r ?_
            refine k_blk_r ?_
            refine k_then_r ?_
            refine k_then_r ?_
            refine k_blk_r ?_
            refine k_then_r ?_
            have hr : (remR (cI e c) (rvw T) names) = (30, rvw T) := by unfold remR; rw [if_neg h0, if_pos (by rw [nodup_no (by omega) (by omega) h4]; simp)]
            exact t_ret [.pts r (encRDisk (⟨room, ⟨la, T.length, lc⟩, e, (decR e c)⟩ : RDisk)) 49, .row 82 3 la T.length lc (T.flatMap encRFile), RB 5 T] rfl (.tmp rfl .nil) rfl (Hp.le_refl _) ⟨rfl, la, lc, T, by rw [hr]; rfl, by rw [hr], rfl⟩ (by repeat (first | exact Ent.nil _ | exact Ent.refl _ | (refine Ent.pick (by repeat (first | exact Pick.here | apply Pick.there)) ?_) | refine Ent.skip ?_))
          · try simp only [Bool.and_eq_true, Bool.or_eq_true, Bool.not_eq_true', Bool.and_eq_false_iff, Bool.or_eq_false_iff, Bool.not_eq_false', decide_eq_true_eq, decide_eq_false_iff_not, Bool.not_eq_eq_eq_not, Bool.not_true, Bool.not_false, Bool.not_eq_true, Bool.not_eq_false, beq_iff_eq, bne_iff_ne, ne_eq, Decidable.not_not] at h4
            refine c_skip ?_
            refine k_blk_n ?_
            refine k_then_n ?_
            refine c_region ?_
            refine l_step (s_q rfl wn (q_move rfl) ?_)
            refine l_step (s_q rfl wn (q_add rfl rfl (by omega) (by omega)) ?_)
            refine l_step (s_q rfl wn (q_assign rfl) ?_)
            refine l_nil ?_
            refine k_then_n ?_
            exact t_next (⟨y.d + 1, none, 0, none, 0, none, 0⟩ : Lp _) ⟨⟨by simp only []; omega, fun n hn => by rw [take_succ_getD _ _ (by omega)] at hn; rcases List.mem_append.1 hn with h | h; exact hy2 n h; rw [List.mem_singleton.1 h]; exact h4⟩, by simp only []; omega⟩ (.cons rfl (by first | rfl | exact inte (by omega) | (simp; done) | (simp <;> omega) | simp [*]) (.cons rfl (by first | rfl | exact inte (by omega) | (simp; done) | (simp <;> omega) | simp [*]) (.cons rfl (by first | rfl | exact inte (by omega) | (simp; done) | (simp <;> omega) | simp [*]) (.cons rfl (by first | rfl | exact inte (by omega) | (simp; done) | (simp <;> omega) | simp [*]) (.cons rfl (by first | rfl | exact inte (by omega) | (simp; done) | (simp <;> omega) | simp [*]) (.cons rfl (by first | rfl | exact inte (by omega) | (simp; done) | (simp <;> omega) | simp [*]) (.cons rfl (by first | rfl | exact inte (by omega) | (simp; done) | (simp <;> omega) | simp [*]) (.cons rfl (by first | rfl | exact inte (by omega) | (simp; done) | (simp <;> omega) | simp [*]) (.cons rfl (by first | rfl | exact inte (by omega) | (simp; done) | (simp <;> omega) | simp [*]) (.cons rfl (by first | rfl | exact inte (by omega) | (simp; done) | (simp <;> omega) | simp [*]) (.cons rfl (by first | rfl | exact inte (by omega) | (simp; done) | (simp <;> omega) | simp [*]) (.cons rfl (by first | rfl | exact inte (by omega) | (simp; done) | (simp <;> omega) | simp [*]) (.cons rfl (by first | rfl | exact inte (by omega) | (simp; done) | (simp <;> omega) | simp [*]) (.cons rfl (by first | rfl | exact inte (by omega) | (simp; done) | (simp <;> omega) | simp [*]) (.cons rfl (by first | rfl | exact inte (by omega) | (simp; done) | (simp <;> omega) | simp [*]) (.nil _)))))))))))))))) (by repeat (first | exact Ent.nil _ | exact Ent.refl _ | (refine Ent.pick (by repeat (first | exact Pick.here | apply Pick.there)) ?_) | refine Ent.skip ?_))
        · try simp only [Bool.and_eq_true, Bool.or_eq_true, Bool.not_eq_true', Bool.and_eq_false_iff, Bool.or_eq_false_iff, Bool.not_eq_false', decide_eq_true_eq, decide_eq_false_iff_not, Bool.not_eq_eq_eq_not, Bool.not_true, Bool.not_false, Bool.not_eq_true, Bool.not_eq_false, beq_iff_eq, bne_iff_ne, ne_eq, Decidable.not_not] at h3
          have hky : y.d = x.d := by omega
          rw [hky] at hy2
          refine c_exit ?_
          refine k_then_x ?_
          refine k_then_x ?_
          refine k_blk_x ?_
          refine k_blk_n ?_
          refine k_then_n ?_
          refine c_region ?_
          refine l_step (s_q rfl wn (q_move rfl) ?_)
          refine l_step (s_q rfl wn (q_add rfl rfl (by omega) (by omega)) ?_)
          refine l_step (s_q rfl wn (q_assign rfl) ?_)
          refine l_nil ?_
          refine k_then_n ?_
          exact t_next (⟨x.d + 1, none, 0, none, 0, none, 0⟩ : Lp _) ⟨⟨by simp only []; omega, all_next (by omega) hx2 hq, nodup_next (by omega) hx3 hy2⟩, by simp only []; omega⟩ (.cons rfl (by first | rfl | exact inte (by omega) | (simp; done) | (simp <;> omega) | simp [*]) (.cons rfl (by first | rfl | exact inte (by omega) | (simp; done) | (simp <;> omega) | simp [*]) (.cons rfl (by first | rfl | exact inte (by omega) | (simp; done) | (simp <;> omega) | simp [*]) (.nil _)))) (by repeat (first | exact Ent.nil _ | exact Ent.refl _ | (refine Ent.pick (by repeat (first | exact Pick.here | apply Pick.there)) ?_) | refine Ent.skip ?_))
    · try simp only [Bool.and_eq_true, Bool.or_eq_true, Bool.not_eq_true', Bool.and_eq_false_iff, Bool.or_eq_false_iff, Bool.not_eq_false', decide_eq_true_eq, decide_eq_false_iff_not, Bool.not_eq_eq_eq_not, Bool.not_true, Bool.not_false, Bool.not_eq_true, Bool.not_eq_false, beq_iff_eq, bne_iff_ne, ne_eq, Decidable.not_not] at h1
      have hk : x.d = names.length := by omega
      rw [hk, List.take_length] at hx2 hx3
      refine c_exit ?_
      refine k_then_x ?_
      refine k_then_x ?_
      refine k_blk_x ?_
      refine k_then_n ?_
      refine c_seq ?_
      refine c_seq ?_
      refine c_region ?_
      refine l_step (s_q rfl wn (q_assign rfl) ?_)
      refine l_nil ?_
      refine k_then_n ?_
      refine c_block ?_
      refine Tr.env (σ' := [(0, _), (1, _), (7, _)]) (.cons rfl rfl (.cons rfl rfl (.cons rfl rfl (.nil _)))) ?_
      refine t_loop (ι := Lp (Nat × RT × Option Addr × Nat)) (fun z => z.d.1 ≤ names_n ∧ rvw z.d.2.1 = ((names.take z.d.1).foldl mdel (rvw T)) ∧ z.d.2.1.length ≤ T.length) (fun z => names_n - z.d.1) (fun z => [(0, .pointer (some ⟨r, 0, none⟩)), (1, .slice names_a names_n names_c), (7, .int .i64 (z.d.1 : Int))]) (fun z => .pts r (encRDisk (⟨room, ⟨z.d.2.2.1, z.d.2.1.length, z.d.2.2.2⟩, e, (decR e c)⟩ : RDisk)) 49 :: .row 82 3 z.d.2.2.1 z.d.2.1.length z.d.2.2.2 (z.d.2.1.flatMap encRFile) :: RB 5 z.d.2.1 :: Δ) (⟨(0, T, la, lc), none, 0, none, 0, none, 0⟩ : Lp _) ⟨Nat.zero_le _, rfl, Nat.le_refl _⟩ ?_ ?_ ?_
      · exact .cons rfl (by first | rfl | exact inte (by omega) | (simp; done) | (simp <;> omega) | simp [*]) (.cons rfl (by first | rfl | exact inte (by omega) | (simp; done) | (simp <;> omega) | simp [*]) (.cons rfl (by first | rfl | exact inte (by omega) | (simp; done) | (simp <;> omega) | simp [*]) (.nil _)))
      · exact (by repeat (first | exact Ent.nil _ | exact Ent.refl _ | (refine Ent.pick (by repeat (first | exact Pick.here | apply Pick.there)) ?_) | refine Ent.skip ?_))
      intro z hz
      obtain ⟨hz1, hz2, hz3⟩ := hz
      refine c_seq ?_
      refine c_seq ?_
      refine c_region ?_
      refine l_step (s_q rfl wn (q_move rfl) ?_)
      refine l_step (s_q rfl wn (q_move rfl) ?_)
      refine l_step (s_q rfl wn (q_len Tryd.underlying41 rfl) ?_)
      refine l_step (s_q rfl wn (q_lss rfl rfl) ?_)
      refine l_nil ?_
      refine k_then_n ?_
      refine c_cond rfl (fun h5 => ?_) (fun h5 => ?_)
      · try simp only [Bool.and_eq_true, Bool.or_eq_true, Bool.not_eq_true', Bool.and_eq_false_iff, Bool.or_eq_false_iff, Bool.not_eq_false', decide_eq_true_eq, decide_eq_false_iff_not, Bool.not_eq_eq_eq_not, Bool.not_true, Bool.not_false, Bool.not_eq_true, Bool.not_eq_false, beq_iff_eq, bne_iff_ne, ne_eq, Decidable.not_not] at h5
        refine c_skip ?_
        refine k_then_n ?_
        refine c_seq ?_
        refine c_block ?_
        refine c_region ?_
        have hndz : (z.d.2.1.map (·.Name)).Nodup := by rw [← rvw_keys, hz2]; exact fold_del_nd _ hT.nd
        have hqz : mhas (rvw z.d.2.1) (names.getD z.d.1 default) = true := by rw [hz2]; exact fold_del_has hT.nd hx3 hx2 (by omega)
        obtain ⟨i, hi, hfi, hin⟩ := rfi_at hqz
        refine l_step (s_q rfl wn (q_move rfl) ?_)
        refine l_step (s_q rfl wn (q_move rfl) ?_)
        refine l_step (s_q rfl wn (q_move rfl) ?_)
        refine l_step (s_q rfl wn (q_move rfl) ?_)
        refine l_step (s_q rfl wn (q_indexe z.d.1 Tryd.underlying41 sz_9 rfl rfl (by first | assumption | exact rd_ro (by assumption) | exact rd_row (by repeat (first | exact Pick.here | apply Pick.there))) (by decide) rfl (by first | assumption | omega | (simp only [List.length_cons, List.length_nil]; omega))) ?_)
        refine l_step (s_q rfl wn (q_loade (enc := Go.SL.encStr) (xs := names) (j := z.d.1) (off := 0) sc_9 rfl (by first | assumption | exact rd_ro (by assumption) | exact rd_row (by repeat (first | exact Pick.here | apply Pick.there))) (fun _ => rfl) (by first | assumption | omega | (simp only [List.length_cons, List.length_nil]; omega)) (by decide) rfl) ?_)
        refine l_step (s_fnb rfl wn Tryd.func62 rfl (by kernel_rfl) rfl (by repeat (first | exact Sel.nil | exact Pick.here | apply Sel.cons | apply Pick.there)) (fun ρ' hL => rfind_spec r room z.d.2.2.1 z.d.2.2.2 e (decR e c) z.d.2.1 (names.getD z.d.1 default) ρ') ?_)
        rintro _ _ ⟨rfl, rfl⟩
        try simp only [List.cons_append, List.nil_append]
        rw [hfi]
        refine l_step (s_fnb rfl wn Tryd.func64 rfl (by kernel_rfl) rfl (by repeat (first | exact Sel.nil | exact Pick.here | apply Sel.cons | apply Pick.there)) (fun ρ' hL => rtake_spec r room z.d.2.2.1 z.d.2.2.2 e (decR e c) z.d.2.1 i ρ' hi (by first | omega | (simp only [List.length_eraseIdx]; (try split) <;> omega))) ?_)
        rintro _ _ ⟨aT3, cT3, rfl, rfl⟩
        try simp only [List.cons_append, List.nil_append]
        refine l_nil ?_
        refine k_blk_n ?_
        refine k_then_n ?_
        refine c_region ?_
        refine l_step (s_q rfl wn (q_move rfl) ?_)
        refine l_step (s_q rfl wn (q_add rfl rfl (by omega) (by omega)) ?_)
        refine l_step (s_q rfl wn (q_assign rfl) ?_)
        refine l_nil ?_
        refine k_then_n ?_
        have hv9 : rvw (z.d.2.1.eraseIdx i) = ((names.take (z.d.1 + 1)).foldl mdel (rvw T)) := by rw [foldl_take _ _ _ _ (by omega), ← hz2, rdel hndz hi, hin]
        exact t_next (⟨(z.d.1 + 1, (z.d.2.1.eraseIdx i), aT3, cT3), none, 0, none, 0, none, 0⟩ : Lp _) ⟨⟨by simp only []; omega, hv9, by show (z.d.2.1.eraseIdx i).length ≤ T.length; rw [List.length_eraseIdx, if_pos hi]; omega⟩, by simp only []; omega⟩ (.cons rfl (by first | rfl | exact inte (by omega) | (simp; done) | (simp <;> omega) | simp [*]) (.cons rfl (by first | rfl | exact inte (by omega) | (simp; done) | (simp <;> omega) | simp [*]) (.cons rfl (by first | rfl | exact inte (by omega) | (simp; done) | (simp <;> omega) | simp [*]) (.nil _)))) (by repeat (first | exact Ent.nil _ | exact Ent.refl _ | (refine Ent.pick (by repeat (first | exact Pick.here | apply Pick.there)) ?_) | refine Ent.skip ?_))
      · try simp only [Bool.and_eq_true, Bool.or_eq_true, Bool.not_eq_true', Bool.and_eq_false_iff, Bool.or_eq_false_iff, Bool.not_eq_false', decide_eq_true_eq, decide_eq_false_iff_not, Bool.not_eq_eq_eq_not, Bool.not_true, Bool.not_false, Bool.not_eq_true, Bool.not_eq_false, beq_iff_eq, bne_iff_ne, ne_eq, Decidable.not_not] at h5
        have hkz : z.d.1 = names.length := by omega
        rw [hkz, List.take_length] at hz2
        refine c_exit ?_
        refine k_then_x ?_
        refine k_then_x ?_
        refine k_blk_x ?_
        refine k_then_n ?_
        refine c_seq ?_
        refine c_region ?_
        refine l_step (s_q rfl wn (q_assign rfl) ?_)
        refine l_nil ?_
        refine k_then_n ?_
        refine c_ret ?_
        have hr : (remR (cI e c) (rvw T) names) = (0, rvw z.d.2.1) := by unfold remR; rw [if_neg h0, if_neg (by rw [hx2, show onceB names = true from decide_eq_true hx3]; decide), hz2]
        exact t_ret [.pts r (encRDisk (⟨room, ⟨z.d.2.2.1, z.d.2.1.length, z.d.2.2.2⟩, e, (decR e c)⟩ : RDisk)) 49, .row 82 3 z.d.2.2.1 z.d.2.1.length z.d.2.2.2 (z.d.2.1.flatMap encRFile), RB 5 z.d.2.1] rfl (.tmp rfl .nil) rfl (Hp.le_refl _) ⟨rfl, z.d.2.2.1, z.d.2.2.2, z.d.2.1, by rw [hr]; rfl, by rw [hr], rfl⟩ (by repeat (first | exact Ent.nil _ | exact Ent.refl _ | (refine Ent.pick (by repeat (first | exact Pick.here | apply Pick.there)) ?_) | refine Ent.skip ?_))
end Go.Dsk.RD

/-
  Package disk, walked.
-/
set_option maxRecDepth 100000
set_option maxHeartbeats 4000000
set_option linter.unusedSimpArgs false
set_option linter.unusedVariables false
namespace Go.Dsk.RE
open Go Go.SL Go.Proofs Go.Dsk Go.Dsk.L Go.Dsk.RA Go.Dsk.RB Go.Dsk.RC Go.Dsk.RD
attribute [local irreducible] Go.SL.Ent
theorem eo_5 : elemOk Tryd.prog 5 1 1 = true := by kernel_rfl
theorem fo_49_1 : fieldOff Tryd.prog 49 1 = some (1, 47) := by kernel_rfl
theorem fo_82_1 : fieldOff Tryd.prog 82 1 = some (1, 32) := by kernel_rfl
theorem pl_82 : placesOf Tryd.prog 82 = some [(0, 1), (1, 1), (2, 1)] := by kernel_rfl
theorem sc_32 : isScalar Tryd.prog 32 = true := by kernel_rfl
theorem sc_47 : isScalar Tryd.prog 47 = true := by kernel_rfl
theorem sz_32 : sizeIs Tryd.prog 32 = some 1 := by kernel_rfl
theorem sz_82 : sizeIs Tryd.prog 82 = some 3 := by kernel_rfl
theorem zc_82 : zeroCs Tryd.prog 82 = some [.string ⟨#[]⟩, .slice none 0 0, .int .i64 0] := by kernel_rfl

theorem rappend_spec (r : Nat) (room : Int) (la : Option Addr) (lc : Nat) (e : Bool) (c : Int) (T : RT) (s : (List UInt8)) (bs_a : Option Addr) (bs_n bs_c : Nat) (bs : List (SL UInt8)) (hbs_n : bs.length = bs_n) (ρ : Hp) (hT : VOk (rvw T)) (hc : e = true → 0 ≤ c) (hc2 : c ≤ 9223372036854775807) (hU : (usedR T : Int) ≤ room) (hr9 : room ≤ 9223372036854775807) (hn : s.length ≤ 9223372036854775807) (hbn : bs_n ≤ 1000000) (hbl : usedR T + (catS bs).length ≤ 1000000000000) (hro : Ro ρ 1 bs_a bs_n bs_c (bs.flatMap encSL)) (hbm : ∀ s ∈ bs, s.ro encB 1 ρ) : Spec0 Tryd.prog 39 #[.pointer (some ⟨r, 0, none⟩), (strB s), .slice bs_a bs_n bs_c] ρ [.pts r (encRDisk (⟨room, ⟨la, T.length, lc⟩, e, c⟩ : RDisk)) 49, .row 82 3 la T.length lc (T.flatMap encRFile), RB 5 T] (fun v Γ' => ∃ a1 c1 T', v = .int .i64 (appI room (cI e c) (rvw T) s (catS bs)).1 ∧ rvw T' = (appI room (cI e c) (rvw T) s (catS bs)).2 ∧ Γ' = [.pts r (encRDisk (⟨room, ⟨a1, T'.length, c1⟩, e, (decR e c)⟩ : RDisk)) 49, .row 82 3 a1 T'.length c1 (T'.flatMap encRFile), RB 5 T']) := by
  refine spec_of (n := 83) (vs := [_, _, _]) (σ := [(0, _), (1, _), (2, _)]) Tryd.func39 rfl rfl rfl rfl fun E Δ => ?_
  simp only [List.cons_append, List.nil_append]
  have hln := rat_ln hT
  have hus := rat_us hT
  have hnd := rnd hT
  refine c_seq ?_
  refine c_region ?_
  refine l_step (s_q rfl wn (q_assign rfl) ?_)
  refine l_nil ?_
  refine k_then_n ?_
  refine c_seq ?_
  refine c_seq ?_
  refine c_region ?_
  refine l_step (s_q rfl wn (q_move rfl) ?_)
  refine l_step (s_fnb rfl wn Tryd.func61 rfl (by kernel_rfl) rfl (by repeat (first | exact Sel.nil | exact Pick.here | apply Sel.cons | apply Pick.there)) (fun ρ' hL => rstopped_spec r room la lc e c T ρ' (by assumption) (by assumption)) ?_)
  rintro _ _ ⟨rfl, rfl⟩
  try simp only [List.cons_append, List.nil_append]
  refine l_nil ?_
  refine k_then_n ?_
  refine c_cond rfl (fun h0 => ?_) (fun h0 => ?_)
  · try simp only [Bool.and_eq_true, Bool.or_eq_true, Bool.not_eq_true', Bool.and_eq_false_iff, Bool.or_eq_false_iff, Bool.not_eq_false', decide_eq_true_eq, decide_eq_false_iff_not, Bool.not_eq_eq_eq_not, Bool.not_true, Bool.not_false, Bool.not_eq_true, Bool.not_eq_false, beq_iff_eq, bne_iff_ne, ne_eq, Decidable.not_not] at h0
    refine c_seq ?_
    refine c_region ?_
    refine l_step (s_q rfl wn (q_assign rfl) ?_)
    refine l_nil ?_
    refine k_then_n ?_
    refine c_ret ?_
    refine k_then_r ?_
    have hr : (appI room (cI e c) (rvw T) s (catS bs)) = (32, rvw T) := if_pos h0
    exact t_ret [.pts r (encRDisk (⟨room, ⟨la, T.length, lc⟩, e, (decR e c)⟩ : RDisk)) 49, .row 82 3 la T.length lc (T.flatMap encRFile), RB 5 T] rfl (.tmp rfl .nil) rfl (Hp.le_refl _) ⟨rfl, la, lc, T, by rw [hr]; rfl, by rw [hr], rfl⟩ (by repeat (first | exact Ent.nil _ | exact Ent.refl _ | (refine Ent.pick (by repeat (first | exact Pick.here | apply Pick.there)) ?_) | refine Ent.skip ?_))
  · try simp only [Bool.and_eq_true, Bool.or_eq_true, Bool.not_eq_true', Bool.and_eq_false_iff, Bool.or_eq_false_iff, Bool.not_eq_false', decide_eq_true_eq, decide_eq_false_iff_not, Bool.not_eq_eq_eq_not, Bool.not_true, Bool.not_false, Bool.not_eq_true, Bool.not_eq_false, beq_iff_eq, bne_iff_ne, ne_eq, Decidable.not_not] at h0
    refine c_skip ?_
    refine k_then_n ?_
    refine c_seq ?_
    refine c_region ?_
    refine l_step (s_q rfl wn (q_assign rfl) ?_)
    refine l_nil ?_
    refine k_then_n ?_
    refine c_seq ?_
    refine c_seq ?_
    refine c_region ?_
    refine l_step (s_q rfl wn (q_assign rfl) ?_)
    refine l_nil ?_
    refine k_then_n ?_
    refine c_block ?_
    refine Tr.env (σ' := [(0, _), (1, _), (2, _), (6, _), (7, _), (8, _)]) (.cons rfl rfl (.cons rfl rfl (.cons rfl rfl (.cons rfl rfl (.cons rfl rfl (.cons rfl rfl (.nil _))))))) ?_
    refine t_loop (ι := Lp (Nat)) (fun x => x.d ≤ bs_n) (fun x => bs_n - x.d) (fun x => [(0, .pointer (some ⟨r, 0, none⟩)), (1, (strB s)), (2, .slice bs_a bs_n bs_c), (6, .int .i64 0), (7, .int .i64 ((catS (bs.take x.d)).length : Int)), (8, .int .i64 (x.d : Int))]) (fun x => .pts r (encRDisk (⟨room, ⟨la, T.length, lc⟩, e, (decR e c)⟩ : RDisk)) 49 :: .row 82 3 la T.length lc (T.flatMap encRFile) :: RB 5 T :: Δ) (⟨0, none, 0, none, 0, none, 0⟩ : Lp _) (Nat.zero_le _) ?_ ?_ ?_
    · exact .cons rfl (by first | rfl | exact inte (by omega) | (simp; done) | (simp <;> omega) | simp [*]) (.cons rfl (by first | rfl | exact inte (by omega) | (simp; done) | (simp <;> omega) | simp [*]) (.cons rfl (by first | rfl | exact inte (by omega) | (simp; done) | (simp <;> omega) | simp [*]) (.cons rfl (by first | rfl | exact inte (by omega) | (simp; done) | (simp <;> omega) | simp [*]) (.cons rfl (by first | rfl | exact inte (by omega) | (simp; done) | (simp <;> omega) | simp [*]) (.cons rfl (by first | rfl | exact inte (by omega) | (simp; done) | (simp <;> omega) | simp [*]) (.nil _))))))
    · exact (by repeat (first | exact Ent.nil _ | exact Ent.refl _ | (refine Ent.pick (by repeat (first | exact Pick.here | apply Pick.there)) ?_) | refine Ent.skip ?_))
    intro x hx
    have hct := catS_take bs x.d
    have hct1 := catS_take bs (x.d + 1)
    refine c_seq ?_
    refine c_seq ?_
    refine c_region ?_
    refine l_step (s_q rfl wn (q_move rfl) ?_)
    refine l_step (s_q rfl wn (q_move rfl) ?_)
    refine l_step (s_q rfl wn (q_len Tryd.underlying26 rfl) ?_)
    refine l_step (s_q rfl wn (q_lss rfl rfl) ?_)
    refine l_nil ?_
    refine k_then_n ?_
    refine c_cond rfl (fun h1 => ?_) (fun h1 => ?_)
    · try simp only [Bool.and_eq_true, Bool.or_eq_true, Bool.not_eq_true', Bool.and_eq_false_iff, Bool.or_eq_false_iff, Bool.not_eq_false', decide_eq_true_eq, decide_eq_false_iff_not, Bool.not_eq_eq_eq_not, Bool.not_true, Bool.not_false, Bool.not_eq_true, Bool.not_eq_false, beq_iff_eq, bne_iff_ne, ne_eq, Decidable.not_not] at h1
      have hct2 : (catS (bs.take (x.d + 1))).length = (catS (bs.take x.d)).length + (bs.getD x.d default).xs.length := by rw [take_succ_getD _ _ (by omega), catS_snoc, List.length_append]
      refine c_skip ?_
      refine k_then_n ?_
      refine c_seq ?_
      refine c_block ?_
      refine c_region ?_
      refine l_step (s_q rfl wn (q_move rfl) ?_)
      refine l_step (s_q rfl wn (q_move rfl) ?_)
      refine l_step (s_q rfl wn (q_move rfl) ?_)
      refine l_step (s_q rfl wn (q_indexe x.d Tryd.underlying26 sz_32 rfl rfl (by first | assumption | exact rd_ro (by assumption) | exact rd_row (by repeat (first | exact Pick.here | apply Pick.there))) (by decide) rfl (by first | assumption | omega | (simp only [List.length_cons, List.length_nil]; omega))) ?_)
      refine l_step (s_q rfl wn (q_loade (enc := encSL) (xs := bs) (j := x.d) (off := 0) sc_32 rfl (by first | assumption | exact rd_ro (by assumption) | exact rd_row (by repeat (first | exact Pick.here | apply Pick.there))) (fun _ => rfl) (by first | assumption | omega | (simp only [List.length_cons, List.length_nil]; omega)) (by decide) rfl) ?_)
      refine l_step (s_q rfl wn (q_len Tryd.underlying32 rfl) ?_)
      refine l_step (s_q rfl wn (q_add rfl rfl (by omega) (by omega)) ?_)
      refine l_step (s_q rfl wn (q_assign rfl) ?_)
      refine l_nil ?_
      refine k_blk_n ?_
      refine k_then_n ?_
      refine c_region ?_
      refine l_step (s_q rfl wn (q_move rfl) ?_)
      refine l_step (s_q rfl wn (q_add rfl rfl (by omega) (by omega)) ?_)
      refine l_step (s_q rfl wn (q_assign rfl) ?_)
      refine l_nil ?_
      refine k_then_n ?_
      exact t_next (⟨x.d + 1, none, 0, none, 0, none, 0⟩ : Lp _) ⟨by simp only []; omega, by simp only []; omega⟩ (.cons rfl (by first | rfl | exact inte (by omega) | (simp; done) | (simp <;> omega) | simp [*]) (.cons rfl (by first | rfl | exact inte (by omega) | (simp; done) | (simp <;> omega) | simp [*]) (.cons rfl (by first | rfl | exact inte (by omega) | (simp; done) | (simp <;> omega) | simp [*]) (.cons rfl (by first | rfl | exact inte (by omega) | (simp; done) | (simp <;> omega) | simp [*]) (.cons rfl (inte (by rw [take_succ_getD _ _ (by omega), catS_snoc, List.length_append]; omega)) (.cons rfl (by first | rfl | exact inte (by omega) | (simp; done) | (simp <;> omega) | simp [*]) (.nil _))))))) (by repeat (first | exact Ent.nil _ | exact Ent.refl _ | (refine Ent.pick (by repeat (first | exact Pick.here | apply Pick.there)) ?_) | refine Ent.skip ?_))
    · try simp only [Bool.and_eq_true, Bool.or_eq_true, Bool.not_eq_true', Bool.and_eq_false_iff, Bool.or_eq_false_iff, Bool.not_eq_false', decide_eq_true_eq, decide_eq_false_iff_not, Bool.not_eq_eq_eq_not, Bool.not_true, Bool.not_false, Bool.not_eq_true, Bool.not_eq_false, beq_iff_eq, bne_iff_ne, ne_eq, Decidable.not_not] at h1
      have hk : x.d = bs.length := by omega
      rw [hk, List.take_length]
      refine c_exit ?_
      refine k_then_x ?_
      refine k_then_x ?_
      refine k_blk_x ?_
      refine k_then_n ?_
      refine c_seq ?_
      refine c_region ?_
      refine l_step (s_q rfl wn (q_move rfl) ?_)
      refine l_step (s_q rfl wn (q_move rfl) ?_)
      refine l_step (s_fnb rfl wn Tryd.func62 rfl (by kernel_rfl) rfl (by repeat (first | exact Sel.nil | exact Pick.here | apply Sel.cons | apply Pick.there)) (fun ρ' hL => rfind_spec r room la lc e (decR e c) T s ρ') ?_)
      rintro _ _ ⟨rfl, rfl⟩
      try simp only [List.cons_append, List.nil_append]
      refine l_step (s_q rfl wn (q_assign rfl) ?_)
      refine l_nil ?_
      refine k_then_n ?_
      refine c_seq ?_
      refine c_seq ?_
      refine c_region ?_
      refine l_step (s_q rfl wn (q_move rfl) ?_)
      refine l_step (s_fnq rfl wn Tryd.func10 rfl (by kernel_rfl) rfl (fun ρ' hL => C.rname_spec s ρ' hn) ?_)
      refine l_step (s_q rfl wn (q_not rfl) ?_)
      refine l_nil ?_
      refine k_then_n ?_
      refine c_cond rfl (fun h2 => ?_) (fun h2 => ?_)
      · skip
        have hnb : nameB s = false := by simpa using h2
        refine c_seq ?_
        refine c_region ?_
        refine l_step (s_q rfl wn (q_assign rfl) ?_)
        refine l_nil ?_
        refine k_then_n ?_
        refine c_ret ?_
        refine k_then_r ?_
        have hr : (appI room (cI e c) (rvw T) s (catS bs)) = (30, rvw T) := by unfold appI; rw [if_neg h0, if_pos hnb]
        exact t_ret [.pts r (encRDisk (⟨room, ⟨la, T.length, lc⟩, e, (decR e c)⟩ : RDisk)) 49, .row 82 3 la T.length lc (T.flatMap encRFile), RB 5 T] rfl (.tmp rfl .nil) rfl (Hp.le_refl _) ⟨rfl, la, lc, T, by rw [hr]; rfl, by rw [hr], rfl⟩ (by repeat (first | exact Ent.nil _ | exact Ent.refl _ | (refine Ent.pick (by repeat (first | exact Pick.here | apply Pick.there)) ?_) | refine Ent.skip ?_))
      · skip
        have hnb : nameB s = true := by simpa using h2
        refine c_skip ?_
        refine k_then_n ?_
        refine c_seq ?_
        refine c_seq ?_
        refine c_region ?_
        refine l_step (s_q rfl wn (q_move rfl) ?_)
        refine l_step (s_q rfl wn (q_move rfl) ?_)
        refine l_step (s_fnr rfl wn Tryd.func46 rfl (by kernel_rfl) rfl (by repeat (first | exact Sel.nil | exact Pick.here | apply Sel.cons | apply Pick.there)) (fun ρ' hL => rfree_spec r room la lc e (decR e c) T ρ' hU hr9) ?_)
        refine l_step (s_q rfl wn (q_gtr rfl rfl) ?_)
        refine l_step (s_q rfl wn (q_move rfl) ?_)
        refine l_step (s_qg rfl (ask_f rfl rfl) (b := (!(decide ((room - (usedR T : Int)) < ((catS bs).length : Int))))) (fun hb => q_move rfl) ?_)
        refine l_step (s_qg rfl (ask_f rfl rfl) (b := (!(decide ((room - (usedR T : Int)) < ((catS bs).length : Int))))) (fun hb => OpQ.env (.cons rfl (gd_t hb) (.nil _) : EnvLe [(37, .int .i64 (rfi T s))] _) (q_lss rfl rfl)) ?_)
        refine l_step (s_qg rfl (ask_f rfl rfl) (b := (!(decide ((room - (usedR T : Int)) < ((catS bs).length : Int))))) (fun hb => OpQ.env (.cons rfl (gd_t hb) (.nil _) : EnvLe [(38, .bool (decide ((rfi T s) < 0)))] _) (q_move rfl)) ?_)
        refine l_step (s_qg rfl (ask_gt rfl rfl) (b := ((!(decide ((room - (usedR T : Int)) < ((catS bs).length : Int)))) && (decide ((rfi T s) < 0)))) (fun hb => q_move rfl) ?_)
        refine l_step (s_qg rfl (ask_gt rfl rfl) (b := ((!(decide ((room - (usedR T : Int)) < ((catS bs).length : Int)))) && (decide ((rfi T s) < 0)))) (fun hb => OpQ.env (.cons rfl (gd_t hb) (.nil _) : EnvLe [(40, .pointer (some ⟨r, 0, none⟩))] _) (q_nilCheck rfl)) ?_)
        refine l_step (s_qg rfl (ask_gt rfl rfl) (b := ((!(decide ((room - (usedR T : Int)) < ((catS bs).length : Int)))) && (decide ((rfi T s) < 0)))) (fun hb => OpQ.env (.cons rfl (gd_t hb) (.nil _) : EnvLe [(41, .pointer (some ⟨r, 0, none⟩))] _) (q_fieldp rfl fo_49_1)) ?_)
        refine l_step (s_qg rfl (ask_gt rfl rfl) (b := ((!(decide ((room - (usedR T : Int)) < ((catS bs).length : Int)))) && (decide ((rfi T s) < 0)))) (fun hb => OpQ.env (.cons rfl (gd_t hb) (.nil _) : EnvLe [(42, .pointer (some ⟨r, 1, none⟩))] _) (q_loadp (v := .slice la T.length lc) sc_47 rfl (by repeat (first | exact Pick.here | apply Pick.there)) rfl)) ?_)
        refine l_step (s_qg rfl (ask_gt rfl rfl) (b := ((!(decide ((room - (usedR T : Int)) < ((catS bs).length : Int)))) && (decide ((rfi T s) < 0)))) (fun hb => OpQ.env (.cons rfl (gd_t hb) (.nil _) : EnvLe [(43, .slice la T.length lc)] _) (q_len Tryd.underlying47 rfl)) ?_)
        refine l_step (s_qg rfl (ask_gt rfl rfl) (b := ((!(decide ((room - (usedR T : Int)) < ((catS bs).length : Int)))) && (decide ((rfi T s) < 0)))) (fun hb => OpQ.env (.cons rfl (gd_t hb) (.nil _) : EnvLe [(44, .int .i64 (T.length : Int))] _) (q_geq rfl rfl)) ?_)
        refine l_step (s_qg rfl (ask_f rfl rfl) (b := (!(decide ((room - (usedR T : Int)) < ((catS bs).length : Int))))) (fun hb => OpQ.env (.cons rfl (gd_t hb) (.cons rfl rfl (.nil _)) : EnvLe [(39, .bool (decide ((rfi T s) < 0))), (45, gd ((!(decide ((room - (usedR T : Int)) < ((catS bs).length : Int)))) && (decide ((rfi T s) < 0))) (.bool (decide (4096 ≤ (T.length : Int)))))] _) (q_pick_and rfl rfl rfl (fun h => by simp_all))) ?_)
        refine l_step (s_q rfl wn (q_pick_or rfl rfl rfl (fun h => by first | (rw [h]; rfl) | exact congrArg not h)) ?_)
        refine l_nil ?_
        refine k_then_n ?_
        rw [rfi_neg]
        refine c_cond rfl (fun h3 => ?_) (fun h3 => ?_)
        · skip
          refine c_seq ?_
          refine c_region ?_
          refine l_step (s_q rfl wn (q_assign rfl) ?_)
          refine l_nil ?_
          refine k_then_n ?_
          refine c_ret ?_
          refine k_then_r ?_
          have hr : (appI room (cI e c) (rvw T) s (catS bs)) = (31, rvw T) := by unfold appI; rw [if_neg h0, if_neg (by rw [hnb]; decide), if_pos (by rw [usedR_vw, rvw_len]; exact h3)]
          exact t_ret [.pts r (encRDisk (⟨room, ⟨la, T.length, lc⟩, e, (decR e c)⟩ : RDisk)) 49, .row 82 3 la T.length lc (T.flatMap encRFile), RB 5 T] rfl (.tmp rfl .nil) rfl (Hp.le_refl _) ⟨rfl, la, lc, T, by rw [hr]; rfl, by rw [hr], rfl⟩ (by repeat (first | exact Ent.nil _ | exact Ent.refl _ | (refine Ent.pick (by repeat (first | exact Pick.here | apply Pick.there)) ?_) | refine Ent.skip ?_))
        · skip
          refine c_skip ?_
          refine k_then_n ?_
          refine c_seq ?_
          refine c_seq ?_
          refine c_region ?_
          refine l_step (s_q rfl wn (q_move rfl) ?_)
          refine l_step (s_q rfl wn (q_lss rfl rfl) ?_)
          refine l_nil ?_
          refine k_then_n ?_
          rw [rfi_neg]
          refine c_cond rfl (fun h4 => ?_) (fun h4 => ?_)
          · skip
            have hq : mhas (rvw T) s = false := by simpa using h4
            refine c_seq ?_
            refine c_region ?_
            refine l_step (s_q rfl wn (q_move rfl) ?_)
            refine l_step (s_q rfl wn (q_move rfl) ?_)
            refine l_step (s_q rfl wn (q_build (cs := encRFile (⟨s, ⟨none, [], 0⟩, 0⟩ : RFile)) zc_82 pl_82 rfl rfl) ?_)
            refine Tr.ent (Ent.nilrow 5 1 _) ?_
            refine l_step (s_fnb rfl wn Tryd.func63 rfl (by kernel_rfl) rfl (by repeat (first | exact Sel.nil | exact Pick.here | apply Sel.cons | apply Pick.there)) (fun ρ' hL => radd_spec r room la lc e (decR e c) T (⟨s, ⟨none, [], 0⟩, 0⟩ : RFile) ρ' (by omega)) ?_)
            rintro _ _ ⟨kA, aA, cA, hkA, hkB, hkC, rfl, rfl⟩
            try simp only [List.cons_append, List.nil_append]
            refine l_nil ?_
            refine k_then_n ?_
            refine c_region ?_
            have hv1 : rvw (T.take kA ++ (⟨s, ⟨none, [], 0⟩, 0⟩ : RFile) :: T.drop kA) = insV (rvw T) (s, ([], 0)) := rin_vw (f := (⟨s, ⟨none, [], 0⟩, 0⟩ : RFile)) ⟨kA, hkA, hkB, hkC, rfl⟩
            have hnd1 : ((T.take kA ++ (⟨s, ⟨none, [], 0⟩, 0⟩ : RFile) :: T.drop kA).map (·.Name)).Nodup := by rw [← rvw_keys, hv1]; exact insV_nd hT.nd (no_mem hq)
            have hq1 : mhas (rvw (T.take kA ++ (⟨s, ⟨none, [], 0⟩, 0⟩ : RFile) :: T.drop kA)) s = true := by rw [hv1]; unfold mhas; rw [insV_get _ (no_mem hq), if_pos rfl]; rfl
            obtain ⟨i, hi, hfi, hin⟩ := rfi_at hq1
            have hg := rget hnd1 hi
            rw [hin, hv1, insV_get _ (no_mem hq), if_pos rfl] at hg
            have hb0 : ((T.take kA ++ (⟨s, ⟨none, [], 0⟩, 0⟩ : RFile) :: T.drop kA).getD i default).B.xs = [] := congrArg Prod.fst (Option.some.inj hg).symm
            have hs0 : ((T.take kA ++ (⟨s, ⟨none, [], 0⟩, 0⟩ : RFile) :: T.drop kA).getD i default).Safe = 0 := congrArg Prod.snd (Option.some.inj hg).symm
            have hlt1 : (T.take kA ++ (⟨s, ⟨none, [], 0⟩, 0⟩ : RFile) :: T.drop kA).length = T.length + 1 := by simp; omega
            refine l_step (s_q rfl wn (q_move rfl) ?_)
            refine l_step (s_q rfl wn (q_move rfl) ?_)
            refine l_step (s_fnb rfl wn Tryd.func62 rfl (by kernel_rfl) rfl (by repeat (first | exact Sel.nil | exact Pick.here | apply Sel.cons | apply Pick.there)) (fun ρ' hL => rfind_spec r room aA cA e (decR e c) (T.take kA ++ (⟨s, ⟨none, [], 0⟩, 0⟩ : RFile) :: T.drop kA) s ρ') ?_)
            rintro _ _ ⟨rfl, rfl⟩
            try simp only [List.cons_append, List.nil_append]
            rw [hfi]
            refine l_step (s_q rfl wn (q_assign rfl) ?_)
            refine l_nil ?_
            refine k_then_n ?_
            refine c_seq ?_
            refine c_seq ?_
            refine c_region ?_
            refine Tr.ent (Ent.trans (Ent.pick (A := RB 5 (T.take kA ++ (⟨s, ⟨none, [], 0⟩, 0⟩ : RFile) :: T.drop kA)) (by repeat (first | exact Pick.here | apply Pick.there)) (Ent.refl _)) (rb_open (T := (T.take kA ++ (⟨s, ⟨none, [], 0⟩, 0⟩ : RFile) :: T.drop kA)) (i := i) (by omega))) ?_
            have hX0 : (((T.take kA ++ (⟨s, ⟨none, [], 0⟩, 0⟩ : RFile) :: T.drop kA).getD i default).B.xs ++ catS (bs.take 0)) = ((T.take kA ++ (⟨s, ⟨none, [], 0⟩, 0⟩ : RFile) :: T.drop kA).getD i default).B.xs := by simp [catS]
            have hS0 : (T.take kA ++ (⟨s, ⟨none, [], 0⟩, 0⟩ : RFile) :: T.drop kA).set i (⟨((T.take kA ++ (⟨s, ⟨none, [], 0⟩, 0⟩ : RFile) :: T.drop kA).getD i default).Name, ⟨((T.take kA ++ (⟨s, ⟨none, [], 0⟩, 0⟩ : RFile) :: T.drop kA).getD i default).B.a, ((T.take kA ++ (⟨s, ⟨none, [], 0⟩, 0⟩ : RFile) :: T.drop kA).getD i default).B.xs, ((T.take kA ++ (⟨s, ⟨none, [], 0⟩, 0⟩ : RFile) :: T.drop kA).getD i default).B.cap⟩, ((T.take kA ++ (⟨s, ⟨none, [], 0⟩, 0⟩ : RFile) :: T.drop kA).getD i default).Safe⟩ : RFile) = (T.take kA ++ (⟨s, ⟨none, [], 0⟩, 0⟩ : RFile) :: T.drop kA) := set_self hi
            refine Tr.ent (Γ' := .row 5 1 (((T.take kA ++ (⟨s, ⟨none, [], 0⟩, 0⟩ : RFile) :: T.drop kA).getD i default).B.a) ((((T.take kA ++ (⟨s, ⟨none, [], 0⟩, 0⟩ : RFile) :: T.drop kA).getD i default).B.xs ++ catS (bs.take 0)).length) (((T.take kA ++ (⟨s, ⟨none, [], 0⟩, 0⟩ : RFile) :: T.drop kA).getD i default).B.cap) ((((T.take kA ++ (⟨s, ⟨none, [], 0⟩, 0⟩ : RFile) :: T.drop kA).getD i default).B.xs ++ catS (bs.take 0)).flatMap encB) :: Bun (((T.take kA ++ (⟨s, ⟨none, [], 0⟩, 0⟩ : RFile) :: T.drop kA).map (R1 5)).eraseIdx i) :: .pts r (encRDisk (⟨room, ⟨aA, (T.take kA ++ (⟨s, ⟨none, [], 0⟩, 0⟩ : RFile) :: T.drop kA).length, cA⟩, e, (decR e c)⟩ : RDisk)) 49 :: .row 82 3 aA ((T.take kA ++ (⟨s, ⟨none, [], 0⟩, 0⟩ : RFile) :: T.drop kA).length) cA (((T.take kA ++ (⟨s, ⟨none, [], 0⟩, 0⟩ : RFile) :: T.drop kA).set i (⟨((T.take kA ++ (⟨s, ⟨none, [], 0⟩, 0⟩ : RFile) :: T.drop kA).getD i default).Name, ⟨((T.take kA ++ (⟨s, ⟨none, [], 0⟩, 0⟩ : RFile) :: T.drop kA).getD i default).B.a, (((T.take kA ++ (⟨s, ⟨none, [], 0⟩, 0⟩ : RFile) :: T.drop kA).getD i default).B.xs ++ catS (bs.take 0)), ((T.take kA ++ (⟨s, ⟨none, [], 0⟩, 0⟩ : RFile) :: T.drop kA).getD i default).B.cap⟩, ((T.take kA ++ (⟨s, ⟨none, [], 0⟩, 0⟩ : RFile) :: T.drop kA).getD i default).Safe⟩ : RFile)).flatMap encRFile) :: Δ) (Ent.cast (by rw [hX0, hS0]; rfl)) ?_
            refine l_step (s_q rfl wn (q_assign rfl) ?_)
            refine l_nil ?_
            refine k_then_n ?_
            refine c_block ?_
            refine Tr.env (σ' := [(0, _), (2, _), (6, _), (9, _), (10, _)]) (.cons rfl rfl (.cons rfl rfl (.cons rfl rfl (.cons rfl rfl (.cons rfl rfl (.nil _)))))) ?_
            refine t_loop (ι := Lp (Nat × Option Addr × Nat)) (fun y => y.d.1 ≤ bs_n) (fun y => bs_n - y.d.1) (fun y => [(0, .pointer (some ⟨r, 0, none⟩)), (2, .slice bs_a bs_n bs_c), (6, .int .i64 0), (9, .int .i64 (i : Int)), (10, .int .i64 (y.d.1 : Int))]) (fun y => .row 5 1 y.d.2.1 ((((T.take kA ++ (⟨s, ⟨none, [], 0⟩, 0⟩ : RFile) :: T.drop kA).getD i default).B.xs ++ catS (bs.take y.d.1)).length) y.d.2.2 ((((T.take kA ++ (⟨s, ⟨none, [], 0⟩, 0⟩ : RFile) :: T.drop kA).getD i default).B.xs ++ catS (bs.take y.d.1)).flatMap encB) :: Bun (((T.take kA ++ (⟨s, ⟨none, [], 0⟩, 0⟩ : RFile) :: T.drop kA).map (R1 5)).eraseIdx i) :: .pts r (encRDisk (⟨room, ⟨aA, (T.take kA ++ (⟨s, ⟨none, [], 0⟩, 0⟩ : RFile) :: T.drop kA).length, cA⟩, e, (decR e c)⟩ : RDisk)) 49 :: .row 82 3 aA ((T.take kA ++ (⟨s, ⟨none, [], 0⟩, 0⟩ : RFile) :: T.drop kA).length) cA (((T.take kA ++ (⟨s, ⟨none, [], 0⟩, 0⟩ : RFile) :: T.drop kA).set i (⟨((T.take kA ++ (⟨s, ⟨none, [], 0⟩, 0⟩ : RFile) :: T.drop kA).getD i default).Name, ⟨y.d.2.1, (((T.take kA ++ (⟨s, ⟨none, [], 0⟩, 0⟩ : RFile) :: T.drop kA).getD i default).B.xs ++ catS (bs.take y.d.1)), y.d.2.2⟩, ((T.take kA ++ (⟨s, ⟨none, [], 0⟩, 0⟩ : RFile) :: T.drop kA).getD i default).Safe⟩ : RFile)).flatMap encRFile) :: Δ) (⟨(0, ((T.take kA ++ (⟨s, ⟨none, [], 0⟩, 0⟩ : RFile) :: T.drop kA).getD i default).B.a, ((T.take kA ++ (⟨s, ⟨none, [], 0⟩, 0⟩ : RFile) :: T.drop kA).getD i default).B.cap), none, 0, none, 0, none, 0⟩ : Lp _) (Nat.zero_le _) ?_ ?_ ?_
            · exact .cons rfl (by first | rfl | exact inte (by omega) | (simp; done) | (simp <;> omega) | simp [*]) (.cons rfl (by first | rfl | exact inte (by omega) | (simp; done) | (simp <;> omega) | simp [*]) (.cons rfl (by first | rfl | exact inte (by omega) | (simp; done) | (simp <;> omega) | simp [*]) (.cons rfl (by first | rfl | exact inte (by omega) | (simp; done) | (simp <;> omega) | simp [*]) (.cons rfl (by first | rfl | exact inte (by omega) | (simp; done) | (simp <;> omega) | simp [*]) (.nil _)))))
            · exact (by repeat (first | exact Ent.nil _ | exact Ent.refl _ | (refine Ent.pick (by repeat (first | exact Pick.here | apply Pick.there)) ?_) | refine Ent.skip ?_))
            intro y hy
            have hi9 : i < ((T.take kA ++ (⟨s, ⟨none, [], 0⟩, 0⟩ : RFile) :: T.drop kA).set i (⟨((T.take kA ++ (⟨s, ⟨none, [], 0⟩, 0⟩ : RFile) :: T.drop kA).getD i default).Name, ⟨y.d.2.1, (((T.take kA ++ (⟨s, ⟨none, [], 0⟩, 0⟩ : RFile) :: T.drop kA).getD i default).B.xs ++ catS (bs.take y.d.1)), y.d.2.2⟩, ((T.take kA ++ (⟨s, ⟨none, [], 0⟩, 0⟩ : RFile) :: T.drop kA).getD i default).Safe⟩ : RFile)).length := by rw [List.length_set]; exact hi
            have hct := catS_take bs y.d.1
            have hct1 := catS_take bs (y.d.1 + 1)
            have huE : ((T.take kA ++ (⟨s, ⟨none, [], 0⟩, 0⟩ : RFile) :: T.drop kA).getD i default).B.xs.length ≤ usedR T := by rw [hb0]; exact Nat.zero_le _
            refine c_seq ?_
            refine c_seq ?_
            refine c_region ?_
            refine l_step (s_q rfl wn (q_move rfl) ?_)
            refine l_step (s_q rfl wn (q_move rfl) ?_)
            refine l_step (s_q rfl wn (q_len Tryd.underlying26 rfl) ?_)
            refine l_step (s_q rfl wn (q_lss rfl rfl) ?_)
            refine l_nil ?_
            refine k_then_n ?_
            refine c_cond rfl (fun h5 => ?_) (fun h5 => ?_)
            · try simp only [Bool.and_eq_true, Bool.or_eq_true, Bool.not_eq_true', Bool.and_eq_false_iff, Bool.or_eq_false_iff, Bool.not_eq_false', decide_eq_true_eq, decide_eq_false_iff_not, Bool.not_eq_eq_eq_not, Bool.not_true, Bool.not_false, Bool.not_eq_true, Bool.not_eq_false, beq_iff_eq, bne_iff_ne, ne_eq, Decidable.not_not] at h5
              have hct2 : (catS (bs.take (y.d.1 + 1))).length = (catS (bs.take y.d.1)).length + (bs.getD y.d.1 default).xs.length := by rw [take_succ_getD _ _ (by omega), catS_snoc, List.length_append]
              refine c_skip ?_
              refine k_then_n ?_
              refine c_seq ?_
              refine c_block ?_
              refine c_draw (m := 21) (bs := #[false, false, false, false, false, false, false, false, false, false, false, false, false, false, false, false, false, false, false, false, false]) [Bun (((T.take kA ++ (⟨s, ⟨none, [], 0⟩, 0⟩ : RFile) :: T.drop kA).map (R1 5)).eraseIdx i), .pts r (encRDisk (⟨room, ⟨aA, (T.take kA ++ (⟨s, ⟨none, [], 0⟩, 0⟩ : RFile) :: T.drop kA).length, cA⟩, e, (decR e c)⟩ : RDisk)) 49] (by kernel_rfl) rfl (by kernel_rfl) ?_
              refine r_take (i := 0) (bs' := #[true, false, false, false, false, false, false, false, false, false, false, false, false, false, false, false, false, false, false, false, false]) rfl (by kernel_rfl) (by kernel_rfl) (by kernel_rfl) (fun _ _ _ h => h) rfl wn (q_move rfl) (Hp.le_refl _) (by repeat (first | exact Ent.nil _ | exact Ent.refl _ | (refine Ent.pick (by repeat (first | exact Pick.here | apply Pick.there)) ?_) | refine Ent.skip ?_)) (by kernel_rfl) ?_
              refine r_take (i := 1) (bs' := #[true, true, false, false, false, false, false, false, false, false, false, false, false, false, false, false, false, false, false, false, false]) rfl (by kernel_rfl) (by kernel_rfl) (by kernel_rfl) (fun _ _ _ h => h) rfl wn (q_nilCheck rfl) (Hp.le_refl _) (by repeat (first | exact Ent.nil _ | exact Ent.refl _ | (refine Ent.pick (by repeat (first | exact Pick.here | apply Pick.there)) ?_) | refine Ent.skip ?_)) (by kernel_rfl) ?_
              refine r_take (i := 2) (bs' := #[true, true, true, false, false, false, false, false, false, false, false, false, false, false, false, false, false, false, false, false, false]) rfl (by kernel_rfl) (by kernel_rfl) (by kernel_rfl) (fun _ _ _ h => h) rfl wn (q_fieldp rfl fo_49_1) (Hp.le_refl _) (by repeat (first | exact Ent.nil _ | exact Ent.refl _ | (refine Ent.pick (by repeat (first | exact Pick.here | apply Pick.there)) ?_) | refine Ent.skip ?_)) (by kernel_rfl) ?_
              refine r_take (i := 3) (bs' := #[true, true, true, true, false, false, false, false, false, false, false, false, false, false, false, false, false, false, false, false, false]) rfl (by kernel_rfl) (by kernel_rfl) (by kernel_rfl) (fun _ _ _ h => h) rfl wn (q_loadp (v := .slice aA ((T.take kA ++ (⟨s, ⟨none, [], 0⟩, 0⟩ : RFile) :: T.drop kA).length) cA) sc_47 rfl (by repeat (first | exact Pick.here | apply Pick.there)) rfl) (Hp.le_refl _) (by repeat (first | exact Ent.nil _ | exact Ent.refl _ | (refine Ent.pick (by repeat (first | exact Pick.here | apply Pick.there)) ?_) | refine Ent.skip ?_)) (by kernel_rfl) ?_
              refine r_take (i := 4) (bs' := #[true, true, true, true, true, false, false, false, false, false, false, false, false, false, false, false, false, false, false, false, false]) rfl (by kernel_rfl) (by kernel_rfl) (by kernel_rfl) (fun _ _ _ h => h) rfl wn (q_move rfl) (Hp.le_refl _) (by repeat (first | exact Ent.nil _ | exact Ent.refl _ | (refine Ent.pick (by repeat (first | exact Pick.here | apply Pick.there)) ?_) | refine Ent.skip ?_)) (by kernel_rfl) ?_
              refine r_take (i := 5) (bs' := #[true, true, true, true, true, true, false, false, false, false, false, false, false, false, false, false, false, false, false, false, false]) rfl (by kernel_rfl) (by kernel_rfl) (by kernel_rfl) (fun _ _ _ h => h) rfl wn (q_move rfl) (Hp.le_refl _) (by repeat (first | exact Ent.nil _ | exact Ent.refl _ | (refine Ent.pick (by repeat (first | exact Pick.here | apply Pick.there)) ?_) | refine Ent.skip ?_)) (by kernel_rfl) ?_
              refine r_take (i := 6) (bs' := #[true, true, true, true, true, true, true, false, false, false, false, false, false, false, false, false, false, false, false, false, false]) rfl (by kernel_rfl) (by kernel_rfl) (by kernel_rfl) (fun _ _ _ h => h) rfl wn (q_nilCheck rfl) (Hp.le_refl _) (by repeat (first | exact Ent.nil _ | exact Ent.refl _ | (refine Ent.pick (by repeat (first | exact Pick.here | apply Pick.there)) ?_) | refine Ent.skip ?_)) (by kernel_rfl) ?_
              refine r_take (i := 7) (bs' := #[true, true, true, true, true, true, true, true, false, false, false, false, false, false, false, false, false, false, false, false, false]) rfl (by kernel_rfl) (by kernel_rfl) (by kernel_rfl) (fun _ _ _ h => h) rfl wn (q_fieldp rfl fo_49_1) (Hp.le_refl _) (by repeat (first | exact Ent.nil _ | exact Ent.refl _ | (refine Ent.pick (by repeat (first | exact Pick.here | apply Pick.there)) ?_) | refine Ent.skip ?_)) (by kernel_rfl) ?_
              refine r_take (i := 8) (bs' := #[true, true, true, true, true, true, true, true, true, false, false, false, false, false, false, false, false, false, false, false, false]) rfl (by kernel_rfl) (by kernel_rfl) (by kernel_rfl) (fun _ _ _ h => h) rfl wn (q_loadp (v := .slice aA ((T.take kA ++ (⟨s, ⟨none, [], 0⟩, 0⟩ : RFile) :: T.drop kA).length) cA) sc_47 rfl (by repeat (first | exact Pick.here | apply Pick.there)) rfl) (Hp.le_refl _) (by repeat (first | exact Ent.nil _ | exact Ent.refl _ | (refine Ent.pick (by repeat (first | exact Pick.here | apply Pick.there)) ?_) | refine Ent.skip ?_)) (by kernel_rfl) ?_
              refine r_take (i := 9) (bs' := #[true, true, true, true, true, true, true, true, true, true, false, false, false, false, false, false, false, false, false, false, false]) rfl (by kernel_rfl) (by kernel_rfl) (by kernel_rfl) (fun _ _ _ h => h) rfl wn (q_move rfl) (Hp.le_refl _) (by repeat (first | exact Ent.nil _ | exact Ent.refl _ | (refine Ent.pick (by repeat (first | exact Pick.here | apply Pick.there)) ?_) | refine Ent.skip ?_)) (by kernel_rfl) ?_
              refine r_take (i := 13) (bs' := #[true, true, true, true, true, true, true, true, true, true, false, false, false, true, false, false, false, false, false, false, false]) rfl (by kernel_rfl) (by kernel_rfl) (by kernel_rfl) (fun _ _ _ h => h) rfl wn (q_move rfl) (Hp.le_refl _) (by repeat (first | exact Ent.nil _ | exact Ent.refl _ | (refine Ent.pick (by repeat (first | exact Pick.here | apply Pick.there)) ?_) | refine Ent.skip ?_)) (by kernel_rfl) ?_
              refine r_take (i := 14) (bs' := #[true, true, true, true, true, true, true, true, true, true, false, false, false, true, true, false, false, false, false, false, false]) rfl (by kernel_rfl) (by kernel_rfl) (by kernel_rfl) (fun _ _ _ h => h) rfl wn (q_move rfl) (Hp.le_refl _) (by repeat (first | exact Ent.nil _ | exact Ent.refl _ | (refine Ent.pick (by repeat (first | exact Pick.here | apply Pick.there)) ?_) | refine Ent.skip ?_)) (by kernel_rfl) ?_
              refine r_take (i := 15) (bs' := #[true, true, true, true, true, true, true, true, true, true, false, false, false, true, true, true, false, false, false, false, false]) rfl (by kernel_rfl) (by kernel_rfl) (by kernel_rfl) (fun _ _ _ h => h) rfl wn (q_indexe y.d.1 Tryd.underlying26 sz_32 rfl rfl (by first | assumption | exact rd_ro (by assumption) | exact rd_bun (L := ((T.take kA ++ (⟨s, ⟨none, [], 0⟩, 0⟩ : RFile) :: T.drop kA).map (R1 5)).eraseIdx i) (by repeat (first | exact Pick.here | apply Pick.there)) (in_map _ (by first | assumption | omega | (simp only [List.length_cons, List.length_nil]; omega) | decide) rfl) | exact rd_row (by repeat (first | exact Pick.here | apply Pick.there))) (by decide) rfl (by first | assumption | omega | (simp only [List.length_cons, List.length_nil]; omega))) (Hp.le_refl _) (by repeat (first | exact Ent.nil _ | exact Ent.refl _ | (refine Ent.pick (by repeat (first | exact Pick.here | apply Pick.there)) ?_) | refine Ent.skip ?_)) (by kernel_rfl) ?_
              refine r_take (i := 16) (bs' := #[true, true, true, true, true, true, true, true, true, true, false, false, false, true, true, true, true, false, false, false, false]) rfl (by kernel_rfl) (by kernel_rfl) (by kernel_rfl) (fun _ _ _ h => h) rfl wn (q_loade (enc := encSL) (xs := bs) (j := y.d.1) (off := 0) sc_32 rfl (by first | assumption | exact rd_ro (by assumption) | exact rd_bun (L := ((T.take kA ++ (⟨s, ⟨none, [], 0⟩, 0⟩ : RFile) :: T.drop kA).map (R1 5)).eraseIdx i) (by repeat (first | exact Pick.here | apply Pick.there)) (in_map _ (by first | assumption | omega | (simp only [List.length_cons, List.length_nil]; omega) | decide) rfl) | exact rd_row (by repeat (first | exact Pick.here | apply Pick.there))) (fun _ => rfl) (by first | assumption | omega | (simp only [List.length_cons, List.length_nil]; omega)) (by decide) rfl) (Hp.le_refl _) (by repeat (first | exact Ent.nil _ | exact Ent.refl _ | (refine Ent.pick (by repeat (first | exact Pick.here | apply Pick.there)) ?_) | refine Ent.skip ?_)) (by kernel_rfl) ?_
              refine r_one (i := 10) (bs' := #[true, true, true, true, true, true, true, true, true, true, true, false, false, true, true, true, true, false, false, false, false]) (by kernel_rfl) (by kernel_rfl) ?_
              refine o_step rfl (s_q rfl wn (q_indexe i Tryd.underlying47 sz_82 rfl rfl (rd_row (by repeat (first | exact Pick.here | apply Pick.there))) (by decide) rfl (by first | assumption | omega | (simp only [List.length_cons, List.length_nil]; omega))) ?_)
              refine r_cont (Hp.le_refl _) (by repeat (first | exact Ent.nil _ | exact Ent.refl _ | (refine Ent.pick (by repeat (first | exact Pick.here | apply Pick.there)) ?_) | refine Ent.skip ?_)) ?_
              refine r_take (i := 11) (bs' := #[true, true, true, true, true, true, true, true, true, true, true, true, false, true, true, true, true, false, false, false, false]) rfl (by kernel_rfl) (by kernel_rfl) (by kernel_rfl) (fun _ _ _ h => h) rfl wn (q_fielde rfl fo_82_1) (Hp.le_refl _) (by repeat (first | exact Ent.nil _ | exact Ent.refl _ | (refine Ent.pick (by repeat (first | exact Pick.here | apply Pick.there)) ?_) | refine Ent.skip ?_)) (by kernel_rfl) ?_
              refine r_one (i := 12) (bs' := #[true, true, true, true, true, true, true, true, true, true, true, true, true, true, true, true, true, false, false, false, false]) (by kernel_rfl) (by kernel_rfl) ?_
              refine o_step rfl (s_q rfl wn (q_as (v := .slice y.d.2.1 (((T.take kA ++ (⟨s, ⟨none, [], 0⟩, 0⟩ : RFile) :: T.drop kA).getD i default).B.xs ++ catS (bs.take y.d.1)).length y.d.2.2) (q_loade (enc := encRFile) (xs := ((T.take kA ++ (⟨s, ⟨none, [], 0⟩, 0⟩ : RFile) :: T.drop kA).set i (⟨((T.take kA ++ (⟨s, ⟨none, [], 0⟩, 0⟩ : RFile) :: T.drop kA).getD i default).Name, ⟨y.d.2.1, (((T.take kA ++ (⟨s, ⟨none, [], 0⟩, 0⟩ : RFile) :: T.drop kA).getD i default).B.xs ++ catS (bs.take y.d.1)), y.d.2.2⟩, ((T.take kA ++ (⟨s, ⟨none, [], 0⟩, 0⟩ : RFile) :: T.drop kA).getD i default).Safe⟩ : RFile))) (j := i) (off := 1) sc_32 rfl (rd_row (by repeat (first | exact Pick.here | apply Pick.there))) (fun _ => rfl) hi9 (by decide) rfl) (by rw [getD_set hi]; rfl)) ?_)
              refine r_cont (Hp.le_refl _) (by repeat (first | exact Ent.nil _ | exact Ent.refl _ | (refine Ent.pick (by repeat (first | exact Pick.here | apply Pick.there)) ?_) | refine Ent.skip ?_)) ?_
              refine r_one (i := 17) (bs' := #[true, true, true, true, true, true, true, true, true, true, true, true, true, true, true, true, true, true, false, false, false]) (by kernel_rfl) (by kernel_rfl) ?_
              refine o_step rfl (s_s rfl wn (s_appendn (enc := encB) (xs := ((((T.take kA ++ (⟨s, ⟨none, [], 0⟩, 0⟩ : RFile) :: T.drop kA).getD i default).B.xs ++ catS (bs.take y.d.1)) : List UInt8)) (ys := ((bs.getD y.d.1 default).xs : List UInt8)) (Γ' := fun a' cap' => _) Tryd.underlying32 eo_5 (by decide) rfl rfl (rd_ro (hbm _ (getD_in (by omega)))) (oneB _) (by first | omega | (simp only [List.length_append, List.length_cons, List.length_nil] at *; omega)) (by first | omega | (simp only [List.length_append, List.length_cons, List.length_nil] at *; omega)) (fun _ _ => (by repeat (first | exact Pick.here | apply Pick.there)))) ?_)
              rintro _ _ ⟨a80, c80, rfl, rfl⟩
              refine r_cont (Hp.le_refl _) (by repeat (first | exact Ent.nil _ | exact Ent.refl _ | (refine Ent.pick (by repeat (first | exact Pick.here | apply Pick.there)) ?_) | refine Ent.skip ?_)) ?_
              refine r_one (i := 18) (bs' := #[true, true, true, true, true, true, true, true, true, true, true, true, true, true, true, true, true, true, true, false, false]) (by kernel_rfl) (by kernel_rfl) ?_
              refine o_step rfl (s_q rfl wn (q_indexe i Tryd.underlying47 sz_82 rfl rfl (rd_row (by repeat (first | exact Pick.here | apply Pick.there))) (by decide) rfl (by first | assumption | omega | (simp only [List.length_cons, List.length_nil]; omega))) ?_)
              refine r_cont (Hp.le_refl _) (by repeat (first | exact Ent.nil _ | exact Ent.refl _ | (refine Ent.pick (by repeat (first | exact Pick.here | apply Pick.there)) ?_) | refine Ent.skip ?_)) ?_
              refine r_take (i := 19) (bs' := #[true, true, true, true, true, true, true, true, true, true, true, true, true, true, true, true, true, true, true, true, false]) rfl (by kernel_rfl) (by kernel_rfl) (by kernel_rfl) (fun _ _ _ h => h) rfl wn (q_fielde rfl fo_82_1) (Hp.le_refl _) (by repeat (first | exact Ent.nil _ | exact Ent.refl _ | (refine Ent.pick (by repeat (first | exact Pick.here | apply Pick.there)) ?_) | refine Ent.skip ?_)) (by kernel_rfl) ?_
              refine r_one (i := 20) (bs' := #[true, true, true, true, true, true, true, true, true, true, true, true, true, true, true, true, true, true, true, true, true]) (by kernel_rfl) (by kernel_rfl) ?_
              rw [show (((T.take kA ++ (⟨s, ⟨none, [], 0⟩, 0⟩ : RFile) :: T.drop kA).getD i default).B.xs ++ catS (bs.take y.d.1)).length + (bs.getD y.d.1 default).xs.length = ((((T.take kA ++ (⟨s, ⟨none, [], 0⟩, 0⟩ : RFile) :: T.drop kA).getD i default).B.xs ++ catS (bs.take y.d.1)) ++ (bs.getD y.d.1 default).xs).length from (List.length_append ..).symm]
              refine o_step rfl (s_s0 wn (s_storee (ws := [.slice a80 (((((T.take kA ++ (⟨s, ⟨none, [], 0⟩, 0⟩ : RFile) :: T.drop kA).getD i default).B.xs ++ catS (bs.take y.d.1)) ++ (bs.getD y.d.1 default).xs).length) c80]) (enc := encRFile) (xs := ((T.take kA ++ (⟨s, ⟨none, [], 0⟩, 0⟩ : RFile) :: T.drop kA).set i (⟨((T.take kA ++ (⟨s, ⟨none, [], 0⟩, 0⟩ : RFile) :: T.drop kA).getD i default).Name, ⟨y.d.2.1, (((T.take kA ++ (⟨s, ⟨none, [], 0⟩, 0⟩ : RFile) :: T.drop kA).getD i default).B.xs ++ catS (bs.take y.d.1)), y.d.2.2⟩, ((T.take kA ++ (⟨s, ⟨none, [], 0⟩, 0⟩ : RFile) :: T.drop kA).getD i default).Safe⟩ : RFile))) (j := i) (off := 1) (⟨(((T.take kA ++ (⟨s, ⟨none, [], 0⟩, 0⟩ : RFile) :: T.drop kA).set i (⟨((T.take kA ++ (⟨s, ⟨none, [], 0⟩, 0⟩ : RFile) :: T.drop kA).getD i default).Name, ⟨y.d.2.1, (((T.take kA ++ (⟨s, ⟨none, [], 0⟩, 0⟩ : RFile) :: T.drop kA).getD i default).B.xs ++ catS (bs.take y.d.1)), y.d.2.2⟩, ((T.take kA ++ (⟨s, ⟨none, [], 0⟩, 0⟩ : RFile) :: T.drop kA).getD i default).Safe⟩ : RFile)).getD i default).Name, ⟨a80, ((((T.take kA ++ (⟨s, ⟨none, [], 0⟩, 0⟩ : RFile) :: T.drop kA).getD i default).B.xs ++ catS (bs.take y.d.1)) ++ (bs.getD y.d.1 default).xs), c80⟩, (((T.take kA ++ (⟨s, ⟨none, [], 0⟩, 0⟩ : RFile) :: T.drop kA).set i (⟨((T.take kA ++ (⟨s, ⟨none, [], 0⟩, 0⟩ : RFile) :: T.drop kA).getD i default).Name, ⟨y.d.2.1, (((T.take kA ++ (⟨s, ⟨none, [], 0⟩, 0⟩ : RFile) :: T.drop kA).getD i default).B.xs ++ catS (bs.take y.d.1)), y.d.2.2⟩, ((T.take kA ++ (⟨s, ⟨none, [], 0⟩, 0⟩ : RFile) :: T.drop kA).getD i default).Safe⟩ : RFile)).getD i default).Safe⟩ : RFile) rfl rfl rfl sz_32 (by simp) (by simp [Value.oneCell', strB, ptV, SL.v]) (by repeat (first | exact Pick.here | apply Pick.there)) (fun _ => rfl) (by first | assumption | omega | (simp only [List.length_cons, List.length_nil]; omega)) (by simp) (by first | rfl | simp [encRFile])) ?_)
              rintro _ _ ⟨rfl, rfl⟩
              refine r_cont (Hp.le_refl _) (by repeat (first | exact Ent.nil _ | exact Ent.refl _ | (refine Ent.pick (by repeat (first | exact Pick.here | apply Pick.there)) ?_) | refine Ent.skip ?_)) ?_
              refine r_done (by kernel_rfl) ?_
              refine k_blk_n ?_
              refine k_then_n ?_
              refine c_region ?_
              refine l_step (s_q rfl wn (q_move rfl) ?_)
              refine l_step (s_q rfl wn (q_add rfl rfl (by omega) (by omega)) ?_)
              refine l_step (s_q rfl wn (q_assign rfl) ?_)
              refine l_nil ?_
              refine k_then_n ?_
              have hYX : (((T.take kA ++ (⟨s, ⟨none, [], 0⟩, 0⟩ : RFile) :: T.drop kA).getD i default).B.xs ++ catS (bs.take y.d.1)) ++ (bs.getD y.d.1 default).xs = (((T.take kA ++ (⟨s, ⟨none, [], 0⟩, 0⟩ : RFile) :: T.drop kA).getD i default).B.xs ++ catS (bs.take (y.d.1 + 1))) := by rw [take_succ_getD _ _ (by omega), catS_snoc, List.append_assoc]
              rw [hYX]
              have hTT : ((T.take kA ++ (⟨s, ⟨none, [], 0⟩, 0⟩ : RFile) :: T.drop kA).set i (⟨((T.take kA ++ (⟨s, ⟨none, [], 0⟩, 0⟩ : RFile) :: T.drop kA).getD i default).Name, ⟨y.d.2.1, (((T.take kA ++ (⟨s, ⟨none, [], 0⟩, 0⟩ : RFile) :: T.drop kA).getD i default).B.xs ++ catS (bs.take y.d.1)), y.d.2.2⟩, ((T.take kA ++ (⟨s, ⟨none, [], 0⟩, 0⟩ : RFile) :: T.drop kA).getD i default).Safe⟩ : RFile)).set i (⟨(((T.take kA ++ (⟨s, ⟨none, [], 0⟩, 0⟩ : RFile) :: T.drop kA).set i (⟨((T.take kA ++ (⟨s, ⟨none, [], 0⟩, 0⟩ : RFile) :: T.drop kA).getD i default).Name, ⟨y.d.2.1, (((T.take kA ++ (⟨s, ⟨none, [], 0⟩, 0⟩ : RFile) :: T.drop kA).getD i default).B.xs ++ catS (bs.take y.d.1)), y.d.2.2⟩, ((T.take kA ++ (⟨s, ⟨none, [], 0⟩, 0⟩ : RFile) :: T.drop kA).getD i default).Safe⟩ : RFile)).getD i default).Name, ⟨a80, (((T.take kA ++ (⟨s, ⟨none, [], 0⟩, 0⟩ : RFile) :: T.drop kA).getD i default).B.xs ++ catS (bs.take (y.d.1 + 1))), c80⟩, (((T.take kA ++ (⟨s, ⟨none, [], 0⟩, 0⟩ : RFile) :: T.drop kA).set i (⟨((T.take kA ++ (⟨s, ⟨none, [], 0⟩, 0⟩ : RFile) :: T.drop kA).getD i default).Name, ⟨y.d.2.1, (((T.take kA ++ (⟨s, ⟨none, [], 0⟩, 0⟩ : RFile) :: T.drop kA).getD i default).B.xs ++ catS (bs.take y.d.1)), y.d.2.2⟩, ((T.take kA ++ (⟨s, ⟨none, [], 0⟩, 0⟩ : RFile) :: T.drop kA).getD i default).Safe⟩ : RFile)).getD i default).Safe⟩ : RFile) = ((T.take kA ++ (⟨s, ⟨none, [], 0⟩, 0⟩ : RFile) :: T.drop kA).set i (⟨((T.take kA ++ (⟨s, ⟨none, [], 0⟩, 0⟩ : RFile) :: T.drop kA).getD i default).Name, ⟨a80, (((T.take kA ++ (⟨s, ⟨none, [], 0⟩, 0⟩ : RFile) :: T.drop kA).getD i default).B.xs ++ catS (bs.take (y.d.1 + 1))), c80⟩, ((T.take kA ++ (⟨s, ⟨none, [], 0⟩, 0⟩ : RFile) :: T.drop kA).getD i default).Safe⟩ : RFile)) := by rw [getD_set hi, List.set_set]
              rw [hTT]
              exact t_next (⟨(y.d.1 + 1, a80, c80), none, 0, none, 0, none, 0⟩ : Lp _) ⟨by simp only []; omega, by simp only []; omega⟩ (.cons rfl (by first | rfl | exact inte (by omega) | (simp; done) | (simp <;> omega) | simp [*]) (.cons rfl (by first | rfl | exact inte (by omega) | (simp; done) | (simp <;> omega) | simp [*]) (.cons rfl (by first | rfl | exact inte (by omega) | (simp; done) | (simp <;> omega) | simp [*]) (.cons rfl (by first | rfl | exact inte (by omega) | (simp; done) | (simp <;> omega) | simp [*]) (.cons rfl (by first | rfl | exact inte (by omega) | (simp; done) | (simp <;> omega) | simp [*]) (.nil _)))))) (by repeat (first | exact Ent.nil _ | exact Ent.refl _ | (refine Ent.pick (by repeat (first | exact Pick.here | apply Pick.there)) ?_) | refine Ent.skip ?_))
            · try simp only [Bool.and_eq_true, Bool.or_eq_true, Bool.not_eq_true', Bool.and_eq_false_iff, Bool.or_eq_false_iff, Bool.not_eq_false', decide_eq_true_eq, decide_eq_false_iff_not, Bool.not_eq_eq_eq_not, Bool.not_true, Bool.not_false, Bool.not_eq_true, Bool.not_eq_false, beq_iff_eq, bne_iff_ne, ne_eq, Decidable.not_not] at h5
              refine c_exit ?_
              refine k_then_x ?_
              refine k_then_x ?_
              refine k_blk_x ?_
              refine k_then_n ?_
              refine c_seq ?_
              refine c_region ?_
              refine l_step (s_q rfl wn (q_assign rfl) ?_)
              refine l_nil ?_
              refine k_then_n ?_
              refine c_ret ?_
              have hk2 : y.d.1 = bs.length := by omega
              rw [hk2, List.take_length]
              refine Tr.ent (Ent.trans (Ent.pick (A := R1 5 (⟨((T.take kA ++ (⟨s, ⟨none, [], 0⟩, 0⟩ : RFile) :: T.drop kA).getD i default).Name, ⟨y.d.2.1, (((T.take kA ++ (⟨s, ⟨none, [], 0⟩, 0⟩ : RFile) :: T.drop kA).getD i default).B.xs ++ catS bs), y.d.2.2⟩, ((T.take kA ++ (⟨s, ⟨none, [], 0⟩, 0⟩ : RFile) :: T.drop kA).getD i default).Safe⟩ : RFile)) (by repeat (first | exact Pick.here | apply Pick.there)) (Ent.pick (A := Bun (((T.take kA ++ (⟨s, ⟨none, [], 0⟩, 0⟩ : RFile) :: T.drop kA).map (R1 5)).eraseIdx i)) (by repeat (first | exact Pick.here | apply Pick.there)) (Ent.refl _))) (rb_set (T := (T.take kA ++ (⟨s, ⟨none, [], 0⟩, 0⟩ : RFile) :: T.drop kA)) (i := i) (by omega) (⟨((T.take kA ++ (⟨s, ⟨none, [], 0⟩, 0⟩ : RFile) :: T.drop kA).getD i default).Name, ⟨y.d.2.1, (((T.take kA ++ (⟨s, ⟨none, [], 0⟩, 0⟩ : RFile) :: T.drop kA).getD i default).B.xs ++ catS bs), y.d.2.2⟩, ((T.take kA ++ (⟨s, ⟨none, [], 0⟩, 0⟩ : RFile) :: T.drop kA).getD i default).Safe⟩ : RFile))) ?_
              rw [show (T.take kA ++ (⟨s, ⟨none, [], 0⟩, 0⟩ : RFile) :: T.drop kA).length = ((T.take kA ++ (⟨s, ⟨none, [], 0⟩, 0⟩ : RFile) :: T.drop kA).set i (⟨((T.take kA ++ (⟨s, ⟨none, [], 0⟩, 0⟩ : RFile) :: T.drop kA).getD i default).Name, ⟨y.d.2.1, (((T.take kA ++ (⟨s, ⟨none, [], 0⟩, 0⟩ : RFile) :: T.drop kA).getD i default).B.xs ++ catS bs), y.d.2.2⟩, ((T.take kA ++ (⟨s, ⟨none, [], 0⟩, 0⟩ : RFile) :: T.drop kA).getD i default).Safe⟩ : RFile)).length from (List.length_set ..).symm]
              have hr : (appI room (cI e c) (rvw T) s (catS bs)) = (0, rvw ((T.take kA ++ (⟨s, ⟨none, [], 0⟩, 0⟩ : RFile) :: T.drop kA).set i (⟨((T.take kA ++ (⟨s, ⟨none, [], 0⟩, 0⟩ : RFile) :: T.drop kA).getD i default).Name, ⟨y.d.2.1, (((T.take kA ++ (⟨s, ⟨none, [], 0⟩, 0⟩ : RFile) :: T.drop kA).getD i default).B.xs ++ catS bs), y.d.2.2⟩, ((T.take kA ++ (⟨s, ⟨none, [], 0⟩, 0⟩ : RFile) :: T.drop kA).getD i default).Safe⟩ : RFile))) := by unfold appI; rw [if_neg h0, if_neg (by rw [hnb]; decide), if_neg (by rw [usedR_vw, rvw_len, h3]; decide), if_neg (by rw [hq]; decide), rset hnd1 hi (⟨((T.take kA ++ (⟨s, ⟨none, [], 0⟩, 0⟩ : RFile) :: T.drop kA).getD i default).Name, ⟨y.d.2.1, (((T.take kA ++ (⟨s, ⟨none, [], 0⟩, 0⟩ : RFile) :: T.drop kA).getD i default).B.xs ++ catS bs), y.d.2.2⟩, ((T.take kA ++ (⟨s, ⟨none, [], 0⟩, 0⟩ : RFile) :: T.drop kA).getD i default).Safe⟩ : RFile) rfl, hin, hv1, hb0, hs0]; exact congrArg (Prod.mk 0) (insV_set _ _ (no_mem hq)).symm
              exact t_ret [.pts r (encRDisk (⟨room, ⟨aA, ((T.take kA ++ (⟨s, ⟨none, [], 0⟩, 0⟩ : RFile) :: T.drop kA).set i (⟨((T.take kA ++ (⟨s, ⟨none, [], 0⟩, 0⟩ : RFile) :: T.drop kA).getD i default).Name, ⟨y.d.2.1, (((T.take kA ++ (⟨s, ⟨none, [], 0⟩, 0⟩ : RFile) :: T.drop kA).getD i default).B.xs ++ catS bs), y.d.2.2⟩, ((T.take kA ++ (⟨s, ⟨none, [], 0⟩, 0⟩ : RFile) :: T.drop kA).getD i default).Safe⟩ : RFile)).length, cA⟩, e, (decR e c)⟩ : RDisk)) 49, .row 82 3 aA ((T.take kA ++ (⟨s, ⟨none, [], 0⟩, 0⟩ : RFile) :: T.drop kA).set i (⟨((T.take kA ++ (⟨s, ⟨none, [], 0⟩, 0⟩ : RFile) :: T.drop kA).getD i default).Name, ⟨y.d.2.1, (((T.take kA ++ (⟨s, ⟨none, [], 0⟩, 0⟩ : RFile) :: T.drop kA).getD i default).B.xs ++ catS bs), y.d.2.2⟩, ((T.take kA ++ (⟨s, ⟨none, [], 0⟩, 0⟩ : RFile) :: T.drop kA).getD i default).Safe⟩ : RFile)).length cA (((T.take kA ++ (⟨s, ⟨none, [], 0⟩, 0⟩ : RFile) :: T.drop kA).set i (⟨((T.take kA ++ (⟨s, ⟨none, [], 0⟩, 0⟩ : RFile) :: T.drop kA).getD i default).Name, ⟨y.d.2.1, (((T.take kA ++ (⟨s, ⟨none, [], 0⟩, 0⟩ : RFile) :: T.drop kA).getD i default).B.xs ++ catS bs), y.d.2.2⟩, ((T.take kA ++ (⟨s, ⟨none, [], 0⟩, 0⟩ : RFile) :: T.drop kA).getD i default).Safe⟩ : RFile)).flatMap encRFile), RB 5 ((T.take kA ++ (⟨s, ⟨none, [], 0⟩, 0⟩ : RFile) :: T.drop kA).set i (⟨((T.take kA ++ (⟨s, ⟨none, [], 0⟩, 0⟩ : RFile) :: T.drop kA).getD i default).Name, ⟨y.d.2.1, (((T.take kA ++ (⟨s, ⟨none, [], 0⟩, 0⟩ : RFile) :: T.drop kA).getD i default).B.xs ++ catS bs), y.d.2.2⟩, ((T.take kA ++ (⟨s, ⟨none, [], 0⟩, 0⟩ : RFile) :: T.drop kA).getD i default).Safe⟩ : RFile))] rfl (.tmp rfl .nil) rfl (Hp.le_refl _) ⟨rfl, aA, cA, ((T.take kA ++ (⟨s, ⟨none, [], 0⟩, 0⟩ : RFile) :: T.drop kA).set i (⟨((T.take kA ++ (⟨s, ⟨none, [], 0⟩, 0⟩ : RFile) :: T.drop kA).getD i default).Name, ⟨y.d.2.1, (((T.take kA ++ (⟨s, ⟨none, [], 0⟩, 0⟩ : RFile) :: T.drop kA).getD i default).B.xs ++ catS bs), y.d.2.2⟩, ((T.take kA ++ (⟨s, ⟨none, [], 0⟩, 0⟩ : RFile) :: T.drop kA).getD i default).Safe⟩ : RFile)), by rw [hr]; rfl, by rw [hr], rfl⟩ (by repeat (first | exact Ent.nil _ | exact Ent.refl _ | (refine Ent.pick (by repeat (first | exact Pick.here | apply Pick.there)) ?_) | refine Ent.skip ?_))
          · skip
            have hq : mhas (rvw T) s = true := by simpa using h4
            obtain ⟨i, hi, hfi, hin⟩ := rfi_at hq
            have hg := rget hnd hi
            rw [hin] at hg
            rw [hfi]
            refine c_skip ?_
            refine k_then_n ?_
            refine c_seq ?_
            refine c_seq ?_
            refine c_region ?_
            refine Tr.ent (Ent.trans (Ent.pick (A := RB 5 T) (by repeat (first | exact Pick.here | apply Pick.there)) (Ent.refl _)) (rb_open (T := T) (i := i) (by omega))) ?_
            have hX0 : ((T.getD i default).B.xs ++ catS (bs.take 0)) = (T.getD i default).B.xs := by simp [catS]
            have hS0 : T.set i (⟨(T.getD i default).Name, ⟨(T.getD i default).B.a, (T.getD i default).B.xs, (T.getD i default).B.cap⟩, (T.getD i default).Safe⟩ : RFile) = T := set_self hi
            refine Tr.ent (Γ' := .row 5 1 ((T.getD i default).B.a) (((T.getD i default).B.xs ++ catS (bs.take 0)).length) ((T.getD i default).B.cap) (((T.getD i default).B.xs ++ catS (bs.take 0)).flatMap encB) :: Bun ((T.map (R1 5)).eraseIdx i) :: .pts r (encRDisk (⟨room, ⟨la, T.length, lc⟩, e, (decR e c)⟩ : RDisk)) 49 :: .row 82 3 la T.length lc ((T.set i (⟨(T.getD i default).Name, ⟨(T.getD i default).B.a, ((T.getD i default).B.xs ++ catS (bs.take 0)), (T.getD i default).B.cap⟩, (T.getD i default).Safe⟩ : RFile)).flatMap encRFile) :: Δ) (Ent.cast (by rw [hX0, hS0]; rfl)) ?_
            refine l_step (s_q rfl wn (q_assign rfl) ?_)
            refine l_nil ?_
            refine k_then_n ?_
            refine c_block ?_
            refine Tr.env (σ' := [(0, _), (2, _), (6, _), (9, _), (10, _)]) (.cons rfl rfl (.cons rfl rfl (.cons rfl rfl (.cons rfl rfl (.cons rfl rfl (.nil _)))))) ?_
            refine t_loop (ι := Lp (Nat × Option Addr × Nat)) (fun y => y.d.1 ≤ bs_n) (fun y => bs_n - y.d.1) (fun y => [(0, .pointer (some ⟨r, 0, none⟩)), (2, .slice bs_a bs_n bs_c), (6, .int .i64 0), (9, .int .i64 (i : Int)), (10, .int .i64 (y.d.1 : Int))]) (fun y => .row 5 1 y.d.2.1 (((T.getD i default).B.xs ++ catS (bs.take y.d.1)).length) y.d.2.2 (((T.getD i default).B.xs ++ catS (bs.take y.d.1)).flatMap encB) :: Bun ((T.map (R1 5)).eraseIdx i) :: .pts r (encRDisk (⟨room, ⟨la, T.length, lc⟩, e, (decR e c)⟩ : RDisk)) 49 :: .row 82 3 la T.length lc ((T.set i (⟨(T.getD i default).Name, ⟨y.d.2.1, ((T.getD i default).B.xs ++ catS (bs.take y.d.1)), y.d.2.2⟩, (T.getD i default).Safe⟩ : RFile)).flatMap encRFile) :: Δ) (⟨(0, (T.getD i default).B.a, (T.getD i default).B.cap), none, 0, none, 0, none, 0⟩ : Lp _) (Nat.zero_le _) ?_ ?_ ?_
            · exact .cons rfl (by first | rfl | exact inte (by omega) | (simp; done) | (simp <;> omega) | simp [*]) (.cons rfl (by first | rfl | exact inte (by omega) | (simp; done) | (simp <;> omega) | simp [*]) (.cons rfl (by first | rfl | exact inte (by omega) | (simp; done) | (simp <;> omega) | simp [*]) (.cons rfl (by first | rfl | exact inte (by omega) | (simp; done) | (simp <;> omega) | simp [*]) (.cons rfl (by first | rfl | exact inte (by omega) | (simp; done) | (simp <;> omega) | simp [*]) (.nil _)))))
            · exact (by repeat (first | exact Ent.nil _ | exact Ent.refl _ | (refine Ent.pick (by repeat (first | exact Pick.here | apply Pick.there)) ?_) | refine Ent.skip ?_))
            intro y hy
            have hi9 : i < (T.set i (⟨(T.getD i default).Name, ⟨y.d.2.1, ((T.getD i default).B.xs ++ catS (bs.take y.d.1)), y.d.2.2⟩, (T.getD i default).Safe⟩ : RFile)).length := by rw [List.length_set]; exact hi
            have hct := catS_take bs y.d.1
            have hct1 := catS_take bs (y.d.1 + 1)
            have huE : (T.getD i default).B.xs.length ≤ usedR T := usedR_at hi
            refine c_seq ?_
            refine c_seq ?_
            refine c_region ?_
            refine l_step (s_q rfl wn (q_move rfl) ?_)
            refine l_step (s_q rfl wn (q_move rfl) ?_)
            refine l_step (s_q rfl wn (q_len Tryd.underlying26 rfl) ?_)
            refine l_step (s_q rfl wn (q_lss rfl rfl) ?_)
            refine l_nil ?_
            refine k_then_n ?_
            refine c_cond rfl (fun h5 => ?_) (fun h5 => ?_)
            · try simp only [Bool.and_eq_true, Bool.or_eq_true, Bool.not_eq_true', Bool.and_eq_false_iff, Bool.or_eq_false_iff, Bool.not_eq_false', decide_eq_true_eq, decide_eq_false_iff_not, Bool.not_eq_eq_eq_not, Bool.not_true, Bool.not_false, Bool.not_eq_true, Bool.not_eq_false, beq_iff_eq, bne_iff_ne, ne_eq, Decidable.not_not] at h5
              have hct2 : (catS (bs.take (y.d.1 + 1))).length = (catS (bs.take y.d.1)).length + (bs.getD y.d.1 default).xs.length := by rw [take_succ_getD _ _ (by omega), catS_snoc, List.length_append]
              refine c_skip ?_
              refine k_then_n ?_
              refine c_seq ?_
              refine c_block ?_
              refine c_draw (m := 21) (bs := #[false, false, false, false, false, false, false, false, false, false, false, false, false, false, false, false, false, false, false, false, false]) [Bun ((T.map (R1 5)).eraseIdx i), .pts r (encRDisk (⟨room, ⟨la, T.length, lc⟩, e, (decR e c)⟩ : RDisk)) 49] (by kernel_rfl) rfl (by kernel_rfl) ?_
              refine r_take (i := 0) (bs' := #[true, false, false, false, false, false, false, false, false, false, false, false, false, false, false, false, false, false, false, false, false]) rfl (by kernel_rfl) (by kernel_rfl) (by kernel_rfl) (fun _ _ _ h => h) rfl wn (q_move rfl) (Hp.le_refl _) (by repeat (first | exact Ent.nil _ | exact Ent.refl _ | (refine Ent.pick (by repeat (first | exact Pick.here | apply Pick.there)) ?_) | refine Ent.skip ?_)) (by kernel_rfl) ?_
              refine r_take (i := 1) (bs' := #[true, true, false, false, false, false, false, false, false, false, false, false, false, false, false, false, false, false, false, false, false]) rfl (by kernel_rfl) (by kernel_rfl) (by kernel_rfl) (fun _ _ _ h => h) rfl wn (q_nilCheck rfl) (Hp.le_refl _) (by repeat (first | exact Ent.nil _ | exact Ent.refl _ | (refine Ent.pick (by repeat (first | exact Pick.here | apply Pick.there)) ?_) | refine Ent.skip ?_)) (by kernel_rfl) ?_
              refine r_take (i := 2) (bs' := #[true, true, true, false, false, false, false, false, false, false, false, false, false, false, false, false, false, false, false, false, false]) rfl (by kernel_rfl) (by kernel_rfl) (by kernel_rfl) (fun _ _ _ h => h) rfl wn (q_fieldp rfl fo_49_1) (Hp.le_refl _) (by repeat (first | exact Ent.nil _ | exact Ent.refl _ | (refine Ent.pick (by repeat (first | exact Pick.here | apply Pick.there)) ?_) | refine Ent.skip ?_)) (by kernel_rfl) ?_
              refine r_take (i := 3) (bs' := #[true, true, true, true, false, false, false, false, false, false, false, false, false, false, false, false, false, false, false, false, false]) rfl (by kernel_rfl) (by kernel_rfl) (by kernel_rfl) (fun _ _ _ h => h) rfl wn (q_loadp (v := .slice la T.length lc) sc_47 rfl (by repeat (first | exact Pick.here | apply Pick.there)) rfl) (Hp.le_refl _) (by repeat (first | exact Ent.nil _ | exact Ent.refl _ | (refine Ent.pick (by repeat (first | exact Pick.here | apply Pick.there)) ?_) | refine Ent.skip ?_)) (by kernel_rfl) ?_
              refine r_take (i := 4) (bs' := #[true, true, true, true, true, false, false, false, false, false, false, false, false, false, false, false, false, false, false, false, false]) rfl (by kernel_rfl) (by kernel_rfl) (by kernel_rfl) (fun _ _ _ h => h) rfl wn (q_move rfl) (Hp.le_refl _) (by repeat (first | exact Ent.nil _ | exact Ent.refl _ | (refine Ent.pick (by repeat (first | exact Pick.here | apply Pick.there)) ?_) | refine Ent.skip ?_)) (by kernel_rfl) ?_
              refine r_take (i := 5) (bs' := #[true, true, true, true, true, true, false, false, false, false, false, false, false, false, false, false, false, false, false, false, false]) rfl (by kernel_rfl) (by kernel_rfl) (by kernel_rfl) (fun _ _ _ h => h) rfl wn (q_move rfl) (Hp.le_refl _) (by repeat (first | exact Ent.nil _ | exact Ent.refl _ | (refine Ent.pick (by repeat (first | exact Pick.here | apply Pick.there)) ?_) | refine Ent.skip ?_)) (by kernel_rfl) ?_
              refine r_take (i := 6) (bs' := #[true, true, true, true, true, true, true, false, false, false, false, false, false, false, false, false, false, false, false, false, false]) rfl (by kernel_rfl) (by kernel_rfl) (by kernel_rfl) (fun _ _ _ h => h) rfl wn (q_nilCheck rfl) (Hp.le_refl _) (by repeat (first | exact Ent.nil _ | exact Ent.refl _ | (refine Ent.pick (by repeat (first | exact Pick.here | apply Pick.there)) ?_) | refine Ent.skip ?_)) (by kernel_rfl) ?_
              refine r_take (i := 7) (bs' := #[true, true, true, true, true, true, true, true, false, false, false, false, false, false, false, false, false, false, false, false, false]) rfl (by kernel_rfl) (by kernel_rfl) (by kernel_rfl) (fun _ _ _ h => h) rfl wn (q_fieldp rfl fo_49_1) (Hp.le_refl _) (by repeat (first | exact Ent.nil _ | exact Ent.refl _ | (refine Ent.pick (by repeat (first | exact Pick.here | apply Pick.there)) ?_) | refine Ent.skip ?_)) (by kernel_rfl) ?_
              refine r_take (i := 8) (bs' := #[true, true, true, true, true, true, true, true, true, false, false, false, false, false, false, false, false, false, false, false, false]) rfl (by kernel_rfl) (by kernel_rfl) (by kernel_rfl) (fun _ _ _ h => h) rfl wn (q_loadp (v := .slice la T.length lc) sc_47 rfl (by repeat (first | exact Pick.here | apply Pick.there)) rfl) (Hp.le_refl _) (by repeat (first | exact Ent.nil _ | exact Ent.refl _ | (refine Ent.pick (by repeat (first | exact Pick.here | apply Pick.there)) ?_) | refine Ent.skip ?_)) (by kernel_rfl) ?_
              refine r_take (i := 9) (bs' := #[true, true, true, true, true, true, true, true, true, true, false, false, false, false, false, false, false, false, false, false, false]) rfl (by kernel_rfl) (by kernel_rfl) (by kernel_rfl) (fun _ _ _ h => h) rfl wn (q_move rfl) (Hp.le_refl _) (by repeat (first | exact Ent.nil _ | exact Ent.refl _ | (refine Ent.pick (by repeat (first | exact Pick.here | apply Pick.there)) ?_) | refine Ent.skip ?_)) (by kernel_rfl) ?_
              refine r_take (i := 13) (bs' := #[true, true, true, true, true, true, true, true, true, true, false, false, false, true, false, false, false, false, false, false, false]) rfl (by kernel_rfl) (by kernel_rfl) (by kernel_rfl) (fun _ _ _ h => h) rfl wn (q_move rfl) (Hp.le_refl _) (by repeat (first | exact Ent.nil _ | exact Ent.refl _ | (refine Ent.pick (by repeat (first | exact Pick.here | apply Pick.there)) ?_) | refine Ent.skip ?_)) (by kernel_rfl) ?_
              refine r_take (i := 14) (bs' := #[true, true, true, true, true, true, true, true, true, true, false, false, false, true, true, false, false, false, false, false, false]) rfl (by kernel_rfl) (by kernel_rfl) (by kernel_rfl) (fun _ _ _ h => h) rfl wn (q_move rfl) (Hp.le_refl _) (by repeat (first | exact Ent.nil _ | exact Ent.refl _ | (refine Ent.pick (by repeat (first | exact Pick.here | apply Pick.there)) ?_) | refine Ent.skip ?_)) (by kernel_rfl) ?_
              refine r_take (i := 15) (bs' := #[true, true, true, true, true, true, true, true, true, true, false, false, false, true, true, true, false, false, false, false, false]) rfl (by kernel_rfl) (by kernel_rfl) (by kernel_rfl) (fun _ _ _ h => h) rfl wn (q_indexe y.d.1 Tryd.underlying26 sz_32 rfl rfl (by first | assumption | exact rd_ro (by assumption) | exact rd_bun (L := (T.map (R1 5)).eraseIdx i) (by repeat (first | exact Pick.here | apply Pick.there)) (in_map _ (by first | assumption | omega | (simp only [List.length_cons, List.length_nil]; omega) | decide) rfl) | exact rd_row (by repeat (first | exact Pick.here | apply Pick.there))) (by decide) rfl (by first | assumption | omega | (simp only [List.length_cons, List.length_nil]; omega))) (Hp.le_refl _) (by repeat (first | exact Ent.nil _ | exact Ent.refl _ | (refine Ent.pick (by repeat (first | exact Pick.here | apply Pick.there)) ?_) | refine Ent.skip ?_)) (by kernel_rfl) ?_
              refine r_take (i := 16) (bs' := #[true, true, true, true, true, true, true, true, true, true, false, false, false, true, true, true, true, false, false, false, false]) rfl (by kernel_rfl) (by kernel_rfl) (by kernel_rfl) (fun _ _ _ h => h) rfl wn (q_loade (enc := encSL) (xs := bs) (j := y.d.1) (off := 0) sc_32 rfl (by first | assumption | exact rd_ro (by assumption) | exact rd_bun (L := (T.map (R1 5)).eraseIdx i) (by repeat (first | exact Pick.here | apply Pick.there)) (in_map _ (by first | assumption | omega | (simp only [List.length_cons, List.length_nil]; omega) | decide) rfl) | exact rd_row (by repeat (first | exact Pick.here | apply Pick.there))) (fun _ => rfl) (by first | assumption | omega | (simp only [List.length_cons, List.length_nil]; omega)) (by decide) rfl) (Hp.le_refl _) (by repeat (first | exact Ent.nil _ | exact Ent.refl _ | (refine Ent.pick (by repeat (first | exact Pick.here | apply Pick.there)) ?_) | refine Ent.skip ?_)) (by kernel_rfl) ?_
              refine r_one (i := 10) (bs' := #[true, true, true, true, true, true, true, true, true, true, true, false, false, true, true, true, true, false, false, false, false]) (by kernel_rfl) (by kernel_rfl) ?_
              refine o_step rfl (s_q rfl wn (q_indexe i Tryd.underlying47 sz_82 rfl rfl (rd_row (by repeat (first | exact Pick.here | apply Pick.there))) (by decide) rfl (by first | assumption | omega | (simp only [List.length_cons, List.length_nil]; omega))) ?_)
              refine r_cont (Hp.le_refl _) (by repeat (first | exact Ent.nil _ | exact Ent.refl _ | (refine Ent.pick (by repeat (first | exact Pick.here | apply Pick.there)) ?_) | refine Ent.skip ?_)) ?_
              refine r_take (i := 11) (bs' := #[true, true, true, true, true, true, true, true, true, true, true, true, false, true, true, true, true, false, false, false, false]) rfl (by kernel_rfl) (by kernel_rfl) (by kernel_rfl) (fun _ _ _ h => h) rfl wn (q_fielde rfl fo_82_1) (Hp.le_refl _) (by repeat (first | exact Ent.nil _ | exact Ent.refl _ | (refine Ent.pick (by repeat (first | exact Pick.here | apply Pick.there)) ?_) | refine Ent.skip ?_)) (by kernel_rfl) ?_
              refine r_one (i := 12) (bs' := #[true, true, true, true, true, true, true, true, true, true, true, true, true, true, true, true, true, false, false, false, false]) (by kernel_rfl) (by kernel_rfl) ?_
              refine o_step rfl (s_q rfl wn (q_as (v := .slice y.d.2.1 ((T.getD i default).B.xs ++ catS (bs.take y.d.1)).length y.d.2.2) (q_loade (enc := encRFile) (xs := (T.set i (⟨(T.getD i default).Name, ⟨y.d.2.1, ((T.getD i default).B.xs ++ catS (bs.take y.d.1)), y.d.2.2⟩, (T.getD i default).Safe⟩ : RFile))) (j := i) (off := 1) sc_32 rfl (rd_row (by repeat (first | exact Pick.here | apply Pick.there))) (fun _ => rfl) hi9 (by decide) rfl) (by rw [getD_set hi]; rfl)) ?_)
              refine r_cont (Hp.le_refl _) (by repeat (first | exact Ent.nil _ | exact Ent.refl _ | (refine Ent.pick (by repeat (first | exact Pick.here | apply Pick.there)) ?_) | refine Ent.skip ?_)) ?_
              refine r_one (i := 17) (bs' := #[true, true, true, true, true, true, true, true, true, true, true, true, true, true, true, true, true, true, false, false, false]) (by kernel_rfl) (by kernel_rfl) ?_
              refine o_step rfl (s_s rfl wn (s_appendn (enc := encB) (xs := (((T.getD i default).B.xs ++ catS (bs.take y.d.1)) : List UInt8)) (ys := ((bs.getD y.d.1 default).xs : List UInt8)) (Γ' := fun a' cap' => _) Tryd.underlying32 eo_5 (by decide) rfl rfl (rd_ro (hbm _ (getD_in (by omega)))) (oneB _) (by first | omega | (simp only [List.length_append, List.length_cons, List.length_nil] at *; omega)) (by first | omega | (simp only [List.length_append, List.length_cons, List.length_nil] at *; omega)) (fun _ _ => (by repeat (first | exact Pick.here | apply Pick.there)))) ?_)
              rintro _ _ ⟨a80, c80, rfl, rfl⟩
              refine r_cont (Hp.le_refl _) (by repeat (first | exact Ent.nil _ | exact Ent.refl _ | (refine Ent.pick (by repeat (first | exact Pick.here | apply Pick.there)) ?_) | refine Ent.skip ?_)) ?_
              refine r_one (i := 18) (bs' := #[true, true, true, true, true, true, true, true, true, true, true, true, true, true, true, true, true, true, true, false, false]) (by kernel_rfl) (by kernel_rfl) ?_
              refine o_step rfl (s_q rfl wn (q_indexe i Tryd.underlying47 sz_82 rfl rfl (rd_row (by repeat (first | exact Pick.here | apply Pick.there))) (by decide) rfl (by first | assumption | omega | (simp only [List.length_cons, List.length_nil]; omega))) ?_)
              refine r_cont (Hp.le_refl _) (by repeat (first | exact Ent.nil _ | exact Ent.refl _ | (refine Ent.pick (by repeat (first | exact Pick.here | apply Pick.there)) ?_) | refine Ent.skip ?_)) ?_
              refine r_take (i := 19) (bs' := #[true, true, true, true, true, true, true, true, true, true, true, true, true, true, true, true, true, true, true, true, false]) rfl (by kernel_rfl) (by kernel_rfl) (by kernel_rfl) (fun _ _ _ h => h) rfl wn (q_fielde rfl fo_82_1) (Hp.le_refl _) (by repeat (first | exact Ent.nil _ | exact Ent.refl _ | (refine Ent.pick (by repeat (first | exact Pick.here | apply Pick.there)) ?_) | refine Ent.skip ?_)) (by kernel_rfl) ?_
              refine r_one (i := 20) (bs' := #[true, true, true, true, true, true, true, true, true, true, true, true, true, true, true, true, true, true, true, true, true]) (by kernel_rfl) (by kernel_rfl) ?_
              rw [show ((T.getD i default).B.xs ++ catS (bs.take y.d.1)).length + (bs.getD y.d.1 default).xs.length = (((T.getD i default).B.xs ++ catS (bs.take y.d.1)) ++ (bs.getD y.d.1 default).xs).length from (List.length_append ..).symm]
              refine o_step rfl (s_s0 wn (s_storee (ws := [.slice a80 ((((T.getD i default).B.xs ++ catS (bs.take y.d.1)) ++ (bs.getD y.d.1 default).xs).length) c80]) (enc := encRFile) (xs := (T.set i (⟨(T.getD i default).Name, ⟨y.d.2.1, ((T.getD i default).B.xs ++ catS (bs.take y.d.1)), y.d.2.2⟩, (T.getD i default).Safe⟩ : RFile))) (j := i) (off := 1) (⟨((T.set i (⟨(T.getD i default).Name, ⟨y.d.2.1, ((T.getD i default).B.xs ++ catS (bs.take y.d.1)), y.d.2.2⟩, (T.getD i default).Safe⟩ : RFile)).getD i default).Name, ⟨a80, (((T.getD i default).B.xs ++ catS (bs.take y.d.1)) ++ (bs.getD y.d.1 default).xs), c80⟩, ((T.set i (⟨(T.getD i default).Name, ⟨y.d.2.1, ((T.getD i default).B.xs ++ catS (bs.take y.d.1)), y.d.2.2⟩, (T.getD i default).Safe⟩ : RFile)).getD i default).Safe⟩ : RFile) rfl rfl rfl sz_32 (by simp) (by simp [Value.oneCell', strB, ptV, SL.v]) (by repeat (first | exact Pick.here | apply Pick.there)) (fun _ => rfl) (by first | assumption | omega | (simp only [List.length_cons, List.length_nil]; omega)) (by simp) (by first | rfl | simp [encRFile])) ?_)
              rintro _ _ ⟨rfl, rfl⟩
              refine r_cont (Hp.le_refl _) (by repeat (first | exact Ent.nil _ | exact Ent.refl _ | (refine Ent.pick (by repeat (first | exact Pick.here | apply Pick.there)) ?_) | refine Ent.skip ?_)) ?_
              refine r_done (by kernel_rfl) ?_
              refine k_blk_n ?_
              refine k_then_n ?_
              refine c_region ?_
              refine l_step (s_q rfl wn (q_move rfl) ?_)
              refine l_step (s_q rfl wn (q_add rfl rfl (by omega) (by omega)) ?_)
              refine l_step (s_q rfl wn (q_assign rfl) ?_)
              refine l_nil ?_
              refine k_then_n ?_
              have hYX : ((T.getD i default).B.xs ++ catS (bs.take y.d.1)) ++ (bs.getD y.d.1 default).xs = ((T.getD i default).B.xs ++ catS (bs.take (y.d.1 + 1))) := by rw [take_succ_getD _ _ (by omega), catS_snoc, List.append_assoc]
              rw [hYX]
              have hTT : (T.set i (⟨(T.getD i default).Name, ⟨y.d.2.1, ((T.getD i default).B.xs ++ catS (bs.take y.d.1)), y.d.2.2⟩, (T.getD i default).Safe⟩ : RFile)).set i (⟨((T.set i (⟨(T.getD i default).Name, ⟨y.d.2.1, ((T.getD i default).B.xs ++ catS (bs.take y.d.1)), y.d.2.2⟩, (T.getD i default).Safe⟩ : RFile)).getD i default).Name, ⟨a80, ((T.getD i default).B.xs ++ catS (bs.take (y.d.1 + 1))), c80⟩, ((T.set i (⟨(T.getD i default).Name, ⟨y.d.2.1, ((T.getD i default).B.xs ++ catS (bs.take y.d.1)), y.d.2.2⟩, (T.getD i default).Safe⟩ : RFile)).getD i default).Safe⟩ : RFile) = (T.set i (⟨(T.getD i default).Name, ⟨a80, ((T.getD i default).B.xs ++ catS (bs.take (y.d.1 + 1))), c80⟩, (T.getD i default).Safe⟩ : RFile)) := by rw [getD_set hi, List.set_set]
              rw [hTT]
              exact t_next (⟨(y.d.1 + 1, a80, c80), none, 0, none, 0, none, 0⟩ : Lp _) ⟨by simp only []; omega, by simp only []; omega⟩ (.cons rfl (by first | rfl | exact inte (by omega) | (simp; done) | (simp <;> omega) | simp [*]) (.cons rfl (by first | rfl | exact inte (by omega) | (simp; done) | (simp <;> omega) | simp [*]) (.cons rfl (by first | rfl | exact inte (by omega) | (simp; done) | (simp <;> omega) | simp [*]) (.cons rfl (by first | rfl | exact inte (by omega) | (simp; done) | (simp <;> omega) | simp [*]) (.cons rfl (by first | rfl | exact inte (by omega) | (simp; done) | (simp <;> omega) | simp [*]) (.nil _)))))) (by repeat (first | exact Ent.nil _ | exact Ent.refl _ | (refine Ent.pick (by repeat (first | exact Pick.here | apply Pick.there)) ?_) | refine Ent.skip ?_))
            · try simp only [Bool.and_eq_true, Bool.or_eq_true, Bool.not_eq_true', Bool.and_eq_false_iff, Bool.or_eq_false_iff, Bool.not_eq_false', decide_eq_true_eq, decide_eq_false_iff_not, Bool.not_eq_eq_eq_not, Bool.not_true, Bool.not_false, Bool.not_eq_true, Bool.not_eq_false, beq_iff_eq, bne_iff_ne, ne_eq, Decidable.not_not] at h5
              refine c_exit ?_
              refine k_then_x ?_
              refine k_then_x ?_
              refine k_blk_x ?_
              refine k_then_n ?_
              refine c_seq ?_
              refine c_region ?_
              refine l_step (s_q rfl wn (q_assign rfl) ?_)
              refine l_nil ?_
              refine k_then_n ?_
              refine c_ret ?_
              have hk2 : y.d.1 = bs.length := by omega
              rw [hk2, List.take_length]
              refine Tr.ent (Ent.trans (Ent.pick (A := R1 5 (⟨(T.getD i default).Name, ⟨y.d.2.1, ((T.getD i default).B.xs ++ catS bs), y.d.2.2⟩, (T.getD i default).Safe⟩ : RFile)) (by repeat (first | exact Pick.here | apply Pick.there)) (Ent.pick (A := Bun ((T.map (R1 5)).eraseIdx i)) (by repeat (first | exact Pick.here | apply Pick.there)) (Ent.refl _))) (rb_set (T := T) (i := i) (by omega) (⟨(T.getD i default).Name, ⟨y.d.2.1, ((T.getD i default).B.xs ++ catS bs), y.d.2.2⟩, (T.getD i default).Safe⟩ : RFile))) ?_
              rw [show T.length = (T.set i (⟨(T.getD i default).Name, ⟨y.d.2.1, ((T.getD i default).B.xs ++ catS bs), y.d.2.2⟩, (T.getD i default).Safe⟩ : RFile)).length from (List.length_set ..).symm]
              have hr : (appI room (cI e c) (rvw T) s (catS bs)) = (0, rvw (T.set i (⟨(T.getD i default).Name, ⟨y.d.2.1, ((T.getD i default).B.xs ++ catS bs), y.d.2.2⟩, (T.getD i default).Safe⟩ : RFile))) := by unfold appI; rw [if_neg h0, if_neg (by rw [hnb]; decide), if_neg (by rw [usedR_vw, rvw_len, h3]; decide), if_pos hq, rset hnd hi (⟨(T.getD i default).Name, ⟨y.d.2.1, ((T.getD i default).B.xs ++ catS bs), y.d.2.2⟩, (T.getD i default).Safe⟩ : RFile) rfl, hin, getD_of hg]
              exact t_ret [.pts r (encRDisk (⟨room, ⟨la, (T.set i (⟨(T.getD i default).Name, ⟨y.d.2.1, ((T.getD i default).B.xs ++ catS bs), y.d.2.2⟩, (T.getD i default).Safe⟩ : RFile)).length, lc⟩, e, (decR e c)⟩ : RDisk)) 49, .row 82 3 la (T.set i (⟨(T.getD i default).Name, ⟨y.d.2.1, ((T.getD i default).B.xs ++ catS bs), y.d.2.2⟩, (T.getD i default).Safe⟩ : RFile)).length lc ((T.set i (⟨(T.getD i default).Name, ⟨y.d.2.1, ((T.getD i default).B.xs ++ catS bs), y.d.2.2⟩, (T.getD i default).Safe⟩ : RFile)).flatMap encRFile), RB 5 (T.set i (⟨(T.getD i default).Name, ⟨y.d.2.1, ((T.getD i default).B.xs ++ catS bs), y.d.2.2⟩, (T.getD i default).Safe⟩ : RFile))] rfl (.tmp rfl .nil) rfl (Hp.le_refl _) ⟨rfl, la, lc, (T.set i (⟨(T.getD i default).Name, ⟨y.d.2.1, ((T.getD i default).B.xs ++ catS bs), y.d.2.2⟩, (T.getD i default).Safe⟩ : RFile)), by rw [hr]; rfl, by rw [hr], rfl⟩ (by repeat (first | exact Ent.nil _ | exact Ent.refl _ | (refine Ent.pick (by repeat (first | exact Pick.here | apply Pick.there)) ?_) | refine Ent.skip ?_))
end Go.Dsk.RE

/-
  Package disk, walked.
-/
set_option maxRecDepth 100000
set_option maxHeartbeats 4000000
set_option linter.unusedSimpArgs false
set_option linter.unusedVariables false
namespace Go.Dsk.RF
open Go Go.SL Go.Proofs Go.Dsk Go.Dsk.L Go.Dsk.RA Go.Dsk.RB Go.Dsk.RC Go.Dsk.RD Go.Dsk.RE
attribute [local irreducible] Go.SL.Ent
theorem fo_49_1 : fieldOff Tryd.prog 49 1 = some (1, 47) := by kernel_rfl
theorem fo_49_2 : fieldOff Tryd.prog 49 2 = some (2, 4) := by kernel_rfl
theorem fo_82_1 : fieldOff Tryd.prog 82 1 = some (1, 32) := by kernel_rfl
theorem fo_82_2 : fieldOff Tryd.prog 82 2 = some (2, 3) := by kernel_rfl
theorem sc_3 : isScalar Tryd.prog 3 = true := by kernel_rfl
theorem sc_32 : isScalar Tryd.prog 32 = true := by kernel_rfl
theorem sc_47 : isScalar Tryd.prog 47 = true := by kernel_rfl
theorem sz_3 : sizeIs Tryd.prog 3 = some 1 := by kernel_rfl
theorem sz_32 : sizeIs Tryd.prog 32 = some 1 := by kernel_rfl
theorem sz_4 : sizeIs Tryd.prog 4 = some 1 := by kernel_rfl
theorem sz_5 : sizeIs Tryd.prog 5 = some 1 := by kernel_rfl
theorem sz_82 : sizeIs Tryd.prog 82 = some 3 := by kernel_rfl

theorem rcrash_spec (r : Nat) (room : Int) (la : Option Addr) (lc : Nat) (e : Bool) (c : Int) (T : RT) (keep_a : Option Addr) (keep_n keep_c : Nat) (keep : List Int) (hkeep_n : keep.length = keep_n) (ρ : Hp) (hT : VOk (rvw T)) (hro : Ro ρ 1 keep_a keep_n keep_c (keep.flatMap encI)) : Spec0 Tryd.prog 44 #[.pointer (some ⟨r, 0, none⟩), .slice keep_a keep_n keep_c] ρ [.pts r (encRDisk (⟨room, ⟨la, T.length, lc⟩, e, c⟩ : RDisk)) 49, .row 82 3 la T.length lc (T.flatMap encRFile), RB 5 T] (fun v Γ' => ∃ T', v = .int .i64 (crK keep (mkeys (rvw T)) (rvw T) T.length).2 ∧ rvw T' = (crK keep (mkeys (rvw T)) (rvw T) T.length).1 ∧ Γ' = [.pts r (encRDisk (⟨room, ⟨la, T'.length, lc⟩, false, c⟩ : RDisk)) 49, .row 82 3 la T'.length lc (T'.flatMap encRFile), RB 5 T']) := by
  refine spec_of (n := 96) (vs := [_, _]) (σ := [(0, _), (1, _)]) Tryd.func44 rfl rfl rfl rfl fun E Δ => ?_
  simp only [List.cons_append, List.nil_append]
  have hrob : keep_n ≤ 9223372036854775807 := Nat.le_trans hro.2.1 hro.2.2.1
  have hln := rat_ln hT
  have hus := rat_us hT
  have hnd := rnd hT
  refine c_seq ?_
  refine c_region ?_
  refine l_step (s_q rfl wn (q_assign rfl) ?_)
  refine l_nil ?_
  refine k_then_n ?_
  refine c_seq ?_
  refine c_region ?_
  refine l_step (s_q rfl wn (q_move rfl) ?_)
  refine l_step (s_q rfl wn (q_nilCheck rfl) ?_)
  refine l_step (s_q rfl wn (q_fieldp rfl fo_49_2) ?_)
  refine l_step (s_s0 wn (s_storep (ws := [.bool false]) (cs := encRDisk (⟨room, ⟨la, T.length, lc⟩, e, c⟩ : RDisk)) (cs' := encRDisk (⟨room, ⟨la, T.length, lc⟩, false, c⟩ : RDisk)) rfl rfl rfl sz_4 (by simp [Value.oneCell', strB, ptV, SL.v, SH.v]) (by simp [encRDisk]) rfl (by repeat (first | exact Pick.here | apply Pick.there))) ?_)
  rintro _ _ ⟨rfl, rfl⟩
  refine l_nil ?_
  refine k_then_n ?_
  refine c_seq ?_
  refine c_region ?_
  refine l_step (s_q rfl wn (q_assign rfl) ?_)
  refine l_nil ?_
  refine k_then_n ?_
  refine c_seq ?_
  refine c_seq ?_
  refine c_region ?_
  refine l_step (s_q rfl wn (q_assign rfl) ?_)
  refine l_nil ?_
  refine k_then_n ?_
  refine c_block ?_
  refine Tr.env (σ' := [(0, _), (1, _), (4, _), (5, _), (6, _)]) (.cons rfl rfl (.cons rfl rfl (.cons rfl rfl (.cons rfl rfl (.cons rfl rfl (.nil _)))))) ?_
  refine t_loop (ι := Lp (Nat × RT × Int)) (fun x => x.d.1 ≤ T.length ∧ x.d.2.1.map (·.Name) = T.map (·.Name) ∧ (rvw x.d.2.1, x.d.2.2) = (crK keep (T.map (·.Name)) (rvw T) x.d.1) ∧ (0 ≤ x.d.2.2 ∧ x.d.2.2 + (usedR x.d.2.1 : Int) = usedR T) ∧ ∀ e ∈ x.d.2.1, 0 ≤ e.Safe ∧ e.Safe ≤ (e.B.xs.length : Int)) (fun x => T.length - x.d.1) (fun x => [(0, .pointer (some ⟨r, 0, none⟩)), (1, .slice keep_a keep_n keep_c), (4, .int .i64 0), (5, .int .i64 x.d.2.2), (6, .int .i64 (x.d.1 : Int))]) (fun x => .pts r (encRDisk (⟨room, ⟨la, x.d.2.1.length, lc⟩, false, c⟩ : RDisk)) 49 :: .row 82 3 la x.d.2.1.length lc (x.d.2.1.flatMap encRFile) :: RB 5 x.d.2.1 :: Δ) (⟨(0, T, 0), none, 0, none, 0, none, 0⟩ : Lp _) ⟨Nat.zero_le _, rfl, rfl, ⟨Int.le_refl _, Int.zero_add _⟩, fun e he => hT.sf (rp e) (List.mem_map.2 ⟨e, he, rfl⟩)⟩ ?_ ?_ ?_
  · exact .cons rfl (by first | rfl | exact inte (by omega) | (simp; done) | (simp <;> omega) | simp [*]) (.cons rfl (by first | rfl | exact inte (by omega) | (simp; done) | (simp <;> omega) | simp [*]) (.cons rfl (by first | rfl | exact inte (by omega) | (simp; done) | (simp <;> omega) | simp [*]) (.cons rfl (by first | rfl | exact inte (by omega) | (simp; done) | (simp <;> omega) | simp [*]) (.cons rfl (by first | rfl | exact inte (by omega) | (simp; done) | (simp <;> omega) | simp [*]) (.nil _)))))
  · exact (by repeat (first | exact Ent.nil _ | exact Ent.refl _ | (refine Ent.pick (by repeat (first | exact Pick.here | apply Pick.there)) ?_) | refine Ent.skip ?_))
  intro x hx
  obtain ⟨hx1, hx2, hx3, hx4, hx5⟩ := hx
  have hlx : x.d.2.1.length = T.length := by have := congrArg List.length hx2; simpa using this
  refine c_seq ?_
  refine c_seq ?_
  refine c_region ?_
  refine l_step (s_q rfl wn (q_move rfl) ?_)
  refine l_step (s_q rfl wn (q_move rfl) ?_)
  refine l_step (s_q rfl wn (q_nilCheck rfl) ?_)
  refine l_step (s_q rfl wn (q_fieldp rfl fo_49_1) ?_)
  refine l_step (s_q rfl wn (q_loadp (v := .slice la x.d.2.1.length lc) sc_47 rfl (by repeat (first | exact Pick.here | apply Pick.there)) rfl) ?_)
  refine l_step (s_q rfl wn (q_len Tryd.underlying47 rfl) ?_)
  refine l_step (s_q rfl wn (q_lss rfl rfl) ?_)
  refine l_nil ?_
  refine k_then_n ?_
  refine c_cond rfl (fun h0 => ?_) (fun h0 => ?_)
  · try simp only [Bool.and_eq_true, Bool.or_eq_true, Bool.not_eq_true', Bool.and_eq_false_iff, Bool.or_eq_false_iff, Bool.not_eq_false', decide_eq_true_eq, decide_eq_false_iff_not, Bool.not_eq_eq_eq_not, Bool.not_true, Bool.not_false, Bool.not_eq_true, Bool.not_eq_false, beq_iff_eq, bne_iff_ne, ne_eq, Decidable.not_not] at h0
    have hi : x.d.1 < x.d.2.1.length := by omega
    have hua := hx5 (x.d.2.1.getD x.d.1 default) (by simp [List.getD, hi])
    have hub := usedR_at hi
    refine c_skip ?_
    refine k_then_n ?_
    refine c_seq ?_
    refine c_block ?_
    refine c_seq ?_
    refine c_region ?_
    refine l_step (s_q rfl wn (q_move rfl) ?_)
    refine l_step (s_q rfl wn (q_nilCheck rfl) ?_)
    refine l_step (s_q rfl wn (q_fieldp rfl fo_49_1) ?_)
    refine l_step (s_q rfl wn (q_loadp (v := .slice la x.d.2.1.length lc) sc_47 rfl (by repeat (first | exact Pick.here | apply Pick.there)) rfl) ?_)
    refine l_step (s_q rfl wn (q_move rfl) ?_)
    refine l_step (s_q rfl wn (q_indexe x.d.1 Tryd.underlying47 sz_82 rfl rfl (rd_row (by repeat (first | exact Pick.here | apply Pick.there))) (by decide) rfl (by first | assumption | omega | (simp only [List.length_cons, List.length_nil]; omega))) ?_)
    refine l_step (s_q rfl wn (q_fielde rfl fo_82_2) ?_)
    refine l_step (s_q rfl wn (q_loade (enc := encRFile) (xs := x.d.2.1) (j := x.d.1) (off := 2) sc_3 rfl (rd_row (by repeat (first | exact Pick.here | apply Pick.there))) (fun _ => rfl) (by first | assumption | omega | (simp only [List.length_cons, List.length_nil]; omega)) (by decide) rfl) ?_)
    refine l_step (s_q rfl wn (q_assign rfl) ?_)
    refine l_nil ?_
    refine k_then_n ?_
    refine c_seq ?_
    refine c_seq ?_
    refine c_region ?_
    refine l_step (s_q rfl wn (q_move rfl) ?_)
    refine l_step (s_q rfl wn (q_move rfl) ?_)
    refine l_step (s_q rfl wn (q_len Tryd.underlying51 rfl) ?_)
    refine l_step (s_q rfl wn (q_lss rfl rfl) ?_)
    refine l_step (s_q rfl wn (q_move rfl) ?_)
    refine l_step (s_qg rfl (ask_t rfl rfl) (b := (decide ((x.d.1 : Int) < (keep_n : Int)))) (fun hb => q_move rfl) ?_)
    refine l_step (s_qg rfl (ask_t rfl rfl) (b := (decide ((x.d.1 : Int) < (keep_n : Int)))) (fun hb => q_move rfl) ?_)
    refine l_step (s_qg rfl (ask_t rfl rfl) (b := (decide ((x.d.1 : Int) < (keep_n : Int)))) (fun hb => OpQ.env (.cons rfl (gd_t hb) (.cons rfl (gd_t hb) (.nil _)) : EnvLe [(33, .slice keep_a keep_n keep_c), (34, .int .i64 (x.d.1 : Int))] _) (q_indexe x.d.1 Tryd.underlying51 sz_3 rfl rfl (by first | assumption | exact rd_ro (by assumption) | exact rd_row (by repeat (first | exact Pick.here | apply Pick.there))) (by decide) rfl (by first | assumption | omega | (have hb2 := hb; (try simp only [Bool.and_eq_true, Bool.or_eq_true, Bool.not_eq_true', Bool.and_eq_false_iff, Bool.or_eq_false_iff, Bool.not_eq_false', decide_eq_true_eq, decide_eq_false_iff_not, Bool.not_eq_eq_eq_not, Bool.not_true, Bool.not_false, Bool.not_eq_true, Bool.not_eq_false, beq_iff_eq, bne_iff_ne, ne_eq, Decidable.not_not] at hb2); omega) | (simp only [List.length_cons, List.length_nil]; omega)))) ?_)
    refine l_step (s_qg rfl (ask_t rfl rfl) (b := (decide ((x.d.1 : Int) < (keep_n : Int)))) (fun hb => OpQ.env (.cons rfl (gd_t hb) (.nil _) : EnvLe [(35, pe keep_a x.d.1 1 0)] _) (q_loade (enc := encI) (xs := keep) (j := x.d.1) (off := 0) sc_3 rfl (by first | assumption | exact rd_ro (by assumption) | exact rd_row (by repeat (first | exact Pick.here | apply Pick.there))) (fun _ => rfl) (by first | assumption | omega | (have hb2 := hb; (try simp only [Bool.and_eq_true, Bool.or_eq_true, Bool.not_eq_true', Bool.and_eq_false_iff, Bool.or_eq_false_iff, Bool.not_eq_false', decide_eq_true_eq, decide_eq_false_iff_not, Bool.not_eq_eq_eq_not, Bool.not_true, Bool.not_false, Bool.not_eq_true, Bool.not_eq_false, beq_iff_eq, bne_iff_ne, ne_eq, Decidable.not_not] at hb2); omega) | (simp only [List.length_cons, List.length_nil]; omega)) (by decide) rfl)) ?_)
    refine l_step (s_qg rfl (ask_t rfl rfl) (b := (decide ((x.d.1 : Int) < (keep_n : Int)))) (fun hb => OpQ.env (.cons rfl (gd_t hb) (.nil _) : EnvLe [(36, .int .i64 (keep.getD x.d.1 default))] _) (q_gtr rfl rfl)) ?_)
    refine l_step (s_q rfl wn (q_pick_and rfl rfl rfl (fun h => h)) ?_)
    refine l_nil ?_
    refine k_then_n ?_
    refine t_cutq (ι := Unit) (fun _u => True) (fun _u => [(0, .pointer (some ⟨r, 0, none⟩)), (1, .slice keep_a keep_n keep_c), (4, .int .i64 0), (5, .int .i64 x.d.2.2), (6, .int .i64 (x.d.1 : Int)), (7, .int .i64 ((x.d.2.1.getD x.d.1 default).Safe + (stayF keep x.d.1 ((x.d.2.1.getD x.d.1 default).B.xs, (x.d.2.1.getD x.d.1 default).Safe)))), (11, .int .i64 (x.d.1 : Int)), (12, .pointer (some ⟨r, 0, none⟩)), (13, .pointer (some ⟨r, 0, none⟩)), (14, .pointer (some ⟨r, 1, none⟩)), (15, .slice la x.d.2.1.length lc), (16, .int .i64 (x.d.2.1.length : Int)), (17, .bool (decide ((x.d.1 : Int) < (x.d.2.1.length : Int)))), (20, .pointer (some ⟨r, 0, none⟩)), (21, .pointer (some ⟨r, 0, none⟩)), (22, .pointer (some ⟨r, 1, none⟩)), (23, .slice la x.d.2.1.length lc), (24, .int .i64 (x.d.1 : Int)), (25, pe la x.d.1 3 0), (26, pe la x.d.1 3 2), (27, .int .i64 ((x.d.2.1.getD x.d.1 default).Safe)), (28, .int .i64 (x.d.1 : Int)), (29, .slice keep_a keep_n keep_c), (30, .int .i64 (keep_n : Int)), (31, .bool (decide ((x.d.1 : Int) < (keep_n : Int)))), (32, .bool (decide ((x.d.1 : Int) < (keep_n : Int)))), (33, gd (decide ((x.d.1 : Int) < (keep_n : Int))) (.slice keep_a keep_n keep_c)), (34, gd (decide ((x.d.1 : Int) < (keep_n : Int))) (.int .i64 (x.d.1 : Int))), (35, gd (decide ((x.d.1 : Int) < (keep_n : Int))) (pe keep_a x.d.1 1 0)), (36, gd (decide ((x.d.1 : Int) < (keep_n : Int))) (.int .i64 (keep.getD x.d.1 default))), (37, gd (decide ((x.d.1 : Int) < (keep_n : Int))) (.bool (decide (0 < (keep.getD x.d.1 default))))), (38, .bool ((decide ((x.d.1 : Int) < (keep_n : Int))) && (decide (0 < (keep.getD x.d.1 default)))))]) (fun _u => .pts r (encRDisk (⟨room, ⟨la, x.d.2.1.length, lc⟩, false, c⟩ : RDisk)) 49 :: .row 82 3 la x.d.2.1.length lc (x.d.2.1.flatMap encRFile) :: RB 5 x.d.2.1 :: Δ) ?_ ?_
    · skip
      refine c_cond rfl (fun h1 => ?_) (fun h1 => ?_)
      · try simp only [Bool.and_eq_true, Bool.or_eq_true, Bool.not_eq_true', Bool.and_eq_false_iff, Bool.or_eq_false_iff, Bool.not_eq_false', decide_eq_true_eq, decide_eq_false_iff_not, Bool.not_eq_eq_eq_not, Bool.not_true, Bool.not_false, Bool.not_eq_true, Bool.not_eq_false, beq_iff_eq, bne_iff_ne, ne_eq, Decidable.not_not] at h1
        refine c_draw (m := 19) (bs := #[false, false, false, false, false, false, false, false, false, false, false, false, false, false, false, false, false, false, false]) [.pts r (encRDisk (⟨room, ⟨la, x.d.2.1.length, lc⟩, false, c⟩ : RDisk)) 49, .row 82 3 la x.d.2.1.length lc (x.d.2.1.flatMap encRFile), RB 5 x.d.2.1] (by kernel_rfl) rfl (by kernel_rfl) ?_
        refine r_take (i := 0) (bs' := #[true, false, false, false, false, false, false, false, false, false, false, false, false, false, false, false, false, false, false]) rfl (by kernel_rfl) (by kernel_rfl) (by kernel_rfl) (fun _ _ _ h => h) rfl wn (q_move rfl) (Hp.le_refl _) (by repeat (first | exact Ent.nil _ | exact Ent.refl _ | (refine Ent.pick (by repeat (first | exact Pick.here | apply Pick.there)) ?_) | refine Ent.skip ?_)) (by kernel_rfl) ?_
        refine r_take (i := 1) (bs' := #[true, true, false, false, false, false, false, false, false, false, false, false, false, false, false, false, false, false, false]) rfl (by kernel_rfl) (by kernel_rfl) (by kernel_rfl) (fun _ _ _ h => h) rfl wn (q_move rfl) (Hp.le_refl _) (by repeat (first | exact Ent.nil _ | exact Ent.refl _ | (refine Ent.pick (by repeat (first | exact Pick.here | apply Pick.there)) ?_) | refine Ent.skip ?_)) (by kernel_rfl) ?_
        refine r_take (i := 2) (bs' := #[true, true, true, false, false, false, false, false, false, false, false, false, false, false, false, false, false, false, false]) rfl (by kernel_rfl) (by kernel_rfl) (by kernel_rfl) (fun _ _ _ h => h) rfl wn (q_move rfl) (Hp.le_refl _) (by repeat (first | exact Ent.nil _ | exact Ent.refl _ | (refine Ent.pick (by repeat (first | exact Pick.here | apply Pick.there)) ?_) | refine Ent.skip ?_)) (by kernel_rfl) ?_
        refine r_take (i := 3) (bs' := #[true, true, true, true, false, false, false, false, false, false, false, false, false, false, false, false, false, false, false]) rfl (by kernel_rfl) (by kernel_rfl) (by kernel_rfl) (fun _ _ _ h => h) rfl wn (q_indexe x.d.1 Tryd.underlying51 sz_3 rfl rfl (by first | assumption | exact rd_ro (by assumption) | exact rd_row (by repeat (first | exact Pick.here | apply Pick.there))) (by decide) rfl (by first | assumption | omega | (simp only [List.length_cons, List.length_nil]; omega))) (Hp.le_refl _) (by repeat (first | exact Ent.nil _ | exact Ent.refl _ | (refine Ent.pick (by repeat (first | exact Pick.here | apply Pick.there)) ?_) | refine Ent.skip ?_)) (by kernel_rfl) ?_
        refine r_take (i := 4) (bs' := #[true, true, true, true, true, false, false, false, false, false, false, false, false, false, false, false, false, false, false]) rfl (by kernel_rfl) (by kernel_rfl) (by kernel_rfl) (fun _ _ _ h => h) rfl wn (q_loade (enc := encI) (xs := keep) (j := x.d.1) (off := 0) sc_3 rfl (by first | assumption | exact rd_ro (by assumption) | exact rd_row (by repeat (first | exact Pick.here | apply Pick.there))) (fun _ => rfl) (by first | assumption | omega | (simp only [List.length_cons, List.length_nil]; omega)) (by decide) rfl) (Hp.le_refl _) (by repeat (first | exact Ent.nil _ | exact Ent.refl _ | (refine Ent.pick (by repeat (first | exact Pick.here | apply Pick.there)) ?_) | refine Ent.skip ?_)) (by kernel_rfl) ?_
        refine r_take (i := 5) (bs' := #[true, true, true, true, true, true, false, false, false, false, false, false, false, false, false, false, false, false, false]) rfl (by kernel_rfl) (by kernel_rfl) (by kernel_rfl) (fun _ _ _ h => h) rfl wn (q_move rfl) (Hp.le_refl _) (by repeat (first | exact Ent.nil _ | exact Ent.refl _ | (refine Ent.pick (by repeat (first | exact Pick.here | apply Pick.there)) ?_) | refine Ent.skip ?_)) (by kernel_rfl) ?_
        refine r_take (i := 6) (bs' := #[true, true, true, true, true, true, true, false, false, false, false, false, false, false, false, false, false, false, false]) rfl (by kernel_rfl) (by kernel_rfl) (by kernel_rfl) (fun _ _ _ h => h) rfl wn (q_nilCheck rfl) (Hp.le_refl _) (by repeat (first | exact Ent.nil _ | exact Ent.refl _ | (refine Ent.pick (by repeat (first | exact Pick.here | apply Pick.there)) ?_) | refine Ent.skip ?_)) (by kernel_rfl) ?_
        refine r_take (i := 7) (bs' := #[true, true, true, true, true, true, true, true, false, false, false, false, false, false, false, false, false, false, false]) rfl (by kernel_rfl) (by kernel_rfl) (by kernel_rfl) (fun _ _ _ h => h) rfl wn (q_fieldp rfl fo_49_1) (Hp.le_refl _) (by repeat (first | exact Ent.nil _ | exact Ent.refl _ | (refine Ent.pick (by repeat (first | exact Pick.here | apply Pick.there)) ?_) | refine Ent.skip ?_)) (by kernel_rfl) ?_
        refine r_take (i := 8) (bs' := #[true, true, true, true, true, true, true, true, true, false, false, false, false, false, false, false, false, false, false]) rfl (by kernel_rfl) (by kernel_rfl) (by kernel_rfl) (fun _ _ _ h => h) rfl wn (q_loadp (v := .slice la x.d.2.1.length lc) sc_47 rfl (by repeat (first | exact Pick.here | apply Pick.there)) rfl) (Hp.le_refl _) (by repeat (first | exact Ent.nil _ | exact Ent.refl _ | (refine Ent.pick (by repeat (first | exact Pick.here | apply Pick.there)) ?_) | refine Ent.skip ?_)) (by kernel_rfl) ?_
        refine r_take (i := 9) (bs' := #[true, true, true, true, true, true, true, true, true, true, false, false, false, false, false, false, false, false, false]) rfl (by kernel_rfl) (by kernel_rfl) (by kernel_rfl) (fun _ _ _ h => h) rfl wn (q_move rfl) (Hp.le_refl _) (by repeat (first | exact Ent.nil _ | exact Ent.refl _ | (refine Ent.pick (by repeat (first | exact Pick.here | apply Pick.there)) ?_) | refine Ent.skip ?_)) (by kernel_rfl) ?_
        refine r_take (i := 10) (bs' := #[true, true, true, true, true, true, true, true, true, true, true, false, false, false, false, false, false, false, false]) rfl (by kernel_rfl) (by kernel_rfl) (by kernel_rfl) (fun _ _ _ h => h) rfl wn (q_indexe x.d.1 Tryd.underlying47 sz_82 rfl rfl (rd_row (by repeat (first | exact Pick.here | apply Pick.there))) (by decide) rfl (by first | assumption | omega | (simp only [List.length_cons, List.length_nil]; omega))) (Hp.le_refl _) (by repeat (first | exact Ent.nil _ | exact Ent.refl _ | (refine Ent.pick (by repeat (first | exact Pick.here | apply Pick.there)) ?_) | refine Ent.skip ?_)) (by kernel_rfl) ?_
        refine r_take (i := 11) (bs' := #[true, true, true, true, true, true, true, true, true, true, true, true, false, false, false, false, false, false, false]) rfl (by kernel_rfl) (by kernel_rfl) (by kernel_rfl) (fun _ _ _ h => h) rfl wn (q_fielde rfl fo_82_1) (Hp.le_refl _) (by repeat (first | exact Ent.nil _ | exact Ent.refl _ | (refine Ent.pick (by repeat (first | exact Pick.here | apply Pick.there)) ?_) | refine Ent.skip ?_)) (by kernel_rfl) ?_
        refine r_take (i := 12) (bs' := #[true, true, true, true, true, true, true, true, true, true, true, true, true, false, false, false, false, false, false]) rfl (by kernel_rfl) (by kernel_rfl) (by kernel_rfl) (fun _ _ _ h => h) rfl wn (q_loade (enc := encRFile) (xs := x.d.2.1) (j := x.d.1) (off := 1) sc_32 rfl (rd_row (by repeat (first | exact Pick.here | apply Pick.there))) (fun _ => rfl) (by first | assumption | omega | (simp only [List.length_cons, List.length_nil]; omega)) (by decide) rfl) (Hp.le_refl _) (by repeat (first | exact Ent.nil _ | exact Ent.refl _ | (refine Ent.pick (by repeat (first | exact Pick.here | apply Pick.there)) ?_) | refine Ent.skip ?_)) (by kernel_rfl) ?_
        refine r_take (i := 13) (bs' := #[true, true, true, true, true, true, true, true, true, true, true, true, true, true, false, false, false, false, false]) rfl (by kernel_rfl) (by kernel_rfl) (by kernel_rfl) (fun _ _ _ h => h) rfl wn (q_len Tryd.underlying32 rfl) (Hp.le_refl _) (by repeat (first | exact Ent.nil _ | exact Ent.refl _ | (refine Ent.pick (by repeat (first | exact Pick.here | apply Pick.there)) ?_) | refine Ent.skip ?_)) (by kernel_rfl) ?_
        refine r_take (i := 14) (bs' := #[true, true, true, true, true, true, true, true, true, true, true, true, true, true, true, false, false, false, false]) rfl (by kernel_rfl) (by kernel_rfl) (by kernel_rfl) (fun _ _ _ h => h) rfl wn (q_move rfl) (Hp.le_refl _) (by repeat (first | exact Ent.nil _ | exact Ent.refl _ | (refine Ent.pick (by repeat (first | exact Pick.here | apply Pick.there)) ?_) | refine Ent.skip ?_)) (by kernel_rfl) ?_
        refine r_take (i := 15) (bs' := #[true, true, true, true, true, true, true, true, true, true, true, true, true, true, true, true, false, false, false]) rfl (by kernel_rfl) (by kernel_rfl) (by kernel_rfl) (fun _ _ _ h => h) rfl wn (q_sub rfl rfl (by omega) (by omega)) (Hp.le_refl _) (by repeat (first | exact Ent.nil _ | exact Ent.refl _ | (refine Ent.pick (by repeat (first | exact Pick.here | apply Pick.there)) ?_) | refine Ent.skip ?_)) (by kernel_rfl) ?_
        refine r_take (i := 16) (bs' := #[true, true, true, true, true, true, true, true, true, true, true, true, true, true, true, true, true, false, false]) rfl (by kernel_rfl) (by kernel_rfl) (by kernel_rfl) (fun _ _ _ h => h) rfl wn (q_min2 rfl rfl) (Hp.le_refl _) (by repeat (first | exact Ent.nil _ | exact Ent.refl _ | (refine Ent.pick (by repeat (first | exact Pick.here | apply Pick.there)) ?_) | refine Ent.skip ?_)) (by kernel_rfl) ?_
        refine r_take (i := 17) (bs' := #[true, true, true, true, true, true, true, true, true, true, true, true, true, true, true, true, true, true, false]) rfl (by kernel_rfl) (by kernel_rfl) (by kernel_rfl) (fun _ _ _ h => h) rfl wn (q_add rfl rfl (by omega) (by omega)) (Hp.le_refl _) (by repeat (first | exact Ent.nil _ | exact Ent.refl _ | (refine Ent.pick (by repeat (first | exact Pick.here | apply Pick.there)) ?_) | refine Ent.skip ?_)) (by kernel_rfl) ?_
        refine r_take (i := 18) (bs' := #[true, true, true, true, true, true, true, true, true, true, true, true, true, true, true, true, true, true, true]) rfl (by kernel_rfl) (by kernel_rfl) (by kernel_rfl) (fun _ _ _ h => h) rfl wn (q_assign rfl) (Hp.le_refl _) (by repeat (first | exact Ent.nil _ | exact Ent.refl _ | (refine Ent.pick (by repeat (first | exact Pick.here | apply Pick.there)) ?_) | refine Ent.skip ?_)) (by kernel_rfl) ?_
        refine r_done (by kernel_rfl) ?_
        refine k_then_n ?_
        exact t_next () trivial (.cons rfl (by first | rfl | exact inte (by omega) | (simp; done) | (simp <;> omega) | simp [*]) (.cons rfl (by first | rfl | exact inte (by omega) | (simp; done) | (simp <;> omega) | simp [*]) (.cons rfl (by first | rfl | exact inte (by omega) | (simp; done) | (simp <;> omega) | simp [*]) (.cons rfl (by first | rfl | exact inte (by omega) | (simp; done) | (simp <;> omega) | simp [*]) (.cons rfl (by first | rfl | exact inte (by omega) | (simp; done) | (simp <;> omega) | simp [*]) (.cons rfl (inte (by rw [stay_pos (f := ((x.d.2.1.getD x.d.1 default).B.xs, (x.d.2.1.getD x.d.1 default).Safe)) (by omega) h1.2])) (.cons rfl (by first | rfl | exact inte (by omega) | (simp; done) | (simp <;> omega) | simp [*]) (.cons rfl (by first | rfl | exact inte (by omega) | (simp; done) | (simp <;> omega) | simp [*]) (.cons rfl (by first | rfl | exact inte (by omega) | (simp; done) | (simp <;> omega) | simp [*]) (.cons rfl (by first | rfl | exact inte (by omega) | (simp; done) | (simp <;> omega) | simp [*]) (.cons rfl (by first | rfl | exact inte (by omega) | (simp; done) | (simp <;> omega) | simp [*]) (.cons rfl (by first | rfl | exact inte (by omega) | (simp; done) | (simp <;> omega) | simp [*]) (.cons rfl (by first | rfl | exact inte (by omega) | (simp; done) | (simp <;> omega) | simp [*]) (.cons rfl (by first | rfl | exact inte (by omega) | (simp; done) | (simp <;> omega) | simp [*]) (.cons rfl (by first | rfl | exact inte (by omega) | (simp; done) | (simp <;> omega) | simp [*]) (.cons rfl (by first | rfl | exact inte (by omega) | (simp; done) | (simp <;> omega) | simp [*]) (.cons rfl (by first | rfl | exact inte (by omega) | (simp; done) | (simp <;> omega) | simp [*]) (.cons rfl (by first | rfl | exact inte (by omega) | (simp; done) | (simp <;> omega) | simp [*]) (.cons rfl (by first | rfl | exact inte (by omega) | (simp; done) | (simp <;> omega) | simp [*]) (.cons rfl (by first | rfl | exact inte (by omega) | (simp; done) | (simp <;> omega) | simp [*]) (.cons rfl (by first | rfl | exact inte (by omega) | (simp; done) | (simp <;> omega) | simp [*]) (.cons rfl (by first | rfl | exact inte (by omega) | (simp; done) | (simp <;> omega) | simp [*]) (.cons rfl (by first | rfl | exact inte (by omega) | (simp; done) | (simp <;> omega) | simp [*]) (.cons rfl (by first | rfl | exact inte (by omega) | (simp; done) | (simp <;> omega) | simp [*]) (.cons rfl (by first | rfl | exact inte (by omega) | (simp; done) | (simp <;> omega) | simp [*]) (.cons rfl (by first | rfl | exact inte (by omega) | (simp; done) | (simp <;> omega) | simp [*]) (.cons rfl (by first | rfl | exact inte (by omega) | (simp; done) | (simp <;> omega) | simp [*]) (.cons rfl (by first | rfl | exact inte (by omega) | (simp; done) | (simp <;> omega) | simp [*]) (.cons rfl (by first | rfl | exact inte (by omega) | (simp; done) | (simp <;> omega) | simp [*]) (.cons rfl (by first | rfl | exact inte (by omega) | (simp; done) | (simp <;> omega) | simp [*]) (.cons rfl (by first | rfl | exact inte (by omega) | (simp; done) | (simp <;> omega) | simp [*]) (.cons rfl (by first | rfl | exact inte (by omega) | (simp; done) | (simp <;> omega) | simp [*]) (.nil _))))))))))))))))))))))))))))))))) (by repeat (first | exact Ent.nil _ | exact Ent.refl _ | (refine Ent.pick (by repeat (first | exact Pick.here | apply Pick.there)) ?_) | refine Ent.skip ?_))
      · try simp only [Bool.and_eq_true, Bool.or_eq_true, Bool.not_eq_true', Bool.and_eq_false_iff, Bool.or_eq_false_iff, Bool.not_eq_false', decide_eq_true_eq, decide_eq_false_iff_not, Bool.not_eq_eq_eq_not, Bool.not_true, Bool.not_false, Bool.not_eq_true, Bool.not_eq_false, beq_iff_eq, bne_iff_ne, ne_eq, Decidable.not_not] at h1
        refine c_skip ?_
        refine k_then_n ?_
        exact t_next () trivial (.cons rfl (by first | rfl | exact inte (by omega) | (simp; done) | (simp <;> omega) | simp [*]) (.cons rfl (by first | rfl | exact inte (by omega) | (simp; done) | (simp <;> omega) | simp [*]) (.cons rfl (by first | rfl | exact inte (by omega) | (simp; done) | (simp <;> omega) | simp [*]) (.cons rfl (by first | rfl | exact inte (by omega) | (simp; done) | (simp <;> omega) | simp [*]) (.cons rfl (by first | rfl | exact inte (by omega) | (simp; done) | (simp <;> omega) | simp [*]) (.cons rfl (inte (by rw [stay_non (f := ((x.d.2.1.getD x.d.1 default).B.xs, (x.d.2.1.getD x.d.1 default).Safe)) (h1.imp (fun h => by omega) (fun h => h)) hua.2]; omega)) (.cons rfl (by first | rfl | exact inte (by omega) | (simp; done) | (simp <;> omega) | simp [*]) (.cons rfl (by first | rfl | exact inte (by omega) | (simp; done) | (simp <;> omega) | simp [*]) (.cons rfl (by first | rfl | exact inte (by omega) | (simp; done) | (simp <;> omega) | simp [*]) (.cons rfl (by first | rfl | exact inte (by omega) | (simp; done) | (simp <;> omega) | simp [*]) (.cons rfl (by first | rfl | exact inte (by omega) | (simp; done) | (simp <;> omega) | simp [*]) (.cons rfl (by first | rfl | exact inte (by omega) | (simp; done) | (simp <;> omega) | simp [*]) (.cons rfl (by first | rfl | exact inte (by omega) | (simp; done) | (simp <;> omega) | simp [*]) (.cons rfl (by first | rfl | exact inte (by omega) | (simp; done) | (simp <;> omega) | simp [*]) (.cons rfl (by first | rfl | exact inte (by omega) | (simp; done) | (simp <;> omega) | simp [*]) (.cons rfl (by first | rfl | exact inte (by omega) | (simp; done) | (simp <;> omega) | simp [*]) (.cons rfl (by first | rfl | exact inte (by omega) | (simp; done) | (simp <;> omega) | simp [*]) (.cons rfl (by first | rfl | exact inte (by omega) | (simp; done) | (simp <;> omega) | simp [*]) (.cons rfl (by first | rfl | exact inte (by omega) | (simp; done) | (simp <;> omega) | simp [*]) (.cons rfl (by first | rfl | exact inte (by omega) | (simp; done) | (simp <;> omega) | simp [*]) (.cons rfl (by first | rfl | exact inte (by omega) | (simp; done) | (simp <;> omega) | simp [*]) (.cons rfl (by first | rfl | exact inte (by omega) | (simp; done) | (simp <;> omega) | simp [*]) (.cons rfl (by first | rfl | exact inte (by omega) | (simp; done) | (simp <;> omega) | simp [*]) (.cons rfl (by first | rfl | exact inte (by omega) | (simp; done) | (simp <;> omega) | simp [*]) (.cons rfl (by first | rfl | exact inte (by omega) | (simp; done) | (simp <;> omega) | simp [*]) (.cons rfl (by first | rfl | exact inte (by omega) | (simp; done) | (simp <;> omega) | simp [*]) (.cons rfl (by first | rfl | exact inte (by omega) | (simp; done) | (simp <;> omega) | simp [*]) (.cons rfl (by first | rfl | exact inte (by omega) | (simp; done) | (simp <;> omega) | simp [*]) (.cons rfl (by first | rfl | exact inte (by omega) | (simp; done) | (simp <;> omega) | simp [*]) (.cons rfl (by first | rfl | exact inte (by omega) | (simp; done) | (simp <;> omega) | simp [*]) (.cons rfl (by first | rfl | exact inte (by omega) | (simp; done) | (simp <;> omega) | simp [*]) (.cons rfl (by first | rfl | exact inte (by omega) | (simp; done) | (simp <;> omega) | simp [*]) (.nil _))))))))))))))))))))))))))))))))) (by repeat (first | exact Ent.nil _ | exact Ent.refl _ | (refine Ent.pick (by repeat (first | exact Pick.here | apply Pick.there)) ?_) | refine Ent.skip ?_))
    intro _u hj1
    have hst : 0 ≤ (stayF keep x.d.1 ((x.d.2.1.getD x.d.1 default).B.xs, (x.d.2.1.getD x.d.1 default).Safe)) ∧ (stayF keep x.d.1 ((x.d.2.1.getD x.d.1 default).B.xs, (x.d.2.1.getD x.d.1 default).Safe)) ≤ ((x.d.2.1.getD x.d.1 default).B.xs.length : Int) - (x.d.2.1.getD x.d.1 default).Safe := stay_bd keep x.d.1 (f := ((x.d.2.1.getD x.d.1 default).B.xs, (x.d.2.1.getD x.d.1 default).Safe)) hua.2
    refine k_then_n ?_
    refine c_seq ?_
    refine c_region ?_
    refine Tr.ent (Ent.trans (Ent.pick (A := RB 5 x.d.2.1) (by repeat (first | exact Pick.here | apply Pick.there)) (Ent.refl _)) (rb_open (T := x.d.2.1) (i := x.d.1) (by omega))) ?_
    refine t_rd (Γ := _) (rd_row (a := (x.d.2.1.getD x.d.1 default).B.a) (cap := (x.d.2.1.getD x.d.1 default).B.cap) (by repeat (first | exact Pick.here | apply Pick.there))) fun _ hcp _ _ => ?_
    refine Tr.ent (Ent.trans (Ent.pick (A := .row 5 1 ((x.d.2.1.getD x.d.1 default).B.a) ((x.d.2.1.getD x.d.1 default).B.xs.length) ((x.d.2.1.getD x.d.1 default).B.cap) (((x.d.2.1.getD x.d.1 default).B.xs).flatMap encB)) (by repeat (first | exact Pick.here | apply Pick.there)) (Ent.refl _)) (row_cut2 (((x.d.2.1.getD x.d.1 default).Safe + (stayF keep x.d.1 ((x.d.2.1.getD x.d.1 default).B.xs, (x.d.2.1.getD x.d.1 default).Safe)))).toNat (by omega))) ?_
    refine l_step (s_q rfl wn (q_move rfl) ?_)
    refine l_step (s_q rfl wn (q_move rfl) ?_)
    refine l_step (s_q rfl wn (q_nilCheck rfl) ?_)
    refine l_step (s_q rfl wn (q_fieldp rfl fo_49_1) ?_)
    refine l_step (s_q rfl wn (q_loadp (v := .slice la x.d.2.1.length lc) sc_47 rfl (by repeat (first | exact Pick.here | apply Pick.there)) rfl) ?_)
    refine l_step (s_q rfl wn (q_move rfl) ?_)
    refine l_step (s_q rfl wn (q_indexe x.d.1 Tryd.underlying47 sz_82 rfl rfl (rd_row (by repeat (first | exact Pick.here | apply Pick.there))) (by decide) rfl (by first | assumption | omega | (simp only [List.length_cons, List.length_nil]; omega))) ?_)
    refine l_step (s_q rfl wn (q_fielde rfl fo_82_1) ?_)
    refine l_step (s_q rfl wn (q_loade (enc := encRFile) (xs := x.d.2.1) (j := x.d.1) (off := 1) sc_32 rfl (rd_row (by repeat (first | exact Pick.here | apply Pick.there))) (fun _ => rfl) (by first | assumption | omega | (simp only [List.length_cons, List.length_nil]; omega)) (by decide) rfl) ?_)
    refine l_step (s_q rfl wn (q_len Tryd.underlying32 rfl) ?_)
    refine l_step (s_q rfl wn (q_add rfl rfl (by omega) (by omega)) ?_)
    refine l_step (s_q rfl wn (q_move rfl) ?_)
    refine l_step (s_q rfl wn (q_sub rfl rfl (by omega) (by omega)) ?_)
    refine l_step (s_q rfl wn (q_assign rfl) ?_)
    refine l_nil ?_
    refine k_then_n ?_
    refine c_seq ?_
    refine c_draw (m := 18) (bs := #[false, false, false, false, false, false, false, false, false, false, false, false, false, false, false, false, false, false]) [.row 5 1 ((x.d.2.1.getD x.d.1 default).B.a) ((((x.d.2.1.getD x.d.1 default).B.xs).take (((x.d.2.1.getD x.d.1 default).Safe + (stayF keep x.d.1 ((x.d.2.1.getD x.d.1 default).B.xs, (x.d.2.1.getD x.d.1 default).Safe)))).toNat).length) ((x.d.2.1.getD x.d.1 default).B.cap) ((((x.d.2.1.getD x.d.1 default).B.xs).take (((x.d.2.1.getD x.d.1 default).Safe + (stayF keep x.d.1 ((x.d.2.1.getD x.d.1 default).B.xs, (x.d.2.1.getD x.d.1 default).Safe)))).toNat).flatMap encB), Bun ((x.d.2.1.map (R1 5)).eraseIdx x.d.1), .pts r (encRDisk (⟨room, ⟨la, x.d.2.1.length, lc⟩, false, c⟩ : RDisk)) 49] (by kernel_rfl) rfl (by kernel_rfl) ?_
    refine r_take (i := 0) (bs' := #[true, false, false, false, false, false, false, false, false, false, false, false, false, false, false, false, false, false]) rfl (by kernel_rfl) (by kernel_rfl) (by kernel_rfl) (fun _ _ _ h => h) rfl wn (q_move rfl) (Hp.le_refl _) (by repeat (first | exact Ent.nil _ | exact Ent.refl _ | (refine Ent.pick (by repeat (first | exact Pick.here | apply Pick.there)) ?_) | refine Ent.skip ?_)) (by kernel_rfl) ?_
    refine r_take (i := 1) (bs' := #[true, true, false, false, false, false, false, false, false, false, false, false, false, false, false, false, false, false]) rfl (by kernel_rfl) (by kernel_rfl) (by kernel_rfl) (fun _ _ _ h => h) rfl wn (q_nilCheck rfl) (Hp.le_refl _) (by repeat (first | exact Ent.nil _ | exact Ent.refl _ | (refine Ent.pick (by repeat (first | exact Pick.here | apply Pick.there)) ?_) | refine Ent.skip ?_)) (by kernel_rfl) ?_
    refine r_take (i := 2) (bs' := #[true, true, true, false, false, false, false, false, false, false, false, false, false, false, false, false, false, false]) rfl (by kernel_rfl) (by kernel_rfl) (by kernel_rfl) (fun _ _ _ h => h) rfl wn (q_fieldp rfl fo_49_1) (Hp.le_refl _) (by repeat (first | exact Ent.nil _ | exact Ent.refl _ | (refine Ent.pick (by repeat (first | exact Pick.here | apply Pick.there)) ?_) | refine Ent.skip ?_)) (by kernel_rfl) ?_
    refine r_take (i := 3) (bs' := #[true, true, true, true, false, false, false, false, false, false, false, false, false, false, false, false, false, false]) rfl (by kernel_rfl) (by kernel_rfl) (by kernel_rfl) (fun _ _ _ h => h) rfl wn (q_loadp (v := .slice la x.d.2.1.length lc) sc_47 rfl (by repeat (first | exact Pick.here | apply Pick.there)) rfl) (Hp.le_refl _) (by repeat (first | exact Ent.nil _ | exact Ent.refl _ | (refine Ent.pick (by repeat (first | exact Pick.here | apply Pick.there)) ?_) | refine Ent.skip ?_)) (by kernel_rfl) ?_
    refine r_take (i := 4) (bs' := #[true, true, true, true, true, false, false, false, false, false, false, false, false, false, false, false, false, false]) rfl (by kernel_rfl) (by kernel_rfl) (by kernel_rfl) (fun _ _ _ h => h) rfl wn (q_move rfl) (Hp.le_refl _) (by repeat (first | exact Ent.nil _ | exact Ent.refl _ | (refine Ent.pick (by repeat (first | exact Pick.here | apply Pick.there)) ?_) | refine Ent.skip ?_)) (by kernel_rfl) ?_
    refine r_take (i := 5) (bs' := #[true, true, true, true, true, true, false, false, false, false, false, false, false, false, false, false, false, false]) rfl (by kernel_rfl) (by kernel_rfl) (by kernel_rfl) (fun _ _ _ h => h) rfl wn (q_move rfl) (Hp.le_refl _) (by repeat (first | exact Ent.nil _ | exact Ent.refl _ | (refine Ent.pick (by repeat (first | exact Pick.here | apply Pick.there)) ?_) | refine Ent.skip ?_)) (by kernel_rfl) ?_
    refine r_take (i := 6) (bs' := #[true, true, true, true, true, true, true, false, false, false, false, false, false, false, false, false, false, false]) rfl (by kernel_rfl) (by kernel_rfl) (by kernel_rfl) (fun _ _ _ h => h) rfl wn (q_nilCheck rfl) (Hp.le_refl _) (by repeat (first | exact Ent.nil _ | exact Ent.refl _ | (refine Ent.pick (by repeat (first | exact Pick.here | apply Pick.there)) ?_) | refine Ent.skip ?_)) (by kernel_rfl) ?_
    refine r_take (i := 7) (bs' := #[true, true, true, true, true, true, true, true, false, false, false, false, false, false, false, false, false, false]) rfl (by kernel_rfl) (by kernel_rfl) (by kernel_rfl) (fun _ _ _ h => h) rfl wn (q_fieldp rfl fo_49_1) (Hp.le_refl _) (by repeat (first | exact Ent.nil _ | exact Ent.refl _ | (refine Ent.pick (by repeat (first | exact Pick.here | apply Pick.there)) ?_) | refine Ent.skip ?_)) (by kernel_rfl) ?_
    refine r_take (i := 8) (bs' := #[true, true, true, true, true, true, true, true, true, false, false, false, false, false, false, false, false, false]) rfl (by kernel_rfl) (by kernel_rfl) (by kernel_rfl) (fun _ _ _ h => h) rfl wn (q_loadp (v := .slice la x.d.2.1.length lc) sc_47 rfl (by repeat (first | exact Pick.here | apply Pick.there)) rfl) (Hp.le_refl _) (by repeat (first | exact Ent.nil _ | exact Ent.refl _ | (refine Ent.pick (by repeat (first | exact Pick.here | apply Pick.there)) ?_) | refine Ent.skip ?_)) (by kernel_rfl) ?_
    refine r_take (i := 9) (bs' := #[true, true, true, true, true, true, true, true, true, true, false, false, false, false, false, false, false, false]) rfl (by kernel_rfl) (by kernel_rfl) (by kernel_rfl) (fun _ _ _ h => h) rfl wn (q_move rfl) (Hp.le_refl _) (by repeat (first | exact Ent.nil _ | exact Ent.refl _ | (refine Ent.pick (by repeat (first | exact Pick.here | apply Pick.there)) ?_) | refine Ent.skip ?_)) (by kernel_rfl) ?_
    refine r_take (i := 13) (bs' := #[true, true, true, true, true, true, true, true, true, true, false, false, false, true, false, false, false, false]) rfl (by kernel_rfl) (by kernel_rfl) (by kernel_rfl) (fun _ _ _ h => h) rfl wn (q_move rfl) (Hp.le_refl _) (by repeat (first | exact Ent.nil _ | exact Ent.refl _ | (refine Ent.pick (by repeat (first | exact Pick.here | apply Pick.there)) ?_) | refine Ent.skip ?_)) (by kernel_rfl) ?_
    refine r_one (i := 10) (bs' := #[true, true, true, true, true, true, true, true, true, true, true, false, false, true, false, false, false, false]) (by kernel_rfl) (by kernel_rfl) ?_
    refine o_step rfl (s_q rfl wn (q_indexe x.d.1 Tryd.underlying47 sz_82 rfl rfl (rd_row (by repeat (first | exact Pick.here | apply Pick.there))) (by decide) rfl (by first | assumption | omega | (simp only [List.length_cons, List.length_nil]; omega))) ?_)
    refine r_cont (Hp.le_refl _) (by repeat (first | exact Ent.nil _ | exact Ent.refl _ | (refine Ent.pick (by repeat (first | exact Pick.here | apply Pick.there)) ?_) | refine Ent.skip ?_)) ?_
    refine r_take (i := 11) (bs' := #[true, true, true, true, true, true, true, true, true, true, true, true, false, true, false, false, false, false]) rfl (by kernel_rfl) (by kernel_rfl) (by kernel_rfl) (fun _ _ _ h => h) rfl wn (q_fielde rfl fo_82_1) (Hp.le_refl _) (by repeat (first | exact Ent.nil _ | exact Ent.refl _ | (refine Ent.pick (by repeat (first | exact Pick.here | apply Pick.there)) ?_) | refine Ent.skip ?_)) (by kernel_rfl) ?_
    refine r_one (i := 12) (bs' := #[true, true, true, true, true, true, true, true, true, true, true, true, true, true, false, false, false, false]) (by kernel_rfl) (by kernel_rfl) ?_
    refine o_step rfl (s_q rfl wn (q_loade (enc := encRFile) (xs := x.d.2.1) (j := x.d.1) (off := 1) sc_32 rfl (rd_row (by repeat (first | exact Pick.here | apply Pick.there))) (fun _ => rfl) (by first | assumption | omega | (simp only [List.length_cons, List.length_nil]; omega)) (by decide) rfl) ?_)
    refine r_cont (Hp.le_refl _) (by repeat (first | exact Ent.nil _ | exact Ent.refl _ | (refine Ent.pick (by repeat (first | exact Pick.here | apply Pick.there)) ?_) | refine Ent.skip ?_)) ?_
    refine r_take (i := 14) (bs' := #[true, true, true, true, true, true, true, true, true, true, true, true, true, true, true, false, false, false]) rfl (by kernel_rfl) (by kernel_rfl) (by kernel_rfl) (fun _ _ _ h => h) rfl wn (q_as (v := .slice (x.d.2.1.getD x.d.1 default).B.a ((x.d.2.1.getD x.d.1 default).B.xs.take (((x.d.2.1.getD x.d.1 default).Safe + (stayF keep x.d.1 ((x.d.2.1.getD x.d.1 default).B.xs, (x.d.2.1.getD x.d.1 default).Safe)))).toNat).length (x.d.2.1.getD x.d.1 default).B.cap) (q_cut_hi Tryd.underlying32 sz_5 rfl rfl (by omega) (by omega)) (by congr 1; rw [List.length_take]; omega)) (Hp.le_refl _) (by repeat (first | exact Ent.nil _ | exact Ent.refl _ | (refine Ent.pick (by repeat (first | exact Pick.here | apply Pick.there)) ?_) | refine Ent.skip ?_)) (by kernel_rfl) ?_
    refine r_one (i := 15) (bs' := #[true, true, true, true, true, true, true, true, true, true, true, true, true, true, true, true, false, false]) (by kernel_rfl) (by kernel_rfl) ?_
    refine o_step rfl (s_q rfl wn (q_indexe x.d.1 Tryd.underlying47 sz_82 rfl rfl (rd_row (by repeat (first | exact Pick.here | apply Pick.there))) (by decide) rfl (by first | assumption | omega | (simp only [List.length_cons, List.length_nil]; omega))) ?_)
    refine r_cont (Hp.le_refl _) (by repeat (first | exact Ent.nil _ | exact Ent.refl _ | (refine Ent.pick (by repeat (first | exact Pick.here | apply Pick.there)) ?_) | refine Ent.skip ?_)) ?_
    refine r_take (i := 16) (bs' := #[true, true, true, true, true, true, true, true, true, true, true, true, true, true, true, true, true, false]) rfl (by kernel_rfl) (by kernel_rfl) (by kernel_rfl) (fun _ _ _ h => h) rfl wn (q_fielde rfl fo_82_1) (Hp.le_refl _) (by repeat (first | exact Ent.nil _ | exact Ent.refl _ | (refine Ent.pick (by repeat (first | exact Pick.here | apply Pick.there)) ?_) | refine Ent.skip ?_)) (by kernel_rfl) ?_
    refine r_one (i := 17) (bs' := #[true, true, true, true, true, true, true, true, true, true, true, true, true, true, true, true, true, true]) (by kernel_rfl) (by kernel_rfl) ?_
    refine o_step rfl (s_s0 wn (s_storee (ws := [.slice ((x.d.2.1.getD x.d.1 default).B.a) (((x.d.2.1.getD x.d.1 default).B.xs.take (((x.d.2.1.getD x.d.1 default).Safe + (stayF keep x.d.1 ((x.d.2.1.getD x.d.1 default).B.xs, (x.d.2.1.getD x.d.1 default).Safe)))).toNat).length) ((x.d.2.1.getD x.d.1 default).B.cap)]) (enc := encRFile) (xs := x.d.2.1) (j := x.d.1) (off := 1) (⟨(x.d.2.1.getD x.d.1 default).Name, ⟨(x.d.2.1.getD x.d.1 default).B.a, ((x.d.2.1.getD x.d.1 default).B.xs.take (((x.d.2.1.getD x.d.1 default).Safe + (stayF keep x.d.1 ((x.d.2.1.getD x.d.1 default).B.xs, (x.d.2.1.getD x.d.1 default).Safe)))).toNat), (x.d.2.1.getD x.d.1 default).B.cap⟩, (x.d.2.1.getD x.d.1 default).Safe⟩ : RFile) rfl rfl rfl sz_32 (by simp) (by simp [Value.oneCell', strB, ptV, SL.v]) (by repeat (first | exact Pick.here | apply Pick.there)) (fun _ => rfl) (by first | assumption | omega | (simp only [List.length_cons, List.length_nil]; omega)) (by simp) (by first | rfl | simp [encRFile])) ?_)
    rintro _ _ ⟨rfl, rfl⟩
    refine r_cont (Hp.le_refl _) (by repeat (first | exact Ent.nil _ | exact Ent.refl _ | (refine Ent.pick (by repeat (first | exact Pick.here | apply Pick.there)) ?_) | refine Ent.skip ?_)) ?_
    refine r_done (by kernel_rfl) ?_
    refine k_then_n ?_
    refine c_region ?_
    have hi9 : x.d.1 < (x.d.2.1.set x.d.1 (⟨(x.d.2.1.getD x.d.1 default).Name, ⟨(x.d.2.1.getD x.d.1 default).B.a, ((x.d.2.1.getD x.d.1 default).B.xs.take (((x.d.2.1.getD x.d.1 default).Safe + (stayF keep x.d.1 ((x.d.2.1.getD x.d.1 default).B.xs, (x.d.2.1.getD x.d.1 default).Safe)))).toNat), (x.d.2.1.getD x.d.1 default).B.cap⟩, (x.d.2.1.getD x.d.1 default).Safe⟩ : RFile)).length := by rw [List.length_set]; exact hi
    refine l_step (s_q rfl wn (q_move rfl) ?_)
    refine l_step (s_q rfl wn (q_nilCheck rfl) ?_)
    refine l_step (s_q rfl wn (q_fieldp rfl fo_49_1) ?_)
    refine l_step (s_q rfl wn (q_loadp (v := .slice la x.d.2.1.length lc) sc_47 rfl (by repeat (first | exact Pick.here | apply Pick.there)) rfl) ?_)
    refine l_step (s_q rfl wn (q_move rfl) ?_)
    refine l_step (s_q rfl wn (q_move rfl) ?_)
    refine l_step (s_q rfl wn (q_indexe x.d.1 Tryd.underlying47 sz_82 rfl rfl (rd_row (by repeat (first | exact Pick.here | apply Pick.there))) (by decide) rfl (by first | assumption | omega | (simp only [List.length_cons, List.length_nil]; omega))) ?_)
    refine l_step (s_q rfl wn (q_fielde rfl fo_82_2) ?_)
    refine l_step (s_s0 wn (s_storee (ws := [.int .i64 ((x.d.2.1.getD x.d.1 default).Safe + (stayF keep x.d.1 ((x.d.2.1.getD x.d.1 default).B.xs, (x.d.2.1.getD x.d.1 default).Safe)))]) (enc := encRFile) (xs := (x.d.2.1.set x.d.1 (⟨(x.d.2.1.getD x.d.1 default).Name, ⟨(x.d.2.1.getD x.d.1 default).B.a, ((x.d.2.1.getD x.d.1 default).B.xs.take (((x.d.2.1.getD x.d.1 default).Safe + (stayF keep x.d.1 ((x.d.2.1.getD x.d.1 default).B.xs, (x.d.2.1.getD x.d.1 default).Safe)))).toNat), (x.d.2.1.getD x.d.1 default).B.cap⟩, (x.d.2.1.getD x.d.1 default).Safe⟩ : RFile))) (j := x.d.1) (off := 2) (⟨((x.d.2.1.set x.d.1 (⟨(x.d.2.1.getD x.d.1 default).Name, ⟨(x.d.2.1.getD x.d.1 default).B.a, ((x.d.2.1.getD x.d.1 default).B.xs.take (((x.d.2.1.getD x.d.1 default).Safe + (stayF keep x.d.1 ((x.d.2.1.getD x.d.1 default).B.xs, (x.d.2.1.getD x.d.1 default).Safe)))).toNat), (x.d.2.1.getD x.d.1 default).B.cap⟩, (x.d.2.1.getD x.d.1 default).Safe⟩ : RFile)).getD x.d.1 default).Name, ((x.d.2.1.set x.d.1 (⟨(x.d.2.1.getD x.d.1 default).Name, ⟨(x.d.2.1.getD x.d.1 default).B.a, ((x.d.2.1.getD x.d.1 default).B.xs.take (((x.d.2.1.getD x.d.1 default).Safe + (stayF keep x.d.1 ((x.d.2.1.getD x.d.1 default).B.xs, (x.d.2.1.getD x.d.1 default).Safe)))).toNat), (x.d.2.1.getD x.d.1 default).B.cap⟩, (x.d.2.1.getD x.d.1 default).Safe⟩ : RFile)).getD x.d.1 default).B, ((x.d.2.1.getD x.d.1 default).Safe + (stayF keep x.d.1 ((x.d.2.1.getD x.d.1 default).B.xs, (x.d.2.1.getD x.d.1 default).Safe)))⟩ : RFile) rfl rfl rfl sz_3 (by simp) (by simp [Value.oneCell', strB, ptV, SL.v]) (by repeat (first | exact Pick.here | apply Pick.there)) (fun _ => rfl) (by first | assumption | omega | (simp only [List.length_cons, List.length_nil]; omega)) (by simp) (by first | rfl | simp [encRFile])) ?_)
    rintro _ _ ⟨rfl, rfl⟩
    refine l_nil ?_
    refine k_blk_n ?_
    refine k_then_n ?_
    refine c_region ?_
    refine l_step (s_q rfl wn (q_move rfl) ?_)
    refine l_step (s_q rfl wn (q_add rfl rfl (by omega) (by omega)) ?_)
    refine l_step (s_q rfl wn (q_assign rfl) ?_)
    refine l_nil ?_
    refine k_then_n ?_
    have hTT : ((x.d.2.1.set x.d.1 (⟨(x.d.2.1.getD x.d.1 default).Name, ⟨(x.d.2.1.getD x.d.1 default).B.a, ((x.d.2.1.getD x.d.1 default).B.xs.take (((x.d.2.1.getD x.d.1 default).Safe + (stayF keep x.d.1 ((x.d.2.1.getD x.d.1 default).B.xs, (x.d.2.1.getD x.d.1 default).Safe)))).toNat), (x.d.2.1.getD x.d.1 default).B.cap⟩, (x.d.2.1.getD x.d.1 default).Safe⟩ : RFile)).set x.d.1 (⟨((x.d.2.1.set x.d.1 (⟨(x.d.2.1.getD x.d.1 default).Name, ⟨(x.d.2.1.getD x.d.1 default).B.a, ((x.d.2.1.getD x.d.1 default).B.xs.take (((x.d.2.1.getD x.d.1 default).Safe + (stayF keep x.d.1 ((x.d.2.1.getD x.d.1 default).B.xs, (x.d.2.1.getD x.d.1 default).Safe)))).toNat), (x.d.2.1.getD x.d.1 default).B.cap⟩, (x.d.2.1.getD x.d.1 default).Safe⟩ : RFile)).getD x.d.1 default).Name, ((x.d.2.1.set x.d.1 (⟨(x.d.2.1.getD x.d.1 default).Name, ⟨(x.d.2.1.getD x.d.1 default).B.a, ((x.d.2.1.getD x.d.1 default).B.xs.take (((x.d.2.1.getD x.d.1 default).Safe + (stayF keep x.d.1 ((x.d.2.1.getD x.d.1 default).B.xs, (x.d.2.1.getD x.d.1 default).Safe)))).toNat), (x.d.2.1.getD x.d.1 default).B.cap⟩, (x.d.2.1.getD x.d.1 default).Safe⟩ : RFile)).getD x.d.1 default).B, ((x.d.2.1.getD x.d.1 default).Safe + (stayF keep x.d.1 ((x.d.2.1.getD x.d.1 default).B.xs, (x.d.2.1.getD x.d.1 default).Safe)))⟩ : RFile)) = (x.d.2.1.set x.d.1 (⟨(x.d.2.1.getD x.d.1 default).Name, ⟨(x.d.2.1.getD x.d.1 default).B.a, ((x.d.2.1.getD x.d.1 default).B.xs.take (((x.d.2.1.getD x.d.1 default).Safe + (stayF keep x.d.1 ((x.d.2.1.getD x.d.1 default).B.xs, (x.d.2.1.getD x.d.1 default).Safe)))).toNat), (x.d.2.1.getD x.d.1 default).B.cap⟩, ((x.d.2.1.getD x.d.1 default).Safe + (stayF keep x.d.1 ((x.d.2.1.getD x.d.1 default).B.xs, (x.d.2.1.getD x.d.1 default).Safe)))⟩ : RFile)) := by rw [getD_set hi, List.set_set]
    rw [hTT]
    refine Tr.ent (Ent.trans (Ent.pick (A := R1 5 (⟨(x.d.2.1.getD x.d.1 default).Name, ⟨(x.d.2.1.getD x.d.1 default).B.a, ((x.d.2.1.getD x.d.1 default).B.xs.take (((x.d.2.1.getD x.d.1 default).Safe + (stayF keep x.d.1 ((x.d.2.1.getD x.d.1 default).B.xs, (x.d.2.1.getD x.d.1 default).Safe)))).toNat), (x.d.2.1.getD x.d.1 default).B.cap⟩, ((x.d.2.1.getD x.d.1 default).Safe + (stayF keep x.d.1 ((x.d.2.1.getD x.d.1 default).B.xs, (x.d.2.1.getD x.d.1 default).Safe)))⟩ : RFile)) (by repeat (first | exact Pick.here | apply Pick.there)) (Ent.pick (A := Bun ((x.d.2.1.map (R1 5)).eraseIdx x.d.1)) (by repeat (first | exact Pick.here | apply Pick.there)) (Ent.refl _))) (rb_set (T := x.d.2.1) (i := x.d.1) (by omega) (⟨(x.d.2.1.getD x.d.1 default).Name, ⟨(x.d.2.1.getD x.d.1 default).B.a, ((x.d.2.1.getD x.d.1 default).B.xs.take (((x.d.2.1.getD x.d.1 default).Safe + (stayF keep x.d.1 ((x.d.2.1.getD x.d.1 default).B.xs, (x.d.2.1.getD x.d.1 default).Safe)))).toNat), (x.d.2.1.getD x.d.1 default).B.cap⟩, ((x.d.2.1.getD x.d.1 default).Safe + (stayF keep x.d.1 ((x.d.2.1.getD x.d.1 default).B.xs, (x.d.2.1.getD x.d.1 default).Safe)))⟩ : RFile))) ?_
    have hndx : (x.d.2.1.map (·.Name)).Nodup := by rw [hx2]; exact hnd
    have hg := rget hndx hi
    have hnm : (T.map (·.Name)).getD x.d.1 default = (x.d.2.1.getD x.d.1 default).Name := by rw [← hx2]; exact rname_get hi
    have hv9 : (rvw (x.d.2.1.set x.d.1 (⟨(x.d.2.1.getD x.d.1 default).Name, ⟨(x.d.2.1.getD x.d.1 default).B.a, ((x.d.2.1.getD x.d.1 default).B.xs.take (((x.d.2.1.getD x.d.1 default).Safe + (stayF keep x.d.1 ((x.d.2.1.getD x.d.1 default).B.xs, (x.d.2.1.getD x.d.1 default).Safe)))).toNat), (x.d.2.1.getD x.d.1 default).B.cap⟩, ((x.d.2.1.getD x.d.1 default).Safe + (stayF keep x.d.1 ((x.d.2.1.getD x.d.1 default).B.xs, (x.d.2.1.getD x.d.1 default).Safe)))⟩ : RFile)), (x.d.2.2 + ((((x.d.2.1.getD x.d.1 default).B.xs.length : Int) - (x.d.2.1.getD x.d.1 default).Safe) - (stayF keep x.d.1 ((x.d.2.1.getD x.d.1 default).B.xs, (x.d.2.1.getD x.d.1 default).Safe))))) = (crK keep (T.map (·.Name)) (rvw T) (x.d.1 + 1)) := by simp only [crK, ← hx3, hnm, getD_of hg]; rw [rset hndx hi (⟨(x.d.2.1.getD x.d.1 default).Name, ⟨(x.d.2.1.getD x.d.1 default).B.a, ((x.d.2.1.getD x.d.1 default).B.xs.take (((x.d.2.1.getD x.d.1 default).Safe + (stayF keep x.d.1 ((x.d.2.1.getD x.d.1 default).B.xs, (x.d.2.1.getD x.d.1 default).Safe)))).toNat), (x.d.2.1.getD x.d.1 default).B.cap⟩, ((x.d.2.1.getD x.d.1 default).Safe + (stayF keep x.d.1 ((x.d.2.1.getD x.d.1 default).B.xs, (x.d.2.1.getD x.d.1 default).Safe)))⟩ : RFile) rfl]
    have hus9 : usedR (x.d.2.1.set x.d.1 (⟨(x.d.2.1.getD x.d.1 default).Name, ⟨(x.d.2.1.getD x.d.1 default).B.a, ((x.d.2.1.getD x.d.1 default).B.xs.take (((x.d.2.1.getD x.d.1 default).Safe + (stayF keep x.d.1 ((x.d.2.1.getD x.d.1 default).B.xs, (x.d.2.1.getD x.d.1 default).Safe)))).toNat), (x.d.2.1.getD x.d.1 default).B.cap⟩, ((x.d.2.1.getD x.d.1 default).Safe + (stayF keep x.d.1 ((x.d.2.1.getD x.d.1 default).B.xs, (x.d.2.1.getD x.d.1 default).Safe)))⟩ : RFile)) + (x.d.2.1.getD x.d.1 default).B.xs.length = usedR x.d.2.1 + ((x.d.2.1.getD x.d.1 default).B.xs.take (((x.d.2.1.getD x.d.1 default).Safe + (stayF keep x.d.1 ((x.d.2.1.getD x.d.1 default).B.xs, (x.d.2.1.getD x.d.1 default).Safe)))).toNat).length := usedR_set hi (⟨(x.d.2.1.getD x.d.1 default).Name, ⟨(x.d.2.1.getD x.d.1 default).B.a, ((x.d.2.1.getD x.d.1 default).B.xs.take (((x.d.2.1.getD x.d.1 default).Safe + (stayF keep x.d.1 ((x.d.2.1.getD x.d.1 default).B.xs, (x.d.2.1.getD x.d.1 default).Safe)))).toNat), (x.d.2.1.getD x.d.1 default).B.cap⟩, ((x.d.2.1.getD x.d.1 default).Safe + (stayF keep x.d.1 ((x.d.2.1.getD x.d.1 default).B.xs, (x.d.2.1.getD x.d.1 default).Safe)))⟩ : RFile)
    rw [List.length_take] at hus9
    rw [show x.d.2.1.length = (x.d.2.1.set x.d.1 (⟨(x.d.2.1.getD x.d.1 default).Name, ⟨(x.d.2.1.getD x.d.1 default).B.a, ((x.d.2.1.getD x.d.1 default).B.xs.take (((x.d.2.1.getD x.d.1 default).Safe + (stayF keep x.d.1 ((x.d.2.1.getD x.d.1 default).B.xs, (x.d.2.1.getD x.d.1 default).Safe)))).toNat), (x.d.2.1.getD x.d.1 default).B.cap⟩, ((x.d.2.1.getD x.d.1 default).Safe + (stayF keep x.d.1 ((x.d.2.1.getD x.d.1 default).B.xs, (x.d.2.1.getD x.d.1 default).Safe)))⟩ : RFile)).length from (List.length_set ..).symm]
    exact t_next (⟨(x.d.1 + 1, (x.d.2.1.set x.d.1 (⟨(x.d.2.1.getD x.d.1 default).Name, ⟨(x.d.2.1.getD x.d.1 default).B.a, ((x.d.2.1.getD x.d.1 default).B.xs.take (((x.d.2.1.getD x.d.1 default).Safe + (stayF keep x.d.1 ((x.d.2.1.getD x.d.1 default).B.xs, (x.d.2.1.getD x.d.1 default).Safe)))).toNat), (x.d.2.1.getD x.d.1 default).B.cap⟩, ((x.d.2.1.getD x.d.1 default).Safe + (stayF keep x.d.1 ((x.d.2.1.getD x.d.1 default).B.xs, (x.d.2.1.getD x.d.1 default).Safe)))⟩ : RFile)), (x.d.2.2 + ((((x.d.2.1.getD x.d.1 default).B.xs.length : Int) - (x.d.2.1.getD x.d.1 default).Safe) - (stayF keep x.d.1 ((x.d.2.1.getD x.d.1 default).B.xs, (x.d.2.1.getD x.d.1 default).Safe))))), none, 0, none, 0, none, 0⟩ : Lp _) ⟨⟨by simp only []; omega, (rnames_set (e := (⟨(x.d.2.1.getD x.d.1 default).Name, ⟨(x.d.2.1.getD x.d.1 default).B.a, ((x.d.2.1.getD x.d.1 default).B.xs.take (((x.d.2.1.getD x.d.1 default).Safe + (stayF keep x.d.1 ((x.d.2.1.getD x.d.1 default).B.xs, (x.d.2.1.getD x.d.1 default).Safe)))).toNat), (x.d.2.1.getD x.d.1 default).B.cap⟩, ((x.d.2.1.getD x.d.1 default).Safe + (stayF keep x.d.1 ((x.d.2.1.getD x.d.1 default).B.xs, (x.d.2.1.getD x.d.1 default).Safe)))⟩ : RFile)) hi rfl).trans hx2, hv9, ⟨by simp only []; omega, by simp only []; omega⟩, fun y hy => by rcases List.mem_or_eq_of_mem_set hy with h | h; exact hx5 y h; rw [h]; simp only [List.length_take]; omega⟩, by simp only []; omega⟩ (.cons rfl (by first | rfl | exact inte (by omega) | (simp; done) | (simp <;> omega) | simp [*]) (.cons rfl (by first | rfl | exact inte (by omega) | (simp; done) | (simp <;> omega) | simp [*]) (.cons rfl (by first | rfl | exact inte (by omega) | (simp; done) | (simp <;> omega) | simp [*]) (.cons rfl (inte (show ((x.d.2.2 + ((x.d.2.1.getD x.d.1 default).B.xs.length : Int)) - ((x.d.2.1.getD x.d.1 default).Safe + (stayF keep x.d.1 ((x.d.2.1.getD x.d.1 default).B.xs, (x.d.2.1.getD x.d.1 default).Safe))) : Int) = (x.d.2.2 + ((((x.d.2.1.getD x.d.1 default).B.xs.length : Int) - (x.d.2.1.getD x.d.1 default).Safe) - (stayF keep x.d.1 ((x.d.2.1.getD x.d.1 default).B.xs, (x.d.2.1.getD x.d.1 default).Safe)))) by omega)) (.cons rfl (by first | rfl | exact inte (by omega) | (simp; done) | (simp <;> omega) | simp [*]) (.nil _)))))) (by repeat (first | exact Ent.nil _ | exact Ent.refl _ | (refine Ent.pick (by repeat (first | exact Pick.here | apply Pick.there)) ?_) | refine Ent.skip ?_))
  · try simp only [Bool.and_eq_true, Bool.or_eq_true, Bool.not_eq_true', Bool.and_eq_false_iff, Bool.or_eq_false_iff, Bool.not_eq_false', decide_eq_true_eq, decide_eq_false_iff_not, Bool.not_eq_eq_eq_not, Bool.not_true, Bool.not_false, Bool.not_eq_true, Bool.not_eq_false, beq_iff_eq, bne_iff_ne, ne_eq, Decidable.not_not] at h0
    have hk : x.d.1 = T.length := by omega
    refine c_exit ?_
    refine k_then_x ?_
    refine k_then_x ?_
    refine k_blk_x ?_
    refine k_then_n ?_
    refine c_seq ?_
    refine c_region ?_
    refine l_step (s_q rfl wn (q_move rfl) ?_)
    refine l_step (s_q rfl wn (q_assign rfl) ?_)
    refine l_nil ?_
    refine k_then_n ?_
    refine c_ret ?_
    have hr : (crK keep (mkeys (rvw T)) (rvw T) T.length) = (rvw x.d.2.1, x.d.2.2) := by rw [rvw_keys, hx3, hk]
    exact t_ret [.pts r (encRDisk (⟨room, ⟨la, x.d.2.1.length, lc⟩, false, c⟩ : RDisk)) 49, .row 82 3 la x.d.2.1.length lc (x.d.2.1.flatMap encRFile), RB 5 x.d.2.1] rfl (.tmp rfl .nil) rfl (Hp.le_refl _) ⟨rfl, x.d.2.1, by rw [hr]; rfl, by rw [hr], rfl⟩ (by repeat (first | exact Ent.nil _ | exact Ent.refl _ | (refine Ent.pick (by repeat (first | exact Pick.here | apply Pick.there)) ?_) | refine Ent.skip ?_))
end Go.Dsk.RF

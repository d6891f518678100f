/-
  Laws of chunk, walked.
-/
import Derived.Test.YtppngeebdmbeaaaChkQ
import Derived.Test.YtppngeebdmbeaaaChkR
import Derived.Test.YtppngeebdmbeaaaChkE
import Derived.Test.YtppngeebdmbeaaaProg
set_option maxRecDepth 100000
set_option maxHeartbeats 4000000
set_option linter.unusedSimpArgs false
set_option linter.unusedVariables false
namespace Go.Chk.G
open Go Go.SL Go.Proofs Go.Sum Go.Chk.C Go.Chk.D Go.Chk.E
attribute [local irreducible] Go.SL.Ent
theorem ag_87 : aggSize Try.prog 87 = some 2 := by kernel_rfl
theorem ag_95 : aggSize Try.prog 95 = some 6 := by kernel_rfl
theorem eo_5 : elemOk Try.prog 5 1 1 = true := by kernel_rfl
theorem eo_95 : elemOk Try.prog 95 6 64 = true := by kernel_rfl
theorem fo_101_0 : fieldOff Try.prog 101 0 = some (0, 3) := by kernel_rfl
theorem fo_101_1 : fieldOff Try.prog 101 1 = some (1, 88) := by kernel_rfl
theorem fo_87_0 : fieldOff Try.prog 87 0 = some (0, 3) := by kernel_rfl
theorem fo_87_1 : fieldOff Try.prog 87 1 = some (1, 3) := by kernel_rfl
theorem fo_95_0 : fieldOff Try.prog 95 0 = some (0, 87) := by kernel_rfl
theorem fo_95_1 : fieldOff Try.prog 95 1 = some (2, 23) := by kernel_rfl
theorem fo_95_2 : fieldOff Try.prog 95 2 = some (3, 3) := by kernel_rfl
theorem fo_95_3 : fieldOff Try.prog 95 3 = some (4, 3) := by kernel_rfl
theorem fo_95_4 : fieldOff Try.prog 95 4 = some (5, 22) := by kernel_rfl
theorem sc_22 : isScalar Try.prog 22 = true := by kernel_rfl
theorem sc_23 : isScalar Try.prog 23 = true := by kernel_rfl
theorem sc_3 : isScalar Try.prog 3 = true := by kernel_rfl
theorem sc_5 : isScalar Try.prog 5 = true := by kernel_rfl
theorem sc_88 : isScalar Try.prog 88 = true := by kernel_rfl
theorem sz_22 : sizeIs Try.prog 22 = some 1 := by kernel_rfl
theorem sz_5 : sizeIs Try.prog 5 = some 1 := by kernel_rfl
theorem sz_88 : sizeIs Try.prog 88 = some 1 := by kernel_rfl
theorem sz_95 : sizeIs Try.prog 95 = some 6 := by kernel_rfl

theorem byte_spec (r : Nat) (most : Int) (L : List Piece) (ya : Option Addr) (yc : Nat) (q : Int) (ρ : Hp) (hr : RI L) (hq : 0 ≤ q ∧ q ≤ 2000000000) : Spec0 Try.prog 69 #[.pointer (some ⟨r, 0, none⟩), .int .i64 q] ρ [.pts r (encRHeap (⟨most, ⟨ya, L, yc⟩⟩ : RHeap)) 101, .row 95 6 ya L.length yc (L.flatMap encPiece), Bun (L.map (rowP 5))] (fun v Γ' => v = .tuple #[.int .u8 ((((byteD (L.map pd) q).getD 0)).toNat : Int), .bool ((byteD (L.map pd) q).isSome)] ∧ Γ' = [.pts r (encRHeap (⟨most, ⟨ya, L, yc⟩⟩ : RHeap)) 101, .row 95 6 ya L.length yc (L.flatMap encPiece), Bun (L.map (rowP 5))]) := by
  refine spec_of (n := 53) (vs := [_, _]) (σ := [(0, _), (1, _)]) Try.func69 rfl rfl rfl rfl fun E Δ => ?_
  simp only [List.cons_append, List.nil_append]
  refine c_seq ?_
  refine c_region ?_
  refine l_step (s_q rfl wn (q_assign rfl) ?_)
  refine l_step (s_q rfl wn (q_assign rfl) ?_)
  refine l_nil ?_
  refine k_then_n ?_
  refine c_seq ?_
  refine c_seq ?_
  refine c_region ?_
  refine l_step (s_q rfl wn (q_assign rfl) ?_)
  refine l_nil ?_
  refine k_then_n ?_
  refine c_block ?_
  refine Tr.env (σ' := [(0, _), (1, _), (6, _)]) (.cons rfl rfl (.cons rfl rfl (.cons rfl rfl (.nil _)))) ?_
  refine t_loop (ι := Lp (Nat)) (fun x => x.d ≤ L.length ∧ byteD (L.map pd) q = byteD ((L.drop x.d).map pd) q) (fun x => L.length - x.d) (fun x => [(0, .pointer (some ⟨r, 0, none⟩)), (1, .int .i64 q), (6, .int .i64 (x.d : Int))]) (fun x => .pts r (encRHeap (⟨most, ⟨ya, L, yc⟩⟩ : RHeap)) 101 :: .row 95 6 ya L.length yc (L.flatMap encPiece) :: Bun (L.map (rowP 5)) :: Δ) (⟨0, none, 0, none, 0, none, 0⟩ : Lp _) ⟨Nat.zero_le _, by rw [List.drop_zero]⟩ ?_ ?_ ?_
  · exact .cons rfl (by first | rfl | exact inte (by omega) | (simp; done) | (simp <;> omega) | simp [*]) (.cons rfl (by first | rfl | exact inte (by omega) | (simp; done) | (simp <;> omega) | simp [*]) (.cons rfl (by first | rfl | exact inte (by omega) | (simp; done) | (simp <;> omega) | simp [*]) (.nil _)))
  · exact (by repeat (first | exact Ent.nil _ | exact Ent.refl _ | (refine Ent.pick (by repeat (first | exact Pick.here | apply Pick.there)) ?_) | refine Ent.skip ?_))
  intro x hx
  obtain ⟨hx1, hx2⟩ := hx
  refine c_seq ?_
  refine c_seq ?_
  refine c_region ?_
  refine l_step (s_q rfl wn (q_move rfl) ?_)
  refine l_step (s_q rfl wn (q_move rfl) ?_)
  refine l_step (s_q rfl wn (q_nilCheck rfl) ?_)
  refine l_step (s_q rfl wn (q_fieldp rfl fo_101_1) ?_)
  refine l_step (s_q rfl wn (q_loadp (v := .slice ya L.length yc) sc_88 rfl (by repeat (first | exact Pick.here | apply Pick.there)) rfl) ?_)
  refine l_step (s_q rfl wn (q_len Try.underlying88 rfl) ?_)
  refine l_step (s_q rfl wn (q_lss rfl rfl) ?_)
  refine l_nil ?_
  refine k_then_n ?_
  refine c_cond rfl (fun h0 => ?_) (fun h0 => ?_)
  · (try dsimp only [heapOf] at h0); try simp only [Bool.and_eq_true, Bool.or_eq_true, Bool.not_eq_true', Bool.and_eq_false_iff, Bool.or_eq_false_iff, Bool.not_eq_false', decide_eq_true_eq, decide_eq_false_iff_not, Bool.not_eq_eq_eq_not, Bool.not_true, Bool.not_false, Bool.not_eq_true, Bool.not_eq_false, beq_iff_eq, bne_iff_ne, ne_eq, Decidable.not_not] at h0
    have hmem := getD_mem L x.d (by omega)
    have hat := hr.at_ _ hmem
    have hlen := hr.len
    refine c_skip ?_
    refine k_then_n ?_
    refine c_seq ?_
    refine c_block ?_
    refine c_seq ?_
    refine c_region ?_
    refine l_step (s_q rfl wn (q_move rfl) ?_)
    refine l_step (s_q rfl wn (q_move rfl) ?_)
    refine l_step (s_q rfl wn (q_nilCheck rfl) ?_)
    refine l_step (s_q rfl wn (q_fieldp rfl fo_101_1) ?_)
    refine l_step (s_q rfl wn (q_loadp (v := .slice ya L.length yc) sc_88 rfl (by repeat (first | exact Pick.here | apply Pick.there)) rfl) ?_)
    refine l_step (s_q rfl wn (q_move rfl) ?_)
    refine l_step (s_q rfl wn (q_indexe x.d Try.underlying88 sz_95 rfl rfl (rd_row (by repeat (first | exact Pick.here | apply Pick.there))) (by decide) rfl (by first | assumption | omega | (simp only [List.length_cons, List.length_nil]; omega))) ?_)
    refine l_step (s_q rfl wn (q_fielde rfl fo_95_3) ?_)
    refine l_step (s_q rfl wn (q_loade (enc := encPiece) (xs := L) (j := x.d) (off := 4) sc_3 rfl (rd_row (by repeat (first | exact Pick.here | apply Pick.there))) (fun _ => rfl) (by first | assumption | omega | (simp only [List.length_cons, List.length_nil]; omega)) (by decide) rfl) ?_)
    refine l_step (s_q rfl wn (q_sub rfl rfl (by omega) (by omega)) ?_)
    refine l_step (s_q rfl wn (q_assign rfl) ?_)
    refine l_nil ?_
    refine k_then_n ?_
    refine c_seq ?_
    refine c_region ?_
    refine l_step (s_q rfl wn (q_move rfl) ?_)
    refine l_step (s_q rfl wn (q_geq rfl rfl) ?_)
    refine l_step (s_q rfl wn (q_move rfl) ?_)
    refine l_step (s_qg rfl (ask_t rfl rfl) (b := (decide (0 ≤ (q - (L.getD x.d default).At)))) (fun hb => q_move rfl) ?_)
    refine l_step (s_qg rfl (ask_t rfl rfl) (b := (decide (0 ≤ (q - (L.getD x.d default).At)))) (fun hb => q_move rfl) ?_)
    refine l_step (s_qg rfl (ask_t rfl rfl) (b := (decide (0 ≤ (q - (L.getD x.d default).At)))) (fun hb => OpQ.env (.cons rfl (gd_t hb) (.nil _) : EnvLe [(31, .pointer (some ⟨r, 0, none⟩))] _) (q_nilCheck rfl)) ?_)
    refine l_step (s_qg rfl (ask_t rfl rfl) (b := (decide (0 ≤ (q - (L.getD x.d default).At)))) (fun hb => OpQ.env (.cons rfl (gd_t hb) (.nil _) : EnvLe [(32, .pointer (some ⟨r, 0, none⟩))] _) (q_fieldp rfl fo_101_1)) ?_)
    refine l_step (s_qg rfl (ask_t rfl rfl) (b := (decide (0 ≤ (q - (L.getD x.d default).At)))) (fun hb => OpQ.env (.cons rfl (gd_t hb) (.nil _) : EnvLe [(33, .pointer (some ⟨r, 1, none⟩))] _) (q_loadp (v := .slice ya L.length yc) sc_88 rfl (by repeat (first | exact Pick.here | apply Pick.there)) rfl)) ?_)
    refine l_step (s_qg rfl (ask_t rfl rfl) (b := (decide (0 ≤ (q - (L.getD x.d default).At)))) (fun hb => q_move rfl) ?_)
    refine l_step (s_qg rfl (ask_t rfl rfl) (b := (decide (0 ≤ (q - (L.getD x.d default).At)))) (fun hb => OpQ.env (.cons rfl (gd_t hb) (.cons rfl (gd_t hb) (.nil _)) : EnvLe [(34, .slice ya L.length yc), (35, .int .i64 (x.d : Int))] _) (q_indexe x.d Try.underlying88 sz_95 rfl rfl (rd_row (by repeat (first | exact Pick.here | apply Pick.there))) (by decide) rfl (by first | assumption | omega | (have hb2 := hb; (try simp only [Bool.and_eq_true, Bool.or_eq_true, Bool.not_eq_true', Bool.and_eq_false_iff, Bool.or_eq_false_iff, Bool.not_eq_false', decide_eq_true_eq, decide_eq_false_iff_not, Bool.not_eq_eq_eq_not, Bool.not_true, Bool.not_false, Bool.not_eq_true, Bool.not_eq_false, beq_iff_eq, bne_iff_ne, ne_eq, Decidable.not_not] at hb2); omega) | (simp only [List.length_cons, List.length_nil]; omega)))) ?_)
    refine l_step (s_qg rfl (ask_t rfl rfl) (b := (decide (0 ≤ (q - (L.getD x.d default).At)))) (fun hb => OpQ.env (.cons rfl (gd_t hb) (.nil _) : EnvLe [(36, pe ya x.d 6 0)] _) (q_fielde rfl fo_95_4)) ?_)
    refine l_step (s_qg rfl (ask_t rfl rfl) (b := (decide (0 ≤ (q - (L.getD x.d default).At)))) (fun hb => OpQ.env (.cons rfl (gd_t hb) (.nil _) : EnvLe [(37, pe ya x.d 6 5)] _) (q_loade (enc := encPiece) (xs := L) (j := x.d) (off := 5) sc_22 rfl (rd_row (by repeat (first | exact Pick.here | apply Pick.there))) (fun _ => rfl) (by first | assumption | omega | (have hb2 := hb; (try simp only [Bool.and_eq_true, Bool.or_eq_true, Bool.not_eq_true', Bool.and_eq_false_iff, Bool.or_eq_false_iff, Bool.not_eq_false', decide_eq_true_eq, decide_eq_false_iff_not, Bool.not_eq_eq_eq_not, Bool.not_true, Bool.not_false, Bool.not_eq_true, Bool.not_eq_false, beq_iff_eq, bne_iff_ne, ne_eq, Decidable.not_not] at hb2); omega) | (simp only [List.length_cons, List.length_nil]; omega)) (by decide) rfl)) ?_)
    refine l_step (s_qg rfl (ask_t rfl rfl) (b := (decide (0 ≤ (q - (L.getD x.d default).At)))) (fun hb => OpQ.env (.cons rfl (gd_t hb) (.nil _) : EnvLe [(38, .slice ((L.getD x.d default).B.a) ((L.getD x.d default).B.xs.length) ((L.getD x.d default).B.cap))] _) (q_len Try.underlying22 rfl)) ?_)
    refine l_step (s_qg rfl (ask_t rfl rfl) (b := (decide (0 ≤ (q - (L.getD x.d default).At)))) (fun hb => OpQ.env (.cons rfl (gd_t hb) (.cons rfl (gd_t hb) (.nil _)) : EnvLe [(30, .int .i64 (q - (L.getD x.d default).At)), (39, .int .i64 ((L.getD x.d default).B.xs.length : Int))] _) (q_lss rfl rfl)) ?_)
    refine l_step (s_q rfl wn (q_pick_and rfl rfl rfl (fun h => h)) ?_)
    refine l_nil ?_
    refine k_then_n ?_
    refine c_cond rfl (fun h1 => ?_) (fun h1 => ?_)
    · skip
      have hb := hx2.trans (byte_hit (by omega) h1)
      have h1' := h1
      simp only [Bool.and_eq_true, decide_eq_true_eq] at h1'
      refine c_seq ?_
      refine c_region ?_
      refine l_step (s_q rfl wn (q_move rfl) ?_)
      refine l_step (s_q rfl wn (q_nilCheck rfl) ?_)
      refine l_step (s_q rfl wn (q_fieldp rfl fo_101_1) ?_)
      refine l_step (s_q rfl wn (q_loadp (v := .slice ya L.length yc) sc_88 rfl (by repeat (first | exact Pick.here | apply Pick.there)) rfl) ?_)
      refine l_step (s_q rfl wn (q_move rfl) ?_)
      refine l_step (s_q rfl wn (q_indexe x.d Try.underlying88 sz_95 rfl rfl (rd_row (by repeat (first | exact Pick.here | apply Pick.there))) (by decide) rfl (by first | assumption | omega | (simp only [List.length_cons, List.length_nil]; omega))) ?_)
      refine l_step (s_q rfl wn (q_fielde rfl fo_95_4) ?_)
      refine l_step (s_q rfl wn (q_loade (enc := encPiece) (xs := L) (j := x.d) (off := 5) sc_22 rfl (rd_row (by repeat (first | exact Pick.here | apply Pick.there))) (fun _ => rfl) (by first | assumption | omega | (simp only [List.length_cons, List.length_nil]; omega)) (by decide) rfl) ?_)
      refine l_step (s_q rfl wn (q_move rfl) ?_)
      refine l_step (s_q rfl wn (q_indexe (((q - (L.getD x.d default).At)).toNat) Try.underlying22 sz_5 rfl rfl (by first | assumption | exact rd_ro (by assumption) | exact rd_bun (L := L.map (rowP 5)) (by repeat (first | exact Pick.here | apply Pick.there)) (in_map _ (by first | assumption | omega | (simp only [List.length_cons, List.length_nil]; omega) | decide) rfl) | exact rd_row (by repeat (first | exact Pick.here | apply Pick.there))) (by decide) (by omega) (by first | assumption | omega | (simp only [List.length_cons, List.length_nil]; omega))) ?_)
      refine l_step (s_q rfl wn (q_loade (enc := encB) (xs := (L.getD x.d default).B.xs) (j := ((q - (L.getD x.d default).At)).toNat) (off := 0) sc_5 rfl (by first | assumption | exact rd_ro (by assumption) | exact rd_bun (L := L.map (rowP 5)) (by repeat (first | exact Pick.here | apply Pick.there)) (in_map _ (by first | assumption | omega | (simp only [List.length_cons, List.length_nil]; omega) | decide) rfl) | exact rd_row (by repeat (first | exact Pick.here | apply Pick.there))) (fun _ => rfl) (by first | assumption | omega | (simp only [List.length_cons, List.length_nil]; omega)) (by decide) rfl) ?_)
      refine l_step (s_q rfl wn (q_assign rfl) ?_)
      refine l_step (s_q rfl wn (q_assign rfl) ?_)
      refine l_nil ?_
      refine k_then_n ?_
      refine c_ret ?_
      refine k_blk_r ?_
      refine k_then_r ?_
      refine k_then_r ?_
      refine k_blk_r ?_
      refine k_then_r ?_
      exact t_ret [.pts r (encRHeap (⟨most, ⟨ya, L, yc⟩⟩ : RHeap)) 101, .row 95 6 ya L.length yc (L.flatMap encPiece), Bun (L.map (rowP 5))] rfl (.tmp rfl (.tmp rfl .nil)) rfl (Hp.le_refl _) ⟨rfl, (by rw [hb]; rfl), rfl⟩ (by repeat (first | exact Ent.nil _ | exact Ent.refl _ | (refine Ent.pick (by repeat (first | exact Pick.here | apply Pick.there)) ?_) | refine Ent.skip ?_))
    · skip
      have hmiss : ¬ hitD (pd (L.getD x.d default)) q = true := by rw [show hitD (pd (L.getD x.d default)) q = _ from h1]; decide
      refine c_skip ?_
      refine k_blk_n ?_
      refine k_then_n ?_
      refine c_region ?_
      refine l_step (s_q rfl wn (q_move rfl) ?_)
      refine l_step (s_q rfl wn (q_add rfl rfl (by omega) (by omega)) ?_)
      refine l_step (s_q rfl wn (q_assign rfl) ?_)
      refine l_nil ?_
      refine k_then_n ?_
      exact t_next (⟨x.d + 1, none, 0, none, 0, none, 0⟩ : Lp _) ⟨⟨by simp only []; omega, hx2.trans (byte_miss (by omega) hmiss)⟩, by simp only []; omega⟩ (.cons rfl (by first | rfl | exact inte (by omega) | (simp; done) | (simp <;> omega) | simp [*]) (.cons rfl (by first | rfl | exact inte (by omega) | (simp; done) | (simp <;> omega) | simp [*]) (.cons rfl (by first | rfl | exact inte (by omega) | (simp; done) | (simp <;> omega) | simp [*]) (.nil _)))) (by repeat (first | exact Ent.nil _ | exact Ent.refl _ | (refine Ent.pick (by repeat (first | exact Pick.here | apply Pick.there)) ?_) | refine Ent.skip ?_))
  · (try dsimp only [heapOf] at h0); try simp only [Bool.and_eq_true, Bool.or_eq_true, Bool.not_eq_true', Bool.and_eq_false_iff, Bool.or_eq_false_iff, Bool.not_eq_false', decide_eq_true_eq, decide_eq_false_iff_not, Bool.not_eq_eq_eq_not, Bool.not_true, Bool.not_false, Bool.not_eq_true, Bool.not_eq_false, beq_iff_eq, bne_iff_ne, ne_eq, Decidable.not_not] at h0
    have hk : x.d = L.length := by omega
    rw [hk, List.drop_length] at hx2
    refine c_exit ?_
    refine k_then_x ?_
    refine k_then_x ?_
    refine k_blk_x ?_
    refine k_then_n ?_
    refine c_seq ?_
    refine c_region ?_
    refine l_step (s_q rfl wn (q_assign rfl) ?_)
    refine l_step (s_q rfl wn (q_assign rfl) ?_)
    refine l_nil ?_
    refine k_then_n ?_
    refine c_ret ?_
    exact t_ret [.pts r (encRHeap (⟨most, ⟨ya, L, yc⟩⟩ : RHeap)) 101, .row 95 6 ya L.length yc (L.flatMap encPiece), Bun (L.map (rowP 5))] rfl (.tmp rfl (.tmp rfl .nil)) rfl (Hp.le_refl _) ⟨rfl, (by rw [hx2]; rfl), rfl⟩ (by repeat (first | exact Ent.nil _ | exact Ent.refl _ | (refine Ent.pick (by repeat (first | exact Pick.here | apply Pick.there)) ?_) | refine Ent.skip ?_))

theorem rmissing_spec (r : Nat) (most : Int) (L : List Piece) (ya : Option Addr) (yc : Nat) (ρ : Hp) (hr : RI L) : Spec0 Try.prog 48 #[.pointer (some ⟨r, 0, none⟩)] ρ [.pts r (encRHeap (⟨most, ⟨ya, L, yc⟩⟩ : RHeap)) 101, .row 95 6 ya L.length yc (L.flatMap encPiece), Bun (L.map (rowP 5))] (fun v Γ' => v = .int .i64 (missD (L.map pd)) ∧ Γ' = [.pts r (encRHeap (⟨most, ⟨ya, L, yc⟩⟩ : RHeap)) 101, .row 95 6 ya L.length yc (L.flatMap encPiece), Bun (L.map (rowP 5))]) := by
  refine spec_of (n := 39) (vs := [_]) (σ := [(0, _)]) Try.func48 rfl rfl rfl rfl fun E Δ => ?_
  simp only [List.cons_append, List.nil_append]
  refine c_seq ?_
  refine c_region ?_
  refine l_step (s_q rfl wn (q_assign rfl) ?_)
  refine l_nil ?_
  refine k_then_n ?_
  refine c_seq ?_
  refine c_seq ?_
  refine c_region ?_
  refine l_step (s_q rfl wn (q_move rfl) ?_)
  refine l_step (s_q rfl wn (q_nilCheck rfl) ?_)
  refine l_step (s_q rfl wn (q_fieldp rfl fo_101_1) ?_)
  refine l_step (s_q rfl wn (q_loadp (v := .slice ya L.length yc) sc_88 rfl (by repeat (first | exact Pick.here | apply Pick.there)) rfl) ?_)
  refine l_step (s_q rfl wn (q_len Try.underlying88 rfl) ?_)
  refine l_step (s_q rfl wn (q_eql rfl rfl) ?_)
  refine l_nil ?_
  refine k_then_n ?_
  refine c_cond rfl (fun h0 => ?_) (fun h0 => ?_)
  · (try dsimp only [heapOf] at h0); try simp only [Bool.and_eq_true, Bool.or_eq_true, Bool.not_eq_true', Bool.and_eq_false_iff, Bool.or_eq_false_iff, Bool.not_eq_false', decide_eq_true_eq, decide_eq_false_iff_not, Bool.not_eq_eq_eq_not, Bool.not_true, Bool.not_false, Bool.not_eq_true, Bool.not_eq_false, beq_iff_eq, bne_iff_ne, ne_eq, Decidable.not_not] at h0
    have hL : L = [] := List.eq_nil_of_length_eq_zero (by omega)
    refine c_seq ?_
    refine c_region ?_
    refine l_step (s_q rfl wn (q_assign rfl) ?_)
    refine l_nil ?_
    refine k_then_n ?_
    refine c_ret ?_
    refine k_then_r ?_
    exact t_ret [.pts r (encRHeap (⟨most, ⟨ya, L, yc⟩⟩ : RHeap)) 101, .row 95 6 ya L.length yc (L.flatMap encPiece), Bun (L.map (rowP 5))] rfl (.tmp rfl .nil) rfl (Hp.le_refl _) ⟨rfl, inte (by rw [hL]; rfl), rfl⟩ (by repeat (first | exact Ent.nil _ | exact Ent.refl _ | (refine Ent.pick (by repeat (first | exact Pick.here | apply Pick.there)) ?_) | refine Ent.skip ?_))
  · (try dsimp only [heapOf] at h0); try simp only [Bool.and_eq_true, Bool.or_eq_true, Bool.not_eq_true', Bool.and_eq_false_iff, Bool.or_eq_false_iff, Bool.not_eq_false', decide_eq_true_eq, decide_eq_false_iff_not, Bool.not_eq_eq_eq_not, Bool.not_true, Bool.not_false, Bool.not_eq_true, Bool.not_eq_false, beq_iff_eq, bne_iff_ne, ne_eq, Decidable.not_not] at h0
    have hL : 0 < L.length := by omega
    have htot := hr.tot _ (getD_mem L 0 hL)
    refine c_skip ?_
    refine k_then_n ?_
    refine c_seq ?_
    refine c_seq ?_
    refine c_region ?_
    refine l_step (s_q rfl wn (q_assign rfl) ?_)
    refine l_nil ?_
    refine k_then_n ?_
    refine c_block ?_
    refine Tr.env (σ' := [(0, _), (3, _)]) (.cons rfl rfl (.cons rfl rfl (.nil _))) ?_
    refine t_loop (ι := Lp (Nat)) (fun x => x.d ≤ (L.getD 0 default).Total.toNat ∧ ∀ j, j < x.d → (byteD (L.map pd) (j : Int)).isSome = true) (fun x => (L.getD 0 default).Total.toNat - x.d) (fun x => [(0, .pointer (some ⟨r, 0, none⟩)), (3, .int .i64 (x.d : Int))]) (fun x => .pts r (encRHeap (⟨most, ⟨ya, L, yc⟩⟩ : RHeap)) 101 :: .row 95 6 ya L.length yc (L.flatMap encPiece) :: Bun (L.map (rowP 5)) :: Δ) (⟨0, none, 0, none, 0, none, 0⟩ : Lp _) ⟨Nat.zero_le _, fun j h => absurd h (Nat.not_lt_zero _)⟩ ?_ ?_ ?_
    · exact .cons rfl (by first | rfl | exact inte (by omega) | (simp; done) | (simp <;> omega) | simp [*]) (.cons rfl (by first | rfl | exact inte (by omega) | (simp; done) | (simp <;> omega) | simp [*]) (.nil _))
    · exact (by repeat (first | exact Ent.nil _ | exact Ent.refl _ | (refine Ent.pick (by repeat (first | exact Pick.here | apply Pick.there)) ?_) | refine Ent.skip ?_))
    intro x hx
    obtain ⟨hx1, hx2⟩ := hx
    refine c_seq ?_
    refine c_seq ?_
    refine c_region ?_
    refine l_step (s_q rfl wn (q_move rfl) ?_)
    refine l_step (s_q rfl wn (q_move rfl) ?_)
    refine l_step (s_q rfl wn (q_nilCheck rfl) ?_)
    refine l_step (s_q rfl wn (q_fieldp rfl fo_101_1) ?_)
    refine l_step (s_q rfl wn (q_loadp (v := .slice ya L.length yc) sc_88 rfl (by repeat (first | exact Pick.here | apply Pick.there)) rfl) ?_)
    refine l_step (s_q rfl wn (q_indexe 0 Try.underlying88 sz_95 rfl rfl (rd_row (by repeat (first | exact Pick.here | apply Pick.there))) (by decide) rfl (by first | assumption | omega | (simp only [List.length_cons, List.length_nil]; omega))) ?_)
    refine l_step (s_q rfl wn (q_fielde rfl fo_95_2) ?_)
    refine l_step (s_q rfl wn (q_loade (enc := encPiece) (xs := L) (j := 0) (off := 3) sc_3 rfl (rd_row (by repeat (first | exact Pick.here | apply Pick.there))) (fun _ => rfl) (by first | assumption | omega | (simp only [List.length_cons, List.length_nil]; omega)) (by decide) rfl) ?_)
    refine l_step (s_q rfl wn (q_lss rfl rfl) ?_)
    refine l_nil ?_
    refine k_then_n ?_
    refine c_cond rfl (fun h1 => ?_) (fun h1 => ?_)
    · (try dsimp only [heapOf] at h1); try simp only [Bool.and_eq_true, Bool.or_eq_true, Bool.not_eq_true', Bool.and_eq_false_iff, Bool.or_eq_false_iff, Bool.not_eq_false', decide_eq_true_eq, decide_eq_false_iff_not, Bool.not_eq_eq_eq_not, Bool.not_true, Bool.not_false, Bool.not_eq_true, Bool.not_eq_false, beq_iff_eq, bne_iff_ne, ne_eq, Decidable.not_not] at h1
      refine c_skip ?_
      refine k_then_n ?_
      refine c_seq ?_
      refine c_block ?_
      refine c_seq ?_
      refine c_region ?_
      refine l_step (s_q rfl wn (q_move rfl) ?_)
      refine l_step (s_q rfl wn (q_move rfl) ?_)
      refine l_step (s_fnr rfl wn Try.func69 rfl (by kernel_rfl) rfl (by repeat (first | exact Sel.nil | exact Pick.here | apply Sel.cons | apply Pick.there)) (fun ρ' hL => byte_spec r most L ya yc (x.d : Int) ρ' (by assumption) (by first | assumption | omega)) ?_)
      refine l_step (s_q rfl wn (q_move rfl) ?_)
      refine l_step (s_q rfl wn (q_extract rfl rfl) ?_)
      refine l_step (s_q rfl wn (q_extract rfl rfl) ?_)
      refine l_step (s_q rfl wn (q_assign rfl) ?_)
      refine l_step (s_q rfl wn (q_assign rfl) ?_)
      refine l_nil ?_
      refine k_then_n ?_
      refine c_seq ?_
      refine c_region ?_
      refine l_step (s_q rfl wn (q_move rfl) ?_)
      refine l_step (s_q rfl wn (q_not rfl) ?_)
      refine l_nil ?_
      refine k_then_n ?_
      refine c_cond rfl (fun h2 => ?_) (fun h2 => ?_)
      · (try dsimp only [heapOf] at h2); try simp only [Bool.and_eq_true, Bool.or_eq_true, Bool.not_eq_true', Bool.and_eq_false_iff, Bool.or_eq_false_iff, Bool.not_eq_false', decide_eq_true_eq, decide_eq_false_iff_not, Bool.not_eq_eq_eq_not, Bool.not_true, Bool.not_false, Bool.not_eq_true, Bool.not_eq_false, beq_iff_eq, bne_iff_ne, ne_eq, Decidable.not_not] at h2
        refine c_seq ?_
        refine c_region ?_
        refine l_step (s_q rfl wn (q_move rfl) ?_)
        refine l_step (s_q rfl wn (q_assign rfl) ?_)
        refine l_nil ?_
        refine k_then_n ?_
        refine c_ret ?_
        refine k_blk_r ?_
        refine k_then_r ?_
        refine k_then_r ?_
        refine k_blk_r ?_
        refine k_then_r ?_
        exact t_ret [.pts r (encRHeap (⟨most, ⟨ya, L, yc⟩⟩ : RHeap)) 101, .row 95 6 ya L.length yc (L.flatMap encPiece), Bun (L.map (rowP 5))] rfl (.tmp rfl .nil) rfl (Hp.le_refl _) ⟨rfl, inte (missD_at hL (by omega) hx2 (by simpa using h2)).symm, rfl⟩ (by repeat (first | exact Ent.nil _ | exact Ent.refl _ | (refine Ent.pick (by repeat (first | exact Pick.here | apply Pick.there)) ?_) | refine Ent.skip ?_))
      · (try dsimp only [heapOf] at h2); try simp only [Bool.and_eq_true, Bool.or_eq_true, Bool.not_eq_true', Bool.and_eq_false_iff, Bool.or_eq_false_iff, Bool.not_eq_false', decide_eq_true_eq, decide_eq_false_iff_not, Bool.not_eq_eq_eq_not, Bool.not_true, Bool.not_false, Bool.not_eq_true, Bool.not_eq_false, beq_iff_eq, bne_iff_ne, ne_eq, Decidable.not_not] at h2
        refine c_skip ?_
        refine k_blk_n ?_
        refine k_then_n ?_
        refine c_region ?_
        refine l_step (s_q rfl wn (q_move rfl) ?_)
        refine l_step (s_q rfl wn (q_add rfl rfl (by omega) (by omega)) ?_)
        refine l_step (s_q rfl wn (q_assign rfl) ?_)
        refine l_nil ?_
        refine k_then_n ?_
        exact t_next (⟨x.d + 1, none, 0, none, 0, none, 0⟩ : Lp _) ⟨⟨by simp only []; omega, fun j hj => (Nat.lt_succ_iff_lt_or_eq.1 hj).elim (hx2 j) (fun e => by subst e; exact h2)⟩, by simp only []; omega⟩ (.cons rfl (by first | rfl | exact inte (by omega) | (simp; done) | (simp <;> omega) | simp [*]) (.cons rfl (by first | rfl | exact inte (by omega) | (simp; done) | (simp <;> omega) | simp [*]) (.nil _))) (by repeat (first | exact Ent.nil _ | exact Ent.refl _ | (refine Ent.pick (by repeat (first | exact Pick.here | apply Pick.there)) ?_) | refine Ent.skip ?_))
    · (try dsimp only [heapOf] at h1); try simp only [Bool.and_eq_true, Bool.or_eq_true, Bool.not_eq_true', Bool.and_eq_false_iff, Bool.or_eq_false_iff, Bool.not_eq_false', decide_eq_true_eq, decide_eq_false_iff_not, Bool.not_eq_eq_eq_not, Bool.not_true, Bool.not_false, Bool.not_eq_true, Bool.not_eq_false, beq_iff_eq, bne_iff_ne, ne_eq, Decidable.not_not] at h1
      have hk : x.d = (L.getD 0 default).Total.toNat := by omega
      rw [hk] at hx2
      refine c_exit ?_
      refine k_then_x ?_
      refine k_then_x ?_
      refine k_blk_x ?_
      refine k_then_n ?_
      refine c_seq ?_
      refine c_region ?_
      refine l_step (s_q rfl wn (q_move rfl) ?_)
      refine l_step (s_q rfl wn (q_nilCheck rfl) ?_)
      refine l_step (s_q rfl wn (q_fieldp rfl fo_101_1) ?_)
      refine l_step (s_q rfl wn (q_loadp (v := .slice ya L.length yc) sc_88 rfl (by repeat (first | exact Pick.here | apply Pick.there)) rfl) ?_)
      refine l_step (s_q rfl wn (q_indexe 0 Try.underlying88 sz_95 rfl rfl (rd_row (by repeat (first | exact Pick.here | apply Pick.there))) (by decide) rfl (by first | assumption | omega | (simp only [List.length_cons, List.length_nil]; omega))) ?_)
      refine l_step (s_q rfl wn (q_fielde rfl fo_95_2) ?_)
      refine l_step (s_q rfl wn (q_loade (enc := encPiece) (xs := L) (j := 0) (off := 3) sc_3 rfl (rd_row (by repeat (first | exact Pick.here | apply Pick.there))) (fun _ => rfl) (by first | assumption | omega | (simp only [List.length_cons, List.length_nil]; omega)) (by decide) rfl) ?_)
      refine l_step (s_q rfl wn (q_assign rfl) ?_)
      refine l_nil ?_
      refine k_then_n ?_
      refine c_ret ?_
      exact t_ret [.pts r (encRHeap (⟨most, ⟨ya, L, yc⟩⟩ : RHeap)) 101, .row 95 6 ya L.length yc (L.flatMap encPiece), Bun (L.map (rowP 5))] rfl (.tmp rfl .nil) rfl (Hp.le_refl _) ⟨rfl, inte (missD_all hL htot.1 hx2).symm, rfl⟩ (by repeat (first | exact Ent.nil _ | exact Ent.refl _ | (refine Ent.pick (by repeat (first | exact Pick.here | apply Pick.there)) ?_) | refine Ent.skip ?_))

theorem rwhole_spec (r : Nat) (most : Int) (L : List Piece) (ya : Option Addr) (yc : Nat) (ρ : Hp) (hr : RI L) : Spec0 Try.prog 44 #[.pointer (some ⟨r, 0, none⟩)] ρ [.pts r (encRHeap (⟨most, ⟨ya, L, yc⟩⟩ : RHeap)) 101, .row 95 6 ya L.length yc (L.flatMap encPiece), Bun (L.map (rowP 5))] (fun v Γ' => (wholeD (L.map pd) = false ∧ v = .tuple #[.slice none 0 0, .bool false] ∧ Γ' = [.pts r (encRHeap (⟨most, ⟨ya, L, yc⟩⟩ : RHeap)) 101, .row 95 6 ya L.length yc (L.flatMap encPiece), Bun (L.map (rowP 5))]) ∨ (wholeD (L.map pd) = true ∧ ∃ a c, v = .tuple #[.slice a (bytesD (L.map pd)).length c, .bool true] ∧ Γ' = .row 5 1 a (bytesD (L.map pd)).length c ((bytesD (L.map pd)).flatMap encB) :: [.pts r (encRHeap (⟨most, ⟨ya, L, yc⟩⟩ : RHeap)) 101, .row 95 6 ya L.length yc (L.flatMap encPiece), Bun (L.map (rowP 5))])) := by
  refine spec_of (n := 48) (vs := [_]) (σ := [(0, _)]) Try.func44 rfl rfl rfl rfl fun E Δ => ?_
  simp only [List.cons_append, List.nil_append]
  refine c_seq ?_
  refine c_region ?_
  refine l_step (s_q rfl wn (q_assign rfl) ?_)
  refine l_step (s_q rfl wn (q_assign rfl) ?_)
  refine l_nil ?_
  refine k_then_n ?_
  refine c_seq ?_
  refine c_seq ?_
  refine c_draw (m := 18) (bs := #[false, false, false, false, false, false, false, false, false, false, false, false, false, false, false, false, false, false]) [.pts r (encRHeap (⟨most, ⟨ya, L, yc⟩⟩ : RHeap)) 101, .row 95 6 ya L.length yc (L.flatMap encPiece), Bun (L.map (rowP 5))] (by kernel_rfl) rfl (by kernel_rfl) ?_
  refine r_take (i := 0) (bs' := #[true, false, false, false, false, false, false, false, false, false, false, false, false, false, false, false, false, false]) rfl (by kernel_rfl) (by kernel_rfl) (by kernel_rfl) (fun _ _ _ h => h) rfl wn (q_move rfl) (Hp.le_refl _) (by repeat (first | exact Ent.nil _ | exact Ent.refl _ | (refine Ent.pick (by repeat (first | exact Pick.here | apply Pick.there)) ?_) | refine Ent.skip ?_)) (by kernel_rfl) ?_
  refine r_take (i := 1) (bs' := #[true, true, false, false, false, false, false, false, false, false, false, false, false, false, false, false, false, false]) rfl (by kernel_rfl) (by kernel_rfl) (by kernel_rfl) (fun _ _ _ h => h) rfl wn (q_nilCheck rfl) (Hp.le_refl _) (by repeat (first | exact Ent.nil _ | exact Ent.refl _ | (refine Ent.pick (by repeat (first | exact Pick.here | apply Pick.there)) ?_) | refine Ent.skip ?_)) (by kernel_rfl) ?_
  refine r_take (i := 2) (bs' := #[true, true, true, false, false, false, false, false, false, false, false, false, false, false, false, false, false, false]) rfl (by kernel_rfl) (by kernel_rfl) (by kernel_rfl) (fun _ _ _ h => h) rfl wn (q_fieldp rfl fo_101_1) (Hp.le_refl _) (by repeat (first | exact Ent.nil _ | exact Ent.refl _ | (refine Ent.pick (by repeat (first | exact Pick.here | apply Pick.there)) ?_) | refine Ent.skip ?_)) (by kernel_rfl) ?_
  refine r_take (i := 3) (bs' := #[true, true, true, true, false, false, false, false, false, false, false, false, false, false, false, false, false, false]) rfl (by kernel_rfl) (by kernel_rfl) (by kernel_rfl) (fun _ _ _ h => h) rfl wn (q_loadp (v := .slice ya L.length yc) sc_88 rfl (by repeat (first | exact Pick.here | apply Pick.there)) rfl) (Hp.le_refl _) (by repeat (first | exact Ent.nil _ | exact Ent.refl _ | (refine Ent.pick (by repeat (first | exact Pick.here | apply Pick.there)) ?_) | refine Ent.skip ?_)) (by kernel_rfl) ?_
  refine r_take (i := 4) (bs' := #[true, true, true, true, true, false, false, false, false, false, false, false, false, false, false, false, false, false]) rfl (by kernel_rfl) (by kernel_rfl) (by kernel_rfl) (fun _ _ _ h => h) rfl wn (q_len Try.underlying88 rfl) (Hp.le_refl _) (by repeat (first | exact Ent.nil _ | exact Ent.refl _ | (refine Ent.pick (by repeat (first | exact Pick.here | apply Pick.there)) ?_) | refine Ent.skip ?_)) (by kernel_rfl) ?_
  refine r_take (i := 5) (bs' := #[true, true, true, true, true, true, false, false, false, false, false, false, false, false, false, false, false, false]) rfl (by kernel_rfl) (by kernel_rfl) (by kernel_rfl) (fun _ _ _ h => h) rfl wn (q_eql rfl rfl) (Hp.le_refl _) (by repeat (first | exact Ent.nil _ | exact Ent.refl _ | (refine Ent.pick (by repeat (first | exact Pick.here | apply Pick.there)) ?_) | refine Ent.skip ?_)) (by kernel_rfl) ?_
  refine r_take (i := 6) (bs' := #[true, true, true, true, true, true, true, false, false, false, false, false, false, false, false, false, false, false]) rfl (by kernel_rfl) (by kernel_rfl) (by kernel_rfl) (fun _ _ _ h => h) rfl wn (q_move rfl) (Hp.le_refl _) (by repeat (first | exact Ent.nil _ | exact Ent.refl _ | (refine Ent.pick (by repeat (first | exact Pick.here | apply Pick.there)) ?_) | refine Ent.skip ?_)) (by kernel_rfl) ?_
  refine r_takeg (i := 7) (b := (!(decide ((L.length : Int) = 0)))) (bs' := #[true, true, true, true, true, true, true, true, false, false, false, false, false, false, false, false, false, false]) rfl (by kernel_rfl) (by kernel_rfl) (by kernel_rfl) (fun _ _ _ h => h) rfl (ask_f rfl rfl) (fun hb => q_move rfl) (Hp.le_refl _) (by repeat (first | exact Ent.nil _ | exact Ent.refl _ | (refine Ent.pick (by repeat (first | exact Pick.here | apply Pick.there)) ?_) | refine Ent.skip ?_)) (by kernel_rfl) ?_
  refine r_takeg (i := 9) (b := (!(decide ((L.length : Int) = 0)))) (bs' := #[true, true, true, true, true, true, true, true, false, true, false, false, false, false, false, false, false, false]) rfl (by kernel_rfl) (by kernel_rfl) (by kernel_rfl) (fun _ _ _ h => h) rfl (ask_f rfl rfl) (fun hb => q_move rfl) (Hp.le_refl _) (by repeat (first | exact Ent.nil _ | exact Ent.refl _ | (refine Ent.pick (by repeat (first | exact Pick.here | apply Pick.there)) ?_) | refine Ent.skip ?_)) (by kernel_rfl) ?_
  refine r_takeg (i := 10) (b := (!(decide ((L.length : Int) = 0)))) (bs' := #[true, true, true, true, true, true, true, true, false, true, true, false, false, false, false, false, false, false]) rfl (by kernel_rfl) (by kernel_rfl) (by kernel_rfl) (fun _ _ _ h => h) rfl (ask_f rfl rfl) (fun hb => OpQ.env (.cons rfl (gd_t hb) (.nil _) : EnvLe [(17, .pointer (some ⟨r, 0, none⟩))] _) (q_nilCheck rfl)) (Hp.le_refl _) (by repeat (first | exact Ent.nil _ | exact Ent.refl _ | (refine Ent.pick (by repeat (first | exact Pick.here | apply Pick.there)) ?_) | refine Ent.skip ?_)) (by kernel_rfl) ?_
  refine r_takeg (i := 11) (b := (!(decide ((L.length : Int) = 0)))) (bs' := #[true, true, true, true, true, true, true, true, false, true, true, true, false, false, false, false, false, false]) rfl (by kernel_rfl) (by kernel_rfl) (by kernel_rfl) (fun _ _ _ h => h) rfl (ask_f rfl rfl) (fun hb => OpQ.env (.cons rfl (gd_t hb) (.nil _) : EnvLe [(18, .pointer (some ⟨r, 0, none⟩))] _) (q_fieldp rfl fo_101_1)) (Hp.le_refl _) (by repeat (first | exact Ent.nil _ | exact Ent.refl _ | (refine Ent.pick (by repeat (first | exact Pick.here | apply Pick.there)) ?_) | refine Ent.skip ?_)) (by kernel_rfl) ?_
  refine r_takeg (i := 12) (b := (!(decide ((L.length : Int) = 0)))) (bs' := #[true, true, true, true, true, true, true, true, false, true, true, true, true, false, false, false, false, false]) rfl (by kernel_rfl) (by kernel_rfl) (by kernel_rfl) (fun _ _ _ h => h) rfl (ask_f rfl rfl) (fun hb => OpQ.env (.cons rfl (gd_t hb) (.nil _) : EnvLe [(19, .pointer (some ⟨r, 1, none⟩))] _) (q_loadp (v := .slice ya L.length yc) sc_88 rfl (by repeat (first | exact Pick.here | apply Pick.there)) rfl)) (Hp.le_refl _) (by repeat (first | exact Ent.nil _ | exact Ent.refl _ | (refine Ent.pick (by repeat (first | exact Pick.here | apply Pick.there)) ?_) | refine Ent.skip ?_)) (by kernel_rfl) ?_
  refine r_takeg (i := 13) (b := (!(decide ((L.length : Int) = 0)))) (bs' := #[true, true, true, true, true, true, true, true, false, true, true, true, true, true, false, false, false, false]) rfl (by kernel_rfl) (by kernel_rfl) (by kernel_rfl) (fun _ _ _ h => h) rfl (ask_f rfl rfl) (fun hb => OpQ.env (.cons rfl (gd_t hb) (.nil _) : EnvLe [(20, .slice ya L.length yc)] _) (q_indexe 0 Try.underlying88 sz_95 rfl rfl (rd_row (by repeat (first | exact Pick.here | apply Pick.there))) (by decide) rfl (by first | assumption | omega | (have hb2 := hb; (try simp only [Bool.and_eq_true, Bool.or_eq_true, Bool.not_eq_true', Bool.and_eq_false_iff, Bool.or_eq_false_iff, Bool.not_eq_false', decide_eq_true_eq, decide_eq_false_iff_not, Bool.not_eq_eq_eq_not, Bool.not_true, Bool.not_false, Bool.not_eq_true, Bool.not_eq_false, beq_iff_eq, bne_iff_ne, ne_eq, Decidable.not_not] at hb2); omega) | (simp only [List.length_cons, List.length_nil]; omega)))) (Hp.le_refl _) (by repeat (first | exact Ent.nil _ | exact Ent.refl _ | (refine Ent.pick (by repeat (first | exact Pick.here | apply Pick.there)) ?_) | refine Ent.skip ?_)) (by kernel_rfl) ?_
  refine r_takeg (i := 14) (b := (!(decide ((L.length : Int) = 0)))) (bs' := #[true, true, true, true, true, true, true, true, false, true, true, true, true, true, true, false, false, false]) rfl (by kernel_rfl) (by kernel_rfl) (by kernel_rfl) (fun _ _ _ h => h) rfl (ask_f rfl rfl) (fun hb => OpQ.env (.cons rfl (gd_t hb) (.nil _) : EnvLe [(21, pe ya 0 6 0)] _) (q_fielde rfl fo_95_2)) (Hp.le_refl _) (by repeat (first | exact Ent.nil _ | exact Ent.refl _ | (refine Ent.pick (by repeat (first | exact Pick.here | apply Pick.there)) ?_) | refine Ent.skip ?_)) (by kernel_rfl) ?_
  refine r_takeg (i := 15) (b := (!(decide ((L.length : Int) = 0)))) (bs' := #[true, true, true, true, true, true, true, true, false, true, true, true, true, true, true, true, false, false]) rfl (by kernel_rfl) (by kernel_rfl) (by kernel_rfl) (fun _ _ _ h => h) rfl (ask_f rfl rfl) (fun hb => OpQ.env (.cons rfl (gd_t hb) (.nil _) : EnvLe [(22, pe ya 0 6 3)] _) (q_loade (enc := encPiece) (xs := L) (j := 0) (off := 3) sc_3 rfl (rd_row (by repeat (first | exact Pick.here | apply Pick.there))) (fun _ => rfl) (by first | assumption | omega | (have hb2 := hb; (try simp only [Bool.and_eq_true, Bool.or_eq_true, Bool.not_eq_true', Bool.and_eq_false_iff, Bool.or_eq_false_iff, Bool.not_eq_false', decide_eq_true_eq, decide_eq_false_iff_not, Bool.not_eq_eq_eq_not, Bool.not_true, Bool.not_false, Bool.not_eq_true, Bool.not_eq_false, beq_iff_eq, bne_iff_ne, ne_eq, Decidable.not_not] at hb2); omega) | (simp only [List.length_cons, List.length_nil]; omega)) (by decide) rfl)) (Hp.le_refl _) (by repeat (first | exact Ent.nil _ | exact Ent.refl _ | (refine Ent.pick (by repeat (first | exact Pick.here | apply Pick.there)) ?_) | refine Ent.skip ?_)) (by kernel_rfl) ?_
  refine r_one (i := 8) (bs' := #[true, true, true, true, true, true, true, true, true, true, true, true, true, true, true, true, false, false]) (by kernel_rfl) (by kernel_rfl) ?_
  refine o_step rfl (s_fnrg (b := (!(decide ((L.length : Int) = 0)))) rfl (ask_f rfl rfl) Try.func48 rfl (by kernel_rfl) (fun hb => (.cons rfl (gd_t hb) (.nil _) : EnvLe [(15, .pointer (some ⟨r, 0, none⟩))] _)) rfl (by repeat (first | exact Sel.nil | exact Pick.here | apply Sel.cons | apply Pick.there)) (fun hb ρ' hL => rmissing_spec r most L ya yc ρ' (by assumption)) ?_)
  refine r_cont (Hp.le_refl _) (by repeat (first | exact Ent.nil _ | exact Ent.refl _ | (refine Ent.pick (by repeat (first | exact Pick.here | apply Pick.there)) ?_) | refine Ent.skip ?_)) ?_
  refine r_takeg (i := 16) (b := (!(decide ((L.length : Int) = 0)))) (bs' := #[true, true, true, true, true, true, true, true, true, true, true, true, true, true, true, true, true, false]) rfl (by kernel_rfl) (by kernel_rfl) (by kernel_rfl) (fun _ _ _ h => h) rfl (ask_f rfl rfl) (fun hb => OpQ.env (.cons rfl (gd_t hb) (.cons rfl (gd_t hb) (.nil _)) : EnvLe [(16, .int .i64 (missD (L.map pd))), (23, .int .i64 ((L.getD 0 default).Total))] _) (q_lss rfl rfl)) (Hp.le_refl _) (by repeat (first | exact Ent.nil _ | exact Ent.refl _ | (refine Ent.pick (by repeat (first | exact Pick.here | apply Pick.there)) ?_) | refine Ent.skip ?_)) (by kernel_rfl) ?_
  refine r_take (i := 17) (bs' := #[true, true, true, true, true, true, true, true, true, true, true, true, true, true, true, true, true, true]) rfl (by kernel_rfl) (by kernel_rfl) (by kernel_rfl) (fun _ _ _ h => h) rfl wn (q_pick_or rfl rfl rfl (fun h => by first | (rw [h]; rfl) | exact congrArg not h)) (Hp.le_refl _) (by repeat (first | exact Ent.nil _ | exact Ent.refl _ | (refine Ent.pick (by repeat (first | exact Pick.here | apply Pick.there)) ?_) | refine Ent.skip ?_)) (by kernel_rfl) ?_
  refine r_done (by kernel_rfl) ?_
  refine k_then_n ?_
  refine c_cond rfl (fun h0 => ?_) (fun h0 => ?_)
  · (try dsimp only [heapOf] at h0); try simp only [Bool.and_eq_true, Bool.or_eq_true, Bool.not_eq_true', Bool.and_eq_false_iff, Bool.or_eq_false_iff, Bool.not_eq_false', decide_eq_true_eq, decide_eq_false_iff_not, Bool.not_eq_eq_eq_not, Bool.not_true, Bool.not_false, Bool.not_eq_true, Bool.not_eq_false, beq_iff_eq, bne_iff_ne, ne_eq, Decidable.not_not] at h0
    have hw := whole_no h0
    refine c_seq ?_
    refine c_region ?_
    refine l_step (s_q rfl wn (q_assign rfl) ?_)
    refine l_step (s_q rfl wn (q_assign rfl) ?_)
    refine l_nil ?_
    refine k_then_n ?_
    refine c_ret ?_
    refine k_then_r ?_
    exact t_ret [.pts r (encRHeap (⟨most, ⟨ya, L, yc⟩⟩ : RHeap)) 101, .row 95 6 ya L.length yc (L.flatMap encPiece), Bun (L.map (rowP 5))] rfl (.tmp rfl (.tmp rfl .nil)) rfl (Hp.le_refl _) ⟨rfl, .inl ⟨hw, rfl, rfl⟩⟩ (by repeat (first | exact Ent.nil _ | exact Ent.refl _ | (refine Ent.pick (by repeat (first | exact Pick.here | apply Pick.there)) ?_) | refine Ent.skip ?_))
  · (try dsimp only [heapOf] at h0); try simp only [Bool.and_eq_true, Bool.or_eq_true, Bool.not_eq_true', Bool.and_eq_false_iff, Bool.or_eq_false_iff, Bool.not_eq_false', decide_eq_true_eq, decide_eq_false_iff_not, Bool.not_eq_eq_eq_not, Bool.not_true, Bool.not_false, Bool.not_eq_true, Bool.not_eq_false, beq_iff_eq, bne_iff_ne, ne_eq, Decidable.not_not] at h0
    have hL : 0 < L.length := by omega
    have hw := whole_yes hL h0.2
    have htot := hr.tot _ (getD_mem L 0 hL)
    refine c_skip ?_
    refine k_then_n ?_
    refine c_seq ?_
    refine c_region ?_
    refine l_step (s_q rfl wn (q_assign rfl) ?_)
    refine l_nil ?_
    refine k_then_n ?_
    refine c_seq ?_
    refine c_seq ?_
    refine c_region ?_
    refine l_step (s_q rfl wn (q_assign rfl) ?_)
    refine l_nil ?_
    refine k_then_n ?_
    refine c_block ?_
    refine Tr.ent (Ent.nilrow 5 1 _) ?_
    refine Tr.env (σ' := [(0, _), (2, _), (3, _), (4, _), (5, _)]) (.cons rfl rfl (.cons rfl rfl (.cons rfl rfl (.cons rfl rfl (.cons rfl rfl (.nil _)))))) ?_
    refine t_loop (ι := Lp (Nat)) (fun x => x.d ≤ (L.getD 0 default).Total.toNat) (fun x => (L.getD 0 default).Total.toNat - x.d) (fun x => [(0, .pointer (some ⟨r, 0, none⟩)), (2, .slice none 0 0), (3, .bool false), (4, .slice x.a1 (((List.range x.d).map fun (i : Nat) => (byteD (L.map pd) (i : Int)).getD 0).length) x.c1), (5, .int .i64 (x.d : Int))]) (fun x => .row 5 1 x.a1 (((List.range x.d).map fun (i : Nat) => (byteD (L.map pd) (i : Int)).getD 0).length) x.c1 (((List.range x.d).map fun (i : Nat) => (byteD (L.map pd) (i : Int)).getD 0).flatMap encB) :: .pts r (encRHeap (⟨most, ⟨ya, L, yc⟩⟩ : RHeap)) 101 :: .row 95 6 ya L.length yc (L.flatMap encPiece) :: Bun (L.map (rowP 5)) :: Δ) (⟨0, none, 0, none, 0, none, 0⟩ : Lp _) (Nat.zero_le _) ?_ ?_ ?_
    · exact .cons rfl (by first | rfl | exact inte (by omega) | (simp; done) | (simp <;> omega) | simp [*]) (.cons rfl (by first | rfl | exact inte (by omega) | (simp; done) | (simp <;> omega) | simp [*]) (.cons rfl (by first | rfl | exact inte (by omega) | (simp; done) | (simp <;> omega) | simp [*]) (.cons rfl (by first | rfl | exact inte (by omega) | (simp; done) | (simp <;> omega) | simp [*]) (.cons rfl (by first | rfl | exact inte (by omega) | (simp; done) | (simp <;> omega) | simp [*]) (.nil _)))))
    · exact (by repeat (first | exact Ent.nil _ | exact Ent.refl _ | (refine Ent.pick (by repeat (first | exact Pick.here | apply Pick.there)) ?_) | refine Ent.skip ?_))
    intro x hx
    have hln : ((List.range x.d).map fun (i : Nat) => (byteD (L.map pd) (i : Int)).getD 0).length = x.d := by simp
    refine c_seq ?_
    refine c_seq ?_
    refine c_region ?_
    refine l_step (s_q rfl wn (q_move rfl) ?_)
    refine l_step (s_q rfl wn (q_move rfl) ?_)
    refine l_step (s_q rfl wn (q_nilCheck rfl) ?_)
    refine l_step (s_q rfl wn (q_fieldp rfl fo_101_1) ?_)
    refine l_step (s_q rfl wn (q_loadp (v := .slice ya L.length yc) sc_88 rfl (by repeat (first | exact Pick.here | apply Pick.there)) rfl) ?_)
    refine l_step (s_q rfl wn (q_indexe 0 Try.underlying88 sz_95 rfl rfl (rd_row (by repeat (first | exact Pick.here | apply Pick.there))) (by decide) rfl (by first | assumption | omega | (simp only [List.length_cons, List.length_nil]; omega))) ?_)
    refine l_step (s_q rfl wn (q_fielde rfl fo_95_2) ?_)
    refine l_step (s_q rfl wn (q_loade (enc := encPiece) (xs := L) (j := 0) (off := 3) sc_3 rfl (rd_row (by repeat (first | exact Pick.here | apply Pick.there))) (fun _ => rfl) (by first | assumption | omega | (simp only [List.length_cons, List.length_nil]; omega)) (by decide) rfl) ?_)
    refine l_step (s_q rfl wn (q_lss rfl rfl) ?_)
    refine l_nil ?_
    refine k_then_n ?_
    refine c_cond rfl (fun h1 => ?_) (fun h1 => ?_)
    · (try dsimp only [heapOf] at h1); try simp only [Bool.and_eq_true, Bool.or_eq_true, Bool.not_eq_true', Bool.and_eq_false_iff, Bool.or_eq_false_iff, Bool.not_eq_false', decide_eq_true_eq, decide_eq_false_iff_not, Bool.not_eq_eq_eq_not, Bool.not_true, Bool.not_false, Bool.not_eq_true, Bool.not_eq_false, beq_iff_eq, bne_iff_ne, ne_eq, Decidable.not_not] at h1
      refine c_skip ?_
      refine k_then_n ?_
      refine c_seq ?_
      refine c_block ?_
      refine c_seq ?_
      refine c_region ?_
      refine l_step (s_q rfl wn (q_move rfl) ?_)
      refine l_step (s_q rfl wn (q_move rfl) ?_)
      refine l_step (s_fnr rfl wn Try.func69 rfl (by kernel_rfl) rfl (by repeat (first | exact Sel.nil | exact Pick.here | apply Sel.cons | apply Pick.there)) (fun ρ' hL => byte_spec r most L ya yc (x.d : Int) ρ' (by assumption) (by first | assumption | omega)) ?_)
      refine l_step (s_q rfl wn (q_move rfl) ?_)
      refine l_step (s_q rfl wn (q_extract rfl rfl) ?_)
      refine l_step (s_q rfl wn (q_extract rfl rfl) ?_)
      refine l_step (s_q rfl wn (q_assign rfl) ?_)
      refine l_step (s_q rfl wn (q_assign rfl) ?_)
      refine l_nil ?_
      refine k_then_n ?_
      refine c_region ?_
      refine l_step (s_q rfl wn (q_move rfl) ?_)
      refine l_step (s_q rfl wn (q_move rfl) ?_)
      refine l_step (s_s rfl wn (s_buildSlice (cs := ([(((byteD (L.map pd) (x.d : Int)).getD 0))] : List UInt8).flatMap encB) Try.underlying22 eo_5 rfl rfl rfl rfl (by decide) (by decide)) ?_)
      rintro _ _ ⟨b45, rfl, rfl⟩
      refine l_step (s_s rfl wn (s_appendn (enc := encB) (xs := (((List.range x.d).map fun (i : Nat) => (byteD (L.map pd) (i : Int)).getD 0) : List UInt8)) (ys := ([(((byteD (L.map pd) (x.d : Int)).getD 0))] : List UInt8)) (Γ' := fun a' cap' => _) Try.underlying22 eo_5 (by decide) rfl rfl (rd_row (by repeat (first | exact Pick.here | apply Pick.there))) (oneB _) (by first | omega | (simp only [List.length_append, List.length_cons, List.length_nil] at *; omega)) (by first | omega | (simp only [List.length_append, List.length_cons, List.length_nil] at *; omega)) (fun _ _ => (by repeat (first | exact Pick.here | apply Pick.there)))) ?_)
      rintro _ _ ⟨a46, c46, rfl, rfl⟩
      refine l_step (s_q rfl wn (q_assign rfl) ?_)
      refine l_nil ?_
      refine k_blk_n ?_
      refine k_then_n ?_
      refine c_region ?_
      refine l_step (s_q rfl wn (q_move rfl) ?_)
      refine l_step (s_q rfl wn (q_add rfl rfl (by omega) (by omega)) ?_)
      refine l_step (s_q rfl wn (q_assign rfl) ?_)
      refine l_nil ?_
      refine k_then_n ?_
      have hxs : ((List.range x.d).map fun (i : Nat) => (byteD (L.map pd) (i : Int)).getD 0) ++ [(byteD (L.map pd) (x.d : Int)).getD 0] = ((List.range (x.d + 1)).map fun (i : Nat) => (byteD (L.map pd) (i : Int)).getD 0) := by simp [List.range_succ]
      have hn1 : ((List.range x.d).map fun (i : Nat) => (byteD (L.map pd) (i : Int)).getD 0).length + 1 = ((List.range (x.d + 1)).map fun (i : Nat) => (byteD (L.map pd) (i : Int)).getD 0).length := by simp
      rw [hxs, hn1]
      exact t_next (⟨x.d + 1, a46, c46, none, 0, none, 0⟩ : Lp _) ⟨by simp only []; omega, by simp only []; omega⟩ (.cons rfl (by first | rfl | exact inte (by omega) | (simp; done) | (simp <;> omega) | simp [*]) (.cons rfl (by first | rfl | exact inte (by omega) | (simp; done) | (simp <;> omega) | simp [*]) (.cons rfl (by first | rfl | exact inte (by omega) | (simp; done) | (simp <;> omega) | simp [*]) (.cons rfl (by first | rfl | exact inte (by omega) | (simp; done) | (simp <;> omega) | simp [*]) (.cons rfl (by first | rfl | exact inte (by omega) | (simp; done) | (simp <;> omega) | simp [*]) (.nil _)))))) (by repeat (first | exact Ent.nil _ | exact Ent.refl _ | (refine Ent.pick (by repeat (first | exact Pick.here | apply Pick.there)) ?_) | refine Ent.skip ?_))
    · (try dsimp only [heapOf] at h1); try simp only [Bool.and_eq_true, Bool.or_eq_true, Bool.not_eq_true', Bool.and_eq_false_iff, Bool.or_eq_false_iff, Bool.not_eq_false', decide_eq_true_eq, decide_eq_false_iff_not, Bool.not_eq_eq_eq_not, Bool.not_true, Bool.not_false, Bool.not_eq_true, Bool.not_eq_false, beq_iff_eq, bne_iff_ne, ne_eq, Decidable.not_not] at h1
      have hk : x.d = (L.getD 0 default).Total.toNat := by omega
      have hbd : ((List.range x.d).map fun (i : Nat) => (byteD (L.map pd) (i : Int)).getD 0) = bytesD (L.map pd) := by unfold bytesD; rw [totD_map hL, hk]
      rw [hbd]
      refine c_exit ?_
      refine k_then_x ?_
      refine k_then_x ?_
      refine k_blk_x ?_
      refine k_then_n ?_
      refine c_seq ?_
      refine c_region ?_
      refine l_step (s_q rfl wn (q_move rfl) ?_)
      refine l_step (s_q rfl wn (q_assign rfl) ?_)
      refine l_step (s_q rfl wn (q_assign rfl) ?_)
      refine l_nil ?_
      refine k_then_n ?_
      refine c_ret ?_
      exact t_ret (.row 5 1 x.a1 (bytesD (L.map pd)).length x.c1 ((bytesD (L.map pd)).flatMap encB) :: [.pts r (encRHeap (⟨most, ⟨ya, L, yc⟩⟩ : RHeap)) 101, .row 95 6 ya L.length yc (L.flatMap encPiece), Bun (L.map (rowP 5))]) rfl (.tmp rfl (.tmp rfl .nil)) rfl (Hp.le_refl _) ⟨rfl, .inr ⟨hw, x.a1, x.c1, rfl, rfl⟩⟩ (by repeat (first | exact Ent.nil _ | exact Ent.refl _ | (refine Ent.pick (by repeat (first | exact Pick.here | apply Pick.there)) ?_) | refine Ent.skip ?_))

theorem rtake_spec (r : Nat) (most : Int) (L : List Piece) (ya : Option Addr) (yc : Nat) (p : Piece) (ρ : Hp) (hr : RI L) (hLn : L.length < 1000000000) (ht : p.Total ≤ 1000000000) (hB : Ro ρ 1 p.B.a p.B.xs.length p.B.cap (p.B.xs.flatMap encB)) : Spec0 Try.prog 43 #[.pointer (some ⟨r, 0, none⟩), .agg (encPiece p).toArray] ρ [.pts r (encRHeap (⟨most, ⟨ya, L, yc⟩⟩ : RHeap)) 101, .row 95 6 ya L.length yc (L.flatMap encPiece), Bun (L.map (rowP 5))] (fun v Γ' => ∃ L' a' c', v = .int .i64 (takeR most (L.map pd) (pd p)).2 ∧ List.map pd L' = (takeR most (L.map pd) (pd p)).1 ∧ RI L' ∧ Γ' = [.pts r (encRHeap (⟨most, ⟨a', L', c'⟩⟩ : RHeap)) 101, .row 95 6 a' L'.length c' (L'.flatMap encPiece), Bun (L'.map (rowP 5))]) := by
  refine spec_of (n := 181) (vs := [_, _]) (σ := [(0, _), (1, _)]) Try.func43 rfl rfl rfl rfl fun E Δ => ?_
  simp only [List.cons_append, List.nil_append]
  refine c_seq ?_
  refine c_region ?_
  refine l_step (s_s rfl wn (s_box (cs := encPiece p) rfl rfl) ?_)
  rintro _ _ ⟨b3, rfl, rfl⟩
  refine l_step (s_q rfl wn (q_assign rfl) ?_)
  refine l_nil ?_
  refine k_then_n ?_
  refine c_seq ?_
  refine c_region ?_
  refine l_step (s_q rfl wn (q_fieldp rfl fo_95_4) ?_)
  refine l_step (s_q rfl wn (q_loadp (v := .slice p.B.a p.B.xs.length p.B.cap) sc_22 rfl (by repeat (first | exact Pick.here | apply Pick.there)) rfl) ?_)
  refine l_step (s_q rfl wn (q_len Try.underlying22 rfl) ?_)
  refine l_step (s_q rfl wn (q_assign rfl) ?_)
  refine l_nil ?_
  refine k_then_n ?_
  refine c_seq ?_
  refine c_seq ?_
  refine c_draw (m := 48) (bs := #[false, false, false, false, false, false, false, false, false, false, false, false, false, false, false, false, false, false, false, false, false, false, false, false, false, false, false, false, false, false, false, false, false, false, false, false, false, false, false, false, false, false, false, false, false, false, false, false]) [.pts b3 (encPiece p) 95, .pts r (encRHeap (⟨most, ⟨ya, L, yc⟩⟩ : RHeap)) 101, .row 95 6 ya L.length yc (L.flatMap encPiece), Bun (L.map (rowP 5))] (by kernel_rfl) rfl (by kernel_rfl) ?_
  refine r_take (i := 0) (bs' := #[true, false, false, false, false, false, false, false, false, false, false, false, false, false, false, false, false, false, false, false, false, false, false, false, false, false, false, false, false, false, false, false, false, false, false, false, false, false, false, false, false, false, false, false, false, false, false, false]) rfl (by kernel_rfl) (by kernel_rfl) (by kernel_rfl) (fun _ _ _ h => h) rfl wn (q_fieldp rfl fo_95_0) (Hp.le_refl _) (by repeat (first | exact Ent.nil _ | exact Ent.refl _ | (refine Ent.pick (by repeat (first | exact Pick.here | apply Pick.there)) ?_) | refine Ent.skip ?_)) (by kernel_rfl) ?_
  refine r_take (i := 1) (bs' := #[true, true, false, false, false, false, false, false, false, false, false, false, false, false, false, false, false, false, false, false, false, false, false, false, false, false, false, false, false, false, false, false, false, false, false, false, false, false, false, false, false, false, false, false, false, false, false, false]) rfl (by kernel_rfl) (by kernel_rfl) (by kernel_rfl) (fun _ _ _ h => h) rfl wn (q_loadpa (vs := encMark p.Mark) ag_87 rfl (by repeat (first | exact Pick.here | apply Pick.there)) rfl) (Hp.le_refl _) (by repeat (first | exact Ent.nil _ | exact Ent.refl _ | (refine Ent.pick (by repeat (first | exact Pick.here | apply Pick.there)) ?_) | refine Ent.skip ?_)) (by kernel_rfl) ?_
  refine r_one (i := 2) (bs' := #[true, true, true, false, false, false, false, false, false, false, false, false, false, false, false, false, false, false, false, false, false, false, false, false, false, false, false, false, false, false, false, false, false, false, false, false, false, false, false, false, false, false, false, false, false, false, false, false]) (by kernel_rfl) (by kernel_rfl) ?_
  refine o_step rfl (s_fnq rfl wn Try.func67 rfl (by kernel_rfl) rfl (fun ρ' hL => rright_spec p.Mark ρ') ?_)
  refine r_cont (Hp.le_refl _) (by repeat (first | exact Ent.nil _ | exact Ent.refl _ | (refine Ent.pick (by repeat (first | exact Pick.here | apply Pick.there)) ?_) | refine Ent.skip ?_)) ?_
  refine r_take (i := 3) (bs' := #[true, true, true, true, false, false, false, false, false, false, false, false, false, false, false, false, false, false, false, false, false, false, false, false, false, false, false, false, false, false, false, false, false, false, false, false, false, false, false, false, false, false, false, false, false, false, false, false]) rfl (by kernel_rfl) (by kernel_rfl) (by kernel_rfl) (fun _ _ _ h => h) rfl wn (q_not rfl) (Hp.le_refl _) (by repeat (first | exact Ent.nil _ | exact Ent.refl _ | (refine Ent.pick (by repeat (first | exact Pick.here | apply Pick.there)) ?_) | refine Ent.skip ?_)) (by kernel_rfl) ?_
  refine r_take (i := 4) (bs' := #[true, true, true, true, true, false, false, false, false, false, false, false, false, false, false, false, false, false, false, false, false, false, false, false, false, false, false, false, false, false, false, false, false, false, false, false, false, false, false, false, false, false, false, false, false, false, false, false]) rfl (by kernel_rfl) (by kernel_rfl) (by kernel_rfl) (fun _ _ _ h => h) rfl wn (q_move rfl) (Hp.le_refl _) (by repeat (first | exact Ent.nil _ | exact Ent.refl _ | (refine Ent.pick (by repeat (first | exact Pick.here | apply Pick.there)) ?_) | refine Ent.skip ?_)) (by kernel_rfl) ?_
  refine r_takeg (i := 5) (b := (!(!(rightR p.Mark)))) (bs' := #[true, true, true, true, true, true, false, false, false, false, false, false, false, false, false, false, false, false, false, false, false, false, false, false, false, false, false, false, false, false, false, false, false, false, false, false, false, false, false, false, false, false, false, false, false, false, false, false]) rfl (by kernel_rfl) (by kernel_rfl) (by kernel_rfl) (fun _ _ _ h => h) rfl (ask_f rfl rfl) (fun hb => q_fieldp rfl fo_95_2) (Hp.le_refl _) (by repeat (first | exact Ent.nil _ | exact Ent.refl _ | (refine Ent.pick (by repeat (first | exact Pick.here | apply Pick.there)) ?_) | refine Ent.skip ?_)) (by kernel_rfl) ?_
  refine r_takeg (i := 6) (b := (!(!(rightR p.Mark)))) (bs' := #[true, true, true, true, true, true, true, false, false, false, false, false, false, false, false, false, false, false, false, false, false, false, false, false, false, false, false, false, false, false, false, false, false, false, false, false, false, false, false, false, false, false, false, false, false, false, false, false]) rfl (by kernel_rfl) (by kernel_rfl) (by kernel_rfl) (fun _ _ _ h => h) rfl (ask_f rfl rfl) (fun hb => OpQ.env (.cons rfl (gd_t hb) (.nil _) : EnvLe [(21, .pointer (some ⟨b3, 3, none⟩))] _) (q_loadp (v := .int .i64 p.Total) sc_3 rfl (by repeat (first | exact Pick.here | apply Pick.there)) rfl)) (Hp.le_refl _) (by repeat (first | exact Ent.nil _ | exact Ent.refl _ | (refine Ent.pick (by repeat (first | exact Pick.here | apply Pick.there)) ?_) | refine Ent.skip ?_)) (by kernel_rfl) ?_
  refine r_takeg (i := 7) (b := (!(!(rightR p.Mark)))) (bs' := #[true, true, true, true, true, true, true, true, false, false, false, false, false, false, false, false, false, false, false, false, false, false, false, false, false, false, false, false, false, false, false, false, false, false, false, false, false, false, false, false, false, false, false, false, false, false, false, false]) rfl (by kernel_rfl) (by kernel_rfl) (by kernel_rfl) (fun _ _ _ h => h) rfl (ask_f rfl rfl) (fun hb => OpQ.env (.cons rfl (gd_t hb) (.nil _) : EnvLe [(22, .int .i64 p.Total)] _) (q_lss rfl rfl)) (Hp.le_refl _) (by repeat (first | exact Ent.nil _ | exact Ent.refl _ | (refine Ent.pick (by repeat (first | exact Pick.here | apply Pick.there)) ?_) | refine Ent.skip ?_)) (by kernel_rfl) ?_
  refine r_take (i := 8) (bs' := #[true, true, true, true, true, true, true, true, true, false, false, false, false, false, false, false, false, false, false, false, false, false, false, false, false, false, false, false, false, false, false, false, false, false, false, false, false, false, false, false, false, false, false, false, false, false, false, false]) rfl (by kernel_rfl) (by kernel_rfl) (by kernel_rfl) (fun _ _ _ h => h) rfl wn (q_pick_or rfl rfl rfl (fun h => by first | (rw [h]; rfl) | exact congrArg not h)) (Hp.le_refl _) (by repeat (first | exact Ent.nil _ | exact Ent.refl _ | (refine Ent.pick (by repeat (first | exact Pick.here | apply Pick.there)) ?_) | refine Ent.skip ?_)) (by kernel_rfl) ?_
  refine r_take (i := 9) (bs' := #[true, true, true, true, true, true, true, true, true, true, false, false, false, false, false, false, false, false, false, false, false, false, false, false, false, false, false, false, false, false, false, false, false, false, false, false, false, false, false, false, false, false, false, false, false, false, false, false]) rfl (by kernel_rfl) (by kernel_rfl) (by kernel_rfl) (fun _ _ _ h => h) rfl wn (q_move rfl) (Hp.le_refl _) (by repeat (first | exact Ent.nil _ | exact Ent.refl _ | (refine Ent.pick (by repeat (first | exact Pick.here | apply Pick.there)) ?_) | refine Ent.skip ?_)) (by kernel_rfl) ?_
  refine r_takeg (i := 10) (b := (!((!(rightR p.Mark)) || (decide (p.Total < 0))))) (bs' := #[true, true, true, true, true, true, true, true, true, true, true, false, false, false, false, false, false, false, false, false, false, false, false, false, false, false, false, false, false, false, false, false, false, false, false, false, false, false, false, false, false, false, false, false, false, false, false, false]) rfl (by kernel_rfl) (by kernel_rfl) (by kernel_rfl) (fun _ _ _ h => h) rfl (ask_f rfl rfl) (fun hb => q_fieldp rfl fo_95_2) (Hp.le_refl _) (by repeat (first | exact Ent.nil _ | exact Ent.refl _ | (refine Ent.pick (by repeat (first | exact Pick.here | apply Pick.there)) ?_) | refine Ent.skip ?_)) (by kernel_rfl) ?_
  refine r_takeg (i := 11) (b := (!((!(rightR p.Mark)) || (decide (p.Total < 0))))) (bs' := #[true, true, true, true, true, true, true, true, true, true, true, true, false, false, false, false, false, false, false, false, false, false, false, false, false, false, false, false, false, false, false, false, false, false, false, false, false, false, false, false, false, false, false, false, false, false, false, false]) rfl (by kernel_rfl) (by kernel_rfl) (by kernel_rfl) (fun _ _ _ h => h) rfl (ask_f rfl rfl) (fun hb => OpQ.env (.cons rfl (gd_t hb) (.nil _) : EnvLe [(26, .pointer (some ⟨b3, 3, none⟩))] _) (q_loadp (v := .int .i64 p.Total) sc_3 rfl (by repeat (first | exact Pick.here | apply Pick.there)) rfl)) (Hp.le_refl _) (by repeat (first | exact Ent.nil _ | exact Ent.refl _ | (refine Ent.pick (by repeat (first | exact Pick.here | apply Pick.there)) ?_) | refine Ent.skip ?_)) (by kernel_rfl) ?_
  refine r_takeg (i := 12) (b := (!((!(rightR p.Mark)) || (decide (p.Total < 0))))) (bs' := #[true, true, true, true, true, true, true, true, true, true, true, true, true, false, false, false, false, false, false, false, false, false, false, false, false, false, false, false, false, false, false, false, false, false, false, false, false, false, false, false, false, false, false, false, false, false, false, false]) rfl (by kernel_rfl) (by kernel_rfl) (by kernel_rfl) (fun _ _ _ h => h) rfl (ask_f rfl rfl) (fun hb => q_move rfl) (Hp.le_refl _) (by repeat (first | exact Ent.nil _ | exact Ent.refl _ | (refine Ent.pick (by repeat (first | exact Pick.here | apply Pick.there)) ?_) | refine Ent.skip ?_)) (by kernel_rfl) ?_
  refine r_takeg (i := 13) (b := (!((!(rightR p.Mark)) || (decide (p.Total < 0))))) (bs' := #[true, true, true, true, true, true, true, true, true, true, true, true, true, true, false, false, false, false, false, false, false, false, false, false, false, false, false, false, false, false, false, false, false, false, false, false, false, false, false, false, false, false, false, false, false, false, false, false]) rfl (by kernel_rfl) (by kernel_rfl) (by kernel_rfl) (fun _ _ _ h => h) rfl (ask_f rfl rfl) (fun hb => OpQ.env (.cons rfl (gd_t hb) (.nil _) : EnvLe [(28, .pointer (some ⟨r, 0, none⟩))] _) (q_nilCheck rfl)) (Hp.le_refl _) (by repeat (first | exact Ent.nil _ | exact Ent.refl _ | (refine Ent.pick (by repeat (first | exact Pick.here | apply Pick.there)) ?_) | refine Ent.skip ?_)) (by kernel_rfl) ?_
  refine r_takeg (i := 14) (b := (!((!(rightR p.Mark)) || (decide (p.Total < 0))))) (bs' := #[true, true, true, true, true, true, true, true, true, true, true, true, true, true, true, false, false, false, false, false, false, false, false, false, false, false, false, false, false, false, false, false, false, false, false, false, false, false, false, false, false, false, false, false, false, false, false, false]) rfl (by kernel_rfl) (by kernel_rfl) (by kernel_rfl) (fun _ _ _ h => h) rfl (ask_f rfl rfl) (fun hb => OpQ.env (.cons rfl (gd_t hb) (.nil _) : EnvLe [(29, .pointer (some ⟨r, 0, none⟩))] _) (q_fieldp rfl fo_101_0)) (Hp.le_refl _) (by repeat (first | exact Ent.nil _ | exact Ent.refl _ | (refine Ent.pick (by repeat (first | exact Pick.here | apply Pick.there)) ?_) | refine Ent.skip ?_)) (by kernel_rfl) ?_
  refine r_takeg (i := 15) (b := (!((!(rightR p.Mark)) || (decide (p.Total < 0))))) (bs' := #[true, true, true, true, true, true, true, true, true, true, true, true, true, true, true, true, false, false, false, false, false, false, false, false, false, false, false, false, false, false, false, false, false, false, false, false, false, false, false, false, false, false, false, false, false, false, false, false]) rfl (by kernel_rfl) (by kernel_rfl) (by kernel_rfl) (fun _ _ _ h => h) rfl (ask_f rfl rfl) (fun hb => OpQ.env (.cons rfl (gd_t hb) (.nil _) : EnvLe [(30, .pointer (some ⟨r, 0, none⟩))] _) (q_loadp (v := .int .i64 most) sc_3 rfl (by repeat (first | exact Pick.here | apply Pick.there)) rfl)) (Hp.le_refl _) (by repeat (first | exact Ent.nil _ | exact Ent.refl _ | (refine Ent.pick (by repeat (first | exact Pick.here | apply Pick.there)) ?_) | refine Ent.skip ?_)) (by kernel_rfl) ?_
  refine r_takeg (i := 16) (b := (!((!(rightR p.Mark)) || (decide (p.Total < 0))))) (bs' := #[true, true, true, true, true, true, true, true, true, true, true, true, true, true, true, true, true, false, false, false, false, false, false, false, false, false, false, false, false, false, false, false, false, false, false, false, false, false, false, false, false, false, false, false, false, false, false, false]) rfl (by kernel_rfl) (by kernel_rfl) (by kernel_rfl) (fun _ _ _ h => h) rfl (ask_f rfl rfl) (fun hb => OpQ.env (.cons rfl (gd_t hb) (.cons rfl (gd_t hb) (.nil _)) : EnvLe [(27, .int .i64 p.Total), (31, .int .i64 most)] _) (q_gtr rfl rfl)) (Hp.le_refl _) (by repeat (first | exact Ent.nil _ | exact Ent.refl _ | (refine Ent.pick (by repeat (first | exact Pick.here | apply Pick.there)) ?_) | refine Ent.skip ?_)) (by kernel_rfl) ?_
  refine r_take (i := 17) (bs' := #[true, true, true, true, true, true, true, true, true, true, true, true, true, true, true, true, true, true, false, false, false, false, false, false, false, false, false, false, false, false, false, false, false, false, false, false, false, false, false, false, false, false, false, false, false, false, false, false]) rfl (by kernel_rfl) (by kernel_rfl) (by kernel_rfl) (fun _ _ _ h => h) rfl wn (q_pick_or rfl rfl rfl (fun h => by first | (rw [h]; rfl) | exact congrArg not h)) (Hp.le_refl _) (by repeat (first | exact Ent.nil _ | exact Ent.refl _ | (refine Ent.pick (by repeat (first | exact Pick.here | apply Pick.there)) ?_) | refine Ent.skip ?_)) (by kernel_rfl) ?_
  refine r_take (i := 18) (bs' := #[true, true, true, true, true, true, true, true, true, true, true, true, true, true, true, true, true, true, true, false, false, false, false, false, false, false, false, false, false, false, false, false, false, false, false, false, false, false, false, false, false, false, false, false, false, false, false, false]) rfl (by kernel_rfl) (by kernel_rfl) (by kernel_rfl) (fun _ _ _ h => h) rfl wn (q_move rfl) (Hp.le_refl _) (by repeat (first | exact Ent.nil _ | exact Ent.refl _ | (refine Ent.pick (by repeat (first | exact Pick.here | apply Pick.there)) ?_) | refine Ent.skip ?_)) (by kernel_rfl) ?_
  refine r_takeg (i := 19) (b := (!(((!(rightR p.Mark)) || (decide (p.Total < 0))) || (decide (most < p.Total))))) (bs' := #[true, true, true, true, true, true, true, true, true, true, true, true, true, true, true, true, true, true, true, true, false, false, false, false, false, false, false, false, false, false, false, false, false, false, false, false, false, false, false, false, false, false, false, false, false, false, false, false]) rfl (by kernel_rfl) (by kernel_rfl) (by kernel_rfl) (fun _ _ _ h => h) rfl (ask_f rfl rfl) (fun hb => q_fieldp rfl fo_95_3) (Hp.le_refl _) (by repeat (first | exact Ent.nil _ | exact Ent.refl _ | (refine Ent.pick (by repeat (first | exact Pick.here | apply Pick.there)) ?_) | refine Ent.skip ?_)) (by kernel_rfl) ?_
  refine r_takeg (i := 20) (b := (!(((!(rightR p.Mark)) || (decide (p.Total < 0))) || (decide (most < p.Total))))) (bs' := #[true, true, true, true, true, true, true, true, true, true, true, true, true, true, true, true, true, true, true, true, true, false, false, false, false, false, false, false, false, false, false, false, false, false, false, false, false, false, false, false, false, false, false, false, false, false, false, false]) rfl (by kernel_rfl) (by kernel_rfl) (by kernel_rfl) (fun _ _ _ h => h) rfl (ask_f rfl rfl) (fun hb => OpQ.env (.cons rfl (gd_t hb) (.nil _) : EnvLe [(35, .pointer (some ⟨b3, 4, none⟩))] _) (q_loadp (v := .int .i64 p.At) sc_3 rfl (by repeat (first | exact Pick.here | apply Pick.there)) rfl)) (Hp.le_refl _) (by repeat (first | exact Ent.nil _ | exact Ent.refl _ | (refine Ent.pick (by repeat (first | exact Pick.here | apply Pick.there)) ?_) | refine Ent.skip ?_)) (by kernel_rfl) ?_
  refine r_takeg (i := 21) (b := (!(((!(rightR p.Mark)) || (decide (p.Total < 0))) || (decide (most < p.Total))))) (bs' := #[true, true, true, true, true, true, true, true, true, true, true, true, true, true, true, true, true, true, true, true, true, true, false, false, false, false, false, false, false, false, false, false, false, false, false, false, false, false, false, false, false, false, false, false, false, false, false, false]) rfl (by kernel_rfl) (by kernel_rfl) (by kernel_rfl) (fun _ _ _ h => h) rfl (ask_f rfl rfl) (fun hb => OpQ.env (.cons rfl (gd_t hb) (.nil _) : EnvLe [(36, .int .i64 p.At)] _) (q_lss rfl rfl)) (Hp.le_refl _) (by repeat (first | exact Ent.nil _ | exact Ent.refl _ | (refine Ent.pick (by repeat (first | exact Pick.here | apply Pick.there)) ?_) | refine Ent.skip ?_)) (by kernel_rfl) ?_
  refine r_take (i := 22) (bs' := #[true, true, true, true, true, true, true, true, true, true, true, true, true, true, true, true, true, true, true, true, true, true, true, false, false, false, false, false, false, false, false, false, false, false, false, false, false, false, false, false, false, false, false, false, false, false, false, false]) rfl (by kernel_rfl) (by kernel_rfl) (by kernel_rfl) (fun _ _ _ h => h) rfl wn (q_pick_or rfl rfl rfl (fun h => by first | (rw [h]; rfl) | exact congrArg not h)) (Hp.le_refl _) (by repeat (first | exact Ent.nil _ | exact Ent.refl _ | (refine Ent.pick (by repeat (first | exact Pick.here | apply Pick.there)) ?_) | refine Ent.skip ?_)) (by kernel_rfl) ?_
  refine r_take (i := 23) (bs' := #[true, true, true, true, true, true, true, true, true, true, true, true, true, true, true, true, true, true, true, true, true, true, true, true, false, false, false, false, false, false, false, false, false, false, false, false, false, false, false, false, false, false, false, false, false, false, false, false]) rfl (by kernel_rfl) (by kernel_rfl) (by kernel_rfl) (fun _ _ _ h => h) rfl wn (q_move rfl) (Hp.le_refl _) (by repeat (first | exact Ent.nil _ | exact Ent.refl _ | (refine Ent.pick (by repeat (first | exact Pick.here | apply Pick.there)) ?_) | refine Ent.skip ?_)) (by kernel_rfl) ?_
  refine r_takeg (i := 24) (b := (!((((!(rightR p.Mark)) || (decide (p.Total < 0))) || (decide (most < p.Total))) || (decide (p.At < 0))))) (bs' := #[true, true, true, true, true, true, true, true, true, true, true, true, true, true, true, true, true, true, true, true, true, true, true, true, true, false, false, false, false, false, false, false, false, false, false, false, false, false, false, false, false, false, false, false, false, false, false, false]) rfl (by kernel_rfl) (by kernel_rfl) (by kernel_rfl) (fun _ _ _ h => h) rfl (ask_f rfl rfl) (fun hb => q_fieldp rfl fo_95_3) (Hp.le_refl _) (by repeat (first | exact Ent.nil _ | exact Ent.refl _ | (refine Ent.pick (by repeat (first | exact Pick.here | apply Pick.there)) ?_) | refine Ent.skip ?_)) (by kernel_rfl) ?_
  refine r_takeg (i := 25) (b := (!((((!(rightR p.Mark)) || (decide (p.Total < 0))) || (decide (most < p.Total))) || (decide (p.At < 0))))) (bs' := #[true, true, true, true, true, true, true, true, true, true, true, true, true, true, true, true, true, true, true, true, true, true, true, true, true, true, false, false, false, false, false, false, false, false, false, false, false, false, false, false, false, false, false, false, false, false, false, false]) rfl (by kernel_rfl) (by kernel_rfl) (by kernel_rfl) (fun _ _ _ h => h) rfl (ask_f rfl rfl) (fun hb => OpQ.env (.cons rfl (gd_t hb) (.nil _) : EnvLe [(40, .pointer (some ⟨b3, 4, none⟩))] _) (q_loadp (v := .int .i64 p.At) sc_3 rfl (by repeat (first | exact Pick.here | apply Pick.there)) rfl)) (Hp.le_refl _) (by repeat (first | exact Ent.nil _ | exact Ent.refl _ | (refine Ent.pick (by repeat (first | exact Pick.here | apply Pick.there)) ?_) | refine Ent.skip ?_)) (by kernel_rfl) ?_
  refine r_takeg (i := 26) (b := (!((((!(rightR p.Mark)) || (decide (p.Total < 0))) || (decide (most < p.Total))) || (decide (p.At < 0))))) (bs' := #[true, true, true, true, true, true, true, true, true, true, true, true, true, true, true, true, true, true, true, true, true, true, true, true, true, true, true, false, false, false, false, false, false, false, false, false, false, false, false, false, false, false, false, false, false, false, false, false]) rfl (by kernel_rfl) (by kernel_rfl) (by kernel_rfl) (fun _ _ _ h => h) rfl (ask_f rfl rfl) (fun hb => q_fieldp rfl fo_95_2) (Hp.le_refl _) (by repeat (first | exact Ent.nil _ | exact Ent.refl _ | (refine Ent.pick (by repeat (first | exact Pick.here | apply Pick.there)) ?_) | refine Ent.skip ?_)) (by kernel_rfl) ?_
  refine r_takeg (i := 27) (b := (!((((!(rightR p.Mark)) || (decide (p.Total < 0))) || (decide (most < p.Total))) || (decide (p.At < 0))))) (bs' := #[true, true, true, true, true, true, true, true, true, true, true, true, true, true, true, true, true, true, true, true, true, true, true, true, true, true, true, true, false, false, false, false, false, false, false, false, false, false, false, false, false, false, false, false, false, false, false, false]) rfl (by kernel_rfl) (by kernel_rfl) (by kernel_rfl) (fun _ _ _ h => h) rfl (ask_f rfl rfl) (fun hb => OpQ.env (.cons rfl (gd_t hb) (.nil _) : EnvLe [(42, .pointer (some ⟨b3, 3, none⟩))] _) (q_loadp (v := .int .i64 p.Total) sc_3 rfl (by repeat (first | exact Pick.here | apply Pick.there)) rfl)) (Hp.le_refl _) (by repeat (first | exact Ent.nil _ | exact Ent.refl _ | (refine Ent.pick (by repeat (first | exact Pick.here | apply Pick.there)) ?_) | refine Ent.skip ?_)) (by kernel_rfl) ?_
  refine r_takeg (i := 28) (b := (!((((!(rightR p.Mark)) || (decide (p.Total < 0))) || (decide (most < p.Total))) || (decide (p.At < 0))))) (bs' := #[true, true, true, true, true, true, true, true, true, true, true, true, true, true, true, true, true, true, true, true, true, true, true, true, true, true, true, true, true, false, false, false, false, false, false, false, false, false, false, false, false, false, false, false, false, false, false, false]) rfl (by kernel_rfl) (by kernel_rfl) (by kernel_rfl) (fun _ _ _ h => h) rfl (ask_f rfl rfl) (fun hb => OpQ.env (.cons rfl (gd_t hb) (.cons rfl (gd_t hb) (.nil _)) : EnvLe [(41, .int .i64 p.At), (43, .int .i64 p.Total)] _) (q_gtr rfl rfl)) (Hp.le_refl _) (by repeat (first | exact Ent.nil _ | exact Ent.refl _ | (refine Ent.pick (by repeat (first | exact Pick.here | apply Pick.there)) ?_) | refine Ent.skip ?_)) (by kernel_rfl) ?_
  refine r_take (i := 29) (bs' := #[true, true, true, true, true, true, true, true, true, true, true, true, true, true, true, true, true, true, true, true, true, true, true, true, true, true, true, true, true, true, false, false, false, false, false, false, false, false, false, false, false, false, false, false, false, false, false, false]) rfl (by kernel_rfl) (by kernel_rfl) (by kernel_rfl) (fun _ _ _ h => h) rfl wn (q_pick_or rfl rfl rfl (fun h => by first | (rw [h]; rfl) | exact congrArg not h)) (Hp.le_refl _) (by repeat (first | exact Ent.nil _ | exact Ent.refl _ | (refine Ent.pick (by repeat (first | exact Pick.here | apply Pick.there)) ?_) | refine Ent.skip ?_)) (by kernel_rfl) ?_
  refine r_take (i := 30) (bs' := #[true, true, true, true, true, true, true, true, true, true, true, true, true, true, true, true, true, true, true, true, true, true, true, true, true, true, true, true, true, true, true, false, false, false, false, false, false, false, false, false, false, false, false, false, false, false, false, false]) rfl (by kernel_rfl) (by kernel_rfl) (by kernel_rfl) (fun _ _ _ h => h) rfl wn (q_move rfl) (Hp.le_refl _) (by repeat (first | exact Ent.nil _ | exact Ent.refl _ | (refine Ent.pick (by repeat (first | exact Pick.here | apply Pick.there)) ?_) | refine Ent.skip ?_)) (by kernel_rfl) ?_
  refine r_takeg (i := 31) (b := (!(((((!(rightR p.Mark)) || (decide (p.Total < 0))) || (decide (most < p.Total))) || (decide (p.At < 0))) || (decide (p.Total < p.At))))) (bs' := #[true, true, true, true, true, true, true, true, true, true, true, true, true, true, true, true, true, true, true, true, true, true, true, true, true, true, true, true, true, true, true, true, false, false, false, false, false, false, false, false, false, false, false, false, false, false, false, false]) rfl (by kernel_rfl) (by kernel_rfl) (by kernel_rfl) (fun _ _ _ h => h) rfl (ask_f rfl rfl) (fun hb => q_move rfl) (Hp.le_refl _) (by repeat (first | exact Ent.nil _ | exact Ent.refl _ | (refine Ent.pick (by repeat (first | exact Pick.here | apply Pick.there)) ?_) | refine Ent.skip ?_)) (by kernel_rfl) ?_
  refine r_takeg (i := 32) (b := (!(((((!(rightR p.Mark)) || (decide (p.Total < 0))) || (decide (most < p.Total))) || (decide (p.At < 0))) || (decide (p.Total < p.At))))) (bs' := #[true, true, true, true, true, true, true, true, true, true, true, true, true, true, true, true, true, true, true, true, true, true, true, true, true, true, true, true, true, true, true, true, true, false, false, false, false, false, false, false, false, false, false, false, false, false, false, false]) rfl (by kernel_rfl) (by kernel_rfl) (by kernel_rfl) (fun _ _ _ h => h) rfl (ask_f rfl rfl) (fun hb => q_fieldp rfl fo_95_2) (Hp.le_refl _) (by repeat (first | exact Ent.nil _ | exact Ent.refl _ | (refine Ent.pick (by repeat (first | exact Pick.here | apply Pick.there)) ?_) | refine Ent.skip ?_)) (by kernel_rfl) ?_
  refine r_takeg (i := 33) (b := (!(((((!(rightR p.Mark)) || (decide (p.Total < 0))) || (decide (most < p.Total))) || (decide (p.At < 0))) || (decide (p.Total < p.At))))) (bs' := #[true, true, true, true, true, true, true, true, true, true, true, true, true, true, true, true, true, true, true, true, true, true, true, true, true, true, true, true, true, true, true, true, true, true, false, false, false, false, false, false, false, false, false, false, false, false, false, false]) rfl (by kernel_rfl) (by kernel_rfl) (by kernel_rfl) (fun _ _ _ h => h) rfl (ask_f rfl rfl) (fun hb => OpQ.env (.cons rfl (gd_t hb) (.nil _) : EnvLe [(48, .pointer (some ⟨b3, 3, none⟩))] _) (q_loadp (v := .int .i64 p.Total) sc_3 rfl (by repeat (first | exact Pick.here | apply Pick.there)) rfl)) (Hp.le_refl _) (by repeat (first | exact Ent.nil _ | exact Ent.refl _ | (refine Ent.pick (by repeat (first | exact Pick.here | apply Pick.there)) ?_) | refine Ent.skip ?_)) (by kernel_rfl) ?_
  refine r_takeg (i := 34) (b := (!(((((!(rightR p.Mark)) || (decide (p.Total < 0))) || (decide (most < p.Total))) || (decide (p.At < 0))) || (decide (p.Total < p.At))))) (bs' := #[true, true, true, true, true, true, true, true, true, true, true, true, true, true, true, true, true, true, true, true, true, true, true, true, true, true, true, true, true, true, true, true, true, true, true, false, false, false, false, false, false, false, false, false, false, false, false, false]) rfl (by kernel_rfl) (by kernel_rfl) (by kernel_rfl) (fun _ _ _ h => h) rfl (ask_f rfl rfl) (fun hb => q_fieldp rfl fo_95_3) (Hp.le_refl _) (by repeat (first | exact Ent.nil _ | exact Ent.refl _ | (refine Ent.pick (by repeat (first | exact Pick.here | apply Pick.there)) ?_) | refine Ent.skip ?_)) (by kernel_rfl) ?_
  refine r_takeg (i := 35) (b := (!(((((!(rightR p.Mark)) || (decide (p.Total < 0))) || (decide (most < p.Total))) || (decide (p.At < 0))) || (decide (p.Total < p.At))))) (bs' := #[true, true, true, true, true, true, true, true, true, true, true, true, true, true, true, true, true, true, true, true, true, true, true, true, true, true, true, true, true, true, true, true, true, true, true, true, false, false, false, false, false, false, false, false, false, false, false, false]) rfl (by kernel_rfl) (by kernel_rfl) (by kernel_rfl) (fun _ _ _ h => h) rfl (ask_f rfl rfl) (fun hb => OpQ.env (.cons rfl (gd_t hb) (.nil _) : EnvLe [(50, .pointer (some ⟨b3, 4, none⟩))] _) (q_loadp (v := .int .i64 p.At) sc_3 rfl (by repeat (first | exact Pick.here | apply Pick.there)) rfl)) (Hp.le_refl _) (by repeat (first | exact Ent.nil _ | exact Ent.refl _ | (refine Ent.pick (by repeat (first | exact Pick.here | apply Pick.there)) ?_) | refine Ent.skip ?_)) (by kernel_rfl) ?_
  refine r_takeg (i := 36) (b := (!(((((!(rightR p.Mark)) || (decide (p.Total < 0))) || (decide (most < p.Total))) || (decide (p.At < 0))) || (decide (p.Total < p.At))))) (bs' := #[true, true, true, true, true, true, true, true, true, true, true, true, true, true, true, true, true, true, true, true, true, true, true, true, true, true, true, true, true, true, true, true, true, true, true, true, true, false, false, false, false, false, false, false, false, false, false, false]) rfl (by kernel_rfl) (by kernel_rfl) (by kernel_rfl) (fun _ _ _ h => h) rfl (ask_f rfl rfl) (fun hb => OpQ.env (.cons rfl (gd_t hb) (.cons rfl (gd_t hb) (.nil _)) : EnvLe [(49, .int .i64 p.Total), (51, .int .i64 p.At)] _) (q_sub rfl rfl (by first | omega | (have hb2 := hb; (try simp only [Bool.and_eq_true, Bool.or_eq_true, Bool.not_eq_true', Bool.and_eq_false_iff, Bool.or_eq_false_iff, Bool.not_eq_false', decide_eq_true_eq, decide_eq_false_iff_not, Bool.not_eq_eq_eq_not, Bool.not_true, Bool.not_false, Bool.not_eq_true, Bool.not_eq_false, beq_iff_eq, bne_iff_ne, ne_eq, Decidable.not_not] at hb2); omega)) (by first | omega | (have hb2 := hb; (try simp only [Bool.and_eq_true, Bool.or_eq_true, Bool.not_eq_true', Bool.and_eq_false_iff, Bool.or_eq_false_iff, Bool.not_eq_false', decide_eq_true_eq, decide_eq_false_iff_not, Bool.not_eq_eq_eq_not, Bool.not_true, Bool.not_false, Bool.not_eq_true, Bool.not_eq_false, beq_iff_eq, bne_iff_ne, ne_eq, Decidable.not_not] at hb2); omega)))) (Hp.le_refl _) (by repeat (first | exact Ent.nil _ | exact Ent.refl _ | (refine Ent.pick (by repeat (first | exact Pick.here | apply Pick.there)) ?_) | refine Ent.skip ?_)) (by kernel_rfl) ?_
  refine r_takeg (i := 37) (b := (!(((((!(rightR p.Mark)) || (decide (p.Total < 0))) || (decide (most < p.Total))) || (decide (p.At < 0))) || (decide (p.Total < p.At))))) (bs' := #[true, true, true, true, true, true, true, true, true, true, true, true, true, true, true, true, true, true, true, true, true, true, true, true, true, true, true, true, true, true, true, true, true, true, true, true, true, true, false, false, false, false, false, false, false, false, false, false]) rfl (by kernel_rfl) (by kernel_rfl) (by kernel_rfl) (fun _ _ _ h => h) rfl (ask_f rfl rfl) (fun hb => OpQ.env (.cons rfl (gd_t hb) (.cons rfl (gd_t hb) (.nil _)) : EnvLe [(47, .int .i64 (p.B.xs.length : Int)), (52, .int .i64 (p.Total - p.At))] _) (q_gtr rfl rfl)) (Hp.le_refl _) (by repeat (first | exact Ent.nil _ | exact Ent.refl _ | (refine Ent.pick (by repeat (first | exact Pick.here | apply Pick.there)) ?_) | refine Ent.skip ?_)) (by kernel_rfl) ?_
  refine r_take (i := 38) (bs' := #[true, true, true, true, true, true, true, true, true, true, true, true, true, true, true, true, true, true, true, true, true, true, true, true, true, true, true, true, true, true, true, true, true, true, true, true, true, true, true, false, false, false, false, false, false, false, false, false]) rfl (by kernel_rfl) (by kernel_rfl) (by kernel_rfl) (fun _ _ _ h => h) rfl wn (q_pick_or rfl rfl rfl (fun h => by first | (rw [h]; rfl) | exact congrArg not h)) (Hp.le_refl _) (by repeat (first | exact Ent.nil _ | exact Ent.refl _ | (refine Ent.pick (by repeat (first | exact Pick.here | apply Pick.there)) ?_) | refine Ent.skip ?_)) (by kernel_rfl) ?_
  refine r_take (i := 39) (bs' := #[true, true, true, true, true, true, true, true, true, true, true, true, true, true, true, true, true, true, true, true, true, true, true, true, true, true, true, true, true, true, true, true, true, true, true, true, true, true, true, true, false, false, false, false, false, false, false, false]) rfl (by kernel_rfl) (by kernel_rfl) (by kernel_rfl) (fun _ _ _ h => h) rfl wn (q_move rfl) (Hp.le_refl _) (by repeat (first | exact Ent.nil _ | exact Ent.refl _ | (refine Ent.pick (by repeat (first | exact Pick.here | apply Pick.there)) ?_) | refine Ent.skip ?_)) (by kernel_rfl) ?_
  refine r_takeg (i := 40) (b := (!((((((!(rightR p.Mark)) || (decide (p.Total < 0))) || (decide (most < p.Total))) || (decide (p.At < 0))) || (decide (p.Total < p.At))) || (decide ((p.Total - p.At) < (p.B.xs.length : Int)))))) (bs' := #[true, true, true, true, true, true, true, true, true, true, true, true, true, true, true, true, true, true, true, true, true, true, true, true, true, true, true, true, true, true, true, true, true, true, true, true, true, true, true, true, true, false, false, false, false, false, false, false]) rfl (by kernel_rfl) (by kernel_rfl) (by kernel_rfl) (fun _ _ _ h => h) rfl (ask_f rfl rfl) (fun hb => q_move rfl) (Hp.le_refl _) (by repeat (first | exact Ent.nil _ | exact Ent.refl _ | (refine Ent.pick (by repeat (first | exact Pick.here | apply Pick.there)) ?_) | refine Ent.skip ?_)) (by kernel_rfl) ?_
  refine r_takeg (i := 41) (b := (!((((((!(rightR p.Mark)) || (decide (p.Total < 0))) || (decide (most < p.Total))) || (decide (p.At < 0))) || (decide (p.Total < p.At))) || (decide ((p.Total - p.At) < (p.B.xs.length : Int)))))) (bs' := #[true, true, true, true, true, true, true, true, true, true, true, true, true, true, true, true, true, true, true, true, true, true, true, true, true, true, true, true, true, true, true, true, true, true, true, true, true, true, true, true, true, true, false, false, false, false, false, false]) rfl (by kernel_rfl) (by kernel_rfl) (by kernel_rfl) (fun _ _ _ h => h) rfl (ask_f rfl rfl) (fun hb => OpQ.env (.cons rfl (gd_t hb) (.nil _) : EnvLe [(56, .int .i64 (p.B.xs.length : Int))] _) (q_eql rfl rfl)) (Hp.le_refl _) (by repeat (first | exact Ent.nil _ | exact Ent.refl _ | (refine Ent.pick (by repeat (first | exact Pick.here | apply Pick.there)) ?_) | refine Ent.skip ?_)) (by kernel_rfl) ?_
  refine r_takeg (i := 42) (b := (!((((((!(rightR p.Mark)) || (decide (p.Total < 0))) || (decide (most < p.Total))) || (decide (p.At < 0))) || (decide (p.Total < p.At))) || (decide ((p.Total - p.At) < (p.B.xs.length : Int)))))) (bs' := #[true, true, true, true, true, true, true, true, true, true, true, true, true, true, true, true, true, true, true, true, true, true, true, true, true, true, true, true, true, true, true, true, true, true, true, true, true, true, true, true, true, true, true, false, false, false, false, false]) rfl (by kernel_rfl) (by kernel_rfl) (by kernel_rfl) (fun _ _ _ h => h) rfl (ask_f rfl rfl) (fun hb => OpQ.env (.cons rfl (gd_t hb) (.nil _) : EnvLe [(57, .bool (decide ((p.B.xs.length : Int) = 0)))] _) (q_move rfl)) (Hp.le_refl _) (by repeat (first | exact Ent.nil _ | exact Ent.refl _ | (refine Ent.pick (by repeat (first | exact Pick.here | apply Pick.there)) ?_) | refine Ent.skip ?_)) (by kernel_rfl) ?_
  refine r_takeg (i := 43) (b := ((!((((((!(rightR p.Mark)) || (decide (p.Total < 0))) || (decide (most < p.Total))) || (decide (p.At < 0))) || (decide (p.Total < p.At))) || (decide ((p.Total - p.At) < (p.B.xs.length : Int))))) && (decide ((p.B.xs.length : Int) = 0)))) (bs' := #[true, true, true, true, true, true, true, true, true, true, true, true, true, true, true, true, true, true, true, true, true, true, true, true, true, true, true, true, true, true, true, true, true, true, true, true, true, true, true, true, true, true, true, true, false, false, false, false]) rfl (by kernel_rfl) (by kernel_rfl) (by kernel_rfl) (fun _ _ _ h => h) rfl (ask_gt rfl rfl) (fun hb => q_fieldp rfl fo_95_2) (Hp.le_refl _) (by repeat (first | exact Ent.nil _ | exact Ent.refl _ | (refine Ent.pick (by repeat (first | exact Pick.here | apply Pick.there)) ?_) | refine Ent.skip ?_)) (by kernel_rfl) ?_
  refine r_takeg (i := 44) (b := ((!((((((!(rightR p.Mark)) || (decide (p.Total < 0))) || (decide (most < p.Total))) || (decide (p.At < 0))) || (decide (p.Total < p.At))) || (decide ((p.Total - p.At) < (p.B.xs.length : Int))))) && (decide ((p.B.xs.length : Int) = 0)))) (bs' := #[true, true, true, true, true, true, true, true, true, true, true, true, true, true, true, true, true, true, true, true, true, true, true, true, true, true, true, true, true, true, true, true, true, true, true, true, true, true, true, true, true, true, true, true, true, false, false, false]) rfl (by kernel_rfl) (by kernel_rfl) (by kernel_rfl) (fun _ _ _ h => h) rfl (ask_gt rfl rfl) (fun hb => OpQ.env (.cons rfl (gd_t hb) (.nil _) : EnvLe [(59, .pointer (some ⟨b3, 3, none⟩))] _) (q_loadp (v := .int .i64 p.Total) sc_3 rfl (by repeat (first | exact Pick.here | apply Pick.there)) rfl)) (Hp.le_refl _) (by repeat (first | exact Ent.nil _ | exact Ent.refl _ | (refine Ent.pick (by repeat (first | exact Pick.here | apply Pick.there)) ?_) | refine Ent.skip ?_)) (by kernel_rfl) ?_
  refine r_takeg (i := 45) (b := ((!((((((!(rightR p.Mark)) || (decide (p.Total < 0))) || (decide (most < p.Total))) || (decide (p.At < 0))) || (decide (p.Total < p.At))) || (decide ((p.Total - p.At) < (p.B.xs.length : Int))))) && (decide ((p.B.xs.length : Int) = 0)))) (bs' := #[true, true, true, true, true, true, true, true, true, true, true, true, true, true, true, true, true, true, true, true, true, true, true, true, true, true, true, true, true, true, true, true, true, true, true, true, true, true, true, true, true, true, true, true, true, true, false, false]) rfl (by kernel_rfl) (by kernel_rfl) (by kernel_rfl) (fun _ _ _ h => h) rfl (ask_gt rfl rfl) (fun hb => OpQ.env (.cons rfl (gd_t hb) (.nil _) : EnvLe [(60, .int .i64 p.Total)] _) (q_gtr rfl rfl)) (Hp.le_refl _) (by repeat (first | exact Ent.nil _ | exact Ent.refl _ | (refine Ent.pick (by repeat (first | exact Pick.here | apply Pick.there)) ?_) | refine Ent.skip ?_)) (by kernel_rfl) ?_
  refine r_takeg (i := 46) (b := (!((((((!(rightR p.Mark)) || (decide (p.Total < 0))) || (decide (most < p.Total))) || (decide (p.At < 0))) || (decide (p.Total < p.At))) || (decide ((p.Total - p.At) < (p.B.xs.length : Int)))))) (bs' := #[true, true, true, true, true, true, true, true, true, true, true, true, true, true, true, true, true, true, true, true, true, true, true, true, true, true, true, true, true, true, true, true, true, true, true, true, true, true, true, true, true, true, true, true, true, true, true, false]) rfl (by kernel_rfl) (by kernel_rfl) (by kernel_rfl) (fun _ _ _ h => h) rfl (ask_f rfl rfl) (fun hb => OpQ.env (.cons rfl (gd_t hb) (.cons rfl rfl (.nil _)) : EnvLe [(58, .bool (decide ((p.B.xs.length : Int) = 0))), (61, gd ((!((((((!(rightR p.Mark)) || (decide (p.Total < 0))) || (decide (most < p.Total))) || (decide (p.At < 0))) || (decide (p.Total < p.At))) || (decide ((p.Total - p.At) < (p.B.xs.length : Int))))) && (decide ((p.B.xs.length : Int) = 0))) (.bool (decide (0 < p.Total))))] _) (q_pick_and rfl rfl rfl (fun h => by simp_all))) (Hp.le_refl _) (by repeat (first | exact Ent.nil _ | exact Ent.refl _ | (refine Ent.pick (by repeat (first | exact Pick.here | apply Pick.there)) ?_) | refine Ent.skip ?_)) (by kernel_rfl) ?_
  refine r_take (i := 47) (bs' := #[true, true, true, true, true, true, true, true, true, true, true, true, true, true, true, true, true, true, true, true, true, true, true, true, true, true, true, true, true, true, true, true, true, true, true, true, true, true, true, true, true, true, true, true, true, true, true, true]) rfl (by kernel_rfl) (by kernel_rfl) (by kernel_rfl) (fun _ _ _ h => h) rfl wn (q_pick_or rfl rfl rfl (fun h => by first | (rw [h]; rfl) | exact congrArg not h)) (Hp.le_refl _) (by repeat (first | exact Ent.nil _ | exact Ent.refl _ | (refine Ent.pick (by repeat (first | exact Pick.here | apply Pick.there)) ?_) | refine Ent.skip ?_)) (by kernel_rfl) ?_
  refine r_done (by kernel_rfl) ?_
  refine k_then_n ?_
  refine c_cond rfl (fun h0 => ?_) (fun h0 => ?_)
  · skip
    have h0 : badR most (pd p) = true := h0
    refine c_seq ?_
    refine c_region ?_
    refine l_step (s_q rfl wn (q_assign rfl) ?_)
    refine l_nil ?_
    refine k_then_n ?_
    refine c_ret ?_
    refine k_then_r ?_
    have hT := takeR_bad (L := L.map pd) h0
    exact t_ret [.pts r (encRHeap (⟨most, ⟨ya, L, yc⟩⟩ : RHeap)) 101, .row 95 6 ya L.length yc (L.flatMap encPiece), Bun (L.map (rowP 5))] rfl (.tmp rfl .nil) rfl (Hp.le_refl _) ⟨rfl, L, ya, yc, (by rw [hT]; try rfl), (by rw [hT]; try rfl), hr, rfl⟩ (by repeat (first | exact Ent.nil _ | exact Ent.refl _ | (refine Ent.pick (by repeat (first | exact Pick.here | apply Pick.there)) ?_) | refine Ent.skip ?_))
  · skip
    have h0 : badR most (pd p) = false := h0
    obtain ⟨f1, f2, f3, f4, f5, f6, f7⟩ := bad_facts h0
    dsimp only [pd] at f1 f2 f3 f4 f5 f6 f7
    refine c_skip ?_
    refine k_then_n ?_
    refine c_seq ?_
    refine c_seq ?_
    refine c_region ?_
    refine l_step (s_q rfl wn (q_move rfl) ?_)
    refine l_step (s_q rfl wn (q_nilCheck rfl) ?_)
    refine l_step (s_q rfl wn (q_fieldp rfl fo_101_1) ?_)
    refine l_step (s_q rfl wn (q_loadp (v := .slice ya L.length yc) sc_88 rfl (by repeat (first | exact Pick.here | apply Pick.there)) rfl) ?_)
    refine l_step (s_q rfl wn (q_len Try.underlying88 rfl) ?_)
    refine l_step (s_q rfl wn (q_gtr rfl rfl) ?_)
    refine l_nil ?_
    refine k_then_n ?_
    refine t_cutq (ι := List Piece × Option Addr × Nat) (fun w => w.1.map pd = (keepR (L.map pd) (pd p)) ∧ RI w.1 ∧ w.1.length ≤ L.length ∧ staleL (L.map pd) (pd p) = false) (fun w => [(0, .pointer (some ⟨r, 0, none⟩)), (3, .pointer (some ⟨b3, 0, none⟩)), (5, .int .i64 (p.B.xs.length : Int))]) (fun w => .pts b3 (encPiece p) 95 :: .pts r (encRHeap (⟨most, ⟨w.2.1, w.1, w.2.2⟩⟩ : RHeap)) 101 :: .row 95 6 w.2.1 w.1.length w.2.2 (w.1.flatMap encPiece) :: Bun (w.1.map (rowP 5)) :: Δ) ?_ ?_
    · skip
      refine c_cond rfl (fun h1 => ?_) (fun h1 => ?_)
      · (try dsimp only [heapOf] at h1); try simp only [Bool.and_eq_true, Bool.or_eq_true, Bool.not_eq_true', Bool.and_eq_false_iff, Bool.or_eq_false_iff, Bool.not_eq_false', decide_eq_true_eq, decide_eq_false_iff_not, Bool.not_eq_eq_eq_not, Bool.not_true, Bool.not_false, Bool.not_eq_true, Bool.not_eq_false, beq_iff_eq, bne_iff_ne, ne_eq, Decidable.not_not] at h1
        have hL : 0 < L.length := by omega
        refine c_seq ?_
        refine c_region ?_
        refine l_step (s_q rfl wn (q_move rfl) ?_)
        refine l_step (s_q rfl wn (q_nilCheck rfl) ?_)
        refine l_step (s_q rfl wn (q_fieldp rfl fo_101_1) ?_)
        refine l_step (s_q rfl wn (q_loadp (v := .slice ya L.length yc) sc_88 rfl (by repeat (first | exact Pick.here | apply Pick.there)) rfl) ?_)
        refine l_step (s_q rfl wn (q_indexe 0 Try.underlying88 sz_95 rfl rfl (rd_row (by repeat (first | exact Pick.here | apply Pick.there))) (by decide) rfl (by first | assumption | omega | (simp only [List.length_cons, List.length_nil]; omega))) ?_)
        refine l_step (s_q rfl wn (q_loadea (vs := encPiece (L.getD 0 default)) (enc := encPiece) (xs := L) (j := 0) (off := 0) ag_95 rfl (rd_row (by repeat (first | exact Pick.here | apply Pick.there))) (fun _ => rfl) (by first | assumption | omega | (simp only [List.length_cons, List.length_nil]; omega)) (by simp [encPiece]) (by simp [encPiece]) rfl) ?_)
        refine l_step (s_s rfl wn (s_allocz (cs := encPiece zPiece) (by kernel_rfl)) ?_)
        rintro _ _ ⟨b6, rfl, rfl⟩
        refine l_step (s_s0 wn (s_storep (ws := encPiece (L.getD 0 default)) (cs := encPiece zPiece) (cs' := encPiece (L.getD 0 default)) rfl rfl rfl sz_95 (onePiece _) (by simp [encPiece, encPiece]) rfl (by repeat (first | exact Pick.here | apply Pick.there))) ?_)
        rintro _ _ ⟨rfl, rfl⟩
        refine l_nil ?_
        refine k_then_n ?_
        refine c_seq ?_
        refine c_seq ?_
        refine c_region ?_
        refine l_step (s_q rfl wn (q_fieldp rfl fo_95_0) ?_)
        refine l_step (s_q rfl wn (q_fieldp rfl fo_87_0) ?_)
        refine l_step (s_q rfl wn (q_loadp (v := .int .i64 p.Mark.Index) sc_3 rfl (by repeat (first | exact Pick.here | apply Pick.there)) rfl) ?_)
        refine l_step (s_q rfl wn (q_fieldp rfl fo_95_0) ?_)
        refine l_step (s_q rfl wn (q_fieldp rfl fo_87_0) ?_)
        refine l_step (s_q rfl wn (q_loadp (v := .int .i64 (((L.getD 0 default).Mark).Index)) sc_3 rfl (by repeat (first | exact Pick.here | apply Pick.there)) rfl) ?_)
        refine l_step (s_q rfl wn (q_lss rfl rfl) ?_)
        refine l_step (s_q rfl wn (q_move rfl) ?_)
        refine l_step (s_qg rfl (ask_f rfl rfl) (b := (!(decide (p.Mark.Index < (((L.getD 0 default).Mark).Index))))) (fun hb => q_fieldp rfl fo_95_0) ?_)
        refine l_step (s_qg rfl (ask_f rfl rfl) (b := (!(decide (p.Mark.Index < (((L.getD 0 default).Mark).Index))))) (fun hb => OpQ.env (.cons rfl (gd_t hb) (.nil _) : EnvLe [(84, .pointer (some ⟨b3, 0, none⟩))] _) (q_fieldp rfl fo_87_0)) ?_)
        refine l_step (s_qg rfl (ask_f rfl rfl) (b := (!(decide (p.Mark.Index < (((L.getD 0 default).Mark).Index))))) (fun hb => OpQ.env (.cons rfl (gd_t hb) (.nil _) : EnvLe [(85, .pointer (some ⟨b3, 0, none⟩))] _) (q_loadp (v := .int .i64 p.Mark.Index) sc_3 rfl (by repeat (first | exact Pick.here | apply Pick.there)) rfl)) ?_)
        refine l_step (s_qg rfl (ask_f rfl rfl) (b := (!(decide (p.Mark.Index < (((L.getD 0 default).Mark).Index))))) (fun hb => q_fieldp rfl fo_95_0) ?_)
        refine l_step (s_qg rfl (ask_f rfl rfl) (b := (!(decide (p.Mark.Index < (((L.getD 0 default).Mark).Index))))) (fun hb => OpQ.env (.cons rfl (gd_t hb) (.nil _) : EnvLe [(87, .pointer (some ⟨b6, 0, none⟩))] _) (q_fieldp rfl fo_87_0)) ?_)
        refine l_step (s_qg rfl (ask_f rfl rfl) (b := (!(decide (p.Mark.Index < (((L.getD 0 default).Mark).Index))))) (fun hb => OpQ.env (.cons rfl (gd_t hb) (.nil _) : EnvLe [(88, .pointer (some ⟨b6, 0, none⟩))] _) (q_loadp (v := .int .i64 (((L.getD 0 default).Mark).Index)) sc_3 rfl (by repeat (first | exact Pick.here | apply Pick.there)) rfl)) ?_)
        refine l_step (s_qg rfl (ask_f rfl rfl) (b := (!(decide (p.Mark.Index < (((L.getD 0 default).Mark).Index))))) (fun hb => OpQ.env (.cons rfl (gd_t hb) (.cons rfl (gd_t hb) (.nil _)) : EnvLe [(86, .int .i64 p.Mark.Index), (89, .int .i64 (((L.getD 0 default).Mark).Index))] _) (q_eql rfl rfl)) ?_)
        refine l_step (s_qg rfl (ask_f rfl rfl) (b := (!(decide (p.Mark.Index < (((L.getD 0 default).Mark).Index))))) (fun hb => OpQ.env (.cons rfl (gd_t hb) (.nil _) : EnvLe [(90, .bool (decide (p.Mark.Index = (((L.getD 0 default).Mark).Index))))] _) (q_move rfl)) ?_)
        refine l_step (s_qg rfl (ask_gt rfl rfl) (b := ((!(decide (p.Mark.Index < (((L.getD 0 default).Mark).Index)))) && (decide (p.Mark.Index = (((L.getD 0 default).Mark).Index))))) (fun hb => q_fieldp rfl fo_95_0) ?_)
        refine l_step (s_qg rfl (ask_gt rfl rfl) (b := ((!(decide (p.Mark.Index < (((L.getD 0 default).Mark).Index)))) && (decide (p.Mark.Index = (((L.getD 0 default).Mark).Index))))) (fun hb => OpQ.env (.cons rfl (gd_t hb) (.nil _) : EnvLe [(92, .pointer (some ⟨b3, 0, none⟩))] _) (q_fieldp rfl fo_87_1)) ?_)
        refine l_step (s_qg rfl (ask_gt rfl rfl) (b := ((!(decide (p.Mark.Index < (((L.getD 0 default).Mark).Index)))) && (decide (p.Mark.Index = (((L.getD 0 default).Mark).Index))))) (fun hb => OpQ.env (.cons rfl (gd_t hb) (.nil _) : EnvLe [(93, .pointer (some ⟨b3, 1, none⟩))] _) (q_loadp (v := .int .i64 p.Mark.Term) sc_3 rfl (by repeat (first | exact Pick.here | apply Pick.there)) rfl)) ?_)
        refine l_step (s_qg rfl (ask_gt rfl rfl) (b := ((!(decide (p.Mark.Index < (((L.getD 0 default).Mark).Index)))) && (decide (p.Mark.Index = (((L.getD 0 default).Mark).Index))))) (fun hb => q_fieldp rfl fo_95_0) ?_)
        refine l_step (s_qg rfl (ask_gt rfl rfl) (b := ((!(decide (p.Mark.Index < (((L.getD 0 default).Mark).Index)))) && (decide (p.Mark.Index = (((L.getD 0 default).Mark).Index))))) (fun hb => OpQ.env (.cons rfl (gd_t hb) (.nil _) : EnvLe [(95, .pointer (some ⟨b6, 0, none⟩))] _) (q_fieldp rfl fo_87_1)) ?_)
        refine l_step (s_qg rfl (ask_gt rfl rfl) (b := ((!(decide (p.Mark.Index < (((L.getD 0 default).Mark).Index)))) && (decide (p.Mark.Index = (((L.getD 0 default).Mark).Index))))) (fun hb => OpQ.env (.cons rfl (gd_t hb) (.nil _) : EnvLe [(96, .pointer (some ⟨b6, 1, none⟩))] _) (q_loadp (v := .int .i64 (((L.getD 0 default).Mark).Term)) sc_3 rfl (by repeat (first | exact Pick.here | apply Pick.there)) rfl)) ?_)
        refine l_step (s_qg rfl (ask_gt rfl rfl) (b := ((!(decide (p.Mark.Index < (((L.getD 0 default).Mark).Index)))) && (decide (p.Mark.Index = (((L.getD 0 default).Mark).Index))))) (fun hb => OpQ.env (.cons rfl (gd_t hb) (.cons rfl (gd_t hb) (.nil _)) : EnvLe [(94, .int .i64 p.Mark.Term), (97, .int .i64 (((L.getD 0 default).Mark).Term))] _) (q_neq rfl rfl)) ?_)
        refine l_step (s_qg rfl (ask_gt rfl rfl) (b := ((!(decide (p.Mark.Index < (((L.getD 0 default).Mark).Index)))) && (decide (p.Mark.Index = (((L.getD 0 default).Mark).Index))))) (fun hb => OpQ.env (.cons rfl (gd_t hb) (.nil _) : EnvLe [(98, .bool (decide (p.Mark.Term ≠ (((L.getD 0 default).Mark).Term))))] _) (q_move rfl)) ?_)
        refine l_step (s_qg rfl (ask_gf rfl rfl) (b := (((!(decide (p.Mark.Index < (((L.getD 0 default).Mark).Index)))) && (decide (p.Mark.Index = (((L.getD 0 default).Mark).Index)))) && !(decide (p.Mark.Term ≠ (((L.getD 0 default).Mark).Term))))) (fun hb => q_fieldp rfl fo_95_1) ?_)
        refine l_step (s_qg rfl (ask_gf rfl rfl) (b := (((!(decide (p.Mark.Index < (((L.getD 0 default).Mark).Index)))) && (decide (p.Mark.Index = (((L.getD 0 default).Mark).Index)))) && !(decide (p.Mark.Term ≠ (((L.getD 0 default).Mark).Term))))) (fun hb => OpQ.env (.cons rfl (gd_t hb) (.nil _) : EnvLe [(100, .pointer (some ⟨b3, 2, none⟩))] _) (q_loadp (v := .int .u32 (p.Sum.toNat : Int)) sc_23 rfl (by repeat (first | exact Pick.here | apply Pick.there)) rfl)) ?_)
        refine l_step (s_qg rfl (ask_gf rfl rfl) (b := (((!(decide (p.Mark.Index < (((L.getD 0 default).Mark).Index)))) && (decide (p.Mark.Index = (((L.getD 0 default).Mark).Index)))) && !(decide (p.Mark.Term ≠ (((L.getD 0 default).Mark).Term))))) (fun hb => q_fieldp rfl fo_95_1) ?_)
        refine l_step (s_qg rfl (ask_gf rfl rfl) (b := (((!(decide (p.Mark.Index < (((L.getD 0 default).Mark).Index)))) && (decide (p.Mark.Index = (((L.getD 0 default).Mark).Index)))) && !(decide (p.Mark.Term ≠ (((L.getD 0 default).Mark).Term))))) (fun hb => OpQ.env (.cons rfl (gd_t hb) (.nil _) : EnvLe [(102, .pointer (some ⟨b6, 2, none⟩))] _) (q_loadp (v := .int .u32 (((L.getD 0 default).Sum).toNat : Int)) sc_23 rfl (by repeat (first | exact Pick.here | apply Pick.there)) rfl)) ?_)
        refine l_step (s_qg rfl (ask_gf rfl rfl) (b := (((!(decide (p.Mark.Index < (((L.getD 0 default).Mark).Index)))) && (decide (p.Mark.Index = (((L.getD 0 default).Mark).Index)))) && !(decide (p.Mark.Term ≠ (((L.getD 0 default).Mark).Term))))) (fun hb => OpQ.env (.cons rfl (gd_t hb) (.cons rfl (gd_t hb) (.nil _)) : EnvLe [(101, .int .u32 (p.Sum.toNat : Int)), (103, .int .u32 (((L.getD 0 default).Sum).toNat : Int))] _) (q_neq rfl rfl)) ?_)
        refine l_step (s_qg rfl (ask_gt rfl rfl) (b := ((!(decide (p.Mark.Index < (((L.getD 0 default).Mark).Index)))) && (decide (p.Mark.Index = (((L.getD 0 default).Mark).Index))))) (fun hb => OpQ.env (.cons rfl (gd_t hb) (.cons rfl rfl (.nil _)) : EnvLe [(99, .bool (decide (p.Mark.Term ≠ (((L.getD 0 default).Mark).Term)))), (104, gd (((!(decide (p.Mark.Index < (((L.getD 0 default).Mark).Index)))) && (decide (p.Mark.Index = (((L.getD 0 default).Mark).Index)))) && !(decide (p.Mark.Term ≠ (((L.getD 0 default).Mark).Term)))) (.bool (decide ((p.Sum.toNat : Int) ≠ (((L.getD 0 default).Sum).toNat : Int)))))] _) (q_pick_or rfl rfl rfl (fun h => by simp_all))) ?_)
        refine l_step (s_qg rfl (ask_gt rfl rfl) (b := ((!(decide (p.Mark.Index < (((L.getD 0 default).Mark).Index)))) && (decide (p.Mark.Index = (((L.getD 0 default).Mark).Index))))) (fun hb => OpQ.env (.cons rfl (gd_t hb) (.nil _) : EnvLe [(105, .bool ((decide (p.Mark.Term ≠ (((L.getD 0 default).Mark).Term))) || (decide ((p.Sum.toNat : Int) ≠ (((L.getD 0 default).Sum).toNat : Int)))))] _) (q_move rfl)) ?_)
        refine l_step (s_qg rfl (ask_gf rfl rfl) (b := (((!(decide (p.Mark.Index < (((L.getD 0 default).Mark).Index)))) && (decide (p.Mark.Index = (((L.getD 0 default).Mark).Index)))) && !((decide (p.Mark.Term ≠ (((L.getD 0 default).Mark).Term))) || (decide ((p.Sum.toNat : Int) ≠ (((L.getD 0 default).Sum).toNat : Int)))))) (fun hb => q_fieldp rfl fo_95_2) ?_)
        refine l_step (s_qg rfl (ask_gf rfl rfl) (b := (((!(decide (p.Mark.Index < (((L.getD 0 default).Mark).Index)))) && (decide (p.Mark.Index = (((L.getD 0 default).Mark).Index)))) && !((decide (p.Mark.Term ≠ (((L.getD 0 default).Mark).Term))) || (decide ((p.Sum.toNat : Int) ≠ (((L.getD 0 default).Sum).toNat : Int)))))) (fun hb => OpQ.env (.cons rfl (gd_t hb) (.nil _) : EnvLe [(107, .pointer (some ⟨b3, 3, none⟩))] _) (q_loadp (v := .int .i64 p.Total) sc_3 rfl (by repeat (first | exact Pick.here | apply Pick.there)) rfl)) ?_)
        refine l_step (s_qg rfl (ask_gf rfl rfl) (b := (((!(decide (p.Mark.Index < (((L.getD 0 default).Mark).Index)))) && (decide (p.Mark.Index = (((L.getD 0 default).Mark).Index)))) && !((decide (p.Mark.Term ≠ (((L.getD 0 default).Mark).Term))) || (decide ((p.Sum.toNat : Int) ≠ (((L.getD 0 default).Sum).toNat : Int)))))) (fun hb => q_fieldp rfl fo_95_2) ?_)
        refine l_step (s_qg rfl (ask_gf rfl rfl) (b := (((!(decide (p.Mark.Index < (((L.getD 0 default).Mark).Index)))) && (decide (p.Mark.Index = (((L.getD 0 default).Mark).Index)))) && !((decide (p.Mark.Term ≠ (((L.getD 0 default).Mark).Term))) || (decide ((p.Sum.toNat : Int) ≠ (((L.getD 0 default).Sum).toNat : Int)))))) (fun hb => OpQ.env (.cons rfl (gd_t hb) (.nil _) : EnvLe [(109, .pointer (some ⟨b6, 3, none⟩))] _) (q_loadp (v := .int .i64 ((L.getD 0 default).Total)) sc_3 rfl (by repeat (first | exact Pick.here | apply Pick.there)) rfl)) ?_)
        refine l_step (s_qg rfl (ask_gf rfl rfl) (b := (((!(decide (p.Mark.Index < (((L.getD 0 default).Mark).Index)))) && (decide (p.Mark.Index = (((L.getD 0 default).Mark).Index)))) && !((decide (p.Mark.Term ≠ (((L.getD 0 default).Mark).Term))) || (decide ((p.Sum.toNat : Int) ≠ (((L.getD 0 default).Sum).toNat : Int)))))) (fun hb => OpQ.env (.cons rfl (gd_t hb) (.cons rfl (gd_t hb) (.nil _)) : EnvLe [(108, .int .i64 p.Total), (110, .int .i64 ((L.getD 0 default).Total))] _) (q_neq rfl rfl)) ?_)
        refine l_step (s_qg rfl (ask_gt rfl rfl) (b := ((!(decide (p.Mark.Index < (((L.getD 0 default).Mark).Index)))) && (decide (p.Mark.Index = (((L.getD 0 default).Mark).Index))))) (fun hb => OpQ.env (.cons rfl (gd_t hb) (.cons rfl rfl (.nil _)) : EnvLe [(106, .bool ((decide (p.Mark.Term ≠ (((L.getD 0 default).Mark).Term))) || (decide ((p.Sum.toNat : Int) ≠ (((L.getD 0 default).Sum).toNat : Int))))), (111, gd (((!(decide (p.Mark.Index < (((L.getD 0 default).Mark).Index)))) && (decide (p.Mark.Index = (((L.getD 0 default).Mark).Index)))) && !((decide (p.Mark.Term ≠ (((L.getD 0 default).Mark).Term))) || (decide ((p.Sum.toNat : Int) ≠ (((L.getD 0 default).Sum).toNat : Int))))) (.bool (decide (p.Total ≠ ((L.getD 0 default).Total)))))] _) (q_pick_or rfl rfl rfl (fun h => by simp_all))) ?_)
        refine l_step (s_qg rfl (ask_f rfl rfl) (b := (!(decide (p.Mark.Index < (((L.getD 0 default).Mark).Index))))) (fun hb => OpQ.env (.cons rfl (gd_t hb) (.cons rfl rfl (.nil _)) : EnvLe [(91, .bool (decide (p.Mark.Index = (((L.getD 0 default).Mark).Index)))), (112, gd ((!(decide (p.Mark.Index < (((L.getD 0 default).Mark).Index)))) && (decide (p.Mark.Index = (((L.getD 0 default).Mark).Index)))) (.bool (((decide (p.Mark.Term ≠ (((L.getD 0 default).Mark).Term))) || (decide ((p.Sum.toNat : Int) ≠ (((L.getD 0 default).Sum).toNat : Int)))) || (decide (p.Total ≠ ((L.getD 0 default).Total))))))] _) (q_pick_and rfl rfl rfl (fun h => by simp_all))) ?_)
        refine l_step (s_q rfl wn (q_pick_or rfl rfl rfl (fun h => by first | (rw [h]; rfl) | exact congrArg not h)) ?_)
        refine l_nil ?_
        refine k_then_n ?_
        refine c_cond rfl (fun h2 => ?_) (fun h2 => ?_)
        · skip
          have hst : staleL (L.map pd) (pd p) = true := by rw [map_cons0 hL]; exact h2
          refine c_seq ?_
          refine c_region ?_
          refine l_step (s_q rfl wn (q_assign rfl) ?_)
          refine l_nil ?_
          refine k_then_n ?_
          refine c_ret ?_
          refine k_then_r ?_
          refine k_then_r ?_
          refine k_then_r ?_
          have hT := takeR_stale h0 hst
          exact t_ret [.pts r (encRHeap (⟨most, ⟨ya, L, yc⟩⟩ : RHeap)) 101, .row 95 6 ya L.length yc (L.flatMap encPiece), Bun (L.map (rowP 5))] rfl (.tmp rfl .nil) rfl (Hp.le_refl _) ⟨rfl, L, ya, yc, (by rw [hT]; try rfl), (by rw [hT]; try rfl), hr, rfl⟩ (by repeat (first | exact Ent.nil _ | exact Ent.refl _ | (refine Ent.pick (by repeat (first | exact Pick.here | apply Pick.there)) ?_) | refine Ent.skip ?_))
        · skip
          have hst : staleL (L.map pd) (pd p) = false := by rw [map_cons0 hL]; exact h2
          refine c_skip ?_
          refine k_then_n ?_
          refine c_seq ?_
          refine c_region ?_
          refine l_step (s_q rfl wn (q_fieldp rfl fo_95_0) ?_)
          refine l_step (s_q rfl wn (q_fieldp rfl fo_87_0) ?_)
          refine l_step (s_q rfl wn (q_loadp (v := .int .i64 p.Mark.Index) sc_3 rfl (by repeat (first | exact Pick.here | apply Pick.there)) rfl) ?_)
          refine l_step (s_q rfl wn (q_fieldp rfl fo_95_0) ?_)
          refine l_step (s_q rfl wn (q_fieldp rfl fo_87_0) ?_)
          refine l_step (s_q rfl wn (q_loadp (v := .int .i64 (((L.getD 0 default).Mark).Index)) sc_3 rfl (by repeat (first | exact Pick.here | apply Pick.there)) rfl) ?_)
          refine l_step (s_q rfl wn (q_gtr rfl rfl) ?_)
          refine l_nil ?_
          refine k_then_n ?_
          refine c_cond rfl (fun h3 => ?_) (fun h3 => ?_)
          · skip
            refine c_region ?_
            refine l_step (s_q rfl wn (q_move rfl) ?_)
            refine l_step (s_q rfl wn (q_nilCheck rfl) ?_)
            refine l_step (s_q rfl wn (q_fieldp rfl fo_101_1) ?_)
            refine l_step (s_s0 wn (s_storep (ws := [.slice none 0 0]) (cs := encRHeap (⟨most, ⟨ya, L, yc⟩⟩ : RHeap)) (cs' := encRHeap (⟨most, ⟨none, [], 0⟩⟩ : RHeap)) rfl rfl rfl sz_88 (by simp [Value.oneCell', strB, ptV, SL.v, SH.v]) (by simp [encRHeap]) rfl (by repeat (first | exact Pick.here | apply Pick.there))) ?_)
            rintro _ _ ⟨rfl, rfl⟩
            refine l_nil ?_
            refine k_then_n ?_
            refine Tr.ent (Ent.trans (bun_nil _) (Ent.nilrow 95 6 _)) ?_
            exact t_next (([] : List Piece), (none : Option Addr), 0) ⟨(keepR_new hL h3).symm, ri_nil, Nat.zero_le _, hst⟩ (.cons rfl (by first | rfl | exact inte (by omega) | (simp; done) | (simp <;> omega) | simp [*]) (.cons rfl (by first | rfl | exact inte (by omega) | (simp; done) | (simp <;> omega) | simp [*]) (.cons rfl (by first | rfl | exact inte (by omega) | (simp; done) | (simp <;> omega) | simp [*]) (.nil _)))) (by repeat (first | exact Ent.nil _ | exact Ent.refl _ | (refine Ent.pick (by repeat (first | exact Pick.here | apply Pick.there)) ?_) | refine Ent.skip ?_))
          · skip
            refine c_skip ?_
            refine k_then_n ?_
            exact t_next (L, ya, yc) ⟨(keepR_old hL h3).symm, hr, Nat.le_refl _, hst⟩ (.cons rfl (by first | rfl | exact inte (by omega) | (simp; done) | (simp <;> omega) | simp [*]) (.cons rfl (by first | rfl | exact inte (by omega) | (simp; done) | (simp <;> omega) | simp [*]) (.cons rfl (by first | rfl | exact inte (by omega) | (simp; done) | (simp <;> omega) | simp [*]) (.nil _)))) (by repeat (first | exact Ent.nil _ | exact Ent.refl _ | (refine Ent.pick (by repeat (first | exact Pick.here | apply Pick.there)) ?_) | refine Ent.skip ?_))
      · (try dsimp only [heapOf] at h1); try simp only [Bool.and_eq_true, Bool.or_eq_true, Bool.not_eq_true', Bool.and_eq_false_iff, Bool.or_eq_false_iff, Bool.not_eq_false', decide_eq_true_eq, decide_eq_false_iff_not, Bool.not_eq_eq_eq_not, Bool.not_true, Bool.not_false, Bool.not_eq_true, Bool.not_eq_false, beq_iff_eq, bne_iff_ne, ne_eq, Decidable.not_not] at h1
        have hL : L = [] := List.eq_nil_of_length_eq_zero (by omega)
        refine c_skip ?_
        refine k_then_n ?_
        exact t_next (L, ya, yc) ⟨(by subst hL; rfl), hr, Nat.le_refl _, (by subst hL; rfl)⟩ (.cons rfl (by first | rfl | exact inte (by omega) | (simp; done) | (simp <;> omega) | simp [*]) (.cons rfl (by first | rfl | exact inte (by omega) | (simp; done) | (simp <;> omega) | simp [*]) (.cons rfl (by first | rfl | exact inte (by omega) | (simp; done) | (simp <;> omega) | simp [*]) (.nil _)))) (by repeat (first | exact Ent.nil _ | exact Ent.refl _ | (refine Ent.pick (by repeat (first | exact Pick.here | apply Pick.there)) ?_) | refine Ent.skip ?_))
    intro w hw
    obtain ⟨hw1, hw2, hw3, hw4⟩ := hw
    refine k_then_n ?_
    refine c_seq ?_
    refine c_seq ?_
    refine c_region ?_
    refine l_step (s_q rfl wn (q_assign rfl) ?_)
    refine l_nil ?_
    refine k_then_n ?_
    refine c_block ?_
    refine Tr.env (σ' := [(0, _), (3, _), (5, _), (7, _)]) (.cons rfl rfl (.cons rfl rfl (.cons rfl rfl (.cons rfl rfl (.nil _))))) ?_
    refine t_loop (ι := Lp (Nat)) (fun x => x.d ≤ p.B.xs.length ∧ clashR (w.1.map pd) (pd p) x.d = false) (fun x => p.B.xs.length - x.d) (fun x => [(0, .pointer (some ⟨r, 0, none⟩)), (3, .pointer (some ⟨b3, 0, none⟩)), (5, .int .i64 (p.B.xs.length : Int)), (7, .int .i64 (x.d : Int))]) (fun x => .pts b3 (encPiece p) 95 :: .pts r (encRHeap (⟨most, ⟨w.2.1, w.1, w.2.2⟩⟩ : RHeap)) 101 :: .row 95 6 w.2.1 w.1.length w.2.2 (w.1.flatMap encPiece) :: Bun (w.1.map (rowP 5)) :: Δ) (⟨0, none, 0, none, 0, none, 0⟩ : Lp _) ⟨Nat.zero_le _, rfl⟩ ?_ ?_ ?_
    · exact .cons rfl (by first | rfl | exact inte (by omega) | (simp; done) | (simp <;> omega) | simp [*]) (.cons rfl (by first | rfl | exact inte (by omega) | (simp; done) | (simp <;> omega) | simp [*]) (.cons rfl (by first | rfl | exact inte (by omega) | (simp; done) | (simp <;> omega) | simp [*]) (.cons rfl (by first | rfl | exact inte (by omega) | (simp; done) | (simp <;> omega) | simp [*]) (.nil _))))
    · exact (by repeat (first | exact Ent.nil _ | exact Ent.refl _ | (refine Ent.pick (by repeat (first | exact Pick.here | apply Pick.there)) ?_) | refine Ent.skip ?_))
    intro x hx
    obtain ⟨hx1, hx2⟩ := hx
    refine c_seq ?_
    refine c_seq ?_
    refine c_region ?_
    refine l_step (s_q rfl wn (q_move rfl) ?_)
    refine l_step (s_q rfl wn (q_move rfl) ?_)
    refine l_step (s_q rfl wn (q_lss rfl rfl) ?_)
    refine l_nil ?_
    refine k_then_n ?_
    refine c_cond rfl (fun h4 => ?_) (fun h4 => ?_)
    · (try dsimp only [heapOf] at h4); try simp only [Bool.and_eq_true, Bool.or_eq_true, Bool.not_eq_true', Bool.and_eq_false_iff, Bool.or_eq_false_iff, Bool.not_eq_false', decide_eq_true_eq, decide_eq_false_iff_not, Bool.not_eq_eq_eq_not, Bool.not_true, Bool.not_false, Bool.not_eq_true, Bool.not_eq_false, beq_iff_eq, bne_iff_ne, ne_eq, Decidable.not_not] at h4
      refine c_skip ?_
      refine k_then_n ?_
      refine c_seq ?_
      refine c_block ?_
      refine c_seq ?_
      refine c_region ?_
      refine l_step (s_q rfl wn (q_move rfl) ?_)
      refine l_step (s_q rfl wn (q_fieldp rfl fo_95_3) ?_)
      refine l_step (s_q rfl wn (q_loadp (v := .int .i64 p.At) sc_3 rfl (by repeat (first | exact Pick.here | apply Pick.there)) rfl) ?_)
      refine l_step (s_q rfl wn (q_move rfl) ?_)
      refine l_step (s_q rfl wn (q_add rfl rfl (by omega) (by omega)) ?_)
      refine l_step (s_fnr rfl wn Try.func69 rfl (by kernel_rfl) rfl (by repeat (first | exact Sel.nil | exact Pick.here | apply Sel.cons | apply Pick.there)) (fun ρ' hL => byte_spec r most w.1 w.2.1 w.2.2 (p.At + (x.d : Int)) ρ' (by assumption) (by first | assumption | omega)) ?_)
      refine l_step (s_q rfl wn (q_move rfl) ?_)
      refine l_step (s_q rfl wn (q_extract rfl rfl) ?_)
      refine l_step (s_q rfl wn (q_extract rfl rfl) ?_)
      refine l_step (s_q rfl wn (q_assign rfl) ?_)
      refine l_step (s_q rfl wn (q_assign rfl) ?_)
      refine l_nil ?_
      refine k_then_n ?_
      refine c_seq ?_
      refine c_region ?_
      refine l_step (s_q rfl wn (q_move rfl) ?_)
      refine l_step (s_q rfl wn (q_move rfl) ?_)
      refine l_step (s_qg rfl (ask_t rfl rfl) (b := ((byteD (w.1.map pd) (p.At + (x.d : Int))).isSome)) (fun hb => q_move rfl) ?_)
      refine l_step (s_qg rfl (ask_t rfl rfl) (b := ((byteD (w.1.map pd) (p.At + (x.d : Int))).isSome)) (fun hb => q_fieldp rfl fo_95_4) ?_)
      refine l_step (s_qg rfl (ask_t rfl rfl) (b := ((byteD (w.1.map pd) (p.At + (x.d : Int))).isSome)) (fun hb => OpQ.env (.cons rfl (gd_t hb) (.nil _) : EnvLe [(142, .pointer (some ⟨b3, 5, none⟩))] _) (q_loadp (v := .slice p.B.a p.B.xs.length p.B.cap) sc_22 rfl (by repeat (first | exact Pick.here | apply Pick.there)) rfl)) ?_)
      refine l_step (s_qg rfl (ask_t rfl rfl) (b := ((byteD (w.1.map pd) (p.At + (x.d : Int))).isSome)) (fun hb => q_move rfl) ?_)
      refine l_step (s_qg rfl (ask_t rfl rfl) (b := ((byteD (w.1.map pd) (p.At + (x.d : Int))).isSome)) (fun hb => OpQ.env (.cons rfl (gd_t hb) (.cons rfl (gd_t hb) (.nil _)) : EnvLe [(143, .slice p.B.a p.B.xs.length p.B.cap), (144, .int .i64 (x.d : Int))] _) (q_indexe x.d Try.underlying22 sz_5 rfl rfl (by first | assumption | exact rd_ro (by assumption) | exact rd_bun (L := w.1.map (rowP 5)) (by repeat (first | exact Pick.here | apply Pick.there)) (in_map _ (by first | assumption | omega | (have hb2 := hb; (try simp only [Bool.and_eq_true, Bool.or_eq_true, Bool.not_eq_true', Bool.and_eq_false_iff, Bool.or_eq_false_iff, Bool.not_eq_false', decide_eq_true_eq, decide_eq_false_iff_not, Bool.not_eq_eq_eq_not, Bool.not_true, Bool.not_false, Bool.not_eq_true, Bool.not_eq_false, beq_iff_eq, bne_iff_ne, ne_eq, Decidable.not_not] at hb2); omega) | (simp only [List.length_cons, List.length_nil]; omega) | decide) rfl) | exact rd_row (by repeat (first | exact Pick.here | apply Pick.there))) (by decide) rfl (by first | assumption | omega | (have hb2 := hb; (try simp only [Bool.and_eq_true, Bool.or_eq_true, Bool.not_eq_true', Bool.and_eq_false_iff, Bool.or_eq_false_iff, Bool.not_eq_false', decide_eq_true_eq, decide_eq_false_iff_not, Bool.not_eq_eq_eq_not, Bool.not_true, Bool.not_false, Bool.not_eq_true, Bool.not_eq_false, beq_iff_eq, bne_iff_ne, ne_eq, Decidable.not_not] at hb2); omega) | (simp only [List.length_cons, List.length_nil]; omega)))) ?_)
      refine l_step (s_qg rfl (ask_t rfl rfl) (b := ((byteD (w.1.map pd) (p.At + (x.d : Int))).isSome)) (fun hb => OpQ.env (.cons rfl (gd_t hb) (.nil _) : EnvLe [(145, pe p.B.a x.d 1 0)] _) (q_loade (enc := encB) (xs := p.B.xs) (j := x.d) (off := 0) sc_5 rfl (by first | assumption | exact rd_ro (by assumption) | exact rd_bun (L := w.1.map (rowP 5)) (by repeat (first | exact Pick.here | apply Pick.there)) (in_map _ (by first | assumption | omega | (have hb2 := hb; (try simp only [Bool.and_eq_true, Bool.or_eq_true, Bool.not_eq_true', Bool.and_eq_false_iff, Bool.or_eq_false_iff, Bool.not_eq_false', decide_eq_true_eq, decide_eq_false_iff_not, Bool.not_eq_eq_eq_not, Bool.not_true, Bool.not_false, Bool.not_eq_true, Bool.not_eq_false, beq_iff_eq, bne_iff_ne, ne_eq, Decidable.not_not] at hb2); omega) | (simp only [List.length_cons, List.length_nil]; omega) | decide) rfl) | exact rd_row (by repeat (first | exact Pick.here | apply Pick.there))) (fun _ => rfl) (by first | assumption | omega | (have hb2 := hb; (try simp only [Bool.and_eq_true, Bool.or_eq_true, Bool.not_eq_true', Bool.and_eq_false_iff, Bool.or_eq_false_iff, Bool.not_eq_false', decide_eq_true_eq, decide_eq_false_iff_not, Bool.not_eq_eq_eq_not, Bool.not_true, Bool.not_false, Bool.not_eq_true, Bool.not_eq_false, beq_iff_eq, bne_iff_ne, ne_eq, Decidable.not_not] at hb2); omega) | (simp only [List.length_cons, List.length_nil]; omega)) (by decide) rfl)) ?_)
      refine l_step (s_qg rfl (ask_t rfl rfl) (b := ((byteD (w.1.map pd) (p.At + (x.d : Int))).isSome)) (fun hb => OpQ.env (.cons rfl (gd_t hb) (.cons rfl (gd_t hb) (.nil _)) : EnvLe [(141, .int .u8 ((((byteD (w.1.map pd) (p.At + (x.d : Int))).getD 0)).toNat : Int)), (146, .int .u8 ((p.B.xs.getD x.d default).toNat : Int))] _) (q_neq rfl rfl)) ?_)
      refine l_step (s_q rfl wn (q_pick_and rfl rfl rfl (fun h => h)) ?_)
      refine l_nil ?_
      refine k_then_n ?_
      refine c_cond rfl (fun h5 => ?_) (fun h5 => ?_)
      · skip
        have hcl : clashR (keepR (L.map pd) (pd p)) (pd p) (x.d + 1) = true := by rw [← hw1]; simp only [clashR, Bool.or_eq_true]; exact .inr h5
        refine c_seq ?_
        refine c_region ?_
        refine l_step (s_q rfl wn (q_assign rfl) ?_)
        refine l_nil ?_
        refine k_then_n ?_
        refine c_ret ?_
        refine k_blk_r ?_
        refine k_then_r ?_
        refine k_then_r ?_
        refine k_blk_r ?_
        refine k_then_r ?_
        have hT := takeR_clash h0 hw4 (clashR_mono hcl _ (by show _ ≤ p.B.xs.length; omega))
        exact t_ret [.pts r (encRHeap (⟨most, ⟨w.2.1, w.1, w.2.2⟩⟩ : RHeap)) 101, .row 95 6 w.2.1 w.1.length w.2.2 (w.1.flatMap encPiece), Bun (w.1.map (rowP 5))] rfl (.tmp rfl .nil) rfl (Hp.le_refl _) ⟨rfl, w.1, w.2.1, w.2.2, (by rw [hT]; try rfl), (by rw [hT]; try exact hw1), hw2, rfl⟩ (by repeat (first | exact Ent.nil _ | exact Ent.refl _ | (refine Ent.pick (by repeat (first | exact Pick.here | apply Pick.there)) ?_) | refine Ent.skip ?_))
      · skip
        refine c_skip ?_
        refine k_blk_n ?_
        refine k_then_n ?_
        refine c_region ?_
        refine l_step (s_q rfl wn (q_move rfl) ?_)
        refine l_step (s_q rfl wn (q_add rfl rfl (by omega) (by omega)) ?_)
        refine l_step (s_q rfl wn (q_assign rfl) ?_)
        refine l_nil ?_
        refine k_then_n ?_
        exact t_next (⟨x.d + 1, none, 0, none, 0, none, 0⟩ : Lp _) ⟨⟨by simp only []; omega, by simp only [clashR, Bool.or_eq_false_iff]; exact ⟨hx2, h5⟩⟩, by simp only []; omega⟩ (.cons rfl (by first | rfl | exact inte (by omega) | (simp; done) | (simp <;> omega) | simp [*]) (.cons rfl (by first | rfl | exact inte (by omega) | (simp; done) | (simp <;> omega) | simp [*]) (.cons rfl (by first | rfl | exact inte (by omega) | (simp; done) | (simp <;> omega) | simp [*]) (.cons rfl (by first | rfl | exact inte (by omega) | (simp; done) | (simp <;> omega) | simp [*]) (.nil _))))) (by repeat (first | exact Ent.nil _ | exact Ent.refl _ | (refine Ent.pick (by repeat (first | exact Pick.here | apply Pick.there)) ?_) | refine Ent.skip ?_))
    · (try dsimp only [heapOf] at h4); try simp only [Bool.and_eq_true, Bool.or_eq_true, Bool.not_eq_true', Bool.and_eq_false_iff, Bool.or_eq_false_iff, Bool.not_eq_false', decide_eq_true_eq, decide_eq_false_iff_not, Bool.not_eq_eq_eq_not, Bool.not_true, Bool.not_false, Bool.not_eq_true, Bool.not_eq_false, beq_iff_eq, bne_iff_ne, ne_eq, Decidable.not_not] at h4
      have hk : x.d = p.B.xs.length := by omega
      rw [hk] at hx2
      rw [hw1] at hx2
      refine c_exit ?_
      refine k_then_x ?_
      refine k_then_x ?_
      refine k_blk_x ?_
      refine k_then_n ?_
      refine c_seq ?_
      refine c_region ?_
      refine l_step (s_q rfl wn (q_loadpa (vs := encPiece p) ag_95 rfl (by repeat (first | exact Pick.here | apply Pick.there)) rfl) ?_)
      refine l_step (s_s rfl wn (s_allocz (cs := encPiece zPiece) (by kernel_rfl)) ?_)
      rintro _ _ ⟨b10, rfl, rfl⟩
      refine l_step (s_s0 wn (s_storep (ws := encPiece p) (cs := encPiece zPiece) (cs' := encPiece p) rfl rfl rfl sz_95 (onePiece _) (by simp [encPiece, encPiece]) rfl (by repeat (first | exact Pick.here | apply Pick.there))) ?_)
      rintro _ _ ⟨rfl, rfl⟩
      refine l_nil ?_
      refine k_then_n ?_
      refine c_seq ?_
      refine c_region ?_
      refine l_step (s_s rfl wn (s_buildSlice (cs := ([] : List UInt8).flatMap encB) Try.underlying22 eo_5 rfl rfl rfl rfl (by decide) (by decide)) ?_)
      rintro _ _ ⟨b150, rfl, rfl⟩
      refine l_step (s_q rfl wn (q_fieldp rfl fo_95_4) ?_)
      refine l_step (s_q rfl wn (q_loadp (v := .slice p.B.a p.B.xs.length p.B.cap) sc_22 rfl (by repeat (first | exact Pick.here | apply Pick.there)) rfl) ?_)
      refine l_step (s_s rfl wn (s_appendn (enc := encB) (xs := ([] : List UInt8)) (ys := (p.B.xs : List UInt8)) (Γ' := fun a' cap' => _) Try.underlying22 eo_5 (by decide) rfl rfl (by first | assumption | exact rd_ro (by assumption) | exact rd_bun (L := w.1.map (rowP 5)) (by repeat (first | exact Pick.here | apply Pick.there)) (in_map _ (by first | assumption | omega | (simp only [List.length_cons, List.length_nil]; omega) | decide) rfl) | exact rd_row (by repeat (first | exact Pick.here | apply Pick.there))) (oneB _) (by first | omega | (simp only [List.length_append, List.length_cons, List.length_nil] at *; omega)) (by first | omega | (simp only [List.length_append, List.length_cons, List.length_nil] at *; omega)) (fun _ _ => (by repeat (first | exact Pick.here | apply Pick.there)))) ?_)
      rintro _ _ ⟨a153, c153, rfl, rfl⟩
      simp only [Nat.zero_add, List.nil_append]
      refine l_step (s_q rfl wn (q_fieldp rfl fo_95_4) ?_)
      refine l_step (s_s0 wn (s_storep (ws := [.slice a153 p.B.xs.length c153]) (cs := encPiece p) (cs' := encPiece { p with B := ⟨a153, p.B.xs, c153⟩ }) rfl rfl rfl sz_22 (by simp [Value.oneCell', strB, ptV, SL.v, SH.v]) (by simp [encPiece]) rfl (by repeat (first | exact Pick.here | apply Pick.there))) ?_)
      rintro _ _ ⟨rfl, rfl⟩
      refine l_nil ?_
      refine k_then_n ?_
      refine c_seq ?_
      refine t_cutq (ι := Option Addr × Nat) (fun z => True) (fun z => [(0, .pointer (some ⟨r, 0, none⟩)), (3, .pointer (some ⟨b3, 0, none⟩))]) (fun z => .row 5 1 a153 p.B.xs.length c153 (p.B.xs.flatMap encB) :: .pts b10 (encPiece { p with B := ⟨a153, p.B.xs, c153⟩ }) 95 :: .pts b3 (encPiece p) 95 :: .pts r (encRHeap (⟨most, ⟨z.1, (w.1 ++ [({ p with B := ⟨a153, p.B.xs, c153⟩ } : Piece)]), z.2⟩⟩ : RHeap)) 101 :: .row 95 6 z.1 ((w.1 ++ [({ p with B := ⟨a153, p.B.xs, c153⟩ } : Piece)]).length) z.2 ((w.1 ++ [({ p with B := ⟨a153, p.B.xs, c153⟩ } : Piece)]).flatMap encPiece) :: Bun (w.1.map (rowP 5)) :: Δ) ?_ ?_
      · skip
        refine c_draw (m := 11) (bs := #[false, false, false, false, false, false, false, false, false, false, false]) [.row 5 1 a153 p.B.xs.length c153 (p.B.xs.flatMap encB), .pts b10 (encPiece { p with B := ⟨a153, p.B.xs, c153⟩ }) 95, .pts b3 (encPiece p) 95, Bun (w.1.map (rowP 5))] (by kernel_rfl) rfl (by kernel_rfl) ?_
        refine r_take (i := 0) (bs' := #[true, false, false, false, false, false, false, false, false, false, false]) rfl (by kernel_rfl) (by kernel_rfl) (by kernel_rfl) (fun _ _ _ h => h) rfl wn (q_move rfl) (Hp.le_refl _) (by repeat (first | exact Ent.nil _ | exact Ent.refl _ | (refine Ent.pick (by repeat (first | exact Pick.here | apply Pick.there)) ?_) | refine Ent.skip ?_)) (by kernel_rfl) ?_
        refine r_take (i := 1) (bs' := #[true, true, false, false, false, false, false, false, false, false, false]) rfl (by kernel_rfl) (by kernel_rfl) (by kernel_rfl) (fun _ _ _ h => h) rfl wn (q_move rfl) (Hp.le_refl _) (by repeat (first | exact Ent.nil _ | exact Ent.refl _ | (refine Ent.pick (by repeat (first | exact Pick.here | apply Pick.there)) ?_) | refine Ent.skip ?_)) (by kernel_rfl) ?_
        refine r_take (i := 2) (bs' := #[true, true, true, false, false, false, false, false, false, false, false]) rfl (by kernel_rfl) (by kernel_rfl) (by kernel_rfl) (fun _ _ _ h => h) rfl wn (q_nilCheck rfl) (Hp.le_refl _) (by repeat (first | exact Ent.nil _ | exact Ent.refl _ | (refine Ent.pick (by repeat (first | exact Pick.here | apply Pick.there)) ?_) | refine Ent.skip ?_)) (by kernel_rfl) ?_
        refine r_take (i := 3) (bs' := #[true, true, true, true, false, false, false, false, false, false, false]) rfl (by kernel_rfl) (by kernel_rfl) (by kernel_rfl) (fun _ _ _ h => h) rfl wn (q_fieldp rfl fo_101_1) (Hp.le_refl _) (by repeat (first | exact Ent.nil _ | exact Ent.refl _ | (refine Ent.pick (by repeat (first | exact Pick.here | apply Pick.there)) ?_) | refine Ent.skip ?_)) (by kernel_rfl) ?_
        refine r_take (i := 5) (bs' := #[true, true, true, true, false, true, false, false, false, false, false]) rfl (by kernel_rfl) (by kernel_rfl) (by kernel_rfl) (fun _ _ _ h => h) rfl wn (q_loadpa (vs := encPiece { p with B := ⟨a153, p.B.xs, c153⟩ }) ag_95 rfl (by repeat (first | exact Pick.here | apply Pick.there)) rfl) (Hp.le_refl _) (by repeat (first | exact Ent.nil _ | exact Ent.refl _ | (refine Ent.pick (by repeat (first | exact Pick.here | apply Pick.there)) ?_) | refine Ent.skip ?_)) (by kernel_rfl) ?_
        refine r_two (i := 4) (j := 6) (bi := #[true, true, true, true, true, true, false, false, false, false, false]) (bj := #[true, true, true, true, false, true, true, false, false, false, false]) (by kernel_rfl) (by kernel_rfl) (by kernel_rfl) ?_ ?_
        · skip
          refine o_step rfl (s_q rfl wn (q_loadp (v := .slice w.2.1 w.1.length w.2.2) sc_88 rfl (by repeat (first | exact Pick.here | apply Pick.there)) rfl) ?_)
          refine r_cont (Hp.le_refl _) (by repeat (first | exact Ent.nil _ | exact Ent.refl _ | (refine Ent.pick (by repeat (first | exact Pick.here | apply Pick.there)) ?_) | refine Ent.skip ?_)) ?_
          refine r_one (i := 6) (bs' := #[true, true, true, true, true, true, true, false, false, false, false]) (by kernel_rfl) (by kernel_rfl) ?_
          refine o_step rfl (s_s rfl wn (s_buildSlice (cs := ([{ p with B := ⟨a153, p.B.xs, c153⟩ }] : List Piece).flatMap encPiece) Try.underlying88 eo_95 rfl rfl rfl rfl (by decide) (by decide)) ?_)
          rintro _ _ ⟨b161, rfl, rfl⟩
          refine r_cont (Hp.le_refl _) (by repeat (first | exact Ent.nil _ | exact Ent.refl _ | (refine Ent.pick (by repeat (first | exact Pick.here | apply Pick.there)) ?_) | refine Ent.skip ?_)) ?_
          refine r_one (i := 7) (bs' := #[true, true, true, true, true, true, true, true, false, false, false]) (by kernel_rfl) (by kernel_rfl) ?_
          refine o_step rfl (s_s rfl wn (s_appendn (enc := encPiece) (xs := (w.1 : List Piece)) (ys := ([{ p with B := ⟨a153, p.B.xs, c153⟩ }] : List Piece)) (Γ' := fun a' cap' => _) Try.underlying88 eo_95 (by decide) rfl rfl (rd_row (by repeat (first | exact Pick.here | apply Pick.there))) (onePieces _) (by first | omega | (simp only [List.length_append, List.length_cons, List.length_nil] at *; omega)) (by first | omega | (simp only [List.length_append, List.length_cons, List.length_nil] at *; omega)) (fun _ _ => (by repeat (first | exact Pick.here | apply Pick.there)))) ?_)
          rintro _ _ ⟨a162, c162, rfl, rfl⟩
          refine r_cont (Hp.le_refl _) (by repeat (first | exact Ent.nil _ | exact Ent.refl _ | (refine Ent.pick (by repeat (first | exact Pick.here | apply Pick.there)) ?_) | refine Ent.skip ?_)) ?_
          refine r_take (i := 8) (bs' := #[true, true, true, true, true, true, true, true, true, false, false]) rfl (by kernel_rfl) (by kernel_rfl) (by kernel_rfl) (fun _ _ _ h => h) rfl wn (q_nilCheck rfl) (Hp.le_refl _) (by repeat (first | exact Ent.nil _ | exact Ent.refl _ | (refine Ent.pick (by repeat (first | exact Pick.here | apply Pick.there)) ?_) | refine Ent.skip ?_)) (by kernel_rfl) ?_
          refine r_take (i := 9) (bs' := #[true, true, true, true, true, true, true, true, true, true, false]) rfl (by kernel_rfl) (by kernel_rfl) (by kernel_rfl) (fun _ _ _ h => h) rfl wn (q_fieldp rfl fo_101_1) (Hp.le_refl _) (by repeat (first | exact Ent.nil _ | exact Ent.refl _ | (refine Ent.pick (by repeat (first | exact Pick.here | apply Pick.there)) ?_) | refine Ent.skip ?_)) (by kernel_rfl) ?_
          refine r_one (i := 10) (bs' := #[true, true, true, true, true, true, true, true, true, true, true]) (by kernel_rfl) (by kernel_rfl) ?_
          have hln : (w.1 ++ [({ p with B := ⟨a153, p.B.xs, c153⟩ } : Piece)]).length = w.1.length + 1 := by simp
          rw [← hln]
          refine o_step rfl (s_s0 wn (s_storep (ws := [.slice a162 ((w.1 ++ [({ p with B := ⟨a153, p.B.xs, c153⟩ } : Piece)]).length) c162]) (cs := encRHeap (⟨most, ⟨w.2.1, w.1, w.2.2⟩⟩ : RHeap)) (cs' := encRHeap (⟨most, ⟨a162, (w.1 ++ [{ p with B := ⟨a153, p.B.xs, c153⟩ }]), c162⟩⟩ : RHeap)) rfl rfl rfl sz_88 (by simp [Value.oneCell', strB, ptV, SL.v, SH.v]) (by simp [encRHeap]) rfl (by repeat (first | exact Pick.here | apply Pick.there))) ?_)
          rintro _ _ ⟨rfl, rfl⟩
          refine r_cont (Hp.le_refl _) (by repeat (first | exact Ent.nil _ | exact Ent.refl _ | (refine Ent.pick (by repeat (first | exact Pick.here | apply Pick.there)) ?_) | refine Ent.skip ?_)) ?_
          refine r_done (by kernel_rfl) ?_
          refine k_then_n ?_
          exact t_next (a162, c162) trivial (.cons rfl (by first | rfl | exact inte (by omega) | (simp; done) | (simp <;> omega) | simp [*]) (.cons rfl (by first | rfl | exact inte (by omega) | (simp; done) | (simp <;> omega) | simp [*]) (.nil _))) (by repeat (first | exact Ent.nil _ | exact Ent.refl _ | (refine Ent.pick (by repeat (first | exact Pick.here | apply Pick.there)) ?_) | refine Ent.skip ?_))
        · skip
          refine o_step rfl (s_s rfl wn (s_buildSlice (cs := ([{ p with B := ⟨a153, p.B.xs, c153⟩ }] : List Piece).flatMap encPiece) Try.underlying88 eo_95 rfl rfl rfl rfl (by decide) (by decide)) ?_)
          rintro _ _ ⟨b161, rfl, rfl⟩
          refine r_cont (Hp.le_refl _) (by repeat (first | exact Ent.nil _ | exact Ent.refl _ | (refine Ent.pick (by repeat (first | exact Pick.here | apply Pick.there)) ?_) | refine Ent.skip ?_)) ?_
          refine r_one (i := 4) (bs' := #[true, true, true, true, true, true, true, false, false, false, false]) (by kernel_rfl) (by kernel_rfl) ?_
          refine o_step rfl (s_q rfl wn (q_loadp (v := .slice w.2.1 w.1.length w.2.2) sc_88 rfl (by repeat (first | exact Pick.here | apply Pick.there)) rfl) ?_)
          refine r_cont (Hp.le_refl _) (by repeat (first | exact Ent.nil _ | exact Ent.refl _ | (refine Ent.pick (by repeat (first | exact Pick.here | apply Pick.there)) ?_) | refine Ent.skip ?_)) ?_
          refine r_one (i := 7) (bs' := #[true, true, true, true, true, true, true, true, false, false, false]) (by kernel_rfl) (by kernel_rfl) ?_
          refine o_step rfl (s_s rfl wn (s_appendn (enc := encPiece) (xs := (w.1 : List Piece)) (ys := ([{ p with B := ⟨a153, p.B.xs, c153⟩ }] : List Piece)) (Γ' := fun a' cap' => _) Try.underlying88 eo_95 (by decide) rfl rfl (rd_row (by repeat (first | exact Pick.here | apply Pick.there))) (onePieces _) (by first | omega | (simp only [List.length_append, List.length_cons, List.length_nil] at *; omega)) (by first | omega | (simp only [List.length_append, List.length_cons, List.length_nil] at *; omega)) (fun _ _ => (by repeat (first | exact Pick.here | apply Pick.there)))) ?_)
          rintro _ _ ⟨a162, c162, rfl, rfl⟩
          refine r_cont (Hp.le_refl _) (by repeat (first | exact Ent.nil _ | exact Ent.refl _ | (refine Ent.pick (by repeat (first | exact Pick.here | apply Pick.there)) ?_) | refine Ent.skip ?_)) ?_
          refine r_take (i := 8) (bs' := #[true, true, true, true, true, true, true, true, true, false, false]) rfl (by kernel_rfl) (by kernel_rfl) (by kernel_rfl) (fun _ _ _ h => h) rfl wn (q_nilCheck rfl) (Hp.le_refl _) (by repeat (first | exact Ent.nil _ | exact Ent.refl _ | (refine Ent.pick (by repeat (first | exact Pick.here | apply Pick.there)) ?_) | refine Ent.skip ?_)) (by kernel_rfl) ?_
          refine r_take (i := 9) (bs' := #[true, true, true, true, true, true, true, true, true, true, false]) rfl (by kernel_rfl) (by kernel_rfl) (by kernel_rfl) (fun _ _ _ h => h) rfl wn (q_fieldp rfl fo_101_1) (Hp.le_refl _) (by repeat (first | exact Ent.nil _ | exact Ent.refl _ | (refine Ent.pick (by repeat (first | exact Pick.here | apply Pick.there)) ?_) | refine Ent.skip ?_)) (by kernel_rfl) ?_
          refine r_one (i := 10) (bs' := #[true, true, true, true, true, true, true, true, true, true, true]) (by kernel_rfl) (by kernel_rfl) ?_
          have hln : (w.1 ++ [({ p with B := ⟨a153, p.B.xs, c153⟩ } : Piece)]).length = w.1.length + 1 := by simp
          rw [← hln]
          refine o_step rfl (s_s0 wn (s_storep (ws := [.slice a162 ((w.1 ++ [({ p with B := ⟨a153, p.B.xs, c153⟩ } : Piece)]).length) c162]) (cs := encRHeap (⟨most, ⟨w.2.1, w.1, w.2.2⟩⟩ : RHeap)) (cs' := encRHeap (⟨most, ⟨a162, (w.1 ++ [{ p with B := ⟨a153, p.B.xs, c153⟩ }]), c162⟩⟩ : RHeap)) rfl rfl rfl sz_88 (by simp [Value.oneCell', strB, ptV, SL.v, SH.v]) (by simp [encRHeap]) rfl (by repeat (first | exact Pick.here | apply Pick.there))) ?_)
          rintro _ _ ⟨rfl, rfl⟩
          refine r_cont (Hp.le_refl _) (by repeat (first | exact Ent.nil _ | exact Ent.refl _ | (refine Ent.pick (by repeat (first | exact Pick.here | apply Pick.there)) ?_) | refine Ent.skip ?_)) ?_
          refine r_done (by kernel_rfl) ?_
          refine k_then_n ?_
          exact t_next (a162, c162) trivial (.cons rfl (by first | rfl | exact inte (by omega) | (simp; done) | (simp <;> omega) | simp [*]) (.cons rfl (by first | rfl | exact inte (by omega) | (simp; done) | (simp <;> omega) | simp [*]) (.nil _))) (by repeat (first | exact Ent.nil _ | exact Ent.refl _ | (refine Ent.pick (by repeat (first | exact Pick.here | apply Pick.there)) ?_) | refine Ent.skip ?_))
      intro z hj18
      refine k_then_n ?_
      refine c_seq ?_
      refine c_region ?_
      refine Tr.ent (Ent.trans (Ent.pick (A := .row 5 1 a153 p.B.xs.length c153 (p.B.xs.flatMap encB)) (by repeat (first | exact Pick.here | apply Pick.there)) (Ent.pick (A := Bun (w.1.map (rowP 5))) (by repeat (first | exact Pick.here | apply Pick.there)) (Ent.refl _))) (bun_snoc _ _ _)) ?_
      rw [show w.1.map (rowP 5) ++ [.row 5 1 a153 p.B.xs.length c153 (p.B.xs.flatMap encB)] = (w.1 ++ [({ p with B := ⟨a153, p.B.xs, c153⟩ } : Piece)]).map (rowP 5) from by simp [rowP]]
      have hri2 : RI (w.1 ++ [({ p with B := ⟨a153, p.B.xs, c153⟩ } : Piece)]) := ri_snoc hw2 (by omega) ⟨f2, ht⟩ ⟨f4, by show p.At ≤ _; omega⟩
      have htt : totD ((w.1 ++ [({ p with B := ⟨a153, p.B.xs, c153⟩ } : Piece)]).map pd) ≤ 1000000000 := by rw [totD_map (by simp)]; exact (hri2.tot _ (getD_mem _ 0 (by simp))).2
      have hmp : (w.1 ++ [({ p with B := ⟨a153, p.B.xs, c153⟩ } : Piece)]).map pd = keepR (L.map pd) (pd p) ++ [pd p] := by rw [List.map_append, hw1]; rfl
      refine l_step (s_q rfl wn (q_move rfl) ?_)
      refine l_step (s_fnb rfl wn Try.func44 rfl (by kernel_rfl) rfl (by repeat (first | exact Sel.nil | exact Pick.here | apply Sel.cons | apply Pick.there)) (fun ρ' hL => rwhole_spec r most (w.1 ++ [({ p with B := ⟨a153, p.B.xs, c153⟩ } : Piece)]) z.1 z.2 ρ' (by assumption)) ?_)
      rintro _ _ (⟨hw167, rfl, rfl⟩ | ⟨hw167, a167, c167, rfl, rfl⟩)
      try simp only [List.cons_append, List.nil_append]
      · skip
        refine l_step (s_q rfl wn (q_move rfl) ?_)
        refine l_step (s_q rfl wn (q_extract rfl rfl) ?_)
        refine l_step (s_q rfl wn (q_extract rfl rfl) ?_)
        refine l_step (s_q rfl wn (q_assign rfl) ?_)
        refine l_step (s_q rfl wn (q_assign rfl) ?_)
        refine l_nil ?_
        refine k_then_n ?_
        refine c_seq ?_
        refine c_seq ?_
        refine c_draw (m := 8) (bs := #[false, false, false, false, false, false, false, false]) [.pts b10 (encPiece { p with B := ⟨a153, p.B.xs, c153⟩ }) 95, .pts b3 (encPiece p) 95, .pts r (encRHeap (⟨most, ⟨z.1, (w.1 ++ [({ p with B := ⟨a153, p.B.xs, c153⟩ } : Piece)]), z.2⟩⟩ : RHeap)) 101, .row 95 6 z.1 ((w.1 ++ [({ p with B := ⟨a153, p.B.xs, c153⟩ } : Piece)]).length) z.2 ((w.1 ++ [({ p with B := ⟨a153, p.B.xs, c153⟩ } : Piece)]).flatMap encPiece), Bun ((w.1 ++ [({ p with B := ⟨a153, p.B.xs, c153⟩ } : Piece)]).map (rowP 5))] (by kernel_rfl) rfl (by kernel_rfl) ?_
        refine r_take (i := 0) (bs' := #[true, false, false, false, false, false, false, false]) rfl (by kernel_rfl) (by kernel_rfl) (by kernel_rfl) (fun _ _ _ h => h) rfl wn (q_move rfl) (Hp.le_refl _) (by repeat (first | exact Ent.nil _ | exact Ent.refl _ | (refine Ent.pick (by repeat (first | exact Pick.here | apply Pick.there)) ?_) | refine Ent.skip ?_)) (by kernel_rfl) ?_
        refine r_take (i := 1) (bs' := #[true, true, false, false, false, false, false, false]) rfl (by kernel_rfl) (by kernel_rfl) (by kernel_rfl) (fun _ _ _ h => h) rfl wn (q_move rfl) (Hp.le_refl _) (by repeat (first | exact Ent.nil _ | exact Ent.refl _ | (refine Ent.pick (by repeat (first | exact Pick.here | apply Pick.there)) ?_) | refine Ent.skip ?_)) (by kernel_rfl) ?_
        refine r_skip (i := 2) (bs' := #[true, true, true, false, false, false, false, false]) rfl (by kernel_rfl) (by kernel_rfl) (by kernel_rfl) (fun _ _ _ h => h) rfl (wno rfl rfl (by decide)) (Hp.le_refl _) (by repeat (first | exact Ent.nil _ | exact Ent.refl _ | (refine Ent.pick (by repeat (first | exact Pick.here | apply Pick.there)) ?_) | refine Ent.skip ?_)) (by kernel_rfl) ?_
        refine r_skip (i := 3) (bs' := #[true, true, true, true, false, false, false, false]) rfl (by kernel_rfl) (by kernel_rfl) (by kernel_rfl) (fun _ _ _ h => h) rfl (wno rfl rfl (by decide)) (Hp.le_refl _) (by repeat (first | exact Ent.nil _ | exact Ent.refl _ | (refine Ent.pick (by repeat (first | exact Pick.here | apply Pick.there)) ?_) | refine Ent.skip ?_)) (by kernel_rfl) ?_
        refine r_skip (i := 4) (bs' := #[true, true, true, true, true, false, false, false]) rfl (by kernel_rfl) (by kernel_rfl) (by kernel_rfl) (fun _ _ _ h => h) rfl (wno rfl rfl (by decide)) (Hp.le_refl _) (by repeat (first | exact Ent.nil _ | exact Ent.refl _ | (refine Ent.pick (by repeat (first | exact Pick.here | apply Pick.there)) ?_) | refine Ent.skip ?_)) (by kernel_rfl) ?_
        refine r_skip (i := 5) (bs' := #[true, true, true, true, true, true, false, false]) rfl (by kernel_rfl) (by kernel_rfl) (by kernel_rfl) (fun _ _ _ h => h) rfl (wno rfl rfl (by decide)) (Hp.le_refl _) (by repeat (first | exact Ent.nil _ | exact Ent.refl _ | (refine Ent.pick (by repeat (first | exact Pick.here | apply Pick.there)) ?_) | refine Ent.skip ?_)) (by kernel_rfl) ?_
        refine r_skip (i := 6) (bs' := #[true, true, true, true, true, true, true, false]) rfl (by kernel_rfl) (by kernel_rfl) (by kernel_rfl) (fun _ _ _ h => h) rfl (wno rfl rfl (by decide)) (Hp.le_refl _) (by repeat (first | exact Ent.nil _ | exact Ent.refl _ | (refine Ent.pick (by repeat (first | exact Pick.here | apply Pick.there)) ?_) | refine Ent.skip ?_)) (by kernel_rfl) ?_
        refine r_take (i := 7) (bs' := #[true, true, true, true, true, true, true, true]) rfl (by kernel_rfl) (by kernel_rfl) (by kernel_rfl) (fun _ _ _ h => h) rfl wn (q_pick rfl rfl rfl) (Hp.le_refl _) (by repeat (first | exact Ent.nil _ | exact Ent.refl _ | (refine Ent.pick (by repeat (first | exact Pick.here | apply Pick.there)) ?_) | refine Ent.skip ?_)) (by kernel_rfl) ?_
        refine r_done (by kernel_rfl) ?_
        refine k_then_n ?_
        refine c_no rfl ?_
        refine c_skip ?_
        refine k_then_n ?_
        refine c_seq ?_
        refine c_region ?_
        refine l_step (s_q rfl wn (q_assign rfl) ?_)
        refine l_nil ?_
        refine k_then_n ?_
        refine c_ret ?_
        have hT := takeR_ok h0 hw4 hx2 (.inl (by rw [← hmp]; exact hw167))
        exact t_ret [.pts r (encRHeap (⟨most, ⟨z.1, (w.1 ++ [({ p with B := ⟨a153, p.B.xs, c153⟩ } : Piece)]), z.2⟩⟩ : RHeap)) 101, .row 95 6 z.1 (w.1 ++ [({ p with B := ⟨a153, p.B.xs, c153⟩ } : Piece)]).length z.2 ((w.1 ++ [({ p with B := ⟨a153, p.B.xs, c153⟩ } : Piece)]).flatMap encPiece), Bun ((w.1 ++ [({ p with B := ⟨a153, p.B.xs, c153⟩ } : Piece)]).map (rowP 5))] rfl (.tmp rfl .nil) rfl (Hp.le_refl _) ⟨rfl, (w.1 ++ [({ p with B := ⟨a153, p.B.xs, c153⟩ } : Piece)]), z.1, z.2, (by rw [hT]; try rfl), (by rw [hT]; try exact hmp), hri2, rfl⟩ (by repeat (first | exact Ent.nil _ | exact Ent.refl _ | (refine Ent.pick (by repeat (first | exact Pick.here | apply Pick.there)) ?_) | refine Ent.skip ?_))
      · skip
        refine l_step (s_q rfl wn (q_move rfl) ?_)
        refine l_step (s_q rfl wn (q_extract rfl rfl) ?_)
        refine l_step (s_q rfl wn (q_extract rfl rfl) ?_)
        refine l_step (s_q rfl wn (q_assign rfl) ?_)
        refine l_step (s_q rfl wn (q_assign rfl) ?_)
        refine l_nil ?_
        refine k_then_n ?_
        refine c_seq ?_
        refine c_seq ?_
        refine c_draw (m := 8) (bs := #[false, false, false, false, false, false, false, false]) [.row 5 1 a167 ((bytesD ((w.1 ++ [({ p with B := ⟨a153, p.B.xs, c153⟩ } : Piece)]).map pd)).length) c167 ((bytesD ((w.1 ++ [({ p with B := ⟨a153, p.B.xs, c153⟩ } : Piece)]).map pd)).flatMap encB), .pts b10 (encPiece { p with B := ⟨a153, p.B.xs, c153⟩ }) 95, .pts b3 (encPiece p) 95, .pts r (encRHeap (⟨most, ⟨z.1, (w.1 ++ [({ p with B := ⟨a153, p.B.xs, c153⟩ } : Piece)]), z.2⟩⟩ : RHeap)) 101, .row 95 6 z.1 ((w.1 ++ [({ p with B := ⟨a153, p.B.xs, c153⟩ } : Piece)]).length) z.2 ((w.1 ++ [({ p with B := ⟨a153, p.B.xs, c153⟩ } : Piece)]).flatMap encPiece), Bun ((w.1 ++ [({ p with B := ⟨a153, p.B.xs, c153⟩ } : Piece)]).map (rowP 5))] (by kernel_rfl) rfl (by kernel_rfl) ?_
        refine r_take (i := 0) (bs' := #[true, false, false, false, false, false, false, false]) rfl (by kernel_rfl) (by kernel_rfl) (by kernel_rfl) (fun _ _ _ h => h) rfl wn (q_move rfl) (Hp.le_refl _) (by repeat (first | exact Ent.nil _ | exact Ent.refl _ | (refine Ent.pick (by repeat (first | exact Pick.here | apply Pick.there)) ?_) | refine Ent.skip ?_)) (by kernel_rfl) ?_
        refine r_take (i := 1) (bs' := #[true, true, false, false, false, false, false, false]) rfl (by kernel_rfl) (by kernel_rfl) (by kernel_rfl) (fun _ _ _ h => h) rfl wn (q_move rfl) (Hp.le_refl _) (by repeat (first | exact Ent.nil _ | exact Ent.refl _ | (refine Ent.pick (by repeat (first | exact Pick.here | apply Pick.there)) ?_) | refine Ent.skip ?_)) (by kernel_rfl) ?_
        refine r_take (i := 2) (bs' := #[true, true, true, false, false, false, false, false]) rfl (by kernel_rfl) (by kernel_rfl) (by kernel_rfl) (fun _ _ _ h => h) rfl (wy rfl rfl rfl) (q_move rfl) (Hp.le_refl _) (by repeat (first | exact Ent.nil _ | exact Ent.refl _ | (refine Ent.pick (by repeat (first | exact Pick.here | apply Pick.there)) ?_) | refine Ent.skip ?_)) (by kernel_rfl) ?_
        refine r_take (i := 4) (bs' := #[true, true, true, false, true, false, false, false]) rfl (by kernel_rfl) (by kernel_rfl) (by kernel_rfl) (fun _ _ _ h => h) rfl (wy rfl rfl rfl) (q_fieldp rfl fo_95_1) (Hp.le_refl _) (by repeat (first | exact Ent.nil _ | exact Ent.refl _ | (refine Ent.pick (by repeat (first | exact Pick.here | apply Pick.there)) ?_) | refine Ent.skip ?_)) (by kernel_rfl) ?_
        refine r_take (i := 5) (bs' := #[true, true, true, false, true, true, false, false]) rfl (by kernel_rfl) (by kernel_rfl) (by kernel_rfl) (fun _ _ _ h => h) rfl (wy rfl rfl rfl) (q_loadp (v := .int .u32 (p.Sum.toNat : Int)) sc_23 rfl (by repeat (first | exact Pick.here | apply Pick.there)) rfl) (Hp.le_refl _) (by repeat (first | exact Ent.nil _ | exact Ent.refl _ | (refine Ent.pick (by repeat (first | exact Pick.here | apply Pick.there)) ?_) | refine Ent.skip ?_)) (by kernel_rfl) ?_
        refine r_one (i := 3) (bs' := #[true, true, true, true, true, true, false, false]) (by kernel_rfl) (by kernel_rfl) ?_
        refine o_step rfl (s_fnq rfl (wy rfl rfl rfl) Try.func16 rfl (by kernel_rfl) rfl (fun ρ' hL => rof_spec _ _ _ _ rfl (by simp only [bytesD, List.length_map, List.length_range]; omega) ρ' (hL.row (by repeat (first | exact Pick.here | apply Pick.there)))) ?_)
        refine r_cont (Hp.le_refl _) (by repeat (first | exact Ent.nil _ | exact Ent.refl _ | (refine Ent.pick (by repeat (first | exact Pick.here | apply Pick.there)) ?_) | refine Ent.skip ?_)) ?_
        refine r_take (i := 6) (bs' := #[true, true, true, true, true, true, true, false]) rfl (by kernel_rfl) (by kernel_rfl) (by kernel_rfl) (fun _ _ _ h => h) rfl (wy rfl rfl rfl) (q_neq rfl rfl) (Hp.le_refl _) (by repeat (first | exact Ent.nil _ | exact Ent.refl _ | (refine Ent.pick (by repeat (first | exact Pick.here | apply Pick.there)) ?_) | refine Ent.skip ?_)) (by kernel_rfl) ?_
        refine r_take (i := 7) (bs' := #[true, true, true, true, true, true, true, true]) rfl (by kernel_rfl) (by kernel_rfl) (by kernel_rfl) (fun _ _ _ h => h) rfl wn (q_pick rfl rfl rfl) (Hp.le_refl _) (by repeat (first | exact Ent.nil _ | exact Ent.refl _ | (refine Ent.pick (by repeat (first | exact Pick.here | apply Pick.there)) ?_) | refine Ent.skip ?_)) (by kernel_rfl) ?_
        refine r_done (by kernel_rfl) ?_
        refine k_then_n ?_
        refine c_cond rfl (fun h6 => ?_) (fun h6 => ?_)
        · (try dsimp only [heapOf] at h6); try simp only [Bool.and_eq_true, Bool.or_eq_true, Bool.not_eq_true', Bool.and_eq_false_iff, Bool.or_eq_false_iff, Bool.not_eq_false', decide_eq_true_eq, decide_eq_false_iff_not, Bool.not_eq_eq_eq_not, Bool.not_true, Bool.not_false, Bool.not_eq_true, Bool.not_eq_false, beq_iff_eq, bne_iff_ne, ne_eq, Decidable.not_not] at h6
          refine c_seq ?_
          refine c_region ?_
          refine l_step (s_q rfl wn (q_move rfl) ?_)
          refine l_step (s_q rfl wn (q_nilCheck rfl) ?_)
          refine l_step (s_q rfl wn (q_fieldp rfl fo_101_1) ?_)
          refine l_step (s_s0 wn (s_storep (ws := [.slice none 0 0]) (cs := encRHeap (⟨most, ⟨z.1, (w.1 ++ [({ p with B := ⟨a153, p.B.xs, c153⟩ } : Piece)]), z.2⟩⟩ : RHeap)) (cs' := encRHeap (⟨most, ⟨none, [], 0⟩⟩ : RHeap)) rfl rfl rfl sz_88 (by simp [Value.oneCell', strB, ptV, SL.v, SH.v]) (by simp [encRHeap]) rfl (by repeat (first | exact Pick.here | apply Pick.there))) ?_)
          rintro _ _ ⟨rfl, rfl⟩
          refine l_nil ?_
          refine k_then_n ?_
          refine c_seq ?_
          refine c_region ?_
          refine l_step (s_q rfl wn (q_assign rfl) ?_)
          refine l_nil ?_
          refine k_then_n ?_
          refine c_ret ?_
          refine k_then_r ?_
          have hT := takeR_sum h0 hw4 hx2 (by rw [← hmp]; exact hw167) (by rw [← hmp]; exact h6)
          refine Tr.ent (Ent.trans (bun_nil _) (Ent.nilrow 95 6 _)) ?_
          exact t_ret [.pts r (encRHeap (⟨most, ⟨none, ([] : List Piece), 0⟩⟩ : RHeap)) 101, .row 95 6 none ([] : List Piece).length 0 (([] : List Piece).flatMap encPiece), Bun (([] : List Piece).map (rowP 5))] rfl (.tmp rfl .nil) rfl (Hp.le_refl _) ⟨rfl, [], none, 0, (by rw [hT]; try rfl), (by rw [hT]; try rfl), ri_nil, rfl⟩ (by repeat (first | exact Ent.nil _ | exact Ent.refl _ | (refine Ent.pick (by repeat (first | exact Pick.here | apply Pick.there)) ?_) | refine Ent.skip ?_))
        · (try dsimp only [heapOf] at h6); try simp only [Bool.and_eq_true, Bool.or_eq_true, Bool.not_eq_true', Bool.and_eq_false_iff, Bool.or_eq_false_iff, Bool.not_eq_false', decide_eq_true_eq, decide_eq_false_iff_not, Bool.not_eq_eq_eq_not, Bool.not_true, Bool.not_false, Bool.not_eq_true, Bool.not_eq_false, beq_iff_eq, bne_iff_ne, ne_eq, Decidable.not_not] at h6
          refine c_skip ?_
          refine k_then_n ?_
          refine c_seq ?_
          refine c_region ?_
          refine l_step (s_q rfl wn (q_assign rfl) ?_)
          refine l_nil ?_
          refine k_then_n ?_
          refine c_ret ?_
          have hT := takeR_ok h0 hw4 hx2 (.inr (by rw [← hmp]; exact h6))
          exact t_ret [.pts r (encRHeap (⟨most, ⟨z.1, (w.1 ++ [({ p with B := ⟨a153, p.B.xs, c153⟩ } : Piece)]), z.2⟩⟩ : RHeap)) 101, .row 95 6 z.1 (w.1 ++ [({ p with B := ⟨a153, p.B.xs, c153⟩ } : Piece)]).length z.2 ((w.1 ++ [({ p with B := ⟨a153, p.B.xs, c153⟩ } : Piece)]).flatMap encPiece), Bun ((w.1 ++ [({ p with B := ⟨a153, p.B.xs, c153⟩ } : Piece)]).map (rowP 5))] rfl (.tmp rfl .nil) rfl (Hp.le_refl _) ⟨rfl, (w.1 ++ [({ p with B := ⟨a153, p.B.xs, c153⟩ } : Piece)]), z.1, z.2, (by rw [hT]; try rfl), (by rw [hT]; try exact hmp), hri2, rfl⟩ (by repeat (first | exact Ent.nil _ | exact Ent.refl _ | (refine Ent.pick (by repeat (first | exact Pick.here | apply Pick.there)) ?_) | refine Ent.skip ?_))
end Go.Chk.G

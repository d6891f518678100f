/-
  slices.Chunk, chunk.Cut, chunk.Take, walked.
-/
import Derived.Test.YtppngeebdmbeaaaChkQ
import Derived.Test.YtppngeebdmbeaaaChkW
import Derived.Test.YtppngeebdmbeaaaProg
set_option maxRecDepth 100000
set_option maxHeartbeats 4000000
set_option linter.unusedSimpArgs false
set_option linter.unusedVariables false
namespace Go.Chk.C
open Go Go.SL Go.Proofs Go.Sum
attribute [local irreducible] Go.SL.Ent
theorem ag_87 : aggSize Try.prog 87 = some 2 := by kernel_rfl
theorem ag_95 : aggSize Try.prog 95 = some 6 := by kernel_rfl
theorem eo_22 : elemOk Try.prog 22 1 24 = true := by kernel_rfl
theorem eo_95 : elemOk Try.prog 95 6 64 = true := by kernel_rfl
theorem fo_138_2 : fieldOff Try.prog 138 2 = some (7, 4) := by kernel_rfl
theorem fo_138_5 : fieldOff Try.prog 138 5 = some (10, 3) := by kernel_rfl
theorem fo_95_3 : fieldOff Try.prog 95 3 = some (4, 3) := by kernel_rfl
theorem fo_95_4 : fieldOff Try.prog 95 4 = some (5, 22) := by kernel_rfl
theorem pl_95 : placesOf Try.prog 95 = some [(0, 2), (2, 1), (3, 1), (4, 1), (5, 1)] := by kernel_rfl
theorem sc_22 : isScalar Try.prog 22 = true := by kernel_rfl
theorem sc_3 : isScalar Try.prog 3 = true := by kernel_rfl
theorem sc_4 : isScalar Try.prog 4 = true := by kernel_rfl
theorem sc_88 : isScalar Try.prog 88 = true := by kernel_rfl
theorem sz_22 : sizeIs Try.prog 22 = some 1 := by kernel_rfl
theorem sz_3 : sizeIs Try.prog 3 = some 1 := by kernel_rfl
theorem sz_5 : sizeIs Try.prog 5 = some 1 := by kernel_rfl
theorem sz_88 : sizeIs Try.prog 88 = some 1 := by kernel_rfl
theorem sz_95 : sizeIs Try.prog 95 = some 6 := by kernel_rfl
theorem zc_88 : zeroCs Try.prog 88 = some [.slice none 0 0] := by kernel_rfl
theorem zc_95 : zeroCs Try.prog 95 = some [.int .i64 0, .int .i64 0, .int .u32 0, .int .i64 0, .int .i64 0, .slice none 0 0] := by kernel_rfl

theorem schunk_spec (a : Option Addr) (l c : Nat) (n : Int) (ρ : Hp) (hn : 1 ≤ n) : Spec0 Try.prog 65 #[.slice a l c, .int .i64 n] ρ [] (fun v Γ' => ∃ b2 b3, v = .func (.func 74) #[] #[.pointer (some ⟨b2, 0, none⟩), .pointer (some ⟨b3, 0, none⟩)] ∧ Γ' = [.pts b2 [.slice a l c] 22, .pts b3 [.int .i64 n] 3]) := by
  refine spec_of (n := 9) (vs := [_, _]) (σ := [(0, _), (1, _)]) Try.func65 rfl rfl rfl rfl fun E Δ => ?_
  rw [List.nil_append]
  refine c_seq ?_
  refine c_region ?_
  refine l_step (s_s rfl wn (s_box (cs := [.slice a l c]) rfl rfl) ?_)
  rintro _ _ ⟨b2, rfl, rfl⟩
  refine l_step (s_s rfl wn (s_box (cs := [.int .i64 n]) rfl rfl) ?_)
  rintro _ _ ⟨b3, rfl, rfl⟩
  refine l_step (s_q rfl wn (q_assign rfl) ?_)
  refine l_nil ?_
  refine k_then_n ?_
  refine c_seq ?_
  refine c_seq ?_
  refine c_region ?_
  refine l_step (s_q rfl wn (q_loadp (v := .int .i64 n) sc_3 rfl (by repeat (first | exact Pick.here | apply Pick.there)) rfl) ?_)
  refine l_step (s_q rfl wn (q_lss rfl rfl) ?_)
  refine l_nil ?_
  refine k_then_n ?_
  refine c_sure false rfl (decide_eq_false (by omega)) ?_
  simp only [Bool.false_eq_true, if_true, if_false]
  refine c_skip ?_
  refine k_then_n ?_
  refine c_seq ?_
  refine c_region ?_
  refine l_step (s_q rfl wn (q_makeFunc rfl rfl) ?_)
  refine l_step (s_q rfl wn (q_assign rfl) ?_)
  refine l_nil ?_
  refine k_then_n ?_
  refine c_ret ?_
  exact t_ret [.pts b2 [.slice a l c] 22, .pts b3 [.int .i64 n] 3] rfl (.tmp rfl .nil) rfl (Hp.le_refl _) ⟨rfl, b2, b3, rfl, rfl⟩ (by repeat (first | exact Ent.nil _ | exact Ent.refl _ | (refine Ent.pick (by repeat (first | exact Pick.here | apply Pick.there)) ?_) | refine Ent.skip ?_))

theorem schunk_iter (bs bn : Nat) (a : Option Addr) (ln c n : Nat) (ρ : Hp) (hn : 1 ≤ n) (hnl : n ≤ 1000000000) (hl : ln ≤ 1000000000) (hlc : ln ≤ c) : IterS Try.prog 74 #[.pointer (some ⟨bs, 0, none⟩), .pointer (some ⟨bn, 0, none⟩)] ρ [.pts bs [.slice a ln c] 22, .pts bn [.int .i64 (n : Int)] 3] (partsV a ln n) := by
  refine iter_of (n := 31) (cap := [_, _]) (σ := [(1, _), (2, _)]) Try.func74 rfl rfl rfl rfl fun E l m κ ι I St hY x0 => ?_
  refine Tr.ent (Ent.comm _ _) ?_
  simp only [List.cons_append, List.nil_append]
  refine i_seq ?_
  refine i_region ?_
  refine li_step (.inl rfl) (s_q rfl wn (q_assign rfl) ?_)
  refine li_nil ?_
  refine k_then_n ?_
  refine i_block ?_
  refine Tr.env (σ' := [(0, _), (1, _), (2, _), (4, _)]) (.cons rfl rfl (.cons rfl rfl (.cons rfl rfl (.cons rfl rfl (.nil _))))) ?_
  refine i_loop (ι := Lp (Nat × κ)) (fun x => x.d.1 ≤ cdiv ln n) (fun x => cdiv ln n - x.d.1) (fun x => [(0, (.func (.yield l) #[] #[])), (1, .pointer (some ⟨bs, 0, none⟩)), (2, .pointer (some ⟨bn, 0, none⟩)), (4, .int .i64 ((x.d.1 * n : Nat) : Int))]) (fun x => .pts bs [.slice a ln c] 22 :: .pts bn [.int .i64 (n : Int)] 3 :: I x.d.1 x.d.2) (⟨(0, x0), none, 0, none, 0, none, 0⟩ : Lp _) (Nat.zero_le _) ?_ ?_ ?_
  · exact .cons rfl (by first | rfl | exact inte (by omega) | (simp; done) | (simp <;> omega) | simp [*]) (.cons rfl (by first | rfl | exact inte (by omega) | (simp; done) | (simp <;> omega) | simp [*]) (.cons rfl (by first | rfl | exact inte (by omega) | (simp; done) | (simp <;> omega) | simp [*]) (.cons rfl (by first | rfl | exact inte (by omega) | (simp; done) | (simp <;> omega) | simp [*]) (.nil _))))
  · exact (by repeat (first | exact Ent.nil _ | exact Ent.refl _ | (refine Ent.pick (by repeat (first | exact Pick.here | apply Pick.there)) ?_) | refine Ent.skip ?_))
  intro x hx
  refine i_seq ?_
  refine i_seq ?_
  refine i_region ?_
  refine li_step (.inl rfl) (s_q rfl wn (q_move rfl) ?_)
  refine li_step (.inl rfl) (s_q rfl wn (q_loadp (v := .slice a ln c) sc_22 rfl (by repeat (first | exact Pick.here | apply Pick.there)) rfl) ?_)
  refine li_step (.inl rfl) (s_q rfl wn (q_len Try.underlying22 rfl) ?_)
  refine li_step (.inl rfl) (s_q rfl wn (q_lss rfl rfl) ?_)
  refine li_nil ?_
  refine k_then_n ?_
  refine i_cond rfl (fun h0 => ?_) (fun h0 => ?_)
  · (try dsimp only [heapOf] at h0); try simp only [Bool.and_eq_true, Bool.or_eq_true, Bool.not_eq_true', Bool.and_eq_false_iff, Bool.or_eq_false_iff, Bool.not_eq_false', decide_eq_true_eq, decide_eq_false_iff_not, Bool.not_eq_eq_eq_not, Bool.not_true, Bool.not_false, Bool.not_eq_true, Bool.not_eq_false, beq_iff_eq, bne_iff_ne, ne_eq, Decidable.not_not] at h0
    refine i_skip ?_
    refine k_then_n ?_
    refine i_seq ?_
    refine i_block ?_
    refine i_seq ?_
    refine i_draw ?_
    refine c_draw (m := 7) (bs := #[false, false, false, false, false, false, false]) [.pts bs [.slice a ln c] 22, .pts bn [.int .i64 (n : Int)] 3] (by kernel_rfl) rfl (by kernel_rfl) ?_
    refine r_take (i := 0) (bs' := #[true, false, false, false, false, false, false]) rfl (by kernel_rfl) (by kernel_rfl) (by kernel_rfl) (fun _ _ _ h => h) rfl wn (q_loadp (v := .int .i64 (n : Int)) sc_3 rfl (by repeat (first | exact Pick.here | apply Pick.there)) rfl) (Hp.le_refl _) (by repeat (first | exact Ent.nil _ | exact Ent.refl _ | (refine Ent.pick (by repeat (first | exact Pick.here | apply Pick.there)) ?_) | refine Ent.skip ?_)) (by kernel_rfl) ?_
    refine r_take (i := 1) (bs' := #[true, true, false, false, false, false, false]) rfl (by kernel_rfl) (by kernel_rfl) (by kernel_rfl) (fun _ _ _ h => h) rfl wn (q_loadp (v := .slice a ln c) sc_22 rfl (by repeat (first | exact Pick.here | apply Pick.there)) rfl) (Hp.le_refl _) (by repeat (first | exact Ent.nil _ | exact Ent.refl _ | (refine Ent.pick (by repeat (first | exact Pick.here | apply Pick.there)) ?_) | refine Ent.skip ?_)) (by kernel_rfl) ?_
    refine r_take (i := 2) (bs' := #[true, true, true, false, false, false, false]) rfl (by kernel_rfl) (by kernel_rfl) (by kernel_rfl) (fun _ _ _ h => h) rfl wn (q_move rfl) (Hp.le_refl _) (by repeat (first | exact Ent.nil _ | exact Ent.refl _ | (refine Ent.pick (by repeat (first | exact Pick.here | apply Pick.there)) ?_) | refine Ent.skip ?_)) (by kernel_rfl) ?_
    refine r_take (i := 3) (bs' := #[true, true, true, true, false, false, false]) rfl (by kernel_rfl) (by kernel_rfl) (by kernel_rfl) (fun _ _ _ h => h) rfl wn (q_cut_lo Try.underlying22 sz_5 rfl rfl (by omega) (by omega)) (Hp.le_refl _) (by repeat (first | exact Ent.nil _ | exact Ent.refl _ | (refine Ent.pick (by repeat (first | exact Pick.here | apply Pick.there)) ?_) | refine Ent.skip ?_)) (by kernel_rfl) ?_
    refine r_take (i := 4) (bs' := #[true, true, true, true, true, false, false]) rfl (by kernel_rfl) (by kernel_rfl) (by kernel_rfl) (fun _ _ _ h => h) rfl wn (q_len Try.underlying22 rfl) (Hp.le_refl _) (by repeat (first | exact Ent.nil _ | exact Ent.refl _ | (refine Ent.pick (by repeat (first | exact Pick.here | apply Pick.there)) ?_) | refine Ent.skip ?_)) (by kernel_rfl) ?_
    refine r_take (i := 5) (bs' := #[true, true, true, true, true, true, false]) rfl (by kernel_rfl) (by kernel_rfl) (by kernel_rfl) (fun _ _ _ h => h) rfl wn (q_min2 rfl rfl) (Hp.le_refl _) (by repeat (first | exact Ent.nil _ | exact Ent.refl _ | (refine Ent.pick (by repeat (first | exact Pick.here | apply Pick.there)) ?_) | refine Ent.skip ?_)) (by kernel_rfl) ?_
    refine r_take (i := 6) (bs' := #[true, true, true, true, true, true, true]) rfl (by kernel_rfl) (by kernel_rfl) (by kernel_rfl) (fun _ _ _ h => h) rfl wn (q_assign rfl) (Hp.le_refl _) (by repeat (first | exact Ent.nil _ | exact Ent.refl _ | (refine Ent.pick (by repeat (first | exact Pick.here | apply Pick.there)) ?_) | refine Ent.skip ?_)) (by kernel_rfl) ?_
    refine r_done (by kernel_rfl) ?_
    refine k_then_n ?_
    refine i_seq ?_
    refine i_region ?_
    refine li_step (.inl rfl) (s_q rfl wn (q_move rfl) ?_)
    refine li_step (.inl rfl) (s_q rfl wn (q_loadp (v := .slice a ln c) sc_22 rfl (by repeat (first | exact Pick.here | apply Pick.there)) rfl) ?_)
    refine li_step (.inl rfl) (s_q rfl wn (q_move rfl) ?_)
    refine li_step (.inl rfl) (s_q rfl wn (q_move rfl) ?_)
    refine li_step (.inl rfl) (s_q rfl wn (q_move rfl) ?_)
    refine li_step (.inl rfl) (s_q rfl wn (q_add rfl rfl (by omega) (by omega)) ?_)
    refine li_step (.inl rfl) (s_q rfl wn (q_move rfl) ?_)
    refine li_step (.inl rfl) (s_q rfl wn (q_move rfl) ?_)
    refine li_step (.inl rfl) (s_q rfl wn (q_add rfl rfl (by omega) (by omega)) ?_)
    refine li_step (.inl rfl) (s_q rfl wn (q_cut_3 Try.underlying22 sz_5 rfl rfl rfl rfl (by omega) (by omega) (by omega) (by omega)) ?_)
    have hk : x.d.1 < cdiv ln n := (lt_cdiv hn).2 (by omega)
    have hY' := hY x.d.1 (by rw [partsV_len]; exact hk) x.d.2
    rw [partsV_get] at hY'
    have hv : partV a ln n x.d.1 = [.slice (sh a ((((x.d.1 * n : Nat) : Int) + (if (((ln - (((x.d.1 * n : Nat) : Int)).toNat) : Nat) : Int) < (n : Int) then (((ln - (((x.d.1 * n : Nat) : Int)).toNat) : Nat) : Int) else (n : Int)))).toNat (((x.d.1 * n : Nat) : Int)).toNat 1) (((((x.d.1 * n : Nat) : Int) + (if (((ln - (((x.d.1 * n : Nat) : Int)).toNat) : Nat) : Int) < (n : Int) then (((ln - (((x.d.1 * n : Nat) : Int)).toNat) : Nat) : Int) else (n : Int)))).toNat - (((x.d.1 * n : Nat) : Int)).toNat) (((((x.d.1 * n : Nat) : Int) + (if (((ln - (((x.d.1 * n : Nat) : Int)).toNat) : Nat) : Int) < (n : Int) then (((ln - (((x.d.1 * n : Nat) : Int)).toNat) : Nat) : Int) else (n : Int)))).toNat - (((x.d.1 * n : Nat) : Int)).toNat)] := by simp only [partV, List.cons.injEq, and_true]; congr 1 <;> (try congr 1) <;> (split <;> omega)
    rw [hv] at hY'
    have hC := Ent.comm ([.pts bs [.slice a ln c] 22, .pts bn [.int .i64 (n : Int)] 3] : List Asn) (I x.d.1 x.d.2)
    rw [List.cons_append, List.cons_append, List.nil_append] at hC
    refine Tr.ent hC ?_
    refine i_yield rfl rfl rfl hY' (fun y => ?_) (fun st => ?_)
    · skip
      refine Tr.ent (Ent.comm (I (x.d.1 + 1) y) [.pts bs [.slice a ln c] 22, .pts bn [.int .i64 (n : Int)] 3]) ?_
      simp only [List.cons_append, List.nil_append]
      refine li_step (.inl rfl) (s_q rfl wn (q_not rfl) ?_)
      refine li_nil ?_
      refine k_then_n ?_
      refine i_no rfl ?_
      refine i_skip ?_
      refine k_blk_n ?_
      refine k_then_n ?_
      refine i_region ?_
      refine li_step (.inl rfl) (s_q rfl wn (q_move rfl) ?_)
      refine li_step (.inl rfl) (s_q rfl wn (q_loadp (v := .int .i64 (n : Int)) sc_3 rfl (by repeat (first | exact Pick.here | apply Pick.there)) rfl) ?_)
      refine li_step (.inl rfl) (s_q rfl wn (q_add rfl rfl (by omega) (by omega)) ?_)
      refine li_step (.inl rfl) (s_q rfl wn (q_assign rfl) ?_)
      refine li_nil ?_
      refine k_then_n ?_
      have hs1 := Nat.succ_mul x.d.1 n
      exact t_next (⟨(x.d.1 + 1, y), none, 0, none, 0, none, 0⟩ : Lp _) ⟨by simp only []; omega, by simp only []; omega⟩ (.cons rfl (by first | rfl | exact inte (by omega) | (simp; done) | (simp <;> omega) | simp [*]) (.cons rfl (by first | rfl | exact inte (by omega) | (simp; done) | (simp <;> omega) | simp [*]) (.cons rfl (by first | rfl | exact inte (by omega) | (simp; done) | (simp <;> omega) | simp [*]) (.cons rfl (by first | rfl | exact inte (by omega) | (simp; done) | (simp <;> omega) | simp [*]) (.nil _))))) (by repeat (first | exact Ent.nil _ | exact Ent.refl _ | (refine Ent.pick (by repeat (first | exact Pick.here | apply Pick.there)) ?_) | refine Ent.skip ?_))
    · skip
      refine li_step (.inl rfl) (s_q rfl wn (q_not rfl) ?_)
      refine li_nil ?_
      refine k_then_n ?_
      refine i_yes rfl ?_
      refine i_ret ?_
      refine k_blk_r ?_
      refine k_then_r ?_
      refine k_then_r ?_
      refine k_blk_r ?_
      exact t_iret rfl (fun w h => .inr ⟨st, h⟩)
  · (try dsimp only [heapOf] at h0); try simp only [Bool.and_eq_true, Bool.or_eq_true, Bool.not_eq_true', Bool.and_eq_false_iff, Bool.or_eq_false_iff, Bool.not_eq_false', decide_eq_true_eq, decide_eq_false_iff_not, Bool.not_eq_eq_eq_not, Bool.not_true, Bool.not_false, Bool.not_eq_true, Bool.not_eq_false, beq_iff_eq, bne_iff_ne, ne_eq, Decidable.not_not] at h0
    refine i_exit ?_
    refine k_then_x ?_
    refine k_then_x ?_
    refine k_blk_x ?_
    refine k_body_n ?_
    have hk : x.d.1 = (partsV a ln n).length := by rw [partsV_len]; have := (lt_cdiv (l := ln) (k := x.d.1) hn); have := hx; omega
    rw [← hk]
    exact t_iret rfl (fun w h => .inl ⟨x.d.2, h.ent (Ent.comm [.pts bs [.slice a ln c] 22, .pts bn [.int .i64 (n : Int)] 3] (I x.d.1 x.d.2))⟩)

theorem sof_spec (b n cap : Nat) (a : Option Addr) (xs : List UInt8) (hn : xs.length = n) (hl : xs.length ≤ 1000000000000) (ρ : Hp) (h1 : Ro ρ 1 (some ⟨b, 0, none⟩) 1 1 ([(⟨a, n, cap⟩ : SH)].flatMap encSH)) (h2 : Ro ρ 1 a n cap (xs.flatMap encB)) : Spec0 Try.prog 15 #[.slice (some ⟨b, 0, none⟩) 1 1] ρ [] (fun v Γ' => v = .int .u32 ((sumB xs).toNat : Int) ∧ Γ' = []) := by
  have := Go.Sum.of_spec (some ⟨b, 0, none⟩) 1 [⟨a, cap, xs⟩] ρ [] (by simp) (by simpa using hl) ⟨fun _ => rd_ro (by subst hn; exact h1), fun t ht => by simp only [List.mem_singleton] at ht; subst ht; exact fun _ => rd_ro (by subst hn; exact h2)⟩
  simp only [List.flatMap_cons, List.flatMap_nil, List.append_nil] at this
  exact spec0_flip this

theorem cut_spec (mark : Mark) (s_a : Option Addr) (s_n s_c : Nat) (s : List UInt8) (hs_n : s.length = s_n) (size : Int) (ρ : Hp) (hl : s_n ≤ 1000000000) (hro : Ro ρ 1 s_a s_n s_c (s.flatMap encB)) : Spec0 Try.prog 37 #[.agg (encMark mark).toArray, .slice s_a s_n s_c, .int .i64 size] ρ [] (fun v Γ' => ∃ a c, ∃ ps : List Piece, v = .tuple #[.slice a ps.length c, .int .i64 (cutE mark size)] ∧ ps.map pd = cutG mark s size ∧ Γ' = [.row 95 6 a ps.length c (ps.flatMap encPiece), Bun (ps.map (rowP 5))]) := by
  refine spec_ofM (n := 51) (vs := [_, _, _]) (σ := [(0, _), (1, _), (2, _)]) Try.func37 rfl rfl rfl rfl fun E Δ => ?_
  rw [List.nil_append]
  refine c_seq ?_
  refine c_region ?_
  refine l_step (s_s rfl wn (s_box (cs := encMark mark) rfl rfl) ?_)
  rintro _ _ ⟨b3, rfl, rfl⟩
  refine l_step (s_q rfl wn (q_assign rfl) ?_)
  refine l_step (s_q rfl wn (q_assign rfl) ?_)
  refine l_nil ?_
  refine k_then_n ?_
  refine c_seq ?_
  refine c_seq ?_
  refine c_region ?_
  refine l_step (s_q rfl wn (q_loadpa (vs := encMark mark) ag_87 rfl (by repeat (first | exact Pick.here | apply Pick.there)) rfl) ?_)
  refine l_step (s_fnq rfl wn Try.func64 rfl (by kernel_rfl) rfl (fun ρ' hL => right_spec mark ρ') ?_)
  refine l_step (s_q rfl wn (q_not rfl) ?_)
  refine l_step (s_q rfl wn (q_move rfl) ?_)
  refine l_step (s_qg rfl (ask_f rfl rfl) (b := (!(!(rightB mark)))) (fun hb => q_move rfl) ?_)
  refine l_step (s_qg rfl (ask_f rfl rfl) (b := (!(!(rightB mark)))) (fun hb => OpQ.env (.cons rfl (gd_t hb) (.nil _) : EnvLe [(15, .int .i64 size)] _) (q_lss rfl rfl)) ?_)
  refine l_step (s_q rfl wn (q_pick_or rfl rfl rfl (fun h => by first | (rw [h]; rfl) | exact congrArg not h)) ?_)
  refine l_nil ?_
  refine k_then_n ?_
  refine c_cond rfl (fun h0 => ?_) (fun h0 => ?_)
  · (try dsimp only [heapOf] at h0); try simp only [Bool.and_eq_true, Bool.or_eq_true, Bool.not_eq_true', Bool.and_eq_false_iff, Bool.or_eq_false_iff, Bool.not_eq_false', decide_eq_true_eq, decide_eq_false_iff_not, Bool.not_eq_eq_eq_not, Bool.not_true, Bool.not_false, Bool.not_eq_true, Bool.not_eq_false, beq_iff_eq, bne_iff_ne, ne_eq, Decidable.not_not] at h0
    refine c_seq ?_
    refine c_region ?_
    refine l_step (s_q rfl wn (q_assign rfl) ?_)
    refine l_step (s_q rfl wn (q_assign rfl) ?_)
    refine l_nil ?_
    refine k_then_n ?_
    refine c_ret ?_
    refine k_then_r ?_
    have hok : cutOk mark size = false := by unfold cutOk; exact h0.elim (fun h => by rw [h]; rfl) (fun h => by rw [decide_eq_false (p := 1 ≤ size) (by omega), Bool.and_false])
    refine Tr.ent (Ent.trans (bun_nil _) (Ent.nilrow 95 6 _)) ?_
    exact t_retM0 [.row 95 6 none 0 0 [], Bun []] rfl (.tmp rfl (.tmp rfl .nil)) rfl (Hp.le_refl _) ⟨rfl, none, 0, [], (by unfold cutE; rw [hok]; rfl), (by unfold cutG; rw [hok]; rfl), rfl⟩ (by repeat (first | exact Ent.nil _ | exact Ent.refl _ | (refine Ent.pick (by repeat (first | exact Pick.here | apply Pick.there)) ?_) | refine Ent.skip ?_))
  · (try dsimp only [heapOf] at h0); try simp only [Bool.and_eq_true, Bool.or_eq_true, Bool.not_eq_true', Bool.and_eq_false_iff, Bool.or_eq_false_iff, Bool.not_eq_false', decide_eq_true_eq, decide_eq_false_iff_not, Bool.not_eq_eq_eq_not, Bool.not_true, Bool.not_false, Bool.not_eq_true, Bool.not_eq_false, beq_iff_eq, bne_iff_ne, ne_eq, Decidable.not_not] at h0
    refine c_skip ?_
    refine k_then_n ?_
    refine c_seq ?_
    refine t_cutq (ι := Nat) (fun x8 => True) (fun x8 => [(1, .slice s_a s_n s_c), (2, .int .i64 size), (6, .slice none 0 0), (7, .int .i64 0), (8, .pointer (some ⟨x8, 0, none⟩))]) (fun x8 => .pts x8 (encPiece (⟨mark, (sumB s), (s_n : Int), 0, ⟨none, [], 0⟩⟩ : Piece)) 95 :: .pts b3 (encMark mark) 87 :: Δ) ?_ ?_
    · skip
      refine c_draw (m := 9) (bs := #[false, false, false, false, false, false, false, false, false]) [] (by kernel_rfl) rfl (by kernel_rfl) ?_
      refine r_take (i := 1) (bs' := #[false, true, false, false, false, false, false, false, false]) rfl (by kernel_rfl) (by kernel_rfl) (by kernel_rfl) (fun _ _ _ h => h) rfl wn (q_move rfl) (Hp.le_refl _) (by repeat (first | exact Ent.nil _ | exact Ent.refl _ | (refine Ent.pick (by repeat (first | exact Pick.here | apply Pick.there)) ?_) | refine Ent.skip ?_)) (by kernel_rfl) ?_
      refine r_take (i := 4) (bs' := #[false, true, false, false, true, false, false, false, false]) rfl (by kernel_rfl) (by kernel_rfl) (by kernel_rfl) (fun _ _ _ h => h) rfl wn (q_move rfl) (Hp.le_refl _) (by repeat (first | exact Ent.nil _ | exact Ent.refl _ | (refine Ent.pick (by repeat (first | exact Pick.here | apply Pick.there)) ?_) | refine Ent.skip ?_)) (by kernel_rfl) ?_
      refine r_take (i := 5) (bs' := #[false, true, false, false, true, true, false, false, false]) rfl (by kernel_rfl) (by kernel_rfl) (by kernel_rfl) (fun _ _ _ h => h) rfl wn (q_len Try.underlying22 rfl) (Hp.le_refl _) (by repeat (first | exact Ent.nil _ | exact Ent.refl _ | (refine Ent.pick (by repeat (first | exact Pick.here | apply Pick.there)) ?_) | refine Ent.skip ?_)) (by kernel_rfl) ?_
      refine r_three (i := 0) (j := 2) (l := 7) (bi := #[true, true, false, false, true, true, false, false, false]) (bj := #[false, true, true, false, true, true, false, false, false]) (bl := #[false, true, false, false, true, true, false, true, false]) (by kernel_rfl) (by kernel_rfl) (by kernel_rfl) (by kernel_rfl) ?_ ?_ ?_
      · skip
        refine o_step rfl (s_q rfl wn (q_loadpa (vs := encMark mark) ag_87 rfl (by repeat (first | exact Pick.here | apply Pick.there)) rfl) ?_)
        refine r_cont (Hp.le_refl _) (by repeat (first | exact Ent.nil _ | exact Ent.refl _ | (refine Ent.pick (by repeat (first | exact Pick.here | apply Pick.there)) ?_) | refine Ent.skip ?_)) ?_
        refine r_two (i := 2) (j := 7) (bi := #[true, true, true, false, true, true, false, false, false]) (bj := #[true, true, false, false, true, true, false, true, false]) (by kernel_rfl) (by kernel_rfl) (by kernel_rfl) ?_ ?_
        · skip
          refine o_step rfl (s_s rfl wn (s_buildSlice (cs := ([⟨s_a, s_n, s_c⟩] : List SH).flatMap encSH) Try.underlying32 eo_22 rfl rfl rfl rfl (by decide) (by decide)) ?_)
          rintro _ _ ⟨b20, rfl, rfl⟩
          refine r_cont (Hp.le_refl _) (by repeat (first | exact Ent.nil _ | exact Ent.refl _ | (refine Ent.pick (by repeat (first | exact Pick.here | apply Pick.there)) ?_) | refine Ent.skip ?_)) ?_
          refine r_two (i := 3) (j := 7) (bi := #[true, true, true, true, true, true, false, false, false]) (bj := #[true, true, true, false, true, true, false, true, false]) (by kernel_rfl) (by kernel_rfl) (by kernel_rfl) ?_ ?_
          · skip
            refine o_step rfl (s_fnq rfl wn Try.func15 rfl (by kernel_rfl) rfl (fun ρ' hL => sof_spec b20 s_n s_c s_a s hs_n (by omega) ρ' (hL.row (by repeat (first | exact Pick.here | apply Pick.there))) (hL.ro hro)) ?_)
            refine r_cont (Hp.le_refl _) (by repeat (first | exact Ent.nil _ | exact Ent.refl _ | (refine Ent.pick (by repeat (first | exact Pick.here | apply Pick.there)) ?_) | refine Ent.skip ?_)) ?_
            refine r_take (i := 6) (bs' := #[true, true, true, true, true, true, true, false, false]) rfl (by kernel_rfl) (by kernel_rfl) (by kernel_rfl) (fun _ _ _ h => h) rfl wn (q_build (cs := encPiece (⟨mark, (sumB s), (s_n : Int), 0, ⟨none, [], 0⟩⟩ : Piece)) zc_95 pl_95 rfl rfl) (Hp.le_refl _) (by repeat (first | exact Ent.nil _ | exact Ent.refl _ | (refine Ent.pick (by repeat (first | exact Pick.here | apply Pick.there)) ?_) | refine Ent.skip ?_)) (by kernel_rfl) ?_
            refine r_one (i := 7) (bs' := #[true, true, true, true, true, true, true, true, false]) (by kernel_rfl) (by kernel_rfl) ?_
            refine o_step rfl (s_s rfl wn (s_allocz (cs := encPiece zPiece) (by kernel_rfl)) ?_)
            rintro _ _ ⟨b8, rfl, rfl⟩
            refine r_cont (Hp.le_refl _) (by repeat (first | exact Ent.nil _ | exact Ent.refl _ | (refine Ent.pick (by repeat (first | exact Pick.here | apply Pick.there)) ?_) | refine Ent.skip ?_)) ?_
            refine r_one (i := 8) (bs' := #[true, true, true, true, true, true, true, true, true]) (by kernel_rfl) (by kernel_rfl) ?_
            refine o_step rfl (s_s0 wn (s_storep (ws := encPiece (⟨mark, (sumB s), (s_n : Int), 0, ⟨none, [], 0⟩⟩ : Piece)) (cs := encPiece zPiece) (cs' := encPiece (⟨mark, (sumB s), (s_n : Int), 0, ⟨none, [], 0⟩⟩ : Piece)) rfl rfl rfl sz_95 (onePiece _) (by simp [encPiece, encPiece]) rfl (by repeat (first | exact Pick.here | apply Pick.there))) ?_)
            rintro _ _ ⟨rfl, rfl⟩
            refine r_cont (Hp.le_refl _) (by repeat (first | exact Ent.nil _ | exact Ent.refl _ | (refine Ent.pick (by repeat (first | exact Pick.here | apply Pick.there)) ?_) | refine Ent.skip ?_)) ?_
            refine r_done (by kernel_rfl) ?_
            refine k_then_n ?_
            exact t_next b8 trivial (.cons rfl (by first | rfl | exact inte (by omega) | (simp; done) | (simp <;> omega) | simp [*]) (.cons rfl (by first | rfl | exact inte (by omega) | (simp; done) | (simp <;> omega) | simp [*]) (.cons rfl (by first | rfl | exact inte (by omega) | (simp; done) | (simp <;> omega) | simp [*]) (.cons rfl (by first | rfl | exact inte (by omega) | (simp; done) | (simp <;> omega) | simp [*]) (.cons rfl (by first | rfl | exact inte (by omega) | (simp; done) | (simp <;> omega) | simp [*]) (.nil _)))))) (by repeat (first | exact Ent.nil _ | exact Ent.refl _ | (refine Ent.pick (by repeat (first | exact Pick.here | apply Pick.there)) ?_) | refine Ent.skip ?_))
          · skip
            refine o_step rfl (s_s rfl wn (s_allocz (cs := encPiece zPiece) (by kernel_rfl)) ?_)
            rintro _ _ ⟨b8, rfl, rfl⟩
            refine r_cont (Hp.le_refl _) (by repeat (first | exact Ent.nil _ | exact Ent.refl _ | (refine Ent.pick (by repeat (first | exact Pick.here | apply Pick.there)) ?_) | refine Ent.skip ?_)) ?_
            refine r_one (i := 3) (bs' := #[true, true, true, true, true, true, false, true, false]) (by kernel_rfl) (by kernel_rfl) ?_
            refine o_step rfl (s_fnq rfl wn Try.func15 rfl (by kernel_rfl) rfl (fun ρ' hL => sof_spec b20 s_n s_c s_a s hs_n (by omega) ρ' (hL.row (by repeat (first | exact Pick.here | apply Pick.there))) (hL.ro hro)) ?_)
            refine r_cont (Hp.le_refl _) (by repeat (first | exact Ent.nil _ | exact Ent.refl _ | (refine Ent.pick (by repeat (first | exact Pick.here | apply Pick.there)) ?_) | refine Ent.skip ?_)) ?_
            refine r_take (i := 6) (bs' := #[true, true, true, true, true, true, true, true, false]) rfl (by kernel_rfl) (by kernel_rfl) (by kernel_rfl) (fun _ _ _ h => h) rfl wn (q_build (cs := encPiece (⟨mark, (sumB s), (s_n : Int), 0, ⟨none, [], 0⟩⟩ : Piece)) zc_95 pl_95 rfl rfl) (Hp.le_refl _) (by repeat (first | exact Ent.nil _ | exact Ent.refl _ | (refine Ent.pick (by repeat (first | exact Pick.here | apply Pick.there)) ?_) | refine Ent.skip ?_)) (by kernel_rfl) ?_
            refine r_one (i := 8) (bs' := #[true, true, true, true, true, true, true, true, true]) (by kernel_rfl) (by kernel_rfl) ?_
            refine o_step rfl (s_s0 wn (s_storep (ws := encPiece (⟨mark, (sumB s), (s_n : Int), 0, ⟨none, [], 0⟩⟩ : Piece)) (cs := encPiece zPiece) (cs' := encPiece (⟨mark, (sumB s), (s_n : Int), 0, ⟨none, [], 0⟩⟩ : Piece)) rfl rfl rfl sz_95 (onePiece _) (by simp [encPiece, encPiece]) rfl (by repeat (first | exact Pick.here | apply Pick.there))) ?_)
            rintro _ _ ⟨rfl, rfl⟩
            refine r_cont (Hp.le_refl _) (by repeat (first | exact Ent.nil _ | exact Ent.refl _ | (refine Ent.pick (by repeat (first | exact Pick.here | apply Pick.there)) ?_) | refine Ent.skip ?_)) ?_
            refine r_done (by kernel_rfl) ?_
            refine k_then_n ?_
            exact t_next b8 trivial (.cons rfl (by first | rfl | exact inte (by omega) | (simp; done) | (simp <;> omega) | simp [*]) (.cons rfl (by first | rfl | exact inte (by omega) | (simp; done) | (simp <;> omega) | simp [*]) (.cons rfl (by first | rfl | exact inte (by omega) | (simp; done) | (simp <;> omega) | simp [*]) (.cons rfl (by first | rfl | exact inte (by omega) | (simp; done) | (simp <;> omega) | simp [*]) (.cons rfl (by first | rfl | exact inte (by omega) | (simp; done) | (simp <;> omega) | simp [*]) (.nil _)))))) (by repeat (first | exact Ent.nil _ | exact Ent.refl _ | (refine Ent.pick (by repeat (first | exact Pick.here | apply Pick.there)) ?_) | refine Ent.skip ?_))
        · skip
          refine o_step rfl (s_s rfl wn (s_allocz (cs := encPiece zPiece) (by kernel_rfl)) ?_)
          rintro _ _ ⟨b8, rfl, rfl⟩
          refine r_cont (Hp.le_refl _) (by repeat (first | exact Ent.nil _ | exact Ent.refl _ | (refine Ent.pick (by repeat (first | exact Pick.here | apply Pick.there)) ?_) | refine Ent.skip ?_)) ?_
          refine r_one (i := 2) (bs' := #[true, true, true, false, true, true, false, true, false]) (by kernel_rfl) (by kernel_rfl) ?_
          refine o_step rfl (s_s rfl wn (s_buildSlice (cs := ([⟨s_a, s_n, s_c⟩] : List SH).flatMap encSH) Try.underlying32 eo_22 rfl rfl rfl rfl (by decide) (by decide)) ?_)
          rintro _ _ ⟨b20, rfl, rfl⟩
          refine r_cont (Hp.le_refl _) (by repeat (first | exact Ent.nil _ | exact Ent.refl _ | (refine Ent.pick (by repeat (first | exact Pick.here | apply Pick.there)) ?_) | refine Ent.skip ?_)) ?_
          refine r_one (i := 3) (bs' := #[true, true, true, true, true, true, false, true, false]) (by kernel_rfl) (by kernel_rfl) ?_
          refine o_step rfl (s_fnq rfl wn Try.func15 rfl (by kernel_rfl) rfl (fun ρ' hL => sof_spec b20 s_n s_c s_a s hs_n (by omega) ρ' (hL.row (by repeat (first | exact Pick.here | apply Pick.there))) (hL.ro hro)) ?_)
          refine r_cont (Hp.le_refl _) (by repeat (first | exact Ent.nil _ | exact Ent.refl _ | (refine Ent.pick (by repeat (first | exact Pick.here | apply Pick.there)) ?_) | refine Ent.skip ?_)) ?_
          refine r_take (i := 6) (bs' := #[true, true, true, true, true, true, true, true, false]) rfl (by kernel_rfl) (by kernel_rfl) (by kernel_rfl) (fun _ _ _ h => h) rfl wn (q_build (cs := encPiece (⟨mark, (sumB s), (s_n : Int), 0, ⟨none, [], 0⟩⟩ : Piece)) zc_95 pl_95 rfl rfl) (Hp.le_refl _) (by repeat (first | exact Ent.nil _ | exact Ent.refl _ | (refine Ent.pick (by repeat (first | exact Pick.here | apply Pick.there)) ?_) | refine Ent.skip ?_)) (by kernel_rfl) ?_
          refine r_one (i := 8) (bs' := #[true, true, true, true, true, true, true, true, true]) (by kernel_rfl) (by kernel_rfl) ?_
          refine o_step rfl (s_s0 wn (s_storep (ws := encPiece (⟨mark, (sumB s), (s_n : Int), 0, ⟨none, [], 0⟩⟩ : Piece)) (cs := encPiece zPiece) (cs' := encPiece (⟨mark, (sumB s), (s_n : Int), 0, ⟨none, [], 0⟩⟩ : Piece)) rfl rfl rfl sz_95 (onePiece _) (by simp [encPiece, encPiece]) rfl (by repeat (first | exact Pick.here | apply Pick.there))) ?_)
          rintro _ _ ⟨rfl, rfl⟩
          refine r_cont (Hp.le_refl _) (by repeat (first | exact Ent.nil _ | exact Ent.refl _ | (refine Ent.pick (by repeat (first | exact Pick.here | apply Pick.there)) ?_) | refine Ent.skip ?_)) ?_
          refine r_done (by kernel_rfl) ?_
          refine k_then_n ?_
          exact t_next b8 trivial (.cons rfl (by first | rfl | exact inte (by omega) | (simp; done) | (simp <;> omega) | simp [*]) (.cons rfl (by first | rfl | exact inte (by omega) | (simp; done) | (simp <;> omega) | simp [*]) (.cons rfl (by first | rfl | exact inte (by omega) | (simp; done) | (simp <;> omega) | simp [*]) (.cons rfl (by first | rfl | exact inte (by omega) | (simp; done) | (simp <;> omega) | simp [*]) (.cons rfl (by first | rfl | exact inte (by omega) | (simp; done) | (simp <;> omega) | simp [*]) (.nil _)))))) (by repeat (first | exact Ent.nil _ | exact Ent.refl _ | (refine Ent.pick (by repeat (first | exact Pick.here | apply Pick.there)) ?_) | refine Ent.skip ?_))
      · skip
        refine o_step rfl (s_s rfl wn (s_buildSlice (cs := ([⟨s_a, s_n, s_c⟩] : List SH).flatMap encSH) Try.underlying32 eo_22 rfl rfl rfl rfl (by decide) (by decide)) ?_)
        rintro _ _ ⟨b20, rfl, rfl⟩
        refine r_cont (Hp.le_refl _) (by repeat (first | exact Ent.nil _ | exact Ent.refl _ | (refine Ent.pick (by repeat (first | exact Pick.here | apply Pick.there)) ?_) | refine Ent.skip ?_)) ?_
        refine r_three (i := 0) (j := 3) (l := 7) (bi := #[true, true, true, false, true, true, false, false, false]) (bj := #[false, true, true, true, true, true, false, false, false]) (bl := #[false, true, true, false, true, true, false, true, false]) (by kernel_rfl) (by kernel_rfl) (by kernel_rfl) (by kernel_rfl) ?_ ?_ ?_
        · skip
          refine o_step rfl (s_q rfl wn (q_loadpa (vs := encMark mark) ag_87 rfl (by repeat (first | exact Pick.here | apply Pick.there)) rfl) ?_)
          refine r_cont (Hp.le_refl _) (by repeat (first | exact Ent.nil _ | exact Ent.refl _ | (refine Ent.pick (by repeat (first | exact Pick.here | apply Pick.there)) ?_) | refine Ent.skip ?_)) ?_
          refine r_two (i := 3) (j := 7) (bi := #[true, true, true, true, true, true, false, false, false]) (bj := #[true, true, true, false, true, true, false, true, false]) (by kernel_rfl) (by kernel_rfl) (by kernel_rfl) ?_ ?_
          · skip
            refine o_step rfl (s_fnq rfl wn Try.func15 rfl (by kernel_rfl) rfl (fun ρ' hL => sof_spec b20 s_n s_c s_a s hs_n (by omega) ρ' (hL.row (by repeat (first | exact Pick.here | apply Pick.there))) (hL.ro hro)) ?_)
            refine r_cont (Hp.le_refl _) (by repeat (first | exact Ent.nil _ | exact Ent.refl _ | (refine Ent.pick (by repeat (first | exact Pick.here | apply Pick.there)) ?_) | refine Ent.skip ?_)) ?_
            refine r_take (i := 6) (bs' := #[true, true, true, true, true, true, true, false, false]) rfl (by kernel_rfl) (by kernel_rfl) (by kernel_rfl) (fun _ _ _ h => h) rfl wn (q_build (cs := encPiece (⟨mark, (sumB s), (s_n : Int), 0, ⟨none, [], 0⟩⟩ : Piece)) zc_95 pl_95 rfl rfl) (Hp.le_refl _) (by repeat (first | exact Ent.nil _ | exact Ent.refl _ | (refine Ent.pick (by repeat (first | exact Pick.here | apply Pick.there)) ?_) | refine Ent.skip ?_)) (by kernel_rfl) ?_
            refine r_one (i := 7) (bs' := #[true, true, true, true, true, true, true, true, false]) (by kernel_rfl) (by kernel_rfl) ?_
            refine o_step rfl (s_s rfl wn (s_allocz (cs := encPiece zPiece) (by kernel_rfl)) ?_)
            rintro _ _ ⟨b8, rfl, rfl⟩
            refine r_cont (Hp.le_refl _) (by repeat (first | exact Ent.nil _ | exact Ent.refl _ | (refine Ent.pick (by repeat (first | exact Pick.here | apply Pick.there)) ?_) | refine Ent.skip ?_)) ?_
            refine r_one (i := 8) (bs' := #[true, true, true, true, true, true, true, true, true]) (by kernel_rfl) (by kernel_rfl) ?_
            refine o_step rfl (s_s0 wn (s_storep (ws := encPiece (⟨mark, (sumB s), (s_n : Int), 0, ⟨none, [], 0⟩⟩ : Piece)) (cs := encPiece zPiece) (cs' := encPiece (⟨mark, (sumB s), (s_n : Int), 0, ⟨none, [], 0⟩⟩ : Piece)) rfl rfl rfl sz_95 (onePiece _) (by simp [encPiece, encPiece]) rfl (by repeat (first | exact Pick.here | apply Pick.there))) ?_)
            rintro _ _ ⟨rfl, rfl⟩
            refine r_cont (Hp.le_refl _) (by repeat (first | exact Ent.nil _ | exact Ent.refl _ | (refine Ent.pick (by repeat (first | exact Pick.here | apply Pick.there)) ?_) | refine Ent.skip ?_)) ?_
            refine r_done (by kernel_rfl) ?_
            refine k_then_n ?_
            exact t_next b8 trivial (.cons rfl (by first | rfl | exact inte (by omega) | (simp; done) | (simp <;> omega) | simp [*]) (.cons rfl (by first | rfl | exact inte (by omega) | (simp; done) | (simp <;> omega) | simp [*]) (.cons rfl (by first | rfl | exact inte (by omega) | (simp; done) | (simp <;> omega) | simp [*]) (.cons rfl (by first | rfl | exact inte (by omega) | (simp; done) | (simp <;> omega) | simp [*]) (.cons rfl (by first | rfl | exact inte (by omega) | (simp; done) | (simp <;> omega) | simp [*]) (.nil _)))))) (by repeat (first | exact Ent.nil _ | exact Ent.refl _ | (refine Ent.pick (by repeat (first | exact Pick.here | apply Pick.there)) ?_) | refine Ent.skip ?_))
          · skip
            refine o_step rfl (s_s rfl wn (s_allocz (cs := encPiece zPiece) (by kernel_rfl)) ?_)
            rintro _ _ ⟨b8, rfl, rfl⟩
            refine r_cont (Hp.le_refl _) (by repeat (first | exact Ent.nil _ | exact Ent.refl _ | (refine Ent.pick (by repeat (first | exact Pick.here | apply Pick.there)) ?_) | refine Ent.skip ?_)) ?_
            refine r_one (i := 3) (bs' := #[true, true, true, true, true, true, false, true, false]) (by kernel_rfl) (by kernel_rfl) ?_
            refine o_step rfl (s_fnq rfl wn Try.func15 rfl (by kernel_rfl) rfl (fun ρ' hL => sof_spec b20 s_n s_c s_a s hs_n (by omega) ρ' (hL.row (by repeat (first | exact Pick.here | apply Pick.there))) (hL.ro hro)) ?_)
            refine r_cont (Hp.le_refl _) (by repeat (first | exact Ent.nil _ | exact Ent.refl _ | (refine Ent.pick (by repeat (first | exact Pick.here | apply Pick.there)) ?_) | refine Ent.skip ?_)) ?_
            refine r_take (i := 6) (bs' := #[true, true, true, true, true, true, true, true, false]) rfl (by kernel_rfl) (by kernel_rfl) (by kernel_rfl) (fun _ _ _ h => h) rfl wn (q_build (cs := encPiece (⟨mark, (sumB s), (s_n : Int), 0, ⟨none, [], 0⟩⟩ : Piece)) zc_95 pl_95 rfl rfl) (Hp.le_refl _) (by repeat (first | exact Ent.nil _ | exact Ent.refl _ | (refine Ent.pick (by repeat (first | exact Pick.here | apply Pick.there)) ?_) | refine Ent.skip ?_)) (by kernel_rfl) ?_
            refine r_one (i := 8) (bs' := #[true, true, true, true, true, true, true, true, true]) (by kernel_rfl) (by kernel_rfl) ?_
            refine o_step rfl (s_s0 wn (s_storep (ws := encPiece (⟨mark, (sumB s), (s_n : Int), 0, ⟨none, [], 0⟩⟩ : Piece)) (cs := encPiece zPiece) (cs' := encPiece (⟨mark, (sumB s), (s_n : Int), 0, ⟨none, [], 0⟩⟩ : Piece)) rfl rfl rfl sz_95 (onePiece _) (by simp [encPiece, encPiece]) rfl (by repeat (first | exact Pick.here | apply Pick.there))) ?_)
            rintro _ _ ⟨rfl, rfl⟩
            refine r_cont (Hp.le_refl _) (by repeat (first | exact Ent.nil _ | exact Ent.refl _ | (refine Ent.pick (by repeat (first | exact Pick.here | apply Pick.there)) ?_) | refine Ent.skip ?_)) ?_
            refine r_done (by kernel_rfl) ?_
            refine k_then_n ?_
            exact t_next b8 trivial (.cons rfl (by first | rfl | exact inte (by omega) | (simp; done) | (simp <;> omega) | simp [*]) (.cons rfl (by first | rfl | exact inte (by omega) | (simp; done) | (simp <;> omega) | simp [*]) (.cons rfl (by first | rfl | exact inte (by omega) | (simp; done) | (simp <;> omega) | simp [*]) (.cons rfl (by first | rfl | exact inte (by omega) | (simp; done) | (simp <;> omega) | simp [*]) (.cons rfl (by first | rfl | exact inte (by omega) | (simp; done) | (simp <;> omega) | simp [*]) (.nil _)))))) (by repeat (first | exact Ent.nil _ | exact Ent.refl _ | (refine Ent.pick (by repeat (first | exact Pick.here | apply Pick.there)) ?_) | refine Ent.skip ?_))
        · skip
          refine o_step rfl (s_fnq rfl wn Try.func15 rfl (by kernel_rfl) rfl (fun ρ' hL => sof_spec b20 s_n s_c s_a s hs_n (by omega) ρ' (hL.row (by repeat (first | exact Pick.here | apply Pick.there))) (hL.ro hro)) ?_)
          refine r_cont (Hp.le_refl _) (by repeat (first | exact Ent.nil _ | exact Ent.refl _ | (refine Ent.pick (by repeat (first | exact Pick.here | apply Pick.there)) ?_) | refine Ent.skip ?_)) ?_
          refine r_two (i := 0) (j := 7) (bi := #[true, true, true, true, true, true, false, false, false]) (bj := #[false, true, true, true, true, true, false, true, false]) (by kernel_rfl) (by kernel_rfl) (by kernel_rfl) ?_ ?_
          · skip
            refine o_step rfl (s_q rfl wn (q_loadpa (vs := encMark mark) ag_87 rfl (by repeat (first | exact Pick.here | apply Pick.there)) rfl) ?_)
            refine r_cont (Hp.le_refl _) (by repeat (first | exact Ent.nil _ | exact Ent.refl _ | (refine Ent.pick (by repeat (first | exact Pick.here | apply Pick.there)) ?_) | refine Ent.skip ?_)) ?_
            refine r_take (i := 6) (bs' := #[true, true, true, true, true, true, true, false, false]) rfl (by kernel_rfl) (by kernel_rfl) (by kernel_rfl) (fun _ _ _ h => h) rfl wn (q_build (cs := encPiece (⟨mark, (sumB s), (s_n : Int), 0, ⟨none, [], 0⟩⟩ : Piece)) zc_95 pl_95 rfl rfl) (Hp.le_refl _) (by repeat (first | exact Ent.nil _ | exact Ent.refl _ | (refine Ent.pick (by repeat (first | exact Pick.here | apply Pick.there)) ?_) | refine Ent.skip ?_)) (by kernel_rfl) ?_
            refine r_one (i := 7) (bs' := #[true, true, true, true, true, true, true, true, false]) (by kernel_rfl) (by kernel_rfl) ?_
            refine o_step rfl (s_s rfl wn (s_allocz (cs := encPiece zPiece) (by kernel_rfl)) ?_)
            rintro _ _ ⟨b8, rfl, rfl⟩
            refine r_cont (Hp.le_refl _) (by repeat (first | exact Ent.nil _ | exact Ent.refl _ | (refine Ent.pick (by repeat (first | exact Pick.here | apply Pick.there)) ?_) | refine Ent.skip ?_)) ?_
            refine r_one (i := 8) (bs' := #[true, true, true, true, true, true, true, true, true]) (by kernel_rfl) (by kernel_rfl) ?_
            refine o_step rfl (s_s0 wn (s_storep (ws := encPiece (⟨mark, (sumB s), (s_n : Int), 0, ⟨none, [], 0⟩⟩ : Piece)) (cs := encPiece zPiece) (cs' := encPiece (⟨mark, (sumB s), (s_n : Int), 0, ⟨none, [], 0⟩⟩ : Piece)) rfl rfl rfl sz_95 (onePiece _) (by simp [encPiece, encPiece]) rfl (by repeat (first | exact Pick.here | apply Pick.there))) ?_)
            rintro _ _ ⟨rfl, rfl⟩
            refine r_cont (Hp.le_refl _) (by repeat (first | exact Ent.nil _ | exact Ent.refl _ | (refine Ent.pick (by repeat (first | exact Pick.here | apply Pick.there)) ?_) | refine Ent.skip ?_)) ?_
            refine r_done (by kernel_rfl) ?_
            refine k_then_n ?_
            exact t_next b8 trivial (.cons rfl (by first | rfl | exact inte (by omega) | (simp; done) | (simp <;> omega) | simp [*]) (.cons rfl (by first | rfl | exact inte (by omega) | (simp; done) | (simp <;> omega) | simp [*]) (.cons rfl (by first | rfl | exact inte (by omega) | (simp; done) | (simp <;> omega) | simp [*]) (.cons rfl (by first | rfl | exact inte (by omega) | (simp; done) | (simp <;> omega) | simp [*]) (.cons rfl (by first | rfl | exact inte (by omega) | (simp; done) | (simp <;> omega) | simp [*]) (.nil _)))))) (by repeat (first | exact Ent.nil _ | exact Ent.refl _ | (refine Ent.pick (by repeat (first | exact Pick.here | apply Pick.there)) ?_) | refine Ent.skip ?_))
          · skip
            refine o_step rfl (s_s rfl wn (s_allocz (cs := encPiece zPiece) (by kernel_rfl)) ?_)
            rintro _ _ ⟨b8, rfl, rfl⟩
            refine r_cont (Hp.le_refl _) (by repeat (first | exact Ent.nil _ | exact Ent.refl _ | (refine Ent.pick (by repeat (first | exact Pick.here | apply Pick.there)) ?_) | refine Ent.skip ?_)) ?_
            refine r_one (i := 0) (bs' := #[true, true, true, true, true, true, false, true, false]) (by kernel_rfl) (by kernel_rfl) ?_
            refine o_step rfl (s_q rfl wn (q_loadpa (vs := encMark mark) ag_87 rfl (by repeat (first | exact Pick.here | apply Pick.there)) rfl) ?_)
            refine r_cont (Hp.le_refl _) (by repeat (first | exact Ent.nil _ | exact Ent.refl _ | (refine Ent.pick (by repeat (first | exact Pick.here | apply Pick.there)) ?_) | refine Ent.skip ?_)) ?_
            refine r_take (i := 6) (bs' := #[true, true, true, true, true, true, true, true, false]) rfl (by kernel_rfl) (by kernel_rfl) (by kernel_rfl) (fun _ _ _ h => h) rfl wn (q_build (cs := encPiece (⟨mark, (sumB s), (s_n : Int), 0, ⟨none, [], 0⟩⟩ : Piece)) zc_95 pl_95 rfl rfl) (Hp.le_refl _) (by repeat (first | exact Ent.nil _ | exact Ent.refl _ | (refine Ent.pick (by repeat (first | exact Pick.here | apply Pick.there)) ?_) | refine Ent.skip ?_)) (by kernel_rfl) ?_
            refine r_one (i := 8) (bs' := #[true, true, true, true, true, true, true, true, true]) (by kernel_rfl) (by kernel_rfl) ?_
            refine o_step rfl (s_s0 wn (s_storep (ws := encPiece (⟨mark, (sumB s), (s_n : Int), 0, ⟨none, [], 0⟩⟩ : Piece)) (cs := encPiece zPiece) (cs' := encPiece (⟨mark, (sumB s), (s_n : Int), 0, ⟨none, [], 0⟩⟩ : Piece)) rfl rfl rfl sz_95 (onePiece _) (by simp [encPiece, encPiece]) rfl (by repeat (first | exact Pick.here | apply Pick.there))) ?_)
            rintro _ _ ⟨rfl, rfl⟩
            refine r_cont (Hp.le_refl _) (by repeat (first | exact Ent.nil _ | exact Ent.refl _ | (refine Ent.pick (by repeat (first | exact Pick.here | apply Pick.there)) ?_) | refine Ent.skip ?_)) ?_
            refine r_done (by kernel_rfl) ?_
            refine k_then_n ?_
            exact t_next b8 trivial (.cons rfl (by first | rfl | exact inte (by omega) | (simp; done) | (simp <;> omega) | simp [*]) (.cons rfl (by first | rfl | exact inte (by omega) | (simp; done) | (simp <;> omega) | simp [*]) (.cons rfl (by first | rfl | exact inte (by omega) | (simp; done) | (simp <;> omega) | simp [*]) (.cons rfl (by first | rfl | exact inte (by omega) | (simp; done) | (simp <;> omega) | simp [*]) (.cons rfl (by first | rfl | exact inte (by omega) | (simp; done) | (simp <;> omega) | simp [*]) (.nil _)))))) (by repeat (first | exact Ent.nil _ | exact Ent.refl _ | (refine Ent.pick (by repeat (first | exact Pick.here | apply Pick.there)) ?_) | refine Ent.skip ?_))
        · skip
          refine o_step rfl (s_s rfl wn (s_allocz (cs := encPiece zPiece) (by kernel_rfl)) ?_)
          rintro _ _ ⟨b8, rfl, rfl⟩
          refine r_cont (Hp.le_refl _) (by repeat (first | exact Ent.nil _ | exact Ent.refl _ | (refine Ent.pick (by repeat (first | exact Pick.here | apply Pick.there)) ?_) | refine Ent.skip ?_)) ?_
          refine r_two (i := 0) (j := 3) (bi := #[true, true, true, false, true, true, false, true, false]) (bj := #[false, true, true, true, true, true, false, true, false]) (by kernel_rfl) (by kernel_rfl) (by kernel_rfl) ?_ ?_
          · skip
            refine o_step rfl (s_q rfl wn (q_loadpa (vs := encMark mark) ag_87 rfl (by repeat (first | exact Pick.here | apply Pick.there)) rfl) ?_)
            refine r_cont (Hp.le_refl _) (by repeat (first | exact Ent.nil _ | exact Ent.refl _ | (refine Ent.pick (by repeat (first | exact Pick.here | apply Pick.there)) ?_) | refine Ent.skip ?_)) ?_
            refine r_one (i := 3) (bs' := #[true, true, true, true, true, true, false, true, false]) (by kernel_rfl) (by kernel_rfl) ?_
            refine o_step rfl (s_fnq rfl wn Try.func15 rfl (by kernel_rfl) rfl (fun ρ' hL => sof_spec b20 s_n s_c s_a s hs_n (by omega) ρ' (hL.row (by repeat (first | exact Pick.here | apply Pick.there))) (hL.ro hro)) ?_)
            refine r_cont (Hp.le_refl _) (by repeat (first | exact Ent.nil _ | exact Ent.refl _ | (refine Ent.pick (by repeat (first | exact Pick.here | apply Pick.there)) ?_) | refine Ent.skip ?_)) ?_
            refine r_take (i := 6) (bs' := #[true, true, true, true, true, true, true, true, false]) rfl (by kernel_rfl) (by kernel_rfl) (by kernel_rfl) (fun _ _ _ h => h) rfl wn (q_build (cs := encPiece (⟨mark, (sumB s), (s_n : Int), 0, ⟨none, [], 0⟩⟩ : Piece)) zc_95 pl_95 rfl rfl) (Hp.le_refl _) (by repeat (first | exact Ent.nil _ | exact Ent.refl _ | (refine Ent.pick (by repeat (first | exact Pick.here | apply Pick.there)) ?_) | refine Ent.skip ?_)) (by kernel_rfl) ?_
            refine r_one (i := 8) (bs' := #[true, true, true, true, true, true, true, true, true]) (by kernel_rfl) (by kernel_rfl) ?_
            refine o_step rfl (s_s0 wn (s_storep (ws := encPiece (⟨mark, (sumB s), (s_n : Int), 0, ⟨none, [], 0⟩⟩ : Piece)) (cs := encPiece zPiece) (cs' := encPiece (⟨mark, (sumB s), (s_n : Int), 0, ⟨none, [], 0⟩⟩ : Piece)) rfl rfl rfl sz_95 (onePiece _) (by simp [encPiece, encPiece]) rfl (by repeat (first | exact Pick.here | apply Pick.there))) ?_)
            rintro _ _ ⟨rfl, rfl⟩
            refine r_cont (Hp.le_refl _) (by repeat (first | exact Ent.nil _ | exact Ent.refl _ | (refine Ent.pick (by repeat (first | exact Pick.here | apply Pick.there)) ?_) | refine Ent.skip ?_)) ?_
            refine r_done (by kernel_rfl) ?_
            refine k_then_n ?_
            exact t_next b8 trivial (.cons rfl (by first | rfl | exact inte (by omega) | (simp; done) | (simp <;> omega) | simp [*]) (.cons rfl (by first | rfl | exact inte (by omega) | (simp; done) | (simp <;> omega) | simp [*]) (.cons rfl (by first | rfl | exact inte (by omega) | (simp; done) | (simp <;> omega) | simp [*]) (.cons rfl (by first | rfl | exact inte (by omega) | (simp; done) | (simp <;> omega) | simp [*]) (.cons rfl (by first | rfl | exact inte (by omega) | (simp; done) | (simp <;> omega) | simp [*]) (.nil _)))))) (by repeat (first | exact Ent.nil _ | exact Ent.refl _ | (refine Ent.pick (by repeat (first | exact Pick.here | apply Pick.there)) ?_) | refine Ent.skip ?_))
          · skip
            refine o_step rfl (s_fnq rfl wn Try.func15 rfl (by kernel_rfl) rfl (fun ρ' hL => sof_spec b20 s_n s_c s_a s hs_n (by omega) ρ' (hL.row (by repeat (first | exact Pick.here | apply Pick.there))) (hL.ro hro)) ?_)
            refine r_cont (Hp.le_refl _) (by repeat (first | exact Ent.nil _ | exact Ent.refl _ | (refine Ent.pick (by repeat (first | exact Pick.here | apply Pick.there)) ?_) | refine Ent.skip ?_)) ?_
            refine r_one (i := 0) (bs' := #[true, true, true, true, true, true, false, true, false]) (by kernel_rfl) (by kernel_rfl) ?_
            refine o_step rfl (s_q rfl wn (q_loadpa (vs := encMark mark) ag_87 rfl (by repeat (first | exact Pick.here | apply Pick.there)) rfl) ?_)
            refine r_cont (Hp.le_refl _) (by repeat (first | exact Ent.nil _ | exact Ent.refl _ | (refine Ent.pick (by repeat (first | exact Pick.here | apply Pick.there)) ?_) | refine Ent.skip ?_)) ?_
            refine r_take (i := 6) (bs' := #[true, true, true, true, true, true, true, true, false]) rfl (by kernel_rfl) (by kernel_rfl) (by kernel_rfl) (fun _ _ _ h => h) rfl wn (q_build (cs := encPiece (⟨mark, (sumB s), (s_n : Int), 0, ⟨none, [], 0⟩⟩ : Piece)) zc_95 pl_95 rfl rfl) (Hp.le_refl _) (by repeat (first | exact Ent.nil _ | exact Ent.refl _ | (refine Ent.pick (by repeat (first | exact Pick.here | apply Pick.there)) ?_) | refine Ent.skip ?_)) (by kernel_rfl) ?_
            refine r_one (i := 8) (bs' := #[true, true, true, true, true, true, true, true, true]) (by kernel_rfl) (by kernel_rfl) ?_
            refine o_step rfl (s_s0 wn (s_storep (ws := encPiece (⟨mark, (sumB s), (s_n : Int), 0, ⟨none, [], 0⟩⟩ : Piece)) (cs := encPiece zPiece) (cs' := encPiece (⟨mark, (sumB s), (s_n : Int), 0, ⟨none, [], 0⟩⟩ : Piece)) rfl rfl rfl sz_95 (onePiece _) (by simp [encPiece, encPiece]) rfl (by repeat (first | exact Pick.here | apply Pick.there))) ?_)
            rintro _ _ ⟨rfl, rfl⟩
            refine r_cont (Hp.le_refl _) (by repeat (first | exact Ent.nil _ | exact Ent.refl _ | (refine Ent.pick (by repeat (first | exact Pick.here | apply Pick.there)) ?_) | refine Ent.skip ?_)) ?_
            refine r_done (by kernel_rfl) ?_
            refine k_then_n ?_
            exact t_next b8 trivial (.cons rfl (by first | rfl | exact inte (by omega) | (simp; done) | (simp <;> omega) | simp [*]) (.cons rfl (by first | rfl | exact inte (by omega) | (simp; done) | (simp <;> omega) | simp [*]) (.cons rfl (by first | rfl | exact inte (by omega) | (simp; done) | (simp <;> omega) | simp [*]) (.cons rfl (by first | rfl | exact inte (by omega) | (simp; done) | (simp <;> omega) | simp [*]) (.cons rfl (by first | rfl | exact inte (by omega) | (simp; done) | (simp <;> omega) | simp [*]) (.nil _)))))) (by repeat (first | exact Ent.nil _ | exact Ent.refl _ | (refine Ent.pick (by repeat (first | exact Pick.here | apply Pick.there)) ?_) | refine Ent.skip ?_))
      · skip
        refine o_step rfl (s_s rfl wn (s_allocz (cs := encPiece zPiece) (by kernel_rfl)) ?_)
        rintro _ _ ⟨b8, rfl, rfl⟩
        refine r_cont (Hp.le_refl _) (by repeat (first | exact Ent.nil _ | exact Ent.refl _ | (refine Ent.pick (by repeat (first | exact Pick.here | apply Pick.there)) ?_) | refine Ent.skip ?_)) ?_
        refine r_two (i := 0) (j := 2) (bi := #[true, true, false, false, true, true, false, true, false]) (bj := #[false, true, true, false, true, true, false, true, false]) (by kernel_rfl) (by kernel_rfl) (by kernel_rfl) ?_ ?_
        · skip
          refine o_step rfl (s_q rfl wn (q_loadpa (vs := encMark mark) ag_87 rfl (by repeat (first | exact Pick.here | apply Pick.there)) rfl) ?_)
          refine r_cont (Hp.le_refl _) (by repeat (first | exact Ent.nil _ | exact Ent.refl _ | (refine Ent.pick (by repeat (first | exact Pick.here | apply Pick.there)) ?_) | refine Ent.skip ?_)) ?_
          refine r_one (i := 2) (bs' := #[true, true, true, false, true, true, false, true, false]) (by kernel_rfl) (by kernel_rfl) ?_
          refine o_step rfl (s_s rfl wn (s_buildSlice (cs := ([⟨s_a, s_n, s_c⟩] : List SH).flatMap encSH) Try.underlying32 eo_22 rfl rfl rfl rfl (by decide) (by decide)) ?_)
          rintro _ _ ⟨b20, rfl, rfl⟩
          refine r_cont (Hp.le_refl _) (by repeat (first | exact Ent.nil _ | exact Ent.refl _ | (refine Ent.pick (by repeat (first | exact Pick.here | apply Pick.there)) ?_) | refine Ent.skip ?_)) ?_
          refine r_one (i := 3) (bs' := #[true, true, true, true, true, true, false, true, false]) (by kernel_rfl) (by kernel_rfl) ?_
          refine o_step rfl (s_fnq rfl wn Try.func15 rfl (by kernel_rfl) rfl (fun ρ' hL => sof_spec b20 s_n s_c s_a s hs_n (by omega) ρ' (hL.row (by repeat (first | exact Pick.here | apply Pick.there))) (hL.ro hro)) ?_)
          refine r_cont (Hp.le_refl _) (by repeat (first | exact Ent.nil _ | exact Ent.refl _ | (refine Ent.pick (by repeat (first | exact Pick.here | apply Pick.there)) ?_) | refine Ent.skip ?_)) ?_
          refine r_take (i := 6) (bs' := #[true, true, true, true, true, true, true, true, false]) rfl (by kernel_rfl) (by kernel_rfl) (by kernel_rfl) (fun _ _ _ h => h) rfl wn (q_build (cs := encPiece (⟨mark, (sumB s), (s_n : Int), 0, ⟨none, [], 0⟩⟩ : Piece)) zc_95 pl_95 rfl rfl) (Hp.le_refl _) (by repeat (first | exact Ent.nil _ | exact Ent.refl _ | (refine Ent.pick (by repeat (first | exact Pick.here | apply Pick.there)) ?_) | refine Ent.skip ?_)) (by kernel_rfl) ?_
          refine r_one (i := 8) (bs' := #[true, true, true, true, true, true, true, true, true]) (by kernel_rfl) (by kernel_rfl) ?_
          refine o_step rfl (s_s0 wn (s_storep (ws := encPiece (⟨mark, (sumB s), (s_n : Int), 0, ⟨none, [], 0⟩⟩ : Piece)) (cs := encPiece zPiece) (cs' := encPiece (⟨mark, (sumB s), (s_n : Int), 0, ⟨none, [], 0⟩⟩ : Piece)) rfl rfl rfl sz_95 (onePiece _) (by simp [encPiece, encPiece]) rfl (by repeat (first | exact Pick.here | apply Pick.there))) ?_)
          rintro _ _ ⟨rfl, rfl⟩
          refine r_cont (Hp.le_refl _) (by repeat (first | exact Ent.nil _ | exact Ent.refl _ | (refine Ent.pick (by repeat (first | exact Pick.here | apply Pick.there)) ?_) | refine Ent.skip ?_)) ?_
          refine r_done (by kernel_rfl) ?_
          refine k_then_n ?_
          exact t_next b8 trivial (.cons rfl (by first | rfl | exact inte (by omega) | (simp; done) | (simp <;> omega) | simp [*]) (.cons rfl (by first | rfl | exact inte (by omega) | (simp; done) | (simp <;> omega) | simp [*]) (.cons rfl (by first | rfl | exact inte (by omega) | (simp; done) | (simp <;> omega) | simp [*]) (.cons rfl (by first | rfl | exact inte (by omega) | (simp; done) | (simp <;> omega) | simp [*]) (.cons rfl (by first | rfl | exact inte (by omega) | (simp; done) | (simp <;> omega) | simp [*]) (.nil _)))))) (by repeat (first | exact Ent.nil _ | exact Ent.refl _ | (refine Ent.pick (by repeat (first | exact Pick.here | apply Pick.there)) ?_) | refine Ent.skip ?_))
        · skip
          refine o_step rfl (s_s rfl wn (s_buildSlice (cs := ([⟨s_a, s_n, s_c⟩] : List SH).flatMap encSH) Try.underlying32 eo_22 rfl rfl rfl rfl (by decide) (by decide)) ?_)
          rintro _ _ ⟨b20, rfl, rfl⟩
          refine r_cont (Hp.le_refl _) (by repeat (first | exact Ent.nil _ | exact Ent.refl _ | (refine Ent.pick (by repeat (first | exact Pick.here | apply Pick.there)) ?_) | refine Ent.skip ?_)) ?_
          refine r_two (i := 0) (j := 3) (bi := #[true, true, true, false, true, true, false, true, false]) (bj := #[false, true, true, true, true, true, false, true, false]) (by kernel_rfl) (by kernel_rfl) (by kernel_rfl) ?_ ?_
          · skip
            refine o_step rfl (s_q rfl wn (q_loadpa (vs := encMark mark) ag_87 rfl (by repeat (first | exact Pick.here | apply Pick.there)) rfl) ?_)
            refine r_cont (Hp.le_refl _) (by repeat (first | exact Ent.nil _ | exact Ent.refl _ | (refine Ent.pick (by repeat (first | exact Pick.here | apply Pick.there)) ?_) | refine Ent.skip ?_)) ?_
            refine r_one (i := 3) (bs' := #[true, true, true, true, true, true, false, true, false]) (by kernel_rfl) (by kernel_rfl) ?_
            refine o_step rfl (s_fnq rfl wn Try.func15 rfl (by kernel_rfl) rfl (fun ρ' hL => sof_spec b20 s_n s_c s_a s hs_n (by omega) ρ' (hL.row (by repeat (first | exact Pick.here | apply Pick.there))) (hL.ro hro)) ?_)
            refine r_cont (Hp.le_refl _) (by repeat (first | exact Ent.nil _ | exact Ent.refl _ | (refine Ent.pick (by repeat (first | exact Pick.here | apply Pick.there)) ?_) | refine Ent.skip ?_)) ?_
            refine r_take (i := 6) (bs' := #[true, true, true, true, true, true, true, true, false]) rfl (by kernel_rfl) (by kernel_rfl) (by kernel_rfl) (fun _ _ _ h => h) rfl wn (q_build (cs := encPiece (⟨mark, (sumB s), (s_n : Int), 0, ⟨none, [], 0⟩⟩ : Piece)) zc_95 pl_95 rfl rfl) (Hp.le_refl _) (by repeat (first | exact Ent.nil _ | exact Ent.refl _ | (refine Ent.pick (by repeat (first | exact Pick.here | apply Pick.there)) ?_) | refine Ent.skip ?_)) (by kernel_rfl) ?_
            refine r_one (i := 8) (bs' := #[true, true, true, true, true, true, true, true, true]) (by kernel_rfl) (by kernel_rfl) ?_
            refine o_step rfl (s_s0 wn (s_storep (ws := encPiece (⟨mark, (sumB s), (s_n : Int), 0, ⟨none, [], 0⟩⟩ : Piece)) (cs := encPiece zPiece) (cs' := encPiece (⟨mark, (sumB s), (s_n : Int), 0, ⟨none, [], 0⟩⟩ : Piece)) rfl rfl rfl sz_95 (onePiece _) (by simp [encPiece, encPiece]) rfl (by repeat (first | exact Pick.here | apply Pick.there))) ?_)
            rintro _ _ ⟨rfl, rfl⟩
            refine r_cont (Hp.le_refl _) (by repeat (first | exact Ent.nil _ | exact Ent.refl _ | (refine Ent.pick (by repeat (first | exact Pick.here | apply Pick.there)) ?_) | refine Ent.skip ?_)) ?_
            refine r_done (by kernel_rfl) ?_
            refine k_then_n ?_
            exact t_next b8 trivial (.cons rfl (by first | rfl | exact inte (by omega) | (simp; done) | (simp <;> omega) | simp [*]) (.cons rfl (by first | rfl | exact inte (by omega) | (simp; done) | (simp <;> omega) | simp [*]) (.cons rfl (by first | rfl | exact inte (by omega) | (simp; done) | (simp <;> omega) | simp [*]) (.cons rfl (by first | rfl | exact inte (by omega) | (simp; done) | (simp <;> omega) | simp [*]) (.cons rfl (by first | rfl | exact inte (by omega) | (simp; done) | (simp <;> omega) | simp [*]) (.nil _)))))) (by repeat (first | exact Ent.nil _ | exact Ent.refl _ | (refine Ent.pick (by repeat (first | exact Pick.here | apply Pick.there)) ?_) | refine Ent.skip ?_))
          · skip
            refine o_step rfl (s_fnq rfl wn Try.func15 rfl (by kernel_rfl) rfl (fun ρ' hL => sof_spec b20 s_n s_c s_a s hs_n (by omega) ρ' (hL.row (by repeat (first | exact Pick.here | apply Pick.there))) (hL.ro hro)) ?_)
            refine r_cont (Hp.le_refl _) (by repeat (first | exact Ent.nil _ | exact Ent.refl _ | (refine Ent.pick (by repeat (first | exact Pick.here | apply Pick.there)) ?_) | refine Ent.skip ?_)) ?_
            refine r_one (i := 0) (bs' := #[true, true, true, true, true, true, false, true, false]) (by kernel_rfl) (by kernel_rfl) ?_
            refine o_step rfl (s_q rfl wn (q_loadpa (vs := encMark mark) ag_87 rfl (by repeat (first | exact Pick.here | apply Pick.there)) rfl) ?_)
            refine r_cont (Hp.le_refl _) (by repeat (first | exact Ent.nil _ | exact Ent.refl _ | (refine Ent.pick (by repeat (first | exact Pick.here | apply Pick.there)) ?_) | refine Ent.skip ?_)) ?_
            refine r_take (i := 6) (bs' := #[true, true, true, true, true, true, true, true, false]) rfl (by kernel_rfl) (by kernel_rfl) (by kernel_rfl) (fun _ _ _ h => h) rfl wn (q_build (cs := encPiece (⟨mark, (sumB s), (s_n : Int), 0, ⟨none, [], 0⟩⟩ : Piece)) zc_95 pl_95 rfl rfl) (Hp.le_refl _) (by repeat (first | exact Ent.nil _ | exact Ent.refl _ | (refine Ent.pick (by repeat (first | exact Pick.here | apply Pick.there)) ?_) | refine Ent.skip ?_)) (by kernel_rfl) ?_
            refine r_one (i := 8) (bs' := #[true, true, true, true, true, true, true, true, true]) (by kernel_rfl) (by kernel_rfl) ?_
            refine o_step rfl (s_s0 wn (s_storep (ws := encPiece (⟨mark, (sumB s), (s_n : Int), 0, ⟨none, [], 0⟩⟩ : Piece)) (cs := encPiece zPiece) (cs' := encPiece (⟨mark, (sumB s), (s_n : Int), 0, ⟨none, [], 0⟩⟩ : Piece)) rfl rfl rfl sz_95 (onePiece _) (by simp [encPiece, encPiece]) rfl (by repeat (first | exact Pick.here | apply Pick.there))) ?_)
            rintro _ _ ⟨rfl, rfl⟩
            refine r_cont (Hp.le_refl _) (by repeat (first | exact Ent.nil _ | exact Ent.refl _ | (refine Ent.pick (by repeat (first | exact Pick.here | apply Pick.there)) ?_) | refine Ent.skip ?_)) ?_
            refine r_done (by kernel_rfl) ?_
            refine k_then_n ?_
            exact t_next b8 trivial (.cons rfl (by first | rfl | exact inte (by omega) | (simp; done) | (simp <;> omega) | simp [*]) (.cons rfl (by first | rfl | exact inte (by omega) | (simp; done) | (simp <;> omega) | simp [*]) (.cons rfl (by first | rfl | exact inte (by omega) | (simp; done) | (simp <;> omega) | simp [*]) (.cons rfl (by first | rfl | exact inte (by omega) | (simp; done) | (simp <;> omega) | simp [*]) (.cons rfl (by first | rfl | exact inte (by omega) | (simp; done) | (simp <;> omega) | simp [*]) (.nil _)))))) (by repeat (first | exact Ent.nil _ | exact Ent.refl _ | (refine Ent.pick (by repeat (first | exact Pick.here | apply Pick.there)) ?_) | refine Ent.skip ?_))
    intro x8 hj3
    refine k_then_n ?_
    refine c_seq ?_
    refine c_seq ?_
    refine c_region ?_
    refine l_step (s_q rfl wn (q_move rfl) ?_)
    refine l_step (s_q rfl wn (q_len Try.underlying22 rfl) ?_)
    refine l_step (s_q rfl wn (q_eql rfl rfl) ?_)
    refine l_nil ?_
    refine k_then_n ?_
    refine c_cond rfl (fun h1 => ?_) (fun h1 => ?_)
    · (try dsimp only [heapOf] at h1); try simp only [Bool.and_eq_true, Bool.or_eq_true, Bool.not_eq_true', Bool.and_eq_false_iff, Bool.or_eq_false_iff, Bool.not_eq_false', decide_eq_true_eq, decide_eq_false_iff_not, Bool.not_eq_eq_eq_not, Bool.not_true, Bool.not_false, Bool.not_eq_true, Bool.not_eq_false, beq_iff_eq, bne_iff_ne, ne_eq, Decidable.not_not] at h1
      refine c_seq ?_
      refine c_region ?_
      refine l_step (s_q rfl wn (q_loadpa (vs := encPiece (⟨mark, (sumB s), (s_n : Int), 0, ⟨none, [], 0⟩⟩ : Piece)) ag_95 rfl (by repeat (first | exact Pick.here | apply Pick.there)) rfl) ?_)
      refine l_step (s_s rfl wn (s_buildSlice (cs := ([(⟨mark, (sumB s), (s_n : Int), 0, ⟨none, [], 0⟩⟩ : Piece)] : List Piece).flatMap encPiece) Try.underlying88 eo_95 rfl rfl rfl rfl (by decide) (by decide)) ?_)
      rintro _ _ ⟨b29, rfl, rfl⟩
      refine l_step (s_q rfl wn (q_assign rfl) ?_)
      refine l_step (s_q rfl wn (q_assign rfl) ?_)
      refine l_nil ?_
      refine k_then_n ?_
      refine c_ret ?_
      refine k_then_r ?_
      have hok : cutOk mark size = true := by unfold cutOk; rw [h0.1, decide_eq_true (by omega)]; rfl
      have hs0 : s = [] := List.eq_nil_of_length_eq_zero (by omega)
      refine Tr.ent (Ent.trans (Ent.nilrow 5 1 _) (bun_in [.row 5 1 none 0 0 []] _)) ?_
      have hfin : [(⟨mark, sumB s, s_n, 0, ⟨none, [], 0⟩⟩ : Piece)].map pd = cutF mark s size := by subst hs0; rw [cutF_nil]; simp only [List.map_cons, List.map_nil, pd]; rw [h1]
      exact t_retM0 [.row 95 6 (some ⟨b29, 0, none⟩) 1 1 ([(⟨mark, sumB s, s_n, 0, ⟨none, [], 0⟩⟩ : Piece)].flatMap encPiece), Bun ([(⟨mark, sumB s, s_n, 0, ⟨none, [], 0⟩⟩ : Piece)].map (rowP 5))] rfl (.tmp rfl (.tmp rfl .nil)) rfl (Hp.le_refl _) ⟨rfl, _, _, [(⟨mark, sumB s, s_n, 0, ⟨none, [], 0⟩⟩ : Piece)], (by unfold cutE; rw [hok]; rfl), (by unfold cutG; rw [hok]; exact hfin), rfl⟩ (by repeat (first | exact Ent.nil _ | exact Ent.refl _ | (refine Ent.pick (by repeat (first | exact Pick.here | apply Pick.there)) ?_) | refine Ent.skip ?_))
    · (try dsimp only [heapOf] at h1); try simp only [Bool.and_eq_true, Bool.or_eq_true, Bool.not_eq_true', Bool.and_eq_false_iff, Bool.or_eq_false_iff, Bool.not_eq_false', decide_eq_true_eq, decide_eq_false_iff_not, Bool.not_eq_eq_eq_not, Bool.not_true, Bool.not_false, Bool.not_eq_true, Bool.not_eq_false, beq_iff_eq, bne_iff_ne, ne_eq, Decidable.not_not] at h1
      refine c_skip ?_
      refine k_then_n ?_
      refine c_seq ?_
      refine c_region ?_
      refine l_step (s_s rfl wn (s_allocz zc_88) ?_)
      rintro _ _ ⟨b9, rfl, rfl⟩
      refine l_nil ?_
      refine k_then_n ?_
      refine c_seq ?_
      refine c_seq ?_
      refine c_region ?_
      refine l_step (s_q rfl wn (q_move rfl) ?_)
      refine l_step (s_q rfl wn (q_move rfl) ?_)
      refine l_step (s_q rfl wn (q_move rfl) ?_)
      refine l_step (s_q rfl wn (q_len Try.underlying22 rfl) ?_)
      refine l_step (s_q rfl wn (q_as (v := .int .i64 ((min size.toNat s_n : Nat) : Int)) (q_min2 rfl rfl) (congrArg (Value.int .i64) (by split <;> omega))) ?_)
      refine l_step (s_fnb rfl wn Try.func65 rfl (by kernel_rfl) rfl (by repeat (first | exact Sel.nil | exact Pick.here | apply Sel.cons | apply Pick.there)) (fun ρ' hL => schunk_spec s_a s_n s_c ((min size.toNat s_n : Nat) : Int) ρ' (by omega)) ?_)
      rintro _ _ ⟨bs35, bn35, rfl, rfl⟩
      try simp only [List.cons_append, List.nil_append]
      refine l_nil ?_
      refine k_then_n ?_
      refine c_block ?_
      refine Tr.ent (Ent.nilrow 95 6 _) ?_
      refine Tr.ent (bun_nil _) ?_
      refine Tr.ent (pu_in (cutJ0 mark s (min size.toNat s_n)) _) ?_
      refine Tr.env (σ' := [(6, .slice none 0 0), (7, .int .i64 0), (8, .pointer (some ⟨x8, 0, none⟩)), (9, .pointer (some ⟨b9, 0, none⟩)), (35, .func (.func 74) #[] #[.pointer (some ⟨bs35, 0, none⟩), .pointer (some ⟨bn35, 0, none⟩)])]) (.cons rfl rfl (.cons rfl rfl (.cons rfl rfl (.cons rfl rfl (.cons rfl rfl (.nil _)))))) ?_
      refine t_rangeFunc (ps := [36]) (Γi := [.pts bs35 [.slice s_a s_n s_c] 22, .pts bn35 [.int .i64 ((min size.toNat s_n : Nat) : Int)] 3]) (vals := (partsV s_a s_n (min size.toNat s_n))) (κ := CY) (ι := Empty) (ι1 := Unit) (fun k y => PU (CutJ mark s (min size.toNat s_n) k y) :: Bun (y.ps.map (rowP 5)) :: .row 95 6 y.a y.ps.length y.c (y.ps.flatMap encPiece) :: .pts b9 [.slice y.a y.ps.length y.c] 88 :: .pts x8 (encPiece (⟨mark, (sumB s), (s_n : Int), y.at_, y.l⟩ : Piece)) 95 :: .pts b3 (encMark mark) 87 :: Δ) cy0 (fun e => e.elim) (fun k y _ => [(10, .slice (sh s_a (min s_n (k * (min size.toNat s_n) + (min size.toNat s_n))) (k * (min size.toNat s_n)) 1) (((s.take (min s_n (k * (min size.toNat s_n) + (min size.toNat s_n)))).drop (k * (min size.toNat s_n))).length) (((s.take (min s_n (k * (min size.toNat s_n) + (min size.toNat s_n)))).drop (k * (min size.toNat s_n))).length)), (6, .slice none 0 0), (7, .int .i64 0), (8, .pointer (some ⟨x8, 0, none⟩)), (9, .pointer (some ⟨b9, 0, none⟩)), (35, .func (.func 74) #[] #[.pointer (some ⟨bs35, 0, none⟩), .pointer (some ⟨bn35, 0, none⟩)])]) (fun k y _ => PU (CutJ mark s (min size.toNat s_n) k y) :: Bun (y.ps.map (rowP 5)) :: .row 95 6 y.a y.ps.length y.c (y.ps.flatMap encPiece) :: .pts b9 [.slice y.a y.ps.length y.c] 88 :: .pts x8 (encPiece (⟨mark, (sumB s), (s_n : Int), y.at_, y.l⟩ : Piece)) 95 :: .pts b3 (encMark mark) 87 :: Δ) rfl Try.func74 rfl (by kernel_rfl) (schunk_iter bs35 bn35 s_a s_n s_c (min size.toNat s_n) ρ (by omega) (by omega) (by omega) (by have := hro.2.1; omega)) (Ent.trans (by repeat (first | exact Ent.nil _ | exact Ent.refl _ | (refine Ent.pick (by repeat (first | exact Pick.here | apply Pick.there)) ?_) | refine Ent.skip ?_)) (Ent.comm [.pts bs35 [.slice s_a s_n s_c] 22, .pts bn35 [.int .i64 ((min size.toNat s_n : Nat) : Int)] 3] _)) (by decide) (by intro v hv; simp only [partsV, List.mem_map] at hv; obtain ⟨_, _, rfl⟩ := hv; rfl) ?_ ?_ ?_ ?_
      · intro k hk y l m Fr
        simp only [partsV_get, partV]
        have hpl : ((s.take (min s_n (k * (min size.toNat s_n) + (min size.toNat s_n)))).drop (k * (min size.toNat s_n))).length = min s_n (k * (min size.toNat s_n) + (min size.toNat s_n)) - k * (min size.toNat s_n) := by rw [List.length_drop, List.length_take]; omega
        rw [← hpl]
        simp only [binds, List.cons_append, List.nil_append]
        refine i_region ?_
        refine li_step (.inr (fun c h => by cases h)) (s_q rfl wn (q_assign rfl) ?_)
        refine li_nil ?_
        refine k_then_n ?_
        exact t_next () trivial (.cons rfl rfl (.cons rfl rfl (.cons rfl rfl (.cons rfl rfl (.cons rfl rfl (.cons rfl rfl (.nil _))))))) (by repeat (first | exact Ent.nil _ | exact Ent.refl _ | (refine Ent.pick (by repeat (first | exact Pick.here | apply Pick.there)) ?_) | refine Ent.skip ?_))
      · intro k hk y _ l m Fr
        simp only [List.cons_append, List.nil_append]
        refine t_pu (by repeat (first | exact Pick.here | apply Pick.there)) fun hcj => ?_
        have hck := hcj.len
        obtain ⟨hat, hmap⟩ := hcj
        rw [partsV_len] at hk
        have hkn := (lt_cdiv (by omega)).1 hk
        have hks : k ≤ k * (min size.toNat s_n) := Nat.le_mul_of_pos_right k (by omega)
        have hpl : ((s.take (min s_n (k * (min size.toNat s_n) + (min size.toNat s_n)))).drop (k * (min size.toNat s_n))).length = min s_n (k * (min size.toNat s_n) + (min size.toNat s_n)) - k * (min size.toNat s_n) := by rw [List.length_drop, List.length_take]; omega
        have hpart := Ro.cut3e hro (fun _ => rfl) (k * (min size.toNat s_n)) (min s_n (k * (min size.toNat s_n) + (min size.toNat s_n))) (by omega) (by omega)
        rw [← hpl] at hpart
        have hpb : ((s.take (min s_n (k * (min size.toNat s_n) + (min size.toNat s_n)))).drop (k * (min size.toNat s_n))).length ≤ 1000000000 := by omega
        refine i_block ?_
        refine i_seq ?_
        refine i_region ?_
        refine li_step (.inr (fun c h => by cases h)) (s_q rfl wn (q_move rfl) ?_)
        refine li_step (.inr (fun c h => by cases h)) (s_fnb rfl wn Try.func66 rfl (by kernel_rfl) rfl (by repeat (first | exact Sel.nil | exact Pick.here | apply Sel.cons | apply Pick.there)) (fun ρ' hL => bclone_spec (sh s_a (min s_n (k * (min size.toNat s_n) + (min size.toNat s_n))) (k * (min size.toNat s_n)) 1) (((s.take (min s_n (k * (min size.toNat s_n) + (min size.toNat s_n)))).drop (k * (min size.toNat s_n))).length) (((s.take (min s_n (k * (min size.toNat s_n) + (min size.toNat s_n)))).drop (k * (min size.toNat s_n))).length) ((s.take (min s_n (k * (min size.toNat s_n) + (min size.toNat s_n)))).drop (k * (min size.toNat s_n))) (by first | rfl | assumption | simp | (simp <;> omega) | omega) ρ' (by first | assumption | omega | (simp; done)) (by first | exact hL.ro (by assumption) | exact hL.bun (L := y.ps.map (rowP 5)) (by repeat (first | exact Pick.here | apply Pick.there)) (in_map _ (by first | assumption | omega | (simp only [List.length_cons, List.length_nil]; omega) | decide) rfl) | exact hL.row (by repeat (first | exact Pick.here | apply Pick.there)) | assumption)) ?_)
        rintro _ _ ⟨a38, c38, rfl, rfl⟩
        try simp only [List.cons_append, List.nil_append]
        refine li_step (.inr (fun c h => by cases h)) (s_q rfl wn (q_fieldp rfl fo_95_4) ?_)
        refine li_step (.inr (fun c h => by cases h)) (s_s0 wn (s_storep (ws := [.slice a38 (((s.take (min s_n (k * (min size.toNat s_n) + (min size.toNat s_n)))).drop (k * (min size.toNat s_n))).length) c38]) (cs := encPiece (⟨mark, (sumB s), (s_n : Int), y.at_, y.l⟩ : Piece)) (cs' := encPiece (⟨mark, (sumB s), (s_n : Int), y.at_, ⟨a38, ((s.take (min s_n (k * (min size.toNat s_n) + (min size.toNat s_n)))).drop (k * (min size.toNat s_n))), c38⟩⟩ : Piece)) rfl rfl rfl sz_22 (by simp [Value.oneCell', strB, ptV, SL.v, SH.v]) (by simp [encPiece]) rfl (by repeat (first | exact Pick.here | apply Pick.there))) ?_)
        rintro _ _ ⟨rfl, rfl⟩
        refine li_nil ?_
        refine k_then_n ?_
        refine i_seq ?_
        refine i_region ?_
        refine li_step (.inr (fun c h => by cases h)) (s_q rfl wn (q_loadp (v := .slice y.a y.ps.length y.c) sc_88 rfl (by repeat (first | exact Pick.here | apply Pick.there)) rfl) ?_)
        refine li_step (.inr (fun c h => by cases h)) (s_q rfl wn (q_loadpa (vs := encPiece (⟨mark, (sumB s), (s_n : Int), y.at_, ⟨a38, ((s.take (min s_n (k * (min size.toNat s_n) + (min size.toNat s_n)))).drop (k * (min size.toNat s_n))), c38⟩⟩ : Piece)) ag_95 rfl (by repeat (first | exact Pick.here | apply Pick.there)) rfl) ?_)
        refine li_step (.inr (fun c h => by cases h)) (s_s rfl wn (s_buildSlice (cs := ([(⟨mark, (sumB s), (s_n : Int), y.at_, ⟨a38, ((s.take (min s_n (k * (min size.toNat s_n) + (min size.toNat s_n)))).drop (k * (min size.toNat s_n))), c38⟩⟩ : Piece)] : List Piece).flatMap encPiece) Try.underlying88 eo_95 rfl rfl rfl rfl (by decide) (by decide)) ?_)
        rintro _ _ ⟨b42, rfl, rfl⟩
        refine li_step (.inr (fun c h => by cases h)) (s_s rfl wn (s_appendn (enc := encPiece) (xs := (y.ps : List Piece)) (ys := ([(⟨mark, (sumB s), (s_n : Int), y.at_, ⟨a38, ((s.take (min s_n (k * (min size.toNat s_n) + (min size.toNat s_n)))).drop (k * (min size.toNat s_n))), c38⟩⟩ : Piece)] : List Piece)) (Γ' := fun a' cap' => _) Try.underlying88 eo_95 (by decide) rfl rfl (rd_row (by repeat (first | exact Pick.here | apply Pick.there))) (onePieces _) (by first | omega | (simp only [List.length_append, List.length_cons, List.length_nil] at *; omega)) (by first | omega | (simp only [List.length_append, List.length_cons, List.length_nil] at *; omega)) (fun _ _ => (by repeat (first | exact Pick.here | apply Pick.there)))) ?_)
        rintro _ _ ⟨a43, c43, rfl, rfl⟩
        refine li_step (.inr (fun c h => by cases h)) (s_s0 wn (s_storep (ws := [.slice a43 (y.ps.length + 1) c43]) (cs := [.slice y.a y.ps.length y.c]) (cs' := [.slice a43 (y.ps.length + 1) c43]) rfl rfl rfl sz_88 (by simp [Value.oneCell', strB, ptV, SL.v, SH.v]) (by simp) rfl (by repeat (first | exact Pick.here | apply Pick.there))) ?_)
        rintro _ _ ⟨rfl, rfl⟩
        refine li_nil ?_
        refine k_then_n ?_
        refine i_region ?_
        refine li_step (.inr (fun c h => by cases h)) (s_q rfl wn (q_fieldp rfl fo_95_3) ?_)
        refine li_step (.inr (fun c h => by cases h)) (s_q rfl wn (q_loadp (v := .int .i64 y.at_) sc_3 rfl (by repeat (first | exact Pick.here | apply Pick.there)) rfl) ?_)
        refine li_step (.inr (fun c h => by cases h)) (s_q rfl wn (q_move rfl) ?_)
        refine li_step (.inr (fun c h => by cases h)) (s_q rfl wn (q_len Try.underlying22 rfl) ?_)
        refine li_step (.inr (fun c h => by cases h)) (s_q rfl wn (q_add rfl rfl (by omega) (by omega)) ?_)
        refine li_step (.inr (fun c h => by cases h)) (s_q rfl wn (q_fieldp rfl fo_95_3) ?_)
        refine li_step (.inr (fun c h => by cases h)) (s_s0 wn (s_storep (ws := [.int .i64 (y.at_ + (((s.take (min s_n (k * (min size.toNat s_n) + (min size.toNat s_n)))).drop (k * (min size.toNat s_n))).length : Int))]) (cs := encPiece (⟨mark, (sumB s), (s_n : Int), y.at_, ⟨a38, ((s.take (min s_n (k * (min size.toNat s_n) + (min size.toNat s_n)))).drop (k * (min size.toNat s_n))), c38⟩⟩ : Piece)) (cs' := encPiece (⟨mark, (sumB s), (s_n : Int), (y.at_ + (((s.take (min s_n (k * (min size.toNat s_n) + (min size.toNat s_n)))).drop (k * (min size.toNat s_n))).length : Int)), ⟨a38, ((s.take (min s_n (k * (min size.toNat s_n) + (min size.toNat s_n)))).drop (k * (min size.toNat s_n))), c38⟩⟩ : Piece)) rfl rfl rfl sz_3 (by simp [Value.oneCell', strB, ptV, SL.v, SH.v]) (by simp [encPiece]) rfl (by repeat (first | exact Pick.here | apply Pick.there))) ?_)
        rintro _ _ ⟨rfl, rfl⟩
        refine li_nil ?_
        refine k_blk_n ?_
        have hln : (y.ps ++ [(⟨mark, sumB s, s_n, y.at_, ⟨a38, ((s.take (min s_n (k * (min size.toNat s_n) + (min size.toNat s_n)))).drop (k * (min size.toNat s_n))), c38⟩⟩ : Piece)]).length = y.ps.length + 1 := by simp
        rw [← hln]
        refine Tr.ent (Ent.pick (A := .row 5 1 a38 (((s.take (min s_n (k * (min size.toNat s_n) + (min size.toNat s_n)))).drop (k * (min size.toNat s_n))).length) c38 (((s.take (min s_n (k * (min size.toNat s_n) + (min size.toNat s_n)))).drop (k * (min size.toNat s_n))).flatMap encB)) (by repeat (first | exact Pick.here | apply Pick.there)) (Ent.pick (A := Bun (y.ps.map (rowP 5))) (by repeat (first | exact Pick.here | apply Pick.there)) (Ent.refl _))) ?_
        refine Tr.ent (bun_snoc _ _ _) ?_
        rw [show y.ps.map (rowP 5) ++ [.row 5 1 a38 ((s.take (min s_n (k * (min size.toNat s_n) + (min size.toNat s_n)))).drop (k * (min size.toNat s_n))).length c38 (((s.take (min s_n (k * (min size.toNat s_n) + (min size.toNat s_n)))).drop (k * (min size.toNat s_n))).flatMap encB)] = (y.ps ++ [(⟨mark, sumB s, s_n, y.at_, ⟨a38, ((s.take (min s_n (k * (min size.toNat s_n) + (min size.toNat s_n)))).drop (k * (min size.toNat s_n))), c38⟩⟩ : Piece)]).map (rowP 5) from by simp [rowP]]
        have hJ : CutJ mark s (min size.toNat s_n) (k + 1) (⟨y.ps ++ [(⟨mark, sumB s, s_n, y.at_, ⟨a38, ((s.take (min s_n (k * (min size.toNat s_n) + (min size.toNat s_n)))).drop (k * (min size.toNat s_n))), c38⟩⟩ : Piece)], a43, c43, ⟨a38, ((s.take (min s_n (k * (min size.toNat s_n) + (min size.toNat s_n)))).drop (k * (min size.toNat s_n))), c38⟩, y.at_ + (((s.take (min s_n (k * (min size.toNat s_n) + (min size.toNat s_n)))).drop (k * (min size.toNat s_n))).length : Int)⟩ : CY) := ⟨by subst hs_n; show y.at_ + _ = _; rw [hat, hpl, ← Int.natCast_add, cut_at _ _ _ hkn], by subst hs_n; show List.map pd (_ ++ _) = _; rw [List.map_append, hmap, cutK_succ]; simp only [List.map_cons, List.map_nil, pd, pieceAt, hat]⟩
        refine Tr.ent (pu_in hJ _) ?_
        refine rq_n (⟨y.ps ++ [(⟨mark, sumB s, s_n, y.at_, ⟨a38, ((s.take (min s_n (k * (min size.toNat s_n) + (min size.toNat s_n)))).drop (k * (min size.toNat s_n))), c38⟩⟩ : Piece)], a43, c43, ⟨a38, ((s.take (min s_n (k * (min size.toNat s_n) + (min size.toNat s_n)))).drop (k * (min size.toNat s_n))), c38⟩, y.at_ + (((s.take (min s_n (k * (min size.toNat s_n) + (min size.toNat s_n)))).drop (k * (min size.toNat s_n))).length : Int)⟩ : CY) ?_
        simp only [List.cons_append, List.nil_append]
        exact (by repeat (first | exact Ent.nil _ | exact Ent.refl _ | (refine Ent.pick (by repeat (first | exact Pick.here | apply Pick.there)) ?_) | refine Ent.skip ?_))
      · intro D y
        simp only [List.cons_append, List.nil_append]
        refine Tr.ent (Γ' := .obj D (.deferred (some [])) :: PU (CutJ mark s (min size.toNat s_n) ((partsV s_a s_n (min size.toNat s_n)).length) y) :: Bun (y.ps.map (rowP 5)) :: .row 95 6 y.a y.ps.length y.c (y.ps.flatMap encPiece) :: .pts b9 [.slice y.a y.ps.length y.c] 88 :: .pts x8 (encPiece (⟨mark, (sumB s), (s_n : Int), y.at_, y.l⟩ : Piece)) 95 :: .pts b3 (encMark mark) 87 :: Δ) (by repeat (first | refine Ent.pick Pick.here ?_ | exact Ent.app Δ _ | exact Ent.refl _)) ?_
        refine t_pu (by repeat (first | exact Pick.here | apply Pick.there)) fun hcj => ?_
        refine k_blk_n ?_
        refine k_then_n ?_
        refine c_seq ?_
        refine c_region ?_
        refine l_step (s_q rfl wn (q_loadp (v := .slice y.a y.ps.length y.c) sc_88 rfl (by repeat (first | exact Pick.here | apply Pick.there)) rfl) ?_)
        refine l_step (s_q rfl wn (q_assign rfl) ?_)
        refine l_step (s_q rfl wn (q_assign rfl) ?_)
        refine l_nil ?_
        refine k_then_n ?_
        refine c_ret ?_
        have hok : cutOk mark size = true := by unfold cutOk; rw [h0.1, decide_eq_true (by omega)]; rfl
        have hfin : y.ps.map pd = cutF mark s size := by rw [cutF_pos mark s size (by omega) (by omega)]; have := hcj.2; rw [partsV_len] at this; subst hs_n; exact this
        exact t_retM (Γ1 := PU (CutJ mark s (min size.toNat s_n) ((partsV s_a s_n (min size.toNat s_n)).length) y) :: Bun (y.ps.map (rowP 5)) :: .row 95 6 y.a y.ps.length y.c (y.ps.flatMap encPiece) :: .pts b9 [.slice y.a y.ps.length y.c] 88 :: .pts x8 (encPiece (⟨mark, (sumB s), (s_n : Int), y.at_, y.l⟩ : Piece)) 95 :: .pts b3 (encMark mark) 87 :: Δ) [.row 95 6 y.a y.ps.length y.c (y.ps.flatMap encPiece), Bun (y.ps.map (rowP 5))] (by repeat (first | exact Ent.nil _ | exact Ent.refl _ | (refine Ent.pick (by repeat (first | exact Pick.here | apply Pick.there)) ?_) | refine Ent.skip ?_)) rfl (.tmp rfl (.tmp rfl .nil)) rfl (Hp.le_refl _) ⟨rfl, y.a, y.c, y.ps, (by unfold cutE; rw [hok]; rfl), (by unfold cutG; rw [hok]; exact hfin), rfl⟩ (by repeat (first | exact Ent.nil _ | exact Ent.refl _ | (refine Ent.pick (by repeat (first | exact Pick.here | apply Pick.there)) ?_) | refine Ent.skip ?_))
      · intro D e; cases e

theorem takes_spec (h : Nat) (d : HD) (x : HX) (ps_a : Option Addr) (ps_n ps_c : Nat) (ps : List Piece) (hps_n : ps.length = ps_n) (ρ : Hp) (hi : HI d) (hl : ps_n ≤ 1000000000) (hps : Ro ρ 6 ps_a ps_n ps_c (ps.flatMap encPiece)) (hB : ∀ p ∈ ps, Ro ρ 1 p.B.a p.B.xs.length p.B.cap (p.B.xs.flatMap encB)) (hT : ∀ p ∈ ps, p.Total ≤ 1000000000) : Spec0 Try.prog 42 #[.pointer (some ⟨h, 0, none⟩), .slice ps_a ps_n ps_c] ρ [.pts h (encHeap (⟨d.most, d.of, d.on, ⟨x.a1, x.n1, x.c1⟩, ⟨x.a2, x.n2, x.c2⟩, d.left⟩ : Heap)) 138, .row 5 1 x.a1 x.n1 x.c1 (d.b.flatMap encB), .row 4 1 x.a2 x.n2 x.c2 (d.there.flatMap encO)] (fun v Γ' => ∃ x', v = .tuple #[.bool (takesF d ps).2.1, .int .i64 (takesF d ps).2.2] ∧ Γ' = (HeapM 138 5 4 h (takesF d ps).1 x')) := by
  refine spec_of (n := 44) (vs := [_, _]) (σ := [(0, _), (1, _)]) Try.func42 rfl rfl rfl rfl fun E Δ => ?_
  simp only [List.cons_append, List.nil_append]
  refine c_seq ?_
  refine c_region ?_
  refine l_step (s_q rfl wn (q_assign rfl) ?_)
  refine l_step (s_q rfl wn (q_assign rfl) ?_)
  refine l_nil ?_
  refine k_then_n ?_
  refine c_seq ?_
  refine c_seq ?_
  refine c_region ?_
  refine l_step (s_q rfl wn (q_move rfl) ?_)
  refine l_step (s_q rfl wn (q_len Try.underlying88 rfl) ?_)
  refine l_step (s_q rfl wn (q_move rfl) ?_)
  refine l_nil ?_
  refine k_then_n ?_
  refine c_block ?_
  refine Tr.env (σ' := [(0, _), (9, _), (10, _), (11, _)]) (.cons rfl rfl (.cons rfl rfl (.cons rfl rfl (.cons rfl rfl (.nil _))))) ?_
  refine t_loop (ι := Lp (Nat × HD × HX)) (fun x => x.d.1 ≤ ps_n ∧ takesF d ps = takesF x.d.2.1 (ps.drop x.d.1) ∧ HI x.d.2.1) (fun x => ps_n - x.d.1) (fun x => [(0, .pointer (some ⟨h, 0, none⟩)), (9, .slice ps_a ps_n ps_c), (10, .int .i64 (ps_n : Int)), (11, .int .i64 (x.d.1 : Int))]) (fun x => .pts h (encHeap (⟨x.d.2.1.most, x.d.2.1.of, x.d.2.1.on, ⟨x.d.2.2.a1, x.d.2.2.n1, x.d.2.2.c1⟩, ⟨x.d.2.2.a2, x.d.2.2.n2, x.d.2.2.c2⟩, x.d.2.1.left⟩ : Heap)) 138 :: .row 5 1 x.d.2.2.a1 x.d.2.2.n1 x.d.2.2.c1 (x.d.2.1.b.flatMap encB) :: .row 4 1 x.d.2.2.a2 x.d.2.2.n2 x.d.2.2.c2 (x.d.2.1.there.flatMap encO) :: Δ) (⟨(0, d, x), none, 0, none, 0, none, 0⟩ : Lp _) ⟨Nat.zero_le _, rfl, hi⟩ ?_ ?_ ?_
  · exact .cons rfl (by first | rfl | exact inte (by omega) | (simp; done) | (simp <;> omega) | simp [*]) (.cons rfl (by first | rfl | exact inte (by omega) | (simp; done) | (simp <;> omega) | simp [*]) (.cons rfl (by first | rfl | exact inte (by omega) | (simp; done) | (simp <;> omega) | simp [*]) (.cons rfl (by first | rfl | exact inte (by omega) | (simp; done) | (simp <;> omega) | simp [*]) (.nil _))))
  · exact (by repeat (first | exact Ent.nil _ | exact Ent.refl _ | (refine Ent.pick (by repeat (first | exact Pick.here | apply Pick.there)) ?_) | refine Ent.skip ?_))
  intro x hx
  obtain ⟨hx1, hx2, hx3⟩ := hx
  refine c_seq ?_
  refine c_region ?_
  refine l_step (s_q rfl wn (q_lss rfl rfl) ?_)
  refine l_nil ?_
  refine k_then_n ?_
  refine c_seq ?_
  refine c_cond rfl (fun h0 => ?_) (fun h0 => ?_)
  · (try dsimp only [heapOf] at h0); try simp only [Bool.and_eq_true, Bool.or_eq_true, Bool.not_eq_true', Bool.and_eq_false_iff, Bool.or_eq_false_iff, Bool.not_eq_false', decide_eq_true_eq, decide_eq_false_iff_not, Bool.not_eq_eq_eq_not, Bool.not_true, Bool.not_false, Bool.not_eq_true, Bool.not_eq_false, beq_iff_eq, bne_iff_ne, ne_eq, Decidable.not_not] at h0
    refine c_skip ?_
    refine k_then_n ?_
    refine c_seq ?_
    refine c_block ?_
    refine c_seq ?_
    refine c_region ?_
    have hmem : (ps.getD x.d.1 default) ∈ ps := getD_mem ps x.d.1 (by omega)
    have hTp := hT _ hmem
    have hBp := hB _ hmem
    have hokp := hx3.toHOk
    refine l_step (s_q rfl wn (q_indexe x.d.1 Try.underlying88 sz_95 rfl rfl (by first | assumption | exact rd_ro (by assumption) | exact rd_row (by repeat (first | exact Pick.here | apply Pick.there))) (by decide) rfl (by first | assumption | omega | (simp only [List.length_cons, List.length_nil]; omega))) ?_)
    refine l_step (s_q rfl wn (q_loadea (vs := encPiece (ps.getD x.d.1 default)) (enc := encPiece) (xs := ps) (j := x.d.1) (off := 0) ag_95 rfl (by first | assumption | exact rd_ro (by assumption) | exact rd_row (by repeat (first | exact Pick.here | apply Pick.there))) (fun _ => rfl) (by first | assumption | omega | (simp only [List.length_cons, List.length_nil]; omega)) (by simp [encPiece]) (by simp [encPiece]) rfl) ?_)
    refine l_step (s_s rfl wn (s_allocz (cs := encPiece zPiece) (by kernel_rfl)) ?_)
    rintro _ _ ⟨b7, rfl, rfl⟩
    refine l_step (s_s0 wn (s_storep (ws := encPiece (ps.getD x.d.1 default)) (cs := encPiece zPiece) (cs' := encPiece (ps.getD x.d.1 default)) rfl rfl rfl sz_95 (onePiece _) (by simp [encPiece, encPiece]) rfl (by repeat (first | exact Pick.here | apply Pick.there))) ?_)
    rintro _ _ ⟨rfl, rfl⟩
    refine l_nil ?_
    refine k_then_n ?_
    refine c_seq ?_
    refine c_region ?_
    refine l_step (s_q rfl wn (q_move rfl) ?_)
    refine l_step (s_q rfl wn (q_loadpa (vs := encPiece (ps.getD x.d.1 default)) ag_95 rfl (by repeat (first | exact Pick.here | apply Pick.there)) rfl) ?_)
    refine l_step (s_fnb rfl wn Try.func68 rfl (by kernel_rfl) rfl (by repeat (first | exact Sel.nil | exact Pick.here | apply Sel.cons | apply Pick.there)) (fun ρ' hL => take1_spec h x.d.2.1 x.d.2.2 (ps.getD x.d.1 default) ρ' (by assumption) (by first | assumption | omega) (by first | exact hL.ro (by assumption) | exact hL.row (by repeat (first | exact Pick.here | apply Pick.there)) | assumption)) ?_)
    rintro _ _ ⟨x17, rfl, rfl⟩
    try simp only [List.cons_append, List.nil_append]
    simp only [HeapM, List.cons_append, List.nil_append]
    refine l_step (s_q rfl wn (q_assign rfl) ?_)
    refine l_nil ?_
    refine k_then_n ?_
    refine c_seq ?_
    refine c_region ?_
    refine l_step (s_q rfl wn (q_move rfl) ?_)
    refine l_step (s_q rfl wn (q_neq rfl rfl) ?_)
    refine l_nil ?_
    refine k_then_n ?_
    refine c_cond rfl (fun h1 => ?_) (fun h1 => ?_)
    · (try dsimp only [heapOf] at h1); try simp only [Bool.and_eq_true, Bool.or_eq_true, Bool.not_eq_true', Bool.and_eq_false_iff, Bool.or_eq_false_iff, Bool.not_eq_false', decide_eq_true_eq, decide_eq_false_iff_not, Bool.not_eq_eq_eq_not, Bool.not_true, Bool.not_false, Bool.not_eq_true, Bool.not_eq_false, beq_iff_eq, bne_iff_ne, ne_eq, Decidable.not_not] at h1
      refine c_seq ?_
      refine c_region ?_
      refine l_step (s_q rfl wn (q_move rfl) ?_)
      refine l_step (s_q rfl wn (q_nilCheck rfl) ?_)
      refine l_step (s_q rfl wn (q_fieldp rfl fo_138_2) ?_)
      refine l_step (s_q rfl wn (q_loadp (v := .bool (((takeF x.d.2.1 (ps.getD x.d.1 default)).1).on)) sc_4 rfl (by repeat (first | exact Pick.here | apply Pick.there)) rfl) ?_)
      refine l_step (s_q rfl wn (q_move rfl) ?_)
      refine l_step (s_qg rfl (ask_t rfl rfl) (b := (((takeF x.d.2.1 (ps.getD x.d.1 default)).1).on)) (fun hb => q_move rfl) ?_)
      refine l_step (s_qg rfl (ask_t rfl rfl) (b := (((takeF x.d.2.1 (ps.getD x.d.1 default)).1).on)) (fun hb => OpQ.env (.cons rfl (gd_t hb) (.nil _) : EnvLe [(25, .pointer (some ⟨h, 0, none⟩))] _) (q_nilCheck rfl)) ?_)
      refine l_step (s_qg rfl (ask_t rfl rfl) (b := (((takeF x.d.2.1 (ps.getD x.d.1 default)).1).on)) (fun hb => OpQ.env (.cons rfl (gd_t hb) (.nil _) : EnvLe [(26, .pointer (some ⟨h, 0, none⟩))] _) (q_fieldp rfl fo_138_5)) ?_)
      refine l_step (s_qg rfl (ask_t rfl rfl) (b := (((takeF x.d.2.1 (ps.getD x.d.1 default)).1).on)) (fun hb => OpQ.env (.cons rfl (gd_t hb) (.nil _) : EnvLe [(27, .pointer (some ⟨h, 10, none⟩))] _) (q_loadp (v := .int .i64 (((takeF x.d.2.1 (ps.getD x.d.1 default)).1).left)) sc_3 rfl (by repeat (first | exact Pick.here | apply Pick.there)) rfl)) ?_)
      refine l_step (s_qg rfl (ask_t rfl rfl) (b := (((takeF x.d.2.1 (ps.getD x.d.1 default)).1).on)) (fun hb => OpQ.env (.cons rfl (gd_t hb) (.nil _) : EnvLe [(28, .int .i64 (((takeF x.d.2.1 (ps.getD x.d.1 default)).1).left))] _) (q_eql rfl rfl)) ?_)
      refine l_step (s_q rfl wn (q_pick_and rfl rfl rfl (fun h => h)) ?_)
      refine l_step (s_q rfl wn (q_move rfl) ?_)
      refine l_step (s_q rfl wn (q_assign rfl) ?_)
      refine l_step (s_q rfl wn (q_assign rfl) ?_)
      refine l_nil ?_
      refine k_then_n ?_
      refine c_ret ?_
      refine k_blk_r ?_
      refine k_then_r ?_
      refine k_then_r ?_
      refine k_blk_r ?_
      refine k_then_r ?_
      have hT := hx2.trans (takes_stop (by omega) h1)
      exact t_ret (HeapM 138 5 4 h (takeF x.d.2.1 (ps.getD x.d.1 default)).1 x17) rfl (.tmp rfl (.tmp rfl .nil)) rfl (Hp.le_refl _) ⟨rfl, x17, (by rw [hT]; rfl), (by rw [hT]; try rfl)⟩ (by simp only [HeapM, List.cons_append, List.nil_append]; exact (by repeat (first | exact Ent.nil _ | exact Ent.refl _ | (refine Ent.pick (by repeat (first | exact Pick.here | apply Pick.there)) ?_) | refine Ent.skip ?_)))
    · (try dsimp only [heapOf] at h1); try simp only [Bool.and_eq_true, Bool.or_eq_true, Bool.not_eq_true', Bool.and_eq_false_iff, Bool.or_eq_false_iff, Bool.not_eq_false', decide_eq_true_eq, decide_eq_false_iff_not, Bool.not_eq_eq_eq_not, Bool.not_true, Bool.not_false, Bool.not_eq_true, Bool.not_eq_false, beq_iff_eq, bne_iff_ne, ne_eq, Decidable.not_not] at h1
      have hst := takes_step (l := ps) (k := x.d.1) (by omega) h1
      refine c_skip ?_
      refine k_blk_n ?_
      refine k_then_n ?_
      refine c_region ?_
      refine l_step (s_q rfl wn (q_add rfl rfl (by omega) (by omega)) ?_)
      refine l_step (s_q rfl wn (q_move rfl) ?_)
      refine l_nil ?_
      refine k_then_n ?_
      exact t_next (⟨(x.d.1 + 1, (takeF x.d.2.1 (ps.getD x.d.1 default)).1, x17), none, 0, none, 0, none, 0⟩ : Lp _) ⟨⟨by simp only []; omega, hx2.trans hst, hi_take hx3 hTp⟩, by simp only []; omega⟩ (.cons rfl (by first | rfl | exact inte (by omega) | (simp; done) | (simp <;> omega) | simp [*]) (.cons rfl (by first | rfl | exact inte (by omega) | (simp; done) | (simp <;> omega) | simp [*]) (.cons rfl (by first | rfl | exact inte (by omega) | (simp; done) | (simp <;> omega) | simp [*]) (.cons rfl (by first | rfl | exact inte (by omega) | (simp; done) | (simp <;> omega) | simp [*]) (.nil _))))) (by repeat (first | exact Ent.nil _ | exact Ent.refl _ | (refine Ent.pick (by repeat (first | exact Pick.here | apply Pick.there)) ?_) | refine Ent.skip ?_))
  · (try dsimp only [heapOf] at h0); try simp only [Bool.and_eq_true, Bool.or_eq_true, Bool.not_eq_true', Bool.and_eq_false_iff, Bool.or_eq_false_iff, Bool.not_eq_false', decide_eq_true_eq, decide_eq_false_iff_not, Bool.not_eq_eq_eq_not, Bool.not_true, Bool.not_false, Bool.not_eq_true, Bool.not_eq_false, beq_iff_eq, bne_iff_ne, ne_eq, Decidable.not_not] at h0
    refine c_exit ?_
    refine k_then_x ?_
    refine k_then_x ?_
    refine k_blk_x ?_
    refine k_then_n ?_
    refine c_seq ?_
    refine c_region ?_
    refine l_step (s_q rfl wn (q_move rfl) ?_)
    refine l_step (s_q rfl wn (q_nilCheck rfl) ?_)
    refine l_step (s_q rfl wn (q_fieldp rfl fo_138_2) ?_)
    refine l_step (s_q rfl wn (q_loadp (v := .bool x.d.2.1.on) sc_4 rfl (by repeat (first | exact Pick.here | apply Pick.there)) rfl) ?_)
    refine l_step (s_q rfl wn (q_move rfl) ?_)
    refine l_step (s_qg rfl (ask_t rfl rfl) (b := x.d.2.1.on) (fun hb => q_move rfl) ?_)
    refine l_step (s_qg rfl (ask_t rfl rfl) (b := x.d.2.1.on) (fun hb => OpQ.env (.cons rfl (gd_t hb) (.nil _) : EnvLe [(38, .pointer (some ⟨h, 0, none⟩))] _) (q_nilCheck rfl)) ?_)
    refine l_step (s_qg rfl (ask_t rfl rfl) (b := x.d.2.1.on) (fun hb => OpQ.env (.cons rfl (gd_t hb) (.nil _) : EnvLe [(39, .pointer (some ⟨h, 0, none⟩))] _) (q_fieldp rfl fo_138_5)) ?_)
    refine l_step (s_qg rfl (ask_t rfl rfl) (b := x.d.2.1.on) (fun hb => OpQ.env (.cons rfl (gd_t hb) (.nil _) : EnvLe [(40, .pointer (some ⟨h, 10, none⟩))] _) (q_loadp (v := .int .i64 x.d.2.1.left) sc_3 rfl (by repeat (first | exact Pick.here | apply Pick.there)) rfl)) ?_)
    refine l_step (s_qg rfl (ask_t rfl rfl) (b := x.d.2.1.on) (fun hb => OpQ.env (.cons rfl (gd_t hb) (.nil _) : EnvLe [(41, .int .i64 x.d.2.1.left)] _) (q_eql rfl rfl)) ?_)
    refine l_step (s_q rfl wn (q_pick_and rfl rfl rfl (fun h => h)) ?_)
    refine l_step (s_q rfl wn (q_assign rfl) ?_)
    refine l_step (s_q rfl wn (q_assign rfl) ?_)
    refine l_nil ?_
    refine k_then_n ?_
    refine c_ret ?_
    have hk : x.d.1 = ps.length := by omega
    rw [hk, List.drop_length] at hx2
    have hT := hx2
    exact t_ret (HeapM 138 5 4 h x.d.2.1 x.d.2.2) rfl (.tmp rfl (.tmp rfl .nil)) rfl (Hp.le_refl _) ⟨rfl, x.d.2.2, (by rw [hT]; rfl), (by rw [hT]; try rfl)⟩ (by simp only [HeapM, List.cons_append, List.nil_append]; exact (by repeat (first | exact Ent.nil _ | exact Ent.refl _ | (refine Ent.pick (by repeat (first | exact Pick.here | apply Pick.there)) ?_) | refine Ent.skip ?_)))
end Go.Chk.C

/-
  Walked.
-/
import Derived.Test.YtijldgggjioccaaGreatDoorShfA
import Derived.Test.YtijldgggjioccaaGreatDoorProg
set_option maxRecDepth 100000
set_option maxHeartbeats 4000000
set_option linter.unusedSimpArgs false
set_option linter.unusedVariables false
namespace Go.Shf
open Go Go.SL Go.Proofs Go.Mou Go.Dsk Go.Hrd
attribute [local irreducible] Go.SL.Ent
theorem sz_5 : sizeIs Tryz.prog 5 = some 1 := by kernel_rfl
theorem zc_26 : zeroCs Tryz.prog 26 = some [.int .i64 0, .int .i64 0, .slice none 0 0, .slice none 0 0] := by kernel_rfl
theorem pl_26 : placesOf Tryz.prog 26 = some [(0, 2), (2, 1), (3, 1)] := by kernel_rfl
theorem sc_5 : isScalar Tryz.prog 5 = true := by kernel_rfl
theorem sz_131 : sizeIs Tryz.prog 131 = some 3 := by kernel_rfl
theorem fo_131_2 : fieldOff Tryz.prog 131 2 = some (2, 129) := by kernel_rfl
theorem sc_129 : isScalar Tryz.prog 129 = true := by kernel_rfl
theorem fo_131_0 : fieldOff Tryz.prog 131 0 = some (0, 128) := by kernel_rfl
theorem sc_128 : isScalar Tryz.prog 128 = true := by kernel_rfl
theorem zc_24 : zeroCs Tryz.prog 24 = some [.int .i64 0, .int .i64 0] := by kernel_rfl
theorem pl_24 : placesOf Tryz.prog 24 = some [(0, 1), (1, 1)] := by kernel_rfl
theorem fo_131_1 : fieldOff Tryz.prog 131 1 = some (1, 22) := by kernel_rfl
theorem ag_24 : aggSize Tryz.prog 24 = some 2 := by kernel_rfl

theorem named_spec (s : (List UInt8)) (ρ : Hp) (hs : s.length ≤ 9223372036854775807) : Spec0 Tryz.prog 70 #[(strB s)] ρ [] (fun v Γ' => v = .tuple #[.int .i64 ((namN s)), .bool ((namB s))] ∧ Γ' = []) := by
  refine spec_of (n := 31) (vs := [_]) (σ := [(0, _)]) Tryz.func70 rfl rfl rfl rfl fun E Δ => ?_
  rw [List.nil_append]
  have htl := trimp_len s pre5
  refine sr ?_
  refine e_as rfl ?_
  refine e_as rfl ?_
  refine l_n ?_
  refine sr ?_
  refine e_mv rfl ?_
  refine l_step (s_fnq rfl wn Tryz.func149 rfl (by kernel_rfl) rfl (fun ρ' hL => Go.Shf.L.cutp s pre5 ρ') ?_)
  refine e_mv rfl ?_
  refine e_q (q_extract rfl rfl) ?_
  refine e_q (q_extract rfl rfl) ?_
  refine e_as rfl ?_
  refine e_as rfl ?_
  refine l_n ?_
  refine c_seq ?_
  refine sr ?_
  refine e_mv rfl ?_
  refine e_q (q_not rfl) ?_
  refine e_mv rfl ?_
  refine t_split (d := 15) rfl (fun g2_2 => ?_) (fun g2_2 => ?_)
  · try simp only [Bool.not_eq_true', Bool.not_eq_false', Bool.not_eq_true, Bool.not_eq_false, ne_eq, Decidable.not_not] at g2_2
    have hh2 : (Lib.hasPrefix s pre5) = false := g2_2
    refine l_step (s_no rfl (wno rfl rfl (by decide)) ?_)
    refine l_step (s_no rfl (wno rfl rfl (by decide)) ?_)
    refine l_step (s_no rfl (wno rfl rfl (by decide)) ?_)
    refine e_q (q_pick rfl rfl rfl) ?_
    refine e_mv rfl ?_
    refine l_step (s_no rfl (wno rfl rfl (by decide)) ?_)
    refine l_step (s_no rfl (wno rfl rfl (by decide)) ?_)
    refine l_step (s_no rfl (wno rfl rfl (by decide)) ?_)
    refine e_q (q_pick rfl rfl rfl) ?_
    refine l_n ?_
    refine c_yes rfl ?_
    refine sr ?_
    refine e_as rfl ?_
    refine e_as rfl ?_
    refine l_n ?_
    refine c_ret ?_
    refine k_then_r ?_
    obtain ⟨hr1, hr2⟩ := nam_no (s := s) (if_neg (fun h9 => by have h8 := h9.1; rw [hh2] at h8; cases h8))
    rw [hr1, hr2]
    exact t_rt [] rfl (.tmp rfl (.tmp rfl .nil)) rfl ⟨rfl, rfl, rfl⟩ (by (repeat refine Ent.skip ?_); exact Ent.refl _)
  · try simp only [Bool.not_eq_true', Bool.not_eq_false', Bool.not_eq_true, Bool.not_eq_false, ne_eq, Decidable.not_not] at g2_2
    have hh2 : (Lib.hasPrefix s pre5) = true := g2_2
    refine e_qw (wy rfl rfl rfl) (q_move rfl) ?_
    refine e_qw (wy rfl rfl rfl) (q_lensB Tryz.underlying9 rfl) ?_
    refine e_qw (wy rfl rfl rfl) (q_neq rfl rfl) ?_
    refine e_q (q_pick rfl rfl rfl) ?_
    refine e_mv rfl ?_
    refine t_split (d := 20) rfl (fun g2_7 => ?_) (fun g2_7 => ?_)
    · try simp only [decide_eq_true_eq, decide_eq_false_iff_not, ne_eq, Decidable.not_not] at g2_7
      refine l_step (s_no rfl (wno rfl rfl (by decide)) ?_)
      refine l_step (s_no rfl (wno rfl rfl (by decide)) ?_)
      refine l_step (s_no rfl (wno rfl rfl (by decide)) ?_)
      refine e_q (q_pick rfl rfl rfl) ?_
      refine l_n ?_
      refine c_yes rfl ?_
      refine sr ?_
      refine e_as rfl ?_
      refine e_as rfl ?_
      refine l_n ?_
      refine c_ret ?_
      refine k_then_r ?_
      obtain ⟨hr1, hr2⟩ := nam_no (s := s) (if_neg (fun h9 => by have h8 := h9.2.1; omega))
      rw [hr1, hr2]
      exact t_rt [] rfl (.tmp rfl (.tmp rfl .nil)) rfl ⟨rfl, rfl, rfl⟩ (by (repeat refine Ent.skip ?_); exact Ent.refl _)
    · try simp only [decide_eq_true_eq, decide_eq_false_iff_not, ne_eq, Decidable.not_not] at g2_7
      have hl10 : (Lib.trimPrefix s pre5).length = 10 := by omega
      refine e_qw (wy rfl rfl rfl) (q_move rfl) ?_
      refine l_step (s_fnq rfl (wy rfl rfl rfl) Tryz.func150 rfl (by kernel_rfl) rfl (fun ρ' hL => trim_s Go.Dsk.L.trimA (by kernel_rfl) (Lib.trimPrefix s pre5) digs (by omega) (by decide) (by decide) ρ') ?_)
      refine e_qw (wy rfl rfl rfl) (q_neqsB (p := (Lib.trimS (Lib.trimPrefix s pre5) digs)) (q := []) rfl rfl) ?_
      refine e_q (q_pick rfl rfl rfl) ?_
      refine l_n ?_
      refine c_cond rfl (fun h0 => ?_) (fun h0 => ?_)
      · skip
        replace h0 : ¬ Lib.trimS (Lib.trimPrefix s pre5) digs = [] := by have h9 := h0; rw [Bool.not_eq_true', decide_eq_false_iff_not] at h9; exact h9
        refine sr ?_
        refine e_as rfl ?_
        refine e_as rfl ?_
        refine l_n ?_
        refine c_ret ?_
        refine k_then_r ?_
        obtain ⟨hr1, hr2⟩ := nam_no (s := s) (if_neg (fun h9 => h0 h9.2.2))
        rw [hr1, hr2]
        exact t_rt [] rfl (.tmp rfl (.tmp rfl .nil)) rfl ⟨rfl, rfl, rfl⟩ (by (repeat refine Ent.skip ?_); exact Ent.refl _)
      · skip
        have hz10 : Lib.trimS (Lib.trimPrefix s pre5) digs = [] := by have h9 := h0; rw [Bool.not_eq_false', decide_eq_true_eq] at h9; exact h9
        obtain ⟨nn, hnn⟩ := atoi_all hl10 hz10
        refine c_skip ?_
        refine k_then_n ?_
        refine sr ?_
        refine e_mv rfl ?_
        refine l_step (s_fnq rfl wn Tryz.func151 rfl (by kernel_rfl) rfl (fun ρ' hL => Go.Shf.L.atoi (Lib.trimPrefix s pre5) (nn : Int) (by omega) hnn ρ') ?_)
        refine e_mv rfl ?_
        refine e_q (q_extract rfl rfl) ?_
        refine e_q (q_extract rfl rfl) ?_
        refine e_as rfl ?_
        refine e_as rfl ?_
        refine l_n ?_
        refine sr ?_
        refine e_mv rfl ?_
        refine e_as rfl ?_
        refine e_as rfl ?_
        refine l_n ?_
        refine c_ret ?_
        obtain ⟨hr1, hr2⟩ := nam_yes (s := s) ((if_pos ⟨hh2, hl10, hz10⟩).trans hnn)
        rw [hr1, hr2]
        exact t_rt [] rfl (.tmp rfl (.tmp rfl .nil)) rfl ⟨rfl, rfl, rfl⟩ (by (repeat refine Ent.skip ?_); exact Ent.refl _)

theorem parse_spec (B : SL UInt8) (ρ : Hp) (hB : B.ro encB 1 ρ) (hbl : B.xs.length ≤ 1000000000000) : Spec0 Tryz.prog 13 #[.slice B.a B.xs.length B.cap] ρ [] (fun v Γ' => ∃ y : Snap1, v = .tuple #[.agg (encSnap1 y).toArray, .int .i64 (parseX B.xs).1] ∧ pS y = (parseX B.xs).2 ∧ Γ' = [.row 5 1 y.Conf.a y.Conf.xs.length y.Conf.cap (y.Conf.xs.flatMap encB), .row 5 1 y.Body.a y.Body.xs.length y.Body.cap (y.Body.xs.flatMap encB)]) := by
  refine spec_of (n := 96) (vs := [_]) (σ := [(0, _)]) Tryz.func13 rfl rfl rfl rfl fun E Δ => ?_
  rw [List.nil_append]
  have hcp9 : B.xs.length ≤ B.cap := hB.2.1
  refine sr ?_
  refine e_s (s_allocz (cs := encSnap1 zSnap1) (by kernel_rfl)) ?_
  rintro _ _ ⟨b2, rfl, rfl⟩
  refine e_as rfl ?_
  refine l_n ?_
  refine c_seq ?_
  refine c_block ?_
  refine sr ?_
  refine e_mv rfl ?_
  refine e_q (q_len Tryz.underlying22 rfl) ?_
  refine e_q (q_lss rfl rfl) ?_
  refine e_as rfl ?_
  refine l_n ?_
  refine c_cond rfl (fun h0 => ?_) (fun h0 => ?_)
  · try simp only [decide_eq_true_eq, decide_eq_false_iff_not] at h0
    refine sr ?_
    refine e_q (q_build (cs := encSnap1 (⟨zMark1, ⟨none, [], 0⟩, ⟨none, [], 0⟩⟩ : Snap1)) zc_26 pl_26 rfl rfl) ?_
    refine l_step (s_s0 wn (s_storep (ws := encSnap1 (⟨zMark1, ⟨none, [], 0⟩, ⟨none, [], 0⟩⟩ : Snap1)) (cs := encSnap1 zSnap1) (cs' := encSnap1 (⟨zMark1, ⟨none, [], 0⟩, ⟨none, [], 0⟩⟩ : Snap1)) rfl rfl rfl sz_26 (oneSnap1 _) (by simp [encSnap1, encSnap1]) rfl pk_) ?_)
    rintro _ _ ⟨rfl, rfl⟩
    refine e_as rfl ?_
    refine l_n ?_
    refine c_ret ?_
    refine k_blk_r ?_
    refine k_then_r ?_
    have hr : (parseX B.xs) = (11, zPS) := px_short (by omega)
    refine Tr.ent (Ent.nilrow 5 1 _) ?_
    refine Tr.ent (Ent.nilrow 5 1 _) ?_
    exact t_rt [.row 5 1 none 0 0 (([] : List UInt8).flatMap encB), .row 5 1 none 0 0 (([] : List UInt8).flatMap encB)] rfl (.cell rfl pk_ (fun w h => ld_agg (by exact ag_26) h) (.tmp rfl .nil)) rfl ⟨rfl, zSnap1, by rw [hr]; rfl, by rw [hr]; rfl, rfl⟩
  · try simp only [decide_eq_true_eq, decide_eq_false_iff_not] at h0
    refine c_seq ?_
    refine d_r 28 [.pts b2 (encSnap1 zSnap1) 26] ?_
    refine d_t 0 rfl wn (q_move rfl) ?_
    refine d_t 1 rfl wn (q_indexe 0 Tryz.underlying22 sz_5 rfl rfl (by first | assumption | exact rd_ro (by assumption) | exact rd_row pk_) (by decide) rfl (by first | assumption | omega | (simp only [List.length_cons, List.length_nil]; omega))) ?_
    refine d_t 2 rfl wn (q_loade (enc := encB) (xs := B.xs) (j := 0) (off := 0) sc_5 rfl (by first | assumption | exact rd_ro (by assumption) | exact rd_row pk_) (fun _ => rfl) (by first | assumption | omega | (simp only [List.length_cons, List.length_nil]; omega)) (by decide) rfl) ?_
    refine d_t 3 rfl wn (q_as (v := .int .u32 (((UInt8.toBitVec (B.xs.getD 0 default)).setWidth 32).toNat : Int)) (q_conv rfl Tryz.underlying5 Tryz.underlying126 (wrap_u32 (by omega) (by have := UInt8.toNat_lt (B.xs.getD 0 default); omega))) (inte (b2w _))) ?_
    refine d_t 4 rfl wn (q32_shl (p := ((UInt8.toBitVec (B.xs.getD 0 default)).setWidth 32)) (m := 24) rfl rfl rfl rfl (by omega)) ?_
    refine d_t 5 rfl wn (q_move rfl) ?_
    refine d_t 6 rfl wn (q_indexe 1 Tryz.underlying22 sz_5 rfl rfl (by first | assumption | exact rd_ro (by assumption) | exact rd_row pk_) (by decide) rfl (by first | assumption | omega | (simp only [List.length_cons, List.length_nil]; omega))) ?_
    refine d_t 7 rfl wn (q_loade (enc := encB) (xs := B.xs) (j := 1) (off := 0) sc_5 rfl (by first | assumption | exact rd_ro (by assumption) | exact rd_row pk_) (fun _ => rfl) (by first | assumption | omega | (simp only [List.length_cons, List.length_nil]; omega)) (by decide) rfl) ?_
    refine d_t 8 rfl wn (q_as (v := .int .u32 (((UInt8.toBitVec (B.xs.getD 1 default)).setWidth 32).toNat : Int)) (q_conv rfl Tryz.underlying5 Tryz.underlying126 (wrap_u32 (by omega) (by have := UInt8.toNat_lt (B.xs.getD 1 default); omega))) (inte (b2w _))) ?_
    refine d_t 9 rfl wn (q32_shl (p := ((UInt8.toBitVec (B.xs.getD 1 default)).setWidth 32)) (m := 16) rfl rfl rfl rfl (by omega)) ?_
    refine d_t 10 rfl wn (q32_or (p := (((UInt8.toBitVec (B.xs.getD 0 default)).setWidth 32) <<< 24)) (q := (((UInt8.toBitVec (B.xs.getD 1 default)).setWidth 32) <<< 16)) rfl rfl rfl rfl) ?_
    refine d_t 11 rfl wn (q_move rfl) ?_
    refine d_t 12 rfl wn (q_indexe 2 Tryz.underlying22 sz_5 rfl rfl (by first | assumption | exact rd_ro (by assumption) | exact rd_row pk_) (by decide) rfl (by first | assumption | omega | (simp only [List.length_cons, List.length_nil]; omega))) ?_
    refine d_t 13 rfl wn (q_loade (enc := encB) (xs := B.xs) (j := 2) (off := 0) sc_5 rfl (by first | assumption | exact rd_ro (by assumption) | exact rd_row pk_) (fun _ => rfl) (by first | assumption | omega | (simp only [List.length_cons, List.length_nil]; omega)) (by decide) rfl) ?_
    refine d_t 14 rfl wn (q_as (v := .int .u32 (((UInt8.toBitVec (B.xs.getD 2 default)).setWidth 32).toNat : Int)) (q_conv rfl Tryz.underlying5 Tryz.underlying126 (wrap_u32 (by omega) (by have := UInt8.toNat_lt (B.xs.getD 2 default); omega))) (inte (b2w _))) ?_
    refine d_t 15 rfl wn (q32_shl (p := ((UInt8.toBitVec (B.xs.getD 2 default)).setWidth 32)) (m := 8) rfl rfl rfl rfl (by omega)) ?_
    refine d_t 16 rfl wn (q32_or (p := ((((UInt8.toBitVec (B.xs.getD 0 default)).setWidth 32) <<< 24) ||| (((UInt8.toBitVec (B.xs.getD 1 default)).setWidth 32) <<< 16))) (q := (((UInt8.toBitVec (B.xs.getD 2 default)).setWidth 32) <<< 8)) rfl rfl rfl rfl) ?_
    refine d_t 17 rfl wn (q_move rfl) ?_
    refine d_t 18 rfl wn (q_indexe 3 Tryz.underlying22 sz_5 rfl rfl (by first | assumption | exact rd_ro (by assumption) | exact rd_row pk_) (by decide) rfl (by first | assumption | omega | (simp only [List.length_cons, List.length_nil]; omega))) ?_
    refine d_t 19 rfl wn (q_loade (enc := encB) (xs := B.xs) (j := 3) (off := 0) sc_5 rfl (by first | assumption | exact rd_ro (by assumption) | exact rd_row pk_) (fun _ => rfl) (by first | assumption | omega | (simp only [List.length_cons, List.length_nil]; omega)) (by decide) rfl) ?_
    refine d_t 20 rfl wn (q_as (v := .int .u32 (((UInt8.toBitVec (B.xs.getD 3 default)).setWidth 32).toNat : Int)) (q_conv rfl Tryz.underlying5 Tryz.underlying126 (wrap_u32 (by omega) (by have := UInt8.toNat_lt (B.xs.getD 3 default); omega))) (inte (b2w _))) ?_
    refine d_t 21 rfl wn (q32_or (p := (((((UInt8.toBitVec (B.xs.getD 0 default)).setWidth 32) <<< 24) ||| (((UInt8.toBitVec (B.xs.getD 1 default)).setWidth 32) <<< 16)) ||| (((UInt8.toBitVec (B.xs.getD 2 default)).setWidth 32) <<< 8))) (q := ((UInt8.toBitVec (B.xs.getD 3 default)).setWidth 32)) rfl rfl rfl rfl) ?_
    refine d_t 22 rfl wn (q_move rfl) ?_
    refine d_t 23 rfl wn (q_as (v := .slice (sh B.a B.cap 4 1) (B.xs.drop 4).length (B.cap - 4)) (q_cut_lo Tryz.underlying22 sz_5 rfl rfl (by omega) (by omega)) (by rw [List.length_drop]; rfl)) ?_
    refine d_1 24 ?_
    refine o_step rfl (s_s rfl wn (s_buildSlice (cs := ([(dropS B 4)] : List (SL UInt8)).flatMap encSL) Tryz.underlying37 eo_22 rfl rfl rfl rfl (by decide) (by decide)) ?_)
    rintro _ _ ⟨b37, rfl, rfl⟩
    refine d_c ?_
    refine d_1 25 ?_
    refine o_step rfl (s_fnq rfl wn Tryz.func62 rfl (by kernel_rfl) rfl (fun ρ' hL => Go.Sm.fits_spec (beW (B.xs.getD 0 default) (B.xs.getD 1 default) (B.xs.getD 2 default) (B.xs.getD 3 default)) (some ⟨b37, 0, none⟩) 1 1 [(dropS B 4)] rfl ρ' (hL.row pk_) (by intro s hs; rw [List.mem_singleton.1 hs]; exact ((Suf.drop B (show 4 ≤ B.xs.length by omega)).1 ρ' (Ro.mono hL.1 hB)))) ?_)
    refine d_c ?_
    refine d_t 26 rfl wn (q_not rfl) ?_
    refine d_t 27 rfl wn (q_assign rfl) ?_
    refine d_d ?_
    refine k_then_n ?_
    refine c_cond rfl (fun h1 => ?_) (fun h1 => ?_)
    · skip
      have hsm : ¬ Go.Sm.sumB (Go.Sm.catB [(dropS B 4)]) = (beW (B.xs.getD 0 default) (B.xs.getD 1 default) (B.xs.getD 2 default) (B.xs.getD 3 default)) := by have h9 := h1; rw [Bool.not_eq_true', decide_eq_false_iff_not] at h9; exact h9
      refine sr ?_
      refine e_q (q_build (cs := encSnap1 (⟨zMark1, ⟨none, [], 0⟩, ⟨none, [], 0⟩⟩ : Snap1)) zc_26 pl_26 rfl rfl) ?_
      refine l_step (s_s0 wn (s_storep (ws := encSnap1 (⟨zMark1, ⟨none, [], 0⟩, ⟨none, [], 0⟩⟩ : Snap1)) (cs := encSnap1 zSnap1) (cs' := encSnap1 (⟨zMark1, ⟨none, [], 0⟩, ⟨none, [], 0⟩⟩ : Snap1)) rfl rfl rfl sz_26 (oneSnap1 _) (by simp [encSnap1, encSnap1]) rfl pk_) ?_)
      rintro _ _ ⟨rfl, rfl⟩
      refine e_as rfl ?_
      refine l_n ?_
      refine c_ret ?_
      refine k_blk_r ?_
      refine k_then_r ?_
      have hr : (parseX B.xs) = (51, zPS) := px_sum (by omega) (fun h9 => hsm ((congrArg Go.Sm.sumB (Go.Sm.catB_one _)).trans h9))
      refine Tr.ent (Ent.nilrow 5 1 _) ?_
      refine Tr.ent (Ent.nilrow 5 1 _) ?_
      exact t_rt [.row 5 1 none 0 0 (([] : List UInt8).flatMap encB), .row 5 1 none 0 0 (([] : List UInt8).flatMap encB)] rfl (.cell rfl pk_ (fun w h => ld_agg (by exact ag_26) h) (.tmp rfl .nil)) rfl ⟨rfl, zSnap1, by rw [hr]; rfl, by rw [hr]; rfl, rfl⟩
    · skip
      have hsm : Go.Sm.sumB (Go.Sm.catB [(dropS B 4)]) = (beW (B.xs.getD 0 default) (B.xs.getD 1 default) (B.xs.getD 2 default) (B.xs.getD 3 default)) := by have h9 := h1; rw [Bool.not_eq_false', decide_eq_true_eq] at h9; exact h9
      refine c_skip ?_
      refine k_blk_n ?_
      refine k_then_n ?_
      refine sr ?_
      refine e_mv rfl ?_
      refine e_q (q_as (v := .slice (sh B.a B.cap 4 1) (B.xs.drop 4).length (B.cap - 4)) (q_cut_lo Tryz.underlying22 sz_5 rfl rfl (by omega) (by omega)) (by rw [List.length_drop]; rfl)) ?_
      refine e_fn Tryz.func63 rfl sl_ (fun ρ' hL => Go.Mou.Take_spec sh4 (dropS B 4) ρ' (by decide) (by decide) (by decide) ((Suf.drop B (show 4 ≤ B.xs.length by omega)).1 ρ' (Ro.mono hL.1 hB)) (by show (B.xs.drop 4).length ≤ _; rw [List.length_drop]; omega)) ?_
      rintro _ _ ⟨v3, e3, rfl, rfl, hT3⟩
      try simp only [List.cons_append, List.nil_append]
      have hT4 : RTake sh4 (B.xs.drop 4) v3.pv e3 := hT3
      refine e_mv rfl ?_
      refine e_q (q_extract rfl rfl) ?_
      refine e_q (q_extract rfl rfl) ?_
      refine e_s (s_allocz (cs := encVal1 zVal1) (by kernel_rfl)) ?_
      rintro _ _ ⟨b4, rfl, rfl⟩
      refine l_step (s_s0 wn (s_storep (ws := encVal1 v3.val) (cs := encVal1 zVal1) (cs' := encVal1 v3.val) rfl rfl rfl sz_131 (oneVal1 _) (by simp [encVal1, encVal1]) rfl pk_) ?_)
      rintro _ _ ⟨rfl, rfl⟩
      refine e_as rfl ?_
      refine l_n ?_
      refine c_seq ?_
      refine sr ?_
      refine e_mv rfl ?_
      refine e_q (q_neq rfl rfl) ?_
      refine l_n ?_
      refine c_cond rfl (fun h2 => ?_) (fun h2 => ?_)
      · try simp only [decide_eq_true_eq, decide_eq_false_iff_not, ne_eq, Decidable.not_not] at h2
        refine sr ?_
        refine e_q (q_build (cs := encSnap1 (⟨zMark1, ⟨none, [], 0⟩, ⟨none, [], 0⟩⟩ : Snap1)) zc_26 pl_26 rfl rfl) ?_
        refine e_mv rfl ?_
        refine l_step (s_s0 wn (s_storep (ws := encSnap1 (⟨zMark1, ⟨none, [], 0⟩, ⟨none, [], 0⟩⟩ : Snap1)) (cs := encSnap1 zSnap1) (cs' := encSnap1 (⟨zMark1, ⟨none, [], 0⟩, ⟨none, [], 0⟩⟩ : Snap1)) rfl rfl rfl sz_26 (oneSnap1 _) (by simp [encSnap1, encSnap1]) rfl pk_) ?_)
        rintro _ _ ⟨rfl, rfl⟩
        refine e_as rfl ?_
        refine l_n ?_
        refine c_ret ?_
        refine k_then_r ?_
        have hr : (parseX B.xs) = (e3, zPS) := px_err (by omega) (by have h9 : Go.Sm.sumB (Go.Sm.catB [(dropS B 4)]) = (beW (B.xs.getD 0 default) (B.xs.getD 1 default) (B.xs.getD 2 default) (B.xs.getD 3 default)) := hsm; rw [Go.Sm.catB_one] at h9; exact h9) hT4 h2
        refine Tr.ent (Ent.nilrow 5 1 _) ?_
        refine Tr.ent (Ent.nilrow 5 1 _) ?_
        exact t_rt [.row 5 1 none 0 0 (([] : List UInt8).flatMap encB), .row 5 1 none 0 0 (([] : List UInt8).flatMap encB)] rfl (.cell rfl pk_ (fun w h => ld_agg (by exact ag_26) h) (.tmp rfl .nil)) rfl ⟨rfl, zSnap1, by rw [hr]; rfl, by rw [hr]; rfl, rfl⟩
      · try simp only [decide_eq_true_eq, decide_eq_false_iff_not, ne_eq, Decidable.not_not] at h2
        refine c_skip ?_
        refine k_then_n ?_
        refine c_seq ?_
        refine sr ?_
        have hl4 : v3.L.length = 4 := by have h9 := rt_len hT4 (by omega); rwa [pv_L, List.length_map] at h9
        obtain ⟨w0, w1, w2, w3, hL4⟩ := four hl4
        obtain ⟨hvx, hbg⟩ := val4 hL4
        rw [vval4 hL4]
        refine Tr.ent (v_open4 (tu := 5) (tv := 131) hL4 pk_) ?_
        refine e_q (q_fieldp rfl fo_131_2) ?_
        refine e_q (q_loadp (v := .slice v3.a 4 v3.cap) sc_129 rfl pk_ rfl) ?_
        refine e_q (q_indexe 0 Tryz.underlying129 sz_131 rfl rfl (rd_row pk_) (by decide) rfl (by first | assumption | omega | (simp only [List.length_cons, List.length_nil]; omega))) ?_
        refine e_q (q_fielde rfl fo_131_0) ?_
        refine e_q (q_loade (enc := encVal1) (xs := [w0.val, w1.val, w2.val, w3.val]) (j := 0) (off := 0) sc_128 rfl (rd_row pk_) (fun _ => rfl) (by first | assumption | omega | (simp only [List.length_cons, List.length_nil]; omega)) (by decide) rfl) ?_
        refine e_q (q_geq rfl rfl) ?_
        refine e_mv rfl ?_
        refine t_split (d := 57) rfl (fun g8_6 => ?_) (fun g8_6 => ?_)
        · try simp only [decide_eq_true_eq, decide_eq_false_iff_not] at g8_6
          have h83 : 10000000000 ≤ w0.N := by have h9 : (10000000000 : Int) ≤ (w0.N : Int) := g8_6; omega
          refine l_step (s_no rfl (wno rfl rfl (by decide)) ?_)
          refine l_step (s_no rfl (wno rfl rfl (by decide)) ?_)
          refine l_step (s_no rfl (wno rfl rfl (by decide)) ?_)
          refine l_step (s_no rfl (wno rfl rfl (by decide)) ?_)
          refine l_step (s_no rfl (wno rfl rfl (by decide)) ?_)
          refine l_step (s_no rfl (wno rfl rfl (by decide)) ?_)
          refine e_q (q_pick rfl rfl rfl) ?_
          refine l_n ?_
          refine c_yes rfl ?_
          refine sr ?_
          refine e_q (q_build (cs := encSnap1 (⟨zMark1, ⟨none, [], 0⟩, ⟨none, [], 0⟩⟩ : Snap1)) zc_26 pl_26 rfl rfl) ?_
          refine l_step (s_s0 wn (s_storep (ws := encSnap1 (⟨zMark1, ⟨none, [], 0⟩, ⟨none, [], 0⟩⟩ : Snap1)) (cs := encSnap1 zSnap1) (cs' := encSnap1 (⟨zMark1, ⟨none, [], 0⟩, ⟨none, [], 0⟩⟩ : Snap1)) rfl rfl rfl sz_26 (oneSnap1 _) (by simp [encSnap1, encSnap1]) rfl pk_) ?_)
          rintro _ _ ⟨rfl, rfl⟩
          refine e_as rfl ?_
          refine l_n ?_
          refine c_ret ?_
          refine k_then_r ?_
          have hr : (parseX B.xs) = (13, zPS) := px_big (by omega) (by have h9 : Go.Sm.sumB (Go.Sm.catB [(dropS B 4)]) = (beW (B.xs.getD 0 default) (B.xs.getD 1 default) (B.xs.getD 2 default) (B.xs.getD 3 default)) := hsm; rw [Go.Sm.catB_one] at h9; exact h9) hT4 (by omega) (.inl (hbg.trans (by rw [decide_eq_true (show 10000000000 ≤ w0.N from h83)]; rfl)))
          refine Tr.ent (Ent.nilrow 5 1 _) ?_
          refine Tr.ent (Ent.nilrow 5 1 _) ?_
          exact t_rt [.row 5 1 none 0 0 (([] : List UInt8).flatMap encB), .row 5 1 none 0 0 (([] : List UInt8).flatMap encB)] rfl (.cell rfl pk_ (fun w h => ld_agg (by exact ag_26) h) (.tmp rfl .nil)) rfl ⟨rfl, zSnap1, by rw [hr]; rfl, by rw [hr]; rfl, rfl⟩
        · try simp only [decide_eq_true_eq, decide_eq_false_iff_not] at g8_6
          have h83 : ¬ 10000000000 ≤ w0.N := by have h9 : ¬ (10000000000 : Int) ≤ (w0.N : Int) := g8_6; omega
          refine e_qw (wy rfl rfl rfl) (q_fieldp rfl fo_131_2) ?_
          refine e_qw (wy rfl rfl rfl) (q_loadp (v := .slice v3.a 4 v3.cap) sc_129 rfl pk_ rfl) ?_
          refine e_qw (wy rfl rfl rfl) (q_indexe 1 Tryz.underlying129 sz_131 rfl rfl (rd_row pk_) (by decide) rfl (by first | assumption | omega | (simp only [List.length_cons, List.length_nil]; omega))) ?_
          refine e_qw (wy rfl rfl rfl) (q_fielde rfl fo_131_0) ?_
          refine e_qw (wy rfl rfl rfl) (q_loade (enc := encVal1) (xs := [w0.val, w1.val, w2.val, w3.val]) (j := 1) (off := 0) sc_128 rfl (rd_row pk_) (fun _ => rfl) (by first | assumption | omega | (simp only [List.length_cons, List.length_nil]; omega)) (by decide) rfl) ?_
          refine e_qw (wy rfl rfl rfl) (q_geq rfl rfl) ?_
          refine e_q (q_pick rfl rfl rfl) ?_
          refine l_n ?_
          refine c_cond rfl (fun h3 => ?_) (fun h3 => ?_)
          · try simp only [decide_eq_true_eq, decide_eq_false_iff_not] at h3
            have h84 : 10000000000 ≤ w1.N := by have h9 : (10000000000 : Int) ≤ (w1.N : Int) := h3; omega
            refine sr ?_
            refine e_q (q_build (cs := encSnap1 (⟨zMark1, ⟨none, [], 0⟩, ⟨none, [], 0⟩⟩ : Snap1)) zc_26 pl_26 rfl rfl) ?_
            refine l_step (s_s0 wn (s_storep (ws := encSnap1 (⟨zMark1, ⟨none, [], 0⟩, ⟨none, [], 0⟩⟩ : Snap1)) (cs := encSnap1 zSnap1) (cs' := encSnap1 (⟨zMark1, ⟨none, [], 0⟩, ⟨none, [], 0⟩⟩ : Snap1)) rfl rfl rfl sz_26 (oneSnap1 _) (by simp [encSnap1, encSnap1]) rfl pk_) ?_)
            rintro _ _ ⟨rfl, rfl⟩
            refine e_as rfl ?_
            refine l_n ?_
            refine c_ret ?_
            refine k_then_r ?_
            have hr : (parseX B.xs) = (13, zPS) := px_big (by omega) (by have h9 : Go.Sm.sumB (Go.Sm.catB [(dropS B 4)]) = (beW (B.xs.getD 0 default) (B.xs.getD 1 default) (B.xs.getD 2 default) (B.xs.getD 3 default)) := hsm; rw [Go.Sm.catB_one] at h9; exact h9) hT4 (by omega) (.inl (hbg.trans (by rw [decide_eq_true (show 10000000000 ≤ w1.N from h84), Bool.or_true])))
            refine Tr.ent (Ent.nilrow 5 1 _) ?_
            refine Tr.ent (Ent.nilrow 5 1 _) ?_
            exact t_rt [.row 5 1 none 0 0 (([] : List UInt8).flatMap encB), .row 5 1 none 0 0 (([] : List UInt8).flatMap encB)] rfl (.cell rfl pk_ (fun w h => ld_agg (by exact ag_26) h) (.tmp rfl .nil)) rfl ⟨rfl, zSnap1, by rw [hr]; rfl, by rw [hr]; rfl, rfl⟩
          · try simp only [decide_eq_true_eq, decide_eq_false_iff_not] at h3
            have h84 : ¬ 10000000000 ≤ w1.N := by have h9 : ¬ (10000000000 : Int) ≤ (w1.N : Int) := h3; omega
            refine c_skip ?_
            refine k_then_n ?_
            refine c_seq ?_
            refine d_r 26 [.row 131 3 v3.a 4 v3.cap ([w0.val, w1.val, w2.val, w3.val].flatMap encVal1), .row 5 1 w2.B.a w2.B.xs.length w2.B.cap (w2.B.xs.flatMap encB), .row 5 1 w3.B.a w3.B.xs.length w3.B.cap (w3.B.xs.flatMap encB), .pts b4 (encVal1 (⟨v3.N, v3.B, ⟨v3.a, 4, v3.cap⟩⟩ : Val1)) 131, .row 22 1 (some ⟨b37, 0, none⟩) 1 1 ([(dropS B 4)].flatMap encSL), .pts b2 (encSnap1 zSnap1) 26] ?_
            refine d_t 0 rfl wn (q_fieldp rfl fo_131_2) ?_
            refine d_t 1 rfl wn (q_loadp (v := .slice v3.a 4 v3.cap) sc_129 rfl pk_ rfl) ?_
            refine d_t 2 rfl wn (q_indexe 0 Tryz.underlying129 sz_131 rfl rfl (rd_row pk_) (by decide) rfl (by first | assumption | omega | (simp only [List.length_cons, List.length_nil]; omega))) ?_
            refine d_t 3 rfl wn (q_fielde rfl fo_131_0) ?_
            refine d_t 4 rfl wn (q_loade (enc := encVal1) (xs := [w0.val, w1.val, w2.val, w3.val]) (j := 0) (off := 0) sc_128 rfl (rd_row pk_) (fun _ => rfl) (by first | assumption | omega | (simp only [List.length_cons, List.length_nil]; omega)) (by decide) rfl) ?_
            refine d_t 5 rfl wn (q_conv rfl Tryz.underlying128 Tryz.underlying3 (by first | assumption | exact wrap_i64 (by omega) (by omega))) ?_
            refine d_t 6 rfl wn (q_fieldp rfl fo_131_2) ?_
            refine d_t 7 rfl wn (q_loadp (v := .slice v3.a 4 v3.cap) sc_129 rfl pk_ rfl) ?_
            refine d_t 8 rfl wn (q_indexe 1 Tryz.underlying129 sz_131 rfl rfl (rd_row pk_) (by decide) rfl (by first | assumption | omega | (simp only [List.length_cons, List.length_nil]; omega))) ?_
            refine d_t 9 rfl wn (q_fielde rfl fo_131_0) ?_
            refine d_t 10 rfl wn (q_loade (enc := encVal1) (xs := [w0.val, w1.val, w2.val, w3.val]) (j := 1) (off := 0) sc_128 rfl (rd_row pk_) (fun _ => rfl) (by first | assumption | omega | (simp only [List.length_cons, List.length_nil]; omega)) (by decide) rfl) ?_
            refine d_t 11 rfl wn (q_conv rfl Tryz.underlying128 Tryz.underlying3 (by first | assumption | exact wrap_i64 (by omega) (by omega))) ?_
            refine d_t 12 rfl wn (q_build (cs := encMark1 (⟨(([w0.val, w1.val, w2.val, w3.val].getD 0 default).N : Int), (([w0.val, w1.val, w2.val, w3.val].getD 1 default).N : Int)⟩ : Mark1)) zc_24 pl_24 rfl rfl) ?_
            refine d_t 13 rfl wn (q_fieldp rfl fo_131_2) ?_
            refine d_t 14 rfl wn (q_loadp (v := .slice v3.a 4 v3.cap) sc_129 rfl pk_ rfl) ?_
            refine d_t 15 rfl wn (q_indexe 2 Tryz.underlying129 sz_131 rfl rfl (rd_row pk_) (by decide) rfl (by first | assumption | omega | (simp only [List.length_cons, List.length_nil]; omega))) ?_
            refine d_t 16 rfl wn (q_fielde rfl fo_131_1) ?_
            refine d_t 17 rfl wn (q_loade (enc := encVal1) (xs := [w0.val, w1.val, w2.val, w3.val]) (j := 2) (off := 1) sc_22 rfl (rd_row pk_) (fun _ => rfl) (by first | assumption | omega | (simp only [List.length_cons, List.length_nil]; omega)) (by decide) rfl) ?_
            refine d_t 18 rfl wn (q_fieldp rfl fo_131_2) ?_
            refine d_t 19 rfl wn (q_loadp (v := .slice v3.a 4 v3.cap) sc_129 rfl pk_ rfl) ?_
            refine d_t 20 rfl wn (q_indexe 3 Tryz.underlying129 sz_131 rfl rfl (rd_row pk_) (by decide) rfl (by first | assumption | omega | (simp only [List.length_cons, List.length_nil]; omega))) ?_
            refine d_t 21 rfl wn (q_fielde rfl fo_131_1) ?_
            refine d_t 22 rfl wn (q_loade (enc := encVal1) (xs := [w0.val, w1.val, w2.val, w3.val]) (j := 3) (off := 1) sc_22 rfl (rd_row pk_) (fun _ => rfl) (by first | assumption | omega | (simp only [List.length_cons, List.length_nil]; omega)) (by decide) rfl) ?_
            refine d_t 23 rfl wn (q_build (cs := encSnap1 (⟨(⟨(([w0.val, w1.val, w2.val, w3.val].getD 0 default).N : Int), (([w0.val, w1.val, w2.val, w3.val].getD 1 default).N : Int)⟩ : Mark1), ([w0.val, w1.val, w2.val, w3.val].getD 2 default).B, ([w0.val, w1.val, w2.val, w3.val].getD 3 default).B⟩ : Snap1)) zc_26 pl_26 rfl rfl) ?_
            refine d_1 24 ?_
            refine o_step rfl (s_s rfl wn (s_allocz (cs := encSnap1 zSnap1) (by kernel_rfl)) ?_)
            rintro _ _ ⟨b6, rfl, rfl⟩
            refine d_c ?_
            refine d_1 25 ?_
            refine o_step rfl (s_s0 wn (s_storep (ws := encSnap1 (⟨(⟨(([w0.val, w1.val, w2.val, w3.val].getD 0 default).N : Int), (([w0.val, w1.val, w2.val, w3.val].getD 1 default).N : Int)⟩ : Mark1), ([w0.val, w1.val, w2.val, w3.val].getD 2 default).B, ([w0.val, w1.val, w2.val, w3.val].getD 3 default).B⟩ : Snap1)) (cs := encSnap1 zSnap1) (cs' := encSnap1 (⟨(⟨(([w0.val, w1.val, w2.val, w3.val].getD 0 default).N : Int), (([w0.val, w1.val, w2.val, w3.val].getD 1 default).N : Int)⟩ : Mark1), ([w0.val, w1.val, w2.val, w3.val].getD 2 default).B, ([w0.val, w1.val, w2.val, w3.val].getD 3 default).B⟩ : Snap1)) rfl rfl rfl sz_26 (oneSnap1 _) (by simp [encSnap1, encSnap1]) rfl pk_) ?_)
            rintro _ _ ⟨rfl, rfl⟩
            refine d_c ?_
            refine d_d ?_
            refine k_then_n ?_
            refine c_seq ?_
            refine sr ?_
            refine e_q (q_fieldp rfl fo_26_0) ?_
            refine e_q (q_loadpa (vs := encMark1 (⟨(([w0.val, w1.val, w2.val, w3.val].getD 0 default).N : Int), (([w0.val, w1.val, w2.val, w3.val].getD 1 default).N : Int)⟩ : Mark1)) ag_24 rfl pk_ rfl) ?_
            refine l_step (s_fnq rfl wn Tryz.func64 rfl (by kernel_rfl) rfl (fun ρ' hL => right_spec (⟨(w0.N : Int), (w1.N : Int)⟩ : Mark1) ρ') ?_)
            refine e_q (q_not rfl) ?_
            refine l_n ?_
            refine c_cond rfl (fun h4 => ?_) (fun h4 => ?_)
            · skip
              replace h4 : rightM (w0.N : Int) (w1.N : Int) = false := by have h9 := h4; rw [Bool.not_eq_true'] at h9; exact h9
              refine sr ?_
              refine e_q (q_build (cs := encSnap1 (⟨zMark1, ⟨none, [], 0⟩, ⟨none, [], 0⟩⟩ : Snap1)) zc_26 pl_26 rfl rfl) ?_
              refine l_step (s_s0 wn (s_storep (ws := encSnap1 (⟨zMark1, ⟨none, [], 0⟩, ⟨none, [], 0⟩⟩ : Snap1)) (cs := encSnap1 zSnap1) (cs' := encSnap1 (⟨zMark1, ⟨none, [], 0⟩, ⟨none, [], 0⟩⟩ : Snap1)) rfl rfl rfl sz_26 (oneSnap1 _) (by simp [encSnap1, encSnap1]) rfl pk_) ?_)
              rintro _ _ ⟨rfl, rfl⟩
              refine e_as rfl ?_
              refine l_n ?_
              refine c_ret ?_
              refine k_then_r ?_
              have hr : (parseX B.xs) = (13, zPS) := px_big (by omega) (by have h9 : Go.Sm.sumB (Go.Sm.catB [(dropS B 4)]) = (beW (B.xs.getD 0 default) (B.xs.getD 1 default) (B.xs.getD 2 default) (B.xs.getD 3 default)) := hsm; rw [Go.Sm.catB_one] at h9; exact h9) hT4 (by omega) (.inr (by rw [hvx]; exact h4))
              refine Tr.ent (Ent.nilrow 5 1 _) ?_
              refine Tr.ent (Ent.nilrow 5 1 _) ?_
              exact t_rt [.row 5 1 none 0 0 (([] : List UInt8).flatMap encB), .row 5 1 none 0 0 (([] : List UInt8).flatMap encB)] rfl (.cell rfl pk_ (fun w h => ld_agg (by exact ag_26) h) (.tmp rfl .nil)) rfl ⟨rfl, zSnap1, by rw [hr]; rfl, by rw [hr]; rfl, rfl⟩
            · skip
              replace h4 : rightM (w0.N : Int) (w1.N : Int) = true := by have h9 := h4; rw [Bool.not_eq_false'] at h9; exact h9
              refine c_skip ?_
              refine k_then_n ?_
              refine sr ?_
              refine e_q (q_loadpa (vs := encSnap1 (⟨(⟨(([w0.val, w1.val, w2.val, w3.val].getD 0 default).N : Int), (([w0.val, w1.val, w2.val, w3.val].getD 1 default).N : Int)⟩ : Mark1), ([w0.val, w1.val, w2.val, w3.val].getD 2 default).B, ([w0.val, w1.val, w2.val, w3.val].getD 3 default).B⟩ : Snap1)) ag_26 rfl pk_ rfl) ?_
              refine l_step (s_s0 wn (s_storep (ws := encSnap1 (⟨(⟨(([w0.val, w1.val, w2.val, w3.val].getD 0 default).N : Int), (([w0.val, w1.val, w2.val, w3.val].getD 1 default).N : Int)⟩ : Mark1), ([w0.val, w1.val, w2.val, w3.val].getD 2 default).B, ([w0.val, w1.val, w2.val, w3.val].getD 3 default).B⟩ : Snap1)) (cs := encSnap1 zSnap1) (cs' := encSnap1 (⟨(⟨(([w0.val, w1.val, w2.val, w3.val].getD 0 default).N : Int), (([w0.val, w1.val, w2.val, w3.val].getD 1 default).N : Int)⟩ : Mark1), ([w0.val, w1.val, w2.val, w3.val].getD 2 default).B, ([w0.val, w1.val, w2.val, w3.val].getD 3 default).B⟩ : Snap1)) rfl rfl rfl sz_26 (oneSnap1 _) (by simp [encSnap1, encSnap1]) rfl pk_) ?_)
              rintro _ _ ⟨rfl, rfl⟩
              refine e_as rfl ?_
              refine l_n ?_
              refine c_ret ?_
              have hr : (parseX B.xs) = (0, valX v3.pv) := px_ok (by omega) (by have h9 : Go.Sm.sumB (Go.Sm.catB [(dropS B 4)]) = (beW (B.xs.getD 0 default) (B.xs.getD 1 default) (B.xs.getD 2 default) (B.xs.getD 3 default)) := hsm; rw [Go.Sm.catB_one] at h9; exact h9) hT4 (by omega) (hbg.trans (by rw [decide_eq_false (show ¬ 10000000000 ≤ w0.N from h83), decide_eq_false (show ¬ 10000000000 ≤ w1.N from h84)]; rfl)) (by rw [hvx]; exact h4)
              exact t_rt [.row 5 1 w2.B.a w2.B.xs.length w2.B.cap (w2.B.xs.flatMap encB), .row 5 1 w3.B.a w3.B.xs.length w3.B.cap (w3.B.xs.flatMap encB)] rfl (.cell rfl pk_ (fun w h => ld_agg (by exact ag_26) h) (.tmp rfl .nil)) rfl ⟨rfl, (⟨⟨(w0.N : Int), (w1.N : Int)⟩, w2.B, w3.B⟩ : Snap1), by rw [hr]; rfl, by rw [hr, hvx]; rfl, rfl⟩
end Go.Shf

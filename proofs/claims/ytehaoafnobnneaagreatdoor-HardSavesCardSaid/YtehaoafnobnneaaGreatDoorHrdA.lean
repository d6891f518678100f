/-
  Walked.
-/
import Derived.Test.YtehaoafnobnneaaGreatDoorHrdPP
import Derived.Test.YtehaoafnobnneaaGreatDoorSmAA
import Derived.Test.YtehaoafnobnneaaGreatDoorMouBB
import Derived.Test.YtehaoafnobnneaaGreatDoorDskXX
import Derived.Test.YtehaoafnobnneaaGreatDoorDskVV
import Derived.Test.YtehaoafnobnneaaGreatDoorProg
set_option maxRecDepth 100000
set_option maxHeartbeats 4000000
set_option linter.unusedSimpArgs false
set_option linter.unusedVariables false
namespace Go.Hrd
open Go Go.SL Go.Proofs Go.Mou Go.Dsk
attribute [local irreducible] Go.SL.Ent
theorem sz_5 : sizeIs Tryz.prog 5 = some 1 := by kernel_rfl
theorem zc_23 : zeroCs Tryz.prog 23 = some [.int .i64 0, .int .i64 0] := by kernel_rfl
theorem pl_23 : placesOf Tryz.prog 23 = some [(0, 1), (1, 1)] := by kernel_rfl
theorem sz_23 : sizeIs Tryz.prog 23 = some 2 := by kernel_rfl
theorem ag_23 : aggSize Tryz.prog 23 = some 2 := by kernel_rfl
theorem sc_5 : isScalar Tryz.prog 5 = true := by kernel_rfl
theorem eo_38 : elemOk Tryz.prog 38 1 24 = true := by kernel_rfl
theorem sz_97 : sizeIs Tryz.prog 97 = some 3 := by kernel_rfl
theorem fo_97_2 : fieldOff Tryz.prog 97 2 = some (2, 95) := by kernel_rfl
theorem sc_95 : isScalar Tryz.prog 95 = true := by kernel_rfl
theorem fo_97_0 : fieldOff Tryz.prog 97 0 = some (0, 46) := by kernel_rfl
theorem sc_46 : isScalar Tryz.prog 46 = true := by kernel_rfl

theorem slot_spec (b : Nat) (room : Int) (mb : Nat) (calls : Int) (T : FT) (name : (List UInt8)) (ρ : Hp) (hT : FOk T) : Spec0 Tryz.prog 69 #[.pointer (some ⟨b, 0, none⟩), (strB name)] ρ [.pts b (encDisk1 (⟨room, (some mb), calls⟩ : Disk1)) 105, MP strB ptV mb (fm T), FB 109 5 T] (fun v Γ' => v = .tuple #[.int .u64 (((slotF (mgetD (vw T) name zF).1).1) : Int), .agg (encState1 ((slotF (mgetD (vw T) name zF).1).2)).toArray] ∧ Γ' = [.pts b (encDisk1 (⟨room, (some mb), calls⟩ : Disk1)) 105, MP strB ptV mb (fm T), FB 109 5 T]) := by
  refine spec_of (n := 101) (vs := [_, _]) (σ := [(0, _), (1, _)]) Tryz.func69 rfl rfl rfl rfl fun E Δ => ?_
  simp only [List.cons_append, List.nil_append]
  have hXl : (mgetD (vw T) name zF).1.length ≤ 1000000000000 := name_used hT name
  refine sr ?_
  refine e_as rfl ?_
  refine e_s (s_allocz (cs := encState1 zState1) (by kernel_rfl)) ?_
  rintro _ _ ⟨b5, rfl, rfl⟩
  refine l_n ?_
  refine sr ?_
  refine e_mv rfl ?_
  refine e_mv rfl ?_
  refine e_fn Tryz.func43 rfl sl_ (fun ρ' hL => Go.Dsk.X.read_spec b room mb calls T name ρ' hT) ?_
  rintro _ _ ⟨aR1, cR1, rfl, rfl⟩
  try simp only [List.cons_append, List.nil_append]
  refine e_mv rfl ?_
  refine e_q (q_extract rfl rfl) ?_
  refine e_q (q_extract rfl rfl) ?_
  refine e_as rfl ?_
  refine e_as rfl ?_
  refine l_n ?_
  refine c_seq ?_
  refine c_seq ?_
  refine d_r 32 [.row 5 1 aR1 ((mgetD (vw T) name zF).1.length) cR1 (((mgetD (vw T) name zF).1).flatMap encB), .pts b5 (encState1 zState1) 23, .pts b (encDisk1 (⟨room, (some mb), calls⟩ : Disk1)) 105, MP strB ptV mb (fm T), FB 109 5 T] ?_
  refine d_t 0 rfl wn (q_move rfl) ?_
  refine d_t 1 rfl wn (q_len Tryz.underlying38 rfl) ?_
  refine d_t 2 rfl wn (q_lss rfl rfl) ?_
  refine d_t 3 rfl wn (q_move rfl) ?_
  refine t_split (d := 19) rfl (fun g2_3 => ?_) (fun g2_3 => ?_)
  · try simp only [decide_eq_true_eq, decide_eq_false_iff_not] at g2_3
    refine d_s 4 rfl (wno rfl rfl (by decide)) ?_
    refine d_s 5 rfl (wno rfl rfl (by decide)) ?_
    refine d_s 6 rfl (wno rfl rfl (by decide)) ?_
    refine d_s 7 rfl (wno rfl rfl (by decide)) ?_
    refine d_s 8 rfl (wno rfl rfl (by decide)) ?_
    refine d_s 9 rfl (wno rfl rfl (by decide)) ?_
    refine d_s 10 rfl (wno rfl rfl (by decide)) ?_
    refine d_s 11 rfl (wno rfl rfl (by decide)) ?_
    refine d_s 12 rfl (wno rfl rfl (by decide)) ?_
    refine d_s 13 rfl (wno rfl rfl (by decide)) ?_
    refine d_s 14 rfl (wno rfl rfl (by decide)) ?_
    refine d_s 15 rfl (wno rfl rfl (by decide)) ?_
    refine d_s 16 rfl (wno rfl rfl (by decide)) ?_
    refine d_s 17 rfl (wno rfl rfl (by decide)) ?_
    refine d_s 18 rfl (wno rfl rfl (by decide)) ?_
    refine d_s 19 rfl (wno rfl rfl (by decide)) ?_
    refine d_s 20 rfl (wno rfl rfl (by decide)) ?_
    refine d_s 21 rfl (wno rfl rfl (by decide)) ?_
    refine d_s 22 rfl (wno rfl rfl (by decide)) ?_
    refine d_s 23 rfl (wno rfl rfl (by decide)) ?_
    refine d_s 24 rfl (wno rfl rfl (by decide)) ?_
    refine d_s 25 rfl (wno rfl rfl (by decide)) ?_
    refine d_s 26 rfl (wno rfl rfl (by decide)) ?_
    refine d_s 27 rfl (wno rfl rfl (by decide)) ?_
    refine d_s 28 rfl (wno rfl rfl (by decide)) ?_
    refine d_s 29 rfl (wno rfl rfl (by decide)) ?_
    refine d_s 30 rfl (wno rfl rfl (by decide)) ?_
    refine d_t 31 rfl wn (q_pick rfl rfl rfl) ?_
    refine d_d ?_
    refine k_then_n ?_
    refine c_yes rfl ?_
    refine sr ?_
    refine e_q (q_build (cs := encState1 (⟨0, 0⟩ : State1)) zc_23 pl_23 rfl rfl) ?_
    refine e_as rfl ?_
    refine l_step (s_s0 wn (s_storep (ws := encState1 (⟨0, 0⟩ : State1)) (cs := encState1 zState1) (cs' := encState1 (⟨0, 0⟩ : State1)) rfl rfl rfl sz_23 (oneState1 _) (by simp [encState1, encState1]) rfl pk_) ?_)
    rintro _ _ ⟨rfl, rfl⟩
    refine l_n ?_
    refine c_ret ?_
    refine k_then_r ?_
    have hr : slotF (mgetD (vw T) name zF).1 = (0, zSt) := slot_short (by omega)
    rw [hr]
    exact t_rt [.pts b (encDisk1 (⟨room, (some mb), calls⟩ : Disk1)) 105, MP strB ptV mb (fm T), FB 109 5 T] rfl (.tmp rfl (.cell rfl pk_ (fun w h => ld_agg (by exact ag_23) h) .nil)) rfl ⟨rfl, rfl, rfl⟩
  · try simp only [decide_eq_true_eq, decide_eq_false_iff_not] at g2_3
    refine t_rd (Γ := _) (rd_row (a := aR1) (cap := cR1) (n := (mgetD (vw T) name zF).1.length) (cs := (mgetD (vw T) name zF).1.flatMap encB) pk_) fun _ hcp9 hcm9 _ => ?_
    refine d_t 4 rfl (wy rfl rfl rfl) (q_move rfl) ?_
    refine d_t 5 rfl (wy rfl rfl rfl) (q_indexe 0 Tryz.underlying38 sz_5 rfl rfl (rd_row pk_) (by decide) rfl (by first | assumption | omega | (simp only [List.length_cons, List.length_nil]; omega))) ?_
    refine d_t 6 rfl (wy rfl rfl rfl) (q_loade (enc := encB) (xs := (mgetD (vw T) name zF).1) (j := 0) (off := 0) sc_5 rfl (rd_row pk_) (fun _ => rfl) (by first | assumption | omega | (simp only [List.length_cons, List.length_nil]; omega)) (by decide) rfl) ?_
    refine d_t 7 rfl (wy rfl rfl rfl) (q_as (v := .int .u32 (((UInt8.toBitVec (((mgetD (vw T) name zF).1).getD 0 default)).setWidth 32).toNat : Int)) (q_conv rfl Tryz.underlying5 Tryz.underlying98 (wrap_u32 (by omega) (by have := UInt8.toNat_lt (((mgetD (vw T) name zF).1).getD 0 default); omega))) (inte (b2w _))) ?_
    refine d_t 8 rfl (wy rfl rfl rfl) (q32_shl (p := ((UInt8.toBitVec (((mgetD (vw T) name zF).1).getD 0 default)).setWidth 32)) (m := 24) rfl rfl rfl rfl (by omega)) ?_
    refine d_t 9 rfl (wy rfl rfl rfl) (q_move rfl) ?_
    refine d_t 10 rfl (wy rfl rfl rfl) (q_indexe 1 Tryz.underlying38 sz_5 rfl rfl (rd_row pk_) (by decide) rfl (by first | assumption | omega | (simp only [List.length_cons, List.length_nil]; omega))) ?_
    refine d_t 11 rfl (wy rfl rfl rfl) (q_loade (enc := encB) (xs := (mgetD (vw T) name zF).1) (j := 1) (off := 0) sc_5 rfl (rd_row pk_) (fun _ => rfl) (by first | assumption | omega | (simp only [List.length_cons, List.length_nil]; omega)) (by decide) rfl) ?_
    refine d_t 12 rfl (wy rfl rfl rfl) (q_as (v := .int .u32 (((UInt8.toBitVec (((mgetD (vw T) name zF).1).getD 1 default)).setWidth 32).toNat : Int)) (q_conv rfl Tryz.underlying5 Tryz.underlying98 (wrap_u32 (by omega) (by have := UInt8.toNat_lt (((mgetD (vw T) name zF).1).getD 1 default); omega))) (inte (b2w _))) ?_
    refine d_t 13 rfl (wy rfl rfl rfl) (q32_shl (p := ((UInt8.toBitVec (((mgetD (vw T) name zF).1).getD 1 default)).setWidth 32)) (m := 16) rfl rfl rfl rfl (by omega)) ?_
    refine d_t 14 rfl (wy rfl rfl rfl) (q32_or (p := (((UInt8.toBitVec (((mgetD (vw T) name zF).1).getD 0 default)).setWidth 32) <<< 24)) (q := (((UInt8.toBitVec (((mgetD (vw T) name zF).1).getD 1 default)).setWidth 32) <<< 16)) rfl rfl rfl rfl) ?_
    refine d_t 15 rfl (wy rfl rfl rfl) (q_move rfl) ?_
    refine d_t 16 rfl (wy rfl rfl rfl) (q_indexe 2 Tryz.underlying38 sz_5 rfl rfl (rd_row pk_) (by decide) rfl (by first | assumption | omega | (simp only [List.length_cons, List.length_nil]; omega))) ?_
    refine d_t 17 rfl (wy rfl rfl rfl) (q_loade (enc := encB) (xs := (mgetD (vw T) name zF).1) (j := 2) (off := 0) sc_5 rfl (rd_row pk_) (fun _ => rfl) (by first | assumption | omega | (simp only [List.length_cons, List.length_nil]; omega)) (by decide) rfl) ?_
    refine d_t 18 rfl (wy rfl rfl rfl) (q_as (v := .int .u32 (((UInt8.toBitVec (((mgetD (vw T) name zF).1).getD 2 default)).setWidth 32).toNat : Int)) (q_conv rfl Tryz.underlying5 Tryz.underlying98 (wrap_u32 (by omega) (by have := UInt8.toNat_lt (((mgetD (vw T) name zF).1).getD 2 default); omega))) (inte (b2w _))) ?_
    refine d_t 19 rfl (wy rfl rfl rfl) (q32_shl (p := ((UInt8.toBitVec (((mgetD (vw T) name zF).1).getD 2 default)).setWidth 32)) (m := 8) rfl rfl rfl rfl (by omega)) ?_
    refine d_t 20 rfl (wy rfl rfl rfl) (q32_or (p := ((((UInt8.toBitVec (((mgetD (vw T) name zF).1).getD 0 default)).setWidth 32) <<< 24) ||| (((UInt8.toBitVec (((mgetD (vw T) name zF).1).getD 1 default)).setWidth 32) <<< 16))) (q := (((UInt8.toBitVec (((mgetD (vw T) name zF).1).getD 2 default)).setWidth 32) <<< 8)) rfl rfl rfl rfl) ?_
    refine d_t 21 rfl (wy rfl rfl rfl) (q_move rfl) ?_
    refine d_t 22 rfl (wy rfl rfl rfl) (q_indexe 3 Tryz.underlying38 sz_5 rfl rfl (rd_row pk_) (by decide) rfl (by first | assumption | omega | (simp only [List.length_cons, List.length_nil]; omega))) ?_
    refine d_t 23 rfl (wy rfl rfl rfl) (q_loade (enc := encB) (xs := (mgetD (vw T) name zF).1) (j := 3) (off := 0) sc_5 rfl (rd_row pk_) (fun _ => rfl) (by first | assumption | omega | (simp only [List.length_cons, List.length_nil]; omega)) (by decide) rfl) ?_
    refine d_t 24 rfl (wy rfl rfl rfl) (q_as (v := .int .u32 (((UInt8.toBitVec (((mgetD (vw T) name zF).1).getD 3 default)).setWidth 32).toNat : Int)) (q_conv rfl Tryz.underlying5 Tryz.underlying98 (wrap_u32 (by omega) (by have := UInt8.toNat_lt (((mgetD (vw T) name zF).1).getD 3 default); omega))) (inte (b2w _))) ?_
    refine d_t 25 rfl (wy rfl rfl rfl) (q32_or (p := (((((UInt8.toBitVec (((mgetD (vw T) name zF).1).getD 0 default)).setWidth 32) <<< 24) ||| (((UInt8.toBitVec (((mgetD (vw T) name zF).1).getD 1 default)).setWidth 32) <<< 16)) ||| (((UInt8.toBitVec (((mgetD (vw T) name zF).1).getD 2 default)).setWidth 32) <<< 8))) (q := ((UInt8.toBitVec (((mgetD (vw T) name zF).1).getD 3 default)).setWidth 32)) rfl rfl rfl rfl) ?_
    refine d_t 26 rfl (wy rfl rfl rfl) (q_move rfl) ?_
    refine d_t 27 rfl (wy rfl rfl rfl) (q_as (v := .slice (sh aR1 cR1 4 1) ((mgetD (vw T) name zF).1.drop 4).length (cR1 - 4)) (q_cut_lo Tryz.underlying38 sz_5 rfl rfl (by omega) (by omega)) (by rw [List.length_drop]; rfl)) ?_
    refine d_1 28 ?_
    refine o_step rfl (s_s rfl (wy rfl rfl rfl) (s_buildSlice (cs := ([(dropS (⟨aR1, (mgetD (vw T) name zF).1, cR1⟩ : SL UInt8) 4)] : List (SL UInt8)).flatMap encSL) Tryz.underlying54 eo_38 rfl rfl rfl rfl (by decide) (by decide)) ?_)
    rintro _ _ ⟨b44, rfl, rfl⟩
    refine d_c ?_
    refine d_1 29 ?_
    refine o_step rfl (s_fnq rfl (wy rfl rfl rfl) Tryz.func87 rfl (by kernel_rfl) rfl (fun ρ' hL => Go.Sm.fits_spec (beW ((mgetD (vw T) name zF).1.getD 0 default) ((mgetD (vw T) name zF).1.getD 1 default) ((mgetD (vw T) name zF).1.getD 2 default) ((mgetD (vw T) name zF).1.getD 3 default)) (some ⟨b44, 0, none⟩) 1 1 [(dropS (⟨aR1, (mgetD (vw T) name zF).1, cR1⟩ : SL UInt8) 4)] rfl ρ' (hL.row pk_) (by intro s hs; rw [List.mem_singleton.1 hs]; exact (Suf.drop (⟨aR1, (mgetD (vw T) name zF).1, cR1⟩ : SL UInt8) (show 4 ≤ (mgetD (vw T) name zF).1.length by omega)).1 ρ' (hL.row pk_))) ?_)
    refine d_c ?_
    refine d_t 30 rfl (wy rfl rfl rfl) (q_not rfl) ?_
    refine d_t 31 rfl wn (q_pick rfl rfl rfl) ?_
    refine d_d ?_
    refine k_then_n ?_
    refine c_cond rfl (fun h0 => ?_) (fun h0 => ?_)
    · skip
      refine sr ?_
      refine e_q (q_build (cs := encState1 (⟨0, 0⟩ : State1)) zc_23 pl_23 rfl rfl) ?_
      refine e_as rfl ?_
      refine l_step (s_s0 wn (s_storep (ws := encState1 (⟨0, 0⟩ : State1)) (cs := encState1 zState1) (cs' := encState1 (⟨0, 0⟩ : State1)) rfl rfl rfl sz_23 (oneState1 _) (by simp [encState1, encState1]) rfl pk_) ?_)
      rintro _ _ ⟨rfl, rfl⟩
      refine l_n ?_
      refine c_ret ?_
      refine k_then_r ?_
      have hr : slotF (mgetD (vw T) name zF).1 = (0, zSt) := slot_bad (fun h9 => by rw [decide_eq_true (show Go.Sm.sumB (Go.Sm.catB [(dropS (⟨aR1, (mgetD (vw T) name zF).1, cR1⟩ : SL UInt8) 4)]) = (beW ((mgetD (vw T) name zF).1.getD 0 default) ((mgetD (vw T) name zF).1.getD 1 default) ((mgetD (vw T) name zF).1.getD 2 default) ((mgetD (vw T) name zF).1.getD 3 default)) from (congrArg Go.Sm.sumB (Go.Sm.catB_one _)).trans h9)] at h0; cases h0)
      rw [hr]
      exact t_rt [.pts b (encDisk1 (⟨room, (some mb), calls⟩ : Disk1)) 105, MP strB ptV mb (fm T), FB 109 5 T] rfl (.tmp rfl (.cell rfl pk_ (fun w h => ld_agg (by exact ag_23) h) .nil)) rfl ⟨rfl, rfl, rfl⟩
    · skip
      have hsl : slotF (mgetD (vw T) name zF).1 = bodyF ((mgetD (vw T) name zF).1.drop 4) := slot_sum (by omega) (by have h9 : Go.Sm.sumB (Go.Sm.catB [(dropS (⟨aR1, (mgetD (vw T) name zF).1, cR1⟩ : SL UInt8) 4)]) = (beW ((mgetD (vw T) name zF).1.getD 0 default) ((mgetD (vw T) name zF).1.getD 1 default) ((mgetD (vw T) name zF).1.getD 2 default) ((mgetD (vw T) name zF).1.getD 3 default)) := (by simpa using h0); rw [Go.Sm.catB_one] at h9; exact h9)
      refine c_skip ?_
      refine k_then_n ?_
      refine sr ?_
      refine e_mv rfl ?_
      refine e_q (q_as (v := .slice (sh aR1 cR1 4 1) ((mgetD (vw T) name zF).1.drop 4).length (cR1 - 4)) (q_cut_lo Tryz.underlying38 sz_5 rfl rfl (by omega) (by omega)) (by rw [List.length_drop]; rfl)) ?_
      refine e_fn Tryz.func86 rfl sl_ (fun ρ' hL => Go.Mou.Take_spec sh3 (dropS (⟨aR1, (mgetD (vw T) name zF).1, cR1⟩ : SL UInt8) 4) ρ' (by decide) (by decide) (by decide) ((Suf.drop (⟨aR1, (mgetD (vw T) name zF).1, cR1⟩ : SL UInt8) (show 4 ≤ (mgetD (vw T) name zF).1.length by omega)).1 ρ' (hL.row pk_)) (by show ((mgetD (vw T) name zF).1.drop 4).length ≤ _; rw [List.length_drop]; omega)) ?_
      rintro _ _ ⟨v3, e3, rfl, rfl, hT3⟩
      try simp only [List.cons_append, List.nil_append]
      have hT4 : RTake sh3 ((mgetD (vw T) name zF).1.drop 4) v3.pv e3 := hT3
      refine e_mv rfl ?_
      refine e_q (q_extract rfl rfl) ?_
      refine e_q (q_extract rfl rfl) ?_
      refine e_s (s_allocz (cs := encVal1 zVal1) (by kernel_rfl)) ?_
      rintro _ _ ⟨b8, rfl, rfl⟩
      refine l_step (s_s0 wn (s_storep (ws := encVal1 v3.val) (cs := encVal1 zVal1) (cs' := encVal1 v3.val) rfl rfl rfl sz_97 (oneVal1 _) (by simp [encVal1, encVal1]) rfl pk_) ?_)
      rintro _ _ ⟨rfl, rfl⟩
      refine e_as rfl ?_
      refine l_n ?_
      refine c_seq ?_
      refine sr ?_
      refine Tr.ent (v_open (tu := 5) (tv := 97) (v := v3) pk_) ?_
      refine e_mv rfl ?_
      refine e_q (q_neq rfl rfl) ?_
      refine e_mv rfl ?_
      refine t_split (d := 57) rfl (fun g5_2 => ?_) (fun g5_2 => ?_)
      · try simp only [decide_eq_true_eq, decide_eq_false_iff_not, ne_eq, Decidable.not_not] at g5_2
        refine l_step (s_no rfl (wno rfl rfl (by decide)) ?_)
        refine l_step (s_no rfl (wno rfl rfl (by decide)) ?_)
        refine l_step (s_no rfl (wno rfl rfl (by decide)) ?_)
        refine l_step (s_no rfl (wno rfl rfl (by decide)) ?_)
        refine l_step (s_no rfl (wno rfl rfl (by decide)) ?_)
        refine l_step (s_no rfl (wno rfl rfl (by decide)) ?_)
        refine e_q (q_pick rfl rfl rfl) ?_
        refine e_mv rfl ?_
        refine l_step (s_no rfl (wno rfl rfl (by decide)) ?_)
        refine l_step (s_no rfl (wno rfl rfl (by decide)) ?_)
        refine l_step (s_no rfl (wno rfl rfl (by decide)) ?_)
        refine l_step (s_no rfl (wno rfl rfl (by decide)) ?_)
        refine l_step (s_no rfl (wno rfl rfl (by decide)) ?_)
        refine l_step (s_no rfl (wno rfl rfl (by decide)) ?_)
        refine e_q (q_pick rfl rfl rfl) ?_
        refine e_mv rfl ?_
        refine l_step (s_no rfl (wno rfl rfl (by decide)) ?_)
        refine l_step (s_no rfl (wno rfl rfl (by decide)) ?_)
        refine l_step (s_no rfl (wno rfl rfl (by decide)) ?_)
        refine l_step (s_no rfl (wno rfl rfl (by decide)) ?_)
        refine l_step (s_no rfl (wno rfl rfl (by decide)) ?_)
        refine l_step (s_no rfl (wno rfl rfl (by decide)) ?_)
        refine e_q (q_pick rfl rfl rfl) ?_
        refine l_n ?_
        refine c_yes rfl ?_
        refine sr ?_
        refine e_q (q_build (cs := encState1 (⟨0, 0⟩ : State1)) zc_23 pl_23 rfl rfl) ?_
        refine e_as rfl ?_
        refine l_step (s_s0 wn (s_storep (ws := encState1 (⟨0, 0⟩ : State1)) (cs := encState1 zState1) (cs' := encState1 (⟨0, 0⟩ : State1)) rfl rfl rfl sz_23 (oneState1 _) (by simp [encState1, encState1]) rfl pk_) ?_)
        rintro _ _ ⟨rfl, rfl⟩
        refine l_n ?_
        refine c_ret ?_
        refine k_then_r ?_
        have hr : slotF (mgetD (vw T) name zF).1 = (0, zSt) := (hsl.trans (body_err hT4 g5_2))
        rw [hr]
        exact t_rt [.pts b (encDisk1 (⟨room, (some mb), calls⟩ : Disk1)) 105, MP strB ptV mb (fm T), FB 109 5 T] rfl (.tmp rfl (.cell rfl pk_ (fun w h => ld_agg (by exact ag_23) h) .nil)) rfl ⟨rfl, rfl, rfl⟩
      · try simp only [decide_eq_true_eq, decide_eq_false_iff_not, ne_eq, Decidable.not_not] at g5_2
        have hl3 : v3.L.length = 3 := by have h9 := (body_ok hT4 g5_2).2; rwa [pv_L, List.length_map] at h9
        refine e_qw (wy rfl rfl rfl) (q_fieldp rfl fo_97_2) ?_
        refine e_qw (wy rfl rfl rfl) (q_loadp (v := .slice v3.a v3.L.length v3.cap) sc_95 rfl pk_ rfl) ?_
        refine e_qw (wy rfl rfl rfl) (q_indexe 0 Tryz.underlying95 sz_97 rfl rfl (rd_row pk_) (by decide) rfl (by first | omega | (rw [List.length_map]; omega))) ?_
        refine e_qw (wy rfl rfl rfl) (q_fielde rfl fo_97_0) ?_
        refine e_qw (wy rfl rfl rfl) (q_loade (enc := encVal1) (xs := (v3.L.map VT.val)) (j := 0) (off := 0) sc_46 rfl (rd_row pk_) (fun _ => rfl) (by first | omega | (rw [List.length_map]; omega)) (by decide) rfl) ?_
        refine e_qw (wy rfl rfl rfl) (q_geq rfl rfl) ?_
        refine e_q (q_pick rfl rfl rfl) ?_
        refine e_mv rfl ?_
        refine t_split (d := 65) rfl (fun g5_10 => ?_) (fun g5_10 => ?_)
        · try simp only [decide_eq_true_eq, decide_eq_false_iff_not] at g5_10
          refine l_step (s_no rfl (wno rfl rfl (by decide)) ?_)
          refine l_step (s_no rfl (wno rfl rfl (by decide)) ?_)
          refine l_step (s_no rfl (wno rfl rfl (by decide)) ?_)
          refine l_step (s_no rfl (wno rfl rfl (by decide)) ?_)
          refine l_step (s_no rfl (wno rfl rfl (by decide)) ?_)
          refine l_step (s_no rfl (wno rfl rfl (by decide)) ?_)
          refine e_q (q_pick rfl rfl rfl) ?_
          refine e_mv rfl ?_
          refine l_step (s_no rfl (wno rfl rfl (by decide)) ?_)
          refine l_step (s_no rfl (wno rfl rfl (by decide)) ?_)
          refine l_step (s_no rfl (wno rfl rfl (by decide)) ?_)
          refine l_step (s_no rfl (wno rfl rfl (by decide)) ?_)
          refine l_step (s_no rfl (wno rfl rfl (by decide)) ?_)
          refine l_step (s_no rfl (wno rfl rfl (by decide)) ?_)
          refine e_q (q_pick rfl rfl rfl) ?_
          refine l_n ?_
          refine c_yes rfl ?_
          refine sr ?_
          refine e_q (q_build (cs := encState1 (⟨0, 0⟩ : State1)) zc_23 pl_23 rfl rfl) ?_
          refine e_as rfl ?_
          refine l_step (s_s0 wn (s_storep (ws := encState1 (⟨0, 0⟩ : State1)) (cs := encState1 zState1) (cs' := encState1 (⟨0, 0⟩ : State1)) rfl rfl rfl sz_23 (oneState1 _) (by simp [encState1, encState1]) rfl pk_) ?_)
          rintro _ _ ⟨rfl, rfl⟩
          refine l_n ?_
          refine c_ret ?_
          refine k_then_r ?_
          have hr : slotF (mgetD (vw T) name zF).1 = (0, zSt) := hsl.trans ((body_ok hT4 g5_2).1.trans (val_bad (by unfold goodV; rw [pv_at v3 (i := 0) (by omega), pv_at v3 (i := 1) (by omega), pv_at v3 (i := 2) (by omega)]; rw [decide_eq_true (show top62 ≤ _ by show 4611686018427387904 ≤ _; omega)]; rfl)))
          rw [hr]
          exact t_rt [.pts b (encDisk1 (⟨room, (some mb), calls⟩ : Disk1)) 105, MP strB ptV mb (fm T), FB 109 5 T] rfl (.tmp rfl (.cell rfl pk_ (fun w h => ld_agg (by exact ag_23) h) .nil)) rfl ⟨rfl, rfl, rfl⟩
        · try simp only [decide_eq_true_eq, decide_eq_false_iff_not] at g5_10
          refine e_qw (wy rfl rfl rfl) (q_fieldp rfl fo_97_2) ?_
          refine e_qw (wy rfl rfl rfl) (q_loadp (v := .slice v3.a v3.L.length v3.cap) sc_95 rfl pk_ rfl) ?_
          refine e_qw (wy rfl rfl rfl) (q_indexe 1 Tryz.underlying95 sz_97 rfl rfl (rd_row pk_) (by decide) rfl (by first | omega | (rw [List.length_map]; omega))) ?_
          refine e_qw (wy rfl rfl rfl) (q_fielde rfl fo_97_0) ?_
          refine e_qw (wy rfl rfl rfl) (q_loade (enc := encVal1) (xs := (v3.L.map VT.val)) (j := 1) (off := 0) sc_46 rfl (rd_row pk_) (fun _ => rfl) (by first | omega | (rw [List.length_map]; omega)) (by decide) rfl) ?_
          refine e_qw (wy rfl rfl rfl) (q_geq rfl rfl) ?_
          refine e_q (q_pick rfl rfl rfl) ?_
          refine e_mv rfl ?_
          refine t_split (d := 73) rfl (fun g5_18 => ?_) (fun g5_18 => ?_)
          · try simp only [decide_eq_true_eq, decide_eq_false_iff_not] at g5_18
            refine l_step (s_no rfl (wno rfl rfl (by decide)) ?_)
            refine l_step (s_no rfl (wno rfl rfl (by decide)) ?_)
            refine l_step (s_no rfl (wno rfl rfl (by decide)) ?_)
            refine l_step (s_no rfl (wno rfl rfl (by decide)) ?_)
            refine l_step (s_no rfl (wno rfl rfl (by decide)) ?_)
            refine l_step (s_no rfl (wno rfl rfl (by decide)) ?_)
            refine e_q (q_pick rfl rfl rfl) ?_
            refine l_n ?_
            refine c_yes rfl ?_
            refine sr ?_
            refine e_q (q_build (cs := encState1 (⟨0, 0⟩ : State1)) zc_23 pl_23 rfl rfl) ?_
            refine e_as rfl ?_
            refine l_step (s_s0 wn (s_storep (ws := encState1 (⟨0, 0⟩ : State1)) (cs := encState1 zState1) (cs' := encState1 (⟨0, 0⟩ : State1)) rfl rfl rfl sz_23 (oneState1 _) (by simp [encState1, encState1]) rfl pk_) ?_)
            rintro _ _ ⟨rfl, rfl⟩
            refine l_n ?_
            refine c_ret ?_
            refine k_then_r ?_
            have hr : slotF (mgetD (vw T) name zF).1 = (0, zSt) := hsl.trans ((body_ok hT4 g5_2).1.trans (val_bad (by unfold goodV; rw [pv_at v3 (i := 0) (by omega), pv_at v3 (i := 1) (by omega), pv_at v3 (i := 2) (by omega)]; rw [Bool.not_eq_false', decide_eq_true (show top62 ≤ ((v3.L.map VT.val).getD 1 default).N by show 4611686018427387904 ≤ _; omega)]; simp)))
            rw [hr]
            exact t_rt [.pts b (encDisk1 (⟨room, (some mb), calls⟩ : Disk1)) 105, MP strB ptV mb (fm T), FB 109 5 T] rfl (.tmp rfl (.cell rfl pk_ (fun w h => ld_agg (by exact ag_23) h) .nil)) rfl ⟨rfl, rfl, rfl⟩
          · try simp only [decide_eq_true_eq, decide_eq_false_iff_not] at g5_18
            refine e_qw (wy rfl rfl rfl) (q_fieldp rfl fo_97_2) ?_
            refine e_qw (wy rfl rfl rfl) (q_loadp (v := .slice v3.a v3.L.length v3.cap) sc_95 rfl pk_ rfl) ?_
            refine e_qw (wy rfl rfl rfl) (q_indexe 2 Tryz.underlying95 sz_97 rfl rfl (rd_row pk_) (by decide) rfl (by first | omega | (rw [List.length_map]; omega))) ?_
            refine e_qw (wy rfl rfl rfl) (q_fielde rfl fo_97_0) ?_
            refine e_qw (wy rfl rfl rfl) (q_loade (enc := encVal1) (xs := (v3.L.map VT.val)) (j := 2) (off := 0) sc_46 rfl (rd_row pk_) (fun _ => rfl) (by first | omega | (rw [List.length_map]; omega)) (by decide) rfl) ?_
            refine e_qw (wy rfl rfl rfl) (q_gtr rfl rfl) ?_
            refine e_q (q_pick rfl rfl rfl) ?_
            refine l_n ?_
            refine c_cond rfl (fun h1 => ?_) (fun h1 => ?_)
            · try simp only [decide_eq_true_eq, decide_eq_false_iff_not] at h1
              refine sr ?_
              refine e_q (q_build (cs := encState1 (⟨0, 0⟩ : State1)) zc_23 pl_23 rfl rfl) ?_
              refine e_as rfl ?_
              refine l_step (s_s0 wn (s_storep (ws := encState1 (⟨0, 0⟩ : State1)) (cs := encState1 zState1) (cs' := encState1 (⟨0, 0⟩ : State1)) rfl rfl rfl sz_23 (oneState1 _) (by simp [encState1, encState1]) rfl pk_) ?_)
              rintro _ _ ⟨rfl, rfl⟩
              refine l_n ?_
              refine c_ret ?_
              refine k_then_r ?_
              have hr : slotF (mgetD (vw T) name zF).1 = (0, zSt) := hsl.trans ((body_ok hT4 g5_2).1.trans (val_bad (by unfold goodV; rw [pv_at v3 (i := 0) (by omega), pv_at v3 (i := 1) (by omega), pv_at v3 (i := 2) (by omega)]; rw [Bool.not_eq_false', decide_eq_true (show top62 < ((v3.L.map VT.val).getD 2 default).N by show 4611686018427387904 < _; omega)]; simp)))
              rw [hr]
              exact t_rt [.pts b (encDisk1 (⟨room, (some mb), calls⟩ : Disk1)) 105, MP strB ptV mb (fm T), FB 109 5 T] rfl (.tmp rfl (.cell rfl pk_ (fun w h => ld_agg (by exact ag_23) h) .nil)) rfl ⟨rfl, rfl, rfl⟩
            · try simp only [decide_eq_true_eq, decide_eq_false_iff_not] at h1
              refine c_skip ?_
              refine k_then_n ?_
              refine c_seq ?_
              refine d_r 21 [.row 5 1 v3.B.a v3.B.xs.length v3.B.cap (v3.B.xs.flatMap encB), .row 97 3 v3.a v3.L.length v3.cap ((v3.L.map VT.val).flatMap encVal1), Bun (v3.L.map (VA 5 97)), .pts b8 (encVal1 (⟨v3.N, v3.B, ⟨v3.a, v3.L.length, v3.cap⟩⟩ : Val1)) 97, .row 38 1 (some ⟨b44, 0, none⟩) 1 1 ([(dropS (⟨aR1, (mgetD (vw T) name zF).1, cR1⟩ : SL UInt8) 4)].flatMap encSL), .row 5 1 aR1 ((mgetD (vw T) name zF).1.length) cR1 (((mgetD (vw T) name zF).1).flatMap encB), .pts b (encDisk1 (⟨room, (some mb), calls⟩ : Disk1)) 105, MP strB ptV mb (fm T), FB 109 5 T] ?_
              refine d_t 0 rfl wn (q_fieldp rfl fo_97_2) ?_
              refine d_t 1 rfl wn (q_loadp (v := .slice v3.a v3.L.length v3.cap) sc_95 rfl pk_ rfl) ?_
              refine d_t 2 rfl wn (q_indexe 0 Tryz.underlying95 sz_97 rfl rfl (rd_row pk_) (by decide) rfl (by first | omega | (rw [List.length_map]; omega))) ?_
              refine d_t 3 rfl wn (q_fielde rfl fo_97_0) ?_
              refine d_t 4 rfl wn (q_loade (enc := encVal1) (xs := (v3.L.map VT.val)) (j := 0) (off := 0) sc_46 rfl (rd_row pk_) (fun _ => rfl) (by first | omega | (rw [List.length_map]; omega)) (by decide) rfl) ?_
              refine d_t 5 rfl wn (q_fieldp rfl fo_97_2) ?_
              refine d_t 6 rfl wn (q_loadp (v := .slice v3.a v3.L.length v3.cap) sc_95 rfl pk_ rfl) ?_
              refine d_t 7 rfl wn (q_indexe 1 Tryz.underlying95 sz_97 rfl rfl (rd_row pk_) (by decide) rfl (by first | omega | (rw [List.length_map]; omega))) ?_
              refine d_t 8 rfl wn (q_fielde rfl fo_97_0) ?_
              refine d_t 9 rfl wn (q_loade (enc := encVal1) (xs := (v3.L.map VT.val)) (j := 1) (off := 0) sc_46 rfl (rd_row pk_) (fun _ => rfl) (by first | omega | (rw [List.length_map]; omega)) (by decide) rfl) ?_
              refine d_t 10 rfl wn (q_conv rfl Tryz.underlying46 Tryz.underlying3 (by first | assumption | exact wrap_i64 (by omega) (by omega))) ?_
              refine d_t 11 rfl wn (q_fieldp rfl fo_97_2) ?_
              refine d_t 12 rfl wn (q_loadp (v := .slice v3.a v3.L.length v3.cap) sc_95 rfl pk_ rfl) ?_
              refine d_t 13 rfl wn (q_indexe 2 Tryz.underlying95 sz_97 rfl rfl (rd_row pk_) (by decide) rfl (by first | omega | (rw [List.length_map]; omega))) ?_
              refine d_t 14 rfl wn (q_fielde rfl fo_97_0) ?_
              refine d_t 15 rfl wn (q_loade (enc := encVal1) (xs := (v3.L.map VT.val)) (j := 2) (off := 0) sc_46 rfl (rd_row pk_) (fun _ => rfl) (by first | omega | (rw [List.length_map]; omega)) (by decide) rfl) ?_
              refine d_t 16 rfl wn (q_conv rfl Tryz.underlying46 Tryz.underlying3 (by first | assumption | exact wrap_i64 (by omega) (by omega))) ?_
              refine d_t 17 rfl wn (q_sub rfl rfl (by omega) (by omega)) ?_
              refine d_t 18 rfl wn (q_build (cs := encState1 (⟨(((v3.L.map VT.val).getD 1 default).N : Int), ((((v3.L.map VT.val).getD 2 default).N : Int) - 1)⟩ : State1)) zc_23 pl_23 rfl rfl) ?_
              refine d_t 19 rfl wn (q_assign rfl) ?_
              refine d_1 20 ?_
              refine o_step rfl (s_s0 wn (s_storep (ws := encState1 (⟨(((v3.L.map VT.val).getD 1 default).N : Int), ((((v3.L.map VT.val).getD 2 default).N : Int) - 1)⟩ : State1)) (cs := encState1 zState1) (cs' := encState1 (⟨(((v3.L.map VT.val).getD 1 default).N : Int), ((((v3.L.map VT.val).getD 2 default).N : Int) - 1)⟩ : State1)) rfl rfl rfl sz_23 (oneState1 _) (by simp [encState1, encState1]) rfl pk_) ?_)
              rintro _ _ ⟨rfl, rfl⟩
              refine d_c ?_
              refine d_d ?_
              refine k_then_n ?_
              refine c_ret ?_
              have hr : slotF (mgetD (vw T) name zF).1 = (((v3.L.map VT.val).getD 0 default).N, ⟨(((v3.L.map VT.val).getD 1 default).N : Int), (((v3.L.map VT.val).getD 2 default).N : Int) - 1⟩) := by rw [hsl, (body_ok hT4 g5_2).1, val_good (by unfold goodV; rw [pv_at v3 (i := 0) (by omega), pv_at v3 (i := 1) (by omega), pv_at v3 (i := 2) (by omega), decide_eq_false (show ¬ top62 ≤ ((v3.L.map VT.val).getD 0 default).N by show ¬ 4611686018427387904 ≤ _; omega), decide_eq_false (show ¬ top62 ≤ ((v3.L.map VT.val).getD 1 default).N by show ¬ 4611686018427387904 ≤ _; omega), decide_eq_false (show ¬ top62 < ((v3.L.map VT.val).getD 2 default).N by show ¬ 4611686018427387904 < _; omega)]; rfl), pv_at v3 (i := 0) (by omega), pv_at v3 (i := 1) (by omega), pv_at v3 (i := 2) (by omega)]
              rw [hr]
              exact t_rt [.pts b (encDisk1 (⟨room, (some mb), calls⟩ : Disk1)) 105, MP strB ptV mb (fm T), FB 109 5 T] rfl (.tmp rfl (.cell rfl pk_ (fun w h => ld_agg (by exact ag_23) h) .nil)) rfl ⟨rfl, rfl, rfl⟩
end Go.Hrd

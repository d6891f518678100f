/-
  Several texts, put together.
-/
import Derived.Test.YtijldgggjioccaaGreatDoorMouPP
import Derived.Test.YtijldgggjioccaaGreatDoorSlEc
import Derived.Test.YtijldgggjioccaaGreatDoorSlEb
import Derived.Test.YtijldgggjioccaaGreatDoorProg
import Derived.Test.YtijldgggjioccaaGreatDoorMouL
/-
  Package mould, walked.
-/
set_option maxRecDepth 100000
set_option maxHeartbeats 4000000
set_option linter.unusedSimpArgs false
set_option linter.unusedVariables false
namespace Go.Mou
open Go Go.SL Go.Proofs Go.Mou
attribute [local irreducible] Go.SL.Ent
theorem fo_264_0 : fieldOff Tryz.prog 264 0 = some (0, 9) := by kernel_rfl
theorem sc_9 : isScalar Tryz.prog 9 = true := by kernel_rfl
theorem zc_268 : zeroCs Tryz.prog 268 = some [.int .u8 0, .slice none 0 0] := by kernel_rfl
theorem pl_268 : placesOf Tryz.prog 268 = some [(0, 1), (1, 1)] := by kernel_rfl
theorem sz_9 : sizeIs Tryz.prog 9 = some 1 := by kernel_rfl
theorem fo_268_0 : fieldOff Tryz.prog 268 0 = some (0, 5) := by kernel_rfl
theorem sc_5 : isScalar Tryz.prog 5 = true := by kernel_rfl
theorem fo_268_1 : fieldOff Tryz.prog 268 1 = some (1, 266) := by kernel_rfl
theorem sc_266 : isScalar Tryz.prog 266 = true := by kernel_rfl
theorem eo_209 : elemOk Tryz.prog 209 1 8 = true := by kernel_rfl
theorem sz_266 : sizeIs Tryz.prog 266 = some 1 := by kernel_rfl
theorem fo_264_1 : fieldOff Tryz.prog 264 1 = some (1, 4) := by kernel_rfl
theorem sc_4 : isScalar Tryz.prog 4 = true := by kernel_rfl
theorem zc_264 : zeroCs Tryz.prog 264 = some [.string ⟨#[]⟩, .bool false] := by kernel_rfl
theorem pl_264 : placesOf Tryz.prog 264 = some [(0, 1), (1, 1)] := by kernel_rfl

def PartOk (s : Sh) : Prop := ∀ (rest : List UInt8) (deep : Int) (r : Nat) (ρ : Hp), 0 ≤ deep → deep + (s.dep : Int) ≤ 8 → s.str.length ≤ 1000000 → Spec0 Tryz.prog 187 #[.pointer (some ⟨r, 0, none⟩), .int .i64 deep] ρ [.pts r (encReader1 (⟨s.str ++ rest, false⟩ : Reader1)) 264] (fun v Γ' => ∃ k : KT, k.s = s ∧ KOk k ∧ v = ptV (some k.blk) ∧ Γ' = [KA 268 209 k, .pts r (encReader1 (⟨rest, false⟩ : Reader1)) 264])

theorem str_pos (s : Sh) : 0 < s.str.length := by obtain ⟨r, h⟩ := str_head s; rw [h]; simp
theorem strs_len : ∀ (l : List Sh), l.length ≤ (strs l).length
  | [] => Nat.le_refl _
  | s :: l => by have h1 := strs_len l; have h2 := str_pos s; simp only [strs, List.length_cons, List.length_append]; omega
theorem strs_mem {t : Sh} : ∀ {l : List Sh}, t ∈ l → t.str.length ≤ (strs l).length
  | [], h => by cases h
  | s :: l, h => by
    simp only [strs, List.length_append]
    rcases List.mem_cons.1 h with rfl | h
    · omega
    · have := strs_mem h; omega

theorem part_n_spec (r : Nat) (rest : List UInt8) (deep : Int) (ρ : Hp) (hd0 : 0 ≤ deep) (hd : deep ≤ 8) : Spec0 Tryz.prog 187 #[.pointer (some ⟨r, 0, none⟩), .int .i64 deep] ρ [.pts r (encReader1 (⟨(110 :: rest), false⟩ : Reader1)) 264] (fun v Γ' => ∃ k : KT, k.s = .n ∧ KOk k ∧ v = ptV (some k.blk) ∧ Γ' = [KA 268 209 k, .pts r (encReader1 (⟨rest, false⟩ : Reader1)) 264]) := by
  refine spec_of (n := 112) (vs := [_, _]) (σ := [(0, _), (1, _)]) Tryz.func187 rfl rfl rfl rfl fun E Δ => ?_
  simp only [List.cons_append, List.nil_append]
  refine sr ?_
  refine e_as rfl ?_
  refine l_n ?_
  refine c_seq ?_
  refine sr ?_
  refine e_mv rfl ?_
  refine e_q (q_nilCheck rfl) ?_
  refine e_q (q_fieldp rfl fo_264_0) ?_
  refine e_q (q_loadp (v := (strB (110 :: rest))) sc_9 rfl pk_ rfl) ?_
  refine e_q (q_eqlsB (p := (110 :: rest)) (q := []) rfl rfl) ?_
  refine e_mv rfl ?_
  refine Tr.env (.cons (t := 11) (v := .bool false) rfl (congrArg Value.bool (decide_eq_false (by simp))) (EnvLe.refl _)) ?_
  refine e_qw (wy rfl rfl rfl) (q_move rfl) ?_
  refine e_qw (wy rfl rfl rfl) (q_gtr rfl rfl) ?_
  refine e_q (q_pick rfl rfl rfl) ?_
  refine l_n ?_
  refine c_sure false rfl (decide_eq_false (by omega)) ?_
  simp only [Bool.false_eq_true, if_true, if_false]
  refine c_skip ?_
  refine k_then_n ?_
  refine sr ?_
  refine e_mv rfl ?_
  refine e_q (q_nilCheck rfl) ?_
  refine e_q (q_fieldp rfl fo_264_0) ?_
  refine e_q (q_loadp (v := (strB (110 :: rest))) sc_9 rfl pk_ rfl) ?_
  refine e_q (q_as (v := .int .u8 ((110 : UInt8).toNat : Int)) (q_indexs 0 Tryz.underlying9 rfl rfl rfl (by simp)) rfl) ?_
  refine e_q (q_build (cs := encKind1 (⟨(110 : UInt8), ⟨none, 0, 0⟩⟩ : Kind1)) zc_268 pl_268 rfl rfl) ?_
  refine e_s (s_box (cs := encKind1 (⟨(110 : UInt8), ⟨none, 0, 0⟩⟩ : Kind1)) rfl rfl) ?_
  rintro _ _ ⟨b26, rfl, rfl⟩
  refine e_as rfl ?_
  refine l_n ?_
  refine sr ?_
  refine e_mv rfl ?_
  refine e_mv rfl ?_
  refine e_q (q_nilCheck rfl) ?_
  refine e_q (q_fieldp rfl fo_264_0) ?_
  refine e_q (q_loadp (v := (strB (110 :: rest))) sc_9 rfl pk_ rfl) ?_
  refine e_q (q_as (v := strB rest) (q_cuts_lo (Tryz.underlying9) rfl rfl (by omega) (by simp only [List.length_cons]; omega)) rfl) ?_
  refine e_q (q_nilCheck rfl) ?_
  refine e_q (q_fieldp rfl fo_264_0) ?_
  refine l_step (s_s0 wn (s_storep (ws := [(strB rest)]) (cs := encReader1 (⟨(110 :: rest), false⟩ : Reader1)) (cs' := encReader1 (⟨rest, false⟩ : Reader1)) rfl rfl rfl sz_9 (by simp [Value.oneCell', strB, ptV, SL.v, SH.v]) (by simp [encReader1]) rfl pk_) ?_)
  rintro _ _ ⟨rfl, rfl⟩
  refine l_n ?_
  refine c_seq ?_
  refine sr ?_
  refine e_mv rfl ?_
  refine e_q (q_nilCheck rfl) ?_
  refine e_q (q_fieldp rfl fo_268_0) ?_
  refine e_q (q_loadp (v := .int .u8 ((110 : UInt8).toNat : Int)) sc_5 rfl pk_ rfl) ?_
  refine l_n ?_
  refine c_block ?_
  refine c_seq ?_
  refine sr ?_
  refine e_q (q_eql rfl rfl) ?_
  refine e_as rfl ?_
  refine l_n ?_
  refine c_sure true rfl (by decide) ?_
  simp only [Bool.false_eq_true, if_true, if_false]
  refine c_skip ?_
  refine k_then_n ?_
  refine c_sure true rfl (by decide) ?_
  simp only [Bool.false_eq_true, if_true, if_false]
  refine c_skip ?_
  refine k_blk_n ?_
  refine k_then_n ?_
  refine sr ?_
  refine e_mv rfl ?_
  refine e_as rfl ?_
  refine l_n ?_
  refine c_ret ?_
  refine Tr.ent (Ent.nilrow 209 1 _) ?_
  refine Tr.ent (bun_nil _) ?_
  refine Tr.ent (Ent.trans (Ent.pick (A := .pts b26 (encKind1 (⟨(110 : UInt8), ⟨none, 0, 0⟩⟩ : Kind1)) 268) pk_ (Ent.pick (A := .row 209 1 none 0 0 ((([] : List KT).map KT.pt).flatMap encPt)) pk_ (Ent.pick (A := Bun (([] : List KT).map (KA 268 209))) pk_ (Ent.refl _)))) (k_shut (tk := 268) (tp := 209) (b := b26) (a := none) (c := 0) (s := .n) (of := ([] : List KT)))) ?_
  exact t_rt [KA 268 209 (.mk b26 none 0 .n ([] : List KT)), .pts r (encReader1 (⟨rest, false⟩ : Reader1)) 264] rfl (.tmp rfl .nil) rfl ⟨rfl, _, rfl, KOk.mk rfl (fun _ h => by cases h), rfl, rfl⟩

theorem part_b_spec (r : Nat) (rest : List UInt8) (deep : Int) (ρ : Hp) (hd0 : 0 ≤ deep) (hd : deep ≤ 8) : Spec0 Tryz.prog 187 #[.pointer (some ⟨r, 0, none⟩), .int .i64 deep] ρ [.pts r (encReader1 (⟨(98 :: rest), false⟩ : Reader1)) 264] (fun v Γ' => ∃ k : KT, k.s = .b ∧ KOk k ∧ v = ptV (some k.blk) ∧ Γ' = [KA 268 209 k, .pts r (encReader1 (⟨rest, false⟩ : Reader1)) 264]) := by
  refine spec_of (n := 112) (vs := [_, _]) (σ := [(0, _), (1, _)]) Tryz.func187 rfl rfl rfl rfl fun E Δ => ?_
  simp only [List.cons_append, List.nil_append]
  refine sr ?_
  refine e_as rfl ?_
  refine l_n ?_
  refine c_seq ?_
  refine sr ?_
  refine e_mv rfl ?_
  refine e_q (q_nilCheck rfl) ?_
  refine e_q (q_fieldp rfl fo_264_0) ?_
  refine e_q (q_loadp (v := (strB (98 :: rest))) sc_9 rfl pk_ rfl) ?_
  refine e_q (q_eqlsB (p := (98 :: rest)) (q := []) rfl rfl) ?_
  refine e_mv rfl ?_
  refine Tr.env (.cons (t := 11) (v := .bool false) rfl (congrArg Value.bool (decide_eq_false (by simp))) (EnvLe.refl _)) ?_
  refine e_qw (wy rfl rfl rfl) (q_move rfl) ?_
  refine e_qw (wy rfl rfl rfl) (q_gtr rfl rfl) ?_
  refine e_q (q_pick rfl rfl rfl) ?_
  refine l_n ?_
  refine c_sure false rfl (decide_eq_false (by omega)) ?_
  simp only [Bool.false_eq_true, if_true, if_false]
  refine c_skip ?_
  refine k_then_n ?_
  refine sr ?_
  refine e_mv rfl ?_
  refine e_q (q_nilCheck rfl) ?_
  refine e_q (q_fieldp rfl fo_264_0) ?_
  refine e_q (q_loadp (v := (strB (98 :: rest))) sc_9 rfl pk_ rfl) ?_
  refine e_q (q_as (v := .int .u8 ((98 : UInt8).toNat : Int)) (q_indexs 0 Tryz.underlying9 rfl rfl rfl (by simp)) rfl) ?_
  refine e_q (q_build (cs := encKind1 (⟨(98 : UInt8), ⟨none, 0, 0⟩⟩ : Kind1)) zc_268 pl_268 rfl rfl) ?_
  refine e_s (s_box (cs := encKind1 (⟨(98 : UInt8), ⟨none, 0, 0⟩⟩ : Kind1)) rfl rfl) ?_
  rintro _ _ ⟨b26, rfl, rfl⟩
  refine e_as rfl ?_
  refine l_n ?_
  refine sr ?_
  refine e_mv rfl ?_
  refine e_mv rfl ?_
  refine e_q (q_nilCheck rfl) ?_
  refine e_q (q_fieldp rfl fo_264_0) ?_
  refine e_q (q_loadp (v := (strB (98 :: rest))) sc_9 rfl pk_ rfl) ?_
  refine e_q (q_as (v := strB rest) (q_cuts_lo (Tryz.underlying9) rfl rfl (by omega) (by simp only [List.length_cons]; omega)) rfl) ?_
  refine e_q (q_nilCheck rfl) ?_
  refine e_q (q_fieldp rfl fo_264_0) ?_
  refine l_step (s_s0 wn (s_storep (ws := [(strB rest)]) (cs := encReader1 (⟨(98 :: rest), false⟩ : Reader1)) (cs' := encReader1 (⟨rest, false⟩ : Reader1)) rfl rfl rfl sz_9 (by simp [Value.oneCell', strB, ptV, SL.v, SH.v]) (by simp [encReader1]) rfl pk_) ?_)
  rintro _ _ ⟨rfl, rfl⟩
  refine l_n ?_
  refine c_seq ?_
  refine sr ?_
  refine e_mv rfl ?_
  refine e_q (q_nilCheck rfl) ?_
  refine e_q (q_fieldp rfl fo_268_0) ?_
  refine e_q (q_loadp (v := .int .u8 ((98 : UInt8).toNat : Int)) sc_5 rfl pk_ rfl) ?_
  refine l_n ?_
  refine c_block ?_
  refine c_seq ?_
  refine sr ?_
  refine e_q (q_eql rfl rfl) ?_
  refine e_as rfl ?_
  refine l_n ?_
  refine c_sure false rfl (by decide) ?_
  simp only [Bool.false_eq_true, if_true, if_false]
  refine c_region ?_
  refine e_q (q_eql rfl rfl) ?_
  refine e_as rfl ?_
  refine l_n ?_
  refine c_sure true rfl (by decide) ?_
  simp only [Bool.false_eq_true, if_true, if_false]
  refine c_skip ?_
  refine k_blk_n ?_
  refine k_then_n ?_
  refine sr ?_
  refine e_mv rfl ?_
  refine e_as rfl ?_
  refine l_n ?_
  refine c_ret ?_
  refine Tr.ent (Ent.nilrow 209 1 _) ?_
  refine Tr.ent (bun_nil _) ?_
  refine Tr.ent (Ent.trans (Ent.pick (A := .pts b26 (encKind1 (⟨(98 : UInt8), ⟨none, 0, 0⟩⟩ : Kind1)) 268) pk_ (Ent.pick (A := .row 209 1 none 0 0 ((([] : List KT).map KT.pt).flatMap encPt)) pk_ (Ent.pick (A := Bun (([] : List KT).map (KA 268 209))) pk_ (Ent.refl _)))) (k_shut (tk := 268) (tp := 209) (b := b26) (a := none) (c := 0) (s := .b) (of := ([] : List KT)))) ?_
  exact t_rt [KA 268 209 (.mk b26 none 0 .b ([] : List KT)), .pts r (encReader1 (⟨rest, false⟩ : Reader1)) 264] rfl (.tmp rfl .nil) rfl ⟨rfl, _, rfl, KOk.mk rfl (fun _ h => by cases h), rfl, rfl⟩

theorem part_star_spec (s2 : Sh) (r : Nat) (rest : List UInt8) (deep : Int) (ρ : Hp) (ih : ∀ t : Sh, t.wt < (Sh.star s2).wt → PartOk t) (hd0 : 0 ≤ deep) (hd : deep + ((Sh.star s2).dep : Int) ≤ 8) (hs : s2.str.length ≤ 1000000) : Spec0 Tryz.prog 187 #[.pointer (some ⟨r, 0, none⟩), .int .i64 deep] ρ [.pts r (encReader1 (⟨(42 :: (s2.str ++ rest)), false⟩ : Reader1)) 264] (fun v Γ' => ∃ k : KT, k.s = .star s2 ∧ KOk k ∧ v = ptV (some k.blk) ∧ Γ' = [KA 268 209 k, .pts r (encReader1 (⟨rest, false⟩ : Reader1)) 264]) := by
  refine spec_of (n := 112) (vs := [_, _]) (σ := [(0, _), (1, _)]) Tryz.func187 rfl rfl rfl rfl fun E Δ => ?_
  simp only [List.cons_append, List.nil_append]
  have hd9 : (Sh.star s2).dep = s2.dep + 1 := rfl
  have hw9 : (Sh.star s2).wt = s2.wt + 1 := rfl
  refine sr ?_
  refine e_as rfl ?_
  refine l_n ?_
  refine c_seq ?_
  refine sr ?_
  refine e_mv rfl ?_
  refine e_q (q_nilCheck rfl) ?_
  refine e_q (q_fieldp rfl fo_264_0) ?_
  refine e_q (q_loadp (v := (strB (42 :: (s2.str ++ rest)))) sc_9 rfl pk_ rfl) ?_
  refine e_q (q_eqlsB (p := (42 :: (s2.str ++ rest))) (q := []) rfl rfl) ?_
  refine e_mv rfl ?_
  refine Tr.env (.cons (t := 11) (v := .bool false) rfl (congrArg Value.bool (decide_eq_false (by simp))) (EnvLe.refl _)) ?_
  refine e_qw (wy rfl rfl rfl) (q_move rfl) ?_
  refine e_qw (wy rfl rfl rfl) (q_gtr rfl rfl) ?_
  refine e_q (q_pick rfl rfl rfl) ?_
  refine l_n ?_
  refine c_sure false rfl (decide_eq_false (by omega)) ?_
  simp only [Bool.false_eq_true, if_true, if_false]
  refine c_skip ?_
  refine k_then_n ?_
  refine sr ?_
  refine e_mv rfl ?_
  refine e_q (q_nilCheck rfl) ?_
  refine e_q (q_fieldp rfl fo_264_0) ?_
  refine e_q (q_loadp (v := (strB (42 :: (s2.str ++ rest)))) sc_9 rfl pk_ rfl) ?_
  refine e_q (q_as (v := .int .u8 ((42 : UInt8).toNat : Int)) (q_indexs 0 Tryz.underlying9 rfl rfl rfl (by simp)) rfl) ?_
  refine e_q (q_build (cs := encKind1 (⟨(42 : UInt8), ⟨none, 0, 0⟩⟩ : Kind1)) zc_268 pl_268 rfl rfl) ?_
  refine e_s (s_box (cs := encKind1 (⟨(42 : UInt8), ⟨none, 0, 0⟩⟩ : Kind1)) rfl rfl) ?_
  rintro _ _ ⟨b26, rfl, rfl⟩
  refine e_as rfl ?_
  refine l_n ?_
  refine sr ?_
  refine e_mv rfl ?_
  refine e_mv rfl ?_
  refine e_q (q_nilCheck rfl) ?_
  refine e_q (q_fieldp rfl fo_264_0) ?_
  refine e_q (q_loadp (v := (strB (42 :: (s2.str ++ rest)))) sc_9 rfl pk_ rfl) ?_
  refine e_q (q_as (v := strB (s2.str ++ rest)) (q_cuts_lo (Tryz.underlying9) rfl rfl (by omega) (by simp only [List.length_cons]; omega)) rfl) ?_
  refine e_q (q_nilCheck rfl) ?_
  refine e_q (q_fieldp rfl fo_264_0) ?_
  refine l_step (s_s0 wn (s_storep (ws := [(strB (s2.str ++ rest))]) (cs := encReader1 (⟨(42 :: (s2.str ++ rest)), false⟩ : Reader1)) (cs' := encReader1 (⟨(s2.str ++ rest), false⟩ : Reader1)) rfl rfl rfl sz_9 (by simp [Value.oneCell', strB, ptV, SL.v, SH.v]) (by simp [encReader1]) rfl pk_) ?_)
  rintro _ _ ⟨rfl, rfl⟩
  refine l_n ?_
  refine c_seq ?_
  refine sr ?_
  refine e_mv rfl ?_
  refine e_q (q_nilCheck rfl) ?_
  refine e_q (q_fieldp rfl fo_268_0) ?_
  refine e_q (q_loadp (v := .int .u8 ((42 : UInt8).toNat : Int)) sc_5 rfl pk_ rfl) ?_
  refine l_n ?_
  refine c_block ?_
  refine c_seq ?_
  refine sr ?_
  refine e_q (q_eql rfl rfl) ?_
  refine e_as rfl ?_
  refine l_n ?_
  refine c_sure false rfl (by decide) ?_
  simp only [Bool.false_eq_true, if_true, if_false]
  refine c_region ?_
  refine e_q (q_eql rfl rfl) ?_
  refine e_as rfl ?_
  refine l_n ?_
  refine c_sure false rfl (by decide) ?_
  simp only [Bool.false_eq_true, if_true, if_false]
  refine sr ?_
  refine e_q (q_eql rfl rfl) ?_
  refine e_as rfl ?_
  refine l_n ?_
  refine c_sure true rfl (by decide) ?_
  simp only [Bool.false_eq_true, if_true, if_false]
  refine d_r 14 [] ?_
  refine Tr.ent (Ent.nilrow 209 1 _) ?_
  refine Tr.ent (bun_nil _) ?_
  refine d_t 0 rfl wn (q_move rfl) ?_
  refine d_t 1 rfl wn (q_move rfl) ?_
  refine d_t 2 rfl wn (q_nilCheck rfl) ?_
  refine d_t 3 rfl wn (q_fieldp rfl fo_268_1) ?_
  refine d_t 5 rfl wn (q_move rfl) ?_
  refine d_t 6 rfl wn (q_move rfl) ?_
  refine d_t 7 rfl wn (q_add rfl rfl (by omega) (by omega)) ?_
  refine d_2 4 8 ?_ ?_
  · skip
    refine o_step rfl (s_q rfl wn (q_loadp (v := .slice none 0 0) sc_266 rfl pk_ rfl) ?_)
    refine d_c ?_
    refine d_1 8 ?_
    refine o_step rfl (s_fnb rfl wn Tryz.func187 rfl (by kernel_rfl) rfl sl_ (fun ρ' hL => ih s2 (by omega) rest (deep + 1) r ρ' (by omega) (by omega) hs) ?_)
    rintro _ _ ⟨kN, hk1, hk2, rfl, rfl⟩
    try simp only [List.cons_append, List.nil_append]
    refine d_c ?_
    refine d_1 9 ?_
    refine o_step rfl (s_s rfl wn (s_buildSlice (cs := ([(some kN.blk)] : List (Option Nat)).flatMap encPt) Tryz.underlying266 eo_209 rfl rfl rfl rfl (by decide) (by decide)) ?_)
    rintro _ _ ⟨b56, rfl, rfl⟩
    refine d_c ?_
    refine d_1 10 ?_
    refine o_step rfl (s_s rfl wn (s_appendn (enc := encPt) (xs := ((([] : List KT).map KT.pt) : List (Option Nat))) (ys := ([(some kN.blk)] : List (Option Nat))) (Γ' := fun a' cap' => _) Tryz.underlying266 eo_209 (by decide) rfl rfl (rd_row pk_) (onePt _) (by first | omega | (simp only [List.length_append, List.length_cons, List.length_nil] at *; omega)) (by first | omega | (simp only [List.length_append, List.length_cons, List.length_nil] at *; omega)) (fun _ _ => pk_)) ?_)
    rintro _ _ ⟨a57, c57, rfl, rfl⟩
    refine d_c ?_
    refine d_t 11 rfl wn (q_nilCheck rfl) ?_
    refine d_t 12 rfl wn (q_fieldp rfl fo_268_1) ?_
    refine d_1 13 ?_
    refine o_step rfl (s_s0 wn (s_storep (ws := [.slice a57 (0 + 1) c57]) (cs := encKind1 (⟨(42 : UInt8), ⟨none, 0, 0⟩⟩ : Kind1)) (cs' := encKind1 (⟨(42 : UInt8), ⟨a57, (0 + 1), c57⟩⟩ : Kind1)) rfl rfl rfl sz_266 (by simp [Value.oneCell', strB, ptV, SL.v, SH.v]) (by simp [encKind1]) rfl pk_) ?_)
    rintro _ _ ⟨rfl, rfl⟩
    refine d_c ?_
    refine d_d ?_
    refine k_blk_n ?_
    refine k_then_n ?_
    refine sr ?_
    refine e_mv rfl ?_
    refine e_as rfl ?_
    refine l_n ?_
    refine c_ret ?_
    refine Tr.ent (Ent.trans (Ent.pick (A := KA 268 209 kN) pk_ (Ent.pick (A := Bun (([] : List KT).map (KA 268 209))) pk_ (Ent.refl _))) (bun_snoc _ _ _)) ?_
    skip
    refine Tr.ent (Ent.trans (Ent.pick (A := .pts b26 (encKind1 (⟨(42 : UInt8), ⟨a57, (0 + 1), c57⟩⟩ : Kind1)) 268) pk_ (Ent.pick (A := .row 209 1 a57 1 c57 (([kN].map KT.pt).flatMap encPt)) pk_ (Ent.pick (A := Bun ([kN].map (KA 268 209))) pk_ (Ent.refl _)))) (k_shut (tk := 268) (tp := 209) (b := b26) (a := a57) (c := c57) (s := .star s2) (of := [kN]))) ?_
    exact t_rt [KA 268 209 (.mk b26 a57 c57 (.star s2) [kN]), .pts r (encReader1 (⟨rest, false⟩ : Reader1)) 264] rfl (.tmp rfl .nil) rfl ⟨rfl, _, rfl, KOk.mk (by simp only [List.map_cons, List.map_nil, hk1]; rfl) (fun x h => by rw [List.mem_singleton.1 h]; exact hk2), rfl, rfl⟩
  · skip
    refine o_step rfl (s_fnb rfl wn Tryz.func187 rfl (by kernel_rfl) rfl sl_ (fun ρ' hL => ih s2 (by omega) rest (deep + 1) r ρ' (by omega) (by omega) hs) ?_)
    rintro _ _ ⟨kN, hk1, hk2, rfl, rfl⟩
    try simp only [List.cons_append, List.nil_append]
    refine d_c ?_
    refine d_2 4 9 ?_ ?_
    · skip
      refine o_step rfl (s_q rfl wn (q_loadp (v := .slice none 0 0) sc_266 rfl pk_ rfl) ?_)
      refine d_c ?_
      refine d_1 9 ?_
      refine o_step rfl (s_s rfl wn (s_buildSlice (cs := ([(some kN.blk)] : List (Option Nat)).flatMap encPt) Tryz.underlying266 eo_209 rfl rfl rfl rfl (by decide) (by decide)) ?_)
      rintro _ _ ⟨b56, rfl, rfl⟩
      refine d_c ?_
      refine d_1 10 ?_
      refine o_step rfl (s_s rfl wn (s_appendn (enc := encPt) (xs := ((([] : List KT).map KT.pt) : List (Option Nat))) (ys := ([(some kN.blk)] : List (Option Nat))) (Γ' := fun a' cap' => _) Tryz.underlying266 eo_209 (by decide) rfl rfl (rd_row pk_) (onePt _) (by first | omega | (simp only [List.length_append, List.length_cons, List.length_nil] at *; omega)) (by first | omega | (simp only [List.length_append, List.length_cons, List.length_nil] at *; omega)) (fun _ _ => pk_)) ?_)
      rintro _ _ ⟨a57, c57, rfl, rfl⟩
      refine d_c ?_
      refine d_t 11 rfl wn (q_nilCheck rfl) ?_
      refine d_t 12 rfl wn (q_fieldp rfl fo_268_1) ?_
      refine d_1 13 ?_
      refine o_step rfl (s_s0 wn (s_storep (ws := [.slice a57 (0 + 1) c57]) (cs := encKind1 (⟨(42 : UInt8), ⟨none, 0, 0⟩⟩ : Kind1)) (cs' := encKind1 (⟨(42 : UInt8), ⟨a57, (0 + 1), c57⟩⟩ : Kind1)) rfl rfl rfl sz_266 (by simp [Value.oneCell', strB, ptV, SL.v, SH.v]) (by simp [encKind1]) rfl pk_) ?_)
      rintro _ _ ⟨rfl, rfl⟩
      refine d_c ?_
      refine d_d ?_
      refine k_blk_n ?_
      refine k_then_n ?_
      refine sr ?_
      refine e_mv rfl ?_
      refine e_as rfl ?_
      refine l_n ?_
      refine c_ret ?_
      refine Tr.ent (Ent.trans (Ent.pick (A := KA 268 209 kN) pk_ (Ent.pick (A := Bun (([] : List KT).map (KA 268 209))) pk_ (Ent.refl _))) (bun_snoc _ _ _)) ?_
      skip
      refine Tr.ent (Ent.trans (Ent.pick (A := .pts b26 (encKind1 (⟨(42 : UInt8), ⟨a57, (0 + 1), c57⟩⟩ : Kind1)) 268) pk_ (Ent.pick (A := .row 209 1 a57 1 c57 (([kN].map KT.pt).flatMap encPt)) pk_ (Ent.pick (A := Bun ([kN].map (KA 268 209))) pk_ (Ent.refl _)))) (k_shut (tk := 268) (tp := 209) (b := b26) (a := a57) (c := c57) (s := .star s2) (of := [kN]))) ?_
      exact t_rt [KA 268 209 (.mk b26 a57 c57 (.star s2) [kN]), .pts r (encReader1 (⟨rest, false⟩ : Reader1)) 264] rfl (.tmp rfl .nil) rfl ⟨rfl, _, rfl, KOk.mk (by simp only [List.map_cons, List.map_nil, hk1]; rfl) (fun x h => by rw [List.mem_singleton.1 h]; exact hk2), rfl, rfl⟩
    · skip
      refine o_step rfl (s_s rfl wn (s_buildSlice (cs := ([(some kN.blk)] : List (Option Nat)).flatMap encPt) Tryz.underlying266 eo_209 rfl rfl rfl rfl (by decide) (by decide)) ?_)
      rintro _ _ ⟨b56, rfl, rfl⟩
      refine d_c ?_
      refine d_1 4 ?_
      refine o_step rfl (s_q rfl wn (q_loadp (v := .slice none 0 0) sc_266 rfl pk_ rfl) ?_)
      refine d_c ?_
      refine d_1 10 ?_
      refine o_step rfl (s_s rfl wn (s_appendn (enc := encPt) (xs := ((([] : List KT).map KT.pt) : List (Option Nat))) (ys := ([(some kN.blk)] : List (Option Nat))) (Γ' := fun a' cap' => _) Tryz.underlying266 eo_209 (by decide) rfl rfl (rd_row pk_) (onePt _) (by first | omega | (simp only [List.length_append, List.length_cons, List.length_nil] at *; omega)) (by first | omega | (simp only [List.length_append, List.length_cons, List.length_nil] at *; omega)) (fun _ _ => pk_)) ?_)
      rintro _ _ ⟨a57, c57, rfl, rfl⟩
      refine d_c ?_
      refine d_t 11 rfl wn (q_nilCheck rfl) ?_
      refine d_t 12 rfl wn (q_fieldp rfl fo_268_1) ?_
      refine d_1 13 ?_
      refine o_step rfl (s_s0 wn (s_storep (ws := [.slice a57 (0 + 1) c57]) (cs := encKind1 (⟨(42 : UInt8), ⟨none, 0, 0⟩⟩ : Kind1)) (cs' := encKind1 (⟨(42 : UInt8), ⟨a57, (0 + 1), c57⟩⟩ : Kind1)) rfl rfl rfl sz_266 (by simp [Value.oneCell', strB, ptV, SL.v, SH.v]) (by simp [encKind1]) rfl pk_) ?_)
      rintro _ _ ⟨rfl, rfl⟩
      refine d_c ?_
      refine d_d ?_
      refine k_blk_n ?_
      refine k_then_n ?_
      refine sr ?_
      refine e_mv rfl ?_
      refine e_as rfl ?_
      refine l_n ?_
      refine c_ret ?_
      refine Tr.ent (Ent.trans (Ent.pick (A := KA 268 209 kN) pk_ (Ent.pick (A := Bun (([] : List KT).map (KA 268 209))) pk_ (Ent.refl _))) (bun_snoc _ _ _)) ?_
      skip
      refine Tr.ent (Ent.trans (Ent.pick (A := .pts b26 (encKind1 (⟨(42 : UInt8), ⟨a57, (0 + 1), c57⟩⟩ : Kind1)) 268) pk_ (Ent.pick (A := .row 209 1 a57 1 c57 (([kN].map KT.pt).flatMap encPt)) pk_ (Ent.pick (A := Bun ([kN].map (KA 268 209))) pk_ (Ent.refl _)))) (k_shut (tk := 268) (tp := 209) (b := b26) (a := a57) (c := c57) (s := .star s2) (of := [kN]))) ?_
      exact t_rt [KA 268 209 (.mk b26 a57 c57 (.star s2) [kN]), .pts r (encReader1 (⟨rest, false⟩ : Reader1)) 264] rfl (.tmp rfl .nil) rfl ⟨rfl, _, rfl, KOk.mk (by simp only [List.map_cons, List.map_nil, hk1]; rfl) (fun x h => by rw [List.mem_singleton.1 h]; exact hk2), rfl, rfl⟩

theorem part_row_spec (l : List Sh) (r : Nat) (rest : List UInt8) (deep : Int) (ρ : Hp) (ih : ∀ t : Sh, t.wt < (Sh.row l).wt → PartOk t) (hd0 : 0 ≤ deep) (hd1 : deep ≤ 8) (hd : ∀ t ∈ l, deep + 1 + (t.dep : Int) ≤ 8) (hs : (strs l).length ≤ 1000000) : Spec0 Tryz.prog 187 #[.pointer (some ⟨r, 0, none⟩), .int .i64 deep] ρ [.pts r (encReader1 (⟨(91 :: (strs l ++ 93 :: rest)), false⟩ : Reader1)) 264] (fun v Γ' => ∃ k : KT, k.s = .row l ∧ KOk k ∧ v = ptV (some k.blk) ∧ Γ' = [KA 268 209 k, .pts r (encReader1 (⟨rest, false⟩ : Reader1)) 264]) := by
  refine spec_of (n := 112) (vs := [_, _]) (σ := [(0, _), (1, _)]) Tryz.func187 rfl rfl rfl rfl fun E Δ => ?_
  simp only [List.cons_append, List.nil_append]
  refine sr ?_
  refine e_as rfl ?_
  refine l_n ?_
  refine c_seq ?_
  refine sr ?_
  refine e_mv rfl ?_
  refine e_q (q_nilCheck rfl) ?_
  refine e_q (q_fieldp rfl fo_264_0) ?_
  refine e_q (q_loadp (v := (strB (91 :: (strs l ++ 93 :: rest)))) sc_9 rfl pk_ rfl) ?_
  refine e_q (q_eqlsB (p := (91 :: (strs l ++ 93 :: rest))) (q := []) rfl rfl) ?_
  refine e_mv rfl ?_
  refine Tr.env (.cons (t := 11) (v := .bool false) rfl (congrArg Value.bool (decide_eq_false (by simp))) (EnvLe.refl _)) ?_
  refine e_qw (wy rfl rfl rfl) (q_move rfl) ?_
  refine e_qw (wy rfl rfl rfl) (q_gtr rfl rfl) ?_
  refine e_q (q_pick rfl rfl rfl) ?_
  refine l_n ?_
  refine c_sure false rfl (decide_eq_false (by omega)) ?_
  simp only [Bool.false_eq_true, if_true, if_false]
  refine c_skip ?_
  refine k_then_n ?_
  refine sr ?_
  refine e_mv rfl ?_
  refine e_q (q_nilCheck rfl) ?_
  refine e_q (q_fieldp rfl fo_264_0) ?_
  refine e_q (q_loadp (v := (strB (91 :: (strs l ++ 93 :: rest)))) sc_9 rfl pk_ rfl) ?_
  refine e_q (q_as (v := .int .u8 ((91 : UInt8).toNat : Int)) (q_indexs 0 Tryz.underlying9 rfl rfl rfl (by simp)) rfl) ?_
  refine e_q (q_build (cs := encKind1 (⟨(91 : UInt8), ⟨none, 0, 0⟩⟩ : Kind1)) zc_268 pl_268 rfl rfl) ?_
  refine e_s (s_box (cs := encKind1 (⟨(91 : UInt8), ⟨none, 0, 0⟩⟩ : Kind1)) rfl rfl) ?_
  rintro _ _ ⟨b26, rfl, rfl⟩
  refine e_as rfl ?_
  refine l_n ?_
  refine sr ?_
  refine e_mv rfl ?_
  refine e_mv rfl ?_
  refine e_q (q_nilCheck rfl) ?_
  refine e_q (q_fieldp rfl fo_264_0) ?_
  refine e_q (q_loadp (v := (strB (91 :: (strs l ++ 93 :: rest)))) sc_9 rfl pk_ rfl) ?_
  refine e_q (q_as (v := strB (strs l ++ 93 :: rest)) (q_cuts_lo (Tryz.underlying9) rfl rfl (by omega) (by simp only [List.length_cons]; omega)) rfl) ?_
  refine e_q (q_nilCheck rfl) ?_
  refine e_q (q_fieldp rfl fo_264_0) ?_
  refine l_step (s_s0 wn (s_storep (ws := [(strB (strs l ++ 93 :: rest))]) (cs := encReader1 (⟨(91 :: (strs l ++ 93 :: rest)), false⟩ : Reader1)) (cs' := encReader1 (⟨(strs l ++ 93 :: rest), false⟩ : Reader1)) rfl rfl rfl sz_9 (by simp [Value.oneCell', strB, ptV, SL.v, SH.v]) (by simp [encReader1]) rfl pk_) ?_)
  rintro _ _ ⟨rfl, rfl⟩
  refine l_n ?_
  refine c_seq ?_
  refine sr ?_
  refine e_mv rfl ?_
  refine e_q (q_nilCheck rfl) ?_
  refine e_q (q_fieldp rfl fo_268_0) ?_
  refine e_q (q_loadp (v := .int .u8 ((91 : UInt8).toNat : Int)) sc_5 rfl pk_ rfl) ?_
  refine l_n ?_
  refine c_block ?_
  refine c_seq ?_
  refine sr ?_
  refine e_q (q_eql rfl rfl) ?_
  refine e_as rfl ?_
  refine l_n ?_
  refine c_sure false rfl (by decide) ?_
  simp only [Bool.false_eq_true, if_true, if_false]
  refine c_region ?_
  refine e_q (q_eql rfl rfl) ?_
  refine e_as rfl ?_
  refine l_n ?_
  refine c_sure false rfl (by decide) ?_
  simp only [Bool.false_eq_true, if_true, if_false]
  refine sr ?_
  refine e_q (q_eql rfl rfl) ?_
  refine e_as rfl ?_
  refine l_n ?_
  refine c_sure false rfl (by decide) ?_
  simp only [Bool.false_eq_true, if_true, if_false]
  refine sr ?_
  refine e_q (q_eql rfl rfl) ?_
  refine e_as rfl ?_
  refine l_n ?_
  refine c_sure true rfl (by decide) ?_
  simp only [Bool.false_eq_true, if_true, if_false]
  refine Tr.ent (Ent.nilrow 209 1 _) ?_
  refine Tr.ent (bun_nil _) ?_
  refine c_seq ?_
  refine c_block ?_
  refine Tr.env (σ' := [(0, _), (1, _), (4, _), (5, _)]) ev_ ?_
  refine t_loop (ι := Lp (List Sh × List KT × Option Addr × Nat)) (fun x => x.d.2.1.map KT.s ++ x.d.1 = l ∧ ∀ y ∈ x.d.2.1, KOk y) (fun x => x.d.1.length) (fun x => [(0, .pointer (some ⟨r, 0, none⟩)), (1, .int .i64 deep), (4, .pointer none), (5, .pointer (some ⟨b26, 0, none⟩))]) (fun x => Bun (x.d.2.1.map (KA 268 209)) :: .row 209 1 x.d.2.2.1 x.d.2.1.length x.d.2.2.2 ((x.d.2.1.map KT.pt).flatMap encPt) :: .pts b26 (encKind1 (⟨(91 : UInt8), ⟨x.d.2.2.1, x.d.2.1.length, x.d.2.2.2⟩⟩ : Kind1)) 268 :: .pts r (encReader1 (⟨(strs x.d.1 ++ 93 :: rest), false⟩ : Reader1)) 264 :: Δ) (⟨(l, [], none, 0), none, 0, none, 0, none, 0⟩ : Lp _) ⟨rfl, fun _ h => by cases h⟩ ?_ ?_ ?_
  · exact .c (.c (.c (.c (.nil _))))
  · exact en_
  intro x hx
  obtain ⟨hx1, hx2⟩ := hx
  have hkl : x.d.2.1.length + x.d.1.length = l.length := by have h9 := congrArg List.length hx1; rw [List.length_append, List.length_map] at h9; exact h9
  have hll := strs_len l
  refine c_seq ?_
  refine sr ?_
  refine e_mv rfl ?_
  refine e_q (q_nilCheck rfl) ?_
  refine e_q (q_fieldp rfl fo_264_1) ?_
  refine e_q (q_loadp (v := .bool false) sc_4 rfl pk_ rfl) ?_
  refine e_q (q_not rfl) ?_
  refine e_mv rfl ?_
  refine e_qw (wy rfl rfl rfl) (q_move rfl) ?_
  refine e_qw (wy rfl rfl rfl) (q_nilCheck rfl) ?_
  refine e_qw (wy rfl rfl rfl) (q_fieldp rfl fo_264_0) ?_
  refine e_qw (wy rfl rfl rfl) (q_loadp (v := (strB (strs x.d.1 ++ 93 :: rest))) sc_9 rfl pk_ rfl) ?_
  refine e_qw (wy rfl rfl rfl) (q_neqsB (p := (strs x.d.1 ++ 93 :: rest)) (q := []) rfl rfl) ?_
  refine e_q (q_pick rfl rfl rfl) ?_
  refine e_mv rfl ?_
  refine Tr.env (.cons (t := 74) (v := .bool true) rfl (congrArg Value.bool (by simp)) (EnvLe.refl _)) ?_
  refine e_qw (wy rfl rfl rfl) (q_move rfl) ?_
  refine e_qw (wy rfl rfl rfl) (q_nilCheck rfl) ?_
  refine e_qw (wy rfl rfl rfl) (q_fieldp rfl fo_264_0) ?_
  refine e_qw (wy rfl rfl rfl) (q_loadp (v := (strB (strs x.d.1 ++ 93 :: rest))) sc_9 rfl pk_ rfl) ?_
  refine e_qw (wy rfl rfl rfl) (q_indexs 0 Tryz.underlying9 rfl rfl rfl (by simp only [List.length_append, List.length_cons]; omega)) ?_
  refine e_qw (wy rfl rfl rfl) (q_neq rfl rfl) ?_
  refine e_q (q_pick rfl rfl rfl) ?_
  refine l_n ?_
  refine c_cond rfl (fun h5 => ?_) (fun h5 => ?_)
  · try simp only [decide_eq_true_eq, decide_eq_false_iff_not, ne_eq, Decidable.not_not] at h5
    have hne : x.d.1 ≠ [] := fun hq => h5 (by have h9 := (strs_end (r := rest)).2 hq; omega)
    obtain ⟨t, l3, hl3⟩ : ∃ t l3, x.d.1 = t :: l3 := by cases hq : x.d.1 with | nil => exact absurd hq hne | cons t l3 => exact ⟨t, l3, rfl⟩
    have hs1 : (strs x.d.1 ++ 93 :: rest) = t.str ++ (strs l3 ++ 93 :: rest) := by rw [hl3, strs_cons]
    rw [hs1]
    have htl : t ∈ l := by rw [← hx1, hl3]; simp
    have hwt : t.wt < (Sh.row l).wt := wt_subs (s := .row l) htl
    have hdt := hd t htl
    have hst := strs_mem htl
    refine c_skip ?_
    refine k_then_n ?_
    refine c_block ?_
    refine d_r 14 [Bun (x.d.2.1.map (KA 268 209))] ?_
    refine d_t 0 rfl wn (q_move rfl) ?_
    refine d_t 1 rfl wn (q_move rfl) ?_
    refine d_t 2 rfl wn (q_nilCheck rfl) ?_
    refine d_t 3 rfl wn (q_fieldp rfl fo_268_1) ?_
    refine d_t 5 rfl wn (q_move rfl) ?_
    refine d_t 6 rfl wn (q_move rfl) ?_
    refine d_t 7 rfl wn (q_add rfl rfl (by omega) (by omega)) ?_
    refine d_2 4 8 ?_ ?_
    · skip
      refine o_step rfl (s_q rfl wn (q_loadp (v := .slice x.d.2.2.1 x.d.2.1.length x.d.2.2.2) sc_266 rfl pk_ rfl) ?_)
      refine d_c ?_
      refine d_1 8 ?_
      refine o_step rfl (s_fnb rfl wn Tryz.func187 rfl (by kernel_rfl) rfl sl_ (fun ρ' hL => ih t hwt (strs l3 ++ 93 :: rest) (deep + 1) r ρ' (by omega) (by omega) (by omega)) ?_)
      rintro _ _ ⟨kN, hk1, hk2, rfl, rfl⟩
      try simp only [List.cons_append, List.nil_append]
      refine d_c ?_
      refine d_1 9 ?_
      refine o_step rfl (s_s rfl wn (s_buildSlice (cs := ([(some kN.blk)] : List (Option Nat)).flatMap encPt) Tryz.underlying266 eo_209 rfl rfl rfl rfl (by decide) (by decide)) ?_)
      rintro _ _ ⟨b91, rfl, rfl⟩
      refine d_c ?_
      refine d_1 10 ?_
      refine o_step rfl (s_s rfl wn (s_appendn (enc := encPt) (xs := ((x.d.2.1.map KT.pt) : List (Option Nat))) (ys := ([(some kN.blk)] : List (Option Nat))) (Γ' := fun a' cap' => _) Tryz.underlying266 eo_209 (by decide) rfl rfl (rd_row pk_) (onePt _) (by first | omega | (simp only [List.length_append, List.length_cons, List.length_nil] at *; omega)) (by first | omega | (simp only [List.length_append, List.length_cons, List.length_nil] at *; omega)) (fun _ _ => pk_)) ?_)
      rintro _ _ ⟨a92, c92, rfl, rfl⟩
      refine d_c ?_
      refine d_t 11 rfl wn (q_nilCheck rfl) ?_
      refine d_t 12 rfl wn (q_fieldp rfl fo_268_1) ?_
      refine d_1 13 ?_
      refine o_step rfl (s_s0 wn (s_storep (ws := [.slice a92 (x.d.2.1.length + 1) c92]) (cs := encKind1 (⟨(91 : UInt8), ⟨x.d.2.2.1, x.d.2.1.length, x.d.2.2.2⟩⟩ : Kind1)) (cs' := encKind1 (⟨(91 : UInt8), ⟨a92, (x.d.2.1.length + 1), c92⟩⟩ : Kind1)) rfl rfl rfl sz_266 (by simp [Value.oneCell', strB, ptV, SL.v, SH.v]) (by simp [encKind1]) rfl pk_) ?_)
      rintro _ _ ⟨rfl, rfl⟩
      refine d_c ?_
      refine d_d ?_
      refine k_blk_n ?_
      refine k_then_n ?_
      refine Tr.ent (Ent.trans (Ent.pick (A := KA 268 209 kN) pk_ (Ent.pick (A := Bun (x.d.2.1.map (KA 268 209))) pk_ (Ent.refl _))) (bun_snoc _ _ _)) ?_
      rw [show x.d.2.1.map (KA 268 209) ++ [KA 268 209 kN] = (x.d.2.1 ++ [kN]).map (KA 268 209) from by simp, show x.d.2.1.map KT.pt ++ [some kN.blk] = (x.d.2.1 ++ [kN]).map KT.pt from by simp [KT.pt], show x.d.2.1.length + 1 = (x.d.2.1 ++ [kN]).length from by simp]
      exact t_nx (⟨(l3, x.d.2.1 ++ [kN], a92, c92), none, 0, none, 0, none, 0⟩ : Lp _) ⟨⟨by show (x.d.2.1 ++ [kN]).map KT.s ++ l3 = l; rw [List.map_append, List.append_assoc, ← hx1, hl3]; simp [hk1], fun y hy => by rcases List.mem_append.1 hy with h | h; exact hx2 y h; rw [List.mem_singleton.1 h]; exact hk2⟩, by show l3.length < _; rw [hl3]; simp⟩ (.c (.c (.c (.c (.nil _)))))
    · skip
      refine o_step rfl (s_fnb rfl wn Tryz.func187 rfl (by kernel_rfl) rfl sl_ (fun ρ' hL => ih t hwt (strs l3 ++ 93 :: rest) (deep + 1) r ρ' (by omega) (by omega) (by omega)) ?_)
      rintro _ _ ⟨kN, hk1, hk2, rfl, rfl⟩
      try simp only [List.cons_append, List.nil_append]
      refine d_c ?_
      refine d_2 4 9 ?_ ?_
      · skip
        refine o_step rfl (s_q rfl wn (q_loadp (v := .slice x.d.2.2.1 x.d.2.1.length x.d.2.2.2) sc_266 rfl pk_ rfl) ?_)
        refine d_c ?_
        refine d_1 9 ?_
        refine o_step rfl (s_s rfl wn (s_buildSlice (cs := ([(some kN.blk)] : List (Option Nat)).flatMap encPt) Tryz.underlying266 eo_209 rfl rfl rfl rfl (by decide) (by decide)) ?_)
        rintro _ _ ⟨b91, rfl, rfl⟩
        refine d_c ?_
        refine d_1 10 ?_
        refine o_step rfl (s_s rfl wn (s_appendn (enc := encPt) (xs := ((x.d.2.1.map KT.pt) : List (Option Nat))) (ys := ([(some kN.blk)] : List (Option Nat))) (Γ' := fun a' cap' => _) Tryz.underlying266 eo_209 (by decide) rfl rfl (rd_row pk_) (onePt _) (by first | omega | (simp only [List.length_append, List.length_cons, List.length_nil] at *; omega)) (by first | omega | (simp only [List.length_append, List.length_cons, List.length_nil] at *; omega)) (fun _ _ => pk_)) ?_)
        rintro _ _ ⟨a92, c92, rfl, rfl⟩
        refine d_c ?_
        refine d_t 11 rfl wn (q_nilCheck rfl) ?_
        refine d_t 12 rfl wn (q_fieldp rfl fo_268_1) ?_
        refine d_1 13 ?_
        refine o_step rfl (s_s0 wn (s_storep (ws := [.slice a92 (x.d.2.1.length + 1) c92]) (cs := encKind1 (⟨(91 : UInt8), ⟨x.d.2.2.1, x.d.2.1.length, x.d.2.2.2⟩⟩ : Kind1)) (cs' := encKind1 (⟨(91 : UInt8), ⟨a92, (x.d.2.1.length + 1), c92⟩⟩ : Kind1)) rfl rfl rfl sz_266 (by simp [Value.oneCell', strB, ptV, SL.v, SH.v]) (by simp [encKind1]) rfl pk_) ?_)
        rintro _ _ ⟨rfl, rfl⟩
        refine d_c ?_
        refine d_d ?_
        refine k_blk_n ?_
        refine k_then_n ?_
        refine Tr.ent (Ent.trans (Ent.pick (A := KA 268 209 kN) pk_ (Ent.pick (A := Bun (x.d.2.1.map (KA 268 209))) pk_ (Ent.refl _))) (bun_snoc _ _ _)) ?_
        rw [show x.d.2.1.map (KA 268 209) ++ [KA 268 209 kN] = (x.d.2.1 ++ [kN]).map (KA 268 209) from by simp, show x.d.2.1.map KT.pt ++ [some kN.blk] = (x.d.2.1 ++ [kN]).map KT.pt from by simp [KT.pt], show x.d.2.1.length + 1 = (x.d.2.1 ++ [kN]).length from by simp]
        exact t_nx (⟨(l3, x.d.2.1 ++ [kN], a92, c92), none, 0, none, 0, none, 0⟩ : Lp _) ⟨⟨by show (x.d.2.1 ++ [kN]).map KT.s ++ l3 = l; rw [List.map_append, List.append_assoc, ← hx1, hl3]; simp [hk1], fun y hy => by rcases List.mem_append.1 hy with h | h; exact hx2 y h; rw [List.mem_singleton.1 h]; exact hk2⟩, by show l3.length < _; rw [hl3]; simp⟩ (.c (.c (.c (.c (.nil _)))))
      · skip
        refine o_step rfl (s_s rfl wn (s_buildSlice (cs := ([(some kN.blk)] : List (Option Nat)).flatMap encPt) Tryz.underlying266 eo_209 rfl rfl rfl rfl (by decide) (by decide)) ?_)
        rintro _ _ ⟨b91, rfl, rfl⟩
        refine d_c ?_
        refine d_1 4 ?_
        refine o_step rfl (s_q rfl wn (q_loadp (v := .slice x.d.2.2.1 x.d.2.1.length x.d.2.2.2) sc_266 rfl pk_ rfl) ?_)
        refine d_c ?_
        refine d_1 10 ?_
        refine o_step rfl (s_s rfl wn (s_appendn (enc := encPt) (xs := ((x.d.2.1.map KT.pt) : List (Option Nat))) (ys := ([(some kN.blk)] : List (Option Nat))) (Γ' := fun a' cap' => _) Tryz.underlying266 eo_209 (by decide) rfl rfl (rd_row pk_) (onePt _) (by first | omega | (simp only [List.length_append, List.length_cons, List.length_nil] at *; omega)) (by first | omega | (simp only [List.length_append, List.length_cons, List.length_nil] at *; omega)) (fun _ _ => pk_)) ?_)
        rintro _ _ ⟨a92, c92, rfl, rfl⟩
        refine d_c ?_
        refine d_t 11 rfl wn (q_nilCheck rfl) ?_
        refine d_t 12 rfl wn (q_fieldp rfl fo_268_1) ?_
        refine d_1 13 ?_
        refine o_step rfl (s_s0 wn (s_storep (ws := [.slice a92 (x.d.2.1.length + 1) c92]) (cs := encKind1 (⟨(91 : UInt8), ⟨x.d.2.2.1, x.d.2.1.length, x.d.2.2.2⟩⟩ : Kind1)) (cs' := encKind1 (⟨(91 : UInt8), ⟨a92, (x.d.2.1.length + 1), c92⟩⟩ : Kind1)) rfl rfl rfl sz_266 (by simp [Value.oneCell', strB, ptV, SL.v, SH.v]) (by simp [encKind1]) rfl pk_) ?_)
        rintro _ _ ⟨rfl, rfl⟩
        refine d_c ?_
        refine d_d ?_
        refine k_blk_n ?_
        refine k_then_n ?_
        refine Tr.ent (Ent.trans (Ent.pick (A := KA 268 209 kN) pk_ (Ent.pick (A := Bun (x.d.2.1.map (KA 268 209))) pk_ (Ent.refl _))) (bun_snoc _ _ _)) ?_
        rw [show x.d.2.1.map (KA 268 209) ++ [KA 268 209 kN] = (x.d.2.1 ++ [kN]).map (KA 268 209) from by simp, show x.d.2.1.map KT.pt ++ [some kN.blk] = (x.d.2.1 ++ [kN]).map KT.pt from by simp [KT.pt], show x.d.2.1.length + 1 = (x.d.2.1 ++ [kN]).length from by simp]
        exact t_nx (⟨(l3, x.d.2.1 ++ [kN], a92, c92), none, 0, none, 0, none, 0⟩ : Lp _) ⟨⟨by show (x.d.2.1 ++ [kN]).map KT.s ++ l3 = l; rw [List.map_append, List.append_assoc, ← hx1, hl3]; simp [hk1], fun y hy => by rcases List.mem_append.1 hy with h | h; exact hx2 y h; rw [List.mem_singleton.1 h]; exact hk2⟩, by show l3.length < _; rw [hl3]; simp⟩ (.c (.c (.c (.c (.nil _)))))
  · try simp only [decide_eq_true_eq, decide_eq_false_iff_not, ne_eq, Decidable.not_not] at h5
    have hl0 : x.d.1 = [] := strs_end.1 (show ((strs x.d.1 ++ 93 :: rest).getD 0 default).toNat = 93 by omega)
    have hs0 : (strs x.d.1 ++ 93 :: rest) = 93 :: rest := by rw [hl0]; rfl
    rw [hs0]
    rw [hl0, List.append_nil] at hx1
    refine c_exit ?_
    refine k_then_x ?_
    refine k_then_x ?_
    refine k_blk_x ?_
    refine k_then_n ?_
    refine sr ?_
    refine e_mv rfl ?_
    refine e_q (q_nilCheck rfl) ?_
    refine e_q (q_fieldp rfl fo_264_0) ?_
    refine e_q (q_loadp (v := (strB (93 :: rest))) sc_9 rfl pk_ rfl) ?_
    refine e_q (q_eqlsB (p := (93 :: rest)) (q := []) rfl rfl) ?_
    refine l_n ?_
    refine c_sure false rfl (by simp) ?_
    simp only [Bool.false_eq_true, if_true, if_false]
    refine c_region ?_
    refine e_mv rfl ?_
    refine e_mv rfl ?_
    refine e_q (q_nilCheck rfl) ?_
    refine e_q (q_fieldp rfl fo_264_0) ?_
    refine e_q (q_loadp (v := (strB (93 :: rest))) sc_9 rfl pk_ rfl) ?_
    refine e_q (q_as (v := strB rest) (q_cuts_lo (Tryz.underlying9) rfl rfl (by omega) (by simp only [List.length_cons]; omega)) rfl) ?_
    refine e_q (q_nilCheck rfl) ?_
    refine e_q (q_fieldp rfl fo_264_0) ?_
    refine l_step (s_s0 wn (s_storep (ws := [(strB rest)]) (cs := encReader1 (⟨(93 :: rest), false⟩ : Reader1)) (cs' := encReader1 (⟨rest, false⟩ : Reader1)) rfl rfl rfl sz_9 (by simp [Value.oneCell', strB, ptV, SL.v, SH.v]) (by simp [encReader1]) rfl pk_) ?_)
    rintro _ _ ⟨rfl, rfl⟩
    refine l_nil ?_
    refine k_blk_n ?_
    refine k_then_n ?_
    refine sr ?_
    refine e_mv rfl ?_
    refine e_as rfl ?_
    refine l_n ?_
    refine c_ret ?_
    refine Tr.ent (Ent.trans (Ent.pick (A := .pts b26 (encKind1 (⟨(91 : UInt8), ⟨x.d.2.2.1, x.d.2.1.length, x.d.2.2.2⟩⟩ : Kind1)) 268) pk_ (Ent.pick (A := .row 209 1 x.d.2.2.1 x.d.2.1.length x.d.2.2.2 ((x.d.2.1.map KT.pt).flatMap encPt)) pk_ (Ent.pick (A := Bun (x.d.2.1.map (KA 268 209))) pk_ (Ent.refl _)))) (k_shut (tk := 268) (tp := 209) (b := b26) (a := x.d.2.2.1) (c := x.d.2.2.2) (s := .row l) (of := x.d.2.1))) ?_
    exact t_rt [KA 268 209 (.mk b26 x.d.2.2.1 x.d.2.2.2 (.row l) x.d.2.1), .pts r (encReader1 (⟨rest, false⟩ : Reader1)) 264] rfl (.tmp rfl .nil) rfl ⟨rfl, _, rfl, KOk.mk hx1 hx2, rfl, rfl⟩

theorem deps_mem {t : Sh} : ∀ {l : List Sh}, t ∈ l → t.dep + 1 ≤ deps l
  | [], h => by cases h
  | s :: l, h => by
    simp only [deps]
    rcases List.mem_cons.1 h with rfl | h
    · omega
    · have := deps_mem h; omega
theorem part_ok : ∀ (n : Nat) (s : Sh), s.wt ≤ n → PartOk s
  | 0, s, h => by cases s <;> simp [Sh.wt] at h
  | n + 1, s, h => by
    have ih : ∀ t : Sh, t.wt < s.wt → PartOk t := fun t ht => part_ok n t (by omega)
    intro rest deep r ρ h0 hd hs
    cases s with
    | n => exact part_n_spec r rest deep ρ h0 (by simp only [Sh.dep] at hd; omega)
    | b => exact part_b_spec r rest deep ρ h0 (by simp only [Sh.dep] at hd; omega)
    | star s => exact part_star_spec s r rest deep ρ ih h0 hd (by simp only [Sh.str, List.length_cons] at hs; omega)
    | row l =>
      have h1 : ∀ t ∈ l, deep + 1 + (t.dep : Int) ≤ 8 := fun t ht => by have := deps_mem ht; simp only [Sh.dep] at hd; omega
      have h2 : (Sh.row l).str ++ rest = 91 :: (strs l ++ 93 :: rest) := by simp [Sh.str]
      rw [h2]
      exact part_row_spec l r rest deep ρ ih h0 (by simp only [Sh.dep] at hd; omega) h1 (by simp only [Sh.str, List.length_cons, List.length_append] at hs; omega)
theorem part_top (s : Sh) (r : Nat) (ρ : Hp) (hd : s.dep ≤ 8) (hs : s.str.length ≤ 64) : Spec0 Tryz.prog 187 #[.pointer (some ⟨r, 0, none⟩), .int .i64 0] ρ [.pts r (encReader1 (⟨s.str, false⟩ : Reader1)) 264] (fun v Γ' => ∃ k : KT, k.s = s ∧ KOk k ∧ v = ptV (some k.blk) ∧ Γ' = [KA 268 209 k, .pts r (encReader1 (⟨[], false⟩ : Reader1)) 264]) := by
  have h := part_ok s.wt s (Nat.le_refl _) [] 0 r ρ (by decide) (by omega) (by omega)
  rwa [List.append_nil] at h

theorem parse_spec (s : Sh) (ρ : Hp) (hl : s.str.length ≤ 64) (hd : s.dep ≤ 8) : Spec0 Tryz.prog 139 #[strB s.str] ρ [] (fun v Γ' => ∃ k : KT, k.s = s ∧ KOk k ∧ v = ptV (some k.blk) ∧ Γ' = [KA 268 209 k]) := by
  refine spec_of (n := 25) (vs := [_]) (σ := [(0, _)]) Tryz.func139 rfl rfl rfl rfl fun E Δ => ?_
  rw [List.nil_append]
  refine sr ?_
  refine e_as rfl ?_
  refine l_n ?_
  refine c_seq ?_
  refine sr ?_
  refine e_mv rfl ?_
  refine e_q (q_lensB Tryz.underlying9 rfl) ?_
  refine e_q (q_gtr rfl rfl) ?_
  refine l_n ?_
  refine c_sure false rfl (decide_eq_false (by omega)) ?_
  simp only [Bool.false_eq_true, if_true, if_false]
  refine c_skip ?_
  refine k_then_n ?_
  refine sr ?_
  refine e_mv rfl ?_
  refine e_q (q_build (cs := encReader1 (⟨s.str, false⟩ : Reader1)) zc_264 pl_264 rfl rfl) ?_
  refine e_s (s_box (cs := encReader1 (⟨s.str, false⟩ : Reader1)) rfl rfl) ?_
  rintro _ _ ⟨b10, rfl, rfl⟩
  refine e_as rfl ?_
  refine l_n ?_
  refine sr ?_
  refine e_mv rfl ?_
  refine e_fn Tryz.func187 rfl sl_ (fun ρ' hL => part_top s b10 ρ' hd hl) ?_
  rintro _ _ ⟨kN, hk1, hk2, rfl, rfl⟩
  try simp only [List.cons_append, List.nil_append]
  refine e_as rfl ?_
  refine l_n ?_
  refine c_seq ?_
  refine sr ?_
  refine e_mv rfl ?_
  refine e_q (q_nilCheck rfl) ?_
  refine e_q (q_fieldp rfl fo_264_1) ?_
  refine e_q (q_loadp (v := .bool false) sc_4 rfl pk_ rfl) ?_
  refine e_mv rfl ?_
  refine e_qw (wy rfl rfl rfl) (q_move rfl) ?_
  refine e_qw (wy rfl rfl rfl) (q_nilCheck rfl) ?_
  refine e_qw (wy rfl rfl rfl) (q_fieldp rfl fo_264_0) ?_
  refine e_qw (wy rfl rfl rfl) (q_loadp (v := (strB [])) sc_9 rfl pk_ rfl) ?_
  refine e_qw (wy rfl rfl rfl) (q_neqsB (p := []) (q := []) rfl rfl) ?_
  refine e_q (q_pick rfl rfl rfl) ?_
  refine l_n ?_
  refine c_sure false rfl (by rfl) ?_
  simp only [Bool.false_eq_true, if_true, if_false]
  refine c_skip ?_
  refine k_then_n ?_
  refine sr ?_
  refine e_mv rfl ?_
  refine e_as rfl ?_
  refine l_n ?_
  refine c_ret ?_
  exact t_rt [KA 268 209 kN] rfl (.tmp rfl .nil) rfl ⟨rfl, kN, hk1, hk2, rfl, rfl⟩
end Go.Mou

/-
  Package mould, walked.
-/
set_option maxRecDepth 100000
set_option maxHeartbeats 4000000
set_option linter.unusedSimpArgs false
set_option linter.unusedVariables false
namespace Go.Mou
open Go Go.SL Go.Proofs Go.Mou
attribute [local irreducible] Go.SL.Ent
theorem eo_5 : elemOk Tryz.prog 5 1 1 = true := by kernel_rfl

theorem number_spec (b_a : Option Addr) (b_c : Nat) (b : List UInt8) (n : Nat) (ρ : Hp) (hn : n < 18446744073709551616) (hb : b.length ≤ 1000000000000) : Spec0 Tryz.prog 194 #[.slice b_a b.length b_c, .int .u64 (n : Int)] ρ [.row 5 1 b_a b.length b_c (b.flatMap encB)] (fun v Γ' => ∃ a c, v = .slice a (b ++ numF n).length c ∧ Γ' = [.row 5 1 a (b ++ numF n).length c ((b ++ numF n).flatMap encB)]) := by
  refine spec_of (n := 31) (vs := [_, _]) (σ := [(0, _), (1, _)]) Tryz.func194 rfl rfl rfl rfl fun E Δ => ?_
  simp only [List.cons_append, List.nil_append]
  have hbl := Lib.bitLen_le n 64 (by decide) (by omega)
  have hll := lowD_len n hn
  have hl8 := lowD_le8 hn
  refine sr ?_
  refine e_as rfl ?_
  refine l_n ?_
  refine sr ?_
  refine e_mv rfl ?_
  refine l_step (s_fnq rfl wn Tryz.func229 rfl (by kernel_rfl) rfl (fun ρ' hL => L.len64 n (by omega) ρ') ?_)
  refine e_q (q_add rfl rfl (by omega) (by omega)) ?_
  refine e_q (q_as (v := .int .i64 ((lowD n).length : Int)) (q_quop rfl rfl (by omega) (by omega) (by omega)) (inte (by rw [hll]; omega))) ?_
  refine e_as rfl ?_
  refine l_n ?_
  refine sr ?_
  refine e_mv rfl ?_
  refine e_mv rfl ?_
  refine e_q (q_as (v := .int .u8 ((UInt8.ofNat (lowD n).length).toNat : Int)) (q_convw rfl Tryz.underlying3 Tryz.underlying5) (inte (wrap8 _))) ?_
  refine e_s (s_buildSlice (cs := ([(UInt8.ofNat (lowD n).length)] : List UInt8).flatMap encB) Tryz.underlying22 eo_5 rfl rfl rfl rfl (by decide) (by decide)) ?_
  rintro _ _ ⟨b14, rfl, rfl⟩
  refine e_s (s_appendn (enc := encB) (xs := (b : List UInt8)) (ys := ([(UInt8.ofNat (lowD n).length)] : List UInt8)) (Γ' := fun a' cap' => _) Tryz.underlying22 eo_5 (by decide) rfl rfl (rd_row pk_) (oneB _) (by simp; omega) (by simp; omega) (fun _ _ => pk_)) ?_
  rintro _ _ ⟨a15, c15, rfl, rfl⟩
  refine e_as rfl ?_
  refine l_n ?_
  refine c_seq ?_
  refine sr ?_
  rw [← numB_zero n]
  rw [show b.length + 1 = (b ++ numB n 0).length from by simp [numB]]
  refine e_mv rfl ?_
  refine e_q (q_sub rfl rfl (by omega) (by omega)) ?_
  refine e_as rfl ?_
  refine l_n ?_
  refine c_block ?_
  refine Tr.env (σ' := [(0, _), (1, _), (4, _), (6, _)]) ev_ ?_
  refine t_loop (ι := Lp (Nat)) (fun x => x.d ≤ (lowD n).length) (fun x => (lowD n).length - x.d) (fun x => [(0, .slice x.a1 ((b ++ numB n x.d).length) x.c1), (1, .int .u64 (n : Int)), (4, .slice none 0 0), (6, .int .i64 ((((lowD n).length : Int) - 1) - (x.d : Int)))]) (fun x => .row 5 1 (some ⟨b14, 0, none⟩) 1 1 ([(UInt8.ofNat (lowD n).length)].flatMap encB) :: .row 5 1 x.a1 ((b ++ numB n x.d).length) x.c1 ((b ++ numB n x.d).flatMap encB) :: Δ) (⟨0, a15, c15, none, 0, none, 0⟩ : Lp _) (Nat.zero_le _) ?_ ?_ ?_
  · exact .c (.c (.c (.c (.nil _))))
  · exact en_
  intro x hx
  refine c_seq ?_
  refine sr ?_
  refine e_mv rfl ?_
  refine e_q (q_geq rfl rfl) ?_
  refine l_n ?_
  refine c_cond rfl (fun h0 => ?_) (fun h0 => ?_)
  · try simp only [decide_eq_true_eq, decide_eq_false_iff_not] at h0
    have hbn := numB_len n x.d (by omega)
    refine c_skip ?_
    refine k_then_n ?_
    refine c_seq ?_
    refine c_block ?_
    refine c_region ?_
    refine e_mv rfl ?_
    refine e_mv rfl ?_
    refine e_mv rfl ?_
    refine e_q (q_mul rfl rfl (by omega) (by omega)) ?_
    refine e_q (q_as (v := .int .u64 ((n / 256 ^ ((lowD n).length - 1 - x.d) : Nat) : Int)) (q_shr rfl rfl (by omega)) (inte (by have hi9 : (8 * ((((lowD n).length : Int) - 1) - (x.d : Int))) = 8 * ((((lowD n).length - 1 - x.d) : Nat) : Int) := (by omega); rw [hi9]; exact shr_pow (by omega)))) ?_
    refine e_q (q_as (v := .int .u8 ((UInt8.ofNat (n / 256 ^ ((lowD n).length - 1 - x.d))).toNat : Int)) (q_convw rfl Tryz.underlying128 Tryz.underlying5) (inte (wrap8 _))) ?_
    refine e_s (s_buildSlice (cs := ([(UInt8.ofNat (n / 256 ^ ((lowD n).length - 1 - x.d)))] : List UInt8).flatMap encB) Tryz.underlying22 eo_5 rfl rfl rfl rfl (by decide) (by decide)) ?_
    rintro _ _ ⟨b28, rfl, rfl⟩
    refine e_s (s_appendn (enc := encB) (xs := ((b ++ numB n x.d) : List UInt8)) (ys := ([(UInt8.ofNat (n / 256 ^ ((lowD n).length - 1 - x.d)))] : List UInt8)) (Γ' := fun a' cap' => _) Tryz.underlying22 eo_5 (by decide) rfl rfl (rd_row pk_) (oneB _) (by simp only [List.length_append, List.length_cons, List.length_nil]; omega) (by simp only [List.length_append, List.length_cons, List.length_nil]; omega) (fun _ _ => pk_)) ?_
    rintro _ _ ⟨a29, c29, rfl, rfl⟩
    refine e_as rfl ?_
    refine l_nil ?_
    refine k_blk_n ?_
    refine k_then_n ?_
    refine c_region ?_
    refine e_mv rfl ?_
    refine e_q (q_sub rfl rfl (by omega) (by omega)) ?_
    refine e_as rfl ?_
    refine l_n ?_
    rw [List.append_assoc, ← numB_next (by omega)]
    rw [show (b ++ numB n x.d).length + 1 = (b ++ numB n (x.d + 1)).length from by rw [numB_next (by omega)]; simp only [List.length_append, List.length_cons, List.length_nil]; omega]
    exact t_nx (⟨x.d + 1, a29, c29, none, 0, none, 0⟩ : Lp _) ⟨by (try simp only []); omega, by (try simp only []); omega⟩ (.c (.c (.c (.cons rfl (inte (by (try simp only []); omega)) (.nil _)))))
  · try simp only [decide_eq_true_eq, decide_eq_false_iff_not] at h0
    have hk : x.d = (lowD n).length := by omega
    rw [hk, numB_all]
    refine c_exit ?_
    refine k_then_x ?_
    refine k_then_x ?_
    refine k_blk_x ?_
    refine k_then_n ?_
    refine sr ?_
    refine e_mv rfl ?_
    refine e_as rfl ?_
    refine l_n ?_
    refine c_ret ?_
    exact t_rt [.row 5 1 x.a1 (b ++ numF n).length x.c1 ((b ++ numF n).flatMap encB)] rfl (.tmp rfl .nil) rfl ⟨rfl, _, _, rfl, rfl⟩
end Go.Mou

/-
  Package mould, walked.
-/
set_option maxRecDepth 100000
set_option maxHeartbeats 4000000
set_option linter.unusedSimpArgs false
set_option linter.unusedVariables false
namespace Go.Mou
open Go Go.SL Go.Proofs Go.Mou
attribute [local irreducible] Go.SL.Ent
theorem sz_131 : sizeIs Tryz.prog 131 = some 3 := by kernel_rfl
theorem ag_131 : aggSize Tryz.prog 131 = some 3 := by kernel_rfl
theorem sc_209 : isScalar Tryz.prog 209 = true := by kernel_rfl
theorem sz_209 : sizeIs Tryz.prog 209 = some 1 := by kernel_rfl
theorem fo_131_2 : fieldOff Tryz.prog 131 2 = some (2, 129) := by kernel_rfl
theorem sc_129 : isScalar Tryz.prog 129 = true := by kernel_rfl

theorem valI_spec (s_a : Option Addr) (s_n s_c : Nat) (s : List Val1) (hs_n : s.length = s_n) (f : Nat) (cs : List Value) (bs : List Bool) (L : List Asn) (ρ : Hp) (hro : Ro ρ 3 s_a s_n s_c (s.flatMap encVal1)) (hE : Go.SL.Enters Tryz.prog f) (hbl : bs.length = s_n) (hp : ∀ i, i < s_n → ∀ ρ' : Hp, ρ.le ρ' → Spec0 Tryz.prog f ([Value.agg (encVal1 (s.getD i default)).toArray] ++ cs).toArray ρ' [Bun L] (fun v Γ' => v = .bool (bs.getD i false) ∧ Γ' = [Bun L])) : Spec0 Tryz.prog 228 #[.slice s_a s_n s_c, .func (.func f) #[] cs.toArray] ρ [Bun L] (fun v Γ' => v = .int .i64 (idxB bs) ∧ Γ' = [Bun L]) := by
  refine spec_of (n := 19) (vs := [_, _]) (σ := [(0, _), (1, _)]) Tryz.func228 rfl rfl rfl rfl fun E Δ => ?_
  simp only [List.cons_append, List.nil_append]
  have hrob : s_n ≤ 9223372036854775807 := Nat.le_trans hro.2.1 hro.2.2.1
  refine sr ?_
  refine e_as rfl ?_
  refine l_n ?_
  refine c_seq ?_
  refine sr ?_
  refine e_mv rfl ?_
  refine e_q (q_len Tryz.underlying129 rfl) ?_
  refine e_mv rfl ?_
  refine l_n ?_
  refine c_block ?_
  refine Tr.env (σ' := [(0, _), (1, _), (7, _), (8, _)]) ev_ ?_
  refine t_loop (ι := Lp (Nat)) (fun x => x.d ≤ s_n ∧ (bs.take x.d).any id = false) (fun x => s_n - x.d) (fun x => [(0, .slice s_a s_n s_c), (1, (.func (.func f) #[] cs.toArray)), (7, .int .i64 (s_n : Int)), (8, .int .i64 (x.d : Int))]) (fun x => Bun L :: Δ) (⟨0, none, 0, none, 0, none, 0⟩ : Lp _) ⟨Nat.zero_le _, rfl⟩ ?_ ?_ ?_
  · exact .c (.c (.c (.c (.nil _))))
  · exact en_
  intro x hx
  obtain ⟨hx1, hx2⟩ := hx
  refine sr ?_
  refine e_q (q_lss rfl rfl) ?_
  refine l_n ?_
  refine c_seq ?_
  refine c_cond rfl (fun h0 => ?_) (fun h0 => ?_)
  · try simp only [decide_eq_true_eq, decide_eq_false_iff_not] at h0
    refine c_skip ?_
    refine k_then_n ?_
    refine c_seq ?_
    refine c_block ?_
    refine sr ?_
    refine e_mv rfl ?_
    refine e_as rfl ?_
    refine l_n ?_
    refine sr ?_
    refine e_mv rfl ?_
    refine e_mv rfl ?_
    refine e_mv rfl ?_
    refine e_q (q_indexe x.d Tryz.underlying129 sz_131 rfl rfl (by first | assumption | exact rd_ro (by assumption) | exact rd_bun (L := L) pk_ (in_map _ (by first | assumption | omega | (simp only [List.length_cons, List.length_nil]; omega) | decide) rfl) | exact rd_row pk_) (by decide) rfl (by first | assumption | omega | (simp only [List.length_cons, List.length_nil]; omega))) ?_
    refine e_q (q_loadea (vs := encVal1 (s.getD x.d default)) (enc := encVal1) (xs := s) (j := x.d) (off := 0) ag_131 rfl (by first | assumption | exact rd_ro (by assumption) | exact rd_bun (L := L) pk_ (in_map _ (by first | assumption | omega | (simp only [List.length_cons, List.length_nil]; omega) | decide) rfl) | exact rd_row pk_) (fun _ => rfl) (by first | assumption | omega | (simp only [List.length_cons, List.length_nil]; omega)) (by simp [encVal1]) (by simp [encVal1]) rfl) ?_
    refine l_step (s_clob rfl wn hE rfl rfl sl_ (fun ρ' hL => hp x.d (by omega) ρ' hL.1) ?_)
    rintro _ _ ⟨rfl, rfl⟩
    try simp only [List.cons_append, List.nil_append]
    refine l_n ?_
    refine c_cond rfl (fun h1 => ?_) (fun h1 => ?_)
    · skip
      refine sr ?_
      refine e_mv rfl ?_
      refine e_as rfl ?_
      refine l_n ?_
      refine c_ret ?_
      refine k_blk_r ?_
      refine k_then_r ?_
      refine k_then_r ?_
      refine k_blk_r ?_
      refine k_then_r ?_
      exact t_rt [Bun L] rfl (.tmp rfl .nil) rfl ⟨rfl, inte (idxB_at (by omega) hx2 h1).symm, rfl⟩
    · skip
      refine c_skip ?_
      refine k_blk_n ?_
      refine k_then_n ?_
      refine c_region ?_
      refine e_q (q_add rfl rfl (by omega) (by omega)) ?_
      refine e_mv rfl ?_
      refine l_n ?_
      exact t_nx (⟨x.d + 1, none, 0, none, 0, none, 0⟩ : Lp _) ⟨⟨by (try simp only []); omega, any_succB (by omega) hx2 h1⟩, by (try simp only []); omega⟩ (.c (.c (.c (.c (.nil _)))))
  · try simp only [decide_eq_true_eq, decide_eq_false_iff_not] at h0
    have hk : x.d = bs.length := by omega
    rw [hk, List.take_length] at hx2
    refine c_exit ?_
    refine k_then_x ?_
    refine k_then_x ?_
    refine k_blk_x ?_
    refine k_then_n ?_
    refine sr ?_
    refine e_as rfl ?_
    refine l_n ?_
    refine c_ret ?_
    exact t_rt [Bun L] rfl (.tmp rfl .nil) rfl ⟨rfl, inte (idxB_none hx2).symm, rfl⟩

theorem valC_spec (s_a : Option Addr) (s_n s_c : Nat) (s : List Val1) (hs_n : s.length = s_n) (f : Nat) (cs : List Value) (bs : List Bool) (L : List Asn) (ρ : Hp) (hro : Ro ρ 3 s_a s_n s_c (s.flatMap encVal1)) (hE : Go.SL.Enters Tryz.prog f) (hbl : bs.length = s_n) (hp : ∀ i, i < s_n → ∀ ρ' : Hp, ρ.le ρ' → Spec0 Tryz.prog f ([Value.agg (encVal1 (s.getD i default)).toArray] ++ cs).toArray ρ' [Bun L] (fun v Γ' => v = .bool (bs.getD i false) ∧ Γ' = [Bun L])) : Spec0 Tryz.prog 192 #[.slice s_a s_n s_c, .func (.func f) #[] cs.toArray] ρ [Bun L] (fun v Γ' => v = .bool (bs.any id) ∧ Γ' = [Bun L]) := by
  refine spec_of (n := 9) (vs := [_, _]) (σ := [(0, _), (1, _)]) Tryz.func192 rfl rfl rfl rfl fun E Δ => ?_
  simp only [List.cons_append, List.nil_append]
  refine sr ?_
  refine e_as rfl ?_
  refine l_n ?_
  refine sr ?_
  refine e_mv rfl ?_
  refine e_mv rfl ?_
  refine e_fn Tryz.func228 rfl sl_ (fun ρ' hL => valI_spec s_a s_n s_c s hs_n f cs bs L ρ' (hL.ro hro) hE hbl (fun i hi ρ'' hl => hp i hi ρ'' (hL.1.le_trans hl))) ?_
  rintro _ _ ⟨rfl, rfl⟩
  try simp only [List.cons_append, List.nil_append]
  refine e_q (q_geq rfl rfl) ?_
  refine e_as rfl ?_
  refine l_n ?_
  refine c_ret ?_
  exact t_rt [Bun L] rfl (.tmp rfl .nil) rfl ⟨rfl, boole (idxB_any bs), rfl⟩

def HasOk (k : KT) : Prop := ∀ (v : VT) (ρ : Hp), KOk k → fits k.s v.pv → v.ro ρ → Spec0 Tryz.prog 146 #[.pointer (some ⟨k.blk, 0, none⟩), .agg (encVal1 (⟨v.N, v.B, ⟨v.a, v.L.length, v.cap⟩⟩ : Val1)).toArray] ρ [KA 268 209 k] (fun w Γ' => w = .bool true ∧ Γ' = [KA 268 209 k])

theorem has1_spec (v : VT) (c : Nat) (k : KT) (ρ : Hp) (ih : ∀ t : KT, t.s.wt < k.s.wt → HasOk t) (hk : KOk k) (hk0 : 0 < k.kids.length) (hf : fits (k.kids.getD 0 default).s v.pv) (hv : v.ro ρ) : Spec0 Tryz.prog 193 #[.agg (encVal1 (⟨v.N, v.B, ⟨v.a, v.L.length, v.cap⟩⟩ : Val1)).toArray, .pointer (some ⟨c, 0, none⟩)] ρ [.pts c [.pointer (some ⟨k.blk, 0, none⟩)] 209, KA 268 209 k] (fun w Γ' => w = .bool false ∧ Γ' = [.pts c [.pointer (some ⟨k.blk, 0, none⟩)] 209, KA 268 209 k]) := by
  refine spec_of (n := 13) (vs := [_, _]) (σ := [(0, _), (1, _)]) Tryz.func193 rfl rfl rfl rfl fun E Δ => ?_
  simp only [List.cons_append, List.nil_append]
  refine Tr.ent (k_open (tk := 268) (tp := 209) (k := k) pk_) ?_
  refine Tr.ent (kid_out (tk := 268) (tp := 209) (l := k.kids) (i := 0) hk0 pk_) ?_
  have hw9 : (k.kids.getD 0 default).s.wt < k.s.wt := wt_kid hk (getD_in hk0)
  have hko := (hk.at_ hk0).1
  refine sr ?_
  refine e_s (s_box (cs := encVal1 (⟨v.N, v.B, ⟨v.a, v.L.length, v.cap⟩⟩ : Val1)) rfl rfl) ?_
  rintro _ _ ⟨b2, rfl, rfl⟩
  refine e_as rfl ?_
  refine l_n ?_
  refine c_seq ?_
  refine d_r 10 [.pts b2 (encVal1 (⟨v.N, v.B, ⟨v.a, v.L.length, v.cap⟩⟩ : Val1)) 131, KA 268 209 (k.kids.getD 0 default), Bun ((k.kids.map (KA 268 209)).eraseIdx 0), .pts k.blk (encKind1 (⟨(wh k.s), ⟨k.a, k.kids.length, k.cap⟩⟩ : Kind1)) 268, .row 209 1 k.a k.kids.length k.cap ((k.kids.map KT.pt).flatMap encPt), .pts c [.pointer (some ⟨k.blk, 0, none⟩)] 209] ?_
  refine d_t 0 rfl wn (q_loadp (v := .pointer (some ⟨k.blk, 0, none⟩)) sc_209 rfl pk_ rfl) ?_
  refine d_t 1 rfl wn (q_nilCheck rfl) ?_
  refine d_t 2 rfl wn (q_fieldp rfl fo_268_1) ?_
  refine d_t 3 rfl wn (q_loadp (v := .slice k.a k.kids.length k.cap) sc_266 rfl pk_ rfl) ?_
  refine d_t 4 rfl wn (q_indexe 0 Tryz.underlying266 sz_209 rfl rfl (rd_row pk_) (by decide) rfl hk0) ?_
  refine d_t 5 rfl wn (q_as (v := .pointer (some ⟨(k.kids.getD 0 default).blk, 0, none⟩)) (q_loade (enc := encPt) (xs := (k.kids.map KT.pt)) (j := 0) (off := 0) sc_209 rfl (rd_row pk_) (fun _ => rfl) (by rw [List.length_map]; exact hk0) (by decide) rfl) (by rw [kid_pt hk0]; rfl)) ?_
  refine d_t 6 rfl wn (q_loadpa (vs := encVal1 (⟨v.N, v.B, ⟨v.a, v.L.length, v.cap⟩⟩ : Val1)) ag_131 rfl pk_ rfl) ?_
  refine d_1 7 ?_
  refine o_step rfl (s_fnr rfl wn Tryz.func146 rfl (by kernel_rfl) rfl sl_ (fun ρ' hL => ih (k.kids.getD 0 default) hw9 v ρ' hko hf (VT.ro_mono hL.1 v hv)) ?_)
  refine d_c ?_
  refine d_t 8 rfl wn (q_not rfl) ?_
  refine d_t 9 rfl wn (q_assign rfl) ?_
  refine d_d ?_
  refine k_then_n ?_
  refine c_ret ?_
  refine Tr.ent (Ent.trans (Ent.pick (A := KA 268 209 (k.kids.getD 0 default)) pk_ (Ent.pick (A := Bun ((k.kids.map (KA 268 209)).eraseIdx 0)) pk_ (Ent.refl _))) (kid_in (tk := 268) (tp := 209) (l := k.kids) (i := 0) hk0)) ?_
  refine Tr.ent (Ent.trans (Ent.pick (A := .pts k.blk (encKind1 (⟨(wh k.s), ⟨k.a, k.kids.length, k.cap⟩⟩ : Kind1)) 268) pk_ (Ent.pick (A := .row 209 1 k.a k.kids.length k.cap ((k.kids.map KT.pt).flatMap encPt)) pk_ (Ent.pick (A := Bun (k.kids.map (KA 268 209))) pk_ (Ent.refl _)))) (k_same (tk := 268) (tp := 209) (k := k))) ?_
  exact t_rt [.pts c [.pointer (some ⟨k.blk, 0, none⟩)] 209, KA 268 209 k] rfl (.tmp rfl .nil) rfl ⟨rfl, rfl, rfl⟩

theorem has__spec (k : KT) (v : VT) (ρ : Hp) (ih : ∀ t : KT, t.s.wt < k.s.wt → HasOk t) (hk : KOk k) (hf : fits k.s v.pv) (hv : v.ro ρ) : Spec0 Tryz.prog 146 #[.pointer (some ⟨k.blk, 0, none⟩), .agg (encVal1 (⟨v.N, v.B, ⟨v.a, v.L.length, v.cap⟩⟩ : Val1)).toArray] ρ [KA 268 209 k] (fun w Γ' => w = .bool true ∧ Γ' = [KA 268 209 k]) := by
  refine spec_of (n := 48) (vs := [_, _]) (σ := [(0, _), (1, _)]) Tryz.func146 rfl rfl rfl rfl fun E Δ => ?_
  simp only [List.cons_append, List.nil_append]
  refine Tr.ent (k_open (tk := 268) (tp := 209) (k := k) pk_) ?_
  have hrL := VT.ro_L hv
  have hvb : v.L.length ≤ 9223372036854775807 := Nat.le_trans hrL.2.1 hrL.2.2.1
  refine sr ?_
  refine e_s (s_box (cs := [.pointer (some ⟨k.blk, 0, none⟩)]) rfl rfl) ?_
  rintro _ _ ⟨b2, rfl, rfl⟩
  refine e_s (s_box (cs := encVal1 (⟨v.N, v.B, ⟨v.a, v.L.length, v.cap⟩⟩ : Val1)) rfl rfl) ?_
  rintro _ _ ⟨b3, rfl, rfl⟩
  refine e_as rfl ?_
  refine l_n ?_
  refine c_seq ?_
  refine sr ?_
  refine e_q (q_loadp (v := .pointer (some ⟨k.blk, 0, none⟩)) sc_209 rfl pk_ rfl) ?_
  refine e_q (q_nilCheck rfl) ?_
  refine e_q (q_fieldp rfl fo_268_0) ?_
  refine e_q (q_loadp (v := .int .u8 ((wh k.s).toNat : Int)) sc_5 rfl pk_ rfl) ?_
  refine l_n ?_
  refine c_block ?_
  refine sr ?_
  refine e_q (q_eql rfl rfl) ?_
  refine e_as rfl ?_
  refine l_n ?_
  refine c_cond rfl (fun h0 => ?_) (fun h0 => ?_)
  · try simp only [decide_eq_true_eq, decide_eq_false_iff_not] at h0
    obtain ⟨s2, hs2⟩ := wh_star (s := k.s) (by omega)
    have hk0 : 0 < k.kids.length := by rw [hk.len, hs2]; exact Nat.one_pos
    have hf1 : ∀ i, i < v.L.length → fits (k.kids.getD 0 default).s (v.L.getD i default).pv := fun i hi => by rw [show (k.kids.getD 0 default).s = s2 from by rw [(hk.at_ hk0).2, hs2]; rfl]; exact fits_kids (s := s2) (by rw [← hs2]; exact hf) hi
    refine Tr.ent (Ent.trans (Ent.pick (A := .pts k.blk (encKind1 (⟨(wh k.s), ⟨k.a, k.kids.length, k.cap⟩⟩ : Kind1)) 268) pk_ (Ent.pick (A := .row 209 1 k.a k.kids.length k.cap ((k.kids.map KT.pt).flatMap encPt)) pk_ (Ent.pick (A := Bun (k.kids.map (KA 268 209))) pk_ (Ent.refl _)))) (k_same (tk := 268) (tp := 209) (k := k))) ?_
    refine Tr.ent (Ent.trans (Ent.pick (A := .pts b2 [.pointer (some ⟨k.blk, 0, none⟩)] 209) pk_ (Ent.pick (A := KA 268 209 k) pk_ (Ent.refl _))) (bun_in [.pts b2 [.pointer (some ⟨k.blk, 0, none⟩)] 209, KA 268 209 k] _)) ?_
    refine sr ?_
    refine e_q (q_fieldp rfl fo_131_2) ?_
    refine e_q (q_loadp (v := .slice v.a v.L.length v.cap) sc_129 rfl pk_ rfl) ?_
    refine e_q (q_makeFunc rfl rfl) ?_
    refine e_fn Tryz.func192 rfl sl_ (fun ρ' hL => valC_spec v.a v.L.length v.cap (v.L.map VT.val) (by rw [List.length_map]) 193 [.pointer (some ⟨b2, 0, none⟩)] (List.replicate v.L.length false) [.pts b2 [.pointer (some ⟨k.blk, 0, none⟩)] 209, KA 268 209 k] ρ' (VT.ro_L (VT.ro_mono hL.1 v hv)) ⟨_, _, Tryz.func193, rfl, rfl⟩ (by rw [List.length_replicate]) (fun i hi ρ'' hl => by rw [getD_rep, getD_map VT.val hi]; exact spec0_bun (has1_spec (v.L.getD i default) b2 k ρ'' ih hk hk0 (hf1 i hi) (VT.ro_kid (VT.ro_mono (hL.1.le_trans hl) v hv) _ (getD_in hi))))) ?_
    rintro _ _ ⟨rfl, rfl⟩
    try simp only [List.cons_append, List.nil_append]
    rw [any_rep]
    refine e_q (q_not rfl) ?_
    refine e_as rfl ?_
    refine l_n ?_
    refine c_ret ?_
    refine k_blk_r ?_
    refine k_then_r ?_
    refine Tr.ent (Ent.trans (Ent.pick (A := Bun [.pts b2 [.pointer (some ⟨k.blk, 0, none⟩)] 209, KA 268 209 k]) pk_ (Ent.refl _)) (bun_out [.pts b2 [.pointer (some ⟨k.blk, 0, none⟩)] 209, KA 268 209 k] _)) ?_
    simp only [List.cons_append, List.nil_append]
    exact t_rt [KA 268 209 k] rfl (.tmp rfl .nil) rfl ⟨rfl, rfl, rfl⟩
  · try simp only [decide_eq_true_eq, decide_eq_false_iff_not] at h0
    refine sr ?_
    refine e_q (q_eql rfl rfl) ?_
    refine e_as rfl ?_
    refine l_n ?_
    refine c_cond rfl (fun h1 => ?_) (fun h1 => ?_)
    · try simp only [decide_eq_true_eq, decide_eq_false_iff_not] at h1
      obtain ⟨l, hs2⟩ := wh_row (s := k.s) (by omega)
      have hkl : k.kids.length = l.length := by rw [hk.len, hs2]; rfl
      obtain ⟨hf1, hf2⟩ := fits_row (v := v) (l := l) (by rw [← hs2]; exact hf)
      refine c_seq ?_
      refine c_seq ?_
      refine d_r 9 [.pts b3 (encVal1 (⟨v.N, v.B, ⟨v.a, v.L.length, v.cap⟩⟩ : Val1)) 131, .pts b2 [.pointer (some ⟨k.blk, 0, none⟩)] 209, .pts k.blk (encKind1 (⟨(wh k.s), ⟨k.a, k.kids.length, k.cap⟩⟩ : Kind1)) 268, .row 209 1 k.a k.kids.length k.cap ((k.kids.map KT.pt).flatMap encPt), Bun (k.kids.map (KA 268 209))] ?_
      refine d_t 0 rfl wn (q_fieldp rfl fo_131_2) ?_
      refine d_t 1 rfl wn (q_loadp (v := .slice v.a v.L.length v.cap) sc_129 rfl pk_ rfl) ?_
      refine d_t 2 rfl wn (q_len Tryz.underlying129 rfl) ?_
      refine d_t 3 rfl wn (q_loadp (v := .pointer (some ⟨k.blk, 0, none⟩)) sc_209 rfl pk_ rfl) ?_
      refine d_t 4 rfl wn (q_nilCheck rfl) ?_
      refine d_t 5 rfl wn (q_fieldp rfl fo_268_1) ?_
      refine d_t 6 rfl wn (q_loadp (v := .slice k.a k.kids.length k.cap) sc_266 rfl pk_ rfl) ?_
      refine d_t 7 rfl wn (q_len Tryz.underlying266 rfl) ?_
      refine d_t 8 rfl wn (q_neq rfl rfl) ?_
      refine d_d ?_
      refine k_then_n ?_
      refine c_sure false rfl (decide_eq_false (by omega)) ?_
      simp only [Bool.false_eq_true, if_true, if_false]
      refine c_skip ?_
      refine k_then_n ?_
      refine sr ?_
      refine e_q (q_fieldp rfl fo_131_2) ?_
      refine e_q (q_loadp (v := .slice v.a v.L.length v.cap) sc_129 rfl pk_ rfl) ?_
      refine e_q (q_len Tryz.underlying129 rfl) ?_
      refine e_mv rfl ?_
      refine l_n ?_
      refine c_block ?_
      refine Tr.env (σ' := [(2, _), (30, _), (31, _), (32, _)]) ev_ ?_
      refine t_loop (ι := Lp (Nat)) (fun x => x.d ≤ v.L.length) (fun x => v.L.length - x.d) (fun x => [(2, .pointer (some ⟨b2, 0, none⟩)), (30, .slice v.a v.L.length v.cap), (31, .int .i64 (v.L.length : Int)), (32, .int .i64 (x.d : Int))]) (fun x => .pts b3 (encVal1 (⟨v.N, v.B, ⟨v.a, v.L.length, v.cap⟩⟩ : Val1)) 131 :: .pts b2 [.pointer (some ⟨k.blk, 0, none⟩)] 209 :: .pts k.blk (encKind1 (⟨(wh k.s), ⟨k.a, k.kids.length, k.cap⟩⟩ : Kind1)) 268 :: .row 209 1 k.a k.kids.length k.cap ((k.kids.map KT.pt).flatMap encPt) :: Bun (k.kids.map (KA 268 209)) :: Δ) (⟨0, none, 0, none, 0, none, 0⟩ : Lp _) (Nat.zero_le _) ?_ ?_ ?_
      · exact .c (.c (.c (.c (.nil _))))
      · exact en_
      intro x hx
      refine sr ?_
      refine e_q (q_lss rfl rfl) ?_
      refine l_n ?_
      refine c_seq ?_
      refine c_cond rfl (fun h3 => ?_) (fun h3 => ?_)
      · try simp only [decide_eq_true_eq, decide_eq_false_iff_not] at h3
        have hki : x.d < k.kids.length := by omega
        refine Tr.ent (kid_out (tk := 268) (tp := 209) (l := k.kids) (i := x.d) hki pk_) ?_
        have hw9 : (k.kids.getD x.d default).s.wt < k.s.wt := wt_kid hk (getD_in hki)
        have hko := hk.at_ hki
        have hfi : fits (k.kids.getD x.d default).s (v.L.getD x.d default).pv := by rw [hko.2, hs2]; exact hf2 x.d (by omega)
        refine c_skip ?_
        refine k_then_n ?_
        refine c_seq ?_
        refine c_block ?_
        refine sr ?_
        refine e_mv rfl ?_
        refine e_q (q_indexe x.d Tryz.underlying129 sz_131 rfl rfl (rd_ro hrL) (by decide) rfl (by omega)) ?_
        refine e_q (q_as (v := .agg (encVal1 (v.L.getD x.d default).val).toArray) (q_loadea (vs := encVal1 ((v.L.map VT.val).getD x.d default)) (enc := encVal1) (xs := (v.L.map VT.val)) (j := x.d) (off := 0) ag_131 rfl (rd_ro hrL) (fun _ => rfl) (by rw [List.length_map]; omega) (by simp [encVal1]) (by simp [encVal1]) rfl) (by rw [getD_map VT.val (by omega)])) ?_
        refine e_s (s_allocz (cs := encVal1 zVal1) (by kernel_rfl)) ?_
        rintro _ _ ⟨b6, rfl, rfl⟩
        refine e_as rfl ?_
        refine l_step (s_s0 wn (s_storep (ws := encVal1 ((v.L.getD x.d default).val)) (cs := encVal1 zVal1) (cs' := encVal1 ((v.L.getD x.d default).val)) rfl rfl rfl sz_131 (oneVal1 _) (by simp [encVal1, encVal1]) rfl pk_) ?_)
        rintro _ _ ⟨rfl, rfl⟩
        refine l_n ?_
        refine c_seq ?_
        refine d_r 10 [.pts b6 (encVal1 ((v.L.getD x.d default).val)) 131, KA 268 209 (k.kids.getD x.d default), Bun ((k.kids.map (KA 268 209)).eraseIdx x.d), .pts b3 (encVal1 (⟨v.N, v.B, ⟨v.a, v.L.length, v.cap⟩⟩ : Val1)) 131, .pts b2 [.pointer (some ⟨k.blk, 0, none⟩)] 209, .pts k.blk (encKind1 (⟨(wh k.s), ⟨k.a, k.kids.length, k.cap⟩⟩ : Kind1)) 268, .row 209 1 k.a k.kids.length k.cap ((k.kids.map KT.pt).flatMap encPt)] ?_
        refine d_t 0 rfl wn (q_loadp (v := .pointer (some ⟨k.blk, 0, none⟩)) sc_209 rfl pk_ rfl) ?_
        refine d_t 1 rfl wn (q_nilCheck rfl) ?_
        refine d_t 2 rfl wn (q_fieldp rfl fo_268_1) ?_
        refine d_t 3 rfl wn (q_loadp (v := .slice k.a k.kids.length k.cap) sc_266 rfl pk_ rfl) ?_
        refine d_t 4 rfl wn (q_move rfl) ?_
        refine d_t 5 rfl wn (q_indexe x.d Tryz.underlying266 sz_209 rfl rfl (rd_row pk_) (by decide) rfl hki) ?_
        refine d_t 6 rfl wn (q_as (v := .pointer (some ⟨(k.kids.getD x.d default).blk, 0, none⟩)) (q_loade (enc := encPt) (xs := (k.kids.map KT.pt)) (j := x.d) (off := 0) sc_209 rfl (rd_row pk_) (fun _ => rfl) (by rw [List.length_map]; exact hki) (by decide) rfl) (by rw [kid_pt hki]; rfl)) ?_
        refine d_t 7 rfl wn (q_loadpa (vs := encVal1 ((v.L.getD x.d default).val)) ag_131 rfl pk_ rfl) ?_
        refine d_1 8 ?_
        refine o_step rfl (s_fnr rfl wn Tryz.func146 rfl (by kernel_rfl) rfl sl_ (fun ρ' hL => ih (k.kids.getD x.d default) hw9 (v.L.getD x.d default) ρ' hko.1 hfi (VT.ro_mono hL.1 _ (VT.ro_kid hv _ (getD_in (by omega))))) ?_)
        refine d_c ?_
        refine d_t 9 rfl wn (q_not rfl) ?_
        refine d_d ?_
        refine k_then_n ?_
        refine c_sure false rfl (by rfl) ?_
        simp only [Bool.false_eq_true, if_true, if_false]
        refine c_skip ?_
        refine k_blk_n ?_
        refine k_then_n ?_
        refine c_region ?_
        refine e_q (q_add rfl rfl (by omega) (by omega)) ?_
        refine e_mv rfl ?_
        refine l_n ?_
        refine Tr.ent (Ent.trans (Ent.pick (A := KA 268 209 (k.kids.getD x.d default)) pk_ (Ent.pick (A := Bun ((k.kids.map (KA 268 209)).eraseIdx x.d)) pk_ (Ent.refl _))) (kid_in (tk := 268) (tp := 209) (l := k.kids) (i := x.d) hki)) ?_
        exact t_nx (⟨x.d + 1, none, 0, none, 0, none, 0⟩ : Lp _) ⟨by (try simp only []); omega, by (try simp only []); omega⟩ (.c (.c (.c (.c (.nil _)))))
      · try simp only [decide_eq_true_eq, decide_eq_false_iff_not] at h3
        refine c_exit ?_
        refine k_then_x ?_
        refine k_then_x ?_
        refine k_blk_x ?_
        refine k_blk_n ?_
        refine k_then_n ?_
        refine sr ?_
        refine e_as rfl ?_
        refine l_n ?_
        refine c_ret ?_
        refine Tr.ent (Ent.trans (Ent.pick (A := .pts k.blk (encKind1 (⟨(wh k.s), ⟨k.a, k.kids.length, k.cap⟩⟩ : Kind1)) 268) pk_ (Ent.pick (A := .row 209 1 k.a k.kids.length k.cap ((k.kids.map KT.pt).flatMap encPt)) pk_ (Ent.pick (A := Bun (k.kids.map (KA 268 209))) pk_ (Ent.refl _)))) (k_same (tk := 268) (tp := 209) (k := k))) ?_
        exact t_rt [KA 268 209 k] rfl (.tmp rfl .nil) rfl ⟨rfl, rfl, rfl⟩
    · try simp only [decide_eq_true_eq, decide_eq_false_iff_not] at h1
      refine c_skip ?_
      refine k_blk_n ?_
      refine k_then_n ?_
      refine sr ?_
      refine e_as rfl ?_
      refine l_n ?_
      refine c_ret ?_
      refine Tr.ent (Ent.trans (Ent.pick (A := .pts k.blk (encKind1 (⟨(wh k.s), ⟨k.a, k.kids.length, k.cap⟩⟩ : Kind1)) 268) pk_ (Ent.pick (A := .row 209 1 k.a k.kids.length k.cap ((k.kids.map KT.pt).flatMap encPt)) pk_ (Ent.pick (A := Bun (k.kids.map (KA 268 209))) pk_ (Ent.refl _)))) (k_same (tk := 268) (tp := 209) (k := k))) ?_
      exact t_rt [KA 268 209 k] rfl (.tmp rfl .nil) rfl ⟨rfl, rfl, rfl⟩

theorem has_ok : ∀ (n : Nat) (k : KT), k.s.wt ≤ n → HasOk k
  | 0, k, h => by cases hs : k.s <;> rw [hs] at h <;> simp [Sh.wt] at h
  | n + 1, k, h => fun v ρ hk hf hv => has__spec k v ρ (fun t ht => has_ok n t (by omega)) hk hf hv
theorem has_spec (k : KT) (v : VT) (ρ : Hp) (hk : KOk k) (hf : fits k.s v.pv) (hv : v.ro ρ) : Spec0 Tryz.prog 146 #[.pointer (some ⟨k.blk, 0, none⟩), .agg (encVal1 (⟨v.N, v.B, ⟨v.a, v.L.length, v.cap⟩⟩ : Val1)).toArray] ρ [KA 268 209 k] (fun w Γ' => w = .bool true ∧ Γ' = [KA 268 209 k]) := has_ok _ k (Nat.le_refl _) v ρ hk hf hv
end Go.Mou

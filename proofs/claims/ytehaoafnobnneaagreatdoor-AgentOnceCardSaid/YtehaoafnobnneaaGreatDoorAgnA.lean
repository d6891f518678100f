/-
  Walked.
-/
import Derived.Test.YtehaoafnobnneaaGreatDoorAgnW
import Derived.Test.YtehaoafnobnneaaGreatDoorMouBB
import Derived.Test.YtehaoafnobnneaaGreatDoorSmAA
import Derived.Test.YtehaoafnobnneaaGreatDoorDskXX
import Derived.Test.YtehaoafnobnneaaGreatDoorDskVV
import Derived.Test.YtehaoafnobnneaaGreatDoorProg
set_option maxRecDepth 100000
set_option maxHeartbeats 4000000
set_option linter.unusedSimpArgs false
set_option linter.unusedVariables false
namespace Go.Agn
open Go Go.SL Go.Proofs Go.Mou Go.Dsk Go.Hrd
attribute [local irreducible] Go.SL.Ent
theorem sz_5 : sizeIs Tryz.prog 5 = some 1 := by kernel_rfl
theorem eo_5 : elemOk Tryz.prog 5 1 1 = true := by kernel_rfl
theorem fo_79_0 : fieldOff Tryz.prog 79 0 = some (0, 77) := by kernel_rfl
theorem fo_77_0 : fieldOff Tryz.prog 77 0 = some (0, 3) := by kernel_rfl
theorem sc_3 : isScalar Tryz.prog 3 = true := by kernel_rfl
theorem fo_77_1 : fieldOff Tryz.prog 77 1 = some (1, 3) := by kernel_rfl
theorem fo_79_1 : fieldOff Tryz.prog 79 1 = some (2, 3) := by kernel_rfl
theorem fo_79_2 : fieldOff Tryz.prog 79 2 = some (3, 3) := by kernel_rfl
theorem fo_79_3 : fieldOff Tryz.prog 79 3 = some (4, 3) := by kernel_rfl
theorem fo_79_4 : fieldOff Tryz.prog 79 4 = some (5, 3) := by kernel_rfl
theorem eo_3 : elemOk Tryz.prog 3 1 8 = true := by kernel_rfl
theorem sz_3 : sizeIs Tryz.prog 3 = some 1 := by kernel_rfl
theorem fo_97_2 : fieldOff Tryz.prog 97 2 = some (2, 95) := by kernel_rfl
theorem sc_95 : isScalar Tryz.prog 95 = true := by kernel_rfl
theorem zc_97 : zeroCs Tryz.prog 97 = some [.int .u64 0, .slice none 0 0, .slice none 0 0] := by kernel_rfl
theorem pl_97 : placesOf Tryz.prog 97 = some [(0, 1), (1, 1), (2, 1)] := by kernel_rfl
theorem eo_97 : elemOk Tryz.prog 97 3 56 = true := by kernel_rfl
theorem sz_95 : sizeIs Tryz.prog 95 = some 1 := by kernel_rfl
theorem ag_97 : aggSize Tryz.prog 97 = some 3 := by kernel_rfl
theorem eo_38 : elemOk Tryz.prog 38 1 24 = true := by kernel_rfl
theorem sc_5 : isScalar Tryz.prog 5 = true := by kernel_rfl
theorem zc_79 : zeroCs Tryz.prog 79 = some [.int .i64 0, .int .i64 0, .int .i64 0, .int .i64 0, .int .i64 0, .int .i64 0] := by kernel_rfl
theorem pl_79 : placesOf Tryz.prog 79 = some [(0, 2), (2, 1), (3, 1), (4, 1), (5, 1)] := by kernel_rfl
theorem sz_79 : sizeIs Tryz.prog 79 = some 6 := by kernel_rfl
theorem ag_79 : aggSize Tryz.prog 79 = some 6 := by kernel_rfl
theorem sz_97 : sizeIs Tryz.prog 97 = some 3 := by kernel_rfl
theorem fo_97_0 : fieldOff Tryz.prog 97 0 = some (0, 46) := by kernel_rfl
theorem sc_46 : isScalar Tryz.prog 46 = true := by kernel_rfl
theorem zc_77 : zeroCs Tryz.prog 77 = some [.int .i64 0, .int .i64 0] := by kernel_rfl
theorem pl_77 : placesOf Tryz.prog 77 = some [(0, 1), (1, 1)] := by kernel_rfl

theorem word_spec (n : BitVec 32) (ρ : Hp) : Spec0 Tryz.prog 137 #[.int .u32 (n.toNat : Int)] ρ [] (fun v Γ' => ∃ a c, v = .slice a 4 c ∧ Γ' = [.row 5 1 a 4 c ((wB n).flatMap encB)]) := by
  refine spec_of (n := 15) (vs := [_]) (σ := [(0, _)]) Tryz.func137 rfl rfl rfl rfl fun E Δ => ?_
  rw [List.nil_append]
  refine sr ?_
  refine e_as rfl ?_
  refine l_n ?_
  refine sr ?_
  refine e_mv rfl ?_
  refine e_q (q32_shr (p := n) (m := 24) rfl rfl rfl rfl (by omega)) ?_
  refine e_q (q_as (v := .int .u8 ((UInt8.ofNat (n >>> 24).toNat).toNat : Int)) (q_convw rfl Tryz.underlying98 Tryz.underlying5) (inte (w2b _))) ?_
  refine e_mv rfl ?_
  refine e_q (q32_shr (p := n) (m := 16) rfl rfl rfl rfl (by omega)) ?_
  refine e_q (q_as (v := .int .u8 ((UInt8.ofNat (n >>> 16).toNat).toNat : Int)) (q_convw rfl Tryz.underlying98 Tryz.underlying5) (inte (w2b _))) ?_
  refine e_mv rfl ?_
  refine e_q (q32_shr (p := n) (m := 8) rfl rfl rfl rfl (by omega)) ?_
  refine e_q (q_as (v := .int .u8 ((UInt8.ofNat (n >>> 8).toNat).toNat : Int)) (q_convw rfl Tryz.underlying98 Tryz.underlying5) (inte (w2b _))) ?_
  refine e_mv rfl ?_
  refine e_q (q_as (v := .int .u8 ((UInt8.ofNat n.toNat).toNat : Int)) (q_convw rfl Tryz.underlying98 Tryz.underlying5) (inte (w2b _))) ?_
  refine e_s (s_buildSlice (cs := ([(UInt8.ofNat (n >>> 24).toNat), (UInt8.ofNat (n >>> 16).toNat), (UInt8.ofNat (n >>> 8).toNat), (UInt8.ofNat n.toNat)] : List UInt8).flatMap encB) Tryz.underlying38 eo_5 rfl rfl rfl rfl (by decide) (by decide)) ?_
  rintro _ _ ⟨b14, rfl, rfl⟩
  refine e_as rfl ?_
  refine l_n ?_
  refine c_ret ?_
  exact t_rt [.row 5 1 (some ⟨b14, 0, none⟩) 4 4 ([(UInt8.ofNat (n >>> 24).toNat), (UInt8.ofNat (n >>> 16).toNat), (UInt8.ofNat (n >>> 8).toNat), (UInt8.ofNat n.toNat)].flatMap encB)] rfl (.tmp rfl .nil) rfl ⟨rfl, _, _, rfl, rfl⟩

theorem put6 (k : Kept1) (a vs : Option Addr) (c : Nat) (ρ : Hp) (hK : KOk k) (hr : Ro ρ 3 a 6 c ((((kL k).map lf).map VT.val).flatMap encVal1)) (hv : Ro ρ 3 vs 1 1 ([(vtK k a c).val].flatMap encVal1)) :
    Spec0 Tryz.prog 41 #[strB [91, 110, 110, 110, 110, 110, 110, 93], .slice vs 1 1] ρ [] (fun w Γ' => ∃ a c, w = .tuple #[.slice a (bodyK k).length c, .int .i64 0] ∧ Γ' = [.row 5 1 a (bodyK k).length c ((bodyK k).flatMap encB)]) :=
  Go.Mou.Put_spec sh6 vs 1 (vtK k a c) ρ (by decide) (by decide) hv (fits6 hK a c) (vtK_ro hr) (by have h9 := bodyK_len hK; have h8 : form sh6 (vtK k a c).pv = bodyK k := rfl; rw [h8]; omega)

theorem of1 (p a : Option Addr) (pc c : Nat) (X : List UInt8) (ρ : Hp) (h1 : Ro ρ 1 p 1 pc ([(⟨a, X, c⟩ : SL UInt8)].flatMap encSL)) (h2 : Ro ρ 1 a X.length c (X.flatMap encB)) : Spec0 Tryz.prog 42 #[.slice p 1 pc] ρ [] (fun v Γ' => v = .int .u32 ((Go.Sm.sumB X).toNat : Int) ∧ Γ' = []) := by
  have h9 := Go.Sm.of_spec p 1 pc [⟨a, X, c⟩] rfl ρ h1 (by intro s hs; rw [List.mem_singleton.1 hs]; exact h2)
  rw [Go.Sm.catB_one] at h9; exact h9

theorem row_spec (k : Kept1) (ρ : Hp) (hK : KOk k) : Spec0 Tryz.prog 116 #[.agg (encKept1 k).toArray] ρ [] (fun v Γ' => ∃ a c, v = .slice a (rowK k).length c ∧ Γ' = [.row 5 1 a (rowK k).length c ((rowK k).flatMap encB)]) := by
  refine spec_of (n := 55) (vs := [_]) (σ := [(0, _)]) Tryz.func116 rfl rfl rfl rfl fun E Δ => ?_
  rw [List.nil_append]
  have hbl := bodyK_len hK
  have hll := lenK_len k
  have hrl := rowK_len4 k
  refine sr ?_
  refine e_s (s_box (cs := encKept1 k) rfl rfl) ?_
  rintro _ _ ⟨b1, rfl, rfl⟩
  refine e_as rfl ?_
  refine l_n ?_
  refine sr ?_
  refine e_s (s_allocz (cs := encVal1 zVal1) (by kernel_rfl)) ?_
  rintro _ _ ⟨b3, rfl, rfl⟩
  refine l_n ?_
  refine c_seq ?_
  refine sr ?_
  refine e_q (q_fieldp rfl fo_79_0) ?_
  refine e_q (q_fieldp rfl fo_77_0) ?_
  refine e_q (q_loadp (v := .int .i64 k.Fence.ID) sc_3 rfl pk_ rfl) ?_
  refine e_q (q_fieldp rfl fo_79_0) ?_
  refine e_q (q_fieldp rfl fo_77_1) ?_
  refine e_q (q_loadp (v := .int .i64 k.Fence.Epoch) sc_3 rfl pk_ rfl) ?_
  refine e_q (q_fieldp rfl fo_79_1) ?_
  refine e_q (q_loadp (v := .int .i64 k.version) sc_3 rfl pk_ rfl) ?_
  refine e_q (q_fieldp rfl fo_79_2) ?_
  refine e_q (q_loadp (v := .int .i64 k.done) sc_3 rfl pk_ rfl) ?_
  refine e_q (q_fieldp rfl fo_79_3) ?_
  refine e_q (q_loadp (v := .int .i64 k.at_) sc_3 rfl pk_ rfl) ?_
  refine e_q (q_fieldp rfl fo_79_4) ?_
  refine e_q (q_loadp (v := .int .i64 k.to_) sc_3 rfl pk_ rfl) ?_
  refine e_s (s_buildSlice (cs := ([k.Fence.ID, k.Fence.Epoch, k.version, k.done, k.at_, k.to_] : List Int).flatMap encI) Tryz.underlying37 eo_3 rfl rfl rfl rfl (by decide) (by decide)) ?_
  rintro _ _ ⟨b22, rfl, rfl⟩
  refine Tr.ent (Ent.nilrow 97 3 _) ?_
  refine e_q (q_len Tryz.underlying37 rfl) ?_
  refine e_mv rfl ?_
  refine l_n ?_
  refine c_block ?_
  refine Tr.env (σ' := [(2, _), (3, _), (22, _), (23, _), (24, _)]) ev_ ?_
  refine t_loop (ι := Lp (Nat × Option Addr × Nat)) (fun x => x.d.1 ≤ 6) (fun x => 6 - x.d.1) (fun x => [(2, .slice none 0 0), (3, .pointer (some ⟨b3, 0, none⟩)), (22, .slice (some ⟨b22, 0, none⟩) 6 6), (23, .int .i64 (6 : Int)), (24, .int .i64 (x.d.1 : Int))]) (fun x => .row 97 3 x.d.2.1 x.d.1 x.d.2.2 ((vsK k x.d.1).flatMap encVal1) :: .row 3 1 (some ⟨b22, 0, none⟩) 6 6 ((kL k).flatMap encI) :: .pts b3 (encVal1 (⟨0, ⟨none, [], 0⟩, ⟨x.d.2.1, x.d.1, x.d.2.2⟩⟩ : Val1)) 97 :: .pts b1 (encKept1 k) 79 :: Δ) (⟨(0, none, 0), none, 0, none, 0, none, 0⟩ : Lp _) (by decide) ?_ ?_ ?_
  · exact .c (.c (.c (.c (.c (.nil _)))))
  · exact en_
  intro x hx
  refine sr ?_
  refine e_q (q_lss rfl rfl) ?_
  refine l_n ?_
  refine c_seq ?_
  refine c_cond rfl (fun h0 => ?_) (fun h0 => ?_)
  · try simp only [decide_eq_true_eq, decide_eq_false_iff_not] at h0
    refine c_skip ?_
    refine k_then_n ?_
    refine c_seq ?_
    refine c_block ?_
    refine sr ?_
    refine e_q (q_indexe x.d.1 Tryz.underlying37 sz_3 rfl rfl (rd_row pk_) (by decide) rfl (by show x.d.1 < 6; omega)) ?_
    refine e_q (q_loade (enc := encI) (xs := (kL k)) (j := x.d.1) (off := 0) sc_3 rfl (rd_row pk_) (fun _ => rfl) (by show x.d.1 < 6; omega) (by decide) rfl) ?_
    refine e_as rfl ?_
    refine l_n ?_
    refine c_region ?_
    have hnn := kL_nn hK (j := x.d.1) (by omega)
    refine e_q (q_fieldp rfl fo_97_2) ?_
    refine e_q (q_loadp (v := .slice x.d.2.1 x.d.1 x.d.2.2) sc_95 rfl pk_ rfl) ?_
    refine e_mv rfl ?_
    refine e_q (q_as (v := .int .u64 ((((kL k).getD x.d.1 default).toNat : Nat) : Int)) (q_conv rfl Tryz.underlying3 Tryz.underlying46 (wrap_u64 (by omega) (by omega))) (inte (by omega))) ?_
    refine e_q (q_build (cs := encVal1 (⟨((kL k).getD x.d.1 default).toNat, ⟨none, [], 0⟩, ⟨none, 0, 0⟩⟩ : Val1)) zc_97 pl_97 rfl rfl) ?_
    refine e_s (s_buildSlice (cs := ([(⟨((kL k).getD x.d.1 default).toNat, ⟨none, [], 0⟩, ⟨none, 0, 0⟩⟩ : Val1)] : List Val1).flatMap encVal1) Tryz.underlying95 eo_97 rfl rfl rfl rfl (by decide) (by decide)) ?_
    rintro _ _ ⟨b33, rfl, rfl⟩
    refine e_s (s_appendn (enc := encVal1) (xs := ((vsK k x.d.1) : List Val1)) (ys := ([(⟨((kL k).getD x.d.1 default).toNat, ⟨none, [], 0⟩, ⟨none, 0, 0⟩⟩ : Val1)] : List Val1)) (Γ' := fun a' cap' => _) Tryz.underlying95 eo_97 (by decide) rfl rfl (rd_row pk_) (oneVal1s _) (by first | omega | (simp only [List.length_append, List.length_cons, List.length_nil] at *; omega)) (by first | omega | (simp only [List.length_append, List.length_cons, List.length_nil] at *; omega)) (fun _ _ => pk_)) ?_
    rintro _ _ ⟨a34, c34, rfl, rfl⟩
    refine e_q (q_fieldp rfl fo_97_2) ?_
    refine l_step (s_s0 wn (s_storep (ws := [.slice a34 (x.d.1 + 1) c34]) (cs := encVal1 (⟨0, ⟨none, [], 0⟩, ⟨x.d.2.1, x.d.1, x.d.2.2⟩⟩ : Val1)) (cs' := encVal1 (⟨0, ⟨none, [], 0⟩, ⟨a34, (x.d.1 + 1), c34⟩⟩ : Val1)) rfl rfl rfl sz_95 (by simp [Value.oneCell', strB, ptV, SL.v, SH.v]) (by simp [encVal1]) rfl pk_) ?_)
    rintro _ _ ⟨rfl, rfl⟩
    refine l_nil ?_
    refine k_blk_n ?_
    refine k_then_n ?_
    refine c_region ?_
    refine e_q (q_add rfl rfl (by omega) (by omega)) ?_
    refine e_mv rfl ?_
    refine l_n ?_
    rw [show ((vsK k x.d.1) ++ [(⟨((kL k).getD x.d.1 default).toNat, ⟨none, [], 0⟩, ⟨none, 0, 0⟩⟩ : Val1)]) = vsK k (x.d.1 + 1) from (vsK_next (by omega)).symm]
    exact t_nx (⟨(x.d.1 + 1, a34, c34), none, 0, none, 0, none, 0⟩ : Lp _) ⟨by show x.d.1 + 1 ≤ 6; omega, by show 6 - (x.d.1 + 1) < 6 - x.d.1; omega⟩ (.c (.c (.c (.c (.c (.nil _))))))
  · try simp only [decide_eq_true_eq, decide_eq_false_iff_not] at h0
    have hk : x.d.1 = 6 := by omega
    rw [hk]
    refine c_exit ?_
    refine k_then_x ?_
    refine k_then_x ?_
    refine k_blk_x ?_
    refine k_then_n ?_
    refine sr ?_
    refine e_q (q_loadpa (vs := encVal1 (⟨0, ⟨none, [], 0⟩, ⟨x.d.2.1, 6, x.d.2.2⟩⟩ : Val1)) ag_97 rfl pk_ rfl) ?_
    refine e_s (s_buildSlice (cs := ([(⟨0, ⟨none, [], 0⟩, ⟨x.d.2.1, 6, x.d.2.2⟩⟩ : Val1)] : List Val1).flatMap encVal1) Tryz.underlying95 eo_97 rfl rfl rfl rfl (by decide) (by decide)) ?_
    rintro _ _ ⟨b39, rfl, rfl⟩
    refine e_fn Tryz.func41 rfl sl_ (fun ρ' hL => put6 k x.d.2.1 (some ⟨b39, 0, none⟩) x.d.2.2 ρ' hK (hL.row pk_) (hL.row pk_)) ?_
    rintro _ _ ⟨aP, cP, rfl, rfl⟩
    try simp only [List.cons_append, List.nil_append]
    refine e_mv rfl ?_
    refine e_q (q_extract rfl rfl) ?_
    refine e_q (q_extract rfl rfl) ?_
    refine e_as rfl ?_
    refine e_as rfl ?_
    refine l_n ?_
    refine sr ?_
    refine e_mv rfl ?_
    refine e_q (q_len Tryz.underlying38 rfl) ?_
    refine e_q (q_as (v := .int .u32 ((BitVec.ofNat 32 (bodyK k).length).toNat : Int)) (q_conv rfl Tryz.underlying3 Tryz.underlying98 (wrap_u32 (by omega) (by omega))) (inte (by rw [BitVec.toNat_ofNat]; omega))) ?_
    refine e_fn Tryz.func137 rfl sl_ (fun ρ' hL => word_spec (BitVec.ofNat 32 (bodyK k).length) ρ') ?_
    rintro _ _ ⟨aW1, cW1, rfl, rfl⟩
    try simp only [List.cons_append, List.nil_append]
    refine e_mv rfl ?_
    refine e_s (s_appendn (enc := encB) (xs := ((wB (BitVec.ofNat 32 (bodyK k).length)) : List UInt8)) (ys := ((bodyK k) : List UInt8)) (Γ' := fun a' cap' => _) Tryz.underlying38 eo_5 (by decide) rfl rfl (rd_row pk_) (oneB _) (by first | omega | (simp only [List.length_append, List.length_cons, List.length_nil] at *; omega)) (by first | omega | (simp only [List.length_append, List.length_cons, List.length_nil] at *; omega)) (fun _ _ => pk_)) ?_
    rintro _ _ ⟨a48, c48, rfl, rfl⟩
    refine e_as rfl ?_
    refine l_n ?_
    refine sr ?_
    rw [show 4 + (bodyK k).length = (lenK k).length from hll.symm]
    refine e_mv rfl ?_
    refine e_s (s_buildSlice (cs := ([⟨a48, (lenK k), c48⟩] : List (SL UInt8)).flatMap encSL) Tryz.underlying54 eo_38 rfl rfl rfl rfl (by decide) (by decide)) ?_
    rintro _ _ ⟨b50, rfl, rfl⟩
    refine l_step (s_fnq rfl wn Tryz.func42 rfl (by kernel_rfl) rfl (fun ρ' hL => of1 (some ⟨b50, 0, none⟩) a48 1 c48 (lenK k) ρ' (hL.row pk_) (hL.row pk_)) ?_)
    refine e_fn Tryz.func137 rfl sl_ (fun ρ' hL => word_spec (Go.Sm.sumB (lenK k)) ρ') ?_
    rintro _ _ ⟨aW2, cW2, rfl, rfl⟩
    try simp only [List.cons_append, List.nil_append]
    refine e_mv rfl ?_
    refine e_s (s_appendn (enc := encB) (xs := ((wB (Go.Sm.sumB (lenK k))) : List UInt8)) (ys := ((lenK k) : List UInt8)) (Γ' := fun a' cap' => _) Tryz.underlying38 eo_5 (by decide) rfl rfl (rd_row pk_) (oneB _) (by first | omega | (simp only [List.length_append, List.length_cons, List.length_nil] at *; omega)) (by first | omega | (simp only [List.length_append, List.length_cons, List.length_nil] at *; omega)) (fun _ _ => pk_)) ?_
    rintro _ _ ⟨a54, c54, rfl, rfl⟩
    refine e_as rfl ?_
    refine l_n ?_
    refine c_ret ?_
    rw [show 4 + (lenK k).length = (rowK k).length from hrl.symm]
    exact t_rt [.row 5 1 a54 (rowK k).length c54 ((rowK k).flatMap encB)] rfl (.tmp rfl .nil) rfl ⟨rfl, _, _, rfl, rfl⟩

theorem number_spec (B : SL UInt8) (ρ : Hp) (hB : B.ro encB 1 ρ) (h4 : 4 ≤ B.xs.length) : Spec0 Tryz.prog 85 #[.slice B.a B.xs.length B.cap] ρ [] (fun v Γ' => v = .int .i64 ((numW B.xs : Int)) ∧ Γ' = []) := by
  refine spec_of (n := 25) (vs := [_]) (σ := [(0, _)]) Tryz.func85 rfl rfl rfl rfl fun E Δ => ?_
  rw [List.nil_append]
  have hc0 := (B.xs.getD 0 default).toNat_lt
  have hc1 := (B.xs.getD 1 default).toNat_lt
  have hc2 := (B.xs.getD 2 default).toNat_lt
  have hc3 := (B.xs.getD 3 default).toNat_lt
  refine sr ?_
  refine e_as rfl ?_
  refine l_n ?_
  refine c_seq ?_
  refine d_r 23 [] ?_
  refine d_t 0 rfl wn (q_move rfl) ?_
  refine d_t 1 rfl wn (q_indexe 0 Tryz.underlying38 sz_5 rfl rfl (by first | assumption | exact rd_ro (by assumption) | exact rd_row pk_) (by decide) rfl (by first | assumption | omega | (simp only [List.length_cons, List.length_nil]; omega))) ?_
  refine d_t 2 rfl wn (q_loade (enc := encB) (xs := B.xs) (j := 0) (off := 0) sc_5 rfl (by first | assumption | exact rd_ro (by assumption) | exact rd_row pk_) (fun _ => rfl) (by first | assumption | omega | (simp only [List.length_cons, List.length_nil]; omega)) (by decide) rfl) ?_
  refine d_t 3 rfl wn (q_conv rfl Tryz.underlying5 Tryz.underlying3 (by first | assumption | exact wrap_i64 (by omega) (by omega))) ?_
  refine d_t 4 rfl wn (q_as (v := .int .i64 ((((B.xs.getD 0 default).toNat * 16777216) : Nat) : Int)) (q_shl rfl rfl (by omega)) (inte (sh24 (B.xs.getD 0 default)))) ?_
  refine d_t 5 rfl wn (q_move rfl) ?_
  refine d_t 6 rfl wn (q_indexe 1 Tryz.underlying38 sz_5 rfl rfl (by first | assumption | exact rd_ro (by assumption) | exact rd_row pk_) (by decide) rfl (by first | assumption | omega | (simp only [List.length_cons, List.length_nil]; omega))) ?_
  refine d_t 7 rfl wn (q_loade (enc := encB) (xs := B.xs) (j := 1) (off := 0) sc_5 rfl (by first | assumption | exact rd_ro (by assumption) | exact rd_row pk_) (fun _ => rfl) (by first | assumption | omega | (simp only [List.length_cons, List.length_nil]; omega)) (by decide) rfl) ?_
  refine d_t 8 rfl wn (q_conv rfl Tryz.underlying5 Tryz.underlying3 (by first | assumption | exact wrap_i64 (by omega) (by omega))) ?_
  refine d_t 9 rfl wn (q_as (v := .int .i64 ((((B.xs.getD 1 default).toNat * 65536) : Nat) : Int)) (q_shl rfl rfl (by omega)) (inte (sh16 (B.xs.getD 1 default)))) ?_
  refine d_t 10 rfl wn (q_as (v := .int .i64 (((((B.xs.getD 0 default).toNat * 16777216) + ((B.xs.getD 1 default).toNat * 65536)) : Nat) : Int)) (q_or rfl rfl) (inte (or64 (A := ((B.xs.getD 0 default).toNat * 16777216)) (b := ((B.xs.getD 1 default).toNat * 65536)) 24 (B.xs.getD 0 default).toNat (by omega) (by omega) (by omega)))) ?_
  refine d_t 11 rfl wn (q_move rfl) ?_
  refine d_t 12 rfl wn (q_indexe 2 Tryz.underlying38 sz_5 rfl rfl (by first | assumption | exact rd_ro (by assumption) | exact rd_row pk_) (by decide) rfl (by first | assumption | omega | (simp only [List.length_cons, List.length_nil]; omega))) ?_
  refine d_t 13 rfl wn (q_loade (enc := encB) (xs := B.xs) (j := 2) (off := 0) sc_5 rfl (by first | assumption | exact rd_ro (by assumption) | exact rd_row pk_) (fun _ => rfl) (by first | assumption | omega | (simp only [List.length_cons, List.length_nil]; omega)) (by decide) rfl) ?_
  refine d_t 14 rfl wn (q_conv rfl Tryz.underlying5 Tryz.underlying3 (by first | assumption | exact wrap_i64 (by omega) (by omega))) ?_
  refine d_t 15 rfl wn (q_as (v := .int .i64 ((((B.xs.getD 2 default).toNat * 256) : Nat) : Int)) (q_shl rfl rfl (by omega)) (inte (sh08 (B.xs.getD 2 default)))) ?_
  refine d_t 16 rfl wn (q_as (v := .int .i64 ((((((B.xs.getD 0 default).toNat * 16777216) + ((B.xs.getD 1 default).toNat * 65536)) + ((B.xs.getD 2 default).toNat * 256)) : Nat) : Int)) (q_or rfl rfl) (inte (or64 (A := (((B.xs.getD 0 default).toNat * 16777216) + ((B.xs.getD 1 default).toNat * 65536))) (b := ((B.xs.getD 2 default).toNat * 256)) 16 ((B.xs.getD 0 default).toNat * 256 + (B.xs.getD 1 default).toNat) (by omega) (by omega) (by omega)))) ?_
  refine d_t 17 rfl wn (q_move rfl) ?_
  refine d_t 18 rfl wn (q_indexe 3 Tryz.underlying38 sz_5 rfl rfl (by first | assumption | exact rd_ro (by assumption) | exact rd_row pk_) (by decide) rfl (by first | assumption | omega | (simp only [List.length_cons, List.length_nil]; omega))) ?_
  refine d_t 19 rfl wn (q_loade (enc := encB) (xs := B.xs) (j := 3) (off := 0) sc_5 rfl (by first | assumption | exact rd_ro (by assumption) | exact rd_row pk_) (fun _ => rfl) (by first | assumption | omega | (simp only [List.length_cons, List.length_nil]; omega)) (by decide) rfl) ?_
  refine d_t 20 rfl wn (q_conv rfl Tryz.underlying5 Tryz.underlying3 (by first | assumption | exact wrap_i64 (by omega) (by omega))) ?_
  refine d_t 21 rfl wn (q_as (v := .int .i64 (((((((B.xs.getD 0 default).toNat * 16777216) + ((B.xs.getD 1 default).toNat * 65536)) + ((B.xs.getD 2 default).toNat * 256)) + (B.xs.getD 3 default).toNat) : Nat) : Int)) (q_or rfl rfl) (inte (or64 (A := ((((B.xs.getD 0 default).toNat * 16777216) + ((B.xs.getD 1 default).toNat * 65536)) + ((B.xs.getD 2 default).toNat * 256))) (b := (B.xs.getD 3 default).toNat) 8 ((B.xs.getD 0 default).toNat * 65536 + (B.xs.getD 1 default).toNat * 256 + (B.xs.getD 2 default).toNat) (by omega) (by omega) (by omega)))) ?_
  refine d_t 22 rfl wn (q_assign rfl) ?_
  refine d_d ?_
  refine k_then_n ?_
  refine c_ret ?_
  exact t_rt [] rfl (.tmp rfl .nil) rfl ⟨rfl, inte (by rw [numW_nat]), rfl⟩ (by (repeat refine Ent.skip ?_); exact Ent.refl _)

theorem number4 (B : SL UInt8) (ρ : Hp) (hB : B.ro encB 1 ρ) (h8 : 8 ≤ B.xs.length) : Spec0 Tryz.prog 85 #[.slice (sh B.a B.cap 4 1) (B.xs.drop 4).length (B.cap - 4)] ρ [] (fun v Γ' => v = .int .i64 (numW (B.xs.drop 4) : Int) ∧ Γ' = []) :=
  number_spec (dropS B 4) ρ ((Suf.drop B (show 4 ≤ B.xs.length by omega)).1 ρ hB) (by show 4 ≤ (B.xs.drop 4).length; rw [List.length_drop]; omega)

theorem take_spec (B : SL UInt8) (ρ : Hp) (hB : B.ro encB 1 ρ) (hbl : B.xs.length ≤ 1000000000000) : Spec0 Tryz.prog 62 #[.slice B.a B.xs.length B.cap] ρ [] (fun v Γ' => v = .tuple #[.agg (encKept1 ((takeK B.xs).1)).toArray, .int .i64 ((takeK B.xs).2)] ∧ Γ' = []) := by
  refine spec_of (n := 87) (vs := [_]) (σ := [(0, _)]) Tryz.func62 rfl rfl rfl rfl fun E Δ => ?_
  rw [List.nil_append]
  have hcp9 : B.xs.length ≤ B.cap := hB.2.1
  have hnw := numW_lt (B.xs.drop 4)
  refine sr ?_
  refine e_s (s_allocz (cs := encKept1 zKept1) (by kernel_rfl)) ?_
  rintro _ _ ⟨b2, rfl, rfl⟩
  refine e_as rfl ?_
  refine l_n ?_
  refine c_seq ?_
  refine sr ?_
  refine e_mv rfl ?_
  refine e_q (q_len Tryz.underlying38 rfl) ?_
  refine e_q (q_lss rfl rfl) ?_
  refine e_mv rfl ?_
  refine t_split (d := 13) rfl (fun g1_3 => ?_) (fun g1_3 => ?_)
  · try simp only [decide_eq_true_eq, decide_eq_false_iff_not] at g1_3
    refine l_step (s_no rfl (wno rfl rfl (by decide)) ?_)
    refine l_step (s_no rfl (wno rfl rfl (by decide)) ?_)
    refine l_step (s_no rfl (wno rfl rfl (by decide)) ?_)
    refine l_step (s_no rfl (wno rfl rfl (by decide)) ?_)
    refine l_step (s_no rfl (wno rfl rfl (by decide)) ?_)
    refine l_step (s_no rfl (wno rfl rfl (by decide)) ?_)
    refine l_step (s_no rfl (wno rfl rfl (by decide)) ?_)
    refine e_q (q_pick rfl rfl rfl) ?_
    refine l_n ?_
    refine c_yes rfl ?_
    refine sr ?_
    refine e_q (q_build (cs := encKept1 (⟨zFence1, 0, 0, 0, 0⟩ : Kept1)) zc_79 pl_79 rfl rfl) ?_
    refine l_step (s_s0 wn (s_storep (ws := encKept1 (⟨zFence1, 0, 0, 0, 0⟩ : Kept1)) (cs := encKept1 zKept1) (cs' := encKept1 (⟨zFence1, 0, 0, 0, 0⟩ : Kept1)) rfl rfl rfl sz_79 (oneKept1 _) (by simp [encKept1, encKept1]) rfl pk_) ?_)
    rintro _ _ ⟨rfl, rfl⟩
    refine e_as rfl ?_
    refine l_n ?_
    refine c_ret ?_
    refine k_then_r ?_
    have hr : takeK B.xs = (zKept1, 0) := tk_short (by omega)
    rw [hr]
    exact t_rt [] rfl (.cell rfl pk_ (fun w h => ld_agg (by exact ag_79) h) (.tmp rfl .nil)) rfl ⟨rfl, rfl, rfl⟩ (by (repeat refine Ent.skip ?_); exact Ent.refl _)
  · try simp only [decide_eq_true_eq, decide_eq_false_iff_not] at g1_3
    refine e_qw (wy rfl rfl rfl) (q_move rfl) ?_
    refine e_qw (wy rfl rfl rfl) (q_len Tryz.underlying38 rfl) ?_
    refine e_qw (wy rfl rfl rfl) (q_sub rfl rfl (by omega) (by omega)) ?_
    refine e_qw (wy rfl rfl rfl) (q_move rfl) ?_
    refine e_qw (wy rfl rfl rfl) (q_as (v := .slice (sh B.a B.cap 4 1) (B.xs.drop 4).length (B.cap - 4)) (q_cut_lo Tryz.underlying38 sz_5 rfl rfl (by omega) (by omega)) (by rw [List.length_drop]; rfl)) ?_
    refine l_step (s_fnq rfl (wy rfl rfl rfl) Tryz.func85 rfl (by kernel_rfl) rfl (fun ρ' hL => number4 B ρ' (Ro.mono hL.1 hB) (by omega)) ?_)
    refine e_qw (wy rfl rfl rfl) (q_lss rfl rfl) ?_
    refine e_q (q_pick rfl rfl rfl) ?_
    refine l_n ?_
    refine c_cond rfl (fun h0 => ?_) (fun h0 => ?_)
    · try simp only [decide_eq_true_eq, decide_eq_false_iff_not] at h0
      refine sr ?_
      refine e_q (q_build (cs := encKept1 (⟨zFence1, 0, 0, 0, 0⟩ : Kept1)) zc_79 pl_79 rfl rfl) ?_
      refine l_step (s_s0 wn (s_storep (ws := encKept1 (⟨zFence1, 0, 0, 0, 0⟩ : Kept1)) (cs := encKept1 zKept1) (cs' := encKept1 (⟨zFence1, 0, 0, 0, 0⟩ : Kept1)) rfl rfl rfl sz_79 (oneKept1 _) (by simp [encKept1, encKept1]) rfl pk_) ?_)
      rintro _ _ ⟨rfl, rfl⟩
      refine e_as rfl ?_
      refine l_n ?_
      refine c_ret ?_
      refine k_then_r ?_
      have hr : takeK B.xs = (zKept1, 0) := tk_short (by omega)
      rw [hr]
      exact t_rt [] rfl (.cell rfl pk_ (fun w h => ld_agg (by exact ag_79) h) (.tmp rfl .nil)) rfl ⟨rfl, rfl, rfl⟩ (by (repeat refine Ent.skip ?_); exact Ent.refl _)
    · try simp only [decide_eq_true_eq, decide_eq_false_iff_not] at h0
      refine c_skip ?_
      refine k_then_n ?_
      refine sr ?_
      refine e_mv rfl ?_
      refine e_q (q_as (v := .slice (sh B.a B.cap 4 1) (B.xs.drop 4).length (B.cap - 4)) (q_cut_lo Tryz.underlying38 sz_5 rfl rfl (by omega) (by omega)) (by rw [List.length_drop]; rfl)) ?_
      refine l_step (s_fnq rfl wn Tryz.func85 rfl (by kernel_rfl) rfl (fun ρ' hL => number4 B ρ' (Ro.mono hL.1 hB) (by omega)) ?_)
      refine e_q (q_add rfl rfl (by omega) (by omega)) ?_
      refine e_as rfl ?_
      refine l_n ?_
      refine sr ?_
      refine e_mv rfl ?_
      refine e_mv rfl ?_
      refine e_q (q_as (v := .slice (sh B.a B.cap 8 1) ((B.xs.take (8 + (numW (B.xs.drop 4)))).drop 8).length (B.cap - 8)) (q_cut_lohi Tryz.underlying38 sz_5 rfl rfl rfl (by omega) (by omega) (by omega)) (by rw [List.length_drop, List.length_take]; congr 1; omega)) ?_
      refine e_fn Tryz.func86 rfl sl_ (fun ρ' hL => Go.Mou.Take_spec sh6 (dropS (takeS B (8 + (numW (B.xs.drop 4)))) 8) ρ' (by decide) (by decide) (by decide) (ro_cut (Ro.mono hL.1 hB) (by omega) (by omega)) (by show ((B.xs.take (8 + (numW (B.xs.drop 4)))).drop 8).length ≤ _; rw [List.length_drop, List.length_take]; omega)) ?_
      rintro _ _ ⟨v3, e3, rfl, rfl, hT3⟩
      try simp only [List.cons_append, List.nil_append]
      have hT4 : RTake sh6 ((B.xs.take (8 + (numW (B.xs.drop 4)))).drop 8) v3.pv e3 := hT3
      refine e_mv rfl ?_
      refine e_q (q_extract rfl rfl) ?_
      refine e_q (q_extract rfl rfl) ?_
      refine e_s (s_allocz (cs := encVal1 zVal1) (by kernel_rfl)) ?_
      rintro _ _ ⟨b5, rfl, rfl⟩
      refine l_step (s_s0 wn (s_storep (ws := encVal1 v3.val) (cs := encVal1 zVal1) (cs' := encVal1 v3.val) rfl rfl rfl sz_97 (oneVal1 _) (by simp [encVal1, encVal1]) rfl pk_) ?_)
      rintro _ _ ⟨rfl, rfl⟩
      refine e_as rfl ?_
      refine l_n ?_
      refine c_seq ?_
      refine c_seq ?_
      refine d_r 13 [.pts b5 (encVal1 v3.val) 97, VA 5 97 v3, .pts b2 (encKept1 zKept1) 79] ?_
      refine d_t 0 rfl wn (q_move rfl) ?_
      refine d_t 3 rfl wn (q_move rfl) ?_
      refine d_t 4 rfl wn (q_move rfl) ?_
      refine d_t 5 rfl wn (q_as (v := .slice (sh B.a B.cap 4 1) ((B.xs.take (8 + (numW (B.xs.drop 4)))).drop 4).length (B.cap - 4)) (q_cut_lohi Tryz.underlying38 sz_5 rfl rfl rfl (by omega) (by omega) (by omega)) (by rw [List.length_drop, List.length_take]; congr 1; omega)) ?_
      refine d_2 1 6 ?_ ?_
      · skip
        refine o_step rfl (s_fnq rfl wn Tryz.func85 rfl (by kernel_rfl) rfl (fun ρ' hL => number_spec B ρ' (Ro.mono hL.1 hB) (by omega)) ?_)
        refine d_c ?_
        refine d_t 2 rfl wn (q_as (v := .int .u32 ((beW (B.xs.getD 0 default) (B.xs.getD 1 default) (B.xs.getD 2 default) (B.xs.getD 3 default)).toNat : Int)) (q_conv rfl Tryz.underlying3 Tryz.underlying98 (wrap_u32 (by omega) (by have h9 := numW_lt B.xs; omega))) (inte rfl)) ?_
        refine d_1 6 ?_
        refine o_step rfl (s_s rfl wn (s_buildSlice (cs := ([(dropS (takeS B (8 + (numW (B.xs.drop 4)))) 4)] : List (SL UInt8)).flatMap encSL) Tryz.underlying54 eo_38 rfl rfl rfl rfl (by decide) (by decide)) ?_)
        rintro _ _ ⟨b40, rfl, rfl⟩
        refine d_c ?_
        refine d_1 7 ?_
        refine o_step rfl (s_fnq rfl wn Tryz.func87 rfl (by kernel_rfl) rfl (fun ρ' hL => Go.Sm.fits_spec (beW (B.xs.getD 0 default) (B.xs.getD 1 default) (B.xs.getD 2 default) (B.xs.getD 3 default)) (some ⟨b40, 0, none⟩) 1 1 [(dropS (takeS B (8 + (numW (B.xs.drop 4)))) 4)] rfl ρ' (hL.row pk_) (by intro s hs; rw [List.mem_singleton.1 hs]; exact ro_cut (Ro.mono hL.1 hB) (by omega) (by omega))) ?_)
        refine d_c ?_
        refine d_t 8 rfl wn (q_not rfl) ?_
        refine d_t 9 rfl wn (q_move rfl) ?_
        refine t_split (d := 43) rfl (fun g5_9 => ?_) (fun g5_9 => ?_)
        · try simp only [decide_eq_true_eq, decide_eq_false_iff_not, Bool.not_eq_true', Bool.not_eq_false', Bool.not_eq_true, Bool.not_eq_false, ne_eq, Decidable.not_not] at g5_9
          refine d_s 10 rfl (wno rfl rfl (by decide)) ?_
          refine d_s 11 rfl (wno rfl rfl (by decide)) ?_
          refine d_t 12 rfl wn (q_pick rfl rfl rfl) ?_
          refine d_d ?_
          refine k_then_n ?_
          refine c_yes rfl ?_
          refine sr ?_
          refine e_q (q_build (cs := encKept1 (⟨zFence1, 0, 0, 0, 0⟩ : Kept1)) zc_79 pl_79 rfl rfl) ?_
          refine l_step (s_s0 wn (s_storep (ws := encKept1 (⟨zFence1, 0, 0, 0, 0⟩ : Kept1)) (cs := encKept1 zKept1) (cs' := encKept1 (⟨zFence1, 0, 0, 0, 0⟩ : Kept1)) rfl rfl rfl sz_79 (oneKept1 _) (by simp [encKept1, encKept1]) rfl pk_) ?_)
          rintro _ _ ⟨rfl, rfl⟩
          refine e_as rfl ?_
          refine l_n ?_
          refine c_ret ?_
          refine k_then_r ?_
          have hr : takeK B.xs = (zKept1, 0) := tk_sum (fun h9 => by have h8 : Go.Sm.sumB (Go.Sm.catB [(dropS (takeS B (8 + (numW (B.xs.drop 4)))) 4)]) = (beW (B.xs.getD 0 default) (B.xs.getD 1 default) (B.xs.getD 2 default) (B.xs.getD 3 default)) := (congrArg Go.Sm.sumB (Go.Sm.catB_one _)).trans h9; simp [h8] at g5_9)
          rw [hr]
          exact t_rt [] rfl (.cell rfl pk_ (fun w h => ld_agg (by exact ag_79) h) (.tmp rfl .nil)) rfl ⟨rfl, rfl, rfl⟩ (by (repeat refine Ent.skip ?_); exact Ent.refl _)
        · try simp only [decide_eq_true_eq, decide_eq_false_iff_not, Bool.not_eq_true', Bool.not_eq_false', Bool.not_eq_true, Bool.not_eq_false, ne_eq, Decidable.not_not] at g5_9
          refine d_t 10 rfl (wy rfl rfl rfl) (q_move rfl) ?_
          refine d_t 11 rfl (wy rfl rfl rfl) (q_neq rfl rfl) ?_
          refine d_t 12 rfl wn (q_pick rfl rfl rfl) ?_
          refine d_d ?_
          refine k_then_n ?_
          refine c_cond rfl (fun h1 => ?_) (fun h1 => ?_)
          · try simp only [decide_eq_true_eq, decide_eq_false_iff_not, ne_eq, Decidable.not_not] at h1
            refine sr ?_
            refine e_q (q_build (cs := encKept1 (⟨zFence1, 0, 0, 0, 0⟩ : Kept1)) zc_79 pl_79 rfl rfl) ?_
            refine l_step (s_s0 wn (s_storep (ws := encKept1 (⟨zFence1, 0, 0, 0, 0⟩ : Kept1)) (cs := encKept1 zKept1) (cs' := encKept1 (⟨zFence1, 0, 0, 0, 0⟩ : Kept1)) rfl rfl rfl sz_79 (oneKept1 _) (by simp [encKept1, encKept1]) rfl pk_) ?_)
            rintro _ _ ⟨rfl, rfl⟩
            refine e_as rfl ?_
            refine l_n ?_
            refine c_ret ?_
            refine k_then_r ?_
            have hr : takeK B.xs = (zKept1, 0) := tk_bad (bt_err hT4 (by omega))
            rw [hr]
            exact t_rt [] rfl (.cell rfl pk_ (fun w h => ld_agg (by exact ag_79) h) (.tmp rfl .nil)) rfl ⟨rfl, rfl, rfl⟩ (by (repeat refine Ent.skip ?_); exact Ent.refl _)
          · try simp only [decide_eq_true_eq, decide_eq_false_iff_not, ne_eq, Decidable.not_not] at h1
            have hsm : Go.Sm.sumB ((B.xs.take (8 + (numW (B.xs.drop 4)))).drop 4) = (beW (B.xs.getD 0 default) (B.xs.getD 1 default) (B.xs.getD 2 default) (B.xs.getD 3 default)) := by have h9 : Go.Sm.sumB (Go.Sm.catB [(dropS (takeS B (8 + (numW (B.xs.drop 4)))) 4)]) = (beW (B.xs.getD 0 default) (B.xs.getD 1 default) (B.xs.getD 2 default) (B.xs.getD 3 default)) := (by simpa using g5_9); rw [Go.Sm.catB_one] at h9; exact h9
            have hl6 : v3.L.length = 6 := by have h9 := (bt_ok hT4 (by omega)).2; rwa [pv_L, List.length_map] at h9
            refine c_skip ?_
            refine k_then_n ?_
            refine sr ?_
            refine Tr.ent (v_open (tu := 5) (tv := 97) (v := v3) pk_) ?_
            refine e_as rfl ?_
            refine l_n ?_
            refine c_seq ?_
            refine sr ?_
            refine e_q (q_fieldp rfl fo_97_2) ?_
            refine e_q (q_loadp (v := .slice v3.a v3.L.length v3.cap) sc_95 rfl pk_ rfl) ?_
            refine e_q (q_len Tryz.underlying95 rfl) ?_
            refine e_mv rfl ?_
            refine l_n ?_
            refine c_block ?_
            refine Tr.ent (Ent.nilrow 3 1 _) ?_
            refine Tr.env (σ' := [(2, _), (4, _), (7, _), (49, _), (50, _), (51, _)]) ev_ ?_
            refine t_loop (ι := Lp (Nat)) (fun x => x.d ≤ v3.L.length ∧ ∀ y ∈ v3.L.take x.d, y.N < top62) (fun x => v3.L.length - x.d) (fun x => [(2, .pointer (some ⟨b2, 0, none⟩)), (4, .int .i64 (8 + ((numW (B.xs.drop 4)) : Int))), (7, .slice x.a1 ((nsV (v3.L.take x.d)).length) x.c1), (49, .slice v3.a v3.L.length v3.cap), (50, .int .i64 (v3.L.length : Int)), (51, .int .i64 (x.d : Int))]) (fun x => .row 3 1 x.a1 ((nsV (v3.L.take x.d)).length) x.c1 ((nsV (v3.L.take x.d)).flatMap encI) :: .row 5 1 v3.B.a v3.B.xs.length v3.B.cap (v3.B.xs.flatMap encB) :: .row 97 3 v3.a v3.L.length v3.cap ((v3.L.map VT.val).flatMap encVal1) :: Bun (v3.L.map (VA 5 97)) :: .row 38 1 (some ⟨b40, 0, none⟩) 1 1 ([(dropS (takeS B (8 + (numW (B.xs.drop 4)))) 4)].flatMap encSL) :: .pts b5 (encVal1 (⟨v3.N, v3.B, ⟨v3.a, v3.L.length, v3.cap⟩⟩ : Val1)) 97 :: .pts b2 (encKept1 zKept1) 79 :: Δ) (⟨0, none, 0, none, 0, none, 0⟩ : Lp _) ⟨Nat.zero_le _, by simp⟩ ?_ ?_ ?_
            · exact .c (.c (.c (.c (.c (.c (.nil _))))))
            · exact en_
            intro x hx
            obtain ⟨hx1, hx2⟩ := hx
            have hnl9 : (nsV (v3.L.take x.d)).length = x.d := by unfold nsV; rw [List.length_map, List.length_take]; omega
            refine sr ?_
            refine e_q (q_lss rfl rfl) ?_
            refine l_n ?_
            refine c_seq ?_
            refine c_cond rfl (fun h2 => ?_) (fun h2 => ?_)
            · try simp only [decide_eq_true_eq, decide_eq_false_iff_not] at h2
              refine c_skip ?_
              refine k_then_n ?_
              refine c_seq ?_
              refine c_block ?_
              refine sr ?_
              refine e_q (q_indexe x.d Tryz.underlying95 sz_97 rfl rfl (rd_row pk_) (by decide) rfl (by first | omega | (rw [List.length_map]; omega))) ?_
              refine e_q (q_loadea (vs := encVal1 ((v3.L.map VT.val).getD x.d default)) (enc := encVal1) (xs := (v3.L.map VT.val)) (j := x.d) (off := 0) ag_97 rfl (rd_row pk_) (fun _ => rfl) (by first | omega | (rw [List.length_map]; omega)) (by simp [encVal1]) (by simp [encVal1]) rfl) ?_
              refine e_s (s_allocz (cs := encVal1 zVal1) (by kernel_rfl)) ?_
              rintro _ _ ⟨b9, rfl, rfl⟩
              refine l_step (s_s0 wn (s_storep (ws := encVal1 ((v3.L.map VT.val).getD x.d default)) (cs := encVal1 zVal1) (cs' := encVal1 ((v3.L.map VT.val).getD x.d default)) rfl rfl rfl sz_97 (oneVal1 _) (by simp [encVal1, encVal1]) rfl pk_) ?_)
              rintro _ _ ⟨rfl, rfl⟩
              refine l_n ?_
              refine c_seq ?_
              refine sr ?_
              refine e_q (q_fieldp rfl fo_97_0) ?_
              refine e_q (q_loadp (v := .int .u64 ((((v3.L.map VT.val).getD x.d default).N) : Int)) sc_46 rfl pk_ rfl) ?_
              refine e_q (q_geq rfl rfl) ?_
              refine l_n ?_
              refine c_cond rfl (fun h3 => ?_) (fun h3 => ?_)
              · try simp only [decide_eq_true_eq, decide_eq_false_iff_not] at h3
                refine sr ?_
                refine e_q (q_build (cs := encKept1 (⟨zFence1, 0, 0, 0, 0⟩ : Kept1)) zc_79 pl_79 rfl rfl) ?_
                refine l_step (s_s0 wn (s_storep (ws := encKept1 (⟨zFence1, 0, 0, 0, 0⟩ : Kept1)) (cs := encKept1 zKept1) (cs' := encKept1 (⟨zFence1, 0, 0, 0, 0⟩ : Kept1)) rfl rfl rfl sz_79 (oneKept1 _) (by simp [encKept1, encKept1]) rfl pk_) ?_)
                rintro _ _ ⟨rfl, rfl⟩
                refine e_as rfl ?_
                refine l_n ?_
                refine c_ret ?_
                refine k_then_r ?_
                refine k_blk_r ?_
                refine k_then_r ?_
                refine k_then_r ?_
                refine k_blk_r ?_
                refine k_then_r ?_
                have hr : takeK B.xs = (zKept1, 0) := tk_bad ((bt_ok hT4 (by omega)).1.trans (by rw [good_no (L := v3.L) (j := x.d) (by omega) (by rw [← val_N (by omega)]; show 4611686018427387904 ≤ _; omega) v3 rfl]; rfl))
                rw [hr]
                exact t_rt [] rfl (.cell rfl pk_ (fun w h => ld_agg (by exact ag_79) h) (.tmp rfl .nil)) rfl ⟨rfl, rfl, rfl⟩ (by (repeat refine Ent.skip ?_); exact Ent.refl _)
              · try simp only [decide_eq_true_eq, decide_eq_false_iff_not] at h3
                refine c_skip ?_
                refine k_then_n ?_
                refine c_region ?_
                refine e_mv rfl ?_
                refine e_q (q_fieldp rfl fo_97_0) ?_
                refine e_q (q_loadp (v := .int .u64 ((((v3.L.map VT.val).getD x.d default).N) : Int)) sc_46 rfl pk_ rfl) ?_
                refine e_q (q_conv rfl Tryz.underlying46 Tryz.underlying3 (by first | assumption | exact wrap_i64 (by omega) (by omega))) ?_
                refine e_s (s_buildSlice (cs := ([((((v3.L.map VT.val).getD x.d default).N) : Int)] : List Int).flatMap encI) Tryz.underlying37 eo_3 rfl rfl rfl rfl (by decide) (by decide)) ?_
                rintro _ _ ⟨b63, rfl, rfl⟩
                refine e_s (s_appendn (enc := encI) (xs := ((nsV (v3.L.take x.d)) : List Int)) (ys := ([((((v3.L.map VT.val).getD x.d default).N) : Int)] : List Int)) (Γ' := fun a' cap' => _) Tryz.underlying37 eo_3 (by decide) rfl rfl (rd_row pk_) (oneI _) (by first | omega | (simp only [List.length_append, List.length_cons, List.length_nil] at *; omega)) (by first | omega | (simp only [List.length_append, List.length_cons, List.length_nil] at *; omega)) (fun _ _ => pk_)) ?_
                rintro _ _ ⟨a64, c64, rfl, rfl⟩
                refine e_as rfl ?_
                refine l_nil ?_
                refine k_blk_n ?_
                refine k_then_n ?_
                refine c_region ?_
                refine e_q (q_add rfl rfl (by omega) (by omega)) ?_
                refine e_mv rfl ?_
                refine l_n ?_
                have hnx := nsV_next (L := v3.L) (j := x.d) (by omega)
                have hvn := val_N (L := v3.L) (j := x.d) (by omega)
                rw [hvn, ← hnx, show (nsV (v3.L.take x.d)).length + 1 = (nsV (v3.L.take (x.d + 1))).length from by rw [hnx, List.length_append]; rfl]
                exact t_nx (⟨x.d + 1, a64, c64, none, 0, none, 0⟩ : Lp _) ⟨⟨by show x.d + 1 ≤ _; omega, fun y hy => by rw [take_succ_getD _ _ (by omega), List.mem_append, List.mem_singleton] at hy; rcases hy with hy | rfl; exact hx2 y hy; show _ < 4611686018427387904; omega⟩, by show _ - (x.d + 1) < _; omega⟩ (.c (.c (.c (.c (.c (.c (.nil _)))))))
            · try simp only [decide_eq_true_eq, decide_eq_false_iff_not] at h2
              have hk : x.d = v3.L.length := by omega
              rw [hk, List.take_length] at hx2
              have hnl6 : (nsV v3.L).length = 6 := by unfold nsV; rw [List.length_map]; exact hl6
              rw [hk, List.take_length]
              refine c_exit ?_
              refine k_then_x ?_
              refine k_then_x ?_
              refine k_blk_x ?_
              refine k_then_n ?_
              refine c_seq ?_
              refine d_r 23 [.row 3 1 x.a1 ((nsV v3.L).length) x.c1 ((nsV v3.L).flatMap encI), .row 5 1 v3.B.a v3.B.xs.length v3.B.cap (v3.B.xs.flatMap encB), .row 97 3 v3.a v3.L.length v3.cap ((v3.L.map VT.val).flatMap encVal1), Bun (v3.L.map (VA 5 97)), .row 38 1 (some ⟨b40, 0, none⟩) 1 1 ([(dropS (takeS B (8 + (numW (B.xs.drop 4)))) 4)].flatMap encSL), .pts b5 (encVal1 (⟨v3.N, v3.B, ⟨v3.a, v3.L.length, v3.cap⟩⟩ : Val1)) 97] ?_
              refine d_t 0 rfl wn (q_move rfl) ?_
              refine d_t 1 rfl wn (q_indexe 0 Tryz.underlying37 sz_3 rfl rfl (rd_row pk_) (by decide) rfl (by first | omega | (rw [List.length_map]; omega))) ?_
              refine d_t 2 rfl wn (q_loade (enc := encI) (xs := (nsV v3.L)) (j := 0) (off := 0) sc_3 rfl (rd_row pk_) (fun _ => rfl) (by first | omega | (rw [List.length_map]; omega)) (by decide) rfl) ?_
              refine d_t 3 rfl wn (q_move rfl) ?_
              refine d_t 4 rfl wn (q_indexe 1 Tryz.underlying37 sz_3 rfl rfl (rd_row pk_) (by decide) rfl (by first | omega | (rw [List.length_map]; omega))) ?_
              refine d_t 5 rfl wn (q_loade (enc := encI) (xs := (nsV v3.L)) (j := 1) (off := 0) sc_3 rfl (rd_row pk_) (fun _ => rfl) (by first | omega | (rw [List.length_map]; omega)) (by decide) rfl) ?_
              refine d_t 6 rfl wn (q_build (cs := encFence1 (⟨((nsV v3.L).getD 0 default), ((nsV v3.L).getD 1 default)⟩ : Fence1)) zc_77 pl_77 rfl rfl) ?_
              refine d_t 7 rfl wn (q_move rfl) ?_
              refine d_t 8 rfl wn (q_indexe 2 Tryz.underlying37 sz_3 rfl rfl (rd_row pk_) (by decide) rfl (by first | omega | (rw [List.length_map]; omega))) ?_
              refine d_t 9 rfl wn (q_loade (enc := encI) (xs := (nsV v3.L)) (j := 2) (off := 0) sc_3 rfl (rd_row pk_) (fun _ => rfl) (by first | omega | (rw [List.length_map]; omega)) (by decide) rfl) ?_
              refine d_t 10 rfl wn (q_move rfl) ?_
              refine d_t 11 rfl wn (q_indexe 3 Tryz.underlying37 sz_3 rfl rfl (rd_row pk_) (by decide) rfl (by first | omega | (rw [List.length_map]; omega))) ?_
              refine d_t 12 rfl wn (q_loade (enc := encI) (xs := (nsV v3.L)) (j := 3) (off := 0) sc_3 rfl (rd_row pk_) (fun _ => rfl) (by first | omega | (rw [List.length_map]; omega)) (by decide) rfl) ?_
              refine d_t 13 rfl wn (q_move rfl) ?_
              refine d_t 14 rfl wn (q_indexe 4 Tryz.underlying37 sz_3 rfl rfl (rd_row pk_) (by decide) rfl (by first | omega | (rw [List.length_map]; omega))) ?_
              refine d_t 15 rfl wn (q_loade (enc := encI) (xs := (nsV v3.L)) (j := 4) (off := 0) sc_3 rfl (rd_row pk_) (fun _ => rfl) (by first | omega | (rw [List.length_map]; omega)) (by decide) rfl) ?_
              refine d_t 16 rfl wn (q_move rfl) ?_
              refine d_t 17 rfl wn (q_indexe 5 Tryz.underlying37 sz_3 rfl rfl (rd_row pk_) (by decide) rfl (by first | omega | (rw [List.length_map]; omega))) ?_
              refine d_t 18 rfl wn (q_loade (enc := encI) (xs := (nsV v3.L)) (j := 5) (off := 0) sc_3 rfl (rd_row pk_) (fun _ => rfl) (by first | omega | (rw [List.length_map]; omega)) (by decide) rfl) ?_
              refine d_t 19 rfl wn (q_build (cs := encKept1 (⟨(⟨((nsV v3.L).getD 0 default), ((nsV v3.L).getD 1 default)⟩ : Fence1), ((nsV v3.L).getD 2 default), ((nsV v3.L).getD 3 default), ((nsV v3.L).getD 4 default), ((nsV v3.L).getD 5 default)⟩ : Kept1)) zc_79 pl_79 rfl rfl) ?_
              refine d_t 20 rfl wn (q_move rfl) ?_
              refine d_1 21 ?_
              refine o_step rfl (s_s0 wn (s_storep (ws := encKept1 (⟨(⟨((nsV v3.L).getD 0 default), ((nsV v3.L).getD 1 default)⟩ : Fence1), ((nsV v3.L).getD 2 default), ((nsV v3.L).getD 3 default), ((nsV v3.L).getD 4 default), ((nsV v3.L).getD 5 default)⟩ : Kept1)) (cs := encKept1 zKept1) (cs' := encKept1 (⟨(⟨((nsV v3.L).getD 0 default), ((nsV v3.L).getD 1 default)⟩ : Fence1), ((nsV v3.L).getD 2 default), ((nsV v3.L).getD 3 default), ((nsV v3.L).getD 4 default), ((nsV v3.L).getD 5 default)⟩ : Kept1)) rfl rfl rfl sz_79 (oneKept1 _) (by simp [encKept1, encKept1]) rfl pk_) ?_)
              rintro _ _ ⟨rfl, rfl⟩
              refine d_c ?_
              refine d_t 22 rfl wn (q_assign rfl) ?_
              refine d_d ?_
              refine k_then_n ?_
              refine c_ret ?_
              have hr : takeK B.xs = (mkK (nsV v3.L), (8 + (numW (B.xs.drop 4)))) := tk_good (by omega) hsm ((bt_ok hT4 (by omega)).1.trans (by rw [good_yes v3 (fun y hy => hx2 y hy), if_pos rfl, pv_ns]))
              rw [hr]
              exact t_rt [] rfl (.cell rfl pk_ (fun w h => ld_agg (by exact ag_79) h) (.tmp rfl .nil)) rfl ⟨rfl, rfl, rfl⟩ (by (repeat refine Ent.skip ?_); exact Ent.refl _)
      · skip
        refine o_step rfl (s_s rfl wn (s_buildSlice (cs := ([(dropS (takeS B (8 + (numW (B.xs.drop 4)))) 4)] : List (SL UInt8)).flatMap encSL) Tryz.underlying54 eo_38 rfl rfl rfl rfl (by decide) (by decide)) ?_)
        rintro _ _ ⟨b40, rfl, rfl⟩
        refine d_c ?_
        refine d_1 1 ?_
        refine o_step rfl (s_fnq rfl wn Tryz.func85 rfl (by kernel_rfl) rfl (fun ρ' hL => number_spec B ρ' (Ro.mono hL.1 hB) (by omega)) ?_)
        refine d_c ?_
        refine d_t 2 rfl wn (q_as (v := .int .u32 ((beW (B.xs.getD 0 default) (B.xs.getD 1 default) (B.xs.getD 2 default) (B.xs.getD 3 default)).toNat : Int)) (q_conv rfl Tryz.underlying3 Tryz.underlying98 (wrap_u32 (by omega) (by have h9 := numW_lt B.xs; omega))) (inte rfl)) ?_
        refine d_1 7 ?_
        refine o_step rfl (s_fnq rfl wn Tryz.func87 rfl (by kernel_rfl) rfl (fun ρ' hL => Go.Sm.fits_spec (beW (B.xs.getD 0 default) (B.xs.getD 1 default) (B.xs.getD 2 default) (B.xs.getD 3 default)) (some ⟨b40, 0, none⟩) 1 1 [(dropS (takeS B (8 + (numW (B.xs.drop 4)))) 4)] rfl ρ' (hL.row pk_) (by intro s hs; rw [List.mem_singleton.1 hs]; exact ro_cut (Ro.mono hL.1 hB) (by omega) (by omega))) ?_)
        refine d_c ?_
        refine d_t 8 rfl wn (q_not rfl) ?_
        refine d_t 9 rfl wn (q_move rfl) ?_
        refine t_split (d := 43) rfl (fun g5_9 => ?_) (fun g5_9 => ?_)
        · try simp only [decide_eq_true_eq, decide_eq_false_iff_not, Bool.not_eq_true', Bool.not_eq_false', Bool.not_eq_true, Bool.not_eq_false, ne_eq, Decidable.not_not] at g5_9
          refine d_s 10 rfl (wno rfl rfl (by decide)) ?_
          refine d_s 11 rfl (wno rfl rfl (by decide)) ?_
          refine d_t 12 rfl wn (q_pick rfl rfl rfl) ?_
          refine d_d ?_
          refine k_then_n ?_
          refine c_yes rfl ?_
          refine sr ?_
          refine e_q (q_build (cs := encKept1 (⟨zFence1, 0, 0, 0, 0⟩ : Kept1)) zc_79 pl_79 rfl rfl) ?_
          refine l_step (s_s0 wn (s_storep (ws := encKept1 (⟨zFence1, 0, 0, 0, 0⟩ : Kept1)) (cs := encKept1 zKept1) (cs' := encKept1 (⟨zFence1, 0, 0, 0, 0⟩ : Kept1)) rfl rfl rfl sz_79 (oneKept1 _) (by simp [encKept1, encKept1]) rfl pk_) ?_)
          rintro _ _ ⟨rfl, rfl⟩
          refine e_as rfl ?_
          refine l_n ?_
          refine c_ret ?_
          refine k_then_r ?_
          have hr : takeK B.xs = (zKept1, 0) := tk_sum (fun h9 => by have h8 : Go.Sm.sumB (Go.Sm.catB [(dropS (takeS B (8 + (numW (B.xs.drop 4)))) 4)]) = (beW (B.xs.getD 0 default) (B.xs.getD 1 default) (B.xs.getD 2 default) (B.xs.getD 3 default)) := (congrArg Go.Sm.sumB (Go.Sm.catB_one _)).trans h9; simp [h8] at g5_9)
          rw [hr]
          exact t_rt [] rfl (.cell rfl pk_ (fun w h => ld_agg (by exact ag_79) h) (.tmp rfl .nil)) rfl ⟨rfl, rfl, rfl⟩ (by (repeat refine Ent.skip ?_); exact Ent.refl _)
        · try simp only [decide_eq_true_eq, decide_eq_false_iff_not, Bool.not_eq_true', Bool.not_eq_false', Bool.not_eq_true, Bool.not_eq_false, ne_eq, Decidable.not_not] at g5_9
          refine d_t 10 rfl (wy rfl rfl rfl) (q_move rfl) ?_
          refine d_t 11 rfl (wy rfl rfl rfl) (q_neq rfl rfl) ?_
          refine d_t 12 rfl wn (q_pick rfl rfl rfl) ?_
          refine d_d ?_
          refine k_then_n ?_
          refine c_cond rfl (fun h1 => ?_) (fun h1 => ?_)
          · try simp only [decide_eq_true_eq, decide_eq_false_iff_not, ne_eq, Decidable.not_not] at h1
            refine sr ?_
            refine e_q (q_build (cs := encKept1 (⟨zFence1, 0, 0, 0, 0⟩ : Kept1)) zc_79 pl_79 rfl rfl) ?_
            refine l_step (s_s0 wn (s_storep (ws := encKept1 (⟨zFence1, 0, 0, 0, 0⟩ : Kept1)) (cs := encKept1 zKept1) (cs' := encKept1 (⟨zFence1, 0, 0, 0, 0⟩ : Kept1)) rfl rfl rfl sz_79 (oneKept1 _) (by simp [encKept1, encKept1]) rfl pk_) ?_)
            rintro _ _ ⟨rfl, rfl⟩
            refine e_as rfl ?_
            refine l_n ?_
            refine c_ret ?_
            refine k_then_r ?_
            have hr : takeK B.xs = (zKept1, 0) := tk_bad (bt_err hT4 (by omega))
            rw [hr]
            exact t_rt [] rfl (.cell rfl pk_ (fun w h => ld_agg (by exact ag_79) h) (.tmp rfl .nil)) rfl ⟨rfl, rfl, rfl⟩ (by (repeat refine Ent.skip ?_); exact Ent.refl _)
          · try simp only [decide_eq_true_eq, decide_eq_false_iff_not, ne_eq, Decidable.not_not] at h1
            have hsm : Go.Sm.sumB ((B.xs.take (8 + (numW (B.xs.drop 4)))).drop 4) = (beW (B.xs.getD 0 default) (B.xs.getD 1 default) (B.xs.getD 2 default) (B.xs.getD 3 default)) := by have h9 : Go.Sm.sumB (Go.Sm.catB [(dropS (takeS B (8 + (numW (B.xs.drop 4)))) 4)]) = (beW (B.xs.getD 0 default) (B.xs.getD 1 default) (B.xs.getD 2 default) (B.xs.getD 3 default)) := (by simpa using g5_9); rw [Go.Sm.catB_one] at h9; exact h9
            have hl6 : v3.L.length = 6 := by have h9 := (bt_ok hT4 (by omega)).2; rwa [pv_L, List.length_map] at h9
            refine c_skip ?_
            refine k_then_n ?_
            refine sr ?_
            refine Tr.ent (v_open (tu := 5) (tv := 97) (v := v3) pk_) ?_
            refine e_as rfl ?_
            refine l_n ?_
            refine c_seq ?_
            refine sr ?_
            refine e_q (q_fieldp rfl fo_97_2) ?_
            refine e_q (q_loadp (v := .slice v3.a v3.L.length v3.cap) sc_95 rfl pk_ rfl) ?_
            refine e_q (q_len Tryz.underlying95 rfl) ?_
            refine e_mv rfl ?_
            refine l_n ?_
            refine c_block ?_
            refine Tr.ent (Ent.nilrow 3 1 _) ?_
            refine Tr.env (σ' := [(2, _), (4, _), (7, _), (49, _), (50, _), (51, _)]) ev_ ?_
            refine t_loop (ι := Lp (Nat)) (fun x => x.d ≤ v3.L.length ∧ ∀ y ∈ v3.L.take x.d, y.N < top62) (fun x => v3.L.length - x.d) (fun x => [(2, .pointer (some ⟨b2, 0, none⟩)), (4, .int .i64 (8 + ((numW (B.xs.drop 4)) : Int))), (7, .slice x.a1 ((nsV (v3.L.take x.d)).length) x.c1), (49, .slice v3.a v3.L.length v3.cap), (50, .int .i64 (v3.L.length : Int)), (51, .int .i64 (x.d : Int))]) (fun x => .row 3 1 x.a1 ((nsV (v3.L.take x.d)).length) x.c1 ((nsV (v3.L.take x.d)).flatMap encI) :: .row 5 1 v3.B.a v3.B.xs.length v3.B.cap (v3.B.xs.flatMap encB) :: .row 97 3 v3.a v3.L.length v3.cap ((v3.L.map VT.val).flatMap encVal1) :: Bun (v3.L.map (VA 5 97)) :: .row 38 1 (some ⟨b40, 0, none⟩) 1 1 ([(dropS (takeS B (8 + (numW (B.xs.drop 4)))) 4)].flatMap encSL) :: .pts b5 (encVal1 (⟨v3.N, v3.B, ⟨v3.a, v3.L.length, v3.cap⟩⟩ : Val1)) 97 :: .pts b2 (encKept1 zKept1) 79 :: Δ) (⟨0, none, 0, none, 0, none, 0⟩ : Lp _) ⟨Nat.zero_le _, by simp⟩ ?_ ?_ ?_
            · exact .c (.c (.c (.c (.c (.c (.nil _))))))
            · exact en_
            intro x hx
            obtain ⟨hx1, hx2⟩ := hx
            have hnl9 : (nsV (v3.L.take x.d)).length = x.d := by unfold nsV; rw [List.length_map, List.length_take]; omega
            refine sr ?_
            refine e_q (q_lss rfl rfl) ?_
            refine l_n ?_
            refine c_seq ?_
            refine c_cond rfl (fun h2 => ?_) (fun h2 => ?_)
            · try simp only [decide_eq_true_eq, decide_eq_false_iff_not] at h2
              refine c_skip ?_
              refine k_then_n ?_
              refine c_seq ?_
              refine c_block ?_
              refine sr ?_
              refine e_q (q_indexe x.d Tryz.underlying95 sz_97 rfl rfl (rd_row pk_) (by decide) rfl (by first | omega | (rw [List.length_map]; omega))) ?_
              refine e_q (q_loadea (vs := encVal1 ((v3.L.map VT.val).getD x.d default)) (enc := encVal1) (xs := (v3.L.map VT.val)) (j := x.d) (off := 0) ag_97 rfl (rd_row pk_) (fun _ => rfl) (by first | omega | (rw [List.length_map]; omega)) (by simp [encVal1]) (by simp [encVal1]) rfl) ?_
              refine e_s (s_allocz (cs := encVal1 zVal1) (by kernel_rfl)) ?_
              rintro _ _ ⟨b9, rfl, rfl⟩
              refine l_step (s_s0 wn (s_storep (ws := encVal1 ((v3.L.map VT.val).getD x.d default)) (cs := encVal1 zVal1) (cs' := encVal1 ((v3.L.map VT.val).getD x.d default)) rfl rfl rfl sz_97 (oneVal1 _) (by simp [encVal1, encVal1]) rfl pk_) ?_)
              rintro _ _ ⟨rfl, rfl⟩
              refine l_n ?_
              refine c_seq ?_
              refine sr ?_
              refine e_q (q_fieldp rfl fo_97_0) ?_
              refine e_q (q_loadp (v := .int .u64 ((((v3.L.map VT.val).getD x.d default).N) : Int)) sc_46 rfl pk_ rfl) ?_
              refine e_q (q_geq rfl rfl) ?_
              refine l_n ?_
              refine c_cond rfl (fun h3 => ?_) (fun h3 => ?_)
              · try simp only [decide_eq_true_eq, decide_eq_false_iff_not] at h3
                refine sr ?_
                refine e_q (q_build (cs := encKept1 (⟨zFence1, 0, 0, 0, 0⟩ : Kept1)) zc_79 pl_79 rfl rfl) ?_
                refine l_step (s_s0 wn (s_storep (ws := encKept1 (⟨zFence1, 0, 0, 0, 0⟩ : Kept1)) (cs := encKept1 zKept1) (cs' := encKept1 (⟨zFence1, 0, 0, 0, 0⟩ : Kept1)) rfl rfl rfl sz_79 (oneKept1 _) (by simp [encKept1, encKept1]) rfl pk_) ?_)
                rintro _ _ ⟨rfl, rfl⟩
                refine e_as rfl ?_
                refine l_n ?_
                refine c_ret ?_
                refine k_then_r ?_
                refine k_blk_r ?_
                refine k_then_r ?_
                refine k_then_r ?_
                refine k_blk_r ?_
                refine k_then_r ?_
                have hr : takeK B.xs = (zKept1, 0) := tk_bad ((bt_ok hT4 (by omega)).1.trans (by rw [good_no (L := v3.L) (j := x.d) (by omega) (by rw [← val_N (by omega)]; show 4611686018427387904 ≤ _; omega) v3 rfl]; rfl))
                rw [hr]
                exact t_rt [] rfl (.cell rfl pk_ (fun w h => ld_agg (by exact ag_79) h) (.tmp rfl .nil)) rfl ⟨rfl, rfl, rfl⟩ (by (repeat refine Ent.skip ?_); exact Ent.refl _)
              · try simp only [decide_eq_true_eq, decide_eq_false_iff_not] at h3
                refine c_skip ?_
                refine k_then_n ?_
                refine c_region ?_
                refine e_mv rfl ?_
                refine e_q (q_fieldp rfl fo_97_0) ?_
                refine e_q (q_loadp (v := .int .u64 ((((v3.L.map VT.val).getD x.d default).N) : Int)) sc_46 rfl pk_ rfl) ?_
                refine e_q (q_conv rfl Tryz.underlying46 Tryz.underlying3 (by first | assumption | exact wrap_i64 (by omega) (by omega))) ?_
                refine e_s (s_buildSlice (cs := ([((((v3.L.map VT.val).getD x.d default).N) : Int)] : List Int).flatMap encI) Tryz.underlying37 eo_3 rfl rfl rfl rfl (by decide) (by decide)) ?_
                rintro _ _ ⟨b63, rfl, rfl⟩
                refine e_s (s_appendn (enc := encI) (xs := ((nsV (v3.L.take x.d)) : List Int)) (ys := ([((((v3.L.map VT.val).getD x.d default).N) : Int)] : List Int)) (Γ' := fun a' cap' => _) Tryz.underlying37 eo_3 (by decide) rfl rfl (rd_row pk_) (oneI _) (by first | omega | (simp only [List.length_append, List.length_cons, List.length_nil] at *; omega)) (by first | omega | (simp only [List.length_append, List.length_cons, List.length_nil] at *; omega)) (fun _ _ => pk_)) ?_
                rintro _ _ ⟨a64, c64, rfl, rfl⟩
                refine e_as rfl ?_
                refine l_nil ?_
                refine k_blk_n ?_
                refine k_then_n ?_
                refine c_region ?_
                refine e_q (q_add rfl rfl (by omega) (by omega)) ?_
                refine e_mv rfl ?_
                refine l_n ?_
                have hnx := nsV_next (L := v3.L) (j := x.d) (by omega)
                have hvn := val_N (L := v3.L) (j := x.d) (by omega)
                rw [hvn, ← hnx, show (nsV (v3.L.take x.d)).length + 1 = (nsV (v3.L.take (x.d + 1))).length from by rw [hnx, List.length_append]; rfl]
                exact t_nx (⟨x.d + 1, a64, c64, none, 0, none, 0⟩ : Lp _) ⟨⟨by show x.d + 1 ≤ _; omega, fun y hy => by rw [take_succ_getD _ _ (by omega), List.mem_append, List.mem_singleton] at hy; rcases hy with hy | rfl; exact hx2 y hy; show _ < 4611686018427387904; omega⟩, by show _ - (x.d + 1) < _; omega⟩ (.c (.c (.c (.c (.c (.c (.nil _)))))))
            · try simp only [decide_eq_true_eq, decide_eq_false_iff_not] at h2
              have hk : x.d = v3.L.length := by omega
              rw [hk, List.take_length] at hx2
              have hnl6 : (nsV v3.L).length = 6 := by unfold nsV; rw [List.length_map]; exact hl6
              rw [hk, List.take_length]
              refine c_exit ?_
              refine k_then_x ?_
              refine k_then_x ?_
              refine k_blk_x ?_
              refine k_then_n ?_
              refine c_seq ?_
              refine d_r 23 [.row 3 1 x.a1 ((nsV v3.L).length) x.c1 ((nsV v3.L).flatMap encI), .row 5 1 v3.B.a v3.B.xs.length v3.B.cap (v3.B.xs.flatMap encB), .row 97 3 v3.a v3.L.length v3.cap ((v3.L.map VT.val).flatMap encVal1), Bun (v3.L.map (VA 5 97)), .row 38 1 (some ⟨b40, 0, none⟩) 1 1 ([(dropS (takeS B (8 + (numW (B.xs.drop 4)))) 4)].flatMap encSL), .pts b5 (encVal1 (⟨v3.N, v3.B, ⟨v3.a, v3.L.length, v3.cap⟩⟩ : Val1)) 97] ?_
              refine d_t 0 rfl wn (q_move rfl) ?_
              refine d_t 1 rfl wn (q_indexe 0 Tryz.underlying37 sz_3 rfl rfl (rd_row pk_) (by decide) rfl (by first | omega | (rw [List.length_map]; omega))) ?_
              refine d_t 2 rfl wn (q_loade (enc := encI) (xs := (nsV v3.L)) (j := 0) (off := 0) sc_3 rfl (rd_row pk_) (fun _ => rfl) (by first | omega | (rw [List.length_map]; omega)) (by decide) rfl) ?_
              refine d_t 3 rfl wn (q_move rfl) ?_
              refine d_t 4 rfl wn (q_indexe 1 Tryz.underlying37 sz_3 rfl rfl (rd_row pk_) (by decide) rfl (by first | omega | (rw [List.length_map]; omega))) ?_
              refine d_t 5 rfl wn (q_loade (enc := encI) (xs := (nsV v3.L)) (j := 1) (off := 0) sc_3 rfl (rd_row pk_) (fun _ => rfl) (by first | omega | (rw [List.length_map]; omega)) (by decide) rfl) ?_
              refine d_t 6 rfl wn (q_build (cs := encFence1 (⟨((nsV v3.L).getD 0 default), ((nsV v3.L).getD 1 default)⟩ : Fence1)) zc_77 pl_77 rfl rfl) ?_
              refine d_t 7 rfl wn (q_move rfl) ?_
              refine d_t 8 rfl wn (q_indexe 2 Tryz.underlying37 sz_3 rfl rfl (rd_row pk_) (by decide) rfl (by first | omega | (rw [List.length_map]; omega))) ?_
              refine d_t 9 rfl wn (q_loade (enc := encI) (xs := (nsV v3.L)) (j := 2) (off := 0) sc_3 rfl (rd_row pk_) (fun _ => rfl) (by first | omega | (rw [List.length_map]; omega)) (by decide) rfl) ?_
              refine d_t 10 rfl wn (q_move rfl) ?_
              refine d_t 11 rfl wn (q_indexe 3 Tryz.underlying37 sz_3 rfl rfl (rd_row pk_) (by decide) rfl (by first | omega | (rw [List.length_map]; omega))) ?_
              refine d_t 12 rfl wn (q_loade (enc := encI) (xs := (nsV v3.L)) (j := 3) (off := 0) sc_3 rfl (rd_row pk_) (fun _ => rfl) (by first | omega | (rw [List.length_map]; omega)) (by decide) rfl) ?_
              refine d_t 13 rfl wn (q_move rfl) ?_
              refine d_t 14 rfl wn (q_indexe 4 Tryz.underlying37 sz_3 rfl rfl (rd_row pk_) (by decide) rfl (by first | omega | (rw [List.length_map]; omega))) ?_
              refine d_t 15 rfl wn (q_loade (enc := encI) (xs := (nsV v3.L)) (j := 4) (off := 0) sc_3 rfl (rd_row pk_) (fun _ => rfl) (by first | omega | (rw [List.length_map]; omega)) (by decide) rfl) ?_
              refine d_t 16 rfl wn (q_move rfl) ?_
              refine d_t 17 rfl wn (q_indexe 5 Tryz.underlying37 sz_3 rfl rfl (rd_row pk_) (by decide) rfl (by first | omega | (rw [List.length_map]; omega))) ?_
              refine d_t 18 rfl wn (q_loade (enc := encI) (xs := (nsV v3.L)) (j := 5) (off := 0) sc_3 rfl (rd_row pk_) (fun _ => rfl) (by first | omega | (rw [List.length_map]; omega)) (by decide) rfl) ?_
              refine d_t 19 rfl wn (q_build (cs := encKept1 (⟨(⟨((nsV v3.L).getD 0 default), ((nsV v3.L).getD 1 default)⟩ : Fence1), ((nsV v3.L).getD 2 default), ((nsV v3.L).getD 3 default), ((nsV v3.L).getD 4 default), ((nsV v3.L).getD 5 default)⟩ : Kept1)) zc_79 pl_79 rfl rfl) ?_
              refine d_t 20 rfl wn (q_move rfl) ?_
              refine d_1 21 ?_
              refine o_step rfl (s_s0 wn (s_storep (ws := encKept1 (⟨(⟨((nsV v3.L).getD 0 default), ((nsV v3.L).getD 1 default)⟩ : Fence1), ((nsV v3.L).getD 2 default), ((nsV v3.L).getD 3 default), ((nsV v3.L).getD 4 default), ((nsV v3.L).getD 5 default)⟩ : Kept1)) (cs := encKept1 zKept1) (cs' := encKept1 (⟨(⟨((nsV v3.L).getD 0 default), ((nsV v3.L).getD 1 default)⟩ : Fence1), ((nsV v3.L).getD 2 default), ((nsV v3.L).getD 3 default), ((nsV v3.L).getD 4 default), ((nsV v3.L).getD 5 default)⟩ : Kept1)) rfl rfl rfl sz_79 (oneKept1 _) (by simp [encKept1, encKept1]) rfl pk_) ?_)
              rintro _ _ ⟨rfl, rfl⟩
              refine d_c ?_
              refine d_t 22 rfl wn (q_assign rfl) ?_
              refine d_d ?_
              refine k_then_n ?_
              refine c_ret ?_
              have hr : takeK B.xs = (mkK (nsV v3.L), (8 + (numW (B.xs.drop 4)))) := tk_good (by omega) hsm ((bt_ok hT4 (by omega)).1.trans (by rw [good_yes v3 (fun y hy => hx2 y hy), if_pos rfl, pv_ns]))
              rw [hr]
              exact t_rt [] rfl (.cell rfl pk_ (fun w h => ld_agg (by exact ag_79) h) (.tmp rfl .nil)) rfl ⟨rfl, rfl, rfl⟩ (by (repeat refine Ent.skip ?_); exact Ent.refl _)
end Go.Agn

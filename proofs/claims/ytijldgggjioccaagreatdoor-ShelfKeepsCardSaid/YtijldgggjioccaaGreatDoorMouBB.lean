/-
  Several texts, put together.
-/
import Derived.Test.YtijldgggjioccaaGreatDoorMouAA
import Derived.Test.YtijldgggjioccaaGreatDoorProg
import Derived.Test.YtijldgggjioccaaGreatDoorMouPP
/-
  Package mould, walked.
-/
set_option maxRecDepth 100000
set_option maxHeartbeats 4000000
set_option linter.unusedSimpArgs false
set_option linter.unusedVariables false
namespace Go.Mou
open Go Go.SL Go.Proofs Go.Mou
attribute [local irreducible] Go.SL.Ent
theorem fo_131_0 : fieldOff Tryz.prog 131 0 = some (0, 128) := by kernel_rfl
theorem sc_128 : isScalar Tryz.prog 128 = true := by kernel_rfl
theorem fo_131_1 : fieldOff Tryz.prog 131 1 = some (1, 22) := by kernel_rfl
theorem sc_22 : isScalar Tryz.prog 22 = true := by kernel_rfl

def PutOk (k : KT) : Prop := ∀ (v : VT) (b_a : Option Addr) (b_c : Nat) (b : List UInt8) (ρ : Hp), KOk k → fits k.s v.pv → v.ro ρ → b.length + (form k.s v.pv).length ≤ 1000000000000 → Spec0 Tryz.prog 147 #[.pointer (some ⟨k.blk, 0, none⟩), .slice b_a b.length b_c, .agg (encVal1 (⟨v.N, v.B, ⟨v.a, v.L.length, v.cap⟩⟩ : Val1)).toArray] ρ [.row 5 1 b_a b.length b_c (b.flatMap encB), KA 268 209 k] (fun w Γ' => ∃ a c, w = .slice a (b ++ form k.s v.pv).length c ∧ Γ' = [.row 5 1 a (b ++ form k.s v.pv).length c ((b ++ form k.s v.pv).flatMap encB), KA 268 209 k])

theorem put__spec (k : KT) (b_a : Option Addr) (b_c : Nat) (b : List UInt8) (v : VT) (ρ : Hp) (ih : ∀ t : KT, t.s.wt < k.s.wt → PutOk t) (hk : KOk k) (hf : fits k.s v.pv) (hv : v.ro ρ) (hb : b.length + (form k.s v.pv).length ≤ 1000000000000) : Spec0 Tryz.prog 147 #[.pointer (some ⟨k.blk, 0, none⟩), .slice b_a b.length b_c, .agg (encVal1 (⟨v.N, v.B, ⟨v.a, v.L.length, v.cap⟩⟩ : Val1)).toArray] ρ [.row 5 1 b_a b.length b_c (b.flatMap encB), KA 268 209 k] (fun w Γ' => ∃ a c, w = .slice a (b ++ form k.s v.pv).length c ∧ Γ' = [.row 5 1 a (b ++ form k.s v.pv).length c ((b ++ form k.s v.pv).flatMap encB), KA 268 209 k]) := by
  refine spec_of (n := 78) (vs := [_, _, _]) (σ := [(0, _), (1, _), (2, _)]) Tryz.func147 rfl rfl rfl rfl fun E Δ => ?_
  simp only [List.cons_append, List.nil_append]
  refine Tr.ent (k_open (tk := 268) (tp := 209) (k := k) pk_) ?_
  have hrL := VT.ro_L hv
  have hvb : v.L.length ≤ 9223372036854775807 := Nat.le_trans hrL.2.1 hrL.2.2.1
  have hrB := VT.ro_B hv
  have hvB : v.B.xs.length ≤ 9223372036854775807 := Nat.le_trans hrB.2.1 hrB.2.2.1
  refine sr ?_
  refine e_s (s_box (cs := encVal1 (⟨v.N, v.B, ⟨v.a, v.L.length, v.cap⟩⟩ : Val1)) rfl rfl) ?_
  rintro _ _ ⟨b5, rfl, rfl⟩
  refine e_as rfl ?_
  refine l_n ?_
  refine c_seq ?_
  refine sr ?_
  refine e_mv rfl ?_
  refine e_q (q_nilCheck rfl) ?_
  refine e_q (q_fieldp rfl fo_268_0) ?_
  refine e_q (q_loadp (v := .int .u8 ((wh k.s).toNat : Int)) sc_5 rfl pk_ rfl) ?_
  refine l_n ?_
  refine c_block ?_
  refine sr ?_
  refine e_q (q_eql rfl rfl) ?_
  refine e_as rfl ?_
  refine l_n ?_
  refine c_cond rfl (fun h0 => ?_) (fun h0 => ?_)
  · try simp only [decide_eq_true_eq, decide_eq_false_iff_not] at h0
    have hs2 : k.s = .n := wh_n (by omega)
    have hnn : v.N < 18446744073709551616 := by have h9 := hf; rw [hs2] at h9; rw [← pv_N]; exact h9
    refine sr ?_
    refine e_mv rfl ?_
    refine e_q (q_fieldp rfl fo_131_0) ?_
    refine e_q (q_loadp (v := .int .u64 (v.N : Int)) sc_128 rfl pk_ rfl) ?_
    refine e_fn Tryz.func194 rfl sl_ (fun ρ' hL => number_spec b_a b_c b v.N ρ' hnn (by omega)) ?_
    rintro _ _ ⟨a20, c20, rfl, rfl⟩
    try simp only [List.cons_append, List.nil_append]
    refine e_as rfl ?_
    refine l_n ?_
    refine c_ret ?_
    refine k_blk_r ?_
    refine k_then_r ?_
    refine Tr.ent (Ent.trans (Ent.pick (A := .pts k.blk (encKind1 (⟨(wh k.s), ⟨k.a, k.kids.length, k.cap⟩⟩ : Kind1)) 268) pk_ (Ent.pick (A := .row 209 1 k.a k.kids.length k.cap ((k.kids.map KT.pt).flatMap encPt)) pk_ (Ent.pick (A := Bun (k.kids.map (KA 268 209))) pk_ (Ent.refl _)))) (k_same (tk := 268) (tp := 209) (k := k))) ?_
    have hfm : form k.s v.pv = numF v.N := by rw [hs2]; show numF v.pv.N = _; rw [pv_N]
    rw [← hfm]
    exact t_rt [.row 5 1 a20 (b ++ form k.s v.pv).length c20 ((b ++ form k.s v.pv).flatMap encB), KA 268 209 k] rfl (.tmp rfl .nil) rfl ⟨rfl, _, _, rfl, rfl⟩
  · try simp only [decide_eq_true_eq, decide_eq_false_iff_not] at h0
    refine sr ?_
    refine e_q (q_eql rfl rfl) ?_
    refine e_as rfl ?_
    refine l_n ?_
    refine c_cond rfl (fun h1 => ?_) (fun h1 => ?_)
    · try simp only [decide_eq_true_eq, decide_eq_false_iff_not] at h1
      have hs2 : k.s = .b := wh_b (by omega)
      have hfm : form k.s v.pv = numF v.B.xs.length ++ v.B.xs := by rw [hs2]; show numF v.pv.B.length ++ v.pv.B = _; rw [pv_B]
      have hfl := congrArg List.length hfm
      rw [List.length_append] at hfl
      refine c_seq ?_
      refine d_r 10 [.pts b5 (encVal1 (⟨v.N, v.B, ⟨v.a, v.L.length, v.cap⟩⟩ : Val1)) 131, .pts k.blk (encKind1 (⟨(wh k.s), ⟨k.a, k.kids.length, k.cap⟩⟩ : Kind1)) 268, .row 209 1 k.a k.kids.length k.cap ((k.kids.map KT.pt).flatMap encPt), Bun (k.kids.map (KA 268 209))] ?_
      refine d_t 0 rfl wn (q_move rfl) ?_
      refine d_t 1 rfl wn (q_fieldp rfl fo_131_1) ?_
      refine d_t 2 rfl wn (q_loadp (v := .slice v.B.a v.B.xs.length v.B.cap) sc_22 rfl pk_ rfl) ?_
      refine d_t 3 rfl wn (q_len Tryz.underlying22 rfl) ?_
      refine d_t 4 rfl wn (q_conv rfl Tryz.underlying3 Tryz.underlying128 (by first | assumption | exact wrap_u64 (by omega) (by omega))) ?_
      refine d_t 6 rfl wn (q_fieldp rfl fo_131_1) ?_
      refine d_t 7 rfl wn (q_loadp (v := .slice v.B.a v.B.xs.length v.B.cap) sc_22 rfl pk_ rfl) ?_
      refine d_1 5 ?_
      refine o_step rfl (s_fnb rfl wn Tryz.func194 rfl (by kernel_rfl) rfl sl_ (fun ρ' hL => number_spec b_a b_c b v.B.xs.length ρ' (by omega) (by omega)) ?_)
      rintro _ _ ⟨a28, c28, rfl, rfl⟩
      try simp only [List.cons_append, List.nil_append]
      refine d_c ?_
      refine d_1 8 ?_
      refine o_step rfl (s_s rfl wn (s_appendn (enc := encB) (xs := ((b ++ numF v.B.xs.length) : List UInt8)) (ys := (v.B.xs : List UInt8)) (Γ' := fun a' cap' => _) Tryz.underlying22 eo_5 (by decide) rfl rfl (rd_ro hrB) (oneB _) (by simp only [List.length_append]; omega) (by simp only [List.length_append]; omega) (fun _ _ => pk_)) ?_)
      rintro _ _ ⟨a31, c31, rfl, rfl⟩
      refine d_c ?_
      refine d_t 9 rfl wn (q_assign rfl) ?_
      refine d_d ?_
      refine k_then_n ?_
      refine c_ret ?_
      refine k_blk_r ?_
      refine k_then_r ?_
      refine Tr.ent (Ent.trans (Ent.pick (A := .pts k.blk (encKind1 (⟨(wh k.s), ⟨k.a, k.kids.length, k.cap⟩⟩ : Kind1)) 268) pk_ (Ent.pick (A := .row 209 1 k.a k.kids.length k.cap ((k.kids.map KT.pt).flatMap encPt)) pk_ (Ent.pick (A := Bun (k.kids.map (KA 268 209))) pk_ (Ent.refl _)))) (k_same (tk := 268) (tp := 209) (k := k))) ?_
      rw [show (b ++ numF v.B.xs.length).length + v.B.xs.length = (b ++ form k.s v.pv).length from by rw [hfm]; simp only [List.length_append]; omega, show (b ++ numF v.B.xs.length) ++ v.B.xs = b ++ form k.s v.pv from by rw [hfm, List.append_assoc]]
      exact t_rt [.row 5 1 a31 (b ++ form k.s v.pv).length c31 ((b ++ form k.s v.pv).flatMap encB), KA 268 209 k] rfl (.tmp rfl .nil) rfl ⟨rfl, _, _, rfl, rfl⟩
    · try simp only [decide_eq_true_eq, decide_eq_false_iff_not] at h1
      refine sr ?_
      refine e_q (q_eql rfl rfl) ?_
      refine e_as rfl ?_
      refine l_n ?_
      refine c_cond rfl (fun h2 => ?_) (fun h2 => ?_)
      · try simp only [decide_eq_true_eq, decide_eq_false_iff_not] at h2
        obtain ⟨s2, hs2⟩ := wh_star (s := k.s) (by omega)
        have hk0 : 0 < k.kids.length := by rw [hk.len, hs2]; exact Nat.one_pos
        have hk0s : (k.kids.getD 0 default).s = s2 := by rw [(hk.at_ hk0).2, hs2]; rfl
        have hf1 : ∀ i, i < v.L.length → fits (k.kids.getD 0 default).s (v.L.getD i default).pv := fun i hi => by rw [hk0s]; exact fits_kids (s := s2) (by rw [← hs2]; exact hf) hi
        have hfm : form k.s v.pv = numF v.L.length ++ starB s2 v.L := by rw [hs2]; exact form_star s2 v
        have hfl := congrArg List.length hfm
        rw [List.length_append] at hfl
        have hac := accP_star s2 v.L (b ++ numF v.L.length)
        have hal := congrArg List.length hac
        rw [List.length_append, List.length_append] at hal
        have hw9 : (k.kids.getD 0 default).s.wt < k.s.wt := wt_kid hk (getD_in hk0)
        have hko := (hk.at_ hk0).1
        refine Tr.ent (kid_out (tk := 268) (tp := 209) (l := k.kids) (i := 0) hk0 pk_) ?_
        refine sr ?_
        refine e_mv rfl ?_
        refine e_q (q_fieldp rfl fo_131_2) ?_
        refine e_q (q_loadp (v := .slice v.a v.L.length v.cap) sc_129 rfl pk_ rfl) ?_
        refine e_q (q_len Tryz.underlying129 rfl) ?_
        refine e_q (q_conv rfl Tryz.underlying3 Tryz.underlying128 (by first | assumption | exact wrap_u64 (by omega) (by omega))) ?_
        refine e_fn Tryz.func194 rfl sl_ (fun ρ' hL => number_spec b_a b_c b v.L.length ρ' (by omega) (by omega)) ?_
        rintro _ _ ⟨a39, c39, rfl, rfl⟩
        try simp only [List.cons_append, List.nil_append]
        refine e_as rfl ?_
        refine l_n ?_
        refine c_seq ?_
        refine sr ?_
        refine e_q (q_fieldp rfl fo_131_2) ?_
        refine e_q (q_loadp (v := .slice v.a v.L.length v.cap) sc_129 rfl pk_ rfl) ?_
        refine e_q (q_len Tryz.underlying129 rfl) ?_
        refine e_mv rfl ?_
        refine l_n ?_
        refine c_block ?_
        refine Tr.env (σ' := [(0, _), (1, _), (5, _), (6, _), (41, _), (42, _), (43, _)]) ev_ ?_
        refine t_loop (ι := Lp (Nat)) (fun x => x.d ≤ v.L.length) (fun x => v.L.length - x.d) (fun x => [(0, .pointer (some ⟨k.blk, 0, none⟩)), (1, .slice x.a1 ((accP (fun i => form s2 (v.L.getD i default).pv) (b ++ numF v.L.length) x.d).length) x.c1), (5, .pointer (some ⟨b5, 0, none⟩)), (6, .slice none 0 0), (41, .slice v.a v.L.length v.cap), (42, .int .i64 (v.L.length : Int)), (43, .int .i64 (x.d : Int))]) (fun x => KA 268 209 (k.kids.getD 0 default) :: Bun ((k.kids.map (KA 268 209)).eraseIdx 0) :: .pts b5 (encVal1 (⟨v.N, v.B, ⟨v.a, v.L.length, v.cap⟩⟩ : Val1)) 131 :: .pts k.blk (encKind1 (⟨(wh k.s), ⟨k.a, k.kids.length, k.cap⟩⟩ : Kind1)) 268 :: .row 209 1 k.a k.kids.length k.cap ((k.kids.map KT.pt).flatMap encPt) :: .row 5 1 x.a1 ((accP (fun i => form s2 (v.L.getD i default).pv) (b ++ numF v.L.length) x.d).length) x.c1 ((accP (fun i => form s2 (v.L.getD i default).pv) (b ++ numF v.L.length) x.d).flatMap encB) :: Δ) (⟨0, a39, c39, none, 0, none, 0⟩ : Lp _) (Nat.zero_le _) ?_ ?_ ?_
        · exact .c (.c (.c (.c (.c (.c (.c (.nil _)))))))
        · exact en_
        intro x hx
        refine sr ?_
        refine e_q (q_lss rfl rfl) ?_
        refine l_n ?_
        refine c_seq ?_
        refine c_cond rfl (fun h3 => ?_) (fun h3 => ?_)
        · try simp only [decide_eq_true_eq, decide_eq_false_iff_not] at h3
          have hsn := accP_at (fun i => form s2 (v.L.getD i default).pv) (b ++ numF v.L.length) (show x.d < v.L.length by omega)
          refine c_skip ?_
          refine k_then_n ?_
          refine c_seq ?_
          refine c_block ?_
          refine sr ?_
          refine e_q (q_indexe x.d Tryz.underlying129 sz_131 rfl rfl (rd_ro hrL) (by decide) rfl (by first | assumption | omega | (simp only [List.length_cons, List.length_nil]; omega))) ?_
          refine e_q (q_as (v := .agg (encVal1 (v.L.getD x.d default).val).toArray) (q_loadea (vs := encVal1 ((v.L.map VT.val).getD x.d default)) (enc := encVal1) (xs := (v.L.map VT.val)) (j := x.d) (off := 0) ag_131 rfl (rd_ro hrL) (fun _ => rfl) (by rw [List.length_map]; omega) (by simp [encVal1]) (by simp [encVal1]) rfl) (by rw [getD_map VT.val (by omega)])) ?_
          refine e_s (s_allocz (cs := encVal1 zVal1) (by kernel_rfl)) ?_
          rintro _ _ ⟨b8, rfl, rfl⟩
          refine l_step (s_s0 wn (s_storep (ws := encVal1 ((v.L.getD x.d default).val)) (cs := encVal1 zVal1) (cs' := encVal1 ((v.L.getD x.d default).val)) rfl rfl rfl sz_131 (oneVal1 _) (by simp [encVal1, encVal1]) rfl pk_) ?_)
          rintro _ _ ⟨rfl, rfl⟩
          refine l_n ?_
          refine d_r 10 [.pts b8 (encVal1 ((v.L.getD x.d default).val)) 131, Bun ((k.kids.map (KA 268 209)).eraseIdx 0), .pts b5 (encVal1 (⟨v.N, v.B, ⟨v.a, v.L.length, v.cap⟩⟩ : Val1)) 131, .pts k.blk (encKind1 (⟨(wh k.s), ⟨k.a, k.kids.length, k.cap⟩⟩ : Kind1)) 268, .row 209 1 k.a k.kids.length k.cap ((k.kids.map KT.pt).flatMap encPt)] ?_
          refine d_t 0 rfl wn (q_move rfl) ?_
          refine d_t 1 rfl wn (q_nilCheck rfl) ?_
          refine d_t 2 rfl wn (q_fieldp rfl fo_268_1) ?_
          refine d_t 3 rfl wn (q_loadp (v := .slice k.a k.kids.length k.cap) sc_266 rfl pk_ rfl) ?_
          refine d_t 4 rfl wn (q_indexe 0 Tryz.underlying266 sz_209 rfl rfl (rd_row pk_) (by decide) rfl hk0) ?_
          refine d_t 5 rfl wn (q_as (v := .pointer (some ⟨(k.kids.getD 0 default).blk, 0, none⟩)) (q_loade (enc := encPt) (xs := (k.kids.map KT.pt)) (j := 0) (off := 0) sc_209 rfl (rd_row pk_) (fun _ => rfl) (by rw [List.length_map]; exact hk0) (by decide) rfl) (by rw [kid_pt hk0]; rfl)) ?_
          refine d_t 6 rfl wn (q_move rfl) ?_
          refine d_t 7 rfl wn (q_loadpa (vs := encVal1 ((v.L.getD x.d default).val)) ag_131 rfl pk_ rfl) ?_
          refine d_1 8 ?_
          refine o_step rfl (s_fnb rfl wn Tryz.func147 rfl (by kernel_rfl) rfl sl_ (fun ρ' hL => ih (k.kids.getD 0 default) hw9 (v.L.getD x.d default) x.a1 x.c1 (accP (fun i => form s2 (v.L.getD i default).pv) (b ++ numF v.L.length) x.d) ρ' hko (hf1 x.d (by omega)) (VT.ro_mono hL.1 _ (VT.ro_kid hv _ (getD_in (by omega)))) (by rw [hk0s]; omega)) ?_)
          rintro _ _ ⟨a55, c55, rfl, rfl⟩
          try simp only [List.cons_append, List.nil_append]
          refine d_c ?_
          refine d_t 9 rfl wn (q_assign rfl) ?_
          refine d_d ?_
          refine k_blk_n ?_
          refine k_then_n ?_
          refine c_region ?_
          refine e_q (q_add rfl rfl (by omega) (by omega)) ?_
          refine e_mv rfl ?_
          refine l_n ?_
          rw [hk0s]
          exact t_nx (⟨x.d + 1, a55, c55, none, 0, none, 0⟩ : Lp _) ⟨by (try simp only []); omega, by (try simp only []); omega⟩ (.c (.c (.c (.c (.c (.c (.c (.nil _))))))))
        · try simp only [decide_eq_true_eq, decide_eq_false_iff_not] at h3
          have hkx : x.d = v.L.length := by omega
          rw [hkx, hac, List.append_assoc]
          refine c_exit ?_
          refine k_then_x ?_
          refine k_then_x ?_
          refine k_blk_x ?_
          refine k_then_n ?_
          refine sr ?_
          refine e_mv rfl ?_
          refine e_as rfl ?_
          refine l_n ?_
          refine c_ret ?_
          refine k_blk_r ?_
          refine k_then_r ?_
          refine Tr.ent (Ent.trans (Ent.pick (A := KA 268 209 (k.kids.getD 0 default)) pk_ (Ent.pick (A := Bun ((k.kids.map (KA 268 209)).eraseIdx 0)) pk_ (Ent.refl _))) (kid_in (tk := 268) (tp := 209) (l := k.kids) (i := 0) hk0)) ?_
          refine Tr.ent (Ent.trans (Ent.pick (A := .pts k.blk (encKind1 (⟨(wh k.s), ⟨k.a, k.kids.length, k.cap⟩⟩ : Kind1)) 268) pk_ (Ent.pick (A := .row 209 1 k.a k.kids.length k.cap ((k.kids.map KT.pt).flatMap encPt)) pk_ (Ent.pick (A := Bun (k.kids.map (KA 268 209))) pk_ (Ent.refl _)))) (k_same (tk := 268) (tp := 209) (k := k))) ?_
          rw [← hfm]
          exact t_rt [.row 5 1 x.a1 (b ++ form k.s v.pv).length x.c1 ((b ++ form k.s v.pv).flatMap encB), KA 268 209 k] rfl (.tmp rfl .nil) rfl ⟨rfl, _, _, rfl, rfl⟩
      · try simp only [decide_eq_true_eq, decide_eq_false_iff_not] at h2
        obtain ⟨l, hs2⟩ := wh_else (s := k.s) (by omega) (by omega) (by omega)
        have hkl : k.kids.length = l.length := by rw [hk.len, hs2]; rfl
        obtain ⟨hf1, hf2⟩ := fits_row (v := v) (l := l) (by rw [← hs2]; exact hf)
        have hfm : form k.s v.pv = forms l (v.L.map VT.pv) := by rw [hs2]; exact form_row l v
        have hfl := congrArg List.length hfm
        have hac := accP_row l v.L b hf1
        have hal := congrArg List.length hac
        rw [← hfm, List.length_append] at hal
        refine c_skip ?_
        refine k_blk_n ?_
        refine k_then_n ?_
        refine c_seq ?_
        refine sr ?_
        refine e_q (q_fieldp rfl fo_131_2) ?_
        refine e_q (q_loadp (v := .slice v.a v.L.length v.cap) sc_129 rfl pk_ rfl) ?_
        refine e_q (q_len Tryz.underlying129 rfl) ?_
        refine e_mv rfl ?_
        refine l_n ?_
        refine c_block ?_
        refine Tr.env (σ' := [(0, _), (1, _), (6, _), (59, _), (60, _), (61, _)]) ev_ ?_
        refine t_loop (ι := Lp (Nat)) (fun x => x.d ≤ v.L.length) (fun x => v.L.length - x.d) (fun x => [(0, .pointer (some ⟨k.blk, 0, none⟩)), (1, .slice x.a1 ((accP (fun i => form (l.getD i default) (v.L.getD i default).pv) b x.d).length) x.c1), (6, .slice none 0 0), (59, .slice v.a v.L.length v.cap), (60, .int .i64 (v.L.length : Int)), (61, .int .i64 (x.d : Int))]) (fun x => .pts b5 (encVal1 (⟨v.N, v.B, ⟨v.a, v.L.length, v.cap⟩⟩ : Val1)) 131 :: .pts k.blk (encKind1 (⟨(wh k.s), ⟨k.a, k.kids.length, k.cap⟩⟩ : Kind1)) 268 :: .row 209 1 k.a k.kids.length k.cap ((k.kids.map KT.pt).flatMap encPt) :: Bun (k.kids.map (KA 268 209)) :: .row 5 1 x.a1 ((accP (fun i => form (l.getD i default) (v.L.getD i default).pv) b x.d).length) x.c1 ((accP (fun i => form (l.getD i default) (v.L.getD i default).pv) b x.d).flatMap encB) :: Δ) (⟨0, b_a, b_c, none, 0, none, 0⟩ : Lp _) (Nat.zero_le _) ?_ ?_ ?_
        · exact .c (.c (.c (.c (.c (.c (.nil _))))))
        · exact en_
        intro x hx
        refine sr ?_
        refine e_q (q_lss rfl rfl) ?_
        refine l_n ?_
        refine c_seq ?_
        refine c_cond rfl (fun h4 => ?_) (fun h4 => ?_)
        · try simp only [decide_eq_true_eq, decide_eq_false_iff_not] at h4
          have hki : x.d < k.kids.length := by omega
          refine Tr.ent (kid_out (tk := 268) (tp := 209) (l := k.kids) (i := x.d) hki pk_) ?_
          have hw9 : (k.kids.getD x.d default).s.wt < k.s.wt := wt_kid hk (getD_in hki)
          have hko := hk.at_ hki
          have hks : (k.kids.getD x.d default).s = l.getD x.d default := by rw [hko.2, hs2]; rfl
          have hfi : fits (k.kids.getD x.d default).s (v.L.getD x.d default).pv := by rw [hks]; exact hf2 x.d (by omega)
          have hsn := accP_at (fun i => form (l.getD i default) (v.L.getD i default).pv) b (show x.d < l.length by omega)
          refine c_skip ?_
          refine k_then_n ?_
          refine c_seq ?_
          refine c_block ?_
          refine sr ?_
          refine e_mv rfl ?_
          refine e_q (q_indexe x.d Tryz.underlying129 sz_131 rfl rfl (rd_ro hrL) (by decide) rfl (by first | assumption | omega | (simp only [List.length_cons, List.length_nil]; omega))) ?_
          refine e_q (q_as (v := .agg (encVal1 (v.L.getD x.d default).val).toArray) (q_loadea (vs := encVal1 ((v.L.map VT.val).getD x.d default)) (enc := encVal1) (xs := (v.L.map VT.val)) (j := x.d) (off := 0) ag_131 rfl (rd_ro hrL) (fun _ => rfl) (by rw [List.length_map]; omega) (by simp [encVal1]) (by simp [encVal1]) rfl) (by rw [getD_map VT.val (by omega)])) ?_
          refine e_s (s_allocz (cs := encVal1 zVal1) (by kernel_rfl)) ?_
          rintro _ _ ⟨b10, rfl, rfl⟩
          refine e_as rfl ?_
          refine l_step (s_s0 wn (s_storep (ws := encVal1 ((v.L.getD x.d default).val)) (cs := encVal1 zVal1) (cs' := encVal1 ((v.L.getD x.d default).val)) rfl rfl rfl sz_131 (oneVal1 _) (by simp [encVal1, encVal1]) rfl pk_) ?_)
          rintro _ _ ⟨rfl, rfl⟩
          refine l_n ?_
          refine d_r 11 [.pts b10 (encVal1 ((v.L.getD x.d default).val)) 131, Bun ((k.kids.map (KA 268 209)).eraseIdx x.d), .pts b5 (encVal1 (⟨v.N, v.B, ⟨v.a, v.L.length, v.cap⟩⟩ : Val1)) 131, .pts k.blk (encKind1 (⟨(wh k.s), ⟨k.a, k.kids.length, k.cap⟩⟩ : Kind1)) 268, .row 209 1 k.a k.kids.length k.cap ((k.kids.map KT.pt).flatMap encPt)] ?_
          refine d_t 0 rfl wn (q_move rfl) ?_
          refine d_t 1 rfl wn (q_nilCheck rfl) ?_
          refine d_t 2 rfl wn (q_fieldp rfl fo_268_1) ?_
          refine d_t 3 rfl wn (q_loadp (v := .slice k.a k.kids.length k.cap) sc_266 rfl pk_ rfl) ?_
          refine d_t 4 rfl wn (q_move rfl) ?_
          refine d_t 5 rfl wn (q_indexe x.d Tryz.underlying266 sz_209 rfl rfl (rd_row pk_) (by decide) rfl hki) ?_
          refine d_t 6 rfl wn (q_as (v := .pointer (some ⟨(k.kids.getD x.d default).blk, 0, none⟩)) (q_loade (enc := encPt) (xs := (k.kids.map KT.pt)) (j := x.d) (off := 0) sc_209 rfl (rd_row pk_) (fun _ => rfl) (by rw [List.length_map]; exact hki) (by decide) rfl) (by rw [kid_pt hki]; rfl)) ?_
          refine d_t 7 rfl wn (q_move rfl) ?_
          refine d_t 8 rfl wn (q_loadpa (vs := encVal1 ((v.L.getD x.d default).val)) ag_131 rfl pk_ rfl) ?_
          refine d_1 9 ?_
          refine o_step rfl (s_fnb rfl wn Tryz.func147 rfl (by kernel_rfl) rfl sl_ (fun ρ' hL => ih (k.kids.getD x.d default) hw9 (v.L.getD x.d default) x.a1 x.c1 (accP (fun i => form (l.getD i default) (v.L.getD i default).pv) b x.d) ρ' hko.1 hfi (VT.ro_mono hL.1 _ (VT.ro_kid hv _ (getD_in (by omega)))) (by rw [hks]; omega)) ?_)
          rintro _ _ ⟨a75, c75, rfl, rfl⟩
          try simp only [List.cons_append, List.nil_append]
          refine d_c ?_
          refine d_t 10 rfl wn (q_assign rfl) ?_
          refine d_d ?_
          refine k_blk_n ?_
          refine k_then_n ?_
          refine c_region ?_
          refine e_q (q_add rfl rfl (by omega) (by omega)) ?_
          refine e_mv rfl ?_
          refine l_n ?_
          refine Tr.ent (Ent.trans (Ent.pick (A := KA 268 209 (k.kids.getD x.d default)) pk_ (Ent.pick (A := Bun ((k.kids.map (KA 268 209)).eraseIdx x.d)) pk_ (Ent.refl _))) (kid_in (tk := 268) (tp := 209) (l := k.kids) (i := x.d) hki)) ?_
          rw [hks]
          exact t_nx (⟨x.d + 1, a75, c75, none, 0, none, 0⟩ : Lp _) ⟨by (try simp only []); omega, by (try simp only []); omega⟩ (.c (.c (.c (.c (.c (.c (.nil _)))))))
        · try simp only [decide_eq_true_eq, decide_eq_false_iff_not] at h4
          have hkx : x.d = l.length := by omega
          rw [hkx, hac]
          refine c_exit ?_
          refine k_then_x ?_
          refine k_then_x ?_
          refine k_blk_x ?_
          refine k_then_n ?_
          refine sr ?_
          refine e_mv rfl ?_
          refine e_as rfl ?_
          refine l_n ?_
          refine c_ret ?_
          refine Tr.ent (Ent.trans (Ent.pick (A := .pts k.blk (encKind1 (⟨(wh k.s), ⟨k.a, k.kids.length, k.cap⟩⟩ : Kind1)) 268) pk_ (Ent.pick (A := .row 209 1 k.a k.kids.length k.cap ((k.kids.map KT.pt).flatMap encPt)) pk_ (Ent.pick (A := Bun (k.kids.map (KA 268 209))) pk_ (Ent.refl _)))) (k_same (tk := 268) (tp := 209) (k := k))) ?_
          rw [← hfm]
          exact t_rt [.row 5 1 x.a1 (b ++ form k.s v.pv).length x.c1 ((b ++ form k.s v.pv).flatMap encB), KA 268 209 k] rfl (.tmp rfl .nil) rfl ⟨rfl, _, _, rfl, rfl⟩

theorem put_ok : ∀ (n : Nat) (k : KT), k.s.wt ≤ n → PutOk k
  | 0, k, h => by cases hs : k.s <;> rw [hs] at h <;> simp [Sh.wt] at h
  | n + 1, k, h => fun v b_a b_c b ρ hk hf hv hb => put__spec k b_a b_c b v ρ (fun t ht => put_ok n t (by omega)) hk hf hv hb
theorem put_spec (k : KT) : PutOk k := put_ok _ k (Nat.le_refl _)

theorem Put_spec (s : Sh) (vs_a : Option Addr) (vs_c : Nat) (v : VT) (ρ : Hp) (hl : s.str.length ≤ 64) (hd : s.dep ≤ 8) (hro : Ro ρ 3 vs_a 1 vs_c ([v.val].flatMap encVal1)) (hf : fits s v.pv) (hv : v.ro ρ) (hb : (form s v.pv).length ≤ 1000000000000) : Spec0 Tryz.prog 67 #[strB s.str, .slice vs_a 1 vs_c] ρ [] (fun w Γ' => ∃ a c, w = .tuple #[.slice a (form s v.pv).length c, .int .i64 0] ∧ Γ' = [.row 5 1 a (form s v.pv).length c ((form s v.pv).flatMap encB)]) := by
  refine spec_of (n := 30) (vs := [_, _]) (σ := [(0, _), (1, _)]) Tryz.func67 rfl rfl rfl rfl fun E Δ => ?_
  rw [List.nil_append]
  refine sr ?_
  refine e_as rfl ?_
  refine e_as rfl ?_
  refine l_n ?_
  refine sr ?_
  refine e_mv rfl ?_
  refine e_fn Tryz.func139 rfl sl_ (fun ρ' hL => parse_spec s ρ' hl hd) ?_
  rintro _ _ ⟨kN, hk1, hk2, rfl, rfl⟩
  try simp only [List.cons_append, List.nil_append]
  refine e_as rfl ?_
  refine l_n ?_
  refine c_seq ?_
  refine sr ?_
  refine e_mv rfl ?_
  refine e_q (q_eqlo (e := (some kN.blk)) rfl rfl Tryz.underlying209) ?_
  refine l_n ?_
  refine c_sure false rfl (by rfl) ?_
  simp only [Bool.false_eq_true, if_true, if_false]
  refine c_skip ?_
  refine k_then_n ?_
  refine sr ?_
  refine e_as rfl ?_
  refine l_n ?_
  refine c_seq ?_
  refine sr ?_
  refine e_mv rfl ?_
  refine e_q (q_len Tryz.underlying129 rfl) ?_
  refine e_mv rfl ?_
  refine l_n ?_
  refine c_block ?_
  refine Tr.ent (Ent.nilrow 5 1 _) ?_
  refine Tr.env (σ' := [(6, _), (7, _), (14, _), (15, _), (16, _)]) ev_ ?_
  refine t_loop (ι := Lp (Nat)) (fun x => x.d ≤ 1) (fun x => 1 - x.d) (fun x => [(6, (ptV (some kN.blk))), (7, .slice x.a1 ((starB s ([v].take x.d)).length) x.c1), (14, .slice vs_a 1 vs_c), (15, .int .i64 (1 : Int)), (16, .int .i64 (x.d : Int))]) (fun x => .row 5 1 x.a1 ((starB s ([v].take x.d)).length) x.c1 ((starB s ([v].take x.d)).flatMap encB) :: KA 268 209 kN :: Δ) (⟨0, none, 0, none, 0, none, 0⟩ : Lp _) (Nat.zero_le _) ?_ ?_ ?_
  · exact .c (.c (.c (.c (.c (.nil _)))))
  · exact en_
  intro x hx
  refine sr ?_
  refine e_q (q_lss rfl rfl) ?_
  refine l_n ?_
  refine c_seq ?_
  refine c_cond rfl (fun h1 => ?_) (fun h1 => ?_)
  · try simp only [decide_eq_true_eq, decide_eq_false_iff_not] at h1
    have hx0 : x.d = 0 := by omega
    refine c_skip ?_
    refine k_then_n ?_
    refine c_seq ?_
    refine c_block ?_
    refine sr ?_
    refine e_q (q_indexe x.d Tryz.underlying129 sz_131 rfl rfl (rd_ro hro) (by decide) rfl (by omega)) ?_
    refine e_q (q_as (v := .agg (encVal1 (⟨v.N, v.B, ⟨v.a, v.L.length, v.cap⟩⟩ : Val1)).toArray) (q_loadea (vs := encVal1 ([v.val].getD x.d default)) (enc := encVal1) (xs := [v.val]) (j := x.d) (off := 0) ag_131 rfl (rd_ro hro) (fun _ => rfl) (by simp only [List.length_cons, List.length_nil]; omega) (by simp [encVal1]) (by simp [encVal1]) rfl) (by rw [hx0]; rfl)) ?_
    refine e_s (s_allocz (cs := encVal1 zVal1) (by kernel_rfl)) ?_
    rintro _ _ ⟨b9, rfl, rfl⟩
    refine l_step (s_s0 wn (s_storep (ws := encVal1 (⟨v.N, v.B, ⟨v.a, v.L.length, v.cap⟩⟩ : Val1)) (cs := encVal1 zVal1) (cs' := encVal1 (⟨v.N, v.B, ⟨v.a, v.L.length, v.cap⟩⟩ : Val1)) rfl rfl rfl sz_131 (oneVal1 _) (by simp [encVal1, encVal1]) rfl pk_) ?_)
    rintro _ _ ⟨rfl, rfl⟩
    refine l_n ?_
    refine c_seq ?_
    refine sr ?_
    refine e_mv rfl ?_
    refine e_q (q_loadpa (vs := encVal1 (⟨v.N, v.B, ⟨v.a, v.L.length, v.cap⟩⟩ : Val1)) ag_131 rfl pk_ rfl) ?_
    refine l_step (s_fnr rfl wn Tryz.func146 rfl (by kernel_rfl) rfl sl_ (fun ρ' hL => has_spec kN v ρ' hk2 (by rw [hk1]; exact hf) (VT.ro_mono hL.1 v hv)) ?_)
    refine e_q (q_not rfl) ?_
    refine l_n ?_
    refine c_sure false rfl (by rfl) ?_
    simp only [Bool.false_eq_true, if_true, if_false]
    refine c_skip ?_
    refine k_then_n ?_
    refine c_region ?_
    refine e_mv rfl ?_
    refine e_mv rfl ?_
    refine e_q (q_loadpa (vs := encVal1 (⟨v.N, v.B, ⟨v.a, v.L.length, v.cap⟩⟩ : Val1)) ag_131 rfl pk_ rfl) ?_
    refine e_fn Tryz.func147 rfl sl_ (fun ρ' hL => put_spec kN v x.a1 x.c1 (starB s ([v].take x.d)) ρ' hk2 (by rw [hk1]; exact hf) (VT.ro_mono hL.1 v hv) (by rw [hk1, show starB s ([v].take x.d) = [] from by rw [hx0]; rfl]; simp only [List.length_nil]; omega)) ?_
    rintro _ _ ⟨a27, c27, rfl, rfl⟩
    try simp only [List.cons_append, List.nil_append]
    refine e_as rfl ?_
    refine l_nil ?_
    refine k_blk_n ?_
    refine k_then_n ?_
    refine c_region ?_
    refine e_q (q_add rfl rfl (by omega) (by omega)) ?_
    refine e_mv rfl ?_
    refine l_n ?_
    rw [show (starB s ([v].take x.d)) ++ form kN.s v.pv = starB s ([v].take (x.d + 1)) from by rw [hx0, hk1]; simp [starB]]
    exact t_nx (⟨x.d + 1, a27, c27, none, 0, none, 0⟩ : Lp _) ⟨by (try simp only []); omega, by (try simp only []); omega⟩ (.c (.c (.c (.c (.c (.nil _))))))
  · try simp only [decide_eq_true_eq, decide_eq_false_iff_not] at h1
    have hkx : x.d = 1 := by omega
    rw [hkx, show starB s ([v].take 1) = form s v.pv from by simp [starB]]
    refine c_exit ?_
    refine k_then_x ?_
    refine k_then_x ?_
    refine k_blk_x ?_
    refine k_then_n ?_
    refine sr ?_
    refine e_mv rfl ?_
    refine e_as rfl ?_
    refine e_as rfl ?_
    refine l_n ?_
    refine c_ret ?_
    exact t_rt [.row 5 1 x.a1 (form s v.pv).length x.c1 ((form s v.pv).flatMap encB)] rfl (.tmp rfl (.tmp rfl .nil)) rfl ⟨rfl, _, _, rfl, rfl⟩
end Go.Mou

/-
  Package mould, walked.
-/
set_option maxRecDepth 100000
set_option maxHeartbeats 4000000
set_option linter.unusedSimpArgs false
set_option linter.unusedVariables false
namespace Go.Mou
open Go Go.SL Go.Proofs Go.Mou
attribute [local irreducible] Go.SL.Ent
theorem sz_5 : sizeIs Tryz.prog 5 = some 1 := by kernel_rfl
theorem fo_213_1 : fieldOff Tryz.prog 213 1 = some (1, 28) := by kernel_rfl
theorem sc_28 : isScalar Tryz.prog 28 = true := by kernel_rfl
theorem sz_28 : sizeIs Tryz.prog 28 = some 1 := by kernel_rfl
theorem fo_213_0 : fieldOff Tryz.prog 213 0 = some (0, 22) := by kernel_rfl
theorem sz_22 : sizeIs Tryz.prog 22 = some 1 := by kernel_rfl

theorem fail_spec (t : Nat) (B : SL UInt8) (e : Int) (c : Int) (ρ : Hp) : Spec0 Tryz.prog 141 #[.pointer (some ⟨t, 0, none⟩), .int .i64 c] ρ [.pts t (encTaker1 (⟨B, e⟩ : Taker1)) 213] (fun v Γ' => v = .tuple #[] ∧ Γ' = [.pts t (encTaker1 (⟨B, (if e = 0 then c else e)⟩ : Taker1)) 213]) := by
  refine spec_of (n := 13) (vs := [_, _]) (σ := [(0, _), (1, _)]) Tryz.func141 rfl rfl rfl rfl fun E Δ => ?_
  simp only [List.cons_append, List.nil_append]
  refine sr ?_
  refine e_mv rfl ?_
  refine e_q (q_nilCheck rfl) ?_
  refine e_q (q_fieldp rfl fo_213_1) ?_
  refine e_q (q_loadp (v := .int .i64 e) sc_28 rfl pk_ rfl) ?_
  refine e_q (q_eql rfl rfl) ?_
  refine l_n ?_
  refine c_cond rfl (fun h0 => ?_) (fun h0 => ?_)
  · try simp only [decide_eq_true_eq, decide_eq_false_iff_not] at h0
    refine c_region ?_
    refine e_mv rfl ?_
    refine e_mv rfl ?_
    refine e_q (q_nilCheck rfl) ?_
    refine e_q (q_fieldp rfl fo_213_1) ?_
    refine l_step (s_s0 wn (s_storep (ws := [.int .i64 c]) (cs := encTaker1 (⟨B, e⟩ : Taker1)) (cs' := encTaker1 (⟨B, c⟩ : Taker1)) rfl rfl rfl sz_28 (by simp [Value.oneCell', strB, ptV, SL.v, SH.v]) (by simp [encTaker1]) rfl pk_) ?_)
    rintro _ _ ⟨rfl, rfl⟩
    refine l_nil ?_
    refine k_body_n ?_
    exact t_rt [.pts t (encTaker1 (⟨B, c⟩ : Taker1)) 213] rfl .nil rfl ⟨rfl, rfl, by rw [if_pos h0]⟩
  · try simp only [decide_eq_true_eq, decide_eq_false_iff_not] at h0
    refine c_skip ?_
    refine k_body_n ?_
    exact t_rt [.pts t (encTaker1 (⟨B, e⟩ : Taker1)) 213] rfl .nil rfl ⟨rfl, rfl, by rw [if_neg h0]⟩

theorem tnum_spec (t : Nat) (B : SL UInt8) (e : Int) (ρ : Hp) (hB : B.ro encB 1 ρ) : Spec0 Tryz.prog 188 #[.pointer (some ⟨t, 0, none⟩)] ρ [.pts t (encTaker1 (⟨B, e⟩ : Taker1)) 213] (fun w Γ' => ∃ (B' : SL UInt8) (e' : Int) (n : Nat), w = .int .u64 (n : Int) ∧ Γ' = [.pts t (encTaker1 (⟨B', e'⟩ : Taker1)) 213] ∧ Suf B B' ∧ n < 18446744073709551616 ∧ RNum B e n B' e') := by
  refine spec_of (n := 93) (vs := [_]) (σ := [(0, _)]) Tryz.func188 rfl rfl rfl rfl fun E Δ => ?_
  simp only [List.cons_append, List.nil_append]
  have hBr : Ro ρ 1 B.a B.xs.length B.cap (B.xs.flatMap encB) := hB
  have hcap : B.xs.length ≤ B.cap := hBr.2.1
  have hcm : B.cap ≤ 9223372036854775807 := hBr.2.2.1
  have hc8 := (B.xs.getD 0 default).toNat_lt
  refine sr ?_
  refine e_as rfl ?_
  refine l_n ?_
  refine c_seq ?_
  refine sr ?_
  refine e_mv rfl ?_
  refine e_q (q_nilCheck rfl) ?_
  refine e_q (q_fieldp rfl fo_213_0) ?_
  refine e_q (q_loadp (v := .slice B.a B.xs.length B.cap) sc_22 rfl pk_ rfl) ?_
  refine e_q (q_len Tryz.underlying22 rfl) ?_
  refine e_q (q_eql rfl rfl) ?_
  refine l_n ?_
  refine c_cond rfl (fun h0 => ?_) (fun h0 => ?_)
  · try simp only [decide_eq_true_eq, decide_eq_false_iff_not] at h0
    have hx0 : B.xs = [] := List.length_eq_zero_iff.1 (by omega)
    refine c_region ?_
    refine e_mv rfl ?_
    refine e_fn Tryz.func141 rfl sl_ (fun ρ' hL => fail_spec t B e 11 ρ') ?_
    rintro _ _ ⟨rfl, rfl⟩
    try simp only [List.cons_append, List.nil_append]
    refine l_n ?_
    refine c_seq ?_
    refine sr ?_
    refine e_mv rfl ?_
    refine e_q (q_nilCheck rfl) ?_
    refine e_q (q_fieldp rfl fo_213_1) ?_
    refine e_q (q_loadp (v := .int .i64 (if e = 0 then 11 else e)) sc_28 rfl pk_ rfl) ?_
    refine e_q (q_neq rfl rfl) ?_
    refine l_n ?_
    refine c_sure true rfl (decide_eq_true (by split <;> omega)) ?_
    simp only [Bool.false_eq_true, if_true, if_false]
    refine sr ?_
    refine e_as rfl ?_
    refine l_n ?_
    refine c_ret ?_
    refine k_then_r ?_
    exact t_rt [.pts t (encTaker1 (⟨B, (if e = 0 then 11 else e)⟩ : Taker1)) 213] rfl (.tmp rfl .nil) rfl ⟨rfl, B, _, 0, rfl, rfl, Suf.refl B, by decide, ⟨fun h => ⟨if_neg h, rfl⟩, fun h => .inr ⟨11, by rw [hx0]; rfl, if_pos h, by decide, rfl⟩⟩⟩
  · try simp only [decide_eq_true_eq, decide_eq_false_iff_not] at h0
    have hne : B.xs ≠ [] := fun h => h0 (by rw [h]; rfl)
    refine c_skip ?_
    refine k_then_n ?_
    refine c_seq ?_
    refine sr ?_
    refine e_mv rfl ?_
    refine e_q (q_nilCheck rfl) ?_
    refine e_q (q_fieldp rfl fo_213_1) ?_
    refine e_q (q_loadp (v := .int .i64 e) sc_28 rfl pk_ rfl) ?_
    refine e_q (q_neq rfl rfl) ?_
    refine l_n ?_
    refine c_cond rfl (fun h1 => ?_) (fun h1 => ?_)
    · try simp only [decide_eq_true_eq, decide_eq_false_iff_not, ne_eq, Decidable.not_not] at h1
      refine sr ?_
      refine e_as rfl ?_
      refine l_n ?_
      refine c_ret ?_
      refine k_then_r ?_
      exact t_rt [.pts t (encTaker1 (⟨B, e⟩ : Taker1)) 213] rfl (.tmp rfl .nil) rfl ⟨rfl, B, _, 0, rfl, rfl, Suf.refl B, by decide, ⟨fun _ => ⟨rfl, rfl⟩, fun h => absurd h h1⟩⟩
    · try simp only [decide_eq_true_eq, decide_eq_false_iff_not, ne_eq, Decidable.not_not] at h1
      refine c_skip ?_
      refine k_then_n ?_
      refine sr ?_
      refine e_mv rfl ?_
      refine e_q (q_nilCheck rfl) ?_
      refine e_q (q_fieldp rfl fo_213_0) ?_
      refine e_q (q_loadp (v := .slice B.a B.xs.length B.cap) sc_22 rfl pk_ rfl) ?_
      refine e_q (q_indexe 0 Tryz.underlying22 sz_5 rfl rfl (by first | assumption | exact rd_ro (by assumption) | exact rd_row pk_) (by decide) rfl (by omega)) ?_
      refine e_q (q_loade (enc := encB) (xs := B.xs) (j := 0) (off := 0) sc_5 rfl (by first | assumption | exact rd_ro (by assumption) | exact rd_row pk_) (fun _ => rfl) (by omega) (by decide) rfl) ?_
      refine e_q (q_conv rfl Tryz.underlying5 Tryz.underlying3 (by first | assumption | exact wrap_i64 (by omega) (by omega))) ?_
      refine e_as rfl ?_
      refine l_n ?_
      refine c_seq ?_
      refine c_block ?_
      refine c_seq ?_
      refine t_cutq (ι := Unit) (fun _u => True) (fun _u => [(0, .pointer (some ⟨t, 0, none⟩)), (2, .int .u64 0), (3, .int .i64 ((B.xs.getD 0 default).toNat : Int)), (27, .bool (badN B.xs))]) (fun _u => .pts t (encTaker1 (⟨B, e⟩ : Taker1)) 213 :: Δ) ?_ ?_
      · skip
        refine c_region ?_
        refine e_mv rfl ?_
        refine e_q (q_gtr rfl rfl) ?_
        refine e_mv rfl ?_
        refine t_split (d := 30) rfl (fun g6_2 => ?_) (fun g6_2 => ?_)
        · try simp only [decide_eq_true_eq, decide_eq_false_iff_not] at g6_2
          refine l_step (s_no rfl (wno rfl rfl (by decide)) ?_)
          refine l_step (s_no rfl (wno rfl rfl (by decide)) ?_)
          refine l_step (s_no rfl (wno rfl rfl (by decide)) ?_)
          refine l_step (s_no rfl (wun rfl rfl) ?_)
          refine l_step (s_no rfl (wun rfl rfl) ?_)
          refine l_step (s_no rfl (wun rfl rfl) ?_)
          refine l_step (s_no rfl (wun rfl rfl) ?_)
          refine l_step (s_no rfl (wun rfl rfl) ?_)
          refine l_step (s_no rfl (wun rfl rfl) ?_)
          refine l_step (s_no rfl (wno rfl rfl (by decide)) ?_)
          refine l_step (s_no rfl (wno rfl rfl (by decide)) ?_)
          refine l_step (s_no rfl (wun rfl rfl) ?_)
          refine l_step (s_no rfl (wun rfl rfl) ?_)
          refine l_step (s_no rfl (wun rfl rfl) ?_)
          refine l_step (s_no rfl (wun rfl rfl) ?_)
          refine l_step (s_no rfl (wun rfl rfl) ?_)
          refine l_step (s_no rfl (wun rfl rfl) ?_)
          refine l_step (s_no rfl (wun rfl rfl) ?_)
          refine l_step (s_no rfl (wno rfl rfl (by decide)) ?_)
          refine e_q (q_pick rfl rfl rfl) ?_
          refine e_as rfl ?_
          refine l_n ?_
          exact t_nx () trivial (.c (.c (.c (.cons rfl (boole (by unfold badN; rw [decide_eq_true g6_2]; rfl)) (.nil _)))))
        · try simp only [decide_eq_true_eq, decide_eq_false_iff_not] at g6_2
          refine e_qw (wy rfl rfl rfl) (q_move rfl) ?_
          refine e_qw (wy rfl rfl rfl) (q_gtr rfl rfl) ?_
          refine e_qw (wy rfl rfl rfl) (q_move rfl) ?_
          refine t_split (d := 33) rfl (fun g6_5 => ?_) (fun g6_5 => ?_)
          · try simp only [decide_eq_true_eq, decide_eq_false_iff_not] at g6_5
            refine e_qw (wy rfl rfl rfl) (q_move rfl) ?_
            refine e_qw (wy rfl rfl rfl) (q_nilCheck rfl) ?_
            refine e_qw (wy rfl rfl rfl) (q_fieldp rfl fo_213_0) ?_
            refine e_qw (wy rfl rfl rfl) (q_loadp (v := .slice B.a B.xs.length B.cap) sc_22 rfl pk_ rfl) ?_
            refine e_qw (wy rfl rfl rfl) (q_len Tryz.underlying22 rfl) ?_
            refine e_qw (wy rfl rfl rfl) (q_gtr rfl rfl) ?_
            refine e_qw (wy rfl rfl rfl) (q_pick rfl rfl rfl) ?_
            refine e_qw (wy rfl rfl rfl) (q_move rfl) ?_
            refine t_split (d := 41) rfl (fun g6_13 => ?_) (fun g6_13 => ?_)
            · try simp only [decide_eq_true_eq, decide_eq_false_iff_not] at g6_13
              refine e_qw (wy rfl rfl rfl) (q_move rfl) ?_
              refine e_qw (wy rfl rfl rfl) (q_nilCheck rfl) ?_
              refine e_qw (wy rfl rfl rfl) (q_fieldp rfl fo_213_0) ?_
              refine e_qw (wy rfl rfl rfl) (q_loadp (v := .slice B.a B.xs.length B.cap) sc_22 rfl pk_ rfl) ?_
              refine e_qw (wy rfl rfl rfl) (q_indexe 1 Tryz.underlying22 sz_5 rfl rfl (by first | assumption | exact rd_ro (by assumption) | exact rd_row pk_) (by decide) rfl (by omega)) ?_
              refine e_qw (wy rfl rfl rfl) (q_loade (enc := encB) (xs := B.xs) (j := 1) (off := 0) sc_5 rfl (by first | assumption | exact rd_ro (by assumption) | exact rd_row pk_) (fun _ => rfl) (by omega) (by decide) rfl) ?_
              refine e_qw (wy rfl rfl rfl) (q_eql rfl rfl) ?_
              refine e_qw (wy rfl rfl rfl) (q_pick rfl rfl rfl) ?_
              refine e_q (q_pick rfl rfl rfl) ?_
              refine e_as rfl ?_
              refine l_n ?_
              exact t_nx () trivial (.c (.c (.c (.cons rfl (boole (by unfold badN; rw [decide_eq_false g6_2, decide_eq_true g6_5, decide_eq_true g6_13]; rfl)) (.nil _)))))
            · try simp only [decide_eq_true_eq, decide_eq_false_iff_not] at g6_13
              refine l_step (s_no rfl (wno rfl rfl (by decide)) ?_)
              refine l_step (s_no rfl (wno rfl rfl (by decide)) ?_)
              refine l_step (s_no rfl (wno rfl rfl (by decide)) ?_)
              refine l_step (s_no rfl (wno rfl rfl (by decide)) ?_)
              refine l_step (s_no rfl (wno rfl rfl (by decide)) ?_)
              refine l_step (s_no rfl (wno rfl rfl (by decide)) ?_)
              refine l_step (s_no rfl (wno rfl rfl (by decide)) ?_)
              refine e_qw (wy rfl rfl rfl) (q_pick rfl rfl rfl) ?_
              refine e_q (q_pick rfl rfl rfl) ?_
              refine e_as rfl ?_
              refine l_n ?_
              exact t_nx () trivial (.c (.c (.c (.cons rfl (boole (by unfold badN; rw [decide_eq_false g6_2, decide_eq_true g6_5, decide_eq_false g6_13]; rfl)) (.nil _)))))
          · try simp only [decide_eq_true_eq, decide_eq_false_iff_not] at g6_5
            refine l_step (s_no rfl (wno rfl rfl (by decide)) ?_)
            refine l_step (s_no rfl (wno rfl rfl (by decide)) ?_)
            refine l_step (s_no rfl (wno rfl rfl (by decide)) ?_)
            refine l_step (s_no rfl (wno rfl rfl (by decide)) ?_)
            refine l_step (s_no rfl (wno rfl rfl (by decide)) ?_)
            refine l_step (s_no rfl (wno rfl rfl (by decide)) ?_)
            refine e_qw (wy rfl rfl rfl) (q_pick rfl rfl rfl) ?_
            refine e_qw (wy rfl rfl rfl) (q_move rfl) ?_
            refine l_step (s_no rfl (wno rfl rfl (by decide)) ?_)
            refine l_step (s_no rfl (wno rfl rfl (by decide)) ?_)
            refine l_step (s_no rfl (wno rfl rfl (by decide)) ?_)
            refine l_step (s_no rfl (wno rfl rfl (by decide)) ?_)
            refine l_step (s_no rfl (wno rfl rfl (by decide)) ?_)
            refine l_step (s_no rfl (wno rfl rfl (by decide)) ?_)
            refine l_step (s_no rfl (wno rfl rfl (by decide)) ?_)
            refine e_qw (wy rfl rfl rfl) (q_pick rfl rfl rfl) ?_
            refine e_q (q_pick rfl rfl rfl) ?_
            refine e_as rfl ?_
            refine l_n ?_
            exact t_nx () trivial (.c (.c (.c (.cons rfl (boole (by unfold badN; rw [decide_eq_false g6_2, decide_eq_false g6_5]; rfl)) (.nil _)))))
      intro _u hj6
      refine k_then_n ?_
      refine c_cond rfl (fun h2 => ?_) (fun h2 => ?_)
      · skip
        refine sr ?_
        refine e_mv rfl ?_
        refine e_fn Tryz.func141 rfl sl_ (fun ρ' hL => fail_spec t B e 13 ρ') ?_
        rintro _ _ ⟨rfl, rfl⟩
        try simp only [List.cons_append, List.nil_append]
        refine l_n ?_
        refine sr ?_
        refine e_as rfl ?_
        refine l_n ?_
        refine c_ret ?_
        refine k_blk_r ?_
        refine k_then_r ?_
        exact t_rt [.pts t (encTaker1 (⟨B, (if e = 0 then 13 else e)⟩ : Taker1)) 213] rfl (.tmp rfl .nil) rfl ⟨rfl, B, _, 0, rfl, rfl, Suf.refl B, by decide, ⟨fun h => ⟨if_neg h, rfl⟩, fun h => .inr ⟨13, numT_bad hne h2, if_pos h, by decide, rfl⟩⟩⟩
      · skip
        obtain ⟨hg1, hg2, hg3⟩ := numT_good hne h2
        refine sr ?_
        refine e_mv rfl ?_
        refine e_q (q_nilCheck rfl) ?_
        refine e_q (q_fieldp rfl fo_213_0) ?_
        refine e_q (q_loadp (v := .slice B.a B.xs.length B.cap) sc_22 rfl pk_ rfl) ?_
        refine e_q (q_len Tryz.underlying22 rfl) ?_
        refine e_q (q_sub rfl rfl (by omega) (by omega)) ?_
        refine e_mv rfl ?_
        refine e_q (q_lss rfl rfl) ?_
        refine e_as rfl ?_
        refine l_n ?_
        refine c_cond rfl (fun h3 => ?_) (fun h3 => ?_)
        · try simp only [decide_eq_true_eq, decide_eq_false_iff_not] at h3
          refine sr ?_
          refine e_mv rfl ?_
          refine e_fn Tryz.func141 rfl sl_ (fun ρ' hL => fail_spec t B e 11 ρ') ?_
          rintro _ _ ⟨rfl, rfl⟩
          try simp only [List.cons_append, List.nil_append]
          refine l_n ?_
          refine sr ?_
          refine e_as rfl ?_
          refine l_n ?_
          refine c_ret ?_
          refine k_blk_r ?_
          refine k_then_r ?_
          exact t_rt [.pts t (encTaker1 (⟨B, (if e = 0 then 11 else e)⟩ : Taker1)) 213] rfl (.tmp rfl .nil) rfl ⟨rfl, B, _, 0, rfl, rfl, Suf.refl B, by decide, ⟨fun h => ⟨if_neg h, rfl⟩, fun h => .inr ⟨11, (numT_good hne h2).2.1 h3, if_pos h, by decide, rfl⟩⟩⟩
        · try simp only [decide_eq_true_eq, decide_eq_false_iff_not] at h3
          have hCl : ((B.xs.drop 1).take (B.xs.getD 0 default).toNat).length = (B.xs.getD 0 default).toNat := by rw [List.length_take, List.length_drop]; omega
          have hC := ro_mid hBr (c := (B.xs.getD 0 default).toNat) (by omega)
          refine c_skip ?_
          refine k_blk_n ?_
          refine k_then_n ?_
          refine sr ?_
          refine e_as rfl ?_
          refine l_n ?_
          refine c_seq ?_
          refine sr ?_
          refine e_mv rfl ?_
          refine e_q (q_nilCheck rfl) ?_
          refine e_q (q_fieldp rfl fo_213_0) ?_
          refine e_q (q_loadp (v := .slice B.a B.xs.length B.cap) sc_22 rfl pk_ rfl) ?_
          refine e_mv rfl ?_
          refine e_q (q_add rfl rfl (by omega) (by omega)) ?_
          refine e_q (q_as (v := .slice (sh B.a B.cap 1 1) ((B.xs.drop 1).take (B.xs.getD 0 default).toNat).length (B.cap - 1)) (q_cut_lohi Tryz.underlying22 sz_5 rfl rfl rfl (by omega) (by omega) (by omega)) (by congr 1; rw [hCl]; omega)) ?_
          refine e_q (q_len Tryz.underlying22 rfl) ?_
          refine e_mv rfl ?_
          refine l_n ?_
          refine c_block ?_
          refine Tr.env (σ' := [(0, _), (2, _), (3, _), (4, _), (70, _), (71, _), (72, _)]) ev_ ?_
          refine t_loop (ι := Lp (Nat)) (fun x => x.d ≤ ((B.xs.drop 1).take (B.xs.getD 0 default).toNat).length) (fun x => ((B.xs.drop 1).take (B.xs.getD 0 default).toNat).length - x.d) (fun x => [(0, .pointer (some ⟨t, 0, none⟩)), (2, .int .u64 0), (3, .int .i64 ((B.xs.getD 0 default).toNat : Int)), (4, .int .u64 (((beN (((B.xs.drop 1).take (B.xs.getD 0 default).toNat).take x.d)) : Nat) : Int)), (70, .slice (sh B.a B.cap 1 1) (((B.xs.drop 1).take (B.xs.getD 0 default).toNat).length) (B.cap - 1)), (71, .int .i64 (((B.xs.drop 1).take (B.xs.getD 0 default).toNat).length : Int)), (72, .int .i64 (x.d : Int))]) (fun x => .pts t (encTaker1 (⟨B, e⟩ : Taker1)) 213 :: Δ) (⟨0, none, 0, none, 0, none, 0⟩ : Lp _) (Nat.zero_le _) ?_ ?_ ?_
          · exact .c (.c (.c (.c (.c (.c (.c (.nil _)))))))
          · exact en_
          intro x hx
          refine sr ?_
          refine e_q (q_lss rfl rfl) ?_
          refine l_n ?_
          refine c_seq ?_
          refine c_cond rfl (fun h4 => ?_) (fun h4 => ?_)
          · try simp only [decide_eq_true_eq, decide_eq_false_iff_not] at h4
            have hM : (beN (((B.xs.drop 1).take (B.xs.getD 0 default).toNat).take x.d)) < 72057594037927936 := beN_56 (by rw [List.length_take]; omega)
            have hc9 := (((B.xs.drop 1).take (B.xs.getD 0 default).toNat).getD x.d default).toNat_lt
            refine c_skip ?_
            refine k_then_n ?_
            refine c_seq ?_
            refine c_block ?_
            refine sr ?_
            refine e_q (q_indexe x.d Tryz.underlying22 sz_5 rfl rfl (rd_ro hC) (by decide) rfl (by first | assumption | omega | (simp only [List.length_cons, List.length_nil]; omega))) ?_
            refine e_q (q_loade (enc := encB) (xs := ((B.xs.drop 1).take (B.xs.getD 0 default).toNat)) (j := x.d) (off := 0) sc_5 rfl (rd_ro hC) (fun _ => rfl) (by first | assumption | omega | (simp only [List.length_cons, List.length_nil]; omega)) (by decide) rfl) ?_
            refine e_as rfl ?_
            refine l_n ?_
            refine c_region ?_
            refine e_mv rfl ?_
            refine e_q (q_as (v := .int .u64 ((256 * (beN (((B.xs.drop 1).take (B.xs.getD 0 default).toNat).take x.d)) : Nat) : Int)) (q_shl rfl rfl (by omega)) (inte (shl8 hM))) ?_
            refine e_mv rfl ?_
            refine e_q (q_conv rfl Tryz.underlying5 Tryz.underlying128 (by first | assumption | exact wrap_u64 (by omega) (by omega))) ?_
            refine e_q (q_as (v := .int .u64 ((256 * (beN (((B.xs.drop 1).take (B.xs.getD 0 default).toNat).take x.d)) + (((B.xs.drop 1).take (B.xs.getD 0 default).toNat).getD x.d default).toNat : Nat) : Int)) (q_or rfl rfl) (inte (or8 hM))) ?_
            refine e_as rfl ?_
            refine l_nil ?_
            refine k_blk_n ?_
            refine k_then_n ?_
            refine c_region ?_
            refine e_q (q_add rfl rfl (by omega) (by omega)) ?_
            refine e_mv rfl ?_
            refine l_n ?_
            exact t_nx (⟨x.d + 1, none, 0, none, 0, none, 0⟩ : Lp _) ⟨by (try simp only []); omega, by (try simp only []); omega⟩ (.c (.c (.c (.cons rfl (inte (congrArg Nat.cast (beN_next (by omega)).symm)) (.c (.c (.c (.nil _))))))))
          · try simp only [decide_eq_true_eq, decide_eq_false_iff_not] at h4
            have hk : x.d = ((B.xs.drop 1).take (B.xs.getD 0 default).toNat).length := by omega
            rw [hk, List.take_length]
            refine c_exit ?_
            refine k_then_x ?_
            refine k_then_x ?_
            refine k_blk_x ?_
            refine k_then_n ?_
            refine sr ?_
            refine e_mv rfl ?_
            refine e_mv rfl ?_
            refine e_q (q_nilCheck rfl) ?_
            refine e_q (q_fieldp rfl fo_213_0) ?_
            refine e_q (q_loadp (v := .slice B.a B.xs.length B.cap) sc_22 rfl pk_ rfl) ?_
            refine e_mv rfl ?_
            refine e_q (q_add rfl rfl (by omega) (by omega)) ?_
            refine e_q (q_as (v := .slice (sh B.a B.cap (1 + (B.xs.getD 0 default).toNat) 1) (B.xs.drop (1 + (B.xs.getD 0 default).toNat)).length (B.cap - (1 + (B.xs.getD 0 default).toNat))) (q_cut_lo Tryz.underlying22 sz_5 rfl rfl (by omega) (by omega)) (by rw [show ((1 : Int) + ((B.xs.getD 0 default).toNat : Int)).toNat = 1 + (B.xs.getD 0 default).toNat from by omega, List.length_drop])) ?_
            refine e_q (q_nilCheck rfl) ?_
            refine e_q (q_fieldp rfl fo_213_0) ?_
            refine l_step (s_s0 wn (s_storep (ws := [.slice (sh B.a B.cap (1 + (B.xs.getD 0 default).toNat) 1) ((B.xs.drop (1 + (B.xs.getD 0 default).toNat)).length) (B.cap - (1 + (B.xs.getD 0 default).toNat))]) (cs := encTaker1 (⟨B, e⟩ : Taker1)) (cs' := encTaker1 (⟨(dropS B (1 + (B.xs.getD 0 default).toNat)), e⟩ : Taker1)) rfl rfl rfl sz_22 (by simp [Value.oneCell', strB, ptV, SL.v, SH.v]) (by simp [encTaker1]) rfl pk_) ?_)
            rintro _ _ ⟨rfl, rfl⟩
            refine l_n ?_
            refine sr ?_
            refine e_mv rfl ?_
            refine e_as rfl ?_
            refine l_n ?_
            refine c_ret ?_
            exact t_rt [.pts t (encTaker1 (⟨(dropS B (1 + (B.xs.getD 0 default).toNat)), e⟩ : Taker1)) 213] rfl (.tmp rfl .nil) rfl ⟨rfl, _, _, beN ((B.xs.drop 1).take (B.xs.getD 0 default).toNat), rfl, rfl, Suf.drop B (by omega), beN_u64 (by omega), ⟨fun h => absurd h1 h, fun h => .inl ⟨(numT_good hne h2).2.2 h3, h⟩⟩⟩

theorem tcnt_spec (t : Nat) (B : SL UInt8) (e : Int) (sm : Bool) (ρ : Hp) (hB : B.ro encB 1 ρ) (hbl : B.xs.length ≤ 1000000000000) : Spec0 Tryz.prog 189 #[.pointer (some ⟨t, 0, none⟩), .bool sm] ρ [.pts t (encTaker1 (⟨B, e⟩ : Taker1)) 213] (fun w Γ' => ∃ (B' : SL UInt8) (e' : Int) (n : Nat), w = .int .i64 (n : Int) ∧ Γ' = [.pts t (encTaker1 (⟨B', e'⟩ : Taker1)) 213] ∧ Suf B B' ∧ RCnt sm B e n B' e') := by
  refine spec_of (n := 38) (vs := [_, _]) (σ := [(0, _), (1, _)]) Tryz.func189 rfl rfl rfl rfl fun E Δ => ?_
  simp only [List.cons_append, List.nil_append]
  refine sr ?_
  refine e_as rfl ?_
  refine l_n ?_
  refine sr ?_
  refine e_mv rfl ?_
  refine e_fn Tryz.func188 rfl sl_ (fun ρ' hL => tnum_spec t B e ρ' (Ro.mono hL.1 hB)) ?_
  rintro _ _ ⟨B1, e1, n1, rfl, rfl, hsf, hn64, hR⟩
  try simp only [List.cons_append, List.nil_append]
  refine e_as rfl ?_
  refine l_n ?_
  refine c_seq ?_
  refine c_block ?_
  refine sr ?_
  have hB1 := hsf.2
  refine e_mv rfl ?_
  refine e_mv rfl ?_
  refine l_step (s_qg rfl (ask_t rfl rfl) (b := sm) (fun hb => q_move rfl) ?_)
  refine l_step (s_qg rfl (ask_t rfl rfl) (b := sm) (fun hb => q_move rfl) ?_)
  refine l_step (s_qg rfl (ask_t rfl rfl) (b := sm) (fun hb => OpQ.env (.cons rfl (gd_t hb) (.nil _) : EnvLe [(12, .pointer (some ⟨t, 0, none⟩))] _) (q_nilCheck rfl)) ?_)
  refine l_step (s_qg rfl (ask_t rfl rfl) (b := sm) (fun hb => OpQ.env (.cons rfl (gd_t hb) (.nil _) : EnvLe [(13, .pointer (some ⟨t, 0, none⟩))] _) (q_fieldp rfl fo_213_0)) ?_)
  refine l_step (s_qg rfl (ask_t rfl rfl) (b := sm) (fun hb => OpQ.env (.cons rfl (gd_t hb) (.nil _) : EnvLe [(14, .pointer (some ⟨t, 0, none⟩))] _) (q_loadp (v := .slice B1.a B1.xs.length B1.cap) sc_22 rfl pk_ rfl)) ?_)
  refine l_step (s_qg rfl (ask_t rfl rfl) (b := sm) (fun hb => OpQ.env (.cons rfl (gd_t hb) (.nil _) : EnvLe [(15, .slice B1.a B1.xs.length B1.cap)] _) (q_len Tryz.underlying22 rfl)) ?_)
  refine l_step (s_qg rfl (ask_t rfl rfl) (b := sm) (fun hb => OpQ.env (.cons rfl (gd_t hb) (.nil _) : EnvLe [(16, .int .i64 (B1.xs.length : Int))] _) (q_conv rfl Tryz.underlying3 Tryz.underlying128 (by first | assumption | exact wrap_u64 (by first | omega | (have hb2 := hb; (try simp only [Bool.and_eq_true, Bool.or_eq_true, Bool.not_eq_true', Bool.and_eq_false_iff, Bool.or_eq_false_iff, Bool.not_eq_false', decide_eq_true_eq, decide_eq_false_iff_not, Bool.not_eq_eq_eq_not, Bool.not_true, Bool.not_false, Bool.not_eq_true, Bool.not_eq_false, beq_iff_eq, bne_iff_ne, ne_eq, Decidable.not_not] at hb2); omega)) (by first | omega | (have hb2 := hb; (try simp only [Bool.and_eq_true, Bool.or_eq_true, Bool.not_eq_true', Bool.and_eq_false_iff, Bool.or_eq_false_iff, Bool.not_eq_false', decide_eq_true_eq, decide_eq_false_iff_not, Bool.not_eq_eq_eq_not, Bool.not_true, Bool.not_false, Bool.not_eq_true, Bool.not_eq_false, beq_iff_eq, bne_iff_ne, ne_eq, Decidable.not_not] at hb2); omega))))) ?_)
  refine l_step (s_qg rfl (ask_t rfl rfl) (b := sm) (fun hb => OpQ.env (.cons rfl (gd_t hb) (.cons rfl (gd_t hb) (.nil _)) : EnvLe [(11, .int .u64 (n1 : Int)), (17, .int .u64 (B1.xs.length : Int))] _) (q_gtr rfl rfl)) ?_)
  refine e_q (q_pick_and rfl rfl rfl (fun h => h)) ?_
  refine e_as rfl ?_
  refine l_n ?_
  refine c_cond rfl (fun h0 => ?_) (fun h0 => ?_)
  · try simp only [decide_eq_true_eq, decide_eq_false_iff_not, Bool.and_eq_true, Bool.and_eq_false_iff] at h0
    refine c_region ?_
    refine e_mv rfl ?_
    refine e_fn Tryz.func141 rfl sl_ (fun ρ' hL => fail_spec t B1 e1 11 ρ') ?_
    rintro _ _ ⟨rfl, rfl⟩
    try simp only [List.cons_append, List.nil_append]
    refine l_nil ?_
    refine k_blk_n ?_
    refine k_then_n ?_
    refine c_seq ?_
    refine sr ?_
    refine e_mv rfl ?_
    refine e_q (q_nilCheck rfl) ?_
    refine e_q (q_fieldp rfl fo_213_1) ?_
    refine e_q (q_loadp (v := .int .i64 (if e1 = 0 then 11 else e1)) sc_28 rfl pk_ rfl) ?_
    refine e_q (q_neq rfl rfl) ?_
    refine l_n ?_
    refine c_sure true rfl (decide_eq_true (by split <;> omega)) ?_
    simp only [Bool.false_eq_true, if_true, if_false]
    refine sr ?_
    refine e_as rfl ?_
    refine l_n ?_
    refine c_ret ?_
    refine k_then_r ?_
    exact t_rt [.pts t (encTaker1 (⟨B1, (if e1 = 0 then 11 else e1)⟩ : Taker1)) 213] rfl (.tmp rfl .nil) rfl ⟨rfl, _, _, 0, rfl, rfl, hsf, cnt_short hR ⟨h0.1, by omega⟩⟩
  · try simp only [decide_eq_true_eq, decide_eq_false_iff_not, Bool.and_eq_true, Bool.and_eq_false_iff] at h0
    refine sr ?_
    refine e_mv rfl ?_
    refine e_q (q_not rfl) ?_
    refine e_mv rfl ?_
    refine l_step (s_qg rfl (ask_t rfl rfl) (b := (!sm)) (fun hb => q_move rfl) ?_)
    refine l_step (s_qg rfl (ask_t rfl rfl) (b := (!sm)) (fun hb => OpQ.env (.cons rfl (gd_t hb) (.nil _) : EnvLe [(26, .int .u64 (n1 : Int))] _) (q_gtr rfl rfl)) ?_)
    refine e_q (q_pick_and rfl rfl rfl (fun h => h)) ?_
    refine e_as rfl ?_
    refine l_n ?_
    refine c_cond rfl (fun h1 => ?_) (fun h1 => ?_)
    · try simp only [decide_eq_true_eq, decide_eq_false_iff_not, Bool.and_eq_true, Bool.and_eq_false_iff, Bool.not_eq_true', Bool.not_eq_false', Bool.not_eq_true, Bool.not_eq_false, ne_eq, Decidable.not_not] at h1
      refine c_region ?_
      refine e_mv rfl ?_
      refine e_fn Tryz.func141 rfl sl_ (fun ρ' hL => fail_spec t B1 e1 13 ρ') ?_
      rintro _ _ ⟨rfl, rfl⟩
      try simp only [List.cons_append, List.nil_append]
      refine l_nil ?_
      refine k_blk_n ?_
      refine k_then_n ?_
      refine c_seq ?_
      refine sr ?_
      refine e_mv rfl ?_
      refine e_q (q_nilCheck rfl) ?_
      refine e_q (q_fieldp rfl fo_213_1) ?_
      refine e_q (q_loadp (v := .int .i64 (if e1 = 0 then 13 else e1)) sc_28 rfl pk_ rfl) ?_
      refine e_q (q_neq rfl rfl) ?_
      refine l_n ?_
      refine c_sure true rfl (decide_eq_true (by split <;> omega)) ?_
      simp only [Bool.false_eq_true, if_true, if_false]
      refine sr ?_
      refine e_as rfl ?_
      refine l_n ?_
      refine c_ret ?_
      refine k_then_r ?_
      exact t_rt [.pts t (encTaker1 (⟨B1, (if e1 = 0 then 13 else e1)⟩ : Taker1)) 213] rfl (.tmp rfl .nil) rfl ⟨rfl, _, _, 0, rfl, rfl, hsf, cnt_form hR ⟨h1.1, by omega⟩⟩
    · try simp only [decide_eq_true_eq, decide_eq_false_iff_not, Bool.and_eq_true, Bool.and_eq_false_iff, Bool.not_eq_true', Bool.not_eq_false', Bool.not_eq_true, Bool.not_eq_false, ne_eq, Decidable.not_not] at h1
      refine c_skip ?_
      refine k_blk_n ?_
      refine k_then_n ?_
      refine c_seq ?_
      refine sr ?_
      refine e_mv rfl ?_
      refine e_q (q_nilCheck rfl) ?_
      refine e_q (q_fieldp rfl fo_213_1) ?_
      refine e_q (q_loadp (v := .int .i64 e1) sc_28 rfl pk_ rfl) ?_
      refine e_q (q_neq rfl rfl) ?_
      refine l_n ?_
      refine c_cond rfl (fun h2 => ?_) (fun h2 => ?_)
      · try simp only [decide_eq_true_eq, decide_eq_false_iff_not, ne_eq, Decidable.not_not] at h2
        refine sr ?_
        refine e_as rfl ?_
        refine l_n ?_
        refine c_ret ?_
        refine k_then_r ?_
        exact t_rt [.pts t (encTaker1 (⟨B1, e1⟩ : Taker1)) 213] rfl (.tmp rfl .nil) rfl ⟨rfl, _, _, 0, rfl, rfl, hsf, cnt_err hR h2⟩
      · try simp only [decide_eq_true_eq, decide_eq_false_iff_not, ne_eq, Decidable.not_not] at h2
        have hCk := cnt_ok (some_ := sm) hR h2 (fun h => by rcases h0 with h9 | h9; exact absurd h.1 (by rw [h9]; decide); omega) (fun h => by rcases h1 with h9 | h9; exact absurd h.1 (by rw [h9]; decide); omega)
        have hnb := hCk.bd
        refine c_skip ?_
        refine k_then_n ?_
        refine sr ?_
        refine e_mv rfl ?_
        refine e_q (q_conv rfl Tryz.underlying128 Tryz.underlying3 (by first | assumption | exact wrap_i64 (by omega) (by omega))) ?_
        refine e_as rfl ?_
        refine l_n ?_
        refine c_ret ?_
        exact t_rt [.pts t (encTaker1 (⟨B1, e1⟩ : Taker1)) 213] rfl (.tmp rfl .nil) rfl ⟨rfl, _, _, n1, rfl, rfl, hsf, hCk⟩

theorem kindI_spec (s_a : Option Addr) (s_n s_c : Nat) (s : List (Option Nat)) (hs_n : s.length = s_n) (f : Nat) (cs : List Value) (bs : List Bool) (L : List Asn) (ρ : Hp) (hro : Ro ρ 1 s_a s_n s_c (s.flatMap encPt)) (hE : Go.SL.Enters Tryz.prog f) (hbl : bs.length = s_n) (hp : ∀ i, i < s_n → ∀ ρ' : Hp, ρ.le ρ' → Spec0 Tryz.prog f ([ptV (s.getD i default)] ++ cs).toArray ρ' [Bun L] (fun v Γ' => v = .bool (bs.getD i false) ∧ Γ' = [Bun L])) : Spec0 Tryz.prog 256 #[.slice s_a s_n s_c, .func (.func f) #[] cs.toArray] ρ [Bun L] (fun v Γ' => v = .int .i64 (idxB bs) ∧ Γ' = [Bun L]) := by
  refine spec_of (n := 19) (vs := [_, _]) (σ := [(0, _), (1, _)]) Tryz.func256 rfl rfl rfl rfl fun E Δ => ?_
  simp only [List.cons_append, List.nil_append]
  have hrob : s_n ≤ 9223372036854775807 := Nat.le_trans hro.2.1 hro.2.2.1
  refine sr ?_
  refine e_as rfl ?_
  refine l_n ?_
  refine c_seq ?_
  refine sr ?_
  refine e_mv rfl ?_
  refine e_q (q_len Tryz.underlying266 rfl) ?_
  refine e_mv rfl ?_
  refine l_n ?_
  refine c_block ?_
  refine Tr.env (σ' := [(0, _), (1, _), (7, _), (8, _)]) ev_ ?_
  refine t_loop (ι := Lp (Nat)) (fun x => x.d ≤ s_n ∧ (bs.take x.d).any id = false) (fun x => s_n - x.d) (fun x => [(0, .slice s_a s_n s_c), (1, (.func (.func f) #[] cs.toArray)), (7, .int .i64 (s_n : Int)), (8, .int .i64 (x.d : Int))]) (fun x => Bun L :: Δ) (⟨0, none, 0, none, 0, none, 0⟩ : Lp _) ⟨Nat.zero_le _, rfl⟩ ?_ ?_ ?_
  · exact .c (.c (.c (.c (.nil _))))
  · exact en_
  intro x hx
  obtain ⟨hx1, hx2⟩ := hx
  refine sr ?_
  refine e_q (q_lss rfl rfl) ?_
  refine l_n ?_
  refine c_seq ?_
  refine c_cond rfl (fun h0 => ?_) (fun h0 => ?_)
  · try simp only [decide_eq_true_eq, decide_eq_false_iff_not] at h0
    refine c_skip ?_
    refine k_then_n ?_
    refine c_seq ?_
    refine c_block ?_
    refine sr ?_
    refine e_mv rfl ?_
    refine e_as rfl ?_
    refine l_n ?_
    refine sr ?_
    refine e_mv rfl ?_
    refine e_mv rfl ?_
    refine e_mv rfl ?_
    refine e_q (q_indexe x.d Tryz.underlying266 sz_209 rfl rfl (by first | assumption | exact rd_ro (by assumption) | exact rd_bun (L := L) pk_ (in_map _ (by first | assumption | omega | (simp only [List.length_cons, List.length_nil]; omega) | decide) rfl) | exact rd_row pk_) (by decide) rfl (by first | assumption | omega | (simp only [List.length_cons, List.length_nil]; omega))) ?_
    refine e_q (q_loade (enc := encPt) (xs := s) (j := x.d) (off := 0) sc_209 rfl (by first | assumption | exact rd_ro (by assumption) | exact rd_bun (L := L) pk_ (in_map _ (by first | assumption | omega | (simp only [List.length_cons, List.length_nil]; omega) | decide) rfl) | exact rd_row pk_) (fun _ => rfl) (by first | assumption | omega | (simp only [List.length_cons, List.length_nil]; omega)) (by decide) rfl) ?_
    refine l_step (s_clob rfl wn hE rfl rfl sl_ (fun ρ' hL => hp x.d (by omega) ρ' hL.1) ?_)
    rintro _ _ ⟨rfl, rfl⟩
    try simp only [List.cons_append, List.nil_append]
    refine l_n ?_
    refine c_cond rfl (fun h1 => ?_) (fun h1 => ?_)
    · skip
      refine sr ?_
      refine e_mv rfl ?_
      refine e_as rfl ?_
      refine l_n ?_
      refine c_ret ?_
      refine k_blk_r ?_
      refine k_then_r ?_
      refine k_then_r ?_
      refine k_blk_r ?_
      refine k_then_r ?_
      exact t_rt [Bun L] rfl (.tmp rfl .nil) rfl ⟨rfl, inte (idxB_at (by omega) hx2 h1).symm, rfl⟩
    · skip
      refine c_skip ?_
      refine k_blk_n ?_
      refine k_then_n ?_
      refine c_region ?_
      refine e_q (q_add rfl rfl (by omega) (by omega)) ?_
      refine e_mv rfl ?_
      refine l_n ?_
      exact t_nx (⟨x.d + 1, none, 0, none, 0, none, 0⟩ : Lp _) ⟨⟨by (try simp only []); omega, any_succB (by omega) hx2 h1⟩, by (try simp only []); omega⟩ (.c (.c (.c (.c (.nil _)))))
  · try simp only [decide_eq_true_eq, decide_eq_false_iff_not] at h0
    have hk : x.d = bs.length := by omega
    rw [hk, List.take_length] at hx2
    refine c_exit ?_
    refine k_then_x ?_
    refine k_then_x ?_
    refine k_blk_x ?_
    refine k_then_n ?_
    refine sr ?_
    refine e_as rfl ?_
    refine l_n ?_
    refine c_ret ?_
    exact t_rt [Bun L] rfl (.tmp rfl .nil) rfl ⟨rfl, inte (idxB_none hx2).symm, rfl⟩

theorem kindC_spec (s_a : Option Addr) (s_n s_c : Nat) (s : List (Option Nat)) (hs_n : s.length = s_n) (f : Nat) (cs : List Value) (bs : List Bool) (L : List Asn) (ρ : Hp) (hro : Ro ρ 1 s_a s_n s_c (s.flatMap encPt)) (hE : Go.SL.Enters Tryz.prog f) (hbl : bs.length = s_n) (hp : ∀ i, i < s_n → ∀ ρ' : Hp, ρ.le ρ' → Spec0 Tryz.prog f ([ptV (s.getD i default)] ++ cs).toArray ρ' [Bun L] (fun v Γ' => v = .bool (bs.getD i false) ∧ Γ' = [Bun L])) : Spec0 Tryz.prog 227 #[.slice s_a s_n s_c, .func (.func f) #[] cs.toArray] ρ [Bun L] (fun v Γ' => v = .bool (bs.any id) ∧ Γ' = [Bun L]) := by
  refine spec_of (n := 9) (vs := [_, _]) (σ := [(0, _), (1, _)]) Tryz.func227 rfl rfl rfl rfl fun E Δ => ?_
  simp only [List.cons_append, List.nil_append]
  refine sr ?_
  refine e_as rfl ?_
  refine l_n ?_
  refine sr ?_
  refine e_mv rfl ?_
  refine e_mv rfl ?_
  refine e_fn Tryz.func256 rfl sl_ (fun ρ' hL => kindI_spec s_a s_n s_c s hs_n f cs bs L ρ' (hL.ro hro) hE hbl (fun i hi ρ'' hl => hp i hi ρ'' (hL.1.le_trans hl))) ?_
  rintro _ _ ⟨rfl, rfl⟩
  try simp only [List.cons_append, List.nil_append]
  refine e_q (q_geq rfl rfl) ?_
  refine e_as rfl ?_
  refine l_n ?_
  refine c_ret ?_
  exact t_rt [Bun L] rfl (.tmp rfl .nil) rfl ⟨rfl, boole (idxB_any bs), rfl⟩

def SomeOk (k : KT) : Prop := ∀ (ρ : Hp), KOk k → Spec0 Tryz.prog 190 #[.pointer (some ⟨k.blk, 0, none⟩)] ρ [KA 268 209 k] (fun w Γ' => w = .bool (someS k.s) ∧ Γ' = [KA 268 209 k])

theorem some__spec (k : KT) (ρ : Hp) (ih : ∀ t : KT, t.s.wt < k.s.wt → SomeOk t) (hk : KOk k) : Spec0 Tryz.prog 190 #[.pointer (some ⟨k.blk, 0, none⟩)] ρ [KA 268 209 k] (fun w Γ' => w = .bool (someS k.s) ∧ Γ' = [KA 268 209 k]) := by
  refine spec_of (n := 15) (vs := [_]) (σ := [(0, _)]) Tryz.func190 rfl rfl rfl rfl fun E Δ => ?_
  simp only [List.cons_append, List.nil_append]
  refine Tr.ent (k_open (tk := 268) (tp := 209) (k := k) pk_) ?_
  refine sr ?_
  refine e_as rfl ?_
  refine l_n ?_
  refine sr ?_
  refine e_mv rfl ?_
  refine e_q (q_nilCheck rfl) ?_
  refine e_q (q_fieldp rfl fo_268_0) ?_
  refine e_q (q_loadp (v := .int .u8 ((wh k.s).toNat : Int)) sc_5 rfl pk_ rfl) ?_
  refine e_q (q_neq rfl rfl) ?_
  refine e_mv rfl ?_
  refine t_split (d := 8) rfl (fun g1_5 => ?_) (fun g1_5 => ?_)
  · try simp only [decide_eq_true_eq, decide_eq_false_iff_not, ne_eq, Decidable.not_not] at g1_5
    refine l_step (s_no rfl (wno rfl rfl (by decide)) ?_)
    refine l_step (s_no rfl (wno rfl rfl (by decide)) ?_)
    refine l_step (s_no rfl (wno rfl rfl (by decide)) ?_)
    refine l_step (s_no rfl (wno rfl rfl (by decide)) ?_)
    refine l_step (s_no rfl (wno rfl rfl (by decide)) ?_)
    refine e_q (q_pick rfl rfl rfl) ?_
    refine e_as rfl ?_
    refine l_n ?_
    refine c_ret ?_
    refine Tr.ent (Ent.trans (Ent.pick (A := .pts k.blk (encKind1 (⟨(wh k.s), ⟨k.a, k.kids.length, k.cap⟩⟩ : Kind1)) 268) pk_ (Ent.pick (A := .row 209 1 k.a k.kids.length k.cap ((k.kids.map KT.pt).flatMap encPt)) pk_ (Ent.pick (A := Bun (k.kids.map (KA 268 209))) pk_ (Ent.refl _)))) (k_same (tk := 268) (tp := 209) (k := k))) ?_
    exact t_rt [KA 268 209 k] rfl (.tmp rfl .nil) rfl ⟨rfl, boole (some_leaf (by omega)).symm, rfl⟩
  · try simp only [decide_eq_true_eq, decide_eq_false_iff_not, ne_eq, Decidable.not_not] at g1_5
    obtain ⟨l, hs2⟩ := wh_row (s := k.s) (by omega)
    refine e_qw (wy rfl rfl rfl) (q_move rfl) ?_
    refine e_qw (wy rfl rfl rfl) (q_nilCheck rfl) ?_
    refine e_qw (wy rfl rfl rfl) (q_fieldp rfl fo_268_1) ?_
    refine e_qw (wy rfl rfl rfl) (q_loadp (v := .slice k.a k.kids.length k.cap) sc_266 rfl pk_ rfl) ?_
    refine e_fnw (wy rfl rfl rfl) Tryz.func227 rfl sl_ (fun ρ' hL => kindC_spec k.a k.kids.length k.cap (k.kids.map KT.pt) (by rw [List.length_map]) 190 [] (k.kids.map fun x => someS x.s) (k.kids.map (KA 268 209)) ρ' (hL.row pk_) ⟨_, _, Tryz.func190, rfl, rfl⟩ (by rw [List.length_map]) (fun i hi ρ'' hl => by rw [kid_pt hi, show (k.kids.map fun x => someS x.s).getD i false = someS (k.kids.getD i default).s from by simp [List.getD, hi]]; exact spec0_part (i := i) (by simpa using hi) (by simp [List.getD, hi]) (ih _ (wt_kid hk (getD_in hi)) ρ'' (hk.at_ hi).1))) ?_
    rintro _ _ ⟨rfl, rfl⟩
    try simp only [List.cons_append, List.nil_append]
    rw [somes_kids hk hs2]
    refine e_q (q_pick rfl rfl rfl) ?_
    refine e_as rfl ?_
    refine l_n ?_
    refine c_ret ?_
    refine Tr.ent (Ent.trans (Ent.pick (A := .pts k.blk (encKind1 (⟨(wh k.s), ⟨k.a, k.kids.length, k.cap⟩⟩ : Kind1)) 268) pk_ (Ent.pick (A := .row 209 1 k.a k.kids.length k.cap ((k.kids.map KT.pt).flatMap encPt)) pk_ (Ent.pick (A := Bun (k.kids.map (KA 268 209))) pk_ (Ent.refl _)))) (k_same (tk := 268) (tp := 209) (k := k))) ?_
    exact t_rt [KA 268 209 k] rfl (.tmp rfl .nil) rfl ⟨rfl, rfl, rfl⟩

theorem some_ok : ∀ (n : Nat) (k : KT), k.s.wt ≤ n → SomeOk k
  | 0, k, h => by cases hs : k.s <;> rw [hs] at h <;> simp [Sh.wt] at h
  | n + 1, k, h => fun ρ hk => some__spec k ρ (fun t ht => some_ok n t (by omega)) hk
theorem some_spec (k : KT) (ρ : Hp) (hk : KOk k) : Spec0 Tryz.prog 190 #[.pointer (some ⟨k.blk, 0, none⟩)] ρ [KA 268 209 k] (fun w Γ' => w = .bool (someS k.s) ∧ Γ' = [KA 268 209 k]) := some_ok _ k (Nat.le_refl _) ρ hk
end Go.Mou

/-
  Package mould, walked.
-/
set_option maxRecDepth 100000
set_option maxHeartbeats 4000000
set_option linter.unusedSimpArgs false
set_option linter.unusedVariables false
namespace Go.Mou
open Go Go.SL Go.Proofs Go.Mou
attribute [local irreducible] Go.SL.Ent
theorem sz_128 : sizeIs Tryz.prog 128 = some 1 := by kernel_rfl
theorem eo_131 : elemOk Tryz.prog 131 3 56 = true := by kernel_rfl
theorem sz_129 : sizeIs Tryz.prog 129 = some 1 := by kernel_rfl

theorem clone_spec (b_a : Option Addr) (b_n b_c : Nat) (b : List UInt8) (hb_n : b.length = b_n) (ρ : Hp) (hl : b_n ≤ 1000000000000) (hro : Ro ρ 1 b_a b_n b_c (b.flatMap encB)) : Spec0 Tryz.prog 89 #[.slice b_a b_n b_c] ρ [] (fun v Γ' => ∃ a c, v = .slice a b_n c ∧ Γ' = [.row 5 1 a b_n c (b.flatMap encB)]) := by
  refine spec_of (n := 8) (vs := [_]) (σ := [(0, _)]) Tryz.func89 rfl rfl rfl rfl fun E Δ => ?_
  rw [List.nil_append]
  refine sr ?_
  refine e_as rfl ?_
  refine l_n ?_
  refine c_seq ?_
  refine sr ?_
  refine e_mv rfl ?_
  refine e_q (q_eqnil Tryz.underlying22 rfl rfl) ?_
  refine l_n ?_
  refine c_cond rfl (fun h0 => ?_) (fun h0 => ?_)
  · skip
    obtain ⟨e1, e2⟩ := ro_nil8 hro h0 hb_n
    subst e1
    subst e2
    refine sr ?_
    refine e_as rfl ?_
    refine l_n ?_
    refine c_ret ?_
    refine k_then_r ?_
    refine Tr.ent (Ent.nilrow 5 1 _) ?_
    exact t_rt [.row 5 1 none 0 0 (([] : List UInt8).flatMap encB)] rfl (.tmp rfl .nil) rfl ⟨rfl, none, 0, rfl, rfl⟩
  · skip
    refine c_skip ?_
    refine k_then_n ?_
    refine sr ?_
    refine e_s (s_buildSlice (cs := ([] : List UInt8).flatMap encB) Tryz.underlying22 eo_5 rfl rfl rfl rfl (by decide) (by decide)) ?_
    rintro _ _ ⟨b5, rfl, rfl⟩
    refine e_mv rfl ?_
    refine e_s (s_appendn (enc := encB) (xs := ([] : List UInt8)) (ys := (b : List UInt8)) (Γ' := fun a' cap' => _) Tryz.underlying22 eo_5 (by decide) rfl rfl (by first | assumption | exact rd_ro (by assumption) | exact rd_row pk_) (oneB _) (by first | omega | (simp only [List.length_append, List.length_cons, List.length_nil] at *; omega)) (by first | omega | (simp only [List.length_append, List.length_cons, List.length_nil] at *; omega)) (fun _ _ => pk_)) ?_
    rintro _ _ ⟨a7, c7, rfl, rfl⟩
    simp only [Nat.zero_add, List.nil_append]
    refine e_as rfl ?_
    refine l_n ?_
    refine c_ret ?_
    exact t_rt [.row 5 1 a7 b_n c7 (b.flatMap encB)] rfl (.tmp rfl .nil) rfl ⟨rfl, a7, c7, rfl, rfl⟩

def TakeOk (k : KT) : Prop := ∀ (t : Nat) (B : SL UInt8) (e : Int) (ρ : Hp), KOk k → B.ro encB 1 ρ → B.xs.length ≤ 1000000000000 → k.s.wt ≤ 1000000 → Spec0 Tryz.prog 140 #[.pointer (some ⟨k.blk, 0, none⟩), .pointer (some ⟨t, 0, none⟩)] ρ [.pts t (encTaker1 (⟨B, e⟩ : Taker1)) 213, KA 268 209 k] (fun w Γ' => ∃ (v : VT) (B' : SL UInt8) (e' : Int), w = .agg (encVal1 v.val).toArray ∧ Γ' = [KA 268 209 k, .pts t (encTaker1 (⟨B', e'⟩ : Taker1)) 213, VA 5 131 v] ∧ Suf B B' ∧ RTk k.s B e v.pv B' e')

theorem take__spec (k : KT) (t : Nat) (B : SL UInt8) (e : Int) (ρ : Hp) (ih : ∀ t : KT, t.s.wt < k.s.wt → TakeOk t) (hk : KOk k) (hB : B.ro encB 1 ρ) (hbl : B.xs.length ≤ 1000000000000) (hwt : k.s.wt ≤ 1000000) : Spec0 Tryz.prog 140 #[.pointer (some ⟨k.blk, 0, none⟩), .pointer (some ⟨t, 0, none⟩)] ρ [.pts t (encTaker1 (⟨B, e⟩ : Taker1)) 213, KA 268 209 k] (fun w Γ' => ∃ (v : VT) (B' : SL UInt8) (e' : Int), w = .agg (encVal1 v.val).toArray ∧ Γ' = [KA 268 209 k, .pts t (encTaker1 (⟨B', e'⟩ : Taker1)) 213, VA 5 131 v] ∧ Suf B B' ∧ RTk k.s B e v.pv B' e') := by
  refine spec_of (n := 90) (vs := [_, _]) (σ := [(0, _), (1, _)]) Tryz.func140 rfl rfl rfl rfl fun E Δ => ?_
  simp only [List.cons_append, List.nil_append]
  refine Tr.ent (k_open (tk := 268) (tp := 209) (k := k) pk_) ?_
  refine sr ?_
  refine e_s (s_allocz (cs := encVal1 zVal1) (by kernel_rfl)) ?_
  rintro _ _ ⟨b4, rfl, rfl⟩
  refine l_n ?_
  refine sr ?_
  refine e_s (s_allocz (cs := encVal1 zVal1) (by kernel_rfl)) ?_
  rintro _ _ ⟨b5, rfl, rfl⟩
  refine l_n ?_
  refine c_seq ?_
  refine sr ?_
  refine e_mv rfl ?_
  refine e_q (q_nilCheck rfl) ?_
  refine e_q (q_fieldp rfl fo_268_0) ?_
  refine e_q (q_loadp (v := .int .u8 ((wh k.s).toNat : Int)) sc_5 rfl pk_ rfl) ?_
  refine l_n ?_
  refine c_block ?_
  refine sr ?_
  refine e_q (q_eql rfl rfl) ?_
  refine e_as rfl ?_
  refine l_n ?_
  refine c_cond rfl (fun h0 => ?_) (fun h0 => ?_)
  · try simp only [decide_eq_true_eq, decide_eq_false_iff_not] at h0
    have hs2 : k.s = .n := wh_n (by omega)
    refine c_region ?_
    refine e_mv rfl ?_
    refine e_fn Tryz.func188 rfl sl_ (fun ρ' hL => tnum_spec t B e ρ' (Ro.mono hL.1 hB)) ?_
    rintro _ _ ⟨B1, e1, n1, rfl, rfl, hsf, hn64, hR⟩
    try simp only [List.cons_append, List.nil_append]
    refine e_q (q_fieldp rfl fo_131_0) ?_
    refine l_step (s_s0 wn (s_storep (ws := [.int .u64 (n1 : Int)]) (cs := encVal1 (⟨0, (⟨none, [], 0⟩ : SL UInt8), ⟨none, 0, 0⟩⟩ : Val1)) (cs' := encVal1 (⟨n1, (⟨none, [], 0⟩ : SL UInt8), ⟨none, 0, 0⟩⟩ : Val1)) rfl rfl rfl sz_128 (by simp [Value.oneCell', strB, ptV, SL.v, SH.v]) (by simp [encVal1]) rfl pk_) ?_)
    rintro _ _ ⟨rfl, rfl⟩
    refine l_nil ?_
    refine k_blk_n ?_
    refine k_then_n ?_
    refine sr ?_
    refine e_q (q_loadpa (vs := encVal1 (⟨n1, (⟨none, [], 0⟩ : SL UInt8), ⟨none, 0, 0⟩⟩ : Val1)) ag_131 rfl pk_ rfl) ?_
    refine l_step (s_s0 wn (s_storep (ws := encVal1 (⟨n1, (⟨none, [], 0⟩ : SL UInt8), ⟨none, 0, 0⟩⟩ : Val1)) (cs := encVal1 zVal1) (cs' := encVal1 (⟨n1, (⟨none, [], 0⟩ : SL UInt8), ⟨none, 0, 0⟩⟩ : Val1)) rfl rfl rfl sz_131 (oneVal1 _) (by simp [encVal1, encVal1]) rfl pk_) ?_)
    rintro _ _ ⟨rfl, rfl⟩
    refine l_n ?_
    refine c_ret ?_
    refine Tr.ent (Ent.trans (Ent.pick (A := .pts k.blk (encKind1 (⟨(wh k.s), ⟨k.a, k.kids.length, k.cap⟩⟩ : Kind1)) 268) pk_ (Ent.pick (A := .row 209 1 k.a k.kids.length k.cap ((k.kids.map KT.pt).flatMap encPt)) pk_ (Ent.pick (A := Bun (k.kids.map (KA 268 209))) pk_ (Ent.refl _)))) (k_same (tk := 268) (tp := 209) (k := k))) ?_
    refine Tr.ent (Ent.nilrow 5 1 _) ?_
    refine Tr.ent (Ent.nilrow 131 3 _) ?_
    refine Tr.ent (bun_nil _) ?_
    refine Tr.ent (Ent.trans (Ent.pick (A := .row 5 1 none 0 0 (([] : List UInt8).flatMap encB)) pk_ (Ent.pick (A := .row 131 3 none 0 0 ((([] : List VT).map VT.val).flatMap encVal1)) pk_ (Ent.pick (A := Bun (([] : List VT).map (VA 5 131))) pk_ (Ent.refl _)))) (v_shut (tu := 5) (tv := 131) (n := n1) (b := (⟨none, [], 0⟩ : SL UInt8)) (a := none) (c := 0) (l := ([] : List VT)))) ?_
    exact t_rt [KA 268 209 k, .pts t (encTaker1 (⟨B1, e1⟩ : Taker1)) 213, VA 5 131 (.mk n1 (⟨none, [], 0⟩ : SL UInt8) none 0 ([] : List VT))] rfl (.cell rfl pk_ (fun w h => ld_agg (by exact ag_131) h) .nil) rfl ⟨rfl, _, _, _, rfl, rfl, hsf, by rw [hs2]; exact tk_n hR⟩
  · try simp only [decide_eq_true_eq, decide_eq_false_iff_not] at h0
    refine sr ?_
    refine e_q (q_eql rfl rfl) ?_
    refine e_as rfl ?_
    refine l_n ?_
    refine c_cond rfl (fun h1 => ?_) (fun h1 => ?_)
    · try simp only [decide_eq_true_eq, decide_eq_false_iff_not] at h1
      have hs2 : k.s = .b := wh_b (by omega)
      refine sr ?_
      refine e_mv rfl ?_
      refine e_fn Tryz.func189 rfl sl_ (fun ρ' hL => tcnt_spec t B e true ρ' (Ro.mono hL.1 hB) hbl) ?_
      rintro _ _ ⟨B1, e1, n1, rfl, rfl, hsf, hC⟩
      try simp only [List.cons_append, List.nil_append]
      have hB1 : B1.ro encB 1 ρ := hsf.1 ρ hB
      have hB1r : Ro ρ 1 B1.a B1.xs.length B1.cap (B1.xs.flatMap encB) := hB1
      have hcap1 : B1.xs.length ≤ B1.cap := hB1r.2.1
      have hle1 := hsf.2
      have hnb := hC.bd
      refine e_as rfl ?_
      refine l_n ?_
      refine sr ?_
      have hnl := hC.le
      refine e_mv rfl ?_
      refine e_q (q_nilCheck rfl) ?_
      refine e_q (q_fieldp rfl fo_213_0) ?_
      refine e_q (q_loadp (v := .slice B1.a B1.xs.length B1.cap) sc_22 rfl pk_ rfl) ?_
      refine e_mv rfl ?_
      refine e_q (q_as (v := .slice B1.a (B1.xs.take n1).length B1.cap) (q_cut_hi Tryz.underlying22 sz_5 rfl rfl (by omega) (by omega)) (by congr 1; rw [List.length_take]; omega)) ?_
      refine e_fn Tryz.func89 rfl sl_ (fun ρ' hL => clone_spec B1.a (B1.xs.take n1).length B1.cap (B1.xs.take n1) rfl ρ' (by rw [List.length_take]; omega) (Ro.mono hL.1 (ro_takeS hB1 hnl))) ?_
      rintro _ _ ⟨aC, cC, rfl, rfl⟩
      try simp only [List.cons_append, List.nil_append]
      refine e_q (q_fieldp rfl fo_131_1) ?_
      refine l_step (s_s0 wn (s_storep (ws := [.slice aC ((B1.xs.take n1).length) cC]) (cs := encVal1 (⟨0, (⟨none, [], 0⟩ : SL UInt8), ⟨none, 0, 0⟩⟩ : Val1)) (cs' := encVal1 (⟨0, (⟨aC, (B1.xs.take n1), cC⟩ : SL UInt8), ⟨none, 0, 0⟩⟩ : Val1)) rfl rfl rfl sz_22 (by simp [Value.oneCell', strB, ptV, SL.v, SH.v]) (by simp [encVal1]) rfl pk_) ?_)
      rintro _ _ ⟨rfl, rfl⟩
      refine l_n ?_
      refine c_region ?_
      refine e_mv rfl ?_
      refine e_mv rfl ?_
      refine e_q (q_nilCheck rfl) ?_
      refine e_q (q_fieldp rfl fo_213_0) ?_
      refine e_q (q_loadp (v := .slice B1.a B1.xs.length B1.cap) sc_22 rfl pk_ rfl) ?_
      refine e_mv rfl ?_
      refine e_q (q_as (v := .slice (sh B1.a B1.cap n1 1) (B1.xs.drop n1).length (B1.cap - n1)) (q_cut_lo Tryz.underlying22 sz_5 rfl rfl (by omega) (by omega)) (by rw [Int.toNat_natCast, List.length_drop])) ?_
      refine e_q (q_nilCheck rfl) ?_
      refine e_q (q_fieldp rfl fo_213_0) ?_
      refine l_step (s_s0 wn (s_storep (ws := [.slice (sh B1.a B1.cap n1 1) ((B1.xs.drop n1).length) (B1.cap - n1)]) (cs := encTaker1 (⟨B1, e1⟩ : Taker1)) (cs' := encTaker1 (⟨(dropS B1 n1), e1⟩ : Taker1)) rfl rfl rfl sz_22 (by simp [Value.oneCell', strB, ptV, SL.v, SH.v]) (by simp [encTaker1]) rfl pk_) ?_)
      rintro _ _ ⟨rfl, rfl⟩
      refine l_nil ?_
      refine k_blk_n ?_
      refine k_then_n ?_
      refine sr ?_
      refine e_q (q_loadpa (vs := encVal1 (⟨0, (⟨aC, (B1.xs.take n1), cC⟩ : SL UInt8), ⟨none, 0, 0⟩⟩ : Val1)) ag_131 rfl pk_ rfl) ?_
      refine l_step (s_s0 wn (s_storep (ws := encVal1 (⟨0, (⟨aC, (B1.xs.take n1), cC⟩ : SL UInt8), ⟨none, 0, 0⟩⟩ : Val1)) (cs := encVal1 zVal1) (cs' := encVal1 (⟨0, (⟨aC, (B1.xs.take n1), cC⟩ : SL UInt8), ⟨none, 0, 0⟩⟩ : Val1)) rfl rfl rfl sz_131 (oneVal1 _) (by simp [encVal1, encVal1]) rfl pk_) ?_)
      rintro _ _ ⟨rfl, rfl⟩
      refine l_n ?_
      refine c_ret ?_
      refine Tr.ent (Ent.trans (Ent.pick (A := .pts k.blk (encKind1 (⟨(wh k.s), ⟨k.a, k.kids.length, k.cap⟩⟩ : Kind1)) 268) pk_ (Ent.pick (A := .row 209 1 k.a k.kids.length k.cap ((k.kids.map KT.pt).flatMap encPt)) pk_ (Ent.pick (A := Bun (k.kids.map (KA 268 209))) pk_ (Ent.refl _)))) (k_same (tk := 268) (tp := 209) (k := k))) ?_
      refine Tr.ent (Ent.nilrow 131 3 _) ?_
      refine Tr.ent (bun_nil _) ?_
      refine Tr.ent (Ent.trans (Ent.pick (A := .row 5 1 aC ((B1.xs.take n1).length) cC ((B1.xs.take n1).flatMap encB)) pk_ (Ent.pick (A := .row 131 3 none 0 0 ((([] : List VT).map VT.val).flatMap encVal1)) pk_ (Ent.pick (A := Bun (([] : List VT).map (VA 5 131))) pk_ (Ent.refl _)))) (v_shut (tu := 5) (tv := 131) (n := 0) (b := (⟨aC, (B1.xs.take n1), cC⟩ : SL UInt8)) (a := none) (c := 0) (l := ([] : List VT)))) ?_
      exact t_rt [KA 268 209 k, .pts t (encTaker1 (⟨(dropS B1 n1), e1⟩ : Taker1)) 213, VA 5 131 (.mk 0 (⟨aC, (B1.xs.take n1), cC⟩ : SL UInt8) none 0 ([] : List VT))] rfl (.cell rfl pk_ (fun w h => ld_agg (by exact ag_131) h) .nil) rfl ⟨rfl, _, _, _, rfl, rfl, hsf.trans (Suf.drop B1 hnl), by rw [hs2]; exact tk_b hC⟩
    · try simp only [decide_eq_true_eq, decide_eq_false_iff_not] at h1
      refine sr ?_
      refine e_q (q_eql rfl rfl) ?_
      refine e_as rfl ?_
      refine l_n ?_
      refine c_cond rfl (fun h2 => ?_) (fun h2 => ?_)
      · try simp only [decide_eq_true_eq, decide_eq_false_iff_not] at h2
        obtain ⟨s2, hs2⟩ := wh_star (s := k.s) (by omega)
        have hk0 : 0 < k.kids.length := by rw [hk.len, hs2]; exact Nat.one_pos
        have hk0s : (k.kids.getD 0 default).s = s2 := by rw [(hk.at_ hk0).2, hs2]; rfl
        have hw9 : (k.kids.getD 0 default).s.wt < k.s.wt := wt_kid hk (getD_in hk0)
        have hko := (hk.at_ hk0).1
        refine Tr.ent (kid_out (tk := 268) (tp := 209) (l := k.kids) (i := 0) hk0 pk_) ?_
        refine Tr.ent (Ent.nilrow 131 3 _) ?_
        refine Tr.ent (bun_nil _) ?_
        refine sr ?_
        refine e_mv rfl ?_
        refine e_mv rfl ?_
        refine e_q (q_nilCheck rfl) ?_
        refine e_q (q_fieldp rfl fo_268_1) ?_
        refine e_q (q_loadp (v := .slice k.a k.kids.length k.cap) sc_266 rfl pk_ rfl) ?_
        refine e_q (q_indexe 0 Tryz.underlying266 sz_209 rfl rfl (rd_row pk_) (by decide) rfl hk0) ?_
        refine e_q (q_as (v := .pointer (some ⟨(k.kids.getD 0 default).blk, 0, none⟩)) (q_loade (enc := encPt) (xs := (k.kids.map KT.pt)) (j := 0) (off := 0) sc_209 rfl (rd_row pk_) (fun _ => rfl) (by rw [List.length_map]; exact hk0) (by decide) rfl) (by rw [kid_pt hk0]; rfl)) ?_
        refine l_step (s_fnr rfl wn Tryz.func190 rfl (by kernel_rfl) rfl sl_ (fun ρ' hL => some_spec (k.kids.getD 0 default) ρ' hko) ?_)
        refine e_fn Tryz.func189 rfl sl_ (fun ρ' hL => tcnt_spec t B e (someS (k.kids.getD 0 default).s) ρ' (Ro.mono hL.1 hB) hbl) ?_
        rintro _ _ ⟨B1, e1, n1, rfl, rfl, hsf, hC⟩
        try simp only [List.cons_append, List.nil_append]
        rw [hk0s] at hC
        have hB1 : B1.ro encB 1 ρ := hsf.1 ρ hB
        have hB1r : Ro ρ 1 B1.a B1.xs.length B1.cap (B1.xs.flatMap encB) := hB1
        have hcap1 : B1.xs.length ≤ B1.cap := hB1r.2.1
        have hle1 := hsf.2
        have hnb := hC.bd
        refine e_mv rfl ?_
        refine l_n ?_
        refine c_block ?_
        refine Tr.env (σ' := [(0, _), (1, _), (4, _), (5, _), (67, _), (68, _)]) ev_ ?_
        refine t_loop (ι := Lp (Nat × List VT × SL UInt8 × Option Addr × Nat)) (fun x => x.d.2.1.length = x.d.1 ∧ x.d.1 ≤ n1 ∧ Suf B1 x.d.2.2.1 ∧ (e1 = 0 → rep (takeF s2) x.d.1 B1.xs = .ok (x.d.2.1.map VT.pv, x.d.2.2.1.xs))) (fun x => n1 - x.d.1) (fun x => [(0, .pointer (some ⟨k.blk, 0, none⟩)), (1, .pointer (some ⟨t, 0, none⟩)), (4, .pointer (some ⟨b4, 0, none⟩)), (5, .pointer (some ⟨b5, 0, none⟩)), (67, .int .i64 (n1 : Int)), (68, .int .i64 (x.d.1 : Int))]) (fun x => Bun (x.d.2.1.map (VA 5 131)) :: .row 131 3 x.d.2.2.2.1 x.d.2.1.length x.d.2.2.2.2 ((x.d.2.1.map VT.val).flatMap encVal1) :: KA 268 209 (k.kids.getD 0 default) :: Bun ((k.kids.map (KA 268 209)).eraseIdx 0) :: .pts b5 (encVal1 (⟨0, (⟨none, [], 0⟩ : SL UInt8), ⟨x.d.2.2.2.1, x.d.2.1.length, x.d.2.2.2.2⟩⟩ : Val1)) 131 :: .pts b4 (encVal1 zVal1) 131 :: .pts k.blk (encKind1 (⟨(wh k.s), ⟨k.a, k.kids.length, k.cap⟩⟩ : Kind1)) 268 :: .row 209 1 k.a k.kids.length k.cap ((k.kids.map KT.pt).flatMap encPt) :: .pts t (encTaker1 (⟨x.d.2.2.1, e1⟩ : Taker1)) 213 :: Δ) (⟨(0, [], B1, none, 0), none, 0, none, 0, none, 0⟩ : Lp _) ⟨rfl, Nat.zero_le _, Suf.refl B1, fun _ => rfl⟩ ?_ ?_ ?_
        · exact .c (.c (.c (.c (.c (.c (.nil _))))))
        · exact en_
        intro x hx
        obtain ⟨hx1, hx2, hx3, hx4⟩ := hx
        refine sr ?_
        refine e_q (q_lss rfl rfl) ?_
        refine l_n ?_
        refine c_seq ?_
        refine c_cond rfl (fun h3 => ?_) (fun h3 => ?_)
        · try simp only [decide_eq_true_eq, decide_eq_false_iff_not] at h3
          have he1 : e1 = 0 := Classical.byContradiction fun h => by have := hC.none h; omega
          have hrep := hx4 he1
          refine c_skip ?_
          refine k_then_n ?_
          refine c_seq ?_
          refine c_block ?_
          refine c_seq ?_
          refine d_r 14 [Bun (x.d.2.1.map (VA 5 131)), Bun ((k.kids.map (KA 268 209)).eraseIdx 0), .pts b4 (encVal1 zVal1) 131, .pts k.blk (encKind1 (⟨(wh k.s), ⟨k.a, k.kids.length, k.cap⟩⟩ : Kind1)) 268, .row 209 1 k.a k.kids.length k.cap ((k.kids.map KT.pt).flatMap encPt)] ?_
          refine d_t 0 rfl wn (q_fieldp rfl fo_131_2) ?_
          refine d_t 2 rfl wn (q_move rfl) ?_
          refine d_t 3 rfl wn (q_nilCheck rfl) ?_
          refine d_t 4 rfl wn (q_fieldp rfl fo_268_1) ?_
          refine d_t 5 rfl wn (q_loadp (v := .slice k.a k.kids.length k.cap) sc_266 rfl pk_ rfl) ?_
          refine d_t 6 rfl wn (q_indexe 0 Tryz.underlying266 sz_209 rfl rfl (rd_row pk_) (by decide) rfl hk0) ?_
          refine d_t 7 rfl wn (q_as (v := .pointer (some ⟨(k.kids.getD 0 default).blk, 0, none⟩)) (q_loade (enc := encPt) (xs := (k.kids.map KT.pt)) (j := 0) (off := 0) sc_209 rfl (rd_row pk_) (fun _ => rfl) (by rw [List.length_map]; exact hk0) (by decide) rfl) (by rw [kid_pt hk0]; rfl)) ?_
          refine d_t 8 rfl wn (q_move rfl) ?_
          refine d_2 1 9 ?_ ?_
          · skip
            refine o_step rfl (s_q rfl wn (q_loadp (v := .slice x.d.2.2.2.1 x.d.2.1.length x.d.2.2.2.2) sc_129 rfl pk_ rfl) ?_)
            refine d_c ?_
            refine d_1 9 ?_
            refine o_step rfl (s_fnb rfl wn Tryz.func140 rfl (by kernel_rfl) rfl sl_ (fun ρ' hL => ih (k.kids.getD 0 default) hw9 t x.d.2.2.1 e1 ρ' hko (Ro.mono hL.1 (hx3.1 ρ hB1)) (by have := hx3.2; omega) (by omega)) ?_)
            rintro _ _ ⟨v3, B3, e3, rfl, rfl, hs3, hT3⟩
            try simp only [List.cons_append, List.nil_append]
            refine d_c ?_
            refine d_1 10 ?_
            refine o_step rfl (s_s rfl wn (s_buildSlice (cs := ([v3.val] : List Val1).flatMap encVal1) Tryz.underlying129 eo_131 rfl rfl rfl rfl (by decide) (by decide)) ?_)
            rintro _ _ ⟨b80, rfl, rfl⟩
            refine d_c ?_
            refine d_1 11 ?_
            refine o_step rfl (s_s rfl wn (s_appendn (enc := encVal1) (xs := ((x.d.2.1.map VT.val) : List Val1)) (ys := ([v3.val] : List Val1)) (Γ' := fun a' cap' => _) Tryz.underlying129 eo_131 (by decide) rfl rfl (rd_row pk_) (oneVal1s _) (by first | omega | (simp only [List.length_append, List.length_cons, List.length_nil] at *; omega)) (by first | omega | (simp only [List.length_append, List.length_cons, List.length_nil] at *; omega)) (fun _ _ => pk_)) ?_)
            rintro _ _ ⟨a81, c81, rfl, rfl⟩
            refine d_c ?_
            refine d_t 12 rfl wn (q_fieldp rfl fo_131_2) ?_
            refine d_1 13 ?_
            refine o_step rfl (s_s0 wn (s_storep (ws := [.slice a81 (x.d.2.1.length + 1) c81]) (cs := encVal1 (⟨0, (⟨none, [], 0⟩ : SL UInt8), ⟨x.d.2.2.2.1, x.d.2.1.length, x.d.2.2.2.2⟩⟩ : Val1)) (cs' := encVal1 (⟨0, (⟨none, [], 0⟩ : SL UInt8), ⟨a81, (x.d.2.1.length + 1), c81⟩⟩ : Val1)) rfl rfl rfl sz_129 (by simp [Value.oneCell', strB, ptV, SL.v, SH.v]) (by simp [encVal1]) rfl pk_) ?_)
            rintro _ _ ⟨rfl, rfl⟩
            refine d_c ?_
            refine d_d ?_
            refine k_then_n ?_
            refine sr ?_
            refine e_mv rfl ?_
            refine e_q (q_nilCheck rfl) ?_
            refine e_q (q_fieldp rfl fo_213_1) ?_
            refine e_q (q_loadp (v := .int .i64 e3) sc_28 rfl pk_ rfl) ?_
            refine e_q (q_neq rfl rfl) ?_
            refine l_n ?_
            refine c_cond rfl (fun h4 => ?_) (fun h4 => ?_)
            · try simp only [decide_eq_true_eq, decide_eq_false_iff_not, ne_eq, Decidable.not_not] at h4
              obtain ⟨c3, hc3, hc4⟩ : ∃ c, takeF s2 x.d.2.2.1.xs = .error c ∧ e3 = c := (hT3.2 he1).elim (fun h => absurd h.2 h4) (fun ⟨c, h9, h8, _⟩ => ⟨c, by rw [← hk0s]; exact h9, h8⟩)
              refine Tr.ent (Ent.trans (Ent.pick (A := VA 5 131 v3) pk_ (Ent.pick (A := Bun (x.d.2.1.map (VA 5 131))) pk_ (Ent.refl _))) (bun_snoc _ _ _)) ?_
              rw [show x.d.2.1.map (VA 5 131) ++ [VA 5 131 v3] = (x.d.2.1 ++ [v3]).map (VA 5 131) from by simp, show x.d.2.1.map VT.val ++ [v3.val] = (x.d.2.1 ++ [v3]).map VT.val from by simp, show x.d.2.1.length + 1 = (x.d.2.1 ++ [v3]).length from by simp]
              refine c_exit ?_
              refine k_blk_xo rfl ?_
              refine k_then_x ?_
              refine k_then_x ?_
              refine k_blk_x ?_
              refine k_blk_n ?_
              refine k_then_n ?_
              refine sr ?_
              refine e_q (q_loadpa (vs := encVal1 (⟨0, (⟨none, [], 0⟩ : SL UInt8), ⟨a81, (x.d.2.1 ++ [v3]).length, c81⟩⟩ : Val1)) ag_131 rfl pk_ rfl) ?_
              refine l_step (s_s0 wn (s_storep (ws := encVal1 (⟨0, (⟨none, [], 0⟩ : SL UInt8), ⟨a81, (x.d.2.1 ++ [v3]).length, c81⟩⟩ : Val1)) (cs := encVal1 zVal1) (cs' := encVal1 (⟨0, (⟨none, [], 0⟩ : SL UInt8), ⟨a81, (x.d.2.1 ++ [v3]).length, c81⟩⟩ : Val1)) rfl rfl rfl sz_131 (oneVal1 _) (by simp [encVal1, encVal1]) rfl pk_) ?_)
              rintro _ _ ⟨rfl, rfl⟩
              refine l_n ?_
              refine c_ret ?_
              refine Tr.ent (Ent.trans (Ent.pick (A := KA 268 209 (k.kids.getD 0 default)) pk_ (Ent.pick (A := Bun ((k.kids.map (KA 268 209)).eraseIdx 0)) pk_ (Ent.refl _))) (kid_in (tk := 268) (tp := 209) (l := k.kids) (i := 0) hk0)) ?_
              refine Tr.ent (Ent.trans (Ent.pick (A := .pts k.blk (encKind1 (⟨(wh k.s), ⟨k.a, k.kids.length, k.cap⟩⟩ : Kind1)) 268) pk_ (Ent.pick (A := .row 209 1 k.a k.kids.length k.cap ((k.kids.map KT.pt).flatMap encPt)) pk_ (Ent.pick (A := Bun (k.kids.map (KA 268 209))) pk_ (Ent.refl _)))) (k_same (tk := 268) (tp := 209) (k := k))) ?_
              refine Tr.ent (Ent.nilrow 5 1 _) ?_
              refine Tr.ent (Ent.trans (Ent.pick (A := .row 5 1 none 0 0 (([] : List UInt8).flatMap encB)) pk_ (Ent.pick (A := .row 131 3 a81 ((x.d.2.1 ++ [v3]).length) c81 (((x.d.2.1 ++ [v3]).map VT.val).flatMap encVal1)) pk_ (Ent.pick (A := Bun ((x.d.2.1 ++ [v3]).map (VA 5 131))) pk_ (Ent.refl _)))) (v_shut (tu := 5) (tv := 131) (n := 0) (b := (⟨none, [], 0⟩ : SL UInt8)) (a := a81) (c := c81) (l := (x.d.2.1 ++ [v3])))) ?_
              exact t_rt [KA 268 209 k, .pts t (encTaker1 (⟨B3, e3⟩ : Taker1)) 213, VA 5 131 (.mk 0 (⟨none, [], 0⟩ : SL UInt8) a81 c81 (x.d.2.1 ++ [v3]))] rfl (.cell rfl pk_ (fun w h => ld_agg (by exact ag_131) h) .nil) rfl ⟨rfl, _, _, _, rfl, rfl, (hsf.trans hx3).trans hs3, by rw [hs2]; exact tk_star_err hC he1 (rep_err_at (by omega) hrep (by rw [hc4]; exact hc3)) h4⟩
            · try simp only [decide_eq_true_eq, decide_eq_false_iff_not, ne_eq, Decidable.not_not] at h4
              have ht3 : takeF s2 x.d.2.2.1.xs = .ok (v3.pv, B3.xs) := (hT3.2 he1).elim (fun h => by rw [← hk0s]; exact h.1) (fun ⟨c, h9, h8, h7⟩ => absurd (h8.symm.trans h4) h7)
              have he3 : e3 = e1 := by omega
              refine c_skip ?_
              refine k_blk_n ?_
              refine k_then_n ?_
              refine c_region ?_
              refine e_q (q_add rfl rfl (by omega) (by omega)) ?_
              refine e_mv rfl ?_
              refine l_n ?_
              refine Tr.ent (Ent.trans (Ent.pick (A := VA 5 131 v3) pk_ (Ent.pick (A := Bun (x.d.2.1.map (VA 5 131))) pk_ (Ent.refl _))) (bun_snoc _ _ _)) ?_
              rw [show x.d.2.1.map (VA 5 131) ++ [VA 5 131 v3] = (x.d.2.1 ++ [v3]).map (VA 5 131) from by simp, show x.d.2.1.map VT.val ++ [v3.val] = (x.d.2.1 ++ [v3]).map VT.val from by simp, show x.d.2.1.length + 1 = (x.d.2.1 ++ [v3]).length from by simp]
              rw [he3]
              exact t_nx (⟨(x.d.1 + 1, x.d.2.1 ++ [v3], B3, a81, c81), none, 0, none, 0, none, 0⟩ : Lp _) ⟨⟨by show (x.d.2.1 ++ [v3]).length = x.d.1 + 1; rw [List.length_append, hx1]; rfl, by show x.d.1 + 1 ≤ n1; omega, hx3.trans hs3, fun _ => by show rep _ (x.d.1 + 1) _ = .ok ((x.d.2.1 ++ [v3]).map VT.pv, _); rw [List.map_append]; exact rep_ok_at hrep ht3⟩, by show n1 - (x.d.1 + 1) < _; omega⟩ (.c (.c (.c (.c (.c (.c (.nil _)))))))
          · skip
            refine o_step rfl (s_fnb rfl wn Tryz.func140 rfl (by kernel_rfl) rfl sl_ (fun ρ' hL => ih (k.kids.getD 0 default) hw9 t x.d.2.2.1 e1 ρ' hko (Ro.mono hL.1 (hx3.1 ρ hB1)) (by have := hx3.2; omega) (by omega)) ?_)
            rintro _ _ ⟨v3, B3, e3, rfl, rfl, hs3, hT3⟩
            try simp only [List.cons_append, List.nil_append]
            refine d_c ?_
            refine d_2 1 10 ?_ ?_
            · skip
              refine o_step rfl (s_q rfl wn (q_loadp (v := .slice x.d.2.2.2.1 x.d.2.1.length x.d.2.2.2.2) sc_129 rfl pk_ rfl) ?_)
              refine d_c ?_
              refine d_1 10 ?_
              refine o_step rfl (s_s rfl wn (s_buildSlice (cs := ([v3.val] : List Val1).flatMap encVal1) Tryz.underlying129 eo_131 rfl rfl rfl rfl (by decide) (by decide)) ?_)
              rintro _ _ ⟨b80, rfl, rfl⟩
              refine d_c ?_
              refine d_1 11 ?_
              refine o_step rfl (s_s rfl wn (s_appendn (enc := encVal1) (xs := ((x.d.2.1.map VT.val) : List Val1)) (ys := ([v3.val] : List Val1)) (Γ' := fun a' cap' => _) Tryz.underlying129 eo_131 (by decide) rfl rfl (rd_row pk_) (oneVal1s _) (by first | omega | (simp only [List.length_append, List.length_cons, List.length_nil] at *; omega)) (by first | omega | (simp only [List.length_append, List.length_cons, List.length_nil] at *; omega)) (fun _ _ => pk_)) ?_)
              rintro _ _ ⟨a81, c81, rfl, rfl⟩
              refine d_c ?_
              refine d_t 12 rfl wn (q_fieldp rfl fo_131_2) ?_
              refine d_1 13 ?_
              refine o_step rfl (s_s0 wn (s_storep (ws := [.slice a81 (x.d.2.1.length + 1) c81]) (cs := encVal1 (⟨0, (⟨none, [], 0⟩ : SL UInt8), ⟨x.d.2.2.2.1, x.d.2.1.length, x.d.2.2.2.2⟩⟩ : Val1)) (cs' := encVal1 (⟨0, (⟨none, [], 0⟩ : SL UInt8), ⟨a81, (x.d.2.1.length + 1), c81⟩⟩ : Val1)) rfl rfl rfl sz_129 (by simp [Value.oneCell', strB, ptV, SL.v, SH.v]) (by simp [encVal1]) rfl pk_) ?_)
              rintro _ _ ⟨rfl, rfl⟩
              refine d_c ?_
              refine d_d ?_
              refine k_then_n ?_
              refine sr ?_
              refine e_mv rfl ?_
              refine e_q (q_nilCheck rfl) ?_
              refine e_q (q_fieldp rfl fo_213_1) ?_
              refine e_q (q_loadp (v := .int .i64 e3) sc_28 rfl pk_ rfl) ?_
              refine e_q (q_neq rfl rfl) ?_
              refine l_n ?_
              refine c_cond rfl (fun h4 => ?_) (fun h4 => ?_)
              · try simp only [decide_eq_true_eq, decide_eq_false_iff_not, ne_eq, Decidable.not_not] at h4
                obtain ⟨c3, hc3, hc4⟩ : ∃ c, takeF s2 x.d.2.2.1.xs = .error c ∧ e3 = c := (hT3.2 he1).elim (fun h => absurd h.2 h4) (fun ⟨c, h9, h8, _⟩ => ⟨c, by rw [← hk0s]; exact h9, h8⟩)
                refine Tr.ent (Ent.trans (Ent.pick (A := VA 5 131 v3) pk_ (Ent.pick (A := Bun (x.d.2.1.map (VA 5 131))) pk_ (Ent.refl _))) (bun_snoc _ _ _)) ?_
                rw [show x.d.2.1.map (VA 5 131) ++ [VA 5 131 v3] = (x.d.2.1 ++ [v3]).map (VA 5 131) from by simp, show x.d.2.1.map VT.val ++ [v3.val] = (x.d.2.1 ++ [v3]).map VT.val from by simp, show x.d.2.1.length + 1 = (x.d.2.1 ++ [v3]).length from by simp]
                refine c_exit ?_
                refine k_blk_xo rfl ?_
                refine k_then_x ?_
                refine k_then_x ?_
                refine k_blk_x ?_
                refine k_blk_n ?_
                refine k_then_n ?_
                refine sr ?_
                refine e_q (q_loadpa (vs := encVal1 (⟨0, (⟨none, [], 0⟩ : SL UInt8), ⟨a81, (x.d.2.1 ++ [v3]).length, c81⟩⟩ : Val1)) ag_131 rfl pk_ rfl) ?_
                refine l_step (s_s0 wn (s_storep (ws := encVal1 (⟨0, (⟨none, [], 0⟩ : SL UInt8), ⟨a81, (x.d.2.1 ++ [v3]).length, c81⟩⟩ : Val1)) (cs := encVal1 zVal1) (cs' := encVal1 (⟨0, (⟨none, [], 0⟩ : SL UInt8), ⟨a81, (x.d.2.1 ++ [v3]).length, c81⟩⟩ : Val1)) rfl rfl rfl sz_131 (oneVal1 _) (by simp [encVal1, encVal1]) rfl pk_) ?_)
                rintro _ _ ⟨rfl, rfl⟩
                refine l_n ?_
                refine c_ret ?_
                refine Tr.ent (Ent.trans (Ent.pick (A := KA 268 209 (k.kids.getD 0 default)) pk_ (Ent.pick (A := Bun ((k.kids.map (KA 268 209)).eraseIdx 0)) pk_ (Ent.refl _))) (kid_in (tk := 268) (tp := 209) (l := k.kids) (i := 0) hk0)) ?_
                refine Tr.ent (Ent.trans (Ent.pick (A := .pts k.blk (encKind1 (⟨(wh k.s), ⟨k.a, k.kids.length, k.cap⟩⟩ : Kind1)) 268) pk_ (Ent.pick (A := .row 209 1 k.a k.kids.length k.cap ((k.kids.map KT.pt).flatMap encPt)) pk_ (Ent.pick (A := Bun (k.kids.map (KA 268 209))) pk_ (Ent.refl _)))) (k_same (tk := 268) (tp := 209) (k := k))) ?_
                refine Tr.ent (Ent.nilrow 5 1 _) ?_
                refine Tr.ent (Ent.trans (Ent.pick (A := .row 5 1 none 0 0 (([] : List UInt8).flatMap encB)) pk_ (Ent.pick (A := .row 131 3 a81 ((x.d.2.1 ++ [v3]).length) c81 (((x.d.2.1 ++ [v3]).map VT.val).flatMap encVal1)) pk_ (Ent.pick (A := Bun ((x.d.2.1 ++ [v3]).map (VA 5 131))) pk_ (Ent.refl _)))) (v_shut (tu := 5) (tv := 131) (n := 0) (b := (⟨none, [], 0⟩ : SL UInt8)) (a := a81) (c := c81) (l := (x.d.2.1 ++ [v3])))) ?_
                exact t_rt [KA 268 209 k, .pts t (encTaker1 (⟨B3, e3⟩ : Taker1)) 213, VA 5 131 (.mk 0 (⟨none, [], 0⟩ : SL UInt8) a81 c81 (x.d.2.1 ++ [v3]))] rfl (.cell rfl pk_ (fun w h => ld_agg (by exact ag_131) h) .nil) rfl ⟨rfl, _, _, _, rfl, rfl, (hsf.trans hx3).trans hs3, by rw [hs2]; exact tk_star_err hC he1 (rep_err_at (by omega) hrep (by rw [hc4]; exact hc3)) h4⟩
              · try simp only [decide_eq_true_eq, decide_eq_false_iff_not, ne_eq, Decidable.not_not] at h4
                have ht3 : takeF s2 x.d.2.2.1.xs = .ok (v3.pv, B3.xs) := (hT3.2 he1).elim (fun h => by rw [← hk0s]; exact h.1) (fun ⟨c, h9, h8, h7⟩ => absurd (h8.symm.trans h4) h7)
                have he3 : e3 = e1 := by omega
                refine c_skip ?_
                refine k_blk_n ?_
                refine k_then_n ?_
                refine c_region ?_
                refine e_q (q_add rfl rfl (by omega) (by omega)) ?_
                refine e_mv rfl ?_
                refine l_n ?_
                refine Tr.ent (Ent.trans (Ent.pick (A := VA 5 131 v3) pk_ (Ent.pick (A := Bun (x.d.2.1.map (VA 5 131))) pk_ (Ent.refl _))) (bun_snoc _ _ _)) ?_
                rw [show x.d.2.1.map (VA 5 131) ++ [VA 5 131 v3] = (x.d.2.1 ++ [v3]).map (VA 5 131) from by simp, show x.d.2.1.map VT.val ++ [v3.val] = (x.d.2.1 ++ [v3]).map VT.val from by simp, show x.d.2.1.length + 1 = (x.d.2.1 ++ [v3]).length from by simp]
                rw [he3]
                exact t_nx (⟨(x.d.1 + 1, x.d.2.1 ++ [v3], B3, a81, c81), none, 0, none, 0, none, 0⟩ : Lp _) ⟨⟨by show (x.d.2.1 ++ [v3]).length = x.d.1 + 1; rw [List.length_append, hx1]; rfl, by show x.d.1 + 1 ≤ n1; omega, hx3.trans hs3, fun _ => by show rep _ (x.d.1 + 1) _ = .ok ((x.d.2.1 ++ [v3]).map VT.pv, _); rw [List.map_append]; exact rep_ok_at hrep ht3⟩, by show n1 - (x.d.1 + 1) < _; omega⟩ (.c (.c (.c (.c (.c (.c (.nil _)))))))
            · skip
              refine o_step rfl (s_s rfl wn (s_buildSlice (cs := ([v3.val] : List Val1).flatMap encVal1) Tryz.underlying129 eo_131 rfl rfl rfl rfl (by decide) (by decide)) ?_)
              rintro _ _ ⟨b80, rfl, rfl⟩
              refine d_c ?_
              refine d_1 1 ?_
              refine o_step rfl (s_q rfl wn (q_loadp (v := .slice x.d.2.2.2.1 x.d.2.1.length x.d.2.2.2.2) sc_129 rfl pk_ rfl) ?_)
              refine d_c ?_
              refine d_1 11 ?_
              refine o_step rfl (s_s rfl wn (s_appendn (enc := encVal1) (xs := ((x.d.2.1.map VT.val) : List Val1)) (ys := ([v3.val] : List Val1)) (Γ' := fun a' cap' => _) Tryz.underlying129 eo_131 (by decide) rfl rfl (rd_row pk_) (oneVal1s _) (by first | omega | (simp only [List.length_append, List.length_cons, List.length_nil] at *; omega)) (by first | omega | (simp only [List.length_append, List.length_cons, List.length_nil] at *; omega)) (fun _ _ => pk_)) ?_)
              rintro _ _ ⟨a81, c81, rfl, rfl⟩
              refine d_c ?_
              refine d_t 12 rfl wn (q_fieldp rfl fo_131_2) ?_
              refine d_1 13 ?_
              refine o_step rfl (s_s0 wn (s_storep (ws := [.slice a81 (x.d.2.1.length + 1) c81]) (cs := encVal1 (⟨0, (⟨none, [], 0⟩ : SL UInt8), ⟨x.d.2.2.2.1, x.d.2.1.length, x.d.2.2.2.2⟩⟩ : Val1)) (cs' := encVal1 (⟨0, (⟨none, [], 0⟩ : SL UInt8), ⟨a81, (x.d.2.1.length + 1), c81⟩⟩ : Val1)) rfl rfl rfl sz_129 (by simp [Value.oneCell', strB, ptV, SL.v, SH.v]) (by simp [encVal1]) rfl pk_) ?_)
              rintro _ _ ⟨rfl, rfl⟩
              refine d_c ?_
              refine d_d ?_
              refine k_then_n ?_
              refine sr ?_
              refine e_mv rfl ?_
              refine e_q (q_nilCheck rfl) ?_
              refine e_q (q_fieldp rfl fo_213_1) ?_
              refine e_q (q_loadp (v := .int .i64 e3) sc_28 rfl pk_ rfl) ?_
              refine e_q (q_neq rfl rfl) ?_
              refine l_n ?_
              refine c_cond rfl (fun h4 => ?_) (fun h4 => ?_)
              · try simp only [decide_eq_true_eq, decide_eq_false_iff_not, ne_eq, Decidable.not_not] at h4
                obtain ⟨c3, hc3, hc4⟩ : ∃ c, takeF s2 x.d.2.2.1.xs = .error c ∧ e3 = c := (hT3.2 he1).elim (fun h => absurd h.2 h4) (fun ⟨c, h9, h8, _⟩ => ⟨c, by rw [← hk0s]; exact h9, h8⟩)
                refine Tr.ent (Ent.trans (Ent.pick (A := VA 5 131 v3) pk_ (Ent.pick (A := Bun (x.d.2.1.map (VA 5 131))) pk_ (Ent.refl _))) (bun_snoc _ _ _)) ?_
                rw [show x.d.2.1.map (VA 5 131) ++ [VA 5 131 v3] = (x.d.2.1 ++ [v3]).map (VA 5 131) from by simp, show x.d.2.1.map VT.val ++ [v3.val] = (x.d.2.1 ++ [v3]).map VT.val from by simp, show x.d.2.1.length + 1 = (x.d.2.1 ++ [v3]).length from by simp]
                refine c_exit ?_
                refine k_blk_xo rfl ?_
                refine k_then_x ?_
                refine k_then_x ?_
                refine k_blk_x ?_
                refine k_blk_n ?_
                refine k_then_n ?_
                refine sr ?_
                refine e_q (q_loadpa (vs := encVal1 (⟨0, (⟨none, [], 0⟩ : SL UInt8), ⟨a81, (x.d.2.1 ++ [v3]).length, c81⟩⟩ : Val1)) ag_131 rfl pk_ rfl) ?_
                refine l_step (s_s0 wn (s_storep (ws := encVal1 (⟨0, (⟨none, [], 0⟩ : SL UInt8), ⟨a81, (x.d.2.1 ++ [v3]).length, c81⟩⟩ : Val1)) (cs := encVal1 zVal1) (cs' := encVal1 (⟨0, (⟨none, [], 0⟩ : SL UInt8), ⟨a81, (x.d.2.1 ++ [v3]).length, c81⟩⟩ : Val1)) rfl rfl rfl sz_131 (oneVal1 _) (by simp [encVal1, encVal1]) rfl pk_) ?_)
                rintro _ _ ⟨rfl, rfl⟩
                refine l_n ?_
                refine c_ret ?_
                refine Tr.ent (Ent.trans (Ent.pick (A := KA 268 209 (k.kids.getD 0 default)) pk_ (Ent.pick (A := Bun ((k.kids.map (KA 268 209)).eraseIdx 0)) pk_ (Ent.refl _))) (kid_in (tk := 268) (tp := 209) (l := k.kids) (i := 0) hk0)) ?_
                refine Tr.ent (Ent.trans (Ent.pick (A := .pts k.blk (encKind1 (⟨(wh k.s), ⟨k.a, k.kids.length, k.cap⟩⟩ : Kind1)) 268) pk_ (Ent.pick (A := .row 209 1 k.a k.kids.length k.cap ((k.kids.map KT.pt).flatMap encPt)) pk_ (Ent.pick (A := Bun (k.kids.map (KA 268 209))) pk_ (Ent.refl _)))) (k_same (tk := 268) (tp := 209) (k := k))) ?_
                refine Tr.ent (Ent.nilrow 5 1 _) ?_
                refine Tr.ent (Ent.trans (Ent.pick (A := .row 5 1 none 0 0 (([] : List UInt8).flatMap encB)) pk_ (Ent.pick (A := .row 131 3 a81 ((x.d.2.1 ++ [v3]).length) c81 (((x.d.2.1 ++ [v3]).map VT.val).flatMap encVal1)) pk_ (Ent.pick (A := Bun ((x.d.2.1 ++ [v3]).map (VA 5 131))) pk_ (Ent.refl _)))) (v_shut (tu := 5) (tv := 131) (n := 0) (b := (⟨none, [], 0⟩ : SL UInt8)) (a := a81) (c := c81) (l := (x.d.2.1 ++ [v3])))) ?_
                exact t_rt [KA 268 209 k, .pts t (encTaker1 (⟨B3, e3⟩ : Taker1)) 213, VA 5 131 (.mk 0 (⟨none, [], 0⟩ : SL UInt8) a81 c81 (x.d.2.1 ++ [v3]))] rfl (.cell rfl pk_ (fun w h => ld_agg (by exact ag_131) h) .nil) rfl ⟨rfl, _, _, _, rfl, rfl, (hsf.trans hx3).trans hs3, by rw [hs2]; exact tk_star_err hC he1 (rep_err_at (by omega) hrep (by rw [hc4]; exact hc3)) h4⟩
              · try simp only [decide_eq_true_eq, decide_eq_false_iff_not, ne_eq, Decidable.not_not] at h4
                have ht3 : takeF s2 x.d.2.2.1.xs = .ok (v3.pv, B3.xs) := (hT3.2 he1).elim (fun h => by rw [← hk0s]; exact h.1) (fun ⟨c, h9, h8, h7⟩ => absurd (h8.symm.trans h4) h7)
                have he3 : e3 = e1 := by omega
                refine c_skip ?_
                refine k_blk_n ?_
                refine k_then_n ?_
                refine c_region ?_
                refine e_q (q_add rfl rfl (by omega) (by omega)) ?_
                refine e_mv rfl ?_
                refine l_n ?_
                refine Tr.ent (Ent.trans (Ent.pick (A := VA 5 131 v3) pk_ (Ent.pick (A := Bun (x.d.2.1.map (VA 5 131))) pk_ (Ent.refl _))) (bun_snoc _ _ _)) ?_
                rw [show x.d.2.1.map (VA 5 131) ++ [VA 5 131 v3] = (x.d.2.1 ++ [v3]).map (VA 5 131) from by simp, show x.d.2.1.map VT.val ++ [v3.val] = (x.d.2.1 ++ [v3]).map VT.val from by simp, show x.d.2.1.length + 1 = (x.d.2.1 ++ [v3]).length from by simp]
                rw [he3]
                exact t_nx (⟨(x.d.1 + 1, x.d.2.1 ++ [v3], B3, a81, c81), none, 0, none, 0, none, 0⟩ : Lp _) ⟨⟨by show (x.d.2.1 ++ [v3]).length = x.d.1 + 1; rw [List.length_append, hx1]; rfl, by show x.d.1 + 1 ≤ n1; omega, hx3.trans hs3, fun _ => by show rep _ (x.d.1 + 1) _ = .ok ((x.d.2.1 ++ [v3]).map VT.pv, _); rw [List.map_append]; exact rep_ok_at hrep ht3⟩, by show n1 - (x.d.1 + 1) < _; omega⟩ (.c (.c (.c (.c (.c (.c (.nil _)))))))
        · try simp only [decide_eq_true_eq, decide_eq_false_iff_not] at h3
          have hin : x.d.1 = n1 := by omega
          refine c_exit ?_
          refine k_then_x ?_
          refine k_then_x ?_
          refine k_blk_x ?_
          refine k_blk_n ?_
          refine k_then_n ?_
          refine sr ?_
          refine e_q (q_loadpa (vs := encVal1 (⟨0, (⟨none, [], 0⟩ : SL UInt8), ⟨x.d.2.2.2.1, x.d.2.1.length, x.d.2.2.2.2⟩⟩ : Val1)) ag_131 rfl pk_ rfl) ?_
          refine l_step (s_s0 wn (s_storep (ws := encVal1 (⟨0, (⟨none, [], 0⟩ : SL UInt8), ⟨x.d.2.2.2.1, x.d.2.1.length, x.d.2.2.2.2⟩⟩ : Val1)) (cs := encVal1 zVal1) (cs' := encVal1 (⟨0, (⟨none, [], 0⟩ : SL UInt8), ⟨x.d.2.2.2.1, x.d.2.1.length, x.d.2.2.2.2⟩⟩ : Val1)) rfl rfl rfl sz_131 (oneVal1 _) (by simp [encVal1, encVal1]) rfl pk_) ?_)
          rintro _ _ ⟨rfl, rfl⟩
          refine l_n ?_
          refine c_ret ?_
          refine Tr.ent (Ent.trans (Ent.pick (A := KA 268 209 (k.kids.getD 0 default)) pk_ (Ent.pick (A := Bun ((k.kids.map (KA 268 209)).eraseIdx 0)) pk_ (Ent.refl _))) (kid_in (tk := 268) (tp := 209) (l := k.kids) (i := 0) hk0)) ?_
          refine Tr.ent (Ent.trans (Ent.pick (A := .pts k.blk (encKind1 (⟨(wh k.s), ⟨k.a, k.kids.length, k.cap⟩⟩ : Kind1)) 268) pk_ (Ent.pick (A := .row 209 1 k.a k.kids.length k.cap ((k.kids.map KT.pt).flatMap encPt)) pk_ (Ent.pick (A := Bun (k.kids.map (KA 268 209))) pk_ (Ent.refl _)))) (k_same (tk := 268) (tp := 209) (k := k))) ?_
          refine Tr.ent (Ent.nilrow 5 1 _) ?_
          refine Tr.ent (Ent.trans (Ent.pick (A := .row 5 1 none 0 0 (([] : List UInt8).flatMap encB)) pk_ (Ent.pick (A := .row 131 3 x.d.2.2.2.1 x.d.2.1.length x.d.2.2.2.2 ((x.d.2.1.map VT.val).flatMap encVal1)) pk_ (Ent.pick (A := Bun (x.d.2.1.map (VA 5 131))) pk_ (Ent.refl _)))) (v_shut (tu := 5) (tv := 131) (n := 0) (b := (⟨none, [], 0⟩ : SL UInt8)) (a := x.d.2.2.2.1) (c := x.d.2.2.2.2) (l := x.d.2.1))) ?_
          exact t_rt [KA 268 209 k, .pts t (encTaker1 (⟨x.d.2.2.1, e1⟩ : Taker1)) 213, VA 5 131 (.mk 0 (⟨none, [], 0⟩ : SL UInt8) x.d.2.2.2.1 x.d.2.2.2.2 x.d.2.1)] rfl (.cell rfl pk_ (fun w h => ld_agg (by exact ag_131) h) .nil) rfl ⟨rfl, _, _, _, rfl, rfl, hsf.trans hx3, by rw [hs2]; show RTk _ _ _ (PV.mk 0 [] (pvs _)) _ _; rw [pvs_map]; exact tk_star_ok hC (fun h => by rw [← hin]; exact hx4 h)⟩
      · try simp only [decide_eq_true_eq, decide_eq_false_iff_not] at h2
        obtain ⟨l, hs2⟩ := wh_else (s := k.s) (by omega) (by omega) (by omega)
        have hkl : k.kids.length = l.length := by rw [hk.len, hs2]; rfl
        have hlw := len_wts l
        have hwl : k.s.wt = wts l + 1 := by rw [hs2]; rfl
        refine Tr.ent (Ent.nilrow 131 3 _) ?_
        refine Tr.ent (bun_nil _) ?_
        refine sr ?_
        refine e_mv rfl ?_
        refine e_q (q_nilCheck rfl) ?_
        refine e_q (q_fieldp rfl fo_268_1) ?_
        refine e_q (q_loadp (v := .slice k.a k.kids.length k.cap) sc_266 rfl pk_ rfl) ?_
        refine e_q (q_len Tryz.underlying266 rfl) ?_
        refine e_mv rfl ?_
        refine l_n ?_
        refine c_block ?_
        refine Tr.env (σ' := [(1, _), (4, _), (5, _), (16, _), (17, _), (18, _)]) ev_ ?_
        refine t_loop (ι := Lp (Nat × List VT × SL UInt8 × Int × Option Addr × Nat)) (fun x => x.d.2.1.length = x.d.1 ∧ x.d.1 ≤ k.kids.length ∧ Suf B x.d.2.2.1 ∧ RRow l x.d.1 B e (x.d.2.1.map VT.pv) x.d.2.2.1 x.d.2.2.2.1) (fun x => k.kids.length - x.d.1) (fun x => [(1, .pointer (some ⟨t, 0, none⟩)), (4, .pointer (some ⟨b4, 0, none⟩)), (5, .pointer (some ⟨b5, 0, none⟩)), (16, .slice k.a k.kids.length k.cap), (17, .int .i64 (k.kids.length : Int)), (18, .int .i64 (x.d.1 : Int))]) (fun x => Bun (x.d.2.1.map (VA 5 131)) :: .row 131 3 x.d.2.2.2.2.1 x.d.2.1.length x.d.2.2.2.2.2 ((x.d.2.1.map VT.val).flatMap encVal1) :: .pts b5 (encVal1 (⟨0, (⟨none, [], 0⟩ : SL UInt8), ⟨x.d.2.2.2.2.1, x.d.2.1.length, x.d.2.2.2.2.2⟩⟩ : Val1)) 131 :: .pts b4 (encVal1 zVal1) 131 :: .pts k.blk (encKind1 (⟨(wh k.s), ⟨k.a, k.kids.length, k.cap⟩⟩ : Kind1)) 268 :: .row 209 1 k.a k.kids.length k.cap ((k.kids.map KT.pt).flatMap encPt) :: Bun (k.kids.map (KA 268 209)) :: .pts t (encTaker1 (⟨x.d.2.2.1, x.d.2.2.2.1⟩ : Taker1)) 213 :: Δ) (⟨(0, [], B, e, none, 0), none, 0, none, 0, none, 0⟩ : Lp _) ⟨rfl, Nat.zero_le _, Suf.refl B, ⟨fun _ => rfl, fun h => .inl ⟨rfl, h⟩⟩⟩ ?_ ?_ ?_
        · exact .c (.c (.c (.c (.c (.c (.nil _))))))
        · exact en_
        intro x hx
        obtain ⟨hx1, hx2, hx3, hx4⟩ := hx
        refine sr ?_
        refine e_q (q_lss rfl rfl) ?_
        refine l_n ?_
        refine c_seq ?_
        refine c_cond rfl (fun h5 => ?_) (fun h5 => ?_)
        · try simp only [decide_eq_true_eq, decide_eq_false_iff_not] at h5
          have hki : x.d.1 < k.kids.length := by omega
          refine Tr.ent (kid_out (tk := 268) (tp := 209) (l := k.kids) (i := x.d.1) hki pk_) ?_
          have hw9 : (k.kids.getD x.d.1 default).s.wt < k.s.wt := wt_kid hk (getD_in hki)
          have hko := hk.at_ hki
          have hks : (k.kids.getD x.d.1 default).s = l.getD x.d.1 default := by rw [hko.2, hs2]; rfl
          refine c_skip ?_
          refine k_then_n ?_
          refine c_seq ?_
          refine c_block ?_
          refine sr ?_
          refine e_q (q_indexe x.d.1 Tryz.underlying266 sz_209 rfl rfl (rd_row pk_) (by decide) rfl hki) ?_
          refine e_q (q_as (v := .pointer (some ⟨(k.kids.getD x.d.1 default).blk, 0, none⟩)) (q_loade (enc := encPt) (xs := (k.kids.map KT.pt)) (j := x.d.1) (off := 0) sc_209 rfl (rd_row pk_) (fun _ => rfl) (by rw [List.length_map]; exact hki) (by decide) rfl) (by rw [kid_pt hki]; rfl)) ?_
          refine e_as rfl ?_
          refine l_n ?_
          refine d_r 9 [Bun ((k.kids.map (KA 268 209)).eraseIdx x.d.1), Bun (x.d.2.1.map (VA 5 131)), .pts b4 (encVal1 zVal1) 131, .pts k.blk (encKind1 (⟨(wh k.s), ⟨k.a, k.kids.length, k.cap⟩⟩ : Kind1)) 268, .row 209 1 k.a k.kids.length k.cap ((k.kids.map KT.pt).flatMap encPt)] ?_
          refine d_t 0 rfl wn (q_fieldp rfl fo_131_2) ?_
          refine d_t 2 rfl wn (q_move rfl) ?_
          refine d_t 3 rfl wn (q_move rfl) ?_
          refine d_2 1 4 ?_ ?_
          · skip
            refine o_step rfl (s_q rfl wn (q_loadp (v := .slice x.d.2.2.2.2.1 x.d.2.1.length x.d.2.2.2.2.2) sc_129 rfl pk_ rfl) ?_)
            refine d_c ?_
            refine d_1 4 ?_
            refine o_step rfl (s_fnb rfl wn Tryz.func140 rfl (by kernel_rfl) rfl sl_ (fun ρ' hL => ih (k.kids.getD x.d.1 default) hw9 t x.d.2.2.1 x.d.2.2.2.1 ρ' hko.1 (Ro.mono hL.1 (hx3.1 ρ hB)) (by have := hx3.2; omega) (by omega)) ?_)
            rintro _ _ ⟨v3, B3, e3, rfl, rfl, hs3, hT3⟩
            try simp only [List.cons_append, List.nil_append]
            refine d_c ?_
            refine d_1 5 ?_
            refine o_step rfl (s_s rfl wn (s_buildSlice (cs := ([v3.val] : List Val1).flatMap encVal1) Tryz.underlying129 eo_131 rfl rfl rfl rfl (by decide) (by decide)) ?_)
            rintro _ _ ⟨b27, rfl, rfl⟩
            refine d_c ?_
            refine d_1 6 ?_
            refine o_step rfl (s_s rfl wn (s_appendn (enc := encVal1) (xs := ((x.d.2.1.map VT.val) : List Val1)) (ys := ([v3.val] : List Val1)) (Γ' := fun a' cap' => _) Tryz.underlying129 eo_131 (by decide) rfl rfl (rd_row pk_) (oneVal1s _) (by first | omega | (simp only [List.length_append, List.length_cons, List.length_nil] at *; omega)) (by first | omega | (simp only [List.length_append, List.length_cons, List.length_nil] at *; omega)) (fun _ _ => pk_)) ?_)
            rintro _ _ ⟨a28, c28, rfl, rfl⟩
            refine d_c ?_
            refine d_t 7 rfl wn (q_fieldp rfl fo_131_2) ?_
            refine d_1 8 ?_
            refine o_step rfl (s_s0 wn (s_storep (ws := [.slice a28 (x.d.2.1.length + 1) c28]) (cs := encVal1 (⟨0, (⟨none, [], 0⟩ : SL UInt8), ⟨x.d.2.2.2.2.1, x.d.2.1.length, x.d.2.2.2.2.2⟩⟩ : Val1)) (cs' := encVal1 (⟨0, (⟨none, [], 0⟩ : SL UInt8), ⟨a28, (x.d.2.1.length + 1), c28⟩⟩ : Val1)) rfl rfl rfl sz_129 (by simp [Value.oneCell', strB, ptV, SL.v, SH.v]) (by simp [encVal1]) rfl pk_) ?_)
            rintro _ _ ⟨rfl, rfl⟩
            refine d_c ?_
            refine d_d ?_
            refine k_blk_n ?_
            refine k_then_n ?_
            refine c_region ?_
            refine e_q (q_add rfl rfl (by omega) (by omega)) ?_
            refine e_mv rfl ?_
            refine l_n ?_
            refine Tr.ent (Ent.trans (Ent.pick (A := VA 5 131 v3) pk_ (Ent.pick (A := Bun (x.d.2.1.map (VA 5 131))) pk_ (Ent.refl _))) (bun_snoc _ _ _)) ?_
            rw [show x.d.2.1.map (VA 5 131) ++ [VA 5 131 v3] = (x.d.2.1 ++ [v3]).map (VA 5 131) from by simp, show x.d.2.1.map VT.val ++ [v3.val] = (x.d.2.1 ++ [v3]).map VT.val from by simp, show x.d.2.1.length + 1 = (x.d.2.1 ++ [v3]).length from by simp]
            refine Tr.ent (Ent.trans (Ent.pick (A := KA 268 209 (k.kids.getD x.d.1 default)) pk_ (Ent.pick (A := Bun ((k.kids.map (KA 268 209)).eraseIdx x.d.1)) pk_ (Ent.refl _))) (kid_in (tk := 268) (tp := 209) (l := k.kids) (i := x.d.1) hki)) ?_
            exact t_nx (⟨(x.d.1 + 1, x.d.2.1 ++ [v3], B3, e3, a28, c28), none, 0, none, 0, none, 0⟩ : Lp _) ⟨⟨by show (x.d.2.1 ++ [v3]).length = x.d.1 + 1; rw [List.length_append, hx1]; rfl, by show x.d.1 + 1 ≤ _; omega, hx3.trans hs3, by show RRow l (x.d.1 + 1) B e ((x.d.2.1 ++ [v3]).map VT.pv) B3 e3; rw [List.map_append]; exact row_next (by omega) hx4 (by rw [← hks]; exact hT3)⟩, by show _ - (x.d.1 + 1) < _; omega⟩ (.c (.c (.c (.c (.c (.c (.nil _)))))))
          · skip
            refine o_step rfl (s_fnb rfl wn Tryz.func140 rfl (by kernel_rfl) rfl sl_ (fun ρ' hL => ih (k.kids.getD x.d.1 default) hw9 t x.d.2.2.1 x.d.2.2.2.1 ρ' hko.1 (Ro.mono hL.1 (hx3.1 ρ hB)) (by have := hx3.2; omega) (by omega)) ?_)
            rintro _ _ ⟨v3, B3, e3, rfl, rfl, hs3, hT3⟩
            try simp only [List.cons_append, List.nil_append]
            refine d_c ?_
            refine d_2 1 5 ?_ ?_
            · skip
              refine o_step rfl (s_q rfl wn (q_loadp (v := .slice x.d.2.2.2.2.1 x.d.2.1.length x.d.2.2.2.2.2) sc_129 rfl pk_ rfl) ?_)
              refine d_c ?_
              refine d_1 5 ?_
              refine o_step rfl (s_s rfl wn (s_buildSlice (cs := ([v3.val] : List Val1).flatMap encVal1) Tryz.underlying129 eo_131 rfl rfl rfl rfl (by decide) (by decide)) ?_)
              rintro _ _ ⟨b27, rfl, rfl⟩
              refine d_c ?_
              refine d_1 6 ?_
              refine o_step rfl (s_s rfl wn (s_appendn (enc := encVal1) (xs := ((x.d.2.1.map VT.val) : List Val1)) (ys := ([v3.val] : List Val1)) (Γ' := fun a' cap' => _) Tryz.underlying129 eo_131 (by decide) rfl rfl (rd_row pk_) (oneVal1s _) (by first | omega | (simp only [List.length_append, List.length_cons, List.length_nil] at *; omega)) (by first | omega | (simp only [List.length_append, List.length_cons, List.length_nil] at *; omega)) (fun _ _ => pk_)) ?_)
              rintro _ _ ⟨a28, c28, rfl, rfl⟩
              refine d_c ?_
              refine d_t 7 rfl wn (q_fieldp rfl fo_131_2) ?_
              refine d_1 8 ?_
              refine o_step rfl (s_s0 wn (s_storep (ws := [.slice a28 (x.d.2.1.length + 1) c28]) (cs := encVal1 (⟨0, (⟨none, [], 0⟩ : SL UInt8), ⟨x.d.2.2.2.2.1, x.d.2.1.length, x.d.2.2.2.2.2⟩⟩ : Val1)) (cs' := encVal1 (⟨0, (⟨none, [], 0⟩ : SL UInt8), ⟨a28, (x.d.2.1.length + 1), c28⟩⟩ : Val1)) rfl rfl rfl sz_129 (by simp [Value.oneCell', strB, ptV, SL.v, SH.v]) (by simp [encVal1]) rfl pk_) ?_)
              rintro _ _ ⟨rfl, rfl⟩
              refine d_c ?_
              refine d_d ?_
              refine k_blk_n ?_
              refine k_then_n ?_
              refine c_region ?_
              refine e_q (q_add rfl rfl (by omega) (by omega)) ?_
              refine e_mv rfl ?_
              refine l_n ?_
              refine Tr.ent (Ent.trans (Ent.pick (A := VA 5 131 v3) pk_ (Ent.pick (A := Bun (x.d.2.1.map (VA 5 131))) pk_ (Ent.refl _))) (bun_snoc _ _ _)) ?_
              rw [show x.d.2.1.map (VA 5 131) ++ [VA 5 131 v3] = (x.d.2.1 ++ [v3]).map (VA 5 131) from by simp, show x.d.2.1.map VT.val ++ [v3.val] = (x.d.2.1 ++ [v3]).map VT.val from by simp, show x.d.2.1.length + 1 = (x.d.2.1 ++ [v3]).length from by simp]
              refine Tr.ent (Ent.trans (Ent.pick (A := KA 268 209 (k.kids.getD x.d.1 default)) pk_ (Ent.pick (A := Bun ((k.kids.map (KA 268 209)).eraseIdx x.d.1)) pk_ (Ent.refl _))) (kid_in (tk := 268) (tp := 209) (l := k.kids) (i := x.d.1) hki)) ?_
              exact t_nx (⟨(x.d.1 + 1, x.d.2.1 ++ [v3], B3, e3, a28, c28), none, 0, none, 0, none, 0⟩ : Lp _) ⟨⟨by show (x.d.2.1 ++ [v3]).length = x.d.1 + 1; rw [List.length_append, hx1]; rfl, by show x.d.1 + 1 ≤ _; omega, hx3.trans hs3, by show RRow l (x.d.1 + 1) B e ((x.d.2.1 ++ [v3]).map VT.pv) B3 e3; rw [List.map_append]; exact row_next (by omega) hx4 (by rw [← hks]; exact hT3)⟩, by show _ - (x.d.1 + 1) < _; omega⟩ (.c (.c (.c (.c (.c (.c (.nil _)))))))
            · skip
              refine o_step rfl (s_s rfl wn (s_buildSlice (cs := ([v3.val] : List Val1).flatMap encVal1) Tryz.underlying129 eo_131 rfl rfl rfl rfl (by decide) (by decide)) ?_)
              rintro _ _ ⟨b27, rfl, rfl⟩
              refine d_c ?_
              refine d_1 1 ?_
              refine o_step rfl (s_q rfl wn (q_loadp (v := .slice x.d.2.2.2.2.1 x.d.2.1.length x.d.2.2.2.2.2) sc_129 rfl pk_ rfl) ?_)
              refine d_c ?_
              refine d_1 6 ?_
              refine o_step rfl (s_s rfl wn (s_appendn (enc := encVal1) (xs := ((x.d.2.1.map VT.val) : List Val1)) (ys := ([v3.val] : List Val1)) (Γ' := fun a' cap' => _) Tryz.underlying129 eo_131 (by decide) rfl rfl (rd_row pk_) (oneVal1s _) (by first | omega | (simp only [List.length_append, List.length_cons, List.length_nil] at *; omega)) (by first | omega | (simp only [List.length_append, List.length_cons, List.length_nil] at *; omega)) (fun _ _ => pk_)) ?_)
              rintro _ _ ⟨a28, c28, rfl, rfl⟩
              refine d_c ?_
              refine d_t 7 rfl wn (q_fieldp rfl fo_131_2) ?_
              refine d_1 8 ?_
              refine o_step rfl (s_s0 wn (s_storep (ws := [.slice a28 (x.d.2.1.length + 1) c28]) (cs := encVal1 (⟨0, (⟨none, [], 0⟩ : SL UInt8), ⟨x.d.2.2.2.2.1, x.d.2.1.length, x.d.2.2.2.2.2⟩⟩ : Val1)) (cs' := encVal1 (⟨0, (⟨none, [], 0⟩ : SL UInt8), ⟨a28, (x.d.2.1.length + 1), c28⟩⟩ : Val1)) rfl rfl rfl sz_129 (by simp [Value.oneCell', strB, ptV, SL.v, SH.v]) (by simp [encVal1]) rfl pk_) ?_)
              rintro _ _ ⟨rfl, rfl⟩
              refine d_c ?_
              refine d_d ?_
              refine k_blk_n ?_
              refine k_then_n ?_
              refine c_region ?_
              refine e_q (q_add rfl rfl (by omega) (by omega)) ?_
              refine e_mv rfl ?_
              refine l_n ?_
              refine Tr.ent (Ent.trans (Ent.pick (A := VA 5 131 v3) pk_ (Ent.pick (A := Bun (x.d.2.1.map (VA 5 131))) pk_ (Ent.refl _))) (bun_snoc _ _ _)) ?_
              rw [show x.d.2.1.map (VA 5 131) ++ [VA 5 131 v3] = (x.d.2.1 ++ [v3]).map (VA 5 131) from by simp, show x.d.2.1.map VT.val ++ [v3.val] = (x.d.2.1 ++ [v3]).map VT.val from by simp, show x.d.2.1.length + 1 = (x.d.2.1 ++ [v3]).length from by simp]
              refine Tr.ent (Ent.trans (Ent.pick (A := KA 268 209 (k.kids.getD x.d.1 default)) pk_ (Ent.pick (A := Bun ((k.kids.map (KA 268 209)).eraseIdx x.d.1)) pk_ (Ent.refl _))) (kid_in (tk := 268) (tp := 209) (l := k.kids) (i := x.d.1) hki)) ?_
              exact t_nx (⟨(x.d.1 + 1, x.d.2.1 ++ [v3], B3, e3, a28, c28), none, 0, none, 0, none, 0⟩ : Lp _) ⟨⟨by show (x.d.2.1 ++ [v3]).length = x.d.1 + 1; rw [List.length_append, hx1]; rfl, by show x.d.1 + 1 ≤ _; omega, hx3.trans hs3, by show RRow l (x.d.1 + 1) B e ((x.d.2.1 ++ [v3]).map VT.pv) B3 e3; rw [List.map_append]; exact row_next (by omega) hx4 (by rw [← hks]; exact hT3)⟩, by show _ - (x.d.1 + 1) < _; omega⟩ (.c (.c (.c (.c (.c (.c (.nil _)))))))
        · try simp only [decide_eq_true_eq, decide_eq_false_iff_not] at h5
          have hin : x.d.1 = l.length := by omega
          refine c_exit ?_
          refine k_then_x ?_
          refine k_then_x ?_
          refine k_blk_x ?_
          refine k_blk_n ?_
          refine k_then_n ?_
          refine sr ?_
          refine e_q (q_loadpa (vs := encVal1 (⟨0, (⟨none, [], 0⟩ : SL UInt8), ⟨x.d.2.2.2.2.1, x.d.2.1.length, x.d.2.2.2.2.2⟩⟩ : Val1)) ag_131 rfl pk_ rfl) ?_
          refine l_step (s_s0 wn (s_storep (ws := encVal1 (⟨0, (⟨none, [], 0⟩ : SL UInt8), ⟨x.d.2.2.2.2.1, x.d.2.1.length, x.d.2.2.2.2.2⟩⟩ : Val1)) (cs := encVal1 zVal1) (cs' := encVal1 (⟨0, (⟨none, [], 0⟩ : SL UInt8), ⟨x.d.2.2.2.2.1, x.d.2.1.length, x.d.2.2.2.2.2⟩⟩ : Val1)) rfl rfl rfl sz_131 (oneVal1 _) (by simp [encVal1, encVal1]) rfl pk_) ?_)
          rintro _ _ ⟨rfl, rfl⟩
          refine l_n ?_
          refine c_ret ?_
          refine Tr.ent (Ent.trans (Ent.pick (A := .pts k.blk (encKind1 (⟨(wh k.s), ⟨k.a, k.kids.length, k.cap⟩⟩ : Kind1)) 268) pk_ (Ent.pick (A := .row 209 1 k.a k.kids.length k.cap ((k.kids.map KT.pt).flatMap encPt)) pk_ (Ent.pick (A := Bun (k.kids.map (KA 268 209))) pk_ (Ent.refl _)))) (k_same (tk := 268) (tp := 209) (k := k))) ?_
          refine Tr.ent (Ent.nilrow 5 1 _) ?_
          refine Tr.ent (Ent.trans (Ent.pick (A := .row 5 1 none 0 0 (([] : List UInt8).flatMap encB)) pk_ (Ent.pick (A := .row 131 3 x.d.2.2.2.2.1 x.d.2.1.length x.d.2.2.2.2.2 ((x.d.2.1.map VT.val).flatMap encVal1)) pk_ (Ent.pick (A := Bun (x.d.2.1.map (VA 5 131))) pk_ (Ent.refl _)))) (v_shut (tu := 5) (tv := 131) (n := 0) (b := (⟨none, [], 0⟩ : SL UInt8)) (a := x.d.2.2.2.2.1) (c := x.d.2.2.2.2.2) (l := x.d.2.1))) ?_
          exact t_rt [KA 268 209 k, .pts t (encTaker1 (⟨x.d.2.2.1, x.d.2.2.2.1⟩ : Taker1)) 213, VA 5 131 (.mk 0 (⟨none, [], 0⟩ : SL UInt8) x.d.2.2.2.2.1 x.d.2.2.2.2.2 x.d.2.1)] rfl (.cell rfl pk_ (fun w h => ld_agg (by exact ag_131) h) .nil) rfl ⟨rfl, _, _, _, rfl, rfl, hx3, by rw [hs2]; show RTk _ _ _ (PV.mk 0 [] (pvs _)) _ _; rw [pvs_map]; exact tk_row (by rw [← hin]; exact hx4)⟩

theorem take_ok : ∀ (n : Nat) (k : KT), k.s.wt ≤ n → TakeOk k
  | 0, k, h => by cases hs : k.s <;> rw [hs] at h <;> simp [Sh.wt] at h
  | n + 1, k, h => fun t B e ρ hk hB hbl hwt => take__spec k t B e ρ (fun t ht => take_ok n t (by omega)) hk hB hbl hwt
theorem take_spec (k : KT) : TakeOk k := take_ok _ k (Nat.le_refl _)
end Go.Mou

/-
  Package mould, walked.
-/
set_option maxRecDepth 100000
set_option maxHeartbeats 4000000
set_option linter.unusedSimpArgs false
set_option linter.unusedVariables false
namespace Go.Mou
open Go Go.SL Go.Proofs Go.Mou
attribute [local irreducible] Go.SL.Ent
theorem zc_213 : zeroCs Tryz.prog 213 = some [.slice none 0 0, .int .i64 0] := by kernel_rfl
theorem pl_213 : placesOf Tryz.prog 213 = some [(0, 1), (1, 1)] := by kernel_rfl
theorem zc_131 : zeroCs Tryz.prog 131 = some [.int .u64 0, .slice none 0 0, .slice none 0 0] := by kernel_rfl
theorem pl_131 : placesOf Tryz.prog 131 = some [(0, 1), (1, 1), (2, 1)] := by kernel_rfl

theorem Take_spec (s : Sh) (B : SL UInt8) (ρ : Hp) (hl : s.str.length ≤ 64) (hd : s.dep ≤ 8) (hw : s.wt ≤ 1000000) (hB : B.ro encB 1 ρ) (hbl : B.xs.length ≤ 1000000000000) : Spec0 Tryz.prog 63 #[strB s.str, .slice B.a B.xs.length B.cap] ρ [] (fun w Γ' => ∃ (v : VT) (e' : Int), w = .tuple #[.agg (encVal1 v.val).toArray, .int .i64 e'] ∧ Γ' = [VA 5 131 v] ∧ RTake s B.xs v.pv e') := by
  refine spec_of (n := 39) (vs := [_, _]) (σ := [(0, _), (1, _)]) Tryz.func63 rfl rfl rfl rfl fun E Δ => ?_
  rw [List.nil_append]
  refine sr ?_
  refine e_s (s_allocz (cs := encVal1 zVal1) (by kernel_rfl)) ?_
  rintro _ _ ⟨b4, rfl, rfl⟩
  refine e_as rfl ?_
  refine l_n ?_
  refine sr ?_
  refine e_mv rfl ?_
  refine e_fn Tryz.func139 rfl sl_ (fun ρ' hL => parse_spec s ρ' hl hd) ?_
  rintro _ _ ⟨kN, hk1, hk2, rfl, rfl⟩
  try simp only [List.cons_append, List.nil_append]
  refine e_as rfl ?_
  refine l_n ?_
  refine c_seq ?_
  refine sr ?_
  refine e_mv rfl ?_
  refine e_q (q_eqlo (e := (some kN.blk)) rfl rfl Tryz.underlying209) ?_
  refine l_n ?_
  refine c_sure false rfl (by rfl) ?_
  simp only [Bool.false_eq_true, if_true, if_false]
  refine c_skip ?_
  refine k_then_n ?_
  refine sr ?_
  refine e_mv rfl ?_
  refine e_q (q_build (cs := encTaker1 (⟨B, 0⟩ : Taker1)) zc_213 pl_213 rfl rfl) ?_
  refine e_s (s_box (cs := encTaker1 (⟨B, 0⟩ : Taker1)) rfl rfl) ?_
  rintro _ _ ⟨b16, rfl, rfl⟩
  refine e_as rfl ?_
  refine l_n ?_
  refine sr ?_
  refine e_mv rfl ?_
  refine e_mv rfl ?_
  refine e_fn Tryz.func140 rfl sl_ (fun ρ' hL => take_spec kN b16 B 0 ρ' hk2 (Ro.mono hL.1 hB) hbl (by rw [hk1]; exact hw)) ?_
  rintro _ _ ⟨v3, B3, e3, rfl, rfl, hs3, hT3⟩
  try simp only [List.cons_append, List.nil_append]
  rw [hk1] at hT3
  refine e_s (s_allocz (cs := encVal1 zVal1) (by kernel_rfl)) ?_
  rintro _ _ ⟨b8, rfl, rfl⟩
  refine l_step (s_s0 wn (s_storep (ws := encVal1 v3.val) (cs := encVal1 zVal1) (cs' := encVal1 v3.val) rfl rfl rfl sz_131 (oneVal1 _) (by simp [encVal1, encVal1]) rfl pk_) ?_)
  rintro _ _ ⟨rfl, rfl⟩
  refine l_n ?_
  refine c_seq ?_
  refine sr ?_
  refine e_mv rfl ?_
  refine e_q (q_nilCheck rfl) ?_
  refine e_q (q_fieldp rfl fo_213_0) ?_
  refine e_q (q_loadp (v := .slice B3.a B3.xs.length B3.cap) sc_22 rfl pk_ rfl) ?_
  refine e_q (q_len Tryz.underlying22 rfl) ?_
  refine e_q (q_gtr rfl rfl) ?_
  refine l_n ?_
  refine c_cond rfl (fun h1 => ?_) (fun h1 => ?_)
  · try simp only [decide_eq_true_eq, decide_eq_false_iff_not] at h1
    have h1' := h1
    replace h1 : B3.xs ≠ [] := fun h => by rw [h] at h1'; simp at h1'
    refine c_region ?_
    refine e_mv rfl ?_
    refine e_fn Tryz.func141 rfl sl_ (fun ρ' hL => fail_spec b16 B3 e3 12 ρ') ?_
    rintro _ _ ⟨rfl, rfl⟩
    try simp only [List.cons_append, List.nil_append]
    refine l_n ?_
    refine c_seq ?_
    refine sr ?_
    refine e_mv rfl ?_
    refine e_q (q_nilCheck rfl) ?_
    refine e_q (q_fieldp rfl fo_213_1) ?_
    refine e_q (q_loadp (v := .int .i64 (if e3 = 0 then 12 else e3)) sc_28 rfl pk_ rfl) ?_
    refine e_q (q_neq rfl rfl) ?_
    refine l_n ?_
    refine c_sure true rfl (decide_eq_true (by split <;> omega)) ?_
    simp only [Bool.false_eq_true, if_true, if_false]
    refine c_seq ?_
    refine d_r 7 [.pts b8 (encVal1 v3.val) 131, VA 5 131 v3, .pts b16 (encTaker1 (⟨B3, (if e3 = 0 then 12 else e3)⟩ : Taker1)) 213, KA 268 209 kN] ?_
    refine d_t 0 rfl wn (q_build (cs := encVal1 (⟨0, ⟨none, [], 0⟩, ⟨none, 0, 0⟩⟩ : Val1)) zc_131 pl_131 rfl rfl) ?_
    refine d_t 1 rfl wn (q_move rfl) ?_
    refine d_t 2 rfl wn (q_nilCheck rfl) ?_
    refine d_t 3 rfl wn (q_fieldp rfl fo_213_1) ?_
    refine d_t 4 rfl wn (q_loadp (v := .int .i64 (if e3 = 0 then 12 else e3)) sc_28 rfl pk_ rfl) ?_
    refine d_1 5 ?_
    refine o_step rfl (s_s0 wn (s_storep (ws := encVal1 (⟨0, ⟨none, [], 0⟩, ⟨none, 0, 0⟩⟩ : Val1)) (cs := encVal1 zVal1) (cs' := encVal1 (⟨0, ⟨none, [], 0⟩, ⟨none, 0, 0⟩⟩ : Val1)) rfl rfl rfl sz_131 (oneVal1 _) (by simp [encVal1, encVal1]) rfl pk_) ?_)
    rintro _ _ ⟨rfl, rfl⟩
    refine d_c ?_
    refine d_t 6 rfl wn (q_assign rfl) ?_
    refine d_d ?_
    refine k_then_n ?_
    refine c_ret ?_
    refine k_then_r ?_
    refine Tr.ent (Ent.nilrow 5 1 _) ?_
    refine Tr.ent (Ent.nilrow 131 3 _) ?_
    refine Tr.ent (bun_nil _) ?_
    refine Tr.ent (Ent.trans (Ent.pick (A := .row 5 1 none 0 0 (([] : List UInt8).flatMap encB)) pk_ (Ent.pick (A := .row 131 3 none 0 0 ((([] : List VT).map VT.val).flatMap encVal1)) pk_ (Ent.pick (A := Bun (([] : List VT).map (VA 5 131))) pk_ (Ent.refl _)))) (v_shut (tu := 5) (tv := 131) (n := 0) (b := (⟨none, [], 0⟩ : SL UInt8)) (a := none) (c := 0) (l := ([] : List VT)))) ?_
    exact t_rt [VA 5 131 (.mk 0 (⟨none, [], 0⟩ : SL UInt8) none 0 ([] : List VT))] rfl (.cell rfl pk_ (fun w h => ld_agg (by exact ag_131) h) (.tmp rfl .nil)) rfl ⟨rfl, _, _, rfl, rfl, take_extra hT3 h1⟩
  · try simp only [decide_eq_true_eq, decide_eq_false_iff_not] at h1
    have h1' := h1
    replace h1 : B3.xs = [] := List.length_eq_zero_iff.1 (by omega)
    refine c_skip ?_
    refine k_then_n ?_
    refine c_seq ?_
    refine sr ?_
    refine e_mv rfl ?_
    refine e_q (q_nilCheck rfl) ?_
    refine e_q (q_fieldp rfl fo_213_1) ?_
    refine e_q (q_loadp (v := .int .i64 e3) sc_28 rfl pk_ rfl) ?_
    refine e_q (q_neq rfl rfl) ?_
    refine l_n ?_
    refine c_cond rfl (fun h2 => ?_) (fun h2 => ?_)
    · try simp only [decide_eq_true_eq, decide_eq_false_iff_not, ne_eq, Decidable.not_not] at h2
      refine c_seq ?_
      refine d_r 7 [.pts b8 (encVal1 v3.val) 131, VA 5 131 v3, .pts b16 (encTaker1 (⟨B3, e3⟩ : Taker1)) 213, KA 268 209 kN] ?_
      refine d_t 0 rfl wn (q_build (cs := encVal1 (⟨0, ⟨none, [], 0⟩, ⟨none, 0, 0⟩⟩ : Val1)) zc_131 pl_131 rfl rfl) ?_
      refine d_t 1 rfl wn (q_move rfl) ?_
      refine d_t 2 rfl wn (q_nilCheck rfl) ?_
      refine d_t 3 rfl wn (q_fieldp rfl fo_213_1) ?_
      refine d_t 4 rfl wn (q_loadp (v := .int .i64 e3) sc_28 rfl pk_ rfl) ?_
      refine d_1 5 ?_
      refine o_step rfl (s_s0 wn (s_storep (ws := encVal1 (⟨0, ⟨none, [], 0⟩, ⟨none, 0, 0⟩⟩ : Val1)) (cs := encVal1 zVal1) (cs' := encVal1 (⟨0, ⟨none, [], 0⟩, ⟨none, 0, 0⟩⟩ : Val1)) rfl rfl rfl sz_131 (oneVal1 _) (by simp [encVal1, encVal1]) rfl pk_) ?_)
      rintro _ _ ⟨rfl, rfl⟩
      refine d_c ?_
      refine d_t 6 rfl wn (q_assign rfl) ?_
      refine d_d ?_
      refine k_then_n ?_
      refine c_ret ?_
      refine k_then_r ?_
      refine Tr.ent (Ent.nilrow 5 1 _) ?_
      refine Tr.ent (Ent.nilrow 131 3 _) ?_
      refine Tr.ent (bun_nil _) ?_
      refine Tr.ent (Ent.trans (Ent.pick (A := .row 5 1 none 0 0 (([] : List UInt8).flatMap encB)) pk_ (Ent.pick (A := .row 131 3 none 0 0 ((([] : List VT).map VT.val).flatMap encVal1)) pk_ (Ent.pick (A := Bun (([] : List VT).map (VA 5 131))) pk_ (Ent.refl _)))) (v_shut (tu := 5) (tv := 131) (n := 0) (b := (⟨none, [], 0⟩ : SL UInt8)) (a := none) (c := 0) (l := ([] : List VT)))) ?_
      exact t_rt [VA 5 131 (.mk 0 (⟨none, [], 0⟩ : SL UInt8) none 0 ([] : List VT))] rfl (.cell rfl pk_ (fun w h => ld_agg (by exact ag_131) h) (.tmp rfl .nil)) rfl ⟨rfl, _, _, rfl, rfl, take_err hT3 h2⟩
    · try simp only [decide_eq_true_eq, decide_eq_false_iff_not, ne_eq, Decidable.not_not] at h2
      refine c_skip ?_
      refine k_then_n ?_
      refine sr ?_
      refine e_q (q_loadpa (vs := encVal1 v3.val) ag_131 rfl pk_ rfl) ?_
      refine l_step (s_s0 wn (s_storep (ws := encVal1 v3.val) (cs := encVal1 zVal1) (cs' := encVal1 v3.val) rfl rfl rfl sz_131 (oneVal1 _) (by simp [encVal1, encVal1]) rfl pk_) ?_)
      rintro _ _ ⟨rfl, rfl⟩
      refine e_as rfl ?_
      refine l_n ?_
      refine c_ret ?_
      exact t_rt [VA 5 131 v3] rfl (.cell rfl pk_ (fun w h => ld_agg (by exact ag_131) h) (.tmp rfl .nil)) rfl ⟨rfl, v3, 0, rfl, rfl, by rw [← h2]; exact take_fine hT3 h2 h1⟩
end Go.Mou

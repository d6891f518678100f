/-
  Walked.
-/
import Derived.Test.YtijldgggjioccaaGreatDoorShfE
import Derived.Test.YtijldgggjioccaaGreatDoorShfN
import Derived.Test.YtijldgggjioccaaGreatDoorSlEd
import Derived.Test.YtijldgggjioccaaGreatDoorProg
set_option maxRecDepth 100000
set_option maxHeartbeats 4000000
set_option linter.unusedSimpArgs false
set_option linter.unusedVariables false
namespace Go.Shf
open Go Go.SL Go.Proofs Go.Mou Go.Dsk Go.Hrd
attribute [local irreducible] Go.SL.Ent


theorem snap_spec (index : Int) (term : Int) (body : (List UInt8)) (ρ : Hp) (hb : body.length ≤ 9223372036854775807) : Spec0 Tryz.prog 29 #[.int .i64 index, .int .i64 term, (strB body)] ρ [] (fun v Γ' => ∃ y : Snap1, v = .agg (encSnap1 y).toArray ∧ pS y = ⟨index, term, [], body⟩ ∧ Γ' = [.row 5 1 y.Conf.a y.Conf.xs.length y.Conf.cap (y.Conf.xs.flatMap encB), .row 5 1 y.Body.a y.Body.xs.length y.Body.cap (y.Body.xs.flatMap encB)]) := by
  refine spec_of (n := 13) (vs := [_, _, _]) (σ := [(0, _), (1, _), (2, _)]) Tryz.func29 rfl rfl rfl rfl fun E Δ => ?_
  rw [List.nil_append]
  refine sr ?_
  refine e_s (s_allocz (cs := encSnap1 zSnap1) (by kernel_rfl)) ?_
  rintro _ _ ⟨b6, rfl, rfl⟩
  refine l_n ?_
  refine sr ?_
  refine e_mv rfl ?_
  refine e_mv rfl ?_
  refine e_q (q_build (cs := encMark1 (⟨index, term⟩ : Mark1)) zc_24 pl_24 rfl rfl) ?_
  refine e_mv rfl ?_
  refine e_s (s_strbytes (bs := body) Tryz.underlying9 Tryz.underlying22 Tryz.underlying5 rfl (by first | decide | assumption | omega)) ?_
  rintro _ _ ⟨b11, c11, rfl, rfl⟩
  refine e_q (q_build (cs := encSnap1 (⟨(⟨index, term⟩ : Mark1), ⟨none, [], 0⟩, (⟨(some ⟨b11, 0, none⟩), body, c11⟩ : SL UInt8)⟩ : Snap1)) zc_26 pl_26 rfl rfl) ?_
  refine l_step (s_s0 wn (s_storep (ws := encSnap1 (⟨(⟨index, term⟩ : Mark1), ⟨none, [], 0⟩, (⟨(some ⟨b11, 0, none⟩), body, c11⟩ : SL UInt8)⟩ : Snap1)) (cs := encSnap1 zSnap1) (cs' := encSnap1 (⟨(⟨index, term⟩ : Mark1), ⟨none, [], 0⟩, (⟨(some ⟨b11, 0, none⟩), body, c11⟩ : SL UInt8)⟩ : Snap1)) rfl rfl rfl sz_26 (oneSnap1 _) (by simp [encSnap1, encSnap1]) rfl pk_) ?_)
  rintro _ _ ⟨rfl, rfl⟩
  refine l_n ?_
  refine c_ret ?_
  refine Tr.ent (Ent.nilrow 5 1 _) ?_
  exact t_rt [.row 5 1 none 0 0 (([] : List UInt8).flatMap encB), .row 5 1 (some ⟨b11, 0, none⟩) body.length c11 (body.flatMap encB)] rfl (.cell rfl pk_ (fun w h => ld_agg (by exact ag_26) h) .nil) rfl ⟨rfl, (⟨⟨index, term⟩, ⟨none, [], 0⟩, ⟨some ⟨b11, 0, none⟩, body, c11⟩⟩ : Snap1), rfl, rfl, rfl⟩

theorem awake_spec  (ρ : Hp) : Spec0 Tryz.prog 12 #[] ρ [] (fun v Γ' => v = .bool (true) ∧ Γ' = []) := by
  refine spec_of (n := 85) (vs := []) (σ := []) Tryz.func12 rfl rfl rfl rfl fun E Δ => ?_
  rw [List.nil_append]
  refine sr ?_
  refine e_as rfl ?_
  refine l_n ?_
  refine sr ?_
  refine e_fn Tryz.func19 rfl sl_ (fun ρ' hL => Go.Dsk.X.new_spec 1000 ρ') ?_
  rintro _ _ hnew
  obtain ⟨bD, mbD, rfl, rfl⟩ := Go.Dsk.or_yes hnew (by omega)
  try simp only [List.cons_append, List.nil_append]
  refine e_mv rfl ?_
  refine e_q (q_extract rfl rfl) ?_
  refine e_q (q_extract rfl rfl) ?_
  refine e_as rfl ?_
  refine e_as rfl ?_
  refine l_n ?_
  refine sr ?_
  refine e_mv rfl ?_
  refine e_fn Tryz.func20 rfl sl_ (fun ρ' hL => open__spec bD 1000 mbD (-1) [] ρ' (Go.Dsk.fok.2 si_nil.ok)) ?_
  rintro _ _ ⟨sA, tA, hsA, rfl, hnsA, rfl⟩
  try simp only [List.cons_append, List.nil_append]
  obtain ⟨htsA, hhsA⟩ := Prod.mk.inj (hnsA.trans (new_none si_nil))
  rw [hhsA]
  refine e_mv rfl ?_
  refine e_q (q_extract rfl rfl) ?_
  refine e_q (q_extract rfl rfl) ?_
  refine e_as rfl ?_
  refine e_as rfl ?_
  refine l_n ?_
  refine c_seq ?_
  refine sr ?_
  refine e_mv rfl ?_
  refine e_q (by first | exact q_eqlp rfl rfl Tryz.underlying42 | exact q_eqlp0 rfl rfl Tryz.underlying42) ?_
  refine e_mv rfl ?_
  refine e_qw (wy rfl rfl rfl) (q_move rfl) ?_
  refine e_qw (wy rfl rfl rfl) (q_neq rfl rfl) ?_
  refine e_q (q_pick rfl rfl rfl) ?_
  refine l_n ?_
  refine c_sure false rfl (by rfl) ?_
  simp only [Bool.false_eq_true, if_true, if_false]
  refine c_skip ?_
  refine k_then_n ?_
  refine sr ?_
  refine e_mv rfl ?_
  refine e_fn Tryz.func29 rfl sl_ (fun ρ' hL => snap_spec 5 1 [97, 98, 99] ρ' (by decide)) ?_
  rintro _ _ ⟨xa, rfl, hxa, rfl⟩
  try simp only [List.cons_append, List.nil_append]
  have hcxa : xa.Conf.xs = [] := congrArg PSnap.conf hxa
  have hbxa : xa.Body.xs = [97, 98, 99] := congrArg PSnap.body hxa
  have hixa : xa.Mark.Index = 5 := congrArg PSnap.ix hxa
  refine e_fn Tryz.func22 rfl sl_ (fun ρ' hL => put_spec bD 1000 mbD (-1) [] sA tA false xa ρ' (Go.Dsk.fok.2 si_nil.ok) (by decide) (by decide) (by decide) (by decide) (hL.row pk_) (hL.row pk_) (by rw [hcxa]; decide) (by rw [hbxa]; decide) (by rw [hixa]; decide)) ?_
  rintro _ _ ⟨T1, yA, rfl, hvT1, h0T1, h1T1, rfl⟩
  try simp only [List.cons_append, List.nil_append]
  have hqT1 : (putX 1000 (-1) (vw []) false (pS tA) (pS xa)) = (0, aV1, (-1)) := by rw [htsA, hxa]; exact aw_put1
  rw [hqT1] at hvT1 h0T1 h1T1
  rw [hqT1]
  rw [if_pos rfl]
  replace h0T1 : pS yA = pS xa := h0T1 rfl
  replace hvT1 : vw T1 = aV1 := hvT1
  have hyA : pS yA = x5 := h0T1.trans hxa
  refine e_mv rfl ?_
  refine e_fn Tryz.func29 rfl sl_ (fun ρ' hL => snap_spec 5 2 [] ρ' (by decide)) ?_
  rintro _ _ ⟨xb, rfl, hxb, rfl⟩
  try simp only [List.cons_append, List.nil_append]
  have hcxb : xb.Conf.xs = [] := congrArg PSnap.conf hxb
  have hbxb : xb.Body.xs = [] := congrArg PSnap.body hxb
  have hixb : xb.Mark.Index = 5 := congrArg PSnap.ix hxb
  refine e_fn Tryz.func22 rfl sl_ (fun ρ' hL => put_spec bD 1000 mbD (-1) T1 sA yA true xb ρ' (Go.Dsk.fok.2 (by rw [hvT1]; exact aw_si1.ok)) (by rw [← used_vw, hvT1]; decide +kernel) (by decide) (by decide) (by rw [← used_vw, hvT1]; decide +kernel) (hL.row pk_) (hL.row pk_) (by rw [hcxb]; decide) (by rw [hbxb]; decide) (by rw [hixb]; decide)) ?_
  rintro _ _ ⟨T2, yB, rfl, hvT2, h0T2, h1T2, rfl⟩
  try simp only [List.cons_append, List.nil_append]
  have hqT2 : (putX 1000 (-1) (vw T1) true (pS yA) (pS xb)) = (2, aV1, (-1)) := by rw [hvT1, hyA, hxb]; exact aw_put2 _
  rw [hqT2] at hvT2 h0T2 h1T2
  rw [hqT2]
  rw [if_neg (by decide)]
  obtain rfl : yA = yB := (h1T2 (by decide)).symm
  replace hvT2 : vw T2 = aV1 := hvT2
  refine e_as rfl ?_
  refine e_as rfl ?_
  refine l_n ?_
  refine sr ?_
  refine e_mv rfl ?_
  refine e_fn Tryz.func25 rfl sl_ (fun ρ' hL => newest_spec bD sA yA true ρ' (by rw [show yA.Conf.xs = [] from congrArg PSnap.conf hyA]; decide) (by rw [show yA.Body.xs = [97, 98, 99] from congrArg PSnap.body hyA]; decide)) ?_
  rintro _ _ ⟨ya, rfl, hya1, hya2, hya3, rfl⟩
  try simp only [List.cons_append, List.nil_append]
  have hya : pS ya = pS yA := by unfold pS; rw [hya1, hya2, hya3]
  refine e_mv rfl ?_
  refine e_q (q_extract rfl rfl) ?_
  refine e_q (q_extract rfl rfl) ?_
  refine e_s (s_allocz (cs := encSnap1 zSnap1) (by kernel_rfl)) ?_
  rintro _ _ ⟨b7, rfl, rfl⟩
  refine l_step (s_s0 wn (s_storep (ws := encSnap1 ya) (cs := encSnap1 zSnap1) (cs' := encSnap1 ya) rfl rfl rfl sz_26 (oneSnap1 _) (by simp [encSnap1, encSnap1]) rfl pk_) ?_)
  rintro _ _ ⟨rfl, rfl⟩
  refine e_as rfl ?_
  refine l_n ?_
  refine sr ?_
  refine e_mv rfl ?_
  refine e_fn Tryz.func21 rfl sl_ (fun ρ' hL => Go.Dsk.stop_spec bD 1000 mbD (-1) T2 2 ρ') ?_
  rintro _ _ ⟨rfl, rfl⟩
  try simp only [List.cons_append, List.nil_append]
  rw [show (if (-1 : Int) > 2 then (-1) else 2) = 2 from rfl]
  refine l_n ?_
  refine sr ?_
  refine e_mv rfl ?_
  refine e_fn Tryz.func29 rfl sl_ (fun ρ' hL => snap_spec 9 1 [122] ρ' (by decide)) ?_
  rintro _ _ ⟨xc, rfl, hxc, rfl⟩
  try simp only [List.cons_append, List.nil_append]
  have hcxc : xc.Conf.xs = [] := congrArg PSnap.conf hxc
  have hbxc : xc.Body.xs = [122] := congrArg PSnap.body hxc
  have hixc : xc.Mark.Index = 9 := congrArg PSnap.ix hxc
  refine e_fn Tryz.func22 rfl sl_ (fun ρ' hL => put_spec bD 1000 mbD 2 T2 sA yA true xc ρ' (Go.Dsk.fok.2 (by rw [hvT2]; exact aw_si1.ok)) (by rw [← used_vw, hvT2]; decide +kernel) (by decide) (by decide) (by rw [← used_vw, hvT2]; decide +kernel) (hL.row pk_) (hL.row pk_) (by rw [hcxc]; decide) (by rw [hbxc]; decide) (by rw [hixc]; decide)) ?_
  rintro _ _ ⟨T3, yC, rfl, hvT3, h0T3, h1T3, rfl⟩
  try simp only [List.cons_append, List.nil_append]
  have hqT3 : (putX 1000 2 (vw T2) true (pS yA) (pS xc)) = (32, aV3, aC3) := by rw [hvT2, hyA, hxc]; exact aw_put3
  rw [hqT3] at hvT3 h0T3 h1T3
  rw [hqT3]
  rw [if_neg (by decide)]
  obtain rfl : yA = yC := (h1T3 (by decide)).symm
  replace hvT3 : vw T3 = aV3 := hvT3
  refine e_as rfl ?_
  refine l_n ?_
  refine sr ?_
  refine e_mv rfl ?_
  refine e_fn Tryz.func24 rfl sl_ (fun ρ' hL => Go.Dsk.V.crash_spec bD 1000 mbD aC3 T3 none 0 0 [] rfl ρ' (Go.Dsk.fok.2 (by rw [hvT3]; exact aw_si3.ok)) (SL.ro_nil encI 1 ρ')) ?_
  rintro _ _ ⟨T4, rfl, hvT4, rfl⟩
  try simp only [List.cons_append, List.nil_append]
  generalize (crR [] (vw T3)).2 = gT4
  rw [hvT3] at hvT4
  refine l_n ?_
  refine sr ?_
  refine e_mv rfl ?_
  refine e_fn Tryz.func20 rfl sl_ (fun ρ' hL => open__spec bD 1000 mbD (-1) T4 ρ' (Go.Dsk.fok.2 (by rw [hvT4]; exact (si_crash aw_si3 []).ok))) ?_
  rintro _ _ ⟨sB, tB, hsB, rfl, hnsB, rfl⟩
  try simp only [List.cons_append, List.nil_append]
  obtain ⟨htsB, hhsB⟩ := Prod.mk.inj (hnsB.trans (aw_new [] hvT4))
  rw [hhsB]
  refine e_mv rfl ?_
  refine e_q (q_extract rfl rfl) ?_
  refine e_q (q_extract rfl rfl) ?_
  refine e_as rfl ?_
  refine e_as rfl ?_
  refine l_n ?_
  refine c_seq ?_
  refine sr ?_
  refine e_mv rfl ?_
  refine e_q (by first | exact q_eqlp rfl rfl Tryz.underlying42 | exact q_eqlp0 rfl rfl Tryz.underlying42) ?_
  refine l_n ?_
  refine c_sure false rfl (by rfl) ?_
  simp only [Bool.false_eq_true, if_true, if_false]
  refine c_skip ?_
  refine k_then_n ?_
  refine sr ?_
  refine e_mv rfl ?_
  refine e_fn Tryz.func25 rfl sl_ (fun ρ' hL => newest_spec bD sB tB true ρ' (by rw [show tB.Conf.xs = [] from congrArg PSnap.conf htsB]; decide) (by rw [show tB.Body.xs = [97, 98, 99] from congrArg PSnap.body htsB]; decide)) ?_
  rintro _ _ ⟨yb, rfl, hyb1, hyb2, hyb3, rfl⟩
  try simp only [List.cons_append, List.nil_append]
  have hyb : pS yb = pS tB := by unfold pS; rw [hyb1, hyb2, hyb3]
  refine e_mv rfl ?_
  refine e_q (q_extract rfl rfl) ?_
  refine e_q (q_extract rfl rfl) ?_
  refine e_s (s_allocz (cs := encSnap1 zSnap1) (by kernel_rfl)) ?_
  rintro _ _ ⟨b12, rfl, rfl⟩
  refine l_step (s_s0 wn (s_storep (ws := encSnap1 yb) (cs := encSnap1 zSnap1) (cs' := encSnap1 yb) rfl rfl rfl sz_26 (oneSnap1 _) (by simp [encSnap1, encSnap1]) rfl pk_) ?_)
  rintro _ _ ⟨rfl, rfl⟩
  refine e_as rfl ?_
  refine l_n ?_
  refine c_seq ?_
  refine d_r 27 [] ?_
  refine d_t 0 rfl wn (q_move rfl) ?_
  refine d_t 1 rfl wn (q_eql rfl rfl) ?_
  refine d_t 2 rfl wn (q_move rfl) ?_
  refine Tr.env (.cons (t := 61) (v := .bool true) rfl (congrArg Value.bool (by rfl)) (EnvLe.refl _)) ?_
  refine d_t 3 rfl (wy rfl rfl rfl) (q_move rfl) ?_
  refine d_t 4 rfl (wy rfl rfl rfl) (q_eql rfl rfl) ?_
  refine d_t 5 rfl wn (q_pick rfl rfl rfl) ?_
  refine d_t 6 rfl wn (q_move rfl) ?_
  refine Tr.env (.cons (t := 65) (v := .bool true) rfl (congrArg Value.bool (by rfl)) (EnvLe.refl _)) ?_
  refine d_t 7 rfl (wy rfl rfl rfl) (q_move rfl) ?_
  refine d_t 8 rfl wn (q_pick rfl rfl rfl) ?_
  refine d_t 9 rfl wn (q_move rfl) ?_
  refine d_t 10 rfl (wy rfl rfl rfl) (q_move rfl) ?_
  refine d_t 11 rfl (wy rfl rfl rfl) (q_eql rfl rfl) ?_
  refine d_t 12 rfl wn (q_pick rfl rfl rfl) ?_
  refine d_t 13 rfl wn (q_move rfl) ?_
  refine Tr.env (.cons (t := 72) (v := .bool true) rfl (congrArg Value.bool (by rfl)) (EnvLe.refl _)) ?_
  refine d_t 14 rfl (wy rfl rfl rfl) (q_move rfl) ?_
  refine d_t 15 rfl wn (q_pick rfl rfl rfl) ?_
  refine d_t 16 rfl wn (q_move rfl) ?_
  refine d_2 17 18 ?_ ?_
  · skip
    refine o_step rfl (s_q rfl (wy rfl rfl rfl) (q_loadpa (vs := encSnap1 ya) ag_26 rfl pk_ rfl) ?_)
    refine d_c ?_
    refine d_1 18 ?_
    refine o_step rfl (s_fnb rfl (wy rfl rfl rfl) Tryz.func29 rfl (by kernel_rfl) rfl sl_ (fun ρ' hL => snap_spec 5 1 [97, 98, 99] ρ' (by decide)) ?_)
    rintro _ _ ⟨xd, rfl, hxd, rfl⟩
    try simp only [List.cons_append, List.nil_append]
    have hcxd : xd.Conf.xs = [] := congrArg PSnap.conf hxd
    have hbxd : xd.Body.xs = [97, 98, 99] := congrArg PSnap.body hxd
    have hixd : xd.Mark.Index = 5 := congrArg PSnap.ix hxd
    refine d_c ?_
    refine d_1 19 ?_
    refine o_step rfl (s_fnq rfl (wy rfl rfl rfl) Tryz.func15 rfl (by kernel_rfl) rfl (fun ρ' hL => same_spec ya xd ρ' (hL.row pk_) (hL.row pk_) (hL.row pk_) (hL.row pk_)) ?_)
    refine d_c ?_
    refine d_t 20 rfl wn (q_pick rfl rfl rfl) ?_
    refine d_t 21 rfl wn (q_move rfl) ?_
    refine Tr.env (.cons (t := 80) (v := .bool true) rfl (congrArg Value.bool (decide_eq_true (hya.trans (hyA.trans hxd.symm)))) (EnvLe.refl _)) ?_
    refine d_2 22 23 ?_ ?_
    · skip
      refine o_step rfl (s_q rfl (wy rfl rfl rfl) (q_loadpa (vs := encSnap1 yb) ag_26 rfl pk_ rfl) ?_)
      refine d_c ?_
      refine d_1 23 ?_
      refine o_step rfl (s_q rfl (wy rfl rfl rfl) (q_loadpa (vs := encSnap1 ya) ag_26 rfl pk_ rfl) ?_)
      refine d_c ?_
      refine d_1 24 ?_
      refine o_step rfl (s_fnq rfl (wy rfl rfl rfl) Tryz.func15 rfl (by kernel_rfl) rfl (fun ρ' hL => same_spec yb ya ρ' (hL.row pk_) (hL.row pk_) (hL.row pk_) (hL.row pk_)) ?_)
      refine d_c ?_
      refine d_t 25 rfl wn (q_pick rfl rfl rfl) ?_
      refine d_t 26 rfl wn (q_assign rfl) ?_
      refine d_d ?_
      refine k_then_n ?_
      refine c_ret ?_
      exact t_rt [] rfl (.tmp rfl .nil) rfl ⟨rfl, boole (decide_eq_true (hyb.trans (htsB.trans (hya.trans hyA).symm))), rfl⟩ (by (repeat refine Ent.skip ?_); exact Ent.refl _)
    · skip
      refine o_step rfl (s_q rfl (wy rfl rfl rfl) (q_loadpa (vs := encSnap1 ya) ag_26 rfl pk_ rfl) ?_)
      refine d_c ?_
      refine d_1 22 ?_
      refine o_step rfl (s_q rfl (wy rfl rfl rfl) (q_loadpa (vs := encSnap1 yb) ag_26 rfl pk_ rfl) ?_)
      refine d_c ?_
      refine d_1 24 ?_
      refine o_step rfl (s_fnq rfl (wy rfl rfl rfl) Tryz.func15 rfl (by kernel_rfl) rfl (fun ρ' hL => same_spec yb ya ρ' (hL.row pk_) (hL.row pk_) (hL.row pk_) (hL.row pk_)) ?_)
      refine d_c ?_
      refine d_t 25 rfl wn (q_pick rfl rfl rfl) ?_
      refine d_t 26 rfl wn (q_assign rfl) ?_
      refine d_d ?_
      refine k_then_n ?_
      refine c_ret ?_
      exact t_rt [] rfl (.tmp rfl .nil) rfl ⟨rfl, boole (decide_eq_true (hyb.trans (htsB.trans (hya.trans hyA).symm))), rfl⟩ (by (repeat refine Ent.skip ?_); exact Ent.refl _)
  · skip
    refine o_step rfl (s_fnb rfl (wy rfl rfl rfl) Tryz.func29 rfl (by kernel_rfl) rfl sl_ (fun ρ' hL => snap_spec 5 1 [97, 98, 99] ρ' (by decide)) ?_)
    rintro _ _ ⟨xd, rfl, hxd, rfl⟩
    try simp only [List.cons_append, List.nil_append]
    have hcxd : xd.Conf.xs = [] := congrArg PSnap.conf hxd
    have hbxd : xd.Body.xs = [97, 98, 99] := congrArg PSnap.body hxd
    have hixd : xd.Mark.Index = 5 := congrArg PSnap.ix hxd
    refine d_c ?_
    refine d_1 17 ?_
    refine o_step rfl (s_q rfl (wy rfl rfl rfl) (q_loadpa (vs := encSnap1 ya) ag_26 rfl pk_ rfl) ?_)
    refine d_c ?_
    refine d_1 19 ?_
    refine o_step rfl (s_fnq rfl (wy rfl rfl rfl) Tryz.func15 rfl (by kernel_rfl) rfl (fun ρ' hL => same_spec ya xd ρ' (hL.row pk_) (hL.row pk_) (hL.row pk_) (hL.row pk_)) ?_)
    refine d_c ?_
    refine d_t 20 rfl wn (q_pick rfl rfl rfl) ?_
    refine d_t 21 rfl wn (q_move rfl) ?_
    refine Tr.env (.cons (t := 80) (v := .bool true) rfl (congrArg Value.bool (decide_eq_true (hya.trans (hyA.trans hxd.symm)))) (EnvLe.refl _)) ?_
    refine d_2 22 23 ?_ ?_
    · skip
      refine o_step rfl (s_q rfl (wy rfl rfl rfl) (q_loadpa (vs := encSnap1 yb) ag_26 rfl pk_ rfl) ?_)
      refine d_c ?_
      refine d_1 23 ?_
      refine o_step rfl (s_q rfl (wy rfl rfl rfl) (q_loadpa (vs := encSnap1 ya) ag_26 rfl pk_ rfl) ?_)
      refine d_c ?_
      refine d_1 24 ?_
      refine o_step rfl (s_fnq rfl (wy rfl rfl rfl) Tryz.func15 rfl (by kernel_rfl) rfl (fun ρ' hL => same_spec yb ya ρ' (hL.row pk_) (hL.row pk_) (hL.row pk_) (hL.row pk_)) ?_)
      refine d_c ?_
      refine d_t 25 rfl wn (q_pick rfl rfl rfl) ?_
      refine d_t 26 rfl wn (q_assign rfl) ?_
      refine d_d ?_
      refine k_then_n ?_
      refine c_ret ?_
      exact t_rt [] rfl (.tmp rfl .nil) rfl ⟨rfl, boole (decide_eq_true (hyb.trans (htsB.trans (hya.trans hyA).symm))), rfl⟩ (by (repeat refine Ent.skip ?_); exact Ent.refl _)
    · skip
      refine o_step rfl (s_q rfl (wy rfl rfl rfl) (q_loadpa (vs := encSnap1 ya) ag_26 rfl pk_ rfl) ?_)
      refine d_c ?_
      refine d_1 22 ?_
      refine o_step rfl (s_q rfl (wy rfl rfl rfl) (q_loadpa (vs := encSnap1 yb) ag_26 rfl pk_ rfl) ?_)
      refine d_c ?_
      refine d_1 24 ?_
      refine o_step rfl (s_fnq rfl (wy rfl rfl rfl) Tryz.func15 rfl (by kernel_rfl) rfl (fun ρ' hL => same_spec yb ya ρ' (hL.row pk_) (hL.row pk_) (hL.row pk_) (hL.row pk_)) ?_)
      refine d_c ?_
      refine d_t 25 rfl wn (q_pick rfl rfl rfl) ?_
      refine d_t 26 rfl wn (q_assign rfl) ?_
      refine d_d ?_
      refine k_then_n ?_
      refine c_ret ?_
      exact t_rt [] rfl (.tmp rfl .nil) rfl ⟨rfl, boole (decide_eq_true (hyb.trans (htsB.trans (hya.trans hyA).symm))), rfl⟩ (by (repeat refine Ent.skip ?_); exact Ent.refl _)
end Go.Shf

/-
  Walked.
-/
import Derived.Test.YtijldgggjioccaaGreatDoorShfW
import Derived.Test.YtijldgggjioccaaGreatDoorMouBB
import Derived.Test.YtijldgggjioccaaGreatDoorSmAA
import Derived.Test.YtijldgggjioccaaGreatDoorDskXX
import Derived.Test.YtijldgggjioccaaGreatDoorDskVV
import Derived.Test.YtijldgggjioccaaGreatDoorShfL
import Derived.Test.YtijldgggjioccaaGreatDoorProg
set_option maxRecDepth 100000
set_option maxHeartbeats 4000000
set_option linter.unusedSimpArgs false
set_option linter.unusedVariables false
namespace Go.Shf
open Go Go.SL Go.Proofs Go.Mou Go.Dsk Go.Hrd
attribute [local irreducible] Go.SL.Ent
theorem fo_24_0 : fieldOff Tryz.prog 24 0 = some (0, 3) := by kernel_rfl
theorem sc_3 : isScalar Tryz.prog 3 = true := by kernel_rfl
theorem fo_24_1 : fieldOff Tryz.prog 24 1 = some (1, 3) := by kernel_rfl
theorem fo_26_1 : fieldOff Tryz.prog 26 1 = some (2, 22) := by kernel_rfl
theorem fo_26_2 : fieldOff Tryz.prog 26 2 = some (3, 22) := by kernel_rfl
theorem sc_22 : isScalar Tryz.prog 22 = true := by kernel_rfl
theorem sz_22 : sizeIs Tryz.prog 22 = some 1 := by kernel_rfl
theorem ag_26 : aggSize Tryz.prog 26 = some 4 := by kernel_rfl
theorem sz_26 : sizeIs Tryz.prog 26 = some 4 := by kernel_rfl
theorem fo_26_0 : fieldOff Tryz.prog 26 0 = some (0, 24) := by kernel_rfl
theorem zc_131 : zeroCs Tryz.prog 131 = some [.int .u64 0, .slice none 0 0, .slice none 0 0] := by kernel_rfl
theorem pl_131 : placesOf Tryz.prog 131 = some [(0, 1), (1, 1), (2, 1)] := by kernel_rfl
theorem eo_131 : elemOk Tryz.prog 131 3 56 = true := by kernel_rfl
theorem eo_22 : elemOk Tryz.prog 22 1 24 = true := by kernel_rfl
theorem eo_5 : elemOk Tryz.prog 5 1 1 = true := by kernel_rfl

theorem right_spec (m : Mark1) (ρ : Hp) : Spec0 Tryz.prog 64 #[.agg (encMark1 m).toArray] ρ [] (fun v Γ' => v = .bool ((rightM m.Index m.Term)) ∧ Γ' = []) := by
  refine spec_of (n := 21) (vs := [_]) (σ := [(0, _)]) Tryz.func64 rfl rfl rfl rfl fun E Δ => ?_
  rw [List.nil_append]
  refine sr ?_
  refine e_s (s_box (cs := encMark1 m) rfl rfl) ?_
  rintro _ _ ⟨b1, rfl, rfl⟩
  refine e_as rfl ?_
  refine l_n ?_
  refine sr ?_
  refine e_q (q_fieldp rfl fo_24_0) ?_
  refine e_q (q_loadp (v := .int .i64 m.Index) sc_3 rfl pk_ rfl) ?_
  refine e_q (q_geq rfl rfl) ?_
  refine e_mv rfl ?_
  refine l_step (s_qg rfl (ask_t rfl rfl) (b := (decide (1 ≤ m.Index))) (fun hb => q_fieldp rfl fo_24_1) ?_)
  refine l_step (s_qg rfl (ask_t rfl rfl) (b := (decide (1 ≤ m.Index))) (fun hb => OpQ.env (.cons rfl (gd_t hb) (.nil _) : EnvLe [(7, .pointer (some ⟨b1, 1, none⟩))] _) (q_loadp (v := .int .i64 m.Term) sc_3 rfl pk_ rfl)) ?_)
  refine l_step (s_qg rfl (ask_t rfl rfl) (b := (decide (1 ≤ m.Index))) (fun hb => OpQ.env (.cons rfl (gd_t hb) (.nil _) : EnvLe [(8, .int .i64 m.Term)] _) (q_geq rfl rfl)) ?_)
  refine e_q (q_pick_and rfl rfl rfl (fun h => h)) ?_
  refine e_mv rfl ?_
  refine l_step (s_qg rfl (ask_t rfl rfl) (b := ((decide (1 ≤ m.Index)) && (decide (1 ≤ m.Term)))) (fun hb => q_fieldp rfl fo_24_0) ?_)
  refine l_step (s_qg rfl (ask_t rfl rfl) (b := ((decide (1 ≤ m.Index)) && (decide (1 ≤ m.Term)))) (fun hb => OpQ.env (.cons rfl (gd_t hb) (.nil _) : EnvLe [(12, .pointer (some ⟨b1, 0, none⟩))] _) (q_loadp (v := .int .i64 m.Index) sc_3 rfl pk_ rfl)) ?_)
  refine l_step (s_qg rfl (ask_t rfl rfl) (b := ((decide (1 ≤ m.Index)) && (decide (1 ≤ m.Term)))) (fun hb => OpQ.env (.cons rfl (gd_t hb) (.nil _) : EnvLe [(13, .int .i64 m.Index)] _) (q_lss rfl rfl)) ?_)
  refine e_q (q_pick_and rfl rfl rfl (fun h => h)) ?_
  refine e_mv rfl ?_
  refine l_step (s_qg rfl (ask_t rfl rfl) (b := (((decide (1 ≤ m.Index)) && (decide (1 ≤ m.Term))) && (decide (m.Index < 10000000000)))) (fun hb => q_fieldp rfl fo_24_1) ?_)
  refine l_step (s_qg rfl (ask_t rfl rfl) (b := (((decide (1 ≤ m.Index)) && (decide (1 ≤ m.Term))) && (decide (m.Index < 10000000000)))) (fun hb => OpQ.env (.cons rfl (gd_t hb) (.nil _) : EnvLe [(17, .pointer (some ⟨b1, 1, none⟩))] _) (q_loadp (v := .int .i64 m.Term) sc_3 rfl pk_ rfl)) ?_)
  refine l_step (s_qg rfl (ask_t rfl rfl) (b := (((decide (1 ≤ m.Index)) && (decide (1 ≤ m.Term))) && (decide (m.Index < 10000000000)))) (fun hb => OpQ.env (.cons rfl (gd_t hb) (.nil _) : EnvLe [(18, .int .i64 m.Term)] _) (q_lss rfl rfl)) ?_)
  refine e_q (q_pick_and rfl rfl rfl (fun h => h)) ?_
  refine e_as rfl ?_
  refine l_n ?_
  refine c_ret ?_
  exact t_rt [] rfl (.tmp rfl .nil) rfl ⟨rfl, boole (by unfold rightM; rfl), rfl⟩ (by (repeat refine Ent.skip ?_); exact Ent.refl _)

theorem own_spec (x : Snap1) (ρ : Hp) (hc : x.Conf.ro encB 1 ρ) (hb : x.Body.ro encB 1 ρ) (hcl : x.Conf.xs.length ≤ 400000000000) (hbl : x.Body.xs.length ≤ 400000000000) : Spec0 Tryz.prog 75 #[.agg (encSnap1 x).toArray] ρ [] (fun v Γ' => ∃ y : Snap1, v = .agg (encSnap1 y).toArray ∧ y.Mark = x.Mark ∧ y.Conf.xs = x.Conf.xs ∧ y.Body.xs = x.Body.xs ∧ Γ' = [.row 5 1 y.Conf.a y.Conf.xs.length y.Conf.cap (y.Conf.xs.flatMap encB), .row 5 1 y.Body.a y.Body.xs.length y.Body.cap (y.Body.xs.flatMap encB)]) := by
  refine spec_of (n := 12) (vs := [_]) (σ := [(0, _)]) Tryz.func75 rfl rfl rfl rfl fun E Δ => ?_
  rw [List.nil_append]
  refine sr ?_
  refine e_s (s_box (cs := encSnap1 x) rfl rfl) ?_
  rintro _ _ ⟨b1, rfl, rfl⟩
  refine e_s (s_allocz (cs := encSnap1 zSnap1) (by kernel_rfl)) ?_
  rintro _ _ ⟨b2, rfl, rfl⟩
  refine l_n ?_
  refine c_seq ?_
  refine d_r 10 [] ?_
  refine d_t 0 rfl wn (q_fieldp rfl fo_26_1) ?_
  refine d_t 3 rfl wn (q_fieldp rfl fo_26_2) ?_
  refine d_2 1 4 ?_ ?_
  · skip
    refine o_step rfl (s_q rfl wn (q_loadp (v := .slice x.Conf.a x.Conf.xs.length x.Conf.cap) sc_22 rfl pk_ rfl) ?_)
    refine d_c ?_
    refine d_2 2 4 ?_ ?_
    · skip
      refine o_step rfl (s_fnb rfl wn Tryz.func89 rfl (by kernel_rfl) rfl sl_ (fun ρ' hL => Go.Dsk.X.clone_spec x.Conf.a x.Conf.xs.length x.Conf.cap x.Conf.xs rfl ρ' (by omega) (Ro.mono hL.1 hc)) ?_)
      rintro _ _ ⟨a1, c1, rfl, rfl⟩
      try simp only [List.cons_append, List.nil_append]
      refine d_c ?_
      refine d_1 4 ?_
      refine o_step rfl (s_q rfl wn (q_loadp (v := .slice x.Body.a x.Body.xs.length x.Body.cap) sc_22 rfl pk_ rfl) ?_)
      refine d_c ?_
      refine d_t 6 rfl wn (q_fieldp rfl fo_26_1) ?_
      refine d_1 5 ?_
      refine o_step rfl (s_fnb rfl wn Tryz.func89 rfl (by kernel_rfl) rfl sl_ (fun ρ' hL => Go.Dsk.X.clone_spec x.Body.a x.Body.xs.length x.Body.cap x.Body.xs rfl ρ' (by omega) (Ro.mono hL.1 hb)) ?_)
      rintro _ _ ⟨a2, c2, rfl, rfl⟩
      try simp only [List.cons_append, List.nil_append]
      refine d_c ?_
      refine d_1 7 ?_
      refine o_step rfl (s_s0 wn (s_storep (ws := [.slice a1 x.Conf.xs.length c1]) (cs := encSnap1 (⟨x.Mark, x.Conf, x.Body⟩ : Snap1)) (cs' := encSnap1 (⟨x.Mark, (⟨a1, x.Conf.xs, c1⟩ : SL UInt8), x.Body⟩ : Snap1)) rfl rfl rfl sz_22 (by simp [Value.oneCell', strB, ptV, SL.v, SH.v]) (by simp [encSnap1]) rfl pk_) ?_)
      rintro _ _ ⟨rfl, rfl⟩
      refine d_c ?_
      refine d_t 8 rfl wn (q_fieldp rfl fo_26_2) ?_
      refine d_1 9 ?_
      refine o_step rfl (s_s0 wn (s_storep (ws := [.slice a2 x.Body.xs.length c2]) (cs := encSnap1 (⟨x.Mark, (⟨a1, x.Conf.xs, c1⟩ : SL UInt8), x.Body⟩ : Snap1)) (cs' := encSnap1 (⟨x.Mark, (⟨a1, x.Conf.xs, c1⟩ : SL UInt8), (⟨a2, x.Body.xs, c2⟩ : SL UInt8)⟩ : Snap1)) rfl rfl rfl sz_22 (by simp [Value.oneCell', strB, ptV, SL.v, SH.v]) (by simp [encSnap1]) rfl pk_) ?_)
      rintro _ _ ⟨rfl, rfl⟩
      refine d_c ?_
      refine d_d ?_
      refine k_then_n ?_
      refine sr ?_
      refine e_q (q_loadpa (vs := encSnap1 (⟨x.Mark, (⟨a1, x.Conf.xs, c1⟩ : SL UInt8), (⟨a2, x.Body.xs, c2⟩ : SL UInt8)⟩ : Snap1)) ag_26 rfl pk_ rfl) ?_
      refine l_step (s_s0 wn (s_storep (ws := encSnap1 (⟨x.Mark, (⟨a1, x.Conf.xs, c1⟩ : SL UInt8), (⟨a2, x.Body.xs, c2⟩ : SL UInt8)⟩ : Snap1)) (cs := encSnap1 zSnap1) (cs' := encSnap1 (⟨x.Mark, (⟨a1, x.Conf.xs, c1⟩ : SL UInt8), (⟨a2, x.Body.xs, c2⟩ : SL UInt8)⟩ : Snap1)) rfl rfl rfl sz_26 (oneSnap1 _) (by simp [encSnap1, encSnap1]) rfl pk_) ?_)
      rintro _ _ ⟨rfl, rfl⟩
      refine l_n ?_
      refine c_ret ?_
      exact t_rt [.row 5 1 a1 x.Conf.xs.length c1 (x.Conf.xs.flatMap encB), .row 5 1 a2 x.Body.xs.length c2 (x.Body.xs.flatMap encB)] rfl (.cell rfl pk_ (fun w h => ld_agg (by exact ag_26) h) .nil) rfl ⟨rfl, ⟨x.Mark, ⟨a1, x.Conf.xs, c1⟩, ⟨a2, x.Body.xs, c2⟩⟩, rfl, rfl, rfl, rfl, rfl⟩
    · skip
      refine o_step rfl (s_q rfl wn (q_loadp (v := .slice x.Body.a x.Body.xs.length x.Body.cap) sc_22 rfl pk_ rfl) ?_)
      refine d_c ?_
      refine d_1 2 ?_
      refine o_step rfl (s_fnb rfl wn Tryz.func89 rfl (by kernel_rfl) rfl sl_ (fun ρ' hL => Go.Dsk.X.clone_spec x.Conf.a x.Conf.xs.length x.Conf.cap x.Conf.xs rfl ρ' (by omega) (Ro.mono hL.1 hc)) ?_)
      rintro _ _ ⟨a1, c1, rfl, rfl⟩
      try simp only [List.cons_append, List.nil_append]
      refine d_c ?_
      refine d_t 6 rfl wn (q_fieldp rfl fo_26_1) ?_
      refine d_1 5 ?_
      refine o_step rfl (s_fnb rfl wn Tryz.func89 rfl (by kernel_rfl) rfl sl_ (fun ρ' hL => Go.Dsk.X.clone_spec x.Body.a x.Body.xs.length x.Body.cap x.Body.xs rfl ρ' (by omega) (Ro.mono hL.1 hb)) ?_)
      rintro _ _ ⟨a2, c2, rfl, rfl⟩
      try simp only [List.cons_append, List.nil_append]
      refine d_c ?_
      refine d_1 7 ?_
      refine o_step rfl (s_s0 wn (s_storep (ws := [.slice a1 x.Conf.xs.length c1]) (cs := encSnap1 (⟨x.Mark, x.Conf, x.Body⟩ : Snap1)) (cs' := encSnap1 (⟨x.Mark, (⟨a1, x.Conf.xs, c1⟩ : SL UInt8), x.Body⟩ : Snap1)) rfl rfl rfl sz_22 (by simp [Value.oneCell', strB, ptV, SL.v, SH.v]) (by simp [encSnap1]) rfl pk_) ?_)
      rintro _ _ ⟨rfl, rfl⟩
      refine d_c ?_
      refine d_t 8 rfl wn (q_fieldp rfl fo_26_2) ?_
      refine d_1 9 ?_
      refine o_step rfl (s_s0 wn (s_storep (ws := [.slice a2 x.Body.xs.length c2]) (cs := encSnap1 (⟨x.Mark, (⟨a1, x.Conf.xs, c1⟩ : SL UInt8), x.Body⟩ : Snap1)) (cs' := encSnap1 (⟨x.Mark, (⟨a1, x.Conf.xs, c1⟩ : SL UInt8), (⟨a2, x.Body.xs, c2⟩ : SL UInt8)⟩ : Snap1)) rfl rfl rfl sz_22 (by simp [Value.oneCell', strB, ptV, SL.v, SH.v]) (by simp [encSnap1]) rfl pk_) ?_)
      rintro _ _ ⟨rfl, rfl⟩
      refine d_c ?_
      refine d_d ?_
      refine k_then_n ?_
      refine sr ?_
      refine e_q (q_loadpa (vs := encSnap1 (⟨x.Mark, (⟨a1, x.Conf.xs, c1⟩ : SL UInt8), (⟨a2, x.Body.xs, c2⟩ : SL UInt8)⟩ : Snap1)) ag_26 rfl pk_ rfl) ?_
      refine l_step (s_s0 wn (s_storep (ws := encSnap1 (⟨x.Mark, (⟨a1, x.Conf.xs, c1⟩ : SL UInt8), (⟨a2, x.Body.xs, c2⟩ : SL UInt8)⟩ : Snap1)) (cs := encSnap1 zSnap1) (cs' := encSnap1 (⟨x.Mark, (⟨a1, x.Conf.xs, c1⟩ : SL UInt8), (⟨a2, x.Body.xs, c2⟩ : SL UInt8)⟩ : Snap1)) rfl rfl rfl sz_26 (oneSnap1 _) (by simp [encSnap1, encSnap1]) rfl pk_) ?_)
      rintro _ _ ⟨rfl, rfl⟩
      refine l_n ?_
      refine c_ret ?_
      exact t_rt [.row 5 1 a1 x.Conf.xs.length c1 (x.Conf.xs.flatMap encB), .row 5 1 a2 x.Body.xs.length c2 (x.Body.xs.flatMap encB)] rfl (.cell rfl pk_ (fun w h => ld_agg (by exact ag_26) h) .nil) rfl ⟨rfl, ⟨x.Mark, ⟨a1, x.Conf.xs, c1⟩, ⟨a2, x.Body.xs, c2⟩⟩, rfl, rfl, rfl, rfl, rfl⟩
  · skip
    refine o_step rfl (s_q rfl wn (q_loadp (v := .slice x.Body.a x.Body.xs.length x.Body.cap) sc_22 rfl pk_ rfl) ?_)
    refine d_c ?_
    refine d_1 1 ?_
    refine o_step rfl (s_q rfl wn (q_loadp (v := .slice x.Conf.a x.Conf.xs.length x.Conf.cap) sc_22 rfl pk_ rfl) ?_)
    refine d_c ?_
    refine d_1 2 ?_
    refine o_step rfl (s_fnb rfl wn Tryz.func89 rfl (by kernel_rfl) rfl sl_ (fun ρ' hL => Go.Dsk.X.clone_spec x.Conf.a x.Conf.xs.length x.Conf.cap x.Conf.xs rfl ρ' (by omega) (Ro.mono hL.1 hc)) ?_)
    rintro _ _ ⟨a1, c1, rfl, rfl⟩
    try simp only [List.cons_append, List.nil_append]
    refine d_c ?_
    refine d_t 6 rfl wn (q_fieldp rfl fo_26_1) ?_
    refine d_1 5 ?_
    refine o_step rfl (s_fnb rfl wn Tryz.func89 rfl (by kernel_rfl) rfl sl_ (fun ρ' hL => Go.Dsk.X.clone_spec x.Body.a x.Body.xs.length x.Body.cap x.Body.xs rfl ρ' (by omega) (Ro.mono hL.1 hb)) ?_)
    rintro _ _ ⟨a2, c2, rfl, rfl⟩
    try simp only [List.cons_append, List.nil_append]
    refine d_c ?_
    refine d_1 7 ?_
    refine o_step rfl (s_s0 wn (s_storep (ws := [.slice a1 x.Conf.xs.length c1]) (cs := encSnap1 (⟨x.Mark, x.Conf, x.Body⟩ : Snap1)) (cs' := encSnap1 (⟨x.Mark, (⟨a1, x.Conf.xs, c1⟩ : SL UInt8), x.Body⟩ : Snap1)) rfl rfl rfl sz_22 (by simp [Value.oneCell', strB, ptV, SL.v, SH.v]) (by simp [encSnap1]) rfl pk_) ?_)
    rintro _ _ ⟨rfl, rfl⟩
    refine d_c ?_
    refine d_t 8 rfl wn (q_fieldp rfl fo_26_2) ?_
    refine d_1 9 ?_
    refine o_step rfl (s_s0 wn (s_storep (ws := [.slice a2 x.Body.xs.length c2]) (cs := encSnap1 (⟨x.Mark, (⟨a1, x.Conf.xs, c1⟩ : SL UInt8), x.Body⟩ : Snap1)) (cs' := encSnap1 (⟨x.Mark, (⟨a1, x.Conf.xs, c1⟩ : SL UInt8), (⟨a2, x.Body.xs, c2⟩ : SL UInt8)⟩ : Snap1)) rfl rfl rfl sz_22 (by simp [Value.oneCell', strB, ptV, SL.v, SH.v]) (by simp [encSnap1]) rfl pk_) ?_)
    rintro _ _ ⟨rfl, rfl⟩
    refine d_c ?_
    refine d_d ?_
    refine k_then_n ?_
    refine sr ?_
    refine e_q (q_loadpa (vs := encSnap1 (⟨x.Mark, (⟨a1, x.Conf.xs, c1⟩ : SL UInt8), (⟨a2, x.Body.xs, c2⟩ : SL UInt8)⟩ : Snap1)) ag_26 rfl pk_ rfl) ?_
    refine l_step (s_s0 wn (s_storep (ws := encSnap1 (⟨x.Mark, (⟨a1, x.Conf.xs, c1⟩ : SL UInt8), (⟨a2, x.Body.xs, c2⟩ : SL UInt8)⟩ : Snap1)) (cs := encSnap1 zSnap1) (cs' := encSnap1 (⟨x.Mark, (⟨a1, x.Conf.xs, c1⟩ : SL UInt8), (⟨a2, x.Body.xs, c2⟩ : SL UInt8)⟩ : Snap1)) rfl rfl rfl sz_26 (oneSnap1 _) (by simp [encSnap1, encSnap1]) rfl pk_) ?_)
    rintro _ _ ⟨rfl, rfl⟩
    refine l_n ?_
    refine c_ret ?_
    exact t_rt [.row 5 1 a1 x.Conf.xs.length c1 (x.Conf.xs.flatMap encB), .row 5 1 a2 x.Body.xs.length c2 (x.Body.xs.flatMap encB)] rfl (.cell rfl pk_ (fun w h => ld_agg (by exact ag_26) h) .nil) rfl ⟨rfl, ⟨x.Mark, ⟨a1, x.Conf.xs, c1⟩, ⟨a2, x.Body.xs, c2⟩⟩, rfl, rfl, rfl, rfl, rfl⟩

theorem put4 (x : Snap1) (a vs : Option Addr) (ρ : Hp) (hc : x.Conf.ro encB 1 ρ) (hb : x.Body.ro encB 1 ρ) (hcl : x.Conf.xs.length ≤ 400000000000) (hbl : x.Body.xs.length ≤ 400000000000) (h1 : x.Mark.Index < 10000000000) (h2 : x.Mark.Term < 10000000000) (hr : Ro ρ 3 a 4 4 (((vtX x a).L.map VT.val).flatMap encVal1)) (hv : Ro ρ 3 vs 1 1 ([(vtX x a).val].flatMap encVal1)) :
    Spec0 Tryz.prog 67 #[strB [91, 110, 110, 98, 98, 93], .slice vs 1 1] ρ [] (fun w Γ' => ∃ a c, w = .tuple #[.slice a (bodyX (pS x)).length c, .int .i64 0] ∧ Γ' = [.row 5 1 a (bodyX (pS x)).length c ((bodyX (pS x)).flatMap encB)]) :=
  Go.Mou.Put_spec sh4 vs 1 (vtX x a) ρ (by decide) (by decide) hv (fits4 a h1 h2) (vtX_ro hr hc hb) (by have h9 := bodyX_len (x := pS x) h1 h2 hcl hbl; have h8 : form sh4 (vtX x a).pv = bodyX (pS x) := rfl; have h7 : (pS x).conf = x.Conf.xs := rfl; have h6 : (pS x).body = x.Body.xs := rfl; rw [h8]; rw [h7, h6] at h9; omega)

theorem of1 (p a : Option Addr) (pc c : Nat) (X : List UInt8) (ρ : Hp) (h1 : Ro ρ 1 p 1 pc ([(⟨a, X, c⟩ : SL UInt8)].flatMap encSL)) (h2 : Ro ρ 1 a X.length c (X.flatMap encB)) : Spec0 Tryz.prog 68 #[.slice p 1 pc] ρ [] (fun v Γ' => v = .int .u32 ((Go.Sm.sumB X).toNat : Int) ∧ Γ' = []) := by
  have h9 := Go.Sm.of_spec p 1 pc [⟨a, X, c⟩] rfl ρ h1 (by intro s hs; rw [List.mem_singleton.1 hs]; exact h2)
  rw [Go.Sm.catB_one] at h9; exact h9

theorem bytes_spec (x : Snap1) (ρ : Hp) (hc : x.Conf.ro encB 1 ρ) (hb : x.Body.ro encB 1 ρ) (hcl : x.Conf.xs.length ≤ 400000000000) (hbl : x.Body.xs.length ≤ 400000000000) (hx : rightM x.Mark.Index x.Mark.Term = true) : Spec0 Tryz.prog 16 #[.agg (encSnap1 x).toArray] ρ [] (fun v Γ' => ∃ a c, v = .slice a (snB (pS x)).length c ∧ Γ' = [.row 5 1 a (snB (pS x)).length c ((snB (pS x)).flatMap encB)]) := by
  refine spec_of (n := 46) (vs := [_]) (σ := [(0, _)]) Tryz.func16 rfl rfl rfl rfl fun E Δ => ?_
  rw [List.nil_append]
  obtain ⟨hx1, hx2, hx3, hx4⟩ := right_yes hx
  have hbx := bodyX_len (x := pS x) hx3 hx4 hcl hbl
  have hs4 := snB_len4 (pS x)
  have e7 : (pS x).conf = x.Conf.xs := rfl
  have e8 : (pS x).body = x.Body.xs := rfl
  rw [e7, e8] at hbx
  refine sr ?_
  refine e_s (s_box (cs := encSnap1 x) rfl rfl) ?_
  rintro _ _ ⟨b1, rfl, rfl⟩
  refine e_as rfl ?_
  refine l_n ?_
  refine sr ?_
  refine e_q (q_fieldp rfl fo_26_0) ?_
  refine e_q (q_fieldp rfl fo_24_0) ?_
  refine e_q (q_loadp (v := .int .i64 x.Mark.Index) sc_3 rfl pk_ rfl) ?_
  refine e_q (q_as (v := .int .u64 ((x.Mark.Index.toNat : Nat) : Int)) (q_conv rfl Tryz.underlying3 Tryz.underlying128 (wrap_u64 (by omega) (by omega))) (inte (by omega))) ?_
  refine e_q (q_build (cs := encVal1 (⟨x.Mark.Index.toNat, ⟨none, [], 0⟩, ⟨none, 0, 0⟩⟩ : Val1)) zc_131 pl_131 rfl rfl) ?_
  refine e_q (q_fieldp rfl fo_26_0) ?_
  refine e_q (q_fieldp rfl fo_24_1) ?_
  refine e_q (q_loadp (v := .int .i64 x.Mark.Term) sc_3 rfl pk_ rfl) ?_
  refine e_q (q_as (v := .int .u64 ((x.Mark.Term.toNat : Nat) : Int)) (q_conv rfl Tryz.underlying3 Tryz.underlying128 (wrap_u64 (by omega) (by omega))) (inte (by omega))) ?_
  refine e_q (q_build (cs := encVal1 (⟨x.Mark.Term.toNat, ⟨none, [], 0⟩, ⟨none, 0, 0⟩⟩ : Val1)) zc_131 pl_131 rfl rfl) ?_
  refine e_q (q_fieldp rfl fo_26_1) ?_
  refine e_q (q_loadp (v := .slice x.Conf.a x.Conf.xs.length x.Conf.cap) sc_22 rfl pk_ rfl) ?_
  refine e_q (q_build (cs := encVal1 (⟨0, x.Conf, ⟨none, 0, 0⟩⟩ : Val1)) zc_131 pl_131 rfl rfl) ?_
  refine e_q (q_fieldp rfl fo_26_2) ?_
  refine e_q (q_loadp (v := .slice x.Body.a x.Body.xs.length x.Body.cap) sc_22 rfl pk_ rfl) ?_
  refine e_q (q_build (cs := encVal1 (⟨0, x.Body, ⟨none, 0, 0⟩⟩ : Val1)) zc_131 pl_131 rfl rfl) ?_
  refine e_s (s_buildSlice (cs := ([(⟨x.Mark.Index.toNat, ⟨none, [], 0⟩, ⟨none, 0, 0⟩⟩ : Val1), (⟨x.Mark.Term.toNat, ⟨none, [], 0⟩, ⟨none, 0, 0⟩⟩ : Val1), (⟨0, x.Conf, ⟨none, 0, 0⟩⟩ : Val1), (⟨0, x.Body, ⟨none, 0, 0⟩⟩ : Val1)] : List Val1).flatMap encVal1) Tryz.underlying129 eo_131 rfl rfl rfl rfl (by decide) (by decide)) ?_
  rintro _ _ ⟨b23, rfl, rfl⟩
  refine e_q (q_build (cs := encVal1 (⟨0, ⟨none, [], 0⟩, ⟨(some ⟨b23, 0, none⟩), 4, 4⟩⟩ : Val1)) zc_131 pl_131 rfl rfl) ?_
  refine e_s (s_buildSlice (cs := ([(⟨0, ⟨none, [], 0⟩, ⟨(some ⟨b23, 0, none⟩), 4, 4⟩⟩ : Val1)] : List Val1).flatMap encVal1) Tryz.underlying129 eo_131 rfl rfl rfl rfl (by decide) (by decide)) ?_
  rintro _ _ ⟨b25, rfl, rfl⟩
  refine e_fn Tryz.func67 rfl sl_ (fun ρ' hL => put4 x (some ⟨b23, 0, none⟩) (some ⟨b25, 0, none⟩) ρ' (Ro.mono hL.1 hc) (Ro.mono hL.1 hb) hcl hbl (by omega) (by omega) (hL.row pk_) (hL.row pk_)) ?_
  rintro _ _ ⟨aP, cP, rfl, rfl⟩
  try simp only [List.cons_append, List.nil_append]
  refine e_mv rfl ?_
  refine e_q (q_extract rfl rfl) ?_
  refine e_q (q_extract rfl rfl) ?_
  refine e_as rfl ?_
  refine e_as rfl ?_
  refine l_n ?_
  refine sr ?_
  refine e_mv rfl ?_
  refine e_s (s_buildSlice (cs := ([(⟨aP, (bodyX (pS x)), cP⟩ : SL UInt8)] : List (SL UInt8)).flatMap encSL) Tryz.underlying37 eo_22 rfl rfl rfl rfl (by decide) (by decide)) ?_
  rintro _ _ ⟨b30, rfl, rfl⟩
  refine l_step (s_fnq rfl wn Tryz.func68 rfl (by kernel_rfl) rfl (fun ρ' hL => of1 (some ⟨b30, 0, none⟩) aP 1 cP (bodyX (pS x)) ρ' (hL.row pk_) (hL.row pk_)) ?_)
  refine e_as rfl ?_
  refine l_n ?_
  refine sr ?_
  refine e_mv rfl ?_
  refine e_q (q32_shr (p := (Go.Sm.sumB (bodyX (pS x)))) (m := 24) rfl rfl rfl rfl (by omega)) ?_
  refine e_q (q_as (v := .int .u8 ((UInt8.ofNat ((Go.Sm.sumB (bodyX (pS x))) >>> 24).toNat).toNat : Int)) (q_convw rfl Tryz.underlying126 Tryz.underlying5) (inte (w2b _))) ?_
  refine e_mv rfl ?_
  refine e_q (q32_shr (p := (Go.Sm.sumB (bodyX (pS x)))) (m := 16) rfl rfl rfl rfl (by omega)) ?_
  refine e_q (q_as (v := .int .u8 ((UInt8.ofNat ((Go.Sm.sumB (bodyX (pS x))) >>> 16).toNat).toNat : Int)) (q_convw rfl Tryz.underlying126 Tryz.underlying5) (inte (w2b _))) ?_
  refine e_mv rfl ?_
  refine e_q (q32_shr (p := (Go.Sm.sumB (bodyX (pS x)))) (m := 8) rfl rfl rfl rfl (by omega)) ?_
  refine e_q (q_as (v := .int .u8 ((UInt8.ofNat ((Go.Sm.sumB (bodyX (pS x))) >>> 8).toNat).toNat : Int)) (q_convw rfl Tryz.underlying126 Tryz.underlying5) (inte (w2b _))) ?_
  refine e_mv rfl ?_
  refine e_q (q_as (v := .int .u8 ((UInt8.ofNat (Go.Sm.sumB (bodyX (pS x))).toNat).toNat : Int)) (q_convw rfl Tryz.underlying126 Tryz.underlying5) (inte (w2b _))) ?_
  refine e_s (s_buildSlice (cs := ([(UInt8.ofNat ((Go.Sm.sumB (bodyX (pS x))) >>> 24).toNat), (UInt8.ofNat ((Go.Sm.sumB (bodyX (pS x))) >>> 16).toNat), (UInt8.ofNat ((Go.Sm.sumB (bodyX (pS x))) >>> 8).toNat), (UInt8.ofNat (Go.Sm.sumB (bodyX (pS x))).toNat)] : List UInt8).flatMap encB) Tryz.underlying22 eo_5 rfl rfl rfl rfl (by decide) (by decide)) ?_
  rintro _ _ ⟨b43, rfl, rfl⟩
  refine e_mv rfl ?_
  refine e_s (s_appendn (enc := encB) (xs := ([(UInt8.ofNat ((Go.Sm.sumB (bodyX (pS x))) >>> 24).toNat), (UInt8.ofNat ((Go.Sm.sumB (bodyX (pS x))) >>> 16).toNat), (UInt8.ofNat ((Go.Sm.sumB (bodyX (pS x))) >>> 8).toNat), (UInt8.ofNat (Go.Sm.sumB (bodyX (pS x))).toNat)] : List UInt8)) (ys := ((bodyX (pS x)) : List UInt8)) (Γ' := fun a' cap' => _) Tryz.underlying22 eo_5 (by decide) rfl rfl (rd_row pk_) (oneB _) (by first | omega | (simp only [List.length_append, List.length_cons, List.length_nil] at *; omega)) (by first | omega | (simp only [List.length_append, List.length_cons, List.length_nil] at *; omega)) (fun _ _ => pk_)) ?_
  rintro _ _ ⟨a45, c45, rfl, rfl⟩
  refine e_as rfl ?_
  refine l_n ?_
  refine c_ret ?_
  rw [show 4 + (bodyX (pS x)).length = (snB (pS x)).length from hs4.symm]
  exact t_rt [.row 5 1 a45 (snB (pS x)).length c45 ((snB (pS x)).flatMap encB)] rfl (.tmp rfl .nil) rfl ⟨rfl, _, _, rfl, rfl⟩

theorem itoa9 (index : Int) (ρ : Hp) (h1 : 0 ≤ index) (h2 : index < 100) : Spec0 Tryz.prog 153 #[.int .i64 index] ρ [] (fun v Γ' => v = strB (Lib.decDigits index.toNat) ∧ Γ' = []) := by
  have h9 := Go.Shf.L.itoa index.toNat (by omega) ρ
  rw [show ((index.toNat : Nat) : Int) = index from by omega] at h9; exact h9

theorem rep9 (X : List UInt8) (ρ : Hp) (h : X.length ≤ 10) : Spec0 Tryz.prog 154 #[strB [48], .int .i64 (10 - (X.length : Int))] ρ [] (fun v Γ' => v = strB (Lib.repeatL [48] (10 - X.length)) ∧ Γ' = []) := by
  have h9 := Go.Shf.L.repeat_ [48] (10 - X.length) (by omega) (by decide) ρ
  rw [show ((10 - X.length : Nat) : Int) = 10 - (X.length : Int) from by omega] at h9; exact h9

theorem name_spec (index : Int) (ρ : Hp) (h1 : 0 ≤ index) (h2 : index < 100) : Spec0 Tryz.prog 74 #[.int .i64 index] ρ [] (fun v Γ' => v = (strB ((nameX index.toNat))) ∧ Γ' = []) := by
  refine spec_of (n := 13) (vs := [_]) (σ := [(0, _)]) Tryz.func74 rfl rfl rfl rfl fun E Δ => ?_
  rw [List.nil_append]
  have hdl := dec_len2 (i := index.toNat) (by omega)
  have hrl : (Lib.repeatL [48] (10 - (Lib.decDigits index.toNat).length)).length = 10 - (Lib.decDigits index.toNat).length := by rw [Lib.repeatL_length]; simp
  refine sr ?_
  refine e_as rfl ?_
  refine l_n ?_
  refine sr ?_
  refine e_mv rfl ?_
  refine l_step (s_fnq rfl wn Tryz.func153 rfl (by kernel_rfl) rfl (fun ρ' hL => itoa9 index ρ' h1 h2) ?_)
  refine e_as rfl ?_
  refine l_n ?_
  refine sr ?_
  refine e_mv rfl ?_
  refine e_q (q_lensB Tryz.underlying9 rfl) ?_
  refine e_q (q_sub rfl rfl (by omega) (by omega)) ?_
  refine l_step (s_fnq rfl wn Tryz.func154 rfl (by kernel_rfl) rfl (fun ρ' hL => rep9 (Lib.decDigits index.toNat) ρ' (by omega)) ?_)
  refine e_q (q_addsB (p := [115, 110, 97, 112, 45]) (q := (Lib.repeatL [48] (10 - (Lib.decDigits index.toNat).length))) rfl rfl (by rw [hrl]; show 5 + _ ≤ _; omega)) ?_
  refine e_mv rfl ?_
  refine e_q (q_addsB (p := ([115, 110, 97, 112, 45] ++ (Lib.repeatL [48] (10 - (Lib.decDigits index.toNat).length)))) (q := (Lib.decDigits index.toNat)) rfl rfl (by rw [List.length_append, hrl]; show 5 + _ + _ ≤ _; omega)) ?_
  refine e_as rfl ?_
  refine l_n ?_
  refine c_ret ?_
  exact t_rt [] rfl (.tmp rfl .nil) rfl ⟨rfl, by unfold nameX pre5; rw [← List.append_assoc]; rfl, rfl⟩ (by (repeat refine Ent.skip ?_); exact Ent.refl _)
end Go.Shf

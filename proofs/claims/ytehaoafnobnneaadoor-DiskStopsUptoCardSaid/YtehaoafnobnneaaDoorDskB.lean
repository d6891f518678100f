/-
  Package disk, walked.
-/
import Derived.Test.YtehaoafnobnneaaDoorDskY
import Derived.Test.YtehaoafnobnneaaDoorDskZ
import Derived.Test.YtehaoafnobnneaaDoorDskV
import Derived.Test.YtehaoafnobnneaaDoorDskL
import Derived.Test.YtehaoafnobnneaaDoorProg
set_option maxRecDepth 100000
set_option maxHeartbeats 4000000
set_option linter.unusedSimpArgs false
set_option linter.unusedVariables false
namespace Go.Dsk.B
open Go Go.SL Go.Proofs Go.Dsk Go.Dsk.L Go.Dsk.X
attribute [local irreducible] Go.SL.Ent
theorem eo_3 : elemOk Tryd.prog 3 1 8 = true := by kernel_rfl
theorem eo_32 : elemOk Tryd.prog 32 1 24 = true := by kernel_rfl
theorem eo_5 : elemOk Tryd.prog 5 1 1 = true := by kernel_rfl
theorem eo_9 : elemOk Tryd.prog 9 1 16 = true := by kernel_rfl

theorem awake_spec  (ρ : Hp) : Spec0 Tryd.prog 9 #[] ρ [] (fun v Γ' => v = .bool (true) ∧ Γ' = []) := by
  refine spec_of (n := 74) (vs := []) (σ := []) Tryd.func9 rfl rfl rfl rfl fun E Δ => ?_
  rw [List.nil_append]
  refine c_seq ?_
  refine c_region ?_
  refine l_step (s_q rfl wn (q_assign rfl) ?_)
  refine l_nil ?_
  refine k_then_n ?_
  refine c_seq ?_
  refine c_region ?_
  refine l_step (s_fnb rfl wn Tryd.func12 rfl (by kernel_rfl) rfl (by repeat (first | exact Sel.nil | exact Pick.here | apply Sel.cons | apply Pick.there)) (fun ρ' hL => X.new_spec 10 ρ') ?_)
  rintro _ _ hnewbD
  obtain ⟨bD, mbbD, rfl, rfl⟩ := or_yes hnewbD (by omega)
  try simp only [List.cons_append, List.nil_append]
  refine l_step (s_q rfl wn (q_move rfl) ?_)
  refine l_step (s_q rfl wn (q_extract rfl rfl) ?_)
  refine l_step (s_q rfl wn (q_extract rfl rfl) ?_)
  refine l_step (s_q rfl wn (q_assign rfl) ?_)
  refine l_step (s_q rfl wn (q_assign rfl) ?_)
  refine l_nil ?_
  refine k_then_n ?_
  refine c_seq ?_
  refine c_seq ?_
  refine c_region ?_
  refine l_step (s_q rfl wn (q_move rfl) ?_)
  refine l_step (s_q rfl wn (by first | exact q_eqlp rfl rfl Tryd.underlying27 | exact q_eqlp0 rfl rfl Tryd.underlying27) ?_)
  refine l_step (s_q rfl wn (q_move rfl) ?_)
  refine l_step (s_q rfl (wy rfl rfl rfl) (q_move rfl) ?_)
  refine l_step (s_q rfl (wy rfl rfl rfl) (q_neq rfl rfl) ?_)
  refine l_step (s_q rfl wn (q_pick rfl rfl rfl) ?_)
  refine l_nil ?_
  refine k_then_n ?_
  refine c_sure false rfl (by rfl) ?_
  simp only [Bool.false_eq_true, if_true, if_false]
  refine c_skip ?_
  refine k_then_n ?_
  refine c_seq ?_
  refine c_region ?_
  have hTn : FOk [] := fok.2 vok_nil
  refine l_step (s_q rfl wn (q_move rfl) ?_)
  refine l_step (s_s rfl wn (s_buildSlice (cs := ([120, 121, 122] : List UInt8).flatMap encB) Tryd.underlying32 eo_5 rfl rfl rfl rfl (by decide) (by decide)) ?_)
  rintro _ _ ⟨b21, rfl, rfl⟩
  refine l_step (s_s rfl wn (s_mark Tryd.underlying32 Tryd.underlying5 rfl (by repeat (first | exact Pick.here | apply Pick.there))) ?_)
  rintro _ _ ⟨rfl, rfl⟩
  refine l_step (s_s rfl wn (s_buildSlice (cs := ([⟨(some ⟨b21, 0, none⟩), 3, 3⟩] : List SH).flatMap encSH) Tryd.underlying26 eo_32 rfl rfl rfl rfl (by decide) (by decide)) ?_)
  rintro _ _ ⟨b23, rfl, rfl⟩
  refine l_step (s_fnb rfl wn Tryd.func13 rfl (by kernel_rfl) rfl (by repeat (first | exact Sel.nil | exact Pick.here | apply Sel.cons | apply Pick.there)) (fun ρ' hL => Y.append_spec bD 10 mbbD (-1) [] [97] (some ⟨b23, 0, none⟩) 1 1 [⟨(some ⟨b21, 0, none⟩), [120, 121, 122], 3⟩] rfl ρ' (by assumption) (by decide) (by decide) (by decide) (by decide) (by decide) (by simp [usedT]) (hL.row (by repeat (first | exact Pick.here | apply Pick.there))) (by intro s hs; simp only [List.mem_cons, List.not_mem_nil, or_false] at hs; rcases hs with rfl <;> exact hL.row (by repeat (first | exact Pick.here | apply Pick.there)))) ?_)
  rintro _ _ ⟨T1, rfl, hvT1, rfl⟩
  try simp only [List.cons_append, List.nil_append]
  have hwT1 : vw T1 = [([97], ([120, 121, 122], 0))] := hvT1.trans (by rfl)
  rw [show (appR 10 (-1) (vw []) [97] (([⟨(some ⟨b21, 0, none⟩), [120, 121, 122], 3⟩] : List (SL UInt8)).flatMap fun x : SL UInt8 => x.xs)).1 = 0 from by rfl]
  have hTT1 : FOk T1 := fok_of hwT1 (vok_one (by decide) (by decide) (by decide) (by decide))
  have huT1 : usedT T1 = usedV [([97], ([120, 121, 122], 0))] := used_of hwT1
  rw [show decC (-1) = -1 from rfl]
  refine l_step (s_q rfl wn (q_assign rfl) ?_)
  refine l_nil ?_
  refine k_then_n ?_
  refine c_seq ?_
  refine c_region ?_
  refine l_step (s_q rfl wn (q_move rfl) ?_)
  refine l_step (s_s rfl wn (s_buildSlice (cs := ([[97]] : List (List UInt8)).flatMap Go.SL.encStr) Tryd.underlying41 eo_9 rfl rfl rfl rfl (by decide) (by decide)) ?_)
  rintro _ _ ⟨b26, rfl, rfl⟩
  refine l_step (s_fnb rfl wn Tryd.func14 rfl (by kernel_rfl) rfl (by repeat (first | exact Sel.nil | exact Pick.here | apply Sel.cons | apply Pick.there)) (fun ρ' hL => Z.sync_spec bD 10 mbbD (-1) T1 (some ⟨b26, 0, none⟩) 1 1 [[97]] rfl ρ' (by assumption) (by decide) (hL.row (by repeat (first | exact Pick.here | apply Pick.there)))) ?_)
  rintro _ _ ⟨T2, rfl, hvT2, rfl⟩
  try simp only [List.cons_append, List.nil_append]
  have hwT2 : vw T2 = [([97], ([120, 121, 122], 3))] := hvT2.trans (by rw [hwT1]; rfl)
  rw [show (syncR (-1) (vw T1) [[97]]).1 = 0 from by rw [hwT1]; rfl]
  have hTT2 : FOk T2 := fok_of hwT2 (vok_one (by decide) (by decide) (by decide) (by decide))
  have huT2 : usedT T2 = usedV [([97], ([120, 121, 122], 3))] := used_of hwT2
  rw [show decC (-1) = -1 from rfl]
  refine l_step (s_q rfl wn (q_assign rfl) ?_)
  refine l_nil ?_
  refine k_then_n ?_
  refine c_seq ?_
  refine c_region ?_
  refine l_step (s_q rfl wn (q_move rfl) ?_)
  refine l_step (s_s rfl wn (s_buildSlice (cs := ([117] : List UInt8).flatMap encB) Tryd.underlying32 eo_5 rfl rfl rfl rfl (by decide) (by decide)) ?_)
  rintro _ _ ⟨b29, rfl, rfl⟩
  refine l_step (s_s rfl wn (s_mark Tryd.underlying32 Tryd.underlying5 rfl (by repeat (first | exact Pick.here | apply Pick.there))) ?_)
  rintro _ _ ⟨rfl, rfl⟩
  refine l_step (s_s rfl wn (s_buildSlice (cs := ([118, 119] : List UInt8).flatMap encB) Tryd.underlying32 eo_5 rfl rfl rfl rfl (by decide) (by decide)) ?_)
  rintro _ _ ⟨b31, rfl, rfl⟩
  refine l_step (s_s rfl wn (s_mark Tryd.underlying32 Tryd.underlying5 rfl (by repeat (first | exact Pick.here | apply Pick.there))) ?_)
  rintro _ _ ⟨rfl, rfl⟩
  refine l_step (s_s rfl wn (s_buildSlice (cs := ([⟨(some ⟨b29, 0, none⟩), 1, 1⟩, ⟨(some ⟨b31, 0, none⟩), 2, 2⟩] : List SH).flatMap encSH) Tryd.underlying26 eo_32 rfl rfl rfl rfl (by decide) (by decide)) ?_)
  rintro _ _ ⟨b33, rfl, rfl⟩
  refine l_step (s_fnb rfl wn Tryd.func13 rfl (by kernel_rfl) rfl (by repeat (first | exact Sel.nil | exact Pick.here | apply Sel.cons | apply Pick.there)) (fun ρ' hL => Y.append_spec bD 10 mbbD (-1) T2 [97] (some ⟨b33, 0, none⟩) 2 2 [⟨(some ⟨b29, 0, none⟩), [117], 1⟩, ⟨(some ⟨b31, 0, none⟩), [118, 119], 2⟩] rfl ρ' (by assumption) (by rw [huT2]; decide) (by decide) (by decide) (by decide) (by decide) (by rw [huT2]; simp [usedV]) (hL.row (by repeat (first | exact Pick.here | apply Pick.there))) (by intro s hs; simp only [List.mem_cons, List.not_mem_nil, or_false] at hs; rcases hs with rfl | rfl <;> exact hL.row (by repeat (first | exact Pick.here | apply Pick.there)))) ?_)
  rintro _ _ ⟨T3, rfl, hvT3, rfl⟩
  try simp only [List.cons_append, List.nil_append]
  have hwT3 : vw T3 = [([97], ([120, 121, 122, 117, 118, 119], 3))] := hvT3.trans (by rw [hwT2]; rfl)
  rw [show (appR 10 (-1) (vw T2) [97] (([⟨(some ⟨b29, 0, none⟩), [117], 1⟩, ⟨(some ⟨b31, 0, none⟩), [118, 119], 2⟩] : List (SL UInt8)).flatMap fun x : SL UInt8 => x.xs)).1 = 0 from by rw [hwT2]; rfl]
  have hTT3 : FOk T3 := fok_of hwT3 (vok_one (by decide) (by decide) (by decide) (by decide))
  have huT3 : usedT T3 = usedV [([97], ([120, 121, 122, 117, 118, 119], 3))] := used_of hwT3
  rw [show decC (-1) = -1 from rfl]
  refine l_step (s_q rfl wn (q_assign rfl) ?_)
  refine l_nil ?_
  refine k_then_n ?_
  refine c_seq ?_
  refine c_region ?_
  refine l_step (s_q rfl wn (q_move rfl) ?_)
  refine l_step (s_s rfl wn (s_buildSlice (cs := ([49, 50, 51, 52, 53] : List UInt8).flatMap encB) Tryd.underlying32 eo_5 rfl rfl rfl rfl (by decide) (by decide)) ?_)
  rintro _ _ ⟨b36, rfl, rfl⟩
  refine l_step (s_s rfl wn (s_mark Tryd.underlying32 Tryd.underlying5 rfl (by repeat (first | exact Pick.here | apply Pick.there))) ?_)
  rintro _ _ ⟨rfl, rfl⟩
  refine l_step (s_s rfl wn (s_buildSlice (cs := ([⟨(some ⟨b36, 0, none⟩), 5, 5⟩] : List SH).flatMap encSH) Tryd.underlying26 eo_32 rfl rfl rfl rfl (by decide) (by decide)) ?_)
  rintro _ _ ⟨b38, rfl, rfl⟩
  refine l_step (s_fnb rfl wn Tryd.func13 rfl (by kernel_rfl) rfl (by repeat (first | exact Sel.nil | exact Pick.here | apply Sel.cons | apply Pick.there)) (fun ρ' hL => Y.append_spec bD 10 mbbD (-1) T3 [98] (some ⟨b38, 0, none⟩) 1 1 [⟨(some ⟨b36, 0, none⟩), [49, 50, 51, 52, 53], 5⟩] rfl ρ' (by assumption) (by rw [huT3]; decide) (by decide) (by decide) (by decide) (by decide) (by rw [huT3]; simp [usedV]) (hL.row (by repeat (first | exact Pick.here | apply Pick.there))) (by intro s hs; simp only [List.mem_cons, List.not_mem_nil, or_false] at hs; rcases hs with rfl <;> exact hL.row (by repeat (first | exact Pick.here | apply Pick.there)))) ?_)
  rintro _ _ ⟨T4, rfl, hvT4, rfl⟩
  try simp only [List.cons_append, List.nil_append]
  have hwT4 : vw T4 = [([97], ([120, 121, 122, 117, 118, 119], 3))] := hvT4.trans (by rw [hwT3]; rfl)
  rw [show (appR 10 (-1) (vw T3) [98] (([⟨(some ⟨b36, 0, none⟩), [49, 50, 51, 52, 53], 5⟩] : List (SL UInt8)).flatMap fun x : SL UInt8 => x.xs)).1 = 31 from by rw [hwT3]; rfl]
  have hTT4 : FOk T4 := fok_of hwT4 (vok_one (by decide) (by decide) (by decide) (by decide))
  have huT4 : usedT T4 = usedV [([97], ([120, 121, 122, 117, 118, 119], 3))] := used_of hwT4
  rw [show decC (-1) = -1 from rfl]
  refine l_step (s_q rfl wn (q_assign rfl) ?_)
  refine l_nil ?_
  refine k_then_n ?_
  refine c_seq ?_
  refine c_region ?_
  refine l_step (s_q rfl wn (q_move rfl) ?_)
  refine l_step (s_s rfl wn (s_buildSlice (cs := ([1] : List Int).flatMap encI) Tryd.underlying51 eo_3 rfl rfl rfl rfl (by decide) (by decide)) ?_)
  rintro _ _ ⟨b41, rfl, rfl⟩
  refine l_step (s_fnb rfl wn Tryd.func19 rfl (by kernel_rfl) rfl (by repeat (first | exact Sel.nil | exact Pick.here | apply Sel.cons | apply Pick.there)) (fun ρ' hL => V.crash_spec bD 10 mbbD (-1) T4 (some ⟨b41, 0, none⟩) 1 1 [1] rfl ρ' (by assumption) (hL.row (by repeat (first | exact Pick.here | apply Pick.there)))) ?_)
  rintro _ _ ⟨T5, rfl, hvT5, rfl⟩
  try simp only [List.cons_append, List.nil_append]
  have hwT5 : vw T5 = [([97], ([120, 121, 122, 117], 4))] := hvT5.trans (by rw [hwT4]; unfold crR; rw [show mkeys ([([97], ([120, 121, 122, 117, 118, 119], 3))] : FV) = [[97]] from rfl, sortS_one]; rfl)
  rw [show (crR [1] (vw T4)).2 = 2 from by rw [hwT4]; unfold crR; rw [show mkeys ([([97], ([120, 121, 122, 117, 118, 119], 3))] : FV) = [[97]] from rfl, sortS_one]; rfl]
  have hTT5 : FOk T5 := fok_of hwT5 (vok_one (by decide) (by decide) (by decide) (by decide))
  have huT5 : usedT T5 = usedV [([97], ([120, 121, 122, 117], 4))] := used_of hwT5
  refine l_step (s_q rfl wn (q_assign rfl) ?_)
  refine l_nil ?_
  refine k_then_n ?_
  refine c_seq ?_
  refine c_region ?_
  refine l_step (s_q rfl wn (q_move rfl) ?_)
  refine l_step (s_fnb rfl wn Tryd.func16 rfl (by kernel_rfl) rfl (by repeat (first | exact Sel.nil | exact Pick.here | apply Sel.cons | apply Pick.there)) (fun ρ' hL => X.read_spec bD 10 mbbD (-1) T5 [97] ρ' (by assumption)) ?_)
  rintro _ _ ⟨aR, cR, rfl, rfl⟩
  try simp only [List.cons_append, List.nil_append]
  rw [show (mgetD (vw T5) [97] zF).1 = [120, 121, 122, 117] from by rw [hwT5]; rfl, show mhas (vw T5) [97] = true from by rw [hwT5]; rfl]
  refine l_step (s_q rfl wn (q_move rfl) ?_)
  refine l_step (s_q rfl wn (q_extract rfl rfl) ?_)
  refine l_step (s_q rfl wn (q_extract rfl rfl) ?_)
  refine l_step (s_q rfl wn (q_assign rfl) ?_)
  refine l_step (s_q rfl wn (q_assign rfl) ?_)
  refine l_nil ?_
  refine k_then_n ?_
  refine c_seq ?_
  refine c_region ?_
  refine l_step (s_q rfl wn (q_move rfl) ?_)
  refine l_step (s_q rfl wn (q_eql rfl rfl) ?_)
  refine l_step (s_q rfl wn (q_move rfl) ?_)
  refine l_step (s_qg rfl (ask_t rfl rfl) (b := (decide (0 = 0))) (fun hb => q_move rfl) ?_)
  refine l_step (s_qg rfl (ask_t rfl rfl) (b := (decide (0 = 0))) (fun hb => OpQ.env (.cons rfl (gd_t hb) (.nil _) : EnvLe [(51, .int .i64 0)] _) (q_eql rfl rfl)) ?_)
  refine l_step (s_q rfl wn (q_pick_and rfl rfl rfl (fun h => h)) ?_)
  refine l_step (s_q rfl wn (q_move rfl) ?_)
  refine l_step (s_qg rfl (ask_t rfl rfl) (b := ((decide (0 = 0)) && (decide (0 = 0)))) (fun hb => q_move rfl) ?_)
  refine l_step (s_qg rfl (ask_t rfl rfl) (b := ((decide (0 = 0)) && (decide (0 = 0)))) (fun hb => OpQ.env (.cons rfl (gd_t hb) (.nil _) : EnvLe [(55, .int .i64 0)] _) (q_eql rfl rfl)) ?_)
  refine l_step (s_q rfl wn (q_pick_and rfl rfl rfl (fun h => h)) ?_)
  refine l_step (s_q rfl wn (q_move rfl) ?_)
  refine l_step (s_qg rfl (ask_t rfl rfl) (b := (((decide (0 = 0)) && (decide (0 = 0))) && (decide (0 = 0)))) (fun hb => q_move rfl) ?_)
  refine l_step (s_qg rfl (ask_t rfl rfl) (b := (((decide (0 = 0)) && (decide (0 = 0))) && (decide (0 = 0)))) (fun hb => OpQ.env (.cons rfl (gd_t hb) (.nil _) : EnvLe [(59, .int .i64 31)] _) (q_eql rfl rfl)) ?_)
  refine l_step (s_q rfl wn (q_pick_and rfl rfl rfl (fun h => h)) ?_)
  refine l_step (s_q rfl wn (q_move rfl) ?_)
  refine l_step (s_qg rfl (ask_t rfl rfl) (b := ((((decide (0 = 0)) && (decide (0 = 0))) && (decide (0 = 0))) && (decide (31 = 31)))) (fun hb => q_move rfl) ?_)
  refine l_step (s_qg rfl (ask_t rfl rfl) (b := ((((decide (0 = 0)) && (decide (0 = 0))) && (decide (0 = 0))) && (decide (31 = 31)))) (fun hb => OpQ.env (.cons rfl (gd_t hb) (.nil _) : EnvLe [(63, .int .i64 2)] _) (q_eql rfl rfl)) ?_)
  refine l_step (s_q rfl wn (q_pick_and rfl rfl rfl (fun h => h)) ?_)
  refine l_step (s_q rfl wn (q_move rfl) ?_)
  refine l_step (s_qg rfl (ask_t rfl rfl) (b := (((((decide (0 = 0)) && (decide (0 = 0))) && (decide (0 = 0))) && (decide (31 = 31))) && (decide (2 = 2)))) (fun hb => q_move rfl) ?_)
  refine l_step (s_q rfl wn (q_pick_and rfl rfl rfl (fun h => h)) ?_)
  refine l_step (s_q rfl wn (q_move rfl) ?_)
  refine l_step (s_qg rfl (ask_t rfl rfl) (b := ((((((decide (0 = 0)) && (decide (0 = 0))) && (decide (0 = 0))) && (decide (31 = 31))) && (decide (2 = 2))) && true)) (fun hb => q_move rfl) ?_)
  refine l_step (s_qg rfl (ask_t rfl rfl) (b := ((((((decide (0 = 0)) && (decide (0 = 0))) && (decide (0 = 0))) && (decide (31 = 31))) && (decide (2 = 2))) && true)) (fun hb => OpQ.env (.cons rfl (gd_t hb) (.nil _) : EnvLe [(70, .slice aR 4 cR)] _) (q_tostr (bs := [120, 121, 122, 117]) Tryd.underlying32 Tryd.underlying5 Tryd.underlying9 rfl (rd_row (by repeat (first | exact Pick.here | apply Pick.there))))) ?_)
  refine l_step (s_qg rfl (ask_t rfl rfl) (b := ((((((decide (0 = 0)) && (decide (0 = 0))) && (decide (0 = 0))) && (decide (31 = 31))) && (decide (2 = 2))) && true)) (fun hb => OpQ.env (.cons rfl (gd_t hb) (.nil _) : EnvLe [(71, (strB [120, 121, 122, 117]))] _) (q_eqlsB (p := [120, 121, 122, 117]) (q := [120, 121, 122, 117]) rfl rfl)) ?_)
  refine l_step (s_q rfl wn (q_pick_and rfl rfl rfl (fun h => h)) ?_)
  refine l_step (s_q rfl wn (q_assign rfl) ?_)
  refine l_nil ?_
  refine k_then_n ?_
  refine c_ret ?_
  exact t_ret [] rfl (.tmp rfl .nil) rfl (Hp.le_refl _) ⟨rfl, boole (by rfl), rfl⟩ (by (repeat refine Ent.skip ?_); exact Ent.refl _)
end Go.Dsk.B

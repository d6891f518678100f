/-
  Package disk, walked.
-/
import Derived.Test.YtehaoafnobnneaaDoorDskB
import Derived.Test.YtehaoafnobnneaaDoorDskK
import Derived.Test.YtehaoafnobnneaaDoorDskR
import Derived.Test.YtehaoafnobnneaaDoorDskL
import Derived.Test.YtehaoafnobnneaaDoorProg
set_option maxRecDepth 100000
set_option maxHeartbeats 4000000
set_option linter.unusedSimpArgs false
set_option linter.unusedVariables false
namespace Go.Dsk.FU
open Go Go.SL Go.Proofs Go.Dsk Go.Dsk.L Go.Dsk.X Go.Dsk.B
attribute [local irreducible] Go.SL.Ent
theorem eo_32 : elemOk Tryd.prog 32 1 24 = true := by kernel_rfl
theorem eo_5 : elemOk Tryd.prog 5 1 1 = true := by kernel_rfl
theorem eo_9 : elemOk Tryd.prog 9 1 16 = true := by kernel_rfl
theorem zc_5 : zeroCs Tryd.prog 5 = some [.int .u8 0] := by kernel_rfl

theorem full_spec (room : Int) (used : Int) (ρ : Hp) : Spec0 Tryd.prog 5 #[.int .i64 room, .int .i64 used] ρ [] (fun v Γ' => v = .bool true ∧ Γ' = []) := by
  refine spec_of (n := 119) (vs := [_, _]) (σ := [(0, _), (1, _)]) Tryd.func5 rfl rfl rfl rfl fun E Δ => ?_
  rw [List.nil_append]
  refine c_seq ?_
  refine c_region ?_
  refine l_step (s_q rfl wn (q_assign rfl) ?_)
  refine l_nil ?_
  refine k_then_n ?_
  refine c_seq ?_
  refine c_seq ?_
  refine c_region ?_
  refine l_step (s_fnq rfl wn Tryd.func9 rfl (by kernel_rfl) rfl (fun ρ' hL => awake_spec  ρ') ?_)
  refine l_step (s_q rfl wn (q_not rfl) ?_)
  refine l_nil ?_
  refine k_then_n ?_
  refine c_no rfl ?_
  refine c_skip ?_
  refine k_then_n ?_
  refine c_seq ?_
  refine c_region ?_
  have m1 := Int.tmod_lt_of_pos room (show (0 : Int) < 3000 by decide)
  have m2 := Int.lt_tmod_of_pos room (show (0 : Int) < 3000 by decide)
  refine l_step (s_q rfl wn (q_move rfl) ?_)
  refine l_step (s_q rfl wn (q_rem rfl rfl (by omega)) ?_)
  refine l_step (s_q rfl wn (q_add rfl rfl (by omega) (by omega)) ?_)
  refine l_step (s_q rfl wn (q_remp rfl rfl (by omega) (by omega)) ?_)
  refine l_step (s_q rfl wn (q_assign rfl) ?_)
  refine l_nil ?_
  refine k_then_n ?_
  refine c_seq ?_
  refine c_region ?_
  obtain ⟨n, hn⟩ : ∃ k : Nat, (((room.tmod 3000) + 3000) % 3000 : Int) = (k : Int) := ⟨_, (Int.toNat_of_nonneg (by omega)).symm⟩
  rw [hn]
  have hn3 : n < 3000 := by omega
  have htb := turn2_b used n
  refine l_step (s_q rfl wn (q_move rfl) ?_)
  refine l_step (s_q rfl wn (q_move rfl) ?_)
  refine l_step (s_q rfl wn (q_add rfl rfl (by omega) (by omega)) ?_)
  refine l_step (s_q rfl wn (q_rem rfl rfl (by omega)) ?_)
  refine l_step (s_q rfl wn (q_move rfl) ?_)
  refine l_step (s_q rfl wn (q_add rfl rfl (by omega) (by omega)) ?_)
  refine l_step (s_q rfl wn (q_add rfl rfl (by omega) (by omega)) ?_)
  refine l_step (s_q rfl wn (q_move rfl) ?_)
  refine l_step (s_q rfl wn (q_add rfl rfl (by omega) (by omega)) ?_)
  refine l_step (s_q rfl wn (q_rem rfl rfl (by omega)) ?_)
  refine l_step (s_q rfl wn (q_assign rfl) ?_)
  refine l_nil ?_
  refine k_then_n ?_
  refine c_seq ?_
  refine c_region ?_
  have htk := turn2 used n
  obtain ⟨Z, hZk, hZ0⟩ : ∃ Z : List UInt8, ((((used.tmod ((n : Int) + 1)) + (n : Int)) + 1).tmod ((n : Int) + 1)) = (Z.length : Int) ∧ List.replicate Z.length (0 : UInt8) = Z := ⟨List.replicate ((((used.tmod ((n : Int) + 1)) + (n : Int)) + 1).tmod ((n : Int) + 1)).toNat 0, by rw [List.length_replicate]; omega, by rw [List.length_replicate]⟩
  rw [hZk] at htk
  obtain ⟨W, hWk, hW0⟩ : ∃ W : List UInt8, (n : Int) = (Z.length : Int) + (W.length : Int) ∧ List.replicate W.length (0 : UInt8) = W := ⟨List.replicate (n - Z.length) 0, by rw [List.length_replicate]; omega, by rw [List.length_replicate]⟩
  obtain ⟨Y, hYk, hY0⟩ : ∃ Y : List UInt8, Y.length = W.length + 1 ∧ List.replicate Y.length (0 : UInt8) = Y := ⟨List.replicate (W.length + 1) 0, by rw [List.length_replicate], by rw [List.length_replicate]⟩
  rw [hZk, hWk]
  refine l_step (s_q rfl wn (q_move rfl) ?_)
  refine l_step (s_fnb rfl wn Tryd.func12 rfl (by kernel_rfl) rfl (by repeat (first | exact Sel.nil | exact Pick.here | apply Sel.cons | apply Pick.there)) (fun ρ' hL => X.new_spec ((Z.length : Int) + (W.length : Int)) ρ') ?_)
  rintro _ _ hnewbD
  obtain ⟨bD, mbbD, rfl, rfl⟩ := or_yes hnewbD (by omega)
  try simp only [List.cons_append, List.nil_append]
  refine l_step (s_q rfl wn (q_move rfl) ?_)
  refine l_step (s_q rfl wn (q_extract rfl rfl) ?_)
  refine l_step (s_q rfl wn (q_extract rfl rfl) ?_)
  refine l_step (s_q rfl wn (q_assign rfl) ?_)
  refine l_step (s_q rfl wn (q_assign rfl) ?_)
  refine l_nil ?_
  refine k_then_n ?_
  refine c_seq ?_
  refine c_seq ?_
  refine c_region ?_
  refine l_step (s_q rfl wn (q_move rfl) ?_)
  refine l_step (s_q rfl wn (by first | exact q_eqlp rfl rfl Tryd.underlying27 | exact q_eqlp0 rfl rfl Tryd.underlying27) ?_)
  refine l_step (s_q rfl wn (q_move rfl) ?_)
  refine l_step (s_q rfl (wy rfl rfl rfl) (q_move rfl) ?_)
  refine l_step (s_q rfl (wy rfl rfl rfl) (q_neq rfl rfl) ?_)
  refine l_step (s_q rfl wn (q_pick rfl rfl rfl) ?_)
  refine l_nil ?_
  refine k_then_n ?_
  refine c_sure false rfl (by rfl) ?_
  simp only [Bool.false_eq_true, if_true, if_false]
  refine c_skip ?_
  refine k_then_n ?_
  refine c_seq ?_
  refine c_seq ?_
  refine c_region ?_
  have hTn : FOk [] := fok.2 vok_nil
  refine l_step (s_q rfl wn (q_move rfl) ?_)
  refine l_step (s_q rfl wn (q_move rfl) ?_)
  refine l_step (s_s rfl wn (s_makeSlicee (enc := encB) (z := 0) Tryd.underlying32 eo_5 zc_5 rfl rfl rfl (by omega) rfl (by omega) (by omega)) ?_)
  rintro _ _ ⟨b38, rfl, rfl⟩
  rw [show ((Z.length : Int)).toNat = Z.length from rfl, hZ0]
  refine l_step (s_s rfl wn (s_buildSlice (cs := ([⟨(some ⟨b38, 0, none⟩), Z.length, Z.length⟩] : List SH).flatMap encSH) Tryd.underlying26 eo_32 rfl rfl rfl rfl (by decide) (by decide)) ?_)
  rintro _ _ ⟨b39, rfl, rfl⟩
  refine l_step (s_fnb rfl wn Tryd.func13 rfl (by kernel_rfl) rfl (by repeat (first | exact Sel.nil | exact Pick.here | apply Sel.cons | apply Pick.there)) (fun ρ' hL => Go.Dsk.Y.append_spec bD ((Z.length : Int) + (W.length : Int)) mbbD (-1) [] nA (some ⟨b39, 0, none⟩) 1 1 [⟨(some ⟨b38, 0, none⟩), Z, Z.length⟩] rfl ρ' (by assumption) (by simp [usedT]; omega) (by omega) (by decide) (by decide) (by decide) (by simp [usedT]; omega) (hL.row (by repeat (first | exact Pick.here | apply Pick.there))) (by intro s hs; rw [List.mem_singleton.1 hs]; exact hL.row (by repeat (first | exact Pick.here | apply Pick.there)))) ?_)
  rintro _ _ ⟨T1, rfl, hvT1, rfl⟩
  try simp only [List.cons_append, List.nil_append]
  have hrT1 : appR ((Z.length : Int) + (W.length : Int)) (-1) (vw []) nA (([⟨(some ⟨b38, 0, none⟩), Z, Z.length⟩] : List (SL UInt8)).flatMap fun x : SL UInt8 => x.xs) = (0, ff1 Z) := by rw [show vw [] = [] from rfl]; rw [catS_one]; exact full1
  rw [hrT1] at hvT1
  have hwT1 : vw T1 = ff1 Z := hvT1
  rw [show (appR ((Z.length : Int) + (W.length : Int)) (-1) (vw []) nA (([⟨(some ⟨b38, 0, none⟩), Z, Z.length⟩] : List (SL UInt8)).flatMap fun x : SL UInt8 => x.xs)).1 = 0 from by rw [hrT1]]
  have hTT1 : FOk T1 := fok_of hwT1 (ok1 (by omega))
  have huT1 : usedT T1 = Z.length := (used_of hwT1).trans (used1 Z)
  have hlT1 : T1.length = (ff1 Z).length := by rw [← vw_len, hwT1]
  rw [show decC (-1) = -1 from rfl]
  refine l_step (s_q rfl wn (q_neq rfl rfl) ?_)
  refine l_step (s_q rfl wn (q_move rfl) ?_)
  refine Tr.env (.cons (t := 42) (v := .bool false) rfl (congrArg Value.bool (by rfl)) (EnvLe.refl _)) ?_
  refine l_step (s_q rfl (wy rfl rfl rfl) (q_move rfl) ?_)
  refine l_step (s_fnb rfl (wy rfl rfl rfl) Tryd.func18 rfl (by kernel_rfl) rfl (by repeat (first | exact Sel.nil | exact Pick.here | apply Sel.cons | apply Pick.there)) (fun ρ' hL => free_spec bD ((Z.length : Int) + (W.length : Int)) mbbD (-1) T1 ρ' (by rw [huT1]; omega) (by omega)) ?_)
  rintro _ _ ⟨rfl, rfl⟩
  try simp only [List.cons_append, List.nil_append]
  refine l_step (s_q rfl (wy rfl rfl rfl) (q_move rfl) ?_)
  refine l_step (s_q rfl (wy rfl rfl rfl) (q_move rfl) ?_)
  refine l_step (s_q rfl (wy rfl rfl rfl) (q_as (v := .int .i64 (W.length : Int)) (q_sub rfl rfl (by omega) (by omega)) (congrArg (Value.int .i64) (by omega))) ?_)
  refine l_step (s_q rfl (wy rfl rfl rfl) (q_neq rfl rfl) ?_)
  refine l_step (s_q rfl wn (q_pick rfl rfl rfl) ?_)
  refine l_step (s_q rfl wn (q_move rfl) ?_)
  refine Tr.env (.cons (t := 50) (v := .bool false) rfl (congrArg Value.bool (by show decide _ = false; exact decide_eq_false (fun h => h (by omega)))) (EnvLe.refl _)) ?_
  refine l_step (s_q rfl (wy rfl rfl rfl) (q_move rfl) ?_)
  refine l_step (s_q rfl (wy rfl rfl rfl) (q_move rfl) ?_)
  refine l_step (s_q rfl (wy rfl rfl rfl) (q_move rfl) ?_)
  refine l_step (s_q rfl (wy rfl rfl rfl) (q_as (v := .int .i64 (W.length : Int)) (q_sub rfl rfl (by omega) (by omega)) (congrArg (Value.int .i64) (by omega))) ?_)
  refine l_step (s_q rfl (wy rfl rfl rfl) (q_as (v := .int .i64 (Y.length : Int)) (q_add rfl rfl (by omega) (by omega)) (congrArg (Value.int .i64) (by omega))) ?_)
  refine l_step (s_s rfl (wy rfl rfl rfl) (s_makeSlicee (enc := encB) (z := 0) Tryd.underlying32 eo_5 zc_5 rfl rfl rfl (by omega) rfl (by omega) (by omega)) ?_)
  rintro _ _ ⟨b56, rfl, rfl⟩
  rw [show ((Y.length : Int)).toNat = Y.length from rfl, hY0]
  refine l_step (s_s rfl (wy rfl rfl rfl) (s_buildSlice (cs := ([⟨(some ⟨b56, 0, none⟩), Y.length, Y.length⟩] : List SH).flatMap encSH) Tryd.underlying26 eo_32 rfl rfl rfl rfl (by decide) (by decide)) ?_)
  rintro _ _ ⟨b57, rfl, rfl⟩
  refine l_step (s_fnb rfl (wy rfl rfl rfl) Tryd.func13 rfl (by kernel_rfl) rfl (by repeat (first | exact Sel.nil | exact Pick.here | apply Sel.cons | apply Pick.there)) (fun ρ' hL => Go.Dsk.Y.append_spec bD ((Z.length : Int) + (W.length : Int)) mbbD (-1) T1 nB (some ⟨b57, 0, none⟩) 1 1 [⟨(some ⟨b56, 0, none⟩), Y, Y.length⟩] rfl ρ' (by assumption) (by rw [huT1]; omega) (by omega) (by decide) (by decide) (by decide) (by rw [huT1]; simp; omega) (hL.row (by repeat (first | exact Pick.here | apply Pick.there))) (by intro s hs; rw [List.mem_singleton.1 hs]; exact hL.row (by repeat (first | exact Pick.here | apply Pick.there)))) ?_)
  rintro _ _ ⟨T2, rfl, hvT2, rfl⟩
  try simp only [List.cons_append, List.nil_append]
  have hrT2 : appR ((Z.length : Int) + (W.length : Int)) (-1) (vw T1) nB (([⟨(some ⟨b56, 0, none⟩), Y, Y.length⟩] : List (SL UInt8)).flatMap fun x : SL UInt8 => x.xs) = (31, ff1 Z) := by rw [hwT1]; rw [catS_one]; exact full2 hYk
  rw [hrT2] at hvT2
  have hwT2 : vw T2 = ff1 Z := hvT2
  rw [show (appR ((Z.length : Int) + (W.length : Int)) (-1) (vw T1) nB (([⟨(some ⟨b56, 0, none⟩), Y, Y.length⟩] : List (SL UInt8)).flatMap fun x : SL UInt8 => x.xs)).1 = 31 from by rw [hrT2]]
  have hTT2 : FOk T2 := fok_of hwT2 (ok1 (by omega))
  have huT2 : usedT T2 = Z.length := (used_of hwT2).trans (used1 Z)
  have hlT2 : T2.length = (ff1 Z).length := by rw [← vw_len, hwT2]
  rw [show decC (-1) = -1 from rfl]
  refine l_step (s_q rfl (wy rfl rfl rfl) (q_neq rfl rfl) ?_)
  refine l_step (s_q rfl wn (q_pick rfl rfl rfl) ?_)
  refine l_step (s_q rfl wn (q_move rfl) ?_)
  refine Tr.env (.cons (t := 61) (v := .bool false) rfl (congrArg Value.bool (by rfl)) (EnvLe.refl _)) ?_
  refine l_step (s_q rfl (wy rfl rfl rfl) (q_move rfl) ?_)
  refine l_step (s_fnb rfl (wy rfl rfl rfl) Tryd.func20 rfl (by kernel_rfl) rfl (by repeat (first | exact Sel.nil | exact Pick.here | apply Sel.cons | apply Pick.there)) (fun ρ' hL => X.names_spec bD ((Z.length : Int) + (W.length : Int)) mbbD (-1) T2 ρ' (by assumption)) ?_)
  rintro _ _ ⟨an63, cn63, rfl, rfl⟩
  try simp only [List.cons_append, List.nil_append]
  refine l_step (s_q rfl (wy rfl rfl rfl) (q_len Tryd.underlying41 rfl) ?_)
  refine l_step (s_q rfl (wy rfl rfl rfl) (q_neq rfl rfl) ?_)
  refine l_step (s_q rfl wn (q_pick rfl rfl rfl) ?_)
  refine l_nil ?_
  refine k_then_n ?_
  refine c_sure false rfl (by show decide _ = false; exact decide_eq_false (fun h => h (by rw [hlT2]; rfl))) ?_
  simp only [Bool.false_eq_true, if_true, if_false]
  refine c_skip ?_
  refine k_then_n ?_
  refine c_seq ?_
  refine c_seq ?_
  refine c_region ?_
  refine l_step (s_q rfl wn (q_move rfl) ?_)
  refine l_step (s_q rfl wn (q_move rfl) ?_)
  refine l_step (s_q rfl wn (q_move rfl) ?_)
  refine l_step (s_q rfl wn (q_as (v := .int .i64 (W.length : Int)) (q_sub rfl rfl (by omega) (by omega)) (congrArg (Value.int .i64) (by omega))) ?_)
  refine l_step (s_s rfl wn (s_makeSlicee (enc := encB) (z := 0) Tryd.underlying32 eo_5 zc_5 rfl rfl rfl (by omega) rfl (by omega) (by omega)) ?_)
  rintro _ _ ⟨b71, rfl, rfl⟩
  rw [show ((W.length : Int)).toNat = W.length from rfl, hW0]
  refine l_step (s_s rfl wn (s_buildSlice (cs := ([⟨(some ⟨b71, 0, none⟩), W.length, W.length⟩] : List SH).flatMap encSH) Tryd.underlying26 eo_32 rfl rfl rfl rfl (by decide) (by decide)) ?_)
  rintro _ _ ⟨b72, rfl, rfl⟩
  refine l_step (s_fnb rfl wn Tryd.func13 rfl (by kernel_rfl) rfl (by repeat (first | exact Sel.nil | exact Pick.here | apply Sel.cons | apply Pick.there)) (fun ρ' hL => Go.Dsk.Y.append_spec bD ((Z.length : Int) + (W.length : Int)) mbbD (-1) T2 nB (some ⟨b72, 0, none⟩) 1 1 [⟨(some ⟨b71, 0, none⟩), W, W.length⟩] rfl ρ' (by assumption) (by rw [huT2]; omega) (by omega) (by decide) (by decide) (by decide) (by rw [huT2]; simp; omega) (hL.row (by repeat (first | exact Pick.here | apply Pick.there))) (by intro s hs; rw [List.mem_singleton.1 hs]; exact hL.row (by repeat (first | exact Pick.here | apply Pick.there)))) ?_)
  rintro _ _ ⟨T3, rfl, hvT3, rfl⟩
  try simp only [List.cons_append, List.nil_append]
  have hrT3 : appR ((Z.length : Int) + (W.length : Int)) (-1) (vw T2) nB (([⟨(some ⟨b71, 0, none⟩), W, W.length⟩] : List (SL UInt8)).flatMap fun x : SL UInt8 => x.xs) = (0, ff2 Z W) := by rw [hwT2]; rw [catS_one]; exact full3
  rw [hrT3] at hvT3
  have hwT3 : vw T3 = ff2 Z W := hvT3
  rw [show (appR ((Z.length : Int) + (W.length : Int)) (-1) (vw T2) nB (([⟨(some ⟨b71, 0, none⟩), W, W.length⟩] : List (SL UInt8)).flatMap fun x : SL UInt8 => x.xs)).1 = 0 from by rw [hrT3]]
  have hTT3 : FOk T3 := fok_of hwT3 (ok2 (by omega))
  have huT3 : usedT T3 = Z.length + W.length := (used_of hwT3).trans (used2 Z W)
  have hlT3 : T3.length = (ff2 Z W).length := by rw [← vw_len, hwT3]
  rw [show decC (-1) = -1 from rfl]
  refine l_step (s_q rfl wn (q_neq rfl rfl) ?_)
  refine l_step (s_q rfl wn (q_move rfl) ?_)
  refine Tr.env (.cons (t := 75) (v := .bool false) rfl (congrArg Value.bool (by rfl)) (EnvLe.refl _)) ?_
  refine l_step (s_q rfl (wy rfl rfl rfl) (q_move rfl) ?_)
  refine l_step (s_fnb rfl (wy rfl rfl rfl) Tryd.func18 rfl (by kernel_rfl) rfl (by repeat (first | exact Sel.nil | exact Pick.here | apply Sel.cons | apply Pick.there)) (fun ρ' hL => free_spec bD ((Z.length : Int) + (W.length : Int)) mbbD (-1) T3 ρ' (by rw [huT3]; omega) (by omega)) ?_)
  rintro _ _ ⟨rfl, rfl⟩
  try simp only [List.cons_append, List.nil_append]
  refine l_step (s_q rfl (wy rfl rfl rfl) (q_neq rfl rfl) ?_)
  refine l_step (s_q rfl wn (q_pick rfl rfl rfl) ?_)
  refine l_step (s_q rfl wn (q_move rfl) ?_)
  refine Tr.env (.cons (t := 80) (v := .bool false) rfl (congrArg Value.bool (by show decide _ = false; exact decide_eq_false (fun h => h (by omega)))) (EnvLe.refl _)) ?_
  refine l_step (s_q rfl (wy rfl rfl rfl) (q_move rfl) ?_)
  refine l_step (s_s rfl (wy rfl rfl rfl) (s_buildSlice (cs := ([1] : List UInt8).flatMap encB) Tryd.underlying32 eo_5 rfl rfl rfl rfl (by decide) (by decide)) ?_)
  rintro _ _ ⟨b82, rfl, rfl⟩
  refine l_step (s_s rfl (wy rfl rfl rfl) (s_buildSlice (cs := ([⟨(some ⟨b82, 0, none⟩), 1, 1⟩] : List SH).flatMap encSH) Tryd.underlying26 eo_32 rfl rfl rfl rfl (by decide) (by decide)) ?_)
  rintro _ _ ⟨b83, rfl, rfl⟩
  refine l_step (s_fnb rfl (wy rfl rfl rfl) Tryd.func13 rfl (by kernel_rfl) rfl (by repeat (first | exact Sel.nil | exact Pick.here | apply Sel.cons | apply Pick.there)) (fun ρ' hL => Go.Dsk.Y.append_spec bD ((Z.length : Int) + (W.length : Int)) mbbD (-1) T3 nB (some ⟨b83, 0, none⟩) 1 1 [⟨(some ⟨b82, 0, none⟩), [1], 1⟩] rfl ρ' (by assumption) (by rw [huT3]; omega) (by omega) (by decide) (by decide) (by decide) (by rw [huT3]; simp; omega) (hL.row (by repeat (first | exact Pick.here | apply Pick.there))) (by intro s hs; rw [List.mem_singleton.1 hs]; exact hL.row (by repeat (first | exact Pick.here | apply Pick.there)))) ?_)
  rintro _ _ ⟨T4, rfl, hvT4, rfl⟩
  try simp only [List.cons_append, List.nil_append]
  have hrT4 : appR ((Z.length : Int) + (W.length : Int)) (-1) (vw T3) nB (([⟨(some ⟨b82, 0, none⟩), [1], 1⟩] : List (SL UInt8)).flatMap fun x : SL UInt8 => x.xs) = (31, ff2 Z W) := by rw [hwT3]; rw [catS_one]; exact full4
  rw [hrT4] at hvT4
  have hwT4 : vw T4 = ff2 Z W := hvT4
  rw [show (appR ((Z.length : Int) + (W.length : Int)) (-1) (vw T3) nB (([⟨(some ⟨b82, 0, none⟩), [1], 1⟩] : List (SL UInt8)).flatMap fun x : SL UInt8 => x.xs)).1 = 31 from by rw [hrT4]]
  have hTT4 : FOk T4 := fok_of hwT4 (ok2 (by omega))
  have huT4 : usedT T4 = Z.length + W.length := (used_of hwT4).trans (used2 Z W)
  have hlT4 : T4.length = (ff2 Z W).length := by rw [← vw_len, hwT4]
  rw [show decC (-1) = -1 from rfl]
  refine l_step (s_q rfl (wy rfl rfl rfl) (q_neq rfl rfl) ?_)
  refine l_step (s_q rfl wn (q_pick rfl rfl rfl) ?_)
  refine l_step (s_q rfl wn (q_move rfl) ?_)
  refine Tr.env (.cons (t := 87) (v := .bool false) rfl (congrArg Value.bool (by rfl)) (EnvLe.refl _)) ?_
  refine l_step (s_q rfl (wy rfl rfl rfl) (q_move rfl) ?_)
  refine l_step (s_fnb rfl (wy rfl rfl rfl) Tryd.func13 rfl (by kernel_rfl) rfl (by repeat (first | exact Sel.nil | exact Pick.here | apply Sel.cons | apply Pick.there)) (fun ρ' hL => Go.Dsk.Y.append_spec bD ((Z.length : Int) + (W.length : Int)) mbbD (-1) T4 nC none 0 0 [] rfl ρ' (by assumption) (by rw [huT4]; omega) (by omega) (by decide) (by decide) (by decide) (by rw [huT4]; simp; omega) (Ro.nil _ _) (fun s hs => by cases hs)) ?_)
  rintro _ _ ⟨T5, rfl, hvT5, rfl⟩
  try simp only [List.cons_append, List.nil_append]
  have hrT5 : appR ((Z.length : Int) + (W.length : Int)) (-1) (vw T4) nC (([] : List (SL UInt8)).flatMap fun x : SL UInt8 => x.xs) = (0, ff3 Z W) := by rw [hwT4]; exact full5
  rw [hrT5] at hvT5
  have hwT5 : vw T5 = ff3 Z W := hvT5
  rw [show (appR ((Z.length : Int) + (W.length : Int)) (-1) (vw T4) nC (([] : List (SL UInt8)).flatMap fun x : SL UInt8 => x.xs)).1 = 0 from by rw [hrT5]]
  have hTT5 : FOk T5 := fok_of hwT5 (ok3 (by omega))
  have huT5 : usedT T5 = Z.length + W.length := (used_of hwT5).trans (used3 Z W)
  have hlT5 : T5.length = (ff3 Z W).length := by rw [← vw_len, hwT5]
  rw [show decC (-1) = -1 from rfl]
  refine l_step (s_q rfl (wy rfl rfl rfl) (q_neq rfl rfl) ?_)
  refine l_step (s_q rfl wn (q_pick rfl rfl rfl) ?_)
  refine l_nil ?_
  refine k_then_n ?_
  refine c_sure false rfl (by rfl) ?_
  simp only [Bool.false_eq_true, if_true, if_false]
  refine c_skip ?_
  refine k_then_n ?_
  refine c_seq ?_
  refine c_region ?_
  refine l_step (s_q rfl wn (q_move rfl) ?_)
  refine l_step (s_s rfl wn (s_buildSlice (cs := ([[97]] : List (List UInt8)).flatMap Go.SL.encStr) Tryd.underlying41 eo_9 rfl rfl rfl rfl (by decide) (by decide)) ?_)
  rintro _ _ ⟨b93, rfl, rfl⟩
  refine l_step (s_fnb rfl wn Tryd.func21 rfl (by kernel_rfl) rfl (by repeat (first | exact Sel.nil | exact Pick.here | apply Sel.cons | apply Pick.there)) (fun ρ' hL => R.remove_spec bD ((Z.length : Int) + (W.length : Int)) mbbD (-1) T5 (some ⟨b93, 0, none⟩) 1 1 [[97]] rfl ρ' (by assumption) (by decide) (by decide) (hL.row (by repeat (first | exact Pick.here | apply Pick.there)))) ?_)
  rintro _ _ ⟨T6, rfl, hvT6, rfl⟩
  try simp only [List.cons_append, List.nil_append]
  have hrT6 : remR (-1) (vw T5) [nA] = (0, ff4 W) := by rw [hwT5]; exact full6
  rw [hrT6] at hvT6
  have hwT6 : vw T6 = ff4 W := hvT6
  rw [show (remR (-1) (vw T5) [nA]).1 = 0 from by rw [hrT6]]
  have hTT6 : FOk T6 := fok_of hwT6 (ok4 (by omega))
  have huT6 : usedT T6 = W.length := (used_of hwT6).trans (used4 W)
  have hlT6 : T6.length = (ff4 W).length := by rw [← vw_len, hwT6]
  rw [show decC (-1) = -1 from rfl]
  refine l_step (s_q rfl wn (q_eql rfl rfl) ?_)
  refine l_step (s_q rfl wn (q_move rfl) ?_)
  refine Tr.env (.cons (t := 96) (v := .bool true) rfl (congrArg Value.bool (by rfl)) (EnvLe.refl _)) ?_
  refine l_step (s_q rfl (wy rfl rfl rfl) (q_move rfl) ?_)
  refine l_step (s_fnb rfl (wy rfl rfl rfl) Tryd.func18 rfl (by kernel_rfl) rfl (by repeat (first | exact Sel.nil | exact Pick.here | apply Sel.cons | apply Pick.there)) (fun ρ' hL => free_spec bD ((Z.length : Int) + (W.length : Int)) mbbD (-1) T6 ρ' (by rw [huT6]; omega) (by omega)) ?_)
  rintro _ _ ⟨rfl, rfl⟩
  try simp only [List.cons_append, List.nil_append]
  refine l_step (s_q rfl (wy rfl rfl rfl) (q_move rfl) ?_)
  refine l_step (s_q rfl (wy rfl rfl rfl) (q_eql rfl rfl) ?_)
  refine l_step (s_q rfl wn (q_pick rfl rfl rfl) ?_)
  refine l_step (s_q rfl wn (q_move rfl) ?_)
  refine Tr.env (.cons (t := 102) (v := .bool true) rfl (congrArg Value.bool (by show decide _ = true; exact decide_eq_true (by omega))) (EnvLe.refl _)) ?_
  refine l_step (s_q rfl (wy rfl rfl rfl) (q_move rfl) ?_)
  refine l_step (s_fnb rfl (wy rfl rfl rfl) Tryd.func22 rfl (by kernel_rfl) rfl (by repeat (first | exact Sel.nil | exact Pick.here | apply Sel.cons | apply Pick.there)) (fun ρ' hL => V.rename_spec bD ((Z.length : Int) + (W.length : Int)) mbbD (-1) T6 nB nC ρ' (by assumption) (by decide) (by decide)) ?_)
  rintro _ _ ⟨T7, rfl, hvT7, rfl⟩
  try simp only [List.cons_append, List.nil_append]
  have hrT7 : renR (-1) (vw T6) nB nC = (0, ff5 W) := by rw [hwT6]; exact full7
  rw [hrT7] at hvT7
  have hwT7 : vw T7 = ff5 W := hvT7
  rw [show (renR (-1) (vw T6) nB nC).1 = 0 from by rw [hrT7]]
  have hTT7 : FOk T7 := fok_of hwT7 (ok5 (by omega))
  have huT7 : usedT T7 = W.length := (used_of hwT7).trans (used5 W)
  have hlT7 : T7.length = (ff5 W).length := by rw [← vw_len, hwT7]
  rw [show decC (-1) = -1 from rfl]
  refine l_step (s_q rfl (wy rfl rfl rfl) (q_eql rfl rfl) ?_)
  refine l_step (s_q rfl wn (q_pick rfl rfl rfl) ?_)
  refine l_step (s_q rfl wn (q_move rfl) ?_)
  refine Tr.env (.cons (t := 107) (v := .bool true) rfl (congrArg Value.bool (by rfl)) (EnvLe.refl _)) ?_
  refine l_step (s_q rfl (wy rfl rfl rfl) (q_move rfl) ?_)
  refine l_step (s_fnb rfl (wy rfl rfl rfl) Tryd.func20 rfl (by kernel_rfl) rfl (by repeat (first | exact Sel.nil | exact Pick.here | apply Sel.cons | apply Pick.there)) (fun ρ' hL => X.names_spec bD ((Z.length : Int) + (W.length : Int)) mbbD (-1) T7 ρ' (by assumption)) ?_)
  rintro _ _ ⟨an109, cn109, rfl, rfl⟩
  try simp only [List.cons_append, List.nil_append]
  refine l_step (s_q rfl (wy rfl rfl rfl) (q_len Tryd.underlying41 rfl) ?_)
  refine l_step (s_q rfl (wy rfl rfl rfl) (q_eql rfl rfl) ?_)
  refine l_step (s_q rfl wn (q_pick rfl rfl rfl) ?_)
  refine l_step (s_q rfl wn (q_move rfl) ?_)
  refine Tr.env (.cons (t := 113) (v := .bool true) rfl (congrArg Value.bool (by show decide _ = true; exact decide_eq_true (by rw [hlT7]; rfl))) (EnvLe.refl _)) ?_
  refine l_step (s_q rfl (wy rfl rfl rfl) (q_move rfl) ?_)
  refine l_step (s_fnb rfl (wy rfl rfl rfl) Tryd.func18 rfl (by kernel_rfl) rfl (by repeat (first | exact Sel.nil | exact Pick.here | apply Sel.cons | apply Pick.there)) (fun ρ' hL => free_spec bD ((Z.length : Int) + (W.length : Int)) mbbD (-1) T7 ρ' (by rw [huT7]; omega) (by omega)) ?_)
  rintro _ _ ⟨rfl, rfl⟩
  try simp only [List.cons_append, List.nil_append]
  refine l_step (s_q rfl (wy rfl rfl rfl) (q_move rfl) ?_)
  refine l_step (s_q rfl (wy rfl rfl rfl) (q_eql rfl rfl) ?_)
  refine l_step (s_q rfl wn (q_pick rfl rfl rfl) ?_)
  refine l_step (s_q rfl wn (q_assign rfl) ?_)
  refine l_nil ?_
  refine k_then_n ?_
  refine c_ret ?_
  exact t_ret [] rfl (.tmp rfl .nil) rfl (Hp.le_refl _) ⟨rfl, boole (by show decide _ = true; exact decide_eq_true (by omega)), rfl⟩ (by (repeat refine Ent.skip ?_); exact Ent.refl _)
end Go.Dsk.FU

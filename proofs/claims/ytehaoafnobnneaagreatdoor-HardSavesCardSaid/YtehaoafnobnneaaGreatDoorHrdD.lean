/-
  Walked.
-/
import Derived.Test.YtehaoafnobnneaaGreatDoorHrdC
import Derived.Test.YtehaoafnobnneaaGreatDoorHrdPP
import Derived.Test.YtehaoafnobnneaaGreatDoorDskXX
import Derived.Test.YtehaoafnobnneaaGreatDoorProg
set_option maxRecDepth 100000
set_option maxHeartbeats 4000000
set_option linter.unusedSimpArgs false
set_option linter.unusedVariables false
namespace Go.HrdL
open Go Go.SL Go.Proofs Go.Mou Go.Dsk Go.Hrd
attribute [local irreducible] Go.SL.Ent
theorem zc_87 : zeroCs Tryz.prog 87 = some [.int .i64 0, .slice none 0 0, .bool false, .int .i64 0] := by kernel_rfl
theorem pl_87 : placesOf Tryz.prog 87 = some [(0, 1), (1, 1), (2, 1), (3, 1)] := by kernel_rfl
theorem fo_56_0 : fieldOff Tryz.prog 56 0 = some (0, 23) := by kernel_rfl
theorem ag_23 : aggSize Tryz.prog 23 = some 2 := by kernel_rfl
theorem zc_23 : zeroCs Tryz.prog 23 = some [.int .i64 0, .int .i64 0] := by kernel_rfl
theorem pl_23 : placesOf Tryz.prog 23 = some [(0, 1), (1, 1)] := by kernel_rfl
theorem fo_23_0 : fieldOff Tryz.prog 23 0 = some (0, 3) := by kernel_rfl
theorem sc_3 : isScalar Tryz.prog 3 = true := by kernel_rfl
theorem fo_23_1 : fieldOff Tryz.prog 23 1 = some (1, 3) := by kernel_rfl
theorem eo_23 : elemOk Tryz.prog 23 2 16 = true := by kernel_rfl

theorem made_spec (room : Int) (ρ : Hp) (h0 : 0 ≤ room) : Spec0 Tryz.prog 12 #[.int .i64 room] ρ [] (fun v Γ' => ∃ b mb r, v = .tuple #[.pointer (some ⟨b, 0, none⟩), .pointer (some ⟨r, 0, none⟩)] ∧ Γ' = [.pts b (encDisk1 (⟨room, (some mb), (-1)⟩ : Disk1)) 105, MP strB ptV mb (fm []), FB 109 5 [], .pts r (encRDisk (⟨room, ⟨none, 0, 0⟩, false, 0⟩ : RDisk)) 87]) := by
  refine spec_of (n := 17) (vs := [_]) (σ := [(0, _)]) Tryz.func12 rfl rfl rfl rfl fun E Δ => ?_
  rw [List.nil_append]
  refine sr ?_
  refine e_as rfl ?_
  refine e_as rfl ?_
  refine l_n ?_
  refine sr ?_
  refine e_mv rfl ?_
  refine e_fn Tryz.func27 rfl sl_ (fun ρ' hL => Go.Dsk.X.new_spec room ρ') ?_
  rintro _ _ hnew
  obtain ⟨bD, mbD, rfl, rfl⟩ := or_yes hnew (by omega)
  try simp only [List.cons_append, List.nil_append]
  refine e_mv rfl ?_
  refine e_q (q_extract rfl rfl) ?_
  refine e_q (q_extract rfl rfl) ?_
  refine e_as rfl ?_
  refine e_as rfl ?_
  refine l_n ?_
  refine c_seq ?_
  refine sr ?_
  refine e_mv rfl ?_
  refine e_q (q_neq rfl rfl) ?_
  refine l_n ?_
  refine c_sure false rfl (by rfl) ?_
  simp only [Bool.false_eq_true, if_true, if_false]
  refine c_skip ?_
  refine k_then_n ?_
  refine sr ?_
  refine e_mv rfl ?_
  refine e_mv rfl ?_
  refine e_q (q_build (cs := encRDisk (⟨room, ⟨none, 0, 0⟩, false, 0⟩ : RDisk)) zc_87 pl_87 rfl rfl) ?_
  refine e_s (s_box (cs := encRDisk (⟨room, ⟨none, 0, 0⟩, false, 0⟩ : RDisk)) rfl rfl) ?_
  rintro _ _ ⟨b16, rfl, rfl⟩
  refine e_as rfl ?_
  refine e_as rfl ?_
  refine l_n ?_
  refine c_ret ?_
  exact t_rt [.pts bD (encDisk1 (⟨room, (some mbD), (-1)⟩ : Disk1)) 105, MP strB ptV mbD (fm []), FB 109 5 [], .pts b16 (encRDisk (⟨room, ⟨none, 0, 0⟩, false, 0⟩ : RDisk)) 87] rfl (.tmp rfl (.tmp rfl .nil)) rfl ⟨rfl, bD, mbD, _, rfl, rfl⟩

theorem awake_spec  (ρ : Hp) : Spec0 Tryz.prog 9 #[] ρ [] (fun v Γ' => v = .bool (true) ∧ Γ' = []) := by
  refine spec_of (n := 102) (vs := []) (σ := []) Tryz.func9 rfl rfl rfl rfl fun E Δ => ?_
  rw [List.nil_append]
  refine sr ?_
  refine e_as rfl ?_
  refine l_n ?_
  refine sr ?_
  refine e_fn Tryz.func12 rfl sl_ (fun ρ' hL => made_spec 1000 ρ' (by omega)) ?_
  rintro _ _ ⟨bD, mbD, rD, rfl, rfl⟩
  try simp only [List.cons_append, List.nil_append]
  have hG0 : Gd (vw []) ⟨0, -1⟩ 0 n0 := gd_nil
  refine e_mv rfl ?_
  refine e_q (q_extract rfl rfl) ?_
  refine e_q (q_extract rfl rfl) ?_
  refine e_as rfl ?_
  refine e_as rfl ?_
  refine l_n ?_
  refine c_seq ?_
  refine sr ?_
  refine e_mv rfl ?_
  refine e_q (by first | exact q_eqlp rfl rfl Tryz.underlying29 | exact q_eqlp0 rfl rfl Tryz.underlying29) ?_
  refine l_n ?_
  refine c_sure false rfl (by rfl) ?_
  simp only [Bool.false_eq_true, if_true, if_false]
  refine c_skip ?_
  refine k_then_n ?_
  refine sr ?_
  refine e_mv rfl ?_
  refine e_fn Tryz.func13 rfl sl_ (fun ρ' hL => open__spec bD 1000 mbD (-1) [] ρ' hG0.fok) ?_
  rintro _ _ ⟨h1, rfl, rfl⟩
  try simp only [List.cons_append, List.nil_append]
  rw [hG0.on]
  refine e_mv rfl ?_
  refine e_q (q_extract rfl rfl) ?_
  refine e_q (q_extract rfl rfl) ?_
  refine e_as rfl ?_
  refine e_as rfl ?_
  refine l_n ?_
  refine c_seq ?_
  refine sr ?_
  refine e_mv rfl ?_
  refine e_q (by first | exact q_eqlp rfl rfl Tryz.underlying33 | exact q_eqlp0 rfl rfl Tryz.underlying33) ?_
  refine e_mv rfl ?_
  refine e_qw (wy rfl rfl rfl) (q_move rfl) ?_
  refine e_qw (wy rfl rfl rfl) (q_neq rfl rfl) ?_
  refine e_q (q_pick rfl rfl rfl) ?_
  refine e_mv rfl ?_
  refine l_step (s_qg rfl (ask_f rfl rfl) (b := (!(decide (0 ≠ 0)))) (fun hb => q_move rfl) ?_)
  refine l_step (s_qg rfl (ask_f rfl rfl) (b := (!(decide (0 ≠ 0)))) (fun hb => OpQ.env (.cons rfl (gd_t hb) (.nil _) : EnvLe [(29, .pointer (some ⟨h1, 0, none⟩))] _) (q_nilCheck rfl)) ?_)
  refine l_step (s_qg rfl (ask_f rfl rfl) (b := (!(decide (0 ≠ 0)))) (fun hb => OpQ.env (.cons rfl (gd_t hb) (.nil _) : EnvLe [(30, .pointer (some ⟨h1, 0, none⟩))] _) (q_fieldp rfl fo_56_0)) ?_)
  refine l_step (s_qg rfl (ask_f rfl rfl) (b := (!(decide (0 ≠ 0)))) (fun hb => OpQ.env (.cons rfl (gd_t hb) (.nil _) : EnvLe [(31, .pointer (some ⟨h1, 0, none⟩))] _) (q_loadpa (vs := encState1 (⟨0, -1⟩ : State1)) ag_23 rfl pk_ rfl)) ?_)
  refine l_step (s_qg rfl (ask_f rfl rfl) (b := (!(decide (0 ≠ 0)))) (fun hb => q_build (cs := encState1 (⟨0, (-1)⟩ : State1)) zc_23 pl_23 rfl rfl) ?_)
  refine l_step (s_qg rfl (ask_f rfl rfl) (b := (!(decide (0 ≠ 0)))) (fun hb => OpQ.env (.cons rfl (gd_t hb) (.cons rfl (gd_t hb) (.nil _)) : EnvLe [(32, .agg (encState1 (⟨0, -1⟩ : State1)).toArray), (33, .agg (encState1 (⟨0, (-1)⟩ : State1)).toArray)] _) (q_neqst (offs := [0, 1]) (la := [(⟨0, -1⟩ : State1).Term, (⟨0, -1⟩ : State1).Vote]) (lb := [(⟨0, (-1)⟩ : State1).Term, (⟨0, (-1)⟩ : State1).Vote]) (by kernel_rfl) rfl rfl (by intro o ho; simp only [List.mem_cons, List.not_mem_nil, or_false] at ho; rcases ho with rfl | rfl <;> exact ⟨_, _, _, rfl, rfl⟩) rfl rfl)) ?_)
  refine e_q (q_pick_or rfl rfl rfl (fun h => by first | (rw [h]; rfl) | exact congrArg not h)) ?_
  refine l_n ?_
  refine c_sure false rfl (by rfl) ?_
  simp only [Bool.false_eq_true, if_true, if_false]
  refine c_skip ?_
  refine k_then_n ?_
  refine sr ?_
  refine e_mv rfl ?_
  refine e_q (q_build (cs := encState1 (⟨1, 2⟩ : State1)) zc_23 pl_23 rfl rfl) ?_
  refine e_fn Tryz.func15 rfl sl_ (fun ρ' hL => save_spec bD 1000 mbD (-1) [] h1 (⟨0, -1⟩ : State1) (⟨1, 2⟩ : State1) ρ' hG0.fok (by have h9 := hG0.usd; omega) (by omega) (by omega) (by have h9 := hG0.usd; omega)) ?_
  rintro _ _ ⟨T1, rfl, hvT1, rfl⟩
  try simp only [List.cons_append, List.nil_append]
  obtain ⟨kT11, hG1, kT13, kT14⟩ := save_fine hG0 (by decide) (by decide) (by decide) (by omega) hvT1
  rw [kT11, kT13, kT14]
  refine e_mv rfl ?_
  refine e_q (q_build (cs := encState1 (⟨1, 3⟩ : State1)) zc_23 pl_23 rfl rfl) ?_
  refine e_fn Tryz.func15 rfl sl_ (fun ρ' hL => save_spec bD 1000 mbD (-1) T1 h1 (⟨1, 2⟩ : State1) (⟨1, 3⟩ : State1) ρ' hG1.fok (by have h9 := hG1.usd; omega) (by omega) (by omega) (by have h9 := hG1.usd; omega)) ?_
  rintro _ _ ⟨T2, rfl, hvT2, rfl⟩
  try simp only [List.cons_append, List.nil_append]
  obtain ⟨kT21, hG2, kT23, kT24⟩ := save_not hG1 (by decide) hvT2
  rw [kT21, kT23, kT24]
  refine e_mv rfl ?_
  refine e_q (q_build (cs := encState1 (⟨0, (-1)⟩ : State1)) zc_23 pl_23 rfl rfl) ?_
  refine e_fn Tryz.func15 rfl sl_ (fun ρ' hL => save_spec bD 1000 mbD (-1) T2 h1 (⟨1, 2⟩ : State1) (⟨0, (-1)⟩ : State1) ρ' hG2.fok (by have h9 := hG2.usd; omega) (by omega) (by omega) (by have h9 := hG2.usd; omega)) ?_
  rintro _ _ ⟨T3, rfl, hvT3, rfl⟩
  try simp only [List.cons_append, List.nil_append]
  obtain ⟨kT31, hG3, kT33, kT34⟩ := save_not hG2 (by decide) hvT3
  rw [kT31, kT33, kT34]
  refine e_mv rfl ?_
  refine e_q (q_build (cs := encState1 (⟨2, (-1)⟩ : State1)) zc_23 pl_23 rfl rfl) ?_
  refine e_fn Tryz.func15 rfl sl_ (fun ρ' hL => save_spec bD 1000 mbD (-1) T3 h1 (⟨1, 2⟩ : State1) (⟨2, (-1)⟩ : State1) ρ' hG3.fok (by have h9 := hG3.usd; omega) (by omega) (by omega) (by have h9 := hG3.usd; omega)) ?_
  rintro _ _ ⟨T4, rfl, hvT4, rfl⟩
  try simp only [List.cons_append, List.nil_append]
  obtain ⟨kT41, hG4, kT43, kT44⟩ := save_fine hG3 (by decide) (by decide) (by decide) (by omega) hvT4
  rw [kT41, kT43, kT44]
  refine e_as rfl ?_
  refine e_as rfl ?_
  refine e_as rfl ?_
  refine e_as rfl ?_
  refine l_n ?_
  refine sr ?_
  refine e_mv rfl ?_
  refine e_q (q_build (cs := encState1 (⟨2, 0⟩ : State1)) zc_23 pl_23 rfl rfl) ?_
  refine e_fn Tryz.func15 rfl sl_ (fun ρ' hL => save_spec bD 1000 mbD (-1) T4 h1 (⟨2, (-1)⟩ : State1) (⟨2, 0⟩ : State1) ρ' hG4.fok (by have h9 := hG4.usd; omega) (by omega) (by omega) (by have h9 := hG4.usd; omega)) ?_
  rintro _ _ ⟨T5, rfl, hvT5, rfl⟩
  try simp only [List.cons_append, List.nil_append]
  obtain ⟨kT51, hG5, kT53, kT54⟩ := save_fine hG4 (by decide) (by decide) (by decide) (by omega) hvT5
  rw [kT51, kT53, kT54]
  refine e_as rfl ?_
  refine l_n ?_
  refine sr ?_
  refine e_mv rfl ?_
  refine e_fn Tryz.func16 rfl sl_ (fun ρ' hL => Go.Dsk.stop_spec bD 1000 mbD (-1) T5 1 ρ') ?_
  rintro _ _ ⟨rfl, rfl⟩
  try simp only [List.cons_append, List.nil_append]
  rw [show (if (-1 : Int) > 1 then (-1) else 1) = 1 from if_neg (by omega)]
  refine l_n ?_
  refine sr ?_
  refine e_mv rfl ?_
  refine e_q (q_build (cs := encState1 (⟨3, 0⟩ : State1)) zc_23 pl_23 rfl rfl) ?_
  refine e_fn Tryz.func15 rfl sl_ (fun ρ' hL => save_spec bD 1000 mbD 1 T5 h1 (⟨2, 0⟩ : State1) (⟨3, 0⟩ : State1) ρ' hG5.fok (by have h9 := hG5.usd; omega) (by omega) (by omega) (by have h9 := hG5.usd; omega)) ?_
  rintro _ _ ⟨T6, rfl, hvT6, rfl⟩
  try simp only [List.cons_append, List.nil_append]
  obtain ⟨kT61, hG6, kT63⟩ := save_stop hG5 (by decide) (by decide) (by decide) (by omega) (by omega) hvT6
  rw [kT61, kT63]
  generalize (saveP 1000 1 (vw T5) (⟨2, 0⟩ : State1) (⟨3, 0⟩ : State1)).2.2.1 = cT6
  refine e_as rfl ?_
  refine l_n ?_
  refine sr ?_
  refine e_mv rfl ?_
  refine e_fn Tryz.func18 rfl sl_ (fun ρ' hL => Go.Dsk.V.crash_spec bD 1000 mbD cT6 T6 none 0 0 [] rfl ρ' hG6.fok (SL.ro_nil encI 1 ρ')) ?_
  rintro _ _ ⟨T7, rfl, hvT7, rfl⟩
  try simp only [List.cons_append, List.nil_append]
  have hG7 := hG6.crash0 hvT7
  generalize (crR [] (vw T6)).2 = gT7
  refine l_n ?_
  refine sr ?_
  refine e_mv rfl ?_
  refine e_q (q_eql rfl rfl) ?_
  refine e_mv rfl ?_
  refine l_step (s_qg rfl (ask_t rfl rfl) (b := (decide (0 = 0))) (fun hb => q_move rfl) ?_)
  refine l_step (s_qg rfl (ask_t rfl rfl) (b := (decide (0 = 0))) (fun hb => OpQ.env (.cons rfl (gd_t hb) (.nil _) : EnvLe [(61, .int .i64 2)] _) (q_eql rfl rfl)) ?_)
  refine e_q (q_pick_and rfl rfl rfl (fun h => h)) ?_
  refine e_mv rfl ?_
  refine l_step (s_qg rfl (ask_t rfl rfl) (b := ((decide (0 = 0)) && (decide (2 = 2)))) (fun hb => q_move rfl) ?_)
  refine l_step (s_qg rfl (ask_t rfl rfl) (b := ((decide (0 = 0)) && (decide (2 = 2)))) (fun hb => OpQ.env (.cons rfl (gd_t hb) (.nil _) : EnvLe [(65, .int .i64 2)] _) (q_eql rfl rfl)) ?_)
  refine e_q (q_pick_and rfl rfl rfl (fun h => h)) ?_
  refine e_mv rfl ?_
  refine l_step (s_qg rfl (ask_t rfl rfl) (b := (((decide (0 = 0)) && (decide (2 = 2))) && (decide (2 = 2)))) (fun hb => q_move rfl) ?_)
  refine l_step (s_qg rfl (ask_t rfl rfl) (b := (((decide (0 = 0)) && (decide (2 = 2))) && (decide (2 = 2)))) (fun hb => OpQ.env (.cons rfl (gd_t hb) (.nil _) : EnvLe [(69, .int .i64 0)] _) (q_eql rfl rfl)) ?_)
  refine e_q (q_pick_and rfl rfl rfl (fun h => h)) ?_
  refine e_mv rfl ?_
  refine l_step (s_qg rfl (ask_t rfl rfl) (b := ((((decide (0 = 0)) && (decide (2 = 2))) && (decide (2 = 2))) && (decide (0 = 0)))) (fun hb => q_move rfl) ?_)
  refine l_step (s_qg rfl (ask_t rfl rfl) (b := ((((decide (0 = 0)) && (decide (2 = 2))) && (decide (2 = 2))) && (decide (0 = 0)))) (fun hb => OpQ.env (.cons rfl (gd_t hb) (.nil _) : EnvLe [(73, .int .i64 0)] _) (q_eql rfl rfl)) ?_)
  refine e_q (q_pick_and rfl rfl rfl (fun h => h)) ?_
  refine e_mv rfl ?_
  refine l_step (s_qg rfl (ask_t rfl rfl) (b := (((((decide (0 = 0)) && (decide (2 = 2))) && (decide (2 = 2))) && (decide (0 = 0))) && (decide (0 = 0)))) (fun hb => q_move rfl) ?_)
  refine l_step (s_qg rfl (ask_t rfl rfl) (b := (((((decide (0 = 0)) && (decide (2 = 2))) && (decide (2 = 2))) && (decide (0 = 0))) && (decide (0 = 0)))) (fun hb => OpQ.env (.cons rfl (gd_t hb) (.nil _) : EnvLe [(77, .int .i64 32)] _) (q_eql rfl rfl)) ?_)
  refine e_q (q_pick_and rfl rfl rfl (fun h => h)) ?_
  refine e_mv rfl ?_
  refine l_step (s_qg rfl (ask_t rfl rfl) (b := ((((((decide (0 = 0)) && (decide (2 = 2))) && (decide (2 = 2))) && (decide (0 = 0))) && (decide (0 = 0))) && (decide (32 = 32)))) (fun hb => q_move rfl) ?_)
  refine l_step (s_qg rfl (ask_t rfl rfl) (b := ((((((decide (0 = 0)) && (decide (2 = 2))) && (decide (2 = 2))) && (decide (0 = 0))) && (decide (0 = 0))) && (decide (32 = 32)))) (fun hb => OpQ.env (.cons rfl (gd_t hb) (.nil _) : EnvLe [(81, .pointer (some ⟨h1, 0, none⟩))] _) (q_nilCheck rfl)) ?_)
  refine l_step (s_qg rfl (ask_t rfl rfl) (b := ((((((decide (0 = 0)) && (decide (2 = 2))) && (decide (2 = 2))) && (decide (0 = 0))) && (decide (0 = 0))) && (decide (32 = 32)))) (fun hb => OpQ.env (.cons rfl (gd_t hb) (.nil _) : EnvLe [(82, .pointer (some ⟨h1, 0, none⟩))] _) (q_fieldp rfl fo_56_0)) ?_)
  refine l_step (s_qg rfl (ask_t rfl rfl) (b := ((((((decide (0 = 0)) && (decide (2 = 2))) && (decide (2 = 2))) && (decide (0 = 0))) && (decide (0 = 0))) && (decide (32 = 32)))) (fun hb => OpQ.env (.cons rfl (gd_t hb) (.nil _) : EnvLe [(83, .pointer (some ⟨h1, 0, none⟩))] _) (q_fieldp rfl fo_23_0)) ?_)
  refine l_step (s_qg rfl (ask_t rfl rfl) (b := ((((((decide (0 = 0)) && (decide (2 = 2))) && (decide (2 = 2))) && (decide (0 = 0))) && (decide (0 = 0))) && (decide (32 = 32)))) (fun hb => OpQ.env (.cons rfl (gd_t hb) (.nil _) : EnvLe [(84, .pointer (some ⟨h1, 0, none⟩))] _) (q_loadp (v := .int .i64 ((⟨2, 0⟩ : State1).Term)) sc_3 rfl pk_ rfl)) ?_)
  refine l_step (s_qg rfl (ask_t rfl rfl) (b := ((((((decide (0 = 0)) && (decide (2 = 2))) && (decide (2 = 2))) && (decide (0 = 0))) && (decide (0 = 0))) && (decide (32 = 32)))) (fun hb => OpQ.env (.cons rfl (gd_t hb) (.nil _) : EnvLe [(85, .int .i64 ((⟨2, 0⟩ : State1).Term))] _) (q_eql rfl rfl)) ?_)
  refine e_q (q_pick_and rfl rfl rfl (fun h => h)) ?_
  refine e_mv rfl ?_
  refine l_step (s_qg rfl (ask_t rfl rfl) (b := (((((((decide (0 = 0)) && (decide (2 = 2))) && (decide (2 = 2))) && (decide (0 = 0))) && (decide (0 = 0))) && (decide (32 = 32))) && (decide (((⟨2, 0⟩ : State1).Term) = 2)))) (fun hb => q_move rfl) ?_)
  refine l_step (s_qg rfl (ask_t rfl rfl) (b := (((((((decide (0 = 0)) && (decide (2 = 2))) && (decide (2 = 2))) && (decide (0 = 0))) && (decide (0 = 0))) && (decide (32 = 32))) && (decide (((⟨2, 0⟩ : State1).Term) = 2)))) (fun hb => OpQ.env (.cons rfl (gd_t hb) (.nil _) : EnvLe [(89, .pointer (some ⟨h1, 0, none⟩))] _) (q_nilCheck rfl)) ?_)
  refine l_step (s_qg rfl (ask_t rfl rfl) (b := (((((((decide (0 = 0)) && (decide (2 = 2))) && (decide (2 = 2))) && (decide (0 = 0))) && (decide (0 = 0))) && (decide (32 = 32))) && (decide (((⟨2, 0⟩ : State1).Term) = 2)))) (fun hb => OpQ.env (.cons rfl (gd_t hb) (.nil _) : EnvLe [(90, .pointer (some ⟨h1, 0, none⟩))] _) (q_fieldp rfl fo_56_0)) ?_)
  refine l_step (s_qg rfl (ask_t rfl rfl) (b := (((((((decide (0 = 0)) && (decide (2 = 2))) && (decide (2 = 2))) && (decide (0 = 0))) && (decide (0 = 0))) && (decide (32 = 32))) && (decide (((⟨2, 0⟩ : State1).Term) = 2)))) (fun hb => OpQ.env (.cons rfl (gd_t hb) (.nil _) : EnvLe [(91, .pointer (some ⟨h1, 0, none⟩))] _) (q_fieldp rfl fo_23_1)) ?_)
  refine l_step (s_qg rfl (ask_t rfl rfl) (b := (((((((decide (0 = 0)) && (decide (2 = 2))) && (decide (2 = 2))) && (decide (0 = 0))) && (decide (0 = 0))) && (decide (32 = 32))) && (decide (((⟨2, 0⟩ : State1).Term) = 2)))) (fun hb => OpQ.env (.cons rfl (gd_t hb) (.nil _) : EnvLe [(92, .pointer (some ⟨h1, 1, none⟩))] _) (q_loadp (v := .int .i64 ((⟨2, 0⟩ : State1).Vote)) sc_3 rfl pk_ rfl)) ?_)
  refine l_step (s_qg rfl (ask_t rfl rfl) (b := (((((((decide (0 = 0)) && (decide (2 = 2))) && (decide (2 = 2))) && (decide (0 = 0))) && (decide (0 = 0))) && (decide (32 = 32))) && (decide (((⟨2, 0⟩ : State1).Term) = 2)))) (fun hb => OpQ.env (.cons rfl (gd_t hb) (.nil _) : EnvLe [(93, .int .i64 ((⟨2, 0⟩ : State1).Vote))] _) (q_eql rfl rfl)) ?_)
  refine e_q (q_pick_and rfl rfl rfl (fun h => h)) ?_
  refine e_mv rfl ?_
  refine Tr.env (.cons (t := 96) (v := .bool true) rfl (congrArg Value.bool (by rfl)) (EnvLe.refl _)) ?_
  refine e_qw (wy rfl rfl rfl) (q_move rfl) ?_
  refine e_fnw (wy rfl rfl rfl) Tryz.func25 rfl sl_ (fun ρ' hL => on_spec bD 1000 mbD (-1) T7 ρ' hG7.fok) ?_
  rintro _ _ ⟨rfl, rfl⟩
  try simp only [List.cons_append, List.nil_append]
  rw [hG7.on]
  refine e_qw (wy rfl rfl rfl) (q_build (cs := encState1 (⟨2, 0⟩ : State1)) zc_23 pl_23 rfl rfl) ?_
  refine e_qw (wy rfl rfl rfl) (q_eqlst (offs := [0, 1]) (la := [(⟨2, 0⟩ : State1).Term, (⟨2, 0⟩ : State1).Vote]) (lb := [(⟨2, 0⟩ : State1).Term, (⟨2, 0⟩ : State1).Vote]) (by kernel_rfl) rfl rfl (by intro o ho; simp only [List.mem_cons, List.not_mem_nil, or_false] at ho; rcases ho with rfl | rfl <;> exact ⟨_, _, _, rfl, rfl⟩) rfl rfl) ?_
  refine e_q (q_pick rfl rfl rfl) ?_
  refine e_as rfl ?_
  refine l_n ?_
  refine c_ret ?_
  exact t_rt [] rfl (.tmp rfl .nil) rfl ⟨rfl, boole (by rfl), rfl⟩ (by (repeat refine Ent.skip ?_); exact Ent.refl _)

theorem rfollows_spec (s : State1) (e : State1) (ρ : Hp) : Spec0 Tryz.prog 10 #[.agg (encState1 s).toArray, .agg (encState1 e).toArray] ρ [] (fun v Γ' => v = .bool ((folL s [e])) ∧ Γ' = []) := by
  refine spec_of (n := 37) (vs := [_, _]) (σ := [(0, _), (1, _)]) Tryz.func10 rfl rfl rfl rfl fun E Δ => ?_
  rw [List.nil_append]
  refine sr ?_
  refine e_s (s_box (cs := encState1 s) rfl rfl) ?_
  rintro _ _ ⟨b2, rfl, rfl⟩
  refine e_s (s_box (cs := encState1 e) rfl rfl) ?_
  rintro _ _ ⟨b3, rfl, rfl⟩
  refine e_as rfl ?_
  refine l_n ?_
  refine c_seq ?_
  refine sr ?_
  refine e_q (q_fieldp rfl fo_23_0) ?_
  refine e_q (q_loadp (v := .int .i64 s.Term) sc_3 rfl pk_ rfl) ?_
  refine e_q (q_lss rfl rfl) ?_
  refine e_mv rfl ?_
  refine l_step (s_qg rfl (ask_f rfl rfl) (b := (!(decide (s.Term < 0)))) (fun hb => q_fieldp rfl fo_23_1) ?_)
  refine l_step (s_qg rfl (ask_f rfl rfl) (b := (!(decide (s.Term < 0)))) (fun hb => OpQ.env (.cons rfl (gd_t hb) (.nil _) : EnvLe [(9, .pointer (some ⟨b2, 1, none⟩))] _) (q_loadp (v := .int .i64 s.Vote) sc_3 rfl pk_ rfl)) ?_)
  refine l_step (s_qg rfl (ask_f rfl rfl) (b := (!(decide (s.Term < 0)))) (fun hb => OpQ.env (.cons rfl (gd_t hb) (.nil _) : EnvLe [(10, .int .i64 s.Vote)] _) (q_lss rfl rfl)) ?_)
  refine e_q (q_pick_or rfl rfl rfl (fun h => by first | (rw [h]; rfl) | exact congrArg not h)) ?_
  refine l_n ?_
  refine c_cond rfl (fun h0 => ?_) (fun h0 => ?_)
  · try simp only [decide_eq_true_eq, decide_eq_false_iff_not, Bool.or_eq_true, Bool.or_eq_false_iff] at h0
    have hr : folL s [e] = false := fol_no (by omega)
    refine sr ?_
    refine e_as rfl ?_
    refine l_n ?_
    refine c_ret ?_
    refine k_then_r ?_
    rw [hr]
    exact t_rt [] rfl (.tmp rfl .nil) rfl ⟨rfl, rfl, rfl⟩ (by (repeat refine Ent.skip ?_); exact Ent.refl _)
  · try simp only [decide_eq_true_eq, decide_eq_false_iff_not, Bool.or_eq_true, Bool.or_eq_false_iff] at h0
    have hr : folL s [e] = folB s e := by rw [fol_yes (by omega)]; simp
    refine c_skip ?_
    refine k_then_n ?_
    refine sr ?_
    refine e_q (q_fieldp rfl fo_23_0) ?_
    refine e_q (q_loadp (v := .int .i64 s.Term) sc_3 rfl pk_ rfl) ?_
    refine e_q (q_fieldp rfl fo_23_0) ?_
    refine e_q (q_loadp (v := .int .i64 e.Term) sc_3 rfl pk_ rfl) ?_
    refine e_q (q_gtr rfl rfl) ?_
    refine e_mv rfl ?_
    refine l_step (s_qg rfl (ask_f rfl rfl) (b := (!(decide (e.Term < s.Term)))) (fun hb => q_fieldp rfl fo_23_0) ?_)
    refine l_step (s_qg rfl (ask_f rfl rfl) (b := (!(decide (e.Term < s.Term)))) (fun hb => OpQ.env (.cons rfl (gd_t hb) (.nil _) : EnvLe [(19, .pointer (some ⟨b2, 0, none⟩))] _) (q_loadp (v := .int .i64 s.Term) sc_3 rfl pk_ rfl)) ?_)
    refine l_step (s_qg rfl (ask_f rfl rfl) (b := (!(decide (e.Term < s.Term)))) (fun hb => q_fieldp rfl fo_23_0) ?_)
    refine l_step (s_qg rfl (ask_f rfl rfl) (b := (!(decide (e.Term < s.Term)))) (fun hb => OpQ.env (.cons rfl (gd_t hb) (.nil _) : EnvLe [(21, .pointer (some ⟨b3, 0, none⟩))] _) (q_loadp (v := .int .i64 e.Term) sc_3 rfl pk_ rfl)) ?_)
    refine l_step (s_qg rfl (ask_f rfl rfl) (b := (!(decide (e.Term < s.Term)))) (fun hb => OpQ.env (.cons rfl (gd_t hb) (.cons rfl (gd_t hb) (.nil _)) : EnvLe [(20, .int .i64 s.Term), (22, .int .i64 e.Term)] _) (q_eql rfl rfl)) ?_)
    refine l_step (s_qg rfl (ask_f rfl rfl) (b := (!(decide (e.Term < s.Term)))) (fun hb => OpQ.env (.cons rfl (gd_t hb) (.nil _) : EnvLe [(23, .bool (decide (s.Term = e.Term)))] _) (q_move rfl)) ?_)
    refine l_step (s_qg rfl (ask_gt rfl rfl) (b := ((!(decide (e.Term < s.Term))) && (decide (s.Term = e.Term)))) (fun hb => q_fieldp rfl fo_23_1) ?_)
    refine l_step (s_qg rfl (ask_gt rfl rfl) (b := ((!(decide (e.Term < s.Term))) && (decide (s.Term = e.Term)))) (fun hb => OpQ.env (.cons rfl (gd_t hb) (.nil _) : EnvLe [(25, .pointer (some ⟨b2, 1, none⟩))] _) (q_loadp (v := .int .i64 s.Vote) sc_3 rfl pk_ rfl)) ?_)
    refine l_step (s_qg rfl (ask_gt rfl rfl) (b := ((!(decide (e.Term < s.Term))) && (decide (s.Term = e.Term)))) (fun hb => q_fieldp rfl fo_23_1) ?_)
    refine l_step (s_qg rfl (ask_gt rfl rfl) (b := ((!(decide (e.Term < s.Term))) && (decide (s.Term = e.Term)))) (fun hb => OpQ.env (.cons rfl (gd_t hb) (.nil _) : EnvLe [(27, .pointer (some ⟨b3, 1, none⟩))] _) (q_loadp (v := .int .i64 e.Vote) sc_3 rfl pk_ rfl)) ?_)
    refine l_step (s_qg rfl (ask_gt rfl rfl) (b := ((!(decide (e.Term < s.Term))) && (decide (s.Term = e.Term)))) (fun hb => OpQ.env (.cons rfl (gd_t hb) (.cons rfl (gd_t hb) (.nil _)) : EnvLe [(26, .int .i64 s.Vote), (28, .int .i64 e.Vote)] _) (q_eql rfl rfl)) ?_)
    refine l_step (s_qg rfl (ask_gt rfl rfl) (b := ((!(decide (e.Term < s.Term))) && (decide (s.Term = e.Term)))) (fun hb => OpQ.env (.cons rfl (gd_t hb) (.nil _) : EnvLe [(29, .bool (decide (s.Vote = e.Vote)))] _) (q_move rfl)) ?_)
    refine l_step (s_qg rfl (ask_gf rfl rfl) (b := (((!(decide (e.Term < s.Term))) && (decide (s.Term = e.Term))) && !(decide (s.Vote = e.Vote)))) (fun hb => q_fieldp rfl fo_23_1) ?_)
    refine l_step (s_qg rfl (ask_gf rfl rfl) (b := (((!(decide (e.Term < s.Term))) && (decide (s.Term = e.Term))) && !(decide (s.Vote = e.Vote)))) (fun hb => OpQ.env (.cons rfl (gd_t hb) (.nil _) : EnvLe [(31, .pointer (some ⟨b3, 1, none⟩))] _) (q_loadp (v := .int .i64 e.Vote) sc_3 rfl pk_ rfl)) ?_)
    refine l_step (s_qg rfl (ask_gf rfl rfl) (b := (((!(decide (e.Term < s.Term))) && (decide (s.Term = e.Term))) && !(decide (s.Vote = e.Vote)))) (fun hb => OpQ.env (.cons rfl (gd_t hb) (.nil _) : EnvLe [(32, .int .i64 e.Vote)] _) (q_eql rfl rfl)) ?_)
    refine l_step (s_qg rfl (ask_gt rfl rfl) (b := ((!(decide (e.Term < s.Term))) && (decide (s.Term = e.Term)))) (fun hb => OpQ.env (.cons rfl (gd_t hb) (.cons rfl rfl (.nil _)) : EnvLe [(30, .bool (decide (s.Vote = e.Vote))), (33, gd (((!(decide (e.Term < s.Term))) && (decide (s.Term = e.Term))) && !(decide (s.Vote = e.Vote))) (.bool (decide (e.Vote = (-1)))))] _) (q_pick_or rfl rfl rfl (fun h => by simp_all))) ?_)
    refine l_step (s_qg rfl (ask_f rfl rfl) (b := (!(decide (e.Term < s.Term)))) (fun hb => OpQ.env (.cons rfl (gd_t hb) (.cons rfl rfl (.nil _)) : EnvLe [(24, .bool (decide (s.Term = e.Term))), (34, gd ((!(decide (e.Term < s.Term))) && (decide (s.Term = e.Term))) (.bool ((decide (s.Vote = e.Vote)) || (decide (e.Vote = (-1))))))] _) (q_pick_and rfl rfl rfl (fun h => by simp_all))) ?_)
    refine e_q (q_pick_or rfl rfl rfl (fun h => by first | (rw [h]; rfl) | exact congrArg not h)) ?_
    refine e_as rfl ?_
    refine l_n ?_
    refine c_ret ?_
    rw [hr]
    exact t_rt [] rfl (.tmp rfl .nil) rfl ⟨rfl, boole rfol, rfl⟩ (by (repeat refine Ent.skip ?_); exact Ent.refl _)

theorem lfollows_spec (s : State1) (a : State1) (b : State1) (ρ : Hp) : Spec0 Tryz.prog 3 #[.agg (encState1 s).toArray, .agg (encState1 a).toArray, .agg (encState1 b).toArray] ρ [] (fun v Γ' => v = .bool (true) ∧ Γ' = []) := by
  refine spec_of (n := 48) (vs := [_, _, _]) (σ := [(0, _), (1, _), (2, _)]) Tryz.func3 rfl rfl rfl rfl fun E Δ => ?_
  rw [List.nil_append]
  refine sr ?_
  refine e_s (s_box (cs := encState1 s) rfl rfl) ?_
  rintro _ _ ⟨b3, rfl, rfl⟩
  refine e_s (s_box (cs := encState1 a) rfl rfl) ?_
  rintro _ _ ⟨b4, rfl, rfl⟩
  refine e_s (s_box (cs := encState1 b) rfl rfl) ?_
  rintro _ _ ⟨b5, rfl, rfl⟩
  refine e_as rfl ?_
  refine l_n ?_
  refine c_seq ?_
  refine sr ?_
  refine l_step (s_fnq rfl wn Tryz.func9 rfl (by kernel_rfl) rfl (fun ρ' hL => awake_spec ρ') ?_)
  refine e_q (q_not rfl) ?_
  refine l_n ?_
  refine c_sure false rfl (by rfl) ?_
  simp only [Bool.false_eq_true, if_true, if_false]
  refine c_skip ?_
  refine k_then_n ?_
  refine c_seq ?_
  refine d_r 8 [.pts b5 (encState1 b) 23, .pts b4 (encState1 a) 23, .pts b3 (encState1 s) 23] ?_
  refine d_t 0 rfl wn (q_loadpa (vs := encState1 s) ag_23 rfl pk_ rfl) ?_
  refine d_t 1 rfl wn (q_loadpa (vs := encState1 a) ag_23 rfl pk_ rfl) ?_
  refine d_t 3 rfl wn (q_loadpa (vs := encState1 s) ag_23 rfl pk_ rfl) ?_
  refine d_t 4 rfl wn (q_loadpa (vs := encState1 b) ag_23 rfl pk_ rfl) ?_
  refine d_1 2 ?_
  refine o_step rfl (s_fnq rfl wn Tryz.func10 rfl (by kernel_rfl) rfl (fun ρ' hL => rfollows_spec s a ρ') ?_)
  refine d_c ?_
  refine d_1 5 ?_
  refine o_step rfl (s_fnq rfl wn Tryz.func10 rfl (by kernel_rfl) rfl (fun ρ' hL => rfollows_spec s b ρ') ?_)
  refine d_c ?_
  refine d_t 6 rfl wn (q_assign rfl) ?_
  refine d_t 7 rfl wn (q_assign rfl) ?_
  refine d_d ?_
  refine k_then_n ?_
  refine c_seq ?_
  refine d_r 32 [.pts b5 (encState1 b) 23, .pts b4 (encState1 a) 23, .pts b3 (encState1 s) 23] ?_
  refine d_t 0 rfl wn (q_loadpa (vs := encState1 s) ag_23 rfl pk_ rfl) ?_
  refine d_t 1 rfl wn (q_loadpa (vs := encState1 a) ag_23 rfl pk_ rfl) ?_
  refine d_t 4 rfl wn (q_move rfl) ?_
  refine d_1 2 ?_
  refine o_step rfl (s_s rfl wn (s_buildSlice (cs := ([a] : List State1).flatMap encState1) Tryz.underlying59 eo_23 rfl rfl rfl rfl (by decide) (by decide)) ?_)
  rintro _ _ ⟨b19, rfl, rfl⟩
  refine d_c ?_
  refine d_1 3 ?_
  refine o_step rfl (s_fnq rfl wn Tryz.func11 rfl (by kernel_rfl) rfl (fun ρ' hL => Go.Hrd.follows_spec s (some ⟨b19, 0, none⟩) 1 1 [a] rfl ρ' (hL.row pk_)) ?_)
  refine d_c ?_
  refine d_t 5 rfl wn (q_eqlb rfl rfl Tryz.underlying4) ?_
  refine d_t 6 rfl wn (q_move rfl) ?_
  refine Tr.env (.cons (t := 23) (v := .bool true) rfl (congrArg Value.bool (by simp)) (EnvLe.refl _)) ?_
  refine d_t 7 rfl (wy rfl rfl rfl) (q_loadpa (vs := encState1 s) ag_23 rfl pk_ rfl) ?_
  refine d_t 8 rfl (wy rfl rfl rfl) (q_loadpa (vs := encState1 a) ag_23 rfl pk_ rfl) ?_
  refine d_t 9 rfl (wy rfl rfl rfl) (q_loadpa (vs := encState1 b) ag_23 rfl pk_ rfl) ?_
  refine d_t 12 rfl (wy rfl rfl rfl) (q_move rfl) ?_
  refine d_1 10 ?_
  refine o_step rfl (s_s rfl (wy rfl rfl rfl) (s_buildSlice (cs := ([a, b] : List State1).flatMap encState1) Tryz.underlying59 eo_23 rfl rfl rfl rfl (by decide) (by decide)) ?_)
  rintro _ _ ⟨b27, rfl, rfl⟩
  refine d_c ?_
  refine d_1 11 ?_
  refine o_step rfl (s_fnq rfl (wy rfl rfl rfl) Tryz.func11 rfl (by kernel_rfl) rfl (fun ρ' hL => Go.Hrd.follows_spec s (some ⟨b27, 0, none⟩) 2 2 [a, b] rfl ρ' (hL.row pk_)) ?_)
  refine d_c ?_
  refine d_t 13 rfl (wy rfl rfl rfl) (q_move rfl) ?_
  refine d_g 14 ((folL s [a])) rfl (ask_t rfl rfl) (fun hb => q_move rfl) ?_
  refine d_t 15 rfl (wy rfl rfl rfl) (q_pick_and rfl rfl rfl (fun h => h)) ?_
  refine d_t 16 rfl (wy rfl rfl rfl) (q_eqlb rfl rfl Tryz.underlying4) ?_
  refine d_t 17 rfl wn (q_pick rfl rfl rfl) ?_
  refine d_t 18 rfl wn (q_move rfl) ?_
  refine d_g 19 (((folL s [a, b]) == ((folL s [a]) && (folL s [b])))) rfl (ask_t rfl rfl) (fun hb => q_loadpa (vs := encState1 s) ag_23 rfl pk_ rfl) ?_
  refine d_g 21 (((folL s [a, b]) == ((folL s [a]) && (folL s [b])))) rfl (ask_t rfl rfl) (fun hb => q_fieldp rfl fo_23_0) ?_
  refine d_g 22 (((folL s [a, b]) == ((folL s [a]) && (folL s [b])))) rfl (ask_t rfl rfl) (fun hb => OpQ.env (.cons rfl (gd_t hb) (.nil _) : EnvLe [(38, .pointer (some ⟨b3, 0, none⟩))] _) (q_loadp (v := .int .i64 s.Term) sc_3 rfl pk_ rfl)) ?_
  refine d_g 23 (((folL s [a, b]) == ((folL s [a]) && (folL s [b])))) rfl (ask_t rfl rfl) (fun hb => OpQ.env (.cons rfl (gd_t hb) (.nil _) : EnvLe [(39, .int .i64 s.Term)] _) (q_geq rfl rfl)) ?_
  refine d_1 20 ?_
  refine o_step rfl (s_fnqg (b := ((folL s [a, b]) == ((folL s [a]) && (folL s [b])))) rfl (ask_t rfl rfl) Tryz.func11 rfl (by kernel_rfl) (fun hb => (.cons rfl (gd_t hb) (.nil _) : EnvLe [(36, .agg (encState1 s).toArray)] _)) rfl (fun hb ρ' hL => Go.Hrd.follows_spec s none 0 0 [] rfl ρ' (SL.ro_nil encState1 2 ρ')) ?_)
  refine d_c ?_
  refine d_g 24 (((folL s [a, b]) == ((folL s [a]) && (folL s [b])))) rfl (ask_t rfl rfl) (fun hb => OpQ.env (.cons rfl (gd_t hb) (.nil _) : EnvLe [(40, .bool (decide (0 ≤ s.Term)))] _) (q_move rfl)) ?_
  refine d_g 25 ((((folL s [a, b]) == ((folL s [a]) && (folL s [b]))) && (decide (0 ≤ s.Term)))) rfl (ask_gt rfl rfl) (fun hb => q_fieldp rfl fo_23_1) ?_
  refine d_g 26 ((((folL s [a, b]) == ((folL s [a]) && (folL s [b]))) && (decide (0 ≤ s.Term)))) rfl (ask_gt rfl rfl) (fun hb => OpQ.env (.cons rfl (gd_t hb) (.nil _) : EnvLe [(42, .pointer (some ⟨b3, 1, none⟩))] _) (q_loadp (v := .int .i64 s.Vote) sc_3 rfl pk_ rfl)) ?_
  refine d_g 27 ((((folL s [a, b]) == ((folL s [a]) && (folL s [b]))) && (decide (0 ≤ s.Term)))) rfl (ask_gt rfl rfl) (fun hb => OpQ.env (.cons rfl (gd_t hb) (.nil _) : EnvLe [(43, .int .i64 s.Vote)] _) (q_geq rfl rfl)) ?_
  refine d_g 28 (((folL s [a, b]) == ((folL s [a]) && (folL s [b])))) rfl (ask_t rfl rfl) (fun hb => OpQ.env (.cons rfl (gd_t hb) (.cons rfl rfl (.nil _)) : EnvLe [(41, .bool (decide (0 ≤ s.Term))), (44, gd (((folL s [a, b]) == ((folL s [a]) && (folL s [b]))) && (decide (0 ≤ s.Term))) (.bool (decide ((-1) ≤ s.Vote))))] _) (q_pick_and rfl rfl rfl (fun h => by simp_all))) ?_
  refine d_g 29 (((folL s [a, b]) == ((folL s [a]) && (folL s [b])))) rfl (ask_t rfl rfl) (fun hb => OpQ.env (.cons rfl (gd_t hb) (.cons rfl (gd_t hb) (.nil _)) : EnvLe [(37, .bool (folL s [])), (45, .bool ((decide (0 ≤ s.Term)) && (decide ((-1) ≤ s.Vote))))] _) (q_eqlb rfl rfl Tryz.underlying4)) ?_
  refine d_t 30 rfl wn (q_pick_and rfl rfl rfl (fun h => h)) ?_
  refine d_t 31 rfl wn (q_assign rfl) ?_
  refine d_d ?_
  refine k_then_n ?_
  refine c_ret ?_
  exact t_rt [] rfl (.tmp rfl .nil) rfl ⟨rfl, boole (by rw [fol_two, fol_nil]; simp), rfl⟩ (by (repeat refine Ent.skip ?_); exact Ent.refl _)

theorem once_spec (term : Int) (vote : Int) (other : Int) (ρ : Hp) : Spec0 Tryz.prog 6 #[.int .i64 term, .int .i64 vote, .int .i64 other] ρ [] (fun v Γ' => v = .bool (true) ∧ Γ' = []) := by
  refine spec_of (n := 129) (vs := [_, _, _]) (σ := [(0, _), (1, _), (2, _)]) Tryz.func6 rfl rfl rfl rfl fun E Δ => ?_
  rw [List.nil_append]
  refine sr ?_
  refine e_as rfl ?_
  refine l_n ?_
  refine c_seq ?_
  refine sr ?_
  refine l_step (s_fnq rfl wn Tryz.func9 rfl (by kernel_rfl) rfl (fun ρ' hL => awake_spec ρ') ?_)
  refine e_q (q_not rfl) ?_
  refine l_n ?_
  refine c_sure false rfl (by rfl) ?_
  simp only [Bool.false_eq_true, if_true, if_false]
  refine c_skip ?_
  refine k_then_n ?_
  refine sr ?_
  have m1 := Int.tmod_lt_of_pos term (show (0 : Int) < 1000 by decide)
  have m2 := Int.lt_tmod_of_pos term (show (0 : Int) < 1000 by decide)
  have m3 := Int.tmod_lt_of_pos vote (show (0 : Int) < 9 by decide)
  have m4 := Int.lt_tmod_of_pos vote (show (0 : Int) < 9 by decide)
  have m5 := Int.tmod_lt_of_pos other (show (0 : Int) < 9 by decide)
  have m6 := Int.lt_tmod_of_pos other (show (0 : Int) < 9 by decide)
  refine e_mv rfl ?_
  refine e_q (q_rem rfl rfl (by omega)) ?_
  refine e_q (q_add rfl rfl (by omega) (by omega)) ?_
  refine e_q (q_remp rfl rfl (by omega) (by omega)) ?_
  refine e_mv rfl ?_
  refine e_q (q_rem rfl rfl (by omega)) ?_
  refine e_q (q_add rfl rfl (by omega) (by omega)) ?_
  refine e_q (q_remp rfl rfl (by omega) (by omega)) ?_
  refine e_mv rfl ?_
  refine e_q (q_rem rfl rfl (by omega)) ?_
  refine e_q (q_add rfl rfl (by omega) (by omega)) ?_
  refine e_q (q_remp rfl rfl (by omega) (by omega)) ?_
  refine e_as rfl ?_
  refine e_as rfl ?_
  refine e_as rfl ?_
  refine l_n ?_
  refine sr ?_
  have ht0 : 0 ≤ ((term.tmod 1000) + 1000) % 1000 := by omega
  have ht1 : ((term.tmod 1000) + 1000) % 1000 < 1000 := by omega
  have hu0 : 0 ≤ ((vote.tmod 9) + 9) % 9 := by omega
  have hu1 : ((vote.tmod 9) + 9) % 9 < 9 := by omega
  have hw0 : 0 ≤ ((other.tmod 9) + 9) % 9 := by omega
  have hw1 : ((other.tmod 9) + 9) % 9 < 9 := by omega
  generalize ((term.tmod 1000) + 1000) % 1000 = t at *
  generalize ((vote.tmod 9) + 9) % 9 = u at *
  generalize ((other.tmod 9) + 9) % 9 = w at *
  refine e_fn Tryz.func12 rfl sl_ (fun ρ' hL => made_spec 500 ρ' (by omega)) ?_
  rintro _ _ ⟨bD, mbD, rD, rfl, rfl⟩
  try simp only [List.cons_append, List.nil_append]
  have hG0 : Gd (vw []) ⟨0, -1⟩ 0 n0 := gd_nil
  refine e_mv rfl ?_
  refine e_q (q_extract rfl rfl) ?_
  refine e_q (q_extract rfl rfl) ?_
  refine e_as rfl ?_
  refine e_as rfl ?_
  refine l_n ?_
  refine c_seq ?_
  refine sr ?_
  refine e_mv rfl ?_
  refine e_q (by first | exact q_eqlp rfl rfl Tryz.underlying29 | exact q_eqlp0 rfl rfl Tryz.underlying29) ?_
  refine l_n ?_
  refine c_sure false rfl (by rfl) ?_
  simp only [Bool.false_eq_true, if_true, if_false]
  refine c_skip ?_
  refine k_then_n ?_
  refine sr ?_
  refine e_mv rfl ?_
  refine e_fn Tryz.func13 rfl sl_ (fun ρ' hL => open__spec bD 500 mbD (-1) [] ρ' hG0.fok) ?_
  rintro _ _ ⟨h1, rfl, rfl⟩
  try simp only [List.cons_append, List.nil_append]
  rw [hG0.on]
  refine e_mv rfl ?_
  refine e_q (q_extract rfl rfl) ?_
  refine e_q (q_extract rfl rfl) ?_
  refine e_as rfl ?_
  refine e_as rfl ?_
  refine l_n ?_
  refine c_seq ?_
  refine sr ?_
  refine e_mv rfl ?_
  refine e_q (by first | exact q_eqlp rfl rfl Tryz.underlying33 | exact q_eqlp0 rfl rfl Tryz.underlying33) ?_
  refine e_mv rfl ?_
  refine e_qw (wy rfl rfl rfl) (q_move rfl) ?_
  refine e_qw (wy rfl rfl rfl) (q_move rfl) ?_
  refine e_qw (wy rfl rfl rfl) (q_move rfl) ?_
  refine e_qw (wy rfl rfl rfl) (q_build (cs := encState1 (⟨t, u⟩ : State1)) zc_23 pl_23 rfl rfl) ?_
  refine e_fnw (wy rfl rfl rfl) Tryz.func15 rfl sl_ (fun ρ' hL => save_spec bD 500 mbD (-1) [] h1 (⟨0, -1⟩ : State1) (⟨t, u⟩ : State1) ρ' hG0.fok (by have h9 := hG0.usd; omega) (by omega) (by omega) (by have h9 := hG0.usd; omega)) ?_
  rintro _ _ ⟨T1, rfl, hvT1, rfl⟩
  try simp only [List.cons_append, List.nil_append]
  obtain ⟨kT11, hG1, kT13, kT14⟩ := save_fine hG0 (by decide) (bad_mk (by (try simp only []); omega) (by (try simp only []); omega) (fol_iff.2 ⟨by (try simp only []); omega, fun e => by first | exact .inr rfl | (simp only [] at e; omega)⟩) (by (try simp only []); omega) (by (try simp only []); omega)) (fun e => by have h9 := congrArg State1.Vote e; simp only [] at h9; omega) (by omega) hvT1
  rw [kT11, kT13, kT14]
  refine e_qw (wy rfl rfl rfl) (q_neq rfl rfl) ?_
  refine e_q (q_pick rfl rfl rfl) ?_
  refine l_n ?_
  refine c_sure false rfl (by rfl) ?_
  simp only [Bool.false_eq_true, if_true, if_false]
  refine c_skip ?_
  refine k_then_n ?_
  refine sr ?_
  refine e_mv rfl ?_
  refine e_mv rfl ?_
  refine e_mv rfl ?_
  refine e_q (q_build (cs := encState1 (⟨t, w⟩ : State1)) zc_23 pl_23 rfl rfl) ?_
  refine e_fn Tryz.func15 rfl sl_ (fun ρ' hL => save_spec bD 500 mbD (-1) T1 h1 (⟨t, u⟩ : State1) (⟨t, w⟩ : State1) ρ' hG1.fok (by have h9 := hG1.usd; omega) (by omega) (by omega) (by have h9 := hG1.usd; omega)) ?_
  rintro _ _ ⟨T2, rfl, hvT2, rfl⟩
  try simp only [List.cons_append, List.nil_append]
  obtain ⟨kT21, hG2, kT23, kT24⟩ := save_again hG1 ⟨ht0, ht1⟩ ⟨hu0, hu1⟩ ⟨hw0, hw1⟩ hvT2
  rw [kT21, kT23, kT24]
  refine e_as rfl ?_
  refine l_n ?_
  refine sr ?_
  refine e_mv rfl ?_
  refine e_fn Tryz.func18 rfl sl_ (fun ρ' hL => Go.Dsk.V.crash_spec bD 500 mbD (-1) T2 none 0 0 [] rfl ρ' hG2.fok (SL.ro_nil encI 1 ρ')) ?_
  rintro _ _ ⟨T3, rfl, hvT3, rfl⟩
  try simp only [List.cons_append, List.nil_append]
  have hG3 := hG2.crash hvT3
  generalize (crR [] (vw T2)).2 = gT3
  refine l_n ?_
  refine sr ?_
  refine e_mv rfl ?_
  refine e_fn Tryz.func13 rfl sl_ (fun ρ' hL => open__spec bD 500 mbD (-1) T3 ρ' hG3.fok) ?_
  rintro _ _ ⟨h2, rfl, rfl⟩
  try simp only [List.cons_append, List.nil_append]
  rw [hG3.on]
  refine e_mv rfl ?_
  refine e_q (q_extract rfl rfl) ?_
  refine e_q (q_extract rfl rfl) ?_
  refine e_as rfl ?_
  refine e_as rfl ?_
  refine l_n ?_
  refine c_seq ?_
  refine sr ?_
  refine e_mv rfl ?_
  refine e_q (by first | exact q_eqlp rfl rfl Tryz.underlying33 | exact q_eqlp0 rfl rfl Tryz.underlying33) ?_
  refine e_mv rfl ?_
  refine e_qw (wy rfl rfl rfl) (q_move rfl) ?_
  refine e_qw (wy rfl rfl rfl) (q_nilCheck rfl) ?_
  refine e_qw (wy rfl rfl rfl) (q_fieldp rfl fo_56_0) ?_
  refine e_qw (wy rfl rfl rfl) (q_fieldp rfl fo_23_0) ?_
  refine e_qw (wy rfl rfl rfl) (q_loadp (v := .int .i64 ((⟨t, u⟩ : State1).Term)) sc_3 rfl pk_ rfl) ?_
  refine e_qw (wy rfl rfl rfl) (q_move rfl) ?_
  refine e_qw (wy rfl rfl rfl) (q_neq rfl rfl) ?_
  refine e_q (q_pick rfl rfl rfl) ?_
  refine e_mv rfl ?_
  refine l_step (s_qg rfl (ask_f rfl rfl) (b := (!(decide (((⟨t, u⟩ : State1).Term) ≠ t)))) (fun hb => q_move rfl) ?_)
  refine l_step (s_qg rfl (ask_f rfl rfl) (b := (!(decide (((⟨t, u⟩ : State1).Term) ≠ t)))) (fun hb => OpQ.env (.cons rfl (gd_t hb) (.nil _) : EnvLe [(78, .pointer (some ⟨h2, 0, none⟩))] _) (q_nilCheck rfl)) ?_)
  refine l_step (s_qg rfl (ask_f rfl rfl) (b := (!(decide (((⟨t, u⟩ : State1).Term) ≠ t)))) (fun hb => OpQ.env (.cons rfl (gd_t hb) (.nil _) : EnvLe [(79, .pointer (some ⟨h2, 0, none⟩))] _) (q_fieldp rfl fo_56_0)) ?_)
  refine l_step (s_qg rfl (ask_f rfl rfl) (b := (!(decide (((⟨t, u⟩ : State1).Term) ≠ t)))) (fun hb => OpQ.env (.cons rfl (gd_t hb) (.nil _) : EnvLe [(80, .pointer (some ⟨h2, 0, none⟩))] _) (q_fieldp rfl fo_23_1)) ?_)
  refine l_step (s_qg rfl (ask_f rfl rfl) (b := (!(decide (((⟨t, u⟩ : State1).Term) ≠ t)))) (fun hb => OpQ.env (.cons rfl (gd_t hb) (.nil _) : EnvLe [(81, .pointer (some ⟨h2, 1, none⟩))] _) (q_loadp (v := .int .i64 ((⟨t, u⟩ : State1).Vote)) sc_3 rfl pk_ rfl)) ?_)
  refine l_step (s_qg rfl (ask_f rfl rfl) (b := (!(decide (((⟨t, u⟩ : State1).Term) ≠ t)))) (fun hb => q_move rfl) ?_)
  refine l_step (s_qg rfl (ask_f rfl rfl) (b := (!(decide (((⟨t, u⟩ : State1).Term) ≠ t)))) (fun hb => OpQ.env (.cons rfl (gd_t hb) (.cons rfl (gd_t hb) (.nil _)) : EnvLe [(82, .int .i64 ((⟨t, u⟩ : State1).Vote)), (83, .int .i64 u)] _) (q_neq rfl rfl)) ?_)
  refine e_q (q_pick_or rfl rfl rfl (fun h => by first | (rw [h]; rfl) | exact congrArg not h)) ?_
  refine l_n ?_
  refine c_sure false rfl (by simp) ?_
  simp only [Bool.false_eq_true, if_true, if_false]
  refine c_skip ?_
  refine k_then_n ?_
  refine sr ?_
  refine e_mv rfl ?_
  refine e_mv rfl ?_
  refine e_mv rfl ?_
  refine e_q (q_build (cs := encState1 (⟨t, w⟩ : State1)) zc_23 pl_23 rfl rfl) ?_
  refine e_fn Tryz.func15 rfl sl_ (fun ρ' hL => save_spec bD 500 mbD (-1) T3 h2 (⟨t, u⟩ : State1) (⟨t, w⟩ : State1) ρ' hG3.fok (by have h9 := hG3.usd; omega) (by omega) (by omega) (by have h9 := hG3.usd; omega)) ?_
  rintro _ _ ⟨T4, rfl, hvT4, rfl⟩
  try simp only [List.cons_append, List.nil_append]
  obtain ⟨kT41, hG4, kT43, kT44⟩ := save_again hG3 ⟨ht0, ht1⟩ ⟨hu0, hu1⟩ ⟨hw0, hw1⟩ hvT4
  rw [kT41, kT43, kT44]
  refine e_as rfl ?_
  refine l_n ?_
  refine sr ?_
  refine e_mv rfl ?_
  refine e_mv rfl ?_
  refine e_q (q_add rfl rfl (by omega) (by omega)) ?_
  refine e_mv rfl ?_
  refine e_q (q_build (cs := encState1 (⟨(t + 1), w⟩ : State1)) zc_23 pl_23 rfl rfl) ?_
  refine e_fn Tryz.func15 rfl sl_ (fun ρ' hL => save_spec bD 500 mbD (-1) T4 h2 (⟨t, u⟩ : State1) (⟨(t + 1), w⟩ : State1) ρ' hG4.fok (by have h9 := hG4.usd; omega) (by omega) (by omega) (by have h9 := hG4.usd; omega)) ?_
  rintro _ _ ⟨T5, rfl, hvT5, rfl⟩
  try simp only [List.cons_append, List.nil_append]
  obtain ⟨kT51, hG5, kT53, kT54⟩ := save_fine hG4 (by decide) (bad_mk (by (try simp only []); omega) (by (try simp only []); omega) (fol_iff.2 ⟨by (try simp only []); omega, fun e => by first | exact .inr rfl | (simp only [] at e; omega)⟩) (by (try simp only []); omega) (by (try simp only []); omega)) (fun e => by have h9 := congrArg State1.Term e; simp only [] at h9; omega) (by omega) hvT5
  rw [kT51, kT53, kT54]
  refine e_as rfl ?_
  refine l_n ?_
  refine sr ?_
  refine e_mv rfl ?_
  refine e_q (q_eql rfl rfl) ?_
  refine e_mv rfl ?_
  refine e_mv rfl ?_
  refine e_q (q_eql rfl rfl) ?_
  refine e_q (q_eqlb rfl rfl Tryz.underlying4) ?_
  refine e_mv rfl ?_
  refine l_step (s_qg rfl (ask_t rfl rfl) (b := ((decide ((if u = w then (0 : Int) else 2) = 0)) == (decide (u = w)))) (fun hb => q_move rfl) ?_)
  refine l_step (s_qg rfl (ask_t rfl rfl) (b := ((decide ((if u = w then (0 : Int) else 2) = 0)) == (decide (u = w)))) (fun hb => q_move rfl) ?_)
  refine l_step (s_qg rfl (ask_t rfl rfl) (b := ((decide ((if u = w then (0 : Int) else 2) = 0)) == (decide (u = w)))) (fun hb => OpQ.env (.cons rfl (gd_t hb) (.cons rfl (gd_t hb) (.nil _)) : EnvLe [(104, .int .i64 (if u = w then (0 : Int) else 2)), (105, .int .i64 (if u = w then (0 : Int) else 2))] _) (q_eql rfl rfl)) ?_)
  refine e_q (q_pick_and rfl rfl rfl (fun h => h)) ?_
  refine e_mv rfl ?_
  refine l_step (s_qg rfl (ask_t rfl rfl) (b := (((decide ((if u = w then (0 : Int) else 2) = 0)) == (decide (u = w))) && (decide ((if u = w then (0 : Int) else 2) = (if u = w then (0 : Int) else 2))))) (fun hb => q_move rfl) ?_)
  refine l_step (s_qg rfl (ask_t rfl rfl) (b := (((decide ((if u = w then (0 : Int) else 2) = 0)) == (decide (u = w))) && (decide ((if u = w then (0 : Int) else 2) = (if u = w then (0 : Int) else 2))))) (fun hb => OpQ.env (.cons rfl (gd_t hb) (.nil _) : EnvLe [(109, .int .i64 (if u = w then (0 : Int) else 2))] _) (q_eql rfl rfl)) ?_)
  refine l_step (s_qg rfl (ask_t rfl rfl) (b := (((decide ((if u = w then (0 : Int) else 2) = 0)) == (decide (u = w))) && (decide ((if u = w then (0 : Int) else 2) = (if u = w then (0 : Int) else 2))))) (fun hb => OpQ.env (.cons rfl (gd_t hb) (.nil _) : EnvLe [(110, .bool (decide ((if u = w then (0 : Int) else 2) = 0)))] _) (q_move rfl)) ?_)
  refine l_step (s_qg rfl (ask_gf rfl rfl) (b := ((((decide ((if u = w then (0 : Int) else 2) = 0)) == (decide (u = w))) && (decide ((if u = w then (0 : Int) else 2) = (if u = w then (0 : Int) else 2)))) && !(decide ((if u = w then (0 : Int) else 2) = 0)))) (fun hb => q_move rfl) ?_)
  refine l_step (s_qg rfl (ask_gf rfl rfl) (b := ((((decide ((if u = w then (0 : Int) else 2) = 0)) == (decide (u = w))) && (decide ((if u = w then (0 : Int) else 2) = (if u = w then (0 : Int) else 2)))) && !(decide ((if u = w then (0 : Int) else 2) = 0)))) (fun hb => OpQ.env (.cons rfl (gd_t hb) (.nil _) : EnvLe [(112, .int .i64 (if u = w then (0 : Int) else 2))] _) (q_eql rfl rfl)) ?_)
  refine l_step (s_qg rfl (ask_t rfl rfl) (b := (((decide ((if u = w then (0 : Int) else 2) = 0)) == (decide (u = w))) && (decide ((if u = w then (0 : Int) else 2) = (if u = w then (0 : Int) else 2))))) (fun hb => OpQ.env (.cons rfl (gd_t hb) (.cons rfl rfl (.nil _)) : EnvLe [(111, .bool (decide ((if u = w then (0 : Int) else 2) = 0))), (113, gd ((((decide ((if u = w then (0 : Int) else 2) = 0)) == (decide (u = w))) && (decide ((if u = w then (0 : Int) else 2) = (if u = w then (0 : Int) else 2)))) && !(decide ((if u = w then (0 : Int) else 2) = 0))) (.bool (decide ((if u = w then (0 : Int) else 2) = 2))))] _) (q_pick_or rfl rfl rfl (fun h => by simp_all))) ?_)
  refine e_q (q_pick_and rfl rfl rfl (fun h => h)) ?_
  refine e_mv rfl ?_
  refine l_step (s_qg rfl (ask_t rfl rfl) (b := ((((decide ((if u = w then (0 : Int) else 2) = 0)) == (decide (u = w))) && (decide ((if u = w then (0 : Int) else 2) = (if u = w then (0 : Int) else 2)))) && ((decide ((if u = w then (0 : Int) else 2) = 0)) || (decide ((if u = w then (0 : Int) else 2) = 2))))) (fun hb => q_move rfl) ?_)
  refine l_step (s_qg rfl (ask_t rfl rfl) (b := ((((decide ((if u = w then (0 : Int) else 2) = 0)) == (decide (u = w))) && (decide ((if u = w then (0 : Int) else 2) = (if u = w then (0 : Int) else 2)))) && ((decide ((if u = w then (0 : Int) else 2) = 0)) || (decide ((if u = w then (0 : Int) else 2) = 2))))) (fun hb => OpQ.env (.cons rfl (gd_t hb) (.nil _) : EnvLe [(117, .int .i64 0)] _) (q_eql rfl rfl)) ?_)
  refine e_q (q_pick_and rfl rfl rfl (fun h => h)) ?_
  refine e_mv rfl ?_
  refine Tr.env (.cons (t := 120) (v := .bool true) rfl (congrArg Value.bool (by by_cases e : u = w <;> simp [e])) (EnvLe.refl _)) ?_
  refine e_qw (wy rfl rfl rfl) (q_move rfl) ?_
  refine e_fnw (wy rfl rfl rfl) Tryz.func25 rfl sl_ (fun ρ' hL => on_spec bD 500 mbD (-1) T5 ρ' hG5.fok) ?_
  rintro _ _ ⟨rfl, rfl⟩
  try simp only [List.cons_append, List.nil_append]
  rw [hG5.on]
  refine e_qw (wy rfl rfl rfl) (q_move rfl) ?_
  refine e_qw (wy rfl rfl rfl) (q_add rfl rfl (by omega) (by omega)) ?_
  refine e_qw (wy rfl rfl rfl) (q_move rfl) ?_
  refine e_qw (wy rfl rfl rfl) (q_build (cs := encState1 (⟨(t + 1), w⟩ : State1)) zc_23 pl_23 rfl rfl) ?_
  refine e_qw (wy rfl rfl rfl) (q_eqlst (offs := [0, 1]) (la := [(⟨(t + 1), w⟩ : State1).Term, (⟨(t + 1), w⟩ : State1).Vote]) (lb := [(⟨(t + 1), w⟩ : State1).Term, (⟨(t + 1), w⟩ : State1).Vote]) (by kernel_rfl) rfl rfl (by intro o ho; simp only [List.mem_cons, List.not_mem_nil, or_false] at ho; rcases ho with rfl | rfl <;> exact ⟨_, _, _, rfl, rfl⟩) rfl rfl) ?_
  refine e_q (q_pick rfl rfl rfl) ?_
  refine e_as rfl ?_
  refine l_n ?_
  refine c_ret ?_
  exact t_rt [] rfl (.tmp rfl .nil) rfl ⟨rfl, boole (by simp), rfl⟩ (by (repeat refine Ent.skip ?_); exact Ent.refl _)
end Go.HrdL

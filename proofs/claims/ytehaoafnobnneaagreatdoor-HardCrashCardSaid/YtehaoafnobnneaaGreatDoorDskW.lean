/-
  Package disk, walked.
-/
import Derived.Test.YtehaoafnobnneaaGreatDoorDskP
import Derived.Test.YtehaoafnobnneaaGreatDoorDskL
import Derived.Test.YtehaoafnobnneaaGreatDoorProg
import Derived.Test.YtehaoafnobnneaaGreatDoorSlSq
set_option maxRecDepth 100000
set_option maxHeartbeats 4000000
set_option linter.unusedSimpArgs false
set_option linter.unusedVariables false
namespace Go.Dsk
open Go Go.SL Go.Proofs Go.Dsk.L
attribute [local irreducible] Go.SL.Ent
theorem fo_105_0 : fieldOff Tryz.prog 105 0 = some (0, 3) := by kernel_rfl
theorem fo_105_1 : fieldOff Tryz.prog 105 1 = some (1, 103) := by kernel_rfl
theorem fo_105_2 : fieldOff Tryz.prog 105 2 = some (2, 3) := by kernel_rfl
theorem fo_109_0 : fieldOff Tryz.prog 109 0 = some (0, 38) := by kernel_rfl
theorem sc_103 : isScalar Tryz.prog 103 = true := by kernel_rfl
theorem sc_29 : isScalar Tryz.prog 29 = true := by kernel_rfl
theorem sc_3 : isScalar Tryz.prog 3 = true := by kernel_rfl
theorem sc_38 : isScalar Tryz.prog 38 = true := by kernel_rfl
theorem sc_9 : isScalar Tryz.prog 9 = true := by kernel_rfl
theorem sz_3 : sizeIs Tryz.prog 3 = some 1 := by kernel_rfl
theorem sz_9 : sizeIs Tryz.prog 9 = some 1 := by kernel_rfl
theorem zi_107 : (Tryz.prog.info? 107).bind (·.zero) = some (ptV none) := by kernel_rfl

theorem name1_spec (s : (List UInt8)) (ρ : Hp) (hs : s.length ≤ 9223372036854775807) : Spec0 Tryz.prog 83 #[(strB s)] ρ [] (fun v Γ' => v = .bool ((!nameB s)) ∧ Γ' = []) := by
  refine spec_of (n := 15) (vs := [_]) (σ := [(0, _)]) Tryz.func83 rfl rfl rfl rfl fun E Δ => ?_
  rw [List.nil_append]
  refine sr ?_
  refine e_as rfl ?_
  refine l_n ?_
  refine sr ?_
  refine e_mv rfl ?_
  refine e_q (q_eqlsB (p := s) (q := []) rfl rfl) ?_
  refine e_mv rfl ?_
  refine l_step (s_qg rfl (ask_f rfl rfl) (b := (!(decide (s = [])))) (fun hb => q_move rfl) ?_)
  refine l_step (s_qg rfl (ask_f rfl rfl) (b := (!(decide (s = [])))) (fun hb => OpQ.env (.cons rfl (gd_t hb) (.nil _) : EnvLe [(6, (strB s))] _) (q_lensB Tryz.underlying9 rfl)) ?_)
  refine l_step (s_qg rfl (ask_f rfl rfl) (b := (!(decide (s = [])))) (fun hb => OpQ.env (.cons rfl (gd_t hb) (.nil _) : EnvLe [(7, .int .i64 (s.length : Int))] _) (q_gtr rfl rfl)) ?_)
  refine e_q (q_pick_or rfl rfl rfl (fun h => by first | (rw [h]; rfl) | exact congrArg not h)) ?_
  refine e_mv rfl ?_
  refine l_step (s_qg rfl (ask_f rfl rfl) (b := (!((decide (s = [])) || (decide (32 < (s.length : Int)))))) (fun hb => q_move rfl) ?_)
  refine l_step (s_fnqg (b := (!((decide (s = [])) || (decide (32 < (s.length : Int)))))) rfl (ask_f rfl rfl) Tryz.func84 rfl (by kernel_rfl) (fun hb => (.cons rfl (gd_t hb) (.nil _) : EnvLe [(11, (strB s))] _)) rfl (fun hb ρ' hL => trim_s trimA (by kernel_rfl) s setC (by omega) (by decide) (by decide) ρ') ?_)
  refine l_step (s_qg rfl (ask_f rfl rfl) (b := (!((decide (s = [])) || (decide (32 < (s.length : Int)))))) (fun hb => OpQ.env (.cons rfl (gd_t hb) (.nil _) : EnvLe [(12, (strB (Lib.trimS s setC)))] _) (q_neqsB (p := (Lib.trimS s setC)) (q := []) rfl rfl)) ?_)
  refine e_q (q_pick_or rfl rfl rfl (fun h => by first | (rw [h]; rfl) | exact congrArg not h)) ?_
  refine e_as rfl ?_
  refine l_n ?_
  refine c_ret ?_
  exact t_rt [] rfl (.tmp rfl .nil) rfl ⟨rfl, boole (by unfold nameB; rw [Bool.not_not]), rfl⟩ (by (repeat refine Ent.skip ?_); exact Ent.refl _)

theorem indexFunc_spec (s_a : Option Addr) (s_n s_c : Nat) (s : List (List UInt8)) (hs_n : s.length = s_n) (f : Nat) (cs : List Value) (p : List UInt8 → Bool) (L : List Asn) (ρ : Hp) (hro : Ro ρ 1 s_a s_n s_c (s.flatMap Go.SL.encStr)) (hE : Go.SL.Enters Tryz.prog f) (hp : ∀ x ∈ s, ∀ ρ' : Hp, ρ.le ρ' → Spec0 Tryz.prog f ([strB x] ++ cs).toArray ρ' [Bun L] (fun v Γ' => v = .bool (p x) ∧ Γ' = [Bun L])) : Spec0 Tryz.prog 105 #[.slice s_a s_n s_c, .func (.func f) #[] cs.toArray] ρ [Bun L] (fun v Γ' => v = .int .i64 (idxP p s) ∧ Γ' = [Bun L]) := by
  refine spec_of (n := 19) (vs := [_, _]) (σ := [(0, _), (1, _)]) Tryz.func105 rfl rfl rfl rfl fun E Δ => ?_
  simp only [List.cons_append, List.nil_append]
  have hrob : s_n ≤ 9223372036854775807 := Nat.le_trans hro.2.1 hro.2.2.1
  refine sr ?_
  refine e_as rfl ?_
  refine l_n ?_
  refine c_seq ?_
  refine sr ?_
  refine e_mv rfl ?_
  refine e_q (q_len Tryz.underlying49 rfl) ?_
  refine e_mv rfl ?_
  refine l_n ?_
  refine c_block ?_
  refine Tr.env (σ' := [(0, _), (1, _), (7, _), (8, _)]) ev_ ?_
  refine t_loop (ι := Lp (Nat)) (fun x => x.d ≤ s_n ∧ (s.take x.d).any p = false) (fun x => s_n - x.d) (fun x => [(0, .slice s_a s_n s_c), (1, (.func (.func f) #[] cs.toArray)), (7, .int .i64 (s_n : Int)), (8, .int .i64 (x.d : Int))]) (fun x => Bun L :: Δ) (⟨0, none, 0, none, 0, none, 0⟩ : Lp _) ⟨Nat.zero_le _, rfl⟩ ?_ ?_ ?_
  · exact .c (.c (.c (.c (.nil _))))
  · exact en_
  intro x hx
  obtain ⟨hx1, hx2⟩ := hx
  refine sr ?_
  refine e_q (q_lss rfl rfl) ?_
  refine l_n ?_
  refine c_seq ?_
  refine c_cond rfl (fun h0 => ?_) (fun h0 => ?_)
  · try simp only [decide_eq_true_eq, decide_eq_false_iff_not] at h0
    refine c_skip ?_
    refine k_then_n ?_
    refine c_seq ?_
    refine c_block ?_
    refine sr ?_
    refine e_mv rfl ?_
    refine e_as rfl ?_
    refine l_n ?_
    refine sr ?_
    refine e_mv rfl ?_
    refine e_mv rfl ?_
    refine e_mv rfl ?_
    refine e_q (q_indexe x.d Tryz.underlying49 sz_9 rfl rfl (by first | assumption | exact rd_ro (by assumption) | exact rd_bun (L := L) pk_ (in_map _ (by first | assumption | omega | (simp only [List.length_cons, List.length_nil]; omega) | decide) rfl) | exact rd_row pk_) (by decide) rfl (by first | assumption | omega | (simp only [List.length_cons, List.length_nil]; omega))) ?_
    refine e_q (q_loade (enc := Go.SL.encStr) (xs := s) (j := x.d) (off := 0) sc_9 rfl (by first | assumption | exact rd_ro (by assumption) | exact rd_bun (L := L) pk_ (in_map _ (by first | assumption | omega | (simp only [List.length_cons, List.length_nil]; omega) | decide) rfl) | exact rd_row pk_) (fun _ => rfl) (by first | assumption | omega | (simp only [List.length_cons, List.length_nil]; omega)) (by decide) rfl) ?_
    refine l_step (s_clob rfl wn hE rfl rfl sl_ (fun ρ' hL => hp _ (getD_in (by omega)) ρ' hL.1) ?_)
    rintro _ _ ⟨rfl, rfl⟩
    try simp only [List.cons_append, List.nil_append]
    refine l_n ?_
    refine c_cond rfl (fun h1 => ?_) (fun h1 => ?_)
    · skip
      refine sr ?_
      refine e_mv rfl ?_
      refine e_as rfl ?_
      refine l_n ?_
      refine c_ret ?_
      refine k_blk_r ?_
      refine k_then_r ?_
      refine k_then_r ?_
      refine k_blk_r ?_
      refine k_then_r ?_
      exact t_rt [Bun L] rfl (.tmp rfl .nil) rfl ⟨rfl, inte (idxP_at (by omega) hx2 h1).symm, rfl⟩
    · skip
      refine c_skip ?_
      refine k_blk_n ?_
      refine k_then_n ?_
      refine c_region ?_
      refine e_q (q_add rfl rfl (by omega) (by omega)) ?_
      refine e_mv rfl ?_
      refine l_n ?_
      exact t_nx (⟨x.d + 1, none, 0, none, 0, none, 0⟩ : Lp _) ⟨⟨by (try simp only []); omega, any_succ (by omega) hx2 h1⟩, by (try simp only []); omega⟩ (.c (.c (.c (.c (.nil _)))))
  · try simp only [decide_eq_true_eq, decide_eq_false_iff_not] at h0
    have hk : x.d = s.length := by omega
    rw [hk, List.take_length] at hx2
    refine c_exit ?_
    refine k_then_x ?_
    refine k_then_x ?_
    refine k_blk_x ?_
    refine k_then_n ?_
    refine sr ?_
    refine e_as rfl ?_
    refine l_n ?_
    refine c_ret ?_
    exact t_rt [Bun L] rfl (.tmp rfl .nil) rfl ⟨rfl, inte (idxP_none hx2).symm, rfl⟩

theorem containsFunc_spec (s_a : Option Addr) (s_n s_c : Nat) (s : List (List UInt8)) (hs_n : s.length = s_n) (f : Nat) (cs : List Value) (p : List UInt8 → Bool) (L : List Asn) (ρ : Hp) (hro : Ro ρ 1 s_a s_n s_c (s.flatMap Go.SL.encStr)) (hE : Go.SL.Enters Tryz.prog f) (hp : ∀ x ∈ s, ∀ ρ' : Hp, ρ.le ρ' → Spec0 Tryz.prog f ([strB x] ++ cs).toArray ρ' [Bun L] (fun v Γ' => v = .bool (p x) ∧ Γ' = [Bun L])) : Spec0 Tryz.prog 80 #[.slice s_a s_n s_c, .func (.func f) #[] cs.toArray] ρ [Bun L] (fun v Γ' => v = .bool (s.any p) ∧ Γ' = [Bun L]) := by
  refine spec_of (n := 9) (vs := [_, _]) (σ := [(0, _), (1, _)]) Tryz.func80 rfl rfl rfl rfl fun E Δ => ?_
  simp only [List.cons_append, List.nil_append]
  refine sr ?_
  refine e_as rfl ?_
  refine l_n ?_
  refine sr ?_
  refine e_mv rfl ?_
  refine e_mv rfl ?_
  refine e_fn Tryz.func105 rfl sl_ (fun ρ' hL => indexFunc_spec s_a s_n s_c s hs_n f cs p L ρ' (hL.ro hro) hE (fun x hx ρ'' hl => hp x hx ρ'' (hL.1.le_trans hl))) ?_
  rintro _ _ ⟨rfl, rfl⟩
  try simp only [List.cons_append, List.nil_append]
  refine e_q (q_geq rfl rfl) ?_
  refine e_as rfl ?_
  refine l_n ?_
  refine c_ret ?_
  exact t_rt [Bun L] rfl (.tmp rfl .nil) rfl ⟨rfl, boole (idxP_any p s), rfl⟩

theorem name_spec (names_a : Option Addr) (names_n names_c : Nat) (names : List (List UInt8)) (hnames_n : names.length = names_n) (ρ : Hp) (hns : ∀ s ∈ names, s.length ≤ 9223372036854775807) (hro : Ro ρ 1 names_a names_n names_c (names.flatMap Go.SL.encStr)) : Spec0 Tryz.prog 57 #[.slice names_a names_n names_c] ρ [] (fun v Γ' => v = .bool ((names.all nameB)) ∧ Γ' = []) := by
  refine spec_of (n := 6) (vs := [_]) (σ := [(0, _)]) Tryz.func57 rfl rfl rfl rfl fun E Δ => ?_
  rw [List.nil_append]
  refine sr ?_
  refine e_as rfl ?_
  refine l_n ?_
  refine sr ?_
  refine e_mv rfl ?_
  refine Tr.ent (bun_nil _) ?_
  refine e_fn Tryz.func80 rfl sl_ (fun ρ' hL => containsFunc_spec names_a names_n names_c names (by first | rfl | assumption) 83 [] (fun x => !nameB x) [] ρ' (by first | exact hL.ro (by assumption) | exact hL.bun (L := []) pk_ (in_map _ (by first | assumption | omega | (simp only [List.length_cons, List.length_nil]; omega) | decide) rfl) | exact hL.row pk_ | assumption) ⟨_, _, Tryz.func83, rfl, rfl⟩ (fun x hx ρ'' hl => spec0_bun (name1_spec x ρ'' (hns x hx)))) ?_
  rintro _ _ ⟨rfl, rfl⟩
  try simp only [List.cons_append, List.nil_append]
  refine e_q (q_not rfl) ?_
  refine e_as rfl ?_
  refine l_n ?_
  refine c_ret ?_
  exact t_rt [] rfl (.tmp rfl .nil) rfl ⟨rfl, boole (by simp [List.any_eq_not_all_not]), rfl⟩ (by (repeat refine Ent.skip ?_); exact Ent.refl _)

theorem there1_spec (s : (List UInt8)) (c b : Nat) (room : Int) (mb : Nat) (calls : Int) (T : FT) (ρ : Hp) : Spec0 Tryz.prog 81 #[(strB s), .pointer (some ⟨c, 0, none⟩)] ρ [.pts c [.pointer (some ⟨b, 0, none⟩)] 29, .pts b (encDisk1 (⟨room, (some mb), calls⟩ : Disk1)) 105, MP strB ptV mb (fm T)] (fun v Γ' => v = .bool (!mhas (vw T) s) ∧ Γ' = [.pts c [.pointer (some ⟨b, 0, none⟩)] 29, .pts b (encDisk1 (⟨room, (some mb), calls⟩ : Disk1)) 105, MP strB ptV mb (fm T)]) := by
  refine spec_of (n := 11) (vs := [_, _]) (σ := [(0, _), (1, _)]) Tryz.func81 rfl rfl rfl rfl fun E Δ => ?_
  simp only [List.cons_append, List.nil_append]
  refine sr ?_
  refine e_as rfl ?_
  refine l_n ?_
  refine sr ?_
  refine e_q (q_loadp (v := .pointer (some ⟨b, 0, none⟩)) sc_29 rfl pk_ rfl) ?_
  refine e_q (q_nilCheck rfl) ?_
  refine e_q (q_fieldp rfl fo_105_1) ?_
  refine e_q (q_loadp (v := .map (some mb)) sc_103 rfl pk_ rfl) ?_
  refine e_mv rfl ?_
  refine e_q (q_look (v := (ptV (mgetD (fm T) s none))) (ek := strB) (ev := ptV) (k := s) (zv := none) Tryz.underlying103 (mkey_str Tryz.underlying9) zi_107 rfl rfl pk_ rfl) ?_
  refine e_q (q_eqlo (e := (mgetD (fm T) s none)) rfl rfl Tryz.underlying107) ?_
  refine e_as rfl ?_
  refine l_n ?_
  refine c_ret ?_
  exact t_rt [.pts c [.pointer (some ⟨b, 0, none⟩)] 29, .pts b (encDisk1 (⟨room, (some mb), calls⟩ : Disk1)) 105, MP strB ptV mb (fm T)] rfl (.tmp rfl .nil) rfl ⟨rfl, boole (has_fm T s), rfl⟩

theorem there_spec (b : Nat) (room : Int) (mb : Nat) (calls : Int) (T : FT) (names_a : Option Addr) (names_n names_c : Nat) (names : List (List UInt8)) (hnames_n : names.length = names_n) (ρ : Hp) (hro : Ro ρ 1 names_a names_n names_c (names.flatMap Go.SL.encStr)) : Spec0 Tryz.prog 52 #[.pointer (some ⟨b, 0, none⟩), .slice names_a names_n names_c] ρ [.pts b (encDisk1 (⟨room, (some mb), calls⟩ : Disk1)) 105, MP strB ptV mb (fm T)] (fun v Γ' => v = .bool ((names.all (mhas (vw T)))) ∧ Γ' = [.pts b (encDisk1 (⟨room, (some mb), calls⟩ : Disk1)) 105, MP strB ptV mb (fm T)]) := by
  refine spec_of (n := 9) (vs := [_, _]) (σ := [(0, _), (1, _)]) Tryz.func52 rfl rfl rfl rfl fun E Δ => ?_
  simp only [List.cons_append, List.nil_append]
  refine sr ?_
  refine e_s (s_box (cs := [.pointer (some ⟨b, 0, none⟩)]) rfl rfl) ?_
  rintro _ _ ⟨b2, rfl, rfl⟩
  refine e_as rfl ?_
  refine l_n ?_
  refine sr ?_
  refine e_mv rfl ?_
  refine e_q (q_makeFunc rfl rfl) ?_
  refine Tr.ent (Ent.trans (Ent.pick (A := .pts b2 [.pointer (some ⟨b, 0, none⟩)] 29) pk_ (Ent.pick (A := .pts b (encDisk1 (⟨room, (some mb), calls⟩ : Disk1)) 105) pk_ (Ent.pick (A := MP strB ptV mb (fm T)) pk_ (Ent.refl _)))) (bun_in [.pts b2 [.pointer (some ⟨b, 0, none⟩)] 29, .pts b (encDisk1 (⟨room, (some mb), calls⟩ : Disk1)) 105, MP strB ptV mb (fm T)] _)) ?_
  refine e_fn Tryz.func80 rfl sl_ (fun ρ' hL => containsFunc_spec names_a names_n names_c names (by first | rfl | assumption) 81 [.pointer (some ⟨b2, 0, none⟩)] (fun x => !mhas (vw T) x) _ ρ' (by first | exact hL.ro (by assumption) | exact hL.bun (L := [.pts b2 [.pointer (some ⟨b, 0, none⟩)] 29, .pts b (encDisk1 (⟨room, (some mb), calls⟩ : Disk1)) 105, MP strB ptV mb (fm T)]) pk_ (in_map _ (by first | assumption | omega | (simp only [List.length_cons, List.length_nil]; omega) | decide) rfl) | exact hL.row pk_ | assumption) ⟨_, _, Tryz.func81, rfl, rfl⟩ (fun x hx ρ'' hl => spec0_bun (there1_spec x b2 b room mb calls T ρ''))) ?_
  rintro _ _ ⟨rfl, rfl⟩
  try simp only [List.cons_append, List.nil_append]
  refine e_q (q_not rfl) ?_
  refine e_as rfl ?_
  refine l_n ?_
  refine c_ret ?_
  refine Tr.ent (Ent.trans (Ent.pick (A := Bun [.pts b2 [.pointer (some ⟨b, 0, none⟩)] 29, .pts b (encDisk1 (⟨room, (some mb), calls⟩ : Disk1)) 105, MP strB ptV mb (fm T)]) pk_ (Ent.refl _)) (bun_out [.pts b2 [.pointer (some ⟨b, 0, none⟩)] 29, .pts b (encDisk1 (⟨room, (some mb), calls⟩ : Disk1)) 105, MP strB ptV mb (fm T)] _)) ?_
  simp only [List.cons_append, List.nil_append]
  exact t_rt [.pts b (encDisk1 (⟨room, (some mb), calls⟩ : Disk1)) 105, MP strB ptV mb (fm T)] rfl (.tmp rfl .nil) rfl ⟨rfl, boole (by simp [List.any_eq_not_all_not]), rfl⟩

theorem stopped_spec (b : Nat) (room : Int) (mb : Nat) (calls : Int) (T : FT) (ρ : Hp) (hc : calls ≤ 9223372036854775807) : Spec0 Tryz.prog 48 #[.pointer (some ⟨b, 0, none⟩)] ρ [.pts b (encDisk1 (⟨room, (some mb), calls⟩ : Disk1)) 105] (fun v Γ' => v = .bool (decide (calls = 0)) ∧ Γ' = [.pts b (encDisk1 (⟨room, (some mb), (decC calls)⟩ : Disk1)) 105]) := by
  refine spec_of (n := 20) (vs := [_]) (σ := [(0, _)]) Tryz.func48 rfl rfl rfl rfl fun E Δ => ?_
  simp only [List.cons_append, List.nil_append]
  refine sr ?_
  refine e_as rfl ?_
  refine l_n ?_
  refine c_seq ?_
  refine sr ?_
  refine e_mv rfl ?_
  refine e_q (q_nilCheck rfl) ?_
  refine e_q (q_fieldp rfl fo_105_2) ?_
  refine e_q (q_loadp (v := .int .i64 calls) sc_3 rfl pk_ rfl) ?_
  refine e_q (q_gtr rfl rfl) ?_
  refine l_n ?_
  refine c_cond rfl (fun h0 => ?_) (fun h0 => ?_)
  · try simp only [decide_eq_true_eq, decide_eq_false_iff_not] at h0
    refine sr ?_
    refine e_mv rfl ?_
    refine e_q (q_nilCheck rfl) ?_
    refine e_q (q_fieldp rfl fo_105_2) ?_
    refine e_q (q_loadp (v := .int .i64 calls) sc_3 rfl pk_ rfl) ?_
    refine e_q (q_sub rfl rfl (by omega) (by omega)) ?_
    refine e_q (q_nilCheck rfl) ?_
    refine e_q (q_fieldp rfl fo_105_2) ?_
    refine l_step (s_s0 wn (s_storep (ws := [.int .i64 (calls - 1)]) (cs := encDisk1 (⟨room, (some mb), calls⟩ : Disk1)) (cs' := encDisk1 (⟨room, (some mb), (calls - 1)⟩ : Disk1)) rfl rfl rfl sz_3 (by simp [Value.oneCell', strB, ptV, SL.v, SH.v]) (by simp [encDisk1]) rfl pk_) ?_)
    rintro _ _ ⟨rfl, rfl⟩
    refine l_n ?_
    refine sr ?_
    refine e_as rfl ?_
    refine l_n ?_
    refine c_ret ?_
    refine k_then_r ?_
    rw [show calls - 1 = decC calls from (if_pos h0).symm]
    exact t_rt [.pts b (encDisk1 (⟨room, (some mb), (decC calls)⟩ : Disk1)) 105] rfl (.tmp rfl .nil) rfl ⟨rfl, boole (decide_eq_false (by omega)).symm, rfl⟩
  · try simp only [decide_eq_true_eq, decide_eq_false_iff_not] at h0
    refine c_skip ?_
    refine k_then_n ?_
    refine sr ?_
    refine e_mv rfl ?_
    refine e_q (q_nilCheck rfl) ?_
    refine e_q (q_fieldp rfl fo_105_2) ?_
    refine e_q (q_loadp (v := .int .i64 calls) sc_3 rfl pk_ rfl) ?_
    refine e_q (q_eql rfl rfl) ?_
    refine e_as rfl ?_
    refine l_n ?_
    refine c_ret ?_
    have hd : decC calls = calls := if_neg h0
    exact t_rt [.pts b (encDisk1 (⟨room, (some mb), calls⟩ : Disk1)) 105] rfl (.tmp rfl .nil) rfl ⟨rfl, rfl, by rw [hd]⟩

theorem stop_spec (b : Nat) (room : Int) (mb : Nat) (calls : Int) (T : FT) (n : Int) (ρ : Hp) : Spec0 Tryz.prog 16 #[.pointer (some ⟨b, 0, none⟩), .int .i64 n] ρ [.pts b (encDisk1 (⟨room, (some mb), calls⟩ : Disk1)) 105] (fun v Γ' => v = .tuple #[] ∧ Γ' = [.pts b (encDisk1 (⟨room, (some mb), (if (-1) > n then (-1) else n)⟩ : Disk1)) 105]) := by
  refine spec_of (n := 9) (vs := [_, _]) (σ := [(0, _), (1, _)]) Tryz.func16 rfl rfl rfl rfl fun E Δ => ?_
  simp only [List.cons_append, List.nil_append]
  refine c_region ?_
  refine e_mv rfl ?_
  refine e_mv rfl ?_
  refine e_q (q_max2 rfl rfl) ?_
  refine e_q (q_nilCheck rfl) ?_
  refine e_q (q_fieldp rfl fo_105_2) ?_
  refine l_step (s_s0 wn (s_storep (ws := [.int .i64 (if (-1) > n then (-1) else n)]) (cs := encDisk1 (⟨room, (some mb), calls⟩ : Disk1)) (cs' := encDisk1 (⟨room, (some mb), (if (-1) > n then (-1) else n)⟩ : Disk1)) rfl rfl rfl sz_3 (by simp [Value.oneCell', strB, ptV, SL.v, SH.v]) (by simp [encDisk1]) rfl pk_) ?_)
  rintro _ _ ⟨rfl, rfl⟩
  refine l_nil ?_
  refine k_body_n ?_
  exact t_rt [.pts b (encDisk1 (⟨room, (some mb), (if (-1) > n then (-1) else n)⟩ : Disk1)) 105] rfl .nil rfl ⟨rfl, rfl, rfl⟩

theorem free_spec (b : Nat) (room : Int) (mb : Nat) (calls : Int) (T : FT) (ρ : Hp) (hU : (usedT T : Int) ≤ room) (hr : room ≤ 9223372036854775807) : Spec0 Tryz.prog 58 #[.pointer (some ⟨b, 0, none⟩)] ρ [.pts b (encDisk1 (⟨room, (some mb), calls⟩ : Disk1)) 105, MP strB ptV mb (fm T), FB 109 5 T] (fun v Γ' => v = .int .i64 ((room - (usedT T : Int))) ∧ Γ' = [.pts b (encDisk1 (⟨room, (some mb), calls⟩ : Disk1)) 105, MP strB ptV mb (fm T), FB 109 5 T]) := by
  refine spec_of (n := 27) (vs := [_]) (σ := [(0, _)]) Tryz.func58 rfl rfl rfl rfl fun E Δ => ?_
  simp only [List.cons_append, List.nil_append]
  refine sr ?_
  refine e_as rfl ?_
  refine l_n ?_
  refine sr ?_
  refine e_mv rfl ?_
  refine e_q (q_nilCheck rfl) ?_
  refine e_q (q_fieldp rfl fo_105_0) ?_
  refine e_q (q_loadp (v := .int .i64 room) sc_3 rfl pk_ rfl) ?_
  refine e_as rfl ?_
  refine l_n ?_
  refine c_seq ?_
  refine sr ?_
  refine e_mv rfl ?_
  refine e_q (q_nilCheck rfl) ?_
  refine e_q (q_fieldp rfl fo_105_1) ?_
  refine e_q (q_loadp (v := .map (some mb)) sc_103 rfl pk_ rfl) ?_
  refine e_s (s_range (ek := strB) (ev := ptV) (Γr := fun _ => _) Tryz.underlying103 rfl (fun _ => pk_)) ?_
  rintro _ _ ⟨r14, rfl, rfl⟩
  refine l_n ?_
  refine c_block ?_
  refine Tr.env (σ' := [(2, _), (3, _), (14, _)]) ev_ ?_
  refine t_loop (ι := Lp (FT)) (fun x => (∀ e ∈ x.d, e ∈ T) ∧ usedT x.d ≤ usedT T) (fun x => x.d.length) (fun x => [(2, .int .i64 0), (3, .int .i64 (room - ((usedT T : Int) - (usedT x.d : Int)))), (14, .pointer (some ⟨r14, 0, none⟩))]) (fun x => .pts b (encDisk1 (⟨room, (some mb), calls⟩ : Disk1)) 105 :: MI strB ptV mb r14 (fm T) (fm x.d) none :: FB 109 5 T :: Δ) (⟨T, none, 0, none, 0, none, 0⟩ : Lp _) ⟨fun _ h => h, Nat.le_refl _⟩ ?_ ?_ ?_
  · exact .c (.c (.c (.nil _)))
  · exact en_
  intro x hx
  obtain ⟨hx1, hx2⟩ := hx
  refine sr ?_
  refine e_s (s_next (ek := strB) (ev := ptV) (Γl := fun _ _ => _) rfl (fun _ _ => pk_)) ?_
  rintro _ _ (⟨rfl, hle15, rfl⟩ | ⟨j15, k15, u15, hj15, rfl, rfl⟩)
  · skip
    have hl0 : x.d = [] := List.map_eq_nil_iff.1 hle15
    refine e_q (q_extract rfl rfl) ?_
    refine l_n ?_
    refine c_seq ?_
    refine c_no rfl ?_
    refine c_exit ?_
    refine k_then_x ?_
    refine k_then_x ?_
    refine k_blk_x ?_
    refine k_then_n ?_
    refine sr ?_
    refine e_mv rfl ?_
    refine e_as rfl ?_
    refine l_n ?_
    refine c_ret ?_
    refine Tr.ent (Ent.trans (Ent.pick (A := MI strB ptV mb r14 (fm T) [] none) pk_ (Ent.refl _)) mi_mp) ?_
    exact t_rt [.pts b (encDisk1 (⟨room, (some mb), calls⟩ : Disk1)) 105, MP strB ptV mb (fm T), FB 109 5 T] rfl (.tmp rfl .nil) rfl ⟨rfl, inte (by rw [hl0]; simp [usedT]), rfl⟩
  · skip
    obtain ⟨e, hje, rfl, rfl⟩ := fm_at hj15
    rw [fm_erase]
    have hue := used_erase hje
    obtain ⟨i, hi, hie⟩ := List.getElem_of_mem (hx1 e (List.mem_of_getElem? hje))
    have hie2 : T[i]? = some e := by rw [List.getElem?_eq_getElem hi, hie]
    have hua := used_at hie2
    refine e_q (q_extract rfl rfl) ?_
    refine l_n ?_
    refine c_seq ?_
    refine c_yes rfl ?_
    refine c_skip ?_
    refine k_then_n ?_
    refine c_block ?_
    refine sr ?_
    refine Tr.ent (file_open (t := 109) (tb := 5) hie2 pk_) ?_
    refine e_q (q_entry (ek := strB) (ev := ptV) (k := e.name) (u := (some e.blk)) rfl pk_) ?_
    refine e_q (q_extract rfl rfl) ?_
    refine e_as rfl ?_
    refine l_n ?_
    refine c_region ?_
    refine e_mv rfl ?_
    refine e_mv rfl ?_
    refine e_q (q_nilCheck rfl) ?_
    refine e_q (q_fieldp rfl fo_109_0) ?_
    refine e_q (q_loadp (v := .slice e.a e.xs.length e.cap) sc_38 rfl pk_ rfl) ?_
    refine e_q (q_len Tryz.underlying38 rfl) ?_
    refine e_q (q_sub rfl rfl (by omega) (by omega)) ?_
    refine e_as rfl ?_
    refine l_nil ?_
    refine k_blk_n ?_
    refine k_then_n ?_
    refine Tr.ent (Ent.trans (Ent.pick (A := .pts e.blk (encFile1 (⟨⟨e.a, e.xs.length, e.cap⟩, e.safe⟩ : File1)) 109) pk_ (Ent.pick (A := .row 5 1 e.a e.xs.length e.cap (e.xs.flatMap encB)) pk_ (Ent.pick (A := Bun ((fL 109 5 T).eraseIdx i)) pk_ (Ent.refl _)))) (file_same (t := 109) (tb := 5) hie2)) ?_
    refine Tr.ent (mi_forget (ek := strB) (ev := ptV) (b := mb) (r := r14) (m := fm T) (left := fm (x.d.eraseIdx j15)) pk_) ?_
    exact t_nx (⟨x.d.eraseIdx j15, none, 0, none, 0, none, 0⟩ : Lp _) ⟨⟨fun y hy => hx1 y (List.mem_of_mem_eraseIdx hy), by (try simp only []); omega⟩, by have h9 := (List.getElem?_eq_some_iff.1 hje).1; simp only [List.length_eraseIdx]; rw [if_pos h9]; omega⟩ (.c (.c (.c (.nil _))))
end Go.Dsk

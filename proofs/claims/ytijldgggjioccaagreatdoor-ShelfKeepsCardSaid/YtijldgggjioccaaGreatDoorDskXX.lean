/-
  Several texts, put together.
-/
import Derived.Test.YtijldgggjioccaaGreatDoorDskPP
import Derived.Test.YtijldgggjioccaaGreatDoorDskL
import Derived.Test.YtijldgggjioccaaGreatDoorProg
import Derived.Test.YtijldgggjioccaaGreatDoorSlEc
/-
  Package disk, walked.
-/
set_option maxRecDepth 100000
set_option maxHeartbeats 4000000
set_option linter.unusedSimpArgs false
set_option linter.unusedVariables false
namespace Go.Dsk
open Go Go.SL Go.Proofs Go.Dsk.L
attribute [local irreducible] Go.SL.Ent
theorem fo_143_0 : fieldOff Tryz.prog 143 0 = some (0, 3) := by kernel_rfl
theorem fo_143_1 : fieldOff Tryz.prog 143 1 = some (1, 141) := by kernel_rfl
theorem fo_143_2 : fieldOff Tryz.prog 143 2 = some (2, 3) := by kernel_rfl
theorem fo_154_0 : fieldOff Tryz.prog 154 0 = some (0, 22) := by kernel_rfl
theorem sc_141 : isScalar Tryz.prog 141 = true := by kernel_rfl
theorem sc_22 : isScalar Tryz.prog 22 = true := by kernel_rfl
theorem sc_3 : isScalar Tryz.prog 3 = true := by kernel_rfl
theorem sc_39 : isScalar Tryz.prog 39 = true := by kernel_rfl
theorem sc_9 : isScalar Tryz.prog 9 = true := by kernel_rfl
theorem sz_3 : sizeIs Tryz.prog 3 = some 1 := by kernel_rfl
theorem sz_9 : sizeIs Tryz.prog 9 = some 1 := by kernel_rfl
theorem zi_152 : (Tryz.prog.info? 152).bind (·.zero) = some (ptV none) := by kernel_rfl

theorem name1_spec (s : (List UInt8)) (ρ : Hp) (hs : s.length ≤ 9223372036854775807) : Spec0 Tryz.prog 159 #[(strB s)] ρ [] (fun v Γ' => v = .bool ((!nameB s)) ∧ Γ' = []) := by
  refine spec_of (n := 15) (vs := [_]) (σ := [(0, _)]) Tryz.func159 rfl rfl rfl rfl fun E Δ => ?_
  rw [List.nil_append]
  refine sr ?_
  refine e_as rfl ?_
  refine l_n ?_
  refine sr ?_
  refine e_mv rfl ?_
  refine e_q (q_eqlsB (p := s) (q := []) rfl rfl) ?_
  refine e_mv rfl ?_
  refine l_step (s_qg rfl (ask_f rfl rfl) (b := (!(decide (s = [])))) (fun hb => q_move rfl) ?_)
  refine l_step (s_qg rfl (ask_f rfl rfl) (b := (!(decide (s = [])))) (fun hb => OpQ.env (.cons rfl (gd_t hb) (.nil _) : EnvLe [(6, (strB s))] _) (q_lensB Tryz.underlying9 rfl)) ?_)
  refine l_step (s_qg rfl (ask_f rfl rfl) (b := (!(decide (s = [])))) (fun hb => OpQ.env (.cons rfl (gd_t hb) (.nil _) : EnvLe [(7, .int .i64 (s.length : Int))] _) (q_gtr rfl rfl)) ?_)
  refine e_q (q_pick_or rfl rfl rfl (fun h => by first | (rw [h]; rfl) | exact congrArg not h)) ?_
  refine e_mv rfl ?_
  refine l_step (s_qg rfl (ask_f rfl rfl) (b := (!((decide (s = [])) || (decide (32 < (s.length : Int)))))) (fun hb => q_move rfl) ?_)
  refine l_step (s_fnqg (b := (!((decide (s = [])) || (decide (32 < (s.length : Int)))))) rfl (ask_f rfl rfl) Tryz.func150 rfl (by kernel_rfl) (fun hb => (.cons rfl (gd_t hb) (.nil _) : EnvLe [(11, (strB s))] _)) rfl (fun hb ρ' hL => trim_s trimA (by kernel_rfl) s setC (by omega) (by decide) (by decide) ρ') ?_)
  refine l_step (s_qg rfl (ask_f rfl rfl) (b := (!((decide (s = [])) || (decide (32 < (s.length : Int)))))) (fun hb => OpQ.env (.cons rfl (gd_t hb) (.nil _) : EnvLe [(12, (strB (Lib.trimS s setC)))] _) (q_neqsB (p := (Lib.trimS s setC)) (q := []) rfl rfl)) ?_)
  refine e_q (q_pick_or rfl rfl rfl (fun h => by first | (rw [h]; rfl) | exact congrArg not h)) ?_
  refine e_as rfl ?_
  refine l_n ?_
  refine c_ret ?_
  exact t_rt [] rfl (.tmp rfl .nil) rfl ⟨rfl, boole (by unfold nameB; rw [Bool.not_not]), rfl⟩ (by (repeat refine Ent.skip ?_); exact Ent.refl _)

theorem indexFunc_spec (s_a : Option Addr) (s_n s_c : Nat) (s : List (List UInt8)) (hs_n : s.length = s_n) (f : Nat) (cs : List Value) (p : List UInt8 → Bool) (L : List Asn) (ρ : Hp) (hro : Ro ρ 1 s_a s_n s_c (s.flatMap Go.SL.encStr)) (hE : Go.SL.Enters Tryz.prog f) (hp : ∀ x ∈ s, ∀ ρ' : Hp, ρ.le ρ' → Spec0 Tryz.prog f ([strB x] ++ cs).toArray ρ' [Bun L] (fun v Γ' => v = .bool (p x) ∧ Γ' = [Bun L])) : Spec0 Tryz.prog 215 #[.slice s_a s_n s_c, .func (.func f) #[] cs.toArray] ρ [Bun L] (fun v Γ' => v = .int .i64 (idxP p s) ∧ Γ' = [Bun L]) := by
  refine spec_of (n := 19) (vs := [_, _]) (σ := [(0, _), (1, _)]) Tryz.func215 rfl rfl rfl rfl fun E Δ => ?_
  simp only [List.cons_append, List.nil_append]
  have hrob : s_n ≤ 9223372036854775807 := Nat.le_trans hro.2.1 hro.2.2.1
  refine sr ?_
  refine e_as rfl ?_
  refine l_n ?_
  refine c_seq ?_
  refine sr ?_
  refine e_mv rfl ?_
  refine e_q (q_len Tryz.underlying52 rfl) ?_
  refine e_mv rfl ?_
  refine l_n ?_
  refine c_block ?_
  refine Tr.env (σ' := [(0, _), (1, _), (7, _), (8, _)]) ev_ ?_
  refine t_loop (ι := Lp (Nat)) (fun x => x.d ≤ s_n ∧ (s.take x.d).any p = false) (fun x => s_n - x.d) (fun x => [(0, .slice s_a s_n s_c), (1, (.func (.func f) #[] cs.toArray)), (7, .int .i64 (s_n : Int)), (8, .int .i64 (x.d : Int))]) (fun x => Bun L :: Δ) (⟨0, none, 0, none, 0, none, 0⟩ : Lp _) ⟨Nat.zero_le _, rfl⟩ ?_ ?_ ?_
  · exact .c (.c (.c (.c (.nil _))))
  · exact en_
  intro x hx
  obtain ⟨hx1, hx2⟩ := hx
  refine sr ?_
  refine e_q (q_lss rfl rfl) ?_
  refine l_n ?_
  refine c_seq ?_
  refine c_cond rfl (fun h0 => ?_) (fun h0 => ?_)
  · try simp only [decide_eq_true_eq, decide_eq_false_iff_not] at h0
    refine c_skip ?_
    refine k_then_n ?_
    refine c_seq ?_
    refine c_block ?_
    refine sr ?_
    refine e_mv rfl ?_
    refine e_as rfl ?_
    refine l_n ?_
    refine sr ?_
    refine e_mv rfl ?_
    refine e_mv rfl ?_
    refine e_mv rfl ?_
    refine e_q (q_indexe x.d Tryz.underlying52 sz_9 rfl rfl (by first | assumption | exact rd_ro (by assumption) | exact rd_bun (L := L) pk_ (in_map _ (by first | assumption | omega | (simp only [List.length_cons, List.length_nil]; omega) | decide) rfl) | exact rd_row pk_) (by decide) rfl (by first | assumption | omega | (simp only [List.length_cons, List.length_nil]; omega))) ?_
    refine e_q (q_loade (enc := Go.SL.encStr) (xs := s) (j := x.d) (off := 0) sc_9 rfl (by first | assumption | exact rd_ro (by assumption) | exact rd_bun (L := L) pk_ (in_map _ (by first | assumption | omega | (simp only [List.length_cons, List.length_nil]; omega) | decide) rfl) | exact rd_row pk_) (fun _ => rfl) (by first | assumption | omega | (simp only [List.length_cons, List.length_nil]; omega)) (by decide) rfl) ?_
    refine l_step (s_clob rfl wn hE rfl rfl sl_ (fun ρ' hL => hp _ (getD_in (by omega)) ρ' hL.1) ?_)
    rintro _ _ ⟨rfl, rfl⟩
    try simp only [List.cons_append, List.nil_append]
    refine l_n ?_
    refine c_cond rfl (fun h1 => ?_) (fun h1 => ?_)
    · skip
      refine sr ?_
      refine e_mv rfl ?_
      refine e_as rfl ?_
      refine l_n ?_
      refine c_ret ?_
      refine k_blk_r ?_
      refine k_then_r ?_
      refine k_then_r ?_
      refine k_blk_r ?_
      refine k_then_r ?_
      exact t_rt [Bun L] rfl (.tmp rfl .nil) rfl ⟨rfl, inte (idxP_at (by omega) hx2 h1).symm, rfl⟩
    · skip
      refine c_skip ?_
      refine k_blk_n ?_
      refine k_then_n ?_
      refine c_region ?_
      refine e_q (q_add rfl rfl (by omega) (by omega)) ?_
      refine e_mv rfl ?_
      refine l_n ?_
      exact t_nx (⟨x.d + 1, none, 0, none, 0, none, 0⟩ : Lp _) ⟨⟨by (try simp only []); omega, any_succ (by omega) hx2 h1⟩, by (try simp only []); omega⟩ (.c (.c (.c (.c (.nil _)))))
  · try simp only [decide_eq_true_eq, decide_eq_false_iff_not] at h0
    have hk : x.d = s.length := by omega
    rw [hk, List.take_length] at hx2
    refine c_exit ?_
    refine k_then_x ?_
    refine k_then_x ?_
    refine k_blk_x ?_
    refine k_then_n ?_
    refine sr ?_
    refine e_as rfl ?_
    refine l_n ?_
    refine c_ret ?_
    exact t_rt [Bun L] rfl (.tmp rfl .nil) rfl ⟨rfl, inte (idxP_none hx2).symm, rfl⟩

theorem containsFunc_spec (s_a : Option Addr) (s_n s_c : Nat) (s : List (List UInt8)) (hs_n : s.length = s_n) (f : Nat) (cs : List Value) (p : List UInt8 → Bool) (L : List Asn) (ρ : Hp) (hro : Ro ρ 1 s_a s_n s_c (s.flatMap Go.SL.encStr)) (hE : Go.SL.Enters Tryz.prog f) (hp : ∀ x ∈ s, ∀ ρ' : Hp, ρ.le ρ' → Spec0 Tryz.prog f ([strB x] ++ cs).toArray ρ' [Bun L] (fun v Γ' => v = .bool (p x) ∧ Γ' = [Bun L])) : Spec0 Tryz.prog 158 #[.slice s_a s_n s_c, .func (.func f) #[] cs.toArray] ρ [Bun L] (fun v Γ' => v = .bool (s.any p) ∧ Γ' = [Bun L]) := by
  refine spec_of (n := 9) (vs := [_, _]) (σ := [(0, _), (1, _)]) Tryz.func158 rfl rfl rfl rfl fun E Δ => ?_
  simp only [List.cons_append, List.nil_append]
  refine sr ?_
  refine e_as rfl ?_
  refine l_n ?_
  refine sr ?_
  refine e_mv rfl ?_
  refine e_mv rfl ?_
  refine e_fn Tryz.func215 rfl sl_ (fun ρ' hL => indexFunc_spec s_a s_n s_c s hs_n f cs p L ρ' (hL.ro hro) hE (fun x hx ρ'' hl => hp x hx ρ'' (hL.1.le_trans hl))) ?_
  rintro _ _ ⟨rfl, rfl⟩
  try simp only [List.cons_append, List.nil_append]
  refine e_q (q_geq rfl rfl) ?_
  refine e_as rfl ?_
  refine l_n ?_
  refine c_ret ?_
  exact t_rt [Bun L] rfl (.tmp rfl .nil) rfl ⟨rfl, boole (idxP_any p s), rfl⟩

theorem name_spec (names_a : Option Addr) (names_n names_c : Nat) (names : List (List UInt8)) (hnames_n : names.length = names_n) (ρ : Hp) (hns : ∀ s ∈ names, s.length ≤ 9223372036854775807) (hro : Ro ρ 1 names_a names_n names_c (names.flatMap Go.SL.encStr)) : Spec0 Tryz.prog 79 #[.slice names_a names_n names_c] ρ [] (fun v Γ' => v = .bool ((names.all nameB)) ∧ Γ' = []) := by
  refine spec_of (n := 6) (vs := [_]) (σ := [(0, _)]) Tryz.func79 rfl rfl rfl rfl fun E Δ => ?_
  rw [List.nil_append]
  refine sr ?_
  refine e_as rfl ?_
  refine l_n ?_
  refine sr ?_
  refine e_mv rfl ?_
  refine Tr.ent (bun_nil _) ?_
  refine e_fn Tryz.func158 rfl sl_ (fun ρ' hL => containsFunc_spec names_a names_n names_c names (by first | rfl | assumption) 159 [] (fun x => !nameB x) [] ρ' (by first | exact hL.ro (by assumption) | exact hL.bun (L := []) pk_ (in_map _ (by first | assumption | omega | (simp only [List.length_cons, List.length_nil]; omega) | decide) rfl) | exact hL.row pk_ | assumption) ⟨_, _, Tryz.func159, rfl, rfl⟩ (fun x hx ρ'' hl => spec0_bun (name1_spec x ρ'' (hns x hx)))) ?_
  rintro _ _ ⟨rfl, rfl⟩
  try simp only [List.cons_append, List.nil_append]
  refine e_q (q_not rfl) ?_
  refine e_as rfl ?_
  refine l_n ?_
  refine c_ret ?_
  exact t_rt [] rfl (.tmp rfl .nil) rfl ⟨rfl, boole (by simp [List.any_eq_not_all_not]), rfl⟩ (by (repeat refine Ent.skip ?_); exact Ent.refl _)

theorem there1_spec (s : (List UInt8)) (c b : Nat) (room : Int) (mb : Nat) (calls : Int) (T : FT) (ρ : Hp) : Spec0 Tryz.prog 206 #[(strB s), .pointer (some ⟨c, 0, none⟩)] ρ [.pts c [.pointer (some ⟨b, 0, none⟩)] 39, .pts b (encDisk1 (⟨room, (some mb), calls⟩ : Disk1)) 143, MP strB ptV mb (fm T)] (fun v Γ' => v = .bool (!mhas (vw T) s) ∧ Γ' = [.pts c [.pointer (some ⟨b, 0, none⟩)] 39, .pts b (encDisk1 (⟨room, (some mb), calls⟩ : Disk1)) 143, MP strB ptV mb (fm T)]) := by
  refine spec_of (n := 11) (vs := [_, _]) (σ := [(0, _), (1, _)]) Tryz.func206 rfl rfl rfl rfl fun E Δ => ?_
  simp only [List.cons_append, List.nil_append]
  refine sr ?_
  refine e_as rfl ?_
  refine l_n ?_
  refine sr ?_
  refine e_q (q_loadp (v := .pointer (some ⟨b, 0, none⟩)) sc_39 rfl pk_ rfl) ?_
  refine e_q (q_nilCheck rfl) ?_
  refine e_q (q_fieldp rfl fo_143_1) ?_
  refine e_q (q_loadp (v := .map (some mb)) sc_141 rfl pk_ rfl) ?_
  refine e_mv rfl ?_
  refine e_q (q_look (v := (ptV (mgetD (fm T) s none))) (ek := strB) (ev := ptV) (k := s) (zv := none) Tryz.underlying141 (mkey_str Tryz.underlying9) zi_152 rfl rfl pk_ rfl) ?_
  refine e_q (q_eqlo (e := (mgetD (fm T) s none)) rfl rfl Tryz.underlying152) ?_
  refine e_as rfl ?_
  refine l_n ?_
  refine c_ret ?_
  exact t_rt [.pts c [.pointer (some ⟨b, 0, none⟩)] 39, .pts b (encDisk1 (⟨room, (some mb), calls⟩ : Disk1)) 143, MP strB ptV mb (fm T)] rfl (.tmp rfl .nil) rfl ⟨rfl, boole (has_fm T s), rfl⟩

theorem there_spec (b : Nat) (room : Int) (mb : Nat) (calls : Int) (T : FT) (names_a : Option Addr) (names_n names_c : Nat) (names : List (List UInt8)) (hnames_n : names.length = names_n) (ρ : Hp) (hro : Ro ρ 1 names_a names_n names_c (names.flatMap Go.SL.encStr)) : Spec0 Tryz.prog 152 #[.pointer (some ⟨b, 0, none⟩), .slice names_a names_n names_c] ρ [.pts b (encDisk1 (⟨room, (some mb), calls⟩ : Disk1)) 143, MP strB ptV mb (fm T)] (fun v Γ' => v = .bool ((names.all (mhas (vw T)))) ∧ Γ' = [.pts b (encDisk1 (⟨room, (some mb), calls⟩ : Disk1)) 143, MP strB ptV mb (fm T)]) := by
  refine spec_of (n := 9) (vs := [_, _]) (σ := [(0, _), (1, _)]) Tryz.func152 rfl rfl rfl rfl fun E Δ => ?_
  simp only [List.cons_append, List.nil_append]
  refine sr ?_
  refine e_s (s_box (cs := [.pointer (some ⟨b, 0, none⟩)]) rfl rfl) ?_
  rintro _ _ ⟨b2, rfl, rfl⟩
  refine e_as rfl ?_
  refine l_n ?_
  refine sr ?_
  refine e_mv rfl ?_
  refine e_q (q_makeFunc rfl rfl) ?_
  refine Tr.ent (Ent.trans (Ent.pick (A := .pts b2 [.pointer (some ⟨b, 0, none⟩)] 39) pk_ (Ent.pick (A := .pts b (encDisk1 (⟨room, (some mb), calls⟩ : Disk1)) 143) pk_ (Ent.pick (A := MP strB ptV mb (fm T)) pk_ (Ent.refl _)))) (bun_in [.pts b2 [.pointer (some ⟨b, 0, none⟩)] 39, .pts b (encDisk1 (⟨room, (some mb), calls⟩ : Disk1)) 143, MP strB ptV mb (fm T)] _)) ?_
  refine e_fn Tryz.func158 rfl sl_ (fun ρ' hL => containsFunc_spec names_a names_n names_c names (by first | rfl | assumption) 206 [.pointer (some ⟨b2, 0, none⟩)] (fun x => !mhas (vw T) x) _ ρ' (by first | exact hL.ro (by assumption) | exact hL.bun (L := [.pts b2 [.pointer (some ⟨b, 0, none⟩)] 39, .pts b (encDisk1 (⟨room, (some mb), calls⟩ : Disk1)) 143, MP strB ptV mb (fm T)]) pk_ (in_map _ (by first | assumption | omega | (simp only [List.length_cons, List.length_nil]; omega) | decide) rfl) | exact hL.row pk_ | assumption) ⟨_, _, Tryz.func206, rfl, rfl⟩ (fun x hx ρ'' hl => spec0_bun (there1_spec x b2 b room mb calls T ρ''))) ?_
  rintro _ _ ⟨rfl, rfl⟩
  try simp only [List.cons_append, List.nil_append]
  refine e_q (q_not rfl) ?_
  refine e_as rfl ?_
  refine l_n ?_
  refine c_ret ?_
  refine Tr.ent (Ent.trans (Ent.pick (A := Bun [.pts b2 [.pointer (some ⟨b, 0, none⟩)] 39, .pts b (encDisk1 (⟨room, (some mb), calls⟩ : Disk1)) 143, MP strB ptV mb (fm T)]) pk_ (Ent.refl _)) (bun_out [.pts b2 [.pointer (some ⟨b, 0, none⟩)] 39, .pts b (encDisk1 (⟨room, (some mb), calls⟩ : Disk1)) 143, MP strB ptV mb (fm T)] _)) ?_
  simp only [List.cons_append, List.nil_append]
  exact t_rt [.pts b (encDisk1 (⟨room, (some mb), calls⟩ : Disk1)) 143, MP strB ptV mb (fm T)] rfl (.tmp rfl .nil) rfl ⟨rfl, boole (by simp [List.any_eq_not_all_not]), rfl⟩

theorem stopped_spec (b : Nat) (room : Int) (mb : Nat) (calls : Int) (T : FT) (ρ : Hp) (hc : calls ≤ 9223372036854775807) : Spec0 Tryz.prog 78 #[.pointer (some ⟨b, 0, none⟩)] ρ [.pts b (encDisk1 (⟨room, (some mb), calls⟩ : Disk1)) 143] (fun v Γ' => v = .bool (decide (calls = 0)) ∧ Γ' = [.pts b (encDisk1 (⟨room, (some mb), (decC calls)⟩ : Disk1)) 143]) := by
  refine spec_of (n := 20) (vs := [_]) (σ := [(0, _)]) Tryz.func78 rfl rfl rfl rfl fun E Δ => ?_
  simp only [List.cons_append, List.nil_append]
  refine sr ?_
  refine e_as rfl ?_
  refine l_n ?_
  refine c_seq ?_
  refine sr ?_
  refine e_mv rfl ?_
  refine e_q (q_nilCheck rfl) ?_
  refine e_q (q_fieldp rfl fo_143_2) ?_
  refine e_q (q_loadp (v := .int .i64 calls) sc_3 rfl pk_ rfl) ?_
  refine e_q (q_gtr rfl rfl) ?_
  refine l_n ?_
  refine c_cond rfl (fun h0 => ?_) (fun h0 => ?_)
  · try simp only [decide_eq_true_eq, decide_eq_false_iff_not] at h0
    refine sr ?_
    refine e_mv rfl ?_
    refine e_q (q_nilCheck rfl) ?_
    refine e_q (q_fieldp rfl fo_143_2) ?_
    refine e_q (q_loadp (v := .int .i64 calls) sc_3 rfl pk_ rfl) ?_
    refine e_q (q_sub rfl rfl (by omega) (by omega)) ?_
    refine e_q (q_nilCheck rfl) ?_
    refine e_q (q_fieldp rfl fo_143_2) ?_
    refine l_step (s_s0 wn (s_storep (ws := [.int .i64 (calls - 1)]) (cs := encDisk1 (⟨room, (some mb), calls⟩ : Disk1)) (cs' := encDisk1 (⟨room, (some mb), (calls - 1)⟩ : Disk1)) rfl rfl rfl sz_3 (by simp [Value.oneCell', strB, ptV, SL.v, SH.v]) (by simp [encDisk1]) rfl pk_) ?_)
    rintro _ _ ⟨rfl, rfl⟩
    refine l_n ?_
    refine sr ?_
    refine e_as rfl ?_
    refine l_n ?_
    refine c_ret ?_
    refine k_then_r ?_
    rw [show calls - 1 = decC calls from (if_pos h0).symm]
    exact t_rt [.pts b (encDisk1 (⟨room, (some mb), (decC calls)⟩ : Disk1)) 143] rfl (.tmp rfl .nil) rfl ⟨rfl, boole (decide_eq_false (by omega)).symm, rfl⟩
  · try simp only [decide_eq_true_eq, decide_eq_false_iff_not] at h0
    refine c_skip ?_
    refine k_then_n ?_
    refine sr ?_
    refine e_mv rfl ?_
    refine e_q (q_nilCheck rfl) ?_
    refine e_q (q_fieldp rfl fo_143_2) ?_
    refine e_q (q_loadp (v := .int .i64 calls) sc_3 rfl pk_ rfl) ?_
    refine e_q (q_eql rfl rfl) ?_
    refine e_as rfl ?_
    refine l_n ?_
    refine c_ret ?_
    have hd : decC calls = calls := if_neg h0
    exact t_rt [.pts b (encDisk1 (⟨room, (some mb), calls⟩ : Disk1)) 143] rfl (.tmp rfl .nil) rfl ⟨rfl, rfl, by rw [hd]⟩

theorem stop_spec (b : Nat) (room : Int) (mb : Nat) (calls : Int) (T : FT) (n : Int) (ρ : Hp) : Spec0 Tryz.prog 21 #[.pointer (some ⟨b, 0, none⟩), .int .i64 n] ρ [.pts b (encDisk1 (⟨room, (some mb), calls⟩ : Disk1)) 143] (fun v Γ' => v = .tuple #[] ∧ Γ' = [.pts b (encDisk1 (⟨room, (some mb), (if (-1) > n then (-1) else n)⟩ : Disk1)) 143]) := by
  refine spec_of (n := 9) (vs := [_, _]) (σ := [(0, _), (1, _)]) Tryz.func21 rfl rfl rfl rfl fun E Δ => ?_
  simp only [List.cons_append, List.nil_append]
  refine c_region ?_
  refine e_mv rfl ?_
  refine e_mv rfl ?_
  refine e_q (q_max2 rfl rfl) ?_
  refine e_q (q_nilCheck rfl) ?_
  refine e_q (q_fieldp rfl fo_143_2) ?_
  refine l_step (s_s0 wn (s_storep (ws := [.int .i64 (if (-1) > n then (-1) else n)]) (cs := encDisk1 (⟨room, (some mb), calls⟩ : Disk1)) (cs' := encDisk1 (⟨room, (some mb), (if (-1) > n then (-1) else n)⟩ : Disk1)) rfl rfl rfl sz_3 (by simp [Value.oneCell', strB, ptV, SL.v, SH.v]) (by simp [encDisk1]) rfl pk_) ?_)
  rintro _ _ ⟨rfl, rfl⟩
  refine l_nil ?_
  refine k_body_n ?_
  exact t_rt [.pts b (encDisk1 (⟨room, (some mb), (if (-1) > n then (-1) else n)⟩ : Disk1)) 143] rfl .nil rfl ⟨rfl, rfl, rfl⟩

theorem free_spec (b : Nat) (room : Int) (mb : Nat) (calls : Int) (T : FT) (ρ : Hp) (hU : (usedT T : Int) ≤ room) (hr : room ≤ 9223372036854775807) : Spec0 Tryz.prog 80 #[.pointer (some ⟨b, 0, none⟩)] ρ [.pts b (encDisk1 (⟨room, (some mb), calls⟩ : Disk1)) 143, MP strB ptV mb (fm T), FB 154 5 T] (fun v Γ' => v = .int .i64 ((room - (usedT T : Int))) ∧ Γ' = [.pts b (encDisk1 (⟨room, (some mb), calls⟩ : Disk1)) 143, MP strB ptV mb (fm T), FB 154 5 T]) := by
  refine spec_of (n := 27) (vs := [_]) (σ := [(0, _)]) Tryz.func80 rfl rfl rfl rfl fun E Δ => ?_
  simp only [List.cons_append, List.nil_append]
  refine sr ?_
  refine e_as rfl ?_
  refine l_n ?_
  refine sr ?_
  refine e_mv rfl ?_
  refine e_q (q_nilCheck rfl) ?_
  refine e_q (q_fieldp rfl fo_143_0) ?_
  refine e_q (q_loadp (v := .int .i64 room) sc_3 rfl pk_ rfl) ?_
  refine e_as rfl ?_
  refine l_n ?_
  refine c_seq ?_
  refine sr ?_
  refine e_mv rfl ?_
  refine e_q (q_nilCheck rfl) ?_
  refine e_q (q_fieldp rfl fo_143_1) ?_
  refine e_q (q_loadp (v := .map (some mb)) sc_141 rfl pk_ rfl) ?_
  refine e_s (s_range (ek := strB) (ev := ptV) (Γr := fun _ => _) Tryz.underlying141 rfl (fun _ => pk_)) ?_
  rintro _ _ ⟨r14, rfl, rfl⟩
  refine l_n ?_
  refine c_block ?_
  refine Tr.env (σ' := [(2, _), (3, _), (14, _)]) ev_ ?_
  refine t_loop (ι := Lp (FT)) (fun x => (∀ e ∈ x.d, e ∈ T) ∧ usedT x.d ≤ usedT T) (fun x => x.d.length) (fun x => [(2, .int .i64 0), (3, .int .i64 (room - ((usedT T : Int) - (usedT x.d : Int)))), (14, .pointer (some ⟨r14, 0, none⟩))]) (fun x => .pts b (encDisk1 (⟨room, (some mb), calls⟩ : Disk1)) 143 :: MI strB ptV mb r14 (fm T) (fm x.d) none :: FB 154 5 T :: Δ) (⟨T, none, 0, none, 0, none, 0⟩ : Lp _) ⟨fun _ h => h, Nat.le_refl _⟩ ?_ ?_ ?_
  · exact .c (.c (.c (.nil _)))
  · exact en_
  intro x hx
  obtain ⟨hx1, hx2⟩ := hx
  refine sr ?_
  refine e_s (s_next (ek := strB) (ev := ptV) (Γl := fun _ _ => _) rfl (fun _ _ => pk_)) ?_
  rintro _ _ (⟨rfl, hle15, rfl⟩ | ⟨j15, k15, u15, hj15, rfl, rfl⟩)
  · skip
    have hl0 : x.d = [] := List.map_eq_nil_iff.1 hle15
    refine e_q (q_extract rfl rfl) ?_
    refine l_n ?_
    refine c_seq ?_
    refine c_no rfl ?_
    refine c_exit ?_
    refine k_then_x ?_
    refine k_then_x ?_
    refine k_blk_x ?_
    refine k_then_n ?_
    refine sr ?_
    refine e_mv rfl ?_
    refine e_as rfl ?_
    refine l_n ?_
    refine c_ret ?_
    refine Tr.ent (Ent.trans (Ent.pick (A := MI strB ptV mb r14 (fm T) [] none) pk_ (Ent.refl _)) mi_mp) ?_
    exact t_rt [.pts b (encDisk1 (⟨room, (some mb), calls⟩ : Disk1)) 143, MP strB ptV mb (fm T), FB 154 5 T] rfl (.tmp rfl .nil) rfl ⟨rfl, inte (by rw [hl0]; simp [usedT]), rfl⟩
  · skip
    obtain ⟨e, hje, rfl, rfl⟩ := fm_at hj15
    rw [fm_erase]
    have hue := used_erase hje
    obtain ⟨i, hi, hie⟩ := List.getElem_of_mem (hx1 e (List.mem_of_getElem? hje))
    have hie2 : T[i]? = some e := by rw [List.getElem?_eq_getElem hi, hie]
    have hua := used_at hie2
    refine e_q (q_extract rfl rfl) ?_
    refine l_n ?_
    refine c_seq ?_
    refine c_yes rfl ?_
    refine c_skip ?_
    refine k_then_n ?_
    refine c_block ?_
    refine sr ?_
    refine Tr.ent (file_open (t := 154) (tb := 5) hie2 pk_) ?_
    refine e_q (q_entry (ek := strB) (ev := ptV) (k := e.name) (u := (some e.blk)) rfl pk_) ?_
    refine e_q (q_extract rfl rfl) ?_
    refine e_as rfl ?_
    refine l_n ?_
    refine c_region ?_
    refine e_mv rfl ?_
    refine e_mv rfl ?_
    refine e_q (q_nilCheck rfl) ?_
    refine e_q (q_fieldp rfl fo_154_0) ?_
    refine e_q (q_loadp (v := .slice e.a e.xs.length e.cap) sc_22 rfl pk_ rfl) ?_
    refine e_q (q_len Tryz.underlying22 rfl) ?_
    refine e_q (q_sub rfl rfl (by omega) (by omega)) ?_
    refine e_as rfl ?_
    refine l_nil ?_
    refine k_blk_n ?_
    refine k_then_n ?_
    refine Tr.ent (Ent.trans (Ent.pick (A := .pts e.blk (encFile1 (⟨⟨e.a, e.xs.length, e.cap⟩, e.safe⟩ : File1)) 154) pk_ (Ent.pick (A := .row 5 1 e.a e.xs.length e.cap (e.xs.flatMap encB)) pk_ (Ent.pick (A := Bun ((fL 154 5 T).eraseIdx i)) pk_ (Ent.refl _)))) (file_same (t := 154) (tb := 5) hie2)) ?_
    refine Tr.ent (mi_forget (ek := strB) (ev := ptV) (b := mb) (r := r14) (m := fm T) (left := fm (x.d.eraseIdx j15)) pk_) ?_
    exact t_nx (⟨x.d.eraseIdx j15, none, 0, none, 0, none, 0⟩ : Lp _) ⟨⟨fun y hy => hx1 y (List.mem_of_mem_eraseIdx hy), by (try simp only []); omega⟩, by have h9 := (List.getElem?_eq_some_iff.1 hje).1; simp only [List.length_eraseIdx]; rw [if_pos h9]; omega⟩ (.c (.c (.c (.nil _))))
end Go.Dsk

/-
  Package disk, walked.
-/
set_option maxRecDepth 100000
set_option maxHeartbeats 4000000
set_option linter.unusedSimpArgs false
set_option linter.unusedVariables false
namespace Go.Dsk.X
open Go Go.SL Go.Proofs Go.Dsk Go.Dsk.L
attribute [local irreducible] Go.SL.Ent
theorem eo_5 : elemOk Tryz.prog 5 1 1 = true := by kernel_rfl
theorem fo_143_1 : fieldOff Tryz.prog 143 1 = some (1, 141) := by kernel_rfl
theorem fo_154_0 : fieldOff Tryz.prog 154 0 = some (0, 22) := by kernel_rfl
theorem fo_154_1 : fieldOff Tryz.prog 154 1 = some (1, 3) := by kernel_rfl
theorem pl_143 : placesOf Tryz.prog 143 = some [(0, 1), (1, 1), (2, 1)] := by kernel_rfl
theorem sc_141 : isScalar Tryz.prog 141 = true := by kernel_rfl
theorem sc_22 : isScalar Tryz.prog 22 = true := by kernel_rfl
theorem sc_3 : isScalar Tryz.prog 3 = true := by kernel_rfl
theorem zc_143 : zeroCs Tryz.prog 143 = some [.int .i64 0, .map none, .int .i64 0] := by kernel_rfl
theorem zi_152 : (Tryz.prog.info? 152).bind (·.zero) = some (ptV none) := by kernel_rfl

theorem new_spec (room : Int) (ρ : Hp) : Spec0 Tryz.prog 19 #[.int .i64 room] ρ [] (fun v Γ' => (0 ≤ room ∧ ∃ b mb, v = .tuple #[.pointer (some ⟨b, 0, none⟩), .int .i64 0] ∧ Γ' = [.pts b (encDisk1 (⟨room, (some mb), (-1)⟩ : Disk1)) 143, MP strB ptV mb (fm []), FB 154 5 []]) ∨ (room < 0 ∧ v = .tuple #[.pointer none, .int .i64 2] ∧ Γ' = [])) := by
  refine spec_of (n := 10) (vs := [_]) (σ := [(0, _)]) Tryz.func19 rfl rfl rfl rfl fun E Δ => ?_
  rw [List.nil_append]
  refine sr ?_
  refine e_as rfl ?_
  refine e_as rfl ?_
  refine l_n ?_
  refine c_seq ?_
  refine sr ?_
  refine e_mv rfl ?_
  refine e_q (q_lss rfl rfl) ?_
  refine l_n ?_
  refine c_cond rfl (fun h0 => ?_) (fun h0 => ?_)
  · try simp only [decide_eq_true_eq, decide_eq_false_iff_not] at h0
    have hb : room < 0 := h0
    refine sr ?_
    refine e_as rfl ?_
    refine e_as rfl ?_
    refine l_n ?_
    refine c_ret ?_
    refine k_then_r ?_
    exact t_rt [] rfl (.tmp rfl (.tmp rfl .nil)) rfl ⟨rfl, .inr ⟨hb, rfl, rfl⟩⟩ (by (repeat refine Ent.skip ?_); exact Ent.refl _)
  · try simp only [decide_eq_true_eq, decide_eq_false_iff_not] at h0
    have hb : 0 ≤ room := by omega
    refine Tr.ent (bun_nil _) ?_
    refine c_skip ?_
    refine k_then_n ?_
    refine sr ?_
    refine e_mv rfl ?_
    refine e_s (s_makeMap (ek := strB) (ev := ptV)) ?_
    rintro _ _ ⟨b7, rfl, rfl⟩
    refine e_q (q_build (cs := encDisk1 (⟨room, (some b7), (-1)⟩ : Disk1)) zc_143 pl_143 rfl rfl) ?_
    refine e_s (s_box (cs := encDisk1 (⟨room, (some b7), (-1)⟩ : Disk1)) rfl rfl) ?_
    rintro _ _ ⟨b9, rfl, rfl⟩
    refine e_as rfl ?_
    refine e_as rfl ?_
    refine l_n ?_
    refine c_ret ?_
    exact t_rt [.pts b9 (encDisk1 (⟨room, (some b7), (-1)⟩ : Disk1)) 143, MP strB ptV b7 (fm []), FB 154 5 []] rfl (.tmp rfl (.tmp rfl .nil)) rfl ⟨rfl, .inl ⟨hb, b9, b7, rfl, rfl⟩⟩

theorem clone_spec (b_a : Option Addr) (b_n b_c : Nat) (b : List UInt8) (hb_n : b.length = b_n) (ρ : Hp) (hl : b_n ≤ 1000000000000) (hro : Ro ρ 1 b_a b_n b_c (b.flatMap encB)) : Spec0 Tryz.prog 89 #[.slice b_a b_n b_c] ρ [] (fun v Γ' => ∃ a c, v = .slice a b_n c ∧ Γ' = [.row 5 1 a b_n c (b.flatMap encB)]) := by
  refine spec_of (n := 8) (vs := [_]) (σ := [(0, _)]) Tryz.func89 rfl rfl rfl rfl fun E Δ => ?_
  rw [List.nil_append]
  refine sr ?_
  refine e_as rfl ?_
  refine l_n ?_
  refine c_seq ?_
  refine sr ?_
  refine e_mv rfl ?_
  refine e_q (q_eqnil Tryz.underlying22 rfl rfl) ?_
  refine l_n ?_
  refine c_cond rfl (fun h0 => ?_) (fun h0 => ?_)
  · skip
    obtain ⟨e1, e2⟩ := ro_nilB hro h0 hb_n
    subst e1
    subst e2
    refine sr ?_
    refine e_as rfl ?_
    refine l_n ?_
    refine c_ret ?_
    refine k_then_r ?_
    refine Tr.ent (Ent.nilrow 5 1 _) ?_
    exact t_rt [.row 5 1 none 0 0 (([] : List UInt8).flatMap encB)] rfl (.tmp rfl .nil) rfl ⟨rfl, none, 0, rfl, rfl⟩
  · skip
    refine c_skip ?_
    refine k_then_n ?_
    refine sr ?_
    refine e_s (s_buildSlice (cs := ([] : List UInt8).flatMap encB) Tryz.underlying22 eo_5 rfl rfl rfl rfl (by decide) (by decide)) ?_
    rintro _ _ ⟨b5, rfl, rfl⟩
    refine e_mv rfl ?_
    refine e_s (s_appendn (enc := encB) (xs := ([] : List UInt8)) (ys := (b : List UInt8)) (Γ' := fun a' cap' => _) Tryz.underlying22 eo_5 (by decide) rfl rfl (by first | assumption | exact rd_ro (by assumption) | exact rd_row pk_) (oneB _) (by first | omega | (simp only [List.length_append, List.length_cons, List.length_nil] at *; omega)) (by first | omega | (simp only [List.length_append, List.length_cons, List.length_nil] at *; omega)) (fun _ _ => pk_)) ?_
    rintro _ _ ⟨a7, c7, rfl, rfl⟩
    simp only [Nat.zero_add, List.nil_append]
    refine e_as rfl ?_
    refine l_n ?_
    refine c_ret ?_
    exact t_rt [.row 5 1 a7 b_n c7 (b.flatMap encB)] rfl (.tmp rfl .nil) rfl ⟨rfl, a7, c7, rfl, rfl⟩

theorem read_spec (b : Nat) (room : Int) (mb : Nat) (calls : Int) (T : FT) (name : (List UInt8)) (ρ : Hp) (hT : FOk T) : Spec0 Tryz.prog 31 #[.pointer (some ⟨b, 0, none⟩), (strB name)] ρ [.pts b (encDisk1 (⟨room, (some mb), calls⟩ : Disk1)) 143, MP strB ptV mb (fm T), FB 154 5 T] (fun v Γ' => ∃ a c, v = .tuple #[.slice a (mgetD (vw T) name zF).1.length c, .bool (mhas (vw T) name)] ∧ Γ' = [.row 5 1 a (mgetD (vw T) name zF).1.length c ((mgetD (vw T) name zF).1.flatMap encB), .pts b (encDisk1 (⟨room, (some mb), calls⟩ : Disk1)) 143, MP strB ptV mb (fm T), FB 154 5 T]) := by
  refine spec_of (n := 20) (vs := [_, _]) (σ := [(0, _), (1, _)]) Tryz.func31 rfl rfl rfl rfl fun E Δ => ?_
  simp only [List.cons_append, List.nil_append]
  refine sr ?_
  refine e_as rfl ?_
  refine e_as rfl ?_
  refine l_n ?_
  refine sr ?_
  refine e_mv rfl ?_
  refine e_q (q_nilCheck rfl) ?_
  refine e_q (q_fieldp rfl fo_143_1) ?_
  refine e_q (q_loadp (v := .map (some mb)) sc_141 rfl pk_ rfl) ?_
  refine e_mv rfl ?_
  refine e_q (q_look (v := (ptV (mgetD (fm T) name none))) (ek := strB) (ev := ptV) (k := name) (zv := none) Tryz.underlying141 (mkey_str Tryz.underlying9) zi_152 rfl rfl pk_ rfl) ?_
  refine e_as rfl ?_
  refine l_n ?_
  refine c_seq ?_
  refine sr ?_
  refine e_mv rfl ?_
  refine e_q (q_eqlo (e := (mgetD (fm T) name none)) rfl rfl Tryz.underlying152) ?_
  refine l_n ?_
  refine c_cond rfl (fun h0 => ?_) (fun h0 => ?_)
  · skip
    refine sr ?_
    refine e_as rfl ?_
    refine e_as rfl ?_
    refine l_n ?_
    refine c_ret ?_
    refine k_then_r ?_
    have hn := iso_none' h0
    refine Tr.ent (Ent.nilrow 5 1 _) ?_
    have e1 := getD_no hn
    have e2 := has_no hn
    exact t_rt [.row 5 1 none 0 0 (([] : List UInt8).flatMap encB), .pts b (encDisk1 (⟨room, (some mb), calls⟩ : Disk1)) 143, MP strB ptV mb (fm T), FB 154 5 T] rfl (.tmp rfl (.tmp rfl .nil)) rfl ⟨rfl, none, 0, by rw [e1, e2]; rfl, by rw [e1]; rfl⟩
  · skip
    obtain ⟨j, e, hjl, hj, hnm, hmg, hvg⟩ := look_some (opt_some h0)
    rw [hmg]
    refine Tr.ent (file_open (t := 154) (tb := 5) hj pk_) ?_
    refine c_skip ?_
    refine k_then_n ?_
    refine sr ?_
    refine e_mv rfl ?_
    refine e_q (q_nilCheck rfl) ?_
    refine e_q (q_fieldp rfl fo_154_0) ?_
    refine e_q (q_loadp (v := .slice e.a e.xs.length e.cap) sc_22 rfl pk_ rfl) ?_
    refine e_fn Tryz.func89 rfl sl_ (fun ρ' hL => clone_spec e.a e.xs.length e.cap e.xs rfl ρ' (Nat.le_trans (used_at hj) hT.us) (by first | exact hL.ro (by assumption) | exact hL.bun (L := (fL 154 5 T).eraseIdx j) pk_ (in_map _ (by first | assumption | omega | (simp only [List.length_cons, List.length_nil]; omega) | decide) rfl) | exact hL.row pk_ | assumption)) ?_
    rintro _ _ ⟨a19, c19, rfl, rfl⟩
    try simp only [List.cons_append, List.nil_append]
    refine e_as rfl ?_
    refine e_as rfl ?_
    refine l_n ?_
    refine c_ret ?_
    refine Tr.ent (Ent.trans (Ent.pick (A := .pts e.blk (encFile1 (⟨⟨e.a, e.xs.length, e.cap⟩, e.safe⟩ : File1)) 154) pk_ (Ent.pick (A := .row 5 1 e.a e.xs.length e.cap (e.xs.flatMap encB)) pk_ (Ent.pick (A := Bun ((fL 154 5 T).eraseIdx j)) pk_ (Ent.refl _)))) (file_same (t := 154) (tb := 5) hj)) ?_
    have e1 := getD_of hvg
    have e2 := has_of hvg
    exact t_rt [.row 5 1 a19 e.xs.length c19 (e.xs.flatMap encB), .pts b (encDisk1 (⟨room, (some mb), calls⟩ : Disk1)) 143, MP strB ptV mb (fm T), FB 154 5 T] rfl (.tmp rfl (.tmp rfl .nil)) rfl ⟨rfl, a19, c19, by rw [e1, e2]; rfl, by rw [e1]⟩

theorem safe_spec (b : Nat) (room : Int) (mb : Nat) (calls : Int) (T : FT) (name : (List UInt8)) (ρ : Hp) : Spec0 Tryz.prog 94 #[.pointer (some ⟨b, 0, none⟩), (strB name)] ρ [.pts b (encDisk1 (⟨room, (some mb), calls⟩ : Disk1)) 143, MP strB ptV mb (fm T), FB 154 5 T] (fun v Γ' => v = .int .i64 ((mgetD (vw T) name zF).2) ∧ Γ' = [.pts b (encDisk1 (⟨room, (some mb), calls⟩ : Disk1)) 143, MP strB ptV mb (fm T), FB 154 5 T]) := by
  refine spec_of (n := 18) (vs := [_, _]) (σ := [(0, _), (1, _)]) Tryz.func94 rfl rfl rfl rfl fun E Δ => ?_
  simp only [List.cons_append, List.nil_append]
  refine sr ?_
  refine e_as rfl ?_
  refine l_n ?_
  refine c_seq ?_
  refine sr ?_
  refine e_mv rfl ?_
  refine e_q (q_nilCheck rfl) ?_
  refine e_q (q_fieldp rfl fo_143_1) ?_
  refine e_q (q_loadp (v := .map (some mb)) sc_141 rfl pk_ rfl) ?_
  refine e_mv rfl ?_
  refine e_q (q_look (v := (ptV (mgetD (fm T) name none))) (ek := strB) (ev := ptV) (k := name) (zv := none) Tryz.underlying141 (mkey_str Tryz.underlying9) zi_152 rfl rfl pk_ rfl) ?_
  refine e_as rfl ?_
  refine l_n ?_
  refine sr ?_
  refine e_mv rfl ?_
  refine e_q (q_neqo (e := (mgetD (fm T) name none)) rfl rfl Tryz.underlying152) ?_
  refine l_n ?_
  refine c_cond rfl (fun h0 => ?_) (fun h0 => ?_)
  · skip
    obtain ⟨j, e, hjl, hj, hnm, hmg, hvg⟩ := look_some (iso_some h0)
    rw [hmg]
    refine Tr.ent (file_open (t := 154) (tb := 5) hj pk_) ?_
    refine sr ?_
    refine e_mv rfl ?_
    refine e_q (q_nilCheck rfl) ?_
    refine e_q (q_fieldp rfl fo_154_1) ?_
    refine e_q (q_loadp (v := .int .i64 e.safe) sc_3 rfl pk_ rfl) ?_
    refine e_as rfl ?_
    refine l_n ?_
    refine c_ret ?_
    refine k_then_r ?_
    refine Tr.ent (Ent.trans (Ent.pick (A := .pts e.blk (encFile1 (⟨⟨e.a, e.xs.length, e.cap⟩, e.safe⟩ : File1)) 154) pk_ (Ent.pick (A := .row 5 1 e.a e.xs.length e.cap (e.xs.flatMap encB)) pk_ (Ent.pick (A := Bun ((fL 154 5 T).eraseIdx j)) pk_ (Ent.refl _)))) (file_same (t := 154) (tb := 5) hj)) ?_
    have e1 := getD_of hvg
    exact t_rt [.pts b (encDisk1 (⟨room, (some mb), calls⟩ : Disk1)) 143, MP strB ptV mb (fm T), FB 154 5 T] rfl (.tmp rfl .nil) rfl ⟨rfl, by rw [e1]; rfl, rfl⟩
  · skip
    refine c_skip ?_
    refine k_then_n ?_
    refine sr ?_
    refine e_as rfl ?_
    refine l_n ?_
    refine c_ret ?_
    exact t_rt [.pts b (encDisk1 (⟨room, (some mb), calls⟩ : Disk1)) 143, MP strB ptV mb (fm T), FB 154 5 T] rfl (.tmp rfl .nil) rfl ⟨rfl, by rw [getD_no (iso_none h0)]; rfl, rfl⟩

theorem keysF_spec (mb : Nat) (ρ : Hp) : Spec0 Tryz.prog 88 #[.map (some mb)] ρ [] (fun v Γ' => ∃ c, v = .func (.func 162) #[] #[.pointer (some ⟨c, 0, none⟩)] ∧ Γ' = [.pts c [.map (some mb)] 141]) := by
  refine spec_of (n := 4) (vs := [_]) (σ := [(0, _)]) Tryz.func88 rfl rfl rfl rfl fun E Δ => ?_
  rw [List.nil_append]
  refine sr ?_
  refine e_s (s_box (cs := [.map (some mb)]) rfl rfl) ?_
  rintro _ _ ⟨b1, rfl, rfl⟩
  refine e_as rfl ?_
  refine l_n ?_
  refine sr ?_
  refine e_q (q_makeFunc rfl rfl) ?_
  refine e_as rfl ?_
  refine l_n ?_
  refine c_ret ?_
  exact t_rt [.pts b1 [.map (some mb)] 141] rfl (.tmp rfl .nil) rfl ⟨rfl, b1, rfl, rfl⟩

theorem names_spec (b : Nat) (room : Int) (mb : Nat) (calls : Int) (T : FT) (ρ : Hp) (hT : FOk T) : Spec0 Tryz.prog 30 #[.pointer (some ⟨b, 0, none⟩)] ρ [.pts b (encDisk1 (⟨room, (some mb), calls⟩ : Disk1)) 143, MP strB ptV mb (fm T), FB 154 5 T] (fun v Γ' => ∃ a c, v = .slice a T.length c ∧ Γ' = [.row 9 1 a T.length c ((sortS (T.map (·.name))).flatMap Go.SL.encStr), .pts b (encDisk1 (⟨room, (some mb), calls⟩ : Disk1)) 143, MP strB ptV mb (fm T), FB 154 5 T]) := by
  refine spec_of (n := 9) (vs := [_]) (σ := [(0, _)]) Tryz.func30 rfl rfl rfl rfl fun E Δ => ?_
  simp only [List.cons_append, List.nil_append]
  have hW : ∀ k ∈ mkeys (fm T), k.length ≤ maxLen := fun k hk => by rw [fm_keys] at hk; obtain ⟨e, he, rfl⟩ := List.mem_map.1 hk; exact Nat.le_trans (hT.nm e he) (by decide)
  refine sr ?_
  refine e_as rfl ?_
  refine l_n ?_
  refine sr ?_
  refine e_mv rfl ?_
  refine e_q (q_nilCheck rfl) ?_
  refine e_q (q_fieldp rfl fo_143_1) ?_
  refine e_q (q_loadp (v := .map (some mb)) sc_141 rfl pk_ rfl) ?_
  refine e_fn Tryz.func88 rfl sl_ (fun ρ' hL => keysF_spec mb ρ') ?_
  rintro _ _ ⟨c7, rfl, rfl⟩
  try simp only [List.cons_append, List.nil_append]
  refine e_fn Tryz.func87 rfl sl_ (fun ρ' hL => keysF_sorted mb c7 (fm T) hW (by rw [fm_len]; have := hT.ln; omega) 141 ρ') ?_
  rintro _ _ ⟨a8, c8, rfl, rfl⟩
  try simp only [List.cons_append, List.nil_append]
  refine e_as rfl ?_
  refine l_n ?_
  refine c_ret ?_
  rw [fm_keys, fm_len]
  exact t_rt [.row 9 1 a8 T.length c8 ((sortS (T.map (·.name))).flatMap Go.SL.encStr), .pts b (encDisk1 (⟨room, (some mb), calls⟩ : Disk1)) 143, MP strB ptV mb (fm T), FB 154 5 T] rfl (.tmp rfl .nil) rfl ⟨rfl, a8, c8, rfl, rfl⟩
end Go.Dsk.X

/-
  Package disk, walked.
-/
set_option maxRecDepth 100000
set_option maxHeartbeats 4000000
set_option linter.unusedSimpArgs false
set_option linter.unusedVariables false
namespace Go.Dsk.Y
open Go Go.SL Go.Proofs Go.Dsk Go.Dsk.L Go.Dsk.X
attribute [local irreducible] Go.SL.Ent
theorem eo_5 : elemOk Tryz.prog 5 1 1 = true := by kernel_rfl
theorem eo_9 : elemOk Tryz.prog 9 1 16 = true := by kernel_rfl
theorem fo_143_1 : fieldOff Tryz.prog 143 1 = some (1, 141) := by kernel_rfl
theorem fo_154_0 : fieldOff Tryz.prog 154 0 = some (0, 22) := by kernel_rfl
theorem pl_154 : placesOf Tryz.prog 154 = some [(0, 1), (1, 1)] := by kernel_rfl
theorem sc_141 : isScalar Tryz.prog 141 = true := by kernel_rfl
theorem sc_22 : isScalar Tryz.prog 22 = true := by kernel_rfl
theorem sz_22 : sizeIs Tryz.prog 22 = some 1 := by kernel_rfl
theorem zc_154 : zeroCs Tryz.prog 154 = some [.slice none 0 0, .int .i64 0] := by kernel_rfl
theorem zi_152 : (Tryz.prog.info? 152).bind (·.zero) = some (ptV none) := by kernel_rfl

theorem append_spec (b : Nat) (room : Int) (mb : Nat) (calls : Int) (T : FT) (name : (List UInt8)) (bs_a : Option Addr) (bs_n bs_c : Nat) (bs : List (SL UInt8)) (hbs_n : bs.length = bs_n) (ρ : Hp) (hT : FOk T) (hU : (usedT T : Int) ≤ room) (hr : room ≤ 9223372036854775807) (hc : calls ≤ 9223372036854775807) (hn : name.length ≤ 9223372036854775807) (hbn : bs_n ≤ 1000000) (hbl : usedT T + (bs.flatMap fun x : SL UInt8 => x.xs).length ≤ 1000000000000) (hbs : Ro ρ 1 bs_a bs_n bs_c (bs.flatMap encSL)) (hbm : ∀ s ∈ bs, s.ro encB 1 ρ) : Spec0 Tryz.prog 26 #[.pointer (some ⟨b, 0, none⟩), (strB name), .slice bs_a bs_n bs_c] ρ [.pts b (encDisk1 (⟨room, (some mb), calls⟩ : Disk1)) 143, MP strB ptV mb (fm T), FB 154 5 T] (fun v Γ' => ∃ T', v = .int .i64 (appR room calls (vw T) name (bs.flatMap fun x : SL UInt8 => x.xs)).1 ∧ vw T' = (appR room calls (vw T) name (bs.flatMap fun x : SL UInt8 => x.xs)).2 ∧ Γ' = [.pts b (encDisk1 (⟨room, (some mb), (decC calls)⟩ : Disk1)) 143, MP strB ptV mb (fm T'), FB 154 5 T']) := by
  refine spec_of (n := 63) (vs := [_, _, _]) (σ := [(0, _), (1, _), (2, _)]) Tryz.func26 rfl rfl rfl rfl fun E Δ => ?_
  simp only [List.cons_append, List.nil_append]
  have hTl := hT.ln
  refine sr ?_
  refine e_as rfl ?_
  refine l_n ?_
  refine sr ?_
  refine e_mv rfl ?_
  refine e_fn Tryz.func77 rfl sl_ (fun ρ' hL => join_s joinA bs_a bs_n bs_c bs hbs_n (by omega) (by omega) ρ' (by first | exact hL.ro (by assumption) | exact hL.row pk_ | assumption) (fun s hs => Ro.mono hL.1 (hbm s hs))) ?_
  rintro _ _ ⟨am, cm, rfl, rfl⟩
  try simp only [List.cons_append, List.nil_append]
  refine e_as rfl ?_
  refine l_n ?_
  refine sr ?_
  refine e_mv rfl ?_
  refine e_q (q_nilCheck rfl) ?_
  refine e_q (q_fieldp rfl fo_143_1) ?_
  refine e_q (q_loadp (v := .map (some mb)) sc_141 rfl pk_ rfl) ?_
  refine e_mv rfl ?_
  refine e_q (q_look (v := (ptV (mgetD (fm T) name none))) (ek := strB) (ev := ptV) (k := name) (zv := none) Tryz.underlying141 (mkey_str Tryz.underlying9) zi_152 rfl rfl pk_ rfl) ?_
  refine e_as rfl ?_
  refine l_n ?_
  refine c_seq ?_
  refine c_block ?_
  refine sr ?_
  refine e_mv rfl ?_
  refine e_fn Tryz.func78 rfl sl_ (fun ρ' hL => stopped_spec b room mb calls T ρ' (by first | assumption | omega)) ?_
  rintro _ _ ⟨rfl, rfl⟩
  try simp only [List.cons_append, List.nil_append]
  refine e_as rfl ?_
  refine l_n ?_
  refine c_cond rfl (fun h0 => ?_) (fun h0 => ?_)
  · try simp only [decide_eq_true_eq, decide_eq_false_iff_not] at h0
    refine sr ?_
    refine e_as rfl ?_
    refine l_n ?_
    refine c_ret ?_
    refine k_blk_r ?_
    refine k_then_r ?_
    exact t_rt [.pts b (encDisk1 (⟨room, (some mb), (decC calls)⟩ : Disk1)) 143, MP strB ptV mb (fm T), FB 154 5 T] rfl (.tmp rfl .nil) rfl ⟨rfl, T, by rw [show (appR room calls (vw T) name (bs.flatMap fun x : SL UInt8 => x.xs)) = (32, vw T) from if_pos h0]; rfl, by rw [show (appR room calls (vw T) name (bs.flatMap fun x : SL UInt8 => x.xs)) = (32, vw T) from if_pos h0], rfl⟩
  · try simp only [decide_eq_true_eq, decide_eq_false_iff_not] at h0
    refine sr ?_
    have hnl : ∀ s ∈ [name], s.length ≤ 9223372036854775807 := fun s hs => by rw [List.mem_singleton.1 hs]; exact hn
    refine e_mv rfl ?_
    refine e_s (s_buildSlice (cs := ([name] : List (List UInt8)).flatMap Go.SL.encStr) Tryz.underlying52 eo_9 rfl rfl rfl rfl (by decide) (by decide)) ?_
    rintro _ _ ⟨b22, rfl, rfl⟩
    refine l_step (s_fnq rfl wn Tryz.func79 rfl (by kernel_rfl) rfl (fun ρ' hL => name_spec (some ⟨b22, 0, none⟩) 1 1 [name] (by first | rfl | assumption | (simp; done) | (simp <;> omega) | omega) ρ' (by first | assumption | exact fun s hs => Nat.le_trans (nml s hs) (by decide)) (by first | exact hL.ro (by assumption) | exact hL.row pk_ | assumption)) ?_)
    refine e_q (q_not rfl) ?_
    refine e_as rfl ?_
    refine l_n ?_
    refine c_cond rfl (fun h1 => ?_) (fun h1 => ?_)
    · skip
      have hnb : nameB name = false := by simpa using h1
      refine sr ?_
      refine e_as rfl ?_
      refine l_n ?_
      refine c_ret ?_
      refine k_blk_r ?_
      refine k_then_r ?_
      have hr : (appR room calls (vw T) name (bs.flatMap fun x : SL UInt8 => x.xs)) = (30, vw T) := by unfold appR; rw [if_neg h0, if_pos hnb]
      exact t_rt [.pts b (encDisk1 (⟨room, (some mb), (decC calls)⟩ : Disk1)) 143, MP strB ptV mb (fm T), FB 154 5 T] rfl (.tmp rfl .nil) rfl ⟨rfl, T, by rw [hr]; rfl, by rw [hr], rfl⟩
    · skip
      have hnb : nameB name = true := by simpa using h1
      refine sr ?_
      refine e_mv rfl ?_
      refine e_q (q_len Tryz.underlying22 rfl) ?_
      refine e_mv rfl ?_
      refine l_step (s_fnr rfl wn Tryz.func80 rfl (by kernel_rfl) rfl sl_ (fun ρ' hL => free_spec b room mb (decC calls) T ρ' (by first | assumption | omega) (by first | assumption | omega)) ?_)
      refine e_q (q_gtr rfl rfl) ?_
      refine e_mv rfl ?_
      refine l_step (s_qg rfl (ask_f rfl rfl) (b := (!(decide (((room - (usedT T : Int))) < ((bs.flatMap fun x : SL UInt8 => x.xs).length : Int))))) (fun hb => q_move rfl) ?_)
      refine l_step (s_qg rfl (ask_f rfl rfl) (b := (!(decide (((room - (usedT T : Int))) < ((bs.flatMap fun x : SL UInt8 => x.xs).length : Int))))) (fun hb => OpQ.env (.cons rfl (gd_t hb) (.nil _) : EnvLe [(32, (ptV (mgetD (fm T) name none)))] _) (q_eqlo (e := (mgetD (fm T) name none)) rfl rfl Tryz.underlying152)) ?_)
      refine l_step (s_qg rfl (ask_f rfl rfl) (b := (!(decide (((room - (usedT T : Int))) < ((bs.flatMap fun x : SL UInt8 => x.xs).length : Int))))) (fun hb => OpQ.env (.cons rfl (gd_t hb) (.nil _) : EnvLe [(33, .bool ((mgetD (fm T) name none).isNone))] _) (q_move rfl)) ?_)
      refine l_step (s_qg rfl (ask_gt rfl rfl) (b := ((!(decide (((room - (usedT T : Int))) < ((bs.flatMap fun x : SL UInt8 => x.xs).length : Int)))) && ((mgetD (fm T) name none).isNone))) (fun hb => q_move rfl) ?_)
      refine l_step (s_qg rfl (ask_gt rfl rfl) (b := ((!(decide (((room - (usedT T : Int))) < ((bs.flatMap fun x : SL UInt8 => x.xs).length : Int)))) && ((mgetD (fm T) name none).isNone))) (fun hb => OpQ.env (.cons rfl (gd_t hb) (.nil _) : EnvLe [(35, .pointer (some ⟨b, 0, none⟩))] _) (q_nilCheck rfl)) ?_)
      refine l_step (s_qg rfl (ask_gt rfl rfl) (b := ((!(decide (((room - (usedT T : Int))) < ((bs.flatMap fun x : SL UInt8 => x.xs).length : Int)))) && ((mgetD (fm T) name none).isNone))) (fun hb => OpQ.env (.cons rfl (gd_t hb) (.nil _) : EnvLe [(36, .pointer (some ⟨b, 0, none⟩))] _) (q_fieldp rfl fo_143_1)) ?_)
      refine l_step (s_qg rfl (ask_gt rfl rfl) (b := ((!(decide (((room - (usedT T : Int))) < ((bs.flatMap fun x : SL UInt8 => x.xs).length : Int)))) && ((mgetD (fm T) name none).isNone))) (fun hb => OpQ.env (.cons rfl (gd_t hb) (.nil _) : EnvLe [(37, .pointer (some ⟨b, 1, none⟩))] _) (q_loadp (v := .map (some mb)) sc_141 rfl pk_ rfl)) ?_)
      refine l_step (s_qg rfl (ask_gt rfl rfl) (b := ((!(decide (((room - (usedT T : Int))) < ((bs.flatMap fun x : SL UInt8 => x.xs).length : Int)))) && ((mgetD (fm T) name none).isNone))) (fun hb => OpQ.env (.cons rfl (gd_t hb) (.nil _) : EnvLe [(38, .map (some mb))] _) (q_lenm (ek := strB) (ev := ptV) Tryz.underlying141 rfl pk_)) ?_)
      refine l_step (s_qg rfl (ask_gt rfl rfl) (b := ((!(decide (((room - (usedT T : Int))) < ((bs.flatMap fun x : SL UInt8 => x.xs).length : Int)))) && ((mgetD (fm T) name none).isNone))) (fun hb => OpQ.env (.cons rfl (gd_t hb) (.nil _) : EnvLe [(39, .int .i64 ((fm T).length : Int))] _) (q_geq rfl rfl)) ?_)
      refine l_step (s_qg rfl (ask_f rfl rfl) (b := (!(decide (((room - (usedT T : Int))) < ((bs.flatMap fun x : SL UInt8 => x.xs).length : Int))))) (fun hb => OpQ.env (.cons rfl (gd_t hb) (.cons rfl rfl (.nil _)) : EnvLe [(34, .bool ((mgetD (fm T) name none).isNone)), (40, gd ((!(decide (((room - (usedT T : Int))) < ((bs.flatMap fun x : SL UInt8 => x.xs).length : Int)))) && ((mgetD (fm T) name none).isNone)) (.bool (decide (4096 ≤ ((fm T).length : Int)))))] _) (q_pick_and rfl rfl rfl (fun h => by simp_all))) ?_)
      refine e_q (q_pick_or rfl rfl rfl (fun h => by first | (rw [h]; rfl) | exact congrArg not h)) ?_
      refine e_as rfl ?_
      refine l_n ?_
      rw [has_fm, fm_len]
      refine c_cond rfl (fun h2 => ?_) (fun h2 => ?_)
      · skip
        have hfl := h2
        refine sr ?_
        refine e_as rfl ?_
        refine l_n ?_
        refine c_ret ?_
        refine k_blk_r ?_
        refine k_then_r ?_
        have hr : (appR room calls (vw T) name (bs.flatMap fun x : SL UInt8 => x.xs)) = (31, vw T) := by unfold appR; rw [if_neg h0, if_neg (by rw [hnb]; decide), if_pos (by rw [used_vw, vw_len]; exact hfl)]
        exact t_rt [.pts b (encDisk1 (⟨room, (some mb), (decC calls)⟩ : Disk1)) 143, MP strB ptV mb (fm T), FB 154 5 T] rfl (.tmp rfl .nil) rfl ⟨rfl, T, by rw [hr]; rfl, by rw [hr], rfl⟩
      · skip
        have hfl := h2
        refine sr ?_
        refine e_mv rfl ?_
        refine e_q (q_eqlo (e := (mgetD (fm T) name none)) rfl rfl Tryz.underlying152) ?_
        refine e_as rfl ?_
        refine l_n ?_
        refine c_cond rfl (fun h3 => ?_) (fun h3 => ?_)
        · skip
          refine sr ?_
          refine e_q (q_build (cs := encFile1 (⟨⟨none, 0, 0⟩, 0⟩ : File1)) zc_154 pl_154 rfl rfl) ?_
          refine e_s (s_box (cs := encFile1 (⟨⟨none, 0, 0⟩, 0⟩ : File1)) rfl rfl) ?_
          rintro _ _ ⟨b47, rfl, rfl⟩
          refine e_as rfl ?_
          refine l_n ?_
          refine c_region ?_
          refine e_mv rfl ?_
          refine e_q (q_nilCheck rfl) ?_
          refine e_q (q_fieldp rfl fo_143_1) ?_
          refine e_q (q_loadp (v := .map (some mb)) sc_141 rfl pk_ rfl) ?_
          refine e_mv rfl ?_
          refine e_mv rfl ?_
          refine l_step (s_s0 wn (s_mset (ek := strB) (ev := ptV) (k := name) (v := (some b47)) (m' := (mset (fm T) name (some b47))) Tryz.underlying141 (mkey_str Tryz.underlying9) rfl rfl rfl rfl rfl pk_) ?_)
          rintro _ _ ⟨rfl, rfl⟩
          refine l_nil ?_
          refine k_blk_n ?_
          refine k_then_n ?_
          refine sr ?_
          refine e_mv rfl ?_
          refine e_mv rfl ?_
          refine e_q (q_nilCheck rfl) ?_
          refine e_q (q_fieldp rfl fo_154_0) ?_
          refine e_q (q_loadp (v := .slice none 0 0) sc_22 rfl pk_ rfl) ?_
          refine e_mv rfl ?_
          refine Tr.ent (Ent.nilrow 5 1 _) ?_
          refine e_s (s_appendn (enc := encB) (xs := ([] : List UInt8)) (ys := ((bs.flatMap fun x : SL UInt8 => x.xs) : List UInt8)) (Γ' := fun a' cap' => _) Tryz.underlying22 eo_5 (by decide) rfl rfl (rd_rob pk_) (oneB _) (by first | omega | (simp only [List.length_append, List.length_cons, List.length_nil] at *; omega)) (by first | omega | (simp only [List.length_append, List.length_cons, List.length_nil] at *; omega)) (fun _ _ => pk_)) ?_
          rintro _ _ ⟨a60, c60, rfl, rfl⟩
          simp only [Nat.zero_add, List.nil_append]
          refine e_q (q_nilCheck rfl) ?_
          refine e_q (q_fieldp rfl fo_154_0) ?_
          refine l_step (s_s0 wn (s_storep (ws := [.slice a60 ((bs.flatMap fun x : SL UInt8 => x.xs).length) c60]) (cs := encFile1 (⟨⟨none, 0, 0⟩, 0⟩ : File1)) (cs' := encFile1 (⟨⟨a60, (bs.flatMap fun x : SL UInt8 => x.xs).length, c60⟩, 0⟩ : File1)) rfl rfl rfl sz_22 (by simp [Value.oneCell', strB, ptV, SL.v, SH.v]) (by simp [encFile1]) rfl pk_) ?_)
          rintro _ _ ⟨rfl, rfl⟩
          refine l_n ?_
          refine sr ?_
          refine e_as rfl ?_
          refine l_n ?_
          refine c_ret ?_
          have hr0 : (appR room calls (vw T) name (bs.flatMap fun x : SL UInt8 => x.xs)) = (0, mset (vw T) name ((mgetD (vw T) name zF).1 ++ (bs.flatMap fun x : SL UInt8 => x.xs), (mgetD (vw T) name zF).2)) := by unfold appR; rw [if_neg h0, if_neg (by rw [hnb]; decide), if_neg (by rw [used_vw, vw_len, hfl]; decide)]
          refine Tr.ent (Ent.trans (Ent.pick (A := .pts b47 (encFile1 (⟨⟨a60, (bs.flatMap fun x : SL UInt8 => x.xs).length, c60⟩, 0⟩ : File1)) 154) pk_ (Ent.pick (A := .row 5 1 a60 ((bs.flatMap fun x : SL UInt8 => x.xs).length) c60 ((bs.flatMap fun x : SL UInt8 => x.xs).flatMap encB)) pk_ (Ent.pick (A := FB 154 5 T) pk_ (Ent.refl _)))) (file_new (t := 154) (tb := 5) ⟨name, b47, a60, c60, (bs.flatMap fun x : SL UInt8 => x.xs), 0⟩)) ?_
          have hnn := look_none (opt_none h3)
          have hr : (appR room calls (vw T) name (bs.flatMap fun x : SL UInt8 => x.xs)) = (0, vw (T ++ [⟨name, b47, a60, c60, (bs.flatMap fun x : SL UInt8 => x.xs), 0⟩])) := by rw [hr0, getD_no (opt_none h3)]; exact congrArg (Prod.mk 0) (vw_new (e := ⟨name, b47, a60, c60, (bs.flatMap fun x : SL UInt8 => x.xs), 0⟩) hnn).symm
          rw [show mset (fm T) name (some b47) = fm (T ++ [⟨name, b47, a60, c60, (bs.flatMap fun x : SL UInt8 => x.xs), 0⟩]) from fm_new (e := ⟨name, b47, a60, c60, (bs.flatMap fun x : SL UInt8 => x.xs), 0⟩) hnn]
          exact t_rt [.pts b (encDisk1 (⟨room, (some mb), (decC calls)⟩ : Disk1)) 143, MP strB ptV mb (fm (T ++ [⟨name, b47, a60, c60, (bs.flatMap fun x : SL UInt8 => x.xs), 0⟩])), FB 154 5 (T ++ [⟨name, b47, a60, c60, (bs.flatMap fun x : SL UInt8 => x.xs), 0⟩])] rfl (.tmp rfl .nil) rfl ⟨rfl, (T ++ [⟨name, b47, a60, c60, (bs.flatMap fun x : SL UInt8 => x.xs), 0⟩]), by rw [hr]; rfl, by rw [hr], rfl⟩
        · skip
          obtain ⟨j, e, hjl, hj, hnm, hmg, hvg⟩ := look_some (opt_some h3)
          rw [hmg]
          refine Tr.ent (file_open (t := 154) (tb := 5) hj pk_) ?_
          have hua := used_at hj
          refine c_skip ?_
          refine k_blk_n ?_
          refine k_then_n ?_
          refine sr ?_
          refine e_mv rfl ?_
          refine e_mv rfl ?_
          refine e_q (q_nilCheck rfl) ?_
          refine e_q (q_fieldp rfl fo_154_0) ?_
          refine e_q (q_loadp (v := .slice e.a e.xs.length e.cap) sc_22 rfl pk_ rfl) ?_
          refine e_mv rfl ?_
          refine e_s (s_appendn (enc := encB) (xs := (e.xs : List UInt8)) (ys := ((bs.flatMap fun x : SL UInt8 => x.xs) : List UInt8)) (Γ' := fun a' cap' => _) Tryz.underlying22 eo_5 (by decide) rfl rfl (rd_rob pk_) (oneB _) (by first | omega | (simp only [List.length_append, List.length_cons, List.length_nil] at *; omega)) (by first | omega | (simp only [List.length_append, List.length_cons, List.length_nil] at *; omega)) (fun _ _ => pk_)) ?_
          rintro _ _ ⟨a60, c60, rfl, rfl⟩
          refine e_q (q_nilCheck rfl) ?_
          refine e_q (q_fieldp rfl fo_154_0) ?_
          refine l_step (s_s0 wn (s_storep (ws := [.slice a60 (e.xs.length + (bs.flatMap fun x : SL UInt8 => x.xs).length) c60]) (cs := encFile1 (⟨⟨e.a, e.xs.length, e.cap⟩, e.safe⟩ : File1)) (cs' := encFile1 (⟨⟨a60, (e.xs.length + (bs.flatMap fun x : SL UInt8 => x.xs).length), c60⟩, e.safe⟩ : File1)) rfl rfl rfl sz_22 (by simp [Value.oneCell', strB, ptV, SL.v, SH.v]) (by simp [encFile1]) rfl pk_) ?_)
          rintro _ _ ⟨rfl, rfl⟩
          refine l_n ?_
          refine sr ?_
          refine e_as rfl ?_
          refine l_n ?_
          refine c_ret ?_
          have hr0 : (appR room calls (vw T) name (bs.flatMap fun x : SL UInt8 => x.xs)) = (0, mset (vw T) name ((mgetD (vw T) name zF).1 ++ (bs.flatMap fun x : SL UInt8 => x.xs), (mgetD (vw T) name zF).2)) := by unfold appR; rw [if_neg h0, if_neg (by rw [hnb]; decide), if_neg (by rw [used_vw, vw_len, hfl]; decide)]
          rw [show e.xs.length + (bs.flatMap fun x : SL UInt8 => x.xs).length = (e.xs ++ (bs.flatMap fun x : SL UInt8 => x.xs)).length from (List.length_append ..).symm]
          refine Tr.ent (Ent.trans (Ent.pick (A := .pts e.blk (encFile1 (⟨⟨a60, (e.xs ++ (bs.flatMap fun x : SL UInt8 => x.xs)).length, c60⟩, e.safe⟩ : File1)) 154) pk_ (Ent.pick (A := .row 5 1 a60 ((e.xs ++ (bs.flatMap fun x : SL UInt8 => x.xs)).length) c60 ((e.xs ++ (bs.flatMap fun x : SL UInt8 => x.xs)).flatMap encB)) pk_ (Ent.pick (A := Bun ((fL 154 5 T).eraseIdx j)) pk_ (Ent.refl _)))) (file_shut (t := 154) (tb := 5) ⟨e.name, e.blk, a60, c60, e.xs ++ (bs.flatMap fun x : SL UInt8 => x.xs), e.safe⟩ hj)) ?_
          have hr : (appR room calls (vw T) name (bs.flatMap fun x : SL UInt8 => x.xs)) = (0, vw (T.set j ⟨e.name, e.blk, a60, c60, e.xs ++ (bs.flatMap fun x : SL UInt8 => x.xs), e.safe⟩)) := by rw [hr0, getD_of hvg, vw_set (e' := ⟨e.name, e.blk, a60, c60, e.xs ++ (bs.flatMap fun x : SL UInt8 => x.xs), e.safe⟩) hT.nd hj rfl, hnm]
          rw [← fm_set (e' := ⟨e.name, e.blk, a60, c60, e.xs ++ (bs.flatMap fun x : SL UInt8 => x.xs), e.safe⟩) hj rfl rfl]
          exact t_rt [.pts b (encDisk1 (⟨room, (some mb), (decC calls)⟩ : Disk1)) 143, MP strB ptV mb (fm (T.set j ⟨e.name, e.blk, a60, c60, e.xs ++ (bs.flatMap fun x : SL UInt8 => x.xs), e.safe⟩)), FB 154 5 (T.set j ⟨e.name, e.blk, a60, c60, e.xs ++ (bs.flatMap fun x : SL UInt8 => x.xs), e.safe⟩)] rfl (.tmp rfl .nil) rfl ⟨rfl, (T.set j ⟨e.name, e.blk, a60, c60, e.xs ++ (bs.flatMap fun x : SL UInt8 => x.xs), e.safe⟩), by rw [hr]; rfl, by rw [hr], rfl⟩
end Go.Dsk.Y

/-
  Package disk, walked.
-/
set_option maxRecDepth 100000
set_option maxHeartbeats 4000000
set_option linter.unusedSimpArgs false
set_option linter.unusedVariables false
namespace Go.Dsk.Z
open Go Go.SL Go.Proofs Go.Dsk Go.Dsk.L Go.Dsk.X
attribute [local irreducible] Go.SL.Ent
theorem fo_143_1 : fieldOff Tryz.prog 143 1 = some (1, 141) := by kernel_rfl
theorem fo_154_0 : fieldOff Tryz.prog 154 0 = some (0, 22) := by kernel_rfl
theorem fo_154_1 : fieldOff Tryz.prog 154 1 = some (1, 3) := by kernel_rfl
theorem sc_141 : isScalar Tryz.prog 141 = true := by kernel_rfl
theorem sc_22 : isScalar Tryz.prog 22 = true := by kernel_rfl
theorem sc_3 : isScalar Tryz.prog 3 = true := by kernel_rfl
theorem sc_9 : isScalar Tryz.prog 9 = true := by kernel_rfl
theorem sz_22 : sizeIs Tryz.prog 22 = some 1 := by kernel_rfl
theorem sz_3 : sizeIs Tryz.prog 3 = some 1 := by kernel_rfl
theorem sz_5 : sizeIs Tryz.prog 5 = some 1 := by kernel_rfl
theorem sz_9 : sizeIs Tryz.prog 9 = some 1 := by kernel_rfl
theorem zi_152 : (Tryz.prog.info? 152).bind (·.zero) = some (ptV none) := by kernel_rfl

theorem cut_spec (b : Nat) (room : Int) (mb : Nat) (calls : Int) (T : FT) (name : (List UInt8)) (n : Int) (ρ : Hp) (hT : FOk T) (hc : calls ≤ 9223372036854775807) : Spec0 Tryz.prog 165 #[.pointer (some ⟨b, 0, none⟩), (strB name), .int .i64 n] ρ [.pts b (encDisk1 (⟨room, (some mb), calls⟩ : Disk1)) 143, MP strB ptV mb (fm T), FB 154 5 T] (fun v Γ' => ∃ T', v = .int .i64 (cutR calls (vw T) name n).1 ∧ vw T' = (cutR calls (vw T) name n).2 ∧ Γ' = [.pts b (encDisk1 (⟨room, (some mb), (decC calls)⟩ : Disk1)) 143, MP strB ptV mb (fm T'), FB 154 5 T']) := by
  refine spec_of (n := 50) (vs := [_, _, _]) (σ := [(0, _), (1, _), (2, _)]) Tryz.func165 rfl rfl rfl rfl fun E Δ => ?_
  simp only [List.cons_append, List.nil_append]
  refine sr ?_
  refine e_as rfl ?_
  refine l_n ?_
  refine sr ?_
  refine e_mv rfl ?_
  refine e_q (q_nilCheck rfl) ?_
  refine e_q (q_fieldp rfl fo_143_1) ?_
  refine e_q (q_loadp (v := .map (some mb)) sc_141 rfl pk_ rfl) ?_
  refine e_mv rfl ?_
  refine e_q (q_look (v := (ptV (mgetD (fm T) name none))) (ek := strB) (ev := ptV) (k := name) (zv := none) Tryz.underlying141 (mkey_str Tryz.underlying9) zi_152 rfl rfl pk_ rfl) ?_
  refine e_as rfl ?_
  refine l_n ?_
  refine c_seq ?_
  refine c_block ?_
  refine sr ?_
  refine e_mv rfl ?_
  refine e_fn Tryz.func78 rfl sl_ (fun ρ' hL => stopped_spec b room mb calls T ρ' (by first | assumption | omega)) ?_
  rintro _ _ ⟨rfl, rfl⟩
  try simp only [List.cons_append, List.nil_append]
  refine e_as rfl ?_
  refine l_n ?_
  refine c_cond rfl (fun h0 => ?_) (fun h0 => ?_)
  · try simp only [decide_eq_true_eq, decide_eq_false_iff_not] at h0
    refine sr ?_
    refine e_as rfl ?_
    refine l_n ?_
    refine c_ret ?_
    refine k_blk_r ?_
    refine k_then_r ?_
    have hr : (cutR calls (vw T) name n) = (32, vw T) := if_pos h0
    exact t_rt [.pts b (encDisk1 (⟨room, (some mb), (decC calls)⟩ : Disk1)) 143, MP strB ptV mb (fm T), FB 154 5 T] rfl (.tmp rfl .nil) rfl ⟨rfl, T, by rw [hr]; rfl, by rw [hr], rfl⟩
  · try simp only [decide_eq_true_eq, decide_eq_false_iff_not] at h0
    refine sr ?_
    refine e_mv rfl ?_
    refine e_q (q_eqlo (e := (mgetD (fm T) name none)) rfl rfl Tryz.underlying152) ?_
    refine e_as rfl ?_
    refine l_n ?_
    refine c_cond rfl (fun h1 => ?_) (fun h1 => ?_)
    · skip
      refine sr ?_
      refine e_as rfl ?_
      refine l_n ?_
      refine c_ret ?_
      refine k_blk_r ?_
      refine k_then_r ?_
      have hr : (cutR calls (vw T) name n) = (30, vw T) := by unfold cutR; rw [if_neg h0, if_pos (has_no (opt_none h1))]
      exact t_rt [.pts b (encDisk1 (⟨room, (some mb), (decC calls)⟩ : Disk1)) 143, MP strB ptV mb (fm T), FB 154 5 T] rfl (.tmp rfl .nil) rfl ⟨rfl, T, by rw [hr]; rfl, by rw [hr], rfl⟩
    · skip
      obtain ⟨j, e, hjl, hj, hnm, hmg, hvg⟩ := look_some (opt_some h1)
      rw [hmg]
      refine Tr.ent (file_open (t := 154) (tb := 5) hj pk_) ?_
      have hua := hT.at_ hj
      refine t_rd (Γ := _) (rd_row (a := e.a) (cap := e.cap) pk_) fun _ hcp _ _ => ?_
      refine sr ?_
      refine e_mv rfl ?_
      refine e_q (q_lss rfl rfl) ?_
      refine e_mv rfl ?_
      refine l_step (s_qg rfl (ask_f rfl rfl) (b := (!(decide (n < 0)))) (fun hb => q_move rfl) ?_)
      refine l_step (s_qg rfl (ask_f rfl rfl) (b := (!(decide (n < 0)))) (fun hb => q_move rfl) ?_)
      refine l_step (s_qg rfl (ask_f rfl rfl) (b := (!(decide (n < 0)))) (fun hb => OpQ.env (.cons rfl (gd_t hb) (.nil _) : EnvLe [(25, .pointer (some ⟨e.blk, 0, none⟩))] _) (q_nilCheck rfl)) ?_)
      refine l_step (s_qg rfl (ask_f rfl rfl) (b := (!(decide (n < 0)))) (fun hb => OpQ.env (.cons rfl (gd_t hb) (.nil _) : EnvLe [(26, .pointer (some ⟨e.blk, 0, none⟩))] _) (q_fieldp rfl fo_154_0)) ?_)
      refine l_step (s_qg rfl (ask_f rfl rfl) (b := (!(decide (n < 0)))) (fun hb => OpQ.env (.cons rfl (gd_t hb) (.nil _) : EnvLe [(27, .pointer (some ⟨e.blk, 0, none⟩))] _) (q_loadp (v := .slice e.a e.xs.length e.cap) sc_22 rfl pk_ rfl)) ?_)
      refine l_step (s_qg rfl (ask_f rfl rfl) (b := (!(decide (n < 0)))) (fun hb => OpQ.env (.cons rfl (gd_t hb) (.nil _) : EnvLe [(28, .slice e.a e.xs.length e.cap)] _) (q_len Tryz.underlying22 rfl)) ?_)
      refine l_step (s_qg rfl (ask_f rfl rfl) (b := (!(decide (n < 0)))) (fun hb => OpQ.env (.cons rfl (gd_t hb) (.cons rfl (gd_t hb) (.nil _)) : EnvLe [(24, .int .i64 n), (29, .int .i64 (e.xs.length : Int))] _) (q_gtr rfl rfl)) ?_)
      refine e_q (q_pick_or rfl rfl rfl (fun h => by first | (rw [h]; rfl) | exact congrArg not h)) ?_
      refine e_as rfl ?_
      refine l_n ?_
      refine c_cond rfl (fun h2 => ?_) (fun h2 => ?_)
      · try simp only [decide_eq_true_eq, decide_eq_false_iff_not, Bool.or_eq_true, Bool.or_eq_false_iff] at h2
        refine sr ?_
        refine e_as rfl ?_
        refine l_n ?_
        refine c_ret ?_
        refine k_blk_r ?_
        refine k_then_r ?_
        refine Tr.ent (Ent.trans (Ent.pick (A := .pts e.blk (encFile1 (⟨⟨e.a, e.xs.length, e.cap⟩, e.safe⟩ : File1)) 154) pk_ (Ent.pick (A := .row 5 1 e.a e.xs.length e.cap (e.xs.flatMap encB)) pk_ (Ent.pick (A := Bun ((fL 154 5 T).eraseIdx j)) pk_ (Ent.refl _)))) (file_same (t := 154) (tb := 5) hj)) ?_
        have hr : (cutR calls (vw T) name n) = (2, vw T) := by unfold cutR; rw [if_neg h0, if_neg (by rw [has_of hvg]; decide), getD_of hvg, if_pos (by simpa using h2)]
        exact t_rt [.pts b (encDisk1 (⟨room, (some mb), (decC calls)⟩ : Disk1)) 143, MP strB ptV mb (fm T), FB 154 5 T] rfl (.tmp rfl .nil) rfl ⟨rfl, T, by rw [hr]; rfl, by rw [hr], rfl⟩
      · try simp only [decide_eq_true_eq, decide_eq_false_iff_not, Bool.or_eq_true, Bool.or_eq_false_iff] at h2
        refine c_skip ?_
        refine k_blk_n ?_
        refine k_then_n ?_
        refine sr ?_
        refine e_mv rfl ?_
        refine e_mv rfl ?_
        refine e_q (q_nilCheck rfl) ?_
        refine e_q (q_fieldp rfl fo_154_0) ?_
        refine e_q (q_loadp (v := .slice e.a e.xs.length e.cap) sc_22 rfl pk_ rfl) ?_
        refine e_mv rfl ?_
        refine e_q (q_cut_hi Tryz.underlying22 sz_5 rfl rfl (by omega) (by omega)) ?_
        refine e_q (q_nilCheck rfl) ?_
        refine e_q (q_fieldp rfl fo_154_0) ?_
        refine Tr.ent (Ent.trans (Ent.pick (A := .row 5 1 e.a e.xs.length e.cap (e.xs.flatMap encB)) pk_ (Ent.refl _)) (row_cut (enc := encB) (sz := 1) (n := e.xs.length) (fun _ => rfl) (n).toNat (by omega))) ?_
        refine l_step (s_s0 wn (s_storep (ws := [.slice e.a ((n).toNat) e.cap]) (cs := encFile1 (⟨⟨e.a, e.xs.length, e.cap⟩, e.safe⟩ : File1)) (cs' := encFile1 (⟨⟨e.a, (n).toNat, e.cap⟩, e.safe⟩ : File1)) rfl rfl rfl sz_22 (by simp [Value.oneCell', strB, ptV, SL.v, SH.v]) (by simp [encFile1]) rfl pk_) ?_)
        rintro _ _ ⟨rfl, rfl⟩
        refine l_n ?_
        refine sr ?_
        refine e_mv rfl ?_
        refine e_mv rfl ?_
        refine e_q (q_nilCheck rfl) ?_
        refine e_q (q_fieldp rfl fo_154_1) ?_
        refine e_q (q_loadp (v := .int .i64 e.safe) sc_3 rfl pk_ rfl) ?_
        refine e_mv rfl ?_
        refine e_q (q_min2 rfl rfl) ?_
        refine e_q (q_nilCheck rfl) ?_
        refine e_q (q_fieldp rfl fo_154_1) ?_
        refine l_step (s_s0 wn (s_storep (ws := [.int .i64 (if n < e.safe then n else e.safe)]) (cs := encFile1 (⟨⟨e.a, (n).toNat, e.cap⟩, e.safe⟩ : File1)) (cs' := encFile1 (⟨⟨e.a, (n).toNat, e.cap⟩, (if n < e.safe then n else e.safe)⟩ : File1)) rfl rfl rfl sz_3 (by simp [Value.oneCell', strB, ptV, SL.v, SH.v]) (by simp [encFile1]) rfl pk_) ?_)
        rintro _ _ ⟨rfl, rfl⟩
        refine l_n ?_
        refine sr ?_
        refine e_as rfl ?_
        refine l_n ?_
        refine c_ret ?_
        have hk9 : (n).toNat = (e.xs.take (n).toNat).length := by rw [List.length_take]; omega
        rw [show (if n < e.safe then n else e.safe) = mnI e.safe n from rfl]
        have hr : (cutR calls (vw T) name n) = (0, vw (T.set j ⟨e.name, e.blk, e.a, e.cap, e.xs.take (n).toNat, mnI e.safe n⟩)) := by unfold cutR; rw [if_neg h0, if_neg (by rw [has_of hvg]; decide), getD_of hvg, if_neg (by simp; omega), vw_set (e' := ⟨e.name, e.blk, e.a, e.cap, e.xs.take (n).toNat, mnI e.safe n⟩) hT.nd hj rfl, hnm]
        rw [← fm_set (e' := ⟨e.name, e.blk, e.a, e.cap, e.xs.take (n).toNat, mnI e.safe n⟩) hj rfl rfl]
        refine Tr.ent (Γ' := .row 5 1 e.a ((e.xs.take (n).toNat).length) e.cap ((e.xs.take (n).toNat).flatMap encB) :: .pts e.blk (encFile1 (⟨⟨e.a, (e.xs.take (n).toNat).length, e.cap⟩, mnI e.safe n⟩ : File1)) 154 :: Bun ((fL 154 5 T).eraseIdx j) :: .pts b (encDisk1 (⟨room, (some mb), (decC calls)⟩ : Disk1)) 143 :: MP strB ptV mb (fm (T.set j ⟨e.name, e.blk, e.a, e.cap, e.xs.take (n).toNat, mnI e.safe n⟩)) :: Δ) (Ent.cast (by rw [← hk9]; rfl)) ?_
        refine Tr.ent (Ent.trans (Ent.pick (A := .pts e.blk (encFile1 (⟨⟨e.a, (e.xs.take (n).toNat).length, e.cap⟩, mnI e.safe n⟩ : File1)) 154) pk_ (Ent.pick (A := .row 5 1 e.a ((e.xs.take (n).toNat).length) e.cap ((e.xs.take (n).toNat).flatMap encB)) pk_ (Ent.pick (A := Bun ((fL 154 5 T).eraseIdx j)) pk_ (Ent.refl _)))) (file_shut (t := 154) (tb := 5) ⟨e.name, e.blk, e.a, e.cap, e.xs.take (n).toNat, mnI e.safe n⟩ hj)) ?_
        exact t_rt [.pts b (encDisk1 (⟨room, (some mb), (decC calls)⟩ : Disk1)) 143, MP strB ptV mb (fm (T.set j ⟨e.name, e.blk, e.a, e.cap, e.xs.take (n).toNat, mnI e.safe n⟩)), FB 154 5 (T.set j ⟨e.name, e.blk, e.a, e.cap, e.xs.take (n).toNat, mnI e.safe n⟩)] rfl (.tmp rfl .nil) rfl ⟨rfl, (T.set j ⟨e.name, e.blk, e.a, e.cap, e.xs.take (n).toNat, mnI e.safe n⟩), by rw [hr]; rfl, by rw [hr], rfl⟩

theorem sync_spec (b : Nat) (room : Int) (mb : Nat) (calls : Int) (T : FT) (names_a : Option Addr) (names_n names_c : Nat) (names : List (List UInt8)) (hnames_n : names.length = names_n) (ρ : Hp) (hT : FOk T) (hc : calls ≤ 9223372036854775807) (hro : Ro ρ 1 names_a names_n names_c (names.flatMap Go.SL.encStr)) : Spec0 Tryz.prog 72 #[.pointer (some ⟨b, 0, none⟩), .slice names_a names_n names_c] ρ [.pts b (encDisk1 (⟨room, (some mb), calls⟩ : Disk1)) 143, MP strB ptV mb (fm T), FB 154 5 T] (fun v Γ' => ∃ T', v = .int .i64 (syncR calls (vw T) names).1 ∧ vw T' = (syncR calls (vw T) names).2 ∧ Γ' = [.pts b (encDisk1 (⟨room, (some mb), (decC calls)⟩ : Disk1)) 143, MP strB ptV mb (fm T'), FB 154 5 T']) := by
  refine spec_of (n := 38) (vs := [_, _]) (σ := [(0, _), (1, _)]) Tryz.func72 rfl rfl rfl rfl fun E Δ => ?_
  simp only [List.cons_append, List.nil_append]
  have hrob : names_n ≤ 9223372036854775807 := Nat.le_trans hro.2.1 hro.2.2.1
  refine sr ?_
  refine e_as rfl ?_
  refine l_n ?_
  refine c_seq ?_
  refine sr ?_
  refine e_mv rfl ?_
  refine e_fn Tryz.func78 rfl sl_ (fun ρ' hL => stopped_spec b room mb calls T ρ' (by first | assumption | omega)) ?_
  rintro _ _ ⟨rfl, rfl⟩
  try simp only [List.cons_append, List.nil_append]
  refine l_n ?_
  refine c_cond rfl (fun h0 => ?_) (fun h0 => ?_)
  · try simp only [decide_eq_true_eq, decide_eq_false_iff_not] at h0
    refine sr ?_
    refine e_as rfl ?_
    refine l_n ?_
    refine c_ret ?_
    refine k_then_r ?_
    have hr : (syncR calls (vw T) names) = (32, vw T) := if_pos h0
    exact t_rt [.pts b (encDisk1 (⟨room, (some mb), (decC calls)⟩ : Disk1)) 143, MP strB ptV mb (fm T), FB 154 5 T] rfl (.tmp rfl .nil) rfl ⟨rfl, T, by rw [hr]; rfl, by rw [hr], rfl⟩
  · try simp only [decide_eq_true_eq, decide_eq_false_iff_not] at h0
    refine c_skip ?_
    refine k_then_n ?_
    refine c_seq ?_
    refine sr ?_
    refine e_mv rfl ?_
    refine e_mv rfl ?_
    refine l_step (s_fnr rfl wn Tryz.func152 rfl (by kernel_rfl) rfl sl_ (fun ρ' hL => there_spec b room mb (decC calls) T names_a names_n names_c names (by first | rfl | assumption | (simp; done) | (simp <;> omega) | omega) ρ' (by first | exact hL.ro (by assumption) | exact hL.row pk_ | assumption)) ?_)
    refine e_q (q_not rfl) ?_
    refine l_n ?_
    refine c_cond rfl (fun h1 => ?_) (fun h1 => ?_)
    · skip
      have hth : names.all (mhas (vw T)) = false := by simpa using h1
      refine sr ?_
      refine e_as rfl ?_
      refine l_n ?_
      refine c_ret ?_
      refine k_then_r ?_
      have hr : (syncR calls (vw T) names) = (30, vw T) := by unfold syncR; rw [if_neg h0, if_pos hth]
      exact t_rt [.pts b (encDisk1 (⟨room, (some mb), (decC calls)⟩ : Disk1)) 143, MP strB ptV mb (fm T), FB 154 5 T] rfl (.tmp rfl .nil) rfl ⟨rfl, T, by rw [hr]; rfl, by rw [hr], rfl⟩
    · skip
      have hth : names.all (mhas (vw T)) = true := by simpa using h1
      refine c_skip ?_
      refine k_then_n ?_
      refine c_seq ?_
      refine sr ?_
      refine e_mv rfl ?_
      refine e_q (q_len Tryz.underlying52 rfl) ?_
      refine e_mv rfl ?_
      refine l_n ?_
      refine c_block ?_
      refine Tr.env (σ' := [(0, _), (4, _), (13, _), (14, _), (15, _)]) ev_ ?_
      refine t_loop (ι := Lp (Nat × FT)) (fun x => x.d.1 ≤ names_n ∧ fm x.d.2 = fm T ∧ vw x.d.2 = ((names.take x.d.1).foldl syncStep (vw T))) (fun x => names_n - x.d.1) (fun x => [(0, .pointer (some ⟨b, 0, none⟩)), (4, .int .i64 0), (13, .slice names_a names_n names_c), (14, .int .i64 (names_n : Int)), (15, .int .i64 (x.d.1 : Int))]) (fun x => .pts b (encDisk1 (⟨room, (some mb), (decC calls)⟩ : Disk1)) 143 :: MP strB ptV mb (fm T) :: FB 154 5 x.d.2 :: Δ) (⟨(0, T), none, 0, none, 0, none, 0⟩ : Lp _) ⟨Nat.zero_le _, rfl, rfl⟩ ?_ ?_ ?_
      · exact .c (.c (.c (.c (.c (.nil _)))))
      · exact en_
      intro x hx
      obtain ⟨hx1, hx2, hx3⟩ := hx
      refine sr ?_
      refine e_q (q_lss rfl rfl) ?_
      refine l_n ?_
      refine c_seq ?_
      refine c_cond rfl (fun h2 => ?_) (fun h2 => ?_)
      · try simp only [decide_eq_true_eq, decide_eq_false_iff_not] at h2
        have hxm : mhas (vw x.d.2) (names.getD x.d.1 default) = true := by rw [has_same (T := T) (hf := hx2)]; exact (List.all_eq_true.1 hth) _ (getD_in (by omega))
        obtain ⟨j, e, hjl, hj, hnm, hmg, hvg⟩ := look_some (look_has hxm)
        refine c_skip ?_
        refine k_then_n ?_
        refine c_seq ?_
        refine c_block ?_
        refine sr ?_
        rw [← hx2]
        refine Tr.ent (file_open (t := 154) (tb := 5) hj pk_) ?_
        refine e_q (q_indexe x.d.1 Tryz.underlying52 sz_9 rfl rfl (by first | assumption | exact rd_ro (by assumption) | exact rd_bun (L := (fL 154 5 x.d.2).eraseIdx j) pk_ (in_map _ (by first | assumption | omega | (simp only [List.length_cons, List.length_nil]; omega) | decide) rfl) | exact rd_row pk_) (by decide) rfl (by first | assumption | omega | (simp only [List.length_cons, List.length_nil]; omega))) ?_
        refine e_q (q_loade (enc := Go.SL.encStr) (xs := names) (j := x.d.1) (off := 0) sc_9 rfl (by first | assumption | exact rd_ro (by assumption) | exact rd_bun (L := (fL 154 5 x.d.2).eraseIdx j) pk_ (in_map _ (by first | assumption | omega | (simp only [List.length_cons, List.length_nil]; omega) | decide) rfl) | exact rd_row pk_) (fun _ => rfl) (by first | assumption | omega | (simp only [List.length_cons, List.length_nil]; omega)) (by decide) rfl) ?_
        refine e_as rfl ?_
        refine l_n ?_
        refine d_r 19 [.row 5 1 e.a e.xs.length e.cap (e.xs.flatMap encB), Bun ((fL 154 5 x.d.2).eraseIdx j), .pts b (encDisk1 (⟨room, (some mb), (decC calls)⟩ : Disk1)) 143, MP strB ptV mb (fm x.d.2)] ?_
        refine d_t 0 rfl wn (q_move rfl) ?_
        refine d_t 1 rfl wn (q_nilCheck rfl) ?_
        refine d_t 2 rfl wn (q_fieldp rfl fo_143_1) ?_
        refine d_t 3 rfl wn (q_loadp (v := .map (some mb)) sc_141 rfl pk_ rfl) ?_
        refine d_t 4 rfl wn (q_move rfl) ?_
        refine d_t 5 rfl wn (q_look (v := .pointer (some ⟨e.blk, 0, none⟩)) (ek := strB) (ev := ptV) (k := (names.getD x.d.1 default)) (zv := none) Tryz.underlying141 (mkey_str Tryz.underlying9) zi_152 rfl rfl pk_ (by rw [hmg]; rfl)) ?_
        refine d_t 6 rfl wn (q_move rfl) ?_
        refine d_t 7 rfl wn (q_nilCheck rfl) ?_
        refine d_t 8 rfl wn (q_fieldp rfl fo_143_1) ?_
        refine d_t 9 rfl wn (q_loadp (v := .map (some mb)) sc_141 rfl pk_ rfl) ?_
        refine d_t 10 rfl wn (q_move rfl) ?_
        refine d_t 11 rfl wn (q_look (v := .pointer (some ⟨e.blk, 0, none⟩)) (ek := strB) (ev := ptV) (k := (names.getD x.d.1 default)) (zv := none) Tryz.underlying141 (mkey_str Tryz.underlying9) zi_152 rfl rfl pk_ (by rw [hmg]; rfl)) ?_
        refine d_t 12 rfl wn (q_nilCheck rfl) ?_
        refine d_t 13 rfl wn (q_fieldp rfl fo_154_0) ?_
        refine d_1 14 ?_
        refine o_step rfl (s_q rfl wn (q_loadp (v := .slice e.a e.xs.length e.cap) sc_22 rfl pk_ rfl) ?_)
        refine d_c ?_
        refine d_t 15 rfl wn (q_len Tryz.underlying22 rfl) ?_
        refine d_t 16 rfl wn (q_nilCheck rfl) ?_
        refine d_t 17 rfl wn (q_fieldp rfl fo_154_1) ?_
        refine d_1 18 ?_
        refine o_step rfl (s_s0 wn (s_storep (ws := [.int .i64 (e.xs.length : Int)]) (cs := encFile1 (⟨⟨e.a, e.xs.length, e.cap⟩, e.safe⟩ : File1)) (cs' := encFile1 (⟨⟨e.a, e.xs.length, e.cap⟩, (e.xs.length : Int)⟩ : File1)) rfl rfl rfl sz_3 (by simp [Value.oneCell', strB, ptV, SL.v, SH.v]) (by simp [encFile1]) rfl pk_) ?_)
        rintro _ _ ⟨rfl, rfl⟩
        refine d_c ?_
        refine d_d ?_
        refine k_blk_n ?_
        refine k_then_n ?_
        refine c_region ?_
        refine e_q (q_add rfl rfl (by omega) (by omega)) ?_
        refine e_mv rfl ?_
        refine l_n ?_
        refine Tr.ent (Ent.trans (Ent.pick (A := .pts e.blk (encFile1 (⟨⟨e.a, e.xs.length, e.cap⟩, (e.xs.length : Int)⟩ : File1)) 154) pk_ (Ent.pick (A := .row 5 1 e.a e.xs.length e.cap (e.xs.flatMap encB)) pk_ (Ent.pick (A := Bun ((fL 154 5 x.d.2).eraseIdx j)) pk_ (Ent.refl _)))) (file_shut (t := 154) (tb := 5) ⟨e.name, e.blk, e.a, e.cap, e.xs, (e.xs.length : Int)⟩ hj)) ?_
        have hnd : (x.d.2.map (·.name)).Nodup := by rw [← fm_keys, hx2, fm_keys]; exact hT.nd
        have hf9 : fm (x.d.2.set j ⟨e.name, e.blk, e.a, e.cap, e.xs, (e.xs.length : Int)⟩) = fm T := by rw [fm_set (e' := ⟨e.name, e.blk, e.a, e.cap, e.xs, (e.xs.length : Int)⟩) hj rfl rfl]; exact hx2
        have hv9 : vw (x.d.2.set j ⟨e.name, e.blk, e.a, e.cap, e.xs, (e.xs.length : Int)⟩) = ((names.take (x.d.1 + 1)).foldl syncStep (vw T)) := by rw [foldl_take _ _ _ _ (by omega), ← hx3, vw_set (e' := ⟨e.name, e.blk, e.a, e.cap, e.xs, (e.xs.length : Int)⟩) hnd hj rfl, hnm]; unfold syncStep; rw [getD_of hvg]
        rw [hx2]
        exact t_nx (⟨(x.d.1 + 1, x.d.2.set j ⟨e.name, e.blk, e.a, e.cap, e.xs, (e.xs.length : Int)⟩), none, 0, none, 0, none, 0⟩ : Lp _) ⟨⟨by (try simp only []); omega, hf9, hv9⟩, by (try simp only []); omega⟩ (.c (.c (.c (.c (.c (.nil _))))))
      · try simp only [decide_eq_true_eq, decide_eq_false_iff_not] at h2
        have hk : x.d.1 = names.length := by omega
        have hr : (syncR calls (vw T) names) = (0, vw x.d.2) := by unfold syncR; rw [if_neg h0, if_neg (by rw [hth]; decide), hx3, hk, List.take_length]
        rw [← hx2]
        refine c_exit ?_
        refine k_then_x ?_
        refine k_then_x ?_
        refine k_blk_x ?_
        refine k_then_n ?_
        refine sr ?_
        refine e_as rfl ?_
        refine l_n ?_
        refine c_ret ?_
        exact t_rt [.pts b (encDisk1 (⟨room, (some mb), (decC calls)⟩ : Disk1)) 143, MP strB ptV mb (fm x.d.2), FB 154 5 x.d.2] rfl (.tmp rfl .nil) rfl ⟨rfl, x.d.2, by rw [hr]; rfl, by rw [hr], rfl⟩
end Go.Dsk.Z

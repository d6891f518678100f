/-
  Package disk, walked.
-/
import Derived.Test.YtehaoafnobnneaaDoorDskP
import Derived.Test.YtehaoafnobnneaaDoorDskL
import Derived.Test.YtehaoafnobnneaaDoorProg
set_option maxRecDepth 100000
set_option maxHeartbeats 4000000
set_option linter.unusedSimpArgs false
set_option linter.unusedVariables false
namespace Go.Dsk
open Go Go.SL Go.Proofs Go.Dsk.L
attribute [local irreducible] Go.SL.Ent
theorem fo_62_0 : fieldOff Tryd.prog 62 0 = some (0, 3) := by kernel_rfl
theorem fo_62_1 : fieldOff Tryd.prog 62 1 = some (1, 60) := by kernel_rfl
theorem fo_62_2 : fieldOff Tryd.prog 62 2 = some (2, 3) := by kernel_rfl
theorem fo_66_0 : fieldOff Tryd.prog 66 0 = some (0, 32) := by kernel_rfl
theorem sc_27 : isScalar Tryd.prog 27 = true := by kernel_rfl
theorem sc_3 : isScalar Tryd.prog 3 = true := by kernel_rfl
theorem sc_32 : isScalar Tryd.prog 32 = true := by kernel_rfl
theorem sc_60 : isScalar Tryd.prog 60 = true := by kernel_rfl
theorem sc_9 : isScalar Tryd.prog 9 = true := by kernel_rfl
theorem sz_3 : sizeIs Tryd.prog 3 = some 1 := by kernel_rfl
theorem sz_9 : sizeIs Tryd.prog 9 = some 1 := by kernel_rfl
theorem zi_64 : (Tryd.prog.info? 64).bind (·.zero) = some (ptV none) := by kernel_rfl

theorem name1_spec (s : (List UInt8)) (ρ : Hp) (hs : s.length ≤ 9223372036854775807) : Spec0 Tryd.prog 28 #[(strB s)] ρ [] (fun v Γ' => v = .bool ((!nameB s)) ∧ Γ' = []) := by
  refine spec_of (n := 15) (vs := [_]) (σ := [(0, _)]) Tryd.func28 rfl rfl rfl rfl fun E Δ => ?_
  rw [List.nil_append]
  refine c_seq ?_
  refine c_region ?_
  refine l_step (s_q rfl wn (q_assign rfl) ?_)
  refine l_nil ?_
  refine k_then_n ?_
  refine c_seq ?_
  refine c_region ?_
  refine l_step (s_q rfl wn (q_move rfl) ?_)
  refine l_step (s_q rfl wn (q_eqlsB (p := s) (q := []) rfl rfl) ?_)
  refine l_step (s_q rfl wn (q_move rfl) ?_)
  refine l_step (s_qg rfl (ask_f rfl rfl) (b := (!(decide (s = [])))) (fun hb => q_move rfl) ?_)
  refine l_step (s_qg rfl (ask_f rfl rfl) (b := (!(decide (s = [])))) (fun hb => OpQ.env (.cons rfl (gd_t hb) (.nil _) : EnvLe [(6, (strB s))] _) (q_lensB Tryd.underlying9 rfl)) ?_)
  refine l_step (s_qg rfl (ask_f rfl rfl) (b := (!(decide (s = [])))) (fun hb => OpQ.env (.cons rfl (gd_t hb) (.nil _) : EnvLe [(7, .int .i64 (s.length : Int))] _) (q_gtr rfl rfl)) ?_)
  refine l_step (s_q rfl wn (q_pick_or rfl rfl rfl (fun h => by first | (rw [h]; rfl) | exact congrArg not h)) ?_)
  refine l_step (s_q rfl wn (q_move rfl) ?_)
  refine l_step (s_qg rfl (ask_f rfl rfl) (b := (!((decide (s = [])) || (decide (32 < (s.length : Int)))))) (fun hb => q_move rfl) ?_)
  refine l_step (s_fnqg (b := (!((decide (s = [])) || (decide (32 < (s.length : Int)))))) rfl (ask_f rfl rfl) Tryd.func29 rfl (by kernel_rfl) (fun hb => (.cons rfl (gd_t hb) (.nil _) : EnvLe [(11, (strB s))] _)) rfl (fun hb ρ' hL => trim_s trimA (by kernel_rfl) s setC (by omega) (by decide) (by decide) ρ') ?_)
  refine l_step (s_qg rfl (ask_f rfl rfl) (b := (!((decide (s = [])) || (decide (32 < (s.length : Int)))))) (fun hb => OpQ.env (.cons rfl (gd_t hb) (.nil _) : EnvLe [(12, (strB (Lib.trimS s setC)))] _) (q_neqsB (p := (Lib.trimS s setC)) (q := []) rfl rfl)) ?_)
  refine l_step (s_q rfl wn (q_pick_or rfl rfl rfl (fun h => by first | (rw [h]; rfl) | exact congrArg not h)) ?_)
  refine l_step (s_q rfl wn (q_assign rfl) ?_)
  refine l_nil ?_
  refine k_then_n ?_
  refine c_ret ?_
  exact t_ret [] rfl (.tmp rfl .nil) rfl (Hp.le_refl _) ⟨rfl, boole (by unfold nameB; rw [Bool.not_not]), rfl⟩ (by (repeat refine Ent.skip ?_); exact Ent.refl _)

theorem indexFunc_spec (s_a : Option Addr) (s_n s_c : Nat) (s : List (List UInt8)) (hs_n : s.length = s_n) (f : Nat) (cs : List Value) (p : List UInt8 → Bool) (L : List Asn) (ρ : Hp) (hro : Ro ρ 1 s_a s_n s_c (s.flatMap Go.SL.encStr)) (hE : Go.SL.Enters Tryd.prog f) (hp : ∀ x ∈ s, ∀ ρ' : Hp, ρ.le ρ' → Spec0 Tryd.prog f ([strB x] ++ cs).toArray ρ' [Bun L] (fun v Γ' => v = .bool (p x) ∧ Γ' = [Bun L])) : Spec0 Tryd.prog 47 #[.slice s_a s_n s_c, .func (.func f) #[] cs.toArray] ρ [Bun L] (fun v Γ' => v = .int .i64 (idxP p s) ∧ Γ' = [Bun L]) := by
  refine spec_of (n := 19) (vs := [_, _]) (σ := [(0, _), (1, _)]) Tryd.func47 rfl rfl rfl rfl fun E Δ => ?_
  simp only [List.cons_append, List.nil_append]
  have hrob : s_n ≤ 9223372036854775807 := Nat.le_trans hro.2.1 hro.2.2.1
  refine c_seq ?_
  refine c_region ?_
  refine l_step (s_q rfl wn (q_assign rfl) ?_)
  refine l_nil ?_
  refine k_then_n ?_
  refine c_seq ?_
  refine c_seq ?_
  refine c_region ?_
  refine l_step (s_q rfl wn (q_move rfl) ?_)
  refine l_step (s_q rfl wn (q_len Tryd.underlying41 rfl) ?_)
  refine l_step (s_q rfl wn (q_move rfl) ?_)
  refine l_nil ?_
  refine k_then_n ?_
  refine c_block ?_
  refine Tr.env (σ' := [(0, _), (1, _), (7, _), (8, _)]) (.cons rfl rfl (.cons rfl rfl (.cons rfl rfl (.cons rfl rfl (.nil _))))) ?_
  refine t_loop (ι := Lp (Nat)) (fun x => x.d ≤ s_n ∧ (s.take x.d).any p = false) (fun x => s_n - x.d) (fun x => [(0, .slice s_a s_n s_c), (1, (.func (.func f) #[] cs.toArray)), (7, .int .i64 (s_n : Int)), (8, .int .i64 (x.d : Int))]) (fun x => Bun L :: Δ) (⟨0, none, 0, none, 0, none, 0⟩ : Lp _) ⟨Nat.zero_le _, rfl⟩ ?_ ?_ ?_
  · exact .cons rfl (by first | rfl | exact inte (by omega) | (simp; done) | (simp <;> omega) | simp [*]) (.cons rfl (by first | rfl | exact inte (by omega) | (simp; done) | (simp <;> omega) | simp [*]) (.cons rfl (by first | rfl | exact inte (by omega) | (simp; done) | (simp <;> omega) | simp [*]) (.cons rfl (by first | rfl | exact inte (by omega) | (simp; done) | (simp <;> omega) | simp [*]) (.nil _))))
  · exact (by repeat (first | exact Ent.nil _ | exact Ent.refl _ | (refine Ent.pick (by repeat (first | exact Pick.here | apply Pick.there)) ?_) | refine Ent.skip ?_))
  intro x hx
  obtain ⟨hx1, hx2⟩ := hx
  refine c_seq ?_
  refine c_region ?_
  refine l_step (s_q rfl wn (q_lss rfl rfl) ?_)
  refine l_nil ?_
  refine k_then_n ?_
  refine c_seq ?_
  refine c_cond rfl (fun h0 => ?_) (fun h0 => ?_)
  · try simp only [Bool.and_eq_true, Bool.or_eq_true, Bool.not_eq_true', Bool.and_eq_false_iff, Bool.or_eq_false_iff, Bool.not_eq_false', decide_eq_true_eq, decide_eq_false_iff_not, Bool.not_eq_eq_eq_not, Bool.not_true, Bool.not_false, Bool.not_eq_true, Bool.not_eq_false, beq_iff_eq, bne_iff_ne, ne_eq, Decidable.not_not] at h0
    refine c_skip ?_
    refine k_then_n ?_
    refine c_seq ?_
    refine c_block ?_
    refine c_seq ?_
    refine c_region ?_
    refine l_step (s_q rfl wn (q_move rfl) ?_)
    refine l_step (s_q rfl wn (q_assign rfl) ?_)
    refine l_nil ?_
    refine k_then_n ?_
    refine c_seq ?_
    refine c_region ?_
    refine l_step (s_q rfl wn (q_move rfl) ?_)
    refine l_step (s_q rfl wn (q_move rfl) ?_)
    refine l_step (s_q rfl wn (q_move rfl) ?_)
    refine l_step (s_q rfl wn (q_indexe x.d Tryd.underlying41 sz_9 rfl rfl (by first | assumption | exact rd_ro (by assumption) | exact rd_bun (L := L) (by repeat (first | exact Pick.here | apply Pick.there)) (in_map _ (by first | assumption | omega | (simp only [List.length_cons, List.length_nil]; omega) | decide) rfl) | exact rd_row (by repeat (first | exact Pick.here | apply Pick.there))) (by decide) rfl (by first | assumption | omega | (simp only [List.length_cons, List.length_nil]; omega))) ?_)
    refine l_step (s_q rfl wn (q_loade (enc := Go.SL.encStr) (xs := s) (j := x.d) (off := 0) sc_9 rfl (by first | assumption | exact rd_ro (by assumption) | exact rd_bun (L := L) (by repeat (first | exact Pick.here | apply Pick.there)) (in_map _ (by first | assumption | omega | (simp only [List.length_cons, List.length_nil]; omega) | decide) rfl) | exact rd_row (by repeat (first | exact Pick.here | apply Pick.there))) (fun _ => rfl) (by first | assumption | omega | (simp only [List.length_cons, List.length_nil]; omega)) (by decide) rfl) ?_)
    refine l_step (s_clob rfl wn hE rfl rfl (by repeat (first | exact Sel.nil | exact Pick.here | apply Sel.cons | apply Pick.there)) (fun ρ' hL => hp _ (getD_in (by omega)) ρ' hL.1) ?_)
    rintro _ _ ⟨rfl, rfl⟩
    try simp only [List.cons_append, List.nil_append]
    refine l_nil ?_
    refine k_then_n ?_
    refine c_cond rfl (fun h1 => ?_) (fun h1 => ?_)
    · skip
      refine c_seq ?_
      refine c_region ?_
      refine l_step (s_q rfl wn (q_move rfl) ?_)
      refine l_step (s_q rfl wn (q_assign rfl) ?_)
      refine l_nil ?_
      refine k_then_n ?_
      refine c_ret ?_
      refine k_blk_r ?_
      refine k_then_r ?_
      refine k_then_r ?_
      refine k_blk_r ?_
      refine k_then_r ?_
      exact t_ret [Bun L] rfl (.tmp rfl .nil) rfl (Hp.le_refl _) ⟨rfl, inte (idxP_at (by omega) hx2 h1).symm, rfl⟩ (by repeat (first | exact Ent.nil _ | exact Ent.refl _ | (refine Ent.pick (by repeat (first | exact Pick.here | apply Pick.there)) ?_) | refine Ent.skip ?_))
    · skip
      refine c_skip ?_
      refine k_blk_n ?_
      refine k_then_n ?_
      refine c_region ?_
      refine l_step (s_q rfl wn (q_add rfl rfl (by omega) (by omega)) ?_)
      refine l_step (s_q rfl wn (q_move rfl) ?_)
      refine l_nil ?_
      refine k_then_n ?_
      exact t_next (⟨x.d + 1, none, 0, none, 0, none, 0⟩ : Lp _) ⟨⟨by simp only []; omega, any_succ (by omega) hx2 h1⟩, by simp only []; omega⟩ (.cons rfl (by first | rfl | exact inte (by omega) | (simp; done) | (simp <;> omega) | simp [*]) (.cons rfl (by first | rfl | exact inte (by omega) | (simp; done) | (simp <;> omega) | simp [*]) (.cons rfl (by first | rfl | exact inte (by omega) | (simp; done) | (simp <;> omega) | simp [*]) (.cons rfl (by first | rfl | exact inte (by omega) | (simp; done) | (simp <;> omega) | simp [*]) (.nil _))))) (by repeat (first | exact Ent.nil _ | exact Ent.refl _ | (refine Ent.pick (by repeat (first | exact Pick.here | apply Pick.there)) ?_) | refine Ent.skip ?_))
  · try simp only [Bool.and_eq_true, Bool.or_eq_true, Bool.not_eq_true', Bool.and_eq_false_iff, Bool.or_eq_false_iff, Bool.not_eq_false', decide_eq_true_eq, decide_eq_false_iff_not, Bool.not_eq_eq_eq_not, Bool.not_true, Bool.not_false, Bool.not_eq_true, Bool.not_eq_false, beq_iff_eq, bne_iff_ne, ne_eq, Decidable.not_not] at h0
    have hk : x.d = s.length := by omega
    rw [hk, List.take_length] at hx2
    refine c_exit ?_
    refine k_then_x ?_
    refine k_then_x ?_
    refine k_blk_x ?_
    refine k_then_n ?_
    refine c_seq ?_
    refine c_region ?_
    refine l_step (s_q rfl wn (q_assign rfl) ?_)
    refine l_nil ?_
    refine k_then_n ?_
    refine c_ret ?_
    exact t_ret [Bun L] rfl (.tmp rfl .nil) rfl (Hp.le_refl _) ⟨rfl, inte (idxP_none hx2).symm, rfl⟩ (by repeat (first | exact Ent.nil _ | exact Ent.refl _ | (refine Ent.pick (by repeat (first | exact Pick.here | apply Pick.there)) ?_) | refine Ent.skip ?_))

theorem containsFunc_spec (s_a : Option Addr) (s_n s_c : Nat) (s : List (List UInt8)) (hs_n : s.length = s_n) (f : Nat) (cs : List Value) (p : List UInt8 → Bool) (L : List Asn) (ρ : Hp) (hro : Ro ρ 1 s_a s_n s_c (s.flatMap Go.SL.encStr)) (hE : Go.SL.Enters Tryd.prog f) (hp : ∀ x ∈ s, ∀ ρ' : Hp, ρ.le ρ' → Spec0 Tryd.prog f ([strB x] ++ cs).toArray ρ' [Bun L] (fun v Γ' => v = .bool (p x) ∧ Γ' = [Bun L])) : Spec0 Tryd.prog 27 #[.slice s_a s_n s_c, .func (.func f) #[] cs.toArray] ρ [Bun L] (fun v Γ' => v = .bool (s.any p) ∧ Γ' = [Bun L]) := by
  refine spec_of (n := 9) (vs := [_, _]) (σ := [(0, _), (1, _)]) Tryd.func27 rfl rfl rfl rfl fun E Δ => ?_
  simp only [List.cons_append, List.nil_append]
  refine c_seq ?_
  refine c_region ?_
  refine l_step (s_q rfl wn (q_assign rfl) ?_)
  refine l_nil ?_
  refine k_then_n ?_
  refine c_seq ?_
  refine c_region ?_
  refine l_step (s_q rfl wn (q_move rfl) ?_)
  refine l_step (s_q rfl wn (q_move rfl) ?_)
  refine l_step (s_fnb rfl wn Tryd.func47 rfl (by kernel_rfl) rfl (by repeat (first | exact Sel.nil | exact Pick.here | apply Sel.cons | apply Pick.there)) (fun ρ' hL => indexFunc_spec s_a s_n s_c s hs_n f cs p L ρ' (hL.ro hro) hE (fun x hx ρ'' hl => hp x hx ρ'' (hL.1.le_trans hl))) ?_)
  rintro _ _ ⟨rfl, rfl⟩
  try simp only [List.cons_append, List.nil_append]
  refine l_step (s_q rfl wn (q_geq rfl rfl) ?_)
  refine l_step (s_q rfl wn (q_assign rfl) ?_)
  refine l_nil ?_
  refine k_then_n ?_
  refine c_ret ?_
  exact t_ret [Bun L] rfl (.tmp rfl .nil) rfl (Hp.le_refl _) ⟨rfl, boole (idxP_any p s), rfl⟩ (by repeat (first | exact Ent.nil _ | exact Ent.refl _ | (refine Ent.pick (by repeat (first | exact Pick.here | apply Pick.there)) ?_) | refine Ent.skip ?_))

theorem name_spec (names_a : Option Addr) (names_n names_c : Nat) (names : List (List UInt8)) (hnames_n : names.length = names_n) (ρ : Hp) (hns : ∀ s ∈ names, s.length ≤ 9223372036854775807) (hro : Ro ρ 1 names_a names_n names_c (names.flatMap Go.SL.encStr)) : Spec0 Tryd.prog 11 #[.slice names_a names_n names_c] ρ [] (fun v Γ' => v = .bool ((names.all nameB)) ∧ Γ' = []) := by
  refine spec_of (n := 6) (vs := [_]) (σ := [(0, _)]) Tryd.func11 rfl rfl rfl rfl fun E Δ => ?_
  rw [List.nil_append]
  refine c_seq ?_
  refine c_region ?_
  refine l_step (s_q rfl wn (q_assign rfl) ?_)
  refine l_nil ?_
  refine k_then_n ?_
  refine c_seq ?_
  refine c_region ?_
  refine l_step (s_q rfl wn (q_move rfl) ?_)
  refine Tr.ent (bun_nil _) ?_
  refine l_step (s_fnb rfl wn Tryd.func27 rfl (by kernel_rfl) rfl (by repeat (first | exact Sel.nil | exact Pick.here | apply Sel.cons | apply Pick.there)) (fun ρ' hL => containsFunc_spec names_a names_n names_c names (by first | rfl | assumption) 28 [] (fun x => !nameB x) [] ρ' (by first | exact hL.ro (by assumption) | exact hL.bun (L := []) (by repeat (first | exact Pick.here | apply Pick.there)) (in_map _ (by first | assumption | omega | (simp only [List.length_cons, List.length_nil]; omega) | decide) rfl) | exact hL.row (by repeat (first | exact Pick.here | apply Pick.there)) | assumption) ⟨_, _, Tryd.func28, rfl, rfl⟩ (fun x hx ρ'' hl => spec0_bun (name1_spec x ρ'' (hns x hx)))) ?_)
  rintro _ _ ⟨rfl, rfl⟩
  try simp only [List.cons_append, List.nil_append]
  refine l_step (s_q rfl wn (q_not rfl) ?_)
  refine l_step (s_q rfl wn (q_assign rfl) ?_)
  refine l_nil ?_
  refine k_then_n ?_
  refine c_ret ?_
  exact t_ret [] rfl (.tmp rfl .nil) rfl (Hp.le_refl _) ⟨rfl, boole (by simp [List.any_eq_not_all_not]), rfl⟩ (by (repeat refine Ent.skip ?_); exact Ent.refl _)

theorem there1_spec (s : (List UInt8)) (c b : Nat) (room : Int) (mb : Nat) (calls : Int) (T : FT) (ρ : Hp) : Spec0 Tryd.prog 56 #[(strB s), .pointer (some ⟨c, 0, none⟩)] ρ [.pts c [.pointer (some ⟨b, 0, none⟩)] 27, .pts b (encDisk1 (⟨room, (some mb), calls⟩ : Disk1)) 62, MP strB ptV mb (fm T)] (fun v Γ' => v = .bool (!mhas (vw T) s) ∧ Γ' = [.pts c [.pointer (some ⟨b, 0, none⟩)] 27, .pts b (encDisk1 (⟨room, (some mb), calls⟩ : Disk1)) 62, MP strB ptV mb (fm T)]) := by
  refine spec_of (n := 11) (vs := [_, _]) (σ := [(0, _), (1, _)]) Tryd.func56 rfl rfl rfl rfl fun E Δ => ?_
  simp only [List.cons_append, List.nil_append]
  refine c_seq ?_
  refine c_region ?_
  refine l_step (s_q rfl wn (q_assign rfl) ?_)
  refine l_nil ?_
  refine k_then_n ?_
  refine c_seq ?_
  refine c_region ?_
  refine l_step (s_q rfl wn (q_loadp (v := .pointer (some ⟨b, 0, none⟩)) sc_27 rfl (by repeat (first | exact Pick.here | apply Pick.there)) rfl) ?_)
  refine l_step (s_q rfl wn (q_nilCheck rfl) ?_)
  refine l_step (s_q rfl wn (q_fieldp rfl fo_62_1) ?_)
  refine l_step (s_q rfl wn (q_loadp (v := .map (some mb)) sc_60 rfl (by repeat (first | exact Pick.here | apply Pick.there)) rfl) ?_)
  refine l_step (s_q rfl wn (q_move rfl) ?_)
  refine l_step (s_q rfl wn (q_look (v := (ptV (mgetD (fm T) s none))) (ek := strB) (ev := ptV) (k := s) (zv := none) Tryd.underlying60 (mkey_str Tryd.underlying9) zi_64 rfl rfl (by repeat (first | exact Pick.here | apply Pick.there)) rfl) ?_)
  refine l_step (s_q rfl wn (q_eqlo (e := (mgetD (fm T) s none)) rfl rfl Tryd.underlying64) ?_)
  refine l_step (s_q rfl wn (q_assign rfl) ?_)
  refine l_nil ?_
  refine k_then_n ?_
  refine c_ret ?_
  exact t_ret [.pts c [.pointer (some ⟨b, 0, none⟩)] 27, .pts b (encDisk1 (⟨room, (some mb), calls⟩ : Disk1)) 62, MP strB ptV mb (fm T)] rfl (.tmp rfl .nil) rfl (Hp.le_refl _) ⟨rfl, boole (has_fm T s), rfl⟩ (by repeat (first | exact Ent.nil _ | exact Ent.refl _ | (refine Ent.pick (by repeat (first | exact Pick.here | apply Pick.there)) ?_) | refine Ent.skip ?_))

theorem there_spec (b : Nat) (room : Int) (mb : Nat) (calls : Int) (T : FT) (names_a : Option Addr) (names_n names_c : Nat) (names : List (List UInt8)) (hnames_n : names.length = names_n) (ρ : Hp) (hro : Ro ρ 1 names_a names_n names_c (names.flatMap Go.SL.encStr)) : Spec0 Tryd.prog 32 #[.pointer (some ⟨b, 0, none⟩), .slice names_a names_n names_c] ρ [.pts b (encDisk1 (⟨room, (some mb), calls⟩ : Disk1)) 62, MP strB ptV mb (fm T)] (fun v Γ' => v = .bool ((names.all (mhas (vw T)))) ∧ Γ' = [.pts b (encDisk1 (⟨room, (some mb), calls⟩ : Disk1)) 62, MP strB ptV mb (fm T)]) := by
  refine spec_of (n := 9) (vs := [_, _]) (σ := [(0, _), (1, _)]) Tryd.func32 rfl rfl rfl rfl fun E Δ => ?_
  simp only [List.cons_append, List.nil_append]
  refine c_seq ?_
  refine c_region ?_
  refine l_step (s_s rfl wn (s_box (cs := [.pointer (some ⟨b, 0, none⟩)]) rfl rfl) ?_)
  rintro _ _ ⟨b2, rfl, rfl⟩
  refine l_step (s_q rfl wn (q_assign rfl) ?_)
  refine l_nil ?_
  refine k_then_n ?_
  refine c_seq ?_
  refine c_region ?_
  refine l_step (s_q rfl wn (q_move rfl) ?_)
  refine l_step (s_q rfl wn (q_makeFunc rfl rfl) ?_)
  refine Tr.ent (Ent.trans (Ent.pick (A := .pts b2 [.pointer (some ⟨b, 0, none⟩)] 27) (by repeat (first | exact Pick.here | apply Pick.there)) (Ent.pick (A := .pts b (encDisk1 (⟨room, (some mb), calls⟩ : Disk1)) 62) (by repeat (first | exact Pick.here | apply Pick.there)) (Ent.pick (A := MP strB ptV mb (fm T)) (by repeat (first | exact Pick.here | apply Pick.there)) (Ent.refl _)))) (bun_in [.pts b2 [.pointer (some ⟨b, 0, none⟩)] 27, .pts b (encDisk1 (⟨room, (some mb), calls⟩ : Disk1)) 62, MP strB ptV mb (fm T)] _)) ?_
  refine l_step (s_fnb rfl wn Tryd.func27 rfl (by kernel_rfl) rfl (by repeat (first | exact Sel.nil | exact Pick.here | apply Sel.cons | apply Pick.there)) (fun ρ' hL => containsFunc_spec names_a names_n names_c names (by first | rfl | assumption) 56 [.pointer (some ⟨b2, 0, none⟩)] (fun x => !mhas (vw T) x) _ ρ' (by first | exact hL.ro (by assumption) | exact hL.bun (L := [.pts b2 [.pointer (some ⟨b, 0, none⟩)] 27, .pts b (encDisk1 (⟨room, (some mb), calls⟩ : Disk1)) 62, MP strB ptV mb (fm T)]) (by repeat (first | exact Pick.here | apply Pick.there)) (in_map _ (by first | assumption | omega | (simp only [List.length_cons, List.length_nil]; omega) | decide) rfl) | exact hL.row (by repeat (first | exact Pick.here | apply Pick.there)) | assumption) ⟨_, _, Tryd.func56, rfl, rfl⟩ (fun x hx ρ'' hl => spec0_bun (there1_spec x b2 b room mb calls T ρ''))) ?_)
  rintro _ _ ⟨rfl, rfl⟩
  try simp only [List.cons_append, List.nil_append]
  refine l_step (s_q rfl wn (q_not rfl) ?_)
  refine l_step (s_q rfl wn (q_assign rfl) ?_)
  refine l_nil ?_
  refine k_then_n ?_
  refine c_ret ?_
  refine Tr.ent (Ent.trans (Ent.pick (A := Bun [.pts b2 [.pointer (some ⟨b, 0, none⟩)] 27, .pts b (encDisk1 (⟨room, (some mb), calls⟩ : Disk1)) 62, MP strB ptV mb (fm T)]) (by repeat (first | exact Pick.here | apply Pick.there)) (Ent.refl _)) (bun_out [.pts b2 [.pointer (some ⟨b, 0, none⟩)] 27, .pts b (encDisk1 (⟨room, (some mb), calls⟩ : Disk1)) 62, MP strB ptV mb (fm T)] _)) ?_
  simp only [List.cons_append, List.nil_append]
  exact t_ret [.pts b (encDisk1 (⟨room, (some mb), calls⟩ : Disk1)) 62, MP strB ptV mb (fm T)] rfl (.tmp rfl .nil) rfl (Hp.le_refl _) ⟨rfl, boole (by simp [List.any_eq_not_all_not]), rfl⟩ (by repeat (first | exact Ent.nil _ | exact Ent.refl _ | (refine Ent.pick (by repeat (first | exact Pick.here | apply Pick.there)) ?_) | refine Ent.skip ?_))

theorem stopped_spec (b : Nat) (room : Int) (mb : Nat) (calls : Int) (T : FT) (ρ : Hp) (hc : calls ≤ 9223372036854775807) : Spec0 Tryd.prog 31 #[.pointer (some ⟨b, 0, none⟩)] ρ [.pts b (encDisk1 (⟨room, (some mb), calls⟩ : Disk1)) 62] (fun v Γ' => v = .bool (decide (calls = 0)) ∧ Γ' = [.pts b (encDisk1 (⟨room, (some mb), (decC calls)⟩ : Disk1)) 62]) := by
  refine spec_of (n := 20) (vs := [_]) (σ := [(0, _)]) Tryd.func31 rfl rfl rfl rfl fun E Δ => ?_
  simp only [List.cons_append, List.nil_append]
  refine c_seq ?_
  refine c_region ?_
  refine l_step (s_q rfl wn (q_assign rfl) ?_)
  refine l_nil ?_
  refine k_then_n ?_
  refine c_seq ?_
  refine c_seq ?_
  refine c_region ?_
  refine l_step (s_q rfl wn (q_move rfl) ?_)
  refine l_step (s_q rfl wn (q_nilCheck rfl) ?_)
  refine l_step (s_q rfl wn (q_fieldp rfl fo_62_2) ?_)
  refine l_step (s_q rfl wn (q_loadp (v := .int .i64 calls) sc_3 rfl (by repeat (first | exact Pick.here | apply Pick.there)) rfl) ?_)
  refine l_step (s_q rfl wn (q_gtr rfl rfl) ?_)
  refine l_nil ?_
  refine k_then_n ?_
  refine c_cond rfl (fun h0 => ?_) (fun h0 => ?_)
  · try simp only [Bool.and_eq_true, Bool.or_eq_true, Bool.not_eq_true', Bool.and_eq_false_iff, Bool.or_eq_false_iff, Bool.not_eq_false', decide_eq_true_eq, decide_eq_false_iff_not, Bool.not_eq_eq_eq_not, Bool.not_true, Bool.not_false, Bool.not_eq_true, Bool.not_eq_false, beq_iff_eq, bne_iff_ne, ne_eq, Decidable.not_not] at h0
    refine c_seq ?_
    refine c_region ?_
    refine l_step (s_q rfl wn (q_move rfl) ?_)
    refine l_step (s_q rfl wn (q_nilCheck rfl) ?_)
    refine l_step (s_q rfl wn (q_fieldp rfl fo_62_2) ?_)
    refine l_step (s_q rfl wn (q_loadp (v := .int .i64 calls) sc_3 rfl (by repeat (first | exact Pick.here | apply Pick.there)) rfl) ?_)
    refine l_step (s_q rfl wn (q_sub rfl rfl (by omega) (by omega)) ?_)
    refine l_step (s_q rfl wn (q_nilCheck rfl) ?_)
    refine l_step (s_q rfl wn (q_fieldp rfl fo_62_2) ?_)
    refine l_step (s_s0 wn (s_storep (ws := [.int .i64 (calls - 1)]) (cs := encDisk1 (⟨room, (some mb), calls⟩ : Disk1)) (cs' := encDisk1 (⟨room, (some mb), (calls - 1)⟩ : Disk1)) rfl rfl rfl sz_3 (by simp [Value.oneCell', strB, ptV, SL.v, SH.v]) (by simp [encDisk1]) rfl (by repeat (first | exact Pick.here | apply Pick.there))) ?_)
    rintro _ _ ⟨rfl, rfl⟩
    refine l_nil ?_
    refine k_then_n ?_
    refine c_seq ?_
    refine c_region ?_
    refine l_step (s_q rfl wn (q_assign rfl) ?_)
    refine l_nil ?_
    refine k_then_n ?_
    refine c_ret ?_
    refine k_then_r ?_
    rw [show calls - 1 = decC calls from (if_pos h0).symm]
    exact t_ret [.pts b (encDisk1 (⟨room, (some mb), (decC calls)⟩ : Disk1)) 62] rfl (.tmp rfl .nil) rfl (Hp.le_refl _) ⟨rfl, boole (decide_eq_false (by omega)).symm, rfl⟩ (by repeat (first | exact Ent.nil _ | exact Ent.refl _ | (refine Ent.pick (by repeat (first | exact Pick.here | apply Pick.there)) ?_) | refine Ent.skip ?_))
  · try simp only [Bool.and_eq_true, Bool.or_eq_true, Bool.not_eq_true', Bool.and_eq_false_iff, Bool.or_eq_false_iff, Bool.not_eq_false', decide_eq_true_eq, decide_eq_false_iff_not, Bool.not_eq_eq_eq_not, Bool.not_true, Bool.not_false, Bool.not_eq_true, Bool.not_eq_false, beq_iff_eq, bne_iff_ne, ne_eq, Decidable.not_not] at h0
    refine c_skip ?_
    refine k_then_n ?_
    refine c_seq ?_
    refine c_region ?_
    refine l_step (s_q rfl wn (q_move rfl) ?_)
    refine l_step (s_q rfl wn (q_nilCheck rfl) ?_)
    refine l_step (s_q rfl wn (q_fieldp rfl fo_62_2) ?_)
    refine l_step (s_q rfl wn (q_loadp (v := .int .i64 calls) sc_3 rfl (by repeat (first | exact Pick.here | apply Pick.there)) rfl) ?_)
    refine l_step (s_q rfl wn (q_eql rfl rfl) ?_)
    refine l_step (s_q rfl wn (q_assign rfl) ?_)
    refine l_nil ?_
    refine k_then_n ?_
    refine c_ret ?_
    have hd : decC calls = calls := if_neg h0
    exact t_ret [.pts b (encDisk1 (⟨room, (some mb), calls⟩ : Disk1)) 62] rfl (.tmp rfl .nil) rfl (Hp.le_refl _) ⟨rfl, rfl, by rw [hd]⟩ (by repeat (first | exact Ent.nil _ | exact Ent.refl _ | (refine Ent.pick (by repeat (first | exact Pick.here | apply Pick.there)) ?_) | refine Ent.skip ?_))

theorem stop_spec (b : Nat) (room : Int) (mb : Nat) (calls : Int) (T : FT) (n : Int) (ρ : Hp) : Spec0 Tryd.prog 23 #[.pointer (some ⟨b, 0, none⟩), .int .i64 n] ρ [.pts b (encDisk1 (⟨room, (some mb), calls⟩ : Disk1)) 62] (fun v Γ' => v = .tuple #[] ∧ Γ' = [.pts b (encDisk1 (⟨room, (some mb), (if (-1) > n then (-1) else n)⟩ : Disk1)) 62]) := by
  refine spec_of (n := 9) (vs := [_, _]) (σ := [(0, _), (1, _)]) Tryd.func23 rfl rfl rfl rfl fun E Δ => ?_
  simp only [List.cons_append, List.nil_append]
  refine c_region ?_
  refine l_step (s_q rfl wn (q_move rfl) ?_)
  refine l_step (s_q rfl wn (q_move rfl) ?_)
  refine l_step (s_q rfl wn (q_max2 rfl rfl) ?_)
  refine l_step (s_q rfl wn (q_nilCheck rfl) ?_)
  refine l_step (s_q rfl wn (q_fieldp rfl fo_62_2) ?_)
  refine l_step (s_s0 wn (s_storep (ws := [.int .i64 (if (-1) > n then (-1) else n)]) (cs := encDisk1 (⟨room, (some mb), calls⟩ : Disk1)) (cs' := encDisk1 (⟨room, (some mb), (if (-1) > n then (-1) else n)⟩ : Disk1)) rfl rfl rfl sz_3 (by simp [Value.oneCell', strB, ptV, SL.v, SH.v]) (by simp [encDisk1]) rfl (by repeat (first | exact Pick.here | apply Pick.there))) ?_)
  rintro _ _ ⟨rfl, rfl⟩
  refine l_nil ?_
  refine k_body_n ?_
  exact t_ret [.pts b (encDisk1 (⟨room, (some mb), (if (-1) > n then (-1) else n)⟩ : Disk1)) 62] rfl .nil rfl (Hp.le_refl _) ⟨rfl, rfl, rfl⟩ (by repeat (first | exact Ent.nil _ | exact Ent.refl _ | (refine Ent.pick (by repeat (first | exact Pick.here | apply Pick.there)) ?_) | refine Ent.skip ?_))

theorem free_spec (b : Nat) (room : Int) (mb : Nat) (calls : Int) (T : FT) (ρ : Hp) (hU : (usedT T : Int) ≤ room) (hr : room ≤ 9223372036854775807) : Spec0 Tryd.prog 18 #[.pointer (some ⟨b, 0, none⟩)] ρ [.pts b (encDisk1 (⟨room, (some mb), calls⟩ : Disk1)) 62, MP strB ptV mb (fm T), FB 66 5 T] (fun v Γ' => v = .int .i64 ((room - (usedT T : Int))) ∧ Γ' = [.pts b (encDisk1 (⟨room, (some mb), calls⟩ : Disk1)) 62, MP strB ptV mb (fm T), FB 66 5 T]) := by
  refine spec_of (n := 27) (vs := [_]) (σ := [(0, _)]) Tryd.func18 rfl rfl rfl rfl fun E Δ => ?_
  simp only [List.cons_append, List.nil_append]
  refine c_seq ?_
  refine c_region ?_
  refine l_step (s_q rfl wn (q_assign rfl) ?_)
  refine l_nil ?_
  refine k_then_n ?_
  refine c_seq ?_
  refine c_region ?_
  refine l_step (s_q rfl wn (q_move rfl) ?_)
  refine l_step (s_q rfl wn (q_nilCheck rfl) ?_)
  refine l_step (s_q rfl wn (q_fieldp rfl fo_62_0) ?_)
  refine l_step (s_q rfl wn (q_loadp (v := .int .i64 room) sc_3 rfl (by repeat (first | exact Pick.here | apply Pick.there)) rfl) ?_)
  refine l_step (s_q rfl wn (q_assign rfl) ?_)
  refine l_nil ?_
  refine k_then_n ?_
  refine c_seq ?_
  refine c_seq ?_
  refine c_region ?_
  refine l_step (s_q rfl wn (q_move rfl) ?_)
  refine l_step (s_q rfl wn (q_nilCheck rfl) ?_)
  refine l_step (s_q rfl wn (q_fieldp rfl fo_62_1) ?_)
  refine l_step (s_q rfl wn (q_loadp (v := .map (some mb)) sc_60 rfl (by repeat (first | exact Pick.here | apply Pick.there)) rfl) ?_)
  refine l_step (s_s rfl wn (s_range (ek := strB) (ev := ptV) (Γr := fun _ => _) Tryd.underlying60 rfl (fun _ => (by repeat (first | exact Pick.here | apply Pick.there)))) ?_)
  rintro _ _ ⟨r14, rfl, rfl⟩
  refine l_nil ?_
  refine k_then_n ?_
  refine c_block ?_
  refine Tr.env (σ' := [(2, _), (3, _), (14, _)]) (.cons rfl rfl (.cons rfl rfl (.cons rfl rfl (.nil _)))) ?_
  refine t_loop (ι := Lp (FT)) (fun x => (∀ e ∈ x.d, e ∈ T) ∧ usedT x.d ≤ usedT T) (fun x => x.d.length) (fun x => [(2, .int .i64 0), (3, .int .i64 (room - ((usedT T : Int) - (usedT x.d : Int)))), (14, .pointer (some ⟨r14, 0, none⟩))]) (fun x => .pts b (encDisk1 (⟨room, (some mb), calls⟩ : Disk1)) 62 :: MI strB ptV mb r14 (fm T) (fm x.d) none :: FB 66 5 T :: Δ) (⟨T, none, 0, none, 0, none, 0⟩ : Lp _) ⟨fun _ h => h, Nat.le_refl _⟩ ?_ ?_ ?_
  · exact .cons rfl (by first | rfl | exact inte (by omega) | (simp; done) | (simp <;> omega) | simp [*]) (.cons rfl (by first | rfl | exact inte (by omega) | (simp; done) | (simp <;> omega) | simp [*]) (.cons rfl (by first | rfl | exact inte (by omega) | (simp; done) | (simp <;> omega) | simp [*]) (.nil _)))
  · exact (by repeat (first | exact Ent.nil _ | exact Ent.refl _ | (refine Ent.pick (by repeat (first | exact Pick.here | apply Pick.there)) ?_) | refine Ent.skip ?_))
  intro x hx
  obtain ⟨hx1, hx2⟩ := hx
  refine c_seq ?_
  refine c_region ?_
  refine l_step (s_s rfl wn (s_next (ek := strB) (ev := ptV) (Γl := fun _ _ => _) rfl (fun _ _ => (by repeat (first | exact Pick.here | apply Pick.there)))) ?_)
  rintro _ _ (⟨rfl, hle15, rfl⟩ | ⟨j15, k15, u15, hj15, rfl, rfl⟩)
  · skip
    have hl0 : x.d = [] := List.map_eq_nil_iff.1 hle15
    refine l_step (s_q rfl wn (q_extract rfl rfl) ?_)
    refine l_nil ?_
    refine k_then_n ?_
    refine c_seq ?_
    refine c_no rfl ?_
    refine c_exit ?_
    refine k_then_x ?_
    refine k_then_x ?_
    refine k_blk_x ?_
    refine k_then_n ?_
    refine c_seq ?_
    refine c_region ?_
    refine l_step (s_q rfl wn (q_move rfl) ?_)
    refine l_step (s_q rfl wn (q_assign rfl) ?_)
    refine l_nil ?_
    refine k_then_n ?_
    refine c_ret ?_
    refine Tr.ent (Ent.trans (Ent.pick (A := MI strB ptV mb r14 (fm T) [] none) (by repeat (first | exact Pick.here | apply Pick.there)) (Ent.refl _)) mi_mp) ?_
    exact t_ret [.pts b (encDisk1 (⟨room, (some mb), calls⟩ : Disk1)) 62, MP strB ptV mb (fm T), FB 66 5 T] rfl (.tmp rfl .nil) rfl (Hp.le_refl _) ⟨rfl, inte (by rw [hl0]; simp [usedT]), rfl⟩ (by repeat (first | exact Ent.nil _ | exact Ent.refl _ | (refine Ent.pick (by repeat (first | exact Pick.here | apply Pick.there)) ?_) | refine Ent.skip ?_))
  · skip
    obtain ⟨e, hje, rfl, rfl⟩ := fm_at hj15
    rw [fm_erase]
    have hue := used_erase hje
    obtain ⟨i, hi, hie⟩ := List.getElem_of_mem (hx1 e (List.mem_of_getElem? hje))
    have hie2 : T[i]? = some e := by rw [List.getElem?_eq_getElem hi, hie]
    have hua := used_at hie2
    refine l_step (s_q rfl wn (q_extract rfl rfl) ?_)
    refine l_nil ?_
    refine k_then_n ?_
    refine c_seq ?_
    refine c_yes rfl ?_
    refine c_skip ?_
    refine k_then_n ?_
    refine c_block ?_
    refine c_seq ?_
    refine c_region ?_
    refine Tr.ent (file_open (t := 66) (tb := 5) hie2 (by repeat (first | exact Pick.here | apply Pick.there))) ?_
    refine l_step (s_q rfl wn (q_entry (ek := strB) (ev := ptV) (k := e.name) (u := (some e.blk)) rfl (by repeat (first | exact Pick.here | apply Pick.there))) ?_)
    refine l_step (s_q rfl wn (q_extract rfl rfl) ?_)
    refine l_step (s_q rfl wn (q_assign rfl) ?_)
    refine l_nil ?_
    refine k_then_n ?_
    refine c_region ?_
    refine l_step (s_q rfl wn (q_move rfl) ?_)
    refine l_step (s_q rfl wn (q_move rfl) ?_)
    refine l_step (s_q rfl wn (q_nilCheck rfl) ?_)
    refine l_step (s_q rfl wn (q_fieldp rfl fo_66_0) ?_)
    refine l_step (s_q rfl wn (q_loadp (v := .slice e.a e.xs.length e.cap) sc_32 rfl (by repeat (first | exact Pick.here | apply Pick.there)) rfl) ?_)
    refine l_step (s_q rfl wn (q_len Tryd.underlying32 rfl) ?_)
    refine l_step (s_q rfl wn (q_sub rfl rfl (by omega) (by omega)) ?_)
    refine l_step (s_q rfl wn (q_assign rfl) ?_)
    refine l_nil ?_
    refine k_blk_n ?_
    refine k_then_n ?_
    refine Tr.ent (Ent.trans (Ent.pick (A := .pts e.blk (encFile1 (⟨⟨e.a, e.xs.length, e.cap⟩, e.safe⟩ : File1)) 66) (by repeat (first | exact Pick.here | apply Pick.there)) (Ent.pick (A := .row 5 1 e.a e.xs.length e.cap (e.xs.flatMap encB)) (by repeat (first | exact Pick.here | apply Pick.there)) (Ent.pick (A := Bun ((fL 66 5 T).eraseIdx i)) (by repeat (first | exact Pick.here | apply Pick.there)) (Ent.refl _)))) (file_same (t := 66) (tb := 5) hie2)) ?_
    refine Tr.ent (mi_forget (ek := strB) (ev := ptV) (b := mb) (r := r14) (m := fm T) (left := fm (x.d.eraseIdx j15)) (by repeat (first | exact Pick.here | apply Pick.there))) ?_
    exact t_next (⟨x.d.eraseIdx j15, none, 0, none, 0, none, 0⟩ : Lp _) ⟨⟨fun y hy => hx1 y (List.mem_of_mem_eraseIdx hy), by simp only []; omega⟩, by have h9 := (List.getElem?_eq_some_iff.1 hje).1; simp only [List.length_eraseIdx]; rw [if_pos h9]; omega⟩ (.cons rfl (by first | rfl | exact inte (by omega) | (simp; done) | (simp <;> omega) | simp [*]) (.cons rfl (by first | rfl | exact inte (by omega) | (simp; done) | (simp <;> omega) | simp [*]) (.cons rfl (by first | rfl | exact inte (by omega) | (simp; done) | (simp <;> omega) | simp [*]) (.nil _)))) (by repeat (first | exact Ent.nil _ | exact Ent.refl _ | (refine Ent.pick (by repeat (first | exact Pick.here | apply Pick.there)) ?_) | refine Ent.skip ?_))
end Go.Dsk

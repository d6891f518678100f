/-
  Package disk, walked.
-/
import Derived.Test.YtehaoafnobnneaaDoorDskW
import Derived.Test.YtehaoafnobnneaaDoorDskQ
import Derived.Test.YtehaoafnobnneaaDoorDskL
import Derived.Test.YtehaoafnobnneaaDoorProg
set_option maxRecDepth 100000
set_option maxHeartbeats 4000000
set_option linter.unusedSimpArgs false
set_option linter.unusedVariables false
namespace Go.Dsk.X
open Go Go.SL Go.Proofs Go.Dsk Go.Dsk.L
attribute [local irreducible] Go.SL.Ent
theorem eo_5 : elemOk Tryd.prog 5 1 1 = true := by kernel_rfl
theorem fo_62_1 : fieldOff Tryd.prog 62 1 = some (1, 60) := by kernel_rfl
theorem fo_66_0 : fieldOff Tryd.prog 66 0 = some (0, 32) := by kernel_rfl
theorem fo_66_1 : fieldOff Tryd.prog 66 1 = some (1, 3) := by kernel_rfl
theorem pl_62 : placesOf Tryd.prog 62 = some [(0, 1), (1, 1), (2, 1)] := by kernel_rfl
theorem sc_3 : isScalar Tryd.prog 3 = true := by kernel_rfl
theorem sc_32 : isScalar Tryd.prog 32 = true := by kernel_rfl
theorem sc_60 : isScalar Tryd.prog 60 = true := by kernel_rfl
theorem zc_62 : zeroCs Tryd.prog 62 = some [.int .i64 0, .map none, .int .i64 0] := by kernel_rfl
theorem zi_64 : (Tryd.prog.info? 64).bind (·.zero) = some (ptV none) := by kernel_rfl

theorem new_spec (room : Int) (ρ : Hp) : Spec0 Tryd.prog 12 #[.int .i64 room] ρ [] (fun v Γ' => (0 ≤ room ∧ ∃ b mb, v = .tuple #[.pointer (some ⟨b, 0, none⟩), .int .i64 0] ∧ Γ' = [.pts b (encDisk1 (⟨room, (some mb), (-1)⟩ : Disk1)) 62, MP strB ptV mb (fm []), FB 66 5 []]) ∨ (room < 0 ∧ v = .tuple #[.pointer none, .int .i64 2] ∧ Γ' = [])) := by
  refine spec_of (n := 10) (vs := [_]) (σ := [(0, _)]) Tryd.func12 rfl rfl rfl rfl fun E Δ => ?_
  rw [List.nil_append]
  refine c_seq ?_
  refine c_region ?_
  refine l_step (s_q rfl wn (q_assign rfl) ?_)
  refine l_step (s_q rfl wn (q_assign rfl) ?_)
  refine l_nil ?_
  refine k_then_n ?_
  refine c_seq ?_
  refine c_seq ?_
  refine c_region ?_
  refine l_step (s_q rfl wn (q_move rfl) ?_)
  refine l_step (s_q rfl wn (q_lss rfl rfl) ?_)
  refine l_nil ?_
  refine k_then_n ?_
  refine c_cond rfl (fun h0 => ?_) (fun h0 => ?_)
  · try simp only [Bool.and_eq_true, Bool.or_eq_true, Bool.not_eq_true', Bool.and_eq_false_iff, Bool.or_eq_false_iff, Bool.not_eq_false', decide_eq_true_eq, decide_eq_false_iff_not, Bool.not_eq_eq_eq_not, Bool.not_true, Bool.not_false, Bool.not_eq_true, Bool.not_eq_false, beq_iff_eq, bne_iff_ne, ne_eq, Decidable.not_not] at h0
    have hb : room < 0 := h0
    refine c_seq ?_
    refine c_region ?_
    refine l_step (s_q rfl wn (q_assign rfl) ?_)
    refine l_step (s_q rfl wn (q_assign rfl) ?_)
    refine l_nil ?_
    refine k_then_n ?_
    refine c_ret ?_
    refine k_then_r ?_
    exact t_ret [] rfl (.tmp rfl (.tmp rfl .nil)) rfl (Hp.le_refl _) ⟨rfl, .inr ⟨hb, rfl, rfl⟩⟩ (by (repeat refine Ent.skip ?_); exact Ent.refl _)
  · try simp only [Bool.and_eq_true, Bool.or_eq_true, Bool.not_eq_true', Bool.and_eq_false_iff, Bool.or_eq_false_iff, Bool.not_eq_false', decide_eq_true_eq, decide_eq_false_iff_not, Bool.not_eq_eq_eq_not, Bool.not_true, Bool.not_false, Bool.not_eq_true, Bool.not_eq_false, beq_iff_eq, bne_iff_ne, ne_eq, Decidable.not_not] at h0
    have hb : 0 ≤ room := by omega
    refine Tr.ent (bun_nil _) ?_
    refine c_skip ?_
    refine k_then_n ?_
    refine c_seq ?_
    refine c_region ?_
    refine l_step (s_q rfl wn (q_move rfl) ?_)
    refine l_step (s_s rfl wn (s_makeMap (ek := strB) (ev := ptV)) ?_)
    rintro _ _ ⟨b7, rfl, rfl⟩
    refine l_step (s_q rfl wn (q_build (cs := encDisk1 (⟨room, (some b7), (-1)⟩ : Disk1)) zc_62 pl_62 rfl rfl) ?_)
    refine l_step (s_s rfl wn (s_box (cs := encDisk1 (⟨room, (some b7), (-1)⟩ : Disk1)) rfl rfl) ?_)
    rintro _ _ ⟨b9, rfl, rfl⟩
    refine l_step (s_q rfl wn (q_assign rfl) ?_)
    refine l_step (s_q rfl wn (q_assign rfl) ?_)
    refine l_nil ?_
    refine k_then_n ?_
    refine c_ret ?_
    exact t_ret [.pts b9 (encDisk1 (⟨room, (some b7), (-1)⟩ : Disk1)) 62, MP strB ptV b7 (fm []), FB 66 5 []] rfl (.tmp rfl (.tmp rfl .nil)) rfl (Hp.le_refl _) ⟨rfl, .inl ⟨hb, b9, b7, rfl, rfl⟩⟩ (by repeat (first | exact Ent.nil _ | exact Ent.refl _ | (refine Ent.pick (by repeat (first | exact Pick.here | apply Pick.there)) ?_) | refine Ent.skip ?_))

theorem clone_spec (b_a : Option Addr) (b_n b_c : Nat) (b : List UInt8) (hb_n : b.length = b_n) (ρ : Hp) (hl : b_n ≤ 1000000000000) (hro : Ro ρ 1 b_a b_n b_c (b.flatMap encB)) : Spec0 Tryd.prog 33 #[.slice b_a b_n b_c] ρ [] (fun v Γ' => ∃ a c, v = .slice a b_n c ∧ Γ' = [.row 5 1 a b_n c (b.flatMap encB)]) := by
  refine spec_of (n := 8) (vs := [_]) (σ := [(0, _)]) Tryd.func33 rfl rfl rfl rfl fun E Δ => ?_
  rw [List.nil_append]
  refine c_seq ?_
  refine c_region ?_
  refine l_step (s_q rfl wn (q_assign rfl) ?_)
  refine l_nil ?_
  refine k_then_n ?_
  refine c_seq ?_
  refine c_seq ?_
  refine c_region ?_
  refine l_step (s_q rfl wn (q_move rfl) ?_)
  refine l_step (s_q rfl wn (q_eqnil Tryd.underlying32 rfl rfl) ?_)
  refine l_nil ?_
  refine k_then_n ?_
  refine c_cond rfl (fun h0 => ?_) (fun h0 => ?_)
  · skip
    obtain ⟨e1, e2⟩ := ro_nilB hro h0 hb_n
    subst e1
    subst e2
    refine c_seq ?_
    refine c_region ?_
    refine l_step (s_q rfl wn (q_assign rfl) ?_)
    refine l_nil ?_
    refine k_then_n ?_
    refine c_ret ?_
    refine k_then_r ?_
    refine Tr.ent (Ent.nilrow 5 1 _) ?_
    exact t_ret [.row 5 1 none 0 0 (([] : List UInt8).flatMap encB)] rfl (.tmp rfl .nil) rfl (Hp.le_refl _) ⟨rfl, none, 0, rfl, rfl⟩ (by repeat (first | exact Ent.nil _ | exact Ent.refl _ | (refine Ent.pick (by repeat (first | exact Pick.here | apply Pick.there)) ?_) | refine Ent.skip ?_))
  · skip
    refine c_skip ?_
    refine k_then_n ?_
    refine c_seq ?_
    refine c_region ?_
    refine l_step (s_s rfl wn (s_buildSlice (cs := ([] : List UInt8).flatMap encB) Tryd.underlying32 eo_5 rfl rfl rfl rfl (by decide) (by decide)) ?_)
    rintro _ _ ⟨b5, rfl, rfl⟩
    refine l_step (s_q rfl wn (q_move rfl) ?_)
    refine l_step (s_s rfl wn (s_appendn (enc := encB) (xs := ([] : List UInt8)) (ys := (b : List UInt8)) (Γ' := fun a' cap' => _) Tryd.underlying32 eo_5 (by decide) rfl rfl (by first | assumption | exact rd_ro (by assumption) | exact rd_row (by repeat (first | exact Pick.here | apply Pick.there))) (oneB _) (by first | omega | (simp only [List.length_append, List.length_cons, List.length_nil] at *; omega)) (by first | omega | (simp only [List.length_append, List.length_cons, List.length_nil] at *; omega)) (fun _ _ => (by repeat (first | exact Pick.here | apply Pick.there)))) ?_)
    rintro _ _ ⟨a7, c7, rfl, rfl⟩
    simp only [Nat.zero_add, List.nil_append]
    refine l_step (s_q rfl wn (q_assign rfl) ?_)
    refine l_nil ?_
    refine k_then_n ?_
    refine c_ret ?_
    exact t_ret [.row 5 1 a7 b_n c7 (b.flatMap encB)] rfl (.tmp rfl .nil) rfl (Hp.le_refl _) ⟨rfl, a7, c7, rfl, rfl⟩ (by repeat (first | exact Ent.nil _ | exact Ent.refl _ | (refine Ent.pick (by repeat (first | exact Pick.here | apply Pick.there)) ?_) | refine Ent.skip ?_))

theorem read_spec (b : Nat) (room : Int) (mb : Nat) (calls : Int) (T : FT) (name : (List UInt8)) (ρ : Hp) (hT : FOk T) : Spec0 Tryd.prog 16 #[.pointer (some ⟨b, 0, none⟩), (strB name)] ρ [.pts b (encDisk1 (⟨room, (some mb), calls⟩ : Disk1)) 62, MP strB ptV mb (fm T), FB 66 5 T] (fun v Γ' => ∃ a c, v = .tuple #[.slice a (mgetD (vw T) name zF).1.length c, .bool (mhas (vw T) name)] ∧ Γ' = [.row 5 1 a (mgetD (vw T) name zF).1.length c ((mgetD (vw T) name zF).1.flatMap encB), .pts b (encDisk1 (⟨room, (some mb), calls⟩ : Disk1)) 62, MP strB ptV mb (fm T), FB 66 5 T]) := by
  refine spec_of (n := 20) (vs := [_, _]) (σ := [(0, _), (1, _)]) Tryd.func16 rfl rfl rfl rfl fun E Δ => ?_
  simp only [List.cons_append, List.nil_append]
  refine c_seq ?_
  refine c_region ?_
  refine l_step (s_q rfl wn (q_assign rfl) ?_)
  refine l_step (s_q rfl wn (q_assign rfl) ?_)
  refine l_nil ?_
  refine k_then_n ?_
  refine c_seq ?_
  refine c_region ?_
  refine l_step (s_q rfl wn (q_move rfl) ?_)
  refine l_step (s_q rfl wn (q_nilCheck rfl) ?_)
  refine l_step (s_q rfl wn (q_fieldp rfl fo_62_1) ?_)
  refine l_step (s_q rfl wn (q_loadp (v := .map (some mb)) sc_60 rfl (by repeat (first | exact Pick.here | apply Pick.there)) rfl) ?_)
  refine l_step (s_q rfl wn (q_move rfl) ?_)
  refine l_step (s_q rfl wn (q_look (v := (ptV (mgetD (fm T) name none))) (ek := strB) (ev := ptV) (k := name) (zv := none) Tryd.underlying60 (mkey_str Tryd.underlying9) zi_64 rfl rfl (by repeat (first | exact Pick.here | apply Pick.there)) rfl) ?_)
  refine l_step (s_q rfl wn (q_assign rfl) ?_)
  refine l_nil ?_
  refine k_then_n ?_
  refine c_seq ?_
  refine c_seq ?_
  refine c_region ?_
  refine l_step (s_q rfl wn (q_move rfl) ?_)
  refine l_step (s_q rfl wn (q_eqlo (e := (mgetD (fm T) name none)) rfl rfl Tryd.underlying64) ?_)
  refine l_nil ?_
  refine k_then_n ?_
  refine c_cond rfl (fun h0 => ?_) (fun h0 => ?_)
  · skip
    refine c_seq ?_
    refine c_region ?_
    refine l_step (s_q rfl wn (q_assign rfl) ?_)
    refine l_step (s_q rfl wn (q_assign rfl) ?_)
    refine l_nil ?_
    refine k_then_n ?_
    refine c_ret ?_
    refine k_then_r ?_
    have hn := iso_none' h0
    refine Tr.ent (Ent.nilrow 5 1 _) ?_
    have e1 := getD_no hn
    have e2 := has_no hn
    exact t_ret [.row 5 1 none 0 0 (([] : List UInt8).flatMap encB), .pts b (encDisk1 (⟨room, (some mb), calls⟩ : Disk1)) 62, MP strB ptV mb (fm T), FB 66 5 T] rfl (.tmp rfl (.tmp rfl .nil)) rfl (Hp.le_refl _) ⟨rfl, none, 0, by rw [e1, e2]; rfl, by rw [e1]; rfl⟩ (by repeat (first | exact Ent.nil _ | exact Ent.refl _ | (refine Ent.pick (by repeat (first | exact Pick.here | apply Pick.there)) ?_) | refine Ent.skip ?_))
  · skip
    obtain ⟨j, e, hjl, hj, hnm, hmg, hvg⟩ := look_some (opt_some h0)
    rw [hmg]
    refine Tr.ent (file_open (t := 66) (tb := 5) hj (by repeat (first | exact Pick.here | apply Pick.there))) ?_
    refine c_skip ?_
    refine k_then_n ?_
    refine c_seq ?_
    refine c_region ?_
    refine l_step (s_q rfl wn (q_move rfl) ?_)
    refine l_step (s_q rfl wn (q_nilCheck rfl) ?_)
    refine l_step (s_q rfl wn (q_fieldp rfl fo_66_0) ?_)
    refine l_step (s_q rfl wn (q_loadp (v := .slice e.a e.xs.length e.cap) sc_32 rfl (by repeat (first | exact Pick.here | apply Pick.there)) rfl) ?_)
    refine l_step (s_fnb rfl wn Tryd.func33 rfl (by kernel_rfl) rfl (by repeat (first | exact Sel.nil | exact Pick.here | apply Sel.cons | apply Pick.there)) (fun ρ' hL => clone_spec e.a e.xs.length e.cap e.xs rfl ρ' (Nat.le_trans (used_at hj) hT.us) (by first | exact hL.ro (by assumption) | exact hL.bun (L := (fL 66 5 T).eraseIdx j) (by repeat (first | exact Pick.here | apply Pick.there)) (in_map _ (by first | assumption | omega | (simp only [List.length_cons, List.length_nil]; omega) | decide) rfl) | exact hL.row (by repeat (first | exact Pick.here | apply Pick.there)) | assumption)) ?_)
    rintro _ _ ⟨a19, c19, rfl, rfl⟩
    try simp only [List.cons_append, List.nil_append]
    refine l_step (s_q rfl wn (q_assign rfl) ?_)
    refine l_step (s_q rfl wn (q_assign rfl) ?_)
    refine l_nil ?_
    refine k_then_n ?_
    refine c_ret ?_
    refine Tr.ent (Ent.trans (Ent.pick (A := .pts e.blk (encFile1 (⟨⟨e.a, e.xs.length, e.cap⟩, e.safe⟩ : File1)) 66) (by repeat (first | exact Pick.here | apply Pick.there)) (Ent.pick (A := .row 5 1 e.a e.xs.length e.cap (e.xs.flatMap encB)) (by repeat (first | exact Pick.here | apply Pick.there)) (Ent.pick (A := Bun ((fL 66 5 T).eraseIdx j)) (by repeat (first | exact Pick.here | apply Pick.there)) (Ent.refl _)))) (file_same (t := 66) (tb := 5) hj)) ?_
    have e1 := getD_of hvg
    have e2 := has_of hvg
    exact t_ret [.row 5 1 a19 e.xs.length c19 (e.xs.flatMap encB), .pts b (encDisk1 (⟨room, (some mb), calls⟩ : Disk1)) 62, MP strB ptV mb (fm T), FB 66 5 T] rfl (.tmp rfl (.tmp rfl .nil)) rfl (Hp.le_refl _) ⟨rfl, a19, c19, by rw [e1, e2]; rfl, by rw [e1]⟩ (by repeat (first | exact Ent.nil _ | exact Ent.refl _ | (refine Ent.pick (by repeat (first | exact Pick.here | apply Pick.there)) ?_) | refine Ent.skip ?_))

theorem safe_spec (b : Nat) (room : Int) (mb : Nat) (calls : Int) (T : FT) (name : (List UInt8)) (ρ : Hp) : Spec0 Tryd.prog 17 #[.pointer (some ⟨b, 0, none⟩), (strB name)] ρ [.pts b (encDisk1 (⟨room, (some mb), calls⟩ : Disk1)) 62, MP strB ptV mb (fm T), FB 66 5 T] (fun v Γ' => v = .int .i64 ((mgetD (vw T) name zF).2) ∧ Γ' = [.pts b (encDisk1 (⟨room, (some mb), calls⟩ : Disk1)) 62, MP strB ptV mb (fm T), FB 66 5 T]) := by
  refine spec_of (n := 18) (vs := [_, _]) (σ := [(0, _), (1, _)]) Tryd.func17 rfl rfl rfl rfl fun E Δ => ?_
  simp only [List.cons_append, List.nil_append]
  refine c_seq ?_
  refine c_region ?_
  refine l_step (s_q rfl wn (q_assign rfl) ?_)
  refine l_nil ?_
  refine k_then_n ?_
  refine c_seq ?_
  refine c_seq ?_
  refine c_region ?_
  refine l_step (s_q rfl wn (q_move rfl) ?_)
  refine l_step (s_q rfl wn (q_nilCheck rfl) ?_)
  refine l_step (s_q rfl wn (q_fieldp rfl fo_62_1) ?_)
  refine l_step (s_q rfl wn (q_loadp (v := .map (some mb)) sc_60 rfl (by repeat (first | exact Pick.here | apply Pick.there)) rfl) ?_)
  refine l_step (s_q rfl wn (q_move rfl) ?_)
  refine l_step (s_q rfl wn (q_look (v := (ptV (mgetD (fm T) name none))) (ek := strB) (ev := ptV) (k := name) (zv := none) Tryd.underlying60 (mkey_str Tryd.underlying9) zi_64 rfl rfl (by repeat (first | exact Pick.here | apply Pick.there)) rfl) ?_)
  refine l_step (s_q rfl wn (q_assign rfl) ?_)
  refine l_nil ?_
  refine k_then_n ?_
  refine c_seq ?_
  refine c_region ?_
  refine l_step (s_q rfl wn (q_move rfl) ?_)
  refine l_step (s_q rfl wn (q_neqo (e := (mgetD (fm T) name none)) rfl rfl Tryd.underlying64) ?_)
  refine l_nil ?_
  refine k_then_n ?_
  refine c_cond rfl (fun h0 => ?_) (fun h0 => ?_)
  · skip
    obtain ⟨j, e, hjl, hj, hnm, hmg, hvg⟩ := look_some (iso_some h0)
    rw [hmg]
    refine Tr.ent (file_open (t := 66) (tb := 5) hj (by repeat (first | exact Pick.here | apply Pick.there))) ?_
    refine c_seq ?_
    refine c_region ?_
    refine l_step (s_q rfl wn (q_move rfl) ?_)
    refine l_step (s_q rfl wn (q_nilCheck rfl) ?_)
    refine l_step (s_q rfl wn (q_fieldp rfl fo_66_1) ?_)
    refine l_step (s_q rfl wn (q_loadp (v := .int .i64 e.safe) sc_3 rfl (by repeat (first | exact Pick.here | apply Pick.there)) rfl) ?_)
    refine l_step (s_q rfl wn (q_assign rfl) ?_)
    refine l_nil ?_
    refine k_then_n ?_
    refine c_ret ?_
    refine k_then_r ?_
    refine Tr.ent (Ent.trans (Ent.pick (A := .pts e.blk (encFile1 (⟨⟨e.a, e.xs.length, e.cap⟩, e.safe⟩ : File1)) 66) (by repeat (first | exact Pick.here | apply Pick.there)) (Ent.pick (A := .row 5 1 e.a e.xs.length e.cap (e.xs.flatMap encB)) (by repeat (first | exact Pick.here | apply Pick.there)) (Ent.pick (A := Bun ((fL 66 5 T).eraseIdx j)) (by repeat (first | exact Pick.here | apply Pick.there)) (Ent.refl _)))) (file_same (t := 66) (tb := 5) hj)) ?_
    have e1 := getD_of hvg
    exact t_ret [.pts b (encDisk1 (⟨room, (some mb), calls⟩ : Disk1)) 62, MP strB ptV mb (fm T), FB 66 5 T] rfl (.tmp rfl .nil) rfl (Hp.le_refl _) ⟨rfl, by rw [e1]; rfl, rfl⟩ (by repeat (first | exact Ent.nil _ | exact Ent.refl _ | (refine Ent.pick (by repeat (first | exact Pick.here | apply Pick.there)) ?_) | refine Ent.skip ?_))
  · skip
    refine c_skip ?_
    refine k_then_n ?_
    refine c_seq ?_
    refine c_region ?_
    refine l_step (s_q rfl wn (q_assign rfl) ?_)
    refine l_nil ?_
    refine k_then_n ?_
    refine c_ret ?_
    exact t_ret [.pts b (encDisk1 (⟨room, (some mb), calls⟩ : Disk1)) 62, MP strB ptV mb (fm T), FB 66 5 T] rfl (.tmp rfl .nil) rfl (Hp.le_refl _) ⟨rfl, by rw [getD_no (iso_none h0)]; rfl, rfl⟩ (by repeat (first | exact Ent.nil _ | exact Ent.refl _ | (refine Ent.pick (by repeat (first | exact Pick.here | apply Pick.there)) ?_) | refine Ent.skip ?_))

theorem keysF_spec (mb : Nat) (ρ : Hp) : Spec0 Tryd.prog 35 #[.map (some mb)] ρ [] (fun v Γ' => ∃ c, v = .func (.func 59) #[] #[.pointer (some ⟨c, 0, none⟩)] ∧ Γ' = [.pts c [.map (some mb)] 60]) := by
  refine spec_of (n := 4) (vs := [_]) (σ := [(0, _)]) Tryd.func35 rfl rfl rfl rfl fun E Δ => ?_
  rw [List.nil_append]
  refine c_seq ?_
  refine c_region ?_
  refine l_step (s_s rfl wn (s_box (cs := [.map (some mb)]) rfl rfl) ?_)
  rintro _ _ ⟨b1, rfl, rfl⟩
  refine l_step (s_q rfl wn (q_assign rfl) ?_)
  refine l_nil ?_
  refine k_then_n ?_
  refine c_seq ?_
  refine c_region ?_
  refine l_step (s_q rfl wn (q_makeFunc rfl rfl) ?_)
  refine l_step (s_q rfl wn (q_assign rfl) ?_)
  refine l_nil ?_
  refine k_then_n ?_
  refine c_ret ?_
  exact t_ret [.pts b1 [.map (some mb)] 60] rfl (.tmp rfl .nil) rfl (Hp.le_refl _) ⟨rfl, b1, rfl, rfl⟩ (by repeat (first | exact Ent.nil _ | exact Ent.refl _ | (refine Ent.pick (by repeat (first | exact Pick.here | apply Pick.there)) ?_) | refine Ent.skip ?_))

theorem names_spec (b : Nat) (room : Int) (mb : Nat) (calls : Int) (T : FT) (ρ : Hp) (hT : FOk T) : Spec0 Tryd.prog 20 #[.pointer (some ⟨b, 0, none⟩)] ρ [.pts b (encDisk1 (⟨room, (some mb), calls⟩ : Disk1)) 62, MP strB ptV mb (fm T), FB 66 5 T] (fun v Γ' => ∃ a c, v = .slice a T.length c ∧ Γ' = [.row 9 1 a T.length c ((sortS (T.map (·.name))).flatMap Go.SL.encStr), .pts b (encDisk1 (⟨room, (some mb), calls⟩ : Disk1)) 62, MP strB ptV mb (fm T), FB 66 5 T]) := by
  refine spec_of (n := 9) (vs := [_]) (σ := [(0, _)]) Tryd.func20 rfl rfl rfl rfl fun E Δ => ?_
  simp only [List.cons_append, List.nil_append]
  have hW : ∀ k ∈ mkeys (fm T), k.length ≤ maxLen := fun k hk => by rw [fm_keys] at hk; obtain ⟨e, he, rfl⟩ := List.mem_map.1 hk; exact Nat.le_trans (hT.nm e he) (by decide)
  refine c_seq ?_
  refine c_region ?_
  refine l_step (s_q rfl wn (q_assign rfl) ?_)
  refine l_nil ?_
  refine k_then_n ?_
  refine c_seq ?_
  refine c_region ?_
  refine l_step (s_q rfl wn (q_move rfl) ?_)
  refine l_step (s_q rfl wn (q_nilCheck rfl) ?_)
  refine l_step (s_q rfl wn (q_fieldp rfl fo_62_1) ?_)
  refine l_step (s_q rfl wn (q_loadp (v := .map (some mb)) sc_60 rfl (by repeat (first | exact Pick.here | apply Pick.there)) rfl) ?_)
  refine l_step (s_fnb rfl wn Tryd.func35 rfl (by kernel_rfl) rfl (by repeat (first | exact Sel.nil | exact Pick.here | apply Sel.cons | apply Pick.there)) (fun ρ' hL => keysF_spec mb ρ') ?_)
  rintro _ _ ⟨c7, rfl, rfl⟩
  try simp only [List.cons_append, List.nil_append]
  refine l_step (s_fnb rfl wn Tryd.func34 rfl (by kernel_rfl) rfl (by repeat (first | exact Sel.nil | exact Pick.here | apply Sel.cons | apply Pick.there)) (fun ρ' hL => keysF_sorted mb c7 (fm T) hW (by rw [fm_len]; have := hT.ln; omega) 60 ρ') ?_)
  rintro _ _ ⟨a8, c8, rfl, rfl⟩
  try simp only [List.cons_append, List.nil_append]
  refine l_step (s_q rfl wn (q_assign rfl) ?_)
  refine l_nil ?_
  refine k_then_n ?_
  refine c_ret ?_
  rw [fm_keys, fm_len]
  exact t_ret [.row 9 1 a8 T.length c8 ((sortS (T.map (·.name))).flatMap Go.SL.encStr), .pts b (encDisk1 (⟨room, (some mb), calls⟩ : Disk1)) 62, MP strB ptV mb (fm T), FB 66 5 T] rfl (.tmp rfl .nil) rfl (Hp.le_refl _) ⟨rfl, a8, c8, rfl, rfl⟩ (by repeat (first | exact Ent.nil _ | exact Ent.refl _ | (refine Ent.pick (by repeat (first | exact Pick.here | apply Pick.there)) ?_) | refine Ent.skip ?_))
end Go.Dsk.X

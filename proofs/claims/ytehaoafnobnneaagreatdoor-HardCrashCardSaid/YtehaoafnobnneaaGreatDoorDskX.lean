/-
  Package disk, walked.
-/
import Derived.Test.YtehaoafnobnneaaGreatDoorDskW
import Derived.Test.YtehaoafnobnneaaGreatDoorDskQ
import Derived.Test.YtehaoafnobnneaaGreatDoorDskL
import Derived.Test.YtehaoafnobnneaaGreatDoorProg
import Derived.Test.YtehaoafnobnneaaGreatDoorSlSq
set_option maxRecDepth 100000
set_option maxHeartbeats 4000000
set_option linter.unusedSimpArgs false
set_option linter.unusedVariables false
namespace Go.Dsk.X
open Go Go.SL Go.Proofs Go.Dsk Go.Dsk.L
attribute [local irreducible] Go.SL.Ent
theorem eo_5 : elemOk Tryz.prog 5 1 1 = true := by kernel_rfl
theorem fo_105_1 : fieldOff Tryz.prog 105 1 = some (1, 103) := by kernel_rfl
theorem fo_109_0 : fieldOff Tryz.prog 109 0 = some (0, 38) := by kernel_rfl
theorem pl_105 : placesOf Tryz.prog 105 = some [(0, 1), (1, 1), (2, 1)] := by kernel_rfl
theorem sc_103 : isScalar Tryz.prog 103 = true := by kernel_rfl
theorem sc_38 : isScalar Tryz.prog 38 = true := by kernel_rfl
theorem zc_105 : zeroCs Tryz.prog 105 = some [.int .i64 0, .map none, .int .i64 0] := by kernel_rfl
theorem zi_107 : (Tryz.prog.info? 107).bind (·.zero) = some (ptV none) := by kernel_rfl

theorem new_spec (room : Int) (ρ : Hp) : Spec0 Tryz.prog 27 #[.int .i64 room] ρ [] (fun v Γ' => (0 ≤ room ∧ ∃ b mb, v = .tuple #[.pointer (some ⟨b, 0, none⟩), .int .i64 0] ∧ Γ' = [.pts b (encDisk1 (⟨room, (some mb), (-1)⟩ : Disk1)) 105, MP strB ptV mb (fm []), FB 109 5 []]) ∨ (room < 0 ∧ v = .tuple #[.pointer none, .int .i64 2] ∧ Γ' = [])) := by
  refine spec_of (n := 10) (vs := [_]) (σ := [(0, _)]) Tryz.func27 rfl rfl rfl rfl fun E Δ => ?_
  rw [List.nil_append]
  refine sr ?_
  refine e_as rfl ?_
  refine e_as rfl ?_
  refine l_n ?_
  refine c_seq ?_
  refine sr ?_
  refine e_mv rfl ?_
  refine e_q (q_lss rfl rfl) ?_
  refine l_n ?_
  refine c_cond rfl (fun h0 => ?_) (fun h0 => ?_)
  · try simp only [decide_eq_true_eq, decide_eq_false_iff_not] at h0
    have hb : room < 0 := h0
    refine sr ?_
    refine e_as rfl ?_
    refine e_as rfl ?_
    refine l_n ?_
    refine c_ret ?_
    refine k_then_r ?_
    exact t_rt [] rfl (.tmp rfl (.tmp rfl .nil)) rfl ⟨rfl, .inr ⟨hb, rfl, rfl⟩⟩ (by (repeat refine Ent.skip ?_); exact Ent.refl _)
  · try simp only [decide_eq_true_eq, decide_eq_false_iff_not] at h0
    have hb : 0 ≤ room := by omega
    refine Tr.ent (bun_nil _) ?_
    refine c_skip ?_
    refine k_then_n ?_
    refine sr ?_
    refine e_mv rfl ?_
    refine e_s (s_makeMap (ek := strB) (ev := ptV)) ?_
    rintro _ _ ⟨b7, rfl, rfl⟩
    refine e_q (q_build (cs := encDisk1 (⟨room, (some b7), (-1)⟩ : Disk1)) zc_105 pl_105 rfl rfl) ?_
    refine e_s (s_box (cs := encDisk1 (⟨room, (some b7), (-1)⟩ : Disk1)) rfl rfl) ?_
    rintro _ _ ⟨b9, rfl, rfl⟩
    refine e_as rfl ?_
    refine e_as rfl ?_
    refine l_n ?_
    refine c_ret ?_
    exact t_rt [.pts b9 (encDisk1 (⟨room, (some b7), (-1)⟩ : Disk1)) 105, MP strB ptV b7 (fm []), FB 109 5 []] rfl (.tmp rfl (.tmp rfl .nil)) rfl ⟨rfl, .inl ⟨hb, b9, b7, rfl, rfl⟩⟩

theorem clone_spec (b_a : Option Addr) (b_n b_c : Nat) (b : List UInt8) (hb_n : b.length = b_n) (ρ : Hp) (hl : b_n ≤ 1000000000000) (hro : Ro ρ 1 b_a b_n b_c (b.flatMap encB)) : Spec0 Tryz.prog 74 #[.slice b_a b_n b_c] ρ [] (fun v Γ' => ∃ a c, v = .slice a b_n c ∧ Γ' = [.row 5 1 a b_n c (b.flatMap encB)]) := by
  refine spec_of (n := 8) (vs := [_]) (σ := [(0, _)]) Tryz.func74 rfl rfl rfl rfl fun E Δ => ?_
  rw [List.nil_append]
  refine sr ?_
  refine e_as rfl ?_
  refine l_n ?_
  refine c_seq ?_
  refine sr ?_
  refine e_mv rfl ?_
  refine e_q (q_eqnil Tryz.underlying38 rfl rfl) ?_
  refine l_n ?_
  refine c_cond rfl (fun h0 => ?_) (fun h0 => ?_)
  · skip
    obtain ⟨e1, e2⟩ := ro_nilB hro h0 hb_n
    subst e1
    subst e2
    refine sr ?_
    refine e_as rfl ?_
    refine l_n ?_
    refine c_ret ?_
    refine k_then_r ?_
    refine Tr.ent (Ent.nilrow 5 1 _) ?_
    exact t_rt [.row 5 1 none 0 0 (([] : List UInt8).flatMap encB)] rfl (.tmp rfl .nil) rfl ⟨rfl, none, 0, rfl, rfl⟩
  · skip
    refine c_skip ?_
    refine k_then_n ?_
    refine sr ?_
    refine e_s (s_buildSlice (cs := ([] : List UInt8).flatMap encB) Tryz.underlying38 eo_5 rfl rfl rfl rfl (by decide) (by decide)) ?_
    rintro _ _ ⟨b5, rfl, rfl⟩
    refine e_mv rfl ?_
    refine e_s (s_appendn (enc := encB) (xs := ([] : List UInt8)) (ys := (b : List UInt8)) (Γ' := fun a' cap' => _) Tryz.underlying38 eo_5 (by decide) rfl rfl (by first | assumption | exact rd_ro (by assumption) | exact rd_row pk_) (oneB _) (by first | omega | (simp only [List.length_append, List.length_cons, List.length_nil] at *; omega)) (by first | omega | (simp only [List.length_append, List.length_cons, List.length_nil] at *; omega)) (fun _ _ => pk_)) ?_
    rintro _ _ ⟨a7, c7, rfl, rfl⟩
    simp only [Nat.zero_add, List.nil_append]
    refine e_as rfl ?_
    refine l_n ?_
    refine c_ret ?_
    exact t_rt [.row 5 1 a7 b_n c7 (b.flatMap encB)] rfl (.tmp rfl .nil) rfl ⟨rfl, a7, c7, rfl, rfl⟩

theorem read_spec (b : Nat) (room : Int) (mb : Nat) (calls : Int) (T : FT) (name : (List UInt8)) (ρ : Hp) (hT : FOk T) : Spec0 Tryz.prog 43 #[.pointer (some ⟨b, 0, none⟩), (strB name)] ρ [.pts b (encDisk1 (⟨room, (some mb), calls⟩ : Disk1)) 105, MP strB ptV mb (fm T), FB 109 5 T] (fun v Γ' => ∃ a c, v = .tuple #[.slice a (mgetD (vw T) name zF).1.length c, .bool (mhas (vw T) name)] ∧ Γ' = [.row 5 1 a (mgetD (vw T) name zF).1.length c ((mgetD (vw T) name zF).1.flatMap encB), .pts b (encDisk1 (⟨room, (some mb), calls⟩ : Disk1)) 105, MP strB ptV mb (fm T), FB 109 5 T]) := by
  refine spec_of (n := 20) (vs := [_, _]) (σ := [(0, _), (1, _)]) Tryz.func43 rfl rfl rfl rfl fun E Δ => ?_
  simp only [List.cons_append, List.nil_append]
  refine sr ?_
  refine e_as rfl ?_
  refine e_as rfl ?_
  refine l_n ?_
  refine sr ?_
  refine e_mv rfl ?_
  refine e_q (q_nilCheck rfl) ?_
  refine e_q (q_fieldp rfl fo_105_1) ?_
  refine e_q (q_loadp (v := .map (some mb)) sc_103 rfl pk_ rfl) ?_
  refine e_mv rfl ?_
  refine e_q (q_look (v := (ptV (mgetD (fm T) name none))) (ek := strB) (ev := ptV) (k := name) (zv := none) Tryz.underlying103 (mkey_str Tryz.underlying9) zi_107 rfl rfl pk_ rfl) ?_
  refine e_as rfl ?_
  refine l_n ?_
  refine c_seq ?_
  refine sr ?_
  refine e_mv rfl ?_
  refine e_q (q_eqlo (e := (mgetD (fm T) name none)) rfl rfl Tryz.underlying107) ?_
  refine l_n ?_
  refine c_cond rfl (fun h0 => ?_) (fun h0 => ?_)
  · skip
    refine sr ?_
    refine e_as rfl ?_
    refine e_as rfl ?_
    refine l_n ?_
    refine c_ret ?_
    refine k_then_r ?_
    have hn := iso_none' h0
    refine Tr.ent (Ent.nilrow 5 1 _) ?_
    have e1 := getD_no hn
    have e2 := has_no hn
    exact t_rt [.row 5 1 none 0 0 (([] : List UInt8).flatMap encB), .pts b (encDisk1 (⟨room, (some mb), calls⟩ : Disk1)) 105, MP strB ptV mb (fm T), FB 109 5 T] rfl (.tmp rfl (.tmp rfl .nil)) rfl ⟨rfl, none, 0, by rw [e1, e2]; rfl, by rw [e1]; rfl⟩
  · skip
    obtain ⟨j, e, hjl, hj, hnm, hmg, hvg⟩ := look_some (opt_some h0)
    rw [hmg]
    refine Tr.ent (file_open (t := 109) (tb := 5) hj pk_) ?_
    refine c_skip ?_
    refine k_then_n ?_
    refine sr ?_
    refine e_mv rfl ?_
    refine e_q (q_nilCheck rfl) ?_
    refine e_q (q_fieldp rfl fo_109_0) ?_
    refine e_q (q_loadp (v := .slice e.a e.xs.length e.cap) sc_38 rfl pk_ rfl) ?_
    refine e_fn Tryz.func74 rfl sl_ (fun ρ' hL => clone_spec e.a e.xs.length e.cap e.xs rfl ρ' (Nat.le_trans (used_at hj) hT.us) (by first | exact hL.ro (by assumption) | exact hL.bun (L := (fL 109 5 T).eraseIdx j) pk_ (in_map _ (by first | assumption | omega | (simp only [List.length_cons, List.length_nil]; omega) | decide) rfl) | exact hL.row pk_ | assumption)) ?_
    rintro _ _ ⟨a19, c19, rfl, rfl⟩
    try simp only [List.cons_append, List.nil_append]
    refine e_as rfl ?_
    refine e_as rfl ?_
    refine l_n ?_
    refine c_ret ?_
    refine Tr.ent (Ent.trans (Ent.pick (A := .pts e.blk (encFile1 (⟨⟨e.a, e.xs.length, e.cap⟩, e.safe⟩ : File1)) 109) pk_ (Ent.pick (A := .row 5 1 e.a e.xs.length e.cap (e.xs.flatMap encB)) pk_ (Ent.pick (A := Bun ((fL 109 5 T).eraseIdx j)) pk_ (Ent.refl _)))) (file_same (t := 109) (tb := 5) hj)) ?_
    have e1 := getD_of hvg
    have e2 := has_of hvg
    exact t_rt [.row 5 1 a19 e.xs.length c19 (e.xs.flatMap encB), .pts b (encDisk1 (⟨room, (some mb), calls⟩ : Disk1)) 105, MP strB ptV mb (fm T), FB 109 5 T] rfl (.tmp rfl (.tmp rfl .nil)) rfl ⟨rfl, a19, c19, by rw [e1, e2]; rfl, by rw [e1]⟩



theorem keysF_spec (mb : Nat) (ρ : Hp) : Spec0 Tryz.prog 75 #[.map (some mb)] ρ [] (fun v Γ' => ∃ c, v = .func (.func 98) #[] #[.pointer (some ⟨c, 0, none⟩)] ∧ Γ' = [.pts c [.map (some mb)] 103]) := by
  refine spec_of (n := 4) (vs := [_]) (σ := [(0, _)]) Tryz.func75 rfl rfl rfl rfl fun E Δ => ?_
  rw [List.nil_append]
  refine sr ?_
  refine e_s (s_box (cs := [.map (some mb)]) rfl rfl) ?_
  rintro _ _ ⟨b1, rfl, rfl⟩
  refine e_as rfl ?_
  refine l_n ?_
  refine sr ?_
  refine e_q (q_makeFunc rfl rfl) ?_
  refine e_as rfl ?_
  refine l_n ?_
  refine c_ret ?_
  exact t_rt [.pts b1 [.map (some mb)] 103] rfl (.tmp rfl .nil) rfl ⟨rfl, b1, rfl, rfl⟩

theorem names_spec (b : Nat) (room : Int) (mb : Nat) (calls : Int) (T : FT) (ρ : Hp) (hT : FOk T) : Spec0 Tryz.prog 45 #[.pointer (some ⟨b, 0, none⟩)] ρ [.pts b (encDisk1 (⟨room, (some mb), calls⟩ : Disk1)) 105, MP strB ptV mb (fm T), FB 109 5 T] (fun v Γ' => ∃ a c, v = .slice a T.length c ∧ Γ' = [.row 9 1 a T.length c ((sortS (T.map (·.name))).flatMap Go.SL.encStr), .pts b (encDisk1 (⟨room, (some mb), calls⟩ : Disk1)) 105, MP strB ptV mb (fm T), FB 109 5 T]) := by
  refine spec_of (n := 9) (vs := [_]) (σ := [(0, _)]) Tryz.func45 rfl rfl rfl rfl fun E Δ => ?_
  simp only [List.cons_append, List.nil_append]
  have hW : ∀ k ∈ mkeys (fm T), k.length ≤ maxLen := fun k hk => by rw [fm_keys] at hk; obtain ⟨e, he, rfl⟩ := List.mem_map.1 hk; exact Nat.le_trans (hT.nm e he) (by decide)
  refine sr ?_
  refine e_as rfl ?_
  refine l_n ?_
  refine sr ?_
  refine e_mv rfl ?_
  refine e_q (q_nilCheck rfl) ?_
  refine e_q (q_fieldp rfl fo_105_1) ?_
  refine e_q (q_loadp (v := .map (some mb)) sc_103 rfl pk_ rfl) ?_
  refine e_fn Tryz.func75 rfl sl_ (fun ρ' hL => keysF_spec mb ρ') ?_
  rintro _ _ ⟨c7, rfl, rfl⟩
  try simp only [List.cons_append, List.nil_append]
  refine e_fn Tryz.func50 rfl sl_ (fun ρ' hL => keysF_sorted mb c7 (fm T) hW (by rw [fm_len]; have := hT.ln; omega) 103 ρ') ?_
  rintro _ _ ⟨a8, c8, rfl, rfl⟩
  try simp only [List.cons_append, List.nil_append]
  refine e_as rfl ?_
  refine l_n ?_
  refine c_ret ?_
  rw [fm_keys, fm_len]
  exact t_rt [.row 9 1 a8 T.length c8 ((sortS (T.map (·.name))).flatMap Go.SL.encStr), .pts b (encDisk1 (⟨room, (some mb), calls⟩ : Disk1)) 105, MP strB ptV mb (fm T), FB 109 5 T] rfl (.tmp rfl .nil) rfl ⟨rfl, a8, c8, rfl, rfl⟩
end Go.Dsk.X

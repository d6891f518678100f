/-
  Laws of chunk, walked.
-/
import Derived.Test.YtppngeebdmbeaaaChkQ
import Derived.Test.YtppngeebdmbeaaaChkU
import Derived.Test.YtppngeebdmbeaaaChkH
import Derived.Test.YtppngeebdmbeaaaChkG
import Derived.Test.YtppngeebdmbeaaaChkE
import Derived.Test.YtppngeebdmbeaaaProg
set_option maxRecDepth 100000
set_option maxHeartbeats 4000000
set_option linter.unusedSimpArgs false
set_option linter.unusedVariables false
namespace Go.Chk.I
open Go Go.SL Go.Proofs Go.Sum Go.Chk.C Go.Chk.D Go.Chk.E Go.Chk.G Go.Chk.H
attribute [local irreducible] Go.SL.Ent
theorem ag_95 : aggSize Try.prog 95 = some 6 := by kernel_rfl
theorem eo_95 : elemOk Try.prog 95 6 64 = true := by kernel_rfl
theorem fo_87_0 : fieldOff Try.prog 87 0 = some (0, 3) := by kernel_rfl
theorem pl_87 : placesOf Try.prog 87 = some [(0, 1), (1, 1)] := by kernel_rfl
theorem sc_3 : isScalar Try.prog 3 = true := by kernel_rfl
theorem sz_3 : sizeIs Try.prog 3 = some 1 := by kernel_rfl
theorem sz_95 : sizeIs Try.prog 95 = some 6 := by kernel_rfl
theorem zc_87 : zeroCs Try.prog 87 = some [.int .i64 0, .int .i64 0] := by kernel_rfl

theorem newer_spec (q_a : Option Addr) (q_n q_c : Nat) (q : List UInt8) (hq_n : q.length = q_n) (s_a : Option Addr) (s_n s_c : Nat) (s : List UInt8) (hs_n : s.length = s_n) (size : Two) (ρ : Hp) (hq : Ro ρ 1 q_a q_n q_c (q.flatMap encB)) (hro : Ro ρ 1 s_a s_n s_c (s.flatMap encB)) : Spec0 Try.prog 13 #[.slice q_a q_n q_c, .slice s_a s_n s_c, .agg (encTwo size).toArray] ρ [] (fun v Γ' => v = .bool true ∧ Γ' = []) := by
  refine spec_of (n := 160) (vs := [_, _, _]) (σ := [(0, _), (1, _), (2, _)]) Try.func13 rfl rfl rfl rfl fun E Δ => ?_
  rw [List.nil_append]
  refine c_seq ?_
  refine c_region ?_
  refine l_step (s_s rfl wn (s_box (cs := encTwo size) rfl rfl) ?_)
  rintro _ _ ⟨b5, rfl, rfl⟩
  refine l_step (s_q rfl wn (q_assign rfl) ?_)
  refine l_nil ?_
  refine k_then_n ?_
  refine c_seq ?_
  refine c_seq ?_
  refine c_region ?_
  refine l_step (s_fnq rfl wn Try.func36 rfl (by kernel_rfl) rfl (fun ρ' hL => awake_spec  ρ') ?_)
  refine l_step (s_q rfl wn (q_not rfl) ?_)
  refine l_step (s_q rfl wn (q_move rfl) ?_)
  refine l_step (s_q rfl (wy rfl rfl rfl) (q_move rfl) ?_)
  refine l_step (s_q rfl (wy rfl rfl rfl) (q_len Try.underlying22 rfl) ?_)
  refine l_step (s_q rfl (wy rfl rfl rfl) (q_gtr rfl rfl) ?_)
  refine l_step (s_q rfl wn (q_pick rfl rfl rfl) ?_)
  refine l_step (s_q rfl wn (q_move rfl) ?_)
  refine l_step (s_qg rfl (ask_f rfl rfl) (b := (!(decide (200 < (q_n : Int))))) (fun hb => q_move rfl) ?_)
  refine l_step (s_qg rfl (ask_f rfl rfl) (b := (!(decide (200 < (q_n : Int))))) (fun hb => OpQ.env (.cons rfl (gd_t hb) (.nil _) : EnvLe [(31, .slice s_a s_n s_c)] _) (q_len Try.underlying22 rfl)) ?_)
  refine l_step (s_qg rfl (ask_f rfl rfl) (b := (!(decide (200 < (q_n : Int))))) (fun hb => OpQ.env (.cons rfl (gd_t hb) (.nil _) : EnvLe [(32, .int .i64 (s_n : Int))] _) (q_gtr rfl rfl)) ?_)
  refine l_step (s_q rfl wn (q_pick_or rfl rfl rfl (fun h => by first | (rw [h]; rfl) | exact congrArg not h)) ?_)
  refine l_nil ?_
  refine k_then_n ?_
  refine c_cond rfl (fun h0 => ?_) (fun h0 => ?_)
  · (try dsimp only [heapOf] at h0); try simp only [Bool.and_eq_true, Bool.or_eq_true, Bool.not_eq_true', Bool.and_eq_false_iff, Bool.or_eq_false_iff, Bool.not_eq_false', decide_eq_true_eq, decide_eq_false_iff_not, Bool.not_eq_eq_eq_not, Bool.not_true, Bool.not_false, Bool.not_eq_true, Bool.not_eq_false, beq_iff_eq, bne_iff_ne, ne_eq, Decidable.not_not] at h0
    refine c_seq ?_
    refine c_region ?_
    refine l_step (s_fnq rfl wn Try.func36 rfl (by kernel_rfl) rfl (fun ρ' hL => awake_spec  ρ') ?_)
    refine l_step (s_q rfl wn (q_assign rfl) ?_)
    refine l_nil ?_
    refine k_then_n ?_
    refine c_ret ?_
    refine k_then_r ?_
    exact t_ret [] rfl (.tmp rfl .nil) rfl (Hp.le_refl _) ⟨rfl, rfl, rfl⟩ (by (repeat refine Ent.skip ?_); exact Ent.refl _)
  · (try dsimp only [heapOf] at h0); try simp only [Bool.and_eq_true, Bool.or_eq_true, Bool.not_eq_true', Bool.and_eq_false_iff, Bool.or_eq_false_iff, Bool.not_eq_false', decide_eq_true_eq, decide_eq_false_iff_not, Bool.not_eq_eq_eq_not, Bool.not_true, Bool.not_false, Bool.not_eq_true, Bool.not_eq_false, beq_iff_eq, bne_iff_ne, ne_eq, Decidable.not_not] at h0
    refine c_skip ?_
    refine k_then_n ?_
    refine c_seq ?_
    refine c_region ?_
    refine l_step (s_q rfl wn (q_indexp Try.underlying110 sz_3 rfl rfl (by omega) (by omega)) ?_)
    refine l_step (s_q rfl wn (q_loadp (v := .int .i64 size.e0) sc_3 rfl (by repeat (first | exact Pick.here | apply Pick.there)) rfl) ?_)
    refine l_step (s_q rfl wn (q_rem rfl rfl (by decide)) ?_)
    have hm1 := tmod_bounds size.e0 30 (by decide)
    refine l_step (s_q rfl wn (q_add rfl rfl (by omega) (by omega)) ?_)
    refine l_step (s_q rfl wn (q_remp rfl rfl (by omega) (by omega)) ?_)
    refine l_step (s_q rfl wn (q_add rfl rfl (by omega) (by omega)) ?_)
    refine l_step (s_q rfl wn (q_assign rfl) ?_)
    refine l_nil ?_
    refine k_then_n ?_
    refine c_seq ?_
    refine c_region ?_
    have hn1 : 1 ≤ (1 + ((size.e0.tmod 30 + 30) % 30)) := by omega
    have hn2 : (1 + ((size.e0.tmod 30 + 30) % 30)) ≤ 30 := by omega
    refine l_step (s_q rfl wn (q_build (cs := encMark (⟨4, 2⟩ : Mark)) zc_87 pl_87 rfl rfl) ?_)
    refine l_step (s_q rfl wn (q_move rfl) ?_)
    refine l_step (s_q rfl wn (q_move rfl) ?_)
    refine l_step (s_fnb rfl wn Try.func37 rfl (by kernel_rfl) rfl (by repeat (first | exact Sel.nil | exact Pick.here | apply Sel.cons | apply Pick.there)) (fun ρ' hL => cut_spec (⟨4, 2⟩ : Mark) q_a q_n q_c q (by first | rfl | assumption | simp | (simp <;> omega) | omega) (1 + (((size.e0.tmod 30) + 30) % 30)) ρ' (by omega) (by first | exact hL.ro (by assumption) | exact hL.row (by repeat (first | exact Pick.here | apply Pick.there)) | assumption)) ?_)
    rintro _ _ ⟨a46, c46, ps46, rfl, hm46, rfl⟩
    try simp only [List.cons_append, List.nil_append]
    refine l_step (s_q rfl wn (q_move rfl) ?_)
    refine l_step (s_q rfl wn (q_extract rfl rfl) ?_)
    refine l_step (s_q rfl wn (q_extract rfl rfl) ?_)
    refine l_step (s_q rfl wn (q_assign rfl) ?_)
    refine l_step (s_q rfl wn (q_assign rfl) ?_)
    refine l_nil ?_
    refine k_then_n ?_
    refine c_seq ?_
    refine c_region ?_
    refine l_step (s_q rfl wn (q_build (cs := encMark (⟨5, 1⟩ : Mark)) zc_87 pl_87 rfl rfl) ?_)
    refine l_step (s_q rfl wn (q_move rfl) ?_)
    refine l_step (s_q rfl wn (q_move rfl) ?_)
    refine l_step (s_fnb rfl wn Try.func37 rfl (by kernel_rfl) rfl (by repeat (first | exact Sel.nil | exact Pick.here | apply Sel.cons | apply Pick.there)) (fun ρ' hL => cut_spec (⟨5, 1⟩ : Mark) s_a s_n s_c s (by first | rfl | assumption | simp | (simp <;> omega) | omega) (1 + (((size.e0.tmod 30) + 30) % 30)) ρ' (by omega) (by first | exact hL.ro (by assumption) | exact hL.bun (L := ps46.map (rowP 5)) (by repeat (first | exact Pick.here | apply Pick.there)) (in_map _ (by first | assumption | omega | (simp only [List.length_cons, List.length_nil]; omega) | decide) rfl) | exact hL.row (by repeat (first | exact Pick.here | apply Pick.there)) | assumption)) ?_)
    rintro _ _ ⟨a53, c53, ps53, rfl, hm53, rfl⟩
    try simp only [List.cons_append, List.nil_append]
    refine l_step (s_q rfl wn (q_move rfl) ?_)
    refine l_step (s_q rfl wn (q_extract rfl rfl) ?_)
    refine l_step (s_q rfl wn (q_extract rfl rfl) ?_)
    refine l_step (s_q rfl wn (q_assign rfl) ?_)
    refine l_step (s_q rfl wn (q_assign rfl) ?_)
    refine l_nil ?_
    refine k_then_n ?_
    refine c_seq ?_
    refine c_region ?_
    rw [cutE_ok (by decide) hn1, cutE_ok (by decide) hn1]
    have hcut46 := hm46.trans (cutG_ok (by decide) hn1)
    have hcut53 := hm53.trans (cutG_ok (by decide) hn1)
    have hl46 := cut_num hcut46 hn1
    have hl53 := cut_num hcut53 hn1
    refine l_step (s_fnb rfl wn Try.func40 rfl (by kernel_rfl) rfl (by repeat (first | exact Sel.nil | exact Pick.here | apply Sel.cons | apply Pick.there)) (fun ρ' hL => new_spec 200 ρ') ?_)
    rintro _ _ ⟨b56, rfl, rfl⟩
    try simp only [List.cons_append, List.nil_append]
    simp only [HeapM, List.cons_append, List.nil_append]
    refine l_step (s_q rfl wn (q_assign rfl) ?_)
    refine l_nil ?_
    refine k_then_n ?_
    refine c_seq ?_
    refine c_seq ?_
    refine c_region ?_
    refine l_step (s_q rfl wn (q_move rfl) ?_)
    refine l_step (s_q rfl wn (q_neq rfl rfl) ?_)
    refine l_step (s_q rfl wn (q_move rfl) ?_)
    refine l_step (s_qg rfl (ask_f rfl rfl) (b := (!(decide (0 ≠ 0)))) (fun hb => q_move rfl) ?_)
    refine l_step (s_qg rfl (ask_f rfl rfl) (b := (!(decide (0 ≠ 0)))) (fun hb => OpQ.env (.cons rfl (gd_t hb) (.nil _) : EnvLe [(60, .int .i64 0)] _) (q_neq rfl rfl)) ?_)
    refine l_step (s_q rfl wn (q_pick_or rfl rfl rfl (fun h => by first | (rw [h]; rfl) | exact congrArg not h)) ?_)
    refine l_step (s_q rfl wn (q_move rfl) ?_)
    refine l_step (s_qg rfl (ask_f rfl rfl) (b := (!((decide (0 ≠ 0)) || (decide (0 ≠ 0))))) (fun hb => q_move rfl) ?_)
    refine l_step (s_qg rfl (ask_f rfl rfl) (b := (!((decide (0 ≠ 0)) || (decide (0 ≠ 0))))) (fun hb => OpQ.env (.cons rfl (gd_t hb) (.nil _) : EnvLe [(64, .pointer (some ⟨b56, 0, none⟩))] _) (by first | exact q_eqlp rfl rfl Try.underlying97 | exact q_eqlp0 rfl rfl Try.underlying97)) ?_)
    refine l_step (s_q rfl wn (q_pick_or rfl rfl rfl (fun h => by first | (rw [h]; rfl) | exact congrArg not h)) ?_)
    refine l_nil ?_
    refine k_then_n ?_
    refine c_sure false rfl (by rfl) ?_
    simp only [Bool.false_eq_true, if_true, if_false]
    refine c_skip ?_
    refine k_then_n ?_
    refine c_seq ?_
    refine c_region ?_
    refine l_step (s_q rfl wn (q_indexp Try.underlying110 sz_3 rfl rfl (by omega) (by omega)) ?_)
    refine l_step (s_q rfl wn (q_loadp (v := .int .i64 size.e1) sc_3 rfl (by repeat (first | exact Pick.here | apply Pick.there)) rfl) ?_)
    refine l_step (s_q rfl wn (q_move rfl) ?_)
    refine l_step (s_q rfl wn (q_len Try.underlying88 rfl) ?_)
    refine l_step (s_q rfl wn (q_add rfl rfl (by omega) (by omega)) ?_)
    refine l_step (s_q rfl wn (q_rem rfl rfl (by omega)) ?_)
    refine l_step (s_q rfl wn (q_move rfl) ?_)
    refine l_step (s_q rfl wn (q_len Try.underlying88 rfl) ?_)
    have hk1 := tmod_bounds size.e1 ((ps46.length : Int) + 1) (by omega)
    refine l_step (s_q rfl wn (q_add rfl rfl (by omega) (by omega)) ?_)
    refine l_step (s_q rfl wn (q_add rfl rfl (by omega) (by omega)) ?_)
    refine l_step (s_q rfl wn (q_move rfl) ?_)
    refine l_step (s_q rfl wn (q_len Try.underlying88 rfl) ?_)
    refine l_step (s_q rfl wn (q_add rfl rfl (by omega) (by omega)) ?_)
    refine l_step (s_q rfl wn (q_remp rfl rfl (by omega) (by omega)) ?_)
    refine l_step (s_q rfl wn (q_assign rfl) ?_)
    refine l_nil ?_
    refine k_then_n ?_
    refine c_seq ?_
    refine c_seq ?_
    refine c_region ?_
    refine t_rd (Γ := _) (rd_row (a := a46) (by repeat (first | exact Pick.here | apply Pick.there))) fun _ hc46 _ _ => ?_
    obtain ⟨kk, hkk, hkl⟩ : ∃ kk : Nat, (kk : Int) = ((((size.e1.tmod ((ps46.length : Int) + 1)) + (ps46.length : Int)) + 1) % ((ps46.length : Int) + 1)) ∧ kk ≤ ps46.length := by have h1 := Int.emod_nonneg (size.e1.tmod ((ps46.length : Int) + 1) + (ps46.length : Int) + 1) (show ((ps46.length : Int) + 1) ≠ 0 by omega); have h2 := Int.emod_lt_of_pos (size.e1.tmod ((ps46.length : Int) + 1) + (ps46.length : Int) + 1) (show 0 < ((ps46.length : Int) + 1) by omega); exact ⟨(((((size.e1.tmod ((ps46.length : Int) + 1)) + (ps46.length : Int)) + 1) % ((ps46.length : Int) + 1))).toNat, by omega, by omega⟩
    rw [← hkk]
    refine l_step (s_q rfl wn (q_move rfl) ?_)
    refine l_step (s_q rfl wn (q_move rfl) ?_)
    refine l_step (s_q rfl wn (q_move rfl) ?_)
    refine l_step (s_q rfl wn (q_as (v := .slice a46 kk c46) (q_cut_hi Try.underlying88 sz_95 rfl rfl (by omega) (by omega)) (by simp)) ?_)
    refine l_step (s_fnb rfl wn Try.func42 rfl (by kernel_rfl) rfl (by repeat (first | exact Sel.nil | exact Pick.here | apply Sel.cons | apply Pick.there)) (fun ρ' hL => takes_spec b56 (newD 200) noX a46 kk c46 (ps46.take kk) (by rw [List.length_take]; omega) ρ' (hi_new (by decide)) (by omega) (Ro.takee (enc := encPiece) (sz := 6) (xs := ps46) (hL.row (by repeat (first | exact Pick.here | apply Pick.there))) (fun _ => rfl) kk hkl) (fun p hp => hL.bun (L := ps46.map (rowP 5)) (by repeat (first | exact Pick.here | apply Pick.there)) (List.mem_map.2 ⟨p, List.mem_of_mem_take hp, rfl⟩)) (fun p hp => by have := cut_tot hcut46 hn1 p (List.mem_of_mem_take hp); omega)) ?_)
    rintro _ _ ⟨x86, rfl, rfl⟩
    try simp only [List.cons_append, List.nil_append]
    simp only [HeapM, List.cons_append, List.nil_append]
    obtain ⟨hp1, hp2, hp3, hp4⟩ := hg_prefix (d := newD 200) hcut46 hn1 (by decide) (by show _ ≤ (200 : Int); omega) (by omega) ⟨hi_new (by decide), .inl rfl⟩ kk hkl
    have hiD := hi_takes (ps46.take kk) (hi_new (m := 200) (by decide)) (fun p hp => by have := cut_tot hcut46 hn1 p (List.mem_of_mem_take hp); omega)
    have hnw : Newer (takesF (newD 200) (ps46.take kk)).1 ⟨5, 1⟩ := ⟨hiD, hp4.elim (fun h => .inl (by rw [h.2]; rfl)) (fun h => .inr (by rw [h.mkd]; decide))⟩
    have hall : (takesF (newD 200) (ps46.take kk)).2.1 = decide ((kk : Int) = (ps46.length : Int)) := by rw [hp3]; rcases hp4 with ⟨rfl, e⟩ | hg <;> first | (rw [e, decide_eq_false (by omega)]; rfl) | (rw [hg_count (by unfold cutW; omega) hg (by rw [← cutF_len hcut46 hn1]; exact hkl), ← cutF_len hcut46 hn1]; exact decide_eq_decide.2 (by omega))
    refine l_step (s_q rfl wn (q_move rfl) ?_)
    refine l_step (s_q rfl wn (q_extract rfl rfl) ?_)
    refine l_step (s_q rfl wn (q_extract rfl rfl) ?_)
    refine l_step (s_q rfl wn (q_assign rfl) ?_)
    refine l_step (s_q rfl wn (q_assign rfl) ?_)
    refine l_nil ?_
    refine k_then_n ?_
    refine c_seq ?_
    refine c_region ?_
    refine l_step (s_q rfl wn (q_move rfl) ?_)
    refine l_step (s_q rfl wn (q_neq rfl rfl) ?_)
    refine l_step (s_q rfl wn (q_move rfl) ?_)
    refine l_step (s_qg rfl (ask_f rfl rfl) (b := (!(decide ((takesF (newD 200) (ps46.take kk)).2.2 ≠ 0)))) (fun hb => q_move rfl) ?_)
    refine l_step (s_qg rfl (ask_f rfl rfl) (b := (!(decide ((takesF (newD 200) (ps46.take kk)).2.2 ≠ 0)))) (fun hb => q_move rfl) ?_)
    refine l_step (s_qg rfl (ask_f rfl rfl) (b := (!(decide ((takesF (newD 200) (ps46.take kk)).2.2 ≠ 0)))) (fun hb => q_move rfl) ?_)
    refine l_step (s_qg rfl (ask_f rfl rfl) (b := (!(decide ((takesF (newD 200) (ps46.take kk)).2.2 ≠ 0)))) (fun hb => OpQ.env (.cons rfl (gd_t hb) (.nil _) : EnvLe [(94, .slice a46 ps46.length c46)] _) (q_len Try.underlying88 rfl)) ?_)
    refine l_step (s_qg rfl (ask_f rfl rfl) (b := (!(decide ((takesF (newD 200) (ps46.take kk)).2.2 ≠ 0)))) (fun hb => OpQ.env (.cons rfl (gd_t hb) (.cons rfl (gd_t hb) (.nil _)) : EnvLe [(93, .int .i64 (kk : Int)), (95, .int .i64 (ps46.length : Int))] _) (q_eql rfl rfl)) ?_)
    refine l_step (s_qg rfl (ask_f rfl rfl) (b := (!(decide ((takesF (newD 200) (ps46.take kk)).2.2 ≠ 0)))) (fun hb => OpQ.env (.cons rfl (gd_t hb) (.cons rfl (gd_t hb) (.nil _)) : EnvLe [(92, .bool ((takesF (newD 200) (ps46.take kk)).2.1)), (96, .bool (decide ((kk : Int) = (ps46.length : Int))))] _) (q_neqb rfl rfl Try.underlying4)) ?_)
    refine l_step (s_q rfl wn (q_pick_or rfl rfl rfl (fun h => by first | (rw [h]; rfl) | exact congrArg not h)) ?_)
    refine l_nil ?_
    refine k_then_n ?_
    refine c_sure false rfl (by rw [hp1, hall]; simp) ?_
    simp only [Bool.false_eq_true, if_true, if_false]
    refine c_skip ?_
    refine k_then_n ?_
    refine c_seq ?_
    refine c_seq ?_
    refine c_region ?_
    refine l_step (s_q rfl wn (q_assign rfl) ?_)
    refine l_nil ?_
    refine k_then_n ?_
    refine c_block ?_
    refine Tr.env (σ' := [(1, _), (8, _), (10, _), (12, _), (16, _)]) (.cons rfl rfl (.cons rfl rfl (.cons rfl rfl (.cons rfl rfl (.cons rfl rfl (.nil _)))))) ?_
    refine t_loop (ι := Lp (Nat × HD × HX)) (fun x => x.d.1 ≤ ps53.length ∧ x.d.2.1.most = 200 ∧ HI x.d.2.1 ∧ ((x.d.1 = 0 ∧ Newer x.d.2.1 ⟨5, 1⟩) ∨ HG x.d.2.1 ⟨5, 1⟩ s (cutW s (1 + ((size.e0.tmod 30 + 30) % 30))) (fun j => decide (j < x.d.1)))) (fun x => ps53.length - x.d.1) (fun x => [(1, .slice s_a s_n s_c), (8, .slice a46 ps46.length c46), (10, .slice a53 ps53.length c53), (12, .pointer (some ⟨b56, 0, none⟩)), (16, .int .i64 (x.d.1 : Int))]) (fun x => .pts b56 (encHeap (⟨x.d.2.1.most, x.d.2.1.of, x.d.2.1.on, ⟨x.d.2.2.a1, x.d.2.2.n1, x.d.2.2.c1⟩, ⟨x.d.2.2.a2, x.d.2.2.n2, x.d.2.2.c2⟩, x.d.2.1.left⟩ : Heap)) 138 :: .row 4 1 x.d.2.2.a2 x.d.2.2.n2 x.d.2.2.c2 (x.d.2.1.there.flatMap encO) :: .row 5 1 x.d.2.2.a1 x.d.2.2.n1 x.d.2.2.c1 (x.d.2.1.b.flatMap encB) :: .row 95 6 a53 ps53.length c53 (ps53.flatMap encPiece) :: Bun (ps53.map (rowP 5)) :: .row 95 6 a46 ps46.length c46 (ps46.flatMap encPiece) :: Bun (ps46.map (rowP 5)) :: .pts b5 (encTwo size) 110 :: Δ) (⟨(0, (takesF (newD 200) (ps46.take kk)).1, x86), none, 0, none, 0, none, 0⟩ : Lp _) ⟨Nat.zero_le _, hp2, hiD, .inl ⟨rfl, hnw⟩⟩ ?_ ?_ ?_
    · exact .cons rfl (by first | rfl | exact inte (by omega) | (simp; done) | (simp <;> omega) | simp [*]) (.cons rfl (by first | rfl | exact inte (by omega) | (simp; done) | (simp <;> omega) | simp [*]) (.cons rfl (by first | rfl | exact inte (by omega) | (simp; done) | (simp <;> omega) | simp [*]) (.cons rfl (by first | rfl | exact inte (by omega) | (simp; done) | (simp <;> omega) | simp [*]) (.cons rfl (by first | rfl | exact inte (by omega) | (simp; done) | (simp <;> omega) | simp [*]) (.nil _)))))
    · exact (by repeat (first | exact Ent.nil _ | exact Ent.refl _ | (refine Ent.pick (by repeat (first | exact Pick.here | apply Pick.there)) ?_) | refine Ent.skip ?_))
    intro x hx
    obtain ⟨hx1, hx2, hx3, hx4⟩ := hx
    refine c_seq ?_
    refine c_seq ?_
    refine c_region ?_
    refine l_step (s_q rfl wn (q_move rfl) ?_)
    refine l_step (s_q rfl wn (q_move rfl) ?_)
    refine l_step (s_q rfl wn (q_len Try.underlying88 rfl) ?_)
    refine l_step (s_q rfl wn (q_lss rfl rfl) ?_)
    refine l_nil ?_
    refine k_then_n ?_
    refine c_cond rfl (fun h3 => ?_) (fun h3 => ?_)
    · (try dsimp only [heapOf] at h3); try simp only [Bool.and_eq_true, Bool.or_eq_true, Bool.not_eq_true', Bool.and_eq_false_iff, Bool.or_eq_false_iff, Bool.not_eq_false', decide_eq_true_eq, decide_eq_false_iff_not, Bool.not_eq_eq_eq_not, Bool.not_true, Bool.not_false, Bool.not_eq_true, Bool.not_eq_false, beq_iff_eq, bne_iff_ne, ne_eq, Decidable.not_not] at h3
      refine c_skip ?_
      refine k_then_n ?_
      refine c_seq ?_
      refine c_block ?_
      refine c_seq ?_
      refine c_region ?_
      refine l_step (s_q rfl wn (q_move rfl) ?_)
      refine l_step (s_q rfl wn (q_move rfl) ?_)
      refine l_step (s_q rfl wn (q_move rfl) ?_)
      refine l_step (s_q rfl wn (q_indexe x.d.1 Try.underlying88 sz_95 rfl rfl (rd_row (by repeat (first | exact Pick.here | apply Pick.there))) (by decide) rfl (by first | assumption | omega | (simp only [List.length_cons, List.length_nil]; omega))) ?_)
      refine l_step (s_q rfl wn (q_loadea (vs := encPiece (ps53.getD x.d.1 default)) (enc := encPiece) (xs := ps53) (j := x.d.1) (off := 0) ag_95 rfl (rd_row (by repeat (first | exact Pick.here | apply Pick.there))) (fun _ => rfl) (by first | assumption | omega | (simp only [List.length_cons, List.length_nil]; omega)) (by simp [encPiece]) (by simp [encPiece]) rfl) ?_)
      refine l_step (s_s rfl wn (s_buildSlice (cs := ([(ps53.getD x.d.1 default)] : List Piece).flatMap encPiece) Try.underlying88 eo_95 rfl rfl rfl rfl (by decide) (by decide)) ?_)
      rintro _ _ ⟨b111, rfl, rfl⟩
      refine l_step (s_fnb rfl wn Try.func42 rfl (by kernel_rfl) rfl (by repeat (first | exact Sel.nil | exact Pick.here | apply Sel.cons | apply Pick.there)) (fun ρ' hL => takeone_spec b56 x.d.2.1 x.d.2.2 (some ⟨b111, 0, none⟩) 1 (ps53.getD x.d.1 default) ρ' hx3 (hL.row (by repeat (first | exact Pick.here | apply Pick.there))) (hL.bun (L := ps53.map (rowP 5)) (by repeat (first | exact Pick.here | apply Pick.there)) (in_map _ (by first | assumption | omega | exact Nat.mod_lt _ (by omega)) rfl)) (by have := cut_tot hcut53 hn1 _ (getD_mem ps53 x.d.1 (by omega)); omega)) ?_)
      rintro _ _ ⟨x112, rfl, rfl⟩
      try simp only [List.cons_append, List.nil_append]
      simp only [HeapM, List.cons_append, List.nil_append]
      have ht := hg_take (S := fun j => decide (j < x.d.1)) (by unfold cutW; omega) (by rw [← cutF_len hcut53 hn1]; omega) (cutF_pk hcut53 hn1 (show x.d.1 < ps53.length by omega)) (show rightB ⟨5, 1⟩ = true by decide) (by rw [hx2]; omega) (by omega) (hx4.elim (fun h => .inr ⟨h.2, by funext j; rw [h.1]; simp⟩) (fun h => .inl h.toHG0))
      obtain ⟨ht1, ht2, ht3⟩ := ht
      have hS : (fun j => decide (j < x.d.1) || decide (j = x.d.1)) = fun j => decide (j < x.d.1 + 1) := by funext j; rw [Bool.eq_iff_iff]; simp only [Bool.or_eq_true, decide_eq_true_eq]; omega
      rw [hS] at ht2
      have hdn := hg_count (by unfold cutW; omega) ht2 (by rw [← cutF_len hcut53 hn1]; omega)
      have hfi : fitsB (takeF x.d.2.1 (ps53.getD x.d.1 default)).1.most (ps46.getD (x.d.1 % ps46.length) default) = true := (cutF_pk hcut46 hn1 (Nat.mod_lt _ (by omega))).fits (by unfold cutW; omega) (by rw [← cutF_len hcut46 hn1]; exact Nat.mod_lt _ (by omega)) (by decide) (by rw [ht3, hx2]; omega)
      have hst := hg_stale ht2.toHG0 hfi (by rw [(cutF_pk hcut46 hn1 (Nat.mod_lt _ (by omega))).mkd]; decide)
      refine l_step (s_q rfl wn (q_move rfl) ?_)
      refine l_step (s_q rfl wn (q_extract rfl rfl) ?_)
      refine l_step (s_q rfl wn (q_extract rfl rfl) ?_)
      refine l_step (s_q rfl wn (q_assign rfl) ?_)
      refine l_step (s_q rfl wn (q_assign rfl) ?_)
      refine l_nil ?_
      refine k_then_n ?_
      refine c_seq ?_
      refine c_seq ?_
      refine c_region ?_
      refine l_step (s_q rfl wn (q_move rfl) ?_)
      refine l_step (s_q rfl wn (q_neq rfl rfl) ?_)
      refine l_step (s_q rfl wn (q_move rfl) ?_)
      refine l_step (s_qg rfl (ask_f rfl rfl) (b := (!(decide ((takeF x.d.2.1 (ps53.getD x.d.1 default)).2 ≠ 0)))) (fun hb => q_move rfl) ?_)
      refine l_step (s_qg rfl (ask_f rfl rfl) (b := (!(decide ((takeF x.d.2.1 (ps53.getD x.d.1 default)).2 ≠ 0)))) (fun hb => q_move rfl) ?_)
      refine l_step (s_qg rfl (ask_f rfl rfl) (b := (!(decide ((takeF x.d.2.1 (ps53.getD x.d.1 default)).2 ≠ 0)))) (fun hb => q_move rfl) ?_)
      refine l_step (s_qg rfl (ask_f rfl rfl) (b := (!(decide ((takeF x.d.2.1 (ps53.getD x.d.1 default)).2 ≠ 0)))) (fun hb => OpQ.env (.cons rfl (gd_t hb) (.nil _) : EnvLe [(120, .slice a53 ps53.length c53)] _) (q_len Try.underlying88 rfl)) ?_)
      refine l_step (s_qg rfl (ask_f rfl rfl) (b := (!(decide ((takeF x.d.2.1 (ps53.getD x.d.1 default)).2 ≠ 0)))) (fun hb => OpQ.env (.cons rfl (gd_t hb) (.nil _) : EnvLe [(121, .int .i64 (ps53.length : Int))] _) (q_sub rfl rfl (by first | omega | (have hb2 := hb; (try simp only [Bool.and_eq_true, Bool.or_eq_true, Bool.not_eq_true', Bool.and_eq_false_iff, Bool.or_eq_false_iff, Bool.not_eq_false', decide_eq_true_eq, decide_eq_false_iff_not, Bool.not_eq_eq_eq_not, Bool.not_true, Bool.not_false, Bool.not_eq_true, Bool.not_eq_false, beq_iff_eq, bne_iff_ne, ne_eq, Decidable.not_not] at hb2); omega)) (by first | omega | (have hb2 := hb; (try simp only [Bool.and_eq_true, Bool.or_eq_true, Bool.not_eq_true', Bool.and_eq_false_iff, Bool.or_eq_false_iff, Bool.not_eq_false', decide_eq_true_eq, decide_eq_false_iff_not, Bool.not_eq_eq_eq_not, Bool.not_true, Bool.not_false, Bool.not_eq_true, Bool.not_eq_false, beq_iff_eq, bne_iff_ne, ne_eq, Decidable.not_not] at hb2); omega)))) ?_)
      refine l_step (s_qg rfl (ask_f rfl rfl) (b := (!(decide ((takeF x.d.2.1 (ps53.getD x.d.1 default)).2 ≠ 0)))) (fun hb => OpQ.env (.cons rfl (gd_t hb) (.cons rfl (gd_t hb) (.nil _)) : EnvLe [(119, .int .i64 (x.d.1 : Int)), (122, .int .i64 ((ps53.length : Int) - 1))] _) (q_eql rfl rfl)) ?_)
      refine l_step (s_qg rfl (ask_f rfl rfl) (b := (!(decide ((takeF x.d.2.1 (ps53.getD x.d.1 default)).2 ≠ 0)))) (fun hb => OpQ.env (.cons rfl (gd_t hb) (.cons rfl (gd_t hb) (.nil _)) : EnvLe [(118, .bool (doneB (takeF x.d.2.1 (ps53.getD x.d.1 default)).1)), (123, .bool (decide ((x.d.1 : Int) = ((ps53.length : Int) - 1))))] _) (q_neqb rfl rfl Try.underlying4)) ?_)
      refine l_step (s_q rfl wn (q_pick_or rfl rfl rfl (fun h => by first | (rw [h]; rfl) | exact congrArg not h)) ?_)
      refine l_step (s_q rfl wn (q_move rfl) ?_)
      refine l_step (s_qg rfl (ask_f rfl rfl) (b := (!((decide ((takeF x.d.2.1 (ps53.getD x.d.1 default)).2 ≠ 0)) || ((doneB (takeF x.d.2.1 (ps53.getD x.d.1 default)).1) != (decide ((x.d.1 : Int) = ((ps53.length : Int) - 1))))))) (fun hb => q_move rfl) ?_)
      refine l_step (s_fnrg (b := (!((decide ((takeF x.d.2.1 (ps53.getD x.d.1 default)).2 ≠ 0)) || ((doneB (takeF x.d.2.1 (ps53.getD x.d.1 default)).1) != (decide ((x.d.1 : Int) = ((ps53.length : Int) - 1))))))) rfl (ask_f rfl rfl) Try.func46 rfl (by kernel_rfl) (fun hb => (.cons rfl (gd_t hb) (.nil _) : EnvLe [(127, .pointer (some ⟨b56, 0, none⟩))] _)) rfl (by repeat (first | exact Sel.nil | exact Pick.here | apply Sel.cons | apply Pick.there)) (fun hb ρ' hL => mark_spec b56 ((takeF x.d.2.1 (ps53.getD x.d.1 default)).1) x112 ρ') ?_)
      refine l_step (s_qg rfl (ask_f rfl rfl) (b := (!((decide ((takeF x.d.2.1 (ps53.getD x.d.1 default)).2 ≠ 0)) || ((doneB (takeF x.d.2.1 (ps53.getD x.d.1 default)).1) != (decide ((x.d.1 : Int) = ((ps53.length : Int) - 1))))))) (fun hb => OpQ.env (.cons rfl (gd_t hb) (.nil _) : EnvLe [(128, .agg (encMark (markOf ((takeF x.d.2.1 (ps53.getD x.d.1 default)).1))).toArray)] _) (q_field rfl fo_87_0 sc_3 rfl)) ?_)
      refine l_step (s_qg rfl (ask_f rfl rfl) (b := (!((decide ((takeF x.d.2.1 (ps53.getD x.d.1 default)).2 ≠ 0)) || ((doneB (takeF x.d.2.1 (ps53.getD x.d.1 default)).1) != (decide ((x.d.1 : Int) = ((ps53.length : Int) - 1))))))) (fun hb => OpQ.env (.cons rfl (gd_t hb) (.nil _) : EnvLe [(129, .int .i64 ((markOf ((takeF x.d.2.1 (ps53.getD x.d.1 default)).1)).Index))] _) (q_neq rfl rfl)) ?_)
      refine l_step (s_q rfl wn (q_pick_or rfl rfl rfl (fun h => by first | (rw [h]; rfl) | exact congrArg not h)) ?_)
      refine l_nil ?_
      refine k_then_n ?_
      refine c_sure false rfl (by rw [ht1, hdn, show markOf (takeF x.d.2.1 (ps53.getD x.d.1 default)).1 = ⟨5, 1⟩ from by unfold markOf; rw [ht2.on]; exact ht2.mkd, ← cutF_len hcut53 hn1, show decide ((x.d.1 : Int) = (ps53.length : Int) - 1) = decide (x.d.1 + 1 = ps53.length) from decide_eq_decide.2 (by omega)]; simp) ?_
      simp only [Bool.false_eq_true, if_true, if_false]
      refine c_skip ?_
      refine k_then_n ?_
      refine c_seq ?_
      refine c_region ?_
      refine l_step (s_q rfl wn (q_move rfl) ?_)
      refine l_step (s_q rfl wn (q_move rfl) ?_)
      refine l_step (s_q rfl wn (q_move rfl) ?_)
      refine l_step (s_q rfl wn (q_move rfl) ?_)
      refine l_step (s_q rfl wn (q_len Try.underlying88 rfl) ?_)
      refine l_step (s_q rfl wn (q_remn rfl rfl rfl rfl (by omega)) ?_)
      refine l_step (s_q rfl wn (q_indexe (x.d.1 % ps46.length) Try.underlying88 sz_95 rfl rfl (rd_row (by repeat (first | exact Pick.here | apply Pick.there))) (by decide) rfl (Nat.mod_lt _ (by omega))) ?_)
      refine l_step (s_q rfl wn (q_loadea (vs := encPiece (ps46.getD (x.d.1 % ps46.length) default)) (enc := encPiece) (xs := ps46) (j := (x.d.1 % ps46.length)) (off := 0) ag_95 rfl (rd_row (by repeat (first | exact Pick.here | apply Pick.there))) (fun _ => rfl) (Nat.mod_lt _ (by omega)) (by simp [encPiece]) (by simp [encPiece]) rfl) ?_)
      refine l_step (s_s rfl wn (s_buildSlice (cs := ([(ps46.getD (x.d.1 % ps46.length) default)] : List Piece).flatMap encPiece) Try.underlying88 eo_95 rfl rfl rfl rfl (by decide) (by decide)) ?_)
      rintro _ _ ⟨b141, rfl, rfl⟩
      refine l_step (s_fnb rfl wn Try.func42 rfl (by kernel_rfl) rfl (by repeat (first | exact Sel.nil | exact Pick.here | apply Sel.cons | apply Pick.there)) (fun ρ' hL => takeone_spec b56 (takeF x.d.2.1 (ps53.getD x.d.1 default)).1 x112 (some ⟨b141, 0, none⟩) 1 (ps46.getD (x.d.1 % ps46.length) default) ρ' ht2.hi (hL.row (by repeat (first | exact Pick.here | apply Pick.there))) (hL.bun (L := ps46.map (rowP 5)) (by repeat (first | exact Pick.here | apply Pick.there)) (in_map _ (by first | assumption | omega | exact Nat.mod_lt _ (by omega)) rfl)) (by have := cut_tot hcut46 hn1 _ (getD_mem ps46 (x.d.1 % ps46.length) (Nat.mod_lt _ (by omega))); omega)) ?_)
      rintro _ _ ⟨x142, rfl, rfl⟩
      try simp only [List.cons_append, List.nil_append]
      simp only [HeapM, List.cons_append, List.nil_append]
      simp only [hst]
      refine l_step (s_q rfl wn (q_move rfl) ?_)
      refine l_step (s_q rfl wn (q_extract rfl rfl) ?_)
      refine l_step (s_q rfl wn (q_extract rfl rfl) ?_)
      refine l_step (s_q rfl wn (q_assign rfl) ?_)
      refine l_step (s_q rfl wn (q_assign rfl) ?_)
      refine l_nil ?_
      refine k_then_n ?_
      refine c_seq ?_
      refine c_region ?_
      refine l_step (s_q rfl wn (q_move rfl) ?_)
      refine l_step (s_q rfl wn (q_neq rfl rfl) ?_)
      refine l_nil ?_
      refine k_then_n ?_
      refine c_sure false rfl (by rfl) ?_
      simp only [Bool.false_eq_true, if_true, if_false]
      refine c_skip ?_
      refine k_blk_n ?_
      refine k_then_n ?_
      refine c_region ?_
      refine l_step (s_q rfl wn (q_move rfl) ?_)
      refine l_step (s_q rfl wn (q_add rfl rfl (by omega) (by omega)) ?_)
      refine l_step (s_q rfl wn (q_assign rfl) ?_)
      refine l_nil ?_
      refine k_then_n ?_
      exact t_next (⟨(x.d.1 + 1, (takeF x.d.2.1 (ps53.getD x.d.1 default)).1, x142), none, 0, none, 0, none, 0⟩ : Lp _) ⟨⟨by simp only []; omega, ht3.trans hx2, ht2.hi, .inr ht2⟩, by simp only []; omega⟩ (.cons rfl (by first | rfl | exact inte (by omega) | (simp; done) | (simp <;> omega) | simp [*]) (.cons rfl (by first | rfl | exact inte (by omega) | (simp; done) | (simp <;> omega) | simp [*]) (.cons rfl (by first | rfl | exact inte (by omega) | (simp; done) | (simp <;> omega) | simp [*]) (.cons rfl (by first | rfl | exact inte (by omega) | (simp; done) | (simp <;> omega) | simp [*]) (.cons rfl (by first | rfl | exact inte (by omega) | (simp; done) | (simp <;> omega) | simp [*]) (.nil _)))))) (by repeat (first | exact Ent.nil _ | exact Ent.refl _ | (refine Ent.pick (by repeat (first | exact Pick.here | apply Pick.there)) ?_) | refine Ent.skip ?_))
    · (try dsimp only [heapOf] at h3); try simp only [Bool.and_eq_true, Bool.or_eq_true, Bool.not_eq_true', Bool.and_eq_false_iff, Bool.or_eq_false_iff, Bool.not_eq_false', decide_eq_true_eq, decide_eq_false_iff_not, Bool.not_eq_eq_eq_not, Bool.not_true, Bool.not_false, Bool.not_eq_true, Bool.not_eq_false, beq_iff_eq, bne_iff_ne, ne_eq, Decidable.not_not] at h3
      refine c_exit ?_
      refine k_then_x ?_
      refine k_then_x ?_
      refine k_blk_x ?_
      refine k_then_n ?_
      refine c_seq ?_
      refine c_region ?_
      have hk : x.d.1 = ps53.length := by omega
      have hg := hx4.resolve_left (by omega)
      have hdb : doneB x.d.2.1 = true := by rw [hg_count (by unfold cutW; omega) hg (by rw [← cutF_len hcut53 hn1]; omega), hk, cutF_len hcut53 hn1]; simp
      have hby : x.d.2.1.b = s := all_bytes hg.toHG0 (by unfold doneB at hdb; simp only [Bool.and_eq_true, decide_eq_true_eq] at hdb; exact hdb.2)
      refine t_hb (D := x.d.2.1) (X := x.d.2.2) hx3 (by repeat (first | exact Pick.here | apply Pick.there)) (by repeat (first | exact Pick.here | apply Pick.there)) fun hh1 hh2 hh3 => ?_
      refine l_step (s_q rfl wn (q_move rfl) ?_)
      refine l_step (s_fnb rfl wn Try.func45 rfl (by kernel_rfl) rfl (by repeat (first | exact Sel.nil | exact Pick.here | apply Sel.cons | apply Pick.there)) (fun ρ' hL => whole_spec b56 x.d.2.1 x.d.2.2 ρ' hh1) ?_)
      rintro _ _ (⟨hw, rfl, rfl⟩ | ⟨hw, a149, c149, rfl, rfl⟩)
      · exact absurd (hw.symm.trans ((wholeOk_eq hx3).trans hdb)) (by decide)
      try simp only [List.cons_append, List.nil_append]
      refine l_step (s_q rfl wn (q_move rfl) ?_)
      refine l_step (s_q rfl wn (q_extract rfl rfl) ?_)
      refine l_step (s_q rfl wn (q_extract rfl rfl) ?_)
      refine l_step (s_q rfl wn (q_assign rfl) ?_)
      refine l_step (s_q rfl wn (q_assign rfl) ?_)
      refine l_nil ?_
      refine k_then_n ?_
      refine c_seq ?_
      refine c_region ?_
      refine l_step (s_q rfl wn (q_move rfl) ?_)
      refine l_step (s_q rfl wn (q_move rfl) ?_)
      refine l_step (s_q rfl (wy rfl rfl rfl) (q_move rfl) ?_)
      refine l_step (s_q rfl (wy rfl rfl rfl) (q_tostr (bs := x.d.2.1.b) Try.underlying22 Try.underlying5 Try.underlying9 rfl (rd_row (by repeat (first | exact Pick.here | apply Pick.there)))) ?_)
      refine l_step (s_q rfl (wy rfl rfl rfl) (q_move rfl) ?_)
      refine l_step (s_q rfl (wy rfl rfl rfl) (q_tostr (bs := s) Try.underlying22 Try.underlying5 Try.underlying9 rfl (by first | assumption | exact rd_ro (by assumption) | exact rd_bun (L := ps53.map (rowP 5)) (by repeat (first | exact Pick.here | apply Pick.there)) (in_map _ (by first | assumption | omega | (simp only [List.length_cons, List.length_nil]; omega) | decide) rfl) | exact rd_bun (L := ps46.map (rowP 5)) (by repeat (first | exact Pick.here | apply Pick.there)) (in_map _ (by first | assumption | omega | (simp only [List.length_cons, List.length_nil]; omega) | decide) rfl) | exact rd_row (by repeat (first | exact Pick.here | apply Pick.there)))) ?_)
      refine l_step (s_q rfl (wy rfl rfl rfl) (q_eqlsB (p := x.d.2.1.b) (q := s) rfl rfl) ?_)
      refine l_step (s_q rfl wn (q_pick rfl rfl rfl) ?_)
      refine l_step (s_q rfl wn (q_assign rfl) ?_)
      refine l_nil ?_
      refine k_then_n ?_
      refine c_ret ?_
      exact t_ret [] rfl (.tmp rfl .nil) rfl (Hp.le_refl _) ⟨rfl, boole (by rw [hby]; simp), rfl⟩ (by (repeat refine Ent.skip ?_); exact Ent.refl _)
end Go.Chk.I

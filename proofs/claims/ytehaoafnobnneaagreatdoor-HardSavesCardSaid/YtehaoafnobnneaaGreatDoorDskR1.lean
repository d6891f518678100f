/-
  Several texts, put together.
-/
import Derived.Test.YtehaoafnobnneaaGreatDoorDskHH
import Derived.Test.YtehaoafnobnneaaGreatDoorDskL
import Derived.Test.YtehaoafnobnneaaGreatDoorProg
import Derived.Test.YtehaoafnobnneaaGreatDoorSlEc
/-
  Package disk, walked.
-/
set_option maxRecDepth 100000
set_option maxHeartbeats 4000000
set_option linter.unusedSimpArgs false
set_option linter.unusedVariables false
namespace Go.Dsk.RA
open Go Go.SL Go.Proofs Go.Dsk Go.Dsk.L
attribute [local irreducible] Go.SL.Ent
theorem fo_87_0 : fieldOff Tryz.prog 87 0 = some (0, 3) := by kernel_rfl
theorem fo_87_1 : fieldOff Tryz.prog 87 1 = some (1, 85) := by kernel_rfl
theorem fo_87_2 : fieldOff Tryz.prog 87 2 = some (2, 4) := by kernel_rfl
theorem fo_87_3 : fieldOff Tryz.prog 87 3 = some (3, 3) := by kernel_rfl
theorem fo_89_0 : fieldOff Tryz.prog 89 0 = some (0, 9) := by kernel_rfl
theorem fo_89_1 : fieldOff Tryz.prog 89 1 = some (1, 38) := by kernel_rfl
theorem sc_3 : isScalar Tryz.prog 3 = true := by kernel_rfl
theorem sc_38 : isScalar Tryz.prog 38 = true := by kernel_rfl
theorem sc_4 : isScalar Tryz.prog 4 = true := by kernel_rfl
theorem sc_85 : isScalar Tryz.prog 85 = true := by kernel_rfl
theorem sc_9 : isScalar Tryz.prog 9 = true := by kernel_rfl
theorem sz_3 : sizeIs Tryz.prog 3 = some 1 := by kernel_rfl
theorem sz_4 : sizeIs Tryz.prog 4 = some 1 := by kernel_rfl
theorem sz_89 : sizeIs Tryz.prog 89 = some 3 := by kernel_rfl

theorem rstop_spec (r : Nat) (room : Int) (la : Option Addr) (lc : Nat) (e : Bool) (c : Int) (T : RT) (n : Int) (ρ : Hp) : Spec0 Tryz.prog 17 #[.pointer (some ⟨r, 0, none⟩), .int .i64 n] ρ [.pts r (encRDisk (⟨room, ⟨la, T.length, lc⟩, e, c⟩ : RDisk)) 87] (fun v Γ' => v = .tuple #[] ∧ Γ' = [.pts r (encRDisk (⟨room, ⟨la, T.length, lc⟩, (decide (0 ≤ n)), n⟩ : RDisk)) 87]) := by
  refine spec_of (n := 13) (vs := [_, _]) (σ := [(0, _), (1, _)]) Tryz.func17 rfl rfl rfl rfl fun E Δ => ?_
  simp only [List.cons_append, List.nil_append]
  refine sr ?_
  refine e_mv rfl ?_
  refine e_mv rfl ?_
  refine e_q (q_geq rfl rfl) ?_
  refine e_q (q_nilCheck rfl) ?_
  refine e_q (q_fieldp rfl fo_87_2) ?_
  refine l_step (s_s0 wn (s_storep (ws := [.bool (decide (0 ≤ n))]) (cs := encRDisk (⟨room, ⟨la, T.length, lc⟩, e, c⟩ : RDisk)) (cs' := encRDisk (⟨room, ⟨la, T.length, lc⟩, (decide (0 ≤ n)), c⟩ : RDisk)) rfl rfl rfl sz_4 (by simp [Value.oneCell', strB, ptV, SL.v, SH.v]) (by simp [encRDisk]) rfl pk_) ?_)
  rintro _ _ ⟨rfl, rfl⟩
  refine l_n ?_
  refine c_region ?_
  refine e_mv rfl ?_
  refine e_mv rfl ?_
  refine e_q (q_nilCheck rfl) ?_
  refine e_q (q_fieldp rfl fo_87_3) ?_
  refine l_step (s_s0 wn (s_storep (ws := [.int .i64 n]) (cs := encRDisk (⟨room, ⟨la, T.length, lc⟩, (decide (0 ≤ n)), c⟩ : RDisk)) (cs' := encRDisk (⟨room, ⟨la, T.length, lc⟩, (decide (0 ≤ n)), n⟩ : RDisk)) rfl rfl rfl sz_3 (by simp [Value.oneCell', strB, ptV, SL.v, SH.v]) (by simp [encRDisk]) rfl pk_) ?_)
  rintro _ _ ⟨rfl, rfl⟩
  refine l_nil ?_
  refine k_body_n ?_
  exact t_rt [.pts r (encRDisk (⟨room, ⟨la, T.length, lc⟩, (decide (0 ≤ n)), n⟩ : RDisk)) 87] rfl .nil rfl ⟨rfl, rfl, rfl⟩

theorem rstopped_spec (r : Nat) (room : Int) (la : Option Addr) (lc : Nat) (e : Bool) (c : Int) (T : RT) (ρ : Hp) (hc : e = true → 0 ≤ c) (hc2 : c ≤ 9223372036854775807) : Spec0 Tryz.prog 53 #[.pointer (some ⟨r, 0, none⟩)] ρ [.pts r (encRDisk (⟨room, ⟨la, T.length, lc⟩, e, c⟩ : RDisk)) 87] (fun v Γ' => v = .bool (decide (cI e c = 0)) ∧ Γ' = [.pts r (encRDisk (⟨room, ⟨la, T.length, lc⟩, e, (decR e c)⟩ : RDisk)) 87]) := by
  refine spec_of (n := 21) (vs := [_]) (σ := [(0, _)]) Tryz.func53 rfl rfl rfl rfl fun E Δ => ?_
  simp only [List.cons_append, List.nil_append]
  refine sr ?_
  refine e_as rfl ?_
  refine l_n ?_
  refine c_seq ?_
  refine sr ?_
  refine e_mv rfl ?_
  refine e_q (q_nilCheck rfl) ?_
  refine e_q (q_fieldp rfl fo_87_2) ?_
  refine e_q (q_loadp (v := .bool e) sc_4 rfl pk_ rfl) ?_
  refine e_q (q_not rfl) ?_
  refine l_n ?_
  refine c_cond rfl (fun h0 => ?_) (fun h0 => ?_)
  · try simp only [Bool.not_eq_true', Bool.not_eq_false', Bool.not_eq_true, Bool.not_eq_false, ne_eq, Decidable.not_not] at h0
    refine sr ?_
    refine e_as rfl ?_
    refine l_n ?_
    refine c_ret ?_
    refine k_then_r ?_
    have he : e = false := by simpa using h0
    have hd : decR e c = c := if_neg (by rw [he]; simp)
    exact t_rt [.pts r (encRDisk (⟨room, ⟨la, T.length, lc⟩, e, c⟩ : RDisk)) 87] rfl (.tmp rfl .nil) rfl ⟨rfl, boole (by unfold cI; rw [he]; rfl), by rw [hd]⟩
  · try simp only [Bool.not_eq_true', Bool.not_eq_false', Bool.not_eq_true, Bool.not_eq_false, ne_eq, Decidable.not_not] at h0
    refine c_skip ?_
    refine k_then_n ?_
    refine c_seq ?_
    refine sr ?_
    refine e_mv rfl ?_
    refine e_q (q_nilCheck rfl) ?_
    refine e_q (q_fieldp rfl fo_87_3) ?_
    refine e_q (q_loadp (v := .int .i64 c) sc_3 rfl pk_ rfl) ?_
    refine e_q (q_eql rfl rfl) ?_
    refine l_n ?_
    refine c_cond rfl (fun h1 => ?_) (fun h1 => ?_)
    · try simp only [decide_eq_true_eq, decide_eq_false_iff_not] at h1
      refine sr ?_
      refine e_as rfl ?_
      refine l_n ?_
      refine c_ret ?_
      refine k_then_r ?_
      have he : e = true := by simpa using h0
      have hd : decR e c = c := if_neg (by rintro ⟨_, h⟩; exact h h1)
      exact t_rt [.pts r (encRDisk (⟨room, ⟨la, T.length, lc⟩, e, c⟩ : RDisk)) 87] rfl (.tmp rfl .nil) rfl ⟨rfl, boole (by unfold cI; rw [he, if_pos rfl, decide_eq_true h1]), by rw [hd]⟩
    · try simp only [decide_eq_true_eq, decide_eq_false_iff_not] at h1
      have hc9 := hc (by simpa using h0)
      refine c_skip ?_
      refine k_then_n ?_
      refine sr ?_
      refine e_mv rfl ?_
      refine e_mv rfl ?_
      refine e_q (q_nilCheck rfl) ?_
      refine e_q (q_fieldp rfl fo_87_3) ?_
      refine e_q (q_loadp (v := .int .i64 c) sc_3 rfl pk_ rfl) ?_
      refine e_q (q_sub rfl rfl (by omega) (by omega)) ?_
      refine e_q (q_nilCheck rfl) ?_
      refine e_q (q_fieldp rfl fo_87_3) ?_
      refine l_step (s_s0 wn (s_storep (ws := [.int .i64 (c - 1)]) (cs := encRDisk (⟨room, ⟨la, T.length, lc⟩, e, c⟩ : RDisk)) (cs' := encRDisk (⟨room, ⟨la, T.length, lc⟩, e, (c - 1)⟩ : RDisk)) rfl rfl rfl sz_3 (by simp [Value.oneCell', strB, ptV, SL.v, SH.v]) (by simp [encRDisk]) rfl pk_) ?_)
      rintro _ _ ⟨rfl, rfl⟩
      refine l_n ?_
      refine sr ?_
      refine e_as rfl ?_
      refine l_n ?_
      refine c_ret ?_
      have he : e = true := by simpa using h0
      have hd : decR e c = c - 1 := if_pos ⟨he, h1⟩
      exact t_rt [.pts r (encRDisk (⟨room, ⟨la, T.length, lc⟩, e, (c - 1)⟩ : RDisk)) 87] rfl (.tmp rfl .nil) rfl ⟨rfl, boole (by unfold cI; rw [he, if_pos rfl, decide_eq_false h1]), by rw [hd]⟩

theorem rfind_spec (r : Nat) (room : Int) (la : Option Addr) (lc : Nat) (e : Bool) (c : Int) (T : RT) (s : (List UInt8)) (ρ : Hp) : Spec0 Tryz.prog 54 #[.pointer (some ⟨r, 0, none⟩), (strB s)] ρ [.pts r (encRDisk (⟨room, ⟨la, T.length, lc⟩, e, c⟩ : RDisk)) 87, .row 89 3 la T.length lc (T.flatMap encRFile)] (fun v Γ' => v = .int .i64 ((rfi T s)) ∧ Γ' = [.pts r (encRDisk (⟨room, ⟨la, T.length, lc⟩, e, c⟩ : RDisk)) 87, .row 89 3 la T.length lc (T.flatMap encRFile)]) := by
  refine spec_of (n := 26) (vs := [_, _]) (σ := [(0, _), (1, _)]) Tryz.func54 rfl rfl rfl rfl fun E Δ => ?_
  simp only [List.cons_append, List.nil_append]
  refine t_rd (Γ := _) (rd_row (Pick.there Pick.here)) fun hlb hlb2 hlb3 _ => ?_
  have hlb4 : T.length ≤ 9223372036854775807 := Nat.le_trans hlb2 hlb3
  refine sr ?_
  refine e_as rfl ?_
  refine l_n ?_
  refine c_seq ?_
  refine sr ?_
  refine e_as rfl ?_
  refine l_n ?_
  refine c_block ?_
  refine Tr.env (σ' := [(0, _), (1, _), (5, _)]) ev_ ?_
  refine t_loop (ι := Lp (Nat)) (fun x => x.d ≤ T.length ∧ ((T.map (·.Name)).take x.d).any (fun n => decide (n = s)) = false) (fun x => T.length - x.d) (fun x => [(0, .pointer (some ⟨r, 0, none⟩)), (1, (strB s)), (5, .int .i64 (x.d : Int))]) (fun x => .pts r (encRDisk (⟨room, ⟨la, T.length, lc⟩, e, c⟩ : RDisk)) 87 :: .row 89 3 la T.length lc (T.flatMap encRFile) :: Δ) (⟨0, none, 0, none, 0, none, 0⟩ : Lp _) ⟨Nat.zero_le _, by simp⟩ ?_ ?_ ?_
  · exact .c (.c (.c (.nil _)))
  · exact en_
  intro x hx
  obtain ⟨hx1, hx2⟩ := hx
  refine c_seq ?_
  refine sr ?_
  refine e_mv rfl ?_
  refine e_mv rfl ?_
  refine e_q (q_nilCheck rfl) ?_
  refine e_q (q_fieldp rfl fo_87_1) ?_
  refine e_q (q_loadp (v := .slice la T.length lc) sc_85 rfl pk_ rfl) ?_
  refine e_q (q_len Tryz.underlying85 rfl) ?_
  refine e_q (q_lss rfl rfl) ?_
  refine l_n ?_
  refine c_cond rfl (fun h0 => ?_) (fun h0 => ?_)
  · try simp only [decide_eq_true_eq, decide_eq_false_iff_not] at h0
    refine c_skip ?_
    refine k_then_n ?_
    refine c_seq ?_
    refine c_block ?_
    refine sr ?_
    refine e_mv rfl ?_
    refine e_q (q_nilCheck rfl) ?_
    refine e_q (q_fieldp rfl fo_87_1) ?_
    refine e_q (q_loadp (v := .slice la T.length lc) sc_85 rfl pk_ rfl) ?_
    refine e_mv rfl ?_
    refine e_q (q_indexe x.d Tryz.underlying85 sz_89 rfl rfl (rd_row pk_) (by decide) rfl (by first | assumption | omega | (simp only [List.length_cons, List.length_nil]; omega))) ?_
    refine e_q (q_fielde rfl fo_89_0) ?_
    refine e_q (q_loade (enc := encRFile) (xs := T) (j := x.d) (off := 0) sc_9 rfl (rd_row pk_) (fun _ => rfl) (by first | assumption | omega | (simp only [List.length_cons, List.length_nil]; omega)) (by decide) rfl) ?_
    refine e_mv rfl ?_
    refine e_q (q_eqlsB (p := (T.getD x.d default).Name) (q := s) rfl rfl) ?_
    refine l_n ?_
    refine c_cond rfl (fun h1 => ?_) (fun h1 => ?_)
    · try simp only [decide_eq_true_eq, decide_eq_false_iff_not] at h1
      refine sr ?_
      refine e_mv rfl ?_
      refine e_as rfl ?_
      refine l_n ?_
      refine c_ret ?_
      refine k_blk_r ?_
      refine k_then_r ?_
      refine k_then_r ?_
      refine k_blk_r ?_
      refine k_then_r ?_
      exact t_rt [.pts r (encRDisk (⟨room, ⟨la, T.length, lc⟩, e, c⟩ : RDisk)) 87, .row 89 3 la T.length lc (T.flatMap encRFile)] rfl (.tmp rfl .nil) rfl ⟨rfl, inte (rfi_hit (by omega) hx2 h1).symm, rfl⟩
    · try simp only [decide_eq_true_eq, decide_eq_false_iff_not] at h1
      refine c_skip ?_
      refine k_blk_n ?_
      refine k_then_n ?_
      refine c_region ?_
      refine e_mv rfl ?_
      refine e_q (q_add rfl rfl (by omega) (by omega)) ?_
      refine e_as rfl ?_
      refine l_n ?_
      exact t_nx (⟨x.d + 1, none, 0, none, 0, none, 0⟩ : Lp _) ⟨⟨by (try simp only []); omega, rfi_next (by omega) hx2 h1⟩, by (try simp only []); omega⟩ (.c (.c (.c (.nil _))))
  · try simp only [decide_eq_true_eq, decide_eq_false_iff_not] at h0
    have hk : x.d = T.length := by omega
    rw [hk] at hx2
    refine c_exit ?_
    refine k_then_x ?_
    refine k_then_x ?_
    refine k_blk_x ?_
    refine k_then_n ?_
    refine sr ?_
    refine e_as rfl ?_
    refine l_n ?_
    refine c_ret ?_
    exact t_rt [.pts r (encRDisk (⟨room, ⟨la, T.length, lc⟩, e, c⟩ : RDisk)) 87, .row 89 3 la T.length lc (T.flatMap encRFile)] rfl (.tmp rfl .nil) rfl ⟨rfl, inte (rfi_miss hx2).symm, rfl⟩

theorem rfree_spec (r : Nat) (room : Int) (la : Option Addr) (lc : Nat) (e : Bool) (c : Int) (T : RT) (ρ : Hp) (hU : (usedR T : Int) ≤ room) (hr : room ≤ 9223372036854775807) : Spec0 Tryz.prog 60 #[.pointer (some ⟨r, 0, none⟩)] ρ [.pts r (encRDisk (⟨room, ⟨la, T.length, lc⟩, e, c⟩ : RDisk)) 87, .row 89 3 la T.length lc (T.flatMap encRFile)] (fun v Γ' => v = .int .i64 ((room - (usedR T : Int))) ∧ Γ' = [.pts r (encRDisk (⟨room, ⟨la, T.length, lc⟩, e, c⟩ : RDisk)) 87, .row 89 3 la T.length lc (T.flatMap encRFile)]) := by
  refine spec_of (n := 30) (vs := [_]) (σ := [(0, _)]) Tryz.func60 rfl rfl rfl rfl fun E Δ => ?_
  simp only [List.cons_append, List.nil_append]
  refine t_rd (Γ := _) (rd_row (Pick.there Pick.here)) fun hlb hlb2 hlb3 _ => ?_
  have hlb4 : T.length ≤ 9223372036854775807 := Nat.le_trans hlb2 hlb3
  refine sr ?_
  refine e_as rfl ?_
  refine l_n ?_
  refine sr ?_
  refine e_mv rfl ?_
  refine e_q (q_nilCheck rfl) ?_
  refine e_q (q_fieldp rfl fo_87_0) ?_
  refine e_q (q_loadp (v := .int .i64 room) sc_3 rfl pk_ rfl) ?_
  refine e_as rfl ?_
  refine l_n ?_
  refine c_seq ?_
  refine sr ?_
  refine e_as rfl ?_
  refine l_n ?_
  refine c_block ?_
  refine Tr.env (σ' := [(0, _), (2, _), (3, _), (4, _)]) ev_ ?_
  refine t_loop (ι := Lp (Nat)) (fun x => x.d ≤ T.length) (fun x => T.length - x.d) (fun x => [(0, .pointer (some ⟨r, 0, none⟩)), (2, .int .i64 0), (3, .int .i64 (room - (usedR (T.take x.d) : Int))), (4, .int .i64 (x.d : Int))]) (fun x => .pts r (encRDisk (⟨room, ⟨la, T.length, lc⟩, e, c⟩ : RDisk)) 87 :: .row 89 3 la T.length lc (T.flatMap encRFile) :: Δ) (⟨0, none, 0, none, 0, none, 0⟩ : Lp _) (Nat.zero_le _) ?_ ?_ ?_
  · exact .c (.c (.c (.c (.nil _))))
  · exact en_
  intro x hx
  refine c_seq ?_
  refine sr ?_
  refine e_mv rfl ?_
  refine e_mv rfl ?_
  refine e_q (q_nilCheck rfl) ?_
  refine e_q (q_fieldp rfl fo_87_1) ?_
  refine e_q (q_loadp (v := .slice la T.length lc) sc_85 rfl pk_ rfl) ?_
  refine e_q (q_len Tryz.underlying85 rfl) ?_
  refine e_q (q_lss rfl rfl) ?_
  refine l_n ?_
  refine c_cond rfl (fun h0 => ?_) (fun h0 => ?_)
  · try simp only [decide_eq_true_eq, decide_eq_false_iff_not] at h0
    have hu1 := usedR_take (T := T) (k := x.d) (by omega)
    have hu2 := usedR_le T (x.d + 1)
    refine c_skip ?_
    refine k_then_n ?_
    refine c_seq ?_
    refine c_block ?_
    refine c_region ?_
    refine e_mv rfl ?_
    refine e_mv rfl ?_
    refine e_q (q_nilCheck rfl) ?_
    refine e_q (q_fieldp rfl fo_87_1) ?_
    refine e_q (q_loadp (v := .slice la T.length lc) sc_85 rfl pk_ rfl) ?_
    refine e_mv rfl ?_
    refine e_q (q_indexe x.d Tryz.underlying85 sz_89 rfl rfl (rd_row pk_) (by decide) rfl (by first | assumption | omega | (simp only [List.length_cons, List.length_nil]; omega))) ?_
    refine e_q (q_fielde rfl fo_89_1) ?_
    refine e_q (q_loade (enc := encRFile) (xs := T) (j := x.d) (off := 1) sc_38 rfl (rd_row pk_) (fun _ => rfl) (by first | assumption | omega | (simp only [List.length_cons, List.length_nil]; omega)) (by decide) rfl) ?_
    refine e_q (q_len Tryz.underlying38 rfl) ?_
    refine e_q (q_sub rfl rfl (by omega) (by omega)) ?_
    refine e_as rfl ?_
    refine l_nil ?_
    refine k_blk_n ?_
    refine k_then_n ?_
    refine c_region ?_
    refine e_mv rfl ?_
    refine e_q (q_add rfl rfl (by omega) (by omega)) ?_
    refine e_as rfl ?_
    refine l_n ?_
    exact t_nx (⟨x.d + 1, none, 0, none, 0, none, 0⟩ : Lp _) ⟨by (try simp only []); omega, by (try simp only []); omega⟩ (.c (.c (.cons rfl (inte (by rw [hu1]; omega)) (.c (.nil _)))))
  · try simp only [decide_eq_true_eq, decide_eq_false_iff_not] at h0
    have hk : x.d = T.length := by omega
    refine c_exit ?_
    refine k_then_x ?_
    refine k_then_x ?_
    refine k_blk_x ?_
    refine k_then_n ?_
    refine sr ?_
    refine e_mv rfl ?_
    refine e_as rfl ?_
    refine l_n ?_
    refine c_ret ?_
    exact t_rt [.pts r (encRDisk (⟨room, ⟨la, T.length, lc⟩, e, c⟩ : RDisk)) 87, .row 89 3 la T.length lc (T.flatMap encRFile)] rfl (.tmp rfl .nil) rfl ⟨rfl, inte (by rw [hk, List.take_length]), rfl⟩
end Go.Dsk.RA

/-
  Package disk, walked.
-/
set_option maxRecDepth 100000
set_option maxHeartbeats 4000000
set_option linter.unusedSimpArgs false
set_option linter.unusedVariables false
namespace Go.Dsk.RB
open Go Go.SL Go.Proofs Go.Dsk Go.Dsk.L Go.Dsk.RA
attribute [local irreducible] Go.SL.Ent
theorem ag_89 : aggSize Tryz.prog 89 = some 3 := by kernel_rfl
theorem eo_89 : elemOk Tryz.prog 89 3 48 = true := by kernel_rfl
theorem fo_87_1 : fieldOff Tryz.prog 87 1 = some (1, 85) := by kernel_rfl
theorem fo_89_0 : fieldOff Tryz.prog 89 0 = some (0, 9) := by kernel_rfl
theorem sc_85 : isScalar Tryz.prog 85 = true := by kernel_rfl
theorem sc_9 : isScalar Tryz.prog 9 = true := by kernel_rfl
theorem sz_85 : sizeIs Tryz.prog 85 = some 1 := by kernel_rfl
theorem sz_89 : sizeIs Tryz.prog 89 = some 3 := by kernel_rfl

theorem radd_spec (r : Nat) (room : Int) (la : Option Addr) (lc : Nat) (e : Bool) (c : Int) (T : RT) (f : RFile) (ρ : Hp) (hl : T.length ≤ 1000000) : Spec0 Tryz.prog 61 #[.pointer (some ⟨r, 0, none⟩), .agg (encRFile f).toArray] ρ [.pts r (encRDisk (⟨room, ⟨la, T.length, lc⟩, e, c⟩ : RDisk)) 87, .row 89 3 la T.length lc (T.flatMap encRFile), RB 5 T, .row 5 1 f.B.a f.B.xs.length f.B.cap (f.B.xs.flatMap encB)] (fun v Γ' => ∃ k a1 c1, k ≤ T.length ∧ (∀ e ∈ T.take k, e.Name < f.Name) ∧ (k < T.length → ¬ (T.getD k default).Name < f.Name) ∧ v = .tuple #[] ∧ Γ' = [.pts r (encRDisk (⟨room, ⟨a1, (T.take k ++ f :: T.drop k).length, c1⟩, e, c⟩ : RDisk)) 87, .row 89 3 a1 (T.take k ++ f :: T.drop k).length c1 ((T.take k ++ f :: T.drop k).flatMap encRFile), RB 5 (T.take k ++ f :: T.drop k)]) := by
  refine spec_of (n := 51) (vs := [_, _]) (σ := [(0, _), (1, _)]) Tryz.func61 rfl rfl rfl rfl fun E Δ => ?_
  simp only [List.cons_append, List.nil_append]
  refine t_rd (Γ := _) (rd_row (Pick.there Pick.here)) fun hlb hlb2 hlb3 _ => ?_
  have hlb4 : T.length ≤ 9223372036854775807 := Nat.le_trans hlb2 hlb3
  refine sr ?_
  refine e_s (s_box (cs := encRFile f) rfl rfl) ?_
  rintro _ _ ⟨b3, rfl, rfl⟩
  refine l_n ?_
  refine sr ?_
  refine e_as rfl ?_
  refine l_n ?_
  refine c_seq ?_
  refine c_block ?_
  refine Tr.env (σ' := [(0, _), (3, _), (4, _)]) ev_ ?_
  refine t_loop (ι := Lp (Nat)) (fun x => x.d ≤ T.length ∧ ∀ e ∈ T.take x.d, e.Name < f.Name) (fun x => T.length - x.d) (fun x => [(0, .pointer (some ⟨r, 0, none⟩)), (3, .pointer (some ⟨b3, 0, none⟩)), (4, .int .i64 (x.d : Int))]) (fun x => .pts b3 (encRFile f) 89 :: .pts r (encRDisk (⟨room, ⟨la, T.length, lc⟩, e, c⟩ : RDisk)) 87 :: .row 89 3 la T.length lc (T.flatMap encRFile) :: RB 5 T :: .row 5 1 f.B.a f.B.xs.length f.B.cap (f.B.xs.flatMap encB) :: Δ) (⟨0, none, 0, none, 0, none, 0⟩ : Lp _) ⟨Nat.zero_le _, fun e he => by cases he⟩ ?_ ?_ ?_
  · exact .c (.c (.c (.nil _)))
  · exact en_
  intro x hx
  obtain ⟨hx1, hx2⟩ := hx
  refine c_seq ?_
  refine c_seq ?_
  refine d_r 20 [.pts b3 (encRFile f) 89, .pts r (encRDisk (⟨room, ⟨la, T.length, lc⟩, e, c⟩ : RDisk)) 87, .row 89 3 la T.length lc (T.flatMap encRFile), RB 5 T, .row 5 1 f.B.a f.B.xs.length f.B.cap (f.B.xs.flatMap encB)] ?_
  refine d_t 0 rfl wn (q_move rfl) ?_
  refine d_t 1 rfl wn (q_move rfl) ?_
  refine d_t 2 rfl wn (q_nilCheck rfl) ?_
  refine d_t 3 rfl wn (q_fieldp rfl fo_87_1) ?_
  refine d_t 4 rfl wn (q_loadp (v := .slice la T.length lc) sc_85 rfl pk_ rfl) ?_
  refine d_t 5 rfl wn (q_len Tryz.underlying85 rfl) ?_
  refine d_t 6 rfl wn (q_lss rfl rfl) ?_
  refine d_t 7 rfl wn (q_move rfl) ?_
  refine d_g 8 ((decide ((x.d : Int) < (T.length : Int)))) rfl (ask_t rfl rfl) (fun hb => q_move rfl) ?_
  refine d_g 9 ((decide ((x.d : Int) < (T.length : Int)))) rfl (ask_t rfl rfl) (fun hb => OpQ.env (.cons rfl (gd_t hb) (.nil _) : EnvLe [(14, .pointer (some ⟨r, 0, none⟩))] _) (q_nilCheck rfl)) ?_
  refine d_g 10 ((decide ((x.d : Int) < (T.length : Int)))) rfl (ask_t rfl rfl) (fun hb => OpQ.env (.cons rfl (gd_t hb) (.nil _) : EnvLe [(15, .pointer (some ⟨r, 0, none⟩))] _) (q_fieldp rfl fo_87_1)) ?_
  refine d_g 11 ((decide ((x.d : Int) < (T.length : Int)))) rfl (ask_t rfl rfl) (fun hb => OpQ.env (.cons rfl (gd_t hb) (.nil _) : EnvLe [(16, .pointer (some ⟨r, 1, none⟩))] _) (q_loadp (v := .slice la T.length lc) sc_85 rfl pk_ rfl)) ?_
  refine d_g 12 ((decide ((x.d : Int) < (T.length : Int)))) rfl (ask_t rfl rfl) (fun hb => q_move rfl) ?_
  refine d_g 13 ((decide ((x.d : Int) < (T.length : Int)))) rfl (ask_t rfl rfl) (fun hb => OpQ.env (.cons rfl (gd_t hb) (.cons rfl (gd_t hb) (.nil _)) : EnvLe [(17, .slice la T.length lc), (18, .int .i64 (x.d : Int))] _) (q_indexe x.d Tryz.underlying85 sz_89 rfl rfl (rd_row pk_) (by decide) rfl (by first | assumption | omega | (have hb2 := hb; (try simp only [Bool.and_eq_true, Bool.or_eq_true, Bool.not_eq_true', Bool.and_eq_false_iff, Bool.or_eq_false_iff, Bool.not_eq_false', decide_eq_true_eq, decide_eq_false_iff_not, Bool.not_eq_eq_eq_not, Bool.not_true, Bool.not_false, Bool.not_eq_true, Bool.not_eq_false, beq_iff_eq, bne_iff_ne, ne_eq, Decidable.not_not] at hb2); omega) | (simp only [List.length_cons, List.length_nil]; omega)))) ?_
  refine d_g 14 ((decide ((x.d : Int) < (T.length : Int)))) rfl (ask_t rfl rfl) (fun hb => OpQ.env (.cons rfl (gd_t hb) (.nil _) : EnvLe [(19, pe la x.d 3 0)] _) (q_fielde rfl fo_89_0)) ?_
  refine d_g 15 ((decide ((x.d : Int) < (T.length : Int)))) rfl (ask_t rfl rfl) (fun hb => OpQ.env (.cons rfl (gd_t hb) (.nil _) : EnvLe [(20, pe la x.d 3 0)] _) (q_loade (enc := encRFile) (xs := T) (j := x.d) (off := 0) sc_9 rfl (rd_row pk_) (fun _ => rfl) (by first | assumption | omega | (have hb2 := hb; (try simp only [Bool.and_eq_true, Bool.or_eq_true, Bool.not_eq_true', Bool.and_eq_false_iff, Bool.or_eq_false_iff, Bool.not_eq_false', decide_eq_true_eq, decide_eq_false_iff_not, Bool.not_eq_eq_eq_not, Bool.not_true, Bool.not_false, Bool.not_eq_true, Bool.not_eq_false, beq_iff_eq, bne_iff_ne, ne_eq, Decidable.not_not] at hb2); omega) | (simp only [List.length_cons, List.length_nil]; omega)) (by decide) rfl)) ?_
  refine d_g 16 ((decide ((x.d : Int) < (T.length : Int)))) rfl (ask_t rfl rfl) (fun hb => q_fieldp rfl fo_89_0) ?_
  refine d_g 17 ((decide ((x.d : Int) < (T.length : Int)))) rfl (ask_t rfl rfl) (fun hb => OpQ.env (.cons rfl (gd_t hb) (.nil _) : EnvLe [(22, .pointer (some ⟨b3, 0, none⟩))] _) (q_loadp (v := (strB f.Name)) sc_9 rfl pk_ rfl)) ?_
  refine d_g 18 ((decide ((x.d : Int) < (T.length : Int)))) rfl (ask_t rfl rfl) (fun hb => OpQ.env (.cons rfl (gd_t hb) (.cons rfl (gd_t hb) (.nil _)) : EnvLe [(21, (strB ((T.getD x.d default).Name))), (23, (strB f.Name))] _) (q_lsssB (p := (T.getD x.d default).Name) (q := f.Name) rfl rfl)) ?_
  refine d_t 19 rfl wn (q_pick_and rfl rfl rfl (fun h => h)) ?_
  refine d_d ?_
  refine k_then_n ?_
  refine c_cond rfl (fun h0 => ?_) (fun h0 => ?_)
  · try simp only [decide_eq_true_eq, decide_eq_false_iff_not, Bool.and_eq_true, Bool.and_eq_false_iff] at h0
    refine c_skip ?_
    refine k_then_n ?_
    refine c_block ?_
    refine c_region ?_
    refine e_mv rfl ?_
    refine e_q (q_add rfl rfl (by omega) (by omega)) ?_
    refine e_as rfl ?_
    refine l_nil ?_
    refine k_blk_n ?_
    refine k_then_n ?_
    exact t_nx (⟨x.d + 1, none, 0, none, 0, none, 0⟩ : Lp _) ⟨⟨by (try simp only []); omega, fun e he => by rw [take_succ_getD _ _ (by omega)] at he; rcases List.mem_append.1 he with h | h; exact hx2 e h; rw [List.mem_singleton.1 h]; exact h0.2⟩, by (try simp only []); omega⟩ (.c (.c (.c (.nil _))))
  · try simp only [decide_eq_true_eq, decide_eq_false_iff_not, Bool.and_eq_true, Bool.and_eq_false_iff] at h0
    refine c_exit ?_
    refine k_then_x ?_
    refine k_then_x ?_
    refine k_blk_x ?_
    refine k_then_n ?_
    refine sr ?_
    refine e_as rfl ?_
    refine l_n ?_
    refine sr ?_
    refine e_mv rfl ?_
    refine e_mv rfl ?_
    refine e_q (q_nilCheck rfl) ?_
    refine e_q (q_fieldp rfl fo_87_1) ?_
    refine e_q (q_loadp (v := .slice la T.length lc) sc_85 rfl pk_ rfl) ?_
    refine e_mv rfl ?_
    refine e_q (q_cut_hi Tryz.underlying85 sz_89 rfl rfl (by omega) (by omega)) ?_
    refine Tr.ent (Ent.nilrow 89 3 _) ?_
    refine e_s (s_appendn (enc := encRFile) (xs := ([] : List RFile)) (ys := ((T.take x.d) : List RFile)) (Γ' := fun a' cap' => _) Tryz.underlying85 eo_89 (by decide) rfl rfl (rd_take (enc := encRFile) (rd_row pk_) (fun _ => rfl) _ (by omega)) (oneRFiles _) (by first | omega | (simp only [List.length_append, List.length_cons, List.length_nil] at *; omega)) (by first | omega | (simp only [List.length_append, List.length_cons, List.length_nil] at *; omega)) (fun _ _ => pk_)) ?_
    rintro _ _ ⟨a35, c35, rfl, rfl⟩
    simp only [Nat.zero_add, List.nil_append]
    refine e_as rfl ?_
    refine l_n ?_
    refine sr ?_
    refine e_mv rfl ?_
    refine e_q (q_loadpa (vs := encRFile f) ag_89 rfl pk_ rfl) ?_
    refine e_s (s_buildSlice (cs := ([f] : List RFile).flatMap encRFile) Tryz.underlying85 eo_89 rfl rfl rfl rfl (by decide) (by decide)) ?_
    rintro _ _ ⟨b38, rfl, rfl⟩
    refine e_s (s_appendn (enc := encRFile) (xs := ((T.take x.d) : List RFile)) (ys := ([f] : List RFile)) (Γ' := fun a' cap' => _) Tryz.underlying85 eo_89 (by decide) rfl rfl (rd_row pk_) (oneRFiles _) (by first | omega | (simp only [List.length_append, List.length_cons, List.length_nil] at *; omega)) (by first | omega | (simp only [List.length_append, List.length_cons, List.length_nil] at *; omega)) (fun _ _ => pk_)) ?_
    rintro _ _ ⟨a39, c39, rfl, rfl⟩
    refine e_as rfl ?_
    refine l_n ?_
    refine c_region ?_
    refine e_mv rfl ?_
    refine e_mv rfl ?_
    refine e_mv rfl ?_
    refine e_q (q_nilCheck rfl) ?_
    refine e_q (q_fieldp rfl fo_87_1) ?_
    refine e_q (q_loadp (v := .slice la T.length lc) sc_85 rfl pk_ rfl) ?_
    refine e_mv rfl ?_
    refine e_q (q_cut_lo Tryz.underlying85 sz_89 rfl rfl (by omega) (by omega)) ?_
    refine e_s (s_appendn (enc := encRFile) (xs := (((T.take x.d) ++ [f]) : List RFile)) (ys := ((T.drop x.d) : List RFile)) (Γ' := fun a' cap' => _) Tryz.underlying85 eo_89 (by decide) rfl rfl (rd_drop (enc := encRFile) (rd_row pk_) (fun _ => rfl) _ (by omega)) (oneRFiles _) (by first | omega | (simp only [List.length_append, List.length_cons, List.length_nil] at *; omega)) (by first | omega | (simp only [List.length_append, List.length_cons, List.length_nil] at *; omega)) (fun _ _ => pk_)) ?_
    rintro _ _ ⟨a48, c48, rfl, rfl⟩
    refine e_q (q_nilCheck rfl) ?_
    refine e_q (q_fieldp rfl fo_87_1) ?_
    refine l_step (s_s0 wn (s_storep (ws := [.slice a48 ((((x.d : Int)).toNat + 1) + (T.length - ((x.d : Int)).toNat)) c48]) (cs := encRDisk (⟨room, ⟨la, T.length, lc⟩, e, c⟩ : RDisk)) (cs' := encRDisk (⟨room, ⟨a48, ((((x.d : Int)).toNat + 1) + (T.length - ((x.d : Int)).toNat)), c48⟩, e, c⟩ : RDisk)) rfl rfl rfl sz_85 (by simp [Value.oneCell', strB, ptV, SL.v, SH.v]) (by simp [encRDisk]) rfl pk_) ?_)
    rintro _ _ ⟨rfl, rfl⟩
    refine l_nil ?_
    refine k_body_n ?_
    simp only [List.cons_append, List.nil_append]
    have e1 : T.take x.d ++ [f] ++ T.drop x.d = (T.take x.d ++ f :: T.drop x.d) := by simp
    have e2 : ((x.d : Int)).toNat + 1 + (T.length - ((x.d : Int)).toNat) = (T.take x.d ++ f :: T.drop x.d).length := by simp; omega
    rw [e1, e2]
    refine Tr.ent (Ent.trans (Ent.pick (A := R1 5 f) pk_ (Ent.pick (A := RB 5 T) pk_ (Ent.refl _))) (rb_ins x.d f)) ?_
    exact t_rt [.pts r (encRDisk (⟨room, ⟨a48, (T.take x.d ++ f :: T.drop x.d).length, c48⟩, e, c⟩ : RDisk)) 87, .row 89 3 a48 (T.take x.d ++ f :: T.drop x.d).length c48 ((T.take x.d ++ f :: T.drop x.d).flatMap encRFile), RB 5 (T.take x.d ++ f :: T.drop x.d)] rfl .nil rfl ⟨rfl, x.d, a48, c48, hx1, hx2, (fun hk hlt => h0.elim (fun h => h (by omega)) (fun h => h hlt)), rfl, rfl⟩

theorem rtake_spec (r : Nat) (room : Int) (la : Option Addr) (lc : Nat) (e : Bool) (c : Int) (T : RT) (k : Nat) (ρ : Hp) (hk : k < T.length) (hl : T.length ≤ 1000000) : Spec0 Tryz.prog 55 #[.pointer (some ⟨r, 0, none⟩), .int .i64 (k : Int)] ρ [.pts r (encRDisk (⟨room, ⟨la, T.length, lc⟩, e, c⟩ : RDisk)) 87, .row 89 3 la T.length lc (T.flatMap encRFile), RB 5 T] (fun v Γ' => ∃ a1 c1, v = .agg (encRFile (T.getD k default)).toArray ∧ Γ' = [.pts r (encRDisk (⟨room, ⟨a1, (T.eraseIdx k).length, c1⟩, e, c⟩ : RDisk)) 87, .row 89 3 a1 (T.eraseIdx k).length c1 ((T.eraseIdx k).flatMap encRFile), RB 5 (T.eraseIdx k), .row 5 1 (T.getD k default).B.a (T.getD k default).B.xs.length (T.getD k default).B.cap ((T.getD k default).B.xs.flatMap encB)]) := by
  refine spec_of (n := 35) (vs := [_, _]) (σ := [(0, _), (1, _)]) Tryz.func55 rfl rfl rfl rfl fun E Δ => ?_
  simp only [List.cons_append, List.nil_append]
  refine t_rd (Γ := _) (rd_row (Pick.there Pick.here)) fun hlb hlb2 hlb3 _ => ?_
  have hlb4 : T.length ≤ 9223372036854775807 := Nat.le_trans hlb2 hlb3
  refine sr ?_
  refine e_s (s_allocz (cs := encRFile zRFile) (by kernel_rfl)) ?_
  rintro _ _ ⟨b4, rfl, rfl⟩
  refine l_n ?_
  refine sr ?_
  refine e_mv rfl ?_
  refine e_q (q_nilCheck rfl) ?_
  refine e_q (q_fieldp rfl fo_87_1) ?_
  refine e_q (q_loadp (v := .slice la T.length lc) sc_85 rfl pk_ rfl) ?_
  refine e_mv rfl ?_
  refine e_q (q_indexe k Tryz.underlying85 sz_89 rfl rfl (rd_row pk_) (by decide) rfl (by first | assumption | omega | (simp only [List.length_cons, List.length_nil]; omega))) ?_
  refine e_q (q_loadea (vs := encRFile (T.getD k default)) (enc := encRFile) (xs := T) (j := k) (off := 0) ag_89 rfl (rd_row pk_) (fun _ => rfl) (by first | assumption | omega | (simp only [List.length_cons, List.length_nil]; omega)) (by simp [encRFile]) (by simp [encRFile]) rfl) ?_
  refine e_s (s_allocz (cs := encRFile zRFile) (by kernel_rfl)) ?_
  rintro _ _ ⟨b5, rfl, rfl⟩
  refine l_step (s_s0 wn (s_storep (ws := encRFile (T.getD k default)) (cs := encRFile zRFile) (cs' := encRFile (T.getD k default)) rfl rfl rfl sz_89 (oneRFile _) (by simp [encRFile, encRFile]) rfl pk_) ?_)
  rintro _ _ ⟨rfl, rfl⟩
  refine l_n ?_
  refine sr ?_
  refine e_as rfl ?_
  refine l_n ?_
  refine sr ?_
  refine e_mv rfl ?_
  refine e_mv rfl ?_
  refine e_q (q_nilCheck rfl) ?_
  refine e_q (q_fieldp rfl fo_87_1) ?_
  refine e_q (q_loadp (v := .slice la T.length lc) sc_85 rfl pk_ rfl) ?_
  refine e_mv rfl ?_
  refine e_q (q_cut_hi Tryz.underlying85 sz_89 rfl rfl (by omega) (by omega)) ?_
  refine Tr.ent (Ent.nilrow 89 3 _) ?_
  refine e_s (s_appendn (enc := encRFile) (xs := ([] : List RFile)) (ys := ((T.take k) : List RFile)) (Γ' := fun a' cap' => _) Tryz.underlying85 eo_89 (by decide) rfl rfl (rd_take (enc := encRFile) (rd_row pk_) (fun _ => rfl) _ (by omega)) (oneRFiles _) (by first | omega | (simp only [List.length_append, List.length_cons, List.length_nil] at *; omega)) (by first | omega | (simp only [List.length_append, List.length_cons, List.length_nil] at *; omega)) (fun _ _ => pk_)) ?_
  rintro _ _ ⟨a21, c21, rfl, rfl⟩
  simp only [Nat.zero_add, List.nil_append]
  refine e_as rfl ?_
  refine l_n ?_
  refine sr ?_
  refine e_mv rfl ?_
  refine e_mv rfl ?_
  refine e_mv rfl ?_
  refine e_q (q_nilCheck rfl) ?_
  refine e_q (q_fieldp rfl fo_87_1) ?_
  refine e_q (q_loadp (v := .slice la T.length lc) sc_85 rfl pk_ rfl) ?_
  refine e_mv rfl ?_
  refine e_q (q_add rfl rfl (by omega) (by omega)) ?_
  refine e_q (q_cut_lo Tryz.underlying85 sz_89 rfl rfl (by omega) (by omega)) ?_
  refine e_s (s_appendn (enc := encRFile) (xs := ((T.take k) : List RFile)) (ys := ((T.drop (((k : Int) + 1)).toNat) : List RFile)) (Γ' := fun a' cap' => _) Tryz.underlying85 eo_89 (by decide) rfl rfl (rd_drop (enc := encRFile) (rd_row pk_) (fun _ => rfl) _ (by omega)) (oneRFiles _) (by first | omega | (simp only [List.length_append, List.length_cons, List.length_nil] at *; omega)) (by first | omega | (simp only [List.length_append, List.length_cons, List.length_nil] at *; omega)) (fun _ _ => pk_)) ?_
  rintro _ _ ⟨a31, c31, rfl, rfl⟩
  refine e_q (q_nilCheck rfl) ?_
  refine e_q (q_fieldp rfl fo_87_1) ?_
  refine l_step (s_s0 wn (s_storep (ws := [.slice a31 (((k : Int)).toNat + (T.length - (((k : Int) + 1)).toNat)) c31]) (cs := encRDisk (⟨room, ⟨la, T.length, lc⟩, e, c⟩ : RDisk)) (cs' := encRDisk (⟨room, ⟨a31, (((k : Int)).toNat + (T.length - (((k : Int) + 1)).toNat)), c31⟩, e, c⟩ : RDisk)) rfl rfl rfl sz_85 (by simp [Value.oneCell', strB, ptV, SL.v, SH.v]) (by simp [encRDisk]) rfl pk_) ?_)
  rintro _ _ ⟨rfl, rfl⟩
  refine l_n ?_
  refine sr ?_
  refine e_q (q_loadpa (vs := encRFile (T.getD k default)) ag_89 rfl pk_ rfl) ?_
  refine l_step (s_s0 wn (s_storep (ws := encRFile (T.getD k default)) (cs := encRFile zRFile) (cs' := encRFile (T.getD k default)) rfl rfl rfl sz_89 (oneRFile _) (by simp [encRFile, encRFile]) rfl pk_) ?_)
  rintro _ _ ⟨rfl, rfl⟩
  refine l_n ?_
  refine c_ret ?_
  simp only [List.cons_append, List.nil_append]
  have e1 : T.take k ++ T.drop (k + 1) = (T.eraseIdx k) := (List.eraseIdx_eq_take_drop_succ T k).symm
  have e2 : ((k : Int)).toNat + (T.length - (((k : Int) + 1)).toNat) = (T.eraseIdx k).length := by rw [List.length_eraseIdx, if_pos hk]; omega
  rw [show ((k : Int) + 1).toNat = k + 1 from rfl, e1] at *
  rw [e2]
  refine Tr.ent (Ent.trans (Ent.pick (A := RB 5 T) pk_ (Ent.refl _)) (rb_open hk)) ?_
  rw [rb_erase]
  exact t_rt [.pts r (encRDisk (⟨room, ⟨a31, (T.eraseIdx k).length, c31⟩, e, c⟩ : RDisk)) 87, .row 89 3 a31 (T.eraseIdx k).length c31 ((T.eraseIdx k).flatMap encRFile), RB 5 (T.eraseIdx k), .row 5 1 (T.getD k default).B.a (T.getD k default).B.xs.length (T.getD k default).B.cap ((T.getD k default).B.xs.flatMap encB)] rfl (.cell rfl pk_ (fun w h => ld_agg (by exact ag_89) h) .nil) rfl ⟨rfl, a31, c31, rfl, rfl⟩
end Go.Dsk.RB

/-
  Package disk, walked.
-/
set_option maxRecDepth 100000
set_option maxHeartbeats 4000000
set_option linter.unusedSimpArgs false
set_option linter.unusedVariables false
namespace Go.Dsk.RC
open Go Go.SL Go.Proofs Go.Dsk Go.Dsk.L Go.Dsk.RA Go.Dsk.RB
attribute [local irreducible] Go.SL.Ent
theorem fo_87_1 : fieldOff Tryz.prog 87 1 = some (1, 85) := by kernel_rfl
theorem fo_89_1 : fieldOff Tryz.prog 89 1 = some (1, 38) := by kernel_rfl
theorem fo_89_2 : fieldOff Tryz.prog 89 2 = some (2, 3) := by kernel_rfl
theorem sc_38 : isScalar Tryz.prog 38 = true := by kernel_rfl
theorem sc_85 : isScalar Tryz.prog 85 = true := by kernel_rfl
theorem sc_9 : isScalar Tryz.prog 9 = true := by kernel_rfl
theorem sz_3 : sizeIs Tryz.prog 3 = some 1 := by kernel_rfl
theorem sz_5 : sizeIs Tryz.prog 5 = some 1 := by kernel_rfl
theorem sz_89 : sizeIs Tryz.prog 89 = some 3 := by kernel_rfl
theorem sz_9 : sizeIs Tryz.prog 9 = some 1 := by kernel_rfl

theorem rsync_spec (r : Nat) (room : Int) (la : Option Addr) (lc : Nat) (e : Bool) (c : Int) (T : RT) (names_a : Option Addr) (names_n names_c : Nat) (names : List (List UInt8)) (hnames_n : names.length = names_n) (ρ : Hp) (hT : VOk (rvw T)) (hc : e = true → 0 ≤ c) (hc2 : c ≤ 9223372036854775807) (hro : Ro ρ 1 names_a names_n names_c (names.flatMap Go.SL.encStr)) : Spec0 Tryz.prog 39 #[.pointer (some ⟨r, 0, none⟩), .slice names_a names_n names_c] ρ [.pts r (encRDisk (⟨room, ⟨la, T.length, lc⟩, e, c⟩ : RDisk)) 87, .row 89 3 la T.length lc (T.flatMap encRFile), RB 5 T] (fun v Γ' => ∃ a1 c1 T', v = .int .i64 (syncR (cI e c) (rvw T) names).1 ∧ rvw T' = (syncR (cI e c) (rvw T) names).2 ∧ Γ' = [.pts r (encRDisk (⟨room, ⟨a1, T'.length, c1⟩, e, (decR e c)⟩ : RDisk)) 87, .row 89 3 a1 T'.length c1 (T'.flatMap encRFile), RB 5 T']) := by
  refine spec_of (n := 51) (vs := [_, _]) (σ := [(0, _), (1, _)]) Tryz.func39 rfl rfl rfl rfl fun E Δ => ?_
  simp only [List.cons_append, List.nil_append]
  have hrob : names_n ≤ 9223372036854775807 := Nat.le_trans hro.2.1 hro.2.2.1
  have hln := rat_ln hT
  have hus := rat_us hT
  have hnd := rnd hT
  refine sr ?_
  refine e_as rfl ?_
  refine l_n ?_
  refine c_seq ?_
  refine sr ?_
  refine e_mv rfl ?_
  refine e_fn Tryz.func53 rfl sl_ (fun ρ' hL => rstopped_spec r room la lc e c T ρ' (by assumption) (by assumption)) ?_
  rintro _ _ ⟨rfl, rfl⟩
  try simp only [List.cons_append, List.nil_append]
  refine l_n ?_
  refine c_cond rfl (fun h0 => ?_) (fun h0 => ?_)
  · try simp only [decide_eq_true_eq, decide_eq_false_iff_not] at h0
    refine sr ?_
    refine e_as rfl ?_
    refine l_n ?_
    refine c_ret ?_
    refine k_then_r ?_
    have hr : (syncR (cI e c) (rvw T) names) = (32, rvw T) := if_pos h0
    exact t_rt [.pts r (encRDisk (⟨room, ⟨la, T.length, lc⟩, e, (decR e c)⟩ : RDisk)) 87, .row 89 3 la T.length lc (T.flatMap encRFile), RB 5 T] rfl (.tmp rfl .nil) rfl ⟨rfl, la, lc, T, by rw [hr]; rfl, by rw [hr], rfl⟩
  · try simp only [decide_eq_true_eq, decide_eq_false_iff_not] at h0
    refine c_skip ?_
    refine k_then_n ?_
    refine c_seq ?_
    refine sr ?_
    refine e_as rfl ?_
    refine l_n ?_
    refine c_block ?_
    refine Tr.env (σ' := [(0, _), (1, _), (5, _)]) ev_ ?_
    refine t_loop (ι := Lp (Nat)) (fun x => x.d ≤ names_n ∧ (names.take x.d).all (mhas (rvw T)) = true) (fun x => names_n - x.d) (fun x => [(0, .pointer (some ⟨r, 0, none⟩)), (1, .slice names_a names_n names_c), (5, .int .i64 (x.d : Int))]) (fun x => .pts r (encRDisk (⟨room, ⟨la, T.length, lc⟩, e, (decR e c)⟩ : RDisk)) 87 :: .row 89 3 la T.length lc (T.flatMap encRFile) :: RB 5 T :: Δ) (⟨0, none, 0, none, 0, none, 0⟩ : Lp _) ⟨Nat.zero_le _, rfl⟩ ?_ ?_ ?_
    · exact .c (.c (.c (.nil _)))
    · exact en_
    intro x hx
    obtain ⟨hx1, hx2⟩ := hx
    refine c_seq ?_
    refine sr ?_
    refine e_mv rfl ?_
    refine e_mv rfl ?_
    refine e_q (q_len Tryz.underlying49 rfl) ?_
    refine e_q (q_lss rfl rfl) ?_
    refine l_n ?_
    refine c_cond rfl (fun h1 => ?_) (fun h1 => ?_)
    · try simp only [decide_eq_true_eq, decide_eq_false_iff_not] at h1
      refine c_skip ?_
      refine k_then_n ?_
      refine c_seq ?_
      refine c_block ?_
      refine sr ?_
      refine e_mv rfl ?_
      refine e_mv rfl ?_
      refine e_mv rfl ?_
      refine e_q (q_indexe x.d Tryz.underlying49 sz_9 rfl rfl (by first | assumption | exact rd_ro (by assumption) | exact rd_row pk_) (by decide) rfl (by first | assumption | omega | (simp only [List.length_cons, List.length_nil]; omega))) ?_
      refine e_q (q_loade (enc := Go.SL.encStr) (xs := names) (j := x.d) (off := 0) sc_9 rfl (by first | assumption | exact rd_ro (by assumption) | exact rd_row pk_) (fun _ => rfl) (by first | assumption | omega | (simp only [List.length_cons, List.length_nil]; omega)) (by decide) rfl) ?_
      refine e_fn Tryz.func54 rfl sl_ (fun ρ' hL => rfind_spec r room la lc e (decR e c) T (names.getD x.d default) ρ') ?_
      rintro _ _ ⟨rfl, rfl⟩
      try simp only [List.cons_append, List.nil_append]
      refine e_q (q_lss rfl rfl) ?_
      refine l_n ?_
      rw [rfi_neg]
      refine c_cond rfl (fun h2 => ?_) (fun h2 => ?_)
      · skip
        have hq : mhas (rvw T) (names.getD x.d default) = false := by simpa using h2
        refine sr ?_
        refine e_as rfl ?_
        refine l_n ?_
        refine c_ret ?_
        refine k_blk_r ?_
        refine k_then_r ?_
        refine k_then_r ?_
        refine k_blk_r ?_
        refine k_then_r ?_
        have hr : (syncR (cI e c) (rvw T) names) = (30, rvw T) := by unfold syncR; rw [if_neg h0, if_pos (all_no (by omega) hq)]
        exact t_rt [.pts r (encRDisk (⟨room, ⟨la, T.length, lc⟩, e, (decR e c)⟩ : RDisk)) 87, .row 89 3 la T.length lc (T.flatMap encRFile), RB 5 T] rfl (.tmp rfl .nil) rfl ⟨rfl, la, lc, T, by rw [hr]; rfl, by rw [hr], rfl⟩
      · skip
        have hq : mhas (rvw T) (names.getD x.d default) = true := by simpa using h2
        refine c_skip ?_
        refine k_blk_n ?_
        refine k_then_n ?_
        refine c_region ?_
        refine e_mv rfl ?_
        refine e_q (q_add rfl rfl (by omega) (by omega)) ?_
        refine e_as rfl ?_
        refine l_n ?_
        exact t_nx (⟨x.d + 1, none, 0, none, 0, none, 0⟩ : Lp _) ⟨⟨by (try simp only []); omega, all_next (by omega) hx2 hq⟩, by (try simp only []); omega⟩ (.c (.c (.c (.nil _))))
    · try simp only [decide_eq_true_eq, decide_eq_false_iff_not] at h1
      have hk : x.d = names.length := by omega
      rw [hk, List.take_length] at hx2
      refine c_exit ?_
      refine k_then_x ?_
      refine k_then_x ?_
      refine k_blk_x ?_
      refine k_then_n ?_
      refine c_seq ?_
      refine sr ?_
      refine e_as rfl ?_
      refine l_n ?_
      refine c_block ?_
      refine Tr.env (σ' := [(0, _), (1, _), (6, _)]) ev_ ?_
      refine t_loop (ι := Lp (Nat × RT)) (fun y => y.d.1 ≤ names_n ∧ y.d.2.map (·.Name) = T.map (·.Name) ∧ rvw y.d.2 = ((names.take y.d.1).foldl syncStep (rvw T))) (fun y => names_n - y.d.1) (fun y => [(0, .pointer (some ⟨r, 0, none⟩)), (1, .slice names_a names_n names_c), (6, .int .i64 (y.d.1 : Int))]) (fun y => .pts r (encRDisk (⟨room, ⟨la, y.d.2.length, lc⟩, e, (decR e c)⟩ : RDisk)) 87 :: .row 89 3 la y.d.2.length lc (y.d.2.flatMap encRFile) :: RB 5 y.d.2 :: Δ) (⟨(0, T), none, 0, none, 0, none, 0⟩ : Lp _) ⟨Nat.zero_le _, rfl, rfl⟩ ?_ ?_ ?_
      · exact .c (.c (.c (.nil _)))
      · exact en_
      intro y hy
      obtain ⟨hy1, hy2, hy3⟩ := hy
      refine c_seq ?_
      refine sr ?_
      refine e_mv rfl ?_
      refine e_mv rfl ?_
      refine e_q (q_len Tryz.underlying49 rfl) ?_
      refine e_q (q_lss rfl rfl) ?_
      refine l_n ?_
      refine c_cond rfl (fun h3 => ?_) (fun h3 => ?_)
      · try simp only [decide_eq_true_eq, decide_eq_false_iff_not] at h3
        refine c_skip ?_
        refine k_then_n ?_
        refine c_seq ?_
        refine c_block ?_
        refine sr ?_
        have hlm : y.d.2.length = T.length := by have := congrArg List.length hy2; simpa using this
        have hq : mhas (rvw y.d.2) (names.getD y.d.1 default) = true := by rw [rhas_names hy2]; exact (List.all_eq_true.1 hx2) _ (getD_in (by omega))
        obtain ⟨i, hi, hfi, hin⟩ := rfi_at hq
        refine e_mv rfl ?_
        refine e_mv rfl ?_
        refine e_mv rfl ?_
        refine e_q (q_indexe y.d.1 Tryz.underlying49 sz_9 rfl rfl (by first | assumption | exact rd_ro (by assumption) | exact rd_row pk_) (by decide) rfl (by first | assumption | omega | (simp only [List.length_cons, List.length_nil]; omega))) ?_
        refine e_q (q_loade (enc := Go.SL.encStr) (xs := names) (j := y.d.1) (off := 0) sc_9 rfl (by first | assumption | exact rd_ro (by assumption) | exact rd_row pk_) (fun _ => rfl) (by first | assumption | omega | (simp only [List.length_cons, List.length_nil]; omega)) (by decide) rfl) ?_
        refine e_fn Tryz.func54 rfl sl_ (fun ρ' hL => rfind_spec r room la lc e (decR e c) y.d.2 (names.getD y.d.1 default) ρ') ?_
        rintro _ _ ⟨rfl, rfl⟩
        try simp only [List.cons_append, List.nil_append]
        refine e_as rfl ?_
        refine l_n ?_
        refine d_r 17 [.pts r (encRDisk (⟨room, ⟨la, y.d.2.length, lc⟩, e, (decR e c)⟩ : RDisk)) 87, RB 5 y.d.2] ?_
        rw [hfi]
        refine d_t 0 rfl wn (q_move rfl) ?_
        refine d_t 1 rfl wn (q_nilCheck rfl) ?_
        refine d_t 2 rfl wn (q_fieldp rfl fo_87_1) ?_
        refine d_t 3 rfl wn (q_loadp (v := .slice la y.d.2.length lc) sc_85 rfl pk_ rfl) ?_
        refine d_t 4 rfl wn (q_move rfl) ?_
        refine d_t 5 rfl wn (q_move rfl) ?_
        refine d_t 6 rfl wn (q_nilCheck rfl) ?_
        refine d_t 7 rfl wn (q_fieldp rfl fo_87_1) ?_
        refine d_t 8 rfl wn (q_loadp (v := .slice la y.d.2.length lc) sc_85 rfl pk_ rfl) ?_
        refine d_t 9 rfl wn (q_move rfl) ?_
        refine d_1 10 ?_
        refine o_step rfl (s_q rfl wn (q_indexe i Tryz.underlying85 sz_89 rfl rfl (rd_row pk_) (by decide) rfl (by first | assumption | omega | (simp only [List.length_cons, List.length_nil]; omega))) ?_)
        refine d_c ?_
        refine d_t 11 rfl wn (q_fielde rfl fo_89_1) ?_
        refine d_1 12 ?_
        refine o_step rfl (s_q rfl wn (q_loade (enc := encRFile) (xs := y.d.2) (j := i) (off := 1) sc_38 rfl (rd_row pk_) (fun _ => rfl) (by first | assumption | omega | (simp only [List.length_cons, List.length_nil]; omega)) (by decide) rfl) ?_)
        refine d_c ?_
        refine d_t 13 rfl wn (q_len Tryz.underlying38 rfl) ?_
        refine d_1 14 ?_
        refine o_step rfl (s_q rfl wn (q_indexe i Tryz.underlying85 sz_89 rfl rfl (rd_row pk_) (by decide) rfl (by first | assumption | omega | (simp only [List.length_cons, List.length_nil]; omega))) ?_)
        refine d_c ?_
        refine d_t 15 rfl wn (q_fielde rfl fo_89_2) ?_
        refine d_1 16 ?_
        refine o_step rfl (s_s0 wn (s_storee (ws := [.int .i64 ((y.d.2.getD i default).B.xs.length : Int)]) (enc := encRFile) (xs := y.d.2) (j := i) (off := 2) (⟨(y.d.2.getD i default).Name, (y.d.2.getD i default).B, ((y.d.2.getD i default).B.xs.length : Int)⟩ : RFile) rfl rfl rfl sz_3 (by simp) (by simp [Value.oneCell', strB, ptV, SL.v]) pk_ (fun _ => rfl) (by first | assumption | omega | (simp only [List.length_cons, List.length_nil]; omega)) (by simp) (by first | rfl | simp [encRFile])) ?_)
        rintro _ _ ⟨rfl, rfl⟩
        refine d_c ?_
        refine d_d ?_
        refine k_blk_n ?_
        refine k_then_n ?_
        refine c_region ?_
        refine e_mv rfl ?_
        refine e_q (q_add rfl rfl (by omega) (by omega)) ?_
        refine e_as rfl ?_
        refine l_n ?_
        have hndy : (y.d.2.map (·.Name)).Nodup := by rw [hy2]; exact hnd
        have hg := rget hndy hi
        rw [hin] at hg
        have hv9 : rvw (y.d.2.set i (⟨(y.d.2.getD i default).Name, (y.d.2.getD i default).B, ((y.d.2.getD i default).B.xs.length : Int)⟩ : RFile)) = ((names.take (y.d.1 + 1)).foldl syncStep (rvw T)) := by rw [foldl_take _ _ _ _ (by omega), ← hy3, rset hndy hi (⟨(y.d.2.getD i default).Name, (y.d.2.getD i default).B, ((y.d.2.getD i default).B.xs.length : Int)⟩ : RFile) rfl, hin]; unfold syncStep; rw [getD_of hg]
        rw [← rb_same (tb := 5) (T := y.d.2) (i := i) (e := (⟨(y.d.2.getD i default).Name, (y.d.2.getD i default).B, ((y.d.2.getD i default).B.xs.length : Int)⟩ : RFile)) hi rfl, show y.d.2.length = (y.d.2.set i (⟨(y.d.2.getD i default).Name, (y.d.2.getD i default).B, ((y.d.2.getD i default).B.xs.length : Int)⟩ : RFile)).length from (List.length_set ..).symm]
        exact t_nx (⟨(y.d.1 + 1, y.d.2.set i (⟨(y.d.2.getD i default).Name, (y.d.2.getD i default).B, ((y.d.2.getD i default).B.xs.length : Int)⟩ : RFile)), none, 0, none, 0, none, 0⟩ : Lp _) ⟨⟨by (try simp only []); omega, (rnames_set (e := (⟨(y.d.2.getD i default).Name, (y.d.2.getD i default).B, ((y.d.2.getD i default).B.xs.length : Int)⟩ : RFile)) hi rfl).trans hy2, hv9⟩, by (try simp only []); omega⟩ (.c (.c (.c (.nil _))))
      · try simp only [decide_eq_true_eq, decide_eq_false_iff_not] at h3
        have hk2 : y.d.1 = names.length := by omega
        rw [hk2, List.take_length] at hy3
        refine c_exit ?_
        refine k_then_x ?_
        refine k_then_x ?_
        refine k_blk_x ?_
        refine k_then_n ?_
        refine sr ?_
        refine e_as rfl ?_
        refine l_n ?_
        refine c_ret ?_
        have hr : (syncR (cI e c) (rvw T) names) = (0, rvw y.d.2) := by unfold syncR; rw [if_neg h0, if_neg (by rw [hx2]; decide), hy3]
        exact t_rt [.pts r (encRDisk (⟨room, ⟨la, y.d.2.length, lc⟩, e, (decR e c)⟩ : RDisk)) 87, .row 89 3 la y.d.2.length lc (y.d.2.flatMap encRFile), RB 5 y.d.2] rfl (.tmp rfl .nil) rfl ⟨rfl, la, lc, y.d.2, by rw [hr]; rfl, by rw [hr], rfl⟩


end Go.Dsk.RC

/-
  Package disk, walked.
-/
set_option maxRecDepth 100000
set_option maxHeartbeats 4000000
set_option linter.unusedSimpArgs false
set_option linter.unusedVariables false
namespace Go.Dsk.RD
open Go Go.SL Go.Proofs Go.Dsk Go.Dsk.L Go.Dsk.RA Go.Dsk.RB Go.Dsk.RC
attribute [local irreducible] Go.SL.Ent
theorem sc_9 : isScalar Tryz.prog 9 = true := by kernel_rfl
theorem sz_9 : sizeIs Tryz.prog 9 = some 1 := by kernel_rfl



theorem rremove_spec (r : Nat) (room : Int) (la : Option Addr) (lc : Nat) (e : Bool) (c : Int) (T : RT) (names_a : Option Addr) (names_n names_c : Nat) (names : List (List UInt8)) (hnames_n : names.length = names_n) (ρ : Hp) (hT : VOk (rvw T)) (hc : e = true → 0 ≤ c) (hc2 : c ≤ 9223372036854775807) (hro : Ro ρ 1 names_a names_n names_c (names.flatMap Go.SL.encStr)) : Spec0 Tryz.prog 22 #[.pointer (some ⟨r, 0, none⟩), .slice names_a names_n names_c] ρ [.pts r (encRDisk (⟨room, ⟨la, T.length, lc⟩, e, c⟩ : RDisk)) 87, .row 89 3 la T.length lc (T.flatMap encRFile), RB 5 T] (fun v Γ' => ∃ a1 c1 T', v = .int .i64 (remR (cI e c) (rvw T) names).1 ∧ rvw T' = (remR (cI e c) (rvw T) names).2 ∧ Γ' = [.pts r (encRDisk (⟨room, ⟨a1, T'.length, c1⟩, e, (decR e c)⟩ : RDisk)) 87, .row 89 3 a1 T'.length c1 (T'.flatMap encRFile), RB 5 T']) := by
  refine spec_of (n := 51) (vs := [_, _]) (σ := [(0, _), (1, _)]) Tryz.func22 rfl rfl rfl rfl fun E Δ => ?_
  simp only [List.cons_append, List.nil_append]
  have hrob : names_n ≤ 9223372036854775807 := Nat.le_trans hro.2.1 hro.2.2.1
  have hln := rat_ln hT
  have hus := rat_us hT
  have hnd := rnd hT
  refine sr ?_
  refine e_as rfl ?_
  refine l_n ?_
  refine c_seq ?_
  refine sr ?_
  refine e_mv rfl ?_
  refine e_fn Tryz.func53 rfl sl_ (fun ρ' hL => rstopped_spec r room la lc e c T ρ' (by assumption) (by assumption)) ?_
  rintro _ _ ⟨rfl, rfl⟩
  try simp only [List.cons_append, List.nil_append]
  refine l_n ?_
  refine c_cond rfl (fun h0 => ?_) (fun h0 => ?_)
  · try simp only [decide_eq_true_eq, decide_eq_false_iff_not] at h0
    refine sr ?_
    refine e_as rfl ?_
    refine l_n ?_
    refine c_ret ?_
    refine k_then_r ?_
    have hr : (remR (cI e c) (rvw T) names) = (32, rvw T) := if_pos h0
    exact t_rt [.pts r (encRDisk (⟨room, ⟨la, T.length, lc⟩, e, (decR e c)⟩ : RDisk)) 87, .row 89 3 la T.length lc (T.flatMap encRFile), RB 5 T] rfl (.tmp rfl .nil) rfl ⟨rfl, la, lc, T, by rw [hr]; rfl, by rw [hr], rfl⟩
  · try simp only [decide_eq_true_eq, decide_eq_false_iff_not] at h0
    refine c_skip ?_
    refine k_then_n ?_
    refine c_seq ?_
    refine sr ?_
    refine e_as rfl ?_
    refine l_n ?_
    refine c_block ?_
    refine Tr.env (σ' := [(0, _), (1, _), (5, _)]) ev_ ?_
    refine t_loop (ι := Lp (Nat)) (fun x => x.d ≤ names_n ∧ (names.take x.d).all (mhas (rvw T)) = true ∧ (names.take x.d).Nodup) (fun x => names_n - x.d) (fun x => [(0, .pointer (some ⟨r, 0, none⟩)), (1, .slice names_a names_n names_c), (5, .int .i64 (x.d : Int))]) (fun x => .pts r (encRDisk (⟨room, ⟨la, T.length, lc⟩, e, (decR e c)⟩ : RDisk)) 87 :: .row 89 3 la T.length lc (T.flatMap encRFile) :: RB 5 T :: Δ) (⟨0, none, 0, none, 0, none, 0⟩ : Lp _) ⟨Nat.zero_le _, rfl, List.nodup_nil⟩ ?_ ?_ ?_
    · exact .c (.c (.c (.nil _)))
    · exact en_
    intro x hx
    obtain ⟨hx1, hx2, hx3⟩ := hx
    refine c_seq ?_
    refine sr ?_
    refine e_mv rfl ?_
    refine e_mv rfl ?_
    refine e_q (q_len Tryz.underlying49 rfl) ?_
    refine e_q (q_lss rfl rfl) ?_
    refine l_n ?_
    refine c_cond rfl (fun h1 => ?_) (fun h1 => ?_)
    · try simp only [decide_eq_true_eq, decide_eq_false_iff_not] at h1
      refine c_skip ?_
      refine k_then_n ?_
      refine c_seq ?_
      refine c_block ?_
      refine c_seq ?_
      refine sr ?_
      refine e_mv rfl ?_
      refine e_mv rfl ?_
      refine e_mv rfl ?_
      refine e_q (q_indexe x.d Tryz.underlying49 sz_9 rfl rfl (by first | assumption | exact rd_ro (by assumption) | exact rd_row pk_) (by decide) rfl (by first | assumption | omega | (simp only [List.length_cons, List.length_nil]; omega))) ?_
      refine e_q (q_loade (enc := Go.SL.encStr) (xs := names) (j := x.d) (off := 0) sc_9 rfl (by first | assumption | exact rd_ro (by assumption) | exact rd_row pk_) (fun _ => rfl) (by first | assumption | omega | (simp only [List.length_cons, List.length_nil]; omega)) (by decide) rfl) ?_
      refine e_fn Tryz.func54 rfl sl_ (fun ρ' hL => rfind_spec r room la lc e (decR e c) T (names.getD x.d default) ρ') ?_
      rintro _ _ ⟨rfl, rfl⟩
      try simp only [List.cons_append, List.nil_append]
      refine e_q (q_lss rfl rfl) ?_
      refine l_n ?_
      rw [rfi_neg]
      refine c_cond rfl (fun h2 => ?_) (fun h2 => ?_)
      · skip
        have hq : mhas (rvw T) (names.getD x.d default) = false := by simpa using h2
        refine sr ?_
        refine e_as rfl ?_
        refine l_n ?_
        refine c_ret ?_
        refine k_then_r ?_
        refine k_blk_r ?_
        refine k_then_r ?_
        refine k_then_r ?_
        refine k_blk_r ?_
        refine k_then_r ?_
        have hr : (remR (cI e c) (rvw T) names) = (30, rvw T) := by unfold remR; rw [if_neg h0, if_pos (by rw [all_no (by omega) hq]; rfl)]
        exact t_rt [.pts r (encRDisk (⟨room, ⟨la, T.length, lc⟩, e, (decR e c)⟩ : RDisk)) 87, .row 89 3 la T.length lc (T.flatMap encRFile), RB 5 T] rfl (.tmp rfl .nil) rfl ⟨rfl, la, lc, T, by rw [hr]; rfl, by rw [hr], rfl⟩
      · skip
        have hq : mhas (rvw T) (names.getD x.d default) = true := by simpa using h2
        refine c_skip ?_
        refine k_then_n ?_
        refine sr ?_
        refine e_as rfl ?_
        refine l_n ?_
        refine c_block ?_
        refine Tr.env (σ' := [(0, _), (1, _), (5, _), (6, _), (10, _), (11, _), (12, _), (13, _), (16, _), (17, _), (18, _), (19, _), (20, _), (21, _), (22, _)]) ev_ ?_
        refine t_loop (ι := Lp (Nat)) (fun y => y.d ≤ x.d ∧ ∀ n ∈ names.take y.d, ¬ n = (names.getD x.d default)) (fun y => x.d - y.d) (fun y => [(0, .pointer (some ⟨r, 0, none⟩)), (1, .slice names_a names_n names_c), (5, .int .i64 (x.d : Int)), (6, .int .i64 (y.d : Int)), (10, .int .i64 (x.d : Int)), (11, .slice names_a names_n names_c), (12, .int .i64 (names_n : Int)), (13, .bool (decide ((x.d : Int) < (names_n : Int)))), (16, .pointer (some ⟨r, 0, none⟩)), (17, .slice names_a names_n names_c), (18, .int .i64 (x.d : Int)), (19, pe names_a x.d 1 0), (20, (strB (names.getD x.d default))), (21, .int .i64 (rfi T (names.getD x.d default))), (22, .bool (!mhas (rvw T) (names.getD x.d default)))]) (fun y => .pts r (encRDisk (⟨room, ⟨la, T.length, lc⟩, e, (decR e c)⟩ : RDisk)) 87 :: .row 89 3 la T.length lc (T.flatMap encRFile) :: RB 5 T :: Δ) (⟨0, none, 0, none, 0, none, 0⟩ : Lp _) ⟨Nat.zero_le _, fun n hn => by cases hn⟩ ?_ ?_ ?_
        · exact .c (.c (.c (.c (.c (.c (.c (.c (.c (.c (.c (.c (.c (.c (.c (.nil _)))))))))))))))
        · exact en_
        intro y hy
        obtain ⟨hy1, hy2⟩ := hy
        refine c_seq ?_
        refine sr ?_
        refine e_mv rfl ?_
        refine e_mv rfl ?_
        refine e_q (q_lss rfl rfl) ?_
        refine l_n ?_
        refine c_cond rfl (fun h3 => ?_) (fun h3 => ?_)
        · try simp only [decide_eq_true_eq, decide_eq_false_iff_not] at h3
          refine c_skip ?_
          refine k_then_n ?_
          refine c_seq ?_
          refine c_block ?_
          refine c_seq ?_
          refine d_r 9 [.pts r (encRDisk (⟨room, ⟨la, T.length, lc⟩, e, (decR e c)⟩ : RDisk)) 87, .row 89 3 la T.length lc (T.flatMap encRFile), RB 5 T] ?_
          refine d_t 0 rfl wn (q_move rfl) ?_
          refine d_t 1 rfl wn (q_move rfl) ?_
          refine d_t 2 rfl wn (q_indexe y.d Tryz.underlying49 sz_9 rfl rfl (by first | assumption | exact rd_ro (by assumption) | exact rd_row pk_) (by decide) rfl (by first | assumption | omega | (simp only [List.length_cons, List.length_nil]; omega))) ?_
          refine d_t 3 rfl wn (q_loade (enc := Go.SL.encStr) (xs := names) (j := y.d) (off := 0) sc_9 rfl (by first | assumption | exact rd_ro (by assumption) | exact rd_row pk_) (fun _ => rfl) (by first | assumption | omega | (simp only [List.length_cons, List.length_nil]; omega)) (by decide) rfl) ?_
          refine d_t 4 rfl wn (q_move rfl) ?_
          refine d_t 5 rfl wn (q_move rfl) ?_
          refine d_t 6 rfl wn (q_indexe x.d Tryz.underlying49 sz_9 rfl rfl (by first | assumption | exact rd_ro (by assumption) | exact rd_row pk_) (by decide) rfl (by first | assumption | omega | (simp only [List.length_cons, List.length_nil]; omega))) ?_
          refine d_t 7 rfl wn (q_loade (enc := Go.SL.encStr) (xs := names) (j := x.d) (off := 0) sc_9 rfl (by first | assumption | exact rd_ro (by assumption) | exact rd_row pk_) (fun _ => rfl) (by first | assumption | omega | (simp only [List.length_cons, List.length_nil]; omega)) (by decide) rfl) ?_
          refine d_t 8 rfl wn (q_eqlsB (p := (names.getD y.d default)) (q := (names.getD x.d default)) rfl rfl) ?_
          refine d_d ?_
          refine k_then_n ?_
          refine c_cond rfl (fun h4 => ?_) (fun h4 => ?_)
          · try simp only [decide_eq_true_eq, decide_eq_false_iff_not] at h4
            refine sr ?_
            refine e_as rfl ?_
            refine l_n ?_
            refine c_ret ?_
            refine k_blk_r ?_
            refine k_then_r ?_
            refine k_then_r ?_
            refine k_blk_r ?_
            refine k_blk_r ?_
            refine k_then_r ?_
            refine k_then_r ?_
            refine k_blk_r ?_
            refine k_then_r ?_
            have hr : (remR (cI e c) (rvw T) names) = (30, rvw T) := by unfold remR; rw [if_neg h0, if_pos (by rw [nodup_no (by omega) (by omega) h4]; simp)]
            exact t_rt [.pts r (encRDisk (⟨room, ⟨la, T.length, lc⟩, e, (decR e c)⟩ : RDisk)) 87, .row 89 3 la T.length lc (T.flatMap encRFile), RB 5 T] rfl (.tmp rfl .nil) rfl ⟨rfl, la, lc, T, by rw [hr]; rfl, by rw [hr], rfl⟩
          · try simp only [decide_eq_true_eq, decide_eq_false_iff_not] at h4
            refine c_skip ?_
            refine k_blk_n ?_
            refine k_then_n ?_
            refine c_region ?_
            refine e_mv rfl ?_
            refine e_q (q_add rfl rfl (by omega) (by omega)) ?_
            refine e_as rfl ?_
            refine l_n ?_
            exact t_nx (⟨y.d + 1, none, 0, none, 0, none, 0⟩ : Lp _) ⟨⟨by (try simp only []); omega, fun n hn => by rw [take_succ_getD _ _ (by omega)] at hn; rcases List.mem_append.1 hn with h | h; exact hy2 n h; rw [List.mem_singleton.1 h]; exact h4⟩, by (try simp only []); omega⟩ (.c (.c (.c (.c (.c (.c (.c (.c (.c (.c (.c (.c (.c (.c (.c (.nil _))))))))))))))))
        · try simp only [decide_eq_true_eq, decide_eq_false_iff_not] at h3
          have hky : y.d = x.d := by omega
          rw [hky] at hy2
          refine c_exit ?_
          refine k_then_x ?_
          refine k_then_x ?_
          refine k_blk_x ?_
          refine k_blk_n ?_
          refine k_then_n ?_
          refine c_region ?_
          refine e_mv rfl ?_
          refine e_q (q_add rfl rfl (by omega) (by omega)) ?_
          refine e_as rfl ?_
          refine l_n ?_
          exact t_nx (⟨x.d + 1, none, 0, none, 0, none, 0⟩ : Lp _) ⟨⟨by (try simp only []); omega, all_next (by omega) hx2 hq, nodup_next (by omega) hx3 hy2⟩, by (try simp only []); omega⟩ (.c (.c (.c (.nil _))))
    · try simp only [decide_eq_true_eq, decide_eq_false_iff_not] at h1
      have hk : x.d = names.length := by omega
      rw [hk, List.take_length] at hx2 hx3
      refine c_exit ?_
      refine k_then_x ?_
      refine k_then_x ?_
      refine k_blk_x ?_
      refine k_then_n ?_
      refine c_seq ?_
      refine sr ?_
      refine e_as rfl ?_
      refine l_n ?_
      refine c_block ?_
      refine Tr.env (σ' := [(0, _), (1, _), (7, _)]) ev_ ?_
      refine t_loop (ι := Lp (Nat × RT × Option Addr × Nat)) (fun z => z.d.1 ≤ names_n ∧ rvw z.d.2.1 = ((names.take z.d.1).foldl mdel (rvw T)) ∧ z.d.2.1.length ≤ T.length) (fun z => names_n - z.d.1) (fun z => [(0, .pointer (some ⟨r, 0, none⟩)), (1, .slice names_a names_n names_c), (7, .int .i64 (z.d.1 : Int))]) (fun z => .pts r (encRDisk (⟨room, ⟨z.d.2.2.1, z.d.2.1.length, z.d.2.2.2⟩, e, (decR e c)⟩ : RDisk)) 87 :: .row 89 3 z.d.2.2.1 z.d.2.1.length z.d.2.2.2 (z.d.2.1.flatMap encRFile) :: RB 5 z.d.2.1 :: Δ) (⟨(0, T, la, lc), none, 0, none, 0, none, 0⟩ : Lp _) ⟨Nat.zero_le _, rfl, Nat.le_refl _⟩ ?_ ?_ ?_
      · exact .c (.c (.c (.nil _)))
      · exact en_
      intro z hz
      obtain ⟨hz1, hz2, hz3⟩ := hz
      refine c_seq ?_
      refine sr ?_
      refine e_mv rfl ?_
      refine e_mv rfl ?_
      refine e_q (q_len Tryz.underlying49 rfl) ?_
      refine e_q (q_lss rfl rfl) ?_
      refine l_n ?_
      refine c_cond rfl (fun h5 => ?_) (fun h5 => ?_)
      · try simp only [decide_eq_true_eq, decide_eq_false_iff_not] at h5
        refine c_skip ?_
        refine k_then_n ?_
        refine c_seq ?_
        refine c_block ?_
        refine c_region ?_
        have hndz : (z.d.2.1.map (·.Name)).Nodup := by rw [← rvw_keys, hz2]; exact fold_del_nd _ hT.nd
        have hqz : mhas (rvw z.d.2.1) (names.getD z.d.1 default) = true := by rw [hz2]; exact fold_del_has hT.nd hx3 hx2 (by omega)
        obtain ⟨i, hi, hfi, hin⟩ := rfi_at hqz
        refine e_mv rfl ?_
        refine e_mv rfl ?_
        refine e_mv rfl ?_
        refine e_mv rfl ?_
        refine e_q (q_indexe z.d.1 Tryz.underlying49 sz_9 rfl rfl (by first | assumption | exact rd_ro (by assumption) | exact rd_row pk_) (by decide) rfl (by first | assumption | omega | (simp only [List.length_cons, List.length_nil]; omega))) ?_
        refine e_q (q_loade (enc := Go.SL.encStr) (xs := names) (j := z.d.1) (off := 0) sc_9 rfl (by first | assumption | exact rd_ro (by assumption) | exact rd_row pk_) (fun _ => rfl) (by first | assumption | omega | (simp only [List.length_cons, List.length_nil]; omega)) (by decide) rfl) ?_
        refine e_fn Tryz.func54 rfl sl_ (fun ρ' hL => rfind_spec r room z.d.2.2.1 z.d.2.2.2 e (decR e c) z.d.2.1 (names.getD z.d.1 default) ρ') ?_
        rintro _ _ ⟨rfl, rfl⟩
        try simp only [List.cons_append, List.nil_append]
        rw [hfi]
        refine e_fn Tryz.func55 rfl sl_ (fun ρ' hL => rtake_spec r room z.d.2.2.1 z.d.2.2.2 e (decR e c) z.d.2.1 i ρ' hi (by first | omega | (simp only [List.length_eraseIdx]; (try split) <;> omega))) ?_
        rintro _ _ ⟨aT3, cT3, rfl, rfl⟩
        try simp only [List.cons_append, List.nil_append]
        refine l_nil ?_
        refine k_blk_n ?_
        refine k_then_n ?_
        refine c_region ?_
        refine e_mv rfl ?_
        refine e_q (q_add rfl rfl (by omega) (by omega)) ?_
        refine e_as rfl ?_
        refine l_n ?_
        have hv9 : rvw (z.d.2.1.eraseIdx i) = ((names.take (z.d.1 + 1)).foldl mdel (rvw T)) := by rw [foldl_take _ _ _ _ (by omega), ← hz2, rdel hndz hi, hin]
        exact t_nx (⟨(z.d.1 + 1, (z.d.2.1.eraseIdx i), aT3, cT3), none, 0, none, 0, none, 0⟩ : Lp _) ⟨⟨by (try simp only []); omega, hv9, by show (z.d.2.1.eraseIdx i).length ≤ T.length; rw [List.length_eraseIdx, if_pos hi]; omega⟩, by (try simp only []); omega⟩ (.c (.c (.c (.nil _))))
      · try simp only [decide_eq_true_eq, decide_eq_false_iff_not] at h5
        have hkz : z.d.1 = names.length := by omega
        rw [hkz, List.take_length] at hz2
        refine c_exit ?_
        refine k_then_x ?_
        refine k_then_x ?_
        refine k_blk_x ?_
        refine k_then_n ?_
        refine sr ?_
        refine e_as rfl ?_
        refine l_n ?_
        refine c_ret ?_
        have hr : (remR (cI e c) (rvw T) names) = (0, rvw z.d.2.1) := by unfold remR; rw [if_neg h0, if_neg (by rw [hx2, show onceB names = true from decide_eq_true hx3]; decide), hz2]
        exact t_rt [.pts r (encRDisk (⟨room, ⟨z.d.2.2.1, z.d.2.1.length, z.d.2.2.2⟩, e, (decR e c)⟩ : RDisk)) 87, .row 89 3 z.d.2.2.1 z.d.2.1.length z.d.2.2.2 (z.d.2.1.flatMap encRFile), RB 5 z.d.2.1] rfl (.tmp rfl .nil) rfl ⟨rfl, z.d.2.2.1, z.d.2.2.2, z.d.2.1, by rw [hr]; rfl, by rw [hr], rfl⟩
end Go.Dsk.RD

/-
  Walked.
-/
import Derived.Test.YtehaoafnobnneaaGreatDoorHrdB
import Derived.Test.YtehaoafnobnneaaGreatDoorProg
set_option maxRecDepth 100000
set_option maxHeartbeats 4000000
set_option linter.unusedSimpArgs false
set_option linter.unusedVariables false
namespace Go.Hrd
open Go Go.SL Go.Proofs Go.Mou Go.Dsk
attribute [local irreducible] Go.SL.Ent
theorem fo_56_0 : fieldOff Tryz.prog 56 0 = some (0, 23) := by kernel_rfl
theorem eo_23 : elemOk Tryz.prog 23 2 16 = true := by kernel_rfl
theorem fo_56_1 : fieldOff Tryz.prog 56 1 = some (2, 29) := by kernel_rfl
theorem sc_29 : isScalar Tryz.prog 29 = true := by kernel_rfl
theorem zc_97 : zeroCs Tryz.prog 97 = some [.int .u64 0, .slice none 0 0, .slice none 0 0] := by kernel_rfl
theorem pl_97 : placesOf Tryz.prog 97 = some [(0, 1), (1, 1), (2, 1)] := by kernel_rfl
theorem eo_97 : elemOk Tryz.prog 97 3 56 = true := by kernel_rfl
theorem eo_9 : elemOk Tryz.prog 9 1 16 = true := by kernel_rfl
theorem eo_5 : elemOk Tryz.prog 5 1 1 = true := by kernel_rfl

theorem put3 (cnt : Nat) (s : State1) (a vs : Option Addr) (ρ : Hp) (h1 : cnt < 18446744073709551616) (h2 : s.Term < 4611686018427387904) (h3 : s.Vote < 4611686018427387904) (hr : Ro ρ 3 a 3 3 (((vtS cnt s a).L.map VT.val).flatMap encVal1)) (hv : Ro ρ 3 vs 1 1 ([(vtS cnt s a).val].flatMap encVal1)) :
    Spec0 Tryz.prog 41 #[strB [91, 110, 110, 110, 93], .slice vs 1 1] ρ [] (fun w Γ' => ∃ a c, w = .tuple #[.slice a (bodyB cnt s).length c, .int .i64 0] ∧ Γ' = [.row 5 1 a (bodyB cnt s).length c ((bodyB cnt s).flatMap encB)]) :=
  Go.Mou.Put_spec sh3 vs 1 (vtS cnt s a) ρ (by decide) (by decide) hv (fits3 h1 h2 h3) (ro_mk (SL.ro_nil encB 1 ρ) hr (by intro x hx; simp only [List.mem_cons, List.not_mem_nil, or_false] at hx; rcases hx with rfl | rfl | rfl <;> exact leaf_ro _ _)) (by have h9 := body_len (cnt := cnt) (s := s) h1 h2 h3; have h8 : form sh3 (vtS cnt s a).pv = bodyB cnt s := rfl; rw [h8]; omega)

theorem save_spec (b : Nat) (room : Int) (mb : Nat) (calls : Int) (T : FT) (h : Nat) (st : State1) (s : State1) (ρ : Hp) (hT : FOk T) (hU : (usedT T : Int) ≤ room) (hr : room ≤ 9223372036854775807) (hc : calls ≤ 9223372036854775807) (hus : usedT T ≤ 900000000000) : Spec0 Tryz.prog 15 #[.pointer (some ⟨h, 0, none⟩), .agg (encState1 s).toArray] ρ [.pts h (encHard1 (⟨st, (some b)⟩ : Hard1)) 56, .pts b (encDisk1 (⟨room, (some mb), calls⟩ : Disk1)) 105, MP strB ptV mb (fm T), FB 109 5 T] (fun v Γ' => ∃ T', v = .int .i64 (saveP room calls (vw T) st s).1 ∧ vw T' = (saveP room calls (vw T) st s).2.1 ∧ Γ' = [.pts h (encHard1 (⟨(saveP room calls (vw T) st s).2.2.2, (some b)⟩ : Hard1)) 56, .pts b (encDisk1 (⟨room, (some mb), (saveP room calls (vw T) st s).2.2.1⟩ : Disk1)) 105, MP strB ptV mb (fm T'), FB 109 5 T']) := by
  refine spec_of (n := 134) (vs := [_, _]) (σ := [(0, _), (1, _)]) Tryz.func15 rfl rfl rfl rfl fun E Δ => ?_
  simp only [List.cons_append, List.nil_append]
  refine sr ?_
  refine e_s (s_box (cs := encState1 s) rfl rfl) ?_
  rintro _ _ ⟨b3, rfl, rfl⟩
  refine e_as rfl ?_
  refine l_n ?_
  refine c_seq ?_
  refine c_block ?_
  refine c_seq ?_
  refine d_r 19 [.pts b3 (encState1 s) 23, .pts h (encHard1 (⟨st, (some b)⟩ : Hard1)) 56, .pts b (encDisk1 (⟨room, (some mb), calls⟩ : Disk1)) 105, MP strB ptV mb (fm T), FB 109 5 T] ?_
  refine d_t 0 rfl wn (q_loadpa (vs := encState1 s) ag_23 rfl pk_ rfl) ?_
  refine d_t 1 rfl wn (q_move rfl) ?_
  refine d_t 2 rfl wn (q_nilCheck rfl) ?_
  refine d_t 3 rfl wn (q_fieldp rfl fo_56_0) ?_
  refine d_t 4 rfl wn (q_loadpa (vs := encState1 st) ag_23 rfl pk_ rfl) ?_
  refine d_1 5 ?_
  refine o_step rfl (s_s rfl wn (s_buildSlice (cs := ([st] : List State1).flatMap encState1) Tryz.underlying59 eo_23 rfl rfl rfl rfl (by decide) (by decide)) ?_)
  rintro _ _ ⟨b23, rfl, rfl⟩
  refine d_c ?_
  refine d_1 6 ?_
  refine o_step rfl (s_fnq rfl wn Tryz.func11 rfl (by kernel_rfl) rfl (fun ρ' hL => follows_spec s (some ⟨b23, 0, none⟩) 1 1 [st] rfl ρ' (hL.row pk_)) ?_)
  refine d_c ?_
  refine d_t 7 rfl wn (q_not rfl) ?_
  refine d_t 8 rfl wn (q_move rfl) ?_
  refine d_g 9 ((!(!(folL s [st])))) rfl (ask_f rfl rfl) (fun hb => q_fieldp rfl fo_23_0) ?_
  refine d_g 10 ((!(!(folL s [st])))) rfl (ask_f rfl rfl) (fun hb => OpQ.env (.cons rfl (gd_t hb) (.nil _) : EnvLe [(27, .pointer (some ⟨b3, 0, none⟩))] _) (q_loadp (v := .int .i64 s.Term) sc_3 rfl pk_ rfl)) ?_
  refine d_g 11 ((!(!(folL s [st])))) rfl (ask_f rfl rfl) (fun hb => OpQ.env (.cons rfl (gd_t hb) (.nil _) : EnvLe [(28, .int .i64 s.Term)] _) (q_geq rfl rfl)) ?_
  refine d_t 12 rfl wn (q_pick_or rfl rfl rfl (fun h => by first | (rw [h]; rfl) | exact congrArg not h)) ?_
  refine d_t 13 rfl wn (q_move rfl) ?_
  refine d_g 14 ((!((!(folL s [st])) || (decide (4611686018427387904 ≤ s.Term))))) rfl (ask_f rfl rfl) (fun hb => q_fieldp rfl fo_23_1) ?_
  refine d_g 15 ((!((!(folL s [st])) || (decide (4611686018427387904 ≤ s.Term))))) rfl (ask_f rfl rfl) (fun hb => OpQ.env (.cons rfl (gd_t hb) (.nil _) : EnvLe [(32, .pointer (some ⟨b3, 1, none⟩))] _) (q_loadp (v := .int .i64 s.Vote) sc_3 rfl pk_ rfl)) ?_
  refine d_g 16 ((!((!(folL s [st])) || (decide (4611686018427387904 ≤ s.Term))))) rfl (ask_f rfl rfl) (fun hb => OpQ.env (.cons rfl (gd_t hb) (.nil _) : EnvLe [(33, .int .i64 s.Vote)] _) (q_geq rfl rfl)) ?_
  refine d_t 17 rfl wn (q_pick_or rfl rfl rfl (fun h => by first | (rw [h]; rfl) | exact congrArg not h)) ?_
  refine d_t 18 rfl wn (q_assign rfl) ?_
  refine d_d ?_
  refine k_then_n ?_
  refine c_cond rfl (fun h0 => ?_) (fun h0 => ?_)
  · skip
    refine sr ?_
    refine e_as rfl ?_
    refine l_n ?_
    refine c_ret ?_
    refine k_blk_r ?_
    refine k_then_r ?_
    have hr9 : (saveP room calls (vw T) st s) = (2, vw T, calls, st) := save_bad h0
    exact t_rt [.pts h (encHard1 (⟨st, (some b)⟩ : Hard1)) 56, .pts b (encDisk1 (⟨room, (some mb), calls⟩ : Disk1)) 105, MP strB ptV mb (fm T), FB 109 5 T] rfl (.tmp rfl .nil) rfl ⟨rfl, T, by rw [hr9]; rfl, by rw [hr9], by rw [hr9]⟩
  · skip
    have hbd : badS st s = false := h0
    obtain ⟨hp1, hp2, hp3, hp4⟩ := fol_pos hbd
    refine c_seq ?_
    refine d_r 7 [.row 23 2 (some ⟨b23, 0, none⟩) 1 1 ([st].flatMap encState1), .pts b3 (encState1 s) 23, .pts h (encHard1 (⟨st, (some b)⟩ : Hard1)) 56, .pts b (encDisk1 (⟨room, (some mb), calls⟩ : Disk1)) 105, MP strB ptV mb (fm T), FB 109 5 T] ?_
    refine d_t 0 rfl wn (q_loadpa (vs := encState1 s) ag_23 rfl pk_ rfl) ?_
    refine d_t 1 rfl wn (q_move rfl) ?_
    refine d_t 2 rfl wn (q_nilCheck rfl) ?_
    refine d_t 3 rfl wn (q_fieldp rfl fo_56_0) ?_
    refine d_t 4 rfl wn (q_loadpa (vs := encState1 st) ag_23 rfl pk_ rfl) ?_
    refine d_t 5 rfl wn (q_eqlst (offs := [0, 1]) (la := [s.Term, s.Vote]) (lb := [st.Term, st.Vote]) (by kernel_rfl) rfl rfl (by intro o ho; simp only [List.mem_cons, List.not_mem_nil, or_false] at ho; rcases ho with rfl | rfl <;> exact ⟨_, _, _, rfl, rfl⟩) rfl rfl) ?_
    refine d_t 6 rfl wn (q_assign rfl) ?_
    refine d_d ?_
    refine k_then_n ?_
    refine c_cond rfl (fun h1 => ?_) (fun h1 => ?_)
    · skip
      have hse : s = st := of_decide_eq_true (st_eq.symm.trans h1)
      refine sr ?_
      refine e_as rfl ?_
      refine l_n ?_
      refine c_ret ?_
      refine k_blk_r ?_
      refine k_then_r ?_
      have hr9 : (saveP room calls (vw T) st s) = (0, vw T, calls, st) := save_same hbd hse
      exact t_rt [.pts h (encHard1 (⟨st, (some b)⟩ : Hard1)) 56, .pts b (encDisk1 (⟨room, (some mb), calls⟩ : Disk1)) 105, MP strB ptV mb (fm T), FB 109 5 T] rfl (.tmp rfl .nil) rfl ⟨rfl, T, by rw [hr9]; rfl, by rw [hr9], by rw [hr9]⟩
    · skip
      have hse : s ≠ st := of_decide_eq_false (st_eq.symm.trans h1)
      have hnl := new_lt (vw T)
      refine c_skip ?_
      refine k_blk_n ?_
      refine k_then_n ?_
      refine sr ?_
      refine e_mv rfl ?_
      refine e_q (q_nilCheck rfl) ?_
      refine e_q (q_fieldp rfl fo_56_1) ?_
      refine e_q (q_loadp (v := .pointer (some ⟨b, 0, none⟩)) sc_29 rfl pk_ rfl) ?_
      refine l_step (s_fnr rfl wn Tryz.func40 rfl (by kernel_rfl) rfl sl_ (fun ρ' hL => newest_spec b room mb calls T ρ' (by assumption)) ?_)
      refine e_mv rfl ?_
      refine e_q (q_extract rfl rfl) ?_
      refine e_q (q_extract rfl rfl) ?_
      refine e_q (q_extract rfl rfl) ?_
      refine e_s (s_allocz (cs := encState1 zState1) (by kernel_rfl)) ?_
      rintro _ _ ⟨b7, rfl, rfl⟩
      refine e_as rfl ?_
      refine e_as rfl ?_
      refine l_step (s_s0 wn (s_storep (ws := encState1 ((newF (vw T)).2.2)) (cs := encState1 zState1) (cs' := encState1 ((newF (vw T)).2.2)) rfl rfl rfl sz_23 (oneState1 _) (by simp [encState1, encState1]) rfl pk_) ?_)
      rintro _ _ ⟨rfl, rfl⟩
      refine l_n ?_
      refine sr ?_
      refine e_as rfl ?_
      refine l_n ?_
      refine c_seq ?_
      refine sr ?_
      refine e_mv rfl ?_
      refine e_mv rfl ?_
      refine e_q (q_eqlsB (p := ((newF (vw T)).1)) (q := [104, 97, 114, 100, 45, 48]) rfl rfl) ?_
      refine l_n ?_
      refine t_cutq (ι := Unit) (fun _u => True) (fun _u => [(0, .pointer (some ⟨h, 0, none⟩)), (3, .pointer (some ⟨b3, 0, none⟩)), (4, .int .i64 0), (6, .int .u64 (((newF (vw T)).2.1) : Int)), (8, (strB (othF (vw T))))]) (fun _u => .pts b7 (encState1 ((newF (vw T)).2.2)) 23 :: .row 23 2 (some ⟨b23, 0, none⟩) 1 1 ([st].flatMap encState1) :: .pts b3 (encState1 s) 23 :: .pts h (encHard1 (⟨st, (some b)⟩ : Hard1)) 56 :: .pts b (encDisk1 (⟨room, (some mb), calls⟩ : Disk1)) 105 :: MP strB ptV mb (fm T) :: FB 109 5 T :: Δ) ?_ ?_
      · skip
        refine c_cond rfl (fun h2 => ?_) (fun h2 => ?_)
        · try simp only [decide_eq_true_eq, decide_eq_false_iff_not] at h2
          refine c_region ?_
          refine e_as rfl ?_
          refine l_n ?_
          exact t_nx () trivial (.c (.c (.c (.c (.cons rfl (congrArg strB (oth_yes h2).symm) (.nil _))))))
        · try simp only [decide_eq_true_eq, decide_eq_false_iff_not] at h2
          refine c_skip ?_
          refine k_then_n ?_
          exact t_nx () trivial (.c (.c (.c (.c (.cons rfl (congrArg strB (oth_no h2).symm) (.nil _))))))
      intro _u hj2
      refine k_then_n ?_
      refine sr ?_
      refine e_mv rfl ?_
      refine e_q (q_as (v := .int .u64 ((((newF (vw T)).2.1 + 1) : Nat) : Int)) (q_addw rfl rfl) (inte (by rw [wrap_u64 (by omega) (by omega)]; rfl))) ?_
      refine e_q (q_build (cs := encVal1 (⟨((newF (vw T)).2.1 + 1), ⟨none, [], 0⟩, ⟨none, 0, 0⟩⟩ : Val1)) zc_97 pl_97 rfl rfl) ?_
      refine e_q (q_fieldp rfl fo_23_0) ?_
      refine e_q (q_loadp (v := .int .i64 s.Term) sc_3 rfl pk_ rfl) ?_
      refine e_q (q_as (v := .int .u64 ((s.Term.toNat : Nat) : Int)) (q_conv rfl Tryz.underlying3 Tryz.underlying46 (wrap_u64 (by omega) (by omega))) (inte (by omega))) ?_
      refine e_q (q_build (cs := encVal1 (⟨s.Term.toNat, ⟨none, [], 0⟩, ⟨none, 0, 0⟩⟩ : Val1)) zc_97 pl_97 rfl rfl) ?_
      refine e_q (q_fieldp rfl fo_23_1) ?_
      refine e_q (q_loadp (v := .int .i64 s.Vote) sc_3 rfl pk_ rfl) ?_
      refine e_q (q_add rfl rfl (by omega) (by omega)) ?_
      refine e_q (q_as (v := .int .u64 (((s.Vote + 1).toNat : Nat) : Int)) (q_conv rfl Tryz.underlying3 Tryz.underlying46 (wrap_u64 (by omega) (by omega))) (inte (by omega))) ?_
      refine e_q (q_build (cs := encVal1 (⟨(s.Vote + 1).toNat, ⟨none, [], 0⟩, ⟨none, 0, 0⟩⟩ : Val1)) zc_97 pl_97 rfl rfl) ?_
      refine e_s (s_buildSlice (cs := ([(⟨((newF (vw T)).2.1 + 1), ⟨none, [], 0⟩, ⟨none, 0, 0⟩⟩ : Val1), (⟨s.Term.toNat, ⟨none, [], 0⟩, ⟨none, 0, 0⟩⟩ : Val1), (⟨(s.Vote + 1).toNat, ⟨none, [], 0⟩, ⟨none, 0, 0⟩⟩ : Val1)] : List Val1).flatMap encVal1) Tryz.underlying95 eo_97 rfl rfl rfl rfl (by decide) (by decide)) ?_
      rintro _ _ ⟨b68, rfl, rfl⟩
      refine e_q (q_build (cs := encVal1 (⟨0, ⟨none, [], 0⟩, ⟨(some ⟨b68, 0, none⟩), 3, 3⟩⟩ : Val1)) zc_97 pl_97 rfl rfl) ?_
      refine e_s (s_buildSlice (cs := ([(⟨0, ⟨none, [], 0⟩, ⟨(some ⟨b68, 0, none⟩), 3, 3⟩⟩ : Val1)] : List Val1).flatMap encVal1) Tryz.underlying95 eo_97 rfl rfl rfl rfl (by decide) (by decide)) ?_
      rintro _ _ ⟨b70, rfl, rfl⟩
      refine e_fn Tryz.func41 rfl sl_ (fun ρ' hL => put3 ((newF (vw T)).2.1 + 1) s (some ⟨b68, 0, none⟩) (some ⟨b70, 0, none⟩) ρ' (by omega) hp3 hp4 (hL.row pk_) (hL.row pk_)) ?_
      rintro _ _ ⟨aP, cP, rfl, rfl⟩
      try simp only [List.cons_append, List.nil_append]
      refine e_mv rfl ?_
      refine e_q (q_extract rfl rfl) ?_
      refine e_q (q_extract rfl rfl) ?_
      refine e_as rfl ?_
      refine e_as rfl ?_
      refine l_n ?_
      refine sr ?_
      refine e_mv rfl ?_
      refine e_s (s_buildSlice (cs := ([(⟨aP, (bodyB ((newF (vw T)).2.1 + 1) s), cP⟩ : SL UInt8)] : List (SL UInt8)).flatMap encSL) Tryz.underlying54 eo_38 rfl rfl rfl rfl (by decide) (by decide)) ?_
      rintro _ _ ⟨b75, rfl, rfl⟩
      refine l_step (s_fnq rfl wn Tryz.func42 rfl (by kernel_rfl) rfl (fun ρ' hL => (by have h9 := Go.Sm.of_spec (some ⟨b75, 0, none⟩) 1 1 [⟨aP, (bodyB ((newF (vw T)).2.1 + 1) s), cP⟩] rfl ρ' (hL.row pk_) (by intro s hs; rw [List.mem_singleton.1 hs]; exact hL.row pk_); rw [Go.Sm.catB_one] at h9; exact h9)) ?_)
      refine e_as rfl ?_
      refine l_n ?_
      refine c_seq ?_
      refine sr ?_
      refine e_mv rfl ?_
      refine e_q (q_nilCheck rfl) ?_
      refine e_q (q_fieldp rfl fo_56_1) ?_
      refine e_q (q_loadp (v := .pointer (some ⟨b, 0, none⟩)) sc_29 rfl pk_ rfl) ?_
      refine e_mv rfl ?_
      refine e_fn Tryz.func43 rfl sl_ (fun ρ' hL => Go.Dsk.X.read_spec b room mb calls T (othF (vw T)) ρ' hT) ?_
      rintro _ _ ⟨aR1, cR1, rfl, rfl⟩
      try simp only [List.cons_append, List.nil_append]
      refine e_mv rfl ?_
      refine e_q (q_extract rfl rfl) ?_
      refine e_q (q_extract rfl rfl) ?_
      refine e_as rfl ?_
      refine e_as rfl ?_
      refine l_n ?_
      refine sr ?_
      refine e_mv rfl ?_
      refine l_n ?_
      refine t_cutq (ι := FT) (fun T9 => vw T9 = (remS calls (vw T) (othF (vw T))).2.1 ∧ (remS calls (vw T) (othF (vw T))).1 = 0 ∧ FOk T9) (fun T9 => [(0, .pointer (some ⟨h, 0, none⟩)), (3, .pointer (some ⟨b3, 0, none⟩)), (8, (strB (othF (vw T)))), (9, .slice aP ((bodyB ((newF (vw T)).2.1 + 1) s).length) cP), (11, .int .u32 ((Go.Sm.sumB (bodyB ((newF (vw T)).2.1 + 1) s)).toNat : Int))]) (fun T9 => .row 5 1 aR1 ((mgetD (vw T) (othF (vw T)) zF).1.length) cR1 (((mgetD (vw T) (othF (vw T)) zF).1).flatMap encB) :: .row 38 1 (some ⟨b75, 0, none⟩) 1 1 ([(⟨aP, (bodyB ((newF (vw T)).2.1 + 1) s), cP⟩ : SL UInt8)].flatMap encSL) :: .row 5 1 aP ((bodyB ((newF (vw T)).2.1 + 1) s).length) cP ((bodyB ((newF (vw T)).2.1 + 1) s).flatMap encB) :: .row 97 3 (some ⟨b70, 0, none⟩) 1 1 ([(⟨0, ⟨none, [], 0⟩, ⟨(some ⟨b68, 0, none⟩), 3, 3⟩⟩ : Val1)].flatMap encVal1) :: .row 97 3 (some ⟨b68, 0, none⟩) 3 3 ([(⟨((newF (vw T)).2.1 + 1), ⟨none, [], 0⟩, ⟨none, 0, 0⟩⟩ : Val1), (⟨s.Term.toNat, ⟨none, [], 0⟩, ⟨none, 0, 0⟩⟩ : Val1), (⟨(s.Vote + 1).toNat, ⟨none, [], 0⟩, ⟨none, 0, 0⟩⟩ : Val1)].flatMap encVal1) :: .pts b7 (encState1 ((newF (vw T)).2.2)) 23 :: .row 23 2 (some ⟨b23, 0, none⟩) 1 1 ([st].flatMap encState1) :: .pts b3 (encState1 s) 23 :: .pts h (encHard1 (⟨st, (some b)⟩ : Hard1)) 56 :: .pts b (encDisk1 (⟨room, (some mb), (remS calls (vw T) (othF (vw T))).2.2⟩ : Disk1)) 105 :: MP strB ptV mb (fm T9) :: FB 109 5 T9 :: Δ) ?_ ?_
      · skip
        refine c_cond rfl (fun h3 => ?_) (fun h3 => ?_)
        · skip
          refine sr ?_
          refine e_mv rfl ?_
          refine e_q (q_nilCheck rfl) ?_
          refine e_q (q_fieldp rfl fo_56_1) ?_
          refine e_q (q_loadp (v := .pointer (some ⟨b, 0, none⟩)) sc_29 rfl pk_ rfl) ?_
          refine e_mv rfl ?_
          refine e_s (s_buildSlice (cs := ([(othF (vw T))] : List (List UInt8)).flatMap Go.SL.encStr) Tryz.underlying49 eo_9 rfl rfl rfl rfl (by decide) (by decide)) ?_
          rintro _ _ ⟨b92, rfl, rfl⟩
          refine e_fn Tryz.func21 rfl sl_ (fun ρ' hL => Go.Dsk.R.remove_spec b room mb calls T (some ⟨b92, 0, none⟩) 1 1 [(othF (vw T))] rfl ρ' hT hc (by decide) (hL.row pk_)) ?_
          rintro _ _ ⟨T1, rfl, hvT1, rfl⟩
          try simp only [List.cons_append, List.nil_append]
          refine e_as rfl ?_
          refine l_n ?_
          refine sr ?_
          refine e_mv rfl ?_
          refine e_q (q_neq rfl rfl) ?_
          refine l_n ?_
          refine c_cond rfl (fun h4 => ?_) (fun h4 => ?_)
          · try simp only [decide_eq_true_eq, decide_eq_false_iff_not, ne_eq, Decidable.not_not] at h4
            refine sr ?_
            refine e_mv rfl ?_
            refine e_as rfl ?_
            refine l_n ?_
            refine c_ret ?_
            refine k_then_r ?_
            refine k_then_r ?_
            have hr9 : (saveP room calls (vw T) st s) = ((remR calls (vw T) [(othF (vw T))]).1, (remR calls (vw T) [(othF (vw T))]).2, decC calls, st) := by rw [save_go hbd hse, save_rem (by rw [remS_has h3]; exact h4), remS_has h3]
            exact t_rt [.pts h (encHard1 (⟨st, (some b)⟩ : Hard1)) 56, .pts b (encDisk1 (⟨room, (some mb), (decC calls)⟩ : Disk1)) 105, MP strB ptV mb (fm T1), FB 109 5 T1] rfl (.tmp rfl .nil) rfl ⟨rfl, T1, by rw [hr9]; rfl, by rw [hr9]; exact hvT1, by rw [hr9]⟩
          · try simp only [decide_eq_true_eq, decide_eq_false_iff_not, ne_eq, Decidable.not_not] at h4
            have hT1 : FOk T1 := fok_of hvT1 (vok_rem (fok.1 hT))
            refine c_skip ?_
            refine k_then_n ?_
            rw [show decC calls = (remS calls (vw T) (othF (vw T))).2.2 from by rw [remS_has h3]]
            exact t_nx T1 ⟨by rw [remS_has h3]; exact hvT1, by rw [remS_has h3]; exact h4, hT1⟩ (.c (.c (.c (.c (.c (.nil _))))))
        · skip
          refine c_skip ?_
          refine k_then_n ?_
          refine Tr.ent (Γ' := .row 5 1 aR1 ((mgetD (vw T) (othF (vw T)) zF).1.length) cR1 (((mgetD (vw T) (othF (vw T)) zF).1).flatMap encB) :: .row 38 1 (some ⟨b75, 0, none⟩) 1 1 ([(⟨aP, (bodyB ((newF (vw T)).2.1 + 1) s), cP⟩ : SL UInt8)].flatMap encSL) :: .row 5 1 aP ((bodyB ((newF (vw T)).2.1 + 1) s).length) cP ((bodyB ((newF (vw T)).2.1 + 1) s).flatMap encB) :: .row 97 3 (some ⟨b70, 0, none⟩) 1 1 ([(⟨0, ⟨none, [], 0⟩, ⟨(some ⟨b68, 0, none⟩), 3, 3⟩⟩ : Val1)].flatMap encVal1) :: .row 97 3 (some ⟨b68, 0, none⟩) 3 3 ([(⟨((newF (vw T)).2.1 + 1), ⟨none, [], 0⟩, ⟨none, 0, 0⟩⟩ : Val1), (⟨s.Term.toNat, ⟨none, [], 0⟩, ⟨none, 0, 0⟩⟩ : Val1), (⟨(s.Vote + 1).toNat, ⟨none, [], 0⟩, ⟨none, 0, 0⟩⟩ : Val1)].flatMap encVal1) :: .pts b7 (encState1 ((newF (vw T)).2.2)) 23 :: .row 23 2 (some ⟨b23, 0, none⟩) 1 1 ([st].flatMap encState1) :: .pts b3 (encState1 s) 23 :: .pts h (encHard1 (⟨st, (some b)⟩ : Hard1)) 56 :: .pts b (encDisk1 (⟨room, (some mb), (remS calls (vw T) (othF (vw T))).2.2⟩ : Disk1)) 105 :: MP strB ptV mb (fm T) :: FB 109 5 T :: Δ) (by rw [remS_no h3]; exact en_) ?_
          exact t_nx T ⟨by rw [remS_no h3], by rw [remS_no h3], hT⟩ (.c (.c (.c (.c (.c (.nil _))))))
      intro T9 hj3
      obtain ⟨hv9, hRS, hT9⟩ := hj3
      have hu9 : usedT T9 ≤ usedT T := by have h9 := remS_used calls (vw T) (othF (vw T)); rw [← hv9, used_vw, used_vw] at h9; exact h9
      have hU9 : (usedT T9 : Int) ≤ room := by omega
      have hc9 : (remS calls (vw T) (othF (vw T))).2.2 ≤ 9223372036854775807 := remS_calls (vw T) (othF (vw T)) hc
      have hsl := slotB_len (cnt := ((newF (vw T)).2.1 + 1)) (s := s) (by omega) hp3 hp4
      have hb9 : usedT T9 + (wB (Go.Sm.sumB (bodyB ((newF (vw T)).2.1 + 1) s)) ++ (bodyB ((newF (vw T)).2.1 + 1) s)).length ≤ 1000000000000 := by show _ + (slotB ((newF (vw T)).2.1 + 1) s).length ≤ _; omega
      skip
      refine k_then_n ?_
      refine c_seq ?_
      refine sr ?_
      refine e_mv rfl ?_
      refine e_q (q_nilCheck rfl) ?_
      refine e_q (q_fieldp rfl fo_56_1) ?_
      refine e_q (q_loadp (v := .pointer (some ⟨b, 0, none⟩)) sc_29 rfl pk_ rfl) ?_
      refine e_mv rfl ?_
      refine e_mv rfl ?_
      refine e_q (q32_shr (p := (Go.Sm.sumB (bodyB ((newF (vw T)).2.1 + 1) s))) (m := 24) rfl rfl rfl rfl (by omega)) ?_
      refine e_q (q_as (v := .int .u8 ((UInt8.ofNat ((Go.Sm.sumB (bodyB ((newF (vw T)).2.1 + 1) s)) >>> 24).toNat).toNat : Int)) (q_convw rfl Tryz.underlying98 Tryz.underlying5) (inte (w2b _))) ?_
      refine e_mv rfl ?_
      refine e_q (q32_shr (p := (Go.Sm.sumB (bodyB ((newF (vw T)).2.1 + 1) s))) (m := 16) rfl rfl rfl rfl (by omega)) ?_
      refine e_q (q_as (v := .int .u8 ((UInt8.ofNat ((Go.Sm.sumB (bodyB ((newF (vw T)).2.1 + 1) s)) >>> 16).toNat).toNat : Int)) (q_convw rfl Tryz.underlying98 Tryz.underlying5) (inte (w2b _))) ?_
      refine e_mv rfl ?_
      refine e_q (q32_shr (p := (Go.Sm.sumB (bodyB ((newF (vw T)).2.1 + 1) s))) (m := 8) rfl rfl rfl rfl (by omega)) ?_
      refine e_q (q_as (v := .int .u8 ((UInt8.ofNat ((Go.Sm.sumB (bodyB ((newF (vw T)).2.1 + 1) s)) >>> 8).toNat).toNat : Int)) (q_convw rfl Tryz.underlying98 Tryz.underlying5) (inte (w2b _))) ?_
      refine e_mv rfl ?_
      refine e_q (q_as (v := .int .u8 ((UInt8.ofNat (Go.Sm.sumB (bodyB ((newF (vw T)).2.1 + 1) s)).toNat).toNat : Int)) (q_convw rfl Tryz.underlying98 Tryz.underlying5) (inte (w2b _))) ?_
      refine e_s (s_buildSlice (cs := ([(UInt8.ofNat ((Go.Sm.sumB (bodyB ((newF (vw T)).2.1 + 1) s)) >>> 24).toNat), (UInt8.ofNat ((Go.Sm.sumB (bodyB ((newF (vw T)).2.1 + 1) s)) >>> 16).toNat), (UInt8.ofNat ((Go.Sm.sumB (bodyB ((newF (vw T)).2.1 + 1) s)) >>> 8).toNat), (UInt8.ofNat (Go.Sm.sumB (bodyB ((newF (vw T)).2.1 + 1) s)).toNat)] : List UInt8).flatMap encB) Tryz.underlying38 eo_5 rfl rfl rfl rfl (by decide) (by decide)) ?_
      rintro _ _ ⟨b113, rfl, rfl⟩
      refine e_mv rfl ?_
      refine e_s (s_buildSlice (cs := ([⟨(some ⟨b113, 0, none⟩), [(UInt8.ofNat ((Go.Sm.sumB (bodyB ((newF (vw T)).2.1 + 1) s)) >>> 24).toNat), (UInt8.ofNat ((Go.Sm.sumB (bodyB ((newF (vw T)).2.1 + 1) s)) >>> 16).toNat), (UInt8.ofNat ((Go.Sm.sumB (bodyB ((newF (vw T)).2.1 + 1) s)) >>> 8).toNat), (UInt8.ofNat (Go.Sm.sumB (bodyB ((newF (vw T)).2.1 + 1) s)).toNat)], 4⟩, (⟨aP, (bodyB ((newF (vw T)).2.1 + 1) s), cP⟩ : SL UInt8)] : List (SL UInt8)).flatMap encSL) Tryz.underlying54 eo_38 rfl rfl rfl rfl (by decide) (by decide)) ?_
      rintro _ _ ⟨b115, rfl, rfl⟩
      have hcat : (([⟨some ⟨b113, 0, none⟩, wB (Go.Sm.sumB (bodyB ((newF (vw T)).2.1 + 1) s)), 4⟩, ⟨aP, (bodyB ((newF (vw T)).2.1 + 1) s), cP⟩] : List (SL UInt8)).flatMap fun x : SL UInt8 => x.xs) = (slotB ((newF (vw T)).2.1 + 1) s) := by simp [slotB]
      refine e_fn Tryz.func23 rfl sl_ (fun ρ' hL => Go.Dsk.Y.append_spec b room mb ((remS calls (vw T) (othF (vw T))).2.2) T9 (othF (vw T)) (some ⟨b115, 0, none⟩) 2 2 [⟨some ⟨b113, 0, none⟩, wB (Go.Sm.sumB (bodyB ((newF (vw T)).2.1 + 1) s)), 4⟩, ⟨aP, (bodyB ((newF (vw T)).2.1 + 1) s), cP⟩] rfl ρ' hT9 hU9 hr hc9 (Nat.le_trans (oth_len _) (by decide)) (by decide) (by show _ + (wB (Go.Sm.sumB (bodyB ((newF (vw T)).2.1 + 1) s)) ++ ((bodyB ((newF (vw T)).2.1 + 1) s) ++ [])).length ≤ _; rw [List.append_nil]; exact hb9) (hL.row pk_) (by intro s hs; simp only [List.mem_cons, List.not_mem_nil, or_false] at hs; rcases hs with rfl | rfl <;> exact hL.row pk_)) ?_
      rintro _ _ ⟨T2, rfl, hvT2, rfl⟩
      try simp only [List.cons_append, List.nil_append]
      replace hvT2 : vw T2 = (appR room (remS calls (vw T) (othF (vw T))).2.2 (vw T9) (othF (vw T)) (slotB ((newF (vw T)).2.1 + 1) s)).2 := hvT2.trans (by rw [hcat])
      rw [hcat]
      refine e_as rfl ?_
      refine l_n ?_
      refine sr ?_
      refine e_mv rfl ?_
      refine e_q (q_neq rfl rfl) ?_
      refine l_n ?_
      refine c_cond rfl (fun h5 => ?_) (fun h5 => ?_)
      · try simp only [decide_eq_true_eq, decide_eq_false_iff_not, ne_eq, Decidable.not_not] at h5
        refine sr ?_
        refine e_mv rfl ?_
        refine e_as rfl ?_
        refine l_n ?_
        refine c_ret ?_
        refine k_then_r ?_
        have hr9 : (saveP room calls (vw T) st s) = ((appR room (remS calls (vw T) (othF (vw T))).2.2 (remS calls (vw T) (othF (vw T))).2.1 (othF (vw T)) (slotB ((newF (vw T)).2.1 + 1) s)).1, (appR room (remS calls (vw T) (othF (vw T))).2.2 (remS calls (vw T) (othF (vw T))).2.1 (othF (vw T)) (slotB ((newF (vw T)).2.1 + 1) s)).2, decC (remS calls (vw T) (othF (vw T))).2.2, st) := by rw [save_go hbd hse, save_put hRS, put_app (by rw [← hv9]; exact h5)]
        exact t_rt [.pts h (encHard1 (⟨st, (some b)⟩ : Hard1)) 56, .pts b (encDisk1 (⟨room, (some mb), (decC (remS calls (vw T) (othF (vw T))).2.2)⟩ : Disk1)) 105, MP strB ptV mb (fm T2), FB 109 5 T2] rfl (.tmp rfl .nil) rfl ⟨rfl, T2, by rw [hr9, hv9]; rfl, by rw [hr9, hvT2, hv9], by rw [hr9]⟩
      · try simp only [decide_eq_true_eq, decide_eq_false_iff_not, ne_eq, Decidable.not_not] at h5
        have hTT : FOk T2 := fok_of hvT2 (vok_app (fok.1 hT9) (by rw [used_vw]; exact hb9))
        have hvT2' : vw T2 = (appR room (remS calls (vw T) (othF (vw T))).2.2 (remS calls (vw T) (othF (vw T))).2.1 (othF (vw T)) (slotB ((newF (vw T)).2.1 + 1) s)).2 := by rw [hvT2, hv9]
        refine c_skip ?_
        refine k_then_n ?_
        refine c_seq ?_
        refine sr ?_
        refine e_mv rfl ?_
        refine e_q (q_nilCheck rfl) ?_
        refine e_q (q_fieldp rfl fo_56_1) ?_
        refine e_q (q_loadp (v := .pointer (some ⟨b, 0, none⟩)) sc_29 rfl pk_ rfl) ?_
        refine e_mv rfl ?_
        refine e_s (s_buildSlice (cs := ([(othF (vw T))] : List (List UInt8)).flatMap Go.SL.encStr) Tryz.underlying49 eo_9 rfl rfl rfl rfl (by decide) (by decide)) ?_
        rintro _ _ ⟨b125, rfl, rfl⟩
        refine e_fn Tryz.func44 rfl sl_ (fun ρ' hL => Go.Dsk.Z.sync_spec b room mb (decC ((remS calls (vw T) (othF (vw T))).2.2)) T2 (some ⟨b125, 0, none⟩) 1 1 [(othF (vw T))] rfl ρ' hTT (decC_le hc9) (hL.row pk_)) ?_
        rintro _ _ ⟨T3, rfl, hvT3, rfl⟩
        try simp only [List.cons_append, List.nil_append]
        refine e_as rfl ?_
        refine l_n ?_
        refine sr ?_
        refine e_mv rfl ?_
        refine e_q (q_neq rfl rfl) ?_
        refine l_n ?_
        refine c_cond rfl (fun h6 => ?_) (fun h6 => ?_)
        · try simp only [decide_eq_true_eq, decide_eq_false_iff_not, ne_eq, Decidable.not_not] at h6
          refine sr ?_
          refine e_mv rfl ?_
          refine e_as rfl ?_
          refine l_n ?_
          refine c_ret ?_
          refine k_then_r ?_
          have hr9 : (saveP room calls (vw T) st s) = ((syncR (decC (remS calls (vw T) (othF (vw T))).2.2) (appR room (remS calls (vw T) (othF (vw T))).2.2 (remS calls (vw T) (othF (vw T))).2.1 (othF (vw T)) (slotB ((newF (vw T)).2.1 + 1) s)).2 [(othF (vw T))]).1, (syncR (decC (remS calls (vw T) (othF (vw T))).2.2) (appR room (remS calls (vw T) (othF (vw T))).2.2 (remS calls (vw T) (othF (vw T))).2.1 (othF (vw T)) (slotB ((newF (vw T)).2.1 + 1) s)).2 [(othF (vw T))]).2, decC (decC (remS calls (vw T) (othF (vw T))).2.2), st) := by rw [save_go hbd hse, save_put hRS, put_syn (by rw [← hv9]; omega) (by rw [← hvT2']; exact h6)]
          exact t_rt [.pts h (encHard1 (⟨st, (some b)⟩ : Hard1)) 56, .pts b (encDisk1 (⟨room, (some mb), (decC (decC (remS calls (vw T) (othF (vw T))).2.2))⟩ : Disk1)) 105, MP strB ptV mb (fm T3), FB 109 5 T3] rfl (.tmp rfl .nil) rfl ⟨rfl, T3, by rw [hr9, hvT2']; rfl, by rw [hr9, hvT3, hvT2'], by rw [hr9]⟩
        · try simp only [decide_eq_true_eq, decide_eq_false_iff_not, ne_eq, Decidable.not_not] at h6
          refine c_skip ?_
          refine k_then_n ?_
          refine sr ?_
          refine e_mv rfl ?_
          refine e_q (q_loadpa (vs := encState1 s) ag_23 rfl pk_ rfl) ?_
          refine e_q (q_nilCheck rfl) ?_
          refine e_q (q_fieldp rfl fo_56_0) ?_
          refine l_step (s_s0 wn (s_storep (ws := encState1 s) (cs := encHard1 (⟨st, (some b)⟩ : Hard1)) (cs' := encHard1 (⟨s, (some b)⟩ : Hard1)) rfl rfl rfl sz_23 (oneState1 _) (by simp [encHard1, encState1]) rfl pk_) ?_)
          rintro _ _ ⟨rfl, rfl⟩
          refine l_n ?_
          refine sr ?_
          refine e_as rfl ?_
          refine l_n ?_
          refine c_ret ?_
          have hr9 : (saveP room calls (vw T) st s) = (0, (syncR (decC (remS calls (vw T) (othF (vw T))).2.2) (appR room (remS calls (vw T) (othF (vw T))).2.2 (remS calls (vw T) (othF (vw T))).2.1 (othF (vw T)) (slotB ((newF (vw T)).2.1 + 1) s)).2 [(othF (vw T))]).2, decC (decC (remS calls (vw T) (othF (vw T))).2.2), s) := by rw [save_go hbd hse, save_put hRS, put_yes (by rw [← hv9]; omega) (by rw [← hvT2']; omega)]
          exact t_rt [.pts h (encHard1 (⟨s, (some b)⟩ : Hard1)) 56, .pts b (encDisk1 (⟨room, (some mb), (decC (decC (remS calls (vw T) (othF (vw T))).2.2))⟩ : Disk1)) 105, MP strB ptV mb (fm T3), FB 109 5 T3] rfl (.tmp rfl .nil) rfl ⟨rfl, T3, by rw [hr9]; rfl, by rw [hr9, hvT3, hvT2'], by rw [hr9]⟩
end Go.Hrd

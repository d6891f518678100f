/-
  Several texts, put together.
-/
import Derived.Test.YtehaoafnobnneaaGreatDoorHrdNN
import Derived.Test.YtehaoafnobnneaaGreatDoorHrdD
import Derived.Test.YtehaoafnobnneaaGreatDoorProg
/-
  The reference's saving, in plain words. No program in sight.
-/
set_option linter.unusedVariables false
set_option linter.unusedSimpArgs false
namespace Go.Hrd
open Go Go.SL Go.Mou Go.Dsk Go.Sm
def remE (e : Bool) (c : Int) (V : FV) (o : Nm) : Int × FV × Int := if mhas V o = true then ((remR (cI e c) V [o]).1, (remR (cI e c) V [o]).2, decR e c) else (0, V, c)
def putE (room : Int) (e : Bool) (c : Int) (V : FV) (o : Nm) (b : List UInt8) : Int × FV × Int :=
  if (appI room (cI e c) V o b).1 ≠ 0 then ((appI room (cI e c) V o b).1, (appI room (cI e c) V o b).2, decR e c)
  else ((syncR (cI e (decR e c)) (appI room (cI e c) V o b).2 [o]).1, (syncR (cI e (decR e c)) (appI room (cI e c) V o b).2 [o]).2, decR e (decR e c))
def saveE (room : Int) (e : Bool) (c : Int) (V : FV) (h s : State1) : Int × FV × Int :=
  if badS h s = true then (2, V, c) else if s = h then (0, V, c)
  else if (remE e c V (othF V)).1 ≠ 0 then remE e c V (othF V)
  else putE room e (remE e c V (othF V)).2.2 (remE e c V (othF V)).2.1 (othF V) (slotB ((newF V).2.1 + 1) s)
section
variable {room c : Int} {e : Bool} {V : FV} {h s : State1} {o : Nm}
theorem sE_bad (hb : badS h s = true) : saveE room e c V h s = (2, V, c) := if_pos hb
theorem sE_same (hb : badS h s = false) (he : s = h) : saveE room e c V h s = (0, V, c) := by unfold saveE; rw [if_neg (by rw [hb]; decide), if_pos he]
theorem sE_rem (hb : badS h s = false) (he : s ≠ h) (hr : (remE e c V (othF V)).1 ≠ 0) : saveE room e c V h s = remE e c V (othF V) := by unfold saveE; rw [if_neg (by rw [hb]; decide), if_neg he, if_pos hr]
theorem sE_put (hb : badS h s = false) (he : s ≠ h) (hr : (remE e c V (othF V)).1 = 0) : saveE room e c V h s = putE room e (remE e c V (othF V)).2.2 (remE e c V (othF V)).2.1 (othF V) (slotB ((newF V).2.1 + 1) s) := by unfold saveE; rw [if_neg (by rw [hb]; decide), if_neg he, if_neg (fun k => k hr)]
theorem rE_has (hm : mhas V o = true) : remE e c V o = ((remR (cI e c) V [o]).1, (remR (cI e c) V [o]).2, decR e c) := if_pos hm
theorem rE_no (hm : mhas V o = false) : remE e c V o = (0, V, c) := if_neg (by rw [hm]; decide)
theorem onI_zero : onI V = 0 ↔ (newF V).1 = n0 := by
  unfold onI
  constructor
  · intro q
    refine Classical.byContradiction fun h1 => ?_
    rw [if_neg h1] at q
    split at q
    · cases q
    · cases q
  · intro q; rw [if_pos q]
theorem decR_le : decR e c ≤ c := by unfold decR; split <;> omega
theorem rE_ok (hV : VOk V) : VOk (remE e c V o).2.1 := by
  unfold remE
  split
  · exact vok_rem hV
  · exact hV
theorem rE_used : usedV (remE e c V o).2.1 ≤ usedV V := by
  have h9 := remS_used (cI e c) V o
  unfold remS at h9
  unfold remE
  split
  · rename_i hm; rw [if_pos hm] at h9; exact h9
  · exact Nat.le_refl _
theorem rE_c (hc : e = true → 0 ≤ c) : e = true → 0 ≤ (remE e c V o).2.2 := by
  unfold remE
  split
  · exact (decR_ok hc).2
  · exact hc
theorem rE_c2 (hc : c ≤ 9223372036854775807) : (remE e c V o).2.2 ≤ 9223372036854775807 := by
  have h9 := decR_le (e := e) (c := c)
  unfold remE
  split
  · show decR e c ≤ _; omega
  · exact hc
theorem th_next {T : RT} {t : Nm} {k : Nat} (hk : k < T.length) : (((T.map (·.Name)).take k).any (fun n => decide (n = t)) || decide ((T.getD k default).Name = t)) = ((T.map (·.Name)).take (k + 1)).any (fun n => decide (n = t)) := by
  rw [take_succ_getD _ _ (by rw [List.length_map]; exact hk), List.any_append, rname_get hk]; simp
theorem th_all {T : RT} {t : Nm} : ((T.map (·.Name)).take T.length).any (fun n => decide (n = t)) = mhas (rvw T) t := by
  rw [List.take_of_length_le (by simp), Bool.eq_iff_iff, mhas_iff, rvw_keys]; simp
theorem rE_sim (hS : Sim V V) : Sim (remE e c V o).2.1 (remE e c V o).2.1 := by
  unfold remE
  split
  · exact (sim_rem hS [o]).2
  · exact hS
theorem vok_appI {calls : Int} {b : List UInt8} (hS : Sim V V) (hV : VOk V) (hb : usedV V + b.length ≤ 1000000000000) : VOk (appI room calls V o b).2 :=
  (sim_app hS o b).2.vok (vok_app hV hb)
/-! ### Both disks alike -/
theorem alike_slot {V L : FV} (h : Sim V L) (n : Nm) : slotV V n = slotV L n := by unfold slotV mgetD; rw [h.eq]
theorem alike_new {V L : FV} (h : Sim V L) : newF V = newF L := by unfold newF; rw [alike_slot h, alike_slot h]
theorem alike_oth {V L : FV} (h : Sim V L) : othF V = othF L := by unfold othF; rw [alike_new h]
end
end Go.Hrd

/-
  Walked.
-/
set_option maxRecDepth 100000
set_option maxHeartbeats 4000000
set_option linter.unusedSimpArgs false
set_option linter.unusedVariables false
namespace Go.HrdR
open Go Go.SL Go.Proofs Go.Mou Go.Dsk Go.Hrd Go.Sm
attribute [local irreducible] Go.SL.Ent
theorem eo_38 : elemOk Tryz.prog 38 1 24 = true := by kernel_rfl

theorem rsave_spec (r : Nat) (room : Int) (la : Option Addr) (lc : Nat) (e : Bool) (c : Int) (T : RT) (has : State1) (s : State1) (ρ : Hp) (hT : VOk (rvw T)) (hS : Sim (rvw T) (rvw T)) (hc : e = true → 0 ≤ c) (hc2 : c ≤ 9223372036854775807) (hU : (usedR T : Int) ≤ room) (hr : room ≤ 9223372036854775807) (hus : usedR T ≤ 900000000000) : Spec0 Tryz.prog 14 #[.pointer (some ⟨r, 0, none⟩), .agg (encState1 has).toArray, .agg (encState1 s).toArray] ρ [.pts r (encRDisk (⟨room, ⟨la, T.length, lc⟩, e, c⟩ : RDisk)) 87, .row 89 3 la T.length lc (T.flatMap encRFile), RB 5 T] (fun v Γ' => ∃ a1 c1 T', v = .int .i64 (saveE room e c (rvw T) has s).1 ∧ rvw T' = (saveE room e c (rvw T) has s).2.1 ∧ Γ' = [.pts r (encRDisk (⟨room, ⟨a1, T'.length, c1⟩, e, (saveE room e c (rvw T) has s).2.2⟩ : RDisk)) 87, .row 89 3 a1 T'.length c1 (T'.flatMap encRFile), RB 5 T']) := by
  refine spec_of (n := 85) (vs := [_, _, _]) (σ := [(0, _), (1, _), (2, _)]) Tryz.func14 rfl rfl rfl rfl fun E Δ => ?_
  simp only [List.cons_append, List.nil_append]
  have hTl : T.length ≤ 4096 := by have h9 := hT.ln; rwa [rvw_len] at h9
  refine sr ?_
  refine e_s (s_box (cs := encState1 has) rfl rfl) ?_
  rintro _ _ ⟨b4, rfl, rfl⟩
  refine e_s (s_box (cs := encState1 s) rfl rfl) ?_
  rintro _ _ ⟨b5, rfl, rfl⟩
  refine e_as rfl ?_
  refine l_n ?_
  refine c_seq ?_
  refine sr ?_
  refine e_q (q_loadpa (vs := encState1 s) ag_23 rfl pk_ rfl) ?_
  refine e_q (q_loadpa (vs := encState1 has) ag_23 rfl pk_ rfl) ?_
  refine l_step (s_fnq rfl wn Tryz.func10 rfl (by kernel_rfl) rfl (fun ρ' hL => Go.HrdL.rfollows_spec s has ρ') ?_)
  refine e_q (q_not rfl) ?_
  refine e_mv rfl ?_
  refine l_step (s_qg rfl (ask_f rfl rfl) (b := (!(!(folL s [has])))) (fun hb => q_fieldp rfl fo_23_0) ?_)
  refine l_step (s_qg rfl (ask_f rfl rfl) (b := (!(!(folL s [has])))) (fun hb => OpQ.env (.cons rfl (gd_t hb) (.nil _) : EnvLe [(20, .pointer (some ⟨b5, 0, none⟩))] _) (q_loadp (v := .int .i64 s.Term) sc_3 rfl pk_ rfl)) ?_)
  refine l_step (s_qg rfl (ask_f rfl rfl) (b := (!(!(folL s [has])))) (fun hb => OpQ.env (.cons rfl (gd_t hb) (.nil _) : EnvLe [(21, .int .i64 s.Term)] _) (q_geq rfl rfl)) ?_)
  refine e_q (q_pick_or rfl rfl rfl (fun h => by first | (rw [h]; rfl) | exact congrArg not h)) ?_
  refine e_mv rfl ?_
  refine l_step (s_qg rfl (ask_f rfl rfl) (b := (!((!(folL s [has])) || (decide (4611686018427387904 ≤ s.Term))))) (fun hb => q_fieldp rfl fo_23_1) ?_)
  refine l_step (s_qg rfl (ask_f rfl rfl) (b := (!((!(folL s [has])) || (decide (4611686018427387904 ≤ s.Term))))) (fun hb => OpQ.env (.cons rfl (gd_t hb) (.nil _) : EnvLe [(25, .pointer (some ⟨b5, 1, none⟩))] _) (q_loadp (v := .int .i64 s.Vote) sc_3 rfl pk_ rfl)) ?_)
  refine l_step (s_qg rfl (ask_f rfl rfl) (b := (!((!(folL s [has])) || (decide (4611686018427387904 ≤ s.Term))))) (fun hb => OpQ.env (.cons rfl (gd_t hb) (.nil _) : EnvLe [(26, .int .i64 s.Vote)] _) (q_geq rfl rfl)) ?_)
  refine e_q (q_pick_or rfl rfl rfl (fun h => by first | (rw [h]; rfl) | exact congrArg not h)) ?_
  refine l_n ?_
  refine c_cond rfl (fun h0 => ?_) (fun h0 => ?_)
  · skip
    refine sr ?_
    refine e_as rfl ?_
    refine l_n ?_
    refine c_ret ?_
    refine k_then_r ?_
    have hr9 : (saveE room e c (rvw T) has s) = (2, rvw T, c) := sE_bad h0
    exact t_rt [.pts r (encRDisk (⟨room, ⟨la, T.length, lc⟩, e, c⟩ : RDisk)) 87, .row 89 3 la T.length lc (T.flatMap encRFile), RB 5 T] rfl (.tmp rfl .nil) rfl ⟨rfl, la, lc, T, by rw [hr9]; rfl, by rw [hr9], by rw [hr9]⟩
  · skip
    have hbd : badS has s = false := h0
    obtain ⟨hp1, hp2, hp3, hp4⟩ := fol_pos hbd
    refine c_skip ?_
    refine k_then_n ?_
    refine c_seq ?_
    refine sr ?_
    refine e_q (q_loadpa (vs := encState1 s) ag_23 rfl pk_ rfl) ?_
    refine e_q (q_loadpa (vs := encState1 has) ag_23 rfl pk_ rfl) ?_
    refine e_q (q_eqlst (offs := [0, 1]) (la := [s.Term, s.Vote]) (lb := [has.Term, has.Vote]) (by kernel_rfl) rfl rfl (by intro o ho; simp only [List.mem_cons, List.not_mem_nil, or_false] at ho; rcases ho with rfl | rfl <;> exact ⟨_, _, _, rfl, rfl⟩) rfl rfl) ?_
    refine l_n ?_
    refine c_cond rfl (fun h1 => ?_) (fun h1 => ?_)
    · skip
      have hse : s = has := of_decide_eq_true (st_eq.symm.trans h1)
      refine sr ?_
      refine e_as rfl ?_
      refine l_n ?_
      refine c_ret ?_
      refine k_then_r ?_
      have hr9 : (saveE room e c (rvw T) has s) = (0, rvw T, c) := sE_same hbd hse
      exact t_rt [.pts r (encRDisk (⟨room, ⟨la, T.length, lc⟩, e, c⟩ : RDisk)) 87, .row 89 3 la T.length lc (T.flatMap encRFile), RB 5 T] rfl (.tmp rfl .nil) rfl ⟨rfl, la, lc, T, by rw [hr9]; rfl, by rw [hr9], by rw [hr9]⟩
    · skip
      have hse : s ≠ has := of_decide_eq_false (st_eq.symm.trans h1)
      have hnl := new_lt (rvw T)
      refine c_skip ?_
      refine k_then_n ?_
      refine sr ?_
      refine e_mv rfl ?_
      refine l_step (s_fnr rfl wn Tryz.func20 rfl (by kernel_rfl) rfl sl_ (fun ρ' hL => ron_spec r room la lc e c T ρ' hT) ?_)
      refine e_mv rfl ?_
      refine e_q (q_extract rfl rfl) ?_
      refine e_q (q_extract rfl rfl) ?_
      refine e_q (q_extract rfl rfl) ?_
      refine e_s (s_allocz (cs := encState1 zState1) (by kernel_rfl)) ?_
      rintro _ _ ⟨b9, rfl, rfl⟩
      refine e_as rfl ?_
      refine e_as rfl ?_
      refine l_step (s_s0 wn (s_storep (ws := encState1 ((newF (rvw T)).2.2)) (cs := encState1 zState1) (cs' := encState1 ((newF (rvw T)).2.2)) rfl rfl rfl sz_23 (oneState1 _) (by simp [encState1, encState1]) rfl pk_) ?_)
      rintro _ _ ⟨rfl, rfl⟩
      refine l_n ?_
      refine sr ?_
      refine e_as rfl ?_
      refine l_n ?_
      refine c_seq ?_
      refine sr ?_
      refine e_mv rfl ?_
      refine e_q (q_eql rfl rfl) ?_
      refine l_n ?_
      refine t_cutq (ι := Unit) (fun _u => True) (fun _u => [(0, .pointer (some ⟨r, 0, none⟩)), (5, .pointer (some ⟨b5, 0, none⟩)), (6, .int .i64 0), (8, .int .u64 ((newF (rvw T)).2.1 : Int)), (10, (strB (othF (rvw T))))]) (fun _u => .pts b9 (encState1 ((newF (rvw T)).2.2)) 23 :: .pts b5 (encState1 s) 23 :: .pts b4 (encState1 has) 23 :: .pts r (encRDisk (⟨room, ⟨la, T.length, lc⟩, e, c⟩ : RDisk)) 87 :: .row 89 3 la T.length lc (T.flatMap encRFile) :: RB 5 T :: Δ) ?_ ?_
      · skip
        refine c_cond rfl (fun h2 => ?_) (fun h2 => ?_)
        · try simp only [decide_eq_true_eq, decide_eq_false_iff_not] at h2
          refine c_region ?_
          refine e_as rfl ?_
          refine l_n ?_
          exact t_nx () trivial (.c (.c (.c (.c (.cons rfl (congrArg strB (oth_yes (onI_zero.1 h2)).symm) (.nil _))))))
        · try simp only [decide_eq_true_eq, decide_eq_false_iff_not] at h2
          refine c_skip ?_
          refine k_then_n ?_
          exact t_nx () trivial (.c (.c (.c (.c (.cons rfl (congrArg strB (oth_no (fun q => h2 (onI_zero.2 q))).symm) (.nil _))))))
      intro _u hj2
      refine k_then_n ?_
      refine sr ?_
      refine e_as rfl ?_
      refine l_n ?_
      refine c_seq ?_
      refine sr ?_
      refine e_as rfl ?_
      refine l_n ?_
      refine c_block ?_
      refine Tr.env (σ' := [(0, _), (5, _), (6, _), (8, _), (10, _), (11, _), (12, _)]) ev_ ?_
      refine t_loop (ι := Lp (Nat)) (fun x => x.d ≤ T.length) (fun x => T.length - x.d) (fun x => [(0, .pointer (some ⟨r, 0, none⟩)), (5, .pointer (some ⟨b5, 0, none⟩)), (6, .int .i64 0), (8, .int .u64 ((newF (rvw T)).2.1 : Int)), (10, (strB (othF (rvw T)))), (11, .bool (((T.map (·.Name)).take x.d).any (fun n => decide (n = (othF (rvw T)))))), (12, .int .i64 (x.d : Int))]) (fun x => .pts b9 (encState1 ((newF (rvw T)).2.2)) 23 :: .pts b5 (encState1 s) 23 :: .pts b4 (encState1 has) 23 :: .pts r (encRDisk (⟨room, ⟨la, T.length, lc⟩, e, c⟩ : RDisk)) 87 :: .row 89 3 la T.length lc (T.flatMap encRFile) :: RB 5 T :: Δ) (⟨0, none, 0, none, 0, none, 0⟩ : Lp _) (Nat.zero_le _) ?_ ?_ ?_
      · exact .c (.c (.c (.c (.c (.c (.c (.nil _)))))))
      · exact en_
      intro x hx
      refine c_seq ?_
      refine sr ?_
      refine e_mv rfl ?_
      refine e_mv rfl ?_
      refine e_q (q_nilCheck rfl) ?_
      refine e_q (q_fieldp rfl fo_87_1) ?_
      refine e_q (q_loadp (v := .slice la T.length lc) sc_85 rfl pk_ rfl) ?_
      refine e_q (q_len Tryz.underlying85 rfl) ?_
      refine e_q (q_lss rfl rfl) ?_
      refine l_n ?_
      refine c_cond rfl (fun h3 => ?_) (fun h3 => ?_)
      · try simp only [decide_eq_true_eq, decide_eq_false_iff_not] at h3
        refine c_skip ?_
        refine k_then_n ?_
        refine c_seq ?_
        refine c_block ?_
        refine c_region ?_
        refine e_mv rfl ?_
        refine e_mv rfl ?_
        refine l_step (s_qg rfl (ask_f rfl rfl) (b := (!(((T.map (·.Name)).take x.d).any (fun n => decide (n = (othF (rvw T))))))) (fun hb => q_move rfl) ?_)
        refine l_step (s_qg rfl (ask_f rfl rfl) (b := (!(((T.map (·.Name)).take x.d).any (fun n => decide (n = (othF (rvw T))))))) (fun hb => OpQ.env (.cons rfl (gd_t hb) (.nil _) : EnvLe [(51, .pointer (some ⟨r, 0, none⟩))] _) (q_nilCheck rfl)) ?_)
        refine l_step (s_qg rfl (ask_f rfl rfl) (b := (!(((T.map (·.Name)).take x.d).any (fun n => decide (n = (othF (rvw T))))))) (fun hb => OpQ.env (.cons rfl (gd_t hb) (.nil _) : EnvLe [(52, .pointer (some ⟨r, 0, none⟩))] _) (q_fieldp rfl fo_87_1)) ?_)
        refine l_step (s_qg rfl (ask_f rfl rfl) (b := (!(((T.map (·.Name)).take x.d).any (fun n => decide (n = (othF (rvw T))))))) (fun hb => OpQ.env (.cons rfl (gd_t hb) (.nil _) : EnvLe [(53, .pointer (some ⟨r, 1, none⟩))] _) (q_loadp (v := .slice la T.length lc) sc_85 rfl pk_ rfl)) ?_)
        refine l_step (s_qg rfl (ask_f rfl rfl) (b := (!(((T.map (·.Name)).take x.d).any (fun n => decide (n = (othF (rvw T))))))) (fun hb => q_move rfl) ?_)
        refine l_step (s_qg rfl (ask_f rfl rfl) (b := (!(((T.map (·.Name)).take x.d).any (fun n => decide (n = (othF (rvw T))))))) (fun hb => OpQ.env (.cons rfl (gd_t hb) (.cons rfl (gd_t hb) (.nil _)) : EnvLe [(54, .slice la T.length lc), (55, .int .i64 (x.d : Int))] _) (q_indexe x.d Tryz.underlying85 sz_89 rfl rfl (rd_row pk_) (by decide) rfl (by first | assumption | omega | (have hb2 := hb; (try simp only [Bool.and_eq_true, Bool.or_eq_true, Bool.not_eq_true', Bool.and_eq_false_iff, Bool.or_eq_false_iff, Bool.not_eq_false', decide_eq_true_eq, decide_eq_false_iff_not, Bool.not_eq_eq_eq_not, Bool.not_true, Bool.not_false, Bool.not_eq_true, Bool.not_eq_false, beq_iff_eq, bne_iff_ne, ne_eq, Decidable.not_not] at hb2); omega) | (simp only [List.length_cons, List.length_nil]; omega)))) ?_)
        refine l_step (s_qg rfl (ask_f rfl rfl) (b := (!(((T.map (·.Name)).take x.d).any (fun n => decide (n = (othF (rvw T))))))) (fun hb => OpQ.env (.cons rfl (gd_t hb) (.nil _) : EnvLe [(56, pe la x.d 3 0)] _) (q_fielde rfl fo_89_0)) ?_)
        refine l_step (s_qg rfl (ask_f rfl rfl) (b := (!(((T.map (·.Name)).take x.d).any (fun n => decide (n = (othF (rvw T))))))) (fun hb => OpQ.env (.cons rfl (gd_t hb) (.nil _) : EnvLe [(57, pe la x.d 3 0)] _) (q_loade (enc := encRFile) (xs := T) (j := x.d) (off := 0) sc_9 rfl (rd_row pk_) (fun _ => rfl) (by first | assumption | omega | (have hb2 := hb; (try simp only [Bool.and_eq_true, Bool.or_eq_true, Bool.not_eq_true', Bool.and_eq_false_iff, Bool.or_eq_false_iff, Bool.not_eq_false', decide_eq_true_eq, decide_eq_false_iff_not, Bool.not_eq_eq_eq_not, Bool.not_true, Bool.not_false, Bool.not_eq_true, Bool.not_eq_false, beq_iff_eq, bne_iff_ne, ne_eq, Decidable.not_not] at hb2); omega) | (simp only [List.length_cons, List.length_nil]; omega)) (by decide) rfl)) ?_)
        refine l_step (s_qg rfl (ask_f rfl rfl) (b := (!(((T.map (·.Name)).take x.d).any (fun n => decide (n = (othF (rvw T))))))) (fun hb => q_move rfl) ?_)
        refine l_step (s_qg rfl (ask_f rfl rfl) (b := (!(((T.map (·.Name)).take x.d).any (fun n => decide (n = (othF (rvw T))))))) (fun hb => OpQ.env (.cons rfl (gd_t hb) (.cons rfl (gd_t hb) (.nil _)) : EnvLe [(58, (strB ((T.getD x.d default).Name))), (59, (strB (othF (rvw T))))] _) (q_eqlsB (p := (T.getD x.d default).Name) (q := (othF (rvw T))) rfl rfl)) ?_)
        refine e_q (q_pick_or rfl rfl rfl (fun h => by first | (rw [h]; rfl) | exact congrArg not h)) ?_
        refine e_as rfl ?_
        refine l_nil ?_
        refine k_blk_n ?_
        refine k_then_n ?_
        refine c_region ?_
        refine e_mv rfl ?_
        refine e_q (q_add rfl rfl (by omega) (by omega)) ?_
        refine e_as rfl ?_
        refine l_n ?_
        exact t_nx (⟨x.d + 1, none, 0, none, 0, none, 0⟩ : Lp _) ⟨by (try simp only []); omega, by (try simp only []); omega⟩ (.c (.c (.c (.c (.c (.cons rfl (boole (th_next (by omega))) (.c (.nil _))))))))
      · try simp only [decide_eq_true_eq, decide_eq_false_iff_not] at h3
        have hk : x.d = T.length := by omega
        rw [hk, th_all]
        refine c_exit ?_
        refine k_then_x ?_
        refine k_then_x ?_
        refine k_blk_x ?_
        refine k_then_n ?_
        refine c_seq ?_
        refine sr ?_
        refine e_mv rfl ?_
        refine l_n ?_
        refine t_cutq (ι := Option Addr × Nat × RT) (fun z9 => rvw z9.2.2 = (remE e c (rvw T) (othF (rvw T))).2.1 ∧ (remE e c (rvw T) (othF (rvw T))).1 = 0) (fun z9 => [(0, .pointer (some ⟨r, 0, none⟩)), (5, .pointer (some ⟨b5, 0, none⟩)), (8, .int .u64 ((newF (rvw T)).2.1 : Int)), (10, (strB (othF (rvw T))))]) (fun z9 => .pts b9 (encState1 ((newF (rvw T)).2.2)) 23 :: .pts b5 (encState1 s) 23 :: .pts b4 (encState1 has) 23 :: .pts r (encRDisk (⟨room, ⟨z9.1, z9.2.2.length, z9.2.1⟩, e, (remE e c (rvw T) (othF (rvw T))).2.2⟩ : RDisk)) 87 :: .row 89 3 z9.1 z9.2.2.length z9.2.1 (z9.2.2.flatMap encRFile) :: RB 5 z9.2.2 :: Δ) ?_ ?_
        · skip
          refine c_cond rfl (fun h4 => ?_) (fun h4 => ?_)
          · skip
            have hm : mhas (rvw T) (othF (rvw T)) = true := h4
            refine sr ?_
            refine e_mv rfl ?_
            refine e_mv rfl ?_
            refine e_s (s_buildSlice (cs := ([(othF (rvw T))] : List (List UInt8)).flatMap Go.SL.encStr) Tryz.underlying49 eo_9 rfl rfl rfl rfl (by decide) (by decide)) ?_
            rintro _ _ ⟨b65, rfl, rfl⟩
            refine e_fn Tryz.func22 rfl sl_ (fun ρ' hL => Go.Dsk.RD.rremove_spec r room la lc e c T (some ⟨b65, 0, none⟩) 1 1 [(othF (rvw T))] rfl ρ' hT hc hc2 (hL.row pk_)) ?_
            rintro _ _ ⟨a1, c1, T1, rfl, hvT1, rfl⟩
            try simp only [List.cons_append, List.nil_append]
            refine e_as rfl ?_
            refine l_n ?_
            refine sr ?_
            refine e_mv rfl ?_
            refine e_q (q_neq rfl rfl) ?_
            refine l_n ?_
            refine c_cond rfl (fun h5 => ?_) (fun h5 => ?_)
            · try simp only [decide_eq_true_eq, decide_eq_false_iff_not, ne_eq, Decidable.not_not] at h5
              refine sr ?_
              refine e_mv rfl ?_
              refine e_as rfl ?_
              refine l_n ?_
              refine c_ret ?_
              refine k_then_r ?_
              refine k_then_r ?_
              have hr9 : (saveE room e c (rvw T) has s) = ((remR (cI e c) (rvw T) [(othF (rvw T))]).1, (remR (cI e c) (rvw T) [(othF (rvw T))]).2, decR e c) := by rw [sE_rem hbd hse (by rw [rE_has hm]; exact h5), rE_has hm]
              exact t_rt [.pts r (encRDisk (⟨room, ⟨a1, T1.length, c1⟩, e, (decR e c)⟩ : RDisk)) 87, .row 89 3 a1 T1.length c1 (T1.flatMap encRFile), RB 5 T1] rfl (.tmp rfl .nil) rfl ⟨rfl, a1, c1, T1, by rw [hr9]; rfl, by rw [hr9]; exact hvT1, by rw [hr9]⟩
            · try simp only [decide_eq_true_eq, decide_eq_false_iff_not, ne_eq, Decidable.not_not] at h5
              skip
              refine c_skip ?_
              refine k_then_n ?_
              rw [show decR e c = (remE e c (rvw T) (othF (rvw T))).2.2 from by rw [rE_has hm]]
              exact t_nx (a1, c1, T1) ⟨by rw [rE_has hm]; exact hvT1, by rw [rE_has hm]; exact h5⟩ (.c (.c (.c (.c (.nil _)))))
          · skip
            have hm : mhas (rvw T) (othF (rvw T)) = false := h4
            refine c_skip ?_
            refine k_then_n ?_
            refine Tr.ent (Γ' := .pts b9 (encState1 ((newF (rvw T)).2.2)) 23 :: .pts b5 (encState1 s) 23 :: .pts b4 (encState1 has) 23 :: .pts r (encRDisk (⟨room, ⟨la, T.length, lc⟩, e, (remE e c (rvw T) (othF (rvw T))).2.2⟩ : RDisk)) 87 :: .row 89 3 la T.length lc (T.flatMap encRFile) :: RB 5 T :: Δ) (by rw [rE_no hm]; exact en_) ?_
            exact t_nx (la, lc, T) ⟨by rw [rE_no hm], by rw [rE_no hm]⟩ (.c (.c (.c (.c (.nil _)))))
        intro z9 hj4
        obtain ⟨hv9, hRS⟩ := hj4
        have hT9 : VOk (rvw z9.2.2) := by rw [hv9]; exact rE_ok hT
        have hu9 : usedR z9.2.2 ≤ usedR T := by have h9 := rE_used (e := e) (c := c) (V := rvw T) (o := (othF (rvw T))); rw [← hv9, ← usedR_vw, ← usedR_vw] at *; exact h9
        have hU9 : (usedR z9.2.2 : Int) ≤ room := by omega
        have hc9 := rE_c (V := rvw T) (o := (othF (rvw T))) hc
        have hc29 := rE_c2 (e := e) (V := rvw T) (o := (othF (rvw T))) hc2
        have hc39 : decR e (remE e c (rvw T) (othF (rvw T))).2.2 ≤ 9223372036854775807 := Int.le_trans decR_le hc29
        have hsl := slotB_len (cnt := ((newF (rvw T)).2.1 + 1)) (s := s) (by omega) hp3 hp4
        refine k_then_n ?_
        refine sr ?_
        refine e_mv rfl ?_
        refine e_mv rfl ?_
        refine e_mv rfl ?_
        refine e_q (q_as (v := .int .u64 ((((newF (rvw T)).2.1 + 1) : Nat) : Int)) (q_addw rfl rfl) (inte (by rw [wrap_u64 (by omega) (by omega)]; rfl))) ?_
        refine e_q (q_loadpa (vs := encState1 s) ag_23 rfl pk_ rfl) ?_
        refine e_fn Tryz.func38 rfl sl_ (fun ρ' hL => rbytes_spec ((newF (rvw T)).2.1 + 1) s ρ' (by omega) hp1 hp3 hp2 hp4) ?_
        rintro _ _ ⟨aB, cB, rfl, rfl⟩
        try simp only [List.cons_append, List.nil_append]
        refine e_s (s_buildSlice (cs := ([⟨aB, (slotB ((newF (rvw T)).2.1 + 1) s).length, cB⟩] : List SH).flatMap encSH) Tryz.underlying54 eo_38 rfl rfl rfl rfl (by decide) (by decide)) ?_
        rintro _ _ ⟨b76, rfl, rfl⟩
        refine e_fn Tryz.func24 rfl sl_ (fun ρ' hL => Go.Dsk.RE.rappend_spec r room z9.1 z9.2.1 e ((remE e c (rvw T) (othF (rvw T))).2.2) z9.2.2 (othF (rvw T)) (some ⟨b76, 0, none⟩) 1 1 [⟨aB, (slotB ((newF (rvw T)).2.1 + 1) s), cB⟩] rfl ρ' hT9 hc9 hc29 hU9 hr (Nat.le_trans (oth_len _) (by decide)) (by decide) (by show _ + ((slotB ((newF (rvw T)).2.1 + 1) s) ++ []).length ≤ _; rw [List.append_nil]; omega) (hL.row pk_) (by intro q hq; rw [List.mem_singleton.1 hq]; exact hL.row pk_)) ?_
        rintro _ _ ⟨a2, c2, T2, rfl, hvT2, rfl⟩
        try simp only [List.cons_append, List.nil_append]
        have hcat : catS [⟨aB, (slotB ((newF (rvw T)).2.1 + 1) s), cB⟩] = (slotB ((newF (rvw T)).2.1 + 1) s) := by simp [catS]
        rw [hcat, hv9] at hvT2
        rw [hcat, hv9]
        refine e_as rfl ?_
        refine l_n ?_
        refine c_seq ?_
        refine sr ?_
        refine e_mv rfl ?_
        refine e_q (q_neq rfl rfl) ?_
        refine l_n ?_
        refine c_cond rfl (fun h6 => ?_) (fun h6 => ?_)
        · try simp only [decide_eq_true_eq, decide_eq_false_iff_not, ne_eq, Decidable.not_not] at h6
          refine sr ?_
          refine e_mv rfl ?_
          refine e_as rfl ?_
          refine l_n ?_
          refine c_ret ?_
          refine k_then_r ?_
          have hr9 : (saveE room e c (rvw T) has s) = ((appI room (cI e (remE e c (rvw T) (othF (rvw T))).2.2) (remE e c (rvw T) (othF (rvw T))).2.1 (othF (rvw T)) (slotB ((newF (rvw T)).2.1 + 1) s)).1, (appI room (cI e (remE e c (rvw T) (othF (rvw T))).2.2) (remE e c (rvw T) (othF (rvw T))).2.1 (othF (rvw T)) (slotB ((newF (rvw T)).2.1 + 1) s)).2, decR e (remE e c (rvw T) (othF (rvw T))).2.2) := by rw [sE_put hbd hse hRS]; exact if_pos h6
          exact t_rt [.pts r (encRDisk (⟨room, ⟨a2, T2.length, c2⟩, e, (decR e (remE e c (rvw T) (othF (rvw T))).2.2)⟩ : RDisk)) 87, .row 89 3 a2 T2.length c2 (T2.flatMap encRFile), RB 5 T2] rfl (.tmp rfl .nil) rfl ⟨rfl, a2, c2, T2, by rw [hr9]; rfl, by rw [hr9]; exact hvT2, by rw [hr9]⟩
        · try simp only [decide_eq_true_eq, decide_eq_false_iff_not, ne_eq, Decidable.not_not] at h6
          have hTT : VOk (rvw T2) := by rw [hvT2]; exact vok_appI (rE_sim hS) (rE_ok hT) (by have h9 := rE_used (e := e) (c := c) (V := rvw T) (o := (othF (rvw T))); rw [usedR_vw] at h9; omega)
          refine c_skip ?_
          refine k_then_n ?_
          refine sr ?_
          refine e_mv rfl ?_
          refine e_mv rfl ?_
          refine e_s (s_buildSlice (cs := ([(othF (rvw T))] : List (List UInt8)).flatMap Go.SL.encStr) Tryz.underlying49 eo_9 rfl rfl rfl rfl (by decide) (by decide)) ?_
          rintro _ _ ⟨b83, rfl, rfl⟩
          refine e_fn Tryz.func39 rfl sl_ (fun ρ' hL => Go.Dsk.RC.rsync_spec r room a2 c2 e (decR e (remE e c (rvw T) (othF (rvw T))).2.2) T2 (some ⟨b83, 0, none⟩) 1 1 [(othF (rvw T))] rfl ρ' hTT (decR_ok hc9).2 hc39 (hL.row pk_)) ?_
          rintro _ _ ⟨a3, c3, T3, rfl, hvT3, rfl⟩
          try simp only [List.cons_append, List.nil_append]
          rw [hvT2] at hvT3
          rw [hvT2]
          refine e_as rfl ?_
          refine l_n ?_
          refine c_ret ?_
          have hr9 : (saveE room e c (rvw T) has s) = ((syncR (cI e (decR e (remE e c (rvw T) (othF (rvw T))).2.2)) (appI room (cI e (remE e c (rvw T) (othF (rvw T))).2.2) (remE e c (rvw T) (othF (rvw T))).2.1 (othF (rvw T)) (slotB ((newF (rvw T)).2.1 + 1) s)).2 [(othF (rvw T))]).1, (syncR (cI e (decR e (remE e c (rvw T) (othF (rvw T))).2.2)) (appI room (cI e (remE e c (rvw T) (othF (rvw T))).2.2) (remE e c (rvw T) (othF (rvw T))).2.1 (othF (rvw T)) (slotB ((newF (rvw T)).2.1 + 1) s)).2 [(othF (rvw T))]).2, decR e (decR e (remE e c (rvw T) (othF (rvw T))).2.2)) := by rw [sE_put hbd hse hRS]; exact if_neg (fun k => k (by omega))
          exact t_rt [.pts r (encRDisk (⟨room, ⟨a3, T3.length, c3⟩, e, (decR e (decR e (remE e c (rvw T) (othF (rvw T))).2.2))⟩ : RDisk)) 87, .row 89 3 a3 T3.length c3 (T3.flatMap encRFile), RB 5 T3] rfl (.tmp rfl .nil) rfl ⟨rfl, a3, c3, T3, by rw [hr9]; rfl, by rw [hr9]; exact hvT3, by rw [hr9]⟩
end Go.HrdR

/-
  A saving on both disks. No program in sight.
-/
set_option linter.unusedVariables false
set_option linter.unusedSimpArgs false
namespace Go.Hrd
open Go Go.SL Go.Mou Go.Dsk Go.Sm
section
variable {room calls c : Int} {e : Bool} {V L : FV} {h s : State1} {o : Nm} {b : List UInt8}
theorem alike_rem (hs : Sim V L) (hcal : calls = cI e c) (hc : e = true → 0 ≤ c) : (remS calls V o).1 = (remE e c L o).1 ∧ Sim (remS calls V o).2.1 (remE e c L o).2.1 ∧ (remS calls V o).2.2 = cI e (remE e c L o).2.2 := by
  subst hcal
  cases hm : mhas L o with
  | true =>
    rw [remS_has (by rw [hs.has]; exact hm), rE_has hm]
    exact ⟨(sim_rem hs [o]).1, (sim_rem hs [o]).2, (decR_ok hc).1.symm⟩
  | false =>
    rw [remS_no (by rw [hs.has]; exact hm), rE_no hm]
    exact ⟨rfl, hs, rfl⟩
theorem alike_put (hs : Sim V L) (hcal : calls = cI e c) (hc : e = true → 0 ≤ c) : (putS room calls V o b h s).1 = (putE room e c L o b).1 ∧ Sim (putS room calls V o b h s).2.1 (putE room e c L o b).2.1 ∧ (putS room calls V o b h s).2.2.1 = cI e (putE room e c L o b).2.2 ∧ (putS room calls V o b h s).2.2.2 = if (putS room calls V o b h s).1 = 0 then s else h := by
  subst hcal
  obtain ⟨a1, a2⟩ := sim_app (room := room) (calls := cI e c) hs o b
  have d1 := decR_ok hc
  have d2 := decR_ok d1.2
  by_cases h0 : (appI room (cI e c) L o b).1 = 0
  · have h0' : (appR room (cI e c) V o b).1 = 0 := a1.trans h0
    obtain ⟨y1, y2⟩ := sim_sync (calls := decC (cI e c)) a2 [o]
    have hE : putE room e c L o b = ((syncR (cI e (decR e c)) (appI room (cI e c) L o b).2 [o]).1, (syncR (cI e (decR e c)) (appI room (cI e c) L o b).2 [o]).2, decR e (decR e c)) := if_neg (fun k => k h0)
    rw [hE, d1.1]
    by_cases h1 : (syncR (decC (cI e c)) (appR room (cI e c) V o b).2 [o]).1 = 0
    · rw [put_yes h0' h1]
      exact ⟨by rw [← y1, h1], y2, by rw [d2.1, d1.1], by rw [if_pos rfl]⟩
    · rw [put_syn h0' h1]
      exact ⟨y1, y2, by rw [d2.1, d1.1], by rw [if_neg h1]⟩
  · have h0' : (appR room (cI e c) V o b).1 ≠ 0 := by rw [a1]; exact h0
    have hE : putE room e c L o b = ((appI room (cI e c) L o b).1, (appI room (cI e c) L o b).2, decR e c) := if_pos h0
    rw [hE, put_app h0']
    exact ⟨a1, a2, d1.1.symm, by rw [if_neg h0']⟩
theorem save_alike (hs : Sim V L) (hcal : calls = cI e c) (hc : e = true → 0 ≤ c) : (saveP room calls V h s).1 = (saveE room e c L h s).1 ∧ Sim (saveP room calls V h s).2.1 (saveE room e c L h s).2.1 ∧ (saveP room calls V h s).2.2.1 = cI e (saveE room e c L h s).2.2 ∧ (saveP room calls V h s).2.2.2 = if (saveP room calls V h s).1 = 0 then s else h := by
  cases hb : badS h s with
  | true => rw [save_bad hb, sE_bad hb]; exact ⟨rfl, hs, hcal, rfl⟩
  | false =>
    by_cases he : s = h
    · rw [save_same hb he, sE_same hb he]; exact ⟨rfl, hs, hcal, by rw [if_pos rfl, he]⟩
    · rw [save_go hb he, alike_oth hs, alike_new hs]
      obtain ⟨r1, r2, r3⟩ := alike_rem (o := othF L) hs hcal hc
      by_cases h0 : (remE e c L (othF L)).1 = 0
      · rw [sE_put hb he h0, save_put (r1.trans h0)]
        exact alike_put r2 r3 (rE_c hc)
      · have h0' : (remS calls V (othF L)).1 ≠ 0 := by rw [r1]; exact h0
        rw [sE_rem hb he h0, save_rem h0']
        exact ⟨r1, r2, r3, by rw [if_neg h0']⟩
end
end Go.Hrd

/-
  Steps on both disks that keep them alike. No program in sight.
-/
set_option linter.unusedVariables false
set_option linter.unusedSimpArgs false
namespace Go.Hrd
open Go Go.SL Go.Mou Go.Dsk Go.Sm
structure Alike (room calls : Int) (e : Bool) (c : Int) (V L : FV) (n : Nat) : Prop where
  sim : Sim V L
  cl : cI e c = calls
  ce : e = true → 0 ≤ c
  cb : c ≤ 9223372036854775807
  lim : Lim V n
  us : (usedV V : Int) ≤ room
theorem used_mono_le {V W : FV} {room : Int} (h : usedV W ≤ usedV V) (hr : (usedV V : Int) ≤ room) : (usedV W : Int) ≤ room := by omega
theorem lim_self {V : FV} (h : VOk V) : Lim V (usedV V) := ⟨h, Nat.le_refl _, h.us⟩
section
variable {room calls c : Int} {e : Bool} {V L : FV} {h s : State1} {o : Nm} {b : List UInt8} {n : Nat}
theorem lim_remS (hl : Lim V n) : Lim (remS calls V o).2.1 n := by
  unfold remS
  split
  · exact lim_rem hl
  · exact hl
theorem us_remS (hu : (usedV V : Int) ≤ room) : (usedV (remS calls V o).2.1 : Int) ≤ room := used_mono_le (remS_used calls V o) hu
theorem lim_putS (hl : Lim V n) (hb : n + b.length ≤ 1000000000000) : Lim (putS room calls V o b h s).2.1 (n + b.length) := by
  unfold putS
  split
  · exact lim_app hl hb
  · split
    · exact lim_sync (lim_app hl hb)
    · exact lim_sync (lim_app hl hb)
theorem us_putS (hV : VOk V) (hw : usedV V + b.length ≤ 1000000000000) (hu : (usedV V : Int) ≤ room) : (usedV (putS room calls V o b h s).2.1 : Int) ≤ room := by
  have h1 : (usedV (appR room calls V o b).2 : Int) ≤ room := used_app_room hu
  have h2 := lim_self (vok_app (room := room) (calls := calls) (name := o) (more := b) hV hw)
  unfold putS
  split
  · exact h1
  · split
    · exact used_mono_le (lim_sync h2).us h1
    · exact used_mono_le (lim_sync h2).us h1
theorem lim_saveP (hl : Lim V n) (hn : n + 31 ≤ 1000000000000) (hu : (usedV V : Int) ≤ room) : Lim (saveP room calls V h s).2.1 (n + 31) ∧ (usedV (saveP room calls V h s).2.1 : Int) ≤ room := by
  have hl' : Lim V (n + 31) := lim_le hl (by omega) hn
  cases hb : badS h s with
  | true => rw [save_bad hb]; exact ⟨hl', hu⟩
  | false =>
    by_cases he : s = h
    · rw [save_same hb he]; exact ⟨hl', hu⟩
    · rw [save_go hb he]
      obtain ⟨p1, p2, p3, p4⟩ := fol_pos hb
      have hnl := new_lt V
      have hsl := slotB_len (cnt := (newF V).2.1 + 1) (s := s) (by omega) p3 p4
      have r1 := lim_remS (calls := calls) (o := othF V) hl
      have r2 := us_remS (calls := calls) (o := othF V) hu
      by_cases h0 : (remS calls V (othF V)).1 = 0
      · rw [save_put h0]
        have hw := r1.us
        exact ⟨lim_le (lim_putS r1 (by omega)) (by omega) hn, us_putS r1.ok (by omega) r2⟩
      · rw [save_rem h0]
        exact ⟨lim_le r1 (by omega) hn, r2⟩
theorem saveE_cb (hc : c ≤ 9223372036854775807) : (saveE room e c L h s).2.2 ≤ 9223372036854775807 := by
  unfold saveE
  split
  · exact hc
  · split
    · exact hc
    · split
      · exact rE_c2 hc
      · unfold putE
        split
        · exact Int.le_trans decR_le (rE_c2 hc)
        · exact Int.le_trans decR_le (Int.le_trans decR_le (rE_c2 hc))
theorem saveE_ce (hc : e = true → 0 ≤ c) : e = true → 0 ≤ (saveE room e c L h s).2.2 := by
  unfold saveE
  split
  · exact hc
  · split
    · exact hc
    · split
      · exact rE_c hc
      · unfold putE
        split
        · exact (decR_ok (rE_c hc)).2
        · exact (decR_ok (decR_ok (rE_c hc)).2).2
theorem al_save (ha : Alike room calls e c V L n) (hn : n + 31 ≤ 1000000000000) : (saveP room calls V h s).1 = (saveE room e c L h s).1 ∧ (saveP room calls V h s).2.2.2 = (if (saveP room calls V h s).1 = 0 then s else h) ∧
    Alike room (saveP room calls V h s).2.2.1 e (saveE room e c L h s).2.2 (saveP room calls V h s).2.1 (saveE room e c L h s).2.1 (n + 31) := by
  obtain ⟨a1, a2, a3, a4⟩ := save_alike (room := room) (h := h) (s := s) ha.sim ha.cl.symm ha.ce
  obtain ⟨b1, b2⟩ := lim_saveP (room := room) (calls := calls) (h := h) (s := s) ha.lim hn ha.us
  exact ⟨a1, a4, a2, a3.symm, saveE_ce ha.ce, saveE_cb ha.cb, b1, b2⟩
theorem al_rem (ha : Alike room calls e c V L n) (ns : List Nm) : Alike room (decC calls) e (decR e c) (remR calls V ns).2 (remR (cI e c) L ns).2 n := by
  obtain ⟨sim, cl, ce, cb, lim, us⟩ := ha
  subst cl
  have hd := decR_ok ce
  exact ⟨(sim_rem sim ns).2, hd.1, hd.2, Int.le_trans decR_le cb, lim_rem lim, used_mono_le (lim_rem (lim_self lim.ok)).us us⟩
theorem al_app (ha : Alike room calls e c V L n) (hn : n + b.length ≤ 1000000000000) : Alike room (decC calls) e (decR e c) (appR room calls V o b).2 (appI room (cI e c) L o b).2 (n + b.length) := by
  obtain ⟨sim, cl, ce, cb, lim, us⟩ := ha
  subst cl
  have hd := decR_ok ce
  exact ⟨(sim_app sim o b).2, hd.1, hd.2, Int.le_trans decR_le cb, lim_app lim hn, used_app_room us⟩
theorem al_cr (ha : Alike room calls e c V L n) (keep : List Int) : Alike room (-1) false c (crR keep V).1 (crK keep (mkeys L) L L.length).1 n := by
  obtain ⟨sim, cl, ce, cb, lim, us⟩ := ha
  exact ⟨(sim_cr sim keep).2, rfl, (fun h => by cases h), cb, lim_cr lim, used_mono_le (lim_cr (lim_self lim.ok)).us us⟩
theorem al_on (ha : Alike room calls e c V L n) : newF V = newF L := alike_new ha.sim
end
end Go.Hrd

/-
  A stop keeps both disks alike; what the walk of HardSaves wants. No program in sight.
-/
set_option linter.unusedVariables false
set_option linter.unusedSimpArgs false
namespace Go.Hrd
open Go Go.SL Go.Mou Go.Dsk Go.Sm
section
variable {room calls c : Int} {e : Bool} {V L : FV} {n : Nat}
theorem al_stop (ha : Alike room calls e c V L n) {k : Int} (hk : k ≤ 9223372036854775807) : Alike room (if (-1) > k then (-1) else k) (decide (0 ≤ k)) k V L n := by
  refine ⟨ha.sim, ?_, fun h => of_decide_eq_true h, hk, ha.lim, ha.us⟩
  unfold cI
  by_cases h7 : 0 ≤ k
  · rw [decide_eq_true h7, if_pos rfl, if_neg (by omega)]
  · rw [decide_eq_false h7]
    simp only [Bool.false_eq_true, if_false]
    split <;> omega
theorem al_le (ha : Alike room calls e c V L n) {m : Nat} (h : n ≤ m) (hm : m ≤ 1000000000000) : Alike room calls e c V L m := ⟨ha.sim, ha.cl, ha.ce, ha.cb, lim_le ha.lim h hm, ha.us⟩
theorem al_to {V' L' : FV} (hv : V' = V) (hw : L' = L) (ha : Alike room calls e c V L n) : Alike room calls e c V' L' n := by rw [hv, hw]; exact ha
theorem al_cb (ha : Alike room calls e c V L n) : calls ≤ 9223372036854775807 := by
  have h1 := ha.cl; have h2 := ha.cb
  unfold cI at h1
  split at h1 <;> omega
theorem name_two {l : List Nm} (h : ∀ x ∈ l, x.length ≤ 32) (j : Nat) : (l.getD j default).length ≤ 32 := by
  by_cases hj : j < l.length
  · exact h _ (getD_in hj)
  · simp only [List.getD, List.getElem?_eq_none (Nat.le_of_not_lt hj), Option.getD_none]; decide
theorem sim_right (h : Sim V L) : Sim L L := ⟨h.nl, h.nl, h.so, fun _ => rfl⟩
theorem sim_nil_ : Sim [] [] := ⟨List.nodup_nil, List.nodup_nil, List.Pairwise.nil, fun _ => rfl⟩
theorem two_mod (n : Int) : 0 ≤ ((n.tmod 2) + 2).tmod 2 ∧ ((n.tmod 2) + 2).tmod 2 < 2 ∧ -2 < n.tmod 2 ∧ n.tmod 2 < 2 := by
  have h1 := Int.tmod_lt_of_pos n (show (0 : Int) < 2 by decide)
  have h2 := Int.lt_tmod_of_pos n (show (0 : Int) < 2 by decide)
  have h3 := Int.tmod_nonneg 2 (show (0 : Int) ≤ n.tmod 2 + 2 by omega)
  have h4 := Int.tmod_lt_of_pos (n.tmod 2 + 2) (show (0 : Int) < 2 by decide)
  omega
end
end Go.Hrd

/-
  Package disk, walked.
-/
import Derived.Test.YtehaoafnobnneaaGreatDoorDskS
import Derived.Test.YtehaoafnobnneaaGreatDoorDskO
import Derived.Test.YtehaoafnobnneaaGreatDoorDskL
import Derived.Test.YtehaoafnobnneaaGreatDoorProg
import Derived.Test.YtehaoafnobnneaaGreatDoorSlSq
set_option maxRecDepth 100000
set_option maxHeartbeats 4000000
set_option linter.unusedSimpArgs false
set_option linter.unusedVariables false
namespace Go.Dsk.R
open Go Go.SL Go.Proofs Go.Dsk Go.Dsk.L Go.Dsk.X
attribute [local irreducible] Go.SL.Ent
theorem fo_105_1 : fieldOff Tryz.prog 105 1 = some (1, 103) := by kernel_rfl
theorem sc_103 : isScalar Tryz.prog 103 = true := by kernel_rfl
theorem sc_9 : isScalar Tryz.prog 9 = true := by kernel_rfl
theorem sz_9 : sizeIs Tryz.prog 9 = some 1 := by kernel_rfl

theorem remove_spec (b : Nat) (room : Int) (mb : Nat) (calls : Int) (T : FT) (names_a : Option Addr) (names_n names_c : Nat) (names : List (List UInt8)) (hnames_n : names.length = names_n) (ρ : Hp) (hT : FOk T) (hc : calls ≤ 9223372036854775807) (hnb : names_n ≤ 1000000000) (hro : Ro ρ 1 names_a names_n names_c (names.flatMap Go.SL.encStr)) : Spec0 Tryz.prog 21 #[.pointer (some ⟨b, 0, none⟩), .slice names_a names_n names_c] ρ [.pts b (encDisk1 (⟨room, (some mb), calls⟩ : Disk1)) 105, MP strB ptV mb (fm T), FB 109 5 T] (fun v Γ' => ∃ T', v = .int .i64 (remR calls (vw T) names).1 ∧ vw T' = (remR calls (vw T) names).2 ∧ Γ' = [.pts b (encDisk1 (⟨room, (some mb), (decC calls)⟩ : Disk1)) 105, MP strB ptV mb (fm T'), FB 109 5 T']) := by
  refine spec_of (n := 37) (vs := [_, _]) (σ := [(0, _), (1, _)]) Tryz.func21 rfl rfl rfl rfl fun E Δ => ?_
  simp only [List.cons_append, List.nil_append]
  refine sr ?_
  refine e_as rfl ?_
  refine l_n ?_
  refine c_seq ?_
  refine sr ?_
  refine e_mv rfl ?_
  refine e_fn Tryz.func48 rfl sl_ (fun ρ' hL => stopped_spec b room mb calls T ρ' (by first | assumption | omega)) ?_
  rintro _ _ ⟨rfl, rfl⟩
  try simp only [List.cons_append, List.nil_append]
  refine l_n ?_
  refine c_cond rfl (fun h0 => ?_) (fun h0 => ?_)
  · try simp only [decide_eq_true_eq, decide_eq_false_iff_not] at h0
    refine sr ?_
    refine e_as rfl ?_
    refine l_n ?_
    refine c_ret ?_
    refine k_then_r ?_
    have hr : (remR calls (vw T) names) = (32, vw T) := if_pos h0
    exact t_rt [.pts b (encDisk1 (⟨room, (some mb), (decC calls)⟩ : Disk1)) 105, MP strB ptV mb (fm T), FB 109 5 T] rfl (.tmp rfl .nil) rfl ⟨rfl, T, by rw [hr]; rfl, by rw [hr], rfl⟩
  · try simp only [decide_eq_true_eq, decide_eq_false_iff_not] at h0
    refine c_skip ?_
    refine k_then_n ?_
    refine sr ?_
    refine e_mv rfl ?_
    refine e_fn Tryz.func51 rfl sl_ (fun ρ' hL => S.values_spec names_a names_n names_c ρ') ?_
    rintro _ _ ⟨bv, rfl, rfl⟩
    try simp only [List.cons_append, List.nil_append]
    refine e_fn Tryz.func50 rfl sl_ (fun ρ' hL => S.sortedV_spec bv names_a names_n names_c names ρ' hnames_n (hL.ro hro) hnb) ?_
    rintro _ _ ⟨aS, cS, rfl, rfl⟩
    try simp only [List.cons_append, List.nil_append]
    refine e_fn Tryz.func49 rfl sl_ (fun ρ' hL => compact_s compA aS names_n cS (sortS names) ((sortS_len names).trans hnames_n) hnb ρ') ?_
    rintro _ _ ⟨rfl, rfl⟩
    try simp only [List.cons_append, List.nil_append]
    refine e_as rfl ?_
    refine l_n ?_
    refine c_seq ?_
    refine sr ?_
    refine e_mv rfl ?_
    refine e_mv rfl ?_
    refine l_step (s_fnr rfl wn Tryz.func52 rfl (by kernel_rfl) rfl sl_ (fun ρ' hL => there_spec b room mb (decC calls) T names_a names_n names_c names (by first | rfl | assumption | (simp; done) | (simp <;> omega) | omega) ρ' (by first | exact hL.ro (by assumption) | exact hL.row pk_ | assumption)) ?_)
    refine e_q (q_not rfl) ?_
    refine e_mv rfl ?_
    refine l_step (s_qg rfl (ask_f rfl rfl) (b := (!(!((names.all (mhas (vw T))))))) (fun hb => q_move rfl) ?_)
    refine l_step (s_qg rfl (ask_f rfl rfl) (b := (!(!((names.all (mhas (vw T))))))) (fun hb => OpQ.env (.cons rfl (gd_t hb) (.nil _) : EnvLe [(19, .slice aS ((Lib.compact (sortS names)).length) cS)] _) (q_len Tryz.underlying49 rfl)) ?_)
    refine l_step (s_qg rfl (ask_f rfl rfl) (b := (!(!((names.all (mhas (vw T))))))) (fun hb => q_move rfl) ?_)
    refine l_step (s_qg rfl (ask_f rfl rfl) (b := (!(!((names.all (mhas (vw T))))))) (fun hb => OpQ.env (.cons rfl (gd_t hb) (.nil _) : EnvLe [(21, .slice names_a names_n names_c)] _) (q_len Tryz.underlying49 rfl)) ?_)
    refine l_step (s_qg rfl (ask_f rfl rfl) (b := (!(!((names.all (mhas (vw T))))))) (fun hb => OpQ.env (.cons rfl (gd_t hb) (.cons rfl (gd_t hb) (.nil _)) : EnvLe [(20, .int .i64 ((Lib.compact (sortS names)).length : Int)), (22, .int .i64 (names_n : Int))] _) (q_lss rfl rfl)) ?_)
    refine e_q (q_pick_or rfl rfl rfl (fun h => by first | (rw [h]; rfl) | exact congrArg not h)) ?_
    refine l_n ?_
    have hcm : decide (((Lib.compact (sortS names)).length : Int) < (names_n : Int)) = !onceB names := by rw [← once_eq, hnames_n]; exact decide_eq_decide.2 (by omega)
    rw [hcm]
    refine c_cond rfl (fun h1 => ?_) (fun h1 => ?_)
    · skip
      have hq := h1
      refine sr ?_
      refine e_as rfl ?_
      refine l_n ?_
      refine c_ret ?_
      refine k_then_r ?_
      have hr : (remR calls (vw T) names) = (30, vw T) := by unfold remR; rw [if_neg h0, if_pos hq]
      exact t_rt [.pts b (encDisk1 (⟨room, (some mb), (decC calls)⟩ : Disk1)) 105, MP strB ptV mb (fm T), FB 109 5 T] rfl (.tmp rfl .nil) rfl ⟨rfl, T, by rw [hr]; rfl, by rw [hr], rfl⟩
    · skip
      have hq := h1
      refine c_skip ?_
      refine k_then_n ?_
      refine c_seq ?_
      refine sr ?_
      refine e_mv rfl ?_
      refine e_q (q_len Tryz.underlying49 rfl) ?_
      refine e_mv rfl ?_
      refine l_n ?_
      refine c_block ?_
      refine Tr.env (σ' := [(0, _), (4, _), (25, _), (26, _), (27, _)]) ev_ ?_
      refine t_loop (ι := Lp (Nat)) (fun x => x.d ≤ names_n) (fun x => names_n - x.d) (fun x => [(0, .pointer (some ⟨b, 0, none⟩)), (4, .int .i64 0), (25, .slice names_a names_n names_c), (26, .int .i64 (names_n : Int)), (27, .int .i64 (x.d : Int))]) (fun x => .pts b (encDisk1 (⟨room, (some mb), (decC calls)⟩ : Disk1)) 105 :: MP strB ptV mb (fm ((names.take x.d).foldl delT T)) :: FB 109 5 ((names.take x.d).foldl delT T) :: Δ) (⟨0, none, 0, none, 0, none, 0⟩ : Lp _) (Nat.zero_le _) ?_ ?_ ?_
      · exact .c (.c (.c (.c (.c (.nil _)))))
      · exact en_
      intro x hx
      refine sr ?_
      refine e_q (q_lss rfl rfl) ?_
      refine l_n ?_
      refine c_seq ?_
      refine c_cond rfl (fun h2 => ?_) (fun h2 => ?_)
      · try simp only [decide_eq_true_eq, decide_eq_false_iff_not] at h2
        refine c_skip ?_
        refine k_then_n ?_
        refine c_seq ?_
        refine c_block ?_
        refine sr ?_
        refine e_q (q_indexe x.d Tryz.underlying49 sz_9 rfl rfl (by first | assumption | exact rd_ro (by assumption) | exact rd_row pk_) (by decide) rfl (by first | assumption | omega | (simp only [List.length_cons, List.length_nil]; omega))) ?_
        refine e_q (q_loade (enc := Go.SL.encStr) (xs := names) (j := x.d) (off := 0) sc_9 rfl (by first | assumption | exact rd_ro (by assumption) | exact rd_row pk_) (fun _ => rfl) (by first | assumption | omega | (simp only [List.length_cons, List.length_nil]; omega)) (by decide) rfl) ?_
        refine e_as rfl ?_
        refine l_n ?_
        refine c_region ?_
        refine e_mv rfl ?_
        refine e_q (q_nilCheck rfl) ?_
        refine e_q (q_fieldp rfl fo_105_1) ?_
        refine e_q (q_loadp (v := .map (some mb)) sc_103 rfl pk_ rfl) ?_
        refine e_mv rfl ?_
        refine l_step (s_s0 wn (s_mdel (ek := strB) (ev := ptV) (k := (names.getD x.d default)) (m' := (mdel (fm ((names.take x.d).foldl delT T)) (names.getD x.d default))) Tryz.underlying103 (mkey_str Tryz.underlying9) rfl rfl rfl pk_) ?_)
        rintro _ _ ⟨rfl, rfl⟩
        refine l_nil ?_
        refine k_blk_n ?_
        refine k_then_n ?_
        refine c_region ?_
        refine e_q (q_add rfl rfl (by omega) (by omega)) ?_
        refine e_mv rfl ?_
        refine l_n ?_
        have hn9 : delT ((names.take x.d).foldl delT T) (names.getD x.d default) = ((names.take (x.d + 1)).foldl delT T) := (foldl_take _ _ _ _ (by omega)).symm
        rw [← fm_delT, hn9]
        refine Tr.ent (file_del (t := 109) (tb := 5) (names.getD x.d default) pk_) ?_
        rw [hn9]
        exact t_nx (⟨x.d + 1, none, 0, none, 0, none, 0⟩ : Lp _) ⟨by (try simp only []); omega, by (try simp only []); omega⟩ (.c (.c (.c (.c (.c (.nil _))))))
      · try simp only [decide_eq_true_eq, decide_eq_false_iff_not] at h2
        refine c_exit ?_
        refine k_then_x ?_
        refine k_then_x ?_
        refine k_blk_x ?_
        refine k_then_n ?_
        refine sr ?_
        refine e_as rfl ?_
        refine l_n ?_
        refine c_ret ?_
        have hk : x.d = names.length := by omega
        rw [hk, List.take_length]
        have hr : (remR calls (vw T) names) = (0, vw (names.foldl delT T)) := by unfold remR; rw [if_neg h0, if_neg (by rw [hq]; decide), vw_foldl]
        exact t_rt [.pts b (encDisk1 (⟨room, (some mb), (decC calls)⟩ : Disk1)) 105, MP strB ptV mb (fm (names.foldl delT T)), FB 109 5 (names.foldl delT T)] rfl (.tmp rfl .nil) rfl ⟨rfl, (names.foldl delT T), by rw [hr]; rfl, by rw [hr], rfl⟩
end Go.Dsk.R

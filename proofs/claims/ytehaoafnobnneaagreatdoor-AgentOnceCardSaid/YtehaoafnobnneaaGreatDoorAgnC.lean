/-
  Walked.
-/
import Derived.Test.YtehaoafnobnneaaGreatDoorAgnB
import Derived.Test.YtehaoafnobnneaaGreatDoorProg
set_option maxRecDepth 100000
set_option maxHeartbeats 4000000
set_option linter.unusedSimpArgs false
set_option linter.unusedVariables false
namespace Go.Agn
open Go Go.SL Go.Proofs Go.Mou Go.Dsk Go.Hrd
attribute [local irreducible] Go.SL.Ent
theorem fo_81_1 : fieldOff Tryz.prog 81 1 = some (6, 29) := by kernel_rfl
theorem sc_29 : isScalar Tryz.prog 29 = true := by kernel_rfl
theorem eo_9 : elemOk Tryz.prog 9 1 16 = true := by kernel_rfl
theorem fo_81_5 : fieldOff Tryz.prog 81 5 = some (10, 4) := by kernel_rfl
theorem sz_4 : sizeIs Tryz.prog 4 = some 1 := by kernel_rfl
theorem fo_81_0 : fieldOff Tryz.prog 81 0 = some (0, 79) := by kernel_rfl
theorem sc_4 : isScalar Tryz.prog 4 = true := by kernel_rfl
theorem fo_81_2 : fieldOff Tryz.prog 81 2 = some (7, 3) := by kernel_rfl
theorem eo_69 : elemOk Tryz.prog 69 4 32 = true := by kernel_rfl
theorem fo_81_4 : fieldOff Tryz.prog 81 4 = some (9, 3) := by kernel_rfl

theorem write_spec (b : Nat) (room : Int) (mb : Nat) (calls : Int) (T : FT) (a : Nat) (k : Kept1) (cl work w : Int) (dn : Bool) (o : (List UInt8)) (k2 : Kept1) (ρ : Hp) (hT : FOk T) (hU : (usedT T : Int) ≤ room) (hr : room ≤ 9223372036854775807) (hc : calls ≤ 9223372036854775807) (hus : usedT T ≤ 900000000000) (hk : KOk k2) (ho : o.length ≤ 32) : Spec0 Tryz.prog 90 #[.pointer (some ⟨a, 0, none⟩), (strB o), .agg (encKept1 k2).toArray] ρ [.pts a (encAgent1 (⟨k, (some b), cl, work, w, dn⟩ : Agent1)) 81, .pts b (encDisk1 (⟨room, (some mb), calls⟩ : Disk1)) 105, MP strB ptV mb (fm T), FB 109 5 T] (fun v Γ' => ∃ T', v = .int .i64 (wrS room calls (vw T) o (rowK k2)).1 ∧ vw T' = (wrS room calls (vw T) o (rowK k2)).2.1 ∧ Γ' = [.pts a (encAgent1 (⟨k, (some b), cl, work, w, dn⟩ : Agent1)) 81, .pts b (encDisk1 (⟨room, (some mb), (wrS room calls (vw T) o (rowK k2)).2.2⟩ : Disk1)) 105, MP strB ptV mb (fm T'), FB 109 5 T']) := by
  refine spec_of (n := 27) (vs := [_, _, _]) (σ := [(0, _), (1, _), (2, _)]) Tryz.func90 rfl rfl rfl rfl fun E Δ => ?_
  simp only [List.cons_append, List.nil_append]
  have hrl := rowK_le hk
  refine sr ?_
  refine e_s (s_box (cs := encKept1 k2) rfl rfl) ?_
  rintro _ _ ⟨b5, rfl, rfl⟩
  refine e_as rfl ?_
  refine l_n ?_
  refine c_seq ?_
  refine c_seq ?_
  refine d_r 10 [] ?_
  refine d_t 0 rfl wn (q_move rfl) ?_
  refine d_t 1 rfl wn (q_nilCheck rfl) ?_
  refine d_t 2 rfl wn (q_fieldp rfl fo_81_1) ?_
  refine d_t 4 rfl wn (q_move rfl) ?_
  refine d_2 3 5 ?_ ?_
  · skip
    refine o_step rfl (s_q rfl wn (q_loadp (v := .pointer (some ⟨b, 0, none⟩)) sc_29 rfl pk_ rfl) ?_)
    refine d_c ?_
    refine d_1 5 ?_
    refine o_step rfl (s_q rfl wn (q_loadpa (vs := encKept1 k2) ag_79 rfl pk_ rfl) ?_)
    refine d_c ?_
    refine d_1 6 ?_
    refine o_step rfl (s_fnb rfl wn Tryz.func116 rfl (by kernel_rfl) rfl sl_ (fun ρ' hL => row_spec k2 ρ' hk) ?_)
    rintro _ _ ⟨aK, cK, rfl, rfl⟩
    try simp only [List.cons_append, List.nil_append]
    refine d_c ?_
    refine d_1 7 ?_
    refine o_step rfl (s_s rfl wn (s_buildSlice (cs := ([(⟨aK, (rowK k2), cK⟩ : SL UInt8)] : List (SL UInt8)).flatMap encSL) Tryz.underlying54 eo_38 rfl rfl rfl rfl (by decide) (by decide)) ?_)
    rintro _ _ ⟨b15, rfl, rfl⟩
    refine d_c ?_
    refine d_1 8 ?_
    refine o_step rfl (s_fnb rfl wn Tryz.func23 rfl (by kernel_rfl) rfl sl_ (fun ρ' hL => Go.Dsk.Y.append_spec b room mb calls T o (some ⟨b15, 0, none⟩) 1 1 [⟨aK, (rowK k2), cK⟩] rfl ρ' hT hU hr hc (Nat.le_trans ho (by decide)) (by decide) (by show _ + ((rowK k2) ++ []).length ≤ _; rw [List.append_nil]; omega) (hL.row pk_) (by intro s hs; rw [List.mem_singleton.1 hs]; exact hL.row pk_)) ?_)
    rintro _ _ ⟨T1, rfl, hvT1, rfl⟩
    try simp only [List.cons_append, List.nil_append]
    have hcat : (([⟨aK, (rowK k2), cK⟩] : List (SL UInt8)).flatMap fun x : SL UInt8 => x.xs) = (rowK k2) := by simp
    rw [hcat] at hvT1
    rw [hcat]
    refine d_c ?_
    refine d_t 9 rfl wn (q_assign rfl) ?_
    refine d_d ?_
    refine k_then_n ?_
    refine sr ?_
    refine e_mv rfl ?_
    refine e_q (q_neq rfl rfl) ?_
    refine l_n ?_
    refine c_cond rfl (fun h0 => ?_) (fun h0 => ?_)
    · try simp only [decide_eq_true_eq, decide_eq_false_iff_not, ne_eq, Decidable.not_not] at h0
      refine sr ?_
      refine e_mv rfl ?_
      refine e_as rfl ?_
      refine l_n ?_
      refine c_ret ?_
      refine k_then_r ?_
      have hr9 := wr_er (room := room) (calls := calls) (V := vw T) (o := o) (b := (rowK k2)) h0
      exact t_rt [.pts a (encAgent1 (⟨k, (some b), cl, work, w, dn⟩ : Agent1)) 81, .pts b (encDisk1 (⟨room, (some mb), (decC calls)⟩ : Disk1)) 105, MP strB ptV mb (fm T1), FB 109 5 T1] rfl (.tmp rfl .nil) rfl ⟨rfl, T1, by rw [hr9]; rfl, by rw [hr9]; exact hvT1, by rw [hr9]⟩
    · try simp only [decide_eq_true_eq, decide_eq_false_iff_not, ne_eq, Decidable.not_not] at h0
      have hT1 : FOk T1 := fok_of hvT1 (vok_app (fok.1 hT) (by rw [used_vw]; omega))
      refine c_skip ?_
      refine k_then_n ?_
      refine sr ?_
      refine e_mv rfl ?_
      refine e_q (q_nilCheck rfl) ?_
      refine e_q (q_fieldp rfl fo_81_1) ?_
      refine e_q (q_loadp (v := .pointer (some ⟨b, 0, none⟩)) sc_29 rfl pk_ rfl) ?_
      refine e_mv rfl ?_
      refine e_s (s_buildSlice (cs := ([o] : List (List UInt8)).flatMap Go.SL.encStr) Tryz.underlying49 eo_9 rfl rfl rfl rfl (by decide) (by decide)) ?_
      rintro _ _ ⟨b25, rfl, rfl⟩
      refine e_fn Tryz.func44 rfl sl_ (fun ρ' hL => Go.Dsk.Z.sync_spec b room mb (decC calls) T1 (some ⟨b25, 0, none⟩) 1 1 [o] rfl ρ' hT1 (decC_le hc) (hL.row pk_)) ?_
      rintro _ _ ⟨T2, rfl, hvT2, rfl⟩
      try simp only [List.cons_append, List.nil_append]
      refine e_as rfl ?_
      refine l_n ?_
      refine c_ret ?_
      have hr9 := wr_ok (room := room) (calls := calls) (V := vw T) (o := o) (b := (rowK k2)) (by omega)
      exact t_rt [.pts a (encAgent1 (⟨k, (some b), cl, work, w, dn⟩ : Agent1)) 81, .pts b (encDisk1 (⟨room, (some mb), (decC (decC calls))⟩ : Disk1)) 105, MP strB ptV mb (fm T2), FB 109 5 T2] rfl (.tmp rfl .nil) rfl ⟨rfl, T2, by rw [hr9, hvT1]; rfl, by rw [hr9, hvT2, hvT1], by rw [hr9]⟩
  · skip
    refine o_step rfl (s_q rfl wn (q_loadpa (vs := encKept1 k2) ag_79 rfl pk_ rfl) ?_)
    refine d_c ?_
    refine d_2 3 6 ?_ ?_
    · skip
      refine o_step rfl (s_q rfl wn (q_loadp (v := .pointer (some ⟨b, 0, none⟩)) sc_29 rfl pk_ rfl) ?_)
      refine d_c ?_
      refine d_1 6 ?_
      refine o_step rfl (s_fnb rfl wn Tryz.func116 rfl (by kernel_rfl) rfl sl_ (fun ρ' hL => row_spec k2 ρ' hk) ?_)
      rintro _ _ ⟨aK, cK, rfl, rfl⟩
      try simp only [List.cons_append, List.nil_append]
      refine d_c ?_
      refine d_1 7 ?_
      refine o_step rfl (s_s rfl wn (s_buildSlice (cs := ([(⟨aK, (rowK k2), cK⟩ : SL UInt8)] : List (SL UInt8)).flatMap encSL) Tryz.underlying54 eo_38 rfl rfl rfl rfl (by decide) (by decide)) ?_)
      rintro _ _ ⟨b15, rfl, rfl⟩
      refine d_c ?_
      refine d_1 8 ?_
      refine o_step rfl (s_fnb rfl wn Tryz.func23 rfl (by kernel_rfl) rfl sl_ (fun ρ' hL => Go.Dsk.Y.append_spec b room mb calls T o (some ⟨b15, 0, none⟩) 1 1 [⟨aK, (rowK k2), cK⟩] rfl ρ' hT hU hr hc (Nat.le_trans ho (by decide)) (by decide) (by show _ + ((rowK k2) ++ []).length ≤ _; rw [List.append_nil]; omega) (hL.row pk_) (by intro s hs; rw [List.mem_singleton.1 hs]; exact hL.row pk_)) ?_)
      rintro _ _ ⟨T1, rfl, hvT1, rfl⟩
      try simp only [List.cons_append, List.nil_append]
      have hcat : (([⟨aK, (rowK k2), cK⟩] : List (SL UInt8)).flatMap fun x : SL UInt8 => x.xs) = (rowK k2) := by simp
      rw [hcat] at hvT1
      rw [hcat]
      refine d_c ?_
      refine d_t 9 rfl wn (q_assign rfl) ?_
      refine d_d ?_
      refine k_then_n ?_
      refine sr ?_
      refine e_mv rfl ?_
      refine e_q (q_neq rfl rfl) ?_
      refine l_n ?_
      refine c_cond rfl (fun h0 => ?_) (fun h0 => ?_)
      · try simp only [decide_eq_true_eq, decide_eq_false_iff_not, ne_eq, Decidable.not_not] at h0
        refine sr ?_
        refine e_mv rfl ?_
        refine e_as rfl ?_
        refine l_n ?_
        refine c_ret ?_
        refine k_then_r ?_
        have hr9 := wr_er (room := room) (calls := calls) (V := vw T) (o := o) (b := (rowK k2)) h0
        exact t_rt [.pts a (encAgent1 (⟨k, (some b), cl, work, w, dn⟩ : Agent1)) 81, .pts b (encDisk1 (⟨room, (some mb), (decC calls)⟩ : Disk1)) 105, MP strB ptV mb (fm T1), FB 109 5 T1] rfl (.tmp rfl .nil) rfl ⟨rfl, T1, by rw [hr9]; rfl, by rw [hr9]; exact hvT1, by rw [hr9]⟩
      · try simp only [decide_eq_true_eq, decide_eq_false_iff_not, ne_eq, Decidable.not_not] at h0
        have hT1 : FOk T1 := fok_of hvT1 (vok_app (fok.1 hT) (by rw [used_vw]; omega))
        refine c_skip ?_
        refine k_then_n ?_
        refine sr ?_
        refine e_mv rfl ?_
        refine e_q (q_nilCheck rfl) ?_
        refine e_q (q_fieldp rfl fo_81_1) ?_
        refine e_q (q_loadp (v := .pointer (some ⟨b, 0, none⟩)) sc_29 rfl pk_ rfl) ?_
        refine e_mv rfl ?_
        refine e_s (s_buildSlice (cs := ([o] : List (List UInt8)).flatMap Go.SL.encStr) Tryz.underlying49 eo_9 rfl rfl rfl rfl (by decide) (by decide)) ?_
        rintro _ _ ⟨b25, rfl, rfl⟩
        refine e_fn Tryz.func44 rfl sl_ (fun ρ' hL => Go.Dsk.Z.sync_spec b room mb (decC calls) T1 (some ⟨b25, 0, none⟩) 1 1 [o] rfl ρ' hT1 (decC_le hc) (hL.row pk_)) ?_
        rintro _ _ ⟨T2, rfl, hvT2, rfl⟩
        try simp only [List.cons_append, List.nil_append]
        refine e_as rfl ?_
        refine l_n ?_
        refine c_ret ?_
        have hr9 := wr_ok (room := room) (calls := calls) (V := vw T) (o := o) (b := (rowK k2)) (by omega)
        exact t_rt [.pts a (encAgent1 (⟨k, (some b), cl, work, w, dn⟩ : Agent1)) 81, .pts b (encDisk1 (⟨room, (some mb), (decC (decC calls))⟩ : Disk1)) 105, MP strB ptV mb (fm T2), FB 109 5 T2] rfl (.tmp rfl .nil) rfl ⟨rfl, T2, by rw [hr9, hvT1]; rfl, by rw [hr9, hvT2, hvT1], by rw [hr9]⟩
    · skip
      refine o_step rfl (s_fnb rfl wn Tryz.func116 rfl (by kernel_rfl) rfl sl_ (fun ρ' hL => row_spec k2 ρ' hk) ?_)
      rintro _ _ ⟨aK, cK, rfl, rfl⟩
      try simp only [List.cons_append, List.nil_append]
      refine d_c ?_
      refine d_2 3 7 ?_ ?_
      · skip
        refine o_step rfl (s_q rfl wn (q_loadp (v := .pointer (some ⟨b, 0, none⟩)) sc_29 rfl pk_ rfl) ?_)
        refine d_c ?_
        refine d_1 7 ?_
        refine o_step rfl (s_s rfl wn (s_buildSlice (cs := ([(⟨aK, (rowK k2), cK⟩ : SL UInt8)] : List (SL UInt8)).flatMap encSL) Tryz.underlying54 eo_38 rfl rfl rfl rfl (by decide) (by decide)) ?_)
        rintro _ _ ⟨b15, rfl, rfl⟩
        refine d_c ?_
        refine d_1 8 ?_
        refine o_step rfl (s_fnb rfl wn Tryz.func23 rfl (by kernel_rfl) rfl sl_ (fun ρ' hL => Go.Dsk.Y.append_spec b room mb calls T o (some ⟨b15, 0, none⟩) 1 1 [⟨aK, (rowK k2), cK⟩] rfl ρ' hT hU hr hc (Nat.le_trans ho (by decide)) (by decide) (by show _ + ((rowK k2) ++ []).length ≤ _; rw [List.append_nil]; omega) (hL.row pk_) (by intro s hs; rw [List.mem_singleton.1 hs]; exact hL.row pk_)) ?_)
        rintro _ _ ⟨T1, rfl, hvT1, rfl⟩
        try simp only [List.cons_append, List.nil_append]
        have hcat : (([⟨aK, (rowK k2), cK⟩] : List (SL UInt8)).flatMap fun x : SL UInt8 => x.xs) = (rowK k2) := by simp
        rw [hcat] at hvT1
        rw [hcat]
        refine d_c ?_
        refine d_t 9 rfl wn (q_assign rfl) ?_
        refine d_d ?_
        refine k_then_n ?_
        refine sr ?_
        refine e_mv rfl ?_
        refine e_q (q_neq rfl rfl) ?_
        refine l_n ?_
        refine c_cond rfl (fun h0 => ?_) (fun h0 => ?_)
        · try simp only [decide_eq_true_eq, decide_eq_false_iff_not, ne_eq, Decidable.not_not] at h0
          refine sr ?_
          refine e_mv rfl ?_
          refine e_as rfl ?_
          refine l_n ?_
          refine c_ret ?_
          refine k_then_r ?_
          have hr9 := wr_er (room := room) (calls := calls) (V := vw T) (o := o) (b := (rowK k2)) h0
          exact t_rt [.pts a (encAgent1 (⟨k, (some b), cl, work, w, dn⟩ : Agent1)) 81, .pts b (encDisk1 (⟨room, (some mb), (decC calls)⟩ : Disk1)) 105, MP strB ptV mb (fm T1), FB 109 5 T1] rfl (.tmp rfl .nil) rfl ⟨rfl, T1, by rw [hr9]; rfl, by rw [hr9]; exact hvT1, by rw [hr9]⟩
        · try simp only [decide_eq_true_eq, decide_eq_false_iff_not, ne_eq, Decidable.not_not] at h0
          have hT1 : FOk T1 := fok_of hvT1 (vok_app (fok.1 hT) (by rw [used_vw]; omega))
          refine c_skip ?_
          refine k_then_n ?_
          refine sr ?_
          refine e_mv rfl ?_
          refine e_q (q_nilCheck rfl) ?_
          refine e_q (q_fieldp rfl fo_81_1) ?_
          refine e_q (q_loadp (v := .pointer (some ⟨b, 0, none⟩)) sc_29 rfl pk_ rfl) ?_
          refine e_mv rfl ?_
          refine e_s (s_buildSlice (cs := ([o] : List (List UInt8)).flatMap Go.SL.encStr) Tryz.underlying49 eo_9 rfl rfl rfl rfl (by decide) (by decide)) ?_
          rintro _ _ ⟨b25, rfl, rfl⟩
          refine e_fn Tryz.func44 rfl sl_ (fun ρ' hL => Go.Dsk.Z.sync_spec b room mb (decC calls) T1 (some ⟨b25, 0, none⟩) 1 1 [o] rfl ρ' hT1 (decC_le hc) (hL.row pk_)) ?_
          rintro _ _ ⟨T2, rfl, hvT2, rfl⟩
          try simp only [List.cons_append, List.nil_append]
          refine e_as rfl ?_
          refine l_n ?_
          refine c_ret ?_
          have hr9 := wr_ok (room := room) (calls := calls) (V := vw T) (o := o) (b := (rowK k2)) (by omega)
          exact t_rt [.pts a (encAgent1 (⟨k, (some b), cl, work, w, dn⟩ : Agent1)) 81, .pts b (encDisk1 (⟨room, (some mb), (decC (decC calls))⟩ : Disk1)) 105, MP strB ptV mb (fm T2), FB 109 5 T2] rfl (.tmp rfl .nil) rfl ⟨rfl, T2, by rw [hr9, hvT1]; rfl, by rw [hr9, hvT2, hvT1], by rw [hr9]⟩
      · skip
        refine o_step rfl (s_s rfl wn (s_buildSlice (cs := ([(⟨aK, (rowK k2), cK⟩ : SL UInt8)] : List (SL UInt8)).flatMap encSL) Tryz.underlying54 eo_38 rfl rfl rfl rfl (by decide) (by decide)) ?_)
        rintro _ _ ⟨b15, rfl, rfl⟩
        refine d_c ?_
        refine d_1 3 ?_
        refine o_step rfl (s_q rfl wn (q_loadp (v := .pointer (some ⟨b, 0, none⟩)) sc_29 rfl pk_ rfl) ?_)
        refine d_c ?_
        refine d_1 8 ?_
        refine o_step rfl (s_fnb rfl wn Tryz.func23 rfl (by kernel_rfl) rfl sl_ (fun ρ' hL => Go.Dsk.Y.append_spec b room mb calls T o (some ⟨b15, 0, none⟩) 1 1 [⟨aK, (rowK k2), cK⟩] rfl ρ' hT hU hr hc (Nat.le_trans ho (by decide)) (by decide) (by show _ + ((rowK k2) ++ []).length ≤ _; rw [List.append_nil]; omega) (hL.row pk_) (by intro s hs; rw [List.mem_singleton.1 hs]; exact hL.row pk_)) ?_)
        rintro _ _ ⟨T1, rfl, hvT1, rfl⟩
        try simp only [List.cons_append, List.nil_append]
        have hcat : (([⟨aK, (rowK k2), cK⟩] : List (SL UInt8)).flatMap fun x : SL UInt8 => x.xs) = (rowK k2) := by simp
        rw [hcat] at hvT1
        rw [hcat]
        refine d_c ?_
        refine d_t 9 rfl wn (q_assign rfl) ?_
        refine d_d ?_
        refine k_then_n ?_
        refine sr ?_
        refine e_mv rfl ?_
        refine e_q (q_neq rfl rfl) ?_
        refine l_n ?_
        refine c_cond rfl (fun h0 => ?_) (fun h0 => ?_)
        · try simp only [decide_eq_true_eq, decide_eq_false_iff_not, ne_eq, Decidable.not_not] at h0
          refine sr ?_
          refine e_mv rfl ?_
          refine e_as rfl ?_
          refine l_n ?_
          refine c_ret ?_
          refine k_then_r ?_
          have hr9 := wr_er (room := room) (calls := calls) (V := vw T) (o := o) (b := (rowK k2)) h0
          exact t_rt [.pts a (encAgent1 (⟨k, (some b), cl, work, w, dn⟩ : Agent1)) 81, .pts b (encDisk1 (⟨room, (some mb), (decC calls)⟩ : Disk1)) 105, MP strB ptV mb (fm T1), FB 109 5 T1] rfl (.tmp rfl .nil) rfl ⟨rfl, T1, by rw [hr9]; rfl, by rw [hr9]; exact hvT1, by rw [hr9]⟩
        · try simp only [decide_eq_true_eq, decide_eq_false_iff_not, ne_eq, Decidable.not_not] at h0
          have hT1 : FOk T1 := fok_of hvT1 (vok_app (fok.1 hT) (by rw [used_vw]; omega))
          refine c_skip ?_
          refine k_then_n ?_
          refine sr ?_
          refine e_mv rfl ?_
          refine e_q (q_nilCheck rfl) ?_
          refine e_q (q_fieldp rfl fo_81_1) ?_
          refine e_q (q_loadp (v := .pointer (some ⟨b, 0, none⟩)) sc_29 rfl pk_ rfl) ?_
          refine e_mv rfl ?_
          refine e_s (s_buildSlice (cs := ([o] : List (List UInt8)).flatMap Go.SL.encStr) Tryz.underlying49 eo_9 rfl rfl rfl rfl (by decide) (by decide)) ?_
          rintro _ _ ⟨b25, rfl, rfl⟩
          refine e_fn Tryz.func44 rfl sl_ (fun ρ' hL => Go.Dsk.Z.sync_spec b room mb (decC calls) T1 (some ⟨b25, 0, none⟩) 1 1 [o] rfl ρ' hT1 (decC_le hc) (hL.row pk_)) ?_
          rintro _ _ ⟨T2, rfl, hvT2, rfl⟩
          try simp only [List.cons_append, List.nil_append]
          refine e_as rfl ?_
          refine l_n ?_
          refine c_ret ?_
          have hr9 := wr_ok (room := room) (calls := calls) (V := vw T) (o := o) (b := (rowK k2)) (by omega)
          exact t_rt [.pts a (encAgent1 (⟨k, (some b), cl, work, w, dn⟩ : Agent1)) 81, .pts b (encDisk1 (⟨room, (some mb), (decC (decC calls))⟩ : Disk1)) 105, MP strB ptV mb (fm T2), FB 109 5 T2] rfl (.tmp rfl .nil) rfl ⟨rfl, T2, by rw [hr9, hvT1]; rfl, by rw [hr9, hvT2, hvT1], by rw [hr9]⟩

theorem keep_spec (b : Nat) (room : Int) (mb : Nat) (calls : Int) (T : FT) (a : Nat) (k : Kept1) (cl work w : Int) (dn : Bool) (k2 : Kept1) (ρ : Hp) (hT : FOk T) (hU : (usedT T : Int) ≤ room) (hr : room ≤ 9223372036854775807) (hc : calls ≤ 9223372036854775807) (hus : usedT T ≤ 900000000000) (hk : KOk k2) : Spec0 Tryz.prog 65 #[.pointer (some ⟨a, 0, none⟩), .agg (encKept1 k2).toArray] ρ [.pts a (encAgent1 (⟨k, (some b), cl, work, w, dn⟩ : Agent1)) 81, .pts b (encDisk1 (⟨room, (some mb), calls⟩ : Disk1)) 105, MP strB ptV mb (fm T), FB 109 5 T] (fun v Γ' => ∃ T', v = .bool (decide ((keepS room calls (vw T) k2).1 = 0)) ∧ vw T' = (keepS room calls (vw T) k2).2.1 ∧ Γ' = [.pts a (encAgent1 (⟨(if (keepS room calls (vw T) k2).1 = 0 then k2 else k), (some b), cl, work, w, (if (keepS room calls (vw T) k2).1 = 0 then dn else true)⟩ : Agent1)) 81, .pts b (encDisk1 (⟨room, (some mb), (keepS room calls (vw T) k2).2.2⟩ : Disk1)) 105, MP strB ptV mb (fm T'), FB 109 5 T']) := by
  refine spec_of (n := 41) (vs := [_, _]) (σ := [(0, _), (1, _)]) Tryz.func65 rfl rfl rfl rfl fun E Δ => ?_
  simp only [List.cons_append, List.nil_append]
  have hrl := rowK_le hk
  refine sr ?_
  refine e_s (s_box (cs := encKept1 k2) rfl rfl) ?_
  rintro _ _ ⟨b3, rfl, rfl⟩
  refine e_as rfl ?_
  refine l_n ?_
  refine sr ?_
  refine e_as rfl ?_
  refine l_n ?_
  refine c_seq ?_
  refine sr ?_
  refine e_mv rfl ?_
  refine e_q (q_nilCheck rfl) ?_
  refine e_q (q_fieldp rfl fo_81_1) ?_
  refine e_q (q_loadp (v := .pointer (some ⟨b, 0, none⟩)) sc_29 rfl pk_ rfl) ?_
  refine e_fn Tryz.func43 rfl sl_ (fun ρ' hL => Go.Dsk.X.read_spec b room mb calls T nA ρ' hT) ?_
  rintro _ _ ⟨aR1, cR1, rfl, rfl⟩
  try simp only [List.cons_append, List.nil_append]
  refine e_mv rfl ?_
  refine e_q (q_extract rfl rfl) ?_
  refine e_q (q_extract rfl rfl) ?_
  refine e_as rfl ?_
  refine e_as rfl ?_
  refine l_n ?_
  refine sr ?_
  refine e_mv rfl ?_
  refine e_q (q_len Tryz.underlying38 rfl) ?_
  refine e_q (q_lss rfl rfl) ?_
  refine l_n ?_
  refine c_cond rfl (fun h0 => ?_) (fun h0 => ?_)
  · try simp only [decide_eq_true_eq, decide_eq_false_iff_not] at h0
    refine c_region ?_
    refine e_mv rfl ?_
    refine e_q (q_loadpa (vs := encKept1 k2) ag_79 rfl pk_ rfl) ?_
    refine e_fn Tryz.func90 rfl sl_ (fun ρ' hL => write_spec b room mb calls T a k cl work w dn nA k2 ρ' hT hU hr hc hus hk (by decide)) ?_
    rintro _ _ ⟨T1, rfl, hvT1, rfl⟩
    try simp only [List.cons_append, List.nil_append]
    refine e_as rfl ?_
    refine l_n ?_
    refine c_seq ?_
    refine sr ?_
    refine e_mv rfl ?_
    refine e_q (q_neq rfl rfl) ?_
    refine l_n ?_
    refine c_cond rfl (fun h2 => ?_) (fun h2 => ?_)
    · try simp only [decide_eq_true_eq, decide_eq_false_iff_not, ne_eq, Decidable.not_not] at h2
      refine sr ?_
      refine e_mv rfl ?_
      refine e_q (q_nilCheck rfl) ?_
      refine e_q (q_fieldp rfl fo_81_5) ?_
      refine l_step (s_s0 wn (s_storep (ws := [.bool true]) (cs := encAgent1 (⟨k, (some b), cl, work, w, dn⟩ : Agent1)) (cs' := encAgent1 (⟨k, (some b), cl, work, w, true⟩ : Agent1)) rfl rfl rfl sz_4 (by simp [Value.oneCell', strB, ptV, SL.v, SH.v]) (by simp [encAgent1]) rfl pk_) ?_)
      rintro _ _ ⟨rfl, rfl⟩
      refine l_n ?_
      refine sr ?_
      refine e_as rfl ?_
      refine l_n ?_
      refine c_ret ?_
      refine k_then_r ?_
      have hQ : (keepS room calls (vw T) k2) = (wrS room calls (vw T) nA (rowK k2)) := ks_lt (by omega)
      have hz : ¬ (keepS room calls (vw T) k2).1 = 0 := by rw [hQ]; omega
      exact t_rt [.pts a (encAgent1 (⟨k, (some b), cl, work, w, true⟩ : Agent1)) 81, .pts b (encDisk1 (⟨room, (some mb), (wrS room calls (vw T) nA (rowK k2)).2.2⟩ : Disk1)) 105, MP strB ptV mb (fm T1), FB 109 5 T1] rfl (.tmp rfl .nil) rfl ⟨rfl, T1, boole (decide_eq_false hz).symm, by rw [hQ]; exact hvT1, by rw [if_neg hz, if_neg hz, hQ]⟩
    · try simp only [decide_eq_true_eq, decide_eq_false_iff_not, ne_eq, Decidable.not_not] at h2
      refine c_skip ?_
      refine k_then_n ?_
      refine sr ?_
      refine e_mv rfl ?_
      refine e_q (q_loadpa (vs := encKept1 k2) ag_79 rfl pk_ rfl) ?_
      refine e_q (q_nilCheck rfl) ?_
      refine e_q (q_fieldp rfl fo_81_0) ?_
      refine l_step (s_s0 wn (s_storep (ws := encKept1 k2) (cs := encAgent1 (⟨k, (some b), cl, work, w, dn⟩ : Agent1)) (cs' := encAgent1 (⟨k2, (some b), cl, work, w, dn⟩ : Agent1)) rfl rfl rfl sz_79 (oneKept1 _) (by simp [encAgent1, encKept1]) rfl pk_) ?_)
      rintro _ _ ⟨rfl, rfl⟩
      refine l_n ?_
      refine sr ?_
      refine e_as rfl ?_
      refine l_n ?_
      refine c_ret ?_
      have hQ : (keepS room calls (vw T) k2) = (wrS room calls (vw T) nA (rowK k2)) := ks_lt (by omega)
      have hz : (keepS room calls (vw T) k2).1 = 0 := by rw [hQ]; omega
      exact t_rt [.pts a (encAgent1 (⟨k2, (some b), cl, work, w, dn⟩ : Agent1)) 81, .pts b (encDisk1 (⟨room, (some mb), (wrS room calls (vw T) nA (rowK k2)).2.2⟩ : Disk1)) 105, MP strB ptV mb (fm T1), FB 109 5 T1] rfl (.tmp rfl .nil) rfl ⟨rfl, T1, boole (decide_eq_true hz).symm, by rw [hQ]; exact hvT1, by rw [if_pos hz, if_pos hz, hQ]⟩
  · try simp only [decide_eq_true_eq, decide_eq_false_iff_not] at h0
    refine sr ?_
    refine e_mv rfl ?_
    refine e_q (q_loadpa (vs := encKept1 k2) ag_79 rfl pk_ rfl) ?_
    refine e_fn Tryz.func90 rfl sl_ (fun ρ' hL => write_spec b room mb calls T a k cl work w dn nF k2 ρ' hT hU hr hc hus hk (by decide)) ?_
    rintro _ _ ⟨T1, rfl, hvT1, rfl⟩
    try simp only [List.cons_append, List.nil_append]
    refine e_as rfl ?_
    refine l_n ?_
    refine sr ?_
    refine e_mv rfl ?_
    refine e_q (q_eql rfl rfl) ?_
    refine l_n ?_
    refine c_cond rfl (fun h1 => ?_) (fun h1 => ?_)
    · try simp only [decide_eq_true_eq, decide_eq_false_iff_not] at h1
      have hT1 : FOk T1 := fok_of hvT1 (vok_wr (by decide) (fok.1 hT) (by rw [used_vw]; omega))
      refine c_region ?_
      refine e_mv rfl ?_
      refine e_q (q_nilCheck rfl) ?_
      refine e_q (q_fieldp rfl fo_81_1) ?_
      refine e_q (q_loadp (v := .pointer (some ⟨b, 0, none⟩)) sc_29 rfl pk_ rfl) ?_
      refine e_fn Tryz.func91 rfl sl_ (fun ρ' hL => Go.Dsk.V.rename_spec b room mb ((wrS room calls (vw T) nF (rowK k2)).2.2) T1 nF nA ρ' hT1 (wr_calls hc) (by decide)) ?_
      rintro _ _ ⟨T2, rfl, hvT2, rfl⟩
      try simp only [List.cons_append, List.nil_append]
      refine e_as rfl ?_
      refine l_n ?_
      refine c_seq ?_
      refine sr ?_
      refine e_mv rfl ?_
      refine e_q (q_neq rfl rfl) ?_
      refine l_n ?_
      refine c_cond rfl (fun h2 => ?_) (fun h2 => ?_)
      · try simp only [decide_eq_true_eq, decide_eq_false_iff_not, ne_eq, Decidable.not_not] at h2
        refine sr ?_
        refine e_mv rfl ?_
        refine e_q (q_nilCheck rfl) ?_
        refine e_q (q_fieldp rfl fo_81_5) ?_
        refine l_step (s_s0 wn (s_storep (ws := [.bool true]) (cs := encAgent1 (⟨k, (some b), cl, work, w, dn⟩ : Agent1)) (cs' := encAgent1 (⟨k, (some b), cl, work, w, true⟩ : Agent1)) rfl rfl rfl sz_4 (by simp [Value.oneCell', strB, ptV, SL.v, SH.v]) (by simp [encAgent1]) rfl pk_) ?_)
        rintro _ _ ⟨rfl, rfl⟩
        refine l_n ?_
        refine sr ?_
        refine e_as rfl ?_
        refine l_n ?_
        refine c_ret ?_
        refine k_then_r ?_
        have hQ : (keepS room calls (vw T) k2) = ((renR (wrS room calls (vw T) nF (rowK k2)).2.2 (wrS room calls (vw T) nF (rowK k2)).2.1 nF nA).1, (renR (wrS room calls (vw T) nF (rowK k2)).2.2 (wrS room calls (vw T) nF (rowK k2)).2.1 nF nA).2, decC (wrS room calls (vw T) nF (rowK k2)).2.2) := ks_ok (by omega) (by omega)
        have hz : ¬ (keepS room calls (vw T) k2).1 = 0 := by rw [hQ]; show ¬ (renR (wrS room calls (vw T) nF (rowK k2)).2.2 (wrS room calls (vw T) nF (rowK k2)).2.1 nF nA).1 = 0; rw [← hvT1]; omega
        exact t_rt [.pts a (encAgent1 (⟨k, (some b), cl, work, w, true⟩ : Agent1)) 81, .pts b (encDisk1 (⟨room, (some mb), (decC (wrS room calls (vw T) nF (rowK k2)).2.2)⟩ : Disk1)) 105, MP strB ptV mb (fm T2), FB 109 5 T2] rfl (.tmp rfl .nil) rfl ⟨rfl, T2, boole (decide_eq_false hz).symm, by rw [hQ, hvT2, hvT1], by rw [if_neg hz, if_neg hz, hQ]⟩
      · try simp only [decide_eq_true_eq, decide_eq_false_iff_not, ne_eq, Decidable.not_not] at h2
        refine c_skip ?_
        refine k_then_n ?_
        refine sr ?_
        refine e_mv rfl ?_
        refine e_q (q_loadpa (vs := encKept1 k2) ag_79 rfl pk_ rfl) ?_
        refine e_q (q_nilCheck rfl) ?_
        refine e_q (q_fieldp rfl fo_81_0) ?_
        refine l_step (s_s0 wn (s_storep (ws := encKept1 k2) (cs := encAgent1 (⟨k, (some b), cl, work, w, dn⟩ : Agent1)) (cs' := encAgent1 (⟨k2, (some b), cl, work, w, dn⟩ : Agent1)) rfl rfl rfl sz_79 (oneKept1 _) (by simp [encAgent1, encKept1]) rfl pk_) ?_)
        rintro _ _ ⟨rfl, rfl⟩
        refine l_n ?_
        refine sr ?_
        refine e_as rfl ?_
        refine l_n ?_
        refine c_ret ?_
        have hQ : (keepS room calls (vw T) k2) = ((renR (wrS room calls (vw T) nF (rowK k2)).2.2 (wrS room calls (vw T) nF (rowK k2)).2.1 nF nA).1, (renR (wrS room calls (vw T) nF (rowK k2)).2.2 (wrS room calls (vw T) nF (rowK k2)).2.1 nF nA).2, decC (wrS room calls (vw T) nF (rowK k2)).2.2) := ks_ok (by omega) (by omega)
        have hz : (keepS room calls (vw T) k2).1 = 0 := by rw [hQ]; show (renR (wrS room calls (vw T) nF (rowK k2)).2.2 (wrS room calls (vw T) nF (rowK k2)).2.1 nF nA).1 = 0; rw [← hvT1]; omega
        exact t_rt [.pts a (encAgent1 (⟨k2, (some b), cl, work, w, dn⟩ : Agent1)) 81, .pts b (encDisk1 (⟨room, (some mb), (decC (wrS room calls (vw T) nF (rowK k2)).2.2)⟩ : Disk1)) 105, MP strB ptV mb (fm T2), FB 109 5 T2] rfl (.tmp rfl .nil) rfl ⟨rfl, T2, boole (decide_eq_true hz).symm, by rw [hQ, hvT2, hvT1], by rw [if_pos hz, if_pos hz, hQ]⟩
    · try simp only [decide_eq_true_eq, decide_eq_false_iff_not] at h1
      refine c_skip ?_
      refine k_then_n ?_
      refine c_seq ?_
      refine sr ?_
      refine e_mv rfl ?_
      refine e_q (q_neq rfl rfl) ?_
      refine l_n ?_
      refine c_sure true rfl (decide_eq_true h1) ?_
      simp only [Bool.false_eq_true, if_true, if_false]
      refine sr ?_
      refine e_mv rfl ?_
      refine e_q (q_nilCheck rfl) ?_
      refine e_q (q_fieldp rfl fo_81_5) ?_
      refine l_step (s_s0 wn (s_storep (ws := [.bool true]) (cs := encAgent1 (⟨k, (some b), cl, work, w, dn⟩ : Agent1)) (cs' := encAgent1 (⟨k, (some b), cl, work, w, true⟩ : Agent1)) rfl rfl rfl sz_4 (by simp [Value.oneCell', strB, ptV, SL.v, SH.v]) (by simp [encAgent1]) rfl pk_) ?_)
      rintro _ _ ⟨rfl, rfl⟩
      refine l_n ?_
      refine sr ?_
      refine e_as rfl ?_
      refine l_n ?_
      refine c_ret ?_
      refine k_then_r ?_
      have hQ : (keepS room calls (vw T) k2) = (wrS room calls (vw T) nF (rowK k2)) := ks_er (by omega) (by omega)
      have hz : ¬ (keepS room calls (vw T) k2).1 = 0 := by rw [hQ]; omega
      exact t_rt [.pts a (encAgent1 (⟨k, (some b), cl, work, w, true⟩ : Agent1)) 81, .pts b (encDisk1 (⟨room, (some mb), (wrS room calls (vw T) nF (rowK k2)).2.2⟩ : Disk1)) 105, MP strB ptV mb (fm T1), FB 109 5 T1] rfl (.tmp rfl .nil) rfl ⟨rfl, T1, boole (decide_eq_false hz).symm, by rw [hQ]; exact hvT1, by rw [if_neg hz, if_neg hz, hQ]⟩

theorem hear_spec (b : Nat) (room : Int) (mb : Nat) (calls : Int) (T : FT) (a : Nat) (k : Kept1) (cl work w : Int) (dn : Bool) (o : Order1) (ρ : Hp) (hT : FOk T) (hU : (usedT T : Int) ≤ room) (hr : room ≤ 9223372036854775807) (hc : calls ≤ 9223372036854775807) (hus : usedT T ≤ 900000000000) (hk : KOk k) : Spec0 Tryz.prog 64 #[.pointer (some ⟨a, 0, none⟩), .agg (encOrder1 o).toArray] ρ [.pts a (encAgent1 (⟨k, (some b), cl, work, w, dn⟩ : Agent1)) 81, .pts b (encDisk1 (⟨room, (some mb), calls⟩ : Disk1)) 105, MP strB ptV mb (fm T), FB 109 5 T] (fun v Γ' => ∃ T', v = .int .i64 (hearP room calls (vw T) cl k w dn o).1 ∧ vw T' = (hearP room calls (vw T) cl k w dn o).2.1 ∧ Γ' = [.pts a (encAgent1 (⟨(hearP room calls (vw T) cl k w dn o).2.2.2.1, (some b), cl, work, (hearP room calls (vw T) cl k w dn o).2.2.2.2.1, (hearP room calls (vw T) cl k w dn o).2.2.2.2.2⟩ : Agent1)) 81, .pts b (encDisk1 (⟨room, (some mb), (hearP room calls (vw T) cl k w dn o).2.2.1⟩ : Disk1)) 105, MP strB ptV mb (fm T'), FB 109 5 T']) := by
  refine spec_of (n := 53) (vs := [_, _]) (σ := [(0, _), (1, _)]) Tryz.func64 rfl rfl rfl rfl fun E Δ => ?_
  simp only [List.cons_append, List.nil_append]
  refine sr ?_
  refine e_s (s_box (cs := encOrder1 o) rfl rfl) ?_
  rintro _ _ ⟨b3, rfl, rfl⟩
  refine e_as rfl ?_
  refine l_n ?_
  refine sr ?_
  refine e_mv rfl ?_
  refine e_q (q_nilCheck rfl) ?_
  refine e_q (q_fieldp rfl fo_81_0) ?_
  refine e_q (q_loadpa (vs := encKept1 k) ag_79 rfl pk_ rfl) ?_
  refine e_s (s_allocz (cs := encKept1 zKept1) (by kernel_rfl)) ?_
  rintro _ _ ⟨b5, rfl, rfl⟩
  refine l_step (s_s0 wn (s_storep (ws := encKept1 k) (cs := encKept1 zKept1) (cs' := encKept1 k) rfl rfl rfl sz_79 (oneKept1 _) (by simp [encKept1, encKept1]) rfl pk_) ?_)
  rintro _ _ ⟨rfl, rfl⟩
  refine l_n ?_
  refine c_seq ?_
  refine sr ?_
  refine e_q (q_fieldp rfl fo_79_0) ?_
  refine e_q (q_loadpa (vs := encFence1 k.Fence) ag_77 rfl pk_ rfl) ?_
  refine e_q (q_loadpa (vs := encOrder1 o) ag_69 rfl pk_ rfl) ?_
  refine l_step (s_fnq rfl wn Tryz.func88 rfl (by kernel_rfl) rfl (fun ρ' hL => may_spec k.Fence o ρ') ?_)
  refine e_as rfl ?_
  refine l_n ?_
  refine c_block ?_
  refine sr ?_
  refine e_mv rfl ?_
  refine e_q (q_nilCheck rfl) ?_
  refine e_q (q_fieldp rfl fo_81_5) ?_
  refine e_q (q_loadp (v := .bool dn) sc_4 rfl pk_ rfl) ?_
  refine e_as rfl ?_
  refine l_n ?_
  refine c_cond rfl (fun h0 => ?_) (fun h0 => ?_)
  · skip
    refine sr ?_
    refine e_as rfl ?_
    refine l_n ?_
    refine c_ret ?_
    refine k_blk_r ?_
    refine k_then_r ?_
    have hr9 : (hearP room calls (vw T) cl k w dn o) = (92, vw T, calls, k, w, dn) := by unfold hearP; rw [if_pos (by first | exact h0 | omega)]
    exact t_rt [.pts a (encAgent1 (⟨k, (some b), cl, work, w, dn⟩ : Agent1)) 81, .pts b (encDisk1 (⟨room, (some mb), calls⟩ : Disk1)) 105, MP strB ptV mb (fm T), FB 109 5 T] rfl (.tmp rfl .nil) rfl ⟨rfl, T, by rw [hr9]; rfl, by rw [hr9], by rw [hr9]⟩
  · skip
    replace h0 : dn = false := h0
    refine c_seq ?_
    refine d_r 8 [.pts b5 (encKept1 k) 79, .pts b3 (encOrder1 o) 69, .pts a (encAgent1 (⟨k, (some b), cl, work, w, dn⟩ : Agent1)) 81, .pts b (encDisk1 (⟨room, (some mb), calls⟩ : Disk1)) 105, MP strB ptV mb (fm T), FB 109 5 T] ?_
    refine d_t 0 rfl wn (q_fieldp rfl fo_69_2) ?_
    refine d_t 1 rfl wn (q_loadp (v := .int .i64 o.Cluster) sc_3 rfl pk_ rfl) ?_
    refine d_t 2 rfl wn (q_move rfl) ?_
    refine d_t 3 rfl wn (q_nilCheck rfl) ?_
    refine d_t 4 rfl wn (q_fieldp rfl fo_81_2) ?_
    refine d_t 5 rfl wn (q_loadp (v := .int .i64 cl) sc_3 rfl pk_ rfl) ?_
    refine d_t 6 rfl wn (q_neq rfl rfl) ?_
    refine d_t 7 rfl wn (q_assign rfl) ?_
    refine d_d ?_
    refine k_then_n ?_
    refine c_cond rfl (fun h1 => ?_) (fun h1 => ?_)
    · try simp only [decide_eq_true_eq, decide_eq_false_iff_not, ne_eq, Decidable.not_not] at h1
      refine sr ?_
      refine e_as rfl ?_
      refine l_n ?_
      refine c_ret ?_
      refine k_blk_r ?_
      refine k_then_r ?_
      have hr9 : (hearP room calls (vw T) cl k w dn o) = (122, vw T, calls, k, w, dn) := by unfold hearP; rw [if_neg (by rw [h0]; decide), if_pos (by first | exact h1 | omega)]
      exact t_rt [.pts a (encAgent1 (⟨k, (some b), cl, work, w, dn⟩ : Agent1)) 81, .pts b (encDisk1 (⟨room, (some mb), calls⟩ : Disk1)) 105, MP strB ptV mb (fm T), FB 109 5 T] rfl (.tmp rfl .nil) rfl ⟨rfl, T, by rw [hr9]; rfl, by rw [hr9], by rw [hr9]⟩
    · try simp only [decide_eq_true_eq, decide_eq_false_iff_not, ne_eq, Decidable.not_not] at h1
      refine sr ?_
      refine e_mv rfl ?_
      refine e_q (q_neq rfl rfl) ?_
      refine e_as rfl ?_
      refine l_n ?_
      refine c_cond rfl (fun h2 => ?_) (fun h2 => ?_)
      · try simp only [decide_eq_true_eq, decide_eq_false_iff_not, ne_eq, Decidable.not_not] at h2
        refine sr ?_
        refine e_mv rfl ?_
        refine e_as rfl ?_
        refine l_n ?_
        refine c_ret ?_
        refine k_blk_r ?_
        refine k_then_r ?_
        have hr9 : (hearP room calls (vw T) cl k w dn o) = ((mayF k.Fence o), vw T, calls, k, w, dn) := by unfold hearP; rw [if_neg (by rw [h0]; decide), if_neg (by omega), if_pos (by first | exact h2 | omega)]
        exact t_rt [.pts a (encAgent1 (⟨k, (some b), cl, work, w, dn⟩ : Agent1)) 81, .pts b (encDisk1 (⟨room, (some mb), calls⟩ : Disk1)) 105, MP strB ptV mb (fm T), FB 109 5 T] rfl (.tmp rfl .nil) rfl ⟨rfl, T, by rw [hr9]; rfl, by rw [hr9], by rw [hr9]⟩
      · try simp only [decide_eq_true_eq, decide_eq_false_iff_not, ne_eq, Decidable.not_not] at h2
        refine sr ?_
        refine e_q (q_fieldp rfl fo_79_3) ?_
        refine e_q (q_loadp (v := .int .i64 k.at_) sc_3 rfl pk_ rfl) ?_
        refine e_q (q_neq rfl rfl) ?_
        refine e_as rfl ?_
        refine l_n ?_
        refine c_cond rfl (fun h3 => ?_) (fun h3 => ?_)
        · try simp only [decide_eq_true_eq, decide_eq_false_iff_not, ne_eq, Decidable.not_not] at h3
          refine sr ?_
          refine e_as rfl ?_
          refine l_n ?_
          refine c_ret ?_
          refine k_blk_r ?_
          refine k_then_r ?_
          have hr9 : (hearP room calls (vw T) cl k w dn o) = (91, vw T, calls, k, w, dn) := by unfold hearP; rw [if_neg (by rw [h0]; decide), if_neg (by omega), if_neg (by omega), if_pos (by first | exact h3 | omega)]
          exact t_rt [.pts a (encAgent1 (⟨k, (some b), cl, work, w, dn⟩ : Agent1)) 81, .pts b (encDisk1 (⟨room, (some mb), calls⟩ : Disk1)) 105, MP strB ptV mb (fm T), FB 109 5 T] rfl (.tmp rfl .nil) rfl ⟨rfl, T, by rw [hr9]; rfl, by rw [hr9], by rw [hr9]⟩
        · try simp only [decide_eq_true_eq, decide_eq_false_iff_not, ne_eq, Decidable.not_not] at h3
          have hm : mayF k.Fence o = 0 := by omega
          refine c_skip ?_
          refine k_blk_n ?_
          refine k_then_n ?_
          refine sr ?_
          refine e_q (q_fieldp rfl fo_79_0) ?_
          refine e_q (q_loadpa (vs := encOrder1 o) ag_69 rfl pk_ rfl) ?_
          refine e_s (s_buildSlice (cs := ([o] : List Order1).flatMap encOrder1) Tryz.underlying72 eo_69 rfl rfl rfl rfl (by decide) (by decide)) ?_
          rintro _ _ ⟨b38, rfl, rfl⟩
          refine e_fn Tryz.func89 rfl sl_ (fun ρ' hL => pass_spec b5 k (some ⟨b38, 0, none⟩) 1 o ρ' (hL.row pk_) hm) ?_
          rintro _ _ ⟨rfl, rfl⟩
          try simp only [List.cons_append, List.nil_append]
          refine l_n ?_
          refine c_seq ?_
          refine d_r 8 [.row 69 4 (some ⟨b38, 0, none⟩) 1 1 ([o].flatMap encOrder1), .pts b3 (encOrder1 o) 69, .pts a (encAgent1 (⟨k, (some b), cl, work, w, dn⟩ : Agent1)) 81, .pts b (encDisk1 (⟨room, (some mb), calls⟩ : Disk1)) 105, MP strB ptV mb (fm T), FB 109 5 T] ?_
          refine d_t 0 rfl wn (q_fieldp rfl fo_69_0) ?_
          refine d_t 1 rfl wn (q_loadp (v := .int .i64 o.ID) sc_3 rfl pk_ rfl) ?_
          refine d_t 2 rfl wn (q_fieldp rfl fo_69_3) ?_
          refine d_t 3 rfl wn (q_loadp (v := .int .i64 o.Version) sc_3 rfl pk_ rfl) ?_
          refine d_t 4 rfl wn (q_fieldp rfl fo_79_3) ?_
          refine d_1 5 ?_
          refine o_step rfl (s_s0 wn (s_storep (ws := [.int .i64 o.ID]) (cs := encKept1 (⟨⟨o.ID, o.Epoch⟩, k.version, k.done, k.at_, k.to_⟩ : Kept1)) (cs' := encKept1 (⟨⟨o.ID, o.Epoch⟩, k.version, k.done, o.ID, k.to_⟩ : Kept1)) rfl rfl rfl sz_3 (by simp [Value.oneCell', strB, ptV, SL.v, SH.v]) (by simp [encKept1]) rfl pk_) ?_)
          rintro _ _ ⟨rfl, rfl⟩
          refine d_c ?_
          refine d_t 6 rfl wn (q_fieldp rfl fo_79_4) ?_
          refine d_1 7 ?_
          refine o_step rfl (s_s0 wn (s_storep (ws := [.int .i64 o.Version]) (cs := encKept1 (⟨⟨o.ID, o.Epoch⟩, k.version, k.done, o.ID, k.to_⟩ : Kept1)) (cs' := encKept1 (⟨⟨o.ID, o.Epoch⟩, k.version, k.done, o.ID, o.Version⟩ : Kept1)) rfl rfl rfl sz_3 (by simp [Value.oneCell', strB, ptV, SL.v, SH.v]) (by simp [encKept1]) rfl pk_) ?_)
          rintro _ _ ⟨rfl, rfl⟩
          refine d_c ?_
          refine d_d ?_
          refine k_then_n ?_
          refine c_seq ?_
          refine sr ?_
          refine e_mv rfl ?_
          refine e_q (q_loadpa (vs := encKept1 (⟨⟨o.ID, o.Epoch⟩, k.version, k.done, o.ID, o.Version⟩ : Kept1)) ag_79 rfl pk_ rfl) ?_
          refine e_fn Tryz.func65 rfl sl_ (fun ρ' hL => keep_spec b room mb calls T a k cl work w dn (hearK k o) ρ' hT hU hr hc hus (hear_ok hk hm)) ?_
          rintro _ _ ⟨T1, rfl, hvT1, rfl⟩
          try simp only [List.cons_append, List.nil_append]
          refine e_q (q_not rfl) ?_
          refine l_n ?_
          refine c_cond rfl (fun h4 => ?_) (fun h4 => ?_)
          · skip
            have hz : ¬ (keepS room calls (vw T) (hearK k o)).1 = 0 := by simpa using h4
            rw [if_neg hz, if_neg hz]
            refine sr ?_
            refine e_as rfl ?_
            refine l_n ?_
            refine c_ret ?_
            refine k_then_r ?_
            have hr9 : (hearP room calls (vw T) cl k w dn o) = (92, (keepS room calls (vw T) (hearK k o)).2.1, (keepS room calls (vw T) (hearK k o)).2.2, k, w, true) := by unfold hearP; rw [if_neg (by rw [h0]; decide), if_neg (by omega), if_neg (by omega), if_neg (by omega), if_neg hz]
            exact t_rt [.pts a (encAgent1 (⟨k, (some b), cl, work, w, true⟩ : Agent1)) 81, .pts b (encDisk1 (⟨room, (some mb), (keepS room calls (vw T) (hearK k o)).2.2⟩ : Disk1)) 105, MP strB ptV mb (fm T1), FB 109 5 T1] rfl (.tmp rfl .nil) rfl ⟨rfl, T1, by rw [hr9]; rfl, by rw [hr9]; exact hvT1, by rw [hr9]⟩
          · skip
            have hz : (keepS room calls (vw T) (hearK k o)).1 = 0 := by simpa using h4
            rw [if_pos hz, if_pos hz]
            refine c_skip ?_
            refine k_then_n ?_
            refine sr ?_
            refine e_mv rfl ?_
            refine e_q (q_nilCheck rfl) ?_
            refine e_q (q_fieldp rfl fo_81_4) ?_
            refine l_step (s_s0 wn (s_storep (ws := [.int .i64 0]) (cs := encAgent1 (⟨(hearK k o), (some b), cl, work, w, dn⟩ : Agent1)) (cs' := encAgent1 (⟨(hearK k o), (some b), cl, work, 0, dn⟩ : Agent1)) rfl rfl rfl sz_3 (by simp [Value.oneCell', strB, ptV, SL.v, SH.v]) (by simp [encAgent1]) rfl pk_) ?_)
            rintro _ _ ⟨rfl, rfl⟩
            refine l_n ?_
            refine sr ?_
            refine e_as rfl ?_
            refine l_n ?_
            refine c_ret ?_
            have hr9 : (hearP room calls (vw T) cl k w dn o) = (0, (keepS room calls (vw T) (hearK k o)).2.1, (keepS room calls (vw T) (hearK k o)).2.2, hearK k o, 0, dn) := by unfold hearP; rw [if_neg (by rw [h0]; decide), if_neg (by omega), if_neg (by omega), if_neg (by omega), if_pos hz]
            exact t_rt [.pts a (encAgent1 (⟨(hearK k o), (some b), cl, work, 0, dn⟩ : Agent1)) 81, .pts b (encDisk1 (⟨room, (some mb), (keepS room calls (vw T) (hearK k o)).2.2⟩ : Disk1)) 105, MP strB ptV mb (fm T1), FB 109 5 T1] rfl (.tmp rfl .nil) rfl ⟨rfl, T1, by rw [hr9]; rfl, by rw [hr9]; exact hvT1, by rw [hr9]⟩
end Go.Agn

/-
  Walked.
-/
import Derived.Test.YtijldgggjioccaaGreatDoorShfD
import Derived.Test.YtijldgggjioccaaGreatDoorProg
set_option maxRecDepth 100000
set_option maxHeartbeats 4000000
set_option linter.unusedSimpArgs false
set_option linter.unusedVariables false
namespace Go.Shf
open Go Go.SL Go.Proofs Go.Mou Go.Dsk Go.Hrd
attribute [local irreducible] Go.SL.Ent
theorem sz_9 : sizeIs Tryz.prog 9 = some 1 := by kernel_rfl
theorem sc_9 : isScalar Tryz.prog 9 = true := by kernel_rfl
theorem zc_145 : zeroCs Tryz.prog 145 = some [.pointer none, .int .i64 0, .int .i64 0, .slice none 0 0, .slice none 0 0, .bool false] := by kernel_rfl
theorem pl_145 : placesOf Tryz.prog 145 = some [(0, 1), (1, 4), (5, 1)] := by kernel_rfl

theorem clean_spec (b : Nat) (room : Int) (mb : Nat) (calls : Int) (T : FT) (s : Nat) (tp : Snap1) (has : Bool) (ρ : Hp) (hT : FOk T) (hc : calls ≤ 9223372036854775807) : Spec0 Tryz.prog 23 #[.pointer (some ⟨s, 0, none⟩)] ρ [.pts s (encShelf1 (⟨(some b), tp, has⟩ : Shelf1)) 145, .pts b (encDisk1 (⟨room, (some mb), calls⟩ : Disk1)) 143, MP strB ptV mb (fm T), FB 154 5 T] (fun v Γ' => ∃ T', v = .int .i64 (cleanX calls (vw T) has (pS tp)).1 ∧ vw T' = (cleanX calls (vw T) has (pS tp)).2.1 ∧ Γ' = [.pts s (encShelf1 (⟨(some b), tp, has⟩ : Shelf1)) 145, .pts b (encDisk1 (⟨room, (some mb), (cleanX calls (vw T) has (pS tp)).2.2⟩ : Disk1)) 143, MP strB ptV mb (fm T'), FB 154 5 T']) := by
  refine spec_of (n := 53) (vs := [_]) (σ := [(0, _)]) Tryz.func23 rfl rfl rfl rfl fun E Δ => ?_
  simp only [List.cons_append, List.nil_append]
  refine sr ?_
  refine e_as rfl ?_
  refine l_n ?_
  refine c_seq ?_
  refine sr ?_
  refine e_mv rfl ?_
  refine e_q (q_nilCheck rfl) ?_
  refine e_q (q_fieldp rfl fo_145_0) ?_
  refine e_q (q_loadp (v := .pointer (some ⟨b, 0, none⟩)) sc_39 rfl pk_ rfl) ?_
  refine e_fn Tryz.func30 rfl sl_ (fun ρ' hL => Go.Dsk.X.names_spec b room mb calls T ρ' hT) ?_
  rintro _ _ ⟨aN, cN, rfl, rfl⟩
  try simp only [List.cons_append, List.nil_append]
  obtain ⟨NS, hNS⟩ : ∃ L : List (List UInt8), L = sortS (T.map (·.name)) := ⟨_, rfl⟩
  rw [← hNS]
  have hNl : NS.length = T.length := by rw [hNS, sortS_len, List.length_map]
  have hNk : NS = sortS (mkeys (vw T)) := by rw [hNS, vw_keys]
  have hN32 : ∀ f ∈ NS, f.length ≤ 32 := by rw [hNk]; exact names_len hT
  have hTn := hT.ln
  clear hNS
  refine e_q (q_len Tryz.underlying52 rfl) ?_
  refine e_mv rfl ?_
  refine l_n ?_
  refine c_block ?_
  refine Tr.env (σ' := [(0, _), (12, _), (13, _), (14, _)]) ev_ ?_
  refine t_loop (ι := Lp (Nat × FT × Int)) (fun x => x.d.1 ≤ NS.length ∧ (cleanL has (pS tp) NS calls (vw T)) = (cleanL has (pS tp) (NS.drop x.d.1) x.d.2.2 (vw x.d.2.1)) ∧ FOk x.d.2.1 ∧ x.d.2.2 ≤ 9223372036854775807) (fun x => NS.length - x.d.1) (fun x => [(0, .pointer (some ⟨s, 0, none⟩)), (12, .slice aN T.length cN), (13, .int .i64 (T.length : Int)), (14, .int .i64 (x.d.1 : Int))]) (fun x => .row 9 1 aN T.length cN (NS.flatMap Go.SL.encStr) :: .pts s (encShelf1 (⟨(some b), tp, has⟩ : Shelf1)) 145 :: .pts b (encDisk1 (⟨room, (some mb), x.d.2.2⟩ : Disk1)) 143 :: MP strB ptV mb (fm x.d.2.1) :: FB 154 5 x.d.2.1 :: Δ) (⟨(0, T, calls), none, 0, none, 0, none, 0⟩ : Lp _) ⟨Nat.zero_le _, rfl, hT, hc⟩ ?_ ?_ ?_
  · exact .c (.c (.c (.c (.nil _))))
  · exact en_
  intro x hx
  obtain ⟨hx1, hx2, hx3, hx4⟩ := hx
  refine sr ?_
  refine e_q (q_lss rfl rfl) ?_
  refine l_n ?_
  refine c_seq ?_
  refine c_cond rfl (fun h0 => ?_) (fun h0 => ?_)
  · try simp only [decide_eq_true_eq, decide_eq_false_iff_not] at h0
    have hxi : x.d.1 < NS.length := by omega
    have hf32 := hN32 (NS.getD x.d.1 default) (getD_in hxi)
    refine c_skip ?_
    refine k_then_n ?_
    refine c_seq ?_
    refine c_block ?_
    refine sr ?_
    refine e_q (q_indexe x.d.1 Tryz.underlying52 sz_9 rfl rfl (rd_row pk_) (by decide) rfl (by first | assumption | omega | (simp only [List.length_cons, List.length_nil]; omega))) ?_
    refine e_q (q_loade (enc := Go.SL.encStr) (xs := NS) (j := x.d.1) (off := 0) sc_9 rfl (rd_row pk_) (fun _ => rfl) (by first | assumption | omega | (simp only [List.length_cons, List.length_nil]; omega)) (by decide) rfl) ?_
    refine e_as rfl ?_
    refine l_n ?_
    refine sr ?_
    refine e_mv rfl ?_
    refine l_step (s_fnq rfl wn Tryz.func70 rfl (by kernel_rfl) rfl (fun ρ' hL => named_spec (NS.getD x.d.1 default) ρ' (by omega)) ?_)
    refine e_mv rfl ?_
    refine e_q (q_extract rfl rfl) ?_
    refine e_q (q_extract rfl rfl) ?_
    refine e_as rfl ?_
    refine e_as rfl ?_
    refine l_n ?_
    refine sr ?_
    refine e_mv rfl ?_
    refine e_mv rfl ?_
    refine t_split (d := 24) rfl (fun g5_1 => ?_) (fun g5_1 => ?_)
    · skip
      refine e_qw (wy rfl rfl rfl) (q_move rfl) ?_
      refine e_qw (wy rfl rfl rfl) (q_nilCheck rfl) ?_
      refine e_qw (wy rfl rfl rfl) (q_fieldp rfl fo_145_2) ?_
      refine e_qw (wy rfl rfl rfl) (q_loadp (v := .bool has) sc_4 rfl pk_ rfl) ?_
      refine e_q (q_pick rfl rfl rfl) ?_
      refine e_mv rfl ?_
      refine t_split (d := 30) rfl (fun g5_7 => ?_) (fun g5_7 => ?_)
      · skip
        refine e_qw (wy rfl rfl rfl) (q_move rfl) ?_
        refine e_qw (wy rfl rfl rfl) (q_move rfl) ?_
        refine e_qw (wy rfl rfl rfl) (q_nilCheck rfl) ?_
        refine e_qw (wy rfl rfl rfl) (q_fieldp rfl fo_145_1) ?_
        refine e_qw (wy rfl rfl rfl) (q_fieldp rfl fo_26_0) ?_
        refine e_qw (wy rfl rfl rfl) (q_fieldp rfl fo_24_0) ?_
        refine e_qw (wy rfl rfl rfl) (q_loadp (v := .int .i64 tp.Mark.Index) sc_3 rfl pk_ rfl) ?_
        refine e_qw (wy rfl rfl rfl) (q_lss rfl rfl) ?_
        refine e_q (q_pick rfl rfl rfl) ?_
        refine l_n ?_
        refine c_cond rfl (fun h1 => ?_) (fun h1 => ?_)
        · try simp only [decide_eq_true_eq, decide_eq_false_iff_not] at h1
          have hold : oldX has (pS tp) (NS.getD x.d.1 default) = true := old_eq.trans (by rw [show namB (NS.getD x.d.1 default) = true from g5_1, show has = true from g5_7, decide_eq_true (show namN (NS.getD x.d.1 default) < (pS tp).ix from h1)]; rfl)
          refine sr ?_
          refine e_mv rfl ?_
          refine e_q (q_nilCheck rfl) ?_
          refine e_q (q_fieldp rfl fo_145_0) ?_
          refine e_q (q_loadp (v := .pointer (some ⟨b, 0, none⟩)) sc_39 rfl pk_ rfl) ?_
          refine e_mv rfl ?_
          refine e_s (s_buildSlice (cs := ([(NS.getD x.d.1 default)] : List (List UInt8)).flatMap Go.SL.encStr) Tryz.underlying52 eo_9 rfl rfl rfl rfl (by decide) (by decide)) ?_
          rintro _ _ ⟨b45, rfl, rfl⟩
          refine e_fn Tryz.func76 rfl sl_ (fun ρ' hL => Go.Dsk.R.remove_spec b room mb x.d.2.2 x.d.2.1 (some ⟨b45, 0, none⟩) 1 1 [(NS.getD x.d.1 default)] rfl ρ' hx3 hx4 (by decide) (hL.row pk_)) ?_
          rintro _ _ ⟨T1, rfl, hvT1, rfl⟩
          try simp only [List.cons_append, List.nil_append]
          refine e_as rfl ?_
          refine l_n ?_
          refine sr ?_
          refine e_mv rfl ?_
          refine e_q (q_neq rfl rfl) ?_
          refine l_n ?_
          refine c_cond rfl (fun h2 => ?_) (fun h2 => ?_)
          · try simp only [decide_eq_true_eq, decide_eq_false_iff_not, ne_eq, Decidable.not_not] at h2
            refine sr ?_
            refine e_mv rfl ?_
            refine e_as rfl ?_
            refine l_n ?_
            refine c_ret ?_
            refine k_blk_r ?_
            refine k_then_r ?_
            refine k_then_r ?_
            refine k_blk_r ?_
            refine k_then_r ?_
            have hc9 : (cleanL has (pS tp) NS calls (vw T)) = ((remR x.d.2.2 (vw x.d.2.1) [(NS.getD x.d.1 default)]).1, (remR x.d.2.2 (vw x.d.2.1) [(NS.getD x.d.1 default)]).2, decC x.d.2.2) := hx2.trans (by rw [drop_cons hxi]; exact cl_err hold h2)
            have hr9 : (cleanX calls (vw T) has (pS tp)) = ((remR x.d.2.2 (vw x.d.2.1) [(NS.getD x.d.1 default)]).1, (remR x.d.2.2 (vw x.d.2.1) [(NS.getD x.d.1 default)]).2, decC x.d.2.2) := (clx_err (by rw [← hNk, hc9]; exact h2)).trans (by rw [← hNk]; exact hc9)
            exact t_rt [.pts s (encShelf1 (⟨(some b), tp, has⟩ : Shelf1)) 145, .pts b (encDisk1 (⟨room, (some mb), (decC x.d.2.2)⟩ : Disk1)) 143, MP strB ptV mb (fm T1), FB 154 5 T1] rfl (.tmp rfl .nil) rfl ⟨rfl, T1, by rw [hr9]; rfl, by rw [hr9]; exact hvT1, by rw [hr9]⟩ (by refine Ent.pick pk_ ?_; refine Ent.pick pk_ ?_; refine Ent.pick pk_ ?_; refine Ent.pick pk_ ?_; repeat (first | exact Ent.refl _ | refine Ent.skip ?_))
          · try simp only [decide_eq_true_eq, decide_eq_false_iff_not, ne_eq, Decidable.not_not] at h2
            have hF1 : FOk T1 := fok_of hvT1 (vok_rem (Go.Dsk.fok.1 hx3))
            refine c_skip ?_
            refine k_blk_n ?_
            refine k_then_n ?_
            refine c_region ?_
            refine e_q (q_add rfl rfl (by omega) (by omega)) ?_
            refine e_mv rfl ?_
            refine l_n ?_
            exact t_next (⟨(x.d.1 + 1, T1, decC x.d.2.2), none, 0, none, 0, none, 0⟩ : Lp _) ⟨⟨by show x.d.1 + 1 ≤ _; omega, hx2.trans (by rw [drop_cons hxi, cl_rem hold (by omega), hvT1]), hF1, decC_le hx4⟩, by show _ - (x.d.1 + 1) < _; omega⟩ (.c (.c (.c (.c (.nil _))))) (by refine Ent.pick pk_ ?_; refine Ent.pick pk_ ?_; refine Ent.pick pk_ ?_; refine Ent.pick pk_ ?_; refine Ent.pick pk_ ?_; repeat (first | exact Ent.refl _ | refine Ent.skip ?_))
        · try simp only [decide_eq_true_eq, decide_eq_false_iff_not] at h1
          have hold : oldX has (pS tp) (NS.getD x.d.1 default) = false := old_eq.trans (by rw [decide_eq_false (show ¬ namN (NS.getD x.d.1 default) < (pS tp).ix from h1), Bool.and_false])
          refine c_skip ?_
          refine k_blk_n ?_
          refine k_then_n ?_
          refine c_region ?_
          refine e_q (q_add rfl rfl (by omega) (by omega)) ?_
          refine e_mv rfl ?_
          refine l_n ?_
          exact t_next (⟨(x.d.1 + 1, x.d.2.1, x.d.2.2), none, 0, none, 0, none, 0⟩ : Lp _) ⟨⟨by show x.d.1 + 1 ≤ _; omega, hx2.trans (by rw [drop_cons hxi, cl_go hold]), hx3, hx4⟩, by show _ - (x.d.1 + 1) < _; omega⟩ (.c (.c (.c (.c (.nil _))))) (by refine Ent.pick pk_ ?_; refine Ent.pick pk_ ?_; refine Ent.pick pk_ ?_; refine Ent.pick pk_ ?_; refine Ent.pick pk_ ?_; repeat (first | exact Ent.refl _ | refine Ent.skip ?_))
      · skip
        have hold : oldX has (pS tp) (NS.getD x.d.1 default) = false := old_eq.trans (by rw [show has = false from g5_7]; simp)
        refine l_step (s_no rfl (wno rfl rfl (by decide)) ?_)
        refine l_step (s_no rfl (wno rfl rfl (by decide)) ?_)
        refine l_step (s_no rfl (wno rfl rfl (by decide)) ?_)
        refine l_step (s_no rfl (wno rfl rfl (by decide)) ?_)
        refine l_step (s_no rfl (wno rfl rfl (by decide)) ?_)
        refine l_step (s_no rfl (wno rfl rfl (by decide)) ?_)
        refine l_step (s_no rfl (wno rfl rfl (by decide)) ?_)
        refine l_step (s_no rfl (wno rfl rfl (by decide)) ?_)
        refine e_q (q_pick rfl rfl rfl) ?_
        refine l_n ?_
        refine c_no rfl ?_
        refine c_skip ?_
        refine k_blk_n ?_
        refine k_then_n ?_
        refine c_region ?_
        refine e_q (q_add rfl rfl (by omega) (by omega)) ?_
        refine e_mv rfl ?_
        refine l_n ?_
        exact t_next (⟨(x.d.1 + 1, x.d.2.1, x.d.2.2), none, 0, none, 0, none, 0⟩ : Lp _) ⟨⟨by show x.d.1 + 1 ≤ _; omega, hx2.trans (by rw [drop_cons hxi, cl_go hold]), hx3, hx4⟩, by show _ - (x.d.1 + 1) < _; omega⟩ (.c (.c (.c (.c (.nil _))))) (by refine Ent.pick pk_ ?_; refine Ent.pick pk_ ?_; refine Ent.pick pk_ ?_; refine Ent.pick pk_ ?_; refine Ent.pick pk_ ?_; repeat (first | exact Ent.refl _ | refine Ent.skip ?_))
    · skip
      have hold : oldX has (pS tp) (NS.getD x.d.1 default) = false := old_eq.trans (by rw [show namB (NS.getD x.d.1 default) = false from g5_1]; rfl)
      refine l_step (s_no rfl (wno rfl rfl (by decide)) ?_)
      refine l_step (s_no rfl (wno rfl rfl (by decide)) ?_)
      refine l_step (s_no rfl (wno rfl rfl (by decide)) ?_)
      refine l_step (s_no rfl (wno rfl rfl (by decide)) ?_)
      refine e_q (q_pick rfl rfl rfl) ?_
      refine e_mv rfl ?_
      refine l_step (s_no rfl (wno rfl rfl (by decide)) ?_)
      refine l_step (s_no rfl (wno rfl rfl (by decide)) ?_)
      refine l_step (s_no rfl (wno rfl rfl (by decide)) ?_)
      refine l_step (s_no rfl (wno rfl rfl (by decide)) ?_)
      refine l_step (s_no rfl (wno rfl rfl (by decide)) ?_)
      refine l_step (s_no rfl (wno rfl rfl (by decide)) ?_)
      refine l_step (s_no rfl (wno rfl rfl (by decide)) ?_)
      refine l_step (s_no rfl (wno rfl rfl (by decide)) ?_)
      refine e_q (q_pick rfl rfl rfl) ?_
      refine l_n ?_
      refine c_no rfl ?_
      refine c_skip ?_
      refine k_blk_n ?_
      refine k_then_n ?_
      refine c_region ?_
      refine e_q (q_add rfl rfl (by omega) (by omega)) ?_
      refine e_mv rfl ?_
      refine l_n ?_
      exact t_next (⟨(x.d.1 + 1, x.d.2.1, x.d.2.2), none, 0, none, 0, none, 0⟩ : Lp _) ⟨⟨by show x.d.1 + 1 ≤ _; omega, hx2.trans (by rw [drop_cons hxi, cl_go hold]), hx3, hx4⟩, by show _ - (x.d.1 + 1) < _; omega⟩ (.c (.c (.c (.c (.nil _))))) (by refine Ent.pick pk_ ?_; refine Ent.pick pk_ ?_; refine Ent.pick pk_ ?_; refine Ent.pick pk_ ?_; refine Ent.pick pk_ ?_; repeat (first | exact Ent.refl _ | refine Ent.skip ?_))
  · try simp only [decide_eq_true_eq, decide_eq_false_iff_not] at h0
    refine c_exit ?_
    refine k_then_x ?_
    refine k_then_x ?_
    refine k_blk_x ?_
    refine k_then_n ?_
    refine sr ?_
    refine e_mv rfl ?_
    refine e_fn Tryz.func71 rfl sl_ (fun ρ' hL => drop_spec b room mb x.d.2.2 x.d.2.1 s tp has aside ρ' hx3 hx4) ?_
    rintro _ _ ⟨T2, rfl, hvT2, rfl⟩
    try simp only [List.cons_append, List.nil_append]
    refine e_as rfl ?_
    refine l_n ?_
    refine c_ret ?_
    have hc9 : (cleanL has (pS tp) NS calls (vw T)) = (0, vw x.d.2.1, x.d.2.2) := hx2.trans (by rw [List.drop_of_length_le (by omega)]; rfl)
    have hr9 : (cleanX calls (vw T) has (pS tp)) = (remS x.d.2.2 (vw x.d.2.1) aside) := (clx_ok (by rw [← hNk, hc9])).trans (by rw [← hNk, hc9])
    exact t_rt [.pts s (encShelf1 (⟨(some b), tp, has⟩ : Shelf1)) 145, .pts b (encDisk1 (⟨room, (some mb), (remS x.d.2.2 (vw x.d.2.1) aside).2.2⟩ : Disk1)) 143, MP strB ptV mb (fm T2), FB 154 5 T2] rfl (.tmp rfl .nil) rfl ⟨rfl, T2, by rw [hr9]; rfl, by rw [hr9]; exact hvT2, by rw [hr9]⟩ (by refine Ent.pick pk_ ?_; refine Ent.pick pk_ ?_; refine Ent.pick pk_ ?_; refine Ent.pick pk_ ?_; repeat (first | exact Ent.refl _ | refine Ent.skip ?_))

theorem open__spec (b : Nat) (room : Int) (mb : Nat) (calls : Int) (T : FT) (ρ : Hp) (hT : FOk T) : Spec0 Tryz.prog 20 #[.pointer (some ⟨b, 0, none⟩)] ρ [.pts b (encDisk1 (⟨room, (some mb), calls⟩ : Disk1)) 143, MP strB ptV mb (fm T), FB 154 5 T] (fun v Γ' => ∃ s tp has, v = .tuple #[.pointer (some ⟨s, 0, none⟩), .int .i64 0] ∧ (pS tp, has) = newX (vw T) ∧ Γ' = [.pts s (encShelf1 (⟨(some b), tp, has⟩ : Shelf1)) 145, .row 5 1 tp.Conf.a tp.Conf.xs.length tp.Conf.cap (tp.Conf.xs.flatMap encB), .row 5 1 tp.Body.a tp.Body.xs.length tp.Body.cap (tp.Body.xs.flatMap encB), .pts b (encDisk1 (⟨room, (some mb), calls⟩ : Disk1)) 143, MP strB ptV mb (fm T), FB 154 5 T]) := by
  refine spec_of (n := 61) (vs := [_]) (σ := [(0, _)]) Tryz.func20 rfl rfl rfl rfl fun E Δ => ?_
  simp only [List.cons_append, List.nil_append]
  refine sr ?_
  refine e_as rfl ?_
  refine e_as rfl ?_
  refine l_n ?_
  refine c_seq ?_
  refine sr ?_
  refine e_mv rfl ?_
  refine e_q (by first | exact q_eqlp rfl rfl Tryz.underlying39 | exact q_eqlp0 rfl rfl Tryz.underlying39) ?_
  refine l_n ?_
  refine c_sure false rfl (by rfl) ?_
  simp only [Bool.false_eq_true, if_true, if_false]
  refine c_skip ?_
  refine k_then_n ?_
  refine sr ?_
  refine e_mv rfl ?_
  refine e_q (q_build (cs := encShelf1 (⟨(some b), zSnap1, false⟩ : Shelf1)) zc_145 pl_145 rfl rfl) ?_
  refine e_s (s_box (cs := encShelf1 (⟨(some b), zSnap1, false⟩ : Shelf1)) rfl rfl) ?_
  rintro _ _ ⟨b17, rfl, rfl⟩
  refine e_as rfl ?_
  refine l_n ?_
  refine c_seq ?_
  refine sr ?_
  refine Tr.ent (Ent.nilrow 5 1 _) ?_
  refine Tr.ent (Ent.nilrow 5 1 _) ?_
  refine e_mv rfl ?_
  refine e_fn Tryz.func30 rfl sl_ (fun ρ' hL => Go.Dsk.X.names_spec b room mb calls T ρ' hT) ?_
  rintro _ _ ⟨aN, cN, rfl, rfl⟩
  try simp only [List.cons_append, List.nil_append]
  obtain ⟨NS, hNS⟩ : ∃ L : List (List UInt8), L = sortS (T.map (·.name)) := ⟨_, rfl⟩
  rw [← hNS]
  have hNl : NS.length = T.length := by rw [hNS, sortS_len, List.length_map]
  have hNk : NS = sortS (mkeys (vw T)) := by rw [hNS, vw_keys]
  have hN32 : ∀ f ∈ NS, f.length ≤ 32 := by rw [hNk]; exact names_len hT
  have hTn := hT.ln
  clear hNS
  refine e_q (q_len Tryz.underlying52 rfl) ?_
  refine e_mv rfl ?_
  refine l_n ?_
  refine c_block ?_
  refine Tr.env (σ' := [(0, _), (2, _), (3, _), (4, _), (19, _), (20, _), (21, _)]) ev_ ?_
  refine t_loop (ι := Lp (Nat × Snap1 × Bool)) (fun x => x.d.1 ≤ NS.length ∧ (pS x.d.2.1, x.d.2.2) = ((NS.take x.d.1).foldl (stepX (vw T)) (zPS, false))) (fun x => NS.length - x.d.1) (fun x => [(0, .pointer (some ⟨b, 0, none⟩)), (2, .pointer none), (3, .int .i64 0), (4, .pointer (some ⟨b17, 0, none⟩)), (19, .slice aN T.length cN), (20, .int .i64 (T.length : Int)), (21, .int .i64 (x.d.1 : Int))]) (fun x => .row 9 1 aN T.length cN (NS.flatMap Go.SL.encStr) :: .row 5 1 x.d.2.1.Conf.a x.d.2.1.Conf.xs.length x.d.2.1.Conf.cap (x.d.2.1.Conf.xs.flatMap encB) :: .row 5 1 x.d.2.1.Body.a x.d.2.1.Body.xs.length x.d.2.1.Body.cap (x.d.2.1.Body.xs.flatMap encB) :: .pts b17 (encShelf1 (⟨(some b), x.d.2.1, x.d.2.2⟩ : Shelf1)) 145 :: .pts b (encDisk1 (⟨room, (some mb), calls⟩ : Disk1)) 143 :: MP strB ptV mb (fm T) :: FB 154 5 T :: Δ) (⟨(0, zSnap1, false), none, 0, none, 0, none, 0⟩ : Lp _) ⟨Nat.zero_le _, rfl⟩ ?_ ?_ ?_
  · exact .c (.c (.c (.c (.c (.c (.c (.nil _)))))))
  · exact en_
  intro x hx
  obtain ⟨hx1, hx2⟩ := hx
  refine sr ?_
  refine e_q (q_lss rfl rfl) ?_
  refine l_n ?_
  refine c_seq ?_
  refine c_cond rfl (fun h1 => ?_) (fun h1 => ?_)
  · try simp only [decide_eq_true_eq, decide_eq_false_iff_not] at h1
    have hxi : x.d.1 < NS.length := by omega
    have hf32 := hN32 (NS.getD x.d.1 default) (getD_in hxi)
    refine c_skip ?_
    refine k_then_n ?_
    refine c_seq ?_
    refine c_block ?_
    refine sr ?_
    refine e_q (q_indexe x.d.1 Tryz.underlying52 sz_9 rfl rfl (rd_row pk_) (by decide) rfl (by first | assumption | omega | (simp only [List.length_cons, List.length_nil]; omega))) ?_
    refine e_q (q_loade (enc := Go.SL.encStr) (xs := NS) (j := x.d.1) (off := 0) sc_9 rfl (rd_row pk_) (fun _ => rfl) (by first | assumption | omega | (simp only [List.length_cons, List.length_nil]; omega)) (by decide) rfl) ?_
    refine e_as rfl ?_
    refine l_n ?_
    refine sr ?_
    refine e_mv rfl ?_
    refine l_step (s_fnq rfl wn Tryz.func70 rfl (by kernel_rfl) rfl (fun ρ' hL => named_spec (NS.getD x.d.1 default) ρ' (by omega)) ?_)
    refine e_mv rfl ?_
    refine e_q (q_extract rfl rfl) ?_
    refine e_q (q_extract rfl rfl) ?_
    refine e_as rfl ?_
    refine e_as rfl ?_
    refine l_n ?_
    refine c_seq ?_
    refine sr ?_
    refine e_mv rfl ?_
    refine e_q (q_not rfl) ?_
    refine l_n ?_
    refine c_cond rfl (fun h2 => ?_) (fun h2 => ?_)
    · skip
      have hnb : namB (NS.getD x.d.1 default) = false := by have h9 := h2; rw [Bool.not_eq_true'] at h9; exact h9
      refine c_exit ?_
      refine k_then_x ?_
      refine k_blk_x ?_
      refine k_then_n ?_
      refine c_region ?_
      refine e_q (q_add rfl rfl (by omega) (by omega)) ?_
      refine e_mv rfl ?_
      refine l_n ?_
      exact t_next (⟨(x.d.1 + 1, x.d.2.1, x.d.2.2), none, 0, none, 0, none, 0⟩ : Lp _) ⟨⟨by show x.d.1 + 1 ≤ _; omega, by show (pS x.d.2.1, x.d.2.2) = _; rw [fold_next hxi, ← hx2, st_no hnb]⟩, by show _ - (x.d.1 + 1) < _; omega⟩ (.c (.c (.c (.c (.c (.c (.c (.nil _)))))))) (by refine Ent.pick pk_ ?_; refine Ent.pick pk_ ?_; refine Ent.pick pk_ ?_; refine Ent.pick pk_ ?_; refine Ent.pick pk_ ?_; refine Ent.pick pk_ ?_; refine Ent.pick pk_ ?_; repeat (first | exact Ent.refl _ | refine Ent.skip ?_))
    · skip
      have hnb : namB (NS.getD x.d.1 default) = true := by have h9 := h2; rw [Bool.not_eq_false'] at h9; exact h9
      refine c_skip ?_
      refine k_then_n ?_
      refine sr ?_
      refine e_mv rfl ?_
      refine e_mv rfl ?_
      refine e_fn Tryz.func31 rfl sl_ (fun ρ' hL => Go.Dsk.X.read_spec b room mb calls T (NS.getD x.d.1 default) ρ' hT) ?_
      rintro _ _ ⟨aR, cR, rfl, rfl⟩
      try simp only [List.cons_append, List.nil_append]
      refine e_mv rfl ?_
      refine e_q (q_extract rfl rfl) ?_
      refine e_q (q_extract rfl rfl) ?_
      refine e_as rfl ?_
      refine e_as rfl ?_
      refine l_n ?_
      refine sr ?_
      refine e_mv rfl ?_
      refine e_fn Tryz.func13 rfl sl_ (fun ρ' hL => parse_spec (⟨aR, (mgetD (vw T) (NS.getD x.d.1 default) zF).1, cR⟩ : SL UInt8) ρ' (hL.row pk_) (name_used hT (NS.getD x.d.1 default))) ?_
      rintro _ _ ⟨y, rfl, hy, rfl⟩
      try simp only [List.cons_append, List.nil_append]
      have hyi : y.Mark.Index = (parseX (mgetD (vw T) (NS.getD x.d.1 default) zF).1).2.ix := by rw [← hy]; rfl
      refine e_mv rfl ?_
      refine e_q (q_extract rfl rfl) ?_
      refine e_q (q_extract rfl rfl) ?_
      refine e_s (s_allocz (cs := encSnap1 zSnap1) (by kernel_rfl)) ?_
      rintro _ _ ⟨b11, rfl, rfl⟩
      refine l_step (s_s0 wn (s_storep (ws := encSnap1 y) (cs := encSnap1 zSnap1) (cs' := encSnap1 y) rfl rfl rfl sz_26 (oneSnap1 _) (by simp [encSnap1, encSnap1]) rfl pk_) ?_)
      rintro _ _ ⟨rfl, rfl⟩
      refine e_as rfl ?_
      refine l_n ?_
      refine sr ?_
      refine e_mv rfl ?_
      refine e_q (q_eql rfl rfl) ?_
      refine e_mv rfl ?_
      refine t_split (d := 45) rfl (fun g11_2 => ?_) (fun g11_2 => ?_)
      · try simp only [decide_eq_true_eq, decide_eq_false_iff_not] at g11_2
        have hp0 : (parseX (mgetD (vw T) (NS.getD x.d.1 default) zF).1).1 = 0 := g11_2
        refine e_qw (wy rfl rfl rfl) (q_fieldp rfl fo_26_0) ?_
        refine e_qw (wy rfl rfl rfl) (q_fieldp rfl fo_24_0) ?_
        refine e_qw (wy rfl rfl rfl) (q_loadp (v := .int .i64 y.Mark.Index) sc_3 rfl pk_ rfl) ?_
        refine e_qw (wy rfl rfl rfl) (q_move rfl) ?_
        refine e_qw (wy rfl rfl rfl) (q_eql rfl rfl) ?_
        refine e_q (q_pick rfl rfl rfl) ?_
        refine l_n ?_
        refine c_cond rfl (fun h3 => ?_) (fun h3 => ?_)
        · try simp only [decide_eq_true_eq, decide_eq_false_iff_not] at h3
          have hpi : (parseX (mgetD (vw T) (NS.getD x.d.1 default) zF).1).2.ix = namN (NS.getD x.d.1 default) := by rw [← hyi]; exact h3
          refine c_region ?_
          refine e_mv rfl ?_
          refine e_mv rfl ?_
          refine e_q (q_loadpa (vs := encSnap1 y) ag_26 rfl pk_ rfl) ?_
          refine e_q (q_nilCheck rfl) ?_
          refine e_q (q_fieldp rfl fo_145_1) ?_
          refine l_step (s_s0 wn (s_storep (ws := encSnap1 y) (cs := encShelf1 (⟨(some b), x.d.2.1, x.d.2.2⟩ : Shelf1)) (cs' := encShelf1 (⟨(some b), y, x.d.2.2⟩ : Shelf1)) rfl rfl rfl sz_26 (oneSnap1 _) (by simp [encShelf1, encSnap1]) rfl pk_) ?_)
          rintro _ _ ⟨rfl, rfl⟩
          refine e_q (q_nilCheck rfl) ?_
          refine e_q (q_fieldp rfl fo_145_2) ?_
          refine l_step (s_s0 wn (s_storep (ws := [.bool true]) (cs := encShelf1 (⟨(some b), y, x.d.2.2⟩ : Shelf1)) (cs' := encShelf1 (⟨(some b), y, true⟩ : Shelf1)) rfl rfl rfl sz_4 (by simp [Value.oneCell', strB, ptV, SL.v, SH.v]) (by simp [encShelf1]) rfl pk_) ?_)
          rintro _ _ ⟨rfl, rfl⟩
          refine l_nil ?_
          refine k_blk_n ?_
          refine k_then_n ?_
          refine c_region ?_
          refine e_q (q_add rfl rfl (by omega) (by omega)) ?_
          refine e_mv rfl ?_
          refine l_n ?_
          exact t_next (⟨(x.d.1 + 1, y, true), none, 0, none, 0, none, 0⟩ : Lp _) ⟨⟨by show x.d.1 + 1 ≤ _; omega, by show (pS y, true) = _; rw [fold_next hxi, st_yes hnb hp0 hpi, hy]⟩, by show _ - (x.d.1 + 1) < _; omega⟩ (.c (.c (.c (.c (.c (.c (.c (.nil _)))))))) (by refine Ent.pick pk_ ?_; refine Ent.pick pk_ ?_; refine Ent.pick pk_ ?_; refine Ent.pick pk_ ?_; refine Ent.pick pk_ ?_; refine Ent.pick pk_ ?_; refine Ent.pick pk_ ?_; repeat (first | exact Ent.refl _ | refine Ent.skip ?_))
        · try simp only [decide_eq_true_eq, decide_eq_false_iff_not] at h3
          have hpn : ¬((parseX (mgetD (vw T) (NS.getD x.d.1 default) zF).1).1 = 0 ∧ (parseX (mgetD (vw T) (NS.getD x.d.1 default) zF).1).2.ix = namN (NS.getD x.d.1 default)) := fun h9 => h3 (by rw [hyi]; exact h9.2)
          refine c_skip ?_
          refine k_blk_n ?_
          refine k_then_n ?_
          refine c_region ?_
          refine e_q (q_add rfl rfl (by omega) (by omega)) ?_
          refine e_mv rfl ?_
          refine l_n ?_
          exact t_next (⟨(x.d.1 + 1, x.d.2.1, x.d.2.2), none, 0, none, 0, none, 0⟩ : Lp _) ⟨⟨by show x.d.1 + 1 ≤ _; omega, by show (pS x.d.2.1, x.d.2.2) = _; rw [fold_next hxi, ← hx2, st_bad hnb hpn]⟩, by show _ - (x.d.1 + 1) < _; omega⟩ (.c (.c (.c (.c (.c (.c (.c (.nil _)))))))) (by refine Ent.pick pk_ ?_; refine Ent.pick pk_ ?_; refine Ent.pick pk_ ?_; refine Ent.pick pk_ ?_; refine Ent.pick pk_ ?_; refine Ent.pick pk_ ?_; refine Ent.pick pk_ ?_; repeat (first | exact Ent.refl _ | refine Ent.skip ?_))
      · try simp only [decide_eq_true_eq, decide_eq_false_iff_not] at g11_2
        have hpn : ¬((parseX (mgetD (vw T) (NS.getD x.d.1 default) zF).1).1 = 0 ∧ (parseX (mgetD (vw T) (NS.getD x.d.1 default) zF).1).2.ix = namN (NS.getD x.d.1 default)) := fun h9 => g11_2 h9.1
        refine l_step (s_no rfl (wno rfl rfl (by decide)) ?_)
        refine l_step (s_no rfl (wno rfl rfl (by decide)) ?_)
        refine l_step (s_no rfl (wno rfl rfl (by decide)) ?_)
        refine l_step (s_no rfl (wno rfl rfl (by decide)) ?_)
        refine l_step (s_no rfl (wno rfl rfl (by decide)) ?_)
        refine e_q (q_pick rfl rfl rfl) ?_
        refine l_n ?_
        refine c_no rfl ?_
        refine c_skip ?_
        refine k_blk_n ?_
        refine k_then_n ?_
        refine c_region ?_
        refine e_q (q_add rfl rfl (by omega) (by omega)) ?_
        refine e_mv rfl ?_
        refine l_n ?_
        exact t_next (⟨(x.d.1 + 1, x.d.2.1, x.d.2.2), none, 0, none, 0, none, 0⟩ : Lp _) ⟨⟨by show x.d.1 + 1 ≤ _; omega, by show (pS x.d.2.1, x.d.2.2) = _; rw [fold_next hxi, ← hx2, st_bad hnb hpn]⟩, by show _ - (x.d.1 + 1) < _; omega⟩ (.c (.c (.c (.c (.c (.c (.c (.nil _)))))))) (by refine Ent.pick pk_ ?_; refine Ent.pick pk_ ?_; refine Ent.pick pk_ ?_; refine Ent.pick pk_ ?_; refine Ent.pick pk_ ?_; refine Ent.pick pk_ ?_; refine Ent.pick pk_ ?_; repeat (first | exact Ent.refl _ | refine Ent.skip ?_))
  · try simp only [decide_eq_true_eq, decide_eq_false_iff_not] at h1
    have hk : x.d.1 = NS.length := by omega
    rw [hk, List.take_length] at hx2
    refine c_exit ?_
    refine k_then_x ?_
    refine k_then_x ?_
    refine k_blk_x ?_
    refine k_then_n ?_
    refine sr ?_
    refine e_mv rfl ?_
    refine e_as rfl ?_
    refine e_as rfl ?_
    refine l_n ?_
    refine c_ret ?_
    exact t_rt [.pts b17 (encShelf1 (⟨(some b), x.d.2.1, x.d.2.2⟩ : Shelf1)) 145, .row 5 1 x.d.2.1.Conf.a x.d.2.1.Conf.xs.length x.d.2.1.Conf.cap (x.d.2.1.Conf.xs.flatMap encB), .row 5 1 x.d.2.1.Body.a x.d.2.1.Body.xs.length x.d.2.1.Body.cap (x.d.2.1.Body.xs.flatMap encB), .pts b (encDisk1 (⟨room, (some mb), calls⟩ : Disk1)) 143, MP strB ptV mb (fm T), FB 154 5 T] rfl (.tmp rfl (.tmp rfl .nil)) rfl ⟨rfl, b17, x.d.2.1, x.d.2.2, rfl, hx2.trans (by rw [hNk]; rfl), rfl⟩ (by refine Ent.pick pk_ ?_; refine Ent.pick pk_ ?_; refine Ent.pick pk_ ?_; refine Ent.pick pk_ ?_; refine Ent.pick pk_ ?_; refine Ent.pick pk_ ?_; repeat (first | exact Ent.refl _ | refine Ent.skip ?_))

theorem same_spec (x : Snap1) (z : Snap1) (ρ : Hp) (h1 : x.Conf.ro encB 1 ρ) (h2 : x.Body.ro encB 1 ρ) (h3 : z.Conf.ro encB 1 ρ) (h4 : z.Body.ro encB 1 ρ) : Spec0 Tryz.prog 15 #[.agg (encSnap1 x).toArray, .agg (encSnap1 z).toArray] ρ [] (fun v Γ' => v = .bool ((decide (pS x = pS z))) ∧ Γ' = []) := by
  refine spec_of (n := 28) (vs := [_, _]) (σ := [(0, _), (1, _)]) Tryz.func15 rfl rfl rfl rfl fun E Δ => ?_
  rw [List.nil_append]
  refine sr ?_
  refine e_s (s_box (cs := encSnap1 x) rfl rfl) ?_
  rintro _ _ ⟨b2, rfl, rfl⟩
  refine e_s (s_box (cs := encSnap1 z) rfl rfl) ?_
  rintro _ _ ⟨b3, rfl, rfl⟩
  refine e_as rfl ?_
  refine l_n ?_
  refine sr ?_
  refine e_q (q_fieldp rfl fo_26_0) ?_
  refine e_q (q_loadpa (vs := encMark1 x.Mark) ag_24 rfl pk_ rfl) ?_
  refine e_q (q_fieldp rfl fo_26_0) ?_
  refine e_q (q_loadpa (vs := encMark1 z.Mark) ag_24 rfl pk_ rfl) ?_
  refine e_q (q_eqlst (offs := [0, 1]) (la := [x.Mark.Index, x.Mark.Term]) (lb := [z.Mark.Index, z.Mark.Term]) (by kernel_rfl) rfl rfl (by intro o ho; simp only [List.mem_cons, List.not_mem_nil, or_false] at ho; rcases ho with rfl | rfl <;> exact ⟨_, _, _, rfl, rfl⟩) rfl rfl) ?_
  refine e_mv rfl ?_
  refine t_split (d := 10) rfl (fun g1_5 => ?_) (fun g1_5 => ?_)
  · try simp only [decide_eq_true_eq, decide_eq_false_iff_not] at g1_5
    refine e_qw (wy rfl rfl rfl) (q_fieldp rfl fo_26_1) ?_
    refine e_qw (wy rfl rfl rfl) (q_loadp (v := .slice x.Conf.a x.Conf.xs.length x.Conf.cap) sc_22 rfl pk_ rfl) ?_
    refine e_qw (wy rfl rfl rfl) (q_tostr (bs := x.Conf.xs) Tryz.underlying22 Tryz.underlying5 Tryz.underlying9 rfl (rd_ro h1)) ?_
    refine e_qw (wy rfl rfl rfl) (q_fieldp rfl fo_26_1) ?_
    refine e_qw (wy rfl rfl rfl) (q_loadp (v := .slice z.Conf.a z.Conf.xs.length z.Conf.cap) sc_22 rfl pk_ rfl) ?_
    refine e_qw (wy rfl rfl rfl) (q_tostr (bs := z.Conf.xs) Tryz.underlying22 Tryz.underlying5 Tryz.underlying9 rfl (rd_ro h3)) ?_
    refine e_qw (wy rfl rfl rfl) (q_eqlsB (p := x.Conf.xs) (q := z.Conf.xs) rfl rfl) ?_
    refine e_q (q_pick rfl rfl rfl) ?_
    refine e_mv rfl ?_
    refine t_split (d := 19) rfl (fun g1_14 => ?_) (fun g1_14 => ?_)
    · try simp only [decide_eq_true_eq, decide_eq_false_iff_not] at g1_14
      refine e_qw (wy rfl rfl rfl) (q_fieldp rfl fo_26_2) ?_
      refine e_qw (wy rfl rfl rfl) (q_loadp (v := .slice x.Body.a x.Body.xs.length x.Body.cap) sc_22 rfl pk_ rfl) ?_
      refine e_qw (wy rfl rfl rfl) (q_tostr (bs := x.Body.xs) Tryz.underlying22 Tryz.underlying5 Tryz.underlying9 rfl (rd_ro h2)) ?_
      refine e_qw (wy rfl rfl rfl) (q_fieldp rfl fo_26_2) ?_
      refine e_qw (wy rfl rfl rfl) (q_loadp (v := .slice z.Body.a z.Body.xs.length z.Body.cap) sc_22 rfl pk_ rfl) ?_
      refine e_qw (wy rfl rfl rfl) (q_tostr (bs := z.Body.xs) Tryz.underlying22 Tryz.underlying5 Tryz.underlying9 rfl (rd_ro h4)) ?_
      refine e_qw (wy rfl rfl rfl) (q_eqlsB (p := x.Body.xs) (q := z.Body.xs) rfl rfl) ?_
      refine e_q (q_pick rfl rfl rfl) ?_
      refine e_as rfl ?_
      refine l_n ?_
      refine c_ret ?_
      exact t_rt [] rfl (.tmp rfl .nil) rfl ⟨rfl, boole (by cases x; cases z; simp_all [pS]), rfl⟩ (by (repeat refine Ent.skip ?_); exact Ent.refl _)
    · try simp only [decide_eq_true_eq, decide_eq_false_iff_not] at g1_14
      refine l_step (s_no rfl (wno rfl rfl (by decide)) ?_)
      refine l_step (s_no rfl (wno rfl rfl (by decide)) ?_)
      refine l_step (s_no rfl (wno rfl rfl (by decide)) ?_)
      refine l_step (s_no rfl (wno rfl rfl (by decide)) ?_)
      refine l_step (s_no rfl (wno rfl rfl (by decide)) ?_)
      refine l_step (s_no rfl (wno rfl rfl (by decide)) ?_)
      refine l_step (s_no rfl (wno rfl rfl (by decide)) ?_)
      refine e_q (q_pick rfl rfl rfl) ?_
      refine e_as rfl ?_
      refine l_n ?_
      refine c_ret ?_
      exact t_rt [] rfl (.tmp rfl .nil) rfl ⟨rfl, boole (by cases x; cases z; simp_all [pS]), rfl⟩ (by (repeat refine Ent.skip ?_); exact Ent.refl _)
  · try simp only [decide_eq_true_eq, decide_eq_false_iff_not] at g1_5
    refine l_step (s_no rfl (wno rfl rfl (by decide)) ?_)
    refine l_step (s_no rfl (wno rfl rfl (by decide)) ?_)
    refine l_step (s_no rfl (wno rfl rfl (by decide)) ?_)
    refine l_step (s_no rfl (wno rfl rfl (by decide)) ?_)
    refine l_step (s_no rfl (wno rfl rfl (by decide)) ?_)
    refine l_step (s_no rfl (wno rfl rfl (by decide)) ?_)
    refine l_step (s_no rfl (wno rfl rfl (by decide)) ?_)
    refine e_q (q_pick rfl rfl rfl) ?_
    refine e_mv rfl ?_
    refine l_step (s_no rfl (wno rfl rfl (by decide)) ?_)
    refine l_step (s_no rfl (wno rfl rfl (by decide)) ?_)
    refine l_step (s_no rfl (wno rfl rfl (by decide)) ?_)
    refine l_step (s_no rfl (wno rfl rfl (by decide)) ?_)
    refine l_step (s_no rfl (wno rfl rfl (by decide)) ?_)
    refine l_step (s_no rfl (wno rfl rfl (by decide)) ?_)
    refine l_step (s_no rfl (wno rfl rfl (by decide)) ?_)
    refine e_q (q_pick rfl rfl rfl) ?_
    refine e_as rfl ?_
    refine l_n ?_
    refine c_ret ?_
    exact t_rt [] rfl (.tmp rfl .nil) rfl ⟨rfl, boole (by cases x; cases z; simp_all [pS]), rfl⟩ (by (repeat refine Ent.skip ?_); exact Ent.refl _)
end Go.Shf

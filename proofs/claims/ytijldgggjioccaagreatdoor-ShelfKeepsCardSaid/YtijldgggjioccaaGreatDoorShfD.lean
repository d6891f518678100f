/-
  Walked.
-/
import Derived.Test.YtijldgggjioccaaGreatDoorShfB
import Derived.Test.YtijldgggjioccaaGreatDoorShfX
import Derived.Test.YtijldgggjioccaaGreatDoorProg
set_option maxRecDepth 100000
set_option maxHeartbeats 4000000
set_option linter.unusedSimpArgs false
set_option linter.unusedVariables false
namespace Go.Shf
open Go Go.SL Go.Proofs Go.Mou Go.Dsk Go.Hrd
attribute [local irreducible] Go.SL.Ent
theorem fo_145_1 : fieldOff Tryz.prog 145 1 = some (1, 26) := by kernel_rfl
theorem fo_145_2 : fieldOff Tryz.prog 145 2 = some (5, 4) := by kernel_rfl
theorem sc_4 : isScalar Tryz.prog 4 = true := by kernel_rfl
theorem fo_145_0 : fieldOff Tryz.prog 145 0 = some (0, 39) := by kernel_rfl
theorem sc_39 : isScalar Tryz.prog 39 = true := by kernel_rfl
theorem eo_9 : elemOk Tryz.prog 9 1 16 = true := by kernel_rfl
theorem sz_4 : sizeIs Tryz.prog 4 = some 1 := by kernel_rfl

theorem newest_spec (b : Nat) (s : Nat) (tp : Snap1) (has : Bool) (ρ : Hp) (htc : tp.Conf.xs.length ≤ 400000000000) (htb : tp.Body.xs.length ≤ 400000000000) : Spec0 Tryz.prog 25 #[.pointer (some ⟨s, 0, none⟩)] ρ [.pts s (encShelf1 (⟨(some b), tp, has⟩ : Shelf1)) 145, .row 5 1 tp.Conf.a tp.Conf.xs.length tp.Conf.cap (tp.Conf.xs.flatMap encB), .row 5 1 tp.Body.a tp.Body.xs.length tp.Body.cap (tp.Body.xs.flatMap encB)] (fun v Γ' => ∃ y : Snap1, v = .tuple #[.agg (encSnap1 y).toArray, .bool has] ∧ y.Mark = tp.Mark ∧ y.Conf.xs = tp.Conf.xs ∧ y.Body.xs = tp.Body.xs ∧ Γ' = [.row 5 1 y.Conf.a y.Conf.xs.length y.Conf.cap (y.Conf.xs.flatMap encB), .row 5 1 y.Body.a y.Body.xs.length y.Body.cap (y.Body.xs.flatMap encB), .pts s (encShelf1 (⟨(some b), tp, has⟩ : Shelf1)) 145, .row 5 1 tp.Conf.a tp.Conf.xs.length tp.Conf.cap (tp.Conf.xs.flatMap encB), .row 5 1 tp.Body.a tp.Body.xs.length tp.Body.cap (tp.Body.xs.flatMap encB)]) := by
  refine spec_of (n := 13) (vs := [_]) (σ := [(0, _)]) Tryz.func25 rfl rfl rfl rfl fun E Δ => ?_
  simp only [List.cons_append, List.nil_append]
  refine sr ?_
  refine e_s (s_allocz (cs := encSnap1 zSnap1) (by kernel_rfl)) ?_
  rintro _ _ ⟨b2, rfl, rfl⟩
  refine e_as rfl ?_
  refine l_n ?_
  refine c_seq ?_
  refine d_r 11 [.pts s (encShelf1 (⟨(some b), tp, has⟩ : Shelf1)) 145, .row 5 1 tp.Conf.a tp.Conf.xs.length tp.Conf.cap (tp.Conf.xs.flatMap encB), .row 5 1 tp.Body.a tp.Body.xs.length tp.Body.cap (tp.Body.xs.flatMap encB)] ?_
  refine d_t 0 rfl wn (q_move rfl) ?_
  refine d_t 1 rfl wn (q_nilCheck rfl) ?_
  refine d_t 2 rfl wn (q_fieldp rfl fo_145_1) ?_
  refine d_t 3 rfl wn (q_loadpa (vs := encSnap1 tp) ag_26 rfl pk_ rfl) ?_
  refine d_t 5 rfl wn (q_move rfl) ?_
  refine d_t 6 rfl wn (q_nilCheck rfl) ?_
  refine d_t 7 rfl wn (q_fieldp rfl fo_145_2) ?_
  refine d_t 8 rfl wn (q_loadp (v := .bool has) sc_4 rfl pk_ rfl) ?_
  refine d_1 4 ?_
  refine o_step rfl (s_fnb rfl wn Tryz.func75 rfl (by kernel_rfl) rfl sl_ (fun ρ' hL => own_spec tp ρ' (hL.row pk_) (hL.row pk_) htc htb) ?_)
  rintro _ _ ⟨y, rfl, hy1, hy2, hy3, rfl⟩
  try simp only [List.cons_append, List.nil_append]
  refine d_c ?_
  refine d_1 9 ?_
  refine o_step rfl (s_s0 wn (s_storep (ws := encSnap1 y) (cs := encSnap1 zSnap1) (cs' := encSnap1 y) rfl rfl rfl sz_26 (oneSnap1 _) (by simp [encSnap1, encSnap1]) rfl pk_) ?_)
  rintro _ _ ⟨rfl, rfl⟩
  refine d_c ?_
  refine d_t 10 rfl wn (q_assign rfl) ?_
  refine d_d ?_
  refine k_then_n ?_
  refine c_ret ?_
  exact t_rt [.row 5 1 y.Conf.a y.Conf.xs.length y.Conf.cap (y.Conf.xs.flatMap encB), .row 5 1 y.Body.a y.Body.xs.length y.Body.cap (y.Body.xs.flatMap encB), .pts s (encShelf1 (⟨(some b), tp, has⟩ : Shelf1)) 145, .row 5 1 tp.Conf.a tp.Conf.xs.length tp.Conf.cap (tp.Conf.xs.flatMap encB), .row 5 1 tp.Body.a tp.Body.xs.length tp.Body.cap (tp.Body.xs.flatMap encB)] rfl (.cell rfl pk_ (fun w h => ld_agg (by exact ag_26) h) (.tmp rfl .nil)) rfl ⟨rfl, y, rfl, hy1, hy2, hy3, rfl⟩

theorem has_spec (s : Nat) (tp : Snap1) (has : Bool) (index : Int) (b : Nat) (ρ : Hp) : Spec0 Tryz.prog 37 #[.pointer (some ⟨s, 0, none⟩), .int .i64 index] ρ [.pts s (encShelf1 (⟨(some b), tp, has⟩ : Shelf1)) 145] (fun v Γ' => v = .bool ((has && decide (index ≤ tp.Mark.Index))) ∧ Γ' = [.pts s (encShelf1 (⟨(some b), tp, has⟩ : Shelf1)) 145]) := by
  refine spec_of (n := 19) (vs := [_, _]) (σ := [(0, _), (1, _)]) Tryz.func37 rfl rfl rfl rfl fun E Δ => ?_
  simp only [List.cons_append, List.nil_append]
  refine sr ?_
  refine e_as rfl ?_
  refine l_n ?_
  refine sr ?_
  refine e_mv rfl ?_
  refine e_q (q_nilCheck rfl) ?_
  refine e_q (q_fieldp rfl fo_145_2) ?_
  refine e_q (q_loadp (v := .bool has) sc_4 rfl pk_ rfl) ?_
  refine e_mv rfl ?_
  refine l_step (s_qg rfl (ask_t rfl rfl) (b := has) (fun hb => q_move rfl) ?_)
  refine l_step (s_qg rfl (ask_t rfl rfl) (b := has) (fun hb => OpQ.env (.cons rfl (gd_t hb) (.nil _) : EnvLe [(10, .pointer (some ⟨s, 0, none⟩))] _) (q_nilCheck rfl)) ?_)
  refine l_step (s_qg rfl (ask_t rfl rfl) (b := has) (fun hb => OpQ.env (.cons rfl (gd_t hb) (.nil _) : EnvLe [(11, .pointer (some ⟨s, 0, none⟩))] _) (q_fieldp rfl fo_145_1)) ?_)
  refine l_step (s_qg rfl (ask_t rfl rfl) (b := has) (fun hb => OpQ.env (.cons rfl (gd_t hb) (.nil _) : EnvLe [(12, .pointer (some ⟨s, 1, none⟩))] _) (q_fieldp rfl fo_26_0)) ?_)
  refine l_step (s_qg rfl (ask_t rfl rfl) (b := has) (fun hb => OpQ.env (.cons rfl (gd_t hb) (.nil _) : EnvLe [(13, .pointer (some ⟨s, 1, none⟩))] _) (q_fieldp rfl fo_24_0)) ?_)
  refine l_step (s_qg rfl (ask_t rfl rfl) (b := has) (fun hb => OpQ.env (.cons rfl (gd_t hb) (.nil _) : EnvLe [(14, .pointer (some ⟨s, 1, none⟩))] _) (q_loadp (v := .int .i64 tp.Mark.Index) sc_3 rfl pk_ rfl)) ?_)
  refine l_step (s_qg rfl (ask_t rfl rfl) (b := has) (fun hb => q_move rfl) ?_)
  refine l_step (s_qg rfl (ask_t rfl rfl) (b := has) (fun hb => OpQ.env (.cons rfl (gd_t hb) (.cons rfl (gd_t hb) (.nil _)) : EnvLe [(15, .int .i64 tp.Mark.Index), (16, .int .i64 index)] _) (q_geq rfl rfl)) ?_)
  refine e_q (q_pick_and rfl rfl rfl (fun h => h)) ?_
  refine e_as rfl ?_
  refine l_n ?_
  refine c_ret ?_
  exact t_rt [.pts s (encShelf1 (⟨(some b), tp, has⟩ : Shelf1)) 145] rfl (.tmp rfl .nil) rfl ⟨rfl, boole (by first | rfl | simp), rfl⟩

theorem drop_spec (b : Nat) (room : Int) (mb : Nat) (calls : Int) (T : FT) (s : Nat) (tp : Snap1) (has : Bool) (f : (List UInt8)) (ρ : Hp) (hT : FOk T) (hc : calls ≤ 9223372036854775807) : Spec0 Tryz.prog 71 #[.pointer (some ⟨s, 0, none⟩), (strB f)] ρ [.pts s (encShelf1 (⟨(some b), tp, has⟩ : Shelf1)) 145, .pts b (encDisk1 (⟨room, (some mb), calls⟩ : Disk1)) 143, MP strB ptV mb (fm T), FB 154 5 T] (fun v Γ' => ∃ T', v = .int .i64 (remS calls (vw T) f).1 ∧ vw T' = (remS calls (vw T) f).2.1 ∧ Γ' = [.pts s (encShelf1 (⟨(some b), tp, has⟩ : Shelf1)) 145, .pts b (encDisk1 (⟨room, (some mb), (remS calls (vw T) f).2.2⟩ : Disk1)) 143, MP strB ptV mb (fm T'), FB 154 5 T']) := by
  refine spec_of (n := 25) (vs := [_, _]) (σ := [(0, _), (1, _)]) Tryz.func71 rfl rfl rfl rfl fun E Δ => ?_
  simp only [List.cons_append, List.nil_append]
  refine sr ?_
  refine e_as rfl ?_
  refine l_n ?_
  refine c_seq ?_
  refine sr ?_
  refine e_mv rfl ?_
  refine e_q (q_nilCheck rfl) ?_
  refine e_q (q_fieldp rfl fo_145_0) ?_
  refine e_q (q_loadp (v := .pointer (some ⟨b, 0, none⟩)) sc_39 rfl pk_ rfl) ?_
  refine e_mv rfl ?_
  refine e_fn Tryz.func31 rfl sl_ (fun ρ' hL => Go.Dsk.X.read_spec b room mb calls T f ρ' hT) ?_
  rintro _ _ ⟨aR1, cR1, rfl, rfl⟩
  try simp only [List.cons_append, List.nil_append]
  refine e_mv rfl ?_
  refine e_q (q_extract rfl rfl) ?_
  refine e_q (q_extract rfl rfl) ?_
  refine e_as rfl ?_
  refine e_as rfl ?_
  refine l_n ?_
  refine sr ?_
  refine e_mv rfl ?_
  refine e_q (q_not rfl) ?_
  refine l_n ?_
  refine c_cond rfl (fun h0 => ?_) (fun h0 => ?_)
  · skip
    replace h0 : mhas (vw T) f = false := by have h9 := h0; rw [Bool.not_eq_true'] at h9; exact h9
    refine sr ?_
    refine e_as rfl ?_
    refine l_n ?_
    refine c_ret ?_
    refine k_then_r ?_
    have hr9 := remS_no (c := calls) h0
    exact t_rt [.pts s (encShelf1 (⟨(some b), tp, has⟩ : Shelf1)) 145, .pts b (encDisk1 (⟨room, (some mb), calls⟩ : Disk1)) 143, MP strB ptV mb (fm T), FB 154 5 T] rfl (.tmp rfl .nil) rfl ⟨rfl, T, by rw [hr9]; rfl, by rw [hr9], by rw [hr9]⟩
  · skip
    replace h0 : mhas (vw T) f = true := by have h9 := h0; rw [Bool.not_eq_false'] at h9; exact h9
    refine c_skip ?_
    refine k_then_n ?_
    refine sr ?_
    refine e_mv rfl ?_
    refine e_q (q_nilCheck rfl) ?_
    refine e_q (q_fieldp rfl fo_145_0) ?_
    refine e_q (q_loadp (v := .pointer (some ⟨b, 0, none⟩)) sc_39 rfl pk_ rfl) ?_
    refine e_mv rfl ?_
    refine e_s (s_buildSlice (cs := ([f] : List (List UInt8)).flatMap Go.SL.encStr) Tryz.underlying52 eo_9 rfl rfl rfl rfl (by decide) (by decide)) ?_
    rintro _ _ ⟨b23, rfl, rfl⟩
    refine e_fn Tryz.func76 rfl sl_ (fun ρ' hL => Go.Dsk.R.remove_spec b room mb calls T (some ⟨b23, 0, none⟩) 1 1 [f] rfl ρ' hT hc (by decide) (hL.row pk_)) ?_
    rintro _ _ ⟨T1, rfl, hvT1, rfl⟩
    try simp only [List.cons_append, List.nil_append]
    refine e_as rfl ?_
    refine l_n ?_
    refine c_ret ?_
    have hr9 := remS_has (c := calls) h0
    exact t_rt [.pts s (encShelf1 (⟨(some b), tp, has⟩ : Shelf1)) 145, .pts b (encDisk1 (⟨room, (some mb), (decC calls)⟩ : Disk1)) 143, MP strB ptV mb (fm T1), FB 154 5 T1] rfl (.tmp rfl .nil) rfl ⟨rfl, T1, by rw [hr9]; rfl, by rw [hr9]; exact hvT1, by rw [hr9]⟩

theorem put_spec (b : Nat) (room : Int) (mb : Nat) (calls : Int) (T : FT) (s : Nat) (tp : Snap1) (has : Bool) (x : Snap1) (ρ : Hp) (hT : FOk T) (hU : (usedT T : Int) ≤ room) (hr : room ≤ 9223372036854775807) (hc : calls ≤ 9223372036854775807) (hus : usedT T ≤ 900000000) (hxc : x.Conf.ro encB 1 ρ) (hxb : x.Body.ro encB 1 ρ) (hcl : x.Conf.xs.length ≤ 400000) (hbl : x.Body.xs.length ≤ 400000) (hi : x.Mark.Index < 100) : Spec0 Tryz.prog 22 #[.pointer (some ⟨s, 0, none⟩), .agg (encSnap1 x).toArray] ρ [.pts s (encShelf1 (⟨(some b), tp, has⟩ : Shelf1)) 145, .row 5 1 tp.Conf.a tp.Conf.xs.length tp.Conf.cap (tp.Conf.xs.flatMap encB), .row 5 1 tp.Body.a tp.Body.xs.length tp.Body.cap (tp.Body.xs.flatMap encB), .pts b (encDisk1 (⟨room, (some mb), calls⟩ : Disk1)) 143, MP strB ptV mb (fm T), FB 154 5 T] (fun v Γ' => ∃ T' y, v = .int .i64 (putX room calls (vw T) has (pS tp) (pS x)).1 ∧ vw T' = (putX room calls (vw T) has (pS tp) (pS x)).2.1 ∧ ((putX room calls (vw T) has (pS tp) (pS x)).1 = 0 → pS y = pS x) ∧ ((putX room calls (vw T) has (pS tp) (pS x)).1 ≠ 0 → y = tp) ∧ Γ' = [.pts s (encShelf1 (⟨(some b), y, (if (putX room calls (vw T) has (pS tp) (pS x)).1 = 0 then true else has)⟩ : Shelf1)) 145, .row 5 1 y.Conf.a y.Conf.xs.length y.Conf.cap (y.Conf.xs.flatMap encB), .row 5 1 y.Body.a y.Body.xs.length y.Body.cap (y.Body.xs.flatMap encB), .pts b (encDisk1 (⟨room, (some mb), (putX room calls (vw T) has (pS tp) (pS x)).2.2⟩ : Disk1)) 143, MP strB ptV mb (fm T'), FB 154 5 T']) := by
  refine spec_of (n := 65) (vs := [_, _]) (σ := [(0, _), (1, _)]) Tryz.func22 rfl rfl rfl rfl fun E Δ => ?_
  simp only [List.cons_append, List.nil_append]
  refine sr ?_
  refine e_s (s_box (cs := encSnap1 x) rfl rfl) ?_
  rintro _ _ ⟨b3, rfl, rfl⟩
  refine e_as rfl ?_
  refine l_n ?_
  refine c_seq ?_
  refine sr ?_
  refine e_q (q_fieldp rfl fo_26_0) ?_
  refine e_q (q_loadpa (vs := encMark1 x.Mark) ag_24 rfl pk_ rfl) ?_
  refine l_step (s_fnq rfl wn Tryz.func64 rfl (by kernel_rfl) rfl (fun ρ' hL => right_spec x.Mark ρ') ?_)
  refine e_q (q_not rfl) ?_
  refine e_mv rfl ?_
  refine t_split (d := 13) rfl (fun g1_4 => ?_) (fun g1_4 => ?_)
  · try simp only [Bool.not_eq_true', Bool.not_eq_false', Bool.not_eq_true, Bool.not_eq_false, ne_eq, Decidable.not_not] at g1_4
    have hrf : rightM x.Mark.Index x.Mark.Term = false := g1_4
    refine l_step (s_no rfl (wno rfl rfl (by decide)) ?_)
    refine l_step (s_no rfl (wno rfl rfl (by decide)) ?_)
    refine l_step (s_no rfl (wno rfl rfl (by decide)) ?_)
    refine l_step (s_no rfl (wno rfl rfl (by decide)) ?_)
    refine l_step (s_no rfl (wno rfl rfl (by decide)) ?_)
    refine e_q (q_pick rfl rfl rfl) ?_
    refine l_n ?_
    refine c_yes rfl ?_
    refine sr ?_
    refine e_as rfl ?_
    refine l_n ?_
    refine c_ret ?_
    refine k_then_r ?_
    have hr9 : (putX room calls (vw T) has (pS tp) (pS x)) = (2, vw T, calls) := pu_bad (bad_yes (.inl (show rightM x.Mark.Index x.Mark.Term = false from hrf)))
    have hne : ¬ (2 : Int) = 0 := by decide
    exact t_rt [.pts s (encShelf1 (⟨(some b), tp, has⟩ : Shelf1)) 145, .row 5 1 tp.Conf.a tp.Conf.xs.length tp.Conf.cap (tp.Conf.xs.flatMap encB), .row 5 1 tp.Body.a tp.Body.xs.length tp.Body.cap (tp.Body.xs.flatMap encB), .pts b (encDisk1 (⟨room, (some mb), calls⟩ : Disk1)) 143, MP strB ptV mb (fm T), FB 154 5 T] rfl (.tmp rfl .nil) rfl ⟨rfl, T, tp, by rw [hr9]; rfl, by rw [hr9], fun h9 => absurd h9 (by rw [hr9]; exact hne), fun _ => rfl, by rw [hr9, if_neg hne]⟩ (by refine Ent.pick pk_ ?_; refine Ent.pick pk_ ?_; refine Ent.pick pk_ ?_; refine Ent.pick pk_ ?_; refine Ent.pick pk_ ?_; refine Ent.pick pk_ ?_; repeat (first | exact Ent.refl _ | refine Ent.skip ?_))
  · try simp only [Bool.not_eq_true', Bool.not_eq_false', Bool.not_eq_true, Bool.not_eq_false, ne_eq, Decidable.not_not] at g1_4
    have hrx : rightM x.Mark.Index x.Mark.Term = true := g1_4
    obtain ⟨hx1, hx2, hx3, hx4⟩ := right_yes hrx
    have hbx := bodyX_len (x := pS x) hx3 hx4 (show x.Conf.xs.length ≤ _ by omega) (show x.Body.xs.length ≤ _ by omega)
    have hs4 := snB_len4 (pS x)
    have e7 : (pS x).conf = x.Conf.xs := rfl
    have e8 : (pS x).body = x.Body.xs := rfl
    rw [e7, e8] at hbx
    refine e_qw (wy rfl rfl rfl) (q_move rfl) ?_
    refine e_qw (wy rfl rfl rfl) (q_fieldp rfl fo_26_0) ?_
    refine e_qw (wy rfl rfl rfl) (q_fieldp rfl fo_24_0) ?_
    refine e_qw (wy rfl rfl rfl) (q_loadp (v := .int .i64 x.Mark.Index) sc_3 rfl pk_ rfl) ?_
    refine l_step (s_fnr rfl (wy rfl rfl rfl) Tryz.func37 rfl (by kernel_rfl) rfl sl_ (fun ρ' hL => has_spec s tp has x.Mark.Index b ρ') ?_)
    refine e_q (q_pick rfl rfl rfl) ?_
    refine l_n ?_
    refine c_cond rfl (fun h0 => ?_) (fun h0 => ?_)
    · skip
      refine sr ?_
      refine e_as rfl ?_
      refine l_n ?_
      refine c_ret ?_
      refine k_then_r ?_
      have hr9 : (putX room calls (vw T) has (pS tp) (pS x)) = (2, vw T, calls) := pu_bad (bad_yes (.inr (show has = true ∧ x.Mark.Index ≤ tp.Mark.Index from by simpa using h0)))
      have hne : ¬ (2 : Int) = 0 := by decide
      exact t_rt [.pts s (encShelf1 (⟨(some b), tp, has⟩ : Shelf1)) 145, .row 5 1 tp.Conf.a tp.Conf.xs.length tp.Conf.cap (tp.Conf.xs.flatMap encB), .row 5 1 tp.Body.a tp.Body.xs.length tp.Body.cap (tp.Body.xs.flatMap encB), .pts b (encDisk1 (⟨room, (some mb), calls⟩ : Disk1)) 143, MP strB ptV mb (fm T), FB 154 5 T] rfl (.tmp rfl .nil) rfl ⟨rfl, T, tp, by rw [hr9]; rfl, by rw [hr9], fun h9 => absurd h9 (by rw [hr9]; exact hne), fun _ => rfl, by rw [hr9, if_neg hne]⟩ (by refine Ent.pick pk_ ?_; refine Ent.pick pk_ ?_; refine Ent.pick pk_ ?_; refine Ent.pick pk_ ?_; refine Ent.pick pk_ ?_; refine Ent.pick pk_ ?_; repeat (first | exact Ent.refl _ | refine Ent.skip ?_))
    · skip
      replace h0 : (has && decide (x.Mark.Index ≤ tp.Mark.Index)) = false := h0
      refine c_skip ?_
      refine k_then_n ?_
      refine c_seq ?_
      refine sr ?_
      refine e_mv rfl ?_
      refine e_fn Tryz.func71 rfl sl_ (fun ρ' hL => drop_spec b room mb calls T s tp has aside ρ' hT hc) ?_
      rintro _ _ ⟨T1, rfl, hvT1, rfl⟩
      try simp only [List.cons_append, List.nil_append]
      refine e_as rfl ?_
      refine l_n ?_
      refine sr ?_
      refine e_mv rfl ?_
      refine e_q (q_neq rfl rfl) ?_
      refine l_n ?_
      refine c_cond rfl (fun h1 => ?_) (fun h1 => ?_)
      · try simp only [decide_eq_true_eq, decide_eq_false_iff_not, ne_eq, Decidable.not_not] at h1
        refine sr ?_
        refine e_mv rfl ?_
        refine e_as rfl ?_
        refine l_n ?_
        refine c_ret ?_
        refine k_then_r ?_
        have hr9 : (putX room calls (vw T) has (pS tp) (pS x)) = ((remS calls (vw T) aside).1, (remS calls (vw T) aside).2.1, (remS calls (vw T) aside).2.2) := pu_rem (bad_no (show rightM x.Mark.Index x.Mark.Term = true from hrx) h0) h1
        have hne : ¬ (remS calls (vw T) aside).1 = 0 := h1
        exact t_rt [.pts s (encShelf1 (⟨(some b), tp, has⟩ : Shelf1)) 145, .row 5 1 tp.Conf.a tp.Conf.xs.length tp.Conf.cap (tp.Conf.xs.flatMap encB), .row 5 1 tp.Body.a tp.Body.xs.length tp.Body.cap (tp.Body.xs.flatMap encB), .pts b (encDisk1 (⟨room, (some mb), (remS calls (vw T) aside).2.2⟩ : Disk1)) 143, MP strB ptV mb (fm T1), FB 154 5 T1] rfl (.tmp rfl .nil) rfl ⟨rfl, T1, tp, by rw [hr9]; rfl, by rw [hr9]; exact hvT1, fun h9 => absurd h9 (by rw [hr9]; exact hne), fun _ => rfl, by rw [hr9, if_neg hne]⟩ (by refine Ent.pick pk_ ?_; refine Ent.pick pk_ ?_; refine Ent.pick pk_ ?_; refine Ent.pick pk_ ?_; refine Ent.pick pk_ ?_; refine Ent.pick pk_ ?_; repeat (first | exact Ent.refl _ | refine Ent.skip ?_))
      · try simp only [decide_eq_true_eq, decide_eq_false_iff_not, ne_eq, Decidable.not_not] at h1
        have hV1 : VOk (vw T1) := by rw [hvT1]; unfold remS; split; exact vok_rem (Go.Dsk.fok.1 hT); exact Go.Dsk.fok.1 hT
        have hT1 : FOk T1 := Go.Dsk.fok.2 hV1
        have hu1 : usedT T1 ≤ usedT T := by have h9 := remS_used calls (vw T) aside; rw [← hvT1, used_vw, used_vw] at h9; exact h9
        have hU1 : (usedT T1 : Int) ≤ room := by omega
        have hc1 : (remS calls (vw T) aside).2.2 ≤ 9223372036854775807 := remS_calls (vw T) aside hc
        refine c_skip ?_
        refine k_then_n ?_
        refine c_seq ?_
        refine c_seq ?_
        refine d_r 9 [] ?_
        refine d_t 0 rfl wn (q_move rfl) ?_
        refine d_t 1 rfl wn (q_nilCheck rfl) ?_
        refine d_t 2 rfl wn (q_fieldp rfl fo_145_0) ?_
        refine d_2 3 4 ?_ ?_
        · skip
          refine o_step rfl (s_q rfl wn (q_loadp (v := .pointer (some ⟨b, 0, none⟩)) sc_39 rfl pk_ rfl) ?_)
          refine d_c ?_
          refine d_1 4 ?_
          refine o_step rfl (s_q rfl wn (q_loadpa (vs := encSnap1 (⟨x.Mark, x.Conf, x.Body⟩ : Snap1)) ag_26 rfl pk_ rfl) ?_)
          refine d_c ?_
          refine d_1 5 ?_
          refine o_step rfl (s_fnb rfl wn Tryz.func16 rfl (by kernel_rfl) rfl sl_ (fun ρ' hL => bytes_spec x ρ' (Ro.mono hL.1 hxc) (Ro.mono hL.1 hxb) (by omega) (by omega) hrx) ?_)
          rintro _ _ ⟨aK, cK, rfl, rfl⟩
          try simp only [List.cons_append, List.nil_append]
          refine d_c ?_
          refine d_1 6 ?_
          refine o_step rfl (s_s rfl wn (s_buildSlice (cs := ([(⟨aK, (snB (pS x)), cK⟩ : SL UInt8)] : List (SL UInt8)).flatMap encSL) Tryz.underlying37 eo_22 rfl rfl rfl rfl (by decide) (by decide)) ?_)
          rintro _ _ ⟨b31, rfl, rfl⟩
          refine d_c ?_
          refine d_1 7 ?_
          refine o_step rfl (s_fnb rfl wn Tryz.func26 rfl (by kernel_rfl) rfl sl_ (fun ρ' hL => Go.Dsk.Y.append_spec b room mb ((remS calls (vw T) aside).2.2) T1 aside (some ⟨b31, 0, none⟩) 1 1 [⟨aK, (snB (pS x)), cK⟩] rfl ρ' hT1 hU1 hr hc1 (by decide) (by decide) (by show _ + ((snB (pS x)) ++ []).length ≤ _; rw [List.append_nil]; omega) (hL.row pk_) (by intro q hq; rw [List.mem_singleton.1 hq]; exact hL.row pk_)) ?_)
          rintro _ _ ⟨T2, rfl, hvT2, rfl⟩
          try simp only [List.cons_append, List.nil_append]
          have hcat : (([⟨aK, (snB (pS x)), cK⟩] : List (SL UInt8)).flatMap fun x : SL UInt8 => x.xs) = (snB (pS x)) := by simp
          rw [hcat, hvT1] at hvT2
          rw [hcat, hvT1]
          refine d_c ?_
          refine d_t 8 rfl wn (q_assign rfl) ?_
          refine d_d ?_
          refine k_then_n ?_
          refine sr ?_
          refine e_mv rfl ?_
          refine e_q (q_neq rfl rfl) ?_
          refine l_n ?_
          refine c_cond rfl (fun h2 => ?_) (fun h2 => ?_)
          · try simp only [decide_eq_true_eq, decide_eq_false_iff_not, ne_eq, Decidable.not_not] at h2
            refine sr ?_
            refine e_mv rfl ?_
            refine e_as rfl ?_
            refine l_n ?_
            refine c_ret ?_
            refine k_then_r ?_
            have hr9 : (putX room calls (vw T) has (pS tp) (pS x)) = ((appR room (remS calls (vw T) aside).2.2 (remS calls (vw T) aside).2.1 aside (snB (pS x))).1, (appR room (remS calls (vw T) aside).2.2 (remS calls (vw T) aside).2.1 aside (snB (pS x))).2, decC (remS calls (vw T) aside).2.2) := (pu_wr (bad_no (show rightM x.Mark.Index x.Mark.Term = true from hrx) h0) (by omega)).trans (wx_app h2)
            have hne : ¬ (appR room (remS calls (vw T) aside).2.2 (remS calls (vw T) aside).2.1 aside (snB (pS x))).1 = 0 := h2
            exact t_rt [.pts s (encShelf1 (⟨(some b), tp, has⟩ : Shelf1)) 145, .row 5 1 tp.Conf.a tp.Conf.xs.length tp.Conf.cap (tp.Conf.xs.flatMap encB), .row 5 1 tp.Body.a tp.Body.xs.length tp.Body.cap (tp.Body.xs.flatMap encB), .pts b (encDisk1 (⟨room, (some mb), (decC (remS calls (vw T) aside).2.2)⟩ : Disk1)) 143, MP strB ptV mb (fm T2), FB 154 5 T2] rfl (.tmp rfl .nil) rfl ⟨rfl, T2, tp, by rw [hr9]; rfl, by rw [hr9]; exact hvT2, fun h9 => absurd h9 (by rw [hr9]; exact hne), fun _ => rfl, by rw [hr9, if_neg hne]⟩ (by refine Ent.pick pk_ ?_; refine Ent.pick pk_ ?_; refine Ent.pick pk_ ?_; refine Ent.pick pk_ ?_; refine Ent.pick pk_ ?_; refine Ent.pick pk_ ?_; repeat (first | exact Ent.refl _ | refine Ent.skip ?_))
          · try simp only [decide_eq_true_eq, decide_eq_false_iff_not, ne_eq, Decidable.not_not] at h2
            have hV2 : VOk (vw T2) := by rw [hvT2, ← hvT1]; exact vok_app hV1 (by rw [used_vw]; omega)
            have hT2 : FOk T2 := Go.Dsk.fok.2 hV2
            refine c_skip ?_
            refine k_then_n ?_
            refine c_seq ?_
            refine sr ?_
            refine e_mv rfl ?_
            refine e_q (q_nilCheck rfl) ?_
            refine e_q (q_fieldp rfl fo_145_0) ?_
            refine e_q (q_loadp (v := .pointer (some ⟨b, 0, none⟩)) sc_39 rfl pk_ rfl) ?_
            refine e_s (s_buildSlice (cs := ([[115, 110, 97, 112, 45, 110, 101, 119]] : List (List UInt8)).flatMap Go.SL.encStr) Tryz.underlying52 eo_9 rfl rfl rfl rfl (by decide) (by decide)) ?_
            rintro _ _ ⟨b40, rfl, rfl⟩
            refine e_fn Tryz.func72 rfl sl_ (fun ρ' hL => Go.Dsk.Z.sync_spec b room mb (decC (remS calls (vw T) aside).2.2) T2 (some ⟨b40, 0, none⟩) 1 1 [aside] rfl ρ' hT2 (decC_le hc1) (hL.row pk_)) ?_
            rintro _ _ ⟨T3, rfl, hvT3, rfl⟩
            try simp only [List.cons_append, List.nil_append]
            rw [hvT2] at hvT3
            rw [hvT2]
            refine e_as rfl ?_
            refine l_n ?_
            refine sr ?_
            refine e_mv rfl ?_
            refine e_q (q_neq rfl rfl) ?_
            refine l_n ?_
            refine c_cond rfl (fun h3 => ?_) (fun h3 => ?_)
            · try simp only [decide_eq_true_eq, decide_eq_false_iff_not, ne_eq, Decidable.not_not] at h3
              refine sr ?_
              refine e_mv rfl ?_
              refine e_as rfl ?_
              refine l_n ?_
              refine c_ret ?_
              refine k_then_r ?_
              have hr9 : (putX room calls (vw T) has (pS tp) (pS x)) = ((syncR (decC (remS calls (vw T) aside).2.2) (appR room (remS calls (vw T) aside).2.2 (remS calls (vw T) aside).2.1 aside (snB (pS x))).2 [aside]).1, (syncR (decC (remS calls (vw T) aside).2.2) (appR room (remS calls (vw T) aside).2.2 (remS calls (vw T) aside).2.1 aside (snB (pS x))).2 [aside]).2, decC (decC (remS calls (vw T) aside).2.2)) := (pu_wr (bad_no (show rightM x.Mark.Index x.Mark.Term = true from hrx) h0) (by omega)).trans (wx_syn (by omega) h3)
              have hne : ¬ (syncR (decC (remS calls (vw T) aside).2.2) (appR room (remS calls (vw T) aside).2.2 (remS calls (vw T) aside).2.1 aside (snB (pS x))).2 [aside]).1 = 0 := h3
              exact t_rt [.pts s (encShelf1 (⟨(some b), tp, has⟩ : Shelf1)) 145, .row 5 1 tp.Conf.a tp.Conf.xs.length tp.Conf.cap (tp.Conf.xs.flatMap encB), .row 5 1 tp.Body.a tp.Body.xs.length tp.Body.cap (tp.Body.xs.flatMap encB), .pts b (encDisk1 (⟨room, (some mb), (decC (decC (remS calls (vw T) aside).2.2))⟩ : Disk1)) 143, MP strB ptV mb (fm T3), FB 154 5 T3] rfl (.tmp rfl .nil) rfl ⟨rfl, T3, tp, by rw [hr9]; rfl, by rw [hr9]; exact hvT3, fun h9 => absurd h9 (by rw [hr9]; exact hne), fun _ => rfl, by rw [hr9, if_neg hne]⟩ (by refine Ent.pick pk_ ?_; refine Ent.pick pk_ ?_; refine Ent.pick pk_ ?_; refine Ent.pick pk_ ?_; refine Ent.pick pk_ ?_; refine Ent.pick pk_ ?_; repeat (first | exact Ent.refl _ | refine Ent.skip ?_))
            · try simp only [decide_eq_true_eq, decide_eq_false_iff_not, ne_eq, Decidable.not_not] at h3
              have hT3 : FOk T3 := Go.Dsk.fok.2 (by rw [hvT3, ← hvT2]; exact vok_syn1 (by decide) hV2)
              refine c_skip ?_
              refine k_then_n ?_
              refine c_seq ?_
              refine c_seq ?_
              refine d_r 10 [.row 9 1 (some ⟨b40, 0, none⟩) 1 1 ([[115, 110, 97, 112, 45, 110, 101, 119]].flatMap Go.SL.encStr), .row 22 1 (some ⟨b31, 0, none⟩) 1 1 ([(⟨aK, (snB (pS x)), cK⟩ : SL UInt8)].flatMap encSL), .row 5 1 aK ((snB (pS x)).length) cK ((snB (pS x)).flatMap encB), .pts b3 (encSnap1 (⟨x.Mark, x.Conf, x.Body⟩ : Snap1)) 26, .pts s (encShelf1 (⟨(some b), tp, has⟩ : Shelf1)) 145, .row 5 1 tp.Conf.a tp.Conf.xs.length tp.Conf.cap (tp.Conf.xs.flatMap encB), .row 5 1 tp.Body.a tp.Body.xs.length tp.Body.cap (tp.Body.xs.flatMap encB)] ?_
              refine d_t 0 rfl wn (q_move rfl) ?_
              refine d_t 1 rfl wn (q_nilCheck rfl) ?_
              refine d_t 2 rfl wn (q_fieldp rfl fo_145_0) ?_
              refine d_t 3 rfl wn (q_loadp (v := .pointer (some ⟨b, 0, none⟩)) sc_39 rfl pk_ rfl) ?_
              refine d_t 4 rfl wn (q_fieldp rfl fo_26_0) ?_
              refine d_t 5 rfl wn (q_fieldp rfl fo_24_0) ?_
              refine d_t 6 rfl wn (q_loadp (v := .int .i64 x.Mark.Index) sc_3 rfl pk_ rfl) ?_
              refine d_1 7 ?_
              refine o_step rfl (s_fnq rfl wn Tryz.func74 rfl (by kernel_rfl) rfl (fun ρ' hL => name_spec x.Mark.Index ρ' (by omega) hi) ?_)
              refine d_c ?_
              refine d_1 8 ?_
              refine o_step rfl (s_fnb rfl wn Tryz.func73 rfl (by kernel_rfl) rfl sl_ (fun ρ' hL => Go.Dsk.V.rename_spec b room mb (decC (decC (remS calls (vw T) aside).2.2)) T3 aside (nameX x.Mark.Index.toNat) ρ' hT3 (decC_le (decC_le hc1)) (Nat.le_trans (name_len (by omega)) (by decide))) ?_)
              rintro _ _ ⟨T4, rfl, hvT4, rfl⟩
              try simp only [List.cons_append, List.nil_append]
              rw [hvT3] at hvT4
              rw [hvT3]
              refine d_c ?_
              refine d_t 9 rfl wn (q_assign rfl) ?_
              refine d_d ?_
              refine k_then_n ?_
              refine sr ?_
              refine e_mv rfl ?_
              refine e_q (q_neq rfl rfl) ?_
              refine l_n ?_
              refine c_cond rfl (fun h4 => ?_) (fun h4 => ?_)
              · try simp only [decide_eq_true_eq, decide_eq_false_iff_not, ne_eq, Decidable.not_not] at h4
                refine sr ?_
                refine e_mv rfl ?_
                refine e_as rfl ?_
                refine l_n ?_
                refine c_ret ?_
                refine k_then_r ?_
                have hr9 : (putX room calls (vw T) has (pS tp) (pS x)) = ((renR (decC (decC (remS calls (vw T) aside).2.2)) (syncR (decC (remS calls (vw T) aside).2.2) (appR room (remS calls (vw T) aside).2.2 (remS calls (vw T) aside).2.1 aside (snB (pS x))).2 [aside]).2 aside (nameX x.Mark.Index.toNat)).1, (renR (decC (decC (remS calls (vw T) aside).2.2)) (syncR (decC (remS calls (vw T) aside).2.2) (appR room (remS calls (vw T) aside).2.2 (remS calls (vw T) aside).2.1 aside (snB (pS x))).2 [aside]).2 aside (nameX x.Mark.Index.toNat)).2, decC (decC (decC (remS calls (vw T) aside).2.2))) := (pu_wr (bad_no (show rightM x.Mark.Index x.Mark.Term = true from hrx) h0) (by omega)).trans (wx_ren (by omega) (by omega))
                have hne : ¬ (renR (decC (decC (remS calls (vw T) aside).2.2)) (syncR (decC (remS calls (vw T) aside).2.2) (appR room (remS calls (vw T) aside).2.2 (remS calls (vw T) aside).2.1 aside (snB (pS x))).2 [aside]).2 aside (nameX x.Mark.Index.toNat)).1 = 0 := h4
                exact t_rt [.pts s (encShelf1 (⟨(some b), tp, has⟩ : Shelf1)) 145, .row 5 1 tp.Conf.a tp.Conf.xs.length tp.Conf.cap (tp.Conf.xs.flatMap encB), .row 5 1 tp.Body.a tp.Body.xs.length tp.Body.cap (tp.Body.xs.flatMap encB), .pts b (encDisk1 (⟨room, (some mb), (decC (decC (decC (remS calls (vw T) aside).2.2)))⟩ : Disk1)) 143, MP strB ptV mb (fm T4), FB 154 5 T4] rfl (.tmp rfl .nil) rfl ⟨rfl, T4, tp, by rw [hr9]; rfl, by rw [hr9]; exact hvT4, fun h9 => absurd h9 (by rw [hr9]; exact hne), fun _ => rfl, by rw [hr9, if_neg hne]⟩ (by refine Ent.pick pk_ ?_; refine Ent.pick pk_ ?_; refine Ent.pick pk_ ?_; refine Ent.pick pk_ ?_; refine Ent.pick pk_ ?_; refine Ent.pick pk_ ?_; repeat (first | exact Ent.refl _ | refine Ent.skip ?_))
              · try simp only [decide_eq_true_eq, decide_eq_false_iff_not, ne_eq, Decidable.not_not] at h4
                refine c_skip ?_
                refine k_then_n ?_
                refine sr ?_
                refine e_mv rfl ?_
                refine e_mv rfl ?_
                refine e_q (q_loadpa (vs := encSnap1 (⟨x.Mark, x.Conf, x.Body⟩ : Snap1)) ag_26 rfl pk_ rfl) ?_
                refine e_fn Tryz.func75 rfl sl_ (fun ρ' hL => own_spec x ρ' (Ro.mono hL.1 hxc) (Ro.mono hL.1 hxb) (by omega) (by omega)) ?_
                rintro _ _ ⟨y, rfl, hy1, hy2, hy3, rfl⟩
                try simp only [List.cons_append, List.nil_append]
                refine e_q (q_nilCheck rfl) ?_
                refine e_q (q_fieldp rfl fo_145_1) ?_
                refine l_step (s_s0 wn (s_storep (ws := encSnap1 y) (cs := encShelf1 (⟨(some b), tp, has⟩ : Shelf1)) (cs' := encShelf1 (⟨(some b), y, has⟩ : Shelf1)) rfl rfl rfl sz_26 (oneSnap1 _) (by simp [encShelf1, encSnap1]) rfl pk_) ?_)
                rintro _ _ ⟨rfl, rfl⟩
                refine e_q (q_nilCheck rfl) ?_
                refine e_q (q_fieldp rfl fo_145_2) ?_
                refine l_step (s_s0 wn (s_storep (ws := [.bool true]) (cs := encShelf1 (⟨(some b), y, has⟩ : Shelf1)) (cs' := encShelf1 (⟨(some b), y, true⟩ : Shelf1)) rfl rfl rfl sz_4 (by simp [Value.oneCell', strB, ptV, SL.v, SH.v]) (by simp [encShelf1]) rfl pk_) ?_)
                rintro _ _ ⟨rfl, rfl⟩
                refine l_n ?_
                refine sr ?_
                refine e_as rfl ?_
                refine l_n ?_
                refine c_ret ?_
                have hr9 : (putX room calls (vw T) has (pS tp) (pS x)) = ((renR (decC (decC (remS calls (vw T) aside).2.2)) (syncR (decC (remS calls (vw T) aside).2.2) (appR room (remS calls (vw T) aside).2.2 (remS calls (vw T) aside).2.1 aside (snB (pS x))).2 [aside]).2 aside (nameX x.Mark.Index.toNat)).1, (renR (decC (decC (remS calls (vw T) aside).2.2)) (syncR (decC (remS calls (vw T) aside).2.2) (appR room (remS calls (vw T) aside).2.2 (remS calls (vw T) aside).2.1 aside (snB (pS x))).2 [aside]).2 aside (nameX x.Mark.Index.toNat)).2, decC (decC (decC (remS calls (vw T) aside).2.2))) := (pu_wr (bad_no (show rightM x.Mark.Index x.Mark.Term = true from hrx) h0) (by omega)).trans (wx_ren (by omega) (by omega))
                have hze : (renR (decC (decC (remS calls (vw T) aside).2.2)) (syncR (decC (remS calls (vw T) aside).2.2) (appR room (remS calls (vw T) aside).2.2 (remS calls (vw T) aside).2.1 aside (snB (pS x))).2 [aside]).2 aside (nameX x.Mark.Index.toNat)).1 = 0 := by omega
                exact t_rt [.pts s (encShelf1 (⟨(some b), y, true⟩ : Shelf1)) 145, .row 5 1 y.Conf.a y.Conf.xs.length y.Conf.cap (y.Conf.xs.flatMap encB), .row 5 1 y.Body.a y.Body.xs.length y.Body.cap (y.Body.xs.flatMap encB), .pts b (encDisk1 (⟨room, (some mb), (decC (decC (decC (remS calls (vw T) aside).2.2)))⟩ : Disk1)) 143, MP strB ptV mb (fm T4), FB 154 5 T4] rfl (.tmp rfl .nil) rfl ⟨rfl, T4, y, by rw [hr9]; exact inte hze.symm, by rw [hr9]; exact hvT4, fun _ => by unfold pS; rw [hy1, hy2, hy3], fun h9 => absurd (by rw [hr9]; exact hze) h9, by rw [hr9, if_pos hze]⟩ (by refine Ent.pick pk_ ?_; refine Ent.pick pk_ ?_; refine Ent.pick pk_ ?_; refine Ent.pick pk_ ?_; refine Ent.pick pk_ ?_; refine Ent.pick pk_ ?_; repeat (first | exact Ent.refl _ | refine Ent.skip ?_))
        · skip
          refine o_step rfl (s_q rfl wn (q_loadpa (vs := encSnap1 (⟨x.Mark, x.Conf, x.Body⟩ : Snap1)) ag_26 rfl pk_ rfl) ?_)
          refine d_c ?_
          refine d_2 3 5 ?_ ?_
          · skip
            refine o_step rfl (s_q rfl wn (q_loadp (v := .pointer (some ⟨b, 0, none⟩)) sc_39 rfl pk_ rfl) ?_)
            refine d_c ?_
            refine d_1 5 ?_
            refine o_step rfl (s_fnb rfl wn Tryz.func16 rfl (by kernel_rfl) rfl sl_ (fun ρ' hL => bytes_spec x ρ' (Ro.mono hL.1 hxc) (Ro.mono hL.1 hxb) (by omega) (by omega) hrx) ?_)
            rintro _ _ ⟨aK, cK, rfl, rfl⟩
            try simp only [List.cons_append, List.nil_append]
            refine d_c ?_
            refine d_1 6 ?_
            refine o_step rfl (s_s rfl wn (s_buildSlice (cs := ([(⟨aK, (snB (pS x)), cK⟩ : SL UInt8)] : List (SL UInt8)).flatMap encSL) Tryz.underlying37 eo_22 rfl rfl rfl rfl (by decide) (by decide)) ?_)
            rintro _ _ ⟨b31, rfl, rfl⟩
            refine d_c ?_
            refine d_1 7 ?_
            refine o_step rfl (s_fnb rfl wn Tryz.func26 rfl (by kernel_rfl) rfl sl_ (fun ρ' hL => Go.Dsk.Y.append_spec b room mb ((remS calls (vw T) aside).2.2) T1 aside (some ⟨b31, 0, none⟩) 1 1 [⟨aK, (snB (pS x)), cK⟩] rfl ρ' hT1 hU1 hr hc1 (by decide) (by decide) (by show _ + ((snB (pS x)) ++ []).length ≤ _; rw [List.append_nil]; omega) (hL.row pk_) (by intro q hq; rw [List.mem_singleton.1 hq]; exact hL.row pk_)) ?_)
            rintro _ _ ⟨T2, rfl, hvT2, rfl⟩
            try simp only [List.cons_append, List.nil_append]
            have hcat : (([⟨aK, (snB (pS x)), cK⟩] : List (SL UInt8)).flatMap fun x : SL UInt8 => x.xs) = (snB (pS x)) := by simp
            rw [hcat, hvT1] at hvT2
            rw [hcat, hvT1]
            refine d_c ?_
            refine d_t 8 rfl wn (q_assign rfl) ?_
            refine d_d ?_
            refine k_then_n ?_
            refine sr ?_
            refine e_mv rfl ?_
            refine e_q (q_neq rfl rfl) ?_
            refine l_n ?_
            refine c_cond rfl (fun h2 => ?_) (fun h2 => ?_)
            · try simp only [decide_eq_true_eq, decide_eq_false_iff_not, ne_eq, Decidable.not_not] at h2
              refine sr ?_
              refine e_mv rfl ?_
              refine e_as rfl ?_
              refine l_n ?_
              refine c_ret ?_
              refine k_then_r ?_
              have hr9 : (putX room calls (vw T) has (pS tp) (pS x)) = ((appR room (remS calls (vw T) aside).2.2 (remS calls (vw T) aside).2.1 aside (snB (pS x))).1, (appR room (remS calls (vw T) aside).2.2 (remS calls (vw T) aside).2.1 aside (snB (pS x))).2, decC (remS calls (vw T) aside).2.2) := (pu_wr (bad_no (show rightM x.Mark.Index x.Mark.Term = true from hrx) h0) (by omega)).trans (wx_app h2)
              have hne : ¬ (appR room (remS calls (vw T) aside).2.2 (remS calls (vw T) aside).2.1 aside (snB (pS x))).1 = 0 := h2
              exact t_rt [.pts s (encShelf1 (⟨(some b), tp, has⟩ : Shelf1)) 145, .row 5 1 tp.Conf.a tp.Conf.xs.length tp.Conf.cap (tp.Conf.xs.flatMap encB), .row 5 1 tp.Body.a tp.Body.xs.length tp.Body.cap (tp.Body.xs.flatMap encB), .pts b (encDisk1 (⟨room, (some mb), (decC (remS calls (vw T) aside).2.2)⟩ : Disk1)) 143, MP strB ptV mb (fm T2), FB 154 5 T2] rfl (.tmp rfl .nil) rfl ⟨rfl, T2, tp, by rw [hr9]; rfl, by rw [hr9]; exact hvT2, fun h9 => absurd h9 (by rw [hr9]; exact hne), fun _ => rfl, by rw [hr9, if_neg hne]⟩ (by refine Ent.pick pk_ ?_; refine Ent.pick pk_ ?_; refine Ent.pick pk_ ?_; refine Ent.pick pk_ ?_; refine Ent.pick pk_ ?_; refine Ent.pick pk_ ?_; repeat (first | exact Ent.refl _ | refine Ent.skip ?_))
            · try simp only [decide_eq_true_eq, decide_eq_false_iff_not, ne_eq, Decidable.not_not] at h2
              have hV2 : VOk (vw T2) := by rw [hvT2, ← hvT1]; exact vok_app hV1 (by rw [used_vw]; omega)
              have hT2 : FOk T2 := Go.Dsk.fok.2 hV2
              refine c_skip ?_
              refine k_then_n ?_
              refine c_seq ?_
              refine sr ?_
              refine e_mv rfl ?_
              refine e_q (q_nilCheck rfl) ?_
              refine e_q (q_fieldp rfl fo_145_0) ?_
              refine e_q (q_loadp (v := .pointer (some ⟨b, 0, none⟩)) sc_39 rfl pk_ rfl) ?_
              refine e_s (s_buildSlice (cs := ([[115, 110, 97, 112, 45, 110, 101, 119]] : List (List UInt8)).flatMap Go.SL.encStr) Tryz.underlying52 eo_9 rfl rfl rfl rfl (by decide) (by decide)) ?_
              rintro _ _ ⟨b40, rfl, rfl⟩
              refine e_fn Tryz.func72 rfl sl_ (fun ρ' hL => Go.Dsk.Z.sync_spec b room mb (decC (remS calls (vw T) aside).2.2) T2 (some ⟨b40, 0, none⟩) 1 1 [aside] rfl ρ' hT2 (decC_le hc1) (hL.row pk_)) ?_
              rintro _ _ ⟨T3, rfl, hvT3, rfl⟩
              try simp only [List.cons_append, List.nil_append]
              rw [hvT2] at hvT3
              rw [hvT2]
              refine e_as rfl ?_
              refine l_n ?_
              refine sr ?_
              refine e_mv rfl ?_
              refine e_q (q_neq rfl rfl) ?_
              refine l_n ?_
              refine c_cond rfl (fun h3 => ?_) (fun h3 => ?_)
              · try simp only [decide_eq_true_eq, decide_eq_false_iff_not, ne_eq, Decidable.not_not] at h3
                refine sr ?_
                refine e_mv rfl ?_
                refine e_as rfl ?_
                refine l_n ?_
                refine c_ret ?_
                refine k_then_r ?_
                have hr9 : (putX room calls (vw T) has (pS tp) (pS x)) = ((syncR (decC (remS calls (vw T) aside).2.2) (appR room (remS calls (vw T) aside).2.2 (remS calls (vw T) aside).2.1 aside (snB (pS x))).2 [aside]).1, (syncR (decC (remS calls (vw T) aside).2.2) (appR room (remS calls (vw T) aside).2.2 (remS calls (vw T) aside).2.1 aside (snB (pS x))).2 [aside]).2, decC (decC (remS calls (vw T) aside).2.2)) := (pu_wr (bad_no (show rightM x.Mark.Index x.Mark.Term = true from hrx) h0) (by omega)).trans (wx_syn (by omega) h3)
                have hne : ¬ (syncR (decC (remS calls (vw T) aside).2.2) (appR room (remS calls (vw T) aside).2.2 (remS calls (vw T) aside).2.1 aside (snB (pS x))).2 [aside]).1 = 0 := h3
                exact t_rt [.pts s (encShelf1 (⟨(some b), tp, has⟩ : Shelf1)) 145, .row 5 1 tp.Conf.a tp.Conf.xs.length tp.Conf.cap (tp.Conf.xs.flatMap encB), .row 5 1 tp.Body.a tp.Body.xs.length tp.Body.cap (tp.Body.xs.flatMap encB), .pts b (encDisk1 (⟨room, (some mb), (decC (decC (remS calls (vw T) aside).2.2))⟩ : Disk1)) 143, MP strB ptV mb (fm T3), FB 154 5 T3] rfl (.tmp rfl .nil) rfl ⟨rfl, T3, tp, by rw [hr9]; rfl, by rw [hr9]; exact hvT3, fun h9 => absurd h9 (by rw [hr9]; exact hne), fun _ => rfl, by rw [hr9, if_neg hne]⟩ (by refine Ent.pick pk_ ?_; refine Ent.pick pk_ ?_; refine Ent.pick pk_ ?_; refine Ent.pick pk_ ?_; refine Ent.pick pk_ ?_; refine Ent.pick pk_ ?_; repeat (first | exact Ent.refl _ | refine Ent.skip ?_))
              · try simp only [decide_eq_true_eq, decide_eq_false_iff_not, ne_eq, Decidable.not_not] at h3
                have hT3 : FOk T3 := Go.Dsk.fok.2 (by rw [hvT3, ← hvT2]; exact vok_syn1 (by decide) hV2)
                refine c_skip ?_
                refine k_then_n ?_
                refine c_seq ?_
                refine c_seq ?_
                refine d_r 10 [.row 9 1 (some ⟨b40, 0, none⟩) 1 1 ([[115, 110, 97, 112, 45, 110, 101, 119]].flatMap Go.SL.encStr), .row 22 1 (some ⟨b31, 0, none⟩) 1 1 ([(⟨aK, (snB (pS x)), cK⟩ : SL UInt8)].flatMap encSL), .row 5 1 aK ((snB (pS x)).length) cK ((snB (pS x)).flatMap encB), .pts b3 (encSnap1 (⟨x.Mark, x.Conf, x.Body⟩ : Snap1)) 26, .pts s (encShelf1 (⟨(some b), tp, has⟩ : Shelf1)) 145, .row 5 1 tp.Conf.a tp.Conf.xs.length tp.Conf.cap (tp.Conf.xs.flatMap encB), .row 5 1 tp.Body.a tp.Body.xs.length tp.Body.cap (tp.Body.xs.flatMap encB)] ?_
                refine d_t 0 rfl wn (q_move rfl) ?_
                refine d_t 1 rfl wn (q_nilCheck rfl) ?_
                refine d_t 2 rfl wn (q_fieldp rfl fo_145_0) ?_
                refine d_t 3 rfl wn (q_loadp (v := .pointer (some ⟨b, 0, none⟩)) sc_39 rfl pk_ rfl) ?_
                refine d_t 4 rfl wn (q_fieldp rfl fo_26_0) ?_
                refine d_t 5 rfl wn (q_fieldp rfl fo_24_0) ?_
                refine d_t 6 rfl wn (q_loadp (v := .int .i64 x.Mark.Index) sc_3 rfl pk_ rfl) ?_
                refine d_1 7 ?_
                refine o_step rfl (s_fnq rfl wn Tryz.func74 rfl (by kernel_rfl) rfl (fun ρ' hL => name_spec x.Mark.Index ρ' (by omega) hi) ?_)
                refine d_c ?_
                refine d_1 8 ?_
                refine o_step rfl (s_fnb rfl wn Tryz.func73 rfl (by kernel_rfl) rfl sl_ (fun ρ' hL => Go.Dsk.V.rename_spec b room mb (decC (decC (remS calls (vw T) aside).2.2)) T3 aside (nameX x.Mark.Index.toNat) ρ' hT3 (decC_le (decC_le hc1)) (Nat.le_trans (name_len (by omega)) (by decide))) ?_)
                rintro _ _ ⟨T4, rfl, hvT4, rfl⟩
                try simp only [List.cons_append, List.nil_append]
                rw [hvT3] at hvT4
                rw [hvT3]
                refine d_c ?_
                refine d_t 9 rfl wn (q_assign rfl) ?_
                refine d_d ?_
                refine k_then_n ?_
                refine sr ?_
                refine e_mv rfl ?_
                refine e_q (q_neq rfl rfl) ?_
                refine l_n ?_
                refine c_cond rfl (fun h4 => ?_) (fun h4 => ?_)
                · try simp only [decide_eq_true_eq, decide_eq_false_iff_not, ne_eq, Decidable.not_not] at h4
                  refine sr ?_
                  refine e_mv rfl ?_
                  refine e_as rfl ?_
                  refine l_n ?_
                  refine c_ret ?_
                  refine k_then_r ?_
                  have hr9 : (putX room calls (vw T) has (pS tp) (pS x)) = ((renR (decC (decC (remS calls (vw T) aside).2.2)) (syncR (decC (remS calls (vw T) aside).2.2) (appR room (remS calls (vw T) aside).2.2 (remS calls (vw T) aside).2.1 aside (snB (pS x))).2 [aside]).2 aside (nameX x.Mark.Index.toNat)).1, (renR (decC (decC (remS calls (vw T) aside).2.2)) (syncR (decC (remS calls (vw T) aside).2.2) (appR room (remS calls (vw T) aside).2.2 (remS calls (vw T) aside).2.1 aside (snB (pS x))).2 [aside]).2 aside (nameX x.Mark.Index.toNat)).2, decC (decC (decC (remS calls (vw T) aside).2.2))) := (pu_wr (bad_no (show rightM x.Mark.Index x.Mark.Term = true from hrx) h0) (by omega)).trans (wx_ren (by omega) (by omega))
                  have hne : ¬ (renR (decC (decC (remS calls (vw T) aside).2.2)) (syncR (decC (remS calls (vw T) aside).2.2) (appR room (remS calls (vw T) aside).2.2 (remS calls (vw T) aside).2.1 aside (snB (pS x))).2 [aside]).2 aside (nameX x.Mark.Index.toNat)).1 = 0 := h4
                  exact t_rt [.pts s (encShelf1 (⟨(some b), tp, has⟩ : Shelf1)) 145, .row 5 1 tp.Conf.a tp.Conf.xs.length tp.Conf.cap (tp.Conf.xs.flatMap encB), .row 5 1 tp.Body.a tp.Body.xs.length tp.Body.cap (tp.Body.xs.flatMap encB), .pts b (encDisk1 (⟨room, (some mb), (decC (decC (decC (remS calls (vw T) aside).2.2)))⟩ : Disk1)) 143, MP strB ptV mb (fm T4), FB 154 5 T4] rfl (.tmp rfl .nil) rfl ⟨rfl, T4, tp, by rw [hr9]; rfl, by rw [hr9]; exact hvT4, fun h9 => absurd h9 (by rw [hr9]; exact hne), fun _ => rfl, by rw [hr9, if_neg hne]⟩ (by refine Ent.pick pk_ ?_; refine Ent.pick pk_ ?_; refine Ent.pick pk_ ?_; refine Ent.pick pk_ ?_; refine Ent.pick pk_ ?_; refine Ent.pick pk_ ?_; repeat (first | exact Ent.refl _ | refine Ent.skip ?_))
                · try simp only [decide_eq_true_eq, decide_eq_false_iff_not, ne_eq, Decidable.not_not] at h4
                  refine c_skip ?_
                  refine k_then_n ?_
                  refine sr ?_
                  refine e_mv rfl ?_
                  refine e_mv rfl ?_
                  refine e_q (q_loadpa (vs := encSnap1 (⟨x.Mark, x.Conf, x.Body⟩ : Snap1)) ag_26 rfl pk_ rfl) ?_
                  refine e_fn Tryz.func75 rfl sl_ (fun ρ' hL => own_spec x ρ' (Ro.mono hL.1 hxc) (Ro.mono hL.1 hxb) (by omega) (by omega)) ?_
                  rintro _ _ ⟨y, rfl, hy1, hy2, hy3, rfl⟩
                  try simp only [List.cons_append, List.nil_append]
                  refine e_q (q_nilCheck rfl) ?_
                  refine e_q (q_fieldp rfl fo_145_1) ?_
                  refine l_step (s_s0 wn (s_storep (ws := encSnap1 y) (cs := encShelf1 (⟨(some b), tp, has⟩ : Shelf1)) (cs' := encShelf1 (⟨(some b), y, has⟩ : Shelf1)) rfl rfl rfl sz_26 (oneSnap1 _) (by simp [encShelf1, encSnap1]) rfl pk_) ?_)
                  rintro _ _ ⟨rfl, rfl⟩
                  refine e_q (q_nilCheck rfl) ?_
                  refine e_q (q_fieldp rfl fo_145_2) ?_
                  refine l_step (s_s0 wn (s_storep (ws := [.bool true]) (cs := encShelf1 (⟨(some b), y, has⟩ : Shelf1)) (cs' := encShelf1 (⟨(some b), y, true⟩ : Shelf1)) rfl rfl rfl sz_4 (by simp [Value.oneCell', strB, ptV, SL.v, SH.v]) (by simp [encShelf1]) rfl pk_) ?_)
                  rintro _ _ ⟨rfl, rfl⟩
                  refine l_n ?_
                  refine sr ?_
                  refine e_as rfl ?_
                  refine l_n ?_
                  refine c_ret ?_
                  have hr9 : (putX room calls (vw T) has (pS tp) (pS x)) = ((renR (decC (decC (remS calls (vw T) aside).2.2)) (syncR (decC (remS calls (vw T) aside).2.2) (appR room (remS calls (vw T) aside).2.2 (remS calls (vw T) aside).2.1 aside (snB (pS x))).2 [aside]).2 aside (nameX x.Mark.Index.toNat)).1, (renR (decC (decC (remS calls (vw T) aside).2.2)) (syncR (decC (remS calls (vw T) aside).2.2) (appR room (remS calls (vw T) aside).2.2 (remS calls (vw T) aside).2.1 aside (snB (pS x))).2 [aside]).2 aside (nameX x.Mark.Index.toNat)).2, decC (decC (decC (remS calls (vw T) aside).2.2))) := (pu_wr (bad_no (show rightM x.Mark.Index x.Mark.Term = true from hrx) h0) (by omega)).trans (wx_ren (by omega) (by omega))
                  have hze : (renR (decC (decC (remS calls (vw T) aside).2.2)) (syncR (decC (remS calls (vw T) aside).2.2) (appR room (remS calls (vw T) aside).2.2 (remS calls (vw T) aside).2.1 aside (snB (pS x))).2 [aside]).2 aside (nameX x.Mark.Index.toNat)).1 = 0 := by omega
                  exact t_rt [.pts s (encShelf1 (⟨(some b), y, true⟩ : Shelf1)) 145, .row 5 1 y.Conf.a y.Conf.xs.length y.Conf.cap (y.Conf.xs.flatMap encB), .row 5 1 y.Body.a y.Body.xs.length y.Body.cap (y.Body.xs.flatMap encB), .pts b (encDisk1 (⟨room, (some mb), (decC (decC (decC (remS calls (vw T) aside).2.2)))⟩ : Disk1)) 143, MP strB ptV mb (fm T4), FB 154 5 T4] rfl (.tmp rfl .nil) rfl ⟨rfl, T4, y, by rw [hr9]; exact inte hze.symm, by rw [hr9]; exact hvT4, fun _ => by unfold pS; rw [hy1, hy2, hy3], fun h9 => absurd (by rw [hr9]; exact hze) h9, by rw [hr9, if_pos hze]⟩ (by refine Ent.pick pk_ ?_; refine Ent.pick pk_ ?_; refine Ent.pick pk_ ?_; refine Ent.pick pk_ ?_; refine Ent.pick pk_ ?_; refine Ent.pick pk_ ?_; repeat (first | exact Ent.refl _ | refine Ent.skip ?_))
          · skip
            refine o_step rfl (s_fnb rfl wn Tryz.func16 rfl (by kernel_rfl) rfl sl_ (fun ρ' hL => bytes_spec x ρ' (Ro.mono hL.1 hxc) (Ro.mono hL.1 hxb) (by omega) (by omega) hrx) ?_)
            rintro _ _ ⟨aK, cK, rfl, rfl⟩
            try simp only [List.cons_append, List.nil_append]
            refine d_c ?_
            refine d_2 3 6 ?_ ?_
            · skip
              refine o_step rfl (s_q rfl wn (q_loadp (v := .pointer (some ⟨b, 0, none⟩)) sc_39 rfl pk_ rfl) ?_)
              refine d_c ?_
              refine d_1 6 ?_
              refine o_step rfl (s_s rfl wn (s_buildSlice (cs := ([(⟨aK, (snB (pS x)), cK⟩ : SL UInt8)] : List (SL UInt8)).flatMap encSL) Tryz.underlying37 eo_22 rfl rfl rfl rfl (by decide) (by decide)) ?_)
              rintro _ _ ⟨b31, rfl, rfl⟩
              refine d_c ?_
              refine d_1 7 ?_
              refine o_step rfl (s_fnb rfl wn Tryz.func26 rfl (by kernel_rfl) rfl sl_ (fun ρ' hL => Go.Dsk.Y.append_spec b room mb ((remS calls (vw T) aside).2.2) T1 aside (some ⟨b31, 0, none⟩) 1 1 [⟨aK, (snB (pS x)), cK⟩] rfl ρ' hT1 hU1 hr hc1 (by decide) (by decide) (by show _ + ((snB (pS x)) ++ []).length ≤ _; rw [List.append_nil]; omega) (hL.row pk_) (by intro q hq; rw [List.mem_singleton.1 hq]; exact hL.row pk_)) ?_)
              rintro _ _ ⟨T2, rfl, hvT2, rfl⟩
              try simp only [List.cons_append, List.nil_append]
              have hcat : (([⟨aK, (snB (pS x)), cK⟩] : List (SL UInt8)).flatMap fun x : SL UInt8 => x.xs) = (snB (pS x)) := by simp
              rw [hcat, hvT1] at hvT2
              rw [hcat, hvT1]
              refine d_c ?_
              refine d_t 8 rfl wn (q_assign rfl) ?_
              refine d_d ?_
              refine k_then_n ?_
              refine sr ?_
              refine e_mv rfl ?_
              refine e_q (q_neq rfl rfl) ?_
              refine l_n ?_
              refine c_cond rfl (fun h2 => ?_) (fun h2 => ?_)
              · try simp only [decide_eq_true_eq, decide_eq_false_iff_not, ne_eq, Decidable.not_not] at h2
                refine sr ?_
                refine e_mv rfl ?_
                refine e_as rfl ?_
                refine l_n ?_
                refine c_ret ?_
                refine k_then_r ?_
                have hr9 : (putX room calls (vw T) has (pS tp) (pS x)) = ((appR room (remS calls (vw T) aside).2.2 (remS calls (vw T) aside).2.1 aside (snB (pS x))).1, (appR room (remS calls (vw T) aside).2.2 (remS calls (vw T) aside).2.1 aside (snB (pS x))).2, decC (remS calls (vw T) aside).2.2) := (pu_wr (bad_no (show rightM x.Mark.Index x.Mark.Term = true from hrx) h0) (by omega)).trans (wx_app h2)
                have hne : ¬ (appR room (remS calls (vw T) aside).2.2 (remS calls (vw T) aside).2.1 aside (snB (pS x))).1 = 0 := h2
                exact t_rt [.pts s (encShelf1 (⟨(some b), tp, has⟩ : Shelf1)) 145, .row 5 1 tp.Conf.a tp.Conf.xs.length tp.Conf.cap (tp.Conf.xs.flatMap encB), .row 5 1 tp.Body.a tp.Body.xs.length tp.Body.cap (tp.Body.xs.flatMap encB), .pts b (encDisk1 (⟨room, (some mb), (decC (remS calls (vw T) aside).2.2)⟩ : Disk1)) 143, MP strB ptV mb (fm T2), FB 154 5 T2] rfl (.tmp rfl .nil) rfl ⟨rfl, T2, tp, by rw [hr9]; rfl, by rw [hr9]; exact hvT2, fun h9 => absurd h9 (by rw [hr9]; exact hne), fun _ => rfl, by rw [hr9, if_neg hne]⟩ (by refine Ent.pick pk_ ?_; refine Ent.pick pk_ ?_; refine Ent.pick pk_ ?_; refine Ent.pick pk_ ?_; refine Ent.pick pk_ ?_; refine Ent.pick pk_ ?_; repeat (first | exact Ent.refl _ | refine Ent.skip ?_))
              · try simp only [decide_eq_true_eq, decide_eq_false_iff_not, ne_eq, Decidable.not_not] at h2
                have hV2 : VOk (vw T2) := by rw [hvT2, ← hvT1]; exact vok_app hV1 (by rw [used_vw]; omega)
                have hT2 : FOk T2 := Go.Dsk.fok.2 hV2
                refine c_skip ?_
                refine k_then_n ?_
                refine c_seq ?_
                refine sr ?_
                refine e_mv rfl ?_
                refine e_q (q_nilCheck rfl) ?_
                refine e_q (q_fieldp rfl fo_145_0) ?_
                refine e_q (q_loadp (v := .pointer (some ⟨b, 0, none⟩)) sc_39 rfl pk_ rfl) ?_
                refine e_s (s_buildSlice (cs := ([[115, 110, 97, 112, 45, 110, 101, 119]] : List (List UInt8)).flatMap Go.SL.encStr) Tryz.underlying52 eo_9 rfl rfl rfl rfl (by decide) (by decide)) ?_
                rintro _ _ ⟨b40, rfl, rfl⟩
                refine e_fn Tryz.func72 rfl sl_ (fun ρ' hL => Go.Dsk.Z.sync_spec b room mb (decC (remS calls (vw T) aside).2.2) T2 (some ⟨b40, 0, none⟩) 1 1 [aside] rfl ρ' hT2 (decC_le hc1) (hL.row pk_)) ?_
                rintro _ _ ⟨T3, rfl, hvT3, rfl⟩
                try simp only [List.cons_append, List.nil_append]
                rw [hvT2] at hvT3
                rw [hvT2]
                refine e_as rfl ?_
                refine l_n ?_
                refine sr ?_
                refine e_mv rfl ?_
                refine e_q (q_neq rfl rfl) ?_
                refine l_n ?_
                refine c_cond rfl (fun h3 => ?_) (fun h3 => ?_)
                · try simp only [decide_eq_true_eq, decide_eq_false_iff_not, ne_eq, Decidable.not_not] at h3
                  refine sr ?_
                  refine e_mv rfl ?_
                  refine e_as rfl ?_
                  refine l_n ?_
                  refine c_ret ?_
                  refine k_then_r ?_
                  have hr9 : (putX room calls (vw T) has (pS tp) (pS x)) = ((syncR (decC (remS calls (vw T) aside).2.2) (appR room (remS calls (vw T) aside).2.2 (remS calls (vw T) aside).2.1 aside (snB (pS x))).2 [aside]).1, (syncR (decC (remS calls (vw T) aside).2.2) (appR room (remS calls (vw T) aside).2.2 (remS calls (vw T) aside).2.1 aside (snB (pS x))).2 [aside]).2, decC (decC (remS calls (vw T) aside).2.2)) := (pu_wr (bad_no (show rightM x.Mark.Index x.Mark.Term = true from hrx) h0) (by omega)).trans (wx_syn (by omega) h3)
                  have hne : ¬ (syncR (decC (remS calls (vw T) aside).2.2) (appR room (remS calls (vw T) aside).2.2 (remS calls (vw T) aside).2.1 aside (snB (pS x))).2 [aside]).1 = 0 := h3
                  exact t_rt [.pts s (encShelf1 (⟨(some b), tp, has⟩ : Shelf1)) 145, .row 5 1 tp.Conf.a tp.Conf.xs.length tp.Conf.cap (tp.Conf.xs.flatMap encB), .row 5 1 tp.Body.a tp.Body.xs.length tp.Body.cap (tp.Body.xs.flatMap encB), .pts b (encDisk1 (⟨room, (some mb), (decC (decC (remS calls (vw T) aside).2.2))⟩ : Disk1)) 143, MP strB ptV mb (fm T3), FB 154 5 T3] rfl (.tmp rfl .nil) rfl ⟨rfl, T3, tp, by rw [hr9]; rfl, by rw [hr9]; exact hvT3, fun h9 => absurd h9 (by rw [hr9]; exact hne), fun _ => rfl, by rw [hr9, if_neg hne]⟩ (by refine Ent.pick pk_ ?_; refine Ent.pick pk_ ?_; refine Ent.pick pk_ ?_; refine Ent.pick pk_ ?_; refine Ent.pick pk_ ?_; refine Ent.pick pk_ ?_; repeat (first | exact Ent.refl _ | refine Ent.skip ?_))
                · try simp only [decide_eq_true_eq, decide_eq_false_iff_not, ne_eq, Decidable.not_not] at h3
                  have hT3 : FOk T3 := Go.Dsk.fok.2 (by rw [hvT3, ← hvT2]; exact vok_syn1 (by decide) hV2)
                  refine c_skip ?_
                  refine k_then_n ?_
                  refine c_seq ?_
                  refine c_seq ?_
                  refine d_r 10 [.row 9 1 (some ⟨b40, 0, none⟩) 1 1 ([[115, 110, 97, 112, 45, 110, 101, 119]].flatMap Go.SL.encStr), .row 22 1 (some ⟨b31, 0, none⟩) 1 1 ([(⟨aK, (snB (pS x)), cK⟩ : SL UInt8)].flatMap encSL), .row 5 1 aK ((snB (pS x)).length) cK ((snB (pS x)).flatMap encB), .pts b3 (encSnap1 (⟨x.Mark, x.Conf, x.Body⟩ : Snap1)) 26, .pts s (encShelf1 (⟨(some b), tp, has⟩ : Shelf1)) 145, .row 5 1 tp.Conf.a tp.Conf.xs.length tp.Conf.cap (tp.Conf.xs.flatMap encB), .row 5 1 tp.Body.a tp.Body.xs.length tp.Body.cap (tp.Body.xs.flatMap encB)] ?_
                  refine d_t 0 rfl wn (q_move rfl) ?_
                  refine d_t 1 rfl wn (q_nilCheck rfl) ?_
                  refine d_t 2 rfl wn (q_fieldp rfl fo_145_0) ?_
                  refine d_t 3 rfl wn (q_loadp (v := .pointer (some ⟨b, 0, none⟩)) sc_39 rfl pk_ rfl) ?_
                  refine d_t 4 rfl wn (q_fieldp rfl fo_26_0) ?_
                  refine d_t 5 rfl wn (q_fieldp rfl fo_24_0) ?_
                  refine d_t 6 rfl wn (q_loadp (v := .int .i64 x.Mark.Index) sc_3 rfl pk_ rfl) ?_
                  refine d_1 7 ?_
                  refine o_step rfl (s_fnq rfl wn Tryz.func74 rfl (by kernel_rfl) rfl (fun ρ' hL => name_spec x.Mark.Index ρ' (by omega) hi) ?_)
                  refine d_c ?_
                  refine d_1 8 ?_
                  refine o_step rfl (s_fnb rfl wn Tryz.func73 rfl (by kernel_rfl) rfl sl_ (fun ρ' hL => Go.Dsk.V.rename_spec b room mb (decC (decC (remS calls (vw T) aside).2.2)) T3 aside (nameX x.Mark.Index.toNat) ρ' hT3 (decC_le (decC_le hc1)) (Nat.le_trans (name_len (by omega)) (by decide))) ?_)
                  rintro _ _ ⟨T4, rfl, hvT4, rfl⟩
                  try simp only [List.cons_append, List.nil_append]
                  rw [hvT3] at hvT4
                  rw [hvT3]
                  refine d_c ?_
                  refine d_t 9 rfl wn (q_assign rfl) ?_
                  refine d_d ?_
                  refine k_then_n ?_
                  refine sr ?_
                  refine e_mv rfl ?_
                  refine e_q (q_neq rfl rfl) ?_
                  refine l_n ?_
                  refine c_cond rfl (fun h4 => ?_) (fun h4 => ?_)
                  · try simp only [decide_eq_true_eq, decide_eq_false_iff_not, ne_eq, Decidable.not_not] at h4
                    refine sr ?_
                    refine e_mv rfl ?_
                    refine e_as rfl ?_
                    refine l_n ?_
                    refine c_ret ?_
                    refine k_then_r ?_
                    have hr9 : (putX room calls (vw T) has (pS tp) (pS x)) = ((renR (decC (decC (remS calls (vw T) aside).2.2)) (syncR (decC (remS calls (vw T) aside).2.2) (appR room (remS calls (vw T) aside).2.2 (remS calls (vw T) aside).2.1 aside (snB (pS x))).2 [aside]).2 aside (nameX x.Mark.Index.toNat)).1, (renR (decC (decC (remS calls (vw T) aside).2.2)) (syncR (decC (remS calls (vw T) aside).2.2) (appR room (remS calls (vw T) aside).2.2 (remS calls (vw T) aside).2.1 aside (snB (pS x))).2 [aside]).2 aside (nameX x.Mark.Index.toNat)).2, decC (decC (decC (remS calls (vw T) aside).2.2))) := (pu_wr (bad_no (show rightM x.Mark.Index x.Mark.Term = true from hrx) h0) (by omega)).trans (wx_ren (by omega) (by omega))
                    have hne : ¬ (renR (decC (decC (remS calls (vw T) aside).2.2)) (syncR (decC (remS calls (vw T) aside).2.2) (appR room (remS calls (vw T) aside).2.2 (remS calls (vw T) aside).2.1 aside (snB (pS x))).2 [aside]).2 aside (nameX x.Mark.Index.toNat)).1 = 0 := h4
                    exact t_rt [.pts s (encShelf1 (⟨(some b), tp, has⟩ : Shelf1)) 145, .row 5 1 tp.Conf.a tp.Conf.xs.length tp.Conf.cap (tp.Conf.xs.flatMap encB), .row 5 1 tp.Body.a tp.Body.xs.length tp.Body.cap (tp.Body.xs.flatMap encB), .pts b (encDisk1 (⟨room, (some mb), (decC (decC (decC (remS calls (vw T) aside).2.2)))⟩ : Disk1)) 143, MP strB ptV mb (fm T4), FB 154 5 T4] rfl (.tmp rfl .nil) rfl ⟨rfl, T4, tp, by rw [hr9]; rfl, by rw [hr9]; exact hvT4, fun h9 => absurd h9 (by rw [hr9]; exact hne), fun _ => rfl, by rw [hr9, if_neg hne]⟩ (by refine Ent.pick pk_ ?_; refine Ent.pick pk_ ?_; refine Ent.pick pk_ ?_; refine Ent.pick pk_ ?_; refine Ent.pick pk_ ?_; refine Ent.pick pk_ ?_; repeat (first | exact Ent.refl _ | refine Ent.skip ?_))
                  · try simp only [decide_eq_true_eq, decide_eq_false_iff_not, ne_eq, Decidable.not_not] at h4
                    refine c_skip ?_
                    refine k_then_n ?_
                    refine sr ?_
                    refine e_mv rfl ?_
                    refine e_mv rfl ?_
                    refine e_q (q_loadpa (vs := encSnap1 (⟨x.Mark, x.Conf, x.Body⟩ : Snap1)) ag_26 rfl pk_ rfl) ?_
                    refine e_fn Tryz.func75 rfl sl_ (fun ρ' hL => own_spec x ρ' (Ro.mono hL.1 hxc) (Ro.mono hL.1 hxb) (by omega) (by omega)) ?_
                    rintro _ _ ⟨y, rfl, hy1, hy2, hy3, rfl⟩
                    try simp only [List.cons_append, List.nil_append]
                    refine e_q (q_nilCheck rfl) ?_
                    refine e_q (q_fieldp rfl fo_145_1) ?_
                    refine l_step (s_s0 wn (s_storep (ws := encSnap1 y) (cs := encShelf1 (⟨(some b), tp, has⟩ : Shelf1)) (cs' := encShelf1 (⟨(some b), y, has⟩ : Shelf1)) rfl rfl rfl sz_26 (oneSnap1 _) (by simp [encShelf1, encSnap1]) rfl pk_) ?_)
                    rintro _ _ ⟨rfl, rfl⟩
                    refine e_q (q_nilCheck rfl) ?_
                    refine e_q (q_fieldp rfl fo_145_2) ?_
                    refine l_step (s_s0 wn (s_storep (ws := [.bool true]) (cs := encShelf1 (⟨(some b), y, has⟩ : Shelf1)) (cs' := encShelf1 (⟨(some b), y, true⟩ : Shelf1)) rfl rfl rfl sz_4 (by simp [Value.oneCell', strB, ptV, SL.v, SH.v]) (by simp [encShelf1]) rfl pk_) ?_)
                    rintro _ _ ⟨rfl, rfl⟩
                    refine l_n ?_
                    refine sr ?_
                    refine e_as rfl ?_
                    refine l_n ?_
                    refine c_ret ?_
                    have hr9 : (putX room calls (vw T) has (pS tp) (pS x)) = ((renR (decC (decC (remS calls (vw T) aside).2.2)) (syncR (decC (remS calls (vw T) aside).2.2) (appR room (remS calls (vw T) aside).2.2 (remS calls (vw T) aside).2.1 aside (snB (pS x))).2 [aside]).2 aside (nameX x.Mark.Index.toNat)).1, (renR (decC (decC (remS calls (vw T) aside).2.2)) (syncR (decC (remS calls (vw T) aside).2.2) (appR room (remS calls (vw T) aside).2.2 (remS calls (vw T) aside).2.1 aside (snB (pS x))).2 [aside]).2 aside (nameX x.Mark.Index.toNat)).2, decC (decC (decC (remS calls (vw T) aside).2.2))) := (pu_wr (bad_no (show rightM x.Mark.Index x.Mark.Term = true from hrx) h0) (by omega)).trans (wx_ren (by omega) (by omega))
                    have hze : (renR (decC (decC (remS calls (vw T) aside).2.2)) (syncR (decC (remS calls (vw T) aside).2.2) (appR room (remS calls (vw T) aside).2.2 (remS calls (vw T) aside).2.1 aside (snB (pS x))).2 [aside]).2 aside (nameX x.Mark.Index.toNat)).1 = 0 := by omega
                    exact t_rt [.pts s (encShelf1 (⟨(some b), y, true⟩ : Shelf1)) 145, .row 5 1 y.Conf.a y.Conf.xs.length y.Conf.cap (y.Conf.xs.flatMap encB), .row 5 1 y.Body.a y.Body.xs.length y.Body.cap (y.Body.xs.flatMap encB), .pts b (encDisk1 (⟨room, (some mb), (decC (decC (decC (remS calls (vw T) aside).2.2)))⟩ : Disk1)) 143, MP strB ptV mb (fm T4), FB 154 5 T4] rfl (.tmp rfl .nil) rfl ⟨rfl, T4, y, by rw [hr9]; exact inte hze.symm, by rw [hr9]; exact hvT4, fun _ => by unfold pS; rw [hy1, hy2, hy3], fun h9 => absurd (by rw [hr9]; exact hze) h9, by rw [hr9, if_pos hze]⟩ (by refine Ent.pick pk_ ?_; refine Ent.pick pk_ ?_; refine Ent.pick pk_ ?_; refine Ent.pick pk_ ?_; refine Ent.pick pk_ ?_; refine Ent.pick pk_ ?_; repeat (first | exact Ent.refl _ | refine Ent.skip ?_))
            · skip
              refine o_step rfl (s_s rfl wn (s_buildSlice (cs := ([(⟨aK, (snB (pS x)), cK⟩ : SL UInt8)] : List (SL UInt8)).flatMap encSL) Tryz.underlying37 eo_22 rfl rfl rfl rfl (by decide) (by decide)) ?_)
              rintro _ _ ⟨b31, rfl, rfl⟩
              refine d_c ?_
              refine d_1 3 ?_
              refine o_step rfl (s_q rfl wn (q_loadp (v := .pointer (some ⟨b, 0, none⟩)) sc_39 rfl pk_ rfl) ?_)
              refine d_c ?_
              refine d_1 7 ?_
              refine o_step rfl (s_fnb rfl wn Tryz.func26 rfl (by kernel_rfl) rfl sl_ (fun ρ' hL => Go.Dsk.Y.append_spec b room mb ((remS calls (vw T) aside).2.2) T1 aside (some ⟨b31, 0, none⟩) 1 1 [⟨aK, (snB (pS x)), cK⟩] rfl ρ' hT1 hU1 hr hc1 (by decide) (by decide) (by show _ + ((snB (pS x)) ++ []).length ≤ _; rw [List.append_nil]; omega) (hL.row pk_) (by intro q hq; rw [List.mem_singleton.1 hq]; exact hL.row pk_)) ?_)
              rintro _ _ ⟨T2, rfl, hvT2, rfl⟩
              try simp only [List.cons_append, List.nil_append]
              have hcat : (([⟨aK, (snB (pS x)), cK⟩] : List (SL UInt8)).flatMap fun x : SL UInt8 => x.xs) = (snB (pS x)) := by simp
              rw [hcat, hvT1] at hvT2
              rw [hcat, hvT1]
              refine d_c ?_
              refine d_t 8 rfl wn (q_assign rfl) ?_
              refine d_d ?_
              refine k_then_n ?_
              refine sr ?_
              refine e_mv rfl ?_
              refine e_q (q_neq rfl rfl) ?_
              refine l_n ?_
              refine c_cond rfl (fun h2 => ?_) (fun h2 => ?_)
              · try simp only [decide_eq_true_eq, decide_eq_false_iff_not, ne_eq, Decidable.not_not] at h2
                refine sr ?_
                refine e_mv rfl ?_
                refine e_as rfl ?_
                refine l_n ?_
                refine c_ret ?_
                refine k_then_r ?_
                have hr9 : (putX room calls (vw T) has (pS tp) (pS x)) = ((appR room (remS calls (vw T) aside).2.2 (remS calls (vw T) aside).2.1 aside (snB (pS x))).1, (appR room (remS calls (vw T) aside).2.2 (remS calls (vw T) aside).2.1 aside (snB (pS x))).2, decC (remS calls (vw T) aside).2.2) := (pu_wr (bad_no (show rightM x.Mark.Index x.Mark.Term = true from hrx) h0) (by omega)).trans (wx_app h2)
                have hne : ¬ (appR room (remS calls (vw T) aside).2.2 (remS calls (vw T) aside).2.1 aside (snB (pS x))).1 = 0 := h2
                exact t_rt [.pts s (encShelf1 (⟨(some b), tp, has⟩ : Shelf1)) 145, .row 5 1 tp.Conf.a tp.Conf.xs.length tp.Conf.cap (tp.Conf.xs.flatMap encB), .row 5 1 tp.Body.a tp.Body.xs.length tp.Body.cap (tp.Body.xs.flatMap encB), .pts b (encDisk1 (⟨room, (some mb), (decC (remS calls (vw T) aside).2.2)⟩ : Disk1)) 143, MP strB ptV mb (fm T2), FB 154 5 T2] rfl (.tmp rfl .nil) rfl ⟨rfl, T2, tp, by rw [hr9]; rfl, by rw [hr9]; exact hvT2, fun h9 => absurd h9 (by rw [hr9]; exact hne), fun _ => rfl, by rw [hr9, if_neg hne]⟩ (by refine Ent.pick pk_ ?_; refine Ent.pick pk_ ?_; refine Ent.pick pk_ ?_; refine Ent.pick pk_ ?_; refine Ent.pick pk_ ?_; refine Ent.pick pk_ ?_; repeat (first | exact Ent.refl _ | refine Ent.skip ?_))
              · try simp only [decide_eq_true_eq, decide_eq_false_iff_not, ne_eq, Decidable.not_not] at h2
                have hV2 : VOk (vw T2) := by rw [hvT2, ← hvT1]; exact vok_app hV1 (by rw [used_vw]; omega)
                have hT2 : FOk T2 := Go.Dsk.fok.2 hV2
                refine c_skip ?_
                refine k_then_n ?_
                refine c_seq ?_
                refine sr ?_
                refine e_mv rfl ?_
                refine e_q (q_nilCheck rfl) ?_
                refine e_q (q_fieldp rfl fo_145_0) ?_
                refine e_q (q_loadp (v := .pointer (some ⟨b, 0, none⟩)) sc_39 rfl pk_ rfl) ?_
                refine e_s (s_buildSlice (cs := ([[115, 110, 97, 112, 45, 110, 101, 119]] : List (List UInt8)).flatMap Go.SL.encStr) Tryz.underlying52 eo_9 rfl rfl rfl rfl (by decide) (by decide)) ?_
                rintro _ _ ⟨b40, rfl, rfl⟩
                refine e_fn Tryz.func72 rfl sl_ (fun ρ' hL => Go.Dsk.Z.sync_spec b room mb (decC (remS calls (vw T) aside).2.2) T2 (some ⟨b40, 0, none⟩) 1 1 [aside] rfl ρ' hT2 (decC_le hc1) (hL.row pk_)) ?_
                rintro _ _ ⟨T3, rfl, hvT3, rfl⟩
                try simp only [List.cons_append, List.nil_append]
                rw [hvT2] at hvT3
                rw [hvT2]
                refine e_as rfl ?_
                refine l_n ?_
                refine sr ?_
                refine e_mv rfl ?_
                refine e_q (q_neq rfl rfl) ?_
                refine l_n ?_
                refine c_cond rfl (fun h3 => ?_) (fun h3 => ?_)
                · try simp only [decide_eq_true_eq, decide_eq_false_iff_not, ne_eq, Decidable.not_not] at h3
                  refine sr ?_
                  refine e_mv rfl ?_
                  refine e_as rfl ?_
                  refine l_n ?_
                  refine c_ret ?_
                  refine k_then_r ?_
                  have hr9 : (putX room calls (vw T) has (pS tp) (pS x)) = ((syncR (decC (remS calls (vw T) aside).2.2) (appR room (remS calls (vw T) aside).2.2 (remS calls (vw T) aside).2.1 aside (snB (pS x))).2 [aside]).1, (syncR (decC (remS calls (vw T) aside).2.2) (appR room (remS calls (vw T) aside).2.2 (remS calls (vw T) aside).2.1 aside (snB (pS x))).2 [aside]).2, decC (decC (remS calls (vw T) aside).2.2)) := (pu_wr (bad_no (show rightM x.Mark.Index x.Mark.Term = true from hrx) h0) (by omega)).trans (wx_syn (by omega) h3)
                  have hne : ¬ (syncR (decC (remS calls (vw T) aside).2.2) (appR room (remS calls (vw T) aside).2.2 (remS calls (vw T) aside).2.1 aside (snB (pS x))).2 [aside]).1 = 0 := h3
                  exact t_rt [.pts s (encShelf1 (⟨(some b), tp, has⟩ : Shelf1)) 145, .row 5 1 tp.Conf.a tp.Conf.xs.length tp.Conf.cap (tp.Conf.xs.flatMap encB), .row 5 1 tp.Body.a tp.Body.xs.length tp.Body.cap (tp.Body.xs.flatMap encB), .pts b (encDisk1 (⟨room, (some mb), (decC (decC (remS calls (vw T) aside).2.2))⟩ : Disk1)) 143, MP strB ptV mb (fm T3), FB 154 5 T3] rfl (.tmp rfl .nil) rfl ⟨rfl, T3, tp, by rw [hr9]; rfl, by rw [hr9]; exact hvT3, fun h9 => absurd h9 (by rw [hr9]; exact hne), fun _ => rfl, by rw [hr9, if_neg hne]⟩ (by refine Ent.pick pk_ ?_; refine Ent.pick pk_ ?_; refine Ent.pick pk_ ?_; refine Ent.pick pk_ ?_; refine Ent.pick pk_ ?_; refine Ent.pick pk_ ?_; repeat (first | exact Ent.refl _ | refine Ent.skip ?_))
                · try simp only [decide_eq_true_eq, decide_eq_false_iff_not, ne_eq, Decidable.not_not] at h3
                  have hT3 : FOk T3 := Go.Dsk.fok.2 (by rw [hvT3, ← hvT2]; exact vok_syn1 (by decide) hV2)
                  refine c_skip ?_
                  refine k_then_n ?_
                  refine c_seq ?_
                  refine c_seq ?_
                  refine d_r 10 [.row 9 1 (some ⟨b40, 0, none⟩) 1 1 ([[115, 110, 97, 112, 45, 110, 101, 119]].flatMap Go.SL.encStr), .row 22 1 (some ⟨b31, 0, none⟩) 1 1 ([(⟨aK, (snB (pS x)), cK⟩ : SL UInt8)].flatMap encSL), .row 5 1 aK ((snB (pS x)).length) cK ((snB (pS x)).flatMap encB), .pts b3 (encSnap1 (⟨x.Mark, x.Conf, x.Body⟩ : Snap1)) 26, .pts s (encShelf1 (⟨(some b), tp, has⟩ : Shelf1)) 145, .row 5 1 tp.Conf.a tp.Conf.xs.length tp.Conf.cap (tp.Conf.xs.flatMap encB), .row 5 1 tp.Body.a tp.Body.xs.length tp.Body.cap (tp.Body.xs.flatMap encB)] ?_
                  refine d_t 0 rfl wn (q_move rfl) ?_
                  refine d_t 1 rfl wn (q_nilCheck rfl) ?_
                  refine d_t 2 rfl wn (q_fieldp rfl fo_145_0) ?_
                  refine d_t 3 rfl wn (q_loadp (v := .pointer (some ⟨b, 0, none⟩)) sc_39 rfl pk_ rfl) ?_
                  refine d_t 4 rfl wn (q_fieldp rfl fo_26_0) ?_
                  refine d_t 5 rfl wn (q_fieldp rfl fo_24_0) ?_
                  refine d_t 6 rfl wn (q_loadp (v := .int .i64 x.Mark.Index) sc_3 rfl pk_ rfl) ?_
                  refine d_1 7 ?_
                  refine o_step rfl (s_fnq rfl wn Tryz.func74 rfl (by kernel_rfl) rfl (fun ρ' hL => name_spec x.Mark.Index ρ' (by omega) hi) ?_)
                  refine d_c ?_
                  refine d_1 8 ?_
                  refine o_step rfl (s_fnb rfl wn Tryz.func73 rfl (by kernel_rfl) rfl sl_ (fun ρ' hL => Go.Dsk.V.rename_spec b room mb (decC (decC (remS calls (vw T) aside).2.2)) T3 aside (nameX x.Mark.Index.toNat) ρ' hT3 (decC_le (decC_le hc1)) (Nat.le_trans (name_len (by omega)) (by decide))) ?_)
                  rintro _ _ ⟨T4, rfl, hvT4, rfl⟩
                  try simp only [List.cons_append, List.nil_append]
                  rw [hvT3] at hvT4
                  rw [hvT3]
                  refine d_c ?_
                  refine d_t 9 rfl wn (q_assign rfl) ?_
                  refine d_d ?_
                  refine k_then_n ?_
                  refine sr ?_
                  refine e_mv rfl ?_
                  refine e_q (q_neq rfl rfl) ?_
                  refine l_n ?_
                  refine c_cond rfl (fun h4 => ?_) (fun h4 => ?_)
                  · try simp only [decide_eq_true_eq, decide_eq_false_iff_not, ne_eq, Decidable.not_not] at h4
                    refine sr ?_
                    refine e_mv rfl ?_
                    refine e_as rfl ?_
                    refine l_n ?_
                    refine c_ret ?_
                    refine k_then_r ?_
                    have hr9 : (putX room calls (vw T) has (pS tp) (pS x)) = ((renR (decC (decC (remS calls (vw T) aside).2.2)) (syncR (decC (remS calls (vw T) aside).2.2) (appR room (remS calls (vw T) aside).2.2 (remS calls (vw T) aside).2.1 aside (snB (pS x))).2 [aside]).2 aside (nameX x.Mark.Index.toNat)).1, (renR (decC (decC (remS calls (vw T) aside).2.2)) (syncR (decC (remS calls (vw T) aside).2.2) (appR room (remS calls (vw T) aside).2.2 (remS calls (vw T) aside).2.1 aside (snB (pS x))).2 [aside]).2 aside (nameX x.Mark.Index.toNat)).2, decC (decC (decC (remS calls (vw T) aside).2.2))) := (pu_wr (bad_no (show rightM x.Mark.Index x.Mark.Term = true from hrx) h0) (by omega)).trans (wx_ren (by omega) (by omega))
                    have hne : ¬ (renR (decC (decC (remS calls (vw T) aside).2.2)) (syncR (decC (remS calls (vw T) aside).2.2) (appR room (remS calls (vw T) aside).2.2 (remS calls (vw T) aside).2.1 aside (snB (pS x))).2 [aside]).2 aside (nameX x.Mark.Index.toNat)).1 = 0 := h4
                    exact t_rt [.pts s (encShelf1 (⟨(some b), tp, has⟩ : Shelf1)) 145, .row 5 1 tp.Conf.a tp.Conf.xs.length tp.Conf.cap (tp.Conf.xs.flatMap encB), .row 5 1 tp.Body.a tp.Body.xs.length tp.Body.cap (tp.Body.xs.flatMap encB), .pts b (encDisk1 (⟨room, (some mb), (decC (decC (decC (remS calls (vw T) aside).2.2)))⟩ : Disk1)) 143, MP strB ptV mb (fm T4), FB 154 5 T4] rfl (.tmp rfl .nil) rfl ⟨rfl, T4, tp, by rw [hr9]; rfl, by rw [hr9]; exact hvT4, fun h9 => absurd h9 (by rw [hr9]; exact hne), fun _ => rfl, by rw [hr9, if_neg hne]⟩ (by refine Ent.pick pk_ ?_; refine Ent.pick pk_ ?_; refine Ent.pick pk_ ?_; refine Ent.pick pk_ ?_; refine Ent.pick pk_ ?_; refine Ent.pick pk_ ?_; repeat (first | exact Ent.refl _ | refine Ent.skip ?_))
                  · try simp only [decide_eq_true_eq, decide_eq_false_iff_not, ne_eq, Decidable.not_not] at h4
                    refine c_skip ?_
                    refine k_then_n ?_
                    refine sr ?_
                    refine e_mv rfl ?_
                    refine e_mv rfl ?_
                    refine e_q (q_loadpa (vs := encSnap1 (⟨x.Mark, x.Conf, x.Body⟩ : Snap1)) ag_26 rfl pk_ rfl) ?_
                    refine e_fn Tryz.func75 rfl sl_ (fun ρ' hL => own_spec x ρ' (Ro.mono hL.1 hxc) (Ro.mono hL.1 hxb) (by omega) (by omega)) ?_
                    rintro _ _ ⟨y, rfl, hy1, hy2, hy3, rfl⟩
                    try simp only [List.cons_append, List.nil_append]
                    refine e_q (q_nilCheck rfl) ?_
                    refine e_q (q_fieldp rfl fo_145_1) ?_
                    refine l_step (s_s0 wn (s_storep (ws := encSnap1 y) (cs := encShelf1 (⟨(some b), tp, has⟩ : Shelf1)) (cs' := encShelf1 (⟨(some b), y, has⟩ : Shelf1)) rfl rfl rfl sz_26 (oneSnap1 _) (by simp [encShelf1, encSnap1]) rfl pk_) ?_)
                    rintro _ _ ⟨rfl, rfl⟩
                    refine e_q (q_nilCheck rfl) ?_
                    refine e_q (q_fieldp rfl fo_145_2) ?_
                    refine l_step (s_s0 wn (s_storep (ws := [.bool true]) (cs := encShelf1 (⟨(some b), y, has⟩ : Shelf1)) (cs' := encShelf1 (⟨(some b), y, true⟩ : Shelf1)) rfl rfl rfl sz_4 (by simp [Value.oneCell', strB, ptV, SL.v, SH.v]) (by simp [encShelf1]) rfl pk_) ?_)
                    rintro _ _ ⟨rfl, rfl⟩
                    refine l_n ?_
                    refine sr ?_
                    refine e_as rfl ?_
                    refine l_n ?_
                    refine c_ret ?_
                    have hr9 : (putX room calls (vw T) has (pS tp) (pS x)) = ((renR (decC (decC (remS calls (vw T) aside).2.2)) (syncR (decC (remS calls (vw T) aside).2.2) (appR room (remS calls (vw T) aside).2.2 (remS calls (vw T) aside).2.1 aside (snB (pS x))).2 [aside]).2 aside (nameX x.Mark.Index.toNat)).1, (renR (decC (decC (remS calls (vw T) aside).2.2)) (syncR (decC (remS calls (vw T) aside).2.2) (appR room (remS calls (vw T) aside).2.2 (remS calls (vw T) aside).2.1 aside (snB (pS x))).2 [aside]).2 aside (nameX x.Mark.Index.toNat)).2, decC (decC (decC (remS calls (vw T) aside).2.2))) := (pu_wr (bad_no (show rightM x.Mark.Index x.Mark.Term = true from hrx) h0) (by omega)).trans (wx_ren (by omega) (by omega))
                    have hze : (renR (decC (decC (remS calls (vw T) aside).2.2)) (syncR (decC (remS calls (vw T) aside).2.2) (appR room (remS calls (vw T) aside).2.2 (remS calls (vw T) aside).2.1 aside (snB (pS x))).2 [aside]).2 aside (nameX x.Mark.Index.toNat)).1 = 0 := by omega
                    exact t_rt [.pts s (encShelf1 (⟨(some b), y, true⟩ : Shelf1)) 145, .row 5 1 y.Conf.a y.Conf.xs.length y.Conf.cap (y.Conf.xs.flatMap encB), .row 5 1 y.Body.a y.Body.xs.length y.Body.cap (y.Body.xs.flatMap encB), .pts b (encDisk1 (⟨room, (some mb), (decC (decC (decC (remS calls (vw T) aside).2.2)))⟩ : Disk1)) 143, MP strB ptV mb (fm T4), FB 154 5 T4] rfl (.tmp rfl .nil) rfl ⟨rfl, T4, y, by rw [hr9]; exact inte hze.symm, by rw [hr9]; exact hvT4, fun _ => by unfold pS; rw [hy1, hy2, hy3], fun h9 => absurd (by rw [hr9]; exact hze) h9, by rw [hr9, if_pos hze]⟩ (by refine Ent.pick pk_ ?_; refine Ent.pick pk_ ?_; refine Ent.pick pk_ ?_; refine Ent.pick pk_ ?_; refine Ent.pick pk_ ?_; refine Ent.pick pk_ ?_; repeat (first | exact Ent.refl _ | refine Ent.skip ?_))
end Go.Shf

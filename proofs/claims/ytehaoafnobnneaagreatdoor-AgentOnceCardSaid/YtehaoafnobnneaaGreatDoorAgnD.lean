/-
  Walked.
-/
import Derived.Test.YtehaoafnobnneaaGreatDoorAgnC
import Derived.Test.YtehaoafnobnneaaGreatDoorProg
set_option maxRecDepth 100000
set_option maxHeartbeats 4000000
set_option linter.unusedSimpArgs false
set_option linter.unusedVariables false
namespace Go.Agn
open Go Go.SL Go.Proofs Go.Mou Go.Dsk Go.Hrd
attribute [local irreducible] Go.SL.Ent
theorem fo_81_3 : fieldOff Tryz.prog 81 3 = some (8, 3) := by kernel_rfl
theorem zc_81 : zeroCs Tryz.prog 81 = some [.int .i64 0, .int .i64 0, .int .i64 0, .int .i64 0, .int .i64 0, .int .i64 0, .pointer none, .int .i64 0, .int .i64 0, .int .i64 0, .bool false] := by kernel_rfl
theorem pl_81 : placesOf Tryz.prog 81 = some [(0, 6), (6, 1), (7, 1), (8, 1), (9, 1), (10, 1)] := by kernel_rfl

theorem Hear_spec (b : Nat) (room : Int) (mb : Nat) (calls : Int) (T : FT) (a : Nat) (k : Kept1) (cl work w : Int) (dn : Bool) (p : Option Addr) (pc : Nat) (o : Order1) (ρ : Hp) (hro : Ro ρ 4 p 1 pc ([o].flatMap encOrder1)) (hT : FOk T) (hU : (usedT T : Int) ≤ room) (hr : room ≤ 9223372036854775807) (hc : calls ≤ 9223372036854775807) (hus : usedT T ≤ 900000000000) (hk : KOk k) : Spec0 Tryz.prog 29 #[.pointer (some ⟨a, 0, none⟩), .slice p 1 pc] ρ [.pts a (encAgent1 (⟨k, (some b), cl, work, w, dn⟩ : Agent1)) 81, .pts b (encDisk1 (⟨room, (some mb), calls⟩ : Disk1)) 105, MP strB ptV mb (fm T), FB 109 5 T] (fun v Γ' => ∃ T', v = .int .i64 (hearP room calls (vw T) cl k w dn o).1 ∧ vw T' = (hearP room calls (vw T) cl k w dn o).2.1 ∧ Γ' = [.pts a (encAgent1 (⟨(hearP room calls (vw T) cl k w dn o).2.2.2.1, (some b), cl, work, (hearP room calls (vw T) cl k w dn o).2.2.2.2.1, (hearP room calls (vw T) cl k w dn o).2.2.2.2.2⟩ : Agent1)) 81, .pts b (encDisk1 (⟨room, (some mb), (hearP room calls (vw T) cl k w dn o).2.2.1⟩ : Disk1)) 105, MP strB ptV mb (fm T'), FB 109 5 T']) := by
  refine spec_of (n := 21) (vs := [_, _]) (σ := [(0, _), (1, _)]) Tryz.func29 rfl rfl rfl rfl fun E Δ => ?_
  simp only [List.cons_append, List.nil_append]
  refine sr ?_
  refine e_as rfl ?_
  refine l_n ?_
  refine c_seq ?_
  refine sr ?_
  refine e_mv rfl ?_
  refine e_q (q_len Tryz.underlying72 rfl) ?_
  refine e_mv rfl ?_
  refine l_n ?_
  refine c_block ?_
  refine Tr.env (σ' := [(0, _), (8, _), (9, _), (10, _)]) ev_ ?_
  refine t_loop (ι := Lp (Nat × FT × Int × Kept1 × Int × Bool)) (fun x => (x.d.1 = 0 ∧ x.d.2 = (T, calls, k, w, dn)) ∨ (x.d.1 = 1 ∧ (hearP room calls (vw T) cl k w dn o).1 = 0 ∧ vw x.d.2.1 = (hearP room calls (vw T) cl k w dn o).2.1 ∧ x.d.2.2 = (hearP room calls (vw T) cl k w dn o).2.2)) (fun x => 1 - x.d.1) (fun x => [(0, .pointer (some ⟨a, 0, none⟩)), (8, .slice p 1 pc), (9, .int .i64 (1 : Int)), (10, .int .i64 (x.d.1 : Int))]) (fun x => .pts a (encAgent1 (⟨x.d.2.2.2.1, (some b), cl, work, x.d.2.2.2.2.1, x.d.2.2.2.2.2⟩ : Agent1)) 81 :: .pts b (encDisk1 (⟨room, (some mb), x.d.2.2.1⟩ : Disk1)) 105 :: MP strB ptV mb (fm x.d.2.1) :: FB 109 5 x.d.2.1 :: Δ) (⟨(0, T, calls, k, w, dn), none, 0, none, 0, none, 0⟩ : Lp _) (.inl ⟨rfl, rfl⟩) ?_ ?_ ?_
  · exact .c (.c (.c (.c (.nil _))))
  · exact en_
  intro x hx
  refine sr ?_
  refine e_q (q_lss rfl rfl) ?_
  refine l_n ?_
  refine c_seq ?_
  refine c_cond rfl (fun h0 => ?_) (fun h0 => ?_)
  · try simp only [decide_eq_true_eq, decide_eq_false_iff_not] at h0
    have hx0 : x.d.1 = 0 := by omega
    have hxe : ([o].getD x.d.1 default) = o := by rw [hx0]; rfl
    have hxk : x.d.2 = (T, calls, k, w, dn) := by rcases hx with h9 | h9; exact h9.2; omega
    have hxT : x.d.2.1 = T := by rw [hxk]
    have hxcalls : x.d.2.2.1 = calls := by rw [hxk]
    have hxk_ : x.d.2.2.2.1 = k := by rw [hxk]
    have hxw : x.d.2.2.2.2.1 = w := by rw [hxk]
    have hxdn : x.d.2.2.2.2.2 = dn := by rw [hxk]
    rw [hxT, hxcalls, hxk_, hxw, hxdn]
    refine c_skip ?_
    refine k_then_n ?_
    refine c_seq ?_
    refine c_block ?_
    refine sr ?_
    refine e_q (q_indexe x.d.1 Tryz.underlying72 sz_69 rfl rfl (by first | assumption | exact rd_ro (by assumption) | exact rd_row pk_) (by decide) rfl (by first | assumption | omega | (simp only [List.length_cons, List.length_nil]; omega))) ?_
    refine e_q (q_loadea (vs := encOrder1 ([o].getD x.d.1 default)) (enc := encOrder1) (xs := [o]) (j := x.d.1) (off := 0) ag_69 rfl (by first | assumption | exact rd_ro (by assumption) | exact rd_row pk_) (fun _ => rfl) (by first | assumption | omega | (simp only [List.length_cons, List.length_nil]; omega)) (by simp [encOrder1]) (by simp [encOrder1]) rfl) ?_
    refine e_s (s_allocz (cs := encOrder1 zOrder1) (by kernel_rfl)) ?_
    rintro _ _ ⟨b6, rfl, rfl⟩
    refine l_step (s_s0 wn (s_storep (ws := encOrder1 ([o].getD x.d.1 default)) (cs := encOrder1 zOrder1) (cs' := encOrder1 ([o].getD x.d.1 default)) rfl rfl rfl sz_69 (oneOrder1 _) (by simp [encOrder1, encOrder1]) rfl pk_) ?_)
    rintro _ _ ⟨rfl, rfl⟩
    refine l_n ?_
    refine sr ?_
    rw [hxe]
    refine e_mv rfl ?_
    refine e_q (q_loadpa (vs := encOrder1 o) ag_69 rfl pk_ rfl) ?_
    refine e_fn Tryz.func64 rfl sl_ (fun ρ' hL => hear_spec b room mb calls T a k cl work w dn o ρ' hT hU hr hc hus hk) ?_
    rintro _ _ ⟨T1, rfl, hvT1, rfl⟩
    try simp only [List.cons_append, List.nil_append]
    refine e_as rfl ?_
    refine l_n ?_
    refine sr ?_
    refine e_mv rfl ?_
    refine e_q (q_neq rfl rfl) ?_
    refine l_n ?_
    refine c_cond rfl (fun h1 => ?_) (fun h1 => ?_)
    · try simp only [decide_eq_true_eq, decide_eq_false_iff_not, ne_eq, Decidable.not_not] at h1
      refine sr ?_
      refine e_mv rfl ?_
      refine e_as rfl ?_
      refine l_n ?_
      refine c_ret ?_
      refine k_blk_r ?_
      refine k_then_r ?_
      refine k_then_r ?_
      refine k_blk_r ?_
      refine k_then_r ?_
      exact t_rt [.pts a (encAgent1 (⟨(hearP room calls (vw T) cl k w dn o).2.2.2.1, (some b), cl, work, (hearP room calls (vw T) cl k w dn o).2.2.2.2.1, (hearP room calls (vw T) cl k w dn o).2.2.2.2.2⟩ : Agent1)) 81, .pts b (encDisk1 (⟨room, (some mb), (hearP room calls (vw T) cl k w dn o).2.2.1⟩ : Disk1)) 105, MP strB ptV mb (fm T1), FB 109 5 T1] rfl (.tmp rfl .nil) rfl ⟨rfl, T1, rfl, hvT1, rfl⟩
    · try simp only [decide_eq_true_eq, decide_eq_false_iff_not, ne_eq, Decidable.not_not] at h1
      refine c_skip ?_
      refine k_blk_n ?_
      refine k_then_n ?_
      refine c_region ?_
      refine e_q (q_add rfl rfl (by omega) (by omega)) ?_
      refine e_mv rfl ?_
      refine l_n ?_
      exact t_nx (⟨(x.d.1 + 1, T1, (hearP room calls (vw T) cl k w dn o).2.2.1, (hearP room calls (vw T) cl k w dn o).2.2.2.1, (hearP room calls (vw T) cl k w dn o).2.2.2.2.1, (hearP room calls (vw T) cl k w dn o).2.2.2.2.2), none, 0, none, 0, none, 0⟩ : Lp _) ⟨.inr ⟨by show x.d.1 + 1 = 1; omega, by omega, hvT1, rfl⟩, by show 1 - (x.d.1 + 1) < _; omega⟩ (.c (.c (.c (.c (.nil _)))))
  · try simp only [decide_eq_true_eq, decide_eq_false_iff_not] at h0
    have hx9 : x.d.1 = 1 ∧ (hearP room calls (vw T) cl k w dn o).1 = 0 ∧ vw x.d.2.1 = (hearP room calls (vw T) cl k w dn o).2.1 ∧ x.d.2.2 = (hearP room calls (vw T) cl k w dn o).2.2 := by rcases hx with h9 | h9; omega; exact h9
    rw [hx9.2.2.2]
    refine c_exit ?_
    refine k_then_x ?_
    refine k_then_x ?_
    refine k_blk_x ?_
    refine k_then_n ?_
    refine sr ?_
    refine e_as rfl ?_
    refine l_n ?_
    refine c_ret ?_
    exact t_rt [.pts a (encAgent1 (⟨(hearP room calls (vw T) cl k w dn o).2.2.2.1, (some b), cl, work, (hearP room calls (vw T) cl k w dn o).2.2.2.2.1, (hearP room calls (vw T) cl k w dn o).2.2.2.2.2⟩ : Agent1)) 81, .pts b (encDisk1 (⟨room, (some mb), (hearP room calls (vw T) cl k w dn o).2.2.1⟩ : Disk1)) 105, MP strB ptV mb (fm x.d.2.1), FB 109 5 x.d.2.1] rfl (.tmp rfl .nil) rfl ⟨rfl, x.d.2.1, inte hx9.2.1.symm, hx9.2.2.1, rfl⟩

theorem tick_spec (b : Nat) (room : Int) (mb : Nat) (calls : Int) (T : FT) (a : Nat) (k : Kept1) (cl work w : Int) (dn : Bool) (ρ : Hp) (hT : FOk T) (hU : (usedT T : Int) ≤ room) (hr : room ≤ 9223372036854775807) (hc : calls ≤ 9223372036854775807) (hus : usedT T ≤ 900000000000) (hk : KOk k) (hw : 0 ≤ w) (hw2 : w ≤ 1000000) : Spec0 Tryz.prog 30 #[.pointer (some ⟨a, 0, none⟩)] ρ [.pts a (encAgent1 (⟨k, (some b), cl, work, w, dn⟩ : Agent1)) 81, .pts b (encDisk1 (⟨room, (some mb), calls⟩ : Disk1)) 105, MP strB ptV mb (fm T), FB 109 5 T] (fun v Γ' => ∃ T', v = .bool (tickP room calls (vw T) work k w dn).1 ∧ vw T' = (tickP room calls (vw T) work k w dn).2.1 ∧ Γ' = [.pts a (encAgent1 (⟨(tickP room calls (vw T) work k w dn).2.2.2.1, (some b), cl, work, (tickP room calls (vw T) work k w dn).2.2.2.2.1, (tickP room calls (vw T) work k w dn).2.2.2.2.2⟩ : Agent1)) 81, .pts b (encDisk1 (⟨room, (some mb), (tickP room calls (vw T) work k w dn).2.2.1⟩ : Disk1)) 105, MP strB ptV mb (fm T'), FB 109 5 T']) := by
  refine spec_of (n := 47) (vs := [_]) (σ := [(0, _)]) Tryz.func30 rfl rfl rfl rfl fun E Δ => ?_
  simp only [List.cons_append, List.nil_append]
  refine sr ?_
  refine e_as rfl ?_
  refine l_n ?_
  refine c_seq ?_
  refine sr ?_
  refine e_mv rfl ?_
  refine e_q (q_nilCheck rfl) ?_
  refine e_q (q_fieldp rfl fo_81_5) ?_
  refine e_q (q_loadp (v := .bool dn) sc_4 rfl pk_ rfl) ?_
  refine e_mv rfl ?_
  refine t_split (d := 8) rfl (fun g1_4 => ?_) (fun g1_4 => ?_)
  · skip
    replace g1_4 : dn = true := g1_4
    refine l_step (s_no rfl (wno rfl rfl (by decide)) ?_)
    refine l_step (s_no rfl (wno rfl rfl (by decide)) ?_)
    refine l_step (s_no rfl (wno rfl rfl (by decide)) ?_)
    refine l_step (s_no rfl (wno rfl rfl (by decide)) ?_)
    refine l_step (s_no rfl (wno rfl rfl (by decide)) ?_)
    refine l_step (s_no rfl (wno rfl rfl (by decide)) ?_)
    refine e_q (q_pick rfl rfl rfl) ?_
    refine l_n ?_
    refine c_yes rfl ?_
    refine sr ?_
    refine e_as rfl ?_
    refine l_n ?_
    refine c_ret ?_
    refine k_then_r ?_
    have hr9 : (tickP room calls (vw T) work k w dn) = (false, vw T, calls, k, w, dn) := if_pos (.inl g1_4)
    exact t_rt [.pts a (encAgent1 (⟨k, (some b), cl, work, w, dn⟩ : Agent1)) 81, .pts b (encDisk1 (⟨room, (some mb), calls⟩ : Disk1)) 105, MP strB ptV mb (fm T), FB 109 5 T] rfl (.tmp rfl .nil) rfl ⟨rfl, T, by rw [hr9]; rfl, by rw [hr9], by rw [hr9]⟩
  · skip
    have hdn : dn = false := g1_4
    refine e_qw (wy rfl rfl rfl) (q_move rfl) ?_
    refine e_qw (wy rfl rfl rfl) (q_nilCheck rfl) ?_
    refine e_qw (wy rfl rfl rfl) (q_fieldp rfl fo_81_0) ?_
    refine e_qw (wy rfl rfl rfl) (q_fieldp rfl fo_79_3) ?_
    refine e_qw (wy rfl rfl rfl) (q_loadp (v := .int .i64 k.at_) sc_3 rfl pk_ rfl) ?_
    refine e_qw (wy rfl rfl rfl) (q_eql rfl rfl) ?_
    refine e_q (q_pick rfl rfl rfl) ?_
    refine l_n ?_
    refine c_cond rfl (fun h0 => ?_) (fun h0 => ?_)
    · try simp only [decide_eq_true_eq, decide_eq_false_iff_not] at h0
      refine sr ?_
      refine e_as rfl ?_
      refine l_n ?_
      refine c_ret ?_
      refine k_then_r ?_
      have hr9 : (tickP room calls (vw T) work k w dn) = (false, vw T, calls, k, w, dn) := if_pos (.inr (by omega))
      exact t_rt [.pts a (encAgent1 (⟨k, (some b), cl, work, w, dn⟩ : Agent1)) 81, .pts b (encDisk1 (⟨room, (some mb), calls⟩ : Disk1)) 105, MP strB ptV mb (fm T), FB 109 5 T] rfl (.tmp rfl .nil) rfl ⟨rfl, T, by rw [hr9]; rfl, by rw [hr9], by rw [hr9]⟩
    · try simp only [decide_eq_true_eq, decide_eq_false_iff_not] at h0
      refine c_skip ?_
      refine k_then_n ?_
      refine sr ?_
      refine e_mv rfl ?_
      refine e_q (q_nilCheck rfl) ?_
      refine e_q (q_fieldp rfl fo_81_4) ?_
      refine e_q (q_loadp (v := .int .i64 w) sc_3 rfl pk_ rfl) ?_
      refine e_q (q_add rfl rfl (by omega) (by omega)) ?_
      refine e_q (q_nilCheck rfl) ?_
      refine e_q (q_fieldp rfl fo_81_4) ?_
      refine l_step (s_s0 wn (s_storep (ws := [.int .i64 (w + 1)]) (cs := encAgent1 (⟨k, (some b), cl, work, w, dn⟩ : Agent1)) (cs' := encAgent1 (⟨k, (some b), cl, work, (w + 1), dn⟩ : Agent1)) rfl rfl rfl sz_3 (by simp [Value.oneCell', strB, ptV, SL.v, SH.v]) (by simp [encAgent1]) rfl pk_) ?_)
      rintro _ _ ⟨rfl, rfl⟩
      refine l_n ?_
      refine c_seq ?_
      refine c_seq ?_
      refine d_r 9 [.pts a (encAgent1 (⟨k, (some b), cl, work, (w + 1), dn⟩ : Agent1)) 81, .pts b (encDisk1 (⟨room, (some mb), calls⟩ : Disk1)) 105, MP strB ptV mb (fm T), FB 109 5 T] ?_
      refine d_t 0 rfl wn (q_move rfl) ?_
      refine d_t 1 rfl wn (q_nilCheck rfl) ?_
      refine d_t 2 rfl wn (q_fieldp rfl fo_81_4) ?_
      refine d_t 3 rfl wn (q_loadp (v := .int .i64 (w + 1)) sc_3 rfl pk_ rfl) ?_
      refine d_t 4 rfl wn (q_move rfl) ?_
      refine d_t 5 rfl wn (q_nilCheck rfl) ?_
      refine d_t 6 rfl wn (q_fieldp rfl fo_81_3) ?_
      refine d_t 7 rfl wn (q_loadp (v := .int .i64 work) sc_3 rfl pk_ rfl) ?_
      refine d_t 8 rfl wn (q_lss rfl rfl) ?_
      refine d_d ?_
      refine k_then_n ?_
      refine c_cond rfl (fun h1 => ?_) (fun h1 => ?_)
      · try simp only [decide_eq_true_eq, decide_eq_false_iff_not] at h1
        refine sr ?_
        refine e_as rfl ?_
        refine l_n ?_
        refine c_ret ?_
        refine k_then_r ?_
        have hr9 : (tickP room calls (vw T) work k w dn) = (false, vw T, calls, k, w + 1, dn) := by unfold tickP; rw [if_neg (by rintro (q | q); rw [hdn] at q; cases q; omega), if_pos (by omega)]
        exact t_rt [.pts a (encAgent1 (⟨k, (some b), cl, work, (w + 1), dn⟩ : Agent1)) 81, .pts b (encDisk1 (⟨room, (some mb), calls⟩ : Disk1)) 105, MP strB ptV mb (fm T), FB 109 5 T] rfl (.tmp rfl .nil) rfl ⟨rfl, T, by rw [hr9]; rfl, by rw [hr9], by rw [hr9]⟩
      · try simp only [decide_eq_true_eq, decide_eq_false_iff_not] at h1
        refine c_skip ?_
        refine k_then_n ?_
        refine sr ?_
        refine e_mv rfl ?_
        refine e_q (q_nilCheck rfl) ?_
        refine e_q (q_fieldp rfl fo_81_0) ?_
        refine e_q (q_loadpa (vs := encKept1 k) ag_79 rfl pk_ rfl) ?_
        refine e_s (s_allocz (cs := encKept1 zKept1) (by kernel_rfl)) ?_
        rintro _ _ ⟨b3, rfl, rfl⟩
        refine l_step (s_s0 wn (s_storep (ws := encKept1 k) (cs := encKept1 zKept1) (cs' := encKept1 k) rfl rfl rfl sz_79 (oneKept1 _) (by simp [encKept1, encKept1]) rfl pk_) ?_)
        rintro _ _ ⟨rfl, rfl⟩
        refine l_n ?_
        refine sr ?_
        refine e_q (q_fieldp rfl fo_79_4) ?_
        refine e_q (q_loadp (v := .int .i64 k.to_) sc_3 rfl pk_ rfl) ?_
        refine e_q (q_fieldp rfl fo_79_3) ?_
        refine e_q (q_loadp (v := .int .i64 k.at_) sc_3 rfl pk_ rfl) ?_
        refine e_q (q_fieldp rfl fo_79_1) ?_
        refine l_step (s_s0 wn (s_storep (ws := [.int .i64 k.to_]) (cs := encKept1 k) (cs' := encKept1 { k with version := k.to_ }) rfl rfl rfl sz_3 (by simp [Value.oneCell', strB, ptV, SL.v, SH.v]) (by simp [encKept1]) rfl pk_) ?_)
        rintro _ _ ⟨rfl, rfl⟩
        refine e_q (q_fieldp rfl fo_79_2) ?_
        refine l_step (s_s0 wn (s_storep (ws := [.int .i64 k.at_]) (cs := encKept1 { k with version := k.to_ }) (cs' := encKept1 { { k with version := k.to_ } with done := k.at_ }) rfl rfl rfl sz_3 (by simp [Value.oneCell', strB, ptV, SL.v, SH.v]) (by simp [encKept1]) rfl pk_) ?_)
        rintro _ _ ⟨rfl, rfl⟩
        refine e_q (q_fieldp rfl fo_79_3) ?_
        refine l_step (s_s0 wn (s_storep (ws := [.int .i64 0]) (cs := encKept1 { { k with version := k.to_ } with done := k.at_ }) (cs' := encKept1 { { { k with version := k.to_ } with done := k.at_ } with at_ := 0 }) rfl rfl rfl sz_3 (by simp [Value.oneCell', strB, ptV, SL.v, SH.v]) (by simp [encKept1]) rfl pk_) ?_)
        rintro _ _ ⟨rfl, rfl⟩
        refine e_q (q_fieldp rfl fo_79_4) ?_
        refine l_step (s_s0 wn (s_storep (ws := [.int .i64 0]) (cs := encKept1 { { { k with version := k.to_ } with done := k.at_ } with at_ := 0 }) (cs' := encKept1 { { { { k with version := k.to_ } with done := k.at_ } with at_ := 0 } with to_ := 0 }) rfl rfl rfl sz_3 (by simp [Value.oneCell', strB, ptV, SL.v, SH.v]) (by simp [encKept1]) rfl pk_) ?_)
        rintro _ _ ⟨rfl, rfl⟩
        refine l_n ?_
        refine sr ?_
        refine e_mv rfl ?_
        refine e_q (q_loadpa (vs := encKept1 { { { { k with version := k.to_ } with done := k.at_ } with at_ := 0 } with to_ := 0 }) ag_79 rfl pk_ rfl) ?_
        refine e_fn Tryz.func65 rfl sl_ (fun ρ' hL => keep_spec b room mb calls T a k cl work (w + 1) dn (tickK k) ρ' hT hU hr hc hus (tick_ok hk)) ?_
        rintro _ _ ⟨T1, rfl, hvT1, rfl⟩
        try simp only [List.cons_append, List.nil_append]
        refine e_as rfl ?_
        refine l_n ?_
        refine c_ret ?_
        have hr9 : (tickP room calls (vw T) work k w dn) = (if (keepS room calls (vw T) (tickK k)).1 = 0 then (true, (keepS room calls (vw T) (tickK k)).2.1, (keepS room calls (vw T) (tickK k)).2.2, tickK k, w + 1, dn) else (false, (keepS room calls (vw T) (tickK k)).2.1, (keepS room calls (vw T) (tickK k)).2.2, k, w + 1, true)) := by unfold tickP; rw [if_neg (by rintro (q | q); rw [hdn] at q; cases q; omega), if_neg (by omega)]
        exact t_rt [.pts a (encAgent1 (⟨(if (keepS room calls (vw T) (tickK k)).1 = 0 then tickK k else k), (some b), cl, work, (w + 1), (if (keepS room calls (vw T) (tickK k)).1 = 0 then dn else true)⟩ : Agent1)) 81, .pts b (encDisk1 (⟨room, (some mb), (keepS room calls (vw T) (tickK k)).2.2⟩ : Disk1)) 105, MP strB ptV mb (fm T1), FB 109 5 T1] rfl (.tmp rfl .nil) rfl ⟨rfl, T1, by rw [hr9]; by_cases hz : (keepS room calls (vw T) (tickK k)).1 = 0 <;> simp [hz] <;> rfl, by rw [hr9, hvT1]; split <;> rfl, by rw [hr9]; by_cases hz : (keepS room calls (vw T) (tickK k)).1 = 0 <;> simp [hz]⟩

theorem busy_spec (a : Nat) (k : Kept1) (cl work w : Int) (dn : Bool) (b : Nat) (ρ : Hp) : Spec0 Tryz.prog 31 #[.pointer (some ⟨a, 0, none⟩)] ρ [.pts a (encAgent1 (⟨k, (some b), cl, work, w, dn⟩ : Agent1)) 81] (fun v Γ' => v = .int .i64 (k.at_) ∧ Γ' = [.pts a (encAgent1 (⟨k, (some b), cl, work, w, dn⟩ : Agent1)) 81]) := by
  refine spec_of (n := 8) (vs := [_]) (σ := [(0, _)]) Tryz.func31 rfl rfl rfl rfl fun E Δ => ?_
  simp only [List.cons_append, List.nil_append]
  refine sr ?_
  refine e_as rfl ?_
  refine l_n ?_
  refine sr ?_
  refine e_mv rfl ?_
  refine e_q (q_nilCheck rfl) ?_
  refine e_q (q_fieldp rfl fo_81_0) ?_
  refine e_q (q_fieldp rfl fo_79_3) ?_
  refine e_q (q_loadp (v := .int .i64 k.at_) sc_3 rfl pk_ rfl) ?_
  refine e_as rfl ?_
  refine l_n ?_
  refine c_ret ?_
  exact t_rt [.pts a (encAgent1 (⟨k, (some b), cl, work, w, dn⟩ : Agent1)) 81] rfl (.tmp rfl .nil) rfl ⟨rfl, rfl, rfl⟩

theorem version_spec (a : Nat) (k : Kept1) (cl work w : Int) (dn : Bool) (b : Nat) (ρ : Hp) : Spec0 Tryz.prog 32 #[.pointer (some ⟨a, 0, none⟩)] ρ [.pts a (encAgent1 (⟨k, (some b), cl, work, w, dn⟩ : Agent1)) 81] (fun v Γ' => v = .int .i64 (k.version) ∧ Γ' = [.pts a (encAgent1 (⟨k, (some b), cl, work, w, dn⟩ : Agent1)) 81]) := by
  refine spec_of (n := 8) (vs := [_]) (σ := [(0, _)]) Tryz.func32 rfl rfl rfl rfl fun E Δ => ?_
  simp only [List.cons_append, List.nil_append]
  refine sr ?_
  refine e_as rfl ?_
  refine l_n ?_
  refine sr ?_
  refine e_mv rfl ?_
  refine e_q (q_nilCheck rfl) ?_
  refine e_q (q_fieldp rfl fo_81_0) ?_
  refine e_q (q_fieldp rfl fo_79_1) ?_
  refine e_q (q_loadp (v := .int .i64 k.version) sc_3 rfl pk_ rfl) ?_
  refine e_as rfl ?_
  refine l_n ?_
  refine c_ret ?_
  exact t_rt [.pts a (encAgent1 (⟨k, (some b), cl, work, w, dn⟩ : Agent1)) 81] rfl (.tmp rfl .nil) rfl ⟨rfl, rfl, rfl⟩

theorem done_spec (a : Nat) (k : Kept1) (cl work w : Int) (dn : Bool) (b : Nat) (ρ : Hp) : Spec0 Tryz.prog 33 #[.pointer (some ⟨a, 0, none⟩)] ρ [.pts a (encAgent1 (⟨k, (some b), cl, work, w, dn⟩ : Agent1)) 81] (fun v Γ' => v = .int .i64 (k.done) ∧ Γ' = [.pts a (encAgent1 (⟨k, (some b), cl, work, w, dn⟩ : Agent1)) 81]) := by
  refine spec_of (n := 8) (vs := [_]) (σ := [(0, _)]) Tryz.func33 rfl rfl rfl rfl fun E Δ => ?_
  simp only [List.cons_append, List.nil_append]
  refine sr ?_
  refine e_as rfl ?_
  refine l_n ?_
  refine sr ?_
  refine e_mv rfl ?_
  refine e_q (q_nilCheck rfl) ?_
  refine e_q (q_fieldp rfl fo_81_0) ?_
  refine e_q (q_fieldp rfl fo_79_2) ?_
  refine e_q (q_loadp (v := .int .i64 k.done) sc_3 rfl pk_ rfl) ?_
  refine e_as rfl ?_
  refine l_n ?_
  refine c_ret ?_
  exact t_rt [.pts a (encAgent1 (⟨k, (some b), cl, work, w, dn⟩ : Agent1)) 81] rfl (.tmp rfl .nil) rfl ⟨rfl, rfl, rfl⟩

theorem down_spec (a : Nat) (k : Kept1) (cl work w : Int) (dn : Bool) (b : Nat) (ρ : Hp) : Spec0 Tryz.prog 35 #[.pointer (some ⟨a, 0, none⟩)] ρ [.pts a (encAgent1 (⟨k, (some b), cl, work, w, dn⟩ : Agent1)) 81] (fun v Γ' => v = .bool (dn) ∧ Γ' = [.pts a (encAgent1 (⟨k, (some b), cl, work, w, dn⟩ : Agent1)) 81]) := by
  refine spec_of (n := 7) (vs := [_]) (σ := [(0, _)]) Tryz.func35 rfl rfl rfl rfl fun E Δ => ?_
  simp only [List.cons_append, List.nil_append]
  refine sr ?_
  refine e_as rfl ?_
  refine l_n ?_
  refine sr ?_
  refine e_mv rfl ?_
  refine e_q (q_nilCheck rfl) ?_
  refine e_q (q_fieldp rfl fo_81_5) ?_
  refine e_q (q_loadp (v := .bool dn) sc_4 rfl pk_ rfl) ?_
  refine e_as rfl ?_
  refine l_n ?_
  refine c_ret ?_
  exact t_rt [.pts a (encAgent1 (⟨k, (some b), cl, work, w, dn⟩ : Agent1)) 81] rfl (.tmp rfl .nil) rfl ⟨rfl, rfl, rfl⟩

theorem has_spec (l__a : Option Addr) (l__n l__c : Nat) (l_ : List Int) (hl__n : l_.length = l__n) (n : Int) (ρ : Hp) (hro : Ro ρ 1 l__a l__n l__c (l_.flatMap encI)) : Spec0 Tryz.prog 34 #[.slice l__a l__n l__c, .int .i64 n] ρ [] (fun v Γ' => v = .bool ((decide (n ∈ l_))) ∧ Γ' = []) := by
  refine spec_of (n := 18) (vs := [_, _]) (σ := [(0, _), (1, _)]) Tryz.func34 rfl rfl rfl rfl fun E Δ => ?_
  rw [List.nil_append]
  have hnb : l__n ≤ 9223372036854775807 := Nat.le_trans hro.2.1 hro.2.2.1
  refine sr ?_
  refine e_as rfl ?_
  refine l_n ?_
  refine c_seq ?_
  refine sr ?_
  refine e_as rfl ?_
  refine l_n ?_
  refine c_block ?_
  refine Tr.env (σ' := [(0, _), (1, _), (5, _)]) ev_ ?_
  refine t_loop (ι := Lp (Nat)) (fun x => x.d ≤ l__n ∧ ∀ y ∈ l_.take x.d, y ≠ n) (fun x => l__n - x.d) (fun x => [(0, .slice l__a l__n l__c), (1, .int .i64 n), (5, .int .i64 (x.d : Int))]) (fun x => Δ) (⟨0, none, 0, none, 0, none, 0⟩ : Lp _) ⟨Nat.zero_le _, by simp⟩ ?_ ?_ ?_
  · exact .c (.c (.c (.nil _)))
  · exact en_
  intro x hx
  obtain ⟨hx1, hx2⟩ := hx
  refine c_seq ?_
  refine sr ?_
  refine e_mv rfl ?_
  refine e_mv rfl ?_
  refine e_q (q_len Tryz.underlying37 rfl) ?_
  refine e_q (q_lss rfl rfl) ?_
  refine l_n ?_
  refine c_cond rfl (fun h0 => ?_) (fun h0 => ?_)
  · try simp only [decide_eq_true_eq, decide_eq_false_iff_not] at h0
    refine c_skip ?_
    refine k_then_n ?_
    refine c_seq ?_
    refine c_block ?_
    refine sr ?_
    refine e_mv rfl ?_
    refine e_mv rfl ?_
    refine e_q (q_indexe x.d Tryz.underlying37 sz_3 rfl rfl (by first | assumption | exact rd_ro (by assumption) | exact rd_row pk_) (by decide) rfl (by first | assumption | omega | (simp only [List.length_cons, List.length_nil]; omega))) ?_
    refine e_q (q_loade (enc := encI) (xs := l_) (j := x.d) (off := 0) sc_3 rfl (by first | assumption | exact rd_ro (by assumption) | exact rd_row pk_) (fun _ => rfl) (by first | assumption | omega | (simp only [List.length_cons, List.length_nil]; omega)) (by decide) rfl) ?_
    refine e_mv rfl ?_
    refine e_q (q_eql rfl rfl) ?_
    refine l_n ?_
    refine c_cond rfl (fun h1 => ?_) (fun h1 => ?_)
    · try simp only [decide_eq_true_eq, decide_eq_false_iff_not] at h1
      refine sr ?_
      refine e_as rfl ?_
      refine l_n ?_
      refine c_ret ?_
      refine k_blk_r ?_
      refine k_then_r ?_
      refine k_then_r ?_
      refine k_blk_r ?_
      refine k_then_r ?_
      have hin : n ∈ l_ := h1 ▸ getD_in (by omega)
      exact t_rt [] rfl (.tmp rfl .nil) rfl ⟨rfl, boole (decide_eq_true hin).symm, rfl⟩ (by (repeat refine Ent.skip ?_); exact Ent.refl _)
    · try simp only [decide_eq_true_eq, decide_eq_false_iff_not] at h1
      refine c_skip ?_
      refine k_blk_n ?_
      refine k_then_n ?_
      refine c_region ?_
      refine e_mv rfl ?_
      refine e_q (q_add rfl rfl (by omega) (by omega)) ?_
      refine e_as rfl ?_
      refine l_n ?_
      exact t_nx (⟨x.d + 1, none, 0, none, 0, none, 0⟩ : Lp _) ⟨⟨by show x.d + 1 ≤ _; omega, fun y hy => by rw [take_succ_getD _ _ (by omega), List.mem_append, List.mem_singleton] at hy; rcases hy with hy | rfl; exact hx2 y hy; exact h1⟩, by show _ - (x.d + 1) < _; omega⟩ (.c (.c (.c (.nil _))))
  · try simp only [decide_eq_true_eq, decide_eq_false_iff_not] at h0
    have hk : x.d = l_.length := by omega
    rw [hk, List.take_length] at hx2
    refine c_exit ?_
    refine k_then_x ?_
    refine k_then_x ?_
    refine k_blk_x ?_
    refine k_then_n ?_
    refine sr ?_
    refine e_as rfl ?_
    refine l_n ?_
    refine c_ret ?_
    exact t_rt [] rfl (.tmp rfl .nil) rfl ⟨rfl, boole (decide_eq_false (fun h9 => hx2 n h9 rfl)).symm, rfl⟩ (by (repeat refine Ent.skip ?_); exact Ent.refl _)

theorem take2 (a : Option Addr) (c : Nat) (X : List UInt8) (j : Nat) (ρ : Hp) (hj : j ≤ X.length) (hl : X.length ≤ 1000000000000) (hro : Ro ρ 1 a X.length c (X.flatMap encB)) : Spec0 Tryz.prog 62 #[.slice (sh a c j 1) (X.drop j).length (c - j)] ρ [] (fun v Γ' => v = .tuple #[.agg (encKept1 (takeK (X.drop j)).1).toArray, .int .i64 ((takeK (X.drop j)).2 : Int)] ∧ Γ' = []) :=
  take_spec (dropS (⟨a, X, c⟩ : SL UInt8) j) ρ ((Suf.drop (⟨a, X, c⟩ : SL UInt8) hj).1 ρ hro) (by show (X.drop j).length ≤ _; rw [List.length_drop]; omega)

theorem open__spec (b : Nat) (room : Int) (mb : Nat) (calls : Int) (T : FT) (cl : Int) (work : Int) (ρ : Hp) (hc1 : calls = -1) (hT : FOk T) (hcl : 0 ≤ cl) (hcl2 : cl < 1048576) (hwk : 1 ≤ work) : Spec0 Tryz.prog 28 #[.pointer (some ⟨b, 0, none⟩), .int .i64 cl, .int .i64 work] ρ [.pts b (encDisk1 (⟨room, (some mb), calls⟩ : Disk1)) 105, MP strB ptV mb (fm T), FB 109 5 T] (fun v Γ' => ∃ a k m T', v = .tuple #[.pointer (some ⟨a, 0, none⟩), .int .i64 0] ∧ Scan (mgetD (vw T) nA zF).1 zKept1 k m ∧ vw T' = opnV (vw T) m ∧ Γ' = [.pts a (encAgent1 (⟨k, (some b), cl, work, 0, false⟩ : Agent1)) 81, .pts b (encDisk1 (⟨room, (some mb), (-1)⟩ : Disk1)) 105, MP strB ptV mb (fm T'), FB 109 5 T']) := by
  refine spec_of (n := 81) (vs := [_, _, _]) (σ := [(0, _), (1, _), (2, _)]) Tryz.func28 rfl rfl rfl rfl fun E Δ => ?_
  simp only [List.cons_append, List.nil_append]
  subst hc1
  have hXl : (mgetD (vw T) nA zF).1.length ≤ 1000000000000 := name_used hT nA
  refine sr ?_
  refine e_as rfl ?_
  refine e_as rfl ?_
  refine l_n ?_
  refine c_seq ?_
  refine c_block ?_
  refine sr ?_
  refine e_mv rfl ?_
  refine e_q (by first | exact q_eqlp rfl rfl Tryz.underlying29 | exact q_eqlp0 rfl rfl Tryz.underlying29) ?_
  refine e_as rfl ?_
  refine l_n ?_
  refine c_sure false rfl (by rfl) ?_
  simp only [Bool.false_eq_true, if_true, if_false]
  refine sr ?_
  refine e_mv rfl ?_
  refine e_q (q_lss rfl rfl) ?_
  refine e_mv rfl ?_
  refine l_step (s_qg rfl (ask_f rfl rfl) (b := (!(decide (cl < 0)))) (fun hb => q_move rfl) ?_)
  refine l_step (s_qg rfl (ask_f rfl rfl) (b := (!(decide (cl < 0)))) (fun hb => OpQ.env (.cons rfl (gd_t hb) (.nil _) : EnvLe [(25, .int .i64 cl)] _) (q_geq rfl rfl)) ?_)
  refine e_q (q_pick_or rfl rfl rfl (fun h => by first | (rw [h]; rfl) | exact congrArg not h)) ?_
  refine e_mv rfl ?_
  refine l_step (s_qg rfl (ask_f rfl rfl) (b := (!((decide (cl < 0)) || (decide (1048576 ≤ cl))))) (fun hb => q_move rfl) ?_)
  refine l_step (s_qg rfl (ask_f rfl rfl) (b := (!((decide (cl < 0)) || (decide (1048576 ≤ cl))))) (fun hb => OpQ.env (.cons rfl (gd_t hb) (.nil _) : EnvLe [(29, .int .i64 work)] _) (q_lss rfl rfl)) ?_)
  refine e_q (q_pick_or rfl rfl rfl (fun h => by first | (rw [h]; rfl) | exact congrArg not h)) ?_
  refine e_as rfl ?_
  refine l_n ?_
  refine c_sure false rfl (by rw [decide_eq_false (show ¬ cl < 0 by omega), decide_eq_false (show ¬ 1048576 ≤ cl by omega), decide_eq_false (show ¬ work < 1 by omega)]; rfl) ?_
  simp only [Bool.false_eq_true, if_true, if_false]
  refine c_skip ?_
  refine k_blk_n ?_
  refine k_then_n ?_
  refine sr ?_
  refine e_mv rfl ?_
  refine e_mv rfl ?_
  refine e_mv rfl ?_
  refine e_q (q_build (cs := encAgent1 (⟨zKept1, (some b), cl, work, 0, false⟩ : Agent1)) zc_81 pl_81 rfl rfl) ?_
  refine e_s (s_box (cs := encAgent1 (⟨zKept1, (some b), cl, work, 0, false⟩ : Agent1)) rfl rfl) ?_
  rintro _ _ ⟨b36, rfl, rfl⟩
  refine e_as rfl ?_
  refine l_n ?_
  refine sr ?_
  refine e_mv rfl ?_
  refine e_fn Tryz.func43 rfl sl_ (fun ρ' hL => Go.Dsk.X.read_spec b room mb (-1) T nA ρ' hT) ?_
  rintro _ _ ⟨aR1, cR1, rfl, rfl⟩
  try simp only [List.cons_append, List.nil_append]
  refine e_mv rfl ?_
  refine e_q (q_extract rfl rfl) ?_
  refine e_q (q_extract rfl rfl) ?_
  refine e_as rfl ?_
  refine e_as rfl ?_
  refine l_n ?_
  refine sr ?_
  refine e_as rfl ?_
  refine l_n ?_
  refine c_seq ?_
  refine c_block ?_
  refine Tr.env (σ' := [(0, _), (6, _), (7, _), (8, _), (9, _), (11, _)]) ev_ ?_
  refine t_loop (ι := Lp (Nat × Kept1)) (fun x => x.d.1 ≤ (mgetD (vw T) nA zF).1.length ∧ ∀ k2 m, Scan ((mgetD (vw T) nA zF).1.drop x.d.1) x.d.2 k2 m → Scan (mgetD (vw T) nA zF).1 zKept1 k2 (x.d.1 + m)) (fun x => (mgetD (vw T) nA zF).1.length - x.d.1) (fun x => [(0, .pointer (some ⟨b, 0, none⟩)), (6, .pointer none), (7, .int .i64 0), (8, .pointer (some ⟨b36, 0, none⟩)), (9, .slice aR1 ((mgetD (vw T) nA zF).1.length) cR1), (11, .int .i64 (x.d.1 : Int))]) (fun x => .row 5 1 aR1 ((mgetD (vw T) nA zF).1.length) cR1 (((mgetD (vw T) nA zF).1).flatMap encB) :: .pts b36 (encAgent1 (⟨x.d.2, (some b), cl, work, 0, false⟩ : Agent1)) 81 :: .pts b (encDisk1 (⟨room, (some mb), (-1)⟩ : Disk1)) 105 :: MP strB ptV mb (fm T) :: FB 109 5 T :: Δ) (⟨(0, zKept1), none, 0, none, 0, none, 0⟩ : Lp _) ⟨Nat.zero_le _, fun k2 m h9 => by rw [Nat.zero_add]; exact h9⟩ ?_ ?_ ?_
  · exact .c (.c (.c (.c (.c (.c (.nil _))))))
  · exact en_
  intro x hx
  obtain ⟨hx1, hx2⟩ := hx
  have htl := takeK_le ((mgetD (vw T) nA zF).1.drop x.d.1)
  rw [List.length_drop] at htl
  refine c_block ?_
  refine sr ?_
  refine e_mv rfl ?_
  refine e_mv rfl ?_
  refine e_q (q_as (v := .slice (sh aR1 cR1 x.d.1 1) ((mgetD (vw T) nA zF).1.drop x.d.1).length (cR1 - x.d.1)) (q_cut_lo Tryz.underlying38 sz_5 rfl rfl (by omega) (by omega)) (by rw [List.length_drop]; rfl)) ?_
  refine e_fn Tryz.func62 rfl sl_ (fun ρ' hL => take2 aR1 cR1 (mgetD (vw T) nA zF).1 x.d.1 ρ' (by omega) hXl (hL.row pk_)) ?_
  rintro _ _ ⟨rfl, rfl⟩
  try simp only [List.cons_append, List.nil_append]
  refine e_mv rfl ?_
  refine e_q (q_extract rfl rfl) ?_
  refine e_q (q_extract rfl rfl) ?_
  refine e_s (s_allocz (cs := encKept1 zKept1) (by kernel_rfl)) ?_
  rintro _ _ ⟨b12, rfl, rfl⟩
  refine l_step (s_s0 wn (s_storep (ws := encKept1 ((takeK ((mgetD (vw T) nA zF).1.drop x.d.1)).1)) (cs := encKept1 zKept1) (cs' := encKept1 ((takeK ((mgetD (vw T) nA zF).1.drop x.d.1)).1)) rfl rfl rfl sz_79 (oneKept1 _) (by simp [encKept1, encKept1]) rfl pk_) ?_)
  rintro _ _ ⟨rfl, rfl⟩
  refine e_as rfl ?_
  refine l_n ?_
  refine c_seq ?_
  refine sr ?_
  refine e_mv rfl ?_
  refine e_q (q_eql rfl rfl) ?_
  refine l_n ?_
  refine c_cond rfl (fun h2 => ?_) (fun h2 => ?_)
  · try simp only [decide_eq_true_eq, decide_eq_false_iff_not] at h2
    have hsc : Scan (mgetD (vw T) nA zF).1 zKept1 x.d.2 x.d.1 := by have h9 := hx2 x.d.2 0 (Scan.stop (by omega)); rwa [Nat.add_zero] at h9
    refine c_exit ?_
    refine k_then_x ?_
    refine k_blk_xo rfl ?_
    refine k_then_x ?_
    refine k_blk_x ?_
    refine k_then_n ?_
    refine c_seq ?_
    refine sr ?_
    refine e_mv rfl ?_
    refine e_mv rfl ?_
    refine e_q (q_len Tryz.underlying38 rfl) ?_
    refine e_q (q_lss rfl rfl) ?_
    refine l_n ?_
    refine c_cond rfl (fun h3 => ?_) (fun h3 => ?_)
    · try simp only [decide_eq_true_eq, decide_eq_false_iff_not] at h3
      have hlt : x.d.1 < (mgetD (vw T) nA zF).1.length := by omega
      refine sr ?_
      refine e_mv rfl ?_
      refine e_mv rfl ?_
      refine e_fn Tryz.func63 rfl sl_ (fun ρ' hL => Go.Dsk.Z.cut_spec b room mb (-1) T nA (x.d.1 : Int) ρ' hT (by decide)) ?_
      rintro _ _ ⟨T1, rfl, hvT1, rfl⟩
      try simp only [List.cons_append, List.nil_append]
      rw [show decC (-1) = -1 from rfl]
      refine e_as rfl ?_
      refine l_n ?_
      refine sr ?_
      refine e_mv rfl ?_
      refine e_q (q_neq rfl rfl) ?_
      refine l_n ?_
      refine c_sure false rfl (decide_eq_false (fun h9 => h9 (cut_zero hlt))) ?_
      simp only [Bool.false_eq_true, if_true, if_false]
      have hT1 : FOk T1 := fok_of hvT1 (vok_cut (fok.1 hT))
      refine c_skip ?_
      refine k_then_n ?_
      refine c_seq ?_
      refine sr ?_
      refine e_mv rfl ?_
      refine e_fn Tryz.func43 rfl sl_ (fun ρ' hL => Go.Dsk.X.read_spec b room mb (-1) T1 nF ρ' hT1) ?_
      rintro _ _ ⟨aR2, cR2, rfl, rfl⟩
      try simp only [List.cons_append, List.nil_append]
      refine e_mv rfl ?_
      refine e_q (q_extract rfl rfl) ?_
      refine e_q (q_extract rfl rfl) ?_
      refine e_as rfl ?_
      refine e_as rfl ?_
      refine l_n ?_
      refine sr ?_
      refine e_mv rfl ?_
      refine l_n ?_
      refine c_cond rfl (fun h5 => ?_) (fun h5 => ?_)
      · skip
        replace h5 : mhas (vw T1) nF = true := h5
        refine sr ?_
        refine e_mv rfl ?_
        refine e_s (s_buildSlice (cs := ([[97, 103, 101, 110, 116, 45, 110, 101, 119]] : List (List UInt8)).flatMap Go.SL.encStr) Tryz.underlying49 eo_9 rfl rfl rfl rfl (by decide) (by decide)) ?_
        rintro _ _ ⟨b75, rfl, rfl⟩
        refine e_fn Tryz.func21 rfl sl_ (fun ρ' hL => Go.Dsk.R.remove_spec b room mb (-1) T1 (some ⟨b75, 0, none⟩) 1 1 [nF] rfl ρ' hT1 (by decide) (by decide) (hL.row pk_)) ?_
        rintro _ _ ⟨T2, rfl, hvT2, rfl⟩
        try simp only [List.cons_append, List.nil_append]
        rw [show decC (-1) = -1 from rfl]
        refine e_as rfl ?_
        refine l_n ?_
        refine sr ?_
        refine e_mv rfl ?_
        refine e_q (q_neq rfl rfl) ?_
        refine l_n ?_
        refine c_sure false rfl (decide_eq_false (fun h9 => h9 (rem_zero h5))) ?_
        simp only [Bool.false_eq_true, if_true, if_false]
        refine c_skip ?_
        refine k_then_n ?_
        refine sr ?_
        refine e_mv rfl ?_
        refine e_as rfl ?_
        refine e_as rfl ?_
        refine l_n ?_
        refine c_ret ?_
        exact t_rt [.pts b36 (encAgent1 (⟨x.d.2, (some b), cl, work, 0, false⟩ : Agent1)) 81, .pts b (encDisk1 (⟨room, (some mb), (-1)⟩ : Disk1)) 105, MP strB ptV mb (fm T2), FB 109 5 T2] rfl (.tmp rfl (.tmp rfl .nil)) rfl ⟨rfl, b36, x.d.2, x.d.1, T2, rfl, hsc, by rw [(opn_cr hlt (by rw [← hvT1]; exact h5)), hvT2, hvT1], rfl⟩
      · skip
        replace h5 : mhas (vw T1) nF = false := h5
        refine c_skip ?_
        refine k_then_n ?_
        refine sr ?_
        refine e_mv rfl ?_
        refine e_as rfl ?_
        refine e_as rfl ?_
        refine l_n ?_
        refine c_ret ?_
        exact t_rt [.pts b36 (encAgent1 (⟨x.d.2, (some b), cl, work, 0, false⟩ : Agent1)) 81, .pts b (encDisk1 (⟨room, (some mb), (-1)⟩ : Disk1)) 105, MP strB ptV mb (fm T1), FB 109 5 T1] rfl (.tmp rfl (.tmp rfl .nil)) rfl ⟨rfl, b36, x.d.2, x.d.1, T1, rfl, hsc, by rw [(opn_c hlt (by rw [← hvT1]; exact h5)), hvT1], rfl⟩
    · try simp only [decide_eq_true_eq, decide_eq_false_iff_not] at h3
      have hlt : ¬ x.d.1 < (mgetD (vw T) nA zF).1.length := by omega
      refine c_skip ?_
      refine k_then_n ?_
      refine c_seq ?_
      refine sr ?_
      refine e_mv rfl ?_
      refine e_fn Tryz.func43 rfl sl_ (fun ρ' hL => Go.Dsk.X.read_spec b room mb (-1) T nF ρ' hT) ?_
      rintro _ _ ⟨aR2, cR2, rfl, rfl⟩
      try simp only [List.cons_append, List.nil_append]
      refine e_mv rfl ?_
      refine e_q (q_extract rfl rfl) ?_
      refine e_q (q_extract rfl rfl) ?_
      refine e_as rfl ?_
      refine e_as rfl ?_
      refine l_n ?_
      refine sr ?_
      refine e_mv rfl ?_
      refine l_n ?_
      refine c_cond rfl (fun h5 => ?_) (fun h5 => ?_)
      · skip
        replace h5 : mhas (vw T) nF = true := h5
        refine sr ?_
        refine e_mv rfl ?_
        refine e_s (s_buildSlice (cs := ([[97, 103, 101, 110, 116, 45, 110, 101, 119]] : List (List UInt8)).flatMap Go.SL.encStr) Tryz.underlying49 eo_9 rfl rfl rfl rfl (by decide) (by decide)) ?_
        rintro _ _ ⟨b75, rfl, rfl⟩
        refine e_fn Tryz.func21 rfl sl_ (fun ρ' hL => Go.Dsk.R.remove_spec b room mb (-1) T (some ⟨b75, 0, none⟩) 1 1 [nF] rfl ρ' hT (by decide) (by decide) (hL.row pk_)) ?_
        rintro _ _ ⟨T2, rfl, hvT2, rfl⟩
        try simp only [List.cons_append, List.nil_append]
        rw [show decC (-1) = -1 from rfl]
        refine e_as rfl ?_
        refine l_n ?_
        refine sr ?_
        refine e_mv rfl ?_
        refine e_q (q_neq rfl rfl) ?_
        refine l_n ?_
        refine c_sure false rfl (decide_eq_false (fun h9 => h9 (rem_zero h5))) ?_
        simp only [Bool.false_eq_true, if_true, if_false]
        refine c_skip ?_
        refine k_then_n ?_
        refine sr ?_
        refine e_mv rfl ?_
        refine e_as rfl ?_
        refine e_as rfl ?_
        refine l_n ?_
        refine c_ret ?_
        exact t_rt [.pts b36 (encAgent1 (⟨x.d.2, (some b), cl, work, 0, false⟩ : Agent1)) 81, .pts b (encDisk1 (⟨room, (some mb), (-1)⟩ : Disk1)) 105, MP strB ptV mb (fm T2), FB 109 5 T2] rfl (.tmp rfl (.tmp rfl .nil)) rfl ⟨rfl, b36, x.d.2, x.d.1, T2, rfl, hsc, by rw [(opn_r hlt h5), hvT2], rfl⟩
      · skip
        replace h5 : mhas (vw T) nF = false := h5
        refine c_skip ?_
        refine k_then_n ?_
        refine sr ?_
        refine e_mv rfl ?_
        refine e_as rfl ?_
        refine e_as rfl ?_
        refine l_n ?_
        refine c_ret ?_
        exact t_rt [.pts b36 (encAgent1 (⟨x.d.2, (some b), cl, work, 0, false⟩ : Agent1)) 81, .pts b (encDisk1 (⟨room, (some mb), (-1)⟩ : Disk1)) 105, MP strB ptV mb (fm T), FB 109 5 T] rfl (.tmp rfl (.tmp rfl .nil)) rfl ⟨rfl, b36, x.d.2, x.d.1, T, rfl, hsc, by rw [(opn_0 hlt h5)], rfl⟩
  · try simp only [decide_eq_true_eq, decide_eq_false_iff_not] at h2
    refine c_skip ?_
    refine k_then_n ?_
    refine sr ?_
    refine e_mv rfl ?_
    refine e_q (q_loadpa (vs := encKept1 ((takeK ((mgetD (vw T) nA zF).1.drop x.d.1)).1)) ag_79 rfl pk_ rfl) ?_
    refine e_q (q_nilCheck rfl) ?_
    refine e_q (q_fieldp rfl fo_81_0) ?_
    refine l_step (s_s0 wn (s_storep (ws := encKept1 ((takeK ((mgetD (vw T) nA zF).1.drop x.d.1)).1)) (cs := encAgent1 (⟨x.d.2, (some b), cl, work, 0, false⟩ : Agent1)) (cs' := encAgent1 (⟨((takeK ((mgetD (vw T) nA zF).1.drop x.d.1)).1), (some b), cl, work, 0, false⟩ : Agent1)) rfl rfl rfl sz_79 (oneKept1 _) (by simp [encAgent1, encKept1]) rfl pk_) ?_)
    rintro _ _ ⟨rfl, rfl⟩
    refine l_n ?_
    refine c_region ?_
    refine e_mv rfl ?_
    refine e_mv rfl ?_
    refine e_q (q_add rfl rfl (by omega) (by omega)) ?_
    refine e_as rfl ?_
    refine l_nil ?_
    refine k_blk_n ?_
    refine k_then_n ?_
    exact t_nx (⟨(x.d.1 + (takeK ((mgetD (vw T) nA zF).1.drop x.d.1)).2, (takeK ((mgetD (vw T) nA zF).1.drop x.d.1)).1), none, 0, none, 0, none, 0⟩ : Lp _) ⟨⟨by show x.d.1 + _ ≤ _; omega, fun k2 m h9 => by have h8 := hx2 k2 _ (Scan.step (by omega) (by rw [List.drop_drop]; exact h9)); rw [← Nat.add_assoc] at h8; exact h8⟩, by show _ - (x.d.1 + _) < _; omega⟩ (.c (.c (.c (.c (.c (.c (.nil _)))))))
end Go.Agn

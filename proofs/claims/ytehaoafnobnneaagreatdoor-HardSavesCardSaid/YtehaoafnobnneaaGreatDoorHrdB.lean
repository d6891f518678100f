/-
  Walked.
-/
import Derived.Test.YtehaoafnobnneaaGreatDoorHrdA
import Derived.Test.YtehaoafnobnneaaGreatDoorProg
set_option maxRecDepth 100000
set_option maxHeartbeats 4000000
set_option linter.unusedSimpArgs false
set_option linter.unusedVariables false
namespace Go.Hrd
open Go Go.SL Go.Proofs Go.Mou Go.Dsk
attribute [local irreducible] Go.SL.Ent
theorem zc_56 : zeroCs Tryz.prog 56 = some [.int .i64 0, .int .i64 0, .pointer none] := by kernel_rfl
theorem pl_56 : placesOf Tryz.prog 56 = some [(0, 2), (2, 1)] := by kernel_rfl
theorem fo_23_0 : fieldOff Tryz.prog 23 0 = some (0, 3) := by kernel_rfl
theorem sc_3 : isScalar Tryz.prog 3 = true := by kernel_rfl
theorem fo_23_1 : fieldOff Tryz.prog 23 1 = some (1, 3) := by kernel_rfl

theorem newest_spec (b : Nat) (room : Int) (mb : Nat) (calls : Int) (T : FT) (ρ : Hp) (hT : FOk T) : Spec0 Tryz.prog 40 #[.pointer (some ⟨b, 0, none⟩)] ρ [.pts b (encDisk1 (⟨room, (some mb), calls⟩ : Disk1)) 105, MP strB ptV mb (fm T), FB 109 5 T] (fun v Γ' => v = .tuple #[(strB ((newF (vw T)).1)), .int .u64 (((newF (vw T)).2.1) : Int), .agg (encState1 ((newF (vw T)).2.2)).toArray] ∧ Γ' = [.pts b (encDisk1 (⟨room, (some mb), calls⟩ : Disk1)) 105, MP strB ptV mb (fm T), FB 109 5 T]) := by
  refine spec_of (n := 35) (vs := [_]) (σ := [(0, _)]) Tryz.func40 rfl rfl rfl rfl fun E Δ => ?_
  simp only [List.cons_append, List.nil_append]
  refine sr ?_
  refine e_as rfl ?_
  refine e_as rfl ?_
  refine e_s (s_allocz (cs := encState1 zState1) (by kernel_rfl)) ?_
  rintro _ _ ⟨b4, rfl, rfl⟩
  refine l_n ?_
  refine sr ?_
  refine e_mv rfl ?_
  refine l_step (s_fnr rfl wn Tryz.func69 rfl (by kernel_rfl) rfl sl_ (fun ρ' hL => slot_spec b room mb calls T [104, 97, 114, 100, 45, 48] ρ' (by assumption)) ?_)
  refine e_mv rfl ?_
  refine e_q (q_extract rfl rfl) ?_
  refine e_q (q_extract rfl rfl) ?_
  refine e_s (s_allocz (cs := encState1 zState1) (by kernel_rfl)) ?_
  rintro _ _ ⟨b6, rfl, rfl⟩
  refine e_as rfl ?_
  refine l_step (s_s0 wn (s_storep (ws := encState1 ((slotF (mgetD (vw T) [104, 97, 114, 100, 45, 48] zF).1).2)) (cs := encState1 zState1) (cs' := encState1 ((slotF (mgetD (vw T) [104, 97, 114, 100, 45, 48] zF).1).2)) rfl rfl rfl sz_23 (oneState1 _) (by simp [encState1, encState1]) rfl pk_) ?_)
  rintro _ _ ⟨rfl, rfl⟩
  refine l_n ?_
  refine sr ?_
  refine e_mv rfl ?_
  refine l_step (s_fnr rfl wn Tryz.func69 rfl (by kernel_rfl) rfl sl_ (fun ρ' hL => slot_spec b room mb calls T [104, 97, 114, 100, 45, 49] ρ' (by assumption)) ?_)
  refine e_mv rfl ?_
  refine e_q (q_extract rfl rfl) ?_
  refine e_q (q_extract rfl rfl) ?_
  refine e_s (s_allocz (cs := encState1 zState1) (by kernel_rfl)) ?_
  rintro _ _ ⟨b8, rfl, rfl⟩
  refine e_as rfl ?_
  refine l_step (s_s0 wn (s_storep (ws := encState1 ((slotF (mgetD (vw T) [104, 97, 114, 100, 45, 49] zF).1).2)) (cs := encState1 zState1) (cs' := encState1 ((slotF (mgetD (vw T) [104, 97, 114, 100, 45, 49] zF).1).2)) rfl rfl rfl sz_23 (oneState1 _) (by simp [encState1, encState1]) rfl pk_) ?_)
  rintro _ _ ⟨rfl, rfl⟩
  refine l_n ?_
  refine c_seq ?_
  refine c_block ?_
  refine sr ?_
  refine e_mv rfl ?_
  refine e_q (q_eql rfl rfl) ?_
  refine e_mv rfl ?_
  refine l_step (s_qg rfl (ask_t rfl rfl) (b := (decide ((((slotF (mgetD (vw T) [104, 97, 114, 100, 45, 48] zF).1).1) : Int) = 0))) (fun hb => q_move rfl) ?_)
  refine l_step (s_qg rfl (ask_t rfl rfl) (b := (decide ((((slotF (mgetD (vw T) [104, 97, 114, 100, 45, 48] zF).1).1) : Int) = 0))) (fun hb => OpQ.env (.cons rfl (gd_t hb) (.nil _) : EnvLe [(23, .int .u64 (((slotF (mgetD (vw T) [104, 97, 114, 100, 45, 49] zF).1).1) : Int))] _) (q_eql rfl rfl)) ?_)
  refine e_q (q_pick_and rfl rfl rfl (fun h => h)) ?_
  refine e_as rfl ?_
  refine l_n ?_
  refine c_cond rfl (fun h0 => ?_) (fun h0 => ?_)
  · try simp only [decide_eq_true_eq, decide_eq_false_iff_not, Bool.and_eq_true, Bool.and_eq_false_iff] at h0
    refine sr ?_
    refine e_q (q_build (cs := encState1 (⟨0, (-1)⟩ : State1)) zc_23 pl_23 rfl rfl) ?_
    refine e_as rfl ?_
    refine e_as rfl ?_
    refine l_step (s_s0 wn (s_storep (ws := encState1 (⟨0, (-1)⟩ : State1)) (cs := encState1 zState1) (cs' := encState1 (⟨0, (-1)⟩ : State1)) rfl rfl rfl sz_23 (oneState1 _) (by simp [encState1, encState1]) rfl pk_) ?_)
    rintro _ _ ⟨rfl, rfl⟩
    refine l_n ?_
    refine c_ret ?_
    refine k_blk_r ?_
    refine k_then_r ?_
    rw [new_none (V := vw T) (show (slotF (mgetD (vw T) [104, 97, 114, 100, 45, 48] zF).1).1 = 0 by omega) (show (slotF (mgetD (vw T) [104, 97, 114, 100, 45, 49] zF).1).1 = 0 by omega)]
    exact t_rt [.pts b (encDisk1 (⟨room, (some mb), calls⟩ : Disk1)) 105, MP strB ptV mb (fm T), FB 109 5 T] rfl (.tmp rfl (.tmp rfl (.cell rfl pk_ (fun w h => ld_agg (by exact ag_23) h) .nil))) rfl ⟨rfl, rfl, rfl⟩
  · try simp only [decide_eq_true_eq, decide_eq_false_iff_not, Bool.and_eq_true, Bool.and_eq_false_iff] at h0
    refine sr ?_
    refine e_mv rfl ?_
    refine e_mv rfl ?_
    refine e_q (q_gtr rfl rfl) ?_
    refine e_as rfl ?_
    refine l_n ?_
    refine c_cond rfl (fun h1 => ?_) (fun h1 => ?_)
    · try simp only [decide_eq_true_eq, decide_eq_false_iff_not] at h1
      refine c_seq ?_
      refine d_r 5 [.pts b8 (encState1 ((slotF (mgetD (vw T) [104, 97, 114, 100, 45, 49] zF).1).2)) 23, .pts b6 (encState1 ((slotF (mgetD (vw T) [104, 97, 114, 100, 45, 48] zF).1).2)) 23, .pts b (encDisk1 (⟨room, (some mb), calls⟩ : Disk1)) 105, MP strB ptV mb (fm T), FB 109 5 T] ?_
      refine d_t 0 rfl wn (q_move rfl) ?_
      refine d_t 1 rfl wn (q_loadpa (vs := encState1 ((slotF (mgetD (vw T) [104, 97, 114, 100, 45, 49] zF).1).2)) ag_23 rfl pk_ rfl) ?_
      refine d_t 2 rfl wn (q_assign rfl) ?_
      refine d_t 3 rfl wn (q_assign rfl) ?_
      refine d_1 4 ?_
      refine o_step rfl (s_s0 wn (s_storep (ws := encState1 ((slotF (mgetD (vw T) [104, 97, 114, 100, 45, 49] zF).1).2)) (cs := encState1 zState1) (cs' := encState1 ((slotF (mgetD (vw T) [104, 97, 114, 100, 45, 49] zF).1).2)) rfl rfl rfl sz_23 (oneState1 _) (by simp [encState1, encState1]) rfl pk_) ?_)
      rintro _ _ ⟨rfl, rfl⟩
      refine d_c ?_
      refine d_d ?_
      refine k_then_n ?_
      refine c_ret ?_
      refine k_blk_r ?_
      refine k_then_r ?_
      rw [new_one (V := vw T) (fun h9 => by have h8 : (slotF (mgetD (vw T) [104, 97, 114, 100, 45, 48] zF).1).1 = 0 := h9.1; have h7 : (slotF (mgetD (vw T) [104, 97, 114, 100, 45, 49] zF).1).1 = 0 := h9.2; omega) (show (slotF (mgetD (vw T) [104, 97, 114, 100, 45, 48] zF).1).1 < (slotF (mgetD (vw T) [104, 97, 114, 100, 45, 49] zF).1).1 by omega)]
      exact t_rt [.pts b (encDisk1 (⟨room, (some mb), calls⟩ : Disk1)) 105, MP strB ptV mb (fm T), FB 109 5 T] rfl (.tmp rfl (.tmp rfl (.cell rfl pk_ (fun w h => ld_agg (by exact ag_23) h) .nil))) rfl ⟨rfl, rfl, rfl⟩
    · try simp only [decide_eq_true_eq, decide_eq_false_iff_not] at h1
      refine c_skip ?_
      refine k_blk_n ?_
      refine k_then_n ?_
      refine c_seq ?_
      refine d_r 5 [.pts b8 (encState1 ((slotF (mgetD (vw T) [104, 97, 114, 100, 45, 49] zF).1).2)) 23, .pts b6 (encState1 ((slotF (mgetD (vw T) [104, 97, 114, 100, 45, 48] zF).1).2)) 23, .pts b (encDisk1 (⟨room, (some mb), calls⟩ : Disk1)) 105, MP strB ptV mb (fm T), FB 109 5 T] ?_
      refine d_t 0 rfl wn (q_move rfl) ?_
      refine d_t 1 rfl wn (q_loadpa (vs := encState1 ((slotF (mgetD (vw T) [104, 97, 114, 100, 45, 48] zF).1).2)) ag_23 rfl pk_ rfl) ?_
      refine d_t 2 rfl wn (q_assign rfl) ?_
      refine d_t 3 rfl wn (q_assign rfl) ?_
      refine d_1 4 ?_
      refine o_step rfl (s_s0 wn (s_storep (ws := encState1 ((slotF (mgetD (vw T) [104, 97, 114, 100, 45, 48] zF).1).2)) (cs := encState1 zState1) (cs' := encState1 ((slotF (mgetD (vw T) [104, 97, 114, 100, 45, 48] zF).1).2)) rfl rfl rfl sz_23 (oneState1 _) (by simp [encState1, encState1]) rfl pk_) ?_)
      rintro _ _ ⟨rfl, rfl⟩
      refine d_c ?_
      refine d_d ?_
      refine k_then_n ?_
      refine c_ret ?_
      rw [new_zero (V := vw T) (fun h9 => by have h8 : (slotF (mgetD (vw T) [104, 97, 114, 100, 45, 48] zF).1).1 = 0 := h9.1; have h7 : (slotF (mgetD (vw T) [104, 97, 114, 100, 45, 49] zF).1).1 = 0 := h9.2; omega) (show ¬ (slotF (mgetD (vw T) [104, 97, 114, 100, 45, 48] zF).1).1 < (slotF (mgetD (vw T) [104, 97, 114, 100, 45, 49] zF).1).1 by omega)]
      exact t_rt [.pts b (encDisk1 (⟨room, (some mb), calls⟩ : Disk1)) 105, MP strB ptV mb (fm T), FB 109 5 T] rfl (.tmp rfl (.tmp rfl (.cell rfl pk_ (fun w h => ld_agg (by exact ag_23) h) .nil))) rfl ⟨rfl, rfl, rfl⟩

theorem on_spec (b : Nat) (room : Int) (mb : Nat) (calls : Int) (T : FT) (ρ : Hp) (hT : FOk T) : Spec0 Tryz.prog 25 #[.pointer (some ⟨b, 0, none⟩)] ρ [.pts b (encDisk1 (⟨room, (some mb), calls⟩ : Disk1)) 105, MP strB ptV mb (fm T), FB 109 5 T] (fun v Γ' => v = .agg (encState1 ((newF (vw T)).2.2)).toArray ∧ Γ' = [.pts b (encDisk1 (⟨room, (some mb), calls⟩ : Disk1)) 105, MP strB ptV mb (fm T), FB 109 5 T]) := by
  refine spec_of (n := 13) (vs := [_]) (σ := [(0, _)]) Tryz.func25 rfl rfl rfl rfl fun E Δ => ?_
  simp only [List.cons_append, List.nil_append]
  refine sr ?_
  refine e_s (s_allocz (cs := encState1 zState1) (by kernel_rfl)) ?_
  rintro _ _ ⟨b2, rfl, rfl⟩
  refine l_n ?_
  refine sr ?_
  refine e_mv rfl ?_
  refine l_step (s_fnr rfl wn Tryz.func40 rfl (by kernel_rfl) rfl sl_ (fun ρ' hL => newest_spec b room mb calls T ρ' (by assumption)) ?_)
  refine e_mv rfl ?_
  refine e_q (q_extract rfl rfl) ?_
  refine e_q (q_extract rfl rfl) ?_
  refine e_q (q_extract rfl rfl) ?_
  refine e_s (s_allocz (cs := encState1 zState1) (by kernel_rfl)) ?_
  rintro _ _ ⟨b5, rfl, rfl⟩
  refine e_as rfl ?_
  refine e_as rfl ?_
  refine l_step (s_s0 wn (s_storep (ws := encState1 ((newF (vw T)).2.2)) (cs := encState1 zState1) (cs' := encState1 ((newF (vw T)).2.2)) rfl rfl rfl sz_23 (oneState1 _) (by simp [encState1, encState1]) rfl pk_) ?_)
  rintro _ _ ⟨rfl, rfl⟩
  refine l_n ?_
  refine sr ?_
  refine e_q (q_loadpa (vs := encState1 ((newF (vw T)).2.2)) ag_23 rfl pk_ rfl) ?_
  refine l_step (s_s0 wn (s_storep (ws := encState1 ((newF (vw T)).2.2)) (cs := encState1 zState1) (cs' := encState1 ((newF (vw T)).2.2)) rfl rfl rfl sz_23 (oneState1 _) (by simp [encState1, encState1]) rfl pk_) ?_)
  rintro _ _ ⟨rfl, rfl⟩
  refine l_n ?_
  refine c_ret ?_
  exact t_rt [.pts b (encDisk1 (⟨room, (some mb), calls⟩ : Disk1)) 105, MP strB ptV mb (fm T), FB 109 5 T] rfl (.cell rfl pk_ (fun w h => ld_agg (by exact ag_23) h) .nil) rfl ⟨rfl, rfl, rfl⟩

theorem open__spec (b : Nat) (room : Int) (mb : Nat) (calls : Int) (T : FT) (ρ : Hp) (hT : FOk T) : Spec0 Tryz.prog 13 #[.pointer (some ⟨b, 0, none⟩)] ρ [.pts b (encDisk1 (⟨room, (some mb), calls⟩ : Disk1)) 105, MP strB ptV mb (fm T), FB 109 5 T] (fun v Γ' => ∃ h, v = .tuple #[.pointer (some ⟨h, 0, none⟩), .int .i64 0] ∧ Γ' = [.pts h (encHard1 (⟨(newF (vw T)).2.2, (some b)⟩ : Hard1)) 56, .pts b (encDisk1 (⟨room, (some mb), calls⟩ : Disk1)) 105, MP strB ptV mb (fm T), FB 109 5 T]) := by
  refine spec_of (n := 11) (vs := [_]) (σ := [(0, _)]) Tryz.func13 rfl rfl rfl rfl fun E Δ => ?_
  simp only [List.cons_append, List.nil_append]
  refine sr ?_
  refine e_as rfl ?_
  refine e_as rfl ?_
  refine l_n ?_
  refine c_seq ?_
  refine sr ?_
  refine e_mv rfl ?_
  refine e_q (by first | exact q_eqlp rfl rfl Tryz.underlying29 | exact q_eqlp0 rfl rfl Tryz.underlying29) ?_
  refine l_n ?_
  refine c_no rfl ?_
  refine c_skip ?_
  refine k_then_n ?_
  refine sr ?_
  refine e_mv rfl ?_
  refine l_step (s_fnr rfl wn Tryz.func25 rfl (by kernel_rfl) rfl sl_ (fun ρ' hL => on_spec b room mb calls T ρ' (by assumption)) ?_)
  refine e_mv rfl ?_
  refine e_q (q_build (cs := encHard1 (⟨((newF (vw T)).2.2), (some b)⟩ : Hard1)) zc_56 pl_56 rfl rfl) ?_
  refine e_s (s_box (cs := encHard1 (⟨((newF (vw T)).2.2), (some b)⟩ : Hard1)) rfl rfl) ?_
  rintro _ _ ⟨b10, rfl, rfl⟩
  refine e_as rfl ?_
  refine e_as rfl ?_
  refine l_n ?_
  refine c_ret ?_
  exact t_rt [.pts b10 (encHard1 (⟨((newF (vw T)).2.2), (some b)⟩ : Hard1)) 56, .pts b (encDisk1 (⟨room, (some mb), calls⟩ : Disk1)) 105, MP strB ptV mb (fm T), FB 109 5 T] rfl (.tmp rfl (.tmp rfl .nil)) rfl ⟨rfl, _, rfl, rfl⟩

theorem stI_spec (s_a : Option Addr) (s_n s_c : Nat) (s : List State1) (hs_n : s.length = s_n) (f : Nat) (cs : List Value) (bs : List Bool) (L : List Asn) (ρ : Hp) (hro : Ro ρ 2 s_a s_n s_c (s.flatMap encState1)) (hE : Go.SL.Enters Tryz.prog f) (hbl : bs.length = s_n) (hp : ∀ i, i < s_n → ∀ ρ' : Hp, ρ.le ρ' → Spec0 Tryz.prog f ([Value.agg (encState1 (s.getD i default)).toArray] ++ cs).toArray ρ' [Bun L] (fun v Γ' => v = .bool (bs.getD i false) ∧ Γ' = [Bun L])) : Spec0 Tryz.prog 66 #[.slice s_a s_n s_c, .func (.func f) #[] cs.toArray] ρ [Bun L] (fun v Γ' => v = .int .i64 (idxB bs) ∧ Γ' = [Bun L]) := by
  refine spec_of (n := 19) (vs := [_, _]) (σ := [(0, _), (1, _)]) Tryz.func66 rfl rfl rfl rfl fun E Δ => ?_
  simp only [List.cons_append, List.nil_append]
  have hrob : s_n ≤ 9223372036854775807 := Nat.le_trans hro.2.1 hro.2.2.1
  refine sr ?_
  refine e_as rfl ?_
  refine l_n ?_
  refine c_seq ?_
  refine sr ?_
  refine e_mv rfl ?_
  refine e_q (q_len Tryz.underlying59 rfl) ?_
  refine e_mv rfl ?_
  refine l_n ?_
  refine c_block ?_
  refine Tr.env (σ' := [(0, _), (1, _), (7, _), (8, _)]) ev_ ?_
  refine t_loop (ι := Lp (Nat)) (fun x => x.d ≤ s_n ∧ (bs.take x.d).any id = false) (fun x => s_n - x.d) (fun x => [(0, .slice s_a s_n s_c), (1, (.func (.func f) #[] cs.toArray)), (7, .int .i64 (s_n : Int)), (8, .int .i64 (x.d : Int))]) (fun x => Bun L :: Δ) (⟨0, none, 0, none, 0, none, 0⟩ : Lp _) ⟨Nat.zero_le _, rfl⟩ ?_ ?_ ?_
  · exact .c (.c (.c (.c (.nil _))))
  · exact en_
  intro x hx
  obtain ⟨hx1, hx2⟩ := hx
  refine sr ?_
  refine e_q (q_lss rfl rfl) ?_
  refine l_n ?_
  refine c_seq ?_
  refine c_cond rfl (fun h0 => ?_) (fun h0 => ?_)
  · try simp only [decide_eq_true_eq, decide_eq_false_iff_not] at h0
    refine c_skip ?_
    refine k_then_n ?_
    refine c_seq ?_
    refine c_block ?_
    refine sr ?_
    refine e_mv rfl ?_
    refine e_as rfl ?_
    refine l_n ?_
    refine sr ?_
    refine e_mv rfl ?_
    refine e_mv rfl ?_
    refine e_mv rfl ?_
    refine e_q (q_indexe x.d Tryz.underlying59 sz_23 rfl rfl (by first | assumption | exact rd_ro (by assumption) | exact rd_bun (L := L) pk_ (in_map _ (by first | assumption | omega | (simp only [List.length_cons, List.length_nil]; omega) | decide) rfl) | exact rd_row pk_) (by decide) rfl (by first | assumption | omega | (simp only [List.length_cons, List.length_nil]; omega))) ?_
    refine e_q (q_loadea (vs := encState1 (s.getD x.d default)) (enc := encState1) (xs := s) (j := x.d) (off := 0) ag_23 rfl (by first | assumption | exact rd_ro (by assumption) | exact rd_bun (L := L) pk_ (in_map _ (by first | assumption | omega | (simp only [List.length_cons, List.length_nil]; omega) | decide) rfl) | exact rd_row pk_) (fun _ => rfl) (by first | assumption | omega | (simp only [List.length_cons, List.length_nil]; omega)) (by simp [encState1]) (by simp [encState1]) rfl) ?_
    refine l_step (s_clob rfl wn hE rfl rfl sl_ (fun ρ' hL => hp x.d (by omega) ρ' hL.1) ?_)
    rintro _ _ ⟨rfl, rfl⟩
    try simp only [List.cons_append, List.nil_append]
    refine l_n ?_
    refine c_cond rfl (fun h1 => ?_) (fun h1 => ?_)
    · skip
      refine sr ?_
      refine e_mv rfl ?_
      refine e_as rfl ?_
      refine l_n ?_
      refine c_ret ?_
      refine k_blk_r ?_
      refine k_then_r ?_
      refine k_then_r ?_
      refine k_blk_r ?_
      refine k_then_r ?_
      exact t_rt [Bun L] rfl (.tmp rfl .nil) rfl ⟨rfl, inte (idxB_at (by omega) hx2 h1).symm, rfl⟩
    · skip
      refine c_skip ?_
      refine k_blk_n ?_
      refine k_then_n ?_
      refine c_region ?_
      refine e_q (q_add rfl rfl (by omega) (by omega)) ?_
      refine e_mv rfl ?_
      refine l_n ?_
      exact t_nx (⟨x.d + 1, none, 0, none, 0, none, 0⟩ : Lp _) ⟨⟨by (try simp only []); omega, any_succB (by omega) hx2 h1⟩, by (try simp only []); omega⟩ (.c (.c (.c (.c (.nil _)))))
  · try simp only [decide_eq_true_eq, decide_eq_false_iff_not] at h0
    have hk : x.d = bs.length := by omega
    rw [hk, List.take_length] at hx2
    refine c_exit ?_
    refine k_then_x ?_
    refine k_then_x ?_
    refine k_blk_x ?_
    refine k_then_n ?_
    refine sr ?_
    refine e_as rfl ?_
    refine l_n ?_
    refine c_ret ?_
    exact t_rt [Bun L] rfl (.tmp rfl .nil) rfl ⟨rfl, inte (idxB_none hx2).symm, rfl⟩

theorem stC_spec (s_a : Option Addr) (s_n s_c : Nat) (s : List State1) (hs_n : s.length = s_n) (f : Nat) (cs : List Value) (bs : List Bool) (L : List Asn) (ρ : Hp) (hro : Ro ρ 2 s_a s_n s_c (s.flatMap encState1)) (hE : Go.SL.Enters Tryz.prog f) (hbl : bs.length = s_n) (hp : ∀ i, i < s_n → ∀ ρ' : Hp, ρ.le ρ' → Spec0 Tryz.prog f ([Value.agg (encState1 (s.getD i default)).toArray] ++ cs).toArray ρ' [Bun L] (fun v Γ' => v = .bool (bs.getD i false) ∧ Γ' = [Bun L])) : Spec0 Tryz.prog 36 #[.slice s_a s_n s_c, .func (.func f) #[] cs.toArray] ρ [Bun L] (fun v Γ' => v = .bool (bs.any id) ∧ Γ' = [Bun L]) := by
  refine spec_of (n := 9) (vs := [_, _]) (σ := [(0, _), (1, _)]) Tryz.func36 rfl rfl rfl rfl fun E Δ => ?_
  simp only [List.cons_append, List.nil_append]
  refine sr ?_
  refine e_as rfl ?_
  refine l_n ?_
  refine sr ?_
  refine e_mv rfl ?_
  refine e_mv rfl ?_
  refine e_fn Tryz.func66 rfl sl_ (fun ρ' hL => stI_spec s_a s_n s_c s hs_n f cs bs L ρ' (hL.ro hro) hE hbl (fun i hi ρ'' hl => hp i hi ρ'' (hL.1.le_trans hl))) ?_
  rintro _ _ ⟨rfl, rfl⟩
  try simp only [List.cons_append, List.nil_append]
  refine e_q (q_geq rfl rfl) ?_
  refine e_as rfl ?_
  refine l_n ?_
  refine c_ret ?_
  exact t_rt [Bun L] rfl (.tmp rfl .nil) rfl ⟨rfl, boole (idxB_any bs), rfl⟩

theorem fol1_spec (e : State1) (c : Nat) (s : State1) (ρ : Hp) : Spec0 Tryz.prog 37 #[.agg (encState1 e).toArray, .pointer (some ⟨c, 0, none⟩)] ρ [.pts c (encState1 s) 23] (fun v Γ' => v = .bool (!folB s e) ∧ Γ' = [.pts c (encState1 s) 23]) := by
  refine spec_of (n := 28) (vs := [_, _]) (σ := [(0, _), (1, _)]) Tryz.func37 rfl rfl rfl rfl fun E Δ => ?_
  simp only [List.cons_append, List.nil_append]
  refine sr ?_
  refine e_s (s_box (cs := encState1 e) rfl rfl) ?_
  rintro _ _ ⟨b2, rfl, rfl⟩
  refine e_as rfl ?_
  refine l_n ?_
  refine sr ?_
  refine e_q (q_fieldp rfl fo_23_0) ?_
  refine e_q (q_loadp (v := .int .i64 s.Term) sc_3 rfl pk_ rfl) ?_
  refine e_q (q_fieldp rfl fo_23_0) ?_
  refine e_q (q_loadp (v := .int .i64 e.Term) sc_3 rfl pk_ rfl) ?_
  refine e_q (q_lss rfl rfl) ?_
  refine e_mv rfl ?_
  refine l_step (s_qg rfl (ask_f rfl rfl) (b := (!(decide (s.Term < e.Term)))) (fun hb => q_fieldp rfl fo_23_0) ?_)
  refine l_step (s_qg rfl (ask_f rfl rfl) (b := (!(decide (s.Term < e.Term)))) (fun hb => OpQ.env (.cons rfl (gd_t hb) (.nil _) : EnvLe [(10, .pointer (some ⟨c, 0, none⟩))] _) (q_loadp (v := .int .i64 s.Term) sc_3 rfl pk_ rfl)) ?_)
  refine l_step (s_qg rfl (ask_f rfl rfl) (b := (!(decide (s.Term < e.Term)))) (fun hb => q_fieldp rfl fo_23_0) ?_)
  refine l_step (s_qg rfl (ask_f rfl rfl) (b := (!(decide (s.Term < e.Term)))) (fun hb => OpQ.env (.cons rfl (gd_t hb) (.nil _) : EnvLe [(12, .pointer (some ⟨b2, 0, none⟩))] _) (q_loadp (v := .int .i64 e.Term) sc_3 rfl pk_ rfl)) ?_)
  refine l_step (s_qg rfl (ask_f rfl rfl) (b := (!(decide (s.Term < e.Term)))) (fun hb => OpQ.env (.cons rfl (gd_t hb) (.cons rfl (gd_t hb) (.nil _)) : EnvLe [(11, .int .i64 s.Term), (13, .int .i64 e.Term)] _) (q_eql rfl rfl)) ?_)
  refine l_step (s_qg rfl (ask_f rfl rfl) (b := (!(decide (s.Term < e.Term)))) (fun hb => OpQ.env (.cons rfl (gd_t hb) (.nil _) : EnvLe [(14, .bool (decide (s.Term = e.Term)))] _) (q_move rfl)) ?_)
  refine l_step (s_qg rfl (ask_gt rfl rfl) (b := ((!(decide (s.Term < e.Term))) && (decide (s.Term = e.Term)))) (fun hb => q_fieldp rfl fo_23_1) ?_)
  refine l_step (s_qg rfl (ask_gt rfl rfl) (b := ((!(decide (s.Term < e.Term))) && (decide (s.Term = e.Term)))) (fun hb => OpQ.env (.cons rfl (gd_t hb) (.nil _) : EnvLe [(16, .pointer (some ⟨c, 1, none⟩))] _) (q_loadp (v := .int .i64 s.Vote) sc_3 rfl pk_ rfl)) ?_)
  refine l_step (s_qg rfl (ask_gt rfl rfl) (b := ((!(decide (s.Term < e.Term))) && (decide (s.Term = e.Term)))) (fun hb => q_fieldp rfl fo_23_1) ?_)
  refine l_step (s_qg rfl (ask_gt rfl rfl) (b := ((!(decide (s.Term < e.Term))) && (decide (s.Term = e.Term)))) (fun hb => OpQ.env (.cons rfl (gd_t hb) (.nil _) : EnvLe [(18, .pointer (some ⟨b2, 1, none⟩))] _) (q_loadp (v := .int .i64 e.Vote) sc_3 rfl pk_ rfl)) ?_)
  refine l_step (s_qg rfl (ask_gt rfl rfl) (b := ((!(decide (s.Term < e.Term))) && (decide (s.Term = e.Term)))) (fun hb => OpQ.env (.cons rfl (gd_t hb) (.cons rfl (gd_t hb) (.nil _)) : EnvLe [(17, .int .i64 s.Vote), (19, .int .i64 e.Vote)] _) (q_neq rfl rfl)) ?_)
  refine l_step (s_qg rfl (ask_f rfl rfl) (b := (!(decide (s.Term < e.Term)))) (fun hb => OpQ.env (.cons rfl (gd_t hb) (.cons rfl rfl (.nil _)) : EnvLe [(15, .bool (decide (s.Term = e.Term))), (20, gd ((!(decide (s.Term < e.Term))) && (decide (s.Term = e.Term))) (.bool (decide (s.Vote ≠ e.Vote))))] _) (q_pick_and rfl rfl rfl (fun h => by simp_all))) ?_)
  refine l_step (s_qg rfl (ask_f rfl rfl) (b := (!(decide (s.Term < e.Term)))) (fun hb => OpQ.env (.cons rfl (gd_t hb) (.nil _) : EnvLe [(21, .bool ((decide (s.Term = e.Term)) && (decide (s.Vote ≠ e.Vote))))] _) (q_move rfl)) ?_)
  refine l_step (s_qg rfl (ask_gt rfl rfl) (b := ((!(decide (s.Term < e.Term))) && ((decide (s.Term = e.Term)) && (decide (s.Vote ≠ e.Vote))))) (fun hb => q_fieldp rfl fo_23_1) ?_)
  refine l_step (s_qg rfl (ask_gt rfl rfl) (b := ((!(decide (s.Term < e.Term))) && ((decide (s.Term = e.Term)) && (decide (s.Vote ≠ e.Vote))))) (fun hb => OpQ.env (.cons rfl (gd_t hb) (.nil _) : EnvLe [(23, .pointer (some ⟨b2, 1, none⟩))] _) (q_loadp (v := .int .i64 e.Vote) sc_3 rfl pk_ rfl)) ?_)
  refine l_step (s_qg rfl (ask_gt rfl rfl) (b := ((!(decide (s.Term < e.Term))) && ((decide (s.Term = e.Term)) && (decide (s.Vote ≠ e.Vote))))) (fun hb => OpQ.env (.cons rfl (gd_t hb) (.nil _) : EnvLe [(24, .int .i64 e.Vote)] _) (q_neq rfl rfl)) ?_)
  refine l_step (s_qg rfl (ask_f rfl rfl) (b := (!(decide (s.Term < e.Term)))) (fun hb => OpQ.env (.cons rfl (gd_t hb) (.cons rfl rfl (.nil _)) : EnvLe [(22, .bool ((decide (s.Term = e.Term)) && (decide (s.Vote ≠ e.Vote)))), (25, gd ((!(decide (s.Term < e.Term))) && ((decide (s.Term = e.Term)) && (decide (s.Vote ≠ e.Vote)))) (.bool (decide (e.Vote ≠ (-1)))))] _) (q_pick_and rfl rfl rfl (fun h => by simp_all))) ?_)
  refine e_q (q_pick_or rfl rfl rfl (fun h => by first | (rw [h]; rfl) | exact congrArg not h)) ?_
  refine e_as rfl ?_
  refine l_n ?_
  refine c_ret ?_
  exact t_rt [.pts c (encState1 s) 23] rfl (.tmp rfl .nil) rfl ⟨rfl, boole (by unfold folB; rw [Bool.not_not]), rfl⟩

theorem follows_spec (s : State1) (es_a : Option Addr) (es_n es_c : Nat) (es : List State1) (hes_n : es.length = es_n) (ρ : Hp) (hro : Ro ρ 2 es_a es_n es_c (es.flatMap encState1)) : Spec0 Tryz.prog 11 #[.agg (encState1 s).toArray, .slice es_a es_n es_c] ρ [] (fun v Γ' => v = .bool ((folL s es)) ∧ Γ' = []) := by
  refine spec_of (n := 17) (vs := [_, _]) (σ := [(0, _), (1, _)]) Tryz.func11 rfl rfl rfl rfl fun E Δ => ?_
  rw [List.nil_append]
  refine sr ?_
  refine e_s (s_box (cs := encState1 s) rfl rfl) ?_
  rintro _ _ ⟨b2, rfl, rfl⟩
  refine e_as rfl ?_
  refine l_n ?_
  refine c_seq ?_
  refine sr ?_
  refine e_q (q_fieldp rfl fo_23_0) ?_
  refine e_q (q_loadp (v := .int .i64 s.Term) sc_3 rfl pk_ rfl) ?_
  refine e_q (q_lss rfl rfl) ?_
  refine e_mv rfl ?_
  refine l_step (s_qg rfl (ask_f rfl rfl) (b := (!(decide (s.Term < 0)))) (fun hb => q_fieldp rfl fo_23_1) ?_)
  refine l_step (s_qg rfl (ask_f rfl rfl) (b := (!(decide (s.Term < 0)))) (fun hb => OpQ.env (.cons rfl (gd_t hb) (.nil _) : EnvLe [(9, .pointer (some ⟨b2, 1, none⟩))] _) (q_loadp (v := .int .i64 s.Vote) sc_3 rfl pk_ rfl)) ?_)
  refine l_step (s_qg rfl (ask_f rfl rfl) (b := (!(decide (s.Term < 0)))) (fun hb => OpQ.env (.cons rfl (gd_t hb) (.nil _) : EnvLe [(10, .int .i64 s.Vote)] _) (q_lss rfl rfl)) ?_)
  refine e_q (q_pick_or rfl rfl rfl (fun h => by first | (rw [h]; rfl) | exact congrArg not h)) ?_
  refine l_n ?_
  refine c_cond rfl (fun h0 => ?_) (fun h0 => ?_)
  · try simp only [decide_eq_true_eq, decide_eq_false_iff_not, Bool.or_eq_true, Bool.or_eq_false_iff] at h0
    have hr : folL s es = false := fol_no (by omega)
    refine sr ?_
    refine e_as rfl ?_
    refine l_n ?_
    refine c_ret ?_
    refine k_then_r ?_
    rw [hr]
    exact t_rt [] rfl (.tmp rfl .nil) rfl ⟨rfl, rfl, rfl⟩ (by (repeat refine Ent.skip ?_); exact Ent.refl _)
  · try simp only [decide_eq_true_eq, decide_eq_false_iff_not, Bool.or_eq_true, Bool.or_eq_false_iff] at h0
    refine Tr.ent (Ent.trans (Ent.pick (A := .pts b2 (encState1 s) 23) pk_ (Ent.refl _)) (bun_in [.pts b2 (encState1 s) 23] _)) ?_
    have hr : folL s es = es.all (folB s) := fol_yes (by omega)
    refine c_skip ?_
    refine k_then_n ?_
    refine sr ?_
    refine e_mv rfl ?_
    refine e_q (q_makeFunc rfl rfl) ?_
    refine e_fn Tryz.func36 rfl sl_ (fun ρ' hL => stC_spec es_a es_n es_c es hes_n 37 [.pointer (some ⟨b2, 0, none⟩)] (es.map fun e => !folB s e) [.pts b2 (encState1 s) 23] ρ' (hL.ro hro) ⟨_, _, Tryz.func37, rfl, rfl⟩ (by rw [List.length_map]; exact hes_n) (fun i hi ρ'' hl => by rw [show (es.map fun e => !folB s e).getD i false = !folB s (es.getD i default) from by simp [List.getD, show i < es.length by omega]]; exact spec0_bun (fol1_spec (es.getD i default) b2 s ρ''))) ?_
    rintro _ _ ⟨rfl, rfl⟩
    try simp only [List.cons_append, List.nil_append]
    rw [fol_any]
    refine e_q (q_not rfl) ?_
    refine e_as rfl ?_
    refine l_n ?_
    refine c_ret ?_
    rw [hr]
    refine Tr.ent (Ent.trans (Ent.pick (A := Bun [.pts b2 (encState1 s) 23]) pk_ (Ent.refl _)) (bun_out [.pts b2 (encState1 s) 23] _)) ?_
    simp only [List.cons_append, List.nil_append]
    exact t_rt [] rfl (.tmp rfl .nil) rfl ⟨rfl, boole (Bool.not_not _), rfl⟩ (by (repeat refine Ent.skip ?_); exact Ent.refl _)
end Go.Hrd

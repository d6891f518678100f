/-
  Several texts, put together.
-/
import Derived.Test.YtehaoafnobnneaaGreatDoorHrdJJ
import Derived.Test.YtehaoafnobnneaaGreatDoorDskR2
import Derived.Test.YtehaoafnobnneaaGreatDoorProg
/-
  A file of the reference's disk, read. No program in sight.
-/
set_option linter.unusedVariables false
set_option linter.unusedSimpArgs false
namespace Go.Hrd
open Go Go.SL Go.Mou Go.Dsk Go.Sm
def rdS (T : RT) (s : Nm) : SL UInt8 := if 0 ≤ rfi T s then (T.getD (rfi T s).toNat default).B else ⟨none, [], 0⟩
theorem rdS_hit {T : RT} {s : Nm} {k : Nat} (hk : k < T.length) (h : ((T.map (·.Name)).take k).any (fun n => decide (n = s)) = false) (e : (T.getD k default).Name = s) : rdS T s = (T.getD k default).B := by
  have h1 := rfi_hit hk h e
  unfold rdS
  rw [h1, if_pos (by omega)]; rfl
theorem rdS_miss {T : RT} {s : Nm} (h : ((T.map (·.Name)).take T.length).any (fun n => decide (n = s)) = false) : rdS T s = ⟨none, [], 0⟩ := by
  unfold rdS; rw [rfi_miss h, if_neg (by omega)]
theorem rdS_mem (T : RT) (s : Nm) : rdS T s = ⟨none, [], 0⟩ ∨ ∃ f ∈ T, rdS T s = f.B := by
  by_cases h : mhas (rvw T) s = true
  · obtain ⟨i, hi, h1, -⟩ := rfi_at h
    refine .inr ⟨T.getD i default, getD_in hi, ?_⟩
    unfold rdS; rw [h1, if_pos (by omega)]; rfl
  · refine .inl ?_
    have h1 := rfi_pos T s
    unfold rdS
    rw [if_neg]
    intro h2
    rw [decide_eq_true h2] at h1
    exact h h1.symm
theorem rdS_is {T : RT} (hT : VOk (rvw T)) (s : Nm) : (rdS T s).xs = (mgetD (rvw T) s zF).1 := by
  have hn : (T.map (·.Name)).Nodup := by rw [← rvw_keys]; exact hT.nd
  by_cases h : mhas (rvw T) s = true
  · obtain ⟨i, hi, h1, h2⟩ := rfi_at h
    have h3 := rget hn hi
    rw [h2] at h3
    rw [getD_of h3]
    unfold rdS; rw [h1, if_pos (by omega)]; rfl
  · rw [hasD (by simpa using h)]
    have h1 := rfi_pos T s
    unfold rdS
    rw [if_neg]
    · rfl
    · intro h2
      rw [decide_eq_true h2] at h1
      exact h h1.symm
theorem rdS_len {T : RT} (hT : VOk (rvw T)) (s : Nm) : (rdS T s).xs.length ≤ 1000000000000 := by
  rw [rdS_is hT]; exact Nat.le_trans (get_used _ _) hT.us
theorem rdS_ro {ρ ρ' : Hp} {Δ Δ' : List Asn} {tb : TypeId} {T : RT} (l : Lent ρ ρ' Δ) (p : Pick (RB tb T) [] Δ Δ') (s : Nm) : Ro ρ' 1 (rdS T s).a (rdS T s).xs.length (rdS T s).cap ((rdS T s).xs.flatMap encB) := by
  rcases rdS_mem T s with h | ⟨f, hf, h⟩
  · rw [h]; exact Ro.nil _ _
  · rw [h]; exact l.bun p (List.mem_map.2 ⟨f, hf, rfl⟩)
theorem cvW (w : BitVec 32) {K k : Nat} (h : K = 2 ^ k) : IntKind.wrap .u8 ((w.toNat / K : Nat) : Int) = ((UInt8.ofNat (w >>> k).toNat).toNat : Int) := by
  rw [wrap8, BitVec.toNat_ushiftRight, Nat.shiftRight_eq_div_pow, h]
theorem body3 (cnt : Nat) (s : State1) : (numF cnt ++ numF s.Term.toNat) ++ numF (s.Vote + 1).toNat = bodyB cnt s := by rw [body_eq, List.append_assoc]
def onI (V : FV) : Int := if (newF V).1 = n0 then 0 else if (newF V).1 = n1 then 1 else 2
end Go.Hrd

/-
  Walked.
-/
set_option maxRecDepth 100000
set_option maxHeartbeats 4000000
set_option linter.unusedSimpArgs false
set_option linter.unusedVariables false
namespace Go.HrdR
open Go Go.SL Go.Proofs Go.Mou Go.Dsk Go.Hrd Go.Sm
attribute [local irreducible] Go.SL.Ent
theorem fo_87_1 : fieldOff Tryz.prog 87 1 = some (1, 85) := by kernel_rfl
theorem sc_85 : isScalar Tryz.prog 85 = true := by kernel_rfl
theorem sz_89 : sizeIs Tryz.prog 89 = some 3 := by kernel_rfl
theorem fo_89_0 : fieldOff Tryz.prog 89 0 = some (0, 9) := by kernel_rfl
theorem fo_89_1 : fieldOff Tryz.prog 89 1 = some (1, 38) := by kernel_rfl
theorem sc_38 : isScalar Tryz.prog 38 = true := by kernel_rfl

theorem rread_spec (r : Nat) (room : Int) (la : Option Addr) (lc : Nat) (e : Bool) (c : Int) (T : RT) (s : (List UInt8)) (ρ : Hp) : Spec0 Tryz.prog 47 #[.pointer (some ⟨r, 0, none⟩), (strB s)] ρ [.pts r (encRDisk (⟨room, ⟨la, T.length, lc⟩, e, c⟩ : RDisk)) 87, .row 89 3 la T.length lc (T.flatMap encRFile)] (fun v Γ' => v = .slice (rdS T s).a (rdS T s).xs.length (rdS T s).cap ∧ Γ' = [.pts r (encRDisk (⟨room, ⟨la, T.length, lc⟩, e, c⟩ : RDisk)) 87, .row 89 3 la T.length lc (T.flatMap encRFile)]) := by
  refine spec_of (n := 33) (vs := [_, _]) (σ := [(0, _), (1, _)]) Tryz.func47 rfl rfl rfl rfl fun E Δ => ?_
  simp only [List.cons_append, List.nil_append]
  refine t_rd (Γ := _) (rd_row (Pick.there Pick.here)) fun hlb hlb2 hlb3 _ => ?_
  have hlb4 : T.length ≤ 9223372036854775807 := Nat.le_trans hlb2 hlb3
  refine sr ?_
  refine e_as rfl ?_
  refine l_n ?_
  refine c_seq ?_
  refine sr ?_
  refine e_as rfl ?_
  refine l_n ?_
  refine c_block ?_
  refine Tr.env (σ' := [(0, _), (1, _), (5, _)]) ev_ ?_
  refine t_loop (ι := Lp (Nat)) (fun x => x.d ≤ T.length ∧ ((T.map (·.Name)).take x.d).any (fun n => decide (n = s)) = false) (fun x => T.length - x.d) (fun x => [(0, .pointer (some ⟨r, 0, none⟩)), (1, (strB s)), (5, .int .i64 (x.d : Int))]) (fun x => .pts r (encRDisk (⟨room, ⟨la, T.length, lc⟩, e, c⟩ : RDisk)) 87 :: .row 89 3 la T.length lc (T.flatMap encRFile) :: Δ) (⟨0, none, 0, none, 0, none, 0⟩ : Lp _) ⟨Nat.zero_le _, by simp⟩ ?_ ?_ ?_
  · exact .c (.c (.c (.nil _)))
  · exact en_
  intro x hx
  obtain ⟨hx1, hx2⟩ := hx
  refine c_seq ?_
  refine sr ?_
  refine e_mv rfl ?_
  refine e_mv rfl ?_
  refine e_q (q_nilCheck rfl) ?_
  refine e_q (q_fieldp rfl fo_87_1) ?_
  refine e_q (q_loadp (v := .slice la T.length lc) sc_85 rfl pk_ rfl) ?_
  refine e_q (q_len Tryz.underlying85 rfl) ?_
  refine e_q (q_lss rfl rfl) ?_
  refine l_n ?_
  refine c_cond rfl (fun h0 => ?_) (fun h0 => ?_)
  · try simp only [decide_eq_true_eq, decide_eq_false_iff_not] at h0
    refine c_skip ?_
    refine k_then_n ?_
    refine c_seq ?_
    refine c_block ?_
    refine sr ?_
    refine e_mv rfl ?_
    refine e_q (q_nilCheck rfl) ?_
    refine e_q (q_fieldp rfl fo_87_1) ?_
    refine e_q (q_loadp (v := .slice la T.length lc) sc_85 rfl pk_ rfl) ?_
    refine e_mv rfl ?_
    refine e_q (q_indexe x.d Tryz.underlying85 sz_89 rfl rfl (rd_row pk_) (by decide) rfl (by first | assumption | omega | (simp only [List.length_cons, List.length_nil]; omega))) ?_
    refine e_q (q_fielde rfl fo_89_0) ?_
    refine e_q (q_loade (enc := encRFile) (xs := T) (j := x.d) (off := 0) sc_9 rfl (rd_row pk_) (fun _ => rfl) (by first | assumption | omega | (simp only [List.length_cons, List.length_nil]; omega)) (by decide) rfl) ?_
    refine e_mv rfl ?_
    refine e_q (q_eqlsB (p := (T.getD x.d default).Name) (q := s) rfl rfl) ?_
    refine l_n ?_
    refine c_cond rfl (fun h1 => ?_) (fun h1 => ?_)
    · try simp only [decide_eq_true_eq, decide_eq_false_iff_not] at h1
      refine sr ?_
      refine e_mv rfl ?_
      refine e_q (q_nilCheck rfl) ?_
      refine e_q (q_fieldp rfl fo_87_1) ?_
      refine e_q (q_loadp (v := .slice la T.length lc) sc_85 rfl pk_ rfl) ?_
      refine e_mv rfl ?_
      refine e_q (q_indexe x.d Tryz.underlying85 sz_89 rfl rfl (rd_row pk_) (by decide) rfl (by first | assumption | omega | (simp only [List.length_cons, List.length_nil]; omega))) ?_
      refine e_q (q_fielde rfl fo_89_1) ?_
      refine e_q (q_loade (enc := encRFile) (xs := T) (j := x.d) (off := 1) sc_38 rfl (rd_row pk_) (fun _ => rfl) (by first | assumption | omega | (simp only [List.length_cons, List.length_nil]; omega)) (by decide) rfl) ?_
      refine e_as rfl ?_
      refine l_n ?_
      refine c_ret ?_
      refine k_blk_r ?_
      refine k_then_r ?_
      refine k_then_r ?_
      refine k_blk_r ?_
      refine k_then_r ?_
      rw [rdS_hit (by omega) hx2 h1]
      exact t_rt [.pts r (encRDisk (⟨room, ⟨la, T.length, lc⟩, e, c⟩ : RDisk)) 87, .row 89 3 la T.length lc (T.flatMap encRFile)] rfl (.tmp rfl .nil) rfl ⟨rfl, rfl, rfl⟩
    · try simp only [decide_eq_true_eq, decide_eq_false_iff_not] at h1
      refine c_skip ?_
      refine k_blk_n ?_
      refine k_then_n ?_
      refine c_region ?_
      refine e_mv rfl ?_
      refine e_q (q_add rfl rfl (by omega) (by omega)) ?_
      refine e_as rfl ?_
      refine l_n ?_
      exact t_nx (⟨x.d + 1, none, 0, none, 0, none, 0⟩ : Lp _) ⟨⟨by (try simp only []); omega, rfi_next (by omega) hx2 h1⟩, by (try simp only []); omega⟩ (.c (.c (.c (.nil _))))
  · try simp only [decide_eq_true_eq, decide_eq_false_iff_not] at h0
    have hk : x.d = T.length := by omega
    rw [hk] at hx2
    refine c_exit ?_
    refine k_then_x ?_
    refine k_then_x ?_
    refine k_blk_x ?_
    refine k_then_n ?_
    refine sr ?_
    refine e_as rfl ?_
    refine l_n ?_
    refine c_ret ?_
    rw [rdS_miss hx2]
    exact t_rt [.pts r (encRDisk (⟨room, ⟨la, T.length, lc⟩, e, c⟩ : RDisk)) 87, .row 89 3 la T.length lc (T.flatMap encRFile)] rfl (.tmp rfl .nil) rfl ⟨rfl, rfl, rfl⟩
end Go.HrdR

/-
  Walked.
-/
set_option maxRecDepth 100000
set_option maxHeartbeats 4000000
set_option linter.unusedSimpArgs false
set_option linter.unusedVariables false
namespace Go.HrdR
open Go Go.SL Go.Proofs Go.Mou Go.Dsk Go.Hrd Go.Sm
attribute [local irreducible] Go.SL.Ent


theorem ron_spec (r : Nat) (room : Int) (la : Option Addr) (lc : Nat) (e : Bool) (c : Int) (T : RT) (ρ : Hp) (hT : VOk (rvw T)) : Spec0 Tryz.prog 20 #[.pointer (some ⟨r, 0, none⟩)] ρ [.pts r (encRDisk (⟨room, ⟨la, T.length, lc⟩, e, c⟩ : RDisk)) 87, .row 89 3 la T.length lc (T.flatMap encRFile), RB 5 T] (fun v Γ' => v = .tuple #[.int .i64 (onI (rvw T)), .int .u64 (((newF (rvw T)).2.1) : Int), .agg (encState1 ((newF (rvw T)).2.2)).toArray] ∧ Γ' = [.pts r (encRDisk (⟨room, ⟨la, T.length, lc⟩, e, c⟩ : RDisk)) 87, .row 89 3 la T.length lc (T.flatMap encRFile), RB 5 T]) := by
  refine spec_of (n := 35) (vs := [_]) (σ := [(0, _)]) Tryz.func20 rfl rfl rfl rfl fun E Δ => ?_
  simp only [List.cons_append, List.nil_append]
  refine sr ?_
  refine e_as rfl ?_
  refine e_as rfl ?_
  refine e_s (s_allocz (cs := encState1 zState1) (by kernel_rfl)) ?_
  rintro _ _ ⟨b4, rfl, rfl⟩
  refine l_n ?_
  refine sr ?_
  refine e_mv rfl ?_
  refine l_step (s_fnr rfl wn Tryz.func47 rfl (by kernel_rfl) rfl sl_ (fun ρ' hL => rread_spec r room la lc e c T [104, 97, 114, 100, 45, 48] ρ') ?_)
  refine l_step (s_fnq rfl wn Tryz.func46 rfl (by kernel_rfl) rfl (fun ρ' hL => (by have h9 := rslot_spec (rdS T [104, 97, 114, 100, 45, 48]).a (rdS T [104, 97, 114, 100, 45, 48]).xs.length (rdS T [104, 97, 114, 100, 45, 48]).cap (rdS T [104, 97, 114, 100, 45, 48]).xs rfl ρ' (rdS_ro hL pk_ [104, 97, 114, 100, 45, 48]) (rdS_len hT [104, 97, 114, 100, 45, 48]); rw [show slotF (rdS T [104, 97, 114, 100, 45, 48]).xs = (slotV (rvw T) [104, 97, 114, 100, 45, 48]) from by unfold slotV; rw [rdS_is hT]] at h9; exact h9)) ?_)
  refine e_mv rfl ?_
  refine e_q (q_extract rfl rfl) ?_
  refine e_q (q_extract rfl rfl) ?_
  refine e_s (s_allocz (cs := encState1 zState1) (by kernel_rfl)) ?_
  rintro _ _ ⟨b6, rfl, rfl⟩
  refine e_as rfl ?_
  refine l_step (s_s0 wn (s_storep (ws := encState1 ((slotV (rvw T) [104, 97, 114, 100, 45, 48]).2)) (cs := encState1 zState1) (cs' := encState1 ((slotV (rvw T) [104, 97, 114, 100, 45, 48]).2)) rfl rfl rfl sz_23 (oneState1 _) (by simp [encState1, encState1]) rfl pk_) ?_)
  rintro _ _ ⟨rfl, rfl⟩
  refine l_n ?_
  refine sr ?_
  refine e_mv rfl ?_
  refine l_step (s_fnr rfl wn Tryz.func47 rfl (by kernel_rfl) rfl sl_ (fun ρ' hL => rread_spec r room la lc e c T [104, 97, 114, 100, 45, 49] ρ') ?_)
  refine l_step (s_fnq rfl wn Tryz.func46 rfl (by kernel_rfl) rfl (fun ρ' hL => (by have h9 := rslot_spec (rdS T [104, 97, 114, 100, 45, 49]).a (rdS T [104, 97, 114, 100, 45, 49]).xs.length (rdS T [104, 97, 114, 100, 45, 49]).cap (rdS T [104, 97, 114, 100, 45, 49]).xs rfl ρ' (rdS_ro hL pk_ [104, 97, 114, 100, 45, 49]) (rdS_len hT [104, 97, 114, 100, 45, 49]); rw [show slotF (rdS T [104, 97, 114, 100, 45, 49]).xs = (slotV (rvw T) [104, 97, 114, 100, 45, 49]) from by unfold slotV; rw [rdS_is hT]] at h9; exact h9)) ?_)
  refine e_mv rfl ?_
  refine e_q (q_extract rfl rfl) ?_
  refine e_q (q_extract rfl rfl) ?_
  refine e_s (s_allocz (cs := encState1 zState1) (by kernel_rfl)) ?_
  rintro _ _ ⟨b8, rfl, rfl⟩
  refine e_as rfl ?_
  refine l_step (s_s0 wn (s_storep (ws := encState1 ((slotV (rvw T) [104, 97, 114, 100, 45, 49]).2)) (cs := encState1 zState1) (cs' := encState1 ((slotV (rvw T) [104, 97, 114, 100, 45, 49]).2)) rfl rfl rfl sz_23 (oneState1 _) (by simp [encState1, encState1]) rfl pk_) ?_)
  rintro _ _ ⟨rfl, rfl⟩
  refine l_n ?_
  refine c_seq ?_
  refine sr ?_
  refine e_mv rfl ?_
  refine e_q (q_eql rfl rfl) ?_
  refine e_mv rfl ?_
  refine l_step (s_qg rfl (ask_t rfl rfl) (b := (decide (((slotV (rvw T) [104, 97, 114, 100, 45, 48]).1 : Int) = 0))) (fun hb => q_move rfl) ?_)
  refine l_step (s_qg rfl (ask_t rfl rfl) (b := (decide (((slotV (rvw T) [104, 97, 114, 100, 45, 48]).1 : Int) = 0))) (fun hb => OpQ.env (.cons rfl (gd_t hb) (.nil _) : EnvLe [(24, .int .u64 ((slotV (rvw T) [104, 97, 114, 100, 45, 49]).1 : Int))] _) (q_eql rfl rfl)) ?_)
  refine e_q (q_pick_and rfl rfl rfl (fun h => h)) ?_
  refine l_n ?_
  refine c_cond rfl (fun h0 => ?_) (fun h0 => ?_)
  · try simp only [decide_eq_true_eq, decide_eq_false_iff_not, Bool.and_eq_true, Bool.and_eq_false_iff] at h0
    refine sr ?_
    refine e_q (q_build (cs := encState1 (⟨0, (-1)⟩ : State1)) zc_23 pl_23 rfl rfl) ?_
    refine e_as rfl ?_
    refine e_as rfl ?_
    refine l_step (s_s0 wn (s_storep (ws := encState1 (⟨0, (-1)⟩ : State1)) (cs := encState1 zState1) (cs' := encState1 (⟨0, (-1)⟩ : State1)) rfl rfl rfl sz_23 (oneState1 _) (by simp [encState1, encState1]) rfl pk_) ?_)
    rintro _ _ ⟨rfl, rfl⟩
    refine l_n ?_
    refine c_ret ?_
    refine k_then_r ?_
    have hn := new_none (V := rvw T) (show (slotV (rvw T) [104, 97, 114, 100, 45, 48]).1 = 0 by omega) (show (slotV (rvw T) [104, 97, 114, 100, 45, 49]).1 = 0 by omega)
    have ho : onI (rvw T) = 2 := by unfold onI; rw [hn]; rfl
    rw [ho, hn]
    exact t_rt [.pts r (encRDisk (⟨room, ⟨la, T.length, lc⟩, e, c⟩ : RDisk)) 87, .row 89 3 la T.length lc (T.flatMap encRFile), RB 5 T] rfl (.tmp rfl (.tmp rfl (.cell rfl pk_ (fun w h => ld_agg (by exact ag_23) h) .nil))) rfl ⟨rfl, rfl, rfl⟩
  · try simp only [decide_eq_true_eq, decide_eq_false_iff_not, Bool.and_eq_true, Bool.and_eq_false_iff] at h0
    refine c_skip ?_
    refine k_then_n ?_
    refine c_seq ?_
    refine sr ?_
    refine e_mv rfl ?_
    refine e_mv rfl ?_
    refine e_q (q_gtr rfl rfl) ?_
    refine l_n ?_
    refine c_cond rfl (fun h1 => ?_) (fun h1 => ?_)
    · try simp only [decide_eq_true_eq, decide_eq_false_iff_not] at h1
      refine c_seq ?_
      refine d_r 5 [.pts b8 (encState1 ((slotV (rvw T) [104, 97, 114, 100, 45, 49]).2)) 23, .pts b6 (encState1 ((slotV (rvw T) [104, 97, 114, 100, 45, 48]).2)) 23, .pts r (encRDisk (⟨room, ⟨la, T.length, lc⟩, e, c⟩ : RDisk)) 87, .row 89 3 la T.length lc (T.flatMap encRFile), RB 5 T] ?_
      refine d_t 0 rfl wn (q_move rfl) ?_
      refine d_t 1 rfl wn (q_loadpa (vs := encState1 ((slotV (rvw T) [104, 97, 114, 100, 45, 49]).2)) ag_23 rfl pk_ rfl) ?_
      refine d_t 2 rfl wn (q_assign rfl) ?_
      refine d_t 3 rfl wn (q_assign rfl) ?_
      refine d_1 4 ?_
      refine o_step rfl (s_s0 wn (s_storep (ws := encState1 ((slotV (rvw T) [104, 97, 114, 100, 45, 49]).2)) (cs := encState1 zState1) (cs' := encState1 ((slotV (rvw T) [104, 97, 114, 100, 45, 49]).2)) rfl rfl rfl sz_23 (oneState1 _) (by simp [encState1, encState1]) rfl pk_) ?_)
      rintro _ _ ⟨rfl, rfl⟩
      refine d_c ?_
      refine d_d ?_
      refine k_then_n ?_
      refine c_ret ?_
      refine k_then_r ?_
      have hn := new_one (V := rvw T) (fun h9 => by have h8 : (slotV (rvw T) [104, 97, 114, 100, 45, 48]).1 = 0 := h9.1; have h7 : (slotV (rvw T) [104, 97, 114, 100, 45, 49]).1 = 0 := h9.2; omega) (show (slotV (rvw T) [104, 97, 114, 100, 45, 48]).1 < (slotV (rvw T) [104, 97, 114, 100, 45, 49]).1 by omega)
      have ho : onI (rvw T) = 1 := by unfold onI; rw [hn]; rfl
      rw [ho, hn]
      exact t_rt [.pts r (encRDisk (⟨room, ⟨la, T.length, lc⟩, e, c⟩ : RDisk)) 87, .row 89 3 la T.length lc (T.flatMap encRFile), RB 5 T] rfl (.tmp rfl (.tmp rfl (.cell rfl pk_ (fun w h => ld_agg (by exact ag_23) h) .nil))) rfl ⟨rfl, rfl, rfl⟩
    · try simp only [decide_eq_true_eq, decide_eq_false_iff_not] at h1
      refine c_skip ?_
      refine k_then_n ?_
      refine c_seq ?_
      refine d_r 5 [.pts b8 (encState1 ((slotV (rvw T) [104, 97, 114, 100, 45, 49]).2)) 23, .pts b6 (encState1 ((slotV (rvw T) [104, 97, 114, 100, 45, 48]).2)) 23, .pts r (encRDisk (⟨room, ⟨la, T.length, lc⟩, e, c⟩ : RDisk)) 87, .row 89 3 la T.length lc (T.flatMap encRFile), RB 5 T] ?_
      refine d_t 0 rfl wn (q_move rfl) ?_
      refine d_t 1 rfl wn (q_loadpa (vs := encState1 ((slotV (rvw T) [104, 97, 114, 100, 45, 48]).2)) ag_23 rfl pk_ rfl) ?_
      refine d_t 2 rfl wn (q_assign rfl) ?_
      refine d_t 3 rfl wn (q_assign rfl) ?_
      refine d_1 4 ?_
      refine o_step rfl (s_s0 wn (s_storep (ws := encState1 ((slotV (rvw T) [104, 97, 114, 100, 45, 48]).2)) (cs := encState1 zState1) (cs' := encState1 ((slotV (rvw T) [104, 97, 114, 100, 45, 48]).2)) rfl rfl rfl sz_23 (oneState1 _) (by simp [encState1, encState1]) rfl pk_) ?_)
      rintro _ _ ⟨rfl, rfl⟩
      refine d_c ?_
      refine d_d ?_
      refine k_then_n ?_
      refine c_ret ?_
      have hn := new_zero (V := rvw T) (fun h9 => by have h8 : (slotV (rvw T) [104, 97, 114, 100, 45, 48]).1 = 0 := h9.1; have h7 : (slotV (rvw T) [104, 97, 114, 100, 45, 49]).1 = 0 := h9.2; omega) (show ¬ (slotV (rvw T) [104, 97, 114, 100, 45, 48]).1 < (slotV (rvw T) [104, 97, 114, 100, 45, 49]).1 by omega)
      have ho : onI (rvw T) = 0 := by unfold onI; rw [hn]; rfl
      rw [ho, hn]
      exact t_rt [.pts r (encRDisk (⟨room, ⟨la, T.length, lc⟩, e, c⟩ : RDisk)) 87, .row 89 3 la T.length lc (T.flatMap encRFile), RB 5 T] rfl (.tmp rfl (.tmp rfl (.cell rfl pk_ (fun w h => ld_agg (by exact ag_23) h) .nil))) rfl ⟨rfl, rfl, rfl⟩
end Go.HrdR

/-
  Walked.
-/
set_option maxRecDepth 100000
set_option maxHeartbeats 4000000
set_option linter.unusedSimpArgs false
set_option linter.unusedVariables false
namespace Go.HrdR
open Go Go.SL Go.Proofs Go.Mou Go.Dsk Go.Hrd Go.Sm
attribute [local irreducible] Go.SL.Ent
theorem fo_23_0 : fieldOff Tryz.prog 23 0 = some (0, 3) := by kernel_rfl
theorem sc_3 : isScalar Tryz.prog 3 = true := by kernel_rfl
theorem fo_23_1 : fieldOff Tryz.prog 23 1 = some (1, 3) := by kernel_rfl

theorem rbytes_spec (cnt : Nat) (s : State1) (ρ : Hp) (h1 : cnt < 18446744073709551616) (h2 : 0 ≤ s.Term) (h3 : s.Term < 4611686018427387904) (h4 : -1 ≤ s.Vote) (h5 : s.Vote < 4611686018427387904) : Spec0 Tryz.prog 38 #[.int .u64 (cnt : Int), .agg (encState1 s).toArray] ρ [] (fun v Γ' => ∃ a c, v = .slice a (slotB cnt s).length c ∧ Γ' = [.row 5 1 a (slotB cnt s).length c ((slotB cnt s).flatMap encB)]) := by
  refine spec_of (n := 40) (vs := [_, _]) (σ := [(0, _), (1, _)]) Tryz.func38 rfl rfl rfl rfl fun E Δ => ?_
  rw [List.nil_append]
  have hn1 := numF_le h1
  have hn2 := numF_le (n := s.Term.toNat) (by omega)
  have hn3 := numF_le (n := (s.Vote + 1).toNat) (by omega)
  have hbl := body_len (cnt := cnt) (s := s) h1 h3 h5
  refine sr ?_
  refine e_s (s_box (cs := encState1 s) rfl rfl) ?_
  rintro _ _ ⟨b3, rfl, rfl⟩
  refine e_as rfl ?_
  refine l_n ?_
  refine sr ?_
  refine e_as rfl ?_
  refine l_n ?_
  refine sr ?_
  refine e_mv rfl ?_
  refine e_mv rfl ?_
  refine e_fn Tryz.func67 rfl sl_ (fun ρ' hL => rnumber_spec cnt ρ' (by omega)) ?_
  rintro _ _ ⟨aN1, cN1, rfl, rfl⟩
  try simp only [List.cons_append, List.nil_append]
  refine Tr.ent (Ent.nilrow 5 1 _) ?_
  refine e_s (s_appendn (enc := encB) (xs := ([] : List UInt8)) (ys := ((numF cnt) : List UInt8)) (Γ' := fun a' cap' => _) Tryz.underlying38 eo_5 (by decide) rfl rfl (rd_row pk_) (oneB _) (by first | omega | (simp only [List.length_append, List.length_cons, List.length_nil] at *; omega)) (by first | omega | (simp only [List.length_append, List.length_cons, List.length_nil] at *; omega)) (fun _ _ => pk_)) ?_
  rintro _ _ ⟨a10, c10, rfl, rfl⟩
  simp only [Nat.zero_add, List.nil_append]
  refine e_as rfl ?_
  refine l_n ?_
  refine sr ?_
  refine e_mv rfl ?_
  refine e_q (q_fieldp rfl fo_23_0) ?_
  refine e_q (q_loadp (v := .int .i64 s.Term) sc_3 rfl pk_ rfl) ?_
  refine e_q (q_as (v := .int .u64 ((s.Term.toNat : Nat) : Int)) (q_conv rfl Tryz.underlying3 Tryz.underlying46 (wrap_u64 (by omega) (by omega))) (inte (by omega))) ?_
  refine e_fn Tryz.func67 rfl sl_ (fun ρ' hL => rnumber_spec s.Term.toNat ρ' (by omega)) ?_
  rintro _ _ ⟨aN2, cN2, rfl, rfl⟩
  try simp only [List.cons_append, List.nil_append]
  refine e_s (s_appendn (enc := encB) (xs := ((numF cnt) : List UInt8)) (ys := ((numF s.Term.toNat) : List UInt8)) (Γ' := fun a' cap' => _) Tryz.underlying38 eo_5 (by decide) rfl rfl (rd_row pk_) (oneB _) (by first | omega | (simp only [List.length_append, List.length_cons, List.length_nil] at *; omega)) (by first | omega | (simp only [List.length_append, List.length_cons, List.length_nil] at *; omega)) (fun _ _ => pk_)) ?_
  rintro _ _ ⟨a16, c16, rfl, rfl⟩
  refine e_as rfl ?_
  refine l_n ?_
  refine sr ?_
  refine e_mv rfl ?_
  refine e_q (q_fieldp rfl fo_23_1) ?_
  refine e_q (q_loadp (v := .int .i64 s.Vote) sc_3 rfl pk_ rfl) ?_
  refine e_q (q_add rfl rfl (by omega) (by omega)) ?_
  refine e_q (q_as (v := .int .u64 (((s.Vote + 1).toNat : Nat) : Int)) (q_conv rfl Tryz.underlying3 Tryz.underlying46 (wrap_u64 (by omega) (by omega))) (inte (by omega))) ?_
  refine e_fn Tryz.func67 rfl sl_ (fun ρ' hL => rnumber_spec (s.Vote + 1).toNat ρ' (by omega)) ?_
  rintro _ _ ⟨aN3, cN3, rfl, rfl⟩
  try simp only [List.cons_append, List.nil_append]
  refine e_s (s_appendn (enc := encB) (xs := (((numF cnt) ++ (numF s.Term.toNat)) : List UInt8)) (ys := ((numF (s.Vote + 1).toNat) : List UInt8)) (Γ' := fun a' cap' => _) Tryz.underlying38 eo_5 (by decide) rfl rfl (rd_row pk_) (oneB _) (by first | omega | (simp only [List.length_append, List.length_cons, List.length_nil] at *; omega)) (by first | omega | (simp only [List.length_append, List.length_cons, List.length_nil] at *; omega)) (fun _ _ => pk_)) ?_
  rintro _ _ ⟨a23, c23, rfl, rfl⟩
  refine e_as rfl ?_
  refine l_n ?_
  refine sr ?_
  rw [show (numF cnt).length + (numF s.Term.toNat).length + (numF (s.Vote + 1).toNat).length = (bodyB cnt s).length from by rw [← body3]; simp only [List.length_append]]
  rw [body3]
  refine e_mv rfl ?_
  refine e_fn Tryz.func68 rfl sl_ (fun ρ' hL => rof_spec a23 ((bodyB cnt s).length) c23 (bodyB cnt s) rfl ρ' (hL.row pk_)) ?_
  rintro _ _ ⟨rfl, rfl⟩
  try simp only [List.cons_append, List.nil_append]
  refine e_as rfl ?_
  refine l_n ?_
  refine sr ?_
  refine e_mv rfl ?_
  refine e_q (q_as (v := .int .u32 (((sumB (bodyB cnt s)).toNat / 16777216 : Nat) : Int)) (q_quo rfl rfl (by decide)) (congrArg (Value.int .u32) (quo32 (sumB (bodyB cnt s)).isLt))) ?_
  refine e_q (q_as (v := .int .u8 ((UInt8.ofNat ((sumB (bodyB cnt s)) >>> 24).toNat).toNat : Int)) (q_convw rfl Tryz.underlying98 Tryz.underlying5) (congrArg (Value.int .u8) (cvW (sumB (bodyB cnt s)) (by decide)))) ?_
  refine e_mv rfl ?_
  refine e_q (q_as (v := .int .u32 (((sumB (bodyB cnt s)).toNat / 65536 : Nat) : Int)) (q_quo rfl rfl (by decide)) (congrArg (Value.int .u32) (quo32 (sumB (bodyB cnt s)).isLt))) ?_
  refine e_q (q_as (v := .int .u8 ((UInt8.ofNat ((sumB (bodyB cnt s)) >>> 16).toNat).toNat : Int)) (q_convw rfl Tryz.underlying98 Tryz.underlying5) (congrArg (Value.int .u8) (cvW (sumB (bodyB cnt s)) (by decide)))) ?_
  refine e_mv rfl ?_
  refine e_q (q_as (v := .int .u32 (((sumB (bodyB cnt s)).toNat / 256 : Nat) : Int)) (q_quo rfl rfl (by decide)) (congrArg (Value.int .u32) (quo32 (sumB (bodyB cnt s)).isLt))) ?_
  refine e_q (q_as (v := .int .u8 ((UInt8.ofNat ((sumB (bodyB cnt s)) >>> 8).toNat).toNat : Int)) (q_convw rfl Tryz.underlying98 Tryz.underlying5) (congrArg (Value.int .u8) (cvW (sumB (bodyB cnt s)) (by decide)))) ?_
  refine e_mv rfl ?_
  refine e_q (q_as (v := .int .u8 ((UInt8.ofNat (sumB (bodyB cnt s)).toNat).toNat : Int)) (q_convw rfl Tryz.underlying98 Tryz.underlying5) (congrArg (Value.int .u8) (wrap8 _))) ?_
  refine e_s (s_buildSlice (cs := ([(UInt8.ofNat ((sumB (bodyB cnt s)) >>> 24).toNat), (UInt8.ofNat ((sumB (bodyB cnt s)) >>> 16).toNat), (UInt8.ofNat ((sumB (bodyB cnt s)) >>> 8).toNat), (UInt8.ofNat (sumB (bodyB cnt s)).toNat)] : List UInt8).flatMap encB) Tryz.underlying38 eo_5 rfl rfl rfl rfl (by decide) (by decide)) ?_
  rintro _ _ ⟨b37, rfl, rfl⟩
  refine e_mv rfl ?_
  refine e_s (s_appendn (enc := encB) (xs := ([(UInt8.ofNat ((sumB (bodyB cnt s)) >>> 24).toNat), (UInt8.ofNat ((sumB (bodyB cnt s)) >>> 16).toNat), (UInt8.ofNat ((sumB (bodyB cnt s)) >>> 8).toNat), (UInt8.ofNat (sumB (bodyB cnt s)).toNat)] : List UInt8)) (ys := ((bodyB cnt s) : List UInt8)) (Γ' := fun a' cap' => _) Tryz.underlying38 eo_5 (by decide) rfl rfl (rd_row pk_) (oneB _) (by first | omega | (simp only [List.length_append, List.length_cons, List.length_nil] at *; omega)) (by first | omega | (simp only [List.length_append, List.length_cons, List.length_nil] at *; omega)) (fun _ _ => pk_)) ?_
  rintro _ _ ⟨a39, c39, rfl, rfl⟩
  refine e_as rfl ?_
  refine l_n ?_
  refine c_ret ?_
  have hsb : ([UInt8.ofNat ((sumB (bodyB cnt s)) >>> 24).toNat, UInt8.ofNat ((sumB (bodyB cnt s)) >>> 16).toNat, UInt8.ofNat ((sumB (bodyB cnt s)) >>> 8).toNat, UInt8.ofNat (sumB (bodyB cnt s)).toNat] : List UInt8) ++ (bodyB cnt s) = slotB cnt s := rfl
  have hln : 4 + (bodyB cnt s).length = (slotB cnt s).length := by rw [← hsb, List.length_append]; rfl
  rw [hsb, hln]
  exact t_rt [.row 5 1 a39 (slotB cnt s).length c39 ((slotB cnt s).flatMap encB)] rfl (.tmp rfl .nil) rfl ⟨rfl, a39, c39, rfl, rfl⟩
end Go.HrdR

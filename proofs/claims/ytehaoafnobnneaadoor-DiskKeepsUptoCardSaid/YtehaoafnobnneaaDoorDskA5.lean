/-
  Package disk, walked.
-/
import Derived.Test.YtehaoafnobnneaaDoorDskKp
import Derived.Test.YtehaoafnobnneaaDoorDskAA
import Derived.Test.YtehaoafnobnneaaDoorSlSq
import Derived.Test.YtehaoafnobnneaaDoorDskL
import Derived.Test.YtehaoafnobnneaaDoorProg
set_option maxRecDepth 100000
set_option maxHeartbeats 4000000
set_option linter.unusedSimpArgs false
set_option linter.unusedVariables false
namespace Go.Dsk.A5
open Go Go.SL Go.Proofs Go.Dsk Go.Dsk.L Go.Dsk.X Go.Dsk.RA Go.Dsk.RB Go.Dsk.RC Go.Dsk.RD Go.Dsk.RE Go.Dsk.RF Go.Dsk.A1 Go.Dsk.A2 Go.Dsk.A3
attribute [local irreducible] Go.SL.Ent
theorem ag_53 : aggSize Tryd.prog 53 = some 5 := by kernel_rfl
theorem eo_3 : elemOk Tryd.prog 3 1 8 = true := by kernel_rfl
theorem eo_32 : elemOk Tryd.prog 32 1 24 = true := by kernel_rfl
theorem pl_49 : placesOf Tryd.prog 49 = some [(0, 1), (1, 1), (2, 1), (3, 1)] := by kernel_rfl
theorem sc_3 : isScalar Tryd.prog 3 = true := by kernel_rfl
theorem sc_32 : isScalar Tryd.prog 32 = true := by kernel_rfl
theorem sc_9 : isScalar Tryd.prog 9 = true := by kernel_rfl
theorem sz_3 : sizeIs Tryd.prog 3 = some 1 := by kernel_rfl
theorem sz_32 : sizeIs Tryd.prog 32 = some 1 := by kernel_rfl
theorem sz_5 : sizeIs Tryd.prog 5 = some 1 := by kernel_rfl
theorem sz_53 : sizeIs Tryd.prog 53 = some 5 := by kernel_rfl
theorem sz_9 : sizeIs Tryd.prog 9 = some 1 := by kernel_rfl
theorem zc_49 : zeroCs Tryd.prog 49 = some [.int .i64 0, .slice none 0 0, .bool false, .int .i64 0] := by kernel_rfl

theorem keeps_spec (room : Int) (acts_a : Option Addr) (acts_n acts_c : Nat) (acts : List DAct) (hacts_n : acts.length = acts_n) (keep_a : Option Addr) (keep_n keep_c : Nat) (keep : List Int) (hkeep_n : keep.length = keep_n) (ρ : Hp) (hr : room ≤ 9223372036854775807) (hro : Ro ρ 5 acts_a acts_n acts_c (acts.flatMap encDAct)) (hA : ∀ a ∈ acts, DActM a ρ ∧ actSize a ≤ 4611686018427387904 ∧ a.N ≤ 9223372036854775807) (hrk : Ro ρ 1 keep_a keep_n keep_c (keep.flatMap encI)) : Spec0 Tryd.prog 8 #[.int .i64 room, .slice acts_a acts_n acts_c, .slice keep_a keep_n keep_c] ρ [] (fun v Γ' => v = .bool true ∧ Γ' = []) := by
  refine spec_of (n := 187) (vs := [_, _, _]) (σ := [(0, _), (1, _), (2, _)]) Tryd.func8 rfl rfl rfl rfl fun E Δ => ?_
  rw [List.nil_append]
  refine sr ?_
  refine e_as rfl ?_
  refine l_n ?_
  refine c_seq ?_
  refine sr ?_
  refine l_step (s_fnq rfl wn Tryd.func9 rfl (by kernel_rfl) rfl (fun ρ' hL => Go.Dsk.B.awake_spec ρ') ?_)
  refine e_q (q_not rfl) ?_
  refine e_mv rfl ?_
  refine e_qw (wy rfl rfl rfl) (q_move rfl) ?_
  refine e_qw (wy rfl rfl rfl) (q_len Tryd.underlying45 rfl) ?_
  refine e_qw (wy rfl rfl rfl) (q_gtr rfl rfl) ?_
  refine e_q (q_pick rfl rfl rfl) ?_
  refine e_mv rfl ?_
  refine l_step (s_qg rfl (ask_f rfl rfl) (b := (!(decide (60 < (acts_n : Int))))) (fun hb => q_move rfl) ?_)
  refine l_step (s_qg rfl (ask_f rfl rfl) (b := (!(decide (60 < (acts_n : Int))))) (fun hb => OpQ.env (.cons rfl (gd_t hb) (.nil _) : EnvLe [(31, .int .i64 room)] _) (q_lss rfl rfl)) ?_)
  refine e_q (q_pick_or rfl rfl rfl (fun h => by first | (rw [h]; rfl) | exact congrArg not h)) ?_
  refine l_n ?_
  refine c_cond rfl (fun h0 => ?_) (fun h0 => ?_)
  · try simp only [decide_eq_true_eq, decide_eq_false_iff_not, Bool.or_eq_true, Bool.or_eq_false_iff] at h0
    refine sr ?_
    refine l_step (s_fnq rfl wn Tryd.func9 rfl (by kernel_rfl) rfl (fun ρ' hL => Go.Dsk.B.awake_spec ρ') ?_)
    refine e_as rfl ?_
    refine l_n ?_
    refine c_ret ?_
    refine k_then_r ?_
    exact t_rt [] rfl (.tmp rfl .nil) rfl ⟨rfl, boole (by rfl), rfl⟩ (by (repeat refine Ent.skip ?_); exact Ent.refl _)
  · try simp only [decide_eq_true_eq, decide_eq_false_iff_not, Bool.or_eq_true, Bool.or_eq_false_iff] at h0
    refine c_skip ?_
    refine k_then_n ?_
    refine sr ?_
    refine e_mv rfl ?_
    refine e_fn Tryd.func12 rfl sl_ (fun ρ' hL => X.new_spec room ρ') ?_
    rintro _ _ hnewbD
    obtain ⟨bD, mbbD, rfl, rfl⟩ := or_yes hnewbD (by omega)
    try simp only [List.cons_append, List.nil_append]
    refine e_mv rfl ?_
    refine e_q (q_extract rfl rfl) ?_
    refine e_q (q_extract rfl rfl) ?_
    refine e_as rfl ?_
    refine e_as rfl ?_
    refine l_n ?_
    refine c_seq ?_
    refine sr ?_
    refine e_mv rfl ?_
    refine e_q (by first | exact q_eqlp rfl rfl Tryd.underlying27 | exact q_eqlp0 rfl rfl Tryd.underlying27) ?_
    refine e_mv rfl ?_
    refine e_qw (wy rfl rfl rfl) (q_move rfl) ?_
    refine e_qw (wy rfl rfl rfl) (q_neq rfl rfl) ?_
    refine e_q (q_pick rfl rfl rfl) ?_
    refine l_n ?_
    refine c_sure false rfl (by rfl) ?_
    simp only [Bool.false_eq_true, if_true, if_false]
    refine c_skip ?_
    refine k_then_n ?_
    refine sr ?_
    refine e_mv rfl ?_
    refine e_q (q_build (cs := encRDisk (⟨room, ⟨none, 0, 0⟩, false, 0⟩ : RDisk)) zc_49 pl_49 rfl rfl) ?_
    refine e_s (s_box (cs := encRDisk (⟨room, ⟨none, 0, 0⟩, false, 0⟩ : RDisk)) rfl rfl) ?_
    rintro _ _ ⟨b48, rfl, rfl⟩
    refine e_as rfl ?_
    refine l_n ?_
    refine c_seq ?_
    refine sr ?_
    refine Tr.ent (Ent.nilrow 82 3 _) ?_
    refine Tr.ent (bun_nil _) ?_
    refine e_as rfl ?_
    refine l_n ?_
    refine c_block ?_
    refine Tr.env (σ' := [(1, _), (2, _), (7, _), (9, _), (10, _)]) ev_ ?_
    refine t_loop (ι := Lp (Nat × FT × RT × Int × Option Addr × Nat × Bool × Int)) (fun x => x.d.1 ≤ acts_n ∧ Alike room x.d.2.2.2.1 x.d.2.2.2.2.2.2.1 x.d.2.2.2.2.2.2.2 (vw x.d.2.1) (rvw x.d.2.2.1) (2000 * x.d.1)) (fun x => acts_n - x.d.1) (fun x => [(1, .slice acts_a acts_n acts_c), (2, .slice keep_a keep_n keep_c), (7, .pointer (some ⟨bD, 0, none⟩)), (9, .pointer (some ⟨b48, 0, none⟩)), (10, .int .i64 (x.d.1 : Int))]) (fun x => RB 5 x.d.2.2.1 :: .row 82 3 x.d.2.2.2.2.1 x.d.2.2.1.length x.d.2.2.2.2.2.1 (x.d.2.2.1.flatMap encRFile) :: .pts b48 (encRDisk (⟨room, ⟨x.d.2.2.2.2.1, x.d.2.2.1.length, x.d.2.2.2.2.2.1⟩, x.d.2.2.2.2.2.2.1, x.d.2.2.2.2.2.2.2⟩ : RDisk)) 49 :: .pts bD (encDisk1 (⟨room, (some mbbD), x.d.2.2.2.1⟩ : Disk1)) 62 :: MP strB ptV mbbD (fm x.d.2.1) :: FB 66 5 x.d.2.1 :: Δ) (⟨(0, [], [], -1, none, 0, false, 0), none, 0, none, 0, none, 0⟩ : Lp _) ⟨Nat.zero_le _, ⟨sim_nil, rfl, (fun h => by cases h), by decide, ⟨vok_nil, by decide, by decide⟩, (show ((0 : Nat) : Int) ≤ room from by omega)⟩⟩ ?_ ?_ ?_
    · exact .c (.c (.c (.c (.c (.nil _)))))
    · exact en_
    intro x hx
    obtain ⟨hx1, hx2⟩ := hx
    refine c_seq ?_
    refine sr ?_
    refine e_mv rfl ?_
    refine e_mv rfl ?_
    refine e_q (q_len Tryd.underlying45 rfl) ?_
    refine e_q (q_lss rfl rfl) ?_
    refine l_n ?_
    refine c_cond rfl (fun h2 => ?_) (fun h2 => ?_)
    · try simp only [decide_eq_true_eq, decide_eq_false_iff_not] at h2
      refine c_skip ?_
      refine k_then_n ?_
      refine c_seq ?_
      refine c_block ?_
      refine c_seq ?_
      refine sr ?_
      obtain ⟨hAk, hAs, hN9⟩ := hA (acts.getD x.d.1 default) (getD_in (by omega))
      have hsz0 : actSize (acts.getD x.d.1 default) = (acts.getD x.d.1 default).Keep.xs.length + 1 + sumN (acts.getD x.d.1 default).Names.xs + sumB_ (acts.getD x.d.1 default).Bs.xs := rfl
      have hsb9 := sumB_len (acts.getD x.d.1 default).Bs.xs
      refine e_mv rfl ?_
      refine e_mv rfl ?_
      refine e_q (q_indexe x.d.1 Tryd.underlying45 sz_53 rfl rfl (by first | assumption | exact rd_ro (by assumption) | exact rd_row pk_) (by decide) rfl (by first | assumption | omega | (simp only [List.length_cons, List.length_nil]; omega))) ?_
      refine e_q (q_loadea (vs := encDAct (acts.getD x.d.1 default)) (enc := encDAct) (xs := acts) (j := x.d.1) (off := 0) ag_53 rfl (by first | assumption | exact rd_ro (by assumption) | exact rd_row pk_) (fun _ => rfl) (by first | assumption | omega | (simp only [List.length_cons, List.length_nil]; omega)) (by simp [encDAct]) (by simp [encDAct]) rfl) ?_
      refine l_step (s_fnq rfl wn Tryd.func24 rfl (by kernel_rfl) rfl (fun ρ' hL => Go.Dsk.A1.asize_spec (acts.getD x.d.1 default) ρ' (hAk.mono hL.1) (by omega)) ?_)
      refine e_q (q_gtr rfl rfl) ?_
      refine l_n ?_
      refine c_cond rfl (fun h3 => ?_) (fun h3 => ?_)
      · try simp only [decide_eq_true_eq, decide_eq_false_iff_not] at h3
        refine sr ?_
        refine e_as rfl ?_
        refine l_n ?_
        refine c_ret ?_
        refine k_then_r ?_
        refine k_blk_r ?_
        refine k_then_r ?_
        refine k_then_r ?_
        refine k_blk_r ?_
        refine k_then_r ?_
        exact t_rt [] rfl (.tmp rfl .nil) rfl ⟨rfl, boole (by rfl), rfl⟩ (by (repeat refine Ent.skip ?_); exact Ent.refl _)
      · try simp only [decide_eq_true_eq, decide_eq_false_iff_not] at h3
        have hs2k : actSize (acts.getD x.d.1 default) ≤ 2000 := by omega
        refine c_skip ?_
        refine k_then_n ?_
        refine c_region ?_
        have hlm := hx2.lim.us
        refine e_mv rfl ?_
        refine e_mv rfl ?_
        refine e_q (q_indexe x.d.1 Tryd.underlying45 sz_53 rfl rfl (by first | assumption | exact rd_ro (by assumption) | exact rd_row pk_) (by decide) rfl (by first | assumption | omega | (simp only [List.length_cons, List.length_nil]; omega))) ?_
        refine e_q (q_loadea (vs := encDAct (acts.getD x.d.1 default)) (enc := encDAct) (xs := acts) (j := x.d.1) (off := 0) ag_53 rfl (by first | assumption | exact rd_ro (by assumption) | exact rd_row pk_) (fun _ => rfl) (by first | assumption | omega | (simp only [List.length_cons, List.length_nil]; omega)) (by simp [encDAct]) (by simp [encDAct]) rfl) ?_
        refine e_mv rfl ?_
        refine e_mv rfl ?_
        refine e_fn Tryd.func25 rfl sl_ (fun ρ' hL => Go.Dsk.A2.ado_spec (acts.getD x.d.1 default) bD room mbbD x.d.2.2.2.1 x.d.2.1 b48 room x.d.2.2.2.2.1 x.d.2.2.2.2.2.1 x.d.2.2.2.2.2.2.1 x.d.2.2.2.2.2.2.2 x.d.2.2.1 ρ' (hAk.mono hL.1) (by omega) (fok.2 hx2.lim.ok) (hx2.sim.vok hx2.lim.ok) (by rw [← used_vw]; exact hx2.us) hr (cl_b hx2.cl hx2.cb) hx2.ce hx2.cb (by rw [← usedR_vw, ← hx2.sim.used]; exact hx2.us) hr (by rw [← used_vw]; omega) (by rw [← usedR_vw, ← hx2.sim.used]; omega)) ?_
        rintro _ _ ⟨T1, R1, a1, c1, rfl, hv, hw, rfl⟩
        try simp only [List.cons_append, List.nil_append]
        have hal := act_alike hx2 (acts.getD x.d.1 default) hN9 (by omega)
        rw [show (decide ((actP room x.d.2.2.2.1 (vw x.d.2.1) (acts.getD x.d.1 default)).1 = (actR room x.d.2.2.2.2.2.2.1 x.d.2.2.2.2.2.2.2 (rvw x.d.2.2.1) (acts.getD x.d.1 default)).1)) = true from decide_eq_true hal.1]
        refine l_nil ?_
        refine k_blk_n ?_
        refine k_then_n ?_
        refine c_region ?_
        refine e_mv rfl ?_
        refine e_q (q_add rfl rfl (by omega) (by omega)) ?_
        refine e_as rfl ?_
        refine l_n ?_
        exact t_nx (⟨(x.d.1 + 1, T1, R1, (actP room x.d.2.2.2.1 (vw x.d.2.1) (acts.getD x.d.1 default)).2.2, a1, c1, (actR room x.d.2.2.2.2.2.2.1 x.d.2.2.2.2.2.2.2 (rvw x.d.2.2.1) (acts.getD x.d.1 default)).2.2.1, (actR room x.d.2.2.2.2.2.2.1 x.d.2.2.2.2.2.2.2 (rvw x.d.2.2.1) (acts.getD x.d.1 default)).2.2.2), none, 0, none, 0, none, 0⟩ : Lp _) ⟨⟨by (try simp only []); omega, alike_next hal.2 hv hw (by show 2000 * x.d.1 + (catS (acts.getD x.d.1 default).Bs.xs).length ≤ 2000 * (x.d.1 + 1); omega) (by show 2000 * (x.d.1 + 1) ≤ _; omega)⟩, by (try simp only []); omega⟩ (.c (.c (.c (.c (.c (.nil _))))))
    · try simp only [decide_eq_true_eq, decide_eq_false_iff_not] at h2
      refine c_exit ?_
      refine k_then_x ?_
      refine k_then_x ?_
      refine k_blk_x ?_
      refine k_then_n ?_
      refine sr ?_
      refine e_as rfl ?_
      refine l_n ?_
      refine sr ?_
      refine e_as rfl ?_
      refine l_n ?_
      refine sr ?_
      have hFT : FOk x.d.2.1 := fok.2 hx2.lim.ok
      have hlm := hx2.lim.us
      refine Tr.ent (bun_nil _) ?_
      refine Tr.ent (Ent.nilrow 32 1 _) ?_
      refine e_mv rfl ?_
      refine e_fn Tryd.func20 rfl sl_ (fun ρ' hL => Go.Dsk.X.names_spec bD room mbbD x.d.2.2.2.1 x.d.2.1 ρ' hFT) ?_
      rintro _ _ ⟨an69, cn69, rfl, rfl⟩
      try simp only [List.cons_append, List.nil_append]
      obtain ⟨NS, hNS⟩ : ∃ L : List (List UInt8), L = sortS (x.d.2.1.map (·.name)) := ⟨_, rfl⟩
      rw [← hNS]
      have hNM : Nms (vw x.d.2.1) NS := by rw [hNS, ← vw_keys]; exact nms hx2.lim.ok
      have hNl : NS.length = x.d.2.1.length := by rw [hNM.len, vw_len]
      have hSB : lenS (vw x.d.2.1) NS = usedV (vw x.d.2.1) := hNM.all hx2.lim.ok rfl
      have hln9 := hFT.ln
      clear hNS
      refine e_as rfl ?_
      refine l_n ?_
      refine sr ?_
      refine e_as rfl ?_
      refine l_n ?_
      refine c_seq ?_
      refine sr ?_
      refine e_as rfl ?_
      refine l_n ?_
      refine c_block ?_
      refine Tr.ent (Ent.nilrow 3 1 _) ?_
      refine Tr.env (σ' := [(2, _), (7, _), (11, _), (12, _), (13, _), (14, _), (15, _)]) ev_ ?_
      refine t_loop (ι := Lp (Nat × List (SL UInt8) × List Int)) (fun y => y.d.1 ≤ NS.length ∧ y.d.2.1.map (fun s => s.xs) = (NS.take y.d.1).map (fun s => (mgetD (vw x.d.2.1) s zF).1) ∧ y.d.2.2 = (NS.take y.d.1).map (fun s => (mgetD (vw x.d.2.1) s zF).2)) (fun y => NS.length - y.d.1) (fun y => [(2, .slice keep_a keep_n keep_c), (7, .pointer (some ⟨bD, 0, none⟩)), (11, .slice y.a1 y.d.2.1.length y.c1), (12, .slice y.a2 y.d.2.2.length y.c2), (13, .slice an69 x.d.2.1.length cn69), (14, .int .i64 ((lenS (vw x.d.2.1) (NS.take y.d.1) : Nat) : Int)), (15, .int .i64 (y.d.1 : Int))]) (fun y => .row 3 1 y.a2 y.d.2.2.length y.c2 (y.d.2.2.flatMap encI) :: .row 9 1 an69 x.d.2.1.length cn69 (NS.flatMap Go.SL.encStr) :: .row 32 1 y.a1 y.d.2.1.length y.c1 (y.d.2.1.flatMap encSL) :: Bun (y.d.2.1.map (rowB 5)) :: RB 5 x.d.2.2.1 :: .row 82 3 x.d.2.2.2.2.1 x.d.2.2.1.length x.d.2.2.2.2.2.1 (x.d.2.2.1.flatMap encRFile) :: .pts b48 (encRDisk (⟨room, ⟨x.d.2.2.2.2.1, x.d.2.2.1.length, x.d.2.2.2.2.2.1⟩, x.d.2.2.2.2.2.2.1, x.d.2.2.2.2.2.2.2⟩ : RDisk)) 49 :: .pts bD (encDisk1 (⟨room, (some mbbD), x.d.2.2.2.1⟩ : Disk1)) 62 :: MP strB ptV mbbD (fm x.d.2.1) :: FB 66 5 x.d.2.1 :: Δ) (⟨(0, [], []), none, 0, none, 0, none, 0⟩ : Lp _) ⟨Nat.zero_le _, rfl, rfl⟩ ?_ ?_ ?_
      · exact .c (.c (.c (.c (.c (.c (.c (.nil _)))))))
      · exact en_
      intro y hy
      obtain ⟨hy1, hy2, hy3⟩ := hy
      have hyl : y.d.2.1.length = y.d.1 := by have h9 := congrArg List.length hy2; rw [List.length_map, List.length_map, List.length_take] at h9; omega
      have hyl2 : y.d.2.2.length = y.d.1 := by have h9 := congrArg List.length hy3; rw [List.length_map, List.length_take] at h9; omega
      refine c_seq ?_
      refine sr ?_
      refine e_mv rfl ?_
      refine e_mv rfl ?_
      refine e_q (q_len Tryd.underlying41 rfl) ?_
      refine e_q (q_lss rfl rfl) ?_
      refine l_n ?_
      refine c_cond rfl (fun h4 => ?_) (fun h4 => ?_)
      · try simp only [decide_eq_true_eq, decide_eq_false_iff_not] at h4
        have hsn := lenS_next (V := (vw x.d.2.1)) (ns := NS) (k := y.d.1) (by omega)
        have hsl := lenS_le (vw x.d.2.1) NS (y.d.1 + 1)
        refine c_skip ?_
        refine k_then_n ?_
        refine c_seq ?_
        refine c_block ?_
        refine sr ?_
        refine e_mv rfl ?_
        refine e_mv rfl ?_
        refine e_mv rfl ?_
        refine e_q (q_indexe y.d.1 Tryd.underlying41 sz_9 rfl rfl (rd_row pk_) (by decide) rfl (by first | assumption | omega | (simp only [List.length_cons, List.length_nil]; omega))) ?_
        refine e_q (q_loade (enc := Go.SL.encStr) (xs := NS) (j := y.d.1) (off := 0) sc_9 rfl (rd_row pk_) (fun _ => rfl) (by first | assumption | omega | (simp only [List.length_cons, List.length_nil]; omega)) (by decide) rfl) ?_
        refine e_fn Tryd.func16 rfl sl_ (fun ρ' hL => Go.Dsk.X.read_spec bD room mbbD x.d.2.2.2.1 x.d.2.1 (NS.getD y.d.1 default) ρ' hFT) ?_
        rintro _ _ ⟨aR1, cR1, rfl, rfl⟩
        try simp only [List.cons_append, List.nil_append]
        refine e_mv rfl ?_
        refine e_q (q_extract rfl rfl) ?_
        refine e_q (q_extract rfl rfl) ?_
        refine e_as rfl ?_
        refine e_as rfl ?_
        refine l_n ?_
        refine sr ?_
        refine e_mv rfl ?_
        refine e_mv rfl ?_
        refine e_s (s_buildSlice (cs := ([⟨aR1, (mgetD (vw x.d.2.1) (NS.getD y.d.1 default) zF).1, cR1⟩] : List (SL UInt8)).flatMap encSL) Tryd.underlying26 eo_32 rfl rfl rfl rfl (by decide) (by decide)) ?_
        rintro _ _ ⟨b87, rfl, rfl⟩
        refine e_s (s_appendn (enc := encSL) (xs := (y.d.2.1 : List (SL UInt8))) (ys := ([⟨aR1, (mgetD (vw x.d.2.1) (NS.getD y.d.1 default) zF).1, cR1⟩] : List (SL UInt8))) (Γ' := fun a' cap' => _) Tryd.underlying26 eo_32 (by decide) rfl rfl (rd_row pk_) (oneSL _) (by first | omega | (simp only [List.length_append, List.length_cons, List.length_nil] at *; omega)) (by first | omega | (simp only [List.length_append, List.length_cons, List.length_nil] at *; omega)) (fun _ _ => pk_)) ?_
        rintro _ _ ⟨a88, c88, rfl, rfl⟩
        refine e_as rfl ?_
        refine l_n ?_
        refine sr ?_
        refine e_mv rfl ?_
        refine e_mv rfl ?_
        refine e_mv rfl ?_
        refine e_mv rfl ?_
        refine e_q (q_indexe y.d.1 Tryd.underlying41 sz_9 rfl rfl (rd_row pk_) (by decide) rfl (by first | assumption | omega | (simp only [List.length_cons, List.length_nil]; omega))) ?_
        refine e_q (q_loade (enc := Go.SL.encStr) (xs := NS) (j := y.d.1) (off := 0) sc_9 rfl (rd_row pk_) (fun _ => rfl) (by first | assumption | omega | (simp only [List.length_cons, List.length_nil]; omega)) (by decide) rfl) ?_
        refine l_step (s_fnr rfl wn Tryd.func17 rfl (by kernel_rfl) rfl sl_ (fun ρ' hL => Go.Dsk.X.safe_spec bD room mbbD x.d.2.2.2.1 x.d.2.1 (NS.getD y.d.1 default) ρ') ?_)
        refine e_s (s_buildSlice (cs := ([(mgetD (vw x.d.2.1) (NS.getD y.d.1 default) zF).2] : List Int).flatMap encI) Tryd.underlying51 eo_3 rfl rfl rfl rfl (by decide) (by decide)) ?_
        rintro _ _ ⟨b96, rfl, rfl⟩
        refine e_s (s_appendn (enc := encI) (xs := (y.d.2.2 : List Int)) (ys := ([(mgetD (vw x.d.2.1) (NS.getD y.d.1 default) zF).2] : List Int)) (Γ' := fun a' cap' => _) Tryd.underlying51 eo_3 (by decide) rfl rfl (rd_row pk_) (oneI _) (by first | omega | (simp only [List.length_append, List.length_cons, List.length_nil] at *; omega)) (by first | omega | (simp only [List.length_append, List.length_cons, List.length_nil] at *; omega)) (fun _ _ => pk_)) ?_
        rintro _ _ ⟨a97, c97, rfl, rfl⟩
        refine e_as rfl ?_
        refine l_n ?_
        refine c_region ?_
        refine e_mv rfl ?_
        refine e_mv rfl ?_
        refine e_q (q_len Tryd.underlying32 rfl) ?_
        refine e_q (q_add rfl rfl (by omega) (by omega)) ?_
        refine e_as rfl ?_
        refine l_nil ?_
        refine k_blk_n ?_
        refine k_then_n ?_
        refine c_region ?_
        refine e_mv rfl ?_
        refine e_q (q_add rfl rfl (by omega) (by omega)) ?_
        refine e_as rfl ?_
        refine l_n ?_
        refine Tr.ent (Ent.pick (A := rowB 5 (⟨aR1, (mgetD (vw x.d.2.1) (NS.getD y.d.1 default) zF).1, cR1⟩ : SL UInt8)) pk_ (Ent.pick (A := Bun (y.d.2.1.map (rowB 5))) pk_ (Ent.refl _))) ?_
        refine Tr.ent (bun_snoc _ _ _) ?_
        rw [show y.d.2.1.map (rowB 5) ++ [rowB 5 (⟨aR1, (mgetD (vw x.d.2.1) (NS.getD y.d.1 default) zF).1, cR1⟩ : SL UInt8)] = (y.d.2.1 ++ [(⟨aR1, (mgetD (vw x.d.2.1) (NS.getD y.d.1 default) zF).1, cR1⟩ : SL UInt8)]).map (rowB 5) from by simp]
        rw [show y.d.2.1.length + 1 = (y.d.2.1 ++ [(⟨aR1, (mgetD (vw x.d.2.1) (NS.getD y.d.1 default) zF).1, cR1⟩ : SL UInt8)]).length from by simp, show y.d.2.2.length + 1 = (y.d.2.2 ++ [(mgetD (vw x.d.2.1) (NS.getD y.d.1 default) zF).2]).length from by simp]
        exact t_nx (⟨(y.d.1 + 1, y.d.2.1 ++ [(⟨aR1, (mgetD (vw x.d.2.1) (NS.getD y.d.1 default) zF).1, cR1⟩ : SL UInt8)], y.d.2.2 ++ [(mgetD (vw x.d.2.1) (NS.getD y.d.1 default) zF).2]), a88, c88, a97, c97, none, 0⟩ : Lp _) ⟨⟨by (try simp only []); omega, take_app hy2 (by omega) rfl, take_app2 hy3 (by omega)⟩, by (try simp only []); omega⟩ (.c (.c (.c (.c (.c (.cons rfl (inte (by rw [hsn]; omega)) (.c (.nil _))))))))
      · try simp only [decide_eq_true_eq, decide_eq_false_iff_not] at h4
        have hk2 : y.d.1 = NS.length := by omega
        rw [hk2, List.take_length]
        rw [hk2, List.take_length] at hy2 hy3
        refine c_exit ?_
        refine k_then_x ?_
        refine k_then_x ?_
        refine k_blk_x ?_
        refine k_then_n ?_
        refine sr ?_
        refine e_mv rfl ?_
        refine e_mv rfl ?_
        refine e_fn Tryd.func19 rfl sl_ (fun ρ' hL => Go.Dsk.V.crash_spec bD room mbbD x.d.2.2.2.1 x.d.2.1 keep_a keep_n keep_c keep hkeep_n ρ' hFT (Ro.mono hL.1 hrk)) ?_
        rintro _ _ ⟨T2, rfl, hvT2, rfl⟩
        try simp only [List.cons_append, List.nil_append]
        obtain ⟨hc1, hc2, hc3⟩ := cr_at hx2.lim.ok keep
        rw [← hvT2] at hc1 hc2 hc3
        have hL2 : Lim (vw T2) (2000 * x.d.1) := by rw [hvT2]; exact lim_cr hx2.lim
        have hFT2 : FOk T2 := fok.2 hL2.ok
        have hSA : lenS (vw T2) NS = usedV (vw T2) := hNM.all hL2.ok hc1
        have hu2 := hL2.us
        refine e_as rfl ?_
        refine l_n ?_
        refine sr ?_
        refine e_as rfl ?_
        refine l_n ?_
        refine c_seq ?_
        refine sr ?_
        refine e_as rfl ?_
        refine l_n ?_
        refine c_block ?_
        refine Tr.env (σ' := [(7, _), (11, _), (12, _), (13, _), (14, _), (18, _), (19, _), (20, _)]) ev_ ?_
        refine t_loop (ι := Lp (Nat)) (fun z => z.d ≤ NS.length) (fun z => NS.length - z.d) (fun z => [(7, .pointer (some ⟨bD, 0, none⟩)), (11, .slice y.a1 y.d.2.1.length y.c1), (12, .slice y.a2 y.d.2.2.length y.c2), (13, .slice an69 x.d.2.1.length cn69), (14, .int .i64 ((lenS (vw x.d.2.1) NS : Nat) : Int)), (18, .int .i64 ((crR keep (vw x.d.2.1)).2)), (19, .int .i64 ((lenS (vw T2) (NS.take z.d) : Nat) : Int)), (20, .int .i64 (z.d : Int))]) (fun z => .row 3 1 y.a2 y.d.2.2.length y.c2 (y.d.2.2.flatMap encI) :: .row 9 1 an69 x.d.2.1.length cn69 (NS.flatMap Go.SL.encStr) :: .row 32 1 y.a1 y.d.2.1.length y.c1 (y.d.2.1.flatMap encSL) :: Bun (y.d.2.1.map (rowB 5)) :: RB 5 x.d.2.2.1 :: .row 82 3 x.d.2.2.2.2.1 x.d.2.2.1.length x.d.2.2.2.2.2.1 (x.d.2.2.1.flatMap encRFile) :: .pts b48 (encRDisk (⟨room, ⟨x.d.2.2.2.2.1, x.d.2.2.1.length, x.d.2.2.2.2.2.1⟩, x.d.2.2.2.2.2.2.1, x.d.2.2.2.2.2.2.2⟩ : RDisk)) 49 :: .pts bD (encDisk1 (⟨room, (some mbbD), (-1)⟩ : Disk1)) 62 :: MP strB ptV mbbD (fm T2) :: FB 66 5 T2 :: Δ) (⟨0, none, 0, none, 0, none, 0⟩ : Lp _) (Nat.zero_le _) ?_ ?_ ?_
        · exact .c (.c (.c (.c (.c (.c (.c (.c (.nil _))))))))
        · exact en_
        intro z hz
        refine c_seq ?_
        refine sr ?_
        refine e_mv rfl ?_
        refine e_mv rfl ?_
        refine e_q (q_len Tryd.underlying41 rfl) ?_
        refine e_q (q_lss rfl rfl) ?_
        refine l_n ?_
        refine c_cond rfl (fun h5 => ?_) (fun h5 => ?_)
        · try simp only [decide_eq_true_eq, decide_eq_false_iff_not] at h5
          have hsn2 := lenS_next (V := vw T2) (ns := NS) (k := z.d) (by omega)
          have hsl2 := lenS_le (vw T2) NS (z.d + 1)
          obtain ⟨hq1, hq2⟩ := was_at hy2 (k := z.d) (by omega)
          have hq6 : (y.d.2.1.getD z.d default).xs.length = (mgetD (vw x.d.2.1) (NS.getD z.d default) zF).1.length := by rw [hq2]
          have hq3 : y.d.2.2.getD z.d default = (mgetD (vw x.d.2.1) (NS.getD z.d default) zF).2 := by rw [hy3, getD_map_ (fun s => (mgetD (vw x.d.2.1) s zF).2) (by omega)]
          have hq5 : y.d.2.2.length = NS.length := by rw [hy3, List.length_map]
          obtain ⟨hf1, hf2, hf3, hf4⟩ := crd_facts (hc3 (NS.getD z.d default))
          refine t_rd (Γ := _) (rd_bun (a := (y.d.2.1.getD z.d default).a) (m := (y.d.2.1.getD z.d default).xs.length) (cap := (y.d.2.1.getD z.d default).cap) (cs := (y.d.2.1.getD z.d default).xs.flatMap encB) (L := (y.d.2.1.map (rowB 5))) pk_ (in_map _ hq1 rfl)) fun _ hcp9 _ _ => ?_
          refine c_skip ?_
          refine k_then_n ?_
          refine c_seq ?_
          refine c_block ?_
          refine sr ?_
          refine e_mv rfl ?_
          refine e_mv rfl ?_
          refine e_mv rfl ?_
          refine e_q (q_indexe z.d Tryd.underlying41 sz_9 rfl rfl (rd_row pk_) (by decide) rfl (by first | assumption | omega | (simp only [List.length_cons, List.length_nil]; omega))) ?_
          refine e_q (q_loade (enc := Go.SL.encStr) (xs := NS) (j := z.d) (off := 0) sc_9 rfl (rd_row pk_) (fun _ => rfl) (by first | assumption | omega | (simp only [List.length_cons, List.length_nil]; omega)) (by decide) rfl) ?_
          refine e_fn Tryd.func16 rfl sl_ (fun ρ' hL => Go.Dsk.X.read_spec bD room mbbD (-1) T2 (NS.getD z.d default) ρ' hFT2) ?_
          rintro _ _ ⟨aR2, cR2, rfl, rfl⟩
          try simp only [List.cons_append, List.nil_append]
          rw [show mhas (vw T2) (NS.getD z.d default) = true from (has_keys hc1 _).trans (hNM.has _ (by omega))]
          refine e_mv rfl ?_
          refine e_q (q_extract rfl rfl) ?_
          refine e_q (q_extract rfl rfl) ?_
          refine e_as rfl ?_
          refine e_as rfl ?_
          refine l_n ?_
          refine sr ?_
          refine e_mv rfl ?_
          refine e_mv rfl ?_
          refine e_q (q_len Tryd.underlying32 rfl) ?_
          refine e_q (q_add rfl rfl (by omega) (by omega)) ?_
          refine e_as rfl ?_
          refine l_n ?_
          refine c_seq ?_
          refine d_r 45 [.row 5 1 aR2 ((mgetD (vw T2) (NS.getD z.d default) zF).1.length) cR2 (((mgetD (vw T2) (NS.getD z.d default) zF).1).flatMap encB), .row 3 1 y.a2 y.d.2.2.length y.c2 (y.d.2.2.flatMap encI), .row 9 1 an69 x.d.2.1.length cn69 (NS.flatMap Go.SL.encStr), .row 32 1 y.a1 y.d.2.1.length y.c1 (y.d.2.1.flatMap encSL), Bun (y.d.2.1.map (rowB 5)), RB 5 x.d.2.2.1, .row 82 3 x.d.2.2.2.2.1 x.d.2.2.1.length x.d.2.2.2.2.2.1 (x.d.2.2.1.flatMap encRFile), .pts b48 (encRDisk (⟨room, ⟨x.d.2.2.2.2.1, x.d.2.2.1.length, x.d.2.2.2.2.2.1⟩, x.d.2.2.2.2.2.2.1, x.d.2.2.2.2.2.2.2⟩ : RDisk)) 49, .pts bD (encDisk1 (⟨room, (some mbbD), (-1)⟩ : Disk1)) 62, MP strB ptV mbbD (fm T2), FB 66 5 T2] ?_
          refine d_t 0 rfl wn (q_move rfl) ?_
          refine d_t 1 rfl wn (q_not rfl) ?_
          refine d_t 2 rfl wn (q_move rfl) ?_
          refine d_t 3 rfl (wy rfl rfl rfl) (q_move rfl) ?_
          refine d_t 4 rfl (wy rfl rfl rfl) (q_len Tryd.underlying32 rfl) ?_
          refine d_t 5 rfl (wy rfl rfl rfl) (q_move rfl) ?_
          refine d_t 6 rfl (wy rfl rfl rfl) (q_move rfl) ?_
          refine d_t 7 rfl (wy rfl rfl rfl) (q_indexe z.d Tryd.underlying51 sz_3 rfl rfl (rd_row pk_) (by decide) rfl (by first | assumption | omega | (simp only [List.length_cons, List.length_nil]; omega))) ?_
          refine d_t 8 rfl (wy rfl rfl rfl) (q_loade (enc := encI) (xs := y.d.2.2) (j := z.d) (off := 0) sc_3 rfl (rd_row pk_) (fun _ => rfl) (by first | assumption | omega | (simp only [List.length_cons, List.length_nil]; omega)) (by decide) rfl) ?_
          refine d_t 9 rfl (wy rfl rfl rfl) (q_lss rfl rfl) ?_
          refine d_t 10 rfl wn (q_pick rfl rfl rfl) ?_
          refine d_t 11 rfl wn (q_move rfl) ?_
          refine Tr.env (.cons (t := 135) (v := .bool false) rfl (congrArg Value.bool (decide_eq_false (by rw [hq3]; exact hf1))) (EnvLe.refl _)) ?_
          refine d_t 12 rfl (wy rfl rfl rfl) (q_move rfl) ?_
          refine d_t 13 rfl (wy rfl rfl rfl) (q_len Tryd.underlying32 rfl) ?_
          refine d_t 14 rfl (wy rfl rfl rfl) (q_move rfl) ?_
          refine d_t 15 rfl (wy rfl rfl rfl) (q_move rfl) ?_
          refine d_t 16 rfl (wy rfl rfl rfl) (q_indexe z.d Tryd.underlying26 sz_32 rfl rfl (rd_row pk_) (by decide) rfl (by first | assumption | omega | (simp only [List.length_cons, List.length_nil]; omega))) ?_
          refine d_t 17 rfl (wy rfl rfl rfl) (q_loade (enc := encSL) (xs := y.d.2.1) (j := z.d) (off := 0) sc_32 rfl (rd_row pk_) (fun _ => rfl) (by first | assumption | omega | (simp only [List.length_cons, List.length_nil]; omega)) (by decide) rfl) ?_
          refine d_t 18 rfl (wy rfl rfl rfl) (q_len Tryd.underlying32 rfl) ?_
          refine d_t 19 rfl (wy rfl rfl rfl) (q_gtr rfl rfl) ?_
          refine d_t 20 rfl wn (q_pick rfl rfl rfl) ?_
          refine d_t 21 rfl wn (q_move rfl) ?_
          refine Tr.env (.cons (t := 145) (v := .bool false) rfl (congrArg Value.bool (decide_eq_false (by rw [hq2]; omega))) (EnvLe.refl _)) ?_
          refine d_t 22 rfl (wy rfl rfl rfl) (q_move rfl) ?_
          refine d_t 23 rfl (wy rfl rfl rfl) (q_tostr (bs := (mgetD (vw T2) (NS.getD z.d default) zF).1) Tryd.underlying32 Tryd.underlying5 Tryd.underlying9 rfl (rd_row pk_)) ?_
          refine d_t 24 rfl (wy rfl rfl rfl) (q_move rfl) ?_
          refine d_t 25 rfl (wy rfl rfl rfl) (q_move rfl) ?_
          refine d_t 26 rfl (wy rfl rfl rfl) (q_indexe z.d Tryd.underlying26 sz_32 rfl rfl (rd_row pk_) (by decide) rfl (by first | assumption | omega | (simp only [List.length_cons, List.length_nil]; omega))) ?_
          refine d_t 27 rfl (wy rfl rfl rfl) (q_loade (enc := encSL) (xs := y.d.2.1) (j := z.d) (off := 0) sc_32 rfl (rd_row pk_) (fun _ => rfl) (by first | assumption | omega | (simp only [List.length_cons, List.length_nil]; omega)) (by decide) rfl) ?_
          refine d_t 28 rfl (wy rfl rfl rfl) (q_move rfl) ?_
          refine d_t 29 rfl (wy rfl rfl rfl) (q_len Tryd.underlying32 rfl) ?_
          refine d_t 30 rfl (wy rfl rfl rfl) (q_cut_hi Tryd.underlying32 sz_5 rfl rfl (by omega) (by omega)) ?_
          refine d_t 31 rfl (wy rfl rfl rfl) (q_tostr (bs := (((y.d.2.1.getD z.d default).xs).take (((mgetD (vw T2) (NS.getD z.d default) zF).1.length : Int)).toNat)) Tryd.underlying32 Tryd.underlying5 Tryd.underlying9 rfl (rd_take (enc := encB) (by first | assumption | exact rd_ro (by assumption) | exact rd_bun (L := y.d.2.1.map (rowB 5)) pk_ (in_map _ (by first | assumption | omega | (simp only [List.length_cons, List.length_nil]; omega) | decide) rfl) | exact rd_row pk_) (fun _ => rfl) _ (by omega))) ?_
          refine d_t 32 rfl (wy rfl rfl rfl) (q_neqsB (p := (mgetD (vw T2) (NS.getD z.d default) zF).1) (q := (((y.d.2.1.getD z.d default).xs).take (((mgetD (vw T2) (NS.getD z.d default) zF).1.length : Int)).toNat)) rfl rfl) ?_
          refine d_t 33 rfl wn (q_pick rfl rfl rfl) ?_
          refine d_t 34 rfl wn (q_move rfl) ?_
          refine Tr.env (.cons (t := 158) (v := .bool false) rfl (congrArg Value.bool (by rw [hq2]; exact congrArg not (decide_eq_true hf3))) (EnvLe.refl _)) ?_
          refine d_t 35 rfl (wy rfl rfl rfl) (q_move rfl) ?_
          refine d_t 36 rfl (wy rfl rfl rfl) (q_move rfl) ?_
          refine d_t 37 rfl (wy rfl rfl rfl) (q_move rfl) ?_
          refine d_t 38 rfl (wy rfl rfl rfl) (q_indexe z.d Tryd.underlying41 sz_9 rfl rfl (rd_row pk_) (by decide) rfl (by first | assumption | omega | (simp only [List.length_cons, List.length_nil]; omega))) ?_
          refine d_t 39 rfl (wy rfl rfl rfl) (q_loade (enc := Go.SL.encStr) (xs := NS) (j := z.d) (off := 0) sc_9 rfl (rd_row pk_) (fun _ => rfl) (by first | assumption | omega | (simp only [List.length_cons, List.length_nil]; omega)) (by decide) rfl) ?_
          refine d_t 41 rfl (wy rfl rfl rfl) (q_move rfl) ?_
          refine d_t 42 rfl (wy rfl rfl rfl) (q_len Tryd.underlying32 rfl) ?_
          refine d_1 40 ?_
          refine o_step rfl (s_fnr rfl (wy rfl rfl rfl) Tryd.func17 rfl (by kernel_rfl) rfl sl_ (fun ρ' hL => Go.Dsk.X.safe_spec bD room mbbD (-1) T2 (NS.getD z.d default) ρ') ?_)
          refine d_c ?_
          refine d_t 43 rfl (wy rfl rfl rfl) (q_neq rfl rfl) ?_
          refine d_t 44 rfl wn (q_pick rfl rfl rfl) ?_
          refine d_d ?_
          refine k_then_n ?_
          refine c_sure false rfl (decide_eq_false (fun h => h hf4)) ?_
          simp only [Bool.false_eq_true, if_true, if_false]
          refine c_skip ?_
          refine k_blk_n ?_
          refine k_then_n ?_
          refine c_region ?_
          refine e_mv rfl ?_
          refine e_q (q_add rfl rfl (by omega) (by omega)) ?_
          refine e_as rfl ?_
          refine l_n ?_
          exact t_nx (⟨z.d + 1, none, 0, none, 0, none, 0⟩ : Lp _) ⟨by (try simp only []); omega, by (try simp only []); omega⟩ (.c (.c (.c (.c (.c (.c (.cons rfl (inte (by rw [hsn2]; omega)) (.c (.nil _)))))))))
        · try simp only [decide_eq_true_eq, decide_eq_false_iff_not] at h5
          have hk3 : z.d = NS.length := by omega
          rw [hk3, List.take_length]
          refine c_exit ?_
          refine k_then_x ?_
          refine k_then_x ?_
          refine k_blk_x ?_
          refine k_then_n ?_
          refine sr ?_
          refine e_mv rfl ?_
          refine e_mv rfl ?_
          refine e_mv rfl ?_
          refine e_q (q_sub rfl rfl (by omega) (by omega)) ?_
          refine e_q (q_eql rfl rfl) ?_
          refine e_mv rfl ?_
          refine Tr.env (.cons (t := 174) (v := .bool true) rfl (congrArg Value.bool (decide_eq_true (by rw [hSA, hSB]; omega))) (EnvLe.refl _)) ?_
          refine e_qw (wy rfl rfl rfl) (q_move rfl) ?_
          refine e_fnw (wy rfl rfl rfl) Tryd.func20 rfl sl_ (fun ρ' hL => Go.Dsk.X.names_spec bD room mbbD (-1) T2 ρ' hFT2) ?_
          rintro _ _ ⟨an176, cn176, rfl, rfl⟩
          try simp only [List.cons_append, List.nil_append]
          obtain ⟨NS2, hNS2⟩ : ∃ L : List (List UInt8), L = sortS (T2.map (·.name)) := ⟨_, rfl⟩
          rw [← hNS2]
          clear hNS2
          refine e_qw (wy rfl rfl rfl) (q_len Tryd.underlying41 rfl) ?_
          refine e_qw (wy rfl rfl rfl) (q_move rfl) ?_
          refine e_qw (wy rfl rfl rfl) (q_len Tryd.underlying41 rfl) ?_
          refine e_qw (wy rfl rfl rfl) (q_eql rfl rfl) ?_
          refine e_q (q_pick rfl rfl rfl) ?_
          refine e_mv rfl ?_
          refine Tr.env (.cons (t := 182) (v := .bool true) rfl (congrArg Value.bool (decide_eq_true (by have h9 := congrArg List.length hc1; simp only [mkeys, List.length_map, vw_len] at h9; omega))) (EnvLe.refl _)) ?_
          refine e_qw (wy rfl rfl rfl) (q_move rfl) ?_
          refine e_fnw (wy rfl rfl rfl) Tryd.func19 rfl sl_ (fun ρ' hL => Go.Dsk.V.crash_spec bD room mbbD (-1) T2 none 0 0 [] rfl ρ' hFT2 (SL.ro_nil encI 1 ρ')) ?_
          rintro _ _ ⟨T3, rfl, hvT3, rfl⟩
          try simp only [List.cons_append, List.nil_append]
          rw [show (crR [] (vw T2)).2 = 0 from by rw [hvT2]; exact cr_again hx2.lim keep []]
          refine e_qw (wy rfl rfl rfl) (q_eql rfl rfl) ?_
          refine e_q (q_pick rfl rfl rfl) ?_
          refine e_as rfl ?_
          refine l_n ?_
          refine c_ret ?_
          exact t_rt [] rfl (.tmp rfl .nil) rfl ⟨rfl, boole (by rfl), rfl⟩ (by (repeat refine Ent.skip ?_); exact Ent.refl _)
end Go.Dsk.A5

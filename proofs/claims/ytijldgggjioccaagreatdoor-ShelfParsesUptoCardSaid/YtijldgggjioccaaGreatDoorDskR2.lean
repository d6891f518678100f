/- part -/
import Derived.Test.YtijldgggjioccaaGreatDoorDskR1
import Derived.Test.YtijldgggjioccaaGreatDoorProg
set_option maxRecDepth 100000
set_option maxHeartbeats 4000000
set_option linter.unusedSimpArgs false
set_option linter.unusedVariables false
namespace Go.Dsk.RE
open Go Go.SL Go.Proofs Go.Dsk Go.Dsk.L Go.Dsk.RA Go.Dsk.RB Go.Dsk.RC Go.Dsk.RD
attribute [local irreducible] Go.SL.Ent
theorem eo_5 : elemOk Tryz.prog 5 1 1 = true := by kernel_rfl
theorem fo_162_1 : fieldOff Tryz.prog 162 1 = some (1, 22) := by kernel_rfl
theorem fo_56_1 : fieldOff Tryz.prog 56 1 = some (1, 54) := by kernel_rfl
theorem pl_162 : placesOf Tryz.prog 162 = some [(0, 1), (1, 1), (2, 1)] := by kernel_rfl
theorem sc_22 : isScalar Tryz.prog 22 = true := by kernel_rfl
theorem sc_54 : isScalar Tryz.prog 54 = true := by kernel_rfl
theorem sz_162 : sizeIs Tryz.prog 162 = some 3 := by kernel_rfl
theorem sz_22 : sizeIs Tryz.prog 22 = some 1 := by kernel_rfl
theorem zc_162 : zeroCs Tryz.prog 162 = some [.string ⟨#[]⟩, .slice none 0 0, .int .i64 0] := by kernel_rfl
theorem rappend_spec (r : Nat) (room : Int) (la : Option Addr) (lc : Nat) (e : Bool) (c : Int) (T : RT) (s : (List UInt8)) (bs_a : Option Addr) (bs_n bs_c : Nat) (bs : List (SL UInt8)) (hbs_n : bs.length = bs_n) (ρ : Hp) (hT : VOk (rvw T)) (hc : e = true → 0 ≤ c) (hc2 : c ≤ 9223372036854775807) (hU : (usedR T : Int) ≤ room) (hr9 : room ≤ 9223372036854775807) (hn : s.length ≤ 9223372036854775807) (hbn : bs_n ≤ 1000000) (hbl : usedR T + (catS bs).length ≤ 1000000000000) (hro : Ro ρ 1 bs_a bs_n bs_c (bs.flatMap encSL)) (hbm : ∀ s ∈ bs, s.ro encB 1 ρ) : Spec0 Tryz.prog 27 #[.pointer (some ⟨r, 0, none⟩), (strB s), .slice bs_a bs_n bs_c] ρ [.pts r (encRDisk (⟨room, ⟨la, T.length, lc⟩, e, c⟩ : RDisk)) 56, .row 162 3 la T.length lc (T.flatMap encRFile), RB 5 T] (fun v Γ' => ∃ a1 c1 T', v = .int .i64 (appI room (cI e c) (rvw T) s (catS bs)).1 ∧ rvw T' = (appI room (cI e c) (rvw T) s (catS bs)).2 ∧ Γ' = [.pts r (encRDisk (⟨room, ⟨a1, T'.length, c1⟩, e, (decR e c)⟩ : RDisk)) 56, .row 162 3 a1 T'.length c1 (T'.flatMap encRFile), RB 5 T']) := by
  refine spec_of (n := 83) (vs := [_, _, _]) (σ := [(0, _), (1, _), (2, _)]) Tryz.func27 rfl rfl rfl rfl fun E Δ => ?_; simp only [lc_, ln_]; have hln := rat_ln hT; have hus := rat_us hT; have hnd := rnd hT; refine sr (e_as rfl (l_n (c_seq (sr (e_mv rfl (e_fn Tryz.func81 rfl sl_ (fun ρ' hL => rstopped_spec r room la lc e c T ρ' (by assumption) (by assumption)) ?_)))))); rintro _ _ ⟨rfl, rfl⟩
  try simp only [lc_, ln_]
  refine l_n ?_; refine c_cond rfl (fun h0 => ?_) (fun h0 => ?_)
  · try simp only [dt_, df_] at h0
    refine sr (e_as rfl (l_n (c_ret (k_then_r ?_)))); have hr : (appI room (cI e c) (rvw T) s (catS bs)) = (32, rvw T) := if_pos h0; exact t_rt [.pts r (encRDisk (⟨room, ⟨la, T.length, lc⟩, e, (decR e c)⟩ : RDisk)) 56, .row 162 3 la T.length lc (T.flatMap encRFile), RB 5 T] rfl (.tmp rfl .nil) rfl ⟨rfl, la, lc, T, by rw [hr]; rfl, by rw [hr], rfl⟩
  · try simp only [dt_, df_] at h0
    refine c_skip (k_then_n (sr (e_as rfl (l_n (c_seq (sr (e_as rfl (l_n (c_block ?_))))))))); refine Tr.env (σ' := [(0, _), (1, _), (2, _), (6, _), (7, _), (8, _)]) ev_ ?_; refine t_loop (ι := Lp (Nat)) (fun x => x.d ≤ bs_n) (fun x => bs_n - x.d) (fun x => [(0, .pointer (some ⟨r, 0, none⟩)), (1, (strB s)), (2, .slice bs_a bs_n bs_c), (6, .int .i64 0), (7, .int .i64 ((catS (bs.take x.d)).length : Int)), (8, .int .i64 (x.d : Int))]) (fun x => .pts r (encRDisk (⟨room, ⟨la, T.length, lc⟩, e, (decR e c)⟩ : RDisk)) 56 :: .row 162 3 la T.length lc (T.flatMap encRFile) :: RB 5 T :: Δ) (⟨0, none, 0, none, 0, none, 0⟩ : Lp _) (Nat.zero_le _) ?_ ?_ ?_
    · exact .c (.c (.c (.c (.c (.c (.nil _))))))
    · exact en_
    intro x hx; have hct := catS_take bs x.d; have hct1 := catS_take bs (x.d + 1); refine c_seq (sr (e_mv rfl (e_mv rfl (e_q (q_len Tryz.underlying37 rfl) ?_)))); refine e_q (q_lss rfl rfl) (l_n ?_); refine c_cond rfl (fun h1 => ?_) (fun h1 => ?_)
    · try simp only [dt_, df_] at h1
      have hct2 : (catS (bs.take (x.d + 1))).length = (catS (bs.take x.d)).length + (bs.getD x.d default).xs.length := by rw [take_succ_getD _ _ (by omega), catS_snoc, List.length_append]
      refine c_skip (k_then_n (c_seq (c_block (c_region (e_mv rfl (e_mv rfl (e_mv rfl (e_q (q_indexe x.d Tryz.underlying37 sz_22 rfl rfl (by first | assumption | exact rd_ro (by assumption) | exact rd_row pk_) (by decide) rfl (by first | assumption | omega | (simp only [lk_, le_]; omega))) ?_)))))))); refine e_q (q_loade (enc := encSL) (xs := bs) (j := x.d) (off := 0) sc_22 rfl (by first | assumption | exact rd_ro (by assumption) | exact rd_row pk_) (fun _ => rfl) (by first | assumption | omega | (simp only [lk_, le_]; omega)) (by decide) rfl) ?_; refine e_q (q_len Tryz.underlying22 rfl) ?_; refine e_q (q_add rfl rfl (by omega) (by omega)) ?_; refine e_as rfl (l_nil (k_blk_n (k_then_n (c_region (e_mv rfl (e_q (q_add rfl rfl (by omega) (by omega)) ?_)))))); refine e_as rfl (l_n ?_); exact t_nx (⟨x.d + 1, none, 0, none, 0, none, 0⟩ : Lp _) ⟨by (try simp only []); omega, by (try simp only []); omega⟩ (.c (.c (.c (.c (.cons rfl (inte (by rw [take_succ_getD _ _ (by omega), catS_snoc, List.length_append]; omega)) (.c (.nil _)))))))
    · try simp only [dt_, df_] at h1
      have hk : x.d = bs.length := by omega
      rw [hk, List.take_length]; refine c_exit (k_then_x (k_then_x (k_blk_x (k_then_n (sr (e_mv rfl (e_mv rfl (e_fn Tryz.func82 rfl sl_ (fun ρ' hL => rfind_spec r room la lc e (decR e c) T s ρ') ?_)))))))); rintro _ _ ⟨rfl, rfl⟩
      try simp only [lc_, ln_]
      refine e_as rfl (l_n (c_seq (sr (e_mv rfl (l_step (s_fnq rfl wn Tryz.func83 rfl (by kernel_rfl) rfl (fun ρ' hL => C.rname_spec s ρ' hn) ?_)))))); refine e_q (q_not rfl) ?_; refine l_n ?_; refine c_cond rfl (fun h2 => ?_) (fun h2 => ?_)
      · skip
        have hnb : nameB s = false := by simpa using h2
        refine sr (e_as rfl (l_n (c_ret (k_then_r ?_)))); have hr : (appI room (cI e c) (rvw T) s (catS bs)) = (30, rvw T) := by unfold appI; rw [if_neg h0, if_pos hnb]
        exact t_rt [.pts r (encRDisk (⟨room, ⟨la, T.length, lc⟩, e, (decR e c)⟩ : RDisk)) 56, .row 162 3 la T.length lc (T.flatMap encRFile), RB 5 T] rfl (.tmp rfl .nil) rfl ⟨rfl, la, lc, T, by rw [hr]; rfl, by rw [hr], rfl⟩
      · skip
        have hnb : nameB s = true := by simpa using h2
        refine c_skip (k_then_n (c_seq (sr (e_mv rfl (e_mv rfl (l_step (s_fnr rfl wn Tryz.func84 rfl (by kernel_rfl) rfl sl_ (fun ρ' hL => rfree_spec r room la lc e (decR e c) T ρ' hU hr9) ?_))))))); refine e_q (q_gtr rfl rfl) ?_; refine e_mv rfl (l_step (s_qg rfl (ask_f rfl rfl) (b := (!(decide ((room - (usedR T : Int)) < ((catS bs).length : Int))))) (fun hb => q_move rfl) ?_)); refine l_step (s_qg rfl (ask_f rfl rfl) (b := (!(decide ((room - (usedR T : Int)) < ((catS bs).length : Int))))) (fun hb => OpQ.env (.cons rfl (gd_t hb) (.nil _) : EnvLe [(37, .int .i64 (rfi T s))] _) (q_lss rfl rfl)) ?_); refine l_step (s_qg rfl (ask_f rfl rfl) (b := (!(decide ((room - (usedR T : Int)) < ((catS bs).length : Int))))) (fun hb => OpQ.env (.cons rfl (gd_t hb) (.nil _) : EnvLe [(38, .bool (decide ((rfi T s) < 0)))] _) (q_move rfl)) ?_); refine l_step (s_qg rfl (ask_gt rfl rfl) (b := ((!(decide ((room - (usedR T : Int)) < ((catS bs).length : Int)))) && (decide ((rfi T s) < 0)))) (fun hb => q_move rfl) ?_); refine l_step (s_qg rfl (ask_gt rfl rfl) (b := ((!(decide ((room - (usedR T : Int)) < ((catS bs).length : Int)))) && (decide ((rfi T s) < 0)))) (fun hb => OpQ.env (.cons rfl (gd_t hb) (.nil _) : EnvLe [(40, .pointer (some ⟨r, 0, none⟩))] _) (q_nilCheck rfl)) ?_); refine l_step (s_qg rfl (ask_gt rfl rfl) (b := ((!(decide ((room - (usedR T : Int)) < ((catS bs).length : Int)))) && (decide ((rfi T s) < 0)))) (fun hb => OpQ.env (.cons rfl (gd_t hb) (.nil _) : EnvLe [(41, .pointer (some ⟨r, 0, none⟩))] _) (q_fieldp rfl fo_56_1)) ?_); refine l_step (s_qg rfl (ask_gt rfl rfl) (b := ((!(decide ((room - (usedR T : Int)) < ((catS bs).length : Int)))) && (decide ((rfi T s) < 0)))) (fun hb => OpQ.env (.cons rfl (gd_t hb) (.nil _) : EnvLe [(42, .pointer (some ⟨r, 1, none⟩))] _) (q_loadp (v := .slice la T.length lc) sc_54 rfl pk_ rfl)) ?_); refine l_step (s_qg rfl (ask_gt rfl rfl) (b := ((!(decide ((room - (usedR T : Int)) < ((catS bs).length : Int)))) && (decide ((rfi T s) < 0)))) (fun hb => OpQ.env (.cons rfl (gd_t hb) (.nil _) : EnvLe [(43, .slice la T.length lc)] _) (q_len Tryz.underlying54 rfl)) ?_); refine l_step (s_qg rfl (ask_gt rfl rfl) (b := ((!(decide ((room - (usedR T : Int)) < ((catS bs).length : Int)))) && (decide ((rfi T s) < 0)))) (fun hb => OpQ.env (.cons rfl (gd_t hb) (.nil _) : EnvLe [(44, .int .i64 (T.length : Int))] _) (q_geq rfl rfl)) ?_); refine l_step (s_qg rfl (ask_f rfl rfl) (b := (!(decide ((room - (usedR T : Int)) < ((catS bs).length : Int))))) (fun hb => OpQ.env (.cons rfl (gd_t hb) (.cons rfl rfl (.nil _)) : EnvLe [(39, .bool (decide ((rfi T s) < 0))), (45, gd ((!(decide ((room - (usedR T : Int)) < ((catS bs).length : Int)))) && (decide ((rfi T s) < 0))) (.bool (decide (4096 ≤ (T.length : Int)))))] _) (q_pick_and rfl rfl rfl (fun h => by simp_all))) ?_); refine e_q (q_pick_or rfl rfl rfl (fun h => by first | (rw [h]; rfl) | exact congrArg not h)) ?_; refine l_n ?_; rw [rfi_neg]; refine c_cond rfl (fun h3 => ?_) (fun h3 => ?_)
        · skip
          refine sr (e_as rfl (l_n (c_ret (k_then_r ?_)))); have hr : (appI room (cI e c) (rvw T) s (catS bs)) = (31, rvw T) := by unfold appI; rw [if_neg h0, if_neg (by rw [hnb]; decide), if_pos (by rw [usedR_vw, rvw_len]; exact h3)]
          exact t_rt [.pts r (encRDisk (⟨room, ⟨la, T.length, lc⟩, e, (decR e c)⟩ : RDisk)) 56, .row 162 3 la T.length lc (T.flatMap encRFile), RB 5 T] rfl (.tmp rfl .nil) rfl ⟨rfl, la, lc, T, by rw [hr]; rfl, by rw [hr], rfl⟩
        · skip
          refine c_skip (k_then_n (c_seq (sr (e_mv rfl (e_q (q_lss rfl rfl) (l_n ?_)))))); rw [rfi_neg]; refine c_cond rfl (fun h4 => ?_) (fun h4 => ?_)
          · skip
            have hq : mhas (rvw T) s = false := by simpa using h4
            refine sr (e_mv rfl (e_mv rfl (e_q (q_build (cs := encRFile (⟨s, ⟨none, [], 0⟩, 0⟩ : RFile)) zc_162 pl_162 rfl rfl) ?_))); refine Tr.ent (Ent.nilrow 5 1 _) ?_; refine e_fn Tryz.func85 rfl sl_ (fun ρ' hL => radd_spec r room la lc e (decR e c) T (⟨s, ⟨none, [], 0⟩, 0⟩ : RFile) ρ' (by omega)) ?_; rintro _ _ ⟨kA, aA, cA, hkA, hkB, hkC, rfl, rfl⟩
            try simp only [lc_, ln_]
            refine l_n (c_region ?_); have hv1 : rvw (T.take kA ++ (⟨s, ⟨none, [], 0⟩, 0⟩ : RFile) :: T.drop kA) = insV (rvw T) (s, ([], 0)) := rin_vw (f := (⟨s, ⟨none, [], 0⟩, 0⟩ : RFile)) ⟨kA, hkA, hkB, hkC, rfl⟩; have hnd1 : ((T.take kA ++ (⟨s, ⟨none, [], 0⟩, 0⟩ : RFile) :: T.drop kA).map (·.Name)).Nodup := by rw [← rvw_keys, hv1]; exact insV_nd hT.nd (no_mem hq)
            have hq1 : mhas (rvw (T.take kA ++ (⟨s, ⟨none, [], 0⟩, 0⟩ : RFile) :: T.drop kA)) s = true := by rw [hv1]; unfold mhas; rw [insV_get _ (no_mem hq), if_pos rfl]; rfl
            obtain ⟨i, hi, hfi, hin⟩ := rfi_at hq1; have hg := rget hnd1 hi; rw [hin, hv1, insV_get _ (no_mem hq), if_pos rfl] at hg; have hb0 : ((T.take kA ++ (⟨s, ⟨none, [], 0⟩, 0⟩ : RFile) :: T.drop kA).getD i default).B.xs = [] := congrArg Prod.fst (Option.some.inj hg).symm; have hs0 : ((T.take kA ++ (⟨s, ⟨none, [], 0⟩, 0⟩ : RFile) :: T.drop kA).getD i default).Safe = 0 := congrArg Prod.snd (Option.some.inj hg).symm; have hlt1 : (T.take kA ++ (⟨s, ⟨none, [], 0⟩, 0⟩ : RFile) :: T.drop kA).length = T.length + 1 := by simp; omega
            refine e_mv rfl (e_mv rfl (e_fn Tryz.func82 rfl sl_ (fun ρ' hL => rfind_spec r room aA cA e (decR e c) (T.take kA ++ (⟨s, ⟨none, [], 0⟩, 0⟩ : RFile) :: T.drop kA) s ρ') ?_)); rintro _ _ ⟨rfl, rfl⟩
            try simp only [lc_, ln_]
            rw [hfi]; refine e_as rfl (l_n (c_seq (sr ?_))); refine Tr.ent (Ent.trans (Ent.pick (A := RB 5 (T.take kA ++ (⟨s, ⟨none, [], 0⟩, 0⟩ : RFile) :: T.drop kA)) pk_ (Ent.refl _)) (rb_open (T := (T.take kA ++ (⟨s, ⟨none, [], 0⟩, 0⟩ : RFile) :: T.drop kA)) (i := i) (by omega))) ?_; have hX0 : (((T.take kA ++ (⟨s, ⟨none, [], 0⟩, 0⟩ : RFile) :: T.drop kA).getD i default).B.xs ++ catS (bs.take 0)) = ((T.take kA ++ (⟨s, ⟨none, [], 0⟩, 0⟩ : RFile) :: T.drop kA).getD i default).B.xs := by simp [catS]
            have hS0 : (T.take kA ++ (⟨s, ⟨none, [], 0⟩, 0⟩ : RFile) :: T.drop kA).set i (⟨((T.take kA ++ (⟨s, ⟨none, [], 0⟩, 0⟩ : RFile) :: T.drop kA).getD i default).Name, ⟨((T.take kA ++ (⟨s, ⟨none, [], 0⟩, 0⟩ : RFile) :: T.drop kA).getD i default).B.a, ((T.take kA ++ (⟨s, ⟨none, [], 0⟩, 0⟩ : RFile) :: T.drop kA).getD i default).B.xs, ((T.take kA ++ (⟨s, ⟨none, [], 0⟩, 0⟩ : RFile) :: T.drop kA).getD i default).B.cap⟩, ((T.take kA ++ (⟨s, ⟨none, [], 0⟩, 0⟩ : RFile) :: T.drop kA).getD i default).Safe⟩ : RFile) = (T.take kA ++ (⟨s, ⟨none, [], 0⟩, 0⟩ : RFile) :: T.drop kA) := set_self hi; refine Tr.ent (Γ' := .row 5 1 (((T.take kA ++ (⟨s, ⟨none, [], 0⟩, 0⟩ : RFile) :: T.drop kA).getD i default).B.a) ((((T.take kA ++ (⟨s, ⟨none, [], 0⟩, 0⟩ : RFile) :: T.drop kA).getD i default).B.xs ++ catS (bs.take 0)).length) (((T.take kA ++ (⟨s, ⟨none, [], 0⟩, 0⟩ : RFile) :: T.drop kA).getD i default).B.cap) ((((T.take kA ++ (⟨s, ⟨none, [], 0⟩, 0⟩ : RFile) :: T.drop kA).getD i default).B.xs ++ catS (bs.take 0)).flatMap encB) :: Bun (((T.take kA ++ (⟨s, ⟨none, [], 0⟩, 0⟩ : RFile) :: T.drop kA).map (R1 5)).eraseIdx i) :: .pts r (encRDisk (⟨room, ⟨aA, (T.take kA ++ (⟨s, ⟨none, [], 0⟩, 0⟩ : RFile) :: T.drop kA).length, cA⟩, e, (decR e c)⟩ : RDisk)) 56 :: .row 162 3 aA ((T.take kA ++ (⟨s, ⟨none, [], 0⟩, 0⟩ : RFile) :: T.drop kA).length) cA (((T.take kA ++ (⟨s, ⟨none, [], 0⟩, 0⟩ : RFile) :: T.drop kA).set i (⟨((T.take kA ++ (⟨s, ⟨none, [], 0⟩, 0⟩ : RFile) :: T.drop kA).getD i default).Name, ⟨((T.take kA ++ (⟨s, ⟨none, [], 0⟩, 0⟩ : RFile) :: T.drop kA).getD i default).B.a, (((T.take kA ++ (⟨s, ⟨none, [], 0⟩, 0⟩ : RFile) :: T.drop kA).getD i default).B.xs ++ catS (bs.take 0)), ((T.take kA ++ (⟨s, ⟨none, [], 0⟩, 0⟩ : RFile) :: T.drop kA).getD i default).B.cap⟩, ((T.take kA ++ (⟨s, ⟨none, [], 0⟩, 0⟩ : RFile) :: T.drop kA).getD i default).Safe⟩ : RFile)).flatMap encRFile) :: Δ) (Ent.cast (by rw [hX0, hS0]; rfl)) ?_; refine e_as rfl (l_n (c_block ?_)); refine Tr.env (σ' := [(0, _), (2, _), (6, _), (9, _), (10, _)]) ev_ ?_; refine t_loop (ι := Lp (Nat × Option Addr × Nat)) (fun y => y.d.1 ≤ bs_n) (fun y => bs_n - y.d.1) (fun y => [(0, .pointer (some ⟨r, 0, none⟩)), (2, .slice bs_a bs_n bs_c), (6, .int .i64 0), (9, .int .i64 (i : Int)), (10, .int .i64 (y.d.1 : Int))]) (fun y => .row 5 1 y.d.2.1 ((((T.take kA ++ (⟨s, ⟨none, [], 0⟩, 0⟩ : RFile) :: T.drop kA).getD i default).B.xs ++ catS (bs.take y.d.1)).length) y.d.2.2 ((((T.take kA ++ (⟨s, ⟨none, [], 0⟩, 0⟩ : RFile) :: T.drop kA).getD i default).B.xs ++ catS (bs.take y.d.1)).flatMap encB) :: Bun (((T.take kA ++ (⟨s, ⟨none, [], 0⟩, 0⟩ : RFile) :: T.drop kA).map (R1 5)).eraseIdx i) :: .pts r (encRDisk (⟨room, ⟨aA, (T.take kA ++ (⟨s, ⟨none, [], 0⟩, 0⟩ : RFile) :: T.drop kA).length, cA⟩, e, (decR e c)⟩ : RDisk)) 56 :: .row 162 3 aA ((T.take kA ++ (⟨s, ⟨none, [], 0⟩, 0⟩ : RFile) :: T.drop kA).length) cA (((T.take kA ++ (⟨s, ⟨none, [], 0⟩, 0⟩ : RFile) :: T.drop kA).set i (⟨((T.take kA ++ (⟨s, ⟨none, [], 0⟩, 0⟩ : RFile) :: T.drop kA).getD i default).Name, ⟨y.d.2.1, (((T.take kA ++ (⟨s, ⟨none, [], 0⟩, 0⟩ : RFile) :: T.drop kA).getD i default).B.xs ++ catS (bs.take y.d.1)), y.d.2.2⟩, ((T.take kA ++ (⟨s, ⟨none, [], 0⟩, 0⟩ : RFile) :: T.drop kA).getD i default).Safe⟩ : RFile)).flatMap encRFile) :: Δ) (⟨(0, ((T.take kA ++ (⟨s, ⟨none, [], 0⟩, 0⟩ : RFile) :: T.drop kA).getD i default).B.a, ((T.take kA ++ (⟨s, ⟨none, [], 0⟩, 0⟩ : RFile) :: T.drop kA).getD i default).B.cap), none, 0, none, 0, none, 0⟩ : Lp _) (Nat.zero_le _) ?_ ?_ ?_
            · exact .c (.c (.c (.c (.c (.nil _)))))
            · exact en_
            intro y hy; have hi9 : i < ((T.take kA ++ (⟨s, ⟨none, [], 0⟩, 0⟩ : RFile) :: T.drop kA).set i (⟨((T.take kA ++ (⟨s, ⟨none, [], 0⟩, 0⟩ : RFile) :: T.drop kA).getD i default).Name, ⟨y.d.2.1, (((T.take kA ++ (⟨s, ⟨none, [], 0⟩, 0⟩ : RFile) :: T.drop kA).getD i default).B.xs ++ catS (bs.take y.d.1)), y.d.2.2⟩, ((T.take kA ++ (⟨s, ⟨none, [], 0⟩, 0⟩ : RFile) :: T.drop kA).getD i default).Safe⟩ : RFile)).length := by rw [List.length_set]; exact hi
            have hct := catS_take bs y.d.1; have hct1 := catS_take bs (y.d.1 + 1); have huE : ((T.take kA ++ (⟨s, ⟨none, [], 0⟩, 0⟩ : RFile) :: T.drop kA).getD i default).B.xs.length ≤ usedR T := by rw [hb0]; exact Nat.zero_le _
            refine c_seq (sr (e_mv rfl (e_mv rfl (e_q (q_len Tryz.underlying37 rfl) ?_)))); refine e_q (q_lss rfl rfl) (l_n ?_); refine c_cond rfl (fun h5 => ?_) (fun h5 => ?_)
            · try simp only [dt_, df_] at h5
              have hct2 : (catS (bs.take (y.d.1 + 1))).length = (catS (bs.take y.d.1)).length + (bs.getD y.d.1 default).xs.length := by rw [take_succ_getD _ _ (by omega), catS_snoc, List.length_append]
              refine c_skip (k_then_n (c_seq (c_block (d_r 21 [Bun (((T.take kA ++ (⟨s, ⟨none, [], 0⟩, 0⟩ : RFile) :: T.drop kA).map (R1 5)).eraseIdx i), .pts r (encRDisk (⟨room, ⟨aA, (T.take kA ++ (⟨s, ⟨none, [], 0⟩, 0⟩ : RFile) :: T.drop kA).length, cA⟩, e, (decR e c)⟩ : RDisk)) 56] ?_)))); refine d_t 0 rfl wn (q_move rfl) ?_; refine d_t 1 rfl wn (q_nilCheck rfl) ?_; refine d_t 2 rfl wn (q_fieldp rfl fo_56_1) ?_; refine d_t 3 rfl wn (q_loadp (v := .slice aA ((T.take kA ++ (⟨s, ⟨none, [], 0⟩, 0⟩ : RFile) :: T.drop kA).length) cA) sc_54 rfl pk_ rfl) ?_; refine d_t 4 rfl wn (q_move rfl) ?_; refine d_t 5 rfl wn (q_move rfl) ?_; refine d_t 6 rfl wn (q_nilCheck rfl) ?_; refine d_t 7 rfl wn (q_fieldp rfl fo_56_1) ?_; refine d_t 8 rfl wn (q_loadp (v := .slice aA ((T.take kA ++ (⟨s, ⟨none, [], 0⟩, 0⟩ : RFile) :: T.drop kA).length) cA) sc_54 rfl pk_ rfl) ?_; refine d_t 9 rfl wn (q_move rfl) ?_; refine d_t 13 rfl wn (q_move rfl) ?_; refine d_t 14 rfl wn (q_move rfl) ?_; refine d_t 15 rfl wn (q_indexe y.d.1 Tryz.underlying37 sz_22 rfl rfl (by first | assumption | exact rd_ro (by assumption) | exact rd_bun (L := ((T.take kA ++ (⟨s, ⟨none, [], 0⟩, 0⟩ : RFile) :: T.drop kA).map (R1 5)).eraseIdx i) pk_ (in_map _ (by first | assumption | omega | (simp only [lk_, le_]; omega) | decide) rfl) | exact rd_row pk_) (by decide) rfl (by first | assumption | omega | (simp only [lk_, le_]; omega))) ?_; refine d_t 16 rfl wn (q_loade (enc := encSL) (xs := bs) (j := y.d.1) (off := 0) sc_22 rfl (by first | assumption | exact rd_ro (by assumption) | exact rd_bun (L := ((T.take kA ++ (⟨s, ⟨none, [], 0⟩, 0⟩ : RFile) :: T.drop kA).map (R1 5)).eraseIdx i) pk_ (in_map _ (by first | assumption | omega | (simp only [lk_, le_]; omega) | decide) rfl) | exact rd_row pk_) (fun _ => rfl) (by first | assumption | omega | (simp only [lk_, le_]; omega)) (by decide) rfl) ?_; refine d_1 10 ?_; refine o_step rfl (s_q rfl wn (q_indexe i Tryz.underlying54 sz_162 rfl rfl (rd_row pk_) (by decide) rfl (by first | assumption | omega | (simp only [lk_, le_]; omega))) ?_); refine d_c (d_t 11 rfl wn (q_fielde rfl fo_162_1) ?_); refine d_1 12 ?_; refine o_step rfl (s_q rfl wn (q_as (v := .slice y.d.2.1 (((T.take kA ++ (⟨s, ⟨none, [], 0⟩, 0⟩ : RFile) :: T.drop kA).getD i default).B.xs ++ catS (bs.take y.d.1)).length y.d.2.2) (q_loade (enc := encRFile) (xs := ((T.take kA ++ (⟨s, ⟨none, [], 0⟩, 0⟩ : RFile) :: T.drop kA).set i (⟨((T.take kA ++ (⟨s, ⟨none, [], 0⟩, 0⟩ : RFile) :: T.drop kA).getD i default).Name, ⟨y.d.2.1, (((T.take kA ++ (⟨s, ⟨none, [], 0⟩, 0⟩ : RFile) :: T.drop kA).getD i default).B.xs ++ catS (bs.take y.d.1)), y.d.2.2⟩, ((T.take kA ++ (⟨s, ⟨none, [], 0⟩, 0⟩ : RFile) :: T.drop kA).getD i default).Safe⟩ : RFile))) (j := i) (off := 1) sc_22 rfl (rd_row pk_) (fun _ => rfl) hi9 (by decide) rfl) (by rw [getD_set hi]; rfl)) ?_); refine d_c (d_1 17 ?_); refine o_step rfl (s_s rfl wn (s_appendn (enc := encB) (xs := ((((T.take kA ++ (⟨s, ⟨none, [], 0⟩, 0⟩ : RFile) :: T.drop kA).getD i default).B.xs ++ catS (bs.take y.d.1)) : List UInt8)) (ys := ((bs.getD y.d.1 default).xs : List UInt8)) (Γ' := fun a' cap' => _) Tryz.underlying22 eo_5 (by decide) rfl rfl (rd_ro (hbm _ (getD_in (by omega)))) (oneB _) (by first | omega | (simp only [List.length_append, List.length_cons, List.length_nil] at *; omega)) (by first | omega | (simp only [List.length_append, List.length_cons, List.length_nil] at *; omega)) (fun _ _ => pk_)) ?_); rintro _ _ ⟨a80, c80, rfl, rfl⟩; refine d_c (d_1 18 ?_); refine o_step rfl (s_q rfl wn (q_indexe i Tryz.underlying54 sz_162 rfl rfl (rd_row pk_) (by decide) rfl (by first | assumption | omega | (simp only [lk_, le_]; omega))) ?_); refine d_c (d_t 19 rfl wn (q_fielde rfl fo_162_1) ?_); refine d_1 20 ?_; rw [show (((T.take kA ++ (⟨s, ⟨none, [], 0⟩, 0⟩ : RFile) :: T.drop kA).getD i default).B.xs ++ catS (bs.take y.d.1)).length + (bs.getD y.d.1 default).xs.length = ((((T.take kA ++ (⟨s, ⟨none, [], 0⟩, 0⟩ : RFile) :: T.drop kA).getD i default).B.xs ++ catS (bs.take y.d.1)) ++ (bs.getD y.d.1 default).xs).length from (List.length_append ..).symm]; refine o_step rfl (s_s0 wn (s_storee (ws := [.slice a80 (((((T.take kA ++ (⟨s, ⟨none, [], 0⟩, 0⟩ : RFile) :: T.drop kA).getD i default).B.xs ++ catS (bs.take y.d.1)) ++ (bs.getD y.d.1 default).xs).length) c80]) (enc := encRFile) (xs := ((T.take kA ++ (⟨s, ⟨none, [], 0⟩, 0⟩ : RFile) :: T.drop kA).set i (⟨((T.take kA ++ (⟨s, ⟨none, [], 0⟩, 0⟩ : RFile) :: T.drop kA).getD i default).Name, ⟨y.d.2.1, (((T.take kA ++ (⟨s, ⟨none, [], 0⟩, 0⟩ : RFile) :: T.drop kA).getD i default).B.xs ++ catS (bs.take y.d.1)), y.d.2.2⟩, ((T.take kA ++ (⟨s, ⟨none, [], 0⟩, 0⟩ : RFile) :: T.drop kA).getD i default).Safe⟩ : RFile))) (j := i) (off := 1) (⟨(((T.take kA ++ (⟨s, ⟨none, [], 0⟩, 0⟩ : RFile) :: T.drop kA).set i (⟨((T.take kA ++ (⟨s, ⟨none, [], 0⟩, 0⟩ : RFile) :: T.drop kA).getD i default).Name, ⟨y.d.2.1, (((T.take kA ++ (⟨s, ⟨none, [], 0⟩, 0⟩ : RFile) :: T.drop kA).getD i default).B.xs ++ catS (bs.take y.d.1)), y.d.2.2⟩, ((T.take kA ++ (⟨s, ⟨none, [], 0⟩, 0⟩ : RFile) :: T.drop kA).getD i default).Safe⟩ : RFile)).getD i default).Name, ⟨a80, ((((T.take kA ++ (⟨s, ⟨none, [], 0⟩, 0⟩ : RFile) :: T.drop kA).getD i default).B.xs ++ catS (bs.take y.d.1)) ++ (bs.getD y.d.1 default).xs), c80⟩, (((T.take kA ++ (⟨s, ⟨none, [], 0⟩, 0⟩ : RFile) :: T.drop kA).set i (⟨((T.take kA ++ (⟨s, ⟨none, [], 0⟩, 0⟩ : RFile) :: T.drop kA).getD i default).Name, ⟨y.d.2.1, (((T.take kA ++ (⟨s, ⟨none, [], 0⟩, 0⟩ : RFile) :: T.drop kA).getD i default).B.xs ++ catS (bs.take y.d.1)), y.d.2.2⟩, ((T.take kA ++ (⟨s, ⟨none, [], 0⟩, 0⟩ : RFile) :: T.drop kA).getD i default).Safe⟩ : RFile)).getD i default).Safe⟩ : RFile) rfl rfl rfl sz_22 (by simp) (by simp [Value.oneCell', strB, ptV, SL.v]) pk_ (fun _ => rfl) (by first | assumption | omega | (simp only [lk_, le_]; omega)) (by simp) (by first | rfl | simp [encRFile])) ?_); rintro _ _ ⟨rfl, rfl⟩; refine d_c (d_d ?_); refine k_blk_n (k_then_n (c_region (e_mv rfl (e_q (q_add rfl rfl (by omega) (by omega)) ?_)))); refine e_as rfl (l_n ?_); have hYX : (((T.take kA ++ (⟨s, ⟨none, [], 0⟩, 0⟩ : RFile) :: T.drop kA).getD i default).B.xs ++ catS (bs.take y.d.1)) ++ (bs.getD y.d.1 default).xs = (((T.take kA ++ (⟨s, ⟨none, [], 0⟩, 0⟩ : RFile) :: T.drop kA).getD i default).B.xs ++ catS (bs.take (y.d.1 + 1))) := by rw [take_succ_getD _ _ (by omega), catS_snoc, List.append_assoc]
              rw [hYX]; have hTT : ((T.take kA ++ (⟨s, ⟨none, [], 0⟩, 0⟩ : RFile) :: T.drop kA).set i (⟨((T.take kA ++ (⟨s, ⟨none, [], 0⟩, 0⟩ : RFile) :: T.drop kA).getD i default).Name, ⟨y.d.2.1, (((T.take kA ++ (⟨s, ⟨none, [], 0⟩, 0⟩ : RFile) :: T.drop kA).getD i default).B.xs ++ catS (bs.take y.d.1)), y.d.2.2⟩, ((T.take kA ++ (⟨s, ⟨none, [], 0⟩, 0⟩ : RFile) :: T.drop kA).getD i default).Safe⟩ : RFile)).set i (⟨(((T.take kA ++ (⟨s, ⟨none, [], 0⟩, 0⟩ : RFile) :: T.drop kA).set i (⟨((T.take kA ++ (⟨s, ⟨none, [], 0⟩, 0⟩ : RFile) :: T.drop kA).getD i default).Name, ⟨y.d.2.1, (((T.take kA ++ (⟨s, ⟨none, [], 0⟩, 0⟩ : RFile) :: T.drop kA).getD i default).B.xs ++ catS (bs.take y.d.1)), y.d.2.2⟩, ((T.take kA ++ (⟨s, ⟨none, [], 0⟩, 0⟩ : RFile) :: T.drop kA).getD i default).Safe⟩ : RFile)).getD i default).Name, ⟨a80, (((T.take kA ++ (⟨s, ⟨none, [], 0⟩, 0⟩ : RFile) :: T.drop kA).getD i default).B.xs ++ catS (bs.take (y.d.1 + 1))), c80⟩, (((T.take kA ++ (⟨s, ⟨none, [], 0⟩, 0⟩ : RFile) :: T.drop kA).set i (⟨((T.take kA ++ (⟨s, ⟨none, [], 0⟩, 0⟩ : RFile) :: T.drop kA).getD i default).Name, ⟨y.d.2.1, (((T.take kA ++ (⟨s, ⟨none, [], 0⟩, 0⟩ : RFile) :: T.drop kA).getD i default).B.xs ++ catS (bs.take y.d.1)), y.d.2.2⟩, ((T.take kA ++ (⟨s, ⟨none, [], 0⟩, 0⟩ : RFile) :: T.drop kA).getD i default).Safe⟩ : RFile)).getD i default).Safe⟩ : RFile) = ((T.take kA ++ (⟨s, ⟨none, [], 0⟩, 0⟩ : RFile) :: T.drop kA).set i (⟨((T.take kA ++ (⟨s, ⟨none, [], 0⟩, 0⟩ : RFile) :: T.drop kA).getD i default).Name, ⟨a80, (((T.take kA ++ (⟨s, ⟨none, [], 0⟩, 0⟩ : RFile) :: T.drop kA).getD i default).B.xs ++ catS (bs.take (y.d.1 + 1))), c80⟩, ((T.take kA ++ (⟨s, ⟨none, [], 0⟩, 0⟩ : RFile) :: T.drop kA).getD i default).Safe⟩ : RFile)) := by rw [getD_set hi, List.set_set]
              rw [hTT]; exact t_nx (⟨(y.d.1 + 1, a80, c80), none, 0, none, 0, none, 0⟩ : Lp _) ⟨by (try simp only []); omega, by (try simp only []); omega⟩ (.c (.c (.c (.c (.c (.nil _))))))
            · try simp only [dt_, df_] at h5
              refine c_exit (k_then_x (k_then_x (k_blk_x (k_then_n (sr (e_as rfl (l_n (c_ret ?_)))))))); have hk2 : y.d.1 = bs.length := by omega
              rw [hk2, List.take_length]; refine Tr.ent (Ent.trans (Ent.pick (A := R1 5 (⟨((T.take kA ++ (⟨s, ⟨none, [], 0⟩, 0⟩ : RFile) :: T.drop kA).getD i default).Name, ⟨y.d.2.1, (((T.take kA ++ (⟨s, ⟨none, [], 0⟩, 0⟩ : RFile) :: T.drop kA).getD i default).B.xs ++ catS bs), y.d.2.2⟩, ((T.take kA ++ (⟨s, ⟨none, [], 0⟩, 0⟩ : RFile) :: T.drop kA).getD i default).Safe⟩ : RFile)) pk_ (Ent.pick (A := Bun (((T.take kA ++ (⟨s, ⟨none, [], 0⟩, 0⟩ : RFile) :: T.drop kA).map (R1 5)).eraseIdx i)) pk_ (Ent.refl _))) (rb_set (T := (T.take kA ++ (⟨s, ⟨none, [], 0⟩, 0⟩ : RFile) :: T.drop kA)) (i := i) (by omega) (⟨((T.take kA ++ (⟨s, ⟨none, [], 0⟩, 0⟩ : RFile) :: T.drop kA).getD i default).Name, ⟨y.d.2.1, (((T.take kA ++ (⟨s, ⟨none, [], 0⟩, 0⟩ : RFile) :: T.drop kA).getD i default).B.xs ++ catS bs), y.d.2.2⟩, ((T.take kA ++ (⟨s, ⟨none, [], 0⟩, 0⟩ : RFile) :: T.drop kA).getD i default).Safe⟩ : RFile))) ?_; rw [show (T.take kA ++ (⟨s, ⟨none, [], 0⟩, 0⟩ : RFile) :: T.drop kA).length = ((T.take kA ++ (⟨s, ⟨none, [], 0⟩, 0⟩ : RFile) :: T.drop kA).set i (⟨((T.take kA ++ (⟨s, ⟨none, [], 0⟩, 0⟩ : RFile) :: T.drop kA).getD i default).Name, ⟨y.d.2.1, (((T.take kA ++ (⟨s, ⟨none, [], 0⟩, 0⟩ : RFile) :: T.drop kA).getD i default).B.xs ++ catS bs), y.d.2.2⟩, ((T.take kA ++ (⟨s, ⟨none, [], 0⟩, 0⟩ : RFile) :: T.drop kA).getD i default).Safe⟩ : RFile)).length from (List.length_set ..).symm]; have hr : (appI room (cI e c) (rvw T) s (catS bs)) = (0, rvw ((T.take kA ++ (⟨s, ⟨none, [], 0⟩, 0⟩ : RFile) :: T.drop kA).set i (⟨((T.take kA ++ (⟨s, ⟨none, [], 0⟩, 0⟩ : RFile) :: T.drop kA).getD i default).Name, ⟨y.d.2.1, (((T.take kA ++ (⟨s, ⟨none, [], 0⟩, 0⟩ : RFile) :: T.drop kA).getD i default).B.xs ++ catS bs), y.d.2.2⟩, ((T.take kA ++ (⟨s, ⟨none, [], 0⟩, 0⟩ : RFile) :: T.drop kA).getD i default).Safe⟩ : RFile))) := by unfold appI; rw [if_neg h0, if_neg (by rw [hnb]; decide), if_neg (by rw [usedR_vw, rvw_len, h3]; decide), if_neg (by rw [hq]; decide), rset hnd1 hi (⟨((T.take kA ++ (⟨s, ⟨none, [], 0⟩, 0⟩ : RFile) :: T.drop kA).getD i default).Name, ⟨y.d.2.1, (((T.take kA ++ (⟨s, ⟨none, [], 0⟩, 0⟩ : RFile) :: T.drop kA).getD i default).B.xs ++ catS bs), y.d.2.2⟩, ((T.take kA ++ (⟨s, ⟨none, [], 0⟩, 0⟩ : RFile) :: T.drop kA).getD i default).Safe⟩ : RFile) rfl, hin, hv1, hb0, hs0]; exact congrArg (Prod.mk 0) (insV_set _ _ (no_mem hq)).symm
              exact t_rt [.pts r (encRDisk (⟨room, ⟨aA, ((T.take kA ++ (⟨s, ⟨none, [], 0⟩, 0⟩ : RFile) :: T.drop kA).set i (⟨((T.take kA ++ (⟨s, ⟨none, [], 0⟩, 0⟩ : RFile) :: T.drop kA).getD i default).Name, ⟨y.d.2.1, (((T.take kA ++ (⟨s, ⟨none, [], 0⟩, 0⟩ : RFile) :: T.drop kA).getD i default).B.xs ++ catS bs), y.d.2.2⟩, ((T.take kA ++ (⟨s, ⟨none, [], 0⟩, 0⟩ : RFile) :: T.drop kA).getD i default).Safe⟩ : RFile)).length, cA⟩, e, (decR e c)⟩ : RDisk)) 56, .row 162 3 aA ((T.take kA ++ (⟨s, ⟨none, [], 0⟩, 0⟩ : RFile) :: T.drop kA).set i (⟨((T.take kA ++ (⟨s, ⟨none, [], 0⟩, 0⟩ : RFile) :: T.drop kA).getD i default).Name, ⟨y.d.2.1, (((T.take kA ++ (⟨s, ⟨none, [], 0⟩, 0⟩ : RFile) :: T.drop kA).getD i default).B.xs ++ catS bs), y.d.2.2⟩, ((T.take kA ++ (⟨s, ⟨none, [], 0⟩, 0⟩ : RFile) :: T.drop kA).getD i default).Safe⟩ : RFile)).length cA (((T.take kA ++ (⟨s, ⟨none, [], 0⟩, 0⟩ : RFile) :: T.drop kA).set i (⟨((T.take kA ++ (⟨s, ⟨none, [], 0⟩, 0⟩ : RFile) :: T.drop kA).getD i default).Name, ⟨y.d.2.1, (((T.take kA ++ (⟨s, ⟨none, [], 0⟩, 0⟩ : RFile) :: T.drop kA).getD i default).B.xs ++ catS bs), y.d.2.2⟩, ((T.take kA ++ (⟨s, ⟨none, [], 0⟩, 0⟩ : RFile) :: T.drop kA).getD i default).Safe⟩ : RFile)).flatMap encRFile), RB 5 ((T.take kA ++ (⟨s, ⟨none, [], 0⟩, 0⟩ : RFile) :: T.drop kA).set i (⟨((T.take kA ++ (⟨s, ⟨none, [], 0⟩, 0⟩ : RFile) :: T.drop kA).getD i default).Name, ⟨y.d.2.1, (((T.take kA ++ (⟨s, ⟨none, [], 0⟩, 0⟩ : RFile) :: T.drop kA).getD i default).B.xs ++ catS bs), y.d.2.2⟩, ((T.take kA ++ (⟨s, ⟨none, [], 0⟩, 0⟩ : RFile) :: T.drop kA).getD i default).Safe⟩ : RFile))] rfl (.tmp rfl .nil) rfl ⟨rfl, aA, cA, ((T.take kA ++ (⟨s, ⟨none, [], 0⟩, 0⟩ : RFile) :: T.drop kA).set i (⟨((T.take kA ++ (⟨s, ⟨none, [], 0⟩, 0⟩ : RFile) :: T.drop kA).getD i default).Name, ⟨y.d.2.1, (((T.take kA ++ (⟨s, ⟨none, [], 0⟩, 0⟩ : RFile) :: T.drop kA).getD i default).B.xs ++ catS bs), y.d.2.2⟩, ((T.take kA ++ (⟨s, ⟨none, [], 0⟩, 0⟩ : RFile) :: T.drop kA).getD i default).Safe⟩ : RFile)), by rw [hr]; rfl, by rw [hr], rfl⟩
          · skip
            have hq : mhas (rvw T) s = true := by simpa using h4
            obtain ⟨i, hi, hfi, hin⟩ := rfi_at hq; have hg := rget hnd hi; rw [hin] at hg; rw [hfi]; refine c_skip (k_then_n (c_seq (sr ?_))); refine Tr.ent (Ent.trans (Ent.pick (A := RB 5 T) pk_ (Ent.refl _)) (rb_open (T := T) (i := i) (by omega))) ?_; have hX0 : ((T.getD i default).B.xs ++ catS (bs.take 0)) = (T.getD i default).B.xs := by simp [catS]
            have hS0 : T.set i (⟨(T.getD i default).Name, ⟨(T.getD i default).B.a, (T.getD i default).B.xs, (T.getD i default).B.cap⟩, (T.getD i default).Safe⟩ : RFile) = T := set_self hi; refine Tr.ent (Γ' := .row 5 1 ((T.getD i default).B.a) (((T.getD i default).B.xs ++ catS (bs.take 0)).length) ((T.getD i default).B.cap) (((T.getD i default).B.xs ++ catS (bs.take 0)).flatMap encB) :: Bun ((T.map (R1 5)).eraseIdx i) :: .pts r (encRDisk (⟨room, ⟨la, T.length, lc⟩, e, (decR e c)⟩ : RDisk)) 56 :: .row 162 3 la T.length lc ((T.set i (⟨(T.getD i default).Name, ⟨(T.getD i default).B.a, ((T.getD i default).B.xs ++ catS (bs.take 0)), (T.getD i default).B.cap⟩, (T.getD i default).Safe⟩ : RFile)).flatMap encRFile) :: Δ) (Ent.cast (by rw [hX0, hS0]; rfl)) ?_; refine e_as rfl (l_n (c_block ?_)); refine Tr.env (σ' := [(0, _), (2, _), (6, _), (9, _), (10, _)]) ev_ ?_; refine t_loop (ι := Lp (Nat × Option Addr × Nat)) (fun y => y.d.1 ≤ bs_n) (fun y => bs_n - y.d.1) (fun y => [(0, .pointer (some ⟨r, 0, none⟩)), (2, .slice bs_a bs_n bs_c), (6, .int .i64 0), (9, .int .i64 (i : Int)), (10, .int .i64 (y.d.1 : Int))]) (fun y => .row 5 1 y.d.2.1 (((T.getD i default).B.xs ++ catS (bs.take y.d.1)).length) y.d.2.2 (((T.getD i default).B.xs ++ catS (bs.take y.d.1)).flatMap encB) :: Bun ((T.map (R1 5)).eraseIdx i) :: .pts r (encRDisk (⟨room, ⟨la, T.length, lc⟩, e, (decR e c)⟩ : RDisk)) 56 :: .row 162 3 la T.length lc ((T.set i (⟨(T.getD i default).Name, ⟨y.d.2.1, ((T.getD i default).B.xs ++ catS (bs.take y.d.1)), y.d.2.2⟩, (T.getD i default).Safe⟩ : RFile)).flatMap encRFile) :: Δ) (⟨(0, (T.getD i default).B.a, (T.getD i default).B.cap), none, 0, none, 0, none, 0⟩ : Lp _) (Nat.zero_le _) ?_ ?_ ?_
            · exact .c (.c (.c (.c (.c (.nil _)))))
            · exact en_
            intro y hy; have hi9 : i < (T.set i (⟨(T.getD i default).Name, ⟨y.d.2.1, ((T.getD i default).B.xs ++ catS (bs.take y.d.1)), y.d.2.2⟩, (T.getD i default).Safe⟩ : RFile)).length := by rw [List.length_set]; exact hi
            have hct := catS_take bs y.d.1; have hct1 := catS_take bs (y.d.1 + 1); have huE : (T.getD i default).B.xs.length ≤ usedR T := usedR_at hi; refine c_seq (sr (e_mv rfl (e_mv rfl (e_q (q_len Tryz.underlying37 rfl) ?_)))); refine e_q (q_lss rfl rfl) (l_n ?_); refine c_cond rfl (fun h5 => ?_) (fun h5 => ?_)
            · try simp only [dt_, df_] at h5
              have hct2 : (catS (bs.take (y.d.1 + 1))).length = (catS (bs.take y.d.1)).length + (bs.getD y.d.1 default).xs.length := by rw [take_succ_getD _ _ (by omega), catS_snoc, List.length_append]
              refine c_skip (k_then_n (c_seq (c_block (d_r 21 [Bun ((T.map (R1 5)).eraseIdx i), .pts r (encRDisk (⟨room, ⟨la, T.length, lc⟩, e, (decR e c)⟩ : RDisk)) 56] ?_)))); refine d_t 0 rfl wn (q_move rfl) ?_; refine d_t 1 rfl wn (q_nilCheck rfl) ?_; refine d_t 2 rfl wn (q_fieldp rfl fo_56_1) ?_; refine d_t 3 rfl wn (q_loadp (v := .slice la T.length lc) sc_54 rfl pk_ rfl) ?_; refine d_t 4 rfl wn (q_move rfl) ?_; refine d_t 5 rfl wn (q_move rfl) ?_; refine d_t 6 rfl wn (q_nilCheck rfl) ?_; refine d_t 7 rfl wn (q_fieldp rfl fo_56_1) ?_; refine d_t 8 rfl wn (q_loadp (v := .slice la T.length lc) sc_54 rfl pk_ rfl) ?_; refine d_t 9 rfl wn (q_move rfl) ?_; refine d_t 13 rfl wn (q_move rfl) ?_; refine d_t 14 rfl wn (q_move rfl) ?_; refine d_t 15 rfl wn (q_indexe y.d.1 Tryz.underlying37 sz_22 rfl rfl (by first | assumption | exact rd_ro (by assumption) | exact rd_bun (L := (T.map (R1 5)).eraseIdx i) pk_ (in_map _ (by first | assumption | omega | (simp only [lk_, le_]; omega) | decide) rfl) | exact rd_row pk_) (by decide) rfl (by first | assumption | omega | (simp only [lk_, le_]; omega))) ?_; refine d_t 16 rfl wn (q_loade (enc := encSL) (xs := bs) (j := y.d.1) (off := 0) sc_22 rfl (by first | assumption | exact rd_ro (by assumption) | exact rd_bun (L := (T.map (R1 5)).eraseIdx i) pk_ (in_map _ (by first | assumption | omega | (simp only [lk_, le_]; omega) | decide) rfl) | exact rd_row pk_) (fun _ => rfl) (by first | assumption | omega | (simp only [lk_, le_]; omega)) (by decide) rfl) ?_; refine d_1 10 ?_; refine o_step rfl (s_q rfl wn (q_indexe i Tryz.underlying54 sz_162 rfl rfl (rd_row pk_) (by decide) rfl (by first | assumption | omega | (simp only [lk_, le_]; omega))) ?_); refine d_c (d_t 11 rfl wn (q_fielde rfl fo_162_1) ?_); refine d_1 12 ?_; refine o_step rfl (s_q rfl wn (q_as (v := .slice y.d.2.1 ((T.getD i default).B.xs ++ catS (bs.take y.d.1)).length y.d.2.2) (q_loade (enc := encRFile) (xs := (T.set i (⟨(T.getD i default).Name, ⟨y.d.2.1, ((T.getD i default).B.xs ++ catS (bs.take y.d.1)), y.d.2.2⟩, (T.getD i default).Safe⟩ : RFile))) (j := i) (off := 1) sc_22 rfl (rd_row pk_) (fun _ => rfl) hi9 (by decide) rfl) (by rw [getD_set hi]; rfl)) ?_); refine d_c (d_1 17 ?_); refine o_step rfl (s_s rfl wn (s_appendn (enc := encB) (xs := (((T.getD i default).B.xs ++ catS (bs.take y.d.1)) : List UInt8)) (ys := ((bs.getD y.d.1 default).xs : List UInt8)) (Γ' := fun a' cap' => _) Tryz.underlying22 eo_5 (by decide) rfl rfl (rd_ro (hbm _ (getD_in (by omega)))) (oneB _) (by first | omega | (simp only [List.length_append, List.length_cons, List.length_nil] at *; omega)) (by first | omega | (simp only [List.length_append, List.length_cons, List.length_nil] at *; omega)) (fun _ _ => pk_)) ?_); rintro _ _ ⟨a80, c80, rfl, rfl⟩; refine d_c (d_1 18 ?_); refine o_step rfl (s_q rfl wn (q_indexe i Tryz.underlying54 sz_162 rfl rfl (rd_row pk_) (by decide) rfl (by first | assumption | omega | (simp only [lk_, le_]; omega))) ?_); refine d_c (d_t 19 rfl wn (q_fielde rfl fo_162_1) ?_); refine d_1 20 ?_; rw [show ((T.getD i default).B.xs ++ catS (bs.take y.d.1)).length + (bs.getD y.d.1 default).xs.length = (((T.getD i default).B.xs ++ catS (bs.take y.d.1)) ++ (bs.getD y.d.1 default).xs).length from (List.length_append ..).symm]; refine o_step rfl (s_s0 wn (s_storee (ws := [.slice a80 ((((T.getD i default).B.xs ++ catS (bs.take y.d.1)) ++ (bs.getD y.d.1 default).xs).length) c80]) (enc := encRFile) (xs := (T.set i (⟨(T.getD i default).Name, ⟨y.d.2.1, ((T.getD i default).B.xs ++ catS (bs.take y.d.1)), y.d.2.2⟩, (T.getD i default).Safe⟩ : RFile))) (j := i) (off := 1) (⟨((T.set i (⟨(T.getD i default).Name, ⟨y.d.2.1, ((T.getD i default).B.xs ++ catS (bs.take y.d.1)), y.d.2.2⟩, (T.getD i default).Safe⟩ : RFile)).getD i default).Name, ⟨a80, (((T.getD i default).B.xs ++ catS (bs.take y.d.1)) ++ (bs.getD y.d.1 default).xs), c80⟩, ((T.set i (⟨(T.getD i default).Name, ⟨y.d.2.1, ((T.getD i default).B.xs ++ catS (bs.take y.d.1)), y.d.2.2⟩, (T.getD i default).Safe⟩ : RFile)).getD i default).Safe⟩ : RFile) rfl rfl rfl sz_22 (by simp) (by simp [Value.oneCell', strB, ptV, SL.v]) pk_ (fun _ => rfl) (by first | assumption | omega | (simp only [lk_, le_]; omega)) (by simp) (by first | rfl | simp [encRFile])) ?_); rintro _ _ ⟨rfl, rfl⟩; refine d_c (d_d ?_); refine k_blk_n (k_then_n (c_region (e_mv rfl (e_q (q_add rfl rfl (by omega) (by omega)) ?_)))); refine e_as rfl (l_n ?_); have hYX : ((T.getD i default).B.xs ++ catS (bs.take y.d.1)) ++ (bs.getD y.d.1 default).xs = ((T.getD i default).B.xs ++ catS (bs.take (y.d.1 + 1))) := by rw [take_succ_getD _ _ (by omega), catS_snoc, List.append_assoc]
              rw [hYX]; have hTT : (T.set i (⟨(T.getD i default).Name, ⟨y.d.2.1, ((T.getD i default).B.xs ++ catS (bs.take y.d.1)), y.d.2.2⟩, (T.getD i default).Safe⟩ : RFile)).set i (⟨((T.set i (⟨(T.getD i default).Name, ⟨y.d.2.1, ((T.getD i default).B.xs ++ catS (bs.take y.d.1)), y.d.2.2⟩, (T.getD i default).Safe⟩ : RFile)).getD i default).Name, ⟨a80, ((T.getD i default).B.xs ++ catS (bs.take (y.d.1 + 1))), c80⟩, ((T.set i (⟨(T.getD i default).Name, ⟨y.d.2.1, ((T.getD i default).B.xs ++ catS (bs.take y.d.1)), y.d.2.2⟩, (T.getD i default).Safe⟩ : RFile)).getD i default).Safe⟩ : RFile) = (T.set i (⟨(T.getD i default).Name, ⟨a80, ((T.getD i default).B.xs ++ catS (bs.take (y.d.1 + 1))), c80⟩, (T.getD i default).Safe⟩ : RFile)) := by rw [getD_set hi, List.set_set]
              rw [hTT]; exact t_nx (⟨(y.d.1 + 1, a80, c80), none, 0, none, 0, none, 0⟩ : Lp _) ⟨by (try simp only []); omega, by (try simp only []); omega⟩ (.c (.c (.c (.c (.c (.nil _))))))
            · try simp only [dt_, df_] at h5
              refine c_exit (k_then_x (k_then_x (k_blk_x (k_then_n (sr (e_as rfl (l_n (c_ret ?_)))))))); have hk2 : y.d.1 = bs.length := by omega
              rw [hk2, List.take_length]; refine Tr.ent (Ent.trans (Ent.pick (A := R1 5 (⟨(T.getD i default).Name, ⟨y.d.2.1, ((T.getD i default).B.xs ++ catS bs), y.d.2.2⟩, (T.getD i default).Safe⟩ : RFile)) pk_ (Ent.pick (A := Bun ((T.map (R1 5)).eraseIdx i)) pk_ (Ent.refl _))) (rb_set (T := T) (i := i) (by omega) (⟨(T.getD i default).Name, ⟨y.d.2.1, ((T.getD i default).B.xs ++ catS bs), y.d.2.2⟩, (T.getD i default).Safe⟩ : RFile))) ?_; rw [show T.length = (T.set i (⟨(T.getD i default).Name, ⟨y.d.2.1, ((T.getD i default).B.xs ++ catS bs), y.d.2.2⟩, (T.getD i default).Safe⟩ : RFile)).length from (List.length_set ..).symm]; have hr : (appI room (cI e c) (rvw T) s (catS bs)) = (0, rvw (T.set i (⟨(T.getD i default).Name, ⟨y.d.2.1, ((T.getD i default).B.xs ++ catS bs), y.d.2.2⟩, (T.getD i default).Safe⟩ : RFile))) := by unfold appI; rw [if_neg h0, if_neg (by rw [hnb]; decide), if_neg (by rw [usedR_vw, rvw_len, h3]; decide), if_pos hq, rset hnd hi (⟨(T.getD i default).Name, ⟨y.d.2.1, ((T.getD i default).B.xs ++ catS bs), y.d.2.2⟩, (T.getD i default).Safe⟩ : RFile) rfl, hin, getD_of hg]
              exact t_rt [.pts r (encRDisk (⟨room, ⟨la, (T.set i (⟨(T.getD i default).Name, ⟨y.d.2.1, ((T.getD i default).B.xs ++ catS bs), y.d.2.2⟩, (T.getD i default).Safe⟩ : RFile)).length, lc⟩, e, (decR e c)⟩ : RDisk)) 56, .row 162 3 la (T.set i (⟨(T.getD i default).Name, ⟨y.d.2.1, ((T.getD i default).B.xs ++ catS bs), y.d.2.2⟩, (T.getD i default).Safe⟩ : RFile)).length lc ((T.set i (⟨(T.getD i default).Name, ⟨y.d.2.1, ((T.getD i default).B.xs ++ catS bs), y.d.2.2⟩, (T.getD i default).Safe⟩ : RFile)).flatMap encRFile), RB 5 (T.set i (⟨(T.getD i default).Name, ⟨y.d.2.1, ((T.getD i default).B.xs ++ catS bs), y.d.2.2⟩, (T.getD i default).Safe⟩ : RFile))] rfl (.tmp rfl .nil) rfl ⟨rfl, la, lc, (T.set i (⟨(T.getD i default).Name, ⟨y.d.2.1, ((T.getD i default).B.xs ++ catS bs), y.d.2.2⟩, (T.getD i default).Safe⟩ : RFile)), by rw [hr]; rfl, by rw [hr], rfl⟩
end Go.Dsk.RE
namespace Go.Dsk.RF
open Go Go.SL Go.Proofs Go.Dsk Go.Dsk.L Go.Dsk.RA Go.Dsk.RB Go.Dsk.RC Go.Dsk.RD Go.Dsk.RE
attribute [local irreducible] Go.SL.Ent
theorem fo_162_1 : fieldOff Tryz.prog 162 1 = some (1, 22) := by kernel_rfl
theorem fo_162_2 : fieldOff Tryz.prog 162 2 = some (2, 3) := by kernel_rfl
theorem fo_56_1 : fieldOff Tryz.prog 56 1 = some (1, 54) := by kernel_rfl
theorem fo_56_2 : fieldOff Tryz.prog 56 2 = some (2, 4) := by kernel_rfl
theorem sc_22 : isScalar Tryz.prog 22 = true := by kernel_rfl
theorem sc_3 : isScalar Tryz.prog 3 = true := by kernel_rfl
theorem sc_54 : isScalar Tryz.prog 54 = true := by kernel_rfl
theorem sz_162 : sizeIs Tryz.prog 162 = some 3 := by kernel_rfl
theorem sz_22 : sizeIs Tryz.prog 22 = some 1 := by kernel_rfl
theorem sz_3 : sizeIs Tryz.prog 3 = some 1 := by kernel_rfl
theorem sz_4 : sizeIs Tryz.prog 4 = some 1 := by kernel_rfl
theorem sz_5 : sizeIs Tryz.prog 5 = some 1 := by kernel_rfl
theorem rcrash_spec (r : Nat) (room : Int) (la : Option Addr) (lc : Nat) (e : Bool) (c : Int) (T : RT) (keep_a : Option Addr) (keep_n keep_c : Nat) (keep : List Int) (hkeep_n : keep.length = keep_n) (ρ : Hp) (hT : VOk (rvw T)) (hro : Ro ρ 1 keep_a keep_n keep_c (keep.flatMap encI)) : Spec0 Tryz.prog 35 #[.pointer (some ⟨r, 0, none⟩), .slice keep_a keep_n keep_c] ρ [.pts r (encRDisk (⟨room, ⟨la, T.length, lc⟩, e, c⟩ : RDisk)) 56, .row 162 3 la T.length lc (T.flatMap encRFile), RB 5 T] (fun v Γ' => ∃ T', v = .int .i64 (crK keep (mkeys (rvw T)) (rvw T) T.length).2 ∧ rvw T' = (crK keep (mkeys (rvw T)) (rvw T) T.length).1 ∧ Γ' = [.pts r (encRDisk (⟨room, ⟨la, T'.length, lc⟩, false, c⟩ : RDisk)) 56, .row 162 3 la T'.length lc (T'.flatMap encRFile), RB 5 T']) := by
  refine spec_of (n := 96) (vs := [_, _]) (σ := [(0, _), (1, _)]) Tryz.func35 rfl rfl rfl rfl fun E Δ => ?_; simp only [lc_, ln_]; have hrob : keep_n ≤ 9223372036854775807 := Nat.le_trans hro.2.1 hro.2.2.1; have hln := rat_ln hT; have hus := rat_us hT; have hnd := rnd hT; refine sr (e_as rfl (l_n (sr (e_mv rfl (e_q (q_nilCheck rfl) (e_q (q_fieldp rfl fo_56_2) ?_)))))); refine l_step (s_s0 wn (s_storep (ws := [.bool false]) (cs := encRDisk (⟨room, ⟨la, T.length, lc⟩, e, c⟩ : RDisk)) (cs' := encRDisk (⟨room, ⟨la, T.length, lc⟩, false, c⟩ : RDisk)) rfl rfl rfl sz_4 (by simp [Value.oneCell', strB, ptV, SL.v, SH.v]) (by simp [encRDisk]) rfl pk_) ?_); rintro _ _ ⟨rfl, rfl⟩; refine l_n (sr (e_as rfl (l_n (c_seq (sr (e_as rfl (l_n (c_block ?_)))))))); refine Tr.env (σ' := [(0, _), (1, _), (4, _), (5, _), (6, _)]) ev_ ?_; refine t_loop (ι := Lp (Nat × RT × Int)) (fun x => x.d.1 ≤ T.length ∧ x.d.2.1.map (·.Name) = T.map (·.Name) ∧ (rvw x.d.2.1, x.d.2.2) = (crK keep (T.map (·.Name)) (rvw T) x.d.1) ∧ (0 ≤ x.d.2.2 ∧ x.d.2.2 + (usedR x.d.2.1 : Int) = usedR T) ∧ ∀ e ∈ x.d.2.1, 0 ≤ e.Safe ∧ e.Safe ≤ (e.B.xs.length : Int)) (fun x => T.length - x.d.1) (fun x => [(0, .pointer (some ⟨r, 0, none⟩)), (1, .slice keep_a keep_n keep_c), (4, .int .i64 0), (5, .int .i64 x.d.2.2), (6, .int .i64 (x.d.1 : Int))]) (fun x => .pts r (encRDisk (⟨room, ⟨la, x.d.2.1.length, lc⟩, false, c⟩ : RDisk)) 56 :: .row 162 3 la x.d.2.1.length lc (x.d.2.1.flatMap encRFile) :: RB 5 x.d.2.1 :: Δ) (⟨(0, T, 0), none, 0, none, 0, none, 0⟩ : Lp _) ⟨Nat.zero_le _, rfl, rfl, ⟨Int.le_refl _, Int.zero_add _⟩, fun e he => hT.sf (rp e) (List.mem_map.2 ⟨e, he, rfl⟩)⟩ ?_ ?_ ?_
  · exact .c (.c (.c (.c (.c (.nil _)))))
  · exact en_
  intro x hx; obtain ⟨hx1, hx2, hx3, hx4, hx5⟩ := hx; have hlx : x.d.2.1.length = T.length := by have := congrArg List.length hx2; simpa using this
  refine c_seq (sr (e_mv rfl (e_mv rfl (e_q (q_nilCheck rfl) (e_q (q_fieldp rfl fo_56_1) ?_))))); refine e_q (q_loadp (v := .slice la x.d.2.1.length lc) sc_54 rfl pk_ rfl) ?_; refine e_q (q_len Tryz.underlying54 rfl) ?_; refine e_q (q_lss rfl rfl) (l_n ?_); refine c_cond rfl (fun h0 => ?_) (fun h0 => ?_)
  · try simp only [dt_, df_] at h0
    have hi : x.d.1 < x.d.2.1.length := by omega
    have hua := hx5 (x.d.2.1.getD x.d.1 default) (by simp [List.getD, hi]); have hub := usedR_at hi; refine c_skip (k_then_n (c_seq (c_block (sr (e_mv rfl (e_q (q_nilCheck rfl) (e_q (q_fieldp rfl fo_56_1) ?_))))))); refine e_q (q_loadp (v := .slice la x.d.2.1.length lc) sc_54 rfl pk_ rfl) ?_; refine e_mv rfl (e_q (q_indexe x.d.1 Tryz.underlying54 sz_162 rfl rfl (rd_row pk_) (by decide) rfl (by first | assumption | omega | (simp only [lk_, le_]; omega))) ?_); refine e_q (q_fielde rfl fo_162_2) ?_; refine e_q (q_loade (enc := encRFile) (xs := x.d.2.1) (j := x.d.1) (off := 2) sc_3 rfl (rd_row pk_) (fun _ => rfl) (by first | assumption | omega | (simp only [lk_, le_]; omega)) (by decide) rfl) ?_; refine e_as rfl (l_n (c_seq (sr (e_mv rfl (e_mv rfl (e_q (q_len Tryz.underlying38 rfl) ?_)))))); refine e_q (q_lss rfl rfl) (e_mv rfl (l_step (s_qg rfl (ask_t rfl rfl) (b := (decide ((x.d.1 : Int) < (keep_n : Int)))) (fun hb => q_move rfl) ?_))); refine l_step (s_qg rfl (ask_t rfl rfl) (b := (decide ((x.d.1 : Int) < (keep_n : Int)))) (fun hb => q_move rfl) ?_); refine l_step (s_qg rfl (ask_t rfl rfl) (b := (decide ((x.d.1 : Int) < (keep_n : Int)))) (fun hb => OpQ.env (.cons rfl (gd_t hb) (.cons rfl (gd_t hb) (.nil _)) : EnvLe [(33, .slice keep_a keep_n keep_c), (34, .int .i64 (x.d.1 : Int))] _) (q_indexe x.d.1 Tryz.underlying38 sz_3 rfl rfl (by first | assumption | exact rd_ro (by assumption) | exact rd_row pk_) (by decide) rfl (by first | assumption | omega | (have hb2 := hb; (try simp only [Bool.and_eq_true, Bool.or_eq_true, Bool.not_eq_true', Bool.and_eq_false_iff, Bool.or_eq_false_iff, Bool.not_eq_false', dt_, df_, Bool.not_eq_eq_eq_not, Bool.not_true, Bool.not_false, Bool.not_eq_true, Bool.not_eq_false, beq_iff_eq, bne_iff_ne, ne_eq, Decidable.not_not] at hb2); omega) | (simp only [lk_, le_]; omega)))) ?_); refine l_step (s_qg rfl (ask_t rfl rfl) (b := (decide ((x.d.1 : Int) < (keep_n : Int)))) (fun hb => OpQ.env (.cons rfl (gd_t hb) (.nil _) : EnvLe [(35, pe keep_a x.d.1 1 0)] _) (q_loade (enc := encI) (xs := keep) (j := x.d.1) (off := 0) sc_3 rfl (by first | assumption | exact rd_ro (by assumption) | exact rd_row pk_) (fun _ => rfl) (by first | assumption | omega | (have hb2 := hb; (try simp only [Bool.and_eq_true, Bool.or_eq_true, Bool.not_eq_true', Bool.and_eq_false_iff, Bool.or_eq_false_iff, Bool.not_eq_false', dt_, df_, Bool.not_eq_eq_eq_not, Bool.not_true, Bool.not_false, Bool.not_eq_true, Bool.not_eq_false, beq_iff_eq, bne_iff_ne, ne_eq, Decidable.not_not] at hb2); omega) | (simp only [lk_, le_]; omega)) (by decide) rfl)) ?_); refine l_step (s_qg rfl (ask_t rfl rfl) (b := (decide ((x.d.1 : Int) < (keep_n : Int)))) (fun hb => OpQ.env (.cons rfl (gd_t hb) (.nil _) : EnvLe [(36, .int .i64 (keep.getD x.d.1 default))] _) (q_gtr rfl rfl)) ?_); refine e_q (q_pick_and rfl rfl rfl (fun h => h)) ?_; refine l_n ?_; refine t_cutq (ι := Unit) (fun _u => True) (fun _u => [(0, .pointer (some ⟨r, 0, none⟩)), (1, .slice keep_a keep_n keep_c), (4, .int .i64 0), (5, .int .i64 x.d.2.2), (6, .int .i64 (x.d.1 : Int)), (7, .int .i64 ((x.d.2.1.getD x.d.1 default).Safe + (stayF keep x.d.1 ((x.d.2.1.getD x.d.1 default).B.xs, (x.d.2.1.getD x.d.1 default).Safe)))), (11, .int .i64 (x.d.1 : Int)), (12, .pointer (some ⟨r, 0, none⟩)), (13, .pointer (some ⟨r, 0, none⟩)), (14, .pointer (some ⟨r, 1, none⟩)), (15, .slice la x.d.2.1.length lc), (16, .int .i64 (x.d.2.1.length : Int)), (17, .bool (decide ((x.d.1 : Int) < (x.d.2.1.length : Int)))), (20, .pointer (some ⟨r, 0, none⟩)), (21, .pointer (some ⟨r, 0, none⟩)), (22, .pointer (some ⟨r, 1, none⟩)), (23, .slice la x.d.2.1.length lc), (24, .int .i64 (x.d.1 : Int)), (25, pe la x.d.1 3 0), (26, pe la x.d.1 3 2), (27, .int .i64 ((x.d.2.1.getD x.d.1 default).Safe)), (28, .int .i64 (x.d.1 : Int)), (29, .slice keep_a keep_n keep_c), (30, .int .i64 (keep_n : Int)), (31, .bool (decide ((x.d.1 : Int) < (keep_n : Int)))), (32, .bool (decide ((x.d.1 : Int) < (keep_n : Int)))), (33, gd (decide ((x.d.1 : Int) < (keep_n : Int))) (.slice keep_a keep_n keep_c)), (34, gd (decide ((x.d.1 : Int) < (keep_n : Int))) (.int .i64 (x.d.1 : Int))), (35, gd (decide ((x.d.1 : Int) < (keep_n : Int))) (pe keep_a x.d.1 1 0)), (36, gd (decide ((x.d.1 : Int) < (keep_n : Int))) (.int .i64 (keep.getD x.d.1 default))), (37, gd (decide ((x.d.1 : Int) < (keep_n : Int))) (.bool (decide (0 < (keep.getD x.d.1 default))))), (38, .bool ((decide ((x.d.1 : Int) < (keep_n : Int))) && (decide (0 < (keep.getD x.d.1 default)))))]) (fun _u => .pts r (encRDisk (⟨room, ⟨la, x.d.2.1.length, lc⟩, false, c⟩ : RDisk)) 56 :: .row 162 3 la x.d.2.1.length lc (x.d.2.1.flatMap encRFile) :: RB 5 x.d.2.1 :: Δ) ?_ ?_
    · skip
      refine c_cond rfl (fun h1 => ?_) (fun h1 => ?_)
      · try simp only [dt_, df_, Bool.and_eq_true, Bool.and_eq_false_iff] at h1
        refine d_r 19 [.pts r (encRDisk (⟨room, ⟨la, x.d.2.1.length, lc⟩, false, c⟩ : RDisk)) 56, .row 162 3 la x.d.2.1.length lc (x.d.2.1.flatMap encRFile), RB 5 x.d.2.1] ?_; refine d_t 0 rfl wn (q_move rfl) ?_; refine d_t 1 rfl wn (q_move rfl) ?_; refine d_t 2 rfl wn (q_move rfl) ?_; refine d_t 3 rfl wn (q_indexe x.d.1 Tryz.underlying38 sz_3 rfl rfl (by first | assumption | exact rd_ro (by assumption) | exact rd_row pk_) (by decide) rfl (by first | assumption | omega | (simp only [lk_, le_]; omega))) ?_; refine d_t 4 rfl wn (q_loade (enc := encI) (xs := keep) (j := x.d.1) (off := 0) sc_3 rfl (by first | assumption | exact rd_ro (by assumption) | exact rd_row pk_) (fun _ => rfl) (by first | assumption | omega | (simp only [lk_, le_]; omega)) (by decide) rfl) ?_; refine d_t 5 rfl wn (q_move rfl) ?_; refine d_t 6 rfl wn (q_nilCheck rfl) ?_; refine d_t 7 rfl wn (q_fieldp rfl fo_56_1) ?_; refine d_t 8 rfl wn (q_loadp (v := .slice la x.d.2.1.length lc) sc_54 rfl pk_ rfl) ?_; refine d_t 9 rfl wn (q_move rfl) ?_; refine d_t 10 rfl wn (q_indexe x.d.1 Tryz.underlying54 sz_162 rfl rfl (rd_row pk_) (by decide) rfl (by first | assumption | omega | (simp only [lk_, le_]; omega))) ?_; refine d_t 11 rfl wn (q_fielde rfl fo_162_1) ?_; refine d_t 12 rfl wn (q_loade (enc := encRFile) (xs := x.d.2.1) (j := x.d.1) (off := 1) sc_22 rfl (rd_row pk_) (fun _ => rfl) (by first | assumption | omega | (simp only [lk_, le_]; omega)) (by decide) rfl) ?_; refine d_t 13 rfl wn (q_len Tryz.underlying22 rfl) ?_; refine d_t 14 rfl wn (q_move rfl) ?_; refine d_t 15 rfl wn (q_sub rfl rfl (by omega) (by omega)) ?_; refine d_t 16 rfl wn (q_min2 rfl rfl) ?_; refine d_t 17 rfl wn (q_add rfl rfl (by omega) (by omega)) ?_; refine d_t 18 rfl wn (q_assign rfl) ?_; refine d_d ?_; refine k_then_n ?_; exact t_nx () trivial (.c (.c (.c (.c (.c (.cons rfl (inte (by rw [stay_pos (f := ((x.d.2.1.getD x.d.1 default).B.xs, (x.d.2.1.getD x.d.1 default).Safe)) (by omega) h1.2])) (.c (.c (.c (.c (.c (.c (.c (.c (.c (.c (.c (.c (.c (.c (.c (.c (.c (.c (.c (.c (.c (.c (.c (.c (.c (.c (.nil _)))))))))))))))))))))))))))))))))
      · try simp only [dt_, df_, Bool.and_eq_true, Bool.and_eq_false_iff] at h1
        refine c_skip (k_then_n ?_); exact t_nx () trivial (.c (.c (.c (.c (.c (.cons rfl (inte (by rw [stay_non (f := ((x.d.2.1.getD x.d.1 default).B.xs, (x.d.2.1.getD x.d.1 default).Safe)) (h1.imp (fun h => by omega) (fun h => h)) hua.2]; omega)) (.c (.c (.c (.c (.c (.c (.c (.c (.c (.c (.c (.c (.c (.c (.c (.c (.c (.c (.c (.c (.c (.c (.c (.c (.c (.c (.nil _)))))))))))))))))))))))))))))))))
    intro _u hj1; have hst : 0 ≤ (stayF keep x.d.1 ((x.d.2.1.getD x.d.1 default).B.xs, (x.d.2.1.getD x.d.1 default).Safe)) ∧ (stayF keep x.d.1 ((x.d.2.1.getD x.d.1 default).B.xs, (x.d.2.1.getD x.d.1 default).Safe)) ≤ ((x.d.2.1.getD x.d.1 default).B.xs.length : Int) - (x.d.2.1.getD x.d.1 default).Safe := stay_bd keep x.d.1 (f := ((x.d.2.1.getD x.d.1 default).B.xs, (x.d.2.1.getD x.d.1 default).Safe)) hua.2; refine k_then_n (sr ?_); refine Tr.ent (Ent.trans (Ent.pick (A := RB 5 x.d.2.1) pk_ (Ent.refl _)) (rb_open (T := x.d.2.1) (i := x.d.1) (by omega))) ?_; refine t_rd (Γ := _) (rd_row (a := (x.d.2.1.getD x.d.1 default).B.a) (cap := (x.d.2.1.getD x.d.1 default).B.cap) pk_) fun _ hcp _ _ => ?_; refine Tr.ent (Ent.trans (Ent.pick (A := .row 5 1 ((x.d.2.1.getD x.d.1 default).B.a) ((x.d.2.1.getD x.d.1 default).B.xs.length) ((x.d.2.1.getD x.d.1 default).B.cap) (((x.d.2.1.getD x.d.1 default).B.xs).flatMap encB)) pk_ (Ent.refl _)) (row_cut2 (((x.d.2.1.getD x.d.1 default).Safe + (stayF keep x.d.1 ((x.d.2.1.getD x.d.1 default).B.xs, (x.d.2.1.getD x.d.1 default).Safe)))).toNat (by omega))) ?_; refine e_mv rfl (e_mv rfl (e_q (q_nilCheck rfl) (e_q (q_fieldp rfl fo_56_1) ?_))); refine e_q (q_loadp (v := .slice la x.d.2.1.length lc) sc_54 rfl pk_ rfl) ?_; refine e_mv rfl (e_q (q_indexe x.d.1 Tryz.underlying54 sz_162 rfl rfl (rd_row pk_) (by decide) rfl (by first | assumption | omega | (simp only [lk_, le_]; omega))) ?_); refine e_q (q_fielde rfl fo_162_1) ?_; refine e_q (q_loade (enc := encRFile) (xs := x.d.2.1) (j := x.d.1) (off := 1) sc_22 rfl (rd_row pk_) (fun _ => rfl) (by first | assumption | omega | (simp only [lk_, le_]; omega)) (by decide) rfl) ?_; refine e_q (q_len Tryz.underlying22 rfl) ?_; refine e_q (q_add rfl rfl (by omega) (by omega)) ?_; refine e_mv rfl (e_q (q_sub rfl rfl (by omega) (by omega)) ?_); refine e_as rfl (l_n (c_seq (d_r 18 [.row 5 1 ((x.d.2.1.getD x.d.1 default).B.a) ((((x.d.2.1.getD x.d.1 default).B.xs).take (((x.d.2.1.getD x.d.1 default).Safe + (stayF keep x.d.1 ((x.d.2.1.getD x.d.1 default).B.xs, (x.d.2.1.getD x.d.1 default).Safe)))).toNat).length) ((x.d.2.1.getD x.d.1 default).B.cap) ((((x.d.2.1.getD x.d.1 default).B.xs).take (((x.d.2.1.getD x.d.1 default).Safe + (stayF keep x.d.1 ((x.d.2.1.getD x.d.1 default).B.xs, (x.d.2.1.getD x.d.1 default).Safe)))).toNat).flatMap encB), Bun ((x.d.2.1.map (R1 5)).eraseIdx x.d.1), .pts r (encRDisk (⟨room, ⟨la, x.d.2.1.length, lc⟩, false, c⟩ : RDisk)) 56] ?_))); refine d_t 0 rfl wn (q_move rfl) ?_; refine d_t 1 rfl wn (q_nilCheck rfl) ?_; refine d_t 2 rfl wn (q_fieldp rfl fo_56_1) ?_; refine d_t 3 rfl wn (q_loadp (v := .slice la x.d.2.1.length lc) sc_54 rfl pk_ rfl) ?_; refine d_t 4 rfl wn (q_move rfl) ?_; refine d_t 5 rfl wn (q_move rfl) ?_; refine d_t 6 rfl wn (q_nilCheck rfl) ?_; refine d_t 7 rfl wn (q_fieldp rfl fo_56_1) ?_; refine d_t 8 rfl wn (q_loadp (v := .slice la x.d.2.1.length lc) sc_54 rfl pk_ rfl) ?_; refine d_t 9 rfl wn (q_move rfl) ?_; refine d_t 13 rfl wn (q_move rfl) ?_; refine d_1 10 ?_; refine o_step rfl (s_q rfl wn (q_indexe x.d.1 Tryz.underlying54 sz_162 rfl rfl (rd_row pk_) (by decide) rfl (by first | assumption | omega | (simp only [lk_, le_]; omega))) ?_); refine d_c (d_t 11 rfl wn (q_fielde rfl fo_162_1) ?_); refine d_1 12 ?_; refine o_step rfl (s_q rfl wn (q_loade (enc := encRFile) (xs := x.d.2.1) (j := x.d.1) (off := 1) sc_22 rfl (rd_row pk_) (fun _ => rfl) (by first | assumption | omega | (simp only [lk_, le_]; omega)) (by decide) rfl) ?_); refine d_c (d_t 14 rfl wn (q_as (v := .slice (x.d.2.1.getD x.d.1 default).B.a ((x.d.2.1.getD x.d.1 default).B.xs.take (((x.d.2.1.getD x.d.1 default).Safe + (stayF keep x.d.1 ((x.d.2.1.getD x.d.1 default).B.xs, (x.d.2.1.getD x.d.1 default).Safe)))).toNat).length (x.d.2.1.getD x.d.1 default).B.cap) (q_cut_hi Tryz.underlying22 sz_5 rfl rfl (by omega) (by omega)) (by congr 1; rw [List.length_take]; omega)) ?_); refine d_1 15 ?_; refine o_step rfl (s_q rfl wn (q_indexe x.d.1 Tryz.underlying54 sz_162 rfl rfl (rd_row pk_) (by decide) rfl (by first | assumption | omega | (simp only [lk_, le_]; omega))) ?_); refine d_c (d_t 16 rfl wn (q_fielde rfl fo_162_1) ?_); refine d_1 17 ?_; refine o_step rfl (s_s0 wn (s_storee (ws := [.slice ((x.d.2.1.getD x.d.1 default).B.a) (((x.d.2.1.getD x.d.1 default).B.xs.take (((x.d.2.1.getD x.d.1 default).Safe + (stayF keep x.d.1 ((x.d.2.1.getD x.d.1 default).B.xs, (x.d.2.1.getD x.d.1 default).Safe)))).toNat).length) ((x.d.2.1.getD x.d.1 default).B.cap)]) (enc := encRFile) (xs := x.d.2.1) (j := x.d.1) (off := 1) (⟨(x.d.2.1.getD x.d.1 default).Name, ⟨(x.d.2.1.getD x.d.1 default).B.a, ((x.d.2.1.getD x.d.1 default).B.xs.take (((x.d.2.1.getD x.d.1 default).Safe + (stayF keep x.d.1 ((x.d.2.1.getD x.d.1 default).B.xs, (x.d.2.1.getD x.d.1 default).Safe)))).toNat), (x.d.2.1.getD x.d.1 default).B.cap⟩, (x.d.2.1.getD x.d.1 default).Safe⟩ : RFile) rfl rfl rfl sz_22 (by simp) (by simp [Value.oneCell', strB, ptV, SL.v]) pk_ (fun _ => rfl) (by first | assumption | omega | (simp only [lk_, le_]; omega)) (by simp) (by first | rfl | simp [encRFile])) ?_); rintro _ _ ⟨rfl, rfl⟩; refine d_c (d_d ?_); refine k_then_n (c_region ?_); have hi9 : x.d.1 < (x.d.2.1.set x.d.1 (⟨(x.d.2.1.getD x.d.1 default).Name, ⟨(x.d.2.1.getD x.d.1 default).B.a, ((x.d.2.1.getD x.d.1 default).B.xs.take (((x.d.2.1.getD x.d.1 default).Safe + (stayF keep x.d.1 ((x.d.2.1.getD x.d.1 default).B.xs, (x.d.2.1.getD x.d.1 default).Safe)))).toNat), (x.d.2.1.getD x.d.1 default).B.cap⟩, (x.d.2.1.getD x.d.1 default).Safe⟩ : RFile)).length := by rw [List.length_set]; exact hi
    refine e_mv rfl (e_q (q_nilCheck rfl) (e_q (q_fieldp rfl fo_56_1) ?_)); refine e_q (q_loadp (v := .slice la x.d.2.1.length lc) sc_54 rfl pk_ rfl) ?_; refine e_mv rfl (e_mv rfl (e_q (q_indexe x.d.1 Tryz.underlying54 sz_162 rfl rfl (rd_row pk_) (by decide) rfl (by first | assumption | omega | (simp only [lk_, le_]; omega))) ?_)); refine e_q (q_fielde rfl fo_162_2) ?_; refine l_step (s_s0 wn (s_storee (ws := [.int .i64 ((x.d.2.1.getD x.d.1 default).Safe + (stayF keep x.d.1 ((x.d.2.1.getD x.d.1 default).B.xs, (x.d.2.1.getD x.d.1 default).Safe)))]) (enc := encRFile) (xs := (x.d.2.1.set x.d.1 (⟨(x.d.2.1.getD x.d.1 default).Name, ⟨(x.d.2.1.getD x.d.1 default).B.a, ((x.d.2.1.getD x.d.1 default).B.xs.take (((x.d.2.1.getD x.d.1 default).Safe + (stayF keep x.d.1 ((x.d.2.1.getD x.d.1 default).B.xs, (x.d.2.1.getD x.d.1 default).Safe)))).toNat), (x.d.2.1.getD x.d.1 default).B.cap⟩, (x.d.2.1.getD x.d.1 default).Safe⟩ : RFile))) (j := x.d.1) (off := 2) (⟨((x.d.2.1.set x.d.1 (⟨(x.d.2.1.getD x.d.1 default).Name, ⟨(x.d.2.1.getD x.d.1 default).B.a, ((x.d.2.1.getD x.d.1 default).B.xs.take (((x.d.2.1.getD x.d.1 default).Safe + (stayF keep x.d.1 ((x.d.2.1.getD x.d.1 default).B.xs, (x.d.2.1.getD x.d.1 default).Safe)))).toNat), (x.d.2.1.getD x.d.1 default).B.cap⟩, (x.d.2.1.getD x.d.1 default).Safe⟩ : RFile)).getD x.d.1 default).Name, ((x.d.2.1.set x.d.1 (⟨(x.d.2.1.getD x.d.1 default).Name, ⟨(x.d.2.1.getD x.d.1 default).B.a, ((x.d.2.1.getD x.d.1 default).B.xs.take (((x.d.2.1.getD x.d.1 default).Safe + (stayF keep x.d.1 ((x.d.2.1.getD x.d.1 default).B.xs, (x.d.2.1.getD x.d.1 default).Safe)))).toNat), (x.d.2.1.getD x.d.1 default).B.cap⟩, (x.d.2.1.getD x.d.1 default).Safe⟩ : RFile)).getD x.d.1 default).B, ((x.d.2.1.getD x.d.1 default).Safe + (stayF keep x.d.1 ((x.d.2.1.getD x.d.1 default).B.xs, (x.d.2.1.getD x.d.1 default).Safe)))⟩ : RFile) rfl rfl rfl sz_3 (by simp) (by simp [Value.oneCell', strB, ptV, SL.v]) pk_ (fun _ => rfl) (by first | assumption | omega | (simp only [lk_, le_]; omega)) (by simp) (by first | rfl | simp [encRFile])) ?_); rintro _ _ ⟨rfl, rfl⟩; refine l_nil (k_blk_n (k_then_n (c_region (e_mv rfl (e_q (q_add rfl rfl (by omega) (by omega)) ?_))))); refine e_as rfl (l_n ?_); have hTT : ((x.d.2.1.set x.d.1 (⟨(x.d.2.1.getD x.d.1 default).Name, ⟨(x.d.2.1.getD x.d.1 default).B.a, ((x.d.2.1.getD x.d.1 default).B.xs.take (((x.d.2.1.getD x.d.1 default).Safe + (stayF keep x.d.1 ((x.d.2.1.getD x.d.1 default).B.xs, (x.d.2.1.getD x.d.1 default).Safe)))).toNat), (x.d.2.1.getD x.d.1 default).B.cap⟩, (x.d.2.1.getD x.d.1 default).Safe⟩ : RFile)).set x.d.1 (⟨((x.d.2.1.set x.d.1 (⟨(x.d.2.1.getD x.d.1 default).Name, ⟨(x.d.2.1.getD x.d.1 default).B.a, ((x.d.2.1.getD x.d.1 default).B.xs.take (((x.d.2.1.getD x.d.1 default).Safe + (stayF keep x.d.1 ((x.d.2.1.getD x.d.1 default).B.xs, (x.d.2.1.getD x.d.1 default).Safe)))).toNat), (x.d.2.1.getD x.d.1 default).B.cap⟩, (x.d.2.1.getD x.d.1 default).Safe⟩ : RFile)).getD x.d.1 default).Name, ((x.d.2.1.set x.d.1 (⟨(x.d.2.1.getD x.d.1 default).Name, ⟨(x.d.2.1.getD x.d.1 default).B.a, ((x.d.2.1.getD x.d.1 default).B.xs.take (((x.d.2.1.getD x.d.1 default).Safe + (stayF keep x.d.1 ((x.d.2.1.getD x.d.1 default).B.xs, (x.d.2.1.getD x.d.1 default).Safe)))).toNat), (x.d.2.1.getD x.d.1 default).B.cap⟩, (x.d.2.1.getD x.d.1 default).Safe⟩ : RFile)).getD x.d.1 default).B, ((x.d.2.1.getD x.d.1 default).Safe + (stayF keep x.d.1 ((x.d.2.1.getD x.d.1 default).B.xs, (x.d.2.1.getD x.d.1 default).Safe)))⟩ : RFile)) = (x.d.2.1.set x.d.1 (⟨(x.d.2.1.getD x.d.1 default).Name, ⟨(x.d.2.1.getD x.d.1 default).B.a, ((x.d.2.1.getD x.d.1 default).B.xs.take (((x.d.2.1.getD x.d.1 default).Safe + (stayF keep x.d.1 ((x.d.2.1.getD x.d.1 default).B.xs, (x.d.2.1.getD x.d.1 default).Safe)))).toNat), (x.d.2.1.getD x.d.1 default).B.cap⟩, ((x.d.2.1.getD x.d.1 default).Safe + (stayF keep x.d.1 ((x.d.2.1.getD x.d.1 default).B.xs, (x.d.2.1.getD x.d.1 default).Safe)))⟩ : RFile)) := by rw [getD_set hi, List.set_set]
    rw [hTT]; refine Tr.ent (Ent.trans (Ent.pick (A := R1 5 (⟨(x.d.2.1.getD x.d.1 default).Name, ⟨(x.d.2.1.getD x.d.1 default).B.a, ((x.d.2.1.getD x.d.1 default).B.xs.take (((x.d.2.1.getD x.d.1 default).Safe + (stayF keep x.d.1 ((x.d.2.1.getD x.d.1 default).B.xs, (x.d.2.1.getD x.d.1 default).Safe)))).toNat), (x.d.2.1.getD x.d.1 default).B.cap⟩, ((x.d.2.1.getD x.d.1 default).Safe + (stayF keep x.d.1 ((x.d.2.1.getD x.d.1 default).B.xs, (x.d.2.1.getD x.d.1 default).Safe)))⟩ : RFile)) pk_ (Ent.pick (A := Bun ((x.d.2.1.map (R1 5)).eraseIdx x.d.1)) pk_ (Ent.refl _))) (rb_set (T := x.d.2.1) (i := x.d.1) (by omega) (⟨(x.d.2.1.getD x.d.1 default).Name, ⟨(x.d.2.1.getD x.d.1 default).B.a, ((x.d.2.1.getD x.d.1 default).B.xs.take (((x.d.2.1.getD x.d.1 default).Safe + (stayF keep x.d.1 ((x.d.2.1.getD x.d.1 default).B.xs, (x.d.2.1.getD x.d.1 default).Safe)))).toNat), (x.d.2.1.getD x.d.1 default).B.cap⟩, ((x.d.2.1.getD x.d.1 default).Safe + (stayF keep x.d.1 ((x.d.2.1.getD x.d.1 default).B.xs, (x.d.2.1.getD x.d.1 default).Safe)))⟩ : RFile))) ?_; have hndx : (x.d.2.1.map (·.Name)).Nodup := by rw [hx2]; exact hnd
    have hg := rget hndx hi; have hnm : (T.map (·.Name)).getD x.d.1 default = (x.d.2.1.getD x.d.1 default).Name := by rw [← hx2]; exact rname_get hi
    have hv9 : (rvw (x.d.2.1.set x.d.1 (⟨(x.d.2.1.getD x.d.1 default).Name, ⟨(x.d.2.1.getD x.d.1 default).B.a, ((x.d.2.1.getD x.d.1 default).B.xs.take (((x.d.2.1.getD x.d.1 default).Safe + (stayF keep x.d.1 ((x.d.2.1.getD x.d.1 default).B.xs, (x.d.2.1.getD x.d.1 default).Safe)))).toNat), (x.d.2.1.getD x.d.1 default).B.cap⟩, ((x.d.2.1.getD x.d.1 default).Safe + (stayF keep x.d.1 ((x.d.2.1.getD x.d.1 default).B.xs, (x.d.2.1.getD x.d.1 default).Safe)))⟩ : RFile)), (x.d.2.2 + ((((x.d.2.1.getD x.d.1 default).B.xs.length : Int) - (x.d.2.1.getD x.d.1 default).Safe) - (stayF keep x.d.1 ((x.d.2.1.getD x.d.1 default).B.xs, (x.d.2.1.getD x.d.1 default).Safe))))) = (crK keep (T.map (·.Name)) (rvw T) (x.d.1 + 1)) := by simp only [crK, ← hx3, hnm, getD_of hg]; rw [rset hndx hi (⟨(x.d.2.1.getD x.d.1 default).Name, ⟨(x.d.2.1.getD x.d.1 default).B.a, ((x.d.2.1.getD x.d.1 default).B.xs.take (((x.d.2.1.getD x.d.1 default).Safe + (stayF keep x.d.1 ((x.d.2.1.getD x.d.1 default).B.xs, (x.d.2.1.getD x.d.1 default).Safe)))).toNat), (x.d.2.1.getD x.d.1 default).B.cap⟩, ((x.d.2.1.getD x.d.1 default).Safe + (stayF keep x.d.1 ((x.d.2.1.getD x.d.1 default).B.xs, (x.d.2.1.getD x.d.1 default).Safe)))⟩ : RFile) rfl]
    have hus9 : usedR (x.d.2.1.set x.d.1 (⟨(x.d.2.1.getD x.d.1 default).Name, ⟨(x.d.2.1.getD x.d.1 default).B.a, ((x.d.2.1.getD x.d.1 default).B.xs.take (((x.d.2.1.getD x.d.1 default).Safe + (stayF keep x.d.1 ((x.d.2.1.getD x.d.1 default).B.xs, (x.d.2.1.getD x.d.1 default).Safe)))).toNat), (x.d.2.1.getD x.d.1 default).B.cap⟩, ((x.d.2.1.getD x.d.1 default).Safe + (stayF keep x.d.1 ((x.d.2.1.getD x.d.1 default).B.xs, (x.d.2.1.getD x.d.1 default).Safe)))⟩ : RFile)) + (x.d.2.1.getD x.d.1 default).B.xs.length = usedR x.d.2.1 + ((x.d.2.1.getD x.d.1 default).B.xs.take (((x.d.2.1.getD x.d.1 default).Safe + (stayF keep x.d.1 ((x.d.2.1.getD x.d.1 default).B.xs, (x.d.2.1.getD x.d.1 default).Safe)))).toNat).length := usedR_set hi (⟨(x.d.2.1.getD x.d.1 default).Name, ⟨(x.d.2.1.getD x.d.1 default).B.a, ((x.d.2.1.getD x.d.1 default).B.xs.take (((x.d.2.1.getD x.d.1 default).Safe + (stayF keep x.d.1 ((x.d.2.1.getD x.d.1 default).B.xs, (x.d.2.1.getD x.d.1 default).Safe)))).toNat), (x.d.2.1.getD x.d.1 default).B.cap⟩, ((x.d.2.1.getD x.d.1 default).Safe + (stayF keep x.d.1 ((x.d.2.1.getD x.d.1 default).B.xs, (x.d.2.1.getD x.d.1 default).Safe)))⟩ : RFile); rw [List.length_take] at hus9; rw [show x.d.2.1.length = (x.d.2.1.set x.d.1 (⟨(x.d.2.1.getD x.d.1 default).Name, ⟨(x.d.2.1.getD x.d.1 default).B.a, ((x.d.2.1.getD x.d.1 default).B.xs.take (((x.d.2.1.getD x.d.1 default).Safe + (stayF keep x.d.1 ((x.d.2.1.getD x.d.1 default).B.xs, (x.d.2.1.getD x.d.1 default).Safe)))).toNat), (x.d.2.1.getD x.d.1 default).B.cap⟩, ((x.d.2.1.getD x.d.1 default).Safe + (stayF keep x.d.1 ((x.d.2.1.getD x.d.1 default).B.xs, (x.d.2.1.getD x.d.1 default).Safe)))⟩ : RFile)).length from (List.length_set ..).symm]; exact t_nx (⟨(x.d.1 + 1, (x.d.2.1.set x.d.1 (⟨(x.d.2.1.getD x.d.1 default).Name, ⟨(x.d.2.1.getD x.d.1 default).B.a, ((x.d.2.1.getD x.d.1 default).B.xs.take (((x.d.2.1.getD x.d.1 default).Safe + (stayF keep x.d.1 ((x.d.2.1.getD x.d.1 default).B.xs, (x.d.2.1.getD x.d.1 default).Safe)))).toNat), (x.d.2.1.getD x.d.1 default).B.cap⟩, ((x.d.2.1.getD x.d.1 default).Safe + (stayF keep x.d.1 ((x.d.2.1.getD x.d.1 default).B.xs, (x.d.2.1.getD x.d.1 default).Safe)))⟩ : RFile)), (x.d.2.2 + ((((x.d.2.1.getD x.d.1 default).B.xs.length : Int) - (x.d.2.1.getD x.d.1 default).Safe) - (stayF keep x.d.1 ((x.d.2.1.getD x.d.1 default).B.xs, (x.d.2.1.getD x.d.1 default).Safe))))), none, 0, none, 0, none, 0⟩ : Lp _) ⟨⟨by (try simp only []); omega, (rnames_set (e := (⟨(x.d.2.1.getD x.d.1 default).Name, ⟨(x.d.2.1.getD x.d.1 default).B.a, ((x.d.2.1.getD x.d.1 default).B.xs.take (((x.d.2.1.getD x.d.1 default).Safe + (stayF keep x.d.1 ((x.d.2.1.getD x.d.1 default).B.xs, (x.d.2.1.getD x.d.1 default).Safe)))).toNat), (x.d.2.1.getD x.d.1 default).B.cap⟩, ((x.d.2.1.getD x.d.1 default).Safe + (stayF keep x.d.1 ((x.d.2.1.getD x.d.1 default).B.xs, (x.d.2.1.getD x.d.1 default).Safe)))⟩ : RFile)) hi rfl).trans hx2, hv9, ⟨by (try simp only []); omega, by (try simp only []); omega⟩, fun y hy => by rcases List.mem_or_eq_of_mem_set hy with h | h; exact hx5 y h; rw [h]; simp only [List.length_take]; omega⟩, by (try simp only []); omega⟩ (.c (.c (.c (.cons rfl (inte (show ((x.d.2.2 + ((x.d.2.1.getD x.d.1 default).B.xs.length : Int)) - ((x.d.2.1.getD x.d.1 default).Safe + (stayF keep x.d.1 ((x.d.2.1.getD x.d.1 default).B.xs, (x.d.2.1.getD x.d.1 default).Safe))) : Int) = (x.d.2.2 + ((((x.d.2.1.getD x.d.1 default).B.xs.length : Int) - (x.d.2.1.getD x.d.1 default).Safe) - (stayF keep x.d.1 ((x.d.2.1.getD x.d.1 default).B.xs, (x.d.2.1.getD x.d.1 default).Safe)))) by omega)) (.c (.nil _))))))
  · try simp only [dt_, df_] at h0
    have hk : x.d.1 = T.length := by omega
    refine c_exit (k_then_x (k_then_x (k_blk_x (k_then_n (sr (e_mv rfl (e_as rfl (l_n (c_ret ?_))))))))); have hr : (crK keep (mkeys (rvw T)) (rvw T) T.length) = (rvw x.d.2.1, x.d.2.2) := by rw [rvw_keys, hx3, hk]
    exact t_rt [.pts r (encRDisk (⟨room, ⟨la, x.d.2.1.length, lc⟩, false, c⟩ : RDisk)) 56, .row 162 3 la x.d.2.1.length lc (x.d.2.1.flatMap encRFile), RB 5 x.d.2.1] rfl (.tmp rfl .nil) rfl ⟨rfl, x.d.2.1, by rw [hr]; rfl, by rw [hr], rfl⟩
end Go.Dsk.RF
namespace Go.Dsk
open Go Go.SL
theorem mem_mset : ∀ {V : FV} {s : Nm} {x : List UInt8 × Int} {p : Nm × (List UInt8 × Int)}, p ∈ mset V s x → p ∈ V ∨ p = (s, x)
  | [], s, x, p, h => .inr (List.mem_singleton.1 h)
  | (k, u) :: V, s, x, p, h => by
    unfold mset at h
    split at h
    · rename_i e
      rcases List.mem_cons.1 h with h | h
      · exact .inr h
      · exact .inl (List.mem_cons_of_mem _ h)
    · rcases List.mem_cons.1 h with h | h
      · exact .inl (by rw [h]; exact List.mem_cons_self)
      · exact (mem_mset h).imp (List.mem_cons_of_mem _) id
theorem mem_mdel : ∀ {V : FV} {s : Nm} {p : Nm × (List UInt8 × Int)}, p ∈ mdel V s → p ∈ V
  | [], _, _, h => by cases h
  | (k, u) :: V, s, p, h => by
    unfold mdel at h
    split at h
    · exact List.mem_cons_of_mem _ h
    · rcases List.mem_cons.1 h with h | h
      · rw [h]; exact List.mem_cons_self
      · exact List.mem_cons_of_mem _ (mem_mdel h)
theorem used_mset : ∀ (V : FV) (s : Nm) (x : List UInt8 × Int), usedV (mset V s x) + (mgetD V s zF).1.length = usedV V + x.1.length
  | [], s, x => by simp [usedV, mset, mgetD, mget, zF]
  | (k, u) :: V, s, x => by
    have ih := used_mset V s x
    by_cases e : k = s
    · simp [usedV, mset, mgetD, mget, e]; omega
    · simp only [mset, if_neg e, usedV, List.map_cons, List.sum_cons, mgetD, mget] at ih ⊢; omega
theorem used_mdel : ∀ (V : FV) (s : Nm), usedV (mdel V s) + (mgetD V s zF).1.length = usedV V
  | [], s => by simp [usedV, mdel, mgetD, mget, zF]
  | (k, u) :: V, s => by
    have ih := used_mdel V s
    by_cases e : k = s
    · simp [usedV, mdel, mgetD, mget, e]; omega
    · simp only [mdel, if_neg e, usedV, List.map_cons, List.sum_cons, mgetD, mget] at ih ⊢; omega
theorem len_mdel : ∀ (V : FV) (s : Nm), (mdel V s).length ≤ V.length
  | [], _ => Nat.le_refl _
  | (k, u) :: V, s => by
    have ih := len_mdel V s; unfold mdel
    split <;> simp only [List.length_cons] <;> omega
theorem len_mdel_has : ∀ {V : FV} {s : Nm}, mhas V s = true → (mdel V s).length + 1 = V.length
  | [], s, h => by simp [mhas, mget] at h
  | (k, u) :: V, s, h => by
    by_cases e : k = s
    · simp [mdel, e]
    · have ih := len_mdel_has (V := V) (s := s) (by simpa [mhas, mget, e] using h); simp only [mdel, if_neg e, List.length_cons]; omega
theorem len_mset_has {V : FV} {s : Nm} (h : mhas V s = true) (x : List UInt8 × Int) : (mset V s x).length = V.length := by
  have h1 := congrArg List.length (mkeys_set V s x); rw [if_pos (mhas_iff.1 h)] at h1; simpa [mkeys] using h1
structure Lim (V : FV) (n : Nat) : Prop where
  ok : VOk V
  us : usedV V ≤ n
  bd : n ≤ 1000000000000
theorem lim_set {V : FV} {n m : Nat} {s : Nm} {b : List UInt8} {k : Int} (h : Lim V n) (hs : s.length ≤ 32) (hl : mhas V s = true ∨ V.length < 4096) (h0 : 0 ≤ k ∧ k ≤ (b.length : Int)) (hb : b.length ≤ (mgetD V s zF).1.length + m) (hm : n + m ≤ 1000000000000) : Lim (mset V s (b, k)) (n + m) := by
  have h1 := used_mset V s (b, k); have h2 := h.us; simp only [] at h1; refine ⟨⟨mset_nodup h.ok.nd _ _, fun p hp => ?_, fun p hp => ?_, ?_, by omega⟩, by omega, hm⟩
  · rcases mem_mset hp with hp | rfl
    · exact h.ok.sf p hp
    · exact h0
  · rcases mem_mset hp with hp | rfl
    · exact h.ok.nm p hp
    · exact hs
  · rcases hl with hl | hl
    · rw [len_mset_has hl]; exact h.ok.ln
    · have := mset_len V s (b, k); omega
theorem lim_le {V : FV} {n m : Nat} (h : Lim V n) (hm : n ≤ m) (h2 : m ≤ 1000000000000) : Lim V m := ⟨h.ok, Nat.le_trans h.us hm, h2⟩
theorem lim_del {V : FV} {n : Nat} (h : Lim V n) (s : Nm) : Lim (mdel V s) n := by
  have h1 := used_mdel V s; have h2 := h.us; have h3 := h.ok.us; exact ⟨⟨mdel_nodup h.ok.nd _, fun p hp => h.ok.sf p (mem_mdel hp), fun p hp => h.ok.nm p (mem_mdel hp), Nat.le_trans (len_mdel V s) h.ok.ln, by omega⟩, by omega, h.bd⟩
theorem has_mem {V : FV} {s : Nm} (h : mhas V s = true) : (s, mgetD V s zF) ∈ V := by
  unfold mhas at h
  cases e : mget V s with
  | none => rw [e] at h; cases h
  | some f => unfold mgetD; rw [e]; exact mget_some e
theorem sf_has {V : FV} (h : VOk V) {s : Nm} (hs : mhas V s = true) : (0 ≤ (mgetD V s zF).2 ∧ (mgetD V s zF).2 ≤ ((mgetD V s zF).1.length : Int)) ∧ s.length ≤ 32 := ⟨h.sf _ (has_mem hs), h.nm _ (has_mem hs)⟩
theorem sf_any {V : FV} (h : VOk V) (s : Nm) : 0 ≤ (mgetD V s zF).2 ∧ (mgetD V s zF).2 ≤ ((mgetD V s zF).1.length : Int) := by
  cases hs : mhas V s with
  | true => exact (sf_has h hs).1
  | false =>
    have : mgetD V s zF = zF := by unfold mgetD; rw [mget_none.2 (no_mem hs)]; rfl
    rw [this]; exact ⟨Int.le_refl _, Int.le_refl _⟩
theorem lim_app {room calls : Int} {V : FV} {n : Nat} {name : Nm} {more : List UInt8} (h : Lim V n) (hm : n + more.length ≤ 1000000000000) : Lim (appR room calls V name more).2 (n + more.length) := by
  unfold appR
  split
  · exact lim_le h (by omega) hm
  · split
    · exact lim_le h (by omega) hm
    · rename_i hn
      split
      · exact lim_le h (by omega) hm
      · rename_i hf
        have hnm : nameB name = true := by simpa using hn
        have hs := ((nameB_iff name).1 hnm).2.1; have h0 := sf_any h.ok name; refine lim_set h hs ?_ ⟨h0.1, by rw [List.length_append]; omega⟩ (by rw [List.length_append]; omega) hm
        cases hh : mhas V name with
        | true => exact .inl rfl
        | false => rw [hh] at hf; simp at hf; exact .inr (by omega)
theorem used_app_room {room calls : Int} {V : FV} {name : Nm} {more : List UInt8} (h : (usedV V : Int) ≤ room) : (usedV (appR room calls V name more).2 : Int) ≤ room := by
  unfold appR
  split
  · exact h
  · split
    · exact h
    · split
      · exact h
      · rename_i hf
        have h1 := used_mset V name ((mgetD V name zF).1 ++ more, (mgetD V name zF).2); rw [List.length_append] at h1; simp only [Bool.or_eq_true, decide_eq_true_eq, not_or] at hf; show (usedV (mset V name _) : Int) ≤ room; omega
theorem lim_step {V : FV} {n : Nat} {s : Nm} (h : Lim V n) (hs : mhas V s = true) : Lim (syncStep V s) n := by
  have h1 := sf_has h.ok hs; have h2 := h.us; have h3 := used_mset V s ((mgetD V s zF).1, ((mgetD V s zF).1.length : Int)); simp only [] at h3; have := lim_set (m := 0) (b := (mgetD V s zF).1) (k := ((mgetD V s zF).1.length : Int)) h h1.2 (.inl hs) ⟨by omega, Int.le_refl _⟩ (Nat.le_refl _) h.bd; exact this
theorem has_step {V : FV} {s : Nm} (hs : mhas V s = true) (t : Nm) : mhas (syncStep V s) t = mhas V t := by
  unfold mhas syncStep; rw [mget_set]
  split
  · rename_i e; subst e
    have := hs; unfold mhas at this; rw [this]; rfl
  · rfl
theorem lim_fold : ∀ {ns : List Nm} {V : FV} {n : Nat}, Lim V n → ns.all (mhas V) = true → Lim (ns.foldl syncStep V) n
  | [], _, _, h, _ => h
  | a :: ns, V, n, h, ha => by
    rw [List.all_cons, Bool.and_eq_true] at ha; show Lim (ns.foldl syncStep (syncStep V a)) n; refine lim_fold (lim_step h ha.1) ?_; rw [List.all_eq_true]; intro t ht; rw [has_step ha.1]; exact List.all_eq_true.1 ha.2 t ht
theorem lim_sync {calls : Int} {V : FV} {n : Nat} {names : List Nm} (h : Lim V n) : Lim (syncR calls V names).2 n := by
  unfold syncR
  split
  · exact h
  · split
    · exact h
    · rename_i ha
      exact lim_fold h (by simpa using ha)
theorem lim_dels : ∀ {ns : List Nm} {V : FV} {n : Nat}, Lim V n → Lim (ns.foldl mdel V) n
  | [], _, _, h => h
  | a :: ns, V, n, h => by
    show Lim (ns.foldl mdel (mdel V a)) n; exact lim_dels (lim_del h a)
theorem lim_rem {calls : Int} {V : FV} {n : Nat} {names : List Nm} (h : Lim V n) : Lim (remR calls V names).2 n := by
  unfold remR
  split
  · exact h
  · split
    · exact h
    · exact lim_dels h
theorem lim_ren {calls : Int} {V : FV} {n : Nat} {a b : Nm} (h : Lim V n) : Lim (renR calls V a b).2 n := by
  unfold renR
  split
  · exact h
  · split
    · exact h
    · rename_i hc
      simp only [Bool.or_eq_true, Bool.not_eq_true', not_or, Bool.not_eq_false] at hc; have hs := sf_has h.ok hc.1; have h1 := used_mdel V a; have h2 := h.us; have hd := lim_del h a; have hd2 : Lim (mdel V a) (n - (mgetD V a zF).1.length) := ⟨hd.ok, by omega, by have := h.bd; omega⟩
      have hl : (mdel V a).length < V.length := by
        have h3 := len_mdel_has hc.1; omega
      have := lim_set (m := (mgetD V a zF).1.length) (s := b) (b := (mgetD V a zF).1) (k := (mgetD V a zF).2) hd2 ((nameB_iff b).1 hc.2).2.1 (.inr (by have := h.ok.ln; omega)) hs.1 (by omega) (by have := h.bd; omega); exact lim_le this (by omega) h.bd
theorem cr_get {keep : List Int} {ns : List Nm} {V : FV} {t : Nm} (ha : ns.all (mhas V) = true) : ∀ {k : Nat}, k ≤ ns.length → mhas (crK keep ns V k).1 t = mhas V t
  | 0, _ => rfl
  | k + 1, hk => by
    have ih := fun t => cr_get (keep := keep) (t := t) ha (k := k) (by omega); simp only [crK]; unfold mhas at ih ⊢; rw [mget_set]
    split
    · rename_i e
      have h := (List.all_eq_true.1 ha) _ (getD_in (l := ns) (show k < ns.length by omega)); rw [e] at h; unfold mhas at h; rw [h]; rfl
    · exact ih t
theorem lim_crK {keep : List Int} {ns : List Nm} {V : FV} {n : Nat} (h : Lim V n) (ha : ns.all (mhas V) = true) : ∀ {k : Nat}, k ≤ ns.length → Lim (crK keep ns V k).1 n
  | 0, _ => h
  | k + 1, hk => by
    have ih := lim_crK (keep := keep) h ha (k := k) (by omega); have hs : mhas (crK keep ns V k).1 (ns.getD k default) = true := by rw [cr_get ha (by omega)]; exact (List.all_eq_true.1 ha) _ (getD_in (by omega))
    have h1 := sf_has ih.ok hs; have h2 := stay_bd keep k h1.1.2; simp only [crK]; have hl : ((mgetD (crK keep ns V k).1 (ns.getD k default) zF).1.take ((mgetD (crK keep ns V k).1 (ns.getD k default) zF).2 + stayF keep k (mgetD (crK keep ns V k).1 (ns.getD k default) zF)).toNat).length = ((mgetD (crK keep ns V k).1 (ns.getD k default) zF).2 + stayF keep k (mgetD (crK keep ns V k).1 (ns.getD k default) zF)).toNat := by rw [List.length_take]; omega
    exact lim_set (m := 0) ih h1.2 (.inl hs) ⟨by omega, by rw [hl]; omega⟩ (by rw [hl]; omega) h.bd
theorem all_keys (V : FV) : (sortS (mkeys V)).all (mhas V) = true := by
  rw [List.all_eq_true]; intro t ht; exact mhas_iff.2 (sortS_mem.1 ht)
theorem lim_cr {keep : List Int} {V : FV} {n : Nat} (h : Lim V n) : Lim (crR keep V).1 n := lim_crK h (all_keys V) (by rw [sortS_len]; simp [mkeys])
end Go.Dsk
namespace Go.Dsk
open Go Go.SL
structure Sim (V L : FV) : Prop where
  nv : (mkeys V).Nodup
  nl : (mkeys L).Nodup
  so : (mkeys L).Pairwise (fun a b => a ≤ b)
  eq : ∀ s, mget V s = mget L s
theorem nodup_of {V : FV} (h : (mkeys V).Nodup) : V.Nodup := List.Pairwise.of_map (fun p : Nm × (List UInt8 × Int) => p.1) (fun a b h e => h (by rw [e])) h
theorem Sim.perm {V L : FV} (h : Sim V L) : V.Perm L := by
  rw [List.perm_ext_iff_of_nodup (nodup_of h.nv) (nodup_of h.nl)]; rintro ⟨s, x⟩
  constructor
  · intro hm; exact mget_some (by rw [← h.eq]; exact mget_of_mem h.nv hm)
  · intro hm; exact mget_some (by rw [h.eq]; exact mget_of_mem h.nl hm)
theorem Sim.len {V L : FV} (h : Sim V L) : V.length = L.length := h.perm.length_eq
theorem Sim.used {V L : FV} (h : Sim V L) : usedV V = usedV L := (h.perm.map _).sum_nat
theorem Sim.keys {V L : FV} (h : Sim V L) : sortS (mkeys V) = mkeys L := sortS_eq (h.perm.map _) h.so
theorem Sim.has {V L : FV} (h : Sim V L) (s : Nm) : mhas V s = mhas L s := by unfold mhas; rw [h.eq]
theorem Sim.getD {V L : FV} (h : Sim V L) (s : Nm) : mgetD V s zF = mgetD L s zF := by unfold mgetD; rw [h.eq]
theorem Sim.vok {V L : FV} (h : Sim V L) (v : VOk V) : VOk L :=
  ⟨h.nl, fun p hp => v.sf p (h.perm.mem_iff.2 hp), fun p hp => v.nm p (h.perm.mem_iff.2 hp), by rw [← h.len]; exact v.ln, by rw [← h.used]; exact v.us⟩
theorem Sim.all {V L : FV} (h : Sim V L) (ns : List Nm) : ns.all (mhas V) = ns.all (mhas L) := by
  congr 1
  funext s
  exact h.has s
theorem sim_set {V L : FV} (h : Sim V L) {s : Nm} (hs : mhas V s = true) (x : List UInt8 × Int) : Sim (mset V s x) (mset L s x) := by
  have hL : s ∈ mkeys L := mhas_iff.1 (by rw [← h.has]; exact hs); refine ⟨mset_nodup h.nv _ _, mset_nodup h.nl _ _, ?_, fun t => ?_⟩
  · rw [mkeys_set, if_pos hL]; exact h.so
  · rw [mget_set, mget_set, h.eq]
theorem tw_all {α : Type} {q : α → Bool} : ∀ {l : List α} {p : α}, p ∈ l.takeWhile q → q p = true
  | [], _, h => by cases h
  | x :: l, p, h => by
    rw [List.takeWhile_cons] at h
    split at h
    · rename_i hx
      rcases List.mem_cons.1 h with rfl | h
      · exact hx
      · exact tw_all h
    · cases h
theorem dw_head {α : Type} {q : α → Bool} : ∀ {l : List α} {x : α} {m : List α}, l.dropWhile q = x :: m → q x = false
  | [], _, _, h => by cases h
  | y :: l, x, m, h => by
    rw [List.dropWhile_cons] at h
    split at h
    · exact dw_head h
    · rename_i hy
      cases h
      simpa using hy
theorem insV_so {L : FV} {f : Nm × (List UInt8 × Int)} (h : (mkeys L).Pairwise (fun a b => a ≤ b)) : (mkeys (insV L f)).Pairwise (fun a b => a ≤ b) := by
  have h0 : mkeys L = mkeys (twV_ L f.1) ++ mkeys (dwV_ L f.1) := by
    have := congrArg mkeys (tdV L f.1); rw [← this]; simp [mkeys]
  rw [h0, List.pairwise_append] at h; show (mkeys (twV_ L f.1 ++ f :: dwV_ L f.1)).Pairwise _; have e : mkeys (twV_ L f.1 ++ f :: dwV_ L f.1) = mkeys (twV_ L f.1) ++ f.1 :: mkeys (dwV_ L f.1) := by simp [mkeys]
  rw [e, List.pairwise_append, List.pairwise_cons]
  have hlt : ∀ a ∈ mkeys (twV_ L f.1), a ≤ f.1 := fun a ha => by
    obtain ⟨p, hp, rfl⟩ := List.mem_map.1 ha; have := tw_all hp; exact Std.le_of_lt (of_decide_eq_true this)
  have hge : ∀ b ∈ mkeys (dwV_ L f.1), f.1 ≤ b := by
    intro b hb; unfold dwV_ at hb h
    cases hd : L.dropWhile (fun p => decide (p.1 < f.1)) with
    | nil => rw [hd] at hb; cases hb
    | cons q M =>
      have hq : (decide (q.1 < f.1)) = false := dw_head (q := fun p : Nm × (List UInt8 × Int) => decide (p.1 < f.1)) hd; have hq1 : f.1 ≤ q.1 := Std.not_lt.1 (of_decide_eq_false hq); rw [hd] at hb; have h2 := h.2.1; rw [hd] at h2; simp only [mkeys, List.map_cons, List.pairwise_cons] at h2; simp only [mkeys, List.map_cons, List.mem_cons] at hb
      rcases hb with rfl | hb
      · exact hq1
      · exact Std.le_trans hq1 (h2.1 b hb)
  exact ⟨h.1, ⟨hge, h.2.1⟩, fun a ha b hb => by
    rcases List.mem_cons.1 hb with rfl | hb
    · exact hlt a ha
    · exact h.2.2 a ha b hb⟩
theorem sim_new {V L : FV} (h : Sim V L) {s : Nm} (hs : mhas V s = false) (x : List UInt8 × Int) : Sim (mset V s x) (insV L (s, x)) := by
  have hL : s ∉ mkeys L := no_mem (by rw [← h.has]; exact hs); refine ⟨mset_nodup h.nv _ _, insV_nd h.nl hL, insV_so h.so, fun t => ?_⟩; rw [mget_set, insV_get _ hL, h.eq]
theorem mkeys_del_sub : ∀ (V : FV) (s : Nm), List.Sublist (mkeys (mdel V s)) (mkeys V)
  | [], _ => List.Sublist.refl _
  | (k, u) :: V, s => by
    unfold mdel
    split
    · exact List.sublist_cons_self _ _
    · exact (mkeys_del_sub V s).cons_cons k
theorem sim_del {V L : FV} (h : Sim V L) (s : Nm) : Sim (mdel V s) (mdel L s) :=
  ⟨mdel_nodup h.nv _, mdel_nodup h.nl _, h.so.sublist (mkeys_del_sub L s), fun t => by rw [mget_del h.nv, mget_del h.nl, h.eq]⟩
theorem sim_app {room calls : Int} {V L : FV} (h : Sim V L) (name : Nm) (more : List UInt8) : (appR room calls V name more).1 = (appI room calls L name more).1 ∧ Sim (appR room calls V name more).2 (appI room calls L name more).2 := by
  unfold appR appI; rw [h.used, h.has, h.len, h.getD]
  by_cases h0 : calls = 0
  · rw [if_pos h0, if_pos h0]; exact ⟨rfl, h⟩
  · rw [if_neg h0, if_neg h0]
    by_cases h1 : nameB name = false
    · rw [if_pos h1, if_pos h1]; exact ⟨rfl, h⟩
    · rw [if_neg h1, if_neg h1]
      by_cases h2 : (decide ((more.length : Int) > room - (usedV L : Int)) || (!mhas L name && decide ((L.length : Int) ≥ 4096))) = true
      · rw [if_pos h2, if_pos h2]; exact ⟨rfl, h⟩
      · rw [if_neg h2, if_neg h2]
        by_cases h3 : mhas L name = true
        · rw [if_pos h3]; exact ⟨rfl, sim_set h (by rw [h.has]; exact h3) _⟩
        · rw [if_neg h3]; have h4 : mhas L name = false := by simpa using h3
          have h5 : mgetD L name zF = zF := by unfold mgetD; rw [mget_none.2 (no_mem h4)]; rfl
          rw [h5]; exact ⟨rfl, sim_new h (by rw [h.has]; exact h4) _⟩
theorem sim_fold : ∀ {ns : List Nm} {V L : FV}, Sim V L → ns.all (mhas V) = true → Sim (ns.foldl syncStep V) (ns.foldl syncStep L)
  | [], _, _, h, _ => h
  | a :: ns, V, L, h, ha => by
    rw [List.all_cons, Bool.and_eq_true] at ha; show Sim (ns.foldl syncStep (syncStep V a)) (ns.foldl syncStep (syncStep L a)); refine sim_fold ?_ ?_
    · unfold syncStep; rw [h.getD]; exact sim_set h ha.1 _
    · rw [List.all_eq_true]; intro t ht; rw [has_step ha.1]; exact List.all_eq_true.1 ha.2 t ht
theorem sim_sync {calls : Int} {V L : FV} (h : Sim V L) (names : List Nm) : (syncR calls V names).1 = (syncR calls L names).1 ∧ Sim (syncR calls V names).2 (syncR calls L names).2 := by
  unfold syncR; rw [← h.all]
  by_cases h0 : calls = 0
  · rw [if_pos h0, if_pos h0]; exact ⟨rfl, h⟩
  · rw [if_neg h0, if_neg h0]
    by_cases h1 : names.all (mhas V) = false
    · rw [if_pos h1, if_pos h1]; exact ⟨rfl, h⟩
    · rw [if_neg h1, if_neg h1]; exact ⟨rfl, sim_fold h (by simpa using h1)⟩
theorem sim_dels : ∀ {ns : List Nm} {V L : FV}, Sim V L → Sim (ns.foldl mdel V) (ns.foldl mdel L)
  | [], _, _, h => h
  | a :: ns, V, L, h => by
    show Sim (ns.foldl mdel (mdel V a)) (ns.foldl mdel (mdel L a)); exact sim_dels (sim_del h a)
theorem sim_rem {calls : Int} {V L : FV} (h : Sim V L) (names : List Nm) : (remR calls V names).1 = (remR calls L names).1 ∧ Sim (remR calls V names).2 (remR calls L names).2 := by
  unfold remR; rw [← h.all]
  by_cases h0 : calls = 0
  · rw [if_pos h0, if_pos h0]; exact ⟨rfl, h⟩
  · rw [if_neg h0, if_neg h0]
    by_cases h1 : (!names.all (mhas V) || !onceB names) = true
    · rw [if_pos h1, if_pos h1]; exact ⟨rfl, h⟩
    · rw [if_neg h1, if_neg h1]; exact ⟨rfl, sim_dels h⟩
theorem sim_ren {calls : Int} {V L : FV} (h : Sim V L) (a b : Nm) : (renR calls V a b).1 = (renI calls L a b).1 ∧ Sim (renR calls V a b).2 (renI calls L a b).2 := by
  unfold renR renI; rw [← h.has, ← h.getD]
  by_cases h0 : calls = 0
  · rw [if_pos h0, if_pos h0]; exact ⟨rfl, h⟩
  · rw [if_neg h0, if_neg h0]
    by_cases h1 : (!mhas V a || !nameB b) = true
    · rw [if_pos h1, if_pos h1]; exact ⟨rfl, h⟩
    · rw [if_neg h1, if_neg h1]; refine ⟨rfl, ?_⟩; have hd := sim_del h a; have hb : b ∉ mkeys (mdel (mdel L a) b) := mget_none.1 (by rw [mget_del hd.nl, if_pos rfl]); refine ⟨mset_nodup hd.nv _ _, insV_nd (mdel_nodup hd.nl _) hb, insV_so (hd.so.sublist (mkeys_del_sub _ _)), fun t => ?_⟩; rw [mget_set, insV_get _ hb, mget_del hd.nl, hd.eq]
      by_cases e : b = t
      · rw [if_pos e, if_pos e]
      · rw [if_neg e, if_neg e, if_neg e]
theorem sim_crK {keep : List Int} {ns : List Nm} {V L : FV} (h : Sim V L) (ha : ns.all (mhas V) = true) : ∀ {k : Nat}, k ≤ ns.length → Sim (crK keep ns V k).1 (crK keep ns L k).1 ∧ (crK keep ns V k).2 = (crK keep ns L k).2
  | 0, _ => ⟨h, rfl⟩
  | k + 1, hk => by
    obtain ⟨i1, i2⟩ := sim_crK (keep := keep) h ha (k := k) (by omega); have hs : mhas (crK keep ns V k).1 (ns.getD k default) = true := by rw [cr_get ha (by omega)]; exact (List.all_eq_true.1 ha) _ (getD_in (by omega))
    simp only [crK]; rw [← i1.getD, ← i2]; exact ⟨sim_set i1 hs _, rfl⟩
theorem sim_cr {V L : FV} (h : Sim V L) (keep : List Int) : (crR keep V).2 = (crK keep (mkeys L) L L.length).2 ∧ Sim (crR keep V).1 (crK keep (mkeys L) L L.length).1 := by
  unfold crR; rw [← h.keys, ← h.len]; have := sim_crK (keep := keep) h (all_keys V) (k := V.length) (by rw [sortS_len]; simp [mkeys]); exact ⟨this.2, this.1⟩
end Go.Dsk

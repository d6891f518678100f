/-
  Several texts, put together.
-/
import Derived.Test.YtijldgggjioccaaGreatDoorDskXX
import Derived.Test.YtijldgggjioccaaGreatDoorDskL
import Derived.Test.YtijldgggjioccaaGreatDoorProg
import Derived.Test.YtijldgggjioccaaGreatDoorSlEc
import Derived.Test.YtijldgggjioccaaGreatDoorDskPP
/-
  Package disk, walked.
-/
set_option maxRecDepth 100000
set_option maxHeartbeats 4000000
set_option linter.unusedSimpArgs false
set_option linter.unusedVariables false
namespace Go.Dsk.V
open Go Go.SL Go.Proofs Go.Dsk Go.Dsk.L Go.Dsk.X
attribute [local irreducible] Go.SL.Ent
theorem eo_9 : elemOk Tryz.prog 9 1 16 = true := by kernel_rfl
theorem fo_143_1 : fieldOff Tryz.prog 143 1 = some (1, 141) := by kernel_rfl
theorem fo_143_2 : fieldOff Tryz.prog 143 2 = some (2, 3) := by kernel_rfl
theorem fo_154_0 : fieldOff Tryz.prog 154 0 = some (0, 22) := by kernel_rfl
theorem fo_154_1 : fieldOff Tryz.prog 154 1 = some (1, 3) := by kernel_rfl
theorem sc_141 : isScalar Tryz.prog 141 = true := by kernel_rfl
theorem sc_22 : isScalar Tryz.prog 22 = true := by kernel_rfl
theorem sc_3 : isScalar Tryz.prog 3 = true := by kernel_rfl
theorem sc_9 : isScalar Tryz.prog 9 = true := by kernel_rfl
theorem sz_22 : sizeIs Tryz.prog 22 = some 1 := by kernel_rfl
theorem sz_3 : sizeIs Tryz.prog 3 = some 1 := by kernel_rfl
theorem sz_5 : sizeIs Tryz.prog 5 = some 1 := by kernel_rfl
theorem sz_9 : sizeIs Tryz.prog 9 = some 1 := by kernel_rfl
theorem zi_152 : (Tryz.prog.info? 152).bind (·.zero) = some (ptV none) := by kernel_rfl

theorem rename_spec (b : Nat) (room : Int) (mb : Nat) (calls : Int) (T : FT) (src : (List UInt8)) (dst : (List UInt8)) (ρ : Hp) (hT : FOk T) (hc : calls ≤ 9223372036854775807) (hd : dst.length ≤ 9223372036854775807) : Spec0 Tryz.prog 73 #[.pointer (some ⟨b, 0, none⟩), (strB src), (strB dst)] ρ [.pts b (encDisk1 (⟨room, (some mb), calls⟩ : Disk1)) 143, MP strB ptV mb (fm T), FB 154 5 T] (fun v Γ' => ∃ T', v = .int .i64 (renR calls (vw T) src dst).1 ∧ vw T' = (renR calls (vw T) src dst).2 ∧ Γ' = [.pts b (encDisk1 (⟨room, (some mb), (decC calls)⟩ : Disk1)) 143, MP strB ptV mb (fm T'), FB 154 5 T']) := by
  refine spec_of (n := 35) (vs := [_, _, _]) (σ := [(0, _), (1, _), (2, _)]) Tryz.func73 rfl rfl rfl rfl fun E Δ => ?_
  simp only [List.cons_append, List.nil_append]
  refine sr ?_
  refine e_as rfl ?_
  refine l_n ?_
  refine c_seq ?_
  refine sr ?_
  refine e_mv rfl ?_
  refine e_fn Tryz.func78 rfl sl_ (fun ρ' hL => stopped_spec b room mb calls T ρ' (by first | assumption | omega)) ?_
  rintro _ _ ⟨rfl, rfl⟩
  try simp only [List.cons_append, List.nil_append]
  refine l_n ?_
  refine c_cond rfl (fun h0 => ?_) (fun h0 => ?_)
  · try simp only [decide_eq_true_eq, decide_eq_false_iff_not] at h0
    refine sr ?_
    refine e_as rfl ?_
    refine l_n ?_
    refine c_ret ?_
    refine k_then_r ?_
    have hr : (renR calls (vw T) src dst) = (32, vw T) := if_pos h0
    exact t_rt [.pts b (encDisk1 (⟨room, (some mb), (decC calls)⟩ : Disk1)) 143, MP strB ptV mb (fm T), FB 154 5 T] rfl (.tmp rfl .nil) rfl ⟨rfl, T, by rw [hr]; rfl, by rw [hr], rfl⟩
  · try simp only [decide_eq_true_eq, decide_eq_false_iff_not] at h0
    refine c_skip ?_
    refine k_then_n ?_
    refine sr ?_
    refine e_mv rfl ?_
    refine e_q (q_nilCheck rfl) ?_
    refine e_q (q_fieldp rfl fo_143_1) ?_
    refine e_q (q_loadp (v := .map (some mb)) sc_141 rfl pk_ rfl) ?_
    refine e_mv rfl ?_
    refine e_q (q_look (v := (ptV (mgetD (fm T) src none))) (ek := strB) (ev := ptV) (k := src) (zv := none) Tryz.underlying141 (mkey_str Tryz.underlying9) zi_152 rfl rfl pk_ rfl) ?_
    refine e_as rfl ?_
    refine l_n ?_
    refine c_seq ?_
    refine sr ?_
    refine e_mv rfl ?_
    refine e_q (q_eqlo (e := (mgetD (fm T) src none)) rfl rfl Tryz.underlying152) ?_
    refine e_mv rfl ?_
    refine t_split (d := 18) rfl (fun g4_2 => ?_) (fun g4_2 => ?_)
    · skip
      refine l_step (s_no rfl (wno rfl rfl (by decide)) ?_)
      refine l_step (s_no rfl (wno rfl rfl (by decide)) ?_)
      refine l_step (s_no rfl (wno rfl rfl (by decide)) ?_)
      refine l_step (s_no rfl (wno rfl rfl (by decide)) ?_)
      refine e_q (q_pick rfl rfl rfl) ?_
      refine l_n ?_
      refine c_yes rfl ?_
      refine sr ?_
      refine e_as rfl ?_
      refine l_n ?_
      refine c_ret ?_
      refine k_then_r ?_
      have hr : (renR calls (vw T) src dst) = (30, vw T) := by unfold renR; rw [if_neg h0, if_pos (by rw [has_no (opt_none g4_2)]; rfl)]
      exact t_rt [.pts b (encDisk1 (⟨room, (some mb), (decC calls)⟩ : Disk1)) 143, MP strB ptV mb (fm T), FB 154 5 T] rfl (.tmp rfl .nil) rfl ⟨rfl, T, by rw [hr]; rfl, by rw [hr], rfl⟩
    · skip
      have hnl : ∀ s ∈ [dst], s.length ≤ 9223372036854775807 := fun s hs => by rw [List.mem_singleton.1 hs]; exact hd
      obtain ⟨j, e, hjl, hj, hnm, hmg, hvg⟩ := look_some (opt_some g4_2)
      rw [hmg]
      refine Tr.ent (file_open (t := 154) (tb := 5) hj pk_) ?_
      refine e_qw (wy rfl rfl rfl) (q_move rfl) ?_
      refine l_step (s_s rfl (wy rfl rfl rfl) (s_buildSlice (cs := ([dst] : List (List UInt8)).flatMap Go.SL.encStr) Tryz.underlying52 eo_9 rfl rfl rfl rfl (by decide) (by decide)) ?_)
      rintro _ _ ⟨b20, rfl, rfl⟩
      refine l_step (s_fnq rfl (wy rfl rfl rfl) Tryz.func79 rfl (by kernel_rfl) rfl (fun ρ' hL => name_spec (some ⟨b20, 0, none⟩) 1 1 [dst] (by first | rfl | assumption | (simp; done) | (simp <;> omega) | omega) ρ' (by first | assumption | exact fun s hs => Nat.le_trans (nml s hs) (by decide)) (by first | exact hL.ro (by assumption) | exact hL.bun (L := (fL 154 5 T).eraseIdx j) pk_ (in_map _ (by first | assumption | omega | (simp only [List.length_cons, List.length_nil]; omega) | decide) rfl) | exact hL.row pk_ | assumption)) ?_)
      refine e_qw (wy rfl rfl rfl) (q_not rfl) ?_
      refine e_q (q_pick rfl rfl rfl) ?_
      refine l_n ?_
      refine c_cond rfl (fun h1 => ?_) (fun h1 => ?_)
      · skip
        have hnb : nameB dst = false := by simpa using h1
        refine sr ?_
        refine e_as rfl ?_
        refine l_n ?_
        refine c_ret ?_
        refine k_then_r ?_
        refine Tr.ent (Ent.trans (Ent.pick (A := .pts e.blk (encFile1 (⟨⟨e.a, e.xs.length, e.cap⟩, e.safe⟩ : File1)) 154) pk_ (Ent.pick (A := .row 5 1 e.a e.xs.length e.cap (e.xs.flatMap encB)) pk_ (Ent.pick (A := Bun ((fL 154 5 T).eraseIdx j)) pk_ (Ent.refl _)))) (file_same (t := 154) (tb := 5) hj)) ?_
        have hr : (renR calls (vw T) src dst) = (30, vw T) := by unfold renR; rw [if_neg h0, if_pos (by rw [hnb]; simp)]
        exact t_rt [.pts b (encDisk1 (⟨room, (some mb), (decC calls)⟩ : Disk1)) 143, MP strB ptV mb (fm T), FB 154 5 T] rfl (.tmp rfl .nil) rfl ⟨rfl, T, by rw [hr]; rfl, by rw [hr], rfl⟩
      · skip
        have hnb : nameB dst = true := by simpa using h1
        refine c_skip ?_
        refine k_then_n ?_
        refine sr ?_
        refine e_mv rfl ?_
        refine e_q (q_nilCheck rfl) ?_
        refine e_q (q_fieldp rfl fo_143_1) ?_
        refine e_q (q_loadp (v := .map (some mb)) sc_141 rfl pk_ rfl) ?_
        refine e_mv rfl ?_
        refine l_step (s_s0 wn (s_mdel (ek := strB) (ev := ptV) (k := src) (m' := (mdel (fm T) src)) Tryz.underlying141 (mkey_str Tryz.underlying9) rfl rfl rfl pk_) ?_)
        rintro _ _ ⟨rfl, rfl⟩
        refine l_n ?_
        refine sr ?_
        rw [show mdel (fm T) src = fm (T.eraseIdx j) from by rw [← hnm]; exact fm_del hT.nd hj]
        refine e_mv rfl ?_
        refine e_q (q_nilCheck rfl) ?_
        refine e_q (q_fieldp rfl fo_143_1) ?_
        refine e_q (q_loadp (v := .map (some mb)) sc_141 rfl pk_ rfl) ?_
        refine e_mv rfl ?_
        refine e_mv rfl ?_
        refine l_step (s_s0 wn (s_mset (ek := strB) (ev := ptV) (k := dst) (v := (some e.blk)) (m' := (mset (fm (T.eraseIdx j)) dst (some e.blk))) Tryz.underlying141 (mkey_str Tryz.underlying9) rfl rfl rfl rfl rfl pk_) ?_)
        rintro _ _ ⟨rfl, rfl⟩
        refine l_n ?_
        refine sr ?_
        refine e_as rfl ?_
        refine l_n ?_
        refine c_ret ?_
        refine Tr.ent (Ent.trans (Ent.pick (A := Bun ((fL 154 5 T).eraseIdx j)) pk_ (Ent.refl _)) (file_rest j)) ?_
        refine Tr.ent (Ent.trans (Ent.pick (A := .pts e.blk (encFile1 (⟨⟨e.a, e.xs.length, e.cap⟩, e.safe⟩ : File1)) 154) pk_ (Ent.pick (A := .row 5 1 e.a e.xs.length e.cap (e.xs.flatMap encB)) pk_ (Ent.pick (A := FB 154 5 (T.eraseIdx j)) pk_ (Ent.refl _)))) (file_put (t := 154) (tb := 5) ⟨dst, e.blk, e.a, e.cap, e.xs, e.safe⟩)) ?_
        rw [show mset (fm (T.eraseIdx j)) dst (some e.blk) = fm (setT (T.eraseIdx j) ⟨dst, e.blk, e.a, e.cap, e.xs, e.safe⟩) from (fm_setT (T.eraseIdx j) ⟨dst, e.blk, e.a, e.cap, e.xs, e.safe⟩).symm]
        have hr : (renR calls (vw T) src dst) = (0, vw (setT (T.eraseIdx j) ⟨dst, e.blk, e.a, e.cap, e.xs, e.safe⟩)) := by unfold renR; rw [if_neg h0, if_neg (by rw [has_of hvg, hnb]; decide), getD_of hvg, vw_setT, ← vw_del hT.nd hj, hnm]
        exact t_rt [.pts b (encDisk1 (⟨room, (some mb), (decC calls)⟩ : Disk1)) 143, MP strB ptV mb (fm (setT (T.eraseIdx j) ⟨dst, e.blk, e.a, e.cap, e.xs, e.safe⟩)), FB 154 5 (setT (T.eraseIdx j) ⟨dst, e.blk, e.a, e.cap, e.xs, e.safe⟩)] rfl (.tmp rfl .nil) rfl ⟨rfl, (setT (T.eraseIdx j) ⟨dst, e.blk, e.a, e.cap, e.xs, e.safe⟩), by rw [hr]; rfl, by rw [hr], rfl⟩

theorem crash_spec (b : Nat) (room : Int) (mb : Nat) (calls : Int) (T : FT) (keep_a : Option Addr) (keep_n keep_c : Nat) (keep : List Int) (hkeep_n : keep.length = keep_n) (ρ : Hp) (hT : FOk T) (hro : Ro ρ 1 keep_a keep_n keep_c (keep.flatMap encI)) : Spec0 Tryz.prog 24 #[.pointer (some ⟨b, 0, none⟩), .slice keep_a keep_n keep_c] ρ [.pts b (encDisk1 (⟨room, (some mb), calls⟩ : Disk1)) 143, MP strB ptV mb (fm T), FB 154 5 T] (fun v Γ' => ∃ T', v = .int .i64 (crR keep (vw T)).2 ∧ vw T' = (crR keep (vw T)).1 ∧ Γ' = [.pts b (encDisk1 (⟨room, (some mb), (-1)⟩ : Disk1)) 143, MP strB ptV mb (fm T'), FB 154 5 T']) := by
  refine spec_of (n := 83) (vs := [_, _]) (σ := [(0, _), (1, _)]) Tryz.func24 rfl rfl rfl rfl fun E Δ => ?_
  simp only [List.cons_append, List.nil_append]
  have hrob : keep_n ≤ 9223372036854775807 := Nat.le_trans hro.2.1 hro.2.2.1
  have hTl := hT.ln
  have hTu := hT.us
  have hNl : (sortS (T.map (·.name))).length = T.length := by rw [sortS_len, List.length_map]
  refine sr ?_
  refine e_as rfl ?_
  refine l_n ?_
  refine sr ?_
  refine e_mv rfl ?_
  refine e_q (q_nilCheck rfl) ?_
  refine e_q (q_fieldp rfl fo_143_2) ?_
  refine l_step (s_s0 wn (s_storep (ws := [.int .i64 (-1)]) (cs := encDisk1 (⟨room, (some mb), calls⟩ : Disk1)) (cs' := encDisk1 (⟨room, (some mb), (-1)⟩ : Disk1)) rfl rfl rfl sz_3 (by simp [Value.oneCell', strB, ptV, SL.v, SH.v]) (by simp [encDisk1]) rfl pk_) ?_)
  rintro _ _ ⟨rfl, rfl⟩
  refine l_n ?_
  refine sr ?_
  refine e_as rfl ?_
  refine l_n ?_
  refine c_seq ?_
  refine sr ?_
  refine e_mv rfl ?_
  refine e_fn Tryz.func30 rfl sl_ (fun ρ' hL => X.names_spec b room mb (-1) T ρ' (by assumption)) ?_
  rintro _ _ ⟨an14, cn14, rfl, rfl⟩
  try simp only [List.cons_append, List.nil_append]
  refine e_q (q_len Tryz.underlying52 rfl) ?_
  refine e_mv rfl ?_
  refine l_n ?_
  refine c_block ?_
  refine Tr.env (σ' := [(0, _), (1, _), (4, _), (5, _), (14, _), (15, _), (16, _)]) ev_ ?_
  refine t_loop (ι := Lp (Nat × FT × Int)) (fun x => x.d.1 ≤ T.length ∧ fm x.d.2.1 = fm T ∧ (vw x.d.2.1, x.d.2.2) = (crK keep (sortS (T.map (·.name))) (vw T) x.d.1) ∧ (0 ≤ x.d.2.2 ∧ x.d.2.2 + (usedT x.d.2.1 : Int) = usedT T) ∧ ∀ e ∈ x.d.2.1, 0 ≤ e.safe ∧ e.safe ≤ (e.xs.length : Int)) (fun x => T.length - x.d.1) (fun x => [(0, .pointer (some ⟨b, 0, none⟩)), (1, .slice keep_a keep_n keep_c), (4, .int .i64 0), (5, .int .i64 x.d.2.2), (14, .slice an14 T.length cn14), (15, .int .i64 (T.length : Int)), (16, .int .i64 (x.d.1 : Int))]) (fun x => .row 9 1 an14 T.length cn14 ((sortS (T.map (·.name))).flatMap Go.SL.encStr) :: .pts b (encDisk1 (⟨room, (some mb), (-1)⟩ : Disk1)) 143 :: MP strB ptV mb (fm T) :: FB 154 5 x.d.2.1 :: Δ) (⟨(0, T, 0), none, 0, none, 0, none, 0⟩ : Lp _) ⟨Nat.zero_le _, rfl, rfl, ⟨Int.le_refl _, Int.zero_add _⟩, hT.sf⟩ ?_ ?_ ?_
  · exact .c (.c (.c (.c (.c (.c (.c (.nil _)))))))
  · exact en_
  intro x hx
  obtain ⟨hx1, hx2, hx3, hx4, hx5⟩ := hx
  refine sr ?_
  refine e_q (q_lss rfl rfl) ?_
  refine l_n ?_
  refine c_seq ?_
  refine c_cond rfl (fun h0 => ?_) (fun h0 => ?_)
  · try simp only [decide_eq_true_eq, decide_eq_false_iff_not] at h0
    have him : ((sortS (T.map (·.name))).getD x.d.1 default) ∈ T.map (·.name) := sortS_mem.1 (getD_in (by rw [sortS_len, List.length_map]; omega))
    have hxm : mhas (vw x.d.2.1) ((sortS (T.map (·.name))).getD x.d.1 default) = true := by rw [has_same (T := T) (hf := hx2)]; exact mhas_iff.2 (by rw [vw_keys]; exact him)
    obtain ⟨j, e, hjl, hj, hnm, hmg, hvg⟩ := look_some (look_has hxm)
    have hua := hx5 e (List.mem_of_getElem? hj)
    have hub := used_at hj
    refine c_skip ?_
    refine k_then_n ?_
    refine c_seq ?_
    refine c_block ?_
    refine sr ?_
    refine e_mv rfl ?_
    refine e_q (q_indexe x.d.1 Tryz.underlying52 sz_9 rfl rfl (rd_row pk_) (by decide) rfl (by first | assumption | omega | (simp only [List.length_cons, List.length_nil]; omega))) ?_
    refine e_q (q_loade (enc := Go.SL.encStr) (xs := (sortS (T.map (·.name)))) (j := x.d.1) (off := 0) sc_9 rfl (rd_row pk_) (fun _ => rfl) (by first | assumption | omega | (simp only [List.length_cons, List.length_nil]; omega)) (by decide) rfl) ?_
    refine e_as rfl ?_
    refine e_as rfl ?_
    refine l_n ?_
    refine sr ?_
    rw [← hx2]
    refine Tr.ent (file_open (t := 154) (tb := 5) hj pk_) ?_
    refine t_rd (Γ := _) (rd_row (a := e.a) (cap := e.cap) pk_) fun _ hcp _ _ => ?_
    refine e_mv rfl ?_
    refine e_q (q_nilCheck rfl) ?_
    refine e_q (q_fieldp rfl fo_143_1) ?_
    refine e_q (q_loadp (v := .map (some mb)) sc_141 rfl pk_ rfl) ?_
    refine e_mv rfl ?_
    refine e_q (q_look (v := .pointer (some ⟨e.blk, 0, none⟩)) (ek := strB) (ev := ptV) (k := ((sortS (T.map (·.name))).getD x.d.1 default)) (zv := none) Tryz.underlying141 (mkey_str Tryz.underlying9) zi_152 rfl rfl pk_ (by rw [hmg]; rfl)) ?_
    refine e_as rfl ?_
    refine l_n ?_
    refine sr ?_
    refine e_as rfl ?_
    refine l_n ?_
    refine c_seq ?_
    refine sr ?_
    refine e_mv rfl ?_
    refine e_mv rfl ?_
    refine e_q (q_len Tryz.underlying38 rfl) ?_
    refine e_q (q_lss rfl rfl) ?_
    refine l_n ?_
    refine t_cutq (ι := Unit) (fun _u => True) (fun _u => [(0, .pointer (some ⟨b, 0, none⟩)), (1, .slice keep_a keep_n keep_c), (4, .int .i64 0), (5, .int .i64 x.d.2.2), (6, .int .i64 (x.d.1 : Int)), (7, (strB ((sortS (T.map (·.name))).getD x.d.1 default))), (8, .pointer (some ⟨e.blk, 0, none⟩)), (9, .int .i64 (stayF keep x.d.1 (e.xs, e.safe))), (14, .slice an14 T.length cn14), (15, .int .i64 (T.length : Int)), (16, .int .i64 (x.d.1 : Int)), (17, .bool (decide ((x.d.1 : Int) < (T.length : Int)))), (18, .int .i64 (x.d.1 : Int)), (19, pe an14 x.d.1 1 0), (20, (strB ((sortS (T.map (·.name))).getD x.d.1 default))), (21, .pointer (some ⟨b, 0, none⟩)), (22, .pointer (some ⟨b, 0, none⟩)), (23, .pointer (some ⟨b, 1, none⟩)), (24, .map (some mb)), (25, (strB ((sortS (T.map (·.name))).getD x.d.1 default))), (26, .pointer (some ⟨e.blk, 0, none⟩)), (27, .int .i64 (x.d.1 : Int)), (28, .slice keep_a keep_n keep_c), (29, .int .i64 (keep_n : Int)), (30, .bool (decide ((x.d.1 : Int) < (keep_n : Int))))]) (fun _u => .pts e.blk (encFile1 (⟨⟨e.a, e.xs.length, e.cap⟩, e.safe⟩ : File1)) 154 :: .row 5 1 e.a e.xs.length e.cap (e.xs.flatMap encB) :: Bun ((fL 154 5 x.d.2.1).eraseIdx j) :: .row 9 1 an14 T.length cn14 ((sortS (T.map (·.name))).flatMap Go.SL.encStr) :: .pts b (encDisk1 (⟨room, (some mb), (-1)⟩ : Disk1)) 143 :: MP strB ptV mb (fm x.d.2.1) :: Δ) ?_ ?_
    · skip
      refine c_cond rfl (fun h1 => ?_) (fun h1 => ?_)
      · try simp only [decide_eq_true_eq, decide_eq_false_iff_not] at h1
        refine d_r 17 [.pts e.blk (encFile1 (⟨⟨e.a, e.xs.length, e.cap⟩, e.safe⟩ : File1)) 154, .row 5 1 e.a e.xs.length e.cap (e.xs.flatMap encB), Bun ((fL 154 5 x.d.2.1).eraseIdx j), .row 9 1 an14 T.length cn14 ((sortS (T.map (·.name))).flatMap Go.SL.encStr), .pts b (encDisk1 (⟨room, (some mb), (-1)⟩ : Disk1)) 143, MP strB ptV mb (fm x.d.2.1)] ?_
        refine d_t 0 rfl wn (q_move rfl) ?_
        refine d_t 1 rfl wn (q_move rfl) ?_
        refine d_t 2 rfl wn (q_indexe x.d.1 Tryz.underlying38 sz_3 rfl rfl (by first | assumption | exact rd_ro (by assumption) | exact rd_bun (L := (fL 154 5 x.d.2.1).eraseIdx j) pk_ (in_map _ (by first | assumption | omega | (simp only [List.length_cons, List.length_nil]; omega) | decide) rfl) | exact rd_row pk_) (by decide) rfl (by first | assumption | omega | (simp only [List.length_cons, List.length_nil]; omega))) ?_
        refine d_t 3 rfl wn (q_loade (enc := encI) (xs := keep) (j := x.d.1) (off := 0) sc_3 rfl (by first | assumption | exact rd_ro (by assumption) | exact rd_bun (L := (fL 154 5 x.d.2.1).eraseIdx j) pk_ (in_map _ (by first | assumption | omega | (simp only [List.length_cons, List.length_nil]; omega) | decide) rfl) | exact rd_row pk_) (fun _ => rfl) (by first | assumption | omega | (simp only [List.length_cons, List.length_nil]; omega)) (by decide) rfl) ?_
        refine d_t 4 rfl wn (q_max2 rfl rfl) ?_
        refine d_t 5 rfl wn (q_move rfl) ?_
        refine d_t 6 rfl wn (q_nilCheck rfl) ?_
        refine d_t 7 rfl wn (q_fieldp rfl fo_154_0) ?_
        refine d_t 8 rfl wn (q_loadp (v := .slice e.a e.xs.length e.cap) sc_22 rfl pk_ rfl) ?_
        refine d_t 9 rfl wn (q_len Tryz.underlying22 rfl) ?_
        refine d_t 10 rfl wn (q_move rfl) ?_
        refine d_t 11 rfl wn (q_nilCheck rfl) ?_
        refine d_t 12 rfl wn (q_fieldp rfl fo_154_1) ?_
        refine d_t 13 rfl wn (q_loadp (v := .int .i64 e.safe) sc_3 rfl pk_ rfl) ?_
        refine d_t 14 rfl wn (q_sub rfl rfl (by omega) (by omega)) ?_
        refine d_t 15 rfl wn (q_min2 rfl rfl) ?_
        refine d_t 16 rfl wn (q_assign rfl) ?_
        refine d_d ?_
        refine k_then_n ?_
        exact t_nx () trivial (.c (.c (.c (.c (.c (.c (.c (.cons rfl (inte (stay_yes (f := (e.xs, e.safe)) (by omega))) (.c (.c (.c (.c (.c (.c (.c (.c (.c (.c (.c (.c (.c (.c (.c (.c (.c (.nil _))))))))))))))))))))))))))
      · try simp only [decide_eq_true_eq, decide_eq_false_iff_not] at h1
        refine c_skip ?_
        refine k_then_n ?_
        exact t_nx () trivial (.c (.c (.c (.c (.c (.c (.c (.cons rfl (inte (stay_no (f := (e.xs, e.safe)) (by omega))) (.c (.c (.c (.c (.c (.c (.c (.c (.c (.c (.c (.c (.c (.c (.c (.c (.c (.nil _))))))))))))))))))))))))))
    intro _u hj1
    have hst : 0 ≤ (stayF keep x.d.1 (e.xs, e.safe)) ∧ (stayF keep x.d.1 (e.xs, e.safe)) ≤ (e.xs.length : Int) - e.safe := stay_bd keep x.d.1 (f := (e.xs, e.safe)) hua.2
    refine k_then_n ?_
    refine c_seq ?_
    refine d_r 15 [.pts e.blk (encFile1 (⟨⟨e.a, e.xs.length, e.cap⟩, e.safe⟩ : File1)) 154, .row 5 1 e.a e.xs.length e.cap (e.xs.flatMap encB), Bun ((fL 154 5 x.d.2.1).eraseIdx j), .row 9 1 an14 T.length cn14 ((sortS (T.map (·.name))).flatMap Go.SL.encStr), .pts b (encDisk1 (⟨room, (some mb), (-1)⟩ : Disk1)) 143, MP strB ptV mb (fm x.d.2.1)] ?_
    refine d_t 0 rfl wn (q_move rfl) ?_
    refine d_t 1 rfl wn (q_move rfl) ?_
    refine d_t 2 rfl wn (q_nilCheck rfl) ?_
    refine d_t 3 rfl wn (q_fieldp rfl fo_154_0) ?_
    refine d_t 4 rfl wn (q_loadp (v := .slice e.a e.xs.length e.cap) sc_22 rfl pk_ rfl) ?_
    refine d_t 5 rfl wn (q_len Tryz.underlying22 rfl) ?_
    refine d_t 6 rfl wn (q_move rfl) ?_
    refine d_t 7 rfl wn (q_nilCheck rfl) ?_
    refine d_t 8 rfl wn (q_fieldp rfl fo_154_1) ?_
    refine d_t 9 rfl wn (q_loadp (v := .int .i64 e.safe) sc_3 rfl pk_ rfl) ?_
    refine d_t 10 rfl wn (q_sub rfl rfl (by omega) (by omega)) ?_
    refine d_t 11 rfl wn (q_move rfl) ?_
    refine d_t 12 rfl wn (q_sub rfl rfl (by omega) (by omega)) ?_
    refine d_t 13 rfl wn (q_add rfl rfl (by omega) (by omega)) ?_
    refine d_t 14 rfl wn (q_assign rfl) ?_
    refine d_d ?_
    refine k_then_n ?_
    refine sr ?_
    refine e_mv rfl ?_
    refine e_q (q_nilCheck rfl) ?_
    refine e_q (q_fieldp rfl fo_154_1) ?_
    refine e_q (q_loadp (v := .int .i64 e.safe) sc_3 rfl pk_ rfl) ?_
    refine e_mv rfl ?_
    refine e_q (q_add rfl rfl (by omega) (by omega)) ?_
    refine e_q (q_nilCheck rfl) ?_
    refine e_q (q_fieldp rfl fo_154_1) ?_
    refine l_step (s_s0 wn (s_storep (ws := [.int .i64 (e.safe + (stayF keep x.d.1 (e.xs, e.safe)))]) (cs := encFile1 (⟨⟨e.a, e.xs.length, e.cap⟩, e.safe⟩ : File1)) (cs' := encFile1 (⟨⟨e.a, e.xs.length, e.cap⟩, (e.safe + (stayF keep x.d.1 (e.xs, e.safe)))⟩ : File1)) rfl rfl rfl sz_3 (by simp [Value.oneCell', strB, ptV, SL.v, SH.v]) (by simp [encFile1]) rfl pk_) ?_)
    rintro _ _ ⟨rfl, rfl⟩
    refine l_n ?_
    refine d_r 13 [.row 5 1 e.a e.xs.length e.cap (e.xs.flatMap encB), Bun ((fL 154 5 x.d.2.1).eraseIdx j), .row 9 1 an14 T.length cn14 ((sortS (T.map (·.name))).flatMap Go.SL.encStr), .pts b (encDisk1 (⟨room, (some mb), (-1)⟩ : Disk1)) 143, MP strB ptV mb (fm x.d.2.1)] ?_
    refine d_t 0 rfl wn (q_move rfl) ?_
    refine d_t 1 rfl wn (q_move rfl) ?_
    refine d_t 2 rfl wn (q_nilCheck rfl) ?_
    refine d_t 3 rfl wn (q_fieldp rfl fo_154_0) ?_
    refine d_t 5 rfl wn (q_move rfl) ?_
    refine d_t 6 rfl wn (q_nilCheck rfl) ?_
    refine d_t 7 rfl wn (q_fieldp rfl fo_154_1) ?_
    refine d_2 4 8 ?_ ?_
    · skip
      refine o_step rfl (s_q rfl wn (q_loadp (v := .slice e.a e.xs.length e.cap) sc_22 rfl pk_ rfl) ?_)
      refine d_c ?_
      refine d_1 8 ?_
      refine o_step rfl (s_q rfl wn (q_loadp (v := .int .i64 (e.safe + (stayF keep x.d.1 (e.xs, e.safe)))) sc_3 rfl pk_ rfl) ?_)
      refine d_c ?_
      refine d_t 9 rfl wn (q_cut_hi Tryz.underlying22 sz_5 rfl rfl (by omega) (by omega)) ?_
      refine d_t 10 rfl wn (q_nilCheck rfl) ?_
      refine d_t 11 rfl wn (q_fieldp rfl fo_154_0) ?_
      refine d_1 12 ?_
      refine o_step rfl (s_s0 wn (s_storep (ws := [.slice e.a (((e.safe + (stayF keep x.d.1 (e.xs, e.safe)))).toNat) e.cap]) (cs := encFile1 (⟨⟨e.a, e.xs.length, e.cap⟩, (e.safe + (stayF keep x.d.1 (e.xs, e.safe)))⟩ : File1)) (cs' := encFile1 (⟨⟨e.a, ((e.safe + (stayF keep x.d.1 (e.xs, e.safe)))).toNat, e.cap⟩, (e.safe + (stayF keep x.d.1 (e.xs, e.safe)))⟩ : File1)) rfl rfl rfl sz_22 (by simp [Value.oneCell', strB, ptV, SL.v, SH.v]) (by simp [encFile1]) rfl pk_) ?_)
      rintro _ _ ⟨rfl, rfl⟩
      refine d_c ?_
      refine d_d ?_
      refine k_blk_n ?_
      refine k_then_n ?_
      refine c_region ?_
      refine Tr.ent (Ent.trans (Ent.pick (A := .row 5 1 e.a e.xs.length e.cap (e.xs.flatMap encB)) pk_ (Ent.refl _)) (row_cut (enc := encB) (sz := 1) (n := e.xs.length) (fun _ => rfl) ((e.safe + (stayF keep x.d.1 (e.xs, e.safe)))).toNat (by omega))) ?_
      refine e_q (q_add rfl rfl (by omega) (by omega)) ?_
      refine e_mv rfl ?_
      refine l_n ?_
      have hk9 : ((e.safe + (stayF keep x.d.1 (e.xs, e.safe)))).toNat = (e.xs.take ((e.safe + (stayF keep x.d.1 (e.xs, e.safe)))).toNat).length := by rw [List.length_take]; omega
      refine Tr.ent (Γ' := .row 5 1 e.a ((e.xs.take ((e.safe + (stayF keep x.d.1 (e.xs, e.safe)))).toNat).length) e.cap ((e.xs.take ((e.safe + (stayF keep x.d.1 (e.xs, e.safe)))).toNat).flatMap encB) :: .pts e.blk (encFile1 (⟨⟨e.a, (e.xs.take ((e.safe + (stayF keep x.d.1 (e.xs, e.safe)))).toNat).length, e.cap⟩, (e.safe + (stayF keep x.d.1 (e.xs, e.safe)))⟩ : File1)) 154 :: Bun ((fL 154 5 x.d.2.1).eraseIdx j) :: .row 9 1 an14 T.length cn14 ((sortS (T.map (·.name))).flatMap Go.SL.encStr) :: .pts b (encDisk1 (⟨room, (some mb), (-1)⟩ : Disk1)) 143 :: MP strB ptV mb (fm x.d.2.1) :: Δ) (Ent.cast (by rw [← hk9]; rfl)) ?_
      refine Tr.ent (Ent.trans (Ent.pick (A := .pts e.blk (encFile1 (⟨⟨e.a, (e.xs.take ((e.safe + (stayF keep x.d.1 (e.xs, e.safe)))).toNat).length, e.cap⟩, (e.safe + (stayF keep x.d.1 (e.xs, e.safe)))⟩ : File1)) 154) pk_ (Ent.pick (A := .row 5 1 e.a ((e.xs.take ((e.safe + (stayF keep x.d.1 (e.xs, e.safe)))).toNat).length) e.cap ((e.xs.take ((e.safe + (stayF keep x.d.1 (e.xs, e.safe)))).toNat).flatMap encB)) pk_ (Ent.pick (A := Bun ((fL 154 5 x.d.2.1).eraseIdx j)) pk_ (Ent.refl _)))) (file_shut (t := 154) (tb := 5) ⟨e.name, e.blk, e.a, e.cap, e.xs.take ((e.safe + (stayF keep x.d.1 (e.xs, e.safe)))).toNat, (e.safe + (stayF keep x.d.1 (e.xs, e.safe)))⟩ hj)) ?_
      have hnd : (x.d.2.1.map (·.name)).Nodup := by rw [← fm_keys, hx2, fm_keys]; exact hT.nd
      have hf9 : fm (x.d.2.1.set j ⟨e.name, e.blk, e.a, e.cap, e.xs.take ((e.safe + (stayF keep x.d.1 (e.xs, e.safe)))).toNat, (e.safe + (stayF keep x.d.1 (e.xs, e.safe)))⟩) = fm T := by rw [fm_set (e' := ⟨e.name, e.blk, e.a, e.cap, e.xs.take ((e.safe + (stayF keep x.d.1 (e.xs, e.safe)))).toNat, (e.safe + (stayF keep x.d.1 (e.xs, e.safe)))⟩) hj rfl rfl]; exact hx2
      have hv9 : (vw (x.d.2.1.set j ⟨e.name, e.blk, e.a, e.cap, e.xs.take ((e.safe + (stayF keep x.d.1 (e.xs, e.safe)))).toNat, (e.safe + (stayF keep x.d.1 (e.xs, e.safe)))⟩), (x.d.2.2 + (((e.xs.length : Int) - e.safe) - (stayF keep x.d.1 (e.xs, e.safe))))) = (crK keep (sortS (T.map (·.name))) (vw T) (x.d.1 + 1)) := by simp only [crK, ← hx3, getD_of hvg]; rw [vw_set (e' := ⟨e.name, e.blk, e.a, e.cap, e.xs.take ((e.safe + (stayF keep x.d.1 (e.xs, e.safe)))).toNat, (e.safe + (stayF keep x.d.1 (e.xs, e.safe)))⟩) hnd hj rfl, hnm]
      have hus := used_set (e' := ⟨e.name, e.blk, e.a, e.cap, e.xs.take ((e.safe + (stayF keep x.d.1 (e.xs, e.safe)))).toNat, (e.safe + (stayF keep x.d.1 (e.xs, e.safe)))⟩) hj
      simp only [List.length_take] at hus
      rw [hx2]
      exact t_nx (⟨(x.d.1 + 1, x.d.2.1.set j ⟨e.name, e.blk, e.a, e.cap, e.xs.take ((e.safe + (stayF keep x.d.1 (e.xs, e.safe)))).toNat, (e.safe + (stayF keep x.d.1 (e.xs, e.safe)))⟩, (x.d.2.2 + (((e.xs.length : Int) - e.safe) - (stayF keep x.d.1 (e.xs, e.safe))))), none, 0, none, 0, none, 0⟩ : Lp _) ⟨⟨by (try simp only []); omega, hf9, hv9, ⟨by (try simp only []); omega, by (try simp only []); omega⟩, fun y hy => by rcases List.mem_or_eq_of_mem_set hy with h | h; exact hx5 y h; rw [h]; simp only [List.length_take]; omega⟩, by (try simp only []); omega⟩ (.c (.c (.c (.c (.c (.c (.c (.nil _))))))))
    · skip
      refine o_step rfl (s_q rfl wn (q_loadp (v := .int .i64 (e.safe + (stayF keep x.d.1 (e.xs, e.safe)))) sc_3 rfl pk_ rfl) ?_)
      refine d_c ?_
      refine d_1 4 ?_
      refine o_step rfl (s_q rfl wn (q_loadp (v := .slice e.a e.xs.length e.cap) sc_22 rfl pk_ rfl) ?_)
      refine d_c ?_
      refine d_t 9 rfl wn (q_cut_hi Tryz.underlying22 sz_5 rfl rfl (by omega) (by omega)) ?_
      refine d_t 10 rfl wn (q_nilCheck rfl) ?_
      refine d_t 11 rfl wn (q_fieldp rfl fo_154_0) ?_
      refine d_1 12 ?_
      refine o_step rfl (s_s0 wn (s_storep (ws := [.slice e.a (((e.safe + (stayF keep x.d.1 (e.xs, e.safe)))).toNat) e.cap]) (cs := encFile1 (⟨⟨e.a, e.xs.length, e.cap⟩, (e.safe + (stayF keep x.d.1 (e.xs, e.safe)))⟩ : File1)) (cs' := encFile1 (⟨⟨e.a, ((e.safe + (stayF keep x.d.1 (e.xs, e.safe)))).toNat, e.cap⟩, (e.safe + (stayF keep x.d.1 (e.xs, e.safe)))⟩ : File1)) rfl rfl rfl sz_22 (by simp [Value.oneCell', strB, ptV, SL.v, SH.v]) (by simp [encFile1]) rfl pk_) ?_)
      rintro _ _ ⟨rfl, rfl⟩
      refine d_c ?_
      refine d_d ?_
      refine k_blk_n ?_
      refine k_then_n ?_
      refine c_region ?_
      refine Tr.ent (Ent.trans (Ent.pick (A := .row 5 1 e.a e.xs.length e.cap (e.xs.flatMap encB)) pk_ (Ent.refl _)) (row_cut (enc := encB) (sz := 1) (n := e.xs.length) (fun _ => rfl) ((e.safe + (stayF keep x.d.1 (e.xs, e.safe)))).toNat (by omega))) ?_
      refine e_q (q_add rfl rfl (by omega) (by omega)) ?_
      refine e_mv rfl ?_
      refine l_n ?_
      have hk9 : ((e.safe + (stayF keep x.d.1 (e.xs, e.safe)))).toNat = (e.xs.take ((e.safe + (stayF keep x.d.1 (e.xs, e.safe)))).toNat).length := by rw [List.length_take]; omega
      refine Tr.ent (Γ' := .row 5 1 e.a ((e.xs.take ((e.safe + (stayF keep x.d.1 (e.xs, e.safe)))).toNat).length) e.cap ((e.xs.take ((e.safe + (stayF keep x.d.1 (e.xs, e.safe)))).toNat).flatMap encB) :: .pts e.blk (encFile1 (⟨⟨e.a, (e.xs.take ((e.safe + (stayF keep x.d.1 (e.xs, e.safe)))).toNat).length, e.cap⟩, (e.safe + (stayF keep x.d.1 (e.xs, e.safe)))⟩ : File1)) 154 :: Bun ((fL 154 5 x.d.2.1).eraseIdx j) :: .row 9 1 an14 T.length cn14 ((sortS (T.map (·.name))).flatMap Go.SL.encStr) :: .pts b (encDisk1 (⟨room, (some mb), (-1)⟩ : Disk1)) 143 :: MP strB ptV mb (fm x.d.2.1) :: Δ) (Ent.cast (by rw [← hk9]; rfl)) ?_
      refine Tr.ent (Ent.trans (Ent.pick (A := .pts e.blk (encFile1 (⟨⟨e.a, (e.xs.take ((e.safe + (stayF keep x.d.1 (e.xs, e.safe)))).toNat).length, e.cap⟩, (e.safe + (stayF keep x.d.1 (e.xs, e.safe)))⟩ : File1)) 154) pk_ (Ent.pick (A := .row 5 1 e.a ((e.xs.take ((e.safe + (stayF keep x.d.1 (e.xs, e.safe)))).toNat).length) e.cap ((e.xs.take ((e.safe + (stayF keep x.d.1 (e.xs, e.safe)))).toNat).flatMap encB)) pk_ (Ent.pick (A := Bun ((fL 154 5 x.d.2.1).eraseIdx j)) pk_ (Ent.refl _)))) (file_shut (t := 154) (tb := 5) ⟨e.name, e.blk, e.a, e.cap, e.xs.take ((e.safe + (stayF keep x.d.1 (e.xs, e.safe)))).toNat, (e.safe + (stayF keep x.d.1 (e.xs, e.safe)))⟩ hj)) ?_
      have hnd : (x.d.2.1.map (·.name)).Nodup := by rw [← fm_keys, hx2, fm_keys]; exact hT.nd
      have hf9 : fm (x.d.2.1.set j ⟨e.name, e.blk, e.a, e.cap, e.xs.take ((e.safe + (stayF keep x.d.1 (e.xs, e.safe)))).toNat, (e.safe + (stayF keep x.d.1 (e.xs, e.safe)))⟩) = fm T := by rw [fm_set (e' := ⟨e.name, e.blk, e.a, e.cap, e.xs.take ((e.safe + (stayF keep x.d.1 (e.xs, e.safe)))).toNat, (e.safe + (stayF keep x.d.1 (e.xs, e.safe)))⟩) hj rfl rfl]; exact hx2
      have hv9 : (vw (x.d.2.1.set j ⟨e.name, e.blk, e.a, e.cap, e.xs.take ((e.safe + (stayF keep x.d.1 (e.xs, e.safe)))).toNat, (e.safe + (stayF keep x.d.1 (e.xs, e.safe)))⟩), (x.d.2.2 + (((e.xs.length : Int) - e.safe) - (stayF keep x.d.1 (e.xs, e.safe))))) = (crK keep (sortS (T.map (·.name))) (vw T) (x.d.1 + 1)) := by simp only [crK, ← hx3, getD_of hvg]; rw [vw_set (e' := ⟨e.name, e.blk, e.a, e.cap, e.xs.take ((e.safe + (stayF keep x.d.1 (e.xs, e.safe)))).toNat, (e.safe + (stayF keep x.d.1 (e.xs, e.safe)))⟩) hnd hj rfl, hnm]
      have hus := used_set (e' := ⟨e.name, e.blk, e.a, e.cap, e.xs.take ((e.safe + (stayF keep x.d.1 (e.xs, e.safe)))).toNat, (e.safe + (stayF keep x.d.1 (e.xs, e.safe)))⟩) hj
      simp only [List.length_take] at hus
      rw [hx2]
      exact t_nx (⟨(x.d.1 + 1, x.d.2.1.set j ⟨e.name, e.blk, e.a, e.cap, e.xs.take ((e.safe + (stayF keep x.d.1 (e.xs, e.safe)))).toNat, (e.safe + (stayF keep x.d.1 (e.xs, e.safe)))⟩, (x.d.2.2 + (((e.xs.length : Int) - e.safe) - (stayF keep x.d.1 (e.xs, e.safe))))), none, 0, none, 0, none, 0⟩ : Lp _) ⟨⟨by (try simp only []); omega, hf9, hv9, ⟨by (try simp only []); omega, by (try simp only []); omega⟩, fun y hy => by rcases List.mem_or_eq_of_mem_set hy with h | h; exact hx5 y h; rw [h]; simp only [List.length_take]; omega⟩, by (try simp only []); omega⟩ (.c (.c (.c (.c (.c (.c (.c (.nil _))))))))
  · try simp only [decide_eq_true_eq, decide_eq_false_iff_not] at h0
    have hk : x.d.1 = T.length := by omega
    rw [← hx2]
    refine c_exit ?_
    refine k_then_x ?_
    refine k_then_x ?_
    refine k_blk_x ?_
    refine k_then_n ?_
    refine sr ?_
    refine e_mv rfl ?_
    refine e_as rfl ?_
    refine l_n ?_
    refine c_ret ?_
    have hr : (crR keep (vw T)) = (vw x.d.2.1, x.d.2.2) := by unfold crR; rw [vw_keys, vw_len, hx3, hk]
    exact t_rt [.pts b (encDisk1 (⟨room, (some mb), (-1)⟩ : Disk1)) 143, MP strB ptV mb (fm x.d.2.1), FB 154 5 x.d.2.1] rfl (.tmp rfl .nil) rfl ⟨rfl, x.d.2.1, by rw [hr]; rfl, by rw [hr], rfl⟩
end Go.Dsk.V

/-
  Package disk, walked.
-/
set_option maxRecDepth 100000
set_option maxHeartbeats 4000000
set_option linter.unusedSimpArgs false
set_option linter.unusedVariables false
namespace Go.Dsk.S
open Go Go.SL Go.Proofs Go.Dsk Go.Dsk.L
attribute [local irreducible] Go.SL.Ent
theorem eo_9 : elemOk Tryz.prog 9 1 16 = true := by kernel_rfl
theorem sc_52 : isScalar Tryz.prog 52 = true := by kernel_rfl
theorem sc_9 : isScalar Tryz.prog 9 = true := by kernel_rfl
theorem sz_52 : sizeIs Tryz.prog 52 = some 1 := by kernel_rfl
theorem sz_9 : sizeIs Tryz.prog 9 = some 1 := by kernel_rfl

theorem values_spec (a : Option Addr) (l c : Nat) (ρ : Hp) : Spec0 Tryz.prog 156 #[.slice a l c] ρ [] (fun v Γ' => ∃ b1, v = .func (.func 214) #[] #[.pointer (some ⟨b1, 0, none⟩)] ∧ Γ' = [.pts b1 [.slice a l c] 52]) := by
  refine spec_of (n := 4) (vs := [_]) (σ := [(0, _)]) Tryz.func156 rfl rfl rfl rfl fun E Δ => ?_
  rw [List.nil_append]
  refine sr ?_
  refine e_s (s_box (cs := [.slice a l c]) rfl rfl) ?_
  rintro _ _ ⟨b1, rfl, rfl⟩
  refine e_as rfl ?_
  refine l_n ?_
  refine sr ?_
  refine e_q (q_makeFunc rfl rfl) ?_
  refine e_as rfl ?_
  refine l_n ?_
  refine c_ret ?_
  exact t_rt [.pts b1 [.slice a l c] 52] rfl (.tmp rfl .nil) rfl ⟨rfl, b1, rfl, rfl⟩

theorem values_iter (bs : Nat) (a : Option Addr) (ln c : Nat) (xs : List (List UInt8)) (ρ : Hp) (hln : xs.length = ln) (hro : Ro ρ 1 a ln c (xs.flatMap Go.SL.encStr)) : IterS Tryz.prog 214 #[.pointer (some ⟨bs, 0, none⟩)] ρ [.pts bs [.slice a ln c] 52] (xs.map fun s => [strB s]) := by
  refine iter_of (n := 16) (cap := [_]) (σ := [(1, _)]) Tryz.func214 rfl rfl rfl rfl fun E l m κ ι I St hY x0 => ?_
  refine Tr.ent (Ent.comm _ _) ?_
  simp only [List.cons_append, List.nil_append]
  have hrob : ln ≤ 9223372036854775807 := Nat.le_trans hro.2.1 hro.2.2.1
  refine i_seq ?_
  refine i_region ?_
  refine li_step (.inl rfl) (s_q rfl wn (q_loadp (v := .slice a ln c) sc_52 rfl (by repeat (first | exact Pick.here | apply Pick.there)) rfl) ?_)
  refine li_step (.inl rfl) (s_q rfl wn (q_len Tryz.underlying52 rfl) ?_)
  refine li_step (.inl rfl) (s_q rfl wn (q_move rfl) ?_)
  refine li_nil ?_
  refine k_then_n ?_
  refine i_block ?_
  refine Tr.env (σ' := [(0, _), (5, _), (6, _), (7, _)]) (.cons rfl rfl (.cons rfl rfl (.cons rfl rfl (.cons rfl rfl (.nil _))))) ?_
  refine i_loop (ι := Lp (Nat × κ)) (fun x => x.d.1 ≤ ln) (fun x => ln - x.d.1) (fun x => [(0, (.func (.yield l) #[] #[])), (5, .slice a ln c), (6, .int .i64 (ln : Int)), (7, .int .i64 (x.d.1 : Int))]) (fun x => .pts bs [.slice a ln c] 52 :: I x.d.1 x.d.2) (⟨(0, x0), none, 0, none, 0, none, 0⟩ : Lp _) (Nat.zero_le _) ?_ ?_ ?_
  · exact .cons rfl (by first | rfl | exact inte (by omega) | (simp; done) | (simp <;> omega) | simp [*]) (.cons rfl (by first | rfl | exact inte (by omega) | (simp; done) | (simp <;> omega) | simp [*]) (.cons rfl (by first | rfl | exact inte (by omega) | (simp; done) | (simp <;> omega) | simp [*]) (.cons rfl (by first | rfl | exact inte (by omega) | (simp; done) | (simp <;> omega) | simp [*]) (.nil _))))
  · exact (by repeat (first | exact Ent.nil _ | exact Ent.refl _ | (refine Ent.pick (by repeat (first | exact Pick.here | apply Pick.there)) ?_) | refine Ent.skip ?_))
  intro x hx
  refine i_seq ?_
  refine i_region ?_
  refine li_step (.inl rfl) (s_q rfl wn (q_lss rfl rfl) ?_)
  refine li_nil ?_
  refine k_then_n ?_
  refine i_seq ?_
  refine i_cond rfl (fun h0 => ?_) (fun h0 => ?_)
  · try simp only [decide_eq_true_eq, decide_eq_false_iff_not] at h0
    refine i_skip ?_
    refine k_then_n ?_
    refine i_seq ?_
    refine i_block ?_
    refine i_seq ?_
    refine i_region ?_
    refine li_step (.inl rfl) (s_q rfl wn (q_indexe x.d.1 Tryz.underlying52 sz_9 rfl rfl (by first | assumption | exact rd_ro (by assumption) | exact rd_row (by repeat (first | exact Pick.here | apply Pick.there))) (by decide) rfl (by first | assumption | omega | (simp only [List.length_cons, List.length_nil]; omega))) ?_)
    refine li_step (.inl rfl) (s_q rfl wn (q_loade (enc := Go.SL.encStr) (xs := xs) (j := x.d.1) (off := 0) sc_9 rfl (by first | assumption | exact rd_ro (by assumption) | exact rd_row (by repeat (first | exact Pick.here | apply Pick.there))) (fun _ => rfl) (by first | assumption | omega | (simp only [List.length_cons, List.length_nil]; omega)) (by decide) rfl) ?_)
    refine li_step (.inl rfl) (s_q rfl wn (q_assign rfl) ?_)
    refine li_nil ?_
    refine k_then_n ?_
    refine i_seq ?_
    refine i_region ?_
    refine li_step (.inl rfl) (s_q rfl wn (q_move rfl) ?_)
    refine li_step (.inl rfl) (s_q rfl wn (q_move rfl) ?_)
    have hY' := hY x.d.1 (by rw [List.length_map]; omega) x.d.2
    rw [show (xs.map fun s => [strB s])[x.d.1]'(by rw [List.length_map]; omega) = [strB (xs.getD x.d.1 default)] from by rw [List.getElem_map, List.getD_eq_getElem?_getD, List.getElem?_eq_getElem (by omega), Option.getD_some]] at hY'
    have hC := Ent.comm ([.pts bs [.slice a ln c] 52] : List Asn) (I x.d.1 x.d.2)
    rw [List.cons_append, List.nil_append] at hC
    refine Tr.ent hC ?_
    refine i_yield rfl rfl rfl hY' (fun y => ?_) (fun st => ?_)
    · skip
      refine Tr.ent (Ent.comm (I (x.d.1 + 1) y) [.pts bs [.slice a ln c] 52]) ?_
      simp only [List.cons_append, List.nil_append]
      refine li_step (.inl rfl) (s_q rfl wn (q_not rfl) ?_)
      refine li_nil ?_
      refine k_then_n ?_
      refine i_no rfl ?_
      refine i_skip ?_
      refine k_blk_n ?_
      refine k_then_n ?_
      refine i_region ?_
      refine li_step (.inl rfl) (s_q rfl wn (q_add rfl rfl (by omega) (by omega)) ?_)
      refine li_step (.inl rfl) (s_q rfl wn (q_move rfl) ?_)
      refine li_nil ?_
      refine k_then_n ?_
      exact t_next (⟨(x.d.1 + 1, y), none, 0, none, 0, none, 0⟩ : Lp _) ⟨by simp only []; omega, by simp only []; omega⟩ (.cons rfl (by first | rfl | exact inte (by omega) | (simp; done) | (simp <;> omega) | simp [*]) (.cons rfl (by first | rfl | exact inte (by omega) | (simp; done) | (simp <;> omega) | simp [*]) (.cons rfl (by first | rfl | exact inte (by omega) | (simp; done) | (simp <;> omega) | simp [*]) (.cons rfl (by first | rfl | exact inte (by omega) | (simp; done) | (simp <;> omega) | simp [*]) (.nil _))))) (by repeat (first | exact Ent.nil _ | exact Ent.refl _ | (refine Ent.pick (by repeat (first | exact Pick.here | apply Pick.there)) ?_) | refine Ent.skip ?_))
    · skip
      refine li_step (.inl rfl) (s_q rfl wn (q_not rfl) ?_)
      refine li_nil ?_
      refine k_then_n ?_
      refine i_yes rfl ?_
      refine i_ret ?_
      refine k_blk_r ?_
      refine k_then_r ?_
      refine k_then_r ?_
      refine k_blk_r ?_
      exact t_iret rfl (fun w h => .inr ⟨st, h⟩)
  · try simp only [decide_eq_true_eq, decide_eq_false_iff_not] at h0
    refine i_exit ?_
    refine k_then_x ?_
    refine k_then_x ?_
    refine k_blk_x ?_
    refine k_body_n ?_
    have hk : x.d.1 = (xs.map fun s => [strB s]).length := by rw [List.length_map]; omega
    rw [← hk]
    exact t_iret rfl (fun w h => .inl ⟨x.d.2, h.ent (Ent.comm [.pts bs [.slice a ln c] 52] (I x.d.1 x.d.2))⟩)

theorem appendSeq_spec (bs : Nat) (a : Option Addr) (ln c : Nat) (xs : List (List UInt8)) (ρ : Hp) (hln : xs.length = ln) (hro : Ro ρ 1 a ln c (xs.flatMap Go.SL.encStr)) (hl : ln ≤ 1000000000) : Spec0 Tryz.prog 216 #[.slice none 0 0, .func (.func 214) #[] #[.pointer (some ⟨bs, 0, none⟩)]] ρ [.pts bs [.slice a ln c] 52] (fun v Γ' => ∃ a1 c1, v = .slice a1 ln c1 ∧ Γ' = [.row 9 1 a1 ln c1 (xs.flatMap Go.SL.encStr)]) := by
  refine spec_ofM (n := 13) (vs := [_, _]) (σ := [(0, _), (1, _)]) Tryz.func216 rfl rfl rfl rfl fun E Δ => ?_
  simp only [List.cons_append, List.nil_append]
  refine c_seq ?_
  refine c_region ?_
  refine l_step (s_s rfl wn (s_box (cs := [.slice none 0 0]) rfl rfl) ?_)
  rintro _ _ ⟨b2, rfl, rfl⟩
  refine l_step (s_q rfl wn (q_assign rfl) ?_)
  refine l_nil ?_
  refine k_then_n ?_
  refine c_seq ?_
  refine c_seq ?_
  refine c_region ?_
  refine l_step (s_q rfl wn (q_move rfl) ?_)
  refine l_nil ?_
  refine k_then_n ?_
  refine c_block ?_
  refine Tr.ent (Ent.nilrow 9 1 _) ?_
  refine Tr.env (σ' := [(2, .pointer (some ⟨b2, 0, none⟩)), (4, .slice none 0 0), (6, .func (.func 214) #[] #[.pointer (some ⟨bs, 0, none⟩)])]) (.cons rfl rfl (.cons rfl rfl (.cons rfl rfl (.nil _)))) ?_
  refine t_rangeFunc (ps := [7]) (Γi := [.pts bs [.slice a ln c] 52]) (vals := (xs.map fun s => [strB s])) (κ := Option Addr × Nat) (ι := Empty) (ι1 := Unit) (fun k y => .row 9 1 y.1 ((xs.take k).length) y.2 ((xs.take k).flatMap Go.SL.encStr) :: .pts b2 [.slice y.1 ((xs.take k).length) y.2] 52 :: Δ) (none, 0) (fun e => e.elim) (fun k y _ => [(5, (strB (xs.getD k default))), (2, .pointer (some ⟨b2, 0, none⟩)), (4, .slice none 0 0), (6, .func (.func 214) #[] #[.pointer (some ⟨bs, 0, none⟩)])]) (fun k y _ => .row 9 1 y.1 ((xs.take k).length) y.2 ((xs.take k).flatMap Go.SL.encStr) :: .pts b2 [.slice y.1 ((xs.take k).length) y.2] 52 :: Δ) rfl Tryz.func214 rfl (by kernel_rfl) (values_iter bs a ln c xs ρ hln hro) (Ent.trans (by repeat (first | exact Ent.nil _ | exact Ent.refl _ | (refine Ent.pick (by repeat (first | exact Pick.here | apply Pick.there)) ?_) | refine Ent.skip ?_)) (Ent.comm [.pts bs [.slice a ln c] 52] _)) (by decide) (by intro v hv; obtain ⟨_, _, rfl⟩ := List.mem_map.1 hv; rfl) ?_ ?_ ?_ ?_
  · intro k hk y l m Fr
    rw [show (xs.map fun s => [strB s])[k]'hk = [strB (xs.getD k default)] from by rw [List.getElem_map, List.getD_eq_getElem?_getD, List.getElem?_eq_getElem (by rw [List.length_map] at hk; exact hk), Option.getD_some]]
    simp only [binds, List.cons_append, List.nil_append]
    refine i_region ?_
    refine li_step (.inr (fun c h => by cases h)) (s_q rfl wn (q_assign rfl) ?_)
    refine li_nil ?_
    refine k_then_n ?_
    exact t_next () trivial (.cons rfl rfl (.cons rfl rfl (.cons rfl rfl (.cons rfl rfl (.nil _))))) (by repeat (first | exact Ent.nil _ | exact Ent.refl _ | (refine Ent.pick (by repeat (first | exact Pick.here | apply Pick.there)) ?_) | refine Ent.skip ?_))
  · intro k hk y _ l m Fr
    simp only [List.cons_append, List.nil_append]
    rw [List.length_map] at hk
    have hkl : (xs.take k).length = k := by rw [List.length_take]; omega
    refine i_block ?_
    refine i_region ?_
    refine li_step (.inr (fun c h => by cases h)) (s_q rfl wn (q_loadp (v := .slice y.1 ((xs.take k).length) y.2) sc_52 rfl (by repeat (first | exact Pick.here | apply Pick.there)) rfl) ?_)
    refine li_step (.inr (fun c h => by cases h)) (s_q rfl wn (q_move rfl) ?_)
    refine li_step (.inr (fun c h => by cases h)) (s_s rfl wn (s_buildSlice (cs := ([(xs.getD k default)] : List (List UInt8)).flatMap Go.SL.encStr) Tryz.underlying52 eo_9 rfl rfl rfl rfl (by decide) (by decide)) ?_)
    rintro _ _ ⟨b10, rfl, rfl⟩
    refine li_step (.inr (fun c h => by cases h)) (s_s rfl wn (s_appendn (enc := Go.SL.encStr) (xs := ((xs.take k) : List (List UInt8))) (ys := ([(xs.getD k default)] : List (List UInt8))) (Γ' := fun a' cap' => _) Tryz.underlying52 eo_9 (by decide) rfl rfl (rd_row (by repeat (first | exact Pick.here | apply Pick.there))) (oneStr _) (by first | omega | (simp only [List.length_append, List.length_cons, List.length_nil] at *; omega)) (by first | omega | (simp only [List.length_append, List.length_cons, List.length_nil] at *; omega)) (fun _ _ => (by repeat (first | exact Pick.here | apply Pick.there)))) ?_)
    rintro _ _ ⟨a11, c11, rfl, rfl⟩
    refine li_step (.inr (fun c h => by cases h)) (s_s0 wn (s_storep (ws := [.slice a11 ((xs.take k).length + 1) c11]) (cs := [.slice y.1 ((xs.take k).length) y.2]) (cs' := [.slice a11 ((xs.take k).length + 1) c11]) rfl rfl rfl sz_52 (by simp [Value.oneCell', strB, ptV, SL.v, SH.v]) (by simp) rfl (by repeat (first | exact Pick.here | apply Pick.there))) ?_)
    rintro _ _ ⟨rfl, rfl⟩
    refine li_nil ?_
    refine k_blk_n ?_
    have hxs : xs.take k ++ [xs.getD k default] = xs.take (k + 1) := (take_succ_getD _ _ hk).symm
    have hn1 : (xs.take k).length + 1 = (xs.take (k + 1)).length := by rw [← hxs, List.length_append]; rfl
    rw [hxs, hn1]
    refine rq_n (a11, c11) ?_
    simp only [List.cons_append, List.nil_append]
    exact (by repeat (first | exact Ent.nil _ | exact Ent.refl _ | (refine Ent.pick (by repeat (first | exact Pick.here | apply Pick.there)) ?_) | refine Ent.skip ?_))
  · intro D y
    simp only [List.cons_append, List.nil_append]
    refine Tr.ent (Γ' := .obj D (.deferred (some [])) :: .row 9 1 y.1 ((xs.take ((xs.map fun s => [strB s]).length)).length) y.2 ((xs.take ((xs.map fun s => [strB s]).length)).flatMap Go.SL.encStr) :: .pts b2 [.slice y.1 ((xs.take ((xs.map fun s => [strB s]).length)).length) y.2] 52 :: Δ) (by repeat (first | refine Ent.pick Pick.here ?_ | exact Ent.app Δ _ | exact Ent.refl _)) ?_
    have hfin : xs.take (xs.map fun s => [strB s]).length = xs := by rw [List.length_map, List.take_length]
    rw [hfin, hln]
    refine k_blk_n ?_
    refine k_then_n ?_
    refine c_seq ?_
    refine c_region ?_
    refine l_step (s_q rfl wn (q_loadp (v := .slice y.1 ln y.2) sc_52 rfl (by repeat (first | exact Pick.here | apply Pick.there)) rfl) ?_)
    refine l_step (s_q rfl wn (q_assign rfl) ?_)
    refine l_nil ?_
    refine k_then_n ?_
    refine c_ret ?_
    exact t_retM (Γ1 := .row 9 1 y.1 ln y.2 (xs.flatMap Go.SL.encStr) :: .pts b2 [.slice y.1 ln y.2] 52 :: Δ) [.row 9 1 y.1 ln y.2 (xs.flatMap Go.SL.encStr)] (by repeat (first | exact Ent.nil _ | exact Ent.refl _ | (refine Ent.pick (by repeat (first | exact Pick.here | apply Pick.there)) ?_) | refine Ent.skip ?_)) rfl (.tmp rfl .nil) rfl (Hp.le_refl _) ⟨rfl, y.1, y.2, rfl, rfl⟩ (by repeat (first | exact Ent.nil _ | exact Ent.refl _ | (refine Ent.pick (by repeat (first | exact Pick.here | apply Pick.there)) ?_) | refine Ent.skip ?_))
  · intro D e; cases e

theorem collect_spec (bs : Nat) (a : Option Addr) (ln c : Nat) (xs : List (List UInt8)) (ρ : Hp) (hln : xs.length = ln) (hro : Ro ρ 1 a ln c (xs.flatMap Go.SL.encStr)) (hl : ln ≤ 1000000000) : Spec0 Tryz.prog 160 #[.func (.func 214) #[] #[.pointer (some ⟨bs, 0, none⟩)]] ρ [.pts bs [.slice a ln c] 52] (fun v Γ' => ∃ a1 c1, v = .slice a1 ln c1 ∧ Γ' = [.row 9 1 a1 ln c1 (xs.flatMap Go.SL.encStr)]) := by
  refine spec_of (n := 5) (vs := [_]) (σ := [(0, _)]) Tryz.func160 rfl rfl rfl rfl fun E Δ => ?_
  simp only [List.cons_append, List.nil_append]
  refine sr ?_
  refine e_as rfl ?_
  refine l_n ?_
  refine sr ?_
  refine e_mv rfl ?_
  refine e_fn Tryz.func216 rfl sl_ (fun ρ' hL => appendSeq_spec bs a ln c xs ρ' hln (hL.ro hro) hl) ?_
  rintro _ _ ⟨a4, c4, rfl, rfl⟩
  try simp only [List.cons_append, List.nil_append]
  refine e_as rfl ?_
  refine l_n ?_
  refine c_ret ?_
  exact t_rt [.row 9 1 a4 ln c4 (xs.flatMap Go.SL.encStr)] rfl (.tmp rfl .nil) rfl ⟨rfl, a4, c4, rfl, rfl⟩

theorem sortedV_spec (bs : Nat) (a : Option Addr) (ln c : Nat) (xs : List (List UInt8)) (ρ : Hp) (hln : xs.length = ln) (hro : Ro ρ 1 a ln c (xs.flatMap Go.SL.encStr)) (hl : ln ≤ 1000000000) : Spec0 Tryz.prog 87 #[.func (.func 214) #[] #[.pointer (some ⟨bs, 0, none⟩)]] ρ [.pts bs [.slice a ln c] 52] (fun v Γ' => ∃ a1 c1, v = .slice a1 ln c1 ∧ Γ' = [.row 9 1 a1 ln c1 ((sortS xs).flatMap Go.SL.encStr)]) := by
  refine spec_of (n := 9) (vs := [_]) (σ := [(0, _)]) Tryz.func87 rfl rfl rfl rfl fun E Δ => ?_
  simp only [List.cons_append, List.nil_append]
  refine sr ?_
  refine e_as rfl ?_
  refine l_n ?_
  refine sr ?_
  refine e_mv rfl ?_
  refine e_fn Tryz.func160 rfl sl_ (fun ρ' hL => collect_spec bs a ln c xs ρ' hln (hL.ro hro) hl) ?_
  rintro _ _ ⟨a5, c5, rfl, rfl⟩
  try simp only [List.cons_append, List.nil_append]
  refine e_as rfl ?_
  refine l_n ?_
  refine sr ?_
  refine e_mv rfl ?_
  refine e_fn Tryz.func161 rfl sl_ (fun ρ' hL => sort_rowS sortSA a5 ln c5 xs hln hl ρ') ?_
  rintro _ _ ⟨rfl, rfl⟩
  try simp only [List.cons_append, List.nil_append]
  refine l_n ?_
  refine sr ?_
  refine e_mv rfl ?_
  refine e_as rfl ?_
  refine l_n ?_
  refine c_ret ?_
  exact t_rt [.row 9 1 a5 ln c5 ((sortS xs).flatMap Go.SL.encStr)] rfl (.tmp rfl .nil) rfl ⟨rfl, a5, c5, rfl, rfl⟩
end Go.Dsk.S

/-
  Package disk, walked.
-/
set_option maxRecDepth 100000
set_option maxHeartbeats 4000000
set_option linter.unusedSimpArgs false
set_option linter.unusedVariables false
namespace Go.Dsk.R
open Go Go.SL Go.Proofs Go.Dsk Go.Dsk.L Go.Dsk.X
attribute [local irreducible] Go.SL.Ent
theorem fo_143_1 : fieldOff Tryz.prog 143 1 = some (1, 141) := by kernel_rfl
theorem sc_141 : isScalar Tryz.prog 141 = true := by kernel_rfl
theorem sc_9 : isScalar Tryz.prog 9 = true := by kernel_rfl
theorem sz_9 : sizeIs Tryz.prog 9 = some 1 := by kernel_rfl

theorem remove_spec (b : Nat) (room : Int) (mb : Nat) (calls : Int) (T : FT) (names_a : Option Addr) (names_n names_c : Nat) (names : List (List UInt8)) (hnames_n : names.length = names_n) (ρ : Hp) (hT : FOk T) (hc : calls ≤ 9223372036854775807) (hnb : names_n ≤ 1000000000) (hro : Ro ρ 1 names_a names_n names_c (names.flatMap Go.SL.encStr)) : Spec0 Tryz.prog 76 #[.pointer (some ⟨b, 0, none⟩), .slice names_a names_n names_c] ρ [.pts b (encDisk1 (⟨room, (some mb), calls⟩ : Disk1)) 143, MP strB ptV mb (fm T), FB 154 5 T] (fun v Γ' => ∃ T', v = .int .i64 (remR calls (vw T) names).1 ∧ vw T' = (remR calls (vw T) names).2 ∧ Γ' = [.pts b (encDisk1 (⟨room, (some mb), (decC calls)⟩ : Disk1)) 143, MP strB ptV mb (fm T'), FB 154 5 T']) := by
  refine spec_of (n := 37) (vs := [_, _]) (σ := [(0, _), (1, _)]) Tryz.func76 rfl rfl rfl rfl fun E Δ => ?_
  simp only [List.cons_append, List.nil_append]
  refine sr ?_
  refine e_as rfl ?_
  refine l_n ?_
  refine c_seq ?_
  refine sr ?_
  refine e_mv rfl ?_
  refine e_fn Tryz.func78 rfl sl_ (fun ρ' hL => stopped_spec b room mb calls T ρ' (by first | assumption | omega)) ?_
  rintro _ _ ⟨rfl, rfl⟩
  try simp only [List.cons_append, List.nil_append]
  refine l_n ?_
  refine c_cond rfl (fun h0 => ?_) (fun h0 => ?_)
  · try simp only [decide_eq_true_eq, decide_eq_false_iff_not] at h0
    refine sr ?_
    refine e_as rfl ?_
    refine l_n ?_
    refine c_ret ?_
    refine k_then_r ?_
    have hr : (remR calls (vw T) names) = (32, vw T) := if_pos h0
    exact t_rt [.pts b (encDisk1 (⟨room, (some mb), (decC calls)⟩ : Disk1)) 143, MP strB ptV mb (fm T), FB 154 5 T] rfl (.tmp rfl .nil) rfl ⟨rfl, T, by rw [hr]; rfl, by rw [hr], rfl⟩
  · try simp only [decide_eq_true_eq, decide_eq_false_iff_not] at h0
    refine c_skip ?_
    refine k_then_n ?_
    refine sr ?_
    refine e_mv rfl ?_
    refine e_fn Tryz.func156 rfl sl_ (fun ρ' hL => S.values_spec names_a names_n names_c ρ') ?_
    rintro _ _ ⟨bv, rfl, rfl⟩
    try simp only [List.cons_append, List.nil_append]
    refine e_fn Tryz.func87 rfl sl_ (fun ρ' hL => S.sortedV_spec bv names_a names_n names_c names ρ' hnames_n (hL.ro hro) hnb) ?_
    rintro _ _ ⟨aS, cS, rfl, rfl⟩
    try simp only [List.cons_append, List.nil_append]
    refine e_fn Tryz.func155 rfl sl_ (fun ρ' hL => compact_s compA aS names_n cS (sortS names) ((sortS_len names).trans hnames_n) hnb ρ') ?_
    rintro _ _ ⟨rfl, rfl⟩
    try simp only [List.cons_append, List.nil_append]
    refine e_as rfl ?_
    refine l_n ?_
    refine c_seq ?_
    refine sr ?_
    refine e_mv rfl ?_
    refine e_mv rfl ?_
    refine l_step (s_fnr rfl wn Tryz.func152 rfl (by kernel_rfl) rfl sl_ (fun ρ' hL => there_spec b room mb (decC calls) T names_a names_n names_c names (by first | rfl | assumption | (simp; done) | (simp <;> omega) | omega) ρ' (by first | exact hL.ro (by assumption) | exact hL.row pk_ | assumption)) ?_)
    refine e_q (q_not rfl) ?_
    refine e_mv rfl ?_
    refine l_step (s_qg rfl (ask_f rfl rfl) (b := (!(!((names.all (mhas (vw T))))))) (fun hb => q_move rfl) ?_)
    refine l_step (s_qg rfl (ask_f rfl rfl) (b := (!(!((names.all (mhas (vw T))))))) (fun hb => OpQ.env (.cons rfl (gd_t hb) (.nil _) : EnvLe [(19, .slice aS ((Lib.compact (sortS names)).length) cS)] _) (q_len Tryz.underlying52 rfl)) ?_)
    refine l_step (s_qg rfl (ask_f rfl rfl) (b := (!(!((names.all (mhas (vw T))))))) (fun hb => q_move rfl) ?_)
    refine l_step (s_qg rfl (ask_f rfl rfl) (b := (!(!((names.all (mhas (vw T))))))) (fun hb => OpQ.env (.cons rfl (gd_t hb) (.nil _) : EnvLe [(21, .slice names_a names_n names_c)] _) (q_len Tryz.underlying52 rfl)) ?_)
    refine l_step (s_qg rfl (ask_f rfl rfl) (b := (!(!((names.all (mhas (vw T))))))) (fun hb => OpQ.env (.cons rfl (gd_t hb) (.cons rfl (gd_t hb) (.nil _)) : EnvLe [(20, .int .i64 ((Lib.compact (sortS names)).length : Int)), (22, .int .i64 (names_n : Int))] _) (q_lss rfl rfl)) ?_)
    refine e_q (q_pick_or rfl rfl rfl (fun h => by first | (rw [h]; rfl) | exact congrArg not h)) ?_
    refine l_n ?_
    have hcm : decide (((Lib.compact (sortS names)).length : Int) < (names_n : Int)) = !onceB names := by rw [← once_eq, hnames_n]; exact decide_eq_decide.2 (by omega)
    rw [hcm]
    refine c_cond rfl (fun h1 => ?_) (fun h1 => ?_)
    · skip
      have hq := h1
      refine sr ?_
      refine e_as rfl ?_
      refine l_n ?_
      refine c_ret ?_
      refine k_then_r ?_
      have hr : (remR calls (vw T) names) = (30, vw T) := by unfold remR; rw [if_neg h0, if_pos hq]
      exact t_rt [.pts b (encDisk1 (⟨room, (some mb), (decC calls)⟩ : Disk1)) 143, MP strB ptV mb (fm T), FB 154 5 T] rfl (.tmp rfl .nil) rfl ⟨rfl, T, by rw [hr]; rfl, by rw [hr], rfl⟩
    · skip
      have hq := h1
      refine c_skip ?_
      refine k_then_n ?_
      refine c_seq ?_
      refine sr ?_
      refine e_mv rfl ?_
      refine e_q (q_len Tryz.underlying52 rfl) ?_
      refine e_mv rfl ?_
      refine l_n ?_
      refine c_block ?_
      refine Tr.env (σ' := [(0, _), (4, _), (25, _), (26, _), (27, _)]) ev_ ?_
      refine t_loop (ι := Lp (Nat)) (fun x => x.d ≤ names_n) (fun x => names_n - x.d) (fun x => [(0, .pointer (some ⟨b, 0, none⟩)), (4, .int .i64 0), (25, .slice names_a names_n names_c), (26, .int .i64 (names_n : Int)), (27, .int .i64 (x.d : Int))]) (fun x => .pts b (encDisk1 (⟨room, (some mb), (decC calls)⟩ : Disk1)) 143 :: MP strB ptV mb (fm ((names.take x.d).foldl delT T)) :: FB 154 5 ((names.take x.d).foldl delT T) :: Δ) (⟨0, none, 0, none, 0, none, 0⟩ : Lp _) (Nat.zero_le _) ?_ ?_ ?_
      · exact .c (.c (.c (.c (.c (.nil _)))))
      · exact en_
      intro x hx
      refine sr ?_
      refine e_q (q_lss rfl rfl) ?_
      refine l_n ?_
      refine c_seq ?_
      refine c_cond rfl (fun h2 => ?_) (fun h2 => ?_)
      · try simp only [decide_eq_true_eq, decide_eq_false_iff_not] at h2
        refine c_skip ?_
        refine k_then_n ?_
        refine c_seq ?_
        refine c_block ?_
        refine sr ?_
        refine e_q (q_indexe x.d Tryz.underlying52 sz_9 rfl rfl (by first | assumption | exact rd_ro (by assumption) | exact rd_row pk_) (by decide) rfl (by first | assumption | omega | (simp only [List.length_cons, List.length_nil]; omega))) ?_
        refine e_q (q_loade (enc := Go.SL.encStr) (xs := names) (j := x.d) (off := 0) sc_9 rfl (by first | assumption | exact rd_ro (by assumption) | exact rd_row pk_) (fun _ => rfl) (by first | assumption | omega | (simp only [List.length_cons, List.length_nil]; omega)) (by decide) rfl) ?_
        refine e_as rfl ?_
        refine l_n ?_
        refine c_region ?_
        refine e_mv rfl ?_
        refine e_q (q_nilCheck rfl) ?_
        refine e_q (q_fieldp rfl fo_143_1) ?_
        refine e_q (q_loadp (v := .map (some mb)) sc_141 rfl pk_ rfl) ?_
        refine e_mv rfl ?_
        refine l_step (s_s0 wn (s_mdel (ek := strB) (ev := ptV) (k := (names.getD x.d default)) (m' := (mdel (fm ((names.take x.d).foldl delT T)) (names.getD x.d default))) Tryz.underlying141 (mkey_str Tryz.underlying9) rfl rfl rfl pk_) ?_)
        rintro _ _ ⟨rfl, rfl⟩
        refine l_nil ?_
        refine k_blk_n ?_
        refine k_then_n ?_
        refine c_region ?_
        refine e_q (q_add rfl rfl (by omega) (by omega)) ?_
        refine e_mv rfl ?_
        refine l_n ?_
        have hn9 : delT ((names.take x.d).foldl delT T) (names.getD x.d default) = ((names.take (x.d + 1)).foldl delT T) := (foldl_take _ _ _ _ (by omega)).symm
        rw [← fm_delT, hn9]
        refine Tr.ent (file_del (t := 154) (tb := 5) (names.getD x.d default) pk_) ?_
        rw [hn9]
        exact t_nx (⟨x.d + 1, none, 0, none, 0, none, 0⟩ : Lp _) ⟨by (try simp only []); omega, by (try simp only []); omega⟩ (.c (.c (.c (.c (.c (.nil _))))))
      · try simp only [decide_eq_true_eq, decide_eq_false_iff_not] at h2
        refine c_exit ?_
        refine k_then_x ?_
        refine k_then_x ?_
        refine k_blk_x ?_
        refine k_then_n ?_
        refine sr ?_
        refine e_as rfl ?_
        refine l_n ?_
        refine c_ret ?_
        have hk : x.d = names.length := by omega
        rw [hk, List.take_length]
        have hr : (remR calls (vw T) names) = (0, vw (names.foldl delT T)) := by unfold remR; rw [if_neg h0, if_neg (by rw [hq]; decide), vw_foldl]
        exact t_rt [.pts b (encDisk1 (⟨room, (some mb), (decC calls)⟩ : Disk1)) 143, MP strB ptV mb (fm (names.foldl delT T)), FB 154 5 (names.foldl delT T)] rfl (.tmp rfl .nil) rfl ⟨rfl, (names.foldl delT T), by rw [hr]; rfl, by rw [hr], rfl⟩
end Go.Dsk.R

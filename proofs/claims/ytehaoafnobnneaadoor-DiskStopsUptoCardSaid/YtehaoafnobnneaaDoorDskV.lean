/-
  Package disk, walked.
-/
import Derived.Test.YtehaoafnobnneaaDoorDskX
import Derived.Test.YtehaoafnobnneaaDoorDskL
import Derived.Test.YtehaoafnobnneaaDoorProg
set_option maxRecDepth 100000
set_option maxHeartbeats 4000000
set_option linter.unusedSimpArgs false
set_option linter.unusedVariables false
namespace Go.Dsk.V
open Go Go.SL Go.Proofs Go.Dsk Go.Dsk.L Go.Dsk.X
attribute [local irreducible] Go.SL.Ent
theorem eo_9 : elemOk Tryd.prog 9 1 16 = true := by kernel_rfl
theorem fo_62_1 : fieldOff Tryd.prog 62 1 = some (1, 60) := by kernel_rfl
theorem fo_62_2 : fieldOff Tryd.prog 62 2 = some (2, 3) := by kernel_rfl
theorem fo_66_0 : fieldOff Tryd.prog 66 0 = some (0, 32) := by kernel_rfl
theorem fo_66_1 : fieldOff Tryd.prog 66 1 = some (1, 3) := by kernel_rfl
theorem sc_3 : isScalar Tryd.prog 3 = true := by kernel_rfl
theorem sc_32 : isScalar Tryd.prog 32 = true := by kernel_rfl
theorem sc_60 : isScalar Tryd.prog 60 = true := by kernel_rfl
theorem sc_9 : isScalar Tryd.prog 9 = true := by kernel_rfl
theorem sz_3 : sizeIs Tryd.prog 3 = some 1 := by kernel_rfl
theorem sz_32 : sizeIs Tryd.prog 32 = some 1 := by kernel_rfl
theorem sz_5 : sizeIs Tryd.prog 5 = some 1 := by kernel_rfl
theorem sz_9 : sizeIs Tryd.prog 9 = some 1 := by kernel_rfl
theorem zi_64 : (Tryd.prog.info? 64).bind (·.zero) = some (ptV none) := by kernel_rfl

theorem rename_spec (b : Nat) (room : Int) (mb : Nat) (calls : Int) (T : FT) (src : (List UInt8)) (dst : (List UInt8)) (ρ : Hp) (hT : FOk T) (hc : calls ≤ 9223372036854775807) (hd : dst.length ≤ 9223372036854775807) : Spec0 Tryd.prog 22 #[.pointer (some ⟨b, 0, none⟩), (strB src), (strB dst)] ρ [.pts b (encDisk1 (⟨room, (some mb), calls⟩ : Disk1)) 62, MP strB ptV mb (fm T), FB 66 5 T] (fun v Γ' => ∃ T', v = .int .i64 (renR calls (vw T) src dst).1 ∧ vw T' = (renR calls (vw T) src dst).2 ∧ Γ' = [.pts b (encDisk1 (⟨room, (some mb), (decC calls)⟩ : Disk1)) 62, MP strB ptV mb (fm T'), FB 66 5 T']) := by
  refine spec_of (n := 35) (vs := [_, _, _]) (σ := [(0, _), (1, _), (2, _)]) Tryd.func22 rfl rfl rfl rfl fun E Δ => ?_
  simp only [List.cons_append, List.nil_append]
  refine c_seq ?_
  refine c_region ?_
  refine l_step (s_q rfl wn (q_assign rfl) ?_)
  refine l_nil ?_
  refine k_then_n ?_
  refine c_seq ?_
  refine c_seq ?_
  refine c_region ?_
  refine l_step (s_q rfl wn (q_move rfl) ?_)
  refine l_step (s_fnb rfl wn Tryd.func31 rfl (by kernel_rfl) rfl (by repeat (first | exact Sel.nil | exact Pick.here | apply Sel.cons | apply Pick.there)) (fun ρ' hL => stopped_spec b room mb calls T ρ' (by first | assumption | omega)) ?_)
  rintro _ _ ⟨rfl, rfl⟩
  try simp only [List.cons_append, List.nil_append]
  refine l_nil ?_
  refine k_then_n ?_
  refine c_cond rfl (fun h0 => ?_) (fun h0 => ?_)
  · try simp only [Bool.and_eq_true, Bool.or_eq_true, Bool.not_eq_true', Bool.and_eq_false_iff, Bool.or_eq_false_iff, Bool.not_eq_false', decide_eq_true_eq, decide_eq_false_iff_not, Bool.not_eq_eq_eq_not, Bool.not_true, Bool.not_false, Bool.not_eq_true, Bool.not_eq_false, beq_iff_eq, bne_iff_ne, ne_eq, Decidable.not_not] at h0
    refine c_seq ?_
    refine c_region ?_
    refine l_step (s_q rfl wn (q_assign rfl) ?_)
    refine l_nil ?_
    refine k_then_n ?_
    refine c_ret ?_
    refine k_then_r ?_
    have hr : (renR calls (vw T) src dst) = (32, vw T) := if_pos h0
    exact t_ret [.pts b (encDisk1 (⟨room, (some mb), (decC calls)⟩ : Disk1)) 62, MP strB ptV mb (fm T), FB 66 5 T] rfl (.tmp rfl .nil) rfl (Hp.le_refl _) ⟨rfl, T, by rw [hr]; rfl, by rw [hr], rfl⟩ (by repeat (first | exact Ent.nil _ | exact Ent.refl _ | (refine Ent.pick (by repeat (first | exact Pick.here | apply Pick.there)) ?_) | refine Ent.skip ?_))
  · try simp only [Bool.and_eq_true, Bool.or_eq_true, Bool.not_eq_true', Bool.and_eq_false_iff, Bool.or_eq_false_iff, Bool.not_eq_false', decide_eq_true_eq, decide_eq_false_iff_not, Bool.not_eq_eq_eq_not, Bool.not_true, Bool.not_false, Bool.not_eq_true, Bool.not_eq_false, beq_iff_eq, bne_iff_ne, ne_eq, Decidable.not_not] at h0
    refine c_skip ?_
    refine k_then_n ?_
    refine c_seq ?_
    refine c_region ?_
    refine l_step (s_q rfl wn (q_move rfl) ?_)
    refine l_step (s_q rfl wn (q_nilCheck rfl) ?_)
    refine l_step (s_q rfl wn (q_fieldp rfl fo_62_1) ?_)
    refine l_step (s_q rfl wn (q_loadp (v := .map (some mb)) sc_60 rfl (by repeat (first | exact Pick.here | apply Pick.there)) rfl) ?_)
    refine l_step (s_q rfl wn (q_move rfl) ?_)
    refine l_step (s_q rfl wn (q_look (v := (ptV (mgetD (fm T) src none))) (ek := strB) (ev := ptV) (k := src) (zv := none) Tryd.underlying60 (mkey_str Tryd.underlying9) zi_64 rfl rfl (by repeat (first | exact Pick.here | apply Pick.there)) rfl) ?_)
    refine l_step (s_q rfl wn (q_assign rfl) ?_)
    refine l_nil ?_
    refine k_then_n ?_
    refine c_seq ?_
    refine c_seq ?_
    refine c_region ?_
    refine l_step (s_q rfl wn (q_move rfl) ?_)
    refine l_step (s_q rfl wn (q_eqlo (e := (mgetD (fm T) src none)) rfl rfl Tryd.underlying64) ?_)
    refine l_step (s_q rfl wn (q_move rfl) ?_)
    refine t_split (d := 18) rfl (fun g4_2 => ?_) (fun g4_2 => ?_)
    · try simp only [Bool.and_eq_true, Bool.or_eq_true, Bool.not_eq_true', Bool.and_eq_false_iff, Bool.or_eq_false_iff, Bool.not_eq_false', decide_eq_true_eq, decide_eq_false_iff_not, Bool.not_eq_eq_eq_not, Bool.not_true, Bool.not_false, Bool.not_eq_true, Bool.not_eq_false, beq_iff_eq, bne_iff_ne, ne_eq, Decidable.not_not] at g4_2
      refine l_step (s_no rfl (wno rfl rfl (by decide)) ?_)
      refine l_step (s_no rfl (wno rfl rfl (by decide)) ?_)
      refine l_step (s_no rfl (wno rfl rfl (by decide)) ?_)
      refine l_step (s_no rfl (wno rfl rfl (by decide)) ?_)
      refine l_step (s_q rfl wn (q_pick rfl rfl rfl) ?_)
      refine l_nil ?_
      refine k_then_n ?_
      refine c_yes rfl ?_
      refine c_seq ?_
      refine c_region ?_
      refine l_step (s_q rfl wn (q_assign rfl) ?_)
      refine l_nil ?_
      refine k_then_n ?_
      refine c_ret ?_
      refine k_then_r ?_
      have hr : (renR calls (vw T) src dst) = (30, vw T) := by unfold renR; rw [if_neg h0, if_pos (by rw [has_no (opt_none g4_2)]; rfl)]
      exact t_ret [.pts b (encDisk1 (⟨room, (some mb), (decC calls)⟩ : Disk1)) 62, MP strB ptV mb (fm T), FB 66 5 T] rfl (.tmp rfl .nil) rfl (Hp.le_refl _) ⟨rfl, T, by rw [hr]; rfl, by rw [hr], rfl⟩ (by repeat (first | exact Ent.nil _ | exact Ent.refl _ | (refine Ent.pick (by repeat (first | exact Pick.here | apply Pick.there)) ?_) | refine Ent.skip ?_))
    · try simp only [Bool.and_eq_true, Bool.or_eq_true, Bool.not_eq_true', Bool.and_eq_false_iff, Bool.or_eq_false_iff, Bool.not_eq_false', decide_eq_true_eq, decide_eq_false_iff_not, Bool.not_eq_eq_eq_not, Bool.not_true, Bool.not_false, Bool.not_eq_true, Bool.not_eq_false, beq_iff_eq, bne_iff_ne, ne_eq, Decidable.not_not] at g4_2
      have hnl : ∀ s ∈ [dst], s.length ≤ 9223372036854775807 := fun s hs => by rw [List.mem_singleton.1 hs]; exact hd
      obtain ⟨j, e, hjl, hj, hnm, hmg, hvg⟩ := look_some (opt_some g4_2)
      rw [hmg]
      refine Tr.ent (file_open (t := 66) (tb := 5) hj (by repeat (first | exact Pick.here | apply Pick.there))) ?_
      refine l_step (s_q rfl (wy rfl rfl rfl) (q_move rfl) ?_)
      refine l_step (s_s rfl (wy rfl rfl rfl) (s_buildSlice (cs := ([dst] : List (List UInt8)).flatMap Go.SL.encStr) Tryd.underlying41 eo_9 rfl rfl rfl rfl (by decide) (by decide)) ?_)
      rintro _ _ ⟨b20, rfl, rfl⟩
      refine l_step (s_fnq rfl (wy rfl rfl rfl) Tryd.func11 rfl (by kernel_rfl) rfl (fun ρ' hL => name_spec (some ⟨b20, 0, none⟩) 1 1 [dst] (by first | rfl | assumption | (simp; done) | (simp <;> omega) | omega) ρ' (by first | assumption | exact fun s hs => Nat.le_trans (nml s hs) (by decide)) (by first | exact hL.ro (by assumption) | exact hL.bun (L := (fL 66 5 T).eraseIdx j) (by repeat (first | exact Pick.here | apply Pick.there)) (in_map _ (by first | assumption | omega | (simp only [List.length_cons, List.length_nil]; omega) | decide) rfl) | exact hL.row (by repeat (first | exact Pick.here | apply Pick.there)) | assumption)) ?_)
      refine l_step (s_q rfl (wy rfl rfl rfl) (q_not rfl) ?_)
      refine l_step (s_q rfl wn (q_pick rfl rfl rfl) ?_)
      refine l_nil ?_
      refine k_then_n ?_
      refine c_cond rfl (fun h1 => ?_) (fun h1 => ?_)
      · skip
        have hnb : nameB dst = false := by simpa using h1
        refine c_seq ?_
        refine c_region ?_
        refine l_step (s_q rfl wn (q_assign rfl) ?_)
        refine l_nil ?_
        refine k_then_n ?_
        refine c_ret ?_
        refine k_then_r ?_
        refine Tr.ent (Ent.trans (Ent.pick (A := .pts e.blk (encFile1 (⟨⟨e.a, e.xs.length, e.cap⟩, e.safe⟩ : File1)) 66) (by repeat (first | exact Pick.here | apply Pick.there)) (Ent.pick (A := .row 5 1 e.a e.xs.length e.cap (e.xs.flatMap encB)) (by repeat (first | exact Pick.here | apply Pick.there)) (Ent.pick (A := Bun ((fL 66 5 T).eraseIdx j)) (by repeat (first | exact Pick.here | apply Pick.there)) (Ent.refl _)))) (file_same (t := 66) (tb := 5) hj)) ?_
        have hr : (renR calls (vw T) src dst) = (30, vw T) := by unfold renR; rw [if_neg h0, if_pos (by rw [hnb]; simp)]
        exact t_ret [.pts b (encDisk1 (⟨room, (some mb), (decC calls)⟩ : Disk1)) 62, MP strB ptV mb (fm T), FB 66 5 T] rfl (.tmp rfl .nil) rfl (Hp.le_refl _) ⟨rfl, T, by rw [hr]; rfl, by rw [hr], rfl⟩ (by repeat (first | exact Ent.nil _ | exact Ent.refl _ | (refine Ent.pick (by repeat (first | exact Pick.here | apply Pick.there)) ?_) | refine Ent.skip ?_))
      · skip
        have hnb : nameB dst = true := by simpa using h1
        refine c_skip ?_
        refine k_then_n ?_
        refine c_seq ?_
        refine c_region ?_
        refine l_step (s_q rfl wn (q_move rfl) ?_)
        refine l_step (s_q rfl wn (q_nilCheck rfl) ?_)
        refine l_step (s_q rfl wn (q_fieldp rfl fo_62_1) ?_)
        refine l_step (s_q rfl wn (q_loadp (v := .map (some mb)) sc_60 rfl (by repeat (first | exact Pick.here | apply Pick.there)) rfl) ?_)
        refine l_step (s_q rfl wn (q_move rfl) ?_)
        refine l_step (s_s0 wn (s_mdel (ek := strB) (ev := ptV) (k := src) (m' := (mdel (fm T) src)) Tryd.underlying60 (mkey_str Tryd.underlying9) rfl rfl rfl (by repeat (first | exact Pick.here | apply Pick.there))) ?_)
        rintro _ _ ⟨rfl, rfl⟩
        refine l_nil ?_
        refine k_then_n ?_
        refine c_seq ?_
        refine c_region ?_
        rw [show mdel (fm T) src = fm (T.eraseIdx j) from by rw [← hnm]; exact fm_del hT.nd hj]
        refine l_step (s_q rfl wn (q_move rfl) ?_)
        refine l_step (s_q rfl wn (q_nilCheck rfl) ?_)
        refine l_step (s_q rfl wn (q_fieldp rfl fo_62_1) ?_)
        refine l_step (s_q rfl wn (q_loadp (v := .map (some mb)) sc_60 rfl (by repeat (first | exact Pick.here | apply Pick.there)) rfl) ?_)
        refine l_step (s_q rfl wn (q_move rfl) ?_)
        refine l_step (s_q rfl wn (q_move rfl) ?_)
        refine l_step (s_s0 wn (s_mset (ek := strB) (ev := ptV) (k := dst) (v := (some e.blk)) (m' := (mset (fm (T.eraseIdx j)) dst (some e.blk))) Tryd.underlying60 (mkey_str Tryd.underlying9) rfl rfl rfl rfl rfl (by repeat (first | exact Pick.here | apply Pick.there))) ?_)
        rintro _ _ ⟨rfl, rfl⟩
        refine l_nil ?_
        refine k_then_n ?_
        refine c_seq ?_
        refine c_region ?_
        refine l_step (s_q rfl wn (q_assign rfl) ?_)
        refine l_nil ?_
        refine k_then_n ?_
        refine c_ret ?_
        refine Tr.ent (Ent.trans (Ent.pick (A := Bun ((fL 66 5 T).eraseIdx j)) (by repeat (first | exact Pick.here | apply Pick.there)) (Ent.refl _)) (file_rest j)) ?_
        refine Tr.ent (Ent.trans (Ent.pick (A := .pts e.blk (encFile1 (⟨⟨e.a, e.xs.length, e.cap⟩, e.safe⟩ : File1)) 66) (by repeat (first | exact Pick.here | apply Pick.there)) (Ent.pick (A := .row 5 1 e.a e.xs.length e.cap (e.xs.flatMap encB)) (by repeat (first | exact Pick.here | apply Pick.there)) (Ent.pick (A := FB 66 5 (T.eraseIdx j)) (by repeat (first | exact Pick.here | apply Pick.there)) (Ent.refl _)))) (file_put (t := 66) (tb := 5) ⟨dst, e.blk, e.a, e.cap, e.xs, e.safe⟩)) ?_
        rw [show mset (fm (T.eraseIdx j)) dst (some e.blk) = fm (setT (T.eraseIdx j) ⟨dst, e.blk, e.a, e.cap, e.xs, e.safe⟩) from (fm_setT (T.eraseIdx j) ⟨dst, e.blk, e.a, e.cap, e.xs, e.safe⟩).symm]
        have hr : (renR calls (vw T) src dst) = (0, vw (setT (T.eraseIdx j) ⟨dst, e.blk, e.a, e.cap, e.xs, e.safe⟩)) := by unfold renR; rw [if_neg h0, if_neg (by rw [has_of hvg, hnb]; decide), getD_of hvg, vw_setT, ← vw_del hT.nd hj, hnm]
        exact t_ret [.pts b (encDisk1 (⟨room, (some mb), (decC calls)⟩ : Disk1)) 62, MP strB ptV mb (fm (setT (T.eraseIdx j) ⟨dst, e.blk, e.a, e.cap, e.xs, e.safe⟩)), FB 66 5 (setT (T.eraseIdx j) ⟨dst, e.blk, e.a, e.cap, e.xs, e.safe⟩)] rfl (.tmp rfl .nil) rfl (Hp.le_refl _) ⟨rfl, (setT (T.eraseIdx j) ⟨dst, e.blk, e.a, e.cap, e.xs, e.safe⟩), by rw [hr]; rfl, by rw [hr], rfl⟩ (by repeat (first | exact Ent.nil _ | exact Ent.refl _ | (refine Ent.pick (by repeat (first | exact Pick.here | apply Pick.there)) ?_) | refine Ent.skip ?_))

theorem crash_spec (b : Nat) (room : Int) (mb : Nat) (calls : Int) (T : FT) (keep_a : Option Addr) (keep_n keep_c : Nat) (keep : List Int) (hkeep_n : keep.length = keep_n) (ρ : Hp) (hT : FOk T) (hro : Ro ρ 1 keep_a keep_n keep_c (keep.flatMap encI)) : Spec0 Tryd.prog 19 #[.pointer (some ⟨b, 0, none⟩), .slice keep_a keep_n keep_c] ρ [.pts b (encDisk1 (⟨room, (some mb), calls⟩ : Disk1)) 62, MP strB ptV mb (fm T), FB 66 5 T] (fun v Γ' => ∃ T', v = .int .i64 (crR keep (vw T)).2 ∧ vw T' = (crR keep (vw T)).1 ∧ Γ' = [.pts b (encDisk1 (⟨room, (some mb), (-1)⟩ : Disk1)) 62, MP strB ptV mb (fm T'), FB 66 5 T']) := by
  refine spec_of (n := 83) (vs := [_, _]) (σ := [(0, _), (1, _)]) Tryd.func19 rfl rfl rfl rfl fun E Δ => ?_
  simp only [List.cons_append, List.nil_append]
  have hrob : keep_n ≤ 9223372036854775807 := Nat.le_trans hro.2.1 hro.2.2.1
  have hTl := hT.ln
  have hTu := hT.us
  have hNl : (sortS (T.map (·.name))).length = T.length := by rw [sortS_len, List.length_map]
  refine c_seq ?_
  refine c_region ?_
  refine l_step (s_q rfl wn (q_assign rfl) ?_)
  refine l_nil ?_
  refine k_then_n ?_
  refine c_seq ?_
  refine c_region ?_
  refine l_step (s_q rfl wn (q_move rfl) ?_)
  refine l_step (s_q rfl wn (q_nilCheck rfl) ?_)
  refine l_step (s_q rfl wn (q_fieldp rfl fo_62_2) ?_)
  refine l_step (s_s0 wn (s_storep (ws := [.int .i64 (-1)]) (cs := encDisk1 (⟨room, (some mb), calls⟩ : Disk1)) (cs' := encDisk1 (⟨room, (some mb), (-1)⟩ : Disk1)) rfl rfl rfl sz_3 (by simp [Value.oneCell', strB, ptV, SL.v, SH.v]) (by simp [encDisk1]) rfl (by repeat (first | exact Pick.here | apply Pick.there))) ?_)
  rintro _ _ ⟨rfl, rfl⟩
  refine l_nil ?_
  refine k_then_n ?_
  refine c_seq ?_
  refine c_region ?_
  refine l_step (s_q rfl wn (q_assign rfl) ?_)
  refine l_nil ?_
  refine k_then_n ?_
  refine c_seq ?_
  refine c_seq ?_
  refine c_region ?_
  refine l_step (s_q rfl wn (q_move rfl) ?_)
  refine l_step (s_fnb rfl wn Tryd.func20 rfl (by kernel_rfl) rfl (by repeat (first | exact Sel.nil | exact Pick.here | apply Sel.cons | apply Pick.there)) (fun ρ' hL => X.names_spec b room mb (-1) T ρ' (by assumption)) ?_)
  rintro _ _ ⟨an14, cn14, rfl, rfl⟩
  try simp only [List.cons_append, List.nil_append]
  refine l_step (s_q rfl wn (q_len Tryd.underlying41 rfl) ?_)
  refine l_step (s_q rfl wn (q_move rfl) ?_)
  refine l_nil ?_
  refine k_then_n ?_
  refine c_block ?_
  refine Tr.env (σ' := [(0, _), (1, _), (4, _), (5, _), (14, _), (15, _), (16, _)]) (.cons rfl rfl (.cons rfl rfl (.cons rfl rfl (.cons rfl rfl (.cons rfl rfl (.cons rfl rfl (.cons rfl rfl (.nil _)))))))) ?_
  refine t_loop (ι := Lp (Nat × FT × Int)) (fun x => x.d.1 ≤ T.length ∧ fm x.d.2.1 = fm T ∧ (vw x.d.2.1, x.d.2.2) = (crK keep (sortS (T.map (·.name))) (vw T) x.d.1) ∧ (0 ≤ x.d.2.2 ∧ x.d.2.2 + (usedT x.d.2.1 : Int) = usedT T) ∧ ∀ e ∈ x.d.2.1, 0 ≤ e.safe ∧ e.safe ≤ (e.xs.length : Int)) (fun x => T.length - x.d.1) (fun x => [(0, .pointer (some ⟨b, 0, none⟩)), (1, .slice keep_a keep_n keep_c), (4, .int .i64 0), (5, .int .i64 x.d.2.2), (14, .slice an14 T.length cn14), (15, .int .i64 (T.length : Int)), (16, .int .i64 (x.d.1 : Int))]) (fun x => .row 9 1 an14 T.length cn14 ((sortS (T.map (·.name))).flatMap Go.SL.encStr) :: .pts b (encDisk1 (⟨room, (some mb), (-1)⟩ : Disk1)) 62 :: MP strB ptV mb (fm T) :: FB 66 5 x.d.2.1 :: Δ) (⟨(0, T, 0), none, 0, none, 0, none, 0⟩ : Lp _) ⟨Nat.zero_le _, rfl, rfl, ⟨Int.le_refl _, Int.zero_add _⟩, hT.sf⟩ ?_ ?_ ?_
  · exact .cons rfl (by first | rfl | exact inte (by omega) | (simp; done) | (simp <;> omega) | simp [*]) (.cons rfl (by first | rfl | exact inte (by omega) | (simp; done) | (simp <;> omega) | simp [*]) (.cons rfl (by first | rfl | exact inte (by omega) | (simp; done) | (simp <;> omega) | simp [*]) (.cons rfl (by first | rfl | exact inte (by omega) | (simp; done) | (simp <;> omega) | simp [*]) (.cons rfl (by first | rfl | exact inte (by omega) | (simp; done) | (simp <;> omega) | simp [*]) (.cons rfl (by first | rfl | exact inte (by omega) | (simp; done) | (simp <;> omega) | simp [*]) (.cons rfl (by first | rfl | exact inte (by omega) | (simp; done) | (simp <;> omega) | simp [*]) (.nil _)))))))
  · exact (by repeat (first | exact Ent.nil _ | exact Ent.refl _ | (refine Ent.pick (by repeat (first | exact Pick.here | apply Pick.there)) ?_) | refine Ent.skip ?_))
  intro x hx
  obtain ⟨hx1, hx2, hx3, hx4, hx5⟩ := hx
  refine c_seq ?_
  refine c_region ?_
  refine l_step (s_q rfl wn (q_lss rfl rfl) ?_)
  refine l_nil ?_
  refine k_then_n ?_
  refine c_seq ?_
  refine c_cond rfl (fun h0 => ?_) (fun h0 => ?_)
  · try simp only [Bool.and_eq_true, Bool.or_eq_true, Bool.not_eq_true', Bool.and_eq_false_iff, Bool.or_eq_false_iff, Bool.not_eq_false', decide_eq_true_eq, decide_eq_false_iff_not, Bool.not_eq_eq_eq_not, Bool.not_true, Bool.not_false, Bool.not_eq_true, Bool.not_eq_false, beq_iff_eq, bne_iff_ne, ne_eq, Decidable.not_not] at h0
    have him : ((sortS (T.map (·.name))).getD x.d.1 default) ∈ T.map (·.name) := sortS_mem.1 (getD_in (by rw [sortS_len, List.length_map]; omega))
    have hxm : mhas (vw x.d.2.1) ((sortS (T.map (·.name))).getD x.d.1 default) = true := by rw [has_same (T := T) (hf := hx2)]; exact mhas_iff.2 (by rw [vw_keys]; exact him)
    obtain ⟨j, e, hjl, hj, hnm, hmg, hvg⟩ := look_some (look_has hxm)
    have hua := hx5 e (List.mem_of_getElem? hj)
    have hub := used_at hj
    refine c_skip ?_
    refine k_then_n ?_
    refine c_seq ?_
    refine c_block ?_
    refine c_seq ?_
    refine c_region ?_
    refine l_step (s_q rfl wn (q_move rfl) ?_)
    refine l_step (s_q rfl wn (q_indexe x.d.1 Tryd.underlying41 sz_9 rfl rfl (rd_row (by repeat (first | exact Pick.here | apply Pick.there))) (by decide) rfl (by first | assumption | omega | (simp only [List.length_cons, List.length_nil]; omega))) ?_)
    refine l_step (s_q rfl wn (q_loade (enc := Go.SL.encStr) (xs := (sortS (T.map (·.name)))) (j := x.d.1) (off := 0) sc_9 rfl (rd_row (by repeat (first | exact Pick.here | apply Pick.there))) (fun _ => rfl) (by first | assumption | omega | (simp only [List.length_cons, List.length_nil]; omega)) (by decide) rfl) ?_)
    refine l_step (s_q rfl wn (q_assign rfl) ?_)
    refine l_step (s_q rfl wn (q_assign rfl) ?_)
    refine l_nil ?_
    refine k_then_n ?_
    refine c_seq ?_
    refine c_region ?_
    rw [← hx2]
    refine Tr.ent (file_open (t := 66) (tb := 5) hj (by repeat (first | exact Pick.here | apply Pick.there))) ?_
    refine t_rd (Γ := _) (rd_row (a := e.a) (cap := e.cap) (by repeat (first | exact Pick.here | apply Pick.there))) fun _ hcp _ _ => ?_
    refine l_step (s_q rfl wn (q_move rfl) ?_)
    refine l_step (s_q rfl wn (q_nilCheck rfl) ?_)
    refine l_step (s_q rfl wn (q_fieldp rfl fo_62_1) ?_)
    refine l_step (s_q rfl wn (q_loadp (v := .map (some mb)) sc_60 rfl (by repeat (first | exact Pick.here | apply Pick.there)) rfl) ?_)
    refine l_step (s_q rfl wn (q_move rfl) ?_)
    refine l_step (s_q rfl wn (q_look (v := .pointer (some ⟨e.blk, 0, none⟩)) (ek := strB) (ev := ptV) (k := ((sortS (T.map (·.name))).getD x.d.1 default)) (zv := none) Tryd.underlying60 (mkey_str Tryd.underlying9) zi_64 rfl rfl (by repeat (first | exact Pick.here | apply Pick.there)) (by rw [hmg]; rfl)) ?_)
    refine l_step (s_q rfl wn (q_assign rfl) ?_)
    refine l_nil ?_
    refine k_then_n ?_
    refine c_seq ?_
    refine c_region ?_
    refine l_step (s_q rfl wn (q_assign rfl) ?_)
    refine l_nil ?_
    refine k_then_n ?_
    refine c_seq ?_
    refine c_seq ?_
    refine c_region ?_
    refine l_step (s_q rfl wn (q_move rfl) ?_)
    refine l_step (s_q rfl wn (q_move rfl) ?_)
    refine l_step (s_q rfl wn (q_len Tryd.underlying51 rfl) ?_)
    refine l_step (s_q rfl wn (q_lss rfl rfl) ?_)
    refine l_nil ?_
    refine k_then_n ?_
    refine t_cutq (ι := Unit) (fun _u => True) (fun _u => [(0, .pointer (some ⟨b, 0, none⟩)), (1, .slice keep_a keep_n keep_c), (4, .int .i64 0), (5, .int .i64 x.d.2.2), (6, .int .i64 (x.d.1 : Int)), (7, (strB ((sortS (T.map (·.name))).getD x.d.1 default))), (8, .pointer (some ⟨e.blk, 0, none⟩)), (9, .int .i64 (stayF keep x.d.1 (e.xs, e.safe))), (14, .slice an14 T.length cn14), (15, .int .i64 (T.length : Int)), (16, .int .i64 (x.d.1 : Int)), (17, .bool (decide ((x.d.1 : Int) < (T.length : Int)))), (18, .int .i64 (x.d.1 : Int)), (19, pe an14 x.d.1 1 0), (20, (strB ((sortS (T.map (·.name))).getD x.d.1 default))), (21, .pointer (some ⟨b, 0, none⟩)), (22, .pointer (some ⟨b, 0, none⟩)), (23, .pointer (some ⟨b, 1, none⟩)), (24, .map (some mb)), (25, (strB ((sortS (T.map (·.name))).getD x.d.1 default))), (26, .pointer (some ⟨e.blk, 0, none⟩)), (27, .int .i64 (x.d.1 : Int)), (28, .slice keep_a keep_n keep_c), (29, .int .i64 (keep_n : Int)), (30, .bool (decide ((x.d.1 : Int) < (keep_n : Int))))]) (fun _u => .pts e.blk (encFile1 (⟨⟨e.a, e.xs.length, e.cap⟩, e.safe⟩ : File1)) 66 :: .row 5 1 e.a e.xs.length e.cap (e.xs.flatMap encB) :: Bun ((fL 66 5 x.d.2.1).eraseIdx j) :: .row 9 1 an14 T.length cn14 ((sortS (T.map (·.name))).flatMap Go.SL.encStr) :: .pts b (encDisk1 (⟨room, (some mb), (-1)⟩ : Disk1)) 62 :: MP strB ptV mb (fm x.d.2.1) :: Δ) ?_ ?_
    · skip
      refine c_cond rfl (fun h1 => ?_) (fun h1 => ?_)
      · try simp only [Bool.and_eq_true, Bool.or_eq_true, Bool.not_eq_true', Bool.and_eq_false_iff, Bool.or_eq_false_iff, Bool.not_eq_false', decide_eq_true_eq, decide_eq_false_iff_not, Bool.not_eq_eq_eq_not, Bool.not_true, Bool.not_false, Bool.not_eq_true, Bool.not_eq_false, beq_iff_eq, bne_iff_ne, ne_eq, Decidable.not_not] at h1
        refine c_draw (m := 17) (bs := #[false, false, false, false, false, false, false, false, false, false, false, false, false, false, false, false, false]) [.pts e.blk (encFile1 (⟨⟨e.a, e.xs.length, e.cap⟩, e.safe⟩ : File1)) 66, .row 5 1 e.a e.xs.length e.cap (e.xs.flatMap encB), Bun ((fL 66 5 x.d.2.1).eraseIdx j), .row 9 1 an14 T.length cn14 ((sortS (T.map (·.name))).flatMap Go.SL.encStr), .pts b (encDisk1 (⟨room, (some mb), (-1)⟩ : Disk1)) 62, MP strB ptV mb (fm x.d.2.1)] (by kernel_rfl) rfl (by kernel_rfl) ?_
        refine r_take (i := 0) (bs' := #[true, false, false, false, false, false, false, false, false, false, false, false, false, false, false, false, false]) rfl (by kernel_rfl) (by kernel_rfl) (by kernel_rfl) (fun _ _ _ h => h) rfl wn (q_move rfl) (Hp.le_refl _) (by repeat (first | exact Ent.nil _ | exact Ent.refl _ | (refine Ent.pick (by repeat (first | exact Pick.here | apply Pick.there)) ?_) | refine Ent.skip ?_)) (by kernel_rfl) ?_
        refine r_take (i := 1) (bs' := #[true, true, false, false, false, false, false, false, false, false, false, false, false, false, false, false, false]) rfl (by kernel_rfl) (by kernel_rfl) (by kernel_rfl) (fun _ _ _ h => h) rfl wn (q_move rfl) (Hp.le_refl _) (by repeat (first | exact Ent.nil _ | exact Ent.refl _ | (refine Ent.pick (by repeat (first | exact Pick.here | apply Pick.there)) ?_) | refine Ent.skip ?_)) (by kernel_rfl) ?_
        refine r_take (i := 2) (bs' := #[true, true, true, false, false, false, false, false, false, false, false, false, false, false, false, false, false]) rfl (by kernel_rfl) (by kernel_rfl) (by kernel_rfl) (fun _ _ _ h => h) rfl wn (q_indexe x.d.1 Tryd.underlying51 sz_3 rfl rfl (by first | assumption | exact rd_ro (by assumption) | exact rd_bun (L := (fL 66 5 x.d.2.1).eraseIdx j) (by repeat (first | exact Pick.here | apply Pick.there)) (in_map _ (by first | assumption | omega | (simp only [List.length_cons, List.length_nil]; omega) | decide) rfl) | exact rd_row (by repeat (first | exact Pick.here | apply Pick.there))) (by decide) rfl (by first | assumption | omega | (simp only [List.length_cons, List.length_nil]; omega))) (Hp.le_refl _) (by repeat (first | exact Ent.nil _ | exact Ent.refl _ | (refine Ent.pick (by repeat (first | exact Pick.here | apply Pick.there)) ?_) | refine Ent.skip ?_)) (by kernel_rfl) ?_
        refine r_take (i := 3) (bs' := #[true, true, true, true, false, false, false, false, false, false, false, false, false, false, false, false, false]) rfl (by kernel_rfl) (by kernel_rfl) (by kernel_rfl) (fun _ _ _ h => h) rfl wn (q_loade (enc := encI) (xs := keep) (j := x.d.1) (off := 0) sc_3 rfl (by first | assumption | exact rd_ro (by assumption) | exact rd_bun (L := (fL 66 5 x.d.2.1).eraseIdx j) (by repeat (first | exact Pick.here | apply Pick.there)) (in_map _ (by first | assumption | omega | (simp only [List.length_cons, List.length_nil]; omega) | decide) rfl) | exact rd_row (by repeat (first | exact Pick.here | apply Pick.there))) (fun _ => rfl) (by first | assumption | omega | (simp only [List.length_cons, List.length_nil]; omega)) (by decide) rfl) (Hp.le_refl _) (by repeat (first | exact Ent.nil _ | exact Ent.refl _ | (refine Ent.pick (by repeat (first | exact Pick.here | apply Pick.there)) ?_) | refine Ent.skip ?_)) (by kernel_rfl) ?_
        refine r_take (i := 4) (bs' := #[true, true, true, true, true, false, false, false, false, false, false, false, false, false, false, false, false]) rfl (by kernel_rfl) (by kernel_rfl) (by kernel_rfl) (fun _ _ _ h => h) rfl wn (q_max2 rfl rfl) (Hp.le_refl _) (by repeat (first | exact Ent.nil _ | exact Ent.refl _ | (refine Ent.pick (by repeat (first | exact Pick.here | apply Pick.there)) ?_) | refine Ent.skip ?_)) (by kernel_rfl) ?_
        refine r_take (i := 5) (bs' := #[true, true, true, true, true, true, false, false, false, false, false, false, false, false, false, false, false]) rfl (by kernel_rfl) (by kernel_rfl) (by kernel_rfl) (fun _ _ _ h => h) rfl wn (q_move rfl) (Hp.le_refl _) (by repeat (first | exact Ent.nil _ | exact Ent.refl _ | (refine Ent.pick (by repeat (first | exact Pick.here | apply Pick.there)) ?_) | refine Ent.skip ?_)) (by kernel_rfl) ?_
        refine r_take (i := 6) (bs' := #[true, true, true, true, true, true, true, false, false, false, false, false, false, false, false, false, false]) rfl (by kernel_rfl) (by kernel_rfl) (by kernel_rfl) (fun _ _ _ h => h) rfl wn (q_nilCheck rfl) (Hp.le_refl _) (by repeat (first | exact Ent.nil _ | exact Ent.refl _ | (refine Ent.pick (by repeat (first | exact Pick.here | apply Pick.there)) ?_) | refine Ent.skip ?_)) (by kernel_rfl) ?_
        refine r_take (i := 7) (bs' := #[true, true, true, true, true, true, true, true, false, false, false, false, false, false, false, false, false]) rfl (by kernel_rfl) (by kernel_rfl) (by kernel_rfl) (fun _ _ _ h => h) rfl wn (q_fieldp rfl fo_66_0) (Hp.le_refl _) (by repeat (first | exact Ent.nil _ | exact Ent.refl _ | (refine Ent.pick (by repeat (first | exact Pick.here | apply Pick.there)) ?_) | refine Ent.skip ?_)) (by kernel_rfl) ?_
        refine r_take (i := 8) (bs' := #[true, true, true, true, true, true, true, true, true, false, false, false, false, false, false, false, false]) rfl (by kernel_rfl) (by kernel_rfl) (by kernel_rfl) (fun _ _ _ h => h) rfl wn (q_loadp (v := .slice e.a e.xs.length e.cap) sc_32 rfl (by repeat (first | exact Pick.here | apply Pick.there)) rfl) (Hp.le_refl _) (by repeat (first | exact Ent.nil _ | exact Ent.refl _ | (refine Ent.pick (by repeat (first | exact Pick.here | apply Pick.there)) ?_) | refine Ent.skip ?_)) (by kernel_rfl) ?_
        refine r_take (i := 9) (bs' := #[true, true, true, true, true, true, true, true, true, true, false, false, false, false, false, false, false]) rfl (by kernel_rfl) (by kernel_rfl) (by kernel_rfl) (fun _ _ _ h => h) rfl wn (q_len Tryd.underlying32 rfl) (Hp.le_refl _) (by repeat (first | exact Ent.nil _ | exact Ent.refl _ | (refine Ent.pick (by repeat (first | exact Pick.here | apply Pick.there)) ?_) | refine Ent.skip ?_)) (by kernel_rfl) ?_
        refine r_take (i := 10) (bs' := #[true, true, true, true, true, true, true, true, true, true, true, false, false, false, false, false, false]) rfl (by kernel_rfl) (by kernel_rfl) (by kernel_rfl) (fun _ _ _ h => h) rfl wn (q_move rfl) (Hp.le_refl _) (by repeat (first | exact Ent.nil _ | exact Ent.refl _ | (refine Ent.pick (by repeat (first | exact Pick.here | apply Pick.there)) ?_) | refine Ent.skip ?_)) (by kernel_rfl) ?_
        refine r_take (i := 11) (bs' := #[true, true, true, true, true, true, true, true, true, true, true, true, false, false, false, false, false]) rfl (by kernel_rfl) (by kernel_rfl) (by kernel_rfl) (fun _ _ _ h => h) rfl wn (q_nilCheck rfl) (Hp.le_refl _) (by repeat (first | exact Ent.nil _ | exact Ent.refl _ | (refine Ent.pick (by repeat (first | exact Pick.here | apply Pick.there)) ?_) | refine Ent.skip ?_)) (by kernel_rfl) ?_
        refine r_take (i := 12) (bs' := #[true, true, true, true, true, true, true, true, true, true, true, true, true, false, false, false, false]) rfl (by kernel_rfl) (by kernel_rfl) (by kernel_rfl) (fun _ _ _ h => h) rfl wn (q_fieldp rfl fo_66_1) (Hp.le_refl _) (by repeat (first | exact Ent.nil _ | exact Ent.refl _ | (refine Ent.pick (by repeat (first | exact Pick.here | apply Pick.there)) ?_) | refine Ent.skip ?_)) (by kernel_rfl) ?_
        refine r_take (i := 13) (bs' := #[true, true, true, true, true, true, true, true, true, true, true, true, true, true, false, false, false]) rfl (by kernel_rfl) (by kernel_rfl) (by kernel_rfl) (fun _ _ _ h => h) rfl wn (q_loadp (v := .int .i64 e.safe) sc_3 rfl (by repeat (first | exact Pick.here | apply Pick.there)) rfl) (Hp.le_refl _) (by repeat (first | exact Ent.nil _ | exact Ent.refl _ | (refine Ent.pick (by repeat (first | exact Pick.here | apply Pick.there)) ?_) | refine Ent.skip ?_)) (by kernel_rfl) ?_
        refine r_take (i := 14) (bs' := #[true, true, true, true, true, true, true, true, true, true, true, true, true, true, true, false, false]) rfl (by kernel_rfl) (by kernel_rfl) (by kernel_rfl) (fun _ _ _ h => h) rfl wn (q_sub rfl rfl (by omega) (by omega)) (Hp.le_refl _) (by repeat (first | exact Ent.nil _ | exact Ent.refl _ | (refine Ent.pick (by repeat (first | exact Pick.here | apply Pick.there)) ?_) | refine Ent.skip ?_)) (by kernel_rfl) ?_
        refine r_take (i := 15) (bs' := #[true, true, true, true, true, true, true, true, true, true, true, true, true, true, true, true, false]) rfl (by kernel_rfl) (by kernel_rfl) (by kernel_rfl) (fun _ _ _ h => h) rfl wn (q_min2 rfl rfl) (Hp.le_refl _) (by repeat (first | exact Ent.nil _ | exact Ent.refl _ | (refine Ent.pick (by repeat (first | exact Pick.here | apply Pick.there)) ?_) | refine Ent.skip ?_)) (by kernel_rfl) ?_
        refine r_take (i := 16) (bs' := #[true, true, true, true, true, true, true, true, true, true, true, true, true, true, true, true, true]) rfl (by kernel_rfl) (by kernel_rfl) (by kernel_rfl) (fun _ _ _ h => h) rfl wn (q_assign rfl) (Hp.le_refl _) (by repeat (first | exact Ent.nil _ | exact Ent.refl _ | (refine Ent.pick (by repeat (first | exact Pick.here | apply Pick.there)) ?_) | refine Ent.skip ?_)) (by kernel_rfl) ?_
        refine r_done (by kernel_rfl) ?_
        refine k_then_n ?_
        exact t_next () trivial (.cons rfl (by first | rfl | exact inte (by omega) | (simp; done) | (simp <;> omega) | simp [*]) (.cons rfl (by first | rfl | exact inte (by omega) | (simp; done) | (simp <;> omega) | simp [*]) (.cons rfl (by first | rfl | exact inte (by omega) | (simp; done) | (simp <;> omega) | simp [*]) (.cons rfl (by first | rfl | exact inte (by omega) | (simp; done) | (simp <;> omega) | simp [*]) (.cons rfl (by first | rfl | exact inte (by omega) | (simp; done) | (simp <;> omega) | simp [*]) (.cons rfl (by first | rfl | exact inte (by omega) | (simp; done) | (simp <;> omega) | simp [*]) (.cons rfl (by first | rfl | exact inte (by omega) | (simp; done) | (simp <;> omega) | simp [*]) (.cons rfl (inte (stay_yes (f := (e.xs, e.safe)) (by omega))) (.cons rfl (by first | rfl | exact inte (by omega) | (simp; done) | (simp <;> omega) | simp [*]) (.cons rfl (by first | rfl | exact inte (by omega) | (simp; done) | (simp <;> omega) | simp [*]) (.cons rfl (by first | rfl | exact inte (by omega) | (simp; done) | (simp <;> omega) | simp [*]) (.cons rfl (by first | rfl | exact inte (by omega) | (simp; done) | (simp <;> omega) | simp [*]) (.cons rfl (by first | rfl | exact inte (by omega) | (simp; done) | (simp <;> omega) | simp [*]) (.cons rfl (by first | rfl | exact inte (by omega) | (simp; done) | (simp <;> omega) | simp [*]) (.cons rfl (by first | rfl | exact inte (by omega) | (simp; done) | (simp <;> omega) | simp [*]) (.cons rfl (by first | rfl | exact inte (by omega) | (simp; done) | (simp <;> omega) | simp [*]) (.cons rfl (by first | rfl | exact inte (by omega) | (simp; done) | (simp <;> omega) | simp [*]) (.cons rfl (by first | rfl | exact inte (by omega) | (simp; done) | (simp <;> omega) | simp [*]) (.cons rfl (by first | rfl | exact inte (by omega) | (simp; done) | (simp <;> omega) | simp [*]) (.cons rfl (by first | rfl | exact inte (by omega) | (simp; done) | (simp <;> omega) | simp [*]) (.cons rfl (by first | rfl | exact inte (by omega) | (simp; done) | (simp <;> omega) | simp [*]) (.cons rfl (by first | rfl | exact inte (by omega) | (simp; done) | (simp <;> omega) | simp [*]) (.cons rfl (by first | rfl | exact inte (by omega) | (simp; done) | (simp <;> omega) | simp [*]) (.cons rfl (by first | rfl | exact inte (by omega) | (simp; done) | (simp <;> omega) | simp [*]) (.cons rfl (by first | rfl | exact inte (by omega) | (simp; done) | (simp <;> omega) | simp [*]) (.nil _)))))))))))))))))))))))))) (by repeat (first | exact Ent.nil _ | exact Ent.refl _ | (refine Ent.pick (by repeat (first | exact Pick.here | apply Pick.there)) ?_) | refine Ent.skip ?_))
      · try simp only [Bool.and_eq_true, Bool.or_eq_true, Bool.not_eq_true', Bool.and_eq_false_iff, Bool.or_eq_false_iff, Bool.not_eq_false', decide_eq_true_eq, decide_eq_false_iff_not, Bool.not_eq_eq_eq_not, Bool.not_true, Bool.not_false, Bool.not_eq_true, Bool.not_eq_false, beq_iff_eq, bne_iff_ne, ne_eq, Decidable.not_not] at h1
        refine c_skip ?_
        refine k_then_n ?_
        exact t_next () trivial (.cons rfl (by first | rfl | exact inte (by omega) | (simp; done) | (simp <;> omega) | simp [*]) (.cons rfl (by first | rfl | exact inte (by omega) | (simp; done) | (simp <;> omega) | simp [*]) (.cons rfl (by first | rfl | exact inte (by omega) | (simp; done) | (simp <;> omega) | simp [*]) (.cons rfl (by first | rfl | exact inte (by omega) | (simp; done) | (simp <;> omega) | simp [*]) (.cons rfl (by first | rfl | exact inte (by omega) | (simp; done) | (simp <;> omega) | simp [*]) (.cons rfl (by first | rfl | exact inte (by omega) | (simp; done) | (simp <;> omega) | simp [*]) (.cons rfl (by first | rfl | exact inte (by omega) | (simp; done) | (simp <;> omega) | simp [*]) (.cons rfl (inte (stay_no (f := (e.xs, e.safe)) (by omega))) (.cons rfl (by first | rfl | exact inte (by omega) | (simp; done) | (simp <;> omega) | simp [*]) (.cons rfl (by first | rfl | exact inte (by omega) | (simp; done) | (simp <;> omega) | simp [*]) (.cons rfl (by first | rfl | exact inte (by omega) | (simp; done) | (simp <;> omega) | simp [*]) (.cons rfl (by first | rfl | exact inte (by omega) | (simp; done) | (simp <;> omega) | simp [*]) (.cons rfl (by first | rfl | exact inte (by omega) | (simp; done) | (simp <;> omega) | simp [*]) (.cons rfl (by first | rfl | exact inte (by omega) | (simp; done) | (simp <;> omega) | simp [*]) (.cons rfl (by first | rfl | exact inte (by omega) | (simp; done) | (simp <;> omega) | simp [*]) (.cons rfl (by first | rfl | exact inte (by omega) | (simp; done) | (simp <;> omega) | simp [*]) (.cons rfl (by first | rfl | exact inte (by omega) | (simp; done) | (simp <;> omega) | simp [*]) (.cons rfl (by first | rfl | exact inte (by omega) | (simp; done) | (simp <;> omega) | simp [*]) (.cons rfl (by first | rfl | exact inte (by omega) | (simp; done) | (simp <;> omega) | simp [*]) (.cons rfl (by first | rfl | exact inte (by omega) | (simp; done) | (simp <;> omega) | simp [*]) (.cons rfl (by first | rfl | exact inte (by omega) | (simp; done) | (simp <;> omega) | simp [*]) (.cons rfl (by first | rfl | exact inte (by omega) | (simp; done) | (simp <;> omega) | simp [*]) (.cons rfl (by first | rfl | exact inte (by omega) | (simp; done) | (simp <;> omega) | simp [*]) (.cons rfl (by first | rfl | exact inte (by omega) | (simp; done) | (simp <;> omega) | simp [*]) (.cons rfl (by first | rfl | exact inte (by omega) | (simp; done) | (simp <;> omega) | simp [*]) (.nil _)))))))))))))))))))))))))) (by repeat (first | exact Ent.nil _ | exact Ent.refl _ | (refine Ent.pick (by repeat (first | exact Pick.here | apply Pick.there)) ?_) | refine Ent.skip ?_))
    intro _u hj1
    have hst : 0 ≤ (stayF keep x.d.1 (e.xs, e.safe)) ∧ (stayF keep x.d.1 (e.xs, e.safe)) ≤ (e.xs.length : Int) - e.safe := stay_bd keep x.d.1 (f := (e.xs, e.safe)) hua.2
    refine k_then_n ?_
    refine c_seq ?_
    refine c_draw (m := 15) (bs := #[false, false, false, false, false, false, false, false, false, false, false, false, false, false, false]) [.pts e.blk (encFile1 (⟨⟨e.a, e.xs.length, e.cap⟩, e.safe⟩ : File1)) 66, .row 5 1 e.a e.xs.length e.cap (e.xs.flatMap encB), Bun ((fL 66 5 x.d.2.1).eraseIdx j), .row 9 1 an14 T.length cn14 ((sortS (T.map (·.name))).flatMap Go.SL.encStr), .pts b (encDisk1 (⟨room, (some mb), (-1)⟩ : Disk1)) 62, MP strB ptV mb (fm x.d.2.1)] (by kernel_rfl) rfl (by kernel_rfl) ?_
    refine r_take (i := 0) (bs' := #[true, false, false, false, false, false, false, false, false, false, false, false, false, false, false]) rfl (by kernel_rfl) (by kernel_rfl) (by kernel_rfl) (fun _ _ _ h => h) rfl wn (q_move rfl) (Hp.le_refl _) (by repeat (first | exact Ent.nil _ | exact Ent.refl _ | (refine Ent.pick (by repeat (first | exact Pick.here | apply Pick.there)) ?_) | refine Ent.skip ?_)) (by kernel_rfl) ?_
    refine r_take (i := 1) (bs' := #[true, true, false, false, false, false, false, false, false, false, false, false, false, false, false]) rfl (by kernel_rfl) (by kernel_rfl) (by kernel_rfl) (fun _ _ _ h => h) rfl wn (q_move rfl) (Hp.le_refl _) (by repeat (first | exact Ent.nil _ | exact Ent.refl _ | (refine Ent.pick (by repeat (first | exact Pick.here | apply Pick.there)) ?_) | refine Ent.skip ?_)) (by kernel_rfl) ?_
    refine r_take (i := 2) (bs' := #[true, true, true, false, false, false, false, false, false, false, false, false, false, false, false]) rfl (by kernel_rfl) (by kernel_rfl) (by kernel_rfl) (fun _ _ _ h => h) rfl wn (q_nilCheck rfl) (Hp.le_refl _) (by repeat (first | exact Ent.nil _ | exact Ent.refl _ | (refine Ent.pick (by repeat (first | exact Pick.here | apply Pick.there)) ?_) | refine Ent.skip ?_)) (by kernel_rfl) ?_
    refine r_take (i := 3) (bs' := #[true, true, true, true, false, false, false, false, false, false, false, false, false, false, false]) rfl (by kernel_rfl) (by kernel_rfl) (by kernel_rfl) (fun _ _ _ h => h) rfl wn (q_fieldp rfl fo_66_0) (Hp.le_refl _) (by repeat (first | exact Ent.nil _ | exact Ent.refl _ | (refine Ent.pick (by repeat (first | exact Pick.here | apply Pick.there)) ?_) | refine Ent.skip ?_)) (by kernel_rfl) ?_
    refine r_take (i := 4) (bs' := #[true, true, true, true, true, false, false, false, false, false, false, false, false, false, false]) rfl (by kernel_rfl) (by kernel_rfl) (by kernel_rfl) (fun _ _ _ h => h) rfl wn (q_loadp (v := .slice e.a e.xs.length e.cap) sc_32 rfl (by repeat (first | exact Pick.here | apply Pick.there)) rfl) (Hp.le_refl _) (by repeat (first | exact Ent.nil _ | exact Ent.refl _ | (refine Ent.pick (by repeat (first | exact Pick.here | apply Pick.there)) ?_) | refine Ent.skip ?_)) (by kernel_rfl) ?_
    refine r_take (i := 5) (bs' := #[true, true, true, true, true, true, false, false, false, false, false, false, false, false, false]) rfl (by kernel_rfl) (by kernel_rfl) (by kernel_rfl) (fun _ _ _ h => h) rfl wn (q_len Tryd.underlying32 rfl) (Hp.le_refl _) (by repeat (first | exact Ent.nil _ | exact Ent.refl _ | (refine Ent.pick (by repeat (first | exact Pick.here | apply Pick.there)) ?_) | refine Ent.skip ?_)) (by kernel_rfl) ?_
    refine r_take (i := 6) (bs' := #[true, true, true, true, true, true, true, false, false, false, false, false, false, false, false]) rfl (by kernel_rfl) (by kernel_rfl) (by kernel_rfl) (fun _ _ _ h => h) rfl wn (q_move rfl) (Hp.le_refl _) (by repeat (first | exact Ent.nil _ | exact Ent.refl _ | (refine Ent.pick (by repeat (first | exact Pick.here | apply Pick.there)) ?_) | refine Ent.skip ?_)) (by kernel_rfl) ?_
    refine r_take (i := 7) (bs' := #[true, true, true, true, true, true, true, true, false, false, false, false, false, false, false]) rfl (by kernel_rfl) (by kernel_rfl) (by kernel_rfl) (fun _ _ _ h => h) rfl wn (q_nilCheck rfl) (Hp.le_refl _) (by repeat (first | exact Ent.nil _ | exact Ent.refl _ | (refine Ent.pick (by repeat (first | exact Pick.here | apply Pick.there)) ?_) | refine Ent.skip ?_)) (by kernel_rfl) ?_
    refine r_take (i := 8) (bs' := #[true, true, true, true, true, true, true, true, true, false, false, false, false, false, false]) rfl (by kernel_rfl) (by kernel_rfl) (by kernel_rfl) (fun _ _ _ h => h) rfl wn (q_fieldp rfl fo_66_1) (Hp.le_refl _) (by repeat (first | exact Ent.nil _ | exact Ent.refl _ | (refine Ent.pick (by repeat (first | exact Pick.here | apply Pick.there)) ?_) | refine Ent.skip ?_)) (by kernel_rfl) ?_
    refine r_take (i := 9) (bs' := #[true, true, true, true, true, true, true, true, true, true, false, false, false, false, false]) rfl (by kernel_rfl) (by kernel_rfl) (by kernel_rfl) (fun _ _ _ h => h) rfl wn (q_loadp (v := .int .i64 e.safe) sc_3 rfl (by repeat (first | exact Pick.here | apply Pick.there)) rfl) (Hp.le_refl _) (by repeat (first | exact Ent.nil _ | exact Ent.refl _ | (refine Ent.pick (by repeat (first | exact Pick.here | apply Pick.there)) ?_) | refine Ent.skip ?_)) (by kernel_rfl) ?_
    refine r_take (i := 10) (bs' := #[true, true, true, true, true, true, true, true, true, true, true, false, false, false, false]) rfl (by kernel_rfl) (by kernel_rfl) (by kernel_rfl) (fun _ _ _ h => h) rfl wn (q_sub rfl rfl (by omega) (by omega)) (Hp.le_refl _) (by repeat (first | exact Ent.nil _ | exact Ent.refl _ | (refine Ent.pick (by repeat (first | exact Pick.here | apply Pick.there)) ?_) | refine Ent.skip ?_)) (by kernel_rfl) ?_
    refine r_take (i := 11) (bs' := #[true, true, true, true, true, true, true, true, true, true, true, true, false, false, false]) rfl (by kernel_rfl) (by kernel_rfl) (by kernel_rfl) (fun _ _ _ h => h) rfl wn (q_move rfl) (Hp.le_refl _) (by repeat (first | exact Ent.nil _ | exact Ent.refl _ | (refine Ent.pick (by repeat (first | exact Pick.here | apply Pick.there)) ?_) | refine Ent.skip ?_)) (by kernel_rfl) ?_
    refine r_take (i := 12) (bs' := #[true, true, true, true, true, true, true, true, true, true, true, true, true, false, false]) rfl (by kernel_rfl) (by kernel_rfl) (by kernel_rfl) (fun _ _ _ h => h) rfl wn (q_sub rfl rfl (by omega) (by omega)) (Hp.le_refl _) (by repeat (first | exact Ent.nil _ | exact Ent.refl _ | (refine Ent.pick (by repeat (first | exact Pick.here | apply Pick.there)) ?_) | refine Ent.skip ?_)) (by kernel_rfl) ?_
    refine r_take (i := 13) (bs' := #[true, true, true, true, true, true, true, true, true, true, true, true, true, true, false]) rfl (by kernel_rfl) (by kernel_rfl) (by kernel_rfl) (fun _ _ _ h => h) rfl wn (q_add rfl rfl (by omega) (by omega)) (Hp.le_refl _) (by repeat (first | exact Ent.nil _ | exact Ent.refl _ | (refine Ent.pick (by repeat (first | exact Pick.here | apply Pick.there)) ?_) | refine Ent.skip ?_)) (by kernel_rfl) ?_
    refine r_take (i := 14) (bs' := #[true, true, true, true, true, true, true, true, true, true, true, true, true, true, true]) rfl (by kernel_rfl) (by kernel_rfl) (by kernel_rfl) (fun _ _ _ h => h) rfl wn (q_assign rfl) (Hp.le_refl _) (by repeat (first | exact Ent.nil _ | exact Ent.refl _ | (refine Ent.pick (by repeat (first | exact Pick.here | apply Pick.there)) ?_) | refine Ent.skip ?_)) (by kernel_rfl) ?_
    refine r_done (by kernel_rfl) ?_
    refine k_then_n ?_
    refine c_seq ?_
    refine c_region ?_
    refine l_step (s_q rfl wn (q_move rfl) ?_)
    refine l_step (s_q rfl wn (q_nilCheck rfl) ?_)
    refine l_step (s_q rfl wn (q_fieldp rfl fo_66_1) ?_)
    refine l_step (s_q rfl wn (q_loadp (v := .int .i64 e.safe) sc_3 rfl (by repeat (first | exact Pick.here | apply Pick.there)) rfl) ?_)
    refine l_step (s_q rfl wn (q_move rfl) ?_)
    refine l_step (s_q rfl wn (q_add rfl rfl (by omega) (by omega)) ?_)
    refine l_step (s_q rfl wn (q_nilCheck rfl) ?_)
    refine l_step (s_q rfl wn (q_fieldp rfl fo_66_1) ?_)
    refine l_step (s_s0 wn (s_storep (ws := [.int .i64 (e.safe + (stayF keep x.d.1 (e.xs, e.safe)))]) (cs := encFile1 (⟨⟨e.a, e.xs.length, e.cap⟩, e.safe⟩ : File1)) (cs' := encFile1 (⟨⟨e.a, e.xs.length, e.cap⟩, (e.safe + (stayF keep x.d.1 (e.xs, e.safe)))⟩ : File1)) rfl rfl rfl sz_3 (by simp [Value.oneCell', strB, ptV, SL.v, SH.v]) (by simp [encFile1]) rfl (by repeat (first | exact Pick.here | apply Pick.there))) ?_)
    rintro _ _ ⟨rfl, rfl⟩
    refine l_nil ?_
    refine k_then_n ?_
    refine c_draw (m := 13) (bs := #[false, false, false, false, false, false, false, false, false, false, false, false, false]) [.row 5 1 e.a e.xs.length e.cap (e.xs.flatMap encB), Bun ((fL 66 5 x.d.2.1).eraseIdx j), .row 9 1 an14 T.length cn14 ((sortS (T.map (·.name))).flatMap Go.SL.encStr), .pts b (encDisk1 (⟨room, (some mb), (-1)⟩ : Disk1)) 62, MP strB ptV mb (fm x.d.2.1)] (by kernel_rfl) rfl (by kernel_rfl) ?_
    refine r_take (i := 0) (bs' := #[true, false, false, false, false, false, false, false, false, false, false, false, false]) rfl (by kernel_rfl) (by kernel_rfl) (by kernel_rfl) (fun _ _ _ h => h) rfl wn (q_move rfl) (Hp.le_refl _) (by repeat (first | exact Ent.nil _ | exact Ent.refl _ | (refine Ent.pick (by repeat (first | exact Pick.here | apply Pick.there)) ?_) | refine Ent.skip ?_)) (by kernel_rfl) ?_
    refine r_take (i := 1) (bs' := #[true, true, false, false, false, false, false, false, false, false, false, false, false]) rfl (by kernel_rfl) (by kernel_rfl) (by kernel_rfl) (fun _ _ _ h => h) rfl wn (q_move rfl) (Hp.le_refl _) (by repeat (first | exact Ent.nil _ | exact Ent.refl _ | (refine Ent.pick (by repeat (first | exact Pick.here | apply Pick.there)) ?_) | refine Ent.skip ?_)) (by kernel_rfl) ?_
    refine r_take (i := 2) (bs' := #[true, true, true, false, false, false, false, false, false, false, false, false, false]) rfl (by kernel_rfl) (by kernel_rfl) (by kernel_rfl) (fun _ _ _ h => h) rfl wn (q_nilCheck rfl) (Hp.le_refl _) (by repeat (first | exact Ent.nil _ | exact Ent.refl _ | (refine Ent.pick (by repeat (first | exact Pick.here | apply Pick.there)) ?_) | refine Ent.skip ?_)) (by kernel_rfl) ?_
    refine r_take (i := 3) (bs' := #[true, true, true, true, false, false, false, false, false, false, false, false, false]) rfl (by kernel_rfl) (by kernel_rfl) (by kernel_rfl) (fun _ _ _ h => h) rfl wn (q_fieldp rfl fo_66_0) (Hp.le_refl _) (by repeat (first | exact Ent.nil _ | exact Ent.refl _ | (refine Ent.pick (by repeat (first | exact Pick.here | apply Pick.there)) ?_) | refine Ent.skip ?_)) (by kernel_rfl) ?_
    refine r_take (i := 5) (bs' := #[true, true, true, true, false, true, false, false, false, false, false, false, false]) rfl (by kernel_rfl) (by kernel_rfl) (by kernel_rfl) (fun _ _ _ h => h) rfl wn (q_move rfl) (Hp.le_refl _) (by repeat (first | exact Ent.nil _ | exact Ent.refl _ | (refine Ent.pick (by repeat (first | exact Pick.here | apply Pick.there)) ?_) | refine Ent.skip ?_)) (by kernel_rfl) ?_
    refine r_take (i := 6) (bs' := #[true, true, true, true, false, true, true, false, false, false, false, false, false]) rfl (by kernel_rfl) (by kernel_rfl) (by kernel_rfl) (fun _ _ _ h => h) rfl wn (q_nilCheck rfl) (Hp.le_refl _) (by repeat (first | exact Ent.nil _ | exact Ent.refl _ | (refine Ent.pick (by repeat (first | exact Pick.here | apply Pick.there)) ?_) | refine Ent.skip ?_)) (by kernel_rfl) ?_
    refine r_take (i := 7) (bs' := #[true, true, true, true, false, true, true, true, false, false, false, false, false]) rfl (by kernel_rfl) (by kernel_rfl) (by kernel_rfl) (fun _ _ _ h => h) rfl wn (q_fieldp rfl fo_66_1) (Hp.le_refl _) (by repeat (first | exact Ent.nil _ | exact Ent.refl _ | (refine Ent.pick (by repeat (first | exact Pick.here | apply Pick.there)) ?_) | refine Ent.skip ?_)) (by kernel_rfl) ?_
    refine r_two (i := 4) (j := 8) (bi := #[true, true, true, true, true, true, true, true, false, false, false, false, false]) (bj := #[true, true, true, true, false, true, true, true, true, false, false, false, false]) (by kernel_rfl) (by kernel_rfl) (by kernel_rfl) ?_ ?_
    · skip
      refine o_step rfl (s_q rfl wn (q_loadp (v := .slice e.a e.xs.length e.cap) sc_32 rfl (by repeat (first | exact Pick.here | apply Pick.there)) rfl) ?_)
      refine r_cont (Hp.le_refl _) (by repeat (first | exact Ent.nil _ | exact Ent.refl _ | (refine Ent.pick (by repeat (first | exact Pick.here | apply Pick.there)) ?_) | refine Ent.skip ?_)) ?_
      refine r_one (i := 8) (bs' := #[true, true, true, true, true, true, true, true, true, false, false, false, false]) (by kernel_rfl) (by kernel_rfl) ?_
      refine o_step rfl (s_q rfl wn (q_loadp (v := .int .i64 (e.safe + (stayF keep x.d.1 (e.xs, e.safe)))) sc_3 rfl (by repeat (first | exact Pick.here | apply Pick.there)) rfl) ?_)
      refine r_cont (Hp.le_refl _) (by repeat (first | exact Ent.nil _ | exact Ent.refl _ | (refine Ent.pick (by repeat (first | exact Pick.here | apply Pick.there)) ?_) | refine Ent.skip ?_)) ?_
      refine r_take (i := 9) (bs' := #[true, true, true, true, true, true, true, true, true, true, false, false, false]) rfl (by kernel_rfl) (by kernel_rfl) (by kernel_rfl) (fun _ _ _ h => h) rfl wn (q_cut_hi Tryd.underlying32 sz_5 rfl rfl (by omega) (by omega)) (Hp.le_refl _) (by repeat (first | exact Ent.nil _ | exact Ent.refl _ | (refine Ent.pick (by repeat (first | exact Pick.here | apply Pick.there)) ?_) | refine Ent.skip ?_)) (by kernel_rfl) ?_
      refine r_take (i := 10) (bs' := #[true, true, true, true, true, true, true, true, true, true, true, false, false]) rfl (by kernel_rfl) (by kernel_rfl) (by kernel_rfl) (fun _ _ _ h => h) rfl wn (q_nilCheck rfl) (Hp.le_refl _) (by repeat (first | exact Ent.nil _ | exact Ent.refl _ | (refine Ent.pick (by repeat (first | exact Pick.here | apply Pick.there)) ?_) | refine Ent.skip ?_)) (by kernel_rfl) ?_
      refine r_take (i := 11) (bs' := #[true, true, true, true, true, true, true, true, true, true, true, true, false]) rfl (by kernel_rfl) (by kernel_rfl) (by kernel_rfl) (fun _ _ _ h => h) rfl wn (q_fieldp rfl fo_66_0) (Hp.le_refl _) (by repeat (first | exact Ent.nil _ | exact Ent.refl _ | (refine Ent.pick (by repeat (first | exact Pick.here | apply Pick.there)) ?_) | refine Ent.skip ?_)) (by kernel_rfl) ?_
      refine r_one (i := 12) (bs' := #[true, true, true, true, true, true, true, true, true, true, true, true, true]) (by kernel_rfl) (by kernel_rfl) ?_
      refine o_step rfl (s_s0 wn (s_storep (ws := [.slice e.a (((e.safe + (stayF keep x.d.1 (e.xs, e.safe)))).toNat) e.cap]) (cs := encFile1 (⟨⟨e.a, e.xs.length, e.cap⟩, (e.safe + (stayF keep x.d.1 (e.xs, e.safe)))⟩ : File1)) (cs' := encFile1 (⟨⟨e.a, ((e.safe + (stayF keep x.d.1 (e.xs, e.safe)))).toNat, e.cap⟩, (e.safe + (stayF keep x.d.1 (e.xs, e.safe)))⟩ : File1)) rfl rfl rfl sz_32 (by simp [Value.oneCell', strB, ptV, SL.v, SH.v]) (by simp [encFile1]) rfl (by repeat (first | exact Pick.here | apply Pick.there))) ?_)
      rintro _ _ ⟨rfl, rfl⟩
      refine r_cont (Hp.le_refl _) (by repeat (first | exact Ent.nil _ | exact Ent.refl _ | (refine Ent.pick (by repeat (first | exact Pick.here | apply Pick.there)) ?_) | refine Ent.skip ?_)) ?_
      refine r_done (by kernel_rfl) ?_
      refine k_blk_n ?_
      refine k_then_n ?_
      refine c_region ?_
      refine Tr.ent (Ent.trans (Ent.pick (A := .row 5 1 e.a e.xs.length e.cap (e.xs.flatMap encB)) (by repeat (first | exact Pick.here | apply Pick.there)) (Ent.refl _)) (row_cut (enc := encB) (sz := 1) (n := e.xs.length) (fun _ => rfl) ((e.safe + (stayF keep x.d.1 (e.xs, e.safe)))).toNat (by omega))) ?_
      refine l_step (s_q rfl wn (q_add rfl rfl (by omega) (by omega)) ?_)
      refine l_step (s_q rfl wn (q_move rfl) ?_)
      refine l_nil ?_
      refine k_then_n ?_
      have hk9 : ((e.safe + (stayF keep x.d.1 (e.xs, e.safe)))).toNat = (e.xs.take ((e.safe + (stayF keep x.d.1 (e.xs, e.safe)))).toNat).length := by rw [List.length_take]; omega
      refine Tr.ent (Γ' := .row 5 1 e.a ((e.xs.take ((e.safe + (stayF keep x.d.1 (e.xs, e.safe)))).toNat).length) e.cap ((e.xs.take ((e.safe + (stayF keep x.d.1 (e.xs, e.safe)))).toNat).flatMap encB) :: .pts e.blk (encFile1 (⟨⟨e.a, (e.xs.take ((e.safe + (stayF keep x.d.1 (e.xs, e.safe)))).toNat).length, e.cap⟩, (e.safe + (stayF keep x.d.1 (e.xs, e.safe)))⟩ : File1)) 66 :: Bun ((fL 66 5 x.d.2.1).eraseIdx j) :: .row 9 1 an14 T.length cn14 ((sortS (T.map (·.name))).flatMap Go.SL.encStr) :: .pts b (encDisk1 (⟨room, (some mb), (-1)⟩ : Disk1)) 62 :: MP strB ptV mb (fm x.d.2.1) :: Δ) (Ent.cast (by rw [← hk9]; rfl)) ?_
      refine Tr.ent (Ent.trans (Ent.pick (A := .pts e.blk (encFile1 (⟨⟨e.a, (e.xs.take ((e.safe + (stayF keep x.d.1 (e.xs, e.safe)))).toNat).length, e.cap⟩, (e.safe + (stayF keep x.d.1 (e.xs, e.safe)))⟩ : File1)) 66) (by repeat (first | exact Pick.here | apply Pick.there)) (Ent.pick (A := .row 5 1 e.a ((e.xs.take ((e.safe + (stayF keep x.d.1 (e.xs, e.safe)))).toNat).length) e.cap ((e.xs.take ((e.safe + (stayF keep x.d.1 (e.xs, e.safe)))).toNat).flatMap encB)) (by repeat (first | exact Pick.here | apply Pick.there)) (Ent.pick (A := Bun ((fL 66 5 x.d.2.1).eraseIdx j)) (by repeat (first | exact Pick.here | apply Pick.there)) (Ent.refl _)))) (file_shut (t := 66) (tb := 5) ⟨e.name, e.blk, e.a, e.cap, e.xs.take ((e.safe + (stayF keep x.d.1 (e.xs, e.safe)))).toNat, (e.safe + (stayF keep x.d.1 (e.xs, e.safe)))⟩ hj)) ?_
      have hnd : (x.d.2.1.map (·.name)).Nodup := by rw [← fm_keys, hx2, fm_keys]; exact hT.nd
      have hf9 : fm (x.d.2.1.set j ⟨e.name, e.blk, e.a, e.cap, e.xs.take ((e.safe + (stayF keep x.d.1 (e.xs, e.safe)))).toNat, (e.safe + (stayF keep x.d.1 (e.xs, e.safe)))⟩) = fm T := by rw [fm_set (e' := ⟨e.name, e.blk, e.a, e.cap, e.xs.take ((e.safe + (stayF keep x.d.1 (e.xs, e.safe)))).toNat, (e.safe + (stayF keep x.d.1 (e.xs, e.safe)))⟩) hj rfl rfl]; exact hx2
      have hv9 : (vw (x.d.2.1.set j ⟨e.name, e.blk, e.a, e.cap, e.xs.take ((e.safe + (stayF keep x.d.1 (e.xs, e.safe)))).toNat, (e.safe + (stayF keep x.d.1 (e.xs, e.safe)))⟩), (x.d.2.2 + (((e.xs.length : Int) - e.safe) - (stayF keep x.d.1 (e.xs, e.safe))))) = (crK keep (sortS (T.map (·.name))) (vw T) (x.d.1 + 1)) := by simp only [crK, ← hx3, getD_of hvg]; rw [vw_set (e' := ⟨e.name, e.blk, e.a, e.cap, e.xs.take ((e.safe + (stayF keep x.d.1 (e.xs, e.safe)))).toNat, (e.safe + (stayF keep x.d.1 (e.xs, e.safe)))⟩) hnd hj rfl, hnm]
      have hus := used_set (e' := ⟨e.name, e.blk, e.a, e.cap, e.xs.take ((e.safe + (stayF keep x.d.1 (e.xs, e.safe)))).toNat, (e.safe + (stayF keep x.d.1 (e.xs, e.safe)))⟩) hj
      simp only [List.length_take] at hus
      rw [hx2]
      exact t_next (⟨(x.d.1 + 1, x.d.2.1.set j ⟨e.name, e.blk, e.a, e.cap, e.xs.take ((e.safe + (stayF keep x.d.1 (e.xs, e.safe)))).toNat, (e.safe + (stayF keep x.d.1 (e.xs, e.safe)))⟩, (x.d.2.2 + (((e.xs.length : Int) - e.safe) - (stayF keep x.d.1 (e.xs, e.safe))))), none, 0, none, 0, none, 0⟩ : Lp _) ⟨⟨by simp only []; omega, hf9, hv9, ⟨by simp only []; omega, by simp only []; omega⟩, fun y hy => by rcases List.mem_or_eq_of_mem_set hy with h | h; exact hx5 y h; rw [h]; simp only [List.length_take]; omega⟩, by simp only []; omega⟩ (.cons rfl (by first | rfl | exact inte (by omega) | (simp; done) | (simp <;> omega) | simp [*]) (.cons rfl (by first | rfl | exact inte (by omega) | (simp; done) | (simp <;> omega) | simp [*]) (.cons rfl (by first | rfl | exact inte (by omega) | (simp; done) | (simp <;> omega) | simp [*]) (.cons rfl (by first | rfl | exact inte (by omega) | (simp; done) | (simp <;> omega) | simp [*]) (.cons rfl (by first | rfl | exact inte (by omega) | (simp; done) | (simp <;> omega) | simp [*]) (.cons rfl (by first | rfl | exact inte (by omega) | (simp; done) | (simp <;> omega) | simp [*]) (.cons rfl (by first | rfl | exact inte (by omega) | (simp; done) | (simp <;> omega) | simp [*]) (.nil _)))))))) (by repeat (first | exact Ent.nil _ | exact Ent.refl _ | (refine Ent.pick (by repeat (first | exact Pick.here | apply Pick.there)) ?_) | refine Ent.skip ?_))
    · skip
      refine o_step rfl (s_q rfl wn (q_loadp (v := .int .i64 (e.safe + (stayF keep x.d.1 (e.xs, e.safe)))) sc_3 rfl (by repeat (first | exact Pick.here | apply Pick.there)) rfl) ?_)
      refine r_cont (Hp.le_refl _) (by repeat (first | exact Ent.nil _ | exact Ent.refl _ | (refine Ent.pick (by repeat (first | exact Pick.here | apply Pick.there)) ?_) | refine Ent.skip ?_)) ?_
      refine r_one (i := 4) (bs' := #[true, true, true, true, true, true, true, true, true, false, false, false, false]) (by kernel_rfl) (by kernel_rfl) ?_
      refine o_step rfl (s_q rfl wn (q_loadp (v := .slice e.a e.xs.length e.cap) sc_32 rfl (by repeat (first | exact Pick.here | apply Pick.there)) rfl) ?_)
      refine r_cont (Hp.le_refl _) (by repeat (first | exact Ent.nil _ | exact Ent.refl _ | (refine Ent.pick (by repeat (first | exact Pick.here | apply Pick.there)) ?_) | refine Ent.skip ?_)) ?_
      refine r_take (i := 9) (bs' := #[true, true, true, true, true, true, true, true, true, true, false, false, false]) rfl (by kernel_rfl) (by kernel_rfl) (by kernel_rfl) (fun _ _ _ h => h) rfl wn (q_cut_hi Tryd.underlying32 sz_5 rfl rfl (by omega) (by omega)) (Hp.le_refl _) (by repeat (first | exact Ent.nil _ | exact Ent.refl _ | (refine Ent.pick (by repeat (first | exact Pick.here | apply Pick.there)) ?_) | refine Ent.skip ?_)) (by kernel_rfl) ?_
      refine r_take (i := 10) (bs' := #[true, true, true, true, true, true, true, true, true, true, true, false, false]) rfl (by kernel_rfl) (by kernel_rfl) (by kernel_rfl) (fun _ _ _ h => h) rfl wn (q_nilCheck rfl) (Hp.le_refl _) (by repeat (first | exact Ent.nil _ | exact Ent.refl _ | (refine Ent.pick (by repeat (first | exact Pick.here | apply Pick.there)) ?_) | refine Ent.skip ?_)) (by kernel_rfl) ?_
      refine r_take (i := 11) (bs' := #[true, true, true, true, true, true, true, true, true, true, true, true, false]) rfl (by kernel_rfl) (by kernel_rfl) (by kernel_rfl) (fun _ _ _ h => h) rfl wn (q_fieldp rfl fo_66_0) (Hp.le_refl _) (by repeat (first | exact Ent.nil _ | exact Ent.refl _ | (refine Ent.pick (by repeat (first | exact Pick.here | apply Pick.there)) ?_) | refine Ent.skip ?_)) (by kernel_rfl) ?_
      refine r_one (i := 12) (bs' := #[true, true, true, true, true, true, true, true, true, true, true, true, true]) (by kernel_rfl) (by kernel_rfl) ?_
      refine o_step rfl (s_s0 wn (s_storep (ws := [.slice e.a (((e.safe + (stayF keep x.d.1 (e.xs, e.safe)))).toNat) e.cap]) (cs := encFile1 (⟨⟨e.a, e.xs.length, e.cap⟩, (e.safe + (stayF keep x.d.1 (e.xs, e.safe)))⟩ : File1)) (cs' := encFile1 (⟨⟨e.a, ((e.safe + (stayF keep x.d.1 (e.xs, e.safe)))).toNat, e.cap⟩, (e.safe + (stayF keep x.d.1 (e.xs, e.safe)))⟩ : File1)) rfl rfl rfl sz_32 (by simp [Value.oneCell', strB, ptV, SL.v, SH.v]) (by simp [encFile1]) rfl (by repeat (first | exact Pick.here | apply Pick.there))) ?_)
      rintro _ _ ⟨rfl, rfl⟩
      refine r_cont (Hp.le_refl _) (by repeat (first | exact Ent.nil _ | exact Ent.refl _ | (refine Ent.pick (by repeat (first | exact Pick.here | apply Pick.there)) ?_) | refine Ent.skip ?_)) ?_
      refine r_done (by kernel_rfl) ?_
      refine k_blk_n ?_
      refine k_then_n ?_
      refine c_region ?_
      refine Tr.ent (Ent.trans (Ent.pick (A := .row 5 1 e.a e.xs.length e.cap (e.xs.flatMap encB)) (by repeat (first | exact Pick.here | apply Pick.there)) (Ent.refl _)) (row_cut (enc := encB) (sz := 1) (n := e.xs.length) (fun _ => rfl) ((e.safe + (stayF keep x.d.1 (e.xs, e.safe)))).toNat (by omega))) ?_
      refine l_step (s_q rfl wn (q_add rfl rfl (by omega) (by omega)) ?_)
      refine l_step (s_q rfl wn (q_move rfl) ?_)
      refine l_nil ?_
      refine k_then_n ?_
      have hk9 : ((e.safe + (stayF keep x.d.1 (e.xs, e.safe)))).toNat = (e.xs.take ((e.safe + (stayF keep x.d.1 (e.xs, e.safe)))).toNat).length := by rw [List.length_take]; omega
      refine Tr.ent (Γ' := .row 5 1 e.a ((e.xs.take ((e.safe + (stayF keep x.d.1 (e.xs, e.safe)))).toNat).length) e.cap ((e.xs.take ((e.safe + (stayF keep x.d.1 (e.xs, e.safe)))).toNat).flatMap encB) :: .pts e.blk (encFile1 (⟨⟨e.a, (e.xs.take ((e.safe + (stayF keep x.d.1 (e.xs, e.safe)))).toNat).length, e.cap⟩, (e.safe + (stayF keep x.d.1 (e.xs, e.safe)))⟩ : File1)) 66 :: Bun ((fL 66 5 x.d.2.1).eraseIdx j) :: .row 9 1 an14 T.length cn14 ((sortS (T.map (·.name))).flatMap Go.SL.encStr) :: .pts b (encDisk1 (⟨room, (some mb), (-1)⟩ : Disk1)) 62 :: MP strB ptV mb (fm x.d.2.1) :: Δ) (Ent.cast (by rw [← hk9]; rfl)) ?_
      refine Tr.ent (Ent.trans (Ent.pick (A := .pts e.blk (encFile1 (⟨⟨e.a, (e.xs.take ((e.safe + (stayF keep x.d.1 (e.xs, e.safe)))).toNat).length, e.cap⟩, (e.safe + (stayF keep x.d.1 (e.xs, e.safe)))⟩ : File1)) 66) (by repeat (first | exact Pick.here | apply Pick.there)) (Ent.pick (A := .row 5 1 e.a ((e.xs.take ((e.safe + (stayF keep x.d.1 (e.xs, e.safe)))).toNat).length) e.cap ((e.xs.take ((e.safe + (stayF keep x.d.1 (e.xs, e.safe)))).toNat).flatMap encB)) (by repeat (first | exact Pick.here | apply Pick.there)) (Ent.pick (A := Bun ((fL 66 5 x.d.2.1).eraseIdx j)) (by repeat (first | exact Pick.here | apply Pick.there)) (Ent.refl _)))) (file_shut (t := 66) (tb := 5) ⟨e.name, e.blk, e.a, e.cap, e.xs.take ((e.safe + (stayF keep x.d.1 (e.xs, e.safe)))).toNat, (e.safe + (stayF keep x.d.1 (e.xs, e.safe)))⟩ hj)) ?_
      have hnd : (x.d.2.1.map (·.name)).Nodup := by rw [← fm_keys, hx2, fm_keys]; exact hT.nd
      have hf9 : fm (x.d.2.1.set j ⟨e.name, e.blk, e.a, e.cap, e.xs.take ((e.safe + (stayF keep x.d.1 (e.xs, e.safe)))).toNat, (e.safe + (stayF keep x.d.1 (e.xs, e.safe)))⟩) = fm T := by rw [fm_set (e' := ⟨e.name, e.blk, e.a, e.cap, e.xs.take ((e.safe + (stayF keep x.d.1 (e.xs, e.safe)))).toNat, (e.safe + (stayF keep x.d.1 (e.xs, e.safe)))⟩) hj rfl rfl]; exact hx2
      have hv9 : (vw (x.d.2.1.set j ⟨e.name, e.blk, e.a, e.cap, e.xs.take ((e.safe + (stayF keep x.d.1 (e.xs, e.safe)))).toNat, (e.safe + (stayF keep x.d.1 (e.xs, e.safe)))⟩), (x.d.2.2 + (((e.xs.length : Int) - e.safe) - (stayF keep x.d.1 (e.xs, e.safe))))) = (crK keep (sortS (T.map (·.name))) (vw T) (x.d.1 + 1)) := by simp only [crK, ← hx3, getD_of hvg]; rw [vw_set (e' := ⟨e.name, e.blk, e.a, e.cap, e.xs.take ((e.safe + (stayF keep x.d.1 (e.xs, e.safe)))).toNat, (e.safe + (stayF keep x.d.1 (e.xs, e.safe)))⟩) hnd hj rfl, hnm]
      have hus := used_set (e' := ⟨e.name, e.blk, e.a, e.cap, e.xs.take ((e.safe + (stayF keep x.d.1 (e.xs, e.safe)))).toNat, (e.safe + (stayF keep x.d.1 (e.xs, e.safe)))⟩) hj
      simp only [List.length_take] at hus
      rw [hx2]
      exact t_next (⟨(x.d.1 + 1, x.d.2.1.set j ⟨e.name, e.blk, e.a, e.cap, e.xs.take ((e.safe + (stayF keep x.d.1 (e.xs, e.safe)))).toNat, (e.safe + (stayF keep x.d.1 (e.xs, e.safe)))⟩, (x.d.2.2 + (((e.xs.length : Int) - e.safe) - (stayF keep x.d.1 (e.xs, e.safe))))), none, 0, none, 0, none, 0⟩ : Lp _) ⟨⟨by simp only []; omega, hf9, hv9, ⟨by simp only []; omega, by simp only []; omega⟩, fun y hy => by rcases List.mem_or_eq_of_mem_set hy with h | h; exact hx5 y h; rw [h]; simp only [List.length_take]; omega⟩, by simp only []; omega⟩ (.cons rfl (by first | rfl | exact inte (by omega) | (simp; done) | (simp <;> omega) | simp [*]) (.cons rfl (by first | rfl | exact inte (by omega) | (simp; done) | (simp <;> omega) | simp [*]) (.cons rfl (by first | rfl | exact inte (by omega) | (simp; done) | (simp <;> omega) | simp [*]) (.cons rfl (by first | rfl | exact inte (by omega) | (simp; done) | (simp <;> omega) | simp [*]) (.cons rfl (by first | rfl | exact inte (by omega) | (simp; done) | (simp <;> omega) | simp [*]) (.cons rfl (by first | rfl | exact inte (by omega) | (simp; done) | (simp <;> omega) | simp [*]) (.cons rfl (by first | rfl | exact inte (by omega) | (simp; done) | (simp <;> omega) | simp [*]) (.nil _)))))))) (by repeat (first | exact Ent.nil _ | exact Ent.refl _ | (refine Ent.pick (by repeat (first | exact Pick.here | apply Pick.there)) ?_) | refine Ent.skip ?_))
  · try simp only [Bool.and_eq_true, Bool.or_eq_true, Bool.not_eq_true', Bool.and_eq_false_iff, Bool.or_eq_false_iff, Bool.not_eq_false', decide_eq_true_eq, decide_eq_false_iff_not, Bool.not_eq_eq_eq_not, Bool.not_true, Bool.not_false, Bool.not_eq_true, Bool.not_eq_false, beq_iff_eq, bne_iff_ne, ne_eq, Decidable.not_not] at h0
    have hk : x.d.1 = T.length := by omega
    rw [← hx2]
    refine c_exit ?_
    refine k_then_x ?_
    refine k_then_x ?_
    refine k_blk_x ?_
    refine k_then_n ?_
    refine c_seq ?_
    refine c_region ?_
    refine l_step (s_q rfl wn (q_move rfl) ?_)
    refine l_step (s_q rfl wn (q_assign rfl) ?_)
    refine l_nil ?_
    refine k_then_n ?_
    refine c_ret ?_
    have hr : (crR keep (vw T)) = (vw x.d.2.1, x.d.2.2) := by unfold crR; rw [vw_keys, vw_len, hx3, hk]
    exact t_ret [.pts b (encDisk1 (⟨room, (some mb), (-1)⟩ : Disk1)) 62, MP strB ptV mb (fm x.d.2.1), FB 66 5 x.d.2.1] rfl (.tmp rfl .nil) rfl (Hp.le_refl _) ⟨rfl, x.d.2.1, by rw [hr]; rfl, by rw [hr], rfl⟩ (by repeat (first | exact Ent.nil _ | exact Ent.refl _ | (refine Ent.pick (by repeat (first | exact Pick.here | apply Pick.there)) ?_) | refine Ent.skip ?_))
end Go.Dsk.V

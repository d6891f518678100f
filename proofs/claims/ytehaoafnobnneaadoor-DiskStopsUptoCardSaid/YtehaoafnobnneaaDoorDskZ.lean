/-
  Package disk, walked.
-/
import Derived.Test.YtehaoafnobnneaaDoorDskX
import Derived.Test.YtehaoafnobnneaaDoorDskL
import Derived.Test.YtehaoafnobnneaaDoorProg
set_option maxRecDepth 100000
set_option maxHeartbeats 4000000
set_option linter.unusedSimpArgs false
set_option linter.unusedVariables false
namespace Go.Dsk.Z
open Go Go.SL Go.Proofs Go.Dsk Go.Dsk.L Go.Dsk.X
attribute [local irreducible] Go.SL.Ent
theorem fo_62_1 : fieldOff Tryd.prog 62 1 = some (1, 60) := by kernel_rfl
theorem fo_66_0 : fieldOff Tryd.prog 66 0 = some (0, 32) := by kernel_rfl
theorem fo_66_1 : fieldOff Tryd.prog 66 1 = some (1, 3) := by kernel_rfl
theorem sc_3 : isScalar Tryd.prog 3 = true := by kernel_rfl
theorem sc_32 : isScalar Tryd.prog 32 = true := by kernel_rfl
theorem sc_60 : isScalar Tryd.prog 60 = true := by kernel_rfl
theorem sc_9 : isScalar Tryd.prog 9 = true := by kernel_rfl
theorem sz_3 : sizeIs Tryd.prog 3 = some 1 := by kernel_rfl
theorem sz_32 : sizeIs Tryd.prog 32 = some 1 := by kernel_rfl
theorem sz_5 : sizeIs Tryd.prog 5 = some 1 := by kernel_rfl
theorem sz_9 : sizeIs Tryd.prog 9 = some 1 := by kernel_rfl
theorem zi_64 : (Tryd.prog.info? 64).bind (·.zero) = some (ptV none) := by kernel_rfl

theorem cut_spec (b : Nat) (room : Int) (mb : Nat) (calls : Int) (T : FT) (name : (List UInt8)) (n : Int) (ρ : Hp) (hT : FOk T) (hc : calls ≤ 9223372036854775807) : Spec0 Tryd.prog 15 #[.pointer (some ⟨b, 0, none⟩), (strB name), .int .i64 n] ρ [.pts b (encDisk1 (⟨room, (some mb), calls⟩ : Disk1)) 62, MP strB ptV mb (fm T), FB 66 5 T] (fun v Γ' => ∃ T', v = .int .i64 (cutR calls (vw T) name n).1 ∧ vw T' = (cutR calls (vw T) name n).2 ∧ Γ' = [.pts b (encDisk1 (⟨room, (some mb), (decC calls)⟩ : Disk1)) 62, MP strB ptV mb (fm T'), FB 66 5 T']) := by
  refine spec_of (n := 50) (vs := [_, _, _]) (σ := [(0, _), (1, _), (2, _)]) Tryd.func15 rfl rfl rfl rfl fun E Δ => ?_
  simp only [List.cons_append, List.nil_append]
  refine c_seq ?_
  refine c_region ?_
  refine l_step (s_q rfl wn (q_assign rfl) ?_)
  refine l_nil ?_
  refine k_then_n ?_
  refine c_seq ?_
  refine c_region ?_
  refine l_step (s_q rfl wn (q_move rfl) ?_)
  refine l_step (s_q rfl wn (q_nilCheck rfl) ?_)
  refine l_step (s_q rfl wn (q_fieldp rfl fo_62_1) ?_)
  refine l_step (s_q rfl wn (q_loadp (v := .map (some mb)) sc_60 rfl (by repeat (first | exact Pick.here | apply Pick.there)) rfl) ?_)
  refine l_step (s_q rfl wn (q_move rfl) ?_)
  refine l_step (s_q rfl wn (q_look (v := (ptV (mgetD (fm T) name none))) (ek := strB) (ev := ptV) (k := name) (zv := none) Tryd.underlying60 (mkey_str Tryd.underlying9) zi_64 rfl rfl (by repeat (first | exact Pick.here | apply Pick.there)) rfl) ?_)
  refine l_step (s_q rfl wn (q_assign rfl) ?_)
  refine l_nil ?_
  refine k_then_n ?_
  refine c_seq ?_
  refine c_block ?_
  refine c_seq ?_
  refine c_region ?_
  refine l_step (s_q rfl wn (q_move rfl) ?_)
  refine l_step (s_fnb rfl wn Tryd.func31 rfl (by kernel_rfl) rfl (by repeat (first | exact Sel.nil | exact Pick.here | apply Sel.cons | apply Pick.there)) (fun ρ' hL => stopped_spec b room mb calls T ρ' (by first | assumption | omega)) ?_)
  rintro _ _ ⟨rfl, rfl⟩
  try simp only [List.cons_append, List.nil_append]
  refine l_step (s_q rfl wn (q_assign rfl) ?_)
  refine l_nil ?_
  refine k_then_n ?_
  refine c_cond rfl (fun h0 => ?_) (fun h0 => ?_)
  · try simp only [Bool.and_eq_true, Bool.or_eq_true, Bool.not_eq_true', Bool.and_eq_false_iff, Bool.or_eq_false_iff, Bool.not_eq_false', decide_eq_true_eq, decide_eq_false_iff_not, Bool.not_eq_eq_eq_not, Bool.not_true, Bool.not_false, Bool.not_eq_true, Bool.not_eq_false, beq_iff_eq, bne_iff_ne, ne_eq, Decidable.not_not] at h0
    refine c_seq ?_
    refine c_region ?_
    refine l_step (s_q rfl wn (q_assign rfl) ?_)
    refine l_nil ?_
    refine k_then_n ?_
    refine c_ret ?_
    refine k_blk_r ?_
    refine k_then_r ?_
    have hr : (cutR calls (vw T) name n) = (32, vw T) := if_pos h0
    exact t_ret [.pts b (encDisk1 (⟨room, (some mb), (decC calls)⟩ : Disk1)) 62, MP strB ptV mb (fm T), FB 66 5 T] rfl (.tmp rfl .nil) rfl (Hp.le_refl _) ⟨rfl, T, by rw [hr]; rfl, by rw [hr], rfl⟩ (by repeat (first | exact Ent.nil _ | exact Ent.refl _ | (refine Ent.pick (by repeat (first | exact Pick.here | apply Pick.there)) ?_) | refine Ent.skip ?_))
  · try simp only [Bool.and_eq_true, Bool.or_eq_true, Bool.not_eq_true', Bool.and_eq_false_iff, Bool.or_eq_false_iff, Bool.not_eq_false', decide_eq_true_eq, decide_eq_false_iff_not, Bool.not_eq_eq_eq_not, Bool.not_true, Bool.not_false, Bool.not_eq_true, Bool.not_eq_false, beq_iff_eq, bne_iff_ne, ne_eq, Decidable.not_not] at h0
    refine c_seq ?_
    refine c_region ?_
    refine l_step (s_q rfl wn (q_move rfl) ?_)
    refine l_step (s_q rfl wn (q_eqlo (e := (mgetD (fm T) name none)) rfl rfl Tryd.underlying64) ?_)
    refine l_step (s_q rfl wn (q_assign rfl) ?_)
    refine l_nil ?_
    refine k_then_n ?_
    refine c_cond rfl (fun h1 => ?_) (fun h1 => ?_)
    · skip
      refine c_seq ?_
      refine c_region ?_
      refine l_step (s_q rfl wn (q_assign rfl) ?_)
      refine l_nil ?_
      refine k_then_n ?_
      refine c_ret ?_
      refine k_blk_r ?_
      refine k_then_r ?_
      have hr : (cutR calls (vw T) name n) = (30, vw T) := by unfold cutR; rw [if_neg h0, if_pos (has_no (opt_none h1))]
      exact t_ret [.pts b (encDisk1 (⟨room, (some mb), (decC calls)⟩ : Disk1)) 62, MP strB ptV mb (fm T), FB 66 5 T] rfl (.tmp rfl .nil) rfl (Hp.le_refl _) ⟨rfl, T, by rw [hr]; rfl, by rw [hr], rfl⟩ (by repeat (first | exact Ent.nil _ | exact Ent.refl _ | (refine Ent.pick (by repeat (first | exact Pick.here | apply Pick.there)) ?_) | refine Ent.skip ?_))
    · skip
      obtain ⟨j, e, hjl, hj, hnm, hmg, hvg⟩ := look_some (opt_some h1)
      rw [hmg]
      refine Tr.ent (file_open (t := 66) (tb := 5) hj (by repeat (first | exact Pick.here | apply Pick.there))) ?_
      have hua := hT.at_ hj
      refine t_rd (Γ := _) (rd_row (a := e.a) (cap := e.cap) (by repeat (first | exact Pick.here | apply Pick.there))) fun _ hcp _ _ => ?_
      refine c_seq ?_
      refine c_region ?_
      refine l_step (s_q rfl wn (q_move rfl) ?_)
      refine l_step (s_q rfl wn (q_lss rfl rfl) ?_)
      refine l_step (s_q rfl wn (q_move rfl) ?_)
      refine l_step (s_qg rfl (ask_f rfl rfl) (b := (!(decide (n < 0)))) (fun hb => q_move rfl) ?_)
      refine l_step (s_qg rfl (ask_f rfl rfl) (b := (!(decide (n < 0)))) (fun hb => q_move rfl) ?_)
      refine l_step (s_qg rfl (ask_f rfl rfl) (b := (!(decide (n < 0)))) (fun hb => OpQ.env (.cons rfl (gd_t hb) (.nil _) : EnvLe [(25, .pointer (some ⟨e.blk, 0, none⟩))] _) (q_nilCheck rfl)) ?_)
      refine l_step (s_qg rfl (ask_f rfl rfl) (b := (!(decide (n < 0)))) (fun hb => OpQ.env (.cons rfl (gd_t hb) (.nil _) : EnvLe [(26, .pointer (some ⟨e.blk, 0, none⟩))] _) (q_fieldp rfl fo_66_0)) ?_)
      refine l_step (s_qg rfl (ask_f rfl rfl) (b := (!(decide (n < 0)))) (fun hb => OpQ.env (.cons rfl (gd_t hb) (.nil _) : EnvLe [(27, .pointer (some ⟨e.blk, 0, none⟩))] _) (q_loadp (v := .slice e.a e.xs.length e.cap) sc_32 rfl (by repeat (first | exact Pick.here | apply Pick.there)) rfl)) ?_)
      refine l_step (s_qg rfl (ask_f rfl rfl) (b := (!(decide (n < 0)))) (fun hb => OpQ.env (.cons rfl (gd_t hb) (.nil _) : EnvLe [(28, .slice e.a e.xs.length e.cap)] _) (q_len Tryd.underlying32 rfl)) ?_)
      refine l_step (s_qg rfl (ask_f rfl rfl) (b := (!(decide (n < 0)))) (fun hb => OpQ.env (.cons rfl (gd_t hb) (.cons rfl (gd_t hb) (.nil _)) : EnvLe [(24, .int .i64 n), (29, .int .i64 (e.xs.length : Int))] _) (q_gtr rfl rfl)) ?_)
      refine l_step (s_q rfl wn (q_pick_or rfl rfl rfl (fun h => by first | (rw [h]; rfl) | exact congrArg not h)) ?_)
      refine l_step (s_q rfl wn (q_assign rfl) ?_)
      refine l_nil ?_
      refine k_then_n ?_
      refine c_cond rfl (fun h2 => ?_) (fun h2 => ?_)
      · try simp only [Bool.and_eq_true, Bool.or_eq_true, Bool.not_eq_true', Bool.and_eq_false_iff, Bool.or_eq_false_iff, Bool.not_eq_false', decide_eq_true_eq, decide_eq_false_iff_not, Bool.not_eq_eq_eq_not, Bool.not_true, Bool.not_false, Bool.not_eq_true, Bool.not_eq_false, beq_iff_eq, bne_iff_ne, ne_eq, Decidable.not_not] at h2
        refine c_seq ?_
        refine c_region ?_
        refine l_step (s_q rfl wn (q_assign rfl) ?_)
        refine l_nil ?_
        refine k_then_n ?_
        refine c_ret ?_
        refine k_blk_r ?_
        refine k_then_r ?_
        refine Tr.ent (Ent.trans (Ent.pick (A := .pts e.blk (encFile1 (⟨⟨e.a, e.xs.length, e.cap⟩, e.safe⟩ : File1)) 66) (by repeat (first | exact Pick.here | apply Pick.there)) (Ent.pick (A := .row 5 1 e.a e.xs.length e.cap (e.xs.flatMap encB)) (by repeat (first | exact Pick.here | apply Pick.there)) (Ent.pick (A := Bun ((fL 66 5 T).eraseIdx j)) (by repeat (first | exact Pick.here | apply Pick.there)) (Ent.refl _)))) (file_same (t := 66) (tb := 5) hj)) ?_
        have hr : (cutR calls (vw T) name n) = (2, vw T) := by unfold cutR; rw [if_neg h0, if_neg (by rw [has_of hvg]; decide), getD_of hvg, if_pos (by simpa using h2)]
        exact t_ret [.pts b (encDisk1 (⟨room, (some mb), (decC calls)⟩ : Disk1)) 62, MP strB ptV mb (fm T), FB 66 5 T] rfl (.tmp rfl .nil) rfl (Hp.le_refl _) ⟨rfl, T, by rw [hr]; rfl, by rw [hr], rfl⟩ (by repeat (first | exact Ent.nil _ | exact Ent.refl _ | (refine Ent.pick (by repeat (first | exact Pick.here | apply Pick.there)) ?_) | refine Ent.skip ?_))
      · try simp only [Bool.and_eq_true, Bool.or_eq_true, Bool.not_eq_true', Bool.and_eq_false_iff, Bool.or_eq_false_iff, Bool.not_eq_false', decide_eq_true_eq, decide_eq_false_iff_not, Bool.not_eq_eq_eq_not, Bool.not_true, Bool.not_false, Bool.not_eq_true, Bool.not_eq_false, beq_iff_eq, bne_iff_ne, ne_eq, Decidable.not_not] at h2
        refine c_skip ?_
        refine k_blk_n ?_
        refine k_then_n ?_
        refine c_seq ?_
        refine c_region ?_
        refine l_step (s_q rfl wn (q_move rfl) ?_)
        refine l_step (s_q rfl wn (q_move rfl) ?_)
        refine l_step (s_q rfl wn (q_nilCheck rfl) ?_)
        refine l_step (s_q rfl wn (q_fieldp rfl fo_66_0) ?_)
        refine l_step (s_q rfl wn (q_loadp (v := .slice e.a e.xs.length e.cap) sc_32 rfl (by repeat (first | exact Pick.here | apply Pick.there)) rfl) ?_)
        refine l_step (s_q rfl wn (q_move rfl) ?_)
        refine l_step (s_q rfl wn (q_cut_hi Tryd.underlying32 sz_5 rfl rfl (by omega) (by omega)) ?_)
        refine l_step (s_q rfl wn (q_nilCheck rfl) ?_)
        refine l_step (s_q rfl wn (q_fieldp rfl fo_66_0) ?_)
        refine Tr.ent (Ent.trans (Ent.pick (A := .row 5 1 e.a e.xs.length e.cap (e.xs.flatMap encB)) (by repeat (first | exact Pick.here | apply Pick.there)) (Ent.refl _)) (row_cut (enc := encB) (sz := 1) (n := e.xs.length) (fun _ => rfl) (n).toNat (by omega))) ?_
        refine l_step (s_s0 wn (s_storep (ws := [.slice e.a ((n).toNat) e.cap]) (cs := encFile1 (⟨⟨e.a, e.xs.length, e.cap⟩, e.safe⟩ : File1)) (cs' := encFile1 (⟨⟨e.a, (n).toNat, e.cap⟩, e.safe⟩ : File1)) rfl rfl rfl sz_32 (by simp [Value.oneCell', strB, ptV, SL.v, SH.v]) (by simp [encFile1]) rfl (by repeat (first | exact Pick.here | apply Pick.there))) ?_)
        rintro _ _ ⟨rfl, rfl⟩
        refine l_nil ?_
        refine k_then_n ?_
        refine c_seq ?_
        refine c_region ?_
        refine l_step (s_q rfl wn (q_move rfl) ?_)
        refine l_step (s_q rfl wn (q_move rfl) ?_)
        refine l_step (s_q rfl wn (q_nilCheck rfl) ?_)
        refine l_step (s_q rfl wn (q_fieldp rfl fo_66_1) ?_)
        refine l_step (s_q rfl wn (q_loadp (v := .int .i64 e.safe) sc_3 rfl (by repeat (first | exact Pick.here | apply Pick.there)) rfl) ?_)
        refine l_step (s_q rfl wn (q_move rfl) ?_)
        refine l_step (s_q rfl wn (q_min2 rfl rfl) ?_)
        refine l_step (s_q rfl wn (q_nilCheck rfl) ?_)
        refine l_step (s_q rfl wn (q_fieldp rfl fo_66_1) ?_)
        refine l_step (s_s0 wn (s_storep (ws := [.int .i64 (if n < e.safe then n else e.safe)]) (cs := encFile1 (⟨⟨e.a, (n).toNat, e.cap⟩, e.safe⟩ : File1)) (cs' := encFile1 (⟨⟨e.a, (n).toNat, e.cap⟩, (if n < e.safe then n else e.safe)⟩ : File1)) rfl rfl rfl sz_3 (by simp [Value.oneCell', strB, ptV, SL.v, SH.v]) (by simp [encFile1]) rfl (by repeat (first | exact Pick.here | apply Pick.there))) ?_)
        rintro _ _ ⟨rfl, rfl⟩
        refine l_nil ?_
        refine k_then_n ?_
        refine c_seq ?_
        refine c_region ?_
        refine l_step (s_q rfl wn (q_assign rfl) ?_)
        refine l_nil ?_
        refine k_then_n ?_
        refine c_ret ?_
        have hk9 : (n).toNat = (e.xs.take (n).toNat).length := by rw [List.length_take]; omega
        rw [show (if n < e.safe then n else e.safe) = mnI e.safe n from rfl]
        have hr : (cutR calls (vw T) name n) = (0, vw (T.set j ⟨e.name, e.blk, e.a, e.cap, e.xs.take (n).toNat, mnI e.safe n⟩)) := by unfold cutR; rw [if_neg h0, if_neg (by rw [has_of hvg]; decide), getD_of hvg, if_neg (by simp; omega), vw_set (e' := ⟨e.name, e.blk, e.a, e.cap, e.xs.take (n).toNat, mnI e.safe n⟩) hT.nd hj rfl, hnm]
        rw [← fm_set (e' := ⟨e.name, e.blk, e.a, e.cap, e.xs.take (n).toNat, mnI e.safe n⟩) hj rfl rfl]
        refine Tr.ent (Γ' := .row 5 1 e.a ((e.xs.take (n).toNat).length) e.cap ((e.xs.take (n).toNat).flatMap encB) :: .pts e.blk (encFile1 (⟨⟨e.a, (e.xs.take (n).toNat).length, e.cap⟩, mnI e.safe n⟩ : File1)) 66 :: Bun ((fL 66 5 T).eraseIdx j) :: .pts b (encDisk1 (⟨room, (some mb), (decC calls)⟩ : Disk1)) 62 :: MP strB ptV mb (fm (T.set j ⟨e.name, e.blk, e.a, e.cap, e.xs.take (n).toNat, mnI e.safe n⟩)) :: Δ) (Ent.cast (by rw [← hk9]; rfl)) ?_
        refine Tr.ent (Ent.trans (Ent.pick (A := .pts e.blk (encFile1 (⟨⟨e.a, (e.xs.take (n).toNat).length, e.cap⟩, mnI e.safe n⟩ : File1)) 66) (by repeat (first | exact Pick.here | apply Pick.there)) (Ent.pick (A := .row 5 1 e.a ((e.xs.take (n).toNat).length) e.cap ((e.xs.take (n).toNat).flatMap encB)) (by repeat (first | exact Pick.here | apply Pick.there)) (Ent.pick (A := Bun ((fL 66 5 T).eraseIdx j)) (by repeat (first | exact Pick.here | apply Pick.there)) (Ent.refl _)))) (file_shut (t := 66) (tb := 5) ⟨e.name, e.blk, e.a, e.cap, e.xs.take (n).toNat, mnI e.safe n⟩ hj)) ?_
        exact t_ret [.pts b (encDisk1 (⟨room, (some mb), (decC calls)⟩ : Disk1)) 62, MP strB ptV mb (fm (T.set j ⟨e.name, e.blk, e.a, e.cap, e.xs.take (n).toNat, mnI e.safe n⟩)), FB 66 5 (T.set j ⟨e.name, e.blk, e.a, e.cap, e.xs.take (n).toNat, mnI e.safe n⟩)] rfl (.tmp rfl .nil) rfl (Hp.le_refl _) ⟨rfl, (T.set j ⟨e.name, e.blk, e.a, e.cap, e.xs.take (n).toNat, mnI e.safe n⟩), by rw [hr]; rfl, by rw [hr], rfl⟩ (by repeat (first | exact Ent.nil _ | exact Ent.refl _ | (refine Ent.pick (by repeat (first | exact Pick.here | apply Pick.there)) ?_) | refine Ent.skip ?_))

theorem sync_spec (b : Nat) (room : Int) (mb : Nat) (calls : Int) (T : FT) (names_a : Option Addr) (names_n names_c : Nat) (names : List (List UInt8)) (hnames_n : names.length = names_n) (ρ : Hp) (hT : FOk T) (hc : calls ≤ 9223372036854775807) (hro : Ro ρ 1 names_a names_n names_c (names.flatMap Go.SL.encStr)) : Spec0 Tryd.prog 14 #[.pointer (some ⟨b, 0, none⟩), .slice names_a names_n names_c] ρ [.pts b (encDisk1 (⟨room, (some mb), calls⟩ : Disk1)) 62, MP strB ptV mb (fm T), FB 66 5 T] (fun v Γ' => ∃ T', v = .int .i64 (syncR calls (vw T) names).1 ∧ vw T' = (syncR calls (vw T) names).2 ∧ Γ' = [.pts b (encDisk1 (⟨room, (some mb), (decC calls)⟩ : Disk1)) 62, MP strB ptV mb (fm T'), FB 66 5 T']) := by
  refine spec_of (n := 38) (vs := [_, _]) (σ := [(0, _), (1, _)]) Tryd.func14 rfl rfl rfl rfl fun E Δ => ?_
  simp only [List.cons_append, List.nil_append]
  have hrob : names_n ≤ 9223372036854775807 := Nat.le_trans hro.2.1 hro.2.2.1
  refine c_seq ?_
  refine c_region ?_
  refine l_step (s_q rfl wn (q_assign rfl) ?_)
  refine l_nil ?_
  refine k_then_n ?_
  refine c_seq ?_
  refine c_seq ?_
  refine c_region ?_
  refine l_step (s_q rfl wn (q_move rfl) ?_)
  refine l_step (s_fnb rfl wn Tryd.func31 rfl (by kernel_rfl) rfl (by repeat (first | exact Sel.nil | exact Pick.here | apply Sel.cons | apply Pick.there)) (fun ρ' hL => stopped_spec b room mb calls T ρ' (by first | assumption | omega)) ?_)
  rintro _ _ ⟨rfl, rfl⟩
  try simp only [List.cons_append, List.nil_append]
  refine l_nil ?_
  refine k_then_n ?_
  refine c_cond rfl (fun h0 => ?_) (fun h0 => ?_)
  · try simp only [Bool.and_eq_true, Bool.or_eq_true, Bool.not_eq_true', Bool.and_eq_false_iff, Bool.or_eq_false_iff, Bool.not_eq_false', decide_eq_true_eq, decide_eq_false_iff_not, Bool.not_eq_eq_eq_not, Bool.not_true, Bool.not_false, Bool.not_eq_true, Bool.not_eq_false, beq_iff_eq, bne_iff_ne, ne_eq, Decidable.not_not] at h0
    refine c_seq ?_
    refine c_region ?_
    refine l_step (s_q rfl wn (q_assign rfl) ?_)
    refine l_nil ?_
    refine k_then_n ?_
    refine c_ret ?_
    refine k_then_r ?_
    have hr : (syncR calls (vw T) names) = (32, vw T) := if_pos h0
    exact t_ret [.pts b (encDisk1 (⟨room, (some mb), (decC calls)⟩ : Disk1)) 62, MP strB ptV mb (fm T), FB 66 5 T] rfl (.tmp rfl .nil) rfl (Hp.le_refl _) ⟨rfl, T, by rw [hr]; rfl, by rw [hr], rfl⟩ (by repeat (first | exact Ent.nil _ | exact Ent.refl _ | (refine Ent.pick (by repeat (first | exact Pick.here | apply Pick.there)) ?_) | refine Ent.skip ?_))
  · try simp only [Bool.and_eq_true, Bool.or_eq_true, Bool.not_eq_true', Bool.and_eq_false_iff, Bool.or_eq_false_iff, Bool.not_eq_false', decide_eq_true_eq, decide_eq_false_iff_not, Bool.not_eq_eq_eq_not, Bool.not_true, Bool.not_false, Bool.not_eq_true, Bool.not_eq_false, beq_iff_eq, bne_iff_ne, ne_eq, Decidable.not_not] at h0
    refine c_skip ?_
    refine k_then_n ?_
    refine c_seq ?_
    refine c_seq ?_
    refine c_region ?_
    refine l_step (s_q rfl wn (q_move rfl) ?_)
    refine l_step (s_q rfl wn (q_move rfl) ?_)
    refine l_step (s_fnr rfl wn Tryd.func32 rfl (by kernel_rfl) rfl (by repeat (first | exact Sel.nil | exact Pick.here | apply Sel.cons | apply Pick.there)) (fun ρ' hL => there_spec b room mb (decC calls) T names_a names_n names_c names (by first | rfl | assumption | (simp; done) | (simp <;> omega) | omega) ρ' (by first | exact hL.ro (by assumption) | exact hL.row (by repeat (first | exact Pick.here | apply Pick.there)) | assumption)) ?_)
    refine l_step (s_q rfl wn (q_not rfl) ?_)
    refine l_nil ?_
    refine k_then_n ?_
    refine c_cond rfl (fun h1 => ?_) (fun h1 => ?_)
    · skip
      have hth : names.all (mhas (vw T)) = false := by simpa using h1
      refine c_seq ?_
      refine c_region ?_
      refine l_step (s_q rfl wn (q_assign rfl) ?_)
      refine l_nil ?_
      refine k_then_n ?_
      refine c_ret ?_
      refine k_then_r ?_
      have hr : (syncR calls (vw T) names) = (30, vw T) := by unfold syncR; rw [if_neg h0, if_pos hth]
      exact t_ret [.pts b (encDisk1 (⟨room, (some mb), (decC calls)⟩ : Disk1)) 62, MP strB ptV mb (fm T), FB 66 5 T] rfl (.tmp rfl .nil) rfl (Hp.le_refl _) ⟨rfl, T, by rw [hr]; rfl, by rw [hr], rfl⟩ (by repeat (first | exact Ent.nil _ | exact Ent.refl _ | (refine Ent.pick (by repeat (first | exact Pick.here | apply Pick.there)) ?_) | refine Ent.skip ?_))
    · skip
      have hth : names.all (mhas (vw T)) = true := by simpa using h1
      refine c_skip ?_
      refine k_then_n ?_
      refine c_seq ?_
      refine c_seq ?_
      refine c_region ?_
      refine l_step (s_q rfl wn (q_move rfl) ?_)
      refine l_step (s_q rfl wn (q_len Tryd.underlying41 rfl) ?_)
      refine l_step (s_q rfl wn (q_move rfl) ?_)
      refine l_nil ?_
      refine k_then_n ?_
      refine c_block ?_
      refine Tr.env (σ' := [(0, _), (4, _), (13, _), (14, _), (15, _)]) (.cons rfl rfl (.cons rfl rfl (.cons rfl rfl (.cons rfl rfl (.cons rfl rfl (.nil _)))))) ?_
      refine t_loop (ι := Lp (Nat × FT)) (fun x => x.d.1 ≤ names_n ∧ fm x.d.2 = fm T ∧ vw x.d.2 = ((names.take x.d.1).foldl syncStep (vw T))) (fun x => names_n - x.d.1) (fun x => [(0, .pointer (some ⟨b, 0, none⟩)), (4, .int .i64 0), (13, .slice names_a names_n names_c), (14, .int .i64 (names_n : Int)), (15, .int .i64 (x.d.1 : Int))]) (fun x => .pts b (encDisk1 (⟨room, (some mb), (decC calls)⟩ : Disk1)) 62 :: MP strB ptV mb (fm T) :: FB 66 5 x.d.2 :: Δ) (⟨(0, T), none, 0, none, 0, none, 0⟩ : Lp _) ⟨Nat.zero_le _, rfl, rfl⟩ ?_ ?_ ?_
      · exact .cons rfl (by first | rfl | exact inte (by omega) | (simp; done) | (simp <;> omega) | simp [*]) (.cons rfl (by first | rfl | exact inte (by omega) | (simp; done) | (simp <;> omega) | simp [*]) (.cons rfl (by first | rfl | exact inte (by omega) | (simp; done) | (simp <;> omega) | simp [*]) (.cons rfl (by first | rfl | exact inte (by omega) | (simp; done) | (simp <;> omega) | simp [*]) (.cons rfl (by first | rfl | exact inte (by omega) | (simp; done) | (simp <;> omega) | simp [*]) (.nil _)))))
      · exact (by repeat (first | exact Ent.nil _ | exact Ent.refl _ | (refine Ent.pick (by repeat (first | exact Pick.here | apply Pick.there)) ?_) | refine Ent.skip ?_))
      intro x hx
      obtain ⟨hx1, hx2, hx3⟩ := hx
      refine c_seq ?_
      refine c_region ?_
      refine l_step (s_q rfl wn (q_lss rfl rfl) ?_)
      refine l_nil ?_
      refine k_then_n ?_
      refine c_seq ?_
      refine c_cond rfl (fun h2 => ?_) (fun h2 => ?_)
      · try simp only [Bool.and_eq_true, Bool.or_eq_true, Bool.not_eq_true', Bool.and_eq_false_iff, Bool.or_eq_false_iff, Bool.not_eq_false', decide_eq_true_eq, decide_eq_false_iff_not, Bool.not_eq_eq_eq_not, Bool.not_true, Bool.not_false, Bool.not_eq_true, Bool.not_eq_false, beq_iff_eq, bne_iff_ne, ne_eq, Decidable.not_not] at h2
        have hxm : mhas (vw x.d.2) (names.getD x.d.1 default) = true := by rw [has_same (T := T) (hf := hx2)]; exact (List.all_eq_true.1 hth) _ (getD_in (by omega))
        obtain ⟨j, e, hjl, hj, hnm, hmg, hvg⟩ := look_some (look_has hxm)
        refine c_skip ?_
        refine k_then_n ?_
        refine c_seq ?_
        refine c_block ?_
        refine c_seq ?_
        refine c_region ?_
        rw [← hx2]
        refine Tr.ent (file_open (t := 66) (tb := 5) hj (by repeat (first | exact Pick.here | apply Pick.there))) ?_
        refine l_step (s_q rfl wn (q_indexe x.d.1 Tryd.underlying41 sz_9 rfl rfl (by first | assumption | exact rd_ro (by assumption) | exact rd_bun (L := (fL 66 5 x.d.2).eraseIdx j) (by repeat (first | exact Pick.here | apply Pick.there)) (in_map _ (by first | assumption | omega | (simp only [List.length_cons, List.length_nil]; omega) | decide) rfl) | exact rd_row (by repeat (first | exact Pick.here | apply Pick.there))) (by decide) rfl (by first | assumption | omega | (simp only [List.length_cons, List.length_nil]; omega))) ?_)
        refine l_step (s_q rfl wn (q_loade (enc := Go.SL.encStr) (xs := names) (j := x.d.1) (off := 0) sc_9 rfl (by first | assumption | exact rd_ro (by assumption) | exact rd_bun (L := (fL 66 5 x.d.2).eraseIdx j) (by repeat (first | exact Pick.here | apply Pick.there)) (in_map _ (by first | assumption | omega | (simp only [List.length_cons, List.length_nil]; omega) | decide) rfl) | exact rd_row (by repeat (first | exact Pick.here | apply Pick.there))) (fun _ => rfl) (by first | assumption | omega | (simp only [List.length_cons, List.length_nil]; omega)) (by decide) rfl) ?_)
        refine l_step (s_q rfl wn (q_assign rfl) ?_)
        refine l_nil ?_
        refine k_then_n ?_
        refine c_draw (m := 19) (bs := #[false, false, false, false, false, false, false, false, false, false, false, false, false, false, false, false, false, false, false]) [.row 5 1 e.a e.xs.length e.cap (e.xs.flatMap encB), Bun ((fL 66 5 x.d.2).eraseIdx j), .pts b (encDisk1 (⟨room, (some mb), (decC calls)⟩ : Disk1)) 62, MP strB ptV mb (fm x.d.2)] (by kernel_rfl) rfl (by kernel_rfl) ?_
        refine r_take (i := 0) (bs' := #[true, false, false, false, false, false, false, false, false, false, false, false, false, false, false, false, false, false, false]) rfl (by kernel_rfl) (by kernel_rfl) (by kernel_rfl) (fun _ _ _ h => h) rfl wn (q_move rfl) (Hp.le_refl _) (by repeat (first | exact Ent.nil _ | exact Ent.refl _ | (refine Ent.pick (by repeat (first | exact Pick.here | apply Pick.there)) ?_) | refine Ent.skip ?_)) (by kernel_rfl) ?_
        refine r_take (i := 1) (bs' := #[true, true, false, false, false, false, false, false, false, false, false, false, false, false, false, false, false, false, false]) rfl (by kernel_rfl) (by kernel_rfl) (by kernel_rfl) (fun _ _ _ h => h) rfl wn (q_nilCheck rfl) (Hp.le_refl _) (by repeat (first | exact Ent.nil _ | exact Ent.refl _ | (refine Ent.pick (by repeat (first | exact Pick.here | apply Pick.there)) ?_) | refine Ent.skip ?_)) (by kernel_rfl) ?_
        refine r_take (i := 2) (bs' := #[true, true, true, false, false, false, false, false, false, false, false, false, false, false, false, false, false, false, false]) rfl (by kernel_rfl) (by kernel_rfl) (by kernel_rfl) (fun _ _ _ h => h) rfl wn (q_fieldp rfl fo_62_1) (Hp.le_refl _) (by repeat (first | exact Ent.nil _ | exact Ent.refl _ | (refine Ent.pick (by repeat (first | exact Pick.here | apply Pick.there)) ?_) | refine Ent.skip ?_)) (by kernel_rfl) ?_
        refine r_take (i := 3) (bs' := #[true, true, true, true, false, false, false, false, false, false, false, false, false, false, false, false, false, false, false]) rfl (by kernel_rfl) (by kernel_rfl) (by kernel_rfl) (fun _ _ _ h => h) rfl wn (q_loadp (v := .map (some mb)) sc_60 rfl (by repeat (first | exact Pick.here | apply Pick.there)) rfl) (Hp.le_refl _) (by repeat (first | exact Ent.nil _ | exact Ent.refl _ | (refine Ent.pick (by repeat (first | exact Pick.here | apply Pick.there)) ?_) | refine Ent.skip ?_)) (by kernel_rfl) ?_
        refine r_take (i := 4) (bs' := #[true, true, true, true, true, false, false, false, false, false, false, false, false, false, false, false, false, false, false]) rfl (by kernel_rfl) (by kernel_rfl) (by kernel_rfl) (fun _ _ _ h => h) rfl wn (q_move rfl) (Hp.le_refl _) (by repeat (first | exact Ent.nil _ | exact Ent.refl _ | (refine Ent.pick (by repeat (first | exact Pick.here | apply Pick.there)) ?_) | refine Ent.skip ?_)) (by kernel_rfl) ?_
        refine r_take (i := 5) (bs' := #[true, true, true, true, true, true, false, false, false, false, false, false, false, false, false, false, false, false, false]) rfl (by kernel_rfl) (by kernel_rfl) (by kernel_rfl) (fun _ _ _ h => h) rfl wn (q_look (v := .pointer (some ⟨e.blk, 0, none⟩)) (ek := strB) (ev := ptV) (k := (names.getD x.d.1 default)) (zv := none) Tryd.underlying60 (mkey_str Tryd.underlying9) zi_64 rfl rfl (by repeat (first | exact Pick.here | apply Pick.there)) (by rw [hmg]; rfl)) (Hp.le_refl _) (by repeat (first | exact Ent.nil _ | exact Ent.refl _ | (refine Ent.pick (by repeat (first | exact Pick.here | apply Pick.there)) ?_) | refine Ent.skip ?_)) (by kernel_rfl) ?_
        refine r_take (i := 6) (bs' := #[true, true, true, true, true, true, true, false, false, false, false, false, false, false, false, false, false, false, false]) rfl (by kernel_rfl) (by kernel_rfl) (by kernel_rfl) (fun _ _ _ h => h) rfl wn (q_move rfl) (Hp.le_refl _) (by repeat (first | exact Ent.nil _ | exact Ent.refl _ | (refine Ent.pick (by repeat (first | exact Pick.here | apply Pick.there)) ?_) | refine Ent.skip ?_)) (by kernel_rfl) ?_
        refine r_take (i := 7) (bs' := #[true, true, true, true, true, true, true, true, false, false, false, false, false, false, false, false, false, false, false]) rfl (by kernel_rfl) (by kernel_rfl) (by kernel_rfl) (fun _ _ _ h => h) rfl wn (q_nilCheck rfl) (Hp.le_refl _) (by repeat (first | exact Ent.nil _ | exact Ent.refl _ | (refine Ent.pick (by repeat (first | exact Pick.here | apply Pick.there)) ?_) | refine Ent.skip ?_)) (by kernel_rfl) ?_
        refine r_take (i := 8) (bs' := #[true, true, true, true, true, true, true, true, true, false, false, false, false, false, false, false, false, false, false]) rfl (by kernel_rfl) (by kernel_rfl) (by kernel_rfl) (fun _ _ _ h => h) rfl wn (q_fieldp rfl fo_62_1) (Hp.le_refl _) (by repeat (first | exact Ent.nil _ | exact Ent.refl _ | (refine Ent.pick (by repeat (first | exact Pick.here | apply Pick.there)) ?_) | refine Ent.skip ?_)) (by kernel_rfl) ?_
        refine r_take (i := 9) (bs' := #[true, true, true, true, true, true, true, true, true, true, false, false, false, false, false, false, false, false, false]) rfl (by kernel_rfl) (by kernel_rfl) (by kernel_rfl) (fun _ _ _ h => h) rfl wn (q_loadp (v := .map (some mb)) sc_60 rfl (by repeat (first | exact Pick.here | apply Pick.there)) rfl) (Hp.le_refl _) (by repeat (first | exact Ent.nil _ | exact Ent.refl _ | (refine Ent.pick (by repeat (first | exact Pick.here | apply Pick.there)) ?_) | refine Ent.skip ?_)) (by kernel_rfl) ?_
        refine r_take (i := 10) (bs' := #[true, true, true, true, true, true, true, true, true, true, true, false, false, false, false, false, false, false, false]) rfl (by kernel_rfl) (by kernel_rfl) (by kernel_rfl) (fun _ _ _ h => h) rfl wn (q_move rfl) (Hp.le_refl _) (by repeat (first | exact Ent.nil _ | exact Ent.refl _ | (refine Ent.pick (by repeat (first | exact Pick.here | apply Pick.there)) ?_) | refine Ent.skip ?_)) (by kernel_rfl) ?_
        refine r_take (i := 11) (bs' := #[true, true, true, true, true, true, true, true, true, true, true, true, false, false, false, false, false, false, false]) rfl (by kernel_rfl) (by kernel_rfl) (by kernel_rfl) (fun _ _ _ h => h) rfl wn (q_look (v := .pointer (some ⟨e.blk, 0, none⟩)) (ek := strB) (ev := ptV) (k := (names.getD x.d.1 default)) (zv := none) Tryd.underlying60 (mkey_str Tryd.underlying9) zi_64 rfl rfl (by repeat (first | exact Pick.here | apply Pick.there)) (by rw [hmg]; rfl)) (Hp.le_refl _) (by repeat (first | exact Ent.nil _ | exact Ent.refl _ | (refine Ent.pick (by repeat (first | exact Pick.here | apply Pick.there)) ?_) | refine Ent.skip ?_)) (by kernel_rfl) ?_
        refine r_take (i := 12) (bs' := #[true, true, true, true, true, true, true, true, true, true, true, true, true, false, false, false, false, false, false]) rfl (by kernel_rfl) (by kernel_rfl) (by kernel_rfl) (fun _ _ _ h => h) rfl wn (q_nilCheck rfl) (Hp.le_refl _) (by repeat (first | exact Ent.nil _ | exact Ent.refl _ | (refine Ent.pick (by repeat (first | exact Pick.here | apply Pick.there)) ?_) | refine Ent.skip ?_)) (by kernel_rfl) ?_
        refine r_take (i := 13) (bs' := #[true, true, true, true, true, true, true, true, true, true, true, true, true, true, false, false, false, false, false]) rfl (by kernel_rfl) (by kernel_rfl) (by kernel_rfl) (fun _ _ _ h => h) rfl wn (q_fieldp rfl fo_66_0) (Hp.le_refl _) (by repeat (first | exact Ent.nil _ | exact Ent.refl _ | (refine Ent.pick (by repeat (first | exact Pick.here | apply Pick.there)) ?_) | refine Ent.skip ?_)) (by kernel_rfl) ?_
        refine r_one (i := 14) (bs' := #[true, true, true, true, true, true, true, true, true, true, true, true, true, true, true, false, false, false, false]) (by kernel_rfl) (by kernel_rfl) ?_
        refine o_step rfl (s_q rfl wn (q_loadp (v := .slice e.a e.xs.length e.cap) sc_32 rfl (by repeat (first | exact Pick.here | apply Pick.there)) rfl) ?_)
        refine r_cont (Hp.le_refl _) (by repeat (first | exact Ent.nil _ | exact Ent.refl _ | (refine Ent.pick (by repeat (first | exact Pick.here | apply Pick.there)) ?_) | refine Ent.skip ?_)) ?_
        refine r_take (i := 15) (bs' := #[true, true, true, true, true, true, true, true, true, true, true, true, true, true, true, true, false, false, false]) rfl (by kernel_rfl) (by kernel_rfl) (by kernel_rfl) (fun _ _ _ h => h) rfl wn (q_len Tryd.underlying32 rfl) (Hp.le_refl _) (by repeat (first | exact Ent.nil _ | exact Ent.refl _ | (refine Ent.pick (by repeat (first | exact Pick.here | apply Pick.there)) ?_) | refine Ent.skip ?_)) (by kernel_rfl) ?_
        refine r_take (i := 16) (bs' := #[true, true, true, true, true, true, true, true, true, true, true, true, true, true, true, true, true, false, false]) rfl (by kernel_rfl) (by kernel_rfl) (by kernel_rfl) (fun _ _ _ h => h) rfl wn (q_nilCheck rfl) (Hp.le_refl _) (by repeat (first | exact Ent.nil _ | exact Ent.refl _ | (refine Ent.pick (by repeat (first | exact Pick.here | apply Pick.there)) ?_) | refine Ent.skip ?_)) (by kernel_rfl) ?_
        refine r_take (i := 17) (bs' := #[true, true, true, true, true, true, true, true, true, true, true, true, true, true, true, true, true, true, false]) rfl (by kernel_rfl) (by kernel_rfl) (by kernel_rfl) (fun _ _ _ h => h) rfl wn (q_fieldp rfl fo_66_1) (Hp.le_refl _) (by repeat (first | exact Ent.nil _ | exact Ent.refl _ | (refine Ent.pick (by repeat (first | exact Pick.here | apply Pick.there)) ?_) | refine Ent.skip ?_)) (by kernel_rfl) ?_
        refine r_one (i := 18) (bs' := #[true, true, true, true, true, true, true, true, true, true, true, true, true, true, true, true, true, true, true]) (by kernel_rfl) (by kernel_rfl) ?_
        refine o_step rfl (s_s0 wn (s_storep (ws := [.int .i64 (e.xs.length : Int)]) (cs := encFile1 (⟨⟨e.a, e.xs.length, e.cap⟩, e.safe⟩ : File1)) (cs' := encFile1 (⟨⟨e.a, e.xs.length, e.cap⟩, (e.xs.length : Int)⟩ : File1)) rfl rfl rfl sz_3 (by simp [Value.oneCell', strB, ptV, SL.v, SH.v]) (by simp [encFile1]) rfl (by repeat (first | exact Pick.here | apply Pick.there))) ?_)
        rintro _ _ ⟨rfl, rfl⟩
        refine r_cont (Hp.le_refl _) (by repeat (first | exact Ent.nil _ | exact Ent.refl _ | (refine Ent.pick (by repeat (first | exact Pick.here | apply Pick.there)) ?_) | refine Ent.skip ?_)) ?_
        refine r_done (by kernel_rfl) ?_
        refine k_blk_n ?_
        refine k_then_n ?_
        refine c_region ?_
        refine l_step (s_q rfl wn (q_add rfl rfl (by omega) (by omega)) ?_)
        refine l_step (s_q rfl wn (q_move rfl) ?_)
        refine l_nil ?_
        refine k_then_n ?_
        refine Tr.ent (Ent.trans (Ent.pick (A := .pts e.blk (encFile1 (⟨⟨e.a, e.xs.length, e.cap⟩, (e.xs.length : Int)⟩ : File1)) 66) (by repeat (first | exact Pick.here | apply Pick.there)) (Ent.pick (A := .row 5 1 e.a e.xs.length e.cap (e.xs.flatMap encB)) (by repeat (first | exact Pick.here | apply Pick.there)) (Ent.pick (A := Bun ((fL 66 5 x.d.2).eraseIdx j)) (by repeat (first | exact Pick.here | apply Pick.there)) (Ent.refl _)))) (file_shut (t := 66) (tb := 5) ⟨e.name, e.blk, e.a, e.cap, e.xs, (e.xs.length : Int)⟩ hj)) ?_
        have hnd : (x.d.2.map (·.name)).Nodup := by rw [← fm_keys, hx2, fm_keys]; exact hT.nd
        have hf9 : fm (x.d.2.set j ⟨e.name, e.blk, e.a, e.cap, e.xs, (e.xs.length : Int)⟩) = fm T := by rw [fm_set (e' := ⟨e.name, e.blk, e.a, e.cap, e.xs, (e.xs.length : Int)⟩) hj rfl rfl]; exact hx2
        have hv9 : vw (x.d.2.set j ⟨e.name, e.blk, e.a, e.cap, e.xs, (e.xs.length : Int)⟩) = ((names.take (x.d.1 + 1)).foldl syncStep (vw T)) := by rw [foldl_take _ _ _ _ (by omega), ← hx3, vw_set (e' := ⟨e.name, e.blk, e.a, e.cap, e.xs, (e.xs.length : Int)⟩) hnd hj rfl, hnm]; unfold syncStep; rw [getD_of hvg]
        rw [hx2]
        exact t_next (⟨(x.d.1 + 1, x.d.2.set j ⟨e.name, e.blk, e.a, e.cap, e.xs, (e.xs.length : Int)⟩), none, 0, none, 0, none, 0⟩ : Lp _) ⟨⟨by simp only []; omega, hf9, hv9⟩, by simp only []; omega⟩ (.cons rfl (by first | rfl | exact inte (by omega) | (simp; done) | (simp <;> omega) | simp [*]) (.cons rfl (by first | rfl | exact inte (by omega) | (simp; done) | (simp <;> omega) | simp [*]) (.cons rfl (by first | rfl | exact inte (by omega) | (simp; done) | (simp <;> omega) | simp [*]) (.cons rfl (by first | rfl | exact inte (by omega) | (simp; done) | (simp <;> omega) | simp [*]) (.cons rfl (by first | rfl | exact inte (by omega) | (simp; done) | (simp <;> omega) | simp [*]) (.nil _)))))) (by repeat (first | exact Ent.nil _ | exact Ent.refl _ | (refine Ent.pick (by repeat (first | exact Pick.here | apply Pick.there)) ?_) | refine Ent.skip ?_))
      · try simp only [Bool.and_eq_true, Bool.or_eq_true, Bool.not_eq_true', Bool.and_eq_false_iff, Bool.or_eq_false_iff, Bool.not_eq_false', decide_eq_true_eq, decide_eq_false_iff_not, Bool.not_eq_eq_eq_not, Bool.not_true, Bool.not_false, Bool.not_eq_true, Bool.not_eq_false, beq_iff_eq, bne_iff_ne, ne_eq, Decidable.not_not] at h2
        have hk : x.d.1 = names.length := by omega
        have hr : (syncR calls (vw T) names) = (0, vw x.d.2) := by unfold syncR; rw [if_neg h0, if_neg (by rw [hth]; decide), hx3, hk, List.take_length]
        rw [← hx2]
        refine c_exit ?_
        refine k_then_x ?_
        refine k_then_x ?_
        refine k_blk_x ?_
        refine k_then_n ?_
        refine c_seq ?_
        refine c_region ?_
        refine l_step (s_q rfl wn (q_assign rfl) ?_)
        refine l_nil ?_
        refine k_then_n ?_
        refine c_ret ?_
        exact t_ret [.pts b (encDisk1 (⟨room, (some mb), (decC calls)⟩ : Disk1)) 62, MP strB ptV mb (fm x.d.2), FB 66 5 x.d.2] rfl (.tmp rfl .nil) rfl (Hp.le_refl _) ⟨rfl, x.d.2, by rw [hr]; rfl, by rw [hr], rfl⟩ (by repeat (first | exact Ent.nil _ | exact Ent.refl _ | (refine Ent.pick (by repeat (first | exact Pick.here | apply Pick.there)) ?_) | refine Ent.skip ?_))
end Go.Dsk.Z

/-
  Package disk, walked.
-/
import Derived.Test.YtehaoafnobnneaaGreatDoorDskX
import Derived.Test.YtehaoafnobnneaaGreatDoorDskL
import Derived.Test.YtehaoafnobnneaaGreatDoorProg
import Derived.Test.YtehaoafnobnneaaGreatDoorSlSq
set_option maxRecDepth 100000
set_option maxHeartbeats 4000000
set_option linter.unusedSimpArgs false
set_option linter.unusedVariables false
namespace Go.Dsk.Z
open Go Go.SL Go.Proofs Go.Dsk Go.Dsk.L Go.Dsk.X
attribute [local irreducible] Go.SL.Ent
theorem fo_105_1 : fieldOff Tryz.prog 105 1 = some (1, 103) := by kernel_rfl
theorem fo_109_0 : fieldOff Tryz.prog 109 0 = some (0, 38) := by kernel_rfl
theorem fo_109_1 : fieldOff Tryz.prog 109 1 = some (1, 3) := by kernel_rfl
theorem sc_103 : isScalar Tryz.prog 103 = true := by kernel_rfl
theorem sc_3 : isScalar Tryz.prog 3 = true := by kernel_rfl
theorem sc_38 : isScalar Tryz.prog 38 = true := by kernel_rfl
theorem sc_9 : isScalar Tryz.prog 9 = true := by kernel_rfl
theorem sz_3 : sizeIs Tryz.prog 3 = some 1 := by kernel_rfl
theorem sz_38 : sizeIs Tryz.prog 38 = some 1 := by kernel_rfl
theorem sz_5 : sizeIs Tryz.prog 5 = some 1 := by kernel_rfl
theorem sz_9 : sizeIs Tryz.prog 9 = some 1 := by kernel_rfl
theorem zi_107 : (Tryz.prog.info? 107).bind (·.zero) = some (ptV none) := by kernel_rfl

theorem cut_spec (b : Nat) (room : Int) (mb : Nat) (calls : Int) (T : FT) (name : (List UInt8)) (n : Int) (ρ : Hp) (hT : FOk T) (hc : calls ≤ 9223372036854775807) : Spec0 Tryz.prog 63 #[.pointer (some ⟨b, 0, none⟩), (strB name), .int .i64 n] ρ [.pts b (encDisk1 (⟨room, (some mb), calls⟩ : Disk1)) 105, MP strB ptV mb (fm T), FB 109 5 T] (fun v Γ' => ∃ T', v = .int .i64 (cutR calls (vw T) name n).1 ∧ vw T' = (cutR calls (vw T) name n).2 ∧ Γ' = [.pts b (encDisk1 (⟨room, (some mb), (decC calls)⟩ : Disk1)) 105, MP strB ptV mb (fm T'), FB 109 5 T']) := by
  refine spec_of (n := 50) (vs := [_, _, _]) (σ := [(0, _), (1, _), (2, _)]) Tryz.func63 rfl rfl rfl rfl fun E Δ => ?_
  simp only [List.cons_append, List.nil_append]
  refine sr ?_
  refine e_as rfl ?_
  refine l_n ?_
  refine sr ?_
  refine e_mv rfl ?_
  refine e_q (q_nilCheck rfl) ?_
  refine e_q (q_fieldp rfl fo_105_1) ?_
  refine e_q (q_loadp (v := .map (some mb)) sc_103 rfl pk_ rfl) ?_
  refine e_mv rfl ?_
  refine e_q (q_look (v := (ptV (mgetD (fm T) name none))) (ek := strB) (ev := ptV) (k := name) (zv := none) Tryz.underlying103 (mkey_str Tryz.underlying9) zi_107 rfl rfl pk_ rfl) ?_
  refine e_as rfl ?_
  refine l_n ?_
  refine c_seq ?_
  refine c_block ?_
  refine sr ?_
  refine e_mv rfl ?_
  refine e_fn Tryz.func48 rfl sl_ (fun ρ' hL => stopped_spec b room mb calls T ρ' (by first | assumption | omega)) ?_
  rintro _ _ ⟨rfl, rfl⟩
  try simp only [List.cons_append, List.nil_append]
  refine e_as rfl ?_
  refine l_n ?_
  refine c_cond rfl (fun h0 => ?_) (fun h0 => ?_)
  · try simp only [decide_eq_true_eq, decide_eq_false_iff_not] at h0
    refine sr ?_
    refine e_as rfl ?_
    refine l_n ?_
    refine c_ret ?_
    refine k_blk_r ?_
    refine k_then_r ?_
    have hr : (cutR calls (vw T) name n) = (32, vw T) := if_pos h0
    exact t_rt [.pts b (encDisk1 (⟨room, (some mb), (decC calls)⟩ : Disk1)) 105, MP strB ptV mb (fm T), FB 109 5 T] rfl (.tmp rfl .nil) rfl ⟨rfl, T, by rw [hr]; rfl, by rw [hr], rfl⟩
  · try simp only [decide_eq_true_eq, decide_eq_false_iff_not] at h0
    refine sr ?_
    refine e_mv rfl ?_
    refine e_q (q_eqlo (e := (mgetD (fm T) name none)) rfl rfl Tryz.underlying107) ?_
    refine e_as rfl ?_
    refine l_n ?_
    refine c_cond rfl (fun h1 => ?_) (fun h1 => ?_)
    · skip
      refine sr ?_
      refine e_as rfl ?_
      refine l_n ?_
      refine c_ret ?_
      refine k_blk_r ?_
      refine k_then_r ?_
      have hr : (cutR calls (vw T) name n) = (30, vw T) := by unfold cutR; rw [if_neg h0, if_pos (has_no (opt_none h1))]
      exact t_rt [.pts b (encDisk1 (⟨room, (some mb), (decC calls)⟩ : Disk1)) 105, MP strB ptV mb (fm T), FB 109 5 T] rfl (.tmp rfl .nil) rfl ⟨rfl, T, by rw [hr]; rfl, by rw [hr], rfl⟩
    · skip
      obtain ⟨j, e, hjl, hj, hnm, hmg, hvg⟩ := look_some (opt_some h1)
      rw [hmg]
      refine Tr.ent (file_open (t := 109) (tb := 5) hj pk_) ?_
      have hua := hT.at_ hj
      refine t_rd (Γ := _) (rd_row (a := e.a) (cap := e.cap) pk_) fun _ hcp _ _ => ?_
      refine sr ?_
      refine e_mv rfl ?_
      refine e_q (q_lss rfl rfl) ?_
      refine e_mv rfl ?_
      refine l_step (s_qg rfl (ask_f rfl rfl) (b := (!(decide (n < 0)))) (fun hb => q_move rfl) ?_)
      refine l_step (s_qg rfl (ask_f rfl rfl) (b := (!(decide (n < 0)))) (fun hb => q_move rfl) ?_)
      refine l_step (s_qg rfl (ask_f rfl rfl) (b := (!(decide (n < 0)))) (fun hb => OpQ.env (.cons rfl (gd_t hb) (.nil _) : EnvLe [(25, .pointer (some ⟨e.blk, 0, none⟩))] _) (q_nilCheck rfl)) ?_)
      refine l_step (s_qg rfl (ask_f rfl rfl) (b := (!(decide (n < 0)))) (fun hb => OpQ.env (.cons rfl (gd_t hb) (.nil _) : EnvLe [(26, .pointer (some ⟨e.blk, 0, none⟩))] _) (q_fieldp rfl fo_109_0)) ?_)
      refine l_step (s_qg rfl (ask_f rfl rfl) (b := (!(decide (n < 0)))) (fun hb => OpQ.env (.cons rfl (gd_t hb) (.nil _) : EnvLe [(27, .pointer (some ⟨e.blk, 0, none⟩))] _) (q_loadp (v := .slice e.a e.xs.length e.cap) sc_38 rfl pk_ rfl)) ?_)
      refine l_step (s_qg rfl (ask_f rfl rfl) (b := (!(decide (n < 0)))) (fun hb => OpQ.env (.cons rfl (gd_t hb) (.nil _) : EnvLe [(28, .slice e.a e.xs.length e.cap)] _) (q_len Tryz.underlying38 rfl)) ?_)
      refine l_step (s_qg rfl (ask_f rfl rfl) (b := (!(decide (n < 0)))) (fun hb => OpQ.env (.cons rfl (gd_t hb) (.cons rfl (gd_t hb) (.nil _)) : EnvLe [(24, .int .i64 n), (29, .int .i64 (e.xs.length : Int))] _) (q_gtr rfl rfl)) ?_)
      refine e_q (q_pick_or rfl rfl rfl (fun h => by first | (rw [h]; rfl) | exact congrArg not h)) ?_
      refine e_as rfl ?_
      refine l_n ?_
      refine c_cond rfl (fun h2 => ?_) (fun h2 => ?_)
      · try simp only [decide_eq_true_eq, decide_eq_false_iff_not, Bool.or_eq_true, Bool.or_eq_false_iff] at h2
        refine sr ?_
        refine e_as rfl ?_
        refine l_n ?_
        refine c_ret ?_
        refine k_blk_r ?_
        refine k_then_r ?_
        refine Tr.ent (Ent.trans (Ent.pick (A := .pts e.blk (encFile1 (⟨⟨e.a, e.xs.length, e.cap⟩, e.safe⟩ : File1)) 109) pk_ (Ent.pick (A := .row 5 1 e.a e.xs.length e.cap (e.xs.flatMap encB)) pk_ (Ent.pick (A := Bun ((fL 109 5 T).eraseIdx j)) pk_ (Ent.refl _)))) (file_same (t := 109) (tb := 5) hj)) ?_
        have hr : (cutR calls (vw T) name n) = (2, vw T) := by unfold cutR; rw [if_neg h0, if_neg (by rw [has_of hvg]; decide), getD_of hvg, if_pos (by simpa using h2)]
        exact t_rt [.pts b (encDisk1 (⟨room, (some mb), (decC calls)⟩ : Disk1)) 105, MP strB ptV mb (fm T), FB 109 5 T] rfl (.tmp rfl .nil) rfl ⟨rfl, T, by rw [hr]; rfl, by rw [hr], rfl⟩
      · try simp only [decide_eq_true_eq, decide_eq_false_iff_not, Bool.or_eq_true, Bool.or_eq_false_iff] at h2
        refine c_skip ?_
        refine k_blk_n ?_
        refine k_then_n ?_
        refine sr ?_
        refine e_mv rfl ?_
        refine e_mv rfl ?_
        refine e_q (q_nilCheck rfl) ?_
        refine e_q (q_fieldp rfl fo_109_0) ?_
        refine e_q (q_loadp (v := .slice e.a e.xs.length e.cap) sc_38 rfl pk_ rfl) ?_
        refine e_mv rfl ?_
        refine e_q (q_cut_hi Tryz.underlying38 sz_5 rfl rfl (by omega) (by omega)) ?_
        refine e_q (q_nilCheck rfl) ?_
        refine e_q (q_fieldp rfl fo_109_0) ?_
        refine Tr.ent (Ent.trans (Ent.pick (A := .row 5 1 e.a e.xs.length e.cap (e.xs.flatMap encB)) pk_ (Ent.refl _)) (row_cut (enc := encB) (sz := 1) (n := e.xs.length) (fun _ => rfl) (n).toNat (by omega))) ?_
        refine l_step (s_s0 wn (s_storep (ws := [.slice e.a ((n).toNat) e.cap]) (cs := encFile1 (⟨⟨e.a, e.xs.length, e.cap⟩, e.safe⟩ : File1)) (cs' := encFile1 (⟨⟨e.a, (n).toNat, e.cap⟩, e.safe⟩ : File1)) rfl rfl rfl sz_38 (by simp [Value.oneCell', strB, ptV, SL.v, SH.v]) (by simp [encFile1]) rfl pk_) ?_)
        rintro _ _ ⟨rfl, rfl⟩
        refine l_n ?_
        refine sr ?_
        refine e_mv rfl ?_
        refine e_mv rfl ?_
        refine e_q (q_nilCheck rfl) ?_
        refine e_q (q_fieldp rfl fo_109_1) ?_
        refine e_q (q_loadp (v := .int .i64 e.safe) sc_3 rfl pk_ rfl) ?_
        refine e_mv rfl ?_
        refine e_q (q_min2 rfl rfl) ?_
        refine e_q (q_nilCheck rfl) ?_
        refine e_q (q_fieldp rfl fo_109_1) ?_
        refine l_step (s_s0 wn (s_storep (ws := [.int .i64 (if n < e.safe then n else e.safe)]) (cs := encFile1 (⟨⟨e.a, (n).toNat, e.cap⟩, e.safe⟩ : File1)) (cs' := encFile1 (⟨⟨e.a, (n).toNat, e.cap⟩, (if n < e.safe then n else e.safe)⟩ : File1)) rfl rfl rfl sz_3 (by simp [Value.oneCell', strB, ptV, SL.v, SH.v]) (by simp [encFile1]) rfl pk_) ?_)
        rintro _ _ ⟨rfl, rfl⟩
        refine l_n ?_
        refine sr ?_
        refine e_as rfl ?_
        refine l_n ?_
        refine c_ret ?_
        have hk9 : (n).toNat = (e.xs.take (n).toNat).length := by rw [List.length_take]; omega
        rw [show (if n < e.safe then n else e.safe) = mnI e.safe n from rfl]
        have hr : (cutR calls (vw T) name n) = (0, vw (T.set j ⟨e.name, e.blk, e.a, e.cap, e.xs.take (n).toNat, mnI e.safe n⟩)) := by unfold cutR; rw [if_neg h0, if_neg (by rw [has_of hvg]; decide), getD_of hvg, if_neg (by simp; omega), vw_set (e' := ⟨e.name, e.blk, e.a, e.cap, e.xs.take (n).toNat, mnI e.safe n⟩) hT.nd hj rfl, hnm]
        rw [← fm_set (e' := ⟨e.name, e.blk, e.a, e.cap, e.xs.take (n).toNat, mnI e.safe n⟩) hj rfl rfl]
        refine Tr.ent (Γ' := .row 5 1 e.a ((e.xs.take (n).toNat).length) e.cap ((e.xs.take (n).toNat).flatMap encB) :: .pts e.blk (encFile1 (⟨⟨e.a, (e.xs.take (n).toNat).length, e.cap⟩, mnI e.safe n⟩ : File1)) 109 :: Bun ((fL 109 5 T).eraseIdx j) :: .pts b (encDisk1 (⟨room, (some mb), (decC calls)⟩ : Disk1)) 105 :: MP strB ptV mb (fm (T.set j ⟨e.name, e.blk, e.a, e.cap, e.xs.take (n).toNat, mnI e.safe n⟩)) :: Δ) (Ent.cast (by rw [← hk9]; rfl)) ?_
        refine Tr.ent (Ent.trans (Ent.pick (A := .pts e.blk (encFile1 (⟨⟨e.a, (e.xs.take (n).toNat).length, e.cap⟩, mnI e.safe n⟩ : File1)) 109) pk_ (Ent.pick (A := .row 5 1 e.a ((e.xs.take (n).toNat).length) e.cap ((e.xs.take (n).toNat).flatMap encB)) pk_ (Ent.pick (A := Bun ((fL 109 5 T).eraseIdx j)) pk_ (Ent.refl _)))) (file_shut (t := 109) (tb := 5) ⟨e.name, e.blk, e.a, e.cap, e.xs.take (n).toNat, mnI e.safe n⟩ hj)) ?_
        exact t_rt [.pts b (encDisk1 (⟨room, (some mb), (decC calls)⟩ : Disk1)) 105, MP strB ptV mb (fm (T.set j ⟨e.name, e.blk, e.a, e.cap, e.xs.take (n).toNat, mnI e.safe n⟩)), FB 109 5 (T.set j ⟨e.name, e.blk, e.a, e.cap, e.xs.take (n).toNat, mnI e.safe n⟩)] rfl (.tmp rfl .nil) rfl ⟨rfl, (T.set j ⟨e.name, e.blk, e.a, e.cap, e.xs.take (n).toNat, mnI e.safe n⟩), by rw [hr]; rfl, by rw [hr], rfl⟩

theorem sync_spec (b : Nat) (room : Int) (mb : Nat) (calls : Int) (T : FT) (names_a : Option Addr) (names_n names_c : Nat) (names : List (List UInt8)) (hnames_n : names.length = names_n) (ρ : Hp) (hT : FOk T) (hc : calls ≤ 9223372036854775807) (hro : Ro ρ 1 names_a names_n names_c (names.flatMap Go.SL.encStr)) : Spec0 Tryz.prog 44 #[.pointer (some ⟨b, 0, none⟩), .slice names_a names_n names_c] ρ [.pts b (encDisk1 (⟨room, (some mb), calls⟩ : Disk1)) 105, MP strB ptV mb (fm T), FB 109 5 T] (fun v Γ' => ∃ T', v = .int .i64 (syncR calls (vw T) names).1 ∧ vw T' = (syncR calls (vw T) names).2 ∧ Γ' = [.pts b (encDisk1 (⟨room, (some mb), (decC calls)⟩ : Disk1)) 105, MP strB ptV mb (fm T'), FB 109 5 T']) := by
  refine spec_of (n := 38) (vs := [_, _]) (σ := [(0, _), (1, _)]) Tryz.func44 rfl rfl rfl rfl fun E Δ => ?_
  simp only [List.cons_append, List.nil_append]
  have hrob : names_n ≤ 9223372036854775807 := Nat.le_trans hro.2.1 hro.2.2.1
  refine sr ?_
  refine e_as rfl ?_
  refine l_n ?_
  refine c_seq ?_
  refine sr ?_
  refine e_mv rfl ?_
  refine e_fn Tryz.func48 rfl sl_ (fun ρ' hL => stopped_spec b room mb calls T ρ' (by first | assumption | omega)) ?_
  rintro _ _ ⟨rfl, rfl⟩
  try simp only [List.cons_append, List.nil_append]
  refine l_n ?_
  refine c_cond rfl (fun h0 => ?_) (fun h0 => ?_)
  · try simp only [decide_eq_true_eq, decide_eq_false_iff_not] at h0
    refine sr ?_
    refine e_as rfl ?_
    refine l_n ?_
    refine c_ret ?_
    refine k_then_r ?_
    have hr : (syncR calls (vw T) names) = (32, vw T) := if_pos h0
    exact t_rt [.pts b (encDisk1 (⟨room, (some mb), (decC calls)⟩ : Disk1)) 105, MP strB ptV mb (fm T), FB 109 5 T] rfl (.tmp rfl .nil) rfl ⟨rfl, T, by rw [hr]; rfl, by rw [hr], rfl⟩
  · try simp only [decide_eq_true_eq, decide_eq_false_iff_not] at h0
    refine c_skip ?_
    refine k_then_n ?_
    refine c_seq ?_
    refine sr ?_
    refine e_mv rfl ?_
    refine e_mv rfl ?_
    refine l_step (s_fnr rfl wn Tryz.func52 rfl (by kernel_rfl) rfl sl_ (fun ρ' hL => there_spec b room mb (decC calls) T names_a names_n names_c names (by first | rfl | assumption | (simp; done) | (simp <;> omega) | omega) ρ' (by first | exact hL.ro (by assumption) | exact hL.row pk_ | assumption)) ?_)
    refine e_q (q_not rfl) ?_
    refine l_n ?_
    refine c_cond rfl (fun h1 => ?_) (fun h1 => ?_)
    · skip
      have hth : names.all (mhas (vw T)) = false := by simpa using h1
      refine sr ?_
      refine e_as rfl ?_
      refine l_n ?_
      refine c_ret ?_
      refine k_then_r ?_
      have hr : (syncR calls (vw T) names) = (30, vw T) := by unfold syncR; rw [if_neg h0, if_pos hth]
      exact t_rt [.pts b (encDisk1 (⟨room, (some mb), (decC calls)⟩ : Disk1)) 105, MP strB ptV mb (fm T), FB 109 5 T] rfl (.tmp rfl .nil) rfl ⟨rfl, T, by rw [hr]; rfl, by rw [hr], rfl⟩
    · skip
      have hth : names.all (mhas (vw T)) = true := by simpa using h1
      refine c_skip ?_
      refine k_then_n ?_
      refine c_seq ?_
      refine sr ?_
      refine e_mv rfl ?_
      refine e_q (q_len Tryz.underlying49 rfl) ?_
      refine e_mv rfl ?_
      refine l_n ?_
      refine c_block ?_
      refine Tr.env (σ' := [(0, _), (4, _), (13, _), (14, _), (15, _)]) ev_ ?_
      refine t_loop (ι := Lp (Nat × FT)) (fun x => x.d.1 ≤ names_n ∧ fm x.d.2 = fm T ∧ vw x.d.2 = ((names.take x.d.1).foldl syncStep (vw T))) (fun x => names_n - x.d.1) (fun x => [(0, .pointer (some ⟨b, 0, none⟩)), (4, .int .i64 0), (13, .slice names_a names_n names_c), (14, .int .i64 (names_n : Int)), (15, .int .i64 (x.d.1 : Int))]) (fun x => .pts b (encDisk1 (⟨room, (some mb), (decC calls)⟩ : Disk1)) 105 :: MP strB ptV mb (fm T) :: FB 109 5 x.d.2 :: Δ) (⟨(0, T), none, 0, none, 0, none, 0⟩ : Lp _) ⟨Nat.zero_le _, rfl, rfl⟩ ?_ ?_ ?_
      · exact .c (.c (.c (.c (.c (.nil _)))))
      · exact en_
      intro x hx
      obtain ⟨hx1, hx2, hx3⟩ := hx
      refine sr ?_
      refine e_q (q_lss rfl rfl) ?_
      refine l_n ?_
      refine c_seq ?_
      refine c_cond rfl (fun h2 => ?_) (fun h2 => ?_)
      · try simp only [decide_eq_true_eq, decide_eq_false_iff_not] at h2
        have hxm : mhas (vw x.d.2) (names.getD x.d.1 default) = true := by rw [has_same (T := T) (hf := hx2)]; exact (List.all_eq_true.1 hth) _ (getD_in (by omega))
        obtain ⟨j, e, hjl, hj, hnm, hmg, hvg⟩ := look_some (look_has hxm)
        refine c_skip ?_
        refine k_then_n ?_
        refine c_seq ?_
        refine c_block ?_
        refine sr ?_
        rw [← hx2]
        refine Tr.ent (file_open (t := 109) (tb := 5) hj pk_) ?_
        refine e_q (q_indexe x.d.1 Tryz.underlying49 sz_9 rfl rfl (by first | assumption | exact rd_ro (by assumption) | exact rd_bun (L := (fL 109 5 x.d.2).eraseIdx j) pk_ (in_map _ (by first | assumption | omega | (simp only [List.length_cons, List.length_nil]; omega) | decide) rfl) | exact rd_row pk_) (by decide) rfl (by first | assumption | omega | (simp only [List.length_cons, List.length_nil]; omega))) ?_
        refine e_q (q_loade (enc := Go.SL.encStr) (xs := names) (j := x.d.1) (off := 0) sc_9 rfl (by first | assumption | exact rd_ro (by assumption) | exact rd_bun (L := (fL 109 5 x.d.2).eraseIdx j) pk_ (in_map _ (by first | assumption | omega | (simp only [List.length_cons, List.length_nil]; omega) | decide) rfl) | exact rd_row pk_) (fun _ => rfl) (by first | assumption | omega | (simp only [List.length_cons, List.length_nil]; omega)) (by decide) rfl) ?_
        refine e_as rfl ?_
        refine l_n ?_
        refine d_r 19 [.row 5 1 e.a e.xs.length e.cap (e.xs.flatMap encB), Bun ((fL 109 5 x.d.2).eraseIdx j), .pts b (encDisk1 (⟨room, (some mb), (decC calls)⟩ : Disk1)) 105, MP strB ptV mb (fm x.d.2)] ?_
        refine d_t 0 rfl wn (q_move rfl) ?_
        refine d_t 1 rfl wn (q_nilCheck rfl) ?_
        refine d_t 2 rfl wn (q_fieldp rfl fo_105_1) ?_
        refine d_t 3 rfl wn (q_loadp (v := .map (some mb)) sc_103 rfl pk_ rfl) ?_
        refine d_t 4 rfl wn (q_move rfl) ?_
        refine d_t 5 rfl wn (q_look (v := .pointer (some ⟨e.blk, 0, none⟩)) (ek := strB) (ev := ptV) (k := (names.getD x.d.1 default)) (zv := none) Tryz.underlying103 (mkey_str Tryz.underlying9) zi_107 rfl rfl pk_ (by rw [hmg]; rfl)) ?_
        refine d_t 6 rfl wn (q_move rfl) ?_
        refine d_t 7 rfl wn (q_nilCheck rfl) ?_
        refine d_t 8 rfl wn (q_fieldp rfl fo_105_1) ?_
        refine d_t 9 rfl wn (q_loadp (v := .map (some mb)) sc_103 rfl pk_ rfl) ?_
        refine d_t 10 rfl wn (q_move rfl) ?_
        refine d_t 11 rfl wn (q_look (v := .pointer (some ⟨e.blk, 0, none⟩)) (ek := strB) (ev := ptV) (k := (names.getD x.d.1 default)) (zv := none) Tryz.underlying103 (mkey_str Tryz.underlying9) zi_107 rfl rfl pk_ (by rw [hmg]; rfl)) ?_
        refine d_t 12 rfl wn (q_nilCheck rfl) ?_
        refine d_t 13 rfl wn (q_fieldp rfl fo_109_0) ?_
        refine d_1 14 ?_
        refine o_step rfl (s_q rfl wn (q_loadp (v := .slice e.a e.xs.length e.cap) sc_38 rfl pk_ rfl) ?_)
        refine d_c ?_
        refine d_t 15 rfl wn (q_len Tryz.underlying38 rfl) ?_
        refine d_t 16 rfl wn (q_nilCheck rfl) ?_
        refine d_t 17 rfl wn (q_fieldp rfl fo_109_1) ?_
        refine d_1 18 ?_
        refine o_step rfl (s_s0 wn (s_storep (ws := [.int .i64 (e.xs.length : Int)]) (cs := encFile1 (⟨⟨e.a, e.xs.length, e.cap⟩, e.safe⟩ : File1)) (cs' := encFile1 (⟨⟨e.a, e.xs.length, e.cap⟩, (e.xs.length : Int)⟩ : File1)) rfl rfl rfl sz_3 (by simp [Value.oneCell', strB, ptV, SL.v, SH.v]) (by simp [encFile1]) rfl pk_) ?_)
        rintro _ _ ⟨rfl, rfl⟩
        refine d_c ?_
        refine d_d ?_
        refine k_blk_n ?_
        refine k_then_n ?_
        refine c_region ?_
        refine e_q (q_add rfl rfl (by omega) (by omega)) ?_
        refine e_mv rfl ?_
        refine l_n ?_
        refine Tr.ent (Ent.trans (Ent.pick (A := .pts e.blk (encFile1 (⟨⟨e.a, e.xs.length, e.cap⟩, (e.xs.length : Int)⟩ : File1)) 109) pk_ (Ent.pick (A := .row 5 1 e.a e.xs.length e.cap (e.xs.flatMap encB)) pk_ (Ent.pick (A := Bun ((fL 109 5 x.d.2).eraseIdx j)) pk_ (Ent.refl _)))) (file_shut (t := 109) (tb := 5) ⟨e.name, e.blk, e.a, e.cap, e.xs, (e.xs.length : Int)⟩ hj)) ?_
        have hnd : (x.d.2.map (·.name)).Nodup := by rw [← fm_keys, hx2, fm_keys]; exact hT.nd
        have hf9 : fm (x.d.2.set j ⟨e.name, e.blk, e.a, e.cap, e.xs, (e.xs.length : Int)⟩) = fm T := by rw [fm_set (e' := ⟨e.name, e.blk, e.a, e.cap, e.xs, (e.xs.length : Int)⟩) hj rfl rfl]; exact hx2
        have hv9 : vw (x.d.2.set j ⟨e.name, e.blk, e.a, e.cap, e.xs, (e.xs.length : Int)⟩) = ((names.take (x.d.1 + 1)).foldl syncStep (vw T)) := by rw [foldl_take _ _ _ _ (by omega), ← hx3, vw_set (e' := ⟨e.name, e.blk, e.a, e.cap, e.xs, (e.xs.length : Int)⟩) hnd hj rfl, hnm]; unfold syncStep; rw [getD_of hvg]
        rw [hx2]
        exact t_nx (⟨(x.d.1 + 1, x.d.2.set j ⟨e.name, e.blk, e.a, e.cap, e.xs, (e.xs.length : Int)⟩), none, 0, none, 0, none, 0⟩ : Lp _) ⟨⟨by (try simp only []); omega, hf9, hv9⟩, by (try simp only []); omega⟩ (.c (.c (.c (.c (.c (.nil _))))))
      · try simp only [decide_eq_true_eq, decide_eq_false_iff_not] at h2
        have hk : x.d.1 = names.length := by omega
        have hr : (syncR calls (vw T) names) = (0, vw x.d.2) := by unfold syncR; rw [if_neg h0, if_neg (by rw [hth]; decide), hx3, hk, List.take_length]
        rw [← hx2]
        refine c_exit ?_
        refine k_then_x ?_
        refine k_then_x ?_
        refine k_blk_x ?_
        refine k_then_n ?_
        refine sr ?_
        refine e_as rfl ?_
        refine l_n ?_
        refine c_ret ?_
        exact t_rt [.pts b (encDisk1 (⟨room, (some mb), (decC calls)⟩ : Disk1)) 105, MP strB ptV mb (fm x.d.2), FB 109 5 x.d.2] rfl (.tmp rfl .nil) rfl ⟨rfl, x.d.2, by rw [hr]; rfl, by rw [hr], rfl⟩
end Go.Dsk.Z

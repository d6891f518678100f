/-
  Package disk, walked.
-/
import Derived.Test.YtehaoafnobnneaaGreatDoorDskX
import Derived.Test.YtehaoafnobnneaaGreatDoorDskL
import Derived.Test.YtehaoafnobnneaaGreatDoorProg
import Derived.Test.YtehaoafnobnneaaGreatDoorSlSq
set_option maxRecDepth 100000
set_option maxHeartbeats 4000000
set_option linter.unusedSimpArgs false
set_option linter.unusedVariables false
namespace Go.Dsk.Y
open Go Go.SL Go.Proofs Go.Dsk Go.Dsk.L Go.Dsk.X
attribute [local irreducible] Go.SL.Ent
theorem eo_5 : elemOk Tryz.prog 5 1 1 = true := by kernel_rfl
theorem eo_9 : elemOk Tryz.prog 9 1 16 = true := by kernel_rfl
theorem fo_105_1 : fieldOff Tryz.prog 105 1 = some (1, 103) := by kernel_rfl
theorem fo_109_0 : fieldOff Tryz.prog 109 0 = some (0, 38) := by kernel_rfl
theorem pl_109 : placesOf Tryz.prog 109 = some [(0, 1), (1, 1)] := by kernel_rfl
theorem sc_103 : isScalar Tryz.prog 103 = true := by kernel_rfl
theorem sc_38 : isScalar Tryz.prog 38 = true := by kernel_rfl
theorem sz_38 : sizeIs Tryz.prog 38 = some 1 := by kernel_rfl
theorem zc_109 : zeroCs Tryz.prog 109 = some [.slice none 0 0, .int .i64 0] := by kernel_rfl
theorem zi_107 : (Tryz.prog.info? 107).bind (·.zero) = some (ptV none) := by kernel_rfl

theorem append_spec (b : Nat) (room : Int) (mb : Nat) (calls : Int) (T : FT) (name : (List UInt8)) (bs_a : Option Addr) (bs_n bs_c : Nat) (bs : List (SL UInt8)) (hbs_n : bs.length = bs_n) (ρ : Hp) (hT : FOk T) (hU : (usedT T : Int) ≤ room) (hr : room ≤ 9223372036854775807) (hc : calls ≤ 9223372036854775807) (hn : name.length ≤ 9223372036854775807) (hbn : bs_n ≤ 1000000) (hbl : usedT T + (bs.flatMap fun x : SL UInt8 => x.xs).length ≤ 1000000000000) (hbs : Ro ρ 1 bs_a bs_n bs_c (bs.flatMap encSL)) (hbm : ∀ s ∈ bs, s.ro encB 1 ρ) : Spec0 Tryz.prog 23 #[.pointer (some ⟨b, 0, none⟩), (strB name), .slice bs_a bs_n bs_c] ρ [.pts b (encDisk1 (⟨room, (some mb), calls⟩ : Disk1)) 105, MP strB ptV mb (fm T), FB 109 5 T] (fun v Γ' => ∃ T', v = .int .i64 (appR room calls (vw T) name (bs.flatMap fun x : SL UInt8 => x.xs)).1 ∧ vw T' = (appR room calls (vw T) name (bs.flatMap fun x : SL UInt8 => x.xs)).2 ∧ Γ' = [.pts b (encDisk1 (⟨room, (some mb), (decC calls)⟩ : Disk1)) 105, MP strB ptV mb (fm T'), FB 109 5 T']) := by
  refine spec_of (n := 63) (vs := [_, _, _]) (σ := [(0, _), (1, _), (2, _)]) Tryz.func23 rfl rfl rfl rfl fun E Δ => ?_
  simp only [List.cons_append, List.nil_append]
  have hTl := hT.ln
  refine sr ?_
  refine e_as rfl ?_
  refine l_n ?_
  refine sr ?_
  refine e_mv rfl ?_
  refine e_fn Tryz.func56 rfl sl_ (fun ρ' hL => join_s joinA bs_a bs_n bs_c bs hbs_n (by omega) (by omega) ρ' (by first | exact hL.ro (by assumption) | exact hL.row pk_ | assumption) (fun s hs => Ro.mono hL.1 (hbm s hs))) ?_
  rintro _ _ ⟨am, cm, rfl, rfl⟩
  try simp only [List.cons_append, List.nil_append]
  refine e_as rfl ?_
  refine l_n ?_
  refine sr ?_
  refine e_mv rfl ?_
  refine e_q (q_nilCheck rfl) ?_
  refine e_q (q_fieldp rfl fo_105_1) ?_
  refine e_q (q_loadp (v := .map (some mb)) sc_103 rfl pk_ rfl) ?_
  refine e_mv rfl ?_
  refine e_q (q_look (v := (ptV (mgetD (fm T) name none))) (ek := strB) (ev := ptV) (k := name) (zv := none) Tryz.underlying103 (mkey_str Tryz.underlying9) zi_107 rfl rfl pk_ rfl) ?_
  refine e_as rfl ?_
  refine l_n ?_
  refine c_seq ?_
  refine c_block ?_
  refine sr ?_
  refine e_mv rfl ?_
  refine e_fn Tryz.func48 rfl sl_ (fun ρ' hL => stopped_spec b room mb calls T ρ' (by first | assumption | omega)) ?_
  rintro _ _ ⟨rfl, rfl⟩
  try simp only [List.cons_append, List.nil_append]
  refine e_as rfl ?_
  refine l_n ?_
  refine c_cond rfl (fun h0 => ?_) (fun h0 => ?_)
  · try simp only [decide_eq_true_eq, decide_eq_false_iff_not] at h0
    refine sr ?_
    refine e_as rfl ?_
    refine l_n ?_
    refine c_ret ?_
    refine k_blk_r ?_
    refine k_then_r ?_
    exact t_rt [.pts b (encDisk1 (⟨room, (some mb), (decC calls)⟩ : Disk1)) 105, MP strB ptV mb (fm T), FB 109 5 T] rfl (.tmp rfl .nil) rfl ⟨rfl, T, by rw [show (appR room calls (vw T) name (bs.flatMap fun x : SL UInt8 => x.xs)) = (32, vw T) from if_pos h0]; rfl, by rw [show (appR room calls (vw T) name (bs.flatMap fun x : SL UInt8 => x.xs)) = (32, vw T) from if_pos h0], rfl⟩
  · try simp only [decide_eq_true_eq, decide_eq_false_iff_not] at h0
    refine sr ?_
    have hnl : ∀ s ∈ [name], s.length ≤ 9223372036854775807 := fun s hs => by rw [List.mem_singleton.1 hs]; exact hn
    refine e_mv rfl ?_
    refine e_s (s_buildSlice (cs := ([name] : List (List UInt8)).flatMap Go.SL.encStr) Tryz.underlying49 eo_9 rfl rfl rfl rfl (by decide) (by decide)) ?_
    rintro _ _ ⟨b22, rfl, rfl⟩
    refine l_step (s_fnq rfl wn Tryz.func57 rfl (by kernel_rfl) rfl (fun ρ' hL => name_spec (some ⟨b22, 0, none⟩) 1 1 [name] (by first | rfl | assumption | (simp; done) | (simp <;> omega) | omega) ρ' (by first | assumption | exact fun s hs => Nat.le_trans (nml s hs) (by decide)) (by first | exact hL.ro (by assumption) | exact hL.row pk_ | assumption)) ?_)
    refine e_q (q_not rfl) ?_
    refine e_as rfl ?_
    refine l_n ?_
    refine c_cond rfl (fun h1 => ?_) (fun h1 => ?_)
    · skip
      have hnb : nameB name = false := by simpa using h1
      refine sr ?_
      refine e_as rfl ?_
      refine l_n ?_
      refine c_ret ?_
      refine k_blk_r ?_
      refine k_then_r ?_
      have hr : (appR room calls (vw T) name (bs.flatMap fun x : SL UInt8 => x.xs)) = (30, vw T) := by unfold appR; rw [if_neg h0, if_pos hnb]
      exact t_rt [.pts b (encDisk1 (⟨room, (some mb), (decC calls)⟩ : Disk1)) 105, MP strB ptV mb (fm T), FB 109 5 T] rfl (.tmp rfl .nil) rfl ⟨rfl, T, by rw [hr]; rfl, by rw [hr], rfl⟩
    · skip
      have hnb : nameB name = true := by simpa using h1
      refine sr ?_
      refine e_mv rfl ?_
      refine e_q (q_len Tryz.underlying38 rfl) ?_
      refine e_mv rfl ?_
      refine l_step (s_fnr rfl wn Tryz.func58 rfl (by kernel_rfl) rfl sl_ (fun ρ' hL => free_spec b room mb (decC calls) T ρ' (by first | assumption | omega) (by first | assumption | omega)) ?_)
      refine e_q (q_gtr rfl rfl) ?_
      refine e_mv rfl ?_
      refine l_step (s_qg rfl (ask_f rfl rfl) (b := (!(decide (((room - (usedT T : Int))) < ((bs.flatMap fun x : SL UInt8 => x.xs).length : Int))))) (fun hb => q_move rfl) ?_)
      refine l_step (s_qg rfl (ask_f rfl rfl) (b := (!(decide (((room - (usedT T : Int))) < ((bs.flatMap fun x : SL UInt8 => x.xs).length : Int))))) (fun hb => OpQ.env (.cons rfl (gd_t hb) (.nil _) : EnvLe [(32, (ptV (mgetD (fm T) name none)))] _) (q_eqlo (e := (mgetD (fm T) name none)) rfl rfl Tryz.underlying107)) ?_)
      refine l_step (s_qg rfl (ask_f rfl rfl) (b := (!(decide (((room - (usedT T : Int))) < ((bs.flatMap fun x : SL UInt8 => x.xs).length : Int))))) (fun hb => OpQ.env (.cons rfl (gd_t hb) (.nil _) : EnvLe [(33, .bool ((mgetD (fm T) name none).isNone))] _) (q_move rfl)) ?_)
      refine l_step (s_qg rfl (ask_gt rfl rfl) (b := ((!(decide (((room - (usedT T : Int))) < ((bs.flatMap fun x : SL UInt8 => x.xs).length : Int)))) && ((mgetD (fm T) name none).isNone))) (fun hb => q_move rfl) ?_)
      refine l_step (s_qg rfl (ask_gt rfl rfl) (b := ((!(decide (((room - (usedT T : Int))) < ((bs.flatMap fun x : SL UInt8 => x.xs).length : Int)))) && ((mgetD (fm T) name none).isNone))) (fun hb => OpQ.env (.cons rfl (gd_t hb) (.nil _) : EnvLe [(35, .pointer (some ⟨b, 0, none⟩))] _) (q_nilCheck rfl)) ?_)
      refine l_step (s_qg rfl (ask_gt rfl rfl) (b := ((!(decide (((room - (usedT T : Int))) < ((bs.flatMap fun x : SL UInt8 => x.xs).length : Int)))) && ((mgetD (fm T) name none).isNone))) (fun hb => OpQ.env (.cons rfl (gd_t hb) (.nil _) : EnvLe [(36, .pointer (some ⟨b, 0, none⟩))] _) (q_fieldp rfl fo_105_1)) ?_)
      refine l_step (s_qg rfl (ask_gt rfl rfl) (b := ((!(decide (((room - (usedT T : Int))) < ((bs.flatMap fun x : SL UInt8 => x.xs).length : Int)))) && ((mgetD (fm T) name none).isNone))) (fun hb => OpQ.env (.cons rfl (gd_t hb) (.nil _) : EnvLe [(37, .pointer (some ⟨b, 1, none⟩))] _) (q_loadp (v := .map (some mb)) sc_103 rfl pk_ rfl)) ?_)
      refine l_step (s_qg rfl (ask_gt rfl rfl) (b := ((!(decide (((room - (usedT T : Int))) < ((bs.flatMap fun x : SL UInt8 => x.xs).length : Int)))) && ((mgetD (fm T) name none).isNone))) (fun hb => OpQ.env (.cons rfl (gd_t hb) (.nil _) : EnvLe [(38, .map (some mb))] _) (q_lenm (ek := strB) (ev := ptV) Tryz.underlying103 rfl pk_)) ?_)
      refine l_step (s_qg rfl (ask_gt rfl rfl) (b := ((!(decide (((room - (usedT T : Int))) < ((bs.flatMap fun x : SL UInt8 => x.xs).length : Int)))) && ((mgetD (fm T) name none).isNone))) (fun hb => OpQ.env (.cons rfl (gd_t hb) (.nil _) : EnvLe [(39, .int .i64 ((fm T).length : Int))] _) (q_geq rfl rfl)) ?_)
      refine l_step (s_qg rfl (ask_f rfl rfl) (b := (!(decide (((room - (usedT T : Int))) < ((bs.flatMap fun x : SL UInt8 => x.xs).length : Int))))) (fun hb => OpQ.env (.cons rfl (gd_t hb) (.cons rfl rfl (.nil _)) : EnvLe [(34, .bool ((mgetD (fm T) name none).isNone)), (40, gd ((!(decide (((room - (usedT T : Int))) < ((bs.flatMap fun x : SL UInt8 => x.xs).length : Int)))) && ((mgetD (fm T) name none).isNone)) (.bool (decide (4096 ≤ ((fm T).length : Int)))))] _) (q_pick_and rfl rfl rfl (fun h => by simp_all))) ?_)
      refine e_q (q_pick_or rfl rfl rfl (fun h => by first | (rw [h]; rfl) | exact congrArg not h)) ?_
      refine e_as rfl ?_
      refine l_n ?_
      rw [has_fm, fm_len]
      refine c_cond rfl (fun h2 => ?_) (fun h2 => ?_)
      · skip
        have hfl := h2
        refine sr ?_
        refine e_as rfl ?_
        refine l_n ?_
        refine c_ret ?_
        refine k_blk_r ?_
        refine k_then_r ?_
        have hr : (appR room calls (vw T) name (bs.flatMap fun x : SL UInt8 => x.xs)) = (31, vw T) := by unfold appR; rw [if_neg h0, if_neg (by rw [hnb]; decide), if_pos (by rw [used_vw, vw_len]; exact hfl)]
        exact t_rt [.pts b (encDisk1 (⟨room, (some mb), (decC calls)⟩ : Disk1)) 105, MP strB ptV mb (fm T), FB 109 5 T] rfl (.tmp rfl .nil) rfl ⟨rfl, T, by rw [hr]; rfl, by rw [hr], rfl⟩
      · skip
        have hfl := h2
        refine sr ?_
        refine e_mv rfl ?_
        refine e_q (q_eqlo (e := (mgetD (fm T) name none)) rfl rfl Tryz.underlying107) ?_
        refine e_as rfl ?_
        refine l_n ?_
        refine c_cond rfl (fun h3 => ?_) (fun h3 => ?_)
        · skip
          refine sr ?_
          refine e_q (q_build (cs := encFile1 (⟨⟨none, 0, 0⟩, 0⟩ : File1)) zc_109 pl_109 rfl rfl) ?_
          refine e_s (s_box (cs := encFile1 (⟨⟨none, 0, 0⟩, 0⟩ : File1)) rfl rfl) ?_
          rintro _ _ ⟨b47, rfl, rfl⟩
          refine e_as rfl ?_
          refine l_n ?_
          refine c_region ?_
          refine e_mv rfl ?_
          refine e_q (q_nilCheck rfl) ?_
          refine e_q (q_fieldp rfl fo_105_1) ?_
          refine e_q (q_loadp (v := .map (some mb)) sc_103 rfl pk_ rfl) ?_
          refine e_mv rfl ?_
          refine e_mv rfl ?_
          refine l_step (s_s0 wn (s_mset (ek := strB) (ev := ptV) (k := name) (v := (some b47)) (m' := (mset (fm T) name (some b47))) Tryz.underlying103 (mkey_str Tryz.underlying9) rfl rfl rfl rfl rfl pk_) ?_)
          rintro _ _ ⟨rfl, rfl⟩
          refine l_nil ?_
          refine k_blk_n ?_
          refine k_then_n ?_
          refine sr ?_
          refine e_mv rfl ?_
          refine e_mv rfl ?_
          refine e_q (q_nilCheck rfl) ?_
          refine e_q (q_fieldp rfl fo_109_0) ?_
          refine e_q (q_loadp (v := .slice none 0 0) sc_38 rfl pk_ rfl) ?_
          refine e_mv rfl ?_
          refine Tr.ent (Ent.nilrow 5 1 _) ?_
          refine e_s (s_appendn (enc := encB) (xs := ([] : List UInt8)) (ys := ((bs.flatMap fun x : SL UInt8 => x.xs) : List UInt8)) (Γ' := fun a' cap' => _) Tryz.underlying38 eo_5 (by decide) rfl rfl (rd_rob pk_) (oneB _) (by first | omega | (simp only [List.length_append, List.length_cons, List.length_nil] at *; omega)) (by first | omega | (simp only [List.length_append, List.length_cons, List.length_nil] at *; omega)) (fun _ _ => pk_)) ?_
          rintro _ _ ⟨a60, c60, rfl, rfl⟩
          simp only [Nat.zero_add, List.nil_append]
          refine e_q (q_nilCheck rfl) ?_
          refine e_q (q_fieldp rfl fo_109_0) ?_
          refine l_step (s_s0 wn (s_storep (ws := [.slice a60 ((bs.flatMap fun x : SL UInt8 => x.xs).length) c60]) (cs := encFile1 (⟨⟨none, 0, 0⟩, 0⟩ : File1)) (cs' := encFile1 (⟨⟨a60, (bs.flatMap fun x : SL UInt8 => x.xs).length, c60⟩, 0⟩ : File1)) rfl rfl rfl sz_38 (by simp [Value.oneCell', strB, ptV, SL.v, SH.v]) (by simp [encFile1]) rfl pk_) ?_)
          rintro _ _ ⟨rfl, rfl⟩
          refine l_n ?_
          refine sr ?_
          refine e_as rfl ?_
          refine l_n ?_
          refine c_ret ?_
          have hr0 : (appR room calls (vw T) name (bs.flatMap fun x : SL UInt8 => x.xs)) = (0, mset (vw T) name ((mgetD (vw T) name zF).1 ++ (bs.flatMap fun x : SL UInt8 => x.xs), (mgetD (vw T) name zF).2)) := by unfold appR; rw [if_neg h0, if_neg (by rw [hnb]; decide), if_neg (by rw [used_vw, vw_len, hfl]; decide)]
          refine Tr.ent (Ent.trans (Ent.pick (A := .pts b47 (encFile1 (⟨⟨a60, (bs.flatMap fun x : SL UInt8 => x.xs).length, c60⟩, 0⟩ : File1)) 109) pk_ (Ent.pick (A := .row 5 1 a60 ((bs.flatMap fun x : SL UInt8 => x.xs).length) c60 ((bs.flatMap fun x : SL UInt8 => x.xs).flatMap encB)) pk_ (Ent.pick (A := FB 109 5 T) pk_ (Ent.refl _)))) (file_new (t := 109) (tb := 5) ⟨name, b47, a60, c60, (bs.flatMap fun x : SL UInt8 => x.xs), 0⟩)) ?_
          have hnn := look_none (opt_none h3)
          have hr : (appR room calls (vw T) name (bs.flatMap fun x : SL UInt8 => x.xs)) = (0, vw (T ++ [⟨name, b47, a60, c60, (bs.flatMap fun x : SL UInt8 => x.xs), 0⟩])) := by rw [hr0, getD_no (opt_none h3)]; exact congrArg (Prod.mk 0) (vw_new (e := ⟨name, b47, a60, c60, (bs.flatMap fun x : SL UInt8 => x.xs), 0⟩) hnn).symm
          rw [show mset (fm T) name (some b47) = fm (T ++ [⟨name, b47, a60, c60, (bs.flatMap fun x : SL UInt8 => x.xs), 0⟩]) from fm_new (e := ⟨name, b47, a60, c60, (bs.flatMap fun x : SL UInt8 => x.xs), 0⟩) hnn]
          exact t_rt [.pts b (encDisk1 (⟨room, (some mb), (decC calls)⟩ : Disk1)) 105, MP strB ptV mb (fm (T ++ [⟨name, b47, a60, c60, (bs.flatMap fun x : SL UInt8 => x.xs), 0⟩])), FB 109 5 (T ++ [⟨name, b47, a60, c60, (bs.flatMap fun x : SL UInt8 => x.xs), 0⟩])] rfl (.tmp rfl .nil) rfl ⟨rfl, (T ++ [⟨name, b47, a60, c60, (bs.flatMap fun x : SL UInt8 => x.xs), 0⟩]), by rw [hr]; rfl, by rw [hr], rfl⟩
        · skip
          obtain ⟨j, e, hjl, hj, hnm, hmg, hvg⟩ := look_some (opt_some h3)
          rw [hmg]
          refine Tr.ent (file_open (t := 109) (tb := 5) hj pk_) ?_
          have hua := used_at hj
          refine c_skip ?_
          refine k_blk_n ?_
          refine k_then_n ?_
          refine sr ?_
          refine e_mv rfl ?_
          refine e_mv rfl ?_
          refine e_q (q_nilCheck rfl) ?_
          refine e_q (q_fieldp rfl fo_109_0) ?_
          refine e_q (q_loadp (v := .slice e.a e.xs.length e.cap) sc_38 rfl pk_ rfl) ?_
          refine e_mv rfl ?_
          refine e_s (s_appendn (enc := encB) (xs := (e.xs : List UInt8)) (ys := ((bs.flatMap fun x : SL UInt8 => x.xs) : List UInt8)) (Γ' := fun a' cap' => _) Tryz.underlying38 eo_5 (by decide) rfl rfl (rd_rob pk_) (oneB _) (by first | omega | (simp only [List.length_append, List.length_cons, List.length_nil] at *; omega)) (by first | omega | (simp only [List.length_append, List.length_cons, List.length_nil] at *; omega)) (fun _ _ => pk_)) ?_
          rintro _ _ ⟨a60, c60, rfl, rfl⟩
          refine e_q (q_nilCheck rfl) ?_
          refine e_q (q_fieldp rfl fo_109_0) ?_
          refine l_step (s_s0 wn (s_storep (ws := [.slice a60 (e.xs.length + (bs.flatMap fun x : SL UInt8 => x.xs).length) c60]) (cs := encFile1 (⟨⟨e.a, e.xs.length, e.cap⟩, e.safe⟩ : File1)) (cs' := encFile1 (⟨⟨a60, (e.xs.length + (bs.flatMap fun x : SL UInt8 => x.xs).length), c60⟩, e.safe⟩ : File1)) rfl rfl rfl sz_38 (by simp [Value.oneCell', strB, ptV, SL.v, SH.v]) (by simp [encFile1]) rfl pk_) ?_)
          rintro _ _ ⟨rfl, rfl⟩
          refine l_n ?_
          refine sr ?_
          refine e_as rfl ?_
          refine l_n ?_
          refine c_ret ?_
          have hr0 : (appR room calls (vw T) name (bs.flatMap fun x : SL UInt8 => x.xs)) = (0, mset (vw T) name ((mgetD (vw T) name zF).1 ++ (bs.flatMap fun x : SL UInt8 => x.xs), (mgetD (vw T) name zF).2)) := by unfold appR; rw [if_neg h0, if_neg (by rw [hnb]; decide), if_neg (by rw [used_vw, vw_len, hfl]; decide)]
          rw [show e.xs.length + (bs.flatMap fun x : SL UInt8 => x.xs).length = (e.xs ++ (bs.flatMap fun x : SL UInt8 => x.xs)).length from (List.length_append ..).symm]
          refine Tr.ent (Ent.trans (Ent.pick (A := .pts e.blk (encFile1 (⟨⟨a60, (e.xs ++ (bs.flatMap fun x : SL UInt8 => x.xs)).length, c60⟩, e.safe⟩ : File1)) 109) pk_ (Ent.pick (A := .row 5 1 a60 ((e.xs ++ (bs.flatMap fun x : SL UInt8 => x.xs)).length) c60 ((e.xs ++ (bs.flatMap fun x : SL UInt8 => x.xs)).flatMap encB)) pk_ (Ent.pick (A := Bun ((fL 109 5 T).eraseIdx j)) pk_ (Ent.refl _)))) (file_shut (t := 109) (tb := 5) ⟨e.name, e.blk, a60, c60, e.xs ++ (bs.flatMap fun x : SL UInt8 => x.xs), e.safe⟩ hj)) ?_
          have hr : (appR room calls (vw T) name (bs.flatMap fun x : SL UInt8 => x.xs)) = (0, vw (T.set j ⟨e.name, e.blk, a60, c60, e.xs ++ (bs.flatMap fun x : SL UInt8 => x.xs), e.safe⟩)) := by rw [hr0, getD_of hvg, vw_set (e' := ⟨e.name, e.blk, a60, c60, e.xs ++ (bs.flatMap fun x : SL UInt8 => x.xs), e.safe⟩) hT.nd hj rfl, hnm]
          rw [← fm_set (e' := ⟨e.name, e.blk, a60, c60, e.xs ++ (bs.flatMap fun x : SL UInt8 => x.xs), e.safe⟩) hj rfl rfl]
          exact t_rt [.pts b (encDisk1 (⟨room, (some mb), (decC calls)⟩ : Disk1)) 105, MP strB ptV mb (fm (T.set j ⟨e.name, e.blk, a60, c60, e.xs ++ (bs.flatMap fun x : SL UInt8 => x.xs), e.safe⟩)), FB 109 5 (T.set j ⟨e.name, e.blk, a60, c60, e.xs ++ (bs.flatMap fun x : SL UInt8 => x.xs), e.safe⟩)] rfl (.tmp rfl .nil) rfl ⟨rfl, (T.set j ⟨e.name, e.blk, a60, c60, e.xs ++ (bs.flatMap fun x : SL UInt8 => x.xs), e.safe⟩), by rw [hr]; rfl, by rw [hr], rfl⟩
end Go.Dsk.Y

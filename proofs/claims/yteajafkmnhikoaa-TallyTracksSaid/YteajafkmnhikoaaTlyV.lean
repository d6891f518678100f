/-
  The track of package tally, walked.
-/
import Derived.Test.YteajafkmnhikoaaTlyS
import Derived.Test.YteajafkmnhikoaaTlyQ
import Derived.Test.YteajafkmnhikoaaTlyW
import Derived.Test.YteajafkmnhikoaaDspL
import Derived.Test.YteajafkmnhikoaaProg
set_option maxRecDepth 100000
set_option maxHeartbeats 4000000
set_option linter.unusedSimpArgs false
set_option linter.unusedVariables false
namespace Go.Tly.V
open Go Go.SL Go.Proofs Go.Tly Go.Dsp.L
attribute [local irreducible] Go.SL.Ent
theorem eo_3 : elemOk Try.prog 3 1 8 = true := by kernel_rfl
theorem fo_113_0 : fieldOff Try.prog 113 0 = some (0, 22) := by kernel_rfl
theorem fo_113_1 : fieldOff Try.prog 113 1 = some (1, 111) := by kernel_rfl
theorem fo_113_2 : fieldOff Try.prog 113 2 = some (2, 111) := by kernel_rfl
theorem fo_60_0 : fieldOff Try.prog 60 0 = some (0, 22) := by kernel_rfl
theorem pl_113 : placesOf Try.prog 113 = some [(0, 1), (1, 1), (2, 1)] := by kernel_rfl
theorem sc_111 : isScalar Try.prog 111 = true := by kernel_rfl
theorem sc_22 : isScalar Try.prog 22 = true := by kernel_rfl
theorem sc_3 : isScalar Try.prog 3 = true := by kernel_rfl
theorem sz_3 : sizeIs Try.prog 3 = some 1 := by kernel_rfl
theorem zc_113 : zeroCs Try.prog 113 = some [.slice none 0 0, .map none, .map none] := by kernel_rfl
theorem zi_4 : (Try.prog.info? 4).bind (·.zero) = some (Value.bool false) := by kernel_rfl

theorem say_spec (b : Nat) (d : PD) (q : PX) (yes : Bool) (ids_a : Option Addr) (ids_n ids_c : Nat) (ids : List Int) (hids_n : ids.length = ids_n) (ρ : Hp) (hro : Ro ρ 1 ids_a ids_n ids_c (ids.flatMap encI)) : Spec0 Try.prog 30 #[.pointer (some ⟨b, 0, none⟩), .bool yes, .slice ids_a ids_n ids_c] ρ [.pts b (encPoll (⟨⟨q.a, q.n, q.c⟩, (some q.bs), (some q.by_)⟩ : Poll)) 113, .row 3 1 q.a q.n q.c (d.vs.flatMap encI), MP (Value.int .i64) Value.bool q.bs d.said, MP (Value.int .i64) Value.bool q.by_ d.yes] (fun v Γ' => v = .tuple #[] ∧ Γ' = [.pts b (encPoll (⟨⟨q.a, q.n, q.c⟩, (some q.bs), (some q.by_)⟩ : Poll)) 113, .row 3 1 q.a q.n q.c (d.vs.flatMap encI), MP (Value.int .i64) Value.bool q.bs (sayF d yes ids).1, MP (Value.int .i64) Value.bool q.by_ (sayF d yes ids).2]) := by
  refine spec_of (n := 37) (vs := [_, _, _]) (σ := [(0, _), (1, _), (2, _)]) Try.func30 rfl rfl rfl rfl fun E Δ => ?_
  simp only [List.cons_append, List.nil_append]
  have hrob : ids_n ≤ 9223372036854775807 := Nat.le_trans hro.2.1 hro.2.2.1
  refine c_seq ?_
  refine c_region ?_
  refine l_step (s_q rfl wn (q_move rfl) ?_)
  refine l_step (s_q rfl wn (q_len Try.underlying22 rfl) ?_)
  refine l_step (s_q rfl wn (q_move rfl) ?_)
  refine l_nil ?_
  refine k_then_n ?_
  refine c_block ?_
  refine Tr.env (σ' := [(0, _), (1, _), (8, _), (9, _), (10, _)]) (.cons rfl rfl (.cons rfl rfl (.cons rfl rfl (.cons rfl rfl (.cons rfl rfl (.nil _)))))) ?_
  refine t_loop (ι := Lp (Nat)) (fun x => x.d ≤ ids_n) (fun x => ids_n - x.d) (fun x => [(0, .pointer (some ⟨b, 0, none⟩)), (1, .bool yes), (8, .slice ids_a ids_n ids_c), (9, .int .i64 (ids_n : Int)), (10, .int .i64 (x.d : Int))]) (fun x => .pts b (encPoll (⟨⟨q.a, q.n, q.c⟩, (some q.bs), (some q.by_)⟩ : Poll)) 113 :: .row 3 1 q.a q.n q.c (d.vs.flatMap encI) :: MP (Value.int .i64) Value.bool q.bs (((ids.take x.d).foldl (sayStep yes) (d.said, d.yes)).1) :: MP (Value.int .i64) Value.bool q.by_ (((ids.take x.d).foldl (sayStep yes) (d.said, d.yes)).2) :: Δ) (⟨0, none, 0, none, 0, none, 0⟩ : Lp _) (Nat.zero_le _) ?_ ?_ ?_
  · exact .cons rfl (by first | rfl | exact inte (by omega) | (simp; done) | (simp <;> omega) | simp [*]) (.cons rfl (by first | rfl | exact inte (by omega) | (simp; done) | (simp <;> omega) | simp [*]) (.cons rfl (by first | rfl | exact inte (by omega) | (simp; done) | (simp <;> omega) | simp [*]) (.cons rfl (by first | rfl | exact inte (by omega) | (simp; done) | (simp <;> omega) | simp [*]) (.cons rfl (by first | rfl | exact inte (by omega) | (simp; done) | (simp <;> omega) | simp [*]) (.nil _)))))
  · exact (by repeat (first | exact Ent.nil _ | exact Ent.refl _ | (refine Ent.pick (by repeat (first | exact Pick.here | apply Pick.there)) ?_) | refine Ent.skip ?_))
  intro x hx
  refine c_seq ?_
  refine c_region ?_
  refine l_step (s_q rfl wn (q_lss rfl rfl) ?_)
  refine l_nil ?_
  refine k_then_n ?_
  refine c_seq ?_
  refine c_cond rfl (fun h0 => ?_) (fun h0 => ?_)
  · try simp only [Bool.and_eq_true, Bool.or_eq_true, Bool.not_eq_true', Bool.and_eq_false_iff, Bool.or_eq_false_iff, Bool.not_eq_false', decide_eq_true_eq, decide_eq_false_iff_not, Bool.not_eq_eq_eq_not, Bool.not_true, Bool.not_false, Bool.not_eq_true, Bool.not_eq_false, beq_iff_eq, bne_iff_ne, ne_eq, Decidable.not_not] at h0
    refine c_skip ?_
    refine k_then_n ?_
    refine c_seq ?_
    refine c_block ?_
    refine c_seq ?_
    refine c_region ?_
    refine l_step (s_q rfl wn (q_indexe x.d Try.underlying22 sz_3 rfl rfl (by first | assumption | exact rd_ro (by assumption) | exact rd_row (by repeat (first | exact Pick.here | apply Pick.there))) (by decide) rfl (by first | assumption | omega | (simp only [List.length_cons, List.length_nil]; omega))) ?_)
    refine l_step (s_q rfl wn (q_loade (enc := encI) (xs := ids) (j := x.d) (off := 0) sc_3 rfl (by first | assumption | exact rd_ro (by assumption) | exact rd_row (by repeat (first | exact Pick.here | apply Pick.there))) (fun _ => rfl) (by first | assumption | omega | (simp only [List.length_cons, List.length_nil]; omega)) (by decide) rfl) ?_)
    refine l_step (s_q rfl wn (q_assign rfl) ?_)
    refine l_nil ?_
    refine k_then_n ?_
    refine c_seq ?_
    refine c_region ?_
    refine l_step (s_q rfl wn (q_move rfl) ?_)
    refine l_step (s_q rfl wn (q_nilCheck rfl) ?_)
    refine l_step (s_q rfl wn (q_fieldp rfl fo_113_1) ?_)
    refine l_step (s_q rfl wn (q_loadp (v := .map (some q.bs)) sc_111 rfl (by repeat (first | exact Pick.here | apply Pick.there)) rfl) ?_)
    refine l_step (s_q rfl wn (q_move rfl) ?_)
    refine l_step (s_q rfl wn (q_look (v := .bool (mgetD (((ids.take x.d).foldl (sayStep yes) (d.said, d.yes)).1) (ids.getD x.d default) false)) (ek := (Value.int .i64)) (ev := Value.bool) (k := (ids.getD x.d default)) (zv := false) Try.underlying111 (mkey_int Try.underlying3) zi_4 rfl rfl (by repeat (first | exact Pick.here | apply Pick.there)) rfl) ?_)
    refine l_step (s_q rfl wn (q_not rfl) ?_)
    refine l_nil ?_
    refine k_then_n ?_
    refine c_cond rfl (fun h1 => ?_) (fun h1 => ?_)
    · skip
      refine c_draw (m := 17) (bs := #[false, false, false, false, false, false, false, false, false, false, false, false, false, false, false, false, false]) [.pts b (encPoll (⟨⟨q.a, q.n, q.c⟩, (some q.bs), (some q.by_)⟩ : Poll)) 113, .row 3 1 q.a q.n q.c (d.vs.flatMap encI)] (by kernel_rfl) rfl (by kernel_rfl) ?_
      refine r_take (i := 0) (bs' := #[true, false, false, false, false, false, false, false, false, false, false, false, false, false, false, false, false]) rfl (by kernel_rfl) (by kernel_rfl) (by kernel_rfl) (fun _ _ _ h => h) rfl wn (q_move rfl) (Hp.le_refl _) (by repeat (first | exact Ent.nil _ | exact Ent.refl _ | (refine Ent.pick (by repeat (first | exact Pick.here | apply Pick.there)) ?_) | refine Ent.skip ?_)) (by kernel_rfl) ?_
      refine r_take (i := 1) (bs' := #[true, true, false, false, false, false, false, false, false, false, false, false, false, false, false, false, false]) rfl (by kernel_rfl) (by kernel_rfl) (by kernel_rfl) (fun _ _ _ h => h) rfl wn (q_nilCheck rfl) (Hp.le_refl _) (by repeat (first | exact Ent.nil _ | exact Ent.refl _ | (refine Ent.pick (by repeat (first | exact Pick.here | apply Pick.there)) ?_) | refine Ent.skip ?_)) (by kernel_rfl) ?_
      refine r_take (i := 2) (bs' := #[true, true, true, false, false, false, false, false, false, false, false, false, false, false, false, false, false]) rfl (by kernel_rfl) (by kernel_rfl) (by kernel_rfl) (fun _ _ _ h => h) rfl wn (q_fieldp rfl fo_113_1) (Hp.le_refl _) (by repeat (first | exact Ent.nil _ | exact Ent.refl _ | (refine Ent.pick (by repeat (first | exact Pick.here | apply Pick.there)) ?_) | refine Ent.skip ?_)) (by kernel_rfl) ?_
      refine r_take (i := 3) (bs' := #[true, true, true, true, false, false, false, false, false, false, false, false, false, false, false, false, false]) rfl (by kernel_rfl) (by kernel_rfl) (by kernel_rfl) (fun _ _ _ h => h) rfl wn (q_loadp (v := .map (some q.bs)) sc_111 rfl (by repeat (first | exact Pick.here | apply Pick.there)) rfl) (Hp.le_refl _) (by repeat (first | exact Ent.nil _ | exact Ent.refl _ | (refine Ent.pick (by repeat (first | exact Pick.here | apply Pick.there)) ?_) | refine Ent.skip ?_)) (by kernel_rfl) ?_
      refine r_take (i := 4) (bs' := #[true, true, true, true, true, false, false, false, false, false, false, false, false, false, false, false, false]) rfl (by kernel_rfl) (by kernel_rfl) (by kernel_rfl) (fun _ _ _ h => h) rfl wn (q_move rfl) (Hp.le_refl _) (by repeat (first | exact Ent.nil _ | exact Ent.refl _ | (refine Ent.pick (by repeat (first | exact Pick.here | apply Pick.there)) ?_) | refine Ent.skip ?_)) (by kernel_rfl) ?_
      refine r_take (i := 5) (bs' := #[true, true, true, true, true, true, false, false, false, false, false, false, false, false, false, false, false]) rfl (by kernel_rfl) (by kernel_rfl) (by kernel_rfl) (fun _ _ _ h => h) rfl wn (q_move rfl) (Hp.le_refl _) (by repeat (first | exact Ent.nil _ | exact Ent.refl _ | (refine Ent.pick (by repeat (first | exact Pick.here | apply Pick.there)) ?_) | refine Ent.skip ?_)) (by kernel_rfl) ?_
      refine r_take (i := 6) (bs' := #[true, true, true, true, true, true, true, false, false, false, false, false, false, false, false, false, false]) rfl (by kernel_rfl) (by kernel_rfl) (by kernel_rfl) (fun _ _ _ h => h) rfl wn (q_nilCheck rfl) (Hp.le_refl _) (by repeat (first | exact Ent.nil _ | exact Ent.refl _ | (refine Ent.pick (by repeat (first | exact Pick.here | apply Pick.there)) ?_) | refine Ent.skip ?_)) (by kernel_rfl) ?_
      refine r_take (i := 7) (bs' := #[true, true, true, true, true, true, true, true, false, false, false, false, false, false, false, false, false]) rfl (by kernel_rfl) (by kernel_rfl) (by kernel_rfl) (fun _ _ _ h => h) rfl wn (q_fieldp rfl fo_113_2) (Hp.le_refl _) (by repeat (first | exact Ent.nil _ | exact Ent.refl _ | (refine Ent.pick (by repeat (first | exact Pick.here | apply Pick.there)) ?_) | refine Ent.skip ?_)) (by kernel_rfl) ?_
      refine r_take (i := 8) (bs' := #[true, true, true, true, true, true, true, true, true, false, false, false, false, false, false, false, false]) rfl (by kernel_rfl) (by kernel_rfl) (by kernel_rfl) (fun _ _ _ h => h) rfl wn (q_loadp (v := .map (some q.by_)) sc_111 rfl (by repeat (first | exact Pick.here | apply Pick.there)) rfl) (Hp.le_refl _) (by repeat (first | exact Ent.nil _ | exact Ent.refl _ | (refine Ent.pick (by repeat (first | exact Pick.here | apply Pick.there)) ?_) | refine Ent.skip ?_)) (by kernel_rfl) ?_
      refine r_take (i := 9) (bs' := #[true, true, true, true, true, true, true, true, true, true, false, false, false, false, false, false, false]) rfl (by kernel_rfl) (by kernel_rfl) (by kernel_rfl) (fun _ _ _ h => h) rfl wn (q_move rfl) (Hp.le_refl _) (by repeat (first | exact Ent.nil _ | exact Ent.refl _ | (refine Ent.pick (by repeat (first | exact Pick.here | apply Pick.there)) ?_) | refine Ent.skip ?_)) (by kernel_rfl) ?_
      refine r_take (i := 10) (bs' := #[true, true, true, true, true, true, true, true, true, true, true, false, false, false, false, false, false]) rfl (by kernel_rfl) (by kernel_rfl) (by kernel_rfl) (fun _ _ _ h => h) rfl wn (q_move rfl) (Hp.le_refl _) (by repeat (first | exact Ent.nil _ | exact Ent.refl _ | (refine Ent.pick (by repeat (first | exact Pick.here | apply Pick.there)) ?_) | refine Ent.skip ?_)) (by kernel_rfl) ?_
      refine r_one (i := 11) (bs' := #[true, true, true, true, true, true, true, true, true, true, true, true, false, false, false, false, false]) (by kernel_rfl) (by kernel_rfl) ?_
      refine o_step rfl (s_s rfl wn (s_mapEntry (ek := (Value.int .i64)) (ev := Value.bool) (k := (ids.getD x.d default)) (zv := false) (m' := (mset (((ids.take x.d).foldl (sayStep yes) (d.said, d.yes)).1) (ids.getD x.d default) (mgetD (((ids.take x.d).foldl (sayStep yes) (d.said, d.yes)).1) (ids.getD x.d default) false))) (Γs := fun _ => _) Try.underlying111 (mkey_int Try.underlying3) zi_4 rfl rfl rfl (fun _ => (by repeat (first | exact Pick.here | apply Pick.there)))) ?_)
      rintro _ _ ⟨st32, rfl, rfl⟩
      refine r_cont (Hp.le_refl _) (by repeat (first | exact Ent.nil _ | exact Ent.refl _ | (refine Ent.pick (by repeat (first | exact Pick.here | apply Pick.there)) ?_) | refine Ent.skip ?_)) ?_
      refine r_take (i := 12) (bs' := #[true, true, true, true, true, true, true, true, true, true, true, true, true, false, false, false, false]) rfl (by kernel_rfl) (by kernel_rfl) (by kernel_rfl) (fun _ _ _ h => h) rfl wn (q_extract rfl rfl) (Hp.le_refl _) (by repeat (first | exact Ent.nil _ | exact Ent.refl _ | (refine Ent.pick (by repeat (first | exact Pick.here | apply Pick.there)) ?_) | refine Ent.skip ?_)) (by kernel_rfl) ?_
      refine r_one (i := 13) (bs' := #[true, true, true, true, true, true, true, true, true, true, true, true, true, true, false, false, false]) (by kernel_rfl) (by kernel_rfl) ?_
      refine o_step rfl (s_s0 wn (s_entryStore (ek := (Value.int .i64)) (ev := Value.bool) (k := (ids.getD x.d default)) (st := st32) (v := true) (m' := (mset (((ids.take x.d).foldl (sayStep yes) (d.said, d.yes)).1) (ids.getD x.d default) true)) (mkey_int Try.underlying3) rfl rfl rfl rfl (mset_two _ _ _ _) (by repeat (first | exact Pick.here | apply Pick.there))) ?_)
      rintro _ _ ⟨rfl, rfl⟩
      refine r_cont (Hp.le_refl _) (by repeat (first | exact Ent.nil _ | exact Ent.refl _ | (refine Ent.pick (by repeat (first | exact Pick.here | apply Pick.there)) ?_) | refine Ent.skip ?_)) ?_
      refine r_one (i := 14) (bs' := #[true, true, true, true, true, true, true, true, true, true, true, true, true, true, true, false, false]) (by kernel_rfl) (by kernel_rfl) ?_
      refine o_step rfl (s_s rfl wn (s_mapEntry (ek := (Value.int .i64)) (ev := Value.bool) (k := (ids.getD x.d default)) (zv := false) (m' := (mset (((ids.take x.d).foldl (sayStep yes) (d.said, d.yes)).2) (ids.getD x.d default) (mgetD (((ids.take x.d).foldl (sayStep yes) (d.said, d.yes)).2) (ids.getD x.d default) false))) (Γs := fun _ => _) Try.underlying111 (mkey_int Try.underlying3) zi_4 rfl rfl rfl (fun _ => (by repeat (first | exact Pick.here | apply Pick.there)))) ?_)
      rintro _ _ ⟨st34, rfl, rfl⟩
      refine r_cont (Hp.le_refl _) (by repeat (first | exact Ent.nil _ | exact Ent.refl _ | (refine Ent.pick (by repeat (first | exact Pick.here | apply Pick.there)) ?_) | refine Ent.skip ?_)) ?_
      refine r_take (i := 15) (bs' := #[true, true, true, true, true, true, true, true, true, true, true, true, true, true, true, true, false]) rfl (by kernel_rfl) (by kernel_rfl) (by kernel_rfl) (fun _ _ _ h => h) rfl wn (q_extract rfl rfl) (Hp.le_refl _) (by repeat (first | exact Ent.nil _ | exact Ent.refl _ | (refine Ent.pick (by repeat (first | exact Pick.here | apply Pick.there)) ?_) | refine Ent.skip ?_)) (by kernel_rfl) ?_
      refine r_one (i := 16) (bs' := #[true, true, true, true, true, true, true, true, true, true, true, true, true, true, true, true, true]) (by kernel_rfl) (by kernel_rfl) ?_
      refine o_step rfl (s_s0 wn (s_entryStore (ek := (Value.int .i64)) (ev := Value.bool) (k := (ids.getD x.d default)) (st := st34) (v := yes) (m' := (mset (((ids.take x.d).foldl (sayStep yes) (d.said, d.yes)).2) (ids.getD x.d default) yes)) (mkey_int Try.underlying3) rfl rfl rfl rfl (mset_two _ _ _ _) (by repeat (first | exact Pick.here | apply Pick.there))) ?_)
      rintro _ _ ⟨rfl, rfl⟩
      refine r_cont (Hp.le_refl _) (by repeat (first | exact Ent.nil _ | exact Ent.refl _ | (refine Ent.pick (by repeat (first | exact Pick.here | apply Pick.there)) ?_) | refine Ent.skip ?_)) ?_
      refine r_done (by kernel_rfl) ?_
      refine k_blk_n ?_
      refine k_then_n ?_
      refine c_region ?_
      refine l_step (s_q rfl wn (q_add rfl rfl (by omega) (by omega)) ?_)
      refine l_step (s_q rfl wn (q_move rfl) ?_)
      refine l_nil ?_
      refine k_then_n ?_
      have e1 : ((ids.take (x.d + 1)).foldl (sayStep yes) (d.said, d.yes)) = (mset ((ids.take x.d).foldl (sayStep yes) (d.said, d.yes)).1 (ids.getD x.d default) true, mset ((ids.take x.d).foldl (sayStep yes) (d.said, d.yes)).2 (ids.getD x.d default) yes) := by rw [foldl_take _ _ _ _ (by omega)]; exact if_neg (by rw [show mgetD ((ids.take x.d).foldl (sayStep yes) (d.said, d.yes)).1 (ids.getD x.d default) false = false from by simpa using h1]; decide)
      have e2 : mset ((ids.take x.d).foldl (sayStep yes) (d.said, d.yes)).1 (ids.getD x.d default) true = ((ids.take (x.d + 1)).foldl (sayStep yes) (d.said, d.yes)).1 := by rw [e1]
      have e3 : mset ((ids.take x.d).foldl (sayStep yes) (d.said, d.yes)).2 (ids.getD x.d default) yes = ((ids.take (x.d + 1)).foldl (sayStep yes) (d.said, d.yes)).2 := by rw [e1]
      rw [e2, e3]
      exact t_next (⟨x.d + 1, none, 0, none, 0, none, 0⟩ : Lp _) ⟨by simp only []; omega, by simp only []; omega⟩ (.cons rfl (by first | rfl | exact inte (by omega) | (simp; done) | (simp <;> omega) | simp [*]) (.cons rfl (by first | rfl | exact inte (by omega) | (simp; done) | (simp <;> omega) | simp [*]) (.cons rfl (by first | rfl | exact inte (by omega) | (simp; done) | (simp <;> omega) | simp [*]) (.cons rfl (by first | rfl | exact inte (by omega) | (simp; done) | (simp <;> omega) | simp [*]) (.cons rfl (by first | rfl | exact inte (by omega) | (simp; done) | (simp <;> omega) | simp [*]) (.nil _)))))) (by repeat (first | exact Ent.nil _ | exact Ent.refl _ | (refine Ent.pick (by repeat (first | exact Pick.here | apply Pick.there)) ?_) | refine Ent.skip ?_))
    · skip
      refine c_skip ?_
      refine k_blk_n ?_
      refine k_then_n ?_
      refine c_region ?_
      refine l_step (s_q rfl wn (q_add rfl rfl (by omega) (by omega)) ?_)
      refine l_step (s_q rfl wn (q_move rfl) ?_)
      refine l_nil ?_
      refine k_then_n ?_
      have e1 : ((ids.take (x.d + 1)).foldl (sayStep yes) (d.said, d.yes)) = ((ids.take x.d).foldl (sayStep yes) (d.said, d.yes)) := by rw [foldl_take _ _ _ _ (by omega)]; exact if_pos (by simpa using h1)
      rw [← e1]
      exact t_next (⟨x.d + 1, none, 0, none, 0, none, 0⟩ : Lp _) ⟨by simp only []; omega, by simp only []; omega⟩ (.cons rfl (by first | rfl | exact inte (by omega) | (simp; done) | (simp <;> omega) | simp [*]) (.cons rfl (by first | rfl | exact inte (by omega) | (simp; done) | (simp <;> omega) | simp [*]) (.cons rfl (by first | rfl | exact inte (by omega) | (simp; done) | (simp <;> omega) | simp [*]) (.cons rfl (by first | rfl | exact inte (by omega) | (simp; done) | (simp <;> omega) | simp [*]) (.cons rfl (by first | rfl | exact inte (by omega) | (simp; done) | (simp <;> omega) | simp [*]) (.nil _)))))) (by repeat (first | exact Ent.nil _ | exact Ent.refl _ | (refine Ent.pick (by repeat (first | exact Pick.here | apply Pick.there)) ?_) | refine Ent.skip ?_))
  · try simp only [Bool.and_eq_true, Bool.or_eq_true, Bool.not_eq_true', Bool.and_eq_false_iff, Bool.or_eq_false_iff, Bool.not_eq_false', decide_eq_true_eq, decide_eq_false_iff_not, Bool.not_eq_eq_eq_not, Bool.not_true, Bool.not_false, Bool.not_eq_true, Bool.not_eq_false, beq_iff_eq, bne_iff_ne, ne_eq, Decidable.not_not] at h0
    have hk : x.d = ids.length := by omega
    have hof : ((ids.take x.d).foldl (sayStep yes) (d.said, d.yes)) = (sayF d yes ids) := by rw [hk, List.take_length]; rfl
    rw [hof]
    refine c_exit ?_
    refine k_then_x ?_
    refine k_then_x ?_
    refine k_blk_x ?_
    refine k_body_n ?_
    exact t_ret [.pts b (encPoll (⟨⟨q.a, q.n, q.c⟩, (some q.bs), (some q.by_)⟩ : Poll)) 113, .row 3 1 q.a q.n q.c (d.vs.flatMap encI), MP (Value.int .i64) Value.bool q.bs (sayF d yes ids).1, MP (Value.int .i64) Value.bool q.by_ (sayF d yes ids).2] rfl .nil rfl (Hp.le_refl _) ⟨rfl, rfl, rfl⟩ (by repeat (first | exact Ent.nil _ | exact Ent.refl _ | (refine Ent.pick (by repeat (first | exact Pick.here | apply Pick.there)) ?_) | refine Ent.skip ?_))

theorem stands_spec (b : Nat) (d : PD) (q : PX) (ρ : Hp) (hl : q.n ≤ 1000000) : Spec0 Try.prog 28 #[.pointer (some ⟨b, 0, none⟩)] ρ [.pts b (encPoll (⟨⟨q.a, q.n, q.c⟩, (some q.bs), (some q.by_)⟩ : Poll)) 113, .row 3 1 q.a q.n q.c (d.vs.flatMap encI), MP (Value.int .i64) Value.bool q.bs d.said, MP (Value.int .i64) Value.bool q.by_ d.yes] (fun v Γ' => v = .int .i64 (standsF d) ∧ Γ' = [.pts b (encPoll (⟨⟨q.a, q.n, q.c⟩, (some q.bs), (some q.by_)⟩ : Poll)) 113, .row 3 1 q.a q.n q.c (d.vs.flatMap encI), MP (Value.int .i64) Value.bool q.bs d.said, MP (Value.int .i64) Value.bool q.by_ d.yes]) := by
  refine spec_of (n := 53) (vs := [_]) (σ := [(0, _)]) Try.func28 rfl rfl rfl rfl fun E Δ => ?_
  simp only [List.cons_append, List.nil_append]
  refine t_rd (Γ := _) (rd_row (Pick.there Pick.here)) fun hb1 _ _ _ => ?_
  replace hb1 := lenz hb1 (fun _ => rfl) (by decide)
  refine c_seq ?_
  refine c_region ?_
  refine l_step (s_q rfl wn (q_assign rfl) ?_)
  refine l_nil ?_
  refine k_then_n ?_
  refine c_seq ?_
  refine c_region ?_
  refine l_step (s_q rfl wn (q_assign rfl) ?_)
  refine l_step (s_q rfl wn (q_assign rfl) ?_)
  refine l_nil ?_
  refine k_then_n ?_
  refine c_seq ?_
  refine c_seq ?_
  refine c_region ?_
  refine l_step (s_q rfl wn (q_move rfl) ?_)
  refine l_step (s_q rfl wn (q_nilCheck rfl) ?_)
  refine l_step (s_q rfl wn (q_fieldp rfl fo_113_0) ?_)
  refine l_step (s_q rfl wn (q_loadp (v := .slice q.a q.n q.c) sc_22 rfl (by repeat (first | exact Pick.here | apply Pick.there)) rfl) ?_)
  refine l_step (s_q rfl wn (q_len Try.underlying22 rfl) ?_)
  refine l_step (s_q rfl wn (q_move rfl) ?_)
  refine l_nil ?_
  refine k_then_n ?_
  refine c_block ?_
  refine Tr.env (σ' := [(0, _), (2, _), (3, _), (4, _), (11, _), (12, _), (13, _)]) (.cons rfl rfl (.cons rfl rfl (.cons rfl rfl (.cons rfl rfl (.cons rfl rfl (.cons rfl rfl (.cons rfl rfl (.nil _)))))))) ?_
  refine t_loop (ι := Lp (Nat)) (fun x => x.d ≤ q.n) (fun x => q.n - x.d) (fun x => [(0, .pointer (some ⟨b, 0, none⟩)), (2, .int .i64 0), (3, .int .i64 (((d.vs.take x.d).foldl (stStep d.said d.yes) (0, 0)).1)), (4, .int .i64 (((d.vs.take x.d).foldl (stStep d.said d.yes) (0, 0)).2)), (11, .slice q.a q.n q.c), (12, .int .i64 (q.n : Int)), (13, .int .i64 (x.d : Int))]) (fun x => .pts b (encPoll (⟨⟨q.a, q.n, q.c⟩, (some q.bs), (some q.by_)⟩ : Poll)) 113 :: .row 3 1 q.a q.n q.c (d.vs.flatMap encI) :: MP (Value.int .i64) Value.bool q.bs d.said :: MP (Value.int .i64) Value.bool q.by_ d.yes :: Δ) (⟨0, none, 0, none, 0, none, 0⟩ : Lp _) (Nat.zero_le _) ?_ ?_ ?_
  · exact .cons rfl (by first | rfl | exact inte (by omega) | (simp; done) | (simp <;> omega) | simp [*]) (.cons rfl (by first | rfl | exact inte (by omega) | (simp; done) | (simp <;> omega) | simp [*]) (.cons rfl (by first | rfl | exact inte (by omega) | (simp; done) | (simp <;> omega) | simp [*]) (.cons rfl (by first | rfl | exact inte (by omega) | (simp; done) | (simp <;> omega) | simp [*]) (.cons rfl (by first | rfl | exact inte (by omega) | (simp; done) | (simp <;> omega) | simp [*]) (.cons rfl (by first | rfl | exact inte (by omega) | (simp; done) | (simp <;> omega) | simp [*]) (.cons rfl (by first | rfl | exact inte (by omega) | (simp; done) | (simp <;> omega) | simp [*]) (.nil _)))))))
  · exact (by repeat (first | exact Ent.nil _ | exact Ent.refl _ | (refine Ent.pick (by repeat (first | exact Pick.here | apply Pick.there)) ?_) | refine Ent.skip ?_))
  intro x hx
  have hst := st_le d.said d.yes (d.vs.take x.d) (0, 0)
  rw [List.length_take] at hst
  simp only [] at hst
  refine c_seq ?_
  refine c_region ?_
  refine l_step (s_q rfl wn (q_lss rfl rfl) ?_)
  refine l_nil ?_
  refine k_then_n ?_
  refine c_seq ?_
  refine c_cond rfl (fun h0 => ?_) (fun h0 => ?_)
  · try simp only [Bool.and_eq_true, Bool.or_eq_true, Bool.not_eq_true', Bool.and_eq_false_iff, Bool.or_eq_false_iff, Bool.not_eq_false', decide_eq_true_eq, decide_eq_false_iff_not, Bool.not_eq_eq_eq_not, Bool.not_true, Bool.not_false, Bool.not_eq_true, Bool.not_eq_false, beq_iff_eq, bne_iff_ne, ne_eq, Decidable.not_not] at h0
    refine c_skip ?_
    refine k_then_n ?_
    refine c_seq ?_
    refine c_block ?_
    refine c_seq ?_
    refine c_region ?_
    refine l_step (s_q rfl wn (q_indexe x.d Try.underlying22 sz_3 rfl rfl (rd_row (by repeat (first | exact Pick.here | apply Pick.there))) (by decide) rfl (by first | assumption | omega | (simp only [List.length_cons, List.length_nil]; omega))) ?_)
    refine l_step (s_q rfl wn (q_loade (enc := encI) (xs := d.vs) (j := x.d) (off := 0) sc_3 rfl (rd_row (by repeat (first | exact Pick.here | apply Pick.there))) (fun _ => rfl) (by first | assumption | omega | (simp only [List.length_cons, List.length_nil]; omega)) (by decide) rfl) ?_)
    refine l_step (s_q rfl wn (q_assign rfl) ?_)
    refine l_nil ?_
    refine k_then_n ?_
    refine c_block ?_
    refine c_seq ?_
    refine c_region ?_
    refine l_step (s_q rfl wn (q_move rfl) ?_)
    refine l_step (s_q rfl wn (q_nilCheck rfl) ?_)
    refine l_step (s_q rfl wn (q_fieldp rfl fo_113_2) ?_)
    refine l_step (s_q rfl wn (q_loadp (v := .map (some q.by_)) sc_111 rfl (by repeat (first | exact Pick.here | apply Pick.there)) rfl) ?_)
    refine l_step (s_q rfl wn (q_move rfl) ?_)
    refine l_step (s_q rfl wn (q_look (v := .bool (mgetD d.yes (d.vs.getD x.d default) false)) (ek := (Value.int .i64)) (ev := Value.bool) (k := (d.vs.getD x.d default)) (zv := false) Try.underlying111 (mkey_int Try.underlying3) zi_4 rfl rfl (by repeat (first | exact Pick.here | apply Pick.there)) rfl) ?_)
    refine l_step (s_q rfl wn (q_assign rfl) ?_)
    refine l_nil ?_
    refine k_then_n ?_
    refine c_cond rfl (fun h1 => ?_) (fun h1 => ?_)
    · skip
      refine c_region ?_
      refine l_step (s_q rfl wn (q_move rfl) ?_)
      refine l_step (s_q rfl wn (q_add rfl rfl (by omega) (by omega)) ?_)
      refine l_step (s_q rfl wn (q_assign rfl) ?_)
      refine l_nil ?_
      refine k_blk_n ?_
      refine k_blk_n ?_
      refine k_then_n ?_
      refine c_region ?_
      refine l_step (s_q rfl wn (q_add rfl rfl (by omega) (by omega)) ?_)
      refine l_step (s_q rfl wn (q_move rfl) ?_)
      refine l_nil ?_
      refine k_then_n ?_
      exact t_next (⟨x.d + 1, none, 0, none, 0, none, 0⟩ : Lp _) ⟨by simp only []; omega, by simp only []; omega⟩ (.cons rfl (by first | rfl | exact inte (by omega) | (simp; done) | (simp <;> omega) | simp [*]) (.cons rfl (by first | rfl | exact inte (by omega) | (simp; done) | (simp <;> omega) | simp [*]) (.cons rfl (inte (by rw [foldl_take _ _ _ _ (by omega), st_y h1])) (.cons rfl (inte (by rw [foldl_take _ _ _ _ (by omega), st_y h1])) (.cons rfl (by first | rfl | exact inte (by omega) | (simp; done) | (simp <;> omega) | simp [*]) (.cons rfl (by first | rfl | exact inte (by omega) | (simp; done) | (simp <;> omega) | simp [*]) (.cons rfl (by first | rfl | exact inte (by omega) | (simp; done) | (simp <;> omega) | simp [*]) (.nil _)))))))) (by repeat (first | exact Ent.nil _ | exact Ent.refl _ | (refine Ent.pick (by repeat (first | exact Pick.here | apply Pick.there)) ?_) | refine Ent.skip ?_))
    · skip
      refine c_seq ?_
      refine c_region ?_
      refine l_step (s_q rfl wn (q_move rfl) ?_)
      refine l_step (s_q rfl wn (q_nilCheck rfl) ?_)
      refine l_step (s_q rfl wn (q_fieldp rfl fo_113_1) ?_)
      refine l_step (s_q rfl wn (q_loadp (v := .map (some q.bs)) sc_111 rfl (by repeat (first | exact Pick.here | apply Pick.there)) rfl) ?_)
      refine l_step (s_q rfl wn (q_move rfl) ?_)
      refine l_step (s_q rfl wn (q_look (v := .bool (mgetD d.said (d.vs.getD x.d default) false)) (ek := (Value.int .i64)) (ev := Value.bool) (k := (d.vs.getD x.d default)) (zv := false) Try.underlying111 (mkey_int Try.underlying3) zi_4 rfl rfl (by repeat (first | exact Pick.here | apply Pick.there)) rfl) ?_)
      refine l_step (s_q rfl wn (q_assign rfl) ?_)
      refine l_nil ?_
      refine k_then_n ?_
      refine c_cond rfl (fun h2 => ?_) (fun h2 => ?_)
      · skip
        refine c_region ?_
        refine l_step (s_q rfl wn (q_move rfl) ?_)
        refine l_step (s_q rfl wn (q_add rfl rfl (by omega) (by omega)) ?_)
        refine l_step (s_q rfl wn (q_assign rfl) ?_)
        refine l_nil ?_
        refine k_blk_n ?_
        refine k_blk_n ?_
        refine k_then_n ?_
        refine c_region ?_
        refine l_step (s_q rfl wn (q_add rfl rfl (by omega) (by omega)) ?_)
        refine l_step (s_q rfl wn (q_move rfl) ?_)
        refine l_nil ?_
        refine k_then_n ?_
        exact t_next (⟨x.d + 1, none, 0, none, 0, none, 0⟩ : Lp _) ⟨by simp only []; omega, by simp only []; omega⟩ (.cons rfl (by first | rfl | exact inte (by omega) | (simp; done) | (simp <;> omega) | simp [*]) (.cons rfl (by first | rfl | exact inte (by omega) | (simp; done) | (simp <;> omega) | simp [*]) (.cons rfl (inte (by rw [foldl_take _ _ _ _ (by omega), st_n h1 h2])) (.cons rfl (inte (by rw [foldl_take _ _ _ _ (by omega), st_n h1 h2])) (.cons rfl (by first | rfl | exact inte (by omega) | (simp; done) | (simp <;> omega) | simp [*]) (.cons rfl (by first | rfl | exact inte (by omega) | (simp; done) | (simp <;> omega) | simp [*]) (.cons rfl (by first | rfl | exact inte (by omega) | (simp; done) | (simp <;> omega) | simp [*]) (.nil _)))))))) (by repeat (first | exact Ent.nil _ | exact Ent.refl _ | (refine Ent.pick (by repeat (first | exact Pick.here | apply Pick.there)) ?_) | refine Ent.skip ?_))
      · skip
        refine c_skip ?_
        refine k_blk_n ?_
        refine k_blk_n ?_
        refine k_then_n ?_
        refine c_region ?_
        refine l_step (s_q rfl wn (q_add rfl rfl (by omega) (by omega)) ?_)
        refine l_step (s_q rfl wn (q_move rfl) ?_)
        refine l_nil ?_
        refine k_then_n ?_
        exact t_next (⟨x.d + 1, none, 0, none, 0, none, 0⟩ : Lp _) ⟨by simp only []; omega, by simp only []; omega⟩ (.cons rfl (by first | rfl | exact inte (by omega) | (simp; done) | (simp <;> omega) | simp [*]) (.cons rfl (by first | rfl | exact inte (by omega) | (simp; done) | (simp <;> omega) | simp [*]) (.cons rfl (inte (by rw [foldl_take _ _ _ _ (by omega), st_0 h1 h2])) (.cons rfl (inte (by rw [foldl_take _ _ _ _ (by omega), st_0 h1 h2])) (.cons rfl (by first | rfl | exact inte (by omega) | (simp; done) | (simp <;> omega) | simp [*]) (.cons rfl (by first | rfl | exact inte (by omega) | (simp; done) | (simp <;> omega) | simp [*]) (.cons rfl (by first | rfl | exact inte (by omega) | (simp; done) | (simp <;> omega) | simp [*]) (.nil _)))))))) (by repeat (first | exact Ent.nil _ | exact Ent.refl _ | (refine Ent.pick (by repeat (first | exact Pick.here | apply Pick.there)) ?_) | refine Ent.skip ?_))
  · try simp only [Bool.and_eq_true, Bool.or_eq_true, Bool.not_eq_true', Bool.and_eq_false_iff, Bool.or_eq_false_iff, Bool.not_eq_false', decide_eq_true_eq, decide_eq_false_iff_not, Bool.not_eq_eq_eq_not, Bool.not_true, Bool.not_false, Bool.not_eq_true, Bool.not_eq_false, beq_iff_eq, bne_iff_ne, ne_eq, Decidable.not_not] at h0
    have hk : x.d = d.vs.length := by omega
    have hof : ((d.vs.take x.d).foldl (stStep d.said d.yes) (0, 0)) = countF d := by rw [hk, List.take_length]; rfl
    rw [hof] at hst ⊢
    refine c_exit ?_
    refine k_then_x ?_
    refine k_then_x ?_
    refine k_blk_x ?_
    refine k_then_n ?_
    refine c_seq ?_
    refine c_seq ?_
    refine c_region ?_
    refine l_step (s_q rfl wn (q_move rfl) ?_)
    refine l_step (s_q rfl wn (q_nilCheck rfl) ?_)
    refine l_step (s_q rfl wn (q_fieldp rfl fo_113_0) ?_)
    refine l_step (s_q rfl wn (q_loadp (v := .slice q.a q.n q.c) sc_22 rfl (by repeat (first | exact Pick.here | apply Pick.there)) rfl) ?_)
    refine l_step (s_q rfl wn (q_len Try.underlying22 rfl) ?_)
    refine l_step (s_q rfl wn (q_assign rfl) ?_)
    refine l_nil ?_
    refine k_then_n ?_
    refine c_block ?_
    refine c_seq ?_
    refine c_region ?_
    refine l_step (s_q rfl wn (q_move rfl) ?_)
    refine l_step (s_q rfl wn (q_mul rfl rfl (by omega) (by omega)) ?_)
    refine l_step (s_q rfl wn (q_move rfl) ?_)
    refine l_step (s_q rfl wn (q_gtr rfl rfl) ?_)
    refine l_step (s_q rfl wn (q_assign rfl) ?_)
    refine l_nil ?_
    refine k_then_n ?_
    refine c_cond rfl (fun h3 => ?_) (fun h3 => ?_)
    · try simp only [Bool.and_eq_true, Bool.or_eq_true, Bool.not_eq_true', Bool.and_eq_false_iff, Bool.or_eq_false_iff, Bool.not_eq_false', decide_eq_true_eq, decide_eq_false_iff_not, Bool.not_eq_eq_eq_not, Bool.not_true, Bool.not_false, Bool.not_eq_true, Bool.not_eq_false, beq_iff_eq, bne_iff_ne, ne_eq, Decidable.not_not] at h3
      refine c_seq ?_
      refine c_region ?_
      refine l_step (s_q rfl wn (q_assign rfl) ?_)
      refine l_nil ?_
      refine k_then_n ?_
      refine c_ret ?_
      refine k_blk_r ?_
      refine k_then_r ?_
      exact t_ret [.pts b (encPoll (⟨⟨q.a, q.n, q.c⟩, (some q.bs), (some q.by_)⟩ : Poll)) 113, .row 3 1 q.a q.n q.c (d.vs.flatMap encI), MP (Value.int .i64) Value.bool q.bs d.said, MP (Value.int .i64) Value.bool q.by_ d.yes] rfl (.tmp rfl .nil) rfl (Hp.le_refl _) ⟨rfl, inte (by unfold standsF wonF; rw [if_pos (by omega)]), rfl⟩ (by repeat (first | exact Ent.nil _ | exact Ent.refl _ | (refine Ent.pick (by repeat (first | exact Pick.here | apply Pick.there)) ?_) | refine Ent.skip ?_))
    · try simp only [Bool.and_eq_true, Bool.or_eq_true, Bool.not_eq_true', Bool.and_eq_false_iff, Bool.or_eq_false_iff, Bool.not_eq_false', decide_eq_true_eq, decide_eq_false_iff_not, Bool.not_eq_eq_eq_not, Bool.not_true, Bool.not_false, Bool.not_eq_true, Bool.not_eq_false, beq_iff_eq, bne_iff_ne, ne_eq, Decidable.not_not] at h3
      refine c_seq ?_
      refine c_region ?_
      refine l_step (s_q rfl wn (q_move rfl) ?_)
      refine l_step (s_q rfl wn (q_move rfl) ?_)
      refine l_step (s_q rfl wn (q_sub rfl rfl (by omega) (by omega)) ?_)
      refine l_step (s_q rfl wn (q_mul rfl rfl (by omega) (by omega)) ?_)
      refine l_step (s_q rfl wn (q_move rfl) ?_)
      refine l_step (s_q rfl wn (q_leq rfl rfl) ?_)
      refine l_step (s_q rfl wn (q_assign rfl) ?_)
      refine l_nil ?_
      refine k_then_n ?_
      refine c_cond rfl (fun h4 => ?_) (fun h4 => ?_)
      · try simp only [Bool.and_eq_true, Bool.or_eq_true, Bool.not_eq_true', Bool.and_eq_false_iff, Bool.or_eq_false_iff, Bool.not_eq_false', decide_eq_true_eq, decide_eq_false_iff_not, Bool.not_eq_eq_eq_not, Bool.not_true, Bool.not_false, Bool.not_eq_true, Bool.not_eq_false, beq_iff_eq, bne_iff_ne, ne_eq, Decidable.not_not] at h4
        refine c_seq ?_
        refine c_region ?_
        refine l_step (s_q rfl wn (q_assign rfl) ?_)
        refine l_nil ?_
        refine k_then_n ?_
        refine c_ret ?_
        refine k_blk_r ?_
        refine k_then_r ?_
        exact t_ret [.pts b (encPoll (⟨⟨q.a, q.n, q.c⟩, (some q.bs), (some q.by_)⟩ : Poll)) 113, .row 3 1 q.a q.n q.c (d.vs.flatMap encI), MP (Value.int .i64) Value.bool q.bs d.said, MP (Value.int .i64) Value.bool q.by_ d.yes] rfl (.tmp rfl .nil) rfl (Hp.le_refl _) ⟨rfl, inte (by unfold standsF wonF; rw [if_neg (by omega), if_pos (by omega)]), rfl⟩ (by repeat (first | exact Ent.nil _ | exact Ent.refl _ | (refine Ent.pick (by repeat (first | exact Pick.here | apply Pick.there)) ?_) | refine Ent.skip ?_))
      · try simp only [Bool.and_eq_true, Bool.or_eq_true, Bool.not_eq_true', Bool.and_eq_false_iff, Bool.or_eq_false_iff, Bool.not_eq_false', decide_eq_true_eq, decide_eq_false_iff_not, Bool.not_eq_eq_eq_not, Bool.not_true, Bool.not_false, Bool.not_eq_true, Bool.not_eq_false, beq_iff_eq, bne_iff_ne, ne_eq, Decidable.not_not] at h4
        refine c_skip ?_
        refine k_blk_n ?_
        refine k_then_n ?_
        refine c_seq ?_
        refine c_region ?_
        refine l_step (s_q rfl wn (q_assign rfl) ?_)
        refine l_nil ?_
        refine k_then_n ?_
        refine c_ret ?_
        exact t_ret [.pts b (encPoll (⟨⟨q.a, q.n, q.c⟩, (some q.bs), (some q.by_)⟩ : Poll)) 113, .row 3 1 q.a q.n q.c (d.vs.flatMap encI), MP (Value.int .i64) Value.bool q.bs d.said, MP (Value.int .i64) Value.bool q.by_ d.yes] rfl (.tmp rfl .nil) rfl (Hp.le_refl _) ⟨rfl, inte (by unfold standsF wonF; rw [if_neg (by omega), if_neg (by omega)]), rfl⟩ (by repeat (first | exact Ent.nil _ | exact Ent.refl _ | (refine Ent.pick (by repeat (first | exact Pick.here | apply Pick.there)) ?_) | refine Ent.skip ?_))

theorem clone_spec (s_a : Option Addr) (s_n s_c : Nat) (s : List Int) (hs_n : s.length = s_n) (ρ : Hp) (hl : s_n ≤ 1000000) (hro : Ro ρ 1 s_a s_n s_c (s.flatMap encI)) : Spec0 Try.prog 43 #[.slice s_a s_n s_c] ρ [] (fun v Γ' => ∃ a c, v = .slice a s_n c ∧ Γ' = [.row 3 1 a s_n c (s.flatMap encI)]) := by
  refine spec_of (n := 8) (vs := [_]) (σ := [(0, _)]) Try.func43 rfl rfl rfl rfl fun E Δ => ?_
  rw [List.nil_append]
  refine c_seq ?_
  refine c_region ?_
  refine l_step (s_q rfl wn (q_assign rfl) ?_)
  refine l_nil ?_
  refine k_then_n ?_
  refine c_seq ?_
  refine c_seq ?_
  refine c_region ?_
  refine l_step (s_q rfl wn (q_move rfl) ?_)
  refine l_step (s_q rfl wn (q_eqnil Try.underlying22 rfl rfl) ?_)
  refine l_nil ?_
  refine k_then_n ?_
  refine c_cond rfl (fun h0 => ?_) (fun h0 => ?_)
  · skip
    obtain ⟨e1, e2⟩ := ro_nil hro h0 hs_n
    subst e1
    subst e2
    refine c_seq ?_
    refine c_region ?_
    refine l_step (s_q rfl wn (q_assign rfl) ?_)
    refine l_nil ?_
    refine k_then_n ?_
    refine c_ret ?_
    refine k_then_r ?_
    refine Tr.ent (Ent.nilrow 3 1 _) ?_
    exact t_ret [.row 3 1 none 0 0 (([] : List Int).flatMap encI)] rfl (.tmp rfl .nil) rfl (Hp.le_refl _) ⟨rfl, none, 0, rfl, rfl⟩ (by repeat (first | exact Ent.nil _ | exact Ent.refl _ | (refine Ent.pick (by repeat (first | exact Pick.here | apply Pick.there)) ?_) | refine Ent.skip ?_))
  · skip
    refine c_skip ?_
    refine k_then_n ?_
    refine c_seq ?_
    refine c_region ?_
    refine l_step (s_s rfl wn (s_buildSlice (cs := ([] : List Int).flatMap encI) Try.underlying22 eo_3 rfl rfl rfl rfl (by decide) (by decide)) ?_)
    rintro _ _ ⟨b5, rfl, rfl⟩
    refine l_step (s_q rfl wn (q_move rfl) ?_)
    refine l_step (s_s rfl wn (s_appendn (enc := encI) (xs := ([] : List Int)) (ys := (s : List Int)) (Γ' := fun a' cap' => _) Try.underlying22 eo_3 (by decide) rfl rfl (by first | assumption | exact rd_ro (by assumption) | exact rd_row (by repeat (first | exact Pick.here | apply Pick.there))) (oneI _) (by first | omega | (simp only [List.length_append, List.length_cons, List.length_nil] at *; omega)) (by first | omega | (simp only [List.length_append, List.length_cons, List.length_nil] at *; omega)) (fun _ _ => (by repeat (first | exact Pick.here | apply Pick.there)))) ?_)
    rintro _ _ ⟨a7, c7, rfl, rfl⟩
    simp only [Nat.zero_add, List.nil_append]
    refine l_step (s_q rfl wn (q_assign rfl) ?_)
    refine l_nil ?_
    refine k_then_n ?_
    refine c_ret ?_
    exact t_ret [.row 3 1 a7 s_n c7 (s.flatMap encI)] rfl (.tmp rfl .nil) rfl (Hp.le_refl _) ⟨rfl, a7, c7, rfl, rfl⟩ (by repeat (first | exact Ent.nil _ | exact Ent.refl _ | (refine Ent.pick (by repeat (first | exact Pick.here | apply Pick.there)) ?_) | refine Ent.skip ?_))

theorem newPoll_spec (c : Conf) (ρ : Hp) (hl : c.Voters.xs.length ≤ 1000000) (hv : Ro ρ 1 c.Voters.a c.Voters.xs.length c.Voters.cap (c.Voters.xs.flatMap encI)) : Spec0 Try.prog 27 #[.agg (encConf c).toArray] ρ [] (fun v Γ' => ∃ b : Nat, ∃ q : PX, q.n = c.Voters.xs.length ∧ v = .pointer (some ⟨b, 0, none⟩) ∧ Γ' = [.pts b (encPoll (⟨⟨q.a, q.n, q.c⟩, (some q.bs), (some q.by_)⟩ : Poll)) 113, .row 3 1 q.a q.n q.c (c.Voters.xs.flatMap encI), MP (Value.int .i64) Value.bool q.bs ([] : SM), MP (Value.int .i64) Value.bool q.by_ ([] : SM)]) := by
  refine spec_of (n := 10) (vs := [_]) (σ := [(0, _)]) Try.func27 rfl rfl rfl rfl fun E Δ => ?_
  rw [List.nil_append]
  refine c_seq ?_
  refine c_region ?_
  refine l_step (s_s rfl wn (s_box (cs := encConf c) rfl rfl) ?_)
  rintro _ _ ⟨b1, rfl, rfl⟩
  refine l_step (s_q rfl wn (q_assign rfl) ?_)
  refine l_nil ?_
  refine k_then_n ?_
  refine c_seq ?_
  refine c_region ?_
  refine l_step (s_q rfl wn (q_fieldp rfl fo_60_0) ?_)
  refine l_step (s_q rfl wn (q_loadp (v := .slice c.Voters.a c.Voters.xs.length c.Voters.cap) sc_22 rfl (by repeat (first | exact Pick.here | apply Pick.there)) rfl) ?_)
  refine l_step (s_fnb rfl wn Try.func43 rfl (by kernel_rfl) rfl (by repeat (first | exact Sel.nil | exact Pick.here | apply Sel.cons | apply Pick.there)) (fun ρ' hL => clone_spec c.Voters.a c.Voters.xs.length c.Voters.cap c.Voters.xs (by first | rfl | assumption) ρ' (by first | omega | decide | simp) (by first | exact hL.ro (by assumption) | exact hL.row (by repeat (first | exact Pick.here | apply Pick.there)) | assumption)) ?_)
  rintro _ _ ⟨a5, c5, rfl, rfl⟩
  try simp only [List.cons_append, List.nil_append]
  refine l_step (s_s rfl wn (s_makeMap (ek := (Value.int .i64)) (ev := Value.bool)) ?_)
  rintro _ _ ⟨b6, rfl, rfl⟩
  refine l_step (s_s rfl wn (s_makeMap (ek := (Value.int .i64)) (ev := Value.bool)) ?_)
  rintro _ _ ⟨b7, rfl, rfl⟩
  refine l_step (s_q rfl wn (q_build (cs := encPoll (⟨⟨a5, c.Voters.xs.length, c5⟩, (some b6), (some b7)⟩ : Poll)) zc_113 pl_113 rfl rfl) ?_)
  refine l_step (s_s rfl wn (s_box (cs := encPoll (⟨⟨a5, c.Voters.xs.length, c5⟩, (some b6), (some b7)⟩ : Poll)) rfl rfl) ?_)
  rintro _ _ ⟨b9, rfl, rfl⟩
  refine l_step (s_q rfl wn (q_assign rfl) ?_)
  refine l_nil ?_
  refine k_then_n ?_
  refine c_ret ?_
  exact t_ret [.pts b9 (encPoll (⟨⟨a5, c.Voters.xs.length, c5⟩, (some b6), (some b7)⟩ : Poll)) 113, .row 3 1 a5 c.Voters.xs.length c5 (c.Voters.xs.flatMap encI), MP (Value.int .i64) Value.bool b6 ([] : SM), MP (Value.int .i64) Value.bool b7 ([] : SM)] rfl (.tmp rfl .nil) rfl (Hp.le_refl _) ⟨rfl, b9, (⟨a5, c.Voters.xs.length, c5, b6, b7⟩ : PX), rfl, rfl, rfl⟩ (by repeat (first | exact Ent.nil _ | exact Ent.refl _ | (refine Ent.pick (by repeat (first | exact Pick.here | apply Pick.there)) ?_) | refine Ent.skip ?_))
end Go.Tly.V

/-
  Package disk, walked.
-/
import Derived.Test.YtehaoafnobnneaaGreatDoorDskX
import Derived.Test.YtehaoafnobnneaaGreatDoorDskL
import Derived.Test.YtehaoafnobnneaaGreatDoorProg
import Derived.Test.YtehaoafnobnneaaGreatDoorSlSq
set_option maxRecDepth 100000
set_option maxHeartbeats 4000000
set_option linter.unusedSimpArgs false
set_option linter.unusedVariables false
namespace Go.Dsk.S
open Go Go.SL Go.Proofs Go.Dsk Go.Dsk.L
attribute [local irreducible] Go.SL.Ent
theorem eo_9 : elemOk Tryz.prog 9 1 16 = true := by kernel_rfl
theorem sc_49 : isScalar Tryz.prog 49 = true := by kernel_rfl
theorem sc_9 : isScalar Tryz.prog 9 = true := by kernel_rfl
theorem sz_49 : sizeIs Tryz.prog 49 = some 1 := by kernel_rfl
theorem sz_9 : sizeIs Tryz.prog 9 = some 1 := by kernel_rfl

theorem values_spec (a : Option Addr) (l c : Nat) (ρ : Hp) : Spec0 Tryz.prog 51 #[.slice a l c] ρ [] (fun v Γ' => ∃ b1, v = .func (.func 79) #[] #[.pointer (some ⟨b1, 0, none⟩)] ∧ Γ' = [.pts b1 [.slice a l c] 49]) := by
  refine spec_of (n := 4) (vs := [_]) (σ := [(0, _)]) Tryz.func51 rfl rfl rfl rfl fun E Δ => ?_
  rw [List.nil_append]
  refine sr ?_
  refine e_s (s_box (cs := [.slice a l c]) rfl rfl) ?_
  rintro _ _ ⟨b1, rfl, rfl⟩
  refine e_as rfl ?_
  refine l_n ?_
  refine sr ?_
  refine e_q (q_makeFunc rfl rfl) ?_
  refine e_as rfl ?_
  refine l_n ?_
  refine c_ret ?_
  exact t_rt [.pts b1 [.slice a l c] 49] rfl (.tmp rfl .nil) rfl ⟨rfl, b1, rfl, rfl⟩

theorem values_iter (bs : Nat) (a : Option Addr) (ln c : Nat) (xs : List (List UInt8)) (ρ : Hp) (hln : xs.length = ln) (hro : Ro ρ 1 a ln c (xs.flatMap Go.SL.encStr)) : IterS Tryz.prog 79 #[.pointer (some ⟨bs, 0, none⟩)] ρ [.pts bs [.slice a ln c] 49] (xs.map fun s => [strB s]) := by
  refine iter_of (n := 16) (cap := [_]) (σ := [(1, _)]) Tryz.func79 rfl rfl rfl rfl fun E l m κ ι I St hY x0 => ?_
  refine Tr.ent (Ent.comm _ _) ?_
  simp only [List.cons_append, List.nil_append]
  have hrob : ln ≤ 9223372036854775807 := Nat.le_trans hro.2.1 hro.2.2.1
  refine i_seq ?_
  refine i_region ?_
  refine li_step (.inl rfl) (s_q rfl wn (q_loadp (v := .slice a ln c) sc_49 rfl (by repeat (first | exact Pick.here | apply Pick.there)) rfl) ?_)
  refine li_step (.inl rfl) (s_q rfl wn (q_len Tryz.underlying49 rfl) ?_)
  refine li_step (.inl rfl) (s_q rfl wn (q_move rfl) ?_)
  refine li_nil ?_
  refine k_then_n ?_
  refine i_block ?_
  refine Tr.env (σ' := [(0, _), (5, _), (6, _), (7, _)]) (.cons rfl rfl (.cons rfl rfl (.cons rfl rfl (.cons rfl rfl (.nil _))))) ?_
  refine i_loop (ι := Lp (Nat × κ)) (fun x => x.d.1 ≤ ln) (fun x => ln - x.d.1) (fun x => [(0, (.func (.yield l) #[] #[])), (5, .slice a ln c), (6, .int .i64 (ln : Int)), (7, .int .i64 (x.d.1 : Int))]) (fun x => .pts bs [.slice a ln c] 49 :: I x.d.1 x.d.2) (⟨(0, x0), none, 0, none, 0, none, 0⟩ : Lp _) (Nat.zero_le _) ?_ ?_ ?_
  · exact .cons rfl (by first | rfl | exact inte (by omega) | (simp; done) | (simp <;> omega) | simp [*]) (.cons rfl (by first | rfl | exact inte (by omega) | (simp; done) | (simp <;> omega) | simp [*]) (.cons rfl (by first | rfl | exact inte (by omega) | (simp; done) | (simp <;> omega) | simp [*]) (.cons rfl (by first | rfl | exact inte (by omega) | (simp; done) | (simp <;> omega) | simp [*]) (.nil _))))
  · exact (by repeat (first | exact Ent.nil _ | exact Ent.refl _ | (refine Ent.pick (by repeat (first | exact Pick.here | apply Pick.there)) ?_) | refine Ent.skip ?_))
  intro x hx
  refine i_seq ?_
  refine i_region ?_
  refine li_step (.inl rfl) (s_q rfl wn (q_lss rfl rfl) ?_)
  refine li_nil ?_
  refine k_then_n ?_
  refine i_seq ?_
  refine i_cond rfl (fun h0 => ?_) (fun h0 => ?_)
  · try simp only [decide_eq_true_eq, decide_eq_false_iff_not] at h0
    refine i_skip ?_
    refine k_then_n ?_
    refine i_seq ?_
    refine i_block ?_
    refine i_seq ?_
    refine i_region ?_
    refine li_step (.inl rfl) (s_q rfl wn (q_indexe x.d.1 Tryz.underlying49 sz_9 rfl rfl (by first | assumption | exact rd_ro (by assumption) | exact rd_row (by repeat (first | exact Pick.here | apply Pick.there))) (by decide) rfl (by first | assumption | omega | (simp only [List.length_cons, List.length_nil]; omega))) ?_)
    refine li_step (.inl rfl) (s_q rfl wn (q_loade (enc := Go.SL.encStr) (xs := xs) (j := x.d.1) (off := 0) sc_9 rfl (by first | assumption | exact rd_ro (by assumption) | exact rd_row (by repeat (first | exact Pick.here | apply Pick.there))) (fun _ => rfl) (by first | assumption | omega | (simp only [List.length_cons, List.length_nil]; omega)) (by decide) rfl) ?_)
    refine li_step (.inl rfl) (s_q rfl wn (q_assign rfl) ?_)
    refine li_nil ?_
    refine k_then_n ?_
    refine i_seq ?_
    refine i_region ?_
    refine li_step (.inl rfl) (s_q rfl wn (q_move rfl) ?_)
    refine li_step (.inl rfl) (s_q rfl wn (q_move rfl) ?_)
    have hY' := hY x.d.1 (by rw [List.length_map]; omega) x.d.2
    rw [show (xs.map fun s => [strB s])[x.d.1]'(by rw [List.length_map]; omega) = [strB (xs.getD x.d.1 default)] from by rw [List.getElem_map, List.getD_eq_getElem?_getD, List.getElem?_eq_getElem (by omega), Option.getD_some]] at hY'
    have hC := Ent.comm ([.pts bs [.slice a ln c] 49] : List Asn) (I x.d.1 x.d.2)
    rw [List.cons_append, List.nil_append] at hC
    refine Tr.ent hC ?_
    refine i_yield rfl rfl rfl hY' (fun y => ?_) (fun st => ?_)
    · skip
      refine Tr.ent (Ent.comm (I (x.d.1 + 1) y) [.pts bs [.slice a ln c] 49]) ?_
      simp only [List.cons_append, List.nil_append]
      refine li_step (.inl rfl) (s_q rfl wn (q_not rfl) ?_)
      refine li_nil ?_
      refine k_then_n ?_
      refine i_no rfl ?_
      refine i_skip ?_
      refine k_blk_n ?_
      refine k_then_n ?_
      refine i_region ?_
      refine li_step (.inl rfl) (s_q rfl wn (q_add rfl rfl (by omega) (by omega)) ?_)
      refine li_step (.inl rfl) (s_q rfl wn (q_move rfl) ?_)
      refine li_nil ?_
      refine k_then_n ?_
      exact t_next (⟨(x.d.1 + 1, y), none, 0, none, 0, none, 0⟩ : Lp _) ⟨by simp only []; omega, by simp only []; omega⟩ (.cons rfl (by first | rfl | exact inte (by omega) | (simp; done) | (simp <;> omega) | simp [*]) (.cons rfl (by first | rfl | exact inte (by omega) | (simp; done) | (simp <;> omega) | simp [*]) (.cons rfl (by first | rfl | exact inte (by omega) | (simp; done) | (simp <;> omega) | simp [*]) (.cons rfl (by first | rfl | exact inte (by omega) | (simp; done) | (simp <;> omega) | simp [*]) (.nil _))))) (by repeat (first | exact Ent.nil _ | exact Ent.refl _ | (refine Ent.pick (by repeat (first | exact Pick.here | apply Pick.there)) ?_) | refine Ent.skip ?_))
    · skip
      refine li_step (.inl rfl) (s_q rfl wn (q_not rfl) ?_)
      refine li_nil ?_
      refine k_then_n ?_
      refine i_yes rfl ?_
      refine i_ret ?_
      refine k_blk_r ?_
      refine k_then_r ?_
      refine k_then_r ?_
      refine k_blk_r ?_
      exact t_iret rfl (fun w h => .inr ⟨st, h⟩)
  · try simp only [decide_eq_true_eq, decide_eq_false_iff_not] at h0
    refine i_exit ?_
    refine k_then_x ?_
    refine k_then_x ?_
    refine k_blk_x ?_
    refine k_body_n ?_
    have hk : x.d.1 = (xs.map fun s => [strB s]).length := by rw [List.length_map]; omega
    rw [← hk]
    exact t_iret rfl (fun w h => .inl ⟨x.d.2, h.ent (Ent.comm [.pts bs [.slice a ln c] 49] (I x.d.1 x.d.2))⟩)

theorem appendSeq_spec (bs : Nat) (a : Option Addr) (ln c : Nat) (xs : List (List UInt8)) (ρ : Hp) (hln : xs.length = ln) (hro : Ro ρ 1 a ln c (xs.flatMap Go.SL.encStr)) (hl : ln ≤ 1000000000) : Spec0 Tryz.prog 102 #[.slice none 0 0, .func (.func 79) #[] #[.pointer (some ⟨bs, 0, none⟩)]] ρ [.pts bs [.slice a ln c] 49] (fun v Γ' => ∃ a1 c1, v = .slice a1 ln c1 ∧ Γ' = [.row 9 1 a1 ln c1 (xs.flatMap Go.SL.encStr)]) := by
  refine spec_ofM (n := 13) (vs := [_, _]) (σ := [(0, _), (1, _)]) Tryz.func102 rfl rfl rfl rfl fun E Δ => ?_
  simp only [List.cons_append, List.nil_append]
  refine c_seq ?_
  refine c_region ?_
  refine l_step (s_s rfl wn (s_box (cs := [.slice none 0 0]) rfl rfl) ?_)
  rintro _ _ ⟨b2, rfl, rfl⟩
  refine l_step (s_q rfl wn (q_assign rfl) ?_)
  refine l_nil ?_
  refine k_then_n ?_
  refine c_seq ?_
  refine c_seq ?_
  refine c_region ?_
  refine l_step (s_q rfl wn (q_move rfl) ?_)
  refine l_nil ?_
  refine k_then_n ?_
  refine c_block ?_
  refine Tr.ent (Ent.nilrow 9 1 _) ?_
  refine Tr.env (σ' := [(2, .pointer (some ⟨b2, 0, none⟩)), (4, .slice none 0 0), (6, .func (.func 79) #[] #[.pointer (some ⟨bs, 0, none⟩)])]) (.cons rfl rfl (.cons rfl rfl (.cons rfl rfl (.nil _)))) ?_
  refine t_rangeFunc (ps := [7]) (Γi := [.pts bs [.slice a ln c] 49]) (vals := (xs.map fun s => [strB s])) (κ := Option Addr × Nat) (ι := Empty) (ι1 := Unit) (fun k y => .row 9 1 y.1 ((xs.take k).length) y.2 ((xs.take k).flatMap Go.SL.encStr) :: .pts b2 [.slice y.1 ((xs.take k).length) y.2] 49 :: Δ) (none, 0) (fun e => e.elim) (fun k y _ => [(5, (strB (xs.getD k default))), (2, .pointer (some ⟨b2, 0, none⟩)), (4, .slice none 0 0), (6, .func (.func 79) #[] #[.pointer (some ⟨bs, 0, none⟩)])]) (fun k y _ => .row 9 1 y.1 ((xs.take k).length) y.2 ((xs.take k).flatMap Go.SL.encStr) :: .pts b2 [.slice y.1 ((xs.take k).length) y.2] 49 :: Δ) rfl Tryz.func79 rfl (by kernel_rfl) (values_iter bs a ln c xs ρ hln hro) (Ent.trans (by repeat (first | exact Ent.nil _ | exact Ent.refl _ | (refine Ent.pick (by repeat (first | exact Pick.here | apply Pick.there)) ?_) | refine Ent.skip ?_)) (Ent.comm [.pts bs [.slice a ln c] 49] _)) (by decide) (by intro v hv; obtain ⟨_, _, rfl⟩ := List.mem_map.1 hv; rfl) ?_ ?_ ?_ ?_
  · intro k hk y l m Fr
    rw [show (xs.map fun s => [strB s])[k]'hk = [strB (xs.getD k default)] from by rw [List.getElem_map, List.getD_eq_getElem?_getD, List.getElem?_eq_getElem (by rw [List.length_map] at hk; exact hk), Option.getD_some]]
    simp only [binds, List.cons_append, List.nil_append]
    refine i_region ?_
    refine li_step (.inr (fun c h => by cases h)) (s_q rfl wn (q_assign rfl) ?_)
    refine li_nil ?_
    refine k_then_n ?_
    exact t_next () trivial (.cons rfl rfl (.cons rfl rfl (.cons rfl rfl (.cons rfl rfl (.nil _))))) (by repeat (first | exact Ent.nil _ | exact Ent.refl _ | (refine Ent.pick (by repeat (first | exact Pick.here | apply Pick.there)) ?_) | refine Ent.skip ?_))
  · intro k hk y _ l m Fr
    simp only [List.cons_append, List.nil_append]
    rw [List.length_map] at hk
    have hkl : (xs.take k).length = k := by rw [List.length_take]; omega
    refine i_block ?_
    refine i_region ?_
    refine li_step (.inr (fun c h => by cases h)) (s_q rfl wn (q_loadp (v := .slice y.1 ((xs.take k).length) y.2) sc_49 rfl (by repeat (first | exact Pick.here | apply Pick.there)) rfl) ?_)
    refine li_step (.inr (fun c h => by cases h)) (s_q rfl wn (q_move rfl) ?_)
    refine li_step (.inr (fun c h => by cases h)) (s_s rfl wn (s_buildSlice (cs := ([(xs.getD k default)] : List (List UInt8)).flatMap Go.SL.encStr) Tryz.underlying49 eo_9 rfl rfl rfl rfl (by decide) (by decide)) ?_)
    rintro _ _ ⟨b10, rfl, rfl⟩
    refine li_step (.inr (fun c h => by cases h)) (s_s rfl wn (s_appendn (enc := Go.SL.encStr) (xs := ((xs.take k) : List (List UInt8))) (ys := ([(xs.getD k default)] : List (List UInt8))) (Γ' := fun a' cap' => _) Tryz.underlying49 eo_9 (by decide) rfl rfl (rd_row (by repeat (first | exact Pick.here | apply Pick.there))) (oneStr _) (by first | omega | (simp only [List.length_append, List.length_cons, List.length_nil] at *; omega)) (by first | omega | (simp only [List.length_append, List.length_cons, List.length_nil] at *; omega)) (fun _ _ => (by repeat (first | exact Pick.here | apply Pick.there)))) ?_)
    rintro _ _ ⟨a11, c11, rfl, rfl⟩
    refine li_step (.inr (fun c h => by cases h)) (s_s0 wn (s_storep (ws := [.slice a11 ((xs.take k).length + 1) c11]) (cs := [.slice y.1 ((xs.take k).length) y.2]) (cs' := [.slice a11 ((xs.take k).length + 1) c11]) rfl rfl rfl sz_49 (by simp [Value.oneCell', strB, ptV, SL.v, SH.v]) (by simp) rfl (by repeat (first | exact Pick.here | apply Pick.there))) ?_)
    rintro _ _ ⟨rfl, rfl⟩
    refine li_nil ?_
    refine k_blk_n ?_
    have hxs : xs.take k ++ [xs.getD k default] = xs.take (k + 1) := (take_succ_getD _ _ hk).symm
    have hn1 : (xs.take k).length + 1 = (xs.take (k + 1)).length := by rw [← hxs, List.length_append]; rfl
    rw [hxs, hn1]
    refine rq_n (a11, c11) ?_
    simp only [List.cons_append, List.nil_append]
    exact (by repeat (first | exact Ent.nil _ | exact Ent.refl _ | (refine Ent.pick (by repeat (first | exact Pick.here | apply Pick.there)) ?_) | refine Ent.skip ?_))
  · intro D y
    simp only [List.cons_append, List.nil_append]
    refine Tr.ent (Γ' := .obj D (.deferred (some [])) :: .row 9 1 y.1 ((xs.take ((xs.map fun s => [strB s]).length)).length) y.2 ((xs.take ((xs.map fun s => [strB s]).length)).flatMap Go.SL.encStr) :: .pts b2 [.slice y.1 ((xs.take ((xs.map fun s => [strB s]).length)).length) y.2] 49 :: Δ) (by repeat (first | refine Ent.pick Pick.here ?_ | exact Ent.app Δ _ | exact Ent.refl _)) ?_
    have hfin : xs.take (xs.map fun s => [strB s]).length = xs := by rw [List.length_map, List.take_length]
    rw [hfin, hln]
    refine k_blk_n ?_
    refine k_then_n ?_
    refine c_seq ?_
    refine c_region ?_
    refine l_step (s_q rfl wn (q_loadp (v := .slice y.1 ln y.2) sc_49 rfl (by repeat (first | exact Pick.here | apply Pick.there)) rfl) ?_)
    refine l_step (s_q rfl wn (q_assign rfl) ?_)
    refine l_nil ?_
    refine k_then_n ?_
    refine c_ret ?_
    exact t_retM (Γ1 := .row 9 1 y.1 ln y.2 (xs.flatMap Go.SL.encStr) :: .pts b2 [.slice y.1 ln y.2] 49 :: Δ) [.row 9 1 y.1 ln y.2 (xs.flatMap Go.SL.encStr)] (by repeat (first | exact Ent.nil _ | exact Ent.refl _ | (refine Ent.pick (by repeat (first | exact Pick.here | apply Pick.there)) ?_) | refine Ent.skip ?_)) rfl (.tmp rfl .nil) rfl (Hp.le_refl _) ⟨rfl, y.1, y.2, rfl, rfl⟩ (by repeat (first | exact Ent.nil _ | exact Ent.refl _ | (refine Ent.pick (by repeat (first | exact Pick.here | apply Pick.there)) ?_) | refine Ent.skip ?_))
  · intro D e; cases e

theorem collect_spec (bs : Nat) (a : Option Addr) (ln c : Nat) (xs : List (List UInt8)) (ρ : Hp) (hln : xs.length = ln) (hro : Ro ρ 1 a ln c (xs.flatMap Go.SL.encStr)) (hl : ln ≤ 1000000000) : Spec0 Tryz.prog 77 #[.func (.func 79) #[] #[.pointer (some ⟨bs, 0, none⟩)]] ρ [.pts bs [.slice a ln c] 49] (fun v Γ' => ∃ a1 c1, v = .slice a1 ln c1 ∧ Γ' = [.row 9 1 a1 ln c1 (xs.flatMap Go.SL.encStr)]) := by
  refine spec_of (n := 5) (vs := [_]) (σ := [(0, _)]) Tryz.func77 rfl rfl rfl rfl fun E Δ => ?_
  simp only [List.cons_append, List.nil_append]
  refine sr ?_
  refine e_as rfl ?_
  refine l_n ?_
  refine sr ?_
  refine e_mv rfl ?_
  refine e_fn Tryz.func102 rfl sl_ (fun ρ' hL => appendSeq_spec bs a ln c xs ρ' hln (hL.ro hro) hl) ?_
  rintro _ _ ⟨a4, c4, rfl, rfl⟩
  try simp only [List.cons_append, List.nil_append]
  refine e_as rfl ?_
  refine l_n ?_
  refine c_ret ?_
  exact t_rt [.row 9 1 a4 ln c4 (xs.flatMap Go.SL.encStr)] rfl (.tmp rfl .nil) rfl ⟨rfl, a4, c4, rfl, rfl⟩

theorem sortedV_spec (bs : Nat) (a : Option Addr) (ln c : Nat) (xs : List (List UInt8)) (ρ : Hp) (hln : xs.length = ln) (hro : Ro ρ 1 a ln c (xs.flatMap Go.SL.encStr)) (hl : ln ≤ 1000000000) : Spec0 Tryz.prog 50 #[.func (.func 79) #[] #[.pointer (some ⟨bs, 0, none⟩)]] ρ [.pts bs [.slice a ln c] 49] (fun v Γ' => ∃ a1 c1, v = .slice a1 ln c1 ∧ Γ' = [.row 9 1 a1 ln c1 ((sortS xs).flatMap Go.SL.encStr)]) := by
  refine spec_of (n := 9) (vs := [_]) (σ := [(0, _)]) Tryz.func50 rfl rfl rfl rfl fun E Δ => ?_
  simp only [List.cons_append, List.nil_append]
  refine sr ?_
  refine e_as rfl ?_
  refine l_n ?_
  refine sr ?_
  refine e_mv rfl ?_
  refine e_fn Tryz.func77 rfl sl_ (fun ρ' hL => collect_spec bs a ln c xs ρ' hln (hL.ro hro) hl) ?_
  rintro _ _ ⟨a5, c5, rfl, rfl⟩
  try simp only [List.cons_append, List.nil_append]
  refine e_as rfl ?_
  refine l_n ?_
  refine sr ?_
  refine e_mv rfl ?_
  refine e_fn Tryz.func78 rfl sl_ (fun ρ' hL => sort_rowS sortSA a5 ln c5 xs hln hl ρ') ?_
  rintro _ _ ⟨rfl, rfl⟩
  try simp only [List.cons_append, List.nil_append]
  refine l_n ?_
  refine sr ?_
  refine e_mv rfl ?_
  refine e_as rfl ?_
  refine l_n ?_
  refine c_ret ?_
  exact t_rt [.row 9 1 a5 ln c5 ((sortS xs).flatMap Go.SL.encStr)] rfl (.tmp rfl .nil) rfl ⟨rfl, a5, c5, rfl, rfl⟩
end Go.Dsk.S

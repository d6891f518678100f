/-
  The document's package, walked.
-/
import Derived.Test.YtppngeebdmbeaaaChkQ
import Derived.Test.YtppngeebdmbeaaaChkC
import Derived.Test.YtppngeebdmbeaaaProg
set_option maxRecDepth 100000
set_option maxHeartbeats 4000000
set_option linter.unusedSimpArgs false
set_option linter.unusedVariables false
namespace Go.Chk.D
open Go Go.SL Go.Proofs Go.Sum Go.Chk.C
attribute [local irreducible] Go.SL.Ent
theorem ag_87 : aggSize Try.prog 87 = some 2 := by kernel_rfl
theorem ag_95 : aggSize Try.prog 95 = some 6 := by kernel_rfl
theorem eo_5 : elemOk Try.prog 5 1 1 = true := by kernel_rfl
theorem eo_95 : elemOk Try.prog 95 6 64 = true := by kernel_rfl
theorem fo_87_0 : fieldOff Try.prog 87 0 = some (0, 3) := by kernel_rfl
theorem fo_87_1 : fieldOff Try.prog 87 1 = some (1, 3) := by kernel_rfl
theorem fo_95_0 : fieldOff Try.prog 95 0 = some (0, 87) := by kernel_rfl
theorem fo_95_1 : fieldOff Try.prog 95 1 = some (2, 23) := by kernel_rfl
theorem fo_95_2 : fieldOff Try.prog 95 2 = some (3, 3) := by kernel_rfl
theorem fo_95_3 : fieldOff Try.prog 95 3 = some (4, 3) := by kernel_rfl
theorem fo_95_4 : fieldOff Try.prog 95 4 = some (5, 22) := by kernel_rfl
theorem pl_95 : placesOf Try.prog 95 = some [(0, 2), (2, 1), (3, 1), (4, 1), (5, 1)] := by kernel_rfl
theorem sc_22 : isScalar Try.prog 22 = true := by kernel_rfl
theorem sc_23 : isScalar Try.prog 23 = true := by kernel_rfl
theorem sc_3 : isScalar Try.prog 3 = true := by kernel_rfl
theorem sz_22 : sizeIs Try.prog 22 = some 1 := by kernel_rfl
theorem sz_5 : sizeIs Try.prog 5 = some 1 := by kernel_rfl
theorem sz_95 : sizeIs Try.prog 95 = some 6 := by kernel_rfl
theorem zc_95 : zeroCs Try.prog 95 = some [.int .i64 0, .int .i64 0, .int .u32 0, .int .i64 0, .int .i64 0, .slice none 0 0] := by kernel_rfl

theorem rright_spec (m : Mark) (ρ : Hp) : Spec0 Try.prog 67 #[.agg (encMark m).toArray] ρ [] (fun v Γ' => v = .bool (rightR m) ∧ Γ' = []) := by
  refine spec_of (n := 21) (vs := [_]) (σ := [(0, _)]) Try.func67 rfl rfl rfl rfl fun E Δ => ?_
  rw [List.nil_append]
  refine c_seq ?_
  refine c_region ?_
  refine l_step (s_s rfl wn (s_box (cs := encMark m) rfl rfl) ?_)
  rintro _ _ ⟨b1, rfl, rfl⟩
  refine l_step (s_q rfl wn (q_assign rfl) ?_)
  refine l_nil ?_
  refine k_then_n ?_
  refine c_seq ?_
  refine c_region ?_
  refine l_step (s_q rfl wn (q_fieldp rfl fo_87_0) ?_)
  refine l_step (s_q rfl wn (q_loadp (v := .int .i64 m.Index) sc_3 rfl (by repeat (first | exact Pick.here | apply Pick.there)) rfl) ?_)
  refine l_step (s_q rfl wn (q_gtr rfl rfl) ?_)
  refine l_step (s_q rfl wn (q_move rfl) ?_)
  refine l_step (s_qg rfl (ask_t rfl rfl) (b := (decide (0 < m.Index))) (fun hb => q_fieldp rfl fo_87_1) ?_)
  refine l_step (s_qg rfl (ask_t rfl rfl) (b := (decide (0 < m.Index))) (fun hb => OpQ.env (.cons rfl (gd_t hb) (.nil _) : EnvLe [(7, .pointer (some ⟨b1, 1, none⟩))] _) (q_loadp (v := .int .i64 m.Term) sc_3 rfl (by repeat (first | exact Pick.here | apply Pick.there)) rfl)) ?_)
  refine l_step (s_qg rfl (ask_t rfl rfl) (b := (decide (0 < m.Index))) (fun hb => OpQ.env (.cons rfl (gd_t hb) (.nil _) : EnvLe [(8, .int .i64 m.Term)] _) (q_gtr rfl rfl)) ?_)
  refine l_step (s_q rfl wn (q_pick_and rfl rfl rfl (fun h => h)) ?_)
  refine l_step (s_q rfl wn (q_move rfl) ?_)
  refine l_step (s_qg rfl (ask_t rfl rfl) (b := ((decide (0 < m.Index)) && (decide (0 < m.Term)))) (fun hb => q_fieldp rfl fo_87_0) ?_)
  refine l_step (s_qg rfl (ask_t rfl rfl) (b := ((decide (0 < m.Index)) && (decide (0 < m.Term)))) (fun hb => OpQ.env (.cons rfl (gd_t hb) (.nil _) : EnvLe [(12, .pointer (some ⟨b1, 0, none⟩))] _) (q_loadp (v := .int .i64 m.Index) sc_3 rfl (by repeat (first | exact Pick.here | apply Pick.there)) rfl)) ?_)
  refine l_step (s_qg rfl (ask_t rfl rfl) (b := ((decide (0 < m.Index)) && (decide (0 < m.Term)))) (fun hb => OpQ.env (.cons rfl (gd_t hb) (.nil _) : EnvLe [(13, .int .i64 m.Index)] _) (q_lss rfl rfl)) ?_)
  refine l_step (s_q rfl wn (q_pick_and rfl rfl rfl (fun h => h)) ?_)
  refine l_step (s_q rfl wn (q_move rfl) ?_)
  refine l_step (s_qg rfl (ask_t rfl rfl) (b := (((decide (0 < m.Index)) && (decide (0 < m.Term))) && (decide (m.Index < 10000000000)))) (fun hb => q_fieldp rfl fo_87_1) ?_)
  refine l_step (s_qg rfl (ask_t rfl rfl) (b := (((decide (0 < m.Index)) && (decide (0 < m.Term))) && (decide (m.Index < 10000000000)))) (fun hb => OpQ.env (.cons rfl (gd_t hb) (.nil _) : EnvLe [(17, .pointer (some ⟨b1, 1, none⟩))] _) (q_loadp (v := .int .i64 m.Term) sc_3 rfl (by repeat (first | exact Pick.here | apply Pick.there)) rfl)) ?_)
  refine l_step (s_qg rfl (ask_t rfl rfl) (b := (((decide (0 < m.Index)) && (decide (0 < m.Term))) && (decide (m.Index < 10000000000)))) (fun hb => OpQ.env (.cons rfl (gd_t hb) (.nil _) : EnvLe [(18, .int .i64 m.Term)] _) (q_lss rfl rfl)) ?_)
  refine l_step (s_q rfl wn (q_pick_and rfl rfl rfl (fun h => h)) ?_)
  refine l_step (s_q rfl wn (q_assign rfl) ?_)
  refine l_nil ?_
  refine k_then_n ?_
  refine c_ret ?_
  exact t_ret [] rfl (.tmp rfl .nil) rfl (Hp.le_refl _) ⟨rfl, rfl, rfl⟩ (by (repeat refine Ent.skip ?_); exact Ent.refl _)

theorem same_spec (a : Piece) (b : Piece) (ρ : Hp) (h1 : Ro ρ 1 a.B.a a.B.xs.length a.B.cap (a.B.xs.flatMap encB)) (h2 : Ro ρ 1 b.B.a b.B.xs.length b.B.cap (b.B.xs.flatMap encB)) : Spec0 Try.prog 39 #[.agg (encPiece a).toArray, .agg (encPiece b).toArray] ρ [] (fun v Γ' => v = .bool (sameB a b) ∧ Γ' = []) := by
  refine spec_of (n := 40) (vs := [_, _]) (σ := [(0, _), (1, _)]) Try.func39 rfl rfl rfl rfl fun E Δ => ?_
  rw [List.nil_append]
  refine c_seq ?_
  refine c_region ?_
  refine l_step (s_s rfl wn (s_box (cs := encPiece a) rfl rfl) ?_)
  rintro _ _ ⟨b2, rfl, rfl⟩
  refine l_step (s_s rfl wn (s_box (cs := encPiece b) rfl rfl) ?_)
  rintro _ _ ⟨b3, rfl, rfl⟩
  refine l_step (s_q rfl wn (q_assign rfl) ?_)
  refine l_nil ?_
  refine k_then_n ?_
  refine c_seq ?_
  refine c_region ?_
  refine l_step (s_q rfl wn (q_fieldp rfl fo_95_0) ?_)
  refine l_step (s_q rfl wn (q_loadpa (vs := encMark a.Mark) ag_87 rfl (by repeat (first | exact Pick.here | apply Pick.there)) rfl) ?_)
  refine l_step (s_q rfl wn (q_fieldp rfl fo_95_0) ?_)
  refine l_step (s_q rfl wn (q_loadpa (vs := encMark b.Mark) ag_87 rfl (by repeat (first | exact Pick.here | apply Pick.there)) rfl) ?_)
  refine l_step (s_q rfl wn (q_eqlst (offs := [0, 1]) (la := [a.Mark.Index, a.Mark.Term]) (lb := [b.Mark.Index, b.Mark.Term]) (by kernel_rfl) rfl rfl (by intro o ho; simp only [List.mem_cons, List.not_mem_nil, or_false] at ho; rcases ho with rfl | rfl <;> exact ⟨_, _, _, rfl, rfl⟩) rfl rfl) ?_)
  refine l_step (s_q rfl wn (q_move rfl) ?_)
  refine l_step (s_qg rfl (ask_t rfl rfl) (b := (decide ([a.Mark.Index, a.Mark.Term] = [b.Mark.Index, b.Mark.Term]))) (fun hb => q_fieldp rfl fo_95_1) ?_)
  refine l_step (s_qg rfl (ask_t rfl rfl) (b := (decide ([a.Mark.Index, a.Mark.Term] = [b.Mark.Index, b.Mark.Term]))) (fun hb => OpQ.env (.cons rfl (gd_t hb) (.nil _) : EnvLe [(11, .pointer (some ⟨b2, 2, none⟩))] _) (q_loadp (v := .int .u32 (a.Sum.toNat : Int)) sc_23 rfl (by repeat (first | exact Pick.here | apply Pick.there)) rfl)) ?_)
  refine l_step (s_qg rfl (ask_t rfl rfl) (b := (decide ([a.Mark.Index, a.Mark.Term] = [b.Mark.Index, b.Mark.Term]))) (fun hb => q_fieldp rfl fo_95_1) ?_)
  refine l_step (s_qg rfl (ask_t rfl rfl) (b := (decide ([a.Mark.Index, a.Mark.Term] = [b.Mark.Index, b.Mark.Term]))) (fun hb => OpQ.env (.cons rfl (gd_t hb) (.nil _) : EnvLe [(13, .pointer (some ⟨b3, 2, none⟩))] _) (q_loadp (v := .int .u32 (b.Sum.toNat : Int)) sc_23 rfl (by repeat (first | exact Pick.here | apply Pick.there)) rfl)) ?_)
  refine l_step (s_qg rfl (ask_t rfl rfl) (b := (decide ([a.Mark.Index, a.Mark.Term] = [b.Mark.Index, b.Mark.Term]))) (fun hb => OpQ.env (.cons rfl (gd_t hb) (.cons rfl (gd_t hb) (.nil _)) : EnvLe [(12, .int .u32 (a.Sum.toNat : Int)), (14, .int .u32 (b.Sum.toNat : Int))] _) (q_eql rfl rfl)) ?_)
  refine l_step (s_q rfl wn (q_pick_and rfl rfl rfl (fun h => h)) ?_)
  refine l_step (s_q rfl wn (q_move rfl) ?_)
  refine l_step (s_qg rfl (ask_t rfl rfl) (b := ((decide ([a.Mark.Index, a.Mark.Term] = [b.Mark.Index, b.Mark.Term])) && (decide ((a.Sum.toNat : Int) = (b.Sum.toNat : Int))))) (fun hb => q_fieldp rfl fo_95_2) ?_)
  refine l_step (s_qg rfl (ask_t rfl rfl) (b := ((decide ([a.Mark.Index, a.Mark.Term] = [b.Mark.Index, b.Mark.Term])) && (decide ((a.Sum.toNat : Int) = (b.Sum.toNat : Int))))) (fun hb => OpQ.env (.cons rfl (gd_t hb) (.nil _) : EnvLe [(18, .pointer (some ⟨b2, 3, none⟩))] _) (q_loadp (v := .int .i64 a.Total) sc_3 rfl (by repeat (first | exact Pick.here | apply Pick.there)) rfl)) ?_)
  refine l_step (s_qg rfl (ask_t rfl rfl) (b := ((decide ([a.Mark.Index, a.Mark.Term] = [b.Mark.Index, b.Mark.Term])) && (decide ((a.Sum.toNat : Int) = (b.Sum.toNat : Int))))) (fun hb => q_fieldp rfl fo_95_2) ?_)
  refine l_step (s_qg rfl (ask_t rfl rfl) (b := ((decide ([a.Mark.Index, a.Mark.Term] = [b.Mark.Index, b.Mark.Term])) && (decide ((a.Sum.toNat : Int) = (b.Sum.toNat : Int))))) (fun hb => OpQ.env (.cons rfl (gd_t hb) (.nil _) : EnvLe [(20, .pointer (some ⟨b3, 3, none⟩))] _) (q_loadp (v := .int .i64 b.Total) sc_3 rfl (by repeat (first | exact Pick.here | apply Pick.there)) rfl)) ?_)
  refine l_step (s_qg rfl (ask_t rfl rfl) (b := ((decide ([a.Mark.Index, a.Mark.Term] = [b.Mark.Index, b.Mark.Term])) && (decide ((a.Sum.toNat : Int) = (b.Sum.toNat : Int))))) (fun hb => OpQ.env (.cons rfl (gd_t hb) (.cons rfl (gd_t hb) (.nil _)) : EnvLe [(19, .int .i64 a.Total), (21, .int .i64 b.Total)] _) (q_eql rfl rfl)) ?_)
  refine l_step (s_q rfl wn (q_pick_and rfl rfl rfl (fun h => h)) ?_)
  refine l_step (s_q rfl wn (q_move rfl) ?_)
  refine l_step (s_qg rfl (ask_t rfl rfl) (b := (((decide ([a.Mark.Index, a.Mark.Term] = [b.Mark.Index, b.Mark.Term])) && (decide ((a.Sum.toNat : Int) = (b.Sum.toNat : Int)))) && (decide (a.Total = b.Total)))) (fun hb => q_fieldp rfl fo_95_3) ?_)
  refine l_step (s_qg rfl (ask_t rfl rfl) (b := (((decide ([a.Mark.Index, a.Mark.Term] = [b.Mark.Index, b.Mark.Term])) && (decide ((a.Sum.toNat : Int) = (b.Sum.toNat : Int)))) && (decide (a.Total = b.Total)))) (fun hb => OpQ.env (.cons rfl (gd_t hb) (.nil _) : EnvLe [(25, .pointer (some ⟨b2, 4, none⟩))] _) (q_loadp (v := .int .i64 a.At) sc_3 rfl (by repeat (first | exact Pick.here | apply Pick.there)) rfl)) ?_)
  refine l_step (s_qg rfl (ask_t rfl rfl) (b := (((decide ([a.Mark.Index, a.Mark.Term] = [b.Mark.Index, b.Mark.Term])) && (decide ((a.Sum.toNat : Int) = (b.Sum.toNat : Int)))) && (decide (a.Total = b.Total)))) (fun hb => q_fieldp rfl fo_95_3) ?_)
  refine l_step (s_qg rfl (ask_t rfl rfl) (b := (((decide ([a.Mark.Index, a.Mark.Term] = [b.Mark.Index, b.Mark.Term])) && (decide ((a.Sum.toNat : Int) = (b.Sum.toNat : Int)))) && (decide (a.Total = b.Total)))) (fun hb => OpQ.env (.cons rfl (gd_t hb) (.nil _) : EnvLe [(27, .pointer (some ⟨b3, 4, none⟩))] _) (q_loadp (v := .int .i64 b.At) sc_3 rfl (by repeat (first | exact Pick.here | apply Pick.there)) rfl)) ?_)
  refine l_step (s_qg rfl (ask_t rfl rfl) (b := (((decide ([a.Mark.Index, a.Mark.Term] = [b.Mark.Index, b.Mark.Term])) && (decide ((a.Sum.toNat : Int) = (b.Sum.toNat : Int)))) && (decide (a.Total = b.Total)))) (fun hb => OpQ.env (.cons rfl (gd_t hb) (.cons rfl (gd_t hb) (.nil _)) : EnvLe [(26, .int .i64 a.At), (28, .int .i64 b.At)] _) (q_eql rfl rfl)) ?_)
  refine l_step (s_q rfl wn (q_pick_and rfl rfl rfl (fun h => h)) ?_)
  refine l_step (s_q rfl wn (q_move rfl) ?_)
  refine l_step (s_qg rfl (ask_t rfl rfl) (b := ((((decide ([a.Mark.Index, a.Mark.Term] = [b.Mark.Index, b.Mark.Term])) && (decide ((a.Sum.toNat : Int) = (b.Sum.toNat : Int)))) && (decide (a.Total = b.Total))) && (decide (a.At = b.At)))) (fun hb => q_fieldp rfl fo_95_4) ?_)
  refine l_step (s_qg rfl (ask_t rfl rfl) (b := ((((decide ([a.Mark.Index, a.Mark.Term] = [b.Mark.Index, b.Mark.Term])) && (decide ((a.Sum.toNat : Int) = (b.Sum.toNat : Int)))) && (decide (a.Total = b.Total))) && (decide (a.At = b.At)))) (fun hb => OpQ.env (.cons rfl (gd_t hb) (.nil _) : EnvLe [(32, .pointer (some ⟨b2, 5, none⟩))] _) (q_loadp (v := .slice a.B.a a.B.xs.length a.B.cap) sc_22 rfl (by repeat (first | exact Pick.here | apply Pick.there)) rfl)) ?_)
  refine l_step (s_qg rfl (ask_t rfl rfl) (b := ((((decide ([a.Mark.Index, a.Mark.Term] = [b.Mark.Index, b.Mark.Term])) && (decide ((a.Sum.toNat : Int) = (b.Sum.toNat : Int)))) && (decide (a.Total = b.Total))) && (decide (a.At = b.At)))) (fun hb => OpQ.env (.cons rfl (gd_t hb) (.nil _) : EnvLe [(33, .slice a.B.a a.B.xs.length a.B.cap)] _) (q_tostr (bs := a.B.xs) Try.underlying22 Try.underlying5 Try.underlying9 rfl (by first | assumption | exact rd_ro (by assumption) | exact rd_row (by repeat (first | exact Pick.here | apply Pick.there))))) ?_)
  refine l_step (s_qg rfl (ask_t rfl rfl) (b := ((((decide ([a.Mark.Index, a.Mark.Term] = [b.Mark.Index, b.Mark.Term])) && (decide ((a.Sum.toNat : Int) = (b.Sum.toNat : Int)))) && (decide (a.Total = b.Total))) && (decide (a.At = b.At)))) (fun hb => q_fieldp rfl fo_95_4) ?_)
  refine l_step (s_qg rfl (ask_t rfl rfl) (b := ((((decide ([a.Mark.Index, a.Mark.Term] = [b.Mark.Index, b.Mark.Term])) && (decide ((a.Sum.toNat : Int) = (b.Sum.toNat : Int)))) && (decide (a.Total = b.Total))) && (decide (a.At = b.At)))) (fun hb => OpQ.env (.cons rfl (gd_t hb) (.nil _) : EnvLe [(35, .pointer (some ⟨b3, 5, none⟩))] _) (q_loadp (v := .slice b.B.a b.B.xs.length b.B.cap) sc_22 rfl (by repeat (first | exact Pick.here | apply Pick.there)) rfl)) ?_)
  refine l_step (s_qg rfl (ask_t rfl rfl) (b := ((((decide ([a.Mark.Index, a.Mark.Term] = [b.Mark.Index, b.Mark.Term])) && (decide ((a.Sum.toNat : Int) = (b.Sum.toNat : Int)))) && (decide (a.Total = b.Total))) && (decide (a.At = b.At)))) (fun hb => OpQ.env (.cons rfl (gd_t hb) (.nil _) : EnvLe [(36, .slice b.B.a b.B.xs.length b.B.cap)] _) (q_tostr (bs := b.B.xs) Try.underlying22 Try.underlying5 Try.underlying9 rfl (by first | assumption | exact rd_ro (by assumption) | exact rd_row (by repeat (first | exact Pick.here | apply Pick.there))))) ?_)
  refine l_step (s_qg rfl (ask_t rfl rfl) (b := ((((decide ([a.Mark.Index, a.Mark.Term] = [b.Mark.Index, b.Mark.Term])) && (decide ((a.Sum.toNat : Int) = (b.Sum.toNat : Int)))) && (decide (a.Total = b.Total))) && (decide (a.At = b.At)))) (fun hb => OpQ.env (.cons rfl (gd_t hb) (.cons rfl (gd_t hb) (.nil _)) : EnvLe [(34, (strB a.B.xs)), (37, (strB b.B.xs))] _) (q_eqlsB (p := a.B.xs) (q := b.B.xs) rfl rfl)) ?_)
  refine l_step (s_q rfl wn (q_pick_and rfl rfl rfl (fun h => h)) ?_)
  refine l_step (s_q rfl wn (q_assign rfl) ?_)
  refine l_nil ?_
  refine k_then_n ?_
  refine c_ret ?_
  exact t_ret [] rfl (.tmp rfl .nil) rfl (Hp.le_refl _) ⟨rfl, rfl, rfl⟩ (by (repeat refine Ent.skip ?_); exact Ent.refl _)

theorem rof_spec (n cap : Nat) (a : Option Addr) (xs : List UInt8) (hn : xs.length = n) (hl : xs.length ≤ 1000000000000) (ρ : Hp) (h2 : Ro ρ 1 a n cap (xs.flatMap encB)) : Spec0 Try.prog 16 #[.slice a n cap] ρ [] (fun v Γ' => v = .int .u32 ((sumB xs).toNat : Int) ∧ Γ' = []) := by
  subst hn
  exact spec0_flip (Go.Sum.refOf_spec ⟨a, cap, xs⟩ ρ [] hl fun _ => rd_ro h2)

theorem rcut_spec (m : Mark) (s_a : Option Addr) (s_n s_c : Nat) (s : List UInt8) (hs_n : s.length = s_n) (size : Int) (ρ : Hp) (hl : s_n ≤ 1000000000) (hro : Ro ρ 1 s_a s_n s_c (s.flatMap encB)) : Spec0 Try.prog 38 #[.agg (encMark m).toArray, .slice s_a s_n s_c, .int .i64 size] ρ [] (fun v Γ' => ∃ a c, ∃ ps : List Piece, v = .tuple #[.slice a ps.length c, .int .i64 (cutE m size)] ∧ ps.map pd = cutG m s size ∧ Γ' = [.row 95 6 a ps.length c (ps.flatMap encPiece), Bun (ps.map (rowP 5))]) := by
  refine spec_of (n := 61) (vs := [_, _, _]) (σ := [(0, _), (1, _), (2, _)]) Try.func38 rfl rfl rfl rfl fun E Δ => ?_
  rw [List.nil_append]
  refine c_seq ?_
  refine c_region ?_
  refine l_step (s_s rfl wn (s_box (cs := encMark m) rfl rfl) ?_)
  rintro _ _ ⟨b3, rfl, rfl⟩
  refine l_step (s_q rfl wn (q_assign rfl) ?_)
  refine l_step (s_q rfl wn (q_assign rfl) ?_)
  refine l_nil ?_
  refine k_then_n ?_
  refine c_seq ?_
  refine c_seq ?_
  refine c_region ?_
  refine l_step (s_q rfl wn (q_loadpa (vs := encMark m) ag_87 rfl (by repeat (first | exact Pick.here | apply Pick.there)) rfl) ?_)
  refine l_step (s_fnq rfl wn Try.func67 rfl (by kernel_rfl) rfl (fun ρ' hL => rright_spec m ρ') ?_)
  refine l_step (s_q rfl wn (q_not rfl) ?_)
  refine l_step (s_q rfl wn (q_move rfl) ?_)
  refine l_step (s_qg rfl (ask_f rfl rfl) (b := (!(!(rightR m)))) (fun hb => q_move rfl) ?_)
  refine l_step (s_qg rfl (ask_f rfl rfl) (b := (!(!(rightR m)))) (fun hb => OpQ.env (.cons rfl (gd_t hb) (.nil _) : EnvLe [(16, .int .i64 size)] _) (q_lss rfl rfl)) ?_)
  refine l_step (s_q rfl wn (q_pick_or rfl rfl rfl (fun h => by first | (rw [h]; rfl) | exact congrArg not h)) ?_)
  refine l_nil ?_
  refine k_then_n ?_
  refine c_cond rfl (fun h0 => ?_) (fun h0 => ?_)
  · (try dsimp only [heapOf] at h0); try simp only [Bool.and_eq_true, Bool.or_eq_true, Bool.not_eq_true', Bool.and_eq_false_iff, Bool.or_eq_false_iff, Bool.not_eq_false', decide_eq_true_eq, decide_eq_false_iff_not, Bool.not_eq_eq_eq_not, Bool.not_true, Bool.not_false, Bool.not_eq_true, Bool.not_eq_false, beq_iff_eq, bne_iff_ne, ne_eq, Decidable.not_not] at h0
    refine c_seq ?_
    refine c_region ?_
    refine l_step (s_q rfl wn (q_assign rfl) ?_)
    refine l_step (s_q rfl wn (q_assign rfl) ?_)
    refine l_nil ?_
    refine k_then_n ?_
    refine c_ret ?_
    refine k_then_r ?_
    have hok : cutOk m size = false := by unfold cutOk; rw [rightR_eq] at h0; exact h0.elim (fun h => by rw [h]; rfl) (fun h => by rw [decide_eq_false (p := 1 ≤ size) (by omega), Bool.and_false])
    refine Tr.ent (Ent.trans (bun_nil _) (Ent.nilrow 95 6 _)) ?_
    exact t_ret [.row 95 6 none 0 0 [], Bun []] rfl (.tmp rfl (.tmp rfl .nil)) rfl (Hp.le_refl _) ⟨rfl, none, 0, [], (by unfold cutE; rw [hok]; rfl), (by unfold cutG; rw [hok]; rfl), rfl⟩ (by repeat (first | exact Ent.nil _ | exact Ent.refl _ | (refine Ent.pick (by repeat (first | exact Pick.here | apply Pick.there)) ?_) | refine Ent.skip ?_))
  · (try dsimp only [heapOf] at h0); try simp only [Bool.and_eq_true, Bool.or_eq_true, Bool.not_eq_true', Bool.and_eq_false_iff, Bool.or_eq_false_iff, Bool.not_eq_false', decide_eq_true_eq, decide_eq_false_iff_not, Bool.not_eq_eq_eq_not, Bool.not_true, Bool.not_false, Bool.not_eq_true, Bool.not_eq_false, beq_iff_eq, bne_iff_ne, ne_eq, Decidable.not_not] at h0
    refine c_skip ?_
    refine k_then_n ?_
    refine c_seq ?_
    refine c_region ?_
    refine l_step (s_q rfl wn (q_assign rfl) ?_)
    refine l_nil ?_
    refine k_then_n ?_
    refine c_seq ?_
    refine c_region ?_
    refine Tr.ent (bun_nil _) ?_
    refine l_step (s_q rfl wn (q_assign rfl) ?_)
    refine l_nil ?_
    refine k_then_n ?_
    refine c_seq ?_
    refine c_block ?_
    refine Tr.ent (Ent.nilrow 95 6 _) ?_
    refine Tr.env (σ' := [(1, _), (2, _), (3, _), (6, _), (7, _), (8, _), (9, _)]) (.cons rfl rfl (.cons rfl rfl (.cons rfl rfl (.cons rfl rfl (.cons rfl rfl (.cons rfl rfl (.cons rfl rfl (.nil _)))))))) ?_
    refine t_loop (ι := Lp (CY)) (fun x => CutR m s size x.d) (fun x => max 1 (cdiv s.length (min size.toNat s.length)) - x.d.ps.length) (fun x => [(1, .slice s_a s_n s_c), (2, .int .i64 size), (3, .pointer (some ⟨b3, 0, none⟩)), (6, .slice none 0 0), (7, .int .i64 0), (8, .slice x.a1 x.d.ps.length x.c1), (9, .int .i64 x.d.at_)]) (fun x => .row 95 6 x.a1 x.d.ps.length x.c1 (x.d.ps.flatMap encPiece) :: Bun (x.d.ps.map (rowP 5)) :: .pts b3 (encMark m) 87 :: Δ) (⟨cy0, none, 0, none, 0, none, 0⟩ : Lp _) (cutR0 m s size) ?_ ?_ ?_
    · exact .cons rfl (by first | rfl | exact inte (by omega) | (simp; done) | (simp <;> omega) | simp [*]) (.cons rfl (by first | rfl | exact inte (by omega) | (simp; done) | (simp <;> omega) | simp [*]) (.cons rfl (by first | rfl | exact inte (by omega) | (simp; done) | (simp <;> omega) | simp [*]) (.cons rfl (by first | rfl | exact inte (by omega) | (simp; done) | (simp <;> omega) | simp [*]) (.cons rfl (by first | rfl | exact inte (by omega) | (simp; done) | (simp <;> omega) | simp [*]) (.cons rfl (by first | rfl | exact inte (by omega) | (simp; done) | (simp <;> omega) | simp [*]) (.cons rfl (by first | rfl | exact inte rfl) (.nil _)))))))
    · exact (by repeat (first | exact Ent.nil _ | exact Ent.refl _ | (refine Ent.pick (by repeat (first | exact Pick.here | apply Pick.there)) ?_) | refine Ent.skip ?_))
    intro x hx
    refine c_seq ?_
    refine c_seq ?_
    refine c_region ?_
    refine l_step (s_q rfl wn (q_move rfl) ?_)
    refine l_step (s_q rfl wn (q_len Try.underlying88 rfl) ?_)
    refine l_step (s_q rfl wn (q_eql rfl rfl) ?_)
    refine l_step (s_q rfl wn (q_move rfl) ?_)
    refine l_step (s_qg rfl (ask_f rfl rfl) (b := (!(decide ((x.d.ps.length : Int) = 0)))) (fun hb => q_move rfl) ?_)
    refine l_step (s_qg rfl (ask_f rfl rfl) (b := (!(decide ((x.d.ps.length : Int) = 0)))) (fun hb => q_move rfl) ?_)
    refine l_step (s_qg rfl (ask_f rfl rfl) (b := (!(decide ((x.d.ps.length : Int) = 0)))) (fun hb => OpQ.env (.cons rfl (gd_t hb) (.nil _) : EnvLe [(24, .slice s_a s_n s_c)] _) (q_len Try.underlying22 rfl)) ?_)
    refine l_step (s_qg rfl (ask_f rfl rfl) (b := (!(decide ((x.d.ps.length : Int) = 0)))) (fun hb => OpQ.env (.cons rfl (gd_t hb) (.cons rfl (gd_t hb) (.nil _)) : EnvLe [(23, .int .i64 x.d.at_), (25, .int .i64 (s_n : Int))] _) (q_lss rfl rfl)) ?_)
    refine l_step (s_q rfl wn (q_pick_or rfl rfl rfl (fun h => by first | (rw [h]; rfl) | exact congrArg not h)) ?_)
    refine l_nil ?_
    refine k_then_n ?_
    refine c_cond rfl (fun h1 => ?_) (fun h1 => ?_)
    · (try dsimp only [heapOf] at h1); try simp only [Bool.and_eq_true, Bool.or_eq_true, Bool.not_eq_true', Bool.and_eq_false_iff, Bool.or_eq_false_iff, Bool.not_eq_false', decide_eq_true_eq, decide_eq_false_iff_not, Bool.not_eq_eq_eq_not, Bool.not_true, Bool.not_false, Bool.not_eq_true, Bool.not_eq_false, beq_iff_eq, bne_iff_ne, ne_eq, Decidable.not_not] at h1
      have hc : x.d.ps.length = 0 ∨ x.d.at_ < (s.length : Int) := by rw [hs_n]; exact h1.imp (fun h => by omega) (fun h => h)
      obtain ⟨hpos, hkn⟩ := hx.pos (by omega) hc
      have hnx := fun a a' c c' l => hx.next (by omega) hc a a' c c' l
      have hat := hx.1.1
      rw [hs_n] at hkn hpos hat hnx
      have hcd := cdiv_le s_n (min size.toNat s_n)
      have hsm := cut_small (size := size) (by omega) hkn
      have hpl : ((s.take (min s_n (x.d.ps.length * (min size.toNat s_n) + (min size.toNat s_n)))).drop (x.d.ps.length * (min size.toNat s_n))).length = min s_n (x.d.ps.length * (min size.toNat s_n) + (min size.toNat s_n)) - x.d.ps.length * (min size.toNat s_n) := by rw [List.length_drop, List.length_take]; omega
      have hkl : x.d.ps.length * (min size.toNat s_n) ≤ s_n := hkn.elim (fun h => by rw [h]; omega) (fun h => by omega)
      have hat2 : x.d.at_.toNat = x.d.ps.length * (min size.toNat s_n) := by omega
      have hpart : Ro ρ 1 (sh s_a s_c x.d.at_.toNat 1) ((s.take (min s_n (x.d.ps.length * (min size.toNat s_n) + (min size.toNat s_n)))).drop (x.d.ps.length * (min size.toNat s_n))).length (s_c - x.d.at_.toNat) (((s.take (min s_n (x.d.ps.length * (min size.toNat s_n) + (min size.toNat s_n)))).drop (x.d.ps.length * (min size.toNat s_n))).flatMap encB) := by rw [hat2, hpl]; exact Ro.cut2e hro (fun _ => rfl) (x.d.ps.length * (min size.toNat s_n)) (min s_n (x.d.ps.length * (min size.toNat s_n) + (min size.toNat s_n))) (by omega) (by omega)
      refine c_skip ?_
      refine k_then_n ?_
      refine c_block ?_
      refine c_seq ?_
      refine c_region ?_
      refine l_step (s_q rfl wn (q_move rfl) ?_)
      refine l_step (s_q rfl wn (q_len Try.underlying22 rfl) ?_)
      refine l_step (s_q rfl wn (q_move rfl) ?_)
      refine l_step (s_q rfl wn (q_sub rfl rfl (by omega) (by omega)) ?_)
      refine l_step (s_q rfl wn (q_assign rfl) ?_)
      refine l_nil ?_
      refine k_then_n ?_
      refine c_seq ?_
      refine c_seq ?_
      refine c_region ?_
      refine l_step (s_q rfl wn (q_move rfl) ?_)
      refine l_step (s_q rfl wn (q_move rfl) ?_)
      refine l_step (s_q rfl wn (q_gtr rfl rfl) ?_)
      refine l_nil ?_
      refine k_then_n ?_
      refine t_cutq (ι := Unit) (fun _u => True) (fun _u => [(1, .slice s_a s_n s_c), (2, .int .i64 size), (3, .pointer (some ⟨b3, 0, none⟩)), (6, .slice none 0 0), (7, .int .i64 0), (8, .slice x.a1 x.d.ps.length x.c1), (9, .int .i64 x.d.at_), (10, .int .i64 ((((s.take (min s_n (x.d.ps.length * (min size.toNat s_n) + (min size.toNat s_n)))).drop (x.d.ps.length * (min size.toNat s_n))).length : Nat) : Int)), (19, .slice x.a1 x.d.ps.length x.c1), (20, .int .i64 (x.d.ps.length : Int)), (21, .bool (decide ((x.d.ps.length : Int) = 0))), (22, .bool (decide ((x.d.ps.length : Int) = 0))), (23, gd (!(decide ((x.d.ps.length : Int) = 0))) (.int .i64 x.d.at_)), (24, gd (!(decide ((x.d.ps.length : Int) = 0))) (.slice s_a s_n s_c)), (25, gd (!(decide ((x.d.ps.length : Int) = 0))) (.int .i64 (s_n : Int))), (26, gd (!(decide ((x.d.ps.length : Int) = 0))) (.bool (decide (x.d.at_ < (s_n : Int))))), (27, .bool ((decide ((x.d.ps.length : Int) = 0)) || (decide (x.d.at_ < (s_n : Int))))), (28, .slice s_a s_n s_c), (29, .int .i64 (s_n : Int)), (30, .int .i64 x.d.at_), (31, .int .i64 ((s_n : Int) - x.d.at_)), (32, .int .i64 ((s_n : Int) - x.d.at_)), (33, .int .i64 size), (34, .bool (decide (size < ((s_n : Int) - x.d.at_))))]) (fun _u => .row 95 6 x.a1 x.d.ps.length x.c1 (x.d.ps.flatMap encPiece) :: Bun (x.d.ps.map (rowP 5)) :: .pts b3 (encMark m) 87 :: Δ) ?_ ?_
      · skip
        refine c_cond rfl (fun h2 => ?_) (fun h2 => ?_)
        · (try dsimp only [heapOf] at h2); try simp only [Bool.and_eq_true, Bool.or_eq_true, Bool.not_eq_true', Bool.and_eq_false_iff, Bool.or_eq_false_iff, Bool.not_eq_false', decide_eq_true_eq, decide_eq_false_iff_not, Bool.not_eq_eq_eq_not, Bool.not_true, Bool.not_false, Bool.not_eq_true, Bool.not_eq_false, beq_iff_eq, bne_iff_ne, ne_eq, Decidable.not_not] at h2
          refine c_region ?_
          refine l_step (s_q rfl wn (q_move rfl) ?_)
          refine l_step (s_q rfl wn (q_assign rfl) ?_)
          refine l_nil ?_
          refine k_then_n ?_
          exact t_next () trivial (.cons rfl (by first | rfl | exact inte (by omega) | (simp; done) | (simp <;> omega) | simp [*]) (.cons rfl (by first | rfl | exact inte (by omega) | (simp; done) | (simp <;> omega) | simp [*]) (.cons rfl (by first | rfl | exact inte (by omega) | (simp; done) | (simp <;> omega) | simp [*]) (.cons rfl (by first | rfl | exact inte (by omega) | (simp; done) | (simp <;> omega) | simp [*]) (.cons rfl (by first | rfl | exact inte (by omega) | (simp; done) | (simp <;> omega) | simp [*]) (.cons rfl (by first | rfl | exact inte (by omega) | (simp; done) | (simp <;> omega) | simp [*]) (.cons rfl (by first | rfl | exact inte (by omega) | (simp; done) | (simp <;> omega) | simp [*]) (.cons rfl (inte (by omega)) (.cons rfl (by first | rfl | exact inte (by omega) | (simp; done) | (simp <;> omega) | simp [*]) (.cons rfl (by first | rfl | exact inte (by omega) | (simp; done) | (simp <;> omega) | simp [*]) (.cons rfl (by first | rfl | exact inte (by omega) | (simp; done) | (simp <;> omega) | simp [*]) (.cons rfl (by first | rfl | exact inte (by omega) | (simp; done) | (simp <;> omega) | simp [*]) (.cons rfl (by first | rfl | exact inte (by omega) | (simp; done) | (simp <;> omega) | simp [*]) (.cons rfl (by first | rfl | exact inte (by omega) | (simp; done) | (simp <;> omega) | simp [*]) (.cons rfl (by first | rfl | exact inte (by omega) | (simp; done) | (simp <;> omega) | simp [*]) (.cons rfl (by first | rfl | exact inte (by omega) | (simp; done) | (simp <;> omega) | simp [*]) (.cons rfl (by first | rfl | exact inte (by omega) | (simp; done) | (simp <;> omega) | simp [*]) (.cons rfl (by first | rfl | exact inte (by omega) | (simp; done) | (simp <;> omega) | simp [*]) (.cons rfl (by first | rfl | exact inte (by omega) | (simp; done) | (simp <;> omega) | simp [*]) (.cons rfl (by first | rfl | exact inte (by omega) | (simp; done) | (simp <;> omega) | simp [*]) (.cons rfl (by first | rfl | exact inte (by omega) | (simp; done) | (simp <;> omega) | simp [*]) (.cons rfl (by first | rfl | exact inte (by omega) | (simp; done) | (simp <;> omega) | simp [*]) (.cons rfl (by first | rfl | exact inte (by omega) | (simp; done) | (simp <;> omega) | simp [*]) (.cons rfl (by first | rfl | exact inte (by omega) | (simp; done) | (simp <;> omega) | simp [*]) (.nil _))))))))))))))))))))))))) (by repeat (first | exact Ent.nil _ | exact Ent.refl _ | (refine Ent.pick (by repeat (first | exact Pick.here | apply Pick.there)) ?_) | refine Ent.skip ?_))
        · (try dsimp only [heapOf] at h2); try simp only [Bool.and_eq_true, Bool.or_eq_true, Bool.not_eq_true', Bool.and_eq_false_iff, Bool.or_eq_false_iff, Bool.not_eq_false', decide_eq_true_eq, decide_eq_false_iff_not, Bool.not_eq_eq_eq_not, Bool.not_true, Bool.not_false, Bool.not_eq_true, Bool.not_eq_false, beq_iff_eq, bne_iff_ne, ne_eq, Decidable.not_not] at h2
          refine c_skip ?_
          refine k_then_n ?_
          exact t_next () trivial (.cons rfl (by first | rfl | exact inte (by omega) | (simp; done) | (simp <;> omega) | simp [*]) (.cons rfl (by first | rfl | exact inte (by omega) | (simp; done) | (simp <;> omega) | simp [*]) (.cons rfl (by first | rfl | exact inte (by omega) | (simp; done) | (simp <;> omega) | simp [*]) (.cons rfl (by first | rfl | exact inte (by omega) | (simp; done) | (simp <;> omega) | simp [*]) (.cons rfl (by first | rfl | exact inte (by omega) | (simp; done) | (simp <;> omega) | simp [*]) (.cons rfl (by first | rfl | exact inte (by omega) | (simp; done) | (simp <;> omega) | simp [*]) (.cons rfl (by first | rfl | exact inte (by omega) | (simp; done) | (simp <;> omega) | simp [*]) (.cons rfl (inte (by omega)) (.cons rfl (by first | rfl | exact inte (by omega) | (simp; done) | (simp <;> omega) | simp [*]) (.cons rfl (by first | rfl | exact inte (by omega) | (simp; done) | (simp <;> omega) | simp [*]) (.cons rfl (by first | rfl | exact inte (by omega) | (simp; done) | (simp <;> omega) | simp [*]) (.cons rfl (by first | rfl | exact inte (by omega) | (simp; done) | (simp <;> omega) | simp [*]) (.cons rfl (by first | rfl | exact inte (by omega) | (simp; done) | (simp <;> omega) | simp [*]) (.cons rfl (by first | rfl | exact inte (by omega) | (simp; done) | (simp <;> omega) | simp [*]) (.cons rfl (by first | rfl | exact inte (by omega) | (simp; done) | (simp <;> omega) | simp [*]) (.cons rfl (by first | rfl | exact inte (by omega) | (simp; done) | (simp <;> omega) | simp [*]) (.cons rfl (by first | rfl | exact inte (by omega) | (simp; done) | (simp <;> omega) | simp [*]) (.cons rfl (by first | rfl | exact inte (by omega) | (simp; done) | (simp <;> omega) | simp [*]) (.cons rfl (by first | rfl | exact inte (by omega) | (simp; done) | (simp <;> omega) | simp [*]) (.cons rfl (by first | rfl | exact inte (by omega) | (simp; done) | (simp <;> omega) | simp [*]) (.cons rfl (by first | rfl | exact inte (by omega) | (simp; done) | (simp <;> omega) | simp [*]) (.cons rfl (by first | rfl | exact inte (by omega) | (simp; done) | (simp <;> omega) | simp [*]) (.cons rfl (by first | rfl | exact inte (by omega) | (simp; done) | (simp <;> omega) | simp [*]) (.cons rfl (by first | rfl | exact inte (by omega) | (simp; done) | (simp <;> omega) | simp [*]) (.nil _))))))))))))))))))))))))) (by repeat (first | exact Ent.nil _ | exact Ent.refl _ | (refine Ent.pick (by repeat (first | exact Pick.here | apply Pick.there)) ?_) | refine Ent.skip ?_))
      intro _u hj2
      refine k_then_n ?_
      refine c_seq ?_
      refine t_cutq (ι := Nat) (fun x11 => True) (fun x11 => [(1, .slice s_a s_n s_c), (2, .int .i64 size), (3, .pointer (some ⟨b3, 0, none⟩)), (6, .slice none 0 0), (7, .int .i64 0), (8, .slice x.a1 x.d.ps.length x.c1), (9, .int .i64 x.d.at_), (10, .int .i64 ((((s.take (min s_n (x.d.ps.length * (min size.toNat s_n) + (min size.toNat s_n)))).drop (x.d.ps.length * (min size.toNat s_n))).length : Nat) : Int)), (11, .pointer (some ⟨x11, 0, none⟩)), (19, .slice x.a1 x.d.ps.length x.c1), (20, .int .i64 (x.d.ps.length : Int)), (21, .bool (decide ((x.d.ps.length : Int) = 0))), (22, .bool (decide ((x.d.ps.length : Int) = 0))), (23, gd (!(decide ((x.d.ps.length : Int) = 0))) (.int .i64 x.d.at_)), (24, gd (!(decide ((x.d.ps.length : Int) = 0))) (.slice s_a s_n s_c)), (25, gd (!(decide ((x.d.ps.length : Int) = 0))) (.int .i64 (s_n : Int))), (26, gd (!(decide ((x.d.ps.length : Int) = 0))) (.bool (decide (x.d.at_ < (s_n : Int))))), (27, .bool ((decide ((x.d.ps.length : Int) = 0)) || (decide (x.d.at_ < (s_n : Int))))), (28, .slice s_a s_n s_c), (29, .int .i64 (s_n : Int)), (30, .int .i64 x.d.at_), (31, .int .i64 ((s_n : Int) - x.d.at_)), (32, .int .i64 ((s_n : Int) - x.d.at_)), (33, .int .i64 size), (34, .bool (decide (size < ((s_n : Int) - x.d.at_))))]) (fun x11 => .pts x11 (encPiece (⟨m, (sumB s), (s_n : Int), x.d.at_, ⟨none, [], 0⟩⟩ : Piece)) 95 :: .row 95 6 x.a1 x.d.ps.length x.c1 (x.d.ps.flatMap encPiece) :: Bun (x.d.ps.map (rowP 5)) :: .pts b3 (encMark m) 87 :: Δ) ?_ ?_
      · skip
        refine c_draw (m := 9) (bs := #[false, false, false, false, false, false, false, false, false]) [] (by kernel_rfl) rfl (by kernel_rfl) ?_
        refine r_take (i := 1) (bs' := #[false, true, false, false, false, false, false, false, false]) rfl (by kernel_rfl) (by kernel_rfl) (by kernel_rfl) (fun _ _ _ h => h) rfl wn (q_move rfl) (Hp.le_refl _) (by repeat (first | exact Ent.nil _ | exact Ent.refl _ | (refine Ent.pick (by repeat (first | exact Pick.here | apply Pick.there)) ?_) | refine Ent.skip ?_)) (by kernel_rfl) ?_
        refine r_take (i := 3) (bs' := #[false, true, false, true, false, false, false, false, false]) rfl (by kernel_rfl) (by kernel_rfl) (by kernel_rfl) (fun _ _ _ h => h) rfl wn (q_move rfl) (Hp.le_refl _) (by repeat (first | exact Ent.nil _ | exact Ent.refl _ | (refine Ent.pick (by repeat (first | exact Pick.here | apply Pick.there)) ?_) | refine Ent.skip ?_)) (by kernel_rfl) ?_
        refine r_take (i := 4) (bs' := #[false, true, false, true, true, false, false, false, false]) rfl (by kernel_rfl) (by kernel_rfl) (by kernel_rfl) (fun _ _ _ h => h) rfl wn (q_len Try.underlying22 rfl) (Hp.le_refl _) (by repeat (first | exact Ent.nil _ | exact Ent.refl _ | (refine Ent.pick (by repeat (first | exact Pick.here | apply Pick.there)) ?_) | refine Ent.skip ?_)) (by kernel_rfl) ?_
        refine r_take (i := 5) (bs' := #[false, true, false, true, true, true, false, false, false]) rfl (by kernel_rfl) (by kernel_rfl) (by kernel_rfl) (fun _ _ _ h => h) rfl wn (q_move rfl) (Hp.le_refl _) (by repeat (first | exact Ent.nil _ | exact Ent.refl _ | (refine Ent.pick (by repeat (first | exact Pick.here | apply Pick.there)) ?_) | refine Ent.skip ?_)) (by kernel_rfl) ?_
        refine r_three (i := 0) (j := 2) (l := 7) (bi := #[true, true, false, true, true, true, false, false, false]) (bj := #[false, true, true, true, true, true, false, false, false]) (bl := #[false, true, false, true, true, true, false, true, false]) (by kernel_rfl) (by kernel_rfl) (by kernel_rfl) (by kernel_rfl) ?_ ?_ ?_
        · skip
          refine o_step rfl (s_q rfl wn (q_loadpa (vs := encMark m) ag_87 rfl (by repeat (first | exact Pick.here | apply Pick.there)) rfl) ?_)
          refine r_cont (Hp.le_refl _) (by repeat (first | exact Ent.nil _ | exact Ent.refl _ | (refine Ent.pick (by repeat (first | exact Pick.here | apply Pick.there)) ?_) | refine Ent.skip ?_)) ?_
          refine r_two (i := 2) (j := 7) (bi := #[true, true, true, true, true, true, false, false, false]) (bj := #[true, true, false, true, true, true, false, true, false]) (by kernel_rfl) (by kernel_rfl) (by kernel_rfl) ?_ ?_
          · skip
            refine o_step rfl (s_fnq rfl wn Try.func16 rfl (by kernel_rfl) rfl (fun ρ' hL => rof_spec s_n s_c s_a s hs_n (by omega) ρ' (hL.ro hro)) ?_)
            refine r_cont (Hp.le_refl _) (by repeat (first | exact Ent.nil _ | exact Ent.refl _ | (refine Ent.pick (by repeat (first | exact Pick.here | apply Pick.there)) ?_) | refine Ent.skip ?_)) ?_
            refine r_take (i := 6) (bs' := #[true, true, true, true, true, true, true, false, false]) rfl (by kernel_rfl) (by kernel_rfl) (by kernel_rfl) (fun _ _ _ h => h) rfl wn (q_build (cs := encPiece (⟨m, (sumB s), (s_n : Int), x.d.at_, ⟨none, [], 0⟩⟩ : Piece)) zc_95 pl_95 rfl rfl) (Hp.le_refl _) (by repeat (first | exact Ent.nil _ | exact Ent.refl _ | (refine Ent.pick (by repeat (first | exact Pick.here | apply Pick.there)) ?_) | refine Ent.skip ?_)) (by kernel_rfl) ?_
            refine r_one (i := 7) (bs' := #[true, true, true, true, true, true, true, true, false]) (by kernel_rfl) (by kernel_rfl) ?_
            refine o_step rfl (s_s rfl wn (s_allocz (cs := encPiece zPiece) (by kernel_rfl)) ?_)
            rintro _ _ ⟨b11, rfl, rfl⟩
            refine r_cont (Hp.le_refl _) (by repeat (first | exact Ent.nil _ | exact Ent.refl _ | (refine Ent.pick (by repeat (first | exact Pick.here | apply Pick.there)) ?_) | refine Ent.skip ?_)) ?_
            refine r_one (i := 8) (bs' := #[true, true, true, true, true, true, true, true, true]) (by kernel_rfl) (by kernel_rfl) ?_
            refine o_step rfl (s_s0 wn (s_storep (ws := encPiece (⟨m, (sumB s), (s_n : Int), x.d.at_, ⟨none, [], 0⟩⟩ : Piece)) (cs := encPiece zPiece) (cs' := encPiece (⟨m, (sumB s), (s_n : Int), x.d.at_, ⟨none, [], 0⟩⟩ : Piece)) rfl rfl rfl sz_95 (onePiece _) (by simp [encPiece, encPiece]) rfl (by repeat (first | exact Pick.here | apply Pick.there))) ?_)
            rintro _ _ ⟨rfl, rfl⟩
            refine r_cont (Hp.le_refl _) (by repeat (first | exact Ent.nil _ | exact Ent.refl _ | (refine Ent.pick (by repeat (first | exact Pick.here | apply Pick.there)) ?_) | refine Ent.skip ?_)) ?_
            refine r_done (by kernel_rfl) ?_
            refine k_then_n ?_
            exact t_next b11 trivial (.cons rfl (by first | rfl | exact inte (by omega) | (simp; done) | (simp <;> omega) | simp [*]) (.cons rfl (by first | rfl | exact inte (by omega) | (simp; done) | (simp <;> omega) | simp [*]) (.cons rfl (by first | rfl | exact inte (by omega) | (simp; done) | (simp <;> omega) | simp [*]) (.cons rfl (by first | rfl | exact inte (by omega) | (simp; done) | (simp <;> omega) | simp [*]) (.cons rfl (by first | rfl | exact inte (by omega) | (simp; done) | (simp <;> omega) | simp [*]) (.cons rfl (by first | rfl | exact inte (by omega) | (simp; done) | (simp <;> omega) | simp [*]) (.cons rfl (by first | rfl | exact inte (by omega) | (simp; done) | (simp <;> omega) | simp [*]) (.cons rfl (by first | rfl | exact inte (by omega) | (simp; done) | (simp <;> omega) | simp [*]) (.cons rfl (by first | rfl | exact inte (by omega) | (simp; done) | (simp <;> omega) | simp [*]) (.cons rfl (by first | rfl | exact inte (by omega) | (simp; done) | (simp <;> omega) | simp [*]) (.cons rfl (by first | rfl | exact inte (by omega) | (simp; done) | (simp <;> omega) | simp [*]) (.cons rfl (by first | rfl | exact inte (by omega) | (simp; done) | (simp <;> omega) | simp [*]) (.cons rfl (by first | rfl | exact inte (by omega) | (simp; done) | (simp <;> omega) | simp [*]) (.cons rfl (by first | rfl | exact inte (by omega) | (simp; done) | (simp <;> omega) | simp [*]) (.cons rfl (by first | rfl | exact inte (by omega) | (simp; done) | (simp <;> omega) | simp [*]) (.cons rfl (by first | rfl | exact inte (by omega) | (simp; done) | (simp <;> omega) | simp [*]) (.cons rfl (by first | rfl | exact inte (by omega) | (simp; done) | (simp <;> omega) | simp [*]) (.cons rfl (by first | rfl | exact inte (by omega) | (simp; done) | (simp <;> omega) | simp [*]) (.cons rfl (by first | rfl | exact inte (by omega) | (simp; done) | (simp <;> omega) | simp [*]) (.cons rfl (by first | rfl | exact inte (by omega) | (simp; done) | (simp <;> omega) | simp [*]) (.cons rfl (by first | rfl | exact inte (by omega) | (simp; done) | (simp <;> omega) | simp [*]) (.cons rfl (by first | rfl | exact inte (by omega) | (simp; done) | (simp <;> omega) | simp [*]) (.cons rfl (by first | rfl | exact inte (by omega) | (simp; done) | (simp <;> omega) | simp [*]) (.cons rfl (by first | rfl | exact inte (by omega) | (simp; done) | (simp <;> omega) | simp [*]) (.cons rfl (by first | rfl | exact inte (by omega) | (simp; done) | (simp <;> omega) | simp [*]) (.nil _)))))))))))))))))))))))))) (by repeat (first | exact Ent.nil _ | exact Ent.refl _ | (refine Ent.pick (by repeat (first | exact Pick.here | apply Pick.there)) ?_) | refine Ent.skip ?_))
          · skip
            refine o_step rfl (s_s rfl wn (s_allocz (cs := encPiece zPiece) (by kernel_rfl)) ?_)
            rintro _ _ ⟨b11, rfl, rfl⟩
            refine r_cont (Hp.le_refl _) (by repeat (first | exact Ent.nil _ | exact Ent.refl _ | (refine Ent.pick (by repeat (first | exact Pick.here | apply Pick.there)) ?_) | refine Ent.skip ?_)) ?_
            refine r_one (i := 2) (bs' := #[true, true, true, true, true, true, false, true, false]) (by kernel_rfl) (by kernel_rfl) ?_
            refine o_step rfl (s_fnq rfl wn Try.func16 rfl (by kernel_rfl) rfl (fun ρ' hL => rof_spec s_n s_c s_a s hs_n (by omega) ρ' (hL.ro hro)) ?_)
            refine r_cont (Hp.le_refl _) (by repeat (first | exact Ent.nil _ | exact Ent.refl _ | (refine Ent.pick (by repeat (first | exact Pick.here | apply Pick.there)) ?_) | refine Ent.skip ?_)) ?_
            refine r_take (i := 6) (bs' := #[true, true, true, true, true, true, true, true, false]) rfl (by kernel_rfl) (by kernel_rfl) (by kernel_rfl) (fun _ _ _ h => h) rfl wn (q_build (cs := encPiece (⟨m, (sumB s), (s_n : Int), x.d.at_, ⟨none, [], 0⟩⟩ : Piece)) zc_95 pl_95 rfl rfl) (Hp.le_refl _) (by repeat (first | exact Ent.nil _ | exact Ent.refl _ | (refine Ent.pick (by repeat (first | exact Pick.here | apply Pick.there)) ?_) | refine Ent.skip ?_)) (by kernel_rfl) ?_
            refine r_one (i := 8) (bs' := #[true, true, true, true, true, true, true, true, true]) (by kernel_rfl) (by kernel_rfl) ?_
            refine o_step rfl (s_s0 wn (s_storep (ws := encPiece (⟨m, (sumB s), (s_n : Int), x.d.at_, ⟨none, [], 0⟩⟩ : Piece)) (cs := encPiece zPiece) (cs' := encPiece (⟨m, (sumB s), (s_n : Int), x.d.at_, ⟨none, [], 0⟩⟩ : Piece)) rfl rfl rfl sz_95 (onePiece _) (by simp [encPiece, encPiece]) rfl (by repeat (first | exact Pick.here | apply Pick.there))) ?_)
            rintro _ _ ⟨rfl, rfl⟩
            refine r_cont (Hp.le_refl _) (by repeat (first | exact Ent.nil _ | exact Ent.refl _ | (refine Ent.pick (by repeat (first | exact Pick.here | apply Pick.there)) ?_) | refine Ent.skip ?_)) ?_
            refine r_done (by kernel_rfl) ?_
            refine k_then_n ?_
            exact t_next b11 trivial (.cons rfl (by first | rfl | exact inte (by omega) | (simp; done) | (simp <;> omega) | simp [*]) (.cons rfl (by first | rfl | exact inte (by omega) | (simp; done) | (simp <;> omega) | simp [*]) (.cons rfl (by first | rfl | exact inte (by omega) | (simp; done) | (simp <;> omega) | simp [*]) (.cons rfl (by first | rfl | exact inte (by omega) | (simp; done) | (simp <;> omega) | simp [*]) (.cons rfl (by first | rfl | exact inte (by omega) | (simp; done) | (simp <;> omega) | simp [*]) (.cons rfl (by first | rfl | exact inte (by omega) | (simp; done) | (simp <;> omega) | simp [*]) (.cons rfl (by first | rfl | exact inte (by omega) | (simp; done) | (simp <;> omega) | simp [*]) (.cons rfl (by first | rfl | exact inte (by omega) | (simp; done) | (simp <;> omega) | simp [*]) (.cons rfl (by first | rfl | exact inte (by omega) | (simp; done) | (simp <;> omega) | simp [*]) (.cons rfl (by first | rfl | exact inte (by omega) | (simp; done) | (simp <;> omega) | simp [*]) (.cons rfl (by first | rfl | exact inte (by omega) | (simp; done) | (simp <;> omega) | simp [*]) (.cons rfl (by first | rfl | exact inte (by omega) | (simp; done) | (simp <;> omega) | simp [*]) (.cons rfl (by first | rfl | exact inte (by omega) | (simp; done) | (simp <;> omega) | simp [*]) (.cons rfl (by first | rfl | exact inte (by omega) | (simp; done) | (simp <;> omega) | simp [*]) (.cons rfl (by first | rfl | exact inte (by omega) | (simp; done) | (simp <;> omega) | simp [*]) (.cons rfl (by first | rfl | exact inte (by omega) | (simp; done) | (simp <;> omega) | simp [*]) (.cons rfl (by first | rfl | exact inte (by omega) | (simp; done) | (simp <;> omega) | simp [*]) (.cons rfl (by first | rfl | exact inte (by omega) | (simp; done) | (simp <;> omega) | simp [*]) (.cons rfl (by first | rfl | exact inte (by omega) | (simp; done) | (simp <;> omega) | simp [*]) (.cons rfl (by first | rfl | exact inte (by omega) | (simp; done) | (simp <;> omega) | simp [*]) (.cons rfl (by first | rfl | exact inte (by omega) | (simp; done) | (simp <;> omega) | simp [*]) (.cons rfl (by first | rfl | exact inte (by omega) | (simp; done) | (simp <;> omega) | simp [*]) (.cons rfl (by first | rfl | exact inte (by omega) | (simp; done) | (simp <;> omega) | simp [*]) (.cons rfl (by first | rfl | exact inte (by omega) | (simp; done) | (simp <;> omega) | simp [*]) (.cons rfl (by first | rfl | exact inte (by omega) | (simp; done) | (simp <;> omega) | simp [*]) (.nil _)))))))))))))))))))))))))) (by repeat (first | exact Ent.nil _ | exact Ent.refl _ | (refine Ent.pick (by repeat (first | exact Pick.here | apply Pick.there)) ?_) | refine Ent.skip ?_))
        · skip
          refine o_step rfl (s_fnq rfl wn Try.func16 rfl (by kernel_rfl) rfl (fun ρ' hL => rof_spec s_n s_c s_a s hs_n (by omega) ρ' (hL.ro hro)) ?_)
          refine r_cont (Hp.le_refl _) (by repeat (first | exact Ent.nil _ | exact Ent.refl _ | (refine Ent.pick (by repeat (first | exact Pick.here | apply Pick.there)) ?_) | refine Ent.skip ?_)) ?_
          refine r_two (i := 0) (j := 7) (bi := #[true, true, true, true, true, true, false, false, false]) (bj := #[false, true, true, true, true, true, false, true, false]) (by kernel_rfl) (by kernel_rfl) (by kernel_rfl) ?_ ?_
          · skip
            refine o_step rfl (s_q rfl wn (q_loadpa (vs := encMark m) ag_87 rfl (by repeat (first | exact Pick.here | apply Pick.there)) rfl) ?_)
            refine r_cont (Hp.le_refl _) (by repeat (first | exact Ent.nil _ | exact Ent.refl _ | (refine Ent.pick (by repeat (first | exact Pick.here | apply Pick.there)) ?_) | refine Ent.skip ?_)) ?_
            refine r_take (i := 6) (bs' := #[true, true, true, true, true, true, true, false, false]) rfl (by kernel_rfl) (by kernel_rfl) (by kernel_rfl) (fun _ _ _ h => h) rfl wn (q_build (cs := encPiece (⟨m, (sumB s), (s_n : Int), x.d.at_, ⟨none, [], 0⟩⟩ : Piece)) zc_95 pl_95 rfl rfl) (Hp.le_refl _) (by repeat (first | exact Ent.nil _ | exact Ent.refl _ | (refine Ent.pick (by repeat (first | exact Pick.here | apply Pick.there)) ?_) | refine Ent.skip ?_)) (by kernel_rfl) ?_
            refine r_one (i := 7) (bs' := #[true, true, true, true, true, true, true, true, false]) (by kernel_rfl) (by kernel_rfl) ?_
            refine o_step rfl (s_s rfl wn (s_allocz (cs := encPiece zPiece) (by kernel_rfl)) ?_)
            rintro _ _ ⟨b11, rfl, rfl⟩
            refine r_cont (Hp.le_refl _) (by repeat (first | exact Ent.nil _ | exact Ent.refl _ | (refine Ent.pick (by repeat (first | exact Pick.here | apply Pick.there)) ?_) | refine Ent.skip ?_)) ?_
            refine r_one (i := 8) (bs' := #[true, true, true, true, true, true, true, true, true]) (by kernel_rfl) (by kernel_rfl) ?_
            refine o_step rfl (s_s0 wn (s_storep (ws := encPiece (⟨m, (sumB s), (s_n : Int), x.d.at_, ⟨none, [], 0⟩⟩ : Piece)) (cs := encPiece zPiece) (cs' := encPiece (⟨m, (sumB s), (s_n : Int), x.d.at_, ⟨none, [], 0⟩⟩ : Piece)) rfl rfl rfl sz_95 (onePiece _) (by simp [encPiece, encPiece]) rfl (by repeat (first | exact Pick.here | apply Pick.there))) ?_)
            rintro _ _ ⟨rfl, rfl⟩
            refine r_cont (Hp.le_refl _) (by repeat (first | exact Ent.nil _ | exact Ent.refl _ | (refine Ent.pick (by repeat (first | exact Pick.here | apply Pick.there)) ?_) | refine Ent.skip ?_)) ?_
            refine r_done (by kernel_rfl) ?_
            refine k_then_n ?_
            exact t_next b11 trivial (.cons rfl (by first | rfl | exact inte (by omega) | (simp; done) | (simp <;> omega) | simp [*]) (.cons rfl (by first | rfl | exact inte (by omega) | (simp; done) | (simp <;> omega) | simp [*]) (.cons rfl (by first | rfl | exact inte (by omega) | (simp; done) | (simp <;> omega) | simp [*]) (.cons rfl (by first | rfl | exact inte (by omega) | (simp; done) | (simp <;> omega) | simp [*]) (.cons rfl (by first | rfl | exact inte (by omega) | (simp; done) | (simp <;> omega) | simp [*]) (.cons rfl (by first | rfl | exact inte (by omega) | (simp; done) | (simp <;> omega) | simp [*]) (.cons rfl (by first | rfl | exact inte (by omega) | (simp; done) | (simp <;> omega) | simp [*]) (.cons rfl (by first | rfl | exact inte (by omega) | (simp; done) | (simp <;> omega) | simp [*]) (.cons rfl (by first | rfl | exact inte (by omega) | (simp; done) | (simp <;> omega) | simp [*]) (.cons rfl (by first | rfl | exact inte (by omega) | (simp; done) | (simp <;> omega) | simp [*]) (.cons rfl (by first | rfl | exact inte (by omega) | (simp; done) | (simp <;> omega) | simp [*]) (.cons rfl (by first | rfl | exact inte (by omega) | (simp; done) | (simp <;> omega) | simp [*]) (.cons rfl (by first | rfl | exact inte (by omega) | (simp; done) | (simp <;> omega) | simp [*]) (.cons rfl (by first | rfl | exact inte (by omega) | (simp; done) | (simp <;> omega) | simp [*]) (.cons rfl (by first | rfl | exact inte (by omega) | (simp; done) | (simp <;> omega) | simp [*]) (.cons rfl (by first | rfl | exact inte (by omega) | (simp; done) | (simp <;> omega) | simp [*]) (.cons rfl (by first | rfl | exact inte (by omega) | (simp; done) | (simp <;> omega) | simp [*]) (.cons rfl (by first | rfl | exact inte (by omega) | (simp; done) | (simp <;> omega) | simp [*]) (.cons rfl (by first | rfl | exact inte (by omega) | (simp; done) | (simp <;> omega) | simp [*]) (.cons rfl (by first | rfl | exact inte (by omega) | (simp; done) | (simp <;> omega) | simp [*]) (.cons rfl (by first | rfl | exact inte (by omega) | (simp; done) | (simp <;> omega) | simp [*]) (.cons rfl (by first | rfl | exact inte (by omega) | (simp; done) | (simp <;> omega) | simp [*]) (.cons rfl (by first | rfl | exact inte (by omega) | (simp; done) | (simp <;> omega) | simp [*]) (.cons rfl (by first | rfl | exact inte (by omega) | (simp; done) | (simp <;> omega) | simp [*]) (.cons rfl (by first | rfl | exact inte (by omega) | (simp; done) | (simp <;> omega) | simp [*]) (.nil _)))))))))))))))))))))))))) (by repeat (first | exact Ent.nil _ | exact Ent.refl _ | (refine Ent.pick (by repeat (first | exact Pick.here | apply Pick.there)) ?_) | refine Ent.skip ?_))
          · skip
            refine o_step rfl (s_s rfl wn (s_allocz (cs := encPiece zPiece) (by kernel_rfl)) ?_)
            rintro _ _ ⟨b11, rfl, rfl⟩
            refine r_cont (Hp.le_refl _) (by repeat (first | exact Ent.nil _ | exact Ent.refl _ | (refine Ent.pick (by repeat (first | exact Pick.here | apply Pick.there)) ?_) | refine Ent.skip ?_)) ?_
            refine r_one (i := 0) (bs' := #[true, true, true, true, true, true, false, true, false]) (by kernel_rfl) (by kernel_rfl) ?_
            refine o_step rfl (s_q rfl wn (q_loadpa (vs := encMark m) ag_87 rfl (by repeat (first | exact Pick.here | apply Pick.there)) rfl) ?_)
            refine r_cont (Hp.le_refl _) (by repeat (first | exact Ent.nil _ | exact Ent.refl _ | (refine Ent.pick (by repeat (first | exact Pick.here | apply Pick.there)) ?_) | refine Ent.skip ?_)) ?_
            refine r_take (i := 6) (bs' := #[true, true, true, true, true, true, true, true, false]) rfl (by kernel_rfl) (by kernel_rfl) (by kernel_rfl) (fun _ _ _ h => h) rfl wn (q_build (cs := encPiece (⟨m, (sumB s), (s_n : Int), x.d.at_, ⟨none, [], 0⟩⟩ : Piece)) zc_95 pl_95 rfl rfl) (Hp.le_refl _) (by repeat (first | exact Ent.nil _ | exact Ent.refl _ | (refine Ent.pick (by repeat (first | exact Pick.here | apply Pick.there)) ?_) | refine Ent.skip ?_)) (by kernel_rfl) ?_
            refine r_one (i := 8) (bs' := #[true, true, true, true, true, true, true, true, true]) (by kernel_rfl) (by kernel_rfl) ?_
            refine o_step rfl (s_s0 wn (s_storep (ws := encPiece (⟨m, (sumB s), (s_n : Int), x.d.at_, ⟨none, [], 0⟩⟩ : Piece)) (cs := encPiece zPiece) (cs' := encPiece (⟨m, (sumB s), (s_n : Int), x.d.at_, ⟨none, [], 0⟩⟩ : Piece)) rfl rfl rfl sz_95 (onePiece _) (by simp [encPiece, encPiece]) rfl (by repeat (first | exact Pick.here | apply Pick.there))) ?_)
            rintro _ _ ⟨rfl, rfl⟩
            refine r_cont (Hp.le_refl _) (by repeat (first | exact Ent.nil _ | exact Ent.refl _ | (refine Ent.pick (by repeat (first | exact Pick.here | apply Pick.there)) ?_) | refine Ent.skip ?_)) ?_
            refine r_done (by kernel_rfl) ?_
            refine k_then_n ?_
            exact t_next b11 trivial (.cons rfl (by first | rfl | exact inte (by omega) | (simp; done) | (simp <;> omega) | simp [*]) (.cons rfl (by first | rfl | exact inte (by omega) | (simp; done) | (simp <;> omega) | simp [*]) (.cons rfl (by first | rfl | exact inte (by omega) | (simp; done) | (simp <;> omega) | simp [*]) (.cons rfl (by first | rfl | exact inte (by omega) | (simp; done) | (simp <;> omega) | simp [*]) (.cons rfl (by first | rfl | exact inte (by omega) | (simp; done) | (simp <;> omega) | simp [*]) (.cons rfl (by first | rfl | exact inte (by omega) | (simp; done) | (simp <;> omega) | simp [*]) (.cons rfl (by first | rfl | exact inte (by omega) | (simp; done) | (simp <;> omega) | simp [*]) (.cons rfl (by first | rfl | exact inte (by omega) | (simp; done) | (simp <;> omega) | simp [*]) (.cons rfl (by first | rfl | exact inte (by omega) | (simp; done) | (simp <;> omega) | simp [*]) (.cons rfl (by first | rfl | exact inte (by omega) | (simp; done) | (simp <;> omega) | simp [*]) (.cons rfl (by first | rfl | exact inte (by omega) | (simp; done) | (simp <;> omega) | simp [*]) (.cons rfl (by first | rfl | exact inte (by omega) | (simp; done) | (simp <;> omega) | simp [*]) (.cons rfl (by first | rfl | exact inte (by omega) | (simp; done) | (simp <;> omega) | simp [*]) (.cons rfl (by first | rfl | exact inte (by omega) | (simp; done) | (simp <;> omega) | simp [*]) (.cons rfl (by first | rfl | exact inte (by omega) | (simp; done) | (simp <;> omega) | simp [*]) (.cons rfl (by first | rfl | exact inte (by omega) | (simp; done) | (simp <;> omega) | simp [*]) (.cons rfl (by first | rfl | exact inte (by omega) | (simp; done) | (simp <;> omega) | simp [*]) (.cons rfl (by first | rfl | exact inte (by omega) | (simp; done) | (simp <;> omega) | simp [*]) (.cons rfl (by first | rfl | exact inte (by omega) | (simp; done) | (simp <;> omega) | simp [*]) (.cons rfl (by first | rfl | exact inte (by omega) | (simp; done) | (simp <;> omega) | simp [*]) (.cons rfl (by first | rfl | exact inte (by omega) | (simp; done) | (simp <;> omega) | simp [*]) (.cons rfl (by first | rfl | exact inte (by omega) | (simp; done) | (simp <;> omega) | simp [*]) (.cons rfl (by first | rfl | exact inte (by omega) | (simp; done) | (simp <;> omega) | simp [*]) (.cons rfl (by first | rfl | exact inte (by omega) | (simp; done) | (simp <;> omega) | simp [*]) (.cons rfl (by first | rfl | exact inte (by omega) | (simp; done) | (simp <;> omega) | simp [*]) (.nil _)))))))))))))))))))))))))) (by repeat (first | exact Ent.nil _ | exact Ent.refl _ | (refine Ent.pick (by repeat (first | exact Pick.here | apply Pick.there)) ?_) | refine Ent.skip ?_))
        · skip
          refine o_step rfl (s_s rfl wn (s_allocz (cs := encPiece zPiece) (by kernel_rfl)) ?_)
          rintro _ _ ⟨b11, rfl, rfl⟩
          refine r_cont (Hp.le_refl _) (by repeat (first | exact Ent.nil _ | exact Ent.refl _ | (refine Ent.pick (by repeat (first | exact Pick.here | apply Pick.there)) ?_) | refine Ent.skip ?_)) ?_
          refine r_two (i := 0) (j := 2) (bi := #[true, true, false, true, true, true, false, true, false]) (bj := #[false, true, true, true, true, true, false, true, false]) (by kernel_rfl) (by kernel_rfl) (by kernel_rfl) ?_ ?_
          · skip
            refine o_step rfl (s_q rfl wn (q_loadpa (vs := encMark m) ag_87 rfl (by repeat (first | exact Pick.here | apply Pick.there)) rfl) ?_)
            refine r_cont (Hp.le_refl _) (by repeat (first | exact Ent.nil _ | exact Ent.refl _ | (refine Ent.pick (by repeat (first | exact Pick.here | apply Pick.there)) ?_) | refine Ent.skip ?_)) ?_
            refine r_one (i := 2) (bs' := #[true, true, true, true, true, true, false, true, false]) (by kernel_rfl) (by kernel_rfl) ?_
            refine o_step rfl (s_fnq rfl wn Try.func16 rfl (by kernel_rfl) rfl (fun ρ' hL => rof_spec s_n s_c s_a s hs_n (by omega) ρ' (hL.ro hro)) ?_)
            refine r_cont (Hp.le_refl _) (by repeat (first | exact Ent.nil _ | exact Ent.refl _ | (refine Ent.pick (by repeat (first | exact Pick.here | apply Pick.there)) ?_) | refine Ent.skip ?_)) ?_
            refine r_take (i := 6) (bs' := #[true, true, true, true, true, true, true, true, false]) rfl (by kernel_rfl) (by kernel_rfl) (by kernel_rfl) (fun _ _ _ h => h) rfl wn (q_build (cs := encPiece (⟨m, (sumB s), (s_n : Int), x.d.at_, ⟨none, [], 0⟩⟩ : Piece)) zc_95 pl_95 rfl rfl) (Hp.le_refl _) (by repeat (first | exact Ent.nil _ | exact Ent.refl _ | (refine Ent.pick (by repeat (first | exact Pick.here | apply Pick.there)) ?_) | refine Ent.skip ?_)) (by kernel_rfl) ?_
            refine r_one (i := 8) (bs' := #[true, true, true, true, true, true, true, true, true]) (by kernel_rfl) (by kernel_rfl) ?_
            refine o_step rfl (s_s0 wn (s_storep (ws := encPiece (⟨m, (sumB s), (s_n : Int), x.d.at_, ⟨none, [], 0⟩⟩ : Piece)) (cs := encPiece zPiece) (cs' := encPiece (⟨m, (sumB s), (s_n : Int), x.d.at_, ⟨none, [], 0⟩⟩ : Piece)) rfl rfl rfl sz_95 (onePiece _) (by simp [encPiece, encPiece]) rfl (by repeat (first | exact Pick.here | apply Pick.there))) ?_)
            rintro _ _ ⟨rfl, rfl⟩
            refine r_cont (Hp.le_refl _) (by repeat (first | exact Ent.nil _ | exact Ent.refl _ | (refine Ent.pick (by repeat (first | exact Pick.here | apply Pick.there)) ?_) | refine Ent.skip ?_)) ?_
            refine r_done (by kernel_rfl) ?_
            refine k_then_n ?_
            exact t_next b11 trivial (.cons rfl (by first | rfl | exact inte (by omega) | (simp; done) | (simp <;> omega) | simp [*]) (.cons rfl (by first | rfl | exact inte (by omega) | (simp; done) | (simp <;> omega) | simp [*]) (.cons rfl (by first | rfl | exact inte (by omega) | (simp; done) | (simp <;> omega) | simp [*]) (.cons rfl (by first | rfl | exact inte (by omega) | (simp; done) | (simp <;> omega) | simp [*]) (.cons rfl (by first | rfl | exact inte (by omega) | (simp; done) | (simp <;> omega) | simp [*]) (.cons rfl (by first | rfl | exact inte (by omega) | (simp; done) | (simp <;> omega) | simp [*]) (.cons rfl (by first | rfl | exact inte (by omega) | (simp; done) | (simp <;> omega) | simp [*]) (.cons rfl (by first | rfl | exact inte (by omega) | (simp; done) | (simp <;> omega) | simp [*]) (.cons rfl (by first | rfl | exact inte (by omega) | (simp; done) | (simp <;> omega) | simp [*]) (.cons rfl (by first | rfl | exact inte (by omega) | (simp; done) | (simp <;> omega) | simp [*]) (.cons rfl (by first | rfl | exact inte (by omega) | (simp; done) | (simp <;> omega) | simp [*]) (.cons rfl (by first | rfl | exact inte (by omega) | (simp; done) | (simp <;> omega) | simp [*]) (.cons rfl (by first | rfl | exact inte (by omega) | (simp; done) | (simp <;> omega) | simp [*]) (.cons rfl (by first | rfl | exact inte (by omega) | (simp; done) | (simp <;> omega) | simp [*]) (.cons rfl (by first | rfl | exact inte (by omega) | (simp; done) | (simp <;> omega) | simp [*]) (.cons rfl (by first | rfl | exact inte (by omega) | (simp; done) | (simp <;> omega) | simp [*]) (.cons rfl (by first | rfl | exact inte (by omega) | (simp; done) | (simp <;> omega) | simp [*]) (.cons rfl (by first | rfl | exact inte (by omega) | (simp; done) | (simp <;> omega) | simp [*]) (.cons rfl (by first | rfl | exact inte (by omega) | (simp; done) | (simp <;> omega) | simp [*]) (.cons rfl (by first | rfl | exact inte (by omega) | (simp; done) | (simp <;> omega) | simp [*]) (.cons rfl (by first | rfl | exact inte (by omega) | (simp; done) | (simp <;> omega) | simp [*]) (.cons rfl (by first | rfl | exact inte (by omega) | (simp; done) | (simp <;> omega) | simp [*]) (.cons rfl (by first | rfl | exact inte (by omega) | (simp; done) | (simp <;> omega) | simp [*]) (.cons rfl (by first | rfl | exact inte (by omega) | (simp; done) | (simp <;> omega) | simp [*]) (.cons rfl (by first | rfl | exact inte (by omega) | (simp; done) | (simp <;> omega) | simp [*]) (.nil _)))))))))))))))))))))))))) (by repeat (first | exact Ent.nil _ | exact Ent.refl _ | (refine Ent.pick (by repeat (first | exact Pick.here | apply Pick.there)) ?_) | refine Ent.skip ?_))
          · skip
            refine o_step rfl (s_fnq rfl wn Try.func16 rfl (by kernel_rfl) rfl (fun ρ' hL => rof_spec s_n s_c s_a s hs_n (by omega) ρ' (hL.ro hro)) ?_)
            refine r_cont (Hp.le_refl _) (by repeat (first | exact Ent.nil _ | exact Ent.refl _ | (refine Ent.pick (by repeat (first | exact Pick.here | apply Pick.there)) ?_) | refine Ent.skip ?_)) ?_
            refine r_one (i := 0) (bs' := #[true, true, true, true, true, true, false, true, false]) (by kernel_rfl) (by kernel_rfl) ?_
            refine o_step rfl (s_q rfl wn (q_loadpa (vs := encMark m) ag_87 rfl (by repeat (first | exact Pick.here | apply Pick.there)) rfl) ?_)
            refine r_cont (Hp.le_refl _) (by repeat (first | exact Ent.nil _ | exact Ent.refl _ | (refine Ent.pick (by repeat (first | exact Pick.here | apply Pick.there)) ?_) | refine Ent.skip ?_)) ?_
            refine r_take (i := 6) (bs' := #[true, true, true, true, true, true, true, true, false]) rfl (by kernel_rfl) (by kernel_rfl) (by kernel_rfl) (fun _ _ _ h => h) rfl wn (q_build (cs := encPiece (⟨m, (sumB s), (s_n : Int), x.d.at_, ⟨none, [], 0⟩⟩ : Piece)) zc_95 pl_95 rfl rfl) (Hp.le_refl _) (by repeat (first | exact Ent.nil _ | exact Ent.refl _ | (refine Ent.pick (by repeat (first | exact Pick.here | apply Pick.there)) ?_) | refine Ent.skip ?_)) (by kernel_rfl) ?_
            refine r_one (i := 8) (bs' := #[true, true, true, true, true, true, true, true, true]) (by kernel_rfl) (by kernel_rfl) ?_
            refine o_step rfl (s_s0 wn (s_storep (ws := encPiece (⟨m, (sumB s), (s_n : Int), x.d.at_, ⟨none, [], 0⟩⟩ : Piece)) (cs := encPiece zPiece) (cs' := encPiece (⟨m, (sumB s), (s_n : Int), x.d.at_, ⟨none, [], 0⟩⟩ : Piece)) rfl rfl rfl sz_95 (onePiece _) (by simp [encPiece, encPiece]) rfl (by repeat (first | exact Pick.here | apply Pick.there))) ?_)
            rintro _ _ ⟨rfl, rfl⟩
            refine r_cont (Hp.le_refl _) (by repeat (first | exact Ent.nil _ | exact Ent.refl _ | (refine Ent.pick (by repeat (first | exact Pick.here | apply Pick.there)) ?_) | refine Ent.skip ?_)) ?_
            refine r_done (by kernel_rfl) ?_
            refine k_then_n ?_
            exact t_next b11 trivial (.cons rfl (by first | rfl | exact inte (by omega) | (simp; done) | (simp <;> omega) | simp [*]) (.cons rfl (by first | rfl | exact inte (by omega) | (simp; done) | (simp <;> omega) | simp [*]) (.cons rfl (by first | rfl | exact inte (by omega) | (simp; done) | (simp <;> omega) | simp [*]) (.cons rfl (by first | rfl | exact inte (by omega) | (simp; done) | (simp <;> omega) | simp [*]) (.cons rfl (by first | rfl | exact inte (by omega) | (simp; done) | (simp <;> omega) | simp [*]) (.cons rfl (by first | rfl | exact inte (by omega) | (simp; done) | (simp <;> omega) | simp [*]) (.cons rfl (by first | rfl | exact inte (by omega) | (simp; done) | (simp <;> omega) | simp [*]) (.cons rfl (by first | rfl | exact inte (by omega) | (simp; done) | (simp <;> omega) | simp [*]) (.cons rfl (by first | rfl | exact inte (by omega) | (simp; done) | (simp <;> omega) | simp [*]) (.cons rfl (by first | rfl | exact inte (by omega) | (simp; done) | (simp <;> omega) | simp [*]) (.cons rfl (by first | rfl | exact inte (by omega) | (simp; done) | (simp <;> omega) | simp [*]) (.cons rfl (by first | rfl | exact inte (by omega) | (simp; done) | (simp <;> omega) | simp [*]) (.cons rfl (by first | rfl | exact inte (by omega) | (simp; done) | (simp <;> omega) | simp [*]) (.cons rfl (by first | rfl | exact inte (by omega) | (simp; done) | (simp <;> omega) | simp [*]) (.cons rfl (by first | rfl | exact inte (by omega) | (simp; done) | (simp <;> omega) | simp [*]) (.cons rfl (by first | rfl | exact inte (by omega) | (simp; done) | (simp <;> omega) | simp [*]) (.cons rfl (by first | rfl | exact inte (by omega) | (simp; done) | (simp <;> omega) | simp [*]) (.cons rfl (by first | rfl | exact inte (by omega) | (simp; done) | (simp <;> omega) | simp [*]) (.cons rfl (by first | rfl | exact inte (by omega) | (simp; done) | (simp <;> omega) | simp [*]) (.cons rfl (by first | rfl | exact inte (by omega) | (simp; done) | (simp <;> omega) | simp [*]) (.cons rfl (by first | rfl | exact inte (by omega) | (simp; done) | (simp <;> omega) | simp [*]) (.cons rfl (by first | rfl | exact inte (by omega) | (simp; done) | (simp <;> omega) | simp [*]) (.cons rfl (by first | rfl | exact inte (by omega) | (simp; done) | (simp <;> omega) | simp [*]) (.cons rfl (by first | rfl | exact inte (by omega) | (simp; done) | (simp <;> omega) | simp [*]) (.cons rfl (by first | rfl | exact inte (by omega) | (simp; done) | (simp <;> omega) | simp [*]) (.nil _)))))))))))))))))))))))))) (by repeat (first | exact Ent.nil _ | exact Ent.refl _ | (refine Ent.pick (by repeat (first | exact Pick.here | apply Pick.there)) ?_) | refine Ent.skip ?_))
      intro x11 hj9
      refine k_then_n ?_
      refine c_seq ?_
      refine t_cutq (ι := Option Addr × Nat) (fun z => True) (fun z => [(1, .slice s_a s_n s_c), (2, .int .i64 size), (3, .pointer (some ⟨b3, 0, none⟩)), (6, .slice none 0 0), (7, .int .i64 0), (8, .slice x.a1 x.d.ps.length x.c1), (9, .int .i64 x.d.at_), (10, .int .i64 ((((s.take (min s_n (x.d.ps.length * (min size.toNat s_n) + (min size.toNat s_n)))).drop (x.d.ps.length * (min size.toNat s_n))).length : Nat) : Int)), (11, .pointer (some ⟨x11, 0, none⟩)), (19, .slice x.a1 x.d.ps.length x.c1), (20, .int .i64 (x.d.ps.length : Int)), (21, .bool (decide ((x.d.ps.length : Int) = 0))), (22, .bool (decide ((x.d.ps.length : Int) = 0))), (23, gd (!(decide ((x.d.ps.length : Int) = 0))) (.int .i64 x.d.at_)), (24, gd (!(decide ((x.d.ps.length : Int) = 0))) (.slice s_a s_n s_c)), (25, gd (!(decide ((x.d.ps.length : Int) = 0))) (.int .i64 (s_n : Int))), (26, gd (!(decide ((x.d.ps.length : Int) = 0))) (.bool (decide (x.d.at_ < (s_n : Int))))), (27, .bool ((decide ((x.d.ps.length : Int) = 0)) || (decide (x.d.at_ < (s_n : Int))))), (28, .slice s_a s_n s_c), (29, .int .i64 (s_n : Int)), (30, .int .i64 x.d.at_), (31, .int .i64 ((s_n : Int) - x.d.at_)), (32, .int .i64 ((s_n : Int) - x.d.at_)), (33, .int .i64 size), (34, .bool (decide (size < ((s_n : Int) - x.d.at_))))]) (fun z => .row 5 1 z.1 (((s.take (min s_n (x.d.ps.length * (min size.toNat s_n) + (min size.toNat s_n)))).drop (x.d.ps.length * (min size.toNat s_n))).length) z.2 (((s.take (min s_n (x.d.ps.length * (min size.toNat s_n) + (min size.toNat s_n)))).drop (x.d.ps.length * (min size.toNat s_n))).flatMap encB) :: .pts x11 (encPiece (⟨m, (sumB s), (s_n : Int), x.d.at_, ⟨z.1, ((s.take (min s_n (x.d.ps.length * (min size.toNat s_n) + (min size.toNat s_n)))).drop (x.d.ps.length * (min size.toNat s_n))), z.2⟩⟩ : Piece)) 95 :: .row 95 6 x.a1 x.d.ps.length x.c1 (x.d.ps.flatMap encPiece) :: Bun (x.d.ps.map (rowP 5)) :: .pts b3 (encMark m) 87 :: Δ) ?_ ?_
      · skip
        refine c_draw (m := 11) (bs := #[false, false, false, false, false, false, false, false, false, false, false]) [.row 95 6 x.a1 x.d.ps.length x.c1 (x.d.ps.flatMap encPiece), Bun (x.d.ps.map (rowP 5)), .pts b3 (encMark m) 87] (by kernel_rfl) rfl (by kernel_rfl) ?_
        refine r_take (i := 0) (bs' := #[true, false, false, false, false, false, false, false, false, false, false]) rfl (by kernel_rfl) (by kernel_rfl) (by kernel_rfl) (fun _ _ _ h => h) rfl wn (q_fieldp rfl fo_95_4) (Hp.le_refl _) (by repeat (first | exact Ent.nil _ | exact Ent.refl _ | (refine Ent.pick (by repeat (first | exact Pick.here | apply Pick.there)) ?_) | refine Ent.skip ?_)) (by kernel_rfl) ?_
        refine r_take (i := 2) (bs' := #[true, false, true, false, false, false, false, false, false, false, false]) rfl (by kernel_rfl) (by kernel_rfl) (by kernel_rfl) (fun _ _ _ h => h) rfl wn (q_move rfl) (Hp.le_refl _) (by repeat (first | exact Ent.nil _ | exact Ent.refl _ | (refine Ent.pick (by repeat (first | exact Pick.here | apply Pick.there)) ?_) | refine Ent.skip ?_)) (by kernel_rfl) ?_
        refine r_take (i := 3) (bs' := #[true, false, true, true, false, false, false, false, false, false, false]) rfl (by kernel_rfl) (by kernel_rfl) (by kernel_rfl) (fun _ _ _ h => h) rfl wn (q_move rfl) (Hp.le_refl _) (by repeat (first | exact Ent.nil _ | exact Ent.refl _ | (refine Ent.pick (by repeat (first | exact Pick.here | apply Pick.there)) ?_) | refine Ent.skip ?_)) (by kernel_rfl) ?_
        refine r_take (i := 4) (bs' := #[true, false, true, true, true, false, false, false, false, false, false]) rfl (by kernel_rfl) (by kernel_rfl) (by kernel_rfl) (fun _ _ _ h => h) rfl wn (q_move rfl) (Hp.le_refl _) (by repeat (first | exact Ent.nil _ | exact Ent.refl _ | (refine Ent.pick (by repeat (first | exact Pick.here | apply Pick.there)) ?_) | refine Ent.skip ?_)) (by kernel_rfl) ?_
        refine r_take (i := 5) (bs' := #[true, false, true, true, true, true, false, false, false, false, false]) rfl (by kernel_rfl) (by kernel_rfl) (by kernel_rfl) (fun _ _ _ h => h) rfl wn (q_move rfl) (Hp.le_refl _) (by repeat (first | exact Ent.nil _ | exact Ent.refl _ | (refine Ent.pick (by repeat (first | exact Pick.here | apply Pick.there)) ?_) | refine Ent.skip ?_)) (by kernel_rfl) ?_
        refine r_take (i := 6) (bs' := #[true, false, true, true, true, true, true, false, false, false, false]) rfl (by kernel_rfl) (by kernel_rfl) (by kernel_rfl) (fun _ _ _ h => h) rfl wn (q_add rfl rfl (by omega) (by omega)) (Hp.le_refl _) (by repeat (first | exact Ent.nil _ | exact Ent.refl _ | (refine Ent.pick (by repeat (first | exact Pick.here | apply Pick.there)) ?_) | refine Ent.skip ?_)) (by kernel_rfl) ?_
        refine r_take (i := 7) (bs' := #[true, false, true, true, true, true, true, true, false, false, false]) rfl (by kernel_rfl) (by kernel_rfl) (by kernel_rfl) (fun _ _ _ h => h) rfl wn (q_as (v := .slice (sh s_a s_c x.d.at_.toNat 1) ((s.take (min s_n (x.d.ps.length * (min size.toNat s_n) + (min size.toNat s_n)))).drop (x.d.ps.length * (min size.toNat s_n))).length (s_c - x.d.at_.toNat)) (q_cut_lohi Try.underlying22 sz_5 rfl rfl rfl (by omega) (by omega) (by have := hro.2.1; omega)) (by simp only [Value.slice.injEq, true_and, and_true]; omega)) (Hp.le_refl _) (by repeat (first | exact Ent.nil _ | exact Ent.refl _ | (refine Ent.pick (by repeat (first | exact Pick.here | apply Pick.there)) ?_) | refine Ent.skip ?_)) (by kernel_rfl) ?_
        refine r_one (i := 1) (bs' := #[true, true, true, true, true, true, true, true, false, false, false]) (by kernel_rfl) (by kernel_rfl) ?_
        refine o_step rfl (s_q rfl wn (q_loadp (v := .slice none 0 0) sc_22 rfl (by repeat (first | exact Pick.here | apply Pick.there)) rfl) ?_)
        refine r_cont (Hp.le_refl _) (by repeat (first | exact Ent.nil _ | exact Ent.refl _ | (refine Ent.pick (by repeat (first | exact Pick.here | apply Pick.there)) ?_) | refine Ent.skip ?_)) ?_
        refine r_one (i := 8) (bs' := #[true, true, true, true, true, true, true, true, true, false, false]) (by kernel_rfl) (by kernel_rfl) ?_
        refine Tr.ent (Ent.nilrow 5 1 _) ?_
        refine o_step rfl (s_s rfl wn (s_appendn (enc := encB) (xs := ([] : List UInt8)) (ys := (((s.take (min s_n (x.d.ps.length * (min size.toNat s_n) + (min size.toNat s_n)))).drop (x.d.ps.length * (min size.toNat s_n))) : List UInt8)) (Γ' := fun a' cap' => _) Try.underlying22 eo_5 (by decide) rfl rfl (by first | assumption | exact rd_ro (by assumption) | exact rd_bun (L := x.d.ps.map (rowP 5)) (by repeat (first | exact Pick.here | apply Pick.there)) (in_map _ (by first | assumption | omega | (simp only [List.length_cons, List.length_nil]; omega) | decide) rfl) | exact rd_row (by repeat (first | exact Pick.here | apply Pick.there))) (oneB _) (by first | omega | (simp only [List.length_append, List.length_cons, List.length_nil] at *; omega)) (by first | omega | (simp only [List.length_append, List.length_cons, List.length_nil] at *; omega)) (fun _ _ => (by repeat (first | exact Pick.here | apply Pick.there)))) ?_)
        rintro _ _ ⟨a51, c51, rfl, rfl⟩
        simp only [Nat.zero_add, List.nil_append]
        refine r_cont (Hp.le_refl _) (by repeat (first | exact Ent.nil _ | exact Ent.refl _ | (refine Ent.pick (by repeat (first | exact Pick.here | apply Pick.there)) ?_) | refine Ent.skip ?_)) ?_
        refine r_take (i := 9) (bs' := #[true, true, true, true, true, true, true, true, true, true, false]) rfl (by kernel_rfl) (by kernel_rfl) (by kernel_rfl) (fun _ _ _ h => h) rfl wn (q_fieldp rfl fo_95_4) (Hp.le_refl _) (by repeat (first | exact Ent.nil _ | exact Ent.refl _ | (refine Ent.pick (by repeat (first | exact Pick.here | apply Pick.there)) ?_) | refine Ent.skip ?_)) (by kernel_rfl) ?_
        refine r_one (i := 10) (bs' := #[true, true, true, true, true, true, true, true, true, true, true]) (by kernel_rfl) (by kernel_rfl) ?_
        refine o_step rfl (s_s0 wn (s_storep (ws := [.slice a51 (((s.take (min s_n (x.d.ps.length * (min size.toNat s_n) + (min size.toNat s_n)))).drop (x.d.ps.length * (min size.toNat s_n))).length) c51]) (cs := encPiece (⟨m, (sumB s), (s_n : Int), x.d.at_, ⟨none, [], 0⟩⟩ : Piece)) (cs' := encPiece (⟨m, (sumB s), (s_n : Int), x.d.at_, ⟨a51, ((s.take (min s_n (x.d.ps.length * (min size.toNat s_n) + (min size.toNat s_n)))).drop (x.d.ps.length * (min size.toNat s_n))), c51⟩⟩ : Piece)) rfl rfl rfl sz_22 (by simp [Value.oneCell', strB, ptV, SL.v, SH.v]) (by simp [encPiece]) rfl (by repeat (first | exact Pick.here | apply Pick.there))) ?_)
        rintro _ _ ⟨rfl, rfl⟩
        refine r_cont (Hp.le_refl _) (by repeat (first | exact Ent.nil _ | exact Ent.refl _ | (refine Ent.pick (by repeat (first | exact Pick.here | apply Pick.there)) ?_) | refine Ent.skip ?_)) ?_
        refine r_done (by kernel_rfl) ?_
        refine k_then_n ?_
        exact t_next (a51, c51) trivial (.cons rfl (by first | rfl | exact inte (by omega) | (simp; done) | (simp <;> omega) | simp [*]) (.cons rfl (by first | rfl | exact inte (by omega) | (simp; done) | (simp <;> omega) | simp [*]) (.cons rfl (by first | rfl | exact inte (by omega) | (simp; done) | (simp <;> omega) | simp [*]) (.cons rfl (by first | rfl | exact inte (by omega) | (simp; done) | (simp <;> omega) | simp [*]) (.cons rfl (by first | rfl | exact inte (by omega) | (simp; done) | (simp <;> omega) | simp [*]) (.cons rfl (by first | rfl | exact inte (by omega) | (simp; done) | (simp <;> omega) | simp [*]) (.cons rfl (by first | rfl | exact inte (by omega) | (simp; done) | (simp <;> omega) | simp [*]) (.cons rfl (by first | rfl | exact inte (by omega) | (simp; done) | (simp <;> omega) | simp [*]) (.cons rfl (by first | rfl | exact inte (by omega) | (simp; done) | (simp <;> omega) | simp [*]) (.cons rfl (by first | rfl | exact inte (by omega) | (simp; done) | (simp <;> omega) | simp [*]) (.cons rfl (by first | rfl | exact inte (by omega) | (simp; done) | (simp <;> omega) | simp [*]) (.cons rfl (by first | rfl | exact inte (by omega) | (simp; done) | (simp <;> omega) | simp [*]) (.cons rfl (by first | rfl | exact inte (by omega) | (simp; done) | (simp <;> omega) | simp [*]) (.cons rfl (by first | rfl | exact inte (by omega) | (simp; done) | (simp <;> omega) | simp [*]) (.cons rfl (by first | rfl | exact inte (by omega) | (simp; done) | (simp <;> omega) | simp [*]) (.cons rfl (by first | rfl | exact inte (by omega) | (simp; done) | (simp <;> omega) | simp [*]) (.cons rfl (by first | rfl | exact inte (by omega) | (simp; done) | (simp <;> omega) | simp [*]) (.cons rfl (by first | rfl | exact inte (by omega) | (simp; done) | (simp <;> omega) | simp [*]) (.cons rfl (by first | rfl | exact inte (by omega) | (simp; done) | (simp <;> omega) | simp [*]) (.cons rfl (by first | rfl | exact inte (by omega) | (simp; done) | (simp <;> omega) | simp [*]) (.cons rfl (by first | rfl | exact inte (by omega) | (simp; done) | (simp <;> omega) | simp [*]) (.cons rfl (by first | rfl | exact inte (by omega) | (simp; done) | (simp <;> omega) | simp [*]) (.cons rfl (by first | rfl | exact inte (by omega) | (simp; done) | (simp <;> omega) | simp [*]) (.cons rfl (by first | rfl | exact inte (by omega) | (simp; done) | (simp <;> omega) | simp [*]) (.cons rfl (by first | rfl | exact inte (by omega) | (simp; done) | (simp <;> omega) | simp [*]) (.nil _)))))))))))))))))))))))))) (by repeat (first | exact Ent.nil _ | exact Ent.refl _ | (refine Ent.pick (by repeat (first | exact Pick.here | apply Pick.there)) ?_) | refine Ent.skip ?_))
      intro z hj10
      refine k_then_n ?_
      refine c_seq ?_
      refine c_region ?_
      refine l_step (s_q rfl wn (q_move rfl) ?_)
      refine l_step (s_q rfl wn (q_loadpa (vs := encPiece (⟨m, (sumB s), (s_n : Int), x.d.at_, ⟨z.1, ((s.take (min s_n (x.d.ps.length * (min size.toNat s_n) + (min size.toNat s_n)))).drop (x.d.ps.length * (min size.toNat s_n))), z.2⟩⟩ : Piece)) ag_95 rfl (by repeat (first | exact Pick.here | apply Pick.there)) rfl) ?_)
      refine l_step (s_s rfl wn (s_buildSlice (cs := ([(⟨m, (sumB s), (s_n : Int), x.d.at_, ⟨z.1, ((s.take (min s_n (x.d.ps.length * (min size.toNat s_n) + (min size.toNat s_n)))).drop (x.d.ps.length * (min size.toNat s_n))), z.2⟩⟩ : Piece)] : List Piece).flatMap encPiece) Try.underlying88 eo_95 rfl rfl rfl rfl (by decide) (by decide)) ?_)
      rintro _ _ ⟨b55, rfl, rfl⟩
      refine l_step (s_s rfl wn (s_appendn (enc := encPiece) (xs := (x.d.ps : List Piece)) (ys := ([(⟨m, (sumB s), (s_n : Int), x.d.at_, ⟨z.1, ((s.take (min s_n (x.d.ps.length * (min size.toNat s_n) + (min size.toNat s_n)))).drop (x.d.ps.length * (min size.toNat s_n))), z.2⟩⟩ : Piece)] : List Piece)) (Γ' := fun a' cap' => _) Try.underlying88 eo_95 (by decide) rfl rfl (rd_row (by repeat (first | exact Pick.here | apply Pick.there))) (onePieces _) (by first | omega | (simp only [List.length_append, List.length_cons, List.length_nil] at *; omega)) (by first | omega | (simp only [List.length_append, List.length_cons, List.length_nil] at *; omega)) (fun _ _ => (by repeat (first | exact Pick.here | apply Pick.there)))) ?_)
      rintro _ _ ⟨a56, c56, rfl, rfl⟩
      refine l_step (s_q rfl wn (q_assign rfl) ?_)
      refine l_nil ?_
      refine k_then_n ?_
      refine c_region ?_
      refine l_step (s_q rfl wn (q_move rfl) ?_)
      refine l_step (s_q rfl wn (q_move rfl) ?_)
      refine l_step (s_q rfl wn (q_add rfl rfl (by omega) (by omega)) ?_)
      refine l_step (s_q rfl wn (q_assign rfl) ?_)
      refine l_nil ?_
      refine k_blk_n ?_
      refine k_then_n ?_
      have hln : (x.d.ps ++ [(⟨m, sumB s, s_n, x.d.at_, ⟨z.1, ((s.take (min s_n (x.d.ps.length * (min size.toNat s_n) + (min size.toNat s_n)))).drop (x.d.ps.length * (min size.toNat s_n))), z.2⟩⟩ : Piece)]).length = x.d.ps.length + 1 := by simp
      rw [← hln]
      refine Tr.ent (Ent.pick (A := .row 5 1 z.1 (((s.take (min s_n (x.d.ps.length * (min size.toNat s_n) + (min size.toNat s_n)))).drop (x.d.ps.length * (min size.toNat s_n))).length) z.2 (((s.take (min s_n (x.d.ps.length * (min size.toNat s_n) + (min size.toNat s_n)))).drop (x.d.ps.length * (min size.toNat s_n))).flatMap encB)) (by repeat (first | exact Pick.here | apply Pick.there)) (Ent.pick (A := Bun (x.d.ps.map (rowP 5))) (by repeat (first | exact Pick.here | apply Pick.there)) (Ent.refl _))) ?_
      refine Tr.ent (bun_snoc _ _ _) ?_
      rw [show x.d.ps.map (rowP 5) ++ [.row 5 1 z.1 ((s.take (min s_n (x.d.ps.length * (min size.toNat s_n) + (min size.toNat s_n)))).drop (x.d.ps.length * (min size.toNat s_n))).length z.2 (((s.take (min s_n (x.d.ps.length * (min size.toNat s_n) + (min size.toNat s_n)))).drop (x.d.ps.length * (min size.toNat s_n))).flatMap encB)] = (x.d.ps ++ [(⟨m, sumB s, s_n, x.d.at_, ⟨z.1, ((s.take (min s_n (x.d.ps.length * (min size.toNat s_n) + (min size.toNat s_n)))).drop (x.d.ps.length * (min size.toNat s_n))), z.2⟩⟩ : Piece)]).map (rowP 5) from by simp [rowP]]
      exact t_next (⟨(⟨x.d.ps ++ [(⟨m, sumB s, s_n, x.d.at_, ⟨z.1, ((s.take (min s_n (x.d.ps.length * (min size.toNat s_n) + (min size.toNat s_n)))).drop (x.d.ps.length * (min size.toNat s_n))), z.2⟩⟩ : Piece)], none, 0, ⟨none, [], 0⟩, x.d.at_ + (((s.take (min s_n (x.d.ps.length * (min size.toNat s_n) + (min size.toNat s_n)))).drop (x.d.ps.length * (min size.toNat s_n))).length : Int)⟩ : CY), a56, c56, none, 0, none, 0⟩ : Lp _) ⟨hnx z.1 none z.2 0 ⟨none, [], 0⟩, by rw [← hs_n] at hpos; show _ - List.length (_ ++ _) < _; rw [hln]; omega⟩ (.cons rfl (by first | rfl | exact inte (by omega) | (simp; done) | (simp <;> omega) | simp [*]) (.cons rfl (by first | rfl | exact inte (by omega) | (simp; done) | (simp <;> omega) | simp [*]) (.cons rfl (by first | rfl | exact inte (by omega) | (simp; done) | (simp <;> omega) | simp [*]) (.cons rfl (by first | rfl | exact inte (by omega) | (simp; done) | (simp <;> omega) | simp [*]) (.cons rfl (by first | rfl | exact inte (by omega) | (simp; done) | (simp <;> omega) | simp [*]) (.cons rfl (by first | rfl | exact inte (by omega) | (simp; done) | (simp <;> omega) | simp [*]) (.cons rfl (by first | rfl | exact inte (by omega) | (simp; done) | (simp <;> omega) | simp [*]) (.nil _)))))))) (by repeat (first | exact Ent.nil _ | exact Ent.refl _ | (refine Ent.pick (by repeat (first | exact Pick.here | apply Pick.there)) ?_) | refine Ent.skip ?_))
    · (try dsimp only [heapOf] at h1); try simp only [Bool.and_eq_true, Bool.or_eq_true, Bool.not_eq_true', Bool.and_eq_false_iff, Bool.or_eq_false_iff, Bool.not_eq_false', decide_eq_true_eq, decide_eq_false_iff_not, Bool.not_eq_eq_eq_not, Bool.not_true, Bool.not_false, Bool.not_eq_true, Bool.not_eq_false, beq_iff_eq, bne_iff_ne, ne_eq, Decidable.not_not] at h1
      refine c_exit ?_
      refine k_then_x ?_
      refine k_then_x ?_
      refine k_blk_x ?_
      refine k_then_n ?_
      refine c_seq ?_
      refine c_region ?_
      refine l_step (s_q rfl wn (q_move rfl) ?_)
      refine l_step (s_q rfl wn (q_assign rfl) ?_)
      refine l_step (s_q rfl wn (q_assign rfl) ?_)
      refine l_nil ?_
      refine k_then_n ?_
      refine c_ret ?_
      have hok : cutOk m size = true := by unfold cutOk; rw [← rightR_eq, h0.1, decide_eq_true (by omega)]; rfl
      have hfin : x.d.ps.map pd = cutF m s size := hx.fin (by omega) (by rw [hs_n]; exact fun hh => hh.elim (fun hh => by omega) (fun hh => by omega))
      exact t_ret [.row 95 6 x.a1 x.d.ps.length x.c1 (x.d.ps.flatMap encPiece), Bun (x.d.ps.map (rowP 5))] rfl (.tmp rfl (.tmp rfl .nil)) rfl (Hp.le_refl _) ⟨rfl, x.a1, x.c1, x.d.ps, (by unfold cutE; rw [hok]; rfl), (by unfold cutG; rw [hok]; exact hfin), rfl⟩ (by repeat (first | exact Ent.nil _ | exact Ent.refl _ | (refine Ent.pick (by repeat (first | exact Pick.here | apply Pick.there)) ?_) | refine Ent.skip ?_))
end Go.Chk.D

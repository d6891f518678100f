/-
  The law 'ClientNames': her frame about her walk: the given statement 'Rows.ClientNamesSaid'.
-/
import Derived.Test.YtppngeebdmbeaaaRows
import Derived.Test.YtppngeebdmbeaaaSlL
import Derived.Test.YtppngeebdmbeaaaCliV
import Derived.WalkKit
import Derived.ProofKit
import Derived.OpenShut
import Derived.ShutString
import Derived.ChangeOld
import Derived.Below
set_option maxRecDepth 100000
set_option linter.unusedVariables false
set_option linter.unusedSimpArgs false
namespace Go.Proofs.Ytppngeebdmbeaaa.clientNames
open Go.ChangeShapes Go.WideShapes Go.ChangeAt Go.RowKit
open Go.ChangeMaps (open_string shut_string)
open Go.SL Go.Cli Go.CliV

theorem own : ownKnob Try.prog.godebug = none := by kernel_rfl
theorem laidOut : laidOutB Try.prog = true := by kernel_rfl

open Go.Cli in
theorem rdy_struct {H : Type} {enc : TypeId × Value → H} {P : Program} {w : World} {t : TypeId} {fs : Array Field} {cs : List Value} (ht : P.underlying t = some (.struct fs)) (h : Rdy enc P w t cs) :
    cs.length = P.cellsOf t ∧ ∀ f ∈ fs.toList, Rdy enc P w f.type ((cs.drop f.offset).take (P.cellsOf f.type)) := by
  obtain ⟨fuel, x, h⟩ := h
  cases fuel with
  | zero => simp [DataW.trod] at h
  | succ n =>
    unfold DataW.trod at h
    rw [ht] at h
    by_cases hl : cs.length = P.cellsOf t
    · refine ⟨hl, fun f hf => ?_⟩
      simp only [hl, if_true, Option.map_eq_some_iff] at h
      obtain ⟨xs, hx, -⟩ := h
      obtain ⟨i, hi, rfl⟩ := List.getElem_of_mem hf
      have := mapM_some_get hx i _ (List.getElem?_eq_getElem hi)
      have hlen := mapM_some_length hx
      rw [List.getElem?_eq_getElem (by omega)] at this
      exact ⟨n, _, this⟩
    · simp [hl] at h

theorem rdy_shape {H : Type} {enc : TypeId × Value → H} {P : Program} {w : World} {t e : TypeId} {c : Value} (ht : P.underlying t = some (.slice e)) (h : Rdy enc P w t [c]) : ∃ a n cap, c = .slice a n cap := by
  obtain ⟨fuel, y, h⟩ := h
  rcases Go.Deep.open_slice ht h with ⟨hc, _⟩ | ⟨a, len, cap, m, n, D, Pl, hc, _⟩
  · exact ⟨none, 0, 0, by simpa using hc⟩
  · exact ⟨some a, len, cap, by simpa using hc⟩
theorem rdy_int1 {H : Type} {enc : TypeId × Value → H} {P : Program} {w : World} {t : TypeId} {k : IntKind} {c : Value} (ht : P.underlying t = some (.int k)) (h : Rdy enc P w t [c]) : ∃ n, c = .int k n := by
  obtain ⟨n, hc, -⟩ := rdy_int ht h
  exact ⟨n, by simpa using hc⟩
theorem rdy_rep {H : Type} {enc : TypeId × Value → H} {w : World} {cs : List Value} (h : Rdy enc Try.prog w 64 cs) : ∃ r : Go.Cli.RepV, cs = Go.Cli.encRep r ∧ True := by
  obtain ⟨hl, hf⟩ := rdy_struct Try.underlying64 h
  rw [show Program.cellsOf Try.prog 64 = 13 from by kernel_rfl] at hl
  obtain ⟨c0, c1, c2, c3, c4, c5, c6, c7, c8, c9, c10, c11, c12, rfl⟩ : ∃ c0 c1 c2 c3 c4 c5 c6 c7 c8 c9 c10 c11 c12, cs = [c0, c1, c2, c3, c4, c5, c6, c7, c8, c9, c10, c11, c12] := by
    match cs, hl with
    | [c0, c1, c2, c3, c4, c5, c6, c7, c8, c9, c10, c11, c12], _ => exact ⟨_, _, _, _, _, _, _, _, _, _, _, _, _, rfl⟩
  clear hl h
  have z3 : Program.cellsOf Try.prog 3 = 1 := by kernel_rfl
  have z33 : Program.cellsOf Try.prog 33 = 1 := by kernel_rfl
  have z62 : Program.cellsOf Try.prog 62 = 8 := by kernel_rfl
  have z59 : Program.cellsOf Try.prog 59 = 1 := by kernel_rfl
  have z60 : Program.cellsOf Try.prog 60 = 1 := by kernel_rfl
  have z40 : Program.cellsOf Try.prog 40 = 1 := by kernel_rfl
  simp only [List.mem_cons, List.not_mem_nil, or_false, forall_eq_or_imp, forall_eq, z3, z33, z62] at hf
  obtain ⟨f0, f1, f2, f3, f4, f5⟩ := hf
  obtain ⟨-, hg⟩ := rdy_struct Try.underlying62 f5
  simp only [List.mem_cons, List.not_mem_nil, or_false, forall_eq_or_imp, forall_eq, z3, z59, z60, z40] at hg
  obtain ⟨g0, g1, g2, g3, g4, g5, g6, g7⟩ := hg
  simp at f0 f1 f2 f3 f4 g0 g1 g2 g3 g4 g5 g6 g7
  obtain ⟨n0, rfl⟩ := rdy_int1 Try.underlying3 f0
  obtain ⟨n1, rfl⟩ := rdy_int1 Try.underlying3 f1
  obtain ⟨n2, rfl⟩ := rdy_int1 Try.underlying33 f2
  obtain ⟨n3, rfl⟩ := rdy_int1 Try.underlying3 f3
  obtain ⟨n4, rfl⟩ := rdy_int1 Try.underlying3 f4
  obtain ⟨n5, rfl⟩ := rdy_int1 Try.underlying3 g0
  obtain ⟨n6, rfl⟩ := rdy_int1 Try.underlying3 g1
  obtain ⟨n7, rfl⟩ := rdy_int1 Try.underlying3 g2
  obtain ⟨n8, rfl⟩ := rdy_int1 Try.underlying3 g3
  obtain ⟨n9, rfl⟩ := rdy_int1 Try.underlying3 g4
  obtain ⟨a1, l1, k1, rfl⟩ := rdy_shape Try.underlying59 g5
  obtain ⟨a2, l2, k2, rfl⟩ := rdy_shape Try.underlying60 g6
  obtain ⟨a3, l3, k3, rfl⟩ := rdy_shape Try.underlying40 g7
  exact ⟨⟨n0, n1, n2, n3, n4, n5, n6, n7, n8, n9, ⟨a1, List.replicate l1 default, k1⟩, ⟨a2, List.replicate l2 false, k2⟩, ⟨a3, List.replicate l3 0, k3⟩⟩, by simp [Go.Cli.encRep, SL.v], trivial⟩
theorem rdy_reps {H : Type} {enc : TypeId × Value → H} {w : World} {cs : List Value} (h : Rdy enc Try.prog w 58 cs) : ∃ s : SL Go.Cli.RepV, cs = [s.v] ∧ s.ro Go.Cli.encRep 13 (hp w) := by
  obtain ⟨a, cap, xs, rfl, hr, -⟩ := rdy_slice (en := Go.Cli.encRep) (Q := fun _ => True) (sz := 13) Try.underlying58 (by kernel_rfl) (fun _ => rfl) (fun cs h => rdy_rep h) h
  exact ⟨⟨a, xs, cap⟩, rfl, hr⟩

theorem lifted (os : Os) (started : os.Started) (H : Type) (enc : TypeId × Value → H) :
    ReturnsInHanded {} Try.checked os 8 .any (Rows.clientNamesSpec.pre6 enc Try.prog Try.f8 Rows.clientNamesRow.domain false) (Rows.clientNamesSpec.post enc Try.prog Try.f8 false true false false) := by
  refine returnsInHanded_of_change (C := Try.checked) own started (by kernel_rfl) Try.func8
    (ChangeSpec.witness6 (enc := enc) (C := Try.checked) false ⟨#[], #[.int .i64 0, .slice none 0 0], []⟩ 8 (by kernel_rfl) (by kernel_rfl) (by kernel_rfl) (by kernel_rfl)) ?_
  intro W base args ds gs before hval0 hW hcnd _
  have hval : ∀ (j : Nat) t v, Try.f8.params[j]? = some t → args[j]? = some v → Value.okWide Try.prog W .any base t v := hval0
  have hW' := hW
  obtain ⟨p, q, hA0, hV, rfl, hfz, hnd⟩ := hW
  have hA : DataW.TrodAll enc Try.prog W 0 (fun _ => true) true Try.f8.params.toList args.toList ds p := hA0
  rw [Try.params8] at hA hval
  obtain ⟨v0, vs0, d0, ds0, p0, q0, hargs, rfl, rfl, h0, r0⟩ := trodAll_cons hA
  obtain ⟨v1, vs1, d1, ds1, p1, q1, rfl, rfl, rfl, h1, r1⟩ := trodAll_cons r0
  obtain ⟨rfl, rfl, rfl⟩ := trodAll_nil r1
  obtain rfl : args = #[v0, v1] := by cases args; simp_all
  obtain ⟨rfl, rfl⟩ := trodVars_none hV
  have k0 := h0
  have lt0 : ∀ x ∈ p0, x.block < W.heap.size := by obtain ⟨m, hm⟩ := k0; exact DataW.trod_lt m _ _ _ hm
  obtain ⟨a0, rfl, rfl, rfl, w0⟩ := open_int Try.underlying3 (hval 0 3 v0 rfl rfl) h0
  have k1 := h1
  have lt1 : ∀ x ∈ p1, x.block < W.heap.size := by obtain ⟨m, hm⟩ := k1; exact DataW.trod_lt m _ _ _ hm
  obtain ⟨a1, len1, cap1, rfl⟩ := okWide_slice Try.underlying58 (hval 1 58 v1 rfl rfl)
  obtain ⟨S1, e1, ro1⟩ := rdy_reps (rdy_of h1)
  simp [Value.cells, SL.v] at e1
  obtain ⟨rfl, rfl, rfl⟩ := e1
  clear hA0 hval0
  refine (law_of_spec (lawish (names_spec a0 S1.a S1.cap S1.xs (hp W) ro1))).mono fun e W' ⟨he, bel⟩ => ?_
  subst he
  exact ⟨_, rfl, _, _, _, [], _, [], hW', trodAll_mk1 (shut_bool Try.underlying4 _), (trodAll_cons_mk (Below.trod laidOut (by kernel_rfl) (of_decide_eq_true (by kernel_rfl)) k0 bel lt0) (trodAll_cons_mk (Below.trod laidOut (by kernel_rfl) (of_decide_eq_true (by kernel_rfl)) k1 bel lt1) trodAll_mk0)), rfl, bel.frame _, fun h => by cases h⟩

theorem over : Rows.clientNamesRow.holds Try.pinned (OpenSpec.ofChange Rows.clientNamesSpec) :=
  OpenClaim.holds_of_wide 8 Try.f8 rfl rfl rfl rfl rfl rfl rfl ⟨rfl, rfl, rfl, rfl, rfl⟩ rfl rfl rfl rfl rfl (by kernel_rfl) Try.func8 (by kernel_rfl)
    (of_decide_eq_true (by kernel_rfl)) (by unfold Func.isWrapper; first | (rw [if_pos (by decide +kernel)]; kernel_rfl) | (rw [if_neg (by decide +kernel)]; exact ⟨rfl, rfl⟩))
    (fun os started H enc _ => lifted os started H enc)

theorem proved : Rows.ClientNamesSaid := over
#print axioms proved
end Go.Proofs.Ytppngeebdmbeaaa.clientNames

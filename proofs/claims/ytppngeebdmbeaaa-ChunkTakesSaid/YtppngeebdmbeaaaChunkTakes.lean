/-
  The law 'ChunkTakes': her frame about her walk: the given statement 'Rows.ChunkTakesSaid'.
-/
import Derived.Test.YtppngeebdmbeaaaRows
import Derived.Test.YtppngeebdmbeaaaSlL
import Derived.Test.YtppngeebdmbeaaaChkH
import Derived.WalkKit
import Derived.ProofKit
import Derived.OpenShut
import Derived.ShutString
import Derived.ChangeOld
import Derived.Below
set_option maxRecDepth 100000
set_option linter.unusedVariables false
set_option linter.unusedSimpArgs false
namespace Go.Proofs.Ytppngeebdmbeaaa.chunkTakes
open Go.ChangeShapes Go.WideShapes Go.ChangeAt Go.RowKit
open Go.ChangeMaps (open_string shut_string)
open Go.SL Go.Sum

theorem own : ownKnob Try.prog.godebug = none := by kernel_rfl
theorem laidOut : laidOutB Try.prog = true := by kernel_rfl

theorem rdy_struct {H : Type} {enc : TypeId × Value → H} {P : Program} {w : World} {t : TypeId} {fs : Array Field} {cs : List Value} (ht : P.underlying t = some (.struct fs)) (h : Rdy enc P w t cs) :
    cs.length = P.cellsOf t ∧ ∀ f ∈ fs.toList, Rdy enc P w f.type ((cs.drop f.offset).take (P.cellsOf f.type)) := by
  obtain ⟨fuel, x, h⟩ := h
  cases fuel with
  | zero => simp [DataW.trod] at h
  | succ n =>
    unfold DataW.trod at h
    rw [ht] at h
    by_cases hl : cs.length = P.cellsOf t
    · refine ⟨hl, fun f hf => ?_⟩
      simp only [hl, if_true, Option.map_eq_some_iff] at h
      obtain ⟨xs, hx, -⟩ := h
      obtain ⟨i, hi, rfl⟩ := List.getElem_of_mem hf
      have := mapM_some_get hx i _ (List.getElem?_eq_getElem hi)
      have hlen := mapM_some_length hx
      rw [List.getElem?_eq_getElem (by omega)] at this
      exact ⟨n, _, this⟩
    · simp [hl] at h
theorem rdy_int1 {H : Type} {enc : TypeId × Value → H} {P : Program} {w : World} {t : TypeId} {k : IntKind} {c : Value} (ht : P.underlying t = some (.int k)) (h : Rdy enc P w t [c]) : ∃ n, c = .int k n ∧ (Lit.int k n).wf = true := by
  obtain ⟨n, hc, hw⟩ := rdy_int ht h
  exact ⟨n, by simpa using hc, hw⟩

theorem rdy_mark {H : Type} {enc : TypeId × Value → H} {w : World} {cs : List Value} (h : Rdy enc Try.prog w 87 cs) : ∃ m : Go.Chk.Mark, cs = Go.Chk.encMark m := by
  obtain ⟨hl, hf⟩ := rdy_struct Try.underlying87 h
  rw [show Program.cellsOf Try.prog 87 = 2 from by kernel_rfl] at hl
  obtain ⟨c0, c1, rfl⟩ : ∃ c0 c1, cs = [c0, c1] := by
    match cs, hl with
    | [c0, c1], _ => exact ⟨_, _, rfl⟩
  have z3 : Program.cellsOf Try.prog 3 = 1 := by kernel_rfl
  simp only [List.mem_cons, List.not_mem_nil, or_false, forall_eq_or_imp, forall_eq, z3] at hf
  obtain ⟨f0, f1⟩ := hf
  simp at f0 f1
  obtain ⟨n0, rfl, -⟩ := rdy_int1 Try.underlying3 f0
  obtain ⟨n1, rfl, -⟩ := rdy_int1 Try.underlying3 f1
  exact ⟨⟨n0, n1⟩, rfl⟩

theorem rdy_word1 {H : Type} {enc : TypeId × Value → H} {P : Program} {w : World} {t : TypeId} {c : Value} (ht : P.underlying t = some (.int .u32)) (h : Rdy enc P w t [c]) : ∃ b : BitVec 32, c = .int .u32 (b.toNat : Int) := by
  obtain ⟨n, rfl, hw⟩ := rdy_int1 ht h
  have h2 : 0 ≤ n ∧ n ≤ 4294967295 := by
    simp [Lit.wf, IntKind.min, IntKind.max, IntKind.signed, IntKind.bits] at hw
    omega
  refine ⟨BitVec.ofNat 32 n.toNat, ?_⟩
  have : ((BitVec.ofNat 32 n.toNat).toNat : Int) = n := by
    rw [BitVec.toNat_ofNat, Nat.mod_eq_of_lt (by omega)]; omega
  rw [this]
theorem rdy_piece {H : Type} {enc : TypeId × Value → H} {w : World} {cs : List Value} (h : Rdy enc Try.prog w 95 cs) : ∃ p : Go.Chk.Piece, cs = Go.Chk.encPiece p ∧ Ro (hp w) 1 p.B.a p.B.xs.length p.B.cap (p.B.xs.flatMap encB) := by
  obtain ⟨hl, hf⟩ := rdy_struct Try.underlying95 h
  rw [show Program.cellsOf Try.prog 95 = 6 from by kernel_rfl] at hl
  obtain ⟨c0, c1, c2, c3, c4, c5, rfl⟩ : ∃ c0 c1 c2 c3 c4 c5, cs = [c0, c1, c2, c3, c4, c5] := by
    match cs, hl with
    | [c0, c1, c2, c3, c4, c5], _ => exact ⟨_, _, _, _, _, _, rfl⟩
  have z3 : Program.cellsOf Try.prog 3 = 1 := by kernel_rfl
  have z2 : Program.cellsOf Try.prog 87 = 2 := by kernel_rfl
  have z4 : Program.cellsOf Try.prog 23 = 1 := by kernel_rfl
  have z5 : Program.cellsOf Try.prog 22 = 1 := by kernel_rfl
  simp only [List.mem_cons, List.not_mem_nil, or_false, forall_eq_or_imp, forall_eq, z3, z2, z4, z5] at hf
  obtain ⟨f0, f1, f2, f3, f4⟩ := hf
  simp at f0 f1 f2 f3 f4
  obtain ⟨m, hm⟩ := rdy_mark f0
  obtain ⟨b, rfl⟩ := rdy_word1 Try.underlying23 f1
  obtain ⟨n2, rfl, -⟩ := rdy_int1 Try.underlying3 f2
  obtain ⟨n3, rfl, -⟩ := rdy_int1 Try.underlying3 f3
  obtain ⟨S, e, hr⟩ := rdy_bytes Try.underlying22 Try.underlying5 (by kernel_rfl) f4
  simp [encS] at e
  subst e
  simp only [Go.Chk.encMark, List.cons.injEq, and_true] at hm
  obtain ⟨rfl, rfl⟩ := hm
  exact ⟨⟨m, b, n2, n3, ⟨S.a, S.bs, S.cap⟩⟩, rfl, hr⟩
theorem rdy_pieces {H : Type} {enc : TypeId × Value → H} {w : World} {cs : List Value} (h : Rdy enc Try.prog w 88 cs) : ∃ s : SL Go.Chk.Piece, cs = [s.v] ∧ Ro (hp w) 6 s.a s.xs.length s.cap (s.xs.flatMap Go.Chk.encPiece) ∧ ∀ p ∈ s.xs, Ro (hp w) 1 p.B.a p.B.xs.length p.B.cap (p.B.xs.flatMap encB) := by
  obtain ⟨a, cap, xs, rfl, hr, hq⟩ := rdy_slice (en := Go.Chk.encPiece) (Q := fun p => Ro (hp w) 1 p.B.a p.B.xs.length p.B.cap (p.B.xs.flatMap encB)) (sz := 6) Try.underlying88 (by kernel_rfl) (fun _ => rfl) (fun cs h => rdy_piece h) h
  exact ⟨⟨a, xs, cap⟩, rfl, hr, hq⟩
theorem rdy_bool1 {H : Type} {enc : TypeId × Value → H} {P : Program} {w : World} {t : TypeId} {cs : List Value} (ht : P.underlying t = some .bool) (h : Rdy enc P w t cs) : ∃ b : Bool, cs = encO b ∧ True := by
  obtain ⟨fuel, x, h⟩ := h
  obtain ⟨b, rfl, -⟩ := DataW.trod_bool ht h
  exact ⟨b, rfl, trivial⟩
theorem rdy_bools {H : Type} {enc : TypeId × Value → H} {w : World} {cs : List Value} (h : Rdy enc Try.prog w 60 cs) : ∃ s : SL Bool, cs = [s.v] ∧ Ro (hp w) 1 s.a s.xs.length s.cap (s.xs.flatMap encO) := by
  obtain ⟨a, cap, xs, rfl, hr, -⟩ := rdy_slice (en := encO) (Q := fun _ => True) (sz := 1) Try.underlying60 (by kernel_rfl) (fun _ => rfl) (fun cs h => rdy_bool1 Try.underlying4 h) h
  exact ⟨⟨a, xs, cap⟩, rfl, hr⟩

theorem lifted (os : Os) (started : os.Started) (H : Type) (enc : TypeId × Value → H) :
    ReturnsInHanded {} Try.checked os 11 .any (Rows.chunkTakesSpec.pre6 enc Try.prog Try.f11 Rows.chunkTakesRow.domain false) (Rows.chunkTakesSpec.post enc Try.prog Try.f11 false true false false) := by
  refine returnsInHanded_of_change (C := Try.checked) own started (by kernel_rfl) Try.func11
    (ChangeSpec.witness6 (enc := enc) (C := Try.checked) false ⟨#[], #[.int .i64 0, .slice none 0 0, .slice none 0 0], []⟩ 8 (by kernel_rfl) (by kernel_rfl) (by kernel_rfl) (by kernel_rfl)) ?_
  intro W base args ds gs before hval0 hW hcnd _
  have hval : ∀ (j : Nat) t v, Try.f11.params[j]? = some t → args[j]? = some v → Value.okWide Try.prog W .any base t v := hval0
  have hW' := hW
  obtain ⟨p, q, hA0, hV, rfl, hfz, hnd⟩ := hW
  have hA : DataW.TrodAll enc Try.prog W 0 (fun _ => true) true Try.f11.params.toList args.toList ds p := hA0
  rw [Try.params11] at hA hval
  obtain ⟨v0, vs0, d0, ds0, p0, q0, hargs, rfl, rfl, h0, r0⟩ := trodAll_cons hA
  obtain ⟨v1, vs1, d1, ds1, p1, q1, rfl, rfl, rfl, h1, r1⟩ := trodAll_cons r0
  obtain ⟨v2, vs2, d2, ds2, p2, q2, rfl, rfl, rfl, h2, r2⟩ := trodAll_cons r1
  obtain ⟨rfl, rfl, rfl⟩ := trodAll_nil r2
  obtain rfl : args = #[v0, v1, v2] := by cases args; simp_all
  obtain ⟨rfl, rfl⟩ := trodVars_none hV
  have k0 := h0
  have lt0 : ∀ x ∈ p0, x.block < W.heap.size := by obtain ⟨m, hm⟩ := k0; exact DataW.trod_lt m _ _ _ hm
  obtain ⟨a0, rfl, rfl, rfl, w0⟩ := open_int Try.underlying3 (hval 0 3 v0 rfl rfl) h0
  have k1 := h1
  have lt1 : ∀ x ∈ p1, x.block < W.heap.size := by obtain ⟨m, hm⟩ := k1; exact DataW.trod_lt m _ _ _ hm
  obtain ⟨a1, len1, cap1, rfl⟩ := okWide_slice Try.underlying88 (hval 1 88 v1 rfl rfl)
  obtain ⟨S1, e1, ro1⟩ := rdy_pieces (rdy_of h1)
  simp [Value.cells, SL.v] at e1
  obtain ⟨rfl, rfl, rfl⟩ := e1
  have k2 := h2
  have lt2 : ∀ x ∈ p2, x.block < W.heap.size := by obtain ⟨m, hm⟩ := k2; exact DataW.trod_lt m _ _ _ hm
  obtain ⟨a2, len2, cap2, rfl⟩ := okWide_slice Try.underlying60 (hval 2 60 v2 rfl rfl)
  obtain ⟨S2, e2, ro2⟩ := rdy_bools (rdy_of h2)
  simp [Value.cells, SL.v] at e2
  obtain ⟨rfl, rfl, rfl⟩ := e2
  clear hA0 hval0
  refine (law_of_spec (lawish (Go.Chk.H.takesl_spec a0 S1.a S1.xs.length S1.cap S1.xs rfl S2.a S2.xs.length S2.cap S2.xs rfl (hp W) (by simp [Lit.wf, IntKind.min, IntKind.max, IntKind.signed, IntKind.bits] at w0; omega) ro1.1 ro1.2 ro2))).mono fun e W' ⟨he, bel⟩ => ?_
  subst he
  exact ⟨_, rfl, _, _, _, [], _, [], hW', trodAll_mk1 (shut_bool Try.underlying4 _), (trodAll_cons_mk (Below.trod laidOut (by kernel_rfl) (of_decide_eq_true (by kernel_rfl)) k0 bel lt0) (trodAll_cons_mk (Below.trod laidOut (by kernel_rfl) (of_decide_eq_true (by kernel_rfl)) k1 bel lt1) (trodAll_cons_mk (Below.trod laidOut (by kernel_rfl) (of_decide_eq_true (by kernel_rfl)) k2 bel lt2) trodAll_mk0))), rfl, bel.frame _, fun h => by cases h⟩

theorem over : Rows.chunkTakesRow.holds Try.pinned (OpenSpec.ofChange Rows.chunkTakesSpec) :=
  OpenClaim.holds_of_wide 11 Try.f11 rfl rfl rfl rfl rfl rfl rfl ⟨rfl, rfl, rfl, rfl, rfl⟩ rfl rfl rfl rfl rfl (by kernel_rfl) Try.func11 (by kernel_rfl)
    (of_decide_eq_true (by kernel_rfl)) (by unfold Func.isWrapper; first | (rw [if_pos (by decide +kernel)]; kernel_rfl) | (rw [if_neg (by decide +kernel)]; exact ⟨rfl, rfl⟩))
    (fun os started H enc _ => lifted os started H enc)

theorem proved : Rows.ChunkTakesSaid := over
#print axioms proved
end Go.Proofs.Ytppngeebdmbeaaa.chunkTakes

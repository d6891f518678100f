/-
  The law 'TallyTracks': her frame about her walk: the given statement 'Rows.TallyTracksSaid'.
-/
import Derived.Test.YteajafkmnhikoaaRows
import Derived.Test.YteajafkmnhikoaaSlL
import Derived.Test.YteajafkmnhikoaaTlyN
import Derived.WalkKit
import Derived.ProofKit
import Derived.OpenShut
import Derived.ShutString
import Derived.ChangeOld
import Derived.Below
set_option maxRecDepth 100000
set_option linter.unusedVariables false
set_option linter.unusedSimpArgs false
namespace Go.Proofs.Yteajafkmnhikoaa.tallyTracks
open Go.ChangeShapes Go.WideShapes Go.ChangeAt Go.RowKit
open Go.ChangeMaps (open_string shut_string)
open Go.SL 

theorem own : ownKnob Try.prog.godebug = none := by kernel_rfl
theorem laidOut : laidOutB Try.prog = true := by kernel_rfl
theorem rdy_struct {H : Type} {enc : TypeId × Value → H} {P : Program} {w : World} {t : TypeId} {fs : Array Field} {cs : List Value} (ht : P.underlying t = some (.struct fs)) (h : Rdy enc P w t cs) :
    cs.length = P.cellsOf t ∧ ∀ f ∈ fs.toList, Rdy enc P w f.type ((cs.drop f.offset).take (P.cellsOf f.type)) := by
  obtain ⟨fuel, x, h⟩ := h
  cases fuel with
  | zero => simp [DataW.trod] at h
  | succ n =>
    unfold DataW.trod at h
    rw [ht] at h
    by_cases hl : cs.length = P.cellsOf t
    · refine ⟨hl, fun f hf => ?_⟩
      simp only [hl, if_true, Option.map_eq_some_iff] at h
      obtain ⟨xs, hx, -⟩ := h
      obtain ⟨i, hi, rfl⟩ := List.getElem_of_mem hf
      have := mapM_some_get hx i _ (List.getElem?_eq_getElem hi)
      have hlen := mapM_some_length hx
      rw [List.getElem?_eq_getElem (by omega)] at this
      exact ⟨n, _, this⟩
    · simp [hl] at h

theorem rd_int {H : Type} {enc : TypeId × Value → H} {P : Program} {w : World} {t : TypeId} {k : IntKind} {cs : List Value} (ht : P.underlying t = some (.int k)) (h : Rdy enc P w t cs) : ∃ n, cs = [.int k n] ∧ (Lit.int k n).wf = true := rdy_int ht h
theorem rd_int1 {H : Type} {enc : TypeId × Value → H} {P : Program} {w : World} {t : TypeId} {k : IntKind} {c : Value} (ht : P.underlying t = some (.int k)) (h : Rdy enc P w t [c]) : ∃ n, c = .int k n ∧ (Lit.int k n).wf = true := by
  obtain ⟨n, hc, hw⟩ := rd_int ht h
  exact ⟨n, by simpa using hc, hw⟩
theorem rd_bool {H : Type} {enc : TypeId × Value → H} {P : Program} {w : World} {t : TypeId} {cs : List Value} (ht : P.underlying t = some .bool) (h : Rdy enc P w t cs) : ∃ b, cs = [.bool b] := by
  obtain ⟨fuel, y, h⟩ := h
  obtain ⟨b, hb, -⟩ := DataW.trod_bool ht h
  exact ⟨b, hb⟩
theorem rd_bool1 {H : Type} {enc : TypeId × Value → H} {P : Program} {w : World} {t : TypeId} {c : Value} (ht : P.underlying t = some .bool) (h : Rdy enc P w t [c]) : ∃ b, c = .bool b := by
  obtain ⟨n, hc⟩ := rd_bool ht h
  exact ⟨n, by simpa using hc⟩
theorem rd_string {H : Type} {enc : TypeId × Value → H} {P : Program} {w : World} {t : TypeId} {cs : List Value} (ht : P.underlying t = some .string) (h : Rdy enc P w t cs) : ∃ s : List UInt8, cs = [.string ⟨s.toArray⟩] ∧ s.length ≤ maxLen := by
  obtain ⟨fuel, y, h⟩ := h
  obtain ⟨q, hq, -, hl⟩ := DataW.trod_string ht h
  exact ⟨q.data.toList, hq.trans (by rw [Array.toArray_toList]), by rw [Array.length_toList]; exact hl⟩
theorem rd_string1 {H : Type} {enc : TypeId × Value → H} {P : Program} {w : World} {t : TypeId} {c : Value} (ht : P.underlying t = some .string) (h : Rdy enc P w t [c]) : ∃ s : List UInt8, c = .string ⟨s.toArray⟩ ∧ s.length ≤ maxLen := by
  obtain ⟨n, hc, hn⟩ := rd_string ht h
  exact ⟨n, by simpa using hc, hn⟩

def MemL_22 (x : SL Int) (h : Hp) : Prop := x.ro Go.SL.encI 1 h ∧ x.xs.length ≤ maxLen ∧ ∀ y ∈ x.xs, (Lit.int .i64 y).wf = true
theorem rdl_22 {H : Type} {enc : TypeId × Value → H} {w : World} {cs : List Value} (h : Rdy enc Try.prog w 22 cs) : ∃ x : SL Int, cs = encSL x ∧ MemL_22 x (hp w) := by
  obtain ⟨a, cap, xs, rfl, hr, hq⟩ := rdy_slice (en := Go.SL.encI) (Q := fun y => (Lit.int .i64 y).wf = true) (sz := 1) Try.underlying22 (by kernel_rfl) (fun _ => rfl) (fun cs h => by obtain ⟨n, e, hw⟩ := rd_int Try.underlying3 h; exact ⟨n, e, hw⟩) h
  exact ⟨⟨a, xs, cap⟩, rfl, hr, Nat.le_trans hr.2.1 hr.2.2.1, hq⟩
theorem rdl1_22 {H : Type} {enc : TypeId × Value → H} {w : World} {c : Value} (h : Rdy enc Try.prog w 22 [c]) : ∃ x : SL Int, c = x.v ∧ MemL_22 x (hp w) := by
  obtain ⟨x, hx, hm⟩ := rdl_22 h
  exact ⟨x, by simpa [encSL] using hx, hm⟩
def Mem_TAct (x : Go.Tly.TAct) (h : Hp) : Prop := (Lit.int .i64 x.Kind).wf = true ∧ (Lit.int .i64 x.ID).wf = true ∧ (Lit.int .i64 x.Index).wf = true ∧ (Lit.int .i64 x.Hint).wf = true ∧ (Lit.int .i64 x.Last).wf = true ∧ MemL_22 x.IDs h
theorem rd_TAct {H : Type} {enc : TypeId × Value → H} {w : World} {cs : List Value} (h : Rdy enc Try.prog w 85 cs) : ∃ x : Go.Tly.TAct, cs = Go.Tly.encTAct x ∧ Mem_TAct x (hp w) := by
  obtain ⟨hl, hf⟩ := rdy_struct Try.underlying85 h
  rw [show Program.cellsOf Try.prog 85 = 6 from by kernel_rfl] at hl
  obtain ⟨c0, c1, c2, c3, c4, c5, rfl⟩ : ∃ c0 c1 c2 c3 c4 c5, cs = [c0, c1, c2, c3, c4, c5] := by
    match cs, hl with
    | [c0, c1, c2, c3, c4, c5], _ => exact ⟨_, _, _, _, _, _, rfl⟩
  have z3 : Program.cellsOf Try.prog 3 = 1 := by kernel_rfl
  have z22 : Program.cellsOf Try.prog 22 = 1 := by kernel_rfl
  simp only [List.mem_cons, List.not_mem_nil, or_false, forall_eq_or_imp, forall_eq, z22, z3] at hf
  obtain ⟨hf_0, hf_1, hf_2, hf_3, hf_4, hf_5⟩ := hf
  simp at hf_0 hf_1 hf_2 hf_3 hf_4 hf_5
  obtain ⟨x0, rfl, m0⟩ := rd_int1 Try.underlying3 hf_0
  obtain ⟨x1, rfl, m1⟩ := rd_int1 Try.underlying3 hf_1
  obtain ⟨x2, rfl, m2⟩ := rd_int1 Try.underlying3 hf_2
  obtain ⟨x3, rfl, m3⟩ := rd_int1 Try.underlying3 hf_3
  obtain ⟨x4, rfl, m4⟩ := rd_int1 Try.underlying3 hf_4
  obtain ⟨x5, rfl, m5⟩ := rdl1_22 hf_5
  exact ⟨⟨x0, x1, x2, x3, x4, x5⟩, rfl, ⟨m0, m1, m2, m3, m4, m5⟩⟩
def MemL_79 (x : SL Go.Tly.TAct) (h : Hp) : Prop := x.ro Go.Tly.encTAct 6 h ∧ x.xs.length ≤ maxLen ∧ ∀ y ∈ x.xs, Mem_TAct y h
theorem rdl_79 {H : Type} {enc : TypeId × Value → H} {w : World} {cs : List Value} (h : Rdy enc Try.prog w 79 cs) : ∃ x : SL Go.Tly.TAct, cs = encSL x ∧ MemL_79 x (hp w) := by
  obtain ⟨a, cap, xs, rfl, hr, hq⟩ := rdy_slice (en := Go.Tly.encTAct) (Q := fun y => Mem_TAct y (hp w)) (sz := 6) Try.underlying79 (by kernel_rfl) (fun _ => rfl) (fun cs h => rd_TAct h) h
  exact ⟨⟨a, xs, cap⟩, rfl, hr, Nat.le_trans hr.2.1 hr.2.2.1, hq⟩
theorem rdl1_79 {H : Type} {enc : TypeId × Value → H} {w : World} {c : Value} (h : Rdy enc Try.prog w 79 [c]) : ∃ x : SL Go.Tly.TAct, c = x.v ∧ MemL_79 x (hp w) := by
  obtain ⟨x, hx, hm⟩ := rdl_79 h
  exact ⟨x, by simpa [encSL] using hx, hm⟩

theorem memT {a : Go.Tly.TAct} {h : Hp} (m : Mem_TAct a h) : Go.Tly.TActM a h := ⟨m.2.2.2.2.2.1, fun i hi => wf_i64.1 (m.2.2.2.2.2.2.2 i hi)⟩

theorem lifted (os : Os) (started : os.Started) (H : Type) (enc : TypeId × Value → H) :
    ReturnsInHanded {} Try.checked os 10 .any (Rows.tallyTracksSpec.pre6 enc Try.prog Try.f10 Rows.tallyTracksRow.domain false) (Rows.tallyTracksSpec.post enc Try.prog Try.f10 false true false false) := by
  refine returnsInHanded_of_change (C := Try.checked) own started (by kernel_rfl) Try.func10
    (ChangeSpec.witness6 (enc := enc) (C := Try.checked) false ⟨#[], #[.int .i64 0, .slice none 0 0, .slice none 0 0], []⟩ 8 (by kernel_rfl) (by kernel_rfl) (by kernel_rfl) (by kernel_rfl)) ?_
  intro W base args ds gs before hval0 hW hcnd _
  have hval : ∀ (j : Nat) t v, Try.f10.params[j]? = some t → args[j]? = some v → Value.okWide Try.prog W .any base t v := hval0
  have hW' := hW
  obtain ⟨p, q, hA0, hV, rfl, hfz, hnd⟩ := hW
  have hA : DataW.TrodAll enc Try.prog W 0 (fun _ => true) true Try.f10.params.toList args.toList ds p := hA0
  rw [Try.params10] at hA hval
  obtain ⟨v0, vs0, d0, ds0, p0, q0, hargs, rfl, rfl, h0, r0⟩ := trodAll_cons hA
  obtain ⟨v1, vs1, d1, ds1, p1, q1, rfl, rfl, rfl, h1, r1⟩ := trodAll_cons r0
  obtain ⟨v2, vs2, d2, ds2, p2, q2, rfl, rfl, rfl, h2, r2⟩ := trodAll_cons r1
  obtain ⟨rfl, rfl, rfl⟩ := trodAll_nil r2
  obtain rfl : args = #[v0, v1, v2] := by cases args; simp_all
  obtain ⟨rfl, rfl⟩ := trodVars_none hV
  have k0 := h0
  have lt0 : ∀ x ∈ p0, x.block < W.heap.size := by obtain ⟨m, hm⟩ := k0; exact DataW.trod_lt m _ _ _ hm
  obtain ⟨a0, rfl, rfl, rfl, w0⟩ := open_int Try.underlying3 (hval 0 3 v0 rfl rfl) h0
  have k1 := h1
  have lt1 : ∀ x ∈ p1, x.block < W.heap.size := by obtain ⟨m, hm⟩ := k1; exact DataW.trod_lt m _ _ _ hm
  obtain ⟨a1, len1, cap1, rfl⟩ := okWide_slice Try.underlying22 (hval 1 22 v1 rfl rfl)
  obtain ⟨S1, e1, ro1⟩ := rdl1_22 (rdy_of h1)
  simp [SL.v] at e1
  obtain ⟨rfl, rfl, rfl⟩ := e1
  have k2 := h2
  have lt2 : ∀ x ∈ p2, x.block < W.heap.size := by obtain ⟨m, hm⟩ := k2; exact DataW.trod_lt m _ _ _ hm
  obtain ⟨a2, len2, cap2, rfl⟩ := okWide_slice Try.underlying79 (hval 2 79 v2 rfl rfl)
  obtain ⟨S2, e2, ro2⟩ := rdl1_79 (rdy_of h2)
  simp [SL.v] at e2
  obtain ⟨rfl, rfl, rfl⟩ := e2
  clear hA0 hval0
  refine (law_of_spec (lawish (Go.Tly.N.tracks_spec a0 S1.a S1.xs.length S1.cap S1.xs rfl S2.a S2.xs.length S2.cap S2.xs rfl (hp W) (fun i hi => wf_i64.1 (ro1.2.2 i hi)) ro1.1 ro2.1 (fun a ha => memT (ro2.2.2 a ha))))).mono fun e W' ⟨he, bel⟩ => ?_
  subst he
  exact ⟨_, rfl, _, _, _, [], _, [], hW', trodAll_mk1 (shut_bool Try.underlying4 _), (trodAll_cons_mk (Below.trod laidOut (by kernel_rfl) (of_decide_eq_true (by kernel_rfl)) k0 bel lt0) (trodAll_cons_mk (Below.trod laidOut (by kernel_rfl) (of_decide_eq_true (by kernel_rfl)) k1 bel lt1) (trodAll_cons_mk (Below.trod laidOut (by kernel_rfl) (of_decide_eq_true (by kernel_rfl)) k2 bel lt2) trodAll_mk0))), rfl, bel.frame _, fun h => by cases h⟩

theorem over : Rows.tallyTracksRow.holds Try.pinned (OpenSpec.ofChange Rows.tallyTracksSpec) :=
  OpenClaim.holds_of_wide 10 Try.f10 rfl rfl rfl rfl rfl rfl rfl ⟨rfl, rfl, rfl, rfl, rfl⟩ rfl rfl rfl rfl rfl (by kernel_rfl) Try.func10 (by kernel_rfl)
    (of_decide_eq_true (by kernel_rfl)) (by unfold Func.isWrapper; first | (rw [if_pos (by decide +kernel)]; kernel_rfl) | (rw [if_neg (by decide +kernel)]; exact ⟨rfl, rfl⟩))
    (fun os started H enc _ => lifted os started H enc)

theorem proved : Rows.TallyTracksSaid := over
#print axioms proved
end Go.Proofs.Yteajafkmnhikoaa.tallyTracks

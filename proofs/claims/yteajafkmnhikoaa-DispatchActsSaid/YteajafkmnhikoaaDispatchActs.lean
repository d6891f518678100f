/-
  The law 'DispatchActs': her frame about her walk: the given statement 'Rows.DispatchActsSaid'.
-/
import Derived.Test.YteajafkmnhikoaaRows
import Derived.Test.YteajafkmnhikoaaSlL
import Derived.Test.YteajafkmnhikoaaDspJ
import Derived.WalkKit
import Derived.ProofKit
import Derived.OpenShut
import Derived.ShutString
import Derived.ChangeOld
import Derived.Below
set_option maxRecDepth 100000
set_option linter.unusedVariables false
set_option linter.unusedSimpArgs false
namespace Go.Proofs.Yteajafkmnhikoaa.dispatchActs
open Go.ChangeShapes Go.WideShapes Go.ChangeAt Go.RowKit
open Go.ChangeMaps (open_string shut_string)
open Go.SL 

theorem own : ownKnob Try.prog.godebug = none := by kernel_rfl
theorem laidOut : laidOutB Try.prog = true := by kernel_rfl
theorem rdy_struct {H : Type} {enc : TypeId × Value → H} {P : Program} {w : World} {t : TypeId} {fs : Array Field} {cs : List Value} (ht : P.underlying t = some (.struct fs)) (h : Rdy enc P w t cs) :
    cs.length = P.cellsOf t ∧ ∀ f ∈ fs.toList, Rdy enc P w f.type ((cs.drop f.offset).take (P.cellsOf f.type)) := by
  obtain ⟨fuel, x, h⟩ := h
  cases fuel with
  | zero => simp [DataW.trod] at h
  | succ n =>
    unfold DataW.trod at h
    rw [ht] at h
    by_cases hl : cs.length = P.cellsOf t
    · refine ⟨hl, fun f hf => ?_⟩
      simp only [hl, if_true, Option.map_eq_some_iff] at h
      obtain ⟨xs, hx, -⟩ := h
      obtain ⟨i, hi, rfl⟩ := List.getElem_of_mem hf
      have := mapM_some_get hx i _ (List.getElem?_eq_getElem hi)
      have hlen := mapM_some_length hx
      rw [List.getElem?_eq_getElem (by omega)] at this
      exact ⟨n, _, this⟩
    · simp [hl] at h

theorem rd_int {H : Type} {enc : TypeId × Value → H} {P : Program} {w : World} {t : TypeId} {k : IntKind} {cs : List Value} (ht : P.underlying t = some (.int k)) (h : Rdy enc P w t cs) : ∃ n, cs = [.int k n] ∧ (Lit.int k n).wf = true := rdy_int ht h
theorem rd_int1 {H : Type} {enc : TypeId × Value → H} {P : Program} {w : World} {t : TypeId} {k : IntKind} {c : Value} (ht : P.underlying t = some (.int k)) (h : Rdy enc P w t [c]) : ∃ n, c = .int k n ∧ (Lit.int k n).wf = true := by
  obtain ⟨n, hc, hw⟩ := rd_int ht h
  exact ⟨n, by simpa using hc, hw⟩
theorem rd_bool {H : Type} {enc : TypeId × Value → H} {P : Program} {w : World} {t : TypeId} {cs : List Value} (ht : P.underlying t = some .bool) (h : Rdy enc P w t cs) : ∃ b, cs = [.bool b] := by
  obtain ⟨fuel, y, h⟩ := h
  obtain ⟨b, hb, -⟩ := DataW.trod_bool ht h
  exact ⟨b, hb⟩
theorem rd_bool1 {H : Type} {enc : TypeId × Value → H} {P : Program} {w : World} {t : TypeId} {c : Value} (ht : P.underlying t = some .bool) (h : Rdy enc P w t [c]) : ∃ b, c = .bool b := by
  obtain ⟨n, hc⟩ := rd_bool ht h
  exact ⟨n, by simpa using hc⟩
theorem rd_string {H : Type} {enc : TypeId × Value → H} {P : Program} {w : World} {t : TypeId} {cs : List Value} (ht : P.underlying t = some .string) (h : Rdy enc P w t cs) : ∃ s : List UInt8, cs = [.string ⟨s.toArray⟩] ∧ s.length ≤ maxLen := by
  obtain ⟨fuel, y, h⟩ := h
  obtain ⟨q, hq, -, hl⟩ := DataW.trod_string ht h
  exact ⟨q.data.toList, hq.trans (by rw [Array.toArray_toList]), by rw [Array.length_toList]; exact hl⟩
theorem rd_string1 {H : Type} {enc : TypeId × Value → H} {P : Program} {w : World} {t : TypeId} {c : Value} (ht : P.underlying t = some .string) (h : Rdy enc P w t [c]) : ∃ s : List UInt8, c = .string ⟨s.toArray⟩ ∧ s.length ≤ maxLen := by
  obtain ⟨n, hc, hn⟩ := rd_string ht h
  exact ⟨n, by simpa using hc, hn⟩

def Mem_Ord (x : Go.Dsp.Ord) (h : Hp) : Prop := (Lit.int .i64 x.ID).wf = true ∧ (Lit.int .i64 x.Epoch).wf = true ∧ (Lit.int .i64 x.Cluster).wf = true ∧ (Lit.int .i64 x.Version).wf = true
theorem rd_Ord {H : Type} {enc : TypeId × Value → H} {w : World} {cs : List Value} (h : Rdy enc Try.prog w 30 cs) : ∃ x : Go.Dsp.Ord, cs = Go.Dsp.encOrd x ∧ Mem_Ord x (hp w) := by
  obtain ⟨hl, hf⟩ := rdy_struct Try.underlying30 h
  rw [show Program.cellsOf Try.prog 30 = 4 from by kernel_rfl] at hl
  obtain ⟨c0, c1, c2, c3, rfl⟩ : ∃ c0 c1 c2 c3, cs = [c0, c1, c2, c3] := by
    match cs, hl with
    | [c0, c1, c2, c3], _ => exact ⟨_, _, _, _, rfl⟩
  have z3 : Program.cellsOf Try.prog 3 = 1 := by kernel_rfl
  simp only [List.mem_cons, List.not_mem_nil, or_false, forall_eq_or_imp, forall_eq, z3] at hf
  obtain ⟨hf_0, hf_1, hf_2, hf_3⟩ := hf
  simp at hf_0 hf_1 hf_2 hf_3
  obtain ⟨x0, rfl, m0⟩ := rd_int1 Try.underlying3 hf_0
  obtain ⟨x1, rfl, m1⟩ := rd_int1 Try.underlying3 hf_1
  obtain ⟨x2, rfl, m2⟩ := rd_int1 Try.underlying3 hf_2
  obtain ⟨x3, rfl, m3⟩ := rd_int1 Try.underlying3 hf_3
  exact ⟨⟨x0, x1, x2, x3⟩, rfl, ⟨m0, m1, m2, m3⟩⟩
def MemL_40 (x : SL Go.Dsp.Ord) (h : Hp) : Prop := x.ro Go.Dsp.encOrd 4 h ∧ x.xs.length ≤ maxLen ∧ ∀ y ∈ x.xs, Mem_Ord y h
theorem rdl_40 {H : Type} {enc : TypeId × Value → H} {w : World} {cs : List Value} (h : Rdy enc Try.prog w 40 cs) : ∃ x : SL Go.Dsp.Ord, cs = encSL x ∧ MemL_40 x (hp w) := by
  obtain ⟨a, cap, xs, rfl, hr, hq⟩ := rdy_slice (en := Go.Dsp.encOrd) (Q := fun y => Mem_Ord y (hp w)) (sz := 4) Try.underlying40 (by kernel_rfl) (fun _ => rfl) (fun cs h => rd_Ord h) h
  exact ⟨⟨a, xs, cap⟩, rfl, hr, Nat.le_trans hr.2.1 hr.2.2.1, hq⟩
theorem rdl1_40 {H : Type} {enc : TypeId × Value → H} {w : World} {c : Value} (h : Rdy enc Try.prog w 40 [c]) : ∃ x : SL Go.Dsp.Ord, c = x.v ∧ MemL_40 x (hp w) := by
  obtain ⟨x, hx, hm⟩ := rdl_40 h
  exact ⟨x, by simpa [encSL] using hx, hm⟩
def Mem_Rep_ (x : Go.Dsp.Rep_) (h : Hp) : Prop := (Lit.int .i64 x.Cluster).wf = true ∧ (Lit.int .i64 x.Done).wf = true ∧ (Lit.int .i64 x.At).wf = true ∧ (Lit.int .i64 x.Version).wf = true ∧ (Lit.int .i64 x.Number).wf = true
theorem rd_Rep_ {H : Type} {enc : TypeId × Value → H} {w : World} {cs : List Value} (h : Rdy enc Try.prog w 34 cs) : ∃ x : Go.Dsp.Rep_, cs = Go.Dsp.encRep_ x ∧ Mem_Rep_ x (hp w) := by
  obtain ⟨hl, hf⟩ := rdy_struct Try.underlying34 h
  rw [show Program.cellsOf Try.prog 34 = 6 from by kernel_rfl] at hl
  obtain ⟨c0, c1, c2, c3, c4, c5, rfl⟩ : ∃ c0 c1 c2 c3 c4 c5, cs = [c0, c1, c2, c3, c4, c5] := by
    match cs, hl with
    | [c0, c1, c2, c3, c4, c5], _ => exact ⟨_, _, _, _, _, _, rfl⟩
  have z3 : Program.cellsOf Try.prog 3 = 1 := by kernel_rfl
  have z4 : Program.cellsOf Try.prog 4 = 1 := by kernel_rfl
  simp only [List.mem_cons, List.not_mem_nil, or_false, forall_eq_or_imp, forall_eq, z3, z4] at hf
  obtain ⟨hf_0, hf_1, hf_2, hf_3, hf_4, hf_5⟩ := hf
  simp at hf_0 hf_1 hf_2 hf_3 hf_4 hf_5
  obtain ⟨x0, rfl, m0⟩ := rd_int1 Try.underlying3 hf_0
  obtain ⟨x1, rfl, m1⟩ := rd_int1 Try.underlying3 hf_1
  obtain ⟨x2, rfl, m2⟩ := rd_int1 Try.underlying3 hf_2
  obtain ⟨x3, rfl, m3⟩ := rd_int1 Try.underlying3 hf_3
  obtain ⟨x4, rfl, m4⟩ := rd_int1 Try.underlying3 hf_4
  obtain ⟨x5, rfl⟩ := rd_bool1 Try.underlying4 hf_5
  exact ⟨⟨x0, x1, x2, x3, x4, x5⟩, rfl, ⟨m0, m1, m2, m3, m4⟩⟩
def MemL_49 (x : SL Go.Dsp.Rep_) (h : Hp) : Prop := x.ro Go.Dsp.encRep_ 6 h ∧ x.xs.length ≤ maxLen ∧ ∀ y ∈ x.xs, Mem_Rep_ y h
theorem rdl_49 {H : Type} {enc : TypeId × Value → H} {w : World} {cs : List Value} (h : Rdy enc Try.prog w 49 cs) : ∃ x : SL Go.Dsp.Rep_, cs = encSL x ∧ MemL_49 x (hp w) := by
  obtain ⟨a, cap, xs, rfl, hr, hq⟩ := rdy_slice (en := Go.Dsp.encRep_) (Q := fun y => Mem_Rep_ y (hp w)) (sz := 6) Try.underlying49 (by kernel_rfl) (fun _ => rfl) (fun cs h => rd_Rep_ h) h
  exact ⟨⟨a, xs, cap⟩, rfl, hr, Nat.le_trans hr.2.1 hr.2.2.1, hq⟩
theorem rdl1_49 {H : Type} {enc : TypeId × Value → H} {w : World} {c : Value} (h : Rdy enc Try.prog w 49 [c]) : ∃ x : SL Go.Dsp.Rep_, c = x.v ∧ MemL_49 x (hp w) := by
  obtain ⟨x, hx, hm⟩ := rdl_49 h
  exact ⟨x, by simpa [encSL] using hx, hm⟩
def Mem_Act1 (x : Go.Dsp.Act1) (h : Hp) : Prop := (Lit.int .i64 x.Kind).wf = true ∧ MemL_40 x.Os h ∧ MemL_49 x.Rs h
theorem rd_Act1 {H : Type} {enc : TypeId × Value → H} {w : World} {cs : List Value} (h : Rdy enc Try.prog w 51 cs) : ∃ x : Go.Dsp.Act1, cs = Go.Dsp.encAct1 x ∧ Mem_Act1 x (hp w) := by
  obtain ⟨hl, hf⟩ := rdy_struct Try.underlying51 h
  rw [show Program.cellsOf Try.prog 51 = 3 from by kernel_rfl] at hl
  obtain ⟨c0, c1, c2, rfl⟩ : ∃ c0 c1 c2, cs = [c0, c1, c2] := by
    match cs, hl with
    | [c0, c1, c2], _ => exact ⟨_, _, _, rfl⟩
  have z3 : Program.cellsOf Try.prog 3 = 1 := by kernel_rfl
  have z40 : Program.cellsOf Try.prog 40 = 1 := by kernel_rfl
  have z49 : Program.cellsOf Try.prog 49 = 1 := by kernel_rfl
  simp only [List.mem_cons, List.not_mem_nil, or_false, forall_eq_or_imp, forall_eq, z3, z40, z49] at hf
  obtain ⟨hf_0, hf_1, hf_2⟩ := hf
  simp at hf_0 hf_1 hf_2
  obtain ⟨x0, rfl, m0⟩ := rd_int1 Try.underlying3 hf_0
  obtain ⟨x1, rfl, m1⟩ := rdl1_40 hf_1
  obtain ⟨x2, rfl, m2⟩ := rdl1_49 hf_2
  exact ⟨⟨x0, x1, x2⟩, rfl, ⟨m0, m1, m2⟩⟩
def MemL_43 (x : SL Go.Dsp.Act1) (h : Hp) : Prop := x.ro Go.Dsp.encAct1 3 h ∧ x.xs.length ≤ maxLen ∧ ∀ y ∈ x.xs, Mem_Act1 y h
theorem rdl_43 {H : Type} {enc : TypeId × Value → H} {w : World} {cs : List Value} (h : Rdy enc Try.prog w 43 cs) : ∃ x : SL Go.Dsp.Act1, cs = encSL x ∧ MemL_43 x (hp w) := by
  obtain ⟨a, cap, xs, rfl, hr, hq⟩ := rdy_slice (en := Go.Dsp.encAct1) (Q := fun y => Mem_Act1 y (hp w)) (sz := 3) Try.underlying43 (by kernel_rfl) (fun _ => rfl) (fun cs h => rd_Act1 h) h
  exact ⟨⟨a, xs, cap⟩, rfl, hr, Nat.le_trans hr.2.1 hr.2.2.1, hq⟩
theorem rdl1_43 {H : Type} {enc : TypeId × Value → H} {w : World} {c : Value} (h : Rdy enc Try.prog w 43 [c]) : ∃ x : SL Go.Dsp.Act1, c = x.v ∧ MemL_43 x (hp w) := by
  obtain ⟨x, hx, hm⟩ := rdl_43 h
  exact ⟨x, by simpa [encSL] using hx, hm⟩

theorem memA {a : Go.Dsp.Act1} {h : Hp} (m : Mem_Act1 a h) : Go.Dsp.ActM a h :=
  ⟨m.2.1.1, m.2.2.1, fun o ho => wf_i64.1 (m.2.1.2.2 o ho).2.2.1, fun r hr => wf_i64.1 (m.2.2.2.2 r hr).1⟩

theorem lifted (os : Os) (started : os.Started) (H : Type) (enc : TypeId × Value → H) :
    ReturnsInHanded {} Try.checked os 4 .any (Rows.dispatchActsSpec.pre6 enc Try.prog Try.f4 Rows.dispatchActsRow.domain false) (Rows.dispatchActsSpec.post enc Try.prog Try.f4 false true false false) := by
  refine returnsInHanded_of_change (C := Try.checked) own started (by kernel_rfl) Try.func4
    (ChangeSpec.witness6 (enc := enc) (C := Try.checked) false ⟨#[], #[.int .i64 0, .slice none 0 0], []⟩ 8 (by kernel_rfl) (by kernel_rfl) (by kernel_rfl) (by kernel_rfl)) ?_
  intro W base args ds gs before hval0 hW hcnd _
  have hval : ∀ (j : Nat) t v, Try.f4.params[j]? = some t → args[j]? = some v → Value.okWide Try.prog W .any base t v := hval0
  have hW' := hW
  obtain ⟨p, q, hA0, hV, rfl, hfz, hnd⟩ := hW
  have hA : DataW.TrodAll enc Try.prog W 0 (fun _ => true) true Try.f4.params.toList args.toList ds p := hA0
  rw [Try.params4] at hA hval
  obtain ⟨v0, vs0, d0, ds0, p0, q0, hargs, rfl, rfl, h0, r0⟩ := trodAll_cons hA
  obtain ⟨v1, vs1, d1, ds1, p1, q1, rfl, rfl, rfl, h1, r1⟩ := trodAll_cons r0
  obtain ⟨rfl, rfl, rfl⟩ := trodAll_nil r1
  obtain rfl : args = #[v0, v1] := by cases args; simp_all
  obtain ⟨rfl, rfl⟩ := trodVars_none hV
  have k0 := h0
  have lt0 : ∀ x ∈ p0, x.block < W.heap.size := by obtain ⟨m, hm⟩ := k0; exact DataW.trod_lt m _ _ _ hm
  obtain ⟨a0, rfl, rfl, rfl, w0⟩ := open_int Try.underlying3 (hval 0 3 v0 rfl rfl) h0
  have k1 := h1
  have lt1 : ∀ x ∈ p1, x.block < W.heap.size := by obtain ⟨m, hm⟩ := k1; exact DataW.trod_lt m _ _ _ hm
  obtain ⟨a1, len1, cap1, rfl⟩ := okWide_slice Try.underlying43 (hval 1 43 v1 rfl rfl)
  obtain ⟨S1, e1, ro1⟩ := rdl1_43 (rdy_of h1)
  simp [SL.v] at e1
  obtain ⟨rfl, rfl, rfl⟩ := e1
  clear hA0 hval0
  refine (law_of_spec (lawish (Go.Dsp.J.acts_spec a0 S1.a S1.xs.length S1.cap S1.xs rfl (hp W) ro1.1 (fun a ha => memA (ro1.2.2 a ha))))).mono fun e W' ⟨he, bel⟩ => ?_
  subst he
  exact ⟨_, rfl, _, _, _, [], _, [], hW', trodAll_mk1 (shut_bool Try.underlying4 _), (trodAll_cons_mk (Below.trod laidOut (by kernel_rfl) (of_decide_eq_true (by kernel_rfl)) k0 bel lt0) (trodAll_cons_mk (Below.trod laidOut (by kernel_rfl) (of_decide_eq_true (by kernel_rfl)) k1 bel lt1) trodAll_mk0)), rfl, bel.frame _, fun h => by cases h⟩

theorem over : Rows.dispatchActsRow.holds Try.pinned (OpenSpec.ofChange Rows.dispatchActsSpec) :=
  OpenClaim.holds_of_wide 4 Try.f4 rfl rfl rfl rfl rfl rfl rfl ⟨rfl, rfl, rfl, rfl, rfl⟩ rfl rfl rfl rfl rfl (by kernel_rfl) Try.func4 (by kernel_rfl)
    (of_decide_eq_true (by kernel_rfl)) (by unfold Func.isWrapper; first | (rw [if_pos (by decide +kernel)]; kernel_rfl) | (rw [if_neg (by decide +kernel)]; exact ⟨rfl, rfl⟩))
    (fun os started H enc _ => lifted os started H enc)

theorem proved : Rows.DispatchActsSaid := over
#print axioms proved
end Go.Proofs.Yteajafkmnhikoaa.dispatchActs

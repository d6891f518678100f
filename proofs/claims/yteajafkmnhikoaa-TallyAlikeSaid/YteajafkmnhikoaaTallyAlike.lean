/-
  The law 'TallyAlike': her frame about her walk: the given statement 'Rows.TallyAlikeSaid'.
-/
import Derived.Test.YteajafkmnhikoaaRows
import Derived.Test.YteajafkmnhikoaaSlL
import Derived.Test.YteajafkmnhikoaaTlyH
import Derived.WalkKit
import Derived.ProofKit
import Derived.OpenShut
import Derived.ShutString
import Derived.ChangeOld
import Derived.Below
set_option maxRecDepth 100000
set_option linter.unusedVariables false
set_option linter.unusedSimpArgs false
namespace Go.Proofs.Yteajafkmnhikoaa.tallyAlike
open Go.ChangeShapes Go.WideShapes Go.ChangeAt Go.RowKit
open Go.ChangeMaps (open_string shut_string)
open Go.SL 

theorem own : ownKnob Try.prog.godebug = none := by kernel_rfl
theorem laidOut : laidOutB Try.prog = true := by kernel_rfl
theorem rdy_struct {H : Type} {enc : TypeId × Value → H} {P : Program} {w : World} {t : TypeId} {fs : Array Field} {cs : List Value} (ht : P.underlying t = some (.struct fs)) (h : Rdy enc P w t cs) :
    cs.length = P.cellsOf t ∧ ∀ f ∈ fs.toList, Rdy enc P w f.type ((cs.drop f.offset).take (P.cellsOf f.type)) := by
  obtain ⟨fuel, x, h⟩ := h
  cases fuel with
  | zero => simp [DataW.trod] at h
  | succ n =>
    unfold DataW.trod at h
    rw [ht] at h
    by_cases hl : cs.length = P.cellsOf t
    · refine ⟨hl, fun f hf => ?_⟩
      simp only [hl, if_true, Option.map_eq_some_iff] at h
      obtain ⟨xs, hx, -⟩ := h
      obtain ⟨i, hi, rfl⟩ := List.getElem_of_mem hf
      have := mapM_some_get hx i _ (List.getElem?_eq_getElem hi)
      have hlen := mapM_some_length hx
      rw [List.getElem?_eq_getElem (by omega)] at this
      exact ⟨n, _, this⟩
    · simp [hl] at h

theorem rd_int {H : Type} {enc : TypeId × Value → H} {P : Program} {w : World} {t : TypeId} {k : IntKind} {cs : List Value} (ht : P.underlying t = some (.int k)) (h : Rdy enc P w t cs) : ∃ n, cs = [.int k n] ∧ (Lit.int k n).wf = true := rdy_int ht h
theorem rd_int1 {H : Type} {enc : TypeId × Value → H} {P : Program} {w : World} {t : TypeId} {k : IntKind} {c : Value} (ht : P.underlying t = some (.int k)) (h : Rdy enc P w t [c]) : ∃ n, c = .int k n ∧ (Lit.int k n).wf = true := by
  obtain ⟨n, hc, hw⟩ := rd_int ht h
  exact ⟨n, by simpa using hc, hw⟩
theorem rd_bool {H : Type} {enc : TypeId × Value → H} {P : Program} {w : World} {t : TypeId} {cs : List Value} (ht : P.underlying t = some .bool) (h : Rdy enc P w t cs) : ∃ b, cs = [.bool b] := by
  obtain ⟨fuel, y, h⟩ := h
  obtain ⟨b, hb, -⟩ := DataW.trod_bool ht h
  exact ⟨b, hb⟩
theorem rd_bool1 {H : Type} {enc : TypeId × Value → H} {P : Program} {w : World} {t : TypeId} {c : Value} (ht : P.underlying t = some .bool) (h : Rdy enc P w t [c]) : ∃ b, c = .bool b := by
  obtain ⟨n, hc⟩ := rd_bool ht h
  exact ⟨n, by simpa using hc⟩
theorem rd_string {H : Type} {enc : TypeId × Value → H} {P : Program} {w : World} {t : TypeId} {cs : List Value} (ht : P.underlying t = some .string) (h : Rdy enc P w t cs) : ∃ s : List UInt8, cs = [.string ⟨s.toArray⟩] ∧ s.length ≤ maxLen := by
  obtain ⟨fuel, y, h⟩ := h
  obtain ⟨q, hq, -, hl⟩ := DataW.trod_string ht h
  exact ⟨q.data.toList, hq.trans (by rw [Array.toArray_toList]), by rw [Array.length_toList]; exact hl⟩
theorem rd_string1 {H : Type} {enc : TypeId × Value → H} {P : Program} {w : World} {t : TypeId} {c : Value} (ht : P.underlying t = some .string) (h : Rdy enc P w t [c]) : ∃ s : List UInt8, c = .string ⟨s.toArray⟩ ∧ s.length ≤ maxLen := by
  obtain ⟨n, hc, hn⟩ := rd_string ht h
  exact ⟨n, by simpa using hc, hn⟩

def MemL_22 (x : SL Int) (h : Hp) : Prop := x.ro Go.SL.encI 1 h ∧ x.xs.length ≤ maxLen ∧ ∀ y ∈ x.xs, (Lit.int .i64 y).wf = true
theorem rdl_22 {H : Type} {enc : TypeId × Value → H} {w : World} {cs : List Value} (h : Rdy enc Try.prog w 22 cs) : ∃ x : SL Int, cs = encSL x ∧ MemL_22 x (hp w) := by
  obtain ⟨a, cap, xs, rfl, hr, hq⟩ := rdy_slice (en := Go.SL.encI) (Q := fun y => (Lit.int .i64 y).wf = true) (sz := 1) Try.underlying22 (by kernel_rfl) (fun _ => rfl) (fun cs h => by obtain ⟨n, e, hw⟩ := rd_int Try.underlying3 h; exact ⟨n, e, hw⟩) h
  exact ⟨⟨a, xs, cap⟩, rfl, hr, Nat.le_trans hr.2.1 hr.2.2.1, hq⟩
theorem rdl1_22 {H : Type} {enc : TypeId × Value → H} {w : World} {c : Value} (h : Rdy enc Try.prog w 22 [c]) : ∃ x : SL Int, c = x.v ∧ MemL_22 x (hp w) := by
  obtain ⟨x, hx, hm⟩ := rdl_22 h
  exact ⟨x, by simpa [encSL] using hx, hm⟩
def Mem_Conf (x : Go.Tly.Conf) (h : Hp) : Prop := MemL_22 x.Voters h ∧ MemL_22 x.Learners h
theorem rd_Conf {H : Type} {enc : TypeId × Value → H} {w : World} {cs : List Value} (h : Rdy enc Try.prog w 60 cs) : ∃ x : Go.Tly.Conf, cs = Go.Tly.encConf x ∧ Mem_Conf x (hp w) := by
  obtain ⟨hl, hf⟩ := rdy_struct Try.underlying60 h
  rw [show Program.cellsOf Try.prog 60 = 2 from by kernel_rfl] at hl
  obtain ⟨c0, c1, rfl⟩ : ∃ c0 c1, cs = [c0, c1] := by
    match cs, hl with
    | [c0, c1], _ => exact ⟨_, _, rfl⟩
  have z22 : Program.cellsOf Try.prog 22 = 1 := by kernel_rfl
  simp only [List.mem_cons, List.not_mem_nil, or_false, forall_eq_or_imp, forall_eq, z22] at hf
  obtain ⟨hf_0, hf_1⟩ := hf
  simp at hf_0 hf_1
  obtain ⟨x0, rfl, m0⟩ := rdl1_22 hf_0
  obtain ⟨x1, rfl, m1⟩ := rdl1_22 hf_1
  exact ⟨⟨x0, x1⟩, rfl, ⟨m0, m1⟩⟩
def Mem_Mtch (x : Go.Tly.Mtch) (h : Hp) : Prop := True
theorem rd_Mtch {H : Type} {enc : TypeId × Value → H} {w : World} {cs : List Value} (h : Rdy enc Try.prog w 67 cs) : ∃ x : Go.Tly.Mtch, cs = Go.Tly.encMtch x ∧ Mem_Mtch x (hp w) := by
  obtain ⟨hl, hf⟩ := rdy_struct Try.underlying67 h
  rw [show Program.cellsOf Try.prog 67 = 2 from by kernel_rfl] at hl
  obtain ⟨c0, c1, rfl⟩ : ∃ c0 c1, cs = [c0, c1] := by
    match cs, hl with
    | [c0, c1], _ => exact ⟨_, _, rfl⟩
  have z3 : Program.cellsOf Try.prog 3 = 1 := by kernel_rfl
  simp only [List.mem_cons, List.not_mem_nil, or_false, forall_eq_or_imp, forall_eq, z3] at hf
  obtain ⟨hf_0, hf_1⟩ := hf
  simp at hf_0 hf_1
  obtain ⟨x0, rfl, m0⟩ := rd_int1 Try.underlying3 hf_0
  obtain ⟨x1, rfl, m1⟩ := rd_int1 Try.underlying3 hf_1
  exact ⟨⟨x0, x1⟩, rfl, trivial⟩
def MemL_61 (x : SL Go.Tly.Mtch) (h : Hp) : Prop := x.ro Go.Tly.encMtch 2 h ∧ x.xs.length ≤ maxLen ∧ ∀ y ∈ x.xs, Mem_Mtch y h
theorem rdl_61 {H : Type} {enc : TypeId × Value → H} {w : World} {cs : List Value} (h : Rdy enc Try.prog w 61 cs) : ∃ x : SL Go.Tly.Mtch, cs = encSL x ∧ MemL_61 x (hp w) := by
  obtain ⟨a, cap, xs, rfl, hr, hq⟩ := rdy_slice (en := Go.Tly.encMtch) (Q := fun y => Mem_Mtch y (hp w)) (sz := 2) Try.underlying61 (by kernel_rfl) (fun _ => rfl) (fun cs h => rd_Mtch h) h
  exact ⟨⟨a, xs, cap⟩, rfl, hr, Nat.le_trans hr.2.1 hr.2.2.1, hq⟩
theorem rdl1_61 {H : Type} {enc : TypeId × Value → H} {w : World} {c : Value} (h : Rdy enc Try.prog w 61 [c]) : ∃ x : SL Go.Tly.Mtch, c = x.v ∧ MemL_61 x (hp w) := by
  obtain ⟨x, hx, hm⟩ := rdl_61 h
  exact ⟨x, by simpa [encSL] using hx, hm⟩

theorem lifted (os : Os) (started : os.Started) (H : Type) (enc : TypeId × Value → H) :
    ReturnsInHanded {} Try.checked os 9 .any (Rows.tallyAlikeSpec.pre6 enc Try.prog Try.f9 Rows.tallyAlikeRow.domain false) (Rows.tallyAlikeSpec.post enc Try.prog Try.f9 false true false false) := by
  refine returnsInHanded_of_change (C := Try.checked) own started (by kernel_rfl) Try.func9
    (ChangeSpec.witness6 (enc := enc) (C := Try.checked) false ⟨#[], #[.agg #[.slice none 0 0, .slice none 0 0], .slice none 0 0, .int .i64 0], []⟩ 8 (by kernel_rfl) (by kernel_rfl) (by kernel_rfl) (by kernel_rfl)) ?_
  intro W base args ds gs before hval0 hW hcnd _
  have hval : ∀ (j : Nat) t v, Try.f9.params[j]? = some t → args[j]? = some v → Value.okWide Try.prog W .any base t v := hval0
  have hW' := hW
  obtain ⟨p, q, hA0, hV, rfl, hfz, hnd⟩ := hW
  have hA : DataW.TrodAll enc Try.prog W 0 (fun _ => true) true Try.f9.params.toList args.toList ds p := hA0
  rw [Try.params9] at hA hval
  obtain ⟨v0, vs0, d0, ds0, p0, q0, hargs, rfl, rfl, h0, r0⟩ := trodAll_cons hA
  obtain ⟨v1, vs1, d1, ds1, p1, q1, rfl, rfl, rfl, h1, r1⟩ := trodAll_cons r0
  obtain ⟨v2, vs2, d2, ds2, p2, q2, rfl, rfl, rfl, h2, r2⟩ := trodAll_cons r1
  obtain ⟨rfl, rfl, rfl⟩ := trodAll_nil r2
  obtain rfl : args = #[v0, v1, v2] := by cases args; simp_all
  obtain ⟨rfl, rfl⟩ := trodVars_none hV
  have k0 := h0
  have lt0 : ∀ x ∈ p0, x.block < W.heap.size := by obtain ⟨m, hm⟩ := k0; exact DataW.trod_lt m _ _ _ hm
  obtain ⟨cs0, rfl, sz0⟩ := okWide_struct Try.underlying60 (hval 0 60 v0 rfl rfl)
  obtain ⟨S0, e0, ro0⟩ := rd_Conf (rdy_of h0)
  obtain rfl : cs0 = (Go.Tly.encConf S0).toArray := by rw [← e0]; simp [Value.cells]
  have k1 := h1
  have lt1 : ∀ x ∈ p1, x.block < W.heap.size := by obtain ⟨m, hm⟩ := k1; exact DataW.trod_lt m _ _ _ hm
  obtain ⟨a1, len1, cap1, rfl⟩ := okWide_slice Try.underlying61 (hval 1 61 v1 rfl rfl)
  obtain ⟨S1, e1, ro1⟩ := rdl1_61 (rdy_of h1)
  simp [SL.v] at e1
  obtain ⟨rfl, rfl, rfl⟩ := e1
  have k2 := h2
  have lt2 : ∀ x ∈ p2, x.block < W.heap.size := by obtain ⟨m, hm⟩ := k2; exact DataW.trod_lt m _ _ _ hm
  obtain ⟨a2, rfl, rfl, rfl, w2⟩ := open_int Try.underlying3 (hval 2 3 v2 rfl rfl) h2
  clear hA0 hval0
  refine (law_of_spec (lawish (Go.Tly.H.alike_spec S0 S1.a S1.xs.length S1.cap S1.xs rfl a2 (hp W) ro0.1.1 ro1.1))).mono fun e W' ⟨he, bel⟩ => ?_
  subst he
  exact ⟨_, rfl, _, _, _, [], _, [], hW', trodAll_mk1 (shut_bool Try.underlying4 _), (trodAll_cons_mk (Below.trod laidOut (by kernel_rfl) (of_decide_eq_true (by kernel_rfl)) k0 bel lt0) (trodAll_cons_mk (Below.trod laidOut (by kernel_rfl) (of_decide_eq_true (by kernel_rfl)) k1 bel lt1) (trodAll_cons_mk (Below.trod laidOut (by kernel_rfl) (of_decide_eq_true (by kernel_rfl)) k2 bel lt2) trodAll_mk0))), rfl, bel.frame _, fun h => by cases h⟩

theorem over : Rows.tallyAlikeRow.holds Try.pinned (OpenSpec.ofChange Rows.tallyAlikeSpec) :=
  OpenClaim.holds_of_wide 9 Try.f9 rfl rfl rfl rfl rfl rfl rfl ⟨rfl, rfl, rfl, rfl, rfl⟩ rfl rfl rfl rfl rfl (by kernel_rfl) Try.func9 (by kernel_rfl)
    (of_decide_eq_true (by kernel_rfl)) (by unfold Func.isWrapper; first | (rw [if_pos (by decide +kernel)]; kernel_rfl) | (rw [if_neg (by decide +kernel)]; exact ⟨rfl, rfl⟩))
    (fun os started H enc _ => lifted os started H enc)

theorem proved : Rows.TallyAlikeSaid := over
#print axioms proved
end Go.Proofs.Yteajafkmnhikoaa.tallyAlike

/-
  The law 'AgentOnce': her frame about her walk: the given statement 'Rows.AgentOnceSaid'.
-/
import Derived.Test.YtehaoafnobnneaaGreatDoorRows
import Derived.Test.YtehaoafnobnneaaGreatDoorSlEa
import Derived.Test.YtehaoafnobnneaaGreatDoorAgnG
import Derived.WalkKit
import Derived.ProofKit
import Derived.OpenShut
import Derived.ShutString
import Derived.ChangeOld
import Derived.Below
import Derived.Test.YtehaoafnobnneaaGreatDoorTie
import Derived.Test.YtehaoafnobnneaaGreatDoorCards
import Derived.LaidMore
import Derived.Lay
import Derived.SevenTiedAt
import Derived.Stop.Joined
set_option maxRecDepth 100000
set_option linter.unusedVariables false
set_option linter.unusedSimpArgs false
namespace Go.Proofs.YtehaoafnobnneaaGreatDoor.agentOnce
open Go.ChangeShapes Go.WideShapes Go.ChangeAt Go.RowKit
open Go.ChangeMaps (open_string shut_string)
open Go.SL 

theorem own : ownKnob Tryz.prog.godebug = none := by kernel_rfl
theorem laidOut : laidOutB Tryz.prog = true := by kernel_rfl
theorem rdy_struct {H : Type} {enc : TypeId × Value → H} {P : Program} {w : World} {t : TypeId} {fs : Array Field} {cs : List Value} (ht : P.underlying t = some (.struct fs)) (h : Rdy enc P w t cs) :
    cs.length = P.cellsOf t ∧ ∀ f ∈ fs.toList, Rdy enc P w f.type ((cs.drop f.offset).take (P.cellsOf f.type)) := by
  obtain ⟨fuel, x, h⟩ := h
  cases fuel with
  | zero => simp [DataW.trod] at h
  | succ n =>
    unfold DataW.trod at h
    rw [ht] at h
    by_cases hl : cs.length = P.cellsOf t
    · refine ⟨hl, fun f hf => ?_⟩
      simp only [hl, if_true, Option.map_eq_some_iff] at h
      obtain ⟨xs, hx, -⟩ := h
      obtain ⟨i, hi, rfl⟩ := List.getElem_of_mem hf
      have := mapM_some_get hx i _ (List.getElem?_eq_getElem hi)
      have hlen := mapM_some_length hx
      rw [List.getElem?_eq_getElem (by omega)] at this
      exact ⟨n, _, this⟩
    · simp [hl] at h

theorem rd_int {H : Type} {enc : TypeId × Value → H} {P : Program} {w : World} {t : TypeId} {k : IntKind} {cs : List Value} (ht : P.underlying t = some (.int k)) (h : Rdy enc P w t cs) : ∃ n, cs = [.int k n] ∧ (Lit.int k n).wf = true := rdy_int ht h
theorem rd_int1 {H : Type} {enc : TypeId × Value → H} {P : Program} {w : World} {t : TypeId} {k : IntKind} {c : Value} (ht : P.underlying t = some (.int k)) (h : Rdy enc P w t [c]) : ∃ n, c = .int k n ∧ (Lit.int k n).wf = true := by
  obtain ⟨n, hc, hw⟩ := rd_int ht h
  exact ⟨n, by simpa using hc, hw⟩
theorem rd_bool {H : Type} {enc : TypeId × Value → H} {P : Program} {w : World} {t : TypeId} {cs : List Value} (ht : P.underlying t = some .bool) (h : Rdy enc P w t cs) : ∃ b, cs = [.bool b] := by
  obtain ⟨fuel, y, h⟩ := h
  obtain ⟨b, hb, -⟩ := DataW.trod_bool ht h
  exact ⟨b, hb⟩
theorem rd_bool1 {H : Type} {enc : TypeId × Value → H} {P : Program} {w : World} {t : TypeId} {c : Value} (ht : P.underlying t = some .bool) (h : Rdy enc P w t [c]) : ∃ b, c = .bool b := by
  obtain ⟨n, hc⟩ := rd_bool ht h
  exact ⟨n, by simpa using hc⟩
theorem rd_string {H : Type} {enc : TypeId × Value → H} {P : Program} {w : World} {t : TypeId} {cs : List Value} (ht : P.underlying t = some .string) (h : Rdy enc P w t cs) : ∃ s : List UInt8, cs = [.string ⟨s.toArray⟩] ∧ s.length ≤ maxLen := by
  obtain ⟨fuel, y, h⟩ := h
  obtain ⟨q, hq, -, hl⟩ := DataW.trod_string ht h
  exact ⟨q.data.toList, hq.trans (by rw [Array.toArray_toList]), by rw [Array.length_toList]; exact hl⟩
theorem rd_string1 {H : Type} {enc : TypeId × Value → H} {P : Program} {w : World} {t : TypeId} {c : Value} (ht : P.underlying t = some .string) (h : Rdy enc P w t [c]) : ∃ s : List UInt8, c = .string ⟨s.toArray⟩ ∧ s.length ≤ maxLen := by
  obtain ⟨n, hc, hn⟩ := rd_string ht h
  exact ⟨n, by simpa using hc, hn⟩

def Mem_Order1 (x : Go.Agn.Order1) (h : Hp) : Prop := (Lit.int .i64 x.ID).wf = true ∧ (Lit.int .i64 x.Epoch).wf = true ∧ (Lit.int .i64 x.Cluster).wf = true ∧ (Lit.int .i64 x.Version).wf = true
theorem rd_Order1 {H : Type} {enc : TypeId × Value → H} {w : World} {cs : List Value} (h : Rdy enc Tryz.prog w 69 cs) : ∃ x : Go.Agn.Order1, cs = Go.Agn.encOrder1 x ∧ Mem_Order1 x (hp w) := by
  obtain ⟨hl, hf⟩ := rdy_struct Tryz.underlying69 h
  rw [show Program.cellsOf Tryz.prog 69 = 4 from by kernel_rfl] at hl
  obtain ⟨c0, c1, c2, c3, rfl⟩ : ∃ c0 c1 c2 c3, cs = [c0, c1, c2, c3] := by
    match cs, hl with
    | [c0, c1, c2, c3], _ => exact ⟨_, _, _, _, rfl⟩
  have z3 : Program.cellsOf Tryz.prog 3 = 1 := by kernel_rfl
  simp only [List.mem_cons, List.not_mem_nil, or_false, forall_eq_or_imp, forall_eq, z3] at hf
  obtain ⟨hf_0, hf_1, hf_2, hf_3⟩ := hf
  simp at hf_0 hf_1 hf_2 hf_3
  obtain ⟨x0, rfl, m0⟩ := rd_int1 Tryz.underlying3 hf_0
  obtain ⟨x1, rfl, m1⟩ := rd_int1 Tryz.underlying3 hf_1
  obtain ⟨x2, rfl, m2⟩ := rd_int1 Tryz.underlying3 hf_2
  obtain ⟨x3, rfl, m3⟩ := rd_int1 Tryz.underlying3 hf_3
  exact ⟨⟨x0, x1, x2, x3⟩, rfl, ⟨m0, m1, m2, m3⟩⟩
def MemL_72 (x : SL Go.Agn.Order1) (h : Hp) : Prop := x.ro Go.Agn.encOrder1 4 h ∧ x.xs.length ≤ maxLen ∧ ∀ y ∈ x.xs, Mem_Order1 y h
theorem rdl_72 {H : Type} {enc : TypeId × Value → H} {w : World} {cs : List Value} (h : Rdy enc Tryz.prog w 72 cs) : ∃ x : SL Go.Agn.Order1, cs = Go.SL.encSL x ∧ MemL_72 x (hp w) := by
  obtain ⟨a, cap, xs, rfl, hr, hq⟩ := rdy_slice (en := Go.Agn.encOrder1) (Q := fun y => Mem_Order1 y (hp w)) (sz := 4) Tryz.underlying72 (by kernel_rfl) (fun _ => rfl) (fun cs h => rd_Order1 h) h
  exact ⟨⟨a, xs, cap⟩, rfl, hr, Nat.le_trans hr.2.1 hr.2.2.1, hq⟩
theorem rdl1_72 {H : Type} {enc : TypeId × Value → H} {w : World} {c : Value} (h : Rdy enc Tryz.prog w 72 [c]) : ∃ x : SL Go.Agn.Order1, c = x.v ∧ MemL_72 x (hp w) := by
  obtain ⟨x, hx, hm⟩ := rdl_72 h
  exact ⟨x, by simpa [Go.SL.encSL] using hx, hm⟩
def MemL_37 (x : SL Int) (h : Hp) : Prop := x.ro Go.SL.encI 1 h ∧ x.xs.length ≤ maxLen ∧ ∀ y ∈ x.xs, (Lit.int .i64 y).wf = true
theorem rdl_37 {H : Type} {enc : TypeId × Value → H} {w : World} {cs : List Value} (h : Rdy enc Tryz.prog w 37 cs) : ∃ x : SL Int, cs = Go.SL.encSL x ∧ MemL_37 x (hp w) := by
  obtain ⟨a, cap, xs, rfl, hr, hq⟩ := rdy_slice (en := Go.SL.encI) (Q := fun y => (Lit.int .i64 y).wf = true) (sz := 1) Tryz.underlying37 (by kernel_rfl) (fun _ => rfl) (fun cs h => by obtain ⟨n, e, hw⟩ := rd_int Tryz.underlying3 h; exact ⟨n, e, hw⟩) h
  exact ⟨⟨a, xs, cap⟩, rfl, hr, Nat.le_trans hr.2.1 hr.2.2.1, hq⟩
theorem rdl1_37 {H : Type} {enc : TypeId × Value → H} {w : World} {c : Value} (h : Rdy enc Tryz.prog w 37 [c]) : ∃ x : SL Int, c = x.v ∧ MemL_37 x (hp w) := by
  obtain ⟨x, hx, hm⟩ := rdl_37 h
  exact ⟨x, by simpa [Go.SL.encSL] using hx, hm⟩
def MemL_38 (x : SL UInt8) (h : Hp) : Prop := x.ro Go.SL.encB 1 h ∧ x.xs.length ≤ maxLen ∧ ∀ y ∈ x.xs, True
theorem rdl_38 {H : Type} {enc : TypeId × Value → H} {w : World} {cs : List Value} (h : Rdy enc Tryz.prog w 38 cs) : ∃ x : SL UInt8, cs = Go.SL.encSL x ∧ MemL_38 x (hp w) := by
  obtain ⟨a, cap, xs, rfl, hr, hq⟩ := rdy_slice (en := Go.SL.encB) (Q := fun y => True) (sz := 1) Tryz.underlying38 (by kernel_rfl) (fun _ => rfl) (fun cs h => rdy_byte Tryz.underlying5 h) h
  exact ⟨⟨a, xs, cap⟩, rfl, hr, Nat.le_trans hr.2.1 hr.2.2.1, hq⟩
theorem rdl1_38 {H : Type} {enc : TypeId × Value → H} {w : World} {c : Value} (h : Rdy enc Tryz.prog w 38 [c]) : ∃ x : SL UInt8, c = x.v ∧ MemL_38 x (hp w) := by
  obtain ⟨x, hx, hm⟩ := rdl_38 h
  exact ⟨x, by simpa [Go.SL.encSL] using hx, hm⟩
def Mem_AAct (x : Go.Agn.AAct) (h : Hp) : Prop := (Lit.int .i64 x.Kind).wf = true ∧ (Lit.int .i64 x.N).wf = true ∧ MemL_72 x.Os h ∧ MemL_37 x.Keep h ∧ MemL_38 x.B h
theorem rd_AAct {H : Type} {enc : TypeId × Value → H} {w : World} {cs : List Value} (h : Rdy enc Tryz.prog w 74 cs) : ∃ x : Go.Agn.AAct, cs = Go.Agn.encAAct x ∧ Mem_AAct x (hp w) := by
  obtain ⟨hl, hf⟩ := rdy_struct Tryz.underlying74 h
  rw [show Program.cellsOf Tryz.prog 74 = 5 from by kernel_rfl] at hl
  obtain ⟨c0, c1, c2, c3, c4, rfl⟩ : ∃ c0 c1 c2 c3 c4, cs = [c0, c1, c2, c3, c4] := by
    match cs, hl with
    | [c0, c1, c2, c3, c4], _ => exact ⟨_, _, _, _, _, rfl⟩
  have z3 : Program.cellsOf Tryz.prog 3 = 1 := by kernel_rfl
  have z72 : Program.cellsOf Tryz.prog 72 = 1 := by kernel_rfl
  have z37 : Program.cellsOf Tryz.prog 37 = 1 := by kernel_rfl
  have z38 : Program.cellsOf Tryz.prog 38 = 1 := by kernel_rfl
  simp only [List.mem_cons, List.not_mem_nil, or_false, forall_eq_or_imp, forall_eq, z3, z37, z38, z72] at hf
  obtain ⟨hf_0, hf_1, hf_2, hf_3, hf_4⟩ := hf
  simp at hf_0 hf_1 hf_2 hf_3 hf_4
  obtain ⟨x0, rfl, m0⟩ := rd_int1 Tryz.underlying3 hf_0
  obtain ⟨x1, rfl, m1⟩ := rd_int1 Tryz.underlying3 hf_1
  obtain ⟨x2, rfl, m2⟩ := rdl1_72 hf_2
  obtain ⟨x3, rfl, m3⟩ := rdl1_37 hf_3
  obtain ⟨x4, rfl, m4⟩ := rdl1_38 hf_4
  exact ⟨⟨x0, x1, x2, x3, x4⟩, rfl, ⟨m0, m1, m2, m3, m4⟩⟩
def MemL_71 (x : SL Go.Agn.AAct) (h : Hp) : Prop := x.ro Go.Agn.encAAct 5 h ∧ x.xs.length ≤ maxLen ∧ ∀ y ∈ x.xs, Mem_AAct y h
theorem rdl_71 {H : Type} {enc : TypeId × Value → H} {w : World} {cs : List Value} (h : Rdy enc Tryz.prog w 71 cs) : ∃ x : SL Go.Agn.AAct, cs = Go.SL.encSL x ∧ MemL_71 x (hp w) := by
  obtain ⟨a, cap, xs, rfl, hr, hq⟩ := rdy_slice (en := Go.Agn.encAAct) (Q := fun y => Mem_AAct y (hp w)) (sz := 5) Tryz.underlying71 (by kernel_rfl) (fun _ => rfl) (fun cs h => rd_AAct h) h
  exact ⟨⟨a, xs, cap⟩, rfl, hr, Nat.le_trans hr.2.1 hr.2.2.1, hq⟩
theorem rdl1_71 {H : Type} {enc : TypeId × Value → H} {w : World} {c : Value} (h : Rdy enc Tryz.prog w 71 [c]) : ∃ x : SL Go.Agn.AAct, c = x.v ∧ MemL_71 x (hp w) := by
  obtain ⟨x, hx, hm⟩ := rdl_71 h
  exact ⟨x, by simpa [Go.SL.encSL] using hx, hm⟩

theorem memA {a : Go.Agn.AAct} {h : Hp} (m : Mem_AAct a h) : Go.Agn.AActM a h ∧ a.N ≤ 9223372036854775807 := by
  obtain ⟨_, mN, mO, mK, mB⟩ := m
  exact ⟨⟨mO.1, mK.1⟩, (wf_i64.1 mN).2⟩

theorem lifted (os : Os) (started : os.Started) (H : Type) (enc : TypeId × Value → H) :
    ReturnsInHanded {} Tryz.checked os 8 .any (fun w args => (Rows.agentOnceSpec.pre enc Tryz.prog Tryz.f8 Rows.agentOnceRow.domain false w args ∧ laidMetH Tryz.prog Rows.agentOnceRow.laid w) ∧ sizedMet enc Tryz.prog Tryz.f8 (OpenSpec.ofChange Rows.agentOnceSpec) false w args) (Rows.agentOnceSpec.post enc Tryz.prog Tryz.f8 false true false false) := by
  refine returnsInHanded_of_change_and (C := Tryz.checked) (X := fun w _ => laidMetH Tryz.prog Rows.agentOnceRow.laid w) (fun _ _ _ hh h => h.of_heap hh) own started (by kernel_rfl) Tryz.func8
    (ChangeSpec.witness_shaped (enc := enc) (C := Tryz.checked) (os := os) (X := fun w _ => laidMetH Tryz.prog Rows.agentOnceRow.laid w) false (World.laidAll Tryz.prog os Rows.agentOnceRow.laid) #[.int .i64 0, .slice none 0 0] 8 (World.laidAll_os _ _ _)
      (World.shaped_of_ZipB (by kernel_rfl) (by kernel_rfl)) (by kernel_rfl) (by kernel_rfl) (by kernel_rfl)
      (by rw [MakeChecks.laidMetH_plain _ _ _ (by kernel_rfl)]; exact laidMet_laidAll _ (by kernel_rfl) (by kernel_rfl))) ?_
  intro W base args ds gs before hval0 hW hcnd _ _ _
  have hval : ∀ (j : Nat) t v, Tryz.f8.params[j]? = some t → args[j]? = some v → Value.okWide Tryz.prog W .any base t v := hval0
  have hW' := hW
  obtain ⟨p, q, hA0, hV, rfl, hfz, hnd⟩ := hW
  have hA : DataW.TrodAll enc Tryz.prog W 0 (fun _ => true) true Tryz.f8.params.toList args.toList ds p := hA0
  rw [Tryz.params8] at hA hval
  obtain ⟨v0, vs0, d0, ds0, p0, q0, hargs, rfl, rfl, h0, r0⟩ := trodAll_cons hA
  obtain ⟨v1, vs1, d1, ds1, p1, q1, rfl, rfl, rfl, h1, r1⟩ := trodAll_cons r0
  obtain ⟨rfl, rfl, rfl⟩ := trodAll_nil r1
  obtain rfl : args = #[v0, v1] := by cases args; simp_all
  obtain ⟨rfl, rfl⟩ := trodVars_none hV
  have k0 := h0
  have lt0 : ∀ x ∈ p0, x.block < W.heap.size := by obtain ⟨m, hm⟩ := k0; exact DataW.trod_lt m _ _ _ hm
  obtain ⟨a0, rfl, rfl, rfl, w0⟩ := open_int Tryz.underlying3 (hval 0 3 v0 rfl rfl) h0
  have k1 := h1
  have lt1 : ∀ x ∈ p1, x.block < W.heap.size := by obtain ⟨m, hm⟩ := k1; exact DataW.trod_lt m _ _ _ hm
  obtain ⟨a1, len1, cap1, rfl⟩ := okWide_slice Tryz.underlying71 (hval 1 71 v1 rfl rfl)
  obtain ⟨S1, e1, ro1⟩ := rdl1_71 (rdy_of h1)
  simp [SL.v] at e1
  obtain ⟨rfl, rfl, rfl⟩ := e1
  clear hA0 hval0
  refine (law_of_spec (lawish (Go.Agn.once_spec a0 S1.a S1.xs.length S1.cap S1.xs rfl (hp W) ro1.1 (fun a ha => memA (ro1.2.2 a ha))))).mono fun e W' ⟨he, bel⟩ => ?_
  subst he
  exact ⟨_, rfl, _, _, _, [], _, [], hW', trodAll_mk1 (shut_bool Tryz.underlying4 _), (trodAll_cons_mk (Below.trod laidOut (by kernel_rfl) (of_decide_eq_true (by kernel_rfl)) k0 bel lt0) (trodAll_cons_mk (Below.trod laidOut (by kernel_rfl) (of_decide_eq_true (by kernel_rfl)) k1 bel lt1) trodAll_mk0)), rfl, bel.frame _, fun h => by cases h⟩

theorem rowSaid : Rows.AgentOnceSaid :=
  OpenClaim.holds_of_wide 8 Tryz.f8 rfl rfl rfl rfl rfl rfl rfl ⟨rfl, rfl, rfl, rfl, rfl⟩ rfl rfl rfl rfl rfl (by kernel_rfl) Tryz.func8 (by kernel_rfl)
    (of_decide_eq_true (by kernel_rfl)) (by unfold Func.isWrapper; first | (rw [if_pos (by decide +kernel)]; kernel_rfl) | (rw [if_neg (by decide +kernel)]; exact ⟨rfl, rfl⟩))
    (fun os started H enc _ => lifted os started H enc)
theorem proved : Rows.AgentOnceCardSaid :=
  Claim7.holds_tied_plain_at .later [] [.data, .pinned] true (true, "6262c79ce0889cdc30e4493c78acdeda40261f0735a3fe3aca72da21bf5b1f12") false
    rowSaid (fun _ h => by cases h) (by kernel_rfl) (fun _ h => by cases h) agentOnce_row_tie rfl ⟨rfl, rfl⟩ (by kernel_rfl) rfl
    (fun f fn hf hfn => by
      obtain rfl : f = 8 := Option.some.inj ((show Tryz.prog.funcNamed "echelon/echelonlaw20.AgentOnce" = some 8 by kernel_rfl).symm.trans hf) |>.symm
      obtain rfl : fn = Tryz.f8 := (Option.some.inj (Tryz.func8.symm.trans hfn)).symm
      exact ⟨by kernel_rfl, fun j t ht => by
        rw [Tryz.params8] at ht
        have hm : t ∈ [3, 71] := by simpa using Array.mem_of_getElem? ht
        have hall : ([3, 71].all fun u => !Tryz.prog.wantsStandIn u) = true := by kernel_rfl
        exact (show Tryz.prog.wantsStandIn t = false by simpa using List.all_eq_true.1 hall t hm)⟩)
    (by kernel_rfl)
#print axioms proved
end Go.Proofs.YtehaoafnobnneaaGreatDoor.agentOnce

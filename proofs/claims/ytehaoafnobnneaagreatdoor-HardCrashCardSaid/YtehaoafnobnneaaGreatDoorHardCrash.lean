/-
  The law 'HardCrash': her frame about her walk: the given statement 'Rows.HardCrashSaid'.
-/
import Derived.Test.YtehaoafnobnneaaGreatDoorRows
import Derived.Test.YtehaoafnobnneaaGreatDoorSlL
import Derived.Test.YtehaoafnobnneaaGreatDoorHrdE
import Derived.WalkKit
import Derived.ProofKit
import Derived.OpenShut
import Derived.ShutString
import Derived.ChangeOld
import Derived.Below
import Derived.Test.YtehaoafnobnneaaGreatDoorTie
import Derived.Test.YtehaoafnobnneaaGreatDoorCards
import Derived.LaidMore
import Derived.Lay
import Derived.SevenTiedAt
import Derived.Stop.Joined
set_option maxRecDepth 100000
set_option linter.unusedVariables false
set_option linter.unusedSimpArgs false
namespace Go.Proofs.YtehaoafnobnneaaGreatDoor.hardCrash
open Go.ChangeShapes Go.WideShapes Go.ChangeAt Go.RowKit
open Go.ChangeMaps (open_string shut_string)
open Go.SL 

theorem own : ownKnob Tryz.prog.godebug = none := by kernel_rfl
theorem laidOut : laidOutB Tryz.prog = true := by kernel_rfl
theorem rdy_struct {H : Type} {enc : TypeId × Value → H} {P : Program} {w : World} {t : TypeId} {fs : Array Field} {cs : List Value} (ht : P.underlying t = some (.struct fs)) (h : Rdy enc P w t cs) :
    cs.length = P.cellsOf t ∧ ∀ f ∈ fs.toList, Rdy enc P w f.type ((cs.drop f.offset).take (P.cellsOf f.type)) := by
  obtain ⟨fuel, x, h⟩ := h
  cases fuel with
  | zero => simp [DataW.trod] at h
  | succ n =>
    unfold DataW.trod at h
    rw [ht] at h
    by_cases hl : cs.length = P.cellsOf t
    · refine ⟨hl, fun f hf => ?_⟩
      simp only [hl, if_true, Option.map_eq_some_iff] at h
      obtain ⟨xs, hx, -⟩ := h
      obtain ⟨i, hi, rfl⟩ := List.getElem_of_mem hf
      have := mapM_some_get hx i _ (List.getElem?_eq_getElem hi)
      have hlen := mapM_some_length hx
      rw [List.getElem?_eq_getElem (by omega)] at this
      exact ⟨n, _, this⟩
    · simp [hl] at h

theorem rd_int {H : Type} {enc : TypeId × Value → H} {P : Program} {w : World} {t : TypeId} {k : IntKind} {cs : List Value} (ht : P.underlying t = some (.int k)) (h : Rdy enc P w t cs) : ∃ n, cs = [.int k n] ∧ (Lit.int k n).wf = true := rdy_int ht h
theorem rd_int1 {H : Type} {enc : TypeId × Value → H} {P : Program} {w : World} {t : TypeId} {k : IntKind} {c : Value} (ht : P.underlying t = some (.int k)) (h : Rdy enc P w t [c]) : ∃ n, c = .int k n ∧ (Lit.int k n).wf = true := by
  obtain ⟨n, hc, hw⟩ := rd_int ht h
  exact ⟨n, by simpa using hc, hw⟩
theorem rd_bool {H : Type} {enc : TypeId × Value → H} {P : Program} {w : World} {t : TypeId} {cs : List Value} (ht : P.underlying t = some .bool) (h : Rdy enc P w t cs) : ∃ b, cs = [.bool b] := by
  obtain ⟨fuel, y, h⟩ := h
  obtain ⟨b, hb, -⟩ := DataW.trod_bool ht h
  exact ⟨b, hb⟩
theorem rd_bool1 {H : Type} {enc : TypeId × Value → H} {P : Program} {w : World} {t : TypeId} {c : Value} (ht : P.underlying t = some .bool) (h : Rdy enc P w t [c]) : ∃ b, c = .bool b := by
  obtain ⟨n, hc⟩ := rd_bool ht h
  exact ⟨n, by simpa using hc⟩
theorem rd_string {H : Type} {enc : TypeId × Value → H} {P : Program} {w : World} {t : TypeId} {cs : List Value} (ht : P.underlying t = some .string) (h : Rdy enc P w t cs) : ∃ s : List UInt8, cs = [.string ⟨s.toArray⟩] ∧ s.length ≤ maxLen := by
  obtain ⟨fuel, y, h⟩ := h
  obtain ⟨q, hq, -, hl⟩ := DataW.trod_string ht h
  exact ⟨q.data.toList, hq.trans (by rw [Array.toArray_toList]), by rw [Array.length_toList]; exact hl⟩
theorem rd_string1 {H : Type} {enc : TypeId × Value → H} {P : Program} {w : World} {t : TypeId} {c : Value} (ht : P.underlying t = some .string) (h : Rdy enc P w t [c]) : ∃ s : List UInt8, c = .string ⟨s.toArray⟩ ∧ s.length ≤ maxLen := by
  obtain ⟨n, hc, hn⟩ := rd_string ht h
  exact ⟨n, by simpa using hc, hn⟩

def Mem_State1 (x : Go.Hrd.State1) (h : Hp) : Prop := (Lit.int .i64 x.Term).wf = true ∧ (Lit.int .i64 x.Vote).wf = true
theorem rd_State1 {H : Type} {enc : TypeId × Value → H} {w : World} {cs : List Value} (h : Rdy enc Tryz.prog w 23 cs) : ∃ x : Go.Hrd.State1, cs = Go.Hrd.encState1 x ∧ Mem_State1 x (hp w) := by
  obtain ⟨hl, hf⟩ := rdy_struct Tryz.underlying23 h
  rw [show Program.cellsOf Tryz.prog 23 = 2 from by kernel_rfl] at hl
  obtain ⟨c0, c1, rfl⟩ : ∃ c0 c1, cs = [c0, c1] := by
    match cs, hl with
    | [c0, c1], _ => exact ⟨_, _, rfl⟩
  have z3 : Program.cellsOf Tryz.prog 3 = 1 := by kernel_rfl
  simp only [List.mem_cons, List.not_mem_nil, or_false, forall_eq_or_imp, forall_eq, z3] at hf
  obtain ⟨hf_0, hf_1⟩ := hf
  simp at hf_0 hf_1
  obtain ⟨x0, rfl, m0⟩ := rd_int1 Tryz.underlying3 hf_0
  obtain ⟨x1, rfl, m1⟩ := rd_int1 Tryz.underlying3 hf_1
  exact ⟨⟨x0, x1⟩, rfl, ⟨m0, m1⟩⟩
def MemL_59 (x : SL Go.Hrd.State1) (h : Hp) : Prop := x.ro Go.Hrd.encState1 2 h ∧ x.xs.length ≤ maxLen ∧ ∀ y ∈ x.xs, Mem_State1 y h
theorem rdl_59 {H : Type} {enc : TypeId × Value → H} {w : World} {cs : List Value} (h : Rdy enc Tryz.prog w 59 cs) : ∃ x : SL Go.Hrd.State1, cs = Go.SL.encSL x ∧ MemL_59 x (hp w) := by
  obtain ⟨a, cap, xs, rfl, hr, hq⟩ := rdy_slice (en := Go.Hrd.encState1) (Q := fun y => Mem_State1 y (hp w)) (sz := 2) Tryz.underlying59 (by kernel_rfl) (fun _ => rfl) (fun cs h => rd_State1 h) h
  exact ⟨⟨a, xs, cap⟩, rfl, hr, Nat.le_trans hr.2.1 hr.2.2.1, hq⟩
theorem rdl1_59 {H : Type} {enc : TypeId × Value → H} {w : World} {c : Value} (h : Rdy enc Tryz.prog w 59 [c]) : ∃ x : SL Go.Hrd.State1, c = x.v ∧ MemL_59 x (hp w) := by
  obtain ⟨x, hx, hm⟩ := rdl_59 h
  exact ⟨x, by simpa [Go.SL.encSL] using hx, hm⟩
def MemL_37 (x : SL Int) (h : Hp) : Prop := x.ro Go.SL.encI 1 h ∧ x.xs.length ≤ maxLen ∧ ∀ y ∈ x.xs, (Lit.int .i64 y).wf = true
theorem rdl_37 {H : Type} {enc : TypeId × Value → H} {w : World} {cs : List Value} (h : Rdy enc Tryz.prog w 37 cs) : ∃ x : SL Int, cs = Go.SL.encSL x ∧ MemL_37 x (hp w) := by
  obtain ⟨a, cap, xs, rfl, hr, hq⟩ := rdy_slice (en := Go.SL.encI) (Q := fun y => (Lit.int .i64 y).wf = true) (sz := 1) Tryz.underlying37 (by kernel_rfl) (fun _ => rfl) (fun cs h => by obtain ⟨n, e, hw⟩ := rd_int Tryz.underlying3 h; exact ⟨n, e, hw⟩) h
  exact ⟨⟨a, xs, cap⟩, rfl, hr, Nat.le_trans hr.2.1 hr.2.2.1, hq⟩
theorem rdl1_37 {H : Type} {enc : TypeId × Value → H} {w : World} {c : Value} (h : Rdy enc Tryz.prog w 37 [c]) : ∃ x : SL Int, c = x.v ∧ MemL_37 x (hp w) := by
  obtain ⟨x, hx, hm⟩ := rdl_37 h
  exact ⟨x, by simpa [Go.SL.encSL] using hx, hm⟩

theorem lifted (os : Os) (started : os.Started) (H : Type) (enc : TypeId × Value → H) :
    ReturnsInHanded {} Tryz.checked os 5 .any (fun w args => (Rows.hardCrashSpec.pre enc Tryz.prog Tryz.f5 Rows.hardCrashRow.domain false w args ∧ laidMetH Tryz.prog Rows.hardCrashRow.laid w) ∧ sizedMet enc Tryz.prog Tryz.f5 (OpenSpec.ofChange Rows.hardCrashSpec) false w args) (Rows.hardCrashSpec.post enc Tryz.prog Tryz.f5 false true false false) := by
  refine returnsInHanded_of_change_and (C := Tryz.checked) (X := fun w _ => laidMetH Tryz.prog Rows.hardCrashRow.laid w) (fun _ _ _ hh h => h.of_heap hh) own started (by kernel_rfl) Tryz.func5
    (ChangeSpec.witness_shaped (enc := enc) (C := Tryz.checked) (os := os) (X := fun w _ => laidMetH Tryz.prog Rows.hardCrashRow.laid w) false (World.laidAll Tryz.prog os Rows.hardCrashRow.laid) #[.slice none 0 0, .slice none 0 0, .slice none 0 0] 8 (World.laidAll_os _ _ _)
      (World.shaped_of_ZipB (by kernel_rfl) (by kernel_rfl)) (by kernel_rfl) (by kernel_rfl) (by kernel_rfl)
      (by rw [MakeChecks.laidMetH_plain _ _ _ (by kernel_rfl)]; exact laidMet_laidAll _ (by kernel_rfl) (by kernel_rfl))) ?_
  intro W base args ds gs before hval0 hW hcnd _ _ _
  have hval : ∀ (j : Nat) t v, Tryz.f5.params[j]? = some t → args[j]? = some v → Value.okWide Tryz.prog W .any base t v := hval0
  have hW' := hW
  obtain ⟨p, q, hA0, hV, rfl, hfz, hnd⟩ := hW
  have hA : DataW.TrodAll enc Tryz.prog W 0 (fun _ => true) true Tryz.f5.params.toList args.toList ds p := hA0
  rw [Tryz.params5] at hA hval
  obtain ⟨v0, vs0, d0, ds0, p0, q0, hargs, rfl, rfl, h0, r0⟩ := trodAll_cons hA
  obtain ⟨v1, vs1, d1, ds1, p1, q1, rfl, rfl, rfl, h1, r1⟩ := trodAll_cons r0
  obtain ⟨v2, vs2, d2, ds2, p2, q2, rfl, rfl, rfl, h2, r2⟩ := trodAll_cons r1
  obtain ⟨rfl, rfl, rfl⟩ := trodAll_nil r2
  obtain rfl : args = #[v0, v1, v2] := by cases args; simp_all
  obtain ⟨rfl, rfl⟩ := trodVars_none hV
  have k0 := h0
  have lt0 : ∀ x ∈ p0, x.block < W.heap.size := by obtain ⟨m, hm⟩ := k0; exact DataW.trod_lt m _ _ _ hm
  obtain ⟨a0, len0, cap0, rfl⟩ := okWide_slice Tryz.underlying59 (hval 0 59 v0 rfl rfl)
  obtain ⟨S0, e0, ro0⟩ := rdl1_59 (rdy_of h0)
  simp [SL.v] at e0
  obtain ⟨rfl, rfl, rfl⟩ := e0
  have k1 := h1
  have lt1 : ∀ x ∈ p1, x.block < W.heap.size := by obtain ⟨m, hm⟩ := k1; exact DataW.trod_lt m _ _ _ hm
  obtain ⟨a1, len1, cap1, rfl⟩ := okWide_slice Tryz.underlying37 (hval 1 37 v1 rfl rfl)
  obtain ⟨S1, e1, ro1⟩ := rdl1_37 (rdy_of h1)
  simp [SL.v] at e1
  obtain ⟨rfl, rfl, rfl⟩ := e1
  have k2 := h2
  have lt2 : ∀ x ∈ p2, x.block < W.heap.size := by obtain ⟨m, hm⟩ := k2; exact DataW.trod_lt m _ _ _ hm
  obtain ⟨a2, len2, cap2, rfl⟩ := okWide_slice Tryz.underlying37 (hval 2 37 v2 rfl rfl)
  obtain ⟨S2, e2, ro2⟩ := rdl1_37 (rdy_of h2)
  simp [SL.v] at e2
  obtain ⟨rfl, rfl, rfl⟩ := e2
  clear hA0 hval0
  refine (law_of_spec (lawish (Go.HrdL.crash_spec S0.a S0.xs.length S0.cap S0.xs rfl S1.a S1.xs.length S1.cap S1.xs rfl S2.a S2.xs.length S2.cap S2.xs rfl (hp W) ro0.1 ro1.1 ro2.1))).mono fun e W' ⟨he, bel⟩ => ?_
  subst he
  exact ⟨_, rfl, _, _, _, [], _, [], hW', trodAll_mk1 (shut_bool Tryz.underlying4 _), (trodAll_cons_mk (Below.trod laidOut (by kernel_rfl) (of_decide_eq_true (by kernel_rfl)) k0 bel lt0) (trodAll_cons_mk (Below.trod laidOut (by kernel_rfl) (of_decide_eq_true (by kernel_rfl)) k1 bel lt1) (trodAll_cons_mk (Below.trod laidOut (by kernel_rfl) (of_decide_eq_true (by kernel_rfl)) k2 bel lt2) trodAll_mk0))), rfl, bel.frame _, fun h => by cases h⟩

theorem rowSaid : Rows.HardCrashSaid :=
  OpenClaim.holds_of_wide 5 Tryz.f5 rfl rfl rfl rfl rfl rfl rfl ⟨rfl, rfl, rfl, rfl, rfl⟩ rfl rfl rfl rfl rfl (by kernel_rfl) Tryz.func5 (by kernel_rfl)
    (of_decide_eq_true (by kernel_rfl)) (by unfold Func.isWrapper; first | (rw [if_pos (by decide +kernel)]; kernel_rfl) | (rw [if_neg (by decide +kernel)]; exact ⟨rfl, rfl⟩))
    (fun os started H enc _ => lifted os started H enc)
theorem proved : Rows.HardCrashCardSaid :=
  Claim7.holds_tied_plain_at .later [] [.data, .pinned] true (true, "6262c79ce0889cdc30e4493c78acdeda40261f0735a3fe3aca72da21bf5b1f12") false
    rowSaid (fun _ h => by cases h) (by kernel_rfl) (fun _ h => by cases h) hardCrash_row_tie rfl ⟨rfl, rfl⟩ (by kernel_rfl) rfl
    (fun f fn hf hfn => by
      obtain rfl : f = 5 := Option.some.inj ((show Tryz.prog.funcNamed "echelon/echelonlaw04.HardCrash" = some 5 by kernel_rfl).symm.trans hf) |>.symm
      obtain rfl : fn = Tryz.f5 := (Option.some.inj (Tryz.func5.symm.trans hfn)).symm
      exact ⟨by kernel_rfl, fun j t ht => by
        rw [Tryz.params5] at ht
        have hm : t ∈ [59, 37, 37] := by simpa using Array.mem_of_getElem? ht
        have hall : ([59, 37, 37].all fun u => !Tryz.prog.wantsStandIn u) = true := by kernel_rfl
        exact (show Tryz.prog.wantsStandIn t = false by simpa using List.all_eq_true.1 hall t hm)⟩)
    (by kernel_rfl)
#print axioms proved
end Go.Proofs.YtehaoafnobnneaaGreatDoor.hardCrash

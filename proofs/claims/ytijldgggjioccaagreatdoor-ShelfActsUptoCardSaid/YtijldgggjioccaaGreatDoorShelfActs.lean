/-
  The law 'ShelfActs': her frame about her walk: the given statement 'Rows.ShelfActsSaid'.
-/
import Derived.Test.YtijldgggjioccaaGreatDoorRows
import Derived.Test.YtijldgggjioccaaGreatDoorSlZb
import Derived.Test.YtijldgggjioccaaGreatDoorShfAc
import Derived.Test.YtijldgggjioccaaGreatDoorTie
import Derived.Test.YtijldgggjioccaaGreatDoorCards
import Derived.LaidMore
import Derived.Lay
import Derived.SevenTiedAt
import Derived.Stop.Joined
import Derived.Stop.LaidErr
import Derived.Lib.LaidTab
set_option maxRecDepth 100000
set_option linter.unusedVariables false
set_option linter.unusedSimpArgs false
namespace Go.Proofs.YtijldgggjioccaaGreatDoor.shelfActs
open Go.ChangeShapes Go.WideShapes Go.ChangeAt Go.RowKit
open Go.ChangeMaps (open_string shut_string)
open Go.SL 
theorem own : ownKnob Tryz.prog.godebug = none := by kernel_rfl
theorem laidOut : laidOutB Tryz.prog = true := by kernel_rfl
theorem rd_int {H : Type} {enc : TypeId × Value → H} {P : Program} {w : World} {t : TypeId} {k : IntKind} {cs : List Value} {N : Nat} (ht : P.underlying t = some (.int k)) (h : RdyN enc P w t cs N) : ∃ n, cs = [.int k n] ∧ (Lit.int k n).wf = true := rdy_int ht (h.rdy)
theorem rd_int1 {H : Type} {enc : TypeId × Value → H} {P : Program} {w : World} {t : TypeId} {k : IntKind} {c : Value} {N : Nat} (ht : P.underlying t = some (.int k)) (h : RdyN enc P w t [c] N) : ∃ n, c = .int k n ∧ (Lit.int k n).wf = true := by
  obtain ⟨n, hc, hw⟩ := rd_int ht h; exact ⟨n, by simpa using hc, hw⟩
theorem rd_string {H : Type} {enc : TypeId × Value → H} {P : Program} {w : World} {t : TypeId} {cs : List Value} {N : Nat} (ht : P.underlying t = some .string) (h : RdyN enc P w t cs N) : ∃ s : List UInt8, cs = [.string ⟨s.toArray⟩] ∧ s.length ≤ N := by
  obtain ⟨fuel, y, h, hb⟩ := h; obtain ⟨q, hq, hy, hl⟩ := DataW.trod_string ht h; refine ⟨q.data.toList, hq.trans (by rw [Array.toArray_toList]), ?_⟩; rw [hy] at hb; simp only [Rows.uptoBulk] at hb; omega
theorem rd_string1 {H : Type} {enc : TypeId × Value → H} {P : Program} {w : World} {t : TypeId} {c : Value} {N : Nat} (ht : P.underlying t = some .string) (h : RdyN enc P w t [c] N) : ∃ s : List UInt8, c = .string ⟨s.toArray⟩ ∧ s.length ≤ N := by
  obtain ⟨n, hc, hn⟩ := rd_string ht h; exact ⟨n, by simpa using hc, hn⟩
def Mem_Mark1 (x : Go.Shf.Mark1) (h : Hp) (N : Nat) : Prop := (Lit.int .i64 x.Index).wf = true ∧ (Lit.int .i64 x.Term).wf = true
theorem rd_Mark1 {H : Type} {enc : TypeId × Value → H} {w : World} {N : Nat} {cs : List Value} (h : RdyN enc Tryz.prog w 24 cs N) : ∃ x : Go.Shf.Mark1, cs = Go.Shf.encMark1 x ∧ Mem_Mark1 x (hp w) N := by
  obtain ⟨hl, hf⟩ := rdyN_struct Tryz.underlying24 h; rw [show Program.cellsOf Tryz.prog 24 = 2 from by kernel_rfl] at hl
  obtain ⟨c0, c1, rfl⟩ : ∃ c0 c1, cs = [c0, c1] := by
    match cs, hl with
    | [c0, c1], _ => exact ⟨_, _, rfl⟩
  have z3 : Program.cellsOf Tryz.prog 3 = 1 := by kernel_rfl
  simp only [List.mem_cons, List.not_mem_nil, or_false, forall_eq_or_imp, forall_eq, z3] at hf; obtain ⟨hf_0, hf_1⟩ := hf; simp at hf_0 hf_1; obtain ⟨x0, rfl, m0⟩ := rd_int1 Tryz.underlying3 hf_0; obtain ⟨x1, rfl, m1⟩ := rd_int1 Tryz.underlying3 hf_1; exact ⟨⟨x0, x1⟩, rfl, ⟨m0, m1⟩⟩
def MemL_22 (x : SL UInt8) (h : Hp) (N : Nat) : Prop := x.ro Go.SL.encB 1 h ∧ x.xs.length ≤ maxLen ∧ x.xs.length ≤ N ∧ ∀ y ∈ x.xs, True
theorem rdl_22 {H : Type} {enc : TypeId × Value → H} {w : World} {N : Nat} {cs : List Value} (h : RdyN enc Tryz.prog w 22 cs N) : ∃ x : SL UInt8, cs = Go.SL.encSL x ∧ MemL_22 x (hp w) N := by
  obtain ⟨a, cap, xs, rfl, hr, hn, hq⟩ := rdyN_slice (en := Go.SL.encB) (Q := fun y => True) (sz := 1) Tryz.underlying22 (by kernel_rfl) (fun _ => rfl) (fun cs h => rdy_byte Tryz.underlying5 h.rdy) h; exact ⟨⟨a, xs, cap⟩, rfl, hr, Nat.le_trans hr.2.1 hr.2.2.1, hn, hq⟩
theorem rdl1_22 {H : Type} {enc : TypeId × Value → H} {w : World} {N : Nat} {c : Value} (h : RdyN enc Tryz.prog w 22 [c] N) : ∃ x : SL UInt8, c = x.v ∧ MemL_22 x (hp w) N := by
  obtain ⟨x, hx, hm⟩ := rdl_22 h; exact ⟨x, by simpa [Go.SL.encSL] using hx, hm⟩
def Mem_Snap1 (x : Go.Shf.Snap1) (h : Hp) (N : Nat) : Prop := Mem_Mark1 x.Mark h N ∧ MemL_22 x.Conf h N ∧ MemL_22 x.Body h N
theorem rd_Snap1 {H : Type} {enc : TypeId × Value → H} {w : World} {N : Nat} {cs : List Value} (h : RdyN enc Tryz.prog w 26 cs N) : ∃ x : Go.Shf.Snap1, cs = Go.Shf.encSnap1 x ∧ Mem_Snap1 x (hp w) N := by
  obtain ⟨hl, hf⟩ := rdyN_struct Tryz.underlying26 h; rw [show Program.cellsOf Tryz.prog 26 = 4 from by kernel_rfl] at hl
  obtain ⟨c0, c1, c2, c3, rfl⟩ : ∃ c0 c1 c2 c3, cs = [c0, c1, c2, c3] := by
    match cs, hl with
    | [c0, c1, c2, c3], _ => exact ⟨_, _, _, _, rfl⟩
  have z24 : Program.cellsOf Tryz.prog 24 = 2 := by kernel_rfl
  have z22 : Program.cellsOf Tryz.prog 22 = 1 := by kernel_rfl
  simp only [List.mem_cons, List.not_mem_nil, or_false, forall_eq_or_imp, forall_eq, z22, z24] at hf; obtain ⟨hf_0, hf_1, hf_2⟩ := hf; simp at hf_0 hf_1 hf_2; obtain ⟨x0, e0, m0⟩ := rd_Mark1 hf_0; simp only [Go.Shf.encMark1, List.cons.injEq, and_true] at e0; obtain ⟨rfl, rfl⟩ := e0; obtain ⟨x1, rfl, m1⟩ := rdl1_22 hf_1; obtain ⟨x2, rfl, m2⟩ := rdl1_22 hf_2; exact ⟨⟨x0, x1, x2⟩, rfl, ⟨m0, m1, m2⟩⟩
def MemL_38 (x : SL Int) (h : Hp) (N : Nat) : Prop := x.ro Go.SL.encI 1 h ∧ x.xs.length ≤ maxLen ∧ x.xs.length ≤ N ∧ ∀ y ∈ x.xs, (Lit.int .i64 y).wf = true
theorem rdl_38 {H : Type} {enc : TypeId × Value → H} {w : World} {N : Nat} {cs : List Value} (h : RdyN enc Tryz.prog w 38 cs N) : ∃ x : SL Int, cs = Go.SL.encSL x ∧ MemL_38 x (hp w) N := by
  obtain ⟨a, cap, xs, rfl, hr, hn, hq⟩ := rdyN_slice (en := Go.SL.encI) (Q := fun y => (Lit.int .i64 y).wf = true) (sz := 1) Tryz.underlying38 (by kernel_rfl) (fun _ => rfl) (fun cs h => by obtain ⟨n, e, hw⟩ := rd_int Tryz.underlying3 h; exact ⟨n, e, hw⟩) h; exact ⟨⟨a, xs, cap⟩, rfl, hr, Nat.le_trans hr.2.1 hr.2.2.1, hn, hq⟩
theorem rdl1_38 {H : Type} {enc : TypeId × Value → H} {w : World} {N : Nat} {c : Value} (h : RdyN enc Tryz.prog w 38 [c] N) : ∃ x : SL Int, c = x.v ∧ MemL_38 x (hp w) N := by
  obtain ⟨x, hx, hm⟩ := rdl_38 h; exact ⟨x, by simpa [Go.SL.encSL] using hx, hm⟩
def Mem_SAct (x : Go.Shf.SAct) (h : Hp) (N : Nat) : Prop := (Lit.int .i64 x.Kind).wf = true ∧ Mem_Snap1 x.X h N ∧ (Lit.int .i64 x.N).wf = true ∧ MemL_38 x.Keep h N ∧ x.Name.length ≤ N ∧ MemL_22 x.B h N
theorem rd_SAct {H : Type} {enc : TypeId × Value → H} {w : World} {N : Nat} {cs : List Value} (h : RdyN enc Tryz.prog w 68 cs N) : ∃ x : Go.Shf.SAct, cs = Go.Shf.encSAct x ∧ Mem_SAct x (hp w) N := by
  obtain ⟨hl, hf⟩ := rdyN_struct Tryz.underlying68 h; rw [show Program.cellsOf Tryz.prog 68 = 9 from by kernel_rfl] at hl
  obtain ⟨c0, c1, c2, c3, c4, c5, c6, c7, c8, rfl⟩ : ∃ c0 c1 c2 c3 c4 c5 c6 c7 c8, cs = [c0, c1, c2, c3, c4, c5, c6, c7, c8] := by
    match cs, hl with
    | [c0, c1, c2, c3, c4, c5, c6, c7, c8], _ => exact ⟨_, _, _, _, _, _, _, _, _, rfl⟩
  have z3 : Program.cellsOf Tryz.prog 3 = 1 := by kernel_rfl
  have z26 : Program.cellsOf Tryz.prog 26 = 4 := by kernel_rfl
  have z38 : Program.cellsOf Tryz.prog 38 = 1 := by kernel_rfl
  have z9 : Program.cellsOf Tryz.prog 9 = 1 := by kernel_rfl
  have z22 : Program.cellsOf Tryz.prog 22 = 1 := by kernel_rfl
  simp only [List.mem_cons, List.not_mem_nil, or_false, forall_eq_or_imp, forall_eq, z22, z26, z3, z38, z9] at hf; obtain ⟨hf_0, hf_1, hf_2, hf_3, hf_4, hf_5⟩ := hf; simp at hf_0 hf_1 hf_2 hf_3 hf_4 hf_5; obtain ⟨x0, rfl, m0⟩ := rd_int1 Tryz.underlying3 hf_0; obtain ⟨x1, e1, m1⟩ := rd_Snap1 hf_1; simp only [Go.Shf.encSnap1, List.cons.injEq, and_true] at e1; obtain ⟨rfl, rfl, rfl, rfl⟩ := e1; obtain ⟨x2, rfl, m2⟩ := rd_int1 Tryz.underlying3 hf_2; obtain ⟨x3, rfl, m3⟩ := rdl1_38 hf_3; obtain ⟨x4, rfl, m4⟩ := rd_string1 Tryz.underlying9 hf_4; obtain ⟨x5, rfl, m5⟩ := rdl1_22 hf_5; exact ⟨⟨x0, x1, x2, x3, x4, x5⟩, rfl, ⟨m0, m1, m2, m3, m4, m5⟩⟩
def MemL_66 (x : SL Go.Shf.SAct) (h : Hp) (N : Nat) : Prop := x.ro Go.Shf.encSAct 9 h ∧ x.xs.length ≤ maxLen ∧ x.xs.length ≤ N ∧ ∀ y ∈ x.xs, Mem_SAct y h N
theorem rdl_66 {H : Type} {enc : TypeId × Value → H} {w : World} {N : Nat} {cs : List Value} (h : RdyN enc Tryz.prog w 66 cs N) : ∃ x : SL Go.Shf.SAct, cs = Go.SL.encSL x ∧ MemL_66 x (hp w) N := by
  obtain ⟨a, cap, xs, rfl, hr, hn, hq⟩ := rdyN_slice (en := Go.Shf.encSAct) (Q := fun y => Mem_SAct y (hp w) N) (sz := 9) Tryz.underlying66 (by kernel_rfl) (fun _ => rfl) (fun cs h => rd_SAct h) h; exact ⟨⟨a, xs, cap⟩, rfl, hr, Nat.le_trans hr.2.1 hr.2.2.1, hn, hq⟩
theorem rdl1_66 {H : Type} {enc : TypeId × Value → H} {w : World} {N : Nat} {c : Value} (h : RdyN enc Tryz.prog w 66 [c] N) : ∃ x : SL Go.Shf.SAct, c = x.v ∧ MemL_66 x (hp w) N := by
  obtain ⟨x, hx, hm⟩ := rdl_66 h; exact ⟨x, by simpa [Go.SL.encSL] using hx, hm⟩
theorem memS {a : Go.Shf.SAct} {h : Hp} {N : Nat} (m : Mem_SAct a h N) (hN : N ≤ 1048576) : Go.Shf.SActM a h ∧ a.N ≤ 9223372036854775807 ∧ a.X.Conf.xs.length ≤ 1048576 ∧ a.X.Body.xs.length ≤ 1048576 ∧ a.Keep.xs.length ≤ 1048576 ∧ a.B.xs.length ≤ 1048576 ∧ a.Name.length ≤ 1048576 := by
  obtain ⟨_, ⟨_, mC, mB⟩, mN, mK, mS, mX⟩ := m; exact ⟨⟨mK.1, mX.1, mC.1, mB.1⟩, (wf_i64.1 mN).2, Nat.le_trans mC.2.2.1 hN, Nat.le_trans mB.2.2.1 hN, Nat.le_trans mK.2.2.1 hN, Nat.le_trans mX.2.2.1 hN, Nat.le_trans mS hN⟩
theorem laid9 : (Rows.laid_internal_strconv_uint64pow10 : DataW Unit) = Lib.tabData .u64 Lib.pow10Tab := by kernel_rfl
theorem tabC {W : World} {r : List (String × DataW Unit)} (h : laidMet Tryz.prog (("internal/strconv.uint64pow10", Rows.laid_internal_strconv_uint64pow10) :: r) W) : Lib.TabIs Tryz.prog W "internal/strconv.uint64pow10" .u64 Lib.pow10Tab := by
  rw [laid9] at h; exact Lib.tabIs_of_head (g := 5) (t := 360) (e := 128) (n := 20) (by kernel_rfl) (by kernel_rfl) (by kernel_rfl) (by kernel_rfl) (by kernel_rfl) (by kernel_rfl) h
theorem lifted (os : Os) (started : os.Started) (H : Type) (enc : TypeId × Value → H) (F : Stop.Interp) :
    ReturnsInHanded {} Tryz.checked os 6 .any (fun w args => ((Rows.OpenSpec.upto Rows.shelfActsSpec).pre enc Tryz.prog Tryz.f6 Rows.shelfActsUptoRow.domain false w args ∧ laidMetH Tryz.prog Rows.shelfActsUptoRow.laid w) ∧ sizedMet enc Tryz.prog Tryz.f6 (Rows.OpenSpec.upto Rows.shelfActsSpec) false w args) (((Rows.OpenSpec.upto Rows.shelfActsSpec).at F).post enc Tryz.prog Tryz.f6 false true false false) := by
  refine cond_andX (C := Tryz.checked) (s := (Rows.OpenSpec.upto Rows.shelfActsSpec)) (k := Rows.uptoSmall) (X := fun w _ => laidMetH Tryz.prog Rows.shelfActsUptoRow.laid w) rfl (fun _ _ _ hh h => h.of_heap hh) own started (by kernel_rfl) Tryz.func6
    (witness_cond (enc := enc) (C := Tryz.checked) (os := os) (s := (Rows.OpenSpec.upto Rows.shelfActsSpec)) (k := Rows.uptoSmall) rfl (X := fun w _ => laidMetH Tryz.prog Rows.shelfActsUptoRow.laid w) false (World.laidAll Tryz.prog os Rows.shelfActsUptoRow.laid) #[.int .i64 0, .slice none 0 0] 8 (World.laidAll_os _ _ _)
      (World.shaped_of_ZipB (by kernel_rfl) (by kernel_rfl)) (by kernel_rfl) (x := ([.lit (.int .i64 0), .nil], [], [])) (by kernel_rfl) rfl (by kernel_rfl) (by kernel_rfl)
      (by rw [MakeChecks.laidMetH_plain _ _ _ (by kernel_rfl)]; exact laidMet_laidAll _ (by kernel_rfl) (by kernel_rfl))) ?_
  intro W base args ds gs before hval0 hW _ hk hX _; have hval : ∀ (j : Nat) t v, Tryz.f6.params[j]? = some t → args[j]? = some v → Value.okWide Tryz.prog W .any base t v := hval0; have hW' := hW; obtain ⟨p, q, hA0, hV, rfl, hfz, hnd⟩ := hW; have hA : DataW.TrodAll enc Tryz.prog W 0 (fun _ => true) true Tryz.f6.params.toList args.toList ds p := hA0; rw [Tryz.params6] at hA hval; have hlm := hX; rw [MakeChecks.laidMetH_plain _ _ _ (by kernel_rfl)] at hlm; have htab : Tab Tryz.prog (hp W) := tab_of (tabC (laidMet.tail (laidMet.tail hlm))); clear hlm; obtain ⟨v0, vs0, d0, ds0, p0, q0, hargs, rfl, rfl, h0, r0⟩ := trodAll_cons hA; obtain ⟨v1, vs1, d1, ds1, p1, q1, rfl, rfl, rfl, h1, r1⟩ := trodAll_cons r0; obtain ⟨rfl, rfl, rfl⟩ := trodAll_nil r1; obtain rfl : args = #[v0, v1] := by cases args; simp_all
  obtain ⟨rfl, rfl⟩ := trodVars_none hV; have hkk := of_decide_eq_true hk; simp only [List.append_nil, Rows.uptoBulkAll] at hkk; have hb0 : Rows.uptoBulk d0 ≤ 1048576 := by omega
  have hb1 : Rows.uptoBulk d1 ≤ 1048576 := by omega
  clear hk hkk; have k0 := h0; have lt0 : ∀ x ∈ p0, x.block < W.heap.size := by obtain ⟨m, hm⟩ := k0; exact DataW.trod_lt m _ _ _ hm
  obtain ⟨a0, rfl, rfl, rfl, w0⟩ := open_int Tryz.underlying3 (hval 0 3 v0 rfl rfl) h0; have k1 := h1; have lt1 : ∀ x ∈ p1, x.block < W.heap.size := by obtain ⟨m, hm⟩ := k1; exact DataW.trod_lt m _ _ _ hm
  obtain ⟨a1, len1, cap1, rfl⟩ := okWide_slice Tryz.underlying66 (hval 1 66 v1 rfl rfl); obtain ⟨S1, e1, ro1⟩ := rdl1_66 (rdyN_of h1 hb1); simp [SL.v] at e1; obtain ⟨rfl, rfl, rfl⟩ := e1; clear hA0 hval0; refine (law_of_spec (lawish (Go.ShfAc.actlaw_spec a0 S1.a S1.xs.length S1.cap S1.xs rfl (hp W) (wf_i64.1 w0).2 ro1.1 (fun a ha => memS (ro1.2.2.2 a ha) (by decide)) htab))).mono fun e W' ⟨he, bel⟩ => ?_; subst he; exact ⟨_, rfl, _, _, _, [], _, [], hW', trodAll_mk1 (shut_bool Tryz.underlying4 _), (trodAll_cons_mk (Below.trod laidOut (by kernel_rfl) (of_decide_eq_true (by kernel_rfl)) k0 bel lt0) (trodAll_cons_mk (Below.trod laidOut (by kernel_rfl) (of_decide_eq_true (by kernel_rfl)) k1 bel lt1) trodAll_mk0)), rfl, bel.frame _, fun h => by cases h⟩
theorem and2_ {a b : Bool} (h : a = true) (k : b = true) : (a && b) = true := by rw [h, k]; rfl
theorem jf0 : (Rows.shelfActsUptoRow.wf (OpenSpec.ofChange (Rows.OpenSpec.upto Rows.shelfActsSpec).bare)) = true := by kernel_rfl
theorem jf1 : (laidOutB Tryz.prog) = true := by kernel_rfl
theorem jf2 : (mapsRowed Tryz.prog) = true := by kernel_rfl
theorem jf3 : (Tryz.f6.params.all (Tryz.prog.readableRec ·)) = true := by kernel_rfl
theorem jf4 : (namedTie Tryz.prog Rows.shelfActsUptoRow.named (Rows.OpenSpec.upto Rows.shelfActsSpec).bare.vars) = true := by kernel_rfl
theorem jf5 : ((Rows.shelfActsUptoRow.stops == [])) = true := by kernel_rfl
theorem jf6 : ((Tryz.prog.stops == [])) = true := by kernel_rfl
theorem jf7 : ((Rows.shelfActsUptoRow.knobs == [])) = true := by kernel_rfl
theorem jf8 : ((Tryz.prog.stopKnobs == [])) = true := by kernel_rfl
theorem jf9 : ((Rows.shelfActsUptoRow.inPlace == Tryz.prog.inPlace 6)) = true := by kernel_rfl
theorem jf10 : ((Rows.shelfActsUptoRow.unfollowed == Tryz.prog.unfollowed 6)) = true := by kernel_rfl
theorem jf11 : ((Rows.shelfActsUptoRow.recurses == Tryz.prog.recurses 6)) = true := by kernel_rfl
theorem jf12 : ((Rows.shelfActsUptoRow.named == Tryz.prog.varsNamed 6)) = true := by kernel_rfl
theorem jf13 : ((Rows.shelfActsUptoRow.maps == (Tryz.f6.params.toList ++ (Rows.OpenSpec.upto Rows.shelfActsSpec).bare.plain.varTypes Tryz.prog).any (Tryz.prog.mapsRec ·))) = true := by kernel_rfl
theorem jf14 : ((Rows.shelfActsUptoRow.ifaces == (Tryz.f6.params.toList ++ (Rows.OpenSpec.upto Rows.shelfActsSpec).bare.plain.varTypes Tryz.prog).any (Tryz.prog.ifacesRec ·))) = true := by kernel_rfl
theorem jf15 : ((Rows.shelfActsUptoRow.mapsOut == Tryz.prog.mapsAmong Tryz.f6.resultTypes.toList)) = true := by kernel_rfl
theorem jf16 : ((Rows.shelfActsUptoRow.loops == (Tryz.f6.params.toList ++ (Rows.OpenSpec.upto Rows.shelfActsSpec).bare.plain.varTypes Tryz.prog).any (Tryz.prog.loopsFrom ·))) = true := by kernel_rfl
theorem jf17 : ((Rows.shelfActsUptoRow.wideKeys == (Tryz.f6.params.toList ++ (Rows.OpenSpec.upto Rows.shelfActsSpec).bare.plain.varTypes Tryz.prog ++ Tryz.f6.resultTypes.toList).any (Tryz.prog.wideKeysFrom ·))) = true := by kernel_rfl
theorem jf18 : ((Rows.OpenSpec.upto Rows.shelfActsSpec).bare.vars.all (Tryz.prog.varReadable ·)) = true := by kernel_rfl
theorem jf19 : (Tryz.f6.resultTypes.all (fun t => Tryz.prog.readableRec t && decide (t < Tryz.prog.types.size))) = true := by kernel_rfl
theorem jf20 : ((Rows.shelfActsUptoRow.ifacesOut == Tryz.f6.resultTypes.toList.any (Tryz.prog.ifacesRec ·))) = true := by kernel_rfl
theorem jf21 : ((Rows.shelfActsUptoRow.loopsOut == Tryz.f6.resultTypes.toList.any (Tryz.prog.loopsFrom ·))) = true := by kernel_rfl
theorem jf22 : ((Rows.shelfActsUptoRow.plainKeys == Tryz.prog.plainKeys)) = true := by kernel_rfl
theorem jf23 : (Rows.shelfActsUptoRow.shortTexts.isNone) = true := by kernel_rfl
theorem jf24 : (Tryz.prog.stopsHeard) = true := by kernel_rfl
theorem jf25 : (Tryz.prog.mayEnter) = true := by kernel_rfl
theorem jf26 : ((Rows.shelfActsUptoRow.lifted == Tryz.prog.liftsFinal)) = true := by kernel_rfl
theorem jf27 : ((Tryz.prog.make == some Rows.shelfActsUptoRow.make)) = true := by kernel_rfl
theorem jf28 : ((Rows.shelfActsUptoRow.kinds == (if Rows.shelfActsUptoRow.domain.isEmpty then [] else Tryz.f6.params.toList.map fun t => match Tryz.prog.underlying t with | some (.int k) => some k | _ => none))) = true := by kernel_rfl
theorem jf29 : ((Rows.shelfActsUptoRow.pinned == Rows.shelfActsUptoRow.pinnedBy)) = true := by kernel_rfl
theorem jf30 : ((Rows.shelfActsUptoRow.veiled == (Tryz.f6.params.toList ++ (Rows.OpenSpec.upto Rows.shelfActsSpec).bare.plain.varTypes Tryz.prog ++ Tryz.f6.resultTypes.toList).any (Tryz.prog.veiledRec ·))) = true := by kernel_rfl
theorem jf31 : (Rows.shelfActsUptoRow.veiledFits Tryz.prog Tryz.f6.params.toList (Tryz.f6.params.toList ++ (Rows.OpenSpec.upto Rows.shelfActsSpec).bare.plain.varTypes Tryz.prog ++ Tryz.f6.resultTypes.toList)) = true := by kernel_rfl
theorem closed : joinedFacts Tryz.prog 6 Tryz.f6 (Rows.OpenSpec.upto Rows.shelfActsSpec).bare Rows.shelfActsUptoRow = true := (and2_ (and2_ (and2_ (and2_ (and2_ (and2_ (and2_ (and2_ (and2_ (and2_ (and2_ (and2_ (and2_ (and2_ (and2_ (and2_ (and2_ (and2_ (and2_ (and2_ (and2_ (and2_ (and2_ (and2_ (and2_ (and2_ (and2_ (and2_ (and2_ (and2_ (and2_ jf0 jf1) jf2) jf3) jf4) jf5) jf6) jf7) jf8) jf9) jf10) jf11) jf12) jf13) jf14) jf15) jf16) jf17) jf18) jf19) jf20) jf21) jf22) jf23) jf24) jf25) jf26) jf27) jf28) jf29) jf30) jf31)
theorem rowSaid : Rows.ShelfActsUptoSaid :=
  OpenClaim.holds_of_cond 6 Tryz.f6 rfl rfl rfl rfl rfl rfl rfl ⟨rfl, rfl, rfl, rfl, rfl⟩ rfl rfl rfl rfl rfl (by kernel_rfl) Tryz.func6 closed
    (of_decide_eq_true (by kernel_rfl)) (by unfold Func.isWrapper; first | (rw [if_pos (by decide +kernel)]; kernel_rfl) | (rw [if_neg (by decide +kernel)]; exact ⟨rfl, rfl⟩))
    (fun os started H enc _ F => lifted os started H enc F)
theorem pw : Rows.shelfActsUptoRow.wfByText (Rows.OpenSpec.upto Rows.shelfActsSpec) = true := by kernel_rfl
theorem pm : Tryz.prog.mainIs = some (true, ("983c3602b494791859c4d496bd53b28a9502d3df16336e811413cc5ddef28ce4" : String).toList) := by kernel_rfl
theorem pf : Tryz.prog.funcNamed "echelon/echelonlaw06.ShelfActs" = some 6 := by kernel_rfl
theorem pl : true = Tryz.prog.looks [] := by kernel_rfl
theorem pa : ([3, 66].all fun u => !Tryz.prog.wantsStandIn u) = true := by kernel_rfl
theorem pg : false = Rows.shelfActsUptoRow.goesBy Tryz.prog := by kernel_rfl
theorem proved : Rows.ShelfActsUptoCardSaid :=
  Claim7.holds_tied_plain_at .later [] [.data, .data, .data, .data, .sentinel, .sentinel, .pinned] true (true, "983c3602b494791859c4d496bd53b28a9502d3df16336e811413cc5ddef28ce4") true
    rowSaid (fun _ h => by cases h) pw (fun _ h => by cases h) shelfActsUpto_row_tie rfl ⟨rfl, rfl⟩ pm rfl
    (fun f fn hf hfn => by
      obtain rfl : f = 6 := Option.some.inj ((show Tryz.prog.funcNamed "echelon/echelonlaw06.ShelfActs" = some 6 from pf).symm.trans hf) |>.symm; obtain rfl : fn = Tryz.f6 := (Option.some.inj (Tryz.func6.symm.trans hfn)).symm
      exact ⟨pl, fun j t ht => by
        rw [Tryz.params6] at ht; have hm : t ∈ [3, 66] := by simpa using Array.mem_of_getElem? ht
        have hall : ([3, 66].all fun u => !Tryz.prog.wantsStandIn u) = true := pa; exact (show Tryz.prog.wantsStandIn t = false by simpa using List.all_eq_true.1 hall t hm)⟩)
    pg
#print axioms proved
end Go.Proofs.YtijldgggjioccaaGreatDoor.shelfActs

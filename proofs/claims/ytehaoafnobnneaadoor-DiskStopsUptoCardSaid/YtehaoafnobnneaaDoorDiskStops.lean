/-
  The law 'DiskStops': her frame about her walk: the given statement 'Rows.DiskStopsSaid'.
-/
import Derived.Test.YtehaoafnobnneaaDoorRows
import Derived.Test.YtehaoafnobnneaaDoorSlL
import Derived.Test.YtehaoafnobnneaaDoorSlU
import Derived.Test.YtehaoafnobnneaaDoorSlZb
import Derived.Test.YtehaoafnobnneaaDoorDskA6
import Derived.WalkKit
import Derived.ProofKit
import Derived.OpenShut
import Derived.ShutString
import Derived.ChangeOld
import Derived.Below
import Derived.JoinedCond
import Derived.Test.YtehaoafnobnneaaDoorTie
import Derived.Test.YtehaoafnobnneaaDoorCards
import Derived.LaidMore
import Derived.Lay
import Derived.SevenTiedAt
import Derived.Stop.Joined
set_option maxRecDepth 100000
set_option linter.unusedVariables false
set_option linter.unusedSimpArgs false
namespace Go.Proofs.YtehaoafnobnneaaDoor.diskStops
open Go.ChangeShapes Go.WideShapes Go.ChangeAt Go.RowKit
open Go.ChangeMaps (open_string shut_string)
open Go.SL 

theorem own : ownKnob Tryd.prog.godebug = none := by kernel_rfl
theorem laidOut : laidOutB Tryd.prog = true := by kernel_rfl
theorem rd_int {H : Type} {enc : TypeId × Value → H} {P : Program} {w : World} {t : TypeId} {k : IntKind} {cs : List Value} {N : Nat} (ht : P.underlying t = some (.int k)) (h : RdyN enc P w t cs N) : ∃ n, cs = [.int k n] ∧ (Lit.int k n).wf = true := rdy_int ht (h.rdy)
theorem rd_int1 {H : Type} {enc : TypeId × Value → H} {P : Program} {w : World} {t : TypeId} {k : IntKind} {c : Value} {N : Nat} (ht : P.underlying t = some (.int k)) (h : RdyN enc P w t [c] N) : ∃ n, c = .int k n ∧ (Lit.int k n).wf = true := by
  obtain ⟨n, hc, hw⟩ := rd_int ht h
  exact ⟨n, by simpa using hc, hw⟩
theorem rd_bool {H : Type} {enc : TypeId × Value → H} {P : Program} {w : World} {t : TypeId} {cs : List Value} {N : Nat} (ht : P.underlying t = some .bool) (h : RdyN enc P w t cs N) : ∃ b, cs = [.bool b] := by
  obtain ⟨fuel, y, h, -⟩ := h
  obtain ⟨b, hb, -⟩ := DataW.trod_bool ht h
  exact ⟨b, hb⟩
theorem rd_bool1 {H : Type} {enc : TypeId × Value → H} {P : Program} {w : World} {t : TypeId} {c : Value} {N : Nat} (ht : P.underlying t = some .bool) (h : RdyN enc P w t [c] N) : ∃ b, c = .bool b := by
  obtain ⟨n, hc⟩ := rd_bool ht h
  exact ⟨n, by simpa using hc⟩
theorem rd_string {H : Type} {enc : TypeId × Value → H} {P : Program} {w : World} {t : TypeId} {cs : List Value} {N : Nat} (ht : P.underlying t = some .string) (h : RdyN enc P w t cs N) : ∃ s : List UInt8, cs = [.string ⟨s.toArray⟩] ∧ s.length ≤ N := by
  obtain ⟨fuel, y, h, hb⟩ := h
  obtain ⟨q, hq, hy, hl⟩ := DataW.trod_string ht h
  refine ⟨q.data.toList, hq.trans (by rw [Array.toArray_toList]), ?_⟩
  rw [hy] at hb
  simp only [Rows.uptoBulk] at hb
  omega
theorem rd_string1 {H : Type} {enc : TypeId × Value → H} {P : Program} {w : World} {t : TypeId} {c : Value} {N : Nat} (ht : P.underlying t = some .string) (h : RdyN enc P w t [c] N) : ∃ s : List UInt8, c = .string ⟨s.toArray⟩ ∧ s.length ≤ N := by
  obtain ⟨n, hc, hn⟩ := rd_string ht h
  exact ⟨n, by simpa using hc, hn⟩

def MemL_41 (x : SL (List UInt8)) (h : Hp) (N : Nat) : Prop := x.ro Go.SL.encStr 1 h ∧ x.xs.length ≤ maxLen ∧ x.xs.length ≤ N ∧ ∀ y ∈ x.xs, y.length ≤ N
theorem rdl_41 {H : Type} {enc : TypeId × Value → H} {w : World} {N : Nat} {cs : List Value} (h : RdyN enc Tryd.prog w 41 cs N) : ∃ x : SL (List UInt8), cs = Go.SL.encSL x ∧ MemL_41 x (hp w) N := by
  obtain ⟨a, cap, xs, rfl, hr, hn, hq⟩ := rdyN_slice (en := Go.SL.encStr) (Q := fun y => y.length ≤ N) (sz := 1) Tryd.underlying41 (by kernel_rfl) (fun _ => rfl) (fun cs h => by obtain ⟨n, e, hn⟩ := rd_string Tryd.underlying9 h; exact ⟨n, e, hn⟩) h
  exact ⟨⟨a, xs, cap⟩, rfl, hr, Nat.le_trans hr.2.1 hr.2.2.1, hn, hq⟩
theorem rdl1_41 {H : Type} {enc : TypeId × Value → H} {w : World} {N : Nat} {c : Value} (h : RdyN enc Tryd.prog w 41 [c] N) : ∃ x : SL (List UInt8), c = x.v ∧ MemL_41 x (hp w) N := by
  obtain ⟨x, hx, hm⟩ := rdl_41 h
  exact ⟨x, by simpa [Go.SL.encSL] using hx, hm⟩
def MemL_32 (x : SL UInt8) (h : Hp) (N : Nat) : Prop := x.ro Go.SL.encB 1 h ∧ x.xs.length ≤ maxLen ∧ x.xs.length ≤ N ∧ ∀ y ∈ x.xs, True
theorem rdl_32 {H : Type} {enc : TypeId × Value → H} {w : World} {N : Nat} {cs : List Value} (h : RdyN enc Tryd.prog w 32 cs N) : ∃ x : SL UInt8, cs = Go.SL.encSL x ∧ MemL_32 x (hp w) N := by
  obtain ⟨a, cap, xs, rfl, hr, hn, hq⟩ := rdyN_slice (en := Go.SL.encB) (Q := fun y => True) (sz := 1) Tryd.underlying32 (by kernel_rfl) (fun _ => rfl) (fun cs h => rdy_byte Tryd.underlying5 h.rdy) h
  exact ⟨⟨a, xs, cap⟩, rfl, hr, Nat.le_trans hr.2.1 hr.2.2.1, hn, hq⟩
theorem rdl1_32 {H : Type} {enc : TypeId × Value → H} {w : World} {N : Nat} {c : Value} (h : RdyN enc Tryd.prog w 32 [c] N) : ∃ x : SL UInt8, c = x.v ∧ MemL_32 x (hp w) N := by
  obtain ⟨x, hx, hm⟩ := rdl_32 h
  exact ⟨x, by simpa [Go.SL.encSL] using hx, hm⟩
def MemL_26 (x : SL (SL UInt8)) (h : Hp) (N : Nat) : Prop := x.ro Go.SL.encSL 1 h ∧ x.xs.length ≤ maxLen ∧ x.xs.length ≤ N ∧ ∀ y ∈ x.xs, MemL_32 y h N
theorem rdl_26 {H : Type} {enc : TypeId × Value → H} {w : World} {N : Nat} {cs : List Value} (h : RdyN enc Tryd.prog w 26 cs N) : ∃ x : SL (SL UInt8), cs = Go.SL.encSL x ∧ MemL_26 x (hp w) N := by
  obtain ⟨a, cap, xs, rfl, hr, hn, hq⟩ := rdyN_slice (en := Go.SL.encSL) (Q := fun y => MemL_32 y (hp w) N) (sz := 1) Tryd.underlying26 (by kernel_rfl) (fun _ => rfl) (fun cs h => rdl_32 h) h
  exact ⟨⟨a, xs, cap⟩, rfl, hr, Nat.le_trans hr.2.1 hr.2.2.1, hn, hq⟩
theorem rdl1_26 {H : Type} {enc : TypeId × Value → H} {w : World} {N : Nat} {c : Value} (h : RdyN enc Tryd.prog w 26 [c] N) : ∃ x : SL (SL UInt8), c = x.v ∧ MemL_26 x (hp w) N := by
  obtain ⟨x, hx, hm⟩ := rdl_26 h
  exact ⟨x, by simpa [Go.SL.encSL] using hx, hm⟩
def MemL_51 (x : SL Int) (h : Hp) (N : Nat) : Prop := x.ro Go.SL.encI 1 h ∧ x.xs.length ≤ maxLen ∧ x.xs.length ≤ N ∧ ∀ y ∈ x.xs, (Lit.int .i64 y).wf = true
theorem rdl_51 {H : Type} {enc : TypeId × Value → H} {w : World} {N : Nat} {cs : List Value} (h : RdyN enc Tryd.prog w 51 cs N) : ∃ x : SL Int, cs = Go.SL.encSL x ∧ MemL_51 x (hp w) N := by
  obtain ⟨a, cap, xs, rfl, hr, hn, hq⟩ := rdyN_slice (en := Go.SL.encI) (Q := fun y => (Lit.int .i64 y).wf = true) (sz := 1) Tryd.underlying51 (by kernel_rfl) (fun _ => rfl) (fun cs h => by obtain ⟨n, e, hw⟩ := rd_int Tryd.underlying3 h; exact ⟨n, e, hw⟩) h
  exact ⟨⟨a, xs, cap⟩, rfl, hr, Nat.le_trans hr.2.1 hr.2.2.1, hn, hq⟩
theorem rdl1_51 {H : Type} {enc : TypeId × Value → H} {w : World} {N : Nat} {c : Value} (h : RdyN enc Tryd.prog w 51 [c] N) : ∃ x : SL Int, c = x.v ∧ MemL_51 x (hp w) N := by
  obtain ⟨x, hx, hm⟩ := rdl_51 h
  exact ⟨x, by simpa [Go.SL.encSL] using hx, hm⟩
def Mem_DAct (x : Go.Dsk.DAct) (h : Hp) (N : Nat) : Prop := (Lit.int .i64 x.Kind).wf = true ∧ MemL_41 x.Names h N ∧ MemL_26 x.Bs h N ∧ (Lit.int .i64 x.N).wf = true ∧ MemL_51 x.Keep h N
theorem rd_DAct {H : Type} {enc : TypeId × Value → H} {w : World} {N : Nat} {cs : List Value} (h : RdyN enc Tryd.prog w 53 cs N) : ∃ x : Go.Dsk.DAct, cs = Go.Dsk.encDAct x ∧ Mem_DAct x (hp w) N := by
  obtain ⟨hl, hf⟩ := rdyN_struct Tryd.underlying53 h
  rw [show Program.cellsOf Tryd.prog 53 = 5 from by kernel_rfl] at hl
  obtain ⟨c0, c1, c2, c3, c4, rfl⟩ : ∃ c0 c1 c2 c3 c4, cs = [c0, c1, c2, c3, c4] := by
    match cs, hl with
    | [c0, c1, c2, c3, c4], _ => exact ⟨_, _, _, _, _, rfl⟩
  have z3 : Program.cellsOf Tryd.prog 3 = 1 := by kernel_rfl
  have z41 : Program.cellsOf Tryd.prog 41 = 1 := by kernel_rfl
  have z26 : Program.cellsOf Tryd.prog 26 = 1 := by kernel_rfl
  have z51 : Program.cellsOf Tryd.prog 51 = 1 := by kernel_rfl
  simp only [List.mem_cons, List.not_mem_nil, or_false, forall_eq_or_imp, forall_eq, z26, z3, z41, z51] at hf
  obtain ⟨hf_0, hf_1, hf_2, hf_3, hf_4⟩ := hf
  simp at hf_0 hf_1 hf_2 hf_3 hf_4
  obtain ⟨x0, rfl, m0⟩ := rd_int1 Tryd.underlying3 hf_0
  obtain ⟨x1, rfl, m1⟩ := rdl1_41 hf_1
  obtain ⟨x2, rfl, m2⟩ := rdl1_26 hf_2
  obtain ⟨x3, rfl, m3⟩ := rd_int1 Tryd.underlying3 hf_3
  obtain ⟨x4, rfl, m4⟩ := rdl1_51 hf_4
  exact ⟨⟨x0, x1, x2, x3, x4⟩, rfl, ⟨m0, m1, m2, m3, m4⟩⟩
def MemL_45 (x : SL Go.Dsk.DAct) (h : Hp) (N : Nat) : Prop := x.ro Go.Dsk.encDAct 5 h ∧ x.xs.length ≤ maxLen ∧ x.xs.length ≤ N ∧ ∀ y ∈ x.xs, Mem_DAct y h N
theorem rdl_45 {H : Type} {enc : TypeId × Value → H} {w : World} {N : Nat} {cs : List Value} (h : RdyN enc Tryd.prog w 45 cs N) : ∃ x : SL Go.Dsk.DAct, cs = Go.SL.encSL x ∧ MemL_45 x (hp w) N := by
  obtain ⟨a, cap, xs, rfl, hr, hn, hq⟩ := rdyN_slice (en := Go.Dsk.encDAct) (Q := fun y => Mem_DAct y (hp w) N) (sz := 5) Tryd.underlying45 (by kernel_rfl) (fun _ => rfl) (fun cs h => rd_DAct h) h
  exact ⟨⟨a, xs, cap⟩, rfl, hr, Nat.le_trans hr.2.1 hr.2.2.1, hn, hq⟩
theorem rdl1_45 {H : Type} {enc : TypeId × Value → H} {w : World} {N : Nat} {c : Value} (h : RdyN enc Tryd.prog w 45 [c] N) : ∃ x : SL Go.Dsk.DAct, c = x.v ∧ MemL_45 x (hp w) N := by
  obtain ⟨x, hx, hm⟩ := rdl_45 h
  exact ⟨x, by simpa [Go.SL.encSL] using hx, hm⟩

theorem memD {a : Go.Dsk.DAct} {h : Hp} {N : Nat} (m : Mem_DAct a h N) (hN : N ≤ 2000000) : Go.Dsk.DActM a h ∧ Go.Dsk.actSize a ≤ 4611686018427387904 ∧ a.N ≤ 9223372036854775807 := by
  obtain ⟨_, m1, m2, mN, m3⟩ := m
  exact ⟨⟨m1.1, m2.1, fun s hs => (m2.2.2.2 s hs).1, m3.1⟩, Go.Dsk.size_bd hN m3.2.2.1 m1.2.2.1 (fun n hn => m1.2.2.2 n hn) m2.2.2.1 (fun b hb => (m2.2.2.2 b hb).2.2.1), (wf_i64.1 mN).2⟩

theorem lifted (os : Os) (started : os.Started) (H : Type) (enc : TypeId × Value → H) (F : Stop.Interp) :
    ReturnsInHanded {} Tryd.checked os 6 .any (fun w args => ((Rows.OpenSpec.upto Rows.diskStopsSpec).pre enc Tryd.prog Tryd.f6 Rows.diskStopsUptoRow.domain false w args ∧ laidMetH Tryd.prog Rows.diskStopsUptoRow.laid w) ∧ sizedMet enc Tryd.prog Tryd.f6 (Rows.OpenSpec.upto Rows.diskStopsSpec) false w args) (((Rows.OpenSpec.upto Rows.diskStopsSpec).at F).post enc Tryd.prog Tryd.f6 false true false false) := by
  refine cond_and (C := Tryd.checked) (s := (Rows.OpenSpec.upto Rows.diskStopsSpec)) (k := Rows.uptoSmall) (X := fun w _ => laidMetH Tryd.prog Rows.diskStopsUptoRow.laid w) rfl own started (by kernel_rfl) Tryd.func6
    (witness_cond (enc := enc) (C := Tryd.checked) (os := os) (s := (Rows.OpenSpec.upto Rows.diskStopsSpec)) (k := Rows.uptoSmall) rfl (X := fun w _ => laidMetH Tryd.prog Rows.diskStopsUptoRow.laid w) false (World.laidAll Tryd.prog os Rows.diskStopsUptoRow.laid) #[.int .i64 0, .slice none 0 0, .int .i64 0] 8 (World.laidAll_os _ _ _)
      (World.shaped_of_ZipB (by kernel_rfl) (by kernel_rfl)) (by kernel_rfl) (x := ([.lit (.int .i64 0), .nil, .lit (.int .i64 0)], [], [])) (by kernel_rfl) rfl (by kernel_rfl) (by kernel_rfl)
      (by rw [MakeChecks.laidMetH_plain _ _ _ (by kernel_rfl)]; exact laidMet_laidAll _ (by kernel_rfl) (by kernel_rfl))) ?_
  intro W base args ds gs before hval0 hW _ hk _
  have hval : ∀ (j : Nat) t v, Tryd.f6.params[j]? = some t → args[j]? = some v → Value.okWide Tryd.prog W .any base t v := hval0
  have hW' := hW
  obtain ⟨p, q, hA0, hV, rfl, hfz, hnd⟩ := hW
  have hA : DataW.TrodAll enc Tryd.prog W 0 (fun _ => true) true Tryd.f6.params.toList args.toList ds p := hA0
  rw [Tryd.params6] at hA hval
  obtain ⟨v0, vs0, d0, ds0, p0, q0, hargs, rfl, rfl, h0, r0⟩ := trodAll_cons hA
  obtain ⟨v1, vs1, d1, ds1, p1, q1, rfl, rfl, rfl, h1, r1⟩ := trodAll_cons r0
  obtain ⟨v2, vs2, d2, ds2, p2, q2, rfl, rfl, rfl, h2, r2⟩ := trodAll_cons r1
  obtain ⟨rfl, rfl, rfl⟩ := trodAll_nil r2
  obtain rfl : args = #[v0, v1, v2] := by cases args; simp_all
  obtain ⟨rfl, rfl⟩ := trodVars_none hV
  have hkk := of_decide_eq_true hk
  simp only [List.append_nil, Rows.uptoBulkAll] at hkk
  have hb0 : Rows.uptoBulk d0 ≤ 1048576 := by omega
  have hb1 : Rows.uptoBulk d1 ≤ 1048576 := by omega
  have hb2 : Rows.uptoBulk d2 ≤ 1048576 := by omega
  clear hk hkk
  have k0 := h0
  have lt0 : ∀ x ∈ p0, x.block < W.heap.size := by obtain ⟨m, hm⟩ := k0; exact DataW.trod_lt m _ _ _ hm
  obtain ⟨a0, rfl, rfl, rfl, w0⟩ := open_int Tryd.underlying3 (hval 0 3 v0 rfl rfl) h0
  have k1 := h1
  have lt1 : ∀ x ∈ p1, x.block < W.heap.size := by obtain ⟨m, hm⟩ := k1; exact DataW.trod_lt m _ _ _ hm
  obtain ⟨a1, len1, cap1, rfl⟩ := okWide_slice Tryd.underlying45 (hval 1 45 v1 rfl rfl)
  obtain ⟨S1, e1, ro1⟩ := rdl1_45 (rdyN_of h1 hb1)
  simp [SL.v] at e1
  obtain ⟨rfl, rfl, rfl⟩ := e1
  have k2 := h2
  have lt2 : ∀ x ∈ p2, x.block < W.heap.size := by obtain ⟨m, hm⟩ := k2; exact DataW.trod_lt m _ _ _ hm
  obtain ⟨a2, rfl, rfl, rfl, w2⟩ := open_int Tryd.underlying3 (hval 2 3 v2 rfl rfl) h2
  clear hA0 hval0
  refine (law_of_spec (lawish (Go.Dsk.A6.stops_spec a0 S1.a S1.xs.length S1.cap S1.xs rfl a2 (hp W) (wf_i64.1 w0).2 ro1.1 (fun a ha => memD (ro1.2.2.2 a ha) (by decide))))).mono fun e W' ⟨he, bel⟩ => ?_
  subst he
  exact ⟨_, rfl, _, _, _, [], _, [], hW', trodAll_mk1 (shut_bool Tryd.underlying4 _), (trodAll_cons_mk (Below.trod laidOut (by kernel_rfl) (of_decide_eq_true (by kernel_rfl)) k0 bel lt0) (trodAll_cons_mk (Below.trod laidOut (by kernel_rfl) (of_decide_eq_true (by kernel_rfl)) k1 bel lt1) (trodAll_cons_mk (Below.trod laidOut (by kernel_rfl) (of_decide_eq_true (by kernel_rfl)) k2 bel lt2) trodAll_mk0))), rfl, bel.frame _, fun h => by cases h⟩

theorem rowSaid : Rows.DiskStopsUptoSaid :=
  OpenClaim.holds_of_cond 6 Tryd.f6 rfl rfl rfl rfl rfl rfl rfl ⟨rfl, rfl, rfl, rfl, rfl⟩ rfl rfl rfl rfl rfl (by kernel_rfl) Tryd.func6 (by kernel_rfl)
    (of_decide_eq_true (by kernel_rfl)) (by unfold Func.isWrapper; first | (rw [if_pos (by decide +kernel)]; kernel_rfl) | (rw [if_neg (by decide +kernel)]; exact ⟨rfl, rfl⟩))
    (fun os started H enc _ F => lifted os started H enc F)
theorem proved : Rows.DiskStopsUptoCardSaid :=
  Claim7.holds_tied_plain_at .later [] [.data, .pinned] true (true, "4f2e4a11e4df1918cfb247ac24b062a334fc5c8de444e7d280bb37cd5cdfb217") false
    rowSaid (fun _ h => by cases h) (by kernel_rfl) (fun _ h => by cases h) diskStopsUpto_row_tie rfl ⟨rfl, rfl⟩ (by kernel_rfl) rfl
    (fun f fn hf hfn => by
      obtain rfl : f = 6 := Option.some.inj ((show Tryd.prog.funcNamed "echelon/echelonlaw03.DiskStops" = some 6 by kernel_rfl).symm.trans hf) |>.symm
      obtain rfl : fn = Tryd.f6 := (Option.some.inj (Tryd.func6.symm.trans hfn)).symm
      exact ⟨by kernel_rfl, fun j t ht => by
        rw [Tryd.params6] at ht
        have hm : t ∈ [3, 45, 3] := by simpa using Array.mem_of_getElem? ht
        have hall : ([3, 45, 3].all fun u => !Tryd.prog.wantsStandIn u) = true := by kernel_rfl
        exact (show Tryd.prog.wantsStandIn t = false by simpa using List.all_eq_true.1 hall t hm)⟩)
    (by kernel_rfl)
#print axioms proved
end Go.Proofs.YtehaoafnobnneaaDoor.diskStops

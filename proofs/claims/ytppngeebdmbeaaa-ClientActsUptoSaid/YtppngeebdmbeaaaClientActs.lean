/-
  The law 'ClientActs': her frame about her walk: the given statement 'Rows.ClientActsSaid'.
-/
import Derived.Test.YtppngeebdmbeaaaRows
import Derived.Test.YtppngeebdmbeaaaSlU
import Derived.Test.YtppngeebdmbeaaaCliZ
import Derived.WalkKit
import Derived.ProofKit
import Derived.OpenShut
import Derived.ShutString
import Derived.ChangeOld
import Derived.Below
import Derived.JoinedCond
set_option maxRecDepth 100000
set_option linter.unusedVariables false
set_option linter.unusedSimpArgs false
namespace Go.Proofs.Ytppngeebdmbeaaa.clientActs
open Go.ChangeShapes Go.WideShapes Go.ChangeAt Go.RowKit
open Go.ChangeMaps (open_string shut_string)
open Go.SL 

theorem own : ownKnob Try.prog.godebug = none := by kernel_rfl
theorem laidOut : laidOutB Try.prog = true := by kernel_rfl
structure PlayV where
  row : SL Int
  acts : SL Go.Cli.ActV
def encPlay (x : PlayV) : List Value := [x.row.v, x.acts.v]
theorem rd_int {H : Type} {enc : TypeId × Value → H} {P : Program} {w : World} {t : TypeId} {k : IntKind} {cs : List Value} {N : Nat} (ht : P.underlying t = some (.int k)) (h : RdyN enc P w t cs N) : ∃ n, cs = [.int k n] ∧ (Lit.int k n).wf = true := rdy_int ht (h.rdy)
theorem rd_int1 {H : Type} {enc : TypeId × Value → H} {P : Program} {w : World} {t : TypeId} {k : IntKind} {c : Value} {N : Nat} (ht : P.underlying t = some (.int k)) (h : RdyN enc P w t [c] N) : ∃ n, c = .int k n ∧ (Lit.int k n).wf = true := by
  obtain ⟨n, hc, hw⟩ := rd_int ht h
  exact ⟨n, by simpa using hc, hw⟩
theorem rd_bool {H : Type} {enc : TypeId × Value → H} {P : Program} {w : World} {t : TypeId} {cs : List Value} {N : Nat} (ht : P.underlying t = some .bool) (h : RdyN enc P w t cs N) : ∃ b, cs = [.bool b] := by
  obtain ⟨fuel, y, h, -⟩ := h
  obtain ⟨b, hb, -⟩ := DataW.trod_bool ht h
  exact ⟨b, hb⟩
theorem rd_bool1 {H : Type} {enc : TypeId × Value → H} {P : Program} {w : World} {t : TypeId} {c : Value} {N : Nat} (ht : P.underlying t = some .bool) (h : RdyN enc P w t [c] N) : ∃ b, c = .bool b := by
  obtain ⟨n, hc⟩ := rd_bool ht h
  exact ⟨n, by simpa using hc⟩
theorem rd_string {H : Type} {enc : TypeId × Value → H} {P : Program} {w : World} {t : TypeId} {cs : List Value} {N : Nat} (ht : P.underlying t = some .string) (h : RdyN enc P w t cs N) : ∃ s : List UInt8, cs = [.string ⟨s.toArray⟩] ∧ s.length ≤ maxLen := by
  obtain ⟨fuel, y, h, -⟩ := h
  obtain ⟨q, hq, -, hl⟩ := DataW.trod_string ht h
  exact ⟨q.data.toList, hq.trans (by rw [Array.toArray_toList]), by rw [Array.length_toList]; exact hl⟩
theorem rd_string1 {H : Type} {enc : TypeId × Value → H} {P : Program} {w : World} {t : TypeId} {c : Value} {N : Nat} (ht : P.underlying t = some .string) (h : RdyN enc P w t [c] N) : ∃ s : List UInt8, c = .string ⟨s.toArray⟩ ∧ s.length ≤ maxLen := by
  obtain ⟨n, hc, hn⟩ := rd_string ht h
  exact ⟨n, by simpa using hc, hn⟩

def MemL_40 (x : SL Int) (h : Hp) (N : Nat) : Prop := x.ro encI 1 h ∧ x.xs.length ≤ maxLen ∧ x.xs.length ≤ N ∧ ∀ y ∈ x.xs, (Lit.int .i64 y).wf = true
theorem rdl_40 {H : Type} {enc : TypeId × Value → H} {w : World} {N : Nat} {cs : List Value} (h : RdyN enc Try.prog w 40 cs N) : ∃ x : SL Int, cs = encSL x ∧ MemL_40 x (hp w) N := by
  obtain ⟨a, cap, xs, rfl, hr, hn, hq⟩ := rdyN_slice (en := encI) (Q := fun y => (Lit.int .i64 y).wf = true) (sz := 1) Try.underlying40 (by kernel_rfl) (fun _ => rfl) (fun cs h => by obtain ⟨n, e, hw⟩ := rd_int Try.underlying3 h; exact ⟨n, e, hw⟩) h
  exact ⟨⟨a, xs, cap⟩, rfl, hr, Nat.le_trans hr.2.1 hr.2.2.1, hn, hq⟩
theorem rdl1_40 {H : Type} {enc : TypeId × Value → H} {w : World} {N : Nat} {c : Value} (h : RdyN enc Try.prog w 40 [c] N) : ∃ x : SL Int, c = x.v ∧ MemL_40 x (hp w) N := by
  obtain ⟨x, hx, hm⟩ := rdl_40 h
  exact ⟨x, by simpa [encSL] using hx, hm⟩
def Mem_WvV (x : Go.Cli.WvV) (h : Hp) (N : Nat) : Prop := MemL_40 x.after h N ∧ MemL_40 x.clu h N
theorem rd_WvV {H : Type} {enc : TypeId × Value → H} {w : World} {N : Nat} {cs : List Value} (h : RdyN enc Try.prog w 125 cs N) : ∃ x : Go.Cli.WvV, cs = Go.Cli.encW x ∧ Mem_WvV x (hp w) N := by
  obtain ⟨hl, hf⟩ := rdyN_struct Try.underlying125 h
  rw [show Program.cellsOf Try.prog 125 = 3 from by kernel_rfl] at hl
  obtain ⟨c0, c1, c2, rfl⟩ : ∃ c0 c1 c2, cs = [c0, c1, c2] := by
    match cs, hl with
    | [c0, c1, c2], _ => exact ⟨_, _, _, rfl⟩
  have z40 : Program.cellsOf Try.prog 40 = 1 := by kernel_rfl
  have z3 : Program.cellsOf Try.prog 3 = 1 := by kernel_rfl
  simp only [List.mem_cons, List.not_mem_nil, or_false, forall_eq_or_imp, forall_eq, z3, z40] at hf
  obtain ⟨hf_0, hf_1, hf_2⟩ := hf
  simp at hf_0 hf_1 hf_2
  obtain ⟨x0, rfl, m0⟩ := rdl1_40 hf_0
  obtain ⟨x1, rfl, m1⟩ := rdl1_40 hf_1
  obtain ⟨x2, rfl, m2⟩ := rd_int1 Try.underlying3 hf_2
  exact ⟨⟨x0, x1, x2⟩, rfl, ⟨m0, m1⟩⟩
def MemL_46 (x : SL Go.Cli.WvV) (h : Hp) (N : Nat) : Prop := x.ro Go.Cli.encW 3 h ∧ x.xs.length ≤ maxLen ∧ x.xs.length ≤ N ∧ ∀ y ∈ x.xs, Mem_WvV y h N
theorem rdl_46 {H : Type} {enc : TypeId × Value → H} {w : World} {N : Nat} {cs : List Value} (h : RdyN enc Try.prog w 46 cs N) : ∃ x : SL Go.Cli.WvV, cs = encSL x ∧ MemL_46 x (hp w) N := by
  obtain ⟨a, cap, xs, rfl, hr, hn, hq⟩ := rdyN_slice (en := Go.Cli.encW) (Q := fun y => Mem_WvV y (hp w) N) (sz := 3) Try.underlying46 (by kernel_rfl) (fun _ => rfl) (fun cs h => rd_WvV h) h
  exact ⟨⟨a, xs, cap⟩, rfl, hr, Nat.le_trans hr.2.1 hr.2.2.1, hn, hq⟩
theorem rdl1_46 {H : Type} {enc : TypeId × Value → H} {w : World} {N : Nat} {c : Value} (h : RdyN enc Try.prog w 46 [c] N) : ∃ x : SL Go.Cli.WvV, c = x.v ∧ MemL_46 x (hp w) N := by
  obtain ⟨x, hx, hm⟩ := rdl_46 h
  exact ⟨x, by simpa [encSL] using hx, hm⟩
def Mem_AskV (x : Go.Cli.AskV) (h : Hp) (N : Nat) : Prop := MemL_46 x.waves h N
theorem rd_AskV {H : Type} {enc : TypeId × Value → H} {w : World} {N : Nat} {cs : List Value} (h : RdyN enc Try.prog w 54 cs N) : ∃ x : Go.Cli.AskV, cs = Go.Cli.encAsk x ∧ Mem_AskV x (hp w) N := by
  obtain ⟨hl, hf⟩ := rdyN_struct Try.underlying54 h
  rw [show Program.cellsOf Try.prog 54 = 12 from by kernel_rfl] at hl
  obtain ⟨c0, c1, c2, c3, c4, c5, c6, c7, c8, c9, c10, c11, rfl⟩ : ∃ c0 c1 c2 c3 c4 c5 c6 c7 c8 c9 c10 c11, cs = [c0, c1, c2, c3, c4, c5, c6, c7, c8, c9, c10, c11] := by
    match cs, hl with
    | [c0, c1, c2, c3, c4, c5, c6, c7, c8, c9, c10, c11], _ => exact ⟨_, _, _, _, _, _, _, _, _, _, _, _, rfl⟩
  have z3 : Program.cellsOf Try.prog 3 = 1 := by kernel_rfl
  have z50 : Program.cellsOf Try.prog 50 = 7 := by kernel_rfl
  have z52 : Program.cellsOf Try.prog 52 = 2 := by kernel_rfl
  simp only [List.mem_cons, List.not_mem_nil, or_false, forall_eq_or_imp, forall_eq, z3, z50, z52] at hf
  obtain ⟨hf_0, hf_1, hf_2, hf_3, hf_4⟩ := hf
  simp at hf_0 hf_1 hf_2 hf_3 hf_4
  obtain ⟨x0, rfl, m0⟩ := rd_int1 Try.underlying3 hf_0
  obtain ⟨x1, rfl, m1⟩ := rd_int1 Try.underlying3 hf_1
  obtain ⟨x2, rfl, m2⟩ := rd_int1 Try.underlying3 hf_2
  obtain ⟨-, hf_3f⟩ := rdyN_struct Try.underlying50 hf_3
  have z4 : Program.cellsOf Try.prog 4 = 1 := by kernel_rfl
  have z48 : Program.cellsOf Try.prog 48 = 3 := by kernel_rfl
  simp only [List.mem_cons, List.not_mem_nil, or_false, forall_eq_or_imp, forall_eq, z3, z4, z48] at hf_3f
  obtain ⟨hf_3f_0, hf_3f_1, hf_3f_2, hf_3f_3, hf_3f_4⟩ := hf_3f
  simp at hf_3f_0 hf_3f_1 hf_3f_2 hf_3f_3 hf_3f_4
  obtain ⟨x3, rfl, m3⟩ := rd_int1 Try.underlying3 hf_3f_0
  obtain ⟨x4, rfl, m4⟩ := rd_int1 Try.underlying3 hf_3f_1
  obtain ⟨x5, rfl, m5⟩ := rd_int1 Try.underlying3 hf_3f_2
  obtain ⟨x6, rfl⟩ := rd_bool1 Try.underlying4 hf_3f_3
  obtain ⟨-, hf_3f_4f⟩ := rdyN_struct Try.underlying48 hf_3f_4
  have z46 : Program.cellsOf Try.prog 46 = 1 := by kernel_rfl
  simp only [List.mem_cons, List.not_mem_nil, or_false, forall_eq_or_imp, forall_eq, z3, z46] at hf_3f_4f
  obtain ⟨hf_3f_4f_0, hf_3f_4f_1, hf_3f_4f_2⟩ := hf_3f_4f
  simp at hf_3f_4f_0 hf_3f_4f_1 hf_3f_4f_2
  obtain ⟨x7, rfl, m7⟩ := rd_int1 Try.underlying3 hf_3f_4f_0
  obtain ⟨x8, rfl, m8⟩ := rd_int1 Try.underlying3 hf_3f_4f_1
  obtain ⟨x9, rfl, m9⟩ := rdl1_46 hf_3f_4f_2
  obtain ⟨-, hf_4f⟩ := rdyN_struct Try.underlying52 hf_4
  simp only [List.mem_cons, List.not_mem_nil, or_false, forall_eq_or_imp, forall_eq, z3] at hf_4f
  obtain ⟨hf_4f_0, hf_4f_1⟩ := hf_4f
  simp at hf_4f_0 hf_4f_1
  obtain ⟨x10, rfl, m10⟩ := rd_int1 Try.underlying3 hf_4f_0
  obtain ⟨x11, rfl, m11⟩ := rd_int1 Try.underlying3 hf_4f_1
  exact ⟨⟨x0, x1, x2, x3, x4, x5, x6, x7, x8, x9, x10, x11⟩, rfl, m9⟩
def Mem_PlV (x : Go.Cli.PlV) (h : Hp) (N : Nat) : Prop := True
theorem rd_PlV {H : Type} {enc : TypeId × Value → H} {w : World} {N : Nat} {cs : List Value} (h : RdyN enc Try.prog w 130 cs N) : ∃ x : Go.Cli.PlV, cs = Go.Cli.encPl x ∧ Mem_PlV x (hp w) N := by
  obtain ⟨hl, hf⟩ := rdyN_struct Try.underlying130 h
  rw [show Program.cellsOf Try.prog 130 = 5 from by kernel_rfl] at hl
  obtain ⟨c0, c1, c2, c3, c4, rfl⟩ : ∃ c0 c1 c2 c3 c4, cs = [c0, c1, c2, c3, c4] := by
    match cs, hl with
    | [c0, c1, c2, c3, c4], _ => exact ⟨_, _, _, _, _, rfl⟩
  have z3 : Program.cellsOf Try.prog 3 = 1 := by kernel_rfl
  simp only [List.mem_cons, List.not_mem_nil, or_false, forall_eq_or_imp, forall_eq, z3] at hf
  obtain ⟨hf_0, hf_1, hf_2, hf_3, hf_4⟩ := hf
  simp at hf_0 hf_1 hf_2 hf_3 hf_4
  obtain ⟨x0, rfl, m0⟩ := rd_int1 Try.underlying3 hf_0
  obtain ⟨x1, rfl, m1⟩ := rd_int1 Try.underlying3 hf_1
  obtain ⟨x2, rfl, m2⟩ := rd_int1 Try.underlying3 hf_2
  obtain ⟨x3, rfl, m3⟩ := rd_int1 Try.underlying3 hf_3
  obtain ⟨x4, rfl, m4⟩ := rd_int1 Try.underlying3 hf_4
  exact ⟨⟨x0, x1, x2, x3, x4⟩, rfl, trivial⟩
def MemL_59 (x : SL Go.Cli.PlV) (h : Hp) (N : Nat) : Prop := x.ro Go.Cli.encPl 5 h ∧ x.xs.length ≤ maxLen ∧ x.xs.length ≤ N ∧ ∀ y ∈ x.xs, Mem_PlV y h N
theorem rdl_59 {H : Type} {enc : TypeId × Value → H} {w : World} {N : Nat} {cs : List Value} (h : RdyN enc Try.prog w 59 cs N) : ∃ x : SL Go.Cli.PlV, cs = encSL x ∧ MemL_59 x (hp w) N := by
  obtain ⟨a, cap, xs, rfl, hr, hn, hq⟩ := rdyN_slice (en := Go.Cli.encPl) (Q := fun y => Mem_PlV y (hp w) N) (sz := 5) Try.underlying59 (by kernel_rfl) (fun _ => rfl) (fun cs h => rd_PlV h) h
  exact ⟨⟨a, xs, cap⟩, rfl, hr, Nat.le_trans hr.2.1 hr.2.2.1, hn, hq⟩
theorem rdl1_59 {H : Type} {enc : TypeId × Value → H} {w : World} {N : Nat} {c : Value} (h : RdyN enc Try.prog w 59 [c] N) : ∃ x : SL Go.Cli.PlV, c = x.v ∧ MemL_59 x (hp w) N := by
  obtain ⟨x, hx, hm⟩ := rdl_59 h
  exact ⟨x, by simpa [encSL] using hx, hm⟩
def MemL_60 (x : SL Bool) (h : Hp) (N : Nat) : Prop := x.ro encO 1 h ∧ x.xs.length ≤ maxLen ∧ x.xs.length ≤ N ∧ ∀ y ∈ x.xs, True
theorem rdl_60 {H : Type} {enc : TypeId × Value → H} {w : World} {N : Nat} {cs : List Value} (h : RdyN enc Try.prog w 60 cs N) : ∃ x : SL Bool, cs = encSL x ∧ MemL_60 x (hp w) N := by
  obtain ⟨a, cap, xs, rfl, hr, hn, hq⟩ := rdyN_slice (en := encO) (Q := fun y => True) (sz := 1) Try.underlying60 (by kernel_rfl) (fun _ => rfl) (fun cs h => by obtain ⟨n, e⟩ := rd_bool Try.underlying4 h; exact ⟨n, e, trivial⟩) h
  exact ⟨⟨a, xs, cap⟩, rfl, hr, Nat.le_trans hr.2.1 hr.2.2.1, hn, hq⟩
theorem rdl1_60 {H : Type} {enc : TypeId × Value → H} {w : World} {N : Nat} {c : Value} (h : RdyN enc Try.prog w 60 [c] N) : ∃ x : SL Bool, c = x.v ∧ MemL_60 x (hp w) N := by
  obtain ⟨x, hx, hm⟩ := rdl_60 h
  exact ⟨x, by simpa [encSL] using hx, hm⟩
def Mem_RepV (x : Go.Cli.RepV) (h : Hp) (N : Nat) : Prop := MemL_59 x.places h N ∧ MemL_60 x.over h N ∧ MemL_40 x.sicks h N
theorem rd_RepV {H : Type} {enc : TypeId × Value → H} {w : World} {N : Nat} {cs : List Value} (h : RdyN enc Try.prog w 64 cs N) : ∃ x : Go.Cli.RepV, cs = Go.Cli.encRep x ∧ Mem_RepV x (hp w) N := by
  obtain ⟨hl, hf⟩ := rdyN_struct Try.underlying64 h
  rw [show Program.cellsOf Try.prog 64 = 13 from by kernel_rfl] at hl
  obtain ⟨c0, c1, c2, c3, c4, c5, c6, c7, c8, c9, c10, c11, c12, rfl⟩ : ∃ c0 c1 c2 c3 c4 c5 c6 c7 c8 c9 c10 c11 c12, cs = [c0, c1, c2, c3, c4, c5, c6, c7, c8, c9, c10, c11, c12] := by
    match cs, hl with
    | [c0, c1, c2, c3, c4, c5, c6, c7, c8, c9, c10, c11, c12], _ => exact ⟨_, _, _, _, _, _, _, _, _, _, _, _, _, rfl⟩
  have z3 : Program.cellsOf Try.prog 3 = 1 := by kernel_rfl
  have z33 : Program.cellsOf Try.prog 33 = 1 := by kernel_rfl
  have z62 : Program.cellsOf Try.prog 62 = 8 := by kernel_rfl
  simp only [List.mem_cons, List.not_mem_nil, or_false, forall_eq_or_imp, forall_eq, z3, z33, z62] at hf
  obtain ⟨hf_0, hf_1, hf_2, hf_3, hf_4, hf_5⟩ := hf
  simp at hf_0 hf_1 hf_2 hf_3 hf_4 hf_5
  obtain ⟨x0, rfl, m0⟩ := rd_int1 Try.underlying3 hf_0
  obtain ⟨x1, rfl, m1⟩ := rd_int1 Try.underlying3 hf_1
  obtain ⟨x2, rfl, m2⟩ := rd_int1 Try.underlying33 hf_2
  obtain ⟨x3, rfl, m3⟩ := rd_int1 Try.underlying3 hf_3
  obtain ⟨x4, rfl, m4⟩ := rd_int1 Try.underlying3 hf_4
  obtain ⟨-, hf_5f⟩ := rdyN_struct Try.underlying62 hf_5
  have z59 : Program.cellsOf Try.prog 59 = 1 := by kernel_rfl
  have z60 : Program.cellsOf Try.prog 60 = 1 := by kernel_rfl
  have z40 : Program.cellsOf Try.prog 40 = 1 := by kernel_rfl
  simp only [List.mem_cons, List.not_mem_nil, or_false, forall_eq_or_imp, forall_eq, z3, z40, z59, z60] at hf_5f
  obtain ⟨hf_5f_0, hf_5f_1, hf_5f_2, hf_5f_3, hf_5f_4, hf_5f_5, hf_5f_6, hf_5f_7⟩ := hf_5f
  simp at hf_5f_0 hf_5f_1 hf_5f_2 hf_5f_3 hf_5f_4 hf_5f_5 hf_5f_6 hf_5f_7
  obtain ⟨x5, rfl, m5⟩ := rd_int1 Try.underlying3 hf_5f_0
  obtain ⟨x6, rfl, m6⟩ := rd_int1 Try.underlying3 hf_5f_1
  obtain ⟨x7, rfl, m7⟩ := rd_int1 Try.underlying3 hf_5f_2
  obtain ⟨x8, rfl, m8⟩ := rd_int1 Try.underlying3 hf_5f_3
  obtain ⟨x9, rfl, m9⟩ := rd_int1 Try.underlying3 hf_5f_4
  obtain ⟨x10, rfl, m10⟩ := rdl1_59 hf_5f_5
  obtain ⟨x11, rfl, m11⟩ := rdl1_60 hf_5f_6
  obtain ⟨x12, rfl, m12⟩ := rdl1_40 hf_5f_7
  exact ⟨⟨x0, x1, x2, x3, x4, x5, x6, x7, x8, x9, x10, x11, x12⟩, rfl, ⟨m10, m11, m12⟩⟩
def MemL_58 (x : SL Go.Cli.RepV) (h : Hp) (N : Nat) : Prop := x.ro Go.Cli.encRep 13 h ∧ x.xs.length ≤ maxLen ∧ x.xs.length ≤ N ∧ ∀ y ∈ x.xs, Mem_RepV y h N
theorem rdl_58 {H : Type} {enc : TypeId × Value → H} {w : World} {N : Nat} {cs : List Value} (h : RdyN enc Try.prog w 58 cs N) : ∃ x : SL Go.Cli.RepV, cs = encSL x ∧ MemL_58 x (hp w) N := by
  obtain ⟨a, cap, xs, rfl, hr, hn, hq⟩ := rdyN_slice (en := Go.Cli.encRep) (Q := fun y => Mem_RepV y (hp w) N) (sz := 13) Try.underlying58 (by kernel_rfl) (fun _ => rfl) (fun cs h => rd_RepV h) h
  exact ⟨⟨a, xs, cap⟩, rfl, hr, Nat.le_trans hr.2.1 hr.2.2.1, hn, hq⟩
theorem rdl1_58 {H : Type} {enc : TypeId × Value → H} {w : World} {N : Nat} {c : Value} (h : RdyN enc Try.prog w 58 [c] N) : ∃ x : SL Go.Cli.RepV, c = x.v ∧ MemL_58 x (hp w) N := by
  obtain ⟨x, hx, hm⟩ := rdl_58 h
  exact ⟨x, by simpa [encSL] using hx, hm⟩
def Mem_ActV (x : Go.Cli.ActV) (h : Hp) (N : Nat) : Prop := Mem_AskV x.ask h N ∧ MemL_58 x.rs h N
theorem rd_ActV {H : Type} {enc : TypeId × Value → H} {w : World} {N : Nat} {cs : List Value} (h : RdyN enc Try.prog w 76 cs N) : ∃ x : Go.Cli.ActV, cs = Go.Cli.encAct x ∧ Mem_ActV x (hp w) N := by
  obtain ⟨hl, hf⟩ := rdyN_struct Try.underlying76 h
  rw [show Program.cellsOf Try.prog 76 = 14 from by kernel_rfl] at hl
  obtain ⟨c0, c1, c2, c3, c4, c5, c6, c7, c8, c9, c10, c11, c12, c13, rfl⟩ : ∃ c0 c1 c2 c3 c4 c5 c6 c7 c8 c9 c10 c11 c12 c13, cs = [c0, c1, c2, c3, c4, c5, c6, c7, c8, c9, c10, c11, c12, c13] := by
    match cs, hl with
    | [c0, c1, c2, c3, c4, c5, c6, c7, c8, c9, c10, c11, c12, c13], _ => exact ⟨_, _, _, _, _, _, _, _, _, _, _, _, _, _, rfl⟩
  have z3 : Program.cellsOf Try.prog 3 = 1 := by kernel_rfl
  have z54 : Program.cellsOf Try.prog 54 = 12 := by kernel_rfl
  have z58 : Program.cellsOf Try.prog 58 = 1 := by kernel_rfl
  simp only [List.mem_cons, List.not_mem_nil, or_false, forall_eq_or_imp, forall_eq, z3, z54, z58] at hf
  obtain ⟨hf_0, hf_1, hf_2⟩ := hf
  simp at hf_0 hf_1 hf_2
  obtain ⟨x0, rfl, m0⟩ := rd_int1 Try.underlying3 hf_0
  obtain ⟨x1, e1, m1⟩ := rd_AskV hf_1
  simp only [Go.Cli.encAsk, List.cons.injEq, and_true] at e1
  obtain ⟨rfl, rfl, rfl, rfl, rfl, rfl, rfl, rfl, rfl, rfl, rfl, rfl⟩ := e1
  obtain ⟨x2, rfl, m2⟩ := rdl1_58 hf_2
  exact ⟨⟨x0, x1, x2⟩, rfl, ⟨m1, m2⟩⟩
def MemL_69 (x : SL Go.Cli.ActV) (h : Hp) (N : Nat) : Prop := x.ro Go.Cli.encAct 14 h ∧ x.xs.length ≤ maxLen ∧ x.xs.length ≤ N ∧ ∀ y ∈ x.xs, Mem_ActV y h N
theorem rdl_69 {H : Type} {enc : TypeId × Value → H} {w : World} {N : Nat} {cs : List Value} (h : RdyN enc Try.prog w 69 cs N) : ∃ x : SL Go.Cli.ActV, cs = encSL x ∧ MemL_69 x (hp w) N := by
  obtain ⟨a, cap, xs, rfl, hr, hn, hq⟩ := rdyN_slice (en := Go.Cli.encAct) (Q := fun y => Mem_ActV y (hp w) N) (sz := 14) Try.underlying69 (by kernel_rfl) (fun _ => rfl) (fun cs h => rd_ActV h) h
  exact ⟨⟨a, xs, cap⟩, rfl, hr, Nat.le_trans hr.2.1 hr.2.2.1, hn, hq⟩
theorem rdl1_69 {H : Type} {enc : TypeId × Value → H} {w : World} {N : Nat} {c : Value} (h : RdyN enc Try.prog w 69 [c] N) : ∃ x : SL Go.Cli.ActV, c = x.v ∧ MemL_69 x (hp w) N := by
  obtain ⟨x, hx, hm⟩ := rdl_69 h
  exact ⟨x, by simpa [encSL] using hx, hm⟩
def Mem_PlayV (x : PlayV) (h : Hp) (N : Nat) : Prop := MemL_40 x.row h N ∧ MemL_69 x.acts h N
theorem rd_PlayV {H : Type} {enc : TypeId × Value → H} {w : World} {N : Nat} {cs : List Value} (h : RdyN enc Try.prog w 71 cs N) : ∃ x : PlayV, cs = encPlay x ∧ Mem_PlayV x (hp w) N := by
  obtain ⟨hl, hf⟩ := rdyN_struct Try.underlying71 h
  rw [show Program.cellsOf Try.prog 71 = 2 from by kernel_rfl] at hl
  obtain ⟨c0, c1, rfl⟩ : ∃ c0 c1, cs = [c0, c1] := by
    match cs, hl with
    | [c0, c1], _ => exact ⟨_, _, rfl⟩
  have z40 : Program.cellsOf Try.prog 40 = 1 := by kernel_rfl
  have z69 : Program.cellsOf Try.prog 69 = 1 := by kernel_rfl
  simp only [List.mem_cons, List.not_mem_nil, or_false, forall_eq_or_imp, forall_eq, z40, z69] at hf
  obtain ⟨hf_0, hf_1⟩ := hf
  simp at hf_0 hf_1
  obtain ⟨x0, rfl, m0⟩ := rdl1_40 hf_0
  obtain ⟨x1, rfl, m1⟩ := rdl1_69 hf_1
  exact ⟨⟨x0, x1⟩, rfl, ⟨m0, m1⟩⟩

theorem memW {w : SL Go.Cli.WvV} {h : Hp} {N : Nat} (m : MemL_46 w h N) (hN : N ≤ 2000000) : Go.Cli.AskMem w h ∧ Go.Cli.Big w :=
  ⟨⟨m.1, fun v hv => ⟨(m.2.2.2 v hv).1.1, (m.2.2.2 v hv).2.1⟩⟩, Nat.le_trans m.2.2.1 hN, fun v hv => ⟨Nat.le_trans (m.2.2.2 v hv).1.2.2.1 hN, Nat.le_trans (m.2.2.2 v hv).2.2.2.1 hN⟩⟩
theorem memA {a : Go.Cli.ActV} {h : Hp} {N : Nat} (m : Mem_ActV a h N) (hN : N ≤ 2000000) : Go.Cli.ActMem a h ∧ Go.Cli.ActBig a :=
  ⟨⟨(memW m.1 hN).1, m.2.1, fun q hq => ⟨(m.2.2.2.2 q hq).1.1, (m.2.2.2.2 q hq).2.1.1, (m.2.2.2.2 q hq).2.2.1⟩⟩, (memW m.1 hN).2, fun q hq => ⟨Nat.le_trans (m.2.2.2.2 q hq).1.2.2.1 hN, Nat.le_trans (m.2.2.2.2 q hq).2.1.2.2.1 hN, Nat.le_trans (m.2.2.2.2 q hq).2.2.2.2.1 hN⟩⟩

theorem lifted (os : Os) (started : os.Started) (H : Type) (enc : TypeId × Value → H) (F : Stop.Interp) :
    ReturnsInHanded {} Try.checked os 9 .any ((Rows.OpenSpec.upto Rows.clientActsSpec).pre6 enc Try.prog Try.f9 Rows.clientActsUptoRow.domain false) (((Rows.OpenSpec.upto Rows.clientActsSpec).at F).post enc Try.prog Try.f9 false true false false) := by
  refine returnsInHanded_of_cond (C := Try.checked) (s := Rows.OpenSpec.upto Rows.clientActsSpec) (k := Rows.uptoSmall) rfl own started (by kernel_rfl) Try.func9
    (OpenSpec.witness (enc := enc) (C := Try.checked) (s := Rows.OpenSpec.upto Rows.clientActsSpec) (k := Rows.uptoSmall) rfl false ⟨#[], #[.int .i64 0, .int .i64 0, .agg #[.slice none 0 0, .slice none 0 0]], []⟩ 8 (by kernel_rfl) (by kernel_rfl) (by kernel_rfl)
      (x := ([.lit (.int .i64 0), .lit (.int .i64 0), .agg [.nil, .nil]], [], [])) (by kernel_rfl) rfl (by kernel_rfl)) ?_
  intro W base args ds gs before hval0 hW _ hk _
  have hval : ∀ (j : Nat) t v, Try.f9.params[j]? = some t → args[j]? = some v → Value.okWide Try.prog W .any base t v := hval0
  have hW' := hW
  obtain ⟨p, q, hA0, hV, rfl, hfz, hnd⟩ := hW
  have hA : DataW.TrodAll enc Try.prog W 0 (fun _ => true) true Try.f9.params.toList args.toList ds p := hA0
  rw [Try.params9] at hA hval
  obtain ⟨v0, vs0, d0, ds0, p0, q0, hargs, rfl, rfl, h0, r0⟩ := trodAll_cons hA
  obtain ⟨v1, vs1, d1, ds1, p1, q1, rfl, rfl, rfl, h1, r1⟩ := trodAll_cons r0
  obtain ⟨v2, vs2, d2, ds2, p2, q2, rfl, rfl, rfl, h2, r2⟩ := trodAll_cons r1
  obtain ⟨rfl, rfl, rfl⟩ := trodAll_nil r2
  obtain rfl : args = #[v0, v1, v2] := by cases args; simp_all
  obtain ⟨rfl, rfl⟩ := trodVars_none hV
  have hkk := of_decide_eq_true hk
  simp only [List.append_nil, Rows.uptoBulkAll] at hkk
  have hb0 : Rows.uptoBulk d0 ≤ 1048576 := by omega
  have hb1 : Rows.uptoBulk d1 ≤ 1048576 := by omega
  have hb2 : Rows.uptoBulk d2 ≤ 1048576 := by omega
  clear hk hkk
  have k0 := h0
  have lt0 : ∀ x ∈ p0, x.block < W.heap.size := by obtain ⟨m, hm⟩ := k0; exact DataW.trod_lt m _ _ _ hm
  obtain ⟨a0, rfl, rfl, rfl, w0⟩ := open_int Try.underlying3 (hval 0 3 v0 rfl rfl) h0
  have k1 := h1
  have lt1 : ∀ x ∈ p1, x.block < W.heap.size := by obtain ⟨m, hm⟩ := k1; exact DataW.trod_lt m _ _ _ hm
  obtain ⟨a1, rfl, rfl, rfl, w1⟩ := open_int Try.underlying3 (hval 1 3 v1 rfl rfl) h1
  have k2 := h2
  have lt2 : ∀ x ∈ p2, x.block < W.heap.size := by obtain ⟨m, hm⟩ := k2; exact DataW.trod_lt m _ _ _ hm
  obtain ⟨cs2, rfl, sz2⟩ := okWide_struct Try.underlying71 (hval 2 71 v2 rfl rfl)
  obtain ⟨S2, e2, ro2⟩ := rd_PlayV (rdyN_of h2 hb2)
  obtain rfl : cs2 = (encPlay S2).toArray := by rw [← e2]; simp [Value.cells]
  clear hA0 hval0
  refine (law_of_spec (lawish (Go.CliZ.acts_spec a0 a1 S2.row S2.acts (hp W) ro2.1.1 ro2.2.1 (fun a ha => (memA (ro2.2.2.2.2 a ha) (by decide)).1) (fun a ha => (memA (ro2.2.2.2.2 a ha) (by decide)).2)))).mono fun e W' ⟨he, bel⟩ => ?_
  subst he
  exact ⟨_, rfl, _, _, _, [], _, [], hW', trodAll_mk1 (shut_bool Try.underlying4 _), (trodAll_cons_mk (Below.trod laidOut (by kernel_rfl) (of_decide_eq_true (by kernel_rfl)) k0 bel lt0) (trodAll_cons_mk (Below.trod laidOut (by kernel_rfl) (of_decide_eq_true (by kernel_rfl)) k1 bel lt1) (trodAll_cons_mk (Below.trod laidOut (by kernel_rfl) (of_decide_eq_true (by kernel_rfl)) k2 bel lt2) trodAll_mk0))), rfl, bel.frame _, fun h => by cases h⟩

theorem proved : Rows.ClientActsUptoSaid :=
  OpenClaim.holds_of_cond 9 Try.f9 rfl rfl rfl rfl rfl rfl rfl ⟨rfl, rfl, rfl, rfl, rfl⟩ rfl rfl rfl rfl rfl (by kernel_rfl) Try.func9 (by kernel_rfl)
    (of_decide_eq_true (by kernel_rfl)) (by unfold Func.isWrapper; first | (rw [if_pos (by decide +kernel)]; kernel_rfl) | (rw [if_neg (by decide +kernel)]; exact ⟨rfl, rfl⟩))
    (fun os started H enc _ F => lifted os started H enc F)
#print axioms proved
end Go.Proofs.Ytppngeebdmbeaaa.clientActs

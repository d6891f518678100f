/-
  The engine, part Za: strings cut short. Own work.
-/
import Derived.Test.YtehaoafnobnneaaGreatDoorSlZ
import Derived.Sort.Walk0
set_option linter.unusedVariables false
set_option linter.unusedSimpArgs false
set_option linter.unusedSectionVars false
namespace Go.SL
open Go
section
variable {P : Program} {E : World} {ρ : Hp} {n : Fz} {σ : Slots} {Γ Γ' : List Asn} {ty : TypeId} {x y z : Operand} {T T' : TypeId}
theorem strB_cut (bs : List UInt8) (l h : Nat) : (⟨bs.toArray⟩ : ByteArray).extract l h = ⟨((bs.take h).drop l).toArray⟩ := by
  apply ByteArray.ext
  rw [ByteArray.data_extract]
  apply Array.ext'
  rw [Array.toList_extract]
  show (bs.drop l).take (h - l) = (bs.take h).drop l
  rw [List.drop_take]
theorem q_cuts_hi {k : IntKind} {i : Int} {bs : List UInt8} (hT : P.underlying T = some .string) (hx : evo σ x = some (strB bs)) (hy : evo σ y = some (.int k i)) (h0 : 0 ≤ i) (h1 : i ≤ bs.length) :
    OpQ P E ρ n σ Γ (.slice T x none (some y) none) ty (strB (bs.take i.toNat)) := fun a w e s => by
  have hs : (⟨bs.toArray⟩ : ByteArray).size = bs.length := by simp [ByteArray.size]
  have hc := strB_cut bs 0 i.toNat
  rw [List.drop_zero] at hc
  simp [exo, execOp, e.eval hx, e.eval hy, Instr.sliceAt, Instr.slice, underlying, hT, Instr.sliceBounds, Instr.sliceBound, asIntOf, strB, hs, h0, h1, hc]
theorem q_cuts_lo {k : IntKind} {i : Int} {bs : List UInt8} (hT : P.underlying T = some .string) (hx : evo σ x = some (strB bs)) (hy : evo σ y = some (.int k i)) (h0 : 0 ≤ i) (h1 : i ≤ bs.length) :
    OpQ P E ρ n σ Γ (.slice T x (some y) none none) ty (strB (bs.drop i.toNat)) := fun a w e s => by
  have hs : (⟨bs.toArray⟩ : ByteArray).size = bs.length := by simp [ByteArray.size]
  have hc := strB_cut bs i.toNat bs.length
  rw [List.take_length] at hc
  simp [exo, execOp, e.eval hx, e.eval hy, Instr.sliceAt, Instr.slice, underlying, hT, Instr.sliceBounds, Instr.sliceBound, asIntOf, strB, hs, h0, h1, hc]
theorem strB_toList (p : List UInt8) : (⟨p.toArray⟩ : ByteArray).toList = p := by rw [Lib.toList_data]
theorem q_lsssB {p q : List UInt8} (hx : evo σ x = some (strB p)) (hy : evo σ y = some (strB q)) : OpQ P E ρ n σ Γ (.binOp .lss T x y T') ty (.bool (decide (p < q))) :=
  run_binOp_any hx hy (fun w => by simp [eqGuard, strB]) fun w => by
    have h : Op.bytesLess (⟨p.toArray⟩ : ByteArray).toList (⟨q.toArray⟩ : ByteArray).toList = decide (p < q) := by rw [strB_toList, strB_toList]; exact Go.Proofs.bytesLess_eq p q
    show (Op.stringOp .lss ⟨p.toArray⟩ ⟨q.toArray⟩).run P w = _
    unfold Op.stringOp
    simp only [h]
    rfl
end
end Go.SL

/-
  The engine, part Z: strings indexed; strings compared by order. Own work.
-/
import Derived.Test.YtehaoafnobnneaaGreatDoorSlY
set_option linter.unusedVariables false
set_option linter.unusedSimpArgs false
set_option linter.unusedSectionVars false
namespace Go.SL
open Go
section
variable {P : Program} {E : World} {ρ : Hp} {n : Fz} {σ : Slots} {Γ Γ' : List Asn} {ty : TypeId} {x y z : Operand} {T T' : TypeId}
theorem q_indexs {k : IntKind} {i : Int} {bs : List UInt8} (j : Nat) (hT : P.underlying T = some .string) (hx : evo σ x = some (strB bs)) (hy : evo σ y = some (.int k i)) (hij : i = (j : Int)) (hj : j < bs.length) :
    OpQ P E ρ n σ Γ (.index T x y) ty (.int .u8 ((bs.getD j default).toNat : Int)) := fun a w e s => by
  subst hij
  have h1 : ¬ ((j : Int) < 0) := by omega
  have hr : (Instr.index T (strB bs) (.int k (j : Int))).run P w = .ok (.int .u8 ((bs.getD j default).toNat : Int)) w := by
    have hg : (⟨bs.toArray⟩ : ByteArray)[j]? = some (bs.getD j default) := by
      have hs : (⟨bs.toArray⟩ : ByteArray).size = bs.length := by simp [ByteArray.size]
      rw [getElem?_pos _ _ (by rw [hs]; exact hj)]
      show some (bs.toArray[j]) = _
      simp [List.getD, hj]
    simp only [Instr.index, asIntOf, Sem.run_bind, Sem.run_pure, run_underlying hT, Result.andThen, strB]
    rw [if_pos (by omega), Int.toNat_natCast, hg]
    rfl
  simp [exo, execOp, e.eval hx, e.eval hy, hr]
end
end Go.SL

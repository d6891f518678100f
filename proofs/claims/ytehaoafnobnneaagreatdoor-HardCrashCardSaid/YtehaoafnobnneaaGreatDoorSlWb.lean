/-
  The engine: bytes as 32-bit words, and back.
-/
import Derived.Test.YtehaoafnobnneaaGreatDoorSlSq
namespace Go.SL
open Go
theorem b2w (c : UInt8) : (c.toNat : Int) = ((c.toBitVec.setWidth 32).toNat : Int) := by
  have h := c.toNat_lt
  rw [BitVec.toNat_setWidth, UInt8.toNat_toBitVec]
  omega
theorem w2b (m : Nat) : IntKind.wrap .u8 (m : Int) = ((UInt8.ofNat m).toNat : Int) := by
  simp [IntKind.wrap, IntKind.bits, IntKind.signed]
end Go.SL

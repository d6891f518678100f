/-
  Sums of bytes (CRC-32C), in plain words. No program in sight.
-/
import Derived.Test.YtehaoafnobnneaaGreatDoorSlWb
set_option linter.unusedVariables false
set_option linter.unusedSimpArgs false
namespace Go.Sm
open Go Go.SL
def bitStep (r : BitVec 32) : BitVec 32 := r >>> 1 ^^^ 2197175160#32 &&& -(r &&& 1#32)
def bitSteps : Nat → BitVec 32 → BitVec 32
  | 0, r => r
  | k + 1, r => bitStep (bitSteps k r)
def stepB (r : BitVec 32) (c : UInt8) : BitVec 32 := bitSteps 8 (r ^^^ c.toBitVec.setWidth 32)
def crcR (r : BitVec 32) (bs : List UInt8) : BitVec 32 := bs.foldl stepB r
def moreB (s : BitVec 32) (bs : List UInt8) : BitVec 32 := ~~~ (crcR (~~~ s) bs)
def sumB (bs : List UInt8) : BitVec 32 := moreB 0#32 bs
def catB (ls : List (SL UInt8)) : List UInt8 := ls.flatMap fun x : SL UInt8 => x.xs
theorem crcR_next {r : BitVec 32} {bs : List UInt8} {k : Nat} (h : k < bs.length) : crcR r (bs.take (k + 1)) = stepB (crcR r (bs.take k)) (bs.getD k default) := by
  rw [take_succ_getD bs k h]; simp [crcR]
theorem crcR_app (r : BitVec 32) (a b : List UInt8) : crcR r (a ++ b) = crcR (crcR r a) b := by simp [crcR]
theorem catB_next {bs : List (SL UInt8)} {k : Nat} (h : k < bs.length) : catB (bs.take (k + 1)) = catB (bs.take k) ++ (bs.getD k default).xs := by
  rw [take_succ_getD bs k h]; simp [catB]
theorem catB_one (x : SL UInt8) : catB [x] = x.xs := by simp [catB]
theorem fits_eq {a b : BitVec 32} : decide ((a.toNat : Int) = (b.toNat : Int)) = decide (a = b) := by
  by_cases h : a = b
  · subst h; simp
  · rw [decide_eq_false h, decide_eq_false]
    intro e; exact h (BitVec.eq_of_toNat_eq (by omega))
end Go.Sm

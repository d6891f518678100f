/- part -/
import Derived.Test.YtijldgggjioccaaGreatDoorSlEb
set_option linter.unusedVariables false
namespace Go.Shf
open Go Go.SL
structure Mark1 where
  Index : Int
  Term : Int
def zMark1 : Mark1 := ⟨0, 0⟩
instance : Inhabited Mark1 := ⟨zMark1⟩
def encMark1 (x : Mark1) : List Value := [.int .i64 x.Index, .int .i64 x.Term]
structure Snap1 where
  Mark : Mark1
  Conf : (SL UInt8)
  Body : (SL UInt8)
def zSnap1 : Snap1 := ⟨zMark1, ⟨none, [], 0⟩, ⟨none, [], 0⟩⟩
instance : Inhabited Snap1 := ⟨zSnap1⟩
def encSnap1 (x : Snap1) : List Value := [.int .i64 x.Mark.Index, .int .i64 x.Mark.Term, x.Conf.v, x.Body.v]
theorem oneSnap1 (x : Snap1) : ∀ u ∈ encSnap1 x, u.oneCell' = true := fun u hu => by
  simp only [encSnap1, List.mem_cons, List.not_mem_nil, or_false] at hu
  rcases hu with rfl | rfl | rfl | rfl <;> rfl
structure Shelf1 where
  d : (Option Nat)
  top : Snap1
  has : Bool
def zShelf1 : Shelf1 := ⟨none, zSnap1, false⟩
instance : Inhabited Shelf1 := ⟨zShelf1⟩
def encShelf1 (x : Shelf1) : List Value := [(ptV x.d), .int .i64 x.top.Mark.Index, .int .i64 x.top.Mark.Term, x.top.Conf.v, x.top.Body.v, .bool x.has]
end Go.Shf

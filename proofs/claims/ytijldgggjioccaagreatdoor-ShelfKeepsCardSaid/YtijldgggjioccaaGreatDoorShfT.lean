/-
  The structures of package shelf.
-/
import Derived.Test.YtijldgggjioccaaGreatDoorSlEb
set_option linter.unusedVariables false
namespace Go.Shf
open Go Go.SL
structure Mark1 where
  Index : Int
  Term : Int
def zMark1 : Mark1 := ⟨0, 0⟩
instance : Inhabited Mark1 := ⟨zMark1⟩
def encMark1 (x : Mark1) : List Value := [.int .i64 x.Index, .int .i64 x.Term]
theorem oneMark1 (x : Mark1) : ∀ u ∈ encMark1 x, u.oneCell' = true := fun u hu => by
  simp only [encMark1, List.mem_cons, List.not_mem_nil, or_false] at hu
  rcases hu with rfl | rfl <;> rfl
theorem oneMark1s (xs : List Mark1) : ∀ u ∈ xs.flatMap encMark1, u.oneCell' = true := fun u hu => by
  obtain ⟨b, _, hb⟩ := List.mem_flatMap.1 hu
  exact oneMark1 b u hb
structure Snap1 where
  Mark : Mark1
  Conf : (SL UInt8)
  Body : (SL UInt8)
def zSnap1 : Snap1 := ⟨zMark1, ⟨none, [], 0⟩, ⟨none, [], 0⟩⟩
instance : Inhabited Snap1 := ⟨zSnap1⟩
def encSnap1 (x : Snap1) : List Value := [.int .i64 x.Mark.Index, .int .i64 x.Mark.Term, x.Conf.v, x.Body.v]
theorem oneSnap1 (x : Snap1) : ∀ u ∈ encSnap1 x, u.oneCell' = true := fun u hu => by
  simp only [encSnap1, List.mem_cons, List.not_mem_nil, or_false] at hu
  rcases hu with rfl | rfl | rfl | rfl <;> rfl
theorem oneSnap1s (xs : List Snap1) : ∀ u ∈ xs.flatMap encSnap1, u.oneCell' = true := fun u hu => by
  obtain ⟨b, _, hb⟩ := List.mem_flatMap.1 hu
  exact oneSnap1 b u hb
structure Shelf1 where
  d : (Option Nat)
  top : Snap1
  has : Bool
def zShelf1 : Shelf1 := ⟨none, zSnap1, false⟩
instance : Inhabited Shelf1 := ⟨zShelf1⟩
def encShelf1 (x : Shelf1) : List Value := [(ptV x.d), .int .i64 x.top.Mark.Index, .int .i64 x.top.Mark.Term, x.top.Conf.v, x.top.Body.v, .bool x.has]
theorem oneShelf1 (x : Shelf1) : ∀ u ∈ encShelf1 x, u.oneCell' = true := fun u hu => by
  simp only [encShelf1, List.mem_cons, List.not_mem_nil, or_false] at hu
  rcases hu with rfl | rfl | rfl | rfl | rfl | rfl <;> rfl
theorem oneShelf1s (xs : List Shelf1) : ∀ u ∈ xs.flatMap encShelf1, u.oneCell' = true := fun u hu => by
  obtain ⟨b, _, hb⟩ := List.mem_flatMap.1 hu
  exact oneShelf1 b u hb
end Go.Shf

/-
  The structures of package disk and of its reference.
-/
import Derived.Test.YtehaoafnobnneaaGreatDoorSlM
set_option linter.unusedVariables false
namespace Go.Dsk
open Go Go.SL
structure File1 where
  b : SH
  safe : Int
def zFile1 : File1 := ⟨⟨none, 0, 0⟩, 0⟩
instance : Inhabited File1 := ⟨zFile1⟩
def encFile1 (x : File1) : List Value := [x.b.v, .int .i64 x.safe]
theorem oneFile1 (x : File1) : ∀ u ∈ encFile1 x, u.oneCell' = true := fun u hu => by
  simp only [encFile1, List.mem_cons, List.not_mem_nil, or_false] at hu
  rcases hu with rfl | rfl <;> rfl
theorem oneFile1s (xs : List File1) : ∀ u ∈ xs.flatMap encFile1, u.oneCell' = true := fun u hu => by
  obtain ⟨b, _, hb⟩ := List.mem_flatMap.1 hu
  exact oneFile1 b u hb
structure Disk1 where
  room : Int
  files : (Option Nat)
  calls : Int
def zDisk1 : Disk1 := ⟨0, none, 0⟩
instance : Inhabited Disk1 := ⟨zDisk1⟩
def encDisk1 (x : Disk1) : List Value := [.int .i64 x.room, .map x.files, .int .i64 x.calls]
theorem oneDisk1 (x : Disk1) : ∀ u ∈ encDisk1 x, u.oneCell' = true := fun u hu => by
  simp only [encDisk1, List.mem_cons, List.not_mem_nil, or_false] at hu
  rcases hu with rfl | rfl | rfl <;> rfl
theorem oneDisk1s (xs : List Disk1) : ∀ u ∈ xs.flatMap encDisk1, u.oneCell' = true := fun u hu => by
  obtain ⟨b, _, hb⟩ := List.mem_flatMap.1 hu
  exact oneDisk1 b u hb
structure RFile where
  Name : (List UInt8)
  B : (SL UInt8)
  Safe : Int
def zRFile : RFile := ⟨[], ⟨none, [], 0⟩, 0⟩
instance : Inhabited RFile := ⟨zRFile⟩
def encRFile (x : RFile) : List Value := [(strB x.Name), x.B.v, .int .i64 x.Safe]
theorem oneRFile (x : RFile) : ∀ u ∈ encRFile x, u.oneCell' = true := fun u hu => by
  simp only [encRFile, List.mem_cons, List.not_mem_nil, or_false] at hu
  rcases hu with rfl | rfl | rfl <;> rfl
theorem oneRFiles (xs : List RFile) : ∀ u ∈ xs.flatMap encRFile, u.oneCell' = true := fun u hu => by
  obtain ⟨b, _, hb⟩ := List.mem_flatMap.1 hu
  exact oneRFile b u hb
structure RDisk where
  Room : Int
  L : SH
  End : Bool
  Calls : Int
def zRDisk : RDisk := ⟨0, ⟨none, 0, 0⟩, false, 0⟩
instance : Inhabited RDisk := ⟨zRDisk⟩
def encRDisk (x : RDisk) : List Value := [.int .i64 x.Room, x.L.v, .bool x.End, .int .i64 x.Calls]
theorem oneRDisk (x : RDisk) : ∀ u ∈ encRDisk x, u.oneCell' = true := fun u hu => by
  simp only [encRDisk, List.mem_cons, List.not_mem_nil, or_false] at hu
  rcases hu with rfl | rfl | rfl | rfl <;> rfl
theorem oneRDisks (xs : List RDisk) : ∀ u ∈ xs.flatMap encRDisk, u.oneCell' = true := fun u hu => by
  obtain ⟨b, _, hb⟩ := List.mem_flatMap.1 hu
  exact oneRDisk b u hb
end Go.Dsk

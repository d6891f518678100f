/-
  The structures of packages agent and order.
-/
import Derived.Test.YtehaoafnobnneaaGreatDoorSlEb
set_option linter.unusedVariables false
namespace Go.Agn
open Go Go.SL
structure Fence1 where
  ID : Int
  Epoch : Int
def zFence1 : Fence1 := ⟨0, 0⟩
instance : Inhabited Fence1 := ⟨zFence1⟩
def encFence1 (x : Fence1) : List Value := [.int .i64 x.ID, .int .i64 x.Epoch]
theorem oneFence1 (x : Fence1) : ∀ u ∈ encFence1 x, u.oneCell' = true := fun u hu => by
  simp only [encFence1, List.mem_cons, List.not_mem_nil, or_false] at hu
  rcases hu with rfl | rfl <;> rfl
theorem oneFence1s (xs : List Fence1) : ∀ u ∈ xs.flatMap encFence1, u.oneCell' = true := fun u hu => by
  obtain ⟨b, _, hb⟩ := List.mem_flatMap.1 hu
  exact oneFence1 b u hb
structure Kept1 where
  Fence : Fence1
  version : Int
  done : Int
  at_ : Int
  to_ : Int
def zKept1 : Kept1 := ⟨zFence1, 0, 0, 0, 0⟩
instance : Inhabited Kept1 := ⟨zKept1⟩
def encKept1 (x : Kept1) : List Value := [.int .i64 x.Fence.ID, .int .i64 x.Fence.Epoch, .int .i64 x.version, .int .i64 x.done, .int .i64 x.at_, .int .i64 x.to_]
theorem oneKept1 (x : Kept1) : ∀ u ∈ encKept1 x, u.oneCell' = true := fun u hu => by
  simp only [encKept1, List.mem_cons, List.not_mem_nil, or_false] at hu
  rcases hu with rfl | rfl | rfl | rfl | rfl | rfl <;> rfl
theorem oneKept1s (xs : List Kept1) : ∀ u ∈ xs.flatMap encKept1, u.oneCell' = true := fun u hu => by
  obtain ⟨b, _, hb⟩ := List.mem_flatMap.1 hu
  exact oneKept1 b u hb
structure Agent1 where
  kept : Kept1
  d : (Option Nat)
  cluster : Int
  work : Int
  worked : Int
  down : Bool
def zAgent1 : Agent1 := ⟨zKept1, none, 0, 0, 0, false⟩
instance : Inhabited Agent1 := ⟨zAgent1⟩
def encAgent1 (x : Agent1) : List Value := [.int .i64 x.kept.Fence.ID, .int .i64 x.kept.Fence.Epoch, .int .i64 x.kept.version, .int .i64 x.kept.done, .int .i64 x.kept.at_, .int .i64 x.kept.to_, (ptV x.d), .int .i64 x.cluster, .int .i64 x.work, .int .i64 x.worked, .bool x.down]
theorem oneAgent1 (x : Agent1) : ∀ u ∈ encAgent1 x, u.oneCell' = true := fun u hu => by
  simp only [encAgent1, List.mem_cons, List.not_mem_nil, or_false] at hu
  rcases hu with rfl | rfl | rfl | rfl | rfl | rfl | rfl | rfl | rfl | rfl | rfl <;> rfl
theorem oneAgent1s (xs : List Agent1) : ∀ u ∈ xs.flatMap encAgent1, u.oneCell' = true := fun u hu => by
  obtain ⟨b, _, hb⟩ := List.mem_flatMap.1 hu
  exact oneAgent1 b u hb
structure Order1 where
  ID : Int
  Epoch : Int
  Cluster : Int
  Version : Int
def zOrder1 : Order1 := ⟨0, 0, 0, 0⟩
instance : Inhabited Order1 := ⟨zOrder1⟩
def encOrder1 (x : Order1) : List Value := [.int .i64 x.ID, .int .i64 x.Epoch, .int .i64 x.Cluster, .int .i64 x.Version]
theorem oneOrder1 (x : Order1) : ∀ u ∈ encOrder1 x, u.oneCell' = true := fun u hu => by
  simp only [encOrder1, List.mem_cons, List.not_mem_nil, or_false] at hu
  rcases hu with rfl | rfl | rfl | rfl <;> rfl
theorem oneOrder1s (xs : List Order1) : ∀ u ∈ xs.flatMap encOrder1, u.oneCell' = true := fun u hu => by
  obtain ⟨b, _, hb⟩ := List.mem_flatMap.1 hu
  exact oneOrder1 b u hb
end Go.Agn

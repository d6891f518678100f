/-
  The structures of package chunk.
-/
import Derived.Test.YtppngeebdmbeaaaSlM
set_option linter.unusedVariables false
namespace Go.Chk
open Go Go.SL
structure Mark where
  Index : Int
  Term : Int
def zMark : Mark := ⟨0, 0⟩
instance : Inhabited Mark := ⟨zMark⟩
def encMark (x : Mark) : List Value := [.int .i64 x.Index, .int .i64 x.Term]
theorem oneMark (x : Mark) : ∀ u ∈ encMark x, u.oneCell' = true := fun u hu => by
  simp only [encMark, List.mem_cons, List.not_mem_nil, or_false] at hu
  rcases hu with rfl | rfl <;> rfl
theorem oneMarks (xs : List Mark) : ∀ u ∈ xs.flatMap encMark, u.oneCell' = true := fun u hu => by
  obtain ⟨b, _, hb⟩ := List.mem_flatMap.1 hu
  exact oneMark b u hb
structure Piece where
  Mark : Mark
  Sum : BitVec 32
  Total : Int
  At : Int
  B : (SL UInt8)
def zPiece : Piece := ⟨zMark, 0, 0, 0, ⟨none, [], 0⟩⟩
instance : Inhabited Piece := ⟨zPiece⟩
def encPiece (x : Piece) : List Value := [.int .i64 x.Mark.Index, .int .i64 x.Mark.Term, .int .u32 (x.Sum.toNat : Int), .int .i64 x.Total, .int .i64 x.At, x.B.v]
theorem onePiece (x : Piece) : ∀ u ∈ encPiece x, u.oneCell' = true := fun u hu => by
  simp only [encPiece, List.mem_cons, List.not_mem_nil, or_false] at hu
  rcases hu with rfl | rfl | rfl | rfl | rfl | rfl <;> rfl
theorem onePieces (xs : List Piece) : ∀ u ∈ xs.flatMap encPiece, u.oneCell' = true := fun u hu => by
  obtain ⟨b, _, hb⟩ := List.mem_flatMap.1 hu
  exact onePiece b u hb
structure Heap where
  most : Int
  of_ : Piece
  on_ : Bool
  b : SH
  there : SH
  left_ : Int
def zHeap : Heap := ⟨0, zPiece, false, ⟨none, 0, 0⟩, ⟨none, 0, 0⟩, 0⟩
instance : Inhabited Heap := ⟨zHeap⟩
def encHeap (x : Heap) : List Value := [.int .i64 x.most, .int .i64 x.of_.Mark.Index, .int .i64 x.of_.Mark.Term, .int .u32 (x.of_.Sum.toNat : Int), .int .i64 x.of_.Total, .int .i64 x.of_.At, x.of_.B.v, .bool x.on_, x.b.v, x.there.v, .int .i64 x.left_]
theorem oneHeap (x : Heap) : ∀ u ∈ encHeap x, u.oneCell' = true := fun u hu => by
  simp only [encHeap, List.mem_cons, List.not_mem_nil, or_false] at hu
  rcases hu with rfl | rfl | rfl | rfl | rfl | rfl | rfl | rfl | rfl | rfl | rfl <;> rfl
theorem oneHeaps (xs : List Heap) : ∀ u ∈ xs.flatMap encHeap, u.oneCell' = true := fun u hu => by
  obtain ⟨b, _, hb⟩ := List.mem_flatMap.1 hu
  exact oneHeap b u hb
structure RHeap where
  Most : Int
  L : (SL Piece)
def zRHeap : RHeap := ⟨0, ⟨none, [], 0⟩⟩
instance : Inhabited RHeap := ⟨zRHeap⟩
def encRHeap (x : RHeap) : List Value := [.int .i64 x.Most, x.L.v]
theorem oneRHeap (x : RHeap) : ∀ u ∈ encRHeap x, u.oneCell' = true := fun u hu => by
  simp only [encRHeap, List.mem_cons, List.not_mem_nil, or_false] at hu
  rcases hu with rfl | rfl <;> rfl
theorem oneRHeaps (xs : List RHeap) : ∀ u ∈ xs.flatMap encRHeap, u.oneCell' = true := fun u hu => by
  obtain ⟨b, _, hb⟩ := List.mem_flatMap.1 hu
  exact oneRHeap b u hb
end Go.Chk

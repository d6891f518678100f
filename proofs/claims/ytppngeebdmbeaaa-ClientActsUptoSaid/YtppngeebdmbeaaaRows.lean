/-
  No cell of these rows narrows 'for every input' (looked for: loops, veiled, ifaces, maps, wideKeys, modest, calm, conditions, laid).
  DERIVED. THE GIVEN ROWS OF THIS SEAT. 11 by the template 'for every input the law returns true; each argument reads behind the call as it read before'; 0 by the template 'total and deterministic' (their statements: YtppngeebdmbeaaaTotals.lean).
  GIVEN WITH THE SEED: the statements are not yours to turn. If you find one false, say at which input.
  Laid BY PROGRAM, IN A SANDBOX (cutbox-rows.mjs): the forced cells as the released guide's own fill.sh prints them over the translation 0dc44debb245ba3d… (all of the seat's roots in one cut). By AI agents, Wed Nov 11 2026. No macro, syntax, notation, axiom, sorry.
-/
import Derived.Test.YtppngeebdmbeaaaChecked
import GoSem.Claim
import GoSem.ClaimJoined
import GoSem.ClaimMapViews
import Derived.JoinedTies
import Derived.KernelRfl
namespace Go.Proofs.Ytppngeebdmbeaaa
/- THE CELL 'sum', in the pinned program and in every row, IS THE sha256 OF THE DUMP (.gsa) THAT YtppngeebdmbeaaaProg.lean LOADS. Nothing in Lean hashes anything: it is a label: what it is worth is what the hold of that sum in a sandbox is worth. -/
noncomputable def Try.pinned : Pinned := { name := "ytppngeebdmbeaaa", sum := "0dc44debb245ba3d63df3a098920571e5053ff58010d6a1ce319de6d5b5b4387", checked := Try.checked }
namespace Rows
def none {H : Type} : Left H := { results := [], args := [] }

/-- 'echelonlaw02.SumBursts': WHATEVER THE INPUT: true; the input reads as it did. -/
def sumBurstsSpec : ChangeSpec := { name := "sumBursts", fn := fun _ => fun
  | [d1, d2, d3] => { results := [.lit (.bool true)], args := [d1, d2, d3] }
  | _ => none }
def sumBurstsRow : OpenClaim := { program := "ytppngeebdmbeaaa", sum := "0dc44debb245ba3d63df3a098920571e5053ff58010d6a1ce319de6d5b5b4387", func := "echelon/echelonlaw02.SumBursts", spec := "sumBursts", apart := false }
def SumBurstsSaid : Prop := sumBurstsRow.holds Try.pinned (OpenSpec.ofChange sumBurstsSpec)

/-- ITS FALSE NEIGHBOUR: 'it returns false'. Refute it at one input. -/
def sumBurstsWrong : ChangeSpec := { name := "sumBursts", fn := fun _ => fun
  | [d1, d2, d3] => { results := [.lit (.bool false)], args := [d1, d2, d3] }
  | _ => none }
def SumBurstsWrongFalsely : Prop := sumBurstsRow.holds Try.pinned (OpenSpec.ofChange sumBurstsWrong)

/-- 'echelonlaw02.SumSums': WHATEVER THE INPUT: true; the input reads as it did. -/
def sumSumsSpec : ChangeSpec := { name := "sumSums", fn := fun _ => fun
  | [d1, d2, d3] => { results := [.lit (.bool true)], args := [d1, d2, d3] }
  | _ => none }
def sumSumsRow : OpenClaim := { program := "ytppngeebdmbeaaa", sum := "0dc44debb245ba3d63df3a098920571e5053ff58010d6a1ce319de6d5b5b4387", func := "echelon/echelonlaw02.SumSums", spec := "sumSums", apart := false }
def SumSumsSaid : Prop := sumSumsRow.holds Try.pinned (OpenSpec.ofChange sumSumsSpec)

/-- ITS FALSE NEIGHBOUR: 'it returns false'. Refute it at one input. -/
def sumSumsWrong : ChangeSpec := { name := "sumSums", fn := fun _ => fun
  | [d1, d2, d3] => { results := [.lit (.bool false)], args := [d1, d2, d3] }
  | _ => none }
def SumSumsWrongFalsely : Prop := sumSumsRow.holds Try.pinned (OpenSpec.ofChange sumSumsWrong)

/-- 'echelonlaw02.SumPieces': WHATEVER THE INPUT: true; the input reads as it did. -/
def sumPiecesSpec : ChangeSpec := { name := "sumPieces", fn := fun _ => fun
  | [d] => { results := [.lit (.bool true)], args := [d] }
  | _ => none }
def sumPiecesRow : OpenClaim := { program := "ytppngeebdmbeaaa", sum := "0dc44debb245ba3d63df3a098920571e5053ff58010d6a1ce319de6d5b5b4387", func := "echelon/echelonlaw02.SumPieces", spec := "sumPieces", apart := false }
def SumPiecesSaid : Prop := sumPiecesRow.holds Try.pinned (OpenSpec.ofChange sumPiecesSpec)

/-- ITS FALSE NEIGHBOUR: 'it returns false'. Refute it at one input. -/
def sumPiecesWrong : ChangeSpec := { name := "sumPieces", fn := fun _ => fun
  | [d] => { results := [.lit (.bool false)], args := [d] }
  | _ => none }
def SumPiecesWrongFalsely : Prop := sumPiecesRow.holds Try.pinned (OpenSpec.ofChange sumPiecesWrong)

/-- 'echelonlaw02.SumFixes': WHATEVER THE INPUT: true; the input reads as it did. -/
def sumFixesSpec : ChangeSpec := { name := "sumFixes", fn := fun _ => fun
  | [d1, d2, d3] => { results := [.lit (.bool true)], args := [d1, d2, d3] }
  | _ => none }
def sumFixesRow : OpenClaim := { program := "ytppngeebdmbeaaa", sum := "0dc44debb245ba3d63df3a098920571e5053ff58010d6a1ce319de6d5b5b4387", func := "echelon/echelonlaw02.SumFixes", spec := "sumFixes", apart := false }
def SumFixesSaid : Prop := sumFixesRow.holds Try.pinned (OpenSpec.ofChange sumFixesSpec)

/-- ITS FALSE NEIGHBOUR: 'it returns false'. Refute it at one input. -/
def sumFixesWrong : ChangeSpec := { name := "sumFixes", fn := fun _ => fun
  | [d1, d2, d3] => { results := [.lit (.bool false)], args := [d1, d2, d3] }
  | _ => none }
def SumFixesWrongFalsely : Prop := sumFixesRow.holds Try.pinned (OpenSpec.ofChange sumFixesWrong)

/-- 'echelonlaw24.ClientTries': WHATEVER THE INPUT: true; the input reads as it did. -/
def clientTriesSpec : ChangeSpec := { name := "clientTries", fn := fun _ => fun
  | [d1, d2, d3] => { results := [.lit (.bool true)], args := [d1, d2, d3] }
  | _ => none }
def clientTriesRow : OpenClaim := { program := "ytppngeebdmbeaaa", sum := "0dc44debb245ba3d63df3a098920571e5053ff58010d6a1ce319de6d5b5b4387", func := "echelon/echelonlaw24.ClientTries", spec := "clientTries", apart := false }
def ClientTriesSaid : Prop := clientTriesRow.holds Try.pinned (OpenSpec.ofChange clientTriesSpec)

/-- ITS FALSE NEIGHBOUR: 'it returns false'. Refute it at one input. -/
def clientTriesWrong : ChangeSpec := { name := "clientTries", fn := fun _ => fun
  | [d1, d2, d3] => { results := [.lit (.bool false)], args := [d1, d2, d3] }
  | _ => none }
def ClientTriesWrongFalsely : Prop := clientTriesRow.holds Try.pinned (OpenSpec.ofChange clientTriesWrong)

/-- 'echelonlaw24.ClientNames': WHATEVER THE INPUT: true; the input reads as it did. -/
def clientNamesSpec : ChangeSpec := { name := "clientNames", fn := fun _ => fun
  | [d1, d2] => { results := [.lit (.bool true)], args := [d1, d2] }
  | _ => none }
def clientNamesRow : OpenClaim := { program := "ytppngeebdmbeaaa", sum := "0dc44debb245ba3d63df3a098920571e5053ff58010d6a1ce319de6d5b5b4387", func := "echelon/echelonlaw24.ClientNames", spec := "clientNames", apart := false }
def ClientNamesSaid : Prop := clientNamesRow.holds Try.pinned (OpenSpec.ofChange clientNamesSpec)

/-- ITS FALSE NEIGHBOUR: 'it returns false'. Refute it at one input. -/
def clientNamesWrong : ChangeSpec := { name := "clientNames", fn := fun _ => fun
  | [d1, d2] => { results := [.lit (.bool false)], args := [d1, d2] }
  | _ => none }
def ClientNamesWrongFalsely : Prop := clientNamesRow.holds Try.pinned (OpenSpec.ofChange clientNamesWrong)

/-- 'echelonlaw24.ClientActs': WHATEVER THE INPUT: true; the input reads as it did. -/
def clientActsSpec : ChangeSpec := { name := "clientActs", fn := fun _ => fun
  | [d1, d2, d3] => { results := [.lit (.bool true)], args := [d1, d2, d3] }
  | _ => none }
def clientActsRow : OpenClaim := { program := "ytppngeebdmbeaaa", sum := "0dc44debb245ba3d63df3a098920571e5053ff58010d6a1ce319de6d5b5b4387", func := "echelon/echelonlaw24.ClientActs", spec := "clientActs", apart := false }
def ClientActsSaid : Prop := clientActsRow.holds Try.pinned (OpenSpec.ofChange clientActsSpec)

/-- ITS FALSE NEIGHBOUR: 'it returns false'. Refute it at one input. -/
def clientActsWrong : ChangeSpec := { name := "clientActs", fn := fun _ => fun
  | [d1, d2, d3] => { results := [.lit (.bool false)], args := [d1, d2, d3] }
  | _ => none }
def ClientActsWrongFalsely : Prop := clientActsRow.holds Try.pinned (OpenSpec.ofChange clientActsWrong)

/-- 'echelonlaw07.ChunkCuts': WHATEVER THE INPUT: true; the input reads as it did. -/
def chunkCutsSpec : ChangeSpec := { name := "chunkCuts", fn := fun _ => fun
  | [d1, d2, d3] => { results := [.lit (.bool true)], args := [d1, d2, d3] }
  | _ => none }
def chunkCutsRow : OpenClaim := { program := "ytppngeebdmbeaaa", sum := "0dc44debb245ba3d63df3a098920571e5053ff58010d6a1ce319de6d5b5b4387", func := "echelon/echelonlaw07.ChunkCuts", spec := "chunkCuts", unfollowed := true, recurses := true, apart := false }
def ChunkCutsSaid : Prop := chunkCutsRow.holds Try.pinned (OpenSpec.ofChange chunkCutsSpec)

/-- ITS FALSE NEIGHBOUR: 'it returns false'. Refute it at one input. -/
def chunkCutsWrong : ChangeSpec := { name := "chunkCuts", fn := fun _ => fun
  | [d1, d2, d3] => { results := [.lit (.bool false)], args := [d1, d2, d3] }
  | _ => none }
def ChunkCutsWrongFalsely : Prop := chunkCutsRow.holds Try.pinned (OpenSpec.ofChange chunkCutsWrong)

/-- 'echelonlaw07.ChunkTakes': WHATEVER THE INPUT: true; the input reads as it did. -/
def chunkTakesSpec : ChangeSpec := { name := "chunkTakes", fn := fun _ => fun
  | [d1, d2, d3] => { results := [.lit (.bool true)], args := [d1, d2, d3] }
  | _ => none }
def chunkTakesRow : OpenClaim := { program := "ytppngeebdmbeaaa", sum := "0dc44debb245ba3d63df3a098920571e5053ff58010d6a1ce319de6d5b5b4387", func := "echelon/echelonlaw07.ChunkTakes", spec := "chunkTakes", unfollowed := true, recurses := true, apart := false }
def ChunkTakesSaid : Prop := chunkTakesRow.holds Try.pinned (OpenSpec.ofChange chunkTakesSpec)

/-- ITS FALSE NEIGHBOUR: 'it returns false'. Refute it at one input. -/
def chunkTakesWrong : ChangeSpec := { name := "chunkTakes", fn := fun _ => fun
  | [d1, d2, d3] => { results := [.lit (.bool false)], args := [d1, d2, d3] }
  | _ => none }
def ChunkTakesWrongFalsely : Prop := chunkTakesRow.holds Try.pinned (OpenSpec.ofChange chunkTakesWrong)

/-- 'echelonlaw07.ChunkBack': WHATEVER THE INPUT: true; the input reads as it did. -/
def chunkBackSpec : ChangeSpec := { name := "chunkBack", fn := fun _ => fun
  | [d1, d2, d3] => { results := [.lit (.bool true)], args := [d1, d2, d3] }
  | _ => none }
def chunkBackRow : OpenClaim := { program := "ytppngeebdmbeaaa", sum := "0dc44debb245ba3d63df3a098920571e5053ff58010d6a1ce319de6d5b5b4387", func := "echelon/echelonlaw07.ChunkBack", spec := "chunkBack", unfollowed := true, recurses := true, apart := false }
def ChunkBackSaid : Prop := chunkBackRow.holds Try.pinned (OpenSpec.ofChange chunkBackSpec)

/-- ITS FALSE NEIGHBOUR: 'it returns false'. Refute it at one input. -/
def chunkBackWrong : ChangeSpec := { name := "chunkBack", fn := fun _ => fun
  | [d1, d2, d3] => { results := [.lit (.bool false)], args := [d1, d2, d3] }
  | _ => none }
def ChunkBackWrongFalsely : Prop := chunkBackRow.holds Try.pinned (OpenSpec.ofChange chunkBackWrong)

/-- 'echelonlaw07.ChunkNewer': WHATEVER THE INPUT: true; the input reads as it did. -/
def chunkNewerSpec : ChangeSpec := { name := "chunkNewer", fn := fun _ => fun
  | [d1, d2, d3] => { results := [.lit (.bool true)], args := [d1, d2, d3] }
  | _ => none }
def chunkNewerRow : OpenClaim := { program := "ytppngeebdmbeaaa", sum := "0dc44debb245ba3d63df3a098920571e5053ff58010d6a1ce319de6d5b5b4387", func := "echelon/echelonlaw07.ChunkNewer", spec := "chunkNewer", unfollowed := true, recurses := true, apart := false }
def ChunkNewerSaid : Prop := chunkNewerRow.holds Try.pinned (OpenSpec.ofChange chunkNewerSpec)

/-- ITS FALSE NEIGHBOUR: 'it returns false'. Refute it at one input. -/
def chunkNewerWrong : ChangeSpec := { name := "chunkNewer", fn := fun _ => fun
  | [d1, d2, d3] => { results := [.lit (.bool false)], args := [d1, d2, d3] }
  | _ => none }
def ChunkNewerWrongFalsely : Prop := chunkNewerRow.holds Try.pinned (OpenSpec.ofChange chunkNewerWrong)

/- THE SECOND FORM. 'bulk': how many values and letters a reading holds, each counted each time it is reached (what is shared counts as often as it is met; a slice's spare places count too). A statement '..UptoSaid' is the law's where the arguments, and the package variables that the reading takes, are together of bulk at most 1048576: NARROWER than '..Said'. Prove '..Said' where nothing that the law and all that it calls make is longer than what came in: it says more and counts as full. Else prove '..UptoSaid'. A law counts once. -/
mutual
def uptoBulk {H : Type} : DataW H → Nat
  | .lit (.string bytes) => bytes.length + 1
  | .lit _ => 1
  | .nil => 1
  | .ptr d => uptoBulk d + 1
  | .slice elems spare => uptoBulkAll elems + uptoBulkAll spare + 1
  | .agg parts => uptoBulkAll parts + 1
  | .iface _ d => uptoBulk d + 1
  | .map entries => uptoBulkEntries entries + 1
  | .held _ => 1
def uptoBulkAll {H : Type} : List (DataW H) → Nat
  | [] => 0
  | d :: r => uptoBulk d + uptoBulkAll r
def uptoBulkEntries {H : Type} : List (Lit × DataW H) → Nat
  | [] => 0
  | x :: r => uptoBulkEntry x + uptoBulkEntries r
def uptoBulkEntry {H : Type} : Lit × DataW H → Nat
  | (.string bytes, d) => bytes.length + uptoBulk d + 1
  | (_, d) => uptoBulk d + 1
 end
def uptoSmall : (H : Type) → List (DataW H) → Bool := fun _ ds => decide (uptoBulkAll ds ≤ 1048576)
def OpenSpec.upto (s : _root_.Go.ChangeSpec) : _root_.Go.OpenSpec := { _root_.Go.OpenSpec.ofChange s with cond := some uptoSmall }

/-- 'echelonlaw02.SumBursts', WHERE WHAT IT READS IS OF BULK AT MOST 1048576: true; the input reads as it did. -/
def sumBurstsUptoRow : OpenClaim := { program := "ytppngeebdmbeaaa", sum := "0dc44debb245ba3d63df3a098920571e5053ff58010d6a1ce319de6d5b5b4387", func := "echelon/echelonlaw02.SumBursts", spec := "sumBursts", apart := false, narrowed := true }
def SumBurstsUptoSaid : Prop := sumBurstsUptoRow.holds Try.pinned (OpenSpec.upto sumBurstsSpec)

/-- 'echelonlaw02.SumSums', WHERE WHAT IT READS IS OF BULK AT MOST 1048576: true; the input reads as it did. -/
def sumSumsUptoRow : OpenClaim := { program := "ytppngeebdmbeaaa", sum := "0dc44debb245ba3d63df3a098920571e5053ff58010d6a1ce319de6d5b5b4387", func := "echelon/echelonlaw02.SumSums", spec := "sumSums", apart := false, narrowed := true }
def SumSumsUptoSaid : Prop := sumSumsUptoRow.holds Try.pinned (OpenSpec.upto sumSumsSpec)

/-- 'echelonlaw02.SumPieces', WHERE WHAT IT READS IS OF BULK AT MOST 1048576: true; the input reads as it did. -/
def sumPiecesUptoRow : OpenClaim := { program := "ytppngeebdmbeaaa", sum := "0dc44debb245ba3d63df3a098920571e5053ff58010d6a1ce319de6d5b5b4387", func := "echelon/echelonlaw02.SumPieces", spec := "sumPieces", apart := false, narrowed := true }
def SumPiecesUptoSaid : Prop := sumPiecesUptoRow.holds Try.pinned (OpenSpec.upto sumPiecesSpec)

/-- 'echelonlaw02.SumFixes', WHERE WHAT IT READS IS OF BULK AT MOST 1048576: true; the input reads as it did. -/
def sumFixesUptoRow : OpenClaim := { program := "ytppngeebdmbeaaa", sum := "0dc44debb245ba3d63df3a098920571e5053ff58010d6a1ce319de6d5b5b4387", func := "echelon/echelonlaw02.SumFixes", spec := "sumFixes", apart := false, narrowed := true }
def SumFixesUptoSaid : Prop := sumFixesUptoRow.holds Try.pinned (OpenSpec.upto sumFixesSpec)

/-- 'echelonlaw24.ClientTries', WHERE WHAT IT READS IS OF BULK AT MOST 1048576: true; the input reads as it did. -/
def clientTriesUptoRow : OpenClaim := { program := "ytppngeebdmbeaaa", sum := "0dc44debb245ba3d63df3a098920571e5053ff58010d6a1ce319de6d5b5b4387", func := "echelon/echelonlaw24.ClientTries", spec := "clientTries", apart := false, narrowed := true }
def ClientTriesUptoSaid : Prop := clientTriesUptoRow.holds Try.pinned (OpenSpec.upto clientTriesSpec)

/-- 'echelonlaw24.ClientNames', WHERE WHAT IT READS IS OF BULK AT MOST 1048576: true; the input reads as it did. -/
def clientNamesUptoRow : OpenClaim := { program := "ytppngeebdmbeaaa", sum := "0dc44debb245ba3d63df3a098920571e5053ff58010d6a1ce319de6d5b5b4387", func := "echelon/echelonlaw24.ClientNames", spec := "clientNames", apart := false, narrowed := true }
def ClientNamesUptoSaid : Prop := clientNamesUptoRow.holds Try.pinned (OpenSpec.upto clientNamesSpec)

/-- 'echelonlaw24.ClientActs', WHERE WHAT IT READS IS OF BULK AT MOST 1048576: true; the input reads as it did. -/
def clientActsUptoRow : OpenClaim := { program := "ytppngeebdmbeaaa", sum := "0dc44debb245ba3d63df3a098920571e5053ff58010d6a1ce319de6d5b5b4387", func := "echelon/echelonlaw24.ClientActs", spec := "clientActs", apart := false, narrowed := true }
def ClientActsUptoSaid : Prop := clientActsUptoRow.holds Try.pinned (OpenSpec.upto clientActsSpec)

/-- 'echelonlaw07.ChunkCuts', WHERE WHAT IT READS IS OF BULK AT MOST 1048576: true; the input reads as it did. -/
def chunkCutsUptoRow : OpenClaim := { program := "ytppngeebdmbeaaa", sum := "0dc44debb245ba3d63df3a098920571e5053ff58010d6a1ce319de6d5b5b4387", func := "echelon/echelonlaw07.ChunkCuts", spec := "chunkCuts", unfollowed := true, recurses := true, apart := false, narrowed := true }
def ChunkCutsUptoSaid : Prop := chunkCutsUptoRow.holds Try.pinned (OpenSpec.upto chunkCutsSpec)

/-- 'echelonlaw07.ChunkTakes', WHERE WHAT IT READS IS OF BULK AT MOST 1048576: true; the input reads as it did. -/
def chunkTakesUptoRow : OpenClaim := { program := "ytppngeebdmbeaaa", sum := "0dc44debb245ba3d63df3a098920571e5053ff58010d6a1ce319de6d5b5b4387", func := "echelon/echelonlaw07.ChunkTakes", spec := "chunkTakes", unfollowed := true, recurses := true, apart := false, narrowed := true }
def ChunkTakesUptoSaid : Prop := chunkTakesUptoRow.holds Try.pinned (OpenSpec.upto chunkTakesSpec)

/-- 'echelonlaw07.ChunkBack', WHERE WHAT IT READS IS OF BULK AT MOST 1048576: true; the input reads as it did. -/
def chunkBackUptoRow : OpenClaim := { program := "ytppngeebdmbeaaa", sum := "0dc44debb245ba3d63df3a098920571e5053ff58010d6a1ce319de6d5b5b4387", func := "echelon/echelonlaw07.ChunkBack", spec := "chunkBack", unfollowed := true, recurses := true, apart := false, narrowed := true }
def ChunkBackUptoSaid : Prop := chunkBackUptoRow.holds Try.pinned (OpenSpec.upto chunkBackSpec)

/-- 'echelonlaw07.ChunkNewer', WHERE WHAT IT READS IS OF BULK AT MOST 1048576: true; the input reads as it did. -/
def chunkNewerUptoRow : OpenClaim := { program := "ytppngeebdmbeaaa", sum := "0dc44debb245ba3d63df3a098920571e5053ff58010d6a1ce319de6d5b5b4387", func := "echelon/echelonlaw07.ChunkNewer", spec := "chunkNewer", unfollowed := true, recurses := true, apart := false, narrowed := true }
def ChunkNewerUptoSaid : Prop := chunkNewerUptoRow.holds Try.pinned (OpenSpec.upto chunkNewerSpec)

end Rows
end Go.Proofs.Ytppngeebdmbeaaa

/-
  No cell of these rows narrows 'for every input' (looked for: loops, veiled, ifaces, maps, wideKeys, modest, calm, conditions, laid).
  DERIVED. THE GIVEN ROWS OF THIS SEAT. 8 by the template 'for every input the law returns true; each argument reads behind the call as it read before'; 0 by the template 'total and deterministic' (their statements: YteajafkmnhikoaaTotals.lean).
  GIVEN WITH THE SEED: the statements are not yours to turn. If you find one false, say at which input.
  Laid BY PROGRAM, IN A SANDBOX (cutbox-rows.mjs): the forced cells as the released guide's own fill.sh prints them over the translation eb8c1907324b3507… (all of the seat's roots in one cut). By AI agents, Wed Nov 11 2026. No macro, syntax, notation, axiom, sorry.
-/
import Derived.Test.YteajafkmnhikoaaChecked
import GoSem.Claim
import GoSem.ClaimJoined
import GoSem.ClaimMapViews
import Derived.JoinedTies
import Derived.KernelRfl
namespace Go.Proofs.Yteajafkmnhikoaa
/- THE CELL 'sum', in the pinned program and in every row, IS THE sha256 OF THE DUMP (.gsa) THAT YteajafkmnhikoaaProg.lean LOADS. Nothing in Lean hashes anything: it is a label: what it is worth is what the hold of that sum in a sandbox is worth. -/
noncomputable def Try.pinned : Pinned := { name := "yteajafkmnhikoaa", sum := "eb8c1907324b3507ac9752a1856675a510ba7ff645619f975c6e2649a9043419", checked := Try.checked }
namespace Rows
def none {H : Type} : Left H := { results := [], args := [] }

/-- 'echelonlaw21.DispatchEnds': WHATEVER THE INPUT: true; the input reads as it did. -/
def dispatchEndsSpec : ChangeSpec := { name := "dispatchEnds", fn := fun _ => fun
  | [d1, d2, d3] => { results := [.lit (.bool true)], args := [d1, d2, d3] }
  | _ => none }
def dispatchEndsRow : OpenClaim := { program := "yteajafkmnhikoaa", sum := "eb8c1907324b3507ac9752a1856675a510ba7ff645619f975c6e2649a9043419", func := "echelon/echelonlaw21.DispatchEnds", spec := "dispatchEnds", unfollowed := true, recurses := true, apart := false }
def DispatchEndsSaid : Prop := dispatchEndsRow.holds Try.pinned (OpenSpec.ofChange dispatchEndsSpec)

/-- ITS FALSE NEIGHBOUR: 'it returns false'. Refute it at one input. -/
def dispatchEndsWrong : ChangeSpec := { name := "dispatchEnds", fn := fun _ => fun
  | [d1, d2, d3] => { results := [.lit (.bool false)], args := [d1, d2, d3] }
  | _ => none }
def DispatchEndsWrongFalsely : Prop := dispatchEndsRow.holds Try.pinned (OpenSpec.ofChange dispatchEndsWrong)

/-- 'echelonlaw21.DispatchActs': WHATEVER THE INPUT: true; the input reads as it did. -/
def dispatchActsSpec : ChangeSpec := { name := "dispatchActs", fn := fun _ => fun
  | [d1, d2] => { results := [.lit (.bool true)], args := [d1, d2] }
  | _ => none }
def dispatchActsRow : OpenClaim := { program := "yteajafkmnhikoaa", sum := "eb8c1907324b3507ac9752a1856675a510ba7ff645619f975c6e2649a9043419", func := "echelon/echelonlaw21.DispatchActs", spec := "dispatchActs", unfollowed := true, recurses := true, apart := false }
def DispatchActsSaid : Prop := dispatchActsRow.holds Try.pinned (OpenSpec.ofChange dispatchActsSpec)

/-- ITS FALSE NEIGHBOUR: 'it returns false'. Refute it at one input. -/
def dispatchActsWrong : ChangeSpec := { name := "dispatchActs", fn := fun _ => fun
  | [d1, d2] => { results := [.lit (.bool false)], args := [d1, d2] }
  | _ => none }
def DispatchActsWrongFalsely : Prop := dispatchActsRow.holds Try.pinned (OpenSpec.ofChange dispatchActsWrong)

/-- 'echelonlaw21.DispatchAgain': WHATEVER THE INPUT: true; the input reads as it did. -/
def dispatchAgainSpec : ChangeSpec := { name := "dispatchAgain", fn := fun _ => fun
  | [d1, d2, d3] => { results := [.lit (.bool true)], args := [d1, d2, d3] }
  | _ => none }
def dispatchAgainRow : OpenClaim := { program := "yteajafkmnhikoaa", sum := "eb8c1907324b3507ac9752a1856675a510ba7ff645619f975c6e2649a9043419", func := "echelon/echelonlaw21.DispatchAgain", spec := "dispatchAgain", unfollowed := true, recurses := true, apart := false }
def DispatchAgainSaid : Prop := dispatchAgainRow.holds Try.pinned (OpenSpec.ofChange dispatchAgainSpec)

/-- ITS FALSE NEIGHBOUR: 'it returns false'. Refute it at one input. -/
def dispatchAgainWrong : ChangeSpec := { name := "dispatchAgain", fn := fun _ => fun
  | [d1, d2, d3] => { results := [.lit (.bool false)], args := [d1, d2, d3] }
  | _ => none }
def DispatchAgainWrongFalsely : Prop := dispatchAgainRow.holds Try.pinned (OpenSpec.ofChange dispatchAgainWrong)

/-- 'echelonlaw09.TallyCommits': WHATEVER THE INPUT: true; the input reads as it did. -/
def tallyCommitsSpec : ChangeSpec := { name := "tallyCommits", fn := fun _ => fun
  | [d1, d2] => { results := [.lit (.bool true)], args := [d1, d2] }
  | _ => none }
def tallyCommitsRow : OpenClaim := { program := "yteajafkmnhikoaa", sum := "eb8c1907324b3507ac9752a1856675a510ba7ff645619f975c6e2649a9043419", func := "echelon/echelonlaw09.TallyCommits", spec := "tallyCommits", unfollowed := true, recurses := true, apart := false }
def TallyCommitsSaid : Prop := tallyCommitsRow.holds Try.pinned (OpenSpec.ofChange tallyCommitsSpec)

/-- ITS FALSE NEIGHBOUR: 'it returns false'. Refute it at one input. -/
def tallyCommitsWrong : ChangeSpec := { name := "tallyCommits", fn := fun _ => fun
  | [d1, d2] => { results := [.lit (.bool false)], args := [d1, d2] }
  | _ => none }
def TallyCommitsWrongFalsely : Prop := tallyCommitsRow.holds Try.pinned (OpenSpec.ofChange tallyCommitsWrong)

/-- 'echelonlaw09.TallyRises': WHATEVER THE INPUT: true; the input reads as it did. -/
def tallyRisesSpec : ChangeSpec := { name := "tallyRises", fn := fun _ => fun
  | [d1, d2, d3] => { results := [.lit (.bool true)], args := [d1, d2, d3] }
  | _ => none }
def tallyRisesRow : OpenClaim := { program := "yteajafkmnhikoaa", sum := "eb8c1907324b3507ac9752a1856675a510ba7ff645619f975c6e2649a9043419", func := "echelon/echelonlaw09.TallyRises", spec := "tallyRises", unfollowed := true, recurses := true, apart := false }
def TallyRisesSaid : Prop := tallyRisesRow.holds Try.pinned (OpenSpec.ofChange tallyRisesSpec)

/-- ITS FALSE NEIGHBOUR: 'it returns false'. Refute it at one input. -/
def tallyRisesWrong : ChangeSpec := { name := "tallyRises", fn := fun _ => fun
  | [d1, d2, d3] => { results := [.lit (.bool false)], args := [d1, d2, d3] }
  | _ => none }
def TallyRisesWrongFalsely : Prop := tallyRisesRow.holds Try.pinned (OpenSpec.ofChange tallyRisesWrong)

/-- 'echelonlaw09.TallyPolls': WHATEVER THE INPUT: true; the input reads as it did. -/
def tallyPollsSpec : ChangeSpec := { name := "tallyPolls", fn := fun _ => fun
  | [d1, d2] => { results := [.lit (.bool true)], args := [d1, d2] }
  | _ => none }
def tallyPollsRow : OpenClaim := { program := "yteajafkmnhikoaa", sum := "eb8c1907324b3507ac9752a1856675a510ba7ff645619f975c6e2649a9043419", func := "echelon/echelonlaw09.TallyPolls", spec := "tallyPolls", unfollowed := true, recurses := true, apart := false }
def TallyPollsSaid : Prop := tallyPollsRow.holds Try.pinned (OpenSpec.ofChange tallyPollsSpec)

/-- ITS FALSE NEIGHBOUR: 'it returns false'. Refute it at one input. -/
def tallyPollsWrong : ChangeSpec := { name := "tallyPolls", fn := fun _ => fun
  | [d1, d2] => { results := [.lit (.bool false)], args := [d1, d2] }
  | _ => none }
def TallyPollsWrongFalsely : Prop := tallyPollsRow.holds Try.pinned (OpenSpec.ofChange tallyPollsWrong)

/-- 'echelonlaw09.TallyAlike': WHATEVER THE INPUT: true; the input reads as it did. -/
def tallyAlikeSpec : ChangeSpec := { name := "tallyAlike", fn := fun _ => fun
  | [d1, d2, d3] => { results := [.lit (.bool true)], args := [d1, d2, d3] }
  | _ => none }
def tallyAlikeRow : OpenClaim := { program := "yteajafkmnhikoaa", sum := "eb8c1907324b3507ac9752a1856675a510ba7ff645619f975c6e2649a9043419", func := "echelon/echelonlaw09.TallyAlike", spec := "tallyAlike", unfollowed := true, recurses := true, apart := false }
def TallyAlikeSaid : Prop := tallyAlikeRow.holds Try.pinned (OpenSpec.ofChange tallyAlikeSpec)

/-- ITS FALSE NEIGHBOUR: 'it returns false'. Refute it at one input. -/
def tallyAlikeWrong : ChangeSpec := { name := "tallyAlike", fn := fun _ => fun
  | [d1, d2, d3] => { results := [.lit (.bool false)], args := [d1, d2, d3] }
  | _ => none }
def TallyAlikeWrongFalsely : Prop := tallyAlikeRow.holds Try.pinned (OpenSpec.ofChange tallyAlikeWrong)

/-- 'echelonlaw09.TallyTracks': WHATEVER THE INPUT: true; the input reads as it did. -/
def tallyTracksSpec : ChangeSpec := { name := "tallyTracks", fn := fun _ => fun
  | [d1, d2, d3] => { results := [.lit (.bool true)], args := [d1, d2, d3] }
  | _ => none }
def tallyTracksRow : OpenClaim := { program := "yteajafkmnhikoaa", sum := "eb8c1907324b3507ac9752a1856675a510ba7ff645619f975c6e2649a9043419", func := "echelon/echelonlaw09.TallyTracks", spec := "tallyTracks", unfollowed := true, recurses := true, apart := false }
def TallyTracksSaid : Prop := tallyTracksRow.holds Try.pinned (OpenSpec.ofChange tallyTracksSpec)

/-- ITS FALSE NEIGHBOUR: 'it returns false'. Refute it at one input. -/
def tallyTracksWrong : ChangeSpec := { name := "tallyTracks", fn := fun _ => fun
  | [d1, d2, d3] => { results := [.lit (.bool false)], args := [d1, d2, d3] }
  | _ => none }
def TallyTracksWrongFalsely : Prop := tallyTracksRow.holds Try.pinned (OpenSpec.ofChange tallyTracksWrong)

/- THE SECOND FORM. 'bulk': how many values and letters a reading holds, each counted each time it is reached (what is shared counts as often as it is met; a slice's spare places count too). A statement '..UptoSaid' is the law's where the arguments, and the package variables that the reading takes, are together of bulk at most 1048576: NARROWER than '..Said'. Prove '..Said' where nothing that the law and all that it calls make is longer than what came in: it says more and counts as full. Else prove '..UptoSaid'. A law counts once. -/
mutual
def uptoBulk {H : Type} : DataW H → Nat
  | .lit (.string bytes) => bytes.length + 1
  | .lit _ => 1
  | .nil => 1
  | .ptr d => uptoBulk d + 1
  | .slice elems spare => uptoBulkAll elems + uptoBulkAll spare + 1
  | .agg parts => uptoBulkAll parts + 1
  | .iface _ d => uptoBulk d + 1
  | .map entries => uptoBulkEntries entries + 1
  | .held _ => 1
def uptoBulkAll {H : Type} : List (DataW H) → Nat
  | [] => 0
  | d :: r => uptoBulk d + uptoBulkAll r
def uptoBulkEntries {H : Type} : List (Lit × DataW H) → Nat
  | [] => 0
  | x :: r => uptoBulkEntry x + uptoBulkEntries r
def uptoBulkEntry {H : Type} : Lit × DataW H → Nat
  | (.string bytes, d) => bytes.length + uptoBulk d + 1
  | (_, d) => uptoBulk d + 1
 end
def uptoSmall : (H : Type) → List (DataW H) → Bool := fun _ ds => decide (uptoBulkAll ds ≤ 1048576)
def OpenSpec.upto (s : _root_.Go.ChangeSpec) : _root_.Go.OpenSpec := { _root_.Go.OpenSpec.ofChange s with cond := some uptoSmall }

/-- 'echelonlaw21.DispatchEnds', WHERE WHAT IT READS IS OF BULK AT MOST 1048576: true; the input reads as it did. -/
def dispatchEndsUptoRow : OpenClaim := { program := "yteajafkmnhikoaa", sum := "eb8c1907324b3507ac9752a1856675a510ba7ff645619f975c6e2649a9043419", func := "echelon/echelonlaw21.DispatchEnds", spec := "dispatchEnds", unfollowed := true, recurses := true, apart := false, narrowed := true }
def DispatchEndsUptoSaid : Prop := dispatchEndsUptoRow.holds Try.pinned (OpenSpec.upto dispatchEndsSpec)

/-- 'echelonlaw21.DispatchActs', WHERE WHAT IT READS IS OF BULK AT MOST 1048576: true; the input reads as it did. -/
def dispatchActsUptoRow : OpenClaim := { program := "yteajafkmnhikoaa", sum := "eb8c1907324b3507ac9752a1856675a510ba7ff645619f975c6e2649a9043419", func := "echelon/echelonlaw21.DispatchActs", spec := "dispatchActs", unfollowed := true, recurses := true, apart := false, narrowed := true }
def DispatchActsUptoSaid : Prop := dispatchActsUptoRow.holds Try.pinned (OpenSpec.upto dispatchActsSpec)

/-- 'echelonlaw21.DispatchAgain', WHERE WHAT IT READS IS OF BULK AT MOST 1048576: true; the input reads as it did. -/
def dispatchAgainUptoRow : OpenClaim := { program := "yteajafkmnhikoaa", sum := "eb8c1907324b3507ac9752a1856675a510ba7ff645619f975c6e2649a9043419", func := "echelon/echelonlaw21.DispatchAgain", spec := "dispatchAgain", unfollowed := true, recurses := true, apart := false, narrowed := true }
def DispatchAgainUptoSaid : Prop := dispatchAgainUptoRow.holds Try.pinned (OpenSpec.upto dispatchAgainSpec)

/-- 'echelonlaw09.TallyCommits', WHERE WHAT IT READS IS OF BULK AT MOST 1048576: true; the input reads as it did. -/
def tallyCommitsUptoRow : OpenClaim := { program := "yteajafkmnhikoaa", sum := "eb8c1907324b3507ac9752a1856675a510ba7ff645619f975c6e2649a9043419", func := "echelon/echelonlaw09.TallyCommits", spec := "tallyCommits", unfollowed := true, recurses := true, apart := false, narrowed := true }
def TallyCommitsUptoSaid : Prop := tallyCommitsUptoRow.holds Try.pinned (OpenSpec.upto tallyCommitsSpec)

/-- 'echelonlaw09.TallyRises', WHERE WHAT IT READS IS OF BULK AT MOST 1048576: true; the input reads as it did. -/
def tallyRisesUptoRow : OpenClaim := { program := "yteajafkmnhikoaa", sum := "eb8c1907324b3507ac9752a1856675a510ba7ff645619f975c6e2649a9043419", func := "echelon/echelonlaw09.TallyRises", spec := "tallyRises", unfollowed := true, recurses := true, apart := false, narrowed := true }
def TallyRisesUptoSaid : Prop := tallyRisesUptoRow.holds Try.pinned (OpenSpec.upto tallyRisesSpec)

/-- 'echelonlaw09.TallyPolls', WHERE WHAT IT READS IS OF BULK AT MOST 1048576: true; the input reads as it did. -/
def tallyPollsUptoRow : OpenClaim := { program := "yteajafkmnhikoaa", sum := "eb8c1907324b3507ac9752a1856675a510ba7ff645619f975c6e2649a9043419", func := "echelon/echelonlaw09.TallyPolls", spec := "tallyPolls", unfollowed := true, recurses := true, apart := false, narrowed := true }
def TallyPollsUptoSaid : Prop := tallyPollsUptoRow.holds Try.pinned (OpenSpec.upto tallyPollsSpec)

/-- 'echelonlaw09.TallyAlike', WHERE WHAT IT READS IS OF BULK AT MOST 1048576: true; the input reads as it did. -/
def tallyAlikeUptoRow : OpenClaim := { program := "yteajafkmnhikoaa", sum := "eb8c1907324b3507ac9752a1856675a510ba7ff645619f975c6e2649a9043419", func := "echelon/echelonlaw09.TallyAlike", spec := "tallyAlike", unfollowed := true, recurses := true, apart := false, narrowed := true }
def TallyAlikeUptoSaid : Prop := tallyAlikeUptoRow.holds Try.pinned (OpenSpec.upto tallyAlikeSpec)

/-- 'echelonlaw09.TallyTracks', WHERE WHAT IT READS IS OF BULK AT MOST 1048576: true; the input reads as it did. -/
def tallyTracksUptoRow : OpenClaim := { program := "yteajafkmnhikoaa", sum := "eb8c1907324b3507ac9752a1856675a510ba7ff645619f975c6e2649a9043419", func := "echelon/echelonlaw09.TallyTracks", spec := "tallyTracks", unfollowed := true, recurses := true, apart := false, narrowed := true }
def TallyTracksUptoSaid : Prop := tallyTracksUptoRow.holds Try.pinned (OpenSpec.upto tallyTracksSpec)

end Rows
end Go.Proofs.Yteajafkmnhikoaa

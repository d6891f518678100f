/-
  NARROWER THAN 'FOR EVERY INPUT', by the rows' own cells (each row's printed sentence says how): HardFollows: laid · HardSaves: laid · HardCrash: laid · HardOnce: laid · AgentWorks: laid · AgentOnce: laid.
  DERIVED. THE GIVEN ROWS OF THIS SEAT. 6 by the template 'for every input the law returns true; each argument reads behind the call as it read before'; 0 by the template 'total and deterministic' (their statements: YtehaoafnobnneaaGreatDoorTotals.lean).
  GIVEN WITH THE SEED: the statements are not yours to turn. If you find one false, say at which input.
  Laid BY PROGRAM, IN A SANDBOX (cutbox-rows.mjs): the forced cells as the released guide's own fill.sh prints them over the translation c1e58561cea3265f… (all of the seat's roots in one cut). By AI agents, Wed Nov 11 2026. No macro, syntax, notation, axiom, sorry.
-/
import Derived.Test.YtehaoafnobnneaaGreatDoorChecked
import GoSem.PinnedTables
import GoSem.Claim
import GoSem.ClaimJoined
import GoSem.ClaimMapViews
import Derived.JoinedTies
import Derived.KernelRfl
namespace Go.Proofs.YtehaoafnobnneaaGreatDoor
/- THE CELL 'sum', in the pinned program and in every row, IS THE sha256 OF THE DUMP (.gsa) THAT YtehaoafnobnneaaGreatDoorProg.lean LOADS. Nothing in Lean hashes anything: it is a label: what it is worth is what the hold of that sum in a sandbox is worth. -/
noncomputable def Tryz.pinned : Pinned := { name := "ytehaoafnobnneaagreatdoor", sum := "c1e58561cea3265f466f138f9613f20288035b0d3161d3ba26580ac676dda559", checked := Tryz.checked }
namespace Rows
def none {H : Type} : Left H := { results := [], args := [] }

/- WHAT THE LISTED PACKAGE-LEVEL VARIABLES READ AS WHEN THE CALL BEGINS. Each datum BY PROGRAM (the guide's laid-datum.mjs) off the statement by which the dump's own 'gosem.cut.vars' lays the variable. In a bare row this is a premise. The card (YtehaoafnobnneaaGreatDoorCards.lean) ties it to the program's text. -/
def laid_unicode_utf8_acceptRanges {H : Type} : DataW H := .agg [.agg [.lit (.int .u8 128), .lit (.int .u8 191)], .agg [.lit (.int .u8 160), .lit (.int .u8 191)], .agg [.lit (.int .u8 128), .lit (.int .u8 159)], .agg [.lit (.int .u8 144), .lit (.int .u8 191)], .agg [.lit (.int .u8 128), .lit (.int .u8 143)], .agg [.lit (.int .u8 0), .lit (.int .u8 0)], .agg [.lit (.int .u8 0), .lit (.int .u8 0)], .agg [.lit (.int .u8 0), .lit (.int .u8 0)], .agg [.lit (.int .u8 0), .lit (.int .u8 0)], .agg [.lit (.int .u8 0), .lit (.int .u8 0)], .agg [.lit (.int .u8 0), .lit (.int .u8 0)], .agg [.lit (.int .u8 0), .lit (.int .u8 0)], .agg [.lit (.int .u8 0), .lit (.int .u8 0)], .agg [.lit (.int .u8 0), .lit (.int .u8 0)], .agg [.lit (.int .u8 0), .lit (.int .u8 0)], .agg [.lit (.int .u8 0), .lit (.int .u8 0)]]
/-- One of Go's own tables, pinned by name: the form's constant. -/
def laid_unicode_utf8_first : DataW Unit := Go.Pinned.utf8First

/-- 'echelonlaw04.HardFollows': WHATEVER THE INPUT: true; the input reads as it did. -/
def hardFollowsSpec : ChangeSpec := { name := "hardFollows", fn := fun _ => fun
  | [d1, d2, d3] => { results := [.lit (.bool true)], args := [d1, d2, d3] }
  | _ => none }
def hardFollowsRow : OpenClaim := { program := "ytehaoafnobnneaagreatdoor", sum := "c1e58561cea3265f466f138f9613f20288035b0d3161d3ba26580ac676dda559", func := "echelon/echelonlaw04.HardFollows", spec := "hardFollows", inPlace := ["internal/bytealg.MakeNoZero", "internal/bytealg.IndexByteString", "internal/bytealg.IndexString"], unfollowed := true, recurses := true, named := ["unicode/utf8.first", "unicode/utf8.acceptRanges", "internal/bytealg.MaxLen"], apart := false, laid := [("unicode/utf8.acceptRanges", laid_unicode_utf8_acceptRanges), ("unicode/utf8.first", laid_unicode_utf8_first)] }
def HardFollowsSaid : Prop := hardFollowsRow.holds Tryz.pinned (OpenSpec.ofChange hardFollowsSpec)

/-- ITS FALSE NEIGHBOUR: 'it returns false'. Refute it at one input. -/
def hardFollowsWrong : ChangeSpec := { name := "hardFollows", fn := fun _ => fun
  | [d1, d2, d3] => { results := [.lit (.bool false)], args := [d1, d2, d3] }
  | _ => none }
def HardFollowsWrongFalsely : Prop := hardFollowsRow.holds Tryz.pinned (OpenSpec.ofChange hardFollowsWrong)

/-- 'echelonlaw04.HardSaves': WHATEVER THE INPUT: true; the input reads as it did. -/
def hardSavesSpec : ChangeSpec := { name := "hardSaves", fn := fun _ => fun
  | [d1, d2] => { results := [.lit (.bool true)], args := [d1, d2] }
  | _ => none }
def hardSavesRow : OpenClaim := { program := "ytehaoafnobnneaagreatdoor", sum := "c1e58561cea3265f466f138f9613f20288035b0d3161d3ba26580ac676dda559", func := "echelon/echelonlaw04.HardSaves", spec := "hardSaves", inPlace := ["internal/bytealg.MakeNoZero", "internal/bytealg.IndexByteString", "internal/bytealg.IndexString"], unfollowed := true, recurses := true, named := ["unicode/utf8.first", "unicode/utf8.acceptRanges", "internal/bytealg.MaxLen"], apart := false, laid := [("unicode/utf8.acceptRanges", laid_unicode_utf8_acceptRanges), ("unicode/utf8.first", laid_unicode_utf8_first)] }
def HardSavesSaid : Prop := hardSavesRow.holds Tryz.pinned (OpenSpec.ofChange hardSavesSpec)

/-- ITS FALSE NEIGHBOUR: 'it returns false'. Refute it at one input. -/
def hardSavesWrong : ChangeSpec := { name := "hardSaves", fn := fun _ => fun
  | [d1, d2] => { results := [.lit (.bool false)], args := [d1, d2] }
  | _ => none }
def HardSavesWrongFalsely : Prop := hardSavesRow.holds Tryz.pinned (OpenSpec.ofChange hardSavesWrong)

/-- 'echelonlaw04.HardCrash': WHATEVER THE INPUT: true; the input reads as it did. -/
def hardCrashSpec : ChangeSpec := { name := "hardCrash", fn := fun _ => fun
  | [d1, d2, d3] => { results := [.lit (.bool true)], args := [d1, d2, d3] }
  | _ => none }
def hardCrashRow : OpenClaim := { program := "ytehaoafnobnneaagreatdoor", sum := "c1e58561cea3265f466f138f9613f20288035b0d3161d3ba26580ac676dda559", func := "echelon/echelonlaw04.HardCrash", spec := "hardCrash", inPlace := ["internal/bytealg.MakeNoZero", "internal/bytealg.IndexByteString", "internal/bytealg.IndexString"], unfollowed := true, recurses := true, named := ["unicode/utf8.first", "unicode/utf8.acceptRanges", "internal/bytealg.MaxLen"], apart := false, laid := [("unicode/utf8.acceptRanges", laid_unicode_utf8_acceptRanges), ("unicode/utf8.first", laid_unicode_utf8_first)] }
def HardCrashSaid : Prop := hardCrashRow.holds Tryz.pinned (OpenSpec.ofChange hardCrashSpec)

/-- ITS FALSE NEIGHBOUR: 'it returns false'. Refute it at one input. -/
def hardCrashWrong : ChangeSpec := { name := "hardCrash", fn := fun _ => fun
  | [d1, d2, d3] => { results := [.lit (.bool false)], args := [d1, d2, d3] }
  | _ => none }
def HardCrashWrongFalsely : Prop := hardCrashRow.holds Tryz.pinned (OpenSpec.ofChange hardCrashWrong)

/-- 'echelonlaw04.HardOnce': WHATEVER THE INPUT: true; the input reads as it did. -/
def hardOnceSpec : ChangeSpec := { name := "hardOnce", fn := fun _ => fun
  | [d1, d2, d3] => { results := [.lit (.bool true)], args := [d1, d2, d3] }
  | _ => none }
def hardOnceRow : OpenClaim := { program := "ytehaoafnobnneaagreatdoor", sum := "c1e58561cea3265f466f138f9613f20288035b0d3161d3ba26580ac676dda559", func := "echelon/echelonlaw04.HardOnce", spec := "hardOnce", inPlace := ["internal/bytealg.MakeNoZero", "internal/bytealg.IndexByteString", "internal/bytealg.IndexString"], unfollowed := true, recurses := true, named := ["unicode/utf8.first", "unicode/utf8.acceptRanges", "internal/bytealg.MaxLen"], apart := false, laid := [("unicode/utf8.acceptRanges", laid_unicode_utf8_acceptRanges), ("unicode/utf8.first", laid_unicode_utf8_first)] }
def HardOnceSaid : Prop := hardOnceRow.holds Tryz.pinned (OpenSpec.ofChange hardOnceSpec)

/-- ITS FALSE NEIGHBOUR: 'it returns false'. Refute it at one input. -/
def hardOnceWrong : ChangeSpec := { name := "hardOnce", fn := fun _ => fun
  | [d1, d2, d3] => { results := [.lit (.bool false)], args := [d1, d2, d3] }
  | _ => none }
def HardOnceWrongFalsely : Prop := hardOnceRow.holds Tryz.pinned (OpenSpec.ofChange hardOnceWrong)

/-- 'echelonlaw20.AgentWorks': WHATEVER THE INPUT: true; the input reads as it did. -/
def agentWorksSpec : ChangeSpec := { name := "agentWorks", fn := fun _ => fun
  | [d1, d2, d3] => { results := [.lit (.bool true)], args := [d1, d2, d3] }
  | _ => none }
def agentWorksRow : OpenClaim := { program := "ytehaoafnobnneaagreatdoor", sum := "c1e58561cea3265f466f138f9613f20288035b0d3161d3ba26580ac676dda559", func := "echelon/echelonlaw20.AgentWorks", spec := "agentWorks", inPlace := ["internal/bytealg.MakeNoZero", "internal/bytealg.IndexByteString", "internal/bytealg.IndexString"], unfollowed := true, recurses := true, named := ["unicode/utf8.first", "unicode/utf8.acceptRanges", "internal/bytealg.MaxLen"], apart := false, laid := [("unicode/utf8.acceptRanges", laid_unicode_utf8_acceptRanges), ("unicode/utf8.first", laid_unicode_utf8_first)] }
def AgentWorksSaid : Prop := agentWorksRow.holds Tryz.pinned (OpenSpec.ofChange agentWorksSpec)

/-- ITS FALSE NEIGHBOUR: 'it returns false'. Refute it at one input. -/
def agentWorksWrong : ChangeSpec := { name := "agentWorks", fn := fun _ => fun
  | [d1, d2, d3] => { results := [.lit (.bool false)], args := [d1, d2, d3] }
  | _ => none }
def AgentWorksWrongFalsely : Prop := agentWorksRow.holds Tryz.pinned (OpenSpec.ofChange agentWorksWrong)

/-- 'echelonlaw20.AgentOnce': WHATEVER THE INPUT: true; the input reads as it did. -/
def agentOnceSpec : ChangeSpec := { name := "agentOnce", fn := fun _ => fun
  | [d1, d2] => { results := [.lit (.bool true)], args := [d1, d2] }
  | _ => none }
def agentOnceRow : OpenClaim := { program := "ytehaoafnobnneaagreatdoor", sum := "c1e58561cea3265f466f138f9613f20288035b0d3161d3ba26580ac676dda559", func := "echelon/echelonlaw20.AgentOnce", spec := "agentOnce", inPlace := ["internal/bytealg.MakeNoZero", "internal/bytealg.IndexByteString", "internal/bytealg.IndexString"], unfollowed := true, recurses := true, named := ["unicode/utf8.first", "unicode/utf8.acceptRanges", "internal/bytealg.MaxLen"], apart := false, laid := [("unicode/utf8.acceptRanges", laid_unicode_utf8_acceptRanges), ("unicode/utf8.first", laid_unicode_utf8_first)] }
def AgentOnceSaid : Prop := agentOnceRow.holds Tryz.pinned (OpenSpec.ofChange agentOnceSpec)

/-- ITS FALSE NEIGHBOUR: 'it returns false'. Refute it at one input. -/
def agentOnceWrong : ChangeSpec := { name := "agentOnce", fn := fun _ => fun
  | [d1, d2] => { results := [.lit (.bool false)], args := [d1, d2] }
  | _ => none }
def AgentOnceWrongFalsely : Prop := agentOnceRow.holds Tryz.pinned (OpenSpec.ofChange agentOnceWrong)

/- THE SECOND FORM. 'bulk': how many values and letters a reading holds, each counted each time it is reached (what is shared counts as often as it is met; a slice's spare places count too). A statement '..UptoSaid' is the law's where the arguments, and the package variables that the reading takes, are together of bulk at most 1048576: NARROWER than '..Said'. Prove '..Said' where nothing that the law and all that it calls make is longer than what came in: it says more and counts as full. Else prove '..UptoSaid'. A law counts once. -/
mutual
def uptoBulk {H : Type} : DataW H → Nat
  | .lit (.string bytes) => bytes.length + 1
  | .lit _ => 1
  | .nil => 1
  | .ptr d => uptoBulk d + 1
  | .slice elems spare => uptoBulkAll elems + uptoBulkAll spare + 1
  | .agg parts => uptoBulkAll parts + 1
  | .iface _ d => uptoBulk d + 1
  | .map entries => uptoBulkEntries entries + 1
  | .held _ => 1
def uptoBulkAll {H : Type} : List (DataW H) → Nat
  | [] => 0
  | d :: r => uptoBulk d + uptoBulkAll r
def uptoBulkEntries {H : Type} : List (Lit × DataW H) → Nat
  | [] => 0
  | x :: r => uptoBulkEntry x + uptoBulkEntries r
def uptoBulkEntry {H : Type} : Lit × DataW H → Nat
  | (.string bytes, d) => bytes.length + uptoBulk d + 1
  | (_, d) => uptoBulk d + 1
 end
def uptoSmall : (H : Type) → List (DataW H) → Bool := fun _ ds => decide (uptoBulkAll ds ≤ 1048576)
def OpenSpec.upto (s : _root_.Go.ChangeSpec) : _root_.Go.OpenSpec := { _root_.Go.OpenSpec.ofChange s with cond := some uptoSmall }

/-- 'echelonlaw04.HardFollows', WHERE WHAT IT READS IS OF BULK AT MOST 1048576: true; the input reads as it did. -/
def hardFollowsUptoRow : OpenClaim := { program := "ytehaoafnobnneaagreatdoor", sum := "c1e58561cea3265f466f138f9613f20288035b0d3161d3ba26580ac676dda559", func := "echelon/echelonlaw04.HardFollows", spec := "hardFollows", inPlace := ["internal/bytealg.MakeNoZero", "internal/bytealg.IndexByteString", "internal/bytealg.IndexString"], unfollowed := true, recurses := true, named := ["unicode/utf8.first", "unicode/utf8.acceptRanges", "internal/bytealg.MaxLen"], apart := false, laid := [("unicode/utf8.acceptRanges", laid_unicode_utf8_acceptRanges), ("unicode/utf8.first", laid_unicode_utf8_first)], narrowed := true }
def HardFollowsUptoSaid : Prop := hardFollowsUptoRow.holds Tryz.pinned (OpenSpec.upto hardFollowsSpec)

/-- 'echelonlaw04.HardSaves', WHERE WHAT IT READS IS OF BULK AT MOST 1048576: true; the input reads as it did. -/
def hardSavesUptoRow : OpenClaim := { program := "ytehaoafnobnneaagreatdoor", sum := "c1e58561cea3265f466f138f9613f20288035b0d3161d3ba26580ac676dda559", func := "echelon/echelonlaw04.HardSaves", spec := "hardSaves", inPlace := ["internal/bytealg.MakeNoZero", "internal/bytealg.IndexByteString", "internal/bytealg.IndexString"], unfollowed := true, recurses := true, named := ["unicode/utf8.first", "unicode/utf8.acceptRanges", "internal/bytealg.MaxLen"], apart := false, laid := [("unicode/utf8.acceptRanges", laid_unicode_utf8_acceptRanges), ("unicode/utf8.first", laid_unicode_utf8_first)], narrowed := true }
def HardSavesUptoSaid : Prop := hardSavesUptoRow.holds Tryz.pinned (OpenSpec.upto hardSavesSpec)

/-- 'echelonlaw04.HardCrash', WHERE WHAT IT READS IS OF BULK AT MOST 1048576: true; the input reads as it did. -/
def hardCrashUptoRow : OpenClaim := { program := "ytehaoafnobnneaagreatdoor", sum := "c1e58561cea3265f466f138f9613f20288035b0d3161d3ba26580ac676dda559", func := "echelon/echelonlaw04.HardCrash", spec := "hardCrash", inPlace := ["internal/bytealg.MakeNoZero", "internal/bytealg.IndexByteString", "internal/bytealg.IndexString"], unfollowed := true, recurses := true, named := ["unicode/utf8.first", "unicode/utf8.acceptRanges", "internal/bytealg.MaxLen"], apart := false, laid := [("unicode/utf8.acceptRanges", laid_unicode_utf8_acceptRanges), ("unicode/utf8.first", laid_unicode_utf8_first)], narrowed := true }
def HardCrashUptoSaid : Prop := hardCrashUptoRow.holds Tryz.pinned (OpenSpec.upto hardCrashSpec)

/-- 'echelonlaw04.HardOnce', WHERE WHAT IT READS IS OF BULK AT MOST 1048576: true; the input reads as it did. -/
def hardOnceUptoRow : OpenClaim := { program := "ytehaoafnobnneaagreatdoor", sum := "c1e58561cea3265f466f138f9613f20288035b0d3161d3ba26580ac676dda559", func := "echelon/echelonlaw04.HardOnce", spec := "hardOnce", inPlace := ["internal/bytealg.MakeNoZero", "internal/bytealg.IndexByteString", "internal/bytealg.IndexString"], unfollowed := true, recurses := true, named := ["unicode/utf8.first", "unicode/utf8.acceptRanges", "internal/bytealg.MaxLen"], apart := false, laid := [("unicode/utf8.acceptRanges", laid_unicode_utf8_acceptRanges), ("unicode/utf8.first", laid_unicode_utf8_first)], narrowed := true }
def HardOnceUptoSaid : Prop := hardOnceUptoRow.holds Tryz.pinned (OpenSpec.upto hardOnceSpec)

/-- 'echelonlaw20.AgentWorks', WHERE WHAT IT READS IS OF BULK AT MOST 1048576: true; the input reads as it did. -/
def agentWorksUptoRow : OpenClaim := { program := "ytehaoafnobnneaagreatdoor", sum := "c1e58561cea3265f466f138f9613f20288035b0d3161d3ba26580ac676dda559", func := "echelon/echelonlaw20.AgentWorks", spec := "agentWorks", inPlace := ["internal/bytealg.MakeNoZero", "internal/bytealg.IndexByteString", "internal/bytealg.IndexString"], unfollowed := true, recurses := true, named := ["unicode/utf8.first", "unicode/utf8.acceptRanges", "internal/bytealg.MaxLen"], apart := false, laid := [("unicode/utf8.acceptRanges", laid_unicode_utf8_acceptRanges), ("unicode/utf8.first", laid_unicode_utf8_first)], narrowed := true }
def AgentWorksUptoSaid : Prop := agentWorksUptoRow.holds Tryz.pinned (OpenSpec.upto agentWorksSpec)

/-- 'echelonlaw20.AgentOnce', WHERE WHAT IT READS IS OF BULK AT MOST 1048576: true; the input reads as it did. -/
def agentOnceUptoRow : OpenClaim := { program := "ytehaoafnobnneaagreatdoor", sum := "c1e58561cea3265f466f138f9613f20288035b0d3161d3ba26580ac676dda559", func := "echelon/echelonlaw20.AgentOnce", spec := "agentOnce", inPlace := ["internal/bytealg.MakeNoZero", "internal/bytealg.IndexByteString", "internal/bytealg.IndexString"], unfollowed := true, recurses := true, named := ["unicode/utf8.first", "unicode/utf8.acceptRanges", "internal/bytealg.MaxLen"], apart := false, laid := [("unicode/utf8.acceptRanges", laid_unicode_utf8_acceptRanges), ("unicode/utf8.first", laid_unicode_utf8_first)], narrowed := true }
def AgentOnceUptoSaid : Prop := agentOnceUptoRow.holds Tryz.pinned (OpenSpec.upto agentOnceSpec)

end Rows
end Go.Proofs.YtehaoafnobnneaaGreatDoor

/-
  DERIVED. GIVEN WITH THE SEED: THE CARDS: each row of YtehaoafnobnneaaGreatDoorRows.lean that lists a variable, with what it lists TIED to the program's text (the seventh form; the later family's looks); each row that meets fmt, with fmt's text TOLD by the authors' own Lean function (tested against real Go, not proved from fmt's source: count such statements apart). THE CARD IS WHAT COUNTS. Prove the row's statement (the work); the ties are given (YtehaoafnobnneaaGreatDoorTie.lean); close each card by the builder's one call (the guide's Derived/Test/ToyasCard.lean, 'card_holds'). Laid BY PROGRAM, IN A SANDBOX (cutbox-door.mjs). By AI agents, Wed Nov 11 2026. No macro, syntax, notation, axiom, sorry.
-/
import Derived.Test.YtehaoafnobnneaaGreatDoorRows
import GoSem.ClaimSeven
namespace Go.Proofs.YtehaoafnobnneaaGreatDoor
namespace Rows

/-- THE TIED CARD OF 'echelonlaw04.HardFollows'. -/
def hardFollowsCard : Claim7 := { stood := { row := hardFollowsRow, standIns := [], harness := (true, "6262c79ce0889cdc30e4493c78acdeda40261f0735a3fe3aca72da21bf5b1f12"), looks := false }, kinds := [], alts := [], laidByText := true, laidKinds := [.data, .pinned], laidTests := true, laidLooks := .later }
def HardFollowsCardSaid : Prop := Claim7.holds Tryz.pinned (.plain (OpenSpec.ofChange hardFollowsSpec)) hardFollowsCard

/-- THE TIED CARD OF 'echelonlaw04.HardSaves'. -/
def hardSavesCard : Claim7 := { stood := { row := hardSavesRow, standIns := [], harness := (true, "6262c79ce0889cdc30e4493c78acdeda40261f0735a3fe3aca72da21bf5b1f12"), looks := false }, kinds := [], alts := [], laidByText := true, laidKinds := [.data, .pinned], laidTests := true, laidLooks := .later }
def HardSavesCardSaid : Prop := Claim7.holds Tryz.pinned (.plain (OpenSpec.ofChange hardSavesSpec)) hardSavesCard

/-- THE TIED CARD OF 'echelonlaw04.HardCrash'. -/
def hardCrashCard : Claim7 := { stood := { row := hardCrashRow, standIns := [], harness := (true, "6262c79ce0889cdc30e4493c78acdeda40261f0735a3fe3aca72da21bf5b1f12"), looks := false }, kinds := [], alts := [], laidByText := true, laidKinds := [.data, .pinned], laidTests := true, laidLooks := .later }
def HardCrashCardSaid : Prop := Claim7.holds Tryz.pinned (.plain (OpenSpec.ofChange hardCrashSpec)) hardCrashCard

/-- THE TIED CARD OF 'echelonlaw04.HardOnce'. -/
def hardOnceCard : Claim7 := { stood := { row := hardOnceRow, standIns := [], harness := (true, "6262c79ce0889cdc30e4493c78acdeda40261f0735a3fe3aca72da21bf5b1f12"), looks := false }, kinds := [], alts := [], laidByText := true, laidKinds := [.data, .pinned], laidTests := true, laidLooks := .later }
def HardOnceCardSaid : Prop := Claim7.holds Tryz.pinned (.plain (OpenSpec.ofChange hardOnceSpec)) hardOnceCard

/-- THE TIED CARD OF 'echelonlaw20.AgentWorks'. -/
def agentWorksCard : Claim7 := { stood := { row := agentWorksRow, standIns := [], harness := (true, "6262c79ce0889cdc30e4493c78acdeda40261f0735a3fe3aca72da21bf5b1f12"), looks := false }, kinds := [], alts := [], laidByText := true, laidKinds := [.data, .pinned], laidTests := true, laidLooks := .later }
def AgentWorksCardSaid : Prop := Claim7.holds Tryz.pinned (.plain (OpenSpec.ofChange agentWorksSpec)) agentWorksCard

/-- THE TIED CARD OF 'echelonlaw20.AgentOnce'. -/
def agentOnceCard : Claim7 := { stood := { row := agentOnceRow, standIns := [], harness := (true, "6262c79ce0889cdc30e4493c78acdeda40261f0735a3fe3aca72da21bf5b1f12"), looks := false }, kinds := [], alts := [], laidByText := true, laidKinds := [.data, .pinned], laidTests := true, laidLooks := .later }
def AgentOnceCardSaid : Prop := Claim7.holds Tryz.pinned (.plain (OpenSpec.ofChange agentOnceSpec)) agentOnceCard

/-- THE SECOND FORM's CARD OF 'echelonlaw04.HardFollows'. -/
def hardFollowsUptoCard : Claim7 := { stood := { row := hardFollowsUptoRow, standIns := [], harness := (true, "6262c79ce0889cdc30e4493c78acdeda40261f0735a3fe3aca72da21bf5b1f12"), looks := false }, kinds := [], alts := [], laidByText := true, laidKinds := [.data, .pinned], laidTests := true, laidLooks := .later }
def HardFollowsUptoCardSaid : Prop := Claim7.holds Tryz.pinned (.plain (OpenSpec.upto hardFollowsSpec)) hardFollowsUptoCard

/-- THE SECOND FORM's CARD OF 'echelonlaw04.HardSaves'. -/
def hardSavesUptoCard : Claim7 := { stood := { row := hardSavesUptoRow, standIns := [], harness := (true, "6262c79ce0889cdc30e4493c78acdeda40261f0735a3fe3aca72da21bf5b1f12"), looks := false }, kinds := [], alts := [], laidByText := true, laidKinds := [.data, .pinned], laidTests := true, laidLooks := .later }
def HardSavesUptoCardSaid : Prop := Claim7.holds Tryz.pinned (.plain (OpenSpec.upto hardSavesSpec)) hardSavesUptoCard

/-- THE SECOND FORM's CARD OF 'echelonlaw04.HardCrash'. -/
def hardCrashUptoCard : Claim7 := { stood := { row := hardCrashUptoRow, standIns := [], harness := (true, "6262c79ce0889cdc30e4493c78acdeda40261f0735a3fe3aca72da21bf5b1f12"), looks := false }, kinds := [], alts := [], laidByText := true, laidKinds := [.data, .pinned], laidTests := true, laidLooks := .later }
def HardCrashUptoCardSaid : Prop := Claim7.holds Tryz.pinned (.plain (OpenSpec.upto hardCrashSpec)) hardCrashUptoCard

/-- THE SECOND FORM's CARD OF 'echelonlaw04.HardOnce'. -/
def hardOnceUptoCard : Claim7 := { stood := { row := hardOnceUptoRow, standIns := [], harness := (true, "6262c79ce0889cdc30e4493c78acdeda40261f0735a3fe3aca72da21bf5b1f12"), looks := false }, kinds := [], alts := [], laidByText := true, laidKinds := [.data, .pinned], laidTests := true, laidLooks := .later }
def HardOnceUptoCardSaid : Prop := Claim7.holds Tryz.pinned (.plain (OpenSpec.upto hardOnceSpec)) hardOnceUptoCard

/-- THE SECOND FORM's CARD OF 'echelonlaw20.AgentWorks'. -/
def agentWorksUptoCard : Claim7 := { stood := { row := agentWorksUptoRow, standIns := [], harness := (true, "6262c79ce0889cdc30e4493c78acdeda40261f0735a3fe3aca72da21bf5b1f12"), looks := false }, kinds := [], alts := [], laidByText := true, laidKinds := [.data, .pinned], laidTests := true, laidLooks := .later }
def AgentWorksUptoCardSaid : Prop := Claim7.holds Tryz.pinned (.plain (OpenSpec.upto agentWorksSpec)) agentWorksUptoCard

/-- THE SECOND FORM's CARD OF 'echelonlaw20.AgentOnce'. -/
def agentOnceUptoCard : Claim7 := { stood := { row := agentOnceUptoRow, standIns := [], harness := (true, "6262c79ce0889cdc30e4493c78acdeda40261f0735a3fe3aca72da21bf5b1f12"), looks := false }, kinds := [], alts := [], laidByText := true, laidKinds := [.data, .pinned], laidTests := true, laidLooks := .later }
def AgentOnceUptoCardSaid : Prop := Claim7.holds Tryz.pinned (.plain (OpenSpec.upto agentOnceSpec)) agentOnceUptoCard
end Rows
end Go.Proofs.YtehaoafnobnneaaGreatDoor

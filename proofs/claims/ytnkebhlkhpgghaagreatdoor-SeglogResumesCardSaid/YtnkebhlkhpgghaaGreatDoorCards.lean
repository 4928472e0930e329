/-
  DERIVED. GIVEN WITH THE SEED: THE CARDS: each row of YtnkebhlkhpgghaaGreatDoorRows.lean that lists a variable, with what it lists TIED to the program's text (the seventh form; the later family's looks); each row that meets fmt, with fmt's text TOLD by the authors' own Lean function (tested against real Go, not proved from fmt's source: count such statements apart). THE CARD IS WHAT COUNTS. Prove the row's statement (the work); the ties are given (YtnkebhlkhpgghaaGreatDoorTie.lean); close each card by the builder's one call (the guide's Derived/Test/ToyasCard.lean, 'card_holds'). Laid BY PROGRAM, IN A SANDBOX (cutbox-door.mjs). By AI agents, Wed Nov 11 2026. No macro, syntax, notation, axiom, sorry.
-/
import Derived.Test.YtnkebhlkhpgghaaGreatDoorRows
import GoSem.ClaimSeven
namespace Go.Proofs.YtnkebhlkhpgghaaGreatDoor
namespace Rows

/-- THE TIED CARD OF 'blackboxlaw12.SeglogSteps'. -/
def seglogStepsCard : Claim7 := { stood := { row := seglogStepsRow, standIns := [], harness := (true, "fef5fe7f3e0f16accf5bd8e72e72b8087040a62dd2b6985b1c0928ff51699550"), looks := false }, kinds := [], alts := [], laidByText := true, laidKinds := [.data], laidTests := true, laidLooks := .later }
def SeglogStepsCardSaid : Prop := Claim7.holds Tryz.pinned (.plain (OpenSpec.ofChange seglogStepsSpec)) seglogStepsCard

/-- THE TIED CARD OF 'blackboxlaw12.SeglogResumes'. -/
def seglogResumesCard : Claim7 := { stood := { row := seglogResumesRow, standIns := [], harness := (true, "fef5fe7f3e0f16accf5bd8e72e72b8087040a62dd2b6985b1c0928ff51699550"), looks := false }, kinds := [], alts := [], laidByText := true, laidKinds := [.data], laidTests := true, laidLooks := .later }
def SeglogResumesCardSaid : Prop := Claim7.holds Tryz.pinned (.plain (OpenSpec.ofChange seglogResumesSpec)) seglogResumesCard

/-- THE SECOND FORM's CARD OF 'blackboxlaw12.SeglogSteps'. -/
def seglogStepsUptoCard : Claim7 := { stood := { row := seglogStepsUptoRow, standIns := [], harness := (true, "fef5fe7f3e0f16accf5bd8e72e72b8087040a62dd2b6985b1c0928ff51699550"), looks := false }, kinds := [], alts := [], laidByText := true, laidKinds := [.data], laidTests := true, laidLooks := .later }
def SeglogStepsUptoCardSaid : Prop := Claim7.holds Tryz.pinned (.plain (OpenSpec.upto seglogStepsSpec)) seglogStepsUptoCard

/-- THE SECOND FORM's CARD OF 'blackboxlaw12.SeglogResumes'. -/
def seglogResumesUptoCard : Claim7 := { stood := { row := seglogResumesUptoRow, standIns := [], harness := (true, "fef5fe7f3e0f16accf5bd8e72e72b8087040a62dd2b6985b1c0928ff51699550"), looks := false }, kinds := [], alts := [], laidByText := true, laidKinds := [.data], laidTests := true, laidLooks := .later }
def SeglogResumesUptoCardSaid : Prop := Claim7.holds Tryz.pinned (.plain (OpenSpec.upto seglogResumesSpec)) seglogResumesUptoCard
end Rows
end Go.Proofs.YtnkebhlkhpgghaaGreatDoor

/-
  DERIVED. GIVEN WITH THE SEED: THE CARDS: each row of YtgeokccfobmeiaaGreatDoorRows.lean that lists a variable, with what it lists TIED to the program's text (the seventh form; the later family's looks); each row that meets fmt, with fmt's text TOLD by the authors' own Lean function (tested against real Go, not proved from fmt's source: count such statements apart). THE CARD IS WHAT COUNTS. Prove the row's statement (the work); the ties are given (YtgeokccfobmeiaaGreatDoorTie.lean); close each card by the builder's one call (the guide's Derived/Test/ToyasCard.lean, 'card_holds'). Laid BY PROGRAM, IN A SANDBOX (cutbox-door.mjs). By AI agents, Wed Nov 11 2026. No macro, syntax, notation, axiom, sorry.
-/
import Derived.Test.YtgeokccfobmeiaaGreatDoorRows
import GoSem.ClaimSeven
namespace Go.Proofs.YtgeokccfobmeiaaGreatDoor
namespace Rows

/-- THE TIED CARD OF 'tandemlaw06.ShowTexts'. -/
def showTextsCard : Claim7 := { stood := { row := showTextsRow, standIns := [], harness := (true, "e7e77f3d15767b62538a202462730e3da3a29f53b78644e0e1e538742b0128b8"), looks := true }, kinds := [], alts := [], laidByText := true, laidKinds := [.data, .data, .data, .sentinel, .sentinel], laidTests := true, laidLooks := .later }
def ShowTextsCardSaid : Prop := Claim7.holds Tryz.pinned (.plain (OpenSpec.ofChange showTextsSpec)) showTextsCard

/-- THE TIED CARD OF 'tandemlaw06.ShowBack'. -/
def showBackCard : Claim7 := { stood := { row := showBackRow, standIns := [], harness := (true, "e7e77f3d15767b62538a202462730e3da3a29f53b78644e0e1e538742b0128b8"), looks := true }, kinds := [], alts := [], laidByText := true, laidKinds := [.data, .data, .data, .sentinel, .sentinel], laidTests := true, laidLooks := .later }
def ShowBackCardSaid : Prop := Claim7.holds Tryz.pinned (.plain (OpenSpec.ofChange showBackSpec)) showBackCard

/-- THE SECOND FORM's CARD OF 'tandemlaw06.ShowTexts'. -/
def showTextsUptoCard : Claim7 := { stood := { row := showTextsUptoRow, standIns := [], harness := (true, "e7e77f3d15767b62538a202462730e3da3a29f53b78644e0e1e538742b0128b8"), looks := true }, kinds := [], alts := [], laidByText := true, laidKinds := [.data, .data, .data, .sentinel, .sentinel], laidTests := true, laidLooks := .later }
def ShowTextsUptoCardSaid : Prop := Claim7.holds Tryz.pinned (.plain (OpenSpec.upto showTextsSpec)) showTextsUptoCard

/-- THE SECOND FORM's CARD OF 'tandemlaw06.ShowBack'. -/
def showBackUptoCard : Claim7 := { stood := { row := showBackUptoRow, standIns := [], harness := (true, "e7e77f3d15767b62538a202462730e3da3a29f53b78644e0e1e538742b0128b8"), looks := true }, kinds := [], alts := [], laidByText := true, laidKinds := [.data, .data, .data, .sentinel, .sentinel], laidTests := true, laidLooks := .later }
def ShowBackUptoCardSaid : Prop := Claim7.holds Tryz.pinned (.plain (OpenSpec.upto showBackSpec)) showBackUptoCard
end Rows
end Go.Proofs.YtgeokccfobmeiaaGreatDoor

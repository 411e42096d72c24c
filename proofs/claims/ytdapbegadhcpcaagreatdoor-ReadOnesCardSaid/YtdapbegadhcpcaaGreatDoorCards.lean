/-
  DERIVED. GIVEN WITH THE SEED: THE CARDS: each row of YtdapbegadhcpcaaGreatDoorRows.lean that lists a variable, with what it lists TIED to the program's text (the seventh form; the later family's looks); each row that meets fmt, with fmt's text TOLD by the authors' own Lean function (tested against real Go, not proved from fmt's source: count such statements apart). THE CARD IS WHAT COUNTS. Prove the row's statement (the work); the ties are given (YtdapbegadhcpcaaGreatDoorTie.lean); close each card by the builder's one call (the guide's Derived/Test/ToyasCard.lean, 'card_holds'). Laid BY PROGRAM, IN A SANDBOX (cutbox-door.mjs). By AI agents, Wed Nov 11 2026. No macro, syntax, notation, axiom, sorry.
-/
import Derived.Test.YtdapbegadhcpcaaGreatDoorRows
import GoSem.ClaimSeven
namespace Go.Proofs.YtdapbegadhcpcaaGreatDoor
namespace Rows

/-- THE TIED CARD OF 'tandemlaw05.ReadAlls'. -/
def readAllsCard : Claim7 := { stood := { row := readAllsRow, standIns := [], harness := (true, "cccad43fbde2e5f84d0d8d64a4a71b5396892a2e8f90ee153d8e0ecb0547a373"), looks := true }, kinds := [], alts := [], laidByText := true, laidKinds := [.data, .data, .data, .sentinel, .sentinel], laidTests := true, laidLooks := .later }
def ReadAllsCardSaid : Prop := Claim7.holds Tryz.pinned (.plain (OpenSpec.ofChange readAllsSpec)) readAllsCard

/-- THE TIED CARD OF 'tandemlaw05.ReadOnes'. -/
def readOnesCard : Claim7 := { stood := { row := readOnesRow, standIns := [], harness := (true, "cccad43fbde2e5f84d0d8d64a4a71b5396892a2e8f90ee153d8e0ecb0547a373"), looks := true }, kinds := [], alts := [], laidByText := true, laidKinds := [.data, .data, .data, .sentinel, .sentinel], laidTests := true, laidLooks := .later }
def ReadOnesCardSaid : Prop := Claim7.holds Tryz.pinned (.plain (OpenSpec.ofChange readOnesSpec)) readOnesCard

/-- THE SECOND FORM's CARD OF 'tandemlaw05.ReadAlls'. -/
def readAllsUptoCard : Claim7 := { stood := { row := readAllsUptoRow, standIns := [], harness := (true, "cccad43fbde2e5f84d0d8d64a4a71b5396892a2e8f90ee153d8e0ecb0547a373"), looks := true }, kinds := [], alts := [], laidByText := true, laidKinds := [.data, .data, .data, .sentinel, .sentinel], laidTests := true, laidLooks := .later }
def ReadAllsUptoCardSaid : Prop := Claim7.holds Tryz.pinned (.plain (OpenSpec.upto readAllsSpec)) readAllsUptoCard

/-- THE SECOND FORM's CARD OF 'tandemlaw05.ReadOnes'. -/
def readOnesUptoCard : Claim7 := { stood := { row := readOnesUptoRow, standIns := [], harness := (true, "cccad43fbde2e5f84d0d8d64a4a71b5396892a2e8f90ee153d8e0ecb0547a373"), looks := true }, kinds := [], alts := [], laidByText := true, laidKinds := [.data, .data, .data, .sentinel, .sentinel], laidTests := true, laidLooks := .later }
def ReadOnesUptoCardSaid : Prop := Claim7.holds Tryz.pinned (.plain (OpenSpec.upto readOnesSpec)) readOnesUptoCard
end Rows
end Go.Proofs.YtdapbegadhcpcaaGreatDoor

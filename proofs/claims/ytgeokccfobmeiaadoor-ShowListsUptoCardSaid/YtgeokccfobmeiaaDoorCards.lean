/-
  DERIVED. GIVEN WITH THE SEED: THE CARDS: each row of YtgeokccfobmeiaaDoorRows.lean that lists a variable, with what it lists TIED to the program's text (the seventh form; the later family's looks); each row that meets fmt, with fmt's text TOLD by the authors' own Lean function (tested against real Go, not proved from fmt's source: count such statements apart). THE CARD IS WHAT COUNTS. Prove the row's statement (the work); the ties are given (YtgeokccfobmeiaaDoorTie.lean); close each card by the builder's one call (the guide's Derived/Test/ToyasCard.lean, 'card_holds'). Laid BY PROGRAM, IN A SANDBOX (cutbox-door.mjs). By AI agents, Wed Nov 11 2026. No macro, syntax, notation, axiom, sorry.
-/
import Derived.Test.YtgeokccfobmeiaaDoorRows
import GoSem.ClaimSeven
namespace Go.Proofs.YtgeokccfobmeiaaDoor
namespace Rows

/-- THE TIED CARD OF 'tandemlaw06.ShowWrites'. -/
def showWritesCard : Claim7 := { stood := { row := showWritesRow, standIns := [], harness := (true, "b415eaa7580b54aaed1bb63ab5365af96ce529512a95af435b3d91b05439a5d4"), looks := false }, kinds := [], alts := [], laidByText := true, laidKinds := [.data, .data, .data], laidTests := true, laidLooks := .later }
def ShowWritesCardSaid : Prop := Claim7.holds Tryd.pinned (.plain (OpenSpec.ofChange showWritesSpec)) showWritesCard

/-- THE TIED CARD OF 'tandemlaw06.ShowDisplays'. -/
def showDisplaysCard : Claim7 := { stood := { row := showDisplaysRow, standIns := [], harness := (true, "b415eaa7580b54aaed1bb63ab5365af96ce529512a95af435b3d91b05439a5d4"), looks := false }, kinds := [], alts := [], laidByText := true, laidKinds := [.data, .data, .data], laidTests := true, laidLooks := .later }
def ShowDisplaysCardSaid : Prop := Claim7.holds Tryd.pinned (.plain (OpenSpec.ofChange showDisplaysSpec)) showDisplaysCard

/-- THE TIED CARD OF 'tandemlaw06.ShowLists'. -/
def showListsCard : Claim7 := { stood := { row := showListsRow, standIns := [], harness := (true, "b415eaa7580b54aaed1bb63ab5365af96ce529512a95af435b3d91b05439a5d4"), looks := false }, kinds := [], alts := [], laidByText := true, laidKinds := [.data, .data, .data], laidTests := true, laidLooks := .later }
def ShowListsCardSaid : Prop := Claim7.holds Tryd.pinned (.plain (OpenSpec.ofChange showListsSpec)) showListsCard

/-- THE SECOND FORM's CARD OF 'tandemlaw06.ShowWrites'. -/
def showWritesUptoCard : Claim7 := { stood := { row := showWritesUptoRow, standIns := [], harness := (true, "b415eaa7580b54aaed1bb63ab5365af96ce529512a95af435b3d91b05439a5d4"), looks := false }, kinds := [], alts := [], laidByText := true, laidKinds := [.data, .data, .data], laidTests := true, laidLooks := .later }
def ShowWritesUptoCardSaid : Prop := Claim7.holds Tryd.pinned (.plain (OpenSpec.upto showWritesSpec)) showWritesUptoCard

/-- THE SECOND FORM's CARD OF 'tandemlaw06.ShowDisplays'. -/
def showDisplaysUptoCard : Claim7 := { stood := { row := showDisplaysUptoRow, standIns := [], harness := (true, "b415eaa7580b54aaed1bb63ab5365af96ce529512a95af435b3d91b05439a5d4"), looks := false }, kinds := [], alts := [], laidByText := true, laidKinds := [.data, .data, .data], laidTests := true, laidLooks := .later }
def ShowDisplaysUptoCardSaid : Prop := Claim7.holds Tryd.pinned (.plain (OpenSpec.upto showDisplaysSpec)) showDisplaysUptoCard

/-- THE SECOND FORM's CARD OF 'tandemlaw06.ShowLists'. -/
def showListsUptoCard : Claim7 := { stood := { row := showListsUptoRow, standIns := [], harness := (true, "b415eaa7580b54aaed1bb63ab5365af96ce529512a95af435b3d91b05439a5d4"), looks := false }, kinds := [], alts := [], laidByText := true, laidKinds := [.data, .data, .data], laidTests := true, laidLooks := .later }
def ShowListsUptoCardSaid : Prop := Claim7.holds Tryd.pinned (.plain (OpenSpec.upto showListsSpec)) showListsUptoCard
end Rows
end Go.Proofs.YtgeokccfobmeiaaDoor

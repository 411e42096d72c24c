/-
  DERIVED. GIVEN WITH THE SEED: THE CARDS: each row of YtdapbegadhcpcaaDoorRows.lean that lists a variable, with what it lists TIED to the program's text (the seventh form; the later family's looks); each row that meets fmt, with fmt's text TOLD by the authors' own Lean function (tested against real Go, not proved from fmt's source: count such statements apart). THE CARD IS WHAT COUNTS. Prove the row's statement (the work); the ties are given (YtdapbegadhcpcaaDoorTie.lean); close each card by the builder's one call (the guide's Derived/Test/ToyasCard.lean, 'card_holds'). Laid BY PROGRAM, IN A SANDBOX (cutbox-door.mjs). By AI agents, Wed Nov 11 2026. No macro, syntax, notation, axiom, sorry.
-/
import Derived.Test.YtdapbegadhcpcaaDoorRows
import GoSem.ClaimSeven
namespace Go.Proofs.YtdapbegadhcpcaaDoor
namespace Rows

/-- THE TIED CARD OF 'tandemlaw05.ReadBack'. -/
def readBackCard : Claim7 := { stood := { row := readBackRow, standIns := [], harness := (true, "9bce28f5daec0041f133ff78b4a6f63282bb184158e797fc793755351e9e6e05"), looks := true }, kinds := [], alts := [], laidByText := true, laidKinds := [.data, .data, .data, .sentinel, .sentinel], laidTests := true, laidLooks := .later }
def ReadBackCardSaid : Prop := Claim7.holds Tryd.pinned (.plain (OpenSpec.ofChange readBackSpec)) readBackCard

/-- THE TIED CARD OF 'tandemlaw05.ReadBlanks'. -/
def readBlanksCard : Claim7 := { stood := { row := readBlanksRow, standIns := [], harness := (true, "9bce28f5daec0041f133ff78b4a6f63282bb184158e797fc793755351e9e6e05"), looks := true }, kinds := [], alts := [], laidByText := true, laidKinds := [.data, .data, .data, .sentinel, .sentinel], laidTests := true, laidLooks := .later }
def ReadBlanksCardSaid : Prop := Claim7.holds Tryd.pinned (.plain (OpenSpec.ofChange readBlanksSpec)) readBlanksCard

/-- THE TIED CARD OF 'tandemlaw05.ReadDepths'. -/
def readDepthsCard : Claim7 := { stood := { row := readDepthsRow, standIns := [], harness := (true, "9bce28f5daec0041f133ff78b4a6f63282bb184158e797fc793755351e9e6e05"), looks := true }, kinds := [], alts := [], laidByText := true, laidKinds := [.data, .data, .data, .sentinel, .sentinel], laidTests := true, laidLooks := .later }
def ReadDepthsCardSaid : Prop := Claim7.holds Tryd.pinned (.plain (OpenSpec.ofChange readDepthsSpec)) readDepthsCard

/-- THE TIED CARD OF 'tandemlaw05.ReadChains'. -/
def readChainsCard : Claim7 := { stood := { row := readChainsRow, standIns := [], harness := (true, "9bce28f5daec0041f133ff78b4a6f63282bb184158e797fc793755351e9e6e05"), looks := true }, kinds := [], alts := [], laidByText := true, laidKinds := [.data, .data, .data, .sentinel, .sentinel], laidTests := true, laidLooks := .later }
def ReadChainsCardSaid : Prop := Claim7.holds Tryd.pinned (.plain (OpenSpec.ofChange readChainsSpec)) readChainsCard

/-- THE SECOND FORM's CARD OF 'tandemlaw05.ReadBack'. -/
def readBackUptoCard : Claim7 := { stood := { row := readBackUptoRow, standIns := [], harness := (true, "9bce28f5daec0041f133ff78b4a6f63282bb184158e797fc793755351e9e6e05"), looks := true }, kinds := [], alts := [], laidByText := true, laidKinds := [.data, .data, .data, .sentinel, .sentinel], laidTests := true, laidLooks := .later }
def ReadBackUptoCardSaid : Prop := Claim7.holds Tryd.pinned (.plain (OpenSpec.upto readBackSpec)) readBackUptoCard

/-- THE SECOND FORM's CARD OF 'tandemlaw05.ReadBlanks'. -/
def readBlanksUptoCard : Claim7 := { stood := { row := readBlanksUptoRow, standIns := [], harness := (true, "9bce28f5daec0041f133ff78b4a6f63282bb184158e797fc793755351e9e6e05"), looks := true }, kinds := [], alts := [], laidByText := true, laidKinds := [.data, .data, .data, .sentinel, .sentinel], laidTests := true, laidLooks := .later }
def ReadBlanksUptoCardSaid : Prop := Claim7.holds Tryd.pinned (.plain (OpenSpec.upto readBlanksSpec)) readBlanksUptoCard

/-- THE SECOND FORM's CARD OF 'tandemlaw05.ReadDepths'. -/
def readDepthsUptoCard : Claim7 := { stood := { row := readDepthsUptoRow, standIns := [], harness := (true, "9bce28f5daec0041f133ff78b4a6f63282bb184158e797fc793755351e9e6e05"), looks := true }, kinds := [], alts := [], laidByText := true, laidKinds := [.data, .data, .data, .sentinel, .sentinel], laidTests := true, laidLooks := .later }
def ReadDepthsUptoCardSaid : Prop := Claim7.holds Tryd.pinned (.plain (OpenSpec.upto readDepthsSpec)) readDepthsUptoCard

/-- THE SECOND FORM's CARD OF 'tandemlaw05.ReadChains'. -/
def readChainsUptoCard : Claim7 := { stood := { row := readChainsUptoRow, standIns := [], harness := (true, "9bce28f5daec0041f133ff78b4a6f63282bb184158e797fc793755351e9e6e05"), looks := true }, kinds := [], alts := [], laidByText := true, laidKinds := [.data, .data, .data, .sentinel, .sentinel], laidTests := true, laidLooks := .later }
def ReadChainsUptoCardSaid : Prop := Claim7.holds Tryd.pinned (.plain (OpenSpec.upto readChainsSpec)) readChainsUptoCard
end Rows
end Go.Proofs.YtdapbegadhcpcaaDoor

/-
  DERIVED. GIVEN WITH THE SEED: THE CARDS: each row of YtbdcjlikjpdhfaaDoorRows.lean that lists a variable, with what it lists TIED to the program's text (the seventh form; the later family's looks); each row that meets fmt, with fmt's text TOLD by the authors' own Lean function (tested against real Go, not proved from fmt's source: count such statements apart). THE CARD IS WHAT COUNTS. Prove the row's statement (the work); the ties are given (YtbdcjlikjpdhfaaDoorTie.lean); close each card by the builder's one call (the guide's Derived/Test/ToyasCard.lean, 'card_holds'). Laid BY PROGRAM, IN A SANDBOX (cutbox-door.mjs). By AI agents, Wed Nov 11 2026. No macro, syntax, notation, axiom, sorry.
-/
import Derived.Test.YtbdcjlikjpdhfaaDoorRows
import GoSem.ClaimSeven
namespace Go.Proofs.YtbdcjlikjpdhfaaDoor
namespace Rows

/-- THE TIED CARD OF 'tandemlaw01.NatSums'. -/
def natSumsCard : Claim7 := { stood := { row := natSumsRow, standIns := [], harness := (true, "f48dbd47ab56527ac3bd5c0df5462a2e082cd00463011dc603fd0509954dbe1a"), looks := true }, kinds := [], alts := [], laidByText := true, laidKinds := [.data, .data, .data, .sentinel, .sentinel], laidTests := true, laidLooks := .later }
def NatSumsCardSaid : Prop := Claim7.holds Tryd.pinned (.plain (OpenSpec.ofChange natSumsSpec)) natSumsCard

/-- THE TIED CARD OF 'tandemlaw01.NatTexts'. -/
def natTextsCard : Claim7 := { stood := { row := natTextsRow, standIns := [], harness := (true, "f48dbd47ab56527ac3bd5c0df5462a2e082cd00463011dc603fd0509954dbe1a"), looks := true }, kinds := [], alts := [], laidByText := true, laidKinds := [.data, .data, .data, .sentinel, .sentinel], laidTests := true, laidLooks := .later }
def NatTextsCardSaid : Prop := Claim7.holds Tryd.pinned (.plain (OpenSpec.ofChange natTextsSpec)) natTextsCard

/-- THE TIED CARD OF 'tandemlaw01.NatBack'. -/
def natBackCard : Claim7 := { stood := { row := natBackRow, standIns := [], harness := (true, "f48dbd47ab56527ac3bd5c0df5462a2e082cd00463011dc603fd0509954dbe1a"), looks := true }, kinds := [], alts := [], laidByText := true, laidKinds := [.data, .data, .data, .sentinel, .sentinel], laidTests := true, laidLooks := .later }
def NatBackCardSaid : Prop := Claim7.holds Tryd.pinned (.plain (OpenSpec.ofChange natBackSpec)) natBackCard

/-- THE TIED CARD OF 'tandemlaw01.NatProducts'. -/
def natProductsCard : Claim7 := { stood := { row := natProductsRow, standIns := [], harness := (true, "f48dbd47ab56527ac3bd5c0df5462a2e082cd00463011dc603fd0509954dbe1a"), looks := true }, kinds := [], alts := [], laidByText := true, laidKinds := [.data, .data, .data, .sentinel, .sentinel], laidTests := true, laidLooks := .later }
def NatProductsCardSaid : Prop := Claim7.holds Tryd.pinned (.plain (OpenSpec.ofChange natProductsSpec)) natProductsCard

/-- THE TIED CARD OF 'tandemlaw01.NatDifferences'. -/
def natDifferencesCard : Claim7 := { stood := { row := natDifferencesRow, standIns := [], harness := (true, "f48dbd47ab56527ac3bd5c0df5462a2e082cd00463011dc603fd0509954dbe1a"), looks := true }, kinds := [], alts := [], laidByText := true, laidKinds := [.data, .data, .data, .sentinel, .sentinel], laidTests := true, laidLooks := .later }
def NatDifferencesCardSaid : Prop := Claim7.holds Tryd.pinned (.plain (OpenSpec.ofChange natDifferencesSpec)) natDifferencesCard

/-- THE TIED CARD OF 'tandemlaw01.NatLaws'. -/
def natLawsCard : Claim7 := { stood := { row := natLawsRow, standIns := [], harness := (true, "f48dbd47ab56527ac3bd5c0df5462a2e082cd00463011dc603fd0509954dbe1a"), looks := true }, kinds := [], alts := [], laidByText := true, laidKinds := [.data, .data, .data, .sentinel, .sentinel], laidTests := true, laidLooks := .later }
def NatLawsCardSaid : Prop := Claim7.holds Tryd.pinned (.plain (OpenSpec.ofChange natLawsSpec)) natLawsCard

/-- THE TIED CARD OF 'tandemlaw01.NatSquares'. -/
def natSquaresCard : Claim7 := { stood := { row := natSquaresRow, standIns := [], harness := (true, "f48dbd47ab56527ac3bd5c0df5462a2e082cd00463011dc603fd0509954dbe1a"), looks := true }, kinds := [], alts := [], laidByText := true, laidKinds := [.data, .data, .data, .sentinel, .sentinel], laidTests := true, laidLooks := .later }
def NatSquaresCardSaid : Prop := Claim7.holds Tryd.pinned (.plain (OpenSpec.ofChange natSquaresSpec)) natSquaresCard

/-- THE TIED CARD OF 'tandemlaw01.NatQuotients'. -/
def natQuotientsCard : Claim7 := { stood := { row := natQuotientsRow, standIns := [], harness := (true, "f48dbd47ab56527ac3bd5c0df5462a2e082cd00463011dc603fd0509954dbe1a"), looks := true }, kinds := [], alts := [], laidByText := true, laidKinds := [.data, .data, .data, .sentinel, .sentinel], laidTests := true, laidLooks := .later }
def NatQuotientsCardSaid : Prop := Claim7.holds Tryd.pinned (.plain (OpenSpec.ofChange natQuotientsSpec)) natQuotientsCard

/-- THE TIED CARD OF 'tandemlaw01.NatMakes'. -/
def natMakesCard : Claim7 := { stood := { row := natMakesRow, standIns := [], harness := (true, "f48dbd47ab56527ac3bd5c0df5462a2e082cd00463011dc603fd0509954dbe1a"), looks := true }, kinds := [], alts := [], laidByText := true, laidKinds := [.data, .data, .data, .sentinel, .sentinel], laidTests := true, laidLooks := .later }
def NatMakesCardSaid : Prop := Claim7.holds Tryd.pinned (.plain (OpenSpec.ofChange natMakesSpec)) natMakesCard

/-- THE TIED CARD OF 'tandemlaw01.NatDoubles'. -/
def natDoublesCard : Claim7 := { stood := { row := natDoublesRow, standIns := [], harness := (true, "f48dbd47ab56527ac3bd5c0df5462a2e082cd00463011dc603fd0509954dbe1a"), looks := true }, kinds := [], alts := [], laidByText := true, laidKinds := [.data, .data, .data, .sentinel, .sentinel], laidTests := true, laidLooks := .later }
def NatDoublesCardSaid : Prop := Claim7.holds Tryd.pinned (.plain (OpenSpec.ofChange natDoublesSpec)) natDoublesCard

/-- THE TIED CARD OF 'tandemlaw01.NatKept'. -/
def natKeptCard : Claim7 := { stood := { row := natKeptRow, standIns := [], harness := (true, "f48dbd47ab56527ac3bd5c0df5462a2e082cd00463011dc603fd0509954dbe1a"), looks := true }, kinds := [], alts := [], laidByText := true, laidKinds := [.data, .data, .data, .sentinel, .sentinel], laidTests := true, laidLooks := .later }
def NatKeptCardSaid : Prop := Claim7.holds Tryd.pinned (.plain (OpenSpec.ofChange natKeptSpec)) natKeptCard

/-- THE SECOND FORM's CARD OF 'tandemlaw01.NatSums'. -/
def natSumsUptoCard : Claim7 := { stood := { row := natSumsUptoRow, standIns := [], harness := (true, "f48dbd47ab56527ac3bd5c0df5462a2e082cd00463011dc603fd0509954dbe1a"), looks := true }, kinds := [], alts := [], laidByText := true, laidKinds := [.data, .data, .data, .sentinel, .sentinel], laidTests := true, laidLooks := .later }
def NatSumsUptoCardSaid : Prop := Claim7.holds Tryd.pinned (.plain (OpenSpec.upto natSumsSpec)) natSumsUptoCard

/-- THE SECOND FORM's CARD OF 'tandemlaw01.NatTexts'. -/
def natTextsUptoCard : Claim7 := { stood := { row := natTextsUptoRow, standIns := [], harness := (true, "f48dbd47ab56527ac3bd5c0df5462a2e082cd00463011dc603fd0509954dbe1a"), looks := true }, kinds := [], alts := [], laidByText := true, laidKinds := [.data, .data, .data, .sentinel, .sentinel], laidTests := true, laidLooks := .later }
def NatTextsUptoCardSaid : Prop := Claim7.holds Tryd.pinned (.plain (OpenSpec.upto natTextsSpec)) natTextsUptoCard

/-- THE SECOND FORM's CARD OF 'tandemlaw01.NatBack'. -/
def natBackUptoCard : Claim7 := { stood := { row := natBackUptoRow, standIns := [], harness := (true, "f48dbd47ab56527ac3bd5c0df5462a2e082cd00463011dc603fd0509954dbe1a"), looks := true }, kinds := [], alts := [], laidByText := true, laidKinds := [.data, .data, .data, .sentinel, .sentinel], laidTests := true, laidLooks := .later }
def NatBackUptoCardSaid : Prop := Claim7.holds Tryd.pinned (.plain (OpenSpec.upto natBackSpec)) natBackUptoCard

/-- THE SECOND FORM's CARD OF 'tandemlaw01.NatProducts'. -/
def natProductsUptoCard : Claim7 := { stood := { row := natProductsUptoRow, standIns := [], harness := (true, "f48dbd47ab56527ac3bd5c0df5462a2e082cd00463011dc603fd0509954dbe1a"), looks := true }, kinds := [], alts := [], laidByText := true, laidKinds := [.data, .data, .data, .sentinel, .sentinel], laidTests := true, laidLooks := .later }
def NatProductsUptoCardSaid : Prop := Claim7.holds Tryd.pinned (.plain (OpenSpec.upto natProductsSpec)) natProductsUptoCard

/-- THE SECOND FORM's CARD OF 'tandemlaw01.NatDifferences'. -/
def natDifferencesUptoCard : Claim7 := { stood := { row := natDifferencesUptoRow, standIns := [], harness := (true, "f48dbd47ab56527ac3bd5c0df5462a2e082cd00463011dc603fd0509954dbe1a"), looks := true }, kinds := [], alts := [], laidByText := true, laidKinds := [.data, .data, .data, .sentinel, .sentinel], laidTests := true, laidLooks := .later }
def NatDifferencesUptoCardSaid : Prop := Claim7.holds Tryd.pinned (.plain (OpenSpec.upto natDifferencesSpec)) natDifferencesUptoCard

/-- THE SECOND FORM's CARD OF 'tandemlaw01.NatLaws'. -/
def natLawsUptoCard : Claim7 := { stood := { row := natLawsUptoRow, standIns := [], harness := (true, "f48dbd47ab56527ac3bd5c0df5462a2e082cd00463011dc603fd0509954dbe1a"), looks := true }, kinds := [], alts := [], laidByText := true, laidKinds := [.data, .data, .data, .sentinel, .sentinel], laidTests := true, laidLooks := .later }
def NatLawsUptoCardSaid : Prop := Claim7.holds Tryd.pinned (.plain (OpenSpec.upto natLawsSpec)) natLawsUptoCard

/-- THE SECOND FORM's CARD OF 'tandemlaw01.NatSquares'. -/
def natSquaresUptoCard : Claim7 := { stood := { row := natSquaresUptoRow, standIns := [], harness := (true, "f48dbd47ab56527ac3bd5c0df5462a2e082cd00463011dc603fd0509954dbe1a"), looks := true }, kinds := [], alts := [], laidByText := true, laidKinds := [.data, .data, .data, .sentinel, .sentinel], laidTests := true, laidLooks := .later }
def NatSquaresUptoCardSaid : Prop := Claim7.holds Tryd.pinned (.plain (OpenSpec.upto natSquaresSpec)) natSquaresUptoCard

/-- THE SECOND FORM's CARD OF 'tandemlaw01.NatQuotients'. -/
def natQuotientsUptoCard : Claim7 := { stood := { row := natQuotientsUptoRow, standIns := [], harness := (true, "f48dbd47ab56527ac3bd5c0df5462a2e082cd00463011dc603fd0509954dbe1a"), looks := true }, kinds := [], alts := [], laidByText := true, laidKinds := [.data, .data, .data, .sentinel, .sentinel], laidTests := true, laidLooks := .later }
def NatQuotientsUptoCardSaid : Prop := Claim7.holds Tryd.pinned (.plain (OpenSpec.upto natQuotientsSpec)) natQuotientsUptoCard

/-- THE SECOND FORM's CARD OF 'tandemlaw01.NatMakes'. -/
def natMakesUptoCard : Claim7 := { stood := { row := natMakesUptoRow, standIns := [], harness := (true, "f48dbd47ab56527ac3bd5c0df5462a2e082cd00463011dc603fd0509954dbe1a"), looks := true }, kinds := [], alts := [], laidByText := true, laidKinds := [.data, .data, .data, .sentinel, .sentinel], laidTests := true, laidLooks := .later }
def NatMakesUptoCardSaid : Prop := Claim7.holds Tryd.pinned (.plain (OpenSpec.upto natMakesSpec)) natMakesUptoCard

/-- THE SECOND FORM's CARD OF 'tandemlaw01.NatDoubles'. -/
def natDoublesUptoCard : Claim7 := { stood := { row := natDoublesUptoRow, standIns := [], harness := (true, "f48dbd47ab56527ac3bd5c0df5462a2e082cd00463011dc603fd0509954dbe1a"), looks := true }, kinds := [], alts := [], laidByText := true, laidKinds := [.data, .data, .data, .sentinel, .sentinel], laidTests := true, laidLooks := .later }
def NatDoublesUptoCardSaid : Prop := Claim7.holds Tryd.pinned (.plain (OpenSpec.upto natDoublesSpec)) natDoublesUptoCard

/-- THE SECOND FORM's CARD OF 'tandemlaw01.NatKept'. -/
def natKeptUptoCard : Claim7 := { stood := { row := natKeptUptoRow, standIns := [], harness := (true, "f48dbd47ab56527ac3bd5c0df5462a2e082cd00463011dc603fd0509954dbe1a"), looks := true }, kinds := [], alts := [], laidByText := true, laidKinds := [.data, .data, .data, .sentinel, .sentinel], laidTests := true, laidLooks := .later }
def NatKeptUptoCardSaid : Prop := Claim7.holds Tryd.pinned (.plain (OpenSpec.upto natKeptSpec)) natKeptUptoCard
end Rows
end Go.Proofs.YtbdcjlikjpdhfaaDoor

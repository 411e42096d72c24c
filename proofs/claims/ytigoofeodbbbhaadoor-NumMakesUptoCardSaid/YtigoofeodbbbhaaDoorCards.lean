/-
  DERIVED. GIVEN WITH THE SEED: THE CARDS: each row of YtigoofeodbbbhaaDoorRows.lean that lists a variable, with what it lists TIED to the program's text (the seventh form; the later family's looks); each row that meets fmt, with fmt's text TOLD by the authors' own Lean function (tested against real Go, not proved from fmt's source: count such statements apart). THE CARD IS WHAT COUNTS. Prove the row's statement (the work); the ties are given (YtigoofeodbbbhaaDoorTie.lean); close each card by the builder's one call (the guide's Derived/Test/ToyasCard.lean, 'card_holds'). Laid BY PROGRAM, IN A SANDBOX (cutbox-door.mjs). By AI agents, Wed Nov 11 2026. No macro, syntax, notation, axiom, sorry.
-/
import Derived.Test.YtigoofeodbbbhaaDoorRows
import GoSem.ClaimSeven
namespace Go.Proofs.YtigoofeodbbbhaaDoor
namespace Rows

/-- THE TIED CARD OF 'tandemlaw02.NumSums'. -/
def numSumsCard : Claim7 := { stood := { row := numSumsRow, standIns := [], harness := (true, "ec2bc17e132edf74ad39cb8954f62da13b9245b3422f46303a647fefaeb4aa6e"), looks := true }, kinds := [], alts := [], laidByText := true, laidKinds := [.data, .data, .data], laidTests := true, laidLooks := .later }
def NumSumsCardSaid : Prop := Claim7.holds Tryd.pinned (.plain (OpenSpec.ofChange numSumsSpec)) numSumsCard

/-- THE TIED CARD OF 'tandemlaw02.NumQuotients'. -/
def numQuotientsCard : Claim7 := { stood := { row := numQuotientsRow, standIns := [], harness := (true, "ec2bc17e132edf74ad39cb8954f62da13b9245b3422f46303a647fefaeb4aa6e"), looks := true }, kinds := [], alts := [], laidByText := true, laidKinds := [.data, .data, .data], laidTests := true, laidLooks := .later }
def NumQuotientsCardSaid : Prop := Claim7.holds Tryd.pinned (.plain (OpenSpec.ofChange numQuotientsSpec)) numQuotientsCard

/-- THE TIED CARD OF 'tandemlaw02.NumSmalls'. -/
def numSmallsCard : Claim7 := { stood := { row := numSmallsRow, standIns := [], harness := (true, "ec2bc17e132edf74ad39cb8954f62da13b9245b3422f46303a647fefaeb4aa6e"), looks := true }, kinds := [], alts := [], laidByText := true, laidKinds := [.data, .data, .data], laidTests := true, laidLooks := .later }
def NumSmallsCardSaid : Prop := Claim7.holds Tryd.pinned (.plain (OpenSpec.ofChange numSmallsSpec)) numSmallsCard

/-- THE TIED CARD OF 'tandemlaw02.NumSmallBack'. -/
def numSmallBackCard : Claim7 := { stood := { row := numSmallBackRow, standIns := [], harness := (true, "ec2bc17e132edf74ad39cb8954f62da13b9245b3422f46303a647fefaeb4aa6e"), looks := true }, kinds := [], alts := [], laidByText := true, laidKinds := [.data, .data, .data], laidTests := true, laidLooks := .later }
def NumSmallBackCardSaid : Prop := Claim7.holds Tryd.pinned (.plain (OpenSpec.ofChange numSmallBackSpec)) numSmallBackCard

/-- THE TIED CARD OF 'tandemlaw02.NumProducts'. -/
def numProductsCard : Claim7 := { stood := { row := numProductsRow, standIns := [], harness := (true, "ec2bc17e132edf74ad39cb8954f62da13b9245b3422f46303a647fefaeb4aa6e"), looks := true }, kinds := [], alts := [], laidByText := true, laidKinds := [.data, .data, .data], laidTests := true, laidLooks := .later }
def NumProductsCardSaid : Prop := Claim7.holds Tryd.pinned (.plain (OpenSpec.ofChange numProductsSpec)) numProductsCard

/-- THE TIED CARD OF 'tandemlaw02.NumRings'. -/
def numRingsCard : Claim7 := { stood := { row := numRingsRow, standIns := [], harness := (true, "ec2bc17e132edf74ad39cb8954f62da13b9245b3422f46303a647fefaeb4aa6e"), looks := true }, kinds := [], alts := [], laidByText := true, laidKinds := [.data, .data, .data], laidTests := true, laidLooks := .later }
def NumRingsCardSaid : Prop := Claim7.holds Tryd.pinned (.plain (OpenSpec.ofChange numRingsSpec)) numRingsCard

/-- THE TIED CARD OF 'tandemlaw02.NumMakes'. -/
def numMakesCard : Claim7 := { stood := { row := numMakesRow, standIns := [], harness := (true, "ec2bc17e132edf74ad39cb8954f62da13b9245b3422f46303a647fefaeb4aa6e"), looks := true }, kinds := [], alts := [], laidByText := true, laidKinds := [.data, .data, .data], laidTests := true, laidLooks := .later }
def NumMakesCardSaid : Prop := Claim7.holds Tryd.pinned (.plain (OpenSpec.ofChange numMakesSpec)) numMakesCard

/-- THE TIED CARD OF 'tandemlaw02.NumPowers'. -/
def numPowersCard : Claim7 := { stood := { row := numPowersRow, standIns := [], harness := (true, "ec2bc17e132edf74ad39cb8954f62da13b9245b3422f46303a647fefaeb4aa6e"), looks := true }, kinds := [], alts := [], laidByText := true, laidKinds := [.data, .data, .data], laidTests := true, laidLooks := .later }
def NumPowersCardSaid : Prop := Claim7.holds Tryd.pinned (.plain (OpenSpec.ofChange numPowersSpec)) numPowersCard

/-- THE TIED CARD OF 'tandemlaw02.NumDivides'. -/
def numDividesCard : Claim7 := { stood := { row := numDividesRow, standIns := [], harness := (true, "ec2bc17e132edf74ad39cb8954f62da13b9245b3422f46303a647fefaeb4aa6e"), looks := true }, kinds := [], alts := [], laidByText := true, laidKinds := [.data, .data, .data], laidTests := true, laidLooks := .later }
def NumDividesCardSaid : Prop := Claim7.holds Tryd.pinned (.plain (OpenSpec.ofChange numDividesSpec)) numDividesCard

/-- THE TIED CARD OF 'tandemlaw02.NumRaises'. -/
def numRaisesCard : Claim7 := { stood := { row := numRaisesRow, standIns := [], harness := (true, "ec2bc17e132edf74ad39cb8954f62da13b9245b3422f46303a647fefaeb4aa6e"), looks := true }, kinds := [], alts := [], laidByText := true, laidKinds := [.data, .data, .data], laidTests := true, laidLooks := .later }
def NumRaisesCardSaid : Prop := Claim7.holds Tryd.pinned (.plain (OpenSpec.ofChange numRaisesSpec)) numRaisesCard

/-- THE TIED CARD OF 'tandemlaw02.NumTexts'. -/
def numTextsCard : Claim7 := { stood := { row := numTextsRow, standIns := [], harness := (true, "ec2bc17e132edf74ad39cb8954f62da13b9245b3422f46303a647fefaeb4aa6e"), looks := true }, kinds := [], alts := [], laidByText := true, laidKinds := [.data, .data, .data, .sentinel, .sentinel], laidTests := true, laidLooks := .later }
def NumTextsCardSaid : Prop := Claim7.holds Tryd.pinned (.plain (OpenSpec.ofChange numTextsSpec)) numTextsCard

/-- THE TIED CARD OF 'tandemlaw02.NumOrders'. -/
def numOrdersCard : Claim7 := { stood := { row := numOrdersRow, standIns := [], harness := (true, "ec2bc17e132edf74ad39cb8954f62da13b9245b3422f46303a647fefaeb4aa6e"), looks := true }, kinds := [], alts := [], laidByText := true, laidKinds := [.data, .data, .data, .sentinel, .sentinel], laidTests := true, laidLooks := .later }
def NumOrdersCardSaid : Prop := Claim7.holds Tryd.pinned (.plain (OpenSpec.ofChange numOrdersSpec)) numOrdersCard

/-- THE SECOND FORM's CARD OF 'tandemlaw02.NumSums'. -/
def numSumsUptoCard : Claim7 := { stood := { row := numSumsUptoRow, standIns := [], harness := (true, "ec2bc17e132edf74ad39cb8954f62da13b9245b3422f46303a647fefaeb4aa6e"), looks := true }, kinds := [], alts := [], laidByText := true, laidKinds := [.data, .data, .data], laidTests := true, laidLooks := .later }
def NumSumsUptoCardSaid : Prop := Claim7.holds Tryd.pinned (.plain (OpenSpec.upto numSumsSpec)) numSumsUptoCard

/-- THE SECOND FORM's CARD OF 'tandemlaw02.NumQuotients'. -/
def numQuotientsUptoCard : Claim7 := { stood := { row := numQuotientsUptoRow, standIns := [], harness := (true, "ec2bc17e132edf74ad39cb8954f62da13b9245b3422f46303a647fefaeb4aa6e"), looks := true }, kinds := [], alts := [], laidByText := true, laidKinds := [.data, .data, .data], laidTests := true, laidLooks := .later }
def NumQuotientsUptoCardSaid : Prop := Claim7.holds Tryd.pinned (.plain (OpenSpec.upto numQuotientsSpec)) numQuotientsUptoCard

/-- THE SECOND FORM's CARD OF 'tandemlaw02.NumSmalls'. -/
def numSmallsUptoCard : Claim7 := { stood := { row := numSmallsUptoRow, standIns := [], harness := (true, "ec2bc17e132edf74ad39cb8954f62da13b9245b3422f46303a647fefaeb4aa6e"), looks := true }, kinds := [], alts := [], laidByText := true, laidKinds := [.data, .data, .data], laidTests := true, laidLooks := .later }
def NumSmallsUptoCardSaid : Prop := Claim7.holds Tryd.pinned (.plain (OpenSpec.upto numSmallsSpec)) numSmallsUptoCard

/-- THE SECOND FORM's CARD OF 'tandemlaw02.NumSmallBack'. -/
def numSmallBackUptoCard : Claim7 := { stood := { row := numSmallBackUptoRow, standIns := [], harness := (true, "ec2bc17e132edf74ad39cb8954f62da13b9245b3422f46303a647fefaeb4aa6e"), looks := true }, kinds := [], alts := [], laidByText := true, laidKinds := [.data, .data, .data], laidTests := true, laidLooks := .later }
def NumSmallBackUptoCardSaid : Prop := Claim7.holds Tryd.pinned (.plain (OpenSpec.upto numSmallBackSpec)) numSmallBackUptoCard

/-- THE SECOND FORM's CARD OF 'tandemlaw02.NumProducts'. -/
def numProductsUptoCard : Claim7 := { stood := { row := numProductsUptoRow, standIns := [], harness := (true, "ec2bc17e132edf74ad39cb8954f62da13b9245b3422f46303a647fefaeb4aa6e"), looks := true }, kinds := [], alts := [], laidByText := true, laidKinds := [.data, .data, .data], laidTests := true, laidLooks := .later }
def NumProductsUptoCardSaid : Prop := Claim7.holds Tryd.pinned (.plain (OpenSpec.upto numProductsSpec)) numProductsUptoCard

/-- THE SECOND FORM's CARD OF 'tandemlaw02.NumRings'. -/
def numRingsUptoCard : Claim7 := { stood := { row := numRingsUptoRow, standIns := [], harness := (true, "ec2bc17e132edf74ad39cb8954f62da13b9245b3422f46303a647fefaeb4aa6e"), looks := true }, kinds := [], alts := [], laidByText := true, laidKinds := [.data, .data, .data], laidTests := true, laidLooks := .later }
def NumRingsUptoCardSaid : Prop := Claim7.holds Tryd.pinned (.plain (OpenSpec.upto numRingsSpec)) numRingsUptoCard

/-- THE SECOND FORM's CARD OF 'tandemlaw02.NumMakes'. -/
def numMakesUptoCard : Claim7 := { stood := { row := numMakesUptoRow, standIns := [], harness := (true, "ec2bc17e132edf74ad39cb8954f62da13b9245b3422f46303a647fefaeb4aa6e"), looks := true }, kinds := [], alts := [], laidByText := true, laidKinds := [.data, .data, .data], laidTests := true, laidLooks := .later }
def NumMakesUptoCardSaid : Prop := Claim7.holds Tryd.pinned (.plain (OpenSpec.upto numMakesSpec)) numMakesUptoCard

/-- THE SECOND FORM's CARD OF 'tandemlaw02.NumPowers'. -/
def numPowersUptoCard : Claim7 := { stood := { row := numPowersUptoRow, standIns := [], harness := (true, "ec2bc17e132edf74ad39cb8954f62da13b9245b3422f46303a647fefaeb4aa6e"), looks := true }, kinds := [], alts := [], laidByText := true, laidKinds := [.data, .data, .data], laidTests := true, laidLooks := .later }
def NumPowersUptoCardSaid : Prop := Claim7.holds Tryd.pinned (.plain (OpenSpec.upto numPowersSpec)) numPowersUptoCard

/-- THE SECOND FORM's CARD OF 'tandemlaw02.NumDivides'. -/
def numDividesUptoCard : Claim7 := { stood := { row := numDividesUptoRow, standIns := [], harness := (true, "ec2bc17e132edf74ad39cb8954f62da13b9245b3422f46303a647fefaeb4aa6e"), looks := true }, kinds := [], alts := [], laidByText := true, laidKinds := [.data, .data, .data], laidTests := true, laidLooks := .later }
def NumDividesUptoCardSaid : Prop := Claim7.holds Tryd.pinned (.plain (OpenSpec.upto numDividesSpec)) numDividesUptoCard

/-- THE SECOND FORM's CARD OF 'tandemlaw02.NumRaises'. -/
def numRaisesUptoCard : Claim7 := { stood := { row := numRaisesUptoRow, standIns := [], harness := (true, "ec2bc17e132edf74ad39cb8954f62da13b9245b3422f46303a647fefaeb4aa6e"), looks := true }, kinds := [], alts := [], laidByText := true, laidKinds := [.data, .data, .data], laidTests := true, laidLooks := .later }
def NumRaisesUptoCardSaid : Prop := Claim7.holds Tryd.pinned (.plain (OpenSpec.upto numRaisesSpec)) numRaisesUptoCard

/-- THE SECOND FORM's CARD OF 'tandemlaw02.NumTexts'. -/
def numTextsUptoCard : Claim7 := { stood := { row := numTextsUptoRow, standIns := [], harness := (true, "ec2bc17e132edf74ad39cb8954f62da13b9245b3422f46303a647fefaeb4aa6e"), looks := true }, kinds := [], alts := [], laidByText := true, laidKinds := [.data, .data, .data, .sentinel, .sentinel], laidTests := true, laidLooks := .later }
def NumTextsUptoCardSaid : Prop := Claim7.holds Tryd.pinned (.plain (OpenSpec.upto numTextsSpec)) numTextsUptoCard

/-- THE SECOND FORM's CARD OF 'tandemlaw02.NumOrders'. -/
def numOrdersUptoCard : Claim7 := { stood := { row := numOrdersUptoRow, standIns := [], harness := (true, "ec2bc17e132edf74ad39cb8954f62da13b9245b3422f46303a647fefaeb4aa6e"), looks := true }, kinds := [], alts := [], laidByText := true, laidKinds := [.data, .data, .data, .sentinel, .sentinel], laidTests := true, laidLooks := .later }
def NumOrdersUptoCardSaid : Prop := Claim7.holds Tryd.pinned (.plain (OpenSpec.upto numOrdersSpec)) numOrdersUptoCard
end Rows
end Go.Proofs.YtigoofeodbbbhaaDoor

/-
  DERIVED. GIVEN WITH THE SEED: THE CARDS: each row of YtnmickfdflinpaaDoorRows.lean that lists a variable, with what it lists TIED to the program's text (the seventh form; the later family's looks); each row that meets fmt, with fmt's text TOLD by the authors' own Lean function (tested against real Go, not proved from fmt's source: count such statements apart). THE CARD IS WHAT COUNTS. Prove the row's statement (the work); the ties are given (YtnmickfdflinpaaDoorTie.lean); close each card by the builder's one call (the guide's Derived/Test/ToyasCard.lean, 'card_holds'). Laid BY PROGRAM, IN A SANDBOX (cutbox-door.mjs). By AI agents, Wed Nov 11 2026. No macro, syntax, notation, axiom, sorry.
-/
import Derived.Test.YtnmickfdflinpaaDoorRows
import GoSem.ClaimSeven
namespace Go.Proofs.YtnmickfdflinpaaDoor
namespace Rows

/-- THE TIED CARD OF 'rootcauselaw23.VclockLeast'. -/
def vclockLeastCard : Claim7 := { stood := { row := vclockLeastRow, standIns := [], harness := (true, "fef0a28907a101c8cdd0a8453dd32babd4b404979dd6f6ee4eb1d9acfe976716"), looks := true }, kinds := [], alts := [], laidByText := true, laidKinds := [.data, .data, .data, .data, .sentinel, .sentinel, .pinned], laidTests := true, laidLooks := .later }
def VclockLeastCardSaid : Prop := Claim7.holds Tryd.pinned (.plain (OpenSpec.ofChange vclockLeastSpec)) vclockLeastCard

/-- THE TIED CARD OF 'rootcauselaw23.VclockCompares'. -/
def vclockComparesCard : Claim7 := { stood := { row := vclockComparesRow, standIns := [], harness := (true, "fef0a28907a101c8cdd0a8453dd32babd4b404979dd6f6ee4eb1d9acfe976716"), looks := true }, kinds := [], alts := [], laidByText := true, laidKinds := [.data, .data, .data, .data, .sentinel, .sentinel, .pinned], laidTests := true, laidLooks := .later }
def VclockComparesCardSaid : Prop := Claim7.holds Tryd.pinned (.plain (OpenSpec.ofChange vclockComparesSpec)) vclockComparesCard

/-- THE TIED CARD OF 'rootcauselaw23.VclockOrder'. -/
def vclockOrderCard : Claim7 := { stood := { row := vclockOrderRow, standIns := [], harness := (true, "fef0a28907a101c8cdd0a8453dd32babd4b404979dd6f6ee4eb1d9acfe976716"), looks := true }, kinds := [], alts := [], laidByText := true, laidKinds := [.data, .data, .data, .data, .sentinel, .sentinel, .pinned], laidTests := true, laidLooks := .later }
def VclockOrderCardSaid : Prop := Claim7.holds Tryd.pinned (.plain (OpenSpec.ofChange vclockOrderSpec)) vclockOrderCard

/-- THE TIED CARD OF 'rootcauselaw23.VclockParses'. -/
def vclockParsesCard : Claim7 := { stood := { row := vclockParsesRow, standIns := [], harness := (true, "fef0a28907a101c8cdd0a8453dd32babd4b404979dd6f6ee4eb1d9acfe976716"), looks := true }, kinds := [], alts := [], laidByText := true, laidKinds := [.data, .data, .data, .data, .sentinel, .sentinel, .pinned], laidTests := true, laidLooks := .later }
def VclockParsesCardSaid : Prop := Claim7.holds Tryd.pinned (.plain (OpenSpec.ofChange vclockParsesSpec)) vclockParsesCard

/-- THE TIED CARD OF 'rootcauselaw23.VclockCauses'. -/
def vclockCausesCard : Claim7 := { stood := { row := vclockCausesRow, standIns := [], harness := (true, "fef0a28907a101c8cdd0a8453dd32babd4b404979dd6f6ee4eb1d9acfe976716"), looks := true }, kinds := [], alts := [], laidByText := true, laidKinds := [.data, .data, .data, .data, .sentinel, .sentinel, .pinned], laidTests := true, laidLooks := .later }
def VclockCausesCardSaid : Prop := Claim7.holds Tryd.pinned (.plain (OpenSpec.ofChange vclockCausesSpec)) vclockCausesCard

/-- THE TIED CARD OF 'rootcauselaw23.VclockMerges'. -/
def vclockMergesCard : Claim7 := { stood := { row := vclockMergesRow, standIns := [], harness := (true, "fef0a28907a101c8cdd0a8453dd32babd4b404979dd6f6ee4eb1d9acfe976716"), looks := true }, kinds := [], alts := [], laidByText := true, laidKinds := [.data, .data, .data, .data, .sentinel, .sentinel, .pinned], laidTests := true, laidLooks := .later }
def VclockMergesCardSaid : Prop := Claim7.holds Tryd.pinned (.plain (OpenSpec.ofChange vclockMergesSpec)) vclockMergesCard

/-- THE TIED CARD OF 'rootcauselaw23.VclockTexts'. -/
def vclockTextsCard : Claim7 := { stood := { row := vclockTextsRow, standIns := [], harness := (true, "fef0a28907a101c8cdd0a8453dd32babd4b404979dd6f6ee4eb1d9acfe976716"), looks := true }, kinds := [], alts := [], laidByText := true, laidKinds := [.data, .data, .data, .data, .sentinel, .sentinel, .pinned], laidTests := true, laidLooks := .later }
def VclockTextsCardSaid : Prop := Claim7.holds Tryd.pinned (.plain (OpenSpec.ofChange vclockTextsSpec)) vclockTextsCard

/-- THE TIED CARD OF 'rootcauselaw23.VclockMakes'. -/
def vclockMakesCard : Claim7 := { stood := { row := vclockMakesRow, standIns := [], harness := (true, "fef0a28907a101c8cdd0a8453dd32babd4b404979dd6f6ee4eb1d9acfe976716"), looks := true }, kinds := [], alts := [], laidByText := true, laidKinds := [.data, .data, .data, .data, .sentinel, .sentinel, .pinned], laidTests := true, laidLooks := .later }
def VclockMakesCardSaid : Prop := Claim7.holds Tryd.pinned (.plain (OpenSpec.ofChange vclockMakesSpec)) vclockMakesCard

/-- THE TIED CARD OF 'rootcauselaw23.VclockReads'. -/
def vclockReadsCard : Claim7 := { stood := { row := vclockReadsRow, standIns := [], harness := (true, "fef0a28907a101c8cdd0a8453dd32babd4b404979dd6f6ee4eb1d9acfe976716"), looks := true }, kinds := [], alts := [], laidByText := true, laidKinds := [.data, .data, .data, .data, .sentinel, .sentinel, .pinned], laidTests := true, laidLooks := .later }
def VclockReadsCardSaid : Prop := Claim7.holds Tryd.pinned (.plain (OpenSpec.ofChange vclockReadsSpec)) vclockReadsCard

/-- THE TIED CARD OF 'rootcauselaw23.VclockBytes'. -/
def vclockBytesCard : Claim7 := { stood := { row := vclockBytesRow, standIns := [], harness := (true, "fef0a28907a101c8cdd0a8453dd32babd4b404979dd6f6ee4eb1d9acfe976716"), looks := true }, kinds := [], alts := [], laidByText := true, laidKinds := [.data, .data, .data, .data, .sentinel, .sentinel, .pinned], laidTests := true, laidLooks := .later }
def VclockBytesCardSaid : Prop := Claim7.holds Tryd.pinned (.plain (OpenSpec.ofChange vclockBytesSpec)) vclockBytesCard

/-- THE SECOND FORM's CARD OF 'rootcauselaw23.VclockLeast'. -/
def vclockLeastUptoCard : Claim7 := { stood := { row := vclockLeastUptoRow, standIns := [], harness := (true, "fef0a28907a101c8cdd0a8453dd32babd4b404979dd6f6ee4eb1d9acfe976716"), looks := true }, kinds := [], alts := [], laidByText := true, laidKinds := [.data, .data, .data, .data, .sentinel, .sentinel, .pinned], laidTests := true, laidLooks := .later }
def VclockLeastUptoCardSaid : Prop := Claim7.holds Tryd.pinned (.plain (OpenSpec.upto vclockLeastSpec)) vclockLeastUptoCard

/-- THE SECOND FORM's CARD OF 'rootcauselaw23.VclockCompares'. -/
def vclockComparesUptoCard : Claim7 := { stood := { row := vclockComparesUptoRow, standIns := [], harness := (true, "fef0a28907a101c8cdd0a8453dd32babd4b404979dd6f6ee4eb1d9acfe976716"), looks := true }, kinds := [], alts := [], laidByText := true, laidKinds := [.data, .data, .data, .data, .sentinel, .sentinel, .pinned], laidTests := true, laidLooks := .later }
def VclockComparesUptoCardSaid : Prop := Claim7.holds Tryd.pinned (.plain (OpenSpec.upto vclockComparesSpec)) vclockComparesUptoCard

/-- THE SECOND FORM's CARD OF 'rootcauselaw23.VclockOrder'. -/
def vclockOrderUptoCard : Claim7 := { stood := { row := vclockOrderUptoRow, standIns := [], harness := (true, "fef0a28907a101c8cdd0a8453dd32babd4b404979dd6f6ee4eb1d9acfe976716"), looks := true }, kinds := [], alts := [], laidByText := true, laidKinds := [.data, .data, .data, .data, .sentinel, .sentinel, .pinned], laidTests := true, laidLooks := .later }
def VclockOrderUptoCardSaid : Prop := Claim7.holds Tryd.pinned (.plain (OpenSpec.upto vclockOrderSpec)) vclockOrderUptoCard

/-- THE SECOND FORM's CARD OF 'rootcauselaw23.VclockParses'. -/
def vclockParsesUptoCard : Claim7 := { stood := { row := vclockParsesUptoRow, standIns := [], harness := (true, "fef0a28907a101c8cdd0a8453dd32babd4b404979dd6f6ee4eb1d9acfe976716"), looks := true }, kinds := [], alts := [], laidByText := true, laidKinds := [.data, .data, .data, .data, .sentinel, .sentinel, .pinned], laidTests := true, laidLooks := .later }
def VclockParsesUptoCardSaid : Prop := Claim7.holds Tryd.pinned (.plain (OpenSpec.upto vclockParsesSpec)) vclockParsesUptoCard

/-- THE SECOND FORM's CARD OF 'rootcauselaw23.VclockCauses'. -/
def vclockCausesUptoCard : Claim7 := { stood := { row := vclockCausesUptoRow, standIns := [], harness := (true, "fef0a28907a101c8cdd0a8453dd32babd4b404979dd6f6ee4eb1d9acfe976716"), looks := true }, kinds := [], alts := [], laidByText := true, laidKinds := [.data, .data, .data, .data, .sentinel, .sentinel, .pinned], laidTests := true, laidLooks := .later }
def VclockCausesUptoCardSaid : Prop := Claim7.holds Tryd.pinned (.plain (OpenSpec.upto vclockCausesSpec)) vclockCausesUptoCard

/-- THE SECOND FORM's CARD OF 'rootcauselaw23.VclockMerges'. -/
def vclockMergesUptoCard : Claim7 := { stood := { row := vclockMergesUptoRow, standIns := [], harness := (true, "fef0a28907a101c8cdd0a8453dd32babd4b404979dd6f6ee4eb1d9acfe976716"), looks := true }, kinds := [], alts := [], laidByText := true, laidKinds := [.data, .data, .data, .data, .sentinel, .sentinel, .pinned], laidTests := true, laidLooks := .later }
def VclockMergesUptoCardSaid : Prop := Claim7.holds Tryd.pinned (.plain (OpenSpec.upto vclockMergesSpec)) vclockMergesUptoCard

/-- THE SECOND FORM's CARD OF 'rootcauselaw23.VclockTexts'. -/
def vclockTextsUptoCard : Claim7 := { stood := { row := vclockTextsUptoRow, standIns := [], harness := (true, "fef0a28907a101c8cdd0a8453dd32babd4b404979dd6f6ee4eb1d9acfe976716"), looks := true }, kinds := [], alts := [], laidByText := true, laidKinds := [.data, .data, .data, .data, .sentinel, .sentinel, .pinned], laidTests := true, laidLooks := .later }
def VclockTextsUptoCardSaid : Prop := Claim7.holds Tryd.pinned (.plain (OpenSpec.upto vclockTextsSpec)) vclockTextsUptoCard

/-- THE SECOND FORM's CARD OF 'rootcauselaw23.VclockMakes'. -/
def vclockMakesUptoCard : Claim7 := { stood := { row := vclockMakesUptoRow, standIns := [], harness := (true, "fef0a28907a101c8cdd0a8453dd32babd4b404979dd6f6ee4eb1d9acfe976716"), looks := true }, kinds := [], alts := [], laidByText := true, laidKinds := [.data, .data, .data, .data, .sentinel, .sentinel, .pinned], laidTests := true, laidLooks := .later }
def VclockMakesUptoCardSaid : Prop := Claim7.holds Tryd.pinned (.plain (OpenSpec.upto vclockMakesSpec)) vclockMakesUptoCard

/-- THE SECOND FORM's CARD OF 'rootcauselaw23.VclockReads'. -/
def vclockReadsUptoCard : Claim7 := { stood := { row := vclockReadsUptoRow, standIns := [], harness := (true, "fef0a28907a101c8cdd0a8453dd32babd4b404979dd6f6ee4eb1d9acfe976716"), looks := true }, kinds := [], alts := [], laidByText := true, laidKinds := [.data, .data, .data, .data, .sentinel, .sentinel, .pinned], laidTests := true, laidLooks := .later }
def VclockReadsUptoCardSaid : Prop := Claim7.holds Tryd.pinned (.plain (OpenSpec.upto vclockReadsSpec)) vclockReadsUptoCard

/-- THE SECOND FORM's CARD OF 'rootcauselaw23.VclockBytes'. -/
def vclockBytesUptoCard : Claim7 := { stood := { row := vclockBytesUptoRow, standIns := [], harness := (true, "fef0a28907a101c8cdd0a8453dd32babd4b404979dd6f6ee4eb1d9acfe976716"), looks := true }, kinds := [], alts := [], laidByText := true, laidKinds := [.data, .data, .data, .data, .sentinel, .sentinel, .pinned], laidTests := true, laidLooks := .later }
def VclockBytesUptoCardSaid : Prop := Claim7.holds Tryd.pinned (.plain (OpenSpec.upto vclockBytesSpec)) vclockBytesUptoCard
end Rows
end Go.Proofs.YtnmickfdflinpaaDoor

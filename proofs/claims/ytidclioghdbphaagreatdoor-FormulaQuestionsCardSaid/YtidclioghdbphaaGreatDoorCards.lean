/-
  DERIVED. GIVEN WITH THE SEED: THE CARDS: each row of YtidclioghdbphaaGreatDoorRows.lean that lists a variable, with what it lists TIED to the program's text (the seventh form; the later family's looks); each row that meets fmt, with fmt's text TOLD by the authors' own Lean function (tested against real Go, not proved from fmt's source: count such statements apart). THE CARD IS WHAT COUNTS. Prove the row's statement (the work); the ties are given (YtidclioghdbphaaGreatDoorTie.lean); close each card by the builder's one call (the guide's Derived/Test/ToyasCard.lean, 'card_holds'). Laid BY PROGRAM, IN A SANDBOX (cutbox-door.mjs). By AI agents, Wed Nov 11 2026. No macro, syntax, notation, axiom, sorry.
-/
import Derived.Test.YtidclioghdbphaaGreatDoorRows
import GoSem.ClaimSeven
namespace Go.Proofs.YtidclioghdbphaaGreatDoor
namespace Rows

/-- THE TIED CARD OF 'rootcauselaw34.FormulaChecks'. -/
def formulaChecksCard : Claim7 := { stood := { row := formulaChecksRow, standIns := [], harness := (true, "11d25c0aecf79e7f29c6342849afa29d2e84c39be2954fcd1078741698f25d8c"), looks := false }, kinds := [], alts := [], laidByText := true, laidKinds := [.data, .data, .data, .data, .data, .data, .data, .data], laidTests := true, laidLooks := .later }
def FormulaChecksCardSaid : Prop := Claim7.holds Tryz.pinned (.plain (OpenSpec.ofChange formulaChecksSpec)) formulaChecksCard

/-- THE TIED CARD OF 'rootcauselaw34.FormulaTexts'. -/
def formulaTextsCard : Claim7 := { stood := { row := formulaTextsRow, standIns := [], harness := (true, "11d25c0aecf79e7f29c6342849afa29d2e84c39be2954fcd1078741698f25d8c"), looks := false }, kinds := [], alts := [], laidByText := true, laidKinds := [.data, .data, .data, .data, .data, .data, .data, .data], laidTests := true, laidLooks := .later }
def FormulaTextsCardSaid : Prop := Claim7.holds Tryz.pinned (.plain (OpenSpec.ofChange formulaTextsSpec)) formulaTextsCard

/-- THE TIED CARD OF 'rootcauselaw34.FormulaSizes'. -/
def formulaSizesCard : Claim7 := { stood := { row := formulaSizesRow, standIns := [], harness := (true, "11d25c0aecf79e7f29c6342849afa29d2e84c39be2954fcd1078741698f25d8c"), looks := false }, kinds := [], alts := [], laidByText := true, laidKinds := [.data, .data, .data, .data, .data, .data, .data, .data], laidTests := true, laidLooks := .later }
def FormulaSizesCardSaid : Prop := Claim7.holds Tryz.pinned (.plain (OpenSpec.ofChange formulaSizesSpec)) formulaSizesCard

/-- THE TIED CARD OF 'rootcauselaw34.FormulaEquals'. -/
def formulaEqualsCard : Claim7 := { stood := { row := formulaEqualsRow, standIns := [], harness := (true, "11d25c0aecf79e7f29c6342849afa29d2e84c39be2954fcd1078741698f25d8c"), looks := false }, kinds := [], alts := [], laidByText := true, laidKinds := [.data, .data, .data, .data, .data, .data, .data, .data], laidTests := true, laidLooks := .later }
def FormulaEqualsCardSaid : Prop := Claim7.holds Tryz.pinned (.plain (OpenSpec.ofChange formulaEqualsSpec)) formulaEqualsCard

/-- THE TIED CARD OF 'rootcauselaw34.FormulaBack'. -/
def formulaBackCard : Claim7 := { stood := { row := formulaBackRow, standIns := [], harness := (true, "11d25c0aecf79e7f29c6342849afa29d2e84c39be2954fcd1078741698f25d8c"), looks := false }, kinds := [], alts := [], laidByText := true, laidKinds := [.data, .data, .data, .data, .data, .data, .data, .data], laidTests := true, laidLooks := .later }
def FormulaBackCardSaid : Prop := Claim7.holds Tryz.pinned (.plain (OpenSpec.ofChange formulaBackSpec)) formulaBackCard

/-- THE TIED CARD OF 'rootcauselaw34.FormulaQuestions'. -/
def formulaQuestionsCard : Claim7 := { stood := { row := formulaQuestionsRow, standIns := [], harness := (true, "11d25c0aecf79e7f29c6342849afa29d2e84c39be2954fcd1078741698f25d8c"), looks := false }, kinds := [], alts := [], laidByText := true, laidKinds := [.data, .data, .data, .data, .data, .data, .data, .data], laidTests := true, laidLooks := .later }
def FormulaQuestionsCardSaid : Prop := Claim7.holds Tryz.pinned (.plain (OpenSpec.ofChange formulaQuestionsSpec)) formulaQuestionsCard

/-- THE TIED CARD OF 'rootcauselaw34.FormulaParses'. -/
def formulaParsesCard : Claim7 := { stood := { row := formulaParsesRow, standIns := [], harness := (true, "11d25c0aecf79e7f29c6342849afa29d2e84c39be2954fcd1078741698f25d8c"), looks := false }, kinds := [], alts := [], laidByText := true, laidKinds := [.data, .data, .data, .data, .data, .data, .data, .data], laidTests := true, laidLooks := .later }
def FormulaParsesCardSaid : Prop := Claim7.holds Tryz.pinned (.plain (OpenSpec.ofChange formulaParsesSpec)) formulaParsesCard

/-- THE TIED CARD OF 'rootcauselaw34.FormulaPrinted'. -/
def formulaPrintedCard : Claim7 := { stood := { row := formulaPrintedRow, standIns := [], harness := (true, "11d25c0aecf79e7f29c6342849afa29d2e84c39be2954fcd1078741698f25d8c"), looks := false }, kinds := [], alts := [], laidByText := true, laidKinds := [.data, .data, .data, .data, .data, .data, .data, .data], laidTests := true, laidLooks := .later }
def FormulaPrintedCardSaid : Prop := Claim7.holds Tryz.pinned (.plain (OpenSpec.ofChange formulaPrintedSpec)) formulaPrintedCard

/-- THE TIED CARD OF 'rootcauselaw34.FormulaBlanks'. -/
def formulaBlanksCard : Claim7 := { stood := { row := formulaBlanksRow, standIns := [], harness := (true, "11d25c0aecf79e7f29c6342849afa29d2e84c39be2954fcd1078741698f25d8c"), looks := false }, kinds := [], alts := [], laidByText := true, laidKinds := [.data, .data, .data, .data, .data, .data, .data, .data], laidTests := true, laidLooks := .later }
def FormulaBlanksCardSaid : Prop := Claim7.holds Tryz.pinned (.plain (OpenSpec.ofChange formulaBlanksSpec)) formulaBlanksCard

/-- THE TIED CARD OF 'rootcauselaw34.FormulaBrackets'. -/
def formulaBracketsCard : Claim7 := { stood := { row := formulaBracketsRow, standIns := [], harness := (true, "11d25c0aecf79e7f29c6342849afa29d2e84c39be2954fcd1078741698f25d8c"), looks := false }, kinds := [], alts := [], laidByText := true, laidKinds := [.data, .data, .data, .data, .data, .data, .data, .data], laidTests := true, laidLooks := .later }
def FormulaBracketsCardSaid : Prop := Claim7.holds Tryz.pinned (.plain (OpenSpec.ofChange formulaBracketsSpec)) formulaBracketsCard

/-- THE SECOND FORM's CARD OF 'rootcauselaw34.FormulaChecks'. -/
def formulaChecksUptoCard : Claim7 := { stood := { row := formulaChecksUptoRow, standIns := [], harness := (true, "11d25c0aecf79e7f29c6342849afa29d2e84c39be2954fcd1078741698f25d8c"), looks := false }, kinds := [], alts := [], laidByText := true, laidKinds := [.data, .data, .data, .data, .data, .data, .data, .data], laidTests := true, laidLooks := .later }
def FormulaChecksUptoCardSaid : Prop := Claim7.holds Tryz.pinned (.plain (OpenSpec.upto formulaChecksSpec)) formulaChecksUptoCard

/-- THE SECOND FORM's CARD OF 'rootcauselaw34.FormulaTexts'. -/
def formulaTextsUptoCard : Claim7 := { stood := { row := formulaTextsUptoRow, standIns := [], harness := (true, "11d25c0aecf79e7f29c6342849afa29d2e84c39be2954fcd1078741698f25d8c"), looks := false }, kinds := [], alts := [], laidByText := true, laidKinds := [.data, .data, .data, .data, .data, .data, .data, .data], laidTests := true, laidLooks := .later }
def FormulaTextsUptoCardSaid : Prop := Claim7.holds Tryz.pinned (.plain (OpenSpec.upto formulaTextsSpec)) formulaTextsUptoCard

/-- THE SECOND FORM's CARD OF 'rootcauselaw34.FormulaSizes'. -/
def formulaSizesUptoCard : Claim7 := { stood := { row := formulaSizesUptoRow, standIns := [], harness := (true, "11d25c0aecf79e7f29c6342849afa29d2e84c39be2954fcd1078741698f25d8c"), looks := false }, kinds := [], alts := [], laidByText := true, laidKinds := [.data, .data, .data, .data, .data, .data, .data, .data], laidTests := true, laidLooks := .later }
def FormulaSizesUptoCardSaid : Prop := Claim7.holds Tryz.pinned (.plain (OpenSpec.upto formulaSizesSpec)) formulaSizesUptoCard

/-- THE SECOND FORM's CARD OF 'rootcauselaw34.FormulaEquals'. -/
def formulaEqualsUptoCard : Claim7 := { stood := { row := formulaEqualsUptoRow, standIns := [], harness := (true, "11d25c0aecf79e7f29c6342849afa29d2e84c39be2954fcd1078741698f25d8c"), looks := false }, kinds := [], alts := [], laidByText := true, laidKinds := [.data, .data, .data, .data, .data, .data, .data, .data], laidTests := true, laidLooks := .later }
def FormulaEqualsUptoCardSaid : Prop := Claim7.holds Tryz.pinned (.plain (OpenSpec.upto formulaEqualsSpec)) formulaEqualsUptoCard

/-- THE SECOND FORM's CARD OF 'rootcauselaw34.FormulaBack'. -/
def formulaBackUptoCard : Claim7 := { stood := { row := formulaBackUptoRow, standIns := [], harness := (true, "11d25c0aecf79e7f29c6342849afa29d2e84c39be2954fcd1078741698f25d8c"), looks := false }, kinds := [], alts := [], laidByText := true, laidKinds := [.data, .data, .data, .data, .data, .data, .data, .data], laidTests := true, laidLooks := .later }
def FormulaBackUptoCardSaid : Prop := Claim7.holds Tryz.pinned (.plain (OpenSpec.upto formulaBackSpec)) formulaBackUptoCard

/-- THE SECOND FORM's CARD OF 'rootcauselaw34.FormulaQuestions'. -/
def formulaQuestionsUptoCard : Claim7 := { stood := { row := formulaQuestionsUptoRow, standIns := [], harness := (true, "11d25c0aecf79e7f29c6342849afa29d2e84c39be2954fcd1078741698f25d8c"), looks := false }, kinds := [], alts := [], laidByText := true, laidKinds := [.data, .data, .data, .data, .data, .data, .data, .data], laidTests := true, laidLooks := .later }
def FormulaQuestionsUptoCardSaid : Prop := Claim7.holds Tryz.pinned (.plain (OpenSpec.upto formulaQuestionsSpec)) formulaQuestionsUptoCard

/-- THE SECOND FORM's CARD OF 'rootcauselaw34.FormulaParses'. -/
def formulaParsesUptoCard : Claim7 := { stood := { row := formulaParsesUptoRow, standIns := [], harness := (true, "11d25c0aecf79e7f29c6342849afa29d2e84c39be2954fcd1078741698f25d8c"), looks := false }, kinds := [], alts := [], laidByText := true, laidKinds := [.data, .data, .data, .data, .data, .data, .data, .data], laidTests := true, laidLooks := .later }
def FormulaParsesUptoCardSaid : Prop := Claim7.holds Tryz.pinned (.plain (OpenSpec.upto formulaParsesSpec)) formulaParsesUptoCard

/-- THE SECOND FORM's CARD OF 'rootcauselaw34.FormulaPrinted'. -/
def formulaPrintedUptoCard : Claim7 := { stood := { row := formulaPrintedUptoRow, standIns := [], harness := (true, "11d25c0aecf79e7f29c6342849afa29d2e84c39be2954fcd1078741698f25d8c"), looks := false }, kinds := [], alts := [], laidByText := true, laidKinds := [.data, .data, .data, .data, .data, .data, .data, .data], laidTests := true, laidLooks := .later }
def FormulaPrintedUptoCardSaid : Prop := Claim7.holds Tryz.pinned (.plain (OpenSpec.upto formulaPrintedSpec)) formulaPrintedUptoCard

/-- THE SECOND FORM's CARD OF 'rootcauselaw34.FormulaBlanks'. -/
def formulaBlanksUptoCard : Claim7 := { stood := { row := formulaBlanksUptoRow, standIns := [], harness := (true, "11d25c0aecf79e7f29c6342849afa29d2e84c39be2954fcd1078741698f25d8c"), looks := false }, kinds := [], alts := [], laidByText := true, laidKinds := [.data, .data, .data, .data, .data, .data, .data, .data], laidTests := true, laidLooks := .later }
def FormulaBlanksUptoCardSaid : Prop := Claim7.holds Tryz.pinned (.plain (OpenSpec.upto formulaBlanksSpec)) formulaBlanksUptoCard

/-- THE SECOND FORM's CARD OF 'rootcauselaw34.FormulaBrackets'. -/
def formulaBracketsUptoCard : Claim7 := { stood := { row := formulaBracketsUptoRow, standIns := [], harness := (true, "11d25c0aecf79e7f29c6342849afa29d2e84c39be2954fcd1078741698f25d8c"), looks := false }, kinds := [], alts := [], laidByText := true, laidKinds := [.data, .data, .data, .data, .data, .data, .data, .data], laidTests := true, laidLooks := .later }
def FormulaBracketsUptoCardSaid : Prop := Claim7.holds Tryz.pinned (.plain (OpenSpec.upto formulaBracketsSpec)) formulaBracketsUptoCard
end Rows
end Go.Proofs.YtidclioghdbphaaGreatDoor

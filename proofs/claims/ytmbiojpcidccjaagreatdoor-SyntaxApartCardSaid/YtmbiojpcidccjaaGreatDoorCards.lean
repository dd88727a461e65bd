/-
  DERIVED. GIVEN WITH THE SEED: THE CARDS: each row of YtmbiojpcidccjaaGreatDoorRows.lean that lists a variable, with what it lists TIED to the program's text (the seventh form; the later family's looks); each row that meets fmt, with fmt's text TOLD by the authors' own Lean function (tested against real Go, not proved from fmt's source: count such statements apart). THE CARD IS WHAT COUNTS. Prove the row's statement (the work); the ties are given (YtmbiojpcidccjaaGreatDoorTie.lean); close each card by the builder's one call (the guide's Derived/Test/ToyasCard.lean, 'card_holds'). Laid BY PROGRAM, IN A SANDBOX (cutbox-door.mjs). By AI agents, Wed Nov 11 2026. No macro, syntax, notation, axiom, sorry.
-/
import Derived.Test.YtmbiojpcidccjaaGreatDoorRows
import GoSem.ClaimSeven
namespace Go.Proofs.YtmbiojpcidccjaaGreatDoor
namespace Rows

/-- THE TIED CARD OF 'rootcauselaw06.SyntaxChecks'. -/
def syntaxChecksCard : Claim7 := { stood := { row := syntaxChecksRow, standIns := [], harness := (true, "88a8d4d1b2319ff69ae8b9cc7577042607180b9e778a85ab6d509316565793e8"), looks := false }, kinds := [], alts := [], laidByText := true, laidKinds := [.data, .data, .data, .data, .data, .data, .data], laidTests := true, laidLooks := .later }
def SyntaxChecksCardSaid : Prop := Claim7.holds Tryz.pinned (.plain (OpenSpec.ofChange syntaxChecksSpec)) syntaxChecksCard

/-- THE TIED CARD OF 'rootcauselaw06.SyntaxPrints'. -/
def syntaxPrintsCard : Claim7 := { stood := { row := syntaxPrintsRow, standIns := [], harness := (true, "88a8d4d1b2319ff69ae8b9cc7577042607180b9e778a85ab6d509316565793e8"), looks := false }, kinds := [], alts := [], laidByText := true, laidKinds := [.data, .data, .data, .data, .data, .data, .data], laidTests := true, laidLooks := .later }
def SyntaxPrintsCardSaid : Prop := Claim7.holds Tryz.pinned (.plain (OpenSpec.ofChange syntaxPrintsSpec)) syntaxPrintsCard

/-- THE TIED CARD OF 'rootcauselaw06.SyntaxApart'. -/
def syntaxApartCard : Claim7 := { stood := { row := syntaxApartRow, standIns := [], harness := (true, "88a8d4d1b2319ff69ae8b9cc7577042607180b9e778a85ab6d509316565793e8"), looks := false }, kinds := [], alts := [], laidByText := true, laidKinds := [.data, .data, .data, .data, .data, .data, .data], laidTests := true, laidLooks := .later }
def SyntaxApartCardSaid : Prop := Claim7.holds Tryz.pinned (.plain (OpenSpec.ofChange syntaxApartSpec)) syntaxApartCard

/-- THE TIED CARD OF 'rootcauselaw06.SyntaxEquals'. -/
def syntaxEqualsCard : Claim7 := { stood := { row := syntaxEqualsRow, standIns := [], harness := (true, "88a8d4d1b2319ff69ae8b9cc7577042607180b9e778a85ab6d509316565793e8"), looks := false }, kinds := [], alts := [], laidByText := true, laidKinds := [.data, .data, .data, .data, .data, .data, .data], laidTests := true, laidLooks := .later }
def SyntaxEqualsCardSaid : Prop := Claim7.holds Tryz.pinned (.plain (OpenSpec.ofChange syntaxEqualsSpec)) syntaxEqualsCard

/-- THE SECOND FORM's CARD OF 'rootcauselaw06.SyntaxChecks'. -/
def syntaxChecksUptoCard : Claim7 := { stood := { row := syntaxChecksUptoRow, standIns := [], harness := (true, "88a8d4d1b2319ff69ae8b9cc7577042607180b9e778a85ab6d509316565793e8"), looks := false }, kinds := [], alts := [], laidByText := true, laidKinds := [.data, .data, .data, .data, .data, .data, .data], laidTests := true, laidLooks := .later }
def SyntaxChecksUptoCardSaid : Prop := Claim7.holds Tryz.pinned (.plain (OpenSpec.upto syntaxChecksSpec)) syntaxChecksUptoCard

/-- THE SECOND FORM's CARD OF 'rootcauselaw06.SyntaxPrints'. -/
def syntaxPrintsUptoCard : Claim7 := { stood := { row := syntaxPrintsUptoRow, standIns := [], harness := (true, "88a8d4d1b2319ff69ae8b9cc7577042607180b9e778a85ab6d509316565793e8"), looks := false }, kinds := [], alts := [], laidByText := true, laidKinds := [.data, .data, .data, .data, .data, .data, .data], laidTests := true, laidLooks := .later }
def SyntaxPrintsUptoCardSaid : Prop := Claim7.holds Tryz.pinned (.plain (OpenSpec.upto syntaxPrintsSpec)) syntaxPrintsUptoCard

/-- THE SECOND FORM's CARD OF 'rootcauselaw06.SyntaxApart'. -/
def syntaxApartUptoCard : Claim7 := { stood := { row := syntaxApartUptoRow, standIns := [], harness := (true, "88a8d4d1b2319ff69ae8b9cc7577042607180b9e778a85ab6d509316565793e8"), looks := false }, kinds := [], alts := [], laidByText := true, laidKinds := [.data, .data, .data, .data, .data, .data, .data], laidTests := true, laidLooks := .later }
def SyntaxApartUptoCardSaid : Prop := Claim7.holds Tryz.pinned (.plain (OpenSpec.upto syntaxApartSpec)) syntaxApartUptoCard

/-- THE SECOND FORM's CARD OF 'rootcauselaw06.SyntaxEquals'. -/
def syntaxEqualsUptoCard : Claim7 := { stood := { row := syntaxEqualsUptoRow, standIns := [], harness := (true, "88a8d4d1b2319ff69ae8b9cc7577042607180b9e778a85ab6d509316565793e8"), looks := false }, kinds := [], alts := [], laidByText := true, laidKinds := [.data, .data, .data, .data, .data, .data, .data], laidTests := true, laidLooks := .later }
def SyntaxEqualsUptoCardSaid : Prop := Claim7.holds Tryz.pinned (.plain (OpenSpec.upto syntaxEqualsSpec)) syntaxEqualsUptoCard
end Rows
end Go.Proofs.YtmbiojpcidccjaaGreatDoor

/-
  DERIVED. GIVEN WITH THE SEED: THE CARDS: each row of YtmbiojpcidccjaaDoorRows.lean that lists a variable, with what it lists TIED to the program's text (the seventh form; the later family's looks); each row that meets fmt, with fmt's text TOLD by the authors' own Lean function (tested against real Go, not proved from fmt's source: count such statements apart). THE CARD IS WHAT COUNTS. Prove the row's statement (the work); the ties are given (YtmbiojpcidccjaaDoorTie.lean); close each card by the builder's one call (the guide's Derived/Test/ToyasCard.lean, 'card_holds'). Laid BY PROGRAM, IN A SANDBOX (cutbox-door.mjs). By AI agents, Wed Nov 11 2026. No macro, syntax, notation, axiom, sorry.
-/
import Derived.Test.YtmbiojpcidccjaaDoorRows
import GoSem.ClaimSeven
namespace Go.Proofs.YtmbiojpcidccjaaDoor
namespace Rows

/-- THE TIED CARD OF 'rootcauselaw06.SyntaxExprs'. -/
def syntaxExprsCard : Claim7 := { stood := { row := syntaxExprsRow, standIns := [], harness := (true, "2e5f6b5b79bef65520f070cc2f643c49ade24b059dc60dc4c5d0f7b7a7a68bf8"), looks := false }, kinds := [], alts := [], laidByText := true, laidKinds := [.data, .data, .data, .data, .data, .data, .data], laidTests := true, laidLooks := .later }
def SyntaxExprsCardSaid : Prop := Claim7.holds Tryd.pinned (.plain (OpenSpec.ofChange syntaxExprsSpec)) syntaxExprsCard

/-- THE TIED CARD OF 'rootcauselaw06.SyntaxCounts'. -/
def syntaxCountsCard : Claim7 := { stood := { row := syntaxCountsRow, standIns := [], harness := (true, "2e5f6b5b79bef65520f070cc2f643c49ade24b059dc60dc4c5d0f7b7a7a68bf8"), looks := false }, kinds := [], alts := [], laidByText := true, laidKinds := [.data, .data, .data, .data, .data, .data, .data], laidTests := true, laidLooks := .later }
def SyntaxCountsCardSaid : Prop := Claim7.holds Tryd.pinned (.plain (OpenSpec.ofChange syntaxCountsSpec)) syntaxCountsCard

/-- THE TIED CARD OF 'rootcauselaw06.SyntaxDiffers'. -/
def syntaxDiffersCard : Claim7 := { stood := { row := syntaxDiffersRow, standIns := [], harness := (true, "2e5f6b5b79bef65520f070cc2f643c49ade24b059dc60dc4c5d0f7b7a7a68bf8"), looks := false }, kinds := [], alts := [], laidByText := true, laidKinds := [.data, .data, .data, .data, .data, .data, .data], laidTests := true, laidLooks := .later }
def SyntaxDiffersCardSaid : Prop := Claim7.holds Tryd.pinned (.plain (OpenSpec.ofChange syntaxDiffersSpec)) syntaxDiffersCard

/-- THE SECOND FORM's CARD OF 'rootcauselaw06.SyntaxExprs'. -/
def syntaxExprsUptoCard : Claim7 := { stood := { row := syntaxExprsUptoRow, standIns := [], harness := (true, "2e5f6b5b79bef65520f070cc2f643c49ade24b059dc60dc4c5d0f7b7a7a68bf8"), looks := false }, kinds := [], alts := [], laidByText := true, laidKinds := [.data, .data, .data, .data, .data, .data, .data], laidTests := true, laidLooks := .later }
def SyntaxExprsUptoCardSaid : Prop := Claim7.holds Tryd.pinned (.plain (OpenSpec.upto syntaxExprsSpec)) syntaxExprsUptoCard

/-- THE SECOND FORM's CARD OF 'rootcauselaw06.SyntaxCounts'. -/
def syntaxCountsUptoCard : Claim7 := { stood := { row := syntaxCountsUptoRow, standIns := [], harness := (true, "2e5f6b5b79bef65520f070cc2f643c49ade24b059dc60dc4c5d0f7b7a7a68bf8"), looks := false }, kinds := [], alts := [], laidByText := true, laidKinds := [.data, .data, .data, .data, .data, .data, .data], laidTests := true, laidLooks := .later }
def SyntaxCountsUptoCardSaid : Prop := Claim7.holds Tryd.pinned (.plain (OpenSpec.upto syntaxCountsSpec)) syntaxCountsUptoCard

/-- THE SECOND FORM's CARD OF 'rootcauselaw06.SyntaxDiffers'. -/
def syntaxDiffersUptoCard : Claim7 := { stood := { row := syntaxDiffersUptoRow, standIns := [], harness := (true, "2e5f6b5b79bef65520f070cc2f643c49ade24b059dc60dc4c5d0f7b7a7a68bf8"), looks := false }, kinds := [], alts := [], laidByText := true, laidKinds := [.data, .data, .data, .data, .data, .data, .data], laidTests := true, laidLooks := .later }
def SyntaxDiffersUptoCardSaid : Prop := Claim7.holds Tryd.pinned (.plain (OpenSpec.upto syntaxDiffersSpec)) syntaxDiffersUptoCard
end Rows
end Go.Proofs.YtmbiojpcidccjaaDoor

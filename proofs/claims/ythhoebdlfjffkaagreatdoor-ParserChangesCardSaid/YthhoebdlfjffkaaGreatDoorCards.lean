/-
  DERIVED. GIVEN WITH THE SEED: THE CARDS: each row of YthhoebdlfjffkaaGreatDoorRows.lean that lists a variable, with what it lists TIED to the program's text (the seventh form; the later family's looks); each row that meets fmt, with fmt's text TOLD by the authors' own Lean function (tested against real Go, not proved from fmt's source: count such statements apart). THE CARD IS WHAT COUNTS. Prove the row's statement (the work); the ties are given (YthhoebdlfjffkaaGreatDoorTie.lean); close each card by the builder's one call (the guide's Derived/Test/ToyasCard.lean, 'card_holds'). Laid BY PROGRAM, IN A SANDBOX (cutbox-door.mjs). By AI agents, Wed Nov 11 2026. No macro, syntax, notation, axiom, sorry.
-/
import Derived.Test.YthhoebdlfjffkaaGreatDoorRows
import GoSem.ClaimSeven
namespace Go.Proofs.YthhoebdlfjffkaaGreatDoor
namespace Rows

/-- THE TIED CARD OF 'rootcauselaw07.ParserExprs'. -/
def parserExprsCard : Claim7 := { stood := { row := parserExprsRow, standIns := [], harness := (true, "b5223c05784295d3e10bc5ace5d4a7dc5f77fe4b5c57139d02a6d0d21167e338"), looks := false }, kinds := [], alts := [], laidByText := true, laidKinds := [.data, .data, .data, .data], laidTests := true, laidLooks := .later }
def ParserExprsCardSaid : Prop := Claim7.holds Tryz.pinned (.plain (OpenSpec.ofChange parserExprsSpec)) parserExprsCard

/-- THE TIED CARD OF 'rootcauselaw07.ParserSources'. -/
def parserSourcesCard : Claim7 := { stood := { row := parserSourcesRow, standIns := [], harness := (true, "b5223c05784295d3e10bc5ace5d4a7dc5f77fe4b5c57139d02a6d0d21167e338"), looks := false }, kinds := [], alts := [], laidByText := true, laidKinds := [.data, .data, .data, .data], laidTests := true, laidLooks := .later }
def ParserSourcesCardSaid : Prop := Claim7.holds Tryz.pinned (.plain (OpenSpec.ofChange parserSourcesSpec)) parserSourcesCard

/-- THE TIED CARD OF 'rootcauselaw07.ParserEnds'. -/
def parserEndsCard : Claim7 := { stood := { row := parserEndsRow, standIns := [], harness := (true, "b5223c05784295d3e10bc5ace5d4a7dc5f77fe4b5c57139d02a6d0d21167e338"), looks := false }, kinds := [], alts := [], laidByText := true, laidKinds := [.data, .data, .data, .data, .data, .data, .data], laidTests := true, laidLooks := .later }
def ParserEndsCardSaid : Prop := Claim7.holds Tryz.pinned (.plain (OpenSpec.ofChange parserEndsSpec)) parserEndsCard

/-- THE TIED CARD OF 'rootcauselaw07.ParserFleets'. -/
def parserFleetsCard : Claim7 := { stood := { row := parserFleetsRow, standIns := [], harness := (true, "b5223c05784295d3e10bc5ace5d4a7dc5f77fe4b5c57139d02a6d0d21167e338"), looks := false }, kinds := [], alts := [], laidByText := true, laidKinds := [.data, .data, .data, .data, .data, .data, .data], laidTests := true, laidLooks := .later }
def ParserFleetsCardSaid : Prop := Claim7.holds Tryz.pinned (.plain (OpenSpec.ofChange parserFleetsSpec)) parserFleetsCard

/-- THE TIED CARD OF 'rootcauselaw07.ParserChanges'. -/
def parserChangesCard : Claim7 := { stood := { row := parserChangesRow, standIns := [], harness := (true, "b5223c05784295d3e10bc5ace5d4a7dc5f77fe4b5c57139d02a6d0d21167e338"), looks := false }, kinds := [], alts := [], laidByText := true, laidKinds := [.data, .data, .data, .data, .data, .data, .data], laidTests := true, laidLooks := .later }
def ParserChangesCardSaid : Prop := Claim7.holds Tryz.pinned (.plain (OpenSpec.ofChange parserChangesSpec)) parserChangesCard

/-- THE TIED CARD OF 'rootcauselaw07.ParserBlanks'. -/
def parserBlanksCard : Claim7 := { stood := { row := parserBlanksRow, standIns := [], harness := (true, "b5223c05784295d3e10bc5ace5d4a7dc5f77fe4b5c57139d02a6d0d21167e338"), looks := false }, kinds := [], alts := [], laidByText := true, laidKinds := [.data, .data, .data, .data, .data, .data, .data], laidTests := true, laidLooks := .later }
def ParserBlanksCardSaid : Prop := Claim7.holds Tryz.pinned (.plain (OpenSpec.ofChange parserBlanksSpec)) parserBlanksCard

/-- THE SECOND FORM's CARD OF 'rootcauselaw07.ParserExprs'. -/
def parserExprsUptoCard : Claim7 := { stood := { row := parserExprsUptoRow, standIns := [], harness := (true, "b5223c05784295d3e10bc5ace5d4a7dc5f77fe4b5c57139d02a6d0d21167e338"), looks := false }, kinds := [], alts := [], laidByText := true, laidKinds := [.data, .data, .data, .data], laidTests := true, laidLooks := .later }
def ParserExprsUptoCardSaid : Prop := Claim7.holds Tryz.pinned (.plain (OpenSpec.upto parserExprsSpec)) parserExprsUptoCard

/-- THE SECOND FORM's CARD OF 'rootcauselaw07.ParserSources'. -/
def parserSourcesUptoCard : Claim7 := { stood := { row := parserSourcesUptoRow, standIns := [], harness := (true, "b5223c05784295d3e10bc5ace5d4a7dc5f77fe4b5c57139d02a6d0d21167e338"), looks := false }, kinds := [], alts := [], laidByText := true, laidKinds := [.data, .data, .data, .data], laidTests := true, laidLooks := .later }
def ParserSourcesUptoCardSaid : Prop := Claim7.holds Tryz.pinned (.plain (OpenSpec.upto parserSourcesSpec)) parserSourcesUptoCard

/-- THE SECOND FORM's CARD OF 'rootcauselaw07.ParserEnds'. -/
def parserEndsUptoCard : Claim7 := { stood := { row := parserEndsUptoRow, standIns := [], harness := (true, "b5223c05784295d3e10bc5ace5d4a7dc5f77fe4b5c57139d02a6d0d21167e338"), looks := false }, kinds := [], alts := [], laidByText := true, laidKinds := [.data, .data, .data, .data, .data, .data, .data], laidTests := true, laidLooks := .later }
def ParserEndsUptoCardSaid : Prop := Claim7.holds Tryz.pinned (.plain (OpenSpec.upto parserEndsSpec)) parserEndsUptoCard

/-- THE SECOND FORM's CARD OF 'rootcauselaw07.ParserFleets'. -/
def parserFleetsUptoCard : Claim7 := { stood := { row := parserFleetsUptoRow, standIns := [], harness := (true, "b5223c05784295d3e10bc5ace5d4a7dc5f77fe4b5c57139d02a6d0d21167e338"), looks := false }, kinds := [], alts := [], laidByText := true, laidKinds := [.data, .data, .data, .data, .data, .data, .data], laidTests := true, laidLooks := .later }
def ParserFleetsUptoCardSaid : Prop := Claim7.holds Tryz.pinned (.plain (OpenSpec.upto parserFleetsSpec)) parserFleetsUptoCard

/-- THE SECOND FORM's CARD OF 'rootcauselaw07.ParserChanges'. -/
def parserChangesUptoCard : Claim7 := { stood := { row := parserChangesUptoRow, standIns := [], harness := (true, "b5223c05784295d3e10bc5ace5d4a7dc5f77fe4b5c57139d02a6d0d21167e338"), looks := false }, kinds := [], alts := [], laidByText := true, laidKinds := [.data, .data, .data, .data, .data, .data, .data], laidTests := true, laidLooks := .later }
def ParserChangesUptoCardSaid : Prop := Claim7.holds Tryz.pinned (.plain (OpenSpec.upto parserChangesSpec)) parserChangesUptoCard

/-- THE SECOND FORM's CARD OF 'rootcauselaw07.ParserBlanks'. -/
def parserBlanksUptoCard : Claim7 := { stood := { row := parserBlanksUptoRow, standIns := [], harness := (true, "b5223c05784295d3e10bc5ace5d4a7dc5f77fe4b5c57139d02a6d0d21167e338"), looks := false }, kinds := [], alts := [], laidByText := true, laidKinds := [.data, .data, .data, .data, .data, .data, .data], laidTests := true, laidLooks := .later }
def ParserBlanksUptoCardSaid : Prop := Claim7.holds Tryz.pinned (.plain (OpenSpec.upto parserBlanksSpec)) parserBlanksUptoCard
end Rows
end Go.Proofs.YthhoebdlfjffkaaGreatDoor

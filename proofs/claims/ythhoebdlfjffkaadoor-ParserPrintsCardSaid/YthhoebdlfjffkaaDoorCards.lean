/-
  DERIVED. GIVEN WITH THE SEED: THE CARDS: each row of YthhoebdlfjffkaaDoorRows.lean that lists a variable, with what it lists TIED to the program's text (the seventh form; the later family's looks); each row that meets fmt, with fmt's text TOLD by the authors' own Lean function (tested against real Go, not proved from fmt's source: count such statements apart). THE CARD IS WHAT COUNTS. Prove the row's statement (the work); the ties are given (YthhoebdlfjffkaaDoorTie.lean); close each card by the builder's one call (the guide's Derived/Test/ToyasCard.lean, 'card_holds'). Laid BY PROGRAM, IN A SANDBOX (cutbox-door.mjs). By AI agents, Wed Nov 11 2026. No macro, syntax, notation, axiom, sorry.
-/
import Derived.Test.YthhoebdlfjffkaaDoorRows
import GoSem.ClaimSeven
namespace Go.Proofs.YthhoebdlfjffkaaDoor
namespace Rows

/-- THE TIED CARD OF 'rootcauselaw07.ParserFull'. -/
def parserFullCard : Claim7 := { stood := { row := parserFullRow, standIns := [], harness := (true, "3698f556b884ae60a10a46cacceb8ce306cd819d03149b015a293fcacb6b30b5"), looks := false }, kinds := [], alts := [], laidByText := true, laidKinds := [.data, .data, .data, .data], laidTests := true, laidLooks := .later }
def ParserFullCardSaid : Prop := Claim7.holds Tryd.pinned (.plain (OpenSpec.ofChange parserFullSpec)) parserFullCard

/-- THE TIED CARD OF 'rootcauselaw07.ParserLevels'. -/
def parserLevelsCard : Claim7 := { stood := { row := parserLevelsRow, standIns := [], harness := (true, "3698f556b884ae60a10a46cacceb8ce306cd819d03149b015a293fcacb6b30b5"), looks := false }, kinds := [], alts := [], laidByText := true, laidKinds := [.data, .data, .data, .data], laidTests := true, laidLooks := .later }
def ParserLevelsCardSaid : Prop := Claim7.holds Tryd.pinned (.plain (OpenSpec.ofChange parserLevelsSpec)) parserLevelsCard

/-- THE TIED CARD OF 'rootcauselaw07.ParserPrints'. -/
def parserPrintsCard : Claim7 := { stood := { row := parserPrintsRow, standIns := [], harness := (true, "3698f556b884ae60a10a46cacceb8ce306cd819d03149b015a293fcacb6b30b5"), looks := false }, kinds := [], alts := [], laidByText := true, laidKinds := [.data, .data, .data, .data, .data, .data, .data], laidTests := true, laidLooks := .later }
def ParserPrintsCardSaid : Prop := Claim7.holds Tryd.pinned (.plain (OpenSpec.ofChange parserPrintsSpec)) parserPrintsCard

/-- THE SECOND FORM's CARD OF 'rootcauselaw07.ParserFull'. -/
def parserFullUptoCard : Claim7 := { stood := { row := parserFullUptoRow, standIns := [], harness := (true, "3698f556b884ae60a10a46cacceb8ce306cd819d03149b015a293fcacb6b30b5"), looks := false }, kinds := [], alts := [], laidByText := true, laidKinds := [.data, .data, .data, .data], laidTests := true, laidLooks := .later }
def ParserFullUptoCardSaid : Prop := Claim7.holds Tryd.pinned (.plain (OpenSpec.upto parserFullSpec)) parserFullUptoCard

/-- THE SECOND FORM's CARD OF 'rootcauselaw07.ParserLevels'. -/
def parserLevelsUptoCard : Claim7 := { stood := { row := parserLevelsUptoRow, standIns := [], harness := (true, "3698f556b884ae60a10a46cacceb8ce306cd819d03149b015a293fcacb6b30b5"), looks := false }, kinds := [], alts := [], laidByText := true, laidKinds := [.data, .data, .data, .data], laidTests := true, laidLooks := .later }
def ParserLevelsUptoCardSaid : Prop := Claim7.holds Tryd.pinned (.plain (OpenSpec.upto parserLevelsSpec)) parserLevelsUptoCard

/-- THE SECOND FORM's CARD OF 'rootcauselaw07.ParserPrints'. -/
def parserPrintsUptoCard : Claim7 := { stood := { row := parserPrintsUptoRow, standIns := [], harness := (true, "3698f556b884ae60a10a46cacceb8ce306cd819d03149b015a293fcacb6b30b5"), looks := false }, kinds := [], alts := [], laidByText := true, laidKinds := [.data, .data, .data, .data, .data, .data, .data], laidTests := true, laidLooks := .later }
def ParserPrintsUptoCardSaid : Prop := Claim7.holds Tryd.pinned (.plain (OpenSpec.upto parserPrintsSpec)) parserPrintsUptoCard
end Rows
end Go.Proofs.YthhoebdlfjffkaaDoor

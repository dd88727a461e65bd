/-
  DERIVED. GIVEN WITH THE SEED: THE CARDS: each row of YtohfacbajcenoaaGreatDoorRows.lean that lists a variable, with what it lists TIED to the program's text (the seventh form; the later family's looks); each row that meets fmt, with fmt's text TOLD by the authors' own Lean function (tested against real Go, not proved from fmt's source: count such statements apart). THE CARD IS WHAT COUNTS. Prove the row's statement (the work); the ties are given (YtohfacbajcenoaaGreatDoorTie.lean); close each card by the builder's one call (the guide's Derived/Test/ToyasCard.lean, 'card_holds'). Laid BY PROGRAM, IN A SANDBOX (cutbox-door.mjs). By AI agents, Wed Nov 11 2026. No macro, syntax, notation, axiom, sorry.
-/
import Derived.Test.YtohfacbajcenoaaGreatDoorRows
import GoSem.ClaimSeven
namespace Go.Proofs.YtohfacbajcenoaaGreatDoor
namespace Rows

/-- THE TIED CARD OF 'rootcauselaw08.TypesChecks'. -/
def typesChecksCard : Claim7 := { stood := { row := typesChecksRow, standIns := [], harness := (true, "18b67be119c012276afea62262d93e8274f849ab98ab0647db4f58e1b4137ebb"), looks := false }, kinds := [], alts := [], laidByText := true, laidKinds := [.data, .data, .data, .data, .data, .data, .data], laidTests := true, laidLooks := .later }
def TypesChecksCardSaid : Prop := Claim7.holds Tryz.pinned (.plain (OpenSpec.ofChange typesChecksSpec)) typesChecksCard

/-- THE TIED CARD OF 'rootcauselaw08.TypesRenames'. -/
def typesRenamesCard : Claim7 := { stood := { row := typesRenamesRow, standIns := [], harness := (true, "18b67be119c012276afea62262d93e8274f849ab98ab0647db4f58e1b4137ebb"), looks := false }, kinds := [], alts := [], laidByText := true, laidKinds := [.data, .data, .data, .data, .data, .data, .data], laidTests := true, laidLooks := .later }
def TypesRenamesCardSaid : Prop := Claim7.holds Tryz.pinned (.plain (OpenSpec.ofChange typesRenamesSpec)) typesRenamesCard

/-- THE TIED CARD OF 'rootcauselaw08.TypesExprs'. -/
def typesExprsCard : Claim7 := { stood := { row := typesExprsRow, standIns := [], harness := (true, "18b67be119c012276afea62262d93e8274f849ab98ab0647db4f58e1b4137ebb"), looks := false }, kinds := [], alts := [], laidByText := true, laidKinds := [.data, .data, .data, .data, .data, .data, .data], laidTests := true, laidLooks := .later }
def TypesExprsCardSaid : Prop := Claim7.holds Tryz.pinned (.plain (OpenSpec.ofChange typesExprsSpec)) typesExprsCard

/-- THE TIED CARD OF 'rootcauselaw08.TypesUses'. -/
def typesUsesCard : Claim7 := { stood := { row := typesUsesRow, standIns := [], harness := (true, "18b67be119c012276afea62262d93e8274f849ab98ab0647db4f58e1b4137ebb"), looks := false }, kinds := [], alts := [], laidByText := true, laidKinds := [.data, .data, .data, .data, .data, .data, .data], laidTests := true, laidLooks := .later }
def TypesUsesCardSaid : Prop := Claim7.holds Tryz.pinned (.plain (OpenSpec.ofChange typesUsesSpec)) typesUsesCard

/-- THE SECOND FORM's CARD OF 'rootcauselaw08.TypesChecks'. -/
def typesChecksUptoCard : Claim7 := { stood := { row := typesChecksUptoRow, standIns := [], harness := (true, "18b67be119c012276afea62262d93e8274f849ab98ab0647db4f58e1b4137ebb"), looks := false }, kinds := [], alts := [], laidByText := true, laidKinds := [.data, .data, .data, .data, .data, .data, .data], laidTests := true, laidLooks := .later }
def TypesChecksUptoCardSaid : Prop := Claim7.holds Tryz.pinned (.plain (OpenSpec.upto typesChecksSpec)) typesChecksUptoCard

/-- THE SECOND FORM's CARD OF 'rootcauselaw08.TypesRenames'. -/
def typesRenamesUptoCard : Claim7 := { stood := { row := typesRenamesUptoRow, standIns := [], harness := (true, "18b67be119c012276afea62262d93e8274f849ab98ab0647db4f58e1b4137ebb"), looks := false }, kinds := [], alts := [], laidByText := true, laidKinds := [.data, .data, .data, .data, .data, .data, .data], laidTests := true, laidLooks := .later }
def TypesRenamesUptoCardSaid : Prop := Claim7.holds Tryz.pinned (.plain (OpenSpec.upto typesRenamesSpec)) typesRenamesUptoCard

/-- THE SECOND FORM's CARD OF 'rootcauselaw08.TypesExprs'. -/
def typesExprsUptoCard : Claim7 := { stood := { row := typesExprsUptoRow, standIns := [], harness := (true, "18b67be119c012276afea62262d93e8274f849ab98ab0647db4f58e1b4137ebb"), looks := false }, kinds := [], alts := [], laidByText := true, laidKinds := [.data, .data, .data, .data, .data, .data, .data], laidTests := true, laidLooks := .later }
def TypesExprsUptoCardSaid : Prop := Claim7.holds Tryz.pinned (.plain (OpenSpec.upto typesExprsSpec)) typesExprsUptoCard

/-- THE SECOND FORM's CARD OF 'rootcauselaw08.TypesUses'. -/
def typesUsesUptoCard : Claim7 := { stood := { row := typesUsesUptoRow, standIns := [], harness := (true, "18b67be119c012276afea62262d93e8274f849ab98ab0647db4f58e1b4137ebb"), looks := false }, kinds := [], alts := [], laidByText := true, laidKinds := [.data, .data, .data, .data, .data, .data, .data], laidTests := true, laidLooks := .later }
def TypesUsesUptoCardSaid : Prop := Claim7.holds Tryz.pinned (.plain (OpenSpec.upto typesUsesSpec)) typesUsesUptoCard
end Rows
end Go.Proofs.YtohfacbajcenoaaGreatDoor

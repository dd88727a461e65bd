/-
  DERIVED. GIVEN WITH THE SEED: THE CARDS: each row of YtohfacbajcenoaaDoorRows.lean that lists a variable, with what it lists TIED to the program's text (the seventh form; the later family's looks); each row that meets fmt, with fmt's text TOLD by the authors' own Lean function (tested against real Go, not proved from fmt's source: count such statements apart). THE CARD IS WHAT COUNTS. Prove the row's statement (the work); the ties are given (YtohfacbajcenoaaDoorTie.lean); close each card by the builder's one call (the guide's Derived/Test/ToyasCard.lean, 'card_holds'). Laid BY PROGRAM, IN A SANDBOX (cutbox-door.mjs). By AI agents, Wed Nov 11 2026. No macro, syntax, notation, axiom, sorry.
-/
import Derived.Test.YtohfacbajcenoaaDoorRows
import GoSem.ClaimSeven
namespace Go.Proofs.YtohfacbajcenoaaDoor
namespace Rows

/-- THE TIED CARD OF 'rootcauselaw08.TypesAccepts'. -/
def typesAcceptsCard : Claim7 := { stood := { row := typesAcceptsRow, standIns := [], harness := (true, "6b97ef55fe42824f1da219efe6a67a8a3996f05028a685ba91c982e26bdd41b6"), looks := false }, kinds := [], alts := [], laidByText := true, laidKinds := [.data, .data, .data, .data, .data, .data, .data], laidTests := true, laidLooks := .later }
def TypesAcceptsCardSaid : Prop := Claim7.holds Tryd.pinned (.plain (OpenSpec.ofChange typesAcceptsSpec)) typesAcceptsCard

/-- THE TIED CARD OF 'rootcauselaw08.TypesShapes'. -/
def typesShapesCard : Claim7 := { stood := { row := typesShapesRow, standIns := [], harness := (true, "6b97ef55fe42824f1da219efe6a67a8a3996f05028a685ba91c982e26bdd41b6"), looks := false }, kinds := [], alts := [], laidByText := true, laidKinds := [.data, .data, .data, .data, .data, .data, .data], laidTests := true, laidLooks := .later }
def TypesShapesCardSaid : Prop := Claim7.holds Tryd.pinned (.plain (OpenSpec.ofChange typesShapesSpec)) typesShapesCard

/-- THE TIED CARD OF 'rootcauselaw08.TypesErrs'. -/
def typesErrsCard : Claim7 := { stood := { row := typesErrsRow, standIns := [], harness := (true, "6b97ef55fe42824f1da219efe6a67a8a3996f05028a685ba91c982e26bdd41b6"), looks := false }, kinds := [], alts := [], laidByText := true, laidKinds := [.data, .data, .data, .data, .data, .data, .data], laidTests := true, laidLooks := .later }
def TypesErrsCardSaid : Prop := Claim7.holds Tryd.pinned (.plain (OpenSpec.ofChange typesErrsSpec)) typesErrsCard

/-- THE SECOND FORM's CARD OF 'rootcauselaw08.TypesAccepts'. -/
def typesAcceptsUptoCard : Claim7 := { stood := { row := typesAcceptsUptoRow, standIns := [], harness := (true, "6b97ef55fe42824f1da219efe6a67a8a3996f05028a685ba91c982e26bdd41b6"), looks := false }, kinds := [], alts := [], laidByText := true, laidKinds := [.data, .data, .data, .data, .data, .data, .data], laidTests := true, laidLooks := .later }
def TypesAcceptsUptoCardSaid : Prop := Claim7.holds Tryd.pinned (.plain (OpenSpec.upto typesAcceptsSpec)) typesAcceptsUptoCard

/-- THE SECOND FORM's CARD OF 'rootcauselaw08.TypesShapes'. -/
def typesShapesUptoCard : Claim7 := { stood := { row := typesShapesUptoRow, standIns := [], harness := (true, "6b97ef55fe42824f1da219efe6a67a8a3996f05028a685ba91c982e26bdd41b6"), looks := false }, kinds := [], alts := [], laidByText := true, laidKinds := [.data, .data, .data, .data, .data, .data, .data], laidTests := true, laidLooks := .later }
def TypesShapesUptoCardSaid : Prop := Claim7.holds Tryd.pinned (.plain (OpenSpec.upto typesShapesSpec)) typesShapesUptoCard

/-- THE SECOND FORM's CARD OF 'rootcauselaw08.TypesErrs'. -/
def typesErrsUptoCard : Claim7 := { stood := { row := typesErrsUptoRow, standIns := [], harness := (true, "6b97ef55fe42824f1da219efe6a67a8a3996f05028a685ba91c982e26bdd41b6"), looks := false }, kinds := [], alts := [], laidByText := true, laidKinds := [.data, .data, .data, .data, .data, .data, .data], laidTests := true, laidLooks := .later }
def TypesErrsUptoCardSaid : Prop := Claim7.holds Tryd.pinned (.plain (OpenSpec.upto typesErrsSpec)) typesErrsUptoCard
end Rows
end Go.Proofs.YtohfacbajcenoaaDoor

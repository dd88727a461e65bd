/-
  DERIVED. GIVEN WITH THE SEED: THE CARDS: each row of YtifhgkdajnngnaaDoorRows.lean that lists a variable, with what it lists TIED to the program's text (the seventh form; the later family's looks); each row that meets fmt, with fmt's text TOLD by the authors' own Lean function (tested against real Go, not proved from fmt's source: count such statements apart). THE CARD IS WHAT COUNTS. Prove the row's statement (the work); the ties are given (YtifhgkdajnngnaaDoorTie.lean); close each card by the builder's one call (the guide's Derived/Test/ToyasCard.lean, 'card_holds'). Laid BY PROGRAM, IN A SANDBOX (cutbox-door.mjs). By AI agents, Wed Nov 11 2026. No macro, syntax, notation, axiom, sorry.
-/
import Derived.Test.YtifhgkdajnngnaaDoorRows
import GoSem.ClaimSeven
namespace Go.Proofs.YtifhgkdajnngnaaDoor
namespace Rows

/-- THE TIED CARD OF 'rootcauselaw04.RatioMakes'. -/
def ratioMakesCard : Claim7 := { stood := { row := ratioMakesRow, standIns := [], harness := (true, "bbbaab33fab55bd816ac80e1e0d782c1e88fb0bbc056c970f732e874dd844292"), looks := true }, kinds := [], alts := [], laidByText := true, laidKinds := [.data, .data, .data, .sentinel, .sentinel], laidTests := true, laidLooks := .later }
def RatioMakesCardSaid : Prop := Claim7.holds Tryd.pinned (.plain (OpenSpec.ofChange ratioMakesSpec)) ratioMakesCard

/-- THE TIED CARD OF 'rootcauselaw04.RatioValid'. -/
def ratioValidCard : Claim7 := { stood := { row := ratioValidRow, standIns := [], harness := (true, "bbbaab33fab55bd816ac80e1e0d782c1e88fb0bbc056c970f732e874dd844292"), looks := true }, kinds := [], alts := [], laidByText := true, laidKinds := [.data, .data, .data, .sentinel, .sentinel], laidTests := true, laidLooks := .later }
def RatioValidCardSaid : Prop := Claim7.holds Tryd.pinned (.plain (OpenSpec.ofChange ratioValidSpec)) ratioValidCard

/-- THE TIED CARD OF 'rootcauselaw04.RatioTexts'. -/
def ratioTextsCard : Claim7 := { stood := { row := ratioTextsRow, standIns := [], harness := (true, "bbbaab33fab55bd816ac80e1e0d782c1e88fb0bbc056c970f732e874dd844292"), looks := true }, kinds := [], alts := [], laidByText := true, laidKinds := [.data, .data, .data, .sentinel, .sentinel], laidTests := true, laidLooks := .later }
def RatioTextsCardSaid : Prop := Claim7.holds Tryd.pinned (.plain (OpenSpec.ofChange ratioTextsSpec)) ratioTextsCard

/-- THE TIED CARD OF 'rootcauselaw04.RatioParses'. -/
def ratioParsesCard : Claim7 := { stood := { row := ratioParsesRow, standIns := [], harness := (true, "bbbaab33fab55bd816ac80e1e0d782c1e88fb0bbc056c970f732e874dd844292"), looks := true }, kinds := [], alts := [], laidByText := true, laidKinds := [.data, .data, .data, .sentinel, .sentinel], laidTests := true, laidLooks := .later }
def RatioParsesCardSaid : Prop := Claim7.holds Tryd.pinned (.plain (OpenSpec.ofChange ratioParsesSpec)) ratioParsesCard

/-- THE TIED CARD OF 'rootcauselaw04.RatioAdds'. -/
def ratioAddsCard : Claim7 := { stood := { row := ratioAddsRow, standIns := [], harness := (true, "bbbaab33fab55bd816ac80e1e0d782c1e88fb0bbc056c970f732e874dd844292"), looks := true }, kinds := [], alts := [], laidByText := true, laidKinds := [.data, .data, .data, .sentinel, .sentinel], laidTests := true, laidLooks := .later }
def RatioAddsCardSaid : Prop := Claim7.holds Tryd.pinned (.plain (OpenSpec.ofChange ratioAddsSpec)) ratioAddsCard

/-- THE TIED CARD OF 'rootcauselaw04.RatioMuls'. -/
def ratioMulsCard : Claim7 := { stood := { row := ratioMulsRow, standIns := [], harness := (true, "bbbaab33fab55bd816ac80e1e0d782c1e88fb0bbc056c970f732e874dd844292"), looks := true }, kinds := [], alts := [], laidByText := true, laidKinds := [.data, .data, .data, .sentinel, .sentinel], laidTests := true, laidLooks := .later }
def RatioMulsCardSaid : Prop := Claim7.holds Tryd.pinned (.plain (OpenSpec.ofChange ratioMulsSpec)) ratioMulsCard

/-- THE TIED CARD OF 'rootcauselaw04.RatioLaws'. -/
def ratioLawsCard : Claim7 := { stood := { row := ratioLawsRow, standIns := [], harness := (true, "bbbaab33fab55bd816ac80e1e0d782c1e88fb0bbc056c970f732e874dd844292"), looks := true }, kinds := [], alts := [], laidByText := true, laidKinds := [.data, .data, .data, .sentinel, .sentinel], laidTests := true, laidLooks := .later }
def RatioLawsCardSaid : Prop := Claim7.holds Tryd.pinned (.plain (OpenSpec.ofChange ratioLawsSpec)) ratioLawsCard

/-- THE TIED CARD OF 'rootcauselaw04.RatioCompares'. -/
def ratioComparesCard : Claim7 := { stood := { row := ratioComparesRow, standIns := [], harness := (true, "bbbaab33fab55bd816ac80e1e0d782c1e88fb0bbc056c970f732e874dd844292"), looks := true }, kinds := [], alts := [], laidByText := true, laidKinds := [.data, .data, .data, .sentinel, .sentinel], laidTests := true, laidLooks := .later }
def RatioComparesCardSaid : Prop := Claim7.holds Tryd.pinned (.plain (OpenSpec.ofChange ratioComparesSpec)) ratioComparesCard

/-- THE TIED CARD OF 'rootcauselaw04.RatioOrder'. -/
def ratioOrderCard : Claim7 := { stood := { row := ratioOrderRow, standIns := [], harness := (true, "bbbaab33fab55bd816ac80e1e0d782c1e88fb0bbc056c970f732e874dd844292"), looks := true }, kinds := [], alts := [], laidByText := true, laidKinds := [.data, .data, .data, .sentinel, .sentinel], laidTests := true, laidLooks := .later }
def RatioOrderCardSaid : Prop := Claim7.holds Tryd.pinned (.plain (OpenSpec.ofChange ratioOrderSpec)) ratioOrderCard

/-- THE TIED CARD OF 'rootcauselaw04.RatioMax'. -/
def ratioMaxCard : Claim7 := { stood := { row := ratioMaxRow, standIns := [], harness := (true, "bbbaab33fab55bd816ac80e1e0d782c1e88fb0bbc056c970f732e874dd844292"), looks := true }, kinds := [], alts := [], laidByText := true, laidKinds := [.data, .data, .data, .sentinel, .sentinel], laidTests := true, laidLooks := .later }
def RatioMaxCardSaid : Prop := Claim7.holds Tryd.pinned (.plain (OpenSpec.ofChange ratioMaxSpec)) ratioMaxCard

/-- THE SECOND FORM's CARD OF 'rootcauselaw04.RatioMakes'. -/
def ratioMakesUptoCard : Claim7 := { stood := { row := ratioMakesUptoRow, standIns := [], harness := (true, "bbbaab33fab55bd816ac80e1e0d782c1e88fb0bbc056c970f732e874dd844292"), looks := true }, kinds := [], alts := [], laidByText := true, laidKinds := [.data, .data, .data, .sentinel, .sentinel], laidTests := true, laidLooks := .later }
def RatioMakesUptoCardSaid : Prop := Claim7.holds Tryd.pinned (.plain (OpenSpec.upto ratioMakesSpec)) ratioMakesUptoCard

/-- THE SECOND FORM's CARD OF 'rootcauselaw04.RatioValid'. -/
def ratioValidUptoCard : Claim7 := { stood := { row := ratioValidUptoRow, standIns := [], harness := (true, "bbbaab33fab55bd816ac80e1e0d782c1e88fb0bbc056c970f732e874dd844292"), looks := true }, kinds := [], alts := [], laidByText := true, laidKinds := [.data, .data, .data, .sentinel, .sentinel], laidTests := true, laidLooks := .later }
def RatioValidUptoCardSaid : Prop := Claim7.holds Tryd.pinned (.plain (OpenSpec.upto ratioValidSpec)) ratioValidUptoCard

/-- THE SECOND FORM's CARD OF 'rootcauselaw04.RatioTexts'. -/
def ratioTextsUptoCard : Claim7 := { stood := { row := ratioTextsUptoRow, standIns := [], harness := (true, "bbbaab33fab55bd816ac80e1e0d782c1e88fb0bbc056c970f732e874dd844292"), looks := true }, kinds := [], alts := [], laidByText := true, laidKinds := [.data, .data, .data, .sentinel, .sentinel], laidTests := true, laidLooks := .later }
def RatioTextsUptoCardSaid : Prop := Claim7.holds Tryd.pinned (.plain (OpenSpec.upto ratioTextsSpec)) ratioTextsUptoCard

/-- THE SECOND FORM's CARD OF 'rootcauselaw04.RatioParses'. -/
def ratioParsesUptoCard : Claim7 := { stood := { row := ratioParsesUptoRow, standIns := [], harness := (true, "bbbaab33fab55bd816ac80e1e0d782c1e88fb0bbc056c970f732e874dd844292"), looks := true }, kinds := [], alts := [], laidByText := true, laidKinds := [.data, .data, .data, .sentinel, .sentinel], laidTests := true, laidLooks := .later }
def RatioParsesUptoCardSaid : Prop := Claim7.holds Tryd.pinned (.plain (OpenSpec.upto ratioParsesSpec)) ratioParsesUptoCard

/-- THE SECOND FORM's CARD OF 'rootcauselaw04.RatioAdds'. -/
def ratioAddsUptoCard : Claim7 := { stood := { row := ratioAddsUptoRow, standIns := [], harness := (true, "bbbaab33fab55bd816ac80e1e0d782c1e88fb0bbc056c970f732e874dd844292"), looks := true }, kinds := [], alts := [], laidByText := true, laidKinds := [.data, .data, .data, .sentinel, .sentinel], laidTests := true, laidLooks := .later }
def RatioAddsUptoCardSaid : Prop := Claim7.holds Tryd.pinned (.plain (OpenSpec.upto ratioAddsSpec)) ratioAddsUptoCard

/-- THE SECOND FORM's CARD OF 'rootcauselaw04.RatioMuls'. -/
def ratioMulsUptoCard : Claim7 := { stood := { row := ratioMulsUptoRow, standIns := [], harness := (true, "bbbaab33fab55bd816ac80e1e0d782c1e88fb0bbc056c970f732e874dd844292"), looks := true }, kinds := [], alts := [], laidByText := true, laidKinds := [.data, .data, .data, .sentinel, .sentinel], laidTests := true, laidLooks := .later }
def RatioMulsUptoCardSaid : Prop := Claim7.holds Tryd.pinned (.plain (OpenSpec.upto ratioMulsSpec)) ratioMulsUptoCard

/-- THE SECOND FORM's CARD OF 'rootcauselaw04.RatioLaws'. -/
def ratioLawsUptoCard : Claim7 := { stood := { row := ratioLawsUptoRow, standIns := [], harness := (true, "bbbaab33fab55bd816ac80e1e0d782c1e88fb0bbc056c970f732e874dd844292"), looks := true }, kinds := [], alts := [], laidByText := true, laidKinds := [.data, .data, .data, .sentinel, .sentinel], laidTests := true, laidLooks := .later }
def RatioLawsUptoCardSaid : Prop := Claim7.holds Tryd.pinned (.plain (OpenSpec.upto ratioLawsSpec)) ratioLawsUptoCard

/-- THE SECOND FORM's CARD OF 'rootcauselaw04.RatioCompares'. -/
def ratioComparesUptoCard : Claim7 := { stood := { row := ratioComparesUptoRow, standIns := [], harness := (true, "bbbaab33fab55bd816ac80e1e0d782c1e88fb0bbc056c970f732e874dd844292"), looks := true }, kinds := [], alts := [], laidByText := true, laidKinds := [.data, .data, .data, .sentinel, .sentinel], laidTests := true, laidLooks := .later }
def RatioComparesUptoCardSaid : Prop := Claim7.holds Tryd.pinned (.plain (OpenSpec.upto ratioComparesSpec)) ratioComparesUptoCard

/-- THE SECOND FORM's CARD OF 'rootcauselaw04.RatioOrder'. -/
def ratioOrderUptoCard : Claim7 := { stood := { row := ratioOrderUptoRow, standIns := [], harness := (true, "bbbaab33fab55bd816ac80e1e0d782c1e88fb0bbc056c970f732e874dd844292"), looks := true }, kinds := [], alts := [], laidByText := true, laidKinds := [.data, .data, .data, .sentinel, .sentinel], laidTests := true, laidLooks := .later }
def RatioOrderUptoCardSaid : Prop := Claim7.holds Tryd.pinned (.plain (OpenSpec.upto ratioOrderSpec)) ratioOrderUptoCard

/-- THE SECOND FORM's CARD OF 'rootcauselaw04.RatioMax'. -/
def ratioMaxUptoCard : Claim7 := { stood := { row := ratioMaxUptoRow, standIns := [], harness := (true, "bbbaab33fab55bd816ac80e1e0d782c1e88fb0bbc056c970f732e874dd844292"), looks := true }, kinds := [], alts := [], laidByText := true, laidKinds := [.data, .data, .data, .sentinel, .sentinel], laidTests := true, laidLooks := .later }
def RatioMaxUptoCardSaid : Prop := Claim7.holds Tryd.pinned (.plain (OpenSpec.upto ratioMaxSpec)) ratioMaxUptoCard
end Rows
end Go.Proofs.YtifhgkdajnngnaaDoor

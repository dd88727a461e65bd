/- Proved: for every input, rootcauselaw34.FormulaBrackets returns true, and its arguments read as they did (the tied card FormulaBracketsCardSaid). Conditions: the card's own (the listed package variables read as the program's initialisers lay them, tied to the text), and no others. -/
import Derived.Test.YtidclioghdbphaaGreatDoorMi
import Derived.Test.YtidclioghdbphaaGreatDoorCards
set_option linter.all false
namespace Go.Proofs.YtidclioghdbphaaGreatDoor
open Go.RowKit Go.Par Go.Sx
namespace formulaBrackets
open Go.ChangeShapes Go.WideShapes Go.ChangeAt Go.RowKit
open Go.ChangeMaps (open_string shut_string)
theorem bY3 {a b : Bool} (h : a = true) (k : b = true) : (a && b) = true := by rw [h, k]; rfl
set_option maxRecDepth 100000 in
theorem closed : joinedFacts Tryz.prog 12 Tryz.f12 Rows.formulaBracketsSpec Rows.formulaBracketsRow = true := by
  unfold joinedFacts
  repeat' with_reducible refine bY3 ?_ ?_
  all_goals kernel_rfl
set_option maxRecDepth 100000 in
theorem holds : Rows.FormulaBracketsSaid :=
  OpenClaim.holds_of_wide 12 Tryz.f12 rfl rfl rfl rfl rfl rfl rfl ⟨rfl, rfl, rfl, rfl, rfl⟩ rfl rfl rfl rfl rfl (by kernel_rfl) Tryz.func12 closed
    (of_decide_eq_true (by kernel_rfl)) (by unfold Func.isWrapper; first | (rw [if_pos (by decide +kernel)]; kernel_rfl) | (rw [if_neg (by decide +kernel)]; exact ⟨rfl, rfl⟩))
    (λos started H enc _ => lifted os started H enc)
theorem card_holds : Rows.FormulaBracketsCardSaid :=
  Claim7.holds_tied_plain_at .later [] [.data, .data, .data, .data, .data, .data, .data, .data] true (true, "11d25c0aecf79e7f29c6342849afa29d2e84c39be2954fcd1078741698f25d8c") false
    holds (λ_ h => by cases h) (by kernel_rfl) (λ_ h => by cases h) formulaBrackets_row_tie rfl ⟨rfl, rfl⟩ (by kernel_rfl) rfl
    (λf fn hf hfn => by
      obtain rfl : f = 12 := Option.some.inj ((show Tryz.prog.funcNamed "rootcause/rootcauselaw34.FormulaBrackets" = some 12 by kernel_rfl).symm.trans hf) |>.symm
      obtain rfl : fn = Tryz.f12 := (Option.some.inj (Tryz.func12.symm.trans hfn)).symm
      exact ⟨by kernel_rfl, λj t ht => by
        rw [Tryz.params12] at ht
        rcases j with _ | _ | _ | j
        · obtain rfl : t = 22 := by simpa using ht.symm
          exact (show Tryz.prog.wantsStandIn 22 = false by kernel_rfl)
        · obtain rfl : t = 22 := by simpa using ht.symm
          exact (show Tryz.prog.wantsStandIn 22 = false by kernel_rfl)
        · obtain rfl : t = 5 := by simpa using ht.symm
          exact (show Tryz.prog.wantsStandIn 5 = false by kernel_rfl)
        · simp at ht⟩)
    (by kernel_rfl)
#print axioms card_holds
end formulaBrackets
end Go.Proofs.YtidclioghdbphaaGreatDoor

/- Proved: for every input, rootcauselaw34.FormulaQuestions returns true, and its arguments read as they did (the tied card FormulaQuestionsCardSaid). Conditions: the card's own (the listed package variables read as the program's initialisers lay them, tied to the text), and no others. -/
import Derived.Test.YtidclioghdbphaaGreatDoorMi
import Derived.Test.YtidclioghdbphaaGreatDoorCards
set_option linter.all false
namespace Go.Proofs.YtidclioghdbphaaGreatDoor
open Go.RowKit Go.Par Go.Sx
namespace formulaQuestions
open Go.ChangeShapes Go.WideShapes Go.ChangeAt Go.RowKit
open Go.ChangeMaps (open_string shut_string)
theorem cR6 {a b : Bool} (h : a = true) (k : b = true) : (a && b) = true := by rw [h, k]; rfl
set_option maxRecDepth 100000 in
theorem closed : joinedFacts Tryz.prog 8 Tryz.f8 Rows.formulaQuestionsSpec Rows.formulaQuestionsRow = true := by
  unfold joinedFacts
  repeat' with_reducible refine cR6 ?_ ?_
  all_goals kernel_rfl
set_option maxRecDepth 100000 in
theorem holds : Rows.FormulaQuestionsSaid :=
  OpenClaim.holds_of_wide 8 Tryz.f8 rfl rfl rfl rfl rfl rfl rfl ⟨rfl, rfl, rfl, rfl, rfl⟩ rfl rfl rfl rfl rfl (by kernel_rfl) Tryz.func8 closed
    (of_decide_eq_true (by kernel_rfl)) (by unfold Func.isWrapper; first | (rw [if_pos (by decide +kernel)]; kernel_rfl) | (rw [if_neg (by decide +kernel)]; exact ⟨rfl, rfl⟩))
    (λos started H enc _ => lifted os started H enc)
theorem card_holds : Rows.FormulaQuestionsCardSaid :=
  Claim7.holds_tied_plain_at .later [] [.data, .data, .data, .data, .data, .data, .data, .data] true (true, "11d25c0aecf79e7f29c6342849afa29d2e84c39be2954fcd1078741698f25d8c") false
    holds (λ_ h => by cases h) (by kernel_rfl) (λ_ h => by cases h) formulaQuestions_row_tie rfl ⟨rfl, rfl⟩ (by kernel_rfl) rfl
    (λf fn hf hfn => by
      obtain rfl : f = 8 := Option.some.inj ((show Tryz.prog.funcNamed "rootcause/rootcauselaw34.FormulaQuestions" = some 8 by kernel_rfl).symm.trans hf) |>.symm
      obtain rfl : fn = Tryz.f8 := (Option.some.inj (Tryz.func8.symm.trans hfn)).symm
      exact ⟨by kernel_rfl, λj t ht => by
        rw [Tryz.params8] at ht
        rcases j with _ | _ | j
        · obtain rfl : t = 53 := by simpa using ht.symm
          exact (show Tryz.prog.wantsStandIn 53 = false by kernel_rfl)
        · obtain rfl : t = 50 := by simpa using ht.symm
          exact (show Tryz.prog.wantsStandIn 50 = false by kernel_rfl)
        · simp at ht⟩)
    (by kernel_rfl)
#print axioms card_holds
end formulaQuestions
end Go.Proofs.YtidclioghdbphaaGreatDoor

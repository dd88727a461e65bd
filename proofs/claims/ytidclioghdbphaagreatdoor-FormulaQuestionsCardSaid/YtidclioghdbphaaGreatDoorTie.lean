/-
  DERIVED. GIVEN WITH THE SEED: THE PROGRAM's TIES (one call each: nine closed facts by the kernel) AND EACH ROW's TIE, after the 31st guide's Derived/Test/Toyas{Tie, Card}.lean. No idea stands in it: it is a product of the set-up. Laid BY PROGRAM, IN A SANDBOX (cutbox-door.mjs). By AI agents, Wed Nov 11 2026. No macro, syntax, notation, axiom, sorry.
-/
import Derived.Test.YtidclioghdbphaaGreatDoorRows
import Derived.LaidByTextLater
import Derived.SevenTiedAt
import Derived.LaidSub
import Derived.LaidOnce
namespace Go.Proofs.YtidclioghdbphaaGreatDoor
open Go
set_option maxRecDepth 100000
theorem seatTie1 : Tryz.prog.laidByTextLater [("math/bits.deBruijn32tab", Rows.laid_math_bits_deBruijn32tab), ("math/bits.deBruijn64tab", Rows.laid_math_bits_deBruijn64tab), ("internal/strconv.uint64pow10", Rows.laid_internal_strconv_uint64pow10), ("rootcause/lexer.words", Rows.laid_rootcause_lexer_words), ("rootcause/lexer.symbols", Rows.laid_rootcause_lexer_symbols), ("rootcause/formula.shapes", Rows.laid_rootcause_formula_shapes), ("rootcause/formula.symbols", Rows.laid_rootcause_formula_symbols), ("rootcause/formula.words", Rows.laid_rootcause_formula_words)] [.data, .data, .data, .data, .data, .data, .data, .data] true :=
  Program.laidByTextLater_by_one 67 8 134 (by kernel_rfl) (by kernel_rfl) (by kernel_rfl) (by kernel_rfl) (by kernel_rfl) (by kernel_rfl) (fun _ _ => by kernel_rfl)
theorem noOwnUnsafe : Tryz.pinned.checked.prog.headLifts.contains "ownunsafe" = false := by kernel_rfl
theorem tie : Tryz.prog.laidByTextLater [("math/bits.deBruijn32tab", Rows.laid_math_bits_deBruijn32tab), ("math/bits.deBruijn64tab", Rows.laid_math_bits_deBruijn64tab), ("internal/strconv.uint64pow10", Rows.laid_internal_strconv_uint64pow10), ("rootcause/lexer.words", Rows.laid_rootcause_lexer_words), ("rootcause/lexer.symbols", Rows.laid_rootcause_lexer_symbols), ("rootcause/formula.shapes", Rows.laid_rootcause_formula_shapes), ("rootcause/formula.symbols", Rows.laid_rootcause_formula_symbols), ("rootcause/formula.words", Rows.laid_rootcause_formula_words)] [.data, .data, .data, .data, .data, .data, .data, .data] true :=
  Program.laidByTextLater.sub seatTie1 ["math/bits.deBruijn32tab", "math/bits.deBruijn64tab", "internal/strconv.uint64pow10", "rootcause/lexer.words", "rootcause/lexer.symbols", "rootcause/formula.shapes", "rootcause/formula.symbols", "rootcause/formula.words"] (by kernel_rfl) (by kernel_rfl)
theorem formulaChecks_row_tie : Rows.formulaChecksRow.laidByTextAt .later Tryz.pinned [.data, .data, .data, .data, .data, .data, .data, .data] true :=
  OpenClaim.laidByTextAt_later rfl rfl tie noOwnUnsafe
theorem formulaTexts_row_tie : Rows.formulaTextsRow.laidByTextAt .later Tryz.pinned [.data, .data, .data, .data, .data, .data, .data, .data] true :=
  OpenClaim.laidByTextAt_later rfl rfl tie noOwnUnsafe
theorem formulaSizes_row_tie : Rows.formulaSizesRow.laidByTextAt .later Tryz.pinned [.data, .data, .data, .data, .data, .data, .data, .data] true :=
  OpenClaim.laidByTextAt_later rfl rfl tie noOwnUnsafe
theorem formulaEquals_row_tie : Rows.formulaEqualsRow.laidByTextAt .later Tryz.pinned [.data, .data, .data, .data, .data, .data, .data, .data] true :=
  OpenClaim.laidByTextAt_later rfl rfl tie noOwnUnsafe
theorem formulaBack_row_tie : Rows.formulaBackRow.laidByTextAt .later Tryz.pinned [.data, .data, .data, .data, .data, .data, .data, .data] true :=
  OpenClaim.laidByTextAt_later rfl rfl tie noOwnUnsafe
theorem formulaQuestions_row_tie : Rows.formulaQuestionsRow.laidByTextAt .later Tryz.pinned [.data, .data, .data, .data, .data, .data, .data, .data] true :=
  OpenClaim.laidByTextAt_later rfl rfl tie noOwnUnsafe
theorem formulaParses_row_tie : Rows.formulaParsesRow.laidByTextAt .later Tryz.pinned [.data, .data, .data, .data, .data, .data, .data, .data] true :=
  OpenClaim.laidByTextAt_later rfl rfl tie noOwnUnsafe
theorem formulaPrinted_row_tie : Rows.formulaPrintedRow.laidByTextAt .later Tryz.pinned [.data, .data, .data, .data, .data, .data, .data, .data] true :=
  OpenClaim.laidByTextAt_later rfl rfl tie noOwnUnsafe
theorem formulaBlanks_row_tie : Rows.formulaBlanksRow.laidByTextAt .later Tryz.pinned [.data, .data, .data, .data, .data, .data, .data, .data] true :=
  OpenClaim.laidByTextAt_later rfl rfl tie noOwnUnsafe
theorem formulaBrackets_row_tie : Rows.formulaBracketsRow.laidByTextAt .later Tryz.pinned [.data, .data, .data, .data, .data, .data, .data, .data] true :=
  OpenClaim.laidByTextAt_later rfl rfl tie noOwnUnsafe
theorem formulaChecksUpto_row_tie : Rows.formulaChecksUptoRow.laidByTextAt .later Tryz.pinned [.data, .data, .data, .data, .data, .data, .data, .data] true :=
  OpenClaim.laidByTextAt_later rfl rfl tie noOwnUnsafe
theorem formulaTextsUpto_row_tie : Rows.formulaTextsUptoRow.laidByTextAt .later Tryz.pinned [.data, .data, .data, .data, .data, .data, .data, .data] true :=
  OpenClaim.laidByTextAt_later rfl rfl tie noOwnUnsafe
theorem formulaSizesUpto_row_tie : Rows.formulaSizesUptoRow.laidByTextAt .later Tryz.pinned [.data, .data, .data, .data, .data, .data, .data, .data] true :=
  OpenClaim.laidByTextAt_later rfl rfl tie noOwnUnsafe
theorem formulaEqualsUpto_row_tie : Rows.formulaEqualsUptoRow.laidByTextAt .later Tryz.pinned [.data, .data, .data, .data, .data, .data, .data, .data] true :=
  OpenClaim.laidByTextAt_later rfl rfl tie noOwnUnsafe
theorem formulaBackUpto_row_tie : Rows.formulaBackUptoRow.laidByTextAt .later Tryz.pinned [.data, .data, .data, .data, .data, .data, .data, .data] true :=
  OpenClaim.laidByTextAt_later rfl rfl tie noOwnUnsafe
theorem formulaQuestionsUpto_row_tie : Rows.formulaQuestionsUptoRow.laidByTextAt .later Tryz.pinned [.data, .data, .data, .data, .data, .data, .data, .data] true :=
  OpenClaim.laidByTextAt_later rfl rfl tie noOwnUnsafe
theorem formulaParsesUpto_row_tie : Rows.formulaParsesUptoRow.laidByTextAt .later Tryz.pinned [.data, .data, .data, .data, .data, .data, .data, .data] true :=
  OpenClaim.laidByTextAt_later rfl rfl tie noOwnUnsafe
theorem formulaPrintedUpto_row_tie : Rows.formulaPrintedUptoRow.laidByTextAt .later Tryz.pinned [.data, .data, .data, .data, .data, .data, .data, .data] true :=
  OpenClaim.laidByTextAt_later rfl rfl tie noOwnUnsafe
theorem formulaBlanksUpto_row_tie : Rows.formulaBlanksUptoRow.laidByTextAt .later Tryz.pinned [.data, .data, .data, .data, .data, .data, .data, .data] true :=
  OpenClaim.laidByTextAt_later rfl rfl tie noOwnUnsafe
theorem formulaBracketsUpto_row_tie : Rows.formulaBracketsUptoRow.laidByTextAt .later Tryz.pinned [.data, .data, .data, .data, .data, .data, .data, .data] true :=
  OpenClaim.laidByTextAt_later rfl rfl tie noOwnUnsafe
end Go.Proofs.YtidclioghdbphaaGreatDoor

/-
  NARROWER THAN 'FOR EVERY INPUT', by the rows' own cells (each row's printed sentence says how): TypesChecks: laid · TypesRenames: laid · TypesExprs: laid · TypesUses: laid.
  DERIVED. THE GIVEN ROWS OF THIS SEAT. 4 by the template 'for every input the law returns true; each argument reads behind the call as it read before'; 0 by the template 'total and deterministic' (their statements: YtohfacbajcenoaaGreatDoorTotals.lean).
  GIVEN WITH THE SEED: the statements are not yours to turn. If you find one false, say at which input.
  Laid BY PROGRAM, IN A SANDBOX (cutbox-rows.mjs): the forced cells as the released guide's own fill.sh prints them over the translation a366c0b7473af58a… (all of the seat's roots in one cut). By AI agents, Wed Nov 11 2026. No macro, syntax, notation, axiom, sorry.
-/
import Derived.Test.YtohfacbajcenoaaGreatDoorChecked
import GoSem.Claim
import GoSem.ClaimJoined
import GoSem.ClaimMapViews
import Derived.JoinedTies
import Derived.KernelRfl
namespace Go.Proofs.YtohfacbajcenoaaGreatDoor
/- THE CELL 'sum', in the pinned program and in every row, IS THE sha256 OF THE DUMP (.gsa) THAT YtohfacbajcenoaaGreatDoorProg.lean LOADS. Nothing in Lean hashes anything: it is a label: what it is worth is what the hold of that sum in a sandbox is worth. -/
noncomputable def Tryz.pinned : Pinned := { name := "ytohfacbajcenoaagreatdoor", sum := "a366c0b7473af58aa305bb923717b83e0568a4c7e9455c1d7a14969f47845952", checked := Tryz.checked }
namespace Rows
def none {H : Type} : Left H := { results := [], args := [] }

/- WHAT THE LISTED PACKAGE-LEVEL VARIABLES READ AS WHEN THE CALL BEGINS. Each datum BY PROGRAM (the guide's laid-datum.mjs) off the statement by which the dump's own 'gosem.cut.vars' lays the variable. In a bare row this is a premise. The card (YtohfacbajcenoaaGreatDoorCards.lean) ties it to the program's text. -/
def laid_math_bits_deBruijn32tab {H : Type} : DataW H := .agg [.lit (.int .u8 0), .lit (.int .u8 1), .lit (.int .u8 28), .lit (.int .u8 2), .lit (.int .u8 29), .lit (.int .u8 14), .lit (.int .u8 24), .lit (.int .u8 3), .lit (.int .u8 30), .lit (.int .u8 22), .lit (.int .u8 20), .lit (.int .u8 15), .lit (.int .u8 25), .lit (.int .u8 17), .lit (.int .u8 4), .lit (.int .u8 8), .lit (.int .u8 31), .lit (.int .u8 27), .lit (.int .u8 13), .lit (.int .u8 23), .lit (.int .u8 21), .lit (.int .u8 19), .lit (.int .u8 16), .lit (.int .u8 7), .lit (.int .u8 26), .lit (.int .u8 12), .lit (.int .u8 18), .lit (.int .u8 6), .lit (.int .u8 11), .lit (.int .u8 5), .lit (.int .u8 10), .lit (.int .u8 9)]
def laid_math_bits_deBruijn64tab {H : Type} : DataW H := .agg [.lit (.int .u8 0), .lit (.int .u8 1), .lit (.int .u8 56), .lit (.int .u8 2), .lit (.int .u8 57), .lit (.int .u8 49), .lit (.int .u8 28), .lit (.int .u8 3), .lit (.int .u8 61), .lit (.int .u8 58), .lit (.int .u8 42), .lit (.int .u8 50), .lit (.int .u8 38), .lit (.int .u8 29), .lit (.int .u8 17), .lit (.int .u8 4), .lit (.int .u8 62), .lit (.int .u8 47), .lit (.int .u8 59), .lit (.int .u8 36), .lit (.int .u8 45), .lit (.int .u8 43), .lit (.int .u8 51), .lit (.int .u8 22), .lit (.int .u8 53), .lit (.int .u8 39), .lit (.int .u8 33), .lit (.int .u8 30), .lit (.int .u8 24), .lit (.int .u8 18), .lit (.int .u8 12), .lit (.int .u8 5), .lit (.int .u8 63), .lit (.int .u8 55), .lit (.int .u8 48), .lit (.int .u8 27), .lit (.int .u8 60), .lit (.int .u8 41), .lit (.int .u8 37), .lit (.int .u8 16), .lit (.int .u8 46), .lit (.int .u8 35), .lit (.int .u8 44), .lit (.int .u8 21), .lit (.int .u8 52), .lit (.int .u8 32), .lit (.int .u8 23), .lit (.int .u8 11), .lit (.int .u8 54), .lit (.int .u8 26), .lit (.int .u8 40), .lit (.int .u8 15), .lit (.int .u8 34), .lit (.int .u8 20), .lit (.int .u8 31), .lit (.int .u8 10), .lit (.int .u8 25), .lit (.int .u8 14), .lit (.int .u8 19), .lit (.int .u8 9), .lit (.int .u8 13), .lit (.int .u8 8), .lit (.int .u8 7), .lit (.int .u8 6)]
def laid_internal_strconv_uint64pow10 {H : Type} : DataW H := .agg [.lit (.int .u64 1), .lit (.int .u64 10), .lit (.int .u64 100), .lit (.int .u64 1000), .lit (.int .u64 10000), .lit (.int .u64 100000), .lit (.int .u64 1000000), .lit (.int .u64 10000000), .lit (.int .u64 100000000), .lit (.int .u64 1000000000), .lit (.int .u64 10000000000), .lit (.int .u64 100000000000), .lit (.int .u64 1000000000000), .lit (.int .u64 10000000000000), .lit (.int .u64 100000000000000), .lit (.int .u64 1000000000000000), .lit (.int .u64 10000000000000000), .lit (.int .u64 100000000000000000), .lit (.int .u64 1000000000000000000), .lit (.int .u64 10000000000000000000)]
def laid_rootcause_lexer_words {H : Type} : DataW H := .agg [.lit (.string [97, 102, 116, 101, 114]), .lit (.string [97, 108, 119, 97, 121, 115]), .lit (.string [97, 110, 100]), .lit (.string [97, 114, 114, 105, 118, 101, 115]), .lit (.string [98, 111, 111, 108]), .lit (.string [99, 111, 109, 112, 111, 110, 101, 110, 116]), .lit (.string [99, 111, 117, 110, 116]), .lit (.string [100, 101, 108, 101, 116, 101]), .lit (.string [100, 111]), .lit (.string [101, 108, 115, 101]), .lit (.string [101, 120, 105, 115, 116, 115]), .lit (.string [102, 97, 108, 115, 101]), .lit (.string [102, 101, 116, 99, 104]), .lit (.string [102, 108, 97, 103]), .lit (.string [102, 108, 101, 101, 116]), .lit (.string [102, 111, 114, 97, 108, 108]), .lit (.string [104, 97, 115]), .lit (.string [105, 102]), .lit (.string [105, 109, 112, 108, 105, 101, 115]), .lit (.string [105, 110]), .lit (.string [105, 110, 116]), .lit (.string [108, 97, 116, 101, 110, 99, 121]), .lit (.string [108, 105, 110, 107]), .lit (.string [110, 111, 116]), .lit (.string [110, 111, 119]), .lit (.string [111, 110]), .lit (.string [111, 110, 99, 101]), .lit (.string [111, 114]), .lit (.string [112, 114, 101, 118, 105, 111, 117, 115]), .lit (.string [115, 101, 110, 100]), .lit (.string [115, 105, 110, 99, 101]), .lit (.string [115, 105, 122, 101]), .lit (.string [115, 116, 111, 112]), .lit (.string [115, 116, 111, 114, 101]), .lit (.string [116, 97, 98, 108, 101]), .lit (.string [116, 114, 117, 101]), .lit (.string [118, 97, 114]), .lit (.string [118, 101, 114, 115, 105, 111, 110]), .lit (.string [119, 104, 105, 108, 101])]
def laid_rootcause_lexer_symbols {H : Type} : DataW H := .agg [.lit (.string [46, 46]), .lit (.string [61, 61]), .lit (.string [33, 61]), .lit (.string [60, 61]), .lit (.string [62, 61]), .lit (.string [45, 62]), .lit (.string [123]), .lit (.string [125]), .lit (.string [40]), .lit (.string [41]), .lit (.string [91]), .lit (.string [93]), .lit (.string [44]), .lit (.string [59]), .lit (.string [58]), .lit (.string [46]), .lit (.string [61]), .lit (.string [60]), .lit (.string [62]), .lit (.string [43]), .lit (.string [45]), .lit (.string [42]), .lit (.string [47]), .lit (.string [37]), .lit (.string [95])]
def laid_rootcause_syntax_shapes {H : Type} : DataW H := .agg [.agg [.lit (.int .i64 0), .lit (.bool false), .lit (.int .i64 0), .lit (.string [])], .agg [.lit (.int .i64 0), .lit (.bool false), .lit (.int .i64 7), .lit (.string [])], .agg [.lit (.int .i64 0), .lit (.bool false), .lit (.int .i64 7), .lit (.string [116, 114, 117, 101])], .agg [.lit (.int .i64 0), .lit (.bool false), .lit (.int .i64 7), .lit (.string [102, 97, 108, 115, 101])], .agg [.lit (.int .i64 0), .lit (.bool false), .lit (.int .i64 7), .lit (.string [110, 111, 119])], .agg [.lit (.int .i64 0), .lit (.bool true), .lit (.int .i64 7), .lit (.string [])], .agg [.lit (.int .i64 1), .lit (.bool true), .lit (.int .i64 7), .lit (.string [])], .agg [.lit (.int .i64 1), .lit (.bool true), .lit (.int .i64 7), .lit (.string [104, 97, 115, 32])], .agg [.lit (.int .i64 0), .lit (.bool true), .lit (.int .i64 7), .lit (.string [115, 105, 122, 101, 32])], .agg [.lit (.int .i64 1), .lit (.bool false), .lit (.int .i64 6), .lit (.string [45])], .agg [.lit (.int .i64 1), .lit (.bool false), .lit (.int .i64 6), .lit (.string [110, 111, 116, 32])], .agg [.lit (.int .i64 2), .lit (.bool false), .lit (.int .i64 5), .lit (.string [32, 42, 32])], .agg [.lit (.int .i64 2), .lit (.bool false), .lit (.int .i64 5), .lit (.string [32, 47, 32])], .agg [.lit (.int .i64 2), .lit (.bool false), .lit (.int .i64 5), .lit (.string [32, 37, 32])], .agg [.lit (.int .i64 2), .lit (.bool false), .lit (.int .i64 4), .lit (.string [32, 43, 32])], .agg [.lit (.int .i64 2), .lit (.bool false), .lit (.int .i64 4), .lit (.string [32, 45, 32])], .agg [.lit (.int .i64 2), .lit (.bool false), .lit (.int .i64 3), .lit (.string [32, 61, 61, 32])], .agg [.lit (.int .i64 2), .lit (.bool false), .lit (.int .i64 3), .lit (.string [32, 33, 61, 32])], .agg [.lit (.int .i64 2), .lit (.bool false), .lit (.int .i64 3), .lit (.string [32, 60, 32])], .agg [.lit (.int .i64 2), .lit (.bool false), .lit (.int .i64 3), .lit (.string [32, 60, 61, 32])], .agg [.lit (.int .i64 2), .lit (.bool false), .lit (.int .i64 3), .lit (.string [32, 62, 32])], .agg [.lit (.int .i64 2), .lit (.bool false), .lit (.int .i64 3), .lit (.string [32, 62, 61, 32])], .agg [.lit (.int .i64 2), .lit (.bool false), .lit (.int .i64 2), .lit (.string [32, 97, 110, 100, 32])], .agg [.lit (.int .i64 2), .lit (.bool false), .lit (.int .i64 1), .lit (.string [32, 111, 114, 32])]]
def laid_rootcause_syntax_forms {H : Type} : DataW H := .agg [.agg [.lit (.bool false), .lit (.bool false), .lit (.int .i64 0), .lit (.int .i64 0), .lit (.bool false), .lit (.bool false)], .agg [.lit (.bool true), .lit (.bool false), .lit (.int .i64 1), .lit (.int .i64 1), .lit (.bool false), .lit (.bool false)], .agg [.lit (.bool true), .lit (.bool false), .lit (.int .i64 2), .lit (.int .i64 2), .lit (.bool false), .lit (.bool false)], .agg [.lit (.bool true), .lit (.bool false), .lit (.int .i64 1), .lit (.int .i64 1), .lit (.bool false), .lit (.bool false)], .agg [.lit (.bool false), .lit (.bool false), .lit (.int .i64 1), .lit (.int .i64 1), .lit (.bool true), .lit (.bool true)], .agg [.lit (.bool false), .lit (.bool false), .lit (.int .i64 1), .lit (.int .i64 1), .lit (.bool true), .lit (.bool false)], .agg [.lit (.bool true), .lit (.bool true), .lit (.int .i64 0), .lit (.int .i64 4), .lit (.bool false), .lit (.bool false)], .agg [.lit (.bool false), .lit (.bool true), .lit (.int .i64 1), .lit (.int .i64 5), .lit (.bool false), .lit (.bool false)], .agg [.lit (.bool false), .lit (.bool false), .lit (.int .i64 2), .lit (.int .i64 2), .lit (.bool false), .lit (.bool true)], .agg [.lit (.bool true), .lit (.bool false), .lit (.int .i64 1), .lit (.int .i64 1), .lit (.bool false), .lit (.bool true)], .agg [.lit (.bool false), .lit (.bool false), .lit (.int .i64 0), .lit (.int .i64 0), .lit (.bool false), .lit (.bool false)]]

/-- 'rootcauselaw08.TypesChecks': WHATEVER THE INPUT: true; the input reads as it did. -/
def typesChecksSpec : ChangeSpec := { name := "typesChecks", fn := fun _ => fun
  | [d1, d2] => { results := [.lit (.bool true)], args := [d1, d2] }
  | _ => none }
def typesChecksRow : OpenClaim := { program := "ytohfacbajcenoaagreatdoor", sum := "a366c0b7473af58aa305bb923717b83e0568a4c7e9455c1d7a14969f47845952", func := "rootcause/rootcauselaw08.TypesChecks", spec := "typesChecks", unfollowed := true, recurses := true, named := ["rootcause/lexer.symbols", "rootcause/lexer.words", "rootcause/syntax.forms", "rootcause/syntax.shapes", "internal/strconv.uint64pow10", "math/bits.deBruijn32tab", "math/bits.deBruijn64tab"], apart := false, laid := [("math/bits.deBruijn32tab", laid_math_bits_deBruijn32tab), ("math/bits.deBruijn64tab", laid_math_bits_deBruijn64tab), ("internal/strconv.uint64pow10", laid_internal_strconv_uint64pow10), ("rootcause/lexer.words", laid_rootcause_lexer_words), ("rootcause/lexer.symbols", laid_rootcause_lexer_symbols), ("rootcause/syntax.shapes", laid_rootcause_syntax_shapes), ("rootcause/syntax.forms", laid_rootcause_syntax_forms)] }
def TypesChecksSaid : Prop := typesChecksRow.holds Tryz.pinned (OpenSpec.ofChange typesChecksSpec)

/-- ITS FALSE NEIGHBOUR: 'it returns false'. Refute it at one input. -/
def typesChecksWrong : ChangeSpec := { name := "typesChecks", fn := fun _ => fun
  | [d1, d2] => { results := [.lit (.bool false)], args := [d1, d2] }
  | _ => none }
def TypesChecksWrongFalsely : Prop := typesChecksRow.holds Tryz.pinned (OpenSpec.ofChange typesChecksWrong)

/-- 'rootcauselaw08.TypesRenames': WHATEVER THE INPUT: true; the input reads as it did. -/
def typesRenamesSpec : ChangeSpec := { name := "typesRenames", fn := fun _ => fun
  | [d1, d2] => { results := [.lit (.bool true)], args := [d1, d2] }
  | _ => none }
def typesRenamesRow : OpenClaim := { program := "ytohfacbajcenoaagreatdoor", sum := "a366c0b7473af58aa305bb923717b83e0568a4c7e9455c1d7a14969f47845952", func := "rootcause/rootcauselaw08.TypesRenames", spec := "typesRenames", unfollowed := true, recurses := true, named := ["rootcause/lexer.symbols", "rootcause/lexer.words", "rootcause/syntax.forms", "rootcause/syntax.shapes", "internal/strconv.uint64pow10", "math/bits.deBruijn32tab", "math/bits.deBruijn64tab"], apart := false, laid := [("math/bits.deBruijn32tab", laid_math_bits_deBruijn32tab), ("math/bits.deBruijn64tab", laid_math_bits_deBruijn64tab), ("internal/strconv.uint64pow10", laid_internal_strconv_uint64pow10), ("rootcause/lexer.words", laid_rootcause_lexer_words), ("rootcause/lexer.symbols", laid_rootcause_lexer_symbols), ("rootcause/syntax.shapes", laid_rootcause_syntax_shapes), ("rootcause/syntax.forms", laid_rootcause_syntax_forms)] }
def TypesRenamesSaid : Prop := typesRenamesRow.holds Tryz.pinned (OpenSpec.ofChange typesRenamesSpec)

/-- ITS FALSE NEIGHBOUR: 'it returns false'. Refute it at one input. -/
def typesRenamesWrong : ChangeSpec := { name := "typesRenames", fn := fun _ => fun
  | [d1, d2] => { results := [.lit (.bool false)], args := [d1, d2] }
  | _ => none }
def TypesRenamesWrongFalsely : Prop := typesRenamesRow.holds Tryz.pinned (OpenSpec.ofChange typesRenamesWrong)

/-- 'rootcauselaw08.TypesExprs': WHATEVER THE INPUT: true; the input reads as it did. -/
def typesExprsSpec : ChangeSpec := { name := "typesExprs", fn := fun _ => fun
  | [d1, d2, d3] => { results := [.lit (.bool true)], args := [d1, d2, d3] }
  | _ => none }
def typesExprsRow : OpenClaim := { program := "ytohfacbajcenoaagreatdoor", sum := "a366c0b7473af58aa305bb923717b83e0568a4c7e9455c1d7a14969f47845952", func := "rootcause/rootcauselaw08.TypesExprs", spec := "typesExprs", unfollowed := true, recurses := true, named := ["rootcause/lexer.symbols", "rootcause/lexer.words", "rootcause/syntax.forms", "rootcause/syntax.shapes", "internal/strconv.uint64pow10", "math/bits.deBruijn32tab", "math/bits.deBruijn64tab"], apart := false, laid := [("math/bits.deBruijn32tab", laid_math_bits_deBruijn32tab), ("math/bits.deBruijn64tab", laid_math_bits_deBruijn64tab), ("internal/strconv.uint64pow10", laid_internal_strconv_uint64pow10), ("rootcause/lexer.words", laid_rootcause_lexer_words), ("rootcause/lexer.symbols", laid_rootcause_lexer_symbols), ("rootcause/syntax.shapes", laid_rootcause_syntax_shapes), ("rootcause/syntax.forms", laid_rootcause_syntax_forms)] }
def TypesExprsSaid : Prop := typesExprsRow.holds Tryz.pinned (OpenSpec.ofChange typesExprsSpec)

/-- ITS FALSE NEIGHBOUR: 'it returns false'. Refute it at one input. -/
def typesExprsWrong : ChangeSpec := { name := "typesExprs", fn := fun _ => fun
  | [d1, d2, d3] => { results := [.lit (.bool false)], args := [d1, d2, d3] }
  | _ => none }
def TypesExprsWrongFalsely : Prop := typesExprsRow.holds Tryz.pinned (OpenSpec.ofChange typesExprsWrong)

/-- 'rootcauselaw08.TypesUses': WHATEVER THE INPUT: true; the input reads as it did. -/
def typesUsesSpec : ChangeSpec := { name := "typesUses", fn := fun _ => fun
  | [d1, d2] => { results := [.lit (.bool true)], args := [d1, d2] }
  | _ => none }
def typesUsesRow : OpenClaim := { program := "ytohfacbajcenoaagreatdoor", sum := "a366c0b7473af58aa305bb923717b83e0568a4c7e9455c1d7a14969f47845952", func := "rootcause/rootcauselaw08.TypesUses", spec := "typesUses", unfollowed := true, recurses := true, named := ["rootcause/lexer.symbols", "rootcause/lexer.words", "rootcause/syntax.forms", "rootcause/syntax.shapes", "internal/strconv.uint64pow10", "math/bits.deBruijn32tab", "math/bits.deBruijn64tab"], apart := false, laid := [("math/bits.deBruijn32tab", laid_math_bits_deBruijn32tab), ("math/bits.deBruijn64tab", laid_math_bits_deBruijn64tab), ("internal/strconv.uint64pow10", laid_internal_strconv_uint64pow10), ("rootcause/lexer.words", laid_rootcause_lexer_words), ("rootcause/lexer.symbols", laid_rootcause_lexer_symbols), ("rootcause/syntax.shapes", laid_rootcause_syntax_shapes), ("rootcause/syntax.forms", laid_rootcause_syntax_forms)] }
def TypesUsesSaid : Prop := typesUsesRow.holds Tryz.pinned (OpenSpec.ofChange typesUsesSpec)

/-- ITS FALSE NEIGHBOUR: 'it returns false'. Refute it at one input. -/
def typesUsesWrong : ChangeSpec := { name := "typesUses", fn := fun _ => fun
  | [d1, d2] => { results := [.lit (.bool false)], args := [d1, d2] }
  | _ => none }
def TypesUsesWrongFalsely : Prop := typesUsesRow.holds Tryz.pinned (OpenSpec.ofChange typesUsesWrong)

/- THE SECOND FORM. 'bulk': how many values and letters a reading holds, each counted each time it is reached (what is shared counts as often as it is met; a slice's spare places count too). A statement '..UptoSaid' is the law's where the arguments, and the package variables that the reading takes, are together of bulk at most 1048576: NARROWER than '..Said'. Prove '..Said' where nothing that the law and all that it calls make is longer than what came in: it says more and counts as full. Else prove '..UptoSaid'. A law counts once. -/
mutual
def uptoBulk {H : Type} : DataW H → Nat
  | .lit (.string bytes) => bytes.length + 1
  | .lit _ => 1
  | .nil => 1
  | .ptr d => uptoBulk d + 1
  | .slice elems spare => uptoBulkAll elems + uptoBulkAll spare + 1
  | .agg parts => uptoBulkAll parts + 1
  | .iface _ d => uptoBulk d + 1
  | .map entries => uptoBulkEntries entries + 1
  | .held _ => 1
def uptoBulkAll {H : Type} : List (DataW H) → Nat
  | [] => 0
  | d :: r => uptoBulk d + uptoBulkAll r
def uptoBulkEntries {H : Type} : List (Lit × DataW H) → Nat
  | [] => 0
  | x :: r => uptoBulkEntry x + uptoBulkEntries r
def uptoBulkEntry {H : Type} : Lit × DataW H → Nat
  | (.string bytes, d) => bytes.length + uptoBulk d + 1
  | (_, d) => uptoBulk d + 1
 end
def uptoSmall : (H : Type) → List (DataW H) → Bool := fun _ ds => decide (uptoBulkAll ds ≤ 1048576)
def OpenSpec.upto (s : _root_.Go.ChangeSpec) : _root_.Go.OpenSpec := { _root_.Go.OpenSpec.ofChange s with cond := some uptoSmall }

/-- 'rootcauselaw08.TypesChecks', WHERE WHAT IT READS IS OF BULK AT MOST 1048576: true; the input reads as it did. -/
def typesChecksUptoRow : OpenClaim := { program := "ytohfacbajcenoaagreatdoor", sum := "a366c0b7473af58aa305bb923717b83e0568a4c7e9455c1d7a14969f47845952", func := "rootcause/rootcauselaw08.TypesChecks", spec := "typesChecks", unfollowed := true, recurses := true, named := ["rootcause/lexer.symbols", "rootcause/lexer.words", "rootcause/syntax.forms", "rootcause/syntax.shapes", "internal/strconv.uint64pow10", "math/bits.deBruijn32tab", "math/bits.deBruijn64tab"], apart := false, laid := [("math/bits.deBruijn32tab", laid_math_bits_deBruijn32tab), ("math/bits.deBruijn64tab", laid_math_bits_deBruijn64tab), ("internal/strconv.uint64pow10", laid_internal_strconv_uint64pow10), ("rootcause/lexer.words", laid_rootcause_lexer_words), ("rootcause/lexer.symbols", laid_rootcause_lexer_symbols), ("rootcause/syntax.shapes", laid_rootcause_syntax_shapes), ("rootcause/syntax.forms", laid_rootcause_syntax_forms)], narrowed := true }
def TypesChecksUptoSaid : Prop := typesChecksUptoRow.holds Tryz.pinned (OpenSpec.upto typesChecksSpec)

/-- 'rootcauselaw08.TypesRenames', WHERE WHAT IT READS IS OF BULK AT MOST 1048576: true; the input reads as it did. -/
def typesRenamesUptoRow : OpenClaim := { program := "ytohfacbajcenoaagreatdoor", sum := "a366c0b7473af58aa305bb923717b83e0568a4c7e9455c1d7a14969f47845952", func := "rootcause/rootcauselaw08.TypesRenames", spec := "typesRenames", unfollowed := true, recurses := true, named := ["rootcause/lexer.symbols", "rootcause/lexer.words", "rootcause/syntax.forms", "rootcause/syntax.shapes", "internal/strconv.uint64pow10", "math/bits.deBruijn32tab", "math/bits.deBruijn64tab"], apart := false, laid := [("math/bits.deBruijn32tab", laid_math_bits_deBruijn32tab), ("math/bits.deBruijn64tab", laid_math_bits_deBruijn64tab), ("internal/strconv.uint64pow10", laid_internal_strconv_uint64pow10), ("rootcause/lexer.words", laid_rootcause_lexer_words), ("rootcause/lexer.symbols", laid_rootcause_lexer_symbols), ("rootcause/syntax.shapes", laid_rootcause_syntax_shapes), ("rootcause/syntax.forms", laid_rootcause_syntax_forms)], narrowed := true }
def TypesRenamesUptoSaid : Prop := typesRenamesUptoRow.holds Tryz.pinned (OpenSpec.upto typesRenamesSpec)

/-- 'rootcauselaw08.TypesExprs', WHERE WHAT IT READS IS OF BULK AT MOST 1048576: true; the input reads as it did. -/
def typesExprsUptoRow : OpenClaim := { program := "ytohfacbajcenoaagreatdoor", sum := "a366c0b7473af58aa305bb923717b83e0568a4c7e9455c1d7a14969f47845952", func := "rootcause/rootcauselaw08.TypesExprs", spec := "typesExprs", unfollowed := true, recurses := true, named := ["rootcause/lexer.symbols", "rootcause/lexer.words", "rootcause/syntax.forms", "rootcause/syntax.shapes", "internal/strconv.uint64pow10", "math/bits.deBruijn32tab", "math/bits.deBruijn64tab"], apart := false, laid := [("math/bits.deBruijn32tab", laid_math_bits_deBruijn32tab), ("math/bits.deBruijn64tab", laid_math_bits_deBruijn64tab), ("internal/strconv.uint64pow10", laid_internal_strconv_uint64pow10), ("rootcause/lexer.words", laid_rootcause_lexer_words), ("rootcause/lexer.symbols", laid_rootcause_lexer_symbols), ("rootcause/syntax.shapes", laid_rootcause_syntax_shapes), ("rootcause/syntax.forms", laid_rootcause_syntax_forms)], narrowed := true }
def TypesExprsUptoSaid : Prop := typesExprsUptoRow.holds Tryz.pinned (OpenSpec.upto typesExprsSpec)

/-- 'rootcauselaw08.TypesUses', WHERE WHAT IT READS IS OF BULK AT MOST 1048576: true; the input reads as it did. -/
def typesUsesUptoRow : OpenClaim := { program := "ytohfacbajcenoaagreatdoor", sum := "a366c0b7473af58aa305bb923717b83e0568a4c7e9455c1d7a14969f47845952", func := "rootcause/rootcauselaw08.TypesUses", spec := "typesUses", unfollowed := true, recurses := true, named := ["rootcause/lexer.symbols", "rootcause/lexer.words", "rootcause/syntax.forms", "rootcause/syntax.shapes", "internal/strconv.uint64pow10", "math/bits.deBruijn32tab", "math/bits.deBruijn64tab"], apart := false, laid := [("math/bits.deBruijn32tab", laid_math_bits_deBruijn32tab), ("math/bits.deBruijn64tab", laid_math_bits_deBruijn64tab), ("internal/strconv.uint64pow10", laid_internal_strconv_uint64pow10), ("rootcause/lexer.words", laid_rootcause_lexer_words), ("rootcause/lexer.symbols", laid_rootcause_lexer_symbols), ("rootcause/syntax.shapes", laid_rootcause_syntax_shapes), ("rootcause/syntax.forms", laid_rootcause_syntax_forms)], narrowed := true }
def TypesUsesUptoSaid : Prop := typesUsesUptoRow.holds Tryz.pinned (OpenSpec.upto typesUsesSpec)

end Rows
end Go.Proofs.YtohfacbajcenoaaGreatDoor

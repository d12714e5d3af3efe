/-
  NARROWER THAN 'FOR EVERY INPUT', by the rows' own cells (each row's printed sentence says how): SyntaxChecks: loops, laid · SyntaxPrints: loops, laid · SyntaxParts: loops, laid · SyntaxTexts: loops, laid · SyntaxNests: loops, laid.
  DERIVED. THE GIVEN ROWS OF THIS SEAT. 5 by the template 'for every input the law returns true; each argument reads behind the call as it read before'; 0 by the template 'total and deterministic' (their statements: YthfjkdgaiaokdaaDoorTotals.lean).
  GIVEN WITH THE SEED: the statements are not yours to turn. If you find one false, say at which input.
  Laid BY PROGRAM, IN A SANDBOX (cutbox-rows.mjs): the forced cells as the released guide's own fill.sh prints them over the translation a7c38a563e7c4662… (all of the seat's roots in one cut). By AI agents, Wed Nov 11 2026. No macro, syntax, notation, axiom, sorry.
-/
import Derived.Test.YthfjkdgaiaokdaaDoorChecked
import GoSem.Claim
import GoSem.ClaimJoined
import GoSem.ClaimMapViews
import Derived.JoinedTies
import Derived.KernelRfl
namespace Go.Proofs.YthfjkdgaiaokdaaDoor
/- THE CELL 'sum', in the pinned program and in every row, IS THE sha256 OF THE DUMP (.gsa) THAT YthfjkdgaiaokdaaDoorProg.lean LOADS. Nothing in Lean hashes anything: it is a label: what it is worth is what the hold of that sum in a sandbox is worth. -/
noncomputable def Tryd.pinned : Pinned := { name := "ythfjkdgaiaokdaadoor", sum := "a7c38a563e7c4662e0f488bf9921f19255e980aa7cc9334246bf25677aebf951", checked := Tryd.checked }
namespace Rows
def none {H : Type} : Left H := { results := [], args := [] }

/- WHAT THE LISTED PACKAGE-LEVEL VARIABLES READ AS WHEN THE CALL BEGINS. Each datum BY PROGRAM (the guide's laid-datum.mjs) off the statement by which the dump's own 'gosem.cut.vars' lays the variable. In a bare row this is a premise. The card (YthfjkdgaiaokdaaDoorCards.lean) ties it to the program's text. -/
def laid_math_bits_deBruijn32tab {H : Type} : DataW H := .agg [.lit (.int .u8 0), .lit (.int .u8 1), .lit (.int .u8 28), .lit (.int .u8 2), .lit (.int .u8 29), .lit (.int .u8 14), .lit (.int .u8 24), .lit (.int .u8 3), .lit (.int .u8 30), .lit (.int .u8 22), .lit (.int .u8 20), .lit (.int .u8 15), .lit (.int .u8 25), .lit (.int .u8 17), .lit (.int .u8 4), .lit (.int .u8 8), .lit (.int .u8 31), .lit (.int .u8 27), .lit (.int .u8 13), .lit (.int .u8 23), .lit (.int .u8 21), .lit (.int .u8 19), .lit (.int .u8 16), .lit (.int .u8 7), .lit (.int .u8 26), .lit (.int .u8 12), .lit (.int .u8 18), .lit (.int .u8 6), .lit (.int .u8 11), .lit (.int .u8 5), .lit (.int .u8 10), .lit (.int .u8 9)]
def laid_math_bits_deBruijn64tab {H : Type} : DataW H := .agg [.lit (.int .u8 0), .lit (.int .u8 1), .lit (.int .u8 56), .lit (.int .u8 2), .lit (.int .u8 57), .lit (.int .u8 49), .lit (.int .u8 28), .lit (.int .u8 3), .lit (.int .u8 61), .lit (.int .u8 58), .lit (.int .u8 42), .lit (.int .u8 50), .lit (.int .u8 38), .lit (.int .u8 29), .lit (.int .u8 17), .lit (.int .u8 4), .lit (.int .u8 62), .lit (.int .u8 47), .lit (.int .u8 59), .lit (.int .u8 36), .lit (.int .u8 45), .lit (.int .u8 43), .lit (.int .u8 51), .lit (.int .u8 22), .lit (.int .u8 53), .lit (.int .u8 39), .lit (.int .u8 33), .lit (.int .u8 30), .lit (.int .u8 24), .lit (.int .u8 18), .lit (.int .u8 12), .lit (.int .u8 5), .lit (.int .u8 63), .lit (.int .u8 55), .lit (.int .u8 48), .lit (.int .u8 27), .lit (.int .u8 60), .lit (.int .u8 41), .lit (.int .u8 37), .lit (.int .u8 16), .lit (.int .u8 46), .lit (.int .u8 35), .lit (.int .u8 44), .lit (.int .u8 21), .lit (.int .u8 52), .lit (.int .u8 32), .lit (.int .u8 23), .lit (.int .u8 11), .lit (.int .u8 54), .lit (.int .u8 26), .lit (.int .u8 40), .lit (.int .u8 15), .lit (.int .u8 34), .lit (.int .u8 20), .lit (.int .u8 31), .lit (.int .u8 10), .lit (.int .u8 25), .lit (.int .u8 14), .lit (.int .u8 19), .lit (.int .u8 9), .lit (.int .u8 13), .lit (.int .u8 8), .lit (.int .u8 7), .lit (.int .u8 6)]
def laid_internal_strconv_uint64pow10 {H : Type} : DataW H := .agg [.lit (.int .u64 1), .lit (.int .u64 10), .lit (.int .u64 100), .lit (.int .u64 1000), .lit (.int .u64 10000), .lit (.int .u64 100000), .lit (.int .u64 1000000), .lit (.int .u64 10000000), .lit (.int .u64 100000000), .lit (.int .u64 1000000000), .lit (.int .u64 10000000000), .lit (.int .u64 100000000000), .lit (.int .u64 1000000000000), .lit (.int .u64 10000000000000), .lit (.int .u64 100000000000000), .lit (.int .u64 1000000000000000), .lit (.int .u64 10000000000000000), .lit (.int .u64 100000000000000000), .lit (.int .u64 1000000000000000000), .lit (.int .u64 10000000000000000000)]
def laid_simulcast_lexer_keywords {H : Type} : DataW H := .agg [.lit (.string [97, 98, 111, 114, 116]), .lit (.string [97, 110, 100]), .lit (.string [101, 108, 115, 101]), .lit (.string [102, 97, 108, 115, 101]), .lit (.string [104, 111, 115, 116]), .lit (.string [105, 102]), .lit (.string [108, 101, 116]), .lit (.string [110, 111, 116]), .lit (.string [111, 112]), .lit (.string [111, 114]), .lit (.string [114, 101, 112, 101, 97, 116]), .lit (.string [114, 101, 116, 117, 114, 110]), .lit (.string [115, 116, 111, 114, 101]), .lit (.string [116, 114, 117, 101])]

/-- 'simulcastlaw44.SyntaxChecks': WHATEVER THE INPUT: true; the input reads as it did. -/
def syntaxChecksSpec : ChangeSpec := { name := "syntaxChecks", fn := fun _ => fun
  | [d] => { results := [.lit (.bool true)], args := [d] }
  | _ => none }
def syntaxChecksRow : OpenClaim := { program := "ythfjkdgaiaokdaadoor", sum := "a7c38a563e7c4662e0f488bf9921f19255e980aa7cc9334246bf25677aebf951", func := "simulcast/simulcastlaw44.SyntaxChecks", spec := "syntaxChecks", inPlace := ["internal/abi.NoEscape", "internal/bytealg.MakeNoZero"], unfollowed := true, recurses := true, named := ["simulcast/lexer.keywords", "internal/strconv.uint64pow10", "math/bits.deBruijn32tab", "math/bits.deBruijn64tab"], loops := true, apart := false, laid := [("math/bits.deBruijn32tab", laid_math_bits_deBruijn32tab), ("math/bits.deBruijn64tab", laid_math_bits_deBruijn64tab), ("internal/strconv.uint64pow10", laid_internal_strconv_uint64pow10), ("simulcast/lexer.keywords", laid_simulcast_lexer_keywords)] }
def SyntaxChecksSaid : Prop := syntaxChecksRow.holds Tryd.pinned (OpenSpec.ofChange syntaxChecksSpec)

/-- ITS FALSE NEIGHBOUR: 'it returns false'. Refute it at one input. -/
def syntaxChecksWrong : ChangeSpec := { name := "syntaxChecks", fn := fun _ => fun
  | [d] => { results := [.lit (.bool false)], args := [d] }
  | _ => none }
def SyntaxChecksWrongFalsely : Prop := syntaxChecksRow.holds Tryd.pinned (OpenSpec.ofChange syntaxChecksWrong)

/-- 'simulcastlaw44.SyntaxPrints': WHATEVER THE INPUT: true; the input reads as it did. -/
def syntaxPrintsSpec : ChangeSpec := { name := "syntaxPrints", fn := fun _ => fun
  | [d] => { results := [.lit (.bool true)], args := [d] }
  | _ => none }
def syntaxPrintsRow : OpenClaim := { program := "ythfjkdgaiaokdaadoor", sum := "a7c38a563e7c4662e0f488bf9921f19255e980aa7cc9334246bf25677aebf951", func := "simulcast/simulcastlaw44.SyntaxPrints", spec := "syntaxPrints", inPlace := ["internal/abi.NoEscape", "internal/bytealg.MakeNoZero"], unfollowed := true, recurses := true, named := ["simulcast/lexer.keywords", "internal/strconv.uint64pow10", "math/bits.deBruijn32tab", "math/bits.deBruijn64tab"], loops := true, apart := false, laid := [("math/bits.deBruijn32tab", laid_math_bits_deBruijn32tab), ("math/bits.deBruijn64tab", laid_math_bits_deBruijn64tab), ("internal/strconv.uint64pow10", laid_internal_strconv_uint64pow10), ("simulcast/lexer.keywords", laid_simulcast_lexer_keywords)] }
def SyntaxPrintsSaid : Prop := syntaxPrintsRow.holds Tryd.pinned (OpenSpec.ofChange syntaxPrintsSpec)

/-- ITS FALSE NEIGHBOUR: 'it returns false'. Refute it at one input. -/
def syntaxPrintsWrong : ChangeSpec := { name := "syntaxPrints", fn := fun _ => fun
  | [d] => { results := [.lit (.bool false)], args := [d] }
  | _ => none }
def SyntaxPrintsWrongFalsely : Prop := syntaxPrintsRow.holds Tryd.pinned (OpenSpec.ofChange syntaxPrintsWrong)

/-- 'simulcastlaw44.SyntaxParts': WHATEVER THE INPUT: true; the input reads as it did. -/
def syntaxPartsSpec : ChangeSpec := { name := "syntaxParts", fn := fun _ => fun
  | [d1, d2, d3] => { results := [.lit (.bool true)], args := [d1, d2, d3] }
  | _ => none }
def syntaxPartsRow : OpenClaim := { program := "ythfjkdgaiaokdaadoor", sum := "a7c38a563e7c4662e0f488bf9921f19255e980aa7cc9334246bf25677aebf951", func := "simulcast/simulcastlaw44.SyntaxParts", spec := "syntaxParts", inPlace := ["internal/abi.NoEscape", "internal/bytealg.MakeNoZero"], unfollowed := true, recurses := true, named := ["simulcast/lexer.keywords", "internal/strconv.uint64pow10", "math/bits.deBruijn32tab", "math/bits.deBruijn64tab"], loops := true, apart := false, laid := [("math/bits.deBruijn32tab", laid_math_bits_deBruijn32tab), ("math/bits.deBruijn64tab", laid_math_bits_deBruijn64tab), ("internal/strconv.uint64pow10", laid_internal_strconv_uint64pow10), ("simulcast/lexer.keywords", laid_simulcast_lexer_keywords)] }
def SyntaxPartsSaid : Prop := syntaxPartsRow.holds Tryd.pinned (OpenSpec.ofChange syntaxPartsSpec)

/-- ITS FALSE NEIGHBOUR: 'it returns false'. Refute it at one input. -/
def syntaxPartsWrong : ChangeSpec := { name := "syntaxParts", fn := fun _ => fun
  | [d1, d2, d3] => { results := [.lit (.bool false)], args := [d1, d2, d3] }
  | _ => none }
def SyntaxPartsWrongFalsely : Prop := syntaxPartsRow.holds Tryd.pinned (OpenSpec.ofChange syntaxPartsWrong)

/-- 'simulcastlaw44.SyntaxTexts': WHATEVER THE INPUT: true; the input reads as it did. -/
def syntaxTextsSpec : ChangeSpec := { name := "syntaxTexts", fn := fun _ => fun
  | [d1, d2] => { results := [.lit (.bool true)], args := [d1, d2] }
  | _ => none }
def syntaxTextsRow : OpenClaim := { program := "ythfjkdgaiaokdaadoor", sum := "a7c38a563e7c4662e0f488bf9921f19255e980aa7cc9334246bf25677aebf951", func := "simulcast/simulcastlaw44.SyntaxTexts", spec := "syntaxTexts", inPlace := ["internal/abi.NoEscape", "internal/bytealg.MakeNoZero"], unfollowed := true, recurses := true, named := ["simulcast/lexer.keywords", "internal/strconv.uint64pow10", "math/bits.deBruijn32tab", "math/bits.deBruijn64tab"], loops := true, apart := false, laid := [("math/bits.deBruijn32tab", laid_math_bits_deBruijn32tab), ("math/bits.deBruijn64tab", laid_math_bits_deBruijn64tab), ("internal/strconv.uint64pow10", laid_internal_strconv_uint64pow10), ("simulcast/lexer.keywords", laid_simulcast_lexer_keywords)] }
def SyntaxTextsSaid : Prop := syntaxTextsRow.holds Tryd.pinned (OpenSpec.ofChange syntaxTextsSpec)

/-- ITS FALSE NEIGHBOUR: 'it returns false'. Refute it at one input. -/
def syntaxTextsWrong : ChangeSpec := { name := "syntaxTexts", fn := fun _ => fun
  | [d1, d2] => { results := [.lit (.bool false)], args := [d1, d2] }
  | _ => none }
def SyntaxTextsWrongFalsely : Prop := syntaxTextsRow.holds Tryd.pinned (OpenSpec.ofChange syntaxTextsWrong)

/-- 'simulcastlaw44.SyntaxNests': WHATEVER THE INPUT: true; the input reads as it did. -/
def syntaxNestsSpec : ChangeSpec := { name := "syntaxNests", fn := fun _ => fun
  | [d1, d2] => { results := [.lit (.bool true)], args := [d1, d2] }
  | _ => none }
def syntaxNestsRow : OpenClaim := { program := "ythfjkdgaiaokdaadoor", sum := "a7c38a563e7c4662e0f488bf9921f19255e980aa7cc9334246bf25677aebf951", func := "simulcast/simulcastlaw44.SyntaxNests", spec := "syntaxNests", inPlace := ["internal/abi.NoEscape", "internal/bytealg.MakeNoZero"], unfollowed := true, recurses := true, named := ["simulcast/lexer.keywords", "internal/strconv.uint64pow10", "math/bits.deBruijn32tab", "math/bits.deBruijn64tab"], loops := true, apart := false, laid := [("math/bits.deBruijn32tab", laid_math_bits_deBruijn32tab), ("math/bits.deBruijn64tab", laid_math_bits_deBruijn64tab), ("internal/strconv.uint64pow10", laid_internal_strconv_uint64pow10), ("simulcast/lexer.keywords", laid_simulcast_lexer_keywords)] }
def SyntaxNestsSaid : Prop := syntaxNestsRow.holds Tryd.pinned (OpenSpec.ofChange syntaxNestsSpec)

/-- ITS FALSE NEIGHBOUR: 'it returns false'. Refute it at one input. -/
def syntaxNestsWrong : ChangeSpec := { name := "syntaxNests", fn := fun _ => fun
  | [d1, d2] => { results := [.lit (.bool false)], args := [d1, d2] }
  | _ => none }
def SyntaxNestsWrongFalsely : Prop := syntaxNestsRow.holds Tryd.pinned (OpenSpec.ofChange syntaxNestsWrong)

/- THE SECOND FORM. 'bulk': how many values and letters a reading holds, each counted each time it is reached (what is shared counts as often as it is met; a slice's spare places count too). A statement '..UptoSaid' is the law's where the arguments, and the package variables that the reading takes, are together of bulk at most 1048576: NARROWER than '..Said'. Prove '..Said' where nothing that the law and all that it calls make is longer than what came in: it says more and counts as full. Else prove '..UptoSaid'. A law counts once. -/
mutual
def uptoBulk {H : Type} : DataW H → Nat
  | .lit (.string bytes) => bytes.length + 1
  | .lit _ => 1
  | .nil => 1
  | .ptr d => uptoBulk d + 1
  | .slice elems spare => uptoBulkAll elems + uptoBulkAll spare + 1
  | .agg parts => uptoBulkAll parts + 1
  | .iface _ d => uptoBulk d + 1
  | .map entries => uptoBulkEntries entries + 1
  | .held _ => 1
def uptoBulkAll {H : Type} : List (DataW H) → Nat
  | [] => 0
  | d :: r => uptoBulk d + uptoBulkAll r
def uptoBulkEntries {H : Type} : List (Lit × DataW H) → Nat
  | [] => 0
  | x :: r => uptoBulkEntry x + uptoBulkEntries r
def uptoBulkEntry {H : Type} : Lit × DataW H → Nat
  | (.string bytes, d) => bytes.length + uptoBulk d + 1
  | (_, d) => uptoBulk d + 1
 end
def uptoSmall : (H : Type) → List (DataW H) → Bool := fun _ ds => decide (uptoBulkAll ds ≤ 1048576)
def OpenSpec.upto (s : _root_.Go.ChangeSpec) : _root_.Go.OpenSpec := { _root_.Go.OpenSpec.ofChange s with cond := some uptoSmall }

/-- 'simulcastlaw44.SyntaxChecks', WHERE WHAT IT READS IS OF BULK AT MOST 1048576: true; the input reads as it did. -/
def syntaxChecksUptoRow : OpenClaim := { program := "ythfjkdgaiaokdaadoor", sum := "a7c38a563e7c4662e0f488bf9921f19255e980aa7cc9334246bf25677aebf951", func := "simulcast/simulcastlaw44.SyntaxChecks", spec := "syntaxChecks", inPlace := ["internal/abi.NoEscape", "internal/bytealg.MakeNoZero"], unfollowed := true, recurses := true, named := ["simulcast/lexer.keywords", "internal/strconv.uint64pow10", "math/bits.deBruijn32tab", "math/bits.deBruijn64tab"], loops := true, apart := false, laid := [("math/bits.deBruijn32tab", laid_math_bits_deBruijn32tab), ("math/bits.deBruijn64tab", laid_math_bits_deBruijn64tab), ("internal/strconv.uint64pow10", laid_internal_strconv_uint64pow10), ("simulcast/lexer.keywords", laid_simulcast_lexer_keywords)], narrowed := true }
def SyntaxChecksUptoSaid : Prop := syntaxChecksUptoRow.holds Tryd.pinned (OpenSpec.upto syntaxChecksSpec)

/-- 'simulcastlaw44.SyntaxPrints', WHERE WHAT IT READS IS OF BULK AT MOST 1048576: true; the input reads as it did. -/
def syntaxPrintsUptoRow : OpenClaim := { program := "ythfjkdgaiaokdaadoor", sum := "a7c38a563e7c4662e0f488bf9921f19255e980aa7cc9334246bf25677aebf951", func := "simulcast/simulcastlaw44.SyntaxPrints", spec := "syntaxPrints", inPlace := ["internal/abi.NoEscape", "internal/bytealg.MakeNoZero"], unfollowed := true, recurses := true, named := ["simulcast/lexer.keywords", "internal/strconv.uint64pow10", "math/bits.deBruijn32tab", "math/bits.deBruijn64tab"], loops := true, apart := false, laid := [("math/bits.deBruijn32tab", laid_math_bits_deBruijn32tab), ("math/bits.deBruijn64tab", laid_math_bits_deBruijn64tab), ("internal/strconv.uint64pow10", laid_internal_strconv_uint64pow10), ("simulcast/lexer.keywords", laid_simulcast_lexer_keywords)], narrowed := true }
def SyntaxPrintsUptoSaid : Prop := syntaxPrintsUptoRow.holds Tryd.pinned (OpenSpec.upto syntaxPrintsSpec)

/-- 'simulcastlaw44.SyntaxParts', WHERE WHAT IT READS IS OF BULK AT MOST 1048576: true; the input reads as it did. -/
def syntaxPartsUptoRow : OpenClaim := { program := "ythfjkdgaiaokdaadoor", sum := "a7c38a563e7c4662e0f488bf9921f19255e980aa7cc9334246bf25677aebf951", func := "simulcast/simulcastlaw44.SyntaxParts", spec := "syntaxParts", inPlace := ["internal/abi.NoEscape", "internal/bytealg.MakeNoZero"], unfollowed := true, recurses := true, named := ["simulcast/lexer.keywords", "internal/strconv.uint64pow10", "math/bits.deBruijn32tab", "math/bits.deBruijn64tab"], loops := true, apart := false, laid := [("math/bits.deBruijn32tab", laid_math_bits_deBruijn32tab), ("math/bits.deBruijn64tab", laid_math_bits_deBruijn64tab), ("internal/strconv.uint64pow10", laid_internal_strconv_uint64pow10), ("simulcast/lexer.keywords", laid_simulcast_lexer_keywords)], narrowed := true }
def SyntaxPartsUptoSaid : Prop := syntaxPartsUptoRow.holds Tryd.pinned (OpenSpec.upto syntaxPartsSpec)

/-- 'simulcastlaw44.SyntaxTexts', WHERE WHAT IT READS IS OF BULK AT MOST 1048576: true; the input reads as it did. -/
def syntaxTextsUptoRow : OpenClaim := { program := "ythfjkdgaiaokdaadoor", sum := "a7c38a563e7c4662e0f488bf9921f19255e980aa7cc9334246bf25677aebf951", func := "simulcast/simulcastlaw44.SyntaxTexts", spec := "syntaxTexts", inPlace := ["internal/abi.NoEscape", "internal/bytealg.MakeNoZero"], unfollowed := true, recurses := true, named := ["simulcast/lexer.keywords", "internal/strconv.uint64pow10", "math/bits.deBruijn32tab", "math/bits.deBruijn64tab"], loops := true, apart := false, laid := [("math/bits.deBruijn32tab", laid_math_bits_deBruijn32tab), ("math/bits.deBruijn64tab", laid_math_bits_deBruijn64tab), ("internal/strconv.uint64pow10", laid_internal_strconv_uint64pow10), ("simulcast/lexer.keywords", laid_simulcast_lexer_keywords)], narrowed := true }
def SyntaxTextsUptoSaid : Prop := syntaxTextsUptoRow.holds Tryd.pinned (OpenSpec.upto syntaxTextsSpec)

/-- 'simulcastlaw44.SyntaxNests', WHERE WHAT IT READS IS OF BULK AT MOST 1048576: true; the input reads as it did. -/
def syntaxNestsUptoRow : OpenClaim := { program := "ythfjkdgaiaokdaadoor", sum := "a7c38a563e7c4662e0f488bf9921f19255e980aa7cc9334246bf25677aebf951", func := "simulcast/simulcastlaw44.SyntaxNests", spec := "syntaxNests", inPlace := ["internal/abi.NoEscape", "internal/bytealg.MakeNoZero"], unfollowed := true, recurses := true, named := ["simulcast/lexer.keywords", "internal/strconv.uint64pow10", "math/bits.deBruijn32tab", "math/bits.deBruijn64tab"], loops := true, apart := false, laid := [("math/bits.deBruijn32tab", laid_math_bits_deBruijn32tab), ("math/bits.deBruijn64tab", laid_math_bits_deBruijn64tab), ("internal/strconv.uint64pow10", laid_internal_strconv_uint64pow10), ("simulcast/lexer.keywords", laid_simulcast_lexer_keywords)], narrowed := true }
def SyntaxNestsUptoSaid : Prop := syntaxNestsUptoRow.holds Tryd.pinned (OpenSpec.upto syntaxNestsSpec)

end Rows
end Go.Proofs.YthfjkdgaiaokdaaDoor

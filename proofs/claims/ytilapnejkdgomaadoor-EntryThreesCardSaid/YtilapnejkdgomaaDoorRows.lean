/-
  NARROWER THAN 'FOR EVERY INPUT', by the rows' own cells (each row's printed sentence says how): EntryChecks: laid · EntryTexts: laid · EntryMerges: laid · EntryThrees: laid · EntryKinds: laid · EntryNone: laid · EntrySorts: laid.
  DERIVED. THE GIVEN ROWS OF THIS SEAT. 7 by the template 'for every input the law returns true; each argument reads behind the call as it read before'; 0 by the template 'total and deterministic' (their statements: YtilapnejkdgomaaDoorTotals.lean).
  GIVEN WITH THE SEED: the statements are not yours to turn. If you find one false, say at which input.
  Laid BY PROGRAM, IN A SANDBOX (cutbox-rows.mjs): the forced cells as the released guide's own fill.sh prints them over the translation 542056b830cadc7f… (all of the seat's roots in one cut). By AI agents, Wed Nov 11 2026. No macro, syntax, notation, axiom, sorry.
-/
import Derived.Test.YtilapnejkdgomaaDoorChecked
import GoSem.Claim
import GoSem.ClaimJoined
import GoSem.ClaimMapViews
import Derived.JoinedTies
import Derived.KernelRfl
namespace Go.Proofs.YtilapnejkdgomaaDoor
/- THE CELL 'sum', in the pinned program and in every row, IS THE sha256 OF THE DUMP (.gsa) THAT YtilapnejkdgomaaDoorProg.lean LOADS. Nothing in Lean hashes anything: it is a label: what it is worth is what the hold of that sum in a sandbox is worth. -/
noncomputable def Tryd.pinned : Pinned := { name := "ytilapnejkdgomaadoor", sum := "542056b830cadc7f05f6e79878d311f8959feb3cde2ab6c0f2eaf48eb3d4c30b", checked := Tryd.checked }
namespace Rows
def none {H : Type} : Left H := { results := [], args := [] }

/- WHAT THE LISTED PACKAGE-LEVEL VARIABLES READ AS WHEN THE CALL BEGINS. Each datum BY PROGRAM (the guide's laid-datum.mjs) off the statement by which the dump's own 'gosem.cut.vars' lays the variable. In a bare row this is a premise. The card (YtilapnejkdgomaaDoorCards.lean) ties it to the program's text. -/
def laid_math_bits_deBruijn32tab {H : Type} : DataW H := .agg [.lit (.int .u8 0), .lit (.int .u8 1), .lit (.int .u8 28), .lit (.int .u8 2), .lit (.int .u8 29), .lit (.int .u8 14), .lit (.int .u8 24), .lit (.int .u8 3), .lit (.int .u8 30), .lit (.int .u8 22), .lit (.int .u8 20), .lit (.int .u8 15), .lit (.int .u8 25), .lit (.int .u8 17), .lit (.int .u8 4), .lit (.int .u8 8), .lit (.int .u8 31), .lit (.int .u8 27), .lit (.int .u8 13), .lit (.int .u8 23), .lit (.int .u8 21), .lit (.int .u8 19), .lit (.int .u8 16), .lit (.int .u8 7), .lit (.int .u8 26), .lit (.int .u8 12), .lit (.int .u8 18), .lit (.int .u8 6), .lit (.int .u8 11), .lit (.int .u8 5), .lit (.int .u8 10), .lit (.int .u8 9)]
def laid_math_bits_deBruijn64tab {H : Type} : DataW H := .agg [.lit (.int .u8 0), .lit (.int .u8 1), .lit (.int .u8 56), .lit (.int .u8 2), .lit (.int .u8 57), .lit (.int .u8 49), .lit (.int .u8 28), .lit (.int .u8 3), .lit (.int .u8 61), .lit (.int .u8 58), .lit (.int .u8 42), .lit (.int .u8 50), .lit (.int .u8 38), .lit (.int .u8 29), .lit (.int .u8 17), .lit (.int .u8 4), .lit (.int .u8 62), .lit (.int .u8 47), .lit (.int .u8 59), .lit (.int .u8 36), .lit (.int .u8 45), .lit (.int .u8 43), .lit (.int .u8 51), .lit (.int .u8 22), .lit (.int .u8 53), .lit (.int .u8 39), .lit (.int .u8 33), .lit (.int .u8 30), .lit (.int .u8 24), .lit (.int .u8 18), .lit (.int .u8 12), .lit (.int .u8 5), .lit (.int .u8 63), .lit (.int .u8 55), .lit (.int .u8 48), .lit (.int .u8 27), .lit (.int .u8 60), .lit (.int .u8 41), .lit (.int .u8 37), .lit (.int .u8 16), .lit (.int .u8 46), .lit (.int .u8 35), .lit (.int .u8 44), .lit (.int .u8 21), .lit (.int .u8 52), .lit (.int .u8 32), .lit (.int .u8 23), .lit (.int .u8 11), .lit (.int .u8 54), .lit (.int .u8 26), .lit (.int .u8 40), .lit (.int .u8 15), .lit (.int .u8 34), .lit (.int .u8 20), .lit (.int .u8 31), .lit (.int .u8 10), .lit (.int .u8 25), .lit (.int .u8 14), .lit (.int .u8 19), .lit (.int .u8 9), .lit (.int .u8 13), .lit (.int .u8 8), .lit (.int .u8 7), .lit (.int .u8 6)]
def laid_internal_strconv_uint64pow10 {H : Type} : DataW H := .agg [.lit (.int .u64 1), .lit (.int .u64 10), .lit (.int .u64 100), .lit (.int .u64 1000), .lit (.int .u64 10000), .lit (.int .u64 100000), .lit (.int .u64 1000000), .lit (.int .u64 10000000), .lit (.int .u64 100000000), .lit (.int .u64 1000000000), .lit (.int .u64 10000000000), .lit (.int .u64 100000000000), .lit (.int .u64 1000000000000), .lit (.int .u64 10000000000000), .lit (.int .u64 100000000000000), .lit (.int .u64 1000000000000000), .lit (.int .u64 10000000000000000), .lit (.int .u64 100000000000000000), .lit (.int .u64 1000000000000000000), .lit (.int .u64 10000000000000000000)]

/-- 'simulcastlaw17.EntryChecks': WHATEVER THE INPUT: true; the input reads as it did. -/
def entryChecksSpec : ChangeSpec := { name := "entryChecks", fn := fun _ => fun
  | [d] => { results := [.lit (.bool true)], args := [d] }
  | _ => none }
def entryChecksRow : OpenClaim := { program := "ytilapnejkdgomaadoor", sum := "542056b830cadc7f05f6e79878d311f8959feb3cde2ab6c0f2eaf48eb3d4c30b", func := "simulcast/simulcastlaw17.EntryChecks", spec := "entryChecks", inPlace := ["slices.overlaps[simulcast/api.Entry]", "internal/abi.NoEscape", "internal/bytealg.MakeNoZero"], unfollowed := true, recurses := true, named := ["internal/strconv.uint64pow10", "math/bits.deBruijn32tab", "math/bits.deBruijn64tab"], apart := false, laid := [("math/bits.deBruijn32tab", laid_math_bits_deBruijn32tab), ("math/bits.deBruijn64tab", laid_math_bits_deBruijn64tab), ("internal/strconv.uint64pow10", laid_internal_strconv_uint64pow10)] }
def EntryChecksSaid : Prop := entryChecksRow.holds Tryd.pinned (OpenSpec.ofChange entryChecksSpec)

/-- ITS FALSE NEIGHBOUR: 'it returns false'. Refute it at one input. -/
def entryChecksWrong : ChangeSpec := { name := "entryChecks", fn := fun _ => fun
  | [d] => { results := [.lit (.bool false)], args := [d] }
  | _ => none }
def EntryChecksWrongFalsely : Prop := entryChecksRow.holds Tryd.pinned (OpenSpec.ofChange entryChecksWrong)

/-- 'simulcastlaw17.EntryTexts': WHATEVER THE INPUT: true; the input reads as it did. -/
def entryTextsSpec : ChangeSpec := { name := "entryTexts", fn := fun _ => fun
  | [d] => { results := [.lit (.bool true)], args := [d] }
  | _ => none }
def entryTextsRow : OpenClaim := { program := "ytilapnejkdgomaadoor", sum := "542056b830cadc7f05f6e79878d311f8959feb3cde2ab6c0f2eaf48eb3d4c30b", func := "simulcast/simulcastlaw17.EntryTexts", spec := "entryTexts", inPlace := ["slices.overlaps[simulcast/api.Entry]", "internal/abi.NoEscape", "internal/bytealg.MakeNoZero"], unfollowed := true, recurses := true, named := ["internal/strconv.uint64pow10", "math/bits.deBruijn32tab", "math/bits.deBruijn64tab"], apart := false, laid := [("math/bits.deBruijn32tab", laid_math_bits_deBruijn32tab), ("math/bits.deBruijn64tab", laid_math_bits_deBruijn64tab), ("internal/strconv.uint64pow10", laid_internal_strconv_uint64pow10)] }
def EntryTextsSaid : Prop := entryTextsRow.holds Tryd.pinned (OpenSpec.ofChange entryTextsSpec)

/-- ITS FALSE NEIGHBOUR: 'it returns false'. Refute it at one input. -/
def entryTextsWrong : ChangeSpec := { name := "entryTexts", fn := fun _ => fun
  | [d] => { results := [.lit (.bool false)], args := [d] }
  | _ => none }
def EntryTextsWrongFalsely : Prop := entryTextsRow.holds Tryd.pinned (OpenSpec.ofChange entryTextsWrong)

/-- 'simulcastlaw17.EntryMerges': WHATEVER THE INPUT: true; the input reads as it did. -/
def entryMergesSpec : ChangeSpec := { name := "entryMerges", fn := fun _ => fun
  | [d1, d2] => { results := [.lit (.bool true)], args := [d1, d2] }
  | _ => none }
def entryMergesRow : OpenClaim := { program := "ytilapnejkdgomaadoor", sum := "542056b830cadc7f05f6e79878d311f8959feb3cde2ab6c0f2eaf48eb3d4c30b", func := "simulcast/simulcastlaw17.EntryMerges", spec := "entryMerges", inPlace := ["slices.overlaps[simulcast/api.Entry]", "internal/abi.NoEscape", "internal/bytealg.MakeNoZero"], unfollowed := true, recurses := true, named := ["internal/strconv.uint64pow10", "math/bits.deBruijn32tab", "math/bits.deBruijn64tab"], apart := false, laid := [("math/bits.deBruijn32tab", laid_math_bits_deBruijn32tab), ("math/bits.deBruijn64tab", laid_math_bits_deBruijn64tab), ("internal/strconv.uint64pow10", laid_internal_strconv_uint64pow10)] }
def EntryMergesSaid : Prop := entryMergesRow.holds Tryd.pinned (OpenSpec.ofChange entryMergesSpec)

/-- ITS FALSE NEIGHBOUR: 'it returns false'. Refute it at one input. -/
def entryMergesWrong : ChangeSpec := { name := "entryMerges", fn := fun _ => fun
  | [d1, d2] => { results := [.lit (.bool false)], args := [d1, d2] }
  | _ => none }
def EntryMergesWrongFalsely : Prop := entryMergesRow.holds Tryd.pinned (OpenSpec.ofChange entryMergesWrong)

/-- 'simulcastlaw17.EntryThrees': WHATEVER THE INPUT: true; the input reads as it did. -/
def entryThreesSpec : ChangeSpec := { name := "entryThrees", fn := fun _ => fun
  | [d] => { results := [.lit (.bool true)], args := [d] }
  | _ => none }
def entryThreesRow : OpenClaim := { program := "ytilapnejkdgomaadoor", sum := "542056b830cadc7f05f6e79878d311f8959feb3cde2ab6c0f2eaf48eb3d4c30b", func := "simulcast/simulcastlaw17.EntryThrees", spec := "entryThrees", inPlace := ["slices.overlaps[simulcast/api.Entry]", "internal/abi.NoEscape", "internal/bytealg.MakeNoZero"], unfollowed := true, recurses := true, named := ["internal/strconv.uint64pow10", "math/bits.deBruijn32tab", "math/bits.deBruijn64tab"], apart := false, laid := [("math/bits.deBruijn32tab", laid_math_bits_deBruijn32tab), ("math/bits.deBruijn64tab", laid_math_bits_deBruijn64tab), ("internal/strconv.uint64pow10", laid_internal_strconv_uint64pow10)] }
def EntryThreesSaid : Prop := entryThreesRow.holds Tryd.pinned (OpenSpec.ofChange entryThreesSpec)

/-- ITS FALSE NEIGHBOUR: 'it returns false'. Refute it at one input. -/
def entryThreesWrong : ChangeSpec := { name := "entryThrees", fn := fun _ => fun
  | [d] => { results := [.lit (.bool false)], args := [d] }
  | _ => none }
def EntryThreesWrongFalsely : Prop := entryThreesRow.holds Tryd.pinned (OpenSpec.ofChange entryThreesWrong)

/-- 'simulcastlaw17.EntryKinds': WHATEVER THE INPUT: true; the input reads as it did. -/
def entryKindsSpec : ChangeSpec := { name := "entryKinds", fn := fun _ => fun
  | [d1, d2] => { results := [.lit (.bool true)], args := [d1, d2] }
  | _ => none }
def entryKindsRow : OpenClaim := { program := "ytilapnejkdgomaadoor", sum := "542056b830cadc7f05f6e79878d311f8959feb3cde2ab6c0f2eaf48eb3d4c30b", func := "simulcast/simulcastlaw17.EntryKinds", spec := "entryKinds", inPlace := ["slices.overlaps[simulcast/api.Entry]", "internal/abi.NoEscape", "internal/bytealg.MakeNoZero"], unfollowed := true, recurses := true, named := ["internal/strconv.uint64pow10", "math/bits.deBruijn32tab", "math/bits.deBruijn64tab"], apart := false, laid := [("math/bits.deBruijn32tab", laid_math_bits_deBruijn32tab), ("math/bits.deBruijn64tab", laid_math_bits_deBruijn64tab), ("internal/strconv.uint64pow10", laid_internal_strconv_uint64pow10)] }
def EntryKindsSaid : Prop := entryKindsRow.holds Tryd.pinned (OpenSpec.ofChange entryKindsSpec)

/-- ITS FALSE NEIGHBOUR: 'it returns false'. Refute it at one input. -/
def entryKindsWrong : ChangeSpec := { name := "entryKinds", fn := fun _ => fun
  | [d1, d2] => { results := [.lit (.bool false)], args := [d1, d2] }
  | _ => none }
def EntryKindsWrongFalsely : Prop := entryKindsRow.holds Tryd.pinned (OpenSpec.ofChange entryKindsWrong)

/-- 'simulcastlaw17.EntryNone': WHATEVER THE INPUT: true; the input reads as it did. -/
def entryNoneSpec : ChangeSpec := { name := "entryNone", fn := fun _ => fun
  | [d] => { results := [.lit (.bool true)], args := [d] }
  | _ => none }
def entryNoneRow : OpenClaim := { program := "ytilapnejkdgomaadoor", sum := "542056b830cadc7f05f6e79878d311f8959feb3cde2ab6c0f2eaf48eb3d4c30b", func := "simulcast/simulcastlaw17.EntryNone", spec := "entryNone", inPlace := ["slices.overlaps[simulcast/api.Entry]", "internal/abi.NoEscape", "internal/bytealg.MakeNoZero"], unfollowed := true, recurses := true, named := ["internal/strconv.uint64pow10", "math/bits.deBruijn32tab", "math/bits.deBruijn64tab"], apart := false, laid := [("math/bits.deBruijn32tab", laid_math_bits_deBruijn32tab), ("math/bits.deBruijn64tab", laid_math_bits_deBruijn64tab), ("internal/strconv.uint64pow10", laid_internal_strconv_uint64pow10)] }
def EntryNoneSaid : Prop := entryNoneRow.holds Tryd.pinned (OpenSpec.ofChange entryNoneSpec)

/-- ITS FALSE NEIGHBOUR: 'it returns false'. Refute it at one input. -/
def entryNoneWrong : ChangeSpec := { name := "entryNone", fn := fun _ => fun
  | [d] => { results := [.lit (.bool false)], args := [d] }
  | _ => none }
def EntryNoneWrongFalsely : Prop := entryNoneRow.holds Tryd.pinned (OpenSpec.ofChange entryNoneWrong)

/-- 'simulcastlaw17.EntrySorts': WHATEVER THE INPUT: true; the input reads as it did. -/
def entrySortsSpec : ChangeSpec := { name := "entrySorts", fn := fun _ => fun
  | [d] => { results := [.lit (.bool true)], args := [d] }
  | _ => none }
def entrySortsRow : OpenClaim := { program := "ytilapnejkdgomaadoor", sum := "542056b830cadc7f05f6e79878d311f8959feb3cde2ab6c0f2eaf48eb3d4c30b", func := "simulcast/simulcastlaw17.EntrySorts", spec := "entrySorts", inPlace := ["slices.overlaps[simulcast/api.Entry]", "internal/abi.NoEscape", "internal/bytealg.MakeNoZero"], unfollowed := true, recurses := true, named := ["internal/strconv.uint64pow10", "math/bits.deBruijn32tab", "math/bits.deBruijn64tab"], apart := false, laid := [("math/bits.deBruijn32tab", laid_math_bits_deBruijn32tab), ("math/bits.deBruijn64tab", laid_math_bits_deBruijn64tab), ("internal/strconv.uint64pow10", laid_internal_strconv_uint64pow10)] }
def EntrySortsSaid : Prop := entrySortsRow.holds Tryd.pinned (OpenSpec.ofChange entrySortsSpec)

/-- ITS FALSE NEIGHBOUR: 'it returns false'. Refute it at one input. -/
def entrySortsWrong : ChangeSpec := { name := "entrySorts", fn := fun _ => fun
  | [d] => { results := [.lit (.bool false)], args := [d] }
  | _ => none }
def EntrySortsWrongFalsely : Prop := entrySortsRow.holds Tryd.pinned (OpenSpec.ofChange entrySortsWrong)

/- THE SECOND FORM. 'bulk': how many values and letters a reading holds, each counted each time it is reached (what is shared counts as often as it is met; a slice's spare places count too). A statement '..UptoSaid' is the law's where the arguments, and the package variables that the reading takes, are together of bulk at most 1048576: NARROWER than '..Said'. Prove '..Said' where nothing that the law and all that it calls make is longer than what came in: it says more and counts as full. Else prove '..UptoSaid'. A law counts once. -/
mutual
def uptoBulk {H : Type} : DataW H → Nat
  | .lit (.string bytes) => bytes.length + 1
  | .lit _ => 1
  | .nil => 1
  | .ptr d => uptoBulk d + 1
  | .slice elems spare => uptoBulkAll elems + uptoBulkAll spare + 1
  | .agg parts => uptoBulkAll parts + 1
  | .iface _ d => uptoBulk d + 1
  | .map entries => uptoBulkEntries entries + 1
  | .held _ => 1
def uptoBulkAll {H : Type} : List (DataW H) → Nat
  | [] => 0
  | d :: r => uptoBulk d + uptoBulkAll r
def uptoBulkEntries {H : Type} : List (Lit × DataW H) → Nat
  | [] => 0
  | x :: r => uptoBulkEntry x + uptoBulkEntries r
def uptoBulkEntry {H : Type} : Lit × DataW H → Nat
  | (.string bytes, d) => bytes.length + uptoBulk d + 1
  | (_, d) => uptoBulk d + 1
 end
def uptoSmall : (H : Type) → List (DataW H) → Bool := fun _ ds => decide (uptoBulkAll ds ≤ 1048576)
def OpenSpec.upto (s : _root_.Go.ChangeSpec) : _root_.Go.OpenSpec := { _root_.Go.OpenSpec.ofChange s with cond := some uptoSmall }

/-- 'simulcastlaw17.EntryChecks', WHERE WHAT IT READS IS OF BULK AT MOST 1048576: true; the input reads as it did. -/
def entryChecksUptoRow : OpenClaim := { program := "ytilapnejkdgomaadoor", sum := "542056b830cadc7f05f6e79878d311f8959feb3cde2ab6c0f2eaf48eb3d4c30b", func := "simulcast/simulcastlaw17.EntryChecks", spec := "entryChecks", inPlace := ["slices.overlaps[simulcast/api.Entry]", "internal/abi.NoEscape", "internal/bytealg.MakeNoZero"], unfollowed := true, recurses := true, named := ["internal/strconv.uint64pow10", "math/bits.deBruijn32tab", "math/bits.deBruijn64tab"], apart := false, laid := [("math/bits.deBruijn32tab", laid_math_bits_deBruijn32tab), ("math/bits.deBruijn64tab", laid_math_bits_deBruijn64tab), ("internal/strconv.uint64pow10", laid_internal_strconv_uint64pow10)], narrowed := true }
def EntryChecksUptoSaid : Prop := entryChecksUptoRow.holds Tryd.pinned (OpenSpec.upto entryChecksSpec)

/-- 'simulcastlaw17.EntryTexts', WHERE WHAT IT READS IS OF BULK AT MOST 1048576: true; the input reads as it did. -/
def entryTextsUptoRow : OpenClaim := { program := "ytilapnejkdgomaadoor", sum := "542056b830cadc7f05f6e79878d311f8959feb3cde2ab6c0f2eaf48eb3d4c30b", func := "simulcast/simulcastlaw17.EntryTexts", spec := "entryTexts", inPlace := ["slices.overlaps[simulcast/api.Entry]", "internal/abi.NoEscape", "internal/bytealg.MakeNoZero"], unfollowed := true, recurses := true, named := ["internal/strconv.uint64pow10", "math/bits.deBruijn32tab", "math/bits.deBruijn64tab"], apart := false, laid := [("math/bits.deBruijn32tab", laid_math_bits_deBruijn32tab), ("math/bits.deBruijn64tab", laid_math_bits_deBruijn64tab), ("internal/strconv.uint64pow10", laid_internal_strconv_uint64pow10)], narrowed := true }
def EntryTextsUptoSaid : Prop := entryTextsUptoRow.holds Tryd.pinned (OpenSpec.upto entryTextsSpec)

/-- 'simulcastlaw17.EntryMerges', WHERE WHAT IT READS IS OF BULK AT MOST 1048576: true; the input reads as it did. -/
def entryMergesUptoRow : OpenClaim := { program := "ytilapnejkdgomaadoor", sum := "542056b830cadc7f05f6e79878d311f8959feb3cde2ab6c0f2eaf48eb3d4c30b", func := "simulcast/simulcastlaw17.EntryMerges", spec := "entryMerges", inPlace := ["slices.overlaps[simulcast/api.Entry]", "internal/abi.NoEscape", "internal/bytealg.MakeNoZero"], unfollowed := true, recurses := true, named := ["internal/strconv.uint64pow10", "math/bits.deBruijn32tab", "math/bits.deBruijn64tab"], apart := false, laid := [("math/bits.deBruijn32tab", laid_math_bits_deBruijn32tab), ("math/bits.deBruijn64tab", laid_math_bits_deBruijn64tab), ("internal/strconv.uint64pow10", laid_internal_strconv_uint64pow10)], narrowed := true }
def EntryMergesUptoSaid : Prop := entryMergesUptoRow.holds Tryd.pinned (OpenSpec.upto entryMergesSpec)

/-- 'simulcastlaw17.EntryThrees', WHERE WHAT IT READS IS OF BULK AT MOST 1048576: true; the input reads as it did. -/
def entryThreesUptoRow : OpenClaim := { program := "ytilapnejkdgomaadoor", sum := "542056b830cadc7f05f6e79878d311f8959feb3cde2ab6c0f2eaf48eb3d4c30b", func := "simulcast/simulcastlaw17.EntryThrees", spec := "entryThrees", inPlace := ["slices.overlaps[simulcast/api.Entry]", "internal/abi.NoEscape", "internal/bytealg.MakeNoZero"], unfollowed := true, recurses := true, named := ["internal/strconv.uint64pow10", "math/bits.deBruijn32tab", "math/bits.deBruijn64tab"], apart := false, laid := [("math/bits.deBruijn32tab", laid_math_bits_deBruijn32tab), ("math/bits.deBruijn64tab", laid_math_bits_deBruijn64tab), ("internal/strconv.uint64pow10", laid_internal_strconv_uint64pow10)], narrowed := true }
def EntryThreesUptoSaid : Prop := entryThreesUptoRow.holds Tryd.pinned (OpenSpec.upto entryThreesSpec)

/-- 'simulcastlaw17.EntryKinds', WHERE WHAT IT READS IS OF BULK AT MOST 1048576: true; the input reads as it did. -/
def entryKindsUptoRow : OpenClaim := { program := "ytilapnejkdgomaadoor", sum := "542056b830cadc7f05f6e79878d311f8959feb3cde2ab6c0f2eaf48eb3d4c30b", func := "simulcast/simulcastlaw17.EntryKinds", spec := "entryKinds", inPlace := ["slices.overlaps[simulcast/api.Entry]", "internal/abi.NoEscape", "internal/bytealg.MakeNoZero"], unfollowed := true, recurses := true, named := ["internal/strconv.uint64pow10", "math/bits.deBruijn32tab", "math/bits.deBruijn64tab"], apart := false, laid := [("math/bits.deBruijn32tab", laid_math_bits_deBruijn32tab), ("math/bits.deBruijn64tab", laid_math_bits_deBruijn64tab), ("internal/strconv.uint64pow10", laid_internal_strconv_uint64pow10)], narrowed := true }
def EntryKindsUptoSaid : Prop := entryKindsUptoRow.holds Tryd.pinned (OpenSpec.upto entryKindsSpec)

/-- 'simulcastlaw17.EntryNone', WHERE WHAT IT READS IS OF BULK AT MOST 1048576: true; the input reads as it did. -/
def entryNoneUptoRow : OpenClaim := { program := "ytilapnejkdgomaadoor", sum := "542056b830cadc7f05f6e79878d311f8959feb3cde2ab6c0f2eaf48eb3d4c30b", func := "simulcast/simulcastlaw17.EntryNone", spec := "entryNone", inPlace := ["slices.overlaps[simulcast/api.Entry]", "internal/abi.NoEscape", "internal/bytealg.MakeNoZero"], unfollowed := true, recurses := true, named := ["internal/strconv.uint64pow10", "math/bits.deBruijn32tab", "math/bits.deBruijn64tab"], apart := false, laid := [("math/bits.deBruijn32tab", laid_math_bits_deBruijn32tab), ("math/bits.deBruijn64tab", laid_math_bits_deBruijn64tab), ("internal/strconv.uint64pow10", laid_internal_strconv_uint64pow10)], narrowed := true }
def EntryNoneUptoSaid : Prop := entryNoneUptoRow.holds Tryd.pinned (OpenSpec.upto entryNoneSpec)

/-- 'simulcastlaw17.EntrySorts', WHERE WHAT IT READS IS OF BULK AT MOST 1048576: true; the input reads as it did. -/
def entrySortsUptoRow : OpenClaim := { program := "ytilapnejkdgomaadoor", sum := "542056b830cadc7f05f6e79878d311f8959feb3cde2ab6c0f2eaf48eb3d4c30b", func := "simulcast/simulcastlaw17.EntrySorts", spec := "entrySorts", inPlace := ["slices.overlaps[simulcast/api.Entry]", "internal/abi.NoEscape", "internal/bytealg.MakeNoZero"], unfollowed := true, recurses := true, named := ["internal/strconv.uint64pow10", "math/bits.deBruijn32tab", "math/bits.deBruijn64tab"], apart := false, laid := [("math/bits.deBruijn32tab", laid_math_bits_deBruijn32tab), ("math/bits.deBruijn64tab", laid_math_bits_deBruijn64tab), ("internal/strconv.uint64pow10", laid_internal_strconv_uint64pow10)], narrowed := true }
def EntrySortsUptoSaid : Prop := entrySortsUptoRow.holds Tryd.pinned (OpenSpec.upto entrySortsSpec)

end Rows
end Go.Proofs.YtilapnejkdgomaaDoor

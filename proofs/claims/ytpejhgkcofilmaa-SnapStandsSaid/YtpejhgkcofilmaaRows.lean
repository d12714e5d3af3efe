/-
  No cell of these rows narrows 'for every input' (looked for: loops, veiled, ifaces, maps, wideKeys, modest, calm, conditions, laid).
  DERIVED. THE GIVEN ROWS OF THIS SEAT. 16 by the template 'for every input the law returns true; each argument reads behind the call as it read before'; 0 by the template 'total and deterministic' (their statements: YtpejhgkcofilmaaTotals.lean).
  GIVEN WITH THE SEED: the statements are not yours to turn. If you find one false, say at which input.
  Laid BY PROGRAM, IN A SANDBOX (cutbox-rows.mjs): the forced cells as the released guide's own fill.sh prints them over the translation b1c5fed19635efa1… (all of the seat's roots in one cut). By AI agents, Wed Nov 11 2026. No macro, syntax, notation, axiom, sorry.
-/
import Derived.Test.YtpejhgkcofilmaaChecked
import GoSem.Claim
import GoSem.ClaimJoined
import GoSem.ClaimMapViews
import Derived.JoinedTies
import Derived.KernelRfl
namespace Go.Proofs.Ytpejhgkcofilmaa
/- THE CELL 'sum', in the pinned program and in every row, IS THE sha256 OF THE DUMP (.gsa) THAT YtpejhgkcofilmaaProg.lean LOADS. Nothing in Lean hashes anything: it is a label: what it is worth is what the hold of that sum in a sandbox is worth. -/
noncomputable def Try.pinned : Pinned := { name := "ytpejhgkcofilmaa", sum := "b1c5fed19635efa10377fd9236b1c22e25a7246c7200d9433e9e1483527a34ca", checked := Try.checked }
namespace Rows
def none {H : Type} : Left H := { results := [], args := [] }

/-- 'simulcastlaw27.VersionPlays': WHATEVER THE INPUT: true; the input reads as it did. -/
def versionPlaysSpec : ChangeSpec := { name := "versionPlays", fn := fun _ => fun
  | [d] => { results := [.lit (.bool true)], args := [d] }
  | _ => none }
def versionPlaysRow : OpenClaim := { program := "ytpejhgkcofilmaa", sum := "b1c5fed19635efa10377fd9236b1c22e25a7246c7200d9433e9e1483527a34ca", func := "simulcast/simulcastlaw27.VersionPlays", spec := "versionPlays", unfollowed := true, recurses := true, apart := false }
def VersionPlaysSaid : Prop := versionPlaysRow.holds Try.pinned (OpenSpec.ofChange versionPlaysSpec)

/-- ITS FALSE NEIGHBOUR: 'it returns false'. Refute it at one input. -/
def versionPlaysWrong : ChangeSpec := { name := "versionPlays", fn := fun _ => fun
  | [d] => { results := [.lit (.bool false)], args := [d] }
  | _ => none }
def VersionPlaysWrongFalsely : Prop := versionPlaysRow.holds Try.pinned (OpenSpec.ofChange versionPlaysWrong)

/-- 'simulcastlaw27.VersionSees': WHATEVER THE INPUT: true; the input reads as it did. -/
def versionSeesSpec : ChangeSpec := { name := "versionSees", fn := fun _ => fun
  | [d1, d2] => { results := [.lit (.bool true)], args := [d1, d2] }
  | _ => none }
def versionSeesRow : OpenClaim := { program := "ytpejhgkcofilmaa", sum := "b1c5fed19635efa10377fd9236b1c22e25a7246c7200d9433e9e1483527a34ca", func := "simulcast/simulcastlaw27.VersionSees", spec := "versionSees", unfollowed := true, recurses := true, apart := false }
def VersionSeesSaid : Prop := versionSeesRow.holds Try.pinned (OpenSpec.ofChange versionSeesSpec)

/-- ITS FALSE NEIGHBOUR: 'it returns false'. Refute it at one input. -/
def versionSeesWrong : ChangeSpec := { name := "versionSees", fn := fun _ => fun
  | [d1, d2] => { results := [.lit (.bool false)], args := [d1, d2] }
  | _ => none }
def VersionSeesWrongFalsely : Prop := versionSeesRow.holds Try.pinned (OpenSpec.ofChange versionSeesWrong)

/-- 'simulcastlaw27.VersionCuts': WHATEVER THE INPUT: true; the input reads as it did. -/
def versionCutsSpec : ChangeSpec := { name := "versionCuts", fn := fun _ => fun
  | [d1, d2, d3] => { results := [.lit (.bool true)], args := [d1, d2, d3] }
  | _ => none }
def versionCutsRow : OpenClaim := { program := "ytpejhgkcofilmaa", sum := "b1c5fed19635efa10377fd9236b1c22e25a7246c7200d9433e9e1483527a34ca", func := "simulcast/simulcastlaw27.VersionCuts", spec := "versionCuts", unfollowed := true, recurses := true, apart := false }
def VersionCutsSaid : Prop := versionCutsRow.holds Try.pinned (OpenSpec.ofChange versionCutsSpec)

/-- ITS FALSE NEIGHBOUR: 'it returns false'. Refute it at one input. -/
def versionCutsWrong : ChangeSpec := { name := "versionCuts", fn := fun _ => fun
  | [d1, d2, d3] => { results := [.lit (.bool false)], args := [d1, d2, d3] }
  | _ => none }
def VersionCutsWrongFalsely : Prop := versionCutsRow.holds Try.pinned (OpenSpec.ofChange versionCutsWrong)

/-- 'simulcastlaw27.VersionPast': WHATEVER THE INPUT: true; the input reads as it did. -/
def versionPastSpec : ChangeSpec := { name := "versionPast", fn := fun _ => fun
  | [d1, d2, d3] => { results := [.lit (.bool true)], args := [d1, d2, d3] }
  | _ => none }
def versionPastRow : OpenClaim := { program := "ytpejhgkcofilmaa", sum := "b1c5fed19635efa10377fd9236b1c22e25a7246c7200d9433e9e1483527a34ca", func := "simulcast/simulcastlaw27.VersionPast", spec := "versionPast", unfollowed := true, recurses := true, apart := false }
def VersionPastSaid : Prop := versionPastRow.holds Try.pinned (OpenSpec.ofChange versionPastSpec)

/-- ITS FALSE NEIGHBOUR: 'it returns false'. Refute it at one input. -/
def versionPastWrong : ChangeSpec := { name := "versionPast", fn := fun _ => fun
  | [d1, d2, d3] => { results := [.lit (.bool false)], args := [d1, d2, d3] }
  | _ => none }
def VersionPastWrongFalsely : Prop := versionPastRow.holds Try.pinned (OpenSpec.ofChange versionPastWrong)

/-- 'simulcastlaw27.VersionFull': WHATEVER THE INPUT: true; the input reads as it did. -/
def versionFullSpec : ChangeSpec := { name := "versionFull", fn := fun _ => fun
  | [d] => { results := [.lit (.bool true)], args := [d] }
  | _ => none }
def versionFullRow : OpenClaim := { program := "ytpejhgkcofilmaa", sum := "b1c5fed19635efa10377fd9236b1c22e25a7246c7200d9433e9e1483527a34ca", func := "simulcast/simulcastlaw27.VersionFull", spec := "versionFull", unfollowed := true, recurses := true, apart := false }
def VersionFullSaid : Prop := versionFullRow.holds Try.pinned (OpenSpec.ofChange versionFullSpec)

/-- ITS FALSE NEIGHBOUR: 'it returns false'. Refute it at one input. -/
def versionFullWrong : ChangeSpec := { name := "versionFull", fn := fun _ => fun
  | [d] => { results := [.lit (.bool false)], args := [d] }
  | _ => none }
def VersionFullWrongFalsely : Prop := versionFullRow.holds Try.pinned (OpenSpec.ofChange versionFullWrong)

/-- 'simulcastlaw27.VersionRebuild': WHATEVER THE INPUT: true; the input reads as it did. -/
def versionRebuildSpec : ChangeSpec := { name := "versionRebuild", fn := fun _ => fun
  | [d1, d2] => { results := [.lit (.bool true)], args := [d1, d2] }
  | _ => none }
def versionRebuildRow : OpenClaim := { program := "ytpejhgkcofilmaa", sum := "b1c5fed19635efa10377fd9236b1c22e25a7246c7200d9433e9e1483527a34ca", func := "simulcast/simulcastlaw27.VersionRebuild", spec := "versionRebuild", unfollowed := true, recurses := true, apart := false }
def VersionRebuildSaid : Prop := versionRebuildRow.holds Try.pinned (OpenSpec.ofChange versionRebuildSpec)

/-- ITS FALSE NEIGHBOUR: 'it returns false'. Refute it at one input. -/
def versionRebuildWrong : ChangeSpec := { name := "versionRebuild", fn := fun _ => fun
  | [d1, d2] => { results := [.lit (.bool false)], args := [d1, d2] }
  | _ => none }
def VersionRebuildWrongFalsely : Prop := versionRebuildRow.holds Try.pinned (OpenSpec.ofChange versionRebuildWrong)

/-- 'simulcastlaw28.SnapWhole': WHATEVER THE INPUT: true; the input reads as it did. -/
def snapWholeSpec : ChangeSpec := { name := "snapWhole", fn := fun _ => fun
  | [d1, d2] => { results := [.lit (.bool true)], args := [d1, d2] }
  | _ => none }
def snapWholeRow : OpenClaim := { program := "ytpejhgkcofilmaa", sum := "b1c5fed19635efa10377fd9236b1c22e25a7246c7200d9433e9e1483527a34ca", func := "simulcast/simulcastlaw28.SnapWhole", spec := "snapWhole", unfollowed := true, recurses := true, apart := false }
def SnapWholeSaid : Prop := snapWholeRow.holds Try.pinned (OpenSpec.ofChange snapWholeSpec)

/-- ITS FALSE NEIGHBOUR: 'it returns false'. Refute it at one input. -/
def snapWholeWrong : ChangeSpec := { name := "snapWhole", fn := fun _ => fun
  | [d1, d2] => { results := [.lit (.bool false)], args := [d1, d2] }
  | _ => none }
def SnapWholeWrongFalsely : Prop := snapWholeRow.holds Try.pinned (OpenSpec.ofChange snapWholeWrong)

/-- 'simulcastlaw28.SnapAts': WHATEVER THE INPUT: true; the input reads as it did. -/
def snapAtsSpec : ChangeSpec := { name := "snapAts", fn := fun _ => fun
  | [d1, d2, d3] => { results := [.lit (.bool true)], args := [d1, d2, d3] }
  | _ => none }
def snapAtsRow : OpenClaim := { program := "ytpejhgkcofilmaa", sum := "b1c5fed19635efa10377fd9236b1c22e25a7246c7200d9433e9e1483527a34ca", func := "simulcast/simulcastlaw28.SnapAts", spec := "snapAts", unfollowed := true, recurses := true, apart := false }
def SnapAtsSaid : Prop := snapAtsRow.holds Try.pinned (OpenSpec.ofChange snapAtsSpec)

/-- ITS FALSE NEIGHBOUR: 'it returns false'. Refute it at one input. -/
def snapAtsWrong : ChangeSpec := { name := "snapAts", fn := fun _ => fun
  | [d1, d2, d3] => { results := [.lit (.bool false)], args := [d1, d2, d3] }
  | _ => none }
def SnapAtsWrongFalsely : Prop := snapAtsRow.holds Try.pinned (OpenSpec.ofChange snapAtsWrong)

/-- 'simulcastlaw28.SnapNew': WHATEVER THE INPUT: true; the input reads as it did. -/
def snapNewSpec : ChangeSpec := { name := "snapNew", fn := fun _ => fun
  | [d1, d2] => { results := [.lit (.bool true)], args := [d1, d2] }
  | _ => none }
def snapNewRow : OpenClaim := { program := "ytpejhgkcofilmaa", sum := "b1c5fed19635efa10377fd9236b1c22e25a7246c7200d9433e9e1483527a34ca", func := "simulcast/simulcastlaw28.SnapNew", spec := "snapNew", unfollowed := true, recurses := true, apart := false }
def SnapNewSaid : Prop := snapNewRow.holds Try.pinned (OpenSpec.ofChange snapNewSpec)

/-- ITS FALSE NEIGHBOUR: 'it returns false'. Refute it at one input. -/
def snapNewWrong : ChangeSpec := { name := "snapNew", fn := fun _ => fun
  | [d1, d2] => { results := [.lit (.bool false)], args := [d1, d2] }
  | _ => none }
def SnapNewWrongFalsely : Prop := snapNewRow.holds Try.pinned (OpenSpec.ofChange snapNewWrong)

/-- 'simulcastlaw28.SnapStands': WHATEVER THE INPUT: true; the input reads as it did. -/
def snapStandsSpec : ChangeSpec := { name := "snapStands", fn := fun _ => fun
  | [d1, d2, d3] => { results := [.lit (.bool true)], args := [d1, d2, d3] }
  | _ => none }
def snapStandsRow : OpenClaim := { program := "ytpejhgkcofilmaa", sum := "b1c5fed19635efa10377fd9236b1c22e25a7246c7200d9433e9e1483527a34ca", func := "simulcast/simulcastlaw28.SnapStands", spec := "snapStands", unfollowed := true, recurses := true, apart := false }
def SnapStandsSaid : Prop := snapStandsRow.holds Try.pinned (OpenSpec.ofChange snapStandsSpec)

/-- ITS FALSE NEIGHBOUR: 'it returns false'. Refute it at one input. -/
def snapStandsWrong : ChangeSpec := { name := "snapStands", fn := fun _ => fun
  | [d1, d2, d3] => { results := [.lit (.bool false)], args := [d1, d2, d3] }
  | _ => none }
def SnapStandsWrongFalsely : Prop := snapStandsRow.holds Try.pinned (OpenSpec.ofChange snapStandsWrong)

/-- 'simulcastlaw28.SnapCuts': WHATEVER THE INPUT: true; the input reads as it did. -/
def snapCutsSpec : ChangeSpec := { name := "snapCuts", fn := fun _ => fun
  | [d1, d2, d3] => { results := [.lit (.bool true)], args := [d1, d2, d3] }
  | _ => none }
def snapCutsRow : OpenClaim := { program := "ytpejhgkcofilmaa", sum := "b1c5fed19635efa10377fd9236b1c22e25a7246c7200d9433e9e1483527a34ca", func := "simulcast/simulcastlaw28.SnapCuts", spec := "snapCuts", unfollowed := true, recurses := true, apart := false }
def SnapCutsSaid : Prop := snapCutsRow.holds Try.pinned (OpenSpec.ofChange snapCutsSpec)

/-- ITS FALSE NEIGHBOUR: 'it returns false'. Refute it at one input. -/
def snapCutsWrong : ChangeSpec := { name := "snapCuts", fn := fun _ => fun
  | [d1, d2, d3] => { results := [.lit (.bool false)], args := [d1, d2, d3] }
  | _ => none }
def SnapCutsWrongFalsely : Prop := snapCutsRow.holds Try.pinned (OpenSpec.ofChange snapCutsWrong)

/-- 'simulcastlaw51.TrimBounds': WHATEVER THE INPUT: true; the input reads as it did. -/
def trimBoundsSpec : ChangeSpec := { name := "trimBounds", fn := fun _ => fun
  | [d1, d2] => { results := [.lit (.bool true)], args := [d1, d2] }
  | _ => none }
def trimBoundsRow : OpenClaim := { program := "ytpejhgkcofilmaa", sum := "b1c5fed19635efa10377fd9236b1c22e25a7246c7200d9433e9e1483527a34ca", func := "simulcast/simulcastlaw51.TrimBounds", spec := "trimBounds", unfollowed := true, recurses := true, apart := false }
def TrimBoundsSaid : Prop := trimBoundsRow.holds Try.pinned (OpenSpec.ofChange trimBoundsSpec)

/-- ITS FALSE NEIGHBOUR: 'it returns false'. Refute it at one input. -/
def trimBoundsWrong : ChangeSpec := { name := "trimBounds", fn := fun _ => fun
  | [d1, d2] => { results := [.lit (.bool false)], args := [d1, d2] }
  | _ => none }
def TrimBoundsWrongFalsely : Prop := trimBoundsRow.holds Try.pinned (OpenSpec.ofChange trimBoundsWrong)

/-- 'simulcastlaw51.TrimLeasts': WHATEVER THE INPUT: true; the input reads as it did. -/
def trimLeastsSpec : ChangeSpec := { name := "trimLeasts", fn := fun _ => fun
  | [d1, d2, d3] => { results := [.lit (.bool true)], args := [d1, d2, d3] }
  | _ => none }
def trimLeastsRow : OpenClaim := { program := "ytpejhgkcofilmaa", sum := "b1c5fed19635efa10377fd9236b1c22e25a7246c7200d9433e9e1483527a34ca", func := "simulcast/simulcastlaw51.TrimLeasts", spec := "trimLeasts", unfollowed := true, recurses := true, apart := false }
def TrimLeastsSaid : Prop := trimLeastsRow.holds Try.pinned (OpenSpec.ofChange trimLeastsSpec)

/-- ITS FALSE NEIGHBOUR: 'it returns false'. Refute it at one input. -/
def trimLeastsWrong : ChangeSpec := { name := "trimLeasts", fn := fun _ => fun
  | [d1, d2, d3] => { results := [.lit (.bool false)], args := [d1, d2, d3] }
  | _ => none }
def TrimLeastsWrongFalsely : Prop := trimLeastsRow.holds Try.pinned (OpenSpec.ofChange trimLeastsWrong)

/-- 'simulcastlaw51.TrimParts': WHATEVER THE INPUT: true; the input reads as it did. -/
def trimPartsSpec : ChangeSpec := { name := "trimParts", fn := fun _ => fun
  | [d1, d2, d3] => { results := [.lit (.bool true)], args := [d1, d2, d3] }
  | _ => none }
def trimPartsRow : OpenClaim := { program := "ytpejhgkcofilmaa", sum := "b1c5fed19635efa10377fd9236b1c22e25a7246c7200d9433e9e1483527a34ca", func := "simulcast/simulcastlaw51.TrimParts", spec := "trimParts", unfollowed := true, recurses := true, apart := false }
def TrimPartsSaid : Prop := trimPartsRow.holds Try.pinned (OpenSpec.ofChange trimPartsSpec)

/-- ITS FALSE NEIGHBOUR: 'it returns false'. Refute it at one input. -/
def trimPartsWrong : ChangeSpec := { name := "trimParts", fn := fun _ => fun
  | [d1, d2, d3] => { results := [.lit (.bool false)], args := [d1, d2, d3] }
  | _ => none }
def TrimPartsWrongFalsely : Prop := trimPartsRow.holds Try.pinned (OpenSpec.ofChange trimPartsWrong)

/-- 'simulcastlaw51.TrimCuts': WHATEVER THE INPUT: true; the input reads as it did. -/
def trimCutsSpec : ChangeSpec := { name := "trimCuts", fn := fun _ => fun
  | [d1, d2, d3] => { results := [.lit (.bool true)], args := [d1, d2, d3] }
  | _ => none }
def trimCutsRow : OpenClaim := { program := "ytpejhgkcofilmaa", sum := "b1c5fed19635efa10377fd9236b1c22e25a7246c7200d9433e9e1483527a34ca", func := "simulcast/simulcastlaw51.TrimCuts", spec := "trimCuts", unfollowed := true, recurses := true, apart := false }
def TrimCutsSaid : Prop := trimCutsRow.holds Try.pinned (OpenSpec.ofChange trimCutsSpec)

/-- ITS FALSE NEIGHBOUR: 'it returns false'. Refute it at one input. -/
def trimCutsWrong : ChangeSpec := { name := "trimCuts", fn := fun _ => fun
  | [d1, d2, d3] => { results := [.lit (.bool false)], args := [d1, d2, d3] }
  | _ => none }
def TrimCutsWrongFalsely : Prop := trimCutsRow.holds Try.pinned (OpenSpec.ofChange trimCutsWrong)

/-- 'simulcastlaw51.TrimKeeps': WHATEVER THE INPUT: true; the input reads as it did. -/
def trimKeepsSpec : ChangeSpec := { name := "trimKeeps", fn := fun _ => fun
  | [d1, d2] => { results := [.lit (.bool true)], args := [d1, d2] }
  | _ => none }
def trimKeepsRow : OpenClaim := { program := "ytpejhgkcofilmaa", sum := "b1c5fed19635efa10377fd9236b1c22e25a7246c7200d9433e9e1483527a34ca", func := "simulcast/simulcastlaw51.TrimKeeps", spec := "trimKeeps", unfollowed := true, recurses := true, apart := false }
def TrimKeepsSaid : Prop := trimKeepsRow.holds Try.pinned (OpenSpec.ofChange trimKeepsSpec)

/-- ITS FALSE NEIGHBOUR: 'it returns false'. Refute it at one input. -/
def trimKeepsWrong : ChangeSpec := { name := "trimKeeps", fn := fun _ => fun
  | [d1, d2] => { results := [.lit (.bool false)], args := [d1, d2] }
  | _ => none }
def TrimKeepsWrongFalsely : Prop := trimKeepsRow.holds Try.pinned (OpenSpec.ofChange trimKeepsWrong)

/- THE SECOND FORM. 'bulk': how many values and letters a reading holds, each counted each time it is reached (what is shared counts as often as it is met; a slice's spare places count too). A statement '..UptoSaid' is the law's where the arguments, and the package variables that the reading takes, are together of bulk at most 1048576: NARROWER than '..Said'. Prove '..Said' where nothing that the law and all that it calls make is longer than what came in: it says more and counts as full. Else prove '..UptoSaid'. A law counts once. -/
mutual
def uptoBulk {H : Type} : DataW H → Nat
  | .lit (.string bytes) => bytes.length + 1
  | .lit _ => 1
  | .nil => 1
  | .ptr d => uptoBulk d + 1
  | .slice elems spare => uptoBulkAll elems + uptoBulkAll spare + 1
  | .agg parts => uptoBulkAll parts + 1
  | .iface _ d => uptoBulk d + 1
  | .map entries => uptoBulkEntries entries + 1
  | .held _ => 1
def uptoBulkAll {H : Type} : List (DataW H) → Nat
  | [] => 0
  | d :: r => uptoBulk d + uptoBulkAll r
def uptoBulkEntries {H : Type} : List (Lit × DataW H) → Nat
  | [] => 0
  | x :: r => uptoBulkEntry x + uptoBulkEntries r
def uptoBulkEntry {H : Type} : Lit × DataW H → Nat
  | (.string bytes, d) => bytes.length + uptoBulk d + 1
  | (_, d) => uptoBulk d + 1
 end
def uptoSmall : (H : Type) → List (DataW H) → Bool := fun _ ds => decide (uptoBulkAll ds ≤ 1048576)
def OpenSpec.upto (s : _root_.Go.ChangeSpec) : _root_.Go.OpenSpec := { _root_.Go.OpenSpec.ofChange s with cond := some uptoSmall }

/-- 'simulcastlaw27.VersionPlays', WHERE WHAT IT READS IS OF BULK AT MOST 1048576: true; the input reads as it did. -/
def versionPlaysUptoRow : OpenClaim := { program := "ytpejhgkcofilmaa", sum := "b1c5fed19635efa10377fd9236b1c22e25a7246c7200d9433e9e1483527a34ca", func := "simulcast/simulcastlaw27.VersionPlays", spec := "versionPlays", unfollowed := true, recurses := true, apart := false, narrowed := true }
def VersionPlaysUptoSaid : Prop := versionPlaysUptoRow.holds Try.pinned (OpenSpec.upto versionPlaysSpec)

/-- 'simulcastlaw27.VersionSees', WHERE WHAT IT READS IS OF BULK AT MOST 1048576: true; the input reads as it did. -/
def versionSeesUptoRow : OpenClaim := { program := "ytpejhgkcofilmaa", sum := "b1c5fed19635efa10377fd9236b1c22e25a7246c7200d9433e9e1483527a34ca", func := "simulcast/simulcastlaw27.VersionSees", spec := "versionSees", unfollowed := true, recurses := true, apart := false, narrowed := true }
def VersionSeesUptoSaid : Prop := versionSeesUptoRow.holds Try.pinned (OpenSpec.upto versionSeesSpec)

/-- 'simulcastlaw27.VersionCuts', WHERE WHAT IT READS IS OF BULK AT MOST 1048576: true; the input reads as it did. -/
def versionCutsUptoRow : OpenClaim := { program := "ytpejhgkcofilmaa", sum := "b1c5fed19635efa10377fd9236b1c22e25a7246c7200d9433e9e1483527a34ca", func := "simulcast/simulcastlaw27.VersionCuts", spec := "versionCuts", unfollowed := true, recurses := true, apart := false, narrowed := true }
def VersionCutsUptoSaid : Prop := versionCutsUptoRow.holds Try.pinned (OpenSpec.upto versionCutsSpec)

/-- 'simulcastlaw27.VersionPast', WHERE WHAT IT READS IS OF BULK AT MOST 1048576: true; the input reads as it did. -/
def versionPastUptoRow : OpenClaim := { program := "ytpejhgkcofilmaa", sum := "b1c5fed19635efa10377fd9236b1c22e25a7246c7200d9433e9e1483527a34ca", func := "simulcast/simulcastlaw27.VersionPast", spec := "versionPast", unfollowed := true, recurses := true, apart := false, narrowed := true }
def VersionPastUptoSaid : Prop := versionPastUptoRow.holds Try.pinned (OpenSpec.upto versionPastSpec)

/-- 'simulcastlaw27.VersionFull', WHERE WHAT IT READS IS OF BULK AT MOST 1048576: true; the input reads as it did. -/
def versionFullUptoRow : OpenClaim := { program := "ytpejhgkcofilmaa", sum := "b1c5fed19635efa10377fd9236b1c22e25a7246c7200d9433e9e1483527a34ca", func := "simulcast/simulcastlaw27.VersionFull", spec := "versionFull", unfollowed := true, recurses := true, apart := false, narrowed := true }
def VersionFullUptoSaid : Prop := versionFullUptoRow.holds Try.pinned (OpenSpec.upto versionFullSpec)

/-- 'simulcastlaw27.VersionRebuild', WHERE WHAT IT READS IS OF BULK AT MOST 1048576: true; the input reads as it did. -/
def versionRebuildUptoRow : OpenClaim := { program := "ytpejhgkcofilmaa", sum := "b1c5fed19635efa10377fd9236b1c22e25a7246c7200d9433e9e1483527a34ca", func := "simulcast/simulcastlaw27.VersionRebuild", spec := "versionRebuild", unfollowed := true, recurses := true, apart := false, narrowed := true }
def VersionRebuildUptoSaid : Prop := versionRebuildUptoRow.holds Try.pinned (OpenSpec.upto versionRebuildSpec)

/-- 'simulcastlaw28.SnapWhole', WHERE WHAT IT READS IS OF BULK AT MOST 1048576: true; the input reads as it did. -/
def snapWholeUptoRow : OpenClaim := { program := "ytpejhgkcofilmaa", sum := "b1c5fed19635efa10377fd9236b1c22e25a7246c7200d9433e9e1483527a34ca", func := "simulcast/simulcastlaw28.SnapWhole", spec := "snapWhole", unfollowed := true, recurses := true, apart := false, narrowed := true }
def SnapWholeUptoSaid : Prop := snapWholeUptoRow.holds Try.pinned (OpenSpec.upto snapWholeSpec)

/-- 'simulcastlaw28.SnapAts', WHERE WHAT IT READS IS OF BULK AT MOST 1048576: true; the input reads as it did. -/
def snapAtsUptoRow : OpenClaim := { program := "ytpejhgkcofilmaa", sum := "b1c5fed19635efa10377fd9236b1c22e25a7246c7200d9433e9e1483527a34ca", func := "simulcast/simulcastlaw28.SnapAts", spec := "snapAts", unfollowed := true, recurses := true, apart := false, narrowed := true }
def SnapAtsUptoSaid : Prop := snapAtsUptoRow.holds Try.pinned (OpenSpec.upto snapAtsSpec)

/-- 'simulcastlaw28.SnapNew', WHERE WHAT IT READS IS OF BULK AT MOST 1048576: true; the input reads as it did. -/
def snapNewUptoRow : OpenClaim := { program := "ytpejhgkcofilmaa", sum := "b1c5fed19635efa10377fd9236b1c22e25a7246c7200d9433e9e1483527a34ca", func := "simulcast/simulcastlaw28.SnapNew", spec := "snapNew", unfollowed := true, recurses := true, apart := false, narrowed := true }
def SnapNewUptoSaid : Prop := snapNewUptoRow.holds Try.pinned (OpenSpec.upto snapNewSpec)

/-- 'simulcastlaw28.SnapStands', WHERE WHAT IT READS IS OF BULK AT MOST 1048576: true; the input reads as it did. -/
def snapStandsUptoRow : OpenClaim := { program := "ytpejhgkcofilmaa", sum := "b1c5fed19635efa10377fd9236b1c22e25a7246c7200d9433e9e1483527a34ca", func := "simulcast/simulcastlaw28.SnapStands", spec := "snapStands", unfollowed := true, recurses := true, apart := false, narrowed := true }
def SnapStandsUptoSaid : Prop := snapStandsUptoRow.holds Try.pinned (OpenSpec.upto snapStandsSpec)

/-- 'simulcastlaw28.SnapCuts', WHERE WHAT IT READS IS OF BULK AT MOST 1048576: true; the input reads as it did. -/
def snapCutsUptoRow : OpenClaim := { program := "ytpejhgkcofilmaa", sum := "b1c5fed19635efa10377fd9236b1c22e25a7246c7200d9433e9e1483527a34ca", func := "simulcast/simulcastlaw28.SnapCuts", spec := "snapCuts", unfollowed := true, recurses := true, apart := false, narrowed := true }
def SnapCutsUptoSaid : Prop := snapCutsUptoRow.holds Try.pinned (OpenSpec.upto snapCutsSpec)

/-- 'simulcastlaw51.TrimBounds', WHERE WHAT IT READS IS OF BULK AT MOST 1048576: true; the input reads as it did. -/
def trimBoundsUptoRow : OpenClaim := { program := "ytpejhgkcofilmaa", sum := "b1c5fed19635efa10377fd9236b1c22e25a7246c7200d9433e9e1483527a34ca", func := "simulcast/simulcastlaw51.TrimBounds", spec := "trimBounds", unfollowed := true, recurses := true, apart := false, narrowed := true }
def TrimBoundsUptoSaid : Prop := trimBoundsUptoRow.holds Try.pinned (OpenSpec.upto trimBoundsSpec)

/-- 'simulcastlaw51.TrimLeasts', WHERE WHAT IT READS IS OF BULK AT MOST 1048576: true; the input reads as it did. -/
def trimLeastsUptoRow : OpenClaim := { program := "ytpejhgkcofilmaa", sum := "b1c5fed19635efa10377fd9236b1c22e25a7246c7200d9433e9e1483527a34ca", func := "simulcast/simulcastlaw51.TrimLeasts", spec := "trimLeasts", unfollowed := true, recurses := true, apart := false, narrowed := true }
def TrimLeastsUptoSaid : Prop := trimLeastsUptoRow.holds Try.pinned (OpenSpec.upto trimLeastsSpec)

/-- 'simulcastlaw51.TrimParts', WHERE WHAT IT READS IS OF BULK AT MOST 1048576: true; the input reads as it did. -/
def trimPartsUptoRow : OpenClaim := { program := "ytpejhgkcofilmaa", sum := "b1c5fed19635efa10377fd9236b1c22e25a7246c7200d9433e9e1483527a34ca", func := "simulcast/simulcastlaw51.TrimParts", spec := "trimParts", unfollowed := true, recurses := true, apart := false, narrowed := true }
def TrimPartsUptoSaid : Prop := trimPartsUptoRow.holds Try.pinned (OpenSpec.upto trimPartsSpec)

/-- 'simulcastlaw51.TrimCuts', WHERE WHAT IT READS IS OF BULK AT MOST 1048576: true; the input reads as it did. -/
def trimCutsUptoRow : OpenClaim := { program := "ytpejhgkcofilmaa", sum := "b1c5fed19635efa10377fd9236b1c22e25a7246c7200d9433e9e1483527a34ca", func := "simulcast/simulcastlaw51.TrimCuts", spec := "trimCuts", unfollowed := true, recurses := true, apart := false, narrowed := true }
def TrimCutsUptoSaid : Prop := trimCutsUptoRow.holds Try.pinned (OpenSpec.upto trimCutsSpec)

/-- 'simulcastlaw51.TrimKeeps', WHERE WHAT IT READS IS OF BULK AT MOST 1048576: true; the input reads as it did. -/
def trimKeepsUptoRow : OpenClaim := { program := "ytpejhgkcofilmaa", sum := "b1c5fed19635efa10377fd9236b1c22e25a7246c7200d9433e9e1483527a34ca", func := "simulcast/simulcastlaw51.TrimKeeps", spec := "trimKeeps", unfollowed := true, recurses := true, apart := false, narrowed := true }
def TrimKeepsUptoSaid : Prop := trimKeepsUptoRow.holds Try.pinned (OpenSpec.upto trimKeepsSpec)

end Rows
end Go.Proofs.Ytpejhgkcofilmaa

/-
  DERIVED. GIVEN WITH THE SEED: THE CARDS: each row of YtkccaadhjodhlaaDoorRows.lean that lists a variable, with what it lists TIED to the program's text (the seventh form; the later family's looks); each row that meets fmt, with fmt's text TOLD by the authors' own Lean function (tested against real Go, not proved from fmt's source: count such statements apart). THE CARD IS WHAT COUNTS. Prove the row's statement (the work); the ties are given (YtkccaadhjodhlaaDoorTie.lean); close each card by the builder's one call (the guide's Derived/Test/ToyasCard.lean, 'card_holds'). Laid BY PROGRAM, IN A SANDBOX (cutbox-door.mjs). By AI agents, Wed Nov 11 2026. No macro, syntax, notation, axiom, sorry.
-/
import Derived.Test.YtkccaadhjodhlaaDoorRows
import GoSem.ClaimSeven
namespace Go.Proofs.YtkccaadhjodhlaaDoor
namespace Rows

/-- THE TIED CARD OF 'simulcastlaw01.WordRefs'. -/
def wordRefsCard : Claim7 := { stood := { row := wordRefsRow, standIns := [], harness := (true, "4f51dbfd420c4a440280cc977e484118809ad7aa2ef1731071836d97ef9bc43e"), looks := true }, kinds := [], alts := [], laidByText := true, laidKinds := [.data, .data, .data], laidTests := true, laidLooks := .later }
def WordRefsCardSaid : Prop := Claim7.holds Tryd.pinned (.plain (OpenSpec.ofChange wordRefsSpec)) wordRefsCard

/-- THE TIED CARD OF 'simulcastlaw01.WordHolds'. -/
def wordHoldsCard : Claim7 := { stood := { row := wordHoldsRow, standIns := [], harness := (true, "4f51dbfd420c4a440280cc977e484118809ad7aa2ef1731071836d97ef9bc43e"), looks := true }, kinds := [], alts := [], laidByText := true, laidKinds := [.data, .data, .data], laidTests := true, laidLooks := .later }
def WordHoldsCardSaid : Prop := Claim7.holds Tryd.pinned (.plain (OpenSpec.ofChange wordHoldsSpec)) wordHoldsCard

/-- THE TIED CARD OF 'simulcastlaw01.WordBack'. -/
def wordBackCard : Claim7 := { stood := { row := wordBackRow, standIns := [], harness := (true, "4f51dbfd420c4a440280cc977e484118809ad7aa2ef1731071836d97ef9bc43e"), looks := true }, kinds := [], alts := [], laidByText := true, laidKinds := [.data, .data, .data], laidTests := true, laidLooks := .later }
def WordBackCardSaid : Prop := Claim7.holds Tryd.pinned (.plain (OpenSpec.ofChange wordBackSpec)) wordBackCard

/-- THE TIED CARD OF 'simulcastlaw01.WordDistinct'. -/
def wordDistinctCard : Claim7 := { stood := { row := wordDistinctRow, standIns := [], harness := (true, "4f51dbfd420c4a440280cc977e484118809ad7aa2ef1731071836d97ef9bc43e"), looks := true }, kinds := [], alts := [], laidByText := true, laidKinds := [.data, .data, .data], laidTests := true, laidLooks := .later }
def WordDistinctCardSaid : Prop := Claim7.holds Tryd.pinned (.plain (OpenSpec.ofChange wordDistinctSpec)) wordDistinctCard

/-- THE TIED CARD OF 'simulcastlaw01.WordPrints'. -/
def wordPrintsCard : Claim7 := { stood := { row := wordPrintsRow, standIns := [], harness := (true, "4f51dbfd420c4a440280cc977e484118809ad7aa2ef1731071836d97ef9bc43e"), looks := true }, kinds := [], alts := [], laidByText := true, laidKinds := [.data, .data, .data, .sentinel, .sentinel], laidTests := true, laidLooks := .later }
def WordPrintsCardSaid : Prop := Claim7.holds Tryd.pinned (.plain (OpenSpec.ofChange wordPrintsSpec)) wordPrintsCard

/-- THE TIED CARD OF 'simulcastlaw01.WordParses'. -/
def wordParsesCard : Claim7 := { stood := { row := wordParsesRow, standIns := [], harness := (true, "4f51dbfd420c4a440280cc977e484118809ad7aa2ef1731071836d97ef9bc43e"), looks := true }, kinds := [], alts := [], laidByText := true, laidKinds := [.data, .data, .data, .sentinel, .sentinel], laidTests := true, laidLooks := .later }
def WordParsesCardSaid : Prop := Claim7.holds Tryd.pinned (.plain (OpenSpec.ofChange wordParsesSpec)) wordParsesCard

/-- THE SECOND FORM's CARD OF 'simulcastlaw01.WordRefs'. -/
def wordRefsUptoCard : Claim7 := { stood := { row := wordRefsUptoRow, standIns := [], harness := (true, "4f51dbfd420c4a440280cc977e484118809ad7aa2ef1731071836d97ef9bc43e"), looks := true }, kinds := [], alts := [], laidByText := true, laidKinds := [.data, .data, .data], laidTests := true, laidLooks := .later }
def WordRefsUptoCardSaid : Prop := Claim7.holds Tryd.pinned (.plain (OpenSpec.upto wordRefsSpec)) wordRefsUptoCard

/-- THE SECOND FORM's CARD OF 'simulcastlaw01.WordHolds'. -/
def wordHoldsUptoCard : Claim7 := { stood := { row := wordHoldsUptoRow, standIns := [], harness := (true, "4f51dbfd420c4a440280cc977e484118809ad7aa2ef1731071836d97ef9bc43e"), looks := true }, kinds := [], alts := [], laidByText := true, laidKinds := [.data, .data, .data], laidTests := true, laidLooks := .later }
def WordHoldsUptoCardSaid : Prop := Claim7.holds Tryd.pinned (.plain (OpenSpec.upto wordHoldsSpec)) wordHoldsUptoCard

/-- THE SECOND FORM's CARD OF 'simulcastlaw01.WordBack'. -/
def wordBackUptoCard : Claim7 := { stood := { row := wordBackUptoRow, standIns := [], harness := (true, "4f51dbfd420c4a440280cc977e484118809ad7aa2ef1731071836d97ef9bc43e"), looks := true }, kinds := [], alts := [], laidByText := true, laidKinds := [.data, .data, .data], laidTests := true, laidLooks := .later }
def WordBackUptoCardSaid : Prop := Claim7.holds Tryd.pinned (.plain (OpenSpec.upto wordBackSpec)) wordBackUptoCard

/-- THE SECOND FORM's CARD OF 'simulcastlaw01.WordDistinct'. -/
def wordDistinctUptoCard : Claim7 := { stood := { row := wordDistinctUptoRow, standIns := [], harness := (true, "4f51dbfd420c4a440280cc977e484118809ad7aa2ef1731071836d97ef9bc43e"), looks := true }, kinds := [], alts := [], laidByText := true, laidKinds := [.data, .data, .data], laidTests := true, laidLooks := .later }
def WordDistinctUptoCardSaid : Prop := Claim7.holds Tryd.pinned (.plain (OpenSpec.upto wordDistinctSpec)) wordDistinctUptoCard

/-- THE SECOND FORM's CARD OF 'simulcastlaw01.WordPrints'. -/
def wordPrintsUptoCard : Claim7 := { stood := { row := wordPrintsUptoRow, standIns := [], harness := (true, "4f51dbfd420c4a440280cc977e484118809ad7aa2ef1731071836d97ef9bc43e"), looks := true }, kinds := [], alts := [], laidByText := true, laidKinds := [.data, .data, .data, .sentinel, .sentinel], laidTests := true, laidLooks := .later }
def WordPrintsUptoCardSaid : Prop := Claim7.holds Tryd.pinned (.plain (OpenSpec.upto wordPrintsSpec)) wordPrintsUptoCard

/-- THE SECOND FORM's CARD OF 'simulcastlaw01.WordParses'. -/
def wordParsesUptoCard : Claim7 := { stood := { row := wordParsesUptoRow, standIns := [], harness := (true, "4f51dbfd420c4a440280cc977e484118809ad7aa2ef1731071836d97ef9bc43e"), looks := true }, kinds := [], alts := [], laidByText := true, laidKinds := [.data, .data, .data, .sentinel, .sentinel], laidTests := true, laidLooks := .later }
def WordParsesUptoCardSaid : Prop := Claim7.holds Tryd.pinned (.plain (OpenSpec.upto wordParsesSpec)) wordParsesUptoCard
end Rows
end Go.Proofs.YtkccaadhjodhlaaDoor

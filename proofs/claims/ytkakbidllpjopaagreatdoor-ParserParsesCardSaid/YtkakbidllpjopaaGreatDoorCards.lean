/-
  DERIVED. GIVEN WITH THE SEED: THE CARDS: each row of YtkakbidllpjopaaGreatDoorRows.lean that lists a variable, with what it lists TIED to the program's text (the seventh form; the later family's looks); each row that meets fmt, with fmt's text TOLD by the authors' own Lean function (tested against real Go, not proved from fmt's source: count such statements apart). THE CARD IS WHAT COUNTS. Prove the row's statement (the work); the ties are given (YtkakbidllpjopaaGreatDoorTie.lean); close each card by the builder's one call (the guide's Derived/Test/ToyasCard.lean, 'card_holds'). Laid BY PROGRAM, IN A SANDBOX (cutbox-door.mjs). By AI agents, Wed Nov 11 2026. No macro, syntax, notation, axiom, sorry.
-/
import Derived.Test.YtkakbidllpjopaaGreatDoorRows
import GoSem.ClaimSeven
namespace Go.Proofs.YtkakbidllpjopaaGreatDoor
namespace Rows

/-- THE TIED CARD OF 'simulcastlaw45.ParserBinds'. -/
def parserBindsCard : Claim7 := { stood := { row := parserBindsRow, standIns := [], harness := (true, "762be9f34dfda3c8a85d450903ad872de011d0fcec70fd30383be2d7dcd5be04"), looks := true }, kinds := [], alts := [], laidByText := true, laidKinds := [.data, .data, .data, .sentinel, .sentinel, .widerDeep, .widerDeep], laidTests := true, laidLooks := .later }
def ParserBindsCardSaid : Prop := Claim7.holds Tryz.pinned (.plain (OpenSpec.ofChange parserBindsSpec)) parserBindsCard

/-- THE TIED CARD OF 'simulcastlaw45.ParserParses'. -/
def parserParsesCard : Claim7 := { stood := { row := parserParsesRow, standIns := [], harness := (true, "762be9f34dfda3c8a85d450903ad872de011d0fcec70fd30383be2d7dcd5be04"), looks := true }, kinds := [], alts := [], laidByText := true, laidKinds := [.data, .data, .data, .sentinel, .sentinel, .widerDeep, .widerDeep], laidTests := true, laidLooks := .later }
def ParserParsesCardSaid : Prop := Claim7.holds Tryz.pinned (.plain (OpenSpec.ofChange parserParsesSpec)) parserParsesCard

/-- THE TIED CARD OF 'simulcastlaw45.ParserExprs'. -/
def parserExprsCard : Claim7 := { stood := { row := parserExprsRow, standIns := [], harness := (true, "762be9f34dfda3c8a85d450903ad872de011d0fcec70fd30383be2d7dcd5be04"), looks := true }, kinds := [], alts := [], laidByText := true, laidKinds := [.data, .data, .data, .sentinel, .sentinel, .widerDeep, .widerDeep], laidTests := true, laidLooks := .later }
def ParserExprsCardSaid : Prop := Claim7.holds Tryz.pinned (.plain (OpenSpec.ofChange parserExprsSpec)) parserExprsCard

/-- THE TIED CARD OF 'simulcastlaw45.ParserBack'. -/
def parserBackCard : Claim7 := { stood := { row := parserBackRow, standIns := [], harness := (true, "762be9f34dfda3c8a85d450903ad872de011d0fcec70fd30383be2d7dcd5be04"), looks := true }, kinds := [], alts := [], laidByText := true, laidKinds := [.data, .data, .data, .sentinel, .sentinel, .widerDeep, .widerDeep], laidTests := true, laidLooks := .later }
def ParserBackCardSaid : Prop := Claim7.holds Tryz.pinned (.plain (OpenSpec.ofChange parserBackSpec)) parserBackCard

/-- THE TIED CARD OF 'simulcastlaw45.ParserBlanks'. -/
def parserBlanksCard : Claim7 := { stood := { row := parserBlanksRow, standIns := [], harness := (true, "762be9f34dfda3c8a85d450903ad872de011d0fcec70fd30383be2d7dcd5be04"), looks := true }, kinds := [], alts := [], laidByText := true, laidKinds := [.data, .data, .data, .sentinel, .sentinel, .widerDeep, .widerDeep], laidTests := true, laidLooks := .later }
def ParserBlanksCardSaid : Prop := Claim7.holds Tryz.pinned (.plain (OpenSpec.ofChange parserBlanksSpec)) parserBlanksCard

/-- THE TIED CARD OF 'simulcastlaw45.ParserJoins'. -/
def parserJoinsCard : Claim7 := { stood := { row := parserJoinsRow, standIns := [], harness := (true, "762be9f34dfda3c8a85d450903ad872de011d0fcec70fd30383be2d7dcd5be04"), looks := true }, kinds := [], alts := [], laidByText := true, laidKinds := [.data, .data, .data, .sentinel, .sentinel, .widerDeep, .widerDeep], laidTests := true, laidLooks := .later }
def ParserJoinsCardSaid : Prop := Claim7.holds Tryz.pinned (.plain (OpenSpec.ofChange parserJoinsSpec)) parserJoinsCard

/-- THE SECOND FORM's CARD OF 'simulcastlaw45.ParserBinds'. -/
def parserBindsUptoCard : Claim7 := { stood := { row := parserBindsUptoRow, standIns := [], harness := (true, "762be9f34dfda3c8a85d450903ad872de011d0fcec70fd30383be2d7dcd5be04"), looks := true }, kinds := [], alts := [], laidByText := true, laidKinds := [.data, .data, .data, .sentinel, .sentinel, .widerDeep, .widerDeep], laidTests := true, laidLooks := .later }
def ParserBindsUptoCardSaid : Prop := Claim7.holds Tryz.pinned (.plain (OpenSpec.upto parserBindsSpec)) parserBindsUptoCard

/-- THE SECOND FORM's CARD OF 'simulcastlaw45.ParserParses'. -/
def parserParsesUptoCard : Claim7 := { stood := { row := parserParsesUptoRow, standIns := [], harness := (true, "762be9f34dfda3c8a85d450903ad872de011d0fcec70fd30383be2d7dcd5be04"), looks := true }, kinds := [], alts := [], laidByText := true, laidKinds := [.data, .data, .data, .sentinel, .sentinel, .widerDeep, .widerDeep], laidTests := true, laidLooks := .later }
def ParserParsesUptoCardSaid : Prop := Claim7.holds Tryz.pinned (.plain (OpenSpec.upto parserParsesSpec)) parserParsesUptoCard

/-- THE SECOND FORM's CARD OF 'simulcastlaw45.ParserExprs'. -/
def parserExprsUptoCard : Claim7 := { stood := { row := parserExprsUptoRow, standIns := [], harness := (true, "762be9f34dfda3c8a85d450903ad872de011d0fcec70fd30383be2d7dcd5be04"), looks := true }, kinds := [], alts := [], laidByText := true, laidKinds := [.data, .data, .data, .sentinel, .sentinel, .widerDeep, .widerDeep], laidTests := true, laidLooks := .later }
def ParserExprsUptoCardSaid : Prop := Claim7.holds Tryz.pinned (.plain (OpenSpec.upto parserExprsSpec)) parserExprsUptoCard

/-- THE SECOND FORM's CARD OF 'simulcastlaw45.ParserBack'. -/
def parserBackUptoCard : Claim7 := { stood := { row := parserBackUptoRow, standIns := [], harness := (true, "762be9f34dfda3c8a85d450903ad872de011d0fcec70fd30383be2d7dcd5be04"), looks := true }, kinds := [], alts := [], laidByText := true, laidKinds := [.data, .data, .data, .sentinel, .sentinel, .widerDeep, .widerDeep], laidTests := true, laidLooks := .later }
def ParserBackUptoCardSaid : Prop := Claim7.holds Tryz.pinned (.plain (OpenSpec.upto parserBackSpec)) parserBackUptoCard

/-- THE SECOND FORM's CARD OF 'simulcastlaw45.ParserBlanks'. -/
def parserBlanksUptoCard : Claim7 := { stood := { row := parserBlanksUptoRow, standIns := [], harness := (true, "762be9f34dfda3c8a85d450903ad872de011d0fcec70fd30383be2d7dcd5be04"), looks := true }, kinds := [], alts := [], laidByText := true, laidKinds := [.data, .data, .data, .sentinel, .sentinel, .widerDeep, .widerDeep], laidTests := true, laidLooks := .later }
def ParserBlanksUptoCardSaid : Prop := Claim7.holds Tryz.pinned (.plain (OpenSpec.upto parserBlanksSpec)) parserBlanksUptoCard

/-- THE SECOND FORM's CARD OF 'simulcastlaw45.ParserJoins'. -/
def parserJoinsUptoCard : Claim7 := { stood := { row := parserJoinsUptoRow, standIns := [], harness := (true, "762be9f34dfda3c8a85d450903ad872de011d0fcec70fd30383be2d7dcd5be04"), looks := true }, kinds := [], alts := [], laidByText := true, laidKinds := [.data, .data, .data, .sentinel, .sentinel, .widerDeep, .widerDeep], laidTests := true, laidLooks := .later }
def ParserJoinsUptoCardSaid : Prop := Claim7.holds Tryz.pinned (.plain (OpenSpec.upto parserJoinsSpec)) parserJoinsUptoCard
end Rows
end Go.Proofs.YtkakbidllpjopaaGreatDoor

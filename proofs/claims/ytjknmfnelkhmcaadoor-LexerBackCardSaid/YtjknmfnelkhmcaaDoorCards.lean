/-
  DERIVED. GIVEN WITH THE SEED: THE CARDS: each row of YtjknmfnelkhmcaaDoorRows.lean that lists a variable, with what it lists TIED to the program's text (the seventh form; the later family's looks); each row that meets fmt, with fmt's text TOLD by the authors' own Lean function (tested against real Go, not proved from fmt's source: count such statements apart). THE CARD IS WHAT COUNTS. Prove the row's statement (the work); the ties are given (YtjknmfnelkhmcaaDoorTie.lean); close each card by the builder's one call (the guide's Derived/Test/ToyasCard.lean, 'card_holds'). Laid BY PROGRAM, IN A SANDBOX (cutbox-door.mjs). By AI agents, Wed Nov 11 2026. No macro, syntax, notation, axiom, sorry.
-/
import Derived.Test.YtjknmfnelkhmcaaDoorRows
import GoSem.ClaimSeven
namespace Go.Proofs.YtjknmfnelkhmcaaDoor
namespace Rows

/-- THE TIED CARD OF 'simulcastlaw43.LexerScans'. -/
def lexerScansCard : Claim7 := { stood := { row := lexerScansRow, standIns := [], harness := (true, "e7f6a710713c02de2fa7744dad84139e6514e1fe136181129e760642c89c9c17"), looks := true }, kinds := [], alts := [], laidByText := true, laidKinds := [.data, .data, .data, .sentinel, .sentinel, .widerDeep, .widerDeep], laidTests := true, laidLooks := .later }
def LexerScansCardSaid : Prop := Claim7.holds Tryd.pinned (.plain (OpenSpec.ofChange lexerScansSpec)) lexerScansCard

/-- THE TIED CARD OF 'simulcastlaw43.LexerParts'. -/
def lexerPartsCard : Claim7 := { stood := { row := lexerPartsRow, standIns := [], harness := (true, "e7f6a710713c02de2fa7744dad84139e6514e1fe136181129e760642c89c9c17"), looks := true }, kinds := [], alts := [], laidByText := true, laidKinds := [.data, .data, .data, .sentinel, .sentinel, .widerDeep, .widerDeep], laidTests := true, laidLooks := .later }
def LexerPartsCardSaid : Prop := Claim7.holds Tryd.pinned (.plain (OpenSpec.ofChange lexerPartsSpec)) lexerPartsCard

/-- THE TIED CARD OF 'simulcastlaw43.LexerBack'. -/
def lexerBackCard : Claim7 := { stood := { row := lexerBackRow, standIns := [], harness := (true, "e7f6a710713c02de2fa7744dad84139e6514e1fe136181129e760642c89c9c17"), looks := true }, kinds := [], alts := [], laidByText := true, laidKinds := [.data, .data, .data, .sentinel, .sentinel, .widerDeep, .widerDeep], laidTests := true, laidLooks := .later }
def LexerBackCardSaid : Prop := Claim7.holds Tryd.pinned (.plain (OpenSpec.ofChange lexerBackSpec)) lexerBackCard

/-- THE TIED CARD OF 'simulcastlaw43.LexerNumbers'. -/
def lexerNumbersCard : Claim7 := { stood := { row := lexerNumbersRow, standIns := [], harness := (true, "e7f6a710713c02de2fa7744dad84139e6514e1fe136181129e760642c89c9c17"), looks := true }, kinds := [], alts := [], laidByText := true, laidKinds := [.data, .data, .data, .sentinel, .sentinel, .widerDeep, .widerDeep], laidTests := true, laidLooks := .later }
def LexerNumbersCardSaid : Prop := Claim7.holds Tryd.pinned (.plain (OpenSpec.ofChange lexerNumbersSpec)) lexerNumbersCard

/-- THE TIED CARD OF 'simulcastlaw43.LexerLong'. -/
def lexerLongCard : Claim7 := { stood := { row := lexerLongRow, standIns := [], harness := (true, "e7f6a710713c02de2fa7744dad84139e6514e1fe136181129e760642c89c9c17"), looks := true }, kinds := [], alts := [], laidByText := true, laidKinds := [.data, .data, .data, .sentinel, .sentinel, .widerDeep, .widerDeep], laidTests := true, laidLooks := .later }
def LexerLongCardSaid : Prop := Claim7.holds Tryd.pinned (.plain (OpenSpec.ofChange lexerLongSpec)) lexerLongCard

/-- THE TIED CARD OF 'simulcastlaw43.LexerWords'. -/
def lexerWordsCard : Claim7 := { stood := { row := lexerWordsRow, standIns := [], harness := (true, "e7f6a710713c02de2fa7744dad84139e6514e1fe136181129e760642c89c9c17"), looks := true }, kinds := [], alts := [], laidByText := true, laidKinds := [.data, .data, .data, .sentinel, .sentinel, .widerDeep, .widerDeep], laidTests := true, laidLooks := .later }
def LexerWordsCardSaid : Prop := Claim7.holds Tryd.pinned (.plain (OpenSpec.ofChange lexerWordsSpec)) lexerWordsCard

/-- THE SECOND FORM's CARD OF 'simulcastlaw43.LexerScans'. -/
def lexerScansUptoCard : Claim7 := { stood := { row := lexerScansUptoRow, standIns := [], harness := (true, "e7f6a710713c02de2fa7744dad84139e6514e1fe136181129e760642c89c9c17"), looks := true }, kinds := [], alts := [], laidByText := true, laidKinds := [.data, .data, .data, .sentinel, .sentinel, .widerDeep, .widerDeep], laidTests := true, laidLooks := .later }
def LexerScansUptoCardSaid : Prop := Claim7.holds Tryd.pinned (.plain (OpenSpec.upto lexerScansSpec)) lexerScansUptoCard

/-- THE SECOND FORM's CARD OF 'simulcastlaw43.LexerParts'. -/
def lexerPartsUptoCard : Claim7 := { stood := { row := lexerPartsUptoRow, standIns := [], harness := (true, "e7f6a710713c02de2fa7744dad84139e6514e1fe136181129e760642c89c9c17"), looks := true }, kinds := [], alts := [], laidByText := true, laidKinds := [.data, .data, .data, .sentinel, .sentinel, .widerDeep, .widerDeep], laidTests := true, laidLooks := .later }
def LexerPartsUptoCardSaid : Prop := Claim7.holds Tryd.pinned (.plain (OpenSpec.upto lexerPartsSpec)) lexerPartsUptoCard

/-- THE SECOND FORM's CARD OF 'simulcastlaw43.LexerBack'. -/
def lexerBackUptoCard : Claim7 := { stood := { row := lexerBackUptoRow, standIns := [], harness := (true, "e7f6a710713c02de2fa7744dad84139e6514e1fe136181129e760642c89c9c17"), looks := true }, kinds := [], alts := [], laidByText := true, laidKinds := [.data, .data, .data, .sentinel, .sentinel, .widerDeep, .widerDeep], laidTests := true, laidLooks := .later }
def LexerBackUptoCardSaid : Prop := Claim7.holds Tryd.pinned (.plain (OpenSpec.upto lexerBackSpec)) lexerBackUptoCard

/-- THE SECOND FORM's CARD OF 'simulcastlaw43.LexerNumbers'. -/
def lexerNumbersUptoCard : Claim7 := { stood := { row := lexerNumbersUptoRow, standIns := [], harness := (true, "e7f6a710713c02de2fa7744dad84139e6514e1fe136181129e760642c89c9c17"), looks := true }, kinds := [], alts := [], laidByText := true, laidKinds := [.data, .data, .data, .sentinel, .sentinel, .widerDeep, .widerDeep], laidTests := true, laidLooks := .later }
def LexerNumbersUptoCardSaid : Prop := Claim7.holds Tryd.pinned (.plain (OpenSpec.upto lexerNumbersSpec)) lexerNumbersUptoCard

/-- THE SECOND FORM's CARD OF 'simulcastlaw43.LexerLong'. -/
def lexerLongUptoCard : Claim7 := { stood := { row := lexerLongUptoRow, standIns := [], harness := (true, "e7f6a710713c02de2fa7744dad84139e6514e1fe136181129e760642c89c9c17"), looks := true }, kinds := [], alts := [], laidByText := true, laidKinds := [.data, .data, .data, .sentinel, .sentinel, .widerDeep, .widerDeep], laidTests := true, laidLooks := .later }
def LexerLongUptoCardSaid : Prop := Claim7.holds Tryd.pinned (.plain (OpenSpec.upto lexerLongSpec)) lexerLongUptoCard

/-- THE SECOND FORM's CARD OF 'simulcastlaw43.LexerWords'. -/
def lexerWordsUptoCard : Claim7 := { stood := { row := lexerWordsUptoRow, standIns := [], harness := (true, "e7f6a710713c02de2fa7744dad84139e6514e1fe136181129e760642c89c9c17"), looks := true }, kinds := [], alts := [], laidByText := true, laidKinds := [.data, .data, .data, .sentinel, .sentinel, .widerDeep, .widerDeep], laidTests := true, laidLooks := .later }
def LexerWordsUptoCardSaid : Prop := Claim7.holds Tryd.pinned (.plain (OpenSpec.upto lexerWordsSpec)) lexerWordsUptoCard
end Rows
end Go.Proofs.YtjknmfnelkhmcaaDoor

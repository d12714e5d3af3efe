/-
  DERIVED. GIVEN WITH THE SEED: THE CARDS: each row of YtilapnejkdgomaaDoorRows.lean that lists a variable, with what it lists TIED to the program's text (the seventh form; the later family's looks); each row that meets fmt, with fmt's text TOLD by the authors' own Lean function (tested against real Go, not proved from fmt's source: count such statements apart). THE CARD IS WHAT COUNTS. Prove the row's statement (the work); the ties are given (YtilapnejkdgomaaDoorTie.lean); close each card by the builder's one call (the guide's Derived/Test/ToyasCard.lean, 'card_holds'). Laid BY PROGRAM, IN A SANDBOX (cutbox-door.mjs). By AI agents, Wed Nov 11 2026. No macro, syntax, notation, axiom, sorry.
-/
import Derived.Test.YtilapnejkdgomaaDoorRows
import GoSem.ClaimSeven
namespace Go.Proofs.YtilapnejkdgomaaDoor
namespace Rows

/-- THE TIED CARD OF 'simulcastlaw17.EntryChecks'. -/
def entryChecksCard : Claim7 := { stood := { row := entryChecksRow, standIns := [], harness := (true, "8f5a52914cf2a0bb5519e41a81a96a6aae0e5944a4008c7e6761a2bc3bd143c4"), looks := false }, kinds := [], alts := [], laidByText := true, laidKinds := [.data, .data, .data], laidTests := true, laidLooks := .later }
def EntryChecksCardSaid : Prop := Claim7.holds Tryd.pinned (.plain (OpenSpec.ofChange entryChecksSpec)) entryChecksCard

/-- THE TIED CARD OF 'simulcastlaw17.EntryTexts'. -/
def entryTextsCard : Claim7 := { stood := { row := entryTextsRow, standIns := [], harness := (true, "8f5a52914cf2a0bb5519e41a81a96a6aae0e5944a4008c7e6761a2bc3bd143c4"), looks := false }, kinds := [], alts := [], laidByText := true, laidKinds := [.data, .data, .data], laidTests := true, laidLooks := .later }
def EntryTextsCardSaid : Prop := Claim7.holds Tryd.pinned (.plain (OpenSpec.ofChange entryTextsSpec)) entryTextsCard

/-- THE TIED CARD OF 'simulcastlaw17.EntryMerges'. -/
def entryMergesCard : Claim7 := { stood := { row := entryMergesRow, standIns := [], harness := (true, "8f5a52914cf2a0bb5519e41a81a96a6aae0e5944a4008c7e6761a2bc3bd143c4"), looks := false }, kinds := [], alts := [], laidByText := true, laidKinds := [.data, .data, .data], laidTests := true, laidLooks := .later }
def EntryMergesCardSaid : Prop := Claim7.holds Tryd.pinned (.plain (OpenSpec.ofChange entryMergesSpec)) entryMergesCard

/-- THE TIED CARD OF 'simulcastlaw17.EntryThrees'. -/
def entryThreesCard : Claim7 := { stood := { row := entryThreesRow, standIns := [], harness := (true, "8f5a52914cf2a0bb5519e41a81a96a6aae0e5944a4008c7e6761a2bc3bd143c4"), looks := false }, kinds := [], alts := [], laidByText := true, laidKinds := [.data, .data, .data], laidTests := true, laidLooks := .later }
def EntryThreesCardSaid : Prop := Claim7.holds Tryd.pinned (.plain (OpenSpec.ofChange entryThreesSpec)) entryThreesCard

/-- THE TIED CARD OF 'simulcastlaw17.EntryKinds'. -/
def entryKindsCard : Claim7 := { stood := { row := entryKindsRow, standIns := [], harness := (true, "8f5a52914cf2a0bb5519e41a81a96a6aae0e5944a4008c7e6761a2bc3bd143c4"), looks := false }, kinds := [], alts := [], laidByText := true, laidKinds := [.data, .data, .data], laidTests := true, laidLooks := .later }
def EntryKindsCardSaid : Prop := Claim7.holds Tryd.pinned (.plain (OpenSpec.ofChange entryKindsSpec)) entryKindsCard

/-- THE TIED CARD OF 'simulcastlaw17.EntryNone'. -/
def entryNoneCard : Claim7 := { stood := { row := entryNoneRow, standIns := [], harness := (true, "8f5a52914cf2a0bb5519e41a81a96a6aae0e5944a4008c7e6761a2bc3bd143c4"), looks := false }, kinds := [], alts := [], laidByText := true, laidKinds := [.data, .data, .data], laidTests := true, laidLooks := .later }
def EntryNoneCardSaid : Prop := Claim7.holds Tryd.pinned (.plain (OpenSpec.ofChange entryNoneSpec)) entryNoneCard

/-- THE TIED CARD OF 'simulcastlaw17.EntrySorts'. -/
def entrySortsCard : Claim7 := { stood := { row := entrySortsRow, standIns := [], harness := (true, "8f5a52914cf2a0bb5519e41a81a96a6aae0e5944a4008c7e6761a2bc3bd143c4"), looks := false }, kinds := [], alts := [], laidByText := true, laidKinds := [.data, .data, .data], laidTests := true, laidLooks := .later }
def EntrySortsCardSaid : Prop := Claim7.holds Tryd.pinned (.plain (OpenSpec.ofChange entrySortsSpec)) entrySortsCard

/-- THE SECOND FORM's CARD OF 'simulcastlaw17.EntryChecks'. -/
def entryChecksUptoCard : Claim7 := { stood := { row := entryChecksUptoRow, standIns := [], harness := (true, "8f5a52914cf2a0bb5519e41a81a96a6aae0e5944a4008c7e6761a2bc3bd143c4"), looks := false }, kinds := [], alts := [], laidByText := true, laidKinds := [.data, .data, .data], laidTests := true, laidLooks := .later }
def EntryChecksUptoCardSaid : Prop := Claim7.holds Tryd.pinned (.plain (OpenSpec.upto entryChecksSpec)) entryChecksUptoCard

/-- THE SECOND FORM's CARD OF 'simulcastlaw17.EntryTexts'. -/
def entryTextsUptoCard : Claim7 := { stood := { row := entryTextsUptoRow, standIns := [], harness := (true, "8f5a52914cf2a0bb5519e41a81a96a6aae0e5944a4008c7e6761a2bc3bd143c4"), looks := false }, kinds := [], alts := [], laidByText := true, laidKinds := [.data, .data, .data], laidTests := true, laidLooks := .later }
def EntryTextsUptoCardSaid : Prop := Claim7.holds Tryd.pinned (.plain (OpenSpec.upto entryTextsSpec)) entryTextsUptoCard

/-- THE SECOND FORM's CARD OF 'simulcastlaw17.EntryMerges'. -/
def entryMergesUptoCard : Claim7 := { stood := { row := entryMergesUptoRow, standIns := [], harness := (true, "8f5a52914cf2a0bb5519e41a81a96a6aae0e5944a4008c7e6761a2bc3bd143c4"), looks := false }, kinds := [], alts := [], laidByText := true, laidKinds := [.data, .data, .data], laidTests := true, laidLooks := .later }
def EntryMergesUptoCardSaid : Prop := Claim7.holds Tryd.pinned (.plain (OpenSpec.upto entryMergesSpec)) entryMergesUptoCard

/-- THE SECOND FORM's CARD OF 'simulcastlaw17.EntryThrees'. -/
def entryThreesUptoCard : Claim7 := { stood := { row := entryThreesUptoRow, standIns := [], harness := (true, "8f5a52914cf2a0bb5519e41a81a96a6aae0e5944a4008c7e6761a2bc3bd143c4"), looks := false }, kinds := [], alts := [], laidByText := true, laidKinds := [.data, .data, .data], laidTests := true, laidLooks := .later }
def EntryThreesUptoCardSaid : Prop := Claim7.holds Tryd.pinned (.plain (OpenSpec.upto entryThreesSpec)) entryThreesUptoCard

/-- THE SECOND FORM's CARD OF 'simulcastlaw17.EntryKinds'. -/
def entryKindsUptoCard : Claim7 := { stood := { row := entryKindsUptoRow, standIns := [], harness := (true, "8f5a52914cf2a0bb5519e41a81a96a6aae0e5944a4008c7e6761a2bc3bd143c4"), looks := false }, kinds := [], alts := [], laidByText := true, laidKinds := [.data, .data, .data], laidTests := true, laidLooks := .later }
def EntryKindsUptoCardSaid : Prop := Claim7.holds Tryd.pinned (.plain (OpenSpec.upto entryKindsSpec)) entryKindsUptoCard

/-- THE SECOND FORM's CARD OF 'simulcastlaw17.EntryNone'. -/
def entryNoneUptoCard : Claim7 := { stood := { row := entryNoneUptoRow, standIns := [], harness := (true, "8f5a52914cf2a0bb5519e41a81a96a6aae0e5944a4008c7e6761a2bc3bd143c4"), looks := false }, kinds := [], alts := [], laidByText := true, laidKinds := [.data, .data, .data], laidTests := true, laidLooks := .later }
def EntryNoneUptoCardSaid : Prop := Claim7.holds Tryd.pinned (.plain (OpenSpec.upto entryNoneSpec)) entryNoneUptoCard

/-- THE SECOND FORM's CARD OF 'simulcastlaw17.EntrySorts'. -/
def entrySortsUptoCard : Claim7 := { stood := { row := entrySortsUptoRow, standIns := [], harness := (true, "8f5a52914cf2a0bb5519e41a81a96a6aae0e5944a4008c7e6761a2bc3bd143c4"), looks := false }, kinds := [], alts := [], laidByText := true, laidKinds := [.data, .data, .data], laidTests := true, laidLooks := .later }
def EntrySortsUptoCardSaid : Prop := Claim7.holds Tryd.pinned (.plain (OpenSpec.upto entrySortsSpec)) entrySortsUptoCard
end Rows
end Go.Proofs.YtilapnejkdgomaaDoor

/-
  DERIVED. GIVEN WITH THE SEED: THE CARDS: each row of YtonlmkcolndaaaaGreatDoorRows.lean that lists a variable, with what it lists TIED to the program's text (the seventh form; the later family's looks); each row that meets fmt, with fmt's text TOLD by the authors' own Lean function (tested against real Go, not proved from fmt's source: count such statements apart). THE CARD IS WHAT COUNTS. Prove the row's statement (the work); the ties are given (YtonlmkcolndaaaaGreatDoorTie.lean); close each card by the builder's one call (the guide's Derived/Test/ToyasCard.lean, 'card_holds'). Laid BY PROGRAM, IN A SANDBOX (cutbox-door.mjs). By AI agents, Wed Nov 11 2026. No macro, syntax, notation, axiom, sorry.
-/
import Derived.Test.YtonlmkcolndaaaaGreatDoorRows
import GoSem.ClaimSeven
namespace Go.Proofs.YtonlmkcolndaaaaGreatDoor
namespace Rows

/-- THE TIED CARD OF 'pacesetterlaw22.TraceLines'. -/
def traceLinesCard : Claim7 := { stood := { row := traceLinesRow, standIns := [], harness := (true, "5391afd318b96d1f4be777c601d503e6b0e5f04e5c90b9ebc2c617c3178737fd"), looks := true }, kinds := [], alts := [], laidByText := true, laidKinds := [.data, .data, .data, .data, .sentinel, .sentinel, .pinned], laidTests := true, laidLooks := .later }
def TraceLinesCardSaid : Prop := Claim7.holds Tryz.pinned (.plain (OpenSpec.ofChange traceLinesSpec)) traceLinesCard

/-- THE TIED CARD OF 'pacesetterlaw22.TraceReads'. -/
def traceReadsCard : Claim7 := { stood := { row := traceReadsRow, standIns := [], harness := (true, "5391afd318b96d1f4be777c601d503e6b0e5f04e5c90b9ebc2c617c3178737fd"), looks := true }, kinds := [], alts := [], laidByText := true, laidKinds := [.data, .data, .data, .data, .sentinel, .sentinel, .pinned], laidTests := true, laidLooks := .later }
def TraceReadsCardSaid : Prop := Claim7.holds Tryz.pinned (.plain (OpenSpec.ofChange traceReadsSpec)) traceReadsCard

/-- THE TIED CARD OF 'pacesetterlaw22.TraceBack'. -/
def traceBackCard : Claim7 := { stood := { row := traceBackRow, standIns := [], harness := (true, "5391afd318b96d1f4be777c601d503e6b0e5f04e5c90b9ebc2c617c3178737fd"), looks := true }, kinds := [], alts := [], laidByText := true, laidKinds := [.data, .data, .data, .data, .sentinel, .sentinel, .pinned], laidTests := true, laidLooks := .later }
def TraceBackCardSaid : Prop := Claim7.holds Tryz.pinned (.plain (OpenSpec.ofChange traceBackSpec)) traceBackCard

/-- THE TIED CARD OF 'pacesetterlaw22.TraceRecords'. -/
def traceRecordsCard : Claim7 := { stood := { row := traceRecordsRow, standIns := [], harness := (true, "5391afd318b96d1f4be777c601d503e6b0e5f04e5c90b9ebc2c617c3178737fd"), looks := true }, kinds := [], alts := [], laidByText := true, laidKinds := [.data, .data, .data, .data, .sentinel, .sentinel, .pinned], laidTests := true, laidLooks := .later }
def TraceRecordsCardSaid : Prop := Claim7.holds Tryz.pinned (.plain (OpenSpec.ofChange traceRecordsSpec)) traceRecordsCard

/-- THE TIED CARD OF 'pacesetterlaw22.TraceOnly'. -/
def traceOnlyCard : Claim7 := { stood := { row := traceOnlyRow, standIns := [], harness := (true, "5391afd318b96d1f4be777c601d503e6b0e5f04e5c90b9ebc2c617c3178737fd"), looks := true }, kinds := [], alts := [], laidByText := true, laidKinds := [.data, .data, .data, .data, .sentinel, .sentinel, .pinned], laidTests := true, laidLooks := .later }
def TraceOnlyCardSaid : Prop := Claim7.holds Tryz.pinned (.plain (OpenSpec.ofChange traceOnlySpec)) traceOnlyCard

/-- THE SECOND FORM's CARD OF 'pacesetterlaw22.TraceLines'. -/
def traceLinesUptoCard : Claim7 := { stood := { row := traceLinesUptoRow, standIns := [], harness := (true, "5391afd318b96d1f4be777c601d503e6b0e5f04e5c90b9ebc2c617c3178737fd"), looks := true }, kinds := [], alts := [], laidByText := true, laidKinds := [.data, .data, .data, .data, .sentinel, .sentinel, .pinned], laidTests := true, laidLooks := .later }
def TraceLinesUptoCardSaid : Prop := Claim7.holds Tryz.pinned (.plain (OpenSpec.upto traceLinesSpec)) traceLinesUptoCard

/-- THE SECOND FORM's CARD OF 'pacesetterlaw22.TraceReads'. -/
def traceReadsUptoCard : Claim7 := { stood := { row := traceReadsUptoRow, standIns := [], harness := (true, "5391afd318b96d1f4be777c601d503e6b0e5f04e5c90b9ebc2c617c3178737fd"), looks := true }, kinds := [], alts := [], laidByText := true, laidKinds := [.data, .data, .data, .data, .sentinel, .sentinel, .pinned], laidTests := true, laidLooks := .later }
def TraceReadsUptoCardSaid : Prop := Claim7.holds Tryz.pinned (.plain (OpenSpec.upto traceReadsSpec)) traceReadsUptoCard

/-- THE SECOND FORM's CARD OF 'pacesetterlaw22.TraceBack'. -/
def traceBackUptoCard : Claim7 := { stood := { row := traceBackUptoRow, standIns := [], harness := (true, "5391afd318b96d1f4be777c601d503e6b0e5f04e5c90b9ebc2c617c3178737fd"), looks := true }, kinds := [], alts := [], laidByText := true, laidKinds := [.data, .data, .data, .data, .sentinel, .sentinel, .pinned], laidTests := true, laidLooks := .later }
def TraceBackUptoCardSaid : Prop := Claim7.holds Tryz.pinned (.plain (OpenSpec.upto traceBackSpec)) traceBackUptoCard

/-- THE SECOND FORM's CARD OF 'pacesetterlaw22.TraceRecords'. -/
def traceRecordsUptoCard : Claim7 := { stood := { row := traceRecordsUptoRow, standIns := [], harness := (true, "5391afd318b96d1f4be777c601d503e6b0e5f04e5c90b9ebc2c617c3178737fd"), looks := true }, kinds := [], alts := [], laidByText := true, laidKinds := [.data, .data, .data, .data, .sentinel, .sentinel, .pinned], laidTests := true, laidLooks := .later }
def TraceRecordsUptoCardSaid : Prop := Claim7.holds Tryz.pinned (.plain (OpenSpec.upto traceRecordsSpec)) traceRecordsUptoCard

/-- THE SECOND FORM's CARD OF 'pacesetterlaw22.TraceOnly'. -/
def traceOnlyUptoCard : Claim7 := { stood := { row := traceOnlyUptoRow, standIns := [], harness := (true, "5391afd318b96d1f4be777c601d503e6b0e5f04e5c90b9ebc2c617c3178737fd"), looks := true }, kinds := [], alts := [], laidByText := true, laidKinds := [.data, .data, .data, .data, .sentinel, .sentinel, .pinned], laidTests := true, laidLooks := .later }
def TraceOnlyUptoCardSaid : Prop := Claim7.holds Tryz.pinned (.plain (OpenSpec.upto traceOnlySpec)) traceOnlyUptoCard
end Rows
end Go.Proofs.YtonlmkcolndaaaaGreatDoor

/-
  DERIVED. GIVEN WITH THE SEED: THE CARDS: each row of YtodjeidofgbdlaaDoorRows.lean that lists a variable, with what it lists TIED to the program's text (the seventh form; the later family's looks); each row that meets fmt, with fmt's text TOLD by the authors' own Lean function (tested against real Go, not proved from fmt's source: count such statements apart). THE CARD IS WHAT COUNTS. Prove the row's statement (the work); the ties are given (YtodjeidofgbdlaaDoorTie.lean); close each card by the builder's one call (the guide's Derived/Test/ToyasCard.lean, 'card_holds'). Laid BY PROGRAM, IN A SANDBOX (cutbox-door.mjs). By AI agents, Wed Nov 11 2026. No macro, syntax, notation, axiom, sorry.
-/
import Derived.Test.YtodjeidofgbdlaaDoorRows
import GoSem.ClaimSeven
namespace Go.Proofs.YtodjeidofgbdlaaDoor
namespace Rows

/-- THE TIED CARD OF 'lessorlaw27.TraceLines'. -/
def traceLinesCard : Claim7 := { stood := { row := traceLinesRow, standIns := [], harness := (true, "56a64f6af30a2fe356ea5239f63c67fce476b60f46a33b2e608d4d56d021bbdf"), looks := true }, kinds := [], alts := [], laidByText := true, laidKinds := [.data, .data, .data, .data, .sentinel, .sentinel, .pinned], laidTests := true, laidLooks := .later }
def TraceLinesCardSaid : Prop := Claim7.holds Tryd.pinned (.plain (OpenSpec.ofChange traceLinesSpec)) traceLinesCard

/-- THE TIED CARD OF 'lessorlaw27.TraceBack'. -/
def traceBackCard : Claim7 := { stood := { row := traceBackRow, standIns := [], harness := (true, "56a64f6af30a2fe356ea5239f63c67fce476b60f46a33b2e608d4d56d021bbdf"), looks := true }, kinds := [], alts := [], laidByText := true, laidKinds := [.data, .data, .data, .data, .sentinel, .sentinel, .pinned], laidTests := true, laidLooks := .later }
def TraceBackCardSaid : Prop := Claim7.holds Tryd.pinned (.plain (OpenSpec.ofChange traceBackSpec)) traceBackCard

/-- THE TIED CARD OF 'lessorlaw27.TraceTexts'. -/
def traceTextsCard : Claim7 := { stood := { row := traceTextsRow, standIns := [], harness := (true, "56a64f6af30a2fe356ea5239f63c67fce476b60f46a33b2e608d4d56d021bbdf"), looks := true }, kinds := [], alts := [], laidByText := true, laidKinds := [.data, .data, .data, .data, .sentinel, .sentinel, .pinned], laidTests := true, laidLooks := .later }
def TraceTextsCardSaid : Prop := Claim7.holds Tryd.pinned (.plain (OpenSpec.ofChange traceTextsSpec)) traceTextsCard

/-- THE TIED CARD OF 'lessorlaw27.TraceReads'. -/
def traceReadsCard : Claim7 := { stood := { row := traceReadsRow, standIns := [], harness := (true, "56a64f6af30a2fe356ea5239f63c67fce476b60f46a33b2e608d4d56d021bbdf"), looks := true }, kinds := [], alts := [], laidByText := true, laidKinds := [.data, .data, .data, .data, .sentinel, .sentinel, .pinned], laidTests := true, laidLooks := .later }
def TraceReadsCardSaid : Prop := Claim7.holds Tryd.pinned (.plain (OpenSpec.ofChange traceReadsSpec)) traceReadsCard

/-- THE SECOND FORM's CARD OF 'lessorlaw27.TraceLines'. -/
def traceLinesUptoCard : Claim7 := { stood := { row := traceLinesUptoRow, standIns := [], harness := (true, "56a64f6af30a2fe356ea5239f63c67fce476b60f46a33b2e608d4d56d021bbdf"), looks := true }, kinds := [], alts := [], laidByText := true, laidKinds := [.data, .data, .data, .data, .sentinel, .sentinel, .pinned], laidTests := true, laidLooks := .later }
def TraceLinesUptoCardSaid : Prop := Claim7.holds Tryd.pinned (.plain (OpenSpec.upto traceLinesSpec)) traceLinesUptoCard

/-- THE SECOND FORM's CARD OF 'lessorlaw27.TraceBack'. -/
def traceBackUptoCard : Claim7 := { stood := { row := traceBackUptoRow, standIns := [], harness := (true, "56a64f6af30a2fe356ea5239f63c67fce476b60f46a33b2e608d4d56d021bbdf"), looks := true }, kinds := [], alts := [], laidByText := true, laidKinds := [.data, .data, .data, .data, .sentinel, .sentinel, .pinned], laidTests := true, laidLooks := .later }
def TraceBackUptoCardSaid : Prop := Claim7.holds Tryd.pinned (.plain (OpenSpec.upto traceBackSpec)) traceBackUptoCard

/-- THE SECOND FORM's CARD OF 'lessorlaw27.TraceTexts'. -/
def traceTextsUptoCard : Claim7 := { stood := { row := traceTextsUptoRow, standIns := [], harness := (true, "56a64f6af30a2fe356ea5239f63c67fce476b60f46a33b2e608d4d56d021bbdf"), looks := true }, kinds := [], alts := [], laidByText := true, laidKinds := [.data, .data, .data, .data, .sentinel, .sentinel, .pinned], laidTests := true, laidLooks := .later }
def TraceTextsUptoCardSaid : Prop := Claim7.holds Tryd.pinned (.plain (OpenSpec.upto traceTextsSpec)) traceTextsUptoCard

/-- THE SECOND FORM's CARD OF 'lessorlaw27.TraceReads'. -/
def traceReadsUptoCard : Claim7 := { stood := { row := traceReadsUptoRow, standIns := [], harness := (true, "56a64f6af30a2fe356ea5239f63c67fce476b60f46a33b2e608d4d56d021bbdf"), looks := true }, kinds := [], alts := [], laidByText := true, laidKinds := [.data, .data, .data, .data, .sentinel, .sentinel, .pinned], laidTests := true, laidLooks := .later }
def TraceReadsUptoCardSaid : Prop := Claim7.holds Tryd.pinned (.plain (OpenSpec.upto traceReadsSpec)) traceReadsUptoCard
end Rows
end Go.Proofs.YtodjeidofgbdlaaDoor

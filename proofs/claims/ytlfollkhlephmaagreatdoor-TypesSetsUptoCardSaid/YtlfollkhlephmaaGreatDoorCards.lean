/-
  DERIVED. GIVEN WITH THE SEED: THE CARDS: each row of YtlfollkhlephmaaGreatDoorRows.lean that lists a variable, with what it lists TIED to the program's text (the seventh form; the later family's looks); each row that meets fmt, with fmt's text TOLD by the authors' own Lean function (tested against real Go, not proved from fmt's source: count such statements apart). THE CARD IS WHAT COUNTS. Prove the row's statement (the work); the ties are given (YtlfollkhlephmaaGreatDoorTie.lean); close each card by the builder's one call (the guide's Derived/Test/ToyasCard.lean, 'card_holds'). Laid BY PROGRAM, IN A SANDBOX (cutbox-door.mjs). By AI agents, Wed Nov 11 2026. No macro, syntax, notation, axiom, sorry.
-/
import Derived.Test.YtlfollkhlephmaaGreatDoorRows
import GoSem.ClaimSeven
namespace Go.Proofs.YtlfollkhlephmaaGreatDoor
namespace Rows

/-- THE TIED CARD OF 'pendulelaw08.TypesSets'. -/
def typesSetsCard : Claim7 := { stood := { row := typesSetsRow, standIns := [], harness := (true, "1fbad32b9044192f7820bff6c923d71bc5bd5356df93f292cbbdfce6d0bd8657"), looks := true }, kinds := [], alts := [], laidByText := true, laidKinds := [.data, .data, .data, .sentinel, .sentinel], laidTests := true, laidLooks := .later }
def TypesSetsCardSaid : Prop := Claim7.holds Tryz.pinned (.plain (OpenSpec.ofChange typesSetsSpec)) typesSetsCard

/-- THE TIED CARD OF 'pendulelaw11.CauseReads'. -/
def causeReadsCard : Claim7 := { stood := { row := causeReadsRow, standIns := [], harness := (true, "1fbad32b9044192f7820bff6c923d71bc5bd5356df93f292cbbdfce6d0bd8657"), looks := true }, kinds := [], alts := [], laidByText := true, laidKinds := [.data, .data, .data, .sentinel, .sentinel], laidTests := true, laidLooks := .later }
def CauseReadsCardSaid : Prop := Claim7.holds Tryz.pinned (.plain (OpenSpec.ofChange causeReadsSpec)) causeReadsCard

/-- THE TIED CARD OF 'pendulelaw11.CauseDelays'. -/
def causeDelaysCard : Claim7 := { stood := { row := causeDelaysRow, standIns := [], harness := (true, "1fbad32b9044192f7820bff6c923d71bc5bd5356df93f292cbbdfce6d0bd8657"), looks := true }, kinds := [], alts := [], laidByText := true, laidKinds := [.data, .data, .data, .sentinel, .sentinel], laidTests := true, laidLooks := .later }
def CauseDelaysCardSaid : Prop := Claim7.holds Tryz.pinned (.plain (OpenSpec.ofChange causeDelaysSpec)) causeDelaysCard

/-- THE SECOND FORM's CARD OF 'pendulelaw08.TypesSets'. -/
def typesSetsUptoCard : Claim7 := { stood := { row := typesSetsUptoRow, standIns := [], harness := (true, "1fbad32b9044192f7820bff6c923d71bc5bd5356df93f292cbbdfce6d0bd8657"), looks := true }, kinds := [], alts := [], laidByText := true, laidKinds := [.data, .data, .data, .sentinel, .sentinel], laidTests := true, laidLooks := .later }
def TypesSetsUptoCardSaid : Prop := Claim7.holds Tryz.pinned (.plain (OpenSpec.upto typesSetsSpec)) typesSetsUptoCard

/-- THE SECOND FORM's CARD OF 'pendulelaw11.CauseReads'. -/
def causeReadsUptoCard : Claim7 := { stood := { row := causeReadsUptoRow, standIns := [], harness := (true, "1fbad32b9044192f7820bff6c923d71bc5bd5356df93f292cbbdfce6d0bd8657"), looks := true }, kinds := [], alts := [], laidByText := true, laidKinds := [.data, .data, .data, .sentinel, .sentinel], laidTests := true, laidLooks := .later }
def CauseReadsUptoCardSaid : Prop := Claim7.holds Tryz.pinned (.plain (OpenSpec.upto causeReadsSpec)) causeReadsUptoCard

/-- THE SECOND FORM's CARD OF 'pendulelaw11.CauseDelays'. -/
def causeDelaysUptoCard : Claim7 := { stood := { row := causeDelaysUptoRow, standIns := [], harness := (true, "1fbad32b9044192f7820bff6c923d71bc5bd5356df93f292cbbdfce6d0bd8657"), looks := true }, kinds := [], alts := [], laidByText := true, laidKinds := [.data, .data, .data, .sentinel, .sentinel], laidTests := true, laidLooks := .later }
def CauseDelaysUptoCardSaid : Prop := Claim7.holds Tryz.pinned (.plain (OpenSpec.upto causeDelaysSpec)) causeDelaysUptoCard
end Rows
end Go.Proofs.YtlfollkhlephmaaGreatDoor

/-
  DERIVED. GIVEN WITH THE SEED: THE CARDS: each row of YtjjhaackoflfdaaGreatDoorRows.lean that lists a variable, with what it lists TIED to the program's text (the seventh form; the later family's looks); each row that meets fmt, with fmt's text TOLD by the authors' own Lean function (tested against real Go, not proved from fmt's source: count such statements apart). THE CARD IS WHAT COUNTS. Prove the row's statement (the work); the ties are given (YtjjhaackoflfdaaGreatDoorTie.lean); close each card by the builder's one call (the guide's Derived/Test/ToyasCard.lean, 'card_holds'). Laid BY PROGRAM, IN A SANDBOX (cutbox-door.mjs). By AI agents, Wed Nov 11 2026. No macro, syntax, notation, axiom, sorry.
-/
import Derived.Test.YtjjhaackoflfdaaGreatDoorRows
import GoSem.ClaimSeven
namespace Go.Proofs.YtjjhaackoflfdaaGreatDoor
namespace Rows

/-- THE TIED CARD OF 'glosslaw8.CmdRuns'. -/
def cmdRunsCard : Claim7 := { stood := { row := cmdRunsRow, standIns := [], harness := (true, "9bae688cbbd1a138a0a7fda282ddf5daf9c49590385acc493849e17833d64f65"), looks := true }, kinds := [], alts := [], laidByText := true, laidKinds := [.data, .data, .data, .data, .pinned], laidTests := true, laidLooks := .later }
def CmdRunsCardSaid : Prop := Claim7.holds Tryz.pinned (.plain (OpenSpec.ofChange cmdRunsSpec)) cmdRunsCard

/-- THE TIED CARD OF 'glosslaw10.ProgRuns'. -/
def progRunsCard : Claim7 := { stood := { row := progRunsRow, standIns := [], harness := (true, "9bae688cbbd1a138a0a7fda282ddf5daf9c49590385acc493849e17833d64f65"), looks := true }, kinds := [], alts := [], laidByText := true, laidKinds := [.data, .data, .data, .data, .pinned], laidTests := true, laidLooks := .later }
def ProgRunsCardSaid : Prop := Claim7.holds Tryz.pinned (.plain (OpenSpec.ofChange progRunsSpec)) progRunsCard

/-- THE TIED CARD OF 'glosslaw11.StateRuns'. -/
def stateRunsCard : Claim7 := { stood := { row := stateRunsRow, standIns := [], harness := (true, "9bae688cbbd1a138a0a7fda282ddf5daf9c49590385acc493849e17833d64f65"), looks := true }, kinds := [], alts := [], laidByText := true, laidKinds := [.data, .data, .data, .data, .pinned], laidTests := true, laidLooks := .later }
def StateRunsCardSaid : Prop := Claim7.holds Tryz.pinned (.plain (OpenSpec.ofChange stateRunsSpec)) stateRunsCard

/-- THE TIED CARD OF 'glosslaw9.ReadRuns'. -/
def readRunsCard : Claim7 := { stood := { row := readRunsRow, standIns := [], harness := (true, "9bae688cbbd1a138a0a7fda282ddf5daf9c49590385acc493849e17833d64f65"), looks := true }, kinds := [], alts := [], laidByText := true, laidKinds := [.data, .data, .data, .data, .pinned], laidTests := true, laidLooks := .later }
def ReadRunsCardSaid : Prop := Claim7.holds Tryz.pinned (.plain (OpenSpec.ofChange readRunsSpec)) readRunsCard

/-- THE SECOND FORM's CARD OF 'glosslaw8.CmdRuns'. -/
def cmdRunsUptoCard : Claim7 := { stood := { row := cmdRunsUptoRow, standIns := [], harness := (true, "9bae688cbbd1a138a0a7fda282ddf5daf9c49590385acc493849e17833d64f65"), looks := true }, kinds := [], alts := [], laidByText := true, laidKinds := [.data, .data, .data, .data, .pinned], laidTests := true, laidLooks := .later }
def CmdRunsUptoCardSaid : Prop := Claim7.holds Tryz.pinned (.plain (OpenSpec.upto cmdRunsSpec)) cmdRunsUptoCard

/-- THE SECOND FORM's CARD OF 'glosslaw10.ProgRuns'. -/
def progRunsUptoCard : Claim7 := { stood := { row := progRunsUptoRow, standIns := [], harness := (true, "9bae688cbbd1a138a0a7fda282ddf5daf9c49590385acc493849e17833d64f65"), looks := true }, kinds := [], alts := [], laidByText := true, laidKinds := [.data, .data, .data, .data, .pinned], laidTests := true, laidLooks := .later }
def ProgRunsUptoCardSaid : Prop := Claim7.holds Tryz.pinned (.plain (OpenSpec.upto progRunsSpec)) progRunsUptoCard

/-- THE SECOND FORM's CARD OF 'glosslaw11.StateRuns'. -/
def stateRunsUptoCard : Claim7 := { stood := { row := stateRunsUptoRow, standIns := [], harness := (true, "9bae688cbbd1a138a0a7fda282ddf5daf9c49590385acc493849e17833d64f65"), looks := true }, kinds := [], alts := [], laidByText := true, laidKinds := [.data, .data, .data, .data, .pinned], laidTests := true, laidLooks := .later }
def StateRunsUptoCardSaid : Prop := Claim7.holds Tryz.pinned (.plain (OpenSpec.upto stateRunsSpec)) stateRunsUptoCard

/-- THE SECOND FORM's CARD OF 'glosslaw9.ReadRuns'. -/
def readRunsUptoCard : Claim7 := { stood := { row := readRunsUptoRow, standIns := [], harness := (true, "9bae688cbbd1a138a0a7fda282ddf5daf9c49590385acc493849e17833d64f65"), looks := true }, kinds := [], alts := [], laidByText := true, laidKinds := [.data, .data, .data, .data, .pinned], laidTests := true, laidLooks := .later }
def ReadRunsUptoCardSaid : Prop := Claim7.holds Tryz.pinned (.plain (OpenSpec.upto readRunsSpec)) readRunsUptoCard
end Rows
end Go.Proofs.YtjjhaackoflfdaaGreatDoor

/-
  DERIVED. GIVEN WITH THE SEED: THE CARDS: each row of YtghmlonankhcgaaGreatDoorRows.lean that lists a variable, with what it lists TIED to the program's text (the seventh form; the later family's looks); each row that meets fmt, with fmt's text TOLD by the authors' own Lean function (tested against real Go, not proved from fmt's source: count such statements apart). THE CARD IS WHAT COUNTS. Prove the row's statement (the work); the ties are given (YtghmlonankhcgaaGreatDoorTie.lean); close each card by the builder's one call (the guide's Derived/Test/ToyasCard.lean, 'card_holds'). Laid BY PROGRAM, IN A SANDBOX (cutbox-door.mjs). By AI agents, Wed Nov 11 2026. No macro, syntax, notation, axiom, sorry.
-/
import Derived.Test.YtghmlonankhcgaaGreatDoorRows
import GoSem.ClaimSeven
namespace Go.Proofs.YtghmlonankhcgaaGreatDoor
namespace Rows

/-- THE TIED CARD OF 'glosslaw8.CmdLabels'. -/
def cmdLabelsCard : Claim7 := { stood := { row := cmdLabelsRow, standIns := [], harness := (true, "4ec9f955391f9513a3493341a292366052690fe72c332b65aaef75999cc96439"), looks := true }, kinds := [], alts := [], laidByText := true, laidKinds := [.data, .data, .data, .data, .pinned], laidTests := true, laidLooks := .later }
def CmdLabelsCardSaid : Prop := Claim7.holds Tryz.pinned (.plain (OpenSpec.ofChange cmdLabelsSpec)) cmdLabelsCard

/-- THE TIED CARD OF 'glosslaw10.ProgJumps'. -/
def progJumpsCard : Claim7 := { stood := { row := progJumpsRow, standIns := [], harness := (true, "4ec9f955391f9513a3493341a292366052690fe72c332b65aaef75999cc96439"), looks := true }, kinds := [], alts := [], laidByText := true, laidKinds := [.data, .data, .data, .data, .pinned], laidTests := true, laidLooks := .later }
def ProgJumpsCardSaid : Prop := Claim7.holds Tryz.pinned (.plain (OpenSpec.ofChange progJumpsSpec)) progJumpsCard

/-- THE TIED CARD OF 'glosslaw11.StateMany'. -/
def stateManyCard : Claim7 := { stood := { row := stateManyRow, standIns := [], harness := (true, "4ec9f955391f9513a3493341a292366052690fe72c332b65aaef75999cc96439"), looks := true }, kinds := [], alts := [], laidByText := true, laidKinds := [.data, .data, .data, .data, .pinned], laidTests := true, laidLooks := .later }
def StateManyCardSaid : Prop := Claim7.holds Tryz.pinned (.plain (OpenSpec.ofChange stateManySpec)) stateManyCard

/-- THE SECOND FORM's CARD OF 'glosslaw8.CmdLabels'. -/
def cmdLabelsUptoCard : Claim7 := { stood := { row := cmdLabelsUptoRow, standIns := [], harness := (true, "4ec9f955391f9513a3493341a292366052690fe72c332b65aaef75999cc96439"), looks := true }, kinds := [], alts := [], laidByText := true, laidKinds := [.data, .data, .data, .data, .pinned], laidTests := true, laidLooks := .later }
def CmdLabelsUptoCardSaid : Prop := Claim7.holds Tryz.pinned (.plain (OpenSpec.upto cmdLabelsSpec)) cmdLabelsUptoCard

/-- THE SECOND FORM's CARD OF 'glosslaw10.ProgJumps'. -/
def progJumpsUptoCard : Claim7 := { stood := { row := progJumpsUptoRow, standIns := [], harness := (true, "4ec9f955391f9513a3493341a292366052690fe72c332b65aaef75999cc96439"), looks := true }, kinds := [], alts := [], laidByText := true, laidKinds := [.data, .data, .data, .data, .pinned], laidTests := true, laidLooks := .later }
def ProgJumpsUptoCardSaid : Prop := Claim7.holds Tryz.pinned (.plain (OpenSpec.upto progJumpsSpec)) progJumpsUptoCard

/-- THE SECOND FORM's CARD OF 'glosslaw11.StateMany'. -/
def stateManyUptoCard : Claim7 := { stood := { row := stateManyUptoRow, standIns := [], harness := (true, "4ec9f955391f9513a3493341a292366052690fe72c332b65aaef75999cc96439"), looks := true }, kinds := [], alts := [], laidByText := true, laidKinds := [.data, .data, .data, .data, .pinned], laidTests := true, laidLooks := .later }
def StateManyUptoCardSaid : Prop := Claim7.holds Tryz.pinned (.plain (OpenSpec.upto stateManySpec)) stateManyUptoCard
end Rows
end Go.Proofs.YtghmlonankhcgaaGreatDoor

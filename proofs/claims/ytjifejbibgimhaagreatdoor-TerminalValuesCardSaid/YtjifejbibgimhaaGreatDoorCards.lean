/-
  DERIVED. GIVEN WITH THE SEED: THE CARDS: each row of YtjifejbibgimhaaGreatDoorRows.lean that lists a variable, with what it lists TIED to the program's text (the seventh form; the later family's looks); each row that meets fmt, with fmt's text TOLD by the authors' own Lean function (tested against real Go, not proved from fmt's source: count such statements apart). THE CARD IS WHAT COUNTS. Prove the row's statement (the work); the ties are given (YtjifejbibgimhaaGreatDoorTie.lean); close each card by the builder's one call (the guide's Derived/Test/ToyasCard.lean, 'card_holds'). Laid BY PROGRAM, IN A SANDBOX (cutbox-door.mjs). By AI agents, Wed Nov 11 2026. No macro, syntax, notation, axiom, sorry.
-/
import Derived.Test.YtjifejbibgimhaaGreatDoorRows
import GoSem.ClaimSeven
namespace Go.Proofs.YtjifejbibgimhaaGreatDoor
namespace Rows

/-- THE TIED CARD OF 'replevinlaw36.TerminalLines'. -/
def terminalLinesCard : Claim7 := { stood := { row := terminalLinesRow, standIns := [], harness := (true, "5766a47c93d63d0f62d43888f57d5a2a1a31d96c118970d8b5d8d204510af3a4"), looks := true }, kinds := [], alts := [], laidByText := true, laidKinds := [.data, .data, .data, .sentinel, .sentinel], laidTests := true, laidLooks := .later }
def TerminalLinesCardSaid : Prop := Claim7.holds Tryz.pinned (.plain (OpenSpec.ofChange terminalLinesSpec)) terminalLinesCard

/-- THE TIED CARD OF 'replevinlaw36.TerminalSessions'. -/
def terminalSessionsCard : Claim7 := { stood := { row := terminalSessionsRow, standIns := [], harness := (true, "5766a47c93d63d0f62d43888f57d5a2a1a31d96c118970d8b5d8d204510af3a4"), looks := true }, kinds := [], alts := [], laidByText := true, laidKinds := [.data, .data, .data, .sentinel, .sentinel], laidTests := true, laidLooks := .later }
def TerminalSessionsCardSaid : Prop := Claim7.holds Tryz.pinned (.plain (OpenSpec.ofChange terminalSessionsSpec)) terminalSessionsCard

/-- THE TIED CARD OF 'replevinlaw36.TerminalValues'. -/
def terminalValuesCard : Claim7 := { stood := { row := terminalValuesRow, standIns := [], harness := (true, "5766a47c93d63d0f62d43888f57d5a2a1a31d96c118970d8b5d8d204510af3a4"), looks := true }, kinds := [], alts := [], laidByText := true, laidKinds := [.data, .data, .data, .sentinel, .sentinel], laidTests := true, laidLooks := .later }
def TerminalValuesCardSaid : Prop := Claim7.holds Tryz.pinned (.plain (OpenSpec.ofChange terminalValuesSpec)) terminalValuesCard

/-- THE TIED CARD OF 'replevinlaw36.TerminalScreen'. -/
def terminalScreenCard : Claim7 := { stood := { row := terminalScreenRow, standIns := [], harness := (true, "5766a47c93d63d0f62d43888f57d5a2a1a31d96c118970d8b5d8d204510af3a4"), looks := true }, kinds := [], alts := [], laidByText := true, laidKinds := [.data, .data, .data, .sentinel, .sentinel], laidTests := true, laidLooks := .later }
def TerminalScreenCardSaid : Prop := Claim7.holds Tryz.pinned (.plain (OpenSpec.ofChange terminalScreenSpec)) terminalScreenCard

/-- THE TIED CARD OF 'replevinlaw36.TerminalPlays'. -/
def terminalPlaysCard : Claim7 := { stood := { row := terminalPlaysRow, standIns := [], harness := (true, "5766a47c93d63d0f62d43888f57d5a2a1a31d96c118970d8b5d8d204510af3a4"), looks := true }, kinds := [], alts := [], laidByText := true, laidKinds := [.data, .data, .data, .sentinel, .sentinel], laidTests := true, laidLooks := .later }
def TerminalPlaysCardSaid : Prop := Claim7.holds Tryz.pinned (.plain (OpenSpec.ofChange terminalPlaysSpec)) terminalPlaysCard

/-- THE TIED CARD OF 'replevinlaw36.TerminalEpochs'. -/
def terminalEpochsCard : Claim7 := { stood := { row := terminalEpochsRow, standIns := [], harness := (true, "5766a47c93d63d0f62d43888f57d5a2a1a31d96c118970d8b5d8d204510af3a4"), looks := true }, kinds := [], alts := [], laidByText := true, laidKinds := [.data, .data, .data, .sentinel, .sentinel], laidTests := true, laidLooks := .later }
def TerminalEpochsCardSaid : Prop := Claim7.holds Tryz.pinned (.plain (OpenSpec.ofChange terminalEpochsSpec)) terminalEpochsCard

/-- THE TIED CARD OF 'replevinlaw36.TerminalErrors'. -/
def terminalErrorsCard : Claim7 := { stood := { row := terminalErrorsRow, standIns := [], harness := (true, "5766a47c93d63d0f62d43888f57d5a2a1a31d96c118970d8b5d8d204510af3a4"), looks := true }, kinds := [], alts := [], laidByText := true, laidKinds := [.data, .data, .data, .sentinel, .sentinel], laidTests := true, laidLooks := .later }
def TerminalErrorsCardSaid : Prop := Claim7.holds Tryz.pinned (.plain (OpenSpec.ofChange terminalErrorsSpec)) terminalErrorsCard

/-- THE TIED CARD OF 'replevinlaw36.TerminalFrame'. -/
def terminalFrameCard : Claim7 := { stood := { row := terminalFrameRow, standIns := [], harness := (true, "5766a47c93d63d0f62d43888f57d5a2a1a31d96c118970d8b5d8d204510af3a4"), looks := true }, kinds := [], alts := [], laidByText := true, laidKinds := [.data, .data, .data, .sentinel, .sentinel], laidTests := true, laidLooks := .later }
def TerminalFrameCardSaid : Prop := Claim7.holds Tryz.pinned (.plain (OpenSpec.ofChange terminalFrameSpec)) terminalFrameCard

/-- THE SECOND FORM's CARD OF 'replevinlaw36.TerminalLines'. -/
def terminalLinesUptoCard : Claim7 := { stood := { row := terminalLinesUptoRow, standIns := [], harness := (true, "5766a47c93d63d0f62d43888f57d5a2a1a31d96c118970d8b5d8d204510af3a4"), looks := true }, kinds := [], alts := [], laidByText := true, laidKinds := [.data, .data, .data, .sentinel, .sentinel], laidTests := true, laidLooks := .later }
def TerminalLinesUptoCardSaid : Prop := Claim7.holds Tryz.pinned (.plain (OpenSpec.upto terminalLinesSpec)) terminalLinesUptoCard

/-- THE SECOND FORM's CARD OF 'replevinlaw36.TerminalSessions'. -/
def terminalSessionsUptoCard : Claim7 := { stood := { row := terminalSessionsUptoRow, standIns := [], harness := (true, "5766a47c93d63d0f62d43888f57d5a2a1a31d96c118970d8b5d8d204510af3a4"), looks := true }, kinds := [], alts := [], laidByText := true, laidKinds := [.data, .data, .data, .sentinel, .sentinel], laidTests := true, laidLooks := .later }
def TerminalSessionsUptoCardSaid : Prop := Claim7.holds Tryz.pinned (.plain (OpenSpec.upto terminalSessionsSpec)) terminalSessionsUptoCard

/-- THE SECOND FORM's CARD OF 'replevinlaw36.TerminalValues'. -/
def terminalValuesUptoCard : Claim7 := { stood := { row := terminalValuesUptoRow, standIns := [], harness := (true, "5766a47c93d63d0f62d43888f57d5a2a1a31d96c118970d8b5d8d204510af3a4"), looks := true }, kinds := [], alts := [], laidByText := true, laidKinds := [.data, .data, .data, .sentinel, .sentinel], laidTests := true, laidLooks := .later }
def TerminalValuesUptoCardSaid : Prop := Claim7.holds Tryz.pinned (.plain (OpenSpec.upto terminalValuesSpec)) terminalValuesUptoCard

/-- THE SECOND FORM's CARD OF 'replevinlaw36.TerminalScreen'. -/
def terminalScreenUptoCard : Claim7 := { stood := { row := terminalScreenUptoRow, standIns := [], harness := (true, "5766a47c93d63d0f62d43888f57d5a2a1a31d96c118970d8b5d8d204510af3a4"), looks := true }, kinds := [], alts := [], laidByText := true, laidKinds := [.data, .data, .data, .sentinel, .sentinel], laidTests := true, laidLooks := .later }
def TerminalScreenUptoCardSaid : Prop := Claim7.holds Tryz.pinned (.plain (OpenSpec.upto terminalScreenSpec)) terminalScreenUptoCard

/-- THE SECOND FORM's CARD OF 'replevinlaw36.TerminalPlays'. -/
def terminalPlaysUptoCard : Claim7 := { stood := { row := terminalPlaysUptoRow, standIns := [], harness := (true, "5766a47c93d63d0f62d43888f57d5a2a1a31d96c118970d8b5d8d204510af3a4"), looks := true }, kinds := [], alts := [], laidByText := true, laidKinds := [.data, .data, .data, .sentinel, .sentinel], laidTests := true, laidLooks := .later }
def TerminalPlaysUptoCardSaid : Prop := Claim7.holds Tryz.pinned (.plain (OpenSpec.upto terminalPlaysSpec)) terminalPlaysUptoCard

/-- THE SECOND FORM's CARD OF 'replevinlaw36.TerminalEpochs'. -/
def terminalEpochsUptoCard : Claim7 := { stood := { row := terminalEpochsUptoRow, standIns := [], harness := (true, "5766a47c93d63d0f62d43888f57d5a2a1a31d96c118970d8b5d8d204510af3a4"), looks := true }, kinds := [], alts := [], laidByText := true, laidKinds := [.data, .data, .data, .sentinel, .sentinel], laidTests := true, laidLooks := .later }
def TerminalEpochsUptoCardSaid : Prop := Claim7.holds Tryz.pinned (.plain (OpenSpec.upto terminalEpochsSpec)) terminalEpochsUptoCard

/-- THE SECOND FORM's CARD OF 'replevinlaw36.TerminalErrors'. -/
def terminalErrorsUptoCard : Claim7 := { stood := { row := terminalErrorsUptoRow, standIns := [], harness := (true, "5766a47c93d63d0f62d43888f57d5a2a1a31d96c118970d8b5d8d204510af3a4"), looks := true }, kinds := [], alts := [], laidByText := true, laidKinds := [.data, .data, .data, .sentinel, .sentinel], laidTests := true, laidLooks := .later }
def TerminalErrorsUptoCardSaid : Prop := Claim7.holds Tryz.pinned (.plain (OpenSpec.upto terminalErrorsSpec)) terminalErrorsUptoCard

/-- THE SECOND FORM's CARD OF 'replevinlaw36.TerminalFrame'. -/
def terminalFrameUptoCard : Claim7 := { stood := { row := terminalFrameUptoRow, standIns := [], harness := (true, "5766a47c93d63d0f62d43888f57d5a2a1a31d96c118970d8b5d8d204510af3a4"), looks := true }, kinds := [], alts := [], laidByText := true, laidKinds := [.data, .data, .data, .sentinel, .sentinel], laidTests := true, laidLooks := .later }
def TerminalFrameUptoCardSaid : Prop := Claim7.holds Tryz.pinned (.plain (OpenSpec.upto terminalFrameSpec)) terminalFrameUptoCard
end Rows
end Go.Proofs.YtjifejbibgimhaaGreatDoor

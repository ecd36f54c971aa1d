/-
  DERIVED. GIVEN WITH THE SEED: THE CARDS: each row of YtgonfcdmaoeboaaGreatDoorRows.lean that lists a variable, with what it lists TIED to the program's text (the seventh form; the later family's looks); each row that meets fmt, with fmt's text TOLD by the authors' own Lean function (tested against real Go, not proved from fmt's source: count such statements apart). THE CARD IS WHAT COUNTS. Prove the row's statement (the work); the ties are given (YtgonfcdmaoeboaaGreatDoorTie.lean); close each card by the builder's one call (the guide's Derived/Test/ToyasCard.lean, 'card_holds'). Laid BY PROGRAM, IN A SANDBOX (cutbox-door.mjs). By AI agents, Wed Nov 11 2026. No macro, syntax, notation, axiom, sorry.
-/
import Derived.Test.YtgonfcdmaoeboaaGreatDoorRows
import GoSem.ClaimSeven
namespace Go.Proofs.YtgonfcdmaoeboaaGreatDoor
namespace Rows

/-- THE TIED CARD OF 'replevinlaw37.PortEncodes'. -/
def portEncodesCard : Claim7 := { stood := { row := portEncodesRow, standIns := [], harness := (true, "aed7082355106fbf140a3df0dd9fe8b1d465b644d9636365d2c7b238c26e8175"), looks := true }, kinds := [], alts := [], laidByText := true, laidKinds := [.data, .data, .data, .sentinel, .sentinel], laidTests := true, laidLooks := .later }
def PortEncodesCardSaid : Prop := Claim7.holds Tryz.pinned (.plain (OpenSpec.ofChange portEncodesSpec)) portEncodesCard

/-- THE TIED CARD OF 'replevinlaw37.PortQueues'. -/
def portQueuesCard : Claim7 := { stood := { row := portQueuesRow, standIns := [], harness := (true, "aed7082355106fbf140a3df0dd9fe8b1d465b644d9636365d2c7b238c26e8175"), looks := true }, kinds := [], alts := [], laidByText := true, laidKinds := [.data, .data, .data, .sentinel, .sentinel], laidTests := true, laidLooks := .later }
def PortQueuesCardSaid : Prop := Claim7.holds Tryz.pinned (.plain (OpenSpec.ofChange portQueuesSpec)) portQueuesCard

/-- THE TIED CARD OF 'replevinlaw37.PortEpochs'. -/
def portEpochsCard : Claim7 := { stood := { row := portEpochsRow, standIns := [], harness := (true, "aed7082355106fbf140a3df0dd9fe8b1d465b644d9636365d2c7b238c26e8175"), looks := true }, kinds := [], alts := [], laidByText := true, laidKinds := [.data, .data, .data, .sentinel, .sentinel], laidTests := true, laidLooks := .later }
def PortEpochsCardSaid : Prop := Claim7.holds Tryz.pinned (.plain (OpenSpec.ofChange portEpochsSpec)) portEpochsCard

/-- THE TIED CARD OF 'replevinlaw37.PortNil'. -/
def portNilCard : Claim7 := { stood := { row := portNilRow, standIns := [], harness := (true, "aed7082355106fbf140a3df0dd9fe8b1d465b644d9636365d2c7b238c26e8175"), looks := true }, kinds := [], alts := [], laidByText := true, laidKinds := [.data, .data, .data, .sentinel, .sentinel], laidTests := true, laidLooks := .later }
def PortNilCardSaid : Prop := Claim7.holds Tryz.pinned (.plain (OpenSpec.ofChange portNilSpec)) portNilCard

/-- THE TIED CARD OF 'replevinlaw37.PortBroken'. -/
def portBrokenCard : Claim7 := { stood := { row := portBrokenRow, standIns := [], harness := (true, "aed7082355106fbf140a3df0dd9fe8b1d465b644d9636365d2c7b238c26e8175"), looks := true }, kinds := [], alts := [], laidByText := true, laidKinds := [.data, .data, .data, .sentinel, .sentinel], laidTests := true, laidLooks := .later }
def PortBrokenCardSaid : Prop := Claim7.holds Tryz.pinned (.plain (OpenSpec.ofChange portBrokenSpec)) portBrokenCard

/-- THE TIED CARD OF 'replevinlaw37.PortFrame'. -/
def portFrameCard : Claim7 := { stood := { row := portFrameRow, standIns := [], harness := (true, "aed7082355106fbf140a3df0dd9fe8b1d465b644d9636365d2c7b238c26e8175"), looks := true }, kinds := [], alts := [], laidByText := true, laidKinds := [.data, .data, .data, .sentinel, .sentinel], laidTests := true, laidLooks := .later }
def PortFrameCardSaid : Prop := Claim7.holds Tryz.pinned (.plain (OpenSpec.ofChange portFrameSpec)) portFrameCard

/-- THE TIED CARD OF 'replevinlaw37.PortApart'. -/
def portApartCard : Claim7 := { stood := { row := portApartRow, standIns := [], harness := (true, "aed7082355106fbf140a3df0dd9fe8b1d465b644d9636365d2c7b238c26e8175"), looks := true }, kinds := [], alts := [], laidByText := true, laidKinds := [.data, .data, .data, .sentinel, .sentinel], laidTests := true, laidLooks := .later }
def PortApartCardSaid : Prop := Claim7.holds Tryz.pinned (.plain (OpenSpec.ofChange portApartSpec)) portApartCard

/-- THE TIED CARD OF 'replevinlaw36.TerminalPlays'. -/
def terminalPlaysCard : Claim7 := { stood := { row := terminalPlaysRow, standIns := [], harness := (true, "aed7082355106fbf140a3df0dd9fe8b1d465b644d9636365d2c7b238c26e8175"), looks := true }, kinds := [], alts := [], laidByText := true, laidKinds := [.data, .data, .data, .sentinel, .sentinel], laidTests := true, laidLooks := .later }
def TerminalPlaysCardSaid : Prop := Claim7.holds Tryz.pinned (.plain (OpenSpec.ofChange terminalPlaysSpec)) terminalPlaysCard

/-- THE TIED CARD OF 'replevinlaw36.TerminalEpochs'. -/
def terminalEpochsCard : Claim7 := { stood := { row := terminalEpochsRow, standIns := [], harness := (true, "aed7082355106fbf140a3df0dd9fe8b1d465b644d9636365d2c7b238c26e8175"), looks := true }, kinds := [], alts := [], laidByText := true, laidKinds := [.data, .data, .data, .sentinel, .sentinel], laidTests := true, laidLooks := .later }
def TerminalEpochsCardSaid : Prop := Claim7.holds Tryz.pinned (.plain (OpenSpec.ofChange terminalEpochsSpec)) terminalEpochsCard

/-- THE TIED CARD OF 'replevinlaw36.TerminalErrors'. -/
def terminalErrorsCard : Claim7 := { stood := { row := terminalErrorsRow, standIns := [], harness := (true, "aed7082355106fbf140a3df0dd9fe8b1d465b644d9636365d2c7b238c26e8175"), looks := true }, kinds := [], alts := [], laidByText := true, laidKinds := [.data, .data, .data, .sentinel, .sentinel], laidTests := true, laidLooks := .later }
def TerminalErrorsCardSaid : Prop := Claim7.holds Tryz.pinned (.plain (OpenSpec.ofChange terminalErrorsSpec)) terminalErrorsCard

/-- THE TIED CARD OF 'replevinlaw36.TerminalFrame'. -/
def terminalFrameCard : Claim7 := { stood := { row := terminalFrameRow, standIns := [], harness := (true, "aed7082355106fbf140a3df0dd9fe8b1d465b644d9636365d2c7b238c26e8175"), looks := true }, kinds := [], alts := [], laidByText := true, laidKinds := [.data, .data, .data, .sentinel, .sentinel], laidTests := true, laidLooks := .later }
def TerminalFrameCardSaid : Prop := Claim7.holds Tryz.pinned (.plain (OpenSpec.ofChange terminalFrameSpec)) terminalFrameCard

/-- THE SECOND FORM's CARD OF 'replevinlaw37.PortEncodes'. -/
def portEncodesUptoCard : Claim7 := { stood := { row := portEncodesUptoRow, standIns := [], harness := (true, "aed7082355106fbf140a3df0dd9fe8b1d465b644d9636365d2c7b238c26e8175"), looks := true }, kinds := [], alts := [], laidByText := true, laidKinds := [.data, .data, .data, .sentinel, .sentinel], laidTests := true, laidLooks := .later }
def PortEncodesUptoCardSaid : Prop := Claim7.holds Tryz.pinned (.plain (OpenSpec.upto portEncodesSpec)) portEncodesUptoCard

/-- THE SECOND FORM's CARD OF 'replevinlaw37.PortQueues'. -/
def portQueuesUptoCard : Claim7 := { stood := { row := portQueuesUptoRow, standIns := [], harness := (true, "aed7082355106fbf140a3df0dd9fe8b1d465b644d9636365d2c7b238c26e8175"), looks := true }, kinds := [], alts := [], laidByText := true, laidKinds := [.data, .data, .data, .sentinel, .sentinel], laidTests := true, laidLooks := .later }
def PortQueuesUptoCardSaid : Prop := Claim7.holds Tryz.pinned (.plain (OpenSpec.upto portQueuesSpec)) portQueuesUptoCard

/-- THE SECOND FORM's CARD OF 'replevinlaw37.PortEpochs'. -/
def portEpochsUptoCard : Claim7 := { stood := { row := portEpochsUptoRow, standIns := [], harness := (true, "aed7082355106fbf140a3df0dd9fe8b1d465b644d9636365d2c7b238c26e8175"), looks := true }, kinds := [], alts := [], laidByText := true, laidKinds := [.data, .data, .data, .sentinel, .sentinel], laidTests := true, laidLooks := .later }
def PortEpochsUptoCardSaid : Prop := Claim7.holds Tryz.pinned (.plain (OpenSpec.upto portEpochsSpec)) portEpochsUptoCard

/-- THE SECOND FORM's CARD OF 'replevinlaw37.PortNil'. -/
def portNilUptoCard : Claim7 := { stood := { row := portNilUptoRow, standIns := [], harness := (true, "aed7082355106fbf140a3df0dd9fe8b1d465b644d9636365d2c7b238c26e8175"), looks := true }, kinds := [], alts := [], laidByText := true, laidKinds := [.data, .data, .data, .sentinel, .sentinel], laidTests := true, laidLooks := .later }
def PortNilUptoCardSaid : Prop := Claim7.holds Tryz.pinned (.plain (OpenSpec.upto portNilSpec)) portNilUptoCard

/-- THE SECOND FORM's CARD OF 'replevinlaw37.PortBroken'. -/
def portBrokenUptoCard : Claim7 := { stood := { row := portBrokenUptoRow, standIns := [], harness := (true, "aed7082355106fbf140a3df0dd9fe8b1d465b644d9636365d2c7b238c26e8175"), looks := true }, kinds := [], alts := [], laidByText := true, laidKinds := [.data, .data, .data, .sentinel, .sentinel], laidTests := true, laidLooks := .later }
def PortBrokenUptoCardSaid : Prop := Claim7.holds Tryz.pinned (.plain (OpenSpec.upto portBrokenSpec)) portBrokenUptoCard

/-- THE SECOND FORM's CARD OF 'replevinlaw37.PortFrame'. -/
def portFrameUptoCard : Claim7 := { stood := { row := portFrameUptoRow, standIns := [], harness := (true, "aed7082355106fbf140a3df0dd9fe8b1d465b644d9636365d2c7b238c26e8175"), looks := true }, kinds := [], alts := [], laidByText := true, laidKinds := [.data, .data, .data, .sentinel, .sentinel], laidTests := true, laidLooks := .later }
def PortFrameUptoCardSaid : Prop := Claim7.holds Tryz.pinned (.plain (OpenSpec.upto portFrameSpec)) portFrameUptoCard

/-- THE SECOND FORM's CARD OF 'replevinlaw37.PortApart'. -/
def portApartUptoCard : Claim7 := { stood := { row := portApartUptoRow, standIns := [], harness := (true, "aed7082355106fbf140a3df0dd9fe8b1d465b644d9636365d2c7b238c26e8175"), looks := true }, kinds := [], alts := [], laidByText := true, laidKinds := [.data, .data, .data, .sentinel, .sentinel], laidTests := true, laidLooks := .later }
def PortApartUptoCardSaid : Prop := Claim7.holds Tryz.pinned (.plain (OpenSpec.upto portApartSpec)) portApartUptoCard

/-- THE SECOND FORM's CARD OF 'replevinlaw36.TerminalPlays'. -/
def terminalPlaysUptoCard : Claim7 := { stood := { row := terminalPlaysUptoRow, standIns := [], harness := (true, "aed7082355106fbf140a3df0dd9fe8b1d465b644d9636365d2c7b238c26e8175"), looks := true }, kinds := [], alts := [], laidByText := true, laidKinds := [.data, .data, .data, .sentinel, .sentinel], laidTests := true, laidLooks := .later }
def TerminalPlaysUptoCardSaid : Prop := Claim7.holds Tryz.pinned (.plain (OpenSpec.upto terminalPlaysSpec)) terminalPlaysUptoCard

/-- THE SECOND FORM's CARD OF 'replevinlaw36.TerminalEpochs'. -/
def terminalEpochsUptoCard : Claim7 := { stood := { row := terminalEpochsUptoRow, standIns := [], harness := (true, "aed7082355106fbf140a3df0dd9fe8b1d465b644d9636365d2c7b238c26e8175"), looks := true }, kinds := [], alts := [], laidByText := true, laidKinds := [.data, .data, .data, .sentinel, .sentinel], laidTests := true, laidLooks := .later }
def TerminalEpochsUptoCardSaid : Prop := Claim7.holds Tryz.pinned (.plain (OpenSpec.upto terminalEpochsSpec)) terminalEpochsUptoCard

/-- THE SECOND FORM's CARD OF 'replevinlaw36.TerminalErrors'. -/
def terminalErrorsUptoCard : Claim7 := { stood := { row := terminalErrorsUptoRow, standIns := [], harness := (true, "aed7082355106fbf140a3df0dd9fe8b1d465b644d9636365d2c7b238c26e8175"), looks := true }, kinds := [], alts := [], laidByText := true, laidKinds := [.data, .data, .data, .sentinel, .sentinel], laidTests := true, laidLooks := .later }
def TerminalErrorsUptoCardSaid : Prop := Claim7.holds Tryz.pinned (.plain (OpenSpec.upto terminalErrorsSpec)) terminalErrorsUptoCard

/-- THE SECOND FORM's CARD OF 'replevinlaw36.TerminalFrame'. -/
def terminalFrameUptoCard : Claim7 := { stood := { row := terminalFrameUptoRow, standIns := [], harness := (true, "aed7082355106fbf140a3df0dd9fe8b1d465b644d9636365d2c7b238c26e8175"), looks := true }, kinds := [], alts := [], laidByText := true, laidKinds := [.data, .data, .data, .sentinel, .sentinel], laidTests := true, laidLooks := .later }
def TerminalFrameUptoCardSaid : Prop := Claim7.holds Tryz.pinned (.plain (OpenSpec.upto terminalFrameSpec)) terminalFrameUptoCard
end Rows
end Go.Proofs.YtgonfcdmaoeboaaGreatDoor

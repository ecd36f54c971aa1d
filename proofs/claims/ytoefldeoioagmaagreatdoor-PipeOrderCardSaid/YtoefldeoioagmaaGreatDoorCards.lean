/-
  DERIVED. GIVEN WITH THE SEED: THE CARDS: each row of YtoefldeoioagmaaGreatDoorRows.lean that lists a variable, with what it lists TIED to the program's text (the seventh form; the later family's looks); each row that meets fmt, with fmt's text TOLD by the authors' own Lean function (tested against real Go, not proved from fmt's source: count such statements apart). THE CARD IS WHAT COUNTS. Prove the row's statement (the work); the ties are given (YtoefldeoioagmaaGreatDoorTie.lean); close each card by the builder's one call (the guide's Derived/Test/ToyasCard.lean, 'card_holds'). Laid BY PROGRAM, IN A SANDBOX (cutbox-door.mjs). By AI agents, Wed Nov 11 2026. No macro, syntax, notation, axiom, sorry.
-/
import Derived.Test.YtoefldeoioagmaaGreatDoorRows
import GoSem.ClaimSeven
namespace Go.Proofs.YtoefldeoioagmaaGreatDoor
namespace Rows

/-- THE TIED CARD OF 'replevinlaw32.PipeValues'. -/
def pipeValuesCard : Claim7 := { stood := { row := pipeValuesRow, standIns := [], harness := (true, "8853636ebd9eeb649cf02e48cce700c0ed96fcf8be5209d0f79c1da3aab139f3"), looks := true }, kinds := [], alts := [], laidByText := true, laidKinds := [.data, .data, .data, .sentinel, .sentinel], laidTests := true, laidLooks := .later }
def PipeValuesCardSaid : Prop := Claim7.holds Tryz.pinned (.plain (OpenSpec.ofChange pipeValuesSpec)) pipeValuesCard

/-- THE TIED CARD OF 'replevinlaw32.PipeBusy'. -/
def pipeBusyCard : Claim7 := { stood := { row := pipeBusyRow, standIns := [], harness := (true, "8853636ebd9eeb649cf02e48cce700c0ed96fcf8be5209d0f79c1da3aab139f3"), looks := true }, kinds := [], alts := [], laidByText := true, laidKinds := [.data, .data, .data, .sentinel, .sentinel], laidTests := true, laidLooks := .later }
def PipeBusyCardSaid : Prop := Claim7.holds Tryz.pinned (.plain (OpenSpec.ofChange pipeBusySpec)) pipeBusyCard

/-- THE TIED CARD OF 'replevinlaw32.PipeOrder'. -/
def pipeOrderCard : Claim7 := { stood := { row := pipeOrderRow, standIns := [], harness := (true, "8853636ebd9eeb649cf02e48cce700c0ed96fcf8be5209d0f79c1da3aab139f3"), looks := true }, kinds := [], alts := [], laidByText := true, laidKinds := [.data, .data, .data, .sentinel, .sentinel], laidTests := true, laidLooks := .later }
def PipeOrderCardSaid : Prop := Claim7.holds Tryz.pinned (.plain (OpenSpec.ofChange pipeOrderSpec)) pipeOrderCard

/-- THE TIED CARD OF 'replevinlaw32.PipeEnds'. -/
def pipeEndsCard : Claim7 := { stood := { row := pipeEndsRow, standIns := [], harness := (true, "8853636ebd9eeb649cf02e48cce700c0ed96fcf8be5209d0f79c1da3aab139f3"), looks := true }, kinds := [], alts := [], laidByText := true, laidKinds := [.data, .data, .data, .sentinel, .sentinel], laidTests := true, laidLooks := .later }
def PipeEndsCardSaid : Prop := Claim7.holds Tryz.pinned (.plain (OpenSpec.ofChange pipeEndsSpec)) pipeEndsCard

/-- THE TIED CARD OF 'replevinlaw32.PipeDrains'. -/
def pipeDrainsCard : Claim7 := { stood := { row := pipeDrainsRow, standIns := [], harness := (true, "8853636ebd9eeb649cf02e48cce700c0ed96fcf8be5209d0f79c1da3aab139f3"), looks := true }, kinds := [], alts := [], laidByText := true, laidKinds := [.data, .data, .data, .sentinel, .sentinel], laidTests := true, laidLooks := .later }
def PipeDrainsCardSaid : Prop := Claim7.holds Tryz.pinned (.plain (OpenSpec.ofChange pipeDrainsSpec)) pipeDrainsCard

/-- THE TIED CARD OF 'replevinlaw32.PipeFrame'. -/
def pipeFrameCard : Claim7 := { stood := { row := pipeFrameRow, standIns := [], harness := (true, "8853636ebd9eeb649cf02e48cce700c0ed96fcf8be5209d0f79c1da3aab139f3"), looks := true }, kinds := [], alts := [], laidByText := true, laidKinds := [.data, .data, .data, .sentinel, .sentinel], laidTests := true, laidLooks := .later }
def PipeFrameCardSaid : Prop := Claim7.holds Tryz.pinned (.plain (OpenSpec.ofChange pipeFrameSpec)) pipeFrameCard

/-- THE SECOND FORM's CARD OF 'replevinlaw32.PipeValues'. -/
def pipeValuesUptoCard : Claim7 := { stood := { row := pipeValuesUptoRow, standIns := [], harness := (true, "8853636ebd9eeb649cf02e48cce700c0ed96fcf8be5209d0f79c1da3aab139f3"), looks := true }, kinds := [], alts := [], laidByText := true, laidKinds := [.data, .data, .data, .sentinel, .sentinel], laidTests := true, laidLooks := .later }
def PipeValuesUptoCardSaid : Prop := Claim7.holds Tryz.pinned (.plain (OpenSpec.upto pipeValuesSpec)) pipeValuesUptoCard

/-- THE SECOND FORM's CARD OF 'replevinlaw32.PipeBusy'. -/
def pipeBusyUptoCard : Claim7 := { stood := { row := pipeBusyUptoRow, standIns := [], harness := (true, "8853636ebd9eeb649cf02e48cce700c0ed96fcf8be5209d0f79c1da3aab139f3"), looks := true }, kinds := [], alts := [], laidByText := true, laidKinds := [.data, .data, .data, .sentinel, .sentinel], laidTests := true, laidLooks := .later }
def PipeBusyUptoCardSaid : Prop := Claim7.holds Tryz.pinned (.plain (OpenSpec.upto pipeBusySpec)) pipeBusyUptoCard

/-- THE SECOND FORM's CARD OF 'replevinlaw32.PipeOrder'. -/
def pipeOrderUptoCard : Claim7 := { stood := { row := pipeOrderUptoRow, standIns := [], harness := (true, "8853636ebd9eeb649cf02e48cce700c0ed96fcf8be5209d0f79c1da3aab139f3"), looks := true }, kinds := [], alts := [], laidByText := true, laidKinds := [.data, .data, .data, .sentinel, .sentinel], laidTests := true, laidLooks := .later }
def PipeOrderUptoCardSaid : Prop := Claim7.holds Tryz.pinned (.plain (OpenSpec.upto pipeOrderSpec)) pipeOrderUptoCard

/-- THE SECOND FORM's CARD OF 'replevinlaw32.PipeEnds'. -/
def pipeEndsUptoCard : Claim7 := { stood := { row := pipeEndsUptoRow, standIns := [], harness := (true, "8853636ebd9eeb649cf02e48cce700c0ed96fcf8be5209d0f79c1da3aab139f3"), looks := true }, kinds := [], alts := [], laidByText := true, laidKinds := [.data, .data, .data, .sentinel, .sentinel], laidTests := true, laidLooks := .later }
def PipeEndsUptoCardSaid : Prop := Claim7.holds Tryz.pinned (.plain (OpenSpec.upto pipeEndsSpec)) pipeEndsUptoCard

/-- THE SECOND FORM's CARD OF 'replevinlaw32.PipeDrains'. -/
def pipeDrainsUptoCard : Claim7 := { stood := { row := pipeDrainsUptoRow, standIns := [], harness := (true, "8853636ebd9eeb649cf02e48cce700c0ed96fcf8be5209d0f79c1da3aab139f3"), looks := true }, kinds := [], alts := [], laidByText := true, laidKinds := [.data, .data, .data, .sentinel, .sentinel], laidTests := true, laidLooks := .later }
def PipeDrainsUptoCardSaid : Prop := Claim7.holds Tryz.pinned (.plain (OpenSpec.upto pipeDrainsSpec)) pipeDrainsUptoCard

/-- THE SECOND FORM's CARD OF 'replevinlaw32.PipeFrame'. -/
def pipeFrameUptoCard : Claim7 := { stood := { row := pipeFrameUptoRow, standIns := [], harness := (true, "8853636ebd9eeb649cf02e48cce700c0ed96fcf8be5209d0f79c1da3aab139f3"), looks := true }, kinds := [], alts := [], laidByText := true, laidKinds := [.data, .data, .data, .sentinel, .sentinel], laidTests := true, laidLooks := .later }
def PipeFrameUptoCardSaid : Prop := Claim7.holds Tryz.pinned (.plain (OpenSpec.upto pipeFrameSpec)) pipeFrameUptoCard
end Rows
end Go.Proofs.YtoefldeoioagmaaGreatDoor

/-
  NARROWER THAN 'FOR EVERY INPUT', by the rows' own cells (each row's printed sentence says how): PortEncodes: laid · PortQueues: laid · PortEpochs: laid · PortNil: laid · PortBroken: laid · PortFrame: laid · PortApart: laid · TerminalPlays: laid · TerminalEpochs: laid · TerminalErrors: laid · TerminalFrame: laid.
  DERIVED. THE GIVEN ROWS OF THIS SEAT. 11 by the template 'for every input the law returns true; each argument reads behind the call as it read before'; 0 by the template 'total and deterministic' (their statements: YtgonfcdmaoeboaaGreatDoorTotals.lean).
  GIVEN WITH THE SEED: the statements are not yours to turn. If you find one false, say at which input.
  Laid BY PROGRAM, IN A SANDBOX (cutbox-rows.mjs): the forced cells as the released guide's own fill.sh prints them over the translation 6ac0d48ba5fd2edc… (all of the seat's roots in one cut). By AI agents, Wed Nov 11 2026. No macro, syntax, notation, axiom, sorry.
-/
import Derived.Test.YtgonfcdmaoeboaaGreatDoorChecked
import GoSem.Claim
import GoSem.ClaimJoined
import GoSem.ClaimMapViews
import Derived.JoinedTies
import Derived.KernelRfl
namespace Go.Proofs.YtgonfcdmaoeboaaGreatDoor
/- THE CELL 'sum', in the pinned program and in every row, IS THE sha256 OF THE DUMP (.gsa) THAT YtgonfcdmaoeboaaGreatDoorProg.lean LOADS. Nothing in Lean hashes anything: it is a label: what it is worth is what the hold of that sum in a sandbox is worth. -/
noncomputable def Tryz.pinned : Pinned := { name := "ytgonfcdmaoeboaagreatdoor", sum := "6ac0d48ba5fd2edca65e6eaae05881677904c3a4f644278823a6c74268870149", checked := Tryz.checked }
namespace Rows
def none {H : Type} : Left H := { results := [], args := [] }

/- WHAT THE LISTED PACKAGE-LEVEL VARIABLES READ AS WHEN THE CALL BEGINS. Each datum BY PROGRAM (the guide's laid-datum.mjs) off the statement by which the dump's own 'gosem.cut.vars' lays the variable. In a bare row this is a premise. The card (YtgonfcdmaoeboaaGreatDoorCards.lean) ties it to the program's text. -/
def laid_math_bits_deBruijn32tab {H : Type} : DataW H := .agg [.lit (.int .u8 0), .lit (.int .u8 1), .lit (.int .u8 28), .lit (.int .u8 2), .lit (.int .u8 29), .lit (.int .u8 14), .lit (.int .u8 24), .lit (.int .u8 3), .lit (.int .u8 30), .lit (.int .u8 22), .lit (.int .u8 20), .lit (.int .u8 15), .lit (.int .u8 25), .lit (.int .u8 17), .lit (.int .u8 4), .lit (.int .u8 8), .lit (.int .u8 31), .lit (.int .u8 27), .lit (.int .u8 13), .lit (.int .u8 23), .lit (.int .u8 21), .lit (.int .u8 19), .lit (.int .u8 16), .lit (.int .u8 7), .lit (.int .u8 26), .lit (.int .u8 12), .lit (.int .u8 18), .lit (.int .u8 6), .lit (.int .u8 11), .lit (.int .u8 5), .lit (.int .u8 10), .lit (.int .u8 9)]
def laid_math_bits_deBruijn64tab {H : Type} : DataW H := .agg [.lit (.int .u8 0), .lit (.int .u8 1), .lit (.int .u8 56), .lit (.int .u8 2), .lit (.int .u8 57), .lit (.int .u8 49), .lit (.int .u8 28), .lit (.int .u8 3), .lit (.int .u8 61), .lit (.int .u8 58), .lit (.int .u8 42), .lit (.int .u8 50), .lit (.int .u8 38), .lit (.int .u8 29), .lit (.int .u8 17), .lit (.int .u8 4), .lit (.int .u8 62), .lit (.int .u8 47), .lit (.int .u8 59), .lit (.int .u8 36), .lit (.int .u8 45), .lit (.int .u8 43), .lit (.int .u8 51), .lit (.int .u8 22), .lit (.int .u8 53), .lit (.int .u8 39), .lit (.int .u8 33), .lit (.int .u8 30), .lit (.int .u8 24), .lit (.int .u8 18), .lit (.int .u8 12), .lit (.int .u8 5), .lit (.int .u8 63), .lit (.int .u8 55), .lit (.int .u8 48), .lit (.int .u8 27), .lit (.int .u8 60), .lit (.int .u8 41), .lit (.int .u8 37), .lit (.int .u8 16), .lit (.int .u8 46), .lit (.int .u8 35), .lit (.int .u8 44), .lit (.int .u8 21), .lit (.int .u8 52), .lit (.int .u8 32), .lit (.int .u8 23), .lit (.int .u8 11), .lit (.int .u8 54), .lit (.int .u8 26), .lit (.int .u8 40), .lit (.int .u8 15), .lit (.int .u8 34), .lit (.int .u8 20), .lit (.int .u8 31), .lit (.int .u8 10), .lit (.int .u8 25), .lit (.int .u8 14), .lit (.int .u8 19), .lit (.int .u8 9), .lit (.int .u8 13), .lit (.int .u8 8), .lit (.int .u8 7), .lit (.int .u8 6)]
def laid_internal_strconv_uint64pow10 {H : Type} : DataW H := .agg [.lit (.int .u64 1), .lit (.int .u64 10), .lit (.int .u64 100), .lit (.int .u64 1000), .lit (.int .u64 10000), .lit (.int .u64 100000), .lit (.int .u64 1000000), .lit (.int .u64 10000000), .lit (.int .u64 100000000), .lit (.int .u64 1000000000), .lit (.int .u64 10000000000), .lit (.int .u64 100000000000), .lit (.int .u64 1000000000000), .lit (.int .u64 10000000000000), .lit (.int .u64 100000000000000), .lit (.int .u64 1000000000000000), .lit (.int .u64 10000000000000000), .lit (.int .u64 100000000000000000), .lit (.int .u64 1000000000000000000), .lit (.int .u64 10000000000000000000)]
def laid_strconv_ErrRange {H : Type} : DataW H := .iface "*errors.errorString" (.ptr (.agg [.lit (.string [118, 97, 108, 117, 101, 32, 111, 117, 116, 32, 111, 102, 32, 114, 97, 110, 103, 101])]))
def laid_strconv_ErrSyntax {H : Type} : DataW H := .iface "*errors.errorString" (.ptr (.agg [.lit (.string [105, 110, 118, 97, 108, 105, 100, 32, 115, 121, 110, 116, 97, 120])]))

/-- 'replevinlaw37.PortEncodes': WHATEVER THE INPUT: true; the input reads as it did. -/
def portEncodesSpec : ChangeSpec := { name := "portEncodes", fn := fun _ => fun
  | [d] => { results := [.lit (.bool true)], args := [d] }
  | _ => none }
def portEncodesRow : OpenClaim := { program := "ytgonfcdmaoeboaagreatdoor", sum := "6ac0d48ba5fd2edca65e6eaae05881677904c3a4f644278823a6c74268870149", func := "replevin/replevinlaw37.PortEncodes", spec := "portEncodes", inPlace := ["internal/bytealg.abigen_runtime_cmpstring"], unfollowed := true, recurses := true, named := ["strconv.ErrSyntax", "strconv.ErrRange", "internal/strconv.uint64pow10", "math/bits.deBruijn32tab", "math/bits.deBruijn64tab"], plainKeys := false, apart := false, laid := [("math/bits.deBruijn32tab", laid_math_bits_deBruijn32tab), ("math/bits.deBruijn64tab", laid_math_bits_deBruijn64tab), ("internal/strconv.uint64pow10", laid_internal_strconv_uint64pow10), ("strconv.ErrRange", laid_strconv_ErrRange), ("strconv.ErrSyntax", laid_strconv_ErrSyntax)] }
def PortEncodesSaid : Prop := portEncodesRow.holds Tryz.pinned (OpenSpec.ofChange portEncodesSpec)

/-- ITS FALSE NEIGHBOUR: 'it returns false'. Refute it at one input. -/
def portEncodesWrong : ChangeSpec := { name := "portEncodes", fn := fun _ => fun
  | [d] => { results := [.lit (.bool false)], args := [d] }
  | _ => none }
def PortEncodesWrongFalsely : Prop := portEncodesRow.holds Tryz.pinned (OpenSpec.ofChange portEncodesWrong)

/-- 'replevinlaw37.PortQueues': WHATEVER THE INPUT: true; the input reads as it did. -/
def portQueuesSpec : ChangeSpec := { name := "portQueues", fn := fun _ => fun
  | [d1, d2] => { results := [.lit (.bool true)], args := [d1, d2] }
  | _ => none }
def portQueuesRow : OpenClaim := { program := "ytgonfcdmaoeboaagreatdoor", sum := "6ac0d48ba5fd2edca65e6eaae05881677904c3a4f644278823a6c74268870149", func := "replevin/replevinlaw37.PortQueues", spec := "portQueues", inPlace := ["internal/bytealg.abigen_runtime_cmpstring"], unfollowed := true, recurses := true, named := ["strconv.ErrSyntax", "strconv.ErrRange", "internal/strconv.uint64pow10", "math/bits.deBruijn32tab", "math/bits.deBruijn64tab"], plainKeys := false, apart := false, laid := [("math/bits.deBruijn32tab", laid_math_bits_deBruijn32tab), ("math/bits.deBruijn64tab", laid_math_bits_deBruijn64tab), ("internal/strconv.uint64pow10", laid_internal_strconv_uint64pow10), ("strconv.ErrRange", laid_strconv_ErrRange), ("strconv.ErrSyntax", laid_strconv_ErrSyntax)] }
def PortQueuesSaid : Prop := portQueuesRow.holds Tryz.pinned (OpenSpec.ofChange portQueuesSpec)

/-- ITS FALSE NEIGHBOUR: 'it returns false'. Refute it at one input. -/
def portQueuesWrong : ChangeSpec := { name := "portQueues", fn := fun _ => fun
  | [d1, d2] => { results := [.lit (.bool false)], args := [d1, d2] }
  | _ => none }
def PortQueuesWrongFalsely : Prop := portQueuesRow.holds Tryz.pinned (OpenSpec.ofChange portQueuesWrong)

/-- 'replevinlaw37.PortEpochs': WHATEVER THE INPUT: true; the input reads as it did. -/
def portEpochsSpec : ChangeSpec := { name := "portEpochs", fn := fun _ => fun
  | [d1, d2, d3] => { results := [.lit (.bool true)], args := [d1, d2, d3] }
  | _ => none }
def portEpochsRow : OpenClaim := { program := "ytgonfcdmaoeboaagreatdoor", sum := "6ac0d48ba5fd2edca65e6eaae05881677904c3a4f644278823a6c74268870149", func := "replevin/replevinlaw37.PortEpochs", spec := "portEpochs", inPlace := ["internal/bytealg.abigen_runtime_cmpstring"], unfollowed := true, recurses := true, named := ["strconv.ErrSyntax", "strconv.ErrRange", "internal/strconv.uint64pow10", "math/bits.deBruijn32tab", "math/bits.deBruijn64tab"], plainKeys := false, apart := false, laid := [("math/bits.deBruijn32tab", laid_math_bits_deBruijn32tab), ("math/bits.deBruijn64tab", laid_math_bits_deBruijn64tab), ("internal/strconv.uint64pow10", laid_internal_strconv_uint64pow10), ("strconv.ErrRange", laid_strconv_ErrRange), ("strconv.ErrSyntax", laid_strconv_ErrSyntax)] }
def PortEpochsSaid : Prop := portEpochsRow.holds Tryz.pinned (OpenSpec.ofChange portEpochsSpec)

/-- ITS FALSE NEIGHBOUR: 'it returns false'. Refute it at one input. -/
def portEpochsWrong : ChangeSpec := { name := "portEpochs", fn := fun _ => fun
  | [d1, d2, d3] => { results := [.lit (.bool false)], args := [d1, d2, d3] }
  | _ => none }
def PortEpochsWrongFalsely : Prop := portEpochsRow.holds Tryz.pinned (OpenSpec.ofChange portEpochsWrong)

/-- 'replevinlaw37.PortNil': WHATEVER THE INPUT: true; the input reads as it did. -/
def portNilSpec : ChangeSpec := { name := "portNil", fn := fun _ => fun
  | [d1, d2] => { results := [.lit (.bool true)], args := [d1, d2] }
  | _ => none }
def portNilRow : OpenClaim := { program := "ytgonfcdmaoeboaagreatdoor", sum := "6ac0d48ba5fd2edca65e6eaae05881677904c3a4f644278823a6c74268870149", func := "replevin/replevinlaw37.PortNil", spec := "portNil", inPlace := ["internal/bytealg.abigen_runtime_cmpstring"], unfollowed := true, recurses := true, named := ["strconv.ErrSyntax", "strconv.ErrRange", "internal/strconv.uint64pow10", "math/bits.deBruijn32tab", "math/bits.deBruijn64tab"], plainKeys := false, apart := false, laid := [("math/bits.deBruijn32tab", laid_math_bits_deBruijn32tab), ("math/bits.deBruijn64tab", laid_math_bits_deBruijn64tab), ("internal/strconv.uint64pow10", laid_internal_strconv_uint64pow10), ("strconv.ErrRange", laid_strconv_ErrRange), ("strconv.ErrSyntax", laid_strconv_ErrSyntax)] }
def PortNilSaid : Prop := portNilRow.holds Tryz.pinned (OpenSpec.ofChange portNilSpec)

/-- ITS FALSE NEIGHBOUR: 'it returns false'. Refute it at one input. -/
def portNilWrong : ChangeSpec := { name := "portNil", fn := fun _ => fun
  | [d1, d2] => { results := [.lit (.bool false)], args := [d1, d2] }
  | _ => none }
def PortNilWrongFalsely : Prop := portNilRow.holds Tryz.pinned (OpenSpec.ofChange portNilWrong)

/-- 'replevinlaw37.PortBroken': WHATEVER THE INPUT: true; the input reads as it did. -/
def portBrokenSpec : ChangeSpec := { name := "portBroken", fn := fun _ => fun
  | [d1, d2] => { results := [.lit (.bool true)], args := [d1, d2] }
  | _ => none }
def portBrokenRow : OpenClaim := { program := "ytgonfcdmaoeboaagreatdoor", sum := "6ac0d48ba5fd2edca65e6eaae05881677904c3a4f644278823a6c74268870149", func := "replevin/replevinlaw37.PortBroken", spec := "portBroken", inPlace := ["internal/bytealg.abigen_runtime_cmpstring"], unfollowed := true, recurses := true, named := ["strconv.ErrSyntax", "strconv.ErrRange", "internal/strconv.uint64pow10", "math/bits.deBruijn32tab", "math/bits.deBruijn64tab"], plainKeys := false, apart := false, laid := [("math/bits.deBruijn32tab", laid_math_bits_deBruijn32tab), ("math/bits.deBruijn64tab", laid_math_bits_deBruijn64tab), ("internal/strconv.uint64pow10", laid_internal_strconv_uint64pow10), ("strconv.ErrRange", laid_strconv_ErrRange), ("strconv.ErrSyntax", laid_strconv_ErrSyntax)] }
def PortBrokenSaid : Prop := portBrokenRow.holds Tryz.pinned (OpenSpec.ofChange portBrokenSpec)

/-- ITS FALSE NEIGHBOUR: 'it returns false'. Refute it at one input. -/
def portBrokenWrong : ChangeSpec := { name := "portBroken", fn := fun _ => fun
  | [d1, d2] => { results := [.lit (.bool false)], args := [d1, d2] }
  | _ => none }
def PortBrokenWrongFalsely : Prop := portBrokenRow.holds Tryz.pinned (OpenSpec.ofChange portBrokenWrong)

/-- 'replevinlaw37.PortFrame': WHATEVER THE INPUT: true; the input reads as it did. -/
def portFrameSpec : ChangeSpec := { name := "portFrame", fn := fun _ => fun
  | [d1, d2, d3] => { results := [.lit (.bool true)], args := [d1, d2, d3] }
  | _ => none }
def portFrameRow : OpenClaim := { program := "ytgonfcdmaoeboaagreatdoor", sum := "6ac0d48ba5fd2edca65e6eaae05881677904c3a4f644278823a6c74268870149", func := "replevin/replevinlaw37.PortFrame", spec := "portFrame", inPlace := ["internal/bytealg.abigen_runtime_cmpstring"], unfollowed := true, recurses := true, named := ["strconv.ErrSyntax", "strconv.ErrRange", "internal/strconv.uint64pow10", "math/bits.deBruijn32tab", "math/bits.deBruijn64tab"], plainKeys := false, apart := false, laid := [("math/bits.deBruijn32tab", laid_math_bits_deBruijn32tab), ("math/bits.deBruijn64tab", laid_math_bits_deBruijn64tab), ("internal/strconv.uint64pow10", laid_internal_strconv_uint64pow10), ("strconv.ErrRange", laid_strconv_ErrRange), ("strconv.ErrSyntax", laid_strconv_ErrSyntax)] }
def PortFrameSaid : Prop := portFrameRow.holds Tryz.pinned (OpenSpec.ofChange portFrameSpec)

/-- ITS FALSE NEIGHBOUR: 'it returns false'. Refute it at one input. -/
def portFrameWrong : ChangeSpec := { name := "portFrame", fn := fun _ => fun
  | [d1, d2, d3] => { results := [.lit (.bool false)], args := [d1, d2, d3] }
  | _ => none }
def PortFrameWrongFalsely : Prop := portFrameRow.holds Tryz.pinned (OpenSpec.ofChange portFrameWrong)

/-- 'replevinlaw37.PortApart': WHATEVER THE INPUT: true; the input reads as it did. -/
def portApartSpec : ChangeSpec := { name := "portApart", fn := fun _ => fun
  | [d1, d2] => { results := [.lit (.bool true)], args := [d1, d2] }
  | _ => none }
def portApartRow : OpenClaim := { program := "ytgonfcdmaoeboaagreatdoor", sum := "6ac0d48ba5fd2edca65e6eaae05881677904c3a4f644278823a6c74268870149", func := "replevin/replevinlaw37.PortApart", spec := "portApart", inPlace := ["internal/bytealg.abigen_runtime_cmpstring"], unfollowed := true, recurses := true, named := ["strconv.ErrSyntax", "strconv.ErrRange", "internal/strconv.uint64pow10", "math/bits.deBruijn32tab", "math/bits.deBruijn64tab"], plainKeys := false, apart := false, laid := [("math/bits.deBruijn32tab", laid_math_bits_deBruijn32tab), ("math/bits.deBruijn64tab", laid_math_bits_deBruijn64tab), ("internal/strconv.uint64pow10", laid_internal_strconv_uint64pow10), ("strconv.ErrRange", laid_strconv_ErrRange), ("strconv.ErrSyntax", laid_strconv_ErrSyntax)] }
def PortApartSaid : Prop := portApartRow.holds Tryz.pinned (OpenSpec.ofChange portApartSpec)

/-- ITS FALSE NEIGHBOUR: 'it returns false'. Refute it at one input. -/
def portApartWrong : ChangeSpec := { name := "portApart", fn := fun _ => fun
  | [d1, d2] => { results := [.lit (.bool false)], args := [d1, d2] }
  | _ => none }
def PortApartWrongFalsely : Prop := portApartRow.holds Tryz.pinned (OpenSpec.ofChange portApartWrong)

/-- 'replevinlaw36.TerminalPlays': WHATEVER THE INPUT: true; the input reads as it did. -/
def terminalPlaysSpec : ChangeSpec := { name := "terminalPlays", fn := fun _ => fun
  | [d] => { results := [.lit (.bool true)], args := [d] }
  | _ => none }
def terminalPlaysRow : OpenClaim := { program := "ytgonfcdmaoeboaagreatdoor", sum := "6ac0d48ba5fd2edca65e6eaae05881677904c3a4f644278823a6c74268870149", func := "replevin/replevinlaw36.TerminalPlays", spec := "terminalPlays", inPlace := ["internal/bytealg.abigen_runtime_cmpstring"], unfollowed := true, recurses := true, named := ["strconv.ErrSyntax", "strconv.ErrRange", "internal/strconv.uint64pow10", "math/bits.deBruijn32tab", "math/bits.deBruijn64tab"], plainKeys := false, apart := false, laid := [("math/bits.deBruijn32tab", laid_math_bits_deBruijn32tab), ("math/bits.deBruijn64tab", laid_math_bits_deBruijn64tab), ("internal/strconv.uint64pow10", laid_internal_strconv_uint64pow10), ("strconv.ErrRange", laid_strconv_ErrRange), ("strconv.ErrSyntax", laid_strconv_ErrSyntax)] }
def TerminalPlaysSaid : Prop := terminalPlaysRow.holds Tryz.pinned (OpenSpec.ofChange terminalPlaysSpec)

/-- ITS FALSE NEIGHBOUR: 'it returns false'. Refute it at one input. -/
def terminalPlaysWrong : ChangeSpec := { name := "terminalPlays", fn := fun _ => fun
  | [d] => { results := [.lit (.bool false)], args := [d] }
  | _ => none }
def TerminalPlaysWrongFalsely : Prop := terminalPlaysRow.holds Tryz.pinned (OpenSpec.ofChange terminalPlaysWrong)

/-- 'replevinlaw36.TerminalEpochs': WHATEVER THE INPUT: true; the input reads as it did. -/
def terminalEpochsSpec : ChangeSpec := { name := "terminalEpochs", fn := fun _ => fun
  | [d1, d2, d3] => { results := [.lit (.bool true)], args := [d1, d2, d3] }
  | _ => none }
def terminalEpochsRow : OpenClaim := { program := "ytgonfcdmaoeboaagreatdoor", sum := "6ac0d48ba5fd2edca65e6eaae05881677904c3a4f644278823a6c74268870149", func := "replevin/replevinlaw36.TerminalEpochs", spec := "terminalEpochs", inPlace := ["internal/bytealg.abigen_runtime_cmpstring"], unfollowed := true, recurses := true, named := ["strconv.ErrSyntax", "strconv.ErrRange", "internal/strconv.uint64pow10", "math/bits.deBruijn32tab", "math/bits.deBruijn64tab"], plainKeys := false, apart := false, laid := [("math/bits.deBruijn32tab", laid_math_bits_deBruijn32tab), ("math/bits.deBruijn64tab", laid_math_bits_deBruijn64tab), ("internal/strconv.uint64pow10", laid_internal_strconv_uint64pow10), ("strconv.ErrRange", laid_strconv_ErrRange), ("strconv.ErrSyntax", laid_strconv_ErrSyntax)] }
def TerminalEpochsSaid : Prop := terminalEpochsRow.holds Tryz.pinned (OpenSpec.ofChange terminalEpochsSpec)

/-- ITS FALSE NEIGHBOUR: 'it returns false'. Refute it at one input. -/
def terminalEpochsWrong : ChangeSpec := { name := "terminalEpochs", fn := fun _ => fun
  | [d1, d2, d3] => { results := [.lit (.bool false)], args := [d1, d2, d3] }
  | _ => none }
def TerminalEpochsWrongFalsely : Prop := terminalEpochsRow.holds Tryz.pinned (OpenSpec.ofChange terminalEpochsWrong)

/-- 'replevinlaw36.TerminalErrors': WHATEVER THE INPUT: true; the input reads as it did. -/
def terminalErrorsSpec : ChangeSpec := { name := "terminalErrors", fn := fun _ => fun
  | [d1, d2] => { results := [.lit (.bool true)], args := [d1, d2] }
  | _ => none }
def terminalErrorsRow : OpenClaim := { program := "ytgonfcdmaoeboaagreatdoor", sum := "6ac0d48ba5fd2edca65e6eaae05881677904c3a4f644278823a6c74268870149", func := "replevin/replevinlaw36.TerminalErrors", spec := "terminalErrors", inPlace := ["internal/bytealg.abigen_runtime_cmpstring"], unfollowed := true, recurses := true, named := ["strconv.ErrSyntax", "strconv.ErrRange", "internal/strconv.uint64pow10", "math/bits.deBruijn32tab", "math/bits.deBruijn64tab"], plainKeys := false, apart := false, laid := [("math/bits.deBruijn32tab", laid_math_bits_deBruijn32tab), ("math/bits.deBruijn64tab", laid_math_bits_deBruijn64tab), ("internal/strconv.uint64pow10", laid_internal_strconv_uint64pow10), ("strconv.ErrRange", laid_strconv_ErrRange), ("strconv.ErrSyntax", laid_strconv_ErrSyntax)] }
def TerminalErrorsSaid : Prop := terminalErrorsRow.holds Tryz.pinned (OpenSpec.ofChange terminalErrorsSpec)

/-- ITS FALSE NEIGHBOUR: 'it returns false'. Refute it at one input. -/
def terminalErrorsWrong : ChangeSpec := { name := "terminalErrors", fn := fun _ => fun
  | [d1, d2] => { results := [.lit (.bool false)], args := [d1, d2] }
  | _ => none }
def TerminalErrorsWrongFalsely : Prop := terminalErrorsRow.holds Tryz.pinned (OpenSpec.ofChange terminalErrorsWrong)

/-- 'replevinlaw36.TerminalFrame': WHATEVER THE INPUT: true; the input reads as it did. -/
def terminalFrameSpec : ChangeSpec := { name := "terminalFrame", fn := fun _ => fun
  | [d1, d2, d3] => { results := [.lit (.bool true)], args := [d1, d2, d3] }
  | _ => none }
def terminalFrameRow : OpenClaim := { program := "ytgonfcdmaoeboaagreatdoor", sum := "6ac0d48ba5fd2edca65e6eaae05881677904c3a4f644278823a6c74268870149", func := "replevin/replevinlaw36.TerminalFrame", spec := "terminalFrame", inPlace := ["internal/bytealg.abigen_runtime_cmpstring"], unfollowed := true, recurses := true, named := ["strconv.ErrSyntax", "strconv.ErrRange", "internal/strconv.uint64pow10", "math/bits.deBruijn32tab", "math/bits.deBruijn64tab"], plainKeys := false, apart := false, laid := [("math/bits.deBruijn32tab", laid_math_bits_deBruijn32tab), ("math/bits.deBruijn64tab", laid_math_bits_deBruijn64tab), ("internal/strconv.uint64pow10", laid_internal_strconv_uint64pow10), ("strconv.ErrRange", laid_strconv_ErrRange), ("strconv.ErrSyntax", laid_strconv_ErrSyntax)] }
def TerminalFrameSaid : Prop := terminalFrameRow.holds Tryz.pinned (OpenSpec.ofChange terminalFrameSpec)

/-- ITS FALSE NEIGHBOUR: 'it returns false'. Refute it at one input. -/
def terminalFrameWrong : ChangeSpec := { name := "terminalFrame", fn := fun _ => fun
  | [d1, d2, d3] => { results := [.lit (.bool false)], args := [d1, d2, d3] }
  | _ => none }
def TerminalFrameWrongFalsely : Prop := terminalFrameRow.holds Tryz.pinned (OpenSpec.ofChange terminalFrameWrong)

/- THE SECOND FORM. 'bulk': how many values and letters a reading holds, each counted each time it is reached (what is shared counts as often as it is met; a slice's spare places count too). A statement '..UptoSaid' is the law's where the arguments, and the package variables that the reading takes, are together of bulk at most 1048576: NARROWER than '..Said'. Prove '..Said' where nothing that the law and all that it calls make is longer than what came in: it says more and counts as full. Else prove '..UptoSaid'. A law counts once. -/
mutual
def uptoBulk {H : Type} : DataW H → Nat
  | .lit (.string bytes) => bytes.length + 1
  | .lit _ => 1
  | .nil => 1
  | .ptr d => uptoBulk d + 1
  | .slice elems spare => uptoBulkAll elems + uptoBulkAll spare + 1
  | .agg parts => uptoBulkAll parts + 1
  | .iface _ d => uptoBulk d + 1
  | .map entries => uptoBulkEntries entries + 1
  | .held _ => 1
def uptoBulkAll {H : Type} : List (DataW H) → Nat
  | [] => 0
  | d :: r => uptoBulk d + uptoBulkAll r
def uptoBulkEntries {H : Type} : List (Lit × DataW H) → Nat
  | [] => 0
  | x :: r => uptoBulkEntry x + uptoBulkEntries r
def uptoBulkEntry {H : Type} : Lit × DataW H → Nat
  | (.string bytes, d) => bytes.length + uptoBulk d + 1
  | (_, d) => uptoBulk d + 1
 end
def uptoSmall : (H : Type) → List (DataW H) → Bool := fun _ ds => decide (uptoBulkAll ds ≤ 1048576)
def OpenSpec.upto (s : _root_.Go.ChangeSpec) : _root_.Go.OpenSpec := { _root_.Go.OpenSpec.ofChange s with cond := some uptoSmall }

/-- 'replevinlaw37.PortEncodes', WHERE WHAT IT READS IS OF BULK AT MOST 1048576: true; the input reads as it did. -/
def portEncodesUptoRow : OpenClaim := { program := "ytgonfcdmaoeboaagreatdoor", sum := "6ac0d48ba5fd2edca65e6eaae05881677904c3a4f644278823a6c74268870149", func := "replevin/replevinlaw37.PortEncodes", spec := "portEncodes", inPlace := ["internal/bytealg.abigen_runtime_cmpstring"], unfollowed := true, recurses := true, named := ["strconv.ErrSyntax", "strconv.ErrRange", "internal/strconv.uint64pow10", "math/bits.deBruijn32tab", "math/bits.deBruijn64tab"], plainKeys := false, apart := false, laid := [("math/bits.deBruijn32tab", laid_math_bits_deBruijn32tab), ("math/bits.deBruijn64tab", laid_math_bits_deBruijn64tab), ("internal/strconv.uint64pow10", laid_internal_strconv_uint64pow10), ("strconv.ErrRange", laid_strconv_ErrRange), ("strconv.ErrSyntax", laid_strconv_ErrSyntax)], narrowed := true }
def PortEncodesUptoSaid : Prop := portEncodesUptoRow.holds Tryz.pinned (OpenSpec.upto portEncodesSpec)

/-- 'replevinlaw37.PortQueues', WHERE WHAT IT READS IS OF BULK AT MOST 1048576: true; the input reads as it did. -/
def portQueuesUptoRow : OpenClaim := { program := "ytgonfcdmaoeboaagreatdoor", sum := "6ac0d48ba5fd2edca65e6eaae05881677904c3a4f644278823a6c74268870149", func := "replevin/replevinlaw37.PortQueues", spec := "portQueues", inPlace := ["internal/bytealg.abigen_runtime_cmpstring"], unfollowed := true, recurses := true, named := ["strconv.ErrSyntax", "strconv.ErrRange", "internal/strconv.uint64pow10", "math/bits.deBruijn32tab", "math/bits.deBruijn64tab"], plainKeys := false, apart := false, laid := [("math/bits.deBruijn32tab", laid_math_bits_deBruijn32tab), ("math/bits.deBruijn64tab", laid_math_bits_deBruijn64tab), ("internal/strconv.uint64pow10", laid_internal_strconv_uint64pow10), ("strconv.ErrRange", laid_strconv_ErrRange), ("strconv.ErrSyntax", laid_strconv_ErrSyntax)], narrowed := true }
def PortQueuesUptoSaid : Prop := portQueuesUptoRow.holds Tryz.pinned (OpenSpec.upto portQueuesSpec)

/-- 'replevinlaw37.PortEpochs', WHERE WHAT IT READS IS OF BULK AT MOST 1048576: true; the input reads as it did. -/
def portEpochsUptoRow : OpenClaim := { program := "ytgonfcdmaoeboaagreatdoor", sum := "6ac0d48ba5fd2edca65e6eaae05881677904c3a4f644278823a6c74268870149", func := "replevin/replevinlaw37.PortEpochs", spec := "portEpochs", inPlace := ["internal/bytealg.abigen_runtime_cmpstring"], unfollowed := true, recurses := true, named := ["strconv.ErrSyntax", "strconv.ErrRange", "internal/strconv.uint64pow10", "math/bits.deBruijn32tab", "math/bits.deBruijn64tab"], plainKeys := false, apart := false, laid := [("math/bits.deBruijn32tab", laid_math_bits_deBruijn32tab), ("math/bits.deBruijn64tab", laid_math_bits_deBruijn64tab), ("internal/strconv.uint64pow10", laid_internal_strconv_uint64pow10), ("strconv.ErrRange", laid_strconv_ErrRange), ("strconv.ErrSyntax", laid_strconv_ErrSyntax)], narrowed := true }
def PortEpochsUptoSaid : Prop := portEpochsUptoRow.holds Tryz.pinned (OpenSpec.upto portEpochsSpec)

/-- 'replevinlaw37.PortNil', WHERE WHAT IT READS IS OF BULK AT MOST 1048576: true; the input reads as it did. -/
def portNilUptoRow : OpenClaim := { program := "ytgonfcdmaoeboaagreatdoor", sum := "6ac0d48ba5fd2edca65e6eaae05881677904c3a4f644278823a6c74268870149", func := "replevin/replevinlaw37.PortNil", spec := "portNil", inPlace := ["internal/bytealg.abigen_runtime_cmpstring"], unfollowed := true, recurses := true, named := ["strconv.ErrSyntax", "strconv.ErrRange", "internal/strconv.uint64pow10", "math/bits.deBruijn32tab", "math/bits.deBruijn64tab"], plainKeys := false, apart := false, laid := [("math/bits.deBruijn32tab", laid_math_bits_deBruijn32tab), ("math/bits.deBruijn64tab", laid_math_bits_deBruijn64tab), ("internal/strconv.uint64pow10", laid_internal_strconv_uint64pow10), ("strconv.ErrRange", laid_strconv_ErrRange), ("strconv.ErrSyntax", laid_strconv_ErrSyntax)], narrowed := true }
def PortNilUptoSaid : Prop := portNilUptoRow.holds Tryz.pinned (OpenSpec.upto portNilSpec)

/-- 'replevinlaw37.PortBroken', WHERE WHAT IT READS IS OF BULK AT MOST 1048576: true; the input reads as it did. -/
def portBrokenUptoRow : OpenClaim := { program := "ytgonfcdmaoeboaagreatdoor", sum := "6ac0d48ba5fd2edca65e6eaae05881677904c3a4f644278823a6c74268870149", func := "replevin/replevinlaw37.PortBroken", spec := "portBroken", inPlace := ["internal/bytealg.abigen_runtime_cmpstring"], unfollowed := true, recurses := true, named := ["strconv.ErrSyntax", "strconv.ErrRange", "internal/strconv.uint64pow10", "math/bits.deBruijn32tab", "math/bits.deBruijn64tab"], plainKeys := false, apart := false, laid := [("math/bits.deBruijn32tab", laid_math_bits_deBruijn32tab), ("math/bits.deBruijn64tab", laid_math_bits_deBruijn64tab), ("internal/strconv.uint64pow10", laid_internal_strconv_uint64pow10), ("strconv.ErrRange", laid_strconv_ErrRange), ("strconv.ErrSyntax", laid_strconv_ErrSyntax)], narrowed := true }
def PortBrokenUptoSaid : Prop := portBrokenUptoRow.holds Tryz.pinned (OpenSpec.upto portBrokenSpec)

/-- 'replevinlaw37.PortFrame', WHERE WHAT IT READS IS OF BULK AT MOST 1048576: true; the input reads as it did. -/
def portFrameUptoRow : OpenClaim := { program := "ytgonfcdmaoeboaagreatdoor", sum := "6ac0d48ba5fd2edca65e6eaae05881677904c3a4f644278823a6c74268870149", func := "replevin/replevinlaw37.PortFrame", spec := "portFrame", inPlace := ["internal/bytealg.abigen_runtime_cmpstring"], unfollowed := true, recurses := true, named := ["strconv.ErrSyntax", "strconv.ErrRange", "internal/strconv.uint64pow10", "math/bits.deBruijn32tab", "math/bits.deBruijn64tab"], plainKeys := false, apart := false, laid := [("math/bits.deBruijn32tab", laid_math_bits_deBruijn32tab), ("math/bits.deBruijn64tab", laid_math_bits_deBruijn64tab), ("internal/strconv.uint64pow10", laid_internal_strconv_uint64pow10), ("strconv.ErrRange", laid_strconv_ErrRange), ("strconv.ErrSyntax", laid_strconv_ErrSyntax)], narrowed := true }
def PortFrameUptoSaid : Prop := portFrameUptoRow.holds Tryz.pinned (OpenSpec.upto portFrameSpec)

/-- 'replevinlaw37.PortApart', WHERE WHAT IT READS IS OF BULK AT MOST 1048576: true; the input reads as it did. -/
def portApartUptoRow : OpenClaim := { program := "ytgonfcdmaoeboaagreatdoor", sum := "6ac0d48ba5fd2edca65e6eaae05881677904c3a4f644278823a6c74268870149", func := "replevin/replevinlaw37.PortApart", spec := "portApart", inPlace := ["internal/bytealg.abigen_runtime_cmpstring"], unfollowed := true, recurses := true, named := ["strconv.ErrSyntax", "strconv.ErrRange", "internal/strconv.uint64pow10", "math/bits.deBruijn32tab", "math/bits.deBruijn64tab"], plainKeys := false, apart := false, laid := [("math/bits.deBruijn32tab", laid_math_bits_deBruijn32tab), ("math/bits.deBruijn64tab", laid_math_bits_deBruijn64tab), ("internal/strconv.uint64pow10", laid_internal_strconv_uint64pow10), ("strconv.ErrRange", laid_strconv_ErrRange), ("strconv.ErrSyntax", laid_strconv_ErrSyntax)], narrowed := true }
def PortApartUptoSaid : Prop := portApartUptoRow.holds Tryz.pinned (OpenSpec.upto portApartSpec)

/-- 'replevinlaw36.TerminalPlays', WHERE WHAT IT READS IS OF BULK AT MOST 1048576: true; the input reads as it did. -/
def terminalPlaysUptoRow : OpenClaim := { program := "ytgonfcdmaoeboaagreatdoor", sum := "6ac0d48ba5fd2edca65e6eaae05881677904c3a4f644278823a6c74268870149", func := "replevin/replevinlaw36.TerminalPlays", spec := "terminalPlays", inPlace := ["internal/bytealg.abigen_runtime_cmpstring"], unfollowed := true, recurses := true, named := ["strconv.ErrSyntax", "strconv.ErrRange", "internal/strconv.uint64pow10", "math/bits.deBruijn32tab", "math/bits.deBruijn64tab"], plainKeys := false, apart := false, laid := [("math/bits.deBruijn32tab", laid_math_bits_deBruijn32tab), ("math/bits.deBruijn64tab", laid_math_bits_deBruijn64tab), ("internal/strconv.uint64pow10", laid_internal_strconv_uint64pow10), ("strconv.ErrRange", laid_strconv_ErrRange), ("strconv.ErrSyntax", laid_strconv_ErrSyntax)], narrowed := true }
def TerminalPlaysUptoSaid : Prop := terminalPlaysUptoRow.holds Tryz.pinned (OpenSpec.upto terminalPlaysSpec)

/-- 'replevinlaw36.TerminalEpochs', WHERE WHAT IT READS IS OF BULK AT MOST 1048576: true; the input reads as it did. -/
def terminalEpochsUptoRow : OpenClaim := { program := "ytgonfcdmaoeboaagreatdoor", sum := "6ac0d48ba5fd2edca65e6eaae05881677904c3a4f644278823a6c74268870149", func := "replevin/replevinlaw36.TerminalEpochs", spec := "terminalEpochs", inPlace := ["internal/bytealg.abigen_runtime_cmpstring"], unfollowed := true, recurses := true, named := ["strconv.ErrSyntax", "strconv.ErrRange", "internal/strconv.uint64pow10", "math/bits.deBruijn32tab", "math/bits.deBruijn64tab"], plainKeys := false, apart := false, laid := [("math/bits.deBruijn32tab", laid_math_bits_deBruijn32tab), ("math/bits.deBruijn64tab", laid_math_bits_deBruijn64tab), ("internal/strconv.uint64pow10", laid_internal_strconv_uint64pow10), ("strconv.ErrRange", laid_strconv_ErrRange), ("strconv.ErrSyntax", laid_strconv_ErrSyntax)], narrowed := true }
def TerminalEpochsUptoSaid : Prop := terminalEpochsUptoRow.holds Tryz.pinned (OpenSpec.upto terminalEpochsSpec)

/-- 'replevinlaw36.TerminalErrors', WHERE WHAT IT READS IS OF BULK AT MOST 1048576: true; the input reads as it did. -/
def terminalErrorsUptoRow : OpenClaim := { program := "ytgonfcdmaoeboaagreatdoor", sum := "6ac0d48ba5fd2edca65e6eaae05881677904c3a4f644278823a6c74268870149", func := "replevin/replevinlaw36.TerminalErrors", spec := "terminalErrors", inPlace := ["internal/bytealg.abigen_runtime_cmpstring"], unfollowed := true, recurses := true, named := ["strconv.ErrSyntax", "strconv.ErrRange", "internal/strconv.uint64pow10", "math/bits.deBruijn32tab", "math/bits.deBruijn64tab"], plainKeys := false, apart := false, laid := [("math/bits.deBruijn32tab", laid_math_bits_deBruijn32tab), ("math/bits.deBruijn64tab", laid_math_bits_deBruijn64tab), ("internal/strconv.uint64pow10", laid_internal_strconv_uint64pow10), ("strconv.ErrRange", laid_strconv_ErrRange), ("strconv.ErrSyntax", laid_strconv_ErrSyntax)], narrowed := true }
def TerminalErrorsUptoSaid : Prop := terminalErrorsUptoRow.holds Tryz.pinned (OpenSpec.upto terminalErrorsSpec)

/-- 'replevinlaw36.TerminalFrame', WHERE WHAT IT READS IS OF BULK AT MOST 1048576: true; the input reads as it did. -/
def terminalFrameUptoRow : OpenClaim := { program := "ytgonfcdmaoeboaagreatdoor", sum := "6ac0d48ba5fd2edca65e6eaae05881677904c3a4f644278823a6c74268870149", func := "replevin/replevinlaw36.TerminalFrame", spec := "terminalFrame", inPlace := ["internal/bytealg.abigen_runtime_cmpstring"], unfollowed := true, recurses := true, named := ["strconv.ErrSyntax", "strconv.ErrRange", "internal/strconv.uint64pow10", "math/bits.deBruijn32tab", "math/bits.deBruijn64tab"], plainKeys := false, apart := false, laid := [("math/bits.deBruijn32tab", laid_math_bits_deBruijn32tab), ("math/bits.deBruijn64tab", laid_math_bits_deBruijn64tab), ("internal/strconv.uint64pow10", laid_internal_strconv_uint64pow10), ("strconv.ErrRange", laid_strconv_ErrRange), ("strconv.ErrSyntax", laid_strconv_ErrSyntax)], narrowed := true }
def TerminalFrameUptoSaid : Prop := terminalFrameUptoRow.holds Tryz.pinned (OpenSpec.upto terminalFrameSpec)

end Rows
end Go.Proofs.YtgonfcdmaoeboaaGreatDoor

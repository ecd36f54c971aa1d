/-
  NARROWER THAN 'FOR EVERY INPUT', by the rows' own cells (each row's printed sentence says how): PortEncodes: laid · PortDecodes: laid · PortQueues: laid · PortEpochs: laid · PortNil: laid · PortBroken: laid · SignalDecodes: laid · SignalFamily: laid · SignalNil: laid · SignalBroken: laid.
  DERIVED. THE GIVEN ROWS OF THIS SEAT. 10 by the template 'for every input the law returns true; each argument reads behind the call as it read before'; 0 by the template 'total and deterministic' (their statements: YtmjfdbgimknbeaaGreatDoorTotals.lean).
  GIVEN WITH THE SEED: the statements are not yours to turn. If you find one false, say at which input.
  Laid BY PROGRAM, IN A SANDBOX (cutbox-rows.mjs): the forced cells as the released guide's own fill.sh prints them over the translation be34e25b8d02dfa1… (all of the seat's roots in one cut). By AI agents, Wed Nov 11 2026. No macro, syntax, notation, axiom, sorry.
-/
import Derived.Test.YtmjfdbgimknbeaaGreatDoorChecked
import GoSem.Claim
import GoSem.ClaimJoined
import GoSem.ClaimMapViews
import Derived.JoinedTies
import Derived.KernelRfl
namespace Go.Proofs.YtmjfdbgimknbeaaGreatDoor
/- THE CELL 'sum', in the pinned program and in every row, IS THE sha256 OF THE DUMP (.gsa) THAT YtmjfdbgimknbeaaGreatDoorProg.lean LOADS. Nothing in Lean hashes anything: it is a label: what it is worth is what the hold of that sum in a sandbox is worth. -/
noncomputable def Tryz.pinned : Pinned := { name := "ytmjfdbgimknbeaagreatdoor", sum := "be34e25b8d02dfa1fb66527fcc9b734c348f2b8aaa8182c0106926dfba6b3843", checked := Tryz.checked }
namespace Rows
def none {H : Type} : Left H := { results := [], args := [] }

/- WHAT THE LISTED PACKAGE-LEVEL VARIABLES READ AS WHEN THE CALL BEGINS. Each datum BY PROGRAM (the guide's laid-datum.mjs) off the statement by which the dump's own 'gosem.cut.vars' lays the variable. In a bare row this is a premise. The card (YtmjfdbgimknbeaaGreatDoorCards.lean) ties it to the program's text. -/
def laid_math_bits_deBruijn32tab {H : Type} : DataW H := .agg [.lit (.int .u8 0), .lit (.int .u8 1), .lit (.int .u8 28), .lit (.int .u8 2), .lit (.int .u8 29), .lit (.int .u8 14), .lit (.int .u8 24), .lit (.int .u8 3), .lit (.int .u8 30), .lit (.int .u8 22), .lit (.int .u8 20), .lit (.int .u8 15), .lit (.int .u8 25), .lit (.int .u8 17), .lit (.int .u8 4), .lit (.int .u8 8), .lit (.int .u8 31), .lit (.int .u8 27), .lit (.int .u8 13), .lit (.int .u8 23), .lit (.int .u8 21), .lit (.int .u8 19), .lit (.int .u8 16), .lit (.int .u8 7), .lit (.int .u8 26), .lit (.int .u8 12), .lit (.int .u8 18), .lit (.int .u8 6), .lit (.int .u8 11), .lit (.int .u8 5), .lit (.int .u8 10), .lit (.int .u8 9)]
def laid_math_bits_deBruijn64tab {H : Type} : DataW H := .agg [.lit (.int .u8 0), .lit (.int .u8 1), .lit (.int .u8 56), .lit (.int .u8 2), .lit (.int .u8 57), .lit (.int .u8 49), .lit (.int .u8 28), .lit (.int .u8 3), .lit (.int .u8 61), .lit (.int .u8 58), .lit (.int .u8 42), .lit (.int .u8 50), .lit (.int .u8 38), .lit (.int .u8 29), .lit (.int .u8 17), .lit (.int .u8 4), .lit (.int .u8 62), .lit (.int .u8 47), .lit (.int .u8 59), .lit (.int .u8 36), .lit (.int .u8 45), .lit (.int .u8 43), .lit (.int .u8 51), .lit (.int .u8 22), .lit (.int .u8 53), .lit (.int .u8 39), .lit (.int .u8 33), .lit (.int .u8 30), .lit (.int .u8 24), .lit (.int .u8 18), .lit (.int .u8 12), .lit (.int .u8 5), .lit (.int .u8 63), .lit (.int .u8 55), .lit (.int .u8 48), .lit (.int .u8 27), .lit (.int .u8 60), .lit (.int .u8 41), .lit (.int .u8 37), .lit (.int .u8 16), .lit (.int .u8 46), .lit (.int .u8 35), .lit (.int .u8 44), .lit (.int .u8 21), .lit (.int .u8 52), .lit (.int .u8 32), .lit (.int .u8 23), .lit (.int .u8 11), .lit (.int .u8 54), .lit (.int .u8 26), .lit (.int .u8 40), .lit (.int .u8 15), .lit (.int .u8 34), .lit (.int .u8 20), .lit (.int .u8 31), .lit (.int .u8 10), .lit (.int .u8 25), .lit (.int .u8 14), .lit (.int .u8 19), .lit (.int .u8 9), .lit (.int .u8 13), .lit (.int .u8 8), .lit (.int .u8 7), .lit (.int .u8 6)]
def laid_internal_strconv_uint64pow10 {H : Type} : DataW H := .agg [.lit (.int .u64 1), .lit (.int .u64 10), .lit (.int .u64 100), .lit (.int .u64 1000), .lit (.int .u64 10000), .lit (.int .u64 100000), .lit (.int .u64 1000000), .lit (.int .u64 10000000), .lit (.int .u64 100000000), .lit (.int .u64 1000000000), .lit (.int .u64 10000000000), .lit (.int .u64 100000000000), .lit (.int .u64 1000000000000), .lit (.int .u64 10000000000000), .lit (.int .u64 100000000000000), .lit (.int .u64 1000000000000000), .lit (.int .u64 10000000000000000), .lit (.int .u64 100000000000000000), .lit (.int .u64 1000000000000000000), .lit (.int .u64 10000000000000000000)]
def laid_strconv_ErrRange {H : Type} : DataW H := .iface "*errors.errorString" (.ptr (.agg [.lit (.string [118, 97, 108, 117, 101, 32, 111, 117, 116, 32, 111, 102, 32, 114, 97, 110, 103, 101])]))
def laid_strconv_ErrSyntax {H : Type} : DataW H := .iface "*errors.errorString" (.ptr (.agg [.lit (.string [105, 110, 118, 97, 108, 105, 100, 32, 115, 121, 110, 116, 97, 120])]))

/-- 'replevinlaw37.PortEncodes': WHATEVER THE INPUT: true; the input reads as it did. -/
def portEncodesSpec : ChangeSpec := { name := "portEncodes", fn := fun _ => fun
  | [d] => { results := [.lit (.bool true)], args := [d] }
  | _ => none }
def portEncodesRow : OpenClaim := { program := "ytmjfdbgimknbeaagreatdoor", sum := "be34e25b8d02dfa1fb66527fcc9b734c348f2b8aaa8182c0106926dfba6b3843", func := "replevin/replevinlaw37.PortEncodes", spec := "portEncodes", inPlace := ["internal/bytealg.abigen_runtime_cmpstring"], unfollowed := true, recurses := true, named := ["strconv.ErrSyntax", "strconv.ErrRange", "internal/strconv.uint64pow10", "math/bits.deBruijn32tab", "math/bits.deBruijn64tab"], plainKeys := false, apart := false, laid := [("math/bits.deBruijn32tab", laid_math_bits_deBruijn32tab), ("math/bits.deBruijn64tab", laid_math_bits_deBruijn64tab), ("internal/strconv.uint64pow10", laid_internal_strconv_uint64pow10), ("strconv.ErrRange", laid_strconv_ErrRange), ("strconv.ErrSyntax", laid_strconv_ErrSyntax)] }
def PortEncodesSaid : Prop := portEncodesRow.holds Tryz.pinned (OpenSpec.ofChange portEncodesSpec)

/-- ITS FALSE NEIGHBOUR: 'it returns false'. Refute it at one input. -/
def portEncodesWrong : ChangeSpec := { name := "portEncodes", fn := fun _ => fun
  | [d] => { results := [.lit (.bool false)], args := [d] }
  | _ => none }
def PortEncodesWrongFalsely : Prop := portEncodesRow.holds Tryz.pinned (OpenSpec.ofChange portEncodesWrong)

/-- 'replevinlaw37.PortDecodes': WHATEVER THE INPUT: true; the input reads as it did. -/
def portDecodesSpec : ChangeSpec := { name := "portDecodes", fn := fun _ => fun
  | [d] => { results := [.lit (.bool true)], args := [d] }
  | _ => none }
def portDecodesRow : OpenClaim := { program := "ytmjfdbgimknbeaagreatdoor", sum := "be34e25b8d02dfa1fb66527fcc9b734c348f2b8aaa8182c0106926dfba6b3843", func := "replevin/replevinlaw37.PortDecodes", spec := "portDecodes", inPlace := ["internal/bytealg.abigen_runtime_cmpstring"], unfollowed := true, recurses := true, named := ["strconv.ErrSyntax", "strconv.ErrRange", "internal/strconv.uint64pow10", "math/bits.deBruijn32tab", "math/bits.deBruijn64tab"], plainKeys := false, apart := false, laid := [("math/bits.deBruijn32tab", laid_math_bits_deBruijn32tab), ("math/bits.deBruijn64tab", laid_math_bits_deBruijn64tab), ("internal/strconv.uint64pow10", laid_internal_strconv_uint64pow10), ("strconv.ErrRange", laid_strconv_ErrRange), ("strconv.ErrSyntax", laid_strconv_ErrSyntax)] }
def PortDecodesSaid : Prop := portDecodesRow.holds Tryz.pinned (OpenSpec.ofChange portDecodesSpec)

/-- ITS FALSE NEIGHBOUR: 'it returns false'. Refute it at one input. -/
def portDecodesWrong : ChangeSpec := { name := "portDecodes", fn := fun _ => fun
  | [d] => { results := [.lit (.bool false)], args := [d] }
  | _ => none }
def PortDecodesWrongFalsely : Prop := portDecodesRow.holds Tryz.pinned (OpenSpec.ofChange portDecodesWrong)

/-- 'replevinlaw37.PortQueues': WHATEVER THE INPUT: true; the input reads as it did. -/
def portQueuesSpec : ChangeSpec := { name := "portQueues", fn := fun _ => fun
  | [d1, d2] => { results := [.lit (.bool true)], args := [d1, d2] }
  | _ => none }
def portQueuesRow : OpenClaim := { program := "ytmjfdbgimknbeaagreatdoor", sum := "be34e25b8d02dfa1fb66527fcc9b734c348f2b8aaa8182c0106926dfba6b3843", func := "replevin/replevinlaw37.PortQueues", spec := "portQueues", inPlace := ["internal/bytealg.abigen_runtime_cmpstring"], unfollowed := true, recurses := true, named := ["strconv.ErrSyntax", "strconv.ErrRange", "internal/strconv.uint64pow10", "math/bits.deBruijn32tab", "math/bits.deBruijn64tab"], plainKeys := false, apart := false, laid := [("math/bits.deBruijn32tab", laid_math_bits_deBruijn32tab), ("math/bits.deBruijn64tab", laid_math_bits_deBruijn64tab), ("internal/strconv.uint64pow10", laid_internal_strconv_uint64pow10), ("strconv.ErrRange", laid_strconv_ErrRange), ("strconv.ErrSyntax", laid_strconv_ErrSyntax)] }
def PortQueuesSaid : Prop := portQueuesRow.holds Tryz.pinned (OpenSpec.ofChange portQueuesSpec)

/-- ITS FALSE NEIGHBOUR: 'it returns false'. Refute it at one input. -/
def portQueuesWrong : ChangeSpec := { name := "portQueues", fn := fun _ => fun
  | [d1, d2] => { results := [.lit (.bool false)], args := [d1, d2] }
  | _ => none }
def PortQueuesWrongFalsely : Prop := portQueuesRow.holds Tryz.pinned (OpenSpec.ofChange portQueuesWrong)

/-- 'replevinlaw37.PortEpochs': WHATEVER THE INPUT: true; the input reads as it did. -/
def portEpochsSpec : ChangeSpec := { name := "portEpochs", fn := fun _ => fun
  | [d1, d2, d3] => { results := [.lit (.bool true)], args := [d1, d2, d3] }
  | _ => none }
def portEpochsRow : OpenClaim := { program := "ytmjfdbgimknbeaagreatdoor", sum := "be34e25b8d02dfa1fb66527fcc9b734c348f2b8aaa8182c0106926dfba6b3843", func := "replevin/replevinlaw37.PortEpochs", spec := "portEpochs", inPlace := ["internal/bytealg.abigen_runtime_cmpstring"], unfollowed := true, recurses := true, named := ["strconv.ErrSyntax", "strconv.ErrRange", "internal/strconv.uint64pow10", "math/bits.deBruijn32tab", "math/bits.deBruijn64tab"], plainKeys := false, apart := false, laid := [("math/bits.deBruijn32tab", laid_math_bits_deBruijn32tab), ("math/bits.deBruijn64tab", laid_math_bits_deBruijn64tab), ("internal/strconv.uint64pow10", laid_internal_strconv_uint64pow10), ("strconv.ErrRange", laid_strconv_ErrRange), ("strconv.ErrSyntax", laid_strconv_ErrSyntax)] }
def PortEpochsSaid : Prop := portEpochsRow.holds Tryz.pinned (OpenSpec.ofChange portEpochsSpec)

/-- ITS FALSE NEIGHBOUR: 'it returns false'. Refute it at one input. -/
def portEpochsWrong : ChangeSpec := { name := "portEpochs", fn := fun _ => fun
  | [d1, d2, d3] => { results := [.lit (.bool false)], args := [d1, d2, d3] }
  | _ => none }
def PortEpochsWrongFalsely : Prop := portEpochsRow.holds Tryz.pinned (OpenSpec.ofChange portEpochsWrong)

/-- 'replevinlaw37.PortNil': WHATEVER THE INPUT: true; the input reads as it did. -/
def portNilSpec : ChangeSpec := { name := "portNil", fn := fun _ => fun
  | [d1, d2] => { results := [.lit (.bool true)], args := [d1, d2] }
  | _ => none }
def portNilRow : OpenClaim := { program := "ytmjfdbgimknbeaagreatdoor", sum := "be34e25b8d02dfa1fb66527fcc9b734c348f2b8aaa8182c0106926dfba6b3843", func := "replevin/replevinlaw37.PortNil", spec := "portNil", inPlace := ["internal/bytealg.abigen_runtime_cmpstring"], unfollowed := true, recurses := true, named := ["strconv.ErrSyntax", "strconv.ErrRange", "internal/strconv.uint64pow10", "math/bits.deBruijn32tab", "math/bits.deBruijn64tab"], plainKeys := false, apart := false, laid := [("math/bits.deBruijn32tab", laid_math_bits_deBruijn32tab), ("math/bits.deBruijn64tab", laid_math_bits_deBruijn64tab), ("internal/strconv.uint64pow10", laid_internal_strconv_uint64pow10), ("strconv.ErrRange", laid_strconv_ErrRange), ("strconv.ErrSyntax", laid_strconv_ErrSyntax)] }
def PortNilSaid : Prop := portNilRow.holds Tryz.pinned (OpenSpec.ofChange portNilSpec)

/-- ITS FALSE NEIGHBOUR: 'it returns false'. Refute it at one input. -/
def portNilWrong : ChangeSpec := { name := "portNil", fn := fun _ => fun
  | [d1, d2] => { results := [.lit (.bool false)], args := [d1, d2] }
  | _ => none }
def PortNilWrongFalsely : Prop := portNilRow.holds Tryz.pinned (OpenSpec.ofChange portNilWrong)

/-- 'replevinlaw37.PortBroken': WHATEVER THE INPUT: true; the input reads as it did. -/
def portBrokenSpec : ChangeSpec := { name := "portBroken", fn := fun _ => fun
  | [d1, d2] => { results := [.lit (.bool true)], args := [d1, d2] }
  | _ => none }
def portBrokenRow : OpenClaim := { program := "ytmjfdbgimknbeaagreatdoor", sum := "be34e25b8d02dfa1fb66527fcc9b734c348f2b8aaa8182c0106926dfba6b3843", func := "replevin/replevinlaw37.PortBroken", spec := "portBroken", inPlace := ["internal/bytealg.abigen_runtime_cmpstring"], unfollowed := true, recurses := true, named := ["strconv.ErrSyntax", "strconv.ErrRange", "internal/strconv.uint64pow10", "math/bits.deBruijn32tab", "math/bits.deBruijn64tab"], plainKeys := false, apart := false, laid := [("math/bits.deBruijn32tab", laid_math_bits_deBruijn32tab), ("math/bits.deBruijn64tab", laid_math_bits_deBruijn64tab), ("internal/strconv.uint64pow10", laid_internal_strconv_uint64pow10), ("strconv.ErrRange", laid_strconv_ErrRange), ("strconv.ErrSyntax", laid_strconv_ErrSyntax)] }
def PortBrokenSaid : Prop := portBrokenRow.holds Tryz.pinned (OpenSpec.ofChange portBrokenSpec)

/-- ITS FALSE NEIGHBOUR: 'it returns false'. Refute it at one input. -/
def portBrokenWrong : ChangeSpec := { name := "portBroken", fn := fun _ => fun
  | [d1, d2] => { results := [.lit (.bool false)], args := [d1, d2] }
  | _ => none }
def PortBrokenWrongFalsely : Prop := portBrokenRow.holds Tryz.pinned (OpenSpec.ofChange portBrokenWrong)

/-- 'replevinlaw33.SignalDecodes': WHATEVER THE INPUT: true; the input reads as it did. -/
def signalDecodesSpec : ChangeSpec := { name := "signalDecodes", fn := fun _ => fun
  | [d] => { results := [.lit (.bool true)], args := [d] }
  | _ => none }
def signalDecodesRow : OpenClaim := { program := "ytmjfdbgimknbeaagreatdoor", sum := "be34e25b8d02dfa1fb66527fcc9b734c348f2b8aaa8182c0106926dfba6b3843", func := "replevin/replevinlaw33.SignalDecodes", spec := "signalDecodes", inPlace := ["internal/bytealg.abigen_runtime_cmpstring", "internal/abi.NoEscape", "internal/bytealg.MakeNoZero"], unfollowed := true, recurses := true, named := ["strconv.ErrSyntax", "strconv.ErrRange", "internal/strconv.uint64pow10", "math/bits.deBruijn32tab", "math/bits.deBruijn64tab"], plainKeys := false, apart := false, laid := [("math/bits.deBruijn32tab", laid_math_bits_deBruijn32tab), ("math/bits.deBruijn64tab", laid_math_bits_deBruijn64tab), ("internal/strconv.uint64pow10", laid_internal_strconv_uint64pow10), ("strconv.ErrRange", laid_strconv_ErrRange), ("strconv.ErrSyntax", laid_strconv_ErrSyntax)] }
def SignalDecodesSaid : Prop := signalDecodesRow.holds Tryz.pinned (OpenSpec.ofChange signalDecodesSpec)

/-- ITS FALSE NEIGHBOUR: 'it returns false'. Refute it at one input. -/
def signalDecodesWrong : ChangeSpec := { name := "signalDecodes", fn := fun _ => fun
  | [d] => { results := [.lit (.bool false)], args := [d] }
  | _ => none }
def SignalDecodesWrongFalsely : Prop := signalDecodesRow.holds Tryz.pinned (OpenSpec.ofChange signalDecodesWrong)

/-- 'replevinlaw33.SignalFamily': WHATEVER THE INPUT: true; the input reads as it did. -/
def signalFamilySpec : ChangeSpec := { name := "signalFamily", fn := fun _ => fun
  | [d1, d2, d3] => { results := [.lit (.bool true)], args := [d1, d2, d3] }
  | _ => none }
def signalFamilyRow : OpenClaim := { program := "ytmjfdbgimknbeaagreatdoor", sum := "be34e25b8d02dfa1fb66527fcc9b734c348f2b8aaa8182c0106926dfba6b3843", func := "replevin/replevinlaw33.SignalFamily", spec := "signalFamily", inPlace := ["internal/bytealg.abigen_runtime_cmpstring", "internal/abi.NoEscape", "internal/bytealg.MakeNoZero"], unfollowed := true, recurses := true, named := ["strconv.ErrSyntax", "strconv.ErrRange", "internal/strconv.uint64pow10", "math/bits.deBruijn32tab", "math/bits.deBruijn64tab"], plainKeys := false, apart := false, laid := [("math/bits.deBruijn32tab", laid_math_bits_deBruijn32tab), ("math/bits.deBruijn64tab", laid_math_bits_deBruijn64tab), ("internal/strconv.uint64pow10", laid_internal_strconv_uint64pow10), ("strconv.ErrRange", laid_strconv_ErrRange), ("strconv.ErrSyntax", laid_strconv_ErrSyntax)] }
def SignalFamilySaid : Prop := signalFamilyRow.holds Tryz.pinned (OpenSpec.ofChange signalFamilySpec)

/-- ITS FALSE NEIGHBOUR: 'it returns false'. Refute it at one input. -/
def signalFamilyWrong : ChangeSpec := { name := "signalFamily", fn := fun _ => fun
  | [d1, d2, d3] => { results := [.lit (.bool false)], args := [d1, d2, d3] }
  | _ => none }
def SignalFamilyWrongFalsely : Prop := signalFamilyRow.holds Tryz.pinned (OpenSpec.ofChange signalFamilyWrong)

/-- 'replevinlaw33.SignalNil': WHATEVER THE INPUT: true; the input reads as it did. -/
def signalNilSpec : ChangeSpec := { name := "signalNil", fn := fun _ => fun
  | [d1, d2] => { results := [.lit (.bool true)], args := [d1, d2] }
  | _ => none }
def signalNilRow : OpenClaim := { program := "ytmjfdbgimknbeaagreatdoor", sum := "be34e25b8d02dfa1fb66527fcc9b734c348f2b8aaa8182c0106926dfba6b3843", func := "replevin/replevinlaw33.SignalNil", spec := "signalNil", inPlace := ["internal/bytealg.abigen_runtime_cmpstring", "internal/abi.NoEscape", "internal/bytealg.MakeNoZero"], unfollowed := true, recurses := true, named := ["strconv.ErrSyntax", "strconv.ErrRange", "internal/strconv.uint64pow10", "math/bits.deBruijn32tab", "math/bits.deBruijn64tab"], plainKeys := false, apart := false, laid := [("math/bits.deBruijn32tab", laid_math_bits_deBruijn32tab), ("math/bits.deBruijn64tab", laid_math_bits_deBruijn64tab), ("internal/strconv.uint64pow10", laid_internal_strconv_uint64pow10), ("strconv.ErrRange", laid_strconv_ErrRange), ("strconv.ErrSyntax", laid_strconv_ErrSyntax)] }
def SignalNilSaid : Prop := signalNilRow.holds Tryz.pinned (OpenSpec.ofChange signalNilSpec)

/-- ITS FALSE NEIGHBOUR: 'it returns false'. Refute it at one input. -/
def signalNilWrong : ChangeSpec := { name := "signalNil", fn := fun _ => fun
  | [d1, d2] => { results := [.lit (.bool false)], args := [d1, d2] }
  | _ => none }
def SignalNilWrongFalsely : Prop := signalNilRow.holds Tryz.pinned (OpenSpec.ofChange signalNilWrong)

/-- 'replevinlaw33.SignalBroken': WHATEVER THE INPUT: true; the input reads as it did. -/
def signalBrokenSpec : ChangeSpec := { name := "signalBroken", fn := fun _ => fun
  | [d1, d2] => { results := [.lit (.bool true)], args := [d1, d2] }
  | _ => none }
def signalBrokenRow : OpenClaim := { program := "ytmjfdbgimknbeaagreatdoor", sum := "be34e25b8d02dfa1fb66527fcc9b734c348f2b8aaa8182c0106926dfba6b3843", func := "replevin/replevinlaw33.SignalBroken", spec := "signalBroken", inPlace := ["internal/bytealg.abigen_runtime_cmpstring", "internal/abi.NoEscape", "internal/bytealg.MakeNoZero"], unfollowed := true, recurses := true, named := ["strconv.ErrSyntax", "strconv.ErrRange", "internal/strconv.uint64pow10", "math/bits.deBruijn32tab", "math/bits.deBruijn64tab"], plainKeys := false, apart := false, laid := [("math/bits.deBruijn32tab", laid_math_bits_deBruijn32tab), ("math/bits.deBruijn64tab", laid_math_bits_deBruijn64tab), ("internal/strconv.uint64pow10", laid_internal_strconv_uint64pow10), ("strconv.ErrRange", laid_strconv_ErrRange), ("strconv.ErrSyntax", laid_strconv_ErrSyntax)] }
def SignalBrokenSaid : Prop := signalBrokenRow.holds Tryz.pinned (OpenSpec.ofChange signalBrokenSpec)

/-- ITS FALSE NEIGHBOUR: 'it returns false'. Refute it at one input. -/
def signalBrokenWrong : ChangeSpec := { name := "signalBroken", fn := fun _ => fun
  | [d1, d2] => { results := [.lit (.bool false)], args := [d1, d2] }
  | _ => none }
def SignalBrokenWrongFalsely : Prop := signalBrokenRow.holds Tryz.pinned (OpenSpec.ofChange signalBrokenWrong)

/- THE SECOND FORM. 'bulk': how many values and letters a reading holds, each counted each time it is reached (what is shared counts as often as it is met; a slice's spare places count too). A statement '..UptoSaid' is the law's where the arguments, and the package variables that the reading takes, are together of bulk at most 1048576: NARROWER than '..Said'. Prove '..Said' where nothing that the law and all that it calls make is longer than what came in: it says more and counts as full. Else prove '..UptoSaid'. A law counts once. -/
mutual
def uptoBulk {H : Type} : DataW H → Nat
  | .lit (.string bytes) => bytes.length + 1
  | .lit _ => 1
  | .nil => 1
  | .ptr d => uptoBulk d + 1
  | .slice elems spare => uptoBulkAll elems + uptoBulkAll spare + 1
  | .agg parts => uptoBulkAll parts + 1
  | .iface _ d => uptoBulk d + 1
  | .map entries => uptoBulkEntries entries + 1
  | .held _ => 1
def uptoBulkAll {H : Type} : List (DataW H) → Nat
  | [] => 0
  | d :: r => uptoBulk d + uptoBulkAll r
def uptoBulkEntries {H : Type} : List (Lit × DataW H) → Nat
  | [] => 0
  | x :: r => uptoBulkEntry x + uptoBulkEntries r
def uptoBulkEntry {H : Type} : Lit × DataW H → Nat
  | (.string bytes, d) => bytes.length + uptoBulk d + 1
  | (_, d) => uptoBulk d + 1
 end
def uptoSmall : (H : Type) → List (DataW H) → Bool := fun _ ds => decide (uptoBulkAll ds ≤ 1048576)
def OpenSpec.upto (s : _root_.Go.ChangeSpec) : _root_.Go.OpenSpec := { _root_.Go.OpenSpec.ofChange s with cond := some uptoSmall }

/-- 'replevinlaw37.PortEncodes', WHERE WHAT IT READS IS OF BULK AT MOST 1048576: true; the input reads as it did. -/
def portEncodesUptoRow : OpenClaim := { program := "ytmjfdbgimknbeaagreatdoor", sum := "be34e25b8d02dfa1fb66527fcc9b734c348f2b8aaa8182c0106926dfba6b3843", func := "replevin/replevinlaw37.PortEncodes", spec := "portEncodes", inPlace := ["internal/bytealg.abigen_runtime_cmpstring"], unfollowed := true, recurses := true, named := ["strconv.ErrSyntax", "strconv.ErrRange", "internal/strconv.uint64pow10", "math/bits.deBruijn32tab", "math/bits.deBruijn64tab"], plainKeys := false, apart := false, laid := [("math/bits.deBruijn32tab", laid_math_bits_deBruijn32tab), ("math/bits.deBruijn64tab", laid_math_bits_deBruijn64tab), ("internal/strconv.uint64pow10", laid_internal_strconv_uint64pow10), ("strconv.ErrRange", laid_strconv_ErrRange), ("strconv.ErrSyntax", laid_strconv_ErrSyntax)], narrowed := true }
def PortEncodesUptoSaid : Prop := portEncodesUptoRow.holds Tryz.pinned (OpenSpec.upto portEncodesSpec)

/-- 'replevinlaw37.PortDecodes', WHERE WHAT IT READS IS OF BULK AT MOST 1048576: true; the input reads as it did. -/
def portDecodesUptoRow : OpenClaim := { program := "ytmjfdbgimknbeaagreatdoor", sum := "be34e25b8d02dfa1fb66527fcc9b734c348f2b8aaa8182c0106926dfba6b3843", func := "replevin/replevinlaw37.PortDecodes", spec := "portDecodes", inPlace := ["internal/bytealg.abigen_runtime_cmpstring"], unfollowed := true, recurses := true, named := ["strconv.ErrSyntax", "strconv.ErrRange", "internal/strconv.uint64pow10", "math/bits.deBruijn32tab", "math/bits.deBruijn64tab"], plainKeys := false, apart := false, laid := [("math/bits.deBruijn32tab", laid_math_bits_deBruijn32tab), ("math/bits.deBruijn64tab", laid_math_bits_deBruijn64tab), ("internal/strconv.uint64pow10", laid_internal_strconv_uint64pow10), ("strconv.ErrRange", laid_strconv_ErrRange), ("strconv.ErrSyntax", laid_strconv_ErrSyntax)], narrowed := true }
def PortDecodesUptoSaid : Prop := portDecodesUptoRow.holds Tryz.pinned (OpenSpec.upto portDecodesSpec)

/-- 'replevinlaw37.PortQueues', WHERE WHAT IT READS IS OF BULK AT MOST 1048576: true; the input reads as it did. -/
def portQueuesUptoRow : OpenClaim := { program := "ytmjfdbgimknbeaagreatdoor", sum := "be34e25b8d02dfa1fb66527fcc9b734c348f2b8aaa8182c0106926dfba6b3843", func := "replevin/replevinlaw37.PortQueues", spec := "portQueues", inPlace := ["internal/bytealg.abigen_runtime_cmpstring"], unfollowed := true, recurses := true, named := ["strconv.ErrSyntax", "strconv.ErrRange", "internal/strconv.uint64pow10", "math/bits.deBruijn32tab", "math/bits.deBruijn64tab"], plainKeys := false, apart := false, laid := [("math/bits.deBruijn32tab", laid_math_bits_deBruijn32tab), ("math/bits.deBruijn64tab", laid_math_bits_deBruijn64tab), ("internal/strconv.uint64pow10", laid_internal_strconv_uint64pow10), ("strconv.ErrRange", laid_strconv_ErrRange), ("strconv.ErrSyntax", laid_strconv_ErrSyntax)], narrowed := true }
def PortQueuesUptoSaid : Prop := portQueuesUptoRow.holds Tryz.pinned (OpenSpec.upto portQueuesSpec)

/-- 'replevinlaw37.PortEpochs', WHERE WHAT IT READS IS OF BULK AT MOST 1048576: true; the input reads as it did. -/
def portEpochsUptoRow : OpenClaim := { program := "ytmjfdbgimknbeaagreatdoor", sum := "be34e25b8d02dfa1fb66527fcc9b734c348f2b8aaa8182c0106926dfba6b3843", func := "replevin/replevinlaw37.PortEpochs", spec := "portEpochs", inPlace := ["internal/bytealg.abigen_runtime_cmpstring"], unfollowed := true, recurses := true, named := ["strconv.ErrSyntax", "strconv.ErrRange", "internal/strconv.uint64pow10", "math/bits.deBruijn32tab", "math/bits.deBruijn64tab"], plainKeys := false, apart := false, laid := [("math/bits.deBruijn32tab", laid_math_bits_deBruijn32tab), ("math/bits.deBruijn64tab", laid_math_bits_deBruijn64tab), ("internal/strconv.uint64pow10", laid_internal_strconv_uint64pow10), ("strconv.ErrRange", laid_strconv_ErrRange), ("strconv.ErrSyntax", laid_strconv_ErrSyntax)], narrowed := true }
def PortEpochsUptoSaid : Prop := portEpochsUptoRow.holds Tryz.pinned (OpenSpec.upto portEpochsSpec)

/-- 'replevinlaw37.PortNil', WHERE WHAT IT READS IS OF BULK AT MOST 1048576: true; the input reads as it did. -/
def portNilUptoRow : OpenClaim := { program := "ytmjfdbgimknbeaagreatdoor", sum := "be34e25b8d02dfa1fb66527fcc9b734c348f2b8aaa8182c0106926dfba6b3843", func := "replevin/replevinlaw37.PortNil", spec := "portNil", inPlace := ["internal/bytealg.abigen_runtime_cmpstring"], unfollowed := true, recurses := true, named := ["strconv.ErrSyntax", "strconv.ErrRange", "internal/strconv.uint64pow10", "math/bits.deBruijn32tab", "math/bits.deBruijn64tab"], plainKeys := false, apart := false, laid := [("math/bits.deBruijn32tab", laid_math_bits_deBruijn32tab), ("math/bits.deBruijn64tab", laid_math_bits_deBruijn64tab), ("internal/strconv.uint64pow10", laid_internal_strconv_uint64pow10), ("strconv.ErrRange", laid_strconv_ErrRange), ("strconv.ErrSyntax", laid_strconv_ErrSyntax)], narrowed := true }
def PortNilUptoSaid : Prop := portNilUptoRow.holds Tryz.pinned (OpenSpec.upto portNilSpec)

/-- 'replevinlaw37.PortBroken', WHERE WHAT IT READS IS OF BULK AT MOST 1048576: true; the input reads as it did. -/
def portBrokenUptoRow : OpenClaim := { program := "ytmjfdbgimknbeaagreatdoor", sum := "be34e25b8d02dfa1fb66527fcc9b734c348f2b8aaa8182c0106926dfba6b3843", func := "replevin/replevinlaw37.PortBroken", spec := "portBroken", inPlace := ["internal/bytealg.abigen_runtime_cmpstring"], unfollowed := true, recurses := true, named := ["strconv.ErrSyntax", "strconv.ErrRange", "internal/strconv.uint64pow10", "math/bits.deBruijn32tab", "math/bits.deBruijn64tab"], plainKeys := false, apart := false, laid := [("math/bits.deBruijn32tab", laid_math_bits_deBruijn32tab), ("math/bits.deBruijn64tab", laid_math_bits_deBruijn64tab), ("internal/strconv.uint64pow10", laid_internal_strconv_uint64pow10), ("strconv.ErrRange", laid_strconv_ErrRange), ("strconv.ErrSyntax", laid_strconv_ErrSyntax)], narrowed := true }
def PortBrokenUptoSaid : Prop := portBrokenUptoRow.holds Tryz.pinned (OpenSpec.upto portBrokenSpec)

/-- 'replevinlaw33.SignalDecodes', WHERE WHAT IT READS IS OF BULK AT MOST 1048576: true; the input reads as it did. -/
def signalDecodesUptoRow : OpenClaim := { program := "ytmjfdbgimknbeaagreatdoor", sum := "be34e25b8d02dfa1fb66527fcc9b734c348f2b8aaa8182c0106926dfba6b3843", func := "replevin/replevinlaw33.SignalDecodes", spec := "signalDecodes", inPlace := ["internal/bytealg.abigen_runtime_cmpstring", "internal/abi.NoEscape", "internal/bytealg.MakeNoZero"], unfollowed := true, recurses := true, named := ["strconv.ErrSyntax", "strconv.ErrRange", "internal/strconv.uint64pow10", "math/bits.deBruijn32tab", "math/bits.deBruijn64tab"], plainKeys := false, apart := false, laid := [("math/bits.deBruijn32tab", laid_math_bits_deBruijn32tab), ("math/bits.deBruijn64tab", laid_math_bits_deBruijn64tab), ("internal/strconv.uint64pow10", laid_internal_strconv_uint64pow10), ("strconv.ErrRange", laid_strconv_ErrRange), ("strconv.ErrSyntax", laid_strconv_ErrSyntax)], narrowed := true }
def SignalDecodesUptoSaid : Prop := signalDecodesUptoRow.holds Tryz.pinned (OpenSpec.upto signalDecodesSpec)

/-- 'replevinlaw33.SignalFamily', WHERE WHAT IT READS IS OF BULK AT MOST 1048576: true; the input reads as it did. -/
def signalFamilyUptoRow : OpenClaim := { program := "ytmjfdbgimknbeaagreatdoor", sum := "be34e25b8d02dfa1fb66527fcc9b734c348f2b8aaa8182c0106926dfba6b3843", func := "replevin/replevinlaw33.SignalFamily", spec := "signalFamily", inPlace := ["internal/bytealg.abigen_runtime_cmpstring", "internal/abi.NoEscape", "internal/bytealg.MakeNoZero"], unfollowed := true, recurses := true, named := ["strconv.ErrSyntax", "strconv.ErrRange", "internal/strconv.uint64pow10", "math/bits.deBruijn32tab", "math/bits.deBruijn64tab"], plainKeys := false, apart := false, laid := [("math/bits.deBruijn32tab", laid_math_bits_deBruijn32tab), ("math/bits.deBruijn64tab", laid_math_bits_deBruijn64tab), ("internal/strconv.uint64pow10", laid_internal_strconv_uint64pow10), ("strconv.ErrRange", laid_strconv_ErrRange), ("strconv.ErrSyntax", laid_strconv_ErrSyntax)], narrowed := true }
def SignalFamilyUptoSaid : Prop := signalFamilyUptoRow.holds Tryz.pinned (OpenSpec.upto signalFamilySpec)

/-- 'replevinlaw33.SignalNil', WHERE WHAT IT READS IS OF BULK AT MOST 1048576: true; the input reads as it did. -/
def signalNilUptoRow : OpenClaim := { program := "ytmjfdbgimknbeaagreatdoor", sum := "be34e25b8d02dfa1fb66527fcc9b734c348f2b8aaa8182c0106926dfba6b3843", func := "replevin/replevinlaw33.SignalNil", spec := "signalNil", inPlace := ["internal/bytealg.abigen_runtime_cmpstring", "internal/abi.NoEscape", "internal/bytealg.MakeNoZero"], unfollowed := true, recurses := true, named := ["strconv.ErrSyntax", "strconv.ErrRange", "internal/strconv.uint64pow10", "math/bits.deBruijn32tab", "math/bits.deBruijn64tab"], plainKeys := false, apart := false, laid := [("math/bits.deBruijn32tab", laid_math_bits_deBruijn32tab), ("math/bits.deBruijn64tab", laid_math_bits_deBruijn64tab), ("internal/strconv.uint64pow10", laid_internal_strconv_uint64pow10), ("strconv.ErrRange", laid_strconv_ErrRange), ("strconv.ErrSyntax", laid_strconv_ErrSyntax)], narrowed := true }
def SignalNilUptoSaid : Prop := signalNilUptoRow.holds Tryz.pinned (OpenSpec.upto signalNilSpec)

/-- 'replevinlaw33.SignalBroken', WHERE WHAT IT READS IS OF BULK AT MOST 1048576: true; the input reads as it did. -/
def signalBrokenUptoRow : OpenClaim := { program := "ytmjfdbgimknbeaagreatdoor", sum := "be34e25b8d02dfa1fb66527fcc9b734c348f2b8aaa8182c0106926dfba6b3843", func := "replevin/replevinlaw33.SignalBroken", spec := "signalBroken", inPlace := ["internal/bytealg.abigen_runtime_cmpstring", "internal/abi.NoEscape", "internal/bytealg.MakeNoZero"], unfollowed := true, recurses := true, named := ["strconv.ErrSyntax", "strconv.ErrRange", "internal/strconv.uint64pow10", "math/bits.deBruijn32tab", "math/bits.deBruijn64tab"], plainKeys := false, apart := false, laid := [("math/bits.deBruijn32tab", laid_math_bits_deBruijn32tab), ("math/bits.deBruijn64tab", laid_math_bits_deBruijn64tab), ("internal/strconv.uint64pow10", laid_internal_strconv_uint64pow10), ("strconv.ErrRange", laid_strconv_ErrRange), ("strconv.ErrSyntax", laid_strconv_ErrSyntax)], narrowed := true }
def SignalBrokenUptoSaid : Prop := signalBrokenUptoRow.holds Tryz.pinned (OpenSpec.upto signalBrokenSpec)

end Rows
end Go.Proofs.YtmjfdbgimknbeaaGreatDoor

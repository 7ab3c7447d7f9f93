/-
  NARROWER THAN 'FOR EVERY INPUT', by the rows' own cells (each row's printed sentence says how): ChannelRefuses: loops, laid · ChannelAbstract: laid · ChannelNormal: laid · ChannelTimes: loops, laid · ChannelDeterministic: loops, laid · ChannelPlain: laid · ChannelValid: laid · ChannelOf: loops, laid · ChannelPartition: laid.
  DERIVED. THE GIVEN ROWS OF THIS SEAT. 9 by the template 'for every input the law returns true; each argument reads behind the call as it read before'; 0 by the template 'total and deterministic' (their statements: YtaenledoagbddaaGreatDoorTotals.lean).
  GIVEN WITH THE SEED: the statements are not yours to turn. If you find one false, say at which input.
  Laid BY PROGRAM, IN A SANDBOX (cutbox-rows.mjs): the forced cells as the released guide's own fill.sh prints them over the translation 63f6aacba6e98c20… (all of the seat's roots in one cut). By AI agents, Wed Nov 11 2026. No macro, syntax, notation, axiom, sorry.
-/
import Derived.Test.YtaenledoagbddaaGreatDoorChecked
import GoSem.Claim
import GoSem.ClaimJoined
import GoSem.ClaimMapViews
import Derived.JoinedTies
import Derived.KernelRfl
namespace Go.Proofs.YtaenledoagbddaaGreatDoor
/- THE CELL 'sum', in the pinned program and in every row, IS THE sha256 OF THE DUMP (.gsa) THAT YtaenledoagbddaaGreatDoorProg.lean LOADS. Nothing in Lean hashes anything: it is a label: what it is worth is what the hold of that sum in a sandbox is worth. -/
noncomputable def Tryz.pinned : Pinned := { name := "ytaenledoagbddaagreatdoor", sum := "63f6aacba6e98c20ef6798381db5945212f2f4ee730d524a80ba7c2bc3db10c3", checked := Tryz.checked }
namespace Rows
def none {H : Type} : Left H := { results := [], args := [] }

/- WHAT THE LISTED PACKAGE-LEVEL VARIABLES READ AS WHEN THE CALL BEGINS. Each datum BY PROGRAM (the guide's laid-datum.mjs) off the statement by which the dump's own 'gosem.cut.vars' lays the variable. In a bare row this is a premise. The card (YtaenledoagbddaaGreatDoorCards.lean) ties it to the program's text. -/
def laid_math_bits_deBruijn32tab {H : Type} : DataW H := .agg [.lit (.int .u8 0), .lit (.int .u8 1), .lit (.int .u8 28), .lit (.int .u8 2), .lit (.int .u8 29), .lit (.int .u8 14), .lit (.int .u8 24), .lit (.int .u8 3), .lit (.int .u8 30), .lit (.int .u8 22), .lit (.int .u8 20), .lit (.int .u8 15), .lit (.int .u8 25), .lit (.int .u8 17), .lit (.int .u8 4), .lit (.int .u8 8), .lit (.int .u8 31), .lit (.int .u8 27), .lit (.int .u8 13), .lit (.int .u8 23), .lit (.int .u8 21), .lit (.int .u8 19), .lit (.int .u8 16), .lit (.int .u8 7), .lit (.int .u8 26), .lit (.int .u8 12), .lit (.int .u8 18), .lit (.int .u8 6), .lit (.int .u8 11), .lit (.int .u8 5), .lit (.int .u8 10), .lit (.int .u8 9)]
def laid_math_bits_deBruijn64tab {H : Type} : DataW H := .agg [.lit (.int .u8 0), .lit (.int .u8 1), .lit (.int .u8 56), .lit (.int .u8 2), .lit (.int .u8 57), .lit (.int .u8 49), .lit (.int .u8 28), .lit (.int .u8 3), .lit (.int .u8 61), .lit (.int .u8 58), .lit (.int .u8 42), .lit (.int .u8 50), .lit (.int .u8 38), .lit (.int .u8 29), .lit (.int .u8 17), .lit (.int .u8 4), .lit (.int .u8 62), .lit (.int .u8 47), .lit (.int .u8 59), .lit (.int .u8 36), .lit (.int .u8 45), .lit (.int .u8 43), .lit (.int .u8 51), .lit (.int .u8 22), .lit (.int .u8 53), .lit (.int .u8 39), .lit (.int .u8 33), .lit (.int .u8 30), .lit (.int .u8 24), .lit (.int .u8 18), .lit (.int .u8 12), .lit (.int .u8 5), .lit (.int .u8 63), .lit (.int .u8 55), .lit (.int .u8 48), .lit (.int .u8 27), .lit (.int .u8 60), .lit (.int .u8 41), .lit (.int .u8 37), .lit (.int .u8 16), .lit (.int .u8 46), .lit (.int .u8 35), .lit (.int .u8 44), .lit (.int .u8 21), .lit (.int .u8 52), .lit (.int .u8 32), .lit (.int .u8 23), .lit (.int .u8 11), .lit (.int .u8 54), .lit (.int .u8 26), .lit (.int .u8 40), .lit (.int .u8 15), .lit (.int .u8 34), .lit (.int .u8 20), .lit (.int .u8 31), .lit (.int .u8 10), .lit (.int .u8 25), .lit (.int .u8 14), .lit (.int .u8 19), .lit (.int .u8 9), .lit (.int .u8 13), .lit (.int .u8 8), .lit (.int .u8 7), .lit (.int .u8 6)]
def laid_internal_strconv_uint64pow10 {H : Type} : DataW H := .agg [.lit (.int .u64 1), .lit (.int .u64 10), .lit (.int .u64 100), .lit (.int .u64 1000), .lit (.int .u64 10000), .lit (.int .u64 100000), .lit (.int .u64 1000000), .lit (.int .u64 10000000), .lit (.int .u64 100000000), .lit (.int .u64 1000000000), .lit (.int .u64 10000000000), .lit (.int .u64 100000000000), .lit (.int .u64 1000000000000), .lit (.int .u64 10000000000000), .lit (.int .u64 100000000000000), .lit (.int .u64 1000000000000000), .lit (.int .u64 10000000000000000), .lit (.int .u64 100000000000000000), .lit (.int .u64 1000000000000000000), .lit (.int .u64 10000000000000000000)]

/-- 'keyholelaw38.ChannelRefuses': WHATEVER THE INPUT: true; the input reads as it did. -/
def channelRefusesSpec : ChangeSpec := { name := "channelRefuses", fn := fun _ => fun
  | [d1, d2] => { results := [.lit (.bool true)], args := [d1, d2] }
  | _ => none }
def channelRefusesRow : OpenClaim := { program := "ytaenledoagbddaagreatdoor", sum := "63f6aacba6e98c20ef6798381db5945212f2f4ee730d524a80ba7c2bc3db10c3", func := "keyhole/keyholelaw38.ChannelRefuses", spec := "channelRefuses", inPlace := ["internal/abi.NoEscape"], unfollowed := true, recurses := true, named := ["internal/strconv.uint64pow10", "math/bits.deBruijn32tab", "math/bits.deBruijn64tab"], loops := true, plainKeys := false, apart := false, laid := [("math/bits.deBruijn32tab", laid_math_bits_deBruijn32tab), ("math/bits.deBruijn64tab", laid_math_bits_deBruijn64tab), ("internal/strconv.uint64pow10", laid_internal_strconv_uint64pow10)] }
def ChannelRefusesSaid : Prop := channelRefusesRow.holds Tryz.pinned (OpenSpec.ofChange channelRefusesSpec)

/-- ITS FALSE NEIGHBOUR: 'it returns false'. Refute it at one input. -/
def channelRefusesWrong : ChangeSpec := { name := "channelRefuses", fn := fun _ => fun
  | [d1, d2] => { results := [.lit (.bool false)], args := [d1, d2] }
  | _ => none }
def ChannelRefusesWrongFalsely : Prop := channelRefusesRow.holds Tryz.pinned (OpenSpec.ofChange channelRefusesWrong)

/-- 'keyholelaw38.ChannelAbstract': WHATEVER THE INPUT: true; the input reads as it did. -/
def channelAbstractSpec : ChangeSpec := { name := "channelAbstract", fn := fun _ => fun
  | [d] => { results := [.lit (.bool true)], args := [d] }
  | _ => none }
def channelAbstractRow : OpenClaim := { program := "ytaenledoagbddaagreatdoor", sum := "63f6aacba6e98c20ef6798381db5945212f2f4ee730d524a80ba7c2bc3db10c3", func := "keyhole/keyholelaw38.ChannelAbstract", spec := "channelAbstract", inPlace := ["internal/abi.NoEscape"], unfollowed := true, recurses := true, named := ["internal/strconv.uint64pow10", "math/bits.deBruijn32tab", "math/bits.deBruijn64tab"], plainKeys := false, apart := false, laid := [("math/bits.deBruijn32tab", laid_math_bits_deBruijn32tab), ("math/bits.deBruijn64tab", laid_math_bits_deBruijn64tab), ("internal/strconv.uint64pow10", laid_internal_strconv_uint64pow10)] }
def ChannelAbstractSaid : Prop := channelAbstractRow.holds Tryz.pinned (OpenSpec.ofChange channelAbstractSpec)

/-- ITS FALSE NEIGHBOUR: 'it returns false'. Refute it at one input. -/
def channelAbstractWrong : ChangeSpec := { name := "channelAbstract", fn := fun _ => fun
  | [d] => { results := [.lit (.bool false)], args := [d] }
  | _ => none }
def ChannelAbstractWrongFalsely : Prop := channelAbstractRow.holds Tryz.pinned (OpenSpec.ofChange channelAbstractWrong)

/-- 'keyholelaw38.ChannelNormal': WHATEVER THE INPUT: true; the input reads as it did. -/
def channelNormalSpec : ChangeSpec := { name := "channelNormal", fn := fun _ => fun
  | [d1, d2, d3] => { results := [.lit (.bool true)], args := [d1, d2, d3] }
  | _ => none }
def channelNormalRow : OpenClaim := { program := "ytaenledoagbddaagreatdoor", sum := "63f6aacba6e98c20ef6798381db5945212f2f4ee730d524a80ba7c2bc3db10c3", func := "keyhole/keyholelaw38.ChannelNormal", spec := "channelNormal", inPlace := ["internal/abi.NoEscape"], unfollowed := true, recurses := true, named := ["internal/strconv.uint64pow10", "math/bits.deBruijn32tab", "math/bits.deBruijn64tab"], plainKeys := false, apart := false, laid := [("math/bits.deBruijn32tab", laid_math_bits_deBruijn32tab), ("math/bits.deBruijn64tab", laid_math_bits_deBruijn64tab), ("internal/strconv.uint64pow10", laid_internal_strconv_uint64pow10)] }
def ChannelNormalSaid : Prop := channelNormalRow.holds Tryz.pinned (OpenSpec.ofChange channelNormalSpec)

/-- ITS FALSE NEIGHBOUR: 'it returns false'. Refute it at one input. -/
def channelNormalWrong : ChangeSpec := { name := "channelNormal", fn := fun _ => fun
  | [d1, d2, d3] => { results := [.lit (.bool false)], args := [d1, d2, d3] }
  | _ => none }
def ChannelNormalWrongFalsely : Prop := channelNormalRow.holds Tryz.pinned (OpenSpec.ofChange channelNormalWrong)

/-- 'keyholelaw38.ChannelTimes': WHATEVER THE INPUT: true; the input reads as it did. -/
def channelTimesSpec : ChangeSpec := { name := "channelTimes", fn := fun _ => fun
  | [d1, d2] => { results := [.lit (.bool true)], args := [d1, d2] }
  | _ => none }
def channelTimesRow : OpenClaim := { program := "ytaenledoagbddaagreatdoor", sum := "63f6aacba6e98c20ef6798381db5945212f2f4ee730d524a80ba7c2bc3db10c3", func := "keyhole/keyholelaw38.ChannelTimes", spec := "channelTimes", inPlace := ["internal/abi.NoEscape"], unfollowed := true, recurses := true, named := ["internal/strconv.uint64pow10", "math/bits.deBruijn32tab", "math/bits.deBruijn64tab"], loops := true, plainKeys := false, apart := false, laid := [("math/bits.deBruijn32tab", laid_math_bits_deBruijn32tab), ("math/bits.deBruijn64tab", laid_math_bits_deBruijn64tab), ("internal/strconv.uint64pow10", laid_internal_strconv_uint64pow10)] }
def ChannelTimesSaid : Prop := channelTimesRow.holds Tryz.pinned (OpenSpec.ofChange channelTimesSpec)

/-- ITS FALSE NEIGHBOUR: 'it returns false'. Refute it at one input. -/
def channelTimesWrong : ChangeSpec := { name := "channelTimes", fn := fun _ => fun
  | [d1, d2] => { results := [.lit (.bool false)], args := [d1, d2] }
  | _ => none }
def ChannelTimesWrongFalsely : Prop := channelTimesRow.holds Tryz.pinned (OpenSpec.ofChange channelTimesWrong)

/-- 'keyholelaw38.ChannelDeterministic': WHATEVER THE INPUT: true; the input reads as it did. -/
def channelDeterministicSpec : ChangeSpec := { name := "channelDeterministic", fn := fun _ => fun
  | [d1, d2, d3] => { results := [.lit (.bool true)], args := [d1, d2, d3] }
  | _ => none }
def channelDeterministicRow : OpenClaim := { program := "ytaenledoagbddaagreatdoor", sum := "63f6aacba6e98c20ef6798381db5945212f2f4ee730d524a80ba7c2bc3db10c3", func := "keyhole/keyholelaw38.ChannelDeterministic", spec := "channelDeterministic", inPlace := ["internal/abi.NoEscape"], unfollowed := true, recurses := true, named := ["internal/strconv.uint64pow10", "math/bits.deBruijn32tab", "math/bits.deBruijn64tab"], loops := true, plainKeys := false, apart := false, laid := [("math/bits.deBruijn32tab", laid_math_bits_deBruijn32tab), ("math/bits.deBruijn64tab", laid_math_bits_deBruijn64tab), ("internal/strconv.uint64pow10", laid_internal_strconv_uint64pow10)] }
def ChannelDeterministicSaid : Prop := channelDeterministicRow.holds Tryz.pinned (OpenSpec.ofChange channelDeterministicSpec)

/-- ITS FALSE NEIGHBOUR: 'it returns false'. Refute it at one input. -/
def channelDeterministicWrong : ChangeSpec := { name := "channelDeterministic", fn := fun _ => fun
  | [d1, d2, d3] => { results := [.lit (.bool false)], args := [d1, d2, d3] }
  | _ => none }
def ChannelDeterministicWrongFalsely : Prop := channelDeterministicRow.holds Tryz.pinned (OpenSpec.ofChange channelDeterministicWrong)

/-- 'keyholelaw38.ChannelPlain': WHATEVER THE INPUT: true; the input reads as it did. -/
def channelPlainSpec : ChangeSpec := { name := "channelPlain", fn := fun _ => fun
  | [d] => { results := [.lit (.bool true)], args := [d] }
  | _ => none }
def channelPlainRow : OpenClaim := { program := "ytaenledoagbddaagreatdoor", sum := "63f6aacba6e98c20ef6798381db5945212f2f4ee730d524a80ba7c2bc3db10c3", func := "keyhole/keyholelaw38.ChannelPlain", spec := "channelPlain", inPlace := ["internal/abi.NoEscape"], unfollowed := true, recurses := true, named := ["internal/strconv.uint64pow10", "math/bits.deBruijn32tab", "math/bits.deBruijn64tab"], plainKeys := false, apart := false, laid := [("math/bits.deBruijn32tab", laid_math_bits_deBruijn32tab), ("math/bits.deBruijn64tab", laid_math_bits_deBruijn64tab), ("internal/strconv.uint64pow10", laid_internal_strconv_uint64pow10)] }
def ChannelPlainSaid : Prop := channelPlainRow.holds Tryz.pinned (OpenSpec.ofChange channelPlainSpec)

/-- ITS FALSE NEIGHBOUR: 'it returns false'. Refute it at one input. -/
def channelPlainWrong : ChangeSpec := { name := "channelPlain", fn := fun _ => fun
  | [d] => { results := [.lit (.bool false)], args := [d] }
  | _ => none }
def ChannelPlainWrongFalsely : Prop := channelPlainRow.holds Tryz.pinned (OpenSpec.ofChange channelPlainWrong)

/-- 'keyholelaw38.ChannelValid': WHATEVER THE INPUT: true; the input reads as it did. -/
def channelValidSpec : ChangeSpec := { name := "channelValid", fn := fun _ => fun
  | [d] => { results := [.lit (.bool true)], args := [d] }
  | _ => none }
def channelValidRow : OpenClaim := { program := "ytaenledoagbddaagreatdoor", sum := "63f6aacba6e98c20ef6798381db5945212f2f4ee730d524a80ba7c2bc3db10c3", func := "keyhole/keyholelaw38.ChannelValid", spec := "channelValid", inPlace := ["internal/abi.NoEscape"], unfollowed := true, recurses := true, named := ["internal/strconv.uint64pow10", "math/bits.deBruijn32tab", "math/bits.deBruijn64tab"], plainKeys := false, apart := false, laid := [("math/bits.deBruijn32tab", laid_math_bits_deBruijn32tab), ("math/bits.deBruijn64tab", laid_math_bits_deBruijn64tab), ("internal/strconv.uint64pow10", laid_internal_strconv_uint64pow10)] }
def ChannelValidSaid : Prop := channelValidRow.holds Tryz.pinned (OpenSpec.ofChange channelValidSpec)

/-- ITS FALSE NEIGHBOUR: 'it returns false'. Refute it at one input. -/
def channelValidWrong : ChangeSpec := { name := "channelValid", fn := fun _ => fun
  | [d] => { results := [.lit (.bool false)], args := [d] }
  | _ => none }
def ChannelValidWrongFalsely : Prop := channelValidRow.holds Tryz.pinned (OpenSpec.ofChange channelValidWrong)

/-- 'keyholelaw38.ChannelOf': WHATEVER THE INPUT: true; the input reads as it did. -/
def channelOfSpec : ChangeSpec := { name := "channelOf", fn := fun _ => fun
  | [d1, d2] => { results := [.lit (.bool true)], args := [d1, d2] }
  | _ => none }
def channelOfRow : OpenClaim := { program := "ytaenledoagbddaagreatdoor", sum := "63f6aacba6e98c20ef6798381db5945212f2f4ee730d524a80ba7c2bc3db10c3", func := "keyhole/keyholelaw38.ChannelOf", spec := "channelOf", inPlace := ["internal/abi.NoEscape"], unfollowed := true, recurses := true, named := ["internal/strconv.uint64pow10", "math/bits.deBruijn32tab", "math/bits.deBruijn64tab"], loops := true, plainKeys := false, apart := false, laid := [("math/bits.deBruijn32tab", laid_math_bits_deBruijn32tab), ("math/bits.deBruijn64tab", laid_math_bits_deBruijn64tab), ("internal/strconv.uint64pow10", laid_internal_strconv_uint64pow10)] }
def ChannelOfSaid : Prop := channelOfRow.holds Tryz.pinned (OpenSpec.ofChange channelOfSpec)

/-- ITS FALSE NEIGHBOUR: 'it returns false'. Refute it at one input. -/
def channelOfWrong : ChangeSpec := { name := "channelOf", fn := fun _ => fun
  | [d1, d2] => { results := [.lit (.bool false)], args := [d1, d2] }
  | _ => none }
def ChannelOfWrongFalsely : Prop := channelOfRow.holds Tryz.pinned (OpenSpec.ofChange channelOfWrong)

/-- 'keyholelaw38.ChannelPartition': WHATEVER THE INPUT: true; the input reads as it did. -/
def channelPartitionSpec : ChangeSpec := { name := "channelPartition", fn := fun _ => fun
  | [d1, d2] => { results := [.lit (.bool true)], args := [d1, d2] }
  | _ => none }
def channelPartitionRow : OpenClaim := { program := "ytaenledoagbddaagreatdoor", sum := "63f6aacba6e98c20ef6798381db5945212f2f4ee730d524a80ba7c2bc3db10c3", func := "keyhole/keyholelaw38.ChannelPartition", spec := "channelPartition", inPlace := ["internal/abi.NoEscape"], unfollowed := true, recurses := true, named := ["internal/strconv.uint64pow10", "math/bits.deBruijn32tab", "math/bits.deBruijn64tab"], plainKeys := false, apart := false, laid := [("math/bits.deBruijn32tab", laid_math_bits_deBruijn32tab), ("math/bits.deBruijn64tab", laid_math_bits_deBruijn64tab), ("internal/strconv.uint64pow10", laid_internal_strconv_uint64pow10)] }
def ChannelPartitionSaid : Prop := channelPartitionRow.holds Tryz.pinned (OpenSpec.ofChange channelPartitionSpec)

/-- ITS FALSE NEIGHBOUR: 'it returns false'. Refute it at one input. -/
def channelPartitionWrong : ChangeSpec := { name := "channelPartition", fn := fun _ => fun
  | [d1, d2] => { results := [.lit (.bool false)], args := [d1, d2] }
  | _ => none }
def ChannelPartitionWrongFalsely : Prop := channelPartitionRow.holds Tryz.pinned (OpenSpec.ofChange channelPartitionWrong)

/- THE SECOND FORM. 'bulk': how many values and letters a reading holds, each counted each time it is reached (what is shared counts as often as it is met; a slice's spare places count too). A statement '..UptoSaid' is the law's where the arguments, and the package variables that the reading takes, are together of bulk at most 1048576: NARROWER than '..Said'. Prove '..Said' where nothing that the law and all that it calls make is longer than what came in: it says more and counts as full. Else prove '..UptoSaid'. A law counts once. -/
mutual
def uptoBulk {H : Type} : DataW H → Nat
  | .lit (.string bytes) => bytes.length + 1
  | .lit _ => 1
  | .nil => 1
  | .ptr d => uptoBulk d + 1
  | .slice elems spare => uptoBulkAll elems + uptoBulkAll spare + 1
  | .agg parts => uptoBulkAll parts + 1
  | .iface _ d => uptoBulk d + 1
  | .map entries => uptoBulkEntries entries + 1
  | .held _ => 1
def uptoBulkAll {H : Type} : List (DataW H) → Nat
  | [] => 0
  | d :: r => uptoBulk d + uptoBulkAll r
def uptoBulkEntries {H : Type} : List (Lit × DataW H) → Nat
  | [] => 0
  | x :: r => uptoBulkEntry x + uptoBulkEntries r
def uptoBulkEntry {H : Type} : Lit × DataW H → Nat
  | (.string bytes, d) => bytes.length + uptoBulk d + 1
  | (_, d) => uptoBulk d + 1
 end
def uptoSmall : (H : Type) → List (DataW H) → Bool := fun _ ds => decide (uptoBulkAll ds ≤ 1048576)
def OpenSpec.upto (s : _root_.Go.ChangeSpec) : _root_.Go.OpenSpec := { _root_.Go.OpenSpec.ofChange s with cond := some uptoSmall }

/-- 'keyholelaw38.ChannelRefuses', WHERE WHAT IT READS IS OF BULK AT MOST 1048576: true; the input reads as it did. -/
def channelRefusesUptoRow : OpenClaim := { program := "ytaenledoagbddaagreatdoor", sum := "63f6aacba6e98c20ef6798381db5945212f2f4ee730d524a80ba7c2bc3db10c3", func := "keyhole/keyholelaw38.ChannelRefuses", spec := "channelRefuses", inPlace := ["internal/abi.NoEscape"], unfollowed := true, recurses := true, named := ["internal/strconv.uint64pow10", "math/bits.deBruijn32tab", "math/bits.deBruijn64tab"], loops := true, plainKeys := false, apart := false, laid := [("math/bits.deBruijn32tab", laid_math_bits_deBruijn32tab), ("math/bits.deBruijn64tab", laid_math_bits_deBruijn64tab), ("internal/strconv.uint64pow10", laid_internal_strconv_uint64pow10)], narrowed := true }
def ChannelRefusesUptoSaid : Prop := channelRefusesUptoRow.holds Tryz.pinned (OpenSpec.upto channelRefusesSpec)

/-- 'keyholelaw38.ChannelAbstract', WHERE WHAT IT READS IS OF BULK AT MOST 1048576: true; the input reads as it did. -/
def channelAbstractUptoRow : OpenClaim := { program := "ytaenledoagbddaagreatdoor", sum := "63f6aacba6e98c20ef6798381db5945212f2f4ee730d524a80ba7c2bc3db10c3", func := "keyhole/keyholelaw38.ChannelAbstract", spec := "channelAbstract", inPlace := ["internal/abi.NoEscape"], unfollowed := true, recurses := true, named := ["internal/strconv.uint64pow10", "math/bits.deBruijn32tab", "math/bits.deBruijn64tab"], plainKeys := false, apart := false, laid := [("math/bits.deBruijn32tab", laid_math_bits_deBruijn32tab), ("math/bits.deBruijn64tab", laid_math_bits_deBruijn64tab), ("internal/strconv.uint64pow10", laid_internal_strconv_uint64pow10)], narrowed := true }
def ChannelAbstractUptoSaid : Prop := channelAbstractUptoRow.holds Tryz.pinned (OpenSpec.upto channelAbstractSpec)

/-- 'keyholelaw38.ChannelNormal', WHERE WHAT IT READS IS OF BULK AT MOST 1048576: true; the input reads as it did. -/
def channelNormalUptoRow : OpenClaim := { program := "ytaenledoagbddaagreatdoor", sum := "63f6aacba6e98c20ef6798381db5945212f2f4ee730d524a80ba7c2bc3db10c3", func := "keyhole/keyholelaw38.ChannelNormal", spec := "channelNormal", inPlace := ["internal/abi.NoEscape"], unfollowed := true, recurses := true, named := ["internal/strconv.uint64pow10", "math/bits.deBruijn32tab", "math/bits.deBruijn64tab"], plainKeys := false, apart := false, laid := [("math/bits.deBruijn32tab", laid_math_bits_deBruijn32tab), ("math/bits.deBruijn64tab", laid_math_bits_deBruijn64tab), ("internal/strconv.uint64pow10", laid_internal_strconv_uint64pow10)], narrowed := true }
def ChannelNormalUptoSaid : Prop := channelNormalUptoRow.holds Tryz.pinned (OpenSpec.upto channelNormalSpec)

/-- 'keyholelaw38.ChannelTimes', WHERE WHAT IT READS IS OF BULK AT MOST 1048576: true; the input reads as it did. -/
def channelTimesUptoRow : OpenClaim := { program := "ytaenledoagbddaagreatdoor", sum := "63f6aacba6e98c20ef6798381db5945212f2f4ee730d524a80ba7c2bc3db10c3", func := "keyhole/keyholelaw38.ChannelTimes", spec := "channelTimes", inPlace := ["internal/abi.NoEscape"], unfollowed := true, recurses := true, named := ["internal/strconv.uint64pow10", "math/bits.deBruijn32tab", "math/bits.deBruijn64tab"], loops := true, plainKeys := false, apart := false, laid := [("math/bits.deBruijn32tab", laid_math_bits_deBruijn32tab), ("math/bits.deBruijn64tab", laid_math_bits_deBruijn64tab), ("internal/strconv.uint64pow10", laid_internal_strconv_uint64pow10)], narrowed := true }
def ChannelTimesUptoSaid : Prop := channelTimesUptoRow.holds Tryz.pinned (OpenSpec.upto channelTimesSpec)

/-- 'keyholelaw38.ChannelDeterministic', WHERE WHAT IT READS IS OF BULK AT MOST 1048576: true; the input reads as it did. -/
def channelDeterministicUptoRow : OpenClaim := { program := "ytaenledoagbddaagreatdoor", sum := "63f6aacba6e98c20ef6798381db5945212f2f4ee730d524a80ba7c2bc3db10c3", func := "keyhole/keyholelaw38.ChannelDeterministic", spec := "channelDeterministic", inPlace := ["internal/abi.NoEscape"], unfollowed := true, recurses := true, named := ["internal/strconv.uint64pow10", "math/bits.deBruijn32tab", "math/bits.deBruijn64tab"], loops := true, plainKeys := false, apart := false, laid := [("math/bits.deBruijn32tab", laid_math_bits_deBruijn32tab), ("math/bits.deBruijn64tab", laid_math_bits_deBruijn64tab), ("internal/strconv.uint64pow10", laid_internal_strconv_uint64pow10)], narrowed := true }
def ChannelDeterministicUptoSaid : Prop := channelDeterministicUptoRow.holds Tryz.pinned (OpenSpec.upto channelDeterministicSpec)

/-- 'keyholelaw38.ChannelPlain', WHERE WHAT IT READS IS OF BULK AT MOST 1048576: true; the input reads as it did. -/
def channelPlainUptoRow : OpenClaim := { program := "ytaenledoagbddaagreatdoor", sum := "63f6aacba6e98c20ef6798381db5945212f2f4ee730d524a80ba7c2bc3db10c3", func := "keyhole/keyholelaw38.ChannelPlain", spec := "channelPlain", inPlace := ["internal/abi.NoEscape"], unfollowed := true, recurses := true, named := ["internal/strconv.uint64pow10", "math/bits.deBruijn32tab", "math/bits.deBruijn64tab"], plainKeys := false, apart := false, laid := [("math/bits.deBruijn32tab", laid_math_bits_deBruijn32tab), ("math/bits.deBruijn64tab", laid_math_bits_deBruijn64tab), ("internal/strconv.uint64pow10", laid_internal_strconv_uint64pow10)], narrowed := true }
def ChannelPlainUptoSaid : Prop := channelPlainUptoRow.holds Tryz.pinned (OpenSpec.upto channelPlainSpec)

/-- 'keyholelaw38.ChannelValid', WHERE WHAT IT READS IS OF BULK AT MOST 1048576: true; the input reads as it did. -/
def channelValidUptoRow : OpenClaim := { program := "ytaenledoagbddaagreatdoor", sum := "63f6aacba6e98c20ef6798381db5945212f2f4ee730d524a80ba7c2bc3db10c3", func := "keyhole/keyholelaw38.ChannelValid", spec := "channelValid", inPlace := ["internal/abi.NoEscape"], unfollowed := true, recurses := true, named := ["internal/strconv.uint64pow10", "math/bits.deBruijn32tab", "math/bits.deBruijn64tab"], plainKeys := false, apart := false, laid := [("math/bits.deBruijn32tab", laid_math_bits_deBruijn32tab), ("math/bits.deBruijn64tab", laid_math_bits_deBruijn64tab), ("internal/strconv.uint64pow10", laid_internal_strconv_uint64pow10)], narrowed := true }
def ChannelValidUptoSaid : Prop := channelValidUptoRow.holds Tryz.pinned (OpenSpec.upto channelValidSpec)

/-- 'keyholelaw38.ChannelOf', WHERE WHAT IT READS IS OF BULK AT MOST 1048576: true; the input reads as it did. -/
def channelOfUptoRow : OpenClaim := { program := "ytaenledoagbddaagreatdoor", sum := "63f6aacba6e98c20ef6798381db5945212f2f4ee730d524a80ba7c2bc3db10c3", func := "keyhole/keyholelaw38.ChannelOf", spec := "channelOf", inPlace := ["internal/abi.NoEscape"], unfollowed := true, recurses := true, named := ["internal/strconv.uint64pow10", "math/bits.deBruijn32tab", "math/bits.deBruijn64tab"], loops := true, plainKeys := false, apart := false, laid := [("math/bits.deBruijn32tab", laid_math_bits_deBruijn32tab), ("math/bits.deBruijn64tab", laid_math_bits_deBruijn64tab), ("internal/strconv.uint64pow10", laid_internal_strconv_uint64pow10)], narrowed := true }
def ChannelOfUptoSaid : Prop := channelOfUptoRow.holds Tryz.pinned (OpenSpec.upto channelOfSpec)

/-- 'keyholelaw38.ChannelPartition', WHERE WHAT IT READS IS OF BULK AT MOST 1048576: true; the input reads as it did. -/
def channelPartitionUptoRow : OpenClaim := { program := "ytaenledoagbddaagreatdoor", sum := "63f6aacba6e98c20ef6798381db5945212f2f4ee730d524a80ba7c2bc3db10c3", func := "keyhole/keyholelaw38.ChannelPartition", spec := "channelPartition", inPlace := ["internal/abi.NoEscape"], unfollowed := true, recurses := true, named := ["internal/strconv.uint64pow10", "math/bits.deBruijn32tab", "math/bits.deBruijn64tab"], plainKeys := false, apart := false, laid := [("math/bits.deBruijn32tab", laid_math_bits_deBruijn32tab), ("math/bits.deBruijn64tab", laid_math_bits_deBruijn64tab), ("internal/strconv.uint64pow10", laid_internal_strconv_uint64pow10)], narrowed := true }
def ChannelPartitionUptoSaid : Prop := channelPartitionUptoRow.holds Tryz.pinned (OpenSpec.upto channelPartitionSpec)

end Rows
end Go.Proofs.YtaenledoagbddaaGreatDoor

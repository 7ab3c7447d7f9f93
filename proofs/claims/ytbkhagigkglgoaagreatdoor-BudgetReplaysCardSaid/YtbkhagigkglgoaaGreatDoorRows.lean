/-
  NARROWER THAN 'FOR EVERY INPUT', by the rows' own cells (each row's printed sentence says how): BudgetKraft: loops, laid · BudgetPrices: loops, laid · BudgetSecrets: loops, laid · BudgetModes: loops, laid · BudgetForms: laid · BudgetAsks: loops, laid · BudgetObserves: loops, laid · BudgetReplays: loops, laid · BudgetAgrees: loops, laid.
  DERIVED. THE GIVEN ROWS OF THIS SEAT. 9 by the template 'for every input the law returns true; each argument reads behind the call as it read before'; 0 by the template 'total and deterministic' (their statements: YtbkhagigkglgoaaGreatDoorTotals.lean).
  GIVEN WITH THE SEED: the statements are not yours to turn. If you find one false, say at which input.
  Laid BY PROGRAM, IN A SANDBOX (cutbox-rows.mjs): the forced cells as the released guide's own fill.sh prints them over the translation 805ac75bd85c5344… (all of the seat's roots in one cut). By AI agents, Wed Nov 11 2026. No macro, syntax, notation, axiom, sorry.
-/
import Derived.Test.YtbkhagigkglgoaaGreatDoorChecked
import GoSem.Claim
import GoSem.ClaimJoined
import GoSem.ClaimMapViews
import Derived.JoinedTies
import Derived.KernelRfl
namespace Go.Proofs.YtbkhagigkglgoaaGreatDoor
/- THE CELL 'sum', in the pinned program and in every row, IS THE sha256 OF THE DUMP (.gsa) THAT YtbkhagigkglgoaaGreatDoorProg.lean LOADS. Nothing in Lean hashes anything: it is a label: what it is worth is what the hold of that sum in a sandbox is worth. -/
noncomputable def Tryz.pinned : Pinned := { name := "ytbkhagigkglgoaagreatdoor", sum := "805ac75bd85c5344bc762d1cb1b1b321e5c4c265f079a943d71d50263b0fb272", checked := Tryz.checked }
namespace Rows
def none {H : Type} : Left H := { results := [], args := [] }

/- WHAT THE LISTED PACKAGE-LEVEL VARIABLES READ AS WHEN THE CALL BEGINS. Each datum BY PROGRAM (the guide's laid-datum.mjs) off the statement by which the dump's own 'gosem.cut.vars' lays the variable. In a bare row this is a premise. The card (YtbkhagigkglgoaaGreatDoorCards.lean) ties it to the program's text. -/
def laid_math_bits_deBruijn32tab {H : Type} : DataW H := .agg [.lit (.int .u8 0), .lit (.int .u8 1), .lit (.int .u8 28), .lit (.int .u8 2), .lit (.int .u8 29), .lit (.int .u8 14), .lit (.int .u8 24), .lit (.int .u8 3), .lit (.int .u8 30), .lit (.int .u8 22), .lit (.int .u8 20), .lit (.int .u8 15), .lit (.int .u8 25), .lit (.int .u8 17), .lit (.int .u8 4), .lit (.int .u8 8), .lit (.int .u8 31), .lit (.int .u8 27), .lit (.int .u8 13), .lit (.int .u8 23), .lit (.int .u8 21), .lit (.int .u8 19), .lit (.int .u8 16), .lit (.int .u8 7), .lit (.int .u8 26), .lit (.int .u8 12), .lit (.int .u8 18), .lit (.int .u8 6), .lit (.int .u8 11), .lit (.int .u8 5), .lit (.int .u8 10), .lit (.int .u8 9)]
def laid_math_bits_deBruijn64tab {H : Type} : DataW H := .agg [.lit (.int .u8 0), .lit (.int .u8 1), .lit (.int .u8 56), .lit (.int .u8 2), .lit (.int .u8 57), .lit (.int .u8 49), .lit (.int .u8 28), .lit (.int .u8 3), .lit (.int .u8 61), .lit (.int .u8 58), .lit (.int .u8 42), .lit (.int .u8 50), .lit (.int .u8 38), .lit (.int .u8 29), .lit (.int .u8 17), .lit (.int .u8 4), .lit (.int .u8 62), .lit (.int .u8 47), .lit (.int .u8 59), .lit (.int .u8 36), .lit (.int .u8 45), .lit (.int .u8 43), .lit (.int .u8 51), .lit (.int .u8 22), .lit (.int .u8 53), .lit (.int .u8 39), .lit (.int .u8 33), .lit (.int .u8 30), .lit (.int .u8 24), .lit (.int .u8 18), .lit (.int .u8 12), .lit (.int .u8 5), .lit (.int .u8 63), .lit (.int .u8 55), .lit (.int .u8 48), .lit (.int .u8 27), .lit (.int .u8 60), .lit (.int .u8 41), .lit (.int .u8 37), .lit (.int .u8 16), .lit (.int .u8 46), .lit (.int .u8 35), .lit (.int .u8 44), .lit (.int .u8 21), .lit (.int .u8 52), .lit (.int .u8 32), .lit (.int .u8 23), .lit (.int .u8 11), .lit (.int .u8 54), .lit (.int .u8 26), .lit (.int .u8 40), .lit (.int .u8 15), .lit (.int .u8 34), .lit (.int .u8 20), .lit (.int .u8 31), .lit (.int .u8 10), .lit (.int .u8 25), .lit (.int .u8 14), .lit (.int .u8 19), .lit (.int .u8 9), .lit (.int .u8 13), .lit (.int .u8 8), .lit (.int .u8 7), .lit (.int .u8 6)]
def laid_internal_strconv_uint64pow10 {H : Type} : DataW H := .agg [.lit (.int .u64 1), .lit (.int .u64 10), .lit (.int .u64 100), .lit (.int .u64 1000), .lit (.int .u64 10000), .lit (.int .u64 100000), .lit (.int .u64 1000000), .lit (.int .u64 10000000), .lit (.int .u64 100000000), .lit (.int .u64 1000000000), .lit (.int .u64 10000000000), .lit (.int .u64 100000000000), .lit (.int .u64 1000000000000), .lit (.int .u64 10000000000000), .lit (.int .u64 100000000000000), .lit (.int .u64 1000000000000000), .lit (.int .u64 10000000000000000), .lit (.int .u64 100000000000000000), .lit (.int .u64 1000000000000000000), .lit (.int .u64 10000000000000000000)]

/-- 'keyholelaw51.BudgetKraft': WHATEVER THE INPUT: true; the input reads as it did. -/
def budgetKraftSpec : ChangeSpec := { name := "budgetKraft", fn := fun _ => fun
  | [d1, d2] => { results := [.lit (.bool true)], args := [d1, d2] }
  | _ => none }
def budgetKraftRow : OpenClaim := { program := "ytbkhagigkglgoaagreatdoor", sum := "805ac75bd85c5344bc762d1cb1b1b321e5c4c265f079a943d71d50263b0fb272", func := "keyhole/keyholelaw51.BudgetKraft", spec := "budgetKraft", inPlace := ["internal/abi.NoEscape"], unfollowed := true, recurses := true, named := ["internal/strconv.uint64pow10", "math/bits.deBruijn32tab", "math/bits.deBruijn64tab"], loops := true, apart := false, laid := [("math/bits.deBruijn32tab", laid_math_bits_deBruijn32tab), ("math/bits.deBruijn64tab", laid_math_bits_deBruijn64tab), ("internal/strconv.uint64pow10", laid_internal_strconv_uint64pow10)] }
def BudgetKraftSaid : Prop := budgetKraftRow.holds Tryz.pinned (OpenSpec.ofChange budgetKraftSpec)

/-- ITS FALSE NEIGHBOUR: 'it returns false'. Refute it at one input. -/
def budgetKraftWrong : ChangeSpec := { name := "budgetKraft", fn := fun _ => fun
  | [d1, d2] => { results := [.lit (.bool false)], args := [d1, d2] }
  | _ => none }
def BudgetKraftWrongFalsely : Prop := budgetKraftRow.holds Tryz.pinned (OpenSpec.ofChange budgetKraftWrong)

/-- 'keyholelaw51.BudgetPrices': WHATEVER THE INPUT: true; the input reads as it did. -/
def budgetPricesSpec : ChangeSpec := { name := "budgetPrices", fn := fun _ => fun
  | [d1, d2, d3] => { results := [.lit (.bool true)], args := [d1, d2, d3] }
  | _ => none }
def budgetPricesRow : OpenClaim := { program := "ytbkhagigkglgoaagreatdoor", sum := "805ac75bd85c5344bc762d1cb1b1b321e5c4c265f079a943d71d50263b0fb272", func := "keyhole/keyholelaw51.BudgetPrices", spec := "budgetPrices", inPlace := ["internal/abi.NoEscape"], unfollowed := true, recurses := true, named := ["internal/strconv.uint64pow10", "math/bits.deBruijn32tab", "math/bits.deBruijn64tab"], loops := true, apart := false, laid := [("math/bits.deBruijn32tab", laid_math_bits_deBruijn32tab), ("math/bits.deBruijn64tab", laid_math_bits_deBruijn64tab), ("internal/strconv.uint64pow10", laid_internal_strconv_uint64pow10)] }
def BudgetPricesSaid : Prop := budgetPricesRow.holds Tryz.pinned (OpenSpec.ofChange budgetPricesSpec)

/-- ITS FALSE NEIGHBOUR: 'it returns false'. Refute it at one input. -/
def budgetPricesWrong : ChangeSpec := { name := "budgetPrices", fn := fun _ => fun
  | [d1, d2, d3] => { results := [.lit (.bool false)], args := [d1, d2, d3] }
  | _ => none }
def BudgetPricesWrongFalsely : Prop := budgetPricesRow.holds Tryz.pinned (OpenSpec.ofChange budgetPricesWrong)

/-- 'keyholelaw51.BudgetSecrets': WHATEVER THE INPUT: true; the input reads as it did. -/
def budgetSecretsSpec : ChangeSpec := { name := "budgetSecrets", fn := fun _ => fun
  | [d1, d2, d3] => { results := [.lit (.bool true)], args := [d1, d2, d3] }
  | _ => none }
def budgetSecretsRow : OpenClaim := { program := "ytbkhagigkglgoaagreatdoor", sum := "805ac75bd85c5344bc762d1cb1b1b321e5c4c265f079a943d71d50263b0fb272", func := "keyhole/keyholelaw51.BudgetSecrets", spec := "budgetSecrets", inPlace := ["internal/abi.NoEscape"], unfollowed := true, recurses := true, named := ["internal/strconv.uint64pow10", "math/bits.deBruijn32tab", "math/bits.deBruijn64tab"], loops := true, apart := false, laid := [("math/bits.deBruijn32tab", laid_math_bits_deBruijn32tab), ("math/bits.deBruijn64tab", laid_math_bits_deBruijn64tab), ("internal/strconv.uint64pow10", laid_internal_strconv_uint64pow10)] }
def BudgetSecretsSaid : Prop := budgetSecretsRow.holds Tryz.pinned (OpenSpec.ofChange budgetSecretsSpec)

/-- ITS FALSE NEIGHBOUR: 'it returns false'. Refute it at one input. -/
def budgetSecretsWrong : ChangeSpec := { name := "budgetSecrets", fn := fun _ => fun
  | [d1, d2, d3] => { results := [.lit (.bool false)], args := [d1, d2, d3] }
  | _ => none }
def BudgetSecretsWrongFalsely : Prop := budgetSecretsRow.holds Tryz.pinned (OpenSpec.ofChange budgetSecretsWrong)

/-- 'keyholelaw51.BudgetModes': WHATEVER THE INPUT: true; the input reads as it did. -/
def budgetModesSpec : ChangeSpec := { name := "budgetModes", fn := fun _ => fun
  | [d1, d2, d3] => { results := [.lit (.bool true)], args := [d1, d2, d3] }
  | _ => none }
def budgetModesRow : OpenClaim := { program := "ytbkhagigkglgoaagreatdoor", sum := "805ac75bd85c5344bc762d1cb1b1b321e5c4c265f079a943d71d50263b0fb272", func := "keyhole/keyholelaw51.BudgetModes", spec := "budgetModes", inPlace := ["internal/abi.NoEscape"], unfollowed := true, recurses := true, named := ["internal/strconv.uint64pow10", "math/bits.deBruijn32tab", "math/bits.deBruijn64tab"], loops := true, apart := false, laid := [("math/bits.deBruijn32tab", laid_math_bits_deBruijn32tab), ("math/bits.deBruijn64tab", laid_math_bits_deBruijn64tab), ("internal/strconv.uint64pow10", laid_internal_strconv_uint64pow10)] }
def BudgetModesSaid : Prop := budgetModesRow.holds Tryz.pinned (OpenSpec.ofChange budgetModesSpec)

/-- ITS FALSE NEIGHBOUR: 'it returns false'. Refute it at one input. -/
def budgetModesWrong : ChangeSpec := { name := "budgetModes", fn := fun _ => fun
  | [d1, d2, d3] => { results := [.lit (.bool false)], args := [d1, d2, d3] }
  | _ => none }
def BudgetModesWrongFalsely : Prop := budgetModesRow.holds Tryz.pinned (OpenSpec.ofChange budgetModesWrong)

/-- 'keyholelaw51.BudgetForms': WHATEVER THE INPUT: true; the input reads as it did. -/
def budgetFormsSpec : ChangeSpec := { name := "budgetForms", fn := fun _ => fun
  | [d1, d2, d3] => { results := [.lit (.bool true)], args := [d1, d2, d3] }
  | _ => none }
def budgetFormsRow : OpenClaim := { program := "ytbkhagigkglgoaagreatdoor", sum := "805ac75bd85c5344bc762d1cb1b1b321e5c4c265f079a943d71d50263b0fb272", func := "keyhole/keyholelaw51.BudgetForms", spec := "budgetForms", inPlace := ["internal/abi.NoEscape"], unfollowed := true, recurses := true, named := ["internal/strconv.uint64pow10", "math/bits.deBruijn32tab", "math/bits.deBruijn64tab"], apart := false, laid := [("math/bits.deBruijn32tab", laid_math_bits_deBruijn32tab), ("math/bits.deBruijn64tab", laid_math_bits_deBruijn64tab), ("internal/strconv.uint64pow10", laid_internal_strconv_uint64pow10)] }
def BudgetFormsSaid : Prop := budgetFormsRow.holds Tryz.pinned (OpenSpec.ofChange budgetFormsSpec)

/-- ITS FALSE NEIGHBOUR: 'it returns false'. Refute it at one input. -/
def budgetFormsWrong : ChangeSpec := { name := "budgetForms", fn := fun _ => fun
  | [d1, d2, d3] => { results := [.lit (.bool false)], args := [d1, d2, d3] }
  | _ => none }
def BudgetFormsWrongFalsely : Prop := budgetFormsRow.holds Tryz.pinned (OpenSpec.ofChange budgetFormsWrong)

/-- 'keyholelaw51.BudgetAsks': WHATEVER THE INPUT: true; the input reads as it did. -/
def budgetAsksSpec : ChangeSpec := { name := "budgetAsks", fn := fun _ => fun
  | [d1, d2, d3] => { results := [.lit (.bool true)], args := [d1, d2, d3] }
  | _ => none }
def budgetAsksRow : OpenClaim := { program := "ytbkhagigkglgoaagreatdoor", sum := "805ac75bd85c5344bc762d1cb1b1b321e5c4c265f079a943d71d50263b0fb272", func := "keyhole/keyholelaw51.BudgetAsks", spec := "budgetAsks", inPlace := ["internal/abi.NoEscape"], unfollowed := true, recurses := true, named := ["internal/strconv.uint64pow10", "math/bits.deBruijn32tab", "math/bits.deBruijn64tab"], loops := true, apart := false, laid := [("math/bits.deBruijn32tab", laid_math_bits_deBruijn32tab), ("math/bits.deBruijn64tab", laid_math_bits_deBruijn64tab), ("internal/strconv.uint64pow10", laid_internal_strconv_uint64pow10)] }
def BudgetAsksSaid : Prop := budgetAsksRow.holds Tryz.pinned (OpenSpec.ofChange budgetAsksSpec)

/-- ITS FALSE NEIGHBOUR: 'it returns false'. Refute it at one input. -/
def budgetAsksWrong : ChangeSpec := { name := "budgetAsks", fn := fun _ => fun
  | [d1, d2, d3] => { results := [.lit (.bool false)], args := [d1, d2, d3] }
  | _ => none }
def BudgetAsksWrongFalsely : Prop := budgetAsksRow.holds Tryz.pinned (OpenSpec.ofChange budgetAsksWrong)

/-- 'keyholelaw51.BudgetObserves': WHATEVER THE INPUT: true; the input reads as it did. -/
def budgetObservesSpec : ChangeSpec := { name := "budgetObserves", fn := fun _ => fun
  | [d1, d2, d3] => { results := [.lit (.bool true)], args := [d1, d2, d3] }
  | _ => none }
def budgetObservesRow : OpenClaim := { program := "ytbkhagigkglgoaagreatdoor", sum := "805ac75bd85c5344bc762d1cb1b1b321e5c4c265f079a943d71d50263b0fb272", func := "keyhole/keyholelaw51.BudgetObserves", spec := "budgetObserves", inPlace := ["internal/abi.NoEscape"], unfollowed := true, recurses := true, named := ["internal/strconv.uint64pow10", "math/bits.deBruijn32tab", "math/bits.deBruijn64tab"], loops := true, apart := false, laid := [("math/bits.deBruijn32tab", laid_math_bits_deBruijn32tab), ("math/bits.deBruijn64tab", laid_math_bits_deBruijn64tab), ("internal/strconv.uint64pow10", laid_internal_strconv_uint64pow10)] }
def BudgetObservesSaid : Prop := budgetObservesRow.holds Tryz.pinned (OpenSpec.ofChange budgetObservesSpec)

/-- ITS FALSE NEIGHBOUR: 'it returns false'. Refute it at one input. -/
def budgetObservesWrong : ChangeSpec := { name := "budgetObserves", fn := fun _ => fun
  | [d1, d2, d3] => { results := [.lit (.bool false)], args := [d1, d2, d3] }
  | _ => none }
def BudgetObservesWrongFalsely : Prop := budgetObservesRow.holds Tryz.pinned (OpenSpec.ofChange budgetObservesWrong)

/-- 'keyholelaw51.BudgetReplays': WHATEVER THE INPUT: true; the input reads as it did. -/
def budgetReplaysSpec : ChangeSpec := { name := "budgetReplays", fn := fun _ => fun
  | [d1, d2, d3] => { results := [.lit (.bool true)], args := [d1, d2, d3] }
  | _ => none }
def budgetReplaysRow : OpenClaim := { program := "ytbkhagigkglgoaagreatdoor", sum := "805ac75bd85c5344bc762d1cb1b1b321e5c4c265f079a943d71d50263b0fb272", func := "keyhole/keyholelaw51.BudgetReplays", spec := "budgetReplays", inPlace := ["internal/abi.NoEscape"], unfollowed := true, recurses := true, named := ["internal/strconv.uint64pow10", "math/bits.deBruijn32tab", "math/bits.deBruijn64tab"], loops := true, apart := false, laid := [("math/bits.deBruijn32tab", laid_math_bits_deBruijn32tab), ("math/bits.deBruijn64tab", laid_math_bits_deBruijn64tab), ("internal/strconv.uint64pow10", laid_internal_strconv_uint64pow10)] }
def BudgetReplaysSaid : Prop := budgetReplaysRow.holds Tryz.pinned (OpenSpec.ofChange budgetReplaysSpec)

/-- ITS FALSE NEIGHBOUR: 'it returns false'. Refute it at one input. -/
def budgetReplaysWrong : ChangeSpec := { name := "budgetReplays", fn := fun _ => fun
  | [d1, d2, d3] => { results := [.lit (.bool false)], args := [d1, d2, d3] }
  | _ => none }
def BudgetReplaysWrongFalsely : Prop := budgetReplaysRow.holds Tryz.pinned (OpenSpec.ofChange budgetReplaysWrong)

/-- 'keyholelaw51.BudgetAgrees': WHATEVER THE INPUT: true; the input reads as it did. -/
def budgetAgreesSpec : ChangeSpec := { name := "budgetAgrees", fn := fun _ => fun
  | [d1, d2] => { results := [.lit (.bool true)], args := [d1, d2] }
  | _ => none }
def budgetAgreesRow : OpenClaim := { program := "ytbkhagigkglgoaagreatdoor", sum := "805ac75bd85c5344bc762d1cb1b1b321e5c4c265f079a943d71d50263b0fb272", func := "keyhole/keyholelaw51.BudgetAgrees", spec := "budgetAgrees", inPlace := ["internal/abi.NoEscape"], unfollowed := true, recurses := true, named := ["internal/strconv.uint64pow10", "math/bits.deBruijn32tab", "math/bits.deBruijn64tab"], loops := true, apart := false, laid := [("math/bits.deBruijn32tab", laid_math_bits_deBruijn32tab), ("math/bits.deBruijn64tab", laid_math_bits_deBruijn64tab), ("internal/strconv.uint64pow10", laid_internal_strconv_uint64pow10)] }
def BudgetAgreesSaid : Prop := budgetAgreesRow.holds Tryz.pinned (OpenSpec.ofChange budgetAgreesSpec)

/-- ITS FALSE NEIGHBOUR: 'it returns false'. Refute it at one input. -/
def budgetAgreesWrong : ChangeSpec := { name := "budgetAgrees", fn := fun _ => fun
  | [d1, d2] => { results := [.lit (.bool false)], args := [d1, d2] }
  | _ => none }
def BudgetAgreesWrongFalsely : Prop := budgetAgreesRow.holds Tryz.pinned (OpenSpec.ofChange budgetAgreesWrong)

/- THE SECOND FORM. 'bulk': how many values and letters a reading holds, each counted each time it is reached (what is shared counts as often as it is met; a slice's spare places count too). A statement '..UptoSaid' is the law's where the arguments, and the package variables that the reading takes, are together of bulk at most 1048576: NARROWER than '..Said'. Prove '..Said' where nothing that the law and all that it calls make is longer than what came in: it says more and counts as full. Else prove '..UptoSaid'. A law counts once. -/
mutual
def uptoBulk {H : Type} : DataW H → Nat
  | .lit (.string bytes) => bytes.length + 1
  | .lit _ => 1
  | .nil => 1
  | .ptr d => uptoBulk d + 1
  | .slice elems spare => uptoBulkAll elems + uptoBulkAll spare + 1
  | .agg parts => uptoBulkAll parts + 1
  | .iface _ d => uptoBulk d + 1
  | .map entries => uptoBulkEntries entries + 1
  | .held _ => 1
def uptoBulkAll {H : Type} : List (DataW H) → Nat
  | [] => 0
  | d :: r => uptoBulk d + uptoBulkAll r
def uptoBulkEntries {H : Type} : List (Lit × DataW H) → Nat
  | [] => 0
  | x :: r => uptoBulkEntry x + uptoBulkEntries r
def uptoBulkEntry {H : Type} : Lit × DataW H → Nat
  | (.string bytes, d) => bytes.length + uptoBulk d + 1
  | (_, d) => uptoBulk d + 1
 end
def uptoSmall : (H : Type) → List (DataW H) → Bool := fun _ ds => decide (uptoBulkAll ds ≤ 1048576)
def OpenSpec.upto (s : _root_.Go.ChangeSpec) : _root_.Go.OpenSpec := { _root_.Go.OpenSpec.ofChange s with cond := some uptoSmall }

/-- 'keyholelaw51.BudgetKraft', WHERE WHAT IT READS IS OF BULK AT MOST 1048576: true; the input reads as it did. -/
def budgetKraftUptoRow : OpenClaim := { program := "ytbkhagigkglgoaagreatdoor", sum := "805ac75bd85c5344bc762d1cb1b1b321e5c4c265f079a943d71d50263b0fb272", func := "keyhole/keyholelaw51.BudgetKraft", spec := "budgetKraft", inPlace := ["internal/abi.NoEscape"], unfollowed := true, recurses := true, named := ["internal/strconv.uint64pow10", "math/bits.deBruijn32tab", "math/bits.deBruijn64tab"], loops := true, apart := false, laid := [("math/bits.deBruijn32tab", laid_math_bits_deBruijn32tab), ("math/bits.deBruijn64tab", laid_math_bits_deBruijn64tab), ("internal/strconv.uint64pow10", laid_internal_strconv_uint64pow10)], narrowed := true }
def BudgetKraftUptoSaid : Prop := budgetKraftUptoRow.holds Tryz.pinned (OpenSpec.upto budgetKraftSpec)

/-- 'keyholelaw51.BudgetPrices', WHERE WHAT IT READS IS OF BULK AT MOST 1048576: true; the input reads as it did. -/
def budgetPricesUptoRow : OpenClaim := { program := "ytbkhagigkglgoaagreatdoor", sum := "805ac75bd85c5344bc762d1cb1b1b321e5c4c265f079a943d71d50263b0fb272", func := "keyhole/keyholelaw51.BudgetPrices", spec := "budgetPrices", inPlace := ["internal/abi.NoEscape"], unfollowed := true, recurses := true, named := ["internal/strconv.uint64pow10", "math/bits.deBruijn32tab", "math/bits.deBruijn64tab"], loops := true, apart := false, laid := [("math/bits.deBruijn32tab", laid_math_bits_deBruijn32tab), ("math/bits.deBruijn64tab", laid_math_bits_deBruijn64tab), ("internal/strconv.uint64pow10", laid_internal_strconv_uint64pow10)], narrowed := true }
def BudgetPricesUptoSaid : Prop := budgetPricesUptoRow.holds Tryz.pinned (OpenSpec.upto budgetPricesSpec)

/-- 'keyholelaw51.BudgetSecrets', WHERE WHAT IT READS IS OF BULK AT MOST 1048576: true; the input reads as it did. -/
def budgetSecretsUptoRow : OpenClaim := { program := "ytbkhagigkglgoaagreatdoor", sum := "805ac75bd85c5344bc762d1cb1b1b321e5c4c265f079a943d71d50263b0fb272", func := "keyhole/keyholelaw51.BudgetSecrets", spec := "budgetSecrets", inPlace := ["internal/abi.NoEscape"], unfollowed := true, recurses := true, named := ["internal/strconv.uint64pow10", "math/bits.deBruijn32tab", "math/bits.deBruijn64tab"], loops := true, apart := false, laid := [("math/bits.deBruijn32tab", laid_math_bits_deBruijn32tab), ("math/bits.deBruijn64tab", laid_math_bits_deBruijn64tab), ("internal/strconv.uint64pow10", laid_internal_strconv_uint64pow10)], narrowed := true }
def BudgetSecretsUptoSaid : Prop := budgetSecretsUptoRow.holds Tryz.pinned (OpenSpec.upto budgetSecretsSpec)

/-- 'keyholelaw51.BudgetModes', WHERE WHAT IT READS IS OF BULK AT MOST 1048576: true; the input reads as it did. -/
def budgetModesUptoRow : OpenClaim := { program := "ytbkhagigkglgoaagreatdoor", sum := "805ac75bd85c5344bc762d1cb1b1b321e5c4c265f079a943d71d50263b0fb272", func := "keyhole/keyholelaw51.BudgetModes", spec := "budgetModes", inPlace := ["internal/abi.NoEscape"], unfollowed := true, recurses := true, named := ["internal/strconv.uint64pow10", "math/bits.deBruijn32tab", "math/bits.deBruijn64tab"], loops := true, apart := false, laid := [("math/bits.deBruijn32tab", laid_math_bits_deBruijn32tab), ("math/bits.deBruijn64tab", laid_math_bits_deBruijn64tab), ("internal/strconv.uint64pow10", laid_internal_strconv_uint64pow10)], narrowed := true }
def BudgetModesUptoSaid : Prop := budgetModesUptoRow.holds Tryz.pinned (OpenSpec.upto budgetModesSpec)

/-- 'keyholelaw51.BudgetForms', WHERE WHAT IT READS IS OF BULK AT MOST 1048576: true; the input reads as it did. -/
def budgetFormsUptoRow : OpenClaim := { program := "ytbkhagigkglgoaagreatdoor", sum := "805ac75bd85c5344bc762d1cb1b1b321e5c4c265f079a943d71d50263b0fb272", func := "keyhole/keyholelaw51.BudgetForms", spec := "budgetForms", inPlace := ["internal/abi.NoEscape"], unfollowed := true, recurses := true, named := ["internal/strconv.uint64pow10", "math/bits.deBruijn32tab", "math/bits.deBruijn64tab"], apart := false, laid := [("math/bits.deBruijn32tab", laid_math_bits_deBruijn32tab), ("math/bits.deBruijn64tab", laid_math_bits_deBruijn64tab), ("internal/strconv.uint64pow10", laid_internal_strconv_uint64pow10)], narrowed := true }
def BudgetFormsUptoSaid : Prop := budgetFormsUptoRow.holds Tryz.pinned (OpenSpec.upto budgetFormsSpec)

/-- 'keyholelaw51.BudgetAsks', WHERE WHAT IT READS IS OF BULK AT MOST 1048576: true; the input reads as it did. -/
def budgetAsksUptoRow : OpenClaim := { program := "ytbkhagigkglgoaagreatdoor", sum := "805ac75bd85c5344bc762d1cb1b1b321e5c4c265f079a943d71d50263b0fb272", func := "keyhole/keyholelaw51.BudgetAsks", spec := "budgetAsks", inPlace := ["internal/abi.NoEscape"], unfollowed := true, recurses := true, named := ["internal/strconv.uint64pow10", "math/bits.deBruijn32tab", "math/bits.deBruijn64tab"], loops := true, apart := false, laid := [("math/bits.deBruijn32tab", laid_math_bits_deBruijn32tab), ("math/bits.deBruijn64tab", laid_math_bits_deBruijn64tab), ("internal/strconv.uint64pow10", laid_internal_strconv_uint64pow10)], narrowed := true }
def BudgetAsksUptoSaid : Prop := budgetAsksUptoRow.holds Tryz.pinned (OpenSpec.upto budgetAsksSpec)

/-- 'keyholelaw51.BudgetObserves', WHERE WHAT IT READS IS OF BULK AT MOST 1048576: true; the input reads as it did. -/
def budgetObservesUptoRow : OpenClaim := { program := "ytbkhagigkglgoaagreatdoor", sum := "805ac75bd85c5344bc762d1cb1b1b321e5c4c265f079a943d71d50263b0fb272", func := "keyhole/keyholelaw51.BudgetObserves", spec := "budgetObserves", inPlace := ["internal/abi.NoEscape"], unfollowed := true, recurses := true, named := ["internal/strconv.uint64pow10", "math/bits.deBruijn32tab", "math/bits.deBruijn64tab"], loops := true, apart := false, laid := [("math/bits.deBruijn32tab", laid_math_bits_deBruijn32tab), ("math/bits.deBruijn64tab", laid_math_bits_deBruijn64tab), ("internal/strconv.uint64pow10", laid_internal_strconv_uint64pow10)], narrowed := true }
def BudgetObservesUptoSaid : Prop := budgetObservesUptoRow.holds Tryz.pinned (OpenSpec.upto budgetObservesSpec)

/-- 'keyholelaw51.BudgetReplays', WHERE WHAT IT READS IS OF BULK AT MOST 1048576: true; the input reads as it did. -/
def budgetReplaysUptoRow : OpenClaim := { program := "ytbkhagigkglgoaagreatdoor", sum := "805ac75bd85c5344bc762d1cb1b1b321e5c4c265f079a943d71d50263b0fb272", func := "keyhole/keyholelaw51.BudgetReplays", spec := "budgetReplays", inPlace := ["internal/abi.NoEscape"], unfollowed := true, recurses := true, named := ["internal/strconv.uint64pow10", "math/bits.deBruijn32tab", "math/bits.deBruijn64tab"], loops := true, apart := false, laid := [("math/bits.deBruijn32tab", laid_math_bits_deBruijn32tab), ("math/bits.deBruijn64tab", laid_math_bits_deBruijn64tab), ("internal/strconv.uint64pow10", laid_internal_strconv_uint64pow10)], narrowed := true }
def BudgetReplaysUptoSaid : Prop := budgetReplaysUptoRow.holds Tryz.pinned (OpenSpec.upto budgetReplaysSpec)

/-- 'keyholelaw51.BudgetAgrees', WHERE WHAT IT READS IS OF BULK AT MOST 1048576: true; the input reads as it did. -/
def budgetAgreesUptoRow : OpenClaim := { program := "ytbkhagigkglgoaagreatdoor", sum := "805ac75bd85c5344bc762d1cb1b1b321e5c4c265f079a943d71d50263b0fb272", func := "keyhole/keyholelaw51.BudgetAgrees", spec := "budgetAgrees", inPlace := ["internal/abi.NoEscape"], unfollowed := true, recurses := true, named := ["internal/strconv.uint64pow10", "math/bits.deBruijn32tab", "math/bits.deBruijn64tab"], loops := true, apart := false, laid := [("math/bits.deBruijn32tab", laid_math_bits_deBruijn32tab), ("math/bits.deBruijn64tab", laid_math_bits_deBruijn64tab), ("internal/strconv.uint64pow10", laid_internal_strconv_uint64pow10)], narrowed := true }
def BudgetAgreesUptoSaid : Prop := budgetAgreesUptoRow.holds Tryz.pinned (OpenSpec.upto budgetAgreesSpec)

end Rows
end Go.Proofs.YtbkhagigkglgoaaGreatDoor

/-
  NARROWER THAN 'FOR EVERY INPUT', by the rows' own cells (each row's printed sentence says how): SsaChecks: loops · SsaRuns: loops · SsaNeeded: loops · SsaCounts: loops · SsaBuilds: loops · SsaBuiltRuns: loops · SsaDead: loops · SsaRefuses: loops.
  DERIVED. THE GIVEN ROWS OF THIS SEAT. 8 by the template 'for every input the law returns true; each argument reads behind the call as it read before'; 0 by the template 'total and deterministic' (their statements: YtckdhgbepmpgiaaGreatTotals.lean).
  GIVEN WITH THE SEED: the statements are not yours to turn. If you find one false, say at which input.
  Laid BY PROGRAM, IN A SANDBOX (cutbox-rows.mjs): the forced cells as the released guide's own fill.sh prints them over the translation 8d1d70f21bd4e6e0… (all of the seat's roots in one cut). By AI agents, Wed Nov 11 2026. No macro, syntax, notation, axiom, sorry.
-/
import Derived.Test.YtckdhgbepmpgiaaGreatChecked
import GoSem.Claim
import GoSem.ClaimJoined
import GoSem.ClaimMapViews
import Derived.JoinedTies
import Derived.KernelRfl
namespace Go.Proofs.YtckdhgbepmpgiaaGreat
/- THE CELL 'sum', in the pinned program and in every row, IS THE sha256 OF THE DUMP (.gsa) THAT YtckdhgbepmpgiaaGreatProg.lean LOADS. Nothing in Lean hashes anything: it is a label: what it is worth is what the hold of that sum in a sandbox is worth. -/
noncomputable def Tryz.pinned : Pinned := { name := "ytckdhgbepmpgiaagreat", sum := "8d1d70f21bd4e6e0c26ddf1eda3bfb27247b4bbca83b90b8c59ca39a46a43be9", checked := Tryz.checked }
namespace Rows
def none {H : Type} : Left H := { results := [], args := [] }

/-- 'keyholelaw22.SsaChecks': WHATEVER THE INPUT: true; the input reads as it did. -/
def ssaChecksSpec : ChangeSpec := { name := "ssaChecks", fn := fun _ => fun
  | [d1, d2] => { results := [.lit (.bool true)], args := [d1, d2] }
  | _ => none }
def ssaChecksRow : OpenClaim := { program := "ytckdhgbepmpgiaagreat", sum := "8d1d70f21bd4e6e0c26ddf1eda3bfb27247b4bbca83b90b8c59ca39a46a43be9", func := "keyhole/keyholelaw22.SsaChecks", spec := "ssaChecks", unfollowed := true, recurses := true, loops := true, apart := false }
def SsaChecksSaid : Prop := ssaChecksRow.holds Tryz.pinned (OpenSpec.ofChange ssaChecksSpec)

/-- ITS FALSE NEIGHBOUR: 'it returns false'. Refute it at one input. -/
def ssaChecksWrong : ChangeSpec := { name := "ssaChecks", fn := fun _ => fun
  | [d1, d2] => { results := [.lit (.bool false)], args := [d1, d2] }
  | _ => none }
def SsaChecksWrongFalsely : Prop := ssaChecksRow.holds Tryz.pinned (OpenSpec.ofChange ssaChecksWrong)

/-- 'keyholelaw22.SsaRuns': WHATEVER THE INPUT: true; the input reads as it did. -/
def ssaRunsSpec : ChangeSpec := { name := "ssaRuns", fn := fun _ => fun
  | [d1, d2] => { results := [.lit (.bool true)], args := [d1, d2] }
  | _ => none }
def ssaRunsRow : OpenClaim := { program := "ytckdhgbepmpgiaagreat", sum := "8d1d70f21bd4e6e0c26ddf1eda3bfb27247b4bbca83b90b8c59ca39a46a43be9", func := "keyhole/keyholelaw22.SsaRuns", spec := "ssaRuns", unfollowed := true, recurses := true, loops := true, apart := false }
def SsaRunsSaid : Prop := ssaRunsRow.holds Tryz.pinned (OpenSpec.ofChange ssaRunsSpec)

/-- ITS FALSE NEIGHBOUR: 'it returns false'. Refute it at one input. -/
def ssaRunsWrong : ChangeSpec := { name := "ssaRuns", fn := fun _ => fun
  | [d1, d2] => { results := [.lit (.bool false)], args := [d1, d2] }
  | _ => none }
def SsaRunsWrongFalsely : Prop := ssaRunsRow.holds Tryz.pinned (OpenSpec.ofChange ssaRunsWrong)

/-- 'keyholelaw22.SsaNeeded': WHATEVER THE INPUT: true; the input reads as it did. -/
def ssaNeededSpec : ChangeSpec := { name := "ssaNeeded", fn := fun _ => fun
  | [d1, d2] => { results := [.lit (.bool true)], args := [d1, d2] }
  | _ => none }
def ssaNeededRow : OpenClaim := { program := "ytckdhgbepmpgiaagreat", sum := "8d1d70f21bd4e6e0c26ddf1eda3bfb27247b4bbca83b90b8c59ca39a46a43be9", func := "keyhole/keyholelaw22.SsaNeeded", spec := "ssaNeeded", unfollowed := true, recurses := true, loops := true, apart := false }
def SsaNeededSaid : Prop := ssaNeededRow.holds Tryz.pinned (OpenSpec.ofChange ssaNeededSpec)

/-- ITS FALSE NEIGHBOUR: 'it returns false'. Refute it at one input. -/
def ssaNeededWrong : ChangeSpec := { name := "ssaNeeded", fn := fun _ => fun
  | [d1, d2] => { results := [.lit (.bool false)], args := [d1, d2] }
  | _ => none }
def SsaNeededWrongFalsely : Prop := ssaNeededRow.holds Tryz.pinned (OpenSpec.ofChange ssaNeededWrong)

/-- 'keyholelaw22.SsaCounts': WHATEVER THE INPUT: true; the input reads as it did. -/
def ssaCountsSpec : ChangeSpec := { name := "ssaCounts", fn := fun _ => fun
  | [d1, d2] => { results := [.lit (.bool true)], args := [d1, d2] }
  | _ => none }
def ssaCountsRow : OpenClaim := { program := "ytckdhgbepmpgiaagreat", sum := "8d1d70f21bd4e6e0c26ddf1eda3bfb27247b4bbca83b90b8c59ca39a46a43be9", func := "keyhole/keyholelaw22.SsaCounts", spec := "ssaCounts", unfollowed := true, recurses := true, loops := true, apart := false }
def SsaCountsSaid : Prop := ssaCountsRow.holds Tryz.pinned (OpenSpec.ofChange ssaCountsSpec)

/-- ITS FALSE NEIGHBOUR: 'it returns false'. Refute it at one input. -/
def ssaCountsWrong : ChangeSpec := { name := "ssaCounts", fn := fun _ => fun
  | [d1, d2] => { results := [.lit (.bool false)], args := [d1, d2] }
  | _ => none }
def SsaCountsWrongFalsely : Prop := ssaCountsRow.holds Tryz.pinned (OpenSpec.ofChange ssaCountsWrong)

/-- 'keyholelaw22.SsaBuilds': WHATEVER THE INPUT: true; the input reads as it did. -/
def ssaBuildsSpec : ChangeSpec := { name := "ssaBuilds", fn := fun _ => fun
  | [d] => { results := [.lit (.bool true)], args := [d] }
  | _ => none }
def ssaBuildsRow : OpenClaim := { program := "ytckdhgbepmpgiaagreat", sum := "8d1d70f21bd4e6e0c26ddf1eda3bfb27247b4bbca83b90b8c59ca39a46a43be9", func := "keyhole/keyholelaw22.SsaBuilds", spec := "ssaBuilds", unfollowed := true, recurses := true, loops := true, apart := false }
def SsaBuildsSaid : Prop := ssaBuildsRow.holds Tryz.pinned (OpenSpec.ofChange ssaBuildsSpec)

/-- ITS FALSE NEIGHBOUR: 'it returns false'. Refute it at one input. -/
def ssaBuildsWrong : ChangeSpec := { name := "ssaBuilds", fn := fun _ => fun
  | [d] => { results := [.lit (.bool false)], args := [d] }
  | _ => none }
def SsaBuildsWrongFalsely : Prop := ssaBuildsRow.holds Tryz.pinned (OpenSpec.ofChange ssaBuildsWrong)

/-- 'keyholelaw22.SsaBuiltRuns': WHATEVER THE INPUT: true; the input reads as it did. -/
def ssaBuiltRunsSpec : ChangeSpec := { name := "ssaBuiltRuns", fn := fun _ => fun
  | [d] => { results := [.lit (.bool true)], args := [d] }
  | _ => none }
def ssaBuiltRunsRow : OpenClaim := { program := "ytckdhgbepmpgiaagreat", sum := "8d1d70f21bd4e6e0c26ddf1eda3bfb27247b4bbca83b90b8c59ca39a46a43be9", func := "keyhole/keyholelaw22.SsaBuiltRuns", spec := "ssaBuiltRuns", unfollowed := true, recurses := true, loops := true, apart := false }
def SsaBuiltRunsSaid : Prop := ssaBuiltRunsRow.holds Tryz.pinned (OpenSpec.ofChange ssaBuiltRunsSpec)

/-- ITS FALSE NEIGHBOUR: 'it returns false'. Refute it at one input. -/
def ssaBuiltRunsWrong : ChangeSpec := { name := "ssaBuiltRuns", fn := fun _ => fun
  | [d] => { results := [.lit (.bool false)], args := [d] }
  | _ => none }
def SsaBuiltRunsWrongFalsely : Prop := ssaBuiltRunsRow.holds Tryz.pinned (OpenSpec.ofChange ssaBuiltRunsWrong)

/-- 'keyholelaw22.SsaDead': WHATEVER THE INPUT: true; the input reads as it did. -/
def ssaDeadSpec : ChangeSpec := { name := "ssaDead", fn := fun _ => fun
  | [d1, d2] => { results := [.lit (.bool true)], args := [d1, d2] }
  | _ => none }
def ssaDeadRow : OpenClaim := { program := "ytckdhgbepmpgiaagreat", sum := "8d1d70f21bd4e6e0c26ddf1eda3bfb27247b4bbca83b90b8c59ca39a46a43be9", func := "keyhole/keyholelaw22.SsaDead", spec := "ssaDead", unfollowed := true, recurses := true, loops := true, apart := false }
def SsaDeadSaid : Prop := ssaDeadRow.holds Tryz.pinned (OpenSpec.ofChange ssaDeadSpec)

/-- ITS FALSE NEIGHBOUR: 'it returns false'. Refute it at one input. -/
def ssaDeadWrong : ChangeSpec := { name := "ssaDead", fn := fun _ => fun
  | [d1, d2] => { results := [.lit (.bool false)], args := [d1, d2] }
  | _ => none }
def SsaDeadWrongFalsely : Prop := ssaDeadRow.holds Tryz.pinned (OpenSpec.ofChange ssaDeadWrong)

/-- 'keyholelaw22.SsaRefuses': WHATEVER THE INPUT: true; the input reads as it did. -/
def ssaRefusesSpec : ChangeSpec := { name := "ssaRefuses", fn := fun _ => fun
  | [d1, d2, d3] => { results := [.lit (.bool true)], args := [d1, d2, d3] }
  | _ => none }
def ssaRefusesRow : OpenClaim := { program := "ytckdhgbepmpgiaagreat", sum := "8d1d70f21bd4e6e0c26ddf1eda3bfb27247b4bbca83b90b8c59ca39a46a43be9", func := "keyhole/keyholelaw22.SsaRefuses", spec := "ssaRefuses", unfollowed := true, recurses := true, loops := true, apart := false }
def SsaRefusesSaid : Prop := ssaRefusesRow.holds Tryz.pinned (OpenSpec.ofChange ssaRefusesSpec)

/-- ITS FALSE NEIGHBOUR: 'it returns false'. Refute it at one input. -/
def ssaRefusesWrong : ChangeSpec := { name := "ssaRefuses", fn := fun _ => fun
  | [d1, d2, d3] => { results := [.lit (.bool false)], args := [d1, d2, d3] }
  | _ => none }
def SsaRefusesWrongFalsely : Prop := ssaRefusesRow.holds Tryz.pinned (OpenSpec.ofChange ssaRefusesWrong)

/- THE SECOND FORM. 'bulk': how many values and letters a reading holds, each counted each time it is reached (what is shared counts as often as it is met; a slice's spare places count too). A statement '..UptoSaid' is the law's where the arguments, and the package variables that the reading takes, are together of bulk at most 1048576: NARROWER than '..Said'. Prove '..Said' where nothing that the law and all that it calls make is longer than what came in: it says more and counts as full. Else prove '..UptoSaid'. A law counts once. -/
mutual
def uptoBulk {H : Type} : DataW H → Nat
  | .lit (.string bytes) => bytes.length + 1
  | .lit _ => 1
  | .nil => 1
  | .ptr d => uptoBulk d + 1
  | .slice elems spare => uptoBulkAll elems + uptoBulkAll spare + 1
  | .agg parts => uptoBulkAll parts + 1
  | .iface _ d => uptoBulk d + 1
  | .map entries => uptoBulkEntries entries + 1
  | .held _ => 1
def uptoBulkAll {H : Type} : List (DataW H) → Nat
  | [] => 0
  | d :: r => uptoBulk d + uptoBulkAll r
def uptoBulkEntries {H : Type} : List (Lit × DataW H) → Nat
  | [] => 0
  | x :: r => uptoBulkEntry x + uptoBulkEntries r
def uptoBulkEntry {H : Type} : Lit × DataW H → Nat
  | (.string bytes, d) => bytes.length + uptoBulk d + 1
  | (_, d) => uptoBulk d + 1
 end
def uptoSmall : (H : Type) → List (DataW H) → Bool := fun _ ds => decide (uptoBulkAll ds ≤ 1048576)
def OpenSpec.upto (s : _root_.Go.ChangeSpec) : _root_.Go.OpenSpec := { _root_.Go.OpenSpec.ofChange s with cond := some uptoSmall }

/-- 'keyholelaw22.SsaChecks', WHERE WHAT IT READS IS OF BULK AT MOST 1048576: true; the input reads as it did. -/
def ssaChecksUptoRow : OpenClaim := { program := "ytckdhgbepmpgiaagreat", sum := "8d1d70f21bd4e6e0c26ddf1eda3bfb27247b4bbca83b90b8c59ca39a46a43be9", func := "keyhole/keyholelaw22.SsaChecks", spec := "ssaChecks", unfollowed := true, recurses := true, loops := true, apart := false, narrowed := true }
def SsaChecksUptoSaid : Prop := ssaChecksUptoRow.holds Tryz.pinned (OpenSpec.upto ssaChecksSpec)

/-- 'keyholelaw22.SsaRuns', WHERE WHAT IT READS IS OF BULK AT MOST 1048576: true; the input reads as it did. -/
def ssaRunsUptoRow : OpenClaim := { program := "ytckdhgbepmpgiaagreat", sum := "8d1d70f21bd4e6e0c26ddf1eda3bfb27247b4bbca83b90b8c59ca39a46a43be9", func := "keyhole/keyholelaw22.SsaRuns", spec := "ssaRuns", unfollowed := true, recurses := true, loops := true, apart := false, narrowed := true }
def SsaRunsUptoSaid : Prop := ssaRunsUptoRow.holds Tryz.pinned (OpenSpec.upto ssaRunsSpec)

/-- 'keyholelaw22.SsaNeeded', WHERE WHAT IT READS IS OF BULK AT MOST 1048576: true; the input reads as it did. -/
def ssaNeededUptoRow : OpenClaim := { program := "ytckdhgbepmpgiaagreat", sum := "8d1d70f21bd4e6e0c26ddf1eda3bfb27247b4bbca83b90b8c59ca39a46a43be9", func := "keyhole/keyholelaw22.SsaNeeded", spec := "ssaNeeded", unfollowed := true, recurses := true, loops := true, apart := false, narrowed := true }
def SsaNeededUptoSaid : Prop := ssaNeededUptoRow.holds Tryz.pinned (OpenSpec.upto ssaNeededSpec)

/-- 'keyholelaw22.SsaCounts', WHERE WHAT IT READS IS OF BULK AT MOST 1048576: true; the input reads as it did. -/
def ssaCountsUptoRow : OpenClaim := { program := "ytckdhgbepmpgiaagreat", sum := "8d1d70f21bd4e6e0c26ddf1eda3bfb27247b4bbca83b90b8c59ca39a46a43be9", func := "keyhole/keyholelaw22.SsaCounts", spec := "ssaCounts", unfollowed := true, recurses := true, loops := true, apart := false, narrowed := true }
def SsaCountsUptoSaid : Prop := ssaCountsUptoRow.holds Tryz.pinned (OpenSpec.upto ssaCountsSpec)

/-- 'keyholelaw22.SsaBuilds', WHERE WHAT IT READS IS OF BULK AT MOST 1048576: true; the input reads as it did. -/
def ssaBuildsUptoRow : OpenClaim := { program := "ytckdhgbepmpgiaagreat", sum := "8d1d70f21bd4e6e0c26ddf1eda3bfb27247b4bbca83b90b8c59ca39a46a43be9", func := "keyhole/keyholelaw22.SsaBuilds", spec := "ssaBuilds", unfollowed := true, recurses := true, loops := true, apart := false, narrowed := true }
def SsaBuildsUptoSaid : Prop := ssaBuildsUptoRow.holds Tryz.pinned (OpenSpec.upto ssaBuildsSpec)

/-- 'keyholelaw22.SsaBuiltRuns', WHERE WHAT IT READS IS OF BULK AT MOST 1048576: true; the input reads as it did. -/
def ssaBuiltRunsUptoRow : OpenClaim := { program := "ytckdhgbepmpgiaagreat", sum := "8d1d70f21bd4e6e0c26ddf1eda3bfb27247b4bbca83b90b8c59ca39a46a43be9", func := "keyhole/keyholelaw22.SsaBuiltRuns", spec := "ssaBuiltRuns", unfollowed := true, recurses := true, loops := true, apart := false, narrowed := true }
def SsaBuiltRunsUptoSaid : Prop := ssaBuiltRunsUptoRow.holds Tryz.pinned (OpenSpec.upto ssaBuiltRunsSpec)

/-- 'keyholelaw22.SsaDead', WHERE WHAT IT READS IS OF BULK AT MOST 1048576: true; the input reads as it did. -/
def ssaDeadUptoRow : OpenClaim := { program := "ytckdhgbepmpgiaagreat", sum := "8d1d70f21bd4e6e0c26ddf1eda3bfb27247b4bbca83b90b8c59ca39a46a43be9", func := "keyhole/keyholelaw22.SsaDead", spec := "ssaDead", unfollowed := true, recurses := true, loops := true, apart := false, narrowed := true }
def SsaDeadUptoSaid : Prop := ssaDeadUptoRow.holds Tryz.pinned (OpenSpec.upto ssaDeadSpec)

/-- 'keyholelaw22.SsaRefuses', WHERE WHAT IT READS IS OF BULK AT MOST 1048576: true; the input reads as it did. -/
def ssaRefusesUptoRow : OpenClaim := { program := "ytckdhgbepmpgiaagreat", sum := "8d1d70f21bd4e6e0c26ddf1eda3bfb27247b4bbca83b90b8c59ca39a46a43be9", func := "keyhole/keyholelaw22.SsaRefuses", spec := "ssaRefuses", unfollowed := true, recurses := true, loops := true, apart := false, narrowed := true }
def SsaRefusesUptoSaid : Prop := ssaRefusesUptoRow.holds Tryz.pinned (OpenSpec.upto ssaRefusesSpec)

end Rows
end Go.Proofs.YtckdhgbepmpgiaaGreat

/-
  NARROWER THAN 'FOR EVERY INPUT', by the rows' own cells (each row's printed sentence says how): CfgBuilds: loops · CfgChecks: loops · CfgNodes: loops · CfgWalks: loops · CfgRuns: loops · CfgLast: loops · CfgReaching: loops · CfgRounds: loops · DominanceStructured: loops · CfgConnected: loops.
  DERIVED. THE GIVEN ROWS OF THIS SEAT. 11 by the template 'for every input the law returns true; each argument reads behind the call as it read before'; 0 by the template 'total and deterministic' (their statements: YtldhllpogdikdaaGreatTotals.lean).
  GIVEN WITH THE SEED: the statements are not yours to turn. If you find one false, say at which input.
  Laid BY PROGRAM, IN A SANDBOX (cutbox-rows.mjs): the forced cells as the released guide's own fill.sh prints them over the translation 4197b6ee38137393… (all of the seat's roots in one cut). By AI agents, Wed Nov 11 2026. No macro, syntax, notation, axiom, sorry.
-/
import Derived.Test.YtldhllpogdikdaaGreatChecked
import GoSem.Claim
import GoSem.ClaimJoined
import GoSem.ClaimMapViews
import Derived.JoinedTies
import Derived.KernelRfl
namespace Go.Proofs.YtldhllpogdikdaaGreat
/- THE CELL 'sum', in the pinned program and in every row, IS THE sha256 OF THE DUMP (.gsa) THAT YtldhllpogdikdaaGreatProg.lean LOADS. Nothing in Lean hashes anything: it is a label: what it is worth is what the hold of that sum in a sandbox is worth. -/
noncomputable def Tryz.pinned : Pinned := { name := "ytldhllpogdikdaagreat", sum := "4197b6ee38137393ff707aab2be730ad6dc8c0cb32aafb4309b78a70fc8589c8", checked := Tryz.checked }
namespace Rows
def none {H : Type} : Left H := { results := [], args := [] }

/-- 'keyholelaw20.CfgBuilds': WHATEVER THE INPUT: true; the input reads as it did. -/
def cfgBuildsSpec : ChangeSpec := { name := "cfgBuilds", fn := fun _ => fun
  | [d] => { results := [.lit (.bool true)], args := [d] }
  | _ => none }
def cfgBuildsRow : OpenClaim := { program := "ytldhllpogdikdaagreat", sum := "4197b6ee38137393ff707aab2be730ad6dc8c0cb32aafb4309b78a70fc8589c8", func := "keyhole/keyholelaw20.CfgBuilds", spec := "cfgBuilds", unfollowed := true, recurses := true, loops := true, apart := false }
def CfgBuildsSaid : Prop := cfgBuildsRow.holds Tryz.pinned (OpenSpec.ofChange cfgBuildsSpec)

/-- ITS FALSE NEIGHBOUR: 'it returns false'. Refute it at one input. -/
def cfgBuildsWrong : ChangeSpec := { name := "cfgBuilds", fn := fun _ => fun
  | [d] => { results := [.lit (.bool false)], args := [d] }
  | _ => none }
def CfgBuildsWrongFalsely : Prop := cfgBuildsRow.holds Tryz.pinned (OpenSpec.ofChange cfgBuildsWrong)

/-- 'keyholelaw20.CfgChecks': WHATEVER THE INPUT: true; the input reads as it did. -/
def cfgChecksSpec : ChangeSpec := { name := "cfgChecks", fn := fun _ => fun
  | [d1, d2] => { results := [.lit (.bool true)], args := [d1, d2] }
  | _ => none }
def cfgChecksRow : OpenClaim := { program := "ytldhllpogdikdaagreat", sum := "4197b6ee38137393ff707aab2be730ad6dc8c0cb32aafb4309b78a70fc8589c8", func := "keyhole/keyholelaw20.CfgChecks", spec := "cfgChecks", unfollowed := true, recurses := true, loops := true, apart := false }
def CfgChecksSaid : Prop := cfgChecksRow.holds Tryz.pinned (OpenSpec.ofChange cfgChecksSpec)

/-- ITS FALSE NEIGHBOUR: 'it returns false'. Refute it at one input. -/
def cfgChecksWrong : ChangeSpec := { name := "cfgChecks", fn := fun _ => fun
  | [d1, d2] => { results := [.lit (.bool false)], args := [d1, d2] }
  | _ => none }
def CfgChecksWrongFalsely : Prop := cfgChecksRow.holds Tryz.pinned (OpenSpec.ofChange cfgChecksWrong)

/-- 'keyholelaw20.CfgNodes': WHATEVER THE INPUT: true; the input reads as it did. -/
def cfgNodesSpec : ChangeSpec := { name := "cfgNodes", fn := fun _ => fun
  | [d1, d2] => { results := [.lit (.bool true)], args := [d1, d2] }
  | _ => none }
def cfgNodesRow : OpenClaim := { program := "ytldhllpogdikdaagreat", sum := "4197b6ee38137393ff707aab2be730ad6dc8c0cb32aafb4309b78a70fc8589c8", func := "keyhole/keyholelaw20.CfgNodes", spec := "cfgNodes", unfollowed := true, recurses := true, loops := true, apart := false }
def CfgNodesSaid : Prop := cfgNodesRow.holds Tryz.pinned (OpenSpec.ofChange cfgNodesSpec)

/-- ITS FALSE NEIGHBOUR: 'it returns false'. Refute it at one input. -/
def cfgNodesWrong : ChangeSpec := { name := "cfgNodes", fn := fun _ => fun
  | [d1, d2] => { results := [.lit (.bool false)], args := [d1, d2] }
  | _ => none }
def CfgNodesWrongFalsely : Prop := cfgNodesRow.holds Tryz.pinned (OpenSpec.ofChange cfgNodesWrong)

/-- 'keyholelaw20.CfgWalks': WHATEVER THE INPUT: true; the input reads as it did. -/
def cfgWalksSpec : ChangeSpec := { name := "cfgWalks", fn := fun _ => fun
  | [d1, d2] => { results := [.lit (.bool true)], args := [d1, d2] }
  | _ => none }
def cfgWalksRow : OpenClaim := { program := "ytldhllpogdikdaagreat", sum := "4197b6ee38137393ff707aab2be730ad6dc8c0cb32aafb4309b78a70fc8589c8", func := "keyhole/keyholelaw20.CfgWalks", spec := "cfgWalks", unfollowed := true, recurses := true, loops := true, apart := false }
def CfgWalksSaid : Prop := cfgWalksRow.holds Tryz.pinned (OpenSpec.ofChange cfgWalksSpec)

/-- ITS FALSE NEIGHBOUR: 'it returns false'. Refute it at one input. -/
def cfgWalksWrong : ChangeSpec := { name := "cfgWalks", fn := fun _ => fun
  | [d1, d2] => { results := [.lit (.bool false)], args := [d1, d2] }
  | _ => none }
def CfgWalksWrongFalsely : Prop := cfgWalksRow.holds Tryz.pinned (OpenSpec.ofChange cfgWalksWrong)

/-- 'keyholelaw20.CfgRuns': WHATEVER THE INPUT: true; the input reads as it did. -/
def cfgRunsSpec : ChangeSpec := { name := "cfgRuns", fn := fun _ => fun
  | [d1, d2, d3] => { results := [.lit (.bool true)], args := [d1, d2, d3] }
  | _ => none }
def cfgRunsRow : OpenClaim := { program := "ytldhllpogdikdaagreat", sum := "4197b6ee38137393ff707aab2be730ad6dc8c0cb32aafb4309b78a70fc8589c8", func := "keyhole/keyholelaw20.CfgRuns", spec := "cfgRuns", unfollowed := true, recurses := true, loops := true, apart := false }
def CfgRunsSaid : Prop := cfgRunsRow.holds Tryz.pinned (OpenSpec.ofChange cfgRunsSpec)

/-- ITS FALSE NEIGHBOUR: 'it returns false'. Refute it at one input. -/
def cfgRunsWrong : ChangeSpec := { name := "cfgRuns", fn := fun _ => fun
  | [d1, d2, d3] => { results := [.lit (.bool false)], args := [d1, d2, d3] }
  | _ => none }
def CfgRunsWrongFalsely : Prop := cfgRunsRow.holds Tryz.pinned (OpenSpec.ofChange cfgRunsWrong)

/-- 'keyholelaw20.CfgLast': WHATEVER THE INPUT: true; the input reads as it did. -/
def cfgLastSpec : ChangeSpec := { name := "cfgLast", fn := fun _ => fun
  | [d1, d2] => { results := [.lit (.bool true)], args := [d1, d2] }
  | _ => none }
def cfgLastRow : OpenClaim := { program := "ytldhllpogdikdaagreat", sum := "4197b6ee38137393ff707aab2be730ad6dc8c0cb32aafb4309b78a70fc8589c8", func := "keyhole/keyholelaw20.CfgLast", spec := "cfgLast", unfollowed := true, recurses := true, loops := true, apart := false }
def CfgLastSaid : Prop := cfgLastRow.holds Tryz.pinned (OpenSpec.ofChange cfgLastSpec)

/-- ITS FALSE NEIGHBOUR: 'it returns false'. Refute it at one input. -/
def cfgLastWrong : ChangeSpec := { name := "cfgLast", fn := fun _ => fun
  | [d1, d2] => { results := [.lit (.bool false)], args := [d1, d2] }
  | _ => none }
def CfgLastWrongFalsely : Prop := cfgLastRow.holds Tryz.pinned (OpenSpec.ofChange cfgLastWrong)

/-- 'keyholelaw20.CfgReaching': WHATEVER THE INPUT: true; the input reads as it did. -/
def cfgReachingSpec : ChangeSpec := { name := "cfgReaching", fn := fun _ => fun
  | [d1, d2] => { results := [.lit (.bool true)], args := [d1, d2] }
  | _ => none }
def cfgReachingRow : OpenClaim := { program := "ytldhllpogdikdaagreat", sum := "4197b6ee38137393ff707aab2be730ad6dc8c0cb32aafb4309b78a70fc8589c8", func := "keyhole/keyholelaw20.CfgReaching", spec := "cfgReaching", unfollowed := true, recurses := true, loops := true, apart := false }
def CfgReachingSaid : Prop := cfgReachingRow.holds Tryz.pinned (OpenSpec.ofChange cfgReachingSpec)

/-- ITS FALSE NEIGHBOUR: 'it returns false'. Refute it at one input. -/
def cfgReachingWrong : ChangeSpec := { name := "cfgReaching", fn := fun _ => fun
  | [d1, d2] => { results := [.lit (.bool false)], args := [d1, d2] }
  | _ => none }
def CfgReachingWrongFalsely : Prop := cfgReachingRow.holds Tryz.pinned (OpenSpec.ofChange cfgReachingWrong)

/-- 'keyholelaw20.CfgRounds': WHATEVER THE INPUT: true; the input reads as it did. -/
def cfgRoundsSpec : ChangeSpec := { name := "cfgRounds", fn := fun _ => fun
  | [d1, d2] => { results := [.lit (.bool true)], args := [d1, d2] }
  | _ => none }
def cfgRoundsRow : OpenClaim := { program := "ytldhllpogdikdaagreat", sum := "4197b6ee38137393ff707aab2be730ad6dc8c0cb32aafb4309b78a70fc8589c8", func := "keyhole/keyholelaw20.CfgRounds", spec := "cfgRounds", unfollowed := true, recurses := true, loops := true, apart := false }
def CfgRoundsSaid : Prop := cfgRoundsRow.holds Tryz.pinned (OpenSpec.ofChange cfgRoundsSpec)

/-- ITS FALSE NEIGHBOUR: 'it returns false'. Refute it at one input. -/
def cfgRoundsWrong : ChangeSpec := { name := "cfgRounds", fn := fun _ => fun
  | [d1, d2] => { results := [.lit (.bool false)], args := [d1, d2] }
  | _ => none }
def CfgRoundsWrongFalsely : Prop := cfgRoundsRow.holds Tryz.pinned (OpenSpec.ofChange cfgRoundsWrong)

/-- 'keyholelaw21.DominanceStructured': WHATEVER THE INPUT: true; the input reads as it did. -/
def dominanceStructuredSpec : ChangeSpec := { name := "dominanceStructured", fn := fun _ => fun
  | [d] => { results := [.lit (.bool true)], args := [d] }
  | _ => none }
def dominanceStructuredRow : OpenClaim := { program := "ytldhllpogdikdaagreat", sum := "4197b6ee38137393ff707aab2be730ad6dc8c0cb32aafb4309b78a70fc8589c8", func := "keyhole/keyholelaw21.DominanceStructured", spec := "dominanceStructured", unfollowed := true, recurses := true, loops := true, apart := false }
def DominanceStructuredSaid : Prop := dominanceStructuredRow.holds Tryz.pinned (OpenSpec.ofChange dominanceStructuredSpec)

/-- ITS FALSE NEIGHBOUR: 'it returns false'. Refute it at one input. -/
def dominanceStructuredWrong : ChangeSpec := { name := "dominanceStructured", fn := fun _ => fun
  | [d] => { results := [.lit (.bool false)], args := [d] }
  | _ => none }
def DominanceStructuredWrongFalsely : Prop := dominanceStructuredRow.holds Tryz.pinned (OpenSpec.ofChange dominanceStructuredWrong)

/-- 'keyholelaw20.CfgGraphs': WHATEVER THE INPUT: true; the input reads as it did. -/
def cfgGraphsSpec : ChangeSpec := { name := "cfgGraphs", fn := fun _ => fun
  | [d] => { results := [.lit (.bool true)], args := [d] }
  | _ => none }
def cfgGraphsRow : OpenClaim := { program := "ytldhllpogdikdaagreat", sum := "4197b6ee38137393ff707aab2be730ad6dc8c0cb32aafb4309b78a70fc8589c8", func := "keyhole/keyholelaw20.CfgGraphs", spec := "cfgGraphs", unfollowed := true, recurses := true, apart := false }
def CfgGraphsSaid : Prop := cfgGraphsRow.holds Tryz.pinned (OpenSpec.ofChange cfgGraphsSpec)

/-- ITS FALSE NEIGHBOUR: 'it returns false'. Refute it at one input. -/
def cfgGraphsWrong : ChangeSpec := { name := "cfgGraphs", fn := fun _ => fun
  | [d] => { results := [.lit (.bool false)], args := [d] }
  | _ => none }
def CfgGraphsWrongFalsely : Prop := cfgGraphsRow.holds Tryz.pinned (OpenSpec.ofChange cfgGraphsWrong)

/-- 'keyholelaw20.CfgConnected': WHATEVER THE INPUT: true; the input reads as it did. -/
def cfgConnectedSpec : ChangeSpec := { name := "cfgConnected", fn := fun _ => fun
  | [d] => { results := [.lit (.bool true)], args := [d] }
  | _ => none }
def cfgConnectedRow : OpenClaim := { program := "ytldhllpogdikdaagreat", sum := "4197b6ee38137393ff707aab2be730ad6dc8c0cb32aafb4309b78a70fc8589c8", func := "keyhole/keyholelaw20.CfgConnected", spec := "cfgConnected", unfollowed := true, recurses := true, loops := true, apart := false }
def CfgConnectedSaid : Prop := cfgConnectedRow.holds Tryz.pinned (OpenSpec.ofChange cfgConnectedSpec)

/-- ITS FALSE NEIGHBOUR: 'it returns false'. Refute it at one input. -/
def cfgConnectedWrong : ChangeSpec := { name := "cfgConnected", fn := fun _ => fun
  | [d] => { results := [.lit (.bool false)], args := [d] }
  | _ => none }
def CfgConnectedWrongFalsely : Prop := cfgConnectedRow.holds Tryz.pinned (OpenSpec.ofChange cfgConnectedWrong)

/- THE SECOND FORM. 'bulk': how many values and letters a reading holds, each counted each time it is reached (what is shared counts as often as it is met; a slice's spare places count too). A statement '..UptoSaid' is the law's where the arguments, and the package variables that the reading takes, are together of bulk at most 1048576: NARROWER than '..Said'. Prove '..Said' where nothing that the law and all that it calls make is longer than what came in: it says more and counts as full. Else prove '..UptoSaid'. A law counts once. -/
mutual
def uptoBulk {H : Type} : DataW H → Nat
  | .lit (.string bytes) => bytes.length + 1
  | .lit _ => 1
  | .nil => 1
  | .ptr d => uptoBulk d + 1
  | .slice elems spare => uptoBulkAll elems + uptoBulkAll spare + 1
  | .agg parts => uptoBulkAll parts + 1
  | .iface _ d => uptoBulk d + 1
  | .map entries => uptoBulkEntries entries + 1
  | .held _ => 1
def uptoBulkAll {H : Type} : List (DataW H) → Nat
  | [] => 0
  | d :: r => uptoBulk d + uptoBulkAll r
def uptoBulkEntries {H : Type} : List (Lit × DataW H) → Nat
  | [] => 0
  | x :: r => uptoBulkEntry x + uptoBulkEntries r
def uptoBulkEntry {H : Type} : Lit × DataW H → Nat
  | (.string bytes, d) => bytes.length + uptoBulk d + 1
  | (_, d) => uptoBulk d + 1
 end
def uptoSmall : (H : Type) → List (DataW H) → Bool := fun _ ds => decide (uptoBulkAll ds ≤ 1048576)
def OpenSpec.upto (s : _root_.Go.ChangeSpec) : _root_.Go.OpenSpec := { _root_.Go.OpenSpec.ofChange s with cond := some uptoSmall }

/-- 'keyholelaw20.CfgBuilds', WHERE WHAT IT READS IS OF BULK AT MOST 1048576: true; the input reads as it did. -/
def cfgBuildsUptoRow : OpenClaim := { program := "ytldhllpogdikdaagreat", sum := "4197b6ee38137393ff707aab2be730ad6dc8c0cb32aafb4309b78a70fc8589c8", func := "keyhole/keyholelaw20.CfgBuilds", spec := "cfgBuilds", unfollowed := true, recurses := true, loops := true, apart := false, narrowed := true }
def CfgBuildsUptoSaid : Prop := cfgBuildsUptoRow.holds Tryz.pinned (OpenSpec.upto cfgBuildsSpec)

/-- 'keyholelaw20.CfgChecks', WHERE WHAT IT READS IS OF BULK AT MOST 1048576: true; the input reads as it did. -/
def cfgChecksUptoRow : OpenClaim := { program := "ytldhllpogdikdaagreat", sum := "4197b6ee38137393ff707aab2be730ad6dc8c0cb32aafb4309b78a70fc8589c8", func := "keyhole/keyholelaw20.CfgChecks", spec := "cfgChecks", unfollowed := true, recurses := true, loops := true, apart := false, narrowed := true }
def CfgChecksUptoSaid : Prop := cfgChecksUptoRow.holds Tryz.pinned (OpenSpec.upto cfgChecksSpec)

/-- 'keyholelaw20.CfgNodes', WHERE WHAT IT READS IS OF BULK AT MOST 1048576: true; the input reads as it did. -/
def cfgNodesUptoRow : OpenClaim := { program := "ytldhllpogdikdaagreat", sum := "4197b6ee38137393ff707aab2be730ad6dc8c0cb32aafb4309b78a70fc8589c8", func := "keyhole/keyholelaw20.CfgNodes", spec := "cfgNodes", unfollowed := true, recurses := true, loops := true, apart := false, narrowed := true }
def CfgNodesUptoSaid : Prop := cfgNodesUptoRow.holds Tryz.pinned (OpenSpec.upto cfgNodesSpec)

/-- 'keyholelaw20.CfgWalks', WHERE WHAT IT READS IS OF BULK AT MOST 1048576: true; the input reads as it did. -/
def cfgWalksUptoRow : OpenClaim := { program := "ytldhllpogdikdaagreat", sum := "4197b6ee38137393ff707aab2be730ad6dc8c0cb32aafb4309b78a70fc8589c8", func := "keyhole/keyholelaw20.CfgWalks", spec := "cfgWalks", unfollowed := true, recurses := true, loops := true, apart := false, narrowed := true }
def CfgWalksUptoSaid : Prop := cfgWalksUptoRow.holds Tryz.pinned (OpenSpec.upto cfgWalksSpec)

/-- 'keyholelaw20.CfgRuns', WHERE WHAT IT READS IS OF BULK AT MOST 1048576: true; the input reads as it did. -/
def cfgRunsUptoRow : OpenClaim := { program := "ytldhllpogdikdaagreat", sum := "4197b6ee38137393ff707aab2be730ad6dc8c0cb32aafb4309b78a70fc8589c8", func := "keyhole/keyholelaw20.CfgRuns", spec := "cfgRuns", unfollowed := true, recurses := true, loops := true, apart := false, narrowed := true }
def CfgRunsUptoSaid : Prop := cfgRunsUptoRow.holds Tryz.pinned (OpenSpec.upto cfgRunsSpec)

/-- 'keyholelaw20.CfgLast', WHERE WHAT IT READS IS OF BULK AT MOST 1048576: true; the input reads as it did. -/
def cfgLastUptoRow : OpenClaim := { program := "ytldhllpogdikdaagreat", sum := "4197b6ee38137393ff707aab2be730ad6dc8c0cb32aafb4309b78a70fc8589c8", func := "keyhole/keyholelaw20.CfgLast", spec := "cfgLast", unfollowed := true, recurses := true, loops := true, apart := false, narrowed := true }
def CfgLastUptoSaid : Prop := cfgLastUptoRow.holds Tryz.pinned (OpenSpec.upto cfgLastSpec)

/-- 'keyholelaw20.CfgReaching', WHERE WHAT IT READS IS OF BULK AT MOST 1048576: true; the input reads as it did. -/
def cfgReachingUptoRow : OpenClaim := { program := "ytldhllpogdikdaagreat", sum := "4197b6ee38137393ff707aab2be730ad6dc8c0cb32aafb4309b78a70fc8589c8", func := "keyhole/keyholelaw20.CfgReaching", spec := "cfgReaching", unfollowed := true, recurses := true, loops := true, apart := false, narrowed := true }
def CfgReachingUptoSaid : Prop := cfgReachingUptoRow.holds Tryz.pinned (OpenSpec.upto cfgReachingSpec)

/-- 'keyholelaw20.CfgRounds', WHERE WHAT IT READS IS OF BULK AT MOST 1048576: true; the input reads as it did. -/
def cfgRoundsUptoRow : OpenClaim := { program := "ytldhllpogdikdaagreat", sum := "4197b6ee38137393ff707aab2be730ad6dc8c0cb32aafb4309b78a70fc8589c8", func := "keyhole/keyholelaw20.CfgRounds", spec := "cfgRounds", unfollowed := true, recurses := true, loops := true, apart := false, narrowed := true }
def CfgRoundsUptoSaid : Prop := cfgRoundsUptoRow.holds Tryz.pinned (OpenSpec.upto cfgRoundsSpec)

/-- 'keyholelaw21.DominanceStructured', WHERE WHAT IT READS IS OF BULK AT MOST 1048576: true; the input reads as it did. -/
def dominanceStructuredUptoRow : OpenClaim := { program := "ytldhllpogdikdaagreat", sum := "4197b6ee38137393ff707aab2be730ad6dc8c0cb32aafb4309b78a70fc8589c8", func := "keyhole/keyholelaw21.DominanceStructured", spec := "dominanceStructured", unfollowed := true, recurses := true, loops := true, apart := false, narrowed := true }
def DominanceStructuredUptoSaid : Prop := dominanceStructuredUptoRow.holds Tryz.pinned (OpenSpec.upto dominanceStructuredSpec)

/-- 'keyholelaw20.CfgGraphs', WHERE WHAT IT READS IS OF BULK AT MOST 1048576: true; the input reads as it did. -/
def cfgGraphsUptoRow : OpenClaim := { program := "ytldhllpogdikdaagreat", sum := "4197b6ee38137393ff707aab2be730ad6dc8c0cb32aafb4309b78a70fc8589c8", func := "keyhole/keyholelaw20.CfgGraphs", spec := "cfgGraphs", unfollowed := true, recurses := true, apart := false, narrowed := true }
def CfgGraphsUptoSaid : Prop := cfgGraphsUptoRow.holds Tryz.pinned (OpenSpec.upto cfgGraphsSpec)

/-- 'keyholelaw20.CfgConnected', WHERE WHAT IT READS IS OF BULK AT MOST 1048576: true; the input reads as it did. -/
def cfgConnectedUptoRow : OpenClaim := { program := "ytldhllpogdikdaagreat", sum := "4197b6ee38137393ff707aab2be730ad6dc8c0cb32aafb4309b78a70fc8589c8", func := "keyhole/keyholelaw20.CfgConnected", spec := "cfgConnected", unfollowed := true, recurses := true, loops := true, apart := false, narrowed := true }
def CfgConnectedUptoSaid : Prop := cfgConnectedUptoRow.holds Tryz.pinned (OpenSpec.upto cfgConnectedSpec)

end Rows
end Go.Proofs.YtldhllpogdikdaaGreat

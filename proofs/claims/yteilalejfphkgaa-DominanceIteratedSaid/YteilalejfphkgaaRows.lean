/-
  No cell of these rows narrows 'for every input' (looked for: loops, veiled, ifaces, maps, wideKeys, modest, calm, conditions, laid).
  DERIVED. THE GIVEN ROWS OF THIS SEAT. 7 by the template 'for every input the law returns true; each argument reads behind the call as it read before'; 0 by the template 'total and deterministic' (their statements: YteilalejfphkgaaTotals.lean).
  GIVEN WITH THE SEED: the statements are not yours to turn. If you find one false, say at which input.
  Laid BY PROGRAM, IN A SANDBOX (cutbox-rows.mjs): the forced cells as the released guide's own fill.sh prints them over the translation edf85f600de80035… (all of the seat's roots in one cut). By AI agents, Wed Nov 11 2026. No macro, syntax, notation, axiom, sorry.
-/
import Derived.Test.YteilalejfphkgaaChecked
import GoSem.Claim
import GoSem.ClaimJoined
import GoSem.ClaimMapViews
import Derived.JoinedTies
import Derived.KernelRfl
namespace Go.Proofs.Yteilalejfphkgaa
/- THE CELL 'sum', in the pinned program and in every row, IS THE sha256 OF THE DUMP (.gsa) THAT YteilalejfphkgaaProg.lean LOADS. Nothing in Lean hashes anything: it is a label: what it is worth is what the hold of that sum in a sandbox is worth. -/
noncomputable def Try.pinned : Pinned := { name := "yteilalejfphkgaa", sum := "edf85f600de800351ecb0731377661b5903705d0b2254f6f2f74ad9248614939", checked := Try.checked }
namespace Rows
def none {H : Type} : Left H := { results := [], args := [] }

/-- 'keyholelaw21.DominanceTree': WHATEVER THE INPUT: true; the input reads as it did. -/
def dominanceTreeSpec : ChangeSpec := { name := "dominanceTree", fn := fun _ => fun
  | [d1, d2] => { results := [.lit (.bool true)], args := [d1, d2] }
  | _ => none }
def dominanceTreeRow : OpenClaim := { program := "yteilalejfphkgaa", sum := "edf85f600de800351ecb0731377661b5903705d0b2254f6f2f74ad9248614939", func := "keyhole/keyholelaw21.DominanceTree", spec := "dominanceTree", unfollowed := true, recurses := true, apart := false }
def DominanceTreeSaid : Prop := dominanceTreeRow.holds Try.pinned (OpenSpec.ofChange dominanceTreeSpec)

/-- ITS FALSE NEIGHBOUR: 'it returns false'. Refute it at one input. -/
def dominanceTreeWrong : ChangeSpec := { name := "dominanceTree", fn := fun _ => fun
  | [d1, d2] => { results := [.lit (.bool false)], args := [d1, d2] }
  | _ => none }
def DominanceTreeWrongFalsely : Prop := dominanceTreeRow.holds Try.pinned (OpenSpec.ofChange dominanceTreeWrong)

/-- 'keyholelaw21.DominanceFrontiers': WHATEVER THE INPUT: true; the input reads as it did. -/
def dominanceFrontiersSpec : ChangeSpec := { name := "dominanceFrontiers", fn := fun _ => fun
  | [d1, d2] => { results := [.lit (.bool true)], args := [d1, d2] }
  | _ => none }
def dominanceFrontiersRow : OpenClaim := { program := "yteilalejfphkgaa", sum := "edf85f600de800351ecb0731377661b5903705d0b2254f6f2f74ad9248614939", func := "keyhole/keyholelaw21.DominanceFrontiers", spec := "dominanceFrontiers", unfollowed := true, recurses := true, apart := false }
def DominanceFrontiersSaid : Prop := dominanceFrontiersRow.holds Try.pinned (OpenSpec.ofChange dominanceFrontiersSpec)

/-- ITS FALSE NEIGHBOUR: 'it returns false'. Refute it at one input. -/
def dominanceFrontiersWrong : ChangeSpec := { name := "dominanceFrontiers", fn := fun _ => fun
  | [d1, d2] => { results := [.lit (.bool false)], args := [d1, d2] }
  | _ => none }
def DominanceFrontiersWrongFalsely : Prop := dominanceFrontiersRow.holds Try.pinned (OpenSpec.ofChange dominanceFrontiersWrong)

/-- 'keyholelaw21.DominancePost': WHATEVER THE INPUT: true; the input reads as it did. -/
def dominancePostSpec : ChangeSpec := { name := "dominancePost", fn := fun _ => fun
  | [d1, d2] => { results := [.lit (.bool true)], args := [d1, d2] }
  | _ => none }
def dominancePostRow : OpenClaim := { program := "yteilalejfphkgaa", sum := "edf85f600de800351ecb0731377661b5903705d0b2254f6f2f74ad9248614939", func := "keyhole/keyholelaw21.DominancePost", spec := "dominancePost", unfollowed := true, recurses := true, apart := false }
def DominancePostSaid : Prop := dominancePostRow.holds Try.pinned (OpenSpec.ofChange dominancePostSpec)

/-- ITS FALSE NEIGHBOUR: 'it returns false'. Refute it at one input. -/
def dominancePostWrong : ChangeSpec := { name := "dominancePost", fn := fun _ => fun
  | [d1, d2] => { results := [.lit (.bool false)], args := [d1, d2] }
  | _ => none }
def DominancePostWrongFalsely : Prop := dominancePostRow.holds Try.pinned (OpenSpec.ofChange dominancePostWrong)

/-- 'keyholelaw21.DominanceWalks': WHATEVER THE INPUT: true; the input reads as it did. -/
def dominanceWalksSpec : ChangeSpec := { name := "dominanceWalks", fn := fun _ => fun
  | [d1, d2, d3] => { results := [.lit (.bool true)], args := [d1, d2, d3] }
  | _ => none }
def dominanceWalksRow : OpenClaim := { program := "yteilalejfphkgaa", sum := "edf85f600de800351ecb0731377661b5903705d0b2254f6f2f74ad9248614939", func := "keyhole/keyholelaw21.DominanceWalks", spec := "dominanceWalks", unfollowed := true, recurses := true, apart := false }
def DominanceWalksSaid : Prop := dominanceWalksRow.holds Try.pinned (OpenSpec.ofChange dominanceWalksSpec)

/-- ITS FALSE NEIGHBOUR: 'it returns false'. Refute it at one input. -/
def dominanceWalksWrong : ChangeSpec := { name := "dominanceWalks", fn := fun _ => fun
  | [d1, d2, d3] => { results := [.lit (.bool false)], args := [d1, d2, d3] }
  | _ => none }
def DominanceWalksWrongFalsely : Prop := dominanceWalksRow.holds Try.pinned (OpenSpec.ofChange dominanceWalksWrong)

/-- 'keyholelaw21.DominanceChecked': WHATEVER THE INPUT: true; the input reads as it did. -/
def dominanceCheckedSpec : ChangeSpec := { name := "dominanceChecked", fn := fun _ => fun
  | [d1, d2, d3] => { results := [.lit (.bool true)], args := [d1, d2, d3] }
  | _ => none }
def dominanceCheckedRow : OpenClaim := { program := "yteilalejfphkgaa", sum := "edf85f600de800351ecb0731377661b5903705d0b2254f6f2f74ad9248614939", func := "keyhole/keyholelaw21.DominanceChecked", spec := "dominanceChecked", unfollowed := true, recurses := true, apart := false }
def DominanceCheckedSaid : Prop := dominanceCheckedRow.holds Try.pinned (OpenSpec.ofChange dominanceCheckedSpec)

/-- ITS FALSE NEIGHBOUR: 'it returns false'. Refute it at one input. -/
def dominanceCheckedWrong : ChangeSpec := { name := "dominanceChecked", fn := fun _ => fun
  | [d1, d2, d3] => { results := [.lit (.bool false)], args := [d1, d2, d3] }
  | _ => none }
def DominanceCheckedWrongFalsely : Prop := dominanceCheckedRow.holds Try.pinned (OpenSpec.ofChange dominanceCheckedWrong)

/-- 'keyholelaw21.DominancePaths': WHATEVER THE INPUT: true; the input reads as it did. -/
def dominancePathsSpec : ChangeSpec := { name := "dominancePaths", fn := fun _ => fun
  | [d1, d2] => { results := [.lit (.bool true)], args := [d1, d2] }
  | _ => none }
def dominancePathsRow : OpenClaim := { program := "yteilalejfphkgaa", sum := "edf85f600de800351ecb0731377661b5903705d0b2254f6f2f74ad9248614939", func := "keyhole/keyholelaw21.DominancePaths", spec := "dominancePaths", unfollowed := true, recurses := true, apart := false }
def DominancePathsSaid : Prop := dominancePathsRow.holds Try.pinned (OpenSpec.ofChange dominancePathsSpec)

/-- ITS FALSE NEIGHBOUR: 'it returns false'. Refute it at one input. -/
def dominancePathsWrong : ChangeSpec := { name := "dominancePaths", fn := fun _ => fun
  | [d1, d2] => { results := [.lit (.bool false)], args := [d1, d2] }
  | _ => none }
def DominancePathsWrongFalsely : Prop := dominancePathsRow.holds Try.pinned (OpenSpec.ofChange dominancePathsWrong)

/-- 'keyholelaw21.DominanceIterated': WHATEVER THE INPUT: true; the input reads as it did. -/
def dominanceIteratedSpec : ChangeSpec := { name := "dominanceIterated", fn := fun _ => fun
  | [d1, d2, d3] => { results := [.lit (.bool true)], args := [d1, d2, d3] }
  | _ => none }
def dominanceIteratedRow : OpenClaim := { program := "yteilalejfphkgaa", sum := "edf85f600de800351ecb0731377661b5903705d0b2254f6f2f74ad9248614939", func := "keyhole/keyholelaw21.DominanceIterated", spec := "dominanceIterated", unfollowed := true, recurses := true, apart := false }
def DominanceIteratedSaid : Prop := dominanceIteratedRow.holds Try.pinned (OpenSpec.ofChange dominanceIteratedSpec)

/-- ITS FALSE NEIGHBOUR: 'it returns false'. Refute it at one input. -/
def dominanceIteratedWrong : ChangeSpec := { name := "dominanceIterated", fn := fun _ => fun
  | [d1, d2, d3] => { results := [.lit (.bool false)], args := [d1, d2, d3] }
  | _ => none }
def DominanceIteratedWrongFalsely : Prop := dominanceIteratedRow.holds Try.pinned (OpenSpec.ofChange dominanceIteratedWrong)

/- THE SECOND FORM. 'bulk': how many values and letters a reading holds, each counted each time it is reached (what is shared counts as often as it is met; a slice's spare places count too). A statement '..UptoSaid' is the law's where the arguments, and the package variables that the reading takes, are together of bulk at most 1048576: NARROWER than '..Said'. Prove '..Said' where nothing that the law and all that it calls make is longer than what came in: it says more and counts as full. Else prove '..UptoSaid'. A law counts once. -/
mutual
def uptoBulk {H : Type} : DataW H → Nat
  | .lit (.string bytes) => bytes.length + 1
  | .lit _ => 1
  | .nil => 1
  | .ptr d => uptoBulk d + 1
  | .slice elems spare => uptoBulkAll elems + uptoBulkAll spare + 1
  | .agg parts => uptoBulkAll parts + 1
  | .iface _ d => uptoBulk d + 1
  | .map entries => uptoBulkEntries entries + 1
  | .held _ => 1
def uptoBulkAll {H : Type} : List (DataW H) → Nat
  | [] => 0
  | d :: r => uptoBulk d + uptoBulkAll r
def uptoBulkEntries {H : Type} : List (Lit × DataW H) → Nat
  | [] => 0
  | x :: r => uptoBulkEntry x + uptoBulkEntries r
def uptoBulkEntry {H : Type} : Lit × DataW H → Nat
  | (.string bytes, d) => bytes.length + uptoBulk d + 1
  | (_, d) => uptoBulk d + 1
 end
def uptoSmall : (H : Type) → List (DataW H) → Bool := fun _ ds => decide (uptoBulkAll ds ≤ 1048576)
def OpenSpec.upto (s : _root_.Go.ChangeSpec) : _root_.Go.OpenSpec := { _root_.Go.OpenSpec.ofChange s with cond := some uptoSmall }

/-- 'keyholelaw21.DominanceTree', WHERE WHAT IT READS IS OF BULK AT MOST 1048576: true; the input reads as it did. -/
def dominanceTreeUptoRow : OpenClaim := { program := "yteilalejfphkgaa", sum := "edf85f600de800351ecb0731377661b5903705d0b2254f6f2f74ad9248614939", func := "keyhole/keyholelaw21.DominanceTree", spec := "dominanceTree", unfollowed := true, recurses := true, apart := false, narrowed := true }
def DominanceTreeUptoSaid : Prop := dominanceTreeUptoRow.holds Try.pinned (OpenSpec.upto dominanceTreeSpec)

/-- 'keyholelaw21.DominanceFrontiers', WHERE WHAT IT READS IS OF BULK AT MOST 1048576: true; the input reads as it did. -/
def dominanceFrontiersUptoRow : OpenClaim := { program := "yteilalejfphkgaa", sum := "edf85f600de800351ecb0731377661b5903705d0b2254f6f2f74ad9248614939", func := "keyhole/keyholelaw21.DominanceFrontiers", spec := "dominanceFrontiers", unfollowed := true, recurses := true, apart := false, narrowed := true }
def DominanceFrontiersUptoSaid : Prop := dominanceFrontiersUptoRow.holds Try.pinned (OpenSpec.upto dominanceFrontiersSpec)

/-- 'keyholelaw21.DominancePost', WHERE WHAT IT READS IS OF BULK AT MOST 1048576: true; the input reads as it did. -/
def dominancePostUptoRow : OpenClaim := { program := "yteilalejfphkgaa", sum := "edf85f600de800351ecb0731377661b5903705d0b2254f6f2f74ad9248614939", func := "keyhole/keyholelaw21.DominancePost", spec := "dominancePost", unfollowed := true, recurses := true, apart := false, narrowed := true }
def DominancePostUptoSaid : Prop := dominancePostUptoRow.holds Try.pinned (OpenSpec.upto dominancePostSpec)

/-- 'keyholelaw21.DominanceWalks', WHERE WHAT IT READS IS OF BULK AT MOST 1048576: true; the input reads as it did. -/
def dominanceWalksUptoRow : OpenClaim := { program := "yteilalejfphkgaa", sum := "edf85f600de800351ecb0731377661b5903705d0b2254f6f2f74ad9248614939", func := "keyhole/keyholelaw21.DominanceWalks", spec := "dominanceWalks", unfollowed := true, recurses := true, apart := false, narrowed := true }
def DominanceWalksUptoSaid : Prop := dominanceWalksUptoRow.holds Try.pinned (OpenSpec.upto dominanceWalksSpec)

/-- 'keyholelaw21.DominanceChecked', WHERE WHAT IT READS IS OF BULK AT MOST 1048576: true; the input reads as it did. -/
def dominanceCheckedUptoRow : OpenClaim := { program := "yteilalejfphkgaa", sum := "edf85f600de800351ecb0731377661b5903705d0b2254f6f2f74ad9248614939", func := "keyhole/keyholelaw21.DominanceChecked", spec := "dominanceChecked", unfollowed := true, recurses := true, apart := false, narrowed := true }
def DominanceCheckedUptoSaid : Prop := dominanceCheckedUptoRow.holds Try.pinned (OpenSpec.upto dominanceCheckedSpec)

/-- 'keyholelaw21.DominancePaths', WHERE WHAT IT READS IS OF BULK AT MOST 1048576: true; the input reads as it did. -/
def dominancePathsUptoRow : OpenClaim := { program := "yteilalejfphkgaa", sum := "edf85f600de800351ecb0731377661b5903705d0b2254f6f2f74ad9248614939", func := "keyhole/keyholelaw21.DominancePaths", spec := "dominancePaths", unfollowed := true, recurses := true, apart := false, narrowed := true }
def DominancePathsUptoSaid : Prop := dominancePathsUptoRow.holds Try.pinned (OpenSpec.upto dominancePathsSpec)

/-- 'keyholelaw21.DominanceIterated', WHERE WHAT IT READS IS OF BULK AT MOST 1048576: true; the input reads as it did. -/
def dominanceIteratedUptoRow : OpenClaim := { program := "yteilalejfphkgaa", sum := "edf85f600de800351ecb0731377661b5903705d0b2254f6f2f74ad9248614939", func := "keyhole/keyholelaw21.DominanceIterated", spec := "dominanceIterated", unfollowed := true, recurses := true, apart := false, narrowed := true }
def DominanceIteratedUptoSaid : Prop := dominanceIteratedUptoRow.holds Try.pinned (OpenSpec.upto dominanceIteratedSpec)

end Rows
end Go.Proofs.Yteilalejfphkgaa

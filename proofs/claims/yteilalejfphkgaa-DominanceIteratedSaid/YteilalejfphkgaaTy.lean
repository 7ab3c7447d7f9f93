/-
  The element types of the slices of this program: the rows of its table. Printed by a program. Nothing here is a claim.
-/
import Derived.Test.YteilalejfphkgaaProg
import Derived.KernelRfl
namespace Go.Proofs
theorem Try.el3 : (Try.prog.info? 3).map (fun i => (i.zero, i.size, i.bytes)) = some (some ((Value.int IntKind.i64 0)), 1, 8) := by kernel_rfl
theorem Try.el4 : (Try.prog.info? 4).map (fun i => (i.zero, i.size, i.bytes)) = some (some ((Value.bool false)), 1, 1) := by kernel_rfl
theorem Try.el27 : (Try.prog.info? 27).map (fun i => (i.zero, i.size, i.bytes)) = some (some ((Value.slice none 0 0)), 1, 24) := by kernel_rfl
theorem Try.el49 : (Try.prog.info? 49).map (fun i => (i.zero, i.size, i.bytes)) = some (some ((Value.agg #[Value.int IntKind.i64 0, Value.int IntKind.i64 0])), 2, 16) := by kernel_rfl
theorem Try.el53 : (Try.prog.info? 53).map (fun i => (i.zero, i.size, i.bytes)) = some (some ((Value.slice none 0 0)), 1, 24) := by kernel_rfl
theorem Try.el82 : (Try.prog.info? 82).map (fun i => (i.zero, i.size, i.bytes)) = some (some ((Value.agg #[Value.int IntKind.i64 0, Value.int IntKind.i64 0])), 2, 16) := by kernel_rfl
end Go.Proofs

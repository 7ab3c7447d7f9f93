/-
  DERIVED: THE SHELF's CONTRACTS AT THIS DUMP, IN PLAIN WORDS (tools/lay-plain.mjs out of 'TryShelf.lean', which tools/lay-shelf.mjs wrote): THE SAME DECLARATIONS UNDER THE SAME NAMES: 'import', 'namespace', 'open', 'def', 'theorem' AND NOTHING ELSE: no command of the shelf's: FOR A HAND-IN. Each laying: the table of numbers ('.._ren') and one theorem, a field a fact of the dump's own or the kernel's comparison; each contract: ONE APPLICATION.
-/
import Derived.Shelf.Sort.Plain
import Derived.Shelf.Slices.In.SortNone
import Derived.Ground.NamesProg
import Derived.Ground.SlsfProg
import Derived.Shelf.SlSortCmp.WholeK
import Derived.Shelf.SlSortCmp.NoneTotal
import Derived.Test.YteilalejfphkgaaProg
namespace Go.Proofs
open Go.Shelf
def Try.lays189_ren : Go.Shelf.Ren := ⟨fun | 189 => 41 | 125 => 51 | 257 => 54 | 128 => 69 | 129 => 70 | 294 => 72 | 295 => 73 | 296 => 74 | 297 => 75 | 298 => 76 | 299 => 77 | 216 => 78 | 300 => 79 | 301 => 80 | 328 => 90 | 329 => 86 | 330 => 87 | 331 => 91 | 332 => 92 | 215 => 71 | 343 => 94 | n => n, fun | 28 => 27 | 3 => 3 | 46 => 76 | 0 => 0 | 51 => 96 | 53 => 98 | 4 => 4 | 183 => 89 | 182 => 88 | 131 => 93 | 5 => 5 | 9 => 9 | 218 => 106 | 222 => 110 | 228 => 114 | 229 => 115 | n => n, fun | n => n⟩
theorem Try.lays189 : Go.Proofs.Lays.n189 Try.prog Try.lays189_ren := {
  mixed := by kernel_rfl
  f125 := Try.func51.trans (congrArg some (by kernel_rfl))
  f128 := Try.func69.trans (congrArg some (by kernel_rfl))
  f129 := Try.func70.trans (congrArg some (by kernel_rfl))
  f189 := Try.func41.trans (congrArg some (by kernel_rfl))
  f215 := Try.func71.trans (congrArg some (by kernel_rfl))
  f216 := Try.func78.trans (congrArg some (by kernel_rfl))
  f257 := Try.func54.trans (congrArg some (by kernel_rfl))
  f294 := Try.func72.trans (congrArg some (by kernel_rfl))
  f295 := Try.func73.trans (congrArg some (by kernel_rfl))
  f296 := Try.func74.trans (congrArg some (by kernel_rfl))
  f297 := Try.func75.trans (congrArg some (by kernel_rfl))
  f298 := Try.func76.trans (congrArg some (by kernel_rfl))
  f299 := Try.func77.trans (congrArg some (by kernel_rfl))
  f300 := Try.func79.trans (congrArg some (by kernel_rfl))
  f301 := Try.func80.trans (congrArg some (by kernel_rfl))
  f328 := Try.func90.trans (congrArg some (by kernel_rfl))
  f329 := Try.func86.trans (congrArg some (by kernel_rfl))
  f330 := Try.func87.trans (congrArg some (by kernel_rfl))
  f331 := Try.func91.trans (congrArg some (by kernel_rfl))
  f332 := Try.func92.trans (congrArg some (by kernel_rfl))
  f343 := Try.func94.trans (congrArg some (by kernel_rfl))
  t0 := Try.underlying0
  a0 := Try.isAgg0
  z0 := Try.sizeOf0
  v0 := Try.zeroValue0
  t3 := Try.underlying3
  a3 := Try.isAgg3
  z3 := Try.sizeOf3
  v3 := Try.zeroValue3
  t4 := Try.underlying4
  a4 := Try.isAgg4
  z4 := Try.sizeOf4
  v4 := Try.zeroValue4
  t5 := Try.underlying5
  a5 := Try.isAgg5
  z5 := Try.sizeOf5
  v5 := Try.zeroValue5
  t9 := Try.underlying9
  a9 := Try.isAgg9
  z9 := Try.sizeOf9
  v9 := Try.zeroValue9
  t28 := Try.underlying27
  a28 := Try.isAgg27
  z28 := Try.sizeOf27
  v28 := Try.zeroValue27
  t46 := Try.underlying76
  a46 := Try.isAgg76
  z46 := Try.sizeOf76
  v46 := Try.zeroValue76
  t51 := Try.underlying96
  a51 := Try.isAgg96
  z51 := Try.sizeOf96
  v51 := Try.zeroValue96
  t53 := Try.underlying98
  a53 := Try.isAgg98
  z53 := Try.sizeOf98
  v53 := Try.zeroValue98
  t131 := Try.underlying93
  a131 := Try.isAgg93
  z131 := Try.sizeOf93
  v131 := Try.zeroValue93
  t182 := Try.underlying88
  a182 := Try.isAgg88
  z182 := Try.sizeOf88
  v182 := Try.zeroValue88
  t183 := Try.underlying89
  a183 := Try.isAgg89
  z183 := Try.sizeOf89
  v183 := Try.zeroValue89
  t218 := Try.underlying106
  a218 := Try.isAgg106
  z218 := Try.sizeOf106
  v218 := Try.zeroValue106
  t222 := Try.underlying110
  a222 := Try.isAgg110
  z222 := Try.sizeOf110
  v222 := Try.zeroValue110
  t228 := Try.underlying114
  a228 := Try.isAgg114
  z228 := Try.sizeOf114
  v228 := Try.zeroValue114
  t229 := Try.underlying115
  a229 := Try.isAgg115
  z229 := Try.sizeOf115
  v229 := Try.zeroValue115 }
open Go.Sort Go.RowKit in
theorem Try.slices_Sort_int (blk off cap : Nat) (zs : List Int) (w : World) (hH : Holds (Value.int .i64) w blk off zs.toArray) (hblk : blk < w.heap.size) (hsz : zs.length < 4611686018427387904) :
    Calls Try.prog 41 #[.slice (some ⟨blk, off, none⟩) zs.length cap] w fun e w' =>
      e = .returned (.tuple #[]) ∧ ∃ n os, w' = grow (putRow (Value.int .i64) (Sort.ahead w n) blk off (zs.mergeSort fun x y => decide (x ≤ y)).toArray) os := Any.slices_Sort_int Try.lays189 blk off cap zs w hH hblk hsz
open Go.RowKit Go.Sort in
/-- .. and plain. (LAID: no walk: one application.) -/
theorem Try.slices_Sort_int_none (p : Option Addr) (cap : Nat) (w : World) :
    Calls Try.prog 41 #[.slice p 0 cap] w fun e w' => e = .returned (.tuple #[]) ∧ w' = w := Any.slices_Sort_int_none Try.lays189 p cap w
def Try.laysSlF06_f33_ren : Go.Shelf.Ren := ⟨fun | 6 => 33 | 15 => 51 | 14 => 50 | 28 => 69 | 29 => 70 | 20 => 61 | 21 => 62 | 22 => 63 | 23 => 64 | 24 => 65 | 25 => 66 | 26 => 67 | 27 => 68 | 46 => 85 | 47 => 86 | 48 => 87 | 49 => 88 | 50 => 89 | 57 => 93 | n => n, fun | 22 => 22 | 24 => 49 | 25 => 65 | 3 => 3 | 39 => 76 | 0 => 0 | 53 => 96 | 55 => 98 | 4 => 4 | 46 => 89 | 45 => 88 | 50 => 93 | 5 => 5 | 9 => 9 | 66 => 106 | 70 => 110 | 76 => 114 | 77 => 115 | n => n, fun | n => n⟩
theorem Try.laysSlF06_f33 : Go.Proofs.SlLaysF0.n6 Try.prog Try.laysSlF06_f33_ren := {
  mixed := by kernel_rfl
  f6 := ⟨Try.f33.name, by decide, Try.func33.trans (congrArg some (by kernel_rfl))⟩
  f14 := ⟨Try.f50.name, by decide, Try.func50.trans (congrArg some (by kernel_rfl))⟩
  f15 := Try.func51.trans (congrArg some (by kernel_rfl))
  f20 := ⟨Try.f61.name, by decide, Try.func61.trans (congrArg some (by kernel_rfl))⟩
  f21 := ⟨Try.f62.name, by decide, Try.func62.trans (congrArg some (by kernel_rfl))⟩
  f22 := ⟨Try.f63.name, by decide, Try.func63.trans (congrArg some (by kernel_rfl))⟩
  f23 := ⟨Try.f64.name, by decide, Try.func64.trans (congrArg some (by kernel_rfl))⟩
  f24 := ⟨Try.f65.name, by decide, Try.func65.trans (congrArg some (by kernel_rfl))⟩
  f25 := ⟨Try.f66.name, by decide, Try.func66.trans (congrArg some (by kernel_rfl))⟩
  f26 := ⟨Try.f67.name, by decide, Try.func67.trans (congrArg some (by kernel_rfl))⟩
  f27 := ⟨Try.f68.name, by decide, Try.func68.trans (congrArg some (by kernel_rfl))⟩
  f28 := Try.func69.trans (congrArg some (by kernel_rfl))
  f29 := Try.func70.trans (congrArg some (by kernel_rfl))
  f46 := ⟨Try.f85.name, by decide, Try.func85.trans (congrArg some (by kernel_rfl))⟩
  f47 := Try.func86.trans (congrArg some (by kernel_rfl))
  f48 := Try.func87.trans (congrArg some (by kernel_rfl))
  f49 := ⟨Try.f88.name, by decide, Try.func88.trans (congrArg some (by kernel_rfl))⟩
  f50 := ⟨Try.f89.name, by decide, Try.func89.trans (congrArg some (by kernel_rfl))⟩
  f57 := ⟨Try.f93.name, by decide, Try.func93.trans (congrArg some (by kernel_rfl))⟩
  t0 := Try.underlying0
  a0 := Try.isAgg0
  z0 := Try.sizeOf0
  v0 := Try.zeroValue0
  t3 := Try.underlying3
  a3 := Try.isAgg3
  z3 := Try.sizeOf3
  v3 := Try.zeroValue3
  t4 := Try.underlying4
  a4 := Try.isAgg4
  z4 := Try.sizeOf4
  v4 := Try.zeroValue4
  t5 := Try.underlying5
  a5 := Try.isAgg5
  z5 := Try.sizeOf5
  v5 := Try.zeroValue5
  t9 := Try.underlying9
  a9 := Try.isAgg9
  z9 := Try.sizeOf9
  v9 := Try.zeroValue9
  t22 := Try.underlying22
  a22 := Try.isAgg22
  z22 := Try.sizeOf22
  v22 := Try.zeroValue22
  t25 := Try.underlying65
  a25 := Try.isAgg65
  z25 := Try.sizeOf65
  v25 := Try.zeroValue65
  t39 := Try.underlying76
  a39 := Try.isAgg76
  z39 := Try.sizeOf76
  v39 := Try.zeroValue76
  t45 := Try.underlying88
  a45 := Try.isAgg88
  z45 := Try.sizeOf88
  v45 := Try.zeroValue88
  t46 := Try.underlying89
  a46 := Try.isAgg89
  z46 := Try.sizeOf89
  v46 := Try.zeroValue89
  t50 := Try.underlying93
  a50 := Try.isAgg93
  z50 := Try.sizeOf93
  v50 := Try.zeroValue93
  t53 := Try.underlying96
  a53 := Try.isAgg96
  z53 := Try.sizeOf96
  v53 := Try.zeroValue96
  t55 := Try.underlying98
  a55 := Try.isAgg98
  z55 := Try.sizeOf98
  v55 := Try.zeroValue98
  t66 := Try.underlying106
  a66 := Try.isAgg106
  z66 := Try.sizeOf106
  v66 := Try.zeroValue106
  t70 := Try.underlying110
  a70 := Try.isAgg110
  z70 := Try.sizeOf110
  v70 := Try.zeroValue110
  t76 := Try.underlying114
  a76 := Try.isAgg114
  z76 := Try.sizeOf114
  v76 := Try.zeroValue114
  t77 := Try.underlying115
  a77 := Try.isAgg115
  z77 := Try.sizeOf115
  v77 := Try.zeroValue115 }
open Go.RowKit Go.Lib Go.Sort in
/-- **slices.SortFunc, IN THE DOCUMENTATION's OWN TERMS: A PERMUTATION OF WHAT THE ROW HELD, SORTED BY 'cmp(a, b) < 0'.** Which of two equals comes first is left open ("The sort is not guaranteed to be stable"). (LAID AT THE INSTANCE 'slices.SortFunc[[][2]int,[2]int]': no walk: one application.) -/
theorem Try.slices_SortFunc {α : Type} [Inhabited α] (k : Nat) (aE : ∀ w, (isAgg 49).run Try.prog w = .ok true w) (zE : ∀ w, (Go.sizeOf 49).run Try.prog w = .ok k w) (enc : α → List Value) (hk : ∀ x, (enc x).length = k) (h1 : ∀ x, ∀ v ∈ enc x, v.oneCell' = true) (cf : α → α → Int) (hO : SWO (ltOf cf)) (g : Nat) (cb : Array Value) (blk off cap : Nat) (d : Array α) (w : World) (eg : ∀ args w, (callFunc g args).run Try.prog w = .ok (.enter g args) w) (hcmp : CmpLays Try.prog g cb enc k cf blk off d.size w) (hH : HoldsK enc k w blk off d) (hblk : blk < w.heap.size) (hsz : d.size < 4611686018427387904) :
    Calls Try.prog 33 #[.slice (some ⟨blk, off, none⟩) d.size cap, .func (.func g) #[] cb] w fun e w' =>
      e = .returned (.tuple #[]) ∧ ∃ d' n os, PermIn 0 d.size d d' ∧ SortedIn (ltOf cf) 0 d.size d' ∧ w' = sortWorldK enc k w blk off n d' os := AnyQ.slices_SortFunc Try.laysSlF06_f33 k aE zE enc hk h1 cf hO g cb blk off cap d w eg hcmp hH hblk hsz
end Go.Proofs

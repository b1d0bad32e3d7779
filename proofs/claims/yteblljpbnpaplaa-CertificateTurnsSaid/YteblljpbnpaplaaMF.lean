/- DERIVED: THE SHELF's CONTRACTS AT THIS DUMP, IN PLAIN WORDS (tools/lay-plain.mjs out of 'TryShelf.lean', which tools/lay-shelf.mjs wrote): THE SAME DECLARATIONS UNDER THE SAME NAMES: 'import', 'namespace', 'open', 'def', 'theorem' AND NOTHING ELSE: no command of the shelf's: FOR A HAND-IN. Each laying: the table of numbers ('.._ren') and one theorem, a field a fact of the dump's own or the kernel's comparison; each contract: ONE APPLICATION.; DERIVED: THE SHELF's CONTRACTS AT THIS DUMP, IN PLAIN WORDS (tools/lay-plain.mjs out of 'TryShelfD.lean', which tools/lay-shelf.mjs wrote): THE SAME DECLARATIONS UNDER THE SAME NAMES: 'import', 'namespace', 'open', 'def', 'theorem' AND NOTHING ELSE: no command of the shelf's: FOR A HAND-IN. Each laying: the table of numbers ('.._ren') and one theorem, a field a fact of the dump's own or the kernel's comparison; each contract: ONE APPLICATION.; Chapter 17: the places of nodes, in plain terms; Sorting: what a sort of a row of numbers does to the abstract heap; Chapter 17: the nodes' sort; Chapter 17: Places; Chapter 21: the comparison of dependencies; Chapter 21: slices.SortedFunc over the keys of a map of dependencies; Chapter 21: slices.SortedFunc over the keys of a map of dependencies, whole; Chapter 21: channel.Union. Conditions: none. -/
import Derived.Test.YteblljpbnpaplaaME
import Derived.Shelf.Small.Bits
import Derived.Shelf.Strconv.Itoa0
import Derived.Shelf.Slices.Reverse
import Derived.Shelf.Slices.Equal
import Derived.Ground.Names2Prog
import Derived.Shelf.Slices.Clone
import Derived.Shelf.Slices.SearchI
import Derived.Shelf.Slices.Cells
import Derived.Shelf.Slices.Empties2
import Derived.Ground.SlgnProg
import Derived.Shelf.SlicesE.Clone
import Derived.Ground.SlsfProg
import Derived.Shelf.SlSortCmp.Insertion
import Derived.Shelf.SlSortCmp.SiftDown1
import Derived.Shelf.SlSortCmp.HeapSort1
import Derived.Shelf.SlSortCmp.Insertion1
import Derived.Shelf.SlSortCmp.Median1
import Derived.Shelf.SlSortCmp.Pivot1
import Derived.Shelf.SlSortCmp.ReverseRange1
import Derived.Shelf.SlSortCmp.PartialInsertion1
import Derived.Shelf.SlSortCmp.PartitionEqual1
import Derived.Shelf.SlSortCmp.Partition1
import Derived.Shelf.SlSortCmp.Pdq1
import Derived.Shelf.SlSortCmp.Whole1
import Derived.Shelf.SlSortCmp.NoneTotal
import Derived.Test.YteblljpbnpaplaaProg
import Derived.Shelf.SlSortCmp.WholeK
namespace Go.Proofs
open Go.Shelf
def Try.laysSlF6_f57_ren : Go.Shelf.Ren := ⟨fun | 6 => 57 | 15 => 69 | 14 => 68 | 28 => 82 | 29 => 83 | 20 => 74 | 21 => 75 | 22 => 76 | 23 => 77 | 24 => 78 | 25 => 79 | 26 => 80 | 27 => 81 | 46 => 92 | 47 => 93 | 48 => 94 | 49 => 95 | 50 => 96 | 57 => 100 | n => n, fun | 22 => 23 | 24 => 3 | 25 => 80 | 3 => 3 | 39 => 110 | 0 => 0 | 53 => 123 | 55 => 125 | 4 => 4 | 46 => 116 | 45 => 115 | 50 => 120 | 5 => 5 | 9 => 9 | 66 => 131 | 70 => 135 | 76 => 139 | 77 => 140 | n => n, fun | n => n⟩
theorem Try.laysSlF6_f57 : Go.Proofs.SlLaysF.n6 Try.prog Try.laysSlF6_f57_ren := {
  mixed := by kernel_rfl
  f6 := ⟨Try.f57.name, by decide, Try.func57.trans (congrArg some (by kernel_rfl))⟩
  f14 := ⟨Try.f68.name, by decide, Try.func68.trans (congrArg some (by kernel_rfl))⟩
  f15 := Try.func69.trans (congrArg some (by kernel_rfl))
  f20 := ⟨Try.f74.name, by decide, Try.func74.trans (congrArg some (by kernel_rfl))⟩
  f21 := ⟨Try.f75.name, by decide, Try.func75.trans (congrArg some (by kernel_rfl))⟩
  f22 := ⟨Try.f76.name, by decide, Try.func76.trans (congrArg some (by kernel_rfl))⟩
  f23 := ⟨Try.f77.name, by decide, Try.func77.trans (congrArg some (by kernel_rfl))⟩
  f24 := ⟨Try.f78.name, by decide, Try.func78.trans (congrArg some (by kernel_rfl))⟩
  f25 := ⟨Try.f79.name, by decide, Try.func79.trans (congrArg some (by kernel_rfl))⟩
  f26 := ⟨Try.f80.name, by decide, Try.func80.trans (congrArg some (by kernel_rfl))⟩
  f27 := ⟨Try.f81.name, by decide, Try.func81.trans (congrArg some (by kernel_rfl))⟩
  f28 := Try.func82.trans (congrArg some (by kernel_rfl))
  f29 := Try.func83.trans (congrArg some (by kernel_rfl))
  f46 := ⟨Try.f92.name, by decide, Try.func92.trans (congrArg some (by kernel_rfl))⟩
  f47 := Try.func93.trans (congrArg some (by kernel_rfl))
  f48 := Try.func94.trans (congrArg some (by kernel_rfl))
  f49 := ⟨Try.f95.name, by decide, Try.func95.trans (congrArg some (by kernel_rfl))⟩
  f50 := ⟨Try.f96.name, by decide, Try.func96.trans (congrArg some (by kernel_rfl))⟩
  f57 := ⟨Try.f100.name, by decide, Try.func100.trans (congrArg some (by kernel_rfl))⟩
  t0 := Try.underlying0
  a0 := Try.isAgg0
  z0 := Try.sizeOf0
  v0 := Try.zeroValue0
  t3 := Try.underlying3
  a3 := Try.isAgg3
  z3 := Try.sizeOf3
  v3 := Try.zeroValue3
  t4 := Try.underlying4
  a4 := Try.isAgg4
  z4 := Try.sizeOf4
  v4 := Try.zeroValue4
  t5 := Try.underlying5
  a5 := Try.isAgg5
  z5 := Try.sizeOf5
  v5 := Try.zeroValue5
  t9 := Try.underlying9
  a9 := Try.isAgg9
  z9 := Try.sizeOf9
  v9 := Try.zeroValue9
  t22 := Try.underlying23
  a22 := Try.isAgg23
  z22 := Try.sizeOf23
  v22 := Try.zeroValue23
  a24 := Try.isAgg3
  z24 := Try.sizeOf3
  t25 := Try.underlying80
  a25 := Try.isAgg80
  z25 := Try.sizeOf80
  v25 := Try.zeroValue80
  t39 := Try.underlying110
  a39 := Try.isAgg110
  z39 := Try.sizeOf110
  v39 := Try.zeroValue110
  t45 := Try.underlying115
  a45 := Try.isAgg115
  z45 := Try.sizeOf115
  v45 := Try.zeroValue115
  t46 := Try.underlying116
  a46 := Try.isAgg116
  z46 := Try.sizeOf116
  v46 := Try.zeroValue116
  t50 := Try.underlying120
  a50 := Try.isAgg120
  z50 := Try.sizeOf120
  v50 := Try.zeroValue120
  t53 := Try.underlying123
  a53 := Try.isAgg123
  z53 := Try.sizeOf123
  v53 := Try.zeroValue123
  t55 := Try.underlying125
  a55 := Try.isAgg125
  z55 := Try.sizeOf125
  v55 := Try.zeroValue125
  t66 := Try.underlying131
  a66 := Try.isAgg131
  z66 := Try.sizeOf131
  v66 := Try.zeroValue131
  t70 := Try.underlying135
  a70 := Try.isAgg135
  z70 := Try.sizeOf135
  v70 := Try.zeroValue135
  t76 := Try.underlying139
  a76 := Try.isAgg139
  z76 := Try.sizeOf139
  v76 := Try.zeroValue139
  t77 := Try.underlying140
  a77 := Try.isAgg140
  z77 := Try.sizeOf140
  v77 := Try.zeroValue140 }
def Try.laysSlF06_f57_ren : Go.Shelf.Ren := ⟨fun | 6 => 57 | 15 => 69 | 14 => 68 | 28 => 82 | 29 => 83 | 20 => 74 | 21 => 75 | 22 => 76 | 23 => 77 | 24 => 78 | 25 => 79 | 26 => 80 | 27 => 81 | 46 => 92 | 47 => 93 | 48 => 94 | 49 => 95 | 50 => 96 | 57 => 100 | n => n, fun | 22 => 23 | 24 => 3 | 25 => 80 | 3 => 3 | 39 => 110 | 0 => 0 | 53 => 123 | 55 => 125 | 4 => 4 | 46 => 116 | 45 => 115 | 50 => 120 | 5 => 5 | 9 => 9 | 66 => 131 | 70 => 135 | 76 => 139 | 77 => 140 | n => n, fun | n => n⟩
theorem Try.laysSlF06_f57 : Go.Proofs.SlLaysF0.n6 Try.prog Try.laysSlF06_f57_ren := {
  mixed := by kernel_rfl
  f6 := ⟨Try.f57.name, by decide, Try.func57.trans (congrArg some (by kernel_rfl))⟩
  f14 := ⟨Try.f68.name, by decide, Try.func68.trans (congrArg some (by kernel_rfl))⟩
  f15 := Try.func69.trans (congrArg some (by kernel_rfl))
  f20 := ⟨Try.f74.name, by decide, Try.func74.trans (congrArg some (by kernel_rfl))⟩
  f21 := ⟨Try.f75.name, by decide, Try.func75.trans (congrArg some (by kernel_rfl))⟩
  f22 := ⟨Try.f76.name, by decide, Try.func76.trans (congrArg some (by kernel_rfl))⟩
  f23 := ⟨Try.f77.name, by decide, Try.func77.trans (congrArg some (by kernel_rfl))⟩
  f24 := ⟨Try.f78.name, by decide, Try.func78.trans (congrArg some (by kernel_rfl))⟩
  f25 := ⟨Try.f79.name, by decide, Try.func79.trans (congrArg some (by kernel_rfl))⟩
  f26 := ⟨Try.f80.name, by decide, Try.func80.trans (congrArg some (by kernel_rfl))⟩
  f27 := ⟨Try.f81.name, by decide, Try.func81.trans (congrArg some (by kernel_rfl))⟩
  f28 := Try.func82.trans (congrArg some (by kernel_rfl))
  f29 := Try.func83.trans (congrArg some (by kernel_rfl))
  f46 := ⟨Try.f92.name, by decide, Try.func92.trans (congrArg some (by kernel_rfl))⟩
  f47 := Try.func93.trans (congrArg some (by kernel_rfl))
  f48 := Try.func94.trans (congrArg some (by kernel_rfl))
  f49 := ⟨Try.f95.name, by decide, Try.func95.trans (congrArg some (by kernel_rfl))⟩
  f50 := ⟨Try.f96.name, by decide, Try.func96.trans (congrArg some (by kernel_rfl))⟩
  f57 := ⟨Try.f100.name, by decide, Try.func100.trans (congrArg some (by kernel_rfl))⟩
  t0 := Try.underlying0
  a0 := Try.isAgg0
  z0 := Try.sizeOf0
  v0 := Try.zeroValue0
  t3 := Try.underlying3
  a3 := Try.isAgg3
  z3 := Try.sizeOf3
  v3 := Try.zeroValue3
  t4 := Try.underlying4
  a4 := Try.isAgg4
  z4 := Try.sizeOf4
  v4 := Try.zeroValue4
  t5 := Try.underlying5
  a5 := Try.isAgg5
  z5 := Try.sizeOf5
  v5 := Try.zeroValue5
  t9 := Try.underlying9
  a9 := Try.isAgg9
  z9 := Try.sizeOf9
  v9 := Try.zeroValue9
  t22 := Try.underlying23
  a22 := Try.isAgg23
  z22 := Try.sizeOf23
  v22 := Try.zeroValue23
  t25 := Try.underlying80
  a25 := Try.isAgg80
  z25 := Try.sizeOf80
  v25 := Try.zeroValue80
  t39 := Try.underlying110
  a39 := Try.isAgg110
  z39 := Try.sizeOf110
  v39 := Try.zeroValue110
  t45 := Try.underlying115
  a45 := Try.isAgg115
  z45 := Try.sizeOf115
  v45 := Try.zeroValue115
  t46 := Try.underlying116
  a46 := Try.isAgg116
  z46 := Try.sizeOf116
  v46 := Try.zeroValue116
  t50 := Try.underlying120
  a50 := Try.isAgg120
  z50 := Try.sizeOf120
  v50 := Try.zeroValue120
  t53 := Try.underlying123
  a53 := Try.isAgg123
  z53 := Try.sizeOf123
  v53 := Try.zeroValue123
  t55 := Try.underlying125
  a55 := Try.isAgg125
  z55 := Try.sizeOf125
  v55 := Try.zeroValue125
  t66 := Try.underlying131
  a66 := Try.isAgg131
  z66 := Try.sizeOf131
  v66 := Try.zeroValue131
  t70 := Try.underlying135
  a70 := Try.isAgg135
  z70 := Try.sizeOf135
  v70 := Try.zeroValue135
  t76 := Try.underlying139
  a76 := Try.isAgg139
  z76 := Try.sizeOf139
  v76 := Try.zeroValue139
  t77 := Try.underlying140
  a77 := Try.isAgg140
  z77 := Try.sizeOf140
  v77 := Try.zeroValue140 }
open Go.RowKit Go.Lib Go.Sort in
theorem Try.slices_SortFunc_none {α : Type} [Inhabited α] (p : Option Addr) (cap : Nat) (fv : Value) (w : World) :
    Calls Try.prog 57 #[.slice p 0 cap, fv] w fun e w' => e = .returned (.tuple #[]) ∧ w' = w := AnyF.slices_SortFunc_none Try.laysSlF06_f57 p cap fv w
open Go.RowKit Go.Lib Go.Sort in
theorem Try.slices_SortFunc_total {α : Type} [Inhabited α] (enc : α → Value) (h1 : OneCell enc) (cf : α → α → Int) (hO : SWO (ltOf cf)) (g : Nat) (cb : Array Value) (blk off cap : Nat) (d : Array α) (w : World) (eg : ∀ args w, (callFunc g args).run Try.prog w = .ok (.enter g args) w) (hcmp : CmpLays1 Try.prog g cb enc cf blk off d.size w) (hH : Holds enc w blk off d) (hblk : blk < w.heap.size) (hsz : d.size < 4611686018427387904) (hT : ∀ x y, (ltOf cf) x y = false → (ltOf cf) y x = false → x = y) :
    Calls Try.prog 57 #[.slice (some ⟨blk, off, none⟩) d.size cap, .func (.func g) #[] cb] w fun e w' =>
      e = .returned (.tuple #[]) ∧ ∃ n os, w' = sortWorld enc w blk off n (d.toList.mergeSort fun x y => !(ltOf cf) y x).toArray os := Any.slices_SortFunc_total Try.laysSlF6_f57 enc h1 cf hO g cb blk off cap d w eg hcmp hH hblk hsz hT
end Go.Proofs
namespace Go.Proofs
open Go.Shelf
def Try.laysSlF06_f66_ren : Go.Shelf.Ren := ⟨fun | 6 => 66 | 15 => 69 | 14 => 73 | 28 => 82 | 29 => 83 | 20 => 84 | 21 => 85 | 22 => 86 | 23 => 87 | 24 => 88 | 25 => 89 | 26 => 90 | 27 => 91 | 46 => 97 | 47 => 93 | 48 => 94 | 49 => 98 | 50 => 99 | 57 => 101 | n => n, fun | 22 => 22 | 24 => 26 | 25 => 95 | 3 => 3 | 39 => 110 | 0 => 0 | 53 => 123 | 55 => 125 | 4 => 4 | 46 => 116 | 45 => 115 | 50 => 120 | 5 => 5 | 9 => 9 | 66 => 131 | 70 => 135 | 76 => 139 | 77 => 140 | n => n, fun | n => n⟩
theorem Try.laysSlF06_f66 : Go.Proofs.SlLaysF0.n6 Try.prog Try.laysSlF06_f66_ren := {
  mixed := by kernel_rfl
  f6 := ⟨Try.f66.name, by decide, Try.func66.trans (congrArg some (by kernel_rfl))⟩
  f14 := ⟨Try.f73.name, by decide, Try.func73.trans (congrArg some (by kernel_rfl))⟩
  f15 := Try.func69.trans (congrArg some (by kernel_rfl))
  f20 := ⟨Try.f84.name, by decide, Try.func84.trans (congrArg some (by kernel_rfl))⟩
  f21 := ⟨Try.f85.name, by decide, Try.func85.trans (congrArg some (by kernel_rfl))⟩
  f22 := ⟨Try.f86.name, by decide, Try.func86.trans (congrArg some (by kernel_rfl))⟩
  f23 := ⟨Try.f87.name, by decide, Try.func87.trans (congrArg some (by kernel_rfl))⟩
  f24 := ⟨Try.f88.name, by decide, Try.func88.trans (congrArg some (by kernel_rfl))⟩
  f25 := ⟨Try.f89.name, by decide, Try.func89.trans (congrArg some (by kernel_rfl))⟩
  f26 := ⟨Try.f90.name, by decide, Try.func90.trans (congrArg some (by kernel_rfl))⟩
  f27 := ⟨Try.f91.name, by decide, Try.func91.trans (congrArg some (by kernel_rfl))⟩
  f28 := Try.func82.trans (congrArg some (by kernel_rfl))
  f29 := Try.func83.trans (congrArg some (by kernel_rfl))
  f46 := ⟨Try.f97.name, by decide, Try.func97.trans (congrArg some (by kernel_rfl))⟩
  f47 := Try.func93.trans (congrArg some (by kernel_rfl))
  f48 := Try.func94.trans (congrArg some (by kernel_rfl))
  f49 := ⟨Try.f98.name, by decide, Try.func98.trans (congrArg some (by kernel_rfl))⟩
  f50 := ⟨Try.f99.name, by decide, Try.func99.trans (congrArg some (by kernel_rfl))⟩
  f57 := ⟨Try.f101.name, by decide, Try.func101.trans (congrArg some (by kernel_rfl))⟩
  t0 := Try.underlying0
  a0 := Try.isAgg0
  z0 := Try.sizeOf0
  v0 := Try.zeroValue0
  t3 := Try.underlying3
  a3 := Try.isAgg3
  z3 := Try.sizeOf3
  v3 := Try.zeroValue3
  t4 := Try.underlying4
  a4 := Try.isAgg4
  z4 := Try.sizeOf4
  v4 := Try.zeroValue4
  t5 := Try.underlying5
  a5 := Try.isAgg5
  z5 := Try.sizeOf5
  v5 := Try.zeroValue5
  t9 := Try.underlying9
  a9 := Try.isAgg9
  z9 := Try.sizeOf9
  v9 := Try.zeroValue9
  t22 := Try.underlying22
  a22 := Try.isAgg22
  z22 := Try.sizeOf22
  v22 := Try.zeroValue22
  t25 := Try.underlying95
  a25 := Try.isAgg95
  z25 := Try.sizeOf95
  v25 := Try.zeroValue95
  t39 := Try.underlying110
  a39 := Try.isAgg110
  z39 := Try.sizeOf110
  v39 := Try.zeroValue110
  t45 := Try.underlying115
  a45 := Try.isAgg115
  z45 := Try.sizeOf115
  v45 := Try.zeroValue115
  t46 := Try.underlying116
  a46 := Try.isAgg116
  z46 := Try.sizeOf116
  v46 := Try.zeroValue116
  t50 := Try.underlying120
  a50 := Try.isAgg120
  z50 := Try.sizeOf120
  v50 := Try.zeroValue120
  t53 := Try.underlying123
  a53 := Try.isAgg123
  z53 := Try.sizeOf123
  v53 := Try.zeroValue123
  t55 := Try.underlying125
  a55 := Try.isAgg125
  z55 := Try.sizeOf125
  v55 := Try.zeroValue125
  t66 := Try.underlying131
  a66 := Try.isAgg131
  z66 := Try.sizeOf131
  v66 := Try.zeroValue131
  t70 := Try.underlying135
  a70 := Try.isAgg135
  z70 := Try.sizeOf135
  v70 := Try.zeroValue135
  t76 := Try.underlying139
  a76 := Try.isAgg139
  z76 := Try.sizeOf139
  v76 := Try.zeroValue139
  t77 := Try.underlying140
  a77 := Try.isAgg140
  z77 := Try.sizeOf140
  v77 := Try.zeroValue140 }
open Go.RowKit Go.Lib Go.Sort in
theorem Try.slices_SortFuncD_total {α : Type} [Inhabited α] (k : Nat) (aE : ∀ w, (isAgg 26).run Try.prog w = .ok true w) (zE : ∀ w, (Go.sizeOf 26).run Try.prog w = .ok k w) (enc : α → List Value) (hk : ∀ x, (enc x).length = k) (h1 : ∀ x, ∀ v ∈ enc x, v.oneCell' = true) (cf : α → α → Int) (hO : SWO (ltOf cf)) (g : Nat) (cb : Array Value) (blk off cap : Nat) (d : Array α) (w : World) (eg : ∀ args w, (callFunc g args).run Try.prog w = .ok (.enter g args) w) (hcmp : CmpLays Try.prog g cb enc k cf blk off d.size w) (hH : HoldsK enc k w blk off d) (hblk : blk < w.heap.size) (hsz : d.size < 4611686018427387904) (hT : ∀ x y, (ltOf cf) x y = false → (ltOf cf) y x = false → x = y) :
    Calls Try.prog 66 #[.slice (some ⟨blk, off, none⟩) d.size cap, .func (.func g) #[] cb] w fun e w' =>
      e = .returned (.tuple #[]) ∧ ∃ n os, w' = sortWorldK enc k w blk off n (d.toList.mergeSort fun x y => !(ltOf cf) y x).toArray os := AnyQ.slices_SortFunc_total Try.laysSlF06_f66 k aE zE enc hk h1 cf hO g cb blk off cap d w eg hcmp hH hblk hsz hT
open Go.RowKit Go.Lib Go.Sort in
theorem Try.slices_SortFuncD_none {α : Type} [Inhabited α] (p : Option Addr) (cap : Nat) (fv : Value) (w : World) :
    Calls Try.prog 66 #[.slice p 0 cap, fv] w fun e w' => e = .returned (.tuple #[]) ∧ w' = w := AnyF.slices_SortFunc_none Try.laysSlF06_f66 p cap fv w
end Go.Proofs
namespace Go.Proofs.Yteblljpbnpaplaa
set_option linter.unusedSectionVars false
variable [DrawFlag]
set_option linter.unusedSimpArgs false
set_option linter.unusedVariables false
def ltN (L : List Int) (a b : Nat) : Bool := decide (L.getD a 0 < L.getD b 0) || (decide (L.getD a 0 = L.getD b 0) && decide (a < b))
def leN (L : List Int) (a b : Nat) : Bool := !ltN L b a
def ndsN (L : List Int) (n : Nat) : List Nat := (List.range n).filter fun i => decide (0 ≤ L.getD i 0)
def srtN (L : List Int) : List Nat := (ndsN L L.length).mergeSort (leN L)
theorem ltN_iff {L : List Int} {a b : Nat} : ltN L a b = true ↔ (L.getD a 0 < L.getD b 0 ∨ (L.getD a 0 = L.getD b 0 ∧ a < b)) := by
  unfold ltN; simp
theorem leN_iff {L : List Int} {a b : Nat} : leN L a b = true ↔ ¬ (L.getD b 0 < L.getD a 0 ∨ (L.getD b 0 = L.getD a 0 ∧ b < a)) := by
  unfold leN
  rw [Bool.not_eq_true', ← ltN_iff, Bool.not_eq_true]
theorem mem_nds {L : List Int} {n i : Nat} : i ∈ ndsN L n ↔ i < n ∧ 0 ≤ L.getD i 0 := by
  unfold ndsN; simp
theorem nds_nodup (L : List Int) (n : Nat) : (ndsN L n).Nodup := List.Pairwise.filter _ List.nodup_range
theorem nds_succ (L : List Int) (n : Nat) : ndsN L (n + 1) = ndsN L n ++ (if 0 ≤ L.getD n 0 then [n] else []) := by
  unfold ndsN
  rw [List.range_succ, List.filter_append]
  congr 1
  by_cases h : 0 ≤ L.getD n 0
  · rw [if_pos h, List.filter_cons, if_pos (decide_eq_true h)]; rfl
  · rw [if_neg h, List.filter_cons, if_neg (by simpa using h)]; rfl
theorem nds_len (L : List Int) (n : Nat) : (ndsN L n).length ≤ n := by
  have := List.length_filter_le (fun i => decide (0 ≤ L.getD i 0)) (List.range n)
  unfold ndsN; simpa using this
theorem srt_perm (L : List Int) : (srtN L).Perm (ndsN L L.length) := List.mergeSort_perm _ _
theorem srt_mem {L : List Int} {i : Nat} : i ∈ srtN L ↔ i < L.length ∧ 0 ≤ L.getD i 0 := by rw [(srt_perm L).mem_iff, mem_nds]
theorem srt_nodup (L : List Int) : (srtN L).Nodup := (srt_perm L).nodup_iff.2 (nds_nodup L _)
theorem srt_len (L : List Int) : (srtN L).length ≤ L.length := by rw [(srt_perm L).length_eq]; exact nds_len L _
theorem srt_le (L : List Int) : (srtN L).Pairwise fun a b => leN L a b = true :=
  List.pairwise_mergeSort (le := leN L) (fun a b c h1 h2 => by rw [leN_iff] at *; omega) (fun a b => by
    rw [Bool.or_eq_true, leN_iff, leN_iff]; omega) _
def plF (L : List Int) (i : Nat) : Int := if i ∈ srtN L then ((srtN L).idxOf i : Nat) else -1
theorem plF_yes {L : List Int} {i : Nat} (h : i ∈ srtN L) : plF L i = ((srtN L).idxOf i : Nat) := if_pos h
theorem plF_no {L : List Int} {i : Nat} (h : ¬ i ∈ srtN L) : plF L i = -1 := if_neg h
theorem plF_lt {L : List Int} {i : Nat} : plF L i < (srtN L).length := by
  by_cases h : i ∈ srtN L
  · rw [plF_yes h]; have := List.idxOf_lt_length_of_mem h; omega
  · rw [plF_no h]; omega
theorem plF_le {L : List Int} {i : Nat} : -1 ≤ plF L i := by
  by_cases h : i ∈ srtN L
  · rw [plF_yes h]; omega
  · rw [plF_no h]; omega
theorem plF_inj {L : List Int} {i k : Nat} (h : plF L i = plF L k) (h0 : 0 ≤ plF L i) : i = k := by
  have hi : i ∈ srtN L := by
    apply Classical.byContradiction; intro hn; rw [plF_no hn] at h0; omega
  have hk : k ∈ srtN L := by
    apply Classical.byContradiction; intro hn; rw [h, plF_no hn] at h0; omega
  rw [plF_yes hi, plF_yes hk] at h
  have h2 : (srtN L).idxOf i = (srtN L).idxOf k := by omega
  have e1 := List.getElem_idxOf (List.idxOf_lt_length_of_mem hi)
  have e2 := List.getElem_idxOf (List.idxOf_lt_length_of_mem hk)
  rw [← e1, ← e2]
  simp only [h2]
theorem plF_ord {L : List Int} {i k : Nat} (hi : i ∈ srtN L) (hk : k ∈ srtN L) : plF L i < plF L k ↔ ltN L i k = true := by
  rw [plF_yes hi, plF_yes hk]
  have l1 := List.idxOf_lt_length_of_mem hi
  have l2 := List.idxOf_lt_length_of_mem hk
  have e1 := List.getElem_idxOf l1
  have e2 := List.getElem_idxOf l2
  have hp := List.pairwise_iff_getElem.1 (srt_le L)
  constructor
  · intro h
    have h2 := hp _ _ l1 l2 (by omega)
    rw [e1, e2, leN_iff] at h2
    rw [ltN_iff]
    have : i ≠ k := by intro e; subst e; omega
    omega
  · intro h
    rcases Nat.lt_trichotomy ((srtN L).idxOf i) ((srtN L).idxOf k) with h2 | h2 | h2
    · omega
    · have : i = k := by rw [← e1, ← e2]; simp only [h2]
      subst this
      rw [ltN_iff] at h; omega
    · have h3 := hp _ _ l2 l1 h2
      rw [e1, e2, leN_iff] at h3
      rw [ltN_iff] at h; omega
def plT (L : List Int) (t : Nat) (i : Nat) : Int := if i ∈ (srtN L).take t then ((srtN L).idxOf i : Nat) else -1
theorem plT_zero (L : List Int) (i : Nat) : plT L 0 i = -1 := by simp [plT]
theorem plT_all (L : List Int) (i : Nat) : plT L (srtN L).length i = plF L i := by unfold plT plF; rw [List.take_length]
theorem plT_succ {L : List Int} {t : Nat} (h : t < (srtN L).length) (i : Nat) : plT L (t + 1) i = if i = (srtN L)[t] then (t : Int) else plT L t i := by
  have hm : i ∈ (srtN L).take (t + 1) ↔ (i ∈ (srtN L).take t ∨ i = (srtN L)[t]) := by
    rw [List.take_succ_eq_append_getElem h, List.mem_append, List.mem_singleton]
  unfold plT
  by_cases e : i = (srtN L)[t]
  · rw [if_pos (hm.2 (.inr e)), if_pos e, e, (srt_nodup L).idxOf_getElem]
  · rw [if_neg e]
    by_cases e2 : i ∈ (srtN L).take t
    · rw [if_pos (hm.2 (.inl e2)), if_pos e2]
    · rw [if_neg (fun h => (hm.1 h).elim e2 e), if_neg e2]
end Go.Proofs.Yteblljpbnpaplaa
namespace Go.Proofs.Yteblljpbnpaplaa
set_option linter.unusedSectionVars false
variable [DrawFlag]
set_option linter.unusedSimpArgs false
set_option linter.unusedVariables false
open Go.RowKit Go.Sort
set_option maxRecDepth 20000

section
variable {α : Type} [Inhabited α] {B : Nat} {R : RO} {ι : IM} {h : LH} {w : World}
theorem sort_heap (enc : α → Value) (b o n : Nat) (d : Array α) (os : Array Obj) (x : Nat) (hx : x < w.heap.size) :
    (sortWorld enc w b o n d os).heap[x]? = if x = b then (w.heap[x]?).map (onCells (putCells enc o d)) else w.heap[x]? := by
  show ((w.heap.modify b (onCells (putCells enc o d))) ++ os)[x]? = _
  rw [Array.getElem?_append_left (by simpa using hx), Array.getElem?_modify]
  by_cases e : b = x
  · rw [if_pos e, if_pos e.symm]
  · rw [if_neg e, if_neg (fun h => e h.symm)]
theorem sort_size (enc : α → Value) (b o n : Nat) (d : Array α) (os : Array Obj) : w.heap.size ≤ (sortWorld enc w b o n d os).heap.size := by
  show _ ≤ ((w.heap.modify b (onCells (putCells enc o d))) ++ os).size
  rw [Array.size_append, Array.size_modify]; omega
theorem put_size (enc : α → Value) (o : Nat) (d : Array α) (c : Array Value) : (putCells enc o d c).size = c.size := by
  unfold putCells; exact Array.size_mapIdx
theorem put_get (enc : α → Value) (o : Nat) (d : Array α) (c : Array Value) (j : Nat) (hj : j < c.size) : (putCells enc o d c)[j]? = some (if o ≤ j ∧ j < o + d.size then enc d[j - o]! else c[j]) := by
  unfold putCells
  rw [Array.getElem?_mapIdx, Array.getElem?_eq_getElem hj]; rfl
theorem sort_trans (enc : α → Value) (g : α → Int) (henc : ∀ x, enc x = .int .i64 (g x)) (hr : Rep R ι h B w) (hB : B ≤ w.heap.size) {k ver : Nat} (hk : k < h.n) {xs : List Int} (hob : h.f k = (ver, .ints xs)) (hne : xs ≠ [])
    (d : Array α) (hs : d.size = xs.length) (n : Nat) (os : Array Obj) :
    Trans B R ι h w R ι (h.set k (ver, .ints (d.toList.map g))) (sortWorld enc w (ι k).b (ι k).o n d os) := by
  have hl : (h.f k).2.live = true := by rw [hob]; rfl
  have hm : (h.f k).2.isMap = false := by rw [hob]; rfl
  have hsz : (h.f k).2.size = xs.length := by rw [hob]; rfl
  have hpos : 0 < xs.length := List.length_pos_iff.2 hne
  have hm0 : (ι k).m ≠ 0 := fun e => by
    have := hr.empty k hk hl hm e
    omega
  obtain ⟨cl, e, hw, hcs, hle, hpl, hcl⟩ := (hr.cells k hk hl hm hm0).ex
  have hbs := (hr.base k hk hl (.inl hm0)).2.1
  have := hr.change hB hk (hdr := fun _ => Nat.le_add_right _ _) (ver' := ver) (ob' := .ints (d.toList.map g)) (x' := ι k) (w' := sortWorld enc w (ι k).b (ι k).o n d os) hl (by rw [hob]; exact Nat.le_refl _) (fun _ => rfl) rfl rfl hm
    rfl rfl rfl (sort_size enc _ _ n d os) (fun b hb hne => by rw [sort_heap _ _ _ _ _ _ _ hb, if_neg hne]) (.inl ⟨rfl, hm0⟩)
    (fun mono _ => ⟨putCells enc (ι k).o d cl, e, by
      rw [sort_heap _ _ _ _ _ _ _ hbs, if_pos rfl, hw]; rfl, by rw [put_size]; exact hcs, by
      show (d.toList.map g).length ≤ _
      rw [List.length_map, Array.length_toList, hs, ← hsz]; exact hle, fun j hj => by
      rw [put_size] at hj
      rw [Array.getD_eq_getD_getElem?, put_get _ _ _ _ _ hj, Option.getD_some]
      split
      · rw [henc]; rfl
      · have := hpl j hj
        rw [Array.getD_eq_getD_getElem?, Array.getElem?_eq_getElem hj] at this
        exact this, fun i c' lv hx => by
      have hx2 : (if c' = 0 then ((d.toList.map g)[i]?).map fun x => LV.sc (.int .i64 x) else none) = some lv := hx
      split at hx2
      · rename_i hc0
        subst hc0
        obtain ⟨y, hy, hy2⟩ := Option.map_eq_some_iff.1 hx2
        subst hy2
        have hi : i < d.size := by
          have := (List.getElem?_eq_some_iff.1 hy).1
          simpa using this
        have hi2 : (ι k).o + (i * 1 + 0) < cl.size := by rw [hsz] at hle; omega
        refine ⟨.int .i64 y, ?_, .ro (.sc _ rfl)⟩
        show (putCells enc (ι k).o d cl)[(ι k).o + (i * 1 + 0)]? = _
        rw [put_get _ _ _ _ _ hi2, if_pos ⟨by omega, by omega⟩, henc]
        rw [show (ι k).o + (i * 1 + 0) - (ι k).o = i by omega, getElem!_pos d i hi]
        rw [List.getElem?_map, Array.getElem?_toList, Array.getElem?_eq_getElem hi] at hy
        simp only [Option.map_some, Option.some.injEq] at hy
        rw [hy]
      · simp at hx2⟩) (fun e => absurd e hm0)
  rw [updI_self] at this
  exact this
theorem sort_holds (enc : α → Value) (g : α → Int) (henc : ∀ x, enc x = .int .i64 (g x)) (hr : Rep R ι h B w) {k ver : Nat} (hk : k < h.n) {d : Array α} (hob : h.f k = (ver, .ints (d.toList.map g))) (hne : 0 < d.size) :
    Holds enc w (ι k).b (ι k).o d ∧ (ι k).b < w.heap.size := by
  have hl : (h.f k).2.live = true := by rw [hob]; rfl
  have hm : (h.f k).2.isMap = false := by rw [hob]; rfl
  have hsz : (h.f k).2.size = d.size := by
    rw [hob]
    show (d.toList.map g).length = _
    rw [List.length_map, Array.length_toList]
  have hm0 : (ι k).m ≠ 0 := fun e => by
    have := hr.empty k hk hl hm e
    omega
  obtain ⟨cl, e, hw, hcs, hle, hpl, hcl⟩ := (hr.cells k hk hl hm hm0).ex
  refine ⟨fun j hj => ⟨?_, by simp [World.frozen?, hw]⟩, (hr.base k hk hl (.inl hm0)).2.1⟩
  obtain ⟨v, hv1, hv2⟩ := hcl j 0 (.sc (.int .i64 (g d[j]))) (by
    rw [hob]
    show (if 0 = 0 then ((d.toList.map g)[j]?).map fun x => LV.sc (.int .i64 x) else none) = _
    rw [if_pos rfl, List.getElem?_map, Array.getElem?_toList, Array.getElem?_eq_getElem hj]; rfl)
  have h1 := hv2.sc_inv.1
  subst h1
  have hz : (h.f k).2.sz = 1 := by rw [hob]; rfl
  rw [hz] at hv1
  simp only [World.cell?, hw]
  rw [getElem!_pos d j hj, henc]
  simpa using hv1
end
theorem grow_of_below {w w' : World} (h : Below w.heap.size w w') (hd : w.drawn ≤ w'.drawn) : ∃ q os', w' = grow (w.drewN q) os' := by
  refine ⟨w'.drawn - w.drawn, w'.heap.extract w.heap.size w'.heap.size, ?_⟩
  have e1 : w'.heap = w.heap ++ w'.heap.extract w.heap.size w'.heap.size := by
    apply Array.ext_getElem?
    intro i
    by_cases hi : i < w.heap.size
    · rw [h.block i hi, Array.getElem?_append_left hi]
    · rw [Array.getElem?_append_right (by omega), Array.getElem?_extract]
      by_cases h2 : i < w'.heap.size
      · rw [if_pos (by have := h.size; omega)]; congr 1; omega
      · rw [Array.getElem?_eq_none (by omega), if_neg (by omega)]
  have e2 : w'.drawn = w.drawn + (w'.drawn - w.drawn) := by omega
  have h1 := h.os
  have h2 := h.tape
  have h3 := h.output
  obtain ⟨a1, a2, a3, a4, a5⟩ := w'
  obtain ⟨b1, b2, b3, b4, b5⟩ := w
  simp only at h1 h2 h3 e1 e2
  subst h1; subst h2; subst h3
  unfold grow World.drewN
  simp only [World.mk.injEq]
  exact ⟨e1, trivial, e2, trivial, trivial⟩
end Go.Proofs.Yteblljpbnpaplaa
namespace Go.Proofs.Yteblljpbnpaplaa
set_option linter.unusedSectionVars false
variable [DrawFlag]
set_option linter.unusedSimpArgs false
set_option linter.unusedVariables false
open Go.RowKit Go.Sort
set_option maxRecDepth 20000

def cfN (L : List Int) (x y : Nat) : Int := orI [cmpI (L.getD x 0) (L.getD y 0), cmpI x y]
theorem cmpI_cases (a b : Int) : (a < b ∧ cmpI a b = -1) ∨ (a = b ∧ cmpI a b = 0) ∨ (b < a ∧ cmpI a b = 1) := by
  unfold cmpI
  rcases Int.lt_trichotomy a b with h | h | h
  · exact .inl ⟨h, by rw [decide_eq_true h]; rfl⟩
  · exact .inr (.inl ⟨h, by rw [decide_eq_false (show ¬ a < b by omega), decide_eq_false (show ¬ b < a by omega)]; rfl⟩)
  · exact .inr (.inr ⟨h, by rw [decide_eq_false (show ¬ a < b by omega), decide_eq_true h]; rfl⟩)
theorem cfN_lt (L : List Int) (x y : Nat) : decide (cfN L x y < 0) = ltN L x y := by
  unfold cfN ltN
  generalize L.getD x 0 = a
  generalize L.getD y 0 = b
  rcases cmpI_cases a b with ⟨h, e⟩ | ⟨h, e⟩ | ⟨h, e⟩
  · rw [e, decide_eq_true h]; rfl
  · rw [e, decide_eq_false (show ¬ a < b by omega), decide_eq_true h]
    show decide (orI [cmpI x y] < 0) = decide (x < y)
    rcases cmpI_cases x y with ⟨h, e⟩ | ⟨h, e⟩ | ⟨h, e⟩
    · rw [e, decide_eq_true (show x < y by omega)]; rfl
    · rw [e, decide_eq_false (show ¬ x < y by omega)]; rfl
    · rw [e, decide_eq_false (show ¬ x < y by omega)]; rfl
  · rw [e, decide_eq_false (show ¬ a < b by omega), decide_eq_false (show ¬ a = b by omega)]; rfl
theorem ev_cmpN (L : List Int) (x y : Nat) (hx : x < L.length) (hy : y < L.length) : Ev Try.prog 58 [.sc (.int .i64 (x : Nat)), .sc (.int .i64 (y : Nat)), .rptr [intsV L]] (.sc (.int .i64 (cfN L x y))) := by
  have h1 := fun a b => ev_compare a b
  have h2 := fun l => ev_or l
  unfold intsV at *
  refine ev_fn Try.func58 comp58 (show 3 ≤ Try.f58.ntmps by decide) ?_; unfold cf58 rf58; simp only [↓EVP0, EVQ0, EVQ1, EVQ2, EVQ3, EVQ4, EVA, EVK, EVF, ↓reduceIte, Nat.reduceEqDiff, Nat.reduceAdd, Nat.reduceSub, Nat.reduceMul, Nat.reduceLT, Nat.reduceLeDiff, reduceCtorEq, Int.reduceToNat, Int.reduceLT, Int.reduceLE, Int.reduceAdd, Int.reduceSub, Int.reduceMul, Int.reduceNeg, Int.reduceEq, Nat.reduceMod, forall_eq_or_imp, forall_eq, forall_const, cond_true, cond_false, decide_true, decide_false, true_imp_iff, implies_true, Int.cast_ofNat_Int, forall_eq']
  refine ⟨⟨by omega, by omega⟩, ⟨by omega, by omega⟩, ?_⟩
  first | refine qCallK_ro (h1 _ _) ?_ ?_ | refine eCallK_ro (h1 _ _) ?_ ?_
  · simp only [↓EVP0, EVQ0, EVQ1, EVQ2, EVQ3, EVQ4, EVA, EVK, EVF, ↓reduceIte, Nat.reduceEqDiff, Nat.reduceAdd, Nat.reduceSub, Nat.reduceMul, Nat.reduceLT, Nat.reduceLeDiff, reduceCtorEq, Int.reduceToNat, Int.reduceLT, Int.reduceLE, Int.reduceAdd, Int.reduceSub, Int.reduceMul, Int.reduceNeg, Int.reduceEq, Nat.reduceMod, forall_eq_or_imp, forall_eq, forall_const, cond_true, cond_false, decide_true, decide_false, true_imp_iff, implies_true, Int.cast_ofNat_Int, forall_eq']
  simp only [↓EVP0, EVQ0, EVQ1, EVQ2, EVQ3, EVQ4, EVA, EVK, EVF, ↓reduceIte, Nat.reduceEqDiff, Nat.reduceAdd, Nat.reduceSub, Nat.reduceMul, Nat.reduceLT, Nat.reduceLeDiff, reduceCtorEq, Int.reduceToNat, Int.reduceLT, Int.reduceLE, Int.reduceAdd, Int.reduceSub, Int.reduceMul, Int.reduceNeg, Int.reduceEq, Nat.reduceMod, forall_eq_or_imp, forall_eq, forall_const, cond_true, cond_false, decide_true, decide_false, true_imp_iff, implies_true, Int.cast_ofNat_Int, forall_eq']
  first | refine qCallK_ro (h1 _ _) ?_ ?_ | refine eCallK_ro (h1 _ _) ?_ ?_
  · simp only [↓EVP0, EVQ0, EVQ1, EVQ2, EVQ3, EVQ4, EVA, EVK, EVF, ↓reduceIte, Nat.reduceEqDiff, Nat.reduceAdd, Nat.reduceSub, Nat.reduceMul, Nat.reduceLT, Nat.reduceLeDiff, reduceCtorEq, Int.reduceToNat, Int.reduceLT, Int.reduceLE, Int.reduceAdd, Int.reduceSub, Int.reduceMul, Int.reduceNeg, Int.reduceEq, Nat.reduceMod, forall_eq_or_imp, forall_eq, forall_const, cond_true, cond_false, decide_true, decide_false, true_imp_iff, implies_true, Int.cast_ofNat_Int, forall_eq']
  simp only [↓EVP0, EVQ0, EVQ1, EVQ2, EVQ3, EVQ4, EVA, EVK, EVF, ↓reduceIte, Nat.reduceEqDiff, Nat.reduceAdd, Nat.reduceSub, Nat.reduceMul, Nat.reduceLT, Nat.reduceLeDiff, reduceCtorEq, Int.reduceToNat, Int.reduceLT, Int.reduceLE, Int.reduceAdd, Int.reduceSub, Int.reduceMul, Int.reduceNeg, Int.reduceEq, Nat.reduceMod, forall_eq_or_imp, forall_eq, forall_const, cond_true, cond_false, decide_true, decide_false, true_imp_iff, implies_true, Int.cast_ofNat_Int, forall_eq']
  refine ⟨intsF [cmpI (L.getD x 0) (L.getD y 0), cmpI x y], fun i hi => ?_, qCallK_ro (ev_or [cmpI (L.getD x 0) (L.getD y 0), cmpI x y]) ?_ ?_⟩
  · obtain rfl | rfl : i = 0 ∨ i = 1 := by omega
    · rfl
    · rfl
  · simp only [↓EVP0, EVQ0, EVQ1, EVQ2, EVQ3, EVQ4, EVA, EVK, EVF, ↓reduceIte, Nat.reduceEqDiff, Nat.reduceAdd, Nat.reduceSub, Nat.reduceMul, Nat.reduceLT, Nat.reduceLeDiff, reduceCtorEq, Int.reduceToNat, Int.reduceLT, Int.reduceLE, Int.reduceAdd, Int.reduceSub, Int.reduceMul, Int.reduceNeg, Int.reduceEq, Nat.reduceMod, forall_eq_or_imp, forall_eq, forall_const, cond_true, cond_false, decide_true, decide_false, true_imp_iff, implies_true, Int.cast_ofNat_Int, forall_eq']
  simp only [↓EVP0, EVQ0, EVQ1, EVQ2, EVQ3, EVQ4, EVA, EVK, EVF, ↓reduceIte, Nat.reduceEqDiff, Nat.reduceAdd, Nat.reduceSub, Nat.reduceMul, Nat.reduceLT, Nat.reduceLeDiff, reduceCtorEq, Int.reduceToNat, Int.reduceLT, Int.reduceLE, Int.reduceAdd, Int.reduceSub, Int.reduceMul, Int.reduceNeg, Int.reduceEq, Nat.reduceMod, forall_eq_or_imp, forall_eq, forall_const, cond_true, cond_false, decide_true, decide_false, true_imp_iff, implies_true, Int.cast_ofNat_Int, forall_eq']
  rfl
theorem sc_invQ {R : RO} {a v : Value} (h : Ro R (.sc a) v) : v = a := by cases h; rfl
theorem swo_ltN (L : List Int) : ∀ {n : Nat}, SWO (ltOf fun x y : Fin n => cfN L x.1 y.1) := by
  intro n
  have e : ∀ x y : Fin n, (ltOf fun x y : Fin n => cfN L x.1 y.1) x y = ltN L x.1 y.1 := fun x y => cfN_lt L x.1 y.1
  refine ⟨fun x => ?_, fun x y z h1 h2 => ?_, fun x y z h1 h2 => ?_⟩
  · rw [e, ← Bool.not_eq_true, ltN_iff]; omega
  · rw [e, ltN_iff] at *; omega
  · rw [e, ← Bool.not_eq_true, ltN_iff] at *; omega
def encF (n : Nat) (x : Fin n) : Value := .int .i64 (x.1 : Int)
theorem lc_sortN (L : List Int) {h : LH} {k ver kb vb : Nat} (xs : List Nat) (hx : ∀ x, x ∈ xs → x < L.length) (hne : xs ≠ []) (hlen : xs.length < 4611686018427387904)
    (hk : k < h.n) (hob : h.f k = (ver, .ints (xs.map fun x : Nat => (x : Int)))) (hkb : kb < h.n) (hbx : h.f kb = (vb, .box [intsV L])) (hkk : kb ≠ k) :
    LCall Try.prog 57 [.sl k ver 1 0 xs.length, .fn 58 [.ptr kb vb 0 0 0]] h (.tup []) (h.set k (ver, .ints ((xs.mergeSort (leN L)).map fun x : Nat => (x : Int)))) := by
  intro B R ι w ⟨vs⟩ hB hr hsz hargs
  match vs, hsz with
  | [v0, v1], _ =>
    have hlp : 0 < xs.length := List.length_pos_iff.2 hne
    obtain ⟨a, cap, e0, _, _, hlc, hm, hz⟩ := (hargs 0 _ rfl).sl_inv
    obtain ⟨cs, e1, hc1, hcv⟩ := (hargs 1 _ rfl).fn_inv
    change v0 = _ at e0
    change v1 = _ at e1
    subst e0; subst e1
    have hver : ver = (h.f k).1 := by rw [hob]
    obtain ⟨ha, _⟩ := (hz.resolve_left (by omega)) hver
    simp only [Nat.zero_mul, Nat.add_zero] at ha
    subst ha
    haveI : Inhabited (Fin L.length) := ⟨⟨xs.head hne, hx _ (List.head_mem hne)⟩⟩
    let d : Array (Fin L.length) := (xs.pmap (fun x hx => (⟨x, hx⟩ : Fin L.length)) hx).toArray
    have hds : d.size = xs.length := by simp [d]
    have hdl : d.toList.map (fun x => x.1) = xs := by simp [d, List.map_pmap]
    have hdi : d.toList.map (fun x => (x.1 : Int)) = xs.map fun x : Nat => (x : Int) := by rw [← hdl, List.map_map]; rfl
    have hob2 : h.f k = (ver, .ints (d.toList.map (fun x => (x.1 : Int)))) := by rw [hdi]; exact hob
    obtain ⟨hH, hblk⟩ := sort_holds (encF L.length) (fun x => (x.1 : Int)) (fun _ => rfl) hr hk hob2 (by omega)
    -- what stands beside the row while it is sorted
    let R' : RO := fun b => if b = (ι k).b then none else w.heap[b]?
    have hkl : (h.f k).2.live = true := by rw [hob]; rfl
    have hkm : (ι k).m ≠ 0 := fun e => by
      have := hr.empty k hk hkl (by rw [hob]; rfl) e
      rw [hob] at this
      change (xs.map fun x : Nat => (x : Int)).length = 0 at this
      rw [List.length_map] at this; omega
    have hRk := (hr.base k hk hkl (.inl hkm)).2.2
    have hle : RoLe R R' := by
      intro b o hb
      show (if b = (ι k).b then none else w.heap[b]?) = some o
      rw [if_neg (fun e => by rw [e, hRk] at hb; simp at hb)]
      exact hr.ro b o hb
    have hcap : Ro R' (.rptr [intsV L]) (cs.getD 0 undef) := by
      refine roTo2_okD (D := [kb]) hr hle (fun j hj hjn hjl hjm => ?_) (hcv 0 _ rfl) ?_ ?_
      · obtain rfl : j = kb := by simpa using hj
        show (if (ι j).b = (ι k).b then none else w.heap[(ι j).b]?) = _
        rw [if_neg (fun e => hkk (hr.apart j k hjn hk hjl hkl hjm (.inl hkm) e))]
      · exact roTo2_cell hkb hbx
      · refine ⟨by simp, ?_⟩
        rw [hbx]
        exact ⟨trivial, trivial⟩
    have hcs : (⟨[.slice (some ⟨(ι k).b, (ι k).o, none⟩) xs.length cap, .func (.func 58) #[] cs]⟩ : Array Value) = #[.slice (some ⟨(ι k).b, (ι k).o, none⟩) d.size cap, .func (.func 58) #[] cs] := by rw [hds]
    rw [hcs]
    have hcmp : CmpLays1 Try.prog 58 cs (encF L.length) (fun x y => cfN L x.1 y.1) (ι k).b (ι k).o d.size w := by
      intro m os dk hdk x y
      have hRw : ∀ b o, R' b = some o → (sortWorld (encF L.length) w (ι k).b (ι k).o m dk os).heap[b]? = some o := by
        intro b o hb
        have hb2 : (if b = (ι k).b then none else w.heap[b]?) = some o := hb
        by_cases e : b = (ι k).b
        · rw [if_pos e] at hb2; simp at hb2
        · rw [if_neg e] at hb2
          rw [sort_heap _ _ _ _ _ _ _ (Array.getElem?_eq_some_iff.1 hb2).1, if_neg e]; exact hb2
      have hc0 : cs = #[cs.getD 0 undef] := by
        match cs, hc1 with
        | ⟨[c]⟩, _ => rfl
      have := @ev_cmpN ⟨True⟩ L x.1 y.1 x.2 y.2 R' (sortWorld (encF L.length) w (ι k).b (ι k).o m dk os) (#[encF L.length x, encF L.length y] ++ cs) hRw (hr.gl.mono hle) (by rw [Array.size_append, hc1]; rfl) (fun i a hi => by
        rw [hc0]
        match i, hi with
        | 0, hi => simp at hi; subst hi; exact .sc _ rfl
        | 1, hi => simp at hi; subst hi; exact .sc _ rfl
        | 2, hi => simp at hi; subst hi; exact hcap
        | i + 3, hi => simp at hi)
      refine this.mono ?_
      rintro e w' ⟨v, R2, rfl, _, _, _, ⟨hb1, hb2⟩, hv⟩
      have hv2 := sc_invQ hv
      subst hv2
      exact ⟨rfl, grow_of_below hb1 (hb2 trivial)⟩
    have eg : ∀ args w, (callFunc 58 args).run Try.prog w = .ok (.enter 58 args) w := enters_of Try.func58 (by kernel_rfl) rfl
    refine (Try.slices_SortFunc_total (encF L.length) (fun _ => rfl) (fun x y => cfN L x.1 y.1) (swo_ltN L) 58 cs (ι k).b (ι k).o cap d w eg hcmp hH hblk (by omega) (fun x y h1 h2 => ?_)).mono ?_
    · have f1 : ltN L x.1 y.1 = false := by rw [← cfN_lt]; exact h1
      have f2 : ltN L y.1 x.1 = false := by rw [← cfN_lt]; exact h2
      rw [← Bool.not_eq_true, ltN_iff] at f1 f2
      exact Fin.ext (by omega)
    · rintro e w' ⟨rfl, n, os, rfl⟩
      have hms : (d.toList.mergeSort fun x y => !(ltOf fun x y : Fin L.length => cfN L x.1 y.1) y x).map (fun x => (x.1 : Int)) = (xs.mergeSort (leN L)).map fun x : Nat => (x : Int) := by
        have h1 := List.map_mergeSort (r := fun x y : Fin L.length => !(ltOf fun x y : Fin L.length => cfN L x.1 y.1) y x) (s := leN L) (f := fun x : Fin L.length => x.1) (l := d.toList) (fun a _ b _ => by
          show (!(decide (cfN L b.1 a.1 < 0))) = leN L a.1 b.1
          rw [cfN_lt]; rfl)
        rw [hdl] at h1
        rw [← h1, List.map_map]; rfl
      have hT := sort_trans (encF L.length) (fun x => (x.1 : Int)) (fun _ => rfl) hr hB hk hob (by simpa using hne) (d.toList.mergeSort fun x y => !(ltOf fun x y : Fin L.length => cfN L x.1 y.1) y x).toArray (by rw [List.size_toArray, List.length_mergeSort, Array.length_toList, hds, List.length_map]) n os
      rw [show (List.toArray (d.toList.mergeSort fun x y => !(ltOf fun x y : Fin L.length => cfN L x.1 y.1) y x)).toList = d.toList.mergeSort fun x y => !(ltOf fun x y : Fin L.length => cfN L x.1 y.1) y x from rfl, hms] at hT
      exact ⟨_, R, ι, rfl, hT, .tup _ _ rfl fun i c hi => by simp at hi⟩
end Go.Proofs.Yteblljpbnpaplaa
namespace Go.Proofs.Yteblljpbnpaplaa
set_option linter.unusedSectionVars false
variable [DrawFlag]
set_option linter.unusedSimpArgs false
set_option linter.unusedVariables false
open Go.RowKit Go.Sort
set_option maxRecDepth 20000

def toI (xs : List Nat) : List Int := xs.map fun x : Nat => (x : Int)
theorem toI_len (xs : List Nat) : (toI xs).length = xs.length := List.length_map _
theorem toI_app (xs ys : List Nat) : toI (xs ++ ys) = toI xs ++ toI ys := List.map_append
theorem toI_get {xs : List Nat} {i : Nat} (h : i < xs.length) : (toI xs).getD i 0 = (xs[i] : Nat) := by
  unfold toI
  rw [List.getD_eq_getElem?_getD, List.getElem?_map, List.getElem?_eq_getElem h]; rfl
def plA (n k : Nat) : List Int := List.replicate k (-1) ++ List.replicate (n - k) 0
theorem plA_len {n k : Nat} (h : k ≤ n) : (plA n k).length = n := by unfold plA; rw [List.length_append, List.length_replicate, List.length_replicate]; omega
theorem plA_zero (n : Nat) : plA n 0 = List.replicate n 0 := rfl
theorem plA_all (n : Nat) : plA n n = List.replicate n (-1) := by unfold plA; rw [Nat.sub_self]; simp
theorem plA_set {n k : Nat} (h : k < n) : (plA n k).set k (-1) = plA n (k + 1) := by
  apply List.ext_getElem?
  intro i
  have hl := plA_len (n := n) (k := k) (by omega)
  unfold plA at *
  rw [List.getElem?_set, hl]
  by_cases e : k = i
  · subst e
    rw [if_pos rfl, if_pos h, List.getElem?_append_left (by simp), List.getElem?_replicate, if_pos (by omega)]
  · rw [if_neg e]
    by_cases h1 : i < k
    · rw [List.getElem?_append_left (by simpa using h1), List.getElem?_append_left (by simp; omega), List.getElem?_replicate, List.getElem?_replicate, if_pos h1, if_pos (by omega)]
    · rw [List.getElem?_append_right (by simp; omega), List.getElem?_append_right (by simp; omega), List.getElem?_replicate, List.getElem?_replicate, List.length_replicate, List.length_replicate]
      by_cases h2 : i < n
      · rw [if_pos (by omega), if_pos (by omega)]
      · rw [if_neg (by omega), if_neg (by omega)]
def plB (L : List Int) (t : Nat) : List Int := (List.range L.length).map (plT L t)
theorem plB_len (L : List Int) (t : Nat) : (plB L t).length = L.length := by simp [plB]
theorem plB_zero (L : List Int) : plB L 0 = List.replicate L.length (-1) := by
  unfold plB
  rw [show (plT L 0) = fun _ => -1 from funext fun i => plT_zero L i]
  rw [List.map_const', List.length_range]
theorem plB_set {L : List Int} {t : Nat} (h : t < (srtN L).length) : (plB L t).set ((srtN L)[t]) (t : Int) = plB L (t + 1) := by
  apply List.ext_getElem?
  intro i
  rw [List.getElem?_set]
  have hs : (srtN L)[t] < L.length := (srt_mem.1 (List.getElem_mem h)).1
  unfold plB
  simp only [List.getElem?_map]
  by_cases hi : i < L.length
  · rw [List.getElem?_range hi]
    simp only [Option.map_some]
    by_cases e : (srtN L)[t] = i
    · rw [if_pos e, if_pos (by simp; omega), plT_succ h, if_pos e.symm]
    · rw [if_neg e, plT_succ h, if_neg (fun h2 => e h2.symm)]
  · rw [List.getElem?_eq_none (by simp; omega)]
    rw [if_neg (by omega)]; rfl
def plcL (L : List Int) : List Int := (List.range L.length).map (plF L)
theorem plB_all (L : List Int) : plB L (srtN L).length = plcL L := by
  unfold plB plcL
  rw [show plT L (srtN L).length = plF L from funext fun i => plT_all L i]
theorem ev_places (L : List Int) (hL : L.length ≤ 1000) (hne : ndsN L L.length ≠ []) : Ev Try.prog 37 [.agg [intsV L]] (intsV (plcL L)) := by
  unfold intsV
  refine ev_fn Try.func37 comp37 (show 1 ≤ Try.f37.ntmps by decide) ?_; unfold cf37 rf37; simp only [↓EVP0, EVQ0, EVQ1, EVQ2, EVQ3, EVQ4, EVA, EVK, EVF, ↓reduceIte, Nat.reduceEqDiff, Nat.reduceAdd, Nat.reduceSub, Nat.reduceMul, Nat.reduceLT, Nat.reduceLeDiff, reduceCtorEq, Int.reduceToNat, Int.reduceLT, Int.reduceLE, Int.reduceAdd, Int.reduceSub, Int.reduceMul, Int.reduceNeg, Int.reduceEq, Nat.reduceMod, forall_eq_or_imp, forall_eq, forall_const, cond_true, cond_false, decide_true, decide_false, true_imp_iff, implies_true, Int.cast_ofNat_Int, forall_eq']
  intro _
  refine ⟨by unfold mksC; omega, fun _ => ?_⟩
  refine lwp_for (α := Unit) L.length (fun _ _ => True) (fun k _ => [(1, .ptr 0 0 0 0 0), (3, .sl 1 0 1 0 L.length), (4, if ndsN L k = [] then .nsl else .sl 3 ((ndsN L k).length - 1) 1 0 (ndsN L k).length), (14, .rsl 1 L.length (intsF L)), (15, .sc (.int .i64 L.length)), (16, .sc (.int .i64 k))])
    (fun k _ => if ndsN L k = [] then [(0, .box [.rsl 1 L.length (intsF L)]), (0, .ints (plA L.length k))] else [(0, .box [.rsl 1 L.length (intsF L)]), (0, .ints (plA L.length k)), (0, .ints [(toI (ndsN L k)).getD 0 0]), ((ndsN L k).length - 1, .ints (toI (ndsN L k)))]) () trivial ?_ (fun _ _ => Nat.zero_le _) ?_
  · rw [show ndsN L 0 = [] from rfl, plA_zero]
    simp only [if_true]
    simp only [↓EVP0, EVQ0, EVQ1, EVQ2, EVQ3, EVQ4, EVA, EVK, EVF, ↓reduceIte, Nat.reduceEqDiff, Nat.reduceAdd, Nat.reduceSub, Nat.reduceMul, Nat.reduceLT, Nat.reduceLeDiff, reduceCtorEq, Int.reduceToNat, Int.reduceLT, Int.reduceLE, Int.reduceAdd, Int.reduceSub, Int.reduceMul, Int.reduceNeg, Int.reduceEq, Nat.reduceMod, forall_eq_or_imp, forall_eq, forall_const, cond_true, cond_false, decide_true, decide_false, true_imp_iff, implies_true, Int.cast_ofNat_Int, forall_eq']
  intro k _ hk _
  have hps := nds_succ L k
  have hple := nds_len L k
  have hpa := plA_len (n := L.length) (k := k) hk
  by_cases hq : ndsN L k = []
  · by_cases hdk : 0 ≤ L.getD k 0
    · have hp1 : ndsN L (k + 1) = [k] := by rw [hps, if_pos hdk, hq]; rfl
      simp only [hp1, hq, List.cons_ne_nil, if_true, if_false]
      unfold lb37_1
      simp only [↓EVP0, EVQ0, EVQ1, EVQ2, EVQ3, EVQ4, EVA, EVK, EVF, ↓reduceIte, Nat.reduceEqDiff, Nat.reduceAdd, Nat.reduceSub, Nat.reduceMul, Nat.reduceLT, Nat.reduceLeDiff, reduceCtorEq, Int.reduceToNat, Int.reduceLT, Int.reduceLE, Int.reduceAdd, Int.reduceSub, Int.reduceMul, Int.reduceNeg, Int.reduceEq, Nat.reduceMod, forall_eq_or_imp, forall_eq, forall_const, cond_true, cond_false, decide_true, decide_false, true_imp_iff, implies_true, Int.cast_ofNat_Int, forall_eq']
      refine ⟨fun hg => ?_, fun hg => ?_⟩
      · have hk2 : k < L.length := by have := of_decide_eq_true hg; omega
        rw [hpa]
        refine ⟨⟨by omega, by omega⟩, ⟨by omega, by omega⟩, hk2, fun _ => ?_, fun h => absurd hdk (of_decide_eq_false h)⟩
        exact ⟨by unfold appRoom; omega, by unfold In64; omega, hk2, (), plA_set hk2, rfl, rfl⟩
      · have hkk : k = L.length := by have := of_decide_eq_false hg; omega
        subst hkk
        exact absurd hq hne
    · have hp1 : ndsN L (k + 1) = [] := by rw [hps, if_neg hdk, hq]; rfl
      simp only [hp1, hq, if_true]
      unfold lb37_1
      simp only [↓EVP0, EVQ0, EVQ1, EVQ2, EVQ3, EVQ4, EVA, EVK, EVF, ↓reduceIte, Nat.reduceEqDiff, Nat.reduceAdd, Nat.reduceSub, Nat.reduceMul, Nat.reduceLT, Nat.reduceLeDiff, reduceCtorEq, Int.reduceToNat, Int.reduceLT, Int.reduceLE, Int.reduceAdd, Int.reduceSub, Int.reduceMul, Int.reduceNeg, Int.reduceEq, Nat.reduceMod, forall_eq_or_imp, forall_eq, forall_const, cond_true, cond_false, decide_true, decide_false, true_imp_iff, implies_true, Int.cast_ofNat_Int, forall_eq']
      refine ⟨fun hg => ?_, fun hg => ?_⟩
      · have hk2 : k < L.length := by have := of_decide_eq_true hg; omega
        rw [hpa]
        refine ⟨⟨by omega, by omega⟩, ⟨by omega, by omega⟩, hk2, fun h => absurd (of_decide_eq_true h) hdk, fun _ => ?_⟩
        exact ⟨by unfold In64; omega, hk2, (), plA_set hk2⟩
      · have hkk : k = L.length := by have := of_decide_eq_false hg; omega
        subst hkk
        exact absurd hq hne
  · by_cases hdk : 0 ≤ L.getD k 0
    · have hp1 : ndsN L (k + 1) = ndsN L k ++ [k] := by rw [hps, if_pos hdk]
      simp only [hp1, hq, List.append_eq_nil_iff, List.cons_ne_nil, and_false, if_false]
      unfold lb37_1
      simp only [↓EVP0, EVQ0, EVQ1, EVQ2, EVQ3, EVQ4, EVA, EVK, EVF, ↓reduceIte, Nat.reduceEqDiff, Nat.reduceAdd, Nat.reduceSub, Nat.reduceMul, Nat.reduceLT, Nat.reduceLeDiff, reduceCtorEq, Int.reduceToNat, Int.reduceLT, Int.reduceLE, Int.reduceAdd, Int.reduceSub, Int.reduceMul, Int.reduceNeg, Int.reduceEq, Nat.reduceMod, forall_eq_or_imp, forall_eq, forall_const, cond_true, cond_false, decide_true, decide_false, true_imp_iff, implies_true, Int.cast_ofNat_Int, forall_eq']
      refine ⟨fun hg => ?_, fun hg => ?_⟩
      · have hk2 : k < L.length := by have := of_decide_eq_true hg; omega
        rw [hpa]
        refine ⟨⟨by omega, by omega⟩, ⟨by omega, by omega⟩, hk2, fun _ => ?_, fun h => absurd hdk (of_decide_eq_false h)⟩
        have hl0 : 0 < (ndsN L k).length := List.length_pos_iff.2 hq
        have hl1 : (ndsN L k ++ [k]).length = (ndsN L k).length + 1 := by simp
        have hg0 : (toI (ndsN L k ++ [k])).getD 0 0 = (toI (ndsN L k)).getD 0 0 := by
          rw [toI_app, List.getD_eq_getElem?_getD, List.getElem?_append_left (by rw [toI_len]; exact hl0), ← List.getD_eq_getElem?_getD]
        rw [hl1, hg0, List.take_of_length_le (by rw [toI_len]; exact Nat.le_refl _), show (ndsN L k).length - 1 + 1 = (ndsN L k).length + 1 - 1 by omega]
        exact ⟨by rw [toI_len]; exact Nat.le_refl _, by unfold appRoom; omega, by unfold In64; omega, hk2, (), rfl, plA_set hk2, rfl, rfl, by rw [toI_app]; rfl⟩
      · have hkk : k = L.length := by have := of_decide_eq_false hg; omega
        subst hkk
        clear hp1 hps
        have hlc := lc_sortN L (h := mkH [(0, .box [.rsl 1 L.length (intsF L)]), (0, .ints (plA L.length L.length)), (0, .ints [(toI (ndsN L L.length)).getD 0 0]), ((ndsN L L.length).length - 1, .ints (toI (ndsN L L.length)))]) (k := 3) (ver := (ndsN L L.length).length - 1) (kb := 0) (vb := 0) (ndsN L L.length) (fun x hx => (mem_nds.1 hx).1) hq (by omega) (by simp [mkH]) rfl (by simp [mkH]) rfl (by decide)
        refine callK_mut hlc ?_
        simp only [↓EVP0, EVQ0, EVQ1, EVQ2, EVQ3, EVQ4, EVA, EVK, EVF, ↓reduceIte, Nat.reduceEqDiff, Nat.reduceAdd, Nat.reduceSub, Nat.reduceMul, Nat.reduceLT, Nat.reduceLeDiff, reduceCtorEq, Int.reduceToNat, Int.reduceLT, Int.reduceLE, Int.reduceAdd, Int.reduceSub, Int.reduceMul, Int.reduceNeg, Int.reduceEq, Nat.reduceMod, forall_eq_or_imp, forall_eq, forall_const, cond_true, cond_false, decide_true, decide_false, true_imp_iff, implies_true, Int.cast_ofNat_Int, forall_eq']
        intro _
        have hm := (srt_perm L).length_eq
        have hml := srt_len L
        rw [← hm, plA_all, ← plB_zero]
        refine lwp_for (α := Unit) (srtN L).length (fun _ _ => True) (fun t _ => [(3, .sl 1 0 1 0 L.length), (34, .sl 3 ((srtN L).length - 1) 1 0 (srtN L).length), (35, .sc (.int .i64 (srtN L).length)), (36, .sc (.int .i64 t))])
          (fun t _ => [(0, .box [.rsl 1 L.length (intsF L)]), (0, .ints (plB L t)), (0, .ints [(toI (ndsN L L.length)).getD 0 0]), ((srtN L).length - 1, .ints (toI (srtN L)))]) () trivial ?_ (fun _ _ => Nat.zero_le _) ?_
        · simp only [↓EVP0, EVQ0, EVQ1, EVQ2, EVQ3, EVQ4, EVA, EVK, EVF, ↓reduceIte, Nat.reduceEqDiff, Nat.reduceAdd, Nat.reduceSub, Nat.reduceMul, Nat.reduceLT, Nat.reduceLeDiff, reduceCtorEq, Int.reduceToNat, Int.reduceLT, Int.reduceLE, Int.reduceAdd, Int.reduceSub, Int.reduceMul, Int.reduceNeg, Int.reduceEq, Nat.reduceMod, forall_eq_or_imp, forall_eq, forall_const, cond_true, cond_false, decide_true, decide_false, true_imp_iff, implies_true, Int.cast_ofNat_Int, forall_eq']
          rfl
        intro t _ ht _
        have hbl := plB_len L t
        unfold lb37_0
        simp only [↓EVP0, EVQ0, EVQ1, EVQ2, EVQ3, EVQ4, EVA, EVK, EVF, ↓reduceIte, Nat.reduceEqDiff, Nat.reduceAdd, Nat.reduceSub, Nat.reduceMul, Nat.reduceLT, Nat.reduceLeDiff, reduceCtorEq, Int.reduceToNat, Int.reduceLT, Int.reduceLE, Int.reduceAdd, Int.reduceSub, Int.reduceMul, Int.reduceNeg, Int.reduceEq, Nat.reduceMod, forall_eq_or_imp, forall_eq, forall_const, cond_true, cond_false, decide_true, decide_false, true_imp_iff, implies_true, Int.cast_ofNat_Int, forall_eq']
        refine ⟨fun hg => ?_, fun hg => ?_⟩
        · have ht2 : t < (srtN L).length := by have := of_decide_eq_true hg; omega
          have hs : (srtN L)[t] < L.length := (srt_mem.1 (List.getElem_mem ht2)).1
          rw [toI_get ht2, toI_len, hbl]
          exact ⟨⟨by omega, by omega⟩, ht2, ⟨by omega, by omega⟩, hs, by unfold In64; omega, ht2, (), plB_set ht2⟩
        · have htt : t = (srtN L).length := by have := of_decide_eq_false hg; omega
          subst htt
          rw [plB_all]
          have hpl : (plcL L).length = L.length := by simp [plcL]
          exact ⟨hpl, by omega, fun _ _ => rfl⟩
    · have hp1 : ndsN L (k + 1) = ndsN L k := by rw [hps, if_neg hdk]; simp
      simp only [hp1, hq, if_false]
      unfold lb37_1
      simp only [↓EVP0, EVQ0, EVQ1, EVQ2, EVQ3, EVQ4, EVA, EVK, EVF, ↓reduceIte, Nat.reduceEqDiff, Nat.reduceAdd, Nat.reduceSub, Nat.reduceMul, Nat.reduceLT, Nat.reduceLeDiff, reduceCtorEq, Int.reduceToNat, Int.reduceLT, Int.reduceLE, Int.reduceAdd, Int.reduceSub, Int.reduceMul, Int.reduceNeg, Int.reduceEq, Nat.reduceMod, forall_eq_or_imp, forall_eq, forall_const, cond_true, cond_false, decide_true, decide_false, true_imp_iff, implies_true, Int.cast_ofNat_Int, forall_eq']
      refine ⟨fun hg => ?_, fun hg => ?_⟩
      · have hk2 : k < L.length := by have := of_decide_eq_true hg; omega
        rw [hpa]
        refine ⟨⟨by omega, by omega⟩, ⟨by omega, by omega⟩, hk2, fun h => absurd (of_decide_eq_true h) hdk, fun _ => ?_⟩
        exact ⟨by unfold In64; omega, hk2, (), plA_set hk2⟩
      · have hkk : k = L.length := by have := of_decide_eq_false hg; omega
        subst hkk
        exact absurd (show 0 ≤ L.getD L.length 0 by rw [List.getD_eq_getElem?_getD, List.getElem?_eq_none (Nat.le_refl _)]; exact Int.le_refl _) hdk
end Go.Proofs.Yteblljpbnpaplaa
namespace Go.Proofs.Yteblljpbnpaplaa
set_option linter.unusedSectionVars false
variable [DrawFlag]
set_option linter.unusedSimpArgs false
set_option linter.unusedVariables false
open Go.RowKit Go.Sort
set_option maxRecDepth 20000

def cfD (a b : Dp) : Int := orI [cmpI a.f b.f, cmpI a.t b.t, cmpI a.n b.n]
def ltD (a b : Dp) : Bool := decide (a.f < b.f ∨ (a.f = b.f ∧ (a.t < b.t ∨ (a.t = b.t ∧ a.n < b.n))))
def leD (a b : Dp) : Bool := !ltD b a
theorem cfD_lt (a b : Dp) : decide (cfD a b < 0) = ltD a b := by
  unfold cfD ltD
  refine decide_eq_decide.2 ?_
  rcases cmpI_cases a.f b.f with ⟨h, e⟩ | ⟨h, e⟩ | ⟨h, e⟩ <;> rw [e]
  · exact ⟨fun _ => .inl h, fun _ => (by decide : (-1 : Int) < 0)⟩
  · show orI [cmpI a.t b.t, cmpI a.n b.n] < 0 ↔ _
    rcases cmpI_cases a.t b.t with ⟨h2, e2⟩ | ⟨h2, e2⟩ | ⟨h2, e2⟩ <;> rw [e2]
    · exact ⟨fun _ => .inr ⟨h, .inl h2⟩, fun _ => (by decide : (-1 : Int) < 0)⟩
    · show orI [cmpI a.n b.n] < 0 ↔ _
      rcases cmpI_cases a.n b.n with ⟨h3, e3⟩ | ⟨h3, e3⟩ | ⟨h3, e3⟩ <;> rw [e3]
      · exact ⟨fun _ => .inr ⟨h, .inr ⟨h2, h3⟩⟩, fun _ => (by decide : (-1 : Int) < 0)⟩
      · exact ⟨fun hh => absurd (show (0 : Int) < 0 from hh) (by decide), fun hh => by omega⟩
      · exact ⟨fun hh => absurd (show (1 : Int) < 0 from hh) (by decide), fun hh => by omega⟩
    · exact ⟨fun hh => absurd (show (1 : Int) < 0 from hh) (by decide), fun hh => by omega⟩
  · exact ⟨fun hh => absurd (show (1 : Int) < 0 from hh) (by decide), fun hh => by omega⟩
theorem ltD_iff {a b : Dp} : ltD a b = true ↔ (a.f < b.f ∨ (a.f = b.f ∧ (a.t < b.t ∨ (a.t = b.t ∧ a.n < b.n)))) := by unfold ltD; rw [decide_eq_true_eq]
theorem ev_cmpD (a b : Dp) : Ev Try.prog 49 [.agg (dpL a), .agg (dpL b)] (.sc (.int .i64 (cfD a b))) := by
  have h1 := fun x y => ev_compare x y
  unfold dpL
  refine ev_fn Try.func49 comp49 (show 2 ≤ Try.f49.ntmps by decide) ?_; unfold cf49 rf49; simp only [↓EVP0, EVQ0, EVQ1, EVQ2, EVQ3, EVQ4, EVA, EVK, EVF, ↓reduceIte, Nat.reduceEqDiff, Nat.reduceAdd, Nat.reduceSub, Nat.reduceMul, Nat.reduceLT, Nat.reduceLeDiff, reduceCtorEq, Int.reduceToNat, Int.reduceLT, Int.reduceLE, Int.reduceAdd, Int.reduceSub, Int.reduceMul, Int.reduceNeg, Int.reduceEq, Nat.reduceMod, forall_eq_or_imp, forall_eq, forall_const, cond_true, cond_false, decide_true, decide_false, true_imp_iff, implies_true, Int.cast_ofNat_Int, forall_eq']
  first | refine qCallK_ro (h1 _ _) ?_ ?_ | refine eCallK_ro (h1 _ _) ?_ ?_
  · simp only [↓EVP0, EVQ0, EVQ1, EVQ2, EVQ3, EVQ4, EVA, EVK, EVF, ↓reduceIte, Nat.reduceEqDiff, Nat.reduceAdd, Nat.reduceSub, Nat.reduceMul, Nat.reduceLT, Nat.reduceLeDiff, reduceCtorEq, Int.reduceToNat, Int.reduceLT, Int.reduceLE, Int.reduceAdd, Int.reduceSub, Int.reduceMul, Int.reduceNeg, Int.reduceEq, Nat.reduceMod, forall_eq_or_imp, forall_eq, forall_const, cond_true, cond_false, decide_true, decide_false, true_imp_iff, implies_true, Int.cast_ofNat_Int, forall_eq']
  simp only [↓EVP0, EVQ0, EVQ1, EVQ2, EVQ3, EVQ4, EVA, EVK, EVF, ↓reduceIte, Nat.reduceEqDiff, Nat.reduceAdd, Nat.reduceSub, Nat.reduceMul, Nat.reduceLT, Nat.reduceLeDiff, reduceCtorEq, Int.reduceToNat, Int.reduceLT, Int.reduceLE, Int.reduceAdd, Int.reduceSub, Int.reduceMul, Int.reduceNeg, Int.reduceEq, Nat.reduceMod, forall_eq_or_imp, forall_eq, forall_const, cond_true, cond_false, decide_true, decide_false, true_imp_iff, implies_true, Int.cast_ofNat_Int, forall_eq']
  first | refine qCallK_ro (h1 _ _) ?_ ?_ | refine eCallK_ro (h1 _ _) ?_ ?_
  · simp only [↓EVP0, EVQ0, EVQ1, EVQ2, EVQ3, EVQ4, EVA, EVK, EVF, ↓reduceIte, Nat.reduceEqDiff, Nat.reduceAdd, Nat.reduceSub, Nat.reduceMul, Nat.reduceLT, Nat.reduceLeDiff, reduceCtorEq, Int.reduceToNat, Int.reduceLT, Int.reduceLE, Int.reduceAdd, Int.reduceSub, Int.reduceMul, Int.reduceNeg, Int.reduceEq, Nat.reduceMod, forall_eq_or_imp, forall_eq, forall_const, cond_true, cond_false, decide_true, decide_false, true_imp_iff, implies_true, Int.cast_ofNat_Int, forall_eq']
  simp only [↓EVP0, EVQ0, EVQ1, EVQ2, EVQ3, EVQ4, EVA, EVK, EVF, ↓reduceIte, Nat.reduceEqDiff, Nat.reduceAdd, Nat.reduceSub, Nat.reduceMul, Nat.reduceLT, Nat.reduceLeDiff, reduceCtorEq, Int.reduceToNat, Int.reduceLT, Int.reduceLE, Int.reduceAdd, Int.reduceSub, Int.reduceMul, Int.reduceNeg, Int.reduceEq, Nat.reduceMod, forall_eq_or_imp, forall_eq, forall_const, cond_true, cond_false, decide_true, decide_false, true_imp_iff, implies_true, Int.cast_ofNat_Int, forall_eq']
  first | refine qCallK_ro (h1 _ _) ?_ ?_ | refine eCallK_ro (h1 _ _) ?_ ?_
  · simp only [↓EVP0, EVQ0, EVQ1, EVQ2, EVQ3, EVQ4, EVA, EVK, EVF, ↓reduceIte, Nat.reduceEqDiff, Nat.reduceAdd, Nat.reduceSub, Nat.reduceMul, Nat.reduceLT, Nat.reduceLeDiff, reduceCtorEq, Int.reduceToNat, Int.reduceLT, Int.reduceLE, Int.reduceAdd, Int.reduceSub, Int.reduceMul, Int.reduceNeg, Int.reduceEq, Nat.reduceMod, forall_eq_or_imp, forall_eq, forall_const, cond_true, cond_false, decide_true, decide_false, true_imp_iff, implies_true, Int.cast_ofNat_Int, forall_eq']
  simp only [↓EVP0, EVQ0, EVQ1, EVQ2, EVQ3, EVQ4, EVA, EVK, EVF, ↓reduceIte, Nat.reduceEqDiff, Nat.reduceAdd, Nat.reduceSub, Nat.reduceMul, Nat.reduceLT, Nat.reduceLeDiff, reduceCtorEq, Int.reduceToNat, Int.reduceLT, Int.reduceLE, Int.reduceAdd, Int.reduceSub, Int.reduceMul, Int.reduceNeg, Int.reduceEq, Nat.reduceMod, forall_eq_or_imp, forall_eq, forall_const, cond_true, cond_false, decide_true, decide_false, true_imp_iff, implies_true, Int.cast_ofNat_Int, forall_eq']
  refine ⟨intsF [cmpI a.f b.f, cmpI a.t b.t, cmpI a.n b.n], fun i hi => ?_, qCallK_ro (ev_or [cmpI a.f b.f, cmpI a.t b.t, cmpI a.n b.n]) ?_ ?_⟩
  · obtain rfl | rfl | rfl : i = 0 ∨ i = 1 ∨ i = 2 := by omega
    · rfl
    · rfl
    · rfl
  · simp only [↓EVP0, EVQ0, EVQ1, EVQ2, EVQ3, EVQ4, EVA, EVK, EVF, ↓reduceIte, Nat.reduceEqDiff, Nat.reduceAdd, Nat.reduceSub, Nat.reduceMul, Nat.reduceLT, Nat.reduceLeDiff, reduceCtorEq, Int.reduceToNat, Int.reduceLT, Int.reduceLE, Int.reduceAdd, Int.reduceSub, Int.reduceMul, Int.reduceNeg, Int.reduceEq, Nat.reduceMod, forall_eq_or_imp, forall_eq, forall_const, cond_true, cond_false, decide_true, decide_false, true_imp_iff, implies_true, Int.cast_ofNat_Int, forall_eq']
  simp only [↓EVP0, EVQ0, EVQ1, EVQ2, EVQ3, EVQ4, EVA, EVK, EVF, ↓reduceIte, Nat.reduceEqDiff, Nat.reduceAdd, Nat.reduceSub, Nat.reduceMul, Nat.reduceLT, Nat.reduceLeDiff, reduceCtorEq, Int.reduceToNat, Int.reduceLT, Int.reduceLE, Int.reduceAdd, Int.reduceSub, Int.reduceMul, Int.reduceNeg, Int.reduceEq, Nat.reduceMod, forall_eq_or_imp, forall_eq, forall_const, cond_true, cond_false, decide_true, decide_false, true_imp_iff, implies_true, Int.cast_ofNat_Int, forall_eq']
  rfl
theorem swo_ltD : SWO (ltOf cfD) := by
  have e : ∀ x y : Dp, (ltOf cfD) x y = ltD x y := fun x y => cfD_lt x y
  refine ⟨fun x => ?_, fun x y z h1 h2 => ?_, fun x y z h1 h2 => ?_⟩
  · rw [e, ← Bool.not_eq_true, ltD_iff]; omega
  · rw [e, ltD_iff] at *; omega
  · rw [e, ← Bool.not_eq_true, ltD_iff] at *; omega
theorem cmpLaysD (blk off size : Nat) (w : World) : CmpLays Try.prog 49 #[] dpC 3 cfD blk off size w := by
  intro m os dk _ x y
  have := @ev_cmpD ⟨True⟩ x y (fun _ => none) (sortWorldK dpC 3 w blk off m dk os) (#[.agg (dpC x).toArray, .agg (dpC y).toArray] ++ #[]) (fun b o hb => by simp at hb) (fun _ _ => trivial) rfl (fun i a hi => by
    have hd : ∀ d : Dp, Ro (fun _ => none) (.agg (dpL d)) (.agg (dpC d).toArray) := fun d => by
      refine .agg _ _ rfl (fun j c hc => ?_) (fun j hj => ?_)
      · match j, hc with
        | 0, hc => simp [dpL] at hc; subst hc; exact .sc _ rfl
        | 1, hc => simp [dpL] at hc; subst hc; exact .sc _ rfl
        | 2, hc => simp [dpL] at hc; subst hc; exact .sc _ rfl
        | j + 3, hc => simp [dpL] at hc
      · match j, hj with
        | 0, _ => rfl
        | 1, _ => rfl
        | 2, _ => rfl
        | j + 3, hj => simp [dpC] at hj; omega
    match i, hi with
    | 0, hi => simp at hi; subst hi; exact hd x
    | 1, hi => simp at hi; subst hi; exact hd y
    | i + 2, hi => simp at hi)
  refine this.mono ?_
  rintro e w' ⟨v, R2, rfl, _, _, _, ⟨hb1, hb2⟩, hv⟩
  have hv2 := sc_invQ hv
  subst hv2
  exact ⟨rfl, grow_of_below hb1 (hb2 trivial)⟩
theorem w_sortD (blk cap : Nat) (l : List Dp) (w : World) (hH : HoldsK dpC 3 w blk 0 l.toArray) (hblk : blk < w.heap.size) (hsz : l.length < 4611686018427387904) :
    Calls Try.prog 66 #[.slice (some ⟨blk, 0, none⟩) l.length cap, .func (.func 49) #[] #[]] w fun e w' =>
      e = .returned (.tuple #[]) ∧ ∃ n os, w' = sortWorldK dpC 3 w blk 0 n (l.mergeSort leD).toArray os := by
  have eg : ∀ args w, (callFunc 49 args).run Try.prog w = .ok (.enter 49 args) w := enters_of Try.func49 (by kernel_rfl) rfl
  have hcon := Try.slices_SortFuncD_total 3 Try.isAgg26 Try.sizeOf26 dpC (fun _ => rfl) (fun x v hv => by simp [dpC] at hv; rcases hv with rfl | rfl | rfl <;> rfl) cfD swo_ltD 49 #[] blk 0 cap l.toArray w eg (cmpLaysD blk 0 l.toArray.size w) hH hblk (by simpa using hsz) (fun x y h1 h2 => by
    have f1 : ltD x y = false := by rw [← cfD_lt]; exact h1
    have f2 : ltD y x = false := by rw [← cfD_lt]; exact h2
    rw [← Bool.not_eq_true, ltD_iff] at f1 f2
    cases x; cases y
    simp only [Dp.mk.injEq] at *
    omega)
  rw [List.size_toArray] at hcon
  refine hcon.mono ?_
  rintro e w' ⟨rfl, n, os, rfl⟩
  refine ⟨rfl, n, os, ?_⟩
  have : (fun x y => !(ltOf cfD) y x) = leD := by
    funext x y
    show (!decide (cfD y x < 0)) = leD x y
    rw [cfD_lt]; rfl
  rw [this]
end Go.Proofs.Yteblljpbnpaplaa
namespace Go.Proofs.Yteblljpbnpaplaa
set_option linter.unusedSimpArgs false
set_option linter.unusedVariables false
open Go.RowKit Go.Maps Go.Shelf Go.Sort
open Go.WideElems (Fit rg)
set_option maxRecDepth 20000

instance drawDown : DrawFlag := ⟨False⟩

def rdTrue (_ : Value) : Option (DataW Unit × List MemPlace) := some (.lit (.bool true), [])
theorem dps_own {w : World} {b : Nat} {ents : Array MapEntry} {clock : Nat} {l : List Dp} (hw : w.heap[b]? = some (.map ents clock)) (hsz : ents.size = l.length) (hb : bornOk ents clock) (hk : ∀ (i : Nat) (d : Dp), l[i]? = some d → ∃ e : MapEntry, ents[i]? = some e ∧ e.key = encDp d) (hn : l.Nodup) (hin : ∀ d, d ∈ l → DpIn d) (hlen : l.length ≤ 100000) :
    ∃ D0 : DataW Unit, w.ownsMap Try.prog 26 rdTrue b l.length D0 ∧ Maps.size D0 = l.length ∧ ∀ ss, ColD D0 (fun _ => false) ss → ss.Perm l := by
  have hkeys : ents.toList.map (·.key) = l.map encDp := by
    apply List.ext_getElem?
    intro i
    rw [List.getElem?_map, List.getElem?_map, Array.getElem?_toList]
    by_cases hi : i < l.length
    · obtain ⟨e, he, he2⟩ := hk i l[i] (List.getElem?_eq_getElem hi)
      rw [he, List.getElem?_eq_getElem hi]
      simp [he2]
    · rw [List.getElem?_eq_none (by omega), Array.getElem?_eq_none (by omega)]; rfl
  have hmem : ∀ e, e ∈ ents.toList → ∃ d, d ∈ l ∧ e.key = encDp d := by
    intro e he
    have : e.key ∈ l.map encDp := by rw [← hkeys]; exact List.mem_map.2 ⟨e, he, rfl⟩
    obtain ⟨d, h1, h2⟩ := List.mem_map.1 this
    exact ⟨d, h1, h2.symm⟩
  have hmem2 : ∀ d, d ∈ l → ∃ e, e ∈ ents.toList ∧ e.key = encDp d := by
    intro d hd
    have : encDp d ∈ ents.toList.map (·.key) := by rw [hkeys]; exact List.mem_map.2 ⟨d, hd, rfl⟩
    obtain ⟨e, h1, h2⟩ := List.mem_map.1 this
    exact ⟨e, h1, h2⟩
  have hrd : ∀ e, e ∈ ents.toList → ∃ d kl, d ∈ l ∧ e.key = encDp d ∧ keyOf Try.prog 26 (encDp d) = some kl ∧ Go.WideElems.rd Try.prog 26 rdTrue e = some (kl, .lit (.bool true)) := by
    intro e he
    obtain ⟨d, hd, hed⟩ := hmem e he
    obtain ⟨kl, hkl⟩ := Option.isSome_iff_exists.1 (keyD_some (hin d hd))
    refine ⟨d, kl, hd, hed, hkl, ?_⟩
    unfold Go.WideElems.rd rdTrue
    rw [hed, hkl]; rfl
  have hfit : Fit Try.prog 26 rdTrue ents clock := by
    refine ⟨by rw [hsz]; unfold maxLen; omega, ⟨fun e he => ?_, hb.2, ?_⟩, fun e he => ?_⟩
    · obtain ⟨i, hi, hie⟩ := List.getElem_of_mem he
      exact hb.1 i e (by rw [← Array.getElem?_toList, List.getElem?_eq_getElem hi, hie])
    · rw [hkeys]
      exact List.Pairwise.map _ (fun a b hab e => hab (encDp_inj e)) hn
    · obtain ⟨d, kl, _, _, _, h⟩ := hrd e he
      exact ⟨_, h⟩
  have hhas : ∀ x kl, keyOf Try.prog 26 (encDp x) = some kl → (has (.map ((ents.toList.map (rg Try.prog 26 rdTrue)).foldr DataW.insert [])) kl = true ↔ x ∈ l) := by
    intro x kl hx
    rw [has_eq, List.any_eq_true]
    constructor
    · rintro ⟨p, hp, hs⟩
      obtain ⟨e, he, rfl⟩ := List.mem_map.1 (mem_sorted.1 hp)
      obtain ⟨d, kl2, hd, hed, hkl2, hr⟩ := hrd e he
      have hrg : rg Try.prog 26 rdTrue e = (kl2, .lit (.bool true)) := by unfold rg; rw [hr]; rfl
      rw [hrg] at hs
      by_cases e2 : kl2 = kl
      · subst e2
        rw [encDp_inj (keyD_keyed.inj hx hkl2)]; exact hd
      · rw [sameKey_ne e2] at hs; cases hs
    · intro hx2
      obtain ⟨e, he, hed⟩ := hmem2 x hx2
      obtain ⟨d, kl2, hd, hed2, hkl2, hr⟩ := hrd e he
      have : d = x := encDp_inj (hed2.symm.trans hed)
      subst this
      have hrg : rg Try.prog 26 rdTrue e = (kl2, .lit (.bool true)) := by unfold rg; rw [hr]; rfl
      refine ⟨rg Try.prog 26 rdTrue e, mem_sorted.2 (List.mem_map.2 ⟨e, he, rfl⟩), ?_⟩
      rw [hrg]
      rw [hx] at hkl2
      injection hkl2 with hkl2
      subst hkl2
      obtain ⟨s, rfl⟩ := litD_str hx
      simp [Lit.sameKey]
  refine ⟨_, ⟨ents, clock, hw, hfit, by omega, rfl⟩, ?_, fun ss hss => ?_⟩
  · rw [size_eq, length_sorted, List.length_map, Array.length_toList, hsz]
  · refine (List.perm_ext_iff_of_nodup hss.1 hn).2 fun x => ?_
    rw [hss.2 x]
    constructor
    · rintro ⟨h1, h2, _⟩
      obtain ⟨kl, hkl⟩ := Option.isSome_iff_exists.1 h1
      rw [litD_of hkl] at h2
      exact (hhas x kl hkl).1 h2
    · intro hx
      have h1 := keyD_some (hin x hx)
      obtain ⟨kl, hkl⟩ := Option.isSome_iff_exists.1 h1
      exact ⟨h1, by rw [litD_of hkl]; exact (hhas x kl hkl).2 hx, rfl⟩
theorem dpsC_get (l : List Dp) (i j : Nat) (hi : i < l.length) (hj : j < 3) : (dpsC l)[i * 3 + j]? = (dpC l[i])[j]? := by
  induction l generalizing i with
  | nil => simp at hi
  | cons d r ih =>
    show (dpC d ++ dpsC r)[i * 3 + j]? = _
    cases i with
    | zero =>
      rw [Nat.zero_mul, Nat.zero_add, List.getElem?_append_left (show j < 3 from hj)]; rfl
    | succ i =>
      rw [List.getElem?_append_right (show (dpC d).length ≤ _ by show 3 ≤ _; omega), show (i + 1) * 3 + j - (dpC d).length = i * 3 + j by show (i + 1) * 3 + j - 3 = _; omega, ih i (by simpa using hi)]; rfl
theorem holdsD {w : World} {g : Nat} {cur : Array Value} {ss : List Dp} (hb : w.heap[g]? = some (.cells cur 26 (0, 0))) (ht : cur.toList.take (ss.length * 3) = dpsC ss) : HoldsK dpC 3 w g 0 ss.toArray := by
  intro t ht2
  have h3 : t < ss.length * 3 := by simpa using ht2
  refine ⟨?_, by simp [World.frozen?, hb]⟩
  rw [get_flatK _ _ _ _ (by simpa using h3)]
  have hi : t / 3 < ss.length := by omega
  have hj : t % 3 < 3 := Nat.mod_lt _ (by omega)
  have h4 : (cur.toList.take (ss.length * 3))[t]? = (dpsC ss)[t]? := by rw [ht]
  rw [List.getElem?_take_of_lt h3] at h4
  have h5 := dpsC_get ss (t / 3) (t % 3) hi hj
  rw [show t / 3 * 3 + t % 3 = t by omega] at h5
  rw [h5, Array.getElem?_toList] at h4
  simp only [World.cell?, hb, Nat.zero_add]
  simp only [Option.isSome_none, Bool.false_eq_true, if_false, id]
  rw [h4]
  rw [getElem!_pos ss.toArray (t / 3) (by simpa using hi)]
  have e : (ss.toArray)[t / 3]'(by simpa using hi) = ss[t / 3] := by simp
  rw [e]
  have hlen : t % 3 < (dpC ss[t / 3]).length := hj
  rw [List.getElem?_eq_getElem hlen, getElem!_pos (dpC ss[t / 3]) (t % 3) hlen]
end Go.Proofs.Yteblljpbnpaplaa
namespace Go.Proofs.Yteblljpbnpaplaa
set_option linter.unusedSimpArgs false
set_option linter.unusedVariables false
open Go.RowKit Go.Maps Go.Shelf Go.Sort
set_option maxRecDepth 20000

theorem leD_iff {a b : Dp} : leD a b = true ↔ ¬ (b.f < a.f ∨ (b.f = a.f ∧ (b.t < a.t ∨ (b.t = a.t ∧ b.n < a.n)))) := by
  unfold leD
  rw [Bool.not_eq_true', ← ltD_iff, Bool.not_eq_true]
theorem sortD_perm {l l' : List Dp} (h : l.Perm l') : l.mergeSort leD = l'.mergeSort leD := by
  have tr : ∀ a b c : Dp, leD a b = true → leD b c = true → leD a c = true := fun a b c h1 h2 => by rw [leD_iff] at *; omega
  have to : ∀ a b : Dp, (leD a b || leD b a) = true := fun a b => by rw [Bool.or_eq_true, leD_iff, leD_iff]; omega
  refine List.Perm.eq_of_pairwise (le := fun a b => leD a b = true) (fun a b _ _ h1 h2 => ?_) (List.pairwise_mergeSort tr to l) (List.pairwise_mergeSort tr to l') (((List.mergeSort_perm l leD).trans h).trans (List.mergeSort_perm l' leD).symm)
  rw [leD_iff] at h1 h2
  cases a; cases b
  simp only [Dp.mk.injEq] at *
  omega
def rowD (w : World) (B : Nat) (v : Value) (l : List Dp) : Prop :=
  (v = .slice none 0 0 ∧ l = []) ∨ ∃ g cap, v = .slice (some ⟨g, 0, none⟩) l.length cap ∧ B ≤ g ∧ l.length ≤ cap ∧ cap ≤ maxLen ∧ (∃ c, w.heap[g]? = some (.cells c 26 (0, 0))) ∧ HoldsK dpC 3 w g 0 l.toArray
theorem below_sort {w W : World} {g n : Nat} {d : Array Dp} {os : Array Obj} (hb : Below w.heap.size w W) (hg : w.heap.size ≤ g) : Below w.heap.size w (sortWorldK dpC 3 W g 0 n d os) := by
  refine ⟨hb.os, hb.tape, hb.output, Nat.le_trans hb.size (sort_size id g 0 n (flatK dpC 3 d) os), fun k hk => ?_⟩
  have h1 : k < W.heap.size := Nat.lt_of_lt_of_le hk hb.size
  have h2 := sort_heap (w := W) id g 0 n (flatK dpC 3 d) os k h1
  rw [if_neg (by omega)] at h2
  exact h2.trans (hb.block k hk)
set_option maxHeartbeats 2000000 in
theorem w_sortedFn (l : List Dp) (hlen : l.length ≤ 100000) {D0 : DataW Unit} {Bm Bo b : Nat} {w : World} (hBm : Bm < w.heap.size) (hm : w.cell? ⟨Bm, Bo, none⟩ = some (.map (some b))) (hown : w.ownsMap Try.prog 26 rdTrue b l.length D0) (hsz : Maps.size D0 = l.length)
    (hD : ∀ ss, ColD D0 (fun _ => false) ss → ss.Perm l) :
    Calls Try.prog 47 #[.func (.func 67) #[] #[.pointer (some ⟨Bm, Bo, none⟩)], .func (.func 49) #[] #[]] w fun e w' =>
      ∃ v, e = .returned v ∧ Below w.heap.size w w' ∧ rowD w' w.heap.size v (l.mergeSort leD) := by
  have e67 : ∀ args w, (callFunc 67 args).run Try.prog w = .ok (.enter 67 args) w := enters_of Try.func67 (by kernel_rfl) rfl
  have e65 : ∀ args w, (callFunc 65 args).run Try.prog w = .ok (.enter 65 args) w := enters_of Try.func65 (by kernel_rfl) rfl
  have e66 : ∀ args w, (callFunc 66 args).run Try.prog w = .ok (.enter 66 args) w := enters_of Try.func66 (by kernel_rfl) rfl
  have hcol := callsIn_wide.1 (collD_in Fence.wide 10 trivial trivial rfl (by omega) 67 #[.pointer (some ⟨Bm, Bo, none⟩)] trivial e67 (N := Maps.size D0) (by rw [hsz]; unfold maxLen; omega) (by rw [hsz]; omega) w
    (keysD_stops Fence.wide 8 trivial rfl (by omega) Bm Bo b l.length D0 w hBm hm hown))
  go_enter Try.func47, Try.ntmps47
  go_wp2_with (go_at_call 65; refine hcol.mono ?_; clear hcol; rintro e w1 ⟨v, ss, rfl, hS, hrow, hnil, hb⟩)
  have hp := hD ss hS
  have hll := hp.length_eq
  rcases hrow.2 with ⟨rfl, h0⟩ | ⟨g, cap, cur, rfl, hg, hgb, hc1, hc2, hc3, hc4⟩
  · have hss : ss = [] := List.length_eq_zero_iff.1 h0
    subst hss
    have hl0 : l = [] := List.length_eq_zero_iff.1 (by rw [← hll]; rfl)
    subst hl0
    refine (Try.slices_SortFuncD_none (α := Nat) none 0 _ w1).mono ?_
    rintro e w' ⟨rfl, rfl⟩
    go_wp2
    go_ret
    exact ⟨_, rfl, hb, .inl ⟨rfl, List.mergeSort_nil⟩⟩
  · have hgl : g < w1.heap.size := (Array.getElem?_eq_some_iff.1 hgb).1
    have hH := holdsD hgb hc4
    refine (w_sortD g cap ss w1 hH hgl (by omega)).mono ?_
    rintro e w' ⟨rfl, n, os, rfl⟩
    have hH2 := holdsK_sortWorldK_c dpC 3 w1 g 0 ss.toArray (ss.mergeSort leD).toArray n os hH hgl (by simp)
    have hb2 := below_sort (n := n) (d := (ss.mergeSort leD).toArray) (os := os) hb hg
    have hcell := sort_heap (w := w1) id g 0 n (flatK dpC 3 (ss.mergeSort leD).toArray) os g hgl
    rw [if_pos rfl, hgb] at hcell
    have hcell2 : (sortWorldK dpC 3 w1 g 0 n (ss.mergeSort leD).toArray os).heap[g]? = some (.cells (putCells id 0 (flatK dpC 3 (ss.mergeSort leD).toArray) cur) 26 (0, 0)) := hcell
    generalize sortWorldK dpC 3 w1 g 0 n (ss.mergeSort leD).toArray os = w2 at *
    clear hcell
    go_wp2
    go_ret
    refine ⟨_, rfl, hb2, .inr ⟨g, cap, ?_, hg, ?_, hc2, ⟨_, hcell2⟩, ?_⟩⟩
    · rw [List.length_mergeSort, ← hll]; rfl
    · rw [List.length_mergeSort, ← hll]; exact hc1
    · rw [← sortD_perm hp]; exact hH2
theorem lc_sortedFn {h : LH} {kb vb km vm : Nat} (l : List Dp) (hin : ∀ d, d ∈ l → DpIn d) (hlen : l.length ≤ 100000) (hkb : kb < h.n) (hbx : h.f kb = (vb, .box [.mp km vm])) (hkm : km < h.n) (hmp : h.f km = (vm, .map (setM encDp l))) :
    LCall Try.prog 47 [.fn 67 [.ptr kb vb 0 0 0], .fn 49 []] h (dpsV (l.mergeSort leD)) h := by
  intro B R ι w ⟨vs⟩ hB hr hsz hargs
  match vs, hsz with
  | [v0, v1], _ =>
    obtain ⟨cs0, e0, hc0, hcv⟩ := (hargs 0 _ rfl).fn_inv
    obtain ⟨cs1, e1, hc1, _⟩ := (hargs 1 _ rfl).fn_inv
    change v0 = _ at e0
    change v1 = _ at e1
    subst e0; subst e1
    obtain ⟨a, ea, _, _, hpa⟩ := (hcv 0 _ rfl).ptr_inv
    have hpa := hpa (by rw [hbx])
    simp only [Nat.zero_mul, Nat.add_zero] at hpa
    subst hpa
    have hcs0 : cs0 = #[.pointer (some ⟨(ι kb).b, (ι kb).o, none⟩)] := by
      match cs0, hc0 with
      | ⟨[c]⟩, _ => rw [show c = _ from ea]
    have hcs1 : cs1 = #[] := by
      match cs1, hc1 with
      | ⟨[]⟩, _ => rfl
    subst hcs0; subst hcs1
    -- the box
    have hlv : (h.f kb).2.live = true := by rw [hbx]; rfl
    have hmpf : (h.f kb).2.isMap = false := by rw [hbx]; rfl
    have hm0 : (ι kb).m ≠ 0 := fun e => by
      have := hr.empty kb hkb hlv hmpf e
      rw [hbx] at this
      exact absurd this (show ¬ (1 : Nat) = 0 by decide)
    obtain ⟨cl, el, hw, hcs, hle, hpl, hcl⟩ := (hr.cells kb hkb hlv hmpf hm0).ex
    obtain ⟨vmv, hv1, hv2⟩ := hcl 0 0 (.mp km vm) (by rw [hbx]; rfl)
    obtain ⟨b, eb, _, _, hbb⟩ := hv2.mp_inv
    have hbb := hbb (by rw [hmp])
    subst hbb; subst eb
    have hz : (h.f kb).2.sz = 0 := by rw [hbx]; rfl
    rw [hz] at hv1
    have hcellb : w.cell? ⟨(ι kb).b, (ι kb).o, none⟩ = some (.map (some (ι km).b)) := by
      simp only [World.cell?, hw]
      simpa using hv1
    -- the map
    obtain ⟨ents, clock, m1, m2, ⟨m3, m4⟩, m5⟩ := hr.maps km (setM encDp l) hkm (by rw [hmp])
    have hsl : (setM encDp l).length = l.length := List.length_map _
    have hnd : l.Nodup := by
      have : (l.map encDp).Nodup := by
        have e : (setM encDp l).map (·.1) = l.map encDp := by simp [setM]
        rw [← e]; exact m4
      exact (List.pairwise_map.1 this).imp fun hab e => hab (by rw [e])
    obtain ⟨D0, g1, g2, g3⟩ := dps_own (l := l) m1 (by rw [m2, hsl]) m3 (fun i d hd => by
      obtain ⟨e, he, hk, _⟩ := m5 i (encDp d, .sc (.bool true)) (by unfold setM; rw [List.getElem?_map, hd]; rfl)
      exact ⟨e, he, hk⟩) hnd hin hlen
    have hbs := (hr.base kb hkb hlv (.inl hm0)).2.1
    refine (w_sortedFn l hlen hbs hcellb g1 g2 g3).mono ?_
    rintro e w' ⟨v, rfl, hbel, hrow⟩
    rcases hrow with ⟨rfl, hl0⟩ | ⟨g, cap, rfl, hg, hc1, hc2, ⟨c, hgc⟩, hH⟩
    · refine ⟨_, R, ι, rfl, trans_call hB hr (R2 := R) (fun b o hbo => by rw [hbel.block b (Array.getElem?_eq_some_iff.1 (hr.ro b o hbo)).1]; exact hr.ro b o hbo) ⟨hbel, fun d => d.elim⟩ (fun _ _ h => h) (fun _ _ => rfl) rfl, .ro ?_⟩
      rw [hl0]
      exact .rsl _ _ _ none 0 0 0 (fun _ _ => undef) (Nat.le_refl _) (by unfold maxLen; omega) (fun h => absurd h (Nat.lt_irrefl _)) (fun i hi => absurd hi (Nat.not_lt_zero _)) (fun i j hi => absurd hi (Nat.not_lt_zero _)) (fun i j c hi => absurd hi (Nat.not_lt_zero _)) (fun i j hi => absurd hi (Nat.not_lt_zero _))
    · have hRg : ∀ b o, R b = some o → b < w.heap.size := fun b o hbo => (Array.getElem?_eq_some_iff.1 (hr.ro b o hbo)).1
      refine ⟨_, fun b => if b = g then some (.cells c 26 (0, 0)) else R b, ι, rfl, trans_call hB hr (R2 := fun b => if b = g then some (.cells c 26 (0, 0)) else R b) (fun b o hbo => ?_) ⟨hbel, fun d => d.elim⟩ (fun b o hbo => ?_) (fun b hb => ?_) rfl, .ro ?_⟩
      · have hbo2 : (if b = g then some (.cells c 26 (0, 0)) else R b) = some o := hbo
        by_cases e : b = g
        · rw [if_pos e] at hbo2
          rw [e, hgc]; exact hbo2
        · rw [if_neg e] at hbo2
          rw [hbel.block b (hRg b o hbo2)]; exact hr.ro b o hbo2
      · show (if b = g then _ else R b) = some o
        rw [if_neg (by have := hRg b o hbo; omega)]; exact hbo
      · exact if_neg (by omega)
      · refine .rsl _ _ _ _ cap g 0 (fun i j => (dpC ((l.mergeSort leD).getD i default)).getD j undef) hc1 hc2 (fun _ => rfl) (fun _ _ => rfl) (fun i j hi hj => ?_) (fun i j x hi hx => ?_) (fun i j hi hj => ?_)
        · have h1 := (HoldsK.cell hH (i := i) (c := j) (by simpa using hi) hj).1
          unfold roCell
          simp only [if_true]
          simp only [World.cell?, hgc] at h1
          rw [getElem!_pos (l.mergeSort leD).toArray i (by simpa using hi)] at h1
          have e1 : ((l.mergeSort leD).toArray)[i]'(by simpa using hi) = (l.mergeSort leD).getD i default := by
            rw [List.getD_eq_getElem?_getD, List.getElem?_eq_getElem hi]; simp
          rw [e1] at h1
          have hlen3 : j < (dpC ((l.mergeSort leD).getD i default)).length := hj
          rw [getElem!_pos _ j hlen3] at h1
          rw [List.getD_eq_getElem?_getD, List.getElem?_eq_getElem hlen3]
          simpa using h1
        · have hx2 : (dpL ((l.mergeSort leD).getD i default))[j]? = some x := hx
          generalize (l.mergeSort leD).getD i default = d at hx2 ⊢
          match j, hx2 with
          | 0, hx2 => simp [dpL] at hx2; subst hx2; exact .sc _ rfl
          | 1, hx2 => simp [dpL] at hx2; subst hx2; exact .sc _ rfl
          | 2, hx2 => simp [dpL] at hx2; subst hx2; exact .sc _ rfl
          | j + 3, hx2 => simp [dpL] at hx2
        · generalize (l.mergeSort leD).getD i default = d
          match j, hj with
          | 0, _ => rfl
          | 1, _ => rfl
          | 2, _ => rfl
          | j + 3, hj => omega
end Go.Proofs.Yteblljpbnpaplaa
namespace Go.Proofs.Yteblljpbnpaplaa
set_option linter.unusedSimpArgs false
set_option linter.unusedVariables false
open Go.RowKit Go.Maps
set_option maxRecDepth 20000

theorem dpsF_eq (l : List Dp) (i : Nat) : dpsF l i = [.sc (.int .i64 (l.getD i default).f), .sc (.int .i64 (l.getD i default).t), .sc (.int .i64 (l.getD i default).n)] := rfl
theorem EVFD : (∀ (l : List Dp) (i : Nat), dpsF l i = [.sc (.int .i64 (l.getD i default).f), .sc (.int .i64 (l.getD i default).t), .sc (.int .i64 (l.getD i default).n)]) ∧ True := ⟨dpsF_eq, trivial⟩
def unq (acc : List Dp) : List Dp → List Dp
  | [] => acc
  | x :: r => unq (if x ∈ acc then acc else acc ++ [x]) r
theorem unq_snoc (acc l : List Dp) (x : Dp) : unq acc (l ++ [x]) = if x ∈ unq acc l then unq acc l else unq acc l ++ [x] := by
  induction l generalizing acc with
  | nil => rfl
  | cons y r ih => exact ih _
theorem unq_nodup {acc l : List Dp} (h : acc.Nodup) : (unq acc l).Nodup := by
  induction l generalizing acc with
  | nil => exact h
  | cons y r ih =>
    show (unq (if y ∈ acc then acc else acc ++ [y]) r).Nodup
    refine ih ?_
    by_cases e : y ∈ acc
    · rw [if_pos e]; exact h
    · rw [if_neg e]
      exact List.nodup_append.2 ⟨h, by simp, fun a ha b hb hab => by simp at hb; subst hb; subst hab; exact e ha⟩
theorem unq_mem {acc l : List Dp} {x : Dp} : x ∈ unq acc l ↔ x ∈ acc ∨ x ∈ l := by
  induction l generalizing acc with
  | nil => simp [unq]
  | cons y r ih =>
    show x ∈ unq (if y ∈ acc then acc else acc ++ [y]) r ↔ _
    rw [ih]
    by_cases e : y ∈ acc
    · rw [if_pos e]
      constructor
      · rintro (h | h)
        · exact .inl h
        · exact .inr (List.mem_cons_of_mem _ h)
      · rintro (h | h)
        · exact .inl h
        · rcases List.mem_cons.1 h with rfl | h
          · exact .inl e
          · exact .inr h
    · rw [if_neg e]
      rw [List.mem_append, List.mem_singleton, List.mem_cons, or_assoc]
theorem unq_len {acc l : List Dp} : (unq acc l).length ≤ acc.length + l.length := by
  induction l generalizing acc with
  | nil => exact Nat.le_refl _
  | cons y r ih =>
    show (unq (if y ∈ acc then acc else acc ++ [y]) r).length ≤ _
    refine Nat.le_trans ih ?_
    by_cases e : y ∈ acc
    · rw [if_pos e, List.length_cons]; omega
    · rw [if_neg e, List.length_append, List.length_singleton, List.length_cons]; omega
theorem mput_setM_mem {α : Type} {f : α → Value} (hf : ∀ x y, f x = f y → x = y) (l : List α) (x : α) (hx : x ∈ l) : mput (setM f l) (f x) (.sc (.bool true)) = setM f l := by
  induction l with
  | nil => simp at hx
  | cons y r ih =>
    simp only [setM, List.map_cons, mput]
    by_cases e : f y = f x
    · rw [if_pos e, e]
    · rw [if_neg e]
      have hxr : x ∈ r := by
        rcases List.mem_cons.1 hx with rfl | h
        · exact absurd rfl e
        · exact h
      have := ih hxr
      simp only [setM] at this
      rw [this]
theorem mput_unq (acc l : List Dp) (x : Dp) : mput (setM encDp (unq acc l)) (encDp x) (.sc (.bool true)) = setM encDp (unq acc (l ++ [x])) := by
  rw [unq_snoc]
  by_cases e : x ∈ unq acc l
  · rw [if_pos e]; exact mput_setM_mem (fun _ _ h => encDp_inj h) _ _ e
  · rw [if_neg e]; exact mput_setM (fun _ _ h => encDp_inj h) _ _ e
theorem keysD_ok {l : List Dp} {x : Dp} (h : ∀ y, y ∈ l → DpIn y) (hx : DpIn x) : keysOk Try.prog 26 (setM encDp l) (encDp x) :=
  keys_setM fun y hy => by
    rcases List.mem_cons.1 hy with rfl | hy
    · exact keyD_some hx
    · exact keyD_some (h y hy)
def uniE (a b : List Dp) : List Dp := (unq (unq [] a) b).mergeSort leD
theorem lc_keys (es : List (Value × LV)) (ha : allC 2 (es.map (·.2))) : LCall Try.prog 48 [.mp 0 0] (mkH [(0, .map es)]) (.fn 67 [.ptr 1 0 0 0 0]) (mkH [(0, .map es), (0, .box [.mp 0 0])]) := by
  refine lcall_of_lwp Try.func48 comp48 (by decide) (by simp [mkH]) ?_
  unfold cf48 rf48
  simp only [↓EVP0, EVQ0, EVQ1, EVQ2, EVQ3, EVQ4, EVA, EVK, EVF,EVFD, ↓reduceIte, Nat.reduceEqDiff, Nat.reduceAdd, Nat.reduceSub, Nat.reduceMul, Nat.reduceLT, Nat.reduceLeDiff, reduceCtorEq, Int.reduceToNat, Int.reduceLT, Int.reduceLE, Int.reduceAdd, Int.reduceSub, Int.reduceMul, Int.reduceNeg, Int.reduceEq, Nat.reduceMod, forall_eq_or_imp, forall_eq, forall_const, cond_true, cond_false, decide_true, decide_false, true_imp_iff, implies_true, Int.cast_ofNat_Int, forall_eq']
  have e : ∀ s : LS, op1 s (.const .nilFunc) = .sc .nilFunc := fun _ => rfl
  rw [e]
  unfold fin2
  simp only [↓EVP0, EVQ0, EVQ1, EVQ2, EVQ3, EVQ4, EVA, EVK, EVF,EVFD, ↓reduceIte, Nat.reduceEqDiff, Nat.reduceAdd, Nat.reduceSub, Nat.reduceMul, Nat.reduceLT, Nat.reduceLeDiff, reduceCtorEq, Int.reduceToNat, Int.reduceLT, Int.reduceLE, Int.reduceAdd, Int.reduceSub, Int.reduceMul, Int.reduceNeg, Int.reduceEq, Nat.reduceMod, forall_eq_or_imp, forall_eq, forall_const, cond_true, cond_false, decide_true, decide_false, true_imp_iff, implies_true, Int.cast_ofNat_Int, forall_eq']
  exact ha
theorem ev_union (a b : List Dp) (ha : ∀ d, d ∈ a → DpIn d) (hb : ∀ d, d ∈ b → DpIn d) (hla : a.length ≤ 1000) (hlb : b.length ≤ 1000) : Ev Try.prog 32 [dpsV a, dpsV b] (dpsV (uniE a b)) := by
  unfold dpsV
  refine ev_fn Try.func32 comp32 (show 2 ≤ Try.f32.ntmps by decide) ?_; unfold cf32 rf32; simp only [↓EVP0, EVQ0, EVQ1, EVQ2, EVQ3, EVQ4, EVA, EVK, EVF,EVFD, ↓reduceIte, Nat.reduceEqDiff, Nat.reduceAdd, Nat.reduceSub, Nat.reduceMul, Nat.reduceLT, Nat.reduceLeDiff, reduceCtorEq, Int.reduceToNat, Int.reduceLT, Int.reduceLE, Int.reduceAdd, Int.reduceSub, Int.reduceMul, Int.reduceNeg, Int.reduceEq, Nat.reduceMod, forall_eq_or_imp, forall_eq, forall_const, cond_true, cond_false, decide_true, decide_false, true_imp_iff, implies_true, Int.cast_ofNat_Int, forall_eq']
  intro _
  refine lwp_for (α := Unit) a.length (fun _ _ => True) (fun k _ => [(1, .rsl 3 b.length (dpsF b)), (5, .mp 0 0), (11, .rsl 3 a.length (dpsF a)), (12, .sc (.int .i64 a.length)), (13, .sc (.int .i64 k))])
    (fun k _ => [(0, .map (setM encDp (unq [] (a.take k))))]) () trivial ?_ (fun _ _ => Nat.zero_le _) ?_
  · simp only [↓EVP0, EVQ0, EVQ1, EVQ2, EVQ3, EVQ4, EVA, EVK, EVF,EVFD, ↓reduceIte, Nat.reduceEqDiff, Nat.reduceAdd, Nat.reduceSub, Nat.reduceMul, Nat.reduceLT, Nat.reduceLeDiff, reduceCtorEq, Int.reduceToNat, Int.reduceLT, Int.reduceLE, Int.reduceAdd, Int.reduceSub, Int.reduceMul, Int.reduceNeg, Int.reduceEq, Nat.reduceMod, forall_eq_or_imp, forall_eq, forall_const, cond_true, cond_false, decide_true, decide_false, true_imp_iff, implies_true, Int.cast_ofNat_Int, forall_eq']
    exact ⟨rfl, allC_setM _ _⟩
  intro k _ hk _
  have hmem : ∀ (l : List Dp) (hl : ∀ d, d ∈ l → DpIn d) (i : Nat), i < l.length → DpIn (l.getD i default) := fun l hl i hi => hl _ (by rw [List.getD_eq_getElem?_getD, List.getElem?_eq_getElem hi]; exact List.getElem_mem hi)
  have hinA : ∀ d, d ∈ unq [] (a.take k) → DpIn d := fun d hd => by
    rcases unq_mem.1 hd with h | h
    · simp at h
    · exact ha d (List.mem_of_mem_take h)
  unfold lb32_1
  simp only [↓EVP0, EVQ0, EVQ1, EVQ2, EVQ3, EVQ4, EVA, EVK, EVF,EVFD, ↓reduceIte, Nat.reduceEqDiff, Nat.reduceAdd, Nat.reduceSub, Nat.reduceMul, Nat.reduceLT, Nat.reduceLeDiff, reduceCtorEq, Int.reduceToNat, Int.reduceLT, Int.reduceLE, Int.reduceAdd, Int.reduceSub, Int.reduceMul, Int.reduceNeg, Int.reduceEq, Nat.reduceMod, forall_eq_or_imp, forall_eq, forall_const, cond_true, cond_false, decide_true, decide_false, true_imp_iff, implies_true, Int.cast_ofNat_Int, forall_eq']
  refine ⟨fun hg => ?_, fun hg => ?_⟩
  · have hk2 : k < a.length := by have := of_decide_eq_true hg; omega
    refine ⟨⟨by omega, by omega⟩, keysD_ok (x := a.getD k default) hinA (hmem a ha k hk2), by unfold In64; omega, hk2, (), ?_, allC_setM _ _⟩
    rw [take_succ_getD default _ _ hk2]
    exact mput_unq [] _ _
  · have hkk : k = a.length := by have := of_decide_eq_false hg; omega
    subst hkk
    rw [List.take_length] at hinA ⊢
    have hA1 : (unq [] a).Nodup := unq_nodup List.nodup_nil
    have hA2 : (unq [] a).length ≤ 1000 := by have := unq_len (acc := []) (l := a); simp at this; omega
    unfold uniE
    generalize unq [] a = A at *
    intro _
    refine lwp_for (α := Unit) b.length (fun _ _ => True) (fun k _ => [(5, .mp 0 0), (20, .rsl 3 b.length (dpsF b)), (21, .sc (.int .i64 b.length)), (22, .sc (.int .i64 k))])
      (fun k _ => [(0, .map (setM encDp (unq A (b.take k))))]) () trivial ?_ (fun _ _ => Nat.zero_le _) ?_
    · simp only [↓EVP0, EVQ0, EVQ1, EVQ2, EVQ3, EVQ4, EVA, EVK, EVF,EVFD, ↓reduceIte, Nat.reduceEqDiff, Nat.reduceAdd, Nat.reduceSub, Nat.reduceMul, Nat.reduceLT, Nat.reduceLeDiff, reduceCtorEq, Int.reduceToNat, Int.reduceLT, Int.reduceLE, Int.reduceAdd, Int.reduceSub, Int.reduceMul, Int.reduceNeg, Int.reduceEq, Nat.reduceMod, forall_eq_or_imp, forall_eq, forall_const, cond_true, cond_false, decide_true, decide_false, true_imp_iff, implies_true, Int.cast_ofNat_Int, forall_eq']
      exact ⟨rfl, allC_setM _ _⟩
    intro k _ hk _
    have hinB : ∀ d, d ∈ unq A (b.take k) → DpIn d := fun d hd => by
      rcases unq_mem.1 hd with h | h
      · exact hinA d h
      · exact hb d (List.mem_of_mem_take h)
    unfold lb32_0
    simp only [↓EVP0, EVQ0, EVQ1, EVQ2, EVQ3, EVQ4, EVA, EVK, EVF,EVFD, ↓reduceIte, Nat.reduceEqDiff, Nat.reduceAdd, Nat.reduceSub, Nat.reduceMul, Nat.reduceLT, Nat.reduceLeDiff, reduceCtorEq, Int.reduceToNat, Int.reduceLT, Int.reduceLE, Int.reduceAdd, Int.reduceSub, Int.reduceMul, Int.reduceNeg, Int.reduceEq, Nat.reduceMod, forall_eq_or_imp, forall_eq, forall_const, cond_true, cond_false, decide_true, decide_false, true_imp_iff, implies_true, Int.cast_ofNat_Int, forall_eq']
    refine ⟨fun hg => ?_, fun hg => ?_⟩
    · have hk2 : k < b.length := by have := of_decide_eq_true hg; omega
      refine ⟨⟨by omega, by omega⟩, keysD_ok (x := b.getD k default) hinB (hmem b hb k hk2), by unfold In64; omega, hk2, (), ?_, allC_setM _ _⟩
      rw [take_succ_getD default _ _ hk2]
      exact mput_unq A _ _
    · have hkk : k = b.length := by have := of_decide_eq_false hg; omega
      subst hkk
      rw [List.take_length] at hinB ⊢
      have hB1 := unq_len (acc := A) (l := b)
      refine callK_mut (lc_keys _ (allC_setM _ _)) ?_
      simp only [↓EVP0, EVQ0, EVQ1, EVQ2, EVQ3, EVQ4, EVA, EVK, EVF,EVFD, ↓reduceIte, Nat.reduceEqDiff, Nat.reduceAdd, Nat.reduceSub, Nat.reduceMul, Nat.reduceLT, Nat.reduceLeDiff, reduceCtorEq, Int.reduceToNat, Int.reduceLT, Int.reduceLE, Int.reduceAdd, Int.reduceSub, Int.reduceMul, Int.reduceNeg, Int.reduceEq, Nat.reduceMod, forall_eq_or_imp, forall_eq, forall_const, cond_true, cond_false, decide_true, decide_false, true_imp_iff, implies_true, Int.cast_ofNat_Int, forall_eq']
      refine callK_mut (lc_sortedFn (kb := 1) (vb := 0) (km := 0) (vm := 0) (unq A b) hinB (by omega) (by simp [mkH]) rfl (by simp [mkH]) rfl) ?_
      unfold dpsV
      simp only [↓EVP0, EVQ0, EVQ1, EVQ2, EVQ3, EVQ4, EVA, EVK, EVF,EVFD, ↓reduceIte, Nat.reduceEqDiff, Nat.reduceAdd, Nat.reduceSub, Nat.reduceMul, Nat.reduceLT, Nat.reduceLeDiff, reduceCtorEq, Int.reduceToNat, Int.reduceLT, Int.reduceLE, Int.reduceAdd, Int.reduceSub, Int.reduceMul, Int.reduceNeg, Int.reduceEq, Nat.reduceMod, forall_eq_or_imp, forall_eq, forall_const, cond_true, cond_false, decide_true, decide_false, true_imp_iff, implies_true, Int.cast_ofNat_Int, forall_eq']

end Go.Proofs.Yteblljpbnpaplaa

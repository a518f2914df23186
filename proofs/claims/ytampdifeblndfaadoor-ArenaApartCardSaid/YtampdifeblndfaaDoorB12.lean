/-
  The library's contract on slices.Sort, laid at this program: the renaming and its fields were written by the kit's own command.
-/
import Derived.Test.YtampdifeblndfaaDoorB6
import Derived.Shelf.SortG.Plain
import Derived.Shelf.SortG.SortNone
import Derived.Test.YtampdifeblndfaaDoorProg
set_option linter.unusedVariables false
set_option linter.unusedSimpArgs false
set_option maxRecDepth 100000
namespace Go.Proofs
open Go.Sl

def sortL_ren : Go.Shelf.Ren := ⟨fun | 53 => 68 | 64 => 81 | 63 => 80 | 78 => 93 | 79 => 94 | 70 => 84 | 71 => 85 | 72 => 86 | 73 => 87 | 74 => 88 | 75 => 89 | 59 => 90 | 76 => 91 | 77 => 92 | 88 => 96 | 89 => 97 | 90 => 98 | 91 => 99 | 92 => 100 | 68 => 101 | 96 => 102 | n => n, fun | 22 => 32 | 23 => 3 | 3 => 3 | 51 => 22 | 0 => 0 | 67 => 119 | 69 => 100 | 4 => 4 | 61 => 113 | 60 => 112 | 44 => 58 | 5 => 5 | 9 => 9 | 75 => 121 | 79 => 60 | 83 => 126 | 84 => 26 | n => n, fun | n => n⟩
theorem sortL : Go.Proofs.SlLaysN.n53 Tryd.prog sortL_ren where
  mixed := by kernel_rfl
  f53 := ⟨ "slices.Sort[[]int,int]", by decide, Tryd.func68.trans (congrArg some (by kernel_rfl))⟩
  f59 := ⟨ "cmp.Less[int]", by decide, Tryd.func90.trans (congrArg some (by kernel_rfl))⟩
  f63 := ⟨ "slices.pdqsortOrdered[int]", by decide, Tryd.func80.trans (congrArg some (by kernel_rfl))⟩
  f64 := Tryd.func81.trans (congrArg some (by kernel_rfl))
  f68 := ⟨ "cmp.isNaN[int]", by decide, Tryd.func101.trans (congrArg some (by kernel_rfl))⟩
  f70 := ⟨ "slices.insertionSortOrdered[int]", by decide, Tryd.func84.trans (congrArg some (by kernel_rfl))⟩
  f71 := ⟨ "slices.heapSortOrdered[int]", by decide, Tryd.func85.trans (congrArg some (by kernel_rfl))⟩
  f72 := ⟨ "slices.breakPatternsOrdered[int]", by decide, Tryd.func86.trans (congrArg some (by kernel_rfl))⟩
  f73 := ⟨ "slices.choosePivotOrdered[int]", by decide, Tryd.func87.trans (congrArg some (by kernel_rfl))⟩
  f74 := ⟨ "slices.reverseRangeOrdered[int]", by decide, Tryd.func88.trans (congrArg some (by kernel_rfl))⟩
  f75 := ⟨ "slices.partialInsertionSortOrdered[int]", by decide, Tryd.func89.trans (congrArg some (by kernel_rfl))⟩
  f76 := ⟨ "slices.partitionEqualOrdered[int]", by decide, Tryd.func91.trans (congrArg some (by kernel_rfl))⟩
  f77 := ⟨ "slices.partitionOrdered[int]", by decide, Tryd.func92.trans (congrArg some (by kernel_rfl))⟩
  f78 := Tryd.func93.trans (congrArg some (by kernel_rfl))
  f79 := Tryd.func94.trans (congrArg some (by kernel_rfl))
  f88 := ⟨ "slices.siftDownOrdered[int]", by decide, Tryd.func96.trans (congrArg some (by kernel_rfl))⟩
  f89 := Tryd.func97.trans (congrArg some (by kernel_rfl))
  f90 := Tryd.func98.trans (congrArg some (by kernel_rfl))
  f91 := ⟨ "slices.medianAdjacentOrdered[int]", by decide, Tryd.func99.trans (congrArg some (by kernel_rfl))⟩
  f92 := ⟨ "slices.medianOrdered[int]", by decide, Tryd.func100.trans (congrArg some (by kernel_rfl))⟩
  f96 := ⟨ "slices.order2Ordered[int]", by decide, Tryd.func102.trans (congrArg some (by kernel_rfl))⟩
  t0 := Tryd.underlying0
  a0 := Tryd.isAgg0
  z0 := Tryd.sizeOf0
  v0 := Tryd.zeroValue0
  t3 := Tryd.underlying3
  a3 := Tryd.isAgg3
  z3 := Tryd.sizeOf3
  v3 := Tryd.zeroValue3
  t4 := Tryd.underlying4
  a4 := Tryd.isAgg4
  z4 := Tryd.sizeOf4
  v4 := Tryd.zeroValue4
  t5 := Tryd.underlying5
  a5 := Tryd.isAgg5
  z5 := Tryd.sizeOf5
  v5 := Tryd.zeroValue5
  t9 := Tryd.underlying9
  a9 := Tryd.isAgg9
  z9 := Tryd.sizeOf9
  v9 := Tryd.zeroValue9
  t22 := Tryd.underlying32
  a22 := Tryd.isAgg32
  z22 := Tryd.sizeOf32
  v22 := Tryd.zeroValue32
  t23 := Tryd.underlying3
  a23 := Tryd.isAgg3
  z23 := Tryd.sizeOf3
  v23 := Tryd.zeroValue3
  t44 := Tryd.underlying58
  a44 := Tryd.isAgg58
  z44 := Tryd.sizeOf58
  v44 := Tryd.zeroValue58
  t51 := Tryd.underlying22
  a51 := Tryd.isAgg22
  z51 := Tryd.sizeOf22
  v51 := Tryd.zeroValue22
  t60 := Tryd.underlying112
  a60 := Tryd.isAgg112
  z60 := Tryd.sizeOf112
  v60 := Tryd.zeroValue112
  t61 := Tryd.underlying113
  a61 := Tryd.isAgg113
  z61 := Tryd.sizeOf113
  v61 := Tryd.zeroValue113
  t67 := Tryd.underlying119
  a67 := Tryd.isAgg119
  z67 := Tryd.sizeOf119
  v67 := Tryd.zeroValue119
  t69 := Tryd.underlying100
  a69 := Tryd.isAgg100
  z69 := Tryd.sizeOf100
  v69 := Tryd.zeroValue100
  t75 := Tryd.underlying121
  a75 := Tryd.isAgg121
  z75 := Tryd.sizeOf121
  v75 := Tryd.zeroValue121
  t79 := Tryd.underlying60
  a79 := Tryd.isAgg60
  z79 := Tryd.sizeOf60
  v79 := Tryd.zeroValue60
  t83 := Tryd.underlying126
  a83 := Tryd.isAgg126
  z83 := Tryd.sizeOf126
  v83 := Tryd.zeroValue126
  t84 := Tryd.underlying26
  a84 := Tryd.isAgg26
  z84 := Tryd.sizeOf26
  v84 := Tryd.zeroValue26


theorem sortC : SortC Tryd.prog 68 :=
  ⟨fun blk off cap zs w hH hb hl => AnyG.slices_Sort_int sortL blk off cap zs w hH hb hl, fun p cap w => AnyG.slices_Sort_int_none sortL p cap w⟩

end Go.Proofs

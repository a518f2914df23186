/-
  The library's contract on slices.Sort, laid at this program: the renaming and its fields were written by the kit's own command.
-/
import Derived.Test.YtampdifeblndfaaGreatDoorB6
import Derived.Shelf.SortG.Plain
import Derived.Shelf.SortG.SortNone
import Derived.Test.YtampdifeblndfaaGreatDoorProg
set_option linter.unusedVariables false
set_option linter.unusedSimpArgs false
set_option maxRecDepth 100000
namespace Go.Proofs
open Go.Sl
def sortL_ren : Go.Shelf.Ren := ⟨fun | 53 => 89 | 64 => 112 | 63 => 111 | 78 => 125 | 79 => 126 | 70 => 116 | 71 => 117 | 72 => 118 | 73 => 119 | 74 => 120 | 75 => 121 | 59 => 122 | 76 => 123 | 77 => 124 | 88 => 128 | 89 => 129 | 90 => 130 | 91 => 131 | 92 => 132 | 68 => 133 | 96 => 134 | n => n, fun | 22 => 22 | 23 => 3 | 3 => 3 | 51 => 27 | 0 => 0 | 67 => 139 | 69 => 122 | 4 => 4 | 61 => 134 | 60 => 133 | 44 => 67 | 5 => 5 | 9 => 9 | 75 => 141 | 79 => 84 | 83 => 146 | 84 => 28 | n => n, fun | n => n⟩
theorem sortL : Go.Proofs.SlLaysN.n53 Tryz.prog sortL_ren where
  mixed := by kernel_rfl
  f53 := ⟨ "slices.Sort[[]int,int]", by decide, Tryz.func89.trans (congrArg some (by kernel_rfl))⟩
  f59 := ⟨ "cmp.Less[int]", by decide, Tryz.func122.trans (congrArg some (by kernel_rfl))⟩
  f63 := ⟨ "slices.pdqsortOrdered[int]", by decide, Tryz.func111.trans (congrArg some (by kernel_rfl))⟩
  f64 := Tryz.func112.trans (congrArg some (by kernel_rfl))
  f68 := ⟨ "cmp.isNaN[int]", by decide, Tryz.func133.trans (congrArg some (by kernel_rfl))⟩
  f70 := ⟨ "slices.insertionSortOrdered[int]", by decide, Tryz.func116.trans (congrArg some (by kernel_rfl))⟩
  f71 := ⟨ "slices.heapSortOrdered[int]", by decide, Tryz.func117.trans (congrArg some (by kernel_rfl))⟩
  f72 := ⟨ "slices.breakPatternsOrdered[int]", by decide, Tryz.func118.trans (congrArg some (by kernel_rfl))⟩
  f73 := ⟨ "slices.choosePivotOrdered[int]", by decide, Tryz.func119.trans (congrArg some (by kernel_rfl))⟩
  f74 := ⟨ "slices.reverseRangeOrdered[int]", by decide, Tryz.func120.trans (congrArg some (by kernel_rfl))⟩
  f75 := ⟨ "slices.partialInsertionSortOrdered[int]", by decide, Tryz.func121.trans (congrArg some (by kernel_rfl))⟩
  f76 := ⟨ "slices.partitionEqualOrdered[int]", by decide, Tryz.func123.trans (congrArg some (by kernel_rfl))⟩
  f77 := ⟨ "slices.partitionOrdered[int]", by decide, Tryz.func124.trans (congrArg some (by kernel_rfl))⟩
  f78 := Tryz.func125.trans (congrArg some (by kernel_rfl))
  f79 := Tryz.func126.trans (congrArg some (by kernel_rfl))
  f88 := ⟨ "slices.siftDownOrdered[int]", by decide, Tryz.func128.trans (congrArg some (by kernel_rfl))⟩
  f89 := Tryz.func129.trans (congrArg some (by kernel_rfl))
  f90 := Tryz.func130.trans (congrArg some (by kernel_rfl))
  f91 := ⟨ "slices.medianAdjacentOrdered[int]", by decide, Tryz.func131.trans (congrArg some (by kernel_rfl))⟩
  f92 := ⟨ "slices.medianOrdered[int]", by decide, Tryz.func132.trans (congrArg some (by kernel_rfl))⟩
  f96 := ⟨ "slices.order2Ordered[int]", by decide, Tryz.func134.trans (congrArg some (by kernel_rfl))⟩
  t0 := Tryz.underlying0
  a0 := Tryz.isAgg0
  z0 := Tryz.sizeOf0
  v0 := Tryz.zeroValue0
  t3 := Tryz.underlying3
  a3 := Tryz.isAgg3
  z3 := Tryz.sizeOf3
  v3 := Tryz.zeroValue3
  t4 := Tryz.underlying4
  a4 := Tryz.isAgg4
  z4 := Tryz.sizeOf4
  v4 := Tryz.zeroValue4
  t5 := Tryz.underlying5
  a5 := Tryz.isAgg5
  z5 := Tryz.sizeOf5
  v5 := Tryz.zeroValue5
  t9 := Tryz.underlying9
  a9 := Tryz.isAgg9
  z9 := Tryz.sizeOf9
  v9 := Tryz.zeroValue9
  t22 := Tryz.underlying22
  a22 := Tryz.isAgg22
  z22 := Tryz.sizeOf22
  v22 := Tryz.zeroValue22
  t23 := Tryz.underlying3
  a23 := Tryz.isAgg3
  z23 := Tryz.sizeOf3
  v23 := Tryz.zeroValue3
  t44 := Tryz.underlying67
  a44 := Tryz.isAgg67
  z44 := Tryz.sizeOf67
  v44 := Tryz.zeroValue67
  t51 := Tryz.underlying27
  a51 := Tryz.isAgg27
  z51 := Tryz.sizeOf27
  v51 := Tryz.zeroValue27
  t60 := Tryz.underlying133
  a60 := Tryz.isAgg133
  z60 := Tryz.sizeOf133
  v60 := Tryz.zeroValue133
  t61 := Tryz.underlying134
  a61 := Tryz.isAgg134
  z61 := Tryz.sizeOf134
  v61 := Tryz.zeroValue134
  t67 := Tryz.underlying139
  a67 := Tryz.isAgg139
  z67 := Tryz.sizeOf139
  v67 := Tryz.zeroValue139
  t69 := Tryz.underlying122
  a69 := Tryz.isAgg122
  z69 := Tryz.sizeOf122
  v69 := Tryz.zeroValue122
  t75 := Tryz.underlying141
  a75 := Tryz.isAgg141
  z75 := Tryz.sizeOf141
  v75 := Tryz.zeroValue141
  t79 := Tryz.underlying84
  a79 := Tryz.isAgg84
  z79 := Tryz.sizeOf84
  v79 := Tryz.zeroValue84
  t83 := Tryz.underlying146
  a83 := Tryz.isAgg146
  z83 := Tryz.sizeOf146
  v83 := Tryz.zeroValue146
  t84 := Tryz.underlying28
  a84 := Tryz.isAgg28
  z84 := Tryz.sizeOf28
  v84 := Tryz.zeroValue28
theorem sortC : SortC Tryz.prog 89 :=
  ⟨fun blk off cap zs w hH hb hl => AnyG.slices_Sort_int sortL blk off cap zs w hH hb hl, fun p cap w => AnyG.slices_Sort_int_none sortL p cap w⟩
end Go.Proofs

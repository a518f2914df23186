/-
  The library's contract on slices.Sort, laid at this program: the renaming and its fields were written by the kit's own command.
-/
import Derived.Test.YtdcoflglkfbpcaaV20
import Derived.Shelf.SortG.Plain
import Derived.Shelf.SortG.SortNone
import Derived.Test.YtdcoflglkfbpcaaProg
set_option linter.unusedVariables false
set_option linter.unusedSimpArgs false
set_option maxRecDepth 100000
namespace Go.Proofs
open Go.Sl

def sortL_ren : Go.Shelf.Ren := ⟨fun | 53 => 68 | 64 => 85 | 63 => 84 | 78 => 99 | 79 => 100 | 70 => 90 | 71 => 91 | 72 => 92 | 73 => 93 | 74 => 94 | 75 => 95 | 59 => 96 | 76 => 97 | 77 => 98 | 88 => 101 | 89 => 102 | 90 => 103 | 91 => 104 | 92 => 105 | 68 => 106 | 96 => 107 | n => n, fun | 22 => 22 | 23 => 3 | 3 => 3 | 51 => 31 | 0 => 0 | 67 => 93 | 69 => 95 | 4 => 4 | 61 => 87 | 60 => 86 | 44 => 57 | 5 => 5 | 9 => 9 | 75 => 96 | 79 => 100 | 83 => 102 | 84 => 103 | n => n, fun | n => n⟩
theorem sortL : Go.Proofs.SlLaysN.n53 Try.prog sortL_ren where
  mixed := by kernel_rfl
  f53 := ⟨ "slices.Sort[[]int,int]", by decide, Try.func68.trans (congrArg some (by kernel_rfl))⟩
  f59 := ⟨ "cmp.Less[int]", by decide, Try.func96.trans (congrArg some (by kernel_rfl))⟩
  f63 := ⟨ "slices.pdqsortOrdered[int]", by decide, Try.func84.trans (congrArg some (by kernel_rfl))⟩
  f64 := Try.func85.trans (congrArg some (by kernel_rfl))
  f68 := ⟨ "cmp.isNaN[int]", by decide, Try.func106.trans (congrArg some (by kernel_rfl))⟩
  f70 := ⟨ "slices.insertionSortOrdered[int]", by decide, Try.func90.trans (congrArg some (by kernel_rfl))⟩
  f71 := ⟨ "slices.heapSortOrdered[int]", by decide, Try.func91.trans (congrArg some (by kernel_rfl))⟩
  f72 := ⟨ "slices.breakPatternsOrdered[int]", by decide, Try.func92.trans (congrArg some (by kernel_rfl))⟩
  f73 := ⟨ "slices.choosePivotOrdered[int]", by decide, Try.func93.trans (congrArg some (by kernel_rfl))⟩
  f74 := ⟨ "slices.reverseRangeOrdered[int]", by decide, Try.func94.trans (congrArg some (by kernel_rfl))⟩
  f75 := ⟨ "slices.partialInsertionSortOrdered[int]", by decide, Try.func95.trans (congrArg some (by kernel_rfl))⟩
  f76 := ⟨ "slices.partitionEqualOrdered[int]", by decide, Try.func97.trans (congrArg some (by kernel_rfl))⟩
  f77 := ⟨ "slices.partitionOrdered[int]", by decide, Try.func98.trans (congrArg some (by kernel_rfl))⟩
  f78 := Try.func99.trans (congrArg some (by kernel_rfl))
  f79 := Try.func100.trans (congrArg some (by kernel_rfl))
  f88 := ⟨ "slices.siftDownOrdered[int]", by decide, Try.func101.trans (congrArg some (by kernel_rfl))⟩
  f89 := Try.func102.trans (congrArg some (by kernel_rfl))
  f90 := Try.func103.trans (congrArg some (by kernel_rfl))
  f91 := ⟨ "slices.medianAdjacentOrdered[int]", by decide, Try.func104.trans (congrArg some (by kernel_rfl))⟩
  f92 := ⟨ "slices.medianOrdered[int]", by decide, Try.func105.trans (congrArg some (by kernel_rfl))⟩
  f96 := ⟨ "slices.order2Ordered[int]", by decide, Try.func107.trans (congrArg some (by kernel_rfl))⟩
  t0 := Try.underlying0
  a0 := Try.isAgg0
  z0 := Try.sizeOf0
  v0 := Try.zeroValue0
  t3 := Try.underlying3
  a3 := Try.isAgg3
  z3 := Try.sizeOf3
  v3 := Try.zeroValue3
  t4 := Try.underlying4
  a4 := Try.isAgg4
  z4 := Try.sizeOf4
  v4 := Try.zeroValue4
  t5 := Try.underlying5
  a5 := Try.isAgg5
  z5 := Try.sizeOf5
  v5 := Try.zeroValue5
  t9 := Try.underlying9
  a9 := Try.isAgg9
  z9 := Try.sizeOf9
  v9 := Try.zeroValue9
  t22 := Try.underlying22
  a22 := Try.isAgg22
  z22 := Try.sizeOf22
  v22 := Try.zeroValue22
  t23 := Try.underlying3
  a23 := Try.isAgg3
  z23 := Try.sizeOf3
  v23 := Try.zeroValue3
  t44 := Try.underlying57
  a44 := Try.isAgg57
  z44 := Try.sizeOf57
  v44 := Try.zeroValue57
  t51 := Try.underlying31
  a51 := Try.isAgg31
  z51 := Try.sizeOf31
  v51 := Try.zeroValue31
  t60 := Try.underlying86
  a60 := Try.isAgg86
  z60 := Try.sizeOf86
  v60 := Try.zeroValue86
  t61 := Try.underlying87
  a61 := Try.isAgg87
  z61 := Try.sizeOf87
  v61 := Try.zeroValue87
  t67 := Try.underlying93
  a67 := Try.isAgg93
  z67 := Try.sizeOf93
  v67 := Try.zeroValue93
  t69 := Try.underlying95
  a69 := Try.isAgg95
  z69 := Try.sizeOf95
  v69 := Try.zeroValue95
  t75 := Try.underlying96
  a75 := Try.isAgg96
  z75 := Try.sizeOf96
  v75 := Try.zeroValue96
  t79 := Try.underlying100
  a79 := Try.isAgg100
  z79 := Try.sizeOf100
  v79 := Try.zeroValue100
  t83 := Try.underlying102
  a83 := Try.isAgg102
  z83 := Try.sizeOf102
  v83 := Try.zeroValue102
  t84 := Try.underlying103
  a84 := Try.isAgg103
  z84 := Try.sizeOf103
  v84 := Try.zeroValue103


theorem sortC : SortC Try.prog 68 :=
  ⟨fun blk off cap zs w hH hb hl => AnyG.slices_Sort_int sortL blk off cap zs w hH hb hl, fun p cap w => AnyG.slices_Sort_int_none sortL p cap w⟩

end Go.Proofs

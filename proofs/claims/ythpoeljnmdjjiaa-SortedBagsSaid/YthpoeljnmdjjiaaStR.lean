/-
  Sorting, by hand: slices.SortFunc of this program is the kit's (its numbers told).
-/
import Derived.Shelf.SlSortCmp.Whole1
import Derived.Test.YthpoeljnmdjjiaaProg
import Derived.KernelRfl
namespace Go.Proofs.Ythpoeljnmdjjiaa.Srt
set_option maxRecDepth 100000

def srtRen : Go.Shelf.Ren := ⟨fun x => match x with | 6 => 30 | 15 => 47 | 14 => 46 | 28 => 71 | 29 => 72 | 20 => 59 | 21 => 64 | 22 => 65 | 23 => 66 | 24 => 67 | 25 => 68 | 26 => 69 | 27 => 70 | 46 => 82 | 47 => 83 | 48 => 84 | 49 => 85 | 50 => 86 | 57 => 91 | n => n, fun x => match x with | 22 => 22 | 24 => 26 | 25 => 44 | 3 => 3 | 39 => 59 | 0 => 0 | 53 => 79 | 55 => 64 | 4 => 4 | 46 => 72 | 45 => 71 | 50 => 76 | 5 => 5 | 9 => 9 | 66 => 85 | 70 => 89 | 76 => 96 | 77 => 97 | n => n, fun n => n⟩
theorem srtLays : SlLaysF.n6 Try.prog srtRen where
  mixed := by kernel_rfl
  f6 := ⟨"slices.SortFunc[[][]astragal/api.Val,[]astragal/api.Val]", by decide, Try.func30.trans (congrArg some (by kernel_rfl))⟩
  f14 := ⟨"slices.pdqsortCmpFunc[[]astragal/api.Val]", by decide, Try.func46.trans (congrArg some (by kernel_rfl))⟩
  f15 := Try.func47.trans (congrArg some (by kernel_rfl))
  f20 := ⟨"slices.insertionSortCmpFunc[[]astragal/api.Val]", by decide, Try.func59.trans (congrArg some (by kernel_rfl))⟩
  f21 := ⟨"slices.heapSortCmpFunc[[]astragal/api.Val]", by decide, Try.func64.trans (congrArg some (by kernel_rfl))⟩
  f22 := ⟨"slices.breakPatternsCmpFunc[[]astragal/api.Val]", by decide, Try.func65.trans (congrArg some (by kernel_rfl))⟩
  f23 := ⟨"slices.choosePivotCmpFunc[[]astragal/api.Val]", by decide, Try.func66.trans (congrArg some (by kernel_rfl))⟩
  f24 := ⟨"slices.reverseRangeCmpFunc[[]astragal/api.Val]", by decide, Try.func67.trans (congrArg some (by kernel_rfl))⟩
  f25 := ⟨"slices.partialInsertionSortCmpFunc[[]astragal/api.Val]", by decide, Try.func68.trans (congrArg some (by kernel_rfl))⟩
  f26 := ⟨"slices.partitionEqualCmpFunc[[]astragal/api.Val]", by decide, Try.func69.trans (congrArg some (by kernel_rfl))⟩
  f27 := ⟨"slices.partitionCmpFunc[[]astragal/api.Val]", by decide, Try.func70.trans (congrArg some (by kernel_rfl))⟩
  f28 := Try.func71.trans (congrArg some (by kernel_rfl))
  f29 := Try.func72.trans (congrArg some (by kernel_rfl))
  f46 := ⟨"slices.siftDownCmpFunc[[]astragal/api.Val]", by decide, Try.func82.trans (congrArg some (by kernel_rfl))⟩
  f47 := Try.func83.trans (congrArg some (by kernel_rfl))
  f48 := Try.func84.trans (congrArg some (by kernel_rfl))
  f49 := ⟨"slices.medianAdjacentCmpFunc[[]astragal/api.Val]", by decide, Try.func85.trans (congrArg some (by kernel_rfl))⟩
  f50 := ⟨"slices.medianCmpFunc[[]astragal/api.Val]", by decide, Try.func86.trans (congrArg some (by kernel_rfl))⟩
  f57 := ⟨"slices.order2CmpFunc[[]astragal/api.Val]", by decide, Try.func91.trans (congrArg some (by kernel_rfl))⟩
  t0 := Try.underlying0
  a0 := Try.isAgg0
  z0 := Try.sizeOf0
  v0 := Try.zeroValue0
  t3 := Try.underlying3
  a3 := Try.isAgg3
  z3 := Try.sizeOf3
  v3 := Try.zeroValue3
  t4 := Try.underlying4
  a4 := Try.isAgg4
  z4 := Try.sizeOf4
  v4 := Try.zeroValue4
  t5 := Try.underlying5
  a5 := Try.isAgg5
  z5 := Try.sizeOf5
  v5 := Try.zeroValue5
  t9 := Try.underlying9
  a9 := Try.isAgg9
  z9 := Try.sizeOf9
  v9 := Try.zeroValue9
  t22 := Try.underlying22
  a22 := Try.isAgg22
  z22 := Try.sizeOf22
  v22 := Try.zeroValue22
  a24 := Try.isAgg26
  z24 := Try.sizeOf26
  t25 := Try.underlying44
  a25 := Try.isAgg44
  z25 := Try.sizeOf44
  v25 := Try.zeroValue44
  t39 := Try.underlying59
  a39 := Try.isAgg59
  z39 := Try.sizeOf59
  v39 := Try.zeroValue59
  t45 := Try.underlying71
  a45 := Try.isAgg71
  z45 := Try.sizeOf71
  v45 := Try.zeroValue71
  t46 := Try.underlying72
  a46 := Try.isAgg72
  z46 := Try.sizeOf72
  v46 := Try.zeroValue72
  t50 := Try.underlying76
  a50 := Try.isAgg76
  z50 := Try.sizeOf76
  v50 := Try.zeroValue76
  t53 := Try.underlying79
  a53 := Try.isAgg79
  z53 := Try.sizeOf79
  v53 := Try.zeroValue79
  t55 := Try.underlying64
  a55 := Try.isAgg64
  z55 := Try.sizeOf64
  v55 := Try.zeroValue64
  t66 := Try.underlying85
  a66 := Try.isAgg85
  z66 := Try.sizeOf85
  v66 := Try.zeroValue85
  t70 := Try.underlying89
  a70 := Try.isAgg89
  z70 := Try.sizeOf89
  v70 := Try.zeroValue89
  t76 := Try.underlying96
  a76 := Try.isAgg96
  z76 := Try.sizeOf96
  v76 := Try.zeroValue96
  t77 := Try.underlying97
  a77 := Try.isAgg97
  z77 := Try.sizeOf97
  v77 := Try.zeroValue97
end Go.Proofs.Ythpoeljnmdjjiaa.Srt

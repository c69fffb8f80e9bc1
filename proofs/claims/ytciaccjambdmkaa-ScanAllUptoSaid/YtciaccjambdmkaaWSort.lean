/- The sorts of this program, as the library knows them. -/
import Derived.Shelf.SlSortCmp.WholeK
import Derived.Test.YtciaccjambdmkaaProg
set_option linter.unusedSimpArgs false
set_option linter.unusedVariables false
set_option linter.unusedSectionVars false
namespace Go.Proofs
open Go.Shelf
def Try.sortItem_ren : Go.Shelf.Ren := ⟨fun | 6 => 23 | 15 => 36 | 14 => 35 | 28 => 53 | 29 => 54 | 20 => 45 | 21 => 46 | 22 => 47 | 23 => 48 | 24 => 49 | 25 => 50 | 26 => 51 | 27 => 52 | 46 => 58 | 47 => 59 | 48 => 60 | 49 => 61 | 50 => 62 | 57 => 64 | n => n, fun | 22 => 35 | 24 => 39 | 25 => 53 | 3 => 3 | 39 => 61 | 0 => 0 | 53 => 76 | 55 => 23 | 4 => 4 | 46 => 69 | 45 => 68 | 50 => 73 | 5 => 5 | 9 => 9 | 66 => 80 | 70 => 84 | 76 => 86 | 77 => 87 | n => n, fun | n => n⟩
theorem Try.sortItem : Go.Proofs.SlLaysF0.n6 Try.prog Try.sortItem_ren where
  mixed := by kernel_rfl
  f6 := ⟨"slices.SortFunc[[]skylight/api.Item,skylight/api.Item]", by decide, Try.func23.trans (congrArg some (by kernel_rfl))⟩
  f14 := ⟨"slices.pdqsortCmpFunc[skylight/api.Item]", by decide, Try.func35.trans (congrArg some (by kernel_rfl))⟩
  f15 := Try.func36.trans (congrArg some (by kernel_rfl))
  f20 := ⟨"slices.insertionSortCmpFunc[skylight/api.Item]", by decide, Try.func45.trans (congrArg some (by kernel_rfl))⟩
  f21 := ⟨"slices.heapSortCmpFunc[skylight/api.Item]", by decide, Try.func46.trans (congrArg some (by kernel_rfl))⟩
  f22 := ⟨"slices.breakPatternsCmpFunc[skylight/api.Item]", by decide, Try.func47.trans (congrArg some (by kernel_rfl))⟩
  f23 := ⟨"slices.choosePivotCmpFunc[skylight/api.Item]", by decide, Try.func48.trans (congrArg some (by kernel_rfl))⟩
  f24 := ⟨"slices.reverseRangeCmpFunc[skylight/api.Item]", by decide, Try.func49.trans (congrArg some (by kernel_rfl))⟩
  f25 := ⟨"slices.partialInsertionSortCmpFunc[skylight/api.Item]", by decide, Try.func50.trans (congrArg some (by kernel_rfl))⟩
  f26 := ⟨"slices.partitionEqualCmpFunc[skylight/api.Item]", by decide, Try.func51.trans (congrArg some (by kernel_rfl))⟩
  f27 := ⟨"slices.partitionCmpFunc[skylight/api.Item]", by decide, Try.func52.trans (congrArg some (by kernel_rfl))⟩
  f28 := Try.func53.trans (congrArg some (by kernel_rfl))
  f29 := Try.func54.trans (congrArg some (by kernel_rfl))
  f46 := ⟨"slices.siftDownCmpFunc[skylight/api.Item]", by decide, Try.func58.trans (congrArg some (by kernel_rfl))⟩
  f47 := Try.func59.trans (congrArg some (by kernel_rfl))
  f48 := Try.func60.trans (congrArg some (by kernel_rfl))
  f49 := ⟨"slices.medianAdjacentCmpFunc[skylight/api.Item]", by decide, Try.func61.trans (congrArg some (by kernel_rfl))⟩
  f50 := ⟨"slices.medianCmpFunc[skylight/api.Item]", by decide, Try.func62.trans (congrArg some (by kernel_rfl))⟩
  f57 := ⟨"slices.order2CmpFunc[skylight/api.Item]", by decide, Try.func64.trans (congrArg some (by kernel_rfl))⟩
  t0 := Try.underlying0
  a0 := Try.isAgg0
  z0 := Try.sizeOf0
  v0 := Try.zeroValue0
  t3 := Try.underlying3
  a3 := Try.isAgg3
  z3 := Try.sizeOf3
  v3 := Try.zeroValue3
  t4 := Try.underlying4
  a4 := Try.isAgg4
  z4 := Try.sizeOf4
  v4 := Try.zeroValue4
  t5 := Try.underlying5
  a5 := Try.isAgg5
  z5 := Try.sizeOf5
  v5 := Try.zeroValue5
  t9 := Try.underlying9
  a9 := Try.isAgg9
  z9 := Try.sizeOf9
  v9 := Try.zeroValue9
  t22 := Try.underlying35
  a22 := Try.isAgg35
  z22 := Try.sizeOf35
  v22 := Try.zeroValue35
  t25 := Try.underlying53
  a25 := Try.isAgg53
  z25 := Try.sizeOf53
  v25 := Try.zeroValue53
  t39 := Try.underlying61
  a39 := Try.isAgg61
  z39 := Try.sizeOf61
  v39 := Try.zeroValue61
  t45 := Try.underlying68
  a45 := Try.isAgg68
  z45 := Try.sizeOf68
  v45 := Try.zeroValue68
  t46 := Try.underlying69
  a46 := Try.isAgg69
  z46 := Try.sizeOf69
  v46 := Try.zeroValue69
  t50 := Try.underlying73
  a50 := Try.isAgg73
  z50 := Try.sizeOf73
  v50 := Try.zeroValue73
  t53 := Try.underlying76
  a53 := Try.isAgg76
  z53 := Try.sizeOf76
  v53 := Try.zeroValue76
  t55 := Try.underlying23
  a55 := Try.isAgg23
  z55 := Try.sizeOf23
  v55 := Try.zeroValue23
  t66 := Try.underlying80
  a66 := Try.isAgg80
  z66 := Try.sizeOf80
  v66 := Try.zeroValue80
  t70 := Try.underlying84
  a70 := Try.isAgg84
  z70 := Try.sizeOf84
  v70 := Try.zeroValue84
  t76 := Try.underlying86
  a76 := Try.isAgg86
  z76 := Try.sizeOf86
  v76 := Try.zeroValue86
  t77 := Try.underlying87
  a77 := Try.isAgg87
  z77 := Try.sizeOf87
  v77 := Try.zeroValue87
end Go.Proofs

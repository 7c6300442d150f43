/- More of this seat: orders, and the sorting of pairs. No conditions. -/
import Derived.Test.YtihlnbepcimnfaaDoorMgMSeat
import Derived.Test.YtihlnbepcimnfaaDoorMgM24
import Derived.Test.YtihlnbepcimnfaaDoorMgOpen2
namespace Go.Proofs.YtihlnbepcimnfaaDoor
open Go.ChangeShapes Go.WideShapes Go.ChangeAt Go.WideElems Go.RowKit Go.Mg
set_option maxRecDepth 100000
def sortRen : Go.Shelf.Ren := ⟨fun | 6 => 58 | 14 => 71 | 15 => 72 | 20 => 75 | 21 => 76 | 22 => 77 | 23 => 78 | 24 => 79 | 25 => 80 | 26 => 81 | 27 => 82 | 28 => 83 | 29 => 74 | 46 => 84 | 47 => 85 | 48 => 86 | 49 => 87 | 50 => 88 | 57 => 89 | n => n, fun | 0 => 0 | 3 => 3 | 4 => 4 | 5 => 5 | 9 => 9 | 22 => 71 | 24 => 73 | 25 => 101 | 39 => 108 | 45 => 113 | 46 => 114 | 50 => 105 | 53 => 120 | 55 => 31 | 66 => 121 | 70 => 125 | 76 => 127 | 77 => 128 | n => n, fun n => n⟩
theorem sortLay : Go.Proofs.SlLaysF0.n6 Tryd.prog sortRen where
  mixed := by kernel_rfl
  f6 := ⟨"slices.SortFunc[[][2]int,[2]int]", by decide, Tryd.func58.trans (congrArg some (by kernel_rfl))⟩
  f14 := ⟨"slices.pdqsortCmpFunc[[2]int]", by decide, Tryd.func71.trans (congrArg some (by kernel_rfl))⟩
  f15 := Tryd.func72.trans (congrArg some (by kernel_rfl))
  f20 := ⟨"slices.insertionSortCmpFunc[[2]int]", by decide, Tryd.func75.trans (congrArg some (by kernel_rfl))⟩
  f21 := ⟨"slices.heapSortCmpFunc[[2]int]", by decide, Tryd.func76.trans (congrArg some (by kernel_rfl))⟩
  f22 := ⟨"slices.breakPatternsCmpFunc[[2]int]", by decide, Tryd.func77.trans (congrArg some (by kernel_rfl))⟩
  f23 := ⟨"slices.choosePivotCmpFunc[[2]int]", by decide, Tryd.func78.trans (congrArg some (by kernel_rfl))⟩
  f24 := ⟨"slices.reverseRangeCmpFunc[[2]int]", by decide, Tryd.func79.trans (congrArg some (by kernel_rfl))⟩
  f25 := ⟨"slices.partialInsertionSortCmpFunc[[2]int]", by decide, Tryd.func80.trans (congrArg some (by kernel_rfl))⟩
  f26 := ⟨"slices.partitionEqualCmpFunc[[2]int]", by decide, Tryd.func81.trans (congrArg some (by kernel_rfl))⟩
  f27 := ⟨"slices.partitionCmpFunc[[2]int]", by decide, Tryd.func82.trans (congrArg some (by kernel_rfl))⟩
  f28 := Tryd.func83.trans (congrArg some (by kernel_rfl))
  f29 := Tryd.func74.trans (congrArg some (by kernel_rfl))
  f46 := ⟨"slices.siftDownCmpFunc[[2]int]", by decide, Tryd.func84.trans (congrArg some (by kernel_rfl))⟩
  f47 := Tryd.func85.trans (congrArg some (by kernel_rfl))
  f48 := Tryd.func86.trans (congrArg some (by kernel_rfl))
  f49 := ⟨"slices.medianAdjacentCmpFunc[[2]int]", by decide, Tryd.func87.trans (congrArg some (by kernel_rfl))⟩
  f50 := ⟨"slices.medianCmpFunc[[2]int]", by decide, Tryd.func88.trans (congrArg some (by kernel_rfl))⟩
  f57 := ⟨"slices.order2CmpFunc[[2]int]", by decide, Tryd.func89.trans (congrArg some (by kernel_rfl))⟩
  t0 := Tryd.underlying0
  a0 := Tryd.isAgg0
  z0 := Tryd.sizeOf0
  v0 := Tryd.zeroValue0
  t3 := Tryd.underlying3
  a3 := Tryd.isAgg3
  z3 := Tryd.sizeOf3
  v3 := Tryd.zeroValue3
  t4 := Tryd.underlying4
  a4 := Tryd.isAgg4
  z4 := Tryd.sizeOf4
  v4 := Tryd.zeroValue4
  t5 := Tryd.underlying5
  a5 := Tryd.isAgg5
  z5 := Tryd.sizeOf5
  v5 := Tryd.zeroValue5
  t9 := Tryd.underlying9
  a9 := Tryd.isAgg9
  z9 := Tryd.sizeOf9
  v9 := Tryd.zeroValue9
  t22 := Tryd.underlying71
  a22 := Tryd.isAgg71
  z22 := Tryd.sizeOf71
  v22 := Tryd.zeroValue71
  t25 := Tryd.underlying101
  a25 := Tryd.isAgg101
  z25 := Tryd.sizeOf101
  v25 := Tryd.zeroValue101
  t39 := Tryd.underlying108
  a39 := Tryd.isAgg108
  z39 := Tryd.sizeOf108
  v39 := Tryd.zeroValue108
  t45 := Tryd.underlying113
  a45 := Tryd.isAgg113
  z45 := Tryd.sizeOf113
  v45 := Tryd.zeroValue113
  t46 := Tryd.underlying114
  a46 := Tryd.isAgg114
  z46 := Tryd.sizeOf114
  v46 := Tryd.zeroValue114
  t50 := Tryd.underlying105
  a50 := Tryd.isAgg105
  z50 := Tryd.sizeOf105
  v50 := Tryd.zeroValue105
  t53 := Tryd.underlying120
  a53 := Tryd.isAgg120
  z53 := Tryd.sizeOf120
  v53 := Tryd.zeroValue120
  t55 := Tryd.underlying31
  a55 := Tryd.isAgg31
  z55 := Tryd.sizeOf31
  v55 := Tryd.zeroValue31
  t66 := Tryd.underlying121
  a66 := Tryd.isAgg121
  z66 := Tryd.sizeOf121
  v66 := Tryd.zeroValue121
  t70 := Tryd.underlying125
  a70 := Tryd.isAgg125
  z70 := Tryd.sizeOf125
  v70 := Tryd.zeroValue125
  t76 := Tryd.underlying127
  a76 := Tryd.isAgg127
  z76 := Tryd.sizeOf127
  v76 := Tryd.zeroValue127
  t77 := Tryd.underlying128
  a77 := Tryd.isAgg128
  z77 := Tryd.sizeOf128
  v77 := Tryd.zeroValue128
theorem cmpOk : CmpOk Tryd.prog 59 := by
  intro x y W
  obtain ⟨x1, x2⟩ := x
  obtain ⟨y1, y2⟩ := y
  show Calls Tryd.prog 59 #[.agg #[.int .i64 (x1.val : Int), .int .i64 (x2.val : Int)], .agg #[.int .i64 (y1.val : Int), .int .i64 (y2.val : Int)]] W _
  unfold cf2
  have w1 : IntKind.i64.wrap ((x1.val : Int) - y1.val) = (x1.val : Int) - y1.val := IntWalk.i64_in _ (by omega)
  have w2 : IntKind.i64.wrap ((x2.val : Int) - y2.val) = (x2.val : Int) - y2.val := IntWalk.i64_in _ (by omega)
  by_cases h : x1 = y1
  · subst h
    simp only [if_true]
    go_enter Tryd.func59, Tryd.ntmps59
    go_wp2
    go_ret
    exact ⟨rfl, 0, _, by rw [Go.Sort.alloc_eq_grow, Go.Sort.alloc_eq_grow, Go.Sort.grow_grow]; rfl⟩
  · have h' : (x1.val : Int) ≠ (y1.val : Int) := fun e => h (Fin.ext (by omega))
    simp only [if_neg h]
    go_enter Tryd.func59, Tryd.ntmps59
    go_wp2
    go_ret
    exact ⟨rfl, 0, _, by rw [Go.Sort.alloc_eq_grow, Go.Sort.alloc_eq_grow, Go.Sort.grow_grow]; rfl⟩
theorem sortP' : PSortSpec Tryd.prog 58 59 := sort_ok sortLay Tryd.isAgg73 Tryd.sizeOf73 59 (Go.Proofs.enters_of Tryd.func59 (by kernel_rfl) rfl) cmpOk
theorem is_clipP : FnIs Tryd.prog 60 (c_clipP ids) r_clipP 1 := FnIs.mk' Tryd.func60 mix (by kernel_rfl) (by kernel_rfl) (by kernel_rfl)
theorem is_compactP : FnIs Tryd.prog 61 (c_compactP ids) r_compactP 1 := FnIs.mk' Tryd.func61 mix (by kernel_rfl) (by kernel_rfl) (by kernel_rfl)
theorem is_iidx : FnIs Tryd.prog 51 (c_iidx ids) r_iidx 2 := FnIs.mk' Tryd.func51 mix (by kernel_rfl) (by kernel_rfl) (by kernel_rfl)
theorem is_osort : FnIs Tryd.prog 62 (c_osort ids) r_osort 1 := FnIs.mk' Tryd.func62 mix (by kernel_rfl) (by kernel_rfl) (by kernel_rfl)
theorem is_orelate : FnIsR Tryd.prog 63 (c_orelate ids) r_orelate 1 121 := FnIsR.mk' Tryd.func63 mix (by kernel_rfl) (by kernel_rfl) (by kernel_rfl)
theorem is_onew : FnIs Tryd.prog 41 (c_onew ids) r_onew 2 := FnIs.mk' Tryd.func41 mix (by kernel_rfl) (by kernel_rfl) (by kernel_rfl)
theorem is_oin : FnIs Tryd.prog 64 (c_oin ids) r_oin 2 := FnIs.mk' Tryd.func64 mix (by kernel_rfl) (by kernel_rfl) (by kernel_rfl)
theorem is_obelow : FnIs Tryd.prog 42 (c_obelow ids) r_obelow 2 := FnIs.mk' Tryd.func42 mix (by kernel_rfl) (by kernel_rfl) (by kernel_rfl)
theorem onew' : ONewSpec Tryd.prog ids 41 := onew_ok (ι := ids) is_onew sortP' (clipP_ok is_clipP) (compactP_ok is_compactP) (osort_ok (ι := ids) is_osort (iidx_ok is_iidx)) (relate_ok (ι := ids) (g := 0) is_orelate (ball_ok (ι := ids) is_ball) (by kernel_rfl) is_ball1 tz' bor' bwith')
theorem obelow' : OBlwSpec Tryd.prog 42 := obelow_ok (ι := ids) is_obelow (oin_ok is_oin)
theorem chains' : MChain Tryd.prog ids := ⟨mawake', onew', obelow', bhas', msize'⟩
theorem uArr2 : Tryd.prog.underlying 72 = some (.array 2 5) := by kernel_rfl
theorem cArr2 : Tryd.prog.cellsOf 72 = 2 := by kernel_rfl
end Go.Proofs.YtihlnbepcimnfaaDoor

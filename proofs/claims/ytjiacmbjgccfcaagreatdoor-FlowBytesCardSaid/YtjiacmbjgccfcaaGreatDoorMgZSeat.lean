/- The functions of this seat that the laws about the bytes and the text of workflows use, what they compute, and what the laid table is. No conditions. -/
import Derived.Test.YtjiacmbjgccfcaaGreatDoorRows
import Derived.Test.YtjiacmbjgccfcaaGreatDoorTie
import Derived.Test.YtjiacmbjgccfcaaGreatDoorCards
import Derived.Test.YtjiacmbjgccfcaaGreatDoorMgVE
import Derived.Test.YtjiacmbjgccfcaaGreatDoorMgV0
import Derived.SevenTiedAt
namespace Go.Proofs.YtjiacmbjgccfcaaGreatDoor
open Go.ChangeShapes Go.WideShapes Go.ChangeAt Go.WideElems Go.RowKit Go.Mg
set_option maxRecDepth 100000
def ids : Ids := ⟨fun n => ([0, 0, 0, 0, 0, 0, 0, 0, 0, 0, 0, 0, 0, 0, 0, 0, 0, 0, 0, 0, 0, 0, 0, 0, 0, 0, 0, 0, 0, 0, 0, 0, 0, 0, 0, 0, 0, 0, 0, 0, 0, 0, 0, 0, 0, 0, 0, 0, 0, 0, 0, 78, 110, 75, 0, 26, 74, 27, 76, 28, 30, 38, 39, 0, 0, 0, 0, 0, 90, 0, 113, 89, 91, 92, 0, 47, 0, 0, 101, 118, 0, 102, 0, 57, 58, 105, 0, 0, 62, 0, 0, 0, 0, 0, 0, 0, 0, 0, 0, 0, 0, 14, 0, 0, 0, 0, 0, 0, 31, 79, 80, 81, 82, 32, 83, 33, 87, 36, 111, 0, 0, 0, 0, 0, 0, 0, 108, 112, 0, 94, 50, 69, 117, 52, 86, 0, 107, 64, 0, 0, 46, 53, 56, 13, 0, 0, 0, 0, 0, 0, 0, 0, 0, 0, 0, 0, 0, 116, 0, 0, 0, 0, 0, 0, 0, 18, 0, 0, 0, 0, 0, 0, 0, 0, 0, 0, 0, 0, 0, 0, 0, 0, 0, 0, 0, 0, 0, 0, 0, 0, 0, 0, 97, 98, 0, 99, 0, 100, 95, 0, 96, 55, 0, 0, 73, 0, 0, 0, 0, 0, 0, 103, 0, 60, 0, 0, 106, 63, 121, 132, 133, 134, 135, 0, 65, 0, 0, 0, 0, 43, 0, 0, 0, 0, 0, 0, 0, 0, 0, 0, 0, 0, 0, 0, 0, 0, 0, 0, 0, 0, 0, 0, 0, 0, 0, 0, 0, 0, 0, 0, 0, 0, 0, 0, 0, 0, 0, 0, 0, 0, 0, 0, 0, 0, 0, 0, 0, 0, 0, 0, 0, 0, 41, 23, 51, 0, 72, 66, 0, 0, 0, 0, 21, 0, 0, 22, 0, 0, 0, 24, 6, 93, 48, 109, 70, 49, 54, 12, 0, 0, 0, 0, 25, 71, 20, 19, 67, 68, 0, 0, 17, 0, 0, 5, 0, 0, 0, 0, 0, 0, 44, 45, 42, 11, 0, 0, 0, 0, 77, 85, 29, 84, 34, 35, 37, 9, 88, 40, 7, 10, 0, 8, 3] : List Nat).getD n 0, fun n => ([0, 0, 0, 0, 0, 0, 0, 0, 0, 0, 0, 0, 0, 0, 0, 0, 0, 0, 0, 5, 0, 0, 0, 0, 0, 0, 3, 0, 75, 0, 0, 0, 210, 0, 0, 0, 0, 0, 0, 0, 0, 0, 0, 0, 0, 0, 0, 0, 0, 26, 0, 0, 0, 0, 141, 0, 0, 0, 0, 0, 0, 0, 0, 0, 0, 22, 0, 9, 0, 0, 0, 0, 0, 0, 156, 0, 0, 0, 0, 0, 163, 0, 165, 0, 0, 0, 0, 0, 0, 0, 0, 0, 0, 0, 0, 0, 0, 0, 0, 0, 0, 0, 0, 0, 0, 0, 0, 144, 0, 0, 0, 0, 0, 0, 0, 0, 0, 0, 0, 0, 0, 0, 0, 0, 0, 0, 0, 0, 50, 0, 0, 0, 0, 0, 0, 0, 0, 0, 69, 0, 0, 0, 0, 0, 0, 0, 0, 0, 0, 0, 0, 4, 0, 0, 0, 0, 0, 0, 0, 0, 0, 0, 0, 0, 0, 0, 0, 0, 0, 0, 0, 0, 0, 0, 0, 0, 0, 0, 0, 0, 0, 0, 0, 0, 0, 0, 0, 0, 0, 0, 0, 0, 0, 0, 62, 0, 111, 0, 0, 162, 0, 0, 0, 0, 0, 0, 0, 0, 0, 0, 0, 0, 0, 0, 0, 120, 0, 0, 0, 0, 0, 0, 0, 194, 0, 0, 0, 0, 0, 0, 0, 0, 0, 0, 0, 29, 0, 0, 0, 0, 0, 0, 0, 0, 0, 0, 0, 0, 0, 0, 0, 0, 0, 0, 0, 0, 0, 0, 0, 0, 0, 0, 0, 0, 0, 0, 0, 0, 0, 0, 0, 0, 0, 0, 0, 0, 0, 0, 0, 0, 0, 0, 0, 0, 0, 0, 0, 0, 25, 37, 95, 98, 0, 0, 0, 0, 32, 61, 64, 0, 0, 0, 0, 0, 0, 0, 0, 0, 0, 0, 0, 0, 0, 0, 0, 0, 0, 0, 66, 134, 0, 0, 0, 0, 0, 0, 0, 0, 0, 0, 0, 0, 0, 0, 0, 0, 0, 0, 0, 0, 0, 0, 0, 0, 0, 0, 0, 0, 0, 0, 90, 0, 0] : List Nat).getD n 0, fun n => ([0, 0, 0, 0, 0, 0, 0, 0, 0, 0, 0, 0, 0, 0, 0, 0, 0, 0, 0, 0, 0, 0, 0, 0, 0, 0, 0, 0, 0, 0, 0, 0, 0, 0, 0, 0, 0, 0, 0, 0, 0, 0, 0, 0, 0, 0, 0, 0, 0, 0, 0, 0, 0, 0, 0, 0, 0, 0, 0, 0, 0, 0, 0, 0, 0, 0, 0, 0, 0, 0, 0, 0, 0, 0, 0, 0, 0, 0, 0, 0, 0, 0, 0, 0, 0, 0, 0, 0, 0, 0, 0, 0, 0, 0, 0, 0, 0, 0, 0, 0, 0, 0, 0, 0, 0, 0, 0, 0, 0, 0, 0, 0, 0, 0, 0, 0, 0, 0, 0, 0, 0, 0, 0, 0, 0, 0, 0, 0, 0, 0, 0, 0, 0, 0, 0, 0, 0, 0, 0, 0, 0, 0, 0, 0, 0, 0, 0, 0, 0, 0, 0, 0, 0, 0, 0, 0, 0, 0, 0, 0, 0, 0, 0, 0, 0, 0, 0, 0, 0, 0, 0, 0, 0, 0, 0, 0, 0, 0, 0, 0, 0, 0, 0, 0, 0, 0, 0, 0, 0, 0, 0, 0, 0, 0, 0, 0, 0, 0, 0, 0, 0, 0, 0, 0, 0, 0, 0, 0, 0, 0, 0, 0, 0, 0, 0, 0, 0, 0, 0, 0, 0, 0, 0, 0, 0, 0, 0, 0, 0, 0, 0, 0, 0, 0, 0, 0, 0, 0, 0, 0, 0, 0, 0, 0, 0, 0, 0, 0, 0, 0, 0, 0, 0, 0, 0, 0, 0, 0, 0, 0, 0, 0, 0, 0, 0, 0, 0, 0, 0, 0, 0, 0, 0, 0, 0, 0, 0, 0, 0, 0, 0, 0, 0, 0, 0, 0, 0, 0, 0, 0, 0, 0, 0, 0, 0, 0, 0, 0, 0, 0, 0, 0, 0, 0, 0, 0, 0, 0, 0, 0, 0, 0, 0, 0, 0, 0, 0, 0, 0, 0, 0, 0, 0, 0, 0, 0, 0, 0, 0, 0, 0, 0, 0, 0, 0, 0, 0, 0, 0, 0, 0, 0, 0, 0, 0, 0, 0, 0, 0, 0, 0, 0, 0] : List Nat).getD n 0⟩
theorem mix : Tryz.prog.follows .mixedOrders = true := by kernel_rfl
def sortRen : Go.Shelf.Ren := ⟨fun | 6 => 95 | 14 => 114 | 15 => 115 | 20 => 122 | 21 => 123 | 22 => 124 | 23 => 125 | 24 => 126 | 25 => 127 | 26 => 128 | 27 => 129 | 28 => 130 | 29 => 112 | 46 => 136 | 47 => 137 | 48 => 138 | 49 => 139 | 50 => 140 | 57 => 145 | n => n, fun | 0 => 0 | 3 => 3 | 4 => 4 | 5 => 5 | 9 => 9 | 22 => 29 | 24 => 62 | 25 => 160 | 39 => 138 | 45 => 186 | 46 => 187 | 50 => 152 | 53 => 193 | 55 => 75 | 66 => 198 | 70 => 202 | 76 => 207 | 77 => 208 | n => n, fun n => n⟩
theorem sortLay : Go.Proofs.SlLaysF0.n6 Tryz.prog sortRen where
  mixed := by kernel_rfl
  f6 := ⟨"slices.SortFunc[[][2]int,[2]int]", by decide, Tryz.func95.trans (congrArg some (by kernel_rfl))⟩
  f14 := ⟨"slices.pdqsortCmpFunc[[2]int]", by decide, Tryz.func114.trans (congrArg some (by kernel_rfl))⟩
  f15 := Tryz.func115.trans (congrArg some (by kernel_rfl))
  f20 := ⟨"slices.insertionSortCmpFunc[[2]int]", by decide, Tryz.func122.trans (congrArg some (by kernel_rfl))⟩
  f21 := ⟨"slices.heapSortCmpFunc[[2]int]", by decide, Tryz.func123.trans (congrArg some (by kernel_rfl))⟩
  f22 := ⟨"slices.breakPatternsCmpFunc[[2]int]", by decide, Tryz.func124.trans (congrArg some (by kernel_rfl))⟩
  f23 := ⟨"slices.choosePivotCmpFunc[[2]int]", by decide, Tryz.func125.trans (congrArg some (by kernel_rfl))⟩
  f24 := ⟨"slices.reverseRangeCmpFunc[[2]int]", by decide, Tryz.func126.trans (congrArg some (by kernel_rfl))⟩
  f25 := ⟨"slices.partialInsertionSortCmpFunc[[2]int]", by decide, Tryz.func127.trans (congrArg some (by kernel_rfl))⟩
  f26 := ⟨"slices.partitionEqualCmpFunc[[2]int]", by decide, Tryz.func128.trans (congrArg some (by kernel_rfl))⟩
  f27 := ⟨"slices.partitionCmpFunc[[2]int]", by decide, Tryz.func129.trans (congrArg some (by kernel_rfl))⟩
  f28 := Tryz.func130.trans (congrArg some (by kernel_rfl))
  f29 := Tryz.func112.trans (congrArg some (by kernel_rfl))
  f46 := ⟨"slices.siftDownCmpFunc[[2]int]", by decide, Tryz.func136.trans (congrArg some (by kernel_rfl))⟩
  f47 := Tryz.func137.trans (congrArg some (by kernel_rfl))
  f48 := Tryz.func138.trans (congrArg some (by kernel_rfl))
  f49 := ⟨"slices.medianAdjacentCmpFunc[[2]int]", by decide, Tryz.func139.trans (congrArg some (by kernel_rfl))⟩
  f50 := ⟨"slices.medianCmpFunc[[2]int]", by decide, Tryz.func140.trans (congrArg some (by kernel_rfl))⟩
  f57 := ⟨"slices.order2CmpFunc[[2]int]", by decide, Tryz.func145.trans (congrArg some (by kernel_rfl))⟩
  t0 := Tryz.underlying0
  a0 := Tryz.isAgg0
  z0 := Tryz.sizeOf0
  v0 := Tryz.zeroValue0
  t3 := Tryz.underlying3
  a3 := Tryz.isAgg3
  z3 := Tryz.sizeOf3
  v3 := Tryz.zeroValue3
  t4 := Tryz.underlying4
  a4 := Tryz.isAgg4
  z4 := Tryz.sizeOf4
  v4 := Tryz.zeroValue4
  t5 := Tryz.underlying5
  a5 := Tryz.isAgg5
  z5 := Tryz.sizeOf5
  v5 := Tryz.zeroValue5
  t9 := Tryz.underlying9
  a9 := Tryz.isAgg9
  z9 := Tryz.sizeOf9
  v9 := Tryz.zeroValue9
  t22 := Tryz.underlying29
  a22 := Tryz.isAgg29
  z22 := Tryz.sizeOf29
  v22 := Tryz.zeroValue29
  t25 := Tryz.underlying160
  a25 := Tryz.isAgg160
  z25 := Tryz.sizeOf160
  v25 := Tryz.zeroValue160
  t39 := Tryz.underlying138
  a39 := Tryz.isAgg138
  z39 := Tryz.sizeOf138
  v39 := Tryz.zeroValue138
  t45 := Tryz.underlying186
  a45 := Tryz.isAgg186
  z45 := Tryz.sizeOf186
  v45 := Tryz.zeroValue186
  t46 := Tryz.underlying187
  a46 := Tryz.isAgg187
  z46 := Tryz.sizeOf187
  v46 := Tryz.zeroValue187
  t50 := Tryz.underlying152
  a50 := Tryz.isAgg152
  z50 := Tryz.sizeOf152
  v50 := Tryz.zeroValue152
  t53 := Tryz.underlying193
  a53 := Tryz.isAgg193
  z53 := Tryz.sizeOf193
  v53 := Tryz.zeroValue193
  t55 := Tryz.underlying75
  a55 := Tryz.isAgg75
  z55 := Tryz.sizeOf75
  v55 := Tryz.zeroValue75
  t66 := Tryz.underlying198
  a66 := Tryz.isAgg198
  z66 := Tryz.sizeOf198
  v66 := Tryz.zeroValue198
  t70 := Tryz.underlying202
  a70 := Tryz.isAgg202
  z70 := Tryz.sizeOf202
  v70 := Tryz.zeroValue202
  t76 := Tryz.underlying207
  a76 := Tryz.isAgg207
  z76 := Tryz.sizeOf207
  v76 := Tryz.zeroValue207
  t77 := Tryz.underlying208
  a77 := Tryz.isAgg208
  z77 := Tryz.sizeOf208
  v77 := Tryz.zeroValue208
theorem cmpOk : CmpOk Tryz.prog 96 := by
  intro x y W
  obtain ⟨x1, x2⟩ := x
  obtain ⟨y1, y2⟩ := y
  show Calls Tryz.prog 96 #[.agg #[.int .i64 (x1.val : Int), .int .i64 (x2.val : Int)], .agg #[.int .i64 (y1.val : Int), .int .i64 (y2.val : Int)]] W _
  unfold cf2
  have w1 : IntKind.i64.wrap ((x1.val : Int) - y1.val) = (x1.val : Int) - y1.val := IntWalk.i64_in _ (by omega)
  have w2 : IntKind.i64.wrap ((x2.val : Int) - y2.val) = (x2.val : Int) - y2.val := IntWalk.i64_in _ (by omega)
  by_cases h : x1 = y1
  · subst h
    simp only [if_true]
    go_enter Tryz.func96, Tryz.ntmps96
    go_wp2
    go_ret
    exact ⟨rfl, 0, _, by rw [Go.Sort.alloc_eq_grow, Go.Sort.alloc_eq_grow, Go.Sort.grow_grow]; rfl⟩
  · have h' : (x1.val : Int) ≠ (y1.val : Int) := fun e => h (Fin.ext (by omega))
    simp only [if_neg h]
    go_enter Tryz.func96, Tryz.ntmps96
    go_wp2
    go_ret
    exact ⟨rfl, 0, _, by rw [Go.Sort.alloc_eq_grow, Go.Sort.alloc_eq_grow, Go.Sort.grow_grow]; rfl⟩
theorem sortP' : PSortSpec Tryz.prog 95 96 := sort_ok sortLay Tryz.isAgg62 Tryz.sizeOf62 96 (Go.Proofs.enters_of Tryz.func96 (by kernel_rfl) rfl) cmpOk
theorem is_tz : FnIs Tryz.prog 108 (c_tz ids) r_tz 1 := FnIs.mk' Tryz.func108 mix (by kernel_rfl) (by kernel_rfl) (by kernel_rfl)
theorem is_bword : FnIs Tryz.prog 94 (c_bword ids) r_bword 2 := FnIs.mk' Tryz.func94 mix (by kernel_rfl) (by kernel_rfl) (by kernel_rfl)
theorem is_bhas : FnIs Tryz.prog 50 (c_bhas ids) r_bhas 2 := FnIs.mk' Tryz.func50 mix (by kernel_rfl) (by kernel_rfl) (by kernel_rfl)
theorem is_bwith : FnIs Tryz.prog 69 (c_bwith ids) r_bwith 2 := FnIs.mk' Tryz.func69 mix (by kernel_rfl) (by kernel_rfl) (by kernel_rfl)
theorem is_bor : FnIs Tryz.prog 117 (c_bor ids) r_bor 2 := FnIs.mk' Tryz.func117 mix (by kernel_rfl) (by kernel_rfl) (by kernel_rfl)
theorem is_bempty : FnIs Tryz.prog 52 (c_bempty ids) r_bempty 1 := FnIs.mk' Tryz.func52 mix (by kernel_rfl) (by kernel_rfl) (by kernel_rfl)
theorem is_bwithin : FnIs Tryz.prog 53 (c_bwithin ids) r_bwithin 2 := FnIs.mk' Tryz.func53 mix (by kernel_rfl) (by kernel_rfl) (by kernel_rfl)
theorem is_bequal : FnIs Tryz.prog 46 (c_bequal ids) r_bequal 2 := FnIs.mk' Tryz.func46 mix (by kernel_rfl) (by kernel_rfl) (by kernel_rfl)
theorem is_btrim : FnIs Tryz.prog 56 (c_btrim ids) r_btrim 1 := FnIs.mk' Tryz.func56 mix (by kernel_rfl) (by kernel_rfl) (by kernel_rfl)
theorem is_bof : FnIs Tryz.prog 13 (c_bof ids) r_bof 1 := FnIs.mk' Tryz.func13 mix (by kernel_rfl) (by kernel_rfl) (by kernel_rfl)
theorem is_bbelow : FnIs Tryz.prog 54 (c_bbelow ids) r_bbelow 1 := FnIs.mk' Tryz.func54 mix (by kernel_rfl) (by kernel_rfl) (by kernel_rfl)
theorem is_ball : FnIs Tryz.prog 64 (c_ball ids) r_ball 1 := FnIs.mk' Tryz.func64 mix (by kernel_rfl) (by kernel_rfl) (by kernel_rfl)
theorem is_ball1 : FnIsY Tryz.prog 107 (c_ball1 ids) r_ball1 2 := FnIsY.mk' Tryz.func107 (by kernel_rfl) (by kernel_rfl) (by kernel_rfl)
theorem is_clipP : FnIs Tryz.prog 97 (c_clipP ids) r_clipP 1 := FnIs.mk' Tryz.func97 mix (by kernel_rfl) (by kernel_rfl) (by kernel_rfl)
theorem is_compactP : FnIs Tryz.prog 98 (c_compactP ids) r_compactP 1 := FnIs.mk' Tryz.func98 mix (by kernel_rfl) (by kernel_rfl) (by kernel_rfl)
theorem is_iidx : FnIs Tryz.prog 116 (c_iidx ids) r_iidx 2 := FnIs.mk' Tryz.func116 mix (by kernel_rfl) (by kernel_rfl) (by kernel_rfl)
theorem is_osort : FnIs Tryz.prog 99 (c_osort ids) r_osort 1 := FnIs.mk' Tryz.func99 mix (by kernel_rfl) (by kernel_rfl) (by kernel_rfl)
theorem is_orelate : FnIsR Tryz.prog 100 (c_orelate ids) r_orelate 1 121 := FnIsR.mk' Tryz.func100 mix (by kernel_rfl) (by kernel_rfl) (by kernel_rfl)
theorem is_onew : FnIs Tryz.prog 55 (c_onew ids) r_onew 2 := FnIs.mk' Tryz.func55 mix (by kernel_rfl) (by kernel_rfl) (by kernel_rfl)
theorem is_clnP : FnIs Tryz.prog 73 (c_clnP ids) r_clnP 1 := FnIs.mk' Tryz.func73 mix (by kernel_rfl) (by kernel_rfl) (by kernel_rfl)
theorem is_sleq : FnIs Tryz.prog 18 (c_sleq ids) r_sleq 2 := FnIs.mk' Tryz.func18 mix (by kernel_rfl) (by kernel_rfl) (by kernel_rfl)
theorem is_nkw : FnIs Tryz.prog 90 (c_nkw ids) r_nkw 0 := FnIs.mk' Tryz.func90 mix (by kernel_rfl) (by kernel_rfl) (by kernel_rfl)
theorem is_sidx : FnIs Tryz.prog 113 (c_sidx ids) r_sidx 2 := FnIs.mk' Tryz.func113 mix (by kernel_rfl) (by kernel_rfl) (by kernel_rfl)
theorem is_scont : FnIs Tryz.prog 89 (c_scont ids) r_scont 2 := FnIs.mk' Tryz.func89 mix (by kernel_rfl) (by kernel_rfl) (by kernel_rfl)
theorem is_nletter : FnIs Tryz.prog 91 (c_nletter ids) r_nletter 1 := FnIs.mk' Tryz.func91 mix (by kernel_rfl) (by kernel_rfl) (by kernel_rfl)
theorem is_ninner : FnIs Tryz.prog 92 (c_ninner ids) r_ninner 2 := FnIs.mk' Tryz.func92 mix (by kernel_rfl) (by kernel_rfl) (by kernel_rfl)
theorem is_nvalid : FnIs Tryz.prog 47 (c_nvalid ids) r_nvalid 1 := FnIs.mk' Tryz.func47 mix (by kernel_rfl) (by kernel_rfl) (by kernel_rfl)
theorem is_rmemb : FnIs Tryz.prog 41 (c_rmemb ids) r_rmemb 1 := FnIs.mk' Tryz.func41 mix (by kernel_rfl) (by kernel_rfl) (by kernel_rfl)
theorem is_lroles : FnIs Tryz.prog 23 (c_lroles ids) r_lroles 1 := FnIs.mk' Tryz.func23 mix (by kernel_rfl) (by kernel_rfl) (by kernel_rfl)
theorem is_fpairs : FnIs Tryz.prog 51 (c_fpairs ids) r_fpairs 2 := FnIs.mk' Tryz.func51 mix (by kernel_rfl) (by kernel_rfl) (by kernel_rfl)
theorem is_rpair : FnIs Tryz.prog 72 (c_rpair ids) r_rpair 2 := FnIs.mk' Tryz.func72 mix (by kernel_rfl) (by kernel_rfl) (by kernel_rfl)
theorem is_rdig : FnIs Tryz.prog 66 (c_rdig ids) r_rdig 1 := FnIs.mk' Tryz.func66 mix (by kernel_rfl) (by kernel_rfl) (by kernel_rfl)
theorem is_rmakf : FnIs Tryz.prog 21 (c_rmakf ids) r_rmakf 1 := FnIs.mk' Tryz.func21 mix (by kernel_rfl) (by kernel_rfl) (by kernel_rfl)
theorem is_rusers : FnIs Tryz.prog 22 (c_rusers ids) r_rusers 2 := FnIs.mk' Tryz.func22 mix (by kernel_rfl) (by kernel_rfl) (by kernel_rfl)
theorem is_lflow : FnIs Tryz.prog 24 (c_lflow ids) r_lflow 1 := FnIs.mk' Tryz.func24 mix (by kernel_rfl) (by kernel_rfl) (by kernel_rfl)
theorem is_lmakf : FnIs Tryz.prog 6 (c_lmakf ids) r_lmakf 1 := FnIs.mk' Tryz.func6 mix (by kernel_rfl) (by kernel_rfl) (by kernel_rfl)
theorem is_idxF : FnIs Tryz.prog 93 (c_idxF ids) r_idxF 2 := FnIs.mk' Tryz.func93 mix (by kernel_rfl) (by kernel_rfl) (by kernel_rfl)
theorem is_conF : FnIs Tryz.prog 48 (c_conF ids) r_conF 2 := FnIs.mk' Tryz.func48 mix (by kernel_rfl) (by kernel_rfl) (by kernel_rfl)
theorem is_conG : FnIs Tryz.prog 70 (c_conG ids) r_conG 2 := FnIs.mk' Tryz.func70 mix (by kernel_rfl) (by kernel_rfl) (by kernel_rfl)
theorem is_chk1 : FnIs Tryz.prog 49 (c_chk1 ids) r_chk1 2 := FnIs.mk' Tryz.func49 mix (by kernel_rfl) (by kernel_rfl) (by kernel_rfl)
theorem is_fchk : FnIs Tryz.prog 12 (c_fchk ids) r_fchk 3 := FnIs.mk' Tryz.func12 mix (by kernel_rfl) (by kernel_rfl) (by kernel_rfl)
theorem is_fgood : FnIs Tryz.prog 25 (c_fgood ids) r_fgood 1 := FnIs.mk' Tryz.func25 mix (by kernel_rfl) (by kernel_rfl) (by kernel_rfl)
theorem is_rdy1 : FnIs Tryz.prog 71 (c_rdy1 ids) r_rdy1 3 := FnIs.mk' Tryz.func71 mix (by kernel_rfl) (by kernel_rfl) (by kernel_rfl)
theorem is_frdy : FnIs Tryz.prog 20 (c_frdy ids) r_frdy 2 := FnIs.mk' Tryz.func20 mix (by kernel_rfl) (by kernel_rfl) (by kernel_rfl)
theorem is_ford : FnIs Tryz.prog 19 (c_ford ids) r_ford 1 := FnIs.mk' Tryz.func19 mix (by kernel_rfl) (by kernel_rfl) (by kernel_rfl)
theorem is_smin : FnIs Tryz.prog 67 (c_smin ids) r_smin 1 := FnIs.mk' Tryz.func67 mix (by kernel_rfl) (by kernel_rfl) (by kernel_rfl)
theorem is_smax : FnIs Tryz.prog 68 (c_smax ids) r_smax 1 := FnIs.mk' Tryz.func68 mix (by kernel_rfl) (by kernel_rfl) (by kernel_rfl)
theorem is_fhld : FnIsR Tryz.prog 17 (c_fhld ids) r_fhld 2 134 := FnIsR.mk' Tryz.func17 mix (by kernel_rfl) (by kernel_rfl) (by kernel_rfl)
theorem is_fawk : FnIs Tryz.prog 5 (c_fawk ids) r_fawk 0 := FnIs.mk' Tryz.func5 mix (by kernel_rfl) (by kernel_rfl) (by kernel_rfl)
theorem is_idxG : FnIs Tryz.prog 109 (c_idxF ids) r_idxF 2 := FnIs.mk' Tryz.func109 mix (by kernel_rfl) (by kernel_rfl) (by kernel_rfl)
theorem tz' : TzSpec Tryz.prog ids 108 := tz_ok is_tz
theorem bword' : WordSpec Tryz.prog 94 := bword_ok is_bword
theorem bhas' : HasSpec Tryz.prog 50 := bhas_ok (ι := ids) is_bhas bword'
theorem bwith' : BWithSpec Tryz.prog 69 := bwith_ok (ι := ids) is_bwith bhas'
theorem bor' : BOrSpec Tryz.prog 117 := bor_ok (ι := ids) is_bor bword'
theorem bempty' : BEmptySpec Tryz.prog 52 := bempty_ok is_bempty
theorem bwithin' : BWithinSpec Tryz.prog 53 := bwithin_ok (ι := ids) is_bwithin bword'
theorem bof' : BOfSpec Tryz.prog 13 := bof_ok (ι := ids) is_bof (btrim_ok is_btrim)
theorem bbelow' : BBelowSpec Tryz.prog 54 := bbelow_ok is_bbelow
theorem onew' : ONewSpec Tryz.prog ids 55 := onew_ok (ι := ids) is_onew sortP' (clipP_ok is_clipP) (compactP_ok is_compactP) (osort_ok (ι := ids) is_osort (iidx_ok is_iidx)) (relate_ok (ι := ids) (g := 0) is_orelate (ball_ok (ι := ids) is_ball) (by kernel_rfl) is_ball1 tz' bor' bwith')
theorem sleq' : IEqSpec Tryz.prog 18 := sleq_ok is_sleq
theorem nvalid' : ValidSpec Tryz.prog 47 := nvalid_ok (ι := ids) is_nvalid (nkw_ok is_nkw) (scont_ok (ι := ids) is_scont (sidx_ok is_sidx)) (nletter_ok is_nletter) (ninner_ok is_ninner (nletter_ok is_nletter))
theorem lroles' : RolesSpec Tryz.prog 23 := lroles_ok (ι := ids) is_lroles (rmemb_ok is_rmemb) bof'
theorem fpairs' : PairsSpec Tryz.prog 51 := fpairs_ok is_fpairs
theorem rmakf' : RMakSpec Tryz.prog 21 := rmakf_ok (ι := ids) is_rmakf (rpair_ok is_rpair) (rdig_ok is_rdig)
theorem rusers' : RUsersSpec Tryz.prog 22 := rusers_ok is_rusers
theorem clnP' : ClnSpec pE Tryz.prog 73 := clnPG_ok pE_len pE_one is_clnP
theorem lflow' : LFlowSpec Tryz.prog 24 := lflow_ok (ι := ids) is_lflow clnP' lroles'
theorem lmakf' : LMakfSpec Tryz.prog 6 := lmakf_ok (ι := ids) is_lmakf rmakf' rusers' lroles' lflow'
theorem idxF' : IdxFSpec encS Tryz.prog 93 := idxF_ok encS_len is_idxF
theorem idxG' : IdxFSpec pE Tryz.prog 109 := idxF_ok pE_len is_idxG
theorem conF' : ConFSpec encS Tryz.prog 48 := conF_ok (ι := ids) is_conF idxF'
theorem conG' : ConFSpec pE Tryz.prog 70 := conG_ok (ι := ids) is_conG idxG'
theorem chk1' : Chk1Spec Tryz.prog 49 := chk1_ok is_chk1
theorem fchk' : FChkSpec Tryz.prog ids 12 := fchk_ok (ι := ids) is_fchk ⟨nvalidA_ok is_nvalid nvalid', conF', chk1', bhas', bempty', bwithin', bbelow', fpairs', onew'⟩
theorem fgood' : FGoodSpec Tryz.prog ids 25 := fgood_ok (ι := ids) is_fgood fchk'
theorem frdy' : FRdySpec Tryz.prog ids 20 := frdy_ok (ι := ids) is_frdy ⟨fgood', rdy1_ok (ι := ids) is_rdy1 bhas', conG', bhas'⟩
theorem ford' : FOrdSpec Tryz.prog ids 19 := ford_ok (ι := ids) is_ford fgood' frdy' bwith'
theorem fhld' : FHldSpec Tryz.prog ids 17 := fhld_ok (ι := ids) is_fhld ⟨fgood', smin_ok is_smin, smax_ok is_smax, ball_ok (ι := ids) is_ball, by kernel_rfl, is_ball1, tz'⟩
theorem fawk' : FAwkSpec Tryz.prog ids 5 := fawk_ok (ι := ids) is_fawk ⟨bof', fhld', ford', frdy', fchk', sleq'⟩
abbrev laid2 : List (String × DataW Unit) := [("math/bits.deBruijn64tab", Rows.laid_math_bits_deBruijn64tab)]
theorem own : ownKnob Tryz.prog.godebug = none := by kernel_rfl
theorem gTab : Tryz.prog.globalNamed "math/bits.deBruijn64tab" = some 0 := by kernel_rfl
theorem tTab : (Tryz.prog.globals[0]?).map (·.type) = some 184 ∧ Tryz.prog.underlying 184 = some (.array 64 5) ∧ Tryz.prog.underlying 5 = some (.int .u8) ∧ Tryz.prog.cellsOf 5 = 1 ∧ Tryz.prog.cellsOf 184 = 64 := ⟨by kernel_rfl, by kernel_rfl, by kernel_rfl, by kernel_rfl, by kernel_rfl⟩
theorem dTab : (Rows.laid_math_bits_deBruijn64tab : DataW Unit) = .agg ((tabL.map fun n : Nat => (n : Int)).map fun x => .lit (.int .u8 x)) := rfl
theorem of_laid {W : World} (h : laidMetH Tryz.prog laid2 W) : TabOk ids W.heap := by
  rw [MakeChecks.laidMetH_plain _ _ _ (by kernel_rfl)] at h
  obtain ⟨ps, ⟨g0, t0, cs0, f0, p0, q0, hg0, ht0, hv0, hd0, rfl, rfl⟩, _, hz⟩ := h
  obtain rfl := Option.some.inj (gTab.symm.trans hg0)
  obtain ⟨a0, b0, c0, d0, i0⟩ := tTab
  obtain rfl := Option.some.inj (a0.symm.trans ht0)
  have hz' : ∀ b off, MemPlace.cell b off ∈ _ → ∃ c t, W.heap[b]? = some (.cells c t (0, 0)) := fun b off h => (hz b off h).1
  exact bl_of_var hg0 hv0 hd0 dTab b0 c0 d0 i0 rfl (by omega) (fun x hx => by simp only [List.mem_append]; exact .inl (.inl hx)) hz'
theorem door_met (os : Os) (args : Array Value) : laidMetH Tryz.prog laid2 ((World.doorLaid Tryz.prog 4000 os).forCall (fun _ _ => 0) ⟨#[], args, []⟩).memory :=
  laidMetH_of_parts3 (fuel := 8) (laidMet_of_run' 8 (by kernel_rfl) (by kernel_rfl)) (by kernel_rfl) (by kernel_rfl)
theorem laidOut : laidOutB Tryz.prog = true := by kernel_rfl
theorem uBool : Tryz.prog.underlying 4 = some .bool := by kernel_rfl
theorem cByte : Tryz.prog.cellsOf 5 = 1 := by kernel_rfl
theorem uByte : Tryz.prog.underlying 5 = some (.int .u8) := by kernel_rfl
theorem cRaw : Tryz.prog.cellsOf 25 = 7 := by kernel_rfl
theorem uBs : Tryz.prog.underlying 22 = some (.slice 5) := by kernel_rfl
theorem cBs : Tryz.prog.cellsOf 22 = 1 := by kernel_rfl
theorem uArr : Tryz.prog.underlying 26 = some (.array 2 5) := by kernel_rfl
theorem cArr : Tryz.prog.cellsOf 26 = 2 := by kernel_rfl
theorem cPs : Tryz.prog.cellsOf 23 = 1 := by kernel_rfl
end Go.Proofs.YtjiacmbjgccfcaaGreatDoor

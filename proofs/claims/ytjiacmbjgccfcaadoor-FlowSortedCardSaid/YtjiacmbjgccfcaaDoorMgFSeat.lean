/- The functions of this seat that the laws about workflows use, what they compute, and what the laid table is. No conditions. -/
import Derived.Test.YtjiacmbjgccfcaaDoorRows
import Derived.Test.YtjiacmbjgccfcaaDoorTie
import Derived.Test.YtjiacmbjgccfcaaDoorCards
import Derived.Test.YtjiacmbjgccfcaaDoorMgVE
import Derived.Test.YtjiacmbjgccfcaaDoorMgV0
import Derived.SevenTiedAt
namespace Go.Proofs.YtjiacmbjgccfcaaDoor
open Go.ChangeShapes Go.WideShapes Go.ChangeAt Go.WideElems Go.RowKit Go.Mg
set_option maxRecDepth 100000
def ids : Ids := ⟨fun n => ([0, 0, 0, 0, 0, 0, 0, 0, 0, 0, 0, 0, 0, 0, 0, 0, 0, 0, 0, 0, 0, 0, 0, 0, 0, 0, 0, 0, 0, 0, 0, 0, 0, 0, 0, 0, 0, 0, 0, 0, 0, 0, 0, 0, 0, 0, 0, 0, 0, 0, 0, 0, 0, 0, 0, 0, 0, 0, 0, 0, 0, 0, 0, 0, 0, 0, 0, 0, 74, 86, 85, 73, 75, 76, 0, 42, 78, 0, 0, 0, 0, 0, 0, 0, 0, 0, 0, 0, 0, 0, 0, 0, 0, 0, 0, 0, 0, 0, 0, 0, 0, 0, 0, 0, 0, 0, 0, 0, 0, 0, 0, 0, 0, 0, 0, 0, 0, 0, 0, 0, 0, 0, 0, 0, 0, 0, 81, 96, 0, 66, 29, 27, 84, 46, 0, 0, 80, 57, 0, 0, 72, 30, 64, 26, 0, 0, 0, 0, 0, 0, 0, 0, 0, 0, 0, 0, 0, 65, 28, 68, 0, 0, 0, 0, 0, 17, 0, 0, 0, 0, 0, 0, 0, 0, 0, 0, 0, 0, 0, 0, 0, 0, 0, 0, 0, 0, 0, 0, 0, 0, 0, 0, 60, 61, 0, 62, 0, 63, 58, 0, 59, 25, 67, 0, 40, 0, 31, 0, 0, 32, 0, 0, 0, 0, 0, 0, 0, 0, 0, 0, 0, 0, 0, 0, 0, 0, 0, 0, 0, 34, 0, 0, 0, 0, 0, 0, 0, 0, 0, 0, 0, 0, 0, 0, 0, 0, 0, 0, 0, 0, 0, 0, 0, 0, 0, 0, 0, 0, 0, 0, 0, 0, 0, 0, 0, 0, 0, 0, 0, 0, 0, 0, 0, 0, 0, 0, 0, 0, 0, 0, 0, 0, 48, 14, 45, 50, 38, 37, 0, 0, 0, 0, 10, 39, 41, 51, 0, 0, 0, 13, 16, 77, 43, 79, 53, 44, 47, 12, 21, 19, 49, 15, 52, 54, 20, 18, 55, 56, 0, 0, 22, 24, 23, 9, 4, 5, 6, 0, 11, 3, 70, 71, 69, 36, 33, 35, 8, 7] : List Nat).getD n 0, fun n => ([0, 0, 0, 0, 0, 0, 0, 0, 0, 0, 0, 0, 0, 0, 0, 0, 0, 0, 0, 5, 0, 0, 0, 0, 0, 0, 3, 0, 37, 0, 0, 0, 0, 0, 0, 0, 0, 0, 0, 0, 0, 0, 0, 0, 0, 0, 0, 0, 0, 94, 0, 0, 0, 0, 0, 0, 0, 0, 0, 0, 0, 0, 0, 0, 0, 22, 0, 9, 0, 0, 0, 0, 0, 0, 129, 0, 0, 0, 0, 0, 0, 0, 0, 0, 0, 0, 0, 0, 0, 0, 0, 0, 0, 0, 0, 0, 0, 0, 0, 0, 0, 0, 0, 0, 0, 0, 0, 0, 0, 0, 0, 0, 0, 0, 0, 0, 0, 0, 0, 0, 0, 0, 0, 0, 0, 0, 0, 0, 47, 0, 0, 0, 0, 0, 0, 0, 0, 0, 55, 0, 0, 0, 0, 0, 0, 0, 0, 0, 0, 0, 0, 4, 0, 0, 0, 0, 0, 0, 0, 0, 0, 0, 0, 0, 0, 0, 0, 0, 0, 0, 0, 0, 0, 0, 0, 0, 0, 0, 0, 0, 0, 0, 0, 0, 0, 0, 0, 0, 0, 0, 0, 0, 0, 0, 74, 0, 70, 0, 0, 118, 0, 0, 0, 0, 0, 0, 0, 0, 0, 0, 0, 0, 0, 0, 0, 0, 0, 0, 0, 0, 0, 0, 0, 0, 0, 0, 0, 0, 0, 0, 0, 0, 0, 0, 0, 29, 0, 0, 0, 0, 0, 0, 0, 0, 0, 0, 0, 0, 0, 0, 0, 0, 0, 0, 0, 0, 0, 0, 0, 0, 0, 0, 0, 0, 0, 0, 0, 0, 0, 0, 0, 0, 0, 0, 0, 0, 0, 0, 0, 0, 0, 0, 0, 0, 0, 0, 0, 0, 25, 32, 82, 86, 0, 0, 0, 0, 43, 89, 91, 0, 0, 0, 0, 0, 0, 0, 0, 0, 0, 0, 0, 0, 0, 0, 0, 0, 0, 0, 62, 111, 0, 0, 0, 0, 0, 0, 0, 36, 0, 0, 0, 0, 0, 0, 0, 0, 0, 0] : List Nat).getD n 0, fun n => ([0, 0, 0, 0, 0, 0, 0, 0, 0, 0, 0, 0, 0, 0, 0, 0, 0, 0, 0, 0, 0, 0, 0, 0, 0, 0, 0, 0, 0, 0, 0, 0, 0, 0, 0, 0, 0, 0, 0, 0, 0, 0, 0, 0, 0, 0, 0, 0, 0, 0, 0, 0, 0, 0, 0, 0, 0, 0, 0, 0, 0, 0, 0, 0, 0, 0, 0, 0, 0, 0, 0, 0, 0, 0, 0, 0, 0, 0, 0, 0, 0, 0, 0, 0, 0, 0, 0, 0, 0, 0, 0, 0, 0, 0, 0, 0, 0, 0, 0, 0, 0, 0, 0, 0, 0, 0, 0, 0, 0, 0, 0, 0, 0, 0, 0, 0, 0, 0, 0, 0, 0, 0, 0, 0, 0, 0, 0, 0, 0, 0, 0, 0, 0, 0, 0, 0, 0, 0, 0, 0, 0, 0, 0, 0, 0, 0, 0, 0, 0, 0, 0, 0, 0, 0, 0, 0, 0, 0, 0, 0, 0, 0, 0, 0, 0, 0, 0, 0, 0, 0, 0, 0, 0, 0, 0, 0, 0, 0, 0, 0, 0, 0, 0, 0, 0, 0, 0, 0, 0, 0, 0, 0, 0, 0, 0, 0, 0, 0, 0, 0, 0, 0, 0, 0, 0, 0, 0, 0, 0, 0, 0, 0, 0, 0, 0, 0, 0, 0, 0, 0, 0, 0, 0, 0, 0, 0, 0, 0, 0, 0, 0, 0, 0, 0, 0, 0, 0, 0, 0, 0, 0, 0, 0, 0, 0, 0, 0, 0, 0, 0, 0, 0, 0, 0, 0, 0, 0, 0, 0, 0, 0, 0, 0, 0, 0, 0, 0, 0, 0, 0, 0, 0, 0, 0, 0, 0, 0, 0, 0, 0, 0, 0, 0, 0, 0, 0, 0, 0, 0, 0, 0, 0, 0, 0, 0, 0, 0, 0, 0, 0, 0, 0, 0, 0, 0, 0, 0, 0, 0, 0, 0, 0, 0, 0, 0, 0, 0, 0, 0, 0, 0, 0, 0, 0, 0, 0, 0, 0, 0, 0, 0, 0, 0, 0, 0, 0, 0, 0] : List Nat).getD n 0⟩
theorem mix : Tryd.prog.follows .mixedOrders = true := by kernel_rfl
def sortRen : Go.Shelf.Ren := ⟨fun | 6 => 58 | 14 => 82 | 15 => 83 | 20 => 87 | 21 => 88 | 22 => 89 | 23 => 90 | 24 => 91 | 25 => 92 | 26 => 93 | 27 => 94 | 28 => 95 | 29 => 96 | 46 => 97 | 47 => 98 | 48 => 99 | 49 => 100 | 50 => 101 | 57 => 102 | n => n, fun | 0 => 0 | 3 => 3 | 4 => 4 | 5 => 5 | 9 => 9 | 22 => 29 | 24 => 74 | 25 => 116 | 39 => 131 | 45 => 141 | 46 => 142 | 50 => 146 | 53 => 149 | 55 => 37 | 66 => 150 | 70 => 154 | 76 => 156 | 77 => 66 | n => n, fun n => n⟩
theorem sortLay : Go.Proofs.SlLaysF0.n6 Tryd.prog sortRen where
  mixed := by kernel_rfl
  f6 := ⟨"slices.SortFunc[[][2]int,[2]int]", by decide, Tryd.func58.trans (congrArg some (by kernel_rfl))⟩
  f14 := ⟨"slices.pdqsortCmpFunc[[2]int]", by decide, Tryd.func82.trans (congrArg some (by kernel_rfl))⟩
  f15 := Tryd.func83.trans (congrArg some (by kernel_rfl))
  f20 := ⟨"slices.insertionSortCmpFunc[[2]int]", by decide, Tryd.func87.trans (congrArg some (by kernel_rfl))⟩
  f21 := ⟨"slices.heapSortCmpFunc[[2]int]", by decide, Tryd.func88.trans (congrArg some (by kernel_rfl))⟩
  f22 := ⟨"slices.breakPatternsCmpFunc[[2]int]", by decide, Tryd.func89.trans (congrArg some (by kernel_rfl))⟩
  f23 := ⟨"slices.choosePivotCmpFunc[[2]int]", by decide, Tryd.func90.trans (congrArg some (by kernel_rfl))⟩
  f24 := ⟨"slices.reverseRangeCmpFunc[[2]int]", by decide, Tryd.func91.trans (congrArg some (by kernel_rfl))⟩
  f25 := ⟨"slices.partialInsertionSortCmpFunc[[2]int]", by decide, Tryd.func92.trans (congrArg some (by kernel_rfl))⟩
  f26 := ⟨"slices.partitionEqualCmpFunc[[2]int]", by decide, Tryd.func93.trans (congrArg some (by kernel_rfl))⟩
  f27 := ⟨"slices.partitionCmpFunc[[2]int]", by decide, Tryd.func94.trans (congrArg some (by kernel_rfl))⟩
  f28 := Tryd.func95.trans (congrArg some (by kernel_rfl))
  f29 := Tryd.func96.trans (congrArg some (by kernel_rfl))
  f46 := ⟨"slices.siftDownCmpFunc[[2]int]", by decide, Tryd.func97.trans (congrArg some (by kernel_rfl))⟩
  f47 := Tryd.func98.trans (congrArg some (by kernel_rfl))
  f48 := Tryd.func99.trans (congrArg some (by kernel_rfl))
  f49 := ⟨"slices.medianAdjacentCmpFunc[[2]int]", by decide, Tryd.func100.trans (congrArg some (by kernel_rfl))⟩
  f50 := ⟨"slices.medianCmpFunc[[2]int]", by decide, Tryd.func101.trans (congrArg some (by kernel_rfl))⟩
  f57 := ⟨"slices.order2CmpFunc[[2]int]", by decide, Tryd.func102.trans (congrArg some (by kernel_rfl))⟩
  t0 := Tryd.underlying0
  a0 := Tryd.isAgg0
  z0 := Tryd.sizeOf0
  v0 := Tryd.zeroValue0
  t3 := Tryd.underlying3
  a3 := Tryd.isAgg3
  z3 := Tryd.sizeOf3
  v3 := Tryd.zeroValue3
  t4 := Tryd.underlying4
  a4 := Tryd.isAgg4
  z4 := Tryd.sizeOf4
  v4 := Tryd.zeroValue4
  t5 := Tryd.underlying5
  a5 := Tryd.isAgg5
  z5 := Tryd.sizeOf5
  v5 := Tryd.zeroValue5
  t9 := Tryd.underlying9
  a9 := Tryd.isAgg9
  z9 := Tryd.sizeOf9
  v9 := Tryd.zeroValue9
  t22 := Tryd.underlying29
  a22 := Tryd.isAgg29
  z22 := Tryd.sizeOf29
  v22 := Tryd.zeroValue29
  t25 := Tryd.underlying116
  a25 := Tryd.isAgg116
  z25 := Tryd.sizeOf116
  v25 := Tryd.zeroValue116
  t39 := Tryd.underlying131
  a39 := Tryd.isAgg131
  z39 := Tryd.sizeOf131
  v39 := Tryd.zeroValue131
  t45 := Tryd.underlying141
  a45 := Tryd.isAgg141
  z45 := Tryd.sizeOf141
  v45 := Tryd.zeroValue141
  t46 := Tryd.underlying142
  a46 := Tryd.isAgg142
  z46 := Tryd.sizeOf142
  v46 := Tryd.zeroValue142
  t50 := Tryd.underlying146
  a50 := Tryd.isAgg146
  z50 := Tryd.sizeOf146
  v50 := Tryd.zeroValue146
  t53 := Tryd.underlying149
  a53 := Tryd.isAgg149
  z53 := Tryd.sizeOf149
  v53 := Tryd.zeroValue149
  t55 := Tryd.underlying37
  a55 := Tryd.isAgg37
  z55 := Tryd.sizeOf37
  v55 := Tryd.zeroValue37
  t66 := Tryd.underlying150
  a66 := Tryd.isAgg150
  z66 := Tryd.sizeOf150
  v66 := Tryd.zeroValue150
  t70 := Tryd.underlying154
  a70 := Tryd.isAgg154
  z70 := Tryd.sizeOf154
  v70 := Tryd.zeroValue154
  t76 := Tryd.underlying156
  a76 := Tryd.isAgg156
  z76 := Tryd.sizeOf156
  v76 := Tryd.zeroValue156
  t77 := Tryd.underlying66
  a77 := Tryd.isAgg66
  z77 := Tryd.sizeOf66
  v77 := Tryd.zeroValue66
theorem cmpOk : CmpOk Tryd.prog 59 := by
  intro x y W
  obtain ⟨x1, x2⟩ := x
  obtain ⟨y1, y2⟩ := y
  show Calls Tryd.prog 59 #[.agg #[.int .i64 (x1.val : Int), .int .i64 (x2.val : Int)], .agg #[.int .i64 (y1.val : Int), .int .i64 (y2.val : Int)]] W _
  unfold cf2
  have w1 : IntKind.i64.wrap ((x1.val : Int) - y1.val) = (x1.val : Int) - y1.val := IntWalk.i64_in _ (by omega)
  have w2 : IntKind.i64.wrap ((x2.val : Int) - y2.val) = (x2.val : Int) - y2.val := IntWalk.i64_in _ (by omega)
  by_cases h : x1 = y1
  · subst h
    simp only [if_true]
    go_enter Tryd.func59, Tryd.ntmps59
    go_wp2
    go_ret
    exact ⟨rfl, 0, _, by rw [Go.Sort.alloc_eq_grow, Go.Sort.alloc_eq_grow, Go.Sort.grow_grow]; rfl⟩
  · have h' : (x1.val : Int) ≠ (y1.val : Int) := fun e => h (Fin.ext (by omega))
    simp only [if_neg h]
    go_enter Tryd.func59, Tryd.ntmps59
    go_wp2
    go_ret
    exact ⟨rfl, 0, _, by rw [Go.Sort.alloc_eq_grow, Go.Sort.alloc_eq_grow, Go.Sort.grow_grow]; rfl⟩
theorem sortP' : PSortSpec Tryd.prog 58 59 := sort_ok sortLay Tryd.isAgg74 Tryd.sizeOf74 59 (Go.Proofs.enters_of Tryd.func59 (by kernel_rfl) rfl) cmpOk
theorem is_tz : FnIs Tryd.prog 81 (c_tz ids) r_tz 1 := FnIs.mk' Tryd.func81 mix (by kernel_rfl) (by kernel_rfl) (by kernel_rfl)
theorem is_bword : FnIs Tryd.prog 66 (c_bword ids) r_bword 2 := FnIs.mk' Tryd.func66 mix (by kernel_rfl) (by kernel_rfl) (by kernel_rfl)
theorem is_bhas : FnIs Tryd.prog 29 (c_bhas ids) r_bhas 2 := FnIs.mk' Tryd.func29 mix (by kernel_rfl) (by kernel_rfl) (by kernel_rfl)
theorem is_bwith : FnIs Tryd.prog 27 (c_bwith ids) r_bwith 2 := FnIs.mk' Tryd.func27 mix (by kernel_rfl) (by kernel_rfl) (by kernel_rfl)
theorem is_bor : FnIs Tryd.prog 84 (c_bor ids) r_bor 2 := FnIs.mk' Tryd.func84 mix (by kernel_rfl) (by kernel_rfl) (by kernel_rfl)
theorem is_bempty : FnIs Tryd.prog 46 (c_bempty ids) r_bempty 1 := FnIs.mk' Tryd.func46 mix (by kernel_rfl) (by kernel_rfl) (by kernel_rfl)
theorem is_bwithin : FnIs Tryd.prog 30 (c_bwithin ids) r_bwithin 2 := FnIs.mk' Tryd.func30 mix (by kernel_rfl) (by kernel_rfl) (by kernel_rfl)
theorem is_btrim : FnIs Tryd.prog 64 (c_btrim ids) r_btrim 1 := FnIs.mk' Tryd.func64 mix (by kernel_rfl) (by kernel_rfl) (by kernel_rfl)
theorem is_bof : FnIs Tryd.prog 26 (c_bof ids) r_bof 1 := FnIs.mk' Tryd.func26 mix (by kernel_rfl) (by kernel_rfl) (by kernel_rfl)
theorem is_bbelow : FnIs Tryd.prog 47 (c_bbelow ids) r_bbelow 1 := FnIs.mk' Tryd.func47 mix (by kernel_rfl) (by kernel_rfl) (by kernel_rfl)
theorem is_ball : FnIs Tryd.prog 57 (c_ball ids) r_ball 1 := FnIs.mk' Tryd.func57 mix (by kernel_rfl) (by kernel_rfl) (by kernel_rfl)
theorem is_ball1 : FnIsY Tryd.prog 80 (c_ball1 ids) r_ball1 2 := FnIsY.mk' Tryd.func80 (by kernel_rfl) (by kernel_rfl) (by kernel_rfl)
theorem is_clipP : FnIs Tryd.prog 60 (c_clipP ids) r_clipP 1 := FnIs.mk' Tryd.func60 mix (by kernel_rfl) (by kernel_rfl) (by kernel_rfl)
theorem is_compactP : FnIs Tryd.prog 61 (c_compactP ids) r_compactP 1 := FnIs.mk' Tryd.func61 mix (by kernel_rfl) (by kernel_rfl) (by kernel_rfl)
theorem is_iidx : FnIs Tryd.prog 65 (c_iidx ids) r_iidx 2 := FnIs.mk' Tryd.func65 mix (by kernel_rfl) (by kernel_rfl) (by kernel_rfl)
theorem is_osort : FnIs Tryd.prog 62 (c_osort ids) r_osort 1 := FnIs.mk' Tryd.func62 mix (by kernel_rfl) (by kernel_rfl) (by kernel_rfl)
theorem is_orelate : FnIsR Tryd.prog 63 (c_orelate ids) r_orelate 1 121 := FnIsR.mk' Tryd.func63 mix (by kernel_rfl) (by kernel_rfl) (by kernel_rfl)
theorem is_onew : FnIs Tryd.prog 25 (c_onew ids) r_onew 2 := FnIs.mk' Tryd.func25 mix (by kernel_rfl) (by kernel_rfl) (by kernel_rfl)
theorem is_oin : FnIs Tryd.prog 67 (c_oin ids) r_oin 2 := FnIs.mk' Tryd.func67 mix (by kernel_rfl) (by kernel_rfl) (by kernel_rfl)
theorem is_oabove : FnIs Tryd.prog 31 (c_oabove ids) r_oabove 2 := FnIs.mk' Tryd.func31 mix (by kernel_rfl) (by kernel_rfl) (by kernel_rfl)
theorem is_slcln : FnIs Tryd.prog 68 (c_slcln ids) r_slcln 1 := FnIs.mk' Tryd.func68 mix (by kernel_rfl) (by kernel_rfl) (by kernel_rfl)
theorem is_osorted : FnIs Tryd.prog 32 (c_osorted ids) r_osorted 1 := FnIs.mk' Tryd.func32 mix (by kernel_rfl) (by kernel_rfl) (by kernel_rfl)
theorem is_clnP : FnIs Tryd.prog 40 (c_clnP ids) r_clnP 1 := FnIs.mk' Tryd.func40 mix (by kernel_rfl) (by kernel_rfl) (by kernel_rfl)
theorem is_sleq : FnIs Tryd.prog 17 (c_sleq ids) r_sleq 2 := FnIs.mk' Tryd.func17 mix (by kernel_rfl) (by kernel_rfl) (by kernel_rfl)
theorem is_nkw : FnIs Tryd.prog 74 (c_nkw ids) r_nkw 0 := FnIs.mk' Tryd.func74 mix (by kernel_rfl) (by kernel_rfl) (by kernel_rfl)
theorem is_sidx : FnIs Tryd.prog 85 (c_sidx ids) r_sidx 2 := FnIs.mk' Tryd.func85 mix (by kernel_rfl) (by kernel_rfl) (by kernel_rfl)
theorem is_scont : FnIs Tryd.prog 73 (c_scont ids) r_scont 2 := FnIs.mk' Tryd.func73 mix (by kernel_rfl) (by kernel_rfl) (by kernel_rfl)
theorem is_nletter : FnIs Tryd.prog 75 (c_nletter ids) r_nletter 1 := FnIs.mk' Tryd.func75 mix (by kernel_rfl) (by kernel_rfl) (by kernel_rfl)
theorem is_ninner : FnIs Tryd.prog 76 (c_ninner ids) r_ninner 2 := FnIs.mk' Tryd.func76 mix (by kernel_rfl) (by kernel_rfl) (by kernel_rfl)
theorem is_nvalid : FnIs Tryd.prog 42 (c_nvalid ids) r_nvalid 1 := FnIs.mk' Tryd.func42 mix (by kernel_rfl) (by kernel_rfl) (by kernel_rfl)
theorem is_rmemb : FnIs Tryd.prog 48 (c_rmemb ids) r_rmemb 1 := FnIs.mk' Tryd.func48 mix (by kernel_rfl) (by kernel_rfl) (by kernel_rfl)
theorem is_lroles : FnIs Tryd.prog 14 (c_lroles ids) r_lroles 1 := FnIs.mk' Tryd.func14 mix (by kernel_rfl) (by kernel_rfl) (by kernel_rfl)
theorem is_fpairs : FnIs Tryd.prog 45 (c_fpairs ids) r_fpairs 2 := FnIs.mk' Tryd.func45 mix (by kernel_rfl) (by kernel_rfl) (by kernel_rfl)
theorem is_rpair : FnIs Tryd.prog 38 (c_rpair ids) r_rpair 2 := FnIs.mk' Tryd.func38 mix (by kernel_rfl) (by kernel_rfl) (by kernel_rfl)
theorem is_rdig : FnIs Tryd.prog 37 (c_rdig ids) r_rdig 1 := FnIs.mk' Tryd.func37 mix (by kernel_rfl) (by kernel_rfl) (by kernel_rfl)
theorem is_rmakf : FnIs Tryd.prog 10 (c_rmakf ids) r_rmakf 1 := FnIs.mk' Tryd.func10 mix (by kernel_rfl) (by kernel_rfl) (by kernel_rfl)
theorem is_rusers : FnIs Tryd.prog 51 (c_rusers ids) r_rusers 2 := FnIs.mk' Tryd.func51 mix (by kernel_rfl) (by kernel_rfl) (by kernel_rfl)
theorem is_lflow : FnIs Tryd.prog 13 (c_lflow ids) r_lflow 1 := FnIs.mk' Tryd.func13 mix (by kernel_rfl) (by kernel_rfl) (by kernel_rfl)
theorem is_lmakf : FnIs Tryd.prog 16 (c_lmakf ids) r_lmakf 1 := FnIs.mk' Tryd.func16 mix (by kernel_rfl) (by kernel_rfl) (by kernel_rfl)
theorem is_idxF : FnIs Tryd.prog 77 (c_idxF ids) r_idxF 2 := FnIs.mk' Tryd.func77 mix (by kernel_rfl) (by kernel_rfl) (by kernel_rfl)
theorem is_conF : FnIs Tryd.prog 43 (c_conF ids) r_conF 2 := FnIs.mk' Tryd.func43 mix (by kernel_rfl) (by kernel_rfl) (by kernel_rfl)
theorem is_conG : FnIs Tryd.prog 53 (c_conG ids) r_conG 2 := FnIs.mk' Tryd.func53 mix (by kernel_rfl) (by kernel_rfl) (by kernel_rfl)
theorem is_chk1 : FnIs Tryd.prog 44 (c_chk1 ids) r_chk1 2 := FnIs.mk' Tryd.func44 mix (by kernel_rfl) (by kernel_rfl) (by kernel_rfl)
theorem is_fchk : FnIs Tryd.prog 12 (c_fchk ids) r_fchk 3 := FnIs.mk' Tryd.func12 mix (by kernel_rfl) (by kernel_rfl) (by kernel_rfl)
theorem is_fgood : FnIs Tryd.prog 52 (c_fgood ids) r_fgood 1 := FnIs.mk' Tryd.func52 mix (by kernel_rfl) (by kernel_rfl) (by kernel_rfl)
theorem is_rdy1 : FnIs Tryd.prog 54 (c_rdy1 ids) r_rdy1 3 := FnIs.mk' Tryd.func54 mix (by kernel_rfl) (by kernel_rfl) (by kernel_rfl)
theorem is_frdy : FnIs Tryd.prog 20 (c_frdy ids) r_frdy 2 := FnIs.mk' Tryd.func20 mix (by kernel_rfl) (by kernel_rfl) (by kernel_rfl)
theorem is_ford : FnIs Tryd.prog 18 (c_ford ids) r_ford 1 := FnIs.mk' Tryd.func18 mix (by kernel_rfl) (by kernel_rfl) (by kernel_rfl)
theorem is_smin : FnIs Tryd.prog 55 (c_smin ids) r_smin 1 := FnIs.mk' Tryd.func55 mix (by kernel_rfl) (by kernel_rfl) (by kernel_rfl)
theorem is_smax : FnIs Tryd.prog 56 (c_smax ids) r_smax 1 := FnIs.mk' Tryd.func56 mix (by kernel_rfl) (by kernel_rfl) (by kernel_rfl)
theorem is_fhld : FnIsR Tryd.prog 22 (c_fhld ids) r_fhld 2 134 := FnIsR.mk' Tryd.func22 mix (by kernel_rfl) (by kernel_rfl) (by kernel_rfl)
theorem is_fawk : FnIs Tryd.prog 9 (c_fawk ids) r_fawk 0 := FnIs.mk' Tryd.func9 mix (by kernel_rfl) (by kernel_rfl) (by kernel_rfl)
theorem is_idxG : FnIs Tryd.prog 79 (c_idxF ids) r_idxF 2 := FnIs.mk' Tryd.func79 mix (by kernel_rfl) (by kernel_rfl) (by kernel_rfl)
theorem tz' : TzSpec Tryd.prog ids 81 := tz_ok is_tz
theorem bword' : WordSpec Tryd.prog 66 := bword_ok is_bword
theorem bhas' : HasSpec Tryd.prog 29 := bhas_ok (ι := ids) is_bhas bword'
theorem bwith' : BWithSpec Tryd.prog 27 := bwith_ok (ι := ids) is_bwith bhas'
theorem bor' : BOrSpec Tryd.prog 84 := bor_ok (ι := ids) is_bor bword'
theorem bempty' : BEmptySpec Tryd.prog 46 := bempty_ok is_bempty
theorem bwithin' : BWithinSpec Tryd.prog 30 := bwithin_ok (ι := ids) is_bwithin bword'
theorem bof' : BOfSpec Tryd.prog 26 := bof_ok (ι := ids) is_bof (btrim_ok is_btrim)
theorem bbelow' : BBelowSpec Tryd.prog 47 := bbelow_ok is_bbelow
theorem onew' : ONewSpec Tryd.prog ids 25 := onew_ok (ι := ids) is_onew sortP' (clipP_ok is_clipP) (compactP_ok is_compactP) (osort_ok (ι := ids) is_osort (iidx_ok is_iidx)) (relate_ok (ι := ids) (g := 0) is_orelate (ball_ok (ι := ids) is_ball) (by kernel_rfl) is_ball1 tz' bor' bwith')
theorem oin' : OInSpec Tryd.prog 67 := oin_ok is_oin
theorem oabove' : OAbvSpec Tryd.prog 31 := oabove_ok (ι := ids) is_oabove oin'
theorem osorted' : OSrtSpec Tryd.prog 32 := osorted_ok (ι := ids) is_osorted (slcln_ok is_slcln)
theorem sleq' : IEqSpec Tryd.prog 17 := sleq_ok is_sleq
theorem nvalid' : ValidSpec Tryd.prog 42 := nvalid_ok (ι := ids) is_nvalid (nkw_ok is_nkw) (scont_ok (ι := ids) is_scont (sidx_ok is_sidx)) (nletter_ok is_nletter) (ninner_ok is_ninner (nletter_ok is_nletter))
theorem lroles' : RolesSpec Tryd.prog 14 := lroles_ok (ι := ids) is_lroles (rmemb_ok is_rmemb) bof'
theorem fpairs' : PairsSpec Tryd.prog 45 := fpairs_ok is_fpairs
theorem rmakf' : RMakSpec Tryd.prog 10 := rmakf_ok (ι := ids) is_rmakf (rpair_ok is_rpair) (rdig_ok is_rdig)
theorem rusers' : RUsersSpec Tryd.prog 51 := rusers_ok is_rusers
theorem clnP' : ClnSpec pE Tryd.prog 40 := clnPG_ok pE_len pE_one is_clnP
theorem lflow' : LFlowSpec Tryd.prog 13 := lflow_ok (ι := ids) is_lflow clnP' lroles'
theorem lmakf' : LMakfSpec Tryd.prog 16 := lmakf_ok (ι := ids) is_lmakf rmakf' rusers' lroles' lflow'
theorem idxF' : IdxFSpec encS Tryd.prog 77 := idxF_ok encS_len is_idxF
theorem idxG' : IdxFSpec pE Tryd.prog 79 := idxF_ok pE_len is_idxG
theorem conF' : ConFSpec encS Tryd.prog 43 := conF_ok (ι := ids) is_conF idxF'
theorem conG' : ConFSpec pE Tryd.prog 53 := conG_ok (ι := ids) is_conG idxG'
theorem chk1' : Chk1Spec Tryd.prog 44 := chk1_ok is_chk1
theorem fchk' : FChkSpec Tryd.prog ids 12 := fchk_ok (ι := ids) is_fchk ⟨nvalidA_ok is_nvalid nvalid', conF', chk1', bhas', bempty', bwithin', bbelow', fpairs', onew'⟩
theorem fgood' : FGoodSpec Tryd.prog ids 52 := fgood_ok (ι := ids) is_fgood fchk'
theorem frdy' : FRdySpec Tryd.prog ids 20 := frdy_ok (ι := ids) is_frdy ⟨fgood', rdy1_ok (ι := ids) is_rdy1 bhas', conG', bhas'⟩
theorem ford' : FOrdSpec Tryd.prog ids 18 := ford_ok (ι := ids) is_ford fgood' frdy' bwith'
theorem fhld' : FHldSpec Tryd.prog ids 22 := fhld_ok (ι := ids) is_fhld ⟨fgood', smin_ok is_smin, smax_ok is_smax, ball_ok (ι := ids) is_ball, by kernel_rfl, is_ball1, tz'⟩
theorem fawk' : FAwkSpec Tryd.prog ids 9 := fawk_ok (ι := ids) is_fawk ⟨bof', fhld', ford', frdy', fchk', sleq'⟩
abbrev laid2 : List (String × DataW Unit) := [("math/bits.deBruijn64tab", Rows.laid_math_bits_deBruijn64tab)]
theorem own : ownKnob Tryd.prog.godebug = none := by kernel_rfl
theorem gTab : Tryd.prog.globalNamed "math/bits.deBruijn64tab" = some 0 := by kernel_rfl
theorem tTab : (Tryd.prog.globals[0]?).map (·.type) = some 139 ∧ Tryd.prog.underlying 139 = some (.array 64 5) ∧ Tryd.prog.underlying 5 = some (.int .u8) ∧ Tryd.prog.cellsOf 5 = 1 ∧ Tryd.prog.cellsOf 139 = 64 := ⟨by kernel_rfl, by kernel_rfl, by kernel_rfl, by kernel_rfl, by kernel_rfl⟩
theorem dTab : (Rows.laid_math_bits_deBruijn64tab : DataW Unit) = .agg ((tabL.map fun n : Nat => (n : Int)).map fun x => .lit (.int .u8 x)) := rfl
theorem of_laid {W : World} (h : laidMetH Tryd.prog laid2 W) : TabOk ids W.heap := by
  rw [MakeChecks.laidMetH_plain _ _ _ (by kernel_rfl)] at h
  obtain ⟨ps, ⟨g0, t0, cs0, f0, p0, q0, hg0, ht0, hv0, hd0, rfl, rfl⟩, _, hz⟩ := h
  obtain rfl := Option.some.inj (gTab.symm.trans hg0)
  obtain ⟨a0, b0, c0, d0, i0⟩ := tTab
  obtain rfl := Option.some.inj (a0.symm.trans ht0)
  have hz' : ∀ b off, MemPlace.cell b off ∈ _ → ∃ c t, W.heap[b]? = some (.cells c t (0, 0)) := fun b off h => (hz b off h).1
  exact bl_of_var hg0 hv0 hd0 dTab b0 c0 d0 i0 rfl (by omega) (fun x hx => by simp only [List.mem_append]; exact .inl (.inl hx)) hz'
theorem door_met (os : Os) (args : Array Value) : laidMetH Tryd.prog laid2 ((World.doorLaid Tryd.prog 4000 os).forCall (fun _ _ => 0) ⟨#[], args, []⟩).memory :=
  laidMetH_of_parts3 (fuel := 8) (laidMet_of_run' 8 (by kernel_rfl) (by kernel_rfl)) (by kernel_rfl) (by kernel_rfl)
theorem laidOut : laidOutB Tryd.prog = true := by kernel_rfl
theorem uBool : Tryd.prog.underlying 4 = some .bool := by kernel_rfl
theorem cByte : Tryd.prog.cellsOf 5 = 1 := by kernel_rfl
theorem uByte : Tryd.prog.underlying 5 = some (.int .u8) := by kernel_rfl
theorem cRaw : Tryd.prog.cellsOf 25 = 7 := by kernel_rfl
theorem uBs : Tryd.prog.underlying 22 = some (.slice 5) := by kernel_rfl
theorem cBs : Tryd.prog.cellsOf 22 = 1 := by kernel_rfl
theorem uArr : Tryd.prog.underlying 94 = some (.array 2 5) := by kernel_rfl
theorem cArr : Tryd.prog.cellsOf 94 = 2 := by kernel_rfl
theorem cPs : Tryd.prog.cellsOf 23 = 1 := by kernel_rfl
end Go.Proofs.YtjiacmbjgccfcaaDoor

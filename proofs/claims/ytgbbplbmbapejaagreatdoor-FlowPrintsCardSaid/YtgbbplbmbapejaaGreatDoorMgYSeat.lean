/- The functions of this seat that the law uses, what they compute, and what the laid tables are. No conditions. -/
import Derived.Test.YtgbbplbmbapejaaGreatDoorRows
import Derived.Test.YtgbbplbmbapejaaGreatDoorTie
import Derived.Test.YtgbbplbmbapejaaGreatDoorCards
import Derived.Test.YtgbbplbmbapejaaGreatDoorMgYC
import Derived.Test.YtgbbplbmbapejaaGreatDoorMgHArg
import Derived.SevenTiedAt
import Derived.Lib.Builder
import Derived.Lib.UnsafeStr
import Derived.Laws.Externs
import Derived.Shelf.RegionOpenPlain
import Derived.Lib.Walk
set_option linter.all false
namespace Go.Proofs.YtgbbplbmbapejaaGreatDoor
open Go.ChangeShapes Go.WideShapes Go.ChangeAt Go.WideElems Go.RowKit Go.Mg
set_option maxRecDepth 100000
def ids : Ids := ⟨fun n => ([0, 0, 0, 0, 0, 0, 0, 0, 0, 0, 0, 0, 0, 0, 0, 0, 0, 0, 0, 0, 0, 0, 0, 0, 0, 0, 0, 0, 0, 0, 0, 0, 0, 0, 0, 0, 0, 0, 0, 0, 0, 0, 0, 0, 0, 0, 0, 0, 0, 0, 0, 0, 0, 0, 0, 0, 0, 0, 0, 0, 0, 0, 0, 0, 0, 0, 0, 0, 59, 0, 73, 58, 60, 61, 0, 38, 0, 0, 48, 69, 0, 49, 0, 19, 20, 52, 0, 0, 25, 0, 0, 0, 0, 0, 0, 0, 0, 0, 0, 0, 0, 6, 0, 0, 0, 0, 0, 0, 0, 0, 0, 0, 0, 0, 0, 0, 0, 0, 0, 0, 0, 0, 0, 0, 0, 0, 55, 92, 0, 57, 37, 34, 77, 42, 0, 0, 54, 27, 0, 0, 0, 43, 31, 9, 0, 0, 0, 0, 0, 0, 0, 0, 0, 0, 0, 0, 0, 76, 0, 0, 0, 0, 0, 0, 0, 11, 0, 0, 0, 0, 0, 0, 0, 0, 0, 0, 0, 0, 0, 0, 0, 0, 0, 0, 0, 0, 0, 0, 0, 0, 0, 0, 65, 66, 0, 67, 0, 68, 63, 0, 64, 45, 0, 0, 47, 0, 0, 0, 0, 0, 0, 50, 0, 23, 0, 0, 53, 26, 72, 79, 80, 81, 82, 0, 28, 0, 0, 0, 0, 0, 0, 0, 0, 0, 0, 0, 0, 0, 0, 0, 0, 0, 0, 0, 0, 0, 0, 0, 0, 0, 0, 0, 0, 0, 0, 0, 0, 0, 0, 0, 0, 0, 0, 0, 0, 0, 0, 0, 0, 0, 0, 0, 0, 0, 0, 0, 0, 0, 0, 0, 0, 0, 30, 17, 41, 0, 46, 29, 0, 0, 0, 0, 15, 0, 0, 16, 0, 0, 0, 18, 5, 62, 39, 56, 35, 40, 44, 14, 0, 0, 0, 0, 21, 36, 13, 12, 32, 33, 0, 0, 10, 0, 0, 4, 0, 0, 0, 0, 0, 0, 0, 0, 0, 0, 0, 0, 0, 0, 0, 0, 0, 0, 0, 0, 0, 0, 0, 0, 0, 0, 0, 0, 0, 0, 0, 0, 0, 0, 0, 0, 0, 0, 0, 0, 0, 0, 0, 0, 0, 0, 0, 0, 0, 0, 0, 0, 0, 0, 0, 0, 0, 0, 0, 0, 0, 0, 0, 0, 0, 0, 0, 0, 0, 0, 0, 0, 0, 0, 0, 0, 0, 0, 0, 0, 0, 0, 0, 0, 0, 0, 0, 0, 0, 0, 0, 0, 0, 0, 0, 0, 0, 0, 0, 0, 0, 78, 71, 51, 0, 0, 0, 0, 0, 0, 0, 0, 0, 0, 0, 0, 0, 0, 0, 0, 0, 0, 0, 24, 22, 0, 7, 8, 3] : List Nat).getD n 0, fun n => ([0, 0, 0, 0, 0, 0, 0, 0, 0, 0, 0, 0, 0, 0, 0, 0, 0, 0, 0, 5, 0, 0, 0, 0, 0, 0, 3, 0, 67, 0, 0, 0, 172, 0, 0, 0, 0, 0, 0, 0, 0, 0, 0, 0, 0, 0, 0, 0, 0, 111, 0, 0, 0, 0, 0, 0, 0, 0, 0, 0, 0, 0, 0, 0, 0, 22, 0, 9, 0, 0, 0, 0, 0, 0, 127, 0, 0, 0, 0, 0, 114, 0, 116, 0, 0, 0, 0, 0, 0, 0, 0, 0, 0, 0, 0, 0, 0, 0, 0, 0, 0, 0, 0, 0, 0, 0, 0, 0, 0, 0, 0, 0, 0, 0, 0, 0, 0, 0, 0, 0, 0, 0, 0, 0, 0, 0, 0, 0, 52, 0, 0, 0, 0, 0, 0, 0, 0, 0, 60, 0, 0, 0, 0, 0, 0, 0, 0, 0, 0, 0, 0, 4, 0, 0, 0, 0, 0, 0, 0, 0, 0, 0, 0, 0, 0, 0, 0, 0, 0, 0, 0, 0, 0, 0, 0, 0, 0, 0, 0, 0, 0, 0, 0, 0, 0, 0, 0, 0, 0, 0, 0, 0, 0, 0, 50, 0, 107, 0, 0, 132, 0, 0, 0, 0, 0, 0, 0, 0, 0, 0, 0, 0, 0, 0, 0, 76, 0, 0, 0, 0, 0, 0, 0, 145, 0, 0, 0, 0, 0, 0, 0, 0, 0, 0, 0, 28, 0, 0, 0, 0, 0, 0, 0, 0, 0, 0, 0, 0, 0, 0, 0, 0, 0, 0, 0, 0, 0, 0, 0, 0, 0, 0, 0, 0, 0, 0, 0, 0, 0, 0, 0, 0, 0, 0, 0, 0, 0, 0, 0, 0, 0, 0, 0, 0, 0, 0, 0, 0, 25, 36, 90, 92, 0, 0, 0, 0, 31, 49, 55, 0, 0, 0, 0, 0, 0, 0, 0, 0, 0, 0, 0, 0, 0, 0, 0, 0, 0, 0, 57, 96, 0, 0, 0, 0, 0, 0, 0, 0, 0, 0, 0, 0, 0, 0, 0, 0, 0, 0, 0, 0, 0, 0, 0, 0, 0, 0, 0, 0, 0, 0, 0, 0, 0, 0, 0, 0, 0, 0, 0, 0, 0, 0, 0, 0, 0, 0, 0, 0, 0, 0, 0, 0, 0, 0, 0, 0, 0, 0, 0, 0, 0, 0, 0, 0, 0, 0, 0, 0, 0, 0, 0, 0, 0, 0, 0, 0, 0, 0, 0, 0, 0, 0, 0, 42, 0, 0, 0, 0, 0, 0, 0, 0, 0, 0, 0, 0, 0, 0, 0, 0, 0, 0, 0, 0, 0, 0, 0, 0, 0, 0, 0, 0, 0, 0, 0, 0, 0, 0, 0, 0, 0, 142, 0, 0, 0, 0, 0, 0, 0, 40, 0, 0, 0] : List Nat).getD n 0, fun n => ([0, 0, 0, 0, 0, 0, 0, 0, 0, 0, 0, 0, 0, 0, 0, 0, 0, 0, 0, 0, 0, 0, 0, 0, 0, 0, 0, 0, 0, 0, 0, 0, 0, 0, 0, 0, 0, 0, 0, 0, 0, 0, 0, 0, 0, 0, 0, 0, 0, 0, 0, 0, 0, 0, 0, 0, 0, 0, 0, 0, 0, 0, 0, 0, 0, 0, 0, 0, 0, 0, 0, 0, 0, 0, 0, 0, 0, 0, 0, 0, 0, 0, 0, 0, 0, 0, 0, 0, 0, 0, 0, 0, 0, 0, 0, 0, 0, 0, 0, 0, 0, 0, 0, 0, 0, 0, 0, 0, 0, 0, 0, 0, 0, 0, 0, 0, 0, 0, 0, 0, 0, 0, 0, 0, 0, 0, 0, 0, 0, 0, 0, 0, 0, 0, 0, 0, 0, 0, 0, 0, 0, 0, 0, 0, 0, 0, 0, 0, 0, 0, 0, 0, 0, 0, 0, 0, 0, 0, 0, 0, 0, 0, 0, 0, 0, 0, 0, 0, 0, 0, 0, 0, 0, 0, 0, 0, 0, 0, 0, 0, 0, 0, 0, 0, 0, 0, 0, 0, 0, 0, 0, 0, 0, 0, 0, 0, 0, 0, 0, 0, 0, 0, 0, 0, 0, 0, 0, 0, 0, 0, 0, 0, 0, 0, 0, 0, 0, 0, 0, 0, 0, 0, 0, 0, 0, 0, 0, 0, 0, 0, 0, 0, 0, 0, 0, 0, 0, 0, 0, 0, 0, 0, 0, 0, 0, 0, 0, 0, 0, 0, 0, 0, 0, 0, 0, 0, 0, 0, 0, 0, 0, 0, 0, 0, 0, 0, 0, 0, 0, 0, 0, 0, 0, 0, 0, 0, 0, 0, 0, 0, 0, 0, 0, 0, 0, 0, 0, 0, 0, 0, 0, 0, 0, 0, 0, 0, 0, 0, 0, 0, 0, 0, 0, 0, 0, 0, 0, 0, 0, 0, 0, 0, 0, 0, 0, 0, 0, 0, 0, 0, 0, 0, 0, 0, 0, 0, 0, 0, 0, 0, 0, 0, 0, 0, 0, 0, 0, 0, 0, 0, 0, 0, 0, 0, 0, 0, 0, 0, 0, 0, 0, 0, 0, 0, 0, 0, 0, 0, 0, 0, 0, 0, 0, 0, 0, 0, 0, 0, 0, 0, 0, 0, 0, 0, 0, 0, 0, 0, 0, 0, 0, 0, 0, 0, 0, 0, 0, 0, 0, 0, 0, 0, 0, 0, 0, 0, 0, 0, 0, 0, 0, 0, 0, 0, 0, 0, 0, 0, 0, 0, 0, 0, 0, 0, 0, 0, 0, 0, 0, 0, 0, 0, 0, 0, 0, 0, 0, 0, 0, 0, 0, 0, 0, 0, 0, 0, 0, 0, 0, 0, 0, 0, 0, 0, 0, 0, 0, 0, 0, 0, 0, 0, 0] : List Nat).getD n 0⟩
theorem mix : Tryz.prog.follows .mixedOrders = true := by kernel_rfl
def sortRen : Go.Shelf.Ren := ⟨fun | 6 => 63 | 14 => 74 | 15 => 75 | 20 => 83 | 21 => 84 | 22 => 85 | 23 => 86 | 24 => 87 | 25 => 88 | 26 => 89 | 27 => 90 | 28 => 91 | 29 => 92 | 46 => 97 | 47 => 98 | 48 => 99 | 49 => 100 | 50 => 101 | 57 => 103 | n => n, fun | 0 => 0 | 3 => 3 | 4 => 4 | 5 => 5 | 9 => 9 | 22 => 28 | 24 => 50 | 25 => 130 | 39 => 112 | 45 => 150 | 46 => 151 | 50 => 155 | 53 => 158 | 55 => 67 | 66 => 163 | 70 => 167 | 76 => 169 | 77 => 170 | n => n, fun n => n⟩
theorem sortLay : Go.Proofs.SlLaysF0.n6 Tryz.prog sortRen where
 mixed := by kernel_rfl
 f6 := ⟨"slices.SortFunc[[][2]int,[2]int]", by decide, Tryz.func63.trans (congrArg some (by kernel_rfl))⟩
 f14 := ⟨"slices.pdqsortCmpFunc[[2]int]", by decide, Tryz.func74.trans (congrArg some (by kernel_rfl))⟩
 f15 := Tryz.func75.trans (congrArg some (by kernel_rfl))
 f20 := ⟨"slices.insertionSortCmpFunc[[2]int]", by decide, Tryz.func83.trans (congrArg some (by kernel_rfl))⟩
 f21 := ⟨"slices.heapSortCmpFunc[[2]int]", by decide, Tryz.func84.trans (congrArg some (by kernel_rfl))⟩
 f22 := ⟨"slices.breakPatternsCmpFunc[[2]int]", by decide, Tryz.func85.trans (congrArg some (by kernel_rfl))⟩
 f23 := ⟨"slices.choosePivotCmpFunc[[2]int]", by decide, Tryz.func86.trans (congrArg some (by kernel_rfl))⟩
 f24 := ⟨"slices.reverseRangeCmpFunc[[2]int]", by decide, Tryz.func87.trans (congrArg some (by kernel_rfl))⟩
 f25 := ⟨"slices.partialInsertionSortCmpFunc[[2]int]", by decide, Tryz.func88.trans (congrArg some (by kernel_rfl))⟩
 f26 := ⟨"slices.partitionEqualCmpFunc[[2]int]", by decide, Tryz.func89.trans (congrArg some (by kernel_rfl))⟩
 f27 := ⟨"slices.partitionCmpFunc[[2]int]", by decide, Tryz.func90.trans (congrArg some (by kernel_rfl))⟩
 f28 := Tryz.func91.trans (congrArg some (by kernel_rfl))
 f29 := Tryz.func92.trans (congrArg some (by kernel_rfl))
 f46 := ⟨"slices.siftDownCmpFunc[[2]int]", by decide, Tryz.func97.trans (congrArg some (by kernel_rfl))⟩
 f47 := Tryz.func98.trans (congrArg some (by kernel_rfl))
 f48 := Tryz.func99.trans (congrArg some (by kernel_rfl))
 f49 := ⟨"slices.medianAdjacentCmpFunc[[2]int]", by decide, Tryz.func100.trans (congrArg some (by kernel_rfl))⟩
 f50 := ⟨"slices.medianCmpFunc[[2]int]", by decide, Tryz.func101.trans (congrArg some (by kernel_rfl))⟩
 f57 := ⟨"slices.order2CmpFunc[[2]int]", by decide, Tryz.func103.trans (congrArg some (by kernel_rfl))⟩
 t0 := Tryz.underlying0
 a0 := Tryz.isAgg0
 z0 := Tryz.sizeOf0
 v0 := Tryz.zeroValue0
 t3 := Tryz.underlying3
 a3 := Tryz.isAgg3
 z3 := Tryz.sizeOf3
 v3 := Tryz.zeroValue3
 t4 := Tryz.underlying4
 a4 := Tryz.isAgg4
 z4 := Tryz.sizeOf4
 v4 := Tryz.zeroValue4
 t5 := Tryz.underlying5
 a5 := Tryz.isAgg5
 z5 := Tryz.sizeOf5
 v5 := Tryz.zeroValue5
 t9 := Tryz.underlying9
 a9 := Tryz.isAgg9
 z9 := Tryz.sizeOf9
 v9 := Tryz.zeroValue9
 t22 := Tryz.underlying28
 a22 := Tryz.isAgg28
 z22 := Tryz.sizeOf28
 v22 := Tryz.zeroValue28
 t25 := Tryz.underlying130
 a25 := Tryz.isAgg130
 z25 := Tryz.sizeOf130
 v25 := Tryz.zeroValue130
 t39 := Tryz.underlying112
 a39 := Tryz.isAgg112
 z39 := Tryz.sizeOf112
 v39 := Tryz.zeroValue112
 t45 := Tryz.underlying150
 a45 := Tryz.isAgg150
 z45 := Tryz.sizeOf150
 v45 := Tryz.zeroValue150
 t46 := Tryz.underlying151
 a46 := Tryz.isAgg151
 z46 := Tryz.sizeOf151
 v46 := Tryz.zeroValue151
 t50 := Tryz.underlying155
 a50 := Tryz.isAgg155
 z50 := Tryz.sizeOf155
 v50 := Tryz.zeroValue155
 t53 := Tryz.underlying158
 a53 := Tryz.isAgg158
 z53 := Tryz.sizeOf158
 v53 := Tryz.zeroValue158
 t55 := Tryz.underlying67
 a55 := Tryz.isAgg67
 z55 := Tryz.sizeOf67
 v55 := Tryz.zeroValue67
 t66 := Tryz.underlying163
 a66 := Tryz.isAgg163
 z66 := Tryz.sizeOf163
 v66 := Tryz.zeroValue163
 t70 := Tryz.underlying167
 a70 := Tryz.isAgg167
 z70 := Tryz.sizeOf167
 v70 := Tryz.zeroValue167
 t76 := Tryz.underlying169
 a76 := Tryz.isAgg169
 z76 := Tryz.sizeOf169
 v76 := Tryz.zeroValue169
 t77 := Tryz.underlying170
 a77 := Tryz.isAgg170
 z77 := Tryz.sizeOf170
 v77 := Tryz.zeroValue170
theorem cmpOk : CmpOk Tryz.prog 64 := by
 intro x y W
 obtain ⟨x1, x2⟩ := x
 obtain ⟨y1, y2⟩ := y
 show Calls Tryz.prog 64 #[.agg #[.int .i64 (x1.val : Int), .int .i64 (x2.val : Int)], .agg #[.int .i64 (y1.val : Int), .int .i64 (y2.val : Int)]] W _
 unfold cf2
 have w1 : IntKind.i64.wrap ((x1.val : Int) - y1.val) = (x1.val : Int) - y1.val := IntWalk.i64_in _ (by omega)
 have w2 : IntKind.i64.wrap ((x2.val : Int) - y2.val) = (x2.val : Int) - y2.val := IntWalk.i64_in _ (by omega)
 by_cases h : x1 = y1
 ·subst h
  simp only [if_true]
  go_enter Tryz.func64, Tryz.ntmps64
  go_wp2
  go_ret
  exact ⟨rfl, 0, _, by rw [Go.Sort.alloc_eq_grow, Go.Sort.alloc_eq_grow, Go.Sort.grow_grow]; rfl⟩
 ·have h' : (x1.val : Int) ≠ (y1.val : Int) := fun e => h (Fin.ext (by omega))
  simp only [if_neg h]
  go_enter Tryz.func64, Tryz.ntmps64
  go_wp2
  go_ret
  exact ⟨rfl, 0, _, by rw [Go.Sort.alloc_eq_grow, Go.Sort.alloc_eq_grow, Go.Sort.grow_grow]; rfl⟩
theorem sortP' : PSortSpec Tryz.prog 63 64 := sort_ok sortLay Tryz.isAgg50 Tryz.sizeOf50 64 (Go.Proofs.enters_of Tryz.func64 (by kernel_rfl) rfl) cmpOk
theorem bSize : (Tryz.prog.info? 76).map (·.size) = some 2 := by kernel_rfl
theorem bLies : liesAt Tryz.prog Tryz.prog.depth 76 (2 / Tryz.prog.cellsOf 76) 0 76 1 = true := by kernel_rfl
set_option maxHeartbeats 1000000 in
theorem copyUsed (b : Nat) (w : World) (h0 : w.cell? ⟨b, 0, none⟩ = some (.pointer (some ⟨b, 0, none⟩))) :
  Calls Tryz.prog 50 #[.pointer (some ⟨b, 0, none⟩)] w fun e w' => e = .returned (.tuple #[]) /\ w' = w := by
 obtain ⟨j, hj, _⟩ := Option.map_eq_some_iff.1 bSize
 go_enter Tryz.func50, Tryz.ntmps50
 go_wp2
 rw [Lib.run_neq_ptr_same w _ Tryz.underlying74 hj]
 go_wp2
 go_end0
 exact ⟨rfl, rfl⟩
set_option maxHeartbeats 1000000 in
theorem copyFresh (b : Nat) (w : World) (h0 : w.cell? ⟨b, 0, none⟩ = some (.pointer none)) (hsh : w.shape? b = some (76, 2)) (hfz : w.frozen? ⟨b, 0, none⟩ = false) :
  Calls Tryz.prog 50 #[.pointer (some ⟨b, 0, none⟩)] w fun e w' => e = .returned (.tuple #[]) /\ w' = w.setCell ⟨b, 0, none⟩ (.pointer (some ⟨b, 0, none⟩)) := by
 obtain ⟨j, hj, hjs⟩ := Option.map_eq_some_iff.1 bSize
 go_enter Tryz.func50, Tryz.ntmps50
 go_wp2
 rw [Lib.run_to_unsafe w ⟨b, 0, none⟩ Tryz.underlying74 Tryz.underlying134 hj (by rw [hjs]; decide) hsh (Nat.zero_lt_succ 1)]
 simp only [Result.andThen]
 rw [Oper.upon_value]
 go_wp2
 rw [run_callFunc_extern Tryz.func70 (by kernel_rfl) (by kernel_rfl) (by kernel_rfl) (e := Extern.AbiNoEscape.same) (by kernel_rfl)]
 rw [Lib.run_noEscape]
 simp only [Result.andThen]
 rw [Oper.upon_value]
 go_wp2
 rw [Lib.run_from_unsafe w ⟨b, 0, none⟩ Tryz.underlying134 Tryz.underlying74 hj hsh bLies]
 simp only [Result.andThen]
 rw [Oper.upon_value]
 go_wp2
 go_end0
 exact ⟨rfl, rfl⟩
set_option maxHeartbeats 1000000 in
theorem strRun (b g n cap : Nat) (p : Value) (l : List UInt8) (w : World) (hl : l.length = n) (hl0 : n ≠ 0) (hn : n < 1000000) (hbk : w.heap[b]? = some (.cells #[p, .slice (some ⟨g, 0, none⟩) n cap] 76 (0, 0))) (cur : Array Value) (z : Nat × Nat) (hg : w.heap[g]? = some (.cells cur 5 z)) (hnc : n <= cap) (hcs : n <= cur.size)
  (hcell : ∀ j x, l[j]? = some x -> w.cell? ⟨g, 0 + j, none⟩ = some (.int .u8 x.toNat)) :
  Calls Tryz.prog 28 #[.pointer (some ⟨b, 0, none⟩)] w fun e w' => e = .returned (.string ⟨l.toArray⟩) /\ w' = w.drew.freeze ⟨g, 0, none⟩ n := by
 have c1 : w.drew.cell? ⟨b, 1, none⟩ = some (.slice (some ⟨g, 0, none⟩) n cap) := by
  have : w.drew.heap[b]? = some (.cells #[p, .slice (some ⟨g, 0, none⟩) n cap] 76 (0, 0)) := hbk
  rw [Lib.cell_of_heap this]; rfl
 have hSD : (Builtin.unsafeSliceData_ #[22] 122 #[.slice (some ⟨g, 0, none⟩) n cap]).run Tryz.prog w.drew = .ok (.pointer (some ⟨g, 0, none⟩)) w.drew :=
  Lib.run_unsafeSliceData_row _ _ _ _ _ _ (by omega)
 have hUS : (Builtin.unsafeString_ #[122, 3] 9 #[.pointer (some ⟨g, 0, none⟩), .int .i64 n]).run Tryz.prog w.drew = .ok (.string ⟨l.toArray⟩) (w.drew.freeze ⟨g, 0, none⟩ n) := by
  subst hl
  refine Lib.run_unsafeString_row w.drew 122 3 9 5 Tryz.underlying122 (by kernel_rfl) g cur.size (by have hg' : w.drew.heap[g]? = some (.cells cur 5 z) := hg; simp [World.shape?, hg']) l (by intro e; simp [e] at hl0) (by omega) (by omega) ?_
  intro j x hx
  have := hcell j x hx
  rw [add_mk]
  exact this
 have mixed : Tryz.prog.follows .mixedOrders = true := by kernel_rfl
 go_enter Tryz.func28, Tryz.ntmps28
 go_wp2
 go_region_o
 all_goals (go_wp2; go_ret; exact ⟨rfl, rfl⟩)
theorem bcopy' : BCopySpec Tryz.prog ids 50 := bcopy_of (T := 76) rfl copyUsed copyFresh
theorem bstr' : BStrSpec Tryz.prog ids 28 := bstr_of (T := 76) (U := 5) rfl rfl strRun
theorem is_tz : FnIs Tryz.prog 55 (c_tz ids) r_tz 1 := FnIs.mk' Tryz.func55 mix (by kernel_rfl) (by kernel_rfl) (by kernel_rfl)
theorem is_bword : FnIs Tryz.prog 57 (c_bword ids) r_bword 2 := FnIs.mk' Tryz.func57 mix (by kernel_rfl) (by kernel_rfl) (by kernel_rfl)
theorem is_bhas : FnIs Tryz.prog 37 (c_bhas ids) r_bhas 2 := FnIs.mk' Tryz.func37 mix (by kernel_rfl) (by kernel_rfl) (by kernel_rfl)
theorem is_bwith : FnIs Tryz.prog 34 (c_bwith ids) r_bwith 2 := FnIs.mk' Tryz.func34 mix (by kernel_rfl) (by kernel_rfl) (by kernel_rfl)
theorem is_bor : FnIs Tryz.prog 77 (c_bor ids) r_bor 2 := FnIs.mk' Tryz.func77 mix (by kernel_rfl) (by kernel_rfl) (by kernel_rfl)
theorem is_bempty : FnIs Tryz.prog 42 (c_bempty ids) r_bempty 1 := FnIs.mk' Tryz.func42 mix (by kernel_rfl) (by kernel_rfl) (by kernel_rfl)
theorem is_bwithin : FnIs Tryz.prog 43 (c_bwithin ids) r_bwithin 2 := FnIs.mk' Tryz.func43 mix (by kernel_rfl) (by kernel_rfl) (by kernel_rfl)
theorem is_btrim : FnIs Tryz.prog 31 (c_btrim ids) r_btrim 1 := FnIs.mk' Tryz.func31 mix (by kernel_rfl) (by kernel_rfl) (by kernel_rfl)
theorem is_bof : FnIs Tryz.prog 9 (c_bof ids) r_bof 1 := FnIs.mk' Tryz.func9 mix (by kernel_rfl) (by kernel_rfl) (by kernel_rfl)
theorem is_bbelow : FnIs Tryz.prog 44 (c_bbelow ids) r_bbelow 1 := FnIs.mk' Tryz.func44 mix (by kernel_rfl) (by kernel_rfl) (by kernel_rfl)
theorem is_ball : FnIs Tryz.prog 27 (c_ball ids) r_ball 1 := FnIs.mk' Tryz.func27 mix (by kernel_rfl) (by kernel_rfl) (by kernel_rfl)
theorem is_ball1 : FnIsY Tryz.prog 54 (c_ball1 ids) r_ball1 2 := FnIsY.mk' Tryz.func54 (by kernel_rfl) (by kernel_rfl) (by kernel_rfl)
theorem is_clipP : FnIs Tryz.prog 65 (c_clipP ids) r_clipP 1 := FnIs.mk' Tryz.func65 mix (by kernel_rfl) (by kernel_rfl) (by kernel_rfl)
theorem is_compactP : FnIs Tryz.prog 66 (c_compactP ids) r_compactP 1 := FnIs.mk' Tryz.func66 mix (by kernel_rfl) (by kernel_rfl) (by kernel_rfl)
theorem is_iidx : FnIs Tryz.prog 76 (c_iidx ids) r_iidx 2 := FnIs.mk' Tryz.func76 mix (by kernel_rfl) (by kernel_rfl) (by kernel_rfl)
theorem is_osort : FnIs Tryz.prog 67 (c_osort ids) r_osort 1 := FnIs.mk' Tryz.func67 mix (by kernel_rfl) (by kernel_rfl) (by kernel_rfl)
theorem is_orelate : FnIsR Tryz.prog 68 (c_orelate ids) r_orelate 1 121 := FnIsR.mk' Tryz.func68 mix (by kernel_rfl) (by kernel_rfl) (by kernel_rfl)
theorem is_onew : FnIs Tryz.prog 45 (c_onew ids) r_onew 2 := FnIs.mk' Tryz.func45 mix (by kernel_rfl) (by kernel_rfl) (by kernel_rfl)
theorem is_clnP : FnIs Tryz.prog 47 (c_clnP ids) r_clnP 1 := FnIs.mk' Tryz.func47 mix (by kernel_rfl) (by kernel_rfl) (by kernel_rfl)
theorem is_sleq : FnIs Tryz.prog 11 (c_sleq ids) r_sleq 2 := FnIs.mk' Tryz.func11 mix (by kernel_rfl) (by kernel_rfl) (by kernel_rfl)
theorem is_nkw : FnIs Tryz.prog 59 (c_nkw ids) r_nkw 0 := FnIs.mk' Tryz.func59 mix (by kernel_rfl) (by kernel_rfl) (by kernel_rfl)
theorem is_sidx : FnIs Tryz.prog 73 (c_sidx ids) r_sidx 2 := FnIs.mk' Tryz.func73 mix (by kernel_rfl) (by kernel_rfl) (by kernel_rfl)
theorem is_scont : FnIs Tryz.prog 58 (c_scont ids) r_scont 2 := FnIs.mk' Tryz.func58 mix (by kernel_rfl) (by kernel_rfl) (by kernel_rfl)
theorem is_nletter : FnIs Tryz.prog 60 (c_nletter ids) r_nletter 1 := FnIs.mk' Tryz.func60 mix (by kernel_rfl) (by kernel_rfl) (by kernel_rfl)
theorem is_ninner : FnIs Tryz.prog 61 (c_ninner ids) r_ninner 2 := FnIs.mk' Tryz.func61 mix (by kernel_rfl) (by kernel_rfl) (by kernel_rfl)
theorem is_nvalid : FnIs Tryz.prog 38 (c_nvalid ids) r_nvalid 1 := FnIs.mk' Tryz.func38 mix (by kernel_rfl) (by kernel_rfl) (by kernel_rfl)
theorem is_rmemb : FnIs Tryz.prog 30 (c_rmemb ids) r_rmemb 1 := FnIs.mk' Tryz.func30 mix (by kernel_rfl) (by kernel_rfl) (by kernel_rfl)
theorem is_lroles : FnIs Tryz.prog 17 (c_lroles ids) r_lroles 1 := FnIs.mk' Tryz.func17 mix (by kernel_rfl) (by kernel_rfl) (by kernel_rfl)
theorem is_fpairs : FnIs Tryz.prog 41 (c_fpairs ids) r_fpairs 2 := FnIs.mk' Tryz.func41 mix (by kernel_rfl) (by kernel_rfl) (by kernel_rfl)
theorem is_rpair : FnIs Tryz.prog 46 (c_rpair ids) r_rpair 2 := FnIs.mk' Tryz.func46 mix (by kernel_rfl) (by kernel_rfl) (by kernel_rfl)
theorem is_rdig : FnIs Tryz.prog 29 (c_rdig ids) r_rdig 1 := FnIs.mk' Tryz.func29 mix (by kernel_rfl) (by kernel_rfl) (by kernel_rfl)
theorem is_rmakf : FnIs Tryz.prog 15 (c_rmakf ids) r_rmakf 1 := FnIs.mk' Tryz.func15 mix (by kernel_rfl) (by kernel_rfl) (by kernel_rfl)
theorem is_rusers : FnIs Tryz.prog 16 (c_rusers ids) r_rusers 2 := FnIs.mk' Tryz.func16 mix (by kernel_rfl) (by kernel_rfl) (by kernel_rfl)
theorem is_lflow : FnIs Tryz.prog 18 (c_lflow ids) r_lflow 1 := FnIs.mk' Tryz.func18 mix (by kernel_rfl) (by kernel_rfl) (by kernel_rfl)
theorem is_lmakf : FnIs Tryz.prog 5 (c_lmakf ids) r_lmakf 1 := FnIs.mk' Tryz.func5 mix (by kernel_rfl) (by kernel_rfl) (by kernel_rfl)
theorem is_idxF : FnIs Tryz.prog 62 (c_idxF ids) r_idxF 2 := FnIs.mk' Tryz.func62 mix (by kernel_rfl) (by kernel_rfl) (by kernel_rfl)
theorem is_conF : FnIs Tryz.prog 39 (c_conF ids) r_conF 2 := FnIs.mk' Tryz.func39 mix (by kernel_rfl) (by kernel_rfl) (by kernel_rfl)
theorem is_conG : FnIs Tryz.prog 35 (c_conG ids) r_conG 2 := FnIs.mk' Tryz.func35 mix (by kernel_rfl) (by kernel_rfl) (by kernel_rfl)
theorem is_chk1 : FnIs Tryz.prog 40 (c_chk1 ids) r_chk1 2 := FnIs.mk' Tryz.func40 mix (by kernel_rfl) (by kernel_rfl) (by kernel_rfl)
theorem is_fchk : FnIs Tryz.prog 14 (c_fchk ids) r_fchk 3 := FnIs.mk' Tryz.func14 mix (by kernel_rfl) (by kernel_rfl) (by kernel_rfl)
theorem is_fgood : FnIs Tryz.prog 21 (c_fgood ids) r_fgood 1 := FnIs.mk' Tryz.func21 mix (by kernel_rfl) (by kernel_rfl) (by kernel_rfl)
theorem is_rdy1 : FnIs Tryz.prog 36 (c_rdy1 ids) r_rdy1 3 := FnIs.mk' Tryz.func36 mix (by kernel_rfl) (by kernel_rfl) (by kernel_rfl)
theorem is_frdy : FnIs Tryz.prog 13 (c_frdy ids) r_frdy 2 := FnIs.mk' Tryz.func13 mix (by kernel_rfl) (by kernel_rfl) (by kernel_rfl)
theorem is_ford : FnIs Tryz.prog 12 (c_ford ids) r_ford 1 := FnIs.mk' Tryz.func12 mix (by kernel_rfl) (by kernel_rfl) (by kernel_rfl)
theorem is_smin : FnIs Tryz.prog 32 (c_smin ids) r_smin 1 := FnIs.mk' Tryz.func32 mix (by kernel_rfl) (by kernel_rfl) (by kernel_rfl)
theorem is_smax : FnIs Tryz.prog 33 (c_smax ids) r_smax 1 := FnIs.mk' Tryz.func33 mix (by kernel_rfl) (by kernel_rfl) (by kernel_rfl)
theorem is_fhld : FnIsR Tryz.prog 10 (c_fhld ids) r_fhld 2 134 := FnIsR.mk' Tryz.func10 mix (by kernel_rfl) (by kernel_rfl) (by kernel_rfl)
theorem is_fawk : FnIs Tryz.prog 4 (c_fawk ids) r_fawk 0 := FnIs.mk' Tryz.func4 mix (by kernel_rfl) (by kernel_rfl) (by kernel_rfl)
theorem is_idxG : FnIs Tryz.prog 56 (c_idxF ids) r_idxF 2 := FnIs.mk' Tryz.func56 mix (by kernel_rfl) (by kernel_rfl) (by kernel_rfl)
theorem is_bws : FnIs Tryz.prog 23 (c_bws ids) r_bws 2 := FnIs.mk' Tryz.func23 mix (by kernel_rfl) (by kernel_rfl) (by kernel_rfl)
theorem is_bgrw : FnIs Tryz.prog 71 (c_bgrw ids) r_bgrw 2 := FnIs.mk' Tryz.func71 mix (by kernel_rfl) (by kernel_rfl) (by kernel_rfl)
theorem is_bGrow : FnIs Tryz.prog 51 (c_bGrow ids) r_bGrow 2 := FnIs.mk' Tryz.func51 mix (by kernel_rfl) (by kernel_rfl) (by kernel_rfl)
theorem is_sclone : FnIs Tryz.prog 48 (c_sclone ids) r_sclone 1 := FnIs.mk' Tryz.func48 mix (by kernel_rfl) (by kernel_rfl) (by kernel_rfl)
theorem is_mclone : FnIs Tryz.prog 49 (c_mclone ids) r_mclone 1 := FnIs.mk' Tryz.func49 mix (by kernel_rfl) (by kernel_rfl) (by kernel_rfl)
theorem is_nnew : FnIs Tryz.prog 19 (c_nnew ids) r_nnew 0 := FnIs.mk' Tryz.func19 mix (by kernel_rfl) (by kernel_rfl) (by kernel_rfl)
theorem is_nadd : FnIs Tryz.prog 20 (c_nadd ids) r_nadd 3 := FnIs.mk' Tryz.func20 mix (by kernel_rfl) (by kernel_rfl) (by kernel_rfl)
theorem is_nof : FnIs Tryz.prog 6 (c_nof ids) r_nof 2 := FnIs.mk' Tryz.func6 mix (by kernel_rfl) (by kernel_rfl) (by kernel_rfl)
theorem is_nlen : FnIs Tryz.prog 52 (c_nlen ids) r_nlen 1 := FnIs.mk' Tryz.func52 mix (by kernel_rfl) (by kernel_rfl) (by kernel_rfl)
theorem is_nname : FnIs Tryz.prog 25 (c_nname ids) r_nname 2 := FnIs.mk' Tryz.func25 mix (by kernel_rfl) (by kernel_rfl) (by kernel_rfl)
theorem is_itoa : FnIs Tryz.prog 26 (c_itoa ids) r_itoa 1 := FnIs.mk' Tryz.func26 mix (by kernel_rfl) (by kernel_rfl) (by kernel_rfl)
theorem is_itoai : FnIs Tryz.prog 53 (c_itoai ids) r_itoai 1 := FnIs.mk' Tryz.func53 mix (by kernel_rfl) (by kernel_rfl) (by kernel_rfl)
theorem is_fmtint : FnIs Tryz.prog 72 (c_fmtint ids) r_fmtint 2 := FnIs.mk' Tryz.func72 mix (by kernel_rfl) (by kernel_rfl) (by kernel_rfl)
theorem is_small : FnIs Tryz.prog 79 (c_small ids) r_small 1 := FnIs.mk' Tryz.func79 mix (by kernel_rfl) (by kernel_rfl) (by kernel_rfl)
theorem is_sjoin : FnIs Tryz.prog 24 (c_sjoin ids) r_sjoin 2 := FnIs.mk' Tryz.func24 mix (by kernel_rfl) (by kernel_rfl) (by kernel_rfl)
theorem is_prn1 : FnIs Tryz.prog 22 (c_prn1 ids) r_prn1 2 := FnIs.mk' Tryz.func22 mix (by kernel_rfl) (by kernel_rfl) (by kernel_rfl)
theorem is_fprn : FnIsR Tryz.prog 7 (c_fprn ids) r_fprn 2 161 := FnIsR.mk' Tryz.func7 mix (by kernel_rfl) (by kernel_rfl) (by kernel_rfl)
theorem is_rprn : FnIs Tryz.prog 8 (c_rprn ids) r_rprn 2 := FnIs.mk' Tryz.func8 mix (by kernel_rfl) (by kernel_rfl) (by kernel_rfl)
theorem tz' : TzSpec Tryz.prog ids (ids.f 126) := tz_ok is_tz
theorem bword' : WordSpec Tryz.prog (ids.f 129) := bword_ok is_bword
theorem bhas' : HasSpec Tryz.prog (ids.f 130) := bhas_ok (ι := ids) is_bhas bword'
theorem bwith' : BWithSpec Tryz.prog (ids.f 131) := bwith_ok (ι := ids) is_bwith bhas'
theorem bor' : BOrSpec Tryz.prog (ids.f 132) := bor_ok (ι := ids) is_bor bword'
theorem bempty' : BEmptySpec Tryz.prog (ids.f 133) := bempty_ok is_bempty
theorem bwithin' : BWithinSpec Tryz.prog (ids.f 141) := bwithin_ok (ι := ids) is_bwithin bword'
theorem bof' : BOfSpec Tryz.prog (ids.f 143) := bof_ok (ι := ids) is_bof (btrim_ok is_btrim)
theorem bbelow' : BBelowSpec Tryz.prog (ids.f 306) := bbelow_ok is_bbelow
theorem onew' : ONewSpec Tryz.prog ids (ids.f 201) := onew_ok (ι := ids) is_onew sortP' (clipP_ok is_clipP) (compactP_ok is_compactP) (osort_ok (ι := ids) is_osort (iidx_ok is_iidx)) (relate_ok (ι := ids) (g := 0) is_orelate (ball_ok (ι := ids) is_ball) (by kernel_rfl) is_ball1 tz' bor' bwith')
theorem sleq' : IEqSpec Tryz.prog (ids.f 165) := sleq_ok is_sleq
theorem nvalid' : ValidSpec Tryz.prog (ids.f 75) := nvalid_ok (ι := ids) is_nvalid (nkw_ok is_nkw) (scont_ok (ι := ids) is_scont (sidx_ok is_sidx)) (nletter_ok is_nletter) (ninner_ok is_ninner (nletter_ok is_nletter))
theorem lroles' : RolesSpec Tryz.prog (ids.f 283) := lroles_ok (ι := ids) is_lroles (rmemb_ok is_rmemb) bof'
theorem fpairs' : PairsSpec Tryz.prog (ids.f 284) := fpairs_ok is_fpairs
theorem rmakf' : RMakSpec Tryz.prog (ids.f 292) := rmakf_ok (ι := ids) is_rmakf (rpair_ok is_rpair) (rdig_ok is_rdig)
theorem rusers' : RUsersSpec Tryz.prog (ids.f 295) := rusers_ok is_rusers
theorem clnP' : ClnSpec pE Tryz.prog (ids.f 204) := clnPG_ok pE_len pE_one is_clnP
theorem lflow' : LFlowSpec Tryz.prog (ids.f 299) := lflow_ok (ι := ids) is_lflow clnP' lroles'
theorem lmakf' : LMakfSpec Tryz.prog (ids.f 300) := lmakf_ok (ι := ids) is_lmakf rmakf' rusers' lroles' lflow'
theorem idxF' : IdxFSpec encS Tryz.prog (ids.f 301) := idxF_ok encS_len is_idxF
theorem idxG' : IdxFSpec pE Tryz.prog (ids.f 303) := idxF_ok pE_len is_idxG
theorem conF' : ConFSpec encS Tryz.prog (ids.f 302) := conF_ok (ι := ids) is_conF idxF'
theorem conG' : ConFSpec pE Tryz.prog (ids.f 304) := conG_ok (ι := ids) is_conG idxG'
theorem chk1' : Chk1Spec Tryz.prog (ids.f 305) := chk1_ok is_chk1
theorem fchk' : FChkSpec Tryz.prog ids (ids.f 307) := fchk_ok (ι := ids) is_fchk ⟨nvalidA_ok is_nvalid nvalid', conF', chk1', bhas', bempty', bwithin', bbelow', fpairs', onew'⟩
theorem fgood' : FGoodSpec Tryz.prog ids (ids.f 312) := fgood_ok (ι := ids) is_fgood fchk'
theorem frdy' : FRdySpec Tryz.prog ids (ids.f 314) := frdy_ok (ι := ids) is_frdy ⟨fgood', rdy1_ok (ι := ids) is_rdy1 bhas', conG', bhas'⟩
theorem ford' : FOrdSpec Tryz.prog ids (ids.f 315) := ford_ok (ι := ids) is_ford fgood' frdy' bwith'
theorem fhld' : FHldSpec Tryz.prog ids (ids.f 320) := fhld_ok (ι := ids) is_fhld ⟨fgood', smin_ok is_smin, smax_ok is_smax, ball_ok (ι := ids) is_ball, by kernel_rfl, is_ball1, tz'⟩
theorem fawk' : FAwkSpec Tryz.prog ids (ids.f 323) := fawk_ok (ι := ids) is_fawk ⟨bof', fhld', ford', frdy', fchk', sleq'⟩
theorem libmclone : LibIs Tryz.prog (ids.f 79) Extern.MapsClone.clone := ⟨_, Tryz.func69, by kernel_rfl, by kernel_rfl, by kernel_rfl, by kernel_rfl⟩
theorem mnz' : MnzIs Tryz.prog ids := ⟨#[3], 22, ⟨_, Tryz.func78, by kernel_rfl, by kernel_rfl, by kernel_rfl, by kernel_rfl⟩, Tryz.underlying22⟩
theorem sclone' : SCloneSpec Tryz.prog (ids.f 78) := sclone_ok is_sclone
theorem nadd' : AddSpec Tryz.prog (ids.f 84) := nadd_ok (ι := ids) is_nadd nvalid' sclone' (mclone_ok (ι := ids) is_mclone libmclone)
theorem nnew' : NNewSpec Tryz.prog (ids.f 83) := nnew_ok is_nnew
theorem nof' : NOfSpec Tryz.prog (ids.f 101) := nof_ok (ι := ids) is_nof nnew' nadd'
theorem nlen' : NLenSpec Tryz.prog (ids.f 85) := nlen_ok is_nlen
theorem nname' : NNameSpec Tryz.prog (ids.f 88) := nname_ok (ι := ids) is_nname nlen'
theorem small' : ItoaSpec Tryz.prog (ids.f 219) := small_ok is_small
theorem itoai' : ItoaSpec Tryz.prog (ids.f 216) := itoai_ok (ι := ids) is_itoai is_fmtint small'
theorem itoa' : ItoaSpec Tryz.prog (ids.f 217) := itoa_ok (ι := ids) is_itoa itoai'
theorem bws' : BwsSpec Tryz.prog ids (ids.f 213) := bws_ok (ι := ids) is_bws bcopy'
theorem bGrow' : BGrowSpec Tryz.prog ids (ids.f 427) := bGrow_ok (ι := ids) is_bGrow bcopy' (bgrw_ok (ι := ids) is_bgrw mnz')
theorem sjoin' : JoinSpec Tryz.prog (ids.f 447) := sjoin_ok (ι := ids) is_sjoin ⟨bGrow', bws', bstr'⟩
theorem prn1' : LineSpec Tryz.prog ids (ids.f 448) := prn1_ok (ι := ids) is_prn1 sjoin' bws'
theorem fprn' : FPrnSpec Tryz.prog ids (ids.f 450) := fprn_ok (ι := ids) is_fprn ⟨fgood', prn1', by kernel_rfl, itoa', nname', ⟨ball_ok (ι := ids) is_ball, by kernel_rfl, is_ball1, tz'⟩, bstr'⟩
theorem rprn' : RPrnSpec Tryz.prog (ids.f 451) := rprn_ok (ι := ids) is_rprn (rdig_ok is_rdig) (rmemb_ok is_rmemb)
abbrev laid2 : List (String × DataW Unit) := [("math/bits.deBruijn32tab", Rows.laid_math_bits_deBruijn32tab), ("math/bits.deBruijn64tab", Rows.laid_math_bits_deBruijn64tab), ("internal/strconv.uint64pow10", Rows.laid_internal_strconv_uint64pow10)]
theorem own : ownKnob Tryz.prog.godebug = none := by kernel_rfl
theorem gTab : Tryz.prog.globalNamed "math/bits.deBruijn64tab" = some 0 := by kernel_rfl
theorem tTab : (Tryz.prog.globals[0]?).map (·.type) = some 137 /\ Tryz.prog.underlying 137 = some (.array 64 5) /\ Tryz.prog.underlying 5 = some (.int .u8) /\ Tryz.prog.cellsOf 5 = 1 /\ Tryz.prog.cellsOf 137 = 64 := ⟨by kernel_rfl, by kernel_rfl, by kernel_rfl, by kernel_rfl, by kernel_rfl⟩
theorem dTab : (Rows.laid_math_bits_deBruijn64tab : DataW Unit) = .agg ((tabL.map fun n : Nat => (n : Int)).map fun x => .lit (.int .u8 x)) := rfl
theorem of_laid {W : World} (h : laidMetH Tryz.prog laid2 W) : TabOk ids W.heap := by
 rw [MakeChecks.laidMetH_plain _ _ _ (by kernel_rfl)] at h
 obtain ⟨ps, ⟨g9, t9, cs9, f9, p9, q9, hg9, ht9, hv9, hd9, ⟨g0, t0, cs0, f0, p0, q0, hg0, ht0, hv0, hd0, hr, rfl⟩, rfl⟩, _, hz⟩ := h
 obtain rfl := Option.some.inj (gTab.symm.trans hg0)
 obtain ⟨a0, b0, c0, d0, i0⟩ := tTab
 obtain rfl := Option.some.inj (a0.symm.trans ht0)
 have hz' : ∀ b off, MemPlace.cell b off ∈ _ -> ∃ c t, W.heap[b]? = some (.cells c t (0, 0)) := fun b off h => (hz b off h).1
 exact bl_of_var hg0 hv0 hd0 dTab b0 c0 d0 i0 rfl (by omega) (fun x hx => by simp only [List.mem_append]; exact .inr (.inl (.inl hx))) hz'
theorem door_met (os : Os) (args : Array Value) : laidMetH Tryz.prog laid2 ((World.doorLaid Tryz.prog 4000 os).forCall (fun _ _ => 0) ⟨#[], args, []⟩).memory :=
 laidMetH_of_parts3 (fuel := 8) (laidMet_of_run' 8 (by kernel_rfl) (by kernel_rfl)) (by kernel_rfl) (by kernel_rfl)
theorem laidOut : laidOutB Tryz.prog = true := by kernel_rfl
theorem uBool : Tryz.prog.underlying 4 = some .bool := by kernel_rfl
theorem cByte : Tryz.prog.cellsOf 5 = 1 := by kernel_rfl
theorem uByte : Tryz.prog.underlying 5 = some (.int .u8) := by kernel_rfl
theorem cRaw : Tryz.prog.cellsOf 25 = 7 := by kernel_rfl
theorem uBs : Tryz.prog.underlying 22 = some (.slice 5) := by kernel_rfl
theorem cBs : Tryz.prog.cellsOf 22 = 1 := by kernel_rfl
theorem uArr : Tryz.prog.underlying 111 = some (.array 2 5) := by kernel_rfl
theorem cArr : Tryz.prog.cellsOf 111 = 2 := by kernel_rfl
theorem cPs : Tryz.prog.cellsOf 23 = 1 := by kernel_rfl
end Go.Proofs.YtgbbplbmbapejaaGreatDoor

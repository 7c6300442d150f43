/- The functions of this seat that the laws about orders use, what they compute, and what the laid table is. No conditions. -/
import Derived.Test.YtamkbeibmhkciaaDoorRows
import Derived.Test.YtamkbeibmhkciaaDoorTie
import Derived.Test.YtamkbeibmhkciaaDoorCards
import Derived.Test.YtamkbeibmhkciaaDoorMgT4
import Derived.Test.YtamkbeibmhkciaaDoorMgT0
import Derived.SevenTiedAt
import Derived.Lib.Builder
import Derived.Lib.UnsafeStr
import Derived.Laws.Externs
import Derived.Shelf.RegionOpenPlain
import Derived.Lib.Walk
namespace Go.Proofs.YtamkbeibmhkciaaDoor
open Go.ChangeShapes Go.WideShapes Go.ChangeAt Go.WideElems Go.RowKit Go.Mg
set_option maxRecDepth 100000
def ids : Ids := ⟨fun n => ([0, 0, 0, 0, 0, 0, 0, 0, 0, 0, 0, 0, 0, 0, 0, 0, 0, 0, 0, 0, 0, 0, 0, 0, 0, 0, 0, 0, 0, 0, 0, 0, 0, 0, 0, 0, 0, 0, 0, 0, 0, 0, 0, 0, 0, 0, 0, 0, 0, 0, 0, 0, 0, 0, 0, 0, 0, 0, 0, 0, 0, 0, 0, 0, 0, 0, 0, 0, 0, 0, 0, 0, 0, 0, 0, 0, 0, 0, 0, 0, 0, 0, 0, 0, 0, 0, 0, 0, 0, 0, 0, 0, 0, 0, 0, 0, 0, 0, 0, 0, 0, 0, 0, 0, 0, 0, 0, 0, 0, 0, 0, 0, 0, 0, 0, 0, 0, 0, 0, 0, 0, 0, 0, 0, 89, 0, 87, 101, 0, 88, 72, 85, 84, 48, 0, 74, 86, 63, 0, 41, 0, 0, 0, 0, 0, 0, 0, 0, 0, 0, 0, 0, 0, 0, 0, 0, 0, 83, 0, 51, 0, 0, 0, 0, 0, 15, 0, 0, 0, 0, 0, 0, 0, 0, 0, 0, 0, 0, 0, 0, 0, 0, 0, 0, 0, 0, 0, 0, 0, 0, 0, 0, 58, 59, 0, 60, 0, 61, 56, 0, 57, 21, 53, 36, 69, 33, 40, 42, 35, 16, 0, 90, 76, 78, 77, 0, 91, 79, 103, 109, 110, 111, 112, 0, 80, 49, 70, 75, 71, 23, 45, 34, 24, 67, 0, 0, 65, 66, 68, 31, 32, 62, 27, 28, 29, 18, 0, 54, 0, 73, 39, 25, 26, 52, 37, 44, 43, 46, 47, 17, 64, 30, 19, 0, 22, 55, 20, 50, 14, 38, 13, 3, 4, 10, 9, 6, 8, 5, 7, 0, 11, 12] : List Nat).getD n 0, fun n => ([0, 0, 0, 0, 0, 0, 0, 0, 0, 0, 0, 0, 0, 0, 0, 0, 0, 0, 0, 5, 0, 0, 0, 0, 0, 0, 3, 0, 114, 0, 0, 0, 149, 0, 0, 0, 0, 0, 0, 0, 0, 0, 0, 0, 0, 0, 0, 0, 0, 81, 0, 0, 0, 0, 0, 0, 0, 0, 0, 0, 0, 0, 0, 0, 0, 100, 0, 9, 0, 0, 0, 0, 0, 0, 0, 0, 0, 0, 0, 0, 0, 0, 0, 0, 0, 0, 0, 0, 0, 0, 0, 0, 0, 0, 0, 0, 0, 0, 0, 0, 0, 0, 0, 0, 0, 0, 0, 0, 0, 0, 0, 0, 0, 0, 0, 0, 0, 0, 0, 0, 0, 0, 0, 0, 0, 0, 0, 0, 64, 0, 0, 0, 0, 0, 0, 0, 0, 0, 33, 0, 0, 0, 0, 0, 0, 0, 0, 0, 0, 0, 0, 4, 0, 0, 0, 0, 0, 0, 0, 0, 0, 0, 0, 0, 0, 0, 0, 0, 0, 0, 0, 0, 0, 0, 0, 0, 0, 0, 0, 0, 0, 0, 0, 0, 0, 0, 0, 0, 0, 0, 0, 0, 0, 0, 47, 0, 26, 0, 0, 78, 0, 0, 0, 0, 0, 0, 0, 0, 0, 0, 0, 0, 0, 0, 0, 102, 0, 0, 0, 0, 0, 0, 0, 138, 0, 0, 0, 0, 0, 0, 0, 0, 0, 0, 56, 27, 0, 0, 0, 0, 0, 0, 0, 0, 0, 0, 29, 0, 97, 0, 0, 0, 0, 0, 0, 0, 0, 0, 0, 0, 0, 0, 0, 24, 0, 0, 0, 0, 0, 0, 0, 0, 0, 0, 0, 0, 0, 0, 0, 69, 0, 0] : List Nat).getD n 0, fun n => ([0, 0, 0, 0, 0, 0, 0, 0, 0, 0, 0, 0, 0, 0, 0, 0, 0, 0, 0, 0, 0, 0, 0, 0, 0, 0, 0, 0, 0, 0, 0, 0, 0, 0, 0, 0, 0, 0, 0, 0, 0, 0, 0, 0, 0, 0, 0, 0, 0, 0, 0, 0, 0, 0, 0, 0, 0, 0, 0, 0, 0, 0, 0, 0, 0, 0, 0, 0, 0, 0, 0, 0, 0, 0, 0, 0, 0, 0, 0, 0, 0, 0, 0, 0, 0, 0, 0, 0, 0, 0, 0, 0, 0, 0, 0, 0, 0, 0, 0, 0, 0, 0, 0, 0, 0, 0, 0, 0, 0, 0, 0, 0, 0, 0, 0, 0, 0, 0, 0, 0, 0, 0, 0, 0, 0, 0, 0, 0, 0, 0, 0, 0, 0, 0, 0, 0, 0, 0, 0, 0, 0, 0, 0, 0, 0, 0, 0, 0, 0, 0, 0, 0, 0, 0, 0, 0, 0, 0, 0, 0, 0, 0, 0, 0, 0, 0, 0, 0, 0, 0, 0, 0, 0, 0, 0, 0, 0, 0, 0, 0, 0, 0, 0, 0, 0, 0, 0, 0, 0, 0, 0, 0, 0, 0, 0, 0, 0, 0, 0, 0, 0, 0, 0, 0, 0, 0, 0, 0, 0, 0, 0, 0, 0, 0, 0, 0, 0, 0, 0, 0, 0, 0, 0, 0, 0, 0, 0, 0, 0, 0, 0, 0, 0, 0, 0, 0, 0, 0, 0, 0, 0, 0, 0, 0, 0, 0, 0, 0, 0, 0, 0, 0, 0, 0, 0, 0, 0, 0, 0, 0, 0, 0, 0, 0, 0, 0, 0, 0, 0, 0, 0, 0, 0, 0, 0, 0, 0, 0, 0, 0, 0, 0] : List Nat).getD n 0⟩
theorem mix : Tryd.prog.follows .mixedOrders = true := by kernel_rfl
def sortRen : Go.Shelf.Ren := ⟨fun | 6 => 56 | 14 => 81 | 15 => 82 | 20 => 92 | 21 => 93 | 22 => 94 | 23 => 95 | 24 => 96 | 25 => 97 | 26 => 98 | 27 => 99 | 28 => 100 | 29 => 101 | 46 => 104 | 47 => 105 | 48 => 106 | 49 => 107 | 50 => 108 | 57 => 113 | n => n, fun | 0 => 0 | 3 => 3 | 4 => 4 | 5 => 5 | 9 => 9 | 22 => 27 | 24 => 47 | 25 => 84 | 39 => 111 | 45 => 119 | 46 => 120 | 50 => 124 | 53 => 127 | 55 => 114 | 66 => 132 | 70 => 136 | 76 => 142 | 77 => 143 | n => n, fun n => n⟩
theorem sortLay : Go.Proofs.SlLaysF0.n6 Tryd.prog sortRen where
  mixed := by kernel_rfl
  f6 := ⟨"slices.SortFunc[[][2]int,[2]int]", by decide, Tryd.func56.trans (congrArg some (by kernel_rfl))⟩
  f14 := ⟨"slices.pdqsortCmpFunc[[2]int]", by decide, Tryd.func81.trans (congrArg some (by kernel_rfl))⟩
  f15 := Tryd.func82.trans (congrArg some (by kernel_rfl))
  f20 := ⟨"slices.insertionSortCmpFunc[[2]int]", by decide, Tryd.func92.trans (congrArg some (by kernel_rfl))⟩
  f21 := ⟨"slices.heapSortCmpFunc[[2]int]", by decide, Tryd.func93.trans (congrArg some (by kernel_rfl))⟩
  f22 := ⟨"slices.breakPatternsCmpFunc[[2]int]", by decide, Tryd.func94.trans (congrArg some (by kernel_rfl))⟩
  f23 := ⟨"slices.choosePivotCmpFunc[[2]int]", by decide, Tryd.func95.trans (congrArg some (by kernel_rfl))⟩
  f24 := ⟨"slices.reverseRangeCmpFunc[[2]int]", by decide, Tryd.func96.trans (congrArg some (by kernel_rfl))⟩
  f25 := ⟨"slices.partialInsertionSortCmpFunc[[2]int]", by decide, Tryd.func97.trans (congrArg some (by kernel_rfl))⟩
  f26 := ⟨"slices.partitionEqualCmpFunc[[2]int]", by decide, Tryd.func98.trans (congrArg some (by kernel_rfl))⟩
  f27 := ⟨"slices.partitionCmpFunc[[2]int]", by decide, Tryd.func99.trans (congrArg some (by kernel_rfl))⟩
  f28 := Tryd.func100.trans (congrArg some (by kernel_rfl))
  f29 := Tryd.func101.trans (congrArg some (by kernel_rfl))
  f46 := ⟨"slices.siftDownCmpFunc[[2]int]", by decide, Tryd.func104.trans (congrArg some (by kernel_rfl))⟩
  f47 := Tryd.func105.trans (congrArg some (by kernel_rfl))
  f48 := Tryd.func106.trans (congrArg some (by kernel_rfl))
  f49 := ⟨"slices.medianAdjacentCmpFunc[[2]int]", by decide, Tryd.func107.trans (congrArg some (by kernel_rfl))⟩
  f50 := ⟨"slices.medianCmpFunc[[2]int]", by decide, Tryd.func108.trans (congrArg some (by kernel_rfl))⟩
  f57 := ⟨"slices.order2CmpFunc[[2]int]", by decide, Tryd.func113.trans (congrArg some (by kernel_rfl))⟩
  t0 := Tryd.underlying0
  a0 := Tryd.isAgg0
  z0 := Tryd.sizeOf0
  v0 := Tryd.zeroValue0
  t3 := Tryd.underlying3
  a3 := Tryd.isAgg3
  z3 := Tryd.sizeOf3
  v3 := Tryd.zeroValue3
  t4 := Tryd.underlying4
  a4 := Tryd.isAgg4
  z4 := Tryd.sizeOf4
  v4 := Tryd.zeroValue4
  t5 := Tryd.underlying5
  a5 := Tryd.isAgg5
  z5 := Tryd.sizeOf5
  v5 := Tryd.zeroValue5
  t9 := Tryd.underlying9
  a9 := Tryd.isAgg9
  z9 := Tryd.sizeOf9
  v9 := Tryd.zeroValue9
  t22 := Tryd.underlying27
  a22 := Tryd.isAgg27
  z22 := Tryd.sizeOf27
  v22 := Tryd.zeroValue27
  t25 := Tryd.underlying84
  a25 := Tryd.isAgg84
  z25 := Tryd.sizeOf84
  v25 := Tryd.zeroValue84
  t39 := Tryd.underlying111
  a39 := Tryd.isAgg111
  z39 := Tryd.sizeOf111
  v39 := Tryd.zeroValue111
  t45 := Tryd.underlying119
  a45 := Tryd.isAgg119
  z45 := Tryd.sizeOf119
  v45 := Tryd.zeroValue119
  t46 := Tryd.underlying120
  a46 := Tryd.isAgg120
  z46 := Tryd.sizeOf120
  v46 := Tryd.zeroValue120
  t50 := Tryd.underlying124
  a50 := Tryd.isAgg124
  z50 := Tryd.sizeOf124
  v50 := Tryd.zeroValue124
  t53 := Tryd.underlying127
  a53 := Tryd.isAgg127
  z53 := Tryd.sizeOf127
  v53 := Tryd.zeroValue127
  t55 := Tryd.underlying114
  a55 := Tryd.isAgg114
  z55 := Tryd.sizeOf114
  v55 := Tryd.zeroValue114
  t66 := Tryd.underlying132
  a66 := Tryd.isAgg132
  z66 := Tryd.sizeOf132
  v66 := Tryd.zeroValue132
  t70 := Tryd.underlying136
  a70 := Tryd.isAgg136
  z70 := Tryd.sizeOf136
  v70 := Tryd.zeroValue136
  t76 := Tryd.underlying142
  a76 := Tryd.isAgg142
  z76 := Tryd.sizeOf142
  v76 := Tryd.zeroValue142
  t77 := Tryd.underlying143
  a77 := Tryd.isAgg143
  z77 := Tryd.sizeOf143
  v77 := Tryd.zeroValue143
theorem cmpOk : CmpOk Tryd.prog 57 := by
  intro x y W
  obtain ⟨x1, x2⟩ := x
  obtain ⟨y1, y2⟩ := y
  show Calls Tryd.prog 57 #[.agg #[.int .i64 (x1.val : Int), .int .i64 (x2.val : Int)], .agg #[.int .i64 (y1.val : Int), .int .i64 (y2.val : Int)]] W _
  unfold cf2
  have w1 : IntKind.i64.wrap ((x1.val : Int) - y1.val) = (x1.val : Int) - y1.val := IntWalk.i64_in _ (by omega)
  have w2 : IntKind.i64.wrap ((x2.val : Int) - y2.val) = (x2.val : Int) - y2.val := IntWalk.i64_in _ (by omega)
  by_cases h : x1 = y1
  · subst h
    simp only [if_true]
    go_enter Tryd.func57, Tryd.ntmps57
    go_wp2
    go_ret
    exact ⟨rfl, 0, _, by rw [Go.Sort.alloc_eq_grow, Go.Sort.alloc_eq_grow, Go.Sort.grow_grow]; rfl⟩
  · have h' : (x1.val : Int) ≠ (y1.val : Int) := fun e => h (Fin.ext (by omega))
    simp only [if_neg h]
    go_enter Tryd.func57, Tryd.ntmps57
    go_wp2
    go_ret
    exact ⟨rfl, 0, _, by rw [Go.Sort.alloc_eq_grow, Go.Sort.alloc_eq_grow, Go.Sort.grow_grow]; rfl⟩
theorem sortP' : PSortSpec Tryd.prog 56 57 := sort_ok sortLay Tryd.isAgg47 Tryd.sizeOf47 57 (Go.Proofs.enters_of Tryd.func57 (by kernel_rfl) rfl) cmpOk
theorem bSize : (Tryd.prog.info? 102).map (·.size) = some 2 := by kernel_rfl
theorem bLies : liesAt Tryd.prog Tryd.prog.depth 102 (2 / Tryd.prog.cellsOf 102) 0 102 1 = true := by kernel_rfl
set_option maxHeartbeats 1000000 in
theorem copyUsed (b : Nat) (w : World) (h0 : w.cell? ⟨b, 0, none⟩ = some (.pointer (some ⟨b, 0, none⟩))) :
    Calls Tryd.prog 90 #[.pointer (some ⟨b, 0, none⟩)] w fun e w' => e = .returned (.tuple #[]) ∧ w' = w := by
  obtain ⟨j, hj, _⟩ := Option.map_eq_some_iff.1 bSize
  go_enter Tryd.func90, Tryd.ntmps90
  go_wp2
  rw [Lib.run_neq_ptr_same w _ Tryd.underlying99 hj]
  go_wp2
  go_end0
  exact ⟨rfl, rfl⟩
set_option maxHeartbeats 1000000 in
theorem copyFresh (b : Nat) (w : World) (h0 : w.cell? ⟨b, 0, none⟩ = some (.pointer none)) (hsh : w.shape? b = some (102, 2)) (hfz : w.frozen? ⟨b, 0, none⟩ = false) :
    Calls Tryd.prog 90 #[.pointer (some ⟨b, 0, none⟩)] w fun e w' => e = .returned (.tuple #[]) ∧ w' = w.setCell ⟨b, 0, none⟩ (.pointer (some ⟨b, 0, none⟩)) := by
  obtain ⟨j, hj, hjs⟩ := Option.map_eq_some_iff.1 bSize
  go_enter Tryd.func90, Tryd.ntmps90
  go_wp2
  rw [Lib.run_to_unsafe w ⟨b, 0, none⟩ Tryd.underlying99 Tryd.underlying129 hj (by rw [hjs]; decide) hsh (Nat.zero_lt_succ 1)]
  simp only [Result.andThen]
  rw [Oper.upon_value]
  go_wp2
  rw [run_callFunc_extern Tryd.func102 (by kernel_rfl) (by kernel_rfl) (by kernel_rfl) (e := Extern.AbiNoEscape.same) (by kernel_rfl)]
  rw [Lib.run_noEscape]
  simp only [Result.andThen]
  rw [Oper.upon_value]
  go_wp2
  rw [Lib.run_from_unsafe w ⟨b, 0, none⟩ Tryd.underlying129 Tryd.underlying99 hj hsh bLies]
  simp only [Result.andThen]
  rw [Oper.upon_value]
  go_wp2
  go_end0
  exact ⟨rfl, rfl⟩
set_option maxHeartbeats 1000000 in
theorem strRun (b g n cap : Nat) (p : Value) (l : List UInt8) (w : World) (hl : l.length = n) (hl0 : n ≠ 0) (hn : n < 1000000) (hbk : w.heap[b]? = some (.cells #[p, .slice (some ⟨g, 0, none⟩) n cap] 102 (0, 0))) (cur : Array Value) (z : Nat × Nat) (hg : w.heap[g]? = some (.cells cur 5 z)) (hnc : n ≤ cap) (hcs : n ≤ cur.size)
    (hcell : ∀ j x, l[j]? = some x → w.cell? ⟨g, 0 + j, none⟩ = some (.int .u8 x.toNat)) :
    Calls Tryd.prog 80 #[.pointer (some ⟨b, 0, none⟩)] w fun e w' => e = .returned (.string ⟨l.toArray⟩) ∧ w' = w.drew.freeze ⟨g, 0, none⟩ n := by
  have c1 : w.drew.cell? ⟨b, 1, none⟩ = some (.slice (some ⟨g, 0, none⟩) n cap) := by
    have : w.drew.heap[b]? = some (.cells #[p, .slice (some ⟨g, 0, none⟩) n cap] 102 (0, 0)) := hbk
    rw [Lib.cell_of_heap this]; rfl
  have hSD : (Builtin.unsafeSliceData_ #[100] 117 #[.slice (some ⟨g, 0, none⟩) n cap]).run Tryd.prog w.drew = .ok (.pointer (some ⟨g, 0, none⟩)) w.drew :=
    Lib.run_unsafeSliceData_row _ _ _ _ _ _ (by omega)
  have hUS : (Builtin.unsafeString_ #[117, 3] 9 #[.pointer (some ⟨g, 0, none⟩), .int .i64 n]).run Tryd.prog w.drew = .ok (.string ⟨l.toArray⟩) (w.drew.freeze ⟨g, 0, none⟩ n) := by
    subst hl
    refine Lib.run_unsafeString_row w.drew 117 3 9 5 Tryd.underlying117 (by kernel_rfl) g cur.size (by have hg' : w.drew.heap[g]? = some (.cells cur 5 z) := hg; simp [World.shape?, hg']) l (by intro e; simp [e] at hl0) (by omega) (by omega) ?_
    intro j x hx
    have := hcell j x hx
    rw [add_mk]
    exact this
  have mixed : Tryd.prog.follows .mixedOrders = true := by kernel_rfl
  go_enter Tryd.func80, Tryd.ntmps80
  go_wp2
  go_region_o
  all_goals (go_wp2; go_ret; exact ⟨rfl, rfl⟩)
theorem bcopy' : BCopySpec Tryd.prog ids 90 := bcopy_of (T := 102) rfl copyUsed copyFresh
theorem bstr' : BStrSpec Tryd.prog ids 80 := bstr_of (T := 102) (U := 5) rfl rfl strRun
theorem is_tz : FnIs Tryd.prog 87 (c_tz ids) r_tz 1 := FnIs.mk' Tryd.func87 mix (by kernel_rfl) (by kernel_rfl) (by kernel_rfl)
theorem is_bword : FnIs Tryd.prog 88 (c_bword ids) r_bword 2 := FnIs.mk' Tryd.func88 mix (by kernel_rfl) (by kernel_rfl) (by kernel_rfl)
theorem is_bhas : FnIs Tryd.prog 72 (c_bhas ids) r_bhas 2 := FnIs.mk' Tryd.func72 mix (by kernel_rfl) (by kernel_rfl) (by kernel_rfl)
theorem is_bwith : FnIs Tryd.prog 85 (c_bwith ids) r_bwith 2 := FnIs.mk' Tryd.func85 mix (by kernel_rfl) (by kernel_rfl) (by kernel_rfl)
theorem is_bor : FnIs Tryd.prog 84 (c_bor ids) r_bor 2 := FnIs.mk' Tryd.func84 mix (by kernel_rfl) (by kernel_rfl) (by kernel_rfl)
theorem is_blen : FnIs Tryd.prog 74 (c_blen ids) r_blen 1 := FnIs.mk' Tryd.func74 mix (by kernel_rfl) (by kernel_rfl) (by kernel_rfl)
theorem is_ones : FnIs Tryd.prog 89 (c_ones ids) r_ones 1 := FnIs.mk' Tryd.func89 mix (by kernel_rfl) (by kernel_rfl) (by kernel_rfl)
theorem is_ball : FnIs Tryd.prog 63 (c_ball ids) r_ball 1 := FnIs.mk' Tryd.func63 mix (by kernel_rfl) (by kernel_rfl) (by kernel_rfl)
theorem is_ball1 : FnIsY Tryd.prog 86 (c_ball1 ids) r_ball1 2 := FnIsY.mk' Tryd.func86 (by kernel_rfl) (by kernel_rfl) (by kernel_rfl)
theorem is_bmeets : FnIs Tryd.prog 67 (c_bmeets ids) r_bmeets 2 := FnIs.mk' Tryd.func67 mix (by kernel_rfl) (by kernel_rfl) (by kernel_rfl)
theorem is_blist : FnIsR Tryd.prog 41 (c_blist ids) r_blist 1 16 := FnIsR.mk' Tryd.func41 mix (by kernel_rfl) (by kernel_rfl) (by kernel_rfl)
theorem is_btext : FnIsR Tryd.prog 49 (c_btext ids) r_btext 1 17 := FnIsR.mk' Tryd.func49 mix (by kernel_rfl) (by kernel_rfl) (by kernel_rfl)
theorem is_itoa : FnIs Tryd.prog 79 (c_itoa ids) r_itoa 1 := FnIs.mk' Tryd.func79 mix (by kernel_rfl) (by kernel_rfl) (by kernel_rfl)
theorem is_itoai : FnIs Tryd.prog 91 (c_itoai ids) r_itoai 1 := FnIs.mk' Tryd.func91 mix (by kernel_rfl) (by kernel_rfl) (by kernel_rfl)
theorem is_fmtint : FnIs Tryd.prog 103 (c_fmtint ids) r_fmtint 2 := FnIs.mk' Tryd.func103 mix (by kernel_rfl) (by kernel_rfl) (by kernel_rfl)
theorem is_small : FnIs Tryd.prog 109 (c_small ids) r_small 1 := FnIs.mk' Tryd.func109 mix (by kernel_rfl) (by kernel_rfl) (by kernel_rfl)
theorem is_bws : FnIs Tryd.prog 78 (c_bws ids) r_bws 2 := FnIs.mk' Tryd.func78 mix (by kernel_rfl) (by kernel_rfl) (by kernel_rfl)
theorem is_bwb : FnIs Tryd.prog 76 (c_bwb ids) r_bwb 2 := FnIs.mk' Tryd.func76 mix (by kernel_rfl) (by kernel_rfl) (by kernel_rfl)
theorem is_bldlen : FnIs Tryd.prog 77 (c_bldlen ids) r_bldlen 1 := FnIs.mk' Tryd.func77 mix (by kernel_rfl) (by kernel_rfl) (by kernel_rfl)
theorem is_clipP : FnIs Tryd.prog 58 (c_clipP ids) r_clipP 1 := FnIs.mk' Tryd.func58 mix (by kernel_rfl) (by kernel_rfl) (by kernel_rfl)
theorem is_compactP : FnIs Tryd.prog 59 (c_compactP ids) r_compactP 1 := FnIs.mk' Tryd.func59 mix (by kernel_rfl) (by kernel_rfl) (by kernel_rfl)
theorem is_iidx : FnIs Tryd.prog 83 (c_iidx ids) r_iidx 2 := FnIs.mk' Tryd.func83 mix (by kernel_rfl) (by kernel_rfl) (by kernel_rfl)
theorem is_osort : FnIs Tryd.prog 60 (c_osort ids) r_osort 1 := FnIs.mk' Tryd.func60 mix (by kernel_rfl) (by kernel_rfl) (by kernel_rfl)
theorem is_orelate : FnIsR Tryd.prog 61 (c_orelate ids) r_orelate 1 121 := FnIsR.mk' Tryd.func61 mix (by kernel_rfl) (by kernel_rfl) (by kernel_rfl)
theorem is_onew : FnIs Tryd.prog 21 (c_onew ids) r_onew 2 := FnIs.mk' Tryd.func21 mix (by kernel_rfl) (by kernel_rfl) (by kernel_rfl)
theorem is_oin : FnIs Tryd.prog 53 (c_oin ids) r_oin 2 := FnIs.mk' Tryd.func53 mix (by kernel_rfl) (by kernel_rfl) (by kernel_rfl)
theorem is_olen : FnIs Tryd.prog 36 (c_olen ids) r_olen 1 := FnIs.mk' Tryd.func36 mix (by kernel_rfl) (by kernel_rfl) (by kernel_rfl)
theorem is_clnP : FnIs Tryd.prog 69 (c_clnP ids) r_clnP 1 := FnIs.mk' Tryd.func69 mix (by kernel_rfl) (by kernel_rfl) (by kernel_rfl)
theorem is_opairs : FnIs Tryd.prog 33 (c_opairs ids) r_opairs 1 := FnIs.mk' Tryd.func33 mix (by kernel_rfl) (by kernel_rfl) (by kernel_rfl)
theorem is_oabove : FnIs Tryd.prog 40 (c_oabove ids) r_oabove 2 := FnIs.mk' Tryd.func40 mix (by kernel_rfl) (by kernel_rfl) (by kernel_rfl)
theorem is_obelow : FnIs Tryd.prog 42 (c_obelow ids) r_obelow 2 := FnIs.mk' Tryd.func42 mix (by kernel_rfl) (by kernel_rfl) (by kernel_rfl)
theorem is_oless : FnIs Tryd.prog 35 (c_oless ids) r_oless 3 := FnIs.mk' Tryd.func35 mix (by kernel_rfl) (by kernel_rfl) (by kernel_rfl)
theorem is_slcln : FnIs Tryd.prog 51 (c_slcln ids) r_slcln 1 := FnIs.mk' Tryd.func51 mix (by kernel_rfl) (by kernel_rfl) (by kernel_rfl)
theorem is_osorted : FnIs Tryd.prog 16 (c_osorted ids) r_osorted 1 := FnIs.mk' Tryd.func16 mix (by kernel_rfl) (by kernel_rfl) (by kernel_rfl)
theorem is_idxP : FnIs Tryd.prog 70 (c_idxP ids) r_idxP 2 := FnIs.mk' Tryd.func70 mix (by kernel_rfl) (by kernel_rfl) (by kernel_rfl)
theorem is_conP : FnIs Tryd.prog 75 (c_conP ids) r_conP 2 := FnIs.mk' Tryd.func75 mix (by kernel_rfl) (by kernel_rfl) (by kernel_rfl)
theorem is_owith : FnIs Tryd.prog 45 (c_owith ids) r_owith 3 := FnIs.mk' Tryd.func45 mix (by kernel_rfl) (by kernel_rfl) (by kernel_rfl)
theorem is_delP : FnIs Tryd.prog 71 (c_delP ids) r_delP 3 := FnIs.mk' Tryd.func71 mix (by kernel_rfl) (by kernel_rfl) (by kernel_rfl)
theorem is_owithout : FnIs Tryd.prog 34 (c_owithout ids) r_owithout 3 := FnIs.mk' Tryd.func34 mix (by kernel_rfl) (by kernel_rfl) (by kernel_rfl)
theorem is_eqP : FnIs Tryd.prog 23 (c_eqP ids) r_eqP 2 := FnIs.mk' Tryd.func23 mix (by kernel_rfl) (by kernel_rfl) (by kernel_rfl)
theorem is_ogiven : FnIsR Tryd.prog 65 (c_ogiven ids) r_ogiven 2 49 := FnIsR.mk' Tryd.func65 mix (by kernel_rfl) (by kernel_rfl) (by kernel_rfl)
theorem is_ored1 : FnIs Tryd.prog 66 (c_ored1 ids) r_ored1 3 := FnIs.mk' Tryd.func66 mix (by kernel_rfl) (by kernel_rfl) (by kernel_rfl)
theorem is_oclo1 : FnIs Tryd.prog 68 (c_oclo1 ids) r_oclo1 2 := FnIs.mk' Tryd.func68 mix (by kernel_rfl) (by kernel_rfl) (by kernel_rfl)
theorem is_ored : FnIs Tryd.prog 31 (c_ored ids) r_ored 1 := FnIs.mk' Tryd.func31 mix (by kernel_rfl) (by kernel_rfl) (by kernel_rfl)
theorem is_oclo : FnIs Tryd.prog 32 (c_oclo ids) r_oclo 1 := FnIs.mk' Tryd.func32 mix (by kernel_rfl) (by kernel_rfl) (by kernel_rfl)
theorem is_oheight : FnIsR Tryd.prog 29 (c_oheight ids) r_oheight 1 59 := FnIsR.mk' Tryd.func29 mix (by kernel_rfl) (by kernel_rfl) (by kernel_rfl)
theorem is_opath : FnIs Tryd.prog 18 (c_opath ids) r_opath 3 := FnIs.mk' Tryd.func18 mix (by kernel_rfl) (by kernel_rfl) (by kernel_rfl)
theorem is_sleq : FnIs Tryd.prog 15 (c_sleq ids) r_sleq 2 := FnIs.mk' Tryd.func15 mix (by kernel_rfl) (by kernel_rfl) (by kernel_rfl)
theorem is_rgiv : FnIs Tryd.prog 54 (c_rgiv ids) r_rgiv 3 := FnIs.mk' Tryd.func54 mix (by kernel_rfl) (by kernel_rfl) (by kernel_rfl)
theorem is_rabv : FnIs Tryd.prog 73 (c_rabv ids) r_rabv 1 := FnIs.mk' Tryd.func73 mix (by kernel_rfl) (by kernel_rfl) (by kernel_rfl)
theorem is_ris : FnIs Tryd.prog 39 (c_ris ids) r_ris 3 := FnIs.mk' Tryd.func39 mix (by kernel_rfl) (by kernel_rfl) (by kernel_rfl)
theorem is_rnew : FnIs Tryd.prog 37 (c_rnew ids) r_rnew 2 := FnIs.mk' Tryd.func37 mix (by kernel_rfl) (by kernel_rfl) (by kernel_rfl)
theorem is_rabov : FnIs Tryd.prog 25 (c_rabov ids) r_rabov 2 := FnIs.mk' Tryd.func25 mix (by kernel_rfl) (by kernel_rfl) (by kernel_rfl)
theorem is_rbelo : FnIs Tryd.prog 26 (c_rbelo ids) r_rbelo 2 := FnIs.mk' Tryd.func26 mix (by kernel_rfl) (by kernel_rfl) (by kernel_rfl)
theorem is_rclo : FnIs Tryd.prog 44 (c_rclo ids) r_rclo 1 := FnIs.mk' Tryd.func44 mix (by kernel_rfl) (by kernel_rfl) (by kernel_rfl)
theorem is_rred : FnIs Tryd.prog 43 (c_rred ids) r_rred 1 := FnIs.mk' Tryd.func43 mix (by kernel_rfl) (by kernel_rfl) (by kernel_rfl)
theorem is_rin : FnIs Tryd.prog 52 (c_rin ids) r_rin 2 := FnIs.mk' Tryd.func52 mix (by kernel_rfl) (by kernel_rfl) (by kernel_rfl)
theorem is_rsort : FnIs Tryd.prog 17 (c_rsort ids) r_rsort 1 := FnIs.mk' Tryd.func17 mix (by kernel_rfl) (by kernel_rfl) (by kernel_rfl)
theorem is_rpath : FnIs Tryd.prog 19 (c_rpath ids) r_rpath 3 := FnIs.mk' Tryd.func19 mix (by kernel_rfl) (by kernel_rfl) (by kernel_rfl)
theorem is_rsize : FnIs Tryd.prog 22 (c_rsize ids) r_rsize 1 := FnIs.mk' Tryd.func22 mix (by kernel_rfl) (by kernel_rfl) (by kernel_rfl)
theorem is_rkey : FnIs Tryd.prog 55 (c_rkey ids) r_rkey 2 := FnIs.mk' Tryd.func55 mix (by kernel_rfl) (by kernel_rfl) (by kernel_rfl)
theorem is_rfit : FnIs Tryd.prog 20 (c_rfit ids) r_rfit 1 := FnIs.mk' Tryd.func20 mix (by kernel_rfl) (by kernel_rfl) (by kernel_rfl)
theorem is_rmake : FnIs Tryd.prog 50 (c_rmake ids) r_rmake 1 := FnIs.mk' Tryd.func50 mix (by kernel_rfl) (by kernel_rfl) (by kernel_rfl)
theorem is_lmake : FnIs Tryd.prog 14 (c_lmake ids) r_lmake 1 := FnIs.mk' Tryd.func14 mix (by kernel_rfl) (by kernel_rfl) (by kernel_rfl)
theorem is_lis : FnIs Tryd.prog 38 (c_lis ids) r_lis 2 := FnIs.mk' Tryd.func38 mix (by kernel_rfl) (by kernel_rfl) (by kernel_rfl)
theorem is_lawk : FnIs Tryd.prog 13 (c_lawk ids) r_lawk 0 := FnIs.mk' Tryd.func13 mix (by kernel_rfl) (by kernel_rfl) (by kernel_rfl)
theorem tz' : TzSpec Tryd.prog ids 87 := tz_ok is_tz
theorem bword' : WordSpec Tryd.prog 88 := bword_ok is_bword
theorem bhas' : HasSpec Tryd.prog 72 := bhas_ok (ι := ids) is_bhas bword'
theorem bwith' : BWithSpec Tryd.prog 85 := bwith_ok (ι := ids) is_bwith bhas'
theorem bor' : BOrSpec Tryd.prog 84 := bor_ok (ι := ids) is_bor bword'
theorem ones' : OnesSpec Tryd.prog 89 := ones_ok is_ones
theorem blen' : BLenSpec Tryd.prog 74 := blen_ok (ι := ids) is_blen ones'
theorem blist' : BListSpec Tryd.prog ids 41 := blist_ok (ι := ids) (g := 0) is_blist blen' (ball_ok (ι := ids) is_ball) (by kernel_rfl) (ball1_ok (ι := ids) is_ball1 tz')
theorem bmeets' : BMeetsSpec Tryd.prog 67 := bmeets_ok is_bmeets
theorem small' : ItoaSpec Tryd.prog 109 := small_ok is_small
theorem itoai' : ItoaSpec Tryd.prog 91 := itoai_ok (ι := ids) is_itoai is_fmtint small'
theorem itoa' : ItoaSpec Tryd.prog 79 := itoa_ok (ι := ids) is_itoa itoai'
theorem bws' : BwsSpec Tryd.prog ids 78 := bws_ok (ι := ids) is_bws bcopy'
theorem bwb' : BwbSpec Tryd.prog ids 76 := bwb_ok (ι := ids) is_bwb bcopy'
theorem bldlen' : BldLenSpec Tryd.prog ids 77 := bldlen_ok (ι := ids) is_bldlen
theorem btext' : BTextSpec Tryd.prog ids 49 := btext_ok (ι := ids) is_btext (ball_ok (ι := ids) is_ball) (by kernel_rfl) is_ball1 tz' bwb' bws' bldlen' bstr' itoa'
theorem onew' : ONewSpec Tryd.prog ids 21 := onew_ok (ι := ids) is_onew sortP' (clipP_ok is_clipP) (compactP_ok is_compactP) (osort_ok (ι := ids) is_osort (iidx_ok is_iidx)) (relate_ok (ι := ids) (g := 0) is_orelate (ball_ok (ι := ids) is_ball) (by kernel_rfl) is_ball1 tz' bor' bwith')
theorem oin' : OInSpec Tryd.prog 53 := oin_ok is_oin
theorem olen' : OLenSpec Tryd.prog 36 := olen_ok is_olen
theorem opairs' : OPairsSpec Tryd.prog 33 := opairs_ok (ι := ids) is_opairs (clnP_ok is_clnP)
theorem oabove' : OAbvSpec Tryd.prog 40 := oabove_ok (ι := ids) is_oabove oin'
theorem obelow' : OBlwSpec Tryd.prog 42 := obelow_ok (ι := ids) is_obelow oin'
theorem oless' : OLessSpec Tryd.prog 35 := oless_ok (ι := ids) is_oless oabove' bhas'
theorem osorted' : OSrtSpec Tryd.prog 16 := osorted_ok (ι := ids) is_osorted (slcln_ok is_slcln)
theorem idxP' : PIdxSpec Tryd.prog 70 := idxP_ok is_idxP
theorem owith' : OWithSpec Tryd.prog ids 45 := owith_ok (ι := ids) is_owith oin' (conP_ok (ι := ids) is_conP idxP') opairs' onew'
theorem owithout' : OWoutSpec Tryd.prog ids 34 := owithout_ok (ι := ids) is_owithout idxP' (delP_ok is_delP) opairs' onew'
theorem eqP' : PEqSpec Tryd.prog 23 := eqP_ok is_eqP
theorem ogiven' : OGivSpec Tryd.prog ids 65 := ogiven_ok (ι := ids) is_ogiven (ball_ok (ι := ids) is_ball) (by kernel_rfl) is_ball1 tz' onew'
theorem ored' : ORedSpec Tryd.prog ids 31 redO := ored_ok (ι := ids) is_ored ogiven' (ogiven_nil is_ogiven) (by kernel_rfl) is_ored1 bmeets'
theorem oclo' : ORedSpec Tryd.prog ids 32 cloO := oclo_ok (ι := ids) is_oclo ogiven' (ogiven_nil is_ogiven) (by kernel_rfl) is_oclo1
theorem oheight' : OHgtSpec Tryd.prog ids 29 := oheight_ok (ι := ids) is_oheight (ball_ok (ι := ids) is_ball) (by kernel_rfl) is_ball1 tz'
theorem opath' : OPathSpec Tryd.prog 18 := opath_ok (ι := ids) is_opath oin'
theorem sleq' : IEqSpec Tryd.prog 15 := sleq_ok is_sleq
theorem rgiv' : RGivSpec Tryd.prog 54 := rgiv_ok is_rgiv
theorem rabv' : RAbvSpec Tryd.prog 73 := rabv_ok (ι := ids) is_rabv rgiv'
theorem ris' : RIsSpec Tryd.prog 39 := ris_ok (ι := ids) is_ris rabv'
theorem rnew' : RNewSpec Tryd.prog 37 := rnew_ok (ι := ids) is_rnew rabv' rgiv'
theorem rabov' : RListSpec Tryd.prog 25 rabL := rabov_ok (ι := ids) is_rabov ris'
theorem rbelo' : RListSpec Tryd.prog 26 rbeL := rbelo_ok (ι := ids) is_rbelo ris'
theorem rclo' : RMapSpec Tryd.prog 44 fun _ R => tcB R := rclo_ok (ι := ids) is_rclo rabv'
theorem rred' : RMapSpec Tryd.prog 43 redR := rred_ok (ι := ids) is_rred rabv'
theorem rin' : RInSpec Tryd.prog 52 := rin_ok is_rin
theorem rsort' : RSrtSpec Tryd.prog 17 := rsort_ok (ι := ids) is_rsort rin' rabov'
theorem rpath' : RPathSpec Tryd.prog 19 := rpath_ok (ι := ids) is_rpath rgiv'
theorem rsize' : RSizeSpec Tryd.prog 22 := rsize_ok is_rsize
theorem rkey' : RKeySpec Tryd.prog 55 := rkey_ok is_rkey
theorem rfit' : RFitSpec Tryd.prog 20 := rfit_ok (ι := ids) is_rfit rsize' rkey'
theorem rmake' : RMakeSpec Tryd.prog 50 := rmake_ok (ι := ids) is_rmake rsize' rfit' rnew'
theorem lmake' : LMakeSpec Tryd.prog ids 14 := lmake_ok (ι := ids) is_lmake rsize' rfit' onew' rmake'
theorem lis' : IsSpec Tryd.prog ids 38 := lis_ok (ι := ids) is_lis ⟨olen', opairs', oabove', obelow', blist', rabov', rbelo', sleq', eqP'⟩
theorem lawk' : AwkSpec Tryd.prog ids 13 := lawk_ok (ι := ids) is_lawk ⟨onew', owith', ored', opath', oheight', oabove', btext', opairs', osorted', sleq', eqP'⟩
theorem laws' : LawC Tryd.prog ids := ⟨lawk', lmake', lis', osorted', opath', ored', oclo', oless', oabove', obelow', blist', rsort', rpath', rred', rclo', ris', rabov', rbelo', sleq'⟩
abbrev laid2 : List (String × DataW Unit) := [("math/bits.deBruijn32tab", Rows.laid_math_bits_deBruijn32tab), ("math/bits.deBruijn64tab", Rows.laid_math_bits_deBruijn64tab), ("internal/strconv.uint64pow10", Rows.laid_internal_strconv_uint64pow10)]
theorem own : ownKnob Tryd.prog.godebug = none := by kernel_rfl
theorem gTab : Tryd.prog.globalNamed "math/bits.deBruijn64tab" = some 0 := by kernel_rfl
theorem tTab : (Tryd.prog.globals[0]?).map (·.type) = some 128 ∧ Tryd.prog.underlying 128 = some (.array 64 5) ∧ Tryd.prog.underlying 5 = some (.int .u8) ∧ Tryd.prog.cellsOf 5 = 1 ∧ Tryd.prog.cellsOf 128 = 64 := ⟨by kernel_rfl, by kernel_rfl, by kernel_rfl, by kernel_rfl, by kernel_rfl⟩
theorem dTab : (Rows.laid_math_bits_deBruijn64tab : DataW Unit) = .agg ((tabL.map fun n : Nat => (n : Int)).map fun x => .lit (.int .u8 x)) := rfl
theorem of_laid {W : World} (h : laidMetH Tryd.prog laid2 W) : TabOk ids W.heap := by
  rw [MakeChecks.laidMetH_plain _ _ _ (by kernel_rfl)] at h
  obtain ⟨ps, ⟨g9, t9, cs9, f9, p9, q9, hg9, ht9, hv9, hd9, ⟨g0, t0, cs0, f0, p0, q0, hg0, ht0, hv0, hd0, hr, rfl⟩, rfl⟩, _, hz⟩ := h
  obtain rfl := Option.some.inj (gTab.symm.trans hg0)
  obtain ⟨a0, b0, c0, d0, i0⟩ := tTab
  obtain rfl := Option.some.inj (a0.symm.trans ht0)
  have hz' : ∀ b off, MemPlace.cell b off ∈ _ → ∃ c t, W.heap[b]? = some (.cells c t (0, 0)) := fun b off h => (hz b off h).1
  exact bl_of_var hg0 hv0 hd0 dTab b0 c0 d0 i0 rfl (by omega) (fun x hx => by simp only [List.mem_append]; exact .inr (.inl (.inl hx))) hz'
theorem door_met (os : Os) (args : Array Value) : laidMetH Tryd.prog laid2 ((World.doorLaid Tryd.prog 4000 os).forCall (fun _ _ => 0) ⟨#[], args, []⟩).memory :=
  laidMetH_of_parts3 (fuel := 8) (laidMet_of_run' 8 (by kernel_rfl) (by kernel_rfl)) (by kernel_rfl) (by kernel_rfl)
theorem laidOut : laidOutB Tryd.prog = true := by kernel_rfl
theorem uBool : Tryd.prog.underlying 4 = some .bool := by kernel_rfl
theorem cByte : Tryd.prog.cellsOf 5 = 1 := by kernel_rfl
theorem uByte : Tryd.prog.underlying 5 = some (.int .u8) := by kernel_rfl
theorem cRaw : Tryd.prog.cellsOf 24 = 4 := by kernel_rfl
theorem cSl : Tryd.prog.cellsOf 22 = 1 := by kernel_rfl
theorem uArr : Tryd.prog.underlying 81 = some (.array 2 5) := by kernel_rfl
theorem cArr : Tryd.prog.cellsOf 81 = 2 := by kernel_rfl
end Go.Proofs.YtamkbeibmhkciaaDoor

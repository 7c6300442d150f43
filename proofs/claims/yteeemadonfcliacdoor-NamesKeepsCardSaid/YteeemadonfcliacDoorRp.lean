/- The functions of the seat of NamesKeeps, and its law answers true at every input: tables stay as they are, results are independent, and the bytes are a list of strings. No conditions. -/
import Derived.Test.YteeemadonfcliacDoorRows
import Derived.Test.YteeemadonfcliacDoorTie
import Derived.Test.YteeemadonfcliacDoorCards
import Derived.Test.YteeemadonfcliacDoorMgNK
import Derived.Test.YteeemadonfcliacDoorMgOpen3
import Derived.SevenTiedAt
import Derived.LaidMore
import Derived.Lay
import Derived.Lib.Builder
import Derived.Lib.UnsafeStr
import Derived.Laws.Externs
import Derived.Shelf.RegionOpenPlain
import Derived.Lib.Walk
namespace Go.Proofs.YteeemadonfcliacDoor
open Go.ChangeShapes Go.WideShapes Go.ChangeAt Go.WideElems Go.RowKit Go.Mg
set_option maxRecDepth 100000
def ids : Ids := ⟨fun n => ([0, 0, 0, 0, 0, 0, 0, 0, 0, 0, 0, 0, 0, 0, 0, 0, 0, 0, 0, 0, 0, 0, 0, 0, 0, 0, 0, 0, 0, 0, 0, 0, 0, 0, 0, 0, 0, 0, 0, 0, 0, 0, 0, 0, 0, 0, 0, 0, 0, 0, 0, 30, 54, 43, 0, 20, 42, 21, 44, 22, 23, 0, 0, 0, 0, 0, 0, 0, 38, 0, 53, 37, 39, 40, 0, 17, 0, 16, 18, 41, 0, 19, 0, 5, 7, 78, 8, 0, 0, 0, 9, 4, 0, 15, 0, 0, 0, 0, 6, 0, 0, 0, 0, 0, 0, 0, 0, 0, 11, 31, 32, 33, 34, 12, 35, 13, 36, 14, 52, 0, 0, 0, 0, 0, 0, 0, 0, 0, 0, 0, 0, 0, 0, 0, 0, 0, 0, 0, 0, 0, 0, 0, 0, 0, 0, 0, 0, 0, 0, 0, 0, 0, 0, 0, 0, 0, 0, 0, 0, 0, 0, 0, 0, 0, 0, 0, 0, 0, 0, 0, 0, 0, 0, 0, 0, 0, 0, 0, 0, 0, 0, 0, 0, 0, 0, 0, 0, 0, 0, 0, 0, 0, 0, 0, 0, 0, 0, 0, 0, 0, 0, 0, 0, 0, 0, 0, 0, 0, 0, 0, 0, 45, 26, 25, 0, 0, 0, 0, 0, 0, 0, 0, 0, 0, 27, 0, 0, 0, 0, 0, 0, 0, 0, 0, 0, 0, 0, 0, 0, 0, 0, 0, 0, 0, 0, 0, 0, 0, 0, 0, 0, 0, 0, 0, 0, 0, 0, 0, 0, 0, 0, 0, 0, 0, 0, 0, 0, 0, 0, 0, 0, 0, 0, 0, 0, 0, 0, 0, 0, 0, 0, 0, 0, 0, 0, 0, 0, 0, 0, 0, 0, 0, 0, 0, 0, 0, 0, 0, 0, 0, 0, 0, 0, 0, 0, 0, 0, 0, 0, 0, 0, 0, 0, 0, 0, 0, 0, 0, 0, 0, 0, 0, 0, 0, 0, 0, 0, 0, 0, 0, 0, 0, 0, 0, 0, 0, 0, 0, 0, 0, 0, 0, 0, 0, 0, 0, 0, 0, 0, 0, 0, 0, 0, 0, 0, 0, 0, 0, 0, 0, 0, 0, 0, 0, 0, 0, 0, 0, 0, 0, 0, 0, 0, 0, 0, 0, 0, 0, 0, 0, 0, 0, 0, 0, 0, 0, 0, 0, 0, 0, 0, 0, 0, 0, 0, 0, 0, 0, 0, 0, 0, 0, 0, 0, 0, 0, 0, 0, 0, 0, 0, 0, 0, 0, 0, 0, 0, 0, 0, 0, 0, 0, 0, 0, 0, 56, 46, 24, 28, 29, 10, 3] : List Nat).getD n 0, fun n => ([0, 0, 0, 0, 0, 0, 0, 0, 0, 0, 0, 0, 0, 0, 0, 0, 0, 0, 0, 5, 0, 0, 0, 0, 0, 0, 3, 0, 51, 0, 0, 0, 0, 0, 0, 0, 0, 0, 0, 0, 0, 0, 0, 0, 0, 0, 0, 0, 0, 0, 0, 0, 0, 0, 76, 0, 0, 0, 0, 0, 0, 0, 0, 0, 0, 22, 0, 9, 0, 0, 0, 0, 0, 0, 73, 0, 0, 0, 0, 0, 41, 0, 43, 0, 0, 0, 0, 0, 0, 0, 0, 0, 0, 0, 0, 0, 0, 0, 0, 0, 0, 0, 0, 0, 0, 0, 0, 67, 0, 0, 0, 0, 0, 0, 0, 0, 0, 0, 0, 0, 0, 0, 0, 0, 0, 0, 0, 0, 0, 0, 0, 0, 0, 0, 0, 0, 0, 0, 0, 0, 0, 0, 0, 0, 0, 0, 0, 0, 0, 0, 0, 4, 0, 0, 0, 0, 0, 0, 0, 0, 0, 0, 0, 0, 0, 0, 0, 0, 0, 0, 0, 0, 0, 0, 0, 0, 0, 0, 0, 0, 0, 0, 0, 0, 0, 0, 0, 0, 0, 0, 0, 0, 0, 0, 0, 0, 0, 0, 0, 0, 0, 0, 0, 0, 0, 0, 0, 0, 0, 0, 0, 0, 0, 0, 0, 55, 0, 0, 0, 0, 0, 0, 0, 0, 0, 0, 0, 0, 0, 0, 0, 0, 0, 0, 0, 0, 0, 0, 0, 0, 0, 0, 0, 0, 0, 0, 0, 0, 0, 0, 0, 0, 0, 0, 0, 0, 0, 0, 0, 0, 0, 0, 0, 0, 0, 0, 0, 0, 0, 0, 0, 0, 0, 0, 0, 0, 0, 0, 0, 0, 0, 0, 0, 0, 0, 0, 0, 0, 0, 0, 0, 0, 0, 0, 0, 0, 0, 0, 0, 0, 0, 0, 0, 0, 0, 0, 0, 0, 0, 0, 0, 0, 0, 0, 0, 0, 0, 0, 0, 0, 0, 0, 0, 0, 0, 0, 0, 0, 0, 0, 0, 0, 0, 0, 0, 0, 0, 0, 0, 0, 0, 0, 0, 0, 0, 0, 0, 0, 0, 0, 0, 0, 0, 0, 0, 0, 0, 0, 0, 0, 0, 0, 0, 0, 0, 0, 0, 0, 0, 0, 0, 0, 0, 0, 0, 0, 0, 0, 0, 0, 0, 0, 0, 0, 0, 0, 0, 0, 0, 0, 0, 0, 0, 0, 0, 0, 0, 0, 0, 0, 0, 0, 0, 28, 0, 0, 0, 0, 0, 0, 0, 0, 0, 0, 0, 0, 0, 0, 0, 0, 0, 0, 0, 0, 0, 0, 0, 0, 0, 0, 0, 0] : List Nat).getD n 0, fun n => ([0, 0, 0, 0, 0, 0, 0, 0, 0, 0, 0, 0, 0, 0, 0, 0, 0, 0, 0, 0, 0, 0, 0, 0, 0, 0, 0, 0, 0, 0, 0, 0, 0, 0, 0, 0, 0, 0, 0, 0, 0, 0, 0, 0, 0, 0, 0, 0, 0, 0, 0, 0, 0, 0, 0, 0, 0, 0, 0, 0, 0, 0, 0, 0, 0, 0, 0, 0, 0, 0, 0, 0, 0, 0, 0, 0, 0, 0, 0, 0, 0, 0, 0, 0, 0, 0, 0, 0, 0, 0, 0, 0, 0, 0, 0, 0, 0, 0, 0, 0, 0, 0, 0, 0, 0, 0, 0, 0, 0, 0, 0, 0, 0, 0, 0, 0, 0, 0, 0, 0, 0, 0, 0, 0, 0, 0, 0, 0, 0, 0, 0, 0, 0, 0, 0, 0, 0, 0, 0, 0, 0, 0, 0, 0, 0, 0, 0, 0, 0, 0, 0, 0, 0, 0, 0, 0, 0, 0, 0, 0, 0, 0, 0, 0, 0, 0, 0, 0, 0, 0, 0, 0, 0, 0, 0, 0, 0, 0, 0, 0, 0, 0, 0, 0, 0, 0, 0, 0, 0, 0, 0, 0, 0, 0, 0, 0, 0, 0, 0, 0, 0, 0, 0, 0, 0, 0, 0, 0, 0, 0, 0, 0, 0, 0, 0, 0, 0, 0, 0, 0, 0, 0, 0, 0, 0, 0, 0, 0, 0, 0, 0, 0, 0, 0, 0, 0, 0, 0, 0, 0, 0, 0, 0, 0, 0, 0, 0, 0, 0, 0, 0, 0, 0, 0, 0, 0, 0, 0, 0, 0, 0, 0, 0, 0, 0, 0, 0, 0, 0, 0, 0, 0, 0, 0, 0, 0, 0, 0, 0, 0, 0, 0, 0, 0, 0, 0, 0, 0, 0, 0, 0, 0, 0, 0, 0, 0, 0, 0, 0, 0, 0, 0, 0, 0, 0, 0, 0, 0, 0, 0, 0, 0, 0, 0, 0, 0, 0, 0, 0, 0, 0, 0, 0, 0, 0, 0, 0, 0, 0, 0, 0, 0, 0, 0, 0, 0, 0, 0, 0, 0, 0, 0, 0, 0, 0, 0, 0, 0, 0, 0, 0, 0, 0, 0, 0, 0, 0, 0, 0, 0, 0, 0, 0, 0, 0, 0, 0, 0, 0, 0, 0, 0, 0, 0, 0, 0, 0, 0, 0, 0, 0, 0, 0, 0, 0, 0, 0, 0, 0, 0, 0, 0, 0, 0, 0, 0, 0, 0, 0, 0, 0, 0, 0, 0, 0, 0, 0, 0, 0, 0, 0, 0, 0, 0, 0, 0, 0, 0, 0, 0, 0, 0, 0, 0, 0, 0, 0, 0, 0, 0, 0, 0] : List Nat).getD n 0⟩
theorem mix : Tryd.prog.follows .mixedOrders = true := by kernel_rfl
theorem bSize : (Tryd.prog.info? 55).map (·.size) = some 2 := by kernel_rfl
theorem bLies : liesAt Tryd.prog Tryd.prog.depth 55 (2 / Tryd.prog.cellsOf 55) 0 55 1 = true := by kernel_rfl
set_option maxHeartbeats 1000000 in
theorem copyUsed (b : Nat) (w : World) (h0 : w.cell? ⟨b, 0, none⟩ = some (.pointer (some ⟨b, 0, none⟩))) :
  Calls Tryd.prog 45 #[.pointer (some ⟨b, 0, none⟩)] w fun e w' => e = .returned (.tuple #[]) /\ w' = w := by
 obtain ⟨j, hj, _⟩ := Option.map_eq_some_iff.1 bSize
 go_enter Tryd.func45, Tryd.ntmps45
 go_wp2
 rw [Lib.run_neq_ptr_same w _ Tryd.underlying53 hj]
 go_wp2
 go_end0
 exact ⟨rfl, rfl⟩
set_option maxHeartbeats 1000000 in
theorem copyFresh (b : Nat) (w : World) (h0 : w.cell? ⟨b, 0, none⟩ = some (.pointer none)) (hsh : w.shape? b = some (55, 2)) (hfz : w.frozen? ⟨b, 0, none⟩ = false) :
  Calls Tryd.prog 45 #[.pointer (some ⟨b, 0, none⟩)] w fun e w' => e = .returned (.tuple #[]) /\ w' = w.setCell ⟨b, 0, none⟩ (.pointer (some ⟨b, 0, none⟩)) := by
 obtain ⟨j, hj, hjs⟩ := Option.map_eq_some_iff.1 bSize
 go_enter Tryd.func45, Tryd.ntmps45
 go_wp2
 rw [Lib.run_to_unsafe w ⟨b, 0, none⟩ Tryd.underlying53 Tryd.underlying89 hj (by rw [hjs]; decide) hsh (Nat.zero_lt_succ 1)]
 simp only [Result.andThen]
 rw [Oper.upon_value]
 go_wp2
 rw [run_callFunc_extern Tryd.func55 (by kernel_rfl) (by kernel_rfl) (by kernel_rfl) (e := Extern.AbiNoEscape.same) (by kernel_rfl)]
 rw [Lib.run_noEscape]
 simp only [Result.andThen]
 rw [Oper.upon_value]
 go_wp2
 rw [Lib.run_from_unsafe w ⟨b, 0, none⟩ Tryd.underlying89 Tryd.underlying53 hj hsh bLies]
 simp only [Result.andThen]
 rw [Oper.upon_value]
 go_wp2
 go_end0
 exact ⟨rfl, rfl⟩
set_option maxHeartbeats 1000000 in
theorem strRun (b g n cap : Nat) (p : Value) (l : List UInt8) (w : World) (hl : l.length = n) (hl0 : n ≠ 0) (hn : n < 1000000) (hbk : w.heap[b]? = some (.cells #[p, .slice (some ⟨g, 0, none⟩) n cap] 55 (0, 0))) (cur : Array Value) (z : Nat × Nat) (hg : w.heap[g]? = some (.cells cur 5 z)) (hnc : n <= cap) (hcs : n <= cur.size)
  (hcell : ∀ j x, l[j]? = some x -> w.cell? ⟨g, 0 + j, none⟩ = some (.int .u8 x.toNat)) :
  Calls Tryd.prog 27 #[.pointer (some ⟨b, 0, none⟩)] w fun e w' => e = .returned (.string ⟨l.toArray⟩) /\ w' = w.drew.freeze ⟨g, 0, none⟩ n := by
 have c1 : w.drew.cell? ⟨b, 1, none⟩ = some (.slice (some ⟨g, 0, none⟩) n cap) := by
  have : w.drew.heap[b]? = some (.cells #[p, .slice (some ⟨g, 0, none⟩) n cap] 55 (0, 0)) := hbk
  rw [Lib.cell_of_heap this]; rfl
 have hSD : (Builtin.unsafeSliceData_ #[22] 79 #[.slice (some ⟨g, 0, none⟩) n cap]).run Tryd.prog w.drew = .ok (.pointer (some ⟨g, 0, none⟩)) w.drew :=
  Lib.run_unsafeSliceData_row _ _ _ _ _ _ (by omega)
 have hUS : (Builtin.unsafeString_ #[79, 3] 9 #[.pointer (some ⟨g, 0, none⟩), .int .i64 n]).run Tryd.prog w.drew = .ok (.string ⟨l.toArray⟩) (w.drew.freeze ⟨g, 0, none⟩ n) := by
  subst hl
  refine Lib.run_unsafeString_row w.drew 79 3 9 5 Tryd.underlying79 (by kernel_rfl) g cur.size (by have hg' : w.drew.heap[g]? = some (.cells cur 5 z) := hg; simp [World.shape?, hg']) l (by intro e; simp [e] at hl0) (by omega) (by omega) ?_
  intro j x hx
  have := hcell j x hx
  rw [add_mk]
  exact this
 have mixed : Tryd.prog.follows .mixedOrders = true := by kernel_rfl
 go_enter Tryd.func27, Tryd.ntmps27
 go_wp2
 go_region_o
 all_goals (go_wp2; go_ret; exact ⟨rfl, rfl⟩)
theorem bcopy' : BCopySpec Tryd.prog ids 45 := bcopy_of (T := 55) rfl copyUsed copyFresh
theorem bstr' : BStrSpec Tryd.prog ids 27 := bstr_of (T := 55) (U := 5) rfl rfl strRun
theorem is_nkw : FnIs Tryd.prog 38 (c_nkw ids) r_nkw 0 := FnIs.mk' Tryd.func38 mix (by kernel_rfl) (by kernel_rfl) (by kernel_rfl)
theorem is_sidx : FnIs Tryd.prog 53 (c_sidx ids) r_sidx 2 := FnIs.mk' Tryd.func53 mix (by kernel_rfl) (by kernel_rfl) (by kernel_rfl)
theorem is_scont : FnIs Tryd.prog 37 (c_scont ids) r_scont 2 := FnIs.mk' Tryd.func37 mix (by kernel_rfl) (by kernel_rfl) (by kernel_rfl)
theorem is_nletter : FnIs Tryd.prog 39 (c_nletter ids) r_nletter 1 := FnIs.mk' Tryd.func39 mix (by kernel_rfl) (by kernel_rfl) (by kernel_rfl)
theorem is_ninner : FnIs Tryd.prog 40 (c_ninner ids) r_ninner 2 := FnIs.mk' Tryd.func40 mix (by kernel_rfl) (by kernel_rfl) (by kernel_rfl)
theorem is_nvalid : FnIs Tryd.prog 17 (c_nvalid ids) r_nvalid 1 := FnIs.mk' Tryd.func17 mix (by kernel_rfl) (by kernel_rfl) (by kernel_rfl)
theorem is_rword : FnIs Tryd.prog 16 (c_rword ids) r_rword 1 := FnIs.mk' Tryd.func16 mix (by kernel_rfl) (by kernel_rfl) (by kernel_rfl)
theorem is_sclone : FnIs Tryd.prog 18 (c_sclone ids) r_sclone 1 := FnIs.mk' Tryd.func18 mix (by kernel_rfl) (by kernel_rfl) (by kernel_rfl)
theorem is_mclone : FnIs Tryd.prog 19 (c_mclone ids) r_mclone 1 := FnIs.mk' Tryd.func19 mix (by kernel_rfl) (by kernel_rfl) (by kernel_rfl)
theorem is_nnew : FnIs Tryd.prog 5 (c_nnew ids) r_nnew 0 := FnIs.mk' Tryd.func5 mix (by kernel_rfl) (by kernel_rfl) (by kernel_rfl)
theorem is_nadd : FnIs Tryd.prog 7 (c_nadd ids) r_nadd 3 := FnIs.mk' Tryd.func7 mix (by kernel_rfl) (by kernel_rfl) (by kernel_rfl)
theorem is_clone : FnIs Tryd.prog 30 (c_clone ids) r_clone 1 := FnIs.mk' Tryd.func30 mix (by kernel_rfl) (by kernel_rfl) (by kernel_rfl)
theorem is_reverse : FnIs Tryd.prog 54 (c_reverse ids) r_reverse 1 := FnIs.mk' Tryd.func54 mix (by kernel_rfl) (by kernel_rfl) (by kernel_rfl)
theorem is_groups : FnIs Tryd.prog 43 (c_groups ids) r_groups 1 := FnIs.mk' Tryd.func43 mix (by kernel_rfl) (by kernel_rfl) (by kernel_rfl)
theorem is_wnew : FnIs Tryd.prog 20 (c_wnew ids) r_wnew 0 := FnIs.mk' Tryd.func20 mix (by kernel_rfl) (by kernel_rfl) (by kernel_rfl)
theorem is_wraw : FnIs Tryd.prog 42 (c_wraw ids) r_wraw 2 := FnIs.mk' Tryd.func42 mix (by kernel_rfl) (by kernel_rfl) (by kernel_rfl)
theorem is_wuint : FnIs Tryd.prog 21 (c_wuint ids) r_wuint 2 := FnIs.mk' Tryd.func21 mix (by kernel_rfl) (by kernel_rfl) (by kernel_rfl)
theorem is_wbytes : FnIs Tryd.prog 44 (c_wbytes ids) r_wbytes 2 := FnIs.mk' Tryd.func44 mix (by kernel_rfl) (by kernel_rfl) (by kernel_rfl)
theorem is_wstring : FnIs Tryd.prog 22 (c_wstring ids) r_wstring 2 := FnIs.mk' Tryd.func22 mix (by kernel_rfl) (by kernel_rfl) (by kernel_rfl)
theorem is_wout : FnIs Tryd.prog 23 (c_wout ids) r_wout 1 := FnIs.mk' Tryd.func23 mix (by kernel_rfl) (by kernel_rfl) (by kernel_rfl)
theorem is_nbytes : FnIs Tryd.prog 9 (c_nbytes ids) r_nbytes 1 := FnIs.mk' Tryd.func9 mix (by kernel_rfl) (by kernel_rfl) (by kernel_rfl)
theorem is_nawake : FnIs Tryd.prog 4 (c_nawake ids) r_nawake 0 := FnIs.mk' Tryd.func4 mix (by kernel_rfl) (by kernel_rfl) (by kernel_rfl)
theorem is_nsame : FnIs Tryd.prog 15 (c_nsame ids) r_nsame 2 := FnIs.mk' Tryd.func15 mix (by kernel_rfl) (by kernel_rfl) (by kernel_rfl)
theorem is_nnames : FnIs Tryd.prog 8 (c_nnames ids) r_nnames 1 := FnIs.mk' Tryd.func8 mix (by kernel_rfl) (by kernel_rfl) (by kernel_rfl)
theorem is_nwords : FnIs Tryd.prog 6 (c_nwords ids) r_nwords 1 := FnIs.mk' Tryd.func6 mix (by kernel_rfl) (by kernel_rfl) (by kernel_rfl)
theorem is_rnewr : FnIs Tryd.prog 11 (c_rnewr ids) r_rnewr 1 := FnIs.mk' Tryd.func11 mix (by kernel_rfl) (by kernel_rfl) (by kernel_rfl)
theorem is_rcount : FnIs Tryd.prog 12 (c_rcount ids) r_rcount 2 := FnIs.mk' Tryd.func12 mix (by kernel_rfl) (by kernel_rfl) (by kernel_rfl)
theorem is_rstring : FnIs Tryd.prog 13 (c_rstring ids) r_rstring 2 := FnIs.mk' Tryd.func13 mix (by kernel_rfl) (by kernel_rfl) (by kernel_rfl)
theorem is_rend : FnIs Tryd.prog 14 (c_rend ids) r_rend 1 := FnIs.mk' Tryd.func14 mix (by kernel_rfl) (by kernel_rfl) (by kernel_rfl)
theorem is_rok : FnIs Tryd.prog 31 (c_rok ids) r_rok 1 := FnIs.mk' Tryd.func31 mix (by kernel_rfl) (by kernel_rfl) (by kernel_rfl)
theorem is_rrefuse : FnIs Tryd.prog 32 (c_rrefuse ids) r_rrefuse 3 := FnIs.mk' Tryd.func32 mix (by kernel_rfl) (by kernel_rfl) (by kernel_rfl)
theorem is_rnumb : FnIs Tryd.prog 33 (c_rnumb ids) r_rnumb 1 := FnIs.mk' Tryd.func33 mix (by kernel_rfl) (by kernel_rfl) (by kernel_rfl)
theorem is_rtake : FnIs Tryd.prog 34 (c_rtake ids) r_rtake 2 := FnIs.mk' Tryd.func34 mix (by kernel_rfl) (by kernel_rfl) (by kernel_rfl)
theorem is_rbytes : FnIs Tryd.prog 35 (c_rbytes ids) r_rbytes 2 := FnIs.mk' Tryd.func35 mix (by kernel_rfl) (by kernel_rfl) (by kernel_rfl)
theorem is_rerr : FnIs Tryd.prog 36 (c_rerr ids) r_rerr 1 := FnIs.mk' Tryd.func36 mix (by kernel_rfl) (by kernel_rfl) (by kernel_rfl)
theorem is_rfail : FnIs Tryd.prog 52 (c_rfail ids) r_rfail 2 := FnIs.mk' Tryd.func52 mix (by kernel_rfl) (by kernel_rfl) (by kernel_rfl)
theorem is_bws : FnIs Tryd.prog 25 (c_bws ids) r_bws 2 := FnIs.mk' Tryd.func25 mix (by kernel_rfl) (by kernel_rfl) (by kernel_rfl)
theorem is_bwb : FnIs Tryd.prog 26 (c_bwb ids) r_bwb 2 := FnIs.mk' Tryd.func26 mix (by kernel_rfl) (by kernel_rfl) (by kernel_rfl)
theorem is_bgrw : FnIs Tryd.prog 46 (c_bgrw ids) r_bgrw 2 := FnIs.mk' Tryd.func46 mix (by kernel_rfl) (by kernel_rfl) (by kernel_rfl)
theorem is_bGrow : FnIs Tryd.prog 24 (c_bGrow ids) r_bGrow 2 := FnIs.mk' Tryd.func24 mix (by kernel_rfl) (by kernel_rfl) (by kernel_rfl)
theorem is_upper : FnIs Tryd.prog 10 (c_upper ids) r_upper 1 := FnIs.mk' Tryd.func10 mix (by kernel_rfl) (by kernel_rfl) (by kernel_rfl)
theorem is_lnkeeps : FnIs Tryd.prog 3 (c_lnkeeps ids) r_lnkeeps 2 := FnIs.mk' Tryd.func3 mix (by kernel_rfl) (by kernel_rfl) (by kernel_rfl)
theorem libmclone : LibIs Tryd.prog (ids.f 79) Extern.MapsClone.clone := ⟨_, Tryd.func41, by kernel_rfl, by kernel_rfl, by kernel_rfl, by kernel_rfl⟩
theorem mnz' : MnzIs Tryd.prog ids := ⟨#[3], 22, ⟨_, Tryd.func56, by kernel_rfl, by kernel_rfl, by kernel_rfl, by kernel_rfl⟩, Tryd.underlying22⟩
theorem nvalid' : ValidSpec Tryd.prog (ids.f 75) := nvalid_ok (ι := ids) is_nvalid (nkw_ok is_nkw) (scont_ok (ι := ids) is_scont (sidx_ok is_sidx)) (nletter_ok is_nletter) (ninner_ok is_ninner (nletter_ok is_nletter))
theorem rword' : NWordSpec Tryd.prog (ids.f 77) := rword_ok is_rword
theorem sclone' : SCloneSpec Tryd.prog (ids.f 78) := sclone_ok is_sclone
theorem nadd' : AddSpec Tryd.prog (ids.f 84) := nadd_ok (ι := ids) is_nadd nvalid' sclone' (mclone_ok (ι := ids) is_mclone libmclone)
theorem nnew' : NNewSpec Tryd.prog (ids.f 83) := nnew_ok is_nnew
theorem clone' : CloneSpec Tryd.prog (ids.f 51) := clone_ok is_clone
theorem wraw' : WRawSpec Tryd.prog (ids.f 56) := wraw_ok is_wraw
theorem wuint' : WUintSpec Tryd.prog (ids.f 57) := wuint_ok (ι := ids) is_wuint (groups_ok (ι := ids) is_groups (reverse_ok is_reverse)) wraw'
theorem wbytes' : WBytesSpec Tryd.prog (ids.f 58) := wbytes_ok (ι := ids) is_wbytes wuint' wraw'
theorem wstring' : WStringSpec Tryd.prog (ids.f 59) := wstring_ok (ι := ids) is_wstring wbytes'
theorem nbytes' : NBytesSpec Tryd.prog (ids.f 90) := nbytes_ok (ι := ids) is_nbytes (wnew_ok is_wnew) wuint' wstring' (wout_ok (ι := ids) is_wout clone')
theorem nawake' : NAwakeSpec Tryd.prog (ids.f 91) := nawake_ok (ι := ids) is_nawake nnew' nadd' nbytes'
theorem nnames' : NNamesSpec Tryd.prog (ids.f 86) := nnames_ok (ι := ids) is_nnames sclone'
theorem nsame' : SameSpec Tryd.prog (ids.f 93) := nsame_ok is_nsame
theorem nwords' : WordsSpec Tryd.prog (ids.f 98) := nwords_ok (ι := ids) is_nwords rword'
theorem rnewr' : RNewRSpec Tryd.prog (ids.f 108) := rnewr_ok (ι := ids) is_rnewr clone'
theorem rok' : ROkSpec Tryd.prog (ids.f 109) := rok_ok is_rok
theorem rfail' : RFailSpec Tryd.prog (ids.f 118) := rfail_ok (ι := ids) is_rfail rok'
theorem rrefuse' : RRefSpec Tryd.prog (ids.f 110) := rrefuse_ok (ι := ids) is_rrefuse rfail'
theorem rerr' : RErrSpec Tryd.prog (ids.f 116) := rerr_ok is_rerr
theorem rend' : REndSpec Tryd.prog (ids.f 117) := rend_ok (ι := ids) is_rend rok' rerr'
theorem rnumb' : RNumbSpec Tryd.prog (ids.f 111) := rnumb_ok is_rnumb
theorem rtake' : RTakeSpec Tryd.prog (ids.f 112) := rtake_ok (ι := ids) is_rtake clone'
theorem rcount' : RCountSpec Tryd.prog (ids.f 113) := rcount_ok (ι := ids) is_rcount rok' rrefuse' rnumb' rtake'
theorem rbytes' : RBytSpec Tryd.prog (ids.f 114) := rbytes_ok (ι := ids) is_rbytes rok' rrefuse' rnumb' rtake'
theorem rstring' : RStrSpec Tryd.prog (ids.f 115) := rstring_ok (ι := ids) is_rstring rbytes'
theorem bws' : BwsSpec Tryd.prog ids (ids.f 213) := bws_ok (ι := ids) is_bws bcopy'
theorem bwb' : BwbSpec Tryd.prog ids (ids.f 212) := bwb_ok (ι := ids) is_bwb bcopy'
theorem bGrow' : BGrowSpec Tryd.prog ids (ids.f 427) := bGrow_ok (ι := ids) is_bGrow bcopy' (bgrw_ok (ι := ids) is_bgrw mnz')
theorem upper' : UpperSpec Tryd.prog (ids.f 430) := upper_ok (ι := ids) is_upper ⟨bGrow', bws', bwb', bstr'⟩
theorem own : ownKnob Tryd.prog.godebug = none := by kernel_rfl
theorem laidOut : laidOutB Tryd.prog = true := by kernel_rfl
theorem uBool : Tryd.prog.underlying 4 = some .bool := by kernel_rfl
theorem uByte : Tryd.prog.underlying 5 = some (.int .u8) := by kernel_rfl
theorem cByte : Tryd.prog.cellsOf 5 = 1 := by kernel_rfl
abbrev laid2 : List (String × DataW Unit) := [("unicode/utf8.acceptRanges", Rows.laid_unicode_utf8_acceptRanges), ("unicode.CaseRanges", Rows.laid_unicode_CaseRanges), ("unicode/utf8.first", Rows.laid_unicode_utf8_first)]
theorem of_laid {W : World} (h : laidMetH Tryd.prog laid2 W) : True := trivial
theorem lifted (os : Os) (started : os.Started) (H : Type) (enc : TypeId × Value -> H) :
  ReturnsInHanded {} Tryd.checked os 3 .any (fun w args => (Rows.namesKeepsSpec.pre enc Tryd.prog Tryd.f3 [] false w args /\ laidMetH Tryd.prog laid2 w) /\ sizedMet enc Tryd.prog Tryd.f3 (OpenSpec.ofChange Rows.namesKeepsSpec) false w args)
   (Rows.namesKeepsSpec.post enc Tryd.prog Tryd.f3 false true false false) := by
 refine returnsInHanded_of_change_and (C := Tryd.checked) (X := fun w _ => laidMetH Tryd.prog laid2 w) (fun _ _ _ hh h => h.of_heap hh) own started (by kernel_rfl) Tryd.func3
  (ChangeSpec.witness_shaped (enc := enc) (C := Tryd.checked) (os := os) (X := fun w _ => laidMetH Tryd.prog laid2 w) false (World.laidAll Tryd.prog os laid2) #[.slice none 0 0, .string ByteArray.empty] 8 (World.laidAll_os _ _ _) (World.shaped_of_ZipB (by kernel_rfl) (by kernel_rfl)) (by kernel_rfl) (by kernel_rfl) (by kernel_rfl) (by rw [MakeChecks.laidMetH_plain _ _ _ (by kernel_rfl)]; exact laidMet_laidAll _ (by kernel_rfl) (by kernel_rfl))) ?_
 intro W base args ds gs before hval0 hW _ _ hL _
 have hval : ∀ (j : Nat) t v, Tryd.f3.params[j]? = some t -> args[j]? = some v -> Value.okWide Tryd.prog W .any base t v := hval0
 have hG := of_laid hL
 have hW' := hW
 obtain ⟨p, q, hA0, hV, rfl, hfz, hnd⟩ := hW'
 have hA : DataW.TrodAll enc Tryd.prog W 0 (fun _ => true) true Tryd.f3.params.toList args.toList ds p := hA0
 rw [Tryd.params3] at hA hval
 obtain ⟨v0, v1, d0, d1, p0, p1, rfl, rfl, rfl, h0, h1⟩ := trodAll_two hA
 obtain ⟨rfl, rfl⟩ := trodVars_none hV
 obtain ⟨l0, s0⟩ := bytes_of_slice Tryd.underlying22 uByte cByte (hval 0 22 v0 rfl rfl) h0
 obtain ⟨l1, rfl, m1⟩ := string_of Tryd.underlying9 (hval 1 9 v1 rfl rfl) h1
 exact calls_post hW rfl rfl (by kernel_rfl) uBool laidOut (by kernel_rfl) (lnkeeps_ok (ι := ids) is_lnkeeps ⟨nawake', nnew', nwords', nadd', nnames', nbytes', upper', rnewr', rcount', rstring', rend', nsame'⟩ l0 v0 l1 W.heap s0)
theorem namesKeeps_holds : Rows.NamesKeepsSaid :=
 OpenClaim.holds_of_wide 3 Tryd.f3 rfl rfl rfl rfl rfl rfl rfl ⟨rfl, rfl, rfl, rfl, rfl⟩ rfl rfl rfl rfl rfl (by kernel_rfl) Tryd.func3 (by kernel_rfl)
  (of_decide_eq_true (by kernel_rfl)) (by unfold Func.isWrapper; first | (rw [if_pos (by decide +kernel)]; kernel_rfl) | (rw [if_neg (by decide +kernel)]; exact ⟨rfl, rfl⟩))
  (fun os started H enc _ => lifted os started H enc)
theorem namesKeeps_card : Rows.NamesKeepsCardSaid :=
 Claim7.holds_tied_plain_at .later [] [.data, .pinned, .pinned] true (true, "effeee6401e08e5cdaba08e34e28e91729d3cd4db27c27a74e60e1fdda822517") true
  namesKeeps_holds (fun _ h => by cases h) (by kernel_rfl) (fun _ h => by cases h) namesKeeps_row_tie rfl ⟨rfl, rfl⟩ (by kernel_rfl) rfl
  (fun f fn hf hfn => by
   obtain rfl : f = 3 := Option.some.inj ((show Tryd.prog.funcNamed "arbac/arbaclaw08.NamesKeeps" = some 3 by kernel_rfl).symm.trans hf) |>.symm
   obtain rfl : fn = Tryd.f3 := (Option.some.inj (Tryd.func3.symm.trans hfn)).symm
   exact ⟨by kernel_rfl, fun j t ht => by
    rw [Tryd.params3] at ht
    have hm : t ∈ [22, 9] := by simpa using Array.mem_of_getElem? ht
    have hall : ([22, 9].all fun u => !Tryd.prog.wantsStandIn u) = true := by kernel_rfl
    exact (show Tryd.prog.wantsStandIn t = false by simpa using List.all_eq_true.1 hall t hm)⟩)
  (by kernel_rfl)
end Go.Proofs.YteeemadonfcliacDoor

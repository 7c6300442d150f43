/- The functions of this seat that the laws about matchings use, what they compute, and what the laid table is. No conditions. -/
import Derived.Test.YtihlnbepcimnfaaDoorRows
import Derived.Test.YtihlnbepcimnfaaDoorTie
import Derived.Test.YtihlnbepcimnfaaDoorCards
import Derived.Test.YtihlnbepcimnfaaDoorMgM17
import Derived.Test.YtihlnbepcimnfaaDoorMgOpen
import Derived.SevenTiedAt
namespace Go.Proofs.YtihlnbepcimnfaaDoor
open Go.ChangeShapes Go.WideShapes Go.ChangeAt Go.WideElems Go.RowKit Go.Mg
set_option maxRecDepth 100000
def ids : Ids := ⟨fun n => ([0, 0, 0, 0, 0, 0, 0, 0, 0, 0, 0, 0, 0, 0, 0, 0, 0, 0, 0, 0, 0, 0, 0, 0, 0, 0, 0, 0, 0, 0, 0, 0, 0, 0, 0, 0, 0, 0, 0, 0, 0, 0, 0, 0, 0, 0, 0, 0, 0, 0, 0, 0, 0, 0, 0, 0, 0, 0, 0, 0, 0, 0, 0, 0, 0, 0, 0, 0, 0, 0, 0, 0, 0, 0, 0, 0, 0, 0, 0, 0, 0, 0, 0, 0, 0, 0, 0, 0, 0, 0, 0, 0, 0, 0, 0, 0, 0, 0, 0, 0, 0, 0, 0, 0, 0, 0, 0, 0, 0, 0, 0, 0, 0, 0, 0, 0, 0, 0, 0, 0, 0, 0, 0, 0, 57, 0, 70, 74, 0, 55, 43, 28, 50, 73, 65, 40, 69, 54, 0, 35, 38, 36, 52, 32, 45, 0, 46, 66, 47, 16, 17, 0, 48, 21, 29, 0, 31, 51, 30, 67, 0, 49, 24, 33, 20, 22, 44, 14, 13, 15, 18, 23, 25, 19, 12, 3, 4, 5, 7, 8, 0, 26, 37, 53, 34, 56, 39, 68, 27, 10, 9, 6, 60, 61, 0, 62, 0, 63, 58, 0, 59, 41, 64, 0, 0, 0, 0, 42, 0, 0, 11] : List Nat).getD n 0, fun n => ([0, 0, 0, 0, 0, 0, 0, 0, 0, 0, 0, 0, 0, 0, 0, 0, 0, 0, 0, 5, 0, 0, 0, 0, 0, 0, 3, 0, 31, 0, 0, 0, 0, 0, 0, 0, 0, 0, 0, 0, 0, 0, 0, 0, 0, 0, 0, 0, 0, 72, 0, 0, 0, 0, 0, 0, 0, 0, 0, 0, 0, 0, 0, 0, 0, 22, 0, 9, 0, 0, 0, 0, 0, 0, 0, 0, 0, 0, 0, 0, 0, 0, 0, 0, 0, 0, 0, 0, 0, 0, 0, 0, 0, 0, 0, 0, 0, 0, 0, 0, 0, 0, 0, 0, 0, 0, 0, 0, 0, 0, 0, 0, 0, 0, 0, 0, 0, 0, 0, 0, 0, 0, 0, 0, 0, 0, 0, 0, 52, 0, 0, 0, 0, 0, 0, 0, 0, 0, 32, 0, 0, 0, 0, 0, 0, 86, 0, 0, 0, 0, 0, 4, 0, 0, 0, 84, 0, 0, 0, 0, 83, 0, 0, 0, 0, 0, 0, 0, 0, 0, 0, 0, 0, 0, 0, 0, 0, 0, 0, 0, 90, 0, 0, 0, 0, 0, 0, 0, 0, 0, 0, 0, 0, 0, 73, 0, 74, 0, 0, 104, 0, 0, 0, 0, 0, 0, 0, 0, 0, 0, 0] : List Nat).getD n 0, fun n => ([0, 0, 0, 0, 0, 0, 0, 0, 0, 0, 0, 0, 0, 0, 0, 0, 0, 0, 0, 0, 0, 0, 0, 0, 0, 0, 0, 0, 0, 0, 0, 0, 0, 0, 0, 0, 0, 0, 0, 0, 0, 0, 0, 0, 0, 0, 0, 0, 0, 0, 0, 0, 0, 0, 0, 0, 0, 0, 0, 0, 0, 0, 0, 0, 0, 0, 0, 0, 0, 0, 0, 0, 0, 0, 0, 0, 0, 0, 0, 0, 0, 0, 0, 0, 0, 0, 0, 0, 0, 0, 0, 0, 0, 0, 0, 0, 0, 0, 0, 0, 0, 0, 0, 0, 0, 0, 0, 0, 0, 0, 0, 0, 0, 0, 0, 0, 0, 0, 0, 0, 0, 0, 0, 0, 0, 0, 0, 0, 0, 0, 0, 0, 0, 0, 0, 0, 0, 0, 0, 0, 0, 0, 0, 0, 0, 0, 0, 0, 0, 0, 0, 0, 0, 0, 0, 0, 0, 0, 0, 0, 0, 0, 0, 0, 0, 0, 0, 0, 0, 0, 0, 0, 0, 0, 0, 0, 0, 0, 0, 0, 0, 0, 0, 0, 0, 0, 0, 0, 0, 0, 0, 0, 0, 0, 0, 0, 0, 0, 0, 0, 0, 0, 0, 0, 0, 0, 0, 0, 0, 0, 0] : List Nat).getD n 0⟩
theorem mix : Tryd.prog.follows .mixedOrders = true := by kernel_rfl
theorem is_ones : FnIs Tryd.prog 57 (c_ones ids) r_ones 1 := FnIs.mk' Tryd.func57 mix (by kernel_rfl) (by kernel_rfl) (by kernel_rfl)
theorem is_tz : FnIs Tryd.prog 70 (c_tz ids) r_tz 1 := FnIs.mk' Tryd.func70 mix (by kernel_rfl) (by kernel_rfl) (by kernel_rfl)
theorem is_len64 : FnIs Tryd.prog 74 (c_len64 ids) r_len64 1 := FnIs.mk' Tryd.func74 mix (by kernel_rfl) (by kernel_rfl) (by kernel_rfl)
theorem is_bword : FnIs Tryd.prog 55 (c_bword ids) r_bword 2 := FnIs.mk' Tryd.func55 mix (by kernel_rfl) (by kernel_rfl) (by kernel_rfl)
theorem is_bhas : FnIs Tryd.prog 43 (c_bhas ids) r_bhas 2 := FnIs.mk' Tryd.func43 mix (by kernel_rfl) (by kernel_rfl) (by kernel_rfl)
theorem is_bwith : FnIs Tryd.prog 28 (c_bwith ids) r_bwith 2 := FnIs.mk' Tryd.func28 mix (by kernel_rfl) (by kernel_rfl) (by kernel_rfl)
theorem is_bor : FnIs Tryd.prog 50 (c_bor ids) r_bor 2 := FnIs.mk' Tryd.func50 mix (by kernel_rfl) (by kernel_rfl) (by kernel_rfl)
theorem is_bempty : FnIs Tryd.prog 73 (c_bempty ids) r_bempty 1 := FnIs.mk' Tryd.func73 mix (by kernel_rfl) (by kernel_rfl) (by kernel_rfl)
theorem is_bgreat : FnIs Tryd.prog 65 (c_bgreat ids) r_bgreat 1 := FnIs.mk' Tryd.func65 mix (by kernel_rfl) (by kernel_rfl) (by kernel_rfl)
theorem is_blen : FnIs Tryd.prog 40 (c_blen ids) r_blen 1 := FnIs.mk' Tryd.func40 mix (by kernel_rfl) (by kernel_rfl) (by kernel_rfl)
theorem is_ball : FnIs Tryd.prog 54 (c_ball ids) r_ball 1 := FnIs.mk' Tryd.func54 mix (by kernel_rfl) (by kernel_rfl) (by kernel_rfl)
theorem is_bequal : FnIs Tryd.prog 38 (c_bequal ids) r_bequal 2 := FnIs.mk' Tryd.func38 mix (by kernel_rfl) (by kernel_rfl) (by kernel_rfl)
theorem is_bwithin : FnIs Tryd.prog 36 (c_bwithin ids) r_bwithin 2 := FnIs.mk' Tryd.func36 mix (by kernel_rfl) (by kernel_rfl) (by kernel_rfl)
theorem is_btrim : FnIs Tryd.prog 52 (c_btrim ids) r_btrim 1 := FnIs.mk' Tryd.func52 mix (by kernel_rfl) (by kernel_rfl) (by kernel_rfl)
theorem is_bof : FnIs Tryd.prog 32 (c_bof ids) r_bof 1 := FnIs.mk' Tryd.func32 mix (by kernel_rfl) (by kernel_rfl) (by kernel_rfl)
theorem is_mcheck : FnIs Tryd.prog 45 (c_mcheck ids) r_mcheck 1 := FnIs.mk' Tryd.func45 mix (by kernel_rfl) (by kernel_rfl) (by kernel_rfl)
theorem is_maug : FnIs Tryd.prog 66 (c_maug ids) r_maug 2 := FnIs.mk' Tryd.func66 mix (by kernel_rfl) (by kernel_rfl) (by kernel_rfl)
theorem is_mbegin : FnIs Tryd.prog 46 (c_mbegin ids) r_mbegin 1 := FnIs.mk' Tryd.func46 mix (by kernel_rfl) (by kernel_rfl) (by kernel_rfl)
theorem is_mmaxi : FnIs Tryd.prog 47 (c_mmaxi ids) r_mmaxi 1 := FnIs.mk' Tryd.func47 mix (by kernel_rfl) (by kernel_rfl) (by kernel_rfl)
theorem is_mmax : FnIs Tryd.prog 16 (c_mmax ids) r_mmax 1 := FnIs.mk' Tryd.func16 mix (by kernel_rfl) (by kernel_rfl) (by kernel_rfl)
theorem is_msize : FnIs Tryd.prog 17 (c_msize ids) r_msize 1 := FnIs.mk' Tryd.func17 mix (by kernel_rfl) (by kernel_rfl) (by kernel_rfl)
theorem is_mloose : FnIs Tryd.prog 48 (c_mloose ids) r_mloose 1 := FnIs.mk' Tryd.func48 mix (by kernel_rfl) (by kernel_rfl) (by kernel_rfl)
theorem is_mdef : FnIs Tryd.prog 21 (c_mdef ids) r_mdef 1 := FnIs.mk' Tryd.func21 mix (by kernel_rfl) (by kernel_rfl) (by kernel_rfl)
theorem is_mcov : FnIs Tryd.prog 29 (c_mcov ids) r_mcov 1 := FnIs.mk' Tryd.func29 mix (by kernel_rfl) (by kernel_rfl) (by kernel_rfl)
theorem is_mchk : FnIs Tryd.prog 31 (c_mchk ids) r_mchk 2 := FnIs.mk' Tryd.func31 mix (by kernel_rfl) (by kernel_rfl) (by kernel_rfl)
theorem is_slidx : FnIs Tryd.prog 51 (c_slidx ids) r_slidx 2 := FnIs.mk' Tryd.func51 mix (by kernel_rfl) (by kernel_rfl) (by kernel_rfl)
theorem is_slcon : FnIs Tryd.prog 30 (c_slcon ids) r_slcon 2 := FnIs.mk' Tryd.func30 mix (by kernel_rfl) (by kernel_rfl) (by kernel_rfl)
theorem is_slcln : FnIs Tryd.prog 67 (c_slcln ids) r_slcln 1 := FnIs.mk' Tryd.func67 mix (by kernel_rfl) (by kernel_rfl) (by kernel_rfl)
theorem is_mmove : FnIs Tryd.prog 49 (c_mmove ids) r_mmove 3 := FnIs.mk' Tryd.func49 mix (by kernel_rfl) (by kernel_rfl) (by kernel_rfl)
theorem is_mleast : FnIs Tryd.prog 24 (c_mleast ids) r_mleast 1 := FnIs.mk' Tryd.func24 mix (by kernel_rfl) (by kernel_rfl) (by kernel_rfl)
theorem is_matched : FnIs Tryd.prog 33 (c_matched ids) r_matched 1 := FnIs.mk' Tryd.func33 mix (by kernel_rfl) (by kernel_rfl) (by kernel_rfl)
theorem is_rmatched : FnIs Tryd.prog 20 (c_rmatched ids) r_rmatched 1 := FnIs.mk' Tryd.func20 mix (by kernel_rfl) (by kernel_rfl) (by kernel_rfl)
theorem is_sleq : FnIs Tryd.prog 22 (c_sleq ids) r_sleq 2 := FnIs.mk' Tryd.func22 mix (by kernel_rfl) (by kernel_rfl) (by kernel_rfl)
theorem is_lset : FnIs Tryd.prog 44 (c_lset ids) r_lset 1 := FnIs.mk' Tryd.func44 mix (by kernel_rfl) (by kernel_rfl) (by kernel_rfl)
theorem is_lgraph : FnIs Tryd.prog 14 (c_lgraph ids) r_lgraph 1 := FnIs.mk' Tryd.func14 mix (by kernel_rfl) (by kernel_rfl) (by kernel_rfl)
theorem is_lsmall : FnIs Tryd.prog 13 (c_lsmall ids) r_lsmall 1 := FnIs.mk' Tryd.func13 mix (by kernel_rfl) (by kernel_rfl) (by kernel_rfl)
theorem is_rall : FnIs Tryd.prog 15 (c_rall ids) r_rall 3 := FnIs.mk' Tryd.func15 mix (by kernel_rfl) (by kernel_rfl) (by kernel_rfl)
theorem is_rsize : FnIs Tryd.prog 18 (c_rsize ids) r_rsize 1 := FnIs.mk' Tryd.func18 mix (by kernel_rfl) (by kernel_rfl) (by kernel_rfl)
theorem is_rdef : FnIs Tryd.prog 23 (c_rdef ids) r_rdef 2 := FnIs.mk' Tryd.func23 mix (by kernel_rfl) (by kernel_rfl) (by kernel_rfl)
theorem is_rleast : FnIs Tryd.prog 25 (c_rleast ids) r_rleast 2 := FnIs.mk' Tryd.func25 mix (by kernel_rfl) (by kernel_rfl) (by kernel_rfl)
theorem is_rcheck : FnIs Tryd.prog 19 (c_rcheck ids) r_rcheck 2 := FnIs.mk' Tryd.func19 mix (by kernel_rfl) (by kernel_rfl) (by kernel_rfl)
theorem is_mawake : FnIs Tryd.prog 12 (c_mawake ids) r_mawake 0 := FnIs.mk' Tryd.func12 mix (by kernel_rfl) (by kernel_rfl) (by kernel_rfl)
theorem is_blist : FnIsR Tryd.prog 35 (c_blist ids) r_blist 1 16 := FnIsR.mk' Tryd.func35 mix (by kernel_rfl) (by kernel_rfl) (by kernel_rfl)
theorem is_ball1 : FnIsY Tryd.prog 69 (c_ball1 ids) r_ball1 2 := FnIsY.mk' Tryd.func69 (by kernel_rfl) (by kernel_rfl) (by kernel_rfl)
theorem ones' : OnesSpec Tryd.prog 57 := ones_ok is_ones
theorem tz' : TzSpec Tryd.prog ids 70 := tz_ok is_tz
theorem len64' : LenSpec Tryd.prog 74 := len64_ok is_len64
theorem bword' : WordSpec Tryd.prog 55 := bword_ok is_bword
theorem bhas' : HasSpec Tryd.prog 43 := bhas_ok (ι := ids) is_bhas bword'
theorem bwith' : BWithSpec Tryd.prog 28 := bwith_ok (ι := ids) is_bwith bhas'
theorem bor' : BOrSpec Tryd.prog 50 := bor_ok (ι := ids) is_bor bword'
theorem bempty' : BEmptySpec Tryd.prog 73 := bempty_ok is_bempty
theorem bgreat' : BGreatSpec Tryd.prog 65 := bgreat_ok (ι := ids) is_bgreat bempty' len64'
theorem blen' : BLenSpec Tryd.prog 40 := blen_ok (ι := ids) is_blen ones'
theorem blist' : BListSpec Tryd.prog ids 35 := blist_ok (ι := ids) (g := 0) is_blist blen' (ball_ok (ι := ids) is_ball) (by kernel_rfl) (ball1_ok (ι := ids) is_ball1 tz')
theorem bequal' : BEqualSpec Tryd.prog 38 := bequal_ok is_bequal
theorem bwithin' : BWithinSpec Tryd.prog 36 := bwithin_ok (ι := ids) is_bwithin bword'
theorem bof' : BOfSpec Tryd.prog 32 := bof_ok (ι := ids) is_bof (btrim_ok is_btrim)
theorem mcheck' : MCheckSpec Tryd.prog 45 := mcheck_ok (ι := ids) is_mcheck bgreat'
theorem maug' : AugSpecG Tryd.prog 66 257 := maug_okG (ι := ids) is_maug rfl 257
theorem mmaxi' : MaxiSpec Tryd.prog 47 := mmaxi_ok (ι := ids) is_mmaxi maug'.toH
theorem mbegin' : BegSpec Tryd.prog ids 46 := mbegin_ok (ι := ids) is_mbegin blist'
theorem mmax' : MMaxSpec Tryd.prog ids 16 := mmax_ok (ι := ids) is_mmax mcheck' mbegin' mmaxi'
theorem msize' : MSizeSpec Tryd.prog ids 17 := msize_ok (ι := ids) is_msize mmax'
theorem mloose' : LooseSpec Tryd.prog 48 := mloose_ok is_mloose
theorem mdef' : MDefSpec Tryd.prog ids 21 := mdef_ok (ι := ids) is_mdef mcheck' mbegin' mmaxi' mloose'
theorem mcov' : MCovSpec Tryd.prog ids 29 := mcov_ok (ι := ids) is_mcov mcheck' mbegin' mmaxi' mloose' bor' blist'
theorem mchk' : MChkSpec Tryd.prog 31 := mchk_ok (ι := ids) is_mchk mcheck' bhas'
theorem slcon' : IConSpec Tryd.prog 30 := slcon_ok (ι := ids) is_slcon (slidx_ok is_slidx)
theorem slcln' : IClnSpec Tryd.prog 67 := slcln_ok is_slcln
theorem mmove' : MoveSpec Tryd.prog 49 := mmove_ok (ι := ids) is_mmove maug' slcln'
theorem mleast' : MLeastSpec Tryd.prog ids 24 := mleast_ok (ι := ids) is_mleast mcheck' mbegin' mmaxi' slcon' mmove'
theorem matched' : MtcSpec Tryd.prog 33 := matched_ok is_matched
theorem rmatched' : MtcSpec Tryd.prog 20 := rmatched_ok is_rmatched
theorem sleq' : IEqSpec Tryd.prog 22 := sleq_ok is_sleq
theorem lset' : LSetSpec Tryd.prog 44 := lset_ok (ι := ids) is_lset bof' bwith'
theorem lgraph' : LGraphSpec Tryd.prog 14 := lgraph_ok (ι := ids) is_lgraph lset'
theorem lsmall' : SmallSpec Tryd.prog 13 := lsmall_ok is_lsmall
theorem rall' : RAllSpec Tryd.prog 15 7 := rall_ok (ι := ids) is_rall rfl 7
theorem rsize' : RSizeSpec Tryd.prog 18 := rsize_ok (ι := ids) is_rsize rmatched'
theorem rdef' : RDefSpec Tryd.prog 23 := rdef_ok (ι := ids) is_rdef rmatched' rsize'
theorem rleast' : RLeastSpec Tryd.prog 25 := rleast_ok (ι := ids) is_rleast rmatched'
theorem rcheck' : RChkSpec Tryd.prog 19 := rcheck_ok is_rcheck
theorem mawake' : MAwakeSpec Tryd.prog ids 12 := mawake_ok (ι := ids) is_mawake ⟨lgraph', msize', mdef', mcov', mleast', sleq'⟩
theorem laws' : MLaws Tryd.prog ids := ⟨mawake', lsmall', lgraph', rall', rsize', rcheck', rmatched', rdef', rleast', mmax', msize', mdef', mleast', mchk', sleq'⟩
abbrev laid2 : List (String × DataW Unit) := [("math/bits.deBruijn64tab", Rows.laid_math_bits_deBruijn64tab)]
theorem own : ownKnob Tryd.prog.godebug = none := by kernel_rfl
theorem gTab : Tryd.prog.globalNamed "math/bits.deBruijn64tab" = some 0 := by kernel_rfl
theorem tTab : (Tryd.prog.globals[0]?).map (·.type) = some 111 ∧ Tryd.prog.underlying 111 = some (.array 64 5) ∧ Tryd.prog.underlying 5 = some (.int .u8) ∧ Tryd.prog.cellsOf 5 = 1 ∧ Tryd.prog.cellsOf 111 = 64 := ⟨by kernel_rfl, by kernel_rfl, by kernel_rfl, by kernel_rfl, by kernel_rfl⟩
theorem dTab : (Rows.laid_math_bits_deBruijn64tab : DataW Unit) = .agg ((tabL.map fun n : Nat => (n : Int)).map fun x => .lit (.int .u8 x)) := rfl
theorem of_laid {W : World} (h : laidMetH Tryd.prog laid2 W) : TabOk ids W.heap := by
  rw [MakeChecks.laidMetH_plain _ _ _ (by kernel_rfl)] at h
  obtain ⟨ps, ⟨g0, t0, cs0, f0, p0, q0, hg0, ht0, hv0, hd0, rfl, rfl⟩, _, hz⟩ := h
  obtain rfl := Option.some.inj (gTab.symm.trans hg0)
  obtain ⟨a0, b0, c0, d0, i0⟩ := tTab
  obtain rfl := Option.some.inj (a0.symm.trans ht0)
  have hz' : ∀ b off, MemPlace.cell b off ∈ _ → ∃ c t, W.heap[b]? = some (.cells c t (0, 0)) := fun b off h => (hz b off h).1
  exact bl_of_var hg0 hv0 hd0 dTab b0 c0 d0 i0 rfl (by omega) (fun x hx => by simp only [List.mem_append]; exact .inl (.inl hx)) hz'
theorem door_met (os : Os) (args : Array Value) : laidMetH Tryd.prog laid2 ((World.doorLaid Tryd.prog 4000 os).forCall (fun _ _ => 0) ⟨#[], args, []⟩).memory :=
  laidMetH_of_parts3 (fuel := 8) (laidMet_of_run' 8 (by kernel_rfl) (by kernel_rfl)) (by kernel_rfl) (by kernel_rfl)
theorem laidOut : laidOutB Tryd.prog = true := by kernel_rfl
theorem uBool : Tryd.prog.underlying 4 = some .bool := by kernel_rfl
theorem cByte : Tryd.prog.cellsOf 5 = 1 := by kernel_rfl
theorem uByte : Tryd.prog.underlying 5 = some (.int .u8) := by kernel_rfl
theorem uInt : Tryd.prog.underlying 3 = some (.int .i64) := by kernel_rfl
theorem cInt : Tryd.prog.cellsOf 3 = 1 := by kernel_rfl
end Go.Proofs.YtihlnbepcimnfaaDoor

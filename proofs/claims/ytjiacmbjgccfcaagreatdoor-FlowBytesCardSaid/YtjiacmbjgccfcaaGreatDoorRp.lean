/- The law FlowBytes answers true at every input, and its input reads as it did. -/
import Derived.Test.YtjiacmbjgccfcaaGreatDoorMgZSeat
import Derived.Test.YtjiacmbjgccfcaaGreatDoorMgX9
namespace Go.Proofs.YtjiacmbjgccfcaaGreatDoor
open Go.ChangeShapes Go.WideShapes Go.ChangeAt Go.WideElems Go.RowKit Go.Mg
set_option maxRecDepth 100000
theorem is_lfbyt : FnIs Tryz.prog 3 (c_lfbyt ids) r_lfbyt 2 := FnIs.mk' Tryz.func3 mix (by kernel_rfl) (by kernel_rfl) (by kernel_rfl)
theorem is_feq : FnIs Tryz.prog 11 (c_feq ids) r_feq 2 := FnIs.mk' Tryz.func11 mix (by kernel_rfl) (by kernel_rfl) (by kernel_rfl)
theorem is_feq1 : FnIs Tryz.prog 45 (c_feq1 ids) r_feq1 2 := FnIs.mk' Tryz.func45 mix (by kernel_rfl) (by kernel_rfl) (by kernel_rfl)
theorem is_eqfM : FnIs Tryz.prog 44 (c_eqfM ids) r_eqfM 3 := FnIs.mk' Tryz.func44 mix (by kernel_rfl) (by kernel_rfl) (by kernel_rfl)
theorem is_eqP : FnIs Tryz.prog 43 (c_eqP ids) r_eqP 2 := FnIs.mk' Tryz.func43 mix (by kernel_rfl) (by kernel_rfl) (by kernel_rfl)
theorem is_eqS : FnIs Tryz.prog 42 (c_eqS ids) r_eqS 2 := FnIs.mk' Tryz.func42 mix (by kernel_rfl) (by kernel_rfl) (by kernel_rfl)
theorem is_fbyt : FnIs Tryz.prog 7 (c_fbyt ids) r_fbyt 1 := FnIs.mk' Tryz.func7 mix (by kernel_rfl) (by kernel_rfl) (by kernel_rfl)
theorem is_fread : FnIs Tryz.prog 8 (c_fread ids) r_fread 1 := FnIs.mk' Tryz.func8 mix (by kernel_rfl) (by kernel_rfl) (by kernel_rfl)
theorem is_rbyt : FnIs Tryz.prog 10 (c_rbyt ids) r_rbyt 1 := FnIs.mk' Tryz.func10 mix (by kernel_rfl) (by kernel_rfl) (by kernel_rfl)
theorem is_clone : FnIs Tryz.prog 78 (c_clone ids) r_clone 1 := FnIs.mk' Tryz.func78 mix (by kernel_rfl) (by kernel_rfl) (by kernel_rfl)
theorem is_reverse : FnIs Tryz.prog 110 (c_reverse ids) r_reverse 1 := FnIs.mk' Tryz.func110 mix (by kernel_rfl) (by kernel_rfl) (by kernel_rfl)
theorem is_groups : FnIs Tryz.prog 75 (c_groups ids) r_groups 1 := FnIs.mk' Tryz.func75 mix (by kernel_rfl) (by kernel_rfl) (by kernel_rfl)
theorem is_wnew : FnIs Tryz.prog 26 (c_wnew ids) r_wnew 0 := FnIs.mk' Tryz.func26 mix (by kernel_rfl) (by kernel_rfl) (by kernel_rfl)
theorem is_wraw : FnIs Tryz.prog 74 (c_wraw ids) r_wraw 2 := FnIs.mk' Tryz.func74 mix (by kernel_rfl) (by kernel_rfl) (by kernel_rfl)
theorem is_wuint : FnIs Tryz.prog 27 (c_wuint ids) r_wuint 2 := FnIs.mk' Tryz.func27 mix (by kernel_rfl) (by kernel_rfl) (by kernel_rfl)
theorem is_wbytes : FnIs Tryz.prog 76 (c_wbytes ids) r_wbytes 2 := FnIs.mk' Tryz.func76 mix (by kernel_rfl) (by kernel_rfl) (by kernel_rfl)
theorem is_wstring : FnIs Tryz.prog 28 (c_wstring ids) r_wstring 2 := FnIs.mk' Tryz.func28 mix (by kernel_rfl) (by kernel_rfl) (by kernel_rfl)
theorem is_wset : FnIs Tryz.prog 29 (c_wset ids) r_wset 2 := FnIs.mk' Tryz.func29 mix (by kernel_rfl) (by kernel_rfl) (by kernel_rfl)
theorem is_wout : FnIs Tryz.prog 30 (c_wout ids) r_wout 1 := FnIs.mk' Tryz.func30 mix (by kernel_rfl) (by kernel_rfl) (by kernel_rfl)
theorem is_rnewr : FnIs Tryz.prog 31 (c_rnewr ids) r_rnewr 1 := FnIs.mk' Tryz.func31 mix (by kernel_rfl) (by kernel_rfl) (by kernel_rfl)
theorem is_rcount : FnIs Tryz.prog 32 (c_rcount ids) r_rcount 2 := FnIs.mk' Tryz.func32 mix (by kernel_rfl) (by kernel_rfl) (by kernel_rfl)
theorem is_rstring : FnIs Tryz.prog 33 (c_rstring ids) r_rstring 2 := FnIs.mk' Tryz.func33 mix (by kernel_rfl) (by kernel_rfl) (by kernel_rfl)
theorem is_rnum : FnIs Tryz.prog 34 (c_rnum ids) r_rnum 2 := FnIs.mk' Tryz.func34 mix (by kernel_rfl) (by kernel_rfl) (by kernel_rfl)
theorem is_ruint : FnIs Tryz.prog 84 (c_ruint ids) r_ruint 2 := FnIs.mk' Tryz.func84 mix (by kernel_rfl) (by kernel_rfl) (by kernel_rfl)
theorem is_rset : FnIs Tryz.prog 35 (c_rset ids) r_rset 2 := FnIs.mk' Tryz.func35 mix (by kernel_rfl) (by kernel_rfl) (by kernel_rfl)
theorem is_rend : FnIs Tryz.prog 36 (c_rend ids) r_rend 1 := FnIs.mk' Tryz.func36 mix (by kernel_rfl) (by kernel_rfl) (by kernel_rfl)
theorem is_rok : FnIs Tryz.prog 79 (c_rok ids) r_rok 1 := FnIs.mk' Tryz.func79 mix (by kernel_rfl) (by kernel_rfl) (by kernel_rfl)
theorem is_rrefuse : FnIs Tryz.prog 80 (c_rrefuse ids) r_rrefuse 3 := FnIs.mk' Tryz.func80 mix (by kernel_rfl) (by kernel_rfl) (by kernel_rfl)
theorem is_rnumb : FnIs Tryz.prog 81 (c_rnumb ids) r_rnumb 1 := FnIs.mk' Tryz.func81 mix (by kernel_rfl) (by kernel_rfl) (by kernel_rfl)
theorem is_rtake : FnIs Tryz.prog 82 (c_rtake ids) r_rtake 2 := FnIs.mk' Tryz.func82 mix (by kernel_rfl) (by kernel_rfl) (by kernel_rfl)
theorem is_rbytes : FnIs Tryz.prog 83 (c_rbytes ids) r_rbytes 2 := FnIs.mk' Tryz.func83 mix (by kernel_rfl) (by kernel_rfl) (by kernel_rfl)
theorem is_rerr : FnIs Tryz.prog 87 (c_rerr ids) r_rerr 1 := FnIs.mk' Tryz.func87 mix (by kernel_rfl) (by kernel_rfl) (by kernel_rfl)
theorem is_rfail : FnIs Tryz.prog 111 (c_rfail ids) r_rfail 2 := FnIs.mk' Tryz.func111 mix (by kernel_rfl) (by kernel_rfl) (by kernel_rfl)
theorem is_beq : FnIs Tryz.prog 37 (c_beq ids) r_beq 2 := FnIs.mk' Tryz.func37 mix (by kernel_rfl) (by kernel_rfl) (by kernel_rfl)
theorem is_rsame : FnIs Tryz.prog 9 (c_rsame ids) r_rsame 2 := FnIs.mk' Tryz.func9 mix (by kernel_rfl) (by kernel_rfl) (by kernel_rfl)
theorem is_rput : FnIs Tryz.prog 38 (c_rput ids) r_rput 1 := FnIs.mk' Tryz.func38 mix (by kernel_rfl) (by kernel_rfl) (by kernel_rfl)
theorem is_rputbytes : FnIs Tryz.prog 39 (c_rputbytes ids) r_rputbytes 1 := FnIs.mk' Tryz.func39 mix (by kernel_rfl) (by kernel_rfl) (by kernel_rfl)
theorem is_rputset : FnIs Tryz.prog 40 (c_rputset ids) r_rputset 1 := FnIs.mk' Tryz.func40 mix (by kernel_rfl) (by kernel_rfl) (by kernel_rfl)
theorem is_rsetb : FnIs Tryz.prog 88 (c_rsetb ids) r_rsetb 1 := FnIs.mk' Tryz.func88 mix (by kernel_rfl) (by kernel_rfl) (by kernel_rfl)
theorem is_bbytes : FnIs Tryz.prog 77 (c_bbytes ids) r_bbytes 1 := FnIs.mk' Tryz.func77 mix (by kernel_rfl) (by kernel_rfl) (by kernel_rfl)
theorem is_bread : FnIs Tryz.prog 85 (c_bread ids) r_bread 1 := FnIs.mk' Tryz.func85 mix (by kernel_rfl) (by kernel_rfl) (by kernel_rfl)
theorem is_bgreat : FnIs Tryz.prog 86 (c_bgreat ids) r_bgreat 1 := FnIs.mk' Tryz.func86 mix (by kernel_rfl) (by kernel_rfl) (by kernel_rfl)
theorem is_len64 : FnIs Tryz.prog 112 (c_len64 ids) r_len64 1 := FnIs.mk' Tryz.func112 mix (by kernel_rfl) (by kernel_rfl) (by kernel_rfl)
theorem u2 : Tryz.prog.underlying 26 = some (.array 2 5) := uArr
theorem c2 : Tryz.prog.cellsOf 26 = 2 := cArr
theorem clone' : CloneSpec Tryz.prog (ids.f 51) := clone_ok is_clone
theorem wraw' : WRawSpec Tryz.prog (ids.f 56) := wraw_ok is_wraw
theorem wuint' : WUintSpec Tryz.prog (ids.f 57) := wuint_ok (ι := ids) is_wuint (groups_ok (ι := ids) is_groups (reverse_ok is_reverse)) wraw'
theorem wbytes' : WBytesSpec Tryz.prog (ids.f 58) := wbytes_ok (ι := ids) is_wbytes wuint' wraw'
theorem bgreat' : BGreatSpec Tryz.prog (ids.f 134) := bgreat_ok (ι := ids) is_bgreat bempty' (len64_ok (ι := ids) is_len64)
theorem wset' : WSetSpec Tryz.prog (ids.f 340) := wset_ok (ι := ids) is_wset (bbytes_ok (ι := ids) is_bbytes bgreat') wbytes'
theorem rok' : ROkSpec Tryz.prog (ids.f 109) := rok_ok is_rok
theorem rrefuse' : RRefSpec Tryz.prog (ids.f 110) := rrefuse_ok (ι := ids) is_rrefuse (rfail_ok (ι := ids) is_rfail rok')
theorem rnumb' : RNumbSpec Tryz.prog (ids.f 111) := rnumb_ok is_rnumb
theorem rtake' : RTakeSpec Tryz.prog (ids.f 112) := rtake_ok (ι := ids) is_rtake clone'
theorem rbytes' : RBytSpec Tryz.prog (ids.f 114) := rbytes_ok (ι := ids) is_rbytes rok' rrefuse' rnumb' rtake'
theorem rnum' : RNumSpec Tryz.prog (ids.f 342) := rnum_ok (ι := ids) is_rnum rok' rrefuse' (ruint_ok (ι := ids) is_ruint rok' rrefuse' rnumb' rtake')
theorem rset' : RSetSpec Tryz.prog (ids.f 343) := rset_ok (ι := ids) is_rset rok' rbytes' (bread_ok (ι := ids) is_bread) bgreat'
theorem fbyt' : FBytSpec Tryz.prog ids (ids.f 348) := fbyt_ok (ι := ids) is_fbyt ⟨fgood', wnew_ok is_wnew, wuint', wstring_ok (ι := ids) is_wstring wbytes', wset', wout_ok (ι := ids) is_wout clone'⟩
theorem fread' : FReadSpec Tryz.prog ids (ids.f 351) := fread_ok (ι := ids) is_fread ⟨rnewr_ok (ι := ids) is_rnewr clone', rcount_ok (ι := ids) is_rcount rok' rrefuse' rnumb' rtake', rstring_ok (ι := ids) is_rstring rbytes', rnum', rset', rend_ok (ι := ids) is_rend rok' (rerr_ok is_rerr), fgood', fbyt', beq_ok is_beq⟩
theorem rput' : NumSpec Tryz.prog (ids.f 61) := rput_ok (ι := ids) is_rput
theorem rputb' : RPutBSpec Tryz.prog (ids.f 62) := rputb_ok (ι := ids) is_rputbytes rput'
theorem rbyt' : RBytesSpec Tryz.prog (ids.f 349) := rbyt_ok (ι := ids) is_rbyt ⟨rput', rputb', rputset_ok (ι := ids) is_rputset (rsetb_ok (ι := ids) is_rsetb) rputb', rmemb_ok is_rmemb⟩
theorem lbytC : LBC Tryz.prog ids := ⟨fawk', lmakf', fbyt', fread', rbyt', rsame_ok is_rsame, feq_ok (ι := ids) is_feq ⟨eqS_ok is_eqS, eqP_ok is_eqP, eqfM_ok is_eqfM, feq1_ok (ι := ids) is_feq1 (bequal_ok is_bequal)⟩, fchk', bof'⟩
theorem lifted (os : Os) (started : os.Started) (H : Type) (enc : TypeId × Value → H) :
    ReturnsInHanded {} Tryz.checked os 3 .any (fun w args => (Rows.flowBytesSpec.pre enc Tryz.prog Tryz.f3 [] false w args ∧ laidMetH Tryz.prog laid2 w) ∧ sizedMet enc Tryz.prog Tryz.f3 (OpenSpec.ofChange Rows.flowBytesSpec) false w args)
      (Rows.flowBytesSpec.post enc Tryz.prog Tryz.f3 false true false false) := by
  refine returnsInHanded_of_change_and (C := Tryz.checked) (X := fun w _ => laidMetH Tryz.prog laid2 w) (fun _ _ _ hh h => h.of_heap hh) own started (by kernel_rfl) Tryz.func3
    (ChangeSpec.witness_shaped (enc := enc) (C := Tryz.checked) (os := os) (X := fun w _ => laidMetH Tryz.prog laid2 w) false (World.doorLaid Tryz.prog 4000 os) #[.agg #[.int .u8 0, .slice none 0 0, .slice none 0 0, .slice none 0 0, .slice none 0 0, .slice none 0 0, .slice none 0 0], .agg (Array.replicate 2 (.int .u8 0))] 8 rfl (World.shaped_of_RefB (by kernel_rfl) (by kernel_rfl)) (by kernel_rfl) (by kernel_rfl) (by kernel_rfl) (door_met os _)) ?_
  intro W base args ds gs before hval0 hW _ _ hL _
  have hval : ∀ (j : Nat) t v, Tryz.f3.params[j]? = some t → args[j]? = some v → Value.okWide Tryz.prog W .any base t v := hval0
  have hG := of_laid hL
  have hW' := hW
  obtain ⟨p, q, hA0, hV, rfl, hfz, hnd⟩ := hW'
  have hA : DataW.TrodAll enc Tryz.prog W 0 (fun _ => true) true Tryz.f3.params.toList args.toList ds p := hA0
  rw [Tryz.params3] at hA hval
  obtain ⟨v0, v1, d0, d1, p0, p1, rfl, rfl, rfl, h0, h1⟩ := trodAll_two hA
  obtain ⟨rfl, rfl⟩ := trodVars_none hV
  obtain ⟨l0, s0⟩ := rawF_arg Tryz.underlying25 cRaw uByte cByte uBs cBs Tryz.underlying23 cPs uArr cArr (hval 0 25 v0 rfl rfl) h0
  obtain ⟨l1, m1, rfl⟩ := bytes_of_arr u2 uByte cByte c2 (hval 1 26 v1 rfl rfl) h1
  exact calls_post hW rfl rfl (by kernel_rfl) uBool laidOut (by kernel_rfl) (lfbyt_ok (ι := ids) is_lfbyt lbytC l0 v0 l1 W.heap hG s0 m1)
theorem flowBytes_holds : Rows.FlowBytesSaid :=
  OpenClaim.holds_of_wide 3 Tryz.f3 rfl rfl rfl rfl rfl rfl rfl ⟨rfl, rfl, rfl, rfl, rfl⟩ rfl rfl rfl rfl rfl (by kernel_rfl) Tryz.func3 (by kernel_rfl)
    (of_decide_eq_true (by kernel_rfl)) (by unfold Func.isWrapper; first | (rw [if_pos (by decide +kernel)]; kernel_rfl) | (rw [if_neg (by decide +kernel)]; exact ⟨rfl, rfl⟩))
    (fun os started H enc _ => lifted os started H enc)
theorem flowBytes_card : Rows.FlowBytesCardSaid :=
  Claim7.holds_tied_plain_at .later [] [.data] true (true, "9cb4ad5b6ecfd839677c9b81a73a49379b5b8a667b5c3057864e9c01044f37ef") true
    flowBytes_holds (fun _ h => by cases h) (by kernel_rfl) (fun _ h => by cases h) flowBytes_row_tie rfl ⟨rfl, rfl⟩ (by kernel_rfl) rfl
    (fun f fn hf hfn => by
      obtain rfl : f = 3 := Option.some.inj ((show Tryz.prog.funcNamed "arbac/arbaclaw40.FlowBytes" = some 3 by kernel_rfl).symm.trans hf) |>.symm
      obtain rfl : fn = Tryz.f3 := (Option.some.inj (Tryz.func3.symm.trans hfn)).symm
      exact ⟨by kernel_rfl, fun j t ht => by
        rw [Tryz.params3] at ht
        have hm : t ∈ [25, 26] := by simpa using Array.mem_of_getElem? ht
        have hall : ([25, 26].all fun u => !Tryz.prog.wantsStandIn u) = true := by kernel_rfl
        exact (show Tryz.prog.wantsStandIn t = false by simpa using List.all_eq_true.1 hall t hm)⟩)
    (by kernel_rfl)
end Go.Proofs.YtjiacmbjgccfcaaGreatDoor

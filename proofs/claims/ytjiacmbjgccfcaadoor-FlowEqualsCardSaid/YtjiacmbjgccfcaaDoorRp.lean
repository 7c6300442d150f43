/- The law FlowEquals answers true at every input, and its input reads as it did. -/
import Derived.Test.YtjiacmbjgccfcaaDoorMgFSeat
import Derived.Test.YtjiacmbjgccfcaaDoorMgVJ
import Derived.Test.YtjiacmbjgccfcaaDoorMgVL
namespace Go.Proofs.YtjiacmbjgccfcaaDoor
open Go.ChangeShapes Go.WideShapes Go.ChangeAt Go.WideElems Go.RowKit Go.Mg
set_option maxRecDepth 100000
theorem is_spoil : FnIs Tryd.prog 11 (c_spoil ids) r_spoil 2 := FnIs.mk' Tryd.func11 mix (by kernel_rfl) (by kernel_rfl) (by kernel_rfl)
theorem is_lfeq : FnIs Tryd.prog 8 (c_lfeq ids) r_lfeq 3 := FnIs.mk' Tryd.func8 mix (by kernel_rfl) (by kernel_rfl) (by kernel_rfl)
theorem is_feq : FnIs Tryd.prog 36 (c_feq ids) r_feq 2 := FnIs.mk' Tryd.func36 mix (by kernel_rfl) (by kernel_rfl) (by kernel_rfl)
theorem is_feq1 : FnIs Tryd.prog 71 (c_feq1 ids) r_feq1 2 := FnIs.mk' Tryd.func71 mix (by kernel_rfl) (by kernel_rfl) (by kernel_rfl)
theorem is_eqfM : FnIs Tryd.prog 70 (c_eqfM ids) r_eqfM 3 := FnIs.mk' Tryd.func70 mix (by kernel_rfl) (by kernel_rfl) (by kernel_rfl)
theorem is_eqP : FnIs Tryd.prog 34 (c_eqP ids) r_eqP 2 := FnIs.mk' Tryd.func34 mix (by kernel_rfl) (by kernel_rfl) (by kernel_rfl)
theorem is_eqS : FnIs Tryd.prog 69 (c_eqS ids) r_eqS 2 := FnIs.mk' Tryd.func69 mix (by kernel_rfl) (by kernel_rfl) (by kernel_rfl)
theorem is_eqS2 : FnIs Tryd.prog 33 (c_eqS ids) r_eqS 2 := FnIs.mk' Tryd.func33 mix (by kernel_rfl) (by kernel_rfl) (by kernel_rfl)
theorem is_eqO : FnIs Tryd.prog 35 (c_eqO ids) r_eqO 2 := FnIs.mk' Tryd.func35 mix (by kernel_rfl) (by kernel_rfl) (by kernel_rfl)
theorem cX : Tryd.prog.cellsOf 36 = 4 := by kernel_rfl
theorem uStr : Tryd.prog.underlying 9 = some .string := by kernel_rfl
theorem cStr : Tryd.prog.cellsOf 9 = 1 := by kernel_rfl
theorem lfeqC : LEC Tryd.prog ids := ⟨fawk', rmakf', lflow', spoil_ok (ι := ids) is_spoil ⟨clnS_ok encS_len encS_one is_clnS, clnP', clnO_ok encM_len encM_one is_clnO⟩, feq_ok (ι := ids) is_feq ⟨eqS_ok is_eqS, eqP_ok is_eqP, eqfM_ok is_eqfM, feq1_ok (ι := ids) is_feq1 (bequal_ok is_bequal)⟩, eqS_ok is_eqS2, eqP_ok is_eqP, eqO_ok is_eqO⟩
theorem lifted (os : Os) (started : os.Started) (H : Type) (enc : TypeId × Value → H) :
    ReturnsInHanded {} Tryd.checked os 8 .any (fun w args => (Rows.flowEqualsSpec.pre enc Tryd.prog Tryd.f8 [] false w args ∧ laidMetH Tryd.prog laid2 w) ∧ sizedMet enc Tryd.prog Tryd.f8 (OpenSpec.ofChange Rows.flowEqualsSpec) false w args)
      (Rows.flowEqualsSpec.post enc Tryd.prog Tryd.f8 false true false false) := by
  refine returnsInHanded_of_change_and (C := Tryd.checked) (X := fun w _ => laidMetH Tryd.prog laid2 w) (fun _ _ _ hh h => h.of_heap hh) own started (by kernel_rfl) Tryd.func8
    (ChangeSpec.witness_shaped (enc := enc) (C := Tryd.checked) (os := os) (X := fun w _ => laidMetH Tryd.prog laid2 w) false (World.doorLaid Tryd.prog 4000 os) #[.agg #[.int .u8 0, .slice none 0 0, .slice none 0 0, .slice none 0 0, .slice none 0 0, .slice none 0 0, .slice none 0 0], .agg #[.int .u8 0, .slice none 0 0, .slice none 0 0, .slice none 0 0, .slice none 0 0, .slice none 0 0, .slice none 0 0], .agg #[.int .u8 0, .int .i64 0, .int .i64 0, .string ByteArray.empty]] 8 rfl (World.shaped_of_RefB (by kernel_rfl) (by kernel_rfl)) (by kernel_rfl) (by kernel_rfl) (by kernel_rfl) (door_met os _)) ?_
  intro W base args ds gs before hval0 hW _ _ hL _
  have hval : ∀ (j : Nat) t v, Tryd.f8.params[j]? = some t → args[j]? = some v → Value.okWide Tryd.prog W .any base t v := hval0
  have hG := of_laid hL
  have hW' := hW
  obtain ⟨p, q, hA0, hV, rfl, hfz, hnd⟩ := hW'
  have hA : DataW.TrodAll enc Tryd.prog W 0 (fun _ => true) true Tryd.f8.params.toList args.toList ds p := hA0
  rw [Tryd.params8] at hA hval
  obtain ⟨v0, v1, v2, d0, d1, d2, p0, p1, p2, rfl, rfl, rfl, h0, h1, h2⟩ := trodAll_three hA
  obtain ⟨rfl, rfl⟩ := trodVars_none hV
  obtain ⟨l0, s0⟩ := rawF_arg Tryd.underlying25 cRaw uByte cByte uBs cBs Tryd.underlying23 cPs uArr cArr (hval 0 25 v0 rfl rfl) h0
  obtain ⟨l1, s1⟩ := rawF_arg Tryd.underlying25 cRaw uByte cByte uBs cBs Tryd.underlying23 cPs uArr cArr (hval 1 25 v1 rfl rfl) h1
  obtain ⟨l2, rfl⟩ := spoil_arg Tryd.underlying36 cX uByte cByte uInt cInt uStr cStr (hval 2 36 v2 rfl rfl) h2
  exact calls_post hW rfl rfl (by kernel_rfl) uBool laidOut (by kernel_rfl) (lfeq_ok (ι := ids) is_lfeq lfeqC l0 l1 v0 v1 l2 W.heap hG s0 s1)
theorem flowEquals_holds : Rows.FlowEqualsSaid :=
  OpenClaim.holds_of_wide 8 Tryd.f8 rfl rfl rfl rfl rfl rfl rfl ⟨rfl, rfl, rfl, rfl, rfl⟩ rfl rfl rfl rfl rfl (by kernel_rfl) Tryd.func8 (by kernel_rfl)
    (of_decide_eq_true (by kernel_rfl)) (by unfold Func.isWrapper; first | (rw [if_pos (by decide +kernel)]; kernel_rfl) | (rw [if_neg (by decide +kernel)]; exact ⟨rfl, rfl⟩))
    (fun os started H enc _ => lifted os started H enc)
theorem flowEquals_card : Rows.FlowEqualsCardSaid :=
  Claim7.holds_tied_plain_at .later [] [.data] true (true, "5f276942d0f977dc47afd9750da3181d8ff886e90244680afef4779e5a77fa67") false
    flowEquals_holds (fun _ h => by cases h) (by kernel_rfl) (fun _ h => by cases h) flowEquals_row_tie rfl ⟨rfl, rfl⟩ (by kernel_rfl) rfl
    (fun f fn hf hfn => by
      obtain rfl : f = 8 := Option.some.inj ((show Tryd.prog.funcNamed "arbac/arbaclaw40.FlowEquals" = some 8 by kernel_rfl).symm.trans hf) |>.symm
      obtain rfl : fn = Tryd.f8 := (Option.some.inj (Tryd.func8.symm.trans hfn)).symm
      exact ⟨by kernel_rfl, fun j t ht => by
        rw [Tryd.params8] at ht
        have hm : t ∈ [25, 25, 36] := by simpa using Array.mem_of_getElem? ht
        have hall : ([25, 25, 36].all fun u => !Tryd.prog.wantsStandIn u) = true := by kernel_rfl
        exact (show Tryd.prog.wantsStandIn t = false by simpa using List.all_eq_true.1 hall t hm)⟩)
    (by kernel_rfl)
end Go.Proofs.YtjiacmbjgccfcaaDoor

/- The law FlowChecks answers true at every input, and its input reads as it did. -/
import Derived.Test.YtjiacmbjgccfcaaDoorMgFSeat
import Derived.Test.YtjiacmbjgccfcaaDoorMgVI
namespace Go.Proofs.YtjiacmbjgccfcaaDoor
open Go.ChangeShapes Go.WideShapes Go.ChangeAt Go.WideElems Go.RowKit Go.Mg
set_option maxRecDepth 100000
theorem is_spoil : FnIs Tryd.prog 11 (c_spoil ids) r_spoil 2 := FnIs.mk' Tryd.func11 mix (by kernel_rfl) (by kernel_rfl) (by kernel_rfl)
theorem is_lfchk : FnIs Tryd.prog 3 (c_lfchk ids) r_lfchk 3 := FnIs.mk' Tryd.func3 mix (by kernel_rfl) (by kernel_rfl) (by kernel_rfl)
theorem cX : Tryd.prog.cellsOf 36 = 4 := by kernel_rfl
theorem uStr : Tryd.prog.underlying 9 = some .string := by kernel_rfl
theorem cStr : Tryd.prog.cellsOf 9 = 1 := by kernel_rfl
theorem lchkC : LCC Tryd.prog ids := ⟨fawk', rmakf', lroles', lflow', fchk', rchk', spoil_ok (ι := ids) is_spoil ⟨clnS_ok encS_len encS_one is_clnS, clnP', clnO_ok encM_len encM_one is_clnO⟩⟩
theorem lifted (os : Os) (started : os.Started) (H : Type) (enc : TypeId × Value → H) :
    ReturnsInHanded {} Tryd.checked os 3 .any (fun w args => (Rows.flowChecksSpec.pre enc Tryd.prog Tryd.f3 [] false w args ∧ laidMetH Tryd.prog laid2 w) ∧ sizedMet enc Tryd.prog Tryd.f3 (OpenSpec.ofChange Rows.flowChecksSpec) false w args)
      (Rows.flowChecksSpec.post enc Tryd.prog Tryd.f3 false true false false) := by
  refine returnsInHanded_of_change_and (C := Tryd.checked) (X := fun w _ => laidMetH Tryd.prog laid2 w) (fun _ _ _ hh h => h.of_heap hh) own started (by kernel_rfl) Tryd.func3
    (ChangeSpec.witness_shaped (enc := enc) (C := Tryd.checked) (os := os) (X := fun w _ => laidMetH Tryd.prog laid2 w) false (World.doorLaid Tryd.prog 4000 os) #[.agg #[.int .u8 0, .slice none 0 0, .slice none 0 0, .slice none 0 0, .slice none 0 0, .slice none 0 0, .slice none 0 0], .slice none 0 0, .int .u8 0] 8 rfl (World.shaped_of_RefB (by kernel_rfl) (by kernel_rfl)) (by kernel_rfl) (by kernel_rfl) (by kernel_rfl) (door_met os _)) ?_
  intro W base args ds gs before hval0 hW _ _ hL _
  have hval : ∀ (j : Nat) t v, Tryd.f3.params[j]? = some t → args[j]? = some v → Value.okWide Tryd.prog W .any base t v := hval0
  have hG := of_laid hL
  have hW' := hW
  obtain ⟨p, q, hA0, hV, rfl, hfz, hnd⟩ := hW'
  have hA : DataW.TrodAll enc Tryd.prog W 0 (fun _ => true) true Tryd.f3.params.toList args.toList ds p := hA0
  rw [Tryd.params3] at hA hval
  obtain ⟨v0, v1, v2, d0, d1, d2, p0, p1, p2, rfl, rfl, rfl, h0, h1, h2⟩ := trodAll_three hA
  obtain ⟨rfl, rfl⟩ := trodVars_none hV
  obtain ⟨l0, s0⟩ := rawF_arg Tryd.underlying25 cRaw uByte cByte uBs cBs Tryd.underlying23 cPs uArr cArr (hval 0 25 v0 rfl rfl) h0
  obtain ⟨l1, s1⟩ := spoils_arg Tryd.underlying26 Tryd.underlying36 cX uByte cByte uInt cInt uStr cStr (hval 1 26 v1 rfl rfl) h1
  obtain ⟨l2, rfl⟩ := u8_arg Tryd.underlying5 (hval 2 5 v2 rfl rfl) h2
  exact calls_post hW rfl rfl (by kernel_rfl) uBool laidOut (by kernel_rfl) (lfchk_ok (ι := ids) is_lfchk lchkC l0 v0 v1 l1 l2 W.heap hG s0 s1)
theorem flowChecks_holds : Rows.FlowChecksSaid :=
  OpenClaim.holds_of_wide 3 Tryd.f3 rfl rfl rfl rfl rfl rfl rfl ⟨rfl, rfl, rfl, rfl, rfl⟩ rfl rfl rfl rfl rfl (by kernel_rfl) Tryd.func3 (by kernel_rfl)
    (of_decide_eq_true (by kernel_rfl)) (by unfold Func.isWrapper; first | (rw [if_pos (by decide +kernel)]; kernel_rfl) | (rw [if_neg (by decide +kernel)]; exact ⟨rfl, rfl⟩))
    (fun os started H enc _ => lifted os started H enc)
theorem flowChecks_card : Rows.FlowChecksCardSaid :=
  Claim7.holds_tied_plain_at .later [] [.data] true (true, "5f276942d0f977dc47afd9750da3181d8ff886e90244680afef4779e5a77fa67") false
    flowChecks_holds (fun _ h => by cases h) (by kernel_rfl) (fun _ h => by cases h) flowChecks_row_tie rfl ⟨rfl, rfl⟩ (by kernel_rfl) rfl
    (fun f fn hf hfn => by
      obtain rfl : f = 3 := Option.some.inj ((show Tryd.prog.funcNamed "arbac/arbaclaw40.FlowChecks" = some 3 by kernel_rfl).symm.trans hf) |>.symm
      obtain rfl : fn = Tryd.f3 := (Option.some.inj (Tryd.func3.symm.trans hfn)).symm
      exact ⟨by kernel_rfl, fun j t ht => by
        rw [Tryd.params3] at ht
        have hm : t ∈ [25, 26, 5] := by simpa using Array.mem_of_getElem? ht
        have hall : ([25, 26, 5].all fun u => !Tryd.prog.wantsStandIn u) = true := by kernel_rfl
        exact (show Tryd.prog.wantsStandIn t = false by simpa using List.all_eq_true.1 hall t hm)⟩)
    (by kernel_rfl)
end Go.Proofs.YtjiacmbjgccfcaaDoor

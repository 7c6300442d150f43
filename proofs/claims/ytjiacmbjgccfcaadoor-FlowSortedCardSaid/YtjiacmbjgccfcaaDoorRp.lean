/- The law FlowSorted answers true at every input, and its input reads as it did. -/
import Derived.Test.YtjiacmbjgccfcaaDoorMgFSeat
import Derived.Test.YtjiacmbjgccfcaaDoorMgVM
namespace Go.Proofs.YtjiacmbjgccfcaaDoor
open Go.ChangeShapes Go.WideShapes Go.ChangeAt Go.WideElems Go.RowKit Go.Mg
set_option maxRecDepth 100000
theorem is_lfsrt : FnIs Tryd.prog 7 (c_lfsrt ids) r_lfsrt 2 := FnIs.mk' Tryd.func7 mix (by kernel_rfl) (by kernel_rfl) (by kernel_rfl)
theorem is_slidx : FnIs Tryd.prog 65 (c_slidx ids) r_slidx 2 := FnIs.mk' Tryd.func65 mix (by kernel_rfl) (by kernel_rfl) (by kernel_rfl)
theorem is_slcon : FnIs Tryd.prog 28 (c_slcon ids) r_slcon 2 := FnIs.mk' Tryd.func28 mix (by kernel_rfl) (by kernel_rfl) (by kernel_rfl)
theorem lsrtC : LSC Tryd.prog ids := ⟨fawk', lmakf', lroles', ford', frdy', sleq', slcon_ok (ι := ids) is_slcon (slidx_ok is_slidx), onew', oabove', osorted', bof', bwith', bhas', bwithin'⟩
theorem lifted (os : Os) (started : os.Started) (H : Type) (enc : TypeId × Value → H) :
    ReturnsInHanded {} Tryd.checked os 7 .any (fun w args => (Rows.flowSortedSpec.pre enc Tryd.prog Tryd.f7 [] false w args ∧ laidMetH Tryd.prog laid2 w) ∧ sizedMet enc Tryd.prog Tryd.f7 (OpenSpec.ofChange Rows.flowSortedSpec) false w args)
      (Rows.flowSortedSpec.post enc Tryd.prog Tryd.f7 false true false false) := by
  refine returnsInHanded_of_change_and (C := Tryd.checked) (X := fun w _ => laidMetH Tryd.prog laid2 w) (fun _ _ _ hh h => h.of_heap hh) own started (by kernel_rfl) Tryd.func7
    (ChangeSpec.witness_shaped (enc := enc) (C := Tryd.checked) (os := os) (X := fun w _ => laidMetH Tryd.prog laid2 w) false (World.doorLaid Tryd.prog 4000 os) #[.agg #[.int .u8 0, .slice none 0 0, .slice none 0 0, .slice none 0 0, .slice none 0 0, .slice none 0 0, .slice none 0 0], .int .u8 0] 8 rfl (World.shaped_of_RefB (by kernel_rfl) (by kernel_rfl)) (by kernel_rfl) (by kernel_rfl) (by kernel_rfl) (door_met os _)) ?_
  intro W base args ds gs before hval0 hW _ _ hL _
  have hval : ∀ (j : Nat) t v, Tryd.f7.params[j]? = some t → args[j]? = some v → Value.okWide Tryd.prog W .any base t v := hval0
  have hG := of_laid hL
  have hW' := hW
  obtain ⟨p, q, hA0, hV, rfl, hfz, hnd⟩ := hW'
  have hA : DataW.TrodAll enc Tryd.prog W 0 (fun _ => true) true Tryd.f7.params.toList args.toList ds p := hA0
  rw [Tryd.params7] at hA hval
  obtain ⟨v0, v1, d0, d1, p0, p1, rfl, rfl, rfl, h0, h1⟩ := trodAll_two hA
  obtain ⟨rfl, rfl⟩ := trodVars_none hV
  obtain ⟨l0, s0⟩ := rawF_arg Tryd.underlying25 cRaw uByte cByte uBs cBs Tryd.underlying23 cPs uArr cArr (hval 0 25 v0 rfl rfl) h0
  obtain ⟨l1, rfl⟩ := u8_arg Tryd.underlying5 (hval 1 5 v1 rfl rfl) h1
  exact calls_post hW rfl rfl (by kernel_rfl) uBool laidOut (by kernel_rfl) (lfsrt_ok (ι := ids) is_lfsrt lsrtC l0 v0 l1 W.heap hG s0)
theorem flowSorted_holds : Rows.FlowSortedSaid :=
  OpenClaim.holds_of_wide 7 Tryd.f7 rfl rfl rfl rfl rfl rfl rfl ⟨rfl, rfl, rfl, rfl, rfl⟩ rfl rfl rfl rfl rfl (by kernel_rfl) Tryd.func7 (by kernel_rfl)
    (of_decide_eq_true (by kernel_rfl)) (by unfold Func.isWrapper; first | (rw [if_pos (by decide +kernel)]; kernel_rfl) | (rw [if_neg (by decide +kernel)]; exact ⟨rfl, rfl⟩))
    (fun os started H enc _ => lifted os started H enc)
theorem flowSorted_card : Rows.FlowSortedCardSaid :=
  Claim7.holds_tied_plain_at .later [] [.data] true (true, "5f276942d0f977dc47afd9750da3181d8ff886e90244680afef4779e5a77fa67") false
    flowSorted_holds (fun _ h => by cases h) (by kernel_rfl) (fun _ h => by cases h) flowSorted_row_tie rfl ⟨rfl, rfl⟩ (by kernel_rfl) rfl
    (fun f fn hf hfn => by
      obtain rfl : f = 7 := Option.some.inj ((show Tryd.prog.funcNamed "arbac/arbaclaw40.FlowSorted" = some 7 by kernel_rfl).symm.trans hf) |>.symm
      obtain rfl : fn = Tryd.f7 := (Option.some.inj (Tryd.func7.symm.trans hfn)).symm
      exact ⟨by kernel_rfl, fun j t ht => by
        rw [Tryd.params7] at ht
        have hm : t ∈ [25, 5] := by simpa using Array.mem_of_getElem? ht
        have hall : ([25, 5].all fun u => !Tryd.prog.wantsStandIn u) = true := by kernel_rfl
        exact (show Tryd.prog.wantsStandIn t = false by simpa using List.all_eq_true.1 hall t hm)⟩)
    (by kernel_rfl)
end Go.Proofs.YtjiacmbjgccfcaaDoor

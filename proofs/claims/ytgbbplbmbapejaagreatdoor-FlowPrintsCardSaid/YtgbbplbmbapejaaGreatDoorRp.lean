/- The law FlowPrints answers true at every input, and its input reads as it did. -/
import Derived.Test.YtgbbplbmbapejaaGreatDoorMgYSeat
set_option linter.all false
namespace Go.Proofs.YtgbbplbmbapejaaGreatDoor
open Go.ChangeShapes Go.WideShapes Go.ChangeAt Go.WideElems Go.RowKit Go.Mg
set_option maxRecDepth 100000
theorem is_lfprn : FnIs Tryz.prog 3 (c_lfprn ids) r_lfprn 2 := FnIs.mk' Tryz.func3 mix (by kernel_rfl) (by kernel_rfl) (by kernel_rfl)
theorem lifted (os : Os) (started : os.Started) (H : Type) (enc : TypeId × Value -> H) :
  ReturnsInHanded {} Tryz.checked os 3 .any (fun w args => (Rows.flowPrintsSpec.pre enc Tryz.prog Tryz.f3 [] false w args /\ laidMetH Tryz.prog laid2 w) /\ sizedMet enc Tryz.prog Tryz.f3 (OpenSpec.ofChange Rows.flowPrintsSpec) false w args)
   (Rows.flowPrintsSpec.post enc Tryz.prog Tryz.f3 false true false false) := by
 refine returnsInHanded_of_change_and (C := Tryz.checked) (X := fun w _ => laidMetH Tryz.prog laid2 w) (fun _ _ _ hh h => h.of_heap hh) own started (by kernel_rfl) Tryz.func3
  (ChangeSpec.witness_shaped (enc := enc) (C := Tryz.checked) (os := os) (X := fun w _ => laidMetH Tryz.prog laid2 w) false (World.doorLaid Tryz.prog 4000 os) #[.agg #[.int .u8 0, .slice none 0 0, .slice none 0 0, .slice none 0 0, .slice none 0 0, .slice none 0 0, .slice none 0 0], .int .u8 0] 8 rfl (World.shaped_of_RefB (by kernel_rfl) (by kernel_rfl)) (by kernel_rfl) (by kernel_rfl) (by kernel_rfl) (door_met os _)) ?_
 intro W base args ds gs before hval0 hW _ _ hL _
 have hval : ∀ (j : Nat) t v, Tryz.f3.params[j]? = some t -> args[j]? = some v -> Value.okWide Tryz.prog W .any base t v := hval0
 have hG := of_laid hL
 have hW' := hW
 obtain ⟨p, q, hA0, hV, rfl, hfz, hnd⟩ := hW'
 have hA : DataW.TrodAll enc Tryz.prog W 0 (fun _ => true) true Tryz.f3.params.toList args.toList ds p := hA0
 rw [Tryz.params3] at hA hval
 obtain ⟨v0, v1, d0, d1, p0, p1, rfl, rfl, rfl, h0, h1⟩ := trodAll_two hA
 obtain ⟨rfl, rfl⟩ := trodVars_none hV
 obtain ⟨l0, s0⟩ := rawF_arg Tryz.underlying25 cRaw uByte cByte uBs cBs Tryz.underlying23 cPs uArr cArr (hval 0 25 v0 rfl rfl) h0
 obtain ⟨l1, rfl⟩ := u8_arg Tryz.underlying5 (hval 1 5 v1 rfl rfl) h1
 exact calls_post hW rfl rfl (by kernel_rfl) uBool laidOut (by kernel_rfl) (lfprn_ok (ι := ids) is_lfprn ⟨fawk', lmakf', nof', fprn', rprn'⟩ l0 l1 v0 W.heap hG s0)
theorem flowPrints_holds : Rows.FlowPrintsSaid :=
 OpenClaim.holds_of_wide 3 Tryz.f3 rfl rfl rfl rfl rfl rfl rfl ⟨rfl, rfl, rfl, rfl, rfl⟩ rfl rfl rfl rfl rfl (by kernel_rfl) Tryz.func3 (by kernel_rfl)
  (of_decide_eq_true (by kernel_rfl)) (by unfold Func.isWrapper; first | (rw [if_pos (by decide +kernel)]; kernel_rfl) | (rw [if_neg (by decide +kernel)]; exact ⟨rfl, rfl⟩))
  (fun os started H enc _ => lifted os started H enc)
theorem flowPrints_card : Rows.FlowPrintsCardSaid :=
 Claim7.holds_tied_plain_at .later [] [.data, .data, .data] true (true, "bad3e5864678d8735283572cfa0971ef0f00edd6f4c58478a4cb31ce33714054") true
  flowPrints_holds (fun _ h => by cases h) (by kernel_rfl) (fun _ h => by cases h) flowPrints_row_tie rfl ⟨rfl, rfl⟩ (by kernel_rfl) rfl
  (fun f fn hf hfn => by
   obtain rfl : f = 3 := Option.some.inj ((show Tryz.prog.funcNamed "arbac/arbaclaw40.FlowPrints" = some 3 by kernel_rfl).symm.trans hf) |>.symm
   obtain rfl : fn = Tryz.f3 := (Option.some.inj (Tryz.func3.symm.trans hfn)).symm
   exact ⟨by kernel_rfl, fun j t ht => by
    rw [Tryz.params3] at ht
    have hm : t ∈ [25, 5] := by simpa using Array.mem_of_getElem? ht
    have hall : ([25, 5].all fun u => !Tryz.prog.wantsStandIn u) = true := by kernel_rfl
    exact (show Tryz.prog.wantsStandIn t = false by simpa using List.all_eq_true.1 hall t hm)⟩)
  (by kernel_rfl)
end Go.Proofs.YtgbbplbmbapejaaGreatDoor

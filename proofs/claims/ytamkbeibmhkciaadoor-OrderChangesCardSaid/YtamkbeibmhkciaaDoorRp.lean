/- The law OrderChanges answers true at every input, and its input reads as it did. -/
import Derived.Test.YtamkbeibmhkciaaDoorMgOSeat
import Derived.Test.YtamkbeibmhkciaaDoorMgT9
namespace Go.Proofs.YtamkbeibmhkciaaDoor
open Go.ChangeShapes Go.WideShapes Go.ChangeAt Go.WideElems Go.RowKit Go.Mg
set_option maxRecDepth 100000
theorem is_lchg : FnIs Tryd.prog 11 (c_lchg ids) r_lchg 2 := FnIs.mk' Tryd.func11 mix (by kernel_rfl) (by kernel_rfl) (by kernel_rfl)
theorem is_rwith2 : FnIs Tryd.prog 46 (c_rwith2 ids) r_rwith2 3 := FnIs.mk' Tryd.func46 mix (by kernel_rfl) (by kernel_rfl) (by kernel_rfl)
theorem is_rwout2 : FnIs Tryd.prog 47 (c_rwout2 ids) r_rwout2 3 := FnIs.mk' Tryd.func47 mix (by kernel_rfl) (by kernel_rfl) (by kernel_rfl)
theorem rwith2' : RWith2Spec Tryd.prog 46 := rwith2_ok (ι := ids) is_rwith2 rgiv' rnew'
theorem rwout2' : RWout2Spec Tryd.prog 47 := rwout2_ok (ι := ids) is_rwout2 rgiv'
theorem uArr8 : Tryd.prog.underlying 69 = some (.array 2 68) := by kernel_rfl
theorem uI8 : Tryd.prog.underlying 68 = some (.int .i8) := by kernel_rfl
theorem cI8 : Tryd.prog.cellsOf 68 = 1 := by kernel_rfl
theorem cArr8 : Tryd.prog.cellsOf 69 = 2 := by kernel_rfl
theorem lifted (os : Os) (started : os.Started) (H : Type) (enc : TypeId × Value → H) :
    ReturnsInHanded {} Tryd.checked os 11 .any (fun w args => (Rows.orderChangesSpec.pre enc Tryd.prog Tryd.f11 [] false w args ∧ laidMetH Tryd.prog laid2 w) ∧ sizedMet enc Tryd.prog Tryd.f11 (OpenSpec.ofChange Rows.orderChangesSpec) false w args)
      (Rows.orderChangesSpec.post enc Tryd.prog Tryd.f11 false true false false) := by
  refine returnsInHanded_of_change_and (C := Tryd.checked) (X := fun w _ => laidMetH Tryd.prog laid2 w) (fun _ _ _ hh h => h.of_heap hh) own started (by kernel_rfl) Tryd.func11
    (ChangeSpec.witness_shaped (enc := enc) (C := Tryd.checked) (os := os) (X := fun w _ => laidMetH Tryd.prog laid2 w) false (World.doorLaid Tryd.prog 4000 os) #[.agg #[.int .u8 0, .int .u8 0, .int .u8 0, .slice none 0 0], .slice none 0 0] 8 rfl (World.shaped_of_RefB (by kernel_rfl) (by kernel_rfl)) (by kernel_rfl) (by kernel_rfl) (by kernel_rfl) (door_met os _)) ?_
  intro W base args ds gs before hval0 hW _ _ hL _
  have hval : ∀ (j : Nat) t v, Tryd.f11.params[j]? = some t → args[j]? = some v → Value.okWide Tryd.prog W .any base t v := hval0
  have hG := of_laid hL
  have hW' := hW
  obtain ⟨p, q, hA0, hV, rfl, hfz, hnd⟩ := hW'
  have hA : DataW.TrodAll enc Tryd.prog W 0 (fun _ => true) true Tryd.f11.params.toList args.toList ds p := hA0
  rw [Tryd.params11] at hA hval
  obtain ⟨v0, v1, d0, d1, p0, p1, rfl, rfl, rfl, h0, h1⟩ := trodAll_two hA
  obtain ⟨rfl, rfl⟩ := trodVars_none hV
  obtain ⟨l0, s0⟩ := raw_arg Tryd.underlying24 cRaw uByte cByte Tryd.underlying22 cSl uArr cArr (hval 0 24 v0 rfl rfl) h0
  obtain ⟨l1, w1, m1, s1⟩ := pairs_of_slice Tryd.underlying67 uArr8 uI8 cI8 cArr8 (hval 1 67 v1 rfl rfl) h1
  exact calls_post hW rfl rfl (by kernel_rfl) uBool laidOut (by kernel_rfl) (lchg_ok (ι := ids) is_lchg laws' ⟨owith', owithout', rwith2', rwout2'⟩ l0 v0 l1 v1 W.heap hG s0 s1 w1)

theorem orderChanges_holds : Rows.OrderChangesSaid :=
  OpenClaim.holds_of_wide 11 Tryd.f11 rfl rfl rfl rfl rfl rfl rfl ⟨rfl, rfl, rfl, rfl, rfl⟩ rfl rfl rfl rfl rfl (by kernel_rfl) Tryd.func11 (by kernel_rfl)
    (of_decide_eq_true (by kernel_rfl)) (by unfold Func.isWrapper; first | (rw [if_pos (by decide +kernel)]; kernel_rfl) | (rw [if_neg (by decide +kernel)]; exact ⟨rfl, rfl⟩))
    (fun os started H enc _ => lifted os started H enc)
theorem orderChanges_card : Rows.OrderChangesCardSaid :=
  Claim7.holds_tied_plain_at .later [] [.data, .data, .data] true (true, "1cad26131d09812f608804162ef29a1cffdd90f5dabb7f814bbe2c8dd352b9ac") false
    orderChanges_holds (fun _ h => by cases h) (by kernel_rfl) (fun _ h => by cases h) orderChanges_row_tie rfl ⟨rfl, rfl⟩ (by kernel_rfl) rfl
    (fun f fn hf hfn => by
      obtain rfl : f = 11 := Option.some.inj ((show Tryd.prog.funcNamed "arbac/arbaclaw06.OrderChanges" = some 11 by kernel_rfl).symm.trans hf) |>.symm
      obtain rfl : fn = Tryd.f11 := (Option.some.inj (Tryd.func11.symm.trans hfn)).symm
      exact ⟨by kernel_rfl, fun j t ht => by
        rw [Tryd.params11] at ht
        have hm : t ∈ [24, 67] := by simpa using Array.mem_of_getElem? ht
        have hall : ([24, 67].all fun u => !Tryd.prog.wantsStandIn u) = true := by kernel_rfl
        exact (show Tryd.prog.wantsStandIn t = false by simpa using List.all_eq_true.1 hall t hm)⟩)
    (by kernel_rfl)
end Go.Proofs.YtamkbeibmhkciaaDoor

/- The law NamesNil answers true at every input, and its input reads as it did: any string, any number. -/
import Derived.Test.YtpifmenfgbcneaaMgNSeat
namespace Go.Proofs.Ytpifmenfgbcneaa
open Go.ChangeShapes Go.WideShapes Go.ChangeAt Go.WideElems Go.RowKit Go.Mg
set_option maxRecDepth 100000
theorem is_lnnil : FnIs Try.prog 9 (c_lnnil ids) r_lnnil 2 := FnIs.mk' Try.func9 mix (by kernel_rfl) (by kernel_rfl) (by kernel_rfl)
theorem lifted (os : Os) (started : os.Started) (H : Type) (enc : TypeId × Value → H) :
    ReturnsInHanded {} Try.checked os 9 .any (Rows.namesNilSpec.pre6 enc Try.prog Try.f9 Rows.namesNilRow.domain false) (Rows.namesNilSpec.post enc Try.prog Try.f9 false true false false) := by
  refine returnsInHanded_of_change (C := Try.checked) own started (by kernel_rfl) Try.func9
    (ChangeSpec.witness6 (enc := enc) (C := Try.checked) false ⟨#[], #[.string ByteArray.empty, .int .i64 0], []⟩ 8 (by kernel_rfl) (by kernel_rfl) (by kernel_rfl) (by kernel_rfl)) ?_
  intro W base args ds gs before hval0 hW _ _
  have hval : ∀ (j : Nat) t v, Try.f9.params[j]? = some t → args[j]? = some v → Value.okWide Try.prog W .any base t v := hval0
  have hW' := hW
  obtain ⟨p, q, hA0, hV, rfl, hfz, hnd⟩ := hW'
  have hA : DataW.TrodAll enc Try.prog W 0 (fun _ => true) true Try.f9.params.toList args.toList ds p := hA0
  rw [Try.params9] at hA hval
  obtain ⟨v0, v1, d0, d1, p0, p1, rfl, rfl, rfl, h0, h1⟩ := trodAll_two hA
  obtain ⟨rfl, rfl⟩ := trodVars_none hV
  obtain ⟨l0, rfl, m0⟩ := string_of Try.underlying9 (hval 0 9 v0 rfl rfl) h0
  obtain ⟨l1, rfl, m1, n1⟩ := int_arg Try.underlying3 (hval 1 3 v1 rfl rfl) h1
  exact calls_post hW rfl rfl (by kernel_rfl) uBool laidOut (by kernel_rfl) (lnnil_ok is_lnnil nawake' naddNil' nnumber' nname' nlen' nnames' nequal' nnew' nbytesNil' l0 l1 W.heap)

theorem namesNil_holds : Rows.NamesNilSaid :=
  OpenClaim.holds_of_wide 9 Try.f9 rfl rfl rfl rfl rfl rfl rfl ⟨rfl, rfl, rfl, rfl, rfl⟩ rfl rfl rfl rfl rfl (by kernel_rfl) Try.func9 (by kernel_rfl)
    (of_decide_eq_true (by kernel_rfl)) (by unfold Func.isWrapper; first | (rw [if_pos (by decide +kernel)]; kernel_rfl) | (rw [if_neg (by decide +kernel)]; exact ⟨rfl, rfl⟩))
    (fun os started H enc _ => lifted os started H enc)
end Go.Proofs.Ytpifmenfgbcneaa

/- More of this seat: the functions that the laws about wide graphs use. No conditions. -/
import Derived.Test.YtihlnbepcimnfaaDoorMgMSeat
import Derived.Test.YtihlnbepcimnfaaDoorMgM21
import Derived.Test.YtihlnbepcimnfaaDoorMgOpen2
namespace Go.Proofs.YtihlnbepcimnfaaDoor
open Go.ChangeShapes Go.WideShapes Go.ChangeAt Go.WideElems Go.RowKit Go.Mg
set_option maxRecDepth 100000
theorem is_cnan : FnIs Tryd.prog 68 (c_cnan ids) r_cnan 1 := FnIs.mk' Tryd.func68 mix (by kernel_rfl) (by kernel_rfl) (by kernel_rfl)
theorem is_cless : FnIs Tryd.prog 53 (c_cless ids) r_cless 2 := FnIs.mk' Tryd.func53 mix (by kernel_rfl) (by kernel_rfl) (by kernel_rfl)
theorem is_ccmp : FnIs Tryd.prog 56 (c_ccmp ids) r_ccmp 2 := FnIs.mk' Tryd.func56 mix (by kernel_rfl) (by kernel_rfl) (by kernel_rfl)
theorem is_issort : FnIs Tryd.prog 34 (c_issort ids) r_issort 1 := FnIs.mk' Tryd.func34 mix (by kernel_rfl) (by kernel_rfl) (by kernel_rfl)
theorem is_slcmp : FnIs Tryd.prog 39 (c_slcmp ids) r_slcmp 2 := FnIs.mk' Tryd.func39 mix (by kernel_rfl) (by kernel_rfl) (by kernel_rfl)
theorem is_wmake : FnIs Tryd.prog 26 (c_wmake ids) r_wmake 1 := FnIs.mk' Tryd.func26 mix (by kernel_rfl) (by kernel_rfl) (by kernel_rfl)
theorem is_lneigh : FnIs Tryd.prog 37 (c_lneigh ids) r_lneigh 2 := FnIs.mk' Tryd.func37 mix (by kernel_rfl) (by kernel_rfl) (by kernel_rfl)
theorem is_gclone : FnIs Tryd.prog 27 (c_gclone ids) r_gclone 1 := FnIs.mk' Tryd.func27 mix (by kernel_rfl) (by kernel_rfl) (by kernel_rfl)
theorem cless' : LessSpec Tryd.prog 53 := cless_ok (ι := ids) is_cless (cnan_ok is_cnan)
theorem ccmp' : CmpSpec Tryd.prog 56 := ccmp_ok (ι := ids) is_ccmp (cnan_ok is_cnan)
theorem issort' : SortSpec Tryd.prog 34 := issort_ok (ι := ids) is_issort cless'
theorem slcmp' : LexSpec Tryd.prog 39 := slcmp_ok (ι := ids) is_slcmp ccmp'
theorem wmake' : WMakeSpec Tryd.prog 26 := wmake_ok (ι := ids) is_wmake bof'
theorem lneigh' : NeighSpec Tryd.prog 37 := lneigh_ok (ι := ids) is_lneigh bof' bor'
theorem gclone' : GClnSpec Tryd.prog 27 := gclone_ok is_gclone
theorem wide' : MWide Tryd.prog ids := ⟨mawake', wmake', mmax', msize', mdef', mleast', mcov', mchk', matched', slcmp', slcon', issort', lneigh', blen', bof', blist', bequal', bwithin', bwith', sleq', gclone'⟩
theorem uArr3 : Tryd.prog.underlying 90 = some (.array 3 5) := by kernel_rfl
theorem cArr3 : Tryd.prog.cellsOf 90 = 3 := by kernel_rfl
end Go.Proofs.YtihlnbepcimnfaaDoor

/- The functions of this seat that the laws about names use, and what they compute. No conditions. -/
import Derived.Test.YtpifmenfgbcneaaRows
import Derived.Test.YtpifmenfgbcneaaMgN12
import Derived.Test.YtpifmenfgbcneaaMgOpen
import Derived.ProofKit
namespace Go.Proofs.Ytpifmenfgbcneaa
open Go.ChangeShapes Go.WideShapes Go.ChangeAt Go.WideElems Go.RowKit Go.Mg
set_option maxRecDepth 100000
def ids : Ids := ⟨fun n => ([0, 0, 0, 0, 0, 0, 0, 0, 0, 0, 0, 0, 0, 0, 0, 0, 0, 0, 0, 0, 0, 0, 0, 0, 0, 0, 0, 0, 0, 0, 0, 0, 0, 0, 0, 0, 0, 0, 0, 0, 0, 0, 0, 0, 0, 0, 0, 0, 0, 0, 0, 55, 62, 53, 0, 40, 52, 41, 54, 42, 43, 48, 49, 0, 0, 0, 0, 0, 16, 18, 50, 34, 35, 36, 0, 14, 15, 13, 37, 51, 0, 38, 0, 19, 22, 23, 24, 27, 28, 0, 31, 12, 3, 17, 39, 30, 29, 21, 20, 9, 5, 25, 26, 6, 7, 8, 4, 0, 44, 56, 57, 58, 59, 45, 60, 46, 61, 47, 63, 32, 33, 10, 11, 0] : List Nat).getD n 0, fun n => ([0, 0, 0, 0, 0, 0, 0, 0, 0, 0, 0, 0, 0, 0, 0, 0, 0, 0, 0, 5, 0, 0, 0, 0, 0, 0, 3, 0, 66, 0, 0, 0, 0, 0, 0, 0, 0, 0, 0, 0, 0, 0, 0, 0, 0, 0, 0, 0, 0, 0, 0, 0, 0, 0, 77, 0, 0, 0, 0, 0, 0, 0, 0, 0, 0, 30, 0, 9, 0, 0, 0, 0, 0, 0, 29, 0, 0, 0, 0, 0, 58, 0, 60, 0, 0, 0, 0, 0, 0, 0, 0, 0, 0, 0, 0, 0, 0, 0, 0, 0, 0, 0, 0, 0, 0, 0, 0, 80, 0, 0, 0, 0, 0, 0, 0, 0, 0, 0, 0, 0, 0, 0, 0, 0] : List Nat).getD n 0, fun n => ([0, 0, 0, 0, 0, 0, 0, 0, 0, 0, 0, 0, 0, 0, 0, 0, 0, 0, 0, 0, 0, 0, 0, 0, 0, 0, 0, 0, 0, 0, 0, 0, 0, 0, 0, 0, 0, 0, 0, 0, 0, 0, 0, 0, 0, 0, 0, 0, 0, 0, 0, 0, 0, 0, 0, 0, 0, 0, 0, 0, 0, 0, 0, 0, 0, 0, 0, 0, 0, 0, 0, 0, 0, 0, 0, 0, 0, 0, 0, 0, 0, 0, 0, 0, 0, 0, 0, 0, 0, 0, 0, 0, 0, 0, 0, 0, 0, 0, 0, 0, 0, 0, 0, 0, 0, 0, 0, 0, 0, 0, 0, 0, 0, 0, 0, 0, 0, 0, 0, 0, 0, 0, 0, 0] : List Nat).getD n 0⟩
theorem mix : Try.prog.follows .mixedOrders = true := by kernel_rfl
theorem own : ownKnob Try.prog.godebug = none := by kernel_rfl
theorem laidOut : laidOutB Try.prog = true := by kernel_rfl
theorem cByte : Try.prog.cellsOf 5 = 1 := by kernel_rfl
theorem uByte : Try.prog.underlying 5 = some (.int .u8) := by kernel_rfl
theorem uBool : Try.prog.underlying 4 = some .bool := by kernel_rfl
theorem is_nkw : FnIs Try.prog 16 (c_nkw ids) r_nkw 0 := FnIs.mk' Try.func16 mix (by kernel_rfl) (by kernel_rfl) (by kernel_rfl)
theorem is_rkw : FnIs Try.prog 18 (c_rkw ids) r_rkw 0 := FnIs.mk' Try.func18 mix (by kernel_rfl) (by kernel_rfl) (by kernel_rfl)
theorem is_sidx : FnIs Try.prog 50 (c_sidx ids) r_sidx 2 := FnIs.mk' Try.func50 mix (by kernel_rfl) (by kernel_rfl) (by kernel_rfl)
theorem is_scont : FnIs Try.prog 34 (c_scont ids) r_scont 2 := FnIs.mk' Try.func34 mix (by kernel_rfl) (by kernel_rfl) (by kernel_rfl)
theorem is_nletter : FnIs Try.prog 35 (c_nletter ids) r_nletter 1 := FnIs.mk' Try.func35 mix (by kernel_rfl) (by kernel_rfl) (by kernel_rfl)
theorem is_ninner : FnIs Try.prog 36 (c_ninner ids) r_ninner 2 := FnIs.mk' Try.func36 mix (by kernel_rfl) (by kernel_rfl) (by kernel_rfl)
theorem is_nvalid : FnIs Try.prog 14 (c_nvalid ids) r_nvalid 1 := FnIs.mk' Try.func14 mix (by kernel_rfl) (by kernel_rfl) (by kernel_rfl)
theorem is_rvalid : FnIs Try.prog 15 (c_rvalid ids) r_rvalid 1 := FnIs.mk' Try.func15 mix (by kernel_rfl) (by kernel_rfl) (by kernel_rfl)
theorem is_rword : FnIs Try.prog 13 (c_rword ids) r_rword 1 := FnIs.mk' Try.func13 mix (by kernel_rfl) (by kernel_rfl) (by kernel_rfl)
theorem is_sclone : FnIs Try.prog 37 (c_sclone ids) r_sclone 1 := FnIs.mk' Try.func37 mix (by kernel_rfl) (by kernel_rfl) (by kernel_rfl)
theorem is_mclone : FnIs Try.prog 38 (c_mclone ids) r_mclone 1 := FnIs.mk' Try.func38 mix (by kernel_rfl) (by kernel_rfl) (by kernel_rfl)
theorem is_nnew : FnIs Try.prog 19 (c_nnew ids) r_nnew 0 := FnIs.mk' Try.func19 mix (by kernel_rfl) (by kernel_rfl) (by kernel_rfl)
theorem is_nadd : FnIs Try.prog 22 (c_nadd ids) r_nadd 3 := FnIs.mk' Try.func22 mix (by kernel_rfl) (by kernel_rfl) (by kernel_rfl)
theorem is_clone : FnIs Try.prog 55 (c_clone ids) r_clone 1 := FnIs.mk' Try.func55 mix (by kernel_rfl) (by kernel_rfl) (by kernel_rfl)
theorem is_reverse : FnIs Try.prog 62 (c_reverse ids) r_reverse 1 := FnIs.mk' Try.func62 mix (by kernel_rfl) (by kernel_rfl) (by kernel_rfl)
theorem is_groups : FnIs Try.prog 53 (c_groups ids) r_groups 1 := FnIs.mk' Try.func53 mix (by kernel_rfl) (by kernel_rfl) (by kernel_rfl)
theorem is_wnew : FnIs Try.prog 40 (c_wnew ids) r_wnew 0 := FnIs.mk' Try.func40 mix (by kernel_rfl) (by kernel_rfl) (by kernel_rfl)
theorem is_wraw : FnIs Try.prog 52 (c_wraw ids) r_wraw 2 := FnIs.mk' Try.func52 mix (by kernel_rfl) (by kernel_rfl) (by kernel_rfl)
theorem is_wuint : FnIs Try.prog 41 (c_wuint ids) r_wuint 2 := FnIs.mk' Try.func41 mix (by kernel_rfl) (by kernel_rfl) (by kernel_rfl)
theorem is_wbytes : FnIs Try.prog 54 (c_wbytes ids) r_wbytes 2 := FnIs.mk' Try.func54 mix (by kernel_rfl) (by kernel_rfl) (by kernel_rfl)
theorem is_wstring : FnIs Try.prog 42 (c_wstring ids) r_wstring 2 := FnIs.mk' Try.func42 mix (by kernel_rfl) (by kernel_rfl) (by kernel_rfl)
theorem is_wout : FnIs Try.prog 43 (c_wout ids) r_wout 1 := FnIs.mk' Try.func43 mix (by kernel_rfl) (by kernel_rfl) (by kernel_rfl)
theorem is_nbytes : FnIs Try.prog 31 (c_nbytes ids) r_nbytes 1 := FnIs.mk' Try.func31 mix (by kernel_rfl) (by kernel_rfl) (by kernel_rfl)
theorem is_nawake : FnIs Try.prog 12 (c_nawake ids) r_nawake 0 := FnIs.mk' Try.func12 mix (by kernel_rfl) (by kernel_rfl) (by kernel_rfl)
theorem is_nsame : FnIs Try.prog 17 (c_nsame ids) r_nsame 2 := FnIs.mk' Try.func17 mix (by kernel_rfl) (by kernel_rfl) (by kernel_rfl)
theorem is_sequal : FnIs Try.prog 39 (c_sequal ids) r_sequal 2 := FnIs.mk' Try.func39 mix (by kernel_rfl) (by kernel_rfl) (by kernel_rfl)
theorem is_nlen : FnIs Try.prog 23 (c_nlen ids) r_nlen 1 := FnIs.mk' Try.func23 mix (by kernel_rfl) (by kernel_rfl) (by kernel_rfl)
theorem is_nnames : FnIs Try.prog 24 (c_nnames ids) r_nnames 1 := FnIs.mk' Try.func24 mix (by kernel_rfl) (by kernel_rfl) (by kernel_rfl)
theorem is_nnumber : FnIs Try.prog 27 (c_nnumber ids) r_nnumber 2 := FnIs.mk' Try.func27 mix (by kernel_rfl) (by kernel_rfl) (by kernel_rfl)
theorem is_nname : FnIs Try.prog 28 (c_nname ids) r_nname 2 := FnIs.mk' Try.func28 mix (by kernel_rfl) (by kernel_rfl) (by kernel_rfl)
theorem is_nequal : FnIs Try.prog 30 (c_nequal ids) r_nequal 2 := FnIs.mk' Try.func30 mix (by kernel_rfl) (by kernel_rfl) (by kernel_rfl)
theorem is_rnumber : FnIs Try.prog 29 (c_rnumber ids) r_rnumber 2 := FnIs.mk' Try.func29 mix (by kernel_rfl) (by kernel_rfl) (by kernel_rfl)
theorem is_rcheck : FnIs Try.prog 21 (c_rcheck ids) r_rcheck 3 := FnIs.mk' Try.func21 mix (by kernel_rfl) (by kernel_rfl) (by kernel_rfl)
theorem is_nof : FnIs Try.prog 25 (c_nof ids) r_nof 2 := FnIs.mk' Try.func25 mix (by kernel_rfl) (by kernel_rfl) (by kernel_rfl)
theorem is_rof : FnIs Try.prog 26 (c_rof ids) r_rof 2 := FnIs.mk' Try.func26 mix (by kernel_rfl) (by kernel_rfl) (by kernel_rfl)
theorem is_nwords : FnIs Try.prog 20 (c_nwords ids) r_nwords 1 := FnIs.mk' Try.func20 mix (by kernel_rfl) (by kernel_rfl) (by kernel_rfl)
theorem is_rnewr : FnIs Try.prog 44 (c_rnewr ids) r_rnewr 1 := FnIs.mk' Try.func44 mix (by kernel_rfl) (by kernel_rfl) (by kernel_rfl)
theorem is_rcount : FnIs Try.prog 45 (c_rcount ids) r_rcount 2 := FnIs.mk' Try.func45 mix (by kernel_rfl) (by kernel_rfl) (by kernel_rfl)
theorem is_rstring : FnIs Try.prog 46 (c_rstring ids) r_rstring 2 := FnIs.mk' Try.func46 mix (by kernel_rfl) (by kernel_rfl) (by kernel_rfl)
theorem is_rend : FnIs Try.prog 47 (c_rend ids) r_rend 1 := FnIs.mk' Try.func47 mix (by kernel_rfl) (by kernel_rfl) (by kernel_rfl)
theorem is_rok : FnIs Try.prog 56 (c_rok ids) r_rok 1 := FnIs.mk' Try.func56 mix (by kernel_rfl) (by kernel_rfl) (by kernel_rfl)
theorem is_rrefuse : FnIs Try.prog 57 (c_rrefuse ids) r_rrefuse 3 := FnIs.mk' Try.func57 mix (by kernel_rfl) (by kernel_rfl) (by kernel_rfl)
theorem is_rnumb : FnIs Try.prog 58 (c_rnumb ids) r_rnumb 1 := FnIs.mk' Try.func58 mix (by kernel_rfl) (by kernel_rfl) (by kernel_rfl)
theorem is_rtake : FnIs Try.prog 59 (c_rtake ids) r_rtake 2 := FnIs.mk' Try.func59 mix (by kernel_rfl) (by kernel_rfl) (by kernel_rfl)
theorem is_rbytes : FnIs Try.prog 60 (c_rbytes ids) r_rbytes 2 := FnIs.mk' Try.func60 mix (by kernel_rfl) (by kernel_rfl) (by kernel_rfl)
theorem is_rerr : FnIs Try.prog 61 (c_rerr ids) r_rerr 1 := FnIs.mk' Try.func61 mix (by kernel_rfl) (by kernel_rfl) (by kernel_rfl)
theorem is_rfail : FnIs Try.prog 63 (c_rfail ids) r_rfail 2 := FnIs.mk' Try.func63 mix (by kernel_rfl) (by kernel_rfl) (by kernel_rfl)
theorem is_rput : FnIs Try.prog 48 (c_rput ids) r_rput 1 := FnIs.mk' Try.func48 mix (by kernel_rfl) (by kernel_rfl) (by kernel_rfl)
theorem is_rputbytes : FnIs Try.prog 49 (c_rputbytes ids) r_rputbytes 1 := FnIs.mk' Try.func49 mix (by kernel_rfl) (by kernel_rfl) (by kernel_rfl)
theorem is_nread : FnIs Try.prog 32 (c_nread ids) r_nread 1 := FnIs.mk' Try.func32 mix (by kernel_rfl) (by kernel_rfl) (by kernel_rfl)
theorem is_rbytesl : FnIs Try.prog 33 (c_rbytesl ids) r_rbytesl 1 := FnIs.mk' Try.func33 mix (by kernel_rfl) (by kernel_rfl) (by kernel_rfl)
theorem libmclone : LibIs Try.prog 51 Extern.MapsClone.clone := ⟨_, Try.func51, by kernel_rfl, by kernel_rfl, by kernel_rfl, by kernel_rfl⟩
theorem nvalid' : ValidSpec Try.prog 14 := nvalid_ok (ι := ids) is_nvalid (nkw_ok is_nkw) (scont_ok (ι := ids) is_scont (sidx_ok is_sidx)) (nletter_ok is_nletter) (ninner_ok is_ninner (nletter_ok is_nletter))
theorem rvalid' : ValidSpec Try.prog 15 := rvalid_ok (ι := ids) is_rvalid (rkw_ok is_rkw)
theorem rword' : WordSpec Try.prog 13 := rword_ok is_rword
theorem sclone' : SCloneSpec Try.prog 37 := sclone_ok is_sclone
theorem nadd' : AddSpec Try.prog 22 := nadd_ok (ι := ids) is_nadd nvalid' sclone' (mclone_ok (ι := ids) is_mclone libmclone)
theorem nnew' : NNewSpec Try.prog 19 := nnew_ok is_nnew
theorem clone' : CloneSpec Try.prog 55 := clone_ok is_clone
theorem wraw' : WRawSpec Try.prog 52 := wraw_ok is_wraw
theorem wuint' : WUintSpec Try.prog 41 := wuint_ok (ι := ids) is_wuint (groups_ok (ι := ids) is_groups (reverse_ok is_reverse)) wraw'
theorem wbytes' : WBytesSpec Try.prog 54 := wbytes_ok (ι := ids) is_wbytes wuint' wraw'
theorem wstring' : WStringSpec Try.prog 42 := wstring_ok (ι := ids) is_wstring wbytes'
theorem nbytes' : NBytesSpec Try.prog 31 := nbytes_ok (ι := ids) is_nbytes (wnew_ok is_wnew) wuint' wstring' (wout_ok (ι := ids) is_wout clone')
theorem nawake' : NAwakeSpec Try.prog 12 := nawake_ok (ι := ids) is_nawake nnew' nadd' nbytes'
theorem nlen' : NLenSpec Try.prog 23 := nlen_ok is_nlen
theorem nnames' : NNamesSpec Try.prog 24 := nnames_ok (ι := ids) is_nnames sclone'
theorem nnumber' : NNumberSpec Try.prog 27 := nnumber_ok is_nnumber
theorem nname' : NNameSpec Try.prog 28 := nname_ok (ι := ids) is_nname nlen'
theorem nequal' : NEqualSpec Try.prog 30 := nequal_ok (ι := ids) is_nequal (sequal_ok is_sequal)
theorem rnumber' : RNumberSpec Try.prog 29 := rnumber_ok is_rnumber
theorem rcheck' : RCheckSpec Try.prog 21 := rcheck_ok (ι := ids) is_rcheck rvalid' rnumber'
theorem nsame' : SameSpec Try.prog 17 := nsame_ok is_nsame
theorem nwords' : WordsSpec Try.prog 20 := nwords_ok (ι := ids) is_nwords rword'
theorem naddNil' : AddNil Try.prog 22 := nadd_nil is_nadd
theorem nbytesNil' : NBytesNil Try.prog 31 := nbytes_nil is_nbytes
theorem nof' : NOfSpec Try.prog 25 := nof_ok (ι := ids) is_nof nnew' nadd'
theorem rof' : ROfSpec Try.prog 26 := rof_ok (ι := ids) is_rof rcheck'
theorem nkw' : KwSpec Try.prog 16 := nkw_ok is_nkw
theorem rkw' : KwSpec Try.prog 18 := rkw_ok is_rkw
theorem rnewr' : RNewRSpec Try.prog 44 := rnewr_ok (ι := ids) is_rnewr clone'
theorem rok' : ROkSpec Try.prog 56 := rok_ok is_rok
theorem rfail' : RFailSpec Try.prog 63 := rfail_ok (ι := ids) is_rfail rok'
theorem rrefuse' : RRefSpec Try.prog 57 := rrefuse_ok (ι := ids) is_rrefuse rfail'
theorem rerr' : RErrSpec Try.prog 61 := rerr_ok is_rerr
theorem rend' : REndSpec Try.prog 47 := rend_ok (ι := ids) is_rend rok' rerr'
theorem rnumb' : RNumbSpec Try.prog 58 := rnumb_ok is_rnumb
theorem rtake' : RTakeSpec Try.prog 59 := rtake_ok (ι := ids) is_rtake clone'
theorem rcount' : RCountSpec Try.prog 45 := rcount_ok (ι := ids) is_rcount rok' rrefuse' rnumb' rtake'
theorem rbytes' : RBytSpec Try.prog 60 := rbytes_ok (ι := ids) is_rbytes rok' rrefuse' rnumb' rtake'
theorem rstring' : RStrSpec Try.prog 46 := rstring_ok (ι := ids) is_rstring rbytes'
theorem rput' : NumSpec Try.prog 48 := rput_ok is_rput
theorem rputbytes' : RPutBSpec Try.prog 49 := rputb_ok (ι := ids) is_rputbytes rput'
theorem nread' : NReadSpec Try.prog 32 := nread_ok (ι := ids) is_nread rnewr' rcount' rstring' rend' nof'
theorem rbytesl' : RBytesLSpec Try.prog 33 := rbytesl_ok (ι := ids) is_rbytesl rput' rputbytes'
end Go.Proofs.Ytpifmenfgbcneaa

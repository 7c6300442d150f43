/- The law EngineStaffs answers true at every input, and its input reads as it did. -/
import Derived.Test.YtoclemmcphgikaaGreatDoorMgHSeat
import Derived.Test.YtoclemmcphgikaaGreatDoorMgGX
namespace Go.Proofs.YtoclemmcphgikaaGreatDoor
open Go.ChangeShapes Go.WideShapes Go.ChangeAt Go.WideElems Go.RowKit Go.Mg
set_option maxRecDepth 100000
theorem is_lestf:FnIs Tryz.prog 5 (c_lestf ids) r_lestf 2:=FnIs.mk' Tryz.func5 mix (by kernel_rfl) (by kernel_rfl) (by kernel_rfl)
theorem is_rval:FnIs Tryz.prog 29 (c_rval ids) r_rval 2:=FnIs.mk' Tryz.func29 mix (by kernel_rfl) (by kernel_rfl) (by kernel_rfl)
theorem rval':RValSpec Tryz.prog ids (ids.f 365):=rval_ok (ι:=ids) is_rval rprop' rbrk' slcon'
theorem lifted (os:Os) (started:os.Started) (H:Type) (enc:TypeId×Value->H):
  ReturnsInHanded {} Tryz.checked os 5 .any (fun w args=>(Rows.engineStaffsSpec.pre enc Tryz.prog Tryz.f5 [] false w args/\laidMetH Tryz.prog laid2 w)/\sizedMet enc Tryz.prog Tryz.f5 (OpenSpec.ofChange Rows.engineStaffsSpec) false w args)
   (Rows.engineStaffsSpec.post enc Tryz.prog Tryz.f5 false true false false):=by
 refine returnsInHanded_of_change_and (C:=Tryz.checked) (X:=fun w _=>laidMetH Tryz.prog laid2 w) (fun _ _ _ hh h=>h.of_heap hh) own started (by kernel_rfl) Tryz.func5
  (ChangeSpec.witness_shaped (enc:=enc) (C:=Tryz.checked) (os:=os) (X:=fun w _=>laidMetH Tryz.prog laid2 w) false (World.doorLaid Tryz.prog 4000 os) #[.agg #[.int .u8 0,.slice none 0 0,.slice none 0 0,.slice none 0 0,.slice none 0 0,.slice none 0 0,.slice none 0 0],.slice none 0 0] 8 rfl (World.shaped_of_RefB (by kernel_rfl) (by kernel_rfl)) (by kernel_rfl) (by kernel_rfl) (by kernel_rfl) (door_met os _)) ?_
 intro W base args ds gs before hval0 hW _ _ hL _
 have hval:∀(j:Nat) t v,Tryz.f5.params[j]?=some t->args[j]?=some v->Value.okWide Tryz.prog W .any base t v:=hval0
 have hG:=of_laid hL
 have hW':=hW
 obtain⟨p,q,hA0,hV,rfl,hfz,hnd⟩:=hW'
 have hA:DataW.TrodAll enc Tryz.prog W 0 (fun _=>true) true Tryz.f5.params.toList args.toList ds p:=hA0
 rw[Tryz.params5]at hA hval
 obtain⟨v0,v1,d0,d1,p0,p1,rfl,rfl,rfl,h0,h1⟩:=trodAll_two hA
 obtain⟨rfl,rfl⟩:=trodVars_none hV
 obtain⟨l0,s0⟩:=rawF_arg Tryz.underlying25 cRaw uByte cByte uBs cBs Tryz.underlying23 cPs uArr cArr (hval 0 25 v0 rfl rfl) h0
 obtain⟨l1,s1⟩:=acts_arg Tryz.underlying52 uAct cAct uByte cByte (hval 1 52 v1 rfl rfl) h1
 exact calls_post hW rfl rfl (by kernel_rfl) uBool laidOut (by kernel_rfl) (lestf_ok (ι:=ids) is_lestf ⟨eawk',lmakf',sprob',ssolve',estart',epln',egra',estaff',rval',rbrk2',sleq'⟩ l0 l1 v0 v1 W.heap hG s0 s1)
theorem engineStaffs_holds:Rows.EngineStaffsSaid:=
 OpenClaim.holds_of_wide 5 Tryz.f5 rfl rfl rfl rfl rfl rfl rfl ⟨rfl,rfl,rfl,rfl,rfl⟩ rfl rfl rfl rfl rfl (by kernel_rfl) Tryz.func5 (by kernel_rfl)
  (of_decide_eq_true (by kernel_rfl)) (by unfold Func.isWrapper;first|(rw[if_pos (by decide+kernel)];kernel_rfl)|(rw[if_neg (by decide+kernel)];exact⟨rfl,rfl⟩))
  (fun os started H enc _=>lifted os started H enc)
theorem engineStaffs_card:Rows.EngineStaffsCardSaid:=
 Claim7.holds_tied_plain_at .later [] [.data] true (true, "5136f1d316712e271b6b54f0a70a60bfe760645fd3ad2498455f3b89f20c410c") false
  engineStaffs_holds (fun _ h=>by cases h) (by kernel_rfl) (fun _ h=>by cases h) engineStaffs_row_tie rfl ⟨rfl,rfl⟩ (by kernel_rfl) rfl
  (fun f fn hf hfn=>by
   obtain rfl:f=5:=Option.some.inj ((show Tryz.prog.funcNamed "arbac/arbaclaw43.EngineStaffs" =some 5 by kernel_rfl).symm.trans hf)|>.symm
   obtain rfl:fn=Tryz.f5:=(Option.some.inj (Tryz.func5.symm.trans hfn)).symm
   exact⟨by kernel_rfl,fun j t ht=>by
    rw[Tryz.params5]at ht
    have hm:t∈[25,52]:=by simpa using Array.mem_of_getElem? ht
    have hall:([25,52].all fun u=>!Tryz.prog.wantsStandIn u)=true:=by kernel_rfl
    exact(show Tryz.prog.wantsStandIn t=false by simpa using List.all_eq_true.1 hall t hm)⟩)
  (by kernel_rfl)
end Go.Proofs.YtoclemmcphgikaaGreatDoor

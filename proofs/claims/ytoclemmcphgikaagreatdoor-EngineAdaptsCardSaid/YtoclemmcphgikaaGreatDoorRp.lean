/- The law EngineAdapts answers true at every input, and its input reads as it did. -/
import Derived.Test.YtoclemmcphgikaaGreatDoorMgHSeat
import Derived.Test.YtoclemmcphgikaaGreatDoorMgJ1
namespace Go.Proofs.YtoclemmcphgikaaGreatDoor
open Go.ChangeShapes Go.WideShapes Go.ChangeAt Go.WideElems Go.RowKit Go.Mg
set_option maxRecDepth 100000
theorem is_eadp:FnIsR Tryz.prog 35 (c_eadp ids) r_eadp 2 64:=FnIsR.mk' Tryz.func35 mix (by kernel_rfl) (by kernel_rfl) (by kernel_rfl)
theorem is_radp:FnIs Tryz.prog 36 (c_radp ids) r_radp 2:=FnIs.mk' Tryz.func36 mix (by kernel_rfl) (by kernel_rfl) (by kernel_rfl)
theorem is_leadp:FnIs Tryz.prog 8 (c_leadp ids) r_leadp 3:=FnIs.mk' Tryz.func8 mix (by kernel_rfl) (by kernel_rfl) (by kernel_rfl)
theorem eadp':EAdpSpec Tryz.prog ids (ids.f 413):=eadp_ok (ι:=ids) is_eadp ⟨eusers',clnB',edone',ball',by kernel_rfl,is_ball1,tz',eplan'⟩
theorem radp':RAdpSpec Tryz.prog (ids.f 418):=radp_ok (ι:=ids) is_radp
theorem lifted (os:Os) (started:os.Started) (H:Type) (enc:TypeId×Value->H):
  ReturnsInHanded {} Tryz.checked os 8 .any (fun w args=>(Rows.engineAdaptsSpec.pre enc Tryz.prog Tryz.f8 [] false w args/\laidMetH Tryz.prog laid2 w)/\sizedMet enc Tryz.prog Tryz.f8 (OpenSpec.ofChange Rows.engineAdaptsSpec) false w args)
   (Rows.engineAdaptsSpec.post enc Tryz.prog Tryz.f8 false true false false):=by
 refine returnsInHanded_of_change_and (C:=Tryz.checked) (X:=fun w _=>laidMetH Tryz.prog laid2 w) (fun _ _ _ hh h=>h.of_heap hh) own started (by kernel_rfl) Tryz.func8
  (ChangeSpec.witness_shaped (enc:=enc) (C:=Tryz.checked) (os:=os) (X:=fun w _=>laidMetH Tryz.prog laid2 w) false (World.doorLaid Tryz.prog 4000 os) #[.agg #[.int .u8 0,.slice none 0 0,.slice none 0 0,.slice none 0 0,.slice none 0 0,.slice none 0 0,.slice none 0 0],.slice none 0 0,.slice none 0 0] 8 rfl (World.shaped_of_RefB (by kernel_rfl) (by kernel_rfl)) (by kernel_rfl) (by kernel_rfl) (by kernel_rfl) (door_met os _)) ?_
 intro W base args ds gs before hval0 hW _ _ hL _
 have hval:∀(j:Nat) t v,Tryz.f8.params[j]?=some t->args[j]?=some v->Value.okWide Tryz.prog W .any base t v:=hval0
 have hG:=of_laid hL
 have hW':=hW
 obtain⟨p,q,hA0,hV,rfl,hfz,hnd⟩:=hW'
 have hA:DataW.TrodAll enc Tryz.prog W 0 (fun _=>true) true Tryz.f8.params.toList args.toList ds p:=hA0
 rw[Tryz.params8]at hA hval
 obtain⟨v0,v1,v2,d0,d1,d2,p0,p1,p2,rfl,rfl,rfl,h0,h1,h2⟩:=trodAll_three hA
 obtain⟨rfl,rfl⟩:=trodVars_none hV
 obtain⟨l0,s0⟩:=rawF_arg Tryz.underlying25 cRaw uByte cByte uBs cBs Tryz.underlying23 cPs uArr cArr (hval 0 25 v0 rfl rfl) h0
 obtain⟨l1,s1⟩:=acts_arg Tryz.underlying52 uAct cAct uByte cByte (hval 1 52 v1 rfl rfl) h1
 obtain⟨l2,s2⟩:=bytes_of_slice Tryz.underlying22 uByte cByte (hval 2 22 v2 rfl rfl) h2
 exact calls_post hW rfl rfl (by kernel_rfl) uBool laidOut (by kernel_rfl) (leadp_ok (ι:=ids) is_leadp ⟨eawk',lplay',lroles',eadp',radp',clnB',bof',lis',rcmp',epln',sleq'⟩ l0 l1 l2 v0 v1 v2 W.heap hG s0 s1 s2)
theorem engineAdapts_holds:Rows.EngineAdaptsSaid:=
 OpenClaim.holds_of_wide 8 Tryz.f8 rfl rfl rfl rfl rfl rfl rfl ⟨rfl,rfl,rfl,rfl,rfl⟩ rfl rfl rfl rfl rfl (by kernel_rfl) Tryz.func8 (by kernel_rfl)
  (of_decide_eq_true (by kernel_rfl)) (by unfold Func.isWrapper;first|(rw[if_pos (by decide+kernel)];kernel_rfl)|(rw[if_neg (by decide+kernel)];exact⟨rfl,rfl⟩))
  (fun os started H enc _=>lifted os started H enc)
theorem engineAdapts_card:Rows.EngineAdaptsCardSaid:=
 Claim7.holds_tied_plain_at .later [] [.data] true (true, "5136f1d316712e271b6b54f0a70a60bfe760645fd3ad2498455f3b89f20c410c") false
  engineAdapts_holds (fun _ h=>by cases h) (by kernel_rfl) (fun _ h=>by cases h) engineAdapts_row_tie rfl ⟨rfl,rfl⟩ (by kernel_rfl) rfl
  (fun f fn hf hfn=>by
   obtain rfl:f=8:=Option.some.inj ((show Tryz.prog.funcNamed "arbac/arbaclaw43.EngineAdapts" =some 8 by kernel_rfl).symm.trans hf)|>.symm
   obtain rfl:fn=Tryz.f8:=(Option.some.inj (Tryz.func8.symm.trans hfn)).symm
   exact⟨by kernel_rfl,fun j t ht=>by
    rw[Tryz.params8]at ht
    have hm:t∈[25,52,22]:=by simpa using Array.mem_of_getElem? ht
    have hall:([25,52,22].all fun u=>!Tryz.prog.wantsStandIn u)=true:=by kernel_rfl
    exact(show Tryz.prog.wantsStandIn t=false by simpa using List.all_eq_true.1 hall t hm)⟩)
  (by kernel_rfl)
end Go.Proofs.YtoclemmcphgikaaGreatDoor

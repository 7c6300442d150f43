/- Lemmas of ours. No conditions. -/
import Derived.Test.YteeemadonfcliabGreatDoorMgQSeat
set_option maxRecDepth 100000
namespace Go.Proofs.YteeemadonfcliabGreatDoor
open Go.ChangeShapes Go.WideShapes Go.ChangeAt Go.WideElems Go.RowKit Go.Mg
theorem QJ:an Tryz.prog 3 (DY ids) DZ 2:=an.mk' Tryz.func3 mix (by kernel_rfl) (by kernel_rfl) (by kernel_rfl)
theorem lifted (os:Os) (started:os.Started) (H:Type) (enc:TypeId×Value->H):
  ReturnsInHanded {} Tryz.checked os 3 .any (fun w args=>(Rows.topEngineSpec.pre enc Tryz.prog Tryz.f3 [] false w args/\laidMetH Tryz.prog Av w)/\sizedMet enc Tryz.prog Tryz.f3 (OpenSpec.ofChange Rows.topEngineSpec) false w args)
   (Rows.topEngineSpec.post enc Tryz.prog Tryz.f3 false true false false):=by
 refine returnsInHanded_of_change_and (C:=Tryz.checked) (X:=fun w _=>laidMetH Tryz.prog Av w) (fun _ _ _ hh h=>h.of_heap hh) own started (by kernel_rfl) Tryz.func3
  (ChangeSpec.witness_shaped (enc:=enc) (C:=Tryz.checked) (os:=os) (X:=fun w _=>laidMetH Tryz.prog Av w) false (World.doorLaid Tryz.prog 4000 os) #[.agg #[.int .u8 0,.slice none 0 0,.slice none 0 0,.slice none 0 0,.slice none 0 0,.slice none 0 0,.slice none 0 0],.slice none 0 0] 8 rfl (World.shaped_of_RefB (by kernel_rfl) (by kernel_rfl)) (by kernel_rfl) (by kernel_rfl) (by kernel_rfl) (Mn os _)) ?_
 intro W base args ds gs before hval0 hW _ _ hL _;have hval:∀(j:Nat) t v,Tryz.f3.params[j]?=some t->args[j]?=some v->Value.okWide Tryz.prog W .any base t v:=hval0;have hG:=QI hL;have We:=hW;obtain⟨p,q,hA0,hV,rfl,hfz,hnd⟩:=We;have hA:DataW.TrodAll enc Tryz.prog W 0 (fun _=>true) true Tryz.f3.params.toList args.toList ds p:=hA0;rw[Tryz.params3]at hA hval;obtain⟨v0,v1,d0,d1,p0,p1,rfl,rfl,rfl,h0,h1⟩:=trodAll_two hA;obtain⟨rfl,rfl⟩:=trodVars_none hV;obtain⟨l0,s0⟩:=Ls Tryz.underlying25 acS RR RQ uBs cBs Tryz.underlying23 cPs acT acU (hval 0 25 v0 rfl rfl) h0;obtain⟨l1,s1⟩:=Lt Tryz.underlying26 acW acV RR RQ (hval 1 26 v1 rfl rfl) h1;exact D0 hW rfl rfl (by kernel_rfl) Yr laidOut (by kernel_rfl) (PS (ι:=ids) QJ ⟨Yq,UB,Fw,Ed,Fv,Yo,UO,RO,Ym,Yl,RF⟩ l0 l1 v0 v1 W.heap hG s0 s1)
theorem pS:Rows.TopEngineSaid:=
 OpenClaim.holds_of_wide 3 Tryz.f3 rfl rfl rfl rfl rfl rfl rfl ⟨rfl,rfl,rfl,rfl,rfl⟩ rfl rfl rfl rfl rfl (by kernel_rfl) Tryz.func3 (by kernel_rfl)
  (of_decide_eq_true (by kernel_rfl)) (by unfold Func.isWrapper;first|(rw[if_pos (by decide+kernel)];kernel_rfl)|(rw[if_neg (by decide+kernel)];exact⟨rfl,rfl⟩))
  (fun os started H enc _=>lifted os started H enc)
theorem topEngine_card:Rows.TopEngineCardSaid:=
 Claim7.holds_tied_plain_at .later [] [.data] true (true, "35b8bbf9b213d8221f01190d0a2073357cf1165459e2904c3335388846158bfb") false
  pS (fun _ h=>by cases h) (by kernel_rfl) (fun _ h=>by cases h) topEngine_row_tie rfl ⟨rfl,rfl⟩ (by kernel_rfl) rfl
  (fun f fn hf hfn=>by
   obtain rfl:f=3:=Option.some.inj ((show Tryz.prog.funcNamed "arbac/arbactop.TopEngine" =some 3 by kernel_rfl).symm.trans hf)|>.symm;obtain rfl:fn=Tryz.f3:=(Option.some.inj (Tryz.func3.symm.trans hfn)).symm;exact⟨by kernel_rfl,fun j t ht=>by
    rw[Tryz.params3]at ht;have hm:t∈[25,26]:=by simpa using Array.mem_of_getElem? ht
    have iQ:([25,26].all fun u=>!Tryz.prog.wantsStandIn u)=true:=by kernel_rfl
    exact(show Tryz.prog.wantsStandIn t=false by simpa using List.all_eq_true.1 iQ t hm)⟩)
  (by kernel_rfl)
end Go.Proofs.YteeemadonfcliabGreatDoor

/- Lemmas of ours. No conditions. -/
import Derived.Test.YtoclemmcphgikaaGreatDoorMgHByt
set_option maxRecDepth 100000
namespace Go.Proofs.YtoclemmcphgikaaGreatDoor
open Go.ChangeShapes Go.WideShapes Go.ChangeAt Go.WideElems Go.RowKit Go.Mg
theorem ad2:ak Tryz.prog 11 (Kt ids) Ku 3:=ak.mk' Tryz.func11 mix (by kernel_rfl) (by kernel_rfl) (by kernel_rfl)
theorem lifted (os:Os) (started:os.Started) (H:Type) (enc:TypeId×Value->H):
  ReturnsInHanded {} Tryz.checked os 11 .any (fun w args=>(Rows.engineBytesSpec.pre enc Tryz.prog Tryz.f11 [] false w args/\laidMetH Tryz.prog FE w)/\sizedMet enc Tryz.prog Tryz.f11 (OpenSpec.ofChange Rows.engineBytesSpec) false w args)
   (Rows.engineBytesSpec.post enc Tryz.prog Tryz.f11 false true false false):=by
 refine returnsInHanded_of_change_and (C:=Tryz.checked) (X:=fun w _=>laidMetH Tryz.prog FE w) (fun _ _ _ hh h=>h.of_heap hh) own started (by kernel_rfl) Tryz.func11
  (ChangeSpec.witness_shaped (enc:=enc) (C:=Tryz.checked) (os:=os) (X:=fun w _=>laidMetH Tryz.prog FE w) false (World.doorLaid Tryz.prog 4000 os) #[.agg #[.int .u8 0,.slice none 0 0,.slice none 0 0,.slice none 0 0,.slice none 0 0,.slice none 0 0,.slice none 0 0],.slice none 0 0,.agg (Array.replicate 2 (.int .u8 0))] 8 rfl (World.shaped_of_RefB (by kernel_rfl) (by kernel_rfl)) (by kernel_rfl) (by kernel_rfl) (by kernel_rfl) (Tz os _)) ?_
 intro W base args ds gs before hval0 hW _ _ hL _;have hval:∀(j:Nat) t v,Tryz.f11.params[j]?=some t->args[j]?=some v->Value.okWide Tryz.prog W .any base t v:=hval0;have hG:=ac7 hL;have hW':=hW;obtain⟨p,q,hA0,hV,rfl,hfz,hnd⟩:=hW';have hA:DataW.TrodAll enc Tryz.prog W 0 (fun _=>true) true Tryz.f11.params.toList args.toList ds p:=hA0;rw[Tryz.params11]at hA hval;obtain⟨v0,v1,v2,d0,d1,d2,p0,p1,p2,rfl,rfl,rfl,h0,h1,h2⟩:=trodAll_three hA;obtain⟨rfl,rfl⟩:=trodVars_none hV;obtain⟨l0,s0⟩:=SJ Tryz.underlying25 alF TB TA uBs cBs Tryz.underlying23 cPs aiP aiQ (hval 0 25 v0 rfl rfl) h0;obtain⟨l1,s1⟩:=SK Tryz.underlying52 alH alG TB TA (hval 1 52 v1 rfl rfl) h1;obtain⟨l2,m2,rfl⟩:=CG u2 TB TA c2 (hval 2 98 v2 rfl rfl) h2;exact Jm hW rfl rfl (by kernel_rfl) aiO laidOut (by kernel_rfl) (adO (V:=ids) ad2 ⟨aiN,agG,aeS,ag5,ag6,T4 Uv,ai2,alB⟩ l0 l1 v0 v1 l2 W.heap hG s0 s1 m2)
theorem rz:Rows.EngineBytesSaid:=
 OpenClaim.holds_of_wide 11 Tryz.f11 rfl rfl rfl rfl rfl rfl rfl ⟨rfl,rfl,rfl,rfl,rfl⟩ rfl rfl rfl rfl rfl (by kernel_rfl) Tryz.func11 (by kernel_rfl)
  (of_decide_eq_true (by kernel_rfl)) (by unfold Func.isWrapper;first|(rw[if_pos (by decide+kernel)];kernel_rfl)|(rw[if_neg (by decide+kernel)];exact⟨rfl,rfl⟩))
  (fun os started H enc _=>lifted os started H enc)
theorem engineBytes_card:Rows.EngineBytesCardSaid:=
 Claim7.holds_tied_plain_at .later [] [.data] true (true, "5136f1d316712e271b6b54f0a70a60bfe760645fd3ad2498455f3b89f20c410c") false
  rz (fun _ h=>by cases h) (by kernel_rfl) (fun _ h=>by cases h) engineBytes_row_tie rfl ⟨rfl,rfl⟩ (by kernel_rfl) rfl
  (fun f fn hf hfn=>by
   obtain rfl:f=11:=Option.some.inj ((show Tryz.prog.funcNamed "arbac/arbaclaw43.EngineBytes" =some 11 by kernel_rfl).symm.trans hf)|>.symm;obtain rfl:fn=Tryz.f11:=(Option.some.inj (Tryz.func11.symm.trans hfn)).symm;exact⟨by kernel_rfl,fun j t ht=>by
    rw[Tryz.params11]at ht;have hm:t∈[25,52,98]:=by simpa using Array.mem_of_getElem? ht
    have hall:([25,52,98].all fun u=>!Tryz.prog.wantsStandIn u)=true:=by kernel_rfl
    exact(show Tryz.prog.wantsStandIn t=false by simpa using List.all_eq_true.1 hall t hm)⟩)
  (by kernel_rfl)
end Go.Proofs.YtoclemmcphgikaaGreatDoor

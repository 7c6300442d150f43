/- Lemmas of ours. No conditions. -/
import Derived.Test.YtoclemmcphgikaaGreatDoorMgHByt
set_option maxRecDepth 100000
namespace Go.Proofs.YtoclemmcphgikaaGreatDoor
open Go.ChangeShapes Go.WideShapes Go.ChangeAt Go.WideElems Go.RowKit Go.Mg
theorem WA:al Tryz.prog 10 (Io ids) Ip 2:=al.mk' Tryz.func10 mix (by kernel_rfl) (by kernel_rfl) (by kernel_rfl)
theorem lifted (os:Os) (started:os.Started) (H:Type) (enc:TypeId×Value->H):
  ReturnsInHanded {} Tryz.checked os 10 .any (fun w args=>(Rows.engineReadsSpec.pre enc Tryz.prog Tryz.f10 [] false w args/\laidMetH Tryz.prog Ei w)/\sizedMet enc Tryz.prog Tryz.f10 (OpenSpec.ofChange Rows.engineReadsSpec) false w args)
   (Rows.engineReadsSpec.post enc Tryz.prog Tryz.f10 false true false false):=by
 refine returnsInHanded_of_change_and (C:=Tryz.checked) (X:=fun w _=>laidMetH Tryz.prog Ei w) (fun _ _ _ hh h=>h.of_heap hh) own started (by kernel_rfl) Tryz.func10
  (ChangeSpec.witness_shaped (enc:=enc) (C:=Tryz.checked) (os:=os) (X:=fun w _=>laidMetH Tryz.prog Ei w) false (World.doorLaid Tryz.prog 4000 os) #[.agg #[.int .u8 0,.slice none 0 0,.slice none 0 0,.slice none 0 0,.slice none 0 0,.slice none 0 0,.slice none 0 0],.slice none 0 0] 8 rfl (World.shaped_of_RefB (by kernel_rfl) (by kernel_rfl)) (by kernel_rfl) (by kernel_rfl) (by kernel_rfl) (QW os _)) ?_
 intro W base args ds gs before hval0 hW _ _ hL _;have hval:∀(j:Nat) t v,Tryz.f10.params[j]?=some t->args[j]?=some v->Value.okWide Tryz.prog W .any base t v:=hval0;have hG:=VF hL;have hW':=hW;obtain⟨p,q,hA0,hV,rfl,hfz,hnd⟩:=hW';have hA:DataW.TrodAll enc Tryz.prog W 0 (fun _=>true) true Tryz.f10.params.toList args.toList ds p:=hA0;rw[Tryz.params10]at hA hval;obtain⟨v0,v1,d0,d1,p0,p1,rfl,rfl,rfl,h0,h1⟩:=trodAll_two hA;obtain⟨rfl,rfl⟩:=trodVars_none hV;obtain⟨l0,s0⟩:=Qp Tryz.underlying25 aff XG XF uBs cBs Tryz.underlying23 cPs acx acz (hval 0 25 v0 rfl rfl) h0;obtain⟨l1,s1⟩:=vR Tryz.underlying22 XG XF (hval 1 22 v1 rfl rfl) h1;exact Hn hW rfl rfl (by kernel_rfl) acw laidOut (by kernel_rfl) (Wp (ι:=ids) WA ⟨acv,aaq,acs,aaO,aaP,afb⟩ l0 l1 v0 v1 W.heap hG s0 s1)
theorem pR:Rows.EngineReadsSaid:=
 OpenClaim.holds_of_wide 10 Tryz.f10 rfl rfl rfl rfl rfl rfl rfl ⟨rfl,rfl,rfl,rfl,rfl⟩ rfl rfl rfl rfl rfl (by kernel_rfl) Tryz.func10 (by kernel_rfl)
  (of_decide_eq_true (by kernel_rfl)) (by unfold Func.isWrapper;first|(rw[if_pos (by decide+kernel)];kernel_rfl)|(rw[if_neg (by decide+kernel)];exact⟨rfl,rfl⟩))
  (fun os started H enc _=>lifted os started H enc)
theorem engineReads_card:Rows.EngineReadsCardSaid:=
 Claim7.holds_tied_plain_at .later [] [.data] true (true, "5136f1d316712e271b6b54f0a70a60bfe760645fd3ad2498455f3b89f20c410c") false
  pR (fun _ h=>by cases h) (by kernel_rfl) (fun _ h=>by cases h) engineReads_row_tie rfl ⟨rfl,rfl⟩ (by kernel_rfl) rfl
  (fun f fn hf hfn=>by
   obtain rfl:f=10:=Option.some.inj ((show Tryz.prog.funcNamed "arbac/arbaclaw43.EngineReads" =some 10 by kernel_rfl).symm.trans hf)|>.symm;obtain rfl:fn=Tryz.f10:=(Option.some.inj (Tryz.func10.symm.trans hfn)).symm;exact⟨by kernel_rfl,fun j t ht=>by
    rw[Tryz.params10]at ht;have hm:t∈[25,22]:=by simpa using Array.mem_of_getElem? ht
    have hall:([25,22].all fun u=>!Tryz.prog.wantsStandIn u)=true:=by kernel_rfl
    exact(show Tryz.prog.wantsStandIn t=false by simpa using List.all_eq_true.1 hall t hm)⟩)
  (by kernel_rfl)
end Go.Proofs.YtoclemmcphgikaaGreatDoor

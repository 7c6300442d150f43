/- Lemmas of ours. No conditions. -/
import Derived.Test.YteeemadonfcliaaGreatDoorMgQMSeat
set_option maxRecDepth 100000
namespace Go.Proofs.YteeemadonfcliaaGreatDoor
open Go.ChangeShapes Go.WideShapes Go.ChangeAt Go.WideElems Go.RowKit Go.Mg
theorem QC:aq Tryz.prog 3 (HE ids) HF 1:=aq.mk' Tryz.func3 mix (by kernel_rfl) (by kernel_rfl) (by kernel_rfl)
theorem lifted (os:Os) (started:os.Started) (H:Type) (enc:TypeId×Value->H):
  ReturnsInHanded {} Tryz.checked os 3 .any (fun w args=>(Rows.topMatchedSpec.pre enc Tryz.prog Tryz.f3 [] false w args/\laidMetH Tryz.prog xL w)/\sizedMet enc Tryz.prog Tryz.f3 (OpenSpec.ofChange Rows.topMatchedSpec) false w args)
   (Rows.topMatchedSpec.post enc Tryz.prog Tryz.f3 false true false false):=by
 refine returnsInHanded_of_change_and (C:=Tryz.checked) (X:=fun w _=>laidMetH Tryz.prog xL w) (fun _ _ _ hh h=>h.of_heap hh) own started (by kernel_rfl) Tryz.func3
  (ChangeSpec.witness_shaped (enc:=enc) (C:=Tryz.checked) (os:=os) (X:=fun w _=>laidMetH Tryz.prog xL w) false (World.doorLaid Tryz.prog 4000 os) #[.slice none 0 0] 8 rfl (World.shaped_of_RefB (by kernel_rfl) (by kernel_rfl)) (by kernel_rfl) (by kernel_rfl) (by kernel_rfl) (Iv os _)) ?_
 intro W base args ds gs before hval0 hW _ _ hL _;have hval:∀(j:Nat) t v,Tryz.f3.params[j]?=some t->args[j]?=some v->Value.okWide Tryz.prog W .any base t v:=hval0;have hG:=Mf hL;have Sf:=hW;obtain⟨p,q,Om,hV,rfl,hfz,hnd⟩:=Sf;have hA:DataW.TrodAll enc Tryz.prog W 0 (fun _=>true) true Tryz.f3.params.toList args.toList ds p:=Om;rw[Tryz.params3]at hA hval;obtain⟨v0,d0,rfl,rfl,h0⟩:=trodAll_one hA;obtain⟨rfl,rfl⟩:=trodVars_none hV;obtain⟨l0,s0⟩:=qG Tryz.underlying22 Uq Up (hval 0 22 v0 rfl rfl) h0;exact Ar hW rfl rfl (by kernel_rfl) Uo laidOut (by kernel_rfl) (Qn (ι:=ids) QC ⟨Ul,Nj,Im,Ax,vk,Me,Un,Um,It,Nb⟩ l0 v0 W.heap hG s0)
theorem mU:Rows.TopMatchedSaid:=
 OpenClaim.holds_of_wide 3 Tryz.f3 rfl rfl rfl rfl rfl rfl rfl ⟨rfl,rfl,rfl,rfl,rfl⟩ rfl rfl rfl rfl rfl (by kernel_rfl) Tryz.func3 (by kernel_rfl)
  (of_decide_eq_true (by kernel_rfl)) (by unfold Func.isWrapper;first|(rw[if_pos (by decide+kernel)];kernel_rfl)|(rw[if_neg (by decide+kernel)];exact⟨rfl,rfl⟩))
  (fun os started H enc _=>lifted os started H enc)
theorem topMatched_card:Rows.TopMatchedCardSaid:=
 Claim7.holds_tied_plain_at .later [] [.data] true (true, "459ccb727eb5552bcfe148372cf6cf4c4459d2be26bdc9a6f8a781736f59074c") false
  mU (fun _ h=>by cases h) (by kernel_rfl) (fun _ h=>by cases h) topMatched_row_tie rfl ⟨rfl,rfl⟩ (by kernel_rfl) rfl
  (fun f fn hf hfn=>by
   obtain rfl:f=3:=Option.some.inj ((show Tryz.prog.funcNamed "arbac/arbactop.TopMatched" =some 3 by kernel_rfl).symm.trans hf)|>.symm;obtain rfl:fn=Tryz.f3:=(Option.some.inj (Tryz.func3.symm.trans hfn)).symm;exact⟨by kernel_rfl,fun j t ht=>by
    rw[Tryz.params3]at ht;have hm:t∈[22]:=by simpa using Array.mem_of_getElem? ht
    have ek:([22].all fun u=>!Tryz.prog.wantsStandIn u)=true:=by kernel_rfl
    exact(show Tryz.prog.wantsStandIn t=false by simpa using List.all_eq_true.1 ek t hm)⟩)
  (by kernel_rfl)
end Go.Proofs.YteeemadonfcliaaGreatDoor

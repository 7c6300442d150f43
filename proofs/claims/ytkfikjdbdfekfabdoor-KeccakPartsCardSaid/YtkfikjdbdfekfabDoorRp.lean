/- Lemmas of ours. No conditions. -/
import Derived.Test.YtkfikjdbdfekfabDoorRows
import Derived.Test.YtkfikjdbdfekfabDoorTie
import Derived.Test.YtkfikjdbdfekfabDoorCards
import Derived.Test.YtkfikjdbdfekfabDoorMgK20
import Derived.Test.YtkfikjdbdfekfabDoorMgOpen
import Derived.SevenTiedAt
set_option maxRecDepth 100000
namespace Go.Proofs.YtkfikjdbdfekfabDoor
open Go.ChangeShapes Go.WideShapes Go.ChangeAt Go.WideElems Go.RowKit Go.Mg
def ids:bh:=⟨fun n=>([33,0,0,0,0,0,32,30,26,0,0,27,0,25,15,0,0,51,5,0,16,4,0,0,0,0,0,0,0,0,0,0,0,0,0,0,0,0,0,0,0,0,0,0,0,0,0,0,0,0,0,19,31,28,0,6,18,17,8,7,10,0,0,14,0,0,0,0,0,0,0,0,0,0,0,0,0,0,0,0,0,0,0,0,0,0,0,0,0,0,0,0,0,0,0,0,0,0,0,0,0,0,0,0,0,0,0,0,9,20,21,22,23,0,12,11,24,13,29,0,0,0,0,3,0,0,0,0,0,0,0,0,0,0,0,0,0,0,0,0,0,0,0,0,0,0,0,0,0,0,0,0,0,0,0,0,0,0,0,0,0,0,0,0,0,0,0,0,0,0,0,0,0,0,0,0,0,0,0,0,0,0,0,0,0,0,0,0,0,0,0,0,0,0,0,0,0,0,0,0,0,0,0,0,0,0,0,0,0,0,0,0,0,0,0,0,0,0,0,0,0,0,0,0,0,0,0,0,0,0,0,0,0,0,0,0,0,0,0,0,0,0,0,0,0,0,0,0,0,0,0,0,0,0,0,0,0,0,0,0,0,0,0,0,0,0,0,0,0,0,0,0,0,0,0,0,0,0,0,0,0,0,0,0,0,0,0,0,0,0,0,0,0,0,0,0,0,0,0,0,0,0,0,0,0,0,0,0,0,0,0,0,0,0,0,0,0,0,0,0,0,0,0,0,0,0,0,0,0,0,0,0,0,0,0,0,0,0,0,0,0,0,0,0,0,0,0,0,0,0,0,0,0,0,0,0,0,0,0,0,0,0,0,0,0,0,0,0,0,0,0,0,0,0,0,0,0,0,0,0,0,0,0,0,0,0,0,0,0,0,0,0,0,0,0,0,0,0,0,0,0,0,0,0,0,0,0,0,0,0,0,0,0,0,0,0,0,0,0,0,0,0,0,0,0]:List Nat).getD n 0,fun n=>([0,0,65,59,0,0,0,0,0,37,60,0,62,0,0,0,0,0,0,5,0,0,0,0,0,0,3,0,45,0,0,0,36,0,0,0,0,0,0,0,0,0,0,0,0,0,0,0,0,0,0,0,0,0,43,0,0,0,0,0,0,0,0,0,0,22,0,9,0,0,0,0,0,0,0,0,0,0,0,0,0,0,0,0,0,0,0,0,0,0,0,0,0,0,0,0,0,0,0,0,0,0,0,0,0,0,0,47,0,0,0,0,0,0,0,0,0,0,0,0,0,0,0,0,0,0,0,0,0,0,0,0,0,0,0,0,0,0,0,0,0,0,0,0,0,0,0,0,0,0,0,4,0,0,0,0,0,0,0,0,0,0,0,0,0,0,0,0,0,0,0,0,0,0,0,0,0,0,0,0,0,0,0,0,0,0,0,0,0,0,0,0,0,0,0,0,0,0,0,0,0,0,0,0,0,0,0,0,0,0,0,0,0,0,0,0,0,0,0,0,0,0,0,0,0,0,0,0,0,0,0,0,0,0,0,0,0,0,0,0,0,0,0,0,0,0,0,0,0,0,0,0,0,0,0,0,0,0,0,0,0,0,0,0,0,0,0,0,0,0,0,0,0,0,0,0,0,0,0,0,0,0,0,0,0,0,0,0,0,0,0,0,0,0,0,0,0,0,0,0,0,0,0,0,0,0,0,0,0,0,0,0,0,0,0,0,0,0,0,0,0,0,0,0,0,0,0,0,0,0,0,0,0,0,0,0,0,0,0,0,0,0,0,0,0,0,0,0,0,0,0,0,0,0,0,0,0,0,0,0,0,0,0,0,0,0,0,0,0,0,0,0,0,0,0,0,0,0,0,0,0,0,0,0,0,0,0,0,0,0,0,0,0,0,0,0,0,0,0,0,0,0,0,34,0,0,0,0,0,0,0,0,0,0,0,0,0,0,0,0,0,0,0,0,0]:List Nat).getD n 0,fun n=>([0,0,0,0,0,1,0,0,0,0,0,0,0,0,0,0,0,0,0,0,0,0,0,0,0,0,0,0,0,0,0,0,0,0,0,0,0,0,0,0,0,0,0,0,0,0,0,0,0,0,0,0,0,0,0,0,0,0,0,0,0,0,0,0,0,0,0,0,0,0,0,0,0,0,0,0,0,0,0,0,0,0,0,0,0,0,0,0,0,0,0,0,0,0,0,0,0,0,0,0,0,0,0,0,0,0,0,0,0,0,0,0,0,0,0,0,0,0,0,0,0,0,0,0,0,0,0,0,0,0,0,0,0,0,0,0,0,0,0,0,0,0,0,0,0,0,0,0,0,0,0,0,0,0,0,0,0,0,0,0,0,0,0,0,0,0,0,0,0,0,0,0,0,0,0,0,0,0,0,0,0,0,0,0,0,0,0,0,0,0,0,0,0,0,0,0,0,0,0,0,0,0,0,0,0,0,0,0,0,0,0,0,0,0,0,0,0,0,0,0,0,0,0,0,0,0,0,0,0,0,0,0,0,0,0,0,0,0,0,0,0,0,0,0,0,0,0,0,0,0,0,0,0,0,0,0,0,0,0,0,0,0,0,0,0,0,0,0,0,0,0,0,0,0,0,0,0,0,0,0,0,0,0,0,0,0,0,0,0,0,0,0,0,0,0,0,0,0,0,0,0,0,0,0,0,0,0,0,0,0,0,0,0,0,0,0,0,0,0,0,0,0,0,0,0,0,0,0,0,0,0,0,0,0,0,0,0,0,0,0,0,0,0,0,0,0,0,0,0,0,0,0,0,0,0,0,0,0,0,0,0,0,0,0,0,0,0,0,0,0,0,0,0,0,0,0,0,0,0,0,0,0,0,0,0,0,0,0,0,0,0,0,0,0,0,0,0,0,0,0,0,0,0,0,0,0,0,0,0,0,0,0,0,0,0,0,0,0,0,0,0,0,0,0,0]:List Nat).getD n 0⟩
theorem mix:Tryd.prog.follows .mixedOrders=true:=by kernel_rfl
theorem qf:ah Tryd.prog 33 (mg ids) mh 2:=ah.mk' Tryd.func33 mix (by kernel_rfl) (by kernel_rfl) (by kernel_rfl)
theorem jG:ah Tryd.prog 32 (dq ids) dt 1:=ah.mk' Tryd.func32 mix (by kernel_rfl) (by kernel_rfl) (by kernel_rfl)
theorem lB:ah Tryd.prog 30 (eR ids) eS 2:=ah.mk' Tryd.func30 mix (by kernel_rfl) (by kernel_rfl) (by kernel_rfl)
theorem mS:ah Tryd.prog 26 (gC ids) gD 2:=ah.mk' Tryd.func26 mix (by kernel_rfl) (by kernel_rfl) (by kernel_rfl)
theorem oH:ah Tryd.prog 27 (jh ids) ji 1:=ah.mk' Tryd.func27 mix (by kernel_rfl) (by kernel_rfl) (by kernel_rfl)
theorem oI:ah Tryd.prog 25 (jj ids) jk 0:=ah.mk' Tryd.func25 mix (by kernel_rfl) (by kernel_rfl) (by kernel_rfl)
theorem oJ:ah Tryd.prog 15 (jl ids) jm 1:=ah.mk' Tryd.func15 mix (by kernel_rfl) (by kernel_rfl) (by kernel_rfl)
theorem oK:ah Tryd.prog 16 (jo ids) jq 1:=ah.mk' Tryd.func16 mix (by kernel_rfl) (by kernel_rfl) (by kernel_rfl)
theorem mT:ah Tryd.prog 4 (gH ids) gI 0:=ah.mk' Tryd.func4 mix (by kernel_rfl) (by kernel_rfl) (by kernel_rfl)
theorem mU:ah Tryd.prog 5 (gE ids) gF 1:=ah.mk' Tryd.func5 mix (by kernel_rfl) (by kernel_rfl) (by kernel_rfl)
theorem perm:eO Tryd.prog ids (ids.f 6):=jd jG (pV qf)
theorem kl:bU Tryd.prog ids (ids.f 7):=k8 lB perm
theorem qg:dy Tryd.prog ids (ids.f 8):=mz mS kl
theorem rN:fe Tryd.prog ids (ids.f 11):=n0 oH kl
theorem mV:cz Tryd.prog ids (ids.f 14):=od oJ (oc oI) qg rN
theorem qh:dA Tryd.prog ids (ids.f 21):=mE mT mV (oh oK)
theorem mW:ah Tryd.prog 19 (gJ ids) gK 1:=ah.mk' Tryd.func19 mix (by kernel_rfl) (by kernel_rfl) (by kernel_rfl)
theorem jH:ah Tryd.prog 31 (dB ids) dC 1:=ah.mk' Tryd.func31 mix (by kernel_rfl) (by kernel_rfl) (by kernel_rfl)
theorem lC:ah Tryd.prog 28 (fg ids) fh 1:=ah.mk' Tryd.func28 mix (by kernel_rfl) (by kernel_rfl) (by kernel_rfl)
theorem oL:ah Tryd.prog 6 (jr ids) js 0:=ah.mk' Tryd.func6 mix (by kernel_rfl) (by kernel_rfl) (by kernel_rfl)
theorem oM:ah Tryd.prog 18 (jt ids) ju 2:=ah.mk' Tryd.func18 mix (by kernel_rfl) (by kernel_rfl) (by kernel_rfl)
theorem mX:ah Tryd.prog 17 (gM ids) gN 2:=ah.mk' Tryd.func17 mix (by kernel_rfl) (by kernel_rfl) (by kernel_rfl)
theorem lD:ah Tryd.prog 8 (fj ids) fk 2:=ah.mk' Tryd.func8 mix (by kernel_rfl) (by kernel_rfl) (by kernel_rfl)
theorem jI:ah Tryd.prog 7 (dD ids) dE 2:=ah.mk' Tryd.func7 mix (by kernel_rfl) (by kernel_rfl) (by kernel_rfl)
theorem oN:ah Tryd.prog 10 (jv ids) jw 1:=ah.mk' Tryd.func10 mix (by kernel_rfl) (by kernel_rfl) (by kernel_rfl)
theorem lE:ah Tryd.prog 14 (fm ids) fo 2:=ah.mk' Tryd.func14 mix (by kernel_rfl) (by kernel_rfl) (by kernel_rfl)
theorem jJ:bL Tryd.prog (ids.f 51):=mG mW
theorem ph:dc Tryd.prog (ids.f 56):=om oM
theorem hM:bB Tryd.prog (ids.f 58):=lk (ι:=ids) lD (mI (ι:=ids) mX (lj (ι:=ids) lC (jx jH)) ph) ph
theorem iP:bH Tryd.prog (ids.f 59):=jy (ι:=ids) jI hM
theorem pj:de Tryd.prog (ids.f 60):=ot (ι:=ids) oN jJ
theorem pk:dd Tryd.prog (ids.f 55):=oo oL
theorem oO:cM Tryd.prog ids (ids.f 63):=lq lE pk iP hM pj mV
abbrev iQ:List (String×DataW Unit):=[("arbac/keccak.rounds",Rows.laid_arbac_keccak_rounds),("arbac/keccak.turns",Rows.laid_arbac_keccak_turns)]
theorem qi:ah Tryd.prog 20 (mJ ids) mK 1:=ah.mk' Tryd.func20 mix (by kernel_rfl) (by kernel_rfl) (by kernel_rfl)
theorem jK:ah Tryd.prog 21 (dH ids) dI 3:=ah.mk' Tryd.func21 mix (by kernel_rfl) (by kernel_rfl) (by kernel_rfl)
theorem mY:ah Tryd.prog 29 (gX ids) gY 2:=ah.mk' Tryd.func29 mix (by kernel_rfl) (by kernel_rfl) (by kernel_rfl)
theorem oP:ah Tryd.prog 24 (jB ids) jC 1:=ah.mk' Tryd.func24 mix (by kernel_rfl) (by kernel_rfl) (by kernel_rfl)
theorem mZ:ah Tryd.prog 22 (gT ids) gU 1:=ah.mk' Tryd.func22 mix (by kernel_rfl) (by kernel_rfl) (by kernel_rfl)
theorem na:ah Tryd.prog 23 (gV ids) gW 2:=ah.mk' Tryd.func23 mix (by kernel_rfl) (by kernel_rfl) (by kernel_rfl)
theorem lF:ah Tryd.prog 12 (fq ids) ft 2:=ah.mk' Tryd.func12 mix (by kernel_rfl) (by kernel_rfl) (by kernel_rfl)
theorem nb:ah Tryd.prog 9 (gR ids) gS 1:=ah.mk' Tryd.func9 mix (by kernel_rfl) (by kernel_rfl) (by kernel_rfl)
theorem jL:ah Tryd.prog 11 (dF ids) dG 2:=ah.mk' Tryd.func11 mix (by kernel_rfl) (by kernel_rfl) (by kernel_rfl)
theorem oQ:ah Tryd.prog 13 (jz ids) jA 1:=ah.mk' Tryd.func13 mix (by kernel_rfl) (by kernel_rfl) (by kernel_rfl)
theorem lG:ah Tryd.prog 3 (fx ids) fy 3:=ah.mk' Tryd.func3 mix (by kernel_rfl) (by kernel_rfl) (by kernel_rfl)
theorem qj:dg Tryd.prog (ids.f 109):=qd qi
theorem nc:fu Tryd.prog (ids.f 110):=jD (ι:=ids) jK (mN (ι:=ids) mY qj)
theorem qk:dK Tryd.prog (ids.f 111):=mP mZ
theorem ql:dL Tryd.prog (ids.f 112):=mQ (ι:=ids) na jJ
theorem km:di Tryd.prog (ids.f 114):=lx (ι:=ids) lF qj nc qk ql
theorem nd:fw Tryd.prog (ids.f 115):=jE (ι:=ids) jL km
theorem qm:dJ Tryd.prog (ids.f 108):=mM (ι:=ids) nb jJ
theorem rO:fv Tryd.prog (ids.f 117):=oz (ι:=ids) oQ qj (oy oP)
theorem own:ownKnob Tryd.prog.godebug=none:=by kernel_rfl
theorem oR:Tryd.prog.globalNamed "arbac/keccak.rounds" =some 0:=by kernel_rfl
theorem qn:Tryd.prog.globalNamed "arbac/keccak.turns" =some 1:=by kernel_rfl
theorem oS:(Tryd.prog.globals[0]?).map (·.type)=some 64/\Tryd.prog.underlying 64=some (.array 24 45)/\Tryd.prog.underlying 45=some (.int .u64)/\Tryd.prog.cellsOf 45=1/\Tryd.prog.cellsOf 64=24:=⟨by kernel_rfl,by kernel_rfl,by kernel_rfl,by kernel_rfl,by kernel_rfl⟩
theorem qo:(Tryd.prog.globals[1]?).map (·.type)=some 67/\Tryd.prog.underlying 67=some (.array 25 3)/\Tryd.prog.underlying 3=some (.int .i64)/\Tryd.prog.cellsOf 3=1/\Tryd.prog.cellsOf 67=25:=⟨by kernel_rfl,by kernel_rfl,by kernel_rfl,by kernel_rfl,by kernel_rfl⟩
theorem oT:(Rows.laid_arbac_keccak_rounds:DataW Unit)=.agg ((bm.map fun x=>(x.toNat:Int)).map fun x=>.lit (.int .u64 x)):=rfl
theorem qp:(Rows.laid_arbac_keccak_turns:DataW Unit)=.agg ((bx.map fun(x:Nat)=>(x:Int)).map fun x=>.lit (.int .i64 x)):=rfl
theorem oU {W:World} (h:laidMetH Tryd.prog iQ W):aE ids W.heap:=by
 rw[MakeChecks.laidMetH_plain _ _ _ (by kernel_rfl)]at h;obtain⟨ps,⟨g0,t0,x7,f0,p0,q0,vM,xA,xB,xC,⟨g1,t1,x8,f1,p1,q1,vN,rE,xD,hd1,rfl,rfl⟩,rfl⟩,_,hz⟩:=h;obtain rfl:=Option.some.inj (oR.symm.trans vM);obtain rfl:=Option.some.inj (qn.symm.trans vN);obtain⟨a0,b0,c0,d0,i0⟩:=oS;obtain⟨a1,b1,c1,d1,i1⟩:=qo;obtain rfl:=Option.some.inj (a0.symm.trans xA);obtain rfl:=Option.some.inj (a1.symm.trans rE);have vP:∀b off,MemPlace.cell b off∈_->∃c t,W.heap[b]?=some (.cells c t (0,0)):=fun b off h=>(hz b off h).1;have r0:=gd vM xB xC oT b0 c0 d0 i0 rfl (by omega) (fun x hx=>by simp only[List.mem_append];exact .inl (.inl hx)) vP;have r1:=gd vN xD hd1 qp b1 c1 d1 i1 rfl (by omega) (fun x hx=>by simp only[List.mem_append];exact .inr (.inl (.inl hx))) vP;simp only[List.map_map]at r0 r1;exact⟨r0,r1⟩
theorem nf (os:Os) (args:Array Value):laidMetH Tryd.prog iQ ((World.doorLaid Tryd.prog 4000 os).forCall (fun _ _=>0) ⟨#[],args,[]⟩).memory:=
 laidMetH_of_parts3 (fuel:=8) (laidMet_of_run' 8 (by kernel_rfl) (by kernel_rfl)) (by kernel_rfl) (by kernel_rfl)
theorem laidOut:laidOutB Tryd.prog=true:=by kernel_rfl
theorem rP:Tryd.prog.underlying 4=some .bool:=by kernel_rfl
theorem pn:Tryd.prog.cellsOf 5=1:=by kernel_rfl
theorem po:Tryd.prog.underlying 5=some (.int .u8):=by kernel_rfl
theorem lifted (os:Os) (started:os.Started) (H:Type) (enc:TypeId×Value->H):
  ReturnsInHanded {} Tryd.checked os 3 .any (fun w args=>(Rows.keccakPartsSpec.pre enc Tryd.prog Tryd.f3 [] false w args/\laidMetH Tryd.prog iQ w)/\sizedMet enc Tryd.prog Tryd.f3 (OpenSpec.ofChange Rows.keccakPartsSpec) false w args)
   (Rows.keccakPartsSpec.post enc Tryd.prog Tryd.f3 false true false false):=by
 refine returnsInHanded_of_change_and (C:=Tryd.checked) (X:=fun w _=>laidMetH Tryd.prog iQ w) (fun _ _ _ hh h=>h.of_heap hh) own started (by kernel_rfl) Tryd.func3
  (ChangeSpec.witness_shaped (enc:=enc) (C:=Tryd.checked) (os:=os) (X:=fun w _=>laidMetH Tryd.prog iQ w) false (World.doorLaid Tryd.prog 4000 os) #[.string ByteArray.empty,.slice none 0 0,.slice none 0 0] 8 rfl (World.shaped_of_RefB (by kernel_rfl) (by kernel_rfl)) (by kernel_rfl) (by kernel_rfl) (by kernel_rfl) (nf os _)) ?_
 intro W base args ds gs before hval0 hW _ _ hL _;have hval:∀(j:Nat) t v,Tryd.f3.params[j]?=some t->args[j]?=some v->Value.okWide Tryd.prog W .any base t v:=hval0;have hG:=oU hL;have uW:=hW;obtain⟨p,q,xE,hV,rfl,x9,yb⟩:=uW;have hA:DataW.TrodAll enc Tryd.prog W 0 (fun _=>true) true Tryd.f3.params.toList args.toList ds p:=xE;rw[Tryd.params3]at hA hval;obtain⟨v0,v1,v2,d0,d1,d2,p0,p1,p2,rfl,rfl,rfl,h0,h1,h2⟩:=trodAll_three hA;obtain⟨rfl,rfl⟩:=trodVars_none hV;obtain⟨l0,rfl,m0⟩:=lA Tryd.underlying9 (hval 0 9 v0 rfl rfl) h0;obtain⟨l1,s1⟩:=cB Tryd.underlying22 po pn (hval 1 22 v1 rfl rfl) h1;obtain⟨l2,s2⟩:=cB Tryd.underlying22 po pn (hval 2 22 v2 rfl rfl) h2;exact jF hW rfl rfl (by kernel_rfl) rP laidOut (by kernel_rfl) (lz (ι:=ids) lG qh (mC mU) pk iP hM pj mV oO qm nd km rO l0 l1 l2 v1 v2 W.heap hG s1 s2)
theorem dj:Rows.KeccakPartsSaid:=
 OpenClaim.holds_of_wide 3 Tryd.f3 rfl rfl rfl rfl rfl rfl rfl ⟨rfl,rfl,rfl,rfl,rfl⟩ rfl rfl rfl rfl rfl (by kernel_rfl) Tryd.func3 (by kernel_rfl)
  (of_decide_eq_true (by kernel_rfl)) (by unfold Func.isWrapper;first|(rw[if_pos (by decide+kernel)];kernel_rfl)|(rw[if_neg (by decide+kernel)];exact⟨rfl,rfl⟩))
  (fun os started H enc _=>lifted os started H enc)
theorem keccakParts_card:Rows.KeccakPartsCardSaid:=
 Claim7.holds_tied_plain_at .later [] [.data,.data] true (true, "7bd69d9be0fa853399de3435f8cadc32155cf06adf876b743ace9bce11db905f") false
  dj (fun _ h=>by cases h) (by kernel_rfl) (fun _ h=>by cases h) keccakParts_row_tie rfl ⟨rfl,rfl⟩ (by kernel_rfl) rfl
  (fun f fn hf hfn=>by
   obtain rfl:f=3:=Option.some.inj ((show Tryd.prog.funcNamed "arbac/arbaclaw03.KeccakParts" =some 3 by kernel_rfl).symm.trans hf)|>.symm;obtain rfl:fn=Tryd.f3:=(Option.some.inj (Tryd.func3.symm.trans hfn)).symm;exact⟨by kernel_rfl,fun j t ht=>by
    rw[Tryd.params3]at ht;have hm:t∈[9,22,22]:=by simpa using Array.mem_of_getElem? ht
    have hall:([9,22,22].all fun u=>!Tryd.prog.wantsStandIn u)=true:=by kernel_rfl
    exact(show Tryd.prog.wantsStandIn t=false by simpa using List.all_eq_true.1 hall t hm)⟩)
  (by kernel_rfl)
end Go.Proofs.YtkfikjdbdfekfabDoor

/- Lemmas of ours. No conditions. -/
import Derived.Test.YtoclemmcphgikaaGreatDoorMgG7
open Nat renaming reduceEqDiff→Za,reduceAdd→Zb,reduceMul→Zc,reduceLeDiff→Zd,reduceLT→Ze
open Int renaming reduceBEq→Zf,reduceBNe→Zg,reduceLE→Zh,reduceLT→Zi
set_option linter.all false
set_option maxRecDepth 100000
namespace Go.Mg
open Go Go.RowKit
def Ar (ι:aG):S:=
 kY [kC 4 (.bool false)] (kY [kA 5 0,.e .no (.st (.v 1) (.t 5)),.e .no (.st (.v 2) (.c (.bool true)))] (kY [kC 4 (.bool true)] .ret))
def As:List RV:=[.t 4]
def D0 (ι:aG):T:=
 (kW 14 (.m (.bld #[kZ,kZ,kZ,kZ,kZ,kZ,kZ,.int .i64 0,.int .i64 0,.nilFunc] [(0,(5,.t 7)),(5,(1,.t 10)),(6,(1,.t 11)),(8,(1,.t 12)),(9,(1,.t 13))])) (.wcons (.t 15) .none (.box (ι.t 370) (.t 14)) (kX 6 (.mv (.t 15)) .done) .wnil))
def GV (ι:aG):S:=
 kY [kR 3 (ι.t 358) 0,kC 6 (.pointer .none)] (.seq (.dr (kW 7 (.m (.ldn 5 (.v 3))) (kW 8 (.fa 4 (.v 3)) (kW 9 (.ld (.t 8)) (kW 12 (.mv (.v 1)) (kW 13 (.mv (.v 2)) (.wcons (.t 10) .none (.call (ι.f 159) [.t 9]) (.wcons (.t 11) .none (.qf (ι.t 368) 4 64 #[.int .u8 0,.int .i64 0,kZ,kZ] (.c (.int .i64 1)) (.c (.int .i64 1))) (D0 ι) .wnil) (.wcons (.t 11) .none (.qf (ι.t 368) 4 64 #[.int .u8 0,.int .i64 0,kZ,kZ] (.c (.int .i64 1)) (.c (.int .i64 1))) (.wcons (.t 10) .none (.call (ι.f 159) [.t 9]) (D0 ι) .wnil) .wnil)))))))) .ret)
def GW:List RV:=[.t 6]
def vz (ι:aG):S:=
 kY [kR 2 (ι.t 358) 0,.e (.v 4) (.new (ι.t 138) #[kZ]),.e (.v 5) (.new (ι.t 372) #[kZ]),.e (.v 6) (.new (ι.t 151) #[.bool false]),kC 7 (.int .i64 0)] (.seq (kY [kM 10 5 2,.e (.t 11) (.call (ι.f 360) [.t 10]),kB 8 11] (kY [kA 12 8,kV 13 (.cm .neq .i64 (.t 12) (.c (.int .i64 0)))] (.ite (.v 13) (.seq (.dr (kW 15 (.mv (.v 8)) (.wcons (.t 14) .none (.rd (.m (.ldn 1 (.v 5)))) (.wcons .no .none (.st (.v 4) (.c (kZ))) (.wcons .no .none (.stn 1 (.v 5) (.t 14)) (.wcons .no .none (.st (.v 6) (.c (.bool false))) (kX 7 (.mv (.t 15)) .done) .wnil) .wnil) .wnil) (.wcons .no .none (.st (.v 4) (.c (kZ))) (.wcons (.t 14) .none (.rd (.m (.ldn 1 (.v 5)))) (.wcons .no .none (.stn 1 (.v 5) (.t 14)) (.wcons .no .none (.st (.v 6) (.c (.bool false))) (kX 7 (.mv (.t 15)) .done) .wnil) .wnil) .wnil) .wnil)))) .ret) .skip))) (.seq (kY [kA 16 1,kV 17 (.cm .lss .i64 (.t 16) (.c (.int .i64 0)))] (.ite (.v 17) (.seq (.dr (.wcons (.t 18) .none (.rd (.m (.ldn 1 (.v 5)))) (.wcons .no .none (.st (.v 4) (.c (kZ))) (.wcons .no .none (.stn 1 (.v 5) (.t 18)) (.wcons .no .none (.st (.v 6) (.c (.bool false))) (kX 7 (.mv (.c (.int .i64 1))) .done) .wnil) .wnil) .wnil) (.wcons .no .none (.st (.v 4) (.c (kZ))) (.wcons (.t 18) .none (.rd (.m (.ldn 1 (.v 5)))) (.wcons .no .none (.stn 1 (.v 5) (.t 18)) (.wcons .no .none (.st (.v 6) (.c (.bool false))) (kX 7 (.mv (.c (.int .i64 1))) .done) .wnil) .wnil) .wnil) .wnil))) .ret) .skip)) (kY [kM 19 5 2,kA 20 1,kU 21 (.m (.mkf (ι.f 369) [] [.v 4,.v 6])),.e (.t 22) (.call (ι.f 371) [.t 19,.t 20,.t 21]),kB 9 22] (kY [kA 23 9,.e (.t 24) (.call (ι.f 367) [.t 23,.c (.int .i64 0)])] (.seq (.blk 0 (kY [kU 26 (.ld (.v 6)),kB 25 26] (.ite (.v 25) (.seq (.dr (.wcons (.t 27) .none (.rd (.ld (.v 4))) (.wcons (.t 28) .none (.rd (.m (.ldn 1 (.v 5)))) (.wcons .no .none (.st (.v 4) (.t 27)) (.wcons .no .none (.stn 1 (.v 5) (.t 28)) (.wcons .no .none (.st (.v 6) (.c (.bool true))) (kX 7 (.mv (.c (.int .i64 0))) .done) .wnil) .wnil) .wnil) (.wcons .no .none (.st (.v 4) (.t 27)) (.wcons (.t 28) .none (.rd (.m (.ldn 1 (.v 5)))) (.wcons .no .none (.stn 1 (.v 5) (.t 28)) (.wcons .no .none (.st (.v 6) (.c (.bool true))) (kX 7 (.mv (.c (.int .i64 0))) .done) .wnil) .wnil) .wnil) .wnil)) (.wcons (.t 28) .none (.rd (.m (.ldn 1 (.v 5)))) (.wcons (.t 27) .none (.rd (.ld (.v 4))) (.wcons .no .none (.st (.v 4) (.t 27)) (.wcons .no .none (.stn 1 (.v 5) (.t 28)) (.wcons .no .none (.st (.v 6) (.c (.bool true))) (kX 7 (.mv (.c (.int .i64 0))) .done) .wnil) .wnil) .wnil) .wnil) .wnil))) .ret) (kY [kA 30 9,.e (.t 31) (.call (ι.f 366) [.t 30]),kB 29 31] (.ite (.v 29) (.seq (.dr (.wcons (.t 32) .none (.rd (.m (.ldn 1 (.v 5)))) (.wcons .no .none (.st (.v 4) (.c (kZ))) (.wcons .no .none (.stn 1 (.v 5) (.t 32)) (.wcons .no .none (.st (.v 6) (.c (.bool false))) (kX 7 (.mv (.c (.int .i64 3))) .done) .wnil) .wnil) .wnil) (.wcons .no .none (.st (.v 4) (.c (kZ))) (.wcons (.t 32) .none (.rd (.m (.ldn 1 (.v 5)))) (.wcons .no .none (.stn 1 (.v 5) (.t 32)) (.wcons .no .none (.st (.v 6) (.c (.bool false))) (kX 7 (.mv (.c (.int .i64 3))) .done) .wnil) .wnil) .wnil) .wnil))) .ret) .skip))))) (.seq (.dr (kW 33 (.mv (.v 9)) (kW 34 (.nil (.t 33)) (kW 35 (.fa 6 (.t 34)) (kW 36 (.ld (.t 35)) (kW 37 (.m (.bld #[kZ] [(0,(1,.t 36))])) (.wcons .no .none (.st (.v 4) (.c (kZ))) (.wcons .no .none (.stn 1 (.v 5) (.t 37)) (.wcons .no .none (.st (.v 6) (.c (.bool false))) (kX 7 (.mv (.c (.int .i64 0))) .done) .wnil) .wnil) .wnil))))))) .ret))))))
def vA:List RV:=[.c1 4,.cn 5 1,.c1 6,.t 7]
def W3 (r4 r5 r6 q:Nat):Prop:=q=r4\/q=r5\/q=r6
def abM (seen:List (List Int)):Bool:=!seen.isEmpty
def aeU (r4 r5 r6:Nat) (seen:List (List Int)) (H:Hp):Prop:=match seen with
 |[]=>Bl H r4 [.slice none 0 0]/\Bl H r5 [.slice none 0 0]/\Bl H r6 [.bool false]
 |t::_=>∃v,Bl H r4 [v]/\Bl H r5 [.slice none 0 0]/\Bl H r6 [.bool true]/\aO H v (iL t)/\∀q,aT v q->¬W3 r4 r5 r6 q
variable {P:Program} {ι:aG} {k:FuncId}
theorem PT (hk:al P k (Ar ι) As 3) {r4 r5 r6:Nat} (hne:r4≠r5/\r4≠r6/\r5≠r6):Jv P (W3 r4 r5 r6) (.func (.func k) #[] #[.pointer (some ⟨r4,0,none⟩),.pointer (some ⟨r6,0,none⟩)]) abM (aeU r4 r5 r6):=by
 refine⟨⟨k,_,rfl,hk.body,fun seen t v H hst hJ hv hn=>?_⟩,fun seen H H' W hst hJ hK hW=>?_⟩
 ·have hs:seen=[]:=by
   cases seen with
   |nil=>rfl
   |cons a l=>cases hst
  subst hs;obtain⟨B4,B5,B6⟩:=hJ
  change an P k #[v,.pointer (some ⟨r4,0,none⟩),.pointer (some ⟨r6,0,none⟩)] H _
  refine ah hk (args:=[_,_,_]) (by simp) ?_;unfold Ar As kA kC kY;have hs:=hv.aq;have t4:=B4.bu (o:=0) (by simp);have wQ:=B4.az 0 v;have k4:af (fun q=>q=r4) H (az H ⟨r4,0,none⟩ v):=(af.refl _ _).az _ (.inl rfl);have WU:=k4.bl B6 (fun e=>hne.2.1 e.symm);have t6:=WU.bu (o:=0) (by simp);have B6s:=WU.az 0 (.bool true);have k6:af (fun q=>q=r6) (az H ⟨r4,0,none⟩ v) (az (az H ⟨r4,0,none⟩ v) ⟨r6,0,none⟩ (.bool true)):=(af.refl _ _).az _ (.inl rfl);have o1:v.oneCell'=true:=aI hs;simp only[go_sem,Za,Zb,t4];refine⟨o1,?_⟩;rw[ae];simp only[go_sem,Za,Zb,t6];rw[ae];simp only[go_sem,Za,Zb,ae];have KK:af (W3 r4 r5 r6) H (az (az H ⟨r4,0,none⟩ v) ⟨r6,0,none⟩ (.bool true)):=(k4.mono fun q _ e=>.inl e).trans (k6.mono fun q _ e=>.inr (.inr e));exact⟨rfl,⟨v,k6.bl wQ hne.2.1,k6.bl (k4.bl B5 fun e=>hne.1 e.symm) hne.2.2,B6s,hv.ai KK fun q hq=>hn q hq,hn⟩,KK⟩
 ·have hs:seen=[]:=by
   cases seen with
   |nil=>rfl
   |cons a l=>cases hst
  subst hs;exact⟨hK.bl hJ.1 (hW _ (.inl rfl)),hK.bl hJ.2.1 (hW _ (.inr (.inl rfl))),hK.bl hJ.2.2 (hW _ (.inr (.inr rfl)))⟩
def xN (P:Program) (k:FuncId):Prop:=∀(el di sa mo fv:Value) (fx:List Int) (g:FuncId) (ca:Array Value) (H:Hp),aO H fv (iL fx)->fx≠[]->fx.length<=1000→
 an P k #[.agg #[el,di,sa,mo,fv],.int .i64 0,.func (.func g) #[] ca] H fun r H'=>∃sB cq gH nv,r=.pointer (some ⟨sB,0,none⟩)/\H.size<=cq/\cq<sB∧
  Bl H' sB [el,di,sa,mo,fv,.slice (some ⟨cq,0,none⟩) fx.length gH,nv,.int .i64 0,.int .i64 0,.func (.func g) #[] ca]/\bq H' (.slice (some ⟨cq,0,none⟩) fx.length gH) (iL fx)∧
  (∃nl,bT xL 4 H' nv nl/\nl.length=1)/\(∀q,ax nv q->H.size<=q/\q≠cq/\q<sB)/\af (fun _=>False) H H'
theorem ZV {W:Nat->Prop} {el di sa mo fv:Value} {ba:Option Addr} {n gH nn nc:Nat} {no:Option Addr} {g:FuncId} {ca:Array Value} {e:Env} {f:Fr} {A:Hp} {Q:Fr->Hp->Prop}
  (e7:look e 7=.agg #[el,di,sa,mo,fv]) (e10:look e 10=.slice ba n gH) (e11:look e 11=.slice no nn nc) (e12:look e 12=.int .i64 0) (e13:look e 13=.func (.func g) #[] ca)
  (hK:∀A',Bl A' A.size [el,di,sa,mo,fv,.slice ba n gH,.slice no nn nc,.int .i64 0,.int .i64 0,.func (.func g) #[] ca]->af (fun _=>False) A A'->Q (bL f 6 (.pointer (some ⟨A.size,0,none⟩))) A'):dg P W (D0 ι) e f A Q:=by
 unfold D0 kW kX kZ;simp-implicitDefEqProofs only[go_sem,↓reduceIte,Za,Zb,Zc,reduceCtorEq,Zf,Zg,Zh,Zi,Zd,Ze,e7,e10,e11,e12,e13];exact⟨(af.refl _ _).push _,hK _ (Bl.cS _ _ _) ((af.refl _ _).push _)⟩
theorem Uy (hk:al P k (GV ι) GW 3) (hc:fO P (ι.f 159)):xN P k:=by
 intro el di sa mo fv fx g ca H hf hne hl;refine ah hk (args:=[_,_,_]) (by simp) ?_;unfold GV GW kC kR kW kY kZ;simp only[go_sem,Za,Zb];refine ay fun H1 b3 e3 z3 B3 K3=>?_;have xc:Bl H1 b3 [el,di,sa,mo,fv]:=B3;have c4:cell H1 ⟨b3,4,none⟩=some fv:=by rw[xc.cell];rfl
 have l5:aR H1 ⟨b3,0,none⟩ 5=some #[el,di,sa,mo,fv]:=by
  have:=xc.aR (o:=0) (n:=5) (by simp);simpa using this
 have s3:=K3.size;have hf1:=hf.ai K3 (by simp);have zr:(rep #[Value.int .u8 0,.int .i64 0,.slice none 0 0,.slice none 0 0] 4).toList=([((0:Int),(0:Int),((none,0,0):S3),((none,0,0):S3))]:List Xn).flatMap xL:=by
  simp[rep,xL,ZM,Array.toList_range,List.range_succ]
 simp only[go_sem,Za,Zb];refine bo (fun _=>False) ?_;simp only[go_sem,Za,Zb,c4,l5,aC]
 -- what the tail leaves
 have tail:∀(e:Env) (A:Hp) (v:Value) (bn:Nat),bq A v (iL fx)->(∀q,ax v q->H.size<=q)->Bl A bn (([((0:Int),(0:Int),((none,0,0):S3),((none,0,0):S3))]:List Xn).flatMap xL)->H.size<=bn->(∀q,ax v q->q≠bn)->af (fun _=>False) H A→
   look e 7=.agg #[el,di,sa,mo,fv]->look e 10=v->look e 11=.slice (some ⟨bn,0,none⟩) 1 1->look e 12=.int .i64 0->look e 13=.func (.func g) #[] ca->∀(f:Fr),dg P (fun _=>False) (D0 ι) e f A fun f' A'=>mM [.t 6] (fun r H'=>∃sB cq gH nv,r=.pointer (some ⟨sB,0,none⟩)/\H.size<=cq/\cq<sB∧
  Bl H' sB [el,di,sa,mo,fv,.slice (some ⟨cq,0,none⟩) fx.length gH,nv,.int .i64 0,.int .i64 0,.func (.func g) #[] ca]/\bq H' (.slice (some ⟨cq,0,none⟩) fx.length gH) (iL fx)∧
  (∃nl,bT xL 4 H' nv nl/\nl.length=1)/\(∀q,ax nv q->H.size<=q/\q≠cq/\q<sB)/\af (fun _=>False) H H') .r f' A':=fun e A v bn O o Bn hbn hd KA e7 e10 e11 e12 e13 f=>by
  obtain⟨b,c,L,rfl,h1,h2,hB,h3,_⟩:=O.some (by intro e';exact hne (List.eq_nil_of_length_eq_zero (by rw[<-aA,e'];rfl)));rw[aA]at*;refine ZV e7 e10 e11 e12 e13 fun A' BA wP=>?_;have hb:=o b rfl;have hlt:=O.bj (k:=b) rfl;have aeV:=Bn.lt;simp only[go_sem,Za,Zb,ae];refine⟨A.size,b,c,.slice (some ⟨bn,0,none⟩) 1 1,rfl,hb,hlt,BA,O.ai wP (by simp),⟨[((0:Int),(0:Int),((none,0,0):S3),((none,0,0):S3))],?_,rfl⟩,fun q hq=>?_,KA.trans wP⟩
  ·exact bT.bl (wP.bl Bn (by simp)) rfl (Nat.le_refl _) (by simp[xL]) (by simp[xL])
  ·have tT:q=bn:=hq;subst tT;exact⟨hbn,fun e'=>hd b rfl e'.symm,aeV⟩
 refine⟨(hc fx fv H1 hf1 (by omega)).mono ?_,⟨by omega,by unfold maxLen;omega⟩,(af.refl _ _).push _,(hc fx fv _ (hf1.ai ((af.refl (fun _=>False) _).push _) (by simp)) (by omega)).mono ?_⟩
 ·rintro v A ⟨O,o,K⟩;have sK:=K.size;rw[aJ];refine⟨K,?_⟩;simp only[go_sem,Za,Zb];have B':=Bl.cS A (rep #[Value.int .u8 0,.int .i64 0,.slice none 0 0,.slice none 0 0] 4) (ι.t 368);rw[zr]at B';have KP:=(af.refl (fun _=>False) A).push (Obj.cells (rep #[Value.int .u8 0,.int .i64 0,.slice none 0 0,.slice none 0 0] 4) (ι.t 368));refine⟨⟨by omega,by unfold maxLen;omega⟩,KP,?_⟩;exact tail _ _ v A.size (O.ai KP (by simp)) (fun q hq=>by have:=o q hq;omega) B' (by omega) (fun q hq=>by have:=O.bj hq;omega) ((K3.trans K).trans KP) rfl rfl rfl rfl rfl _
 ·rintro v A ⟨O,o,K⟩;have sK:=K.size;rw[Array.size_push]at sK;have B':=Bl.cS H1 (rep #[Value.int .u8 0,.int .i64 0,.slice none 0 0,.slice none 0 0] 4) (ι.t 368);rw[zr]at B';have KP:=(af.refl (fun _=>False) H1).push (Obj.cells (rep #[Value.int .u8 0,.int .i64 0,.slice none 0 0,.slice none 0 0] 4) (ι.t 368));rw[aJ];refine⟨K,?_⟩;simp only[go_sem,Za,Zb];refine tail _ _ v H1.size O (fun q hq=>?_) (K.bl B' (by simp)) (by omega) (fun q hq=>?_) ((K3.trans KP).trans K) rfl rfl rfl rfl rfl _
  ·have:=o q hq;rw[Array.size_push]at this;omega
  ·have:=o q hq;rw[Array.size_push]at this;omega
structure iT (r4 r5 r6:Nat) (H0 H:Hp) (x4 x5 x6:Value):Prop where
 b4:Bl H r4 [x4]
 b5:Bl H r5 [x5]
 b6:Bl H r6 [x6]
 k:af (fun q=>q=r4\/q=r5\/q=r6) H0 H
section
variable {P:Program} {r4 r5 r6:Nat} {H0 X:Hp} {x4 x5 x6:Value} {e:Env} {f:Fr} {t m:T} {d:Nat} {Q:Fr->Hp->Prop} {a:A}
theorem iT.rd4 (h:iT r4 r5 r6 H0 X x4 x5 x6) (f4:f 4=.pointer (some ⟨r4,0,none⟩)) (hK:dg P (W3 r4 r5 r6) t ((d,x4)::e) f X Q) (hm:dg P (W3 r4 r5 r6) m e f X Q):dg P (W3 r4 r5 r6) (.wcons (.t d) none (.rd (.ld (.v 4))) t m) e f X Q:=by
 have c4:cell X ⟨r4,0,none⟩=some x4:=by rw[h.b4.cell];rfl
 rw[dK];simp only[EX.wp,PX.pre,PX.val,jG,f4,yq,c4,aJ,fZ,mN,Option.isSome_some,Option.getD_some];exact⟨⟨trivial,af.refl _ _,hK⟩,hm⟩
theorem iT.rd5 (h:iT r4 r5 r6 H0 X x4 x5 x6) (f5:f 5=.pointer (some ⟨r5,0,none⟩)) (hK:dg P (W3 r4 r5 r6) t ((d,.agg #[x5])::e) f X Q) (hm:dg P (W3 r4 r5 r6) m e f X Q):dg P (W3 r4 r5 r6) (.wcons (.t d) none (.rd (.m (.ldn 1 (.v 5)))) t m) e f X Q:=by
 have l5:aM X (.pointer (some ⟨r5,0,none⟩)) 1=some #[x5]:=h.b5.aM 1 rfl;rw[dK];simp only[EX.wp,PX.pre,PX.val,PM.pre,PM.val,jG,f5,l5,aJ,fZ,mN,Option.isSome_some,Option.getD_some];exact⟨⟨trivial,af.refl _ _,hK⟩,hm⟩
theorem iT.st4 (h:iT r4 r5 r6 H0 X x4 x5 x6) (hn:r4≠r5/\r4≠r6/\r5≠r6) (f4:f 4=.pointer (some ⟨r4,0,none⟩)) {y:Value} (ha:a.rd e f=y) (hy:y.oneCell'=true) (hK:∀X',iT r4 r5 r6 H0 X' y x5 x6->dg P (W3 r4 r5 r6) t e f X' Q) (hm:dg P (W3 r4 r5 r6) m e f X Q):dg P (W3 r4 r5 r6) (.wcons .no none (.st (.v 4) a) t m) e f X Q:=by
 have t4:=h.b4.bu (o:=0) (by simp);have K:af (fun q=>q=r4) X (az X ⟨r4,0,none⟩ y):=(af.refl _ _).az _ (.inl rfl);rw[dK];simp only[EX.wp,bu,RN,jG,f4,ha,aJ,mR,iO];exact⟨⟨⟨t4,hy⟩,K.mono fun q _ e=>.inl e,hK _ ⟨h.b4.az 0 y,K.bl h.b5 fun e=>hn.1 e.symm,K.bl h.b6 fun e=>hn.2.1 e.symm,h.k.trans (K.mono fun q _ e=>.inl e)⟩⟩,hm⟩
theorem iT.st6 (h:iT r4 r5 r6 H0 X x4 x5 x6) (hn:r4≠r5/\r4≠r6/\r5≠r6) (f6:f 6=.pointer (some ⟨r6,0,none⟩)) {y:Value} (ha:a.rd e f=y) (hy:y.oneCell'=true) (hK:∀X',iT r4 r5 r6 H0 X' x4 x5 y->dg P (W3 r4 r5 r6) t e f X' Q) (hm:dg P (W3 r4 r5 r6) m e f X Q):dg P (W3 r4 r5 r6) (.wcons .no none (.st (.v 6) a) t m) e f X Q:=by
 have t4:=h.b6.bu (o:=0) (by simp);have K:af (fun q=>q=r6) X (az X ⟨r6,0,none⟩ y):=(af.refl _ _).az _ (.inl rfl);rw[dK];simp only[EX.wp,bu,RN,jG,f6,ha,aJ,mR,iO];exact⟨⟨⟨t4,hy⟩,K.mono fun q _ e=>.inr (.inr e),hK _ ⟨K.bl h.b4 hn.2.1,K.bl h.b5 hn.2.2,h.b6.az 0 y,h.k.trans (K.mono fun q _ e=>.inr (.inr e))⟩⟩,hm⟩
theorem iT.st5 (h:iT r4 r5 r6 H0 X x4 x5 x6) (hn:r4≠r5/\r4≠r6/\r5≠r6) (f5:f 5=.pointer (some ⟨r5,0,none⟩)) {y:Value} (ha:a.rd e f=.agg #[y]) (hy:y.oneCell'=true) (hK:∀X',iT r4 r5 r6 H0 X' x4 y x6->dg P (W3 r4 r5 r6) t e f X' Q) (hm:dg P (W3 r4 r5 r6) m e f X Q):dg P (W3 r4 r5 r6) (.wcons .no none (.stn 1 (.v 5) a) t m) e f X Q:=by
 have t4:=h.b5.bM (o:=0) (n:=1) (by simp);have K:af (fun q=>q=r5) X (aB X ⟨r5,0,none⟩ [y]):=(af.refl _ _).aB _ (.inl rfl);have B:=h.b5.aB 0 [y];have a1:bO #[y]:=bd (by simp[hy]);rw[dK];simp only[EX.wp,okN,fJ,jG,f5,ha,aJ,mR,iO,Value.cells];exact⟨⟨⟨t4,rfl,a1⟩,K.mono fun q _ e=>.inr (.inl e),hK _ ⟨K.bl h.b4 hn.1,B,K.bl h.b6 fun e=>hn.2.2 e.symm,h.k.trans (K.mono fun q _ e=>.inr (.inl e))⟩⟩,hm⟩
end
structure aeW (P:Program) (ι:aG):Prop where
 chk:jm P ι (ι.f 360)
 beg:xN P (ι.f 371)
 vis:al P (ι.f 367) (tx ι) tA 2
 slv:al P (ι.f 369) (Ar ι) As 3
 vc:PQ P ι
def en (p:pZ) (fx:List Int):Option (List Int):=(kn p (ko fx+1) fx).head?
def qR (P:Program) (ι:aG) (k:FuncId):Prop:=∀(p:pZ) (fx:List Int) (w:Nat) (v:Value) (H:Hp),bg ι H->jW H v p fx->ff p->xe p.el.length fx->(∀k,(aW (eV p k)).length<=w)->w<=256->1+gN w (ko fx)<=2199023255552→
 an P k #[v,.int .i64 0] H fun r H'=>∃sv rv,aq rv/\r=.tuple #[sv,.agg #[rv],.bool (en p fx).isSome,.int .i64 0]/\af (fun _=>False) H H'/\match en p fx with|none=>sv=.slice none 0 0|some t=>aO H' sv (iL t)
theorem Lz {P:Program} {ι:aG} {k:FuncId} (hk:al P k (vz ι) vA 2) (c:aeW P ι):qR P ι k:=by
 intro p fx w v H hT hv hG hU hw hw1 hB;have pV:=hv;obtain⟨el,di,sa,mo,fv,vs,ms,rfl,hp⟩:=hv;refine qI fun Q hQ=>?_;refine ah hk (args:=[_,_]) (by simp) ?_;unfold vz vA kA kB kC kM kR kU kV kW kX kY kZ;have hul:=hU.1;have wW:=hG.n0;have hn:=hG.n;simp only[go_sem,Za,Zb];refine ay fun H1 b2 e1 z1 B1 K1=>?_;have bQ:Bl H1 b2 [el,di,sa,mo,fv]:=B1;simp only[go_sem,Za,Zb];refine ay fun H2 r4 e2 z2 B2 K2=>?_;have km:Bl H2 r4 [.slice none 0 0]:=B2;simp only[go_sem,Za,Zb];refine ay fun H3 r5 e3 z3 B3 K3=>?_;have xc:Bl H3 r5 [.slice none 0 0]:=B3;simp only[go_sem,Za,Zb];refine ay fun H4 r6 e4 z4 B4 K4=>?_;have rZ:Bl H4 r6 [.bool false]:=B4;have ED:=((K1.trans K2).trans K3).trans K4;have s4:=rZ.lt;have yL:=((K2.trans K3).trans K4).bl bQ (by simp);have Kq:=(K3.trans K4).bl km (by simp);have My:=K4.bl xc (by simp);have l5:aM H4 (.pointer (some ⟨b2,0,none⟩)) 5=some #[el,di,sa,mo,fv]:=yL.aM 5 rfl;have hne:r4≠r5/\r4≠r6/\r5≠r6:=by omega
 simp only[go_sem,Za,Zb,l5];refine(c.chk p fx _ H4 (pV.aj ED) hG hU).mono ?_;rintro r H5 ⟨rfl,K5⟩;have Ai:((0:Int)!=0)=false:=rfl;have e01:decide ((0:Int)<0)=false:=rfl;have Mz:=K5.bl yL (by simp);have l5:aM H5 (.pointer (some ⟨b2,0,none⟩)) 5=some #[el,di,sa,mo,fv]:=Mz.aM 5 rfl;rw[ae];simp only[go_sem,Za,Zb,Ai,e01,l5];have Pe:=ED.trans K5;have hp5:=hp.aj Pe;refine(c.beg el di sa mo fv fx _ _ H5 hp5.f (by intro e;rw[e]at hul;simp at hul;omega) (by omega)).mono ?_;rintro r H6 ⟨sB,cq,gH,nv,rfl,hb1,hb2,BS,OS,⟨nl,ON,hnl⟩,on,K6⟩;have s6:=K6.size;have s5:=K5.size;have Fy:=Pe.trans K6;have B26:=(K5.trans K6).bl Kq (by simp);have B36:=(K5.trans K6).bl My (by simp);have B46:=(K5.trans K6).bl rZ (by simp);have hev:=PT (P:=P) c.slv (r4:=r4) (r5:=r5) (r6:=r6) hne;have S6:pw H (W3 r4 r5 r6) sB cq gH el di sa mo fv (.func (.func (ι.f 369)) #[] #[.pointer (some ⟨r4,0,none⟩),.pointer (some ⟨r6,0,none⟩)]) H6 fx nv 1:=by
  have s1:=K1.size;have s2:=K2.size;have s3:=K3.size;have s04:=ED.size;refine⟨Fy,by omega,by omega,by omega,⟨?_,?_⟩,?_,⟨0,BS⟩,OS,⟨nl,ON,hnl⟩,fun q hq=>?_⟩
  ·rintro(h|h|h)<;>omega
  ·rintro(h|h|h)<;>omega
  ·rintro q (h|h|h)<;>omega
  ·obtain⟨h1,h2,h3⟩:=on q hq;refine⟨by omega,by omega,h2,?_⟩;rintro(h|h|h)<;>omega
 rw[ae];simp only[go_sem,Za,Zb];refine(PS c.vis rfl c.vc hev hp hT hG hU hw hw1 (ko fx) fx nv 1 0 [] H6 rfl hU S6 (by omega) hB rfl ⟨B26,B36,B46⟩).mono ?_;rintro r H7 ⟨rfl,J7,K7,hgo⟩;have s04:=ED.size;have s1:=K1.size;have s2:=K2.size;have s3:=K3.size;have KH7:af (fun _=>False) H H7:=Fy.trans' K7 fun q hq h=>by
  rcases h with h|h|(h|h|h)|h
  ·omega
  ·omega
  ·omega
  ·omega
  ·omega
  ·have:=(on _ h).1;omega
 have ct:∀{X:Hp},af (fun q=>q=r4\/q=r5\/q=r6) H7 X->af (fun _=>False) H X:=fun K=>KH7.trans' K fun q hq h=>by rcases h with h|h|h<;>omega
 rw[ae]
 cases hL:kn p (ko fx+1) fx with
 |nil=>
  have hs:en p fx=none:=by unfold en;rw[hL];rfl
  rw[hL]at J7 hgo;obtain⟨nG,N',S7,-,-,-⟩:=hgo rfl;obtain⟨B47,B57,B67⟩:Bl H7 r4 [.slice none 0 0]/\Bl H7 r5 [.slice none 0 0]/\Bl H7 r6 [.bool false]:=J7;obtain⟨lk,BS7⟩:=S7.blk;obtain⟨nl',ON',_⟩:=S7.nd;have c67:cell H7 ⟨r6,0,none⟩=some (.bool false):=by rw[B67.cell];rfl
  have hsB:¬(sB=r4\/sB=r5\/sB=r6):=by omega
  have cS6:cell H7 ⟨sB,6,none⟩=some nG:=by rw[BS7.cell];rfl
  simp only[go_sem,Za,Zb,c67];refine(c.vc.full sB _ lk H7 BS7 rfl).mono ?_;rintro r H8 ⟨rfl,rfl⟩;rw[ae];simp only[go_sem,Za,Zb];obtain⟨na,nn,nc,rfl⟩:=ON'.shape;refine bo (W3 r4 r5 r6) ?_;have hW:W3 r4 r5 r6 sB=False:=eq_false hsB;have base:iT r4 r5 r6 H8 H8 (.slice none 0 0) (.slice none 0 0) (.bool false):=⟨B47,B57,B67,af.refl _ _⟩
  rw[cB,cB,cB,cB,cB];refine⟨trivial,by simp only[go_sem,Za,Zb],by simp only[go_sem,Za,Zb],by simp only[go_sem,Za,Zb,cS6,hW],by simp only[go_sem,Za,Zb,cS6],?_⟩;refine base.st4 hne (by rfl) rfl rfl (fun X1 h1=>?_) trivial;refine h1.st5 hne (by rfl) (y:=.slice na nn nc) (by simp only[go_sem,Za,Zb,cS6]) rfl (fun X2 h2=>?_) trivial;refine h2.st6 hne (by rfl) rfl rfl (fun X3 h3=>?_) trivial;have k4:cell X3 ⟨r4,0,none⟩=some (.slice none 0 0):=by rw[h3.b4.cell];rfl
  have k6:cell X3 ⟨r6,0,none⟩=some (.bool false):=by rw[h3.b6.cell];rfl
  have k5:aM X3 (.pointer (some ⟨r5,0,none⟩)) 1=some #[.slice na nn nc]:=h3.b5.aM 1 rfl;simp only[go_sem,Za,Zb,dx,dy,k4,k5,k6];rw[hQ];exact⟨_,.slice na nn nc,trivial,by rw[hs];rfl,ct h3.k,by rw[hs]⟩
 |cons t L=>
  have hs:en p fx=some t:=by unfold en;rw[hL];rfl
  have hd:jo abM [] (t::L)=([t],true):=rfl;rw[hL,hd]at J7;obtain⟨sv,B47,B57,B67,hsv,hsn⟩:∃v,Bl H7 r4 [v]/\Bl H7 r5 [.slice none 0 0]/\Bl H7 r6 [.bool true]/\aO H7 v (iL t)/\∀q,aT v q->¬W3 r4 r5 r6 q:=J7;have c67:cell H7 ⟨r6,0,none⟩=some (.bool true):=by rw[B67.cell];rfl
  have hS:=hsv.aq;simp only[go_sem,Za,Zb,c67];refine bo (W3 r4 r5 r6) ?_;have base:iT r4 r5 r6 H7 H7 sv (.slice none 0 0) (.bool true):=⟨B47,B57,B67,af.refl _ _⟩
  have leaf:∀(X:Hp) (e:Env) (f:Fr),f 4=.pointer (some ⟨r4,0,none⟩)->f 5=.pointer (some ⟨r5,0,none⟩)->f 6=.pointer (some ⟨r6,0,none⟩)->iT r4 r5 r6 H7 X sv (.slice none 0 0) (.bool true)->dg P (W3 r4 r5 r6) (.px (.v 7) none (.mv (.c (.int .i64 0))) .done) e f X fun f' A'=>mM [.c1 4,.cn 5 1,.c1 6,.t 7] Q .r f' A':=fun X e f f4 f5 f6 h3=>by
   have k4:cell X ⟨r4,0,none⟩=some sv:=by rw[h3.b4.cell];rfl
   have k6:cell X ⟨r6,0,none⟩=some (.bool true):=by rw[h3.b6.cell];rfl
   have k5:aM X (.pointer (some ⟨r5,0,none⟩)) 1=some #[.slice none 0 0]:=h3.b5.aM 1 rfl;simp only[go_sem,Za,Zb,dx,dy,f4,f5,f6,k4,k5,k6];rw[hQ];refine⟨_,.slice none 0 0,trivial,by rw[hs];rfl,ct h3.k,?_⟩;rw[hs];exact hsv.ai h3.k hsn
  have o1:sv.oneCell'=true:=aI hS
  repeat' (first|exact trivial|exact leaf _ _ _ (by rfl) (by rfl) (by rfl) (by assumption)|refine iT.rd4 (by assumption) (by rfl) ?_ ?_|refine iT.rd5 (by assumption) (by rfl) ?_ ?_|refine iT.st4 (y:=sv) (by assumption) hne (by rfl) rfl o1 (fun _ _=>?_) ?_|refine iT.st5 (y:=.slice none 0 0) (by assumption) hne (by rfl) rfl rfl (fun _ _=>?_) ?_|refine iT.st6 (y:=.bool true) (by assumption) hne (by rfl) rfl rfl (fun _ _=>?_) ?_)
end Go.Mg
namespace Go.Mg
open Go Go.RowKit
def GX (ι:aG):S:=
 kY [kC 2 (kZ)] (.seq (kY [kA 3 0,kV 4 (.m (.eqn .sl false (.t 3)))] (.ite (.v 4) (kY [kC 2 (kZ)] .ret) .skip)) (kY [.e (.t 5) (.aV (ι.t 128) 1 0 []),kA 6 0,.e (.t 7) (.app false (ι.t 128) 1 24 #[kZ] (.t 5) (.t 6)),kB 2 7] .ret))
def GY:List RV:=[.t 2]
def GZ (ι:aG):S:=
 kY [kC 2 (kZ)] (.seq (kY [kA 3 0,kV 4 (.m (.eqn .sl false (.t 3)))] (.ite (.v 4) (kY [kC 2 (kZ)] .ret) .skip)) (kY [.e (.t 5) (.aV (ι.t 298) 2 0 []),kA 6 0,.e (.t 7) (.app false (ι.t 298) 2 32 #[.int .i64 0,kZ] (.t 5) (.t 6)),kB 2 7] .ret))
def G0:List RV:=[.t 2]
def PU (ι:aG):T:=
 (kW 43 (.m (.bld #[kZ,kZ,kZ,kZ,kZ] [(0,(1,.t 31)),(1,(1,.t 34)),(2,(1,.t 37)),(3,(1,.t 40)),(4,(1,.t 42))])) (.wcons (.v 9) .none (.new (ι.t 358) #[kZ,kZ,kZ,kZ,kZ]) (.wcons .no .none (.stn 5 (.v 9) (.t 43)) .done .wnil) .wnil))
def vB (ι:aG):T:=
 (kW 43 (.m (.bld #[kZ,kZ,kZ,kZ,kZ] [(0,(1,.t 31)),(1,(1,.t 34)),(2,(1,.t 37)),(3,(1,.t 40)),(4,(1,.t 42))])) (.wcons .no .none (.stn 5 (.v 9) (.t 43)) .done .wnil))
def PV (ι:aG):S:=
 (.dr (kW 30 (.mv (.v 1)) (kW 32 (.fa 2 (.v 3)) (kW 33 (.ld (.t 32)) (kW 35 (.fa 3 (.v 3)) (kW 36 (.ld (.t 35)) (kW 38 (.fa 4 (.v 3)) (kW 39 (.ld (.t 38)) (kW 41 (.mv (.v 2)) (.wcons (.t 31) .none (.call (ι.f 374) [.t 30]) (.wcons (.t 34) .none (.call (ι.f 204) [.t 33]) (.wcons (.t 37) .none (.call (ι.f 204) [.t 36]) (.wcons (.t 40) .none (.call (ι.f 375) [.t 39]) (.wcons (.t 42) .none (.call (ι.f 159) [.t 41]) (PU ι) (.wcons (.v 9) .none (.new (ι.t 358) #[kZ,kZ,kZ,kZ,kZ]) (.wcons (.t 42) .none (.call (ι.f 159) [.t 41]) (vB ι) .wnil) .wnil)) (.wcons (.v 9) .none (.new (ι.t 358) #[kZ,kZ,kZ,kZ,kZ]) (.wcons (.t 40) .none (.call (ι.f 375) [.t 39]) (.wcons (.t 42) .none (.call (ι.f 159) [.t 41]) (vB ι) .wnil) .wnil) .wnil)) (.wcons (.v 9) .none (.new (ι.t 358) #[kZ,kZ,kZ,kZ,kZ]) (.wcons (.t 37) .none (.call (ι.f 204) [.t 36]) (.wcons (.t 40) .none (.call (ι.f 375) [.t 39]) (.wcons (.t 42) .none (.call (ι.f 159) [.t 41]) (vB ι) .wnil) .wnil) .wnil) .wnil)) (.wcons (.v 9) .none (.new (ι.t 358) #[kZ,kZ,kZ,kZ,kZ]) (.wcons (.t 34) .none (.call (ι.f 204) [.t 33]) (.wcons (.t 37) .none (.call (ι.f 204) [.t 36]) (.wcons (.t 40) .none (.call (ι.f 375) [.t 39]) (.wcons (.t 42) .none (.call (ι.f 159) [.t 41]) (vB ι) .wnil) .wnil) .wnil) .wnil) .wnil)) (.wcons (.v 9) .none (.new (ι.t 358) #[kZ,kZ,kZ,kZ,kZ]) (.wcons (.t 31) .none (.call (ι.f 374) [.t 30]) (.wcons (.t 34) .none (.call (ι.f 204) [.t 33]) (.wcons (.t 37) .none (.call (ι.f 204) [.t 36]) (.wcons (.t 40) .none (.call (ι.f 375) [.t 39]) (.wcons (.t 42) .none (.call (ι.f 159) [.t 41]) (vB ι) .wnil) .wnil) .wnil) .wnil) .wnil) .wnil)))))))))))
def PW (ι:aG):S:=
 (.seq (kY [kM 50 5 9,.e (.t 51) (.call (ι.f 360) [.t 50]),kB 10 51] (kY [kA 52 10,kV 53 (.cm .neq .i64 (.t 52) (.c (.int .i64 0)))] (.ite (.v 53) (kY [kU 54 (.m (.bld #[kZ,kZ,kZ,kZ,kZ] [])),kA 55 10,.e .no (.stn 5 (.v 6) (.t 54)),kB 7 55] .ret) .skip))) (kY [kM 56 5 9,.e .no (.stn 5 (.v 6) (.t 56)),kC 7 (.int .i64 0)] .ret))
def PY (ι:aG):S:=
 (.seq (PV ι) (.seq (kY [kA 44 2,kL 45 44,kV 46 (.cm .eql .i64 (.t 45) (.c (.int .i64 0)))] (.ite (.v 46) (.reg [kA 47 8,.e (.t 48) (.qf (ι.t 26) 1 8 #[.int .i64 0] (.t 47) (.t 47)),kG 49 4 9,.e .no (.st (.t 49) (.t 48))]) .skip)) (PW ι)))
def Au (ι:aG):S:=
 kY [kR 3 (ι.t 296) 0,.e (.v 6) (.new (ι.t 358) #[kZ,kZ,kZ,kZ,kZ]),kC 7 (.int .i64 0)] (kY [kG 11 0 3,kD 12 11,kL 13 12,kB 8 13] (.seq (kY [kA 14 1,kL 15 14,kA 16 8,kU 17 (.cm .neq .i64 (.t 15) (.t 16)),kF 18 17,kS 19 18 false 2,kT 20 18 false (.m (.lenl (.t 19))),kS 21 18 false 8,kT 22 18 false (.cm .neq .i64 (.t 20) (.t 21)),kT 23 18 false (.mv (.t 22)),kS 24 23 true 2,kT 25 23 true (.m (.lenl (.t 24))),kT 26 23 true (.cm .neq .i64 (.t 25) (.c (.int .i64 0))),kT 27 18 false (.pick (.t 23) (.t 26) (.c (.bool false))),kV 28 (.pick (.t 18) (.c (.bool true)) (.t 27))] (.ite (.v 28) (kY [kU 29 (.m (.bld #[kZ,kZ,kZ,kZ,kZ] [])),.e .no (.stn 5 (.v 6) (.t 29)),kC 7 (.int .i64 1)] .ret) .skip)) (PY ι)))
def Av:List RV:=[.cn 6 5,.t 7]
def jq (P:Program) (k:FuncId):Prop:=∀(l:List Value) (v:Value) (H:Hp),aO H v l->(∀x∈l,aq x)->l.length<1000000->an P k #[v] H fun r H'=>bq H' r l/\(∀q,ax r q->H.size<=q)/\af (fun _=>False) H H'
variable {P:Program} {ι:aG} {k:FuncId}
theorem Uz (hk:al P k (GX ι) GY 1):jq P k:=by
 intro l v H hv h1 hn;have ha:bO l.toArray:=by
  intro x hx;exact aI (h1 x (by simpa using hx))
 refine ah hk (args:=[_]) (by simp) ?_;unfold GX GY kA kB kC kV kY kZ;obtain⟨a,c,rfl,hc⟩:=hv.mk
 cases a with
 |none=>
  have h0:l=[]:=by
   rcases hv with⟨_,_,_,h⟩|⟨_,_,_,h,e,_⟩
   ·exact h
   ·simp at e
  subst h0;simp only[go_sem,zS,↓reduceIte,Za,Zb,Zc,reduceCtorEq,ae];exact⟨bq.nil _,fun k h=>h.elim,af.refl _ _⟩
 |some p=>
  simp only[go_sem,zS,↓reduceIte,Za,Zb,Zc,reduceCtorEq];refine aF fun H1 b1 e1 z1 B1 K1=>?_;have s1:=K1.size;simp only[go_sem,zS,↓reduceIte,Za,Zb,Zc,reduceCtorEq];refine jK H.size (l:=([]:List Value)) (m:=l) (bq.new B1 rfl rfl) (fun q (hq:q=b1)=>by omega) (by omega) (hv.ai K1 (by simp)) ha rfl (by omega) (by simp;omega) fun v3 H3 O3 own3 K3=>?_;simp only[go_sem,zS,↓reduceIte,Za,Zb,Zc,reduceCtorEq,ae];exact⟨O3,own3,K1.gV K3 (Nat.le_refl _)⟩
theorem UA {α:Type} {enc:α->List Value} (hl:∀x,(enc x).length=2) (h1:∀x,∀v∈enc x,v.oneCell'=true) (hk:al P k (GZ ι) G0 1):cX enc P k:=by
 intro l v H hv hn;refine ah hk (args:=[_]) (by simp) ?_;unfold GZ G0 kA kB kC kV kY kZ;obtain⟨a,c,rfl,hc⟩:=hv.mk
 cases a with
 |none=>
  have h0:l=[]:=by
   rcases hv with⟨_,_,_,h⟩|⟨_,_,_,_,h,_⟩
   ·exact h
   ·cases h
  subst h0;simp only[go_sem,zS,↓reduceIte,Za,Zb,Zc,reduceCtorEq,ae];exact⟨bT.nil _,fun k h=>h.elim,af.refl _ _⟩
 |some p=>
  simp only[go_sem,zS,↓reduceIte,Za,Zb,Zc,reduceCtorEq];refine aF fun H1 b1 e1 z1 B1 K1=>?_;have s1:=K1.size;simp only[go_sem,zS,↓reduceIte,Za,Zb,Zc,reduceCtorEq];have pW:bT enc 2 H1 (.slice (some ⟨b1,0,none⟩) 0 0) []:=bT.bl B1 rfl (by omega) (by omega) (by simp);refine qk (l:=([]:List α)) (m:=l) H.size hl h1 pW (fun q hq=>by have hq:q=b1:=hq;omega) (by omega) (hv.aj K1) rfl (by omega) (by simp;omega) fun v3 H3 O3 own3 K3=>?_;rw[List.nil_append]at O3;simp only[go_sem,zS,↓reduceIte,Za,Zb,Zc,reduceCtorEq,ae];exact⟨O3,own3,K1.gV K3 (Nat.le_refl _)⟩
def xf (vs:List Value) (di sa:List fV) (ms:List MV) (fx:List Int) (n0:Nat) (i:Nat) (X:Hp) (v:Value):Prop:=match i with
 |31=>aO X v vs
 |34=>bk pE 2 X v di
 |37=>bk pE 2 X v sa
 |40=>bk cH 2 X v ms
 |42=>aO X v (iL fx)
 |9=>∃b,v=.pointer (some ⟨b,0,none⟩)/\Bl X b [.slice none 0 0,.slice none 0 0,.slice none 0 0,.slice none 0 0,.slice none 0 0]/\n0<=b
 |_=>False
theorem xf.aj {vs:List Value} {di sa:List fV} {ms:List MV} {fx:List Int} {n0 i:Nat} {X X':Hp} {v:Value} (h:xf vs di sa ms fx n0 i X v) (hk:af (fun _=>False) X X'):xf vs di sa ms fx n0 i X' v:=by
 unfold xf at*
 split at h
 ·exact aO.ai h hk (by simp)
 ·exact bk.aj h hk
 ·exact bk.aj h hk
 ·exact bk.aj h hk
 ·exact aO.ai h hk (by simp)
 ·obtain⟨b,e,B,hb⟩:=h;exact⟨b,e,hk.bl B (by simp),hb⟩
 ·exact h
section
variable {vs:List Value} {di sa:List fV} {ms:List MV} {fx:List Int} {n0:Nat}
theorem xf.ai {i b:Nat} {X X':Hp} {v:Value} (h:xf vs di sa ms fx n0 i X v) (hi:i≠9) (hk:af (fun q=>q=b) X X') (hb:¬aT v b):xf vs di sa ms fx n0 i X' v:=by
 have pS:∀q,aT v q->¬q=b:=fun q hq e=>by rw[e]at hq;exact hb hq
 unfold xf at*
 split at h
 ·exact aO.ai h hk pS
 ·exact bk.ai h hk pS
 ·exact bk.ai h hk pS
 ·exact bk.ai h hk pS
 ·exact aO.ai h hk pS
 ·exact absurd rfl hi
 ·exact h
theorem xf.bj {i:Nat} {X:Hp} {v:Value} (h:xf vs di sa ms fx n0 i X v) (hi:i≠9) {q:Nat} (hq:aT v q):q<X.size:=by
 unfold xf at h
 split at h
 ·exact aO.bj h hq
 ·exact bk.bj h hq
 ·exact bk.bj h hq
 ·exact bk.bj h hq
 ·exact aO.bj h hq
 ·exact absurd rfl hi
 ·exact h.elim
theorem xf.aq {i:Nat} {X:Hp} {v:Value} (h:xf vs di sa ms fx n0 i X v) (hi:i≠9):aq v:=by
 unfold xf at h
 split at h
 ·exact aO.aq h
 ·exact bk.aq h
 ·exact bk.aq h
 ·exact bk.aq h
 ·exact aO.aq h
 ·exact absurd rfl hi
 ·exact h.elim
structure G6 (vs:List Value) (di sa:List fV) (ms:List MV) (fx:List Int) (A X:Hp) (l:List (Nat×Value)):Prop where
 k:af (fun _=>False) A X
 v:∀p∈l,xf vs di sa ms fx A.size p.1 X p.2
 d:∀p∈l,∀b,(9,Value.pointer (some ⟨b,0,none⟩))∈l->p.1≠9->¬aT p.2 b
 o:∀p∈l,p.1≠9->∀q,aT p.2 q->A.size<=q
variable {P:Program} {A X:Hp} {l:List (Nat×Value)} {W:Nat->Prop} {e:Env} {f:Fr} {t m:T} {Q:Fr->Hp->Prop}
theorem G6.call (h:G6 vs di sa ms fx A X l) {i a:Nat} {j:FuncId} {x:Value} (hi:i≠9) (hc:∀X,af (fun _=>False) A X->an P j #[x] X fun r X'=>xf vs di sa ms fx A.size i X' r/\(∀q,aT r q->X.size<=q)/\af (fun _=>False) X X') (he:look e a=x)
  (hK:∀v X',G6 vs di sa ms fx A X' ((i,v)::l)->dg P W t ((i,v)::e) f X' Q) (hm:dg P W m e f X Q):dg P W (.wcons (.t i) none (.call j [.t a]) t m) e f X Q:=by
 rw[dK];refine⟨?_,hm⟩;simp only[EX.wp,List.map_cons,List.map_nil,il,he];refine(hc X h.k).mono ?_;rintro r X' ⟨hr,ho,K⟩;rw[aJ];refine⟨K.any,?_⟩;rw[fZ,mN];refine hK r X' ⟨h.k.trans K,fun p hp=>?_,fun p hp b hb hne hq=>?_,fun p hp hne q hq=>?_⟩
 ·rcases List.mem_cons.1 hp with rfl|hp
  ·exact hr
  ·exact(h.v p hp).aj K
 ·have pS:(9,Value.pointer (some ⟨b,0,none⟩))∈l:=by
   rcases List.mem_cons.1 hb with e|hb
   ·exact absurd (congrArg Prod.fst e).symm hi
   ·exact hb
  rcases List.mem_cons.1 hp with rfl|hp
  ·have:=ho b hq;obtain⟨b',e,B,_⟩:∃b',Value.pointer (some ⟨b,0,none⟩)=.pointer (some ⟨b',0,none⟩)/\Bl X b' _/\A.size<=b':=h.v _ pS;simp only[Value.pointer.injEq,Option.some.injEq,Addr.mk.injEq,and_true]at e;subst e;have:=B.lt;omega
  ·exact h.d p hp b pS hne hq
 ·rcases List.mem_cons.1 hp with rfl|hp
  ·have:=ho q hq;have:=h.k.size;omega
  ·exact h.o p hp hne q hq
theorem G6.new (h:G6 vs di sa ms fx A X l) (hn:∀p∈l,p.1≠9) {T:TypeId} (hK:∀b X',G6 vs di sa ms fx A X' ((9,.pointer (some ⟨b,0,none⟩))::l)->dg P W t e (bL f 9 (.pointer (some ⟨b,0,none⟩))) X' Q) (hm:dg P W m e f X Q):
  dg P W (.wcons (.v 9) none (.new T #[.slice .none 0 0,.slice .none 0 0,.slice .none 0 0,.slice .none 0 0,.slice .none 0 0]) t m) e f X Q:=by
 rw[dK];refine⟨?_,hm⟩;have K:=(af.refl (fun _=>False) X).push (.cells #[.slice .none 0 0,.slice .none 0 0,.slice .none 0 0,.slice .none 0 0,.slice .none 0 0] T);have B:=Bl.cS X #[.slice .none 0 0,.slice .none 0 0,.slice .none 0 0,.slice .none 0 0,.slice .none 0 0] T;simp only[EX.wp];rw[aJ];refine⟨K.any,?_⟩;refine hK X.size _ ⟨h.k.trans K,fun p hp=>?_,fun p hp b hb hne hq=>?_,fun p hp hne q hq=>?_⟩
 ·rcases List.mem_cons.1 hp with rfl|hp
  ·exact⟨X.size,rfl,B,h.k.size⟩
  ·exact(h.v p hp).aj K
 ·rcases List.mem_cons.1 hp with rfl|hp
  ·exact hne rfl
  ·rcases List.mem_cons.1 hb with e|hb
   ·simp only[Prod.mk.injEq,Value.pointer.injEq,Option.some.injEq,Addr.mk.injEq,and_true,true_and]at e;have:=(h.v p hp).bj hne hq;omega
   ·exact absurd rfl (hn _ hb)
 ·rcases List.mem_cons.1 hp with rfl|hp
  ·exact absurd rfl hne
  ·exact h.o p hp hne q hq
end
def PbK (vs:List Value) (di sa:List fV) (ms:List MV) (fx:List Int) (A:Hp) (f:Fr) (Q:Fr->Hp->Prop):Prop:=∀f' X' b v1 v2 v3 v4 v5,(∀j,j≠9->f' j=f j)->f' 9=.pointer (some ⟨b,0,none⟩)->A.size<=b->Bl X' b [v1,v2,v3,v4,v5]->aO X' v1 vs->bk pE 2 X' v2 di->bk pE 2 X' v3 sa->bk cH 2 X' v4 ms->aO X' v5 (iL fx)->(∀v∈[v1,v2,v3,v4,v5],¬aT v b)->(∀v∈[v1,v2,v3,v4,v5],∀q,aT v q->A.size<=q)->af (fun _=>False) A X'->Q f' X'
theorem ZW {P:Program} {ι:aG} {vs:List Value} {di sa:List fV} {ms:List MV} {fx:List Int} {A X:Hp} {l:List (Nat×Value)} {e:Env} {f g:Fr} {Q:Fr->Hp->Prop} {b:Nat} {v1 v2 v3 v4 v5:Value} (hK:PbK vs di sa ms fx A f Q) (h:G6 vs di sa ms fx A X l) (hg:∀j,j≠9->g j=f j) (g9:g 9=.pointer (some ⟨b,0,none⟩)) (m9:(9,.pointer (some ⟨b,0,none⟩))∈l)
  (e1:look e 31=v1) (e2:look e 34=v2) (e3:look e 37=v3) (e4:look e 40=v4) (e5:look e 42=v5) (m1:(31,v1)∈l) (m2:(34,v2)∈l) (m3:(37,v3)∈l) (m4:(40,v4)∈l) (m5:(42,v5)∈l):dg P (fun q=>A.size<=q) (vB ι) e g X Q:=by
 have r1:=h.v _ m1;have r2:=h.v _ m2;have r3:=h.v _ m3;have r4:=h.v _ m4;have r5:=h.v _ m5;have d1:=h.d _ m1 b m9 (show(31:Nat)≠9 by decide);have d2:=h.d _ m2 b m9 (show(34:Nat)≠9 by decide);have d3:=h.d _ m3 b m9 (show(37:Nat)≠9 by decide);have d4:=h.d _ m4 b m9 (show(40:Nat)≠9 by decide);have d5:=h.d _ m5 b m9 (show(42:Nat)≠9 by decide);obtain⟨b',eb,B,hb⟩:∃b',Value.pointer (some ⟨b,0,none⟩)=.pointer (some ⟨b',0,none⟩)/\Bl X b' [.slice none 0 0,.slice none 0 0,.slice none 0 0,.slice none 0 0,.slice none 0 0]/\A.size<=b':=h.v _ m9;simp only[Value.pointer.injEq,Option.some.injEq,Addr.mk.injEq,and_true]at eb;subst eb;have K:af (fun q=>q=b) X (aB X ⟨b,0,none⟩ [v1,v2,v3,v4,v5]):=(af.refl _ _).aB _ (.inl rfl);have B':Bl (aB X ⟨b,0,none⟩ [v1,v2,v3,v4,v5]) b [v1,v2,v3,v4,v5]:=B.aB 0 [v1,v2,v3,v4,v5];have t:=B.bM (o:=0) (n:=5) (by simp);have q1:aq v1:=r1.aq (show(31:Nat)≠9 by decide);have q2:aq v2:=r2.aq (show(34:Nat)≠9 by decide);have q3:aq v3:=r3.aq (show(37:Nat)≠9 by decide);have q4:aq v4:=r4.aq (show(40:Nat)≠9 by decide);have q5:aq v5:=r5.aq (show(42:Nat)≠9 by decide);have fin:=hK g (aB X ⟨b,0,none⟩ [v1,v2,v3,v4,v5]) b v1 v2 v3 v4 v5 hg g9 hb B' (r1.ai (show(31:Nat)≠9 by decide) K d1) (r2.ai (show(34:Nat)≠9 by decide) K d2) (r3.ai (show(37:Nat)≠9 by decide) K d3) (r4.ai (show(40:Nat)≠9 by decide) K d4) (r5.ai (show(42:Nat)≠9 by decide) K d5) (fun v hv=>by
  simp only[List.mem_cons,List.not_mem_nil,or_false]at hv;rcases hv with rfl|rfl|rfl|rfl|rfl<;>assumption) (fun v hv=>by
  simp only[List.mem_cons,List.not_mem_nil,or_false]at hv;rcases hv with rfl|rfl|rfl|rfl|rfl
  ·exact h.o _ m1 (show(31:Nat)≠9 by decide)
  ·exact h.o _ m2 (show(34:Nat)≠9 by decide)
  ·exact h.o _ m3 (show(37:Nat)≠9 by decide)
  ·exact h.o _ m4 (show(40:Nat)≠9 by decide)
  ·exact h.o _ m5 (show(42:Nat)≠9 by decide)) (h.k.trans' K fun q hq e=>by omega)
 unfold vB kW kZ;obtain⟨s1,rfl⟩:=iS q1;obtain⟨s2,rfl⟩:=iS q2;obtain⟨s3,rfl⟩:=iS q3;obtain⟨s4,rfl⟩:=iS q4;obtain⟨s5,rfl⟩:=iS q5;unfold ZM at*;have ha:bO #[Value.slice s1.1 s1.2.1 s1.2.2,.slice s2.1 s2.2.1 s2.2.2,.slice s3.1 s3.2.1 s3.2.2,.slice s4.1 s4.2.1 s4.2.2,.slice s5.1 s5.2.1 s5.2.2]:=bd rfl;simp-implicitDefEqProofs only[go_sem,↓reduceIte,Za,Zb,Zc,reduceCtorEq,Zf,Zg,Zh,Zi,Zd,Ze,e1,e2,e3,e4,e5,g9,t];refine⟨⟨rfl,ha⟩,K.mono fun q _ e=>?_,fin⟩;omega
theorem ZX {P:Program} {ι:aG} {vs:List Value} {di sa:List fV} {ms:List MV} {fx:List Int} {A X:Hp} {l:List (Nat×Value)} {e:Env} {f g:Fr} {Q:Fr->Hp->Prop} {v1 v2 v3 v4 v5:Value} (hK:PbK vs di sa ms fx A f Q) (h:G6 vs di sa ms fx A X l) (hg:∀j,j≠9->g j=f j) (hn:∀p∈l,p.1≠9)
  (e1:look e 31=v1) (e2:look e 34=v2) (e3:look e 37=v3) (e4:look e 40=v4) (e5:look e 42=v5) (m1:(31,v1)∈l) (m2:(34,v2)∈l) (m3:(37,v3)∈l) (m4:(40,v4)∈l) (m5:(42,v5)∈l):dg P (fun q=>A.size<=q) (PU ι) e g X Q:=by
 have n1:(31:Nat)≠9:=by decide
 have n2:(34:Nat)≠9:=by decide
 have n3:(37:Nat)≠9:=by decide
 have n4:(40:Nat)≠9:=by decide
 have n5:(42:Nat)≠9:=by decide
 have r1:=h.v _ m1;have r2:=h.v _ m2;have r3:=h.v _ m3;have r4:=h.v _ m4;have r5:=h.v _ m5;have q1:aq v1:=r1.aq n1;have q2:aq v2:=r2.aq n2;have q3:aq v3:=r3.aq n3;have q4:aq v4:=r4.aq n4;have q5:aq v5:=r5.aq n5;have x1:¬aT v1 X.size:=fun hq=>absurd (r1.bj n1 hq) (by omega);have x2:¬aT v2 X.size:=fun hq=>absurd (r2.bj n2 hq) (by omega);have x3:¬aT v3 X.size:=fun hq=>absurd (r3.bj n3 hq) (by omega);have x4:¬aT v4 X.size:=fun hq=>absurd (r4.bj n4 hq) (by omega);have x5:¬aT v5 X.size:=fun hq=>absurd (r5.bj n5 hq) (by omega);obtain⟨s1,rfl⟩:=iS q1;obtain⟨s2,rfl⟩:=iS q2;obtain⟨s3,rfl⟩:=iS q3;obtain⟨s4,rfl⟩:=iS q4;obtain⟨s5,rfl⟩:=iS q5;unfold ZM at*;have ha:bO #[Value.slice s1.1 s1.2.1 s1.2.2,.slice s2.1 s2.2.1 s2.2.2,.slice s3.1 s3.2.1 s3.2.2,.slice s4.1 s4.2.1 s4.2.2,.slice s5.1 s5.2.1 s5.2.2]:=bd rfl;have hs:=h.k.size;have main:∀(T:TypeId),bM (X.push (.cells #[.slice .none 0 0,.slice .none 0 0,.slice .none 0 0,.slice .none 0 0,.slice .none 0 0] T)) ⟨X.size,0,none⟩ 5/\af (fun q=>A.size<=q) X (X.push (.cells #[.slice .none 0 0,.slice .none 0 0,.slice .none 0 0,.slice .none 0 0,.slice .none 0 0] T))∧
   af (fun q=>A.size<=q) (X.push (.cells #[.slice .none 0 0,.slice .none 0 0,.slice .none 0 0,.slice .none 0 0,.slice .none 0 0] T)) (aB (X.push (.cells #[.slice .none 0 0,.slice .none 0 0,.slice .none 0 0,.slice .none 0 0,.slice .none 0 0] T)) ⟨X.size,0,none⟩ [Value.slice s1.1 s1.2.1 s1.2.2,.slice s2.1 s2.2.1 s2.2.2,.slice s3.1 s3.2.1 s3.2.2,.slice s4.1 s4.2.1 s4.2.2,.slice s5.1 s5.2.1 s5.2.2])∧
   Q (bL g 9 (.pointer (some ⟨X.size,0,none⟩))) (aB (X.push (.cells #[.slice .none 0 0,.slice .none 0 0,.slice .none 0 0,.slice .none 0 0,.slice .none 0 0] T)) ⟨X.size,0,none⟩ [Value.slice s1.1 s1.2.1 s1.2.2,.slice s2.1 s2.2.1 s2.2.2,.slice s3.1 s3.2.1 s3.2.2,.slice s4.1 s4.2.1 s4.2.2,.slice s5.1 s5.2.1 s5.2.2]):=fun T=>by
  have K0:=(af.refl (fun _=>False) X).push (.cells #[.slice .none 0 0,.slice .none 0 0,.slice .none 0 0,.slice .none 0 0,.slice .none 0 0] T);have B:=Bl.cS X #[.slice .none 0 0,.slice .none 0 0,.slice .none 0 0,.slice .none 0 0,.slice .none 0 0] T;generalize X.push (.cells #[.slice .none 0 0,.slice .none 0 0,.slice .none 0 0,.slice .none 0 0,.slice .none 0 0] T)=X1 at K0 B⊢;have K:af (fun q=>q=X.size) X1 (aB X1 ⟨X.size,0,none⟩ [Value.slice s1.1 s1.2.1 s1.2.2,.slice s2.1 s2.2.1 s2.2.2,.slice s3.1 s3.2.1 s3.2.2,.slice s4.1 s4.2.1 s4.2.2,.slice s5.1 s5.2.1 s5.2.2]):=(af.refl _ _).aB _ (.inl rfl);have B':=B.aB 0 [Value.slice s1.1 s1.2.1 s1.2.2,.slice s2.1 s2.2.1 s2.2.2,.slice s3.1 s3.2.1 s3.2.2,.slice s4.1 s4.2.1 s4.2.2,.slice s5.1 s5.2.1 s5.2.2];refine⟨B.bM (o:=0) (n:=5) (by simp),K0.any,K.mono fun q _ e=>by omega,hK _ _ X.size _ _ _ _ _ (fun j hj=>?_) (by simp only[bL,if_true]) hs B' ((r1.aj K0).ai n1 K x1) ((r2.aj K0).ai n2 K x2) ((r3.aj K0).ai n3 K x3) ((r4.aj K0).ai n4 K x4) ((r5.aj K0).ai n5 K x5) (fun v hv=>?_) (fun v hv=>?_) ((h.k.trans K0).trans' K fun q hq e=>by omega)⟩
  ·rw[<-hg j hj];simp only[bL,hj,if_false]
  ·simp only[List.mem_cons,List.not_mem_nil,or_false]at hv;rcases hv with rfl|rfl|rfl|rfl|rfl<;>assumption
  ·simp only[List.mem_cons,List.not_mem_nil,or_false]at hv;rcases hv with rfl|rfl|rfl|rfl|rfl
   ·exact h.o _ m1 n1
   ·exact h.o _ m2 n2
   ·exact h.o _ m3 n3
   ·exact h.o _ m4 n4
   ·exact h.o _ m5 n5
 unfold PU kW kZ;obtain⟨t,k1,k2,fin⟩:=main (ι.t 358);simp-implicitDefEqProofs only[go_sem,↓reduceIte,Za,Zb,Zc,reduceCtorEq,Zf,Zg,Zh,Zi,Zd,Ze,e1,e2,e3,e4,e5,t];exact⟨k1,⟨rfl,ha⟩,k2,fin⟩
theorem ZY {P:Program} {ι:aG} (hB:jq P (ι.f 374)) (hP:cX pE P (ι.f 204)) (hM:cX cH P (ι.f 375)) (hI:fO P (ι.f 159)) {vs:List Value} {F:cf} {ms:List MV} {fx:List Int} {f:Fr} {A:Hp} {b3:Nat} {s b d a m v1 v2:Value} {Qb:Ex->Fr->Hp->Prop}
  (h1:f 1=v1) (h2:f 2=v2) (h3:f 3=.pointer (some ⟨b3,0,none⟩)) (B3:Bl A b3 [s,b,d,a,m]) (hd:ql A d F.di) (ha:ql A a F.sa) (hm:bk cH 2 A m ms) (hv1:aO A v1 vs) (hv2:aO A v2 (iL fx)) (hvs:∀x∈vs,aq x) (l1:vs.length<=1000) (l2:F.di.length<=1000) (l3:F.sa.length<=1000) (l4:ms.length<=1000) (l5:fx.length<=1000)
  (hK:PbK vs F.di F.sa ms fx A f (Qb .n)):vc P (PV ι) Qb f A:=by
 unfold PV kW kZ;have c2:cell A ⟨b3,2,none⟩=some d:=by rw[B3.cell];rfl
 have c3:cell A ⟨b3,3,none⟩=some a:=by rw[B3.cell];rfl
 have c4:cell A ⟨b3,4,none⟩=some m:=by rw[B3.cell];rfl
 have lt:=B3.lt;have hlt:(A.size<=b3)=False:=eq_false (by omega);refine bo (fun q=>A.size<=q) ?_;have s0:G6 vs F.di F.sa ms fx A A []:=⟨af.refl _ _,by simp,by simp,by simp⟩
 have C1:∀X,af (fun _=>False) A X->an P (ι.f 374) #[v1] X fun r X'=>xf vs F.di F.sa ms fx A.size 31 X' r/\(∀q,aT r q->X.size<=q)/\af (fun _=>False) X X':=fun X K=>(hB vs v1 X (hv1.ai K (by simp)) hvs (by omega)).mono fun r X' ⟨O,o,K'⟩=>⟨O.sl,fun q hq=>o q (O.aT hq),K'⟩
 have C2:∀X,af (fun _=>False) A X->an P (ι.f 204) #[d] X fun r X'=>xf vs F.di F.sa ms fx A.size 34 X' r/\(∀q,aT r q->X.size<=q)/\af (fun _=>False) X X':=fun X K=>(hP F.di d X (hd.aj K) (by omega)).mono fun r X' ⟨O,o,K'⟩=>⟨O.sl,fun q hq=>o q (O.aT hq),K'⟩
 have C3:∀X,af (fun _=>False) A X->an P (ι.f 204) #[a] X fun r X'=>xf vs F.di F.sa ms fx A.size 37 X' r/\(∀q,aT r q->X.size<=q)/\af (fun _=>False) X X':=fun X K=>(hP F.sa a X (ha.aj K) (by omega)).mono fun r X' ⟨O,o,K'⟩=>⟨O.sl,fun q hq=>o q (O.aT hq),K'⟩
 have C4:∀X,af (fun _=>False) A X->an P (ι.f 375) #[m] X fun r X'=>xf vs F.di F.sa ms fx A.size 40 X' r/\(∀q,aT r q->X.size<=q)/\af (fun _=>False) X X':=fun X K=>(hM ms m X (hm.aj K) (by omega)).mono fun r X' ⟨O,o,K'⟩=>⟨O.sl,fun q hq=>o q (O.aT hq),K'⟩
 have C5:∀X,af (fun _=>False) A X->an P (ι.f 159) #[v2] X fun r X'=>xf vs F.di F.sa ms fx A.size 42 X' r/\(∀q,aT r q->X.size<=q)/\af (fun _=>False) X X':=fun X K=>(hI fx v2 X (hv2.ai K (by simp)) (by omega)).mono fun r X' ⟨O,o,K'⟩=>⟨O.sl,fun q hq=>o q (O.aT hq),K'⟩
 rw[cB,cB,cB,cB,cB,cB,cB,cB];refine⟨trivial,by simp only[go_sem,Za,Zb,h3],by simp only[go_sem,Za,Zb,h3,c2,hlt],by simp only[go_sem,Za,Zb,h3],by simp only[go_sem,Za,Zb,h3,c3,hlt],by simp only[go_sem,Za,Zb,h3],by simp only[go_sem,Za,Zb,h3,c4,hlt],trivial,?_⟩;simp only[PX.val,jG,il,fZ,mN,bw,h1,h2,h3,et,fh,yq,c2,c3,c4,if_true,if_false,Nat.zero_add,Za,Option.getD_some,Zb]
 repeat' (first|exact trivial|exact ZX hK (by assumption) (fun j hj=>by simp only[bL,hj,if_false]) (by simp) rfl rfl rfl rfl rfl (by simp[bw]) (by simp[bw]) (by simp[bw]) (by simp[bw]) (by simp[bw])|exact ZW hK (by assumption) (fun j hj=>by simp only[bL,hj,if_false]) rfl (by simp) rfl rfl rfl rfl rfl (by simp[bw]) (by simp[bw]) (by simp[bw]) (by simp[bw]) (by simp[bw])|refine G6.call (by assumption) (show(31:Nat)≠9 by decide) C1 rfl (fun _ _ _=>?_) ?_|refine G6.call (by assumption) (show(34:Nat)≠9 by decide) C2 rfl (fun _ _ _=>?_) ?_|refine G6.call (by assumption) (show(37:Nat)≠9 by decide) C3 rfl (fun _ _ _=>?_) ?_|refine G6.call (by assumption) (show(40:Nat)≠9 by decide) C4 rfl (fun _ _ _=>?_) ?_|refine G6.call (by assumption) (show(42:Nat)≠9 by decide) C5 rfl (fun _ _ _=>?_) ?_|refine G6.new (by assumption) (by simp) (fun _ _ _=>?_) ?_)
def fixF (n:Nat) (fx:List Int):List Int:=if fx=[]then List.replicate n 0 else fx
def qS (P:Program) (ι:aG) (k:FuncId):Prop:=∀(F:cf) (el:List (Nat->Bool)) (vs:List Value) (fx:List Int) (v ev xv:Value) (H0 H:Hp),af (fun _=>False) H0 H->bU H0 v F->aO H0 ev vs->vs.length=el.length->F.st.length=el.length->(∀i<vs.length,aQ H0 (.agg #[vs.getD i undef]) ((⟨el,F.di,F.sa,F.mo⟩:pZ).el.getD i fun _=>false))->aO H0 xv (iL fx)->(fx=[]\/fx.length=el.length)→
 ff ⟨el,F.di,F.sa,F.mo⟩->xe el.length (fixF el.length fx)->an P k #[v,ev,xv] H fun r H'=>∃pv,r=.tuple #[pv,.int .i64 0]/\(∀X W,af W H' X->(∀q,W q->H0.size<=q/\q<H.size)->jW X pv ⟨el,F.di,F.sa,F.mo⟩ (fixF el.length fx))/\af (fun _=>False) H H'
structure abN (P:Program) (ι:aG):Prop where
 B:jq P (ι.f 374)
 P':cX pE P (ι.f 204)
 M:cX cH P (ι.f 375)
 I:fO P (ι.f 159)
 chk:jm P ι (ι.f 360)
theorem PZ {P:Program} {ι:aG} (c:abN P ι) {F:cf} {el:List (Nat->Bool)} {vs:List Value} {fx:List Int} {ms:List MV} {f:Fr} {H0 A:Hp} {b3 b6:Nat} {s b d a m ev xv z1 z2 z3 z4 z5:Value} {Qb:Ex->Fr->Hp->Prop}
  (f1:f 1=ev) (f2:f 2=xv) (f3:f 3=.pointer (some ⟨b3,0,none⟩)) (f6:f 6=.pointer (some ⟨b6,0,none⟩)) (f8:f 8=.int .i64 (el.length:Int)) (B3:Bl A b3 [s,b,d,a,m]) (B6:Bl A b6 [z1,z2,z3,z4,z5])
  (hd:ql A d F.di) (ha:ql A a F.sa) (hm:bk cH 2 A m ms) (K0:af (fun _=>False) H0 A) (h06:H0.size<=b6) (hr:iq H0 ms F.mo) (hev:aO A ev vs) (hvl:vs.length=el.length) (hes:∀i<vs.length,aQ H0 (.agg #[vs.getD i undef]) (eV ⟨el,F.di,F.sa,F.mo⟩ i)) (hvs:∀x∈vs,aq x) (hxv:aO A xv (iL fx)) (hfx:fx=[]\/fx.length=el.length)
  (hG:ff ⟨el,F.di,F.sa,F.mo⟩) (hU:xe el.length (fixF el.length fx))
  (hK:∀f' A' w1 w2 w3 w4 w5,f' 6=.pointer (some ⟨b6,0,none⟩)->f' 7=.int .i64 0->Bl A' b6 [w1,w2,w3,w4,w5]->(∀X W,af W A' X->(∀q,W q->H0.size<=q/\q<A.size)->jW X (.agg #[w1,w2,w3,w4,w5]) ⟨el,F.di,F.sa,F.mo⟩ (fixF el.length fx))->af (fun q=>q=b6) A A'->Qb .r f' A'):vc P (PY ι) Qb f A:=by
 unfold PY kA kG kL kV kY;have hn:el.length<=10:=hG.n;have wW:0<el.length:=hG.n0;have hdl:F.di.length<=20:=hG.dl;have hsl:F.sa.length<=20:=hG.sl;have nQ:F.mo.length<=20:=hG.ml;have aeX:=hr.len;have lx:aU xv=fx.length:=by rw[hxv.len,aA]
 have afX:=B6.lt;have LA:fx.length<=1000:=by rcases hfx with rfl|h;simp;omega
 have mkP:∀(X:Hp) (w1 w2 w3 w4 w5:Value),aO X w1 vs->bk pE 2 X w2 F.di->bk pE 2 X w3 F.sa->bk cH 2 X w4 ms->aO X w5 (iL (fixF el.length fx))->af (fun q=>H0.size<=q) A X->jW X (.agg #[w1,w2,w3,w4,w5]) ⟨el,F.di,F.sa,F.mo⟩ (fixF el.length fx):=fun X w1 w2 w3 w4 w5 g1 g2 g3 g4 g5 K=>by
  have K0X:af (fun _=>False) H0 X:=K0.trans' K fun q hq h=>by omega
  exact⟨w1,w2,w3,w4,w5,vs,ms,rfl,g1,hvl,fun i hi=>(hes i hi).aj K0X,g2,g3,g4,hr.aj K0X,g5⟩
 -- the end, from a problem that stands in block b9
 have last:∀(g:Fr) (X:Hp) (b9:Nat) (w1 w2 w3 w4 w5:Value),g 6=.pointer (some ⟨b6,0,none⟩)->g 9=.pointer (some ⟨b9,0,none⟩)->Bl X b9 [w1,w2,w3,w4,w5]->aO X w1 vs->bk pE 2 X w2 F.di->bk pE 2 X w3 F.sa->bk cH 2 X w4 ms->aO X w5 (iL (fixF el.length fx))->(∀v∈[w1,w2,w3,w4,w5],∀q,aT v q->A.size<=q)->af (fun _=>False) A X->vc P (PW ι) Qb g X:=fun g X b9 w1 w2 w3 w4 w5 g6 g9 B9 i1 i2 i3 i4 i5 ow KX=>by
  unfold PW kA kB kC kM kU kV kY kZ;have PX:=mkP X w1 w2 w3 w4 w5 i1 i2 i3 i4 i5 KX.any;have l9:aM X (.pointer (some ⟨b9,0,none⟩)) 5=some #[w1,w2,w3,w4,w5]:=B9.aM 5 rfl;simp only[go_sem,Za,Zb,g9,l9];refine(c.chk _ _ _ X PX hG hU).mono ?_;rintro r X1 ⟨rfl,K1⟩;have Ai:((0:Int)!=0)=false:=rfl;have B91:=K1.bl B9 (by simp);have l9:aM X1 (.pointer (some ⟨b9,0,none⟩)) 5=some #[w1,w2,w3,w4,w5]:=B91.aM 5 rfl;have B61:=(KX.trans K1).bl B6 (by simp);have t6:=B61.bM (o:=0) (n:=5) (by simp);have K6:af (fun q=>q=b6) X1 (aB X1 ⟨b6,0,none⟩ [w1,w2,w3,w4,w5]):=(af.refl _ _).aB _ (.inl rfl);have WU:Bl (aB X1 ⟨b6,0,none⟩ [w1,w2,w3,w4,w5]) b6 [w1,w2,w3,w4,w5]:=B61.aB 0 [w1,w2,w3,w4,w5];have ha:bO #[w1,w2,w3,w4,w5]:=bd (by simp only[List.all_cons,List.all_nil,aI i1.aq,aI i2.aq,aI i3.aq,aI i4.aq,aI i5.aq];rfl);have nb:∀v∈[w1,w2,w3,w4,w5],∀q,aT v q->¬q=b6:=fun v hv q hq e=>by have:=ow v hv q hq;omega
  have KF:=((KX.trans K1).any).trans K6;have PF:∀X' W,af W (aB X1 ⟨b6,0,none⟩ [w1,w2,w3,w4,w5]) X'->(∀q,W q->H0.size<=q/\q<A.size)->jW X' (.agg #[w1,w2,w3,w4,w5]) ⟨el,F.di,F.sa,F.mo⟩ (fixF el.length fx):=fun X' W KW hW=>by
   have nw:∀v∈[w1,w2,w3,w4,w5],∀q,aT v q->¬W q:=fun v hv q hq h=>by have:=ow v hv q hq;have:=(hW q h).2;omega
   have K0':=K0.size;exact mkP X' w1 w2 w3 w4 w5 (((i1.ai K1 (by simp)).ai K6 (nb w1 (by simp))).ai KW (nw w1 (by simp))) (((i2.aj K1).ai K6 (nb w2 (by simp))).ai KW (nw w2 (by simp))) (((i3.aj K1).ai K6 (nb w3 (by simp))).ai KW (nw w3 (by simp))) (((i4.aj K1).ai K6 (nb w4 (by simp))).ai KW (nw w4 (by simp))) (((i5.ai K1 (by simp)).ai K6 (nb w5 (by simp))).ai KW (nw w5 (by simp))) ((KF.mono fun q _ e=>by omega).trans' KW fun q hq h=>(hW q h).1)
  rw[ae];simp only[go_sem,Za,Zb,Ai,g6,g9,l9,t6];refine⟨ha,?_⟩;rw[ae];simp only[go_sem,Za,Zb];exact hK _ _ w1 w2 w3 w4 w5 (by simp only[go_sem,Za,Zb,ae,g6]) (by rfl) WU PF KF
 simp only[go_sem,Za,Zb];refine ZY c.B c.P' c.M c.I (F:=F) f1 f2 f3 B3 hd ha hm hev hxv hvs (by omega) (by omega) (by omega) (by omega) LA ?_;intro g X b9 v1 v2 v3 v4 v5 hg g9 hb9 B9 i1 i2 i3 i4 i5 nd ow KX;have g2:g 2=xv:=by rw[hg 2 (by decide),f2]
 have g6:g 6=.pointer (some ⟨b6,0,none⟩):=by rw[hg 6 (by decide),f6]
 have g8:g 8=.int .i64 (el.length:Int):=by rw[hg 8 (by decide),f8]
 rcases hfx with e|e
 ·have d1:((fx.length:Int)==0)=true:=by rw[e];rfl
  have hff:fixF el.length fx=List.replicate el.length 0:=by unfold fixF;rw[if_pos e]
  simp only[go_sem,Za,Zb,g2,hxv.aq,lx,d1,g8];refine⟨⟨by omega,by omega,by unfold maxLen;omega⟩,?_⟩;refine aF fun X1 bz ez zz Bz Kz=>?_;rw[cT,qj]at Bz;have B91:=Kz.bl B9 (by simp);have t9:=B91.bu (o:=4) (by simp);have ZZ:=B91.az 4 (.slice (some ⟨bz,0,none⟩) el.length el.length);have K9:af (fun q=>q=b9) X1 (az X1 ⟨b9,4,none⟩ (.slice (some ⟨bz,0,none⟩) el.length el.length)):=(af.refl _ _).az _ (.inl rfl);have sX:=KX.size;have afY:=B9.lt;have hz:aO X1 (.slice (some ⟨bz,0,none⟩) el.length el.length) (iL (List.replicate el.length 0)):=by
   have:=(bq.new (n:=el.length) (c:=el.length) Bz (by simp[aA]) rfl).sl;exact this
  have nd':∀v∈[v1,v2,v3,v4,v5],∀q,aT v q->¬q=b9:=fun v hv q hq e=>by rw[e]at hq;exact nd v hv hq
  simp only[go_sem,Za,Zb,g9,t9];rw[ae];simp only[go_sem,Za,Zb];refine last _ _ b9 v1 v2 v3 v4 _ (by simp only[go_sem,Za,Zb,ae,g6]) (by simp only[go_sem,Za,Zb,ae,g9]) ZZ ((i1.ai Kz (by simp)).ai K9 (nd' v1 (by simp))) ((i2.aj Kz).ai K9 (nd' v2 (by simp))) ((i3.aj Kz).ai K9 (nd' v3 (by simp))) ((i4.aj Kz).ai K9 (nd' v4 (by simp))) ?_ ?_ ((KX.trans Kz).trans' K9 fun q hq e=>by omega)
  ·rw[hff];exact hz.ai K9 fun q hq e'=>by have:=hq.1;simp only at this;omega
  ·intro v hv q hq;simp only[List.mem_cons,List.not_mem_nil,or_false]at hv;rcases hv with rfl|rfl|rfl|rfl|rfl
   ·exact ow _ (by simp) q hq
   ·exact ow _ (by simp) q hq
   ·exact ow _ (by simp) q hq
   ·exact ow _ (by simp) q hq
   ·have:=hq.1;simp only at this;omega
 ·have hne:fx≠[]:=by rintro rfl;simp at e;omega
  have d1:((fx.length:Int)==0)=false:=by rw[beq_eq_false_iff_ne];omega
  have hff:fixF el.length fx=fx:=by unfold fixF;rw[if_neg hne]
  simp only[go_sem,Za,Zb,g2,hxv.aq,lx,d1];exact last _ X b9 v1 v2 v3 v4 v5 (by simp only[go_sem,Za,Zb,ae,g6]) (by simp only[go_sem,Za,Zb,ae,g9]) B9 i1 i2 i3 i4 (by rw[hff];exact i5) ow KX
theorem P0 {P:Program} {ι:aG} {k:FuncId} (hk:al P k (Au ι) Av 3) (c:abN P ι):qS P ι k:=by
 intro F el vs fx v ev xv H0 H KH0 hv hev hvl hst hes hxv hfx hG hU;obtain⟨s,b,d,a,m,ms,rfl,h1,h2,h3,h4,h5,h6⟩:=hv;refine qI fun Q hQ=>?_;refine ah hk (args:=[_,_,_]) (by simp) ?_;unfold Au Av kA kB kF kC kD kG kL kR kS kT kU kV kY kZ;have hn:el.length<=10:=hG.n;have wW:0<el.length:=hG.n0;have hdl:F.di.length<=20:=hG.dl;have hsl:F.sa.length<=20:=hG.sl;have nQ:F.mo.length<=20:=hG.ml;have aeX:=h6.len;have hvs:∀x∈vs,aq x:=fun x hx=>by
  obtain⟨i,hi,rfl⟩:=List.getElem_of_mem hx;obtain⟨u,W,e,hV⟩:=hes i hi;rw[List.getD_eq_getElem?_getD,List.getElem?_eq_getElem hi,Option.getD_some]at e
  cases e
  exact hV.sl.aq
 simp only[go_sem,Za,Zb];refine ay fun H1 b3 e1 z1 B1 K1=>?_;have bQ:Bl H1 b3 [s,b,d,a,m]:=B1;simp only[go_sem,Za,Zb];refine ay fun H2 b6 e2 z2 B2 K2=>?_;have km:Bl H2 b6 [.slice none 0 0,.slice none 0 0,.slice none 0 0,.slice none 0 0,.slice none 0 0]:=B2;have dB:=K1.trans K2;have kx:=K2.bl bQ (by simp);have c0:cell H2 ⟨b3,0,none⟩=some s:=by rw[kx.cell];rfl
 have ls:aU s=el.length:=by rw[h1.len,hst]
 have le:aU ev=el.length:=by rw[hev.len,hvl]
 have lx:aU xv=fx.length:=by rw[hxv.len,aA]
 have d1:((el.length:Int)!=(el.length:Int))=false:=by simp
 have ID:((if((fx.length:Int)!=(el.length:Int))=true then((fx.length:Int)!=0)else false))=false:=by
  rcases hfx with rfl|h
  ·simp
  ·rw[h];simp
 have fin:∀f' A' w1 w2 w3 w4 w5,f' 6=.pointer (some ⟨b6,0,none⟩)->f' 7=.int .i64 0->Bl A' b6 [w1,w2,w3,w4,w5]->(∀X W,af W A' X->(∀q,W q->H0.size<=q/\q<H2.size)->jW X (.agg #[w1,w2,w3,w4,w5]) ⟨el,F.di,F.sa,F.mo⟩ (fixF el.length fx))->af (fun q=>q=b6) H2 A'->mM [.cn 6 5,.t 7] Q .r f' A':=fun f' A' w1 w2 w3 w4 w5 f6 f7 BA PA KA=>by
  have l6:aM A' (.pointer (some ⟨b6,0,none⟩)) 5=some #[w1,w2,w3,w4,w5]:=BA.aM 5 rfl;simp only[go_sem,Za,Zb,ae,dx,dy,f6,f7,l6];rw[hQ];exact⟨_,rfl,fun X W KW hW=>PA X W KW fun q hq=>⟨(hW q hq).1,by have:=(hW q hq).2;have:=dB.size;omega⟩,dB.trans' KA fun q hq e=>by have:=K1.size;omega⟩
 have s1:=K1.size;have afZ:b3≠b6:=by have:=bQ.lt;omega
 have MD:=KH0.trans dB;have z0:=KH0.size;rcases hfx with e|e
 ·have z0:fx.length=0:=by rw[e];rfl
  rw[z0]at lx;have d2:((0:Int)!=(el.length:Int))=true:=bne_iff_ne.2 (by omega);have d3:((0:Int)!=0)=false:=rfl;simp only[go_sem,Za,Zb,c0,h1.aq,hev.aq,hxv.aq,ls,le,lx,d1,Int.ofNat_zero,Int.natCast_zero,d2,d3];exact PZ c (b3:=b3) (by rfl) (by rfl) (by rfl) (by rfl) (by rfl) kx km (h3.aj MD) (h4.aj MD) (h5.aj MD) MD (by omega) h6 (hev.ai MD (by simp)) hvl hes hvs (hxv.ai MD (by simp)) (by first|exact .inl e|exact .inr e) hG hU fin
 ·have d2:((fx.length:Int)!=(el.length:Int))=false:=by rw[e];simp
  simp only[go_sem,Za,Zb,c0,h1.aq,hev.aq,hxv.aq,ls,le,lx,d1,d2];exact PZ c (b3:=b3) (by rfl) (by rfl) (by rfl) (by rfl) (by rfl) kx km (h3.aj MD) (h4.aj MD) (h5.aj MD) MD (by omega) h6 (hev.ai MD (by simp)) hvl hes hvs (hxv.ai MD (by simp)) (by first|exact .inl e|exact .inr e) hG hU fin
end Go.Mg
namespace Go.Mg
open Go Go.RowKit
def P3 (ι:aG):S:=
 (.seq (kY [kA 24 7,kV 25 (.cm .neq .i64 (.t 24) (.c (.int .i64 0)))] (.ite (.v 25) (kY [kC 4 (kZ),kC 5 (.bool false)] .ret) .skip)) (kY [kM 27 5 6,.e (.t 28) (.call (ι.f 373) [.t 27,.c (.int .i64 0)]),kF 26 28,kQ 29 26 0,kQ 30 26 1,kQ 31 26 2,kQ 32 26 3,.e (.t 9) (.new (ι.t 372) #[kZ]),kB 8 29,.e .no (.stn 1 (.t 9) (.t 30)),kB 10 31,kB 7 32] (kY [kA 33 8,kA 34 10,kF 35 34,kS 36 35 true 7,kT 37 35 true (.cm .eql .i64 (.t 36) (.c (.int .i64 0))),kJ 38 35 37,kB 4 33,kB 5 38] .ret)))
def Aw (ι:aG):S:=
 kY [kC 4 (kZ),kC 5 (.bool false)] (.seq (.dr (kW 12 (.mv (.v 0)) (kW 13 (.nil (.t 12)) (kW 14 (.fa 0 (.t 13)) (kW 15 (.m (.ldn 5 (.t 14))) (kW 16 (.mv (.v 0)) (kW 17 (.nil (.t 16)) (kW 18 (.fa 5 (.t 17)) (kW 19 (.ld (.t 18)) (kW 20 (.mv (.v 1)) (.wcons (.t 21) .none (.call (ι.f 376) [.t 15,.t 19,.t 20]) (kW 11 (.mv (.t 21)) (kW 22 (.ext (.t 11) 0) (kW 23 (.ext (.t 11) 1) (.wcons (.v 6) .none (.new (ι.t 358) #[kZ,kZ,kZ,kZ,kZ]) (.wcons .no .none (.stn 5 (.v 6) (.t 22)) (kX 7 (.mv (.t 23)) .done) .wnil) .wnil)))) (.wcons (.v 6) .none (.new (ι.t 358) #[kZ,kZ,kZ,kZ,kZ]) (.wcons (.t 21) .none (.call (ι.f 376) [.t 15,.t 19,.t 20]) (kW 11 (.mv (.t 21)) (kW 22 (.ext (.t 11) 0) (kW 23 (.ext (.t 11) 1) (.wcons .no .none (.stn 5 (.v 6) (.t 22)) (kX 7 (.mv (.t 23)) .done) .wnil)))) .wnil) .wnil)))))))))))) (P3 ι))
def Ax:List RV:=[.t 4,.t 5]
def bW (F:cf) (el:List (Nat->Bool)):pZ:=⟨el,F.di,F.sa,F.mo⟩
def dI (H:Hp) (rb:Nat) (F:cf) (el:List (Nat->Bool)) (st:List Int):Prop:=∃s b d a m ev sv vs,Bl H rb [s,b,d,a,m,ev,sv]/\bU H (.agg #[s,b,d,a,m]) F/\aO H ev vs/\vs.length=el.length/\F.st.length=el.length/\(∀i<vs.length,aQ H (.agg #[vs.getD i undef]) (el.getD i fun _=>false))/\aO H sv (iL st)
theorem dI.aj {H H':Hp} {rb:Nat} {F:cf} {el:List (Nat->Bool)} {st:List Int} (h:dI H rb F el st) (hk:af (fun _=>False) H H'):dI H' rb F el st:=by
 obtain⟨s,b,d,a,m,ev,sv,vs,h1,h2,h3,h4,h5,h6,h7⟩:=h;exact⟨s,b,d,a,m,ev,sv,vs,hk.bl h1 (by simp),h2.aj hk,h3.ai hk (by simp),h4,h5,fun i hi=>(h6 i hi).aj hk,h7.ai hk (by simp)⟩
structure Ay (p:pZ) (fx:List Int):Prop where
 u:xe p.el.length fx
 w:∃w,(∀k,(aW (eV p k)).length<=w)/\w<=256/\1+gN w (ko fx)<=2199023255552
def gI (P:Program) (ι:aG) (k:FuncId):Prop:=∀(F:cf) (el:List (Nat->Bool)) (st fx:List Int) (rb:Nat) (xv:Value) (H:Hp),bg ι H->dI H rb F el st->aO H xv (iL fx)->ff (bW F el)->Ay (bW F el) fx->an P k #[.pointer (some ⟨rb,0,none⟩),xv] H fun r H'=>∃sv,r=.tuple #[sv,.bool (en (bW F el) fx).isSome]/\af (fun _=>False) H H'/\match en (bW F el) fx with|none=>sv=.slice none 0 0|some t=>aO H' sv (iL t)
theorem P4 {P:Program} {ι:aG} {k:FuncId} (hk:al P k (Aw ι) Ax 2) (hp:qS P ι (ι.f 376)) (hs:qR P ι (ι.f 373)):gI P ι k:=by
 intro F el st fx rb xv H hT hR hx hG hB;obtain⟨s,b,d,a,m,ev,sv,vs,B,hF,he,hl,hst,hes,hsv⟩:=hR;refine qI fun Q hQ=>?_;refine ah hk (args:=[_,_]) (by simp) ?_;unfold Aw Ax kC kW kX kY kZ;have wW:0<el.length:=hG.n0;have LA:fx.length=el.length:=hB.u.1;have hne:fx≠[]:=by rintro rfl;simp at LA;omega
 have abO:fixF el.length fx=fx:=by unfold fixF;rw[if_neg hne]
 have c5:cell H ⟨rb,5,none⟩=some ev:=by rw[B.cell];rfl
 have l5:aR H ⟨rb,0,none⟩ 5=some #[s,b,d,a,m]:=by
  have:=B.aR (o:=0) (n:=5) (by simp);simpa using this
 have lt:=B.lt;have hW:(H.size<=rb)=False:=eq_false (by omega);have hU':xe el.length (fixF el.length fx):=by rw[abO];exact hB.u
 have call:∀X,af (fun _=>False) H X->an P (ι.f 376) #[.agg #[s,b,d,a,m],ev,xv] X fun r X'=>∃w1 w2 w3 w4 w5,r=.tuple #[.agg #[w1,w2,w3,w4,w5],.int .i64 0]/\(∀Y W,af W X' Y->(∀q,W q->H.size<=q/\q<X.size)->jW Y (.agg #[w1,w2,w3,w4,w5]) (bW F el) fx)/\af (fun _=>False) X X':=fun X K=>by
  refine(hp F el vs fx _ _ _ H X K hF he hl hst hes hx (.inr LA) hG hU').mono ?_;rintro r X' ⟨pv,rfl,hP,K'⟩;rw[abO]at hP;obtain⟨w1,w2,w3,w4,w5,vs',Xd,e,h⟩:=hP X' (fun _=>False) (af.refl _ _) (fun q h=>h.elim);subst e;exact⟨w1,w2,w3,w4,w5,rfl,hP,K'⟩
 have tail:∀(g:Fr) (X:Hp) (b6:Nat) (w1 w2 w3 w4 w5:Value),g 6=.pointer (some ⟨b6,0,none⟩)->g 7=.int .i64 0->Bl X b6 [w1,w2,w3,w4,w5]->jW X (.agg #[w1,w2,w3,w4,w5]) (bW F el) fx->af (fun _=>False) H X->vc P (P3 ι) (mM [.t 4,.t 5] Q) g X:=fun g X b6 w1 w2 w3 w4 w5 g6 g7 B6 PX KX=>by
  unfold P3 kA kB kF kC kJ kM kQ kS kT kV kY kZ;have Ai:((0:Int)!=0)=false:=rfl;have e01:((0:Int)==0)=true:=rfl;have l6:aM X (.pointer (some ⟨b6,0,none⟩)) 5=some #[w1,w2,w3,w4,w5]:=B6.aM 5 rfl;obtain⟨w,hw,hw1,hw2⟩:=hB.w;simp only[go_sem,Za,Zb,g6,g7,Ai,l6];refine(hs (bW F el) fx w _ X (hT.ai KX) PX hG hB.u hw hw1 hw2).mono ?_;rintro r X1 ⟨y,rv,YU,rfl,K1,hy⟩;rw[ae];simp only[go_sem,Za,Zb];refine ay fun X2 b9 e9 z9 B9 K9=>?_;have B9':Bl X2 b9 [.slice none 0 0]:=B9;have t9:=B9'.bM (o:=0) (n:=1) (by simp);have a1:bO #[rv]:=bd (by simp only[List.all_cons,List.all_nil,aI YU];rfl);have Je:af (fun q=>q=b9) X2 (aB X2 ⟨b9,0,none⟩ [rv]):=(af.refl _ _).aB _ (.inl rfl);have KF:af (fun _=>False) X1 (aB X2 ⟨b9,0,none⟩ [rv]):=K9.trans' Je fun q hq e=>by omega
  simp only[go_sem,Za,Zb,t9];refine⟨a1,?_⟩;rw[ae];have fin:Q (.tuple #[y,.bool (en (bW F el) fx).isSome]) (aB X2 ⟨b9,0,none⟩ [rv]):=by
   rw[hQ];refine⟨y,rfl,(KX.trans K1).trans KF,?_⟩
   cases ch:en (bW F el) fx with
   |none=>rw[ch]at hy;exact hy
   |some t=>rw[ch]at hy;exact hy.ai KF (by simp)
  cases ch:(en (bW F el) fx).isSome with
  |true=>
   rw[ch]at fin;simp only[go_sem,Za,Zb,e01];exact fin
  |false=>
   rw[ch]at fin;simp only[go_sem,Za,Zb,e01];exact fin
 simp only[go_sem,Za,Zb];refine bo (fun q=>H.size<=q) ?_;simp only[go_sem,Za,Zb,c5,l5,aC,hW];have a1:∀{Y:Hp} {w1 w2 w3 w4 w5:Value},jW Y (.agg #[w1,w2,w3,w4,w5]) (bW F el) fx->bO #[w1,w2,w3,w4,w5]:=fun hP=>by
  obtain⟨x1,x2,x3,x4,x5,vs',Xd,e,hp⟩:=hP
  cases e
  exact bd (by simp only[List.all_cons,List.all_nil,aI hp.e.aq,aI hp.d.aq,aI hp.s.aq,aI hp.m.aq,aI hp.f.aq];rfl)
 refine⟨(call H (af.refl _ _)).mono ?_,(af.refl _ _).push _,(call _ ((af.refl _ _).push _)).mono ?_⟩
 ·rintro r X ⟨w1,w2,w3,w4,w5,rfl,hP,K⟩;have sX:=K.size;rw[aJ];refine⟨K.any,?_⟩;have Kp:=(af.refl (fun _=>False) X).push (.cells #[.slice none 0 0,.slice none 0 0,.slice none 0 0,.slice none 0 0,.slice none 0 0] (ι.t 358));have Bp:=Bl.cS X #[.slice none 0 0,.slice none 0 0,.slice none 0 0,.slice none 0 0,.slice none 0 0] (ι.t 358);simp only[go_sem,Za,Zb];generalize X.push (.cells #[.slice none 0 0,.slice none 0 0,.slice none 0 0,.slice none 0 0,.slice none 0 0] (ι.t 358))=X1 at Kp Bp⊢;have K6:af (fun q=>q=X.size) X1 (aB X1 ⟨X.size,0,none⟩ [w1,w2,w3,w4,w5]):=(af.refl _ _).aB _ (.inl rfl);have B6:=Bp.aB 0 [w1,w2,w3,w4,w5];have KF:af (fun _=>False) X (aB X1 ⟨X.size,0,none⟩ [w1,w2,w3,w4,w5]):=Kp.trans' K6 fun q hq e=>by omega
  refine⟨Kp.any,⟨Bp.bM (o:=0) (n:=5) (by simp),a1 (hP X (fun _=>False) (af.refl _ _) (fun q h=>h.elim))⟩,K6.mono fun q _ e=>by omega,?_⟩;exact tail _ _ X.size w1 w2 w3 w4 w5 (by rfl) (by rfl) B6 (hP _ (fun _=>False) KF (fun q h=>h.elim)) (K.trans KF)
 ·rintro r X ⟨w1,w2,w3,w4,w5,rfl,hP,K⟩;have sX:=K.size;rw[Array.size_push]at sX hP;have Kp:=(af.refl (fun _=>False) H).push (.cells #[.slice none 0 0,.slice none 0 0,.slice none 0 0,.slice none 0 0,.slice none 0 0] (ι.t 358));have Bp:=K.bl (Bl.cS H #[.slice none 0 0,.slice none 0 0,.slice none 0 0,.slice none 0 0,.slice none 0 0] (ι.t 358)) (by simp);rw[aJ];refine⟨K.any,?_⟩;simp only[go_sem,Za,Zb];have K6:af (fun q=>q=H.size) X (aB X ⟨H.size,0,none⟩ [w1,w2,w3,w4,w5]):=(af.refl _ _).aB _ (.inl rfl);have B6:=Bp.aB 0 [w1,w2,w3,w4,w5];refine⟨⟨Bp.bM (o:=0) (n:=5) (by simp),a1 (hP X (fun _=>False) (af.refl _ _) (fun q h=>h.elim))⟩,K6.mono fun q _ e=>by omega,?_⟩;exact tail _ _ H.size w1 w2 w3 w4 w5 (by rfl) (by rfl) B6 (hP _ (fun q=>q=H.size) K6 (fun q e=>by omega)) ((Kp.trans K).trans' K6 fun q hq e=>by omega)
end Go.Mg

/- Lemmas of ours. No conditions. -/
import Derived.Test.YtoclemmcphgikaaGreatDoorMgG7
open Bool renaming false→ZS,true→ZT
open Decidable renaming decide→ZQ
open Go renaming Value→ZR
open Go.IntKind renaming i64→ZY,u8→ZX
open Go.Value renaming agg→Z0,bool→Z5,int→Z8,pointer→Z7,slice→Z6,tuple→ZZ
open Option renaming none→ZU,some→ZV
open Array renaming size_push→Xj
open List renaming all_cons→Yc,all_nil→Xs,mem_cons→YW,not_mem_nil→Zk,replicate→ZM
open Nat renaming le_refl→ZH
open Option renaming getD_some→Zu,isSome_some→Wl
open Nat renaming reduceEqDiff→Za,reduceAdd→Zb,reduceMul→Zc,reduceLeDiff→Zd,reduceLT→Ze
open Int renaming reduceBEq→Zf,reduceBNe→Zg,reduceLE→Zh,reduceLT→Zi
set_option maxRecDepth 100000
set_option linter.all false
namespace Go.Mg
open Go Go.RowKit
def Ca (V:aH):S:=
 kY [kC 4 (Z5 ZS)] (kY [kA 5 0,kf (.st (.v 1) (.t 5)),kf (.st (.v 2) (.c (Z5 ZT)))] (kY [kC 4 (Z5 ZT)] .ret))
def Cb:List RV:=[.t 4]
def Fq (V:aH):T:=
 (kW 14 (.m (.bld #[kZ,kZ,kZ,kZ,kZ,kZ,kZ,Z8 ZY 0,Z8 ZY 0,.nilFunc] [(0,(5,.t 7)),(5,(1,.t 10)),(6,(1,.t 11)),(8,(1,.t 12)),(9,(1,.t 13))])) (ka 15 (.box (V.t 370) (.t 14)) (kX 6 (.mv (.t 15)) .done) .wnil))
def II (V:aH):S:=
 kY [kR 3 (V.t 358) 0,kC 6 (Z7 .none)] (.seq (.dr (kW 7 (.m (.ldn 5 (.v 3))) (kW 8 (.fa 4 (.v 3)) (kW 9 (.ld (.t 8)) (kW 12 (.mv (.v 1)) (kW 13 (.mv (.v 2)) (ka 10 (kg (V.f 159) [.t 9]) (ka 11 (.rJ (V.t 368) 4 64 #[Z8 ZX 0,Z8 ZY 0,kZ,kZ] (.c (Z8 ZY 1)) (.c (Z8 ZY 1))) (Fq V) .wnil) (ka 11 (.rJ (V.t 368) 4 64 #[Z8 ZX 0,Z8 ZY 0,kZ,kZ] (.c (Z8 ZY 1)) (.c (Z8 ZY 1))) (ka 10 (kg (V.f 159) [.t 9]) (Fq V) .wnil) .wnil)))))))) .ret)
def IJ:List RV:=[.t 6]
def wW (V:aH):S:=
 kY [kR 2 (V.t 358) 0,kd 4 (.new (V.t 138) #[kZ]),kd 5 (.new (V.t 372) #[kZ]),kd 6 (.new (V.t 151) #[Z5 ZS]),kC 7 (Z8 ZY 0)] (.seq (kY [kM 10 5 2,kc 11 (kg (V.f 360) [.t 10]),kB 8 11] (kY [kA 12 8,kV 13 (.cm .neq ZY (.t 12) (.c (Z8 ZY 0)))] (.ite (.v 13) (.seq (.dr (kW 15 (.mv (.v 8)) (ka 14 (.rd (.m (.ldn 1 (.v 5)))) (kb (.st (.v 4) (.c (kZ))) (kb (.stn 1 (.v 5) (.t 14)) (kb (.st (.v 6) (.c (Z5 ZS))) (kX 7 (.mv (.t 15)) .done) .wnil) .wnil) .wnil) (kb (.st (.v 4) (.c (kZ))) (ka 14 (.rd (.m (.ldn 1 (.v 5)))) (kb (.stn 1 (.v 5) (.t 14)) (kb (.st (.v 6) (.c (Z5 ZS))) (kX 7 (.mv (.t 15)) .done) .wnil) .wnil) .wnil) .wnil)))) .ret) .skip))) (.seq (kY [kA 16 1,kV 17 (.cm .lss ZY (.t 16) (.c (Z8 ZY 0)))] (.ite (.v 17) (.seq (.dr (ka 18 (.rd (.m (.ldn 1 (.v 5)))) (kb (.st (.v 4) (.c (kZ))) (kb (.stn 1 (.v 5) (.t 18)) (kb (.st (.v 6) (.c (Z5 ZS))) (kX 7 (.mv (.c (Z8 ZY 1))) .done) .wnil) .wnil) .wnil) (kb (.st (.v 4) (.c (kZ))) (ka 18 (.rd (.m (.ldn 1 (.v 5)))) (kb (.stn 1 (.v 5) (.t 18)) (kb (.st (.v 6) (.c (Z5 ZS))) (kX 7 (.mv (.c (Z8 ZY 1))) .done) .wnil) .wnil) .wnil) .wnil))) .ret) .skip)) (kY [kM 19 5 2,kA 20 1,kU 21 (.m (.mkf (V.f 369) [] [.v 4,.v 6])),kc 22 (kg (V.f 371) [.t 19,.t 20,.t 21]),kB 9 22] (kY [kA 23 9,kc 24 (kg (V.f 367) [.t 23,.c (Z8 ZY 0)])] (.seq (.blk 0 (kY [kU 26 (.ld (.v 6)),kB 25 26] (.ite (.v 25) (.seq (.dr (ka 27 (.rd (.ld (.v 4))) (ka 28 (.rd (.m (.ldn 1 (.v 5)))) (kb (.st (.v 4) (.t 27)) (kb (.stn 1 (.v 5) (.t 28)) (kb (.st (.v 6) (.c (Z5 ZT))) (kX 7 (.mv (.c (Z8 ZY 0))) .done) .wnil) .wnil) .wnil) (kb (.st (.v 4) (.t 27)) (ka 28 (.rd (.m (.ldn 1 (.v 5)))) (kb (.stn 1 (.v 5) (.t 28)) (kb (.st (.v 6) (.c (Z5 ZT))) (kX 7 (.mv (.c (Z8 ZY 0))) .done) .wnil) .wnil) .wnil) .wnil)) (ka 28 (.rd (.m (.ldn 1 (.v 5)))) (ka 27 (.rd (.ld (.v 4))) (kb (.st (.v 4) (.t 27)) (kb (.stn 1 (.v 5) (.t 28)) (kb (.st (.v 6) (.c (Z5 ZT))) (kX 7 (.mv (.c (Z8 ZY 0))) .done) .wnil) .wnil) .wnil) .wnil) .wnil))) .ret) (kY [kA 30 9,kc 31 (kg (V.f 366) [.t 30]),kB 29 31] (.ite (.v 29) (.seq (.dr (ka 32 (.rd (.m (.ldn 1 (.v 5)))) (kb (.st (.v 4) (.c (kZ))) (kb (.stn 1 (.v 5) (.t 32)) (kb (.st (.v 6) (.c (Z5 ZS))) (kX 7 (.mv (.c (Z8 ZY 3))) .done) .wnil) .wnil) .wnil) (kb (.st (.v 4) (.c (kZ))) (ka 32 (.rd (.m (.ldn 1 (.v 5)))) (kb (.stn 1 (.v 5) (.t 32)) (kb (.st (.v 6) (.c (Z5 ZS))) (kX 7 (.mv (.c (Z8 ZY 3))) .done) .wnil) .wnil) .wnil) .wnil))) .ret) .skip))))) (.seq (.dr (kW 33 (.mv (.v 9)) (kW 34 (.nil (.t 33)) (kW 35 (.fa 6 (.t 34)) (kW 36 (.ld (.t 35)) (kW 37 (.m (.bld #[kZ] [(0,(1,.t 36))])) (kb (.st (.v 4) (.c (kZ))) (kb (.stn 1 (.v 5) (.t 37)) (kb (.st (.v 6) (.c (Z5 ZS))) (kX 7 (.mv (.c (Z8 ZY 0))) .done) .wnil) .wnil) .wnil))))))) .ret))))))
def wX:List RV:=[.c1 4,.cn 5 1,.c1 6,.t 7]
def W3 (r4 r5 r6 q:Nat):Prop:=q=r4\/q=r5\/q=r6
def ah1 (seen:List (List Int)):Bool:=!seen.isEmpty
def ala (r4 r5 r6:Nat) (seen:List (List Int)) (H:Hp):Prop:=match seen with
 |[]=>Bl H r4 [Z6 ZU 0 0]/\Bl H r5 [Z6 ZU 0 0]/\Bl H r6 [Z5 ZS]
 |t::_=>∃v,Bl H r4 [v]/\Bl H r5 [Z6 ZU 0 0]/\Bl H r6 [Z5 ZT]/\aP H v (iL t)/\∀q,aV v q->¬W3 r4 r5 r6 q
variable {P:Program} {V:aH} {k:FuncId}
def RQ (hk:ak P k (Ca V) Cb 3) {r4 r5 r6:Nat} (hne:r4≠r5/\r4≠r6/\r5≠r6):LW P (W3 r4 r5 r6) (.func (.func k) #[] #[Z7 (ZV ⟨r4,0,ZU⟩),Z7 (ZV ⟨r6,0,ZU⟩)]) ah1 (ala r4 r5 r6):=by
 refine⟨⟨k,_,rfl,hk.body,fun seen t v H hst hJ hv hn=>?_⟩,fun seen H H' W hst hJ hK hW=>?_⟩
 ·have hs:seen=[]:=by
   cases seen with
   |nil=>rfl
   |cons a l=>cases hst
  subst hs;obtain⟨B4,B5,B6⟩:=hJ
  change an P k #[v,Z7 (ZV ⟨r4,0,ZU⟩),Z7 (ZV ⟨r6,0,ZU⟩)] H _
  refine ah hk (args:=[_,_,_]) (by simp) ?_;unfold Ca Cb kA kC kf kY;have hs:=hv.aq;have t4:=B4.bw (o:=0) (by simp);have yb:=B4.az 0 v;have k4:af (fun q=>q=r4) H (az H ⟨r4,0,ZU⟩ v):=(af.refl _ _).az _ (.inl rfl);have B6':=k4.bl B6 (fun e=>hne.2.1 e.symm);have t6:=B6'.bw (o:=0) (by simp);have B6s:=B6'.az 0 (Z5 ZT);have k6:af (fun q=>q=r6) (az H ⟨r4,0,ZU⟩ v) (az (az H ⟨r4,0,ZU⟩ v) ⟨r6,0,ZU⟩ (Z5 ZT)):=(af.refl _ _).az _ (.inl rfl);have o1:v.oneCell'=ZT:=aK hs;simp only[go_sem,Za,Zb,t4];refine⟨o1,?_⟩;rw[ae];simp only[go_sem,Za,Zb,t6];rw[ae];simp only[go_sem,Za,Zb,ae];have KK:af (W3 r4 r5 r6) H (az (az H ⟨r4,0,ZU⟩ v) ⟨r6,0,ZU⟩ (Z5 ZT)):=(k4.mono fun q _ e=>.inl e).trans (k6.mono fun q _ e=>.inr (.inr e));exact⟨rfl,⟨v,k6.bl yb hne.2.1,k6.bl (k4.bl B5 fun e=>hne.1 e.symm) hne.2.2,B6s,hv.ai KK fun q hq=>hn q hq,hn⟩,KK⟩
 ·have hs:seen=[]:=by
   cases seen with
   |nil=>rfl
   |cons a l=>cases hst
  subst hs;exact⟨hK.bl hJ.1 (hW _ (.inl rfl)),hK.bl hJ.2.1 (hW _ (.inr (.inl rfl))),hK.bl hJ.2.2 (hW _ (.inr (.inr rfl)))⟩
def yY (P:Program) (k:FuncId):Prop:=∀(el di sa mo fv:ZR) (fx:List Int) (g:FuncId) (ca:Array ZR) (H:Hp),aP H fv (iL fx)->fx≠[]->fx.length<=1000→
 an P k #[Z0 #[el,di,sa,mo,fv],Z8 ZY 0,.func (.func g) #[] ca] H fun r H'=>∃sB cM im nv,r=Z7 (ZV ⟨sB,0,ZU⟩)/\H.size<=cM/\cM<sB∧
  Bl H' sB [el,di,sa,mo,fv,Z6 (ZV ⟨cM,0,ZU⟩) fx.length im,nv,Z8 ZY 0,Z8 ZY 0,.func (.func g) #[] ca]/\br H' (Z6 (ZV ⟨cM,0,ZU⟩) fx.length im) (iL fx)∧
  (∃nl,cr yW 4 H' nv nl/\nl.length=1)/\(∀q,ay nv q->H.size<=q/\q≠cM/\q<sB)/\af (fun _=>False) H H'
def af4 {W:Nat->Prop} {el di sa mo fv:ZR} {ba:Option Addr} {n im nn nc:Nat} {no:Option Addr} {g:FuncId} {ca:Array ZR} {e:Env} {f:Fr} {A:Hp} {Q:Fr->Hp->Prop}
  (e7:look e 7=Z0 #[el,di,sa,mo,fv]) (e10:look e 10=.slice ba n im) (e11:look e 11=.slice no nn nc) (e12:look e 12=Z8 ZY 0) (e13:look e 13=.func (.func g) #[] ca)
  (hK:∀A',Bl A' A.size [el,di,sa,mo,fv,.slice ba n im,.slice no nn nc,Z8 ZY 0,Z8 ZY 0,.func (.func g) #[] ca]->af (fun _=>False) A A'->Q (bR f 6 (Z7 (ZV ⟨A.size,0,ZU⟩))) A'):dJ P W (Fq V) e f A Q:=by
 unfold Fq kW kX ka kZ;simp-implicitDefEqProofs only[go_sem,↓reduceIte,Za,Zb,Zc,reduceCtorEq,Zf,Zg,Zh,Zi,Zd,Ze,e7,e10,e11,e12,e13];exact⟨(af.refl _ _).push _,hK _ (Bl.dh _ _ _) ((af.refl _ _).push _)⟩
def abL (hk:ak P k (II V) IJ 3) (hc:gA P (V.f 159)):yY P k:=by
 intro el di sa mo fv fx g ca H hf hne hl;refine ah hk (args:=[_,_,_]) (by simp) ?_;unfold II IJ kC kR kW ka kg kY kZ;simp only[go_sem,Za,Zb];refine ax fun H1 b3 e3 z3 B3 K3=>?_;have uT:Bl H1 b3 [el,di,sa,mo,fv]:=B3;have c4:cell H1 ⟨b3,4,ZU⟩=ZV fv:=by rw[uT.cell];rfl
 have l5:aQ H1 ⟨b3,0,ZU⟩ 5=ZV #[el,di,sa,mo,fv]:=by
  have:=uT.aQ (o:=0) (n:=5) (by simp);simpa using this
 have s3:=K3.size;have hf1:=hf.ai K3 (by simp);have zr:(rep #[Value.int ZX 0,Z8 ZY 0,Z6 ZU 0 0,Z6 ZU 0 0] 4).toList=([((0:Int),(0:Int),((ZU,0,0):S3),((ZU,0,0):S3))]:List NdV).flatMap yW:=by
  simp[rep,yW,sV3,Array.toList_range,List.range_succ]
 simp only[go_sem,Za,Zb];refine aZ (fun _=>False) ?_;simp only[go_sem,Za,Zb,c4,l5,aC]
 -- what the tail leaves
 have tail:∀(e:Env) (A:Hp) (v:ZR) (bn:Nat),br A v (iL fx)->(∀q,ay v q->H.size<=q)->Bl A bn (([((0:Int),(0:Int),((ZU,0,0):S3),((ZU,0,0):S3))]:List NdV).flatMap yW)->H.size<=bn->(∀q,ay v q->q≠bn)->af (fun _=>False) H A→
   look e 7=Z0 #[el,di,sa,mo,fv]->look e 10=v->look e 11=Z6 (ZV ⟨bn,0,ZU⟩) 1 1->look e 12=Z8 ZY 0->look e 13=.func (.func g) #[] ca->∀(f:Fr),dJ P (fun _=>False) (Fq V) e f A fun f' A'=>kr [.t 6] (fun r H'=>∃sB cM im nv,r=Z7 (ZV ⟨sB,0,ZU⟩)/\H.size<=cM/\cM<sB∧
  Bl H' sB [el,di,sa,mo,fv,Z6 (ZV ⟨cM,0,ZU⟩) fx.length im,nv,Z8 ZY 0,Z8 ZY 0,.func (.func g) #[] ca]/\br H' (Z6 (ZV ⟨cM,0,ZU⟩) fx.length im) (iL fx)∧
  (∃nl,cr yW 4 H' nv nl/\nl.length=1)/\(∀q,ay nv q->H.size<=q/\q≠cM/\q<sB)/\af (fun _=>False) H H') .r f' A':=fun e A v bn O o Bn hbn hd KA e7 e10 e11 e12 e13 f=>by
  obtain⟨b,c,L,rfl,h1,h2,hB,h3,_⟩:=O.some (by intro e';exact hne (List.eq_nil_of_length_eq_zero (by rw[<-aA,e'];rfl)));rw[aA]at*;refine af4 e7 e10 e11 e12 e13 fun A' BA ya=>?_;have hb:=o b rfl;have hlt:=O.bo (k:=b) rfl;have alb:=Bn.lt;simp only[go_sem,Za,Zb,ae];refine⟨A.size,b,c,Z6 (ZV ⟨bn,0,ZU⟩) 1 1,rfl,hb,hlt,BA,O.ai ya (by simp),⟨[((0:Int),(0:Int),((ZU,0,0):S3),((ZU,0,0):S3))],?_,rfl⟩,fun q hq=>?_,KA.trans ya⟩
  ·exact cr.bl (ya.bl Bn (by simp)) rfl (ZH _) (by simp[yW]) (by simp[yW])
  ·have vl:q=bn:=hq;subst vl;exact⟨hbn,fun e'=>hd b rfl e'.symm,alb⟩
 refine⟨(hc fx fv H1 hf1 (by omega)).mono ?_,⟨by omega,by unfold maxLen;omega⟩,(af.refl _ _).push _,(hc fx fv _ (hf1.ai ((af.refl (fun _=>False) _).push _) (by simp)) (by omega)).mono ?_⟩
 ·rintro v A ⟨O,o,K⟩;have sK:=K.size;rw[aJ];refine⟨K,?_⟩;simp only[go_sem,Za,Zb];have B':=Bl.dh A (rep #[Value.int ZX 0,Z8 ZY 0,Z6 ZU 0 0,Z6 ZU 0 0] 4) (V.t 368);rw[zr]at B';have KP:=(af.refl (fun _=>False) A).push (Obj.cells (rep #[Value.int ZX 0,Z8 ZY 0,Z6 ZU 0 0,Z6 ZU 0 0] 4) (V.t 368));refine⟨⟨by omega,by unfold maxLen;omega⟩,KP,?_⟩;exact tail _ _ v A.size (O.ai KP (by simp)) (fun q hq=>by have:=o q hq;omega) B' (by omega) (fun q hq=>by have:=O.bo hq;omega) ((K3.trans K).trans KP) rfl rfl rfl rfl rfl _
 ·rintro v A ⟨O,o,K⟩;have sK:=K.size;rw[Xj]at sK;have B':=Bl.dh H1 (rep #[Value.int ZX 0,Z8 ZY 0,Z6 ZU 0 0,Z6 ZU 0 0] 4) (V.t 368);rw[zr]at B';have KP:=(af.refl (fun _=>False) H1).push (Obj.cells (rep #[Value.int ZX 0,Z8 ZY 0,Z6 ZU 0 0,Z6 ZU 0 0] 4) (V.t 368));rw[aJ];refine⟨K,?_⟩;simp only[go_sem,Za,Zb];refine tail _ _ v H1.size O (fun q hq=>?_) (K.bl B' id) (by omega) (fun q hq=>?_) ((K3.trans KP).trans K) rfl rfl rfl rfl rfl _
  ·have:=o q hq;rw[Xj]at this;omega
  ·have:=o q hq;rw[Xj]at this;omega
structure jt (r4 r5 r6:Nat) (H0 H:Hp) (x4 x5 x6:ZR):Prop where
 b4:Bl H r4 [x4]
 b5:Bl H r5 [x5]
 b6:Bl H r6 [x6]
 k:af (fun q=>q=r4\/q=r5\/q=r6) H0 H
section
variable {P:Program} {r4 r5 r6:Nat} {H0 X:Hp} {x4 x5 x6:ZR} {e:Env} {f:Fr} {t m:T} {d:Nat} {Q:Fr->Hp->Prop} {a:A}
def jt.rd4 (h:jt r4 r5 r6 H0 X x4 x5 x6) (f4:f 4=Z7 (ZV ⟨r4,0,ZU⟩)) (hK:dJ P (W3 r4 r5 r6) t ((d,x4)::e) f X Q) (hm:dJ P (W3 r4 r5 r6) m e f X Q):dJ P (W3 r4 r5 r6) (.wcons (.t d) ZU (.rd (.ld (.v 4))) t m) e f X Q:=by
 have c4:cell X ⟨r4,0,ZU⟩=ZV x4:=by rw[h.b4.cell];rfl
 rw[en];simp only[EX.wp,PX.pre,PX.val,k7,f4,zQ,c4,aJ,gQ,nV,Wl,Zu];exact⟨⟨trivial,af.refl _ _,hK⟩,hm⟩
def jt.rd5 (h:jt r4 r5 r6 H0 X x4 x5 x6) (f5:f 5=Z7 (ZV ⟨r5,0,ZU⟩)) (hK:dJ P (W3 r4 r5 r6) t ((d,Z0 #[x5])::e) f X Q) (hm:dJ P (W3 r4 r5 r6) m e f X Q):dJ P (W3 r4 r5 r6) (.wcons (.t d) ZU (.rd (.m (.ldn 1 (.v 5)))) t m) e f X Q:=by
 have l5:aL X (Z7 (ZV ⟨r5,0,ZU⟩)) 1=ZV #[x5]:=h.b5.aL 1 rfl;rw[en];simp only[EX.wp,PX.pre,PX.val,PM.pre,PM.val,k7,f5,l5,aJ,gQ,nV,Wl,Zu];exact⟨⟨trivial,af.refl _ _,hK⟩,hm⟩
def jt.st4 (h:jt r4 r5 r6 H0 X x4 x5 x6) (hn:r4≠r5/\r4≠r6/\r5≠r6) (f4:f 4=Z7 (ZV ⟨r4,0,ZU⟩)) {y:ZR} (ha:a.rd e f=y) (hy:y.oneCell'=ZT) (hK:∀X',jt r4 r5 r6 H0 X' y x5 x6->dJ P (W3 r4 r5 r6) t e f X' Q) (hm:dJ P (W3 r4 r5 r6) m e f X Q):dJ P (W3 r4 r5 r6) (.wcons .no ZU (.st (.v 4) a) t m) e f X Q:=by
 have t4:=h.b4.bw (o:=0) (by simp);have K:af (fun q=>q=r4) X (az X ⟨r4,0,ZU⟩ y):=(af.refl _ _).az _ (.inl rfl);rw[en];simp only[EX.wp,bw,Uy,k7,f4,ha,aJ,oo,jo];exact⟨⟨⟨t4,hy⟩,K.mono fun q _ e=>.inl e,hK _ ⟨h.b4.az 0 y,K.bl h.b5 fun e=>hn.1 e.symm,K.bl h.b6 fun e=>hn.2.1 e.symm,h.k.trans (K.mono fun q _ e=>.inl e)⟩⟩,hm⟩
def jt.st6 (h:jt r4 r5 r6 H0 X x4 x5 x6) (hn:r4≠r5/\r4≠r6/\r5≠r6) (f6:f 6=Z7 (ZV ⟨r6,0,ZU⟩)) {y:ZR} (ha:a.rd e f=y) (hy:y.oneCell'=ZT) (hK:∀X',jt r4 r5 r6 H0 X' x4 x5 y->dJ P (W3 r4 r5 r6) t e f X' Q) (hm:dJ P (W3 r4 r5 r6) m e f X Q):dJ P (W3 r4 r5 r6) (.wcons .no ZU (.st (.v 6) a) t m) e f X Q:=by
 have t4:=h.b6.bw (o:=0) (by simp);have K:af (fun q=>q=r6) X (az X ⟨r6,0,ZU⟩ y):=(af.refl _ _).az _ (.inl rfl);rw[en];simp only[EX.wp,bw,Uy,k7,f6,ha,aJ,oo,jo];exact⟨⟨⟨t4,hy⟩,K.mono fun q _ e=>.inr (.inr e),hK _ ⟨K.bl h.b4 hn.2.1,K.bl h.b5 hn.2.2,h.b6.az 0 y,h.k.trans (K.mono fun q _ e=>.inr (.inr e))⟩⟩,hm⟩
def jt.st5 (h:jt r4 r5 r6 H0 X x4 x5 x6) (hn:r4≠r5/\r4≠r6/\r5≠r6) (f5:f 5=Z7 (ZV ⟨r5,0,ZU⟩)) {y:ZR} (ha:a.rd e f=Z0 #[y]) (hy:y.oneCell'=ZT) (hK:∀X',jt r4 r5 r6 H0 X' x4 y x6->dJ P (W3 r4 r5 r6) t e f X' Q) (hm:dJ P (W3 r4 r5 r6) m e f X Q):dJ P (W3 r4 r5 r6) (.wcons .no ZU (.stn 1 (.v 5) a) t m) e f X Q:=by
 have t4:=h.b5.bG (o:=0) (n:=1) (by simp);have K:af (fun q=>q=r5) X (aB X ⟨r5,0,ZU⟩ [y]):=(af.refl _ _).aB _ (.inl rfl);have B:=h.b5.aB 0 [y];have a1:bM #[y]:=aU (by simp[hy]);rw[en];simp only[EX.wp,okN,gw,k7,f5,ha,aJ,oo,jo,Value.cells];exact⟨⟨⟨t4,rfl,a1⟩,K.mono fun q _ e=>.inr (.inl e),hK _ ⟨K.bl h.b4 hn.1,B,K.bl h.b6 fun e=>hn.2.2 e.symm,h.k.trans (K.mono fun q _ e=>.inr (.inl e))⟩⟩,hm⟩
end
structure alc (P:Program) (V:aH):Prop where
 chk:jQ P V (V.f 360)
 beg:yY P (V.f 371)
 vis:ak P (V.f 367) (uU V) uV 2
 slv:ak P (V.f 369) (Ca V) Cb 3
 vc:RO P V
def et (p:rF) (fx:List Int):Option (List Int):=(lV p (lW fx+1) fx).head?
def sJ (P:Program) (V:aH) (k:FuncId):Prop:=∀(p:rF) (fx:List Int) (w:Nat) (v:ZR) (H:Hp),bh V H->lz H v p fx->eT p->yp p.el.length fx->(∀k,(bf (fu p k)).length<=w)->w<=256->1+gN w (lW fx)<=2199023255552→
 an P k #[v,Z8 ZY 0] H fun r H'=>∃sv rv,aq rv/\r=ZZ #[sv,Z0 #[rv],.bool (et p fx).isSome,Z8 ZY 0]/\af (fun _=>False) H H'/\match et p fx with|none=>sv=Z6 ZU 0 0|some t=>aP H' sv (iL t)
def N5 {P:Program} {V:aH} {k:FuncId} (hk:ak P k (wW V) wX 2) (c:alc P V):sJ P V k:=by
 intro p fx w v H hT hv hG hU hw hw1 hB;have pg:=hv;obtain⟨el,di,sa,mo,fv,vs,ms,rfl,hp⟩:=hv;refine qI fun Q hQ=>?_;refine ah hk (args:=[_,_]) (by simp) ?_;unfold wW wX kA kB kC kM kR kU kV kW kX ka kb kc kd kg kY kZ;have hul:=hU.1;have xX:=hG.n0;have hn:=hG.n;simp only[go_sem,Za,Zb];refine ax fun H1 b2 e1 z1 B1 K1=>?_;have bL:Bl H1 b2 [el,di,sa,mo,fv]:=B1;simp only[go_sem,Za,Zb];refine ax fun H2 r4 e2 z2 B2 K2=>?_;have fG:Bl H2 r4 [Z6 ZU 0 0]:=B2;simp only[go_sem,Za,Zb];refine ax fun H3 r5 e3 z3 B3 K3=>?_;have uT:Bl H3 r5 [Z6 ZU 0 0]:=B3;simp only[go_sem,Za,Zb];refine ax fun H4 r6 e4 z4 B4 K4=>?_;have tU:Bl H4 r6 [Z5 ZS]:=B4;have oF:=((K1.trans K2).trans K3).trans K4;have s4:=tU.lt;have yk:=((K2.trans K3).trans K4).bl bL (by simp);have Lw:=(K3.trans K4).bl fG (by simp);have Pl:=K4.bl uT id;have l5:aL H4 (Z7 (ZV ⟨b2,0,ZU⟩)) 5=ZV #[el,di,sa,mo,fv]:=yk.aL 5 rfl;have hne:r4≠r5/\r4≠r6/\r5≠r6:=by omega
 simp only[go_sem,Za,Zb,l5];refine(c.chk p fx _ H4 (pg.aj oF) hG hU).mono ?_;rintro r H5 ⟨rfl,K5⟩;have uz:((0:Int)!=0)=ZS:=rfl;have e01:ZQ ((0:Int)<0)=ZS:=rfl;have GB:=K5.bl yk id;have l5:aL H5 (Z7 (ZV ⟨b2,0,ZU⟩)) 5=ZV #[el,di,sa,mo,fv]:=GB.aL 5 rfl;rw[ae];simp only[go_sem,Za,Zb,uz,e01,l5];have DS:=oF.trans K5;have hp5:=hp.aj DS;refine(c.beg el di sa mo fv fx _ _ H5 hp5.f (by intro e;rw[e]at hul;simp at hul;omega) (by omega)).mono ?_;rintro r H6 ⟨sB,cM,im,nv,rfl,hb1,hb2,BS,OS,⟨nl,ON,hnl⟩,on,K6⟩;have s6:=K6.size;have s5:=K5.size;have DQ:=DS.trans K6;have B26:=(K5.trans K6).bl Lw (by simp);have B36:=(K5.trans K6).bl Pl (by simp);have B46:=(K5.trans K6).bl tU (by simp);have hev:=RQ (P:=P) c.slv (r4:=r4) (r5:=r5) (r6:=r6) hne;have S6:qF H (W3 r4 r5 r6) sB cM im el di sa mo fv (.func (.func (V.f 369)) #[] #[Z7 (ZV ⟨r4,0,ZU⟩),Z7 (ZV ⟨r6,0,ZU⟩)]) H6 fx nv 1:=by
  have s1:=K1.size;have s2:=K2.size;have s3:=K3.size;have s04:=oF.size;refine⟨DQ,by omega,by omega,by omega,⟨?_,?_⟩,?_,⟨0,BS⟩,OS,⟨nl,ON,hnl⟩,fun q hq=>?_⟩
  ·rintro(h|h|h)<;>omega
  ·rintro(h|h|h)<;>omega
  ·rintro q (h|h|h)<;>omega
  ·obtain⟨h1,h2,h3⟩:=on q hq;refine⟨by omega,by omega,h2,?_⟩;rintro(h|h|h)<;>omega
 rw[ae];simp only[go_sem,Za,Zb];refine(RP c.vis rfl c.vc hev hp hT hG hU hw hw1 (lW fx) fx nv 1 0 [] H6 rfl hU S6 (by omega) hB rfl ⟨B26,B36,B46⟩).mono ?_;rintro r H7 ⟨rfl,J7,K7,hgo⟩;have s04:=oF.size;have s1:=K1.size;have s2:=K2.size;have s3:=K3.size;have KH7:af (fun _=>False) H H7:=DQ.trans' K7 fun q hq h=>by
  rcases h with h|h|(h|h|h)|h
  ·omega
  ·omega
  ·omega
  ·omega
  ·omega
  ·have:=(on _ h).1;omega
 have bE:∀{X:Hp},af (fun q=>q=r4\/q=r5\/q=r6) H7 X->af (fun _=>False) H X:=fun K=>KH7.trans' K fun q hq h=>by rcases h with h|h|h<;>omega
 rw[ae]
 cases hL:lV p (lW fx+1) fx with
 |nil=>
  have hs:et p fx=ZU:=by unfold et;rw[hL];rfl
  rw[hL]at J7 hgo;obtain⟨pn,N',S7,-,-,-⟩:=hgo rfl;obtain⟨B47,B57,B67⟩:Bl H7 r4 [Z6 ZU 0 0]/\Bl H7 r5 [Z6 ZU 0 0]/\Bl H7 r6 [Z5 ZS]:=J7;obtain⟨lk,BS7⟩:=S7.blk;obtain⟨nl',ON',_⟩:=S7.nd;have c67:cell H7 ⟨r6,0,ZU⟩=ZV (Z5 ZS):=by rw[B67.cell];rfl
  have hsB:¬(sB=r4\/sB=r5\/sB=r6):=by omega
  have cS6:cell H7 ⟨sB,6,ZU⟩=ZV pn:=by rw[BS7.cell];rfl
  simp only[go_sem,Za,Zb,c67];refine(c.vc.full sB _ lk H7 BS7 rfl).mono ?_;rintro r H8 ⟨rfl,rfl⟩;rw[ae];simp only[go_sem,Za,Zb];obtain⟨na,nn,nc,rfl⟩:=ON'.shape;refine aZ (W3 r4 r5 r6) ?_;have hW:W3 r4 r5 r6 sB=False:=eq_false hsB;have base:jt r4 r5 r6 H8 H8 (Z6 ZU 0 0) (Z6 ZU 0 0) (Z5 ZS):=⟨B47,B57,B67,af.refl _ _⟩
  rw[cQ,cQ,cQ,cQ,cQ];refine⟨trivial,by simp only[go_sem,Za,Zb],by simp only[go_sem,Za,Zb],by simp only[go_sem,Za,Zb,cS6,hW],by simp only[go_sem,Za,Zb,cS6],?_⟩;refine base.st4 hne (by rfl) rfl rfl (fun X1 h1=>?_) trivial;refine h1.st5 hne (by rfl) (y:=.slice na nn nc) (by simp only[go_sem,Za,Zb,cS6]) rfl (fun X2 h2=>?_) trivial;refine h2.st6 hne (by rfl) rfl rfl (fun X3 h3=>?_) trivial;have k4:cell X3 ⟨r4,0,ZU⟩=ZV (Z6 ZU 0 0):=by rw[h3.b4.cell];rfl
  have k6:cell X3 ⟨r6,0,ZU⟩=ZV (Z5 ZS):=by rw[h3.b6.cell];rfl
  have k5:aL X3 (Z7 (ZV ⟨r5,0,ZU⟩)) 1=ZV #[.slice na nn nc]:=h3.b5.aL 1 rfl;simp only[go_sem,Za,Zb,dQ,dR,k4,k5,k6];rw[hQ];exact⟨_,.slice na nn nc,trivial,by rw[hs];rfl,bE h3.k,by rw[hs]⟩
 |cons t L=>
  have hs:et p fx=ZV t:=by unfold et;rw[hL];rfl
  have hd:jS ah1 [] (t::L)=([t],ZT):=rfl;rw[hL,hd]at J7;obtain⟨sv,B47,B57,B67,hsv,hsn⟩:∃v,Bl H7 r4 [v]/\Bl H7 r5 [Z6 ZU 0 0]/\Bl H7 r6 [Z5 ZT]/\aP H7 v (iL t)/\∀q,aV v q->¬W3 r4 r5 r6 q:=J7;have c67:cell H7 ⟨r6,0,ZU⟩=ZV (Z5 ZT):=by rw[B67.cell];rfl
  have hS:=hsv.aq;simp only[go_sem,Za,Zb,c67];refine aZ (W3 r4 r5 r6) ?_;have base:jt r4 r5 r6 H7 H7 sv (Z6 ZU 0 0) (Z5 ZT):=⟨B47,B57,B67,af.refl _ _⟩
  have leaf:∀(X:Hp) (e:Env) (f:Fr),f 4=Z7 (ZV ⟨r4,0,ZU⟩)->f 5=Z7 (ZV ⟨r5,0,ZU⟩)->f 6=Z7 (ZV ⟨r6,0,ZU⟩)->jt r4 r5 r6 H7 X sv (Z6 ZU 0 0) (Z5 ZT)->dJ P (W3 r4 r5 r6) (.px (.v 7) ZU (.mv (.c (Z8 ZY 0))) .done) e f X fun f' A'=>kr [.c1 4,.cn 5 1,.c1 6,.t 7] Q .r f' A':=fun X e f f4 f5 f6 h3=>by
   have k4:cell X ⟨r4,0,ZU⟩=ZV sv:=by rw[h3.b4.cell];rfl
   have k6:cell X ⟨r6,0,ZU⟩=ZV (Z5 ZT):=by rw[h3.b6.cell];rfl
   have k5:aL X (Z7 (ZV ⟨r5,0,ZU⟩)) 1=ZV #[Z6 ZU 0 0]:=h3.b5.aL 1 rfl;simp only[go_sem,Za,Zb,dQ,dR,f4,f5,f6,k4,k5,k6];rw[hQ];refine⟨_,Z6 ZU 0 0,trivial,by rw[hs];rfl,bE h3.k,?_⟩;rw[hs];exact hsv.ai h3.k hsn
  have o1:sv.oneCell'=ZT:=aK hS
  repeat' (first|exact trivial|exact leaf _ _ _ (by rfl) (by rfl) (by rfl) (by assumption)|refine jt.rd4 (by assumption) (by rfl) ?_ ?_|refine jt.rd5 (by assumption) (by rfl) ?_ ?_|refine jt.st4 (y:=sv) (by assumption) hne (by rfl) rfl o1 (fun _ _=>?_) ?_|refine jt.st5 (y:=Z6 ZU 0 0) (by assumption) hne (by rfl) rfl rfl (fun _ _=>?_) ?_|refine jt.st6 (y:=Z5 ZT) (by assumption) hne (by rfl) rfl rfl (fun _ _=>?_) ?_)
def IK (V:aH):S:=
 kY [kC 2 (kZ)] (.seq (kY [kA 3 0,kV 4 (.m (.eqn .sl ZS (.t 3)))] (.ite (.v 4) (kY [kC 2 (kZ)] .ret) .skip)) (kY [kc 5 (.aX (V.t 128) 1 0 []),kA 6 0,kc 7 (.app ZS (V.t 128) 1 24 #[kZ] (.t 5) (.t 6)),kB 2 7] .ret))
def IL:List RV:=[.t 2]
def IM (V:aH):S:=
 kY [kC 2 (kZ)] (.seq (kY [kA 3 0,kV 4 (.m (.eqn .sl ZS (.t 3)))] (.ite (.v 4) (kY [kC 2 (kZ)] .ret) .skip)) (kY [kc 5 (.aX (V.t 298) 2 0 []),kA 6 0,kc 7 (.app ZS (V.t 298) 2 32 #[Z8 ZY 0,kZ] (.t 5) (.t 6)),kB 2 7] .ret))
def IN:List RV:=[.t 2]
def RT (V:aH):T:=
 (kW 43 (.m (.bld #[kZ,kZ,kZ,kZ,kZ] [(0,(1,.t 31)),(1,(1,.t 34)),(2,(1,.t 37)),(3,(1,.t 40)),(4,(1,.t 42))])) (.wcons (.v 9) .none (.new (V.t 358) #[kZ,kZ,kZ,kZ,kZ]) (kb (.stn 5 (.v 9) (.t 43)) .done .wnil) .wnil))
def wY (V:aH):T:=
 (kW 43 (.m (.bld #[kZ,kZ,kZ,kZ,kZ] [(0,(1,.t 31)),(1,(1,.t 34)),(2,(1,.t 37)),(3,(1,.t 40)),(4,(1,.t 42))])) (kb (.stn 5 (.v 9) (.t 43)) .done .wnil))
def RU (V:aH):S:=
 (.dr (kW 30 (.mv (.v 1)) (kW 32 (.fa 2 (.v 3)) (kW 33 (.ld (.t 32)) (kW 35 (.fa 3 (.v 3)) (kW 36 (.ld (.t 35)) (kW 38 (.fa 4 (.v 3)) (kW 39 (.ld (.t 38)) (kW 41 (.mv (.v 2)) (ka 31 (kg (V.f 374) [.t 30]) (ka 34 (kg (V.f 204) [.t 33]) (ka 37 (kg (V.f 204) [.t 36]) (ka 40 (kg (V.f 375) [.t 39]) (ka 42 (kg (V.f 159) [.t 41]) (RT V) (.wcons (.v 9) .none (.new (V.t 358) #[kZ,kZ,kZ,kZ,kZ]) (ka 42 (kg (V.f 159) [.t 41]) (wY V) .wnil) .wnil)) (.wcons (.v 9) .none (.new (V.t 358) #[kZ,kZ,kZ,kZ,kZ]) (ka 40 (kg (V.f 375) [.t 39]) (ka 42 (kg (V.f 159) [.t 41]) (wY V) .wnil) .wnil) .wnil)) (.wcons (.v 9) .none (.new (V.t 358) #[kZ,kZ,kZ,kZ,kZ]) (ka 37 (kg (V.f 204) [.t 36]) (ka 40 (kg (V.f 375) [.t 39]) (ka 42 (kg (V.f 159) [.t 41]) (wY V) .wnil) .wnil) .wnil) .wnil)) (.wcons (.v 9) .none (.new (V.t 358) #[kZ,kZ,kZ,kZ,kZ]) (ka 34 (kg (V.f 204) [.t 33]) (ka 37 (kg (V.f 204) [.t 36]) (ka 40 (kg (V.f 375) [.t 39]) (ka 42 (kg (V.f 159) [.t 41]) (wY V) .wnil) .wnil) .wnil) .wnil) .wnil)) (.wcons (.v 9) .none (.new (V.t 358) #[kZ,kZ,kZ,kZ,kZ]) (ka 31 (kg (V.f 374) [.t 30]) (ka 34 (kg (V.f 204) [.t 33]) (ka 37 (kg (V.f 204) [.t 36]) (ka 40 (kg (V.f 375) [.t 39]) (ka 42 (kg (V.f 159) [.t 41]) (wY V) .wnil) .wnil) .wnil) .wnil) .wnil) .wnil)))))))))))
def RW (V:aH):S:=
 (.seq (kY [kM 50 5 9,kc 51 (kg (V.f 360) [.t 50]),kB 10 51] (kY [kA 52 10,kV 53 (.cm .neq ZY (.t 52) (.c (Z8 ZY 0)))] (.ite (.v 53) (kY [kU 54 (.m (.bld #[kZ,kZ,kZ,kZ,kZ] [])),kA 55 10,kf (.stn 5 (.v 6) (.t 54)),kB 7 55] .ret) .skip))) (kY [kM 56 5 9,kf (.stn 5 (.v 6) (.t 56)),kC 7 (Z8 ZY 0)] .ret))
def R0 (V:aH):S:=
 (.seq (RU V) (.seq (kY [kA 44 2,kL 45 44,kV 46 (.cm .eql ZY (.t 45) (.c (Z8 ZY 0)))] (.ite (.v 46) (.reg [kA 47 8,kc 48 (.rJ (V.t 26) 1 8 #[Z8 ZY 0] (.t 47) (.t 47)),kG 49 4 9,kf (.st (.t 49) (.t 48))]) .skip)) (RW V)))
def Cc (V:aH):S:=
 kY [kR 3 (V.t 296) 0,kd 6 (.new (V.t 358) #[kZ,kZ,kZ,kZ,kZ]),kC 7 (Z8 ZY 0)] (kY [kG 11 0 3,kD 12 11,kL 13 12,kB 8 13] (.seq (kY [kA 14 1,kL 15 14,kA 16 8,kU 17 (.cm .neq ZY (.t 15) (.t 16)),kF 18 17,kS 19 18 ZS 2,kT 20 18 ZS (.m (.lenl (.t 19))),kS 21 18 ZS 8,kT 22 18 ZS (.cm .neq ZY (.t 20) (.t 21)),kT 23 18 ZS (.mv (.t 22)),kS 24 23 ZT 2,kT 25 23 ZT (.m (.lenl (.t 24))),kT 26 23 ZT (.cm .neq ZY (.t 25) (.c (Z8 ZY 0))),kT 27 18 ZS (.pick (.t 23) (.t 26) (.c (Z5 ZS))),kV 28 (.pick (.t 18) (.c (Z5 ZT)) (.t 27))] (.ite (.v 28) (kY [kU 29 (.m (.bld #[kZ,kZ,kZ,kZ,kZ] [])),kf (.stn 5 (.v 6) (.t 29)),kC 7 (Z8 ZY 1)] .ret) .skip)) (R0 V)))
def Cd:List RV:=[.cn 6 5,.t 7]
def jT (P:Program) (k:FuncId):Prop:=∀(l:List ZR) (v:ZR) (H:Hp),aP H v l->(∀x∈l,aq x)->l.length<1000000->an P k #[v] H fun r H'=>br H' r l/\(∀q,ay r q->H.size<=q)/\af (fun _=>False) H H'
def abM {P:Program} {V:aH} {k:FuncId} (hk:ak P k (IK V) IL 1):jT P k:=by
 intro l v H hv h1 hn;have ha:bM l.toArray:=by
  intro x hx;exact aK (h1 x (by simpa using hx))
 refine ah hk (args:=[_]) (by simp) ?_;unfold IK IL kA kB kC kV kc kY kZ;obtain⟨a,c,rfl,hc⟩:=hv.mk
 cases a with
 |none=>
  have h0:l=[]:=by
   rcases hv with⟨_,_,_,h⟩|⟨_,_,_,h,e,_⟩
   ·exact h
   ·simp at e
  subst h0;simp only[go_sem,zS,↓reduceIte,Za,Zb,Zc,reduceCtorEq,ae];exact⟨br.nil _,fun k h=>h.elim,af.refl _ _⟩
 |some p=>
  simp only[go_sem,zS,↓reduceIte,Za,Zb,Zc,reduceCtorEq];refine aG fun H1 b1 e1 z1 B1 K1=>?_;have s1:=K1.size;simp only[go_sem,zS,↓reduceIte,Za,Zb,Zc,reduceCtorEq];refine ja H.size (l:=([]:List ZR)) (m:=l) (br.new B1 rfl rfl) (fun q (hq:q=b1)=>by omega) (by omega) (hv.ai K1 (by simp)) ha rfl (by omega) (by simp;omega) fun v3 H3 O3 own3 K3=>?_;simp only[go_sem,zS,↓reduceIte,Za,Zb,Zc,reduceCtorEq,ae];exact⟨O3,own3,K1.gK K3 (ZH _)⟩
def abN {α:Type} {enc:α->List ZR} (hl:∀x,(enc x).length=2) (h1:∀x,∀v∈enc x,v.oneCell'=ZT) {P:Program} {V:aH} {k:FuncId} (hk:ak P k (IM V) IN 1):dz enc P k:=by
 intro l v H hv hn;refine ah hk (args:=[_]) (by simp) ?_;unfold IM IN kA kB kC kV kc kY kZ;obtain⟨a,c,rfl,hc⟩:=hv.mk
 cases a with
 |none=>
  have h0:l=[]:=by
   rcases hv with⟨_,_,_,h⟩|⟨_,_,_,_,h,_⟩
   ·exact h
   ·cases h
  subst h0;simp only[go_sem,zS,↓reduceIte,Za,Zb,Zc,reduceCtorEq,ae];exact⟨cr.nil _,fun k h=>h.elim,af.refl _ _⟩
 |some p=>
  simp only[go_sem,zS,↓reduceIte,Za,Zb,Zc,reduceCtorEq];refine aG fun H1 b1 e1 z1 B1 K1=>?_;have s1:=K1.size;simp only[go_sem,zS,↓reduceIte,Za,Zb,Zc,reduceCtorEq];have ph:cr enc 2 H1 (Z6 (ZV ⟨b1,0,ZU⟩) 0 0) []:=cr.bl B1 rfl (by omega) (by omega) (by simp);refine rO (l:=([]:List α)) (m:=l) H.size hl h1 ph (fun q hq=>by have hq:q=b1:=hq;omega) (by omega) (hv.aj K1) rfl (by omega) (by simp;omega) fun v3 H3 O3 own3 K3=>?_;rw[List.nil_append]at O3;simp only[go_sem,zS,↓reduceIte,Za,Zb,Zc,reduceCtorEq,ae];exact⟨O3,own3,K1.gK K3 (ZH _)⟩
def yq (vs:List ZR) (di sa:List fC) (ms:List MV) (fx:List Int) (n0:Nat) (i:Nat) (X:Hp) (v:ZR):Prop:=match i with
 |31=>aP X v vs
 |34=>bk pE 2 X v di
 |37=>bk pE 2 X v sa
 |40=>bk cq 2 X v ms
 |42=>aP X v (iL fx)
 |9=>∃b,v=Z7 (ZV ⟨b,0,ZU⟩)/\Bl X b [Z6 ZU 0 0,Z6 ZU 0 0,Z6 ZU 0 0,Z6 ZU 0 0,Z6 ZU 0 0]/\n0<=b
 |_=>False
def yq.aj {vs:List ZR} {di sa:List fC} {ms:List MV} {fx:List Int} {n0 i:Nat} {X X':Hp} {v:ZR} (h:yq vs di sa ms fx n0 i X v) (hk:af (fun _=>False) X X'):yq vs di sa ms fx n0 i X' v:=by
 unfold yq at*
 split at h
 ·exact aP.ai h hk (by simp)
 ·exact bk.aj h hk
 ·exact bk.aj h hk
 ·exact bk.aj h hk
 ·exact aP.ai h hk (by simp)
 ·obtain⟨b,e,B,hb⟩:=h;exact⟨b,e,hk.bl B id,hb⟩
 ·exact h
section
variable {vs:List ZR} {di sa:List fC} {ms:List MV} {fx:List Int} {n0:Nat}
def yq.ai {i b:Nat} {X X':Hp} {v:ZR} (h:yq vs di sa ms fx n0 i X v) (hi:i≠9) (hk:af (fun q=>q=b) X X') (hb:¬aV v b):yq vs di sa ms fx n0 i X' v:=by
 have rB:∀q,aV v q->¬q=b:=fun q hq e=>by rw[e]at hq;exact hb hq
 unfold yq at*
 split at h
 ·exact aP.ai h hk rB
 ·exact bk.ai h hk rB
 ·exact bk.ai h hk rB
 ·exact bk.ai h hk rB
 ·exact aP.ai h hk rB
 ·exact absurd rfl hi
 ·exact h
def yq.bo {i:Nat} {X:Hp} {v:ZR} (h:yq vs di sa ms fx n0 i X v) (hi:i≠9) {q:Nat} (hq:aV v q):q<X.size:=by
 unfold yq at h
 split at h
 ·exact aP.bo h hq
 ·exact bk.bo h hq
 ·exact bk.bo h hq
 ·exact bk.bo h hq
 ·exact aP.bo h hq
 ·exact absurd rfl hi
 ·exact h.elim
def yq.aq {i:Nat} {X:Hp} {v:ZR} (h:yq vs di sa ms fx n0 i X v) (hi:i≠9):aq v:=by
 unfold yq at h
 split at h
 ·exact aP.aq h
 ·exact bk.aq h
 ·exact bk.aq h
 ·exact bk.aq h
 ·exact aP.aq h
 ·exact absurd rfl hi
 ·exact h.elim
structure IP (vs:List ZR) (di sa:List fC) (ms:List MV) (fx:List Int) (A X:Hp) (l:List (Nat×ZR)):Prop where
 k:af (fun _=>False) A X
 v:∀p∈l,yq vs di sa ms fx A.size p.1 X p.2
 d:∀p∈l,∀b,(9,Value.pointer (ZV ⟨b,0,ZU⟩))∈l->p.1≠9->¬aV p.2 b
 o:∀p∈l,p.1≠9->∀q,aV p.2 q->A.size<=q
variable {P:Program} {A X:Hp} {l:List (Nat×ZR)} {W:Nat->Prop} {e:Env} {f:Fr} {t m:T} {Q:Fr->Hp->Prop}
def IP.call (h:IP vs di sa ms fx A X l) {i a:Nat} {j:FuncId} {x:ZR} (hi:i≠9) (hc:∀X,af (fun _=>False) A X->an P j #[x] X fun r X'=>yq vs di sa ms fx A.size i X' r/\(∀q,aV r q->X.size<=q)/\af (fun _=>False) X X') (he:look e a=x)
  (hK:∀v X',IP vs di sa ms fx A X' ((i,v)::l)->dJ P W t ((i,v)::e) f X' Q) (hm:dJ P W m e f X Q):dJ P W (.wcons (.t i) ZU (.call j [.t a]) t m) e f X Q:=by
 rw[en];refine⟨?_,hm⟩;simp only[EX.wp,List.map_cons,List.map_nil,iW,he];refine(hc X h.k).mono ?_;rintro r X' ⟨hr,ho,K⟩;rw[aJ];refine⟨K.any,?_⟩;rw[gQ,nV];refine hK r X' ⟨h.k.trans K,fun p hp=>?_,fun p hp b hb hne hq=>?_,fun p hp hne q hq=>?_⟩
 ·rcases List.mem_cons.1 hp with rfl|hp
  ·exact hr
  ·exact(h.v p hp).aj K
 ·have rB:(9,Value.pointer (ZV ⟨b,0,ZU⟩))∈l:=by
   rcases List.mem_cons.1 hb with e|hb
   ·exact absurd (congrArg Prod.fst e).symm hi
   ·exact hb
  rcases List.mem_cons.1 hp with rfl|hp
  ·have:=ho b hq;obtain⟨b',e,B,_⟩:∃b',Value.pointer (ZV ⟨b,0,ZU⟩)=Z7 (ZV ⟨b',0,ZU⟩)/\Bl X b' _/\A.size<=b':=h.v _ rB;simp only[Value.pointer.injEq,Option.some.injEq,Addr.mk.injEq,and_true]at e;subst e;have:=B.lt;omega
  ·exact h.d p hp b rB hne hq
 ·rcases List.mem_cons.1 hp with rfl|hp
  ·have:=ho q hq;have:=h.k.size;omega
  ·exact h.o p hp hne q hq
def IP.new (h:IP vs di sa ms fx A X l) (hn:∀p∈l,p.1≠9) {T:TypeId} (hK:∀b X',IP vs di sa ms fx A X' ((9,Z7 (ZV ⟨b,0,ZU⟩))::l)->dJ P W t e (bR f 9 (Z7 (ZV ⟨b,0,ZU⟩))) X' Q) (hm:dJ P W m e f X Q):
  dJ P W (.wcons (.v 9) ZU (.new T #[Z6 .none 0 0,Z6 .none 0 0,Z6 .none 0 0,Z6 .none 0 0,Z6 .none 0 0]) t m) e f X Q:=by
 rw[en];refine⟨?_,hm⟩;have K:=(af.refl (fun _=>False) X).push (.cells #[Z6 .none 0 0,Z6 .none 0 0,Z6 .none 0 0,Z6 .none 0 0,Z6 .none 0 0] T);have B:=Bl.dh X #[Z6 .none 0 0,Z6 .none 0 0,Z6 .none 0 0,Z6 .none 0 0,Z6 .none 0 0] T;simp only[EX.wp];rw[aJ];refine⟨K.any,?_⟩;refine hK X.size _ ⟨h.k.trans K,fun p hp=>?_,fun p hp b hb hne hq=>?_,fun p hp hne q hq=>?_⟩
 ·rcases List.mem_cons.1 hp with rfl|hp
  ·exact⟨X.size,rfl,B,h.k.size⟩
  ·exact(h.v p hp).aj K
 ·rcases List.mem_cons.1 hp with rfl|hp
  ·exact hne rfl
  ·rcases List.mem_cons.1 hb with e|hb
   ·simp only[Prod.mk.injEq,Value.pointer.injEq,Option.some.injEq,Addr.mk.injEq,and_true,true_and]at e;have:=(h.v p hp).bo hne hq;omega
   ·exact absurd rfl (hn _ hb)
 ·rcases List.mem_cons.1 hp with rfl|hp
  ·exact absurd rfl hne
  ·exact h.o p hp hne q hq
end
def PbK (vs:List ZR) (di sa:List fC) (ms:List MV) (fx:List Int) (A:Hp) (f:Fr) (Q:Fr->Hp->Prop):Prop:=∀f' X' b v1 v2 v3 v4 v5,(∀j,j≠9->f' j=f j)->f' 9=Z7 (ZV ⟨b,0,ZU⟩)->A.size<=b->Bl X' b [v1,v2,v3,v4,v5]->aP X' v1 vs->bk pE 2 X' v2 di->bk pE 2 X' v3 sa->bk cq 2 X' v4 ms->aP X' v5 (iL fx)->(∀v∈[v1,v2,v3,v4,v5],¬aV v b)->(∀v∈[v1,v2,v3,v4,v5],∀q,aV v q->A.size<=q)->af (fun _=>False) A X'->Q f' X'
def af5 {P:Program} {V:aH} {vs:List ZR} {di sa:List fC} {ms:List MV} {fx:List Int} {A X:Hp} {l:List (Nat×ZR)} {e:Env} {f g:Fr} {Q:Fr->Hp->Prop} {b:Nat} {v1 v2 v3 v4 v5:ZR} (hK:PbK vs di sa ms fx A f Q) (h:IP vs di sa ms fx A X l) (hg:∀j,j≠9->g j=f j) (g9:g 9=Z7 (ZV ⟨b,0,ZU⟩)) (m9:(9,Z7 (ZV ⟨b,0,ZU⟩))∈l)
  (e1:look e 31=v1) (e2:look e 34=v2) (e3:look e 37=v3) (e4:look e 40=v4) (e5:look e 42=v5) (m1:(31,v1)∈l) (m2:(34,v2)∈l) (m3:(37,v3)∈l) (m4:(40,v4)∈l) (m5:(42,v5)∈l):dJ P (fun q=>A.size<=q) (wY V) e g X Q:=by
 have r1:=h.v _ m1;have r2:=h.v _ m2;have r3:=h.v _ m3;have r4:=h.v _ m4;have r5:=h.v _ m5;have d1:=h.d _ m1 b m9 (show(31:Nat)≠9 by decide);have d2:=h.d _ m2 b m9 (show(34:Nat)≠9 by decide);have d3:=h.d _ m3 b m9 (show(37:Nat)≠9 by decide);have d4:=h.d _ m4 b m9 (show(40:Nat)≠9 by decide);have d5:=h.d _ m5 b m9 (show(42:Nat)≠9 by decide);obtain⟨b',eb,B,hb⟩:∃b',Value.pointer (ZV ⟨b,0,ZU⟩)=Z7 (ZV ⟨b',0,ZU⟩)/\Bl X b' [Z6 ZU 0 0,Z6 ZU 0 0,Z6 ZU 0 0,Z6 ZU 0 0,Z6 ZU 0 0]/\A.size<=b':=h.v _ m9;simp only[Value.pointer.injEq,Option.some.injEq,Addr.mk.injEq,and_true]at eb;subst eb;have K:af (fun q=>q=b) X (aB X ⟨b,0,ZU⟩ [v1,v2,v3,v4,v5]):=(af.refl _ _).aB _ (.inl rfl);have B':Bl (aB X ⟨b,0,ZU⟩ [v1,v2,v3,v4,v5]) b [v1,v2,v3,v4,v5]:=B.aB 0 [v1,v2,v3,v4,v5];have t:=B.bG (o:=0) (n:=5) (by simp);have q1:aq v1:=r1.aq (show(31:Nat)≠9 by decide);have q2:aq v2:=r2.aq (show(34:Nat)≠9 by decide);have q3:aq v3:=r3.aq (show(37:Nat)≠9 by decide);have q4:aq v4:=r4.aq (show(40:Nat)≠9 by decide);have q5:aq v5:=r5.aq (show(42:Nat)≠9 by decide);have fin:=hK g (aB X ⟨b,0,ZU⟩ [v1,v2,v3,v4,v5]) b v1 v2 v3 v4 v5 hg g9 hb B' (r1.ai (show(31:Nat)≠9 by decide) K d1) (r2.ai (show(34:Nat)≠9 by decide) K d2) (r3.ai (show(37:Nat)≠9 by decide) K d3) (r4.ai (show(40:Nat)≠9 by decide) K d4) (r5.ai (show(42:Nat)≠9 by decide) K d5) (fun v hv=>by
  simp only[YW,Zk,or_false]at hv;rcases hv with rfl|rfl|rfl|rfl|rfl<;>assumption) (fun v hv=>by
  simp only[YW,Zk,or_false]at hv;rcases hv with rfl|rfl|rfl|rfl|rfl
  ·exact h.o _ m1 (show(31:Nat)≠9 by decide)
  ·exact h.o _ m2 (show(34:Nat)≠9 by decide)
  ·exact h.o _ m3 (show(37:Nat)≠9 by decide)
  ·exact h.o _ m4 (show(40:Nat)≠9 by decide)
  ·exact h.o _ m5 (show(42:Nat)≠9 by decide)) (h.k.trans' K fun q hq e=>by omega)
 unfold wY kW kb kZ;obtain⟨s1,rfl⟩:=js q1;obtain⟨s2,rfl⟩:=js q2;obtain⟨s3,rfl⟩:=js q3;obtain⟨s4,rfl⟩:=js q4;obtain⟨s5,rfl⟩:=js q5;unfold sV3 at*;have ha:bM #[Value.slice s1.1 s1.2.1 s1.2.2,.slice s2.1 s2.2.1 s2.2.2,.slice s3.1 s3.2.1 s3.2.2,.slice s4.1 s4.2.1 s4.2.2,.slice s5.1 s5.2.1 s5.2.2]:=aU rfl;simp-implicitDefEqProofs only[go_sem,↓reduceIte,Za,Zb,Zc,reduceCtorEq,Zf,Zg,Zh,Zi,Zd,Ze,e1,e2,e3,e4,e5,g9,t];refine⟨⟨rfl,ha⟩,K.mono fun q _ e=>?_,fin⟩;omega
def af6 {P:Program} {V:aH} {vs:List ZR} {di sa:List fC} {ms:List MV} {fx:List Int} {A X:Hp} {l:List (Nat×ZR)} {e:Env} {f g:Fr} {Q:Fr->Hp->Prop} {v1 v2 v3 v4 v5:ZR} (hK:PbK vs di sa ms fx A f Q) (h:IP vs di sa ms fx A X l) (hg:∀j,j≠9->g j=f j) (hn:∀p∈l,p.1≠9)
  (e1:look e 31=v1) (e2:look e 34=v2) (e3:look e 37=v3) (e4:look e 40=v4) (e5:look e 42=v5) (m1:(31,v1)∈l) (m2:(34,v2)∈l) (m3:(37,v3)∈l) (m4:(40,v4)∈l) (m5:(42,v5)∈l):dJ P (fun q=>A.size<=q) (RT V) e g X Q:=by
 have n1:(31:Nat)≠9:=by decide
 have n2:(34:Nat)≠9:=by decide
 have n3:(37:Nat)≠9:=by decide
 have n4:(40:Nat)≠9:=by decide
 have n5:(42:Nat)≠9:=by decide
 have r1:=h.v _ m1;have r2:=h.v _ m2;have r3:=h.v _ m3;have r4:=h.v _ m4;have r5:=h.v _ m5;have q1:aq v1:=r1.aq n1;have q2:aq v2:=r2.aq n2;have q3:aq v3:=r3.aq n3;have q4:aq v4:=r4.aq n4;have q5:aq v5:=r5.aq n5;have x1:¬aV v1 X.size:=fun hq=>absurd (r1.bo n1 hq) (by omega);have x2:¬aV v2 X.size:=fun hq=>absurd (r2.bo n2 hq) (by omega);have x3:¬aV v3 X.size:=fun hq=>absurd (r3.bo n3 hq) (by omega);have x4:¬aV v4 X.size:=fun hq=>absurd (r4.bo n4 hq) (by omega);have x5:¬aV v5 X.size:=fun hq=>absurd (r5.bo n5 hq) (by omega);obtain⟨s1,rfl⟩:=js q1;obtain⟨s2,rfl⟩:=js q2;obtain⟨s3,rfl⟩:=js q3;obtain⟨s4,rfl⟩:=js q4;obtain⟨s5,rfl⟩:=js q5;unfold sV3 at*;have ha:bM #[Value.slice s1.1 s1.2.1 s1.2.2,.slice s2.1 s2.2.1 s2.2.2,.slice s3.1 s3.2.1 s3.2.2,.slice s4.1 s4.2.1 s4.2.2,.slice s5.1 s5.2.1 s5.2.2]:=aU rfl;have hs:=h.k.size;have main:∀(T:TypeId),bG (X.push (.cells #[Z6 .none 0 0,Z6 .none 0 0,Z6 .none 0 0,Z6 .none 0 0,Z6 .none 0 0] T)) ⟨X.size,0,ZU⟩ 5/\af (fun q=>A.size<=q) X (X.push (.cells #[Z6 .none 0 0,Z6 .none 0 0,Z6 .none 0 0,Z6 .none 0 0,Z6 .none 0 0] T))∧
   af (fun q=>A.size<=q) (X.push (.cells #[Z6 .none 0 0,Z6 .none 0 0,Z6 .none 0 0,Z6 .none 0 0,Z6 .none 0 0] T)) (aB (X.push (.cells #[Z6 .none 0 0,Z6 .none 0 0,Z6 .none 0 0,Z6 .none 0 0,Z6 .none 0 0] T)) ⟨X.size,0,ZU⟩ [Value.slice s1.1 s1.2.1 s1.2.2,.slice s2.1 s2.2.1 s2.2.2,.slice s3.1 s3.2.1 s3.2.2,.slice s4.1 s4.2.1 s4.2.2,.slice s5.1 s5.2.1 s5.2.2])∧
   Q (bR g 9 (Z7 (ZV ⟨X.size,0,ZU⟩))) (aB (X.push (.cells #[Z6 .none 0 0,Z6 .none 0 0,Z6 .none 0 0,Z6 .none 0 0,Z6 .none 0 0] T)) ⟨X.size,0,ZU⟩ [Value.slice s1.1 s1.2.1 s1.2.2,.slice s2.1 s2.2.1 s2.2.2,.slice s3.1 s3.2.1 s3.2.2,.slice s4.1 s4.2.1 s4.2.2,.slice s5.1 s5.2.1 s5.2.2]):=fun T=>by
  have K0:=(af.refl (fun _=>False) X).push (.cells #[Z6 .none 0 0,Z6 .none 0 0,Z6 .none 0 0,Z6 .none 0 0,Z6 .none 0 0] T);have B:=Bl.dh X #[Z6 .none 0 0,Z6 .none 0 0,Z6 .none 0 0,Z6 .none 0 0,Z6 .none 0 0] T;generalize X.push (.cells #[Z6 .none 0 0,Z6 .none 0 0,Z6 .none 0 0,Z6 .none 0 0,Z6 .none 0 0] T)=X1 at K0 B⊢;have K:af (fun q=>q=X.size) X1 (aB X1 ⟨X.size,0,ZU⟩ [Value.slice s1.1 s1.2.1 s1.2.2,.slice s2.1 s2.2.1 s2.2.2,.slice s3.1 s3.2.1 s3.2.2,.slice s4.1 s4.2.1 s4.2.2,.slice s5.1 s5.2.1 s5.2.2]):=(af.refl _ _).aB _ (.inl rfl);have B':=B.aB 0 [Value.slice s1.1 s1.2.1 s1.2.2,.slice s2.1 s2.2.1 s2.2.2,.slice s3.1 s3.2.1 s3.2.2,.slice s4.1 s4.2.1 s4.2.2,.slice s5.1 s5.2.1 s5.2.2];refine⟨B.bG (o:=0) (n:=5) (by simp),K0.any,K.mono fun q _ e=>by omega,hK _ _ X.size _ _ _ _ _ (fun j hj=>?_) (by simp only[bR,if_true]) hs B' ((r1.aj K0).ai n1 K x1) ((r2.aj K0).ai n2 K x2) ((r3.aj K0).ai n3 K x3) ((r4.aj K0).ai n4 K x4) ((r5.aj K0).ai n5 K x5) (fun v hv=>?_) (fun v hv=>?_) ((h.k.trans K0).trans' K fun q hq e=>by omega)⟩
  ·rw[<-hg j hj];simp only[bR,hj,if_false]
  ·simp only[YW,Zk,or_false]at hv;rcases hv with rfl|rfl|rfl|rfl|rfl<;>assumption
  ·simp only[YW,Zk,or_false]at hv;rcases hv with rfl|rfl|rfl|rfl|rfl
   ·exact h.o _ m1 n1
   ·exact h.o _ m2 n2
   ·exact h.o _ m3 n3
   ·exact h.o _ m4 n4
   ·exact h.o _ m5 n5
 unfold RT kW kb kZ;obtain⟨t,k1,k2,fin⟩:=main (V.t 358);simp-implicitDefEqProofs only[go_sem,↓reduceIte,Za,Zb,Zc,reduceCtorEq,Zf,Zg,Zh,Zi,Zd,Ze,e1,e2,e3,e4,e5,t];exact⟨k1,⟨rfl,ha⟩,k2,fin⟩
def af7 {P:Program} {V:aH} (hB:jT P (V.f 374)) (hP:dz pE P (V.f 204)) (hM:dz cq P (V.f 375)) (hI:gA P (V.f 159)) {vs:List ZR} {F:cf} {ms:List MV} {fx:List Int} {f:Fr} {A:Hp} {b3:Nat} {s b d a m v1 v2:ZR} {Qb:Ex->Fr->Hp->Prop}
  (h1:f 1=v1) (h2:f 2=v2) (h3:f 3=Z7 (ZV ⟨b3,0,ZU⟩)) (B3:Bl A b3 [s,b,d,a,m]) (hd:rP A d F.di) (ha:rP A a F.sa) (hm:bk cq 2 A m ms) (hv1:aP A v1 vs) (hv2:aP A v2 (iL fx)) (hvs:∀x∈vs,aq x) (l1:vs.length<=1000) (l2:F.di.length<=1000) (l3:F.sa.length<=1000) (l4:ms.length<=1000) (l5:fx.length<=1000)
  (hK:PbK vs F.di F.sa ms fx A f (Qb .n)):vc P (RU V) Qb f A:=by
 unfold RU kW ka kg kZ;have c2:cell A ⟨b3,2,ZU⟩=ZV d:=by rw[B3.cell];rfl
 have c3:cell A ⟨b3,3,ZU⟩=ZV a:=by rw[B3.cell];rfl
 have c4:cell A ⟨b3,4,ZU⟩=ZV m:=by rw[B3.cell];rfl
 have lt:=B3.lt;have hlt:(A.size<=b3)=False:=eq_false (by omega);refine aZ (fun q=>A.size<=q) ?_;have s0:IP vs F.di F.sa ms fx A A []:=⟨af.refl _ _,by simp,by simp,by simp⟩
 have C1:∀X,af (fun _=>False) A X->an P (V.f 374) #[v1] X fun r X'=>yq vs F.di F.sa ms fx A.size 31 X' r/\(∀q,aV r q->X.size<=q)/\af (fun _=>False) X X':=fun X K=>(hB vs v1 X (hv1.ai K (by simp)) hvs (by omega)).mono fun r X' ⟨O,o,K'⟩=>⟨O.sl,fun q hq=>o q (O.aV hq),K'⟩
 have C2:∀X,af (fun _=>False) A X->an P (V.f 204) #[d] X fun r X'=>yq vs F.di F.sa ms fx A.size 34 X' r/\(∀q,aV r q->X.size<=q)/\af (fun _=>False) X X':=fun X K=>(hP F.di d X (hd.aj K) (by omega)).mono fun r X' ⟨O,o,K'⟩=>⟨O.sl,fun q hq=>o q (O.aV hq),K'⟩
 have C3:∀X,af (fun _=>False) A X->an P (V.f 204) #[a] X fun r X'=>yq vs F.di F.sa ms fx A.size 37 X' r/\(∀q,aV r q->X.size<=q)/\af (fun _=>False) X X':=fun X K=>(hP F.sa a X (ha.aj K) (by omega)).mono fun r X' ⟨O,o,K'⟩=>⟨O.sl,fun q hq=>o q (O.aV hq),K'⟩
 have C4:∀X,af (fun _=>False) A X->an P (V.f 375) #[m] X fun r X'=>yq vs F.di F.sa ms fx A.size 40 X' r/\(∀q,aV r q->X.size<=q)/\af (fun _=>False) X X':=fun X K=>(hM ms m X (hm.aj K) (by omega)).mono fun r X' ⟨O,o,K'⟩=>⟨O.sl,fun q hq=>o q (O.aV hq),K'⟩
 have C5:∀X,af (fun _=>False) A X->an P (V.f 159) #[v2] X fun r X'=>yq vs F.di F.sa ms fx A.size 42 X' r/\(∀q,aV r q->X.size<=q)/\af (fun _=>False) X X':=fun X K=>(hI fx v2 X (hv2.ai K (by simp)) (by omega)).mono fun r X' ⟨O,o,K'⟩=>⟨O.sl,fun q hq=>o q (O.aV hq),K'⟩
 rw[cQ,cQ,cQ,cQ,cQ,cQ,cQ,cQ];refine⟨trivial,by simp only[go_sem,Za,Zb,h3],by simp only[go_sem,Za,Zb,h3,c2,hlt],by simp only[go_sem,Za,Zb,h3],by simp only[go_sem,Za,Zb,h3,c3,hlt],by simp only[go_sem,Za,Zb,h3],by simp only[go_sem,Za,Zb,h3,c4,hlt],trivial,?_⟩;simp only[PX.val,k7,iW,gQ,nV,bD,h1,h2,h3,fc,fQ,zQ,c2,c3,c4,if_true,if_false,Nat.zero_add,Za,Zu,Zb]
 repeat' (first|exact trivial|exact af6 hK (by assumption) (fun j hj=>by simp only[bR,hj,if_false]) (by simp) rfl rfl rfl rfl rfl (by simp[bD]) (by simp[bD]) (by simp[bD]) (by simp[bD]) (by simp[bD])|exact af5 hK (by assumption) (fun j hj=>by simp only[bR,hj,if_false]) rfl (by simp) rfl rfl rfl rfl rfl (by simp[bD]) (by simp[bD]) (by simp[bD]) (by simp[bD]) (by simp[bD])|refine IP.call (by assumption) (show(31:Nat)≠9 by decide) C1 rfl (fun _ _ _=>?_) ?_|refine IP.call (by assumption) (show(34:Nat)≠9 by decide) C2 rfl (fun _ _ _=>?_) ?_|refine IP.call (by assumption) (show(37:Nat)≠9 by decide) C3 rfl (fun _ _ _=>?_) ?_|refine IP.call (by assumption) (show(40:Nat)≠9 by decide) C4 rfl (fun _ _ _=>?_) ?_|refine IP.call (by assumption) (show(42:Nat)≠9 by decide) C5 rfl (fun _ _ _=>?_) ?_|refine IP.new (by assumption) (by simp) (fun _ _ _=>?_) ?_)
def fixF (n:Nat) (fx:List Int):List Int:=if fx=[]then ZM n 0 else fx
def sM (P:Program) (V:aH) (k:FuncId):Prop:=∀(F:cf) (el:List (Nat->Bool)) (vs:List ZR) (fx:List Int) (v ev xv:ZR) (H0 H:Hp),af (fun _=>False) H0 H->bZ H0 v F->aP H0 ev vs->vs.length=el.length->F.st.length=el.length->(∀i<vs.length,aR H0 (Z0 #[vs.getD i undef]) ((⟨el,F.di,F.sa,F.mo⟩:rF).el.getD i fun _=>ZS))->aP H0 xv (iL fx)->(fx=[]\/fx.length=el.length)→
 eT ⟨el,F.di,F.sa,F.mo⟩->yp el.length (fixF el.length fx)->an P k #[v,ev,xv] H fun r H'=>∃pv,r=ZZ #[pv,Z8 ZY 0]/\(∀X W,af W H' X->(∀q,W q->H0.size<=q/\q<H.size)->lz X pv ⟨el,F.di,F.sa,F.mo⟩ (fixF el.length fx))/\af (fun _=>False) H H'
structure ah2 (P:Program) (V:aH):Prop where
 B:jT P (V.f 374)
 P':dz pE P (V.f 204)
 M:dz cq P (V.f 375)
 I:gA P (V.f 159)
 chk:jQ P V (V.f 360)
def R8 {P:Program} {V:aH} (c:ah2 P V) {F:cf} {el:List (Nat->Bool)} {vs:List ZR} {fx:List Int} {ms:List MV} {f:Fr} {H0 A:Hp} {b3 b6:Nat} {s b d a m ev xv z1 z2 z3 z4 z5:ZR} {Qb:Ex->Fr->Hp->Prop}
  (f1:f 1=ev) (f2:f 2=xv) (f3:f 3=Z7 (ZV ⟨b3,0,ZU⟩)) (f6:f 6=Z7 (ZV ⟨b6,0,ZU⟩)) (f8:f 8=Z8 ZY (el.length:Int)) (B3:Bl A b3 [s,b,d,a,m]) (B6:Bl A b6 [z1,z2,z3,z4,z5])
  (hd:rP A d F.di) (ha:rP A a F.sa) (hm:bk cq 2 A m ms) (K0:af (fun _=>False) H0 A) (h06:H0.size<=b6) (hr:gY H0 ms F.mo) (hev:aP A ev vs) (hvl:vs.length=el.length) (hes:∀i<vs.length,aR H0 (Z0 #[vs.getD i undef]) (fu ⟨el,F.di,F.sa,F.mo⟩ i)) (hvs:∀x∈vs,aq x) (hxv:aP A xv (iL fx)) (hfx:fx=[]\/fx.length=el.length)
  (hG:eT ⟨el,F.di,F.sa,F.mo⟩) (hU:yp el.length (fixF el.length fx))
  (hK:∀f' A' w1 w2 w3 w4 w5,f' 6=Z7 (ZV ⟨b6,0,ZU⟩)->f' 7=Z8 ZY 0->Bl A' b6 [w1,w2,w3,w4,w5]->(∀X W,af W A' X->(∀q,W q->H0.size<=q/\q<A.size)->lz X (Z0 #[w1,w2,w3,w4,w5]) ⟨el,F.di,F.sa,F.mo⟩ (fixF el.length fx))->af (fun q=>q=b6) A A'->Qb .r f' A'):vc P (R0 V) Qb f A:=by
 unfold R0 kA kG kL kV kc kf kY;have hn:el.length<=10:=hG.n;have xX:0<el.length:=hG.n0;have hdl:F.di.length<=20:=hG.dl;have hsl:F.sa.length<=20:=hG.sl;have mb:F.mo.length<=20:=hG.ml;have ald:=hr.len;have lx:aW xv=fx.length:=by rw[hxv.len,aA]
 have amv:=B6.lt;have IQ:fx.length<=1000:=by rcases hfx with rfl|h;simp;omega
 have mkP:∀(X:Hp) (w1 w2 w3 w4 w5:ZR),aP X w1 vs->bk pE 2 X w2 F.di->bk pE 2 X w3 F.sa->bk cq 2 X w4 ms->aP X w5 (iL (fixF el.length fx))->af (fun q=>H0.size<=q) A X->lz X (Z0 #[w1,w2,w3,w4,w5]) ⟨el,F.di,F.sa,F.mo⟩ (fixF el.length fx):=fun X w1 w2 w3 w4 w5 g1 g2 g3 g4 g5 K=>by
  have K0X:af (fun _=>False) H0 X:=K0.trans' K fun q hq h=>by omega
  exact⟨w1,w2,w3,w4,w5,vs,ms,rfl,g1,hvl,fun i hi=>(hes i hi).aj K0X,g2,g3,g4,hr.aj K0X,g5⟩
 -- the end, from a problem that stands in block b9
 have last:∀(g:Fr) (X:Hp) (b9:Nat) (w1 w2 w3 w4 w5:ZR),g 6=Z7 (ZV ⟨b6,0,ZU⟩)->g 9=Z7 (ZV ⟨b9,0,ZU⟩)->Bl X b9 [w1,w2,w3,w4,w5]->aP X w1 vs->bk pE 2 X w2 F.di->bk pE 2 X w3 F.sa->bk cq 2 X w4 ms->aP X w5 (iL (fixF el.length fx))->(∀v∈[w1,w2,w3,w4,w5],∀q,aV v q->A.size<=q)->af (fun _=>False) A X->vc P (RW V) Qb g X:=fun g X b9 w1 w2 w3 w4 w5 g6 g9 B9 i1 i2 i3 i4 i5 ow KX=>by
  unfold RW kA kB kC kM kU kV kc kf kg kY kZ;have PX:=mkP X w1 w2 w3 w4 w5 i1 i2 i3 i4 i5 KX.any;have l9:aL X (Z7 (ZV ⟨b9,0,ZU⟩)) 5=ZV #[w1,w2,w3,w4,w5]:=B9.aL 5 rfl;simp only[go_sem,Za,Zb,g9,l9];refine(c.chk _ _ _ X PX hG hU).mono ?_;rintro r X1 ⟨rfl,K1⟩;have uz:((0:Int)!=0)=ZS:=rfl;have B91:=K1.bl B9 id;have l9:aL X1 (Z7 (ZV ⟨b9,0,ZU⟩)) 5=ZV #[w1,w2,w3,w4,w5]:=B91.aL 5 rfl;have B61:=(KX.trans K1).bl B6 (by simp);have t6:=B61.bG (o:=0) (n:=5) (by simp);have K6:af (fun q=>q=b6) X1 (aB X1 ⟨b6,0,ZU⟩ [w1,w2,w3,w4,w5]):=(af.refl _ _).aB _ (.inl rfl);have B6':Bl (aB X1 ⟨b6,0,ZU⟩ [w1,w2,w3,w4,w5]) b6 [w1,w2,w3,w4,w5]:=B61.aB 0 [w1,w2,w3,w4,w5];have ha:bM #[w1,w2,w3,w4,w5]:=aU (by simp only[Yc,Xs,aK i1.aq,aK i2.aq,aK i3.aq,aK i4.aq,aK i5.aq];rfl);have nb:∀v∈[w1,w2,w3,w4,w5],∀q,aV v q->¬q=b6:=fun v hv q hq e=>by have:=ow v hv q hq;omega
  have KF:=((KX.trans K1).any).trans K6;have PF:∀X' W,af W (aB X1 ⟨b6,0,ZU⟩ [w1,w2,w3,w4,w5]) X'->(∀q,W q->H0.size<=q/\q<A.size)->lz X' (Z0 #[w1,w2,w3,w4,w5]) ⟨el,F.di,F.sa,F.mo⟩ (fixF el.length fx):=fun X' W KW hW=>by
   have nw:∀v∈[w1,w2,w3,w4,w5],∀q,aV v q->¬W q:=fun v hv q hq h=>by have:=ow v hv q hq;have:=(hW q h).2;omega
   have K0':=K0.size;exact mkP X' w1 w2 w3 w4 w5 (((i1.ai K1 (by simp)).ai K6 (nb w1 (by simp))).ai KW (nw w1 (by simp))) (((i2.aj K1).ai K6 (nb w2 (by simp))).ai KW (nw w2 (by simp))) (((i3.aj K1).ai K6 (nb w3 (by simp))).ai KW (nw w3 (by simp))) (((i4.aj K1).ai K6 (nb w4 (by simp))).ai KW (nw w4 (by simp))) (((i5.ai K1 (by simp)).ai K6 (nb w5 (by simp))).ai KW (nw w5 (by simp))) ((KF.mono fun q _ e=>by omega).trans' KW fun q hq h=>(hW q h).1)
  rw[ae];simp only[go_sem,Za,Zb,uz,g6,g9,l9,t6];refine⟨ha,?_⟩;rw[ae];simp only[go_sem,Za,Zb];exact hK _ _ w1 w2 w3 w4 w5 (by simp only[go_sem,Za,Zb,ae,g6]) (by rfl) B6' PF KF
 simp only[go_sem,Za,Zb];refine af7 c.B c.P' c.M c.I (F:=F) f1 f2 f3 B3 hd ha hm hev hxv hvs (by omega) (by omega) (by omega) (by omega) IQ ?_;intro g X b9 v1 v2 v3 v4 v5 hg g9 hb9 B9 i1 i2 i3 i4 i5 nd ow KX;have g2:g 2=xv:=by rw[hg 2 (by decide),f2]
 have g6:g 6=Z7 (ZV ⟨b6,0,ZU⟩):=by rw[hg 6 (by decide),f6]
 have g8:g 8=Z8 ZY (el.length:Int):=by rw[hg 8 (by decide),f8]
 rcases hfx with e|e
 ·have d1:((fx.length:Int)==0)=ZT:=by rw[e];rfl
  have hff:fixF el.length fx=ZM el.length 0:=by unfold fixF;rw[if_pos e]
  simp only[go_sem,Za,Zb,g2,hxv.aq,lx,d1,g8];refine⟨⟨by omega,by omega,by unfold maxLen;omega⟩,?_⟩;refine aG fun X1 bz ez zz Bz Kz=>?_;rw[dx,rN]at Bz;have B91:=Kz.bl B9 id;have t9:=B91.bw (o:=4) (by simp);have B92:=B91.az 4 (Z6 (ZV ⟨bz,0,ZU⟩) el.length el.length);have K9:af (fun q=>q=b9) X1 (az X1 ⟨b9,4,ZU⟩ (Z6 (ZV ⟨bz,0,ZU⟩) el.length el.length)):=(af.refl _ _).az _ (.inl rfl);have sX:=KX.size;have amw:=B9.lt;have hz:aP X1 (Z6 (ZV ⟨bz,0,ZU⟩) el.length el.length) (iL (ZM el.length 0)):=by
   have:=(br.new (n:=el.length) (c:=el.length) Bz (by simp[aA]) rfl).sl;exact this
  have nd':∀v∈[v1,v2,v3,v4,v5],∀q,aV v q->¬q=b9:=fun v hv q hq e=>by rw[e]at hq;exact nd v hv hq
  simp only[go_sem,Za,Zb,g9,t9];rw[ae];simp only[go_sem,Za,Zb];refine last _ _ b9 v1 v2 v3 v4 _ (by simp only[go_sem,Za,Zb,ae,g6]) (by simp only[go_sem,Za,Zb,ae,g9]) B92 ((i1.ai Kz (by simp)).ai K9 (nd' v1 (by simp))) ((i2.aj Kz).ai K9 (nd' v2 (by simp))) ((i3.aj Kz).ai K9 (nd' v3 (by simp))) ((i4.aj Kz).ai K9 (nd' v4 (by simp))) ?_ ?_ ((KX.trans Kz).trans' K9 fun q hq e=>by omega)
  ·rw[hff];exact hz.ai K9 fun q hq e'=>by have:=hq.1;simp only at this;omega
  ·intro v hv q hq;simp only[YW,Zk,or_false]at hv;rcases hv with rfl|rfl|rfl|rfl|rfl
   ·exact ow _ (by simp) q hq
   ·exact ow _ (by simp) q hq
   ·exact ow _ (by simp) q hq
   ·exact ow _ (by simp) q hq
   ·have:=hq.1;simp only at this;omega
 ·have hne:fx≠[]:=by rintro rfl;simp at e;omega
  have d1:((fx.length:Int)==0)=ZS:=by rw[beq_eq_false_iff_ne];omega
  have hff:fixF el.length fx=fx:=by unfold fixF;rw[if_neg hne]
  simp only[go_sem,Za,Zb,g2,hxv.aq,lx,d1];exact last _ X b9 v1 v2 v3 v4 v5 (by simp only[go_sem,Za,Zb,ae,g6]) (by simp only[go_sem,Za,Zb,ae,g9]) B9 i1 i2 i3 i4 (by rw[hff];exact i5) ow KX
def Sa {P:Program} {V:aH} {k:FuncId} (hk:ak P k (Cc V) Cd 3) (c:ah2 P V):sM P V k:=by
 intro F el vs fx v ev xv H0 H KH0 hv hev hvl hst hes hxv hfx hG hU;obtain⟨s,b,d,a,m,ms,rfl,h1,h2,h3,h4,h5,h6⟩:=hv;refine qI fun Q hQ=>?_;refine ah hk (args:=[_,_,_]) (by simp) ?_;unfold Cc Cd kA kB kF kC kD kG kL kR kS kT kU kV kd kf kY kZ;have hn:el.length<=10:=hG.n;have xX:0<el.length:=hG.n0;have hdl:F.di.length<=20:=hG.dl;have hsl:F.sa.length<=20:=hG.sl;have mb:F.mo.length<=20:=hG.ml;have ald:=h6.len;have hvs:∀x∈vs,aq x:=fun x hx=>by
  obtain⟨i,hi,rfl⟩:=List.getElem_of_mem hx;obtain⟨u,W,e,hV⟩:=hes i hi;rw[List.getD_eq_getElem?_getD,List.getElem?_eq_getElem hi,Zu]at e
  cases e
  exact hV.sl.aq
 simp only[go_sem,Za,Zb];refine ax fun H1 b3 e1 z1 B1 K1=>?_;have bL:Bl H1 b3 [s,b,d,a,m]:=B1;simp only[go_sem,Za,Zb];refine ax fun H2 b6 e2 z2 B2 K2=>?_;have fG:Bl H2 b6 [Z6 ZU 0 0,Z6 ZU 0 0,Z6 ZU 0 0,Z6 ZU 0 0,Z6 ZU 0 0]:=B2;have cS:=K1.trans K2;have gI:=K2.bl bL id;have c0:cell H2 ⟨b3,0,ZU⟩=ZV s:=by rw[gI.cell];rfl
 have ls:aW s=el.length:=by rw[h1.len,hst]
 have le:aW ev=el.length:=by rw[hev.len,hvl]
 have lx:aW xv=fx.length:=by rw[hxv.len,aA]
 have d1:((el.length:Int)!=(el.length:Int))=ZS:=by simp
 have pP:((if((fx.length:Int)!=(el.length:Int))=ZT then((fx.length:Int)!=0)else ZS))=ZS:=by
  rcases hfx with rfl|h
  ·simp
  ·rw[h];simp
 have fin:∀f' A' w1 w2 w3 w4 w5,f' 6=Z7 (ZV ⟨b6,0,ZU⟩)->f' 7=Z8 ZY 0->Bl A' b6 [w1,w2,w3,w4,w5]->(∀X W,af W A' X->(∀q,W q->H0.size<=q/\q<H2.size)->lz X (Z0 #[w1,w2,w3,w4,w5]) ⟨el,F.di,F.sa,F.mo⟩ (fixF el.length fx))->af (fun q=>q=b6) H2 A'->kr [.cn 6 5,.t 7] Q .r f' A':=fun f' A' w1 w2 w3 w4 w5 f6 f7 BA PA KA=>by
  have l6:aL A' (Z7 (ZV ⟨b6,0,ZU⟩)) 5=ZV #[w1,w2,w3,w4,w5]:=BA.aL 5 rfl;simp only[go_sem,Za,Zb,ae,dQ,dR,f6,f7,l6];rw[hQ];exact⟨_,rfl,fun X W KW hW=>PA X W KW fun q hq=>⟨(hW q hq).1,by have:=(hW q hq).2;have:=cS.size;omega⟩,cS.trans' KA fun q hq e=>by have:=K1.size;omega⟩
 have s1:=K1.size;have amx:b3≠b6:=by have:=bL.lt;omega
 have Pr:=KH0.trans cS;have z0:=KH0.size;rcases hfx with e|e
 ·have z0:fx.length=0:=by rw[e];rfl
  rw[z0]at lx;have d2:((0:Int)!=(el.length:Int))=ZT:=bne_iff_ne.2 (by omega);have d3:((0:Int)!=0)=ZS:=rfl;simp only[go_sem,Za,Zb,c0,h1.aq,hev.aq,hxv.aq,ls,le,lx,d1,Int.ofNat_zero,Int.natCast_zero,d2,d3];exact R8 c (b3:=b3) (by rfl) (by rfl) (by rfl) (by rfl) (by rfl) gI fG (h3.aj Pr) (h4.aj Pr) (h5.aj Pr) Pr (by omega) h6 (hev.ai Pr (by simp)) hvl hes hvs (hxv.ai Pr (by simp)) (by first|exact .inl e|exact .inr e) hG hU fin
 ·have d2:((fx.length:Int)!=(el.length:Int))=ZS:=by rw[e];simp
  simp only[go_sem,Za,Zb,c0,h1.aq,hev.aq,hxv.aq,ls,le,lx,d1,d2];exact R8 c (b3:=b3) (by rfl) (by rfl) (by rfl) (by rfl) (by rfl) gI fG (h3.aj Pr) (h4.aj Pr) (h5.aj Pr) Pr (by omega) h6 (hev.ai Pr (by simp)) hvl hes hvs (hxv.ai Pr (by simp)) (by first|exact .inl e|exact .inr e) hG hU fin
def Sb (V:aH):S:=
 (.seq (kY [kA 24 7,kV 25 (.cm .neq ZY (.t 24) (.c (Z8 ZY 0)))] (.ite (.v 25) (kY [kC 4 (kZ),kC 5 (Z5 ZS)] .ret) .skip)) (kY [kM 27 5 6,kc 28 (kg (V.f 373) [.t 27,.c (Z8 ZY 0)]),kF 26 28,kQ 29 26 0,kQ 30 26 1,kQ 31 26 2,kQ 32 26 3,kc 9 (.new (V.t 372) #[kZ]),kB 8 29,kf (.stn 1 (.t 9) (.t 30)),kB 10 31,kB 7 32] (kY [kA 33 8,kA 34 10,kF 35 34,kS 36 35 ZT 7,kT 37 35 ZT (.cm .eql ZY (.t 36) (.c (Z8 ZY 0))),kJ 38 35 37,kB 4 33,kB 5 38] .ret)))
def Ce (V:aH):S:=
 kY [kC 4 (kZ),kC 5 (Z5 ZS)] (.seq (.dr (kW 12 (.mv (.v 0)) (kW 13 (.nil (.t 12)) (kW 14 (.fa 0 (.t 13)) (kW 15 (.m (.ldn 5 (.t 14))) (kW 16 (.mv (.v 0)) (kW 17 (.nil (.t 16)) (kW 18 (.fa 5 (.t 17)) (kW 19 (.ld (.t 18)) (kW 20 (.mv (.v 1)) (ka 21 (kg (V.f 376) [.t 15,.t 19,.t 20]) (kW 11 (.mv (.t 21)) (kW 22 (.ext (.t 11) 0) (kW 23 (.ext (.t 11) 1) (.wcons (.v 6) .none (.new (V.t 358) #[kZ,kZ,kZ,kZ,kZ]) (kb (.stn 5 (.v 6) (.t 22)) (kX 7 (.mv (.t 23)) .done) .wnil) .wnil)))) (.wcons (.v 6) .none (.new (V.t 358) #[kZ,kZ,kZ,kZ,kZ]) (ka 21 (kg (V.f 376) [.t 15,.t 19,.t 20]) (kW 11 (.mv (.t 21)) (kW 22 (.ext (.t 11) 0) (kW 23 (.ext (.t 11) 1) (kb (.stn 5 (.v 6) (.t 22)) (kX 7 (.mv (.t 23)) .done) .wnil)))) .wnil) .wnil)))))))))))) (Sb V))
def Cf:List RV:=[.t 4,.t 5]
def bJ (F:cf) (el:List (Nat->Bool)):rF:=⟨el,F.di,F.sa,F.mo⟩
def cH (H:Hp) (rb:Nat) (F:cf) (el:List (Nat->Bool)) (st:List Int):Prop:=∃s b d a m ev sv vs,Bl H rb [s,b,d,a,m,ev,sv]/\bZ H (Z0 #[s,b,d,a,m]) F/\aP H ev vs/\vs.length=el.length/\F.st.length=el.length/\(∀i<vs.length,aR H (Z0 #[vs.getD i undef]) (el.getD i fun _=>ZS))/\aP H sv (iL st)
def cH.aj {H H':Hp} {rb:Nat} {F:cf} {el:List (Nat->Bool)} {st:List Int} (h:cH H rb F el st) (hk:af (fun _=>False) H H'):cH H' rb F el st:=by
 obtain⟨s,b,d,a,m,ev,sv,vs,h1,h2,h3,h4,h5,h6,h7⟩:=h;exact⟨s,b,d,a,m,ev,sv,vs,hk.bl h1 id,h2.aj hk,h3.ai hk (by simp),h4,h5,fun i hi=>(h6 i hi).aj hk,h7.ai hk (by simp)⟩
structure uB (p:rF) (fx:List Int):Prop where
 u:yp p.el.length fx
 w:∃w,(∀k,(bf (fu p k)).length<=w)/\w<=256/\1+gN w (lW fx)<=2199023255552
def iq (P:Program) (V:aH) (k:FuncId):Prop:=∀(F:cf) (el:List (Nat->Bool)) (st fx:List Int) (rb:Nat) (xv:ZR) (H:Hp),bh V H->cH H rb F el st->aP H xv (iL fx)->eT (bJ F el)->uB (bJ F el) fx->an P k #[Z7 (ZV ⟨rb,0,ZU⟩),xv] H fun r H'=>∃sv,r=ZZ #[sv,.bool (et (bJ F el) fx).isSome]/\af (fun _=>False) H H'/\match et (bJ F el) fx with|none=>sv=Z6 ZU 0 0|some t=>aP H' sv (iL t)
def Sc {P:Program} {V:aH} {k:FuncId} (hk:ak P k (Ce V) Cf 2) (hp:sM P V (V.f 376)) (hs:sJ P V (V.f 373)):iq P V k:=by
 intro F el st fx rb xv H hT hR hx hG hB;obtain⟨s,b,d,a,m,ev,sv,vs,B,hF,he,hl,hst,hes,hsv⟩:=hR;refine qI fun Q hQ=>?_;refine ah hk (args:=[_,_]) (by simp) ?_;unfold Ce Cf kC kW kX ka kb kg kY kZ;have xX:0<el.length:=hG.n0;have IQ:fx.length=el.length:=hB.u.1;have hne:fx≠[]:=by rintro rfl;simp at IQ;omega
 have ah3:fixF el.length fx=fx:=by unfold fixF;rw[if_neg hne]
 have c5:cell H ⟨rb,5,ZU⟩=ZV ev:=by rw[B.cell];rfl
 have l5:aQ H ⟨rb,0,ZU⟩ 5=ZV #[s,b,d,a,m]:=by
  have:=B.aQ (o:=0) (n:=5) (by simp);simpa using this
 have lt:=B.lt;have hW:(H.size<=rb)=False:=eq_false (by omega);have hU':yp el.length (fixF el.length fx):=by rw[ah3];exact hB.u
 have call:∀X,af (fun _=>False) H X->an P (V.f 376) #[Z0 #[s,b,d,a,m],ev,xv] X fun r X'=>∃w1 w2 w3 w4 w5,r=ZZ #[Z0 #[w1,w2,w3,w4,w5],Z8 ZY 0]/\(∀Y W,af W X' Y->(∀q,W q->H.size<=q/\q<X.size)->lz Y (Z0 #[w1,w2,w3,w4,w5]) (bJ F el) fx)/\af (fun _=>False) X X':=fun X K=>by
  refine(hp F el vs fx _ _ _ H X K hF he hl hst hes hx (.inr IQ) hG hU').mono ?_;rintro r X' ⟨pv,rfl,hP,K'⟩;rw[ah3]at hP;obtain⟨w1,w2,w3,w4,w5,vs',ms',e,h⟩:=hP X' (fun _=>False) (af.refl _ _) (fun q h=>h.elim);subst e;exact⟨w1,w2,w3,w4,w5,rfl,hP,K'⟩
 have tail:∀(g:Fr) (X:Hp) (b6:Nat) (w1 w2 w3 w4 w5:ZR),g 6=Z7 (ZV ⟨b6,0,ZU⟩)->g 7=Z8 ZY 0->Bl X b6 [w1,w2,w3,w4,w5]->lz X (Z0 #[w1,w2,w3,w4,w5]) (bJ F el) fx->af (fun _=>False) H X->vc P (Sb V) (kr [.t 4,.t 5] Q) g X:=fun g X b6 w1 w2 w3 w4 w5 g6 g7 B6 PX KX=>by
  unfold Sb kA kB kF kC kJ kM kQ kS kT kV kc kf kg kY kZ;have uz:((0:Int)!=0)=ZS:=rfl;have e01:((0:Int)==0)=ZT:=rfl;have l6:aL X (Z7 (ZV ⟨b6,0,ZU⟩)) 5=ZV #[w1,w2,w3,w4,w5]:=B6.aL 5 rfl;obtain⟨w,hw,hw1,hw2⟩:=hB.w;simp only[go_sem,Za,Zb,g6,g7,uz,l6];refine(hs (bJ F el) fx w _ X (hT.ai KX) PX hG hB.u hw hw1 hw2).mono ?_;rintro r X1 ⟨y,rv,hrv,rfl,K1,hy⟩;rw[ae];simp only[go_sem,Za,Zb];refine ax fun X2 b9 e9 z9 B9 K9=>?_;have B9':Bl X2 b9 [Z6 ZU 0 0]:=B9;have t9:=B9'.bG (o:=0) (n:=1) (by simp);have a1:bM #[rv]:=aU (by simp only[Yc,Xs,aK hrv];rfl);have x8:af (fun q=>q=b9) X2 (aB X2 ⟨b9,0,ZU⟩ [rv]):=(af.refl _ _).aB _ (.inl rfl);have KF:af (fun _=>False) X1 (aB X2 ⟨b9,0,ZU⟩ [rv]):=K9.trans' x8 fun q hq e=>by omega
  simp only[go_sem,Za,Zb,t9];refine⟨a1,?_⟩;rw[ae];have fin:Q (ZZ #[y,.bool (et (bJ F el) fx).isSome]) (aB X2 ⟨b9,0,ZU⟩ [rv]):=by
   rw[hQ];refine⟨y,rfl,(KX.trans K1).trans KF,?_⟩
   cases cI:et (bJ F el) fx with
   |none=>rw[cI]at hy;exact hy
   |some t=>rw[cI]at hy;exact hy.ai KF (by simp)
  cases cI:(et (bJ F el) fx).isSome with
  |true=>
   rw[cI]at fin;simp only[go_sem,Za,Zb,e01];exact fin
  |false=>
   rw[cI]at fin;simp only[go_sem,Za,Zb,e01];exact fin
 simp only[go_sem,Za,Zb];refine aZ (fun q=>H.size<=q) ?_;simp only[go_sem,Za,Zb,c5,l5,aC,hW];have a1:∀{Y:Hp} {w1 w2 w3 w4 w5:ZR},lz Y (Z0 #[w1,w2,w3,w4,w5]) (bJ F el) fx->bM #[w1,w2,w3,w4,w5]:=fun hP=>by
  obtain⟨x1,x2,x3,x4,x5,vs',ms',e,hp⟩:=hP
  cases e
  exact aU (by simp only[Yc,Xs,aK hp.e.aq,aK hp.d.aq,aK hp.s.aq,aK hp.m.aq,aK hp.f.aq];rfl)
 refine⟨(call H (af.refl _ _)).mono ?_,(af.refl _ _).push _,(call _ ((af.refl _ _).push _)).mono ?_⟩
 ·rintro r X ⟨w1,w2,w3,w4,w5,rfl,hP,K⟩;have sX:=K.size;rw[aJ];refine⟨K.any,?_⟩;have Kp:=(af.refl (fun _=>False) X).push (.cells #[Z6 ZU 0 0,Z6 ZU 0 0,Z6 ZU 0 0,Z6 ZU 0 0,Z6 ZU 0 0] (V.t 358));have Bp:=Bl.dh X #[Z6 ZU 0 0,Z6 ZU 0 0,Z6 ZU 0 0,Z6 ZU 0 0,Z6 ZU 0 0] (V.t 358);simp only[go_sem,Za,Zb];generalize X.push (.cells #[Z6 ZU 0 0,Z6 ZU 0 0,Z6 ZU 0 0,Z6 ZU 0 0,Z6 ZU 0 0] (V.t 358))=X1 at Kp Bp⊢;have K6:af (fun q=>q=X.size) X1 (aB X1 ⟨X.size,0,ZU⟩ [w1,w2,w3,w4,w5]):=(af.refl _ _).aB _ (.inl rfl);have B6:=Bp.aB 0 [w1,w2,w3,w4,w5];have KF:af (fun _=>False) X (aB X1 ⟨X.size,0,ZU⟩ [w1,w2,w3,w4,w5]):=Kp.trans' K6 fun q hq e=>by omega
  refine⟨Kp.any,⟨Bp.bG (o:=0) (n:=5) (by simp),a1 (hP X (fun _=>False) (af.refl _ _) (fun q h=>h.elim))⟩,K6.mono fun q _ e=>by omega,?_⟩;exact tail _ _ X.size w1 w2 w3 w4 w5 (by rfl) (by rfl) B6 (hP _ (fun _=>False) KF (fun q h=>h.elim)) (K.trans KF)
 ·rintro r X ⟨w1,w2,w3,w4,w5,rfl,hP,K⟩;have sX:=K.size;rw[Xj]at sX hP;have Kp:=(af.refl (fun _=>False) H).push (.cells #[Z6 ZU 0 0,Z6 ZU 0 0,Z6 ZU 0 0,Z6 ZU 0 0,Z6 ZU 0 0] (V.t 358));have Bp:=K.bl (Bl.dh H #[Z6 ZU 0 0,Z6 ZU 0 0,Z6 ZU 0 0,Z6 ZU 0 0,Z6 ZU 0 0] (V.t 358)) (by simp);rw[aJ];refine⟨K.any,?_⟩;simp only[go_sem,Za,Zb];have K6:af (fun q=>q=H.size) X (aB X ⟨H.size,0,ZU⟩ [w1,w2,w3,w4,w5]):=(af.refl _ _).aB _ (.inl rfl);have B6:=Bp.aB 0 [w1,w2,w3,w4,w5];refine⟨⟨Bp.bG (o:=0) (n:=5) (by simp),a1 (hP X (fun _=>False) (af.refl _ _) (fun q h=>h.elim))⟩,K6.mono fun q _ e=>by omega,?_⟩;exact tail _ _ H.size w1 w2 w3 w4 w5 (by rfl) (by rfl) B6 (hP _ (fun q=>q=H.size) K6 (fun q e=>by omega)) ((Kp.trans K).trans' K6 fun q hq e=>by omega)
end Go.Mg

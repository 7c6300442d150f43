/- Lemmas of ours. No conditions. -/
import Derived.Test.YtoclemmcphgikaaGreatDoorMgG3
open Bool renaming false→ZS,true→ZT
open Decidable renaming decide→ZQ
open Go renaming Value→ZR
open Go.IntKind renaming i64→ZY,u8→ZX
open Go.Value renaming agg→Z0,bool→Z5,int→Z8,pointer→Z7,slice→Z6
open Option renaming none→ZU,some→ZV
open Go.IntKind renaming i64→XI,u8→Xa
open List renaming cons_append→Xe,flatMap_append→Yo,getD_eq_getElem?_getD→ZP,getElem?_eq_getElem→ZO,getElem_mem→ZL,length→Y8,length_set→YE,set_getElem_self→Wq,take_of_length_le→Zy
open Nat renaming add_mul→Yi,le_refl→ZH,min_eq_left→Yh,mul_le_mul_right→YT,mul_one→Zs,one_mul→Xk
open Option renaming getD_some→Zu
open Nat renaming reduceEqDiff→Za,reduceAdd→Zb,reduceMul→Zc,reduceLeDiff→Zd,reduceLT→Ze
open Int renaming reduceBEq→Zf,reduceBNe→Zg,reduceLE→Zh,reduceLT→Zi
set_option maxRecDepth 100000
set_option linter.all false
namespace Go.Mg
open Go Go.RowKit
def RG (V:aH):S:=
 kY [kC 4 (Z8 ZY 0)] (.seq (kY [kA 6 0,kV 7 (.m (.lenl (.t 6))),kC 8 (Z8 ZY 0)] (.blk 0 (.loop (kY [kH 9 8 7] (.seq (.ite (.v 9) .skip (.exit 0)) (.seq (.blk 1 (kY [kA 10 8,kB 5 10] (kY [kA 11 1,kA 12 0,kA 13 5,kI 14 1 12 13,kD 15 14,kV 16 (.cm .eql ZY (.t 11) (.t 15))] (.ite (.v 16) (kY [kA 17 5,kB 4 17] .ret) .skip)))) (.reg [ke 18 8,kB 8 18]))))))) (kY [kC 4 (Z8 ZY (-1))] .ret))
def RH:List RV:=[.t 4]
def BO (V:aH):S:=
 kY [kC 2 (Z5 ZS)] (kY [kA 3 0,kU 4 (.nil (.t 3)),kU 5 (.fa 8 (.t 4)),kD 6 5,kU 7 (.cm .gtr ZY (.t 6) (.c (Z8 ZY 0))),kF 8 7,kS 9 8 ZT 0,kT 10 8 ZT (.nil (.t 9)),kT 11 8 ZT (.fa 7 (.t 10)),kT 12 8 ZT (.ld (.t 11)),kS 13 8 ZT 0,kT 14 8 ZT (.nil (.t 13)),kT 15 8 ZT (.fa 8 (.t 14)),kT 16 8 ZT (.ld (.t 15)),kT 17 8 ZT (.cm .gtr ZY (.t 12) (.t 16)),kJ 18 8 17,kB 2 18] .ret)
def BQ:List RV:=[.t 2]
def jS (stop:List (List Int)->Bool):List (List Int)->List (List Int)->List (List Int)×Bool
 |seen,[]=>(seen,ZS)
 |seen,t::L=>if stop (seen++[t])=ZT then(seen++[t],ZT)else jS stop (seen++[t]) L
def BR (stop:List (List Int)->Bool):∀(A B seen:List (List Int)),jS stop seen (A++B)=if(jS stop seen A).2=ZT then jS stop seen A else jS stop (jS stop seen A).1 B
 |[],B,seen=>by simp[jS]
 |t::A,B,seen=>by
  by_cases h:stop (seen++[t])=ZT
  ·have e1:jS stop seen (t::A++B)=(seen++[t],ZT):=by rw[Xe,jS,if_pos h]
   have e2:jS stop seen (t::A)=(seen++[t],ZT):=by rw[jS,if_pos h]
   rw[e1,e2];rfl
  ·have e1:jS stop seen (t::A++B)=jS stop (seen++[t]) (A++B):=by rw[Xe,jS,if_neg h]
   have e2:jS stop seen (t::A)=jS stop (seen++[t]) A:=by rw[jS,if_neg h]
   rw[e1,e2];exact BR stop A B _
def BU {stop:List (List Int)->Bool}:∀{L seen:List (List Int)},stop seen=ZS->(jS stop seen L).2=ZS->stop (jS stop seen L).1=ZS
 |[],seen,h,_=>h
 |t::L,seen,h,h2=>by
  rw[jS]at h2⊢
  by_cases e:stop (seen++[t])=ZT
  ·rw[if_pos e]at h2;cases h2
  ·rw[if_neg e]at h2⊢;exact BU (by simpa using e) h2
def gN (w:Nat):Nat->Nat
 |0=>0
 |m+1=>w*(1+gN w m)
def IG (x:Int) (l:List Int):Int:=match l.findIdx? (fun u=>ZQ (u=x))with|none=>-1|some i=>(i:Int)
def yV (P:Program) (k:FuncId):Prop:=∀(l:List Int) (v:ZR) (x:Int) (H:Hp),aP H v (iL l)->l.length<=1000000->an P k #[v,Z8 ZY x] H fun r H'=>r=Z8 ZY (IG x l)/\H'=H
variable {P:Program} {V:aH} {k:FuncId} {H H' A:Hp} {s fx:List Int} {nv cv:ZR} {N n w m kk:Nat} {f:Fr} {Qb:Ex->Fr->Hp->Prop} {p:rF} {vs:List ZR} {ms:List MV} {stop:List (List Int)->Bool} {J:List (List Int)->Hp->Prop} {seen:List (List Int)}
def afX (hk:ak P k (RG V) RH 2):yV P k:=by
 intro l v x H hv hl1;refine ah hk (args:=[_,_]) (by simp) ?_;unfold RG RH kA kB kC kD ke kH kI kV kY;simp only[go_sem,zS,↓reduceIte,Za,Zb,Zc,reduceCtorEq,ae,hv.aq,hv.len,aA];refine aT [9,5,16,4,8] rfl (fun n f H'=>∃i:Nat,i<=l.length/\n=l.length -i/\f 8=Z8 ZY i/\(∀a<i,∀h:a<l.length,l[a]≠x)/\H'=H) l.length
  ⟨0,by omega,by omega,by rfl,fun a ha=>by omega,rfl⟩ ?_
 rintro n f H1 ⟨i,hi,rfl,hf,hx,rfl⟩;simp only[go_sem,zS,↓reduceIte,Za,Zb,Zc,reduceCtorEq,ae]at hf;simp only[go_sem,zS,↓reduceIte,Za,Zb,Zc,reduceCtorEq,hf];refine aN (fun hlt=>?_) (fun ki=>?_)
 ·have hlt:i<l.length:=by omega
  obtain⟨b,o,c,rfl,hlm,hc⟩:=hv.cells (by intro e;have h:=congrArg Y8 e;rw[aA,List.length_nil]at h;omega);rw[aA]at hc hlm;have hci:=hc i hlt;rw[dM _ _ hlt]at hci;have egi:l.getD i 0=l[i]:=by rw[ZP,ZO hlt];rfl
  rw[egi]at hci
  by_cases h:x=l[i]
  ·have e:(x==l[i])=ZT:=by simpa using h
   have hr:l.findIdx? (fun u=>ZQ (u=x))=ZV i:=List.findIdx?_eq_some_iff_getElem.2 ⟨hlt,by simp[h],fun j hj=>by simpa using hx j hj (by omega)⟩;simp only[go_sem,zS,↓reduceIte,Za,Zb,Zc,reduceCtorEq,ae,hf,aA,al,Zs,hci,e,IG,hr];omega
  ·have e:(x==l[i])=ZS:=by simpa using h
   simp-implicitDefEqProofs (disch:=omega)only[go_sem,zS,↓reduceIte,Za,Zb,Zc,reduceCtorEq,ae,hf,aA,al,Zs,hci,e,IntWalk.i64_in];refine⟨by omega,l.length -(i+1),by omega,i+1,by omega,rfl,by simp,fun a ha ha'=>?_⟩
   by_cases e2:a=i
   ·subst e2;exact fun h'=>h h'.symm
   ·exact hx a (by omega) ha'
 ·have hr:l.findIdx? (fun u=>ZQ (u=x))=ZU:=List.findIdx?_eq_none_iff.2 fun y hy=>by
   obtain⟨a,ha,rfl⟩:=List.getElem_of_mem hy;simpa using hx a (by omega) ha
  simp only[go_sem,zS,↓reduceIte,Za,Zb,Zc,reduceCtorEq,ae,IG,hr]
abbrev S3:=Option Addr×Nat×Nat
def sV3 (t:S3):ZR:=.slice t.1 t.2.1 t.2.2
def js {v:ZR} (h:aq v):∃t,v=sV3 t:=by
 cases v<;>first|exact⟨(_,_,_),rfl⟩|exact h.elim
abbrev NdV:=Int×Int×S3×S3
def yW (x:NdV):List ZR:=[Z8 ZX x.1,Z8 ZY x.2.1,sV3 x.2.2.1,sV3 x.2.2.2]
def LV (x:NdV):(yW x).length=4:=rfl
def abI (x:NdV):∀v∈yW x,v.oneCell'=ZT:=by
 intro v hv;simp[yW,sV3]at hv;rcases hv with rfl|rfl|rfl|rfl<;>rfl
def afY {α:Type} {enc:α->List ZR} {k:Nat} (hk:∀x,(enc x).length=k) {b c:Nat} {L:List ZR} {l:List α} (hB:Bl H b L) (h1:l.length<=c) (h2:c*k<=L.length) (h3:L.take (l.length*k)=l.flatMap enc) {i:Nat} (hi:i<l.length) (x:α):
  cr enc k (Mg.aB H ⟨b,i*k,ZU⟩ (enc x)) (Z6 (ZV ⟨b,0,ZU⟩) l.length c) (l.set i x):=by
 have hB':=hB.aB (i*k) (enc x);have hik:(i+1)*k<=l.length*k:=YT k hi;have Pc:l.length*k<=c*k:=YT k h1;rw[Yi,Xk]at hik;refine cr.bl hB' (by simp) h1 ?_ ?_
 ·rw[nu (by rw[hk];omega)];exact h2
 ·have e1:L.take (i*k)=(l.take i).flatMap enc:=by
   rw[<-zR hk l i (by omega),<-h3,List.take_take,Yh (by omega)]
  have e2:(L.drop (i*k+k)).take (l.length*k -(i*k+k))=(l.drop (i+1)).flatMap enc:=by
   rw[<-aak hk l (i+1) (by omega),<-h3,Yi,Xk,List.drop_take]
  unfold rE;rw[hk,e1,List.set_eq_take_append_cons_drop,if_pos hi,Yo,List.flatMap_cons,<-e2,<-List.append_assoc];have l1:((l.take i).flatMap enc++enc x).length=i*k+k:=by
   rw[List.length_append,vy hk,hk,List.length_take,Yh (by omega)]
  rw[List.take_append,l1,Zy (by rw[l1];exact hik)]
def yX (P:Program) (k:FuncId):Prop:=∀(b:Nat) (cs:List ZR) (lk:Int) (H:Hp),Bl H b cs->cs[8]?=ZV (Z8 ZY 0)->an P k #[Z7 (ZV ⟨b,0,ZU⟩)] H fun r H'=>r=Z5 ZS/\H'=H
def RI (hk:ak P k (BO V) BQ 1):yX P k:=by
 intro b cs lk H B h8;refine ah hk (args:=[_]) (by simp) ?_;unfold BO BQ kA kB kF kC kD kJ kS kT kU kY;have c8:cell H ⟨b,8,ZU⟩=ZV (Z8 ZY 0):=by rw[B.cell];exact h8
 have d:ZQ ((0:Int)>0)=ZS:=rfl;simp only[go_sem,Za,Zb,ae,c8,d]
def RJ (V:aH):S:=
 (kY [kA 62 6,kA 63 0,kU 64 (.nil (.t 63)),kU 65 (.fa 6 (.t 64)),kD 66 65,kL 67 66,kc 68 (.aX (V.t 26) 1 1 [.t 67]),kc 69 (.app ZS (V.t 26) 1 8 #[Z8 ZY 0] (.t 62) (.t 68)),kB 6 69] (.reg [kA 70 0,kA 71 0,kU 72 (.nil (.t 71)),kU 73 (.fa 6 (.t 72)),kD 74 73,kU 75 (.m (.bld #[Z8 ZX 0,Z8 ZY 0,kZ,kZ] [])),kc 76 (.aX (V.t 368) 4 1 [.t 75]),kc 77 (.app ZS (V.t 368) 4 64 #[Z8 ZX 0,Z8 ZY 0,kZ,kZ] (.t 74) (.t 76)),kU 78 (.nil (.t 70)),kU 79 (.fa 6 (.t 78)),kf (.st (.t 79) (.t 77))]))
def aei (V:aH):S:=
 (kY [kA 102 100,kK 103 1 98 100,kD 104 103,kB 7 102,kB 8 104] (kY [kA 105 0,kU 106 (.nil (.t 105)),kU 107 (.fa 5 (.t 106)),kD 108 107,kA 109 5,kA 110 8,kI 111 1 108 109,kf (.st (.t 111) (.t 110))] (kY [kA 112 0,kA 113 6,kA 114 7,kI 115 1 113 114,kD 116 115,kd 117 (kg (V.f 367) [.t 112,.t 116])] (.ite (.v 117) (kY [kC 4 (Z5 ZT)] .ret) .skip))))
def aej (V:aH):S:=
 (.dr (kW 41 (.mv (.v 0)) (kW 42 (.nil (.t 41)) (kW 43 (.fa 9 (.t 42)) (kW 44 (.ld (.t 43)) (kW 45 (.mv (.v 0)) (kW 46 (.nil (.t 45)) (kW 47 (.fa 5 (.t 46)) (kW 48 (.ld (.t 47)) (ka 49 (kg (V.f 159) [.t 48]) (ka 50 (.callv (.t 44) [.t 49]) (kX 4 (.mv (.t 50)) .done) .wnil) .wnil))))))))))
def RK (V:aH):S:=
 (kY [kA 81 0,kU 82 (.nil (.t 81)),kU 83 (.fa 6 (.t 82)),kD 84 83,kA 85 1,kA 86 5,kA 87 6,kU 88 (.m (.bld #[Z8 ZX 0,Z8 ZY 0,kZ,kZ] [(0,(1,.c (Z8 ZX 1))),(1,(1,.t 86)),(2,(1,.t 87))])),kI 89 4 84 85,kf (.stn 4 (.t 89) (.t 88))] (.seq (kY [kA 90 0,kU 91 (.nil (.t 90)),kU 92 (.fa 0 (.t 91)),kU 93 (.fa 0 (.t 92)),kD 94 93,kA 95 5,kI 96 1 94 95,kN 97 1 96,kd 98 (kg (V.f 139) [.t 97]),kO 99 98,kC 100 (Z8 ZY 0)] (.blk 2 (.loop (kY [kH 101 100 99] (.seq (.ite (.v 101) .skip (.exit 2)) (.seq (.blk 3 (aei V)) (.reg [ke 118 100,kB 100 118]))))))) (kY [kA 119 0,kU 120 (.nil (.t 119)),kU 121 (.fa 5 (.t 120)),kD 122 121,kA 123 5,kI 124 1 122 123,kf (.st (.t 124) (.c (Z8 ZY 0)))] (kY [kC 4 (Z5 ZS)] .ret))))
def RM (V:aH):S:=
 (kY [kC 6 (kZ)] (.seq (kY [kA 51 0,kU 52 (.nil (.t 51)),kU 53 (.fa 0 (.t 52)),kU 54 (.fa 0 (.t 53)),kD 55 54,kA 56 5,kI 57 1 55 56,kN 58 1 57,kd 59 (kg (V.f 135) [.t 58]),kC 60 (Z8 ZY 0)] (.blk 0 (.loop (kY [kH 61 60 59] (.seq (.ite (.v 61) .skip (.exit 0)) (.seq (.blk 1 (RJ V)) (.reg [ke 80 60,kB 60 80]))))))) (RK V)))
def uU (V:aH):S:=
 kY [kC 4 (Z5 ZS)] (kY [kA 9 0,kU 10 (.nil (.t 9)),kU 11 (.fa 7 (.t 10)),kD 12 11,kU 13 (.ar .add ZY (.t 12) (.c (Z8 ZY 1))),kU 14 (.nil (.t 9)),kU 15 (.fa 7 (.t 14)),kf (.st (.t 15) (.t 13))] (.seq (kY [kA 16 0,kd 17 (kg (V.f 366) [.t 16])] (.ite (.v 17) (kY [kC 4 (Z5 ZT)] .ret) .skip)) (.seq (kY [kA 18 0,kU 19 (.nil (.t 18)),kU 20 (.fa 0 (.t 19)),kN 21 5 20,kA 22 0,kU 23 (.nil (.t 22)),kU 24 (.fa 5 (.t 23)),kD 25 24,kd 26 (kg (V.f 364) [.t 21,.t 25])] (.ite (.v 26) (kY [kA 27 0,kU 28 (.nil (.t 27)),kU 29 (.fa 6 (.t 28)),kD 30 29,kA 31 1,kU 32 (.m (.bld #[Z8 ZX 0,Z8 ZY 0,kZ,kZ] [(0,(1,.c (Z8 ZX 2)))])),kI 33 4 30 31,kf (.stn 4 (.t 33) (.t 32))] (kY [kC 4 (Z5 ZS)] .ret)) .skip)) (kY [kA 34 0,kU 35 (.nil (.t 34)),kU 36 (.fa 5 (.t 35)),kD 37 36,kc 38 (kg (V.f 157) [.t 37,.c (Z8 ZY 0)]),kB 5 38] (.seq (kY [kA 39 5,kV 40 (.cm .lss ZY (.t 39) (.c (Z8 ZY 0)))] (.ite (.v 40) (.seq (aej V) .ret) .skip)) (RM V))))))
def uV:List RV:=[.t 4]
structure qF (H0:Hp) (Wb:Nat->Prop) (sB cM im:Nat) (el di sa mo fv ev:ZR) (H:Hp) (s:List Int) (nv:ZR) (N:Nat):Prop where
 bo:af (fun _=>False) H0 H
 bs:H0.size<=sB
 bt:H0.size<=cM
 ne:sB≠cM
 wb:¬Wb sB/\¬Wb cM
 wbo:∀q,Wb q->H0.size<=q/\q<sB
 blk:∃lk:Int,Bl H sB [el,di,sa,mo,fv,Z6 (ZV ⟨cM,0,ZU⟩) s.length im,nv,Z8 ZY lk,Z8 ZY 0,ev]
 st:br H (Z6 (ZV ⟨cM,0,ZU⟩) s.length im) (iL s)
 nd:∃nl,cr yW 4 H nv nl/\nl.length=N
 no:∀q,ay nv q->H0.size<=q/\q≠sB/\q≠cM/\¬Wb q
def N3 (Wb:Nat->Prop) (sB cM:Nat) (nv:ZR) (q:Nat):Prop:=q=sB\/q=cM\/Wb q\/ay nv q
variable {H0:Hp} {Wb:Nat->Prop} {sB cM im:Nat} {el di sa mo fv ev:ZR}
def qF.ai {W:Nat->Prop} (h:qF H0 Wb sB cM im el di sa mo fv ev H s nv N) (hk:af W H H') (hw:∀q,W q->H0.size<=q) (h1:¬W sB) (h2:¬W cM) (h3:∀q,ay nv q->¬W q):qF H0 Wb sB cM im el di sa mo fv ev H' s nv N:=by
 obtain⟨lk,hb⟩:=h.blk;obtain⟨nl,o,hn⟩:=h.nd;exact⟨h.bo.trans' hk fun q hq hw'=>by have:=hw q hw';omega,h.bs,h.bt,h.ne,h.wb,h.wbo,⟨lk,hk.bl hb h1⟩,h.st.ai hk fun q hq=>by cases hq;exact h2,⟨nl,o.ai hk h3,hn⟩,h.no⟩
def qF.aj (h:qF H0 Wb sB cM im el di sa mo fv ev H s nv N) (hk:af (fun _=>False) H H'):qF H0 Wb sB cM im el di sa mo fv ev H' s nv N:=
 h.ai hk (by simp) (by simp) (by simp) (by simp)
def qF.lt (h:qF H0 Wb sB cM im el di sa mo fv ev H s nv N):sB<H.size/\cM<H.size/\∀q,ay nv q->q<H.size:=by
 obtain⟨lk,hb⟩:=h.blk;obtain⟨nl,o,hn⟩:=h.nd;exact⟨hb.lt,h.st.bo rfl,fun q hq=>o.bo hq⟩
def afZ (h:qF H0 Wb sB cM im el di sa mo fv ev H s nv N):∀q,N3 Wb sB cM nv q->H0.size<=q:=by
 rintro q (rfl|rfl|hq|hq)
 ·exact h.bs
 ·exact h.bt
 ·exact(h.wbo q hq).1
 ·exact(h.no q hq).1
def qF.set (h:qF H0 Wb sB cM im el di sa mo fv ev H s nv N) {k:Nat} (hk:k<s.length) (u:Int):qF H0 Wb sB cM im el di sa mo fv ev (az H ⟨cM,k,ZU⟩ (Z8 ZY u)) (s.set k u) nv N:=by
 obtain⟨lk,hb⟩:=h.blk;obtain⟨nl,o,hn⟩:=h.nd;have ne:=h.ne;have K:af (fun q=>q=cM) H (az H ⟨cM,k,ZU⟩ (Z8 ZY u)):=(af.refl _ _).az _ (.inl rfl);refine⟨h.bo.trans' K fun q hq e=>by have:=h.bt;omega,h.bs,h.bt,h.ne,h.wb,h.wbo,⟨lk,by rw[YE];exact K.bl hb ne⟩,?_,⟨nl,o.ai K fun q hq e=>(h.no q hq).2.2.1 e,hn⟩,h.no⟩;rcases h.st with⟨e,_⟩|⟨b,c,L,e,h1,h2,hB,h3⟩
 ·cases e
 ·simp only[Value.slice.injEq,Option.some.injEq,Addr.mk.injEq,and_true]at e;obtain⟨rfl,e2,rfl⟩:=e;rw[aA]at h1 h3;have:=rM hB (l:=iL s) (by rw[aA];exact h1) h2 (by rw[aA];exact h3) k (Z8 ZY u) (by rw[aA];exact hk);rw[mq]at this;rw[YE];rw[aA]at this;exact this
def af0 {c0:List Int}
  (h0:f 0=Z7 (ZV ⟨sB,0,ZU⟩)) (h6:f 6=cv) (S:qF H0 Wb sB cM im el di sa mo fv ev A s nv N) (C:br A cv (iL c0)) (hc:c0.length<=100000) (hN:N<2199023255552)
  (hcv:∀q,ay cv q->H0.size<=q/\q≠sB/\q≠cM/\¬ay nv q)
  (hK:∀f' A' pn BV,(∀j,j≠6->f' j=f j)->f' 6=BV->qF H0 Wb sB cM im el di sa mo fv ev A' s pn (N+1)->br A' BV (iL (c0++[(N:Int)]))->(∀q,ay BV q->ay cv q\/A.size<=q)->(∀q,ay pn q->ay nv q\/A.size<=q)->(∀q,ay BV q->¬ay pn q)→
   af (fun q=>q=sB\/ay nv q\/ay cv q) A A'->Qb .n f' A'):vc P (RJ V) Qb f A:=by
 unfold RJ kA kB kD kL kU kc kf kY kZ;obtain⟨lk,B⟩:=S.blk;obtain⟨nl,O,hn⟩:=S.nd;have lt:=S.lt;have c6:cell A ⟨sB,6,ZU⟩=ZV nv:=by rw[B.cell];rfl
 have ln:aW nv=N:=by rw[O.sl.len,hn]
 have sn:=O.sl.aq;simp only[go_sem,Za,Zb,h0,h6,c6,sn,ln];refine aG fun A1 b1 e1 z1 B1 K1=>?_;have bL:Bl A1 b1 (iL [(N:Int)]):=B1;simp only[go_sem,Za,Zb];refine iD (C.ai K1 (by simp)) (aP.bl bL 0 1 1 (by omega) (by simp[aA])) (gT [(N:Int)]) rfl (by simp[aA,maxLen];omega) (by simp[aA];omega) fun BV A2 C2 K2 oc=>?_;have al9:∀q,ay cv q->q<A.size:=fun q hq=>C.bo hq;have s1:=K1.size;have S1:=S.aj K1;have S2:=S1.ai K2 (fun q hq=>(hcv q hq).1) (fun h=>(hcv _ h).2.1 rfl) (fun h=>(hcv _ h).2.2.1 rfl) (fun q hq h=>(hcv _ h).2.2.2 hq);obtain⟨lk2,B2⟩:=S2.blk;obtain⟨nl2,O2,hn2⟩:=S2.nd;have c62:cell A2 ⟨sB,6,ZU⟩=ZV nv:=by rw[B2.cell];rfl
 have sn2:=O2.sl.aq;have hcs:aq BV:=C2.sl.aq;rw[ae];simp only[go_sem,Za,Zb,h0,c62];refine aG fun A3 b3 e3 z3 B3 K3=>?_;have S3:=S2.aj K3;obtain⟨nl3,O3,hn3⟩:=S3.nd;obtain⟨z0,hz0⟩:∃z0:NdV,z0=(0,0,(ZU,0,0),(ZU,0,0)):=⟨_,rfl⟩
 have uT:Bl A3 b3 (([z0]:List NdV).flatMap yW):=by rw[hz0];exact B3
 have X3:bk yW 4 A3 (Z6 (ZV ⟨b3,0,ZU⟩) 1 1) [z0]:=bk.bl (l:=[z0]) uT (by simp[yW]) (by simp[yW]) (by simp);simp only[go_sem,Za,Zb];refine Ll (m:=[z0]) LV abI O3 X3 rfl (by simp[hn3,maxLen];omega) (by simp[hn3];omega) fun pn A4 O4 K4 on=>?_;have s2:=K2.size;have s3:=K3.size;have s4:=K4.size;have B43:=K3.bl B2 id;have hno:=S.no;have B44:=K4.bl B43 (fun h=>(hno _ h).2.1 rfl);have nsl:aq pn:=by obtain⟨_,_,_,rfl⟩:=O4.shape;trivial
 have t6:=B44.bw (o:=6) (by simp);have B5:=B44.az 6 pn;have K5:af (fun q=>q=sB) A4 (az A4 ⟨sB,6,ZU⟩ pn):=(af.refl _ _).az _ (.inl rfl);have o1:pn.oneCell'=ZT:=aK nsl;have abJ:∀q,ay pn q->ay nv q\/A3.size<=q:=on;have KA4:af (fun q=>ay nv q\/ay cv q) A A4:=((K1.any.trans (K2.mono fun q _ h=>.inr h)).trans K3.any).trans (K4.mono fun q _ h=>.inl h);have KA5:af (fun q=>q=sB\/ay nv q\/ay cv q) A (az A4 ⟨sB,6,ZU⟩ pn):=(KA4.mono fun q _ h=>.inr h).trans (K5.mono fun q _ h=>.inl h);have gl:=afZ S;rw[ae];simp only[go_sem,Za,Zb,h0,t6];have bs:=S.bs;have bt:=S.bt;refine⟨o1,?_⟩;rw[ae];simp only[go_sem,Za,Zb,ae];have fr:∀q,(q=sB\/ay nv q\/ay cv q)->H0.size<=q:=fun q h=>by
  rcases h with h|h|h
  ·omega
  ·exact(hno q h).1
  ·exact(hcv q h).1
 have C5:br (az A4 ⟨sB,6,ZU⟩ pn) BV (iL (c0++[(N:Int)])):=by
  have e:iL (c0++[(N:Int)])=iL c0++iL [(N:Int)]:=PW _ _;rw[e];have d1:∀q,ay BV q->q≠sB/\¬ay nv q:=fun q hq=>by
   rcases oc q hq with h|h
   ·exact⟨(hcv q h).2.1,(hcv q h).2.2.2⟩
   ·have:=lt.1;exact⟨by omega,fun h'=>by have:=lt.2.2 q h';omega⟩
  exact((C2.ai K3 (by simp)).ai K4 (fun q hq=>(d1 q hq).2)).ai K5 fun q hq=>(d1 q hq).1
 refine hK _ _ pn BV (fun j hj=>by simp only[bR,hj,if_false]) (by rfl) ⟨S.bo.trans' KA5 fun q hq h=>by have:=fr q h;omega,S.bs,S.bt,S.ne,S.wb,S.wbo,⟨lk2,B5⟩,?_,⟨nl3++[z0],O4.ai K5 fun q hq e=>?_,by simp[hn3]⟩,fun q hq=>?_⟩ C5 (fun q hq=>?_) (fun q hq=>?_) (fun q hq h=>?_) KA5
 ·refine S.st.ai KA5 fun q hq h=>?_
  cases hq
  rcases h with h|h|h
  ·exact S.ne h.symm
  ·exact(hno _ h).2.2.1 rfl
  ·exact(hcv _ h).2.2.1 rfl
 ·rcases abJ q hq with h|h
  ·exact(hno q h).2.1 e
  ·have:=lt.1;omega
 ·rcases abJ q hq with h|h
  ·exact hno q h
  ·have h1:=lt.1;have h2:=lt.2.1;refine⟨by omega,by omega,by omega,fun hw=>?_⟩;have:=(S.wbo q hw).2;omega
 ·rcases oc q hq with h|h
  ·exact .inl h
  ·exact .inr (by omega)
 ·rcases abJ q hq with h|h
  ·exact .inl h
  ·exact .inr (by omega)
 ·have:=C2.bo hq;rcases abJ q h with h'|h'
  ·rcases oc q hq with h''|h''
   ·exact(hcv q h'').2.2.2 h'
   ·have:=lt.2.2 q h';omega
  ·omega
structure LW (P:Program) (Wb:Nat->Prop) (ev:ZR) (stop:List (List Int)->Bool) (J:List (List Int)->Hp->Prop):Prop where
 call:∃g ca,ev=.func (.func g) #[] ca/\bS P g=ZT/\∀seen t v H,stop seen=ZS->J seen H->aP H v (iL t)->(∀q,aV v q->¬Wb q)->an P g (#[v]++ca) H fun r H'=>r=.bool (stop (seen++[t]))/\J (seen++[t]) H'/\af Wb H H'
 ai:∀seen H H' W,stop seen=ZS->J seen H->af W H H'->(∀q,Wb q->¬W q)->J seen H'
def wV (P:Program) (k:FuncId) (H0:Hp) (Wb:Nat->Prop) (sB cM im:Nat) (el di sa mo fv ev:ZR) (p:rF) (w:Nat) (stop:List (List Int)->Bool) (J:List (List Int)->Hp->Prop) (m:Nat):Prop:=
 ∀(s:List Int) (nv:ZR) (N node:Nat) (seen:List (List Int)) (H:Hp),lW s=m->yp p.el.length s->qF H0 Wb sB cM im el di sa mo fv ev H s nv N->node<N->N+gN w m<=2199023255552->stop seen=ZS->J seen H→
  an P k #[Z7 (ZV ⟨sB,0,ZU⟩),Z8 ZY (node:Int)] H fun r H'=>r=.bool (jS stop seen (lV p (m+1) s)).2/\J (jS stop seen (lV p (m+1) s)).1 H'/\af (N3 Wb sB cM nv) H H'∧
   ((jS stop seen (lV p (m+1) s)).2=ZS->∃pn N',qF H0 Wb sB cM im el di sa mo fv ev H' s pn N'/\N<=N'/\N'<=N+gN w m/\∀q,ay pn q->ay nv q\/H.size<=q)
def qF.node {node:Nat} (h:qF H0 Wb sB cM im el di sa mo fv ev H s nv N) (hn:node<N) (x:NdV):∃bn c,nv=Z6 (ZV ⟨bn,0,ZU⟩) N c/\bG H ⟨bn,node*4,ZU⟩ 4/\qF H0 Wb sB cM im el di sa mo fv ev (aB H ⟨bn,node*4,ZU⟩ (yW x)) s nv N/\af (ay nv) H (aB H ⟨bn,node*4,ZU⟩ (yW x)):=by
 obtain⟨lk,hb⟩:=h.blk;obtain⟨nl,o,hl⟩:=h.nd;have hne:nl≠[]:=by rintro rfl;simp at hl;omega
 obtain⟨bn,c,L,rfl,h1,h2,hB,h3⟩:=o.some hne;have K:af (ay (Z6 (ZV ⟨bn,0,ZU⟩) nl.length c)) H (aB H ⟨bn,node*4,ZU⟩ (yW x)):=(af.refl _ _).aB _ (.inl rfl);obtain⟨n1,n2,n3,n4⟩:=h.no bn rfl;subst hl;refine⟨bn,c,rfl,hB.bG (o:=node*4) (n:=4) (by omega),⟨h.bo.trans' K fun q hq e=>by have e':q=bn:=e;omega,h.bs,h.bt,h.ne,h.wb,h.wbo,⟨lk,K.bl hb fun e=>n2 e.symm⟩,h.st.ai K fun q hq e=>by cases hq;cases e;exact n3 rfl,⟨nl.set node x,?_,by simp⟩,h.no⟩,K⟩;exact afY LV hB h1 h2 h3 (i:=node) (by omega) x
variable {H0:Hp} {Wb:Nat->Prop} {sB cM im:Nat} {el di sa mo fv ev:ZR}
def N4 (N n:Nat):List Int:=(List.range n).map fun j=>((N+j:Nat):Int)
def uW (N n:Nat):(N4 N n).length=n:=by simp[N4]
def RN (N n:Nat):N4 N (n+1)=N4 N n++[((N+n:Nat):Int)]:=by simp[N4,List.range_succ]
def af1 (N n i:Nat) (h:i<(N4 N n).length):(N4 N n)[i]=((N+i:Nat):Int):=by simp[N4]
def Fo (s:List Int) (k:Nat) (x u:Int):(s.set k x).set k u=s.set k u:=by simp
def abK (h:yp n s) (k:Nat) {u:Int} (hu:0<=u/\u<=256):yp n (s.set k u):=
 ⟨by rw[YE];exact h.1,fun v hv=>by rcases List.mem_or_eq_of_mem_set hv with h'|rfl;exact h.2 v h';exact hu⟩
structure RO (P:Program) (V:aH):Prop where
 full:yX P (V.f 366)
 brk:sG P V (V.f 364)
 idx:yV P (V.f 157)
 cln:gA P (V.f 159)
 len:qg P (V.f 135)
 lis:nD P V (V.f 139)
def iY (p:rF) (m kk:Nat) (s:List Int) (us:List Nat):List (List Int):=us.flatMap fun u=>lV p m (s.set kk ((u:Nat):Int))
def af2 (c:RO P V) {node:Nat} (hev:LW P Wb ev stop J)
  (ih:wV P (V.f 367) H0 Wb sB cM im el di sa mo fv ev p w stop J m) (PR:Fk H0 p fx el di sa mo fv vs ms) (hT:bh V H0) (hG:eT p)

  (h0:f 0=Z7 (ZV ⟨sB,0,ZU⟩)) (h1:f 1=Z8 ZY (node:Int)) (h5:f 5=Z8 ZY (kk:Int)) (h6:f 6=cv)
  (S:qF H0 Wb sB cM im el di sa mo fv ev A s nv (N+n)) (C:br A cv (iL (N4 N n))) (hcv:∀q,ay cv q->H0.size<=q/\q≠sB/\q≠cM/\¬ay nv q/\¬Wb q)
  (hU:yp p.el.length s) (hz:lW s=m+1) (hf:s.findIdx? (fun u=>ZQ (u=0))=ZV kk) (hn:n=(bf (fu p kk)).length) (hnode:node<N) (hB:N+n+n*gN w m<=2199023255552) (hst:stop seen=ZS) (hJ:J seen A)
  (hR:∀f' A',f' 4=.bool (jS stop seen (iY p (m+1) kk s (bf (fu p kk)))).2->J (jS stop seen (iY p (m+1) kk s (bf (fu p kk)))).1 A'->af (N3 Wb sB cM nv) A A'→
   ((jS stop seen (iY p (m+1) kk s (bf (fu p kk)))).2=ZS->∃pn N',qF H0 Wb sB cM im el di sa mo fv ev A' s pn N'/\N+n<=N'/\N'<=N+n+n*gN w m/\∀q,ay pn q->ay nv q\/A.size<=q)->Qb .r f' A'):vc P (RK V) Qb f A:=by
 unfold RK kA kB kC kD ke kH kI kN kO kU kd kf kg kY kZ;obtain⟨lk,B⟩:=S.blk;have c6:cell A ⟨sB,6,ZU⟩=ZV nv:=by rw[B.cell];rfl
 obtain⟨ca,cl,cc,rfl⟩:=C.shape;obtain⟨bn,cn,hnv,hok,S1,K1⟩:=S.node (show node<N+n by omega) (1,(kk:Int),(ca,cl,cc),(ZU,0,0));have e1:yW (1,(kk:Int),(ca,cl,cc),(ZU,0,0))=[Z8 ZX 1,Z8 ZY (kk:Int),.slice ca cl cc,Z6 ZU 0 0]:=rfl;rw[e1]at S1 K1;have hkl:=(de hf).1;have a1:bM #[Value.int ZX 1,Z8 ZY (kk:Int),.slice ca cl cc,Z6 ZU 0 0]:=aU rfl;have hnn:(0:Int)<=(node:Int)/\(node:Int)<((N+n:Nat):Int):=by omega
 have hw:jx (jx (jx #[Value.int Xa 0,Value.int XI 0,Value.slice ZU 0 0,Value.slice ZU 0 0] 0 [Value.int Xa 1]) 1 [Value.int XI ↑kk]) 2 [.slice ca cl cc]=#[Value.int ZX 1,Z8 ZY (kk:Int),.slice ca cl cc,Z6 ZU 0 0]:=rfl;simp-implicitDefEqProofs only[go_sem,↓reduceIte,Za,Zb,Zc,reduceCtorEq,Zf,Zg,Zh,Zi,Zd,Ze,h0,h1,h5,h6,c6,hnv,al,hok,hnn,hw];refine⟨a1,?_⟩;rw[ae];generalize aB A ⟨bn,node*4,ZU⟩ [Value.int Xa 1,Value.int XI ↑kk,Value.slice ca cl cc,Value.slice ZU 0 0]=A1 at S1 K1⊢;have hwn:∀q,Wb q->¬ay nv q:=fun q hq h=>(S.no q h).2.2.2 hq;have J1:J seen A1:=hev.ai seen A A1 _ hst hJ K1 hwn;obtain⟨lk1,B1⟩:=S1.blk;have c0:cell A1 ⟨sB,0,ZU⟩=ZV el:=by rw[B1.cell];rfl
 have PR1:=PR.aj S1.bo;have hvl:=PR.el;have hul:=hU.1;have hgn:=hG.n;obtain⟨sb,so,sc,e,hld⟩:=PR1.e.ld1 (i:=kk) (by omega);have hS:=PR1.es kk (by omega);generalize vs.getD kk undef=wv at*;simp only[go_sem,Za,Zb,h0,h5,c0,e,al,hvl,hld,aC];refine⟨by omega,?_⟩;refine(c.lis _ _ A1 (hT.ai S1.bo) hS).mono ?_;rintro lv A2 ⟨OL,ol,K2⟩;rw[ae];have DT:aW lv=n:=by rw[OL.sl.len];simp[cU,hn]
 have NZ:af (N3 Wb sB cM nv) A A2:=(K1.trans K2.any).mono fun q _ h=>.inr (.inr (.inr h));have S2:=S1.aj K2;have s1:=K1.size;have lt:=S.lt;have hno:=S.no;have wbo:=S.wbo;simp only[go_sem,Za,Zb,OL.sl.aq,DT];refine aF n [101,7,8,117,4,100] rfl rfl (by omega) (by rfl) (by rfl) (fun i g X=>∃IH Ni x,qF H0 Wb sB cM im el di sa mo fv ev X (s.set kk x) IH Ni/\N+n<=Ni/\Ni<=N+n+i*gN w m/\(∀q,ay IH q->ay nv q\/A2.size<=q)∧
  (jS stop seen (iY p (m+1) kk s ((bf (fu p kk)).take i))).2=ZS/\J (jS stop seen (iY p (m+1) kk s ((bf (fu p kk)).take i))).1 X/\af (N3 Wb sB cM nv) A X/\af (N3 Wb sB cM nv) A2 X/\br X (.slice ca cl cc) (iL (N4 N n))/\br X lv (cU (fu p kk))) ?_ ?_ ?_
 ·refine⟨nv,N+n,0,?_,ZH _,by omega,fun q hq=>.inl hq,rfl,?_,NZ,af.refl _ _,?_,OL⟩
  ·have:s.set kk 0=s:=by
    have h:=(de hf).2.1;rw[ZP,ZO hkl,Zu]at h;rw[<-h];exact Wq hkl
   rw[this];exact S2
  ·exact hev.ai _ _ _ _ hst J1 K2 (by simp)
  ·exact(C.ai K1 fun q hq h=>(hcv q hq).2.2.2.1 h).ai K2 (by simp)
 ·rintro i g X hi gi gn ⟨IH,Ni,x,SX,n1,n2,no',hd,hJX,KX,KX2,CX,LX⟩;simp only[go_sem,Za,Zb,ae]at gi gn;obtain⟨u,hu⟩:∃u,u=(bf (fu p kk))[i]'(by omega):=⟨_,rfl⟩
  have hum:=(my.1 (show u∈bf (fu p kk) by rw[hu];exact ZL _)).2;have hur:=hG.us kk u hum;have hLl:(cU (fu p kk)).length=n:=by simp[cU,hn]
  have hui:(cU (fu p kk))[i]?=ZV (Z8 ZY (u:Int)):=by
   rw[ZO (by omega)];simp[cU,hu]
  have ak8:(iL (N4 N n))[i]?=ZV (Z8 ZY ((N+i:Nat):Int)):=by
   have hl:i<(N4 N n).length:=by rw[uW];exact hi
   rw[dM _ _ hl,ZP,ZO hl,Zu,af1]
  obtain⟨b1,o1,q1,Pq,-,hc1⟩:=LX.sl.cells (by intro e;have:=congrArg Y8 e;rw[hLl]at this;simp at this;omega);rw[hLl]at hc1 Pq;have hc1:=(hc1 i hi).trans hui;obtain⟨lkx,BX⟩:=SX.blk;have cx5:cell X ⟨sB,5,ZU⟩=ZV (Z6 (ZV ⟨cM,0,ZU⟩) (s.set kk x).length im):=by rw[BX.cell];rfl
  have stX:=SX.set (k:=kk) (by simpa using hkl) (u:Int);rw[Fo]at stX;have KS:af (fun q=>q=cM) X (az X ⟨cM,kk,ZU⟩ (Z8 ZY (u:Int))):=(af.refl _ _).az _ (.inl rfl);have tS:(cell X ⟨cM,kk,ZU⟩).isSome=ZT/\tL X ⟨cM,kk,ZU⟩=ZS:=by
   rcases SX.st with⟨e,_⟩|⟨b,c',L,e,h1,h2,hB',h3⟩
   ·cases e
   ·simp only[Value.slice.injEq,Option.some.injEq,Addr.mk.injEq,and_true]at e;obtain⟨rfl,e2,rfl⟩:=e;rw[aA,YE]at h1;exact hB'.bw (o:=kk) (by omega)
  have hkb:(0:Int)<=(kk:Int)/\(kk:Int)<((s.set kk x).length:Int):=by rw[YE];omega
  unfold aei kA kB kC kD kI kK kU kd kf kg kY;simp only[go_sem,Za,Zb,h0,h5,gi,Pq,al,hc1,cx5,hkb,tS];refine⟨by omega,?_⟩;rw[ae];generalize az X ⟨cM,kk,ZU⟩ (Z8 ZY (u:Int))=Y at stX KS⊢;have dC:∀q,ay (.slice ca cl cc) q->q≠sB/\q≠cM/\¬ay IH q/\¬Wb q:=fun q hq=>by
   obtain⟨_,h2,h3,h4,h5⟩:=hcv q hq;refine⟨h2,h3,fun h=>?_,h5⟩;have:=C.bo hq;rcases no' q h with h'|h'
   ·exact h4 h'
   ·have:=K2.size;omega
  have dL:∀q,ay lv q->q≠sB/\q≠cM/\¬ay IH q/\¬Wb q:=fun q hq=>by
   have h1:=ol q hq;have h2:=OL.bo hq;refine⟨by omega,by omega,fun h=>?_,fun h=>?_⟩
   ·rcases no' q h with h'|h'
    ·have:=lt.2.2 q h';omega
    ·omega
   ·have:=(wbo q h).2;omega
  have CY:=CX.ai KS fun q hq=>(dC q hq).2.1;have LY:=LX.ai KS fun q hq=>(dL q hq).2.1;obtain⟨b2,o2,q2,ev2,-,hc2⟩:=CY.sl.cells (by intro e;have:=congrArg Y8 e;rw[aA,uW]at this;simp at this;omega);rw[aA,uW]at hc2 ev2;have hc2:=(hc2 i hi).trans ak8;have JY:J (jS stop seen (iY p (m+1) kk s ((bf (fu p kk)).take i))).1 Y:=hev.ai _ _ _ _ (BU hst hd) hJX KS fun q hq e=>by rw[e]at hq;exact S.wb.2 hq
  have hzz:lW (s.set kk (u:Int))=m:=by
   have:=Fh hkl (de hf).2.1 (u:=(u:Int)) (by omega);omega
  have hgi:i*gN w m+gN w m<=n*gN w m:=by
   have:(i+1)*gN w m<=n*gN w m:=YT _ hi;rw[Yi,Xk]at this;exact this
  simp only[go_sem,Za,Zb,h0,h6,ev2,al,hc2];refine⟨by omega,?_⟩;refine(ih (s.set kk (u:Int)) IH Ni (N+i) _ Y hzz (abK hU kk (by omega)) stX (by omega) (by omega) (BU hst hd) JY).mono ?_;rintro r Z ⟨rfl,JZ,KZ,hgo⟩;have Fp:jS stop seen (iY p (m+1) kk s ((bf (fu p kk)).take (i+1)))=jS stop (jS stop seen (iY p (m+1) kk s ((bf (fu p kk)).take i))).1 (lV p (m+1) (s.set kk (u:Int))):=by
   have e:iY p (m+1) kk s ((bf (fu p kk)).take (i+1))=iY p (m+1) kk s ((bf (fu p kk)).take i)++lV p (m+1) (s.set kk (u:Int)):=by
    unfold iY;rw[List.take_succ_eq_append_getElem (by omega),Yo,hu];simp
   rw[e,BR,hd];rfl
  rw[<-Fp]at JZ hgo⊢;have kss:∀q,q=cM->N3 Wb sB cM nv q:=fun q h=>.inr (.inl h);have kz:∀(B:Hp) q,q<B.size->B.size<=A2.size->N3 Wb sB cM IH q->N3 Wb sB cM nv q:=fun B q hq hB' h=>by
   rcases h with h|h|h|h
   ·exact .inl h
   ·exact .inr (.inl h)
   ·exact .inr (.inr (.inl h))
   ·rcases no' q h with h'|h'
    ·exact .inr (.inr (.inr h'))
    ·omega
  have s2:=K2.size;have KZA:af (N3 Wb sB cM nv) A Z:=(KX.trans (KS.mono fun q _ h=>kss q h)).trans' KZ fun q hq h=>kz A q hq (by omega) h;have ak9:af (N3 Wb sB cM nv) A2 Z:=(KX2.trans (KS.mono fun q _ h=>kss q h)).trans' KZ fun q hq h=>kz A2 q hq (ZH _) h;rw[ae]
  cases hb:(jS stop seen (iY p (m+1) kk s ((bf (fu p kk)).take (i+1)))).2 with
  |true=>
   have hall:jS stop seen (iY p (m+1) kk s (bf (fu p kk)))=jS stop seen (iY p (m+1) kk s ((bf (fu p kk)).take (i+1))):=by
    have e:iY p (m+1) kk s (bf (fu p kk))=iY p (m+1) kk s ((bf (fu p kk)).take (i+1))++iY p (m+1) kk s ((bf (fu p kk)).drop (i+1)):=by
     unfold iY;rw[<-Yo,List.take_append_drop]
    rw[e,BR,hb,if_pos rfl]
   rw[hall]at hR;simp only[go_sem,Za,Zb];exact hR _ _ (by simp only[go_sem,Za,Zb,ae,hb]) JZ KZA (fun h=>by rw[hb]at h;cases h)
  |false=>
   obtain⟨pn,N',SZ,m1,m2,on'⟩:=hgo hb;have sY:=KS.size;have sX:=KX2.size;have CZ:=CY.ai KZ fun q hq h=>by
    obtain⟨h1,h2,h3,h4⟩:=dC q hq;rcases h with h|h|h|h
    ·exact h1 h
    ·exact h2 h
    ·exact h4 h
    ·exact h3 h
   have LZ:=LY.ai KZ fun q hq h=>by
    obtain⟨h1,h2,h3,h4⟩:=dL q hq;rcases h with h|h|h|h
    ·exact h1 h
    ·exact h2 h
    ·exact h4 h
    ·exact h3 h
   have amu:(i+1)*gN w m=i*gN w m+gN w m:=by rw[Yi,Xk]
   simp only[go_sem,Za,Zb];refine⟨pn,N',(u:Int),SZ,by omega,by omega,fun q hq=>?_,hb,JZ,KZA,ak9,by rw[<-ev2];exact CZ,by rw[<-Pq];exact LZ⟩;rcases on' q hq with h|h
   ·exact no' q h
   ·exact .inr (by omega)
 ·rintro g X gi ⟨IH,Ni,x,SX,n1,n2,no',hd,hJX,KX,KX2,CX,LX⟩;have Pn:(bf (fu p kk)).take n=bf (fu p kk):=Zy (by omega);rw[Pn]at hd hJX;obtain⟨lkx,BX⟩:=SX.blk;have cx5:cell X ⟨sB,5,ZU⟩=ZV (Z6 (ZV ⟨cM,0,ZU⟩) (s.set kk x).length im):=by rw[BX.cell];rfl
  have stX:=SX.set (k:=kk) (by simpa using hkl) 0;have ph:(s.set kk x).set kk 0=s:=by
   have h:=(de hf).2.1;rw[ZP,ZO hkl,Zu]at h;rw[Fo,<-h];exact Wq hkl
  rw[ph]at stX;have KS:af (fun q=>q=cM) X (az X ⟨cM,kk,ZU⟩ (Z8 ZY 0)):=(af.refl _ _).az _ (.inl rfl);have tS:(cell X ⟨cM,kk,ZU⟩).isSome=ZT/\tL X ⟨cM,kk,ZU⟩=ZS:=by
   rcases SX.st with⟨e,_⟩|⟨b,c',L,e,h1,h2,hB',h3⟩
   ·cases e
   ·simp only[Value.slice.injEq,Option.some.injEq,Addr.mk.injEq,and_true]at e;obtain⟨rfl,e2,rfl⟩:=e;rw[aA,YE]at h1;exact hB'.bw (o:=kk) (by omega)
  have hkb:(0:Int)<=(kk:Int)/\(kk:Int)<((s.set kk x).length:Int):=by rw[YE];omega
  simp only[go_sem,Za,Zb,h0,h5,cx5,al,hkb,tS];rw[ae];simp only[go_sem,Za,Zb];have s2:=K2.size;exact hR _ _ (by simp only[go_sem,Za,Zb,ae,hd]) (hev.ai _ _ _ _ (BU hst hd) hJX KS fun q hq e=>by rw[e]at hq;exact S.wb.2 hq) (KX.trans (KS.mono fun q _ h=>.inr (.inl h))) fun _=>⟨IH,Ni,stX,n1,n2,fun q hq=>(no' q hq).imp id fun h=>by omega⟩
variable {H0:Hp} {Wb:Nat->Prop} {sB cM im:Nat} {el di sa mo fv ev:ZR}
def af3 (c:RO P V) {node:Nat} (hev:LW P Wb ev stop J)
  (ih:wV P (V.f 367) H0 Wb sB cM im el di sa mo fv ev p w stop J m) (PR:Fk H0 p fx el di sa mo fv vs ms) (hT:bh V H0) (hG:eT p) (hw:∀k,(bf (fu p k)).length<=w) (hw1:w<=256)

  (h0:f 0=Z7 (ZV ⟨sB,0,ZU⟩)) (h1:f 1=Z8 ZY (node:Int)) (h5:f 5=Z8 ZY (kk:Int))
  (S:qF H0 Wb sB cM im el di sa mo fv ev A s nv N)
  (hU:yp p.el.length s) (hz:lW s=m+1) (hf:s.findIdx? (fun u=>ZQ (u=0))=ZV kk) (hnode:node<N) (hB:N+gN w (m+1)<=2199023255552) (hst:stop seen=ZS) (hJ:J seen A)
  (hR:∀f' A',f' 4=.bool (jS stop seen (iY p (m+1) kk s (bf (fu p kk)))).2->J (jS stop seen (iY p (m+1) kk s (bf (fu p kk)))).1 A'->af (N3 Wb sB cM nv) A A'→
   ((jS stop seen (iY p (m+1) kk s (bf (fu p kk)))).2=ZS->∃pn N',qF H0 Wb sB cM im el di sa mo fv ev A' s pn N'/\N<=N'/\N'<=N+gN w (m+1)/\∀q,ay pn q->ay nv q\/A.size<=q)->Qb .r f' A'):vc P (RM V) Qb f A:=by
 unfold RM kA kB kC kD ke kH kI kN kU kd kg kY kZ;obtain⟨n,hn⟩:∃n,n=(bf (fu p kk)).length:=⟨_,rfl⟩
 have hnw:n<=w:=by rw[hn];exact hw kk
 have hmul:n*gN w m<=w*gN w m:=YT _ hnw;have hgs:gN w (m+1)=w+w*gN w m:=by rw[gN,Nat.mul_add,Zs]
 have hkl:=(de hf).1;obtain⟨lk,B⟩:=S.blk;have c0:cell A ⟨sB,0,ZU⟩=ZV el:=by rw[B.cell];rfl
 have PRA:=PR.aj S.bo;have hvl:=PR.el;have hul:=hU.1;have hgn:=hG.n;obtain⟨sb,so,sc,e,hld⟩:=PRA.e.ld1 (i:=kk) (by omega);have hS:=PRA.es kk (by omega);generalize vs.getD kk undef=wv at*;simp only[go_sem,Za,Zb,h0,h5,c0,e,al,hvl,hld,aC];refine⟨by omega,?_⟩;refine(c.len _ _ A hS).mono ?_;rintro r A1 ⟨rfl,K1⟩;have S1:=S.aj K1;have lt:=S.lt;have hno:=S.no;have s1:=K1.size;rw[ae,<-hn];simp only[go_sem,Za,Zb];have wbo:=S.wbo;have hW0:∀q,Wb q->¬(q=sB\/q=cM\/ay nv q):=fun q hq h=>by
  rcases h with h|h|h
  ·rw[h]at hq;exact S.wb.1 hq
  ·rw[h]at hq;exact S.wb.2 hq
  ·exact(hno q h).2.2.2 hq
 refine aF n [61,6,60] rfl rfl (by omega) (by rfl) (by rfl) (fun i g X=>∃IH cv,g 6=cv/\qF H0 Wb sB cM im el di sa mo fv ev X s IH (N+i)/\br X cv (iL (N4 N i))/\(∀q,ay cv q->A1.size<=q)/\(∀q,ay IH q->ay nv q\/A1.size<=q)/\(∀q,ay cv q->¬ay IH q)/\af (fun q=>q=sB\/q=cM\/ay nv q) A1 X) ?_ ?_ ?_
 ·exact⟨nv,_,rfl,S1,br.nil _,fun q hq=>hq.elim,fun q hq=>.inl hq,fun q hq=>hq.elim,af.refl _ _⟩
 ·rintro i g X hi gi gn ⟨IH,cv,g6,SX,CX,oc,on,dj,KX⟩;simp only[go_sem,Za,Zb,ae]at gi gn g6;have sX:=KX.size;have bs:=S.bs;have bt:=S.bt;refine af0 (cv:=cv) (by simp only[go_sem,Za,Zb,ae,h0]) (by simp only[go_sem,Za,Zb,ae,g6]) SX CX (by rw[uW];omega) (by omega) (fun q hq=>by have:=oc q hq;exact⟨by omega,by omega,by omega,dj q hq⟩) fun f' A' pn BV yQ f6 S' C' oc' on' dj' K'=>?_;simp only[go_sem,Za,Zb];refine⟨pn,BV,f6,S',by rw[RN];exact C',fun q hq=>?_,fun q hq=>?_,dj',KX.trans' K' fun q hq h=>?_⟩
  ·rcases oc' q hq with h|h
   ·exact oc q h
   ·omega
  ·rcases on' q hq with h|h
   ·exact on q h
   ·exact .inr (by omega)
  ·rcases h with h|h|h
   ·exact .inl h
   ·rcases on q h with h'|h'
    ·exact .inr (.inr h')
    ·omega
   ·have:=oc q h;omega
 ·rintro g X gi ⟨IH,cv,g6,SX,CX,oc,on,dj,KX⟩;simp only[go_sem,Za,Zb,ae]at g6;have sX:=KX.size;have bs:=S.bs;have bt:=S.bt;have KAX:af (fun q=>q=sB\/q=cM\/ay nv q) A X:=K1.any.trans KX;have JX:=hev.ai _ _ _ _ hst hJ KAX hW0;simp only[go_sem,Za,Zb];refine af2 c hev ih PR hT hG (node:=node) (kk:=kk) (N:=N) (n:=n) (cv:=cv) (by simp only[go_sem,Za,Zb,ae,h0]) (by simp only[go_sem,Za,Zb,ae,h1]) (by simp only[go_sem,Za,Zb,ae,h5]) (by simp only[go_sem,Za,Zb,ae,g6]) SX CX (fun q hq=>by have:=oc q hq;exact⟨by omega,by omega,by omega,dj q hq,fun h=>by have:=(wbo q h).2;omega⟩) hU hz hf hn hnode (by omega) hst JX fun f' A' f4 JA KA hgo=>?_;refine hR f' A' f4 JA ((KAX.mono fun q _ h=>?_).trans' KA fun q hq h=>?_) fun hb=>?_
  ·rcases h with h|h|h
   ·exact .inl h
   ·exact .inr (.inl h)
   ·exact .inr (.inr (.inr h))
  ·rcases h with h|h|h|h
   ·exact .inl h
   ·exact .inr (.inl h)
   ·exact .inr (.inr (.inl h))
   ·rcases on q h with h'|h'
    ·exact .inr (.inr (.inr h'))
    ·omega
  ·obtain⟨pn,N',S',m1,m2,on'⟩:=hgo hb;refine⟨pn,N',S',by omega,by omega,fun q hq=>?_⟩;rcases on' q hq with h|h
   ·rcases on q h with h'|h'
    ·exact .inl h'
    ·exact .inr (by omega)
   ·exact .inr (by omega)
def qF.look (h:qF H0 Wb sB cM im el di sa mo fv ev H s nv N) (x:Int):qF H0 Wb sB cM im el di sa mo fv ev (az H ⟨sB,7,ZU⟩ (Z8 ZY x)) s nv N:=by
 obtain⟨lk,hb⟩:=h.blk;obtain⟨nl,o,hn⟩:=h.nd;have K:af (fun q=>q=sB) H (az H ⟨sB,7,ZU⟩ (Z8 ZY x)):=(af.refl _ _).az _ (.inl rfl);exact⟨h.bo.trans' K fun q hq e=>by have:=h.bs;omega,h.bs,h.bt,h.ne,h.wb,h.wbo,⟨x,hb.az 7 (Z8 ZY x)⟩,h.st.ai K fun q hq e=>by cases hq;exact h.ne e.symm,⟨nl,o.ai K fun q hq e=>(h.no q hq).2.1 e,hn⟩,h.no⟩
def RP (hk:ak P k (uU V) uV 2) (hself:V.f 367=k) (c:RO P V) (hev:LW P Wb ev stop J)
  (PR:Fk H0 p fx el di sa mo fv vs ms) (hT:bh V H0) (hG:eT p) (hF:yp p.el.length fx) (hw:∀k,(bf (fu p k)).length<=w) (hw1:w<=256):∀m,wV P k H0 Wb sB cM im el di sa mo fv ev p w stop J m:=by
 have main:∀m,(∀m',m'+1=m->wV P k H0 Wb sB cM im el di sa mo fv ev p w stop J m')->wV P k H0 Wb sB cM im el di sa mo fv ev p w stop J m:=by
  intro m ih s nv N node seen H hz hU S hnode hB hst hJ;refine ah hk (args:=[_,_]) (by simp) ?_;unfold uU uV kA kB kC kD kI kN kU kV kc kd kf kg kY kZ;have hul:=hU.1;have hgn:=hG.n;obtain⟨lk,B⟩:=S.blk;have c7:cell H ⟨sB,7,ZU⟩=ZV (Z8 ZY lk):=by rw[B.cell];rfl
  have t7:=B.bw (o:=7) (by simp);have S1:=S.look (IntKind.i64.wrap (lk+1));have K1:af (fun q=>q=sB) H (az H ⟨sB,7,ZU⟩ (Z8 ZY (IntKind.i64.wrap (lk+1)))):=(af.refl _ _).az _ (.inl rfl);have J1:J seen (az H ⟨sB,7,ZU⟩ (Z8 ZY (IntKind.i64.wrap (lk+1)))):=hev.ai _ _ _ _ hst hJ K1 fun q hq e=>by rw[e]at hq;exact S.wb.1 hq
  simp only[go_sem,Za,Zb,c7,t7];rw[ae];generalize az H ⟨sB,7,ZU⟩ (Z8 ZY (IntKind.i64.wrap (lk+1)))=H1 at S1 K1 J1⊢;obtain⟨lk1,B1⟩:=S1.blk;simp only[go_sem,Za,Zb];refine(c.full sB _ lk1 H1 B1 rfl).mono ?_;rintro r H2 ⟨rfl,rfl⟩;rw[ae];have c5:cell H2 ⟨sB,5,ZU⟩=ZV (Z6 (ZV ⟨cM,0,ZU⟩) s.length im):=by rw[B1.cell];rfl
  have l5:aQ H2 ⟨sB,0,ZU⟩ 5=ZV #[el,di,sa,mo,fv]:=by
   have:=B1.aQ (o:=0) (n:=5) (by simp);simpa using this
  have hv:lz H2 (Z0 #[el,di,sa,mo,fv]) p fx:=⟨_,_,_,_,_,_,_,rfl,PR.aj S1.bo⟩
  simp only[go_sem,Za,Zb,c5,aC,l5];refine(c.brk p fx s _ _ H2 (hT.ai S1.bo) hv hG hF hU S1.st.sl).mono ?_;rintro r H3 ⟨rfl,K3⟩;have S3:=S1.aj K3;have J3:=hev.ai _ _ _ _ hst J1 K3 (by simp);have F4:af (N3 Wb sB cM nv) H H3:=(K1.mono fun q _ h=>.inl h).trans K3.any;obtain⟨lk3,B3⟩:=S3.blk;have c53:cell H3 ⟨sB,5,ZU⟩=ZV (Z6 (ZV ⟨cM,0,ZU⟩) s.length im):=by rw[B3.cell];rfl
  have c63:cell H3 ⟨sB,6,ZU⟩=ZV nv:=by rw[B3.cell];rfl
  have c93:cell H3 ⟨sB,9,ZU⟩=ZV ev:=by rw[B3.cell];rfl
  have sH1:=K1.size;have sH3:=K3.size;rw[ae]
  by_cases hbr:jr p s=ZT
  ·have hL:lV p (m+1) s=[]:=by rw[lV,if_pos hbr]
   rw[hL];obtain⟨bn,cn,hnv,hok,S4,K4⟩:=S3.node hnode (2,0,(ZU,0,0),(ZU,0,0));have e1:yW (2,0,(ZU,0,0),(ZU,0,0))=[Z8 ZX 2,Z8 ZY 0,Z6 ZU 0 0,Z6 ZU 0 0]:=rfl;rw[e1]at S4 K4;have a1:bM #[Value.int ZX 2,Z8 ZY 0,Z6 ZU 0 0,Z6 ZU 0 0]:=aU rfl;have hw':jx #[Value.int Xa 0,Value.int XI 0,Value.slice ZU 0 0,Value.slice ZU 0 0] 0 [Value.int Xa 2]=#[Value.int ZX 2,Z8 ZY 0,Z6 ZU 0 0,Z6 ZU 0 0]:=rfl;have hnn:(0:Int)<=(node:Int)/\(node:Int)<(N:Int):=by omega
   simp-implicitDefEqProofs only[go_sem,↓reduceIte,Za,Zb,Zc,reduceCtorEq,Zf,Zg,Zh,Zi,Zd,Ze,hbr,c63,hnv,al,hok,hnn,hw'];refine⟨a1,?_⟩;rw[ae];generalize aB H3 ⟨bn,node*4,ZU⟩ [Value.int ZX 2,Z8 ZY 0,Z6 ZU 0 0,Z6 ZU 0 0]=H4 at S4 K4⊢;simp only[go_sem,Za,Zb];rw[<-hnv];have J4:=hev.ai _ _ _ _ hst J3 K4 fun q hq h=>(S.no q h).2.2.2 hq;exact⟨rfl,J4,F4.trans (K4.mono fun q _ h=>.inr (.inr (.inr h))),fun _=>⟨nv,N,S4,ZH _,by omega,fun q hq=>.inl hq⟩⟩
  have hbr:jr p s=ZS:=by simpa using hbr
  simp only[go_sem,Za,Zb,hbr,c53];refine(c.idx s _ 0 H3 S3.st.sl (by omega)).mono ?_;rintro r H4 ⟨rfl,rfl⟩;rw[ae]
  cases hfi:s.findIdx? (fun u=>ZQ (u=0))with
  |none=>
   have hL:lV p (m+1) s=[s]:=by rw[lV,if_neg (by rw[hbr];simp),hfi]
   rw[hL];have hi0:IG 0 s=-1:=by unfold IG;rw[hfi]
   simp-implicitDefEqProofs only[go_sem,↓reduceIte,Za,Zb,Zc,reduceCtorEq,Zf,Zg,Zh,Zi,Zd,Ze,hi0];obtain⟨g,ca,ki,FY,hgc⟩:=hev.call;have ws:Wb sB=False:=eq_false S.wb.1;have wt:Wb cM=False:=eq_false S.wb.2;unfold aej kW kX ka kg;refine aZ Wb ?_;simp only[go_sem,Za,Zb,c53,c93,ws,wt];refine(c.cln s _ H4 S3.st.sl (by omega)).mono ?_;rintro v H5 ⟨O5,o5,K5⟩;have J5:=hev.ai _ _ _ _ hst J3 K5 (by simp);have S5:=S3.aj K5;rw[aJ];refine⟨K5.any,?_⟩;simp only[go_sem,Za,Zb,ki];refine⟨FY,(hgc seen s v H5 hst J5 O5.sl fun q hq hWq=>?_).mono ?_⟩
   ·have:=o5 q (O5.aV hq);have:=(S.wbo q hWq).2;have:=S3.lt.1;omega
   rintro r H6 ⟨rfl,J6,K6⟩;have hdl:jS stop seen [s]=(seen++[s],stop (seen++[s])):=by
    rw[jS]
    cases hs:stop (seen++[s])with
    |true=>rfl
    |false=>rfl
   rw[aJ];refine⟨K6,?_⟩;simp only[go_sem,Za,Zb];rw[hdl,<-ki];exact⟨rfl,J6,(F4.trans K5.any).trans (K6.mono fun q _ h=>.inr (.inr (.inl h))),fun _=>⟨nv,N,S5.ai K6 (fun q hq=>(S.wbo q hq).1) S.wb.1 S.wb.2 (fun q hq=>(S.no q hq).2.2.2),ZH _,by omega,fun q hq=>.inl hq⟩⟩
  |some kk=>
   have hi0:IG 0 s=(kk:Int):=by unfold IG;rw[hfi]
   have d0:ZQ ((kk:Int)<0)=ZS:=decide_eq_false (by omega);simp only[go_sem,Za,Zb,hi0,d0];have hzp:0<lW s:=by
    unfold lW;obtain⟨k1,k2,_⟩:=de hfi;rw[ZP,ZO k1,Zu]at k2;exact List.countP_pos_iff.2 ⟨s[kk],ZL _,by simp[k2]⟩
   obtain⟨m',rfl⟩:∃m',m=m'+1:=⟨m -1,by omega⟩
   have hL:lV p (m'+1+1) s=iY p (m'+1) kk s (bf (fu p kk)):=by
    conv=>lhs;rw[lV]
    rw[if_neg (by rw[hbr];simp),hfi];rfl
   have ihm:=ih m' rfl;rw[<-hself]at ihm;rw[hL];refine af3 c hev ihm PR hT hG hw hw1 (node:=node) (kk:=kk) (by rfl) (by rfl) (by rfl) S3 hU hz hfi hnode hB hst J3 fun f' A' f4 JA KA hgo=>?_;simp only[go_sem,Za,Zb,ae,f4];exact⟨JA,F4.trans KA,fun hb=>by
    obtain⟨pn,N',S',m1,m2,on⟩:=hgo hb;exact⟨pn,N',S',m1,m2,fun q hq=>(on q hq).imp id fun h=>by omega⟩⟩
 intro m
 induction m with
 |zero=>exact main 0 fun m' h=>by omega
 |succ m ih=>
  refine main (m+1) fun m' h=>?_;have:m'=m:=by omega
  subst this;exact ih
end Go.Mg

/- Lemmas of ours. No conditions. -/
import Derived.Test.YtoclemmcphgikaaGreatDoorMgLib
open Bool renaming false→ZS,true→ZT
open Decidable renaming decide→ZQ
open Go renaming Value→ZR
open Go.IntKind renaming i64→ZY,u8→ZX
open Go.Value renaming bool→Z5,int→Z8,pointer→Z7,slice→Z6
open Option renaming none→ZU,some→ZV
open Go.IntWalk renaming i64_in→ZN
open List renaming getD_eq_getElem?_getD→ZP,getElem_of_mem→ZC
open Nat renaming reduceEqDiff→Za,reduceAdd→Zb,reduceMul→Zc
set_option maxRecDepth 100000
set_option linter.all false
namespace Go.Mg
open Go Go.RowKit
def QW (V:aH):S:=
 kY [kC 0 (kZ)] (kY [kc 1 (.aX (V.t 67) 1 20 [.c (.string ⟨#[97,108,108]⟩),.c (.string ⟨#[97,110,100]⟩),.c (.string ⟨#[97,115,115,105,103,110]⟩),.c (.string ⟨#[98,121]⟩),.c (.string ⟨#[99,111,117,110,116]⟩),.c (.string ⟨#[100,101,99,108,97,114,101]⟩),.c (.string ⟨#[100,121,110,97,109,105,99]⟩),.c (.string ⟨#[101,110,102,111,114,99,101]⟩),.c (.string ⟨#[102,97,108,115,101]⟩),.c (.string ⟨#[102,111,114]⟩),.c (.string ⟨#[105,102]⟩),.c (.string ⟨#[109,101,109,98,101,114,115]⟩),.c (.string ⟨#[110,111,110,101]⟩),.c (.string ⟨#[110,111,116]⟩),.c (.string ⟨#[111,110]⟩),.c (.string ⟨#[111,114]⟩),.c (.string ⟨#[114,101,118,111,107,101]⟩),.c (.string ⟨#[115,116,97,116,105,99]⟩),.c (.string ⟨#[116,114,117,101]⟩),.c (.string ⟨#[117,115,101,114,115]⟩)]),kB 0 1] .ret)
def QX:List RV:=[.t 0]
def GZ (V:aH):S:=
 kY [kC 4 (Z8 ZY 0)] (.seq (kY [kA 6 0,kV 7 (.m (.lenl (.t 6))),kC 8 (Z8 ZY 0)] (.blk 0 (.loop (kY [kH 9 8 7] (.seq (.ite (.v 9) .skip (.exit 0)) (.seq (.blk 1 (kY [kA 10 8,kB 5 10] (kY [kA 11 1,kA 12 0,kA 13 5,kI 14 1 12 13,kD 15 14,kV 16 (.sc .eql (.t 11) (.t 15))] (.ite (.v 16) (kY [kA 17 5,kB 4 17] .ret) .skip)))) (.reg [ke 18 8,kB 8 18]))))))) (kY [kC 4 (Z8 ZY (-1))] .ret))
def G0:List RV:=[.t 4]
def AP (V:aH):S:=
 kY [kC 4 (Z5 ZS)] (kY [kA 5 0,kA 6 1,kc 7 (kg (V.f 70) [.t 5,.t 6]),kU 8 (.cm .geq ZY (.t 7) (.c (Z8 ZY 0))),kB 4 8] .ret)
def AQ:List RV:=[.t 4]
def r8 (V:aH):S:=
 kY [kC 2 (Z5 ZS)] (kY [kA 3 0,kU 4 (.cm .geq ZX (.t 3) (.c (Z8 ZX 97))),kF 5 4,kS 6 5 ZT 0,kT 7 5 ZT (.cm .leq ZX (.t 6) (.c (Z8 ZX 122))),kJ 8 5 7,kB 2 8] .ret)
def sd:List RV:=[.t 2]
def wh (V:aH):S:=
 kY [kC 3 (Z5 ZS)] (kY [kU 4 (.ld (.v 1)),kA 5 0,kc 6 (.callv (.t 4) [.t 5]),kF 7 6,kS 8 7 ZS 0,kT 9 7 ZS (.cm .geq ZX (.t 8) (.c (Z8 ZX 48))),kT 10 7 ZS (.mv (.t 9)),kS 11 10 ZT 0,kT 12 10 ZT (.cm .leq ZX (.t 11) (.c (Z8 ZX 57))),kT 13 7 ZS (.pick (.t 10) (.t 12) (.c (Z5 ZS))),kU 14 (.pick (.t 7) (.c (Z5 ZT)) (.t 13)),kF 15 14,kS 16 15 ZS 0,kT 17 15 ZS (.cm .eql ZX (.t 16) (.c (Z8 ZX 95))),kU 18 (.pick (.t 15) (.c (Z5 ZT)) (.t 17)),kB 3 18] .ret)
def wk:List RV:=[.t 3]
def mJ (V:aH):S:=
 kY [kC 2 (Z5 ZS)] (.seq (kY [kA 6 0,kU 7 (.m (.lens (.t 6))),kU 8 (.cm .eql ZY (.t 7) (.c (Z8 ZY 0))),kF 9 8,kS 10 9 ZS 0,kT 11 9 ZS (.m (.lens (.t 10))),kT 12 9 ZS (.cm .gtr ZY (.t 11) (.c (Z8 ZY 12))),kU 13 (.pick (.t 9) (.c (Z5 ZT)) (.t 12)),kF 14 13,.ge (.t 15) (.t 14) ZS (kg (V.f 68) []),kS 16 14 ZS 0,.ge (.t 17) (.t 14) ZS (kg (V.f 71) [.t 15,.t 16]),kV 18 (.pick (.t 14) (.c (Z5 ZT)) (.t 17))] (.ite (.v 18) (kY [kC 2 (Z5 ZS)] .ret) .skip)) (kY [kd 3 (.new (V.t 74) #[.nilFunc]),kf (.st (.v 3) (.c (.func (.func (V.f 72)) #[] #[])))] (kY [kU 19 (.m (.mkf (V.f 73) [] [.v 3])),kB 4 19] (.seq (kY [kA 20 0,kV 21 (.m (.lens (.t 20))),kC 22 (Z8 ZY 0)] (.blk 0 (.loop (kY [kH 23 22 21] (.seq (.ite (.v 23) .skip (.exit 0)) (.seq (.blk 1 (kY [kA 24 22,kB 5 24] (.seq (.dr (kW 25 (.mv (.v 4)) (kW 26 (.mv (.v 0)) (kW 27 (.mv (.v 5)) (kW 28 (.m (.ixs (.t 26) (.t 27))) (ka 29 (.callv (.t 25) [.t 28]) (kW 30 (.not (.t 29)) (kW 31 (.mv (.t 30)) (.px (.t 32) (.some (.t 31,ZS)) (.mv (.v 5)) (.px (.t 33) (.some (.t 31,ZS)) (.cm .eql ZY (.t 32) (.c (Z8 ZY 0))) (.px (.t 34) (.some (.t 31,ZS)) (.mv (.t 33)) (.px (.t 35) (.some (.t 34,ZT)) (.ld (.v 3)) (.px (.t 36) (.some (.t 34,ZT)) (.mv (.v 0)) (.px (.t 37) (.some (.t 34,ZT)) (.mv (.v 5)) (.px (.t 38) (.some (.t 34,ZT)) (.m (.ixs (.t 36) (.t 37))) (.wcons (.t 39) (.some (.t 34,ZT)) (.callv (.t 35) [.t 38]) (.px (.t 40) (.some (.t 34,ZT)) (.not (.t 39)) (.px (.t 41) (.some (.t 31,ZS)) (.pick (.t 34) (.t 40) (.c (Z5 ZS))) (kX 42 (.pick (.t 31) (.c (Z5 ZT)) (.t 41)) .done))) .wnil)))))))))) .wnil)))))) (.ite (.v 42) (kY [kC 2 (Z5 ZS)] .ret) .skip)))) (.reg [ke 43 22,kB 22 43]))))))) (kY [kC 2 (Z5 ZT)] .ret)))))
def mK:List RV:=[.t 2]
abbrev sV (s:List UInt8):ZR:=.string ⟨s.toArray⟩
def sL (l:List (List UInt8)):List ZR:=l.map sV
def se (l:List (List UInt8)):(sL l).length=l.length:=by simp[sL]
def afI (l:List (List UInt8)) (i:Nat) (h:i<l.length):(sL l)[i]?=ZV (sV (l.getD i [])):=by simp[sL,h]
def kwL:List (List UInt8):=[[97,108,108],[97,110,100],[97,115,115,105,103,110],[98,121],[99,111,117,110,116],[100,101,99,108,97,114,101],[100,121,110,97,109,105,99],[101,110,102,111,114,99,101],[102,97,108,115,101],[102,111,114],[105,102],[109,101,109,98,101,114,115],[110,111,110,101],[110,111,116],[111,110],[111,114],[114,101,118,111,107,101],[115,116,97,116,105,99],[116,114,117,101],[117,115,101,114,115]]
def fp (c:UInt8):Bool:=ZQ ((97:Int)<=(c.toNat:Int))&&ZQ ((c.toNat:Int)<=122)
def jq (c:UInt8):Bool:=fp c||(ZQ ((48:Int)<=(c.toNat:Int))&&ZQ ((c.toNat:Int)<=57))||((c.toNat:Int)==95)
def cY (s:List UInt8):Bool:=ZQ (s.length≠0)&&ZQ (s.length<=12)&&!(ZQ (s∈kwL))&&s.all jq&&fp (s.getD 0 0)
def QY (P:Program) (k:FuncId):Prop:=∀H,an P k #[] H fun r H'=>r=Z6 (ZV ⟨H.size,0,ZU⟩) 20 20/\Bl H' H.size (sL kwL)/\af (fun _=>False) H H'/\H'.size=H.size+1
variable {P:Program} {V:aH} {k:FuncId} {l:List (List UInt8)} {s:List UInt8}
def afJ (hk:ak P k (QW V) QX 0):QY P k:=by
 intro H;refine ah hk (args:=[]) (by simp) ?_;unfold QW QX kB kC kc kY kZ;simp only[go_sem,zS,↓reduceIte,Za,Zb,Zc,reduceCtorEq];refine aG fun H1 b1 e1 z1 B1 K1=>?_;subst e1;simp only[go_sem,zS,↓reduceIte,Za,Zb,Zc,reduceCtorEq,ae];exact⟨B1,K1,z1⟩
def ahM {H:Hp} {b:Nat} (h:Bl H b (sL kwL)):aP H (Z6 (ZV ⟨b,0,ZU⟩) 20 20) (sL kwL):=by
 have:=aP.bl h 0 20 20 (by omega) (by rw[se];decide);rw[List.drop_zero,List.take_of_length_le (by rw[se];decide)]at this;exact this
def ET (l:List (List UInt8)) (s:List UInt8):Option Nat:=l.findIdx? (·==s)
def Nz (h:∀j,j<l.length->l.getD j []≠s):ET l s=ZU:=by
 unfold ET;rw[List.findIdx?_eq_none_iff];intro x hx;obtain⟨j,hj,rfl⟩:=ZC hx;have:=h j hj;simpa[hj]using this
def NC {i:Nat} (hi:i<l.length) (h1:l.getD i []=s) (h:∀j,j<i->l.getD j []≠s):ET l s=ZV i:=by
 unfold ET;rw[List.findIdx?_eq_some_iff_getElem];refine⟨hi,?_,fun j hj=>?_⟩
 ·simpa[hi]using h1
 ·have:=h j hj;simpa[show j<l.length by omega]using this
def EU (l:List (List UInt8)) (s:List UInt8):(ET l s).isSome=ZQ (s∈l):=by
 unfold ET;rw[List.findIdx?_isSome]
 by_cases h:s∈l
 ·rw[decide_eq_true h,List.any_eq_true];exact⟨s,h,by simp⟩
 ·rw[decide_eq_false h,List.any_eq_false];intro x hx;simp;intro e;exact h (e▸hx)
def EV (P:Program) (k:FuncId):Prop:=∀(l:List (List UInt8)) (s:List UInt8) (v:ZR) (H:Hp),aP H v (sL l)->l.length<=1000000->an P k #[v,sV s] H fun r H'=>r=Z8 ZY (match ET l s with|some i=>(i:Int)|none=>-1)/\H'=H
def aaP (hk:ak P k (GZ V) G0 2):EV P k:=by
 intro l s v H hv hl;refine ah hk (args:=[_,_]) (by simp) ?_;unfold GZ G0 kA kB kC kD ke kH kI kV kY;simp only[go_sem,zS,↓reduceIte,Za,Zb,Zc,reduceCtorEq,ae,hv.aq,hv.len,se];refine aT [9,5,16,4,8] rfl (fun n f H'=>∃i,i<=l.length/\n=l.length -i/\f 8=Z8 ZY i/\(∀j,j<i->l.getD j []≠s)/\H'=H) l.length
  ⟨0,by omega,by omega,rfl,fun j hj=>by omega,rfl⟩ ?_
 rintro n g H' ⟨i,hi,rfl,GH,hx,rfl⟩;simp only[go_sem,zS,↓reduceIte,Za,Zb,Zc,reduceCtorEq,ae]at GH;simp only[go_sem,zS,↓reduceIte,Za,Zb,Zc,reduceCtorEq,ae,GH];refine aN (fun hlt=>?_) (fun ki=>?_)
 ·have ou:i<l.length:=by omega
  obtain⟨b,o,c,rfl,-,hc⟩:=hv.cells (by intro e;have h:=congrArg List.length e;rw[se,List.length_nil]at h;omega);rw[se]at hc;have hci:=hc i ou;rw[afI _ _ ou]at hci;simp(disch:=omega)only[go_sem,zS,↓reduceIte,Za,Zb,Zc,reduceCtorEq,ae,GH,se,hci,al,Gn];refine And.intro (by omega) ?_;refine aN (fun h1=>?_) (fun h1=>?_)
  ·rw[NC ou h1.symm hx]
  ·simp(disch:=omega)only[go_sem,zS,↓reduceIte,Za,Zb,Zc,reduceCtorEq,ae,GH,ZN];refine⟨l.length -(i+1),by omega,i+1,by omega,rfl,by simp,fun j hj=>?_⟩
   by_cases e:j=i
   ·subst e;exact fun e=>h1 e.symm
   ·exact hx j (by omega)
 ·have ou:i=l.length:=by omega
  subst ou;rw[Nz hx]
def yO (P:Program) (k:FuncId):Prop:=∀(l:List (List UInt8)) (s:List UInt8) (v:ZR) (H:Hp),aP H v (sL l)->l.length<=1000000->an P k #[v,sV s] H fun r H'=>r=.bool (ZQ (s∈l))/\H'=H
def QZ (hk:ak P k (AP V) AQ 2) (hi:EV P (V.f 70)):yO P k:=by
 intro l s v H hv hl;refine ah hk (args:=[_,_]) (by simp) ?_;unfold AP AQ kA kB kC kU kc kg kY;simp only[go_sem,zS,↓reduceIte,Za,Zb,Zc,reduceCtorEq,ae];refine(hi _ _ _ _ hv hl).mono ?_;rintro r H' ⟨rfl,rfl⟩;have:=EU l s
 cases h:ET l s with
 |none=>rw[h]at this;simp only[go_sem,zS,↓reduceIte,Za,Zb,Zc,reduceCtorEq,ae];rw[<-this];rfl
 |some i=>rw[h]at this;simp only[go_sem,zS,↓reduceIte,Za,Zb,Zc,reduceCtorEq,ae];rw[<-this];simp
def AR (P:Program) (k:FuncId):Prop:=bS P k=ZT/\∀(c:UInt8) (H:Hp),an P k #[Z8 ZX c.toNat] H fun r H'=>r=.bool (fp c)/\H'=H
def wu (hk:ak P k (r8 V) sd 1):AR P k:=by
 refine⟨hk.body,fun c H=>?_⟩;refine ah hk (args:=[_]) (by simp) ?_;unfold r8 sd kA kB kF kC kJ kS kT kU kY
 by_cases h1:(97:Int)<=(c.toNat:Int)<;>by_cases h2:(c.toNat:Int)<=122
 all_goals
  simp only[go_sem,zS,↓reduceIte,Za,Zb,Zc,reduceCtorEq,ae,fp,h1,h2,ge_iff_le]
  try rfl
def LI (P:Program) (k m:FuncId):Prop:=bS P k=ZT/\∀(c:UInt8) (b:Nat) (H:Hp),Bl H b [.func (.func m) #[] #[]]->an P k #[Z8 ZX c.toNat,Z7 (ZV ⟨b,0,ZU⟩)] H fun r H'=>r=.bool (jq c)/\H'=H
def NF {m:FuncId} (hk:ak P k (wh V) wk 2) (hl:AR P m):LI P k m:=by
 refine⟨hk.body,fun c b H hB=>?_⟩;refine ah hk (args:=[_,_]) (by simp) ?_;unfold wh wk kA kB kF kC kS kT kU kc kY;simp only[go_sem,zS,↓reduceIte,Za,Zb,Zc,reduceCtorEq,ae,hB.cell];refine⟨hl.1,?_⟩;refine(hl.2 c H).mono ?_;rintro r H' ⟨rfl,rfl⟩
 by_cases h1:(48:Int)<=(c.toNat:Int)<;>by_cases h2:(c.toNat:Int)<=57<;>by_cases h3:((c.toNat:Int)==95)=ZT<;>by_cases h0:fp c=ZT
 all_goals
  try (have h0:fp c=ZS:=by simpa using h0)
  try (have h3:((c.toNat:Int)==95)=ZS:=by simpa using h3)
  simp only[go_sem,zS,↓reduceIte,Za,Zb,Zc,reduceCtorEq,ae,jq,h0,h1,h2,h3,ge_iff_le]
  try rfl
def sf (P:Program) (k:FuncId):Prop:=∀(s:List UInt8) (H:Hp),s.length<=1000000->an P k #[sV s] H fun r H'=>r=.bool (cY s)/\af (fun _=>False) H H'
def qn (i:Nat) (hi:i<s.length) (h:jq (s.getD i 0)=ZS\/(i=0/\fp (s.getD i 0)=ZS)):cY s=ZS:=by
 rcases h with h|⟨rfl,h⟩
 ·have:s.all jq=ZS:=by
   rw[List.all_eq_false];refine⟨s[i],by simp,?_⟩;simpa[ZP,hi]using h
  simp[cY,this]
 ·unfold cY;rw[h];simp
def EW (h0:s.length≠0) (h1:s.length<=12) (h2:s∉kwL) (h3:∀j,j<s.length->jq (s.getD j 0)=ZT) (h4:fp (s.getD 0 0)=ZT):cY s=ZT:=by
 have:s.all jq=ZT:=by
  rw[List.all_eq_true];intro x hx;obtain⟨j,hj,rfl⟩:=ZC hx;have:=h3 j hj;simpa[ZP,hj]using this
 unfold cY;rw[this,h4,decide_eq_true h0,decide_eq_true h1,decide_eq_false h2];rfl
def NG (hk:ak P k (mJ V) mK 1) (hkw:QY P (V.f 68)) (hc:yO P (V.f 71)) (hl:AR P (V.f 72)) (hin:LI P (V.f 73) (V.f 72)):sf P k:=by
 intro s H hs;refine ah hk (args:=[_]) (by simp) ?_;unfold mJ mK kA kB kF kC ke kH kS kT kU kV kW kX ka kd kf kg kY
 by_cases p0:s.length=0
 ·have e0:((s.length:Int)==0)=ZT:=by rw[p0];rfl
  have:cY s=ZS:=by simp[cY,p0]
  simp only[go_sem,zS,↓reduceIte,Za,Zb,Zc,reduceCtorEq,ae,jd,e0,this];exact af.refl _ _
 have e0:((s.length:Int)==0)=ZS:=by
  apply beq_eq_false_iff_ne.2;omega
 by_cases p1:(s.length:Int)>12
 ·have:cY s=ZS:=by
   have:¬s.length<=12:=by omega
   simp[cY,this]
  simp only[go_sem,zS,↓reduceIte,Za,Zb,Zc,reduceCtorEq,ae,jd,e0,p1,this];exact af.refl _ _
 simp only[go_sem,zS,↓reduceIte,Za,Zb,Zc,reduceCtorEq,ae,jd,e0,p1];refine(hkw H).mono ?_;rintro r H1 ⟨rfl,B1,K1,z1⟩;simp only[go_sem,zS,↓reduceIte,Za,Zb,Zc,reduceCtorEq,ae];refine(hc kwL s _ H1 (ahM B1) (by decide)).mono ?_;rintro r H2 ⟨rfl,rfl⟩
 by_cases p2:s∈kwL
 ·have:cY s=ZS:=by unfold cY;rw[decide_eq_true p2];simp
  rw[this];simp only[go_sem,zS,↓reduceIte,Za,Zb,Zc,reduceCtorEq,ae,p2];exact K1
 simp only[go_sem,zS,↓reduceIte,Za,Zb,Zc,reduceCtorEq,ae,p2];generalize hA:Array.push H2 _=H3;have KA:af (fun _=>False) H2 H3:=by rw[<-hA];exact(af.refl _ _).push _
 have BA:Bl H3 H2.size [.nilFunc]:=by rw[<-hA];exact Bl.dh _ _ _
 have k2:=K1.size;have BF:Bl (az H3 ⟨H2.size,0,ZU⟩ (.func (.func (V.f 72)) #[] #[])) H2.size [.func (.func (V.f 72)) #[] #[]]:=BA.az 0 (.func (.func (V.f 72)) #[] #[]);have KF:af (fun _=>False) H (az H3 ⟨H2.size,0,ZU⟩ (.func (.func (V.f 72)) #[] #[])):=(K1.trans KA).az _ (.inr k2);refine⟨BA.bw (by simp),?_⟩;have hsl:s.length<=12:=by omega
 generalize az H3 _ _=H4 at*;refine aT [23,5,42,2,22] rfl (fun n f H'=>∃i,i<=s.length/\n=s.length -i/\f 22=Z8 ZY i/\(∀j,j<i->jq (s.getD j 0)=ZT)/\(0<i->fp (s.getD 0 0)=ZT)/\H'=H4) s.length
  ⟨0,by omega,by omega,rfl,fun j hj=>by omega,fun h=>by omega,rfl⟩ ?_
 rintro n g H' ⟨i,hi,rfl,NH,hx,hx0,rfl⟩;simp only[go_sem,zS,↓reduceIte,Za,Zb,Zc,reduceCtorEq,ae]at NH;simp only[go_sem,zS,↓reduceIte,Za,Zb,Zc,reduceCtorEq,ae,NH];refine aN (fun hlt=>?_) (fun ki=>?_)
 ·have ou:i<s.length:=by omega
  have hg:=Qd s i ou;refine aZ (fun _=>False) ?_;simp(disch:=omega)only[go_sem,zS,↓reduceIte,Za,Zb,Zc,reduceCtorEq,ae,NH,jd,al,hg];refine⟨⟨by omega,by omega⟩,hin.1,?_⟩;refine(hin.2 _ _ _ BF).mono ?_;rintro r H5 ⟨rfl,rfl⟩
  by_cases c1:jq (s.getD i 0)=ZT
  ·by_cases c2:i=0
   ·subst c2;have z0:(((0:Nat):Int)==0)=ZT:=rfl;simp(disch:=omega)only[go_sem,zS,↓reduceIte,Za,Zb,Zc,reduceCtorEq,ae,c1,z0,jd,al,hg,BF.cell,NH];refine⟨af.refl _ _,by omega,hl.1,?_⟩;refine(hl.2 _ _).mono ?_;rintro r H5 ⟨rfl,rfl⟩
    by_cases c3:fp (s.getD 0 0)=ZT
    ·simp(disch:=omega)only[go_sem,zS,↓reduceIte,Za,Zb,Zc,reduceCtorEq,ae,c3,NH,ZN];refine⟨af.refl _ _,s.length -(0+1),by omega,1,by omega,rfl,rfl,fun j hj=>?_⟩;have e:j=0:=by omega
     subst e;exact c1
    ·have c3:fp (s.getD 0 0)=ZS:=by simpa using c3
     rw[qn 0 ou (.inr ⟨rfl,c3⟩)];simp only[go_sem,zS,↓reduceIte,Za,Zb,Zc,reduceCtorEq,ae,c3];exact⟨af.refl _ _,KF⟩
   ·have z0:((i:Int)==0)=ZS:=by apply beq_eq_false_iff_ne.2;omega
    simp(disch:=omega)only[go_sem,zS,↓reduceIte,Za,Zb,Zc,reduceCtorEq,ae,c1,z0,NH,ZN];refine⟨af.refl _ _,s.length -(i+1),by omega,i+1,by omega,rfl,by simp,fun j hj=>?_,fun _=>hx0 (by omega)⟩
    by_cases e:j=i
    ·subst e;exact c1
    ·exact hx j (by omega)
  ·have c1:jq (s.getD i 0)=ZS:=by simpa using c1
   rw[qn i ou (.inl c1)];simp only[go_sem,zS,↓reduceIte,Za,Zb,Zc,reduceCtorEq,ae,c1];exact⟨af.refl _ _,KF⟩
 ·have ou:i=s.length:=by omega
  subst ou;rw[EW p0 hsl p2 hx (hx0 (by omega))];exact⟨rfl,KF⟩
end Go.Mg

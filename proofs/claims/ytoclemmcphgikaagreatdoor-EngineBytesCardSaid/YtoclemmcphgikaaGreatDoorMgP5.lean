/- Lemmas of ours. No conditions. -/
import Derived.Test.YtoclemmcphgikaaGreatDoorMgSo
import Derived.Test.YtoclemmcphgikaaGreatDoorMgFB
open Bool renaming false→ZS,true→ZT
open Decidable renaming decide→ZQ
open Go renaming Value→ZR
open Go.IntKind renaming i64→ZY
open Go.Value renaming agg→Z0,bool→Z5,int→Z8,pointer→Z7,slice→Z6,tuple→ZZ
open Option renaming none→ZU,some→ZV
open Bool renaming eq_iff_iff→YU,false_or→Wt,not_false→ZB,not_true→ZE
open Go.IntWalk renaming i64_in→ZN
open Int renaming toNat_of_nonneg→X8
open List renaming drop_drop→XN,eq_nil_of_length_eq_zero→YG,flatMap_append→Yo,flatMap_cons→Zq,getD_eq_getElem?_getD→ZP,getElem?_eq_getElem→ZO,getElem?_replicate→Zj,getElem?_set_ne→Yw,getElem?_set_self→XX,getElem_mem→ZL,getElem_of_mem→ZC,length→Y8,length_append→ZK,length_filter_le→YS,length_map→YM,length_nil→Zx,length_take→Zr,mem_map→XR,range→ZF,replicate→ZM,take_length→ZI,take_of_length_le→Zy,take_succ_eq_append_getElem→Zw,take_take→XO
open Nat renaming add_zero→WB,le_refl→ZH,le_trans→Zp,min_eq_left→Yh,mul_le_mul→WQ,mul_one→Zs,zero_add→Zt
open Nat renaming reduceEqDiff→Za,reduceAdd→Zb,reduceMul→Zc
set_option maxRecDepth 100000
set_option linter.all false
namespace Go.Mg
open Go Go.RowKit
def AH (V:aH):S:=
 kY [kC 2 (kZ)] (kY [kA 3 0,kA 4 0,kL 5 4,kA 6 0,kL 7 6,kU 8 (.m (.slm 2 (.t 3) .none (.t 5) (.t 7))),kB 2 8] .ret)
def AI:List RV:=[.t 2]
def pd (V:aH):S:=
 kY [kC 2 (kZ)] (.seq (kY [kA 6 0,kL 7 6,kV 8 (.cm .lss ZY (.t 7) (.c (Z8 ZY 2)))] (.ite (.v 8) (kY [kA 9 0,kB 2 9] .ret) .skip)) (.seq (kY [kC 3 (Z8 ZY 1)] (.blk 0 (.loop (.seq (kY [kA 10 3,kA 11 0,kL 12 11,kV 13 (.cm .lss ZY (.t 10) (.t 12))] (.ite (.v 13) .skip (.exit 0))) (.seq (.blk 1 (kY [kA 16 0,kA 17 3,kI 18 2 16 17,kN 19 2 18,kA 20 0,kA 21 3,kU 22 (.ar .sub ZY (.t 21) (.c (Z8 ZY 1))),kI 23 2 20 22,kN 24 2 23,kV 25 (.m (.eqa ZS ZY 2 (.t 19) (.t 24)))] (.ite (.v 25) (kY [kA 26 0,kA 27 3,kU 28 (.m (.sls 2 (.t 26) (.some (.t 27)) .none)),kB 4 28] (.seq (kY [kC 5 (Z8 ZY 1)] (.blk 2 (.loop (.seq (kY [kA 29 5,kA 30 4,kL 31 30,kV 32 (.cm .lss ZY (.t 29) (.t 31))] (.ite (.v 32) .skip (.exit 2))) (.seq (.blk 3 (kY [kA 35 4,kA 36 5,kI 37 2 35 36,kN 38 2 37,kA 39 4,kA 40 5,kU 41 (.ar .sub ZY (.t 40) (.c (Z8 ZY 1))),kI 42 2 39 41,kN 43 2 42,kV 44 (.m (.eqa ZT ZY 2 (.t 38) (.t 43)))] (.ite (.v 44) (kY [kA 45 0,kA 46 3,kA 47 4,kA 48 5,kI 49 2 47 48,kN 50 2 49,kI 51 2 45 46,kf (.stn 2 (.t 51) (.t 50))] (.reg [kA 52 3,kU 53 (.ar .add ZY (.t 52) (.c (Z8 ZY 1))),kB 3 53])) .skip))) (.reg [kA 33 5,kU 34 (.ar .add ZY (.t 33) (.c (Z8 ZY 1))),kB 5 34])))))) (kY [kA 54 0,kA 55 3,kU 56 (.m (.sls 2 (.t 54) (.some (.t 55)) .none)),kf (.clr #[Z8 ZY 0,Z8 ZY 0] (.t 56))] (kY [kA 57 0,kA 58 3,kU 59 (.m (.sls 2 (.t 57) .none (.some (.t 58)))),kB 2 59] .ret)))) .skip))) (.reg [kA 14 3,kU 15 (.ar .add ZY (.t 14) (.c (Z8 ZY 1))),kB 3 15])))))) (kY [kA 60 0,kB 2 60] .ret)))
def pf:List RV:=[.t 2]
def EL (P:Program) (k:FuncId):Prop:=∀(l:List NP) (v:ZR) (H:Hp),bk nE 2 H v l->an P k #[v] H fun r H'=>bk nE 2 H' r l/\(∀q,aV r q->aV v q)/\H'=H
variable {P:Program} {V:aH} {k:FuncId} {L xs:List ZR} {o:Nat}
def QH (hk:ak P k (AH V) AI 1):EL P k:=by
 intro l v H hv;refine ah hk (args:=[_]) (by simp) ?_;unfold AH AI kA kB kC kL kU kY kZ;obtain⟨a,c,rfl,hc⟩:=hv.mk;have ea:(if l.length=0 then a else Option.map (fun x=>x) a)=a:=by cases a<;>simp
 simp only[go_sem,zS,↓reduceIte,Za,Zb,Zc,reduceCtorEq,ae,ea];refine⟨⟨by omega,by omega,by omega,by omega⟩,?_,fun q hq=>?_⟩
 ·rcases hv with⟨_,_,h,rfl⟩|⟨b,o,c',hl,h,h0,C,T,z,h1,h2,h3⟩
  ·exact bk.nil _ _ _
  ·cases h
   exact .inr ⟨b,o,_,hl,rfl,ZH _,C,T,z,h1,h2,h3⟩
 ·cases a with
  |none=>exact hq.elim
  |some p=>exact hq
def QI (a b:NP):([(a.1:Int),(a.2:Int)]==[(b.1:Int),(b.2:Int)])=ZQ (a=b):=by
 obtain⟨a1,a2⟩:=a;obtain⟨b1,b2⟩:=b;rw[YU];simp;omega
def QJ {t:Nat} (h:t<=o) (ho:o<=L.length):(rE L o xs).take t=L.take t:=by
 unfold rE;rw[List.append_assoc,List.take_append_of_le_length (by rw[Zr];omega),XO,Yh h]
def Nt (ho:o<=L.length):(rE L o xs).take (o+xs.length)=L.take o++xs:=by
 unfold rE;exact List.take_left' (by rw[ZK,Zr];omega)
def QK {d:Nat} (h:o+xs.length<=d) (ho:o<=L.length):(rE L o xs).drop d=L.drop d:=by
 unfold rE;have e:(L.take o++xs).length=o+xs.length:=by rw[ZK,Zr];omega
 rw[show d=(o+xs.length)+(d -(o+xs.length)) by omega,<-XN,List.drop_left' e,XN]
def LC {H:Hp} {b:Nat} (h:Bl H b L) {j:Nat} {p:NP} (hL:j*2+2<=L.length) (hp:(L.drop (j*2)).take 2=nE p):aQ H ⟨b,j*2,ZU⟩ 2=ZV #[Z8 ZY (p.1:Int),Z8 ZY (p.2:Int)]:=by
 rw[h.aQ (by omega),hp];rfl
def EM (P:Program) (k:FuncId):Prop:=∀(l:List NP) (v:ZR) (H:Hp),cr nE 2 H v l->l.length<1000000->an P k #[v] H fun r H'=>bk nE 2 H' r (uq l l.length)/\(∀q,aV r q->ay v q)/\af (ay v) H H'
def EN (hk:ak P k (pd V) pf 1):EM P k:=by
 intro l v H hv hn;refine ah hk (args:=[_]) (by simp) ?_;unfold pd pf kA kB kC kI kL kN kU kV kf kY kZ;have hs:=hv.sl
 by_cases h0:l=[]
 ·obtain⟨a,c,rfl,hc⟩:=hs.mk;subst h0;have e0:ZQ ((((0:Nat):Int))<2)=ZT:=rfl;simp only[go_sem,zS,↓reduceIte,Za,Zb,Zc,reduceCtorEq,ae,Zx,e0];exact⟨hv.sl,fun q hq=>hv.aV hq,af.refl _ _⟩
 obtain⟨b,c,L,rfl,h1,h2,hB,h3⟩:=hv.some h0;have h0':0<l.length:=List.length_pos_iff.2 h0;have aj:fL l 0=ZT:=rfl;have hLl:l.length*2<=L.length:=by omega
 have elL:∀j,j<l.length->(L.drop (j*2)).take 2=nE (bT l j):=fun j hj=>by
  have:=Es mu l j l[j] (ZO hj);rw[<-h3,List.drop_take,XO,Yh (by omega)]at this;rw[this,dZ hj]
 simp only[go_sem,zS,↓reduceIte,Za,Zb,Zc,reduceCtorEq,ae];refine aN (fun hlt=>?_) (fun ki=>?_)
 ·refine⟨?_,fun q hq=>hv.aV hq,af.refl _ _⟩;rw[uH _ (fun i hi=>by rw[show i=0 by omega];exact aj) (ZH _),ZI];exact hs
 ·refine aT [3,13,25,4,5,32,44,2] rfl (fun n f H'=>∃i:Nat,1<=i/\i<=l.length/\n=l.length -i/\f 3=Z8 ZY i/\H'=H/\∀j<i,fL l j=ZT) (l.length -1) ?_ ?_
  ·exact⟨1,by omega,by omega,rfl,by simp only[go_sem,zS,↓reduceIte,Za,Zb,Zc,reduceCtorEq,ae];rfl,rfl,fun j hj=>by rw[show j=0 by omega];exact aj⟩
  ·rintro n f H1 ⟨i,g1,g2,rfl,hf,rfl,QL⟩;simp only[go_sem,zS,↓reduceIte,Za,Zb,Zc,reduceCtorEq,ae]at hf;simp only[go_sem,zS,↓reduceIte,Za,Zb,Zc,reduceCtorEq,ae,hf];refine aN (fun hlt=>?_) (fun ki=>?_)
   ·have hi:i<l.length:=by omega
    have hsub:IntKind.i64.wrap ((i:Int) -1)=((i -1:Nat):Int):=by rw[ZN _ (by omega)];omega
    have r1:=LC hB (j:=i) (by omega) (elL i hi);have r2:=LC hB (j:=i -1) (by omega) (elL (i -1) (by omega));simp only[go_sem,zS,↓reduceIte,Za,Zb,Zc,reduceCtorEq,ae,hsub,al,aC,r1,r2];refine⟨by omega,by omega,⟨by simp[ju],by simp[ju]⟩,?_⟩;rw[QI];have hkb:ZQ (bT l i=bT l (i -1))=!fL l i:=by
     unfold fL;have:ZQ (i=0)=ZS:=by simp;omega
     rw[this,Wt];simp
    rw[hkb]
    cases hki:fL l i with
    |true=>
     simp(disch:=omega)only[go_sem,zS,↓reduceIte,Za,Zb,Zc,reduceCtorEq,ae,ZE,ZN];exact⟨l.length -(i+1),by omega,i+1,by omega,by omega,rfl,by rfl,fun j hj=>by
      by_cases e:j=i
      ·subst e;exact hki
      ·exact QL j (by omega)⟩
    |false=>
     simp only[go_sem,zS,↓reduceIte,Za,Zb,Zc,reduceCtorEq,ae,ZB];refine⟨by omega,?_⟩;have hci:¬c=i:=by omega
     rw[if_neg hci];refine aT [32,44,3,5] rfl (fun n f H'=>∃(m:Nat) (L2:List ZR),i+1<=m/\m<=l.length/\n=l.length -m/\f 5=Z8 ZY ((m -i:Nat):Int)/\f 3=Z8 ZY ((uq l m).length:Int)/\(uq l m).length+1<=m∧
       Bl H' b L2/\L2.length=L.length/\L2.take ((uq l m).length*2)=(uq l m).flatMap nE/\(∀j,m<=j+1->j<l.length->(L2.drop (j*2)).take 2=nE (bT l j))/\af (fun q=>q=b) H1 H') (l.length -(i+1)) ?_ ?_
     ·have ed:uq l (i+1)=l.take i:=by rw[qd,if_neg (by rw[hki];simp),uH i QL (by omega)]
      have el:(uq l (i+1)).length=i:=by rw[ed,Zr];omega
      refine⟨i+1,L,by omega,by omega,rfl,?_,?_,by omega,hB,rfl,?_,fun j _ hj=>elL j hj,af.refl _ _⟩
      ·simp only[go_sem,zS,↓reduceIte,Za,Zb,Zc,reduceCtorEq,ae,Nat.add_sub_cancel_left];rfl
      ·simp only[go_sem,zS,↓reduceIte,Za,Zb,Zc,reduceCtorEq,ae,el,hf]
      ·rw[el,ed,<-zR mu l i (by omega),<-h3,XO,Yh (by omega)]
     ·rintro n f2 H2 ⟨m,L2,q1,q2,rfl,q3,q4,q5,q6,q7,q8,q9,q10⟩;generalize hkd:(uq l m).length=kd at q4 q5 q8;simp only[go_sem,zS,↓reduceIte,Za,Zb,Zc,reduceCtorEq,ae]at q3 q4;simp only[go_sem,zS,↓reduceIte,Za,Zb,Zc,reduceCtorEq,ae,q3,q4,hf];refine aN (fun hlt=>?_) (fun ki=>?_)
      ·have hm:m<l.length:=by omega
       have hsub:IntKind.i64.wrap (((m -i:Nat):Int) -1)=((m -i -1:Nat):Int):=by rw[ZN _ (by omega)];omega
       have r1:=LC q6 (j:=m) (by omega) (q9 m (by omega) hm);have r2:=LC q6 (j:=m -1) (by omega) (q9 (m -1) (by omega) (by omega));have e1:i*2+(m -i)*2=m*2:=by omega
       have e2:i*2+(m -i -1)*2=(m -1)*2:=by omega
       simp only[go_sem,zS,↓reduceIte,Za,Zb,Zc,reduceCtorEq,ae,hsub,al,aC,Zt,e1,e2,r1,r2];refine⟨by omega,by omega,⟨by simp[ju],by simp[ju]⟩,?_⟩;have hne:(!decide (bT l m=bT l (m -1)))=fL l m:=by
        unfold fL;have:ZQ (m=0)=ZS:=by simp;omega
        rw[this,Wt];simp
       rw[QI,hne]
       cases hkm:fL l m with
       |true=>
        simp only[go_sem,zS,↓reduceIte,Za,Zb,Zc,reduceCtorEq,ae,r1,k9,gw];have hst:=q6.bG (o:=kd*2) (n:=2) (by omega);have B3:=q6.aB (kd*2) (nE (bT l m));have K3:af (fun q=>q=b) H2 (aB H2 ⟨b,kd*2,ZU⟩ (nE (bT l m))):=(af.refl _ _).aB _ (.inl rfl);have eS:uq l (m+1)=uq l m++[bT l m]:=by rw[qd,if_pos hkm]
        have eL:(uq l (m+1)).length=kd+1:=by rw[eS,ZK,hkd];rfl
        refine⟨by omega,by omega,⟨hst,fun x hx=>by simp at hx;rcases hx with rfl|rfl<;>rfl⟩,l.length -(m+1),by omega,m+1,_,by omega,by omega,rfl,?_,?_,by omega,B3,?_,?_,?_,q10.trans K3⟩
        ·rw[ZN _ (by omega),show m+1 -i=m -i+1 by omega];rfl
        ·rw[ZN _ (by omega),eL];rfl
        ·rw[nu (by show kd*2+2<=_;omega),q7]
        ·rw[eL,show(kd+1)*2=kd*2+(nE (bT l m)).length by show _=_+2;omega,Nt (by omega),q8,eS,Yo];simp
        ·intro j hj1 UD;rw[QK (by show kd*2+2<=_;omega) (by omega)];exact q9 j (by omega) UD
       |false=>
        have eS:uq l (m+1)=uq l m:=by rw[qd,if_neg (by rw[hkm];simp)]
        simp(disch:=omega)only[go_sem,zS,↓reduceIte,Za,Zb,Zc,reduceCtorEq,ae,ZN,q3,q4];refine⟨l.length -(m+1),by omega,m+1,L2,by omega,by omega,rfl,?_,by rw[eS,hkd],by rw[eS];omega,q6,q7,by rw[eS,hkd];exact q8,fun j hj1 UD=>q9 j (by omega) UD,q10⟩;rw[show m+1 -i=m -i+1 by omega];rfl
      ·have hm:m=l.length:=by omega
       subst hm;have Pc:¬c=kd:=by omega
       simp only[go_sem,zS,↓reduceIte,Za,Zb,Zc,reduceCtorEq,ae,if_neg Pc,al,Zt,ite_self];have hz:(rep #[Value.int ZY 0,Value.int ZY 0] ((l.length -kd)*2)).size=(l.length -kd)*2:=by simp[rep]
       have hza:bM (rep #[Value.int ZY 0,Value.int ZY 0] ((l.length -kd)*2)):=by
        intro x hx;simp only[rep,Array.toList_map,XR]at hx;obtain⟨t,_,rfl⟩:=hx;have:t % 2=0\/t % 2=1:=by omega
        show(#[Value.int ZY 0,Value.int ZY 0][t % 2]!).oneCell'=ZT
        rcases this with e|e<;>rw[e]<;>rfl
       have ho:=q6.lK (kd*2) 0 _ hza (by rw[hz];omega);have B3:=q6.put (kd*2) 0 (rep #[Value.int ZY 0,Value.int ZY 0] ((l.length -kd)*2));have K3:af (fun q=>q=b) H2 (kq H2 (ZV ⟨b,kd*2,ZU⟩) 0 (rep #[Value.int ZY 0,Value.int ZY 0] ((l.length -kd)*2))):=(af.refl _ _).put rfl _ _ (.inl rfl);refine⟨by omega,ho,by omega,?_,fun q hq=>?_,?_⟩
       ·have:=bk.bl (k:=2) (enc:=nE) B3 (l:=uq l l.length) (c:=c) ?_ ?_ ?_
        ·rw[hkd]at this;exact this
        ·rw[hkd,WB,QJ (ZH _) (by omega)];exact q8
        ·rw[hkd,WB,nu (by rw[Array.length_toList,hz];omega)];omega
        ·omega
       ·exact hq.1
       ·exact q10.trans K3
   ·have:i=l.length:=by omega
    subst this;refine⟨?_,fun q hq=>hv.aV hq,af.refl _ _⟩;rw[uH _ QL (ZH _),ZI];exact hs
end Go.Mg
namespace Go.Mg
open Go Go.RowKit
def GM (V:aH):S:=
 kY [kC 4 (Z8 ZY 0)] (.seq (kY [kA 6 0,kV 7 (.m (.lenl (.t 6))),kC 8 (Z8 ZY 0)] (.blk 0 (.loop (kY [kH 9 8 7] (.seq (.ite (.v 9) .skip (.exit 0)) (.seq (.blk 1 (kY [kA 10 8,kB 5 10] (kY [kA 11 1,kA 12 0,kA 13 5,kI 14 1 12 13,kD 15 14,kV 16 (.cm .eql ZY (.t 11) (.t 15))] (.ite (.v 16) (kY [kA 17 5,kB 4 17] .ret) .skip)))) (.reg [ke 18 8,kB 8 18]))))))) (kY [kC 4 (Z8 ZY (-1))] .ret))
def GN:List RV:=[.t 4]
def AJ (V:aH):S:=
 kY [kC 2 (Z5 ZS)] (kY [kA 9 0,kU 10 (.nil (.t 9)),kU 11 (.fa 0 (.t 10)),kD 12 11,kc 13 (.rJ (V.t 26) 1 8 #[Z8 ZY 0] (.t 12) (.t 12)),kB 3 13] (.seq (kY [kA 14 0,kU 15 (.nil (.t 14)),kU 16 (.fa 1 (.t 15)),kV 17 (.ld (.t 16)),kO 18 17,kC 19 (Z8 ZY 0)] (.blk 0 (.loop (kY [kH 20 19 18] (.seq (.ite (.v 20) .skip (.exit 0)) (.seq (.blk 1 (kY [kK 21 2 17 19,kN 22 2 21,kd 5 (.new (V.t 194) #[Z8 ZY 0,Z8 ZY 0]),kf (.stn 2 (.v 5) (.t 22))] (.reg [kA 23 3,kP 24 2 1 5 1,kD 25 24,kI 26 1 23 25,kD 27 26,kU 28 (.ar .add ZY (.t 27) (.c (Z8 ZY 1))),kI 29 1 23 25,kf (.st (.t 29) (.t 28))]))) (.reg [ke 30 19,kB 19 30]))))))) (.seq (.blk 2 (.loop (.seq (kY [kA 31 0,kU 32 (.nil (.t 31)),kU 33 (.fa 4 (.t 32)),kD 34 33,kL 35 34,kA 36 0,kU 37 (.nil (.t 36)),kU 38 (.fa 0 (.t 37)),kD 39 38,kV 40 (.cm .lss ZY (.t 35) (.t 39))] (.ite (.v 40) .skip (.exit 2))) (.blk 3 (kY [kA 41 3,kc 42 (kg (V.f 157) [.t 41,.c (Z8 ZY 0)]),kB 6 42] (.seq (kY [kA 43 6,kV 44 (.cm .lss ZY (.t 43) (.c (Z8 ZY 0)))] (.ite (.v 44) (kY [kC 2 (Z5 ZS)] .ret) .skip)) (kY [kA 45 3,kA 46 6,kI 47 1 45 46,kf (.st (.t 47) (.c (Z8 ZY (-1))))] (kY [kA 48 0,kA 49 0,kU 50 (.nil (.t 49)),kU 51 (.fa 4 (.t 50)),kD 52 51,kA 53 6,kc 54 (.aX (V.t 26) 1 1 [.t 53]),kc 55 (.app ZS (V.t 26) 1 8 #[Z8 ZY 0] (.t 52) (.t 54)),kU 56 (.nil (.t 48)),kU 57 (.fa 4 (.t 56)),kf (.st (.t 57) (.t 55))] (kY [kA 58 0,kU 59 (.nil (.t 58)),kU 60 (.fa 1 (.t 59)),kV 61 (.ld (.t 60)),kO 62 61,kC 63 (Z8 ZY 0)] (.blk 4 (.loop (kY [kH 64 63 62] (.seq (.ite (.v 64) .skip (.exit 4)) (.seq (.blk 5 (kY [kK 65 2 61 63,kN 66 2 65,kd 8 (.new (V.t 194) #[Z8 ZY 0,Z8 ZY 0]),kf (.stn 2 (.v 8) (.t 66))] (kY [kP 67 2 1 8 0,kD 68 67,kA 69 6,kV 70 (.cm .eql ZY (.t 68) (.t 69))] (.ite (.v 70) (.reg [kA 71 3,kP 72 2 1 8 1,kD 73 72,kI 74 1 71 73,kD 75 74,kU 76 (.ar .sub ZY (.t 75) (.c (Z8 ZY 1))),kI 77 1 71 73,kf (.st (.t 77) (.t 76))]) .skip)))) (.reg [ke 78 63,kB 63 78]))))))))))))))) (kY [kC 2 (Z5 ZT)] .ret))))
def AK:List RV:=[.t 2]
def yL (P:Program) (k:FuncId):Prop:=∀(l:List Int) (v:ZR) (x:Int) (H:Hp),aP H v (iL l)->l.length<=1000000→
 an P k #[v,Z8 ZY x] H fun r H'=>((r=Z8 ZY (-1)/\x∉l)\/∃i:Nat,r=Z8 ZY (i:Int)/\i<l.length/\l.getD i 0=x/\∀j<i,l.getD j 0≠x)/\H'=H
variable {P:Program} {V:aH} {k:FuncId} {n i b:Nat} {f:Nat->Int} {R:Nat->Nat->Bool} {s:List Nat}
def aaM (hk:ak P k (GM V) GN 2):yL P k:=by
 intro l v x H hv hl1;refine ah hk (args:=[_,_]) (by simp) ?_;unfold GM GN kA kB kC kD ke kH kI kV kY;simp only[go_sem,zS,↓reduceIte,Za,Zb,Zc,reduceCtorEq,ae,hv.aq,hv.len,aA];refine aT [9,5,16,4,8] rfl (fun n f H'=>∃i:Nat,i<=l.length/\n=l.length -i/\f 8=Z8 ZY i/\(∀a<i,l.getD a 0≠x)/\H'=H) l.length
  ⟨0,by omega,by omega,by simp only[go_sem,zS,↓reduceIte,Za,Zb,Zc,reduceCtorEq,ae];rfl,fun a ha=>by omega,rfl⟩ ?_
 rintro n f H1 ⟨i,hi,rfl,hf,hx,rfl⟩;simp only[go_sem,zS,↓reduceIte,Za,Zb,Zc,reduceCtorEq,ae]at hf;simp only[go_sem,zS,↓reduceIte,Za,Zb,Zc,reduceCtorEq,hf];refine aN (fun hlt=>?_) (fun ki=>?_)
 ·have hlt:i<l.length:=by omega
  obtain⟨b,o,c,rfl,hlm,hc⟩:=hv.cells (by intro e;have h:=congrArg Y8 e;rw[aA,Zx]at h;omega);rw[aA]at hc hlm;have hci:=hc i hlt;rw[dM _ _ hlt]at hci
  by_cases h:x=l.getD i 0
  ·have e:(x==l.getD i 0)=ZT:=by simpa using h
   simp only[go_sem,zS,↓reduceIte,Za,Zb,Zc,reduceCtorEq,ae,hf,aA,al,Zs,hci,e];exact⟨by omega,.inr ⟨i,rfl,hlt,h.symm,hx⟩⟩
  ·have e:(x==l.getD i 0)=ZS:=by simpa using h
   simp(disch:=omega)only[go_sem,zS,↓reduceIte,Za,Zb,Zc,reduceCtorEq,ae,hf,aA,al,Zs,hci,e,ZN];refine⟨by omega,l.length -(i+1),by omega,i+1,by omega,rfl,by simp,fun a ha=>?_⟩
   by_cases e2:a=i
   ·subst e2;exact fun h'=>h h'.symm
   ·exact hx a (by omega)
 ·refine .inl fun h=>?_;obtain⟨a,ha,e⟩:=ZC h;exact hx a (by omega) (by rw[ZP,ZO ha];exact e)
def uO (n:Nat) (f:Nat->Int):List Int:=(ZF n).map f
def uP (n:Nat) (f:Nat->Int):(uO n f).length=n:=by simp[uO]
def AL (f:Nat->Int) (h:i<n) (d:Int):(uO n f).getD i d=f i:=by simp[uO,ZP,h]
def ik {g:Nat->Int} (h:∀i<n,f i=g i):uO n f=uO n g:=List.map_congr_left fun i hi=>h i (List.mem_range.1 hi)
def AM {j:Nat} {x:Int} (h:j<n):(uO n f).set j x=uO n fun i=>if i=j then x else f i:=by
 refine List.ext_getElem (by simp[uO]) fun i h1 h2=>?_;rw[List.getElem_set];simp only[uO,List.getElem_map,List.getElem_range]
 by_cases e:j=i
 ·subst e;simp
 ·have:¬i=j:=fun h=>e h.symm;simp[e,this]
def aaN (n:Nat) (x:Int):ZM n x=uO n fun _=>x:=by simp[uO,List.map_const']
def EO {H:Hp} (h:Bl H b (iL (uO n f))) (hi:i<n):cell H ⟨b,i,ZU⟩=ZV (Z8 ZY (f i)):=by
 rw[h.cell,dM _ _ (by rw[uP];exact hi),AL _ hi]
def yM (n:Nat) (R:Nat->Nat->Bool):(dP n R).length<=n*n:=by
 unfold dP;have:∀m,((ZF m).flatMap (vE n R)).length<=m*n:=fun m=>by
  induction m with
  |zero=>simp
  |succ m ih=>
   rw[List.range_succ,Yo,ZK,Nat.succ_mul];have:((List.flatMap (vE n R) [m])).length<=n:=by
    simp only[Zq,List.flatMap_nil,List.append_nil,vE,YM];have:=YS (R m) (ZF n);simpa using this
   omega
 exact this n
def jJ (L:List NP) (i b:Nat) (q:Nat->Bool):Nat:=(L.take i).countP fun p=>ZQ (p.2=b)&&q p.1
def rU {L:List NP} (h:i<L.length) (b:Nat) (q:Nat->Bool):jJ L (i+1) b q=jJ L i b q+if(ZQ ((bT L i).2=b)&&q (bT L i).1)=ZT then 1 else 0:=by
 unfold jJ;rw[Zw h,List.countP_append,List.countP_cons,List.countP_nil,dZ h,Zt]
def LD (L:List NP) (i b:Nat) (q:Nat->Bool):jJ L i b q<=L.length:=by
 unfold jJ;refine Zp List.countP_le_length ?_;rw[Zr];omega
def EP (q:Nat->Bool) (hb:b<n):jJ (dP n R) (dP n R).length b q=cn n fun a=>R a b&&q a:=by
 unfold jJ;rw[ZI];exact Ez n R b q hb
def AN (n:Nat) (R:Nat->Nat->Bool) (s:List Nat) (b:Nat):Int:=if b∈s then-1 else(cn n fun a=>R a b&&!decide (a∈s):Nat)
def vZ:AN n R s b=0↔F1 n R s b=ZT:=by
 unfold AN;rw[pZ]
 by_cases h:b∈s
 ·simp[h]
 ·rw[if_neg h]
  constructor
  ·intro e;have e:cn n (fun a=>R a b&&!decide (a∈s))=0:=by omega
   refine⟨h,fun a ha hr=>?_⟩;have:=oQ.1 e a ha;rw[hr,Bool.true_and]at this;simpa using this
  ·rintro⟨_,h2⟩;have:cn n (fun a=>R a b&&!decide (a∈s))=0:=oQ.2 fun a ha=>by
    cases hr:R a b with
    |false=>rfl
    |true=>simp[h2 a ha hr]
   omega
def QM (hR:yG n R) (hs:qa n R s) {k:Nat} (hk:Ev n R s=ZV k) (b:Nat) (hb:b<n):
  (if b=k then-1 else AN n R s b) -(cn n fun a=>R a b&&ZQ (a=k):Nat)=AN n R (s++[k]) b:=by
 obtain⟨h1,h2,_⟩:=mr hk;obtain⟨h3,h4⟩:=pZ.1 h2;have e1:cn n (fun a=>R a b&&ZQ (a=k))=if R k b=ZT then 1 else 0:=by
  cases hr:R k b with
  |false=>
   rw[if_neg (by simp)];refine oQ.2 fun a ha=>?_
   by_cases e:a=k
   ·subst e;simp[hr]
   ·simp[e]
  |true=>
   rw[if_pos rfl,bY (q:=fun a=>ZQ (a=k)) fun a ha=>by
    by_cases e:a=k
    ·subst e;simp[hr]
    ·simp[e]]
   exact Ge n k h1
 rw[e1];unfold AN
 by_cases e:b=k
 ·subst e;have:R b b=ZS:=by
   cases hr:R b b with
   |false=>rfl
   |true=>exact absurd (h4 b hb hr) h3
  simp[this]
 ·rw[if_neg e]
  by_cases hbs:b∈s
  ·have:R k b=ZS:=by
    cases hr:R k b with
    |false=>rfl
    |true=>exact absurd (hs.mem hR hbs hr) h3
   simp[this,hbs]
  ·have hm:b∉s++[k]:=by simp[hbs,e]
   rw[if_neg hbs,if_neg hm];have e2:cn n (fun a=>R a b&&!decide (a∈s++[k]))=cn n fun a=>(R a b&&!decide (a∈s))&&!decide (a=k):=bY fun a ha=>by
    by_cases e:a=k
    ·subst e;simp
    ·simp[e]
   rw[e2]
   cases hr:R k b with
   |false=>
    rw[bY (p:=fun a=>(R a b&&!decide (a∈s))&&!decide (a=k)) (q:=fun a=>R a b&&!decide (a∈s)) fun a ha=>by
     by_cases e:a=k
     ·subst e;simp[hr]
     ·simp[e]]
    simp
   |true=>
    have:=lg (n:=n) (p:=fun a=>R a b&&!decide (a∈s)) h1 (by simp[hr,h3]);simp only[if_true];omega
def iN (s:List Nat):List ZR:=iL (s.map fun n:Nat=>(n:Int))
def bH (s:List Nat):(iN s).length=s.length:=by simp[iN,iL]
def AO (s t:List Nat):iN (s++t)=iN s++iN t:=by simp[iN,iL]
def mH (n:Nat) (f:Nat->Int):(iL (uO n f)).length=n:=by rw[aA,uP]
def yN (P:Program) (k:FuncId):Prop:=∀(n:Nat) (R:Nat->Nat->Bool) (b:Nat) (pv av bv:ZR) (H:Hp),n<=256->yG n R->Bl H b [Z8 ZY (n:Int),pv,av,bv,Z6 ZU 0 0]->bk nE 2 H pv (dP n R)->(∀q,aV pv q->q≠b)→
 an P k #[Z7 (ZV ⟨b,0,ZU⟩)] H fun r H'=>r=.bool (ZQ ((DO n R).length=n))/\(∃sv,Bl H' b [Z8 ZY (n:Int),pv,av,bv,sv]/\br H' sv (iN (DO n R))/\∀q,ay sv q->H.size<=q)/\af (fun q=>q=b) H H'
def QN (hk:ak P k (AJ V) AK 1) (hi:yL P (V.f 157)):yN P k:=by
 intro n R b pv av bv H hn hR hB hp oz;refine ah hk (args:=[_]) (by simp) ?_;unfold AJ AK kA kB kC kD ke kH kI kK kL kN kO kP kU kV kc kd kf kg kY;have ahH:=hB.lt;have hgl:(dP n R).length<=65536:=Zp (yM n R) (WQ hn hn);have hc0:cell H ⟨b,0,ZU⟩=ZV (Z8 ZY (n:Int)):=by rw[hB.cell];rfl
 simp only[go_sem,zS,↓reduceIte,Za,Zb,Zc,reduceCtorEq,hc0,al];refine⟨⟨by omega,by omega,by omega,by unfold maxLen;omega⟩,?_⟩;refine aG fun H1 bl e1 z1 B1 K1=>?_;rw[dx,rN,aaN]at B1;have s1:=K1.size;have hB1:=K1.bl hB id;have hc1:cell H1 ⟨b,1,ZU⟩=ZV pv:=by rw[hB1.cell];rfl
 simp only[go_sem,zS,↓reduceIte,Za,Zb,Zc,reduceCtorEq,ae,hc1,hp.aq,hp.cP,hp.len];generalize hL:dP n R=L at hp hgl⊢;have hpairs:∀i,i<L.length->(bT L i).1<n/\(bT L i).2<n/\R (bT L i).1 (bT L i).2=ZT:=fun i hi=>by
  have:bT L i∈dP n R:=by rw[hL,dZ hi];exact ZL _
  exact jF.1 this
 refine aT [20,5,19] rfl (fun m f H'=>∃i:Nat,i<=L.length/\m=L.length -i/\f 19=Z8 ZY i/\Bl H' bl (iL (uO n fun c=>(jJ L i c fun _=>ZT:Nat)))/\af (fun q=>q=bl) H1 H') L.length ?_ ?_
 ·exact⟨0,by omega,by omega,by simp only[go_sem,zS,↓reduceIte,Za,Zb,Zc,reduceCtorEq,ae];rfl,B1,af.refl _ _⟩
 rintro m f H2 ⟨i,UE,rfl,hf,B2,K2⟩;have s2:=K2.size;simp only[go_sem,zS,↓reduceIte,Za,Zb,Zc,reduceCtorEq,ae]at hf;simp only[go_sem,zS,↓reduceIte,Za,Zb,Zc,reduceCtorEq,hf];refine aN (fun hlt=>?_) (fun ki=>?_)
 ·have hlt:i<L.length:=by omega
  have hp2:=(hp.ai K1 (by simp)).ai K2 (fun q hq e=>by have:=hp.bo hq;omega);obtain⟨pb,po,pc,rfl,hpq,hld⟩:=hp2.elem mu hlt;obtain⟨q1,q2,q3⟩:=hpairs i hlt;rw[<-dZ hlt]at hld;have dm:aQ H2 ⟨pb,po+i*2,ZU⟩ 2=ZV #[Z8 ZY ((bT L i).1:Int),Z8 ZY ((bT L i).2:Int)]:=hld;simp only[go_sem,zS,↓reduceIte,Za,Zb,Zc,reduceCtorEq,zF,al,aC,dm];refine⟨by omega,?_⟩;refine ax fun H3 b3 e3 z3 B3 K3=>?_;have s3:=K3.size;have hst:=B3.bG (o:=0) (n:=2) (by simp);have B4:=B3.aB 0 [Z8 ZY ((bT L i).1:Int),Z8 ZY ((bT L i).2:Int)];have K4:af (fun q=>q=b3) H3 (aB H3 ⟨b3,0,ZU⟩ [Z8 ZY ((bT L i).1:Int),Z8 ZY ((bT L i).2:Int)]):=(af.refl _ _).aB _ (.inl rfl);simp only[go_sem,zS,↓reduceIte,Za,Zb,Zc,reduceCtorEq,ae,zF,hst];generalize aB H3 ⟨b3,0,ZU⟩ [Z8 ZY ((bT L i).1:Int),Z8 ZY ((bT L i).2:Int)]=H4 at B4 K4⊢;have s4:=K4.size;have hc4:cell H4 ⟨b3,1,ZU⟩=ZV (Z8 ZY ((bT L i).2:Int)):=by rw[B4.cell];rfl
  have Lw:=K4.bl (K3.bl B2 id) (by have:=B2.lt;omega);have hcl:=EO Lw q2;have hle:=LD L i (bT L i).2 fun _=>ZT;have akr:=Lw.bw (o:=(bT L i).2) (by rw[mH];exact q2);simp(disch:=omega)only[go_sem,zS,↓reduceIte,Za,Zb,Zc,reduceCtorEq,ae,hf,hc4,al,Zs,Zt,hcl,akr,ZN];refine⟨fun x hx=>by simp at hx;rcases hx with rfl|rfl<;>rfl,by omega,by omega,by omega,L.length -(i+1),by omega,i+1,by omega,by omega,by rfl,?_,?_⟩
  ·have B5:=Lw.az (bT L i).2 (Z8 ZY ((jJ L i (bT L i).2 (fun _=>ZT):Int)+1));rw[mq,AM q2]at B5;rw[show(uO n fun c=>((jJ L (i+1) c fun _=>ZT:Nat):Int))=uO n fun c=>if c=(bT L i).2 then(jJ L i (bT L i).2 (fun _=>ZT):Int)+1 else(jJ L i c (fun _=>ZT):Int)from ik fun c hc=>by
    rw[rU hlt]
    by_cases e:c=(bT L i).2
    ·subst e;simp
    ·have:¬(bT L i).2=c:=fun h=>e h.symm;simp[e,this]]
   exact B5
  ·exact((K2.trans (K3.mono fun _ _ h=>h.elim)).trans' K4 (fun j hj h=>by omega)).trans ((af.refl _ _).az _ (.inl rfl))
 ·have:i=L.length:=by omega
  subst this;have e0:(uO n fun c=>((jJ L L.length c fun _=>ZT:Nat):Int))=uO n (AN n R []):=ik fun c hc=>by
   rw[<-hL,EP _ hc];unfold AN;rw[if_neg (by simp)]
   congr 2
  rw[e0]at B2;have hB2:=K2.bl hB1 (by omega);have amf:=hgl;refine aT [40,6,44,2,61,62,63,64,8,70] rfl (fun m f H'=>∃(s:List Nat) (sv:ZR),qa n R s/\m=n -s.length/\Bl H' b [Z8 ZY (n:Int),pv,av,bv,sv]/\br H' sv (iN s)/\(∀q,ay sv q->H.size<=q/\q≠bl)∧
    Bl H' bl (iL (uO n (AN n R s)))/\af (fun q=>q=b\/H.size<=q) H1 H') n ?_ ?_
  ·exact⟨[],_,qa.nil n R,rfl,hB2,br.nil _,fun q h=>h.elim,B2,K2.mono fun q _ h=>.inr (by omega)⟩
  rintro m g H3 ⟨s,sv,hs,rfl,B3,O3,own3,C3,K3⟩;have s3:=K3.size;have hsl:=jE hs.nd hs.lt;have hsn:s.length<=n:=by have:=lN n fun k=>ZQ (k∈s);omega
  have c0:cell H3 ⟨b,0,ZU⟩=ZV (Z8 ZY (n:Int)):=by rw[B3.cell];rfl
  have c4:cell H3 ⟨b,4,ZU⟩=ZV sv:=by rw[B3.cell];rfl
  simp only[go_sem,zS,↓reduceIte,Za,Zb,Zc,reduceCtorEq,ae,c0,c4,O3.sl.aq,O3.sl.len,bH];refine aN (fun hlt=>?_) (fun ki=>?_)
  ·have hlt:s.length<n:=by omega
   have hC:aP H3 (Z6 (ZV ⟨bl,0,ZU⟩) n n) (iL (uO n (AN n R s))):=by
    have:=aP.bl C3 0 n n (ZH _) (by rw[mH];omega)
    rwa [List.drop_zero,Zy (by rw[mH];exact ZH _)]at this
   refine(hi _ _ 0 H3 hC (by rw[uP];omega)).mono ?_;rintro r H4 ⟨⟨rfl,hno⟩|⟨k,rfl,UB,hk2,hk3⟩,rfl⟩
   ·have e:ZQ ((-1:Int)<0)=ZT:=rfl;simp only[go_sem,zS,↓reduceIte,Za,Zb,Zc,reduceCtorEq,ae,e];have aks:Ev n R s=ZU:=by
     cases hx:Ev n R s with
     |none=>rfl
     |some k=>
      obtain⟨h1,h2,_⟩:=mr hx;exact absurd (List.mem_map.2 ⟨k,List.mem_range.2 h1,vZ.2 h2⟩) hno
    have GO:=hs.eq hR (.inr aks);refine⟨?_,⟨sv,B3,by rw[<-GO];exact O3,fun q hq=>(own3 q hq).1⟩,?_⟩
    ·rw[<-GO,decide_eq_false (by omega)]
    ·exact(K1.any (W:=fun q=>q=b)).trans' K3 (fun i hi h=>by omega)
   ·have hkn:k<n:=by rw[uP]at UB;exact UB
    rw[AL _ hkn]at hk2;have hk:Ev n R s=ZV k:=afq hkn (vZ.1 hk2) fun j hj=>by
     have:=hk3 j hj;rw[AL _ (by omega)]at this
     cases hr:F1 n R s j with
     |false=>rfl
     |true=>exact absurd (vZ.2 hr) this
    have e:ZQ ((k:Int)<0)=ZS:=by rw[decide_eq_false_iff_not];omega
    have hst:=C3.bw (o:=k) (by rw[mH];exact hkn);have C5:=C3.az k (Z8 ZY (-1));rw[mq,AM hkn]at C5;have M5:af (fun q=>q=bl) H4 (az H4 ⟨bl,k,ZU⟩ (Z8 ZY (-1))):=(af.refl _ _).az _ (.inl rfl);rw[ae];simp only[go_sem,zS,↓reduceIte,Za,Zb,Zc,reduceCtorEq,e,al,Zs,Zt,hst];refine⟨by omega,?_⟩;rw[ae];generalize az H4 ⟨bl,k,ZU⟩ (Z8 ZY (-1))=H5 at C5 M5⊢;have s5:=M5.size;have B5:=M5.bl B3 (by omega);have O5:=O3.ai M5 (fun q hq=>(own3 q hq).2);have c5:cell H5 ⟨b,4,ZU⟩=ZV sv:=by rw[B5.cell];rfl
    simp only[go_sem,zS,↓reduceIte,Za,Zb,Zc,reduceCtorEq,zF,c5];refine aG fun H6 b6 e6 z6 B6 K6=>?_;have s6:=K6.size;have B6':Bl H6 b6 (iN [k]):=B6;simp only[go_sem,zS,↓reduceIte,Za,Zb,Zc,reduceCtorEq,ae];have hs6:aP H6 (Z6 (ZV ⟨b6,0,ZU⟩) 1 1) (iN [k]):=aP.bl B6' 0 1 1 (by omega) (by simp[bH]);refine iD (l:=iN s) (m:=iN [k]) (O5.ai K6 (by simp)) hs6 (gT _) rfl (by unfold maxLen;rw[bH,bH];simp;omega) (by rw[bH,bH];simp;omega) fun v' H7 O7 M7 akt=>?_;have s7:=M7.size;rw[<-AO]at O7;have own8:∀q,ay v' q->H.size<=q/\q≠bl:=fun q hq=>by
     rcases akt q hq with h|h
     ·exact own3 q h
     ·have:=C5.lt;exact⟨by omega,by omega⟩
    have nob:∀q,ay sv q->q≠b:=fun q hq=>by have:=(own3 q hq).1;omega
    have B7:=M7.bl (K6.bl B5 id) (fun h=>nob _ h rfl);have C7:=M7.bl (K6.bl C5 id) (fun h=>(own3 _ h).2 rfl);have aku:=B7.bw (o:=4) (by simp);obtain⟨va,vn,vc,rfl⟩:=O7.shape;have B8:=B7.az 4 (.slice va vn vc);have M8:af (fun q=>q=b) H7 (az H7 ⟨b,4,ZU⟩ (.slice va vn vc)):=(af.refl _ _).az _ (.inl rfl);have K78:af (fun q=>q=b\/H.size<=q) H1 H7:=((K3.trans (M5.mono fun q _ h=>.inr (by omega))).trans (K6.mono fun _ _ h=>h.elim)).trans (M7.mono fun q _ h=>.inr (own3 q h).1);simp only[go_sem,zS,↓reduceIte,Za,Zb,Zc,reduceCtorEq,ae,aku];generalize az H7 ⟨b,4,ZU⟩ (.slice va vn vc)=H8 at B8 M8⊢;have s8:=M8.size;have B8':Bl H8 b [Z8 ZY (n:Int),pv,av,bv,.slice va vn vc]:=B8;have O8:=O7.ai M8 (fun q hq e=>by have:=(own8 q hq).1;omega);have C8:=M8.bl C7 (by omega);have c1:cell H8 ⟨b,1,ZU⟩=ZV pv:=by rw[B8'.cell];rfl
    have K8:=K78.trans (M8.mono fun q _ h=>.inl h);simp only[go_sem,zS,↓reduceIte,Za,Zb,Zc,reduceCtorEq,ae,c1,hp.aq,hp.cP,hp.len];refine aT [64,8,70,63] rfl (fun m f H'=>∃i:Nat,i<=L.length/\m=L.length -i/\f 63=Z8 ZY i/\Bl H' bl (iL (uO n fun c=>(if c=k then-1 else AN n R s c) -(jJ L i c fun a=>ZQ (a=k):Nat)))/\af (fun q=>q=bl) H8 H') L.length ?_ ?_
    ·refine⟨0,by omega,by omega,by simp only[go_sem,zS,↓reduceIte,Za,Zb,Zc,reduceCtorEq,ae];rfl,?_,af.refl _ _⟩;rw[ik (g:=fun i=>if i=k then-1 else AN n R s i) fun c hc=>by simp[jJ]];exact C8
    rintro m f H9 ⟨i,UE,rfl,hf,C9,K9⟩;have s9:=K9.size;simp only[go_sem,zS,↓reduceIte,Za,Zb,Zc,reduceCtorEq,ae]at hf;simp only[go_sem,zS,↓reduceIte,Za,Zb,Zc,reduceCtorEq,hf];refine aN (fun hlt=>?_) (fun ki=>?_)
    ·have hlt:i<L.length:=by omega
     have hp9:bk nE 2 H9 pv L:=hp.ai (((K1.any (W:=fun q=>q=b\/H.size<=q)).trans K8).trans (K9.mono fun q _ h=>.inr (by omega))) (fun q hq h=>by
      have:=hp.bo hq;rcases h with h|h
      ·exact oz q hq h
      ·omega)
     obtain⟨pb,po,pc,rfl,hpq,hld⟩:=hp9.elem mu hlt;obtain⟨q1,q2,q3⟩:=hpairs i hlt;rw[<-dZ hlt]at hld;have dm:aQ H9 ⟨pb,po+i*2,ZU⟩ 2=ZV #[Z8 ZY ((bT L i).1:Int),Z8 ZY ((bT L i).2:Int)]:=hld;simp only[go_sem,zS,↓reduceIte,Za,Zb,Zc,reduceCtorEq,zF,al,aC,dm];refine⟨by omega,?_⟩;refine ax fun HA bA eA zA BA KA=>?_;have sA:=KA.size;have akv:=BA.bG (o:=0) (n:=2) (by simp);have BB:=BA.aB 0 [Z8 ZY ((bT L i).1:Int),Z8 ZY ((bT L i).2:Int)];have KB:af (fun q=>q=bA) HA (aB HA ⟨bA,0,ZU⟩ [Z8 ZY ((bT L i).1:Int),Z8 ZY ((bT L i).2:Int)]):=(af.refl _ _).aB _ (.inl rfl);simp only[go_sem,zS,↓reduceIte,Za,Zb,Zc,reduceCtorEq,zF,akv];refine⟨fun x hx=>by simp at hx;rcases hx with rfl|rfl<;>rfl,?_⟩;rw[ae];generalize aB HA ⟨bA,0,ZU⟩ [Z8 ZY ((bT L i).1:Int),Z8 ZY ((bT L i).2:Int)]=HB at BB KB⊢;have sB:=KB.size;have cB0:cell HB ⟨bA,0,ZU⟩=ZV (Z8 ZY ((bT L i).1:Int)):=by rw[BB.cell];rfl
     have cB1:cell HB ⟨bA,1,ZU⟩=ZV (Z8 ZY ((bT L i).2:Int)):=by rw[BB.cell];rfl
     have C10:=KB.bl (KA.bl C9 id) (by have:=C9.lt;omega);have x8:af (fun q=>q=bl) H8 HB:=(K9.trans (KA.mono fun _ _ h=>h.elim)).trans' KB (fun j hj h=>by omega);have hcl:=EO C10 q2;have akw:=C10.bw (o:=(bT L i).2) (by rw[mH];exact q2);have hc1:=LD L i (bT L i).2 fun a=>ZQ (a=k);have hc2:-1<=(if(bT L i).2=k then-1 else AN n R s (bT L i).2)/\(if(bT L i).2=k then-1 else AN n R s (bT L i).2)<=256:=by
      have h2:=lN n fun a=>R a (bT L i).2&&!decide (a∈s);unfold AN
      split
      ·omega
      ·split<;>omega
     generalize hX:(if(bT L i).2=k then-1 else AN n R s (bT L i).2)=X at hcl hc2;simp only[go_sem,zS,↓reduceIte,Za,Zb,Zc,reduceCtorEq,ae,hf,cB0]
     by_cases e1:(bT L i).1=k
     ·have eb:(((bT L i).1:Int)==(k:Int))=ZT:=by rw[beq_iff_eq,e1]
      simp(disch:=omega)only[go_sem,zS,↓reduceIte,Za,Zb,Zc,reduceCtorEq,ae,eb,hf,cB1,al,Zs,Zt,hcl,akw,ZN];refine⟨by omega,by omega,by omega,by omega,L.length -(i+1),by omega,i+1,by omega,rfl,by rfl,?_,x8.trans ((af.refl _ _).az _ (.inl rfl))⟩;have C11:=C10.az (bT L i).2 (Z8 ZY (X -(jJ L i (bT L i).2 fun a=>ZQ (a=k)) -1));rw[mq,AM q2]at C11;rw[ik (g:=fun c=>if c=(bT L i).2 then(X -(jJ L i (bT L i).2 fun a=>ZQ (a=k)) -1)else(if c=k then-1 else AN n R s c) -((jJ L i c fun a=>ZQ (a=k):Nat):Int)) fun c hc=>?_]
      ·exact C11
      ·rw[rU hlt]
       by_cases e:c=(bT L i).2
       ·subst e;rw[hX];simp[e1];omega
       ·have:¬(bT L i).2=c:=fun h=>e h.symm;simp[e,this]
     ·have eb:(((bT L i).1:Int)==(k:Int))=ZS:=by rw[beq_eq_false_iff_ne];omega
      simp(disch:=omega)only[go_sem,zS,↓reduceIte,Za,Zb,Zc,reduceCtorEq,ae,eb,hf,ZN];refine⟨by omega,L.length -(i+1),by omega,i+1,by omega,rfl,by rfl,?_,x8⟩;rw[ik (g:=fun c=>(if c=k then-1 else AN n R s c) -((jJ L i c fun a=>ZQ (a=k):Nat):Int)) fun c hc=>?_]
      ·exact C10
      ·rw[rU hlt];simp[e1]
    ·have:i=L.length:=by omega
     subst this;have eL:(uO n fun c=>(if c=k then-1 else AN n R s c) -((jJ L L.length c fun a=>ZQ (a=k):Nat):Int))=uO n (AN n R (s++[k])):=ik fun c hc=>by
      rw[<-hL,EP _ hc,QM hR hs hk c hc]
     rw[eL]at C9;have B9:=K9.bl B8' (by omega);refine⟨n -(s++[k]).length,by simp;omega,s++[k],_,hs.snoc hk,rfl,B9,O8.ai K9 (fun q hq=>(own8 q hq).2),own8,C9,K8.trans (K9.mono fun q _ h=>.inr (by omega))⟩
  ·have GO:=hs.eq hR (.inl (by omega));refine⟨?_,⟨sv,B3,by rw[<-GO];exact O3,fun q hq=>(own3 q hq).1⟩,?_⟩
   ·rw[<-GO,decide_eq_true (by omega)]
   ·exact(K1.any (W:=fun q=>q=b)).trans' K3 (fun i hi h=>by omega)
end Go.Mg
namespace Go.Mg
open Go Go.RowKit
def rV (V:aH):S:=
 kY [kR 1 (V.t 196) 0] (.seq (.dr (kW 10 (.ld (.v 1)) (kW 11 (.ld (.v 1)) (kW 12 (.ld (.v 1)) (kW 13 (.nil (.t 12)) (kW 14 (.fa 0 (.t 13)) (kW 15 (.ld (.t 14)) (kW 17 (.ld (.v 1)) (kW 18 (.nil (.t 17)) (kW 19 (.fa 0 (.t 18)) (kW 20 (.ld (.t 19)) (ka 16 (.rJ (V.t 128) 1 24 #[kZ] (.t 15) (.t 15)) (kW 22 (.nil (.t 10)) (kW 23 (.fa 2 (.t 22)) (ka 21 (.rJ (V.t 128) 1 24 #[kZ] (.t 20) (.t 20)) (kb (.st (.t 23) (.t 16)) (kW 24 (.nil (.t 11)) (kW 25 (.fa 3 (.t 24)) (kb (.st (.t 25) (.t 21)) .done .wnil))) .wnil) (kb (.st (.t 23) (.t 16)) (ka 21 (.rJ (V.t 128) 1 24 #[kZ] (.t 20) (.t 20)) (kW 24 (.nil (.t 11)) (kW 25 (.fa 3 (.t 24)) (kb (.st (.t 25) (.t 21)) .done .wnil))) .wnil) .wnil)))) (ka 21 (.rJ (V.t 128) 1 24 #[kZ] (.t 20) (.t 20)) (ka 16 (.rJ (V.t 128) 1 24 #[kZ] (.t 15) (.t 15)) (kW 22 (.nil (.t 10)) (kW 23 (.fa 2 (.t 22)) (kb (.st (.t 23) (.t 16)) (kW 24 (.nil (.t 11)) (kW 25 (.fa 3 (.t 24)) (kb (.st (.t 25) (.t 21)) .done .wnil))) .wnil))) .wnil) .wnil))))))))))))) (kY [kU 26 (.ld (.v 1)),kU 27 (.nil (.t 26)),kU 28 (.fa 0 (.t 27)),kD 29 28,kc 30 (.rJ (V.t 138) 1 24 #[kZ] (.t 29) (.t 29)),kB 2 30] (.seq (kY [kU 31 (.ld (.v 1)),kU 32 (.nil (.t 31)),kU 33 (.fa 1 (.t 32)),kV 34 (.ld (.t 33)),kO 35 34,kC 36 (Z8 ZY 0)] (.blk 0 (.loop (kY [kH 37 36 35] (.seq (.ite (.v 37) .skip (.exit 0)) (.seq (.blk 1 (kY [kK 38 2 34 36,kN 39 2 38,kd 4 (.new (V.t 194) #[Z8 ZY 0,Z8 ZY 0]),kf (.stn 2 (.v 4) (.t 39))] (.dr (kW 40 (.mv (.v 2)) (kW 41 (.ia 2 1 (.v 4) (.c (Z8 ZY 1))) (kW 42 (.ld (.t 41)) (kW 43 (.mv (.v 2)) (kW 44 (.ia 2 1 (.v 4) (.c (Z8 ZY 1))) (kW 45 (.ld (.t 44)) (kW 46 (.is 1 (.t 43) (.t 45)) (kW 48 (.ia 2 1 (.v 4) (.c (Z8 ZY 0))) (kW 49 (.ld (.t 48)) (ka 47 (.rd (.ld (.t 46))) (ka 50 (.aX (V.t 26) 1 1 [.t 49]) (ka 51 (.app ZS (V.t 26) 1 8 #[Z8 ZY 0] (.t 47) (.t 50)) (kW 52 (.is 1 (.t 40) (.t 42)) (kb (.st (.t 52) (.t 51)) .done .wnil)) .wnil) .wnil) (ka 50 (.aX (V.t 26) 1 1 [.t 49]) (ka 47 (.rd (.ld (.t 46))) (ka 51 (.app ZS (V.t 26) 1 8 #[Z8 ZY 0] (.t 47) (.t 50)) (kW 52 (.is 1 (.t 40) (.t 42)) (kb (.st (.t 52) (.t 51)) .done .wnil)) .wnil) .wnil) .wnil)))))))))))))) (.reg [ke 53 36,kB 36 53]))))))) (kY [kU 54 (.ld (.v 1)),kU 55 (.nil (.t 54)),kU 56 (.fa 4 (.t 55)),kV 57 (.ld (.t 56)),kO 58 57,kC 59 (Z8 ZY 0)] (.blk 2 (.loop (kY [kH 60 59 58] (.seq (.ite (.v 60) .skip (.exit 2)) (.seq (.blk 3 (kY [kK 61 1 57 59,kD 62 61,kd 6 (.new (V.t 26) #[Z8 ZY 0]),kf (.st (.v 6) (.t 62))] (.seq (kY [kA 63 2,kU 64 (.ld (.v 6)),kI 65 1 63 64,kV 66 (.ld (.t 65)),kO 67 66,kC 68 (Z8 ZY 0)] (.blk 4 (.loop (kY [kH 69 68 67] (.seq (.ite (.v 69) .skip (.exit 4)) (.seq (.blk 5 (kY [kK 70 1 66 68,kD 71 70,kB 8 71] (.dr (kW 72 (.ld (.v 1)) (kW 73 (.nil (.t 72)) (kW 74 (.fa 2 (.t 73)) (kW 75 (.ld (.t 74)) (kW 76 (.ld (.v 6)) (kW 77 (.ld (.v 1)) (kW 78 (.nil (.t 77)) (kW 79 (.fa 2 (.t 78)) (kW 80 (.ld (.t 79)) (kW 81 (.ld (.v 6)) (kW 82 (.is 1 (.t 80) (.t 81)) (kW 84 (.ld (.v 1)) (kW 85 (.nil (.t 84)) (kW 86 (.fa 2 (.t 85)) (kW 87 (.ld (.t 86)) (kW 88 (.mv (.v 8)) (kW 89 (.is 1 (.t 87) (.t 88)) (kW 92 (.mv (.v 8)) (ka 83 (.rd (.m (.ldn 1 (.t 82)))) (ka 90 (.rd (.m (.ldn 1 (.t 89)))) (ka 91 (kg (V.f 132) [.t 83,.t 90]) (ka 93 (kg (V.f 131) [.t 91,.t 92]) (kW 94 (.is 1 (.t 75) (.t 76)) (kb (.stn 1 (.t 94) (.t 93)) .done .wnil)) .wnil) .wnil) .wnil) (ka 90 (.rd (.m (.ldn 1 (.t 89)))) (ka 83 (.rd (.m (.ldn 1 (.t 82)))) (ka 91 (kg (V.f 132) [.t 83,.t 90]) (ka 93 (kg (V.f 131) [.t 91,.t 92]) (kW 94 (.is 1 (.t 75) (.t 76)) (kb (.stn 1 (.t 94) (.t 93)) .done .wnil)) .wnil) .wnil) .wnil) .wnil))))))))))))))))))))))) (.reg [ke 95 68,kB 68 95]))))))) (kY [kU 96 (.ld (.v 1)),kU 97 (.nil (.t 96)),kU 98 (.fa 2 (.t 97)),kD 99 98,kU 100 (.ld (.v 6)),kI 101 1 99 100,kN 102 1 101,kd 103 (kg (V.f 137) [.t 102])] (.blk 6 (.rf 121 (.v 103) 104 9 (.blk 7 (.dr (kW 105 (.ld (.v 1)) (kW 106 (.nil (.t 105)) (kW 107 (.fa 3 (.t 106)) (kW 108 (.ld (.t 107)) (kW 109 (.mv (.v 9)) (kW 110 (.ld (.v 1)) (kW 111 (.nil (.t 110)) (kW 112 (.fa 3 (.t 111)) (kW 113 (.ld (.t 112)) (kW 114 (.mv (.v 9)) (kW 115 (.is 1 (.t 113) (.t 114)) (kW 117 (.ld (.v 6)) (ka 116 (.rd (.m (.ldn 1 (.t 115)))) (ka 118 (kg (V.f 131) [.t 116,.t 117]) (kW 119 (.is 1 (.t 108) (.t 109)) (kb (.stn 1 (.t 119) (.t 118)) .done .wnil)) .wnil) .wnil))))))))))))))))))))) (.reg [ke 120 59,kB 59 120]))))))))))
def rX:List RV:=[]
structure pD (H:Hp) (ab n:Nat) (ps:Nat->Nat->Bool) (vs:List ZR) (B:Nat):Prop where
 bl:Bl H ab vs
 len:vs.length=n
 at_:∀i,i<n->aR H (Z0 #[vs.getD i undef]) (ps i)
 ge:∀i,i<n->∀q,aV (vs.getD i undef) q->B<=q
variable {H H':Hp} {ab n B i db a:Nat} {ps R:Nat->Nat->Bool} {vs:List ZR} {W:Nat->Prop} {v:ZR} {ls:Nat->List Nat}
def pD.ai (h:pD H ab n ps vs B) (hk:af W H H') (h1:¬W ab) (h2:∀q,B<=q->q<H.size->¬W q):pD H' ab n ps vs B:=
 ⟨hk.bl h.bl h1,h.len,fun i hi=>(h.at_ i hi).ai hk fun q hq=>h2 q (h.ge i hi q hq) ((h.at_ i hi).bo hq),h.ge⟩
def aP.isCells {l:List ZR} (h:aP H v l) {q:Nat} (hq:aV v q):∃C T z,H[q]?=ZV (.cells C T z):=by
 rcases h with⟨a,c,rfl,_⟩|⟨b,o,c,_,rfl,h0,C,T,z,h1,h2,h3⟩
 ·cases a<;>simp[Mg.aV]at hq
 ·obtain⟨rfl,_⟩:=hq;exact⟨C,T,z,h1⟩
def pD.aed {ms:List Nat} (h:pD H ab n ps vs B) (hk:af (fun q=>q∈ms) H H') (hm:∀q∈ms,H[q]?=ZV (.deferred (ZV []))):pD H' ab n ps vs B:=by
 refine⟨hk.bl h.bl fun hq=>?_,h.len,fun i hi=>(h.at_ i hi).ai hk fun q hq vl=>?_,h.ge⟩
 ·obtain⟨T,hb⟩:=h.bl;rw[hm _ hq]at hb;cases hb
 ·obtain⟨v,W,e,hV⟩:=h.at_ i hi
  cases e
  obtain⟨C,T,z,hb⟩:=hV.sl.isCells hq;rw[hm _ vl]at hb;cases hb
def pD.congr {ps':Nat->Nat->Bool} (h:pD H ab n ps vs B) (e:∀i<n,∀x,ps i x=ps' i x):pD H ab n ps' vs B:=
 ⟨h.bl,h.len,fun i hi=>(h.at_ i hi).congr (e i hi),h.ge⟩
def pD.ld (h:pD H ab n ps vs B) (hi:i<n):aQ H ⟨ab,i,ZU⟩ 1=ZV #[vs.getD i undef]:=by
 rw[h.bl.aQ (by rw[h.len];omega)];have hl:i<vs.length:=by rw[h.len];exact hi
 have e:vs.getD i undef=vs[i]:=by simp[ZP,hl]
 rw[e,List.drop_eq_getElem_cons hl];rfl
def pD.ok (h:pD H ab n ps vs B) (hi:i<n):bG H ⟨ab,i,ZU⟩ 1:=h.bl.bG (by rw[h.len];omega)
def pD.st (h:pD H ab n ps vs B) (hi:i<n) {p:Nat->Bool} (hv:aR H (Z0 #[v]) p) (hb:∀q,aV v q->B<=q) (hab:ab<B):
  pD (aB H ⟨ab,i,ZU⟩ [v]) ab n (fun c=>if c=i then p else ps c) (vs.set i v) B:=by
 have hl:i<vs.length:=by rw[h.len];exact hi
 have K:af (fun q=>q=ab) H (aB H ⟨ab,i,ZU⟩ [v]):=(af.refl _ _).aB _ (.inl rfl);have e:rE vs i [v]=vs.set i v:=by
  unfold rE;rw[List.set_eq_take_append_cons_drop,if_pos hl];simp
 refine⟨by rw[<-e];exact h.bl.aB i [v],by simp[h.len],fun c hc=>?_,fun c hc q hq=>?_⟩
 ·by_cases ec:c=i
  ·subst ec;simp only[if_true];rw[ZP,XX hl];exact hv.ai K fun q hq e=>by have:=hb q hq;omega
  ·simp only[if_neg ec];rw[ZP,Yw (fun e=>ec e.symm),<-ZP];exact(h.at_ c hc).ai K fun q hq e=>by have:=h.ge c hc q hq;omega
 ·by_cases ec:c=i
  ·subst ec;rw[ZP,XX hl]at hq;exact hb q hq
  ·rw[ZP,Yw (fun e=>ec e.symm),<-ZP]at hq;exact h.ge c hc q hq
def pD.new (h:Bl H ab (ZM n (Z6 ZU 0 0))):pD H ab n (fun _ _=>ZS) (ZM n (Z6 ZU 0 0)) B:=by
 refine⟨h,by simp,fun i hi=>?_,fun i hi q hq=>?_⟩
 ·rw[ZP,Zj,if_pos hi];exact aR.empty H ZU 0
 ·rw[ZP,Zj,if_pos hi]at hq;exact hq.elim
structure GP (H:Hp) (db n:Nat) (ls:Nat->List Nat) (vs:List ZR) (B:Nat):Prop where
 bl:Bl H db vs
 len:vs.length=n
 at_:∀i,i<n->br H (vs.getD i undef) (iN (ls i))
 ge:∀i,i<n->∀q,ay (vs.getD i undef) q->B<=q
 dj:∀i j,i<n->j<n->i≠j->∀q,ay (vs.getD i undef) q->¬ay (vs.getD j undef) q
def GP.ai (h:GP H db n ls vs B) (hk:af W H H') (h1:¬W db) (h2:∀q,B<=q->q<H.size->¬W q):GP H' db n ls vs B:=
 ⟨hk.bl h.bl h1,h.len,fun i hi=>(h.at_ i hi).ai hk fun q hq=>h2 q (h.ge i hi q hq) ((h.at_ i hi).bo hq),h.ge,h.dj⟩
def GP.cell (h:GP H db n ls vs B) (hi:i<n):Mg.cell H ⟨db,i,ZU⟩=ZV (vs.getD i undef):=by
 have hl:i<vs.length:=by rw[h.len];exact hi
 rw[h.bl.cell];simp[ZP,hl]
def GP.new (h:Bl H db (ZM n (Z6 ZU 0 0))):GP H db n (fun _=>[]) (ZM n (Z6 ZU 0 0)) B:=by
 have e:∀i,i<n->(ZM n (Value.slice ZU 0 0)).getD i undef=Z6 ZU 0 0:=fun i hi=>by rw[ZP,Zj,if_pos hi];rfl
 refine⟨h,by simp,fun i hi=>?_,fun i hi q hq=>?_,fun i j hi hj hij q hq=>?_⟩
 ·rw[e i hi];exact br.nil _
 ·rw[e i hi]at hq;exact hq.elim
 ·rw[e i hi]at hq;exact hq.elim
def GP.app {H1:Hp} (h:GP H db n ls vs B) (hi:i<n) (hO:br H1 v (iN (ls i++[a]))) (hK:af (ay (vs.getD i undef)) H H1) (hv:∀q,ay v q->ay (vs.getD i undef) q\/H.size<=q) (hdb:db<B) (hB:B<=H.size):
  GP (az H1 ⟨db,i,ZU⟩ v) db n (fun c=>if c=i then ls i++[a]else ls c) (vs.set i v) B:=by
 have hl:i<vs.length:=by rw[h.len];exact hi
 have hdbi:∀c,c<n->¬ay (vs.getD c undef) db:=fun c hc e=>by have:=h.ge c hc db e;omega
 have B1:=hK.bl h.bl (hdbi i hi);have K:af (fun q=>q=db) H1 (az H1 ⟨db,i,ZU⟩ v):=(af.refl _ _).az _ (.inl rfl);have e1:∀c,c≠i->(vs.set i v).getD c undef=vs.getD c undef:=fun c hc=>by
  rw[ZP,Yw (fun e=>hc e.symm),<-ZP]
 have e2:(vs.set i v).getD i undef=v:=by rw[ZP,XX hl];rfl
 have vge:∀q,ay v q->B<=q:=fun q hq=>by rcases hv q hq with h'|h';exact h.ge i hi q h';omega
 have vdj:∀c,c<n->c≠i->∀q,ay v q->¬ay (vs.getD c undef) q:=fun c hc hci q hq vl=>by
  rcases hv q hq with h'|h'
  ·exact h.dj i c hi hc (fun e=>hci e.symm) q h' vl
  ·have:=(h.at_ c hc).bo vl;omega
 refine⟨B1.az i v,by simp[h.len],fun c hc=>?_,fun c hc q hq=>?_,fun c d hc hd hcd q hq vl=>?_⟩
 ·by_cases ec:c=i
  ·subst ec;rw[e2,if_pos rfl];exact hO.ai K fun q hq e=>by have:=vge q hq;omega
  ·rw[e1 c ec,if_neg ec];exact((h.at_ c hc).ai hK fun q hq vl=>h.dj c i hc hi ec q hq vl).ai K fun q hq e=>by have:=h.ge c hc q hq;omega
 ·by_cases ec:c=i
  ·subst ec;rw[e2]at hq;exact vge q hq
  ·rw[e1 c ec]at hq;exact h.ge c hc q hq
 ·by_cases ec:c=i
  ·subst ec;rw[e2]at hq;rw[e1 d (fun e=>hcd e.symm)]at vl;exact vdj d hd (fun e=>hcd e.symm) q hq vl
  ·by_cases ed:d=i
   ·subst ed;rw[e2]at vl;rw[e1 c ec]at hq;exact vdj c hc ec q vl hq
   ·rw[e1 c ec]at hq;rw[e1 d ed]at vl;exact h.dj c d hc hd hcd q hq vl
def mI (L:List NP) (i c:Nat):List Nat:=((L.take i).filter fun p=>ZQ (p.2=c)).map (·.1)
def Nu {L:List NP} (h:i<L.length) (c:Nat):mI L (i+1) c=if c=(bT L i).2 then mI L i c++[(bT L i).1]else mI L i c:=by
 unfold mI;rw[Zw h,List.filter_append,List.map_append,dZ h]
 by_cases e:c=L[i].2
 ·rw[if_pos e];simp[e]
 ·rw[if_neg e];have:¬L[i].2=c:=fun h=>e h.symm;simp[this]
def QO (hR:yG n R) {c:Nat}:a∈mI (dP n R) (dP n R).length c↔R a c=ZT:=by
 unfold mI;rw[ZI];simp only[XR,List.mem_filter,decide_eq_true_eq]
 constructor
 ·rintro⟨p,⟨hp,rfl⟩,rfl⟩;exact(jF.1 hp).2.2
 ·intro h;exact⟨(a,c),⟨jF.2 ⟨(hR _ _ h).1,(hR _ _ h).2,h⟩,rfl⟩,rfl⟩
def ER (L:List NP) (i c:Nat):(mI L i c).length<=L.length:=by
 unfold mI;rw[YM];refine Zp (YS _ _) ?_;rw[Zr];omega
noncomputable def qm (R:Nat->Nat->Bool) (s:List Nat) (i x:Nat):Bool:=ZQ (i∈s)&&xZ R x i
noncomputable def QP (R:Nat->Nat->Bool) (s:List Nat) (a y:Nat):Bool:=ZQ (y∈s)&&xZ R a y
noncomputable def ES (R:Nat->Nat->Bool) (l:List Nat) (x:Nat):Bool:=l.any fun a=>ZQ (x=a)||xZ R x a
def Nv (R:Nat->Nat->Bool) (l:List Nat) (a x:Nat):ES R (l++[a]) x=(ES R l x||xZ R x a||ZQ (x=a)):=by
 unfold ES;rw[List.any_append];simp only[List.any_cons,List.any_nil,Bool.or_false]
 cases l.any (fun a=>ZQ (x=a)||xZ R x a)<;>cases xZ R x a<;>cases ZQ (x=a)<;>rfl
def QQ {l:List Nat} {b:Nat} (h:∀a,a∈l↔R a b=ZT) (x:Nat):ES R l x=xZ R x b:=by
 rw[YU,jc];unfold ES;simp only[List.any_eq_true,Bool.or_eq_true,decide_eq_true_eq,jc]
 constructor
 ·rintro⟨a,ha,e|t⟩
  ·subst e;exact .one ((h x).1 ha)
  ·exact t.trans (.one ((h a).1 ha))
 ·intro t;obtain⟨c,h1,h2⟩:=t.last;exact⟨c,(h c).2 h1,h2⟩
def rY (b n:Nat) (pv sv:ZR) (H1 A:Hp) (x y:ZR):Prop:=Bl A b [Z8 ZY (n:Int),pv,x,y,sv]/\af (fun q=>q=b) H1 A
section
variable {b n:Nat} {pv sv:ZR} {H1 A:Hp} {x y:ZR}
def rY.psh (h:rY b n pv sv H1 A x y) (o:Obj):rY b n pv sv H1 (A.push o) x y:=⟨h.1.push o,h.2.push o⟩
def rY.st2 (h:rY b n pv sv H1 A x y) (v:ZR):rY b n pv sv H1 (az A ⟨b,2,ZU⟩ v) v y:=⟨h.1.az 2 v,h.2.az _ (.inl rfl)⟩
def rY.Nw (h:rY b n pv sv H1 A x y) (v:ZR):rY b n pv sv H1 (az A ⟨b,3,ZU⟩ v) x v:=⟨h.1.az 3 v,h.2.az _ (.inl rfl)⟩
def rY.QR (h:rY b n pv sv H1 A x y):(cell A ⟨b,2,ZU⟩).isSome=ZT/\tL A ⟨b,2,ZU⟩=ZS:=h.1.bw (o:=2) (by simp)
def rY.ok3 (h:rY b n pv sv H1 A x y):(cell A ⟨b,3,ZU⟩).isSome=ZT/\tL A ⟨b,3,ZU⟩=ZS:=h.1.bw (o:=3) (by simp)
def rY.QS {b1:Nat} {v:ZR} (hb:b≠b1) (hB:Bl H1 b1 [v]) (h:rY b n pv sv H1 A x y):af (fun q=>q=b) H1 A/\cell A ⟨b,0,ZU⟩=ZV (Z8 ZY (n:Int))/\cell A ⟨b1,0,ZU⟩=ZV v:=
 ⟨h.2,by rw[h.1.cell];rfl,by rw[(h.2.bl hB fun e=>hb e.symm).cell];rfl⟩
end
def RelSpec (P:Program) (V:aH) (k:FuncId):Prop:=∀(n:Nat) (R:Nat->Nat->Bool) (b:Nat) (pv sv:ZR) (H:Hp),n<=256->yG n R->Eu R->bh V H->(V.g 125≠b)->Bl H b [Z8 ZY (n:Int),pv,Z6 ZU 0 0,Z6 ZU 0 0,sv]->bk nE 2 H pv (dP n R)->(∀q,aV pv q->q≠b)→
 aP H sv (iN (DO n R))->(∀q,aV sv q->q≠b)→
 an P k #[Z7 (ZV ⟨b,0,ZU⟩)] H fun r H'=>r=ZZ #[]/\(∃ab bb avs LG B,Bl H' b [Z8 ZY (n:Int),pv,Z6 (ZV ⟨ab,0,ZU⟩) n n,Z6 (ZV ⟨bb,0,ZU⟩) n n,sv]/\pD H' ab n (fun i x=>xZ R x i) avs B/\pD H' bb n (fun i x=>xZ R i x) LG B∧
  H.size<=ab/\H.size<=bb/\H.size<=B)/\af (fun q=>q=b) H H'
def Nx {P:Program} {V:aH} {k g:FuncId} (hk:iH P k (rV V) rX 1 121) (ha:gz P (V.f 137) (V.f 136)) (hb1:bS P (V.f 136)=ZT) (hY:mF P (V.f 136) (jf V) jg 2) (htz:mz P V (V.f 126)) (hor:An P (V.f 132)) (hwi:nC P (V.f 131)):RelSpec P V k:=by
 intro n R b pv sv H hn hR hA hT FY hB hp oz hs Pg;refine gW hk (args:=[_]) (by simp) ?_;unfold rV rX kA kB kC kD ke kH kI kK kN kO kR kU kV kW ka kb kc kd kf kg kY kZ;have ahH:=hB.lt;have hgl:(dP n R).length<=65536:=Zp (yM n R) (WQ hn hn);have hc0:cell H ⟨b,0,ZU⟩=ZV (Z8 ZY (n:Int)):=by rw[hB.cell];rfl
 simp only[go_sem,zS,↓reduceIte,Za,Zb,Zc,reduceCtorEq];refine ax fun H1 b1 e1 z1 B1 K1=>?_;have s1:=K1.size;have hB1:=K1.bl hB id;have hcp:cell H1 ⟨b1,0,ZU⟩=ZV (Z7 (ZV ⟨b,0,ZU⟩)):=by rw[B1.cell];rfl
 have hc0:cell H1 ⟨b,0,ZU⟩=ZV (Z8 ZY (n:Int)):=by rw[hB1.cell];rfl
 simp only[go_sem,zS,↓reduceIte,Za,Zb,Zc,reduceCtorEq,ae];refine Lj (Q:=fun e f' A=>e=.n/\f'=bR (look [(0,Z7 (ZV ⟨b,0,ZU⟩))]) 1 (Z7 (ZV ⟨b1,0,ZU⟩))/\∃ab bb,Bl A ab (ZM n (Z6 ZU 0 0))/\Bl A bb (ZM n (Z6 ZU 0 0))/\H1.size<=ab/\H1.size<=bb/\ab≠bb/\Bl A b [Z8 ZY (n:Int),pv,Z6 (ZV ⟨ab,0,ZU⟩) n n,Z6 (ZV ⟨bb,0,ZU⟩) n n,sv]/\af (fun q=>q=b) H1 A) ?_ ?_
 rotate_left
 ·refine afj (fun A=>af (fun q=>q=b) H1 A/\Mg.cell A ⟨b,0,ZU⟩=ZV (Z8 ZY (n:Int))/\Mg.cell A ⟨b1,0,ZU⟩=ZV (Z7 (ZV ⟨b,0,ZU⟩))) ⟨af.refl _ _,hc0,hcp⟩ ?_;have hmx:(0:Int)<=(n:Int)/\(n:Int)<=n/\((24:Nat):Int)*n<=281474976710656/\(n:Int)<=(maxLen:Int):=⟨by omega,by omega,by omega,by unfold maxLen;omega⟩
  have w0:rY b n pv sv H1 H1 (Z6 ZU 0 0) (Z6 ZU 0 0):=⟨hB1,af.refl _ _⟩
  have v7:b≠b1:=by omega
  simp(config:={contextual:=ZT})only[go_sem,zS,↓reduceIte,Za,Zb,Zc,reduceCtorEq,ae,hcp,hc0,Eo,and_imp,hmx,al];have hz:∀(A:Hp),Bl (A.push (.cells (rep #[Value.slice ZU 0 0] n) (V.t 128))) A.size (ZM n (Z6 ZU 0 0)):=fun A=>by
   have:=Bl.dh A (rep #[Value.slice ZU 0 0] n) (V.t 128)
   rwa [dx]at this
  have hne:∀(A:Hp),H1.size<=A.size->A.size≠(⟨b,2,ZU⟩:Addr).block:=fun A h=>by show A.size≠b;omega
  have hne3:∀(A:Hp),H1.size<=A.size->A.size≠(⟨b,3,ZU⟩:Addr).block:=fun A h=>by show A.size≠b;omega
  have hs1:∀(o:Obj),H1.size<=(H1.push o).size:=fun o=>by simp
  have hs2:∀(o:Obj) (p:Addr) (v:ZR),H1.size<=(az (H1.push o) p v).size:=fun o p v=>by rw[dV];simp
  have h1:=fun o=>w0.psh o;have h2:=fun o o'=>(w0.psh o).psh o';refine⟨⟨rY.QS v7 B1 (h1 _),⟨rY.QS v7 B1 (h2 _ _),(h2 _ _).QR,rY.QS v7 B1 ((h2 _ _).st2 _),((h2 _ _).st2 _).ok3,rY.QS v7 B1 (((h2 _ _).st2 _).Nw _),?_⟩,(h1 _).QR,rY.QS v7 B1 ((h1 _).st2 _),rY.QS v7 B1 (((h1 _).st2 _).psh _),(((h1 _).st2 _).psh _).ok3,rY.QS v7 B1 ((((h1 _).st2 _).psh _).Nw _),?_⟩,
   rY.QS v7 B1 (h1 _),rY.QS v7 B1 (h2 _ _),(h2 _ _).QR,rY.QS v7 B1 ((h2 _ _).st2 _),((h2 _ _).st2 _).ok3,rY.QS v7 B1 (((h2 _ _).st2 _).Nw _),?_⟩
  ·exact⟨_,_,(((hz H1).push _).fg _ (hne _ (ZH _))).fg _ (hne3 _ (ZH _)),((hz (H1.push _)).fg _ (hne _ (hs1 _))).fg _ (hne3 _ (hs1 _)),ZH _,hs1 _,by simp,(((h2 _ _).st2 _).Nw _).1,(((h2 _ _).st2 _).Nw _).2⟩
  ·exact⟨_,_,(((hz H1).fg _ (hne _ (ZH _))).push _).fg _ (hne3 _ (ZH _)),(hz (az (H1.push _) _ _)).fg _ (hne3 _ (hs2 _ _ _)),ZH _,hs2 _ _ _,by rw[dV];simp,((((h1 _).st2 _).psh _).Nw _).1,((((h1 _).st2 _).psh _).Nw _).2⟩
  ·exact⟨_,_,((hz (H1.push _)).fg _ (hne _ (hs1 _))).fg _ (hne3 _ (hs1 _)),(((hz H1).push _).fg _ (hne _ (ZH _))).fg _ (hne3 _ (ZH _)),hs1 _,ZH _,by simp,(((h2 _ _).st2 _).Nw _).1,(((h2 _ _).st2 _).Nw _).2⟩
 rintro e f' H2 ⟨rfl,rfl,ab,bb,A2,D2,gab,gbb,hab,B2,K2⟩;have s2:=K2.size;have akx:cell H2 ⟨b1,0,ZU⟩=ZV (Z7 (ZV ⟨b,0,ZU⟩)):=by rw[(K2.bl B1 (by omega)).cell];rfl
 have aky:cell H2 ⟨b,0,ZU⟩=ZV (Z8 ZY (n:Int)):=by rw[B2.cell];rfl
 have amg:=A2.lt;have amh:=D2.lt;simp only[go_sem,zS,↓reduceIte,Za,Zb,Zc,reduceCtorEq,akx,aky,al];refine⟨⟨by omega,by omega,by omega,by unfold maxLen;omega⟩,?_⟩;refine aG fun H3 db e3 z3 C3 K3=>?_;rw[dx]at C3;have s3:=K3.size;have jv:=K3.bl (K2.bl B1 (by omega)) (by simp);have B3:=K3.bl B2 id;have A3:=K3.bl A2 id;have D3:=K3.bl D2 id;have akz:cell H3 ⟨b1,0,ZU⟩=ZV (Z7 (ZV ⟨b,0,ZU⟩)):=by rw[jv.cell];rfl
 have akA:cell H3 ⟨b,1,ZU⟩=ZV pv:=by rw[B3.cell];rfl
 have eo:af (fun q=>q=b) H H3:=((K1.any (W:=fun q=>q=b)).trans K2).trans K3.any;have hp3:=hp.ai eo oz;have UA:=hs.ai eo Pg;have hT3:=fun{A:Hp} (K:af (fun q=>q=b\/H.size<=q) H A)=>(show bh V A from K.bl hT (by
  have:=(show Bl H (V.g 125) _ from hT).lt;omega))
 simp only[go_sem,zS,↓reduceIte,Za,Zb,Zc,reduceCtorEq,ae,akz,akA,hp.aq,hp.cP,hp.len];generalize hL:dP n R=L at hp hgl hp3⊢;have hpairs:∀i,i<L.length->(bT L i).1<n/\(bT L i).2<n/\R (bT L i).1 (bT L i).2=ZT:=fun i hi=>by
  have:bT L i∈dP n R:=by rw[hL,dZ hi];exact ZL _
  exact jF.1 this
 refine aT [37,4,36] rfl (fun m f H'=>∃(i:Nat) (dvs:List ZR),i<=L.length/\m=L.length -i/\f 36=Z8 ZY i/\GP H' db n (mI L i) dvs H3.size/\af (fun q=>q=db) H3 H') L.length ?_ ?_
 ·refine⟨0,ZM n (Z6 ZU 0 0),by omega,by omega,by simp only[go_sem,zS,↓reduceIte,Za,Zb,Zc,reduceCtorEq,ae];rfl,?_,af.refl _ _⟩;have:=GP.new (B:=H3.size) C3;exact this
 rintro m f H4 ⟨i,dvs,UE,rfl,hf,L4,K4⟩;have s4:=K4.size;simp only[go_sem,zS,↓reduceIte,Za,Zb,Zc,reduceCtorEq,ae]at hf;simp only[go_sem,zS,↓reduceIte,Za,Zb,Zc,reduceCtorEq,hf];refine aN (fun hlt=>?_) (fun ki=>?_)
 ·have hlt:i<L.length:=by omega
  have hp4:bk nE 2 H4 pv L:=hp3.ai K4 (fun q hq e=>by have:=hp.bo hq;omega);obtain⟨pb,po,pc,rfl,hpq,hld⟩:=hp4.elem mu hlt;obtain⟨q1,q2,q3⟩:=hpairs i hlt;rw[<-dZ hlt]at hld;have dm:aQ H4 ⟨pb,po+i*2,ZU⟩ 2=ZV #[Z8 ZY ((bT L i).1:Int),Z8 ZY ((bT L i).2:Int)]:=hld;simp only[go_sem,zS,↓reduceIte,Za,Zb,Zc,reduceCtorEq,zF,al,aC,dm];refine⟨by omega,?_⟩;refine ax fun H5 b5 e5 z5 B5 K5=>?_;have s5:=K5.size;have hst:=B5.bG (o:=0) (n:=2) (by simp);have B6:=B5.aB 0 [Z8 ZY ((bT L i).1:Int),Z8 ZY ((bT L i).2:Int)];have K6:af (fun q=>q=b5) H5 (aB H5 ⟨b5,0,ZU⟩ [Z8 ZY ((bT L i).1:Int),Z8 ZY ((bT L i).2:Int)]):=(af.refl _ _).aB _ (.inl rfl);simp only[go_sem,zS,↓reduceIte,Za,Zb,Zc,reduceCtorEq,ae,zF,hst];generalize aB H5 ⟨b5,0,ZU⟩ [Z8 ZY ((bT L i).1:Int),Z8 ZY ((bT L i).2:Int)]=H6 at B6 K6⊢;have s6:=K6.size;have cB0:cell H6 ⟨b5,0,ZU⟩=ZV (Z8 ZY ((bT L i).1:Int)):=by rw[B6.cell];rfl
  have cB1:cell H6 ⟨b5,1,ZU⟩=ZV (Z8 ZY ((bT L i).2:Int)):=by rw[B6.cell];rfl
  have hdb:=L4.bl.lt;have K46:af (fun q=>q=b5) H4 H6:=(K5.any (W:=fun q=>q=b5)).trans K6;have L6:=L4.ai K46 (by omega) (fun q h1 h2 e=>by omega);have hcd:=L6.cell q2;refine⟨fun x hx=>by simp at hx;rcases hx with rfl|rfl<;>rfl,?_⟩;have nb5:∀q,q=db\/ay (dvs.getD (bT L i).2 undef) q->q≠b5:=fun q hq e=>by
   rcases hq with h|h
   ·omega
   ·have:=(L4.at_ _ q2).bo h;omega
  have hnb:¬(b5=db\/ay (dvs.getD (bT L i).2 undef) b5):=fun h=>nb5 _ h rfl;refine aZ (fun q=>q=db\/ay (dvs.getD (bT L i).2 undef) q) ?_;have K7:∀o,af (fun q=>q=db\/ay (dvs.getD (bT L i).2 undef) q) H6 (H6.push o):=fun o=>(af.refl _ _).push o;have hdl:=ER L i (bT L i).2;have PL:∀(Kk:ZR->Hp->Prop),(∀v' H8,GP (az H8 ⟨db,(bT L i).2,ZU⟩ v') db n (mI L (i+1)) (dvs.set (bT L i).2 v') H3.size->v'.oneCell'=ZT->((cell H8 ⟨db,(bT L i).2,ZU⟩).isSome=ZT/\tL H8 ⟨db,(bT L i).2,ZU⟩=ZS)->af (fun q=>q=db\/ay (dvs.getD (bT L i).2 undef) q) (H6.push (Obj.cells #[Value.int ZY ((bT L i).1:Int)] (V.t 26))) H8->af (fun q=>q=db\/ay (dvs.getD (bT L i).2 undef) q) H8 (az H8 ⟨db,(bT L i).2,ZU⟩ v')->af (fun q=>q=db) H3 (az H8 ⟨db,(bT L i).2,ZU⟩ v')->Kk v' H8)→
    jn ZS (V.t 26) 1 8 #[Value.int ZY 0] (dvs.getD (bT L i).2 undef) (Z6 (ZV ⟨H6.size,0,ZU⟩) 1 1) (H6.push (Obj.cells #[Value.int ZY ((bT L i).1:Int)] (V.t 26))) Kk:=by
   intro Kk hKk;have B7:=Bl.dh H6 #[Value.int ZY ((bT L i).1:Int)] (V.t 26);have M7:af (fun _=>False) H6 (H6.push (Obj.cells #[Value.int ZY ((bT L i).1:Int)] (V.t 26))):=(af.refl _ _).push _;generalize H6.push (Obj.cells #[Value.int ZY ((bT L i).1:Int)] (V.t 26))=H7 at B7 M7 hKk⊢;have B7':Bl H7 H6.size (iN [(bT L i).1]):=B7;have s7:=M7.size;have L7:=L6.ai M7 (by simp) (by simp);have hs7:aP H7 (Z6 (ZV ⟨H6.size,0,ZU⟩) 1 1) (iN [(bT L i).1]):=aP.bl B7' 0 1 1 (by omega) (by simp[bH]);refine iD (l:=iN (mI L i (bT L i).2)) (m:=iN [(bT L i).1]) (L7.at_ _ q2) hs7 (gT _) rfl (by unfold maxLen;rw[bH,bH];simp;omega) (by rw[bH,bH];simp;omega) fun v' H8 O8 M8 N8=>?_;rw[<-AO]at O8;have s8:=M8.size;have L9:=L7.app q2 O8 M8 N8 (by omega) (by omega);have KD:af (fun q=>q=db) H8 (az H8 ⟨db,(bT L i).2,ZU⟩ v'):=(af.refl _ _).az _ (.inl rfl);have odb:¬ay (dvs.getD (bT L i).2 undef) db:=fun h=>by have:=L7.ge _ q2 _ h;omega
   obtain⟨va,vn,vc,rfl⟩:=O8.shape;refine hKk _ H8 ?_ rfl ?_ (M8.mono fun q _ h=>.inr h) (KD.mono fun q _ h=>.inl h) ?_
   ·have e:mI L (i+1)=fun c=>if c=(bT L i).2 then mI L i (bT L i).2++[(bT L i).1]else mI L i c:=by
     funext c
     rw[Nu hlt]
     by_cases e:c=(bT L i).2
     ·rw[if_pos e,if_pos e,e]
     ·rw[if_neg e,if_neg e]
    rw[e];exact L9
   ·exact(M8.bl L7.bl odb).bw (by rw[L7.len];exact q2)
   ·exact(((K4.trans' K46 (fun j hj h=>by omega)).trans M7.any).trans' M8 (fun j hj h=>by have:=L7.ge _ q2 _ h;omega)).trans KD
  have akB:∀o,cell (H6.push o) ⟨db,(bT L i).2,ZU⟩=ZV (dvs.getD (bT L i).2 undef):=fun o=>(L6.ai (W:=fun _=>False) ((af.refl _ _).push o) (by simp) (by simp)).cell q2;simp only[go_sem,zS,↓reduceIte,Za,Zb,Zc,reduceCtorEq,ae,hf,cB0,cB1,hcd,akB,al,Zs,Zt];refine⟨by omega,hnb,by omega,hnb,by omega,by omega,hnb,⟨af.refl _ _,K7 _,PL _ fun v' H8 g1 g2 g3 g4 g5 g6=>?_⟩,K7 _,af.refl _ _,PL _ fun v' H8 g1 g2 g3 g4 g5 g6=>?_⟩
  all_goals
   simp(disch:=omega)only[go_sem,zS,↓reduceIte,Za,Zb,Zc,reduceCtorEq,ae,hf,g2,g3,g4,g5,al,Zs,Zt,ZN];exact⟨by omega,g2,L.length -(i+1),by omega,i+1,_,by omega,rfl,by rfl,g1,g6⟩
 ·have:i=L.length:=by omega
  subst this;have hdm:∀a c,a∈mI L L.length c↔R a c=ZT:=fun a c=>by rw[<-hL];exact QO hR
  have hdlen:∀c,(mI L L.length c).length<=65536:=fun c=>Zp (ER L _ c) hgl;generalize hls:mI L L.length=ls at L4 hdm hdlen;have hsn:=(Aa hR).2 hA;have hpre:=Ln hR;have B4:=K4.bl B3 (by omega);have yk:=K4.bl jv (by omega);have akC:cell H4 ⟨b1,0,ZU⟩=ZV (Z7 (ZV ⟨b,0,ZU⟩)):=by rw[yk.cell];rfl
  have akD:cell H4 ⟨b,4,ZU⟩=ZV sv:=by rw[B4.cell];rfl
  have A4:=pD.new (B:=H4.size) (K4.bl A3 (by omega));have D4:=pD.new (B:=H4.size) (K4.bl D3 (by omega));have KB4:af (fun q=>q=b\/H.size<=q) H H4:=(eo.mono fun q _ h=>.inl h).trans (K4.mono fun q _ h=>.inr (by omega));have hs4:=hs.ai KB4 (fun q hq h=>by
   rcases h with h|h
   ·exact Pg q hq h
   ·have:=hs.bo hq;omega)
  have hs4lt:∀q,aV sv q->q<H.size:=fun q hq=>hs.bo hq;have hT4:=hT3 KB4;have ami:=L4.bl.lt;simp only[go_sem,zS,↓reduceIte,Za,Zb,Zc,reduceCtorEq,ae,akC,akD,hs.aq,hs.len,bH,hsn];generalize hsd:DO n R=s at hs4 hsn hpre⊢;refine aT [60,6,66,67,68,69,8,103,59,121] rfl (fun m f A=>∃(t:Nat) (avs LG:List ZR) (ms:List Nat),t<=n/\m=n -t/\f 59=Z8 ZY t/\l8 (f 121)=ms/\ms.Nodup/\(∀q∈ms,H4.size<=q/\A[q]?=ZV (.deferred (ZV [])))∧
   pD A ab n (qm R (s.take t)) avs H4.size/\pD A bb n (QP R (s.take t)) LG H4.size/\af (fun q=>q=ab\/q=bb) H4 A) n ?_ ?_
  ·refine⟨0,_,_,[],by omega,by omega,by simp only[go_sem,zS,↓reduceIte,Za,Zb,Zc,reduceCtorEq,ae];rfl,by rfl,List.nodup_nil,by simp,A4.congr fun i hi x=>by simp[qm],D4.congr fun i hi x=>by simp[QP],af.refl _ _⟩
  rintro m g H5 ⟨t,avs,LG,ms,htn,rfl,hf,hms,hnd,hmk,A5,D5,K5⟩;have s5:=K5.size;simp only[go_sem,zS,↓reduceIte,Za,Zb,Zc,reduceCtorEq,ae]at hf hms;simp only[go_sem,zS,↓reduceIte,Za,Zb,Zc,reduceCtorEq,hf];refine aN (fun hlt=>?_) (fun ki=>?_)
  ·have hlt:t<s.length:=by omega
   have hs5:=hs4.ai K5 (fun q hq h=>by have:=hs4lt q hq;omega);obtain⟨sb,so,sc,rfl,-,-⟩:=hs5.cells (by intro e;have:=congrArg Y8 e;rw[bH,Zx]at this;omega);have hcs:=hs5.pV (i:=t) (by rw[bH];exact hlt);obtain⟨b0,hb0⟩:∃b0,b0=s[t]:=⟨_,rfl⟩
   have hcs:cell H5 ⟨sb,so+t,ZU⟩=ZV (Z8 ZY (b0:Int)):=by
    rw[hcs,hb0];simp[iN,iL,hlt]
   have yl:b0<n:=by rw[hb0];exact hpre.lt _ (ZL _)
   simp only[go_sem,zS,↓reduceIte,Za,Zb,Zc,reduceCtorEq,zF,al,Zs,hcs,bH];refine⟨by omega,?_⟩;refine ax fun H6 b6 e6 z6 B6 K6=>?_;have s6:=K6.size;have akE:=B6.bw (o:=0) (by simp);have B7:=B6.az 0 (Z8 ZY (b0:Int));have K7:af (fun q=>q=b6) H6 (az H6 ⟨b6,0,ZU⟩ (Z8 ZY (b0:Int))):=(af.refl _ _).az _ (.inl rfl);simp only[go_sem,zS,↓reduceIte,Za,Zb,Zc,reduceCtorEq,zF,akE];rw[ae];generalize az H6 ⟨b6,0,ZU⟩ (Z8 ZY (b0:Int))=H7 at B7 K7⊢;have s7:=K7.size;have K57:af (fun q=>q=b6) H5 H7:=(K6.any (W:=fun q=>q=b6)).trans K7;have c6:cell H7 ⟨b6,0,ZU⟩=ZV (Z8 ZY (b0:Int)):=by rw[B7.cell];rfl
   have L7:GP H7 db n ls dvs H3.size:=(L4.ai K5 (by omega) (fun q h1 h2 e=>by omega)).ai K57 (by omega) (fun q h1 h2 e=>by omega);have cdb:=L7.cell yl;have OL:=L7.at_ b0 yl;have A7:=A5.ai K57 (by omega) (fun q h1 h2 e=>by omega);have D7:=D5.ai K57 (by omega) (fun q h1 h2 e=>by omega);have hm7:∀q∈ms,H7[q]?=ZV (.deferred (ZV [])):=fun q hq=>by
    have h:=(hmk q hq).2;have hlt:=(Array.getElem?_eq_some_iff.1 h).1;rw[K57.at_ q hlt (by omega)];exact h
   have K47:af (fun q=>q=ab\/q=bb) H4 H7:=K5.trans' K57 (fun j hj h=>by omega);have GQ:=K47.bl yk (by omega);have tU:=K47.bl B4 (by omega);have hT7:=hT3 (KB4.trans (K47.mono fun q _ h=>.inr (by omega)));have akF:∀{A:Hp} {W:Nat->Prop},af W H7 A->(∀q,q<H.size->¬W q)->bh V A:=fun K hw=>K.bl hT7 (hw _ (show Bl H (V.g 125) _ from hT).lt);have Pn:s.take (t+1)=s.take t++[b0]:=by rw[Zw hlt,hb0]
   have hb0t:b0∉s.take t:=fun hm=>by
    obtain⟨q,hq,e⟩:=ZC hm;rw[Zr]at hq;rw[List.getElem_take]at e;have:=List.pairwise_iff_getElem.1 hpre.nd q t (by omega) hlt (by omega);exact this (by rw[e,hb0])
   have hpr:∀a,R a b0=ZT->a∈s.take t:=fun a ha=>hpre.closed hR hlt (by rw[<-hb0];exact ha);simp only[go_sem,zS,↓reduceIte,Za,Zb,Zc,reduceCtorEq,ae,c6,al,Zs,Zt,cdb,OL.sl.aq,OL.sl.len,bH];refine⟨by omega,?_⟩;refine aT [69,8,68] rfl (fun m f A=>∃(j:Nat) (akG:List ZR),j<=(ls b0).length/\m=(ls b0).length -j/\f 68=Z8 ZY j/\pD A ab n (fun i=>if i=b0 then ES R ((ls b0).take j)else qm R (s.take t) i) akG H4.size/\af (fun q=>q=ab) H7 A) (ls b0).length ?_ ?_
   ·refine⟨0,_,by omega,by omega,by simp only[go_sem,zS,↓reduceIte,Za,Zb,Zc,reduceCtorEq,ae];rfl,A7.congr fun i hi x=>?_,af.refl _ _⟩
    by_cases e:i=b0
    ·subst e;simp[qm,ES,hb0t]
    ·simp[e]
   rintro m f H8 ⟨j,afG,hj,rfl,GH,A8,K8⟩;have s8:=K8.size;simp only[go_sem,zS,↓reduceIte,Za,Zb,Zc,reduceCtorEq,ae]at GH;simp only[go_sem,zS,↓reduceIte,Za,Zb,Zc,reduceCtorEq,GH];refine aN (fun amj=>?_) (fun amk=>?_)
   ·have ym:j<(ls b0).length:=by omega
    have L8:GP H8 db n ls dvs H3.size:=L7.ai K8 (by omega) (fun q h1 h2 e=>by omega);have O8:=L8.at_ b0 yl;obtain⟨lb,lo,lc,hlv,-,-⟩:=O8.sl.cells (by intro e;have:=congrArg Y8 e;rw[bH,Zx]at this;omega);have O8':=O8.sl;rw[hlv]at O8';have hcl:=O8'.pV (i:=j) (by rw[bH];exact ym);obtain⟨a,ha⟩:∃a,a=(ls b0)[j]:=⟨_,rfl⟩
    have hcl:cell H8 ⟨lb,lo+j,ZU⟩=ZV (Z8 ZY (a:Int)):=by
     rw[hcl,ha];simp[iN,iL,ym]
    have hRa:R a b0=ZT:=(hdm a b0).1 (by rw[ha];exact ZL _);have han:=(hR _ _ hRa).1;have hat:=hpr a hRa;have ahI:a≠b0:=fun e=>hb0t (e▸hat);have B18:=K8.bl GQ (by omega);have B48:=K8.bl tU (by omega);have B68:=K8.bl B7 (by omega);have cp8:cell H8 ⟨b1,0,ZU⟩=ZV (Z7 (ZV ⟨b,0,ZU⟩)):=by rw[B18.cell];rfl
    have c28:cell H8 ⟨b,2,ZU⟩=ZV (Z6 (ZV ⟨ab,0,ZU⟩) n n):=by rw[B48.cell];rfl
    have c68:cell H8 ⟨b6,0,ZU⟩=ZV (Z8 ZY (b0:Int)):=by rw[B68.cell];rfl
    simp only[go_sem,zS,↓reduceIte,Za,Zb,Zc,reduceCtorEq,ae,GH,hlv,al,Zs,Zt,hcl,bH];refine⟨by omega,?_⟩;refine aZ (fun q=>q=ab) ?_;have nab:¬b1=ab/\¬b=ab/\¬b6=ab:=⟨by omega,by omega,by omega⟩
    simp only[go_sem,zS,↓reduceIte,Za,Zb,Zc,reduceCtorEq,ae,GH,cp8,c28,c68,al,Zs,Zt,aC,A8.ld yl,A8.ld han,nab.1,nab.2.1,nab.2.2];have SA:=A8.at_ b0 yl;have SB:=A8.at_ a han;simp only[if_pos rfl]at SA;rw[if_neg ahI]at SB;refine⟨by omega,by omega,⟨af.refl _ _,af.refl _ _,(hor _ _ _ _ H8 SA SB).mono ?_⟩,af.refl _ _,af.refl _ _,(hor _ _ _ _ H8 SA SB).mono ?_⟩
    all_goals
     rintro r H9 ⟨S9,K9,g9⟩;simp only[go_sem,zS,↓reduceIte,Za,Zb,Zc,reduceCtorEq,ae];refine⟨K9.any,(hwi _ _ (a:Int) H9 S9).mono ?_⟩;rintro r HA ⟨S10,x8,g10⟩;obtain⟨v,Wd,rfl,hV⟩:=S10;have s9:=K9.size;have s10:=x8.size;have A10:pD HA ab n (fun i=>if i=b0 then ES R ((ls b0).take j)else qm R (s.take t) i) afG H4.size:=(A8.ai K9 (by simp) (by simp)).ai x8 (by simp) (by simp);have hvb:∀q,aV v q->H4.size<=q:=fun q hq=>by
      rcases g10 q hq with h|h
      ·have:=g9 q h;omega
      ·omega
     have A11:=A10.st yl ⟨v,Wd,rfl,hV⟩ hvb (by omega);have akH:=A10.ok yl;have Ny:af (fun q=>q=ab) HA (aB HA ⟨ab,b0,ZU⟩ [v]):=(af.refl _ _).aB _ (.inl rfl);have QT:bM #[v]:=hV.sl.one;simp(disch:=omega)only[go_sem,zS,↓reduceIte,Za,Zb,Zc,reduceCtorEq,ae,GH,al,Zs,Zt,k9,gw,bd,ZN];have hlb:=hdlen b0;refine⟨x8.any,by omega,⟨akH,QT⟩,Ny,(ls b0).length -(j+1),by omega,j+1,_,by omega,rfl,by rw[ZN _ (by omega)];rfl,A11.congr fun i hi x=>?_,((K8.trans K9.any).trans x8.any).trans Ny⟩
     by_cases e:i=b0
     ·subst e;simp only[if_true];rw[Zw ym,Nv,<-ha];unfold lO qm;have e1:ZQ (((x:Nat):Int)=(a:Int))=ZQ (x=a):=by rw[decide_eq_decide];omega
      rw[e1]
      by_cases ex:x=a
      ·subst ex;simp[hat];omega
      ·simp[ex,hat]
     ·simp only[if_neg e]
   ·have:j=(ls b0).length:=by omega
    subst this;have A9:pD H8 ab n (qm R (s.take (t+1))) afG H4.size:=A8.congr fun i hi x=>by
     by_cases e:i=b0
     ·subst e;simp only[if_true,ZI];rw[QQ (fun a=>hdm a i) x];unfold qm;rw[Pn];simp
     ·simp only[if_neg e];unfold qm;rw[Pn];simp[e]
    have B18:=K8.bl GQ (by omega);have B48:=K8.bl tU (by omega);have B68:=K8.bl B7 (by omega);have cp8:cell H8 ⟨b1,0,ZU⟩=ZV (Z7 (ZV ⟨b,0,ZU⟩)):=by rw[B18.cell];rfl
    have c28:cell H8 ⟨b,2,ZU⟩=ZV (Z6 (ZV ⟨ab,0,ZU⟩) n n):=by rw[B48.cell];rfl
    have c68:cell H8 ⟨b6,0,ZU⟩=ZV (Z8 ZY (b0:Int)):=by rw[B68.cell];rfl
    have D8:=D7.ai K8 (by omega) (fun q h1 h2 e=>by omega);have SA:=A9.at_ b0 yl;obtain⟨v0,W0,pg,hV0⟩:=SA;simp only[Value.agg.injEq,Array.mk.injEq,List.cons.injEq,and_true]at pg;have hm8:∀q∈ms,H8[q]?=ZV (.deferred (ZV [])):=fun q hq=>by
     have h:=hm7 q hq;have hlt:=(Array.getElem?_eq_some_iff.1 h).1;rw[K8.at_ q hlt (fun e=>by
      obtain⟨T,hb⟩:=A7.bl;have e:q=ab:=e;rw[e]at h;rw[hb]at h;cases h)]
     exact h
    simp only[go_sem,zS,↓reduceIte,Za,Zb,Zc,reduceCtorEq,ae,cp8,c28,c68,al,Zs,Zt,aC,A9.ld yl];refine⟨by omega,(ha _ H8).mono ?_⟩;rintro r H9 ⟨rfl,B9,K9,s9⟩;simp only[go_sem,zS,↓reduceIte,Za,Zb,Zc,reduceCtorEq,ae];have s9':=K9.size;have A10:=A9.ai K9 (by simp) (by simp);have D10:=D8.ai K9 (by simp) (by simp);have hV9:fR H9 v0 W0 (qm R (s.take (t+1)) b0):=hV0.ai K9 (by simp);have hpq:∀a,qm R (s.take (t+1)) b0 a=xZ R a b0:=fun a=>by unfold qm;rw[Pn];simp
    generalize hp':qm R (s.take (t+1)) b0=p at hV9 hpq;have B9':Bl H9 H8.size [v0]:=by rw[<-pg];exact B9
    have hmem:∀a∈bf p,R a b0=R a b0/\a<n/\xZ R a b0=ZT:=fun a h=>by
     obtain⟨h1,h2⟩:=my.1 h;rw[hpq]at h2;exact⟨rfl,(hR.tc (jc.1 h2)).1,h2⟩
    have B19:=K9.bl B18 id;have B49:=K9.bl B48 id;have B69:=K9.bl B68 id;have hb6:=B7.lt;have hT9:bh V H9:=akF (K8.trans K9.any) (fun q hq e=>by omega);refine LB (fun q=>q=bb) (fun k A=>∃GR,pD A bb n (fun a y=>QP R (s.take t) a y||(ZQ (y=b0)&&ZQ (a∈(bf p).take k))) GR H4.size/\∀i<n,∀q,aV (GR.getD i undef) q->q<H9.size\/H9.size+2<=q) (fun _ _=>False) (G:=fun H=>bh V H/\Bl H H8.size [v0]/\fR H v0 W0 p) (by simp only[go_sem,zS,↓reduceIte,Za,Zb,Zc,reduceCtorEq,ae];rfl) hb1 (qk hY htz) (by omega) ?_ ?_ ?_ ?_ ?_ ?_ ?_
    ·rintro k A KA _;refine⟨KA.bl hT9 (by have:=(show Bl H (V.g 125) _ from hT).lt;omega),KA.bl B9' (by omega),hV9.ai KA fun q hq e=>?_⟩;have h1:=A10.ge b0 yl q (by rw[pg];exact hq);omega
    ·intro A KA ph;refine⟨LG,(D10.ai KA (by simp) (by simp)).congr fun i hi x=>by simp,fun i hi q hq=>.inl ?_⟩;exact(D10.at_ i hi).bo hq
    ·rintro k A A' ph KA ⟨GR,g1,g2⟩ K;exact⟨GR,⟨K.bl g1.bl (by omega),g1.len,fun i hi=>(g1.at_ i hi).ai K fun q hq e=>by have:=g2 i hi q hq;omega,g1.ge⟩,g2⟩
    ·rintro e A A2 hs KA h;exact h.elim
    ·rintro k A hk KA ph ⟨GR,g1,g2⟩;have hkl:k<(bf p).length:=by simpa[cU]using hk
     obtain⟨a,ha⟩:∃a,a=(bf p)[k]:=⟨_,rfl⟩
     have hxv:(cU p).getD k undef=Z8 ZY (a:Int):=by
      rw[ZP,ZO hk];simp[cU,ha]
     rw[hxv];obtain⟨_,han,hta⟩:=hmem a (by rw[ha];exact ZL _);have ahI:a≠b0:=fun e=>by subst e;exact hA a (jc.1 hta)
     have QU:=KA.bl B19 (by omega);have B4A:=KA.bl B49 (by omega);have B6A:=KA.bl B69 (by omega);have cpA:cell A ⟨b1,0,ZU⟩=ZV (Z7 (ZV ⟨b,0,ZU⟩)):=by rw[QU.cell];rfl
     have c3A:cell A ⟨b,3,ZU⟩=ZV (Z6 (ZV ⟨bb,0,ZU⟩) n n):=by rw[B4A.cell];rfl
     have c6A:cell A ⟨b6,0,ZU⟩=ZV (Z8 ZY (b0:Int)):=by rw[B6A.cell];rfl
     simp only[go_sem,zS,↓reduceIte,Za,Zb,Zc,reduceCtorEq,ae];refine aZ (fun q=>q=bb) ?_;have nbb:¬b1=bb/\¬b=bb/\¬b6=bb:=⟨by omega,by omega,by omega⟩
     simp only[go_sem,zS,↓reduceIte,Za,Zb,Zc,reduceCtorEq,ae,cpA,c3A,c6A,al,Zs,Zt,aC,g1.ld han,nbb.1,nbb.2.1,nbb.2.2];refine⟨by omega,af.refl _ _,(hwi _ _ (b0:Int) A (g1.at_ a han)).mono ?_⟩;rintro r A1 ⟨S1,L1,l1⟩;obtain⟨v,Wd,rfl,hV⟩:=S1;have t1:=L1.size;have G1:=g1.ai L1 (by simp) (by simp);have hvb:∀q,aV v q->H4.size<=q/\(q<H9.size\/H9.size+2<=q):=fun q hq=>by
      rcases l1 q hq with h|h
      ·exact⟨g1.ge a han q h,g2 a han q h⟩
      ·exact⟨by omega,by omega⟩
     have G2:=G1.st han ⟨v,Wd,rfl,hV⟩ (fun q hq=>(hvb q hq).1) (by omega);have okA:=G1.ok han;have M2:af (fun q=>q=bb) A1 (aB A1 ⟨bb,a,ZU⟩ [v]):=(af.refl _ _).aB _ (.inl rfl);have QT:bM #[v]:=hV.sl.one;simp only[go_sem,zS,↓reduceIte,Za,Zb,Zc,reduceCtorEq,ae,al,Zs,Zt,k9,gw,bd];refine⟨L1.any,by omega,⟨okA,QT⟩,M2,L1.any.trans (M2.mono fun q _ h=>.inl h),_,G2.congr fun i hi x=>?_,fun i hi q hq=>?_⟩
     ·rw[Zw hkl,<-ha]
      by_cases e:i=a
      ·subst e;simp only[if_true];unfold lO;have e1:ZQ (((x:Nat):Int)=(b0:Int))=ZQ (x=b0):=by rw[decide_eq_decide];omega
       rw[e1]
       by_cases ex:x=b0
       ·subst ex;simp;omega
       ·simp[ex]
      ·simp only[if_neg e];simp[e]
     ·by_cases e:i=a
      ·subst e;rw[ZP,XX (by rw[g1.len];exact hi)]at hq;exact(hvb q hq).2
      ·rw[ZP,Yw (fun h=>e h.symm),<-ZP]at hq;exact g2 i hi q hq
    ·rintro A KA ph hd ⟨GR,g1,g2⟩;simp(disch:=omega)only[go_sem,zS,↓reduceIte,Za,Zb,Zc,reduceCtorEq,ae,hf,hms,ZN];have hms8:∀q∈ms,q<H8.size:=fun q hq=>(Array.getElem?_eq_some_iff.1 (hm8 q hq)).1;refine⟨n -(t+1),by omega,t+1,afG,GR,H9.size::ms,by omega,rfl,by rfl,?_,?_,?_,(by rw[<-Pn]at*;exact A10.ai KA (by omega) (fun q h1 h2 e=>by omega)),g1.congr fun i hi x=>?_,?_⟩
     ·rfl
     ·exact List.nodup_cons.2 ⟨fun h=>by have:=hms8 _ h;omega,hnd⟩
     ·intro q hq;rcases List.mem_cons.1 hq with e|hq
      ·subst e;exact⟨by omega,hd⟩
      ·refine⟨(hmk q hq).1,?_⟩;have:=hms8 q hq;rw[KA.at_ q (by omega) (fun e=>by
        have e:q=bb:=e;obtain⟨T,hb⟩:=D8.bl;have h:=hm8 q hq;rw[e]at h;rw[hb]at h;cases h),K9.at_ q (by omega) (by simp)]
       exact hm8 q hq
     ·have e0:(bf p).take (cU p).length=bf p:=Zy (by simp[cU]);rw[e0];unfold QP;rw[Pn];have em:ZQ (i∈bf p)=xZ R i b0:=by
       rw[YU,decide_eq_true_iff,my,hpq];exact⟨fun h=>h.2,fun h=>⟨by omega,h⟩⟩
      rw[em]
      by_cases e:x=b0
      ·subst e;simp[hb0t]
      ·simp[e]
     ·exact((K47.trans (K8.mono fun q _ h=>.inl h)).trans K9.any).trans (KA.mono fun q _ h=>.inr h)
    ·rintro e A _ _ _ h;exact h.elim
  ·have ht:t=n:=by omega
   subst ht;have hall:∀i,i<t->i∈s.take t:=fun i hi=>by
    rw[Zy (by omega)];exact vD hpre.nd hpre.lt (by omega) hi
   simp only[go_sem,zS,↓reduceIte,Za,Zb,Zc,reduceCtorEq,ae,hms];refine⟨hnd,fun m hm=>(hmk m hm).2,fun A2 ha2 hb2=>?_⟩;have M:af (fun q=>q∈ms) H5 A2:=⟨by omega,fun q _ h=>hb2 q h⟩
   have hm5:∀q∈ms,H5[q]?=ZV (.deferred (ZV [])):=fun q hq=>(hmk q hq).2;have B5:=K5.bl B4 (by omega);refine⟨⟨ab,bb,avs,LG,H4.size,M.bl B5 (fun h=>by have:=(hmk b h).1;omega),(A5.congr fun i hi x=>?_).aed M hm5,(D5.congr fun i hi x=>?_).aed M hm5,by omega,by omega,by omega⟩,?_⟩
   ·unfold qm;simp[hall i hi]
   ·unfold QP
    cases hx:xZ R i x with
    |false=>simp
    |true=>simp[hall x (hR.tc (jc.1 hx)).2]
   ·exact((KB4.trans' K5 (fun j hj h=>by omega)).trans' M (fun j hj h=>by have:=(hmk j h).1;omega)).mono fun q hq h=>by omega
end Go.Mg
namespace Go.Mg
open Go Go.RowKit
def GS (V:aH):S:=
 kY [kC 4 (Z7 .none),kC 5 (Z8 ZY 0)] (.seq (kY [kA 10 0,kU 11 (.cm .lss ZY (.t 10) (.c (Z8 ZY 0))),kF 12 11,kS 13 12 ZS 0,kT 14 12 ZS (.cm .gtr ZY (.t 13) (.c (Z8 ZY 256))),kV 15 (.pick (.t 12) (.c (Z5 ZT)) (.t 14))] (.ite (.v 15) (kY [kC 4 (Z7 .none),kC 5 (Z8 ZY 1)] .ret) .skip)) (.seq (kY [kV 16 (.mv (.v 1)),kO 17 16,kC 18 (Z8 ZY 0)] (.blk 0 (.loop (kY [kH 19 18 17] (.seq (.ite (.v 19) .skip (.exit 0)) (.seq (.blk 1 (kY [kK 20 2 16 18,kN 21 2 20,kd 7 (.new (V.t 194) #[Z8 ZY 0,Z8 ZY 0]),kf (.stn 2 (.v 7) (.t 21))] (kY [kP 22 2 1 7 0,kD 23 22,kP 24 2 1 7 1,kD 25 24,kU 26 (.m (.mn (.t 23) (.t 25))),kU 27 (.cm .lss ZY (.t 26) (.c (Z8 ZY 0))),kF 28 27,kT 29 28 ZS (.ia 2 1 (.v 7) (.c (Z8 ZY 0))),kT 30 28 ZS (.ld (.t 29)),kT 31 28 ZS (.ia 2 1 (.v 7) (.c (Z8 ZY 1))),kT 32 28 ZS (.ld (.t 31)),kT 33 28 ZS (.m (.mx (.t 30) (.t 32))),kS 34 28 ZS 0,kT 35 28 ZS (.cm .geq ZY (.t 33) (.t 34)),kV 36 (.pick (.t 28) (.c (Z5 ZT)) (.t 35))] (.ite (.v 36) (kY [kC 4 (Z7 .none),kC 5 (Z8 ZY 2)] .ret) .skip)))) (.reg [ke 37 18,kB 18 37]))))))) (kY [kc 38 (.aX (V.t 194) 2 0 []),kA 39 1,kc 40 (.app ZS (V.t 194) 2 16 #[Z8 ZY 0,Z8 ZY 0] (.t 38) (.t 39)),kB 8 40] (kY [kA 41 8,kc 42 (kg (V.f 198) [.t 41,.c (.func (.func (V.f 200)) #[] #[])])] (kY [kA 43 0,kA 44 8,kc 45 (kg (V.f 193) [.t 44]),kc 46 (kg (V.f 192) [.t 45]),kU 47 (.m (.bld #[Z8 ZY 0,kZ,kZ,kZ,kZ] [(0,(1,.t 43)),(1,(1,.t 46))])),kc 48 (.box (V.t 199) (.t 47)),kB 9 48] (.seq (kY [kA 49 9,kc 50 (kg (V.f 195) [.t 49]),kV 51 (.not (.t 50))] (.ite (.v 51) (kY [kC 4 (Z7 .none),kC 5 (Z8 ZY 16)] .ret) .skip)) (kY [kA 52 9,kc 53 (kg (V.f 197) [.t 52])] (kY [kA 54 9,kB 4 54,kC 5 (Z8 ZY 0)] .ret))))))))
def GU:List RV:=[.t 4,.t 5]
def ahJ (a b c d e x:ZR):jx #[a,b,c,d,e] 0 [x]=#[x,b,c,d,e]:=rfl
def ahK (a b c d e x:ZR):jx #[a,b,c,d,e] 1 [x]=#[a,x,c,d,e]:=rfl
variable {H:Hp} {v:ZR} {B B':Nat}
def bk.conv {α β:Type} {enc:α->List ZR} {GV:β->List ZR} {k:Nat} {l:List α} {l':List β} (h:bk enc k H v l) (e:l'.length=l.length) (f:l'.flatMap GV=l.flatMap enc):bk GV k H v l':=by
 rcases h with⟨a,c,rfl,rfl⟩|⟨b,o,c,hl,rfl,h0,C,T,z,h1,h2,h3⟩
 ·have:l'=[]:=YG (by simpa using e);subst this;exact bk.nil _ _ _
 ·exact .inr ⟨b,o,c,fun h=>by subst h;exact hl (YG (by simpa using e.symm)),by rw[e],by omega,C,T,z,h1,by rw[e];exact h2,by rw[e,f];exact h3⟩
def yn (H:Hp) (v:ZR) (n:Nat) (R:Nat->Nat->Bool):Prop:=n<=256/\yG n R/\Eu R/\∃b pv sv ab bb avs LG C,v=Z7 (ZV ⟨b,0,ZU⟩)/\Bl H b [Z8 ZY (n:Int),pv,Z6 (ZV ⟨ab,0,ZU⟩) n n,Z6 (ZV ⟨bb,0,ZU⟩) n n,sv]∧
 bk nE 2 H pv (dP n R)/\pD H ab n (fun i x=>xZ R x i) avs C/\pD H bb n (fun i x=>xZ R i x) LG C/\aP H sv (iN (DO n R))
def yn.aj {H':Hp} {n:Nat} {R:Nat->Nat->Bool} (h:yn H v n R) (hk:af (fun _=>False) H H'):yn H' v n R:=by
 obtain⟨h1,h2,h3,b,pv,sv,ab,bb,avs,LG,C,e,g1,g2,g3,g4,g5⟩:=h;exact⟨h1,h2,h3,b,pv,sv,ab,bb,avs,LG,C,e,hk.bl g1 id,g2.aj hk,g3.ai hk (by simp) (by simp),g4.ai hk (by simp) (by simp),g5.ai hk (by simp)⟩
def Bl.uniq {b:Nat} {l m:List ZR} (h:Bl H b l) (k:Bl H b m):l=m:=by
 obtain⟨T,h⟩:=h;obtain⟨T',k⟩:=k;rw[h]at k;simp only[Option.some.injEq,Obj.cells.injEq]at k;have:=congrArg Array.toList k.1;simpa using this
def frV (B:Nat) (H:Hp) (v:ZR):Prop:=∀b n ab bb pv sv,v=Z7 (ZV ⟨b,0,ZU⟩)->Bl H b [Z8 ZY ((n:Nat):Int),pv,Z6 (ZV ⟨ab,0,ZU⟩) n n,Z6 (ZV ⟨bb,0,ZU⟩) n n,sv]->B<=b/\B<=ab/\B<=bb/\(∀q,aV pv q->B<=q)/\(∀q,aV sv q->B<=q)∧
 ∀vs,(Bl H ab vs\/Bl H bb vs)->∀i<n,∀q,aV (vs.getD i undef) q->B<=q
def QV (B:Nat) (H:Hp) (r:ZR):Prop:=∀v e,r=ZZ #[v,e]->frV B H v
def frV.mono (h:frV B H v) (hb:B'<=B):frV B' H v:=fun b n ab bb pv sv e h1=>by
 obtain⟨k1,k2,k3,k4,k5,k6⟩:=h b n ab bb pv sv e h1;exact⟨by omega,by omega,by omega,fun q hq=>Zp hb (k4 q hq),fun q hq=>Zp hb (k5 q hq),fun vs hv i hi q hq=>Zp hb (k6 vs hv i hi q hq)⟩
def QV.mono (h:QV B H v) (hb:B'<=B):QV B' H v:=fun v e he=>(h v e he).mono hb
def QV.z (B:Nat) (H:Hp) (e:ZR):QV B H (ZZ #[Z7 ZU,e]):=fun v e' he b n ab bb pv sv hv=>by
 simp only[Value.tuple.injEq,Array.mk.injEq,List.cons.injEq]at he;rw[<-he.1]at hv
 cases hv
def jK (L:List (Int×Int)) (a b:Nat):Bool:=ZQ ((((a:Nat):Int),((b:Nat):Int))∈L)
def kj (n:Int) (p:Int×Int):Prop:=0<=p.1/\p.1<n/\0<=p.2/\p.2<n
def uu (n:Int):Prop:=n<0\/256<n
def GW (n:Int) (L:List (Int×Int)) (r:ZR) (H:Hp):Prop:=
 (uu n/\r=ZZ #[Z7 ZU,Z8 ZY 1])\/(¬uu n/\(¬∀p∈L,kj n p)/\r=ZZ #[Z7 ZU,Z8 ZY 2])∨
 (¬uu n/\(∀p∈L,kj n p)/\¬Eu (jK L)/\r=ZZ #[Z7 ZU,Z8 ZY 16])∨
 (¬uu n/\(∀p∈L,kj n p)/\Eu (jK L)/\∃pv,r=ZZ #[pv,Z8 ZY 0]/\yn H pv n.toNat (jK L))
def toN (p:Int×Int):NP:=(p.1.toNat,p.2.toNat)
def toN_flat {n:Int}:∀{L:List (Int×Int)},(∀p∈L,kj n p)->(L.map toN).flatMap nE=L.flatMap pE
 |[],_=>rfl
 |p::L,h=>by
  obtain⟨h1,h2,h3,h4⟩:=h p (by simp);rw[List.map_cons,Zq,Zq,toN_flat fun q hq=>h q (by simp[hq])]
  congr 1
  simp only[nE,toN,pE,X8 h1,X8 h3]
def toN_rel {n:Int} {L:List (Int×Int)} (h:∀p∈L,kj n p):P8 (L.map toN)=jK L:=by
 funext a b
 unfold P8 jK;rw[decide_eq_decide,XR]
 constructor
 ·rintro⟨p,hp,e⟩;obtain⟨h1,_,h3,_⟩:=h p hp;simp only[toN,Prod.mk.injEq]at e;have:p=((a:Int),(b:Int)):=Prod.ext (by simp;omega) (by simp;omega);rw[<-this];exact hp
 ·intro hp;exact⟨_,hp,by simp[toN]⟩
def we (P:Program) (V:aH) (k:FuncId):Prop:=∀(n:Int) (L:List (Int×Int)) (v:ZR) (H:Hp),bh V H->rP H v L->L.length<1000000->an P k #[Z8 ZY n,v] H fun r H'=>GW n L r H'/\af (fun _=>False) H H'/\QV H.size H' r
def aaO {P:Program} {V:aH} {k:FuncId} (hk:ak P k (GS V) GU 2) (hso:rQ P (V.f 198) (V.f 200)) (hcl:EL P (V.f 192)) (hco:EM P (V.f 193)) (hos:yN P (V.f 195)) (hre:RelSpec P V (V.f 197)):we P V k:=by
 intro n L v H hT hv hn;refine ah hk (args:=[_,_]) (by simp) ?_;unfold GS GU kA kB kF kC kD ke kH kK kN kO kP kS kT kU kV kc kd kf kg kY kZ
 by_cases xX:n<0
 ·have e1:ZQ (n<0)=ZT:=decide_eq_true xX;simp only[go_sem,zS,↓reduceIte,Za,Zb,Zc,reduceCtorEq,ae,e1,ZE];exact⟨.inl ⟨.inl xX,rfl⟩,af.refl _ _,QV.z _ _ _⟩
 have e1:ZQ (n<0)=ZS:=decide_eq_false xX
 by_cases hn2:n>256
 ·have e2:ZQ (n>256)=ZT:=decide_eq_true hn2;simp only[go_sem,zS,↓reduceIte,Za,Zb,Zc,reduceCtorEq,ae,e1,e2,ZB];exact⟨.inl ⟨.inr hn2,rfl⟩,af.refl _ _,QV.z _ _ _⟩
 have e2:ZQ (n>256)=ZS:=decide_eq_false hn2;have rZ:¬uu n:=by unfold uu;omega
 simp only[go_sem,zS,↓reduceIte,Za,Zb,Zc,reduceCtorEq,ae,e1,e2,ZB,hv.aq,hv.cP,hv.len];refine aT [19,7,36,4,5,18] rfl (fun m f A=>∃i:Nat,i<=L.length/\m=L.length -i/\f 18=Z8 ZY i/\(∀p∈L.take i,kj n p)/\af (fun _=>False) H A) L.length ?_ ?_
 ·exact⟨0,by omega,by omega,by simp only[go_sem,zS,↓reduceIte,Za,Zb,Zc,reduceCtorEq,ae];rfl,by simp,af.refl _ _⟩
 rintro m f H1 ⟨i,hi,rfl,hf,hok,K1⟩;have s1:=K1.size;simp only[go_sem,zS,↓reduceIte,Za,Zb,Zc,reduceCtorEq,ae]at hf;simp only[go_sem,zS,↓reduceIte,Za,Zb,Zc,reduceCtorEq,hf];refine aN (fun hlt=>?_) (fun ki=>?_)
 ·have hlt:i<L.length:=by omega
  have hv1:=hv.aj K1;obtain⟨pb,po,pc,rfl,hpq,hld⟩:=hv1.elem dy hlt;obtain⟨p,hp⟩:∃p,p=L[i]:=⟨_,rfl⟩
  rw[<-hp]at hld;have dm:aQ H1 ⟨pb,po+i*2,ZU⟩ 2=ZV #[Z8 ZY p.1,Z8 ZY p.2]:=hld;simp only[go_sem,zS,↓reduceIte,Za,Zb,Zc,reduceCtorEq,zF,al,aC,dm];refine⟨by omega,?_⟩;refine ax fun H2 b2 e2' z2 B2 K2=>?_;have s2:=K2.size;have hst:=B2.bG (o:=0) (n:=2) (by simp);have B3:=B2.aB 0 [Z8 ZY p.1,Z8 ZY p.2];have K3:af (fun q=>q=b2) H2 (aB H2 ⟨b2,0,ZU⟩ [Z8 ZY p.1,Z8 ZY p.2]):=(af.refl _ _).aB _ (.inl rfl);simp only[go_sem,zS,↓reduceIte,Za,Zb,Zc,reduceCtorEq,zF,hst];refine⟨fun x hx=>by simp at hx;rcases hx with rfl|rfl<;>rfl,?_⟩;rw[ae];generalize aB H2 ⟨b2,0,ZU⟩ [Z8 ZY p.1,Z8 ZY p.2]=H3 at B3 K3⊢;have cB0:cell H3 ⟨b2,0,ZU⟩=ZV (Z8 ZY p.1):=by rw[B3.cell];rfl
  have cB1:cell H3 ⟨b2,1,ZU⟩=ZV (Z8 ZY p.2):=by rw[B3.cell];rfl
  have mD:af (fun _=>False) H H3:=(K1.trans K2).dk K3 (by omega);have hpL:p∈L:=by rw[hp];exact ZL _
  by_cases h1:(if p.2<p.1 then p.2 else p.1)<0
  ·have e3:ZQ ((if p.2<p.1 then p.2 else p.1)<0)=ZT:=decide_eq_true h1;simp only[go_sem,zS,↓reduceIte,Za,Zb,Zc,reduceCtorEq,ae,hf,cB0,cB1,e3,ZE];refine⟨by omega,by omega,rfl,.inr (.inl ⟨rZ,fun h=>?_,rfl⟩),mD,QV.z _ _ _⟩;have:=h p hpL;unfold kj at this;split at h1<;>omega
  ·have e3:ZQ ((if p.2<p.1 then p.2 else p.1)<0)=ZS:=decide_eq_false h1
   by_cases h2:(if p.2>p.1 then p.2 else p.1)≥n
   ·have e4:ZQ ((if p.2>p.1 then p.2 else p.1)≥n)=ZT:=decide_eq_true h2;simp only[go_sem,zS,↓reduceIte,Za,Zb,Zc,reduceCtorEq,ae,hf,cB0,cB1,e3,e4,ZB];refine⟨by omega,by omega,rfl,by omega,by omega,rfl,.inr (.inl ⟨rZ,fun h=>?_,rfl⟩),mD,QV.z _ _ _⟩;have:=h p hpL;unfold kj at this;split at h2<;>omega
   ·have e4:ZQ ((if p.2>p.1 then p.2 else p.1)≥n)=ZS:=decide_eq_false h2;simp only[go_sem,zS,↓reduceIte,Za,Zb,Zc,reduceCtorEq,ae,hf,cB0,cB1,e3,e4,ZB];refine⟨by omega,by omega,rfl,by omega,by omega,rfl,L.length -(i+1),by omega,i+1,by omega,rfl,by rw[ZN _ (by omega)];rfl,fun q hq=>?_,mD⟩;rw[Zw hlt,List.mem_append]at hq;rcases hq with hq|hq
    ·exact hok q hq
    ·simp only[List.mem_singleton]at hq;rw[<-hp]at hq;subst hq;unfold kj
     split at h1<;>split at h2<;>omega
 ·have:i=L.length:=by omega
  subst this;rw[ZI]at hok;have hv1:=hv.aj K1;refine aG fun H2 b2 e2' z2 B2 K2=>?_;have s2:=K2.size;simp only[go_sem,zS,↓reduceIte,Za,Zb,Zc,reduceCtorEq];have hx:bk nE 2 H2 v (L.map toN):=(hv1.aj K2).conv (by simp) (toN_flat hok);have ph:cr nE 2 H2 (Z6 (ZV ⟨b2,0,ZU⟩) 0 0) []:=cr.bl B2 rfl (by omega) (by omega) (by simp);refine rO (l:=([]:List NP)) (m:=L.map toN) H.size mu Qa ph (fun q hq=>by have hq:q=b2:=hq;omega) (by omega) hx rfl (by omega) (by simp;omega) fun v3 H3 O3 own3 K3=>?_;rw[List.nil_append]at O3;have s3:=K3.size;have hR:yG n.toNat (P8 (L.map toN)):=yG.P8 fun q hq=>by
   obtain⟨p,hp,rfl⟩:=List.mem_map.1 hq;obtain⟨h1,h2,h3,h4⟩:=hok p hp;exact⟨by simp only[toN];omega,by simp only[toN];omega⟩
  have hlm:∀q∈L.map toN,q.1<256/\q.2<256:=fun q hq=>by
   obtain⟨p,hp,rfl⟩:=List.mem_map.1 hq;obtain⟨h1,h2,h3,h4⟩:=hok p hp;exact⟨by simp only[toN];omega,by simp only[toN];omega⟩
  have hlr:∀q∈L.map toN,q.1<n.toNat/\q.2<n.toNat:=fun q hq=>by
   obtain⟨p,hp,rfl⟩:=List.mem_map.1 hq;obtain⟨h1,h2,h3,h4⟩:=hok p hp;exact⟨by simp only[toN];omega,by simp only[toN];omega⟩
  simp only[go_sem,zS,↓reduceIte,Za,Zb,Zc,reduceCtorEq,ae];refine(hso _ v3 H3 O3 hlm (by simp;omega)).mono ?_;rintro r H4 ⟨rfl,⟨l',aee,GO,O4⟩,K4⟩;have s4:=K4.size;have hl4:l'.length=L.length:=by rw[aee.length_eq];simp
  simp only[go_sem,zS,↓reduceIte,Za,Zb,Zc,reduceCtorEq,ae];refine(hco l' v3 H4 O4 (by omega)).mono ?_;rintro r5 H5 ⟨S5,own5,K5⟩;have s5:=K5.size;rw[P9 aee GO hlr]at S5;simp only[go_sem,zS,↓reduceIte,Za,Zb,Zc,reduceCtorEq,ae];refine(hcl _ r5 H5 S5).mono ?_;rintro r6 H6 ⟨S6,own6,rfl⟩;obtain⟨pa,pc,rfl,hpc⟩:=S6.mk;rw[ae];simp only[go_sem,zS,↓reduceIte,Za,Zb,Zc,reduceCtorEq,zF,ahJ,ahK];refine⟨by omega,?_⟩;refine ax fun H7 b7 e7 z7 B7 K7=>?_;have s7:=K7.size;have hnn:((n.toNat:Nat):Int)=n:=by unfold uu at rZ;omega
  have B7':Bl H7 b7 [Z8 ZY ((n.toNat:Nat):Int),.slice pa (dP n.toNat (P8 (L.map toN))).length pc,Z6 ZU 0 0,Z6 ZU 0 0,Z6 ZU 0 0]:=by rw[hnn];exact B7
  have S7:=S6.aj K7;have oz:∀q,aV (.slice pa (dP n.toNat (P8 (L.map toN))).length pc) q->q≠b7:=fun q hq=>by have:=S6.bo hq;omega
  have DQ:af (fun _=>False) H H6:=((K1.trans K2).gK K3 (ZH _)).trans' (K4.trans K5) (fun j hj h=>by have:=own3 j h;omega);simp only[go_sem,zS,↓reduceIte,Za,Zb,Zc,reduceCtorEq,ae];refine(hos n.toNat _ b7 _ _ _ H7 (by unfold uu at rZ;omega) hR B7' S7 oz).mono ?_;rintro r H8 ⟨rfl,⟨sv,B8,O8,own8⟩,K8⟩;have s8:=K8.size;have K08:af (fun _=>False) H H8:=(DQ.trans K7).dk K8 (by omega);rw[toN_rel hok]at*
  by_cases hA:Eu (jK L)
  ·have e:ZQ ((DO n.toNat (jK L)).length=n.toNat)=ZT:=decide_eq_true ((Aa hR).2 hA);simp only[go_sem,zS,↓reduceIte,Za,Zb,Zc,reduceCtorEq,ae,e,ZE];have S8:=S7.ai K8 oz;have FY:V.g 125≠b7:=by have:=(show Bl H (V.g 125) _ from hT).lt;omega
   have Pg:∀q,aV sv q->q≠b7:=fun q hq=>by have:=own8 q (O8.aV hq);omega
   refine(hre n.toNat _ b7 _ sv H8 (by unfold uu at rZ;omega) hR hA (hT.ai K08) FY B8 S8 oz O8.sl Pg).mono ?_;rintro r H9 ⟨rfl,⟨ab,bb,avs,LG,C,B9,A9,D9,h1,h2,h3⟩,K9⟩;simp only[go_sem,zS,↓reduceIte,Za,Zb,Zc,reduceCtorEq,ae];refine⟨.inr (.inr (.inr ⟨rZ,hok,hA,_,rfl,?_⟩)),K08.dk K9 (by omega),fun v' e' he b n' ab' bb' pv' tV hv' rB=>?_⟩
   rotate_left
   ·simp only[Value.tuple.injEq,Array.mk.injEq,List.cons.injEq,and_true]at he;rw[<-he.1]at hv'
    cases hv'
    have hl:=B9.uniq rB;simp only[List.cons.injEq,Value.int.injEq,Value.slice.injEq,Option.some.injEq,Addr.mk.injEq,and_true,true_and]at hl;obtain⟨l1,l2,l3,l4,l5⟩:=hl;obtain⟨rfl,-⟩:=l3;obtain⟨rfl,-⟩:=l4;subst l5;refine⟨by omega,by omega,by omega,fun q hq=>?_,fun q hq=>?_,fun vs hvs i hi q hq=>?_⟩
    ·rw[<-l2]at hq;have:=own3 q (own5 q (own6 q hq));omega
    ·have:=own8 q (O8.aV hq);omega
    ·rcases hvs with hvs|hvs
     ·have:=hvs.uniq A9.bl;subst this;have:=A9.ge i (by omega) q hq;omega
     ·have:=hvs.uniq D9.bl;subst this;have:=D9.ge i (by omega) q hq;omega
   exact⟨by unfold uu at rZ;omega,hR,hA,b7,_,sv,ab,bb,avs,LG,C,rfl,B9,S8.ai K9 oz,A9,D9,O8.sl.ai K9 Pg⟩
  ·have e:ZQ ((DO n.toNat (jK L)).length=n.toNat)=ZS:=decide_eq_false fun h=>hA ((Aa hR).1 h);simp only[go_sem,zS,↓reduceIte,Za,Zb,Zc,reduceCtorEq,ae,e,ZB];exact⟨.inr (.inr (.inl ⟨rZ,hok,hA,rfl⟩)),K08,QV.z _ _ _⟩
end Go.Mg
namespace Go.Mg
open Go Go.RowKit
def GX (V:aH):S:=
 kY [kC 2 (kZ)] (.seq (kY [kA 3 0,kV 4 (.m (.eqn .sl ZS (.t 3)))] (.ite (.v 4) (kY [kC 2 (kZ)] .ret) .skip)) (kY [kc 5 (.aX (V.t 194) 2 0 []),kA 6 0,kc 7 (.app ZS (V.t 194) 2 16 #[Z8 ZY 0,Z8 ZY 0] (.t 5) (.t 6)),kB 2 7] .ret))
def GY:List RV:=[.t 2]
abbrev OO:=Option (Nat×(Nat->Nat->Bool))
def afH (H:Hp) (v:ZR):OO->Prop
 |none=>v=Z7 ZU
 |some o=>yn H v o.1 o.2
variable {H H':Hp} {v:ZR} {n:Nat} {R:Nat->Nat->Bool}
def afH.aj {o:OO} (h:afH H v o) (hk:af (fun _=>False) H H'):afH H' v o:=by
 cases o with
 |none=>exact h
 |some o=>exact yn.aj h hk
def LH (D:Nat) (H:Hp) (v:ZR):Prop:=∀b n ab bb pv sv vs,v=Z7 (ZV ⟨b,0,ZU⟩)->Bl H b [Z8 ZY ((n:Nat):Int),pv,Z6 (ZV ⟨ab,0,ZU⟩) n n,Z6 (ZV ⟨bb,0,ZU⟩) n n,sv]->(Bl H ab vs\/Bl H bb vs)->∀i<n,∀q,aV (vs.getD i undef) q->q<D
def ahL {n':Nat} {pv pv' sv tV:ZR} {ab bb ab' bb':Nat} (h: [Value.int ZY ((n:Nat):Int),pv,Z6 (ZV ⟨ab,0,ZU⟩) n n,Z6 (ZV ⟨bb,0,ZU⟩) n n,sv]=[Z8 ZY ((n':Nat):Int),pv',Z6 (ZV ⟨ab',0,ZU⟩) n' n',Z6 (ZV ⟨bb',0,ZU⟩) n' n',tV]):n=n'/\ab=ab'/\bb=bb':=by
 simp only[List.cons.injEq,Value.int.injEq,Value.slice.injEq,Option.some.injEq,Addr.mk.injEq,and_true,true_and]at h;exact⟨by omega,h.2.2.1.1,h.2.2.2.1.1⟩
def yn.db (h:yn H v n R):LH H.size H v:=by
 obtain⟨h1,h2,h3,b,pv,sv,ab,bb,avs,LG,C,rfl,g1,g2,g3,g4,g5⟩:=h;intro b' n' ab' bb' pv' tV vs e hb hv i hi q hq
 cases e
 obtain⟨rfl,rfl,rfl⟩:=ahL (g1.uniq hb);rcases hv with hv|hv
 ·have:=hv.uniq g3.bl;subst this;exact(g3.at_ i hi).bo hq
 ·have:=hv.uniq g4.bl;subst this;exact(g4.at_ i hi).bo hq
def LH.aj {D:Nat} (h:yn H v n R) (hd:LH D H v) (hk:af (fun _=>False) H H'):LH D H' v:=by
 obtain⟨h1,h2,h3,b,pv,sv,ab,bb,avs,LG,C,rfl,g1,g2,g3,g4,g5⟩:=h;intro b' n' ab' bb' pv' tV vs e hb hv i hi q hq
 cases e
 obtain⟨rfl,rfl,rfl⟩:=ahL ((hk.bl g1 id).uniq hb);rcases hv with hv|hv
 ·have:=hv.uniq (hk.bl g3.bl id);subst this;exact hd b n ab bb pv sv _ rfl g1 (.inl g3.bl) i hi q hq
 ·have:=hv.uniq (hk.bl g4.bl id);subst this;exact hd b n ab bb pv sv _ rfl g1 (.inr g4.bl) i hi q hq
def GW.wg {L:List (Int×Int)} {r:ZR} (hn:n<=256) (h:GW (n:Int) L r H) (h1:∀p∈L,kj (n:Int) p) (h2:Eu (jK L)):∃v,r=ZZ #[v,Z8 ZY 0]/\yn H v n (jK L):=by
 rcases h with⟨h,_⟩|⟨_,h,_⟩|⟨_,_,h,_⟩|⟨_,_,_,v,h3,h4⟩
 ·unfold uu at h;omega
 ·exact absurd h1 h
 ·exact absurd h2 h
 ·rw[Int.toNat_natCast]at h4;exact⟨v,h3,h4⟩
end Go.Mg

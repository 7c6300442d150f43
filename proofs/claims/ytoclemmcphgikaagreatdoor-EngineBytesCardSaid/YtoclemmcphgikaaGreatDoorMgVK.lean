/- Lemmas of ours. No conditions. -/
import Derived.Test.YtoclemmcphgikaaGreatDoorMgHArg
open Bool renaming false→ZS,true→ZT
open Decidable renaming decide→ZQ
open Go renaming Value→ZR
open Go.IntKind renaming i64→ZY
open Go.Value renaming agg→Z0,bool→Z5,int→Z8
open Option renaming none→ZU,some→ZV
open Bool renaming and_eq_true→ZJ,and_false→Ya,eq_iff_iff→YU,false_and→Yy
open Classical renaming byContradiction→Zn,propDecidable→Xu
open List renaming eq_nil_of_length_eq_zero→YG,ext_getElem→Xx,getElem_mem→ZL,getElem_of_mem→ZC,map→Wc
open Prod renaming ext→Vz
open Nat renaming reduceEqDiff→Za,reduceAdd→Zb,reduceMul→Zc
set_option maxRecDepth 100000
set_option linter.all false
namespace Go.Mg
open Go Go.RowKit
def ac8 {a b:List UInt64} (h:cj a=cj b):a=b:=by
 unfold cj at h;refine(List.map_inj_right fun x y e=>?_).1 h;simp only[Value.int.injEq,true_and]at e;exact UInt64.toNat_inj.1 (by omega)
variable {a b:tW} {H:Hp} {x:MV} {α:Type} {i:Nat} {P:Program} {V:aH} {k:FuncId} {ms:List MV} {mo:List tW}
def aP.TC {v:ZR} {l m:List ZR} (h:aP H v l) (k:aP H v m):l=m:=by
 have hl:l.length=m.length:=h.len.symm.trans k.len;rcases h with⟨a,c,rfl,rfl⟩|⟨b,o,c,h0,rfl,-,C,T,z,h1,-,h3⟩
 ·exact(YG hl.symm).symm
 ·rcases k with⟨a',c',e,rfl⟩|⟨b',o',c',k0,e,-,C',T',z',k1,-,k3⟩
  ·exact YG hl
  ·simp only[Value.slice.injEq,Option.some.injEq,Addr.mk.injEq,and_true]at e;obtain⟨⟨rfl,rfl⟩,-,rfl⟩:=e;rw[h1]at k1
   cases k1
   rw[<-h3,hl,k3]
def aR.TC {x:ZR} {p q:Nat->Bool} (h:aR H x p) (k:aR H x q) (n:Nat):p n=q n:=by
 obtain⟨v,W,rfl,hv⟩:=h;obtain⟨v',W',e,hw⟩:=k;simp only[Value.agg.injEq,Array.mk.injEq,List.cons.injEq,and_true]at e;subst e;rw[<-hv.is,<-hw.is,ac8 (hv.sl.TC hw.sl)]
def Jt (X:List (Nat×Option IntKind)) (V:aH):S:=
 kY [kC 4 (Z5 ZS)] (.seq (kY [kA 6 0,kL 7 6,kA 8 1,kL 9 8,kV 10 (.cm .neq ZY (.t 7) (.t 9))] (.ite (.v 10) (kY [kC 4 (Z5 ZS)] .ret) .skip)) (.seq (kY [kA 11 0,kV 12 (.m (.lenl (.t 11))),kC 13 (Z8 ZY 0)] (.blk 0 (.loop (kY [kH 14 13 12] (.seq (.ite (.v 14) .skip (.exit 0)) (.seq (.blk 1 (kY [kA 15 13,kB 5 15] (kY [kA 16 0,kA 17 5,kI 18 2 16 17,kN 19 2 18,kA 20 1,kA 21 5,kI 22 2 20 21,kN 23 2 22,kV 24 (.m (.eqs ZT X (.t 19) (.t 23)))] (.ite (.v 24) (kY [kC 4 (Z5 ZS)] .ret) .skip)))) (.reg [ke 25 13,kB 13 25]))))))) (kY [kC 4 (Z5 ZT)] .ret)))
def Ju:List RV:=[.t 4]
def TD (V:aH):S:=
 kY [kC 4 (Z5 ZS)] (.seq (kY [kA 6 0,kL 7 6,kA 8 1,kL 9 8,kV 10 (.cm .neq ZY (.t 7) (.t 9))] (.ite (.v 10) (kY [kC 4 (Z5 ZS)] .ret) .skip)) (.seq (kY [kA 11 0,kV 12 (.m (.lenl (.t 11))),kC 13 (Z8 ZY 0)] (.blk 0 (.loop (kY [kH 14 13 12] (.seq (.ite (.v 14) .skip (.exit 0)) (.seq (.blk 1 (kY [kA 15 13,kB 5 15] (kY [kA 16 0,kA 17 5,kI 18 2 16 17,kN 19 2 18,kA 20 1,kA 21 5,kI 22 2 20 21,kN 23 2 22,kV 24 (.m (.eqa ZT ZY 2 (.t 19) (.t 23)))] (.ite (.v 24) (kY [kC 4 (Z5 ZS)] .ret) .skip)))) (.reg [ke 25 13,kB 13 25]))))))) (kY [kC 4 (Z5 ZT)] .ret)))
def TE:List RV:=[.t 4]
def Jv (V:aH):S:=
 kY [kC 6 (Z5 ZS)] (.seq (kY [kA 10 0,kL 11 10,kA 12 1,kL 13 12,kV 14 (.cm .neq ZY (.t 11) (.t 13))] (.ite (.v 14) (kY [kC 6 (Z5 ZS)] .ret) .skip)) (.seq (kY [kV 15 (.mv (.v 0)),kO 16 15,kC 17 (Z8 ZY 0)] (.blk 0 (.loop (kY [kH 18 17 16] (.seq (.ite (.v 18) .skip (.exit 0)) (.seq (.blk 1 (kY [kA 19 17,kK 20 2 15 17,kN 21 2 20,kd 8 (.new (V.t 298) #[Z8 ZY 0,kZ]),kB 7 19,kf (.stn 2 (.v 8) (.t 21))] (kY [kA 22 1,kA 23 7,kI 24 2 22 23,kN 25 2 24,kd 9 (.new (V.t 298) #[Z8 ZY 0,kZ]),kf (.stn 2 (.v 9) (.t 25))] (kY [kA 26 2,kM 27 2 8,kM 28 2 9,kc 29 (.callv (.t 26) [.t 27,.t 28]),kV 30 (.not (.t 29))] (.ite (.v 30) (kY [kC 6 (Z5 ZS)] .ret) .skip))))) (.reg [ke 31 17,kB 17 31]))))))) (kY [kC 6 (Z5 ZT)] .ret)))
def Jw:List RV:=[.t 6]
def Jx (V:aH):S:=
 kY [kR 2 (V.t 298) 0,kR 3 (V.t 298) 1,kC 4 (Z5 ZS)] (kY [kG 5 0 2,kD 6 5,kG 7 0 3,kD 8 7,kU 9 (.cm .eql ZY (.t 6) (.t 8)),kF 10 9,kT 11 10 ZT (.fa 1 (.v 2)),kT 12 10 ZT (.m (.ldn 1 (.t 11))),kT 13 10 ZT (.fa 1 (.v 3)),kT 14 10 ZT (.m (.ldn 1 (.t 13))),.ge (.t 15) (.t 10) ZT (kg (V.f 140) [.t 12,.t 14]),kJ 16 10 15,kB 4 16] .ret)
def Jy:List RV:=[.t 4]
def TF (V:aH):S:=
 kY [kR 2 (V.t 296) 0,kR 3 (V.t 296) 1,kC 4 (Z5 ZS)] (kY [kG 5 0 2,kD 6 5,kG 7 0 3,kD 8 7,kc 9 (kg (V.f 332) [.t 6,.t 8]),kF 10 9,kT 11 10 ZT (.fa 1 (.v 2)),kT 12 10 ZT (.ld (.t 11)),kT 13 10 ZT (.fa 1 (.v 3)),kT 14 10 ZT (.ld (.t 13)),.ge (.t 15) (.t 10) ZT (kg (V.f 229) [.t 12,.t 14]),kJ 16 10 15,kF 17 16,kT 18 17 ZT (.fa 2 (.v 2)),kT 19 17 ZT (.ld (.t 18)),kT 20 17 ZT (.fa 2 (.v 3)),kT 21 17 ZT (.ld (.t 20)),.ge (.t 22) (.t 17) ZT (kg (V.f 229) [.t 19,.t 21]),kJ 23 17 22,kF 24 23,kT 25 24 ZT (.fa 3 (.v 2)),kT 26 24 ZT (.ld (.t 25)),kT 27 24 ZT (.fa 3 (.v 3)),kT 28 24 ZT (.ld (.t 27)),.ge (.t 29) (.t 24) ZT (kg (V.f 229) [.t 26,.t 28]),kJ 30 24 29,kF 31 30,kT 32 31 ZT (.fa 4 (.v 2)),kT 33 31 ZT (.ld (.t 32)),kT 34 31 ZT (.fa 4 (.v 3)),kT 35 31 ZT (.ld (.t 34)),.ge (.t 36) (.t 31) ZT (kg (V.f 330) [.t 33,.t 35,.c (.func (.func (V.f 331)) #[] #[])]),kJ 37 31 36,kB 4 37] .ret)
def TG:List RV:=[.t 4]
def aeE (V:aH):S:=Jt [(0,ZU),(1,ZV ZY)] V
def TH (l:List ZR):gL (.agg l.toArray)=l:=rfl
def aiR (x y:Int×Int):(Wc Value.i (pE x)==Wc Value.i (pE y))=ZQ (x=y):=by
 obtain⟨x1,x2⟩:=x;obtain⟨y1,y2⟩:=y;rw[YU];simp[pE,Value.i]
def Jz (x:Int×Int):∀v∈(pE x).toArray,ju ZY v:=by
 intro v hv;simp[pE]at hv;rcases hv with rfl|rfl<;>rfl
def step_eq {l m:List α} (hx:∀j,(h1:j<l.length)->(h2:j<m.length)->j<i->l[j]=m[j]) (h1:i<l.length) (h2:i<m.length) (h:l[i]=m[i]):∀j,(h1:j<l.length)->(h2:j<m.length)->j<i+1->l[j]=m[j]:=fun j h1 h2 hj=>by
 by_cases e:j=i
 ·subst e;exact h
 ·exact hx j h1 h2 (by omega)
def qZ {α:Type} [DecidableEq α] (enc:α->List ZR) (P:Program) (k:FuncId):Prop:=∀(l m:List α) (v w:ZR) (H:Hp),bk enc 2 H v l->bk enc 2 H w m->l.length<=1000000->m.length<=1000000->an P k #[v,w] H fun r H'=>r=.bool (ZQ (l=m))/\H'=H
def ac9 [DecidableEq α] {enc:α->List ZR} (hen:∀x,(enc x).length=2) {X:List (Nat×Option IntKind)} (hO:∀x,DX X (enc x)) (hE:∀x y,ye X (enc x) (enc y)=ZQ (x=y)) (hk:ak P k (Jt X V) Ju 2):qZ enc P k:=by
 intro l m v w H hv hw hl hm;refine ah hk (args:=[_,_]) (by simp) ?_;unfold Jt Ju kA kB kC ke kH kI kL kN kV kY
 by_cases hlm:l.length=m.length
 ·have e0:((m.length:Int)!=(m.length:Int))=ZS:=by simp
  simp only[go_sem,Za,Zb,ae,hv.aq,hv.len,hw.aq,hw.len,hlm,e0];refine aF m.length [14,13,24,4,5] rfl rfl (by omega) (by rfl) (by rfl) (fun i g A=>(∀j,(h1:j<l.length)->(h2:j<m.length)->j<i->l[j]=m[j])/\A=H) ⟨fun j _ _ h=>by omega,rfl⟩ ?_ ?_
  ·rintro i g A hi gi gn ⟨hx,rfl⟩;simp only[go_sem,Za,Zb,ae]at gi gn;have iU:i<l.length:=by omega
   obtain⟨b,o,c,rfl,-,h1⟩:=hv.elem (enc:=enc) (by first|exact hen|exact dy) (i:=i) iU;obtain⟨b2,o2,c2,rfl,-,h2⟩:=hw.elem (enc:=enc) (by first|exact hen|exact dy) (i:=i) hi
   by_cases h:l[i]=m[i]
   ·simp only[go_sem,Za,Zb,ae,gi,al,aC,h1,h2,hlm,TH,hO,hE,h];exact⟨by omega,by omega,fun j h1 h2=>step_eq hx iU hi h j (by omega) h2⟩
   ·have e2:ZQ (l=m)=ZS:=decide_eq_false fun e=>h (by subst e;rfl);simp only[go_sem,Za,Zb,ae,gi,al,aC,h1,h2,hlm,TH,hO,hE,h,e2];exact⟨by omega,by omega⟩
  ·rintro g A gi ⟨hx,rfl⟩;have e2:l=m:=Xx hlm fun i h1 h2=>hx i h1 h2 h2;simp only[go_sem,Za,Zb,ae,decide_eq_true e2]
 ·have e0:((l.length:Int)!=(m.length:Int))=ZT:=by rw[bne_iff_ne];omega
  have e2:ZQ (l=m)=ZS:=decide_eq_false (fun e=>hlm (by rw[e]));simp only[go_sem,Za,Zb,ae,hv.aq,hv.len,hw.aq,hw.len,e0,e2]
def agH (hk:ak P k (TD V) TE 2):qZ pE P k:=by
 intro l m v w H hv hw hl hm;refine ah hk (args:=[_,_]) (by simp) ?_;unfold TD TE kA kB kC ke kH kI kL kN kV kY
 by_cases hlm:l.length=m.length
 ·have e0:((m.length:Int)!=(m.length:Int))=ZS:=by simp
  simp only[go_sem,Za,Zb,ae,hv.aq,hv.len,hw.aq,hw.len,hlm,e0];refine aF m.length [14,13,24,4,5] rfl rfl (by omega) (by rfl) (by rfl) (fun i g A=>(∀j,(h1:j<l.length)->(h2:j<m.length)->j<i->l[j]=m[j])/\A=H) ⟨fun j _ _ h=>by omega,rfl⟩ ?_ ?_
  ·rintro i g A hi gi gn ⟨hx,rfl⟩;simp only[go_sem,Za,Zb,ae]at gi gn;have iU:i<l.length:=by omega
   obtain⟨b,o,c,rfl,-,h1⟩:=hv.elem (enc:=pE) (by first|exact hen|exact dy) (i:=i) iU;obtain⟨b2,o2,c2,rfl,-,h2⟩:=hw.elem (enc:=pE) (by first|exact hen|exact dy) (i:=i) hi
   by_cases h:l[i]=m[i]
   ·simp only[go_sem,Za,Zb,ae,gi,al,aC,h1,h2,hlm,aiR,dy,h];exact⟨⟨by omega,by omega⟩,⟨by omega,by omega⟩,Jz _,fun j h1 h2=>step_eq hx iU hi h j (by omega) h2⟩
   ·have e2:ZQ (l=m)=ZS:=decide_eq_false fun e=>h (by subst e;rfl);simp only[go_sem,Za,Zb,ae,gi,al,aC,h1,h2,hlm,aiR,dy,h,e2];exact⟨⟨by omega,by omega⟩,⟨by omega,by omega⟩,Jz _,Jz _⟩
  ·rintro g A gi ⟨hx,rfl⟩;have e2:l=m:=Xx hlm fun i h1 h2=>hx i h1 h2 h2;simp only[go_sem,Za,Zb,ae,decide_eq_true e2]
 ·have e0:((l.length:Int)!=(m.length:Int))=ZT:=by rw[bne_iff_ne];omega
  have e2:ZQ (l=m)=ZS:=decide_eq_false (fun e=>hlm (by rw[e]));simp only[go_sem,Za,Zb,ae,hv.aq,hv.len,hw.aq,hw.len,e0,e2]
def aeF:List RV:=Ju
def agI (hk:ak P k (aeE V) aeF 2):qZ cB P k:=by
 refine ac9 (V:=V) (X:=[(0,ZU),(1,ZV ZY)]) dE (fun x=>⟨⟨by simp[cB],trivial⟩,⟨by simp[cB],rfl⟩,trivial⟩) (fun x y=>?_) hk;obtain⟨x1,x2⟩:=x;obtain⟨y1,y2⟩:=y;rw[YU];simp only[ye,cB,sV,List.getD_cons_zero,List.getD_cons_succ,Value.i,Value.s,toList_ba,Bool.and_true,ZJ,beq_iff_eq,decide_eq_true_eq,Prod.mk.injEq]
def eqL {α:Type} (q:α->α->Bool) (l m:List α):Bool:=ZQ (l.length=m.length)&&(l.zip m).all fun p=>q p.1 p.2
def TI {q:α->α->Bool} {l m:List α} (h:l.length≠m.length):eqL q l m=ZS:=by simp[eqL,h]
def TJ {q:α->α->Bool} {l m:List α} (h1:i<l.length) (h2:i<m.length) (h:q l[i] m[i]=ZS):eqL q l m=ZS:=by
 unfold eqL;rw[Bool.and_eq_false_iff]
 right
 rw[List.all_eq_false];exact⟨(l[i],m[i]),List.mem_iff_getElem.2 ⟨i,by simp;omega,by simp⟩,by simp[h]⟩
def Mp {q:α->α->Bool} {l m:List α} (hl:l.length=m.length) (h:∀i,(h1:i<l.length)->(h2:i<m.length)->q l[i] m[i]=ZT):eqL q l m=ZT:=by
 unfold eqL;rw[ZJ];refine⟨decide_eq_true hl,List.all_eq_true.2 fun p hp=>?_⟩;obtain⟨i,hi,rfl⟩:=ZC hp;simp at hi;simpa using h i (by omega) (by omega)
def EqC {α:Type} (P:Program) (enc:α->List ZR) (q:α->α->Bool) (l m:List α) (g:FuncId) (H:Hp):Prop:=bS P g=ZT/\∀x∈l,∀y∈m,∀A,af (fun _=>False) H A->an P g #[.agg (enc x).toArray,.agg (enc y).toArray] A fun r A'=>r=.bool (q x y)/\af (fun _=>False) A A'
def Mq {α:Type} (enc:α->List ZR) (k:Nat) (P:Program) (j:FuncId):Prop:=∀(l m:List α) (q:α->α->Bool) (v w:ZR) (g:FuncId) (H:Hp),bk enc k H v l->bk enc k H w m->l.length<=1000000->m.length<=1000000->EqC P enc q l m g H->an P j #[v,w,.func (.func g) #[] #[]] H fun r H'=>r=.bool (eqL q l m)/\af (fun _=>False) H H'
def ada {j:FuncId} (hk:ak P j (Jv V) Jw 3):Mq cq 2 P j:=by
 intro l m q v w g H hv hw hl hm ⟨hg,hq⟩;refine ah hk (args:=[_,_,_]) (by simp) ?_;unfold Jv Jw kA kB kC ke kH kI kK kL kM kN kO kV kc kd kf kY kZ
 by_cases hlm:l.length=m.length
 ·have e0:((m.length:Int)!=(m.length:Int))=ZS:=by simp
  simp only[go_sem,Za,Zb,ae,hv.aq,hv.len,hw.aq,hw.len,hlm,e0];refine aF m.length [18,17,8,7,9,30,6] rfl rfl (by omega) (by rfl) (by rfl) (fun i g A=>(∀j,(h1:j<l.length)->(h2:j<m.length)->j<i->q l[j] m[j]=ZT)/\af (fun _=>False) H A) ⟨fun j _ _ h=>by omega,af.refl _ _⟩ ?_ ?_
  ·rintro i f A hi gi gn ⟨hx,KA⟩;simp only[go_sem,Za,Zb,ae]at gi gn;have iU:i<l.length:=by omega
   obtain⟨b,o,c,e,-,h1⟩:=(hv.aj KA).elem dG (i:=i) iU;obtain⟨b2,o2,c2,e2,-,h2⟩:=(hw.aj KA).elem dG (i:=i) hi;simp only[go_sem,Za,Zb,gi,e,al,aC,h1,hlm];refine⟨⟨by omega,by omega⟩,?_⟩;refine cG (cq l[i]) (Z8 ZY (i:Int)) rfl (by rfl) (by rfl) rfl rfl (List.all_eq_true.2 (gD _)) fun A1 b8 e8 z8 B8 K8=>?_;obtain⟨b2',o2',c2',e2',-,MN⟩:=(hw.aj (KA.trans K8)).elem dG (i:=i) hi;simp only[go_sem,Za,Zb,gi,e2',al,aC,MN,hlm];refine⟨⟨by omega,by omega⟩,?_⟩;refine aO (cq m[i]) (by rfl) rfl rfl (List.all_eq_true.2 (gD _)) fun A2 b9 e9 z9 B9 K9=>?_;have K2:=K8.trans K9;simp only[go_sem,Za,Zb,(K9.bl B8 id).aL 2 rfl,B9.aL 2 rfl];refine⟨hg,(hq l[i] (ZL _) m[i] (ZL _) A2 (KA.trans K2)).mono ?_⟩;rintro r A3 ⟨rfl,K3⟩;rw[ae]
   cases hqq:q l[i] m[i]with
   |true=>
    simp only[go_sem,Za,Zb,ae,Bool.not_true];refine⟨fun j h1 h2 hj=>?_,KA.trans (K2.trans K3)⟩
    by_cases e:j=i
    ·subst e;exact hqq
    ·exact hx j (by omega) (by omega) (by omega)
   |false=>
    simp only[go_sem,Za,Zb,ae,Bool.not_false,TJ iU hi hqq];exact KA.trans (K2.trans K3)
  ·rintro f A gi ⟨hx,KA⟩;simp only[go_sem,Za,Zb,ae,Mp hlm fun i h1 h2=>hx i h1 h2 (by omega)];exact KA
 ·have e0:((l.length:Int)!=(m.length:Int))=ZT:=by rw[bne_iff_ne];omega
  simp only[go_sem,Za,Zb,ae,hv.aq,hv.len,hw.aq,hw.len,e0,TI hlm];exact af.refl _ _
def FG (P:Program) (k:FuncId):Prop:=bS P k=ZT/\∀(x y:MV) (a b:tW) (H:Hp),x.1=a.1->y.1=b.1->aR H (Z0 #[gP x]) (bt a.2)->aR H (Z0 #[gP y]) (bt b.2)->an P k #[.agg (cq x).toArray,.agg (cq y).toArray] H fun r H'=>r=.bool (ZQ (a=b))/\af (fun _=>False) H H'
def adb (hk:ak P k (Jx V) Jy 2) (he:o0 P (V.f 140)):FG P k:=by
 refine⟨hk.body,fun x y a b H hx hy sx sy=>?_⟩;refine ah hk (args:=[_,_]) (by simp) ?_;unfold Jx Jy kB kF kC kD kG kJ kR kT kU kg kY;simp only[go_sem,Za,Zb];refine ax fun A1 b1 e1 z1 B1 K1=>?_;have bL:Bl A1 b1 (cq x):=B1;simp only[go_sem,Za,Zb];refine ax fun A2 b2 e2 z2 B2 K2=>?_;have fG:Bl A2 b2 (cq y):=B2;have gI:=K2.bl bL id;have df:=K1.trans K2;have c1:cell A2 ⟨b1,0,ZU⟩=ZV (Z8 ZY x.1):=by rw[gI.cell];rfl
 have c2:cell A2 ⟨b2,0,ZU⟩=ZV (Z8 ZY y.1):=by rw[fG.cell];rfl
 have l1:aQ A2 ⟨b1,1,ZU⟩ 1=ZV #[gP x]:=gI.aQ (o:=1) (n:=1) (by simp[cq]);have l2:aQ A2 ⟨b2,1,ZU⟩ 1=ZV #[gP y]:=fG.aQ (o:=1) (n:=1) (by simp[cq])
 by_cases h:a.1=b.1
 ·have d1:(x.1==y.1)=ZT:=by rw[hx,hy];simpa using h
  simp-implicitDefEqProofs only[go_sem,↓reduceIte,Za,Zb,Zc,reduceCtorEq,ae,c1,c2,d1,aC,l1,l2,forall_const];refine(he _ _ _ _ A2 (sx.aj df) (sy.aj df)).mono ?_;rintro r A3 ⟨⟨c,rfl,hc⟩,K3⟩;rw[ae];simp only[go_sem,Za,Zb,ae];refine⟨?_,df.trans K3⟩
  congr 1
  rw[YU,hc];simp only[decide_eq_true_eq];exact⟨fun e=>Vz h (oP fun j _=>e j),fun e n=>by rw[e]⟩
 ·have d1:(x.1==y.1)=ZS:=by rw[hx,hy];simpa using h
  simp only[go_sem,Za,Zb,ae,c1,c2,d1,false_imp_iff];have:ZQ (a=b)=ZS:=decide_eq_false fun e=>h (by rw[e]);rw[this];exact⟨rfl,df⟩
def CN (F G:cf):Bool:=ZQ (F.st=G.st)&&ZQ (F.be=G.be)&&ZQ (F.di=G.di)&&ZQ (F.sa=G.sa)&&ZQ (F.mo=G.mo)
def FH {F G:cf}:CN F G=ZT↔F=G:=by
 unfold CN;simp only[ZJ,decide_eq_true_eq]
 constructor
 ·rintro⟨⟨⟨⟨h1,h2⟩,h3⟩,h4⟩,h5⟩
  cases F;cases G;simp_all
 ·rintro rfl;simp
def FI (H:Hp) (x:MV) (a:tW):Prop:=x.1=a.1/\aR H (Z0 #[gP x]) (bt a.2)
def FI.TC (h:FI H x a) (k:FI H x b):a=b:=Vz (h.1.symm.trans k.1) (oP fun n _=>h.2.TC k.2 n)
noncomputable def qM (H:Hp) (x y:MV):Bool:=@ZQ (∀a b,FI H x a->FI H y b->a=b) (Xu _)
def TK {y:MV} (h:FI H x a) (k:FI H y b):qM H x y=ZQ (a=b):=by
 rw[YU,decide_eq_true_eq];refine(@decide_eq_true_iff _ (Xu _)).trans ?_;exact⟨fun e=>e a b h k,fun e a' b' h' k'=>(h'.TC h).trans (e.trans (k.TC k'))⟩
def gY.is (h:gY H ms mo) (hx:x∈ms):∃a,FI H x a:=by
 obtain⟨i,hi,rfl⟩:=ZC hx;exact⟨_,h.at_ i hi (by rw[<-h.len];exact hi)⟩
def ade {ns:List MV} {no:List tW} (h1:gY H ms mo) (h2:gY H ns no):eqL (qM H) ms ns=ZQ (mo=no):=by
 by_cases hl:ms.length=ns.length
 ·have g1:=h1.len;have g2:=h2.len
  by_cases e:mo=no
  ·rw[decide_eq_true e];refine Mp hl fun i i1 i2=>?_;rw[TK (h1.at_ i i1 (by omega)) (h2.at_ i i2 (by omega))];subst e;exact decide_eq_true rfl
  ·rw[decide_eq_false e];obtain⟨i,i1,i2,hne⟩:∃i,∃(i1:i<mo.length) (i2:i<no.length),mo[i]≠no[i]:=by
    apply Zn;intro hn;exact e (Xx (by omega) fun i i1 i2=>Zn fun hc=>hn ⟨i,i1,i2,hc⟩)
   refine TJ (i:=i) (by omega) (by omega) ?_;rw[TK (h1.at_ i (by omega) i1) (h2.at_ i (by omega) i2)];exact decide_eq_false hne
 ·rw[TI hl]
  symm
  refine decide_eq_false fun e=>hl ?_;rw[h1.len,h2.len,e]
structure alI (P:Program) (V:aH):Prop where
 eS:qZ cB P (V.f 332)
 eP:qZ pE P (V.f 229)
 eM:Mq cq 2 P (V.f 330)
 e1:FG P (V.f 331)
def CO (P:Program) (k:FuncId):Prop:=∀(F G:cf) (v w:ZR) (H:Hp),bZ H v F->bZ H w G->SmK 1000 F->SmK 1000 G->an P k #[v,w] H fun r H'=>r=.bool (CN F G)/\af (fun _=>False) H H'
def agJ (hk:ak P k (TF V) TG 2) (c:alI P V):CO P k:=by
 intro F G v w H hv hw hF hG;obtain⟨s,b,d,a,m,ms,rfl,h1,h2,h3,h4,h5,h6⟩:=hv;obtain⟨s',b',d',a',m',ns,rfl,g1,g2,g3,g4,g5,g6⟩:=hw;refine ah hk (args:=[_,_]) (by simp) ?_;unfold TF TG kB kF kC kD kG kJ kR kT kc kg kY;simp only[go_sem,Za,Zb];refine ax fun A1 b1 e1 z1 B1 K1=>?_;have bL:Bl A1 b1 [s,b,d,a,m]:=B1;simp only[go_sem,Za,Zb];refine ax fun A2 b2 e2 z2 B2 K2=>?_;have fG:Bl A2 b2 [s',b',d',a',m']:=B2;have gI:=K2.bl bL id;have df:=K1.trans K2;have c10:cell A2 ⟨b1,0,ZU⟩=ZV s:=by rw[gI.cell];rfl
 have c11:cell A2 ⟨b1,1,ZU⟩=ZV b:=by rw[gI.cell];rfl
 have c12:cell A2 ⟨b1,2,ZU⟩=ZV d:=by rw[gI.cell];rfl
 have c13:cell A2 ⟨b1,3,ZU⟩=ZV a:=by rw[gI.cell];rfl
 have c14:cell A2 ⟨b1,4,ZU⟩=ZV m:=by rw[gI.cell];rfl
 have c20:cell A2 ⟨b2,0,ZU⟩=ZV s':=by rw[fG.cell];rfl
 have c21:cell A2 ⟨b2,1,ZU⟩=ZV b':=by rw[fG.cell];rfl
 have c22:cell A2 ⟨b2,2,ZU⟩=ZV d':=by rw[fG.cell];rfl
 have c23:cell A2 ⟨b2,3,ZU⟩=ZV a':=by rw[fG.cell];rfl
 have c24:cell A2 ⟨b2,4,ZU⟩=ZV m':=by rw[fG.cell];rfl
 have q1:=hF.st;have q2:=hF.be;have q3:=hF.di;have q4:=hF.sa;have q5:=hF.mo;have p1:=hG.st;have p2:=hG.be;have p3:=hG.di;have p4:=hG.sa;have p5:=hG.mo;simp only[go_sem,Za,Zb,ae,c10,c20];refine(c.eS _ _ _ _ A2 (h1.aj df) (g1.aj df) (by omega) (by omega)).mono ?_;rintro r A3 ⟨rfl,rfl⟩;rw[ae]
 by_cases e1:F.st=G.st
 case neg=>
  simp only[go_sem,Za,Zb,ae,e1,false_imp_iff,forall_const,CN,Yy];exact df
 simp-implicitDefEqProofs only[go_sem,↓reduceIte,Za,Zb,Zc,reduceCtorEq,ae,e1,c11,c21,forall_const];refine(c.eP _ _ _ _ A3 (h2.aj df) (g2.aj df) (by omega) (by omega)).mono ?_;rintro r A4 ⟨rfl,rfl⟩;rw[ae]
 by_cases e2:F.be=G.be
 case neg=>
  simp only[go_sem,Za,Zb,ae,e1,e2,false_imp_iff,forall_const,CN,Yy,Ya];exact df
 simp-implicitDefEqProofs only[go_sem,↓reduceIte,Za,Zb,Zc,reduceCtorEq,ae,e2,c12,c22,forall_const];refine(c.eP _ _ _ _ A4 (h3.aj df) (g3.aj df) (by omega) (by omega)).mono ?_;rintro r A5 ⟨rfl,rfl⟩;rw[ae]
 by_cases e3:F.di=G.di
 case neg=>
  simp only[go_sem,Za,Zb,ae,e1,e2,e3,false_imp_iff,forall_const,CN,Yy,Ya];exact df
 simp-implicitDefEqProofs only[go_sem,↓reduceIte,Za,Zb,Zc,reduceCtorEq,ae,e3,c13,c23,forall_const];refine(c.eP _ _ _ _ A5 (h4.aj df) (g4.aj df) (by omega) (by omega)).mono ?_;rintro r A6 ⟨rfl,rfl⟩;rw[ae]
 by_cases e4:F.sa=G.sa
 case neg=>
  simp only[go_sem,Za,Zb,ae,e1,e2,e3,e4,false_imp_iff,forall_const,CN,Yy,Ya];exact df
 simp-implicitDefEqProofs only[go_sem,↓reduceIte,Za,Zb,Zc,reduceCtorEq,ae,e4,c14,c24,forall_const];have M1:=h6.aj df;have M2:=g6.aj df;refine(c.eM ms ns (qM A6) _ _ (V.f 331) A6 (h5.aj df) (g5.aj df) (by rw[h6.len];omega) (by rw[g6.len];omega) ⟨c.e1.1,fun x hx y hy A KA=>?_⟩).mono ?_
 ·obtain⟨a0,x0⟩:=M1.is hx;obtain⟨b0,y0⟩:=M2.is hy;rw[TK x0 y0];exact c.e1.2 x y a0 b0 A x0.1 y0.1 (x0.2.aj KA) (y0.2.aj KA)
 rintro r A7 ⟨rfl,K7⟩;rw[ae];simp only[go_sem,Za,Zb,ae,ade M1 M2,CN,e1,e2,e3,e4,Bool.true_and];exact df.trans K7
end Go.Mg

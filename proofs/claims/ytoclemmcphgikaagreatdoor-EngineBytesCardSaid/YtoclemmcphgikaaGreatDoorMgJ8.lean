/- Lemmas of ours. No conditions. -/
import Derived.Test.YtoclemmcphgikaaGreatDoorMgE5
import Derived.Test.YtoclemmcphgikaaGreatDoorMgJ1
import Derived.Test.YtoclemmcphgikaaGreatDoorMgX9
open Bool renaming false→ZS,true→ZT
open Decidable renaming decide→ZQ
open Go renaming Value→ZR
open Go.IntKind renaming i64→ZY,u64→ZW,u8→ZX
open Go.Value renaming agg→Z0,bool→Z5,int→Z8,pointer→Z7,slice→Z6,tuple→ZZ
open Option renaming none→ZU,some→ZV
open Bool renaming eq_iff_iff→YU,not_false→ZB,not_true→ZE
open Classical renaming byContradiction→Zn
open Int renaming toNat_natCast→Zo
open List renaming all_cons→Yc,all_nil→Xs,append_assoc→ZA,append_nil→YY,ext_getElem→Xx,getD_eq_getElem?_getD→ZP,getElem?_eq_getElem→ZO,getElem_append_left→YJ,getElem_map→WR,getElem_mem→ZL,getElem_of_mem→ZC,length→Y8,length_append→ZK,length_map→YM,mem_range→YK,mem_singleton→XC,nil_append→XG,range→ZF,take_length→ZI
open Nat renaming zero_add→Zt
open Option renaming getD_some→Zu
open Nat renaming reduceEqDiff→Za,reduceAdd→Zb,reduceMul→Zc,reduceLeDiff→Zd,reduceLT→Ze
open Int renaming reduceBEq→Zf,reduceBNe→Zg,reduceLE→Zh,reduceLT→Zi
set_option maxRecDepth 100000
set_option linter.all false
namespace Go.Mg
open Go Go.RowKit
def Ki (V:aH):S:=
 kY [kC 2 (kZ)] (.seq (kY [kA 6 0,kV 7 (.m (.eqn .ptr ZS (.t 6)))] (.ite (.v 7) (kY [kC 2 (kZ)] .ret) .skip)) (kY [kc 8 (kg (V.f 55) []),kB 3 8] (kY [kA 9 3,kA 10 0,kU 11 (.nil (.t 10)),kU 12 (.fa 0 (.t 11)),kN 13 5 12,kc 14 (kg (V.f 348) [.t 13]),kc 15 (kg (V.f 58) [.t 9,.t 14])] (kY [kA 16 3,kA 17 0,kU 18 (.nil (.t 17)),kU 19 (.fa 6 (.t 18)),kD 20 19,kL 21 20,kU 22 (.ii ZW (.t 21)),kc 23 (kg (V.f 57) [.t 16,.t 22])] (.seq (kY [kA 24 0,kU 25 (.nil (.t 24)),kU 26 (.fa 6 (.t 25)),kV 27 (.ld (.t 26)),kO 28 27,kC 29 (Z8 ZY 0)] (.blk 0 (.loop (kY [kH 30 29 28] (.seq (.ite (.v 30) .skip (.exit 0)) (.seq (.blk 1 (kY [kA 31 29,kK 32 1 27 29,kD 33 32,kB 4 31,kB 5 33] (kY [kA 34 3,kA 35 0,kU 36 (.nil (.t 35)),kU 37 (.fa 5 (.t 36)),kD 38 37,kA 39 4,kI 40 1 38 39,kN 41 1 40,kc 42 (kg (V.f 340) [.t 34,.t 41])] (.reg [kA 43 3,kA 44 5,kU 45 (.ii ZW (.t 44)),kc 46 (kg (V.f 57) [.t 43,.t 45])])))) (.reg [ke 47 29,kB 29 47]))))))) (kY [kA 48 3,kc 49 (kg (V.f 60) [.t 48]),kB 2 49] .ret))))))
def Kj:List RV:=[.t 2]
structure UsR (el:List (Nat->Bool)) (st:List Int) (us:List uE):Prop where
 len:us.length=el.length
 set:∀k (h:k<us.length),∀n,bP us[k].1 n=el.getD k (fun _=>ZS) n
 stf:st=lT us
 ok:∀x∈us,nk x
variable {st:List Int} {us:List uE} {C w:Nat} {N:Nat->Prop} {l:List UInt8} {A:Hp} {P:Program} {V:aH} {k:FuncId} {ms:List UInt64}
def UsR.l7 {el:List (Nat->Bool)} (h:UsR el st us):el=l7 us:=by
 refine Xx (by rw[Mg.l7,YM,h.len]) fun k h1 h2=>?_;have hk:k<us.length:=by rw[h.len];exact h1
 funext n
 have:=h.set k hk n;rw[ZP,ZO h1,Zu]at this;rw[<-this];exact(congrFun (WR (fun x:uE=>bP x.1)) n).symm
def lY.apart {N':Nat->Prop} {A':Hp} (h:lY C N w l A) (hk:af (fun _=>False) A A') (hN:∀q,N' q->A.size<=q):lY C N' w l A':=by
 obtain⟨F,h1,h2⟩:=h;exact⟨F,h1.ai hk (by simp),fun q hq=>⟨(h2 q hq).1,fun hn=>by have:=hN q hn;have:=h1.bound q hq;omega⟩⟩
def lY.bts {j:FuncId} (hs:fV P j) {m:List UInt8} {x:ZR} (h:lY C N w l A) (hN:∀q,N q->q<A.size) (hC:C<=A.size) (hx:aP A x (w8 m)) (hxN:∀q,aV x q->N q) (hl:l.length+m.length<=80000000) {K:ZR->Hp->Prop}
  (hK:∀A',lY C N w (l++du m) A'->af (WrW C N) A A'->K (ZZ #[]) A'):an P j #[Z7 (ZV ⟨w,0,ZU⟩),x] A K:=by
 obtain⟨F,h1,h2⟩:=h;refine(hs F w l m x A h1 hx (fun q hq hf=>(h2 q hf).2 (hxN q hq)) hl).mono ?_;rintro r A' ⟨rfl,h',hk⟩;obtain⟨a,b⟩:=lY.step (l:=l) h2 hN hC h' hk;exact hK A' a b
def Dy (hl:us.length<=10) (h:∀x∈us,nk x) (i:Nat):(dB us.length++(us.take i).flatMap eE).length<=700:=by
 have h1:=aS us.length (by omega);have h2:=gH (e:=eE) (c:=60) (l:=us.take i) fun x hx=>by
  obtain⟨a,b,c,d⟩:=h x (List.mem_of_mem_take hx);have q1:=aS x.1.length (by omega);have q2:=aS x.2 (by omega);simp only[eE,du,ZK];omega
 have h3:(us.take i).length<=10:=by rw[List.length_take];omega
 rw[ZK];have:=Nat.mul_le_mul_left 60 h3;omega
def ry (P:Program) (V:aH) (k:FuncId):Prop:=∀(F:cf) (el:List (Nat->Bool)) (st:List Int) (us:List uE) (rb:Nat) (H:Hp),bh V H->cH H rb F el st->nM F=ZT->UsR el st us->el.length<=10→
 an P k #[Z7 (ZV ⟨rb,0,ZU⟩)] H fun r H'=>br H' r (w8 (fJ F us))/\(∀q,ay r q->H.size<=q)/\af (fun _=>False) H H'
structure alV (P:Program) (V:aH):Prop where
 fbyt:rq P V (V.f 348)
 new:xB P (V.f 55)
 byt:fV P (V.f 58)
 uint:iu P (V.f 57)
 set:mZ P (V.f 340)
 out:xC P (V.f 60)
def adC (hk:ak P k (Ki V) Kj 1) (c:alV P V):ry P V k:=by
 intro F el st us rb H hT hR hok hU hn;refine qI fun Q hQ=>?_;have hE:=lG (fO hok);obtain⟨s,b,d,a,m,ev,sv,vs,B,hF,he,hel,IQ,hes,hsv⟩:=hR;have hul:=hU.len;have hst:st.length=us.length:=by rw[hU.stf];simp[lT]
 have lsv:aW sv=us.length:=by rw[hsv.len,aA,hst]
 refine ah hk (args:=[_]) (by simp) ?_;unfold Ki Kj kA kB kC kD ke kH kI kK kL kN kO kU kV kc kg kY kZ;simp only[go_sem,Za,Zb];refine(c.new H).mono ?_;rintro r H1 ⟨rfl,W1,K1⟩;have s1:=K1.size;have B1:=K1.bl B id;have l5:aQ H1 ⟨rb,0,ZU⟩ 5=ZV #[s,b,d,a,m]:=by
  have:=B1.aQ (o:=0) (n:=5) (by simp);simpa using this
 have ltr:=B.lt;have w1:=W1.bound _ rfl;generalize hw:H.size=w at*;have I1:lY w (fun _=>False) w [] H1:=⟨_,W1,fun q hq=>⟨by omega,fun h=>h⟩⟩
 rw[ae];simp only[go_sem,Za,Zb,l5,aC];refine(c.fbyt F _ H1 (hT.ai K1) (hF.aj K1) hok).mono ?_;rintro r H2 ⟨O2,o2,K2⟩;have s2:=K2.size;have cS:=K1.trans K2;have I2:=I1.apart (N':=aV r) K2 fun q hq=>o2 q (O2.aV hq);rw[ae];simp only[go_sem,Za,Zb];refine I2.bts c.byt (fun q hq=>O2.sl.bo hq) (by omega) O2.sl (fun q h=>h) (by simp;omega) fun H3 I3 K3=>?_;have kp:∀{A A':Hp} {N:Nat->Prop},af (WrW w N) A A'->af (fun q=>w<=q) A A':=fun h=>h.mono fun q _ hq=>hq.1;have K3:=kp K3;have s3:=K3.size;have bo:∀{A':Hp},af (fun q=>w<=q) H3 A'->af (fun _=>False) H A':=fun K=>(cS.trans' K3 fun q hq e=>by omega).trans' K fun q hq e=>by omega
 have eo:=bo (af.refl _ _);have B3:=eo.bl B (by simp);have c6:cell H3 ⟨rb,6,ZU⟩=ZV sv:=by rw[B3.cell];rfl
 have I3:=I3.mono (N':=fun _=>False) fun q h=>h.elim;rw[XG]at I3;have leB:(du (cN F)).length<=20000:=by
  have:=aS (cN F).length (by omega);simp only[du,ZK];omega
 rw[ae];simp only[go_sem,Za,Zb,c6,hsv.aq,lsv,lZ (show(0:Int)<=(us.length:Int) by omega) (show(us.length:Int)<=1000000 by omega),Zo];refine I3.uint c.uint (by simp) (by omega) (by omega) (by omega) fun H4 I4 K4=>?_;have K4:=kp K4;have B4:=(bo K4).bl B (by simp);have c6:cell H4 ⟨rb,6,ZU⟩=ZV sv:=by rw[B4.cell];rfl
 rw[ae];simp only[go_sem,Za,Zb,c6,hsv.aq,lsv];refine aF us.length [30,4,5,29] rfl rfl (by omega) (by rfl) (by rfl) (fun i g A=>lY w (fun _=>False) w (du (cN F)++(dB us.length++(us.take i).flatMap eE)) A/\af (fun q=>w<=q) H3 A) ⟨by simpa using I4,K4⟩ ?_ ?_
 ·rintro i g A hi gi gn ⟨I,K⟩;simp only[go_sem,Za,Zb,ae]at gi gn;have KH:=bo K;have sA:=K.size;have BA:=KH.bl B id;have c5:cell A ⟨rb,5,ZU⟩=ZV ev:=by rw[BA.cell];rfl
  obtain⟨pb,po,pc,pC,hci⟩:=(hsv.ai KH (by simp)).iat (i:=i) (by omega);obtain⟨qb,qo,qc,hee,hld⟩:=(he.ai KH (by simp)).ld1 (i:=i) (by omega);have hx:=hU.ok _ (ZL hi);have hsi:st[i]'(by omega)=((us[i].2:Nat):Int):=by
   have:=hU.stf;subst this;simp[lT]
  rw[hsi]at hci;have hb:=Dy (by omega) hU.ok i;have hS:=(hes i (by omega)).aj KH;rw[hee]at c5;rw[hst]at pC;rw[hel]at hee c5;simp only[go_sem,Za,Zb,gi,pC,al,hci,c5,hld,aC];refine⟨by omega,by omega,?_⟩;refine I.set c.set (by simp) (by omega) hS hx.1 (hU.set i hi) (by rw[ZK];omega) fun A1 I1 K1=>?_;rw[ae];simp only[go_sem,Za,Zb,lZ (show(0:Int)<=((us[i].2:Nat):Int) by omega) (show((us[i].2:Nat):Int)<=1000000 by have:=hx.2.2.2;omega),Zo];have sA1:=K1.size;have le1:(du us[i].1).length<=60:=by
   have:=aS us[i].1.length (by have:=hx.2.1;omega);simp only[du,ZK];have:=hx.2.1;omega
  refine I1.uint c.uint (by simp) (by omega) (by have:=hx.2.2.2;omega) (by rw[ZK,ZK];omega) fun A2 I2 K2=>?_;rw[ae];simp only[go_sem,Za,Zb,ae];refine⟨?_,(K.trans (kp K1)).trans (kp K2)⟩;rw[dK _ hi,eE];simpa only[ZA]using I2
 ·rintro g A -⟨I,K⟩;rw[ZI]at I;have sA:=K.size;have hb:=Dy (by omega) hU.ok us.length;rw[ZI]at hb;obtain⟨Fw,W,hFw⟩:=I;simp only[go_sem,Za,Zb];refine(c.out Fw w _ A W (by rw[ZK];omega)).mono ?_;rintro r A1 ⟨O,o,K1⟩;rw[ae];simp only[go_sem,Za,Zb,ae];rw[hQ];exact⟨O,fun q hq=>by have:=o q hq;omega,(bo K).trans K1⟩
def Dz (V:aH):S:=
 kY [kR 1 (V.t 396) 0,kC 2 (kZ)] (kY [kG 6 0 1,kN 7 5 6,kc 8 (kg (V.f 349) [.t 7]),kc 9 (kg (V.f 62) [.t 8]),kB 3 9] (kY [kA 10 3,kG 11 6 1,kD 12 11,kL 13 12,kU 14 (.ii ZW (.t 13)),kc 15 (kg (V.f 61) [.t 14]),kc 16 (.app ZS (V.t 19) 1 1 #[Z8 ZX 0] (.t 10) (.t 15)),kB 3 16] (.seq (kY [kG 17 6 1,kV 18 (.ld (.t 17)),kO 19 18,kC 20 (Z8 ZY 0)] (.blk 0 (.loop (kY [kH 21 20 19] (.seq (.ite (.v 21) .skip (.exit 0)) (.seq (.blk 1 (kY [kA 22 20,kK 23 1 18 20,kD 24 23,kB 4 22,kB 5 24] (kY [kA 25 3,kG 26 5 1,kD 27 26,kA 28 4,kI 29 1 27 28,kD 30 29,kc 31 (kg (V.f 282) [.t 30]),kc 32 (kg (V.f 347) [.t 31]),kc 33 (.app ZS (V.t 19) 1 1 #[Z8 ZX 0] (.t 25) (.t 32)),kB 3 33] (.reg [kA 34 3,kA 35 5,kU 36 (.ii ZW (.t 35)),kc 37 (kg (V.f 61) [.t 36]),kc 38 (.app ZS (V.t 19) 1 1 #[Z8 ZX 0] (.t 34) (.t 37)),kB 3 38])))) (.reg [ke 39 20,kB 20 39]))))))) (kY [kA 40 3,kB 2 40] .ret))))
def DA:List RV:=[.t 2]
def OM (ms:List UInt64) (st:List Int):List uE:=(ZF st.length).map fun k=>(iQ (ms.getD k 0),(st.getD k 0).toNat)
def lH (ms:List UInt64) (st:List Int):(OM ms st).length=st.length:=by simp[OM]
def tG {k:Nat} (h:k<(OM ms st).length):(OM ms st)[k]=(iQ (ms.getD k 0),(st.getD k 0).toNat):=by simp[OM]
def Uh (h:∀u∈st,0<=u/\u<=256):∀x∈OM ms st,nk x:=by
 intro x hx;obtain⟨k,hk,rfl⟩:=ZC hx;rw[lH]at hk;rw[tG];have hs:=h (st.getD k 0) (by rw[ZP,ZO hk];exact ZL _);have hl:=ni (ms.getD k 0);refine⟨nh _,(by show(iQ _).length<=33;omega),fun n hn=>?_,(by show(st.getD k 0).toNat<=256;omega)⟩;rw[eC]at hn;have:=pY hn;omega
def aeK (hl:ms.length=st.length) (h:∀u∈st,0<=u/\u<=256):UsR (ms.map bt) st (OM ms st):=by
 refine⟨by rw[lH,YM,hl],fun k hk n=>?_,?_,Uh h⟩
 ·rw[tG,eC,bN]
 ·refine Xx (by simp[lT,lH]) fun k h1 h2=>?_;have hs:=h st[k] (ZL _);simp only[lT,WR,tG];rw[ZP,ZO h1,Zu];omega
def tH (P:Program) (k:FuncId):Prop:=∀(F:cf) (ms:List UInt64) (st:List Int) (v:ZR) (H:Hp),dp H v F ms st->nM F=ZT->ms.length=st.length->st.length<=10->(∀u∈st,0<=u/\u<=256)->an P k #[v] H fun r H'=>br H' r (w8 (fJ F (OM ms st)))/\(∀q,ay r q->H.size<=q)/\af (fun _=>False) H H'
structure aiY (P:Program) (V:aH):Prop where
 fb:py P (V.f 349)
 agQ:jV P (V.f 62)
 put:lD P (V.f 61)
 agR:ng P (V.f 347)
 mem:nJ P (V.f 282)
def Ui (hk:ak P k (Dz V) DA 1) (c:aiY P V):tH P k:=by
 intro F ms st v H hv hok mb hn hst;refine qI fun Q hQ=>?_;have hE:=fO hok;have hF:=lG hE;have hus:=Uh (ms:=ms) hst;have hul:=lH ms st;obtain⟨s,b,d,a,m,ev,sv,rfl,h1,h2,h3⟩:=hv;refine ah hk (args:=[_]) (by simp) ?_;unfold Dz DA kA kB kC kD ke kG kH kI kK kL kN kO kR kU kV kc kg kY kZ;simp only[go_sem,Za,Zb];refine ax fun H1 b1 e1 z1 B1 K1=>?_;have bL:Bl H1 b1 [s,b,d,a,m,ev,sv]:=B1;have s1:=K1.size;have l5:aQ H1 ⟨b1,0,ZU⟩ 5=ZV #[s,b,d,a,m]:=by
  have:=bL.aQ (o:=0) (n:=5) (by simp);simpa using this
 simp only[go_sem,Za,Zb,l5,aC];refine(c.fb F _ H1 (h1.aj K1) hE).mono ?_;rintro r H2 ⟨O2,o2,K2⟩;rw[ae];simp only[go_sem,Za,Zb];refine(c.agQ _ r H2 O2.sl (by omega)).mono ?_;rintro r2 H3 ⟨O3,o3,K3⟩;have mD:=K2.trans K3;have s2:=K2.size;have s3:=K3.size;obtain⟨C,hC⟩:∃C,C=H1.size:=⟨_,rfl⟩
 have hbC:b1<C:=by omega
 have I3:yx C H1 r2 (du (cN F)) H3:=⟨O3,fun q hq=>by have:=o3 q hq;omega,mD.any⟩
 have bo:∀{A':Hp} {v:ZR} {l:List UInt8},yx C H1 v l A'->af (fun _=>False) H A':=fun I=>K1.trans' I.k fun q hq e=>by omega
 have bl1:∀{A':Hp} {v:ZR} {l:List UInt8},yx C H1 v l A'->Bl A' b1 [s,b,d,a,m,ev,sv]:=fun I=>I.k.bl bL (by omega);have sz:∀{A':Hp} {v:ZR} {l:List UInt8},yx C H1 v l A'->C<=A'.size:=fun I=>by have:=I.k.size;omega
 have c6:∀{A:Hp},Bl A b1 [s,b,d,a,m,ev,sv]->cell A ⟨b1,6,ZU⟩=ZV sv:=fun B=>by rw[B.cell];rfl
 have leB:(du (cN F)).length<=20000:=by
  have:=aS (cN F).length (by omega);simp only[du,ZK];omega
 rw[ae];simp only[go_sem,Za,Zb,c6 (bl1 I3),h3.aq,h3.len,aA,lZ (show(0:Int)<=(st.length:Int) by omega) (show(st.length:Int)<=1000000 by omega),Zo];refine(c.put st.length H3 (by omega)).mono ?_;rintro r4 H4 ⟨O4,o4,K4⟩;have I4:=I3.aj K4;have le4:=aS st.length (by omega);rw[ae];simp only[go_sem,Za,Zb];refine I4.app (sz I4) O4 (by omega) fun v5 H5 I5 L5 o5=>?_;rw[ae];simp only[go_sem,Za,Zb,c6 (bl1 I5),h3.aq,h3.len,aA];refine aF st.length [21,4,5,3,20] rfl rfl (by omega) (by rfl) (by rfl) (fun i g A=>∃v,g 3=v/\yx C H1 v (du (cN F)++(dB (OM ms st).length++((OM ms st).take i).flatMap eE)) A) ⟨v5,by simp only[go_sem,Za,Zb,ae],by simpa[hul]using I5⟩ ?_ ?_
 ·rintro i g A hi gi gn ⟨v3,g3,I⟩;simp only[go_sem,Za,Zb,ae]at gi gn g3;have KH:=bo I;have BA:=bl1 I;obtain⟨pb,po,pc,pC,hci⟩:=ib (h3.ai KH (by simp)) hi;obtain⟨qb,qo,qc,hee,hce⟩:=Uc (h2.ai KH (by simp)) (i:=i) (by omega);have c5:cell A ⟨b1,5,ZU⟩=ZV ev:=by rw[BA.cell];rfl
  rw[hee]at c5;have hb:=Dy (by omega) hus i;have hx:=hst (st.getD i 0) (by rw[ZP,ZO hi];exact ZL _);obtain⟨x,hxd⟩:∃x,x=ms.getD i 0:=⟨_,rfl⟩
  rw[<-hxd]at hce;simp only[go_sem,Za,Zb,gi,g3,pC,al,hci,c5,hce,mb];refine⟨by omega,by omega,?_⟩;refine(c.mem x A).mono ?_;rintro r6 A1 ⟨O6,o6,K6⟩;have hle:((ZF 64).filter (bt x)).length<=64:=by
   have:=List.length_filter_le (bt x) (ZF 64);simp at this;omega
  have J1:=I.aj K6;rw[ae];simp only[go_sem,Za,Zb];refine(c.agR _ (iQ x) r6 A1 O6.sl (by omega) (fun n hn=>by have:=(List.mem_filter.1 hn).1;rw[YK]at this;omega) (nh _) fun n=>?_).mono ?_
  ·rw[eC,YU,decide_eq_true_eq,List.mem_filter,YK];exact⟨fun h=>⟨pY h,h⟩,fun h=>h.2⟩
  rintro r7 A2 ⟨O7,o7,K7⟩;have J2:=J1.aj K7;have hsl:=ni x;have le7:(du (iQ x)).length<=19:=by
   have:=aS (iQ x).length (by omega);simp only[du,ZK];omega
  rw[ae];simp only[go_sem,Za,Zb];refine J2.app (sz J2) O7 (by simp only[ZK]at hb⊢;omega) fun v8 A3 J3 L3 o8=>?_;have w1:IntKind.u64.wrap (st.getD i 0)=(((st.getD i 0).toNat:Nat):Int):=lZ hx.1 (by omega);rw[ae];simp only[go_sem,Za,Zb,w1];refine(c.put _ A3 (by omega)).mono ?_;rintro r9 A4 ⟨O9,o9,K9⟩;have J4:=J3.aj K9;have le9:=aS (st.getD i 0).toNat (by omega);rw[ae];simp only[go_sem,Za,Zb];refine J4.app (sz J4) O9 (by simp only[ZK]at hb⊢;omega) fun v10 A5 J5 L5 o10=>?_;rw[ae];simp only[go_sem,Za,Zb,ae];refine⟨v10,rfl,?_⟩;rw[dK _ (by omega),tG,eE];simpa only[ZA,hxd]using J5
 ·rintro g A gi ⟨v3,g3,I⟩;simp only[go_sem,Za,Zb,ae]at g3;simp only[go_sem,Za,Zb,ae,g3];rw[hQ];rw[<-hul,ZI]at I;exact⟨I.o,fun q hq=>by have:=I.n q hq;omega,bo I⟩
def Kl (V:aH):S:=
 kY [kC 2 (Z5 ZS)] (.seq (kY [kA 7 0,kU 8 (.nil (.t 7)),kU 9 (.fa 0 (.t 8)),kU 10 (.fa 1 (.t 9)),kV 11 (.ld (.t 10)),kO 12 11,kC 13 (Z8 ZY 0)] (.blk 0 (.loop (kY [kH 14 13 12] (.seq (.ite (.v 14) .skip (.exit 0)) (.seq (.blk 1 (kY [kK 15 2 11 13,kN 16 2 15,kd 4 (.new (V.t 194) #[Z8 ZY 0,Z8 ZY 0]),kf (.stn 2 (.v 4) (.t 16))] (kY [kA 17 0,kU 18 (.nil (.t 17)),kU 19 (.fa 6 (.t 18)),kD 20 19,kP 21 2 1 4 1,kD 22 21,kI 23 1 20 22,kD 24 23,kU 25 (.cm .neq ZY (.t 24) (.c (Z8 ZY 0))),kF 26 25,kS 27 26 ZT 0,kT 28 26 ZT (.nil (.t 27)),kT 29 26 ZT (.fa 6 (.t 28)),kT 30 26 ZT (.ld (.t 29)),kT 31 26 ZT (.ia 2 1 (.v 4) (.c (Z8 ZY 0))),kT 32 26 ZT (.ld (.t 31)),kT 33 26 ZT (.is 1 (.t 30) (.t 32)),kT 34 26 ZT (.ld (.t 33)),kT 35 26 ZT (.cm .eql ZY (.t 34) (.c (Z8 ZY 0))),kV 36 (.pick (.t 26) (.t 35) (.c (Z5 ZS)))] (.ite (.v 36) (kY [kC 2 (Z5 ZS)] .ret) .skip)))) (.reg [ke 37 13,kB 13 37]))))))) (kY [kA 39 0,kA 40 0,kU 41 (.nil (.t 40)),kU 42 (.fa 6 (.t 41)),kD 43 42,kc 44 (kg (V.f 377) [.t 39,.t 43]),kF 38 44,kQ 45 38 0,kQ 46 38 1,kF 5 45,kB 6 46] (kY [kA 47 6,kB 2 47] .ret)))
def Km:List RV:=[.t 2]
def tI (V:aH):T:=
 (ka 33 (.app ZS (V.t 128) 1 24 #[kZ] (.t 29) (.t 32)) (kW 34 (.nil (.t 25)) (kW 35 (.fa 5 (.t 34)) (kb (.st (.t 35) (.t 33)) .done .wnil))) .wnil)
def tJ (V:aH):T:=
 (ka 44 (.app ZS (V.t 26) 1 8 #[Z8 ZY 0] (.t 40) (.t 43)) (kW 45 (.nil (.t 36)) (kW 46 (.fa 6 (.t 45)) (kb (.st (.t 46) (.t 44)) .done .wnil))) .wnil)
def DB (V:aH):S:=
 (.dr (kW 25 (.mv (.v 7)) (kW 26 (.mv (.v 7)) (kW 27 (.nil (.t 26)) (kW 28 (.fa 5 (.t 27)) (kW 30 (.mv (.v 4)) (ka 29 (.rd (.ld (.t 28))) (ka 31 (kg (V.f 343) [.t 30,.c (Z8 ZY 256)]) (ka 32 (.aX (V.t 128) 1 1 [.t 31]) (tI V) .wnil) .wnil) (ka 31 (kg (V.f 343) [.t 30,.c (Z8 ZY 256)]) (ka 29 (.rd (.ld (.t 28))) (ka 32 (.aX (V.t 128) 1 1 [.t 31]) (tI V) .wnil) (ka 32 (.aX (V.t 128) 1 1 [.t 31]) (ka 29 (.rd (.ld (.t 28))) (tI V) .wnil) .wnil)) .wnil))))))))
def DC (V:aH):S:=
 (.dr (kW 36 (.mv (.v 7)) (kW 37 (.mv (.v 7)) (kW 38 (.nil (.t 37)) (kW 39 (.fa 6 (.t 38)) (kW 41 (.mv (.v 4)) (ka 40 (.rd (.ld (.t 39))) (ka 42 (kg (V.f 342) [.t 41,.c (Z8 ZY 256)]) (ka 43 (.aX (V.t 26) 1 1 [.t 42]) (tJ V) .wnil) .wnil) (ka 42 (kg (V.f 342) [.t 41,.c (Z8 ZY 256)]) (ka 40 (.rd (.ld (.t 39))) (ka 43 (.aX (V.t 26) 1 1 [.t 42]) (tJ V) .wnil) (ka 43 (.aX (V.t 26) 1 1 [.t 42]) (ka 40 (.rd (.ld (.t 39))) (tJ V) .wnil) .wnil)) .wnil))))))))
def aeL (V:aH):S:=
 (.seq (.seq (.dr (kW 48 (.mv (.v 4)) (ka 49 (kg (V.f 117) [.t 48]) (kW 50 (.cm .neq ZY (.t 49) (.c (Z8 ZY 0))) (kW 51 (.mv (.t 50)) (.px (.t 52) (.some (.t 51,ZS)) (.mv (.v 6)) (.px (.t 53) (.some (.t 51,ZS)) (.cm .neq ZY (.t 52) (.c (Z8 ZY 0))) (kW 54 (.pick (.t 51) (.c (Z5 ZT)) (.t 53)) (kW 55 (.mv (.t 54)) (.px (.t 56) (.some (.t 55,ZS)) (.mv (.v 7)) (.px (.t 57) (.some (.t 55,ZS)) (.nil (.t 56)) (.px (.t 58) (.some (.t 55,ZS)) (.fa 6 (.t 57)) (.px (.t 59) (.some (.t 55,ZS)) (.ld (.t 58)) (.px (.t 60) (.some (.t 55,ZS)) (.m (.lenl (.t 59))) (.px (.t 61) (.some (.t 55,ZS)) (.fa 0 (.v 5)) (.px (.t 62) (.some (.t 55,ZS)) (.ld (.t 61)) (.px (.t 63) (.some (.t 55,ZS)) (.m (.lenl (.t 62))) (.px (.t 64) (.some (.t 55,ZS)) (.cm .neq ZY (.t 60) (.t 63)) (kW 65 (.pick (.t 55) (.c (Z5 ZT)) (.t 64)) (kW 66 (.mv (.t 65)) (.px (.t 67) (.some (.t 66,ZS)) (.mv (.v 7)) (.px (.t 68) (.some (.t 66,ZS)) (.nil (.t 67)) (.px (.t 69) (.some (.t 66,ZS)) (.fa 5 (.t 68)) (.px (.t 70) (.some (.t 66,ZS)) (.ld (.t 69)) (.px (.t 71) (.some (.t 66,ZS)) (.fa 0 (.v 5)) (.px (.t 72) (.some (.t 66,ZS)) (.ld (.t 71)) (.px (.t 73) (.some (.t 66,ZS)) (.m (.lenl (.t 72))) (.wcons (.t 74) (.some (.t 66,ZS)) (kg (V.f 378) [.t 70,.t 73]) (.px (.t 75) (.some (.t 66,ZS)) (.cm .neq ZY (.t 74) (.c (Z8 ZY 0))) (kW 76 (.pick (.t 66) (.c (Z5 ZT)) (.t 75)) (kW 77 (.mv (.t 76)) (.px (.t 78) (.some (.t 77,ZS)) (.mv (.v 7)) (.wcons (.t 79) (.some (.t 77,ZS)) (kg (V.f 421) [.t 78]) (.px (.t 80) (.some (.t 77,ZS)) (.not (.t 79)) (kW 81 (.pick (.t 77) (.c (Z5 ZT)) (.t 80)) (kW 82 (.mv (.t 81)) (.px (.t 83) (.some (.t 82,ZS)) (.mv (.v 7)) (.px (.t 85) (.some (.t 82,ZS)) (.mv (.v 0)) (.wcons (.t 84) (.some (.t 82,ZS)) (kg (V.f 414) [.t 83]) (.wcons (.t 86) (.some (.t 82,ZS)) (kg (V.f 344) [.t 84,.t 85]) (.px (.t 87) (.some (.t 82,ZS)) (.not (.t 86)) (kX 88 (.pick (.t 82) (.c (Z5 ZT)) (.t 87)) .done)) .wnil) .wnil)))))) .wnil))))) .wnil))))))))))))))))))))))))) .wnil))) (.ite (.v 88) (kY [kC 2 (Z7 .none),kC 3 (Z8 ZY 6)] .ret) .skip)) (kY [kA 89 7,kB 2 89,kC 3 (Z8 ZY 0)] .ret))
def DD (V:aH):S:=
 kY [kC 2 (Z7 .none),kC 3 (Z8 ZY 0)] (kY [kA 8 0,kc 9 (kg (V.f 108) [.t 8]),kB 4 9] (kY [kA 11 4,kA 12 0,kL 13 12,kc 14 (kg (V.f 114) [.t 11,.t 13]),kc 15 (kg (V.f 351) [.t 14]),kF 10 15,kQ 16 10 0,kQ 17 10 1,kd 5 (.new (V.t 296) #[kZ,kZ,kZ,kZ,kZ]),kf (.stn 5 (.v 5) (.t 16)),kB 6 17] (kY [kM 18 5 5,kU 19 (.m (.bld #[kZ,kZ,kZ,kZ,kZ,kZ,kZ] [(0,(5,.t 18))])),kc 20 (.box (V.t 387) (.t 19)),kB 7 20] (.seq (kY [kA 21 4,kd 22 (kg (V.f 113) [.t 21,.c (Z8 ZY 10)]),kC 23 (Z8 ZY 0)] (.blk 0 (.loop (kY [kH 24 23 22] (.seq (.ite (.v 24) .skip (.exit 0)) (.seq (.blk 1 (.seq (DB V) (DC V))) (.reg [ke 47 23,kB 23 47]))))))) (aeL V)))))
def DE:List RV:=[.t 2,.t 3]
def FU (P:Program) (V:aH) (k:FuncId):Prop:=∀(F:cf) (el:List (Nat->Bool)) (st:List Int) (rb:Nat) (H:Hp),bh V H->cH H rb F el st->nM F=ZT->st.length=el.length->eT (bJ F el)->uB (bJ F el) st→
 an P k #[Z7 (ZV ⟨rb,0,ZU⟩)] H fun r H'=>r=.bool (qQ F.be st&&(et (bJ F el) st).isSome)/\af (fun _=>False) H H'
def adD (hk:ak P k (Kl V) Km 1) (hp:iq P V (V.f 377)):FU P V k:=by
 intro F el st rb H hT hR hok hsl hG hB;refine qI fun Q hQ=>?_;have hR0:=hR;have hgd:=dH hok;obtain⟨s,b,d,a,m,ev,sv,vs,B,hF,he,hel,IQ,hes,hsv⟩:=hR;have hF0:=hF;obtain⟨s',b',d',a',m',ms,e5,h1,h2,h3,h4,h5,h6⟩:=hF
 cases e5
 have su:=hgd.lim;unfold iJ at su;have cl:∀{A:Hp},af (fun _=>False) H A->cell A ⟨rb,1,ZU⟩=ZV b/\cell A ⟨rb,6,ZU⟩=ZV sv:=fun K=>⟨by rw[(K.bl B id).cell];rfl,by rw[(K.bl B id).cell];rfl⟩
 refine ah hk (args:=[_]) (by simp) ?_;unfold Kl Km kA kB kF kC kD ke kH kI kK kN kO kP kQ kS kT kU kV kc kd kf kg kY;simp only[go_sem,Za,Zb,(cl (af.refl _ _)).1,h2.aq,h2.len];refine aF F.be.length [14,4,36,2,13] rfl rfl (by omega) (by rfl) (by rfl) (fun i g A=>(F.be.take i).all (fun x=>ZQ (sI st x.2=0)||ZQ (sI st x.1≠0))=ZT/\af (fun _=>False) H A) ⟨by simp,af.refl _ _⟩ ?_ ?_
 ·rintro i g A hi gi gn ⟨hall,K⟩;simp only[go_sem,Za,Zb,ae]at gi gn;obtain⟨sb,so,sc,rfl,-,hld⟩:=(h2.aj K).elem dy (i:=i) hi;have hx:=(hgd.be _ (ZL hi)).1;obtain⟨x,hxe⟩:∃x,x=F.be[i]:=⟨_,rfl⟩
  rw[<-hxe]at hld hx;obtain⟨p1,p2,p3,p4⟩:=hx;simp only[go_sem,Za,Zb,gi,al,aC,hld];have Fp:(F.be.take (i+1)).all (fun x=>ZQ (sI st x.2=0)||ZQ (sI st x.1≠0))=((F.be.take i).all (fun x=>ZQ (sI st x.2=0)||ZQ (sI st x.1≠0))&&(ZQ (sI st x.2=0)||ZQ (sI st x.1≠0))):=by
   rw[List.take_succ_eq_append_getElem hi,List.all_append,<-hxe];simp
  have hmem:x∈F.be:=by rw[hxe];exact ZL _
  refine⟨by omega,?_⟩;refine aO (pE x) (by rfl) rfl rfl (List.all_eq_true.2 (iE _)) fun A1 b4 e4 z4 B4 K4=>?_;have Rh:=K.trans K4;obtain⟨x1,x2⟩:=x;obtain⟨j1,rfl⟩:∃j:Nat,x1=(j:Int):=⟨x1.toNat,by simp only at p1;omega⟩
  obtain⟨j2,rfl⟩:∃j:Nat,x2=(j:Int):=⟨x2.toNat,by simp only at p3;omega⟩
  simp only at p1 p2 p3 p4;obtain⟨qb,qo,qc,pC,hc2⟩:=ib (hsv.ai Rh (by simp)) (i:=j2) (by omega);obtain⟨qb',qo',qc',aiZ,hc1⟩:=ib (hsv.ai Rh (by simp)) (i:=j1) (by omega);have Rn:cell A1 ⟨b4,0,ZU⟩=ZV (Z8 ZY (j1:Int)):=by rw[B4.cell];rfl
  have UH:cell A1 ⟨b4,1,ZU⟩=ZV (Z8 ZY (j2:Int)):=by rw[B4.cell];rfl
  have c6:=(cl Rh).2;rw[pC]at c6 aiZ
  cases aiZ
  have s1:sI st ((j1:Nat):Int)=st.getD j1 0:=by unfold sI;rw[Zo]
  have s2:sI st ((j2:Nat):Int)=st.getD j2 0:=by unfold sI;rw[Zo]
  simp only[s1,s2]at Fp;have b2:(0:Int)<=(j2:Int)/\(j2:Int)<(st.length:Int):=by omega
  have b1:(0:Int)<=(j1:Int)/\(j1:Int)<(st.length:Int):=by omega
  have b21:=b2.1;have b22:=b2.2;have b11:=b1.1;have b12:=b1.2
  by_cases h2:st.getD j2 0=0
  ·have d2:(st.getD j2 0 !=0)=ZS:=by rw[h2];rfl
   simp-implicitDefEqProofs only[go_sem,↓reduceIte,Za,Zb,Zc,reduceCtorEq,Zf,Zg,Zh,Zi,Zd,Ze,c6,UH,al,hc2,d2,b21,b22];refine⟨?_,Rh⟩;rw[Fp,hall,decide_eq_true h2];rfl
  have d2:(st.getD j2 0 !=0)=ZT:=bne_iff_ne.2 h2
  by_cases h1:st.getD j1 0=0
  ·have d1:(st.getD j1 0==0)=ZT:=by rw[h1];rfl
   simp-implicitDefEqProofs only[go_sem,↓reduceIte,Za,Zb,Zc,reduceCtorEq,Zf,Zg,Zh,Zi,Zd,Ze,c6,Rn,UH,al,hc1,hc2,d1,d2,b11,b12,b21,b22];rw[hQ];have:qQ F.be st=ZS:=by
    unfold qQ;rw[List.all_eq_false];refine⟨_,hmem,?_⟩;simp only[s1,s2];rw[decide_eq_false h2,decide_eq_false (fun h=>h h1)];simp
   rw[this];exact⟨rfl,Rh⟩
  ·have d1:(st.getD j1 0==0)=ZS:=by simpa using h1
   simp-implicitDefEqProofs only[go_sem,↓reduceIte,Za,Zb,Zc,reduceCtorEq,Zf,Zg,Zh,Zi,Zd,Ze,c6,Rn,UH,al,hc1,hc2,d1,d2,b11,b12,b21,b22];refine⟨?_,Rh⟩;rw[Fp,hall,decide_eq_true h1];simp
 ·rintro g A -⟨hall,K⟩;rw[ZI]at hall;simp only[go_sem,Za,Zb,(cl K).2];refine(hp F el st st rb sv A (hT.ai K) (hR0.aj K) (hsv.ai K (by simp)) hG hB).mono ?_;rintro r A1 ⟨y,rfl,K1,-⟩;rw[ae];simp only[go_sem,Za,Zb,ae];rw[hQ];have:qQ F.be st=ZT:=hall;rw[this,Bool.true_and];exact⟨rfl,K.trans K1⟩
section
variable {P:Program} {W:Nat->Prop} {rb b:Nat} {cs:List ZR} {F:Nat->Prop} {A0 A:Hp} {s:RS} {e:Env} {f:Fr} {Q:Fr->Hp->Prop} {t m:T} {d a:Nat} {Y:Hp->Prop}
def iZ.ai0 (h:iZ rb b cs F Y A0 s A) {T:TypeId} {x u:ZR} (he:look e a=x) (hx:x.cells=#[u]) (hK:∀A' bn,iZ rb b cs F Y A0 s A'->Bl A' bn [u]->dJ P W t ((d,Z6 (ZV ⟨bn,0,ZU⟩) 1 1)::e) f A' Q) (wO:dJ P W m e f A Q):dJ P W (.wcons (.t d) ZU (.aX T 1 1 [.t a]) t m) e f A Q:=by
 rw[en];refine⟨?_,wO⟩;simp only[EX.wp,List.forall_mem_cons,List.not_mem_nil,false_imp_iff,implies_true,and_true,iW,he,hx,List.flatMap_cons,List.flatMap_nil,YY];have K1:af (fun _=>False) A (A.push (.cells #[u] T)):=(af.refl _ _).push _;refine⟨rfl,K1.any,hK _ _ ⟨h.k.trans K1.any,K1.bl h.B id,h.R.ai K1 (by simp),h.l,h.n,h.st _ _ K1 h.y,h.st⟩ (Bl.dh _ _ _)⟩
end
def ErK (rb b off:Nat) (cs:List ZR) (F:Nat->Prop) (s':RS) (x lv:ZR) (xs:List ZR) (A:Hp) (Y:ZR->Hp->Prop) (N:Fr->Hp->Prop) (f:Fr):Prop:=∀A' uZ,Bl A' b (cs.set off uZ)->br A' uZ (xs++[x])->(∀q,ay uZ q->ay lv q\/A.size<=q)->jm F A' rb s'.1 s'.2->af (fun q=>q=b\/q=rb\/ay lv q) A A'->Y uZ A'->N f A'
def adE {P:Program} {V:aH} {f:Fr} {A A':Hp} {e:Env} {rb b C bn:Nat} {cs:List ZR} {F:Nat->Prop} {s s':RS} {x lv:ZR} {xs:List ZR} {Y:Hp->Prop} {Y':ZR->Hp->Prop} {N:Fr->Hp->Prop} (hI:F6 rb b C cs F s A) (O:br A lv xs) (o:∀q,ay lv q->C<=q) (hL:xs.length<=100) (hoff:5<cs.length) (hx:x.oneCell'=ZT)
  (hS:iZ rb b cs F Y A s' A') (hBn:Bl A' bn [x]) (e0:look e 25=Z7 (ZV ⟨b,0,ZU⟩)) (e1:look e 29=lv) (e2:look e 32=Z6 (ZV ⟨bn,0,ZU⟩) 1 1) (hY:∀uZ A2,af (fun q=>q=b\/ay lv q) A' A2->(∀q,ay uZ q->ay lv q\/A'.size<=q)->Y A'->Y' uZ A2) (hK:ErK rb b 5 cs F s' x lv xs A Y' N f):dJ P (rG rb b C) (tI V) e f A' N:=by
 unfold tI kW ka kb kZ;rw[en];refine⟨?_,trivial⟩;simp only[EX.wp,iW,e1,e2];have hs:=hS.k.size;have hC:=hI.hC;have hbC:=hI.bC;have n1:∀q,ay lv q->q≠rb:=fun q hq e=>by have:=o q hq;have:=hI.rC;omega
 refine iD (O.ai hS.k n1) (aP.bl hBn 0 1 1 (by omega) (by simp)) (fun y hy=>by simp at hy;subst hy;exact hx) rfl (by unfold maxLen;simp;omega) (by simp;omega) fun v' A1 O1 K1 o1=>?_;have s1:=K1.size;have B1:=K1.bl hS.B fun h=>by have:=o _ h;omega
 have t1:=B1.bw (o:=5) hoff;have K2:af (fun q=>q=b) A1 (az A1 ⟨b,5,ZU⟩ v'):=(af.refl _ _).az _ (.inl rfl);have df:af (fun q=>q=b\/ay lv q) A' (az A1 ⟨b,5,ZU⟩ v'):=(K1.mono fun q _ h=>.inr h).trans (K2.mono fun q _ h=>.inl h);rw[aJ];refine⟨K1.mono fun q _ h=>.inr (.inr (o q h)),?_⟩;simp only[go_sem,Za,Zb,e0,t1];refine⟨aK O1.sl.aq,K2.mono fun q _ h=>.inl h,hK _ v' (B1.az 5 v') (O1.ai K2 fun q hq e=>?_) (fun q hq=>?_) (hS.R.ai df fun q hq e=>?_) ((hS.k.mono fun q _ e=>.inr (.inl e)).trans (df.mono fun q _ h=>h.elim .inl fun h=>.inr (.inr h))) (hY v' _ df o1 hS.y)⟩
 ·rcases o1 q hq with h|h
  ·have:=o q h;omega
  ·omega
 ·rcases o1 q hq with h|h
  ·exact .inl h
  ·exact .inr (by omega)
 ·rcases e with e|e
  ·exact hI.nF (e▸hq)
  ·have:=o q e;have:=hI.FC q hq;omega
def adF {P:Program} {V:aH} {f:Fr} {A A':Hp} {e:Env} {rb b C bn:Nat} {cs:List ZR} {F:Nat->Prop} {s s':RS} {x lv:ZR} {xs:List ZR} {Y:Hp->Prop} {Y':ZR->Hp->Prop} {N:Fr->Hp->Prop} (hI:F6 rb b C cs F s A) (O:br A lv xs) (o:∀q,ay lv q->C<=q) (hL:xs.length<=100) (hoff:6<cs.length) (hx:x.oneCell'=ZT)
  (hS:iZ rb b cs F Y A s' A') (hBn:Bl A' bn [x]) (e0:look e 36=Z7 (ZV ⟨b,0,ZU⟩)) (e1:look e 40=lv) (e2:look e 43=Z6 (ZV ⟨bn,0,ZU⟩) 1 1) (hY:∀uZ A2,af (fun q=>q=b\/ay lv q) A' A2->(∀q,ay uZ q->ay lv q\/A'.size<=q)->Y A'->Y' uZ A2) (hK:ErK rb b 6 cs F s' x lv xs A Y' N f):dJ P (rG rb b C) (tJ V) e f A' N:=by
 unfold tJ kW ka kb;rw[en];refine⟨?_,trivial⟩;simp only[EX.wp,iW,e1,e2];have hs:=hS.k.size;have hC:=hI.hC;have hbC:=hI.bC;have n1:∀q,ay lv q->q≠rb:=fun q hq e=>by have:=o q hq;have:=hI.rC;omega
 refine iD (O.ai hS.k n1) (aP.bl hBn 0 1 1 (by omega) (by simp)) (fun y hy=>by simp at hy;subst hy;exact hx) rfl (by unfold maxLen;simp;omega) (by simp;omega) fun v' A1 O1 K1 o1=>?_;have s1:=K1.size;have B1:=K1.bl hS.B fun h=>by have:=o _ h;omega
 have t1:=B1.bw (o:=6) hoff;have K2:af (fun q=>q=b) A1 (az A1 ⟨b,6,ZU⟩ v'):=(af.refl _ _).az _ (.inl rfl);have df:af (fun q=>q=b\/ay lv q) A' (az A1 ⟨b,6,ZU⟩ v'):=(K1.mono fun q _ h=>.inr h).trans (K2.mono fun q _ h=>.inl h);rw[aJ];refine⟨K1.mono fun q _ h=>.inr (.inr (o q h)),?_⟩;simp only[go_sem,Za,Zb,e0,t1];refine⟨aK O1.sl.aq,K2.mono fun q _ h=>.inl h,hK _ v' (B1.az 6 v') (O1.ai K2 fun q hq e=>?_) (fun q hq=>?_) (hS.R.ai df fun q hq e=>?_) ((hS.k.mono fun q _ e=>.inr (.inl e)).trans (df.mono fun q _ h=>h.elim .inl fun h=>.inr (.inr h))) (hY v' _ df o1 hS.y)⟩
 ·rcases o1 q hq with h|h
  ·have:=o q h;omega
  ·omega
 ·rcases o1 q hq with h|h
  ·exact .inl h
  ·exact .inr (by omega)
 ·rcases e with e|e
  ·exact hI.nF (e▸hq)
  ·have:=o q e;have:=hI.FC q hq;omega
def adG {P:Program} {V:aH} (hs:gG P (V.f 343)) {f:Fr} {A:Hp} {rb b C:Nat} {cs:List ZR} {F:Nat->Prop} {s:RS} {lv:ZR} {xs:List ZR} {Qb:Ex->Fr->Hp->Prop} (h4:f 4=Z7 (ZV ⟨rb,0,ZU⟩)) (h7:f 7=Z7 (ZV ⟨b,0,ZU⟩)) (hI:F6 rb b C cs F s A) (hc:cs[5]?=ZV lv) (O:br A lv xs) (o:∀q,ay lv q->C<=q) (hL:xs.length<=100)
  (hK:∀y,ErK rb b 5 cs F (dg 256 s).2 y lv xs A (fun uZ X=>aR X (Z0 #[y]) (bP (dg 256 s).1)/\∀q,aV y q->A.size<=q/\¬ay uZ q) (Qb .n) f):vc P (DB V) Qb f A:=by
 unfold DB kW ka kg;refine aZ (rG rb b C) ?_;have hoff:5<cs.length:=(List.getElem?_eq_some_iff.1 hc).1;have S0:=hI.s;have hW:rG rb b C rb:=.inr (.inl rfl);simp only[cQ,ek,PX.free,if_true,PX.pre,PX.val,k7,iW,bD,rI,h4,h7,KN,fc,fQ,gQ,nV,true_and,and_true,Zt];have leaf:∀(y:ZR) (e:Env) (A':Hp) (bn:Nat),iZ rb b cs F (agS A.size (Z0 #[y]) (bP (dg 256 s).1)) A (dg 256 s).2 A'->Bl A' bn [y]->look e 25=Z7 (ZV ⟨b,0,ZU⟩)->look e 29=lv->look e 32=Z6 (ZV ⟨bn,0,ZU⟩) 1 1->dJ P (rG rb b C) (tI V) e f A' (Qb .n):=fun y e A' bn hS hB e0 e1 e2=>by
  have hy:=hS.y.1;obtain⟨u,W,e',hV⟩:=hy
  cases e'
  refine adE hI O o hL hoff (aK hV.sl.aq) hS hB e0 e1 e2 (fun uZ A2 K o' h=>?_) (hK y);have h2:=hI.hC;have h3:=hI.bC;refine⟨h.1.ai K fun q hq e=>?_,fun q hq=>⟨h.2 q hq,fun e=>?_⟩⟩
  ·have h1:=h.2 q hq;rcases e with e|e
   ·omega
   ·have:=O.bo e;omega
  ·have h1:=h.2 q hq;have h4:=h.1.bo (k:=q) hq;rcases o' q e with e|e
   ·have:=O.bo e;omega
   ·omega
 repeat' (first|exact trivial|exact leaf _ _ _ _ (by assumption) (by assumption) rfl rfl rfl|refine iZ.rd (by assumption) hc rfl ?_ ?_|refine iZ.set hs (most:=256) (by assumption) hW (by omega) rfl (fun _ _ _=>?_) ?_|refine iZ.ai0 (by assumption) rfl rfl (fun _ _ _ _=>?_) ?_)
def adH {P:Program} {V:aH} (hs:ew P (V.f 342)) {f:Fr} {A:Hp} {rb b C:Nat} {cs:List ZR} {F:Nat->Prop} {s:RS} {lv:ZR} {xs:List ZR} {Qb:Ex->Fr->Hp->Prop} (h4:f 4=Z7 (ZV ⟨rb,0,ZU⟩)) (h7:f 7=Z7 (ZV ⟨b,0,ZU⟩)) (hI:F6 rb b C cs F s A) (hc:cs[6]?=ZV lv) (O:br A lv xs) (o:∀q,ay lv q->C<=q) (hL:xs.length<=100)
  (hK:ErK rb b 6 cs F (rdNum 256 s).2 (Z8 ZY ((rdNum 256 s).1:Int)) lv xs A (fun _ _=>True) (Qb .n) f):vc P (DC V) Qb f A:=by
 unfold DC kW ka kg;refine aZ (rG rb b C) ?_;have hoff:6<cs.length:=(List.getElem?_eq_some_iff.1 hc).1;have S0:=hI.s;have hW:rG rb b C rb:=.inr (.inl rfl);simp only[cQ,ek,PX.free,if_true,PX.pre,PX.val,k7,iW,bD,rI,h4,h7,KN,fc,fQ,gQ,nV,true_and,and_true,Zt];have leaf:∀(e:Env) (A':Hp) (bn:Nat),iZ rb b cs F (fun _=>True) A (rdNum 256 s).2 A'->Bl A' bn [Z8 ZY ((rdNum 256 s).1:Int)]->look e 36=Z7 (ZV ⟨b,0,ZU⟩)->look e 40=lv->look e 43=Z6 (ZV ⟨bn,0,ZU⟩) 1 1->dJ P (rG rb b C) (tJ V) e f A' (Qb .n):=fun e A' bn hS hB e0 e1 e2=>adF hI O o hL hoff rfl hS hB e0 e1 e2 (fun _ _ _ _ _=>trivial) hK
 repeat' (first|exact trivial|exact leaf _ _ _ (by assumption) (by assumption) rfl rfl rfl|refine iZ.rd (by assumption) hc rfl ?_ ?_|refine iZ.num hs (most:=256) (by assumption) hW (by omega) rfl (fun _ _=>?_) ?_|refine iZ.ai0 (by assumption) rfl rfl (fun _ _ _ _=>?_) ?_)
def adI (s:RS):eZ (dg 256 s).1/\(dg 256 s).1.length<=33/\∀n,bP (dg 256 s).1 n=ZT->n<=256:=by
 have key:eZ (dg 256 s).1/\∀n,bP (dg 256 s).1 n=ZT->n<=256:=by
  have hn:eZ ([]:List UInt8)/\∀n,bP [] n=ZT->n<=256:=⟨fun h=>absurd rfl h,fun n h=>by rw[gF]at h;cases h⟩
  unfold dg
  split
  ·exact hn
  ·split
   ·exact hn
   ·split
    ·exact hn
    ·next h=>
     split
     ·exact hn
     ·next h2=>
      refine⟨Zn h,fun n hb=>?_⟩;apply Zn;intro hc;exact h2 ⟨n,hb,by omega⟩
 exact⟨key.1,Kc key.1 key.2,key.2⟩
def adJ (s:RS):nk (lF s).1:=by
 obtain⟨a,b,c⟩:=adI s;exact⟨a,b,c,FM 256 _⟩
def xS:∀(n:Nat) (s:RS),∀x∈(bq lF n s).1,nk x
 |0,_,x,h=>by cases h
 |n+1,s,x,h=>by
  rw[bq]at h;rcases List.mem_append.1 h with h|h
  ·exact xS n s x h
  ·rw[XC]at h;subst h;exact adJ _
def adK (s:RS):(lF s).2.1.length<=s.1.length:=Nat.le_trans (iv _ _) (uY _ _)
def ie (us:List uE):(lT us).length=us.length:=by simp[lT]
def cL (us:List uE):(l7 us).length=us.length:=by simp[l7]
def nq {us:List uE} {k:Nat} (h:k<us.length):(l7 us).getD k (fun _=>ZS)=bP us[k].1:=by
 rw[ZP,ZO (by rw[cL];exact h),Zu];unfold l7;rw[WR]
def Uj {F:cf} {us:List uE} (hok:nM F=ZT) (hl:us.length=F.st.length) (hu:∀x∈us,nk x) (hb:∀x∈us,¬qG (bP x.1)):eT (bJ F (l7 us)):=by
 have hG:=dH hok;have su:=hG.lim;unfold iJ at su;have hlt:=hG.lt;have e:(bJ F (l7 us)).el.length=F.st.length:=by simp[bJ,cL,hl]
 have hne:F.st.length≠0:=fun h=>hG.ne (List.eq_nil_of_length_eq_zero h);refine⟨by omega,by omega,fun k u h=>?_,?_,?_,?_,?_,?_,?_⟩
 ·have h:(l7 us).getD k (fun _=>ZS) u=ZT:=h
  by_cases hk:k<us.length
  ·rw[nq hk]at h;have h1:=hb _ (ZL hk);have h2:=(hu _ (ZL hk)).2.2.1 u h;have h3:u≠0:=fun e=>h1 ⟨u,h,.inl e⟩;omega
  ·rw[ZP,List.getElem?_eq_none (by rw[cL];omega)]at h
   cases h
 ·show F.di.length<=20;omega
 ·show F.sa.length<=20;omega
 ·show F.mo.length<=20;omega
 ·rw[e];exact hG.di
 ·rw[e];exact hG.sa
 ·rw[e];exact hG.mo
def agU {us:List uE} (hu:∀x∈us,nk x):yp us.length (lT us):=⟨ie us,fun u h=>by
 unfold lT at h;obtain⟨x,hx,rfl⟩:=List.mem_map.1 h;have:=(hu x hx).2.2.2;omega⟩
structure ErI (C rb rn:Nat) (s b d a m:ZR) (FF:Nat->Prop) (us:List uE) (q:RS) (A:Hp) (ev sv:ZR) (vs:List ZR):Prop where
 B:Bl A rn [s,b,d,a,m,ev,sv]
 e:br A ev vs
 m:br A sv (iL (lT us))
 l:vs.length=us.length
 S:∀i (h:i<vs.length) (h':i<us.length),aR A (Z0 #[vs[i]]) (bP us[i].1)
 oe:∀q,ay ev q->C<=q
 om:∀q,ay sv q->C<=q/\¬ay ev q
 os:∀x∈vs,∀q,aV x q->C<=q/\¬ay ev q/\¬ay sv q
 R:jm FF A rb q.1 q.2
structure alW (P:Program) (V:aH):Prop where
 newr:tt P (V.f 108)
 byt:mY P (V.f 114)
 fread:tF P V (V.f 351)
 cnt:pt P (V.f 113)
 set:gG P (V.f 343)
 num:ew P (V.f 342)
 fin:xI P (V.f 117)
 usr:qH P (V.f 378)
 snd:FU P V (V.f 421)
 ebyt:ry P V (V.f 414)
 beq:rk P (V.f 344)
def agV {P:Program} {V:aH} (hs:gG P (V.f 343)) (hn:ew P (V.f 342)) {C rb rn:Nat} {s b d a m:ZR} {FF:Nat->Prop} {us:List uE} {q:RS} {A:Hp} {ev sv:ZR} {vs:List ZR} {f:Fr} {Qb:Ex->Fr->Hp->Prop} (h4:f 4=Z7 (ZV ⟨rb,0,ZU⟩)) (h7:f 7=Z7 (ZV ⟨rn,0,ZU⟩)) (I:ErI C rb rn s b d a m FF us q A ev sv vs)
  (hl:q.1.length<=1000000) (hne:rn≠rb) (hrn:rn<C) (hrb:rb<C) (hC:C<=A.size) (hnF:¬FF rn) (hFC:∀q,FF q->q<C) (hul:us.length<=100)
  (hK:∀A' Cw tV vs',ErI C rb rn s b d a m FF (us++[(lF q).1]) (lF q).2 A' Cw tV vs'->af (rG rb rn C) A A'->Qb .n f A'):vc P (.seq (DB V) (DC V)) Qb f A:=by
 have hI:F6 rb rn C [s,b,d,a,m,ev,sv] FF q A:=⟨I.B,I.R,hl,hne,hrn,hrb,hC,hnF,hFC⟩
 have hvl:=I.l;rw[kx];refine adG hs h4 h7 hI rfl I.e I.oe (by omega) fun y A1 Cw B1 O1 o1 R1 K1 hY=>?_;have B1:Bl A1 rn [s,b,d,a,m,Cw,sv]:=B1;have s1:=K1.size;have hoe:∀q,ay Cw q->C<=q:=fun q hq=>by
  rcases o1 q hq with h|h
  ·exact I.oe q h
  ·omega
 have hle:=uY 256 q;have hI1:F6 rb rn C [s,b,d,a,m,Cw,sv] FF (dg 256 q).2 A1:=⟨B1,R1,by omega,hne,hrn,hrb,by omega,hnF,hFC⟩
 have m1:br A1 sv (iL (lT us)):=I.m.ai K1 fun q hq e=>by
  have:=I.om q hq;rcases e with e|e|e
  ·omega
  ·omega
  ·exact this.2 e
 have S1:∀i (h:i<vs.length) (h':i<us.length),aR A1 (Z0 #[vs[i]]) (bP us[i].1):=fun i h h'=>(I.S i h h').ai K1 fun q hq e=>by
  have:=I.os _ (ZL h) q hq;rcases e with e|e|e
  ·omega
  ·omega
  ·exact this.2.1 e
 have bo:∀x∈vs,∀q,aV x q->q<A.size:=fun x hx q hq=>by
  obtain⟨j,hj,rfl⟩:=ZC hx;exact(I.S j hj (by omega)).bo (k:=q) hq
 refine adH hn h4 h7 hI1 rfl m1 (fun q hq=>(I.om q hq).1) (by rw[aA,ie];exact hul) fun A2 tV B2 O2 o2 R2 K2 _=>?_;have B2:Bl A2 rn [s,b,d,a,m,Cw,tV]:=B2;have s2:=K2.size;have ev2:∀q,ay Cw q->¬(q=rn\/q=rb\/ay sv q):=fun q hq e=>by
  have h1:=hoe q hq;rcases e with e|e|e
  ·omega
  ·omega
  ·rcases o1 q hq with h|h
   ·exact(I.om q e).2 h
   ·have:=I.m.bo e;omega
 have y2:∀q,aV y q->¬(q=rn\/q=rb\/ay sv q):=fun q hq e=>by
  have h1:=hY.2 q hq;rcases e with e|e|e
  ·omega
  ·omega
  ·have:=I.m.bo e;omega
 have lst:iL (lT us)++[Z8 ZY ((rdNum 256 (dg 256 q).2).1:Int)]=iL (lT (us++[(lF q).1])):=by simp[lT,iL,lF]
 have Nr:∀q,ay tV q->ay sv q\/A1.size<=q:=o2;refine hK A2 Cw tV (vs++[y]) ⟨B2,O1.ai K2 ev2,by rw[<-lst];exact O2,by simp[hvl],fun i h h'=>?_,hoe,fun q hq=>?_,fun x hx q hq=>?_,R2⟩ ((K1.mono fun q _ e=>?_).trans (K2.mono fun q _ e=>?_))
 ·by_cases e:i<vs.length
  ·have e1:(vs++[y])[i]=vs[i]:=YJ e;have e2:(us++[(lF q).1])[i]=us[i]'(by omega):=YJ (by omega);rw[e1,e2];exact(S1 i e (by omega)).ai K2 fun q hq e=>by
    have:=I.os _ (ZL _) q hq;rcases e with e|e|e
    ·omega
    ·omega
    ·exact this.2.2 e
  ·have hi:i=vs.length:=by simp at h;omega
   subst hi;have e1:(vs++[y])[vs.length]=y:=by simp
   have e2:(us++[(lF q).1])[vs.length]'h'=(lF q).1:=by simp[hvl]
   rw[e1,e2];exact hY.1.ai K2 y2
 ·rcases Nr q hq with h|h
  ·refine⟨(I.om q h).1,fun e=>?_⟩;rcases o1 q e with h'|h'
   ·exact(I.om q h).2 h'
   ·have:=I.m.bo h;omega
  ·exact⟨by omega,fun e=>by have:=O1.bo e;omega⟩
 ·rcases List.mem_append.1 hx with hx|hx
  ·have h3:=I.os x hx q hq;have h4:=bo x hx q hq;refine⟨h3.1,fun e=>?_,fun e=>?_⟩
   ·rcases o1 q e with h|h
    ·exact h3.2.1 h
    ·omega
   ·rcases Nr q e with h|h
    ·exact h3.2.2 h
    ·omega
  ·simp only[XC]at hx;subst hx;have h1:=hY.2 q hq;have h2:=hY.1.bo (k:=q) hq;refine⟨by omega,fun e=>?_,fun e=>?_⟩
   ·exact h1.2 e
   ·rcases Nr q e with h|h
    ·have:=I.m.bo h;omega
    ·omega
 ·rcases e with e|e|e
  ·exact .inl e
  ·exact .inr (.inl e)
  ·exact .inr (.inr (I.oe q e))
 ·rcases e with e|e|e
  ·exact .inl e
  ·exact .inr (.inl e)
  ·exact .inr (.inr (I.om q e).1)
def tK (P:Program) (V:aH) (k:FuncId):Prop:=∀(l:List UInt8) (v:ZR) (H:Hp),bh V H->aP H v (w8 l)->l.length<=1000000→
 (∀F,nM F=ZT->cN F=(bj l.length (l,0)).1->(bF 10 (bj l.length (l,0)).2).1=F.st.length->F.st.length<=5)→
 an P k #[v] H fun r H'=>af (fun _=>False) H H'/\((∃F us rn,xQ F us/\fJ F us=l/\r=ZZ #[Z7 (ZV ⟨rn,0,ZU⟩),Z8 ZY 0]/\cH H' rn F (l7 us) (lT us))∨
  ((∀F us,xQ F us->fJ F us≠l)/\r=ZZ #[Z7 ZU,Z8 ZY 6]))
def Uk {P:Program} {V:aH} {k:FuncId} (hk:ak P k (DD V) DE 1) (c:alW P V):tK P V k:=by
 intro l v H hT hv DT h5;obtain⟨Q,hQ⟩:∃Q:ZR->Hp->Prop,Q=fun r H'=>af (fun _=>False) H H'/\((∃F us rn,xQ F us/\fJ F us=l/\r=ZZ #[Z7 (ZV ⟨rn,0,ZU⟩),Z8 ZY 0]/\cH H' rn F (l7 us) (lT us))∨
  ((∀F us,xQ F us->fJ F us≠l)/\r=ZZ #[Z7 ZU,Z8 ZY 6])):=⟨_,rfl⟩
 rw[<-hQ];refine ah hk (args:=[_]) (by simp) ?_;unfold DD DE kA kB kF kC ke kH kL kM kQ kU kc kd kf kg kY kZ;have lv:aW v=l.length:=by rw[hv.len,aM]
 simp only[go_sem,Za,Zb];refine(c.newr l v H hv (by omega)).mono ?_;rintro r H1 ⟨rb,FF,rfl,R1,nF,K1⟩;have s1:=K1.size;rw[ae];simp only[go_sem,Za,Zb,hv.aq,lv];refine(c.byt FF rb (l,0) l.length H1 R1 (by simp only;omega) (by omega)).mono ?_;rintro r H2 ⟨O2,o2,R2,K2⟩;have hrb:H.size<=rb:=by
  obtain⟨_,_,_,h,_⟩:=R1;exact nF rb h
 have cS:af (fun _=>False) H H2:=K1.trans' K2 fun q hq e=>by omega
 have PY:=ru l.length (l,0);have IQ:(bj l.length (l,0)).1.length<=l.length:=zq _ _;obtain⟨p1,hp1⟩:∃p,p=bj l.length (l,0):=⟨_,rfl⟩
 rw[<-hp1]at O2 R2 PY IQ h5;rw[ae];simp only[go_sem,Za,Zb];refine(c.fread p1.1 r H2 (hT.ai cS) O2.sl (by omega)).mono ?_;rintro r H3 ⟨hc,K3⟩;have eo:=cS.trans K3;have R3:=R2.ai K3 (by simp);obtain⟨s,b,d,a,m,e6,rfl,hsl,hF6⟩:∃s b d a m e6,r=ZZ #[Z0 #[s,b,d,a,m],Z8 ZY e6]/\(aq s/\aq b/\aq d/\aq a/\aq m)/\((e6=0/\∃F,nM F=ZT/\cN F=p1.1/\aW s=F.st.length/\∀X W,af W H3 X->(∀q,W q->q<H2.size)->bZ X (Z0 #[s,b,d,a,m]) F)\/(e6≠0/\∀F,nM F=ZT->cN F≠p1.1)):=by
  rcases hc with⟨F,fv,h1,h2,rfl,h3⟩|⟨h1,rfl⟩
  ·obtain⟨s,b,d,a,m,ms,rfl,q1,q2,q3,q4,q5,q6⟩:=h3 _ (fun _=>False) (af.refl _ _) fun q h=>h.elim;exact⟨s,b,d,a,m,0,rfl,⟨q1.aq,q2.aq,q3.aq,q4.aq,q5.aq⟩,.inl ⟨rfl,F,h1,h2,q1.len,h3⟩⟩
  ·exact⟨_,_,_,_,_,6,rfl,⟨trivial,trivial,trivial,trivial,trivial⟩,.inr ⟨by decide,h1⟩⟩
 have alX:([s,b,d,a,m].all fun v=>v.oneCell')=ZT:=by
  obtain⟨q1,q2,q3,q4,q5⟩:=hsl;simp only[Yc,Xs,aK q1,aK q2,aK q3,aK q4,aK q5];rfl
 rw[ae];simp only[go_sem,Za,Zb];refine aO [s,b,d,a,m] (by rfl) rfl rfl alX fun H4 b5 e4 z4 B5 K4=>?_;have oF:=eo.trans K4;have R4:=R3.ai K4 (by simp);simp-implicitDefEqProofs only[go_sem,↓reduceIte,Za,Zb,Zc,reduceCtorEq,Zf,Zg,Zh,Zi,Zd,Ze,B5.aL 5 rfl];refine ax fun H5 rn e5 z5 Bn K5=>?_;have Bn':Bl H5 rn [s,b,d,a,m,Z6 ZU 0 0,Z6 ZU 0 0]:=Bn;have DS:=oF.trans K5;have R5:=R4.ai K5 (by simp);have B55:=K5.bl B5 id;simp only[go_sem,Za,Zb];refine(c.cnt FF rb p1.2 10 H5 R5 (by simp only at PY;omega) (by omega)).mono ?_;rintro r H6 ⟨rfl,R6,K6⟩;have DQ:af (fun _=>False) H H6:=DS.trans' K6 fun q hq e=>by omega
 obtain⟨hd1,hd2⟩:=kh 10 p1.2;have s4:=K4.size;have s5:=K5.size;have s6:=K6.size;have s2:=K2.size;have s3:=K3.size;have lrb:rb<H1.size:=by
  obtain⟨_,h,_⟩:=R1;exact h.lt
 have lrn:=Bn'.lt;have lb5:=B5.lt;have hFb:=R1.bound;have nFn:¬FF rn:=fun h=>by have:=hFb rn h;omega
 have B56:=K6.bl B55 (by omega);have Bn6:=K6.bl Bn' (by omega);rw[ae];simp only[go_sem,Za,Zb];refine aF (bF 10 p1.2).1 [24,23] rfl rfl (by omega) (by rfl) (by rfl) (fun i g A=>∃ev sv vs,ErI H6.size rb rn s b d a m FF (bq lF i (bF 10 p1.2).2).1 (bq lF i (bF 10 p1.2).2).2 A ev sv vs/\af (rG rb rn H6.size) H6 A)
  ⟨Z6 ZU 0 0,Z6 ZU 0 0,[],⟨Bn6,br.nil _,br.nil _,rfl,fun i h=>by simp at h,fun q h=>h.elim,fun q h=>h.elim,fun x h=>by simp at h,R6⟩,af.refl _ _⟩ ?_ ?_
 ·rintro i g A hi gi gn ⟨ev,sv,vs,I,K⟩;simp only[go_sem,Za,Zb,ae]at gi gn;have sA:=K.size;have hlr:=iS adK i (bF 10 p1.2).2;have UK:=eV lF i (bF 10 p1.2).2;refine agV c.set c.num (by rfl) (by rfl) I (by simp only at PY;omega) (by omega) (by omega) (by omega) (by omega) nFn (fun q hq=>by have:=hFb q hq;omega) (by omega) fun A' Cw tV vs' I' K'=>?_;simp only[go_sem,Za,Zb,ae];exact⟨Cw,tV,vs',I',K.trans K'⟩
 ·rintro g A -⟨ev,sv,vs,I,K⟩;obtain⟨us,hus⟩:∃us,us=(cg 10 lF p1.2).1:=⟨_,rfl⟩
  obtain⟨s3,UA⟩:∃q,q=(cg 10 lF p1.2).2:=⟨_,rfl⟩
  have I:ErI H6.size rb rn s b d a m FF us s3 A ev sv vs:=by rw[hus,UA];exact I
  have hul:us.length=(bF 10 p1.2).1:=by rw[hus];exact eV _ _ _
  have huk:∀x∈us,nk x:=by rw[hus];exact xS _ _
  rw[<-hul]at h5 hd2;have hrt:∀G ws,xQ G ws->fJ G ws=l->cN G=p1.1/\ws=us/\s3=([],0):=fun G ws hV he=>by
   have hm:(cN G).length<=l.length:=by
    rw[<-he];unfold fJ;simp only[ZK,du];omega
   obtain⟨x1,x2⟩:=hV.rd hm (by omega) [];rw[YY,he,<-hp1]at x1;have e1:p1.1=cN G:=by rw[x1]
   have e2:p1.2=(bQ eE ws++[],0):=by rw[x1]
   rw[e2,x2]at hus UA;exact⟨e1.symm,hus.symm,UA⟩
  have K6A:af (fun _=>False) H A:=DQ.trans' K fun q hq e=>by
   rcases e with e|e|e<;>omega
  have bad:∀X,af (fun _=>False) A X->(∀G ws,xQ G ws->fJ G ws≠l)->Q (ZZ #[Z7 ZU,Z8 ZY 6]) X:=fun X KX h=>by
   rw[hQ];exact⟨K6A.trans KX,.inr ⟨h,rfl⟩⟩
  have sA:=K.size;have B5A:=K.bl B56 (by
   rintro(e|e|e)
   ·omega
   ·omega
   ·omega)
  simp only[go_sem,Za,Zb];unfold aeL kA kB kC kW kX ka kg kY;simp only[go_sem,Za,Zb];refine aZ (fun _=>False) ?_;simp only[go_sem,Za,Zb];refine(c.fin FF rb s3.1 s3.2 A I.R).mono ?_;rintro r A1 ⟨rfl,rfl⟩;rw[aJ];refine⟨af.refl _ _,?_⟩;have c6:cell A1 ⟨rn,6,ZU⟩=ZV sv:=by rw[I.B.cell];rfl
  have c5:cell A1 ⟨rn,5,ZU⟩=ZV ev:=by rw[I.B.cell];rfl
  have c50:cell A1 ⟨b5,0,ZU⟩=ZV s:=by rw[B5A.cell];rfl
  have lsv:aW sv=us.length:=by rw[I.m.sl.len,aA,ie]
  by_cases hE:rh s3=0
  case neg=>
   have d1:(rh (s3.1,s3.2)!=0)=ZT:=bne_iff_ne.2 hE;simp only[go_sem,Za,Zb,ae,d1];exact bad _ (af.refl _ _) fun G ws hV he=>hE (by rw[(hrt G ws hV he).2.2];rfl)
  have d1:(rh (s3.1,s3.2)!=0)=ZS:=by
   have:rh (s3.1,s3.2)=0:=hE;rw[this];rfl
  rcases hF6 with⟨rfl,F,hok,hEF,ls,hPF⟩|⟨h6,hno⟩
  case inr=>
   have d6:(e6 !=0)=ZT:=bne_iff_ne.2 h6;simp only[go_sem,Za,Zb,ae,d1,d6];exact bad _ (af.refl _ _) fun G ws hV he=>hno G hV.ok (hrt G ws hV he).1
  have d6:((0:Int)!=0)=ZS:=rfl;have hFG:∀G ws,xQ G ws->fJ G ws=l->G=F:=fun G ws hV he=>by
   have:=(hrt G ws hV he).1;exact(xP (r:=[]) (t:=[]) (fO hV.ok) (fO hok) (by rw[this,hEF])).1
  have hPA:bZ A1 (Z0 #[s,b,d,a,m]) F:=hPF A1 (fun q=>q=rb) ((((K4.trans K5).any (W:=fun q=>q=rb)).trans (K6.mono fun q _ e=>e)).trans' K fun q hq e=>by
   rcases e with e|e|e
   ·omega
   ·exact e
   ·omega) fun q e=>by omega
  by_cases hn:us.length=F.st.length
  case neg=>
   have d7:(((us.length:Nat):Int)!=((F.st.length:Nat):Int))=ZT:=bne_iff_ne.2 (by omega);simp only[go_sem,Za,Zb,ae,d1,d6,c6,c50,I.m.sl.aq,lsv,hsl.1,ls,d7];exact bad _ (af.refl _ _) fun G ws hV he=>hn (by rw[<-(hrt G ws hV he).2.1,hV.len,hFG G ws hV he])
  have d7:(((us.length:Nat):Int)!=((F.st.length:Nat):Int))=ZS:=by rw[hn];simp
  simp-implicitDefEqProofs only[go_sem,↓reduceIte,Za,Zb,Zc,reduceCtorEq,Zf,Zg,Zh,Zi,Zd,Ze,d1,d6,c6,c5,c50,I.m.sl.aq,lsv,hsl.1,ls,d7];have hes:∀i<vs.length,aR A1 (Z0 #[vs.getD i undef]) ((l7 us).getD i fun _=>ZS):=fun i hi=>by
   have iU:i<us.length:=by rw[<-I.l];exact hi
   rw[nq iU,ZP,ZO hi,Zu];exact I.S i hi iU
  have hel:vs.length=(l7 us).length:=by rw[cL];exact I.l
  have hlt:=(dH hok).lt;refine(c.usr (l7 us) vs ev (F.st.length:Int) A1 I.e.sl hel (by rw[cL];omega) hes).mono ?_;rintro r A2 ⟨eu,rfl,K2u,hu⟩;rw[aJ];refine⟨K2u,?_⟩;rw[cL]at hu;rcases hu with⟨hu,_⟩|⟨_,⟨rfl,i,hi,hb⟩|⟨rfl,hnb⟩⟩
  ·exact absurd (by omega) hu
  ·have d8:((2:Int)!=0)=ZT:=rfl;simp only[go_sem,Za,Zb,ae,d8];exact bad _ K2u fun G ws hV he=>by
    have e:=(hrt G ws hV he).2.1;subst e;rw[nq hi]at hb;exact hV.bad _ (ZL hi) hb
  have rZ:∀x∈us,¬qG (bP x.1):=fun x hx=>by
   obtain⟨j,hj,rfl⟩:=ZC hx;have:=hnb j hj
   rwa [nq hj]at this
  have hG:=Uj hok hn huk rZ;have h5':us.length<=5:=by have:=h5 F hok hEF hn;omega
  have hB:uB (bJ F (l7 us)) (lT us):=by
   have e:(bJ F (l7 us)).el.length=us.length:=cL us;exact pq hG (by rw[e];exact agU huk) (by rw[e];exact h5')
  have hRn:cH A1 rn F (l7 us) (lT us):=⟨s,b,d,a,m,ev,sv,vs,I.B,hPA,I.e.sl,hel,by rw[cL,hn],hes,I.m.sl⟩
  have agW:=hRn.aj K2u;have NZ:=K6A.trans K2u;have d8:((0:Int)!=0)=ZS:=rfl;simp-implicitDefEqProofs only[go_sem,↓reduceIte,Za,Zb,Zc,reduceCtorEq,Zf,Zg,Zh,Zi,Zd,Ze,d8];refine(c.snd F (l7 us) (lT us) rn A2 (hT.ai NZ) agW hok (by rw[ie,cL]) hG hB).mono ?_;rintro r A3 ⟨rfl,K3u⟩;rw[aJ];refine⟨K3u,?_⟩;have KA3:=NZ.trans K3u
  cases hsd:(qQ F.be (lT us)&&(et (bJ F (l7 us)) (lT us)).isSome)with
  |false=>
   simp only[go_sem,Za,Zb,ae,ZB];exact bad _ (K2u.trans K3u) fun G ws hV he=>by
    have e:=(hrt G ws hV he).2.1;have eG:=hFG G ws hV he;subst e eG;rw[hV.ord,hV.sol]at hsd
    cases hsd
  |true=>
   obtain⟨hord,alY⟩:=Bool.and_eq_true_iff.1 hsd;have hVR:xQ F us:=⟨hok,hn,huk,rZ,hord,alY⟩
   have hU:UsR (l7 us) (lT us) us:=⟨(cL us).symm,fun k hk n=>by rw[nq hk],rfl,huk⟩
   simp-implicitDefEqProofs only[go_sem,↓reduceIte,Za,Zb,Zc,reduceCtorEq,Zf,Zg,Zh,Zi,Zd,Ze,ZE];refine(c.ebyt F (l7 us) (lT us) us rn A3 (hT.ai KA3) (agW.aj K3u) hok hU (by rw[cL];omega)).mono ?_;rintro r A4 ⟨O4,o4,K4u⟩;rw[aJ];refine⟨K4u,?_⟩;have KA4:=KA3.trans K4u;simp-implicitDefEqProofs only[go_sem,↓reduceIte,Za,Zb,Zc,reduceCtorEq,Zf,Zg,Zh,Zi,Zd,Ze];refine(c.beq (fJ F us) l r v A4 O4.sl (hv.ai KA4 (by simp))).mono ?_;rintro r2 A5 ⟨rfl,rfl⟩;rw[aJ];refine⟨af.refl _ _,?_⟩
   by_cases heq:fJ F us=l
   ·simp only[go_sem,Za,Zb,ae,heq,decide_true,ZE];rw[hQ];exact⟨KA4,.inl ⟨F,us,rn,hVR,heq,rfl,((agW.aj K3u).aj K4u)⟩⟩
   ·have d9:ZQ (fJ F us=l)=ZS:=decide_eq_false heq;simp only[go_sem,Za,Zb,ae,d9,ZB];exact bad _ ((K2u.trans K3u).trans K4u) fun G ws hV he=>by
     have e:=(hrt G ws hV he).2.1;have eG:=hFG G ws hV he;subst e eG;exact heq he
def Kn (V:aH):S:=
 kY [kC 6 (Z5 ZS)] (.seq (kY [kA 10 0,kL 11 10,kA 12 1,kL 13 12,kV 14 (.cm .neq ZY (.t 11) (.t 13))] (.ite (.v 14) (kY [kC 6 (Z5 ZS)] .ret) .skip)) (.seq (kY [kV 15 (.mv (.v 0)),kO 16 15,kC 17 (Z8 ZY 0)] (.blk 0 (.loop (kY [kH 18 17 16] (.seq (.ite (.v 18) .skip (.exit 0)) (.seq (.blk 1 (kY [kA 19 17,kK 20 1 15 17,kN 21 1 20,kd 8 (.new (V.t 128) #[kZ]),kB 7 19,kf (.stn 1 (.v 8) (.t 21))] (kY [kA 22 1,kA 23 7,kI 24 1 22 23,kN 25 1 24,kd 9 (.new (V.t 128) #[kZ]),kf (.stn 1 (.v 9) (.t 25))] (kY [kA 26 2,kM 27 1 8,kM 28 1 9,kc 29 (.callv (.t 26) [.t 27,.t 28]),kV 30 (.not (.t 29))] (.ite (.v 30) (kY [kC 6 (Z5 ZS)] .ret) .skip))))) (.reg [ke 31 17,kB 17 31]))))))) (kY [kC 6 (Z5 ZT)] .ret)))
def Ko:List RV:=[.t 6]
def Kq (V:aH):S:=
 kY [kC 4 (Z5 ZS)] (.seq (kY [kA 5 0,kU 6 (.m (.eqn .ptr ZS (.t 5))),kF 7 6,kS 8 7 ZS 1,kT 9 7 ZS (.m (.eqn .ptr ZS (.t 8))),kV 10 (.pick (.t 7) (.c (Z5 ZT)) (.t 9))] (.ite (.v 10) (kY [kA 11 0,kU 12 (.m (.eqn .ptr ZS (.t 11))),kF 13 12,kS 14 13 ZT 1,kT 15 13 ZT (.m (.eqn .ptr ZS (.t 14))),kJ 16 13 15,kB 4 16] .ret) .skip)) (.seq (.dr (kW 17 (.mv (.v 0)) (kW 18 (.nil (.t 17)) (kW 19 (.fa 0 (.t 18)) (kW 20 (.m (.ldn 5 (.t 19))) (kW 21 (.mv (.v 1)) (kW 22 (.nil (.t 21)) (kW 23 (.fa 0 (.t 22)) (kW 24 (.m (.ldn 5 (.t 23))) (ka 25 (kg (V.f 333) [.t 20,.t 24]) (kW 26 (.mv (.t 25)) (.px (.t 27) (.some (.t 26,ZT)) (.mv (.v 0)) (.px (.t 28) (.some (.t 26,ZT)) (.nil (.t 27)) (.px (.t 29) (.some (.t 26,ZT)) (.fa 5 (.t 28)) (.px (.t 30) (.some (.t 26,ZT)) (.ld (.t 29)) (.px (.t 31) (.some (.t 26,ZT)) (.mv (.v 1)) (.px (.t 32) (.some (.t 26,ZT)) (.nil (.t 31)) (.px (.t 33) (.some (.t 26,ZT)) (.fa 5 (.t 32)) (.px (.t 34) (.some (.t 26,ZT)) (.ld (.t 33)) (.wcons (.t 35) (.some (.t 26,ZT)) (kg (V.f 415) [.t 30,.t 34,.c (.func (.func (V.f 140)) #[] #[])]) (kW 36 (.pick (.t 26) (.t 35) (.c (Z5 ZS))) (kW 37 (.mv (.t 36)) (.px (.t 38) (.some (.t 37,ZT)) (.mv (.v 0)) (.px (.t 39) (.some (.t 37,ZT)) (.nil (.t 38)) (.px (.t 40) (.some (.t 37,ZT)) (.fa 6 (.t 39)) (.px (.t 41) (.some (.t 37,ZT)) (.ld (.t 40)) (.px (.t 42) (.some (.t 37,ZT)) (.mv (.v 1)) (.px (.t 43) (.some (.t 37,ZT)) (.nil (.t 42)) (.px (.t 44) (.some (.t 37,ZT)) (.fa 6 (.t 43)) (.px (.t 45) (.some (.t 37,ZT)) (.ld (.t 44)) (.wcons (.t 46) (.some (.t 37,ZT)) (kg (V.f 165) [.t 41,.t 45]) (kW 47 (.pick (.t 37) (.t 46) (.c (Z5 ZS))) (kX 4 (.mv (.t 47)) .done)) .wnil))))))))))) .wnil)))))))))) .wnil)))))))))) .ret))
def Kr:List RV:=[.t 4]
def MG (P:Program) (j g:FuncId):Prop:=∀(el em:List (Nat->Bool)) (vs ws:List ZR) (v w:ZR) (H:Hp),aP H v vs->aP H w ws->vs.length=el.length->ws.length=em.length->el.length<=1000000->em.length<=1000000→
 (∀i<vs.length,aR H (Z0 #[vs.getD i undef]) (el.getD i fun _=>ZS))->(∀i<ws.length,aR H (Z0 #[ws.getD i undef]) (em.getD i fun _=>ZS))->an P j #[v,w,.func (.func g) #[] #[]] H fun r H'=>(∃bb:Bool,r=.bool bb/\(bb=ZT↔el.length=em.length/\∀i<el.length,∀n,el.getD i (fun _=>ZS) n=em.getD i (fun _=>ZS) n))/\af (fun _=>False) H H'
def adL {P:Program} {V:aH} {j g:FuncId} (hk:ak P j (Kn V) Ko 3) (hg:bS P g=ZT) (hq:o0 P g):MG P j g:=by
 intro el em vs ws v w H hv hw hvl hwl hl hm hes hms;refine qI fun Q hQ=>?_;refine ah hk (args:=[_,_,_]) (by simp) ?_;unfold Kn Ko kA kB kC ke kH kI kK kL kM kN kO kV kc kd kf kY kZ;have lv:aW v=el.length:=by rw[hv.len,hvl]
 have lw:aW w=em.length:=by rw[hw.len,hwl]
 by_cases hlm:el.length=em.length
 ·have e0:((em.length:Int)!=(em.length:Int))=ZS:=by simp
  simp only[go_sem,Za,Zb,ae,hv.aq,lv,hw.aq,lw,hlm,e0];refine aF em.length [18,17,8,7,9,30,6] rfl rfl (by omega) (by rfl) (by rfl) (fun i g A=>(∀j,j<i->∀n,el.getD j (fun _=>ZS) n=em.getD j (fun _=>ZS) n)/\af (fun _=>False) H A) ⟨fun j h=>by omega,af.refl _ _⟩ ?_ ?_
  ·rintro i f A hi gi gn ⟨hx,KA⟩;simp only[go_sem,Za,Zb,ae]at gi gn;obtain⟨b,o,cc,e,h1⟩:=(hv.ai KA (by simp)).ld1 (i:=i) (by omega);have S1:=(hes i (by omega)).aj KA;have S2:=(hms i (by omega)).aj KA;have o1:(vs.getD i undef).oneCell'=ZT:=by
    obtain⟨u,W,e',hV⟩:=S1
    cases e'
    exact aK hV.sl.aq
   have o2:(ws.getD i undef).oneCell'=ZT:=by
    obtain⟨u,W,e',hV⟩:=S2
    cases e'
    exact aK hV.sl.aq
   rw[hvl,hlm]at e;simp only[go_sem,Za,Zb,gi,e,al,aC,h1];refine⟨by omega,?_⟩;refine cG [vs.getD i undef] (Z8 ZY (i:Int)) rfl (by rfl) (by rfl) rfl rfl (by simp only[Yc,Xs,o1];rfl) fun A1 b8 e8 z8 B8 K8=>?_;obtain⟨b',o',c',e',h2⟩:=(hw.ai (KA.trans K8) (by simp)).ld1 (i:=i) (by omega);rw[hwl]at e';simp only[go_sem,Za,Zb,gi,e',al,aC,h2];refine⟨by omega,?_⟩;refine aO [ws.getD i undef] (by rfl) rfl rfl (by simp only[Yc,Xs,o2];rfl) fun A2 b9 e9 z9 B9 K9=>?_;have K2:=K8.trans K9;simp only[go_sem,Za,Zb,(K9.bl B8 id).aL 1 rfl,B9.aL 1 rfl];refine⟨hg,(hq _ _ _ _ A2 (S1.aj K2) (S2.aj K2)).mono ?_⟩;rintro r A3 ⟨⟨bb,rfl,hb⟩,K3⟩;rw[ae]
   cases bb with
   |true=>
    simp only[go_sem,Za,Zb,ae,ZE];refine⟨fun j hj=>?_,KA.trans (K2.trans K3)⟩
    by_cases ej:j=i
    ·subst ej;exact hb.1 rfl
    ·exact hx j (by omega)
   |false=>
    simp only[go_sem,Za,Zb,ae,ZB];rw[hQ];refine⟨⟨ZS,rfl,⟨fun h=>(by cases h),fun h=>?_⟩⟩,KA.trans (K2.trans K3)⟩;exact hb.2 (h.2 i (by omega))
  ·rintro f A gi ⟨hx,KA⟩;simp only[go_sem,Za,Zb,ae];rw[hQ];exact⟨⟨ZT,rfl,⟨fun _=>⟨hlm,fun i hi=>hx i (by omega)⟩,fun _=>rfl⟩⟩,KA⟩
 ·have e0:((el.length:Int)!=(em.length:Int))=ZT:=by rw[bne_iff_ne];omega
  simp only[go_sem,Za,Zb,ae,hv.aq,lv,hw.aq,lw,e0];rw[hQ];exact⟨⟨ZS,rfl,⟨fun h=>(by cases h),fun h=>absurd h.1 hlm⟩⟩,af.refl _ _⟩
def agX {us ws:List uE} (h1:∀x∈us,nk x) (h2:∀x∈ws,nk x) (hs:lT us=lT ws) (he:∀i<us.length,∀n,(l7 us).getD i (fun _=>ZS) n=(l7 ws).getD i (fun _=>ZS) n):us=ws:=by
 have hl:us.length=ws.length:=by have:=congrArg Y8 hs;rwa [ie,ie]at this
 refine Xx hl fun i hi iU=>?_;have a:=he i hi;rw[nq hi,nq iU]at a;have e1:=xL (h1 _ (ZL hi)).1 (h2 _ (ZL iU)).1 a;have e2:((us[i].2:Nat):Int)=((ws[i].2:Nat):Int):=by
  have:(lT us)[i]'(by rw[ie];exact hi)=(lT ws)[i]'(by rw[ie];exact iU):=by simp only[hs]
  simpa[lT]using this
 exact Prod.ext e1 (by omega)
def xT (P:Program) (k:FuncId):Prop:=∀(F G:cf) (us ws:List uE) (rb rc:Nat) (H:Hp),cH H rb F (l7 us) (lT us)->cH H rc G (l7 ws) (lT ws)->SmK 1000 F->SmK 1000 G->us.length<=1000->ws.length<=1000->(∀x∈us,nk x)->(∀x∈ws,nk x)→
 an P k #[Z7 (ZV ⟨rb,0,ZU⟩),Z7 (ZV ⟨rc,0,ZU⟩)] H fun r H'=>(∃bb:Bool,r=.bool bb/\(bb=ZT↔F=G/\us=ws))/\af (fun _=>False) H H'
def adM {P:Program} {V:aH} {k:FuncId} (hk:ak P k (Kq V) Kr 2) (hf:CO P (V.f 333)) (hb:MG P (V.f 415) (V.f 140)) (hi:nG P (V.f 165)):xT P k:=by
 intro F G us ws rb rc H hR hS hF hG hul hwl hu1 hu2;refine qI fun Q hQ=>?_;obtain⟨s,b,d,a,m,ev,sv,vs,B,hPF,he,hel,IQ,hes,hsv⟩:=hR;obtain⟨s',b',d',a',m',Cw,tV,vs',B',hPG,he',alZ,al0,al1,al2⟩:=hS;rw[cL]at IQ al0;refine ah hk (args:=[_,_]) (by simp) ?_;unfold Kq Kr kA kB kF kC kJ kS kT kU kV kW kX ka kg kY;have l5:∀{A:Hp},af (fun _=>False) H A->aQ A ⟨rb,0,ZU⟩ 5=ZV #[s,b,d,a,m]/\cell A ⟨rb,5,ZU⟩=ZV ev/\cell A ⟨rb,6,ZU⟩=ZV sv:=fun K=>by
  have B:=K.bl B id;refine⟨?_,by rw[B.cell];rfl,by rw[B.cell];rfl⟩;have:=B.aQ (o:=0) (n:=5) (by simp);simpa using this
 have l5':∀{A:Hp},af (fun _=>False) H A->aQ A ⟨rc,0,ZU⟩ 5=ZV #[s',b',d',a',m']/\cell A ⟨rc,5,ZU⟩=ZV Cw/\cell A ⟨rc,6,ZU⟩=ZV tV:=fun K=>by
  have B:=K.bl B' id;refine⟨?_,by rw[B.cell];rfl,by rw[B.cell];rfl⟩;have:=B.aQ (o:=0) (n:=5) (by simp);simpa using this
 have K0:=af.refl (fun _=>False) H;simp only[go_sem,Za,Zb];refine aZ (fun _=>False) ?_;simp only[go_sem,Za,Zb,(l5 K0).1,(l5' K0).1,aC];refine(hf F G _ _ H hPF hPG hF hG).mono ?_;rintro r A1 ⟨rfl,K1⟩;rw[aJ];refine⟨K1,?_⟩;have no:∀A,af (fun _=>False) H A->¬(F=G/\us=ws)->Q (Z5 ZS) A:=fun A K h=>by
  rw[hQ];exact⟨⟨ZS,rfl,⟨fun e=>(by cases e),fun e=>absurd e h⟩⟩,K⟩
 cases hfg:CN F G with
 |false=>
  simp only[go_sem,Za,Zb,ae];exact no _ K1 fun h=>by
   have:=FH.2 h.1;rw[hfg]at this;cases this
 |true=>
 have hFG:=FH.1 hfg;simp-implicitDefEqProofs only[go_sem,↓reduceIte,Za,Zb,Zc,reduceCtorEq,(l5 K1).2.1,(l5' K1).2.1];refine(hb (l7 us) (l7 ws) vs vs' ev Cw A1 (he.ai K1 (by simp)) (he'.ai K1 (by simp)) hel alZ (by rw[cL];omega) (by rw[cL];omega) (fun i h=>(hes i h).aj K1) fun i h=>(al1 i h).aj K1).mono ?_;rintro r A2 ⟨⟨bb,rfl,hbb⟩,K2⟩;rw[aJ];refine⟨K2,?_⟩;have cS:=K1.trans K2;rw[cL,cL]at hbb
 cases bb with
 |false=>
  simp only[go_sem,Za,Zb,ae];exact no _ cS fun h=>by
   have:=hbb.2 (by rw[h.2];exact⟨rfl,fun _ _ _=>rfl⟩)
   cases this
 |true=>
  have pC:=hbb.1 rfl;simp-implicitDefEqProofs only[go_sem,↓reduceIte,Za,Zb,Zc,reduceCtorEq,(l5 cS).2.2,(l5' cS).2.2];refine(hi (lT us) (lT ws) sv tV A2 (hsv.ai cS (by simp)) (al2.ai cS (by simp)) (by rw[ie];omega)).mono ?_;rintro r A3 ⟨rfl,rfl⟩;rw[aJ];refine⟨af.refl _ _,?_⟩;simp only[go_sem,Za,Zb,ae];rw[hQ];refine⟨⟨_,rfl,⟨fun h=>⟨hFG,agX hu1 hu2 (of_decide_eq_true h) pC.2⟩,fun h=>decide_eq_true (by rw[h.2])⟩⟩,cS⟩
def aeM (V:aH):S:=
 (kY [kc 59 (.aX (V.t 19) 1 0 []),kA 60 10,kc 61 (.app ZS (V.t 19) 1 1 #[Z8 ZX 0] (.t 59) (.t 60)),kB 13 61] (kY [kA 62 13,kP 63 2 1 5 0,kD 64 63,kU 65 (.ii ZY (.t 64)),kA 66 13,kL 67 66,kU 68 (.dv .rem ZY (.t 65) (.t 67)),kP 69 2 1 5 1,kD 70 69,kI 71 1 62 68,kf (.st (.t 71) (.t 70))] (kY [kA 73 13,kc 74 (kg (V.f 422) [.t 73]),kF 72 74,kQ 75 72 0,kQ 76 72 1,kB 14 75,kB 12 76] (.seq (kY [kA 77 12,kV 78 (.cm .neq ZY (.t 77) (.c (Z8 ZY 0)))] (.ite (.v 78) (kY [kA 79 12,kU 80 (.cm .eql ZY (.t 79) (.c (Z8 ZY 6))),kF 81 80,kS 82 81 ZT 14,kT 83 81 ZT (.m (.eqn .ptr ZS (.t 82))),kJ 84 81 83,kF 85 84,kS 86 85 ZT 10,kS 87 85 ZT 13,.ge (.t 88) (.t 85) ZT (kg (V.f 345) [.t 86,.t 87]),kT 89 85 ZT (.not (.t 88)),kJ 90 85 89,kB 6 90] .ret) .skip)) (kY [kA 91 14,kc 92 (kg (V.f 414) [.t 91]),kA 93 13,kc 94 (kg (V.f 345) [.t 92,.t 93]),kF 95 94,kS 96 95 ZT 14,kS 97 95 ZT 7,.ge (.t 98) (.t 95) ZT (kg (V.f 416) [.t 96,.t 97]),kS 99 95 ZT 10,kS 100 95 ZT 13,.ge (.t 101) (.t 95) ZT (kg (V.f 345) [.t 99,.t 100]),kT 102 95 ZT (.eqb ZS (.t 98) (.t 101)),kJ 103 95 102,kB 6 103] .ret)))))
def Kt (V:aH):S:=
 kY [kR 3 (V.t 288) 0,kR 5 (V.t 49) 2,kC 6 (Z5 ZS)] (.seq (kY [kc 15 (kg (V.f 407) []),kV 16 (.not (.t 15))] (.ite (.v 16) (kY [kC 6 (Z5 ZS)] .ret) .skip)) (kY [kM 18 7 3,kA 19 1,kc 20 (kg (V.f 405) [.t 18,.t 19]),kF 17 20,kQ 21 17 0,kQ 22 17 1,kQ 23 17 2,kd 8 (.new (V.t 396) #[kZ,kZ,kZ,kZ,kZ,kZ,kZ]),kB 7 21,kf (.stn 7 (.v 8) (.t 22)),kB 9 23] (.seq (kY [kA 24 9,kU 25 (.not (.t 24)),kF 26 25,kS 27 26 ZS 7,kT 28 26 ZS (.m (.eqn .ptr ZS (.t 27))),kV 29 (.pick (.t 26) (.c (Z5 ZT)) (.t 28))] (.ite (.v 29) (kY [kA 30 9,kB 6 30] .ret) .skip)) (kY [kA 31 7,kc 32 (kg (V.f 414) [.t 31]),kB 10 32] (kY [kA 34 10,kc 35 (kg (V.f 422) [.t 34]),kF 33 35,kQ 36 33 0,kQ 37 33 1,kB 11 36,kB 12 37] (.seq (kY [kA 38 10,kM 39 7 8,kc 40 (kg (V.f 420) [.t 39]),kc 41 (kg (V.f 345) [.t 38,.t 40]),kU 42 (.not (.t 41)),kF 43 42,kS 44 43 ZS 12,kT 45 43 ZS (.cm .neq ZY (.t 44) (.c (Z8 ZY 0))),kU 46 (.pick (.t 43) (.c (Z5 ZT)) (.t 45)),kF 47 46,kS 48 47 ZS 11,kS 49 47 ZS 7,.ge (.t 50) (.t 47) ZS (kg (V.f 416) [.t 48,.t 49]),kT 51 47 ZS (.not (.t 50)),kU 52 (.pick (.t 47) (.c (Z5 ZT)) (.t 51)),kF 53 52,kS 54 53 ZS 11,kT 55 53 ZS (.m (.ldn 7 (.v 8))),.ge (.t 56) (.t 53) ZS (kg (V.f 406) [.t 54,.t 55]),kT 57 53 ZS (.not (.t 56)),kV 58 (.pick (.t 53) (.c (Z5 ZT)) (.t 57))] (.ite (.v 58) (kY [kC 6 (Z5 ZS)] .ret) .skip)) (aeM V)))))))
def Ku:List RV:=[.t 6]
structure al3 (P:Program) (V:aH):Prop where
 aw:xo P V (V.f 407)
 play:sU P V (V.f 405)
 byt:ry P V (V.f 414)
 read:tK P V (V.f 422)
 rbyt:tH P (V.f 420)
 same:rk P (V.f 345)
 equ:xT P (V.f 416)
 is_:CE P V (V.f 406)
def adN {r:cF} {st:List Int} (hS:uC (bu r).st.length st) (hne:eN (bu r) (aD r) st≠[]) (hord:qQ (bu r).be st=ZT):xQ (bu r) (OM (aD r) st):=by
 have hnu:=cK r;have mb:=cJ r;have hU:=aeK (ms:=aD r) (st:=st) (by rw[mb,hS.1,hnu]) (fun u h=>by have:=hS.2 u h;omega);refine⟨wL r,by rw[lH,hS.1],hU.ok,fun x hx=>?_,by rw[<-hU.stf];exact hord,?_⟩
 ·obtain⟨k,hk,rfl⟩:=ZC hx;rw[tG];rintro⟨u,hu,hb⟩;rw[eC]at hu;have:=eU r k u hu;omega
 ·rw[<-hU.stf,<-hU.l7,nS hS.1 (eU r)]
  cases h:eN (bu r) (aD r) st with
  |nil=>exact absurd h hne
  |cons a l=>rfl
def agY {m:UInt64} (h:∀u,bt m u=ZT->u<=7):(iQ m).length<=1:=by
 unfold iQ
 split
 ·simp
 ·next hm=>
  obtain⟨q1,q2,q3,q4⟩:=jH hm;have:=h _ q3;rw[eI];omega
def agZ {r:cF} {st:List Int} (hS:uC (bu r).st.length st):∀x∈OM (aD r) st,x.1.length<=1/\x.2<=4:=fun x hx=>by
 obtain⟨k,hk,rfl⟩:=ZC hx;rw[lH]at hk;rw[tG];refine⟨agY fun u hu=>by have:=eU r k u hu;omega,?_⟩;have:=hS.2 (st.getD k 0) (by rw[ZP,ZO hk];exact ZL _)
 show(st.getD k 0).toNat<=4
 omega
def OP (P:Program) (V:aH) (k:FuncId):Prop:=∀(r:cF) (acts:List (UInt8×UInt8)) (v w:ZR) (ch:List UInt8) (H:Hp),bh V H->jj H v r->bk lU 2 H w acts->ch.length=2->an P k #[v,w,.agg (w8 ch).toArray] H fun x H'=>x=Z5 ZT/\af (fun _=>False) H H'
def adO {P:Program} {V:aH} {k:FuncId} (hk:ak P k (Kt V) Ku 3) (c:al3 P V):OP P V k:=by
 intro r acts v w ch H hT hv hw hch;refine qI fun Q hQ=>?_;obtain⟨ca,cb,rfl⟩:∃a b,ch=[a,b]:=by
  match ch,hch with
  |[a,b],_=>exact⟨a,b,rfl⟩
 have hvr:=hv;obtain⟨h0,ro,be,di,sa,mo,el,rfl,_⟩:=hv;refine ah hk (args:=[_,_,_]) (by simp) ?_;unfold Kt Ku kA kB kF kC kM kQ kR kS kT kU kV kc kd kf kg kY kZ;simp only[go_sem,Za,Zb];refine ax fun H0 b3 e0 z0 B0 K0=>?_;have B0':Bl H0 b3 [Z8 ZX (r.n:Int),ro,be,di,sa,mo,el]:=B0;simp only[go_sem,Za,Zb];refine ax fun H1 b5 e1 z1 B1 K1'=>?_;have B5:Bl H1 b5 [Z8 ZX ca.toNat,Z8 ZX cb.toNat]:=B1;have bL:=K1'.bl B0' id;have K1:=K0.trans K1';simp only[go_sem,Za,Zb];refine(c.aw H1 (hT.ai K1)).mono ?_;rintro x H2 ⟨rfl,K2⟩;have cS:=K1.trans K2;have gI:=K2.bl bL id;rw[ae];simp only[go_sem,Za,Zb,ZE,gI.aL 7 rfl];refine(c.play r acts _ w H2 (hT.ai cS) (jj.aj hvr cS) (hw.aj cS)).mono ?_;rintro x H3 ⟨rp,sv,rfl,K3,hc⟩;have eo:=cS.trans K3;have hcs:∃cs:List ZR,sv=.agg cs.toArray/\cs.length=7/\(cs.all fun v=>v.oneCell')=ZT/\∀x∈cs,aq x:=by
  rcases hc with⟨_,_,hR⟩|⟨rb,st,_,hP⟩
  ·exact hR.cs
  ·exact hP.ref.cs
 obtain⟨cs,rfl,hcl,hc1,hcs⟩:=hcs;rw[ae];simp only[go_sem,Za,Zb];refine cG cs rp rfl (by rfl) (by rfl) hcl rfl hc1 fun H4 b8 e4 z4 B4 K4=>?_;have oF:=eo.trans K4;rcases hc with⟨_,rfl,hR⟩|⟨rb,st,rfl,hP⟩
 ·simp only[go_sem,Za,Zb,ae];rw[hQ];exact⟨rfl,oF⟩
 have hP4:=hP.aj K4;have B54:=((K2.trans K3).trans K4).bl B5 (by simp);have hT4:=hT.ai oF;clear B0 B0' B1 bL gI;have fin:∀X,af (fun _=>False) H4 X->Q (Z5 ZT) X:=fun X K=>by rw[hQ];exact⟨rfl,oF.trans K⟩
 clear hQ;have h5:=CB r;have hsl:=hP.ok.1;have hel:=Jj r;have hok:=wL r;have hE:=fO hok;have hnu:=cK r;have hn:=ft r;have mb:=cJ r;obtain⟨F,hF⟩:∃F,F=bu r:=⟨_,rfl⟩
 obtain⟨us,hus⟩:∃us,us=OM (aD r) st:=⟨_,rfl⟩
 have aaK:∀u∈st,0<=u/\u<=256:=fun u h=>by have:=hP.ok.2 u h;omega
 have hU:=aeK (ms:=aD r) (st:=st) (by omega) aaK;have hV:=adN hP.ok hP.ne hP.ord;have hsm:=agZ hP.ok;rw[<-hus]at hU hV hsm;have hul:us.length=st.length:=by rw[hus,lH]
 have hRl:=lG hE;have hbl:=Dy (by omega) hU.ok us.length;rw[ZI]at hbl;have hlen:0<(fJ (bu r) us).length/\(fJ (bu r) us).length<=100000:=by
  have:=aS (cN (bu r)).length (by omega);unfold fJ bQ;simp only[ZK,du]at hbl⊢;omega
 simp only[go_sem,Za,Zb];refine(c.byt (bu r) ((aD r).map bt) st us rb H4 hT4 hP4.run hok hU (by omega)).mono ?_;rintro pv H5 ⟨O5,o5,K5⟩;rw[ae];simp only[go_sem,Za,Zb];refine(c.read (fJ (bu r) us) pv H5 (hT4.ai K5) O5.sl (by omega) fun G hG he _=>?_).mono ?_
 ·obtain⟨x1,_⟩:=hV.rd (m:=(fJ (bu r) us).length) (by unfold fJ;simp only[ZK,du];omega) (by omega) [];rw[YY]at x1;rw[x1]at he;have:G=bu r:=(xP (r:=[]) (t:=[]) (fO hG) hE (by rw[he])).1;rw[this];exact h5
 rintro x H6 ⟨K6,hx⟩;obtain⟨rn,rfl,hRn⟩:∃rn,x=ZZ #[Z7 (ZV ⟨rn,0,ZU⟩),Z8 ZY 0]/\cH H6 rn (bu r) (l7 us) (lT us):=by
  rcases hx with⟨G,ws,rn,OQ,he,rfl,hR⟩|⟨h,_⟩
  ·obtain⟨e1,e2⟩:=FR OQ.ok hok (by have:=OQ.len;have:=(dH OQ.ok).lt;omega) (by omega) OQ.uk hU.ok he;subst e1 e2;exact⟨rn,rfl,hR⟩
  ·exact absurd rfl (h _ _ hV)
 have K46:=K5.trans K6;have hP6:=hP4.aj K46;have B86:=K46.bl B4 id;rw[ae];simp only[go_sem,Za,Zb,B86.aL 7 hcl.symm];refine(c.rbyt (bu r) (aD r) st _ H6 hP6.ref hok (by omega) (by omega) aaK).mono ?_;rintro qv H7 ⟨O7,o7,K7⟩;rw[<-hus]at O7;rw[ae];simp only[go_sem,Za,Zb];refine(c.same _ _ pv qv H7 (O5.ai (K6.trans K7) (by simp)).sl O7.sl).mono ?_;rintro x H8 ⟨rfl,rfl⟩;have K48:=K46.trans K7;have hP8:=hP4.aj K48;have hPr:cH H8 rb (bu r) (l7 us) (lT us):=by rw[<-hU.l7,<-hU.stf];exact hP8.run
 have uz:((0:Int)!=0)=ZS:=rfl;have B88:=K48.bl B4 id;rw[ae];simp-implicitDefEqProofs only[go_sem,↓reduceIte,Za,Zb,Zc,reduceCtorEq,Zf,Zg,Zh,Zi,Zd,Ze,decide_true,ZE,uz];refine(c.equ (bu r) (bu r) us us rn rb H8 (hRn.aj K7) hPr hE.smK hE.smK (by omega) (by omega) hU.ok hU.ok).mono ?_;rintro x H9 ⟨⟨bb,rfl,hbb⟩,K9⟩;have hb1:=hbb.2 ⟨rfl,rfl⟩;subst hb1;have K49:=K48.trans K9;have B89:=K9.bl B88 id;have hP9:=hP4.aj K49;rw[ae];simp-implicitDefEqProofs only[go_sem,↓reduceIte,Za,Zb,Zc,reduceCtorEq,Zf,Zg,Zh,Zi,Zd,Ze,ZE,B89.aL 7 hcl.symm];refine(c.is_ (bu r) ((aD r).map bt) (aD r) st rn _ H9 (hT4.ai K49) ⟨by rw[hU.l7,hU.stf];exact(hRn.aj K7).aj K9,hP9.ref,hok,hsl⟩).mono ?_;rintro x HA ⟨rfl,KA⟩;have K4A:=K49.trans KA;rw[ae];simp only[go_sem,Za,Zb,ZE];unfold aeM kA kB kF kD kI kJ kL kP kQ kS kT kU kV kc kf kg kY;have O8:=O5.ai ((K6.trans K7).trans (K9.trans KA)) (by simp);have B5A:=K4A.bl B54 id;simp only[go_sem,Za,Zb];refine aG fun HD b59 eD zD BD KD=>?_;have OD:br HD (Z6 (ZV ⟨b59,0,ZU⟩) 0 0) (w8 []):=br.new (l:=[]) BD rfl rfl;have sD:=KD.size;have sA:=K4A.size;simp only[go_sem,Za,Zb];refine ny OD (O8.ai KD (by simp)).sl rfl (by simp;omega) fun qv2 HE OE KE oE=>?_;rw[XG]at OE;have KE':af (fun q=>HA.size<=q) HD HE:=KE.mono fun q _ (h:q=b59)=>by omega
 have oq:∀q,ay qv2 q->HA.size<=q:=fun q hq=>by
  rcases oE q hq with h|h
  ·have h:q=b59:=h;omega
  ·omega
 have KAE:af (fun _=>False) HA HE:=KD.trans' KE' fun q hq e=>by omega
 have B5E:=KAE.bl B5A id;have c0:cell HE ⟨b5,0,ZU⟩=ZV (Z8 ZX ca.toNat):=by rw[B5E.cell];rfl
 have c1:cell HE ⟨b5,1,ZU⟩=ZV (Z8 ZX cb.toNat):=by rw[B5E.cell];rfl
 obtain⟨l,hl⟩:∃l,l=fJ (bu r) us:=⟨_,rfl⟩
 rw[<-hl]at OE O8 hlen;obtain⟨vb,vc',L,rfl,hlc,hcL,BL,hL,-⟩:=OE.some (by intro e;have:=congrArg Y8 e;rw[aM,List.length_nil]at this;omega);rw[aM]at hlc hL;have wa:IntKind.i64.wrap (ca.toNat:Int)=(ca.toNat:Int):=IntWalk.i64_in _ (by have:=ca.toNat_lt;omega);have al4:((ca.toNat:Nat):Int).tmod (l.length:Int)=((ca.toNat % l.length:Nat):Int):=ct _ _;have hlt:ca.toNat % l.length<l.length:=Nat.mod_lt _ hlen.1;have hne:(l.length:Int)≠0:=by omega
 have lt:=BL.bw (o:=ca.toNat % l.length) (by omega);generalize hi:ca.toNat % l.length=i at*;have OS:br (az HE ⟨vb,i,ZU⟩ (Z8 ZX cb.toNat)) (Z6 (ZV ⟨vb,0,ZU⟩) l.length vc') (w8 (l.set i cb)):=by
  have:=rM (l:=w8 l) BL (by rw[aM];exact hlc) hcL (by rw[aM];exact hL) i (Z8 ZX cb.toNat) (by rw[aM];exact hlt)
  rwa [vx,aM]at this
 have KF:af (fun q=>HA.size<=q) HE (az HE ⟨vb,i,ZU⟩ (Z8 ZX cb.toNat)):=(af.refl _ _).az _ (.inl (oq vb rfl));rw[ae];simp-implicitDefEqProofs only[go_sem,↓reduceIte,Za,Zb,Zc,reduceCtorEq,Zf,Zg,Zh,Zi,Zd,Ze,aM,c0,c1,wa,al4,al,lt];refine⟨hne,⟨by omega,by omega⟩,?_⟩;rw[ae];have KAF:af (fun _=>False) HA (az HE ⟨vb,i,ZU⟩ (Z8 ZX cb.toNat)):=KAE.trans' KF fun q hq e=>by omega
 generalize az HE ⟨vb,i,ZU⟩ (Z8 ZX cb.toNat)=HF at*;have K4F:=K4A.trans KAF;have OPF:=O8.ai KAF (by simp);obtain⟨ql,hq⟩:∃ql,ql=l.set i cb:=⟨_,rfl⟩
 rw[<-hq]at OS;have hql:ql.length=l.length:=by rw[hq];simp
 generalize hqv:Value.slice (ZV ⟨vb,0,ZU⟩) l.length vc'=qv2 at*;simp only[go_sem,Za,Zb];refine(c.read ql qv2 HF (hT4.ai K4F) OS.sl (by omega) fun G hG he hcn=>?_).mono ?_
 ·exact Ke r (us:=us) (by omega) hsm i cb hG (q:=ql) (by rw[hq,hl]) he hcn
 rintro x HG ⟨KG,hx⟩;have K4G:=K4F.trans KG;have OPG:=OPF.ai KG (by simp);have OSG:=OS.ai KG (by simp);rw[ae];rcases hx with⟨G,ws,rd,OQ,he,rfl,hR⟩|⟨hno,rfl⟩
 ·have hwl:ws.length<=10:=by have:=OQ.len;have:=(dH OQ.ok).lt;omega
  have hUG:UsR (l7 ws) (lT ws) ws:=⟨(cL ws).symm,fun k hk n=>by rw[nq hk],rfl,OQ.uk⟩
  simp only[go_sem,Za,Zb,uz];refine(c.byt G (l7 ws) (lT ws) ws rd HG (hT4.ai K4G) hR OQ.ok hUG (by rw[cL];exact hwl)).mono ?_;rintro bv HK ⟨OK,oK,KK⟩;have K4K:=K4G.trans KK;rw[ae];simp only[go_sem,Za,Zb];refine(c.same _ _ bv qv2 HK OK.sl (OSG.ai KK (by simp)).sl).mono ?_;rintro x HL ⟨rfl,rfl⟩;have hPL:=(hP4.aj K4K).run;rw[hU.l7,hU.stf]at hPL;rw[ae];simp-implicitDefEqProofs only[go_sem,↓reduceIte,Za,Zb,Zc,reduceCtorEq,Zf,Zg,Zh,Zi,Zd,Ze,he,decide_true,forall_const];refine(c.equ G (bu r) ws us rd rb HL (hR.aj KK) hPL (fO OQ.ok).smK hE.smK (by omega) (by omega) OQ.uk hU.ok).mono ?_;rintro x HM ⟨⟨bb,rfl,hbb⟩,KM⟩;rw[ae];simp-implicitDefEqProofs only[go_sem,↓reduceIte,Za,Zb,Zc,reduceCtorEq,Zf,Zg,Zh,Zi,Zd,Ze,forall_const];refine(c.same _ _ pv qv2 HM ((OPG.ai KK (by simp)).ai KM (by simp)).sl ((OSG.ai KK (by simp)).ai KM (by simp)).sl).mono ?_;rintro x HN ⟨rfl,rfl⟩;have hfe:bb=ZQ (l=ql):=by
   rw[YU,hbb,decide_eq_true_eq,<-he,hl]
   constructor
   ·rintro⟨h1,h2⟩;rw[h1,h2]
   ·intro h;obtain⟨e1,e2⟩:=FR hok OQ.ok (by omega) hwl hU.ok OQ.uk h;exact⟨e1.symm,e2.symm⟩
  rw[ae];simp only[go_sem,Za,Zb,ae,hfe,forall_const];exact fin _ (K4K.trans KM)
 ·have e60:((6:Int)!=0)=ZT:=rfl;have e66:((6:Int)==6)=ZT:=rfl;simp-implicitDefEqProofs only[go_sem,↓reduceIte,Za,Zb,Zc,reduceCtorEq,Zf,Zg,Zh,Zi,Zd,Ze,e60,e66,forall_const];refine(c.same _ _ pv qv2 HG OPG.sl OSG.sl).mono ?_;rintro x HI ⟨rfl,rfl⟩;have d0:ZQ (l=ql)=ZS:=decide_eq_false fun e=>hno _ _ hV (by rw[<-hl];exact e);rw[ae];simp only[go_sem,Za,Zb,ae,d0,ZB,forall_const];exact fin _ K4G
end Go.Mg

/- Lemmas of ours. No conditions. -/
import Derived.Test.YtoclemmcphgikaaGreatDoorMgGN
import Derived.Test.YtoclemmcphgikaaGreatDoorMgVE
open Bool renaming false→ZS,true→ZT
open Decidable renaming decide→ZQ
open Go renaming Value→ZR
open Go.IntKind renaming i64→ZY,u8→ZX
open Go.Value renaming agg→Z0,bool→Z5,int→Z8,pointer→Z7,slice→Z6,tuple→ZZ
open Option renaming none→ZU,some→ZV
open Go.IntWalk renaming i64_in→ZN
open List renaming getD_eq_getElem?_getD→ZP,getElem?_eq_getElem→ZO,length_map→YM,mem_cons→YW,mem_cons_self→YB,mem_map→XR,mem_of_mem_drop→Xd,mem_of_mem_take→YA,not_mem_nil→Zk,replicate→ZM
open Nat renaming reduceEqDiff→Za,reduceAdd→Zb,reduceMul→Zc,reduceLeDiff→Zd,reduceLT→Ze
open Int renaming reduceBEq→Zf,reduceBNe→Zg,reduceLE→Zh,reduceLT→Zi
set_option maxRecDepth 100000
set_option linter.all false
namespace Go.Mg
open Go Go.RowKit
def Sw (V:aH):S:=
 (.dr (kW 19 (.m (.ldn 5 (.v 7))) (kW 20 (.mv (.v 8)) (kW 21 (.fa 0 (.v 7)) (kW 22 (.ld (.t 21)) (kW 23 (.m (.lenl (.t 22))) (ka 24 (.rJ (V.t 26) 1 8 #[Z8 ZY 0] (.t 23) (.t 23)) (kW 25 (.m (.bld #[kZ,kZ,kZ,kZ,kZ,kZ,kZ] [(0,(5,.t 19)),(5,(1,.t 20)),(6,(1,.t 24))])) (.wcons (.v 9) .none (.new (V.t 396) #[kZ,kZ,kZ,kZ,kZ,kZ,kZ]) (kb (.stn 7 (.v 9) (.t 25)) .done .wnil) .wnil)) (.wcons (.v 9) .none (.new (V.t 396) #[kZ,kZ,kZ,kZ,kZ,kZ,kZ]) (ka 24 (.rJ (V.t 26) 1 8 #[Z8 ZY 0] (.t 23) (.t 23)) (kW 25 (.m (.bld #[kZ,kZ,kZ,kZ,kZ,kZ,kZ] [(0,(5,.t 19)),(5,(1,.t 20)),(6,(1,.t 24))])) (kb (.stn 7 (.v 9) (.t 25)) .done .wnil)) .wnil) .wnil))))))))
def ael (V:aH):S:=
 (.dr (kW 36 (.m (.ldn 7 (.v 9))) (kW 37 (.mv (.v 11)) (kW 38 (.cm .eql ZY (.t 37) (.c (Z8 ZY 12))) (kW 39 (.mv (.t 38)) (.px (.t 40) (.some (.t 39,ZT)) (.mv (.v 10)) (.px (.t 41) (.some (.t 39,ZT)) (.m (.eqn .ptr ZS (.t 40))) (kW 42 (.pick (.t 39) (.t 41) (.c (Z5 ZS))) (kX 2 (.mv (.c (Z7 .none))) (kb (.stn 7 (.v 3) (.t 36)) (kX 4 (.mv (.t 42)) .done) .wnil))))))))))
def aem (V:aH):S:=
 (.dr (kW 43 (.mv (.v 10)) (kW 44 (.m (.ldn 7 (.v 9))) (kW 45 (.mv (.v 11)) (kW 46 (.cm .eql ZY (.t 45) (.c (Z8 ZY 0))) (kW 47 (.mv (.t 46)) (.px (.t 48) (.some (.t 47,ZT)) (.mv (.v 10)) (.px (.t 49) (.some (.t 47,ZT)) (.m (.eqn .ptr ZT (.t 48))) (kW 50 (.pick (.t 47) (.t 49) (.c (Z5 ZS))) (kW 51 (.mv (.t 50)) (.px (.t 52) (.some (.t 51,ZT)) (.mv (.v 10)) (.px (.t 54) (.some (.t 51,ZT)) (.fa 6 (.v 9)) (.px (.t 55) (.some (.t 51,ZT)) (.ld (.t 54)) (.wcons (.t 53) (.some (.t 51,ZT)) (kg (V.f 379) [.t 52]) (.wcons (.t 56) (.some (.t 51,ZT)) (kg (V.f 165) [.t 53,.t 55]) (kW 57 (.pick (.t 51) (.t 56) (.c (Z5 ZS))) (kX 2 (.mv (.t 43)) (kb (.stn 7 (.v 3) (.t 44)) (kX 4 (.mv (.t 57)) .done) .wnil))) .wnil) .wnil))))))))))))))
def Je (V:aH):S:=
 kY [kR 1 (V.t 288) 0,kC 2 (Z7 .none),kd 3 (.new (V.t 396) #[kZ,kZ,kZ,kZ,kZ,kZ,kZ]),kC 4 (Z5 ZS)] (kY [kM 13 7 1,kc 14 (kg (V.f 300) [.t 13]),kF 12 14,kQ 15 12 0,kQ 16 12 1,kQ 17 12 2,kQ 18 12 3,kd 5 (.new (V.t 296) #[kZ,kZ,kZ,kZ,kZ]),kd 7 (.new (V.t 289) #[kZ,kZ,kZ,kZ,kZ]),kf (.stn 5 (.v 5) (.t 15)),kB 6 16,kf (.stn 5 (.v 7) (.t 17)),kB 8 18] (.seq (Sw V) (kY [kM 27 5 5,kA 28 6,kc 29 (kg (V.f 391) [.t 27,.t 28]),kF 26 29,kQ 30 26 0,kQ 31 26 1,kB 10 30,kB 11 31] (.seq (kY [kM 32 7 9,kc 33 (kg (V.f 397) [.t 32]),kL 34 33,kV 35 (.cm .eql ZY (.t 34) (.c (Z8 ZY 0)))] (.ite (.v 35) (.seq (ael V) .ret) .skip)) (.seq (aem V) .ret)))))
def Jf:List RV:=[.t 2,.cn 3 7,.t 4]
variable {H H' A:Hp} {ms:List UInt64} {st:List Int} {α:Type} {k b p rb b7:Nat} {v s d a m sv:ZR} {L l:List ZR} {W:Nat->Prop} {F:cf} {P:Program} {V:aH} {f:Fr} {r:cF}
def jk.el {vs:List ZR} (h:jk H vs ms):vs.length=(ms.map bt).length/\∀i<vs.length,aR H (Z0 #[vs.getD i undef]) ((ms.map bt).getD i fun _=>ZS):=by
 refine⟨by rw[YM];exact h.len,fun i hi=>?_⟩;have iU:i<ms.length:=by rw[<-h.len];exact hi
 have:=h.at_ i hi iU;rw[ZP,ZO hi,bN,ZP,ZO iU];exact this
def eO (r:cF):List Int:=ZM (oC r) 0
def mQ (r:cF):uC (bu r).st.length (eO r):=⟨by rw[cK];simp[eO],fun u hu=>by
 have:=List.eq_of_mem_replicate hu;omega⟩
def agi (r:cF) (k u:Nat) (h:fu (bJ (bu r) ((aD r).map bt)) k u=ZT):1<=u/\u<=4:=by
 unfold fu bJ at h;rw[bN]at h;exact eU r k u h
def qU (r:cF):eT (bJ (bu r) ((aD r).map bt)):=by
 have hn:=ft r;have hG:=iK r;have hl:=hG.lim;unfold iJ at hl;have e:(bJ (bu r) ((aD r).map bt)).el.length=(bu r).st.length:=by simp[bJ,cJ,cK]
 have e0:=cK r;refine⟨by omega,by omega,fun k u h=>by have:=agi r k u h;omega,?_,?_,?_,?_,?_,?_⟩
 ·show(bu r).di.length<=20;omega
 ·show(bu r).sa.length<=20;omega
 ·show(bu r).mo.length<=20;omega
 ·rw[e];exact hG.di
 ·rw[e];exact hG.sa
 ·rw[e];exact hG.mo
def Mc (r:cF) (h:uC (bu r).st.length st):uB (bJ (bu r) ((aD r).map bt)) st:=by
 have e:(bJ (bu r) ((aD r).map bt)).el.length=(bu r).st.length:=by simp[bJ,cJ,cK]
 have hn:=ft r;refine pq (qU r) ?_ ?_
 ·rw[e];exact h.U
 ·rw[e,cK];omega
def Jg (r:cF) (h:st.length=(bu r).st.length):SmG (bu r) (aD r) st:=by
 have hn:=ft r;have e:=cK r;exact⟨iK r,by omega,by rw[cJ,cK],h⟩
structure alj (P:Program) (V:aH):Prop where
 mak:sr P (V.f 300)
 sta:lC P V (V.f 391)
 stf:iO P (V.f 379)
 cmp:qR P (V.f 397)
 eqI:nG P (V.f 165)
def bk.apart {enc:α->List ZR} (he:∀a,∃x∈enc a,¬Mg.aq x) {l:List α} (h:bk enc k H v l) (B:Bl H b L) (hL:∀x∈L,Mg.aq x):∀q,aV v q->q≠b:=by
 rintro q hq rfl;rcases h with⟨a,c,rfl,_⟩|⟨b',o,c,hl,rfl,h0,C,T,z,h1,h2,h3⟩
 ·cases a<;>simp[aV]at hq
 ·obtain⟨rfl,_⟩:=hq;obtain⟨T',h4⟩:=B;rw[h1]at h4
  cases h4
  match l,hl with
  |a::l',_=>
   obtain⟨x,hxa,hxs⟩:=he a;have hx:x∈(a::l').flatMap enc:=by rw[List.flatMap_cons];exact List.mem_append_left _ hxa
   rw[<-h3]at hx;exact hxs (hL x (by simpa using Xd (YA hx)))
def aP.apart (h:aP H v l) (hl:∀x∈l,¬Mg.aq x) (B:Bl H b L) (hL:∀x∈L,Mg.aq x):∀q,aV v q->q≠b:=by
 rintro q hq rfl;rcases h with⟨a,c,rfl,_⟩|⟨b',o,c,hne,rfl,h0,C,T,z,h1,h2,h3⟩
 ·cases a<;>simp[aV]at hq
 ·obtain⟨rfl,_⟩:=hq;obtain⟨T',h4⟩:=B;rw[h1]at h4
  cases h4
  match l,hne with
  |x::l',_=>
   have hx:x∈x::l':=YB;rw[<-h3]at hx;exact hl x YB (hL x (by simpa using Xd (YA hx)))
def Fx (a:x9):∃x∈cB a,¬aq x:=⟨Z8 ZY a.2,by simp[cB],fun h=>h⟩
def sR (a:fC):∃x∈pE a,¬aq x:=⟨Z8 ZY a.1,by simp[pE],fun h=>h⟩
def Sx (a:tW):∃x∈og a,¬aq x:=⟨Z8 ZY a.1,by simp[og],fun h=>h⟩
def Sy (a:MV):∃x∈cq a,¬aq x:=⟨Z8 ZY a.1,by simp[cq],fun h=>h⟩
def zg (H:Hp) (W:Nat->Prop):Prop:=∀p,W p->∃L,Bl H p L/\∀x∈L,aq x
def zg.one (B:Bl H p L) (hL:∀x∈L,aq x):zg H (fun q=>q=p):=fun q e=>⟨L,e▸B,hL⟩
def bk.bE {enc:α->List ZR} (he:∀a,∃x∈enc a,¬Mg.aq x) {l:List α} (h:bk enc k H v l) (hW:zg H W) (hk:af W H H'):bk enc k H' v l:=
 h.ai hk fun q hq hw=>by
  obtain⟨L,B,hL⟩:=hW q hw;exact h.apart he B hL q hq rfl
def aP.bE (hl:∀x∈l,¬Mg.aq x) (h:aP H v l) (hW:zg H W) (hk:af W H H'):aP H' v l:=
 h.ai hk fun q hq hw=>by
  obtain⟨L,B,hL⟩:=hW q hw;exact h.apart hl B hL q hq rfl
def dF.bE (h:dF H v F) (hW:zg H W) (hk:af W H H'):dF H' v F:=by
 obtain⟨s,b,d,a,m,rfl,h1,h2,h3,h4,h5⟩:=h;exact⟨s,b,d,a,m,rfl,h1.bE Fx hW hk,h2.bE sR hW hk,h3.bE sR hW hk,h4.bE sR hW hk,h5.bE Sx hW hk⟩
def qV:∀x∈([Z6 ZU 0 0,Z6 ZU 0 0,Z6 ZU 0 0,Z6 ZU 0 0,Z6 ZU 0 0,Z6 ZU 0 0,Z6 ZU 0 0]:List ZR),aq x:=by
 intro x hx;simp only[YW,Zk,or_false,or_self]at hx;subst hx;trivial
def Md (l:List UInt64):∀x∈cj l,¬aq x:=by
 intro x hx;simp only[cj,XR]at hx;obtain⟨y,_,rfl⟩:=hx;exact fun h=>h
def Sz (l:List Int):∀x∈iL l,¬aq x:=by
 intro x hx;simp only[iL,XR]at hx;obtain⟨y,_,rfl⟩:=hx;exact fun h=>h
def aR.bE {x:ZR} {p:Nat->Bool} (h:aR H x p) (hW:zg H W) (hk:af W H H'):aR H' x p:=by
 obtain⟨v,Ws,rfl,hv⟩:=h;exact aR.ai ⟨v,Ws,rfl,hv⟩ hk fun q hq hw=>by
  obtain⟨L,B,hL⟩:=hW q hw;exact hv.sl.apart (Md _) B hL q hq rfl
def dp.bE (h:dp H v F ms st) (hW:zg H W) (hk:af W H H'):dp H' v F ms st:=by
 obtain⟨s',b',d',a',m',Cw,tV,rfl,h1,h2,h3⟩:=h;exact⟨_,_,_,_,_,_,_,rfl,h1.bE hW hk,h2.bE (Md _) hW hk,h3.bE (Sz _) hW hk⟩
def bZ.bE (h:bZ H v F) (hW:zg H W) (hk:af W H H'):bZ H' v F:=by
 obtain⟨s,b,d,a,m,ms,rfl,h1,h2,h3,h4,h5,h6⟩:=h;exact⟨s,b,d,a,m,ms,rfl,h1.bE Fx hW hk,h2.bE sR hW hk,h3.bE sR hW hk,h4.bE sR hW hk,h5.bE Sy hW hk,h6.len,fun i h1 h2=>⟨(h6.at_ i h1 h2).1,(h6.at_ i h1 h2).2.bE hW hk⟩⟩
def cH.bE {el:List (Nat->Bool)} (h:cH H rb F el st) (hA:dY W H rb) (hW:zg H W) (hk:af W H H'):cH H' rb F el st:=by
 obtain⟨s,b,d,a,m,ev,sv,vs,h1,h2,h3,h4,h5,h6,h7⟩:=h;obtain⟨a1,Cw,a2,a3⟩:=hA;have c5:cell H ⟨rb,5,ZU⟩=ZV ev:=by rw[h1.cell];rfl
 rw[c5]at a2
 cases a2
 exact⟨s,b,d,a,m,ev,sv,vs,hk.bl h1 a1,h2.bE hW hk,h3.ai hk a3,h4,h5,fun i hi=>(h6 i hi).bE hW hk,h7.bE (Sz _) hW hk⟩
def dY.bE {W':Nat->Prop} (h:dY W H rb) (hl:rb<H.size) (hr:¬W' rb) (hk:af W' H H'):dY W H' rb:=by
 obtain⟨a1,ev,a2,a3⟩:=h;exact⟨a1,ev,by rw[hk.cell hl hr];exact a2,a3⟩
def cH.aib {el:List (Nat->Bool)} (h:cH H rb F el st) (hn:0<el.length) {u:Nat} (hu:el.getD 0 (fun _=>ZS) u=ZT) (B:Bl H p L) (hL:∀x∈L,x=Z6 ZU 0 0):dY (fun q=>q=p) H rb:=by
 obtain⟨s,b,d,a,m,ev,sv,vs,h1,h2,h3,h4,h5,h6,h7⟩:=h;have c5:cell H ⟨rb,5,ZU⟩=ZV ev:=by rw[h1.cell];rfl
 refine⟨?_,ev,c5,?_⟩
 ·rintro rfl;obtain⟨T1,q1⟩:=h1;obtain⟨T2,q2⟩:=B;rw[q1]at q2;have e: [s,b,d,a,m,ev,sv]=L:=by
   have:=congrArg (fun o:Option Obj=>match o with|some (.cells c _ _)=>c.toList|_=>[]) q2;simpa using this
  have:=hL ev (by rw[<-e];simp);subst this;rcases h3 with⟨_,_,_,e2⟩|⟨_,_,_,_,e2,_⟩
  ·rw[e2]at h4;simp at h4;omega
  ·cases e2
 ·rintro q hq rfl;rcases h3 with⟨a',c',rfl,_⟩|⟨b',o,c',hne,rfl,h0,C,T,z,g1,g2,g3⟩
  ·cases a'<;>simp[aV]at hq
  ·obtain⟨rfl,_⟩:=hq;obtain⟨T',g4⟩:=B;rw[g1]at g4
   cases g4
   have hvl:0<vs.length:=by omega
   have hx:vs.getD 0 undef∈vs:=by rw[ZP,ZO hvl];exact List.getElem_mem _
   have Pp:vs.getD 0 undef∈(L.toArray.toList.drop o).take vs.length:=by rw[g3];exact hx
   have e:=hL (vs.getD 0 undef) (show _∈L from Xd (YA Pp));obtain⟨w,Ws,e2,hV⟩:=h6 0 hvl;rw[e]at e2
   cases e2
   rcases hV.sl with⟨_,_,_,e3⟩|⟨_,_,_,_,e3,_⟩
   ·have hw:Ws=[]:=by
     cases Ws with
     |nil=>rfl
     |cons y ys=>simp[cj]at e3
    subst hw;have:=hV.lt hu;simp at this
   ·cases e3
def Me (A:Hp) (T:TypeId) (n:Nat):aP (A.push (.cells (rep #[Z8 ZY 0] n) T)) (Z6 (ZV ⟨A.size,0,ZU⟩) n n) (iL (ZM n 0)):=by
 have B:=Bl.dh A (rep #[Z8 ZY 0] n) T;rw[dx,rN]at B;exact(br.new (n:=n) (c:=n) B (by simp[aA]) rfl).sl
def agj {n un uc:Nat} {ua:Option Addr} {b:ZR} {Qb:Ex->Fr->Hp->Prop} (h7:f 7=Z7 (ZV ⟨b7,0,ZU⟩)) (h8:f 8=.slice ua un uc) (B7:Bl A b7 [s,b,d,a,m]) (hs:aq s) (hl:aW s=n) (hn:n<=10) (h5:aq s/\aq b/\aq d/\aq a/\aq m)
  (hK:∀A' b9 sv,Bl A' b9 [s,b,d,a,m,.slice ua un uc,sv]->aP A' sv (iL (ZM n 0))->A.size<=b9->af (fun _=>False) A A'->Qb .n (bR f 9 (Z7 (ZV ⟨b9,0,ZU⟩))) A'):vc P (Sw V) Qb f A:=by
 unfold Sw kW ka kb kZ;have c0:cell A ⟨b7,0,ZU⟩=ZV s:=by rw[B7.cell];rfl
 have lt:=B7.lt;have bnd:(0:Int)<=(n:Int)/\8*(n:Int)<=281474976710656/\(n:Int)<=(maxLen:Int):=⟨by omega,by omega,by unfold maxLen;omega⟩
 have fin:∀(A2:Hp) (b9 bz:Nat),Bl A2 b9 [Z6 ZU 0 0,Z6 ZU 0 0,Z6 ZU 0 0,Z6 ZU 0 0,Z6 ZU 0 0,Z6 ZU 0 0,Z6 ZU 0 0]->aP A2 (Z6 (ZV ⟨bz,0,ZU⟩) n n) (iL (ZM n 0))->bz≠b9->A.size<=b9->af (fun _=>False) A A2→
   (bG A2 ⟨b9,0,ZU⟩ 7/\bM #[s,b,d,a,m,.slice ua un uc,Z6 (ZV ⟨bz,0,ZU⟩) n n])/\af (fun q=>A.size<=q) A2 (aB A2 ⟨b9,0,ZU⟩ [s,b,d,a,m,.slice ua un uc,Z6 (ZV ⟨bz,0,ZU⟩) n n])/\Qb .n (bR f 9 (Z7 (ZV ⟨b9,0,ZU⟩))) (aB A2 ⟨b9,0,ZU⟩ [s,b,d,a,m,.slice ua un uc,Z6 (ZV ⟨bz,0,ZU⟩) n n]):=fun A2 b9 bz B9 Z hne h9 K=>by
  have K9:af (fun q=>q=b9) A2 (aB A2 ⟨b9,0,ZU⟩ [s,b,d,a,m,.slice ua un uc,Z6 (ZV ⟨bz,0,ZU⟩) n n]):=(af.refl _ _).aB _ (.inl rfl);refine⟨⟨B9.bG (o:=0) (n:=7) (by simp),aU (sl7 h5 trivial trivial)⟩,K9.mono fun q _ e=>by omega,hK _ b9 _ (B9.aB 0 _) (Z.ai K9 fun q hq e=>?_) h9 (K.trans' K9 fun q hq e=>by omega)⟩;exact hne (hq.1.symm.trans e)
 have Kp:∀(X:Hp) (T:TypeId) (y:Array ZR),af (fun _=>False) X (X.push (.cells y T)):=fun X T y=>(af.refl _ _).push _;refine aZ (fun q=>A.size<=q) ?_;simp-implicitDefEqProofs only[go_sem,↓reduceIte,Za,Zb,Zc,reduceCtorEq,Zf,Zg,Zh,Zi,Zd,Ze,h7,h8,B7.aL 5 rfl,c0,hs,hl,aia];refine⟨by omega,by omega,⟨bnd,(Kp _ _ _).any,(Kp _ _ _).any,?_⟩,(Kp _ _ _).any,bnd,(Kp _ _ _).any,?_⟩
 ·exact fin _ _ _ (Bl.dh _ _ _) ((Me A (V.t 26) n).ai (Kp _ _ _) (by simp)) (by simp) (by simp) ((Kp _ _ _).trans (Kp _ _ _))
 ·exact fin _ _ _ ((Kp _ _ _).bl (Bl.dh _ _ _) (by simp)) (Me _ (V.t 26) n) (by simp) (by simp) ((Kp _ _ _).trans (Kp _ _ _))
def alk (r:cF) (H:Hp) (x:ZR) (H':Hp):Prop:=∃rp sv,x=ZZ #[rp,sv,Z5 ZT]/\dp H' sv (bu r) (aD r) (eO r)/\af (fun _=>False) H H'∧
 ((eN (bu r) (aD r) (eO r)=[]/\rp=Z7 ZU)\/(eN (bu r) (aD r) (eO r)≠[]/\∃rb,rp=Z7 (ZV ⟨rb,0,ZU⟩)/\cH H' rb (bu r) ((aD r).map bt) (eO r)))
def xl (P:Program) (V:aH) (k:FuncId):Prop:=∀(r:cF) (v:ZR) (H:Hp),bh V H->jj H v r->an P k #[v] H (alk r H)
def ab6 {k : FuncId} (hk : ak P k (Je V) Jf 1) (c : alj P V) : xl P V k := by
  intro r v H hT hv;refine qI fun Q hQ => ?_;have hvr := hv;obtain ⟨h0, ro, be, di, sa, mo, el, rfl, _⟩ := hv;refine ah hk (args := [_]) (by simp) ?_;unfold Je Jf kA kB kF kC kL kM kQ kR kV kc kd kf kg kY kZ;simp only [go_sem, Za, Zb];refine ax fun H1 b1 e1 z1 B1 K1 => ?_;have bL : Bl H1 b1 [Z8 ZX (r.n : Int), ro, be, di, sa, mo, el] := B1;simp only [go_sem, Za, Zb];refine ax fun H2 b3 e2 z2 B2 K2 => ?_;have fG : Bl H2 b3 [Z6 ZU 0 0, Z6 ZU 0 0, Z6 ZU 0 0, Z6 ZU 0 0, Z6 ZU 0 0, Z6 ZU 0 0, Z6 ZU 0 0] := B2;have cS := K1.trans K2;have gI := K2.bl bL id;simp only [go_sem, Za, Zb, gI.aL 7 rfl];refine (c.mak r _ H2 (jj.aj hvr cS)).mono ?_;rintro x H3 ⟨fv, lv, mv, uv, rfl, hP, hL, hM, hU, K3⟩;have eo := cS.trans K3;have hP := hP.fl;have hP0 := hP;have hM0 := hM;obtain ⟨s, b, d, a, m, ms, rfl, _⟩ := hP;obtain ⟨s', b', d', a', m', rfl, _⟩ := hM;rw [ae];simp only [go_sem, Za, Zb];refine ax fun H4 b5 e4 z4 B4 K4 => ?_;have tU : Bl H4 b5 [Z6 ZU 0 0, Z6 ZU 0 0, Z6 ZU 0 0, Z6 ZU 0 0, Z6 ZU 0 0] := B4;simp only [go_sem, Za, Zb];refine ax fun H5 b7 e5 z5 B5 K5 => ?_;have Av : Bl H5 b7 [Z6 ZU 0 0, Z6 ZU 0 0, Z6 ZU 0 0, Z6 ZU 0 0, Z6 ZU 0 0] := B5;have s4 := K4.size;have s5 := K5.size;have B45 := K5.bl tU id;have t4 := B45.bG (o := 0) (n := 5) (by simp);have C5 := B45.aB 0 [s, b, d, a, m];have L1 : af (fun q => q = b5) H5 (aB H5 ⟨b5, 0, ZU⟩ [s, b, d, a, m]) := (af.refl _ _).aB _ (.inl rfl);have D7 := L1.bl Av (by omega);have t7 := D7.bG (o := 0) (n := 5) (by simp);have C7 := D7.aB 0 [s', b', d', a', m'];have L2 : af (fun q => q = b7) (aB H5 ⟨b5, 0, ZU⟩ [s, b, d, a, m]) (aB (aB H5 ⟨b5, 0, ZU⟩ [s, b, d, a, m]) ⟨b7, 0, ZU⟩ [s', b', d', a', m']) := (af.refl _ _).aB _ (.inl rfl);have D5 := L2.bl C5 (by omega);have ha : bM #[s, b, d, a, m] := hP0.bM;have ha' : bM #[s', b', d', a', m'] := hM0.bM;simp only [go_sem, Za, Zb, t4, t7];refine ⟨ha, ?_⟩;rw [ae];simp only [go_sem, Za, Zb, t7];refine ⟨ha', ?_⟩;generalize aB (aB H5 ⟨b5, 0, ZU⟩ [s, b, d, a, m]) ⟨b7, 0, ZU⟩ [s', b', d', a', m'] = H6 at L2 D5 C7 ⊢;have K36 : af (fun _ => False) H3 H6 := ((K4.trans K5).trans' L1 fun q hq h => by omega).trans' L2 fun q hq h => by omega
  have DQ := eo.trans K36;have C5' : Bl H6 b5 [s, b, d, a, m] := D5;have C7' : Bl H6 b7 [s', b', d', a', m'] := C7;have p6 := hP0.aj K36;have m6 := hM0.aj K36;have B26 := (K3.trans K36).bl fG (by simp);have hT6 := hT.ai DQ;have hok := wL r;have hnu := ft r;have mb := cK r;obtain ⟨ua, uc, rfl, -⟩ := hU.mk;have m5 := hM0.sl5;have lm : aW s' = oC r := by
    obtain ⟨q1, q2, q3, q4, q5, e, h1, _⟩ := hM0
    cases e
    rw [h1.len, mb]
  rw [ae];simp only [go_sem, Za, Zb];refine agj (n := oC r) (b7 := b7) (ua := ua) (un := (cj (aD r)).length) (uc := uc) (by rfl) (by rfl) C7' m5.1 lm (by omega) m5 fun H7 b9 sv B9 Z9 h9 K7 => ?_;have Fs := DQ.trans K7;have C57 := K7.bl C5' id;have B27 := K7.bl B26 id;have R9 : dp H7 (Z0 #[s', b', d', a', m', .slice ua (cj (aD r)).length uc, sv]) (bu r) (aD r) (eO r) := ⟨_, _, _, _, _, _, _, rfl, m6.aj K7, (hU.ai K36 (by simp)).ai K7 (by simp), Z9⟩
  simp only [go_sem, Za, Zb, C57.aL 5 rfl];obtain ⟨vs, OL, RL, -, -⟩ := hL;have RL7 := (RL.aj K36).aj K7;obtain ⟨e1, e2⟩ := RL7.el;have hel : ((aD r).map bt).length = (bu r).st.length := by rw [YM, cJ, mb]
  refine (c.sta (bu r) ((aD r).map bt) vs _ lv H7 (hT.ai Fs) (p6.aj K7) ((OL.sl.ai K36 (by simp)).ai K7 (by simp)) e1 (by omega) e2 fun _ _ _ => ⟨qU r, ?_, ?_⟩).mono ?_
  · rw [hel, mb]; exact Mc r (mQ r)
  · have := (iK r).lim;unfold iJ at this; omega
  rintro x H8 ⟨K8, hx⟩;have hx : (et (bJ (bu r) ((aD r).map bt)) (eO r) = ZU /\ x = ZZ #[Z7 ZU, Z8 ZY 12]) ∨
        ((et (bJ (bu r) ((aD r).map bt)) (eO r)).isSome = ZT /\ ∃ rb, x = ZZ #[Z7 (ZV ⟨rb, 0, ZU⟩), Z8 ZY 0] /\ cH H8 rb (bu r) ((aD r).map bt) (eO r)) := by
    have f0 := qB.1 hok;have ez : ZM ((aD r).map bt).length (0 : Int) = eO r := by rw [hel, mb]; rfl
    rw [ez] at hx;rcases hx with ⟨h, _⟩ | ⟨_, h, _⟩ | ⟨_, _, ⟨i, hi, hb⟩, _⟩ | ⟨_, _, _, h⟩
    · exact absurd f0 h
    · exact absurd hel h
    · obtain ⟨u, hu, hu2⟩ := hb;rw [bN] at hu;have := eU r i u hu;omega
    · exact h
  have K08 := Fs.trans K8;have B28 := K8.bl B27 id;have B98 := K8.bl B9 id;rw [nS (mQ r).1 (eU r)] at hx;rw [ae];have uz : ((0 : Int) == 0) = ZT := rfl;have e12 : ((12 : Int) == 12) = ZT := rfl;rcases hx with ⟨ph, rfl⟩ | ⟨hs1, rb, rfl, hR⟩
  · have hc0 : eN (bu r) (aD r) (eO r) = [] := by
      cases h : eN (bu r) (aD r) (eO r) with
      | nil => rfl
      | cons a l => rw [h] at ph; cases ph
    simp only [go_sem, Za, Zb, B98.aL 7 rfl];refine (c.cmp (bu r) (aD r) (eO r) _ H8 (R9.aj K8) (Jg r (mQ r).1)).mono ?_;rintro y H9 ⟨⟨ws, O9, R9l, -, -⟩, K9⟩;have l9 := R9l.len;rw [hc0, List.length_nil] at l9;have B29 := K9.bl B28 id;have B99 := K9.bl B98 id;have K89 := K8.trans K9;rw [ae];have t3 := B29.bG (o := 0) (n := 7) (by simp);have a7 : bM #[s', b', d', a', m', .slice ua (cj (aD r)).length uc, sv] := aU (sl7 m5 trivial Z9.aq);simp only [go_sem, Za, Zb, O9.sl.aq, O9.sl.len, l9, Int.natCast_zero, uz];unfold ael kW kX kb;refine aZ (fun q => q = b3) ?_;simp only [go_sem, Za, Zb, ae, B99.aL 7 rfl, e12, t3];have C3 : Bl (aB H9 ⟨b3, 0, ZU⟩ [s', b', d', a', m', .slice ua (cj (aD r)).length uc, sv]) b3 [s', b', d', a', m', .slice ua (cj (aD r)).length uc, sv] := B29.aB 0 [s', b', d', a', m', .slice ua (cj (aD r)).length uc, sv];have KS : af (fun q => q = b3) H9 (aB H9 ⟨b3, 0, ZU⟩ [s', b', d', a', m', .slice ua (cj (aD r)).length uc, sv]) := (af.refl _ _).aB _ (.inl rfl);have s1 := K1.size;have s2 := K2.size;have s3 := (K3.trans K36).size;have KF : af (fun _ => False) H (aB H9 ⟨b3, 0, ZU⟩ [s', b', d', a', m', .slice ua (cj (aD r)).length uc, sv]) := (K08.trans K9).trans' KS fun q hq e => by omega
    have KF7 : af (fun q => q = b3) H7 (aB H9 ⟨b3, 0, ZU⟩ [s', b', d', a', m', .slice ua (cj (aD r)).length uc, sv]) := (K89.mono fun _ _ h => h.elim).trans KS;rw [C3.aL 7 rfl];refine ⟨by omega, a7, KS, rfl, ?_⟩;rw [hQ];exact ⟨_, _, rfl, (R9.aj K89).bE (zg.one B29 qV) KS, KF, .inl ⟨hc0, rfl⟩⟩
  · have hc0 : eN (bu r) (aD r) (eO r) ≠ [] := fun h => by rw [h] at hs1; cases hs1
    obtain ⟨cl, hcl⟩ : ∃ cl, (eN (bu r) (aD r) (eO r)).length = cl + 1 := by
      cases h : eN (bu r) (aD r) (eO r) with
      | nil => exact absurd h hc0
      | cons a l => exact ⟨l.length, rfl⟩
    simp only [go_sem, Za, Zb, B98.aL 7 rfl];refine (c.cmp (bu r) (aD r) (eO r) _ H8 (R9.aj K8) (Jg r (mQ r).1)).mono ?_;rintro y H9 ⟨⟨ws, O9, R9l, -, -⟩, K9⟩;have l9 := R9l.len;rw [hcl] at l9;have B29 := K9.bl B28 id;have B99 := K9.bl B98 id;have K89 := K8.trans K9;have R9' := R9.aj K89;have hR9 := hR.aj K9;rw [ae];have t3 := B29.bG (o := 0) (n := 7) (by simp);have a7 : bM #[s', b', d', a', m', .slice ua (cj (aD r)).length uc, sv] := aU (sl7 m5 trivial Z9.aq);have d0 : (((cl + 1 : Nat) : Int) == 0) = ZS := by rw [beq_eq_false_iff_ne]; omega
    have c6 : cell H9 ⟨b9, 6, ZU⟩ = ZV sv := by rw [B99.cell]; rfl
    simp only [go_sem, Za, Zb, O9.sl.aq, O9.sl.len, l9, d0];unfold aem kW kX kb kg;refine aZ (fun q => q = b3) ?_;simp -implicitDefEqProofs only [go_sem, ↓reduceIte, Za, Zb, Zc, reduceCtorEq, ae, B99.aL 7 rfl, uz, c6];have hzl : (eO r).length = oC r := by simp [eO]
    have s1 := K1.size;have s2 := K2.size;have s3 := (K3.trans K36).size;have l3 := fG.lt;refine ⟨by omega, by omega, (c.stf.1 _ _ _ rb H9 hR9 (by omega)).mono ?_⟩;rintro y2 H10 ⟨O10, o10, x8⟩;rw [aJ];refine ⟨x8.any, ?_⟩;have ab7 := x8.bl B29 (by simp);have amA := x8.bl B99 (by simp);have t3' := ab7.bG (o := 0) (n := 7) (by simp);have K0X := (K08.trans K9).trans x8;simp -implicitDefEqProofs only [go_sem, ↓reduceIte, Za, Zb, Zc, reduceCtorEq, ae, t3'];refine (c.eqI (eO r) (eO r) y2 sv H10 O10.sl ((Z9.ai K89 (by simp)).ai x8 (by simp)) (by omega)).mono ?_;rintro y3 H11 ⟨rfl, rfl⟩;rw [aJ];refine ⟨af.refl _ _, ?_⟩;have hd : ZQ (eO r = eO r) = ZT := decide_eq_true rfl;simp only [go_sem, Za, Zb, ae, t3', hd];have C3 : Bl (aB H11 ⟨b3, 0, ZU⟩ [s', b', d', a', m', .slice ua (cj (aD r)).length uc, sv]) b3 [s', b', d', a', m', .slice ua (cj (aD r)).length uc, sv] := ab7.aB 0 [s', b', d', a', m', .slice ua (cj (aD r)).length uc, sv];have KS : af (fun q => q = b3) H11 (aB H11 ⟨b3, 0, ZU⟩ [s', b', d', a', m', .slice ua (cj (aD r)).length uc, sv]) := (af.refl _ _).aB _ (.inl rfl);have KF : af (fun _ => False) H (aB H11 ⟨b3, 0, ZU⟩ [s', b', d', a', m', .slice ua (cj (aD r)).length uc, sv]) := K0X.trans' KS fun q hq e => by omega
    rw [C3.aL 7 rfl];refine ⟨a7, KS, rfl, ?_⟩;rw [hQ];obtain ⟨t, ht⟩ : ∃ t, t ∈ eN (bu r) (aD r) (eO r) := by
      cases h : eN (bu r) (aD r) (eO r) with
      | nil => exact absurd h hc0
      | cons a l => exact ⟨a, YB⟩
    have hu := (Sn ht (k := 0) (by omega)).2.2;have hW : zg H11 (fun q => q = b3) := zg.one ab7 qV;have hRX := hR9.aj x8;have hA : dY (fun q => q = b3) H11 rb := hRX.aib (by omega) (u := (t.getD 0 0).toNat) (by rw [bN]; exact hu) ab7 (fun x hx => by
      simp only [YW, Zk, or_false, or_self] at hx;exact hx)
    exact ⟨_, _, rfl, (R9'.aj x8).bE hW KS, KF, .inr ⟨hc0, rb, rfl, hRX.bE hA hW KS⟩⟩
def Mf (V:aH):S:=
 (.seq (kY [kA 56 13,kA 57 14,kU 58 (.cm .neq ZY (.t 56) (.t 57)),kF 59 58,kS 60 59 ZS 12,kT 61 59 ZS (.m (.eqn .ptr ZS (.t 60))),kS 62 59 ZS 13,kT 63 59 ZS (.cm .neq ZY (.t 62) (.c (Z8 ZY 0))),kT 64 59 ZS (.eqb ZT (.t 61) (.t 63)),kV 65 (.pick (.t 59) (.c (Z5 ZT)) (.t 64))] (.ite (.v 65) (kY [kA 66 0,kM 67 7 4,kB 6 66,kf (.stn 7 (.v 7) (.t 67)),kC 8 (Z5 ZS)] .ret) .skip)) (.seq (kY [kA 68 13,kV 69 (.cm .neq ZY (.t 68) (.c (Z8 ZY 0)))] (.ite (.v 69) (kY [kA 70 0,kM 71 7 4,kB 6 70,kf (.stn 7 (.v 7) (.t 71)),kC 8 (Z5 ZT)] .ret) .skip)) (kY [kA 72 12,kM 73 7 4,kA 74 9,kA 75 10,kc 76 (kg (V.f 399) [.t 73,.t 74,.t 75]),kB 6 72,kf (.stn 7 (.v 7) (.t 76)),kC 8 (Z5 ZT)] .ret)))
def aen (V:aH):S:=
 (kY [kA 47 9,kG 48 6 4,kD 49 48,kL 50 49,kU 51 (.cm .geq ZY (.t 47) (.t 50)),kF 52 51,kS 53 52 ZS 10,kT 54 52 ZS (.cm .lss ZY (.t 53) (.c (Z8 ZY 1))),kV 55 (.pick (.t 52) (.c (Z5 ZT)) (.t 54))] (.ite (.v 55) (.reg [kC 14 (Z8 ZY 1)]) .skip))
def Jh (V:aH):S:=
 kY [kR 4 (V.t 396) 1,kR 5 (V.t 402) 2,kC 6 (Z7 .none),kd 7 (.new (V.t 396) #[kZ,kZ,kZ,kZ,kZ,kZ,kZ]),kC 8 (Z5 ZS)] (kY [kG 15 0 5,kD 16 15,kU 17 (.dv .rem ZX (.t 16) (.c (Z8 ZX 6))),kU 18 (.ii ZY (.t 17)),kG 19 1 5,kD 20 19,kU 21 (.dv .rem ZX (.t 20) (.c (Z8 ZX 6))),kU 22 (.ii ZY (.t 21)),kB 9 18,kB 10 22] (kY [kM 23 7 4,kA 24 9,kA 25 10,kc 26 (kg (V.f 400) [.t 23,.t 24,.t 25]),kB 11 26] (kY [kA 28 0,kA 29 9,kA 30 10,kc 31 (kg (V.f 388) [.t 28,.t 29,.t 30]),kF 27 31,kQ 32 27 0,kQ 33 27 1,kB 12 32,kB 13 33] (.seq (kY [kA 34 0,kA 35 9,kA 36 10,kc 37 (kg (V.f 386) [.t 34,.t 35,.t 36]),kU 38 (.ii ZY (.t 37)),kA 39 11,kV 40 (.cm .neq ZY (.t 38) (.t 39))] (.ite (.v 40) (kY [kA 41 0,kM 42 7 4,kB 6 41,kf (.stn 7 (.v 7) (.t 42)),kC 8 (Z5 ZS)] .ret) .skip)) (kY [kc 43 (.aX (V.t 403) 1 6 [.c (Z8 ZY 0),.c (Z8 ZY 0),.c (Z8 ZY 7),.c (Z8 ZY 11),.c (Z8 ZY 12),.c (Z8 ZY 12)]),kA 44 11,kI 45 1 43 44,kD 46 45,kB 14 46] (.seq (aen V) (Mf V)))))))
def Ji:List RV:=[.t 6,.cn 7 7,.t 8]
structure Ps (r:cF) (H:Hp) (rb:Nat) (sv:ZR) (st:List Int):Prop where
 run:cH H rb (bu r) ((aD r).map bt) st
 ref:dp H sv (bu r) (aD r) st
 ok:uC (bu r).st.length st
 ne:eN (bu r) (aD r) st≠[]
 ord:qQ (bu r).be st=ZT
def Ps.aj (h:Ps r H rb sv st) (hk:af (fun _=>False) H H'):Ps r H' rb sv st:=⟨h.run.aj hk,h.ref.aj hk,h.ok,h.ne,h.ord⟩
def CB (r:cF):(bu r).st.length<=5:=by have:=ft r;rw[cK];omega
def Jj (r:cF):((aD r).map bt).length=(bu r).st.length:=by rw[YM,cJ,cK]
def Og (F:cf) (ms:List UInt64) (st:List Int) (step user:Int):iP F ms st step user=1\/iP F ms st step user=2\/iP F ms st step user=3\/iP F ms st step user=4\/iP F ms st step user=5:=by
 unfold iP
 split
 ·split
  ·simp
  ·split
   ·simp
   ·split<;>simp
 ·simp
def Fy (r:cF) (h:uC (bu r).st.length st) (i:Nat) (u:Int) (hi:i<st.length) (hu:cz (((aD r).map bt).getD i fun _=>ZS) u=ZT):uB (bJ (bu r) ((aD r).map bt)) (st.set i u):=by
 rw[bN]at hu;have:=(qO (eU r) i u).1 hu;exact Mc r (h.set (by omega))
def xn (P:Program) (V:aH) (k:FuncId):Prop:=∀(r:cF) (st:List Int) (rb:Nat) (sv:ZR) (a1 a2:UInt8) (H:Hp),bh V H->Ps r H rb sv st→
 an P k #[Z7 (ZV ⟨rb,0,ZU⟩),sv,Z0 #[Z8 ZX a1.toNat,Z8 ZX a2.toNat]] H fun x H'=>∃sP tV st',x=ZZ #[Z7 (ZV ⟨sP,0,ZU⟩),tV,Z5 ZT]/\Ps r H' sP tV st'/\af (fun _=>False) H H'/\∀W:Nat->Prop,(∀q,W q->q<H.size)->dY W H rb->dY W H' sP
structure aic (P:Program) (V:aH):Prop where
 ask:xk P (V.f 400)
 wth:qT P (V.f 399)
 gra:xd P V (V.f 388)
 eas:mN P V (V.f 386)
def agk (c:aic P V) {b4:Nat} {step user e:Int} {nx b ev:ZR} {Q:ZR->Hp->Prop}
  (f0:f 0=Z7 (ZV ⟨rb,0,ZU⟩)) (f4:f 4=Z7 (ZV ⟨b4,0,ZU⟩)) (f7:f 7=Z7 (ZV ⟨b7,0,ZU⟩)) (f9:f 9=Z8 ZY step) (f10:f 10=Z8 ZY user) (f12:f 12=nx) (f13:f 13=Z8 ZY e) (f14:f 14=Z8 ZY e)
  (B4:Bl A b4 [s,b,d,a,m,ev,sv]) (B7:Bl A b7 [Z6 ZU 0 0,Z6 ZU 0 0,Z6 ZU 0 0,Z6 ZU 0 0,Z6 ZU 0 0,Z6 ZU 0 0,Z6 ZU 0 0]) (hI:Ps r A rb (Z0 #[s,b,d,a,m,ev,sv]) st) (hA:dY (fun q=>q=b7) A rb)
  (hcase:(e≠0/\nx=Z7 ZU)\/(e=0/\∃(j sP:Nat),step=(j:Int)/\nx=Z7 (ZV ⟨sP,0,ZU⟩)/\cH A sP (bu r) ((aD r).map bt) (st.set j user)/\j<st.length/\uC (bu r).st.length (st.set j user)/\eN (bu r) (aD r) (st.set j user)≠[]/\dY (fun q=>q=b7) A sP/\qQ (bu r).be (st.set j user)=ZT))
  (hK:∀A' sP tV st',Ps r A' sP tV st'->af (fun q=>q=b7) A A'->(∀W,dY W A rb->(∀rbn,nx=Z7 (ZV ⟨rbn,0,ZU⟩)->dY W A rbn)->dY W A' sP)->Q (ZZ #[Z7 (ZV ⟨sP,0,ZU⟩),tV,Z5 ZT]) A'):vc P (Mf V) (kr [.t 6,.cn 7 7,.t 8] Q) f A:=by
 unfold Mf kA kB kF kC kM kS kT kU kV kc kf kg kY;have uz:((0:Int)!=0)=ZS:=rfl;have ee:(e !=e)=ZS:=by simp
 have hW:zg A (fun q=>q=b7):=zg.one B7 qV;have hlt:=hI.run.lt;rcases hcase with⟨he,rfl⟩|⟨rfl,j,sP,rfl,rfl,Gh,hj,alm,aln,hA',aid⟩
 ·have e0:(e !=0)=ZT:=bne_iff_ne.2 he;have alo:=hI.ref;obtain⟨s1,b1,d1,a1,m1,Pq,sv1,eq,q1,q2,q3⟩:=hI.ref
  cases eq
  have a7:bM #[s,b,d,a,m,ev,sv]:=aU (sl7 q1.sl5 q2.aq q3.aq);have t7:=B7.bG (o:=0) (n:=7) (by simp);simp only[go_sem,Za,Zb,f0,f4,f7,f12,f13,f14,e0,ee,B4.aL 7 rfl,t7];refine⟨a7,?_⟩;have C7:Bl (aB A ⟨b7,0,ZU⟩ [s,b,d,a,m,ev,sv]) b7 [s,b,d,a,m,ev,sv]:=B7.aB 0 [s,b,d,a,m,ev,sv];have KS:af (fun q=>q=b7) A (aB A ⟨b7,0,ZU⟩ [s,b,d,a,m,ev,sv]):=(af.refl _ _).aB _ (.inl rfl);rw[ae];simp only[go_sem,Za,Zb,ae,f7,C7.aL 7 rfl];exact hK _ rb _ st ⟨hI.run.bE hA hW KS,alo.bE hW KS,hI.ok,hI.ne,hI.ord⟩ KS fun W h1 _=>h1.bE hlt hA.1 KS
 ·have IW:=Gh.lt;simp only[go_sem,Za,Zb,f4,f7,f9,f10,f12,f13,f14,uz,ee,B4.aL 7 rfl];refine(c.wth (bu r) (aD r) st j user _ A hI.ref (by have:=hI.ok.1;have:=CB r;omega) hj).mono ?_;rintro y A1 ⟨hy,K1⟩;have hy0:=hy;obtain⟨s1,b1,d1,a1,m1,Pq,sv1,rfl,q1,q2,q3⟩:=hy;have B71:=K1.bl B7 id;have t7:=B71.bG (o:=0) (n:=7) (by simp);have a7:bM #[s1,b1,d1,a1,m1,Pq,sv1]:=aU (sl7 q1.sl5 q2.aq q3.aq);have hW1:zg A1 (fun q=>q=b7):=zg.one B71 qV;rw[ae];simp only[go_sem,Za,Zb,f7,t7];refine⟨a7,?_⟩;have C7:Bl (aB A1 ⟨b7,0,ZU⟩ [s1,b1,d1,a1,m1,Pq,sv1]) b7 [s1,b1,d1,a1,m1,Pq,sv1]:=B71.aB 0 [s1,b1,d1,a1,m1,Pq,sv1];have KS:af (fun q=>q=b7) A1 (aB A1 ⟨b7,0,ZU⟩ [s1,b1,d1,a1,m1,Pq,sv1]):=(af.refl _ _).aB _ (.inl rfl);rw[ae];simp only[go_sem,Za,Zb,ae,f7,C7.aL 7 rfl];have s1':=K1.size;refine hK _ sP _ (st.set j user) ⟨(Gh.aj K1).bE (hA'.aj IW K1) hW1 KS,hy0.bE hW1 KS,alm,aln,aid⟩ (K1.any.trans KS) fun W _ h2=>?_;exact((h2 sP rfl).aj IW K1).bE (by omega) hA'.1 KS
def ab8 {k:FuncId} (hk:ak P k (Jh V) Ji 3) (c:aic P V):xn P V k:=by
 intro r st rb sv a1 a2 H hT hI;refine qI fun Q hQ=>?_;have hRr:=hI.ref;obtain⟨s,b,d,a,m,ev,sw,rfl,q1,q2,q3⟩:=hI.ref;refine ah hk (args:=[_,_,_]) (by simp) ?_;unfold Jh Ji kA kB kF kC kD kG kI kM kQ kR kU kV kc kd kf kg kY kZ;simp only[go_sem,Za,Zb];refine ax fun H1 b4 e1 z1 B1 K1=>?_;have bL:Bl H1 b4 [s,b,d,a,m,ev,sw]:=B1;simp only[go_sem,Za,Zb];refine ax fun H2 b5 e2 z2 B2 K2=>?_;have fG:Bl H2 b5 [Z8 ZX a1.toNat,Z8 ZX a2.toNat]:=B2;simp only[go_sem,Za,Zb];refine ax fun H3 b7 e3 z3 B3 K3=>?_;have uT:Bl H3 b7 [Z6 ZU 0 0,Z6 ZU 0 0,Z6 ZU 0 0,Z6 ZU 0 0,Z6 ZU 0 0,Z6 ZU 0 0,Z6 ZU 0 0]:=B3;have eo:=(K1.trans K2).trans K3;have jv:=(K2.trans K3).bl bL (by simp);have tR:=K3.bl fG id;have s1:=K1.size;have s2:=K2.size;have s3:=K3.size;have c50:cell H3 ⟨b5,0,ZU⟩=ZV (Z8 ZX a1.toNat):=by rw[tR.cell];rfl
 have c51:cell H3 ⟨b5,1,ZU⟩=ZV (Z8 ZX a2.toNat):=by rw[tR.cell];rfl
 obtain⟨x1,hx1⟩:∃x:Nat,x=a1.toNat % 6:=⟨_,rfl⟩
 obtain⟨x2,Pp⟩:∃x:Nat,x=a2.toNat % 6:=⟨_,rfl⟩
 have m1:((a1.toNat:Int)).tmod 6=(x1:Int):=by rw[hx1];exact ct _ _
 have m2:((a2.toNat:Int)).tmod 6=(x2:Int):=by rw[Pp];exact ct _ _
 have w1:IntKind.i64.wrap (x1:Int)=(x1:Int):=ZN _ (by omega);have w2:IntKind.i64.wrap (x2:Int)=(x2:Int):=ZN _ (by omega);simp only[go_sem,Za,Zb,c50,c51,m1,m2,w1,w2,jv.aL 7 rfl];have h5:=CB r;have hsl:=hI.ok.1;have hel:=Jj r;have hok:=wL r;refine⟨by decide,by decide,?_⟩;refine(c.ask (bu r) (aD r) st (x1:Int) (x2:Int) _ H3 (hRr.aj eo) (Jg r hsl)).mono ?_;rintro y H4 ⟨rfl,K4⟩;have oF:=eo.trans K4;rw[ae];simp only[go_sem,Za,Zb];refine(c.gra.1 (bu r) ((aD r).map bt) st rb (x1:Int) (x2:Int) H4 (hT.ai oF) (hI.run.aj oF) hok (by omega) (qU r) (Fy r hI.ok)).mono ?_;rintro y H5 ⟨K5,hg⟩;have DS:=oF.trans K5;obtain⟨e,he⟩:∃e,e=oh (bu r) ((aD r).map bt) st (x1:Int) (x2:Int):=⟨_,rfl⟩
 rw[<-he]at hg;have rD:∃nx,y=ZZ #[nx,Z8 ZY e]/\((e≠0/\nx=Z7 ZU)\/(e=0/\∃sP,nx=Z7 (ZV ⟨sP,0,ZU⟩)/\cH H5 sP (bu r) ((aD r).map bt) (st.set x1 (x2:Int))/\∀W:Nat->Prop,(∀q,W q->q<H4.size)->dY W H4 rb->dY W H5 sP)):=by
  rcases hg with⟨h1,rfl⟩|⟨h1,sP,rfl,h2,h3⟩
  ·exact⟨_,rfl,.inl ⟨h1,rfl⟩⟩
  ·rw[h1];exact⟨_,rfl,.inr ⟨rfl,sP,rfl,h2,h3⟩⟩
 clear hg;obtain⟨nx,rfl,hgg⟩:=rD;rw[ae];simp only[go_sem,Za,Zb];refine(c.eas.1 (bu r) ((aD r).map bt) st rb (x1:Int) (x2:Int) H5 (hT.ai DS) (hI.run.aj DS) hok (by omega) (qU r) (Fy r hI.ok)).mono ?_;rintro y H6 ⟨rfl,K6⟩;have DQ:=DS.trans K6;obtain⟨wn,hwn,hw1,hw5⟩:∃wn:Nat,iP (bu r) (aD r) st (x1:Int) (x2:Int)=(wn:Int)/\1<=wn/\wn<=5:=by
  rcases Og (bu r) (aD r) st (x1:Int) (x2:Int)with h|h|h|h|h<;>rw[h]
  ·exact⟨1,rfl,by omega,by omega⟩
  ·exact⟨2,rfl,by omega,by omega⟩
  ·exact⟨3,rfl,by omega,by omega⟩
  ·exact⟨4,rfl,by omega,by omega⟩
  ·exact⟨5,rfl,by omega,by omega⟩
 have agl:fH (bu r) ((aD r).map bt) st (x1:Int) (x2:Int)=(wn:Int):=by rw[qP hI.ok (by omega) (eU r),hwn]
 have ww:IntKind.i64.wrap (wn:Int)=(wn:Int):=ZN _ (by omega);have dw:(((wn:Int))!=(wn:Int))=ZS:=by simp
 rw[ae];simp only[go_sem,Za,Zb,agl,hwn,ww,dw];refine aG fun H7 bb e7 z7 B7 K7=>?_;have B7':Bl H7 bb [Z8 ZY 0,Z8 ZY 0,Z8 ZY 7,Z8 ZY 11,Z8 ZY 12,Z8 ZY 12]:=B7;obtain⟨tb,htb⟩:∃tb:Int,tb=([0,0,7,11,12,12]:List Int).getD wn 0:=⟨_,rfl⟩
 have cw:cell H7 ⟨bb,wn,ZU⟩=ZV (Z8 ZY tb):=by
  rw[B7'.cell,htb]
  match wn,hw1,hw5 with
  |1,_,_=>rfl
  |2,_,_=>rfl
  |3,_,_=>rfl
  |4,_,_=>rfl
  |5,_,_=>rfl
 have Fs:=DQ.trans K7;have K37:=((K4.trans K5).trans K6).trans K7;have B17:=K37.bl jv id;have B37:=K37.bl uT id;have c6:cell H7 ⟨b4,6,ZU⟩=ZV sw:=by rw[B17.cell];rfl
 have gr:e=if(st.length:Int)<=(x1:Int)\/(x2:Int)<1 then 1 else tb:=by
  rw[he];unfold oh
  by_cases hc:(st.length:Int)<=(x1:Int)\/(x2:Int)<1
  ·rw[if_pos hc,if_pos (by omega)]
  ·rw[if_neg hc,if_neg (by omega),agl,htb]
   match wn,hw1,hw5 with
   |1,_,_=>rfl
   |2,_,_=>rfl
   |3,_,_=>rfl
   |4,_,_=>rfl
   |5,_,_=>rfl
 have hIx:Ps r H7 rb (Z0 #[s,b,d,a,m,ev,sw]) st:=⟨hI.run.aj Fs,hRr.aj Fs,hI.ok,hI.ne,hI.ord⟩
 have hA7:dY (fun q=>q=b7) H7 rb:=by
  obtain⟨y1,y2,y3,y4,y5,y6,y7,y8,g1,g2,g3,g4,g5,g6,g7⟩:=hI.run;have lt:=g1.lt;have:dY (fun q=>q=b7) H rb:=⟨by omega,y6,by rw[g1.cell];rfl,fun q hq e=>by have:=g3.bo hq;omega⟩
  exact this.aj lt Fs
 have fin:∀g:Fr,g 0=Z7 (ZV ⟨rb,0,ZU⟩)->g 4=Z7 (ZV ⟨b4,0,ZU⟩)->g 7=Z7 (ZV ⟨b7,0,ZU⟩)->g 9=Z8 ZY (x1:Int)->g 10=Z8 ZY (x2:Int)->g 12=nx->g 13=Z8 ZY e->g 14=Z8 ZY e->vc P (Mf V) (kr [.t 6,.cn 7 7,.t 8] Q) g H7:=fun g g0 g4 g7 g9 g10 g12 g13 g14=>by
  refine agk c g0 g4 g7 g9 g10 g12 g13 g14 B17 B37 hIx hA7 ?_ fun A' rbn svn stn hP KK hW=>?_
  ·rcases hgg with h|⟨h0,sP,h1,h2,h3⟩
   ·exact .inl h
   ·have KV:iP (bu r) (aD r) st (x1:Int) (x2:Int)=1:=by
     rw[h0]at he;have:=he.symm;unfold oh at this
     split at this
     ·omega
     ·split at this
      ·next h=>rw[<-agl]at hwn;rw[hwn];exact h
      ·split at this
       ·omega
       ·split at this<;>omega
    obtain⟨j,hj,j1,j2,j3,j4,j5,j6,j7,j8⟩:=ah9 hI.ok (by omega) KV;have:x1=j:=by omega
    subst this;exact .inr ⟨h0,x1,sP,rfl,h1,(h2.aj K6).aj K7,by omega,j8,j7,((h3 _ (fun q hq=>by have:=uT.lt;have:=K4.size;omega) (by
     obtain⟨y1,y2,y3,y4,y5,y6,y7,y8,g1,g2,g3,g4,g5,g6,g7⟩:=hI.run;have lt:=g1.lt;have:dY (fun q=>q=b7) H rb:=⟨by omega,y6,by rw[g1.cell];rfl,fun q hq e=>by have:=g3.bo hq;omega⟩
     exact this.aj lt oF)).aj h2.lt K6).aj (by have:=h2.lt;have:=K6.size;omega) K7,abZ (fun x hx=>((iK r).be x hx).1) hI.ok.1 (by omega) hI.ord j1 (by omega)⟩
  ·rw[hQ];refine⟨rbn,svn,stn,rfl,hP,Fs.trans' KK fun q hq e=>by omega,fun W hWo hWA=>hW W (hWA.aj hI.run.lt Fs) fun rbx hx=>?_⟩;rcases hgg with⟨_,h⟩|⟨h0,sP,h1,h2,h3⟩
   ·rw[h]at hx;cases hx
   ·rw[h1]at hx
    cases hx
    exact((h3 W (fun q hq=>by have:=hWo q hq;have:=oF.size;omega) (hWA.aj hI.run.lt oF)).aj h2.lt K6).aj (by have:=h2.lt;have:=K6.size;omega) K7
 simp only[go_sem,Za,Zb,cw,al];refine⟨by omega,?_⟩;unfold aen kA kF kC kD kG kL kS kT kU kV kY;have lsw:aW sw=st.length:=by rw[q3.len,aA]
 by_cases h1:(st.length:Int)<=(x1:Int)
 ·rw[if_pos (.inl h1)]at gr;have d1:ZQ ((x1:Int)≥(st.length:Int))=ZT:=decide_eq_true h1;simp only[go_sem,Za,Zb,c6,q3.aq,lsw,d1];exact fin _ (by rfl) (by rfl) (by rfl) (by rfl) (by rfl) (by rfl) (by rfl) (by simp only[go_sem,Za,Zb,ae];rw[gr])
 ·have d1:ZQ ((x1:Int)≥(st.length:Int))=ZS:=decide_eq_false h1
  by_cases h2:(x2:Int)<1
  ·rw[if_pos (.inr h2)]at gr;have d2:ZQ ((x2:Int)<1)=ZT:=decide_eq_true h2;simp only[go_sem,Za,Zb,c6,q3.aq,lsw,d1,d2];exact fin _ (by rfl) (by rfl) (by rfl) (by rfl) (by rfl) (by rfl) (by rfl) (by simp only[go_sem,Za,Zb,ae];rw[gr])
  ·rw[if_neg (by omega)]at gr;have d2:ZQ ((x2:Int)<1)=ZS:=decide_eq_false h2;simp only[go_sem,Za,Zb,c6,q3.aq,lsw,d1,d2];exact fin _ (by rfl) (by rfl) (by rfl) (by rfl) (by rfl) (by rfl) (by rfl) (by simp only[go_sem,Za,Zb,ae];rw[gr])
end Go.Mg

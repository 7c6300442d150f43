/- Lemmas of ours. No conditions. -/
import Derived.Test.YtoclemmcphgikaaGreatDoorMgB2
import Derived.Test.YtoclemmcphgikaaGreatDoorMgRf4
open Bool renaming false→ZS,true→ZT
open Decidable renaming decide→ZQ
open Go renaming Value→ZR
open Go.IntKind renaming i64→ZY,u64→ZW
open Go.Value renaming agg→Z0,bool→Z5,int→Z8,pointer→Z7,slice→Z6
open Option renaming none→ZU,some→ZV
open Bool renaming and_eq_true→ZJ
open Go.IntWalk renaming i64_in→ZN
open Int renaming eq_ofNat_of_zero_le→Xh
open List renaming getD_eq_getElem?_getD→ZP,getElem?_eq_getElem→ZO,getElem?_take→YZ,length→Y8,length_nil→Zx,length_singleton→Xz,length_take→Zr,replicate→ZM,take_length→ZI,take_succ_eq_append_getElem→Zw
open Nat renaming mul_one→Zs
open UInt64 renaming size→VJ
open Nat renaming reduceEqDiff→Za,reduceAdd→Zb,reduceMul→Zc
set_option maxRecDepth 100000
set_option linter.all false
namespace Go.Mg
open Go Go.RowKit
def GF (V:aH):S:=
 kY [kR 1 (V.t 128) 0,kV 2 (.mv (.c .nilFunc))] (kY [kU 3 (.m (.mkf (V.f 136) [] [.v 1])),kB 2 3] .ret)
def GG:List RV:=[.t 2]
def jf (V:aH):S:=
 kY [kG 5 0 1,kV 6 (.ld (.t 5)),kO 7 6,kC 8 (Z8 ZY 0)] (.blk 0 (.loop (kY [kH 9 8 7] (.seq (.ite (.v 9) .skip (.exit 0)) (.seq (.blk 1 (kY [kA 10 8,kK 11 1 6 8,kD 12 11,kB 3 10,kB 4 12] (.blk 2 (.loop (.seq (kY [kA 13 4,kV 14 (.cm .neq ZW (.t 13) (.c (Z8 ZW 0)))] (.ite (.v 14) .skip (.exit 2))) (.seq (.blk 3 (kY [kA 19 0,kA 20 3,kU 21 (.ar .mul ZY (.c (Z8 ZY 64)) (.t 20)),kA 22 4,kc 23 (kg (V.f 126) [.t 22]),kU 24 (.ar .add ZY (.t 21) (.t 23)),kc 25 (.cally (.t 19) [.t 24]),kV 26 (.not (.t 25))] (.ite (.v 26) .ret .skip))) (.reg [kA 15 4,kA 16 4,kU 17 (.ar .sub ZW (.t 16) (.c (Z8 ZW 1))),kU 18 (.bt .and ZW (.t 15) (.t 17)),kB 4 18]))))))) (.reg [ke 27 8,kB 8 27]))))))
def jg:List RV:=[]
def Ar (V:aH):S:=
 kY [kR 1 (V.t 128) 0,kC 2 (kZ)] (kY [kM 5 1 1,kc 6 (kg (V.f 135) [.t 5]),kc 7 (.rJ (V.t 26) 1 8 #[Z8 ZY 0] (.c (Z8 ZY 0)) (.t 6)),kd 3 (.new (V.t 138) #[kZ]),kf (.st (.v 3) (.t 7))] (.seq (kY [kM 8 1 1,kd 9 (kg (V.f 137) [.t 8])] (.blk 0 (.rf 16 (.v 9) 10 4 (.blk 1 (.reg [kU 11 (.ld (.v 3)),kA 12 4,kc 13 (.aX (V.t 26) 1 1 [.t 12]),kc 14 (.app ZS (V.t 26) 1 8 #[Z8 ZY 0] (.t 11) (.t 13)),kf (.st (.v 3) (.t 14))]))))) (kY [kU 15 (.ld (.v 3)),kB 2 15] .ret)))
def As:List RV:=[.t 2]
def akn (k b:Nat):ZR:=.func (.func k) #[] #[Z7 (ZV ⟨b,0,ZU⟩)]
def gz (P:Program) (k k1:FuncId):Prop:=∀(v:ZR) (H:Hp),an P k #[Z0 #[v]] H fun r H'=>r=akn k1 H.size/\Bl H' H.size [v]/\af (fun _=>False) H H'/\H'.size=H.size+1
variable {P:Program} {V:aH} {k:FuncId} {p:Nat->Bool} {n i:Nat} {v:ZR} {W:List UInt64}
def Au (hk:ak P k (GF V) GG 1):gz P k (V.f 136):=by
 intro v H;refine ah hk (args:=[_]) (by simp) ?_;unfold GF GG kB kR kU kV kY;simp only[go_sem,zS,↓reduceIte,Za,Zb,Zc,reduceCtorEq,bd];refine ax fun H1 b1 e1 z1 B1 K1=>?_;subst e1;simp only[go_sem,zS,↓reduceIte,Za,Zb,Zc,reduceCtorEq,ae];exact⟨rfl,B1,K1,z1⟩
def cU (p:Nat->Bool):List ZR:=(bf p).map fun n:Nat=>Value.int ZY (n:Int)
def vV (p:Nat->Bool):(cU p).length=cn 4096 p:=by simp[cU,gx]
def Qw (h:n<4096) (hp:p n=ZT):(cU p).getD (cn n p) undef=Z8 ZY (n:Int):=by
 have:=vG p 4096 n h hp;unfold cU bf;rw[ZP,List.getElem?_map,this];rfl
def ahG {N:Nat} (h:n<N) (hp:p n=ZT):cn n p<cn N p:=by
 have h1:cn (n+1) p=cn n p+1:=by rw[bK,if_pos hp]
 have h2:cn (n+1) p<=cn N p:=by
  obtain⟨d,rfl⟩:∃d,N=n+1+d:=⟨N -(n+1),by omega⟩
  rw[vF (n+1) d];omega
 omega
def Np (x y:UInt64):bits .and ZW (x.toNat:Int) (IntKind.u64.wrap ((y.toNat:Int) -1))=((x&&&(y -1)).toNat:Int):=by
 have:IntKind.u64.wrap ((y.toNat:Int) -1)=((y -1).toNat:Int):=by
  have:=y.toNat_lt;rw[IntKind.wrap_u64,UInt64.toNat_sub];have e:(1:UInt64).toNat=1:=rfl;rw[e];omega
 rw[this];exact mw _ _
def qk (hk:mF P k (jf V) jg 2) (ht:mz P V (V.f 126)) {b:Nat}:
  Ld P k #[Z7 (ZV ⟨b,0,ZU⟩)] (cU p) (fun H=>bh V H/\Bl H b [v]/\fR H v W p):=by
 intro l J K hY hG H h0 w hw;have main:an P k #[.func (.yield l) #[] #[],Z7 (ZV ⟨b,0,ZU⟩)] H fun r H'=>J (cU p).length H'\/K H':=by
  refine Aq hk (args:=[_,_]) (by simp) ?_;unfold jf jg kA kB kC kD ke kG kH kK kO kU kV kc kg kY;obtain⟨_,B0,V0⟩:=hG 0 H h0;have hlen:=V0.len;simp only[go_sem,zS,↓reduceIte,Za,Zb,Zc,reduceCtorEq,ae,B0.cell,V0.sl.aq,V0.sl.len,aI];have hall:(cU p).length=cn (64*W.length) p:=by rw[vV,V0.count,gx]
  refine aT [9,3,4,14,26,8] rfl (fun n f H'=>∃i,i<=W.length/\n=W.length -i/\f 8=Z8 ZY i/\J (cn (64*i) p) H') W.length
   ⟨0,by omega,by omega,rfl,h0⟩ ?_
  rintro n g H1 ⟨i,hi,rfl,GH,hJ⟩;simp only[go_sem,zS,↓reduceIte,Za,Zb,Zc,reduceCtorEq,ae]at GH;simp only[go_sem,zS,↓reduceIte,Za,Zb,Zc,reduceCtorEq,ae,GH];refine aN (fun hlt=>?_) (fun ki=>?_)
  ·have hlt:i<W.length:=by omega
   obtain⟨_,_,V1⟩:=hG _ _ hJ;obtain⟨bb,o,c,rfl,-,hc⟩:=V1.sl.cells (by intro e;have h:=congrArg Y8 e;rw[aI,Zx]at h;omega);rw[aI]at hc;have hci:=hc i hlt;rw[dW _ _ hlt]at hci;simp only[go_sem,zS,↓reduceIte,Za,Zb,Zc,reduceCtorEq,ae,GH,aI,al,Zs,hci];refine⟨by omega,?_⟩;refine aT [4,14,26] rfl (fun n f H'=>∃(t:Nat) (y:UInt64),t<=64/\n=64 -t/\f 4=Z8 ZW y.toNat/\(∀q<64,bt y q=(bt (W.getD i 0) q&&ZQ (t<=q)))/\J (cn (64*i+t) p) H') 64
    ⟨0,W.getD i 0,by omega,by omega,by simp only[go_sem,zS,↓reduceIte,Za,Zb,Zc,reduceCtorEq,ae],fun q _=>by simp,hJ⟩ ?_
   rintro n g2 H2 ⟨t,y,ame,rfl,yJ,hy,hJ2⟩;simp only[go_sem,zS,↓reduceIte,Za,Zb,Zc,reduceCtorEq,ae]at yJ;have uL:∀a,over (bR (bR a 3 (Value.int ZY (i:Int))) 4 (Z8 ZW ((W.getD i 0).toNat:Int))) g2 [4,14,26] 3=Z8 ZY (i:Int):=fun a=>by simp only[go_sem,zS,↓reduceIte,Za,Zb,Zc,reduceCtorEq,ae]
   simp only[go_sem,zS,↓reduceIte,Za,Zb,Zc,reduceCtorEq,ae,yJ];obtain⟨T2,_,V2⟩:=hG _ _ hJ2;have hbit:∀q<64,p (64*i+q)=bt (W.getD i 0) q:=fun q hq=>by rw[<-V2.is,gV _ _ _ hq]
   by_cases h0:y=0
   ·subst h0;have e0:(((0:UInt64).toNat:Int)!=0)=ZS:=rfl;simp only[go_sem,zS,↓reduceIte,Za,Zb,Zc,reduceCtorEq,ae,e0];have hnone:∀q,t<=q->q<64->p (64*i+q)=ZS:=fun q h1 h2=>by
     rw[hbit q h2];have:=hy q h2;rw[eF]at this;simpa[h1]using this.symm
    have hcn:cn (64*(i+1)) p=cn (64*i+t) p:=qe (by omega) fun q h1 h2=>by
     have:=hnone (q -64*i) (by omega) (by omega)
     rwa [show 64*i+(q -64*i)=q by omega]at this
    simp(disch:=omega)only[go_sem,zS,↓reduceIte,Za,Zb,Zc,reduceCtorEq,ae,GH,ZN];exact⟨W.length -(i+1),by omega,i+1,by omega,rfl,by simp,by rw[hcn];exact hJ2⟩
   ·have e0:((y.toNat:Int)!=0)=ZT:=by
     simp only[bne_iff_ne,ne_eq];intro e;exact h0 (UInt64.toNat_inj.1 (by simpa using e))
    obtain⟨l1,l2,l3⟩:=ij h0;have hlow:=hy _ l1;rw[l2]at hlow;simp only[ZJ,decide_eq_true_eq,Bool.true_eq]at hlow;obtain⟨g1,g2'⟩:=hlow;have w1:IntKind.i64.wrap (64*(i:Int))=((64*i:Nat):Int):=by rw[show(64*(i:Int))=((64*i:Nat):Int) by omega];exact ZN _ ⟨by omega,by omega⟩
    simp only[go_sem,zS,↓reduceIte,Za,Zb,Zc,reduceCtorEq,ae,e0,w1];refine(ht y H2 T2 h0).mono ?_;rintro r H3 ⟨rfl,rfl⟩;have w2:IntKind.i64.wrap (((64*i:Nat):Int)+((dt y:Nat):Int))=((64*i+dt y:Nat):Int):=by rw[show(((64*i:Nat):Int)+((dt y:Nat):Int))=((64*i+dt y:Nat):Int) by omega];exact ZN _ ⟨by omega,by omega⟩
    have hp:p (64*i+dt y)=ZT:=by rw[hbit _ l1];exact g1
    have hcn:cn (64*i+dt y) p=cn (64*i+t) p:=qe (by omega) fun q h1 h2=>by
     have e:=hy (q -64*i) (by omega);rw[l3 (q -64*i) (by omega)]at e;have e2:=hbit (q -64*i) (by omega);rw[show 64*i+(q -64*i)=q by omega]at e2;rw[e2];have:t<=q -64*i:=by omega
     simpa[this]using e.symm
    rw[ae];simp only[go_sem,zS,↓reduceIte,Za,Zb,Zc,reduceCtorEq,ae,w2];refine⟨l,rfl,?_⟩;have hy1:=hY (cn (64*i+t) p) H3 (by rw[hall,<-hcn];exact ahG (by omega) hp) hJ2;rw[<-hcn,Qw (by omega) hp]at hy1;refine hy1.mono ?_;rintro r H4 (⟨rfl,hJ4⟩|⟨rfl,hK⟩)
    ·have hcl:=Np y y;simp only[go_sem,zS,↓reduceIte,Za,Zb,Zc,reduceCtorEq,ae,yJ,hcl];refine⟨64 -(dt y+1),by omega,dt y+1,afs y,by omega,rfl,rfl,fun q hq=>?_,?_⟩
     ·rw[aft h0,hy q hq]
      by_cases e:q=dt y
      ·subst e;simp
      ·by_cases e1:t<=q
       ·by_cases e2:dt y+1<=q
        ·simp[e1,e2,e]
        ·have e3:=l3 q (by omega);rw[hy q hq]at e3;have:bt (W.getD i 0) q=ZS:=by simpa[e1]using e3
         rw[this];simp[e2]
       ·have:¬dt y+1<=q:=by omega
        simp[e1,this]
     ·rw[show 64*i+(dt y+1)=64*i+dt y+1 by omega,bK,if_pos hp];exact hJ4
    ·simp only[go_sem,zS,↓reduceIte,Za,Zb,Zc,reduceCtorEq,ae];exact .inr hK
  ·have:i=W.length:=by omega
   subst this;exact .inl (by rw[hall];exact hJ)
 refine(main w hw).mono ?_;rintro e w' ⟨r,rfl,hR,hs⟩;exact⟨r,rfl,hs,hR⟩
def nD (P:Program) (V:aH) (k:FuncId):Prop:=∀(p:Nat->Bool) (x:ZR) (H:Hp),bh V H->aR H x p->an P k #[x] H fun r H'=>br H' r (cU p)/\(∀k,ay r k->H.size<=k)/\af (fun _=>False) H H'
def Qx {g:FuncId} (hk:iH P k (Ar V) As 1 16) (hl:qg P (V.f 135)) (ha:gz P (V.f 137) (V.f 136)) (hb1:bS P (V.f 136)=ZT)
  (h1:∀{v:ZR} {W:List UInt64} {p:Nat->Bool} {b:Nat},Ld P (V.f 136) #[Z7 (ZV ⟨b,0,ZU⟩)] (cU p) (fun H=>bh V H/\Bl H b [v]/\fR H v W p)):nD P V k:=by
 intro p x H hT hx;obtain⟨v,W,rfl,hv⟩:=hx;refine gW hk (args:=[_]) (by simp) ?_;unfold Ar As kA kB kC kM kR kU kc kd kf kg kY kZ;simp only[go_sem,zS,↓reduceIte,Za,Zb,Zc,reduceCtorEq,bd];refine ax fun H1 b1 e1 z1 B1 K1=>?_;simp only[go_sem,zS,↓reduceIte,Za,Zb,Zc,reduceCtorEq,ae,B1.aL 1 rfl];refine(hl p _ H1 ⟨v,W,rfl,hv.ai K1 (by simp)⟩).mono ?_;rintro r H2 ⟨rfl,K2⟩;have mb:(bf p).length<=4096:=by rw[gx];exact lN _ _
 rw[ae];simp only[go_sem,zS,↓reduceIte,Za,Zb,Zc,reduceCtorEq,al];refine⟨⟨by omega,by omega,by unfold maxLen;omega⟩,?_⟩;refine aG fun H3 b3 e3 z3 B3 K3=>?_;simp only[go_sem,zS,↓reduceIte,Za,Zb,Zc,reduceCtorEq];refine ax fun H4 b4 e4 z4 B4 K4=>?_;have s1:=K1.size;have s2:=K2.size;have s3:=K3.size;have s4:=K4.size;have aaK:=B4.bw (o:=0) (by simp);have B5:=B4.az 0 (Z6 (ZV ⟨b3,0,ZU⟩) 0 (bf p).length);have K5:af (fun k=>k=b4) H4 (az H4 ⟨b4,0,ZU⟩ (Z6 (ZV ⟨b3,0,ZU⟩) 0 (bf p).length)):=(af.refl _ _).az _ (.inl rfl);simp only[go_sem,zS,↓reduceIte,Za,Zb,Zc,reduceCtorEq,ae,aaK];generalize az H4 ⟨b4,0,ZU⟩ (Z6 (ZV ⟨b3,0,ZU⟩) 0 (bf p).length)=H5 at B5 K5⊢;have s5:=K5.size;have GB:Bl H5 b1 [v]:=K5.bl (K4.bl (K3.bl (K2.bl B1 id) (by simp)) (by simp)) (by omega);have O5:br H5 (Z6 (ZV ⟨b3,0,ZU⟩) 0 (bf p).length) []:=by
  have h:=B3;rw[dx]at h;exact br.bl (K5.bl (K4.bl h id) (by omega)) rfl (by omega) (by simp) rfl
 have Nq:af (fun _=>False) H H5:=((((K1.trans K2).trans K3).trans K4)).dk K5 (by omega);simp only[go_sem,zS,↓reduceIte,Za,Zb,Zc,reduceCtorEq,ae,GB.aL 1 rfl];refine(ha v H5).mono ?_;rintro r H6 ⟨rfl,B6,K6,z6⟩;have s6:=K6.size;simp only[go_sem,zS,↓reduceIte,Za,Zb,Zc,reduceCtorEq,ae];have Av:Bl H5 b4 [Z6 (ZV ⟨b3,0,ZU⟩) 0 (bf p).length]:=B5;have hTf:=fun{A:Hp} {X:Nat->Prop} (K:af X H A) (hx:∀k,k<H.size->¬X k)=>hT.ai (K.none hx);refine LB (fun k=>k=b4\/k=b3) (fun k A=>∃vs,Bl A b4 [vs]/\br A vs ((cU p).take k)/\∀q,ay vs q->q=b3\/H6.size+2<=q) (fun _ _=>False) (G:=fun H=>bh V H/\Bl H H5.size [v]/\fR H v W p) (by simp only[go_sem,zS,↓reduceIte,Za,Zb,Zc,reduceCtorEq,ae];rfl) hb1 h1 (by omega) ?_ ?_ ?_ ?_ ?_ ?_ ?_
 ·rintro k A KA _;have K:af (fun _=>False) H A:=(Nq.trans K6).trans' KA (fun i hi h=>by omega);exact⟨hT.ai K,KA.bl B6 (by omega),hv.ai K (by simp)⟩
 ·intro A KA hs;have KA5:=K6.trans KA;exact⟨_,KA5.bl Av id,O5.ai KA5 (by simp),fun q h=>.inl h⟩
 ·rintro k A A2 hs KA ⟨vs,g1,g2,g3⟩ K;refine⟨vs,K.bl g1 (by omega),g2.ai K (fun q hq e=>?_),g3⟩;rcases g3 q hq with h|h<;>omega
 ·rintro e A A2 hs KA h;exact h.elim
 ·rintro k A hk KA hs ⟨vs,g1,g2,g3⟩;have hkl:k<(cU p).length:=hk;generalize hxv:(cU p).getD k undef=xv;obtain⟨n,rfl⟩:∃n:Nat,xv=Z8 ZY (n:Int):=by
   rw[<-hxv,ZP,ZO hkl];refine⟨(bf p)[k]'(by simpa[cU]using hkl),?_⟩;simp[cU]
  have hst:=g1.bw (o:=0) (by simp);simp only[go_sem,zS,↓reduceIte,Za,Zb,Zc,reduceCtorEq,zF,g1.cell];refine aG fun A1 c1 f1 y1 C1 L1=>?_;have t1:=L1.size;have hlen:((cU p).take k).length+1<=4096:=by
   rw[Zr,vV];have:=lN 4096 p;have:=vV p;omega
  simp only[go_sem,zS,↓reduceIte,Za,Zb,Zc,reduceCtorEq,ae];have hC:Bl A1 c1 [Z8 ZY (n:Int)]:=C1;refine iD (l:=(cU p).take k) (m:=[Z8 ZY (n:Int)]) (g2.ai L1 (by simp)) (aP.bl hC 0 1 1 (by omega) (by simp)) ?_ rfl (by unfold maxLen;simp only[Xz];omega) (by simp only[Xz];omega) fun v' A2 O2 M2 N2=>?_
  ·intro y hy;simp at hy;subst hy;rfl
  ·have t2:=M2.size;have g12:Bl A2 b4 [vs]:=M2.bl (L1.bl g1 id) (fun h=>by
    rcases g3 _ h with h|h<;>omega)
   have ako:=g12.bw (o:=0) (by simp);obtain⟨aa,nn,cc,rfl⟩:=O2.shape;simp only[go_sem,zS,↓reduceIte,Za,Zb,Zc,reduceCtorEq,ae,ako];have C3:=g12.az 0 (.slice aa nn cc);have L3:af (fun k=>k=b4) A2 (az A2 ⟨b4,0,ZU⟩ (.slice aa nn cc)):=(af.refl _ _).az _ (.inl rfl);generalize az A2 ⟨b4,0,ZU⟩ (.slice aa nn cc)=A3 at C3 L3⊢;have Pn:(cU p).take (k+1)=(cU p).take k++[Z8 ZY (n:Int)]:=by
    rw[Zw hkl]
    congr 1
    rw[<-hxv,ZP,ZO hkl];rfl
   have Nr:∀q,ay (.slice aa nn cc) q->q=b3\/H6.size+2<=q:=fun q hq=>by
    rcases N2 q hq with h|h
    ·exact g3 q h
    ·omega
   refine⟨?_,_,C3,?_,Nr⟩
   ·have M2':af (fun b=>(b=b4\/b=b3)\/H6.size+2<=b) A1 A2:=M2.mono fun q _ hq=>by
     rcases g3 q hq with h|h
     ·exact .inl (.inr h)
     ·exact .inr h
    have Qy:af (fun b=>(b=b4\/b=b3)\/H6.size+2<=b) A2 A3:=L3.mono fun q _ hq=>.inl (.inl hq);exact(L1.any.trans M2').trans Qy
   ·rw[Pn];refine O2.ai L3 (fun q hq e=>?_);rcases Nr q hq with h|h<;>omega
 ·rintro A KA hs hd ⟨vs,g1,g2,g3⟩;rw[ZI]at g2;simp only[go_sem,zS,↓reduceIte,Za,Zb,Zc,reduceCtorEq,ae,g1.cell,List.nodup_cons,List.nodup_nil];refine⟨hd,fun A2 ha hb=>?_⟩;have M:af (fun k=>k=H6.size) A A2:=⟨by omega,fun k _ h=>hb k (by simpa using h)⟩
  refine⟨g2.ai M (fun q hq e=>?_),fun q hq=>?_,?_⟩
  ·rcases g3 q hq with h|h<;>omega
  ·rcases g3 q hq with h|h<;>omega
  ·exact((Nq.trans K6).trans' KA (fun i hi h=>by omega)).trans' M (fun i hi h=>by omega)
 ·rintro e A _ _ _ h;exact h.elim
def vW (V:aH):S:=
 kY [kR 2 (V.t 128) 0,kR 3 (V.t 128) 1,kC 4 (Z5 ZS)] (.seq (kY [kG 7 0 2,kD 8 7,kL 9 8,kG 10 0 3,kD 11 10,kL 12 11,kV 13 (.cm .neq ZY (.t 9) (.t 12))] (.ite (.v 13) (kY [kC 4 (Z5 ZS)] .ret) .skip)) (.seq (kY [kG 14 0 2,kV 15 (.ld (.t 14)),kO 16 15,kC 17 (Z8 ZY 0)] (.blk 0 (.loop (kY [kH 18 17 16] (.seq (.ite (.v 18) .skip (.exit 0)) (.seq (.blk 1 (kY [kA 19 17,kK 20 1 15 17,kD 21 20,kB 5 19,kB 6 21] (kY [kA 22 6,kG 23 0 3,kD 24 23,kA 25 5,kI 26 1 24 25,kD 27 26,kV 28 (.cm .neq ZW (.t 22) (.t 27))] (.ite (.v 28) (kY [kC 4 (Z5 ZS)] .ret) .skip)))) (.reg [ke 29 17,kB 17 29]))))))) (kY [kC 4 (Z5 ZT)] .ret)))
def vX:List RV:=[.t 4]
def rS (V:aH):S:=
 kY [kR 2 (V.t 128) 0,kR 3 (V.t 128) 1,kC 4 (Z5 ZS)] (.seq (kY [kG 7 0 2,kV 8 (.ld (.t 7)),kO 9 8,kC 10 (Z8 ZY 0)] (.blk 0 (.loop (kY [kH 11 10 9] (.seq (.ite (.v 11) .skip (.exit 0)) (.seq (.blk 1 (kY [kA 12 10,kK 13 1 8 10,kD 14 13,kB 5 12,kB 6 14] (kY [kA 15 6,kM 16 1 3,kA 17 5,kc 18 (kg (V.f 129) [.t 16,.t 17]),kU 19 (.bt .andNot ZW (.t 15) (.t 18)),kV 20 (.cm .neq ZW (.t 19) (.c (Z8 ZW 0)))] (.ite (.v 20) (kY [kC 4 (Z5 ZS)] .ret) .skip)))) (.reg [ke 21 10,kB 10 21]))))))) (kY [kC 4 (Z5 ZT)] .ret))
def rT:List RV:=[.t 4]
def Aw (V:aH):S:=
 kY [kd 2 (.new (V.t 128) #[kZ])] (.seq (.blk 0 (.loop (.seq (kY [kA 3 0,kL 4 3,kU 5 (.cm .gtr ZY (.t 4) (.c (Z8 ZY 0))),kF 6 5,kS 7 6 ZT 0,kS 8 6 ZT 0,kT 9 6 ZT (.m (.lenl (.t 8))),kT 10 6 ZT (.ar .sub ZY (.t 9) (.c (Z8 ZY 1))),kT 11 6 ZT (.is 1 (.t 7) (.t 10)),kT 12 6 ZT (.ld (.t 11)),kT 13 6 ZT (.cm .eql ZW (.t 12) (.c (Z8 ZW 0))),kV 14 (.pick (.t 6) (.t 13) (.c (Z5 ZS)))] (.ite (.v 14) .skip (.exit 0))) (.blk 1 (.reg [kA 15 0,kA 16 0,kL 17 16,kU 18 (.ar .sub ZY (.t 17) (.c (Z8 ZY 1))),kU 19 (.m (.sls 1 (.t 15) .none (.some (.t 18)))),kB 0 19]))))) (kY [kA 20 0,kU 21 (.m (.bld #[kZ] [(0,(1,.t 20))])),kf (.stn 1 (.v 2) (.t 21))] .ret))
def Ax:List RV:=[.cn 2 1]
def Qz (V:aH):S:=
 kY [kd 2 (.new (V.t 128) #[kZ])] (kY [kC 3 (Z8 ZY (-1))] (.seq (kY [kV 9 (.mv (.v 0)),kO 10 9,kC 11 (Z8 ZY 0)] (.blk 0 (.loop (kY [kH 12 11 10] (.seq (.ite (.v 12) .skip (.exit 0)) (.seq (.blk 1 (kY [kK 13 1 9 11,kD 14 13,kB 5 14] (kY [kA 15 5,kV 16 (.cm .leq ZY (.t 15) (.c (Z8 ZY 4095)))] (.ite (.v 16) (.reg [kA 17 3,kA 18 5,kU 19 (.m (.mx (.t 17) (.t 18))),kB 3 19]) .skip)))) (.reg [ke 20 11,kB 11 20]))))))) (.seq (kY [kA 21 3,kV 22 (.cm .lss ZY (.t 21) (.c (Z8 ZY 0)))] (.ite (.v 22) (kY [kU 23 (.m (.bld #[kZ] [])),kf (.stn 1 (.v 2) (.t 23))] .ret) .skip)) (kY [kA 24 3,kU 25 (.dv .quo ZY (.t 24) (.c (Z8 ZY 64))),kU 26 (.ar .add ZY (.t 25) (.c (Z8 ZY 1))),kc 27 (.rJ (V.t 28) 1 8 #[Z8 ZW 0] (.t 26) (.t 26)),kB 6 27] (.seq (kY [kV 28 (.mv (.v 0)),kO 29 28,kC 30 (Z8 ZY 0)] (.blk 2 (.loop (kY [kH 31 30 29] (.seq (.ite (.v 31) .skip (.exit 2)) (.seq (.blk 3 (kY [kK 32 1 28 30,kD 33 32,kB 8 33] (kY [kA 34 8,kU 35 (.cm .geq ZY (.t 34) (.c (Z8 ZY 0))),kF 36 35,kS 37 36 ZT 8,kS 38 36 ZT 3,kT 39 36 ZT (.cm .leq ZY (.t 37) (.t 38)),kV 40 (.pick (.t 36) (.t 39) (.c (Z5 ZS)))] (.ite (.v 40) (.reg [kA 41 6,kA 42 8,kU 43 (.dv .quo ZY (.t 42) (.c (Z8 ZY 64))),kI 44 1 41 43,kD 45 44,kA 46 8,kU 47 (.dv .rem ZY (.t 46) (.c (Z8 ZY 64))),kU 48 (.sh .shl ZW (.c (Z8 ZW 1)) (.t 47)),kU 49 (.bt .or ZW (.t 45) (.t 48)),kI 50 1 41 43,kf (.st (.t 50) (.t 49))]) .skip)))) (.reg [ke 51 30,kB 30 51]))))))) (kY [kA 52 6,kc 53 (kg (V.f 142) [.t 52]),kf (.stn 1 (.v 2) (.t 53))] .ret))))))
def QA:List RV:=[.cn 2 1]
def fR.cells {H:Hp} (h:fR H v W p) (hi:i<W.length):∃b o c,v=Z6 (ZV ⟨b,o,ZU⟩) W.length c/\∀j,j<W.length->cell H ⟨b,o+j,ZU⟩=ZV (Z8 ZW ((W.getD j 0).toNat:Int)):=by
 obtain⟨b,o,c,h1,-,hc⟩:=h.sl.cells (by intro e;have h:=congrArg Y8 e;rw[aI,Zx]at h;omega);rw[aI]at h1 hc;exact⟨b,o,c,h1,fun j hj=>by rw[hc j hj,dW _ _ hj]⟩
def o0 (P:Program) (k:FuncId):Prop:=∀(p q:Nat->Bool) (x y:ZR) (H:Hp),aR H x p->aR H y q->an P k #[x,y] H fun r H'=>(∃b:Bool,r=.bool b/\(b=ZT↔∀n,p n=q n))/\af (fun _=>False) H H'
def Ay (a b:UInt64):((a.toNat:Int)!=(b.toNat:Int))=!decide (a=b):=by
 by_cases h:a=b
 ·subst h;simp
 ·have:(a.toNat:Int)≠(b.toNat:Int):=fun e=>h (UInt64.toNat_inj.1 (by exact_mod_cast e));rw[decide_eq_false h,bne_iff_ne.2 this];rfl
def yK (hk:ak P k (vW V) vX 2):o0 P k:=by
 intro p q x y H hx hy;obtain⟨v,A,rfl,hv⟩:=hx;obtain⟨u,B,rfl,hu⟩:=hy;refine ah hk (args:=[_,_]) (by simp) ?_;unfold vW vX kA kB kC kD ke kG kH kI kK kL kO kR kV kY;simp only[go_sem,zS,↓reduceIte,Za,Zb,Zc,reduceCtorEq,bd];refine ax fun H1 b1 e1 z1 B1 K1=>?_;simp only[go_sem,zS,↓reduceIte,Za,Zb,Zc,reduceCtorEq,bd];refine ax fun H2 b2 e2 z2 B2 K2=>?_;have df:=K1.trans K2;have gI:=K2.bl B1 id;have hv2:=hv.ai df (by simp);have hu2:=hu.ai df (by simp);have lA:=hv.len;have lB:=hu.len;have done:∀b:Bool,(b=ZT↔A=B)->(∃b':Bool,Value.bool b=.bool b'/\(b'=ZT↔∀n,p n=q n))/\af (fun _=>False) H H2:=fun b hb=>by
  refine⟨⟨b,rfl,hb.trans ⟨fun e n=>?_,fun e=>?_⟩⟩,df⟩
  ·subst e;rw[<-hv.is,<-hu.is]
  ·exact hv.can.ext hu.can fun n=>by rw[hv.is,hu.is,e]
 simp only[go_sem,zS,↓reduceIte,Za,Zb,Zc,reduceCtorEq,ae,gI.cell,B2.cell,hv2.sl.aq,hu2.sl.aq,hv2.sl.len,hu2.sl.len,aI]
 by_cases hl:A.length=B.length
 ·have e0:(((A.length:Nat):Int)!=((B.length:Nat):Int))=ZS:=by rw[hl];simp
  simp only[go_sem,zS,↓reduceIte,Za,Zb,Zc,reduceCtorEq,ae,e0];refine aT [18,5,6,28,4,17] rfl (fun n f H'=>∃i,i<=A.length/\n=A.length -i/\f 17=Z8 ZY i/\(∀j,j<i->A.getD j 0=B.getD j 0)/\H'=H2) A.length
   ⟨0,by omega,by omega,rfl,fun j hj=>by omega,rfl⟩ ?_
  rintro n g H' ⟨i,hi,rfl,hf,hx,rfl⟩;simp only[go_sem,zS,↓reduceIte,Za,Zb,Zc,reduceCtorEq,ae]at hf;simp only[go_sem,zS,↓reduceIte,Za,Zb,Zc,reduceCtorEq,ae,hf];refine aN (fun hlt=>?_) (fun ki=>?_)
  ·have hlt:i<A.length:=by omega
   obtain⟨b,o,c,rfl,hc⟩:=hv2.cells hlt;obtain⟨b',o',c',rfl,pB⟩:=hu2.cells (i:=i) (by omega);simp only[go_sem,zS,↓reduceIte,Za,Zb,Zc,reduceCtorEq,ae,B2.cell,al,Zs,hc i hlt,pB i (by omega),Ay];refine⟨by omega,by omega,?_⟩
   by_cases e:A.getD i 0=B.getD i 0
   ·rw[decide_eq_true e];simp(disch:=omega)only[go_sem,zS,↓reduceIte,Za,Zb,Zc,reduceCtorEq,ae,hf,ZN];refine⟨A.length -(i+1),by omega,i+1,by omega,rfl,by simp,fun j hj=>?_⟩
    by_cases e2:j=i
    ·subst e2;exact e
    ·exact hx j (by omega)
   ·rw[decide_eq_false e];simp only[go_sem,zS,↓reduceIte,Za,Zb,Zc,reduceCtorEq,ae];exact done ZS ⟨fun h=>(by cases h),fun h=>absurd (by rw[h]) e⟩
  ·have:i=A.length:=by omega
   subst this;refine done ZT ⟨fun _=>?_,fun _=>rfl⟩;apply List.ext_getElem hl;intro j h1 h2;have:=hx j h1;simpa[ZP,h1,h2]using this
 ·have e0:(((A.length:Nat):Int)!=((B.length:Nat):Int))=ZT:=by
   simp only[bne_iff_ne,ne_eq];omega
  simp only[go_sem,zS,↓reduceIte,Za,Zb,Zc,reduceCtorEq,ae,e0];exact done ZS ⟨fun h=>(by cases h),fun h=>absurd (by rw[h]) hl⟩
def EH (x y:UInt64):bits .andNot ZW (x.toNat:Int) (y.toNat:Int)=((x&&&~~~y).toNat:Int):=by
 show IntKind.u64.wrap ((BitVec.ofInt 64 (x.toNat:Int)&&&~~~BitVec.ofInt 64 (y.toNat:Int)).toNat:Int)=_
 rw[bitsOf,bitsOf];exact Ad (x&&&~~~y)
def Ns (x y:UInt64) (k:Nat) (hk:k<64):bt (x&&&~~~y) k=(bt x k&&!bt y k):=by
 unfold bt;rw[UInt64.toNat_and,Nat.testBit_and,UInt64.toNat_not]
 congr 1
 have:VJ -1 -y.toNat=2^64 -(y.toNat+1):=by
  have:VJ=2^64:=rfl;rw[this];omega
 rw[this,Nat.testBit_two_pow_sub_succ y.toNat_lt];simp[hk]
def jh (P:Program) (k:FuncId):Prop:=∀(p q:Nat->Bool) (x y:ZR) (H:Hp),aR H x p->aR H y q->an P k #[x,y] H fun r H'=>(∃b:Bool,r=.bool b/\(b=ZT↔∀n,p n=ZT->q n=ZT))/\af (fun _=>False) H H'
def GI (hk:ak P k (rS V) rT 2) (hw:mB P (V.f 129)):jh P k:=by
 intro p q x y H hx hy;obtain⟨v,A,rfl,hv⟩:=hx;obtain⟨u,B,rfl,hu⟩:=hy;refine ah hk (args:=[_,_]) (by simp) ?_;unfold rS rT kA kB kC kD ke kG kH kK kM kO kR kU kV kc kg kY;simp only[go_sem,zS,↓reduceIte,Za,Zb,Zc,reduceCtorEq,bd];refine ax fun H1 b1 e1 z1 B1 K1=>?_;simp only[go_sem,zS,↓reduceIte,Za,Zb,Zc,reduceCtorEq,bd];refine ax fun H2 b2 e2 z2 B2 K2=>?_;have df:=K1.trans K2;have gI:=K2.bl B1 id;have hv2:=hv.ai df (by simp);have hu2:=hu.ai df (by simp);have lA:=hv.len;have lB:=hu.len;simp only[go_sem,zS,↓reduceIte,Za,Zb,Zc,reduceCtorEq,ae,gI.cell,B2.cell,hv2.sl.aq,hv2.sl.len,aI];refine aT [11,5,6,20,4,10] rfl (fun n f H'=>∃i,i<=A.length/\n=A.length -i/\f 10=Z8 ZY i/\(∀m,m<64*i->p m=ZT->q m=ZT)/\af (fun _=>False) H2 H') A.length
  ⟨0,by omega,by omega,rfl,fun j hj=>by omega,af.refl _ _⟩ ?_
 rintro n g H3 ⟨i,hi,rfl,hf,hx,K3⟩;simp only[go_sem,zS,↓reduceIte,Za,Zb,Zc,reduceCtorEq,ae]at hf;simp only[go_sem,zS,↓reduceIte,Za,Zb,Zc,reduceCtorEq,ae,hf];refine aN (fun hlt=>?_) (fun ki=>?_)
 ·have hlt:i<A.length:=by omega
  have hv3:=hv2.ai K3 (by simp);have hu3:=hu2.ai K3 (by simp);have tR:=K3.bl B2 id;obtain⟨b,o,c,rfl,hc⟩:=hv3.cells hlt;simp only[go_sem,zS,↓reduceIte,Za,Zb,Zc,reduceCtorEq,ae,tR.aL 1 rfl,bd,al,Zs,hc i hlt];refine⟨by omega,?_⟩;refine(hw B u i H3 hu3.sl hu3.len (by omega)).mono ?_;rintro r H4 ⟨rfl,K4⟩;have K34:=K3.trans K4;have hne:=Ay (A.getD i 0&&&~~~B.getD i 0) 0;have z0:(((0:UInt64).toNat:Nat):Int)=0:=rfl;rw[z0]at hne;simp only[go_sem,zS,↓reduceIte,Za,Zb,Zc,reduceCtorEq,ae,EH,hne];have hb:∀b,b<64->bt (A.getD i 0&&&~~~B.getD i 0) b=(p (64*i+b)&&!q (64*i+b)):=fun b hb=>by
   rw[Ns _ _ _ hb,<-hv.is,<-hu.is,gV _ _ _ hb,gV _ _ _ hb]
  by_cases e:A.getD i 0&&&~~~B.getD i 0=0
  ·rw[decide_eq_true e];simp(disch:=omega)only[go_sem,zS,↓reduceIte,Za,Zb,Zc,reduceCtorEq,ae,hf,ZN];refine⟨A.length -(i+1),by omega,i+1,by omega,rfl,by simp,fun m hm hp=>?_,K34⟩
   by_cases e2:m<64*i
   ·exact hx m e2 hp
   ·have:=hb (m -64*i) (by omega);rw[e,eF,show 64*i+(m -64*i)=m by omega,hp]at this
    cases hq:q m with
    |true=>rfl
    |false=>rw[hq]at this;simp at this
  ·rw[decide_eq_false e];obtain⟨l1,l2,_⟩:=ij e;rw[hb _ l1]at l2;simp only[ZJ,Bool.not_eq_true']at l2;simp only[go_sem,zS,↓reduceIte,Za,Zb,Zc,reduceCtorEq,ae];refine⟨⟨ZS,rfl,fun h=>(by cases h),fun h=>?_⟩,df.trans K34⟩;rw[h _ l2.1]at l2;exact absurd l2.2 (by simp)
 ·have:i=A.length:=by omega
  subst this;exact⟨⟨ZT,rfl,fun _ n hn=>hx n (hv.lt hn) hn,fun _=>rfl⟩,df.trans K3⟩
def GJ (W:List UInt64) (k:Nat) (hk:k<W.length) (n:Nat) (h:W.getD k 0=0):cC (W.take (k+1)) n=cC (W.take k) n:=by
 unfold cC;rw[ZP,ZP,YZ,YZ]
 by_cases e:n/64<k
 ·rw[if_pos (by omega),if_pos e]
 ·rw[if_neg e]
  by_cases e2:n/64=k
  ·rw[if_pos (by omega),e2];rw[ZP]at h;rw[h];rfl
  ·rw[if_neg (by omega)]
def EI (P:Program) (k:FuncId):Prop:=∀(p:Nat->Bool) (W:List UInt64) (v:ZR) (H:Hp),aP H v (cj W)->W.length<=64->(∀n,cC W n=p n)->an P k #[v] H fun r H'=>aR H' r p/\af (fun _=>False) H H'/\∀k,jG r k->aV v k
def QB (hk:ak P k (Aw V) Ax 1):EI P k:=by
 intro p W v H hv hW hp;obtain⟨R,hR⟩:∃R:ZR->Hp->Prop,R=fun r H'=>aR H' r p/\af (fun _=>False) H H'/\∀k,jG r k->aV v k:=⟨_,rfl⟩
 rw[<-hR];refine ah hk (args:=[_]) (by simp) ?_;unfold Aw Ax kA kB kF kL kS kT kU kV kd kf kY kZ;simp only[go_sem,zS,↓reduceIte,Za,Zb,Zc,reduceCtorEq];refine ax fun H1 b1 e1 z1 B1 K1=>?_;have hv1:=hv.ai K1 (by simp);simp only[go_sem,zS,↓reduceIte,Za,Zb,Zc,reduceCtorEq,ae];refine aT [14,0] rfl (fun n f H'=>∃u,n<=W.length/\f 0=u/\aP H1 u (cj (W.take n))/\(∀k,aV u k->aV v k)/\(∀m,cC (W.take n) m=p m)/\H'=H1) W.length
  ⟨v,by omega,by simp only[go_sem,zS,↓reduceIte,Za,Zb,Zc,reduceCtorEq,ae],by rw[ZI];exact hv1,fun k h=>h,fun m=>by rw[ZI];exact hp m,rfl⟩ ?_
 rintro n g H' ⟨u,hn,hf,hu,hb,hm,rfl⟩;simp only[go_sem,zS,↓reduceIte,Za,Zb,Zc,reduceCtorEq,ae]at hf;have hlen:(W.take n).length=n:=by rw[Zr];omega
 have hul:=hu.len;rw[aI,hlen]at hul;have fin:Can (W.take n)->∀H2,H2.size=H'.size->af (fun k=>k=b1) H' H2->R (Z0 #[u]) H2:=by
  intro EJ H2 z2 K2;rw[hR];exact⟨⟨u,W.take n,rfl,hu.ai K2 (fun k h e=>by
   have:=hv.bo (hb k h);omega),by omega,EJ,hm⟩,K1.dk K2 (by omega),fun k h=>hb k h⟩
 cases n with
 |zero=>
  have e0:ZQ (((0:Nat):Int)>0)=ZS:=rfl;obtain⟨au,cu,rfl,hcu⟩:=hu.mk;rw[aI,hlen]at hu hb fin hf;simp only[go_sem,zS,↓reduceIte,Za,Zb,Zc,reduceCtorEq,ae,hf,e0,zF];exact⟨by decide,ur B1 hu.one fun H2 z2 K2=>fin (fun h=>absurd rfl h) H2 z2 K2⟩
 |succ m=>
  have e0:ZQ (((m+1:Nat):Int)>0)=ZT:=decide_eq_true (by omega);obtain⟨b,o,c,rfl,akp,hc⟩:=hu.cells (by intro e;have h:=congrArg Y8 e;rw[aI,Zx]at h;omega);rw[aI,hlen]at hc hu hb fin akp;have hcm:=hc m (by omega);rw[dW _ _ (by omega)]at hcm;have hWm:(W.take (m+1)).getD m 0=W.getD m 0:=by
   rw[ZP,ZP,YZ,if_pos (by omega)]
  rw[hWm]at hcm;have w1:IntKind.i64.wrap (((m+1:Nat):Int) -1)=(m:Int):=by rw[show((m+1:Nat):Int) -1=(m:Int) by omega];exact ZN _ ⟨by omega,by omega⟩
  have heq:(((W.getD m 0).toNat:Int)==0)=ZQ (W.getD m 0=0):=by
   have:=Ay (W.getD m 0) 0;have z0:(((0:UInt64).toNat:Nat):Int)=0:=rfl;rw[z0]at this;simp only[bne]at this
   cases h1:(((W.getD m 0).toNat:Int)==0)<;>cases h2:ZQ (W.getD m 0=0)<;>simp_all
  have hc0:c≠0:=by omega
  rw[aI,hlen]at hf;simp only[go_sem,zS,↓reduceIte,Za,Zb,Zc,reduceCtorEq,ae,hf,e0,w1,al,Zs,hcm,heq];refine⟨by omega,?_⟩
  by_cases hz:W.getD m 0=0
  ·rw[decide_eq_true hz];simp only[go_sem,zS,↓reduceIte,Za,Zb,Zc,reduceCtorEq,ae,w1,al,Nat.zero_mul];refine⟨by omega,m,by omega,_,by omega,rfl,?_,?_,fun n=>?_⟩
   ·have:=hu.take (n:=m) (by rw[aI,hlen];omega);rw[mA,List.take_take,show min m (m+1)=m by omega]at this;simpa[xW,pz,DM,hc0,fQ]using this
   ·intro k hk;apply hb k;refine PU (z:=1) (n:=m) (by show m<=m+1;omega) ?_;simpa[xW,pz,DM,hc0,fQ]using hk
   ·rw[<-hm,GJ W m (by omega) n hz]
  ·rw[decide_eq_false hz];simp only[go_sem,zS,↓reduceIte,Za,Zb,Zc,reduceCtorEq,ae,zF];refine⟨by decide,ur B1 ?_ fun H2 z2 K2=>?_⟩
   ·intro y hy;simp at hy;subst hy;rfl
   ·refine fin ?_ H2 z2 K2;intro h h0;apply hz;rw[List.getLast_eq_getElem]at h0;have tN:(W.take (m+1)).length -1=m:=by omega
    simp only[tN]at h0;rw[<-hWm,ZP,ZO (by omega)];exact h0
def QC (W:List UInt64) (m:Nat) (hm:m/64<W.length) (n:Nat):cC (W.set (m/64) (Gk (W.getD (m/64) 0) (m % 64))) n=(cC W n||ZQ (n=m)):=by
 rw[vQ _ _ hm]
 by_cases e:n/64=m/64
 ·rw[if_pos e,zZ _ (by omega)];have e1:cC W n=bt (W.getD (m/64) 0) (n % 64):=by unfold cC;rw[e]
  rw[e1]
  congr 1
  by_cases h:n % 64=m % 64
  ·have:n=m:=by omega
   simp[h,this]
  ·have:n≠m:=fun h'=>h (by rw[h']);simp[h,this]
 ·rw[if_neg e];have:n≠m:=fun h=>e (by rw[h]);simp[this]
def Po (l:List Int) (n:Nat):Bool:=ZQ ((n:Int)∈l)&&ZQ (n<4096)
def uN (P:Program) (k:FuncId):Prop:=∀(l:List Int) (v:ZR) (H:Hp),aP H v (iL l)->l.length<=1000000->an P k #[v] H fun r H'=>aR H' r (Po l)/\af (fun _=>False) H H'/\∀k,jG r k->H.size<=k
def gg {l:List Int} (hi:i<l.length) (x:Int):x∈l.take (i+1)↔x∈l.take i\/x=l.getD i 0:=by
 rw[Zw hi,List.mem_append,List.mem_singleton,ZP,ZO hi]
 rfl
def afE (hk:ak P k (Qz V) QA 1) (htr:EI P (V.f 142)):uN P k:=by
 intro l v H hv hl;obtain⟨R,hR⟩:∃R:ZR->Hp->Prop,R=fun r H'=>aR H' r (Po l)/\af (fun _=>False) H H'/\∀k,jG r k->H.size<=k:=⟨_,rfl⟩
 rw[<-hR];refine ah hk (args:=[_]) (by simp) ?_;unfold Qz QA kA kB kF kC kD ke kH kI kK kO kS kT kU kV kc kd kf kg kY kZ;simp only[go_sem,zS,↓reduceIte,Za,Zb,Zc,reduceCtorEq];refine ax fun H1 b1 e1 z1 B1 K1=>?_;have hv1:=hv.ai K1 (by simp);simp only[go_sem,zS,↓reduceIte,Za,Zb,Zc,reduceCtorEq,ae,hv1.aq,hv1.len,aA];refine aT [12,5,16,3,11] rfl (fun n f H'=>∃(i:Nat) (t:Int),i<=l.length/\n=l.length -i/\f 11=Z8 ZY i/\f 3=Z8 ZY t/\-1<=t/\t<=4095/\(∀x∈l.take i,x<=4095->x<=t)/\H'=H1) l.length
  ⟨0,-1,by omega,by omega,by simp only[go_sem,zS,↓reduceIte,Za,Zb,Zc,reduceCtorEq,ae];rfl,by simp only[go_sem,zS,↓reduceIte,Za,Zb,Zc,reduceCtorEq,ae],by omega,by omega,fun x h=>by simp at h,rfl⟩ ?_
 rintro n g H' ⟨i,t,hi,rfl,QD,uL,ht0,ht1,hx,rfl⟩;simp only[go_sem,zS,↓reduceIte,Za,Zb,Zc,reduceCtorEq,ae]at QD uL;simp only[go_sem,zS,↓reduceIte,Za,Zb,Zc,reduceCtorEq,ae,QD];refine aN (fun hlt=>?_) (fun ki=>?_)
 ·have hlt:i<l.length:=by omega
  obtain⟨b,o,c,rfl,-,hc⟩:=hv1.cells (by intro e;have h:=congrArg Y8 e;rw[aA,Zx]at h;omega);rw[aA]at hc;have hci:=hc i hlt;rw[dM _ _ hlt]at hci;simp only[go_sem,zS,↓reduceIte,Za,Zb,Zc,reduceCtorEq,ae,QD,uL,aA,al,Zs,hci];refine⟨by omega,?_⟩;generalize hxi:l.getD i 0=x at*;refine aN (fun h4=>?_) (fun h4=>?_)
  ·simp(disch:=omega)only[go_sem,zS,↓reduceIte,Za,Zb,Zc,reduceCtorEq,ae,QD,uL,ZN];refine⟨l.length -(i+1),by omega,i+1,_,by omega,rfl,by simp,rfl,?_,?_,fun y hy h=>?_⟩
   ·split<;>omega
   ·split<;>omega
   ·rcases(gg hlt y).1 hy with h1|h1
    ·have:=hx y h1 h
     split<;>omega
    ·rw[hxi]at h1
     split<;>omega
  ·simp(disch:=omega)only[go_sem,zS,↓reduceIte,Za,Zb,Zc,reduceCtorEq,ae,QD,uL,ZN];refine⟨l.length -(i+1),by omega,i+1,_,by omega,rfl,by simp,rfl,ht0,ht1,fun y hy h=>?_⟩;rcases(gg hlt y).1 hy with h1|h1
   ·exact hx y h1 h
   ·rw[hxi]at h1;omega
 ·have UE:i=l.length:=by omega
  subst UE;rw[ZI]at hx;simp only[go_sem,zS,↓reduceIte,Za,Zb,Zc,reduceCtorEq,ae,uL];refine aN (fun h4=>?_) (fun h4=>?_)
  ·simp only[go_sem,zS,↓reduceIte,Za,Zb,Zc,reduceCtorEq,ae,zF];refine ur B1 ?_ fun H2 z2 K2=>?_
   ·intro y hy;simp at hy;subst hy;rfl
   ·rw[hR];refine⟨(aR.empty H2 _ _).congr fun n=>?_,K1.dk K2 (by omega),fun k h=>h.elim⟩;unfold Po
    by_cases e:(n:Int)∈l
    ·have:=hx n e;have:¬n<4096:=by omega
     simp[this]
    ·simp[e]
  ·obtain⟨m,rfl⟩:=Xh (Int.not_lt.1 h4);have hm:m<4096:=by omega
   have wq:IntKind.i64.wrap (((m/64:Nat):Int)+1)=((m/64+1:Nat):Int):=ZN _ ⟨by omega,by omega⟩;simp only[go_sem,zS,↓reduceIte,Za,Zb,Zc,reduceCtorEq,vP m hm,wq,al];generalize hM:m/64+1=M at*;refine⟨by decide,⟨by omega,by omega,by unfold maxLen;omega⟩,?_⟩;obtain⟨b2,e2⟩:∃b2,b2=H'.size:=⟨_,rfl⟩
   have K2:=(af.refl (fun _=>False) H').push (Obj.cells (rep #[Value.int ZW 0] M) (V.t 28));have B2:=Bl.dh H' (rep #[Value.int ZW 0] M) (V.t 28);have z2:(H'.push (Obj.cells (rep #[Value.int ZW 0] M) (V.t 28))).size=H'.size+1:=by simp
   rw[<-e2]at B2⊢;generalize H'.push (Obj.cells (rep #[Value.int ZW 0] M) (V.t 28))=H2 at K2 B2 z2⊢;have s1:=K1.size;have s2:=K2.size;have B2:Bl H2 b2 (cj (ZM M 0)):=by
    have:=B2;rw[dx,qf]at this;exact this
   have gI:=K2.bl B1 id;have hv2:=hv1.ai K2 (by simp);simp only[go_sem,zS,↓reduceIte,Za,Zb,Zc,reduceCtorEq,ae,hv2.aq,hv2.len,aA];refine aT [31,8,40,30] rfl (fun n f H'=>∃(i:Nat) (W:List UInt64),i<=l.length/\n=l.length -i/\f 30=Z8 ZY i/\W.length=M/\Bl H' b2 (cj W)/\(∀n:Nat,cC W n=(ZQ ((n:Int)∈l.take i)&&ZQ (n<=m)))/\af (fun k=>k=b2) H2 H') l.length
    ⟨0,ZM M 0,by omega,by omega,by simp only[go_sem,zS,↓reduceIte,Za,Zb,Zc,reduceCtorEq,ae];rfl,by simp,B2,fun n=>by have:=vR [] M n;rw[List.nil_append]at this;rw[this,fZ (by simp)];simp,af.refl _ _⟩ ?_
   rintro n g2 H3 ⟨i,W,hi,rfl,hf,hW,B3,hmb,K3⟩;simp only[go_sem,zS,↓reduceIte,Za,Zb,Zc,reduceCtorEq,ae]at hf;simp only[go_sem,zS,↓reduceIte,Za,Zb,Zc,reduceCtorEq,ae,hf];refine aN (fun hlt=>?_) (fun ki=>?_)
   ·have hlt:i<l.length:=by omega
    have hv3:=hv.ai ((K1.trans K2).dk K3 (by omega)) (by simp);obtain⟨b,o,c,rfl,-,hc⟩:=hv3.cells (by intro e;have h:=congrArg Y8 e;rw[aA,Zx]at h;omega);rw[aA]at hc;have hci:=hc i hlt;rw[dM _ _ hlt]at hci;have hlast:∀H4 W',W'.length=M->Bl H4 b2 (cj W')->(∀n:Nat,cC W' n=(ZQ ((n:Int)∈l.take (i+1))&&ZQ (n<=m)))->af (fun k=>k=b2) H3 H4→
      ∃n',n'<l.length -i/\∃(i':Nat) (W:List UInt64),i'<=l.length/\n'=l.length -i'/\(i+1:Nat)=i'/\W.length=M/\Bl H4 b2 (cj W)/\(∀n:Nat,cC W n=(ZQ ((n:Int)∈l.take i')&&ZQ (n<=m)))/\af (fun k=>k=b2) H2 H4:=fun H4 W' h1 h2 h3 h4=>
     ⟨_,by omega,i+1,W',by omega,rfl,rfl,h1,h2,h3,K3.trans h4⟩
    by_cases hin:(0:Int)<=l.getD i 0/\l.getD i 0<=(m:Int)
    ·obtain⟨h0,h1⟩:=hin;obtain⟨q,hq⟩:=Xh h0;have hq4:q<4096:=by omega
     have hqm:((q:Nat):Int)<=(m:Int):=by omega
     have hqn:(0:Int)<=((q:Nat):Int):=by omega
     have hqM:q/64<M:=by omega
     rw[hq]at hci;have hc5:cell H3 ⟨b2,q/64,ZU⟩=ZV (Z8 ZW ((W.getD (q/64) 0).toNat:Int)):=by rw[B3.cell,dW _ _ (by omega)]
     have hst:=B3.bw (o:=q/64) (by rw[aI];omega);simp only[go_sem,zS,↓reduceIte,Za,Zb,Zc,reduceCtorEq,ae,hf,uL,aA,al,Zs,hci,ge_iff_le,hqn,hqm,vP q hq4,Gy,hc5,Gz _ (q % 64) (by omega:q % 64<64),hst];refine⟨by omega,by decide,by omega,by decide,by omega,by omega,?_⟩;have B6:=B3.az (q/64) (Z8 ZW ((Gk (W.getD (q/64) 0) (q % 64)).toNat:Int));rw[nB _ _ (by omega)]at B6;have K6:af (fun k=>k=b2) H3 (az H3 ⟨b2,q/64,ZU⟩ (Z8 ZW ((Gk (W.getD (q/64) 0) (q % 64)).toNat:Int))):=(af.refl _ _).az _ (.inl rfl);generalize az H3 ⟨b2,q/64,ZU⟩ (Z8 ZW ((Gk (W.getD (q/64) 0) (q % 64)).toNat:Int))=H6 at B6 K6⊢;simp(disch:=omega)only[go_sem,zS,↓reduceIte,Za,Zb,Zc,reduceCtorEq,ae,hf,ZN];obtain⟨n',a1,i',W',a2,a3,a4,a5,a6,a7,a8⟩:=hlast H6 _ (by simp[hW]) B6 (fun n=>by
      rw[QC _ _ (by omega),hmb];have e1:=gg hlt (n:Int);rw[hq]at e1
      by_cases h1:(n:Int)∈l.take i
      ·have h2:=e1.2 (.inl h1)
       by_cases h3:n<=m
       ·simp[h1,h2,h3]
       ·have:n≠q:=by omega
        simp[h1,h2,h3,this]
      ·by_cases h4:n=q
       ·subst h4;have h2:=e1.2 (.inr rfl);have h3:n<=m:=by omega
        simp[h2,h3]
       ·have h2:¬(n:Int)∈l.take (i+1):=fun h=>by
         rcases e1.1 h with h|h
         ·exact h1 h
         ·omega
        simp[h1,h2,h4]) K6
     exact⟨n',a1,i',W',a2,a3,by rw[<-a4];simp,a5,a6,a7,a8⟩
    ·have hb0:∀n:Nat,(ZQ ((n:Int)∈l.take (i+1))&&ZQ (n<=m))=(ZQ ((n:Int)∈l.take i)&&ZQ (n<=m)):=fun n=>by
      have e1:=gg hlt (n:Int)
      by_cases h3:n<=m
      ·have:(n:Int)≠l.getD i 0:=fun h=>hin ⟨by omega,by omega⟩;have e2:(n:Int)∈l.take (i+1)↔(n:Int)∈l.take i:=e1.trans ⟨fun h=>h.resolve_right this,.inl⟩;rw[decide_eq_decide.2 e2]
      ·simp[h3]
     obtain⟨n',a1,i',W',a2,a3,a4,a5,a6,a7,a8⟩:=hlast H3 W hW B3 (fun n=>by rw[hb0,hmb]) (af.refl _ _);simp only[go_sem,zS,↓reduceIte,Za,Zb,Zc,reduceCtorEq,ae,hf,uL,aA,al,Zs,hci]
     by_cases h0:l.getD i 0≥0
     ·have h1:¬l.getD i 0<=(m:Int):=fun h=>hin ⟨h0,h⟩;simp(disch:=omega)only[go_sem,zS,↓reduceIte,Za,Zb,Zc,reduceCtorEq,ae,hf,uL,h0,h1,ZN];exact⟨by omega,n',a1,i',W',a2,a3,by rw[<-a4];simp,a5,a6,a7,a8⟩
     ·simp(disch:=omega)only[go_sem,zS,↓reduceIte,Za,Zb,Zc,reduceCtorEq,ae,hf,uL,h0,ZN];exact⟨by omega,n',a1,i',W',a2,a3,by rw[<-a4];simp,a5,a6,a7,a8⟩
   ·have UE:i=l.length:=by omega
    subst UE;rw[ZI]at hmb;have hs:=aP.bl B3 0 M M (Nat.le_refl _) (by rw[aI];omega);rw[List.drop_zero,mA,List.take_of_length_le (by omega)]at hs;have akq:∀n,cC W n=Po l n:=fun n=>by
     rw[hmb];unfold Po
     by_cases e:(n:Int)∈l
     ·have:=hx n e
      by_cases h3:n<=m
      ·have:n<4096:=by omega
       simp[h3,this]
      ·have:¬n<4096:=by omega
       simp[h3,this]
     ·simp[e]
    refine(htr (Po l) W _ H3 hs (by omega) akq).mono ?_;rintro r H4 ⟨hr,K4,hb4⟩;have yk:Bl H4 b1 [Z6 ZU 0 0]:=K4.bl (K3.bl gI (by omega)) (by simp);obtain⟨rv,rW,rfl,hrv⟩:=hr;simp only[go_sem,zS,↓reduceIte,Za,Zb,Zc,reduceCtorEq,ae,zF];refine ur yk hrv.sl.one fun H5 z5 K5=>?_;have s4:=K4.size;have s3:=K3.size;have hbb:∀k,aV rv k->H2.size<=k+1/\k≠b1:=fun k h=>by
     have:=hb4 k h;have:k=b2:=this.1;omega
    rw[hR];refine⟨⟨rv,rW,rfl,hrv.ai K5 (fun k h e=>(hbb k h).2 e)⟩,(((K1.trans K2).dk K3 (by omega)).trans K4).dk K5 (by omega),fun k h=>?_⟩;have:=hbb k h;omega
end Go.Mg

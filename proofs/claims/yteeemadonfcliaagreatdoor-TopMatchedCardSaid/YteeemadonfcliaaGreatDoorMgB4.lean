/- Lemmas of ours. No conditions. -/
import Derived.Test.YteeemadonfcliaaGreatDoorMgB2
import Derived.Test.YteeemadonfcliaaGreatDoorMgRf4
open Nat renaming reduceEqDiff→Za,reduceAdd→Zb,reduceMul→Zc
set_option linter.all false
set_option maxRecDepth 100000
namespace Go.Mg
open Go Go.RowKit
def yD (ι:aJ):S:=
 kY [kR 1 (ι.t 128) 0,kV 2 (.mv (.c .nilFunc))] (kY [kU 3 (.m (.mkf (ι.f 136) [] [.v 1])),kB 2 3] .ret)
def yE:List RV:=[.t 2]
def jl (ι:aJ):S:=
 kY [kG 5 0 1,kV 6 (.ld (.t 5)),kO 7 6,kC 8 (.int .i64 0)] (.blk 0 (.loop (kY [kH 9 8 7] (.seq (.ite (.v 9) .skip (.exit 0)) (.seq (.blk 1 (kY [kA 10 8,kK 11 1 6 8,kD 12 11,kB 3 10,kB 4 12] (.blk 2 (.loop (.seq (kY [kA 13 4,kV 14 (.cm .neq .u64 (.t 13) (.c (.int .u64 0)))] (.ite (.v 14) .skip (.exit 2))) (.seq (.blk 3 (kY [kA 19 0,kA 20 3,kU 21 (.ar .mul .i64 (.c (.int .i64 64)) (.t 20)),kA 22 4,kc 23 (kg (ι.f 126) [.t 22]),kU 24 (.ar .add .i64 (.t 21) (.t 23)),kc 25 (.cally (.t 19) [.t 24]),kV 26 (.not (.t 25))] (.ite (.v 26) .ret .skip))) (.reg [kA 15 4,kA 16 4,kU 17 (.ar .sub .u64 (.t 16) (.c (.int .u64 1))),kU 18 (.bt .and .u64 (.t 15) (.t 17)),kB 4 18]))))))) (.reg [ke 27 8,kB 8 27]))))))
def jm:List RV:=[]
def tD (ι:aJ):S:=
 kY [kR 1 (ι.t 128) 0,kC 2 (kZ)] (kY [kM 5 1 1,kc 6 (kg (ι.f 135) [.t 5]),kc 7 (.nq (ι.t 26) 1 8 #[.int .i64 0] (.c (.int .i64 0)) (.t 6)),kd 3 (.new (ι.t 138) #[kZ]),kf (.st (.v 3) (.t 7))] (.seq (kY [kM 8 1 1,kd 9 (kg (ι.f 137) [.t 8])] (.blk 0 (.rf 16 (.v 9) 10 4 (.blk 1 (.reg [kU 11 (.ld (.v 3)),kA 12 4,kc 13 (.cj (ι.t 26) 1 1 [.t 12]),kc 14 (.app false (ι.t 26) 1 8 #[.int .i64 0] (.t 11) (.t 13)),kf (.st (.v 3) (.t 14))]))))) (kY [kU 15 (.ld (.v 3)),kB 2 15] .ret)))
def tE:List RV:=[.t 2]
def W7 (k b:Nat):Value:=.func (.func k) #[] #[.pointer (some ⟨b,0,none⟩)]
def gB (P:Program) (k k1:FuncId):Prop:=∀(v:Value) (H:Hp),an P k #[.agg #[v]] H fun r H'=>r=W7 k1 H.size/\Bl H' H.size [v]/\af (fun _=>False) H H'/\H'.size=H.size+1
variable {P:Program} {ι:aJ} {k:FuncId} {p:Nat->Bool} {n:Nat}
theorem Bu (hk:aq P k (yD ι) yE 1):gB P k (ι.f 136):=by
 intro v H;refine ah hk (args:=[_]) (by simp) ?_;unfold yD yE kB kR kU kV kY;simp only[go_sem,zS,↓reduceIte,Za,Zb,Zc,reduceCtorEq,aN];refine ay fun H1 b1 e1 z1 B1 K1=>?_;subst e1;simp only[go_sem,zS,↓reduceIte,Za,Zb,Zc,reduceCtorEq,ae];exact⟨rfl,B1,K1,z1⟩
def cf (p:Nat->Bool):List Value:=(aD p).map fun n:Nat=>Value.int .i64 (n:Int)
theorem o7 (p:Nat->Bool):(cf p).length=cn 4096 p:=by simp[cf,bR]
theorem FB (h:n<4096) (hp:p n=true):(cf p).getD (cn n p) undef=.int .i64 (n:Int):=by
 have:=oN p 4096 n h hp;unfold cf aD;rw[List.getD_eq_getElem?_getD,List.getElem?_map,this];rfl
theorem Sj {N:Nat} (h:n<N) (hp:p n=true):cn n p<cn N p:=by
 have h1:cn (n+1) p=cn n p+1:=by rw[aX,if_pos hp]
 have h2:cn (n+1) p<=cn N p:=by
  obtain⟨d,rfl⟩:∃d,N=n+1+d:=⟨N -(n+1),by omega⟩
  rw[oM (n+1) d];omega
 omega
theorem CU (x y:UInt64):bits .and .u64 (x.toNat:Int) (IntKind.u64.wrap ((y.toNat:Int) -1))=((x&&&(y -1)).toNat:Int):=by
 have:IntKind.u64.wrap ((y.toNat:Int) -1)=((y -1).toNat:Int):=by
  have:=y.toNat_lt;rw[IntKind.wrap_u64,UInt64.toNat_sub];have e:(1:UInt64).toNat=1:=rfl;rw[e];omega
 rw[this];exact oL _ _
theorem o9 (hk:lu P k (jl ι) jm 2) (ht:mc P ι (ι.f 126)) {v:Value} {W:List UInt64} {b:Nat}:
  AJ P k #[.pointer (some ⟨b,0,none⟩)] (cf p) (fun H=>br ι H/\Bl H b [v]/\eH H v W p):=by
 intro l J K hY hG H h0 w hw;have main:an P k #[.func (.yield l) #[] #[],.pointer (some ⟨b,0,none⟩)] H fun r H'=>J (cf p).length H'\/K H':=by
  refine tC hk (args:=[_,_]) (by simp) ?_;unfold jl jm kA kB kC kD ke kG kH kK kO kU kV kc kg kY;obtain⟨_,B0,V0⟩:=hG 0 H h0;have hlen:=V0.len;simp only[go_sem,zS,↓reduceIte,Za,Zb,Zc,reduceCtorEq,ae,B0.cell,V0.sl.ax,V0.sl.len,aH];have ek:(cf p).length=cn (64*W.length) p:=by rw[o7,V0.count,bR]
  refine aL [9,3,4,14,26,8] rfl (fun n f H'=>∃i,i<=W.length/\n=W.length -i/\f 8=.int .i64 i/\J (cn (64*i) p) H') W.length
   ⟨0,by omega,by omega,rfl,h0⟩ ?_
  rintro n g H1 ⟨i,hi,rfl,tF,hJ⟩;simp only[go_sem,zS,↓reduceIte,Za,Zb,Zc,reduceCtorEq,ae]at tF;simp only[go_sem,zS,↓reduceIte,Za,Zb,Zc,reduceCtorEq,ae,tF];refine aC (fun hlt=>?_) (fun gx=>?_)
  ·have hlt:i<W.length:=by omega
   obtain⟨_,_,V1⟩:=hG _ _ hJ;obtain⟨bb,o,c,rfl,-,hc⟩:=V1.sl.cells (by intro e;have h:=congrArg List.length e;rw[aH,List.length_nil]at h;omega);rw[aH]at hc;have hci:=hc i hlt;rw[fK _ _ hlt]at hci;simp only[go_sem,zS,↓reduceIte,Za,Zb,Zc,reduceCtorEq,ae,tF,aH,ai,Nat.mul_one,hci];refine⟨by omega,?_⟩;refine aL [4,14,26] rfl (fun n f H'=>∃(t:Nat) (y:UInt64),t<=64/\n=64 -t/\f 4=.int .u64 y.toNat/\(∀q<64,bt y q=(bt (W.getD i 0) q&&decide (t<=q)))/\J (cn (64*i+t) p) H') 64
    ⟨0,W.getD i 0,by omega,by omega,by simp only[go_sem,zS,↓reduceIte,Za,Zb,Zc,reduceCtorEq,ae],fun q _=>by simp,hJ⟩ ?_
   rintro n g2 H2 ⟨t,y,aaq,rfl,wF,hy,W8⟩;simp only[go_sem,zS,↓reduceIte,Za,Zb,Zc,reduceCtorEq,ae]at wF;have j6:∀a,over (bN (bN a 3 (Value.int .i64 (i:Int))) 4 (.int .u64 ((W.getD i 0).toNat:Int))) g2 [4,14,26] 3=.int .i64 (i:Int):=fun a=>by simp only[go_sem,zS,↓reduceIte,Za,Zb,Zc,reduceCtorEq,ae]
   simp only[go_sem,zS,↓reduceIte,Za,Zb,Zc,reduceCtorEq,ae,wF];obtain⟨T2,_,V2⟩:=hG _ _ W8;have hbit:∀q<64,p (64*i+q)=bt (W.getD i 0) q:=fun q hq=>by rw[<-V2.is,fO _ _ _ hq]
   by_cases h0:y=0
   ·subst h0;have e0:(((0:UInt64).toNat:Int)!=0)=false:=rfl;simp only[go_sem,zS,↓reduceIte,Za,Zb,Zc,reduceCtorEq,ae,e0];have hnone:∀q,t<=q->q<64->p (64*i+q)=false:=fun q h1 h2=>by
     rw[hbit q h2];have:=hy q h2;rw[dU]at this;simpa[h1]using this.symm
    have US:cn (64*(i+1)) p=cn (64*i+t) p:=iS (by omega) fun q h1 h2=>by
     have:=hnone (q -64*i) (by omega) (by omega)
     rwa [show 64*i+(q -64*i)=q by omega]at this
    simp(disch:=omega)only[go_sem,zS,↓reduceIte,Za,Zb,Zc,reduceCtorEq,ae,tF,IntWalk.i64_in];exact⟨W.length -(i+1),by omega,i+1,by omega,rfl,by simp,by rw[US];exact W8⟩
   ·have e0:((y.toNat:Int)!=0)=true:=by
     simp only[bne_iff_ne,ne_eq];intro e;exact h0 (UInt64.toNat_inj.1 (by simpa using e))
    obtain⟨l1,l2,l3⟩:=fb h0;have hlow:=hy _ l1;rw[l2]at hlow;simp only[Bool.and_eq_true,decide_eq_true_eq,Bool.true_eq]at hlow;obtain⟨g1,g2'⟩:=hlow;have w1:IntKind.i64.wrap (64*(i:Int))=((64*i:Nat):Int):=by rw[show(64*(i:Int))=((64*i:Nat):Int) by omega];exact IntWalk.i64_in _ ⟨by omega,by omega⟩
    simp only[go_sem,zS,↓reduceIte,Za,Zb,Zc,reduceCtorEq,ae,e0,w1];refine(ht y H2 T2 h0).mono ?_;rintro r H3 ⟨rfl,rfl⟩;have w2:IntKind.i64.wrap (((64*i:Nat):Int)+((bZ y:Nat):Int))=((64*i+bZ y:Nat):Int):=by rw[show(((64*i:Nat):Int)+((bZ y:Nat):Int))=((64*i+bZ y:Nat):Int) by omega];exact IntWalk.i64_in _ ⟨by omega,by omega⟩
    have hp:p (64*i+bZ y)=true:=by rw[hbit _ l1];exact g1
    have US:cn (64*i+bZ y) p=cn (64*i+t) p:=iS (by omega) fun q h1 h2=>by
     have e:=hy (q -64*i) (by omega);rw[l3 (q -64*i) (by omega)]at e;have e2:=hbit (q -64*i) (by omega);rw[show 64*i+(q -64*i)=q by omega]at e2;rw[e2];have:t<=q -64*i:=by omega
     simpa[this]using e.symm
    rw[ae];simp only[go_sem,zS,↓reduceIte,Za,Zb,Zc,reduceCtorEq,ae,w2];refine⟨l,rfl,?_⟩;have hy1:=hY (cn (64*i+t) p) H3 (by rw[ek,<-US];exact Sj (by omega) hp) W8;rw[<-US,FB (by omega) hp]at hy1;refine hy1.mono ?_;rintro r H4 (⟨rfl,hJ4⟩|⟨rfl,hK⟩)
    ·have hcl:=CU y y;simp only[go_sem,zS,↓reduceIte,Za,Zb,Zc,reduceCtorEq,ae,wF,hcl];refine⟨64 -(bZ y+1),by omega,bZ y+1,Od y,by omega,rfl,rfl,fun q hq=>?_,?_⟩
     ·rw[Oe h0,hy q hq]
      by_cases e:q=bZ y
      ·subst e;simp
      ·by_cases e1:t<=q
       ·by_cases e2:bZ y+1<=q
        ·simp[e1,e2,e]
        ·have e3:=l3 q (by omega);rw[hy q hq]at e3;have:bt (W.getD i 0) q=false:=by simpa[e1]using e3
         rw[this];simp[e2]
       ·have:¬bZ y+1<=q:=by omega
        simp[e1,this]
     ·rw[show 64*i+(bZ y+1)=64*i+bZ y+1 by omega,aX,if_pos hp];exact hJ4
    ·simp only[go_sem,zS,↓reduceIte,Za,Zb,Zc,reduceCtorEq,ae];exact .inr hK
  ·have:i=W.length:=by omega
   subst this;exact .inl (by rw[ek];exact hJ)
 refine(main w hw).mono ?_;rintro e w' ⟨r,rfl,hR,hs⟩;exact⟨r,rfl,hs,hR⟩
def gC (P:Program) (ι:aJ) (k:FuncId):Prop:=∀(p:Nat->Bool) (x:Value) (H:Hp),br ι H->aS H x p->an P k #[x] H fun r H'=>bY H' r (cf p)/\(∀k,az r k->H.size<=k)/\af (fun _=>False) H H'
theorem FC {g:FuncId} (hk:iz P k (tD ι) tE 1 16) (hl:iV P (ι.f 135)) (ha:gB P (ι.f 137) (ι.f 136)) (hb1:bF P (ι.f 136)=true)
  (h1:∀{v:Value} {W:List UInt64} {p:Nat->Bool} {b:Nat},AJ P (ι.f 136) #[.pointer (some ⟨b,0,none⟩)] (cf p) (fun H=>br ι H/\Bl H b [v]/\eH H v W p)):gC P ι k:=by
 intro p x H hT hx;obtain⟨v,W,rfl,hv⟩:=hx;refine ie hk (args:=[_]) (by simp) ?_;unfold tD tE kA kB kC kM kR kU kc kd kf kg kY kZ;simp only[go_sem,zS,↓reduceIte,Za,Zb,Zc,reduceCtorEq,aN];refine ay fun H1 b1 e1 z1 B1 K1=>?_;simp only[go_sem,zS,↓reduceIte,Za,Zb,Zc,reduceCtorEq,ae,B1.aI 1 rfl];refine(hl p _ H1 ⟨v,W,rfl,hv.ag K1 (by simp)⟩).mono ?_;rintro r H2 ⟨rfl,K2⟩;have JN:(aD p).length<=4096:=by rw[bR];exact dw _ _
 rw[ae];simp only[go_sem,zS,↓reduceIte,Za,Zb,Zc,reduceCtorEq,ai];refine⟨⟨by omega,by omega,by unfold maxLen;omega⟩,?_⟩;refine aF fun H3 b3 e3 z3 B3 K3=>?_;simp only[go_sem,zS,↓reduceIte,Za,Zb,Zc,reduceCtorEq];refine ay fun H4 b4 e4 z4 B4 K4=>?_;have s1:=K1.size;have s2:=K2.size;have s3:=K3.size;have s4:=K4.size;have W9:=B4.bk (o:=0) (by simp);have B5:=B4.al 0 (.slice (some ⟨b3,0,none⟩) 0 (aD p).length);have K5:af (fun k=>k=b4) H4 (al H4 ⟨b4,0,none⟩ (.slice (some ⟨b3,0,none⟩) 0 (aD p).length)):=(af.refl _ _).al _ (.inl rfl);simp only[go_sem,zS,↓reduceIte,Za,Zb,Zc,reduceCtorEq,ae,W9];generalize al H4 ⟨b4,0,none⟩ (.slice (some ⟨b3,0,none⟩) 0 (aD p).length)=H5 at B5 K5⊢;have s5:=K5.size;have Sh:Bl H5 b1 [v]:=K5.bl (K4.bl (K3.bl (K2.bl B1 (by simp)) (by simp)) (by simp)) (by omega);have O5:bY H5 (.slice (some ⟨b3,0,none⟩) 0 (aD p).length) []:=by
  have h:=B3;rw[cx]at h;exact bY.bl (K5.bl (K4.bl h (by simp)) (by omega)) rfl (by omega) (by simp) rfl
 have K15:af (fun _=>False) H H5:=((((K1.trans K2).trans K3).trans K4)).bD K5 (by omega);simp only[go_sem,zS,↓reduceIte,Za,Zb,Zc,reduceCtorEq,ae,Sh.aI 1 rfl];refine(ha v H5).mono ?_;rintro r H6 ⟨rfl,B6,K6,z6⟩;have s6:=K6.size;simp only[go_sem,zS,↓reduceIte,Za,Zb,Zc,reduceCtorEq,ae];have Em:Bl H5 b4 [.slice (some ⟨b3,0,none⟩) 0 (aD p).length]:=B5;have hTf:=fun{A:Hp} {X:Nat->Prop} (K:af X H A) (hx:∀k,k<H.size->¬X k)=>hT.ag (K.none hx);refine FA (fun k=>k=b4\/k=b3) (fun k A=>∃vs,Bl A b4 [vs]/\bY A vs ((cf p).take k)/\∀q,az vs q->q=b3\/H6.size+2<=q) (fun _ _=>False) (G:=fun H=>br ι H/\Bl H H5.size [v]/\eH H v W p) (by simp only[go_sem,zS,↓reduceIte,Za,Zb,Zc,reduceCtorEq,ae];rfl) hb1 h1 (by omega) ?_ ?_ ?_ ?_ ?_ ?_ ?_
 ·rintro k A KA _;have K:af (fun _=>False) H A:=(K15.trans K6).trans' KA (fun i hi h=>by omega);exact⟨hT.ag K,KA.bl B6 (by omega),hv.ag K (by simp)⟩
 ·intro A KA hs;have OA:=K6.trans KA;exact⟨_,OA.bl Em (by simp),O5.ag OA (by simp),fun q h=>.inl h⟩
 ·rintro k A A2 hs KA ⟨vs,g1,g2,g3⟩ K;refine⟨vs,K.bl g1 (by omega),g2.ag K (fun q hq e=>?_),g3⟩;rcases g3 q hq with h|h<;>omega
 ·rintro e A A2 hs KA h;exact h.elim
 ·rintro k A hk KA hs ⟨vs,g1,g2,g3⟩;have hkl:k<(cf p).length:=hk;generalize hxv:(cf p).getD k undef=xv;obtain⟨n,rfl⟩:∃n:Nat,xv=.int .i64 (n:Int):=by
   rw[<-hxv,List.getD_eq_getElem?_getD,List.getElem?_eq_getElem hkl];refine⟨(aD p)[k]'(by simpa[cf]using hkl),?_⟩;simp[cf]
  have hst:=g1.bk (o:=0) (by simp);simp only[go_sem,zS,↓reduceIte,Za,Zb,Zc,reduceCtorEq,zF,g1.cell];refine aF fun A1 c1 f1 y1 C1 L1=>?_;have t1:=L1.size;have hlen:((cf p).take k).length+1<=4096:=by
   rw[List.length_take,o7];have:=dw 4096 p;have:=o7 p;omega
  simp only[go_sem,zS,↓reduceIte,Za,Zb,Zc,reduceCtorEq,ae];have hC:Bl A1 c1 [.int .i64 (n:Int)]:=C1;refine eG (l:=(cf p).take k) (m:=[.int .i64 (n:Int)]) (g2.ag L1 (by simp)) (aG.bl hC 0 1 1 (by omega) (by simp)) ?_ rfl (by unfold maxLen;simp only[List.length_singleton];omega) (by simp only[List.length_singleton];omega) fun v' A2 O2 M2 N2=>?_
  ·intro y hy;simp at hy;subst hy;rfl
  ·have t2:=M2.size;have g12:Bl A2 b4 [vs]:=M2.bl (L1.bl g1 (by simp)) (fun h=>by
    rcases g3 _ h with h|h<;>omega)
   have Xa:=g12.bk (o:=0) (by simp);obtain⟨aa,nn,cc,rfl⟩:=O2.shape;simp only[go_sem,zS,↓reduceIte,Za,Zb,Zc,reduceCtorEq,ae,Xa];have C3:=g12.al 0 (.slice aa nn cc);have L3:af (fun k=>k=b4) A2 (al A2 ⟨b4,0,none⟩ (.slice aa nn cc)):=(af.refl _ _).al _ (.inl rfl);generalize al A2 ⟨b4,0,none⟩ (.slice aa nn cc)=A3 at C3 L3⊢;have wG:(cf p).take (k+1)=(cf p).take k++[.int .i64 (n:Int)]:=by
    rw[List.take_succ_eq_append_getElem hkl]
    congr 1
    rw[<-hxv,List.getD_eq_getElem?_getD,List.getElem?_eq_getElem hkl];rfl
   have Sk:∀q,az (.slice aa nn cc) q->q=b3\/H6.size+2<=q:=fun q hq=>by
    rcases N2 q hq with h|h
    ·exact g3 q h
    ·omega
   refine⟨?_,_,C3,?_,Sk⟩
   ·have M2':af (fun b=>(b=b4\/b=b3)\/H6.size+2<=b) A1 A2:=M2.mono fun q _ hq=>by
     rcases g3 q hq with h|h
     ·exact .inl (.inr h)
     ·exact .inr h
    have L3':af (fun b=>(b=b4\/b=b3)\/H6.size+2<=b) A2 A3:=L3.mono fun q _ hq=>.inl (.inl hq);exact(L1.any.trans M2').trans L3'
   ·rw[wG];refine O2.ag L3 (fun q hq e=>?_);rcases Sk q hq with h|h<;>omega
 ·rintro A KA hs hd ⟨vs,g1,g2,g3⟩;rw[List.take_length]at g2;simp only[go_sem,zS,↓reduceIte,Za,Zb,Zc,reduceCtorEq,ae,g1.cell,List.nodup_cons,List.nodup_nil];refine⟨hd,fun A2 ha hb=>?_⟩;have M:af (fun k=>k=H6.size) A A2:=⟨by omega,fun k _ h=>hb k (by simpa using h)⟩
  refine⟨g2.ag M (fun q hq e=>?_),fun q hq=>?_,?_⟩
  ·rcases g3 q hq with h|h<;>omega
  ·rcases g3 q hq with h|h<;>omega
  ·exact((K15.trans K6).trans' KA (fun i hi h=>by omega)).trans' M (fun i hi h=>by omega)
 ·rintro e A _ _ _ h;exact h.elim
end Go.Mg
namespace Go.Mg
open Go Go.RowKit
def mg (ι:aJ):S:=
 kY [kR 2 (ι.t 128) 0,kR 3 (ι.t 128) 1,kC 4 (.bool false)] (.seq (kY [kG 7 0 2,kV 8 (.ld (.t 7)),kO 9 8,kC 10 (.int .i64 0)] (.blk 0 (.loop (kY [kH 11 10 9] (.seq (.ite (.v 11) .skip (.exit 0)) (.seq (.blk 1 (kY [kA 12 10,kK 13 1 8 10,kD 14 13,kB 5 12,kB 6 14] (kY [kA 15 6,kM 16 1 3,kA 17 5,kc 18 (kg (ι.f 129) [.t 16,.t 17]),kU 19 (.bt .andNot .u64 (.t 15) (.t 18)),kV 20 (.cm .neq .u64 (.t 19) (.c (.int .u64 0)))] (.ite (.v 20) (kY [kC 4 (.bool false)] .ret) .skip)))) (.reg [ke 21 10,kB 10 21]))))))) (kY [kC 4 (.bool true)] .ret))
def mh:List RV:=[.t 4]
def tG (ι:aJ):S:=
 kY [kd 2 (.new (ι.t 128) #[kZ])] (.seq (.blk 0 (.loop (.seq (kY [kA 3 0,kL 4 3,kU 5 (.cm .gtr .i64 (.t 4) (.c (.int .i64 0))),kF 6 5,kS 7 6 true 0,kS 8 6 true 0,kT 9 6 true (.m (.lenl (.t 8))),kT 10 6 true (.ar .sub .i64 (.t 9) (.c (.int .i64 1))),kT 11 6 true (.is 1 (.t 7) (.t 10)),kT 12 6 true (.ld (.t 11)),kT 13 6 true (.cm .eql .u64 (.t 12) (.c (.int .u64 0))),kV 14 (.pick (.t 6) (.t 13) (.c (.bool false)))] (.ite (.v 14) .skip (.exit 0))) (.blk 1 (.reg [kA 15 0,kA 16 0,kL 17 16,kU 18 (.ar .sub .i64 (.t 17) (.c (.int .i64 1))),kU 19 (.m (.sls 1 (.t 15) .none (.some (.t 18)))),kB 0 19]))))) (kY [kA 20 0,kU 21 (.m (.jA #[kZ] [(0,(1,.t 20))])),kf (.stn 1 (.v 2) (.t 21))] .ret))
def tH:List RV:=[.cn 2 1]
def FD (ι:aJ):S:=
 kY [kd 2 (.new (ι.t 128) #[kZ])] (kY [kC 3 (.int .i64 (-1))] (.seq (kY [kV 9 (.mv (.v 0)),kO 10 9,kC 11 (.int .i64 0)] (.blk 0 (.loop (kY [kH 12 11 10] (.seq (.ite (.v 12) .skip (.exit 0)) (.seq (.blk 1 (kY [kK 13 1 9 11,kD 14 13,kB 5 14] (kY [kA 15 5,kV 16 (.cm .leq .i64 (.t 15) (.c (.int .i64 4095)))] (.ite (.v 16) (.reg [kA 17 3,kA 18 5,kU 19 (.m (.mx (.t 17) (.t 18))),kB 3 19]) .skip)))) (.reg [ke 20 11,kB 11 20]))))))) (.seq (kY [kA 21 3,kV 22 (.cm .lss .i64 (.t 21) (.c (.int .i64 0)))] (.ite (.v 22) (kY [kU 23 (.m (.jA #[kZ] [])),kf (.stn 1 (.v 2) (.t 23))] .ret) .skip)) (kY [kA 24 3,kU 25 (.dv .quo .i64 (.t 24) (.c (.int .i64 64))),kU 26 (.ar .add .i64 (.t 25) (.c (.int .i64 1))),kc 27 (.nq (ι.t 28) 1 8 #[.int .u64 0] (.t 26) (.t 26)),kB 6 27] (.seq (kY [kV 28 (.mv (.v 0)),kO 29 28,kC 30 (.int .i64 0)] (.blk 2 (.loop (kY [kH 31 30 29] (.seq (.ite (.v 31) .skip (.exit 2)) (.seq (.blk 3 (kY [kK 32 1 28 30,kD 33 32,kB 8 33] (kY [kA 34 8,kU 35 (.cm .geq .i64 (.t 34) (.c (.int .i64 0))),kF 36 35,kS 37 36 true 8,kS 38 36 true 3,kT 39 36 true (.cm .leq .i64 (.t 37) (.t 38)),kV 40 (.pick (.t 36) (.t 39) (.c (.bool false)))] (.ite (.v 40) (.reg [kA 41 6,kA 42 8,kU 43 (.dv .quo .i64 (.t 42) (.c (.int .i64 64))),kI 44 1 41 43,kD 45 44,kA 46 8,kU 47 (.dv .rem .i64 (.t 46) (.c (.int .i64 64))),kU 48 (.sh .shl .u64 (.c (.int .u64 1)) (.t 47)),kU 49 (.bt .or .u64 (.t 45) (.t 48)),kI 50 1 41 43,kf (.st (.t 50) (.t 49))]) .skip)))) (.reg [ke 51 30,kB 30 51]))))))) (kY [kA 52 6,kc 53 (kg (ι.f 142) [.t 52]),kf (.stn 1 (.v 2) (.t 53))] .ret))))))
def FE:List RV:=[.cn 2 1]
variable {i:Nat} {P:Program} {ι:aJ} {k:FuncId}
theorem eH.cells {H:Hp} {v:Value} {W:List UInt64} {p:Nat->Bool} (h:eH H v W p) (hi:i<W.length):∃b o c,v=.slice (some ⟨b,o,none⟩) W.length c/\∀j,j<W.length->cell H ⟨b,o+j,none⟩=some (.int .u64 ((W.getD j 0).toNat:Int)):=by
 obtain⟨b,o,c,h1,-,hc⟩:=h.sl.cells (by intro e;have h:=congrArg List.length e;rw[aH,List.length_nil]at h;omega);rw[aH]at h1 hc;exact⟨b,o,c,h1,fun j hj=>by rw[hc j hj,fK _ _ hj]⟩
theorem Bv (a b:UInt64):((a.toNat:Int)!=(b.toNat:Int))=!decide (a=b):=by
 by_cases h:a=b
 ·subst h;simp
 ·have:(a.toNat:Int)≠(b.toNat:Int):=fun e=>h (UInt64.toNat_inj.1 (by exact_mod_cast e));rw[decide_eq_false h,bne_iff_ne.2 this];rfl
theorem wH (x y:UInt64):bits .andNot .u64 (x.toNat:Int) (y.toNat:Int)=((x&&&~~~y).toNat:Int):=by
 show IntKind.u64.wrap ((BitVec.ofInt 64 (x.toNat:Int)&&&~~~BitVec.ofInt 64 (y.toNat:Int)).toNat:Int)=_
 rw[bitsOf,bitsOf];exact te (x&&&~~~y)
theorem CV (x y:UInt64) (k:Nat) (hk:k<64):bt (x&&&~~~y) k=(bt x k&&!bt y k):=by
 unfold bt;rw[UInt64.toNat_and,Nat.testBit_and,UInt64.toNat_not]
 congr 1
 have:UInt64.size -1 -y.toNat=2^64 -(y.toNat+1):=by
  have:UInt64.size=2^64:=rfl;rw[this];omega
 rw[this,Nat.testBit_two_pow_sub_succ y.toNat_lt];simp[hk]
def fQ (P:Program) (k:FuncId):Prop:=∀(p q:Nat->Bool) (x y:Value) (H:Hp),aS H x p->aS H y q->an P k #[x,y] H fun r H'=>(∃b:Bool,r=.bool b/\(b=true↔∀n,p n=true->q n=true))/\af (fun _=>False) H H'
theorem yF (hk:aq P k (mg ι) mh 2) (hw:iU P (ι.f 129)):fQ P k:=by
 intro p q x y H hx hy;obtain⟨v,A,rfl,hv⟩:=hx;obtain⟨u,B,rfl,hu⟩:=hy;refine ah hk (args:=[_,_]) (by simp) ?_;unfold mg mh kA kB kC kD ke kG kH kK kM kO kR kU kV kc kg kY;simp only[go_sem,zS,↓reduceIte,Za,Zb,Zc,reduceCtorEq,aN];refine ay fun H1 b1 e1 z1 B1 K1=>?_;simp only[go_sem,zS,↓reduceIte,Za,Zb,Zc,reduceCtorEq,aN];refine ay fun H2 b2 e2 z2 B2 K2=>?_;have gz:=K1.trans K2;have nO:=K2.bl B1 (by simp);have hv2:=hv.ag gz (by simp);have hu2:=hu.ag gz (by simp);have lA:=hv.len;have lB:=hu.len;simp only[go_sem,zS,↓reduceIte,Za,Zb,Zc,reduceCtorEq,ae,nO.cell,B2.cell,hv2.sl.ax,hv2.sl.len,aH];refine aL [11,5,6,20,4,10] rfl (fun n f H'=>∃i,i<=A.length/\n=A.length -i/\f 10=.int .i64 i/\(∀m,m<64*i->p m=true->q m=true)/\af (fun _=>False) H2 H') A.length
  ⟨0,by omega,by omega,rfl,fun j hj=>by omega,af.refl _ _⟩ ?_
 rintro n g H3 ⟨i,hi,rfl,hf,hx,K3⟩;simp only[go_sem,zS,↓reduceIte,Za,Zb,Zc,reduceCtorEq,ae]at hf;simp only[go_sem,zS,↓reduceIte,Za,Zb,Zc,reduceCtorEq,ae,hf];refine aC (fun hlt=>?_) (fun gx=>?_)
 ·have hlt:i<A.length:=by omega
  have Ek:=hv2.ag K3 (by simp);have Sg:=hu2.ag K3 (by simp);have Ej:=K3.bl B2 (by simp);obtain⟨b,o,c,rfl,hc⟩:=Ek.cells hlt;simp only[go_sem,zS,↓reduceIte,Za,Zb,Zc,reduceCtorEq,ae,Ej.aI 1 rfl,aN,ai,Nat.mul_one,hc i hlt];refine⟨by omega,?_⟩;refine(hw B u i H3 Sg.sl Sg.len (by omega)).mono ?_;rintro r H4 ⟨rfl,K4⟩;have K34:=K3.trans K4;have hne:=Bv (A.getD i 0&&&~~~B.getD i 0) 0;have z0:(((0:UInt64).toNat:Nat):Int)=0:=rfl;rw[z0]at hne;simp only[go_sem,zS,↓reduceIte,Za,Zb,Zc,reduceCtorEq,ae,wH,hne];have hb:∀b,b<64->bt (A.getD i 0&&&~~~B.getD i 0) b=(p (64*i+b)&&!q (64*i+b)):=fun b hb=>by
   rw[CV _ _ _ hb,<-hv.is,<-hu.is,fO _ _ _ hb,fO _ _ _ hb]
  by_cases e:A.getD i 0&&&~~~B.getD i 0=0
  ·rw[decide_eq_true e];simp(disch:=omega)only[go_sem,zS,↓reduceIte,Za,Zb,Zc,reduceCtorEq,ae,hf,IntWalk.i64_in];refine⟨A.length -(i+1),by omega,i+1,by omega,rfl,by simp,fun m hm hp=>?_,K34⟩
   by_cases e2:m<64*i
   ·exact hx m e2 hp
   ·have:=hb (m -64*i) (by omega);rw[e,dU,show 64*i+(m -64*i)=m by omega,hp]at this
    cases hq:q m with
    |true=>rfl
    |false=>rw[hq]at this;simp at this
  ·rw[decide_eq_false e];obtain⟨l1,l2,_⟩:=fb e;rw[hb _ l1]at l2;simp only[Bool.and_eq_true,Bool.not_eq_true']at l2;simp only[go_sem,zS,↓reduceIte,Za,Zb,Zc,reduceCtorEq,ae];refine⟨⟨false,rfl,fun h=>(by cases h),fun h=>?_⟩,gz.trans K34⟩;rw[h _ l2.1]at l2;exact absurd l2.2 (by simp)
 ·have:i=A.length:=by omega
  subst this;exact⟨⟨true,rfl,fun _ n hn=>hx n (hv.lt hn) hn,fun _=>rfl⟩,gz.trans K3⟩
theorem yG (W:List UInt64) (k:Nat) (hk:k<W.length) (n:Nat) (h:W.getD k 0=0):bU (W.take (k+1)) n=bU (W.take k) n:=by
 unfold bU;rw[List.getD_eq_getElem?_getD,List.getD_eq_getElem?_getD,List.getElem?_take,List.getElem?_take]
 by_cases e:n/64<k
 ·rw[if_pos (by omega),if_pos e]
 ·rw[if_neg e]
  by_cases e2:n/64=k
  ·rw[if_pos (by omega),e2];rw[List.getD_eq_getElem?_getD]at h;rw[h];rfl
  ·rw[if_neg (by omega)]
def wI (P:Program) (k:FuncId):Prop:=∀(p:Nat->Bool) (W:List UInt64) (v:Value) (H:Hp),aG H v (dV W)->W.length<=64->(∀n,bU W n=p n)->an P k #[v] H fun r H'=>aS H' r p/\af (fun _=>False) H H'/\∀k,jP r k->aU v k
theorem FF (hk:aq P k (tG ι) tH 1):wI P k:=by
 intro p W v H hv hW hp;obtain⟨R,hR⟩:∃R:Value->Hp->Prop,R=fun r H'=>aS H' r p/\af (fun _=>False) H H'/\∀k,jP r k->aU v k:=⟨_,rfl⟩
 rw[<-hR];refine ah hk (args:=[_]) (by simp) ?_;unfold tG tH kA kB kF kL kS kT kU kV kd kf kY kZ;simp only[go_sem,zS,↓reduceIte,Za,Zb,Zc,reduceCtorEq];refine ay fun H1 b1 e1 z1 B1 K1=>?_;have hv1:=hv.ag K1 (by simp);simp only[go_sem,zS,↓reduceIte,Za,Zb,Zc,reduceCtorEq,ae];refine aL [14,0] rfl (fun n f H'=>∃u,n<=W.length/\f 0=u/\aG H1 u (dV (W.take n))/\(∀k,aU u k->aU v k)/\(∀m,bU (W.take n) m=p m)/\H'=H1) W.length
  ⟨v,by omega,by simp only[go_sem,zS,↓reduceIte,Za,Zb,Zc,reduceCtorEq,ae],by rw[List.take_length];exact hv1,fun k h=>h,fun m=>by rw[List.take_length];exact hp m,rfl⟩ ?_
 rintro n g H' ⟨u,hn,hf,hu,hb,hm,rfl⟩;simp only[go_sem,zS,↓reduceIte,Za,Zb,Zc,reduceCtorEq,ae]at hf;have hlen:(W.take n).length=n:=by rw[List.length_take];omega
 have qU:=hu.len;rw[aH,hlen]at qU;have fin:Can (W.take n)->∀H2,H2.size=H'.size->af (fun k=>k=b1) H' H2->R (.agg #[u]) H2:=by
  intro Xb H2 z2 K2;rw[hR];exact⟨⟨u,W.take n,rfl,hu.ag K2 (fun k h e=>by
   have:=hv.bM (hb k h);omega),by omega,Xb,hm⟩,K1.bD K2 (by omega),fun k h=>hb k h⟩
 cases n with
 |zero=>
  have e0:decide (((0:Nat):Int)>0)=false:=rfl;obtain⟨au,cu,rfl,hcu⟩:=hu.mk;rw[aH,hlen]at hu hb fin hf;simp only[go_sem,zS,↓reduceIte,Za,Zb,Zc,reduceCtorEq,ae,hf,e0,zF];exact⟨by decide,tw B1 hu.one fun H2 z2 K2=>fin (fun h=>absurd rfl h) H2 z2 K2⟩
 |succ m=>
  have e0:decide (((m+1:Nat):Int)>0)=true:=decide_eq_true (by omega);obtain⟨b,o,c,rfl,Xc,hc⟩:=hu.cells (by intro e;have h:=congrArg List.length e;rw[aH,List.length_nil]at h;omega);rw[aH,hlen]at hc hu hb fin Xc;have UT:=hc m (by omega);rw[fK _ _ (by omega)]at UT;have hWm:(W.take (m+1)).getD m 0=W.getD m 0:=by
   rw[List.getD_eq_getElem?_getD,List.getD_eq_getElem?_getD,List.getElem?_take,if_pos (by omega)]
  rw[hWm]at UT;have w1:IntKind.i64.wrap (((m+1:Nat):Int) -1)=(m:Int):=by rw[show((m+1:Nat):Int) -1=(m:Int) by omega];exact IntWalk.i64_in _ ⟨by omega,by omega⟩
  have heq:(((W.getD m 0).toNat:Int)==0)=decide (W.getD m 0=0):=by
   have:=Bv (W.getD m 0) 0;have z0:(((0:UInt64).toNat:Nat):Int)=0:=rfl;rw[z0]at this;simp only[bne]at this
   cases h1:(((W.getD m 0).toNat:Int)==0)<;>cases h2:decide (W.getD m 0=0)<;>simp_all
  have vr:c≠0:=by omega
  rw[aH,hlen]at hf;simp only[go_sem,zS,↓reduceIte,Za,Zb,Zc,reduceCtorEq,ae,hf,e0,w1,ai,Nat.mul_one,UT,heq];refine⟨by omega,?_⟩
  by_cases hz:W.getD m 0=0
  ·rw[decide_eq_true hz];simp only[go_sem,zS,↓reduceIte,Za,Zb,Zc,reduceCtorEq,ae,w1,ai,Nat.zero_mul];refine⟨by omega,m,by omega,_,by omega,rfl,?_,?_,fun n=>?_⟩
   ·have:=hu.take (n:=m) (by rw[aH,hlen];omega);rw[iT,List.take_take,show min m (m+1)=m by omega]at this;simpa[vl,kj,xM,vr,sD]using this
   ·intro k hk;apply hb k;refine ET (z:=1) (n:=m) (by show m<=m+1;omega) ?_;simpa[vl,kj,xM,vr,sD]using hk
   ·rw[<-hm,yG W m (by omega) n hz]
  ·rw[decide_eq_false hz];simp only[go_sem,zS,↓reduceIte,Za,Zb,Zc,reduceCtorEq,ae,zF];refine⟨by decide,tw B1 ?_ fun H2 z2 K2=>?_⟩
   ·intro y hy;simp at hy;subst hy;rfl
   ·refine fin ?_ H2 z2 K2;intro h h0;apply hz;rw[List.getLast_eq_getElem]at h0;have mX:(W.take (m+1)).length -1=m:=by omega
    simp only[mX]at h0;rw[<-hWm,List.getD_eq_getElem?_getD,List.getElem?_eq_getElem (by omega)];exact h0
theorem FG (W:List UInt64) (m:Nat) (hm:m/64<W.length) (n:Nat):bU (W.set (m/64) (Ef (W.getD (m/64) 0) (m % 64))) n=(bU W n||decide (n=m)):=by
 rw[wB _ _ hm]
 by_cases e:n/64=m/64
 ·rw[if_pos e,E3 _ (by omega)];have e1:bU W n=bt (W.getD (m/64) 0) (n % 64):=by unfold bU;rw[e]
  rw[e1]
  congr 1
  by_cases h:n % 64=m % 64
  ·have:n=m:=by omega
   simp[h,this]
  ·have:n≠m:=fun h'=>h (by rw[h']);simp[h,this]
 ·rw[if_neg e];have:n≠m:=fun h=>e (by rw[h]);simp[this]
def JO (l:List Int) (n:Nat):Bool:=decide ((n:Int)∈l)&&decide (n<4096)
def tI (P:Program) (k:FuncId):Prop:=∀(l:List Int) (v:Value) (H:Hp),aG H v (iL l)->l.length<=1000000->an P k #[v] H fun r H'=>aS H' r (JO l)/\af (fun _=>False) H H'/\∀k,jP r k->H.size<=k
theorem dW {l:List Int} (hi:i<l.length) (x:Int):x∈l.take (i+1)↔x∈l.take i\/x=l.getD i 0:=by
 rw[List.take_succ_eq_append_getElem hi,List.mem_append,List.mem_singleton,List.getD_eq_getElem?_getD,List.getElem?_eq_getElem hi]
 rfl
theorem OB (hk:aq P k (FD ι) FE 1) (htr:wI P (ι.f 142)):tI P k:=by
 intro l v H hv hl;obtain⟨R,hR⟩:∃R:Value->Hp->Prop,R=fun r H'=>aS H' r (JO l)/\af (fun _=>False) H H'/\∀k,jP r k->H.size<=k:=⟨_,rfl⟩
 rw[<-hR];refine ah hk (args:=[_]) (by simp) ?_;unfold FD FE kA kB kF kC kD ke kH kI kK kO kS kT kU kV kc kd kf kg kY kZ;simp only[go_sem,zS,↓reduceIte,Za,Zb,Zc,reduceCtorEq];refine ay fun H1 b1 e1 z1 B1 K1=>?_;have hv1:=hv.ag K1 (by simp);simp only[go_sem,zS,↓reduceIte,Za,Zb,Zc,reduceCtorEq,ae,hv1.ax,hv1.len,ak];refine aL [12,5,16,3,11] rfl (fun n f H'=>∃(i:Nat) (t:Int),i<=l.length/\n=l.length -i/\f 11=.int .i64 i/\f 3=.int .i64 t/\-1<=t/\t<=4095/\(∀x∈l.take i,x<=4095->x<=t)/\H'=H1) l.length
  ⟨0,-1,by omega,by omega,by simp only[go_sem,zS,↓reduceIte,Za,Zb,Zc,reduceCtorEq,ae];rfl,by simp only[go_sem,zS,↓reduceIte,Za,Zb,Zc,reduceCtorEq,ae],by omega,by omega,fun x h=>by simp at h,rfl⟩ ?_
 rintro n g H' ⟨i,t,hi,rfl,FH,j6,Xd,ht1,hx,rfl⟩;simp only[go_sem,zS,↓reduceIte,Za,Zb,Zc,reduceCtorEq,ae]at FH j6;simp only[go_sem,zS,↓reduceIte,Za,Zb,Zc,reduceCtorEq,ae,FH];refine aC (fun hlt=>?_) (fun gx=>?_)
 ·have hlt:i<l.length:=by omega
  obtain⟨b,o,c,rfl,-,hc⟩:=hv1.cells (by intro e;have h:=congrArg List.length e;rw[ak,List.length_nil]at h;omega);rw[ak]at hc;have hci:=hc i hlt;rw[bW _ _ hlt]at hci;simp only[go_sem,zS,↓reduceIte,Za,Zb,Zc,reduceCtorEq,ae,FH,j6,ak,ai,Nat.mul_one,hci];refine⟨by omega,?_⟩;generalize Sl:l.getD i 0=x at*;refine aC (fun h4=>?_) (fun h4=>?_)
  ·simp(disch:=omega)only[go_sem,zS,↓reduceIte,Za,Zb,Zc,reduceCtorEq,ae,FH,j6,IntWalk.i64_in];refine⟨l.length -(i+1),by omega,i+1,_,by omega,rfl,by simp,rfl,?_,?_,fun y hy h=>?_⟩
   ·split<;>omega
   ·split<;>omega
   ·rcases(dW hlt y).1 hy with h1|h1
    ·have:=hx y h1 h
     split<;>omega
    ·rw[Sl]at h1
     split<;>omega
  ·simp(disch:=omega)only[go_sem,zS,↓reduceIte,Za,Zb,Zc,reduceCtorEq,ae,FH,j6,IntWalk.i64_in];refine⟨l.length -(i+1),by omega,i+1,_,by omega,rfl,by simp,rfl,Xd,ht1,fun y hy h=>?_⟩;rcases(dW hlt y).1 hy with h1|h1
   ·exact hx y h1 h
   ·rw[Sl]at h1;omega
 ·have rD:i=l.length:=by omega
  subst rD;rw[List.take_length]at hx;simp only[go_sem,zS,↓reduceIte,Za,Zb,Zc,reduceCtorEq,ae,j6];refine aC (fun h4=>?_) (fun h4=>?_)
  ·simp only[go_sem,zS,↓reduceIte,Za,Zb,Zc,reduceCtorEq,ae,zF];refine tw B1 ?_ fun H2 z2 K2=>?_
   ·intro y hy;simp at hy;subst hy;rfl
   ·rw[hR];refine⟨(aS.empty H2 _ _).congr fun n=>?_,K1.bD K2 (by omega),fun k h=>h.elim⟩;unfold JO
    by_cases e:(n:Int)∈l
    ·have:=hx n e;have:¬n<4096:=by omega
     simp[this]
    ·simp[e]
  ·obtain⟨m,rfl⟩:=Int.eq_ofNat_of_zero_le (Int.not_lt.1 h4);have hm:m<4096:=by omega
   have wq:IntKind.i64.wrap (((m/64:Nat):Int)+1)=((m/64+1:Nat):Int):=IntWalk.i64_in _ ⟨by omega,by omega⟩;simp only[go_sem,zS,↓reduceIte,Za,Zb,Zc,reduceCtorEq,oV m hm,wq,ai];generalize hM:m/64+1=M at*;refine⟨by decide,⟨by omega,by omega,by unfold maxLen;omega⟩,?_⟩;obtain⟨b2,e2⟩:∃b2,b2=H'.size:=⟨_,rfl⟩
   have K2:=(af.refl (fun _=>False) H').push (Obj.cells (rep #[Value.int .u64 0] M) (ι.t 28));have B2:=Bl.cW H' (rep #[Value.int .u64 0] M) (ι.t 28);have z2:(H'.push (Obj.cells (rep #[Value.int .u64 0] M) (ι.t 28))).size=H'.size+1:=by simp
   rw[<-e2]at B2⊢;generalize H'.push (Obj.cells (rep #[Value.int .u64 0] M) (ι.t 28))=H2 at K2 B2 z2⊢;have s1:=K1.size;have s2:=K2.size;have B2:Bl H2 b2 (dV (List.replicate M 0)):=by
    have:=B2;rw[cx,nJ]at this;exact this
   have nO:=K2.bl B1 (by simp);have hv2:=hv1.ag K2 (by simp);simp only[go_sem,zS,↓reduceIte,Za,Zb,Zc,reduceCtorEq,ae,hv2.ax,hv2.len,ak];refine aL [31,8,40,30] rfl (fun n f H'=>∃(i:Nat) (W:List UInt64),i<=l.length/\n=l.length -i/\f 30=.int .i64 i/\W.length=M/\Bl H' b2 (dV W)/\(∀n:Nat,bU W n=(decide ((n:Int)∈l.take i)&&decide (n<=m)))/\af (fun k=>k=b2) H2 H') l.length
    ⟨0,List.replicate M 0,by omega,by omega,by simp only[go_sem,zS,↓reduceIte,Za,Zb,Zc,reduceCtorEq,ae];rfl,by simp,B2,fun n=>by have:=wC [] M n;rw[List.nil_append]at this;rw[this,fN (by simp)];simp,af.refl _ _⟩ ?_
   rintro n g2 H3 ⟨i,W,hi,rfl,hf,hW,B3,UU,K3⟩;simp only[go_sem,zS,↓reduceIte,Za,Zb,Zc,reduceCtorEq,ae]at hf;simp only[go_sem,zS,↓reduceIte,Za,Zb,Zc,reduceCtorEq,ae,hf];refine aC (fun hlt=>?_) (fun gx=>?_)
   ·have hlt:i<l.length:=by omega
    have Ek:=hv.ag ((K1.trans K2).bD K3 (by omega)) (by simp);obtain⟨b,o,c,rfl,-,hc⟩:=Ek.cells (by intro e;have h:=congrArg List.length e;rw[ak,List.length_nil]at h;omega);rw[ak]at hc;have hci:=hc i hlt;rw[bW _ _ hlt]at hci;have hlast:∀H4 W',W'.length=M->Bl H4 b2 (dV W')->(∀n:Nat,bU W' n=(decide ((n:Int)∈l.take (i+1))&&decide (n<=m)))->af (fun k=>k=b2) H3 H4→
      ∃n',n'<l.length -i/\∃(i':Nat) (W:List UInt64),i'<=l.length/\n'=l.length -i'/\(i+1:Nat)=i'/\W.length=M/\Bl H4 b2 (dV W)/\(∀n:Nat,bU W n=(decide ((n:Int)∈l.take i')&&decide (n<=m)))/\af (fun k=>k=b2) H2 H4:=fun H4 W' h1 h2 h3 h4=>
     ⟨_,by omega,i+1,W',by omega,rfl,rfl,h1,h2,h3,K3.trans h4⟩
    by_cases hin:(0:Int)<=l.getD i 0/\l.getD i 0<=(m:Int)
    ·obtain⟨h0,h1⟩:=hin;obtain⟨q,hq⟩:=Int.eq_ofNat_of_zero_le h0;have hq4:q<4096:=by omega
     have hqm:((q:Nat):Int)<=(m:Int):=by omega
     have Xe:(0:Int)<=((q:Nat):Int):=by omega
     have hqM:q/64<M:=by omega
     rw[hq]at hci;have WZ:cell H3 ⟨b2,q/64,none⟩=some (.int .u64 ((W.getD (q/64) 0).toNat:Int)):=by rw[B3.cell,fK _ _ (by omega)]
     have hst:=B3.bk (o:=q/64) (by rw[aH];omega);simp only[go_sem,zS,↓reduceIte,Za,Zb,Zc,reduceCtorEq,ae,hf,j6,ak,ai,Nat.mul_one,hci,ge_iff_le,Xe,hqm,oV q hq4,yz,WZ,Ft _ (q % 64) (by omega:q % 64<64),hst];refine⟨by omega,by decide,by omega,by decide,by omega,by omega,?_⟩;have B6:=B3.al (q/64) (.int .u64 ((Ef (W.getD (q/64) 0) (q % 64)).toNat:Int));rw[lh _ _ (by omega)]at B6;have K6:af (fun k=>k=b2) H3 (al H3 ⟨b2,q/64,none⟩ (.int .u64 ((Ef (W.getD (q/64) 0) (q % 64)).toNat:Int))):=(af.refl _ _).al _ (.inl rfl);generalize al H3 ⟨b2,q/64,none⟩ (.int .u64 ((Ef (W.getD (q/64) 0) (q % 64)).toNat:Int))=H6 at B6 K6⊢;simp(disch:=omega)only[go_sem,zS,↓reduceIte,Za,Zb,Zc,reduceCtorEq,ae,hf,IntWalk.i64_in];obtain⟨n',a1,i',W',a2,a3,a4,a5,a6,a7,a8⟩:=hlast H6 _ (by simp[hW]) B6 (fun n=>by
      rw[FG _ _ (by omega),UU];have e1:=dW hlt (n:Int);rw[hq]at e1
      by_cases h1:(n:Int)∈l.take i
      ·have h2:=e1.2 (.inl h1)
       by_cases h3:n<=m
       ·simp[h1,h2,h3]
       ·have:n≠q:=by omega
        simp[h1,h2,h3,this]
      ·by_cases h4:n=q
       ·subst h4;have h2:=e1.2 (.inr rfl);have h3:n<=m:=by omega
        simp[h2,h3]
       ·have h2:¬(n:Int)∈l.take (i+1):=fun h=>by
         rcases e1.1 h with h|h
         ·exact h1 h
         ·omega
        simp[h1,h2,h4]) K6
     exact⟨n',a1,i',W',a2,a3,by rw[<-a4];simp,a5,a6,a7,a8⟩
    ·have OC:∀n:Nat,(decide ((n:Int)∈l.take (i+1))&&decide (n<=m))=(decide ((n:Int)∈l.take i)&&decide (n<=m)):=fun n=>by
      have e1:=dW hlt (n:Int)
      by_cases h3:n<=m
      ·have:(n:Int)≠l.getD i 0:=fun h=>hin ⟨by omega,by omega⟩;have e2:(n:Int)∈l.take (i+1)↔(n:Int)∈l.take i:=e1.trans ⟨fun h=>h.resolve_right this,.inl⟩;rw[decide_eq_decide.2 e2]
      ·simp[h3]
     obtain⟨n',a1,i',W',a2,a3,a4,a5,a6,a7,a8⟩:=hlast H3 W hW B3 (fun n=>by rw[OC,UU]) (af.refl _ _);simp only[go_sem,zS,↓reduceIte,Za,Zb,Zc,reduceCtorEq,ae,hf,j6,ak,ai,Nat.mul_one,hci]
     by_cases h0:l.getD i 0≥0
     ·have h1:¬l.getD i 0<=(m:Int):=fun h=>hin ⟨h0,h⟩;simp(disch:=omega)only[go_sem,zS,↓reduceIte,Za,Zb,Zc,reduceCtorEq,ae,hf,j6,h0,h1,IntWalk.i64_in];exact⟨by omega,n',a1,i',W',a2,a3,by rw[<-a4];simp,a5,a6,a7,a8⟩
     ·simp(disch:=omega)only[go_sem,zS,↓reduceIte,Za,Zb,Zc,reduceCtorEq,ae,hf,j6,h0,IntWalk.i64_in];exact⟨by omega,n',a1,i',W',a2,a3,by rw[<-a4];simp,a5,a6,a7,a8⟩
   ·have rD:i=l.length:=by omega
    subst rD;rw[List.take_length]at UU;have hs:=aG.bl B3 0 M M (Nat.le_refl _) (by rw[aH];omega);rw[List.drop_zero,iT,List.take_of_length_le (by omega)]at hs;have Xf:∀n,bU W n=JO l n:=fun n=>by
     rw[UU];unfold JO
     by_cases e:(n:Int)∈l
     ·have:=hx n e
      by_cases h3:n<=m
      ·have:n<4096:=by omega
       simp[h3,this]
      ·have:¬n<4096:=by omega
       simp[h3,this]
     ·simp[e]
    refine(htr (JO l) W _ H3 hs (by omega) Xf).mono ?_;rintro r H4 ⟨hr,K4,hb4⟩;have Fv:Bl H4 b1 [.slice none 0 0]:=K4.bl (K3.bl nO (by omega)) (by simp);obtain⟨rv,rW,rfl,My⟩:=hr;simp only[go_sem,zS,↓reduceIte,Za,Zb,Zc,reduceCtorEq,ae,zF];refine tw Fv My.sl.one fun H5 z5 K5=>?_;have s4:=K4.size;have s3:=K3.size;have hbb:∀k,aU rv k->H2.size<=k+1/\k≠b1:=fun k h=>by
     have:=hb4 k h;have:k=b2:=this.1;omega
    rw[hR];refine⟨⟨rv,rW,rfl,My.ag K5 (fun k h e=>(hbb k h).2 e)⟩,(((K1.trans K2).bD K3 (by omega)).trans K4).bD K5 (by omega),fun k h=>?_⟩;have:=hbb k h;omega
end Go.Mg

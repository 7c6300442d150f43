/- Lemmas of ours. No conditions. -/
import Derived.Test.YtoclemmcphgikaaGreatDoorMgE4
import Derived.Test.YtoclemmcphgikaaGreatDoorMgX6
open Classical renaming byContradiction→Zn
open List renaming append_assoc→ZA,cons_append→Xe,length_append→ZK,length_singleton→Xz,take_length→ZI
open Nat renaming pow_le_pow_right→YO
open UInt8 renaming ofNat→ZG,toNat_ofNat'→YR
set_option linter.all false
namespace Go.Mg
abbrev uE:=List UInt8×Nat
def eE (x:uE):List UInt8:=du x.1++dB x.2
def fJ (F:cf) (us:List uE):List UInt8:=du (cN F)++bQ eE us
noncomputable def lF (s:RS):uE×RS:=(((dg 256 s).1,(rdNum 256 (dg 256 s).2).1),(rdNum 256 (dg 256 s).2).2)
def nk (x:uE):Prop:=eZ x.1/\x.1.length<=33/\(∀n,bP x.1 n=true->n<=256)/\x.2<=256
def aiV:OJ lF eE nk:=by
 rintro⟨m,u⟩ ⟨h1,h2,h3,h4⟩ r;simp only at h1 h2 h3 h4;unfold lF eE;simp only;rw[ZA,ME h1 (by omega) h3];simp only;rw[nj h4 (by omega)]
def Kc {m:List UInt8} (hc:eZ m) (h:∀n,bP m n=true->n<=256):m.length<=33:=by
 by_cases e:m=[]
 ·subst e;simp
 ·obtain⟨n,h1,h2,h3⟩:=hc.top e;have:=h n h1;omega
def l7 (us:List uE):List (Nat->Bool):=us.map fun x=>bP x.1
def lT (us:List uE):List Int:=us.map fun x=>((x.2:Nat):Int)
structure xQ (F:cf) (us:List uE):Prop where
 ok:nM F=true
 len:us.length=F.st.length
 uk:∀x∈us,nk x
 bad:∀x∈us,¬qG (bP x.1)
 ord:qQ F.be (lT us)=true
 sol:(et (bJ F (l7 us)) (lT us)).isSome=true
def Dt (F:cf):cN F=bQ dI F.st++(bQ cW F.be++(bQ cW F.di++(bQ cW F.sa++bQ iR F.mo))):=rfl
variable {m:Nat} {F F':cf} {q:List UInt8}
def lG (h:FQ F):0<(cN F).length/\(cN F).length<=10000:=by
 have h1:=h.stl F.st.length;have h2:=h.l3l 3;have h3:=h.mol F.mo.length;rw[ZI]at h1 h3;rw[show(L3 F).take 3=L3 F from ZI (l:=L3 F)]at h2;have e:0<(dB F.st.length).length:=by simp[dB,le7]
 rw[Dr];simp only[bQ,ZK]at h1 h2 h3⊢;omega
def Du {us:List uE} (hE:FQ F) (hF:(cN F).length<=100000) (hl:us.length<=10) (h:∀x∈us,nk x) (hm:(cN F).length<=m) (hm2:m<=1000000) (r:List UInt8):
  bj m (fJ F us++r,0)=(cN F,(bQ eE us++r,0))/\cg 10 lF (bQ eE us++r,0)=(us,(r,0)):=by
 unfold fJ;rw[ZA,xN hm hm2];exact⟨rfl,j0 aiV h hl (by omega) r⟩
def xQ.rd {us:List uE} (h:xQ F us) (hm:(cN F).length<=m) (hm2:m<=1000000) (r:List UInt8):
  bj m (fJ F us++r,0)=(cN F,(bQ eE us++r,0))/\cg 10 lF (bQ eE us++r,0)=(us,(r,0)):=
 Du (fO h.ok) (by have:=(lG (fO h.ok)).2;omega) (by have:=h.len;have:=(dH h.ok).lt;omega) h.uk hm hm2 r
def FR {G:cf} {us vs:List uE} (hF:nM F=true) (hG:nM G=true) (h1:us.length<=10) (h2:vs.length<=10) (h3:∀x∈us,nk x) (h4:∀x∈vs,nk x) (h:fJ F us=fJ G vs):F=G/\us=vs:=by
 have a:=(lG (fO hF)).2;have b:=(lG (fO hG)).2;obtain⟨x1,x2⟩:=Du (fO hF) (by omega) h1 h3 (m:=10000) a (by omega) [];obtain⟨y1,y2⟩:=Du (fO hG) (by omega) h2 h4 (m:=10000) b (by omega) [];rw[h,y1]at x1;simp only[Prod.mk.injEq,and_true]at x1;obtain⟨e1,e2⟩:=x1;rw[<-e2,y2]at x2;simp only[Prod.mk.injEq,and_true]at x2;exact⟨((xP (r:=[]) (t:=[]) (fO hG) (fO hF) (by rw[e1])).1).symm,x2.symm⟩
def fB {v:Nat} (h:v<128):dB v=[ZG v]:=by
 unfold dB le7;rw[Nat.div_eq_of_lt h,zk,Nat.mod_eq_of_lt h]
 rfl
def MF:∀(l:List UInt8) (v w:Nat) (r:List UInt8),fA false v l=some (w,r)->v*128<=w
 |[],_,_,_,h=>by simp[fA]at h
 |b::l,v,w,r,h=>by
  rw[tq]at h
  split at h
  ·cases h
  ·split at h
   ·simp only[Option.some.injEq,Prod.mk.injEq]at h;omega
   ·have:=MF l _ w r h;omega
def Ub {n L:Nat} {t1 t2:List UInt8} (hn:n<=5) (hL:t1.length+1=L) (hlen:L+t2.length+2<128) (i:Nat) (c:UInt8) (hok:nM F'=true)
  (hq:q=(ZG L::(ZG n::(t1++ZG n::t2))).set i c) (hx:cN F'=(bj q.length (q,0)).1) (hc:(bF 10 (bj q.length (q,0)).2).1=F'.st.length):F'.st.length<=5:=by
 have h10:=(dH hok).lt;have GA:=(lG (fO hok)).1;have ql:q.length=L+t2.length+2:=by rw[hq];simp;omega
 obtain⟨a,b,rest,e,ha,hb⟩:∃a b rest,q=a::b::rest/\(i≠1->b=ZG n)/\(i=1->a=ZG L/\rest=t1++ZG n::t2):=by
  match i with
  |0=>exact⟨_,_,_,hq,fun _=>rfl,fun h=>by cases h⟩
  |1=>exact⟨_,_,_,hq,fun h=>absurd rfl h,fun _=>⟨rfl,rfl⟩⟩
  |i+2=>exact⟨_,_,_,hq,fun _=>rfl,fun h=>by omega⟩
 have hn':(ZG n).toNat=n:=by rw[YR];omega
 have MW:(ZG L).toNat=L:=by rw[YR];omega
 obtain⟨N,hN⟩:∃N,N=q.length:=⟨_,rfl⟩
 rw[<-hN]at hx hc;have none_:(bj N (q,0)).1≠[]:=by rw[<-hx];intro h;rw[h]at GA;simp at GA
 have key:a.toNat<128/\a.toNat<=N/\a.toNat<=(b::rest).length/\bj N (q,0)=((b::rest).take a.toNat,((b::rest).drop a.toNat,0)):=by
  unfold bj at none_⊢;rw[if_neg (by simp)]at none_⊢;simp only at none_⊢;rw[e,tq]at none_⊢
  by_cases h1:(true=true/\a.toNat=128)\/(0:Nat)>144115188075855871
  ·rw[if_pos h1]at none_;exact absurd rfl none_
  rw[if_neg h1]at none_⊢
  by_cases h2:a.toNat<128
  ·rw[if_pos h2]at none_⊢;have e1:0*128+a.toNat % 128=a.toNat:=by omega
   rw[e1]at none_⊢;simp only at none_⊢
   by_cases h3:a.toNat>N
   ·rw[if_pos h3]at none_;exact absurd rfl none_
   rw[if_neg h3]at none_⊢
   by_cases h4:a.toNat>(b::rest).length
   ·rw[if_pos h4]at none_;exact absurd rfl none_
   rw[if_neg h4];exact⟨h2,by omega,by omega,rfl⟩
  ·rw[if_neg h2]at none_
   cases hd:fA false (0*128+a.toNat % 128) (b::rest)with
   |none=>rw[hd]at none_;exact absurd rfl none_
   |some wr=>
    obtain⟨w,r⟩:=wr;rw[hd]at none_;simp only at none_;have:=MF _ _ _ _ hd;have h3:a.toNat≠128:=fun h=>h1 (.inl ⟨rfl,h⟩);have:=a.toNat_lt;rw[if_pos (by omega)]at none_;exact absurd rfl none_
 obtain⟨k1,k2,k3,k4⟩:=key;rw[k4]at hx hc;simp only at hx hc
 by_cases h0:a.toNat=0
 ·rw[h0,List.take_zero]at hx;rw[hx]at GA;simp at GA
 have hb1:b=ZG F'.st.length:=by
  obtain⟨v,hv⟩:∃v,a.toNat=v+1:=⟨a.toNat -1,by omega⟩
  rw[hv,List.take_succ_cons,Dt,bQ,fB (by omega)]at hx;simp only[Xe,List.nil_append,List.cons.injEq]at hx;exact hx.1.symm
 by_cases h1:i=1
 ·obtain⟨e1,e2⟩:=hb h1;subst e1 e2;rw[MW]at hc;have:(b::(t1++ZG n::t2)).drop L=dB n++t2:=by
   rw[fB (by omega),<-Xe,List.drop_append_of_le_length (by simp;omega),List.drop_eq_nil_of_le (by simp;omega)]
   rfl
  rw[this,FP (by omega) (by omega)]at hc;simp only at hc;omega
 ·have:=ha h1;rw[hb1]at this;have:=congrArg UInt8.toNat this;rw[hn',YR]at this;omega
def j9 {α:Type} {e:α->List UInt8} {c:Nat} {l:List α} (h:∀x∈l,(e x).length<=c) (hl:l.length<128):(bQ e l).length<=1+c*l.length:=by
 unfold bQ;rw[fB hl,ZK];have:=gH h;simp only[Xz];omega
def Kd (r:cF):(cN (bu r)).length<=64:=by
 have hn:=ft r;have h0:=cK r;have hG:=iK r;have pr:∀{l:List fC},(∀x∈l,kj ((bu r).st.length:Int) x/\x.1≠x.2)->∀x∈l,(cW x).length<=2:=fun h x hx=>by
  obtain⟨⟨a,b,c,d⟩,_⟩:=h x hx;unfold cW;rw[fB (by omega),fB (by omega)];simp
 have l1:(bu r).be.length<=6:=by simp only[bu];split<;>simp;omega
 have l2:(bu r).di.length<=6:=by simp only[bu];split<;>simp;omega
 have l3:(bu r).sa.length<=3:=by simp only[bu];split<;>simp;omega
 have l4:(bu r).mo.length<=3:=by simp only[bu];simp;omega
 have a1:=j9 (e:=dI) (c:=4) (l:=(bu r).st) (fun x hx=>by
  simp only[bu,uy]at hx;obtain⟨k,hk,rfl⟩:=List.mem_map.1 hx;have:=Q6 r.ro k;simp only[dI,du,Ha];rw[fB (v:=(LJ r.ro k).toNat) (by omega),fB (by simp)];simp) (by omega)
 have a2:=j9 (pr hG.be) (by omega);have a3:=j9 (pr hG.di) (by omega);have a4:=j9 (pr hG.sa) (by omega);have a5:=j9 (e:=iR) (c:=3) (l:=(bu r).mo) (fun x hx=>by
  have hm:=hG.mo x hx;unfold pk at hm
  split at hm
  ·omega
  next wO=>
  have hs:(iQ x.2).length<=1:=by
   unfold iQ
   split
   ·simp
   ·next h=>
    obtain⟨q1,q2,q3,q4⟩:=jH h;have q5:=pY q3;rw[eI];have:ef x.2.toNat -1<8:=by
     apply Zn;intro hc;unfold bt at q3;rw[Nat.testBit_lt_two_pow (Nat.lt_of_lt_of_le (show x.2.toNat<2^8 by
      have:2^(bu r).st.length<=2^8:=YO (by omega) (by omega);omega) (YO (by omega) (by omega)))]at q3
     cases q3
    omega
  have hk:x.1<=10:=by omega
  simp only[iR,du];rw[fB (v:=x.1.toNat) (by omega),fB (by omega)];simp only[ZK,Xz];omega) (by omega)
 rw[Dt];simp only[ZK];omega
def Ke (r:cF) {us:List uE} (hl:us.length=oC r) (hu:∀x∈us,x.1.length<=1/\x.2<=4) (i:Nat) (c:UInt8) (hok:nM F'=true) (hq:q=(fJ (bu r) us).set i c)
  (hx:cN F'=(bj q.length (q,0)).1) (hc:(bF 10 (bj q.length (q,0)).2).1=F'.st.length):F'.st.length<=5:=by
 have hn:=ft r;have h0:=cK r;have hL:=Kd r;have e1:∃t1,cN (bu r)=ZG (oC r)::t1:=by
  refine⟨(bu r).st.flatMap dI++(bQ cW (bu r).be++(bQ cW (bu r).di++(bQ cW (bu r).sa++bQ iR (bu r).mo))),?_⟩;rw[Dt,bQ,h0,fB (by omega)]
  rfl
 obtain⟨t1,e1⟩:=e1;have e2:bQ eE us=ZG (oC r)::us.flatMap eE:=by
  rw[bQ,hl,fB (by omega)];rfl
 have h2:=gH (e:=eE) (c:=3) (l:=us) fun x hx=>by
  obtain⟨a,b⟩:=hu x hx;simp only[eE,du];rw[fB (by omega),fB (by omega)];simp only[ZK,Xz];omega
 have e3:fJ (bu r) us=ZG (cN (bu r)).length::(ZG (oC r)::(t1++ZG (oC r)::us.flatMap eE)):=by
  unfold fJ;rw[du,fB (by omega),e2]
  conv=>lhs;rw[e1]
  rw[e1]
  rfl
 rw[e3]at hq;have hl1:t1.length+1=(cN (bu r)).length:=by rw[e1];rfl
 exact Ub (n:=oC r) (L:=(cN (bu r)).length) (t1:=t1) (t2:=us.flatMap eE) (by omega) hl1 (by omega) i c hok hq hx hc
end Go.Mg

/- Lemmas of ours. No conditions. -/
import Derived.Test.YtoclemmcphgikaaGreatDoorMgGI
open Bool renaming false→ZS,true→ZT
open Decidable renaming decide→ZQ
open Go renaming Value→ZR
open Go.IntKind renaming i64→ZY
open Go.Value renaming bool→Z5,int→Z8,slice→Z6,tuple→ZZ
open Option renaming none→ZU,some→ZV
open Bool renaming and_eq_true→ZJ,eq_iff_iff→YU,not_eq_true'→Yx,or_eq_true→Yq,true_and→X0
open Classical renaming byContradiction→Zn
open Go.IntWalk renaming i64_in→ZN
open Int renaming toNat_natCast→Zo
open List renaming all_eq_true→YH,any_eq_false→XJ,append_assoc→ZA,append_nil→YY,drop_length→V4,drop_zero→XB,getD_eq_getElem?_getD→ZP,getElem?_eq_getElem→ZO,getElem?_eq_none→Zz,getElem_mem→ZL,length_append→ZK,length_take→Zr,mem_filter→XV,mem_range→YK,nil_append→XG,range→ZF,replicate→ZM,take_zero→VN
open Nat renaming le_refl→ZH,le_trans→Zp,sub_self→W4
open Nat renaming reduceEqDiff→Za,reduceAdd→Zb
set_option maxRecDepth 100000
set_option linter.all false
namespace Go.Mg
def L0 (w:Nat):∀m,gN w m<=gN w (m+1)
 |0=>by rw[gN];exact Nat.zero_le _
 |m+1=>by
  rw[gN,gN];exact Nat.mul_le_mul_left _ (by have:=L0 w m;omega)
def zd (w : Nat) {m : Nat} : ∀ {m'}, m <= m' -> gN w m <= gN w m'
  | 0, h => by have : m = 0 := by omega
               subst this; exact ZH _
  | m' + 1, h => by
    by_cases e : m = m' + 1
    · subst e; exact ZH _
    · exact Zp (zd w (show m <= m' by omega)) (L0 w m')
def af9:gN 256 5=1103823438080:=rfl
def Sk {q:Nat->Bool} (h:∀u,q u=ZT->1<=u/\u<=256):(bf q).length<=256:=by
 unfold bf;have e:(4096:Nat)=257+3839:=rfl;rw[e,List.range_add,List.filter_append];rw[filter_none (l:=(ZF 3839).map (257+·)) fun x hx=>?_,YY]
 ·rw[List.range_succ_eq_map,List.filter_cons];have h0:q 0=ZS:=by
   cases hb:q 0 with
   |false=>rfl
   |true=>have:=(h 0 hb).1;omega
  rw[h0,if_neg (by simp)];refine Zp (List.length_filter_le _ _) ?_;simp
 ·obtain⟨y,_,rfl⟩:=List.mem_map.1 hx
  cases hb:q (257+y)with
  |false=>rfl
  |true=>have:=(h _ hb).2;omega
def pq {p:rF} {fx:List Int} (hG:eT p) (hU:yp p.el.length fx) (h5:p.el.length<=5):uB p fx:=by
 refine⟨hU,256,fun k=>Sk fun u hu=>hG.us k u hu,ZH _,?_⟩;have hz:lW fx<=5:=by
  unfold lW;have:=List.countP_le_length (p:=fun u:Int=>ZQ (u=0)) (l:=fx);have:=hU.1;omega
 have:=zd 256 hz;rw[af9]at this;omega
def Cz (V:aH):S:=
 kY [kC 4 (kZ),kC 5 (Z5 ZS)] (kY [kc 8 (.aX (V.t 26) 1 0 []),kA 9 0,kc 10 (.app ZS (V.t 26) 1 8 #[Z8 ZY 0] (.t 8) (.t 9)),kB 6 10] (.seq (kY [kA 11 6,kL 12 11,kU 13 (.ar .sub ZY (.t 12) (.c (Z8 ZY 1))),kB 7 13] (.blk 0 (.loop (.seq (kY [kA 14 7,kV 15 (.cm .geq ZY (.t 14) (.c (Z8 ZY 0)))] (.ite (.v 15) .skip (.exit 0))) (.seq (.blk 1 (.seq (kY [kA 18 6,kA 19 7,kI 20 1 18 19,kD 21 20,kA 22 1,kV 23 (.cm .lss ZY (.t 21) (.t 22))] (.ite (.v 23) (kY [kA 24 6,kA 25 7,kI 26 1 24 25,kD 27 26,kU 28 (.ar .add ZY (.t 27) (.c (Z8 ZY 1))),kI 29 1 24 25,kf (.st (.t 29) (.t 28))] (kY [kA 30 6,kB 4 30,kC 5 (Z5 ZT)] .ret)) .skip)) (.reg [kA 31 6,kA 32 7,kI 33 1 31 32,kf (.st (.t 33) (.c (Z8 ZY 0)))]))) (.reg [kA 16 7,kU 17 (.ar .sub ZY (.t 16) (.c (Z8 ZY 1))),kB 7 17])))))) (kY [kA 34 6,kB 4 34,kC 5 (Z5 ZS)] .ret)))
def CA:List RV:=[.t 4,.t 5]
def dA (most:Int):List Int->List Int×Bool
 |[]=>([],ZS)
 |a::t=>if(dA most t).2=ZT then(a::(dA most t).1,ZT)else if a<most then((a+1)::(dA most t).1,ZT)else(0::(dA most t).1,ZS)
def Fu (most:Int):∀l,(dA most l).1.length=l.length
 |[]=>rfl
 |a::t=>by
  have:=Fu most t;unfold dA
  split
  ·simp[this]
  ·split<;>simp[this]
def ze {most:Int}:∀{k:Nat} {l:List Int},(dA most (l.drop k)).2=ZT->dA most l=(l.take k++(dA most (l.drop k)).1,ZT)
 |0,l,h=>by
  rw[XB]at h⊢;rw[VN,XG,<-h]
 |k+1,[],h=>by simp[dA]at h
 |k+1,a::t,h=>by
  rw[List.drop_succ_cons]at h⊢;have:=ze h;rw[dA,this];simp
def sQ (P:Program) (k:FuncId):Prop:=∀(l:List Int) (v:ZR) (most:Int) (H:Hp),aP H v (iL l)->l.length<=1000->(∀u∈l,0<=u/\u<=1000)->an P k #[v,Z8 ZY most] H fun r H'=>∃w,r=ZZ #[w,.bool (dA most l).2]/\br H' w (iL (dA most l).1)/\(∀q,ay w q->H.size<=q)/\af (fun _=>False) H H'
def Sl {P:Program} {V:aH} {k:FuncId} (hk:ak P k (Cz V) CA 2):sQ P k:=by
 intro l v most H hv hl hr;refine qI fun Q hQ=>?_;refine ah hk (args:=[_,_]) (by simp) ?_;unfold Cz CA kA kB kC kD kI kL kU kV kc kf kY kZ;simp only[go_sem,Za,Zb];refine aG fun H1 b1 e1 z1 B1 K1=>?_;have s1:=K1.size;simp only[go_sem,Za,Zb];refine ja H.size (l:=([]:List ZR)) (m:=iL l) (br.new B1 rfl rfl) (fun q (hq:q=b1)=>by omega) (by omega) (hv.ai K1 (by simp)) (gT _) rfl (by omega) (by simp[aA];omega) fun w H2 O2 o2 K2=>?_;rw[XG]at O2;have cS:=K1.gK K2 (ZH _);have lw:aW w=l.length:=by rw[O2.sl.len,aA]
 have w1:IntKind.i64.wrap ((l.length:Int) -1)=(l.length:Int) -1:=ZN _ (by omega);rw[ae];simp only[go_sem,Za,Zb,O2.sl.aq,lw,w1];refine aT [7,15,23,4,5] rfl (fun n f A=>∃i:Nat,n=i/\i<=l.length/\f 7=Z8 ZY ((i:Int) -1)/\(dA most (l.drop i)).2=ZS/\br A w (iL (l.take i++(dA most (l.drop i)).1))/\af (fun _=>False) H A) l.length ⟨l.length,rfl,ZH _,by simp only[go_sem,Za,Zb,ae],by rw[V4];rfl,by rw[V4,List.take_length];simpa[dA]using O2,cS⟩ ?_;rintro n f A ⟨i,rfl,hi,f7,hb,O,K⟩;simp only[go_sem,Za,Zb,ae]at f7
 by_cases h0:n=0
 ·subst h0;have f7':f 7=Z8 ZY (-1):=by rw[f7];rfl
  have d:ZQ ((-1:Int)≥0)=ZS:=rfl;simp only[go_sem,Za,Zb,f7',d];rw[XB]at hb O;rw[VN,XG]at O;rw[hQ,hb];exact⟨w,rfl,O,o2,K⟩
 obtain⟨j,rfl⟩:∃j,n=j+1:=⟨n -1,by omega⟩
 have f7':f 7=Z8 ZY (j:Int):=by rw[f7];congr 1;omega
 have hj:j<l.length:=by omega
 have hdj:l.drop j=l[j]::l.drop (j+1):=List.drop_eq_getElem_cons hj;have hra:=hr l[j] (ZL hj);have htl:l.take (j+1)=l.take j++[l[j]]:=List.take_succ_eq_append_getElem hj;have hlt:(l.take j).length=j:=by rw[Zr];omega
 have hcl:(l.take (j+1)++(dA most (l.drop (j+1))).1).length=l.length:=by rw[ZK,Fu,Zr,List.length_drop];omega
 obtain⟨b,c,L,fT,h1,h2,hB,h3,h4⟩:=O.some (by intro e';have:=congrArg List.length e';rw[aA,hcl,List.length_nil]at this;omega);rw[aA,hcl]at fT h1 h3;subst fT;have yd:∀x:Int,(l.take (j+1)++(dA most (l.drop (j+1))).1).set j x=l.take j++x::(dA most (l.drop (j+1))).1:=fun x=>by
  rw[htl,ZA,List.set_append_right _ _ (by omega),hlt,W4];rfl
 have ah8:cell A ⟨b,j,ZU⟩=ZV (Z8 ZY l[j]):=by
  have:=O.sl.pV (i:=j) (by rw[aA,hcl];exact hj);rw[Nat.zero_add]at this;rw[this,dM _ _ (by rw[hcl];exact hj),htl,ZP,ZA,List.getElem?_append_right (by omega),hlt,W4]
  rfl
 have hb2:=o2 b rfl;have ts:=hB.bw (o:=j) (by omega);have st:∀x:Int,br (az A ⟨b,j,ZU⟩ (Z8 ZY x)) (Z6 (ZV ⟨b,0,ZU⟩) l.length c) (iL (l.take j++x::(dA most (l.drop (j+1))).1)):=fun x=>by
  have:=rM hB (l:=iL (l.take (j+1)++(dA most (l.drop (j+1))).1)) (by rw[aA,hcl];exact h1) h2 (by rw[aA,hcl];exact h3) j (Z8 ZY x) (by rw[aA,hcl];exact hj);rw[mq,yd,aA,hcl]at this;exact this
 have Ks:∀x:Int,af (fun q=>q=b) A (az A ⟨b,j,ZU⟩ (Z8 ZY x)):=fun x=>(af.refl _ _).az _ (.inl rfl);have d0:ZQ ((j:Int)≥0)=ZT:=decide_eq_true (by omega);have wa:IntKind.i64.wrap (l[j]+1)=l[j]+1:=ZN _ (by omega);have wj:IntKind.i64.wrap ((j:Int) -1)=(j:Int) -1:=ZN _ (by omega)
 by_cases IW:l[j]<most
 ·have d1:ZQ (l[j]<most)=ZT:=decide_eq_true IW;have hn:dA most (l.drop j)=((l[j]+1)::(dA most (l.drop (j+1))).1,ZT):=by
   rw[hdj,dA,hb];simp[IW]
  have hN:=ze (most:=most) (k:=j) (l:=l) (by rw[hn]);rw[hn]at hN;simp only[go_sem,Za,Zb,f7',d0,al,ah8,d1,wa,ts];refine⟨by omega,by omega,by omega,?_⟩;rw[ae];simp only[go_sem,Za,Zb];rw[hQ,hN];exact⟨_,rfl,st _,o2,K.trans' (Ks _) fun q hq e=>by omega⟩
 ·have d1:ZQ (l[j]<most)=ZS:=decide_eq_false IW;have hn:dA most (l.drop j)=(0::(dA most (l.drop (j+1))).1,ZS):=by
   rw[hdj,dA,hb];simp[IW]
  simp only[go_sem,Za,Zb,f7',d0,al,ah8,d1,ts,wj];refine⟨by omega,by omega,?_⟩;rw[ae];simp only[go_sem,Za,Zb,f7',wj];refine⟨j,by omega,j,rfl,by omega,rfl,by rw[hn],by rw[hn];exact st 0,K.trans' (Ks 0) fun q hq e=>by omega⟩
end Go.Mg
namespace Go.Mg
def yt (t:List Int×Bool):List (List Int)->Prop
 |[]=>False
 |[a]=>dA 4 a=t
 |a::b::l=>dA 4 a=(b,ZT)/\yt t (b::l)
def yt.app {t:List Int×Bool} {b:List Int} {m:List (List Int)} (hm:yt t (b::m)):∀{l:List (List Int)},yt (b,ZT) l->yt t (l++b::m)
 |[],h=>h.elim
 |[a],h=>⟨h,hm⟩
 |a::c::l,h=>⟨h.1,yt.app hm h.2⟩
def yt.map {z:List Int} (u:Int):∀{l:List (List Int)},yt (z,ZS) l->yt (if u<4 then((u+1)::z,ZT)else(0::z,ZS)) (l.map fun s=>u::s)
 |[],h=>h.elim
 |[a],h=>by
  have h:dA 4 a=(z,ZS):=h
  show dA 4 (u::a)=_
  rw[dA,h]
  rfl
 |a::b::l,h=>by
  refine⟨?_,yt.map u h.2⟩
  show dA 4 (u::a)=(u::b,ZT)
  rw[dA,h.1]
  rfl
def zf (n:Nat):c9 (n+1)=(c9 n).map (fun s=>(0:Int)::s)++((c9 n).map (fun s=>(1:Int)::s)++((c9 n).map (fun s=>(2:Int)::s)++((c9 n).map (fun s=>(3:Int)::s)++(c9 n).map fun s=>(4:Int)::s))):=by
 have e:ZF 5=[0,1,2,3,4]:=rfl;rw[c9,e];simp only[List.flatMap_cons,List.flatMap_nil,YY]
 rfl
def Ma:∀n,yt (ZM n 0,ZS) (c9 n)/\∃L,c9 n=ZM n 0::L
 |0=>⟨rfl,[],rfl⟩
 |n+1=>by
  obtain⟨h1,L,hL⟩:=Ma n;have h0:=yt.map 0 h1;have h2:=yt.map 1 h1;have h3:=yt.map 2 h1;have h4:=yt.map 3 h1;have h5:=yt.map 4 h1;rw[if_pos (by decide)]at h0 h2 h3 h4;rw[if_neg (by decide)]at h5;rw[zf];refine⟨?_,?_⟩
  ·rw[hL]at h0 h2 h3 h4 h5⊢;simp only[List.map_cons,List.cons_append]at h0 h2 h3 h4 h5⊢;refine yt.app (l:=_::_) ?_ h0;refine yt.app (l:=_::_) ?_ h2;refine yt.app (l:=_::_) ?_ h3;exact yt.app (l:=_::_) h5 h4
  ·rw[hL];exact⟨_,rfl⟩
def mP:∀n,(c9 n).length=5^n
 |0=>rfl
 |n+1=>by rw[zf];simp only[ZK,List.length_map,mP n];omega
def Fv (ms:List UInt64) (s:List Int):Bool:=(ZF s.length).all fun k=>ZQ (0<s.getD k 0)&&bt (ms.getD k 0) (s.getD k 0).toNat
def qN (F:cf) (ms:List UInt64) (s:List Int):Bool:=Fv ms s&&ZQ ((eY F s).1=0)
def lX (F:cf) (ms:List UInt64):List (List Int):=(c9 F.st.length).filter (qN F ms)
def eN (F:cf) (ms:List UInt64) (st:List Int):List (List Int):=(lX F ms).filter (jO st)
variable {F:cf} {s st:List Int} {ms:List UInt64}
def aga:(eY F s).1=0↔F.di.any (gC s)=ZS/\F.sa.any (fq s)=ZS/\F.mo.any (iX s)=ZS:=by
 have key:∀{α:Type} {p:α->Bool} {l:List α},l.findIdx? p=ZU↔l.any p=ZS:=fun{α p l}=>by
  rw[List.findIdx?_eq_none_iff,XJ];simp
 unfold eY
 cases h1:F.di.findIdx? (gC s)with
 |some i=>
  simp only
  constructor
  ·intro h;omega
  ·rintro⟨h,_⟩;rw[key.2 h]at h1;cases h1
 |none=>
  cases h2:F.sa.findIdx? (fq s)with
  |some i=>
   simp only
   constructor
   ·intro h;omega
   ·rintro⟨_,h,_⟩;rw[key.2 h]at h2;cases h2
  |none=>
   cases h3:F.mo.findIdx? (iX s)with
   |some i=>
    simp only
    constructor
    ·intro h;omega
    ·rintro⟨_,_,h⟩;rw[key.2 h]at h3;cases h3
   |none=>simp only[true_iff];exact⟨key.1 h1,key.1 h2,key.1 h3⟩
def bN (ms:List UInt64) (k:Nat):(ms.map bt).getD k (fun _=>ZS)=bt (ms.getD k 0):=by
 rw[ZP,ZP,List.getElem?_map]
 by_cases h:k<ms.length
 ·rw[ZO h];rfl
 ·rw[Zz (by omega)]
  funext n
  simp[bt]
def Sm (hs:∀u∈s,0<=u/\u<=4):qN F ms s=Bx (bJ F (ms.map bt)) s:=by
 rw[YU];unfold qN Bx jr;have e:∀k,fu (bJ F (ms.map bt)) k=bt (ms.getD k 0):=fun k=>bN ms k;have mi:∀(k:Nat),k<s.length->cz (bt (ms.getD k 0)) (s.getD k 0)=bt (ms.getD k 0) (s.getD k 0).toNat:=fun k hk=>by
  have:s.getD k 0∈s:=by rw[ZP,ZO hk];exact ZL _
  have:=hs _ this;unfold cz;rw[decide_eq_true (by omega),decide_eq_true (by omega)];rfl
 have hel:Fv ms s=ZT↔(s.all fun u=>ZQ (u≠0))=ZT/\elB (bJ F (ms.map bt)) s=ZS:=by
  unfold Fv;simp only[YH,YK,ZJ,decide_eq_true_eq];rw[Bool.eq_false_iff]
  constructor
  ·intro h;refine⟨fun u hu=>?_,fun hb=>?_⟩
   ·obtain⟨k,hk,rfl⟩:=List.getElem_of_mem hu;have:=(h k hk).1;rw[ZP,ZO hk]at this;simp only[Option.getD_some]at this;omega
   ·obtain⟨k,hk,h0,h1⟩:=jl.1 hb;rw[e,mi k hk,(h k hk).2]at h1
    cases h1
  ·rintro⟨h1,h2⟩ k hk;have hm:s.getD k 0∈s:=by rw[ZP,ZO hk];exact ZL _
   have:=h1 _ hm;have:=hs _ hm;refine⟨by omega,?_⟩
   cases hb:bt (ms.getD k 0) (s.getD k 0).toNat with
   |true=>rfl
   |false=>exact absurd (jl.2 ⟨k,hk,by omega,by rw[e,mi k hk];exact hb⟩) h2
 simp only[ZJ,decide_eq_true_eq,hel,aga,Yx,Bool.or_eq_false_iff]
 constructor
 ·rintro⟨⟨a,b⟩,c,d,e⟩;exact⟨a,⟨⟨b,c⟩,d⟩,e⟩
 ·rintro⟨a,⟨⟨b,c⟩,d⟩,e⟩;exact⟨⟨a,b⟩,c,d,e⟩
def abV (hst:st.length=F.st.length) (hms:∀k u,bt (ms.getD k 0) u=ZT->1<=u/\u<=4):lV (bJ F (ms.map bt)) (lW st+1) st=eN F ms st:=by
 rw[LR (fun k u h=>by rw[fu,bJ,bN]at h;exact hms k u h) _ _ (by omega)];unfold eN lX;rw[List.filter_filter,hst];refine List.filter_congr fun t ht=>?_;rw[Sm (gE.1 ht).2]
def nS (hst:st.length=F.st.length) (hms:∀k u,bt (ms.getD k 0) u=ZT->1<=u/\u<=4):et (bJ F (ms.map bt)) st=(eN F ms st).head?:=by
 unfold et;rw[abV hst hms]
end Go.Mg
namespace Go.Mg
def F5 (st:List Int):Nat->UInt64
 |0=>0
 |k+1=>if st.getD k 0≠0 then Gk (F5 st k) k else F5 st k
def xg {st:List Int}:∀{n:Nat},n<=64->bt (F5 st n)=cD st n
 |0,_=>by funext j;simp[F5,cD,bt]
 |n+1,h=>by
  rw[F5]
  split
  ·next h1=>
   funext j
   rw[zZ _ (by omega),xg (by omega)];unfold cD;rw[YU];simp only[Yq,ZJ,decide_eq_true_eq]
   constructor
   ·rintro(⟨a,b⟩|rfl)
    ·exact⟨by omega,b⟩
    ·exact⟨by omega,h1⟩
   ·rintro⟨a,b⟩
    by_cases e:j=n
    ·exact .inr e
    ·exact .inl ⟨by omega,b⟩
  ·next h1=>rw[xg (by omega),xc (by simpa using h1)]
def abW (ms:List UInt64):Prop:=∀k u,bt (ms.getD k 0) u=ZT->1<=u/\u<=4
def eU (r:cF):abW (aD r):=fun k u h=>by
 by_cases hk:k<oC r
 ·have e:(aD r).getD k 0=qx r k:=by simp[aD,ZP,hk]
  rw[e]at h;unfold bt at h;rw[sq]at h;obtain⟨m,hm⟩:∃m,m=if k<r.el.length then(r.el.getD k 0).toNat % 16 else 15:=⟨_,rfl⟩
  rw[<-hm]at h;have wO:m<16:=by rw[hm];split<;>omega
  have h2:=Nat.ge_two_pow_of_testBit h;have hu:u<5:=by
   apply Zn;intro hc;have:2^5<=2^u:=Nat.pow_le_pow_right (by omega) (by omega);omega
  have h0:u≠0:=by
   rintro rfl;rw[Nat.testBit_zero]at h;simp at h
  omega
 ·rw[ZP,Zz (by rw[cJ];omega)]at h;simp[bt]at h
def iP (F:cf) (ms:List UInt64) (st:List Int) (step user:Int):Int:=
 if step∈nI (nW F.st.length F.be (bt (F5 st st.length)))then
  if user<1\/4<user\/bt (ms.getD step.toNat 0) user.toNat=ZS then 3 else
  if(eY F (st.set step.toNat user)).1≠0 then 4 else if eN F ms (st.set step.toNat user)=[]then 5 else 1
 else 2
def uC (n:Nat) (st:List Int):Prop:=st.length=n/\∀u∈st,0<=u/\u<=4
variable {n:Nat} {st:List Int} {ms:List UInt64} {F:cf}
def uC.set (h:uC n st) {k:Nat} {u:Int} (hu:0<=u/\u<=4):uC n (st.set k u):=by
 refine⟨by rw[List.length_set];exact h.1,fun v hv=>?_⟩;rcases List.mem_or_eq_of_mem_set hv with h'|rfl
 ·exact h.2 v h'
 ·exact hu
def uC.U (h:uC n st):yp n st:=⟨h.1,fun u hu=>by have:=h.2 u hu;omega⟩
def uC.fit (h:uC n st):ux n st=ZT:=by
 unfold ux;simp only[ZJ,YH,decide_eq_true_eq];exact⟨fun u hu=>by have:=h.2 u hu;omega,h.1⟩
def qO (hm:abW ms) (k:Nat) (u:Int):cz (bt (ms.getD k 0)) u=ZT↔¬(u<1\/4<u\/bt (ms.getD k 0) u.toNat=ZS):=by
 unfold cz;simp only[ZJ,decide_eq_true_eq]
 constructor
 ·rintro⟨⟨h0,h1⟩,h2⟩;have:=hm k _ h2;rw[h2];simp;omega
 ·intro h;have h2:bt (ms.getD k 0) u.toNat=ZT:=by
   cases hb:bt (ms.getD k 0) u.toNat with
   |true=>rfl
   |false=>exact absurd (.inr (.inr hb)) h
  exact⟨⟨by omega,by omega⟩,h2⟩
def qP (hS:uC F.st.length st) (hn:F.st.length<=10) (hm:abW ms) (step user:Int):fH F (ms.map bt) st step user=iP F ms st step user:=by
 unfold fH iP;rw[xg (by rw[hS.1];omega),bN]
 by_cases h1:step∈nI (nW F.st.length F.be (cD st st.length))
 ·rw[if_pos h1,if_pos h1]
  by_cases h2:cz (bt (ms.getD step.toNat 0)) user=ZT
  ·rw[if_pos h2,if_neg ((qO hm _ _).1 h2)];have MN:=(qO hm _ _).1 h2;have hS':uC F.st.length (st.set step.toNat user):=hS.set (by omega);have e:(ly F (st.set step.toNat user)).2.2=ZQ ((eY F (st.set step.toNat user)).1=0):=by
    unfold ly;rw[if_pos hS'.fit]
   rw[e]
   by_cases h3:(eY F (st.set step.toNat user)).1=0
   ·rw[if_pos (decide_eq_true h3),if_neg (show¬(eY F (st.set step.toNat user)).1≠0 from fun hc=>hc h3),nS hS'.1 hm]
    cases eN F ms (st.set step.toNat user)with
    |nil=>rfl
    |cons a l=>rfl
   ·rw[if_neg (fun hc=>h3 (of_decide_eq_true hc)),if_pos h3]
  ·rw[if_neg h2,if_pos];apply Zn;intro hc;exact h2 ((qO hm _ _).2 hc)
 ·rw[if_neg h1,if_neg h1]
def abX {t:List Int}:t∈eN F ms st↔(t.length=F.st.length/\∀u∈t,0<=u/\u<=4)/\qN F ms t=ZT/\jO st t=ZT:=by
 unfold eN lX;rw[XV,XV,gE,and_assoc]
end Go.Mg
namespace Go.Mg
variable {n k:Nat} {be:List fC} {F:cf} {ms:List UInt64} {st:List Int} {user:Int}
def xh {d:Nat->Bool}:k∈nW n be d↔k<n/\gR be d k=ZS/\cz d (k:Int)=ZS:=by
 unfold nW;rw[XV,YK];simp only[ZJ,Yx]
def Sn {t:List Int} (ht:t∈eN F ms st) (hk:k<F.st.length):1<=t.getD k 0/\t.getD k 0<=4/\bt (ms.getD k 0) (t.getD k 0).toNat=ZT:=by
 obtain⟨⟨h1,h2⟩,h3,_⟩:=abX.1 ht;unfold qN Fv at h3;simp only[ZJ,YH,YK,decide_eq_true_eq]at h3;obtain⟨ha,hb⟩:=h3.1 k (by omega);have hm:t.getD k 0∈t:=by rw[ZP,ZO (by omega)];exact ZL _
 have:=h2 _ hm;exact⟨by omega,by omega,hb⟩
def qQ (be:List fC) (st:List Int):Bool:=be.all fun x=>ZQ (sI st x.2=0)||ZQ (sI st x.1≠0)
def abY (be:List fC) (n:Nat):qQ be (ZM n (0:Int))=ZT:=by
 unfold qQ;rw[YH];intro x _;have:sI (ZM n (0:Int)) x.2=0:=by
  unfold sI;rw[ZP,List.getElem?_replicate]
  split<;>rfl
 rw[this];simp
def abZ (hbe:∀x∈be,kj (n:Int) x) (hl:st.length=n) (hn:n<=1000) (h:qQ be st=ZT) (hk:k∈nW n be (cD st st.length)) (hu:user≠0):qQ be (st.set k user)=ZT:=by
 obtain⟨hkn,hw,_⟩:=xh.1 hk;unfold qQ at h⊢;rw[YH]at h⊢;rintro⟨x1,x2⟩ hx;have hx':=h _ hx;obtain⟨p1,p2,p3,p4⟩:=hbe _ hx;simp only at p1 p2 p3 p4;obtain⟨j1,rfl⟩:∃j:Nat,x1=(j:Int):=⟨x1.toNat,by omega⟩
 obtain⟨j2,rfl⟩:∃j:Nat,x2=(j:Int):=⟨x2.toNat,by omega⟩
 have g:∀j,j<n->(st.set k user).getD j 0=if k=j then user else st.getD j 0:=fun j hj=>by
  rw[ZP,List.getElem?_set]
  by_cases e:k=j
  ·subst e;simp[hl,hj]
  ·rw[if_neg e,if_neg e,<-ZP]
 rw[Yq,decide_eq_true_eq,decide_eq_true_eq]at hx'⊢;have s1:∀s:List Int,sI s ((j1:Nat):Int)=s.getD j1 0:=fun s=>by unfold sI;rw[Zo]
 have s2:∀s:List Int,sI s ((j2:Nat):Int)=s.getD j2 0:=fun s=>by unfold sI;rw[Zo]
 have hx':st.getD j2 0=0\/st.getD j1 0≠0:=by rw[<-s1,<-s2];exact hx'
 show sI (st.set k user) ((j2:Nat):Int)=0\/sI (st.set k user) ((j1:Nat):Int)≠0
 rw[s1,s2,g j1 (by omega),g j2 (by omega)];have key:st.getD j1 0≠0->(if k=j1 then user else st.getD j1 0)≠0:=fun h=>by split;exact hu;exact h
 by_cases e2:k=j2
 ·right
  apply key;unfold gR at hw;rw[XJ]at hw;have:=hw _ hx;simp only[e2,decide_true,X0,Yx,Bool.not_eq_false]at this;rw[gB (by omega)]at this;unfold cD at this;rw[ZJ,decide_eq_true_eq,decide_eq_true_eq]at this;exact this.2
 ·rw[if_neg e2];exact hx'.imp id key
def ah9 (hS:uC F.st.length st) (hn:F.st.length<=10) {step:Int} (h:iP F ms st step user=1):
  ∃k:Nat,step=(k:Int)/\k∈nW F.st.length F.be (cD st st.length)/\k<F.st.length/\st.getD k 0=0/\1<=user/\user<=4/\bt (ms.getD k 0) user.toNat=ZT/\eN F ms (st.set k user)≠[]/\uC F.st.length (st.set k user):=by
 unfold iP at h;rw[xg (by rw[hS.1];omega)]at h
 split at h
 ·next h1=>
  split at h
  ·omega
  ·next h2=>
   split at h
   ·omega
   ·next h3=>
    split at h
    ·omega
    ·next h4=>
     unfold nI at h1;obtain⟨k,hk,rfl⟩:=List.mem_map.1 h1;obtain⟨hkn,hw,hd⟩:=xh.1 hk;have h0:st.getD k 0=0:=by
      rw[gB (by omega)]at hd;unfold cD at hd;rw[hS.1,decide_eq_true hkn,X0]at hd;simpa using hd
     rw[Zo]at h2 h4;refine⟨k,rfl,hk,hkn,h0,by omega,by omega,?_,h4,hS.set (by omega)⟩
     cases hb:bt (ms.getD k 0) user.toNat with
     |true=>rfl
     |false=>exact absurd (.inr (.inr hb)) h2
 ·omega
end Go.Mg

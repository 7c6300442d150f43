/- Lemmas of ours. No conditions. -/
import Derived.Test.YtoclemmcphgikaaGreatDoorMgMA
import Derived.Test.YtoclemmcphgikaaGreatDoorMgLib
import Derived.Test.YtoclemmcphgikaaGreatDoorMgKp
open Bool renaming false→ZS,true→ZT
open Decidable renaming decide→ZQ
open Go renaming Value→ZR
open Go.IntKind renaming i64→ZY,u64→ZW,u8→ZX
open Go.Value renaming agg→Z0,bool→Z5,int→Z8,pointer→Z7,slice→Z6,tuple→ZZ
open Option renaming none→ZU,some→ZV
open And renaming intro→XQ
open Bool renaming true_and→X0
open Classical renaming byContradiction→Zn
open Decidable renaming byContradiction→YX
open Go.IntKind renaming wrap_u64→Y0
open Go.IntWalk renaming i64_in→ZN
open Int renaming eq_ofNat_of_zero_le→Xh,natCast_add→Yp,tdiv→Vv
open List renaming drop_eq_nil_of_le→Wy,drop_zero→XB,getD_eq_getElem?_getD→ZP,getElem?_append_left→YP,getElem?_append_right→Yf,getElem?_eq_getElem→ZO,getElem?_eq_none→Zz,getElem?_map→XL,getElem?_replicate→Zj,getLast_eq_getElem→Yr,length→Y8,length_append→ZK,length_nil→Zx,length_replicate→XK,range→ZF,range_succ→Yg,replicate→ZM,take_of_length_le→Zy
open Nat renaming add_le_add→WI,add_zero→WB,div_add_mod→VO,div_div_eq_div_mul→XT,eq_of_testBit_eq→Wj,le_div_iff_mul_le→Wn,le_refl→ZH,log2_lt→Wi,log2_self_le→VV,lt_of_le_of_lt→X9,mod_eq_of_lt→YF,mod_lt→WO,mul_one→Zs,mul_zero→VB,one_mul→Xk,pow_add→VA,pow_lt_pow_right→Xb,pow_succ→VC,sub_self→W4,testBit_and→Xt,testBit_eq_decide_div_mod_eq→XU,testBit_mod_two_pow→Wz,testBit_succ→VW,testBit_two_pow_mul_add→Yk,two_pow_pos→WM,zero_add→Zt
open Option renaming getD_some→Zu,map_some→YQ
open UInt64 renaming ofNat→Y7,toNat_and→WW,toNat_ofNat'→Zm,toNat_sub→WX
open Nat renaming reduceEqDiff→Za,reduceAdd→Zb,reduceMul→Zc
open Int renaming reduceBEq→Zf,reduceBNe→Zg
set_option maxRecDepth 100000
set_option linter.all false
namespace Go.Mg
def dt (x:UInt64):Nat:=((ZF 64).find? (bt x)).getD 64
variable {x:UInt64} {n t:Nat} {W A B:List UInt64} {p:Nat->Bool}
def ij (h:x≠0):dt x<64/\bt x (dt x)=ZT/\∀k<dt x,bt x k=ZS:=by
 unfold dt
 cases e:(ZF 64).find? (bt x)with
 |none=>
  exfalso
  apply h;rw[List.find?_eq_none]at e;apply oP;intro k hk;rw[eF];have:=e k (by simpa using hk);simpa using this
 |some t=>
  have h1:=List.mem_of_find?_eq_some e;have h2:=List.find?_some e;refine⟨by simpa using h1,h2,fun k hk=>?_⟩;simp only[Zu]at hk;rw[List.find?_range_eq_some]at e;have:=e.2.2 k hk;simpa using this
def Qg (h1:n.testBit t=ZT) (h2:∀k<t,n.testBit k=ZS):∃m,n=2^t*(2*m+1):=by
 have h3:n % 2^t=0:=by
  apply Wj;intro k;rw[Wz,Nat.zero_testBit]
  by_cases hk:k<t
  ·rw[h2 k hk];simp
  ·simp[hk]
 rw[XU,decide_eq_true_eq]at h1;refine⟨n/2^t/2,?_⟩;have e1:=VO n (2^t);have e2:=VO (n/2^t) 2;rw[h1]at e2;rw[e2];omega
def Lr (h1:n.testBit t=ZT) (h2:∀k<t,n.testBit k=ZS) (k:Nat):(n -1).testBit k=if k<t then ZT else if k=t then ZS else n.testBit k:=by
 obtain⟨m,rfl⟩:=Qg h1 h2;have hp:0<2^t:=WM t;have e:2^t*(2*m+1) -1=2^t*(2*m)+(2^t -1):=by
  rw[Nat.mul_add,Zs];omega
 rw[e,Yk _ (by omega),Nat.testBit_two_pow_mul]
 by_cases hk:k<t
 ·rw[if_pos hk,if_pos hk,Nat.testBit_two_pow_sub_one];simpa using hk
 ·rw[if_neg hk,if_neg hk]
  by_cases hk2:k=t
  ·subst hk2;rw[if_pos rfl,W4];simp
  ·rw[if_neg hk2];have e1:(k≥t):=by omega
   simp only[e1,decide_true,X0];obtain⟨d,rfl⟩:∃d,k=t+(d+1):=⟨k -t -1,by omega⟩
   have e2:t+(d+1) -t=d+1:=by omega
   rw[e2,VW,VW]
   congr 1;omega
def afs (x:UInt64):UInt64:=x&&&(x -1)
def Gp (h:x≠0):(x -1).toNat=x.toNat -1:=by
 have h0:x.toNat≠0:=fun e=>h (UInt64.toNat_inj.1 (by simpa using e));have:=x.toNat_lt;rw[WX];have e:(1:UInt64).toNat=1:=rfl;rw[e];omega
def aft (h:x≠0) (k:Nat):bt (afs x) k=(bt x k&&!decide (k=dt x)):=by
 obtain⟨_,b,c⟩:=ij h;unfold afs;have:bt (x&&&(x -1)) k=(bt x k&&(x.toNat -1).testBit k):=by
  unfold bt;rw[WW,Xt,Gp h]
 rw[this,Lr b c]
 by_cases h1:k<dt x
 ·rw[if_pos h1,c k h1];simp
 ·rw[if_neg h1]
  by_cases h2:k=dt x
  ·rw[if_pos h2];simp[h2]
  ·rw[if_neg h2]
   show(bt x k&&bt x k)=_
   simp[h2]
def aax (h:x≠0):x&&&(0 -x)=Y7 (2^dt x):=by
 obtain⟨a,b,c⟩:=ij h;apply oP;intro k hk;have h0:x.toNat≠0:=fun e=>h (UInt64.toNat_inj.1 (by simpa using e));have hlt:=x.toNat_lt;have e1:(0 -x).toNat=2^64 -((x.toNat -1)+1):=by
  rw[WX];have e:(0:UInt64).toNat=0:=rfl;rw[e];omega
 have e2:bt (x&&&(0 -x)) k=(bt x k&&(2^64 -((x.toNat -1)+1)).testBit k):=by
  unfold bt;rw[WW,Xt,e1]
 rw[e2,Nat.testBit_two_pow_sub_succ (by omega),Lr b c];have e3:bt (Y7 (2^dt x)) k=ZQ (dt x=k):=by
  unfold bt;rw[Zm,YF (Xb (by omega) a),Nat.testBit_two_pow]
 rw[e3]
 by_cases h1:k<dt x
 ·rw[c k h1];have:¬dt x=k:=by omega
  simp[this]
 ·rw[if_neg h1]
  by_cases h2:k=dt x
  ·subst h2;simp[b,hk]
  ·rw[if_neg h2];have:¬dt x=k:=fun h=>h2 h.symm;simp only[hk,decide_true,X0,this,decide_false]
   show(bt x k&&!bt x k)=ZS
   cases bt x k<;>rfl
def EB (x:UInt64):Nat:=cn 64 (bt x)
def fj (a b c d:Nat) (hb:b<256) (hd:d<256):(256*a+b)&&&(256*c+d)=256*(a&&&c)+(b&&&d):=by
 apply Wj;intro k;have e:(256:Nat)=2^8:=rfl;have hbd:b&&&d<2^8:=X9 Nat.and_le_left hb;rw[Xt,e,Yk _ hb,Yk _ hd,Yk _ hbd]
 split
 ·rw[Xt]
 ·rw[Xt]
def yH (c:Nat):Nat->Nat
 |0=>0
 |k+1=>256*yH c k+c
def p1 (m n:Nat):Nat:=(n/2&&&m)+(n&&&m)
def p2 (m n:Nat):Nat:=(n/4&&&m)+(n&&&m)
def p3 (m n:Nat):Nat:=(n/16+n)&&&m
def Qh:∀b:Fin 256,((b.val/2&&&0x55)=((128+b.val/2)&&&0x55))/\p1 0x55 b.val<256:=by decide+kernel
def afu:∀b:Fin 256,∀c:Fin 4,((c.val*64+b.val/4)&&&0x33)=(b.val/4&&&0x33):=by decide+kernel
def ahA:∀b:Fin 256,p2 0x33 b.val<=0x66/\p2 0x33 (p1 0x55 b.val)<=0x44/\p2 0x33 (p1 0x55 b.val) % 16<=4:=by decide+kernel
def afv:∀y:Fin 69,∀c:Fin 5,((c.val*16+y.val/16+y.val)&&&0x0f)=p3 0x0f y.val:=by decide+kernel
def M3 (b:Nat):Nat:=cn 8 fun k=>b.testBit k
def Qi:∀b:Fin 256,p3 0x0f (p2 0x33 (p1 0x55 b.val))=M3 b.val/\M3 b.val<=8:=by decide+kernel
def aay (m n b:Nat) (hb:b<256):p1 (256*m+0x55) (256*n+b)=256*p1 m n+p1 0x55 b:=by
 obtain⟨h1,_⟩:=Qh ⟨b,hb⟩;have e1:(256*n+b)/2=256*(n/2)+(n % 2*128+b/2):=by omega
 unfold p1;rw[e1,fj _ _ _ _ (by omega) (by omega),fj _ _ _ _ hb (by omega)];have e2:(n % 2*128+b/2)&&&0x55=b/2&&&0x55:=by
  have:n % 2=0\/n % 2=1:=by omega
  rcases this with h|h
  ·rw[h];simp
  ·rw[h,Xk];exact h1.symm
 rw[e2];omega
def aaz (m n b:Nat) (hb:b<256):p2 (256*m+0x33) (256*n+b)=256*p2 m n+p2 0x33 b:=by
 have h1:=afu ⟨b,hb⟩ ⟨n % 4,by omega⟩;have e1:(256*n+b)/4=256*(n/4)+(n % 4*64+b/4):=by omega
 unfold p2;rw[e1,fj _ _ _ _ (by omega) (by omega),fj _ _ _ _ hb (by omega)];have h1:(n % 4*64+b/4)&&&0x33=b/4&&&0x33:=h1;rw[h1];omega
def aaA (m n y:Nat) (hy:y<=0x44) (hn:n % 16<=4):p3 (256*m+0x0f) (256*n+y)=256*p3 m n+p3 0x0f y:=by
 have h1:=afv ⟨y,by omega⟩ ⟨n % 16,by omega⟩;have h1:((n % 16*16+y/16+y)&&&0x0f)=p3 0x0f y:=h1;have e1:(256*n+y)/16+(256*n+y)=256*(n/16+n)+(n % 16*16+y/16+y):=by omega
 unfold p3 at*;rw[e1,fj _ _ _ _ (by omega) (by omega),h1]
def aaB:Nat->Nat->Nat
 |0,_=>0
 |k+1,n=>256*aaB k (n/256)+M3 (n % 256)
def ahB:∀(k n:Nat),n<256^k->p2 (yH 0x33 k) (p1 (yH 0x55 k) n) % 16<=4/\p3 (yH 0x0f k) (p2 (yH 0x33 k) (p1 (yH 0x55 k) n))=aaB k n
 |0,n,h=>by
  have:n=0:=by simpa using h
  subst this
  decide
 |k+1,n,h=>by
  have hb:n % 256<256:=WO _ (by omega);have hk:n/256<256^k:=by rw[VC]at h;omega
  obtain⟨i1,i2⟩:=ahB k (n/256) hk;have e:n=256*(n/256)+n % 256:=by omega
  have s1:=aay (yH 0x55 k) (n/256) (n % 256) hb;rw[<-e]at s1;obtain⟨_,t1⟩:=Qh ⟨n % 256,hb⟩;obtain⟨_,t2,t3⟩:=ahA ⟨n % 256,hb⟩;have s2:=aaz (yH 0x33 k) (p1 (yH 0x55 k) (n/256)) (p1 0x55 (n % 256)) t1;rw[<-s1]at s2;have s3:=aaA (yH 0x0f k) (p2 (yH 0x33 k) (p1 (yH 0x55 k) (n/256))) (p2 0x33 (p1 0x55 (n % 256))) t2 i1;rw[<-s2]at s3;refine⟨?_,?_⟩
  ·show p2 (256*yH 0x33 k+0x33) (p1 (256*yH 0x55 k+0x55) n) % 16<=4
   rw[s2];have t3:p2 0x33 (p1 0x55 (n % 256)) % 16<=4:=t3;omega
  ·show p3 (256*yH 0x0f k+0x0f) (p2 (256*yH 0x33 k+0x33) (p1 (256*yH 0x55 k+0x55) n))=_
   rw[s3,i2,(Qi ⟨n % 256,hb⟩).1]
   rfl
def vF (a b:Nat) (p:Nat->Bool):cn (a+b) p=cn a p+cn b fun i=>p (a+i):=by
 induction b with
 |zero=>rfl
 |succ b ih=>rw[<-Nat.add_assoc,bK,bK,ih];omega
def je (k n:Nat):cn (8*(k+1)) (fun i=>n.testBit i)=M3 (n % 256)+cn (8*k) fun i=>(n/256).testBit i:=by
 rw[show 8*(k+1)=8+8*k by omega,vF]
 congr 1
 ·refine bY fun i hi=>?_;rw[show(256:Nat)=2^8 from rfl,Wz];simp[hi]
 ·refine bY fun i hi=>?_;rw[show(256:Nat)=2^8 from rfl,Nat.testBit_div_two_pow]
  congr 1
  omega
def EC (x:UInt64):∃c0 c1 c2 c3 c4 c5 c6 c7:Nat,aaB 8 x.toNat=c0+256*(c1+256*(c2+256*(c3+256*(c4+256*(c5+256*(c6+256*c7))))))/\EB x=c0+c1+c2+c3+c4+c5+c6+c7∧
  c0<=8/\c1<=8/\c2<=8/\c3<=8/\c4<=8/\c5<=8/\c6<=8/\c7<=8:=by
 have hp:∀n,M3 (n % 256)<=8:=fun n=>(Qi ⟨n % 256,WO _ (by omega)⟩).2;refine⟨M3 ((x.toNat) % 256),M3 ((x.toNat/256) % 256),M3 ((x.toNat/256/256) % 256),M3 ((x.toNat/256/256/256) % 256),M3 ((x.toNat/256/256/256/256) % 256),M3 ((x.toNat/256/256/256/256/256) % 256),M3 ((x.toNat/256/256/256/256/256/256) % 256),M3 ((x.toNat/256/256/256/256/256/256/256) % 256),?_,?_,hp _,hp _,hp _,hp _,hp _,hp _,hp _,hp _⟩
 ·simp only[aaB];omega
 ·have e:EB x=cn (8*(7+1)) fun i=>x.toNat.testBit i:=rfl;rw[e,je 7,je 6,je 5,je 4,je 3,je 2,je 1,je 0];simp only[VB,cn];omega
def cC (W:List UInt64) (n:Nat):Bool:=bt (W.getD (n/64) 0) (n % 64)
def fZ (h:64*W.length<=n):cC W n=ZS:=by
 unfold cC;rw[ZP,Zz (by omega)];exact eF _
def gV (W:List UInt64) (k b:Nat) (hb:b<64):cC W (64*k+b)=bt (W.getD k 0) b:=by
 unfold cC;rw[show(64*k+b)/64=k by omega,show(64*k+b) % 64=b by omega]
def Qj (hl:A.length=B.length) (h:∀n,cC A n=cC B n):A=B:=by
 apply List.ext_getElem hl;intro i h1 h2;apply oP;intro k hk;have:=h (64*i+k);rw[gV _ _ _ hk,gV _ _ _ hk]at this;simpa[ZP,h1,h2]using this
def Can (W:List UInt64):Prop:=∀h:W≠[],W.getLast h≠0
def Can.top (h:Can W) (hW:W≠[]):∃n,cC W n=ZT/\64*(W.length -1)<=n/\n<64*W.length:=by
 have hl:0<W.length:=List.length_pos_iff.2 hW;obtain⟨a,b,c⟩:=ij (h hW);refine⟨64*(W.length -1)+dt (W.getLast hW),?_,by omega,by omega⟩;rw[gV _ _ _ a,<-b]
 congr 1
 rw[ZP,Yr];have:W.length -1<W.length:=by omega
 simp[this]
def Can.ext (ha:Can A) (hb:Can B) (h:∀n,cC A n=cC B n):A=B:=by
 refine Qj ?_ h;rcases Nat.lt_trichotomy A.length B.length with hl|hl|hl
 ·obtain⟨n,h1,h2,h3⟩:=hb.top (List.length_pos_iff.1 (by omega));have:=h n;rw[h1,fZ (by omega)]at this;cases this
 ·exact hl
 ·obtain⟨n,h1,h2,h3⟩:=ha.top (List.length_pos_iff.1 (by omega));have:=h n;rw[h1,fZ (by omega)]at this;cases this
def bf (p:Nat->Bool):List Nat:=(ZF 4096).filter p
def vG (p:Nat->Bool):∀(N n:Nat),n<N->p n=ZT->((ZF N).filter p)[cn n p]?=ZV n
 |0,n,h,_=>by omega
 |N+1,n,h,hp=>by
  rw[Yg,List.filter_append]
  by_cases e:n<N
  ·have:=vG p N n e hp;have hl:=(List.getElem?_eq_some_iff.1 this).1;rw[YP hl];exact this
  ·have:n=N:=by omega
   subst this;rw[Yf (by rw[gU];exact ZH _),gU];simp[hp]
def qe {a b : Nat} (hab : a <= b) (h : ∀ i, a <= i -> i < b -> p i = ZS) : cn b p = cn a p := by
  induction b with
  | zero => have : a = 0 := by omega
            subst this; rfl
  | succ b ih =>
    by_cases e : a = b + 1
    · subst e; rfl
    · rw [bK, h b (by omega) (by omega), ih (by omega) fun i h1 h2 => h i h1 (by omega)]; simp
def my:n∈bf p↔n<4096/\p n=ZT:=by simp[bf]
def gx (p:Nat->Bool):(bf p).length=cn 4096 p:=gU _ _
end Go.Mg
namespace Go.Mg
open Go Go.RowKit
def Gq (V:aH):S:=
 kY [kC 2 (Z8 ZY 0)] (kY [kA 3 0,kU 4 (.sh .shr ZW (.t 3) (.c (Z8 ZW 1))),kU 5 (.bt .and ZW (.t 4) (.c (Z8 ZW 6148914691236517205))),kA 6 0,kU 7 (.bt .and ZW (.t 6) (.c (Z8 ZW 6148914691236517205))),kU 8 (.ar .add ZW (.t 5) (.t 7)),kB 0 8] (kY [kA 9 0,kU 10 (.sh .shr ZW (.t 9) (.c (Z8 ZW 2))),kU 11 (.bt .and ZW (.t 10) (.c (Z8 ZW 3689348814741910323))),kA 12 0,kU 13 (.bt .and ZW (.t 12) (.c (Z8 ZW 3689348814741910323))),kU 14 (.ar .add ZW (.t 11) (.t 13)),kB 0 14] (kY [kA 15 0,kU 16 (.sh .shr ZW (.t 15) (.c (Z8 ZW 4))),kA 17 0,kU 18 (.ar .add ZW (.t 16) (.t 17)),kU 19 (.bt .and ZW (.t 18) (.c (Z8 ZW 1085102592571150095))),kB 0 19] (kY [kA 20 0,kA 21 0,kU 22 (.sh .shr ZW (.t 21) (.c (Z8 ZW 8))),kU 23 (.ar .add ZW (.t 20) (.t 22)),kB 0 23] (kY [kA 24 0,kA 25 0,kU 26 (.sh .shr ZW (.t 25) (.c (Z8 ZW 16))),kU 27 (.ar .add ZW (.t 24) (.t 26)),kB 0 27] (kY [kA 28 0,kA 29 0,kU 30 (.sh .shr ZW (.t 29) (.c (Z8 ZW 32))),kU 31 (.ar .add ZW (.t 28) (.t 30)),kB 0 31] (kY [kA 32 0,kU 33 (.ii ZY (.t 32)),kU 34 (.bt .and ZY (.t 33) (.c (Z8 ZY 127))),kB 2 34] .ret)))))))
def Gr:List RV:=[.t 2]
def afw (V:aH):S:=
 kY [kC 2 (Z8 ZY 0)] (.seq (kY [kA 3 0,kV 4 (.cm .eql ZW (.t 3) (.c (Z8 ZW 0)))] (.ite (.v 4) (kY [kC 2 (Z8 ZY 64)] .ret) .skip)) (kY [kA 5 0,kA 6 0,kU 7 (.neg ZW (.t 6)),kU 8 (.bt .and ZW (.t 5) (.t 7)),kU 9 (.ar .mul ZW (.t 8) (.c (Z8 ZW 285870213051353865))),kU 10 (.sh .shr ZW (.t 9) (.c (Z8 ZW 58))),kU 11 (.ia 64 1 (.c (Z7 (.some ⟨V.g 125,0,.none⟩))) (.t 10)),kD 12 11,kU 13 (.ii ZY (.t 12)),kB 2 13] .ret))
def afx:List RV:=[.t 2]
def Ae (V:aH):S:=
 kY [kC 2 (Z8 ZY 0)] (.seq (kY [kA 3 0,kV 4 (.cm .geq ZW (.t 3) (.c (Z8 ZW 4294967296)))] (.ite (.v 4) (kY [kA 5 0,kU 6 (.sh .shr ZW (.t 5) (.c (Z8 ZW 32))),kB 0 6] (.reg [kC 2 (Z8 ZY 32)])) .skip)) (.seq (kY [kA 7 0,kV 8 (.cm .geq ZW (.t 7) (.c (Z8 ZW 65536)))] (.ite (.v 8) (kY [kA 9 0,kU 10 (.sh .shr ZW (.t 9) (.c (Z8 ZW 16))),kB 0 10] (.reg [kA 11 2,kU 12 (.ar .add ZY (.t 11) (.c (Z8 ZY 16))),kB 2 12])) .skip)) (.seq (kY [kA 13 0,kV 14 (.cm .geq ZW (.t 13) (.c (Z8 ZW 256)))] (.ite (.v 14) (kY [kA 15 0,kU 16 (.sh .shr ZW (.t 15) (.c (Z8 ZW 8))),kB 0 16] (.reg [kA 17 2,kU 18 (.ar .add ZY (.t 17) (.c (Z8 ZY 8))),kB 2 18])) .skip)) (kY [kA 19 2,kA 20 0,kU 21 (.ii ZX (.t 20)),kU 22 (.m (.ixs (.c (.string ⟨#[0,1,2,2,3,3,3,3,4,4,4,4,4,4,4,4,5,5,5,5,5,5,5,5,5,5,5,5,5,5,5,5,6,6,6,6,6,6,6,6,6,6,6,6,6,6,6,6,6,6,6,6,6,6,6,6,6,6,6,6,6,6,6,6,7,7,7,7,7,7,7,7,7,7,7,7,7,7,7,7,7,7,7,7,7,7,7,7,7,7,7,7,7,7,7,7,7,7,7,7,7,7,7,7,7,7,7,7,7,7,7,7,7,7,7,7,7,7,7,7,7,7,7,7,7,7,7,7,8,8,8,8,8,8,8,8,8,8,8,8,8,8,8,8,8,8,8,8,8,8,8,8,8,8,8,8,8,8,8,8,8,8,8,8,8,8,8,8,8,8,8,8,8,8,8,8,8,8,8,8,8,8,8,8,8,8,8,8,8,8,8,8,8,8,8,8,8,8,8,8,8,8,8,8,8,8,8,8,8,8,8,8,8,8,8,8,8,8,8,8,8,8,8,8,8,8,8,8,8,8,8,8,8,8,8,8,8,8,8,8,8,8,8,8,8,8,8,8,8,8,8,8,8,8,8,8]⟩)) (.t 21))),kU 23 (.ii ZY (.t 22)),kU 24 (.ar .add ZY (.t 19) (.t 23)),kB 2 24] .ret))))
def Af:List RV:=[.t 2]
def u64_and (a b:Nat) (ha:a<18446744073709551616) (hb:b<18446744073709551616):bits .and ZW (a:Int) (b:Int)=((a&&&b:Nat):Int):=by
 have h:=mw (Y7 a) (Y7 b);rw[WW,Zm,Zm,YF ha,YF hb]at h;exact h
def u64_in (n:Nat) (h:n<18446744073709551616):IntKind.u64.wrap (n:Int)=(n:Int):=by rw[Y0];omega
def akh (x:UInt64) (k:Nat):bits .and ZW ((x.toNat:Int)/2^k) 1=if bt x k=ZT then 1 else 0:=by
 have e:((x.toNat:Int)/2^k)=((x.toNat/2^k:Nat):Int):=by simp
 have hlt:x.toNat/2^k<18446744073709551616:=X9 (Nat.div_le_self _ _) x.toNat_lt;rw[e,show(1:Int)=((1:Nat):Int)from rfl,u64_and _ _ hlt (by omega),Nat.and_one_is_mod];unfold bt;rw[XU]
 by_cases h:x.toNat/2^k % 2=1
 ·simp[h]
 ·have:x.toNat/2^k % 2=0:=by omega
  simp[this]
def i64_and127 (n:Nat) (h:n<9223372036854775808):bits .and ZY (n:Int) 127=((n % 128:Nat):Int):=by
 show IntKind.i64.wrap ((BitVec.ofInt 64 (n:Int)&&&BitVec.ofInt 64 127).toNat:Int)=_
 have e:(BitVec.ofInt 64 (n:Int)&&&BitVec.ofInt 64 127).toNat=n % 128:=by
  rw[BitVec.toNat_and];have e1:(BitVec.ofInt 64 (n:Int)).toNat=n:=by simp;omega
  have e2:(BitVec.ofInt 64 127).toNat=127:=by decide
  rw[e1,e2,show 127=2^7 -1 from rfl,Nat.and_two_pow_sub_one_eq_mod]
 rw[e];exact ZN _ ⟨by omega,by omega⟩
def dig (c T:Nat->Nat):Prop:=∀i,T i=c i+256*T (i+1)
variable {c T:Nat->Nat} {P:Program} {V:aH} {k:FuncId}
def Ag (h:dig c T) (hc:∀i,c i<256) (i:Nat):T i/256=T (i+1):=by
 have a:=h i;have b:=hc i;rw[a];generalize T (i+1)=y at*;generalize c i=z at*;omega
def Ah (h:dig c T) (s:Nat):dig (fun i=>c i+c (i+s)) (fun i=>T i+T (i+s)):=by
 intro i;have a:=h i;have b:=h (i+s);have e:i+s+1=i+1+s:=by omega
 rw[e]at b;simp only;rw[a,b];generalize T (i+1)=y;generalize T (i+1+s)=z;omega
def tl8:List Nat->Nat
 |[]=>0
 |a::l=>a+256*tl8 l
def aaC (l:List Nat):dig (fun i=>l.getD i 0) (fun i=>tl8 (l.drop i)):=by
 intro i;simp only
 by_cases h:i<l.length
 ·rw[List.drop_eq_getElem_cons h,ZP,ZO h];rfl
 ·rw[Wy (by omega),Wy (by omega),ZP,Zz (by omega)];rfl
def afy (hd:dig c T) (hc:∀i,c i<=8):(T 0+T 0/256+(T 0+T 0/256)/65536+(T 0+T 0/256+(T 0+T 0/256)/65536)/4294967296) % 128=c 0+c 1+c 2+c 3+c 4+c 5+c 6+c 7:=by
 have e1:T 0/256=T 1:=Ag hd (fun i=>X9 (hc i) (by decide)) 0;rw[e1];obtain⟨A,hA⟩:∃A:Nat->Nat,A=fun i=>T i+T (i+1):=⟨_,rfl⟩
 obtain⟨a,ha⟩:∃a:Nat->Nat,a=fun i=>c i+c (i+1):=⟨_,rfl⟩
 have s1:dig a A:=by rw[hA,ha];exact Ah hd 1
 have a1:∀i,a i<=16:=fun i=>by rw[ha];exact WI (hc i) (hc (i+1))
 have hA0:T 0+T 1=A 0:=by rw[hA]
 rw[hA0];have d1:∀i,A i/256=A (i+1):=fun i=>Ag s1 (fun i=>X9 (a1 i) (by decide)) i;have e2:A 0/65536=A 2:=by
  rw[show 65536=256*256 from rfl,<-XT,d1,d1]
 rw[e2];obtain⟨B,hB⟩:∃B:Nat->Nat,B=fun i=>A i+A (i+2):=⟨_,rfl⟩
 obtain⟨b,hb⟩:∃b:Nat->Nat,b=fun i=>a i+a (i+2):=⟨_,rfl⟩
 have s2:dig b B:=by rw[hB,hb];exact Ah s1 2
 have b1:∀i,b i<=32:=fun i=>by rw[hb];exact WI (a1 i) (a1 (i+2))
 have hB0:A 0+A 2=B 0:=by rw[hB]
 rw[hB0];have d2:∀i,B i/256=B (i+1):=fun i=>Ag s2 (fun i=>X9 (b1 i) (by decide)) i;have e3:B 0/4294967296=B 4:=by
  rw[show 4294967296=256*256*256*256 from rfl,<-XT,<-XT,<-XT,d2,d2,d2,d2]
 rw[e3];have s3:=Ah s2 4 0;simp only[Zt]at s3;rw[s3];have fin:∀z y:Nat,y<=64->(y+256*z) % 128=y:=fun z y h=>by omega
 rw[fin _ _ (WI (b1 0) (b1 4)),hb,ha];simp only[Zt,Zb];generalize c 0=x0;generalize c 1=x1;generalize c 2=x2;generalize c 3=x3;generalize c 4=x4;generalize c 5=x5;generalize c 6=x6;generalize c 7=x7;omega
def ED (P:Program) (k:FuncId):Prop:=∀(x:UInt64) (H:Hp),an P k #[Z8 ZW x.toNat] H fun r H'=>r=Z8 ZY (EB x:Int)/\H'=H
def uJ (a b:Nat):a&&&b<=b:=Nat.and_le_right
def aaD (hk:ak P k (Gq V) Gr 1):ED P k:=by
 intro x H;refine ah hk (args:=[_]) (by simp) ?_;unfold Gq Gr kA kB kC kU kY;have hx:=x.toNat_lt;have g1:yH 0x55 8=6148914691236517205:=by decide
 have g2:yH 0x33 8=3689348814741910323:=by decide
 have g3:yH 0x0f 8=1085102592571150095:=by decide
 obtain⟨-,hp⟩:=ahB 8 x.toNat (by have:=x.toNat_lt;exact this);rw[g1,g2,g3]at hp;obtain⟨c0,c1,c2,c3,c4,c5,c6,c7,hs,hc,h0,h1,h2,h3,h4,h5,h6,h7⟩:=EC x;rw[hs]at hp
 -- the first sum
 have a1:bits .and ZW ((x.toNat:Int)/2^1) 6148914691236517205=((x.toNat/2&&&6148914691236517205:Nat):Int):=by
  have:=u64_and (x.toNat/2) 6148914691236517205 (by omega) (by omega);rw[<-this];rfl
 have a2:bits .and ZW (x.toNat:Int) 6148914691236517205=((x.toNat&&&6148914691236517205:Nat):Int):=u64_and _ 6148914691236517205 hx (by omega);have l1:=uJ (x.toNat/2) 6148914691236517205;have l2:=uJ x.toNat 6148914691236517205;have a3:IntKind.u64.wrap (((x.toNat/2&&&6148914691236517205:Nat):Int)+((x.toNat&&&6148914691236517205:Nat):Int))=((p1 6148914691236517205 x.toNat:Nat):Int):=by
  unfold p1;rw[<-Yp];exact u64_in _ (by omega)
 have b1:p1 6148914691236517205 x.toNat<=12297829382473034410:=by unfold p1;omega
 simp only[go_sem,zS,↓reduceIte,Za,Zb,Zc,reduceCtorEq,ae,mh,a1,a2,a3];generalize p1 6148914691236517205 x.toNat=m at*;have a4:bits .and ZW ((m:Int)/2^2) 3689348814741910323=((m/4&&&3689348814741910323:Nat):Int):=by
  have:=u64_and (m/4) 3689348814741910323 (by omega) (by omega);rw[<-this];rfl
 have a5:bits .and ZW (m:Int) 3689348814741910323=((m&&&3689348814741910323:Nat):Int):=u64_and _ 3689348814741910323 (by omega) (by omega);have l3:=uJ (m/4) 3689348814741910323;have l4:=uJ m 3689348814741910323;have a6:IntKind.u64.wrap (((m/4&&&3689348814741910323:Nat):Int)+((m&&&3689348814741910323:Nat):Int))=((p2 3689348814741910323 m:Nat):Int):=by
  unfold p2;rw[<-Yp];exact u64_in _ (by omega)
 have b2:p2 3689348814741910323 m<=7378697629483820646:=by unfold p2;omega
 simp only[a4,a5,a6];generalize p2 3689348814741910323 m=q at*;have a7:IntKind.u64.wrap ((q:Int)/2^4+(q:Int))=((q/16+q:Nat):Int):=by
  have e:((q:Int)/2^4)=((q/16:Nat):Int):=by simp
  rw[e,<-Yp];exact u64_in _ (by omega)
 have a8:bits .and ZW ((q/16+q:Nat):Int) 1085102592571150095=((p3 1085102592571150095 q:Nat):Int):=u64_and _ 1085102592571150095 (by omega) (by omega);simp only[a7,a8,hp];generalize ht:c0+256*(c1+256*(c2+256*(c3+256*(c4+256*(c5+256*(c6+256*c7))))))=t;have a9:IntKind.u64.wrap ((t:Int)+(t:Int)/2^8)=((t+t/256:Nat):Int):=by
  have e:((t:Int)/2^8)=((t/256:Nat):Int):=by simp
  rw[e,<-Yp];exact u64_in _ (by omega)
 simp only[a9];generalize ht2:t+t/256=t2;have a10:IntKind.u64.wrap ((t2:Int)+(t2:Int)/2^16)=((t2+t2/65536:Nat):Int):=by
  have e:((t2:Int)/2^16)=((t2/65536:Nat):Int):=by simp
  rw[e,<-Yp];exact u64_in _ (by omega)
 simp only[a10];generalize ht3:t2+t2/65536=t3;have a11:IntKind.u64.wrap ((t3:Int)+(t3:Int)/2^32)=((t3+t3/4294967296:Nat):Int):=by
  have e:((t3:Int)/2^32)=((t3/4294967296:Nat):Int):=by simp
  rw[e,<-Yp];exact u64_in _ (by omega)
 simp only[a11];generalize ht4:t3+t3/4294967296=t4;have hb4:t4<9223372036854775808:=by omega
 have a12:IntKind.i64.wrap (t4:Int)=(t4:Int):=ZN _ ⟨by omega,by omega⟩;simp only[a12,i64_and127 _ hb4,go_sem,zS,↓reduceIte,Za,Zb,Zc,reduceCtorEq,ae];have this:t4 % 128=EB x:=by
  have hle:∀i,([c0,c1,c2,c3,c4,c5,c6,c7]:List Nat).getD i 0<=8:=by
   intro i;rcases i with _|_|_|_|_|_|_|_|i
   ·exact h0
   ·exact h1
   ·exact h2
   ·exact h3
   ·exact h4
   ·exact h5
   ·exact h6
   ·exact h7
   ·exact Nat.zero_le _
  have hf:=afy (aaC [c0,c1,c2,c3,c4,c5,c6,c7]) hle;have hT:tl8 (List.drop 0 [c0,c1,c2,c3,c4,c5,c6,c7])=t:=by rw[<-ht,XB];simp only[tl8,VB,WB]
  simp only[hT,ht2,ht3,ht4]at hf;rw[hc];exact hf
 rw[this]
 repeat' apply XQ
 all_goals first|trivial|decide|omega
def aaE:List Nat:=[0,1,56,2,57,49,28,3,61,58,42,50,38,29,17,4,62,47,59,36,45,43,51,22,53,39,33,30,24,18,12,5,63,55,48,27,60,41,37,16,46,35,44,21,52,32,23,11,54,26,40,15,34,20,31,10,25,14,19,9,13,8,7,6]
def bh (V:aH) (H:Hp):Prop:=Bl H (V.g 125) ((aaE.map fun n:Nat=>(n:Int)).map (Value.int ZX))
def bh.ai {H H':Hp} (h:bh V H) (hk:af (fun _=>False) H H'):bh V H':=hk.bl h id
def afz:∀t:Fin 64,aaE.getD (2^t.val*285870213051353865 % 18446744073709551616/288230376151711744) 0=t.val/\2^t.val*285870213051353865 % 18446744073709551616/288230376151711744<64:=by decide+kernel
def mz (P:Program) (V:aH) (k:FuncId):Prop:=∀(x:UInt64) (H:Hp),bh V H->x≠0->an P k #[Z8 ZW x.toNat] H fun r H'=>r=Z8 ZY (dt x:Int)/\H'=H
def ahC (hk:ak P k (afw V) afx 1):mz P V k:=by
 intro x H hT hx;refine ah hk (args:=[_]) (by simp) ?_;unfold afw afx kA kB kC kD kU kV kY;obtain⟨hl,_,_⟩:=ij hx;have h0:¬((x.toNat:Int)==0)=ZT:=by
  simp only[beq_iff_eq];intro e;exact hx (UInt64.toNat_inj.1 (by simpa using e))
 have h0:((x.toNat:Int)==0)=ZS:=by simpa using h0
 have aki:IntKind.u64.wrap (-(x.toNat:Int))=((0 -x:UInt64).toNat:Int):=by
  have:=x.toNat_lt;have h1:x.toNat≠0:=fun e=>hx (UInt64.toNat_inj.1 (by simpa using e));rw[Y0,WX];have e:(0:UInt64).toNat=0:=rfl;rw[e];omega
 have hand:=mw x (0 -x);rw[aax hx]at hand;have hp:(Y7 (2^dt x)).toNat=2^dt x:=by
  rw[Zm];exact YF (Xb (by omega) hl)
 rw[hp]at hand;obtain⟨t1,t2⟩:=afz ⟨dt x,hl⟩;simp only at t1 t2;have hmul:IntKind.u64.wrap (((2^dt x:Nat):Int)*285870213051353865)=((2^dt x*285870213051353865 % 18446744073709551616:Nat):Int):=by
  rw[Y0];simp
 have hsh:((2^dt x*285870213051353865 % 18446744073709551616:Nat):Int)/2^58=((2^dt x*285870213051353865 % 18446744073709551616/288230376151711744:Nat):Int):=by simp
 have hcell:cell H ⟨V.g 125,2^dt x*285870213051353865 % 18446744073709551616/288230376151711744,ZU⟩=ZV (Z8 ZX (dt x:Int)):=by
  rw[hT.cell];have hlen:aaE.length=64:=by decide
  rw[XL,XL,ZO (by rw[hlen];exact t2)];simp only[YQ];rw[ZP,ZO (by rw[hlen];exact t2),Zu]at t1;rw[t1]
 have hw:IntKind.i64.wrap (dt x:Int)=(dt x:Int):=ZN _ ⟨by omega,by omega⟩;simp only[go_sem,zS,↓reduceIte,Za,Zb,Zc,reduceCtorEq,ae,h0,aki,hand,hmul,mh,hsh,al,hcell,hw]
 repeat' apply XQ
 all_goals first|trivial|decide|omega|exact_mod_cast t2
def vH:List UInt8:=[0,1,2,2,3,3,3,3]++ZM 8 4++ZM 16 5++ZM 32 6++ZM 64 7++ZM 128 8
def vI (b:Nat):Nat:=(vH.getD b 0).toNat
def Ls:∀b:Fin 256,b.val<2^vI b.val/\(b.val≠0->2^(vI b.val -1)<=b.val/\1<=vI b.val)/\vI b.val<=8:=by decide+kernel
def ef (n:Nat):Nat:=if n=0 then 0 else n.log2+1
def Lt {n k:Nat} (h1:n<2^k) (h2:2^(k -1)<=n) (h3:1<=k):ef n=k:=by
 have hn:n≠0:=by have:=WM (k -1);omega
 unfold ef;rw[if_neg hn];have:n.log2=k -1:=(Nat.log2_eq_iff hn).2 ⟨h2,by rw[show k -1+1=k by omega];exact h1⟩;omega
def Qk (b:Nat) (h:b<256):ef b=vI b:=by
 obtain⟨h1,h2,_⟩:=Ls ⟨b,h⟩;simp only at h1 h2
 by_cases e:b=0
 ·subst e;decide
 ·exact Lt h1 (h2 e).1 (h2 e).2
def vJ (n k:Nat) (h:2^k<=n):ef n=k+ef (n/2^k):=by
 have hp:=WM k;have hn:n≠0:=by omega
 have hd:n/2^k≠0:=by have:=(Wn hp).2 (by rw[Xk];exact h);omega
 have e1:=VV hd;have e2:=(Wi hd (k:=(n/2^k).log2+1)).1 (by omega);have:ef (n/2^k)=(n/2^k).log2+1:=by unfold ef;rw[if_neg hd]
 rw[this];refine Lt ?_ ?_ (by omega)
 ·rw[VA];have:=(Nat.div_lt_iff_lt_mul hp).1 e2;rw[Nat.mul_comm];exact this
 ·rw[show k+((n/2^k).log2+1) -1=(n/2^k).log2+k by omega,VA];exact(Wn hp).1 e1
def Lu (P:Program) (k:FuncId):Prop:=∀(x:UInt64) (H:Hp),an P k #[Z8 ZW x.toNat] H fun r H'=>r=Z8 ZY (ef x.toNat:Int)/\H'=H
def Ql:(#[0,1,2,2,3,3,3,3,4,4,4,4,4,4,4,4,5,5,5,5,5,5,5,5,5,5,5,5,5,5,5,5,6,6,6,6,6,6,6,6,6,6,6,6,6,6,6,6,6,6,6,6,6,6,6,6,6,6,6,6,6,6,6,6,7,7,7,7,7,7,7,7,7,7,7,7,7,7,7,7,7,7,7,7,7,7,7,7,7,7,7,7,7,7,7,7,7,7,7,7,7,7,7,7,7,7,7,7,7,7,7,7,7,7,7,7,7,7,7,7,7,7,7,7,7,7,7,7,8,8,8,8,8,8,8,8,8,8,8,8,8,8,8,8,8,8,8,8,8,8,8,8,8,8,8,8,8,8,8,8,8,8,8,8,8,8,8,8,8,8,8,8,8,8,8,8,8,8,8,8,8,8,8,8,8,8,8,8,8,8,8,8,8,8,8,8,8,8,8,8,8,8,8,8,8,8,8,8,8,8,8,8,8,8,8,8,8,8,8,8,8,8,8,8,8,8,8,8,8,8,8,8,8,8,8,8,8,8,8,8,8,8,8,8,8,8,8,8,8,8,8,8,8,8,8,8]:Array UInt8)=vH.toArray:=by decide+kernel
def Qm (hk:ak P k (Ae V) Af 1):Lu P k:=by
 intro x H;refine ah hk (args:=[_]) (by simp) ?_;unfold Ae Af kA kB kC kU kV kY;have hx:=x.toNat_lt;generalize x.toNat=n at*;have last:∀(m a:Nat),m<256->a<=56->ef n=a+ef m->∀f:Fr,f 0=Z8 ZW (m:Int)->f 2=Z8 ZY (a:Int)→
   vc P (.seq (.reg [.p (.t 19) (.mv (.v 2)),.p (.t 20) (.mv (.v 0)),.p (.t 21) (.ii ZX (.t 20)),.p (.t 22) (.m (.ixs (.c (.string ⟨vH.toArray⟩)) (.t 21))),.p (.t 23) (.ii ZY (.t 22)),.p (.t 24) (.ar .add ZY (.t 19) (.t 23)),.p (.v 2) (.mv (.t 24))]) .ret)
    (kr [.t 2] fun r H'=>r=Z8 ZY (ef n:Int)/\H'=H) f H:=by
  intro m a hm ha he f f0 f2;have hw8:IntKind.u8.wrap (m:Int)=(m:Int):=by rw[IntKind.wrap_u8];omega
  have hlen:vH.length=256:=by decide
  have hg:=Qd vH m (by omega);obtain⟨_,_,h8⟩:=Ls ⟨m,hm⟩;have h8:vI m<=8:=h8;have hT:(vH.getD m 0).toNat=vI m:=rfl;have hw1:IntKind.i64.wrap (vI m:Int)=(vI m:Int):=ZN _ ⟨by omega,by omega⟩;have hw2:IntKind.i64.wrap ((a:Int)+(vI m:Int))=((a+vI m:Nat):Int):=by rw[<-Yp];exact ZN _ ⟨by omega,by omega⟩
  simp only[go_sem,zS,↓reduceIte,Za,Zb,Zc,reduceCtorEq,ae,f0,f2,hw8,jd,hlen,al,hg,hT,hw1,hw2];rw[he,Qk m hm]
  repeat' apply XQ
  all_goals first|trivial|decide|omega
 rw[Ql];generalize amb:S.seq (.reg [.p (.t 19) (.mv (.v 2)),.p (.t 20) (.mv (.v 0)),.p (.t 21) (.ii ZX (.t 20)),.p (.t 22) (.m (.ixs (.c (.string ⟨vH.toArray⟩)) (.t 21))),.p (.t 23) (.ii ZY (.t 22)),.p (.t 24) (.ar .add ZY (.t 19) (.t 23)),.p (.v 2) (.mv (.t 24))]) .ret=LST at last⊢
 -- the third test
 have Qn:∀(m a:Nat),m<65536->(a=0\/a=16\/a=32\/a=48)->ef n=a+ef m->∀f:Fr,f 0=Z8 ZW (m:Int)->f 2=Z8 ZY (a:Int)→
   vc P (.seq (.seq (.reg [.p (.t 13) (.mv (.v 0)),.p (.v 14) (.cm .geq ZW (.t 13) (.c (Z8 ZW 256)))]) (.ite (.v 14) (.seq (.reg [.p (.t 15) (.mv (.v 0)),.p (.t 16) (.sh .shr ZW (.t 15) (.c (Z8 ZW 8))),.p (.v 0) (.mv (.t 16))]) (.reg [.p (.t 17) (.mv (.v 2)),.p (.t 18) (.ar .add ZY (.t 17) (.c (Z8 ZY 8))),.p (.v 2) (.mv (.t 18))])) .skip)) LST)
    (kr [.t 2] fun r H'=>r=Z8 ZY (ef n:Int)/\H'=H) f H:=by
  intro m a hm ha he f f0 f2;have hw:IntKind.i64.wrap ((a:Int)+8)=((a+8:Nat):Int):=by rw[show((a:Int)+8)=((a+8:Nat):Int) by simp];exact ZN _ ⟨by omega,by omega⟩
  have hd:(m:Int)/2^8=((m/2^8:Nat):Int):=by simp
  simp only[go_sem,zS,↓reduceIte,Za,Zb,Zc,reduceCtorEq,ae,f0,f2,mh,hw,hd];refine aN (fun h=>?_) (fun h=>?_)
  ·have h:256<=m:=by omega
   exact⟨by decide,last _ _ (by omega) (by omega) (by rw[he,vJ m 8 (by omega)];omega) _ rfl rfl⟩
  ·exact last m a (by omega) (by omega) he _ (by simp only[go_sem,zS,↓reduceIte,Za,Zb,Zc,reduceCtorEq,ae,f0]) (by simp only[go_sem,zS,↓reduceIte,Za,Zb,Zc,reduceCtorEq,ae,f2])
 generalize amc:S.seq (.seq (.reg [.p (.t 13) (.mv (.v 0)),.p (.v 14) (.cm .geq ZW (.t 13) (.c (Z8 ZW 256)))]) (.ite (.v 14) (.seq (.reg [.p (.t 15) (.mv (.v 0)),.p (.t 16) (.sh .shr ZW (.t 15) (.c (Z8 ZW 8))),.p (.v 0) (.mv (.t 16))]) (.reg [.p (.t 17) (.mv (.v 2)),.p (.t 18) (.ar .add ZY (.t 17) (.c (Z8 ZY 8))),.p (.v 2) (.mv (.t 18))])) .skip)) LST=TRD at Qn⊢;have second:∀(m a:Nat),m<4294967296->(a=0\/a=32)->ef n=a+ef m->∀f:Fr,f 0=Z8 ZW (m:Int)->f 2=Z8 ZY (a:Int)→
   vc P (.seq (.seq (.reg [.p (.t 7) (.mv (.v 0)),.p (.v 8) (.cm .geq ZW (.t 7) (.c (Z8 ZW 65536)))]) (.ite (.v 8) (.seq (.reg [.p (.t 9) (.mv (.v 0)),.p (.t 10) (.sh .shr ZW (.t 9) (.c (Z8 ZW 16))),.p (.v 0) (.mv (.t 10))]) (.reg [.p (.t 11) (.mv (.v 2)),.p (.t 12) (.ar .add ZY (.t 11) (.c (Z8 ZY 16))),.p (.v 2) (.mv (.t 12))])) .skip)) TRD)
    (kr [.t 2] fun r H'=>r=Z8 ZY (ef n:Int)/\H'=H) f H:=by
  intro m a hm ha he f f0 f2;have hw:IntKind.i64.wrap ((a:Int)+16)=((a+16:Nat):Int):=by rw[show((a:Int)+16)=((a+16:Nat):Int) by simp];exact ZN _ ⟨by omega,by omega⟩
  have hd:(m:Int)/2^16=((m/2^16:Nat):Int):=by simp
  simp only[go_sem,zS,↓reduceIte,Za,Zb,Zc,reduceCtorEq,ae,f0,f2,mh,hw,hd];refine aN (fun h=>?_) (fun h=>?_)
  ·have h:65536<=m:=by omega
   exact⟨by decide,Qn _ _ (by omega) (by omega) (by rw[he,vJ m 16 (by omega)];omega) _ rfl rfl⟩
  ·exact Qn m a (by omega) (by omega) he _ (by simp only[go_sem,zS,↓reduceIte,Za,Zb,Zc,reduceCtorEq,ae,f0]) (by simp only[go_sem,zS,↓reduceIte,Za,Zb,Zc,reduceCtorEq,ae,f2])
 have hd:(n:Int)/2^32=((n/2^32:Nat):Int):=by simp
 generalize amd:S.seq (.seq (.reg [.p (.t 7) (.mv (.v 0)),.p (.v 8) (.cm .geq ZW (.t 7) (.c (Z8 ZW 65536)))]) (.ite (.v 8) (.seq (.reg [.p (.t 9) (.mv (.v 0)),.p (.t 10) (.sh .shr ZW (.t 9) (.c (Z8 ZW 16))),.p (.v 0) (.mv (.t 10))]) (.reg [.p (.t 11) (.mv (.v 2)),.p (.t 12) (.ar .add ZY (.t 11) (.c (Z8 ZY 16))),.p (.v 2) (.mv (.t 12))])) .skip)) TRD=SND at second⊢;simp only[go_sem,zS,↓reduceIte,Za,Zb,Zc,reduceCtorEq,ae,mh,hd];refine aN (fun h=>?_) (fun h=>?_)
 ·have h:4294967296<=n:=by omega
  exact⟨by decide,second _ _ (by show n/4294967296<4294967296;omega) (by omega) (vJ n 32 (by show 4294967296<=n;exact h)) _ rfl rfl⟩
 ·exact second n 0 (by omega) (by omega) (by omega) _ (by simp only[go_sem,zS,↓reduceIte,Za,Zb,Zc,reduceCtorEq,ae]) (by simp only[go_sem,zS,↓reduceIte,Za,Zb,Zc,reduceCtorEq,ae];rfl)
end Go.Mg
namespace Go.Mg
open Go Go.RowKit
def Ai (V:aH):S:=
 kY [kR 2 (V.t 128) 0,kC 4 (Z8 ZW 0)] (.seq (kY [kA 5 1,kG 6 0 2,kD 7 6,kL 8 7,kV 9 (.cm .lss ZY (.t 5) (.t 8))] (.ite (.v 9) (kY [kG 10 0 2,kD 11 10,kA 12 1,kI 13 1 11 12,kD 14 13,kB 4 14] .ret) .skip)) (kY [kC 4 (Z8 ZW 0)] .ret))
def Aj:List RV:=[.t 4]
def Gs (V:aH):S:=
 kY [kR 2 (V.t 128) 0,kC 4 (Z5 ZS)] (kY [kA 5 1,kU 6 (.cm .geq ZY (.t 5) (.c (Z8 ZY 0))),kF 7 6,kS 8 7 ZT 1,kT 9 7 ZT (.cm .leq ZY (.t 8) (.c (Z8 ZY 4095))),kJ 10 7 9,kF 11 10,kT 12 11 ZT (.m (.ldn 1 (.v 2))),kS 13 11 ZT 1,kT 14 11 ZT (.dv .quo ZY (.t 13) (.c (Z8 ZY 64))),.ge (.t 15) (.t 11) ZT (kg (V.f 129) [.t 12,.t 14]),kS 16 11 ZT 1,kT 17 11 ZT (.dv .rem ZY (.t 16) (.c (Z8 ZY 64))),kT 18 11 ZT (.sh .shr ZW (.t 15) (.t 17)),kT 19 11 ZT (.bt .and ZW (.t 18) (.c (Z8 ZW 1))),kT 20 11 ZT (.cm .eql ZW (.t 19) (.c (Z8 ZW 1))),kJ 21 11 20,kB 4 21] .ret)
def Gt:List RV:=[.t 4]
def Ak (V:aH):S:=
 kY [kR 2 (V.t 128) 0,kd 4 (.new (V.t 128) #[kZ])] (.seq (kY [kA 6 1,kU 7 (.cm .lss ZY (.t 6) (.c (Z8 ZY 0))),kF 8 7,kS 9 8 ZS 1,kT 10 8 ZS (.cm .gtr ZY (.t 9) (.c (Z8 ZY 4095))),kU 11 (.pick (.t 8) (.c (Z5 ZT)) (.t 10)),kF 12 11,kT 13 12 ZS (.m (.ldn 1 (.v 2))),kS 14 12 ZS 1,.ge (.t 15) (.t 12) ZS (kg (V.f 130) [.t 13,.t 14]),kV 16 (.pick (.t 12) (.c (Z5 ZT)) (.t 15))] (.ite (.v 16) (kY [kM 17 1 2,kf (.stn 1 (.v 4) (.t 17))] .ret) .skip)) (kY [kG 18 0 2,kD 19 18,kL 20 19,kA 21 1,kU 22 (.dv .quo ZY (.t 21) (.c (Z8 ZY 64))),kU 23 (.ar .add ZY (.t 22) (.c (Z8 ZY 1))),kU 24 (.m (.mx (.t 20) (.t 23))),kc 25 (.rJ (V.t 28) 1 8 #[Z8 ZW 0] (.t 24) (.t 24)),kB 5 25] (kY [kA 26 5,kG 27 0 2,kD 28 27,kc 29 (.cpy ZS 1 (.t 26) (.t 28))] (kY [kA 30 5,kA 31 1,kU 32 (.dv .quo ZY (.t 31) (.c (Z8 ZY 64))),kI 33 1 30 32,kD 34 33,kA 35 1,kU 36 (.dv .rem ZY (.t 35) (.c (Z8 ZY 64))),kU 37 (.sh .shl ZW (.c (Z8 ZW 1)) (.t 36)),kU 38 (.bt .or ZW (.t 34) (.t 37)),kI 39 1 30 32,kf (.st (.t 39) (.t 38))] (kY [kA 40 5,kU 41 (.m (.bld #[kZ] [(0,(1,.t 40))])),kf (.stn 1 (.v 4) (.t 41))] .ret)))))
def Al:List RV:=[.cn 4 1]
def Qo (V:aH):S:=
 kY [kR 2 (V.t 128) 0,kR 3 (V.t 128) 1,kd 4 (.new (V.t 128) #[kZ])] (kY [kG 7 0 2,kD 8 7,kL 9 8,kG 10 0 3,kD 11 10,kL 12 11,kU 13 (.m (.mx (.t 9) (.t 12))),kc 14 (.rJ (V.t 28) 1 8 #[Z8 ZW 0] (.t 13) (.t 13)),kB 5 14] (.seq (kY [kA 15 5,kV 16 (.m (.lenl (.t 15))),kC 17 (Z8 ZY 0)] (.blk 0 (.loop (kY [kH 18 17 16] (.seq (.ite (.v 18) .skip (.exit 0)) (.seq (.blk 1 (kY [kA 19 17,kB 6 19] (.dr (kW 20 (.mv (.v 5)) (kW 21 (.mv (.v 6)) (kW 22 (.m (.ldn 1 (.v 2))) (kW 23 (.mv (.v 6)) (kW 25 (.m (.ldn 1 (.v 3))) (kW 26 (.mv (.v 6)) (ka 24 (kg (V.f 129) [.t 22,.t 23]) (ka 27 (kg (V.f 129) [.t 25,.t 26]) (kW 28 (.bt .or ZW (.t 24) (.t 27)) (kW 29 (.is 1 (.t 20) (.t 21)) (kb (.st (.t 29) (.t 28)) .done .wnil))) .wnil) .wnil)))))))))) (.reg [ke 30 17,kB 17 30]))))))) (kY [kA 31 5,kU 32 (.m (.bld #[kZ] [(0,(1,.t 31))])),kf (.stn 1 (.v 4) (.t 32))] .ret)))
def Qp:List RV:=[.cn 4 1]
def vK (V:aH):S:=
 kY [kR 1 (V.t 128) 0,kC 2 (Z5 ZS)] (kY [kG 3 0 1,kD 4 3,kL 5 4,kU 6 (.cm .eql ZY (.t 5) (.c (Z8 ZY 0))),kB 2 6] .ret)
def vL:List RV:=[.t 2]
def vM (V:aH):S:=
 kY [kR 1 (V.t 128) 0,kC 2 (Z8 ZY 0),kC 3 (Z5 ZS)] (.seq (kY [kM 5 1 1,kd 6 (kg (V.f 133) [.t 5])] (.ite (.v 6) (kY [kC 2 (Z8 ZY 0),kC 3 (Z5 ZS)] .ret) .skip)) (kY [kG 7 0 1,kD 8 7,kL 9 8,kU 10 (.ar .sub ZY (.t 9) (.c (Z8 ZY 1))),kB 4 10] (kY [kA 11 4,kU 12 (.ar .mul ZY (.c (Z8 ZY 64)) (.t 11)),kG 13 0 1,kD 14 13,kA 15 4,kI 16 1 14 15,kD 17 16,kc 18 (kg (V.f 127) [.t 17]),kU 19 (.ar .add ZY (.t 12) (.t 18)),kU 20 (.ar .sub ZY (.t 19) (.c (Z8 ZY 1))),kB 2 20,kC 3 (Z5 ZT)] .ret)))
def vN:List RV:=[.t 2,.t 3]
def Gu (V:aH):S:=
 kY [kR 1 (V.t 128) 0,kC 2 (Z8 ZY 0)] (kY [kC 3 (Z8 ZY 0)] (.seq (kY [kG 6 0 1,kV 7 (.ld (.t 6)),kO 8 7,kC 9 (Z8 ZY 0)] (.blk 0 (.loop (kY [kH 10 9 8] (.seq (.ite (.v 10) .skip (.exit 0)) (.seq (.blk 1 (kY [kK 11 1 7 9,kD 12 11,kB 5 12] (.reg [kA 13 3,kA 14 5,kc 15 (kg (V.f 124) [.t 14]),kU 16 (.ar .add ZY (.t 13) (.t 15)),kB 3 16]))) (.reg [ke 17 9,kB 9 17]))))))) (kY [kA 18 3,kB 2 18] .ret)))
def Gv:List RV:=[.t 2]
def Qq (l:List UInt64):bM (cj l).toArray:=by
 intro x hx;simp[cj]at hx;obtain⟨y,_,rfl⟩:=hx;rfl
def qf (n:Nat):ZM n (Value.int ZW 0)=cj (ZM n 0):=by simp[cj]
def Lv (a b:List UInt64):cj (a++b)=cj a++cj b:=by simp[cj]
def mA (a:List UInt64) (n:Nat):(cj a).take n=cj (a.take n):=by simp[cj]
def Qr (a:List UInt64) (n:Nat):(cj a).drop n=cj (a.drop n):=by simp[cj]
structure fR (H:Hp) (v:ZR) (W:List UInt64) (p:Nat->Bool):Prop where
 sl:aP H v (cj W)
 len:W.length<=64
 can:Can W
 is:∀n,cC W n=p n
variable {X:Nat->Prop} {H H':Hp} {v x:ZR} {W:List UInt64} {p:Nat->Bool} {n b:Nat} {k:FuncId} {P:Program} {V:aH}
def fR.ai (h:fR H v W p) (hk:af X H H') (hw:∀k,aV v k->¬X k):fR H' v W p:=⟨h.sl.ai hk hw,h.len,h.can,h.is⟩
def fR.lt (h:fR H v W p) (hp:p n=ZT):n<64*W.length:=by
 apply YX;intro hn;rw[<-h.is,fZ (by omega)]at hp;cases hp
def fR.lt' (h:fR H v W p) (hp:p n=ZT):n<4096:=by
 have:=h.lt hp;have:=h.len;omega
def aR (H:Hp) (x:ZR) (p:Nat->Bool):Prop:=∃v W,x=Z0 #[v]/\fR H v W p
def jG:ZR->Nat->Prop
 |.agg cs,k=>aV (cs.getD 0 undef) k
 |_,_=>False
def aR.ai (h:aR H x p) (hk:af X H H') (hw:∀k,jG x k->¬X k):aR H' x p:=by
 obtain⟨v,W,rfl,hv⟩:=h;exact⟨v,W,rfl,hv.ai hk hw⟩
def aR.aj (h:aR H x p) (hk:af (fun _=>False) H H'):aR H' x p:=h.ai hk (fun _ _ h=>h)
def aR.bo (h:aR H x p) {k:Nat} (hk:jG x k):k<H.size:=by
 obtain⟨v,W,rfl,hv⟩:=h;exact hv.sl.bo hk
def aR.lt (h:aR H x p) (hp:p n=ZT):n<4096:=by
 obtain⟨v,W,rfl,hv⟩:=h;exact hv.lt' hp
def aR.congr {q:Nat->Bool} (h:aR H x p) (e:∀n,p n=q n):aR H x q:=by
 obtain⟨v,W,rfl,hv⟩:=h;exact⟨v,W,rfl,hv.sl,hv.len,hv.can,fun n=>(hv.is n).trans (e n)⟩
def aR.empty (H:Hp) (a:Option Addr) (c:Nat):aR H (Z0 #[.slice a 0 c]) (fun _=>ZS):=
 ⟨_,[],rfl,aP.nil _ _ _,by simp,fun h=>absurd rfl h,fun n=>fZ (by simp)⟩
def cR (r:A->ZR) (C:Array ZR):gq r C []=C:=rfl
def oR (r:A->ZR) (C:Array ZR) (off size:Nat) (a:A) (l:List (Nat×Nat×A)):gq r C ((off,size,a)::l)=gq r (jx C off (r a).cells.toList) l:=rfl
def Gw (r:A->ZR) (n:Nat):eJ r n []=True:=rfl
def EE (r:A->ZR) (n off size:Nat) (a:A) (l:List (Nat×Nat×A)):eJ r n ((off,size,a)::l)=((r a).cells.size=size/\off+size<=n/\eJ r n l):=rfl
def EF (a:Option Addr) (l c:Nat):(Value.slice a l c).cells=#[.slice a l c]:=rfl
def M9 (k:IntKind) (n:Int):(Value.int k n).cells=#[.int k n]:=rfl
def Gx (b:Bool):(Value.bool b).cells=#[.bool b]:=rfl
def Na (b:ByteArray):(Value.string b).cells=#[.string b]:=rfl
def Nb (b:Option Addr):(Value.pointer b).cells=#[.pointer b]:=rfl
def akj (z x:ZR):jx #[z] 0 [x]=#[x]:=rfl
def ahD (z y x:ZR):jx #[z,y] 0 [x]=#[x,y]:=rfl
def ahE (z y x:ZR):jx #[z,y] 1 [x]=#[z,x]:=rfl
def zF:(∀(r:A->ZR) (C:Array ZR),gq r C []=C)/\(∀(r:A->ZR) (C:Array ZR) (off size:Nat) (a:A) (l:List (Nat×Nat×A)),gq r C ((off,size,a)::l)=gq r (jx C off (r a).cells.toList) l)/\(∀(r:A->ZR) (n:Nat),eJ r n []=True)∧
  (∀(r:A->ZR) (n off size:Nat) (a:A) (l:List (Nat×Nat×A)),eJ r n ((off,size,a)::l)=((r a).cells.size=size/\off+size<=n/\eJ r n l))/\(∀(a:Option Addr) (l c:Nat),(Value.slice a l c).cells=#[.slice a l c])/\(∀(k:IntKind) (n:Int),(Value.int k n).cells=#[.int k n])∧
  (∀b:Bool,(Value.bool b).cells=#[.bool b])/\(∀b:ByteArray,(Value.string b).cells=#[.string b])/\(∀b:Option Addr,(Value.pointer b).cells=#[.pointer b])/\(∀C:Array ZR,(Value.agg C).cells=C)/\(∀(H:Hp) (a:Addr) (xs:List ZR),ML H (Z7 (ZV a)) xs=aB H a xs)∧
  (∀(H:Hp) (a:Addr) (n:Nat),okN H (Z7 (ZV a)) n=bG H a n)/\(∀z x:ZR,jx #[z] 0 [x]=#[x])/\(∀z y x:ZR,jx #[z,y] 0 [x]=#[x,y])/\(∀z y x:ZR,jx #[z,y] 1 [x]=#[z,x]):=
 ⟨cR,oR,Gw,EE,EF,M9,Gx,Na,Nb,bd,gw,k9,akj,ahD,ahE⟩
def mB (P:Program) (k:FuncId):Prop:=∀(W:List UInt64) (v:ZR) (i:Nat) (H:Hp),aP H v (cj W)->W.length<=64->i<1000->an P k #[Z0 #[v],Z8 ZY i] H fun r H'=>r=Z8 ZW (W.getD i 0).toNat/\af (fun _=>False) H H'
def Qs (hk:ak P k (Ai V) Aj 2):mB P k:=by
 intro W v i H hv hW hi;refine ah hk (args:=[_,_]) (by simp) ?_;unfold Ai Aj kA kB kC kD kG kI kL kR kV kY;simp only[go_sem,zS,↓reduceIte,Za,Zb,Zc,reduceCtorEq,bd];refine ax fun H1 b1 e1 z1 B1 K1=>?_;have hv1:=hv.ai K1 (by simp);have hl:=hv1.len;simp only[go_sem,zS,↓reduceIte,Za,Zb,Zc,reduceCtorEq,ae,B1.cell,hv1.aq,hl,aI];refine aN (fun hlt=>?_) (fun ki=>?_)
 ·have hlt:i<W.length:=by omega
  obtain⟨b,o,c,rfl,-,hc⟩:=hv1.cells (by intro e;have h:=congrArg Y8 e;rw[aI,Zx]at h;omega);rw[aI]at hc;have hci:=hc i hlt;rw[dW _ _ hlt]at hci;simp only[go_sem,zS,↓reduceIte,Za,Zb,Zc,reduceCtorEq,ae,B1.cell,aI,hci,al]
  repeat' apply XQ
  all_goals first|exact K1|trivial|omega
 ·have:W.getD i 0=0:=by rw[ZP,Zz (by omega)];rfl
  simp only[go_sem,zS,↓reduceIte,Za,Zb,Zc,reduceCtorEq,ae,this];exact⟨rfl,K1⟩
def vP (n:Nat) (h:n<4096):IntKind.i64.wrap (Vv (n:Int) 64)=((n/64:Nat):Int):=by
 have:Vv (n:Int) 64=((n/64:Nat):Int):=rfl;rw[this];exact ZN _ ⟨by omega,by omega⟩
def Gy (n:Nat):Int.tmod (n:Int) 64=((n % 64:Nat):Int):=rfl
def cz (p:Nat->Bool) (i:Int):Bool:=ZQ (0<=i)&&ZQ (i<=4095)&&p i.toNat
def fk (P:Program) (k:FuncId):Prop:=∀(p:Nat->Bool) (x:ZR) (i:Int) (H:Hp),aR H x p->an P k #[x,Z8 ZY i] H fun r H'=>r=.bool (cz p i)/\af (fun _=>False) H H'
def aaF (hk:ak P k (Gs V) Gt 2) (hw:mB P (V.f 129)):fk P k:=by
 intro p x i H hx;obtain⟨v,W,rfl,hv⟩:=hx;refine ah hk (args:=[_,_]) (by simp) ?_;unfold Gs Gt kA kB kF kC kJ kR kS kT kU kg kY;simp only[go_sem,zS,↓reduceIte,Za,Zb,Zc,reduceCtorEq,bd];refine ax fun H1 b1 e1 z1 B1 K1=>?_;have hv1:=hv.ai K1 (by simp)
 by_cases h0:(0:Int)<=i<;>by_cases h1:i<=4095
 ·obtain⟨n,rfl⟩:=Xh h0;have hn:n<4096:=by omega
  have KV:((n:Int)<=4095):=h1;simp only[go_sem,zS,↓reduceIte,Za,Zb,Zc,reduceCtorEq,ae,ge_iff_le,h0,KV,B1.aL 1 rfl,vP n hn];refine XQ (by decide) ?_;refine(hw W v (n/64) H1 hv1.sl hv1.len (by omega)).mono ?_;rintro r H2 ⟨rfl,K2⟩;have e:=akh (W.getD (n/64) 0) (n % 64);have e2:bt (W.getD (n/64) 0) (n % 64)=p n:=hv.is n;simp only[go_sem,zS,↓reduceIte,Za,Zb,Zc,reduceCtorEq,ae,Gy,al,e,e2,cz,h0,KV];have hm:(0:Int)<=((n % 64:Nat):Int)/\((n % 64:Nat):Int)<=64:=by omega
  cases p n<;>simp only[go_sem,zS,↓reduceIte,Za,Zb,Zc,reduceCtorEq,ae,zU,Zf,Zg,if_true,if_false,Int.toNat_natCast]<;>(repeat' apply XQ)<;>first|exact K1.trans K2|exact hm.1|(rfl)|omega|trivial
 all_goals
  simp only[go_sem,zS,↓reduceIte,Za,Zb,Zc,reduceCtorEq,ae,ge_iff_le,h0,h1,cz,Bool.false_and,Bool.and_false];exact K1
def Can.mC (h:W≠[]->∃n,cC W n=ZT/\64*(W.length -1)<=n):Can W:=by
 intro hW h0;obtain⟨n,h1,h2⟩:=h hW;have hl:0<W.length:=List.length_pos_iff.2 hW;have hlt:n<64*W.length:=by
  apply YX;intro hn;rw[fZ (by omega)]at h1;cases h1
 unfold cC at h1;have e:n/64=W.length -1:=by omega
 rw[e,ZP]at h1;rw[Yr]at h0;have:W.length -1<W.length:=by omega
 simp[this,h0,eF]at h1
def vQ (W:List UInt64) {k:Nat} (x:UInt64) (hk:k<W.length) (n:Nat):cC (W.set k x) n=if n/64=k then bt x (n % 64)else cC W n:=by
 unfold cC;rw[ZP,List.getElem?_set]
 by_cases e:n/64=k
 ·subst e;simp[hk]
 ·have:¬k=n/64:=fun h=>e h.symm;rw[if_neg this,if_neg e,<-ZP]
def vR (W:List UInt64) (m n:Nat):cC (W++ZM m 0) n=cC W n:=by
 unfold cC;rw[ZP,ZP]
 by_cases h:n/64<W.length
 ·rw[YP h]
 ·rw[Yf (by omega),Zz (l:=W) (by omega),Zj]
  split<;>rfl
def akk (k:Nat) (hk:k<64):IntKind.u64.wrap (1*2^k)=((Y7 (2^k)).toNat:Int):=by
 have hp:2^k<18446744073709551616:=Xb (by omega) hk;rw[Zm,YF hp,Int.one_mul];have:((2:Int)^k)=((2^k:Nat):Int):=by simp
 rw[this];exact u64_in _ hp
def Gz (x:UInt64) (k:Nat) (hk:k<64):bits .or ZW (x.toNat:Int) (IntKind.u64.wrap (1*2^k))=((Gk x k).toNat:Int):=by
 rw[akk k hk];exact uI _ _
def tQ (W:List UInt64) (n:Nat):List UInt64:=(W++ZM (max W.length (n/64+1) -W.length) 0).set (n/64) (Gk (W.getD (n/64) 0) (n % 64))
def yI (W:List UInt64) (n:Nat):(tQ W n).length=max W.length (n/64+1):=by
 unfold tQ;rw[List.length_set,ZK,XK];omega
def rR (W:List UInt64) (n m:Nat):cC (tQ W n) m=(cC W m||ZQ (m=n)):=by
 unfold tQ;rw[vQ _ _ (by rw[ZK,XK];omega),vR]
 by_cases e:m/64=n/64
 ·rw[if_pos e,zZ _ (by omega)];have e1:cC W m=bt (W.getD (n/64) 0) (m % 64):=by unfold cC;rw[e]
  rw[e1]
  congr 1
  by_cases h:m % 64=n % 64
  ·have:m=n:=by omega
   simp[h,this]
  ·have:m≠n:=fun h'=>h (by rw[h']);simp[h,this]
 ·rw[if_neg e];have:m≠n:=fun h=>e (by rw[h]);simp[this]
def Nc (h:Can W) (n:Nat):Can (tQ W n):=by
 refine Can.mC fun _=>?_;rw[yI]
 by_cases hl:W.length<=n/64
 ·exact⟨n,by rw[rR];simp,by omega⟩
 ·obtain⟨m,h1,h2,_⟩:=h.top (by intro e;subst e;simp at hl);exact⟨m,by rw[rR,h1];rfl,by omega⟩
def lO (p:Nat->Bool) (i:Int) (n:Nat):Bool:=p n||(ZQ ((n:Int)=i)&&ZQ (n<4096))
def nC (P:Program) (k:FuncId):Prop:=∀(p:Nat->Bool) (x:ZR) (i:Int) (H:Hp),aR H x p->an P k #[x,Z8 ZY i] H fun r H'=>aR H' r (lO p i)/\af (fun _=>False) H H'/\∀k,jG r k->jG x k\/H.size<=k
def aP.one {l:List ZR} (h:aP H v l):bM #[v]:=by
 intro y hy;simp at hy;subst hy;obtain⟨a,c,rfl,_⟩:=h.mk;rfl
def ur {u:ZR} {R:ZR->Hp->Prop} (B:Bl H b [u]) (hs:bM #[v]) (h:∀H',H'.size=H.size->af (fun k=>k=b) H H'->R (Z0 #[v]) H'):
  (bG H ⟨b,0,ZU⟩ 1/\bM #[v])/\(aL (aB H ⟨b,0,ZU⟩ [v]) (Z7 (ZV ⟨b,0,ZU⟩)) 1).isSome=ZT/\R (.agg ((aL (aB H ⟨b,0,ZU⟩ [v]) (Z7 (ZV ⟨b,0,ZU⟩)) 1).getD #[])) (aB H ⟨b,0,ZU⟩ [v]):=by
 have hB:Bl (aB H ⟨b,0,ZU⟩ [v]) b [v]:=by
  have:=B.aB 0 [v];simpa[rE]using this
 refine⟨⟨B.bG (o:=0) (n:=1) (by simp),hs⟩,?_⟩;rw[hB.aL 1 rfl];exact⟨rfl,h _ (ig _ _ _) ((af.refl _ _).aB _ (.inl rfl))⟩
def af.dk {A B C:Hp} (h:af (fun _=>False) A B) (k:af (fun k=>k=b) B C) (hb:A.size<=b):af (fun _=>False) A C:=h.trans' k (fun i hi e=>by omega)
def Qt (hk:ak P k (Ak V) Al 2) (hh:fk P (V.f 130)):nC P k:=by
 intro p x i H hx;obtain⟨v,W,rfl,hv⟩:=hx;obtain⟨av,cv,rfl,hcv⟩:=hv.sl.mk;rw[aI]at hv hcv⊢;obtain⟨R,hR⟩:∃R:ZR->Hp->Prop,R=fun r H'=>aR H' r (lO p i)/\af (fun _=>False) H H'/\∀k,jG r k->jG (Z0 #[.slice av W.length cv]) k\/H.size<=k:=⟨_,rfl⟩
 rw[<-hR];refine ah hk (args:=[_,_]) (by simp) ?_;unfold Ak Al kA kB kF kD kG kI kL kM kR kS kT kU kV kc kd kf kg kY kZ;simp only[go_sem,zS,↓reduceIte,Za,Zb,Zc,reduceCtorEq,bd];refine ax fun H1 b1 e1 z1 B1 K1=>?_;simp only[go_sem,zS,↓reduceIte,Za,Zb,Zc,reduceCtorEq];refine ax fun H2 b2 e2 z2 B2 K2=>?_;have bL:=K2.bl B1 id;have df:=K1.trans K2;have hv2:=hv.ai df (by simp);have hne:b1≠b2:=by omega
 have s1:=K1.size;have s2:=K2.size
 -- the set as it was
 have same:∀H3,af (fun _=>False) H2 H3->(∀n,lO p i n=p n)->∀H4,af (fun k=>k=b2) H3 H4->R (Z0 #[.slice av W.length cv]) H4:=by
  intro H3 K3 hp H4 K4;have K:=(df.trans K3).dk K4 (by omega);rw[hR];exact⟨⟨_,W,rfl,hv.sl.ai K (by simp),hv.len,hv.can,fun n=>by rw[hp,hv.is]⟩,K,fun k h=>.inl h⟩
 have hp0:(i<0\/4095<i)->∀n,lO p i n=p n:=by
  intro h n;unfold lO;have:(ZQ ((n:Int)=i)&&ZQ (n<4096))=ZS:=by
   by_cases e:(n:Int)=i
   ·have:¬n<4096:=by omega
    simp[this]
   ·simp[e]
  rw[this,Bool.or_false]
 by_cases h0:i<0
 ·simp only[go_sem,zS,↓reduceIte,Za,Zb,Zc,reduceCtorEq,ae,h0,bL.aL 1 rfl,bd,gw,k9];exact ur B2 hv.sl.one fun H4 z K4=>same H2 (af.refl _ _) (hp0 (.inl h0)) H4 K4
 ·by_cases h1:(4095:Int)<i
  ·simp only[go_sem,zS,↓reduceIte,Za,Zb,Zc,reduceCtorEq,ae,h0,h1,gt_iff_lt,bL.aL 1 rfl,bd,gw,k9];exact ur B2 hv.sl.one fun H4 z K4=>same H2 (af.refl _ _) (hp0 (.inr h1)) H4 K4
  ·obtain⟨n,rfl⟩:=Xh (Int.not_lt.1 h0);have hn:n<4096:=by omega
   simp only[go_sem,zS,↓reduceIte,Za,Zb,Zc,reduceCtorEq,ae,h0,h1,gt_iff_lt,bL.aL 1 rfl,bd];refine(hh p _ _ H2 ⟨_,W,rfl,hv2⟩).mono ?_;rintro r H3 ⟨rfl,K3⟩;have hm:cz p (n:Int)=p n:=by
    unfold cz;have a1:(0:Int)<=(n:Int):=by omega
    have a2:(n:Int)<=4095:=by omega
    simp[a1,a2]
   simp only[hm];have jv:=K3.bl bL id;have tR:=K3.bl B2 id
   cases hpn:p n with
   |true=>
    have hpw:∀m,lO p (n:Int) m=p m:=by
     intro m;unfold lO
     by_cases e:m=n
     ·subst e;rw[hpn];rfl
     ·have:¬(m:Int)=(n:Int):=by omega
      simp[this]
    simp only[go_sem,zS,↓reduceIte,Za,Zb,Zc,reduceCtorEq,ae,jv.aL 1 rfl,bd,gw,k9];exact ur tR hv.sl.one fun H4 z K4=>same H3 K3 hpw H4 K4
   |false=>
    have mD:=df.trans K3;have hv3:=hv.ai mD (by simp);have hl:=hv3.sl.len;have hq:n/64<64:=by omega
    have hlW:=hv.len;have wq:IntKind.i64.wrap (((n/64:Nat):Int)+1)=((n/64+1:Nat):Int):=ZN _ ⟨by omega,by omega⟩;have hmx:(if((n/64+1:Nat):Int)>((W.length:Nat):Int)then((n/64+1:Nat):Int)else((W.length:Nat):Int))=((max W.length (n/64+1):Nat):Int):=by split<;>omega
    rw[ae];simp only[go_sem,zS,↓reduceIte,Za,Zb,Zc,reduceCtorEq,jv.cell,hv3.sl.aq,hl,aI,vP n hn,wq,hmx,al];generalize hM:max W.length (n/64+1)=M at*;have akl:M<=64:=by omega
    refine XQ (by decide) ⟨⟨by omega,by omega,by unfold maxLen;omega⟩,?_⟩;refine aG fun H4 b4 e4 z4 B4 K4=>?_;have B4:Bl H4 b4 (cj (ZM M 0)):=by
     have:=B4;rw[dx]at this;rw[qf]at this;exact this
    have s3:=K3.size;have s4:=K4.size;have yk:=K4.bl jv id;have F3:=mD.trans K4;have hv4:=hv.ai F3 (by simp);have ahF:=hv4.sl.iV (k:=W.length) (by rw[aI];exact ZH _);rw[mA,List.take_length]at ahF;have akm:min W.length M=W.length:=by omega
    simp only[go_sem,zS,↓reduceIte,Za,Zb,Zc,reduceCtorEq,ae,yk.cell,hv4.sl.aq,hv4.sl.cP,aI,akm];refine⟨_,ahF,B4.lK 0 0 (cj W).toArray (Qq _) (by simp[aI];omega),?_⟩;have B5:=B4.put 0 0 (cj W).toArray;have K5:af (fun k=>k=b4) H4 (kq H4 (ZV ⟨b4,0,ZU⟩) 0 (cj W).toArray):=(af.refl _ _).put rfl _ _ (.inl rfl);generalize kq H4 (ZV ⟨b4,0,ZU⟩) 0 (cj W).toArray=H5 at B5 K5⊢;have hB5:rE (cj (ZM M 0)) (0+0) (cj W).toArray.toList=cj (W++ZM (M -W.length) 0):=by
     unfold rE;simp only[WB,List.take_zero,List.nil_append,Zt,aI,Qr,List.drop_replicate,Lv]
    rw[hB5]at B5;have hln:(W++ZM (M -W.length) (0:UInt64)).length=M:=by rw[ZK,XK];omega
    have hc5:cell H5 ⟨b4,n/64,ZU⟩=ZV (Z8 ZW ((W.getD (n/64) 0).toNat:Int)):=by
     rw[B5.cell,dW _ _ (by omega)]
     congr 4
     rw[ZP,ZP]
     by_cases h:n/64<W.length
     ·rw[YP h]
     ·rw[Yf (by omega),Zz (l:=W) (by omega),Zj]
      split<;>rfl
    have hst:=B5.bw (o:=n/64) (by rw[aI];omega);simp only[go_sem,zS,↓reduceIte,Za,Zb,Zc,reduceCtorEq,ae,zF,hln,Gy,al,vP n hn,Zs,hc5,Gz _ (n % 64) (by omega),hst];have B6:=B5.az (n/64) (Z8 ZW ((Gk (W.getD (n/64) 0) (n % 64)).toNat:Int));rw[nB _ _ (by omega)]at B6;have hW':(W++ZM (M -W.length) 0).set (n/64) (Gk (W.getD (n/64) 0) (n % 64))=tQ W n:=by unfold tQ;rw[hM]
    rw[hW']at B6;have K6:af (fun k=>k=b4) H5 (az H5 ⟨b4,n/64,ZU⟩ (Z8 ZW ((Gk (W.getD (n/64) 0) (n % 64)).toNat:Int))):=(af.refl _ _).az _ (.inl rfl);generalize az H5 ⟨b4,n/64,ZU⟩ (Z8 ZW ((Gk (W.getD (n/64) 0) (n % 64)).toNat:Int))=H6 at B6 K6⊢;have B26:Bl H6 b2 [Z6 ZU 0 0]:=K6.bl (K5.bl (K4.bl tR id) (by omega)) (by omega);have hwl:=yI W n;rw[hM]at hwl;have GA:64≠0:=by decide
    have hKf:af (fun _=>False) H H6:=((F3.dk K5 (by omega)).dk K6 (by omega))
    refine⟨by decide,by omega,by decide,by omega,by omega,by decide,ur B26 ?_ fun H7 z7 K7=>?_⟩
    ·intro y hy;simp at hy;subst hy;rfl
    ·have B7:=K7.bl B6 (by omega);have hs:=aP.bl B7 0 M M (ZH _) (by rw[aI];omega);rw[XB,mA,Zy (by omega)]at hs;rw[hR];refine⟨⟨_,tQ W n,rfl,hs,by omega,Nc hv.can n,fun m=>?_⟩,hKf.dk K7 (by omega),fun k h=>.inr ?_⟩
     ·rw[rR,hv.is];unfold lO
      congr 1
      by_cases e:m=n
      ·subst e;simp[hn]
      ·have:¬(m:Int)=(n:Int):=by omega
       simp[this,e]
     ·have:k=b4:=h.1;omega
def Nd (A B:List UInt64) (m:Nat):List UInt64:=(ZF m).map fun k=>A.getD k 0|||B.getD k 0
def lh (A B:List UInt64) (m:Nat):(Nd A B m).length=m:=by simp[Nd]
def Am (A B:List UInt64) (n:Nat):cC (Nd A B (max A.length B.length)) n=(cC A n||cC B n):=by
 unfold cC Nd;rw[ZP,XL]
 by_cases h:n/64<max A.length B.length
 ·rw[List.getElem?_range h];simp only[YQ,Zu];unfold bt;rw[UInt64.toNat_or,Nat.testBit_or]
 ·rw[Zz (by simp;omega)];rw[ZP,Zz (by omega),ZP,Zz (by omega)];simp[eF]
def aaG {A B:List UInt64} (ha:Can A) (hb:Can B):Can (Nd A B (max A.length B.length)):=by
 refine Can.mC fun hne=>?_;rw[lh]
 by_cases h:B.length<=A.length
 ·have hA:A≠[]:=by
   intro e;subst e;apply hne;have:B=[]:=List.eq_nil_of_length_eq_zero (by simpa using h);subst this;rfl
  obtain⟨n,h1,h2,_⟩:=ha.top hA;exact⟨n,by rw[Am,h1];rfl,by omega⟩
 ·have hB:B≠[]:=by
   intro e;subst e;simp at h
  obtain⟨n,h1,h2,_⟩:=hb.top hB;exact⟨n,by rw[Am,h1,Bool.or_true],by omega⟩
def An (P:Program) (k:FuncId):Prop:=∀(p q:Nat->Bool) (x y:ZR) (H:Hp),aR H x p->aR H y q->an P k #[x,y] H fun r H'=>aR H' r (fun n=>p n||q n)/\af (fun _=>False) H H'/\∀k,jG r k->H.size<=k
def aaH (A B:List UInt64) (k m:Nat) (hk:k<m):(Nd A B k++ZM (m -k) 0).set k (A.getD k 0|||B.getD k 0)=Nd A B (k+1)++ZM (m -(k+1)) 0:=by
 rw[List.set_append_right _ _ (by rw[lh];exact ZH _),lh,W4];have:m -k=(m -(k+1))+1:=by omega
 rw[this,List.replicate_succ];simp[Nd,Yg]
def afA (hk:ak P k (Qo V) Qp 2) (hw:mB P (V.f 129)):An P k:=by
 intro p q x y H hx hy;obtain⟨v,A,rfl,hv⟩:=hx;obtain⟨u,B,rfl,hu⟩:=hy;obtain⟨R,hR⟩:∃R:ZR->Hp->Prop,R=fun r H'=>aR H' r (fun n=>p n||q n)/\af (fun _=>False) H H'/\∀k,jG r k->H.size<=k:=⟨_,rfl⟩
 rw[<-hR];refine ah hk (args:=[_,_]) (by simp) ?_;unfold Qo Qp kA kB kC kD ke kG kH kL kR kU kV kW ka kb kc kd kf kg kY kZ;simp only[go_sem,zS,↓reduceIte,Za,Zb,Zc,reduceCtorEq,bd];refine ax fun H1 b1 e1 z1 B1 K1=>?_;simp only[go_sem,zS,↓reduceIte,Za,Zb,Zc,reduceCtorEq,bd];refine ax fun H2 b2 e2 z2 B2 K2=>?_;simp only[go_sem,zS,↓reduceIte,Za,Zb,Zc,reduceCtorEq];refine ax fun H3 b3 e3 z3 B3 K3=>?_;have s1:=K1.size;have s2:=K2.size;have s3:=K3.size;have afB:=(K1.trans K2).trans K3;have jv:=K3.bl (K2.bl B1 id) (by simp);have tR:=K3.bl B2 id;have hv3:=hv.ai afB (by simp);have hu3:=hu.ai afB (by simp);have lA:=hv.len;have lB:=hu.len;have hmx:(if((B.length:Nat):Int)>((A.length:Nat):Int)then((B.length:Nat):Int)else((A.length:Nat):Int))=((max A.length B.length:Nat):Int):=by split<;>omega
 simp only[go_sem,zS,↓reduceIte,Za,Zb,Zc,reduceCtorEq,jv.cell,tR.cell,hv3.sl.aq,hu3.sl.aq,hv3.sl.len,hu3.sl.len,aI,hmx];generalize hM:max A.length B.length=M at*;have akl:M<=64:=by omega
 refine⟨⟨by omega,by omega,by unfold maxLen;omega⟩,?_⟩;refine aG fun H4 b4 e4 z4 B4 K4=>?_;have s4:=K4.size;have B4:Bl H4 b4 (cj (ZM M 0)):=by
  have:=B4;rw[dx,qf]at this;exact this
 have yk:=K4.bl jv id;have Lw:=K4.bl tR id;have Pl:=K4.bl B3 id;have F3:=afB.trans K4;simp only[go_sem,zS,↓reduceIte,Za,Zb,Zc,reduceCtorEq,ae,al];refine aT [18,6,17] rfl (fun n f H'=>∃i,i<=M/\n=M -i/\f 17=Z8 ZY i/\Bl H' b4 (cj (Nd A B i++ZM (M -i) 0))/\af (fun k=>k=b4) H4 H') M
  ⟨0,by omega,by omega,rfl,by simpa[Nd]using B4,af.refl _ _⟩ ?_
 rintro n g H5 ⟨i,hi,rfl,hf,B5,K5⟩;have s5:=K5.size;simp only[go_sem,zS,↓reduceIte,Za,Zb,Zc,reduceCtorEq,ae]at hf;simp only[go_sem,zS,↓reduceIte,Za,Zb,Zc,reduceCtorEq,ae,hf];refine aN (fun hlt=>?_) (fun ki=>?_)
 ·have hlt:i<M:=by omega
  have GB:=K5.bl yk (by omega);have B25:=K5.bl Lw (by omega);refine aZ (fun k=>k=b4) ?_;have n1:¬b1=b4:=by omega
  have n2:¬b2=b4:=by omega
  have hv5:fR H5 v A p:=hv.ai (F3.dk K5 (by omega)) (by simp);have hu5:fR H5 u B q:=hu.ai (F3.dk K5 (by omega)) (by simp);simp only[go_sem,zS,↓reduceIte,Za,Zb,Zc,reduceCtorEq,ae,n1,n2,GB.aL 1 rfl,B25.aL 1 rfl,bd];refine(hw A v i H5 hv5.sl hv5.len (by omega)).mono ?_;rintro r H6 ⟨rfl,K6⟩;have s6:=K6.size;have B26:=K6.bl B25 id;simp only[go_sem,zS,↓reduceIte,Za,Zb,Zc,reduceCtorEq,ae,n2,B26.aL 1 rfl,bd];refine⟨K6.any,?_⟩;refine(hw B u i H6 (hu5.sl.ai K6 (by simp)) hu5.len (by omega)).mono ?_;rintro r H7 ⟨rfl,K7⟩;have B57:=K7.bl (K6.bl B5 id) (by simp);have hln:(cj (Nd A B i++ZM (M -i) 0)).length=M:=by rw[aI,ZK,lh,XK];omega
  have hst:=B57.bw (o:=i) (by rw[hln];exact hlt);have hor:=uI (A.getD i 0) (B.getD i 0);simp only[go_sem,zS,↓reduceIte,Za,Zb,Zc,reduceCtorEq,ae,hor,al,Zs,hst];refine⟨K7.any,by omega,(af.refl _ _).az _ (.inl rfl),?_⟩;have B8:=B57.az i (Z8 ZW ((A.getD i 0|||B.getD i 0).toNat:Int));rw[nB _ _ (by rw[<-aI,hln];exact hlt),aaH A B i M hlt]at B8;simp(disch:=omega)only[go_sem,zS,↓reduceIte,Za,Zb,Zc,reduceCtorEq,ae,hf,ZN];have KK:af (fun k=>k=b4) H4 (az H7 ⟨b4,i,ZU⟩ (Z8 ZW ((A.getD i 0|||B.getD i 0).toNat:Int))):=(((K5.trans K6.any).trans K7.any)).az _ (.inl rfl);exact⟨M -(i+1),by omega,i+1,by omega,rfl,by simp,B8,KK⟩
 ·have hiM:i=M:=by omega
  subst hiM;have hB5:Bl H5 b4 (cj (Nd A B i)):=by
   have:=B5;rw[W4]at this;simpa using this
  have B35:=K5.bl Pl (by omega);simp only[go_sem,zS,↓reduceIte,Za,Zb,Zc,reduceCtorEq,ae,zF];refine⟨by decide,ur B35 ?_ fun H7 z7 K7=>?_⟩
  ·intro y hy;simp at hy;subst hy;rfl
  ·have B7:=K7.bl hB5 (by omega);have hs:=aP.bl B7 0 i i (ZH _) (by rw[aI,lh];omega);rw[XB,mA,Zy (by rw[lh];omega)]at hs;have hc:=aaG hv.can hu.can;have hm:=fun n=>Am A B n;rw[hM]at hc hm;rw[hR];refine⟨⟨_,Nd A B i,rfl,⟨hs,by rw[lh];omega,hc,fun n=>?_⟩⟩,(F3.dk K5 (by omega)).dk K7 (by omega),fun k h=>?_⟩
   ·rw[hm,hv.is,hu.is]
   ·have:k=b4:=h.1;omega
def iF (P:Program) (k:FuncId):Prop:=∀(p:Nat->Bool) (v:ZR) (W:List UInt64) (H:Hp),fR H v W p->an P k #[Z0 #[v]] H fun r H'=>r=.bool (ZQ (W=[]))/\af (fun _=>False) H H'
def Nf (hk:ak P k (vK V) vL 1):iF P k:=by
 intro p v W H hv;refine ah hk (args:=[_]) (by simp) ?_;unfold vK vL kB kC kD kG kL kR kU kY;simp only[go_sem,zS,↓reduceIte,Za,Zb,Zc,reduceCtorEq,bd];refine ax fun H1 b1 e1 z1 B1 K1=>?_;have hv1:=hv.ai K1 (by simp);simp only[go_sem,zS,↓reduceIte,Za,Zb,Zc,reduceCtorEq,ae,B1.cell,hv1.sl.aq,hv1.sl.len,aI];have:(((W.length:Nat):Int)==0)=ZQ (W=[]):=by
  cases W with
  |nil=>rfl
  |cons a l=>simp;omega
 rw[this];exact⟨rfl,K1⟩
def fR.uK (h:fR H v W p):W=[]↔∀n,p n=ZS:=by
 constructor
 ·intro e n;subst e;rw[<-h.is,fZ (by simp)]
 ·intro e;apply Zn;intro hW;obtain⟨n,h1,_⟩:=h.can.top hW;rw[h.is,e]at h1;cases h1
def Top (p:Nat->Bool) (t:Nat):Prop:=p t=ZT/\∀n,p n=ZT->n<=t
def jH {x:UInt64} (h:x≠0):1<=ef x.toNat/\ef x.toNat<=64/\bt x (ef x.toNat -1)=ZT/\∀k,bt x k=ZT->k<ef x.toNat:=by
 have h0:x.toNat≠0:=fun e=>h (UInt64.toNat_inj.1 (by simpa using e));have hx:=x.toNat_lt;have e1:=VV h0;have e2:x.toNat<2^(x.toNat.log2+1):=(Wi h0).1 (by omega);have hl:ef x.toNat=x.toNat.log2+1:=by unfold ef;rw[if_neg h0]
 have e3:x.toNat.log2<64:=(Wi h0).2 hx;rw[hl];refine⟨by omega,by omega,?_,fun k hk=>?_⟩
 ·unfold bt;rw[Nat.add_sub_cancel,XU,decide_eq_true_eq];have:x.toNat/2^x.toNat.log2=1:=by
   refine Nat.div_eq_of_lt_le ?_ ?_
   ·rw[Xk];exact e1
   ·rw[VC]at e2;omega
  rw[this]
 ·apply YX;intro hn;unfold bt at hk;rw[Nat.testBit_lt_two_pow (Nat.lt_of_lt_of_le e2 (Nat.pow_le_pow_right (by omega) (by omega)))]at hk
  cases hk
def iG (P:Program) (k:FuncId):Prop:=∀(p:Nat->Bool) (x:ZR) (H:Hp),aR H x p->an P k #[x] H fun r H'=>((r=ZZ #[Z8 ZY 0,Z5 ZS]/\∀n,p n=ZS)\/∃t:Nat,r=ZZ #[Z8 ZY t,Z5 ZT]/\Top p t)/\af (fun _=>False) H H'
def Ng (hk:ak P k (vM V) vN 1) (he:iF P (V.f 133)) (hl:Lu P (V.f 127)):iG P k:=by
 intro p x H hx;obtain⟨v,W,rfl,hv⟩:=hx;refine ah hk (args:=[_]) (by simp) ?_;unfold vM vN kA kB kC kD kG kI kL kM kR kU kc kd kg kY;simp only[go_sem,zS,↓reduceIte,Za,Zb,Zc,reduceCtorEq,bd];refine ax fun H1 b1 e1 z1 B1 K1=>?_;have hv1:=hv.ai K1 (by simp);simp only[go_sem,zS,↓reduceIte,Za,Zb,Zc,reduceCtorEq,ae,B1.aL 1 rfl];refine(he p v W H1 hv1).mono ?_;rintro r H2 ⟨rfl,K2⟩;have B2:=K2.bl B1 id;have hv2:=hv1.ai K2 (by simp)
 by_cases hW:W=[]
 ·simp only[go_sem,zS,↓reduceIte,Za,Zb,Zc,reduceCtorEq,ae,hW];exact⟨.inl (hv.uK.1 hW),K1.trans K2⟩
 ·have GA:0<W.length:=List.length_pos_iff.2 hW;have hlen:=hv.len;obtain⟨b,o,c,rfl,-,hc⟩:=hv2.sl.cells (by intro e;have h:=congrArg Y8 e;rw[aI,Zx]at h;omega);rw[aI]at hc⊢;have hci:=hc (W.length -1) (by omega);rw[dW _ _ (by omega)]at hci;have w1:IntKind.i64.wrap (((W.length:Nat):Int) -1)=((W.length -1:Nat):Int):=by rw[show(((W.length:Nat):Int) -1)=((W.length -1:Nat):Int) by omega];exact ZN _ ⟨by omega,by omega⟩
  have w2:IntKind.i64.wrap (64*((W.length -1:Nat):Int))=((64*(W.length -1):Nat):Int):=by rw[show(64*((W.length -1:Nat):Int))=((64*(W.length -1):Nat):Int) by omega];exact ZN _ ⟨by omega,by omega⟩
  simp only[go_sem,zS,↓reduceIte,Za,Zb,Zc,reduceCtorEq,ae,hW,B2.cell,aI,w1,w2,al,Zs,hci];refine⟨by omega,?_⟩;refine(hl _ _).mono ?_;rintro r H3 ⟨rfl,rfl⟩;have hx0:W.getD (W.length -1) 0≠0:=by
   have:=hv.can hW;rw[Yr]at this;rw[ZP,ZO (by omega)];exact this
  obtain⟨l1,l2,l3,l4⟩:=jH hx0;have w3:IntKind.i64.wrap (IntKind.i64.wrap (((64*(W.length -1):Nat):Int)+((ef (W.getD (W.length -1) 0).toNat:Nat):Int)) -1)=((64*(W.length -1)+(ef (W.getD (W.length -1) 0).toNat -1):Nat):Int):=by
   have w4:IntKind.i64.wrap (((64*(W.length -1):Nat):Int)+((ef (W.getD (W.length -1) 0).toNat:Nat):Int))=((64*(W.length -1):Nat):Int)+((ef (W.getD (W.length -1) 0).toNat:Nat):Int):=ZN _ ⟨by omega,by omega⟩;rw[w4,show((((64*(W.length -1):Nat):Int)+((ef (W.getD (W.length -1) 0).toNat:Nat):Int)) -1)=((64*(W.length -1)+(ef (W.getD (W.length -1) 0).toNat -1):Nat):Int) by omega];exact ZN _ ⟨by omega,by omega⟩
  simp only[go_sem,zS,↓reduceIte,Za,Zb,Zc,reduceCtorEq,ae,w3];refine⟨.inr ⟨_,rfl,?_,fun n hn=>?_⟩,K1.trans K2⟩
  ·rw[<-hv.is,gV _ _ _ (by omega)];exact l3
  ·have h1:=hv.lt hn;rw[<-hv.is]at hn
   by_cases e:n/64=W.length -1
   ·unfold cC at hn;rw[e]at hn;have:=l4 _ hn;omega
   ·omega
def qg (P:Program) (k:FuncId):Prop:=∀(p:Nat->Bool) (x:ZR) (H:Hp),aR H x p->an P k #[x] H fun r H'=>r=Z8 ZY ((bf p).length:Int)/\af (fun _=>False) H H'
def fR.count (h:fR H v W p):cn (64*W.length) p=(bf p).length:=by
 rw[gx];have:=h.len;refine(qe (by omega) fun i h1 h2=>?_).symm;rw[<-h.is,fZ h1]
def aaI (hk:ak P k (Gu V) Gv 1) (ho:ED P (V.f 124)):qg P k:=by
 intro p x H hx;obtain⟨v,W,rfl,hv⟩:=hx;refine ah hk (args:=[_]) (by simp) ?_;unfold Gu Gv kA kB kC kD ke kG kH kK kO kR kU kV kc kg kY;simp only[go_sem,zS,↓reduceIte,Za,Zb,Zc,reduceCtorEq,bd];refine ax fun H1 b1 e1 z1 B1 K1=>?_;have hv1:=hv.ai K1 (by simp);have hlen:=hv.len;simp only[go_sem,zS,↓reduceIte,Za,Zb,Zc,reduceCtorEq,ae,B1.cell,hv1.sl.aq,hv1.sl.len,aI];refine aT [10,5,3,9] rfl (fun n f H'=>∃i,i<=W.length/\n=W.length -i/\f 9=Z8 ZY i/\f 3=Z8 ZY (cn (64*i) p:Int)/\H'=H1) W.length
  ⟨0,by omega,by omega,rfl,rfl,rfl⟩ ?_
 rintro n g H' ⟨i,hi,rfl,hf9,uL,rfl⟩;simp only[go_sem,zS,↓reduceIte,Za,Zb,Zc,reduceCtorEq,ae]at hf9 uL;simp only[go_sem,zS,↓reduceIte,Za,Zb,Zc,reduceCtorEq,ae,hf9];refine aN (fun hlt=>?_) (fun ki=>?_)
 ·have hlt:i<W.length:=by omega
  obtain⟨b,o,c,rfl,-,hc⟩:=hv1.sl.cells (by intro e;have h:=congrArg Y8 e;rw[aI,Zx]at h;omega);rw[aI]at hc;have hci:=hc i hlt;rw[dW _ _ hlt]at hci;simp only[go_sem,zS,↓reduceIte,Za,Zb,Zc,reduceCtorEq,ae,uL,hf9,aI,al,Zs,hci];refine⟨by omega,?_⟩;refine(ho _ _).mono ?_;rintro r H3 ⟨rfl,rfl⟩;have hc1:cn (64*(i+1)) p=cn (64*i) p+EB (W.getD i 0):=by
   rw[show 64*(i+1)=64*i+64 by omega,vF]
   congr 1
   exact bY fun b hb=>by rw[<-hv.is,gV _ _ _ hb]
  have hle:=lN (64*(i+1)) p;simp(disch:=omega)only[go_sem,zS,↓reduceIte,Za,Zb,Zc,reduceCtorEq,ae,uL,hf9,ZN];exact⟨W.length -(i+1),by omega,i+1,by omega,rfl,by simp,by rw[hc1];simp⟩
 ·have:i=W.length:=by omega
  subst this;simp only[go_sem,zS,↓reduceIte,Za,Zb,Zc,reduceCtorEq,ae,uL];rw[hv.count];exact⟨rfl,K1⟩
end Go.Mg

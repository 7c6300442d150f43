/- Lemmas of ours. No conditions. -/
import Derived.Test.YteeemadonfcliaaGreatDoorMgMA
import Derived.Test.YteeemadonfcliaaGreatDoorMgLib
import Derived.Test.YteeemadonfcliaaGreatDoorMgKp
open Nat renaming reduceEqDiff→Za,reduceAdd→Zb,reduceMul→Zc
open Int renaming reduceBEq→Zf,reduceBNe→Zg
set_option linter.all false
set_option maxRecDepth 100000
namespace Go.Mg
def bZ (x:UInt64):Nat:=((List.range 64).find? (bt x)).getD 64
variable {x:UInt64} {n t:Nat} {W A B:List UInt64} {p:Nat->Bool}
theorem fb (h:x≠0):bZ x<64/\bt x (bZ x)=true/\∀k<bZ x,bt x k=false:=by
 unfold bZ
 cases e:(List.range 64).find? (bt x)with
 |none=>
  exfalso
  apply h;rw[List.find?_eq_none]at e;apply sZ;intro k hk;rw[dU];have:=e k (by simpa using hk);simpa using this
 |some t=>
  have h1:=List.mem_of_find?_eq_some e;have h2:=List.find?_some e;refine⟨by simpa using h1,h2,fun k hk=>?_⟩;simp only[Option.getD_some]at hk;rw[List.find?_range_eq_some]at e;have:=e.2.2 k hk;simpa using this
theorem Ff (h1:n.testBit t=true) (h2:∀k<t,n.testBit k=false):∃m,n=2^t*(2*m+1):=by
 have h3:n % 2^t=0:=by
  apply Nat.eq_of_testBit_eq;intro k;rw[Nat.testBit_mod_two_pow,Nat.zero_testBit]
  by_cases hk:k<t
  ·rw[h2 k hk];simp
  ·simp[hk]
 rw[Nat.testBit_eq_decide_div_mod_eq,decide_eq_true_eq]at h1;refine⟨n/2^t/2,?_⟩;have e1:=Nat.div_add_mod n (2^t);have e2:=Nat.div_add_mod (n/2^t) 2;rw[h1]at e2;rw[e2];omega
theorem Bh (h1:n.testBit t=true) (h2:∀k<t,n.testBit k=false) (k:Nat):(n -1).testBit k=if k<t then true else if k=t then false else n.testBit k:=by
 obtain⟨m,rfl⟩:=Ff h1 h2;have hp:0<2^t:=Nat.two_pow_pos t;have e:2^t*(2*m+1) -1=2^t*(2*m)+(2^t -1):=by
  rw[Nat.mul_add,Nat.mul_one];omega
 rw[e,Nat.testBit_two_pow_mul_add _ (by omega),Nat.testBit_two_pow_mul]
 by_cases hk:k<t
 ·rw[if_pos hk,if_pos hk,Nat.testBit_two_pow_sub_one];simpa using hk
 ·rw[if_neg hk,if_neg hk]
  by_cases hk2:k=t
  ·subst hk2;rw[if_pos rfl,Nat.sub_self];simp
  ·rw[if_neg hk2];have e1:(k≥t):=by omega
   simp only[e1,decide_true,Bool.true_and];obtain⟨d,rfl⟩:∃d,k=t+(d+1):=⟨k -t -1,by omega⟩
   have e2:t+(d+1) -t=d+1:=by omega
   rw[e2,Nat.testBit_succ,Nat.testBit_succ]
   congr 1;omega
def Od (x:UInt64):UInt64:=x&&&(x -1)
theorem yn (h:x≠0):(x -1).toNat=x.toNat -1:=by
 have h0:x.toNat≠0:=fun e=>h (UInt64.toNat_inj.1 (by simpa using e));have:=x.toNat_lt;rw[UInt64.toNat_sub];have e:(1:UInt64).toNat=1:=rfl;rw[e];omega
theorem Oe (h:x≠0) (k:Nat):bt (Od x) k=(bt x k&&!decide (k=bZ x)):=by
 obtain⟨_,b,c⟩:=fb h;unfold Od;have:bt (x&&&(x -1)) k=(bt x k&&(x.toNat -1).testBit k):=by
  unfold bt;rw[UInt64.toNat_and,Nat.testBit_and,yn h]
 rw[this,Bh b c]
 by_cases h1:k<bZ x
 ·rw[if_pos h1,c k h1];simp
 ·rw[if_neg h1]
  by_cases h2:k=bZ x
  ·rw[if_pos h2];simp[h2]
  ·rw[if_neg h2]
   show(bt x k&&bt x k)=_
   simp[h2]
theorem Jw (h:x≠0):x&&&(0 -x)=UInt64.ofNat (2^bZ x):=by
 obtain⟨a,b,c⟩:=fb h;apply sZ;intro k hk;have h0:x.toNat≠0:=fun e=>h (UInt64.toNat_inj.1 (by simpa using e));have hlt:=x.toNat_lt;have e1:(0 -x).toNat=2^64 -((x.toNat -1)+1):=by
  rw[UInt64.toNat_sub];have e:(0:UInt64).toNat=0:=rfl;rw[e];omega
 have e2:bt (x&&&(0 -x)) k=(bt x k&&(2^64 -((x.toNat -1)+1)).testBit k):=by
  unfold bt;rw[UInt64.toNat_and,Nat.testBit_and,e1]
 rw[e2,Nat.testBit_two_pow_sub_succ (by omega),Bh b c];have e3:bt (UInt64.ofNat (2^bZ x)) k=decide (bZ x=k):=by
  unfold bt;rw[UInt64.toNat_ofNat',Nat.mod_eq_of_lt (Nat.pow_lt_pow_right (by omega) a),Nat.testBit_two_pow]
 rw[e3]
 by_cases h1:k<bZ x
 ·rw[c k h1];have:¬bZ x=k:=by omega
  simp[this]
 ·rw[if_neg h1]
  by_cases h2:k=bZ x
  ·subst h2;simp[b,hk]
  ·rw[if_neg h2];have:¬bZ x=k:=fun h=>h2 h.symm;simp only[hk,decide_true,Bool.true_and,this,decide_false]
   show(bt x k&&!bt x k)=false
   cases bt x k<;>rfl
def wk (x:UInt64):Nat:=cn 64 (bt x)
theorem dx (a b c d:Nat) (hb:b<256) (hd:d<256):(256*a+b)&&&(256*c+d)=256*(a&&&c)+(b&&&d):=by
 apply Nat.eq_of_testBit_eq;intro k;have e:(256:Nat)=2^8:=rfl;have hbd:b&&&d<2^8:=Nat.lt_of_le_of_lt Nat.and_le_left hb;rw[Nat.testBit_and,e,Nat.testBit_two_pow_mul_add _ hb,Nat.testBit_two_pow_mul_add _ hd,Nat.testBit_two_pow_mul_add _ hbd]
 split
 ·rw[Nat.testBit_and]
 ·rw[Nat.testBit_and]
def rB (c:Nat):Nat->Nat
 |0=>0
 |k+1=>256*rB c k+c
def p1 (m n:Nat):Nat:=(n/2&&&m)+(n&&&m)
def p2 (m n:Nat):Nat:=(n/4&&&m)+(n&&&m)
def p3 (m n:Nat):Nat:=(n/16+n)&&&m
theorem Fg:∀b:Fin 256,((b.val/2&&&0x55)=((128+b.val/2)&&&0x55))/\p1 0x55 b.val<256:=by decide+kernel
theorem Of:∀b:Fin 256,∀c:Fin 4,((c.val*64+b.val/4)&&&0x33)=(b.val/4&&&0x33):=by decide+kernel
theorem R8:∀b:Fin 256,p2 0x33 b.val<=0x66/\p2 0x33 (p1 0x55 b.val)<=0x44/\p2 0x33 (p1 0x55 b.val) % 16<=4:=by decide+kernel
theorem Og:∀y:Fin 69,∀c:Fin 5,((c.val*16+y.val/16+y.val)&&&0x0f)=p3 0x0f y.val:=by decide+kernel
def CE (b:Nat):Nat:=cn 8 fun k=>b.testBit k
theorem Fh:∀b:Fin 256,p3 0x0f (p2 0x33 (p1 0x55 b.val))=CE b.val/\CE b.val<=8:=by decide+kernel
theorem Jx (m n b:Nat) (hb:b<256):p1 (256*m+0x55) (256*n+b)=256*p1 m n+p1 0x55 b:=by
 obtain⟨h1,_⟩:=Fg ⟨b,hb⟩;have e1:(256*n+b)/2=256*(n/2)+(n % 2*128+b/2):=by omega
 unfold p1;rw[e1,dx _ _ _ _ (by omega) (by omega),dx _ _ _ _ hb (by omega)];have e2:(n % 2*128+b/2)&&&0x55=b/2&&&0x55:=by
  have:n % 2=0\/n % 2=1:=by omega
  rcases this with h|h
  ·rw[h];simp
  ·rw[h,Nat.one_mul];exact h1.symm
 rw[e2];omega
theorem Jy (m n b:Nat) (hb:b<256):p2 (256*m+0x33) (256*n+b)=256*p2 m n+p2 0x33 b:=by
 have h1:=Of ⟨b,hb⟩ ⟨n % 4,by omega⟩;have e1:(256*n+b)/4=256*(n/4)+(n % 4*64+b/4):=by omega
 unfold p2;rw[e1,dx _ _ _ _ (by omega) (by omega),dx _ _ _ _ hb (by omega)];have h1:(n % 4*64+b/4)&&&0x33=b/4&&&0x33:=h1;rw[h1];omega
theorem Jz (m n y:Nat) (hy:y<=0x44) (hn:n % 16<=4):p3 (256*m+0x0f) (256*n+y)=256*p3 m n+p3 0x0f y:=by
 have h1:=Og ⟨y,by omega⟩ ⟨n % 16,by omega⟩;have h1:((n % 16*16+y/16+y)&&&0x0f)=p3 0x0f y:=h1;have e1:(256*n+y)/16+(256*n+y)=256*(n/16+n)+(n % 16*16+y/16+y):=by omega
 unfold p3 at*;rw[e1,dx _ _ _ _ (by omega) (by omega),h1]
def JB:Nat->Nat->Nat
 |0,_=>0
 |k+1,n=>256*JB k (n/256)+CE (n % 256)
theorem R9:∀(k n:Nat),n<256^k->p2 (rB 0x33 k) (p1 (rB 0x55 k) n) % 16<=4/\p3 (rB 0x0f k) (p2 (rB 0x33 k) (p1 (rB 0x55 k) n))=JB k n
 |0,n,h=>by
  have:n=0:=by simpa using h
  subst this
  decide
 |k+1,n,h=>by
  have hb:n % 256<256:=Nat.mod_lt _ (by omega);have hk:n/256<256^k:=by rw[Nat.pow_succ]at h;omega
  obtain⟨i1,i2⟩:=R9 k (n/256) hk;have e:n=256*(n/256)+n % 256:=by omega
  have s1:=Jx (rB 0x55 k) (n/256) (n % 256) hb;rw[<-e]at s1;obtain⟨_,t1⟩:=Fg ⟨n % 256,hb⟩;obtain⟨_,t2,t3⟩:=R8 ⟨n % 256,hb⟩;have s2:=Jy (rB 0x33 k) (p1 (rB 0x55 k) (n/256)) (p1 0x55 (n % 256)) t1;rw[<-s1]at s2;have s3:=Jz (rB 0x0f k) (p2 (rB 0x33 k) (p1 (rB 0x55 k) (n/256))) (p2 0x33 (p1 0x55 (n % 256))) t2 i1;rw[<-s2]at s3;refine⟨?_,?_⟩
  ·show p2 (256*rB 0x33 k+0x33) (p1 (256*rB 0x55 k+0x55) n) % 16<=4
   rw[s2];have t3:p2 0x33 (p1 0x55 (n % 256)) % 16<=4:=t3;omega
  ·show p3 (256*rB 0x0f k+0x0f) (p2 (256*rB 0x33 k+0x33) (p1 (256*rB 0x55 k+0x55) n))=_
   rw[s3,i2,(Fh ⟨n % 256,hb⟩).1]
   rfl
theorem oM (a b:Nat) (p:Nat->Bool):cn (a+b) p=cn a p+cn b fun i=>p (a+i):=by
 induction b with
 |zero=>rfl
 |succ b ih=>rw[<-Nat.add_assoc,aX,aX,ih];omega
theorem fL (k n:Nat):cn (8*(k+1)) (fun i=>n.testBit i)=CE (n % 256)+cn (8*k) fun i=>(n/256).testBit i:=by
 rw[show 8*(k+1)=8+8*k by omega,oM]
 congr 1
 ·refine aZ fun i hi=>?_;rw[show(256:Nat)=2^8 from rfl,Nat.testBit_mod_two_pow];simp[hi]
 ·refine aZ fun i hi=>?_;rw[show(256:Nat)=2^8 from rfl,Nat.testBit_div_two_pow]
  congr 1
  omega
theorem wo (x:UInt64):∃c0 c1 c2 c3 c4 c5 c6 c7:Nat,JB 8 x.toNat=c0+256*(c1+256*(c2+256*(c3+256*(c4+256*(c5+256*(c6+256*c7))))))/\wk x=c0+c1+c2+c3+c4+c5+c6+c7∧
  c0<=8/\c1<=8/\c2<=8/\c3<=8/\c4<=8/\c5<=8/\c6<=8/\c7<=8:=by
 have hp:∀n,CE (n % 256)<=8:=fun n=>(Fh ⟨n % 256,Nat.mod_lt _ (by omega)⟩).2;refine⟨CE ((x.toNat) % 256),CE ((x.toNat/256) % 256),CE ((x.toNat/256/256) % 256),CE ((x.toNat/256/256/256) % 256),CE ((x.toNat/256/256/256/256) % 256),CE ((x.toNat/256/256/256/256/256) % 256),CE ((x.toNat/256/256/256/256/256/256) % 256),CE ((x.toNat/256/256/256/256/256/256/256) % 256),?_,?_,hp _,hp _,hp _,hp _,hp _,hp _,hp _,hp _⟩
 ·simp only[JB];omega
 ·have e:wk x=cn (8*(7+1)) fun i=>x.toNat.testBit i:=rfl;rw[e,fL 7,fL 6,fL 5,fL 4,fL 3,fL 2,fL 1,fL 0];simp only[Nat.mul_zero,cn];omega
def bU (W:List UInt64) (n:Nat):Bool:=bt (W.getD (n/64) 0) (n % 64)
theorem fN (h:64*W.length<=n):bU W n=false:=by
 unfold bU;rw[List.getD_eq_getElem?_getD,List.getElem?_eq_none (by omega)];exact dU _
theorem fO (W:List UInt64) (k b:Nat) (hb:b<64):bU W (64*k+b)=bt (W.getD k 0) b:=by
 unfold bU;rw[show(64*k+b)/64=k by omega,show(64*k+b) % 64=b by omega]
theorem Fi (hl:A.length=B.length) (h:∀n,bU A n=bU B n):A=B:=by
 apply List.ext_getElem hl;intro i h1 h2;apply sZ;intro k hk;have:=h (64*i+k);rw[fO _ _ _ hk,fO _ _ _ hk]at this;simpa[List.getD_eq_getElem?_getD,h1,h2]using this
def Can (W:List UInt64):Prop:=∀h:W≠[],W.getLast h≠0
theorem Can.top (h:Can W) (hW:W≠[]):∃n,bU W n=true/\64*(W.length -1)<=n/\n<64*W.length:=by
 have hl:0<W.length:=List.length_pos_iff.2 hW;obtain⟨a,b,c⟩:=fb (h hW);refine⟨64*(W.length -1)+bZ (W.getLast hW),?_,by omega,by omega⟩;rw[fO _ _ _ a,<-b]
 congr 1
 rw[List.getD_eq_getElem?_getD,List.getLast_eq_getElem];have:W.length -1<W.length:=by omega
 simp[this]
theorem Can.ext (ha:Can A) (hb:Can B) (h:∀n,bU A n=bU B n):A=B:=by
 refine Fi ?_ h;rcases Nat.lt_trichotomy A.length B.length with hl|hl|hl
 ·obtain⟨n,h1,h2,h3⟩:=hb.top (List.length_pos_iff.1 (by omega));have:=h n;rw[h1,fN (by omega)]at this;cases this
 ·exact hl
 ·obtain⟨n,h1,h2,h3⟩:=ha.top (List.length_pos_iff.1 (by omega));have:=h n;rw[h1,fN (by omega)]at this;cases this
def aD (p:Nat->Bool):List Nat:=(List.range 4096).filter p
theorem oN (p:Nat->Bool):∀(N n:Nat),n<N->p n=true->((List.range N).filter p)[cn n p]?=some n
 |0,n,h,_=>by omega
 |N+1,n,h,hp=>by
  rw[List.range_succ,List.filter_append]
  by_cases e:n<N
  ·have:=oN p N n e hp;have hl:=(List.getElem?_eq_some_iff.1 this).1;rw[List.getElem?_append_left hl];exact this
  ·have:n=N:=by omega
   subst this;rw[List.getElem?_append_right (by rw[cH];exact Nat.le_refl _),cH];simp[hp]
theorem iS {a b : Nat} (hab : a <= b) (h : ∀ i, a <= i -> i < b -> p i = false) : cn b p = cn a p := by
  induction b with
  | zero => have : a = 0 := by omega
            subst this; rfl
  | succ b ih =>
    by_cases e : a = b + 1
    · subst e; rfl
    · rw [aX, h b (by omega) (by omega), ih (by omega) fun i h1 h2 => h i h1 (by omega)]; simp
theorem bH:n∈aD p↔n<4096/\p n=true:=by simp[aD]
theorem bR (p:Nat->Bool):(aD p).length=cn 4096 p:=cH _ _
theorem wx (p:Nat->Bool):(aD p).Pairwise (·<·):=List.pairwise_lt_range.filter _
end Go.Mg
namespace Go.Mg
open Go Go.RowKit
def yo (ι:aJ):S:=
 kY [kC 2 (.int .i64 0)] (kY [kA 3 0,kU 4 (.sh .shr .u64 (.t 3) (.c (.int .u64 1))),kU 5 (.bt .and .u64 (.t 4) (.c (.int .u64 6148914691236517205))),kA 6 0,kU 7 (.bt .and .u64 (.t 6) (.c (.int .u64 6148914691236517205))),kU 8 (.ar .add .u64 (.t 5) (.t 7)),kB 0 8] (kY [kA 9 0,kU 10 (.sh .shr .u64 (.t 9) (.c (.int .u64 2))),kU 11 (.bt .and .u64 (.t 10) (.c (.int .u64 3689348814741910323))),kA 12 0,kU 13 (.bt .and .u64 (.t 12) (.c (.int .u64 3689348814741910323))),kU 14 (.ar .add .u64 (.t 11) (.t 13)),kB 0 14] (kY [kA 15 0,kU 16 (.sh .shr .u64 (.t 15) (.c (.int .u64 4))),kA 17 0,kU 18 (.ar .add .u64 (.t 16) (.t 17)),kU 19 (.bt .and .u64 (.t 18) (.c (.int .u64 1085102592571150095))),kB 0 19] (kY [kA 20 0,kA 21 0,kU 22 (.sh .shr .u64 (.t 21) (.c (.int .u64 8))),kU 23 (.ar .add .u64 (.t 20) (.t 22)),kB 0 23] (kY [kA 24 0,kA 25 0,kU 26 (.sh .shr .u64 (.t 25) (.c (.int .u64 16))),kU 27 (.ar .add .u64 (.t 24) (.t 26)),kB 0 27] (kY [kA 28 0,kA 29 0,kU 30 (.sh .shr .u64 (.t 29) (.c (.int .u64 32))),kU 31 (.ar .add .u64 (.t 28) (.t 30)),kB 0 31] (kY [kA 32 0,kU 33 (.ii .i64 (.t 32)),kU 34 (.bt .and .i64 (.t 33) (.c (.int .i64 127))),kB 2 34] .ret)))))))
def yp:List RV:=[.t 2]
def Oh (ι:aJ):S:=
 kY [kC 2 (.int .i64 0)] (.seq (kY [kA 3 0,kV 4 (.cm .eql .u64 (.t 3) (.c (.int .u64 0)))] (.ite (.v 4) (kY [kC 2 (.int .i64 64)] .ret) .skip)) (kY [kA 5 0,kA 6 0,kU 7 (.neg .u64 (.t 6)),kU 8 (.bt .and .u64 (.t 5) (.t 7)),kU 9 (.ar .mul .u64 (.t 8) (.c (.int .u64 285870213051353865))),kU 10 (.sh .shr .u64 (.t 9) (.c (.int .u64 58))),kU 11 (.ia 64 1 (.c (.pointer (.some ⟨ι.g 125,0,.none⟩))) (.t 10)),kD 12 11,kU 13 (.ii .i64 (.t 12)),kB 2 13] .ret))
def Oi:List RV:=[.t 2]
def tf (ι:aJ):S:=
 kY [kC 2 (.int .i64 0)] (.seq (kY [kA 3 0,kV 4 (.cm .geq .u64 (.t 3) (.c (.int .u64 4294967296)))] (.ite (.v 4) (kY [kA 5 0,kU 6 (.sh .shr .u64 (.t 5) (.c (.int .u64 32))),kB 0 6] (.reg [kC 2 (.int .i64 32)])) .skip)) (.seq (kY [kA 7 0,kV 8 (.cm .geq .u64 (.t 7) (.c (.int .u64 65536)))] (.ite (.v 8) (kY [kA 9 0,kU 10 (.sh .shr .u64 (.t 9) (.c (.int .u64 16))),kB 0 10] (.reg [kA 11 2,kU 12 (.ar .add .i64 (.t 11) (.c (.int .i64 16))),kB 2 12])) .skip)) (.seq (kY [kA 13 0,kV 14 (.cm .geq .u64 (.t 13) (.c (.int .u64 256)))] (.ite (.v 14) (kY [kA 15 0,kU 16 (.sh .shr .u64 (.t 15) (.c (.int .u64 8))),kB 0 16] (.reg [kA 17 2,kU 18 (.ar .add .i64 (.t 17) (.c (.int .i64 8))),kB 2 18])) .skip)) (kY [kA 19 2,kA 20 0,kU 21 (.ii .u8 (.t 20)),kU 22 (.m (.ixs (.c (.string ⟨#[0,1,2,2,3,3,3,3,4,4,4,4,4,4,4,4,5,5,5,5,5,5,5,5,5,5,5,5,5,5,5,5,6,6,6,6,6,6,6,6,6,6,6,6,6,6,6,6,6,6,6,6,6,6,6,6,6,6,6,6,6,6,6,6,7,7,7,7,7,7,7,7,7,7,7,7,7,7,7,7,7,7,7,7,7,7,7,7,7,7,7,7,7,7,7,7,7,7,7,7,7,7,7,7,7,7,7,7,7,7,7,7,7,7,7,7,7,7,7,7,7,7,7,7,7,7,7,7,8,8,8,8,8,8,8,8,8,8,8,8,8,8,8,8,8,8,8,8,8,8,8,8,8,8,8,8,8,8,8,8,8,8,8,8,8,8,8,8,8,8,8,8,8,8,8,8,8,8,8,8,8,8,8,8,8,8,8,8,8,8,8,8,8,8,8,8,8,8,8,8,8,8,8,8,8,8,8,8,8,8,8,8,8,8,8,8,8,8,8,8,8,8,8,8,8,8,8,8,8,8,8,8,8,8,8,8,8,8,8,8,8,8,8,8,8,8,8,8,8,8,8,8,8,8,8,8]⟩)) (.t 21))),kU 23 (.ii .i64 (.t 22)),kU 24 (.ar .add .i64 (.t 19) (.t 23)),kB 2 24] .ret))))
def tg:List RV:=[.t 2]
theorem u64_and (a b:Nat) (ha:a<18446744073709551616) (hb:b<18446744073709551616):bits .and .u64 (a:Int) (b:Int)=((a&&&b:Nat):Int):=by
 have h:=oL (UInt64.ofNat a) (UInt64.ofNat b);rw[UInt64.toNat_and,UInt64.toNat_ofNat',UInt64.toNat_ofNat',Nat.mod_eq_of_lt ha,Nat.mod_eq_of_lt hb]at h;exact h
theorem u64_in (n:Nat) (h:n<18446744073709551616):IntKind.u64.wrap (n:Int)=(n:Int):=by rw[IntKind.wrap_u64];omega
theorem WS (x:UInt64) (k:Nat):bits .and .u64 ((x.toNat:Int)/2^k) 1=if bt x k=true then 1 else 0:=by
 have e:((x.toNat:Int)/2^k)=((x.toNat/2^k:Nat):Int):=by simp
 have hlt:x.toNat/2^k<18446744073709551616:=Nat.lt_of_le_of_lt (Nat.div_le_self _ _) x.toNat_lt;rw[e,show(1:Int)=((1:Nat):Int)from rfl,u64_and _ _ hlt (by omega),Nat.and_one_is_mod];unfold bt;rw[Nat.testBit_eq_decide_div_mod_eq]
 by_cases h:x.toNat/2^k % 2=1
 ·simp[h]
 ·have:x.toNat/2^k % 2=0:=by omega
  simp[this]
theorem i64_and127 (n:Nat) (h:n<9223372036854775808):bits .and .i64 (n:Int) 127=((n % 128:Nat):Int):=by
 show IntKind.i64.wrap ((BitVec.ofInt 64 (n:Int)&&&BitVec.ofInt 64 127).toNat:Int)=_
 have e:(BitVec.ofInt 64 (n:Int)&&&BitVec.ofInt 64 127).toNat=n % 128:=by
  rw[BitVec.toNat_and];have e1:(BitVec.ofInt 64 (n:Int)).toNat=n:=by simp;omega
  have e2:(BitVec.ofInt 64 127).toNat=127:=by decide
  rw[e1,e2,show 127=2^7 -1 from rfl,Nat.and_two_pow_sub_one_eq_mod]
 rw[e];exact IntWalk.i64_in _ ⟨by omega,by omega⟩
def Oj (c T:Nat->Nat):Prop:=∀i,T i=c i+256*T (i+1)
variable {c T:Nat->Nat} {P:Program} {ι:aJ} {k:FuncId}
theorem th (h:Oj c T) (hc:∀i,c i<256) (i:Nat):T i/256=T (i+1):=by
 have a:=h i;have b:=hc i;rw[a];generalize T (i+1)=y at*;generalize c i=z at*;omega
theorem tj (h:Oj c T) (s:Nat):Oj (fun i=>c i+c (i+s)) (fun i=>T i+T (i+s)):=by
 intro i;have a:=h i;have b:=h (i+s);have e:i+s+1=i+1+s:=by omega
 rw[e]at b;simp only;rw[a,b];generalize T (i+1)=y;generalize T (i+1+s)=z;omega
def UO:List Nat->Nat
 |[]=>0
 |a::l=>a+256*UO l
theorem JC (l:List Nat):Oj (fun i=>l.getD i 0) (fun i=>UO (l.drop i)):=by
 intro i;simp only
 by_cases h:i<l.length
 ·rw[List.drop_eq_getElem_cons h,List.getD_eq_getElem?_getD,List.getElem?_eq_getElem h];rfl
 ·rw[List.drop_eq_nil_of_le (by omega),List.drop_eq_nil_of_le (by omega),List.getD_eq_getElem?_getD,List.getElem?_eq_none (by omega)];rfl
theorem Ol (hd:Oj c T) (hc:∀i,c i<=8):(T 0+T 0/256+(T 0+T 0/256)/65536+(T 0+T 0/256+(T 0+T 0/256)/65536)/4294967296) % 128=c 0+c 1+c 2+c 3+c 4+c 5+c 6+c 7:=by
 have e1:T 0/256=T 1:=th hd (fun i=>Nat.lt_of_le_of_lt (hc i) (by decide)) 0;rw[e1];obtain⟨A,hA⟩:∃A:Nat->Nat,A=fun i=>T i+T (i+1):=⟨_,rfl⟩
 obtain⟨a,ha⟩:∃a:Nat->Nat,a=fun i=>c i+c (i+1):=⟨_,rfl⟩
 have s1:Oj a A:=by rw[hA,ha];exact tj hd 1
 have a1:∀i,a i<=16:=fun i=>by rw[ha];exact Nat.add_le_add (hc i) (hc (i+1))
 have Om:T 0+T 1=A 0:=by rw[hA]
 rw[Om];have d1:∀i,A i/256=A (i+1):=fun i=>th s1 (fun i=>Nat.lt_of_le_of_lt (a1 i) (by decide)) i;have e2:A 0/65536=A 2:=by
  rw[show 65536=256*256 from rfl,<-Nat.div_div_eq_div_mul,d1,d1]
 rw[e2];obtain⟨B,hB⟩:∃B:Nat->Nat,B=fun i=>A i+A (i+2):=⟨_,rfl⟩
 obtain⟨b,hb⟩:∃b:Nat->Nat,b=fun i=>a i+a (i+2):=⟨_,rfl⟩
 have s2:Oj b B:=by rw[hB,hb];exact tj s1 2
 have b1:∀i,b i<=32:=fun i=>by rw[hb];exact Nat.add_le_add (a1 i) (a1 (i+2))
 have hB0:A 0+A 2=B 0:=by rw[hB]
 rw[hB0];have d2:∀i,B i/256=B (i+1):=fun i=>th s2 (fun i=>Nat.lt_of_le_of_lt (b1 i) (by decide)) i;have e3:B 0/4294967296=B 4:=by
  rw[show 4294967296=256*256*256*256 from rfl,<-Nat.div_div_eq_div_mul,<-Nat.div_div_eq_div_mul,<-Nat.div_div_eq_div_mul,d2,d2,d2,d2]
 rw[e3];have s3:=tj s2 4 0;simp only[Nat.zero_add]at s3;rw[s3];have fin:∀z y:Nat,y<=64->(y+256*z) % 128=y:=fun z y h=>by omega
 rw[fin _ _ (Nat.add_le_add (b1 0) (b1 4)),hb,ha];simp only[Nat.zero_add,Zb];generalize c 0=x0;generalize c 1=x1;generalize c 2=x2;generalize c 3=x3;generalize c 4=x4;generalize c 5=x5;generalize c 6=x6;generalize c 7=x7;omega
def wy (P:Program) (k:FuncId):Prop:=∀(x:UInt64) (H:Hp),an P k #[.int .u64 x.toNat] H fun r H'=>r=.int .i64 (wk x:Int)/\H'=H
theorem nH (a b:Nat):a&&&b<=b:=Nat.and_le_right
theorem JD (hk:aq P k (yo ι) yp 1):wy P k:=by
 intro x H;refine ah hk (args:=[_]) (by simp) ?_;unfold yo yp kA kB kC kU kY;have hx:=x.toNat_lt;have g1:rB 0x55 8=6148914691236517205:=by decide
 have g2:rB 0x33 8=3689348814741910323:=by decide
 have g3:rB 0x0f 8=1085102592571150095:=by decide
 obtain⟨-,hp⟩:=R9 8 x.toNat (by have:=x.toNat_lt;exact this);rw[g1,g2,g3]at hp;obtain⟨c0,c1,c2,c3,c4,c5,c6,c7,hs,hc,h0,h1,h2,h3,h4,h5,h6,h7⟩:=wo x;rw[hs]at hp
 -- the first sum
 have a1:bits .and .u64 ((x.toNat:Int)/2^1) 6148914691236517205=((x.toNat/2&&&6148914691236517205:Nat):Int):=by
  have:=u64_and (x.toNat/2) 6148914691236517205 (by omega) (by omega);rw[<-this];rfl
 have a2:bits .and .u64 (x.toNat:Int) 6148914691236517205=((x.toNat&&&6148914691236517205:Nat):Int):=u64_and _ 6148914691236517205 hx (by omega);have l1:=nH (x.toNat/2) 6148914691236517205;have l2:=nH x.toNat 6148914691236517205;have a3:IntKind.u64.wrap (((x.toNat/2&&&6148914691236517205:Nat):Int)+((x.toNat&&&6148914691236517205:Nat):Int))=((p1 6148914691236517205 x.toNat:Nat):Int):=by
  unfold p1;rw[<-Int.natCast_add];exact u64_in _ (by omega)
 have b1:p1 6148914691236517205 x.toNat<=12297829382473034410:=by unfold p1;omega
 simp only[go_sem,zS,↓reduceIte,Za,Zb,Zc,reduceCtorEq,ae,iM,a1,a2,a3];generalize p1 6148914691236517205 x.toNat=m at*;have a4:bits .and .u64 ((m:Int)/2^2) 3689348814741910323=((m/4&&&3689348814741910323:Nat):Int):=by
  have:=u64_and (m/4) 3689348814741910323 (by omega) (by omega);rw[<-this];rfl
 have a5:bits .and .u64 (m:Int) 3689348814741910323=((m&&&3689348814741910323:Nat):Int):=u64_and _ 3689348814741910323 (by omega) (by omega);have l3:=nH (m/4) 3689348814741910323;have l4:=nH m 3689348814741910323;have a6:IntKind.u64.wrap (((m/4&&&3689348814741910323:Nat):Int)+((m&&&3689348814741910323:Nat):Int))=((p2 3689348814741910323 m:Nat):Int):=by
  unfold p2;rw[<-Int.natCast_add];exact u64_in _ (by omega)
 have b2:p2 3689348814741910323 m<=7378697629483820646:=by unfold p2;omega
 simp only[a4,a5,a6];generalize p2 3689348814741910323 m=q at*;have a7:IntKind.u64.wrap ((q:Int)/2^4+(q:Int))=((q/16+q:Nat):Int):=by
  have e:((q:Int)/2^4)=((q/16:Nat):Int):=by simp
  rw[e,<-Int.natCast_add];exact u64_in _ (by omega)
 have a8:bits .and .u64 ((q/16+q:Nat):Int) 1085102592571150095=((p3 1085102592571150095 q:Nat):Int):=u64_and _ 1085102592571150095 (by omega) (by omega);simp only[a7,a8,hp];generalize ht:c0+256*(c1+256*(c2+256*(c3+256*(c4+256*(c5+256*(c6+256*c7))))))=t;have a9:IntKind.u64.wrap ((t:Int)+(t:Int)/2^8)=((t+t/256:Nat):Int):=by
  have e:((t:Int)/2^8)=((t/256:Nat):Int):=by simp
  rw[e,<-Int.natCast_add];exact u64_in _ (by omega)
 simp only[a9];generalize ht2:t+t/256=t2;have a10:IntKind.u64.wrap ((t2:Int)+(t2:Int)/2^16)=((t2+t2/65536:Nat):Int):=by
  have e:((t2:Int)/2^16)=((t2/65536:Nat):Int):=by simp
  rw[e,<-Int.natCast_add];exact u64_in _ (by omega)
 simp only[a10];generalize ht3:t2+t2/65536=t3;have a11:IntKind.u64.wrap ((t3:Int)+(t3:Int)/2^32)=((t3+t3/4294967296:Nat):Int):=by
  have e:((t3:Int)/2^32)=((t3/4294967296:Nat):Int):=by simp
  rw[e,<-Int.natCast_add];exact u64_in _ (by omega)
 simp only[a11];generalize ht4:t3+t3/4294967296=t4;have hb4:t4<9223372036854775808:=by omega
 have a12:IntKind.i64.wrap (t4:Int)=(t4:Int):=IntWalk.i64_in _ ⟨by omega,by omega⟩;simp only[a12,i64_and127 _ hb4,go_sem,zS,↓reduceIte,Za,Zb,Zc,reduceCtorEq,ae];have this:t4 % 128=wk x:=by
  have hle:∀i,([c0,c1,c2,c3,c4,c5,c6,c7]:List Nat).getD i 0<=8:=by
   intro i;rcases i with _|_|_|_|_|_|_|_|i
   ·exact h0
   ·exact h1
   ·exact h2
   ·exact h3
   ·exact h4
   ·exact h5
   ·exact h6
   ·exact h7
   ·exact Nat.zero_le _
  have hf:=Ol (JC [c0,c1,c2,c3,c4,c5,c6,c7]) hle;have hT:UO (List.drop 0 [c0,c1,c2,c3,c4,c5,c6,c7])=t:=by rw[<-ht,List.drop_zero];simp only[UO,Nat.mul_zero,Nat.add_zero]
  simp only[hT,ht2,ht3,ht4]at hf;rw[hc];exact hf
 rw[this]
 repeat' apply And.intro
 all_goals first|trivial|decide|omega
def JE:List Nat:=[0,1,56,2,57,49,28,3,61,58,42,50,38,29,17,4,62,47,59,36,45,43,51,22,53,39,33,30,24,18,12,5,63,55,48,27,60,41,37,16,46,35,44,21,52,32,23,11,54,26,40,15,34,20,31,10,25,14,19,9,13,8,7,6]
def br (ι:aJ) (H:Hp):Prop:=Bl H (ι.g 125) ((JE.map fun n:Nat=>(n:Int)).map (Value.int .u8))
theorem br.ag {H H':Hp} (h:br ι H) (hk:af (fun _=>False) H H'):br ι H':=hk.bl h (by simp)
theorem On:∀t:Fin 64,JE.getD (2^t.val*285870213051353865 % 18446744073709551616/288230376151711744) 0=t.val/\2^t.val*285870213051353865 % 18446744073709551616/288230376151711744<64:=by decide+kernel
def mc (P:Program) (ι:aJ) (k:FuncId):Prop:=∀(x:UInt64) (H:Hp),br ι H->x≠0->an P k #[.int .u64 x.toNat] H fun r H'=>r=.int .i64 (bZ x:Int)/\H'=H
theorem Sa (hk:aq P k (Oh ι) Oi 1):mc P ι k:=by
 intro x H hT hx;refine ah hk (args:=[_]) (by simp) ?_;unfold Oh Oi kA kB kC kD kU kV kY;obtain⟨hl,_,_⟩:=fb hx;have h0:¬((x.toNat:Int)==0)=true:=by
  simp only[beq_iff_eq];intro e;exact hx (UInt64.toNat_inj.1 (by simpa using e))
 have h0:((x.toNat:Int)==0)=false:=by simpa using h0
 have WT:IntKind.u64.wrap (-(x.toNat:Int))=((0 -x:UInt64).toNat:Int):=by
  have:=x.toNat_lt;have h1:x.toNat≠0:=fun e=>hx (UInt64.toNat_inj.1 (by simpa using e));rw[IntKind.wrap_u64,UInt64.toNat_sub];have e:(0:UInt64).toNat=0:=rfl;rw[e];omega
 have hand:=oL x (0 -x);rw[Jw hx]at hand;have hp:(UInt64.ofNat (2^bZ x)).toNat=2^bZ x:=by
  rw[UInt64.toNat_ofNat'];exact Nat.mod_eq_of_lt (Nat.pow_lt_pow_right (by omega) hl)
 rw[hp]at hand;obtain⟨t1,t2⟩:=On ⟨bZ x,hl⟩;simp only at t1 t2;have hmul:IntKind.u64.wrap (((2^bZ x:Nat):Int)*285870213051353865)=((2^bZ x*285870213051353865 % 18446744073709551616:Nat):Int):=by
  rw[IntKind.wrap_u64];simp
 have hsh:((2^bZ x*285870213051353865 % 18446744073709551616:Nat):Int)/2^58=((2^bZ x*285870213051353865 % 18446744073709551616/288230376151711744:Nat):Int):=by simp
 have hcell:cell H ⟨ι.g 125,2^bZ x*285870213051353865 % 18446744073709551616/288230376151711744,none⟩=some (.int .u8 (bZ x:Int)):=by
  rw[hT.cell];have hlen:JE.length=64:=by decide
  rw[List.getElem?_map,List.getElem?_map,List.getElem?_eq_getElem (by rw[hlen];exact t2)];simp only[Option.map_some];rw[List.getD_eq_getElem?_getD,List.getElem?_eq_getElem (by rw[hlen];exact t2),Option.getD_some]at t1;rw[t1]
 have hw:IntKind.i64.wrap (bZ x:Int)=(bZ x:Int):=IntWalk.i64_in _ ⟨by omega,by omega⟩;simp only[go_sem,zS,↓reduceIte,Za,Zb,Zc,reduceCtorEq,ae,h0,WT,hand,hmul,iM,hsh,ai,hcell,hw]
 repeat' apply And.intro
 all_goals first|trivial|decide|omega|exact_mod_cast t2
def oO:List UInt8:=[0,1,2,2,3,3,3,3]++List.replicate 8 4++List.replicate 16 5++List.replicate 32 6++List.replicate 64 7++List.replicate 128 8
def oP (b:Nat):Nat:=(oO.getD b 0).toNat
theorem Bi:∀b:Fin 256,b.val<2^oP b.val/\(b.val≠0->2^(oP b.val -1)<=b.val/\1<=oP b.val)/\oP b.val<=8:=by decide+kernel
def dy (n:Nat):Nat:=if n=0 then 0 else n.log2+1
theorem Bj {n k:Nat} (h1:n<2^k) (h2:2^(k -1)<=n) (h3:1<=k):dy n=k:=by
 have hn:n≠0:=by have:=Nat.two_pow_pos (k -1);omega
 unfold dy;rw[if_neg hn];have:n.log2=k -1:=(Nat.log2_eq_iff hn).2 ⟨h2,by rw[show k -1+1=k by omega];exact h1⟩;omega
theorem Fj (b:Nat) (h:b<256):dy b=oP b:=by
 obtain⟨h1,h2,_⟩:=Bi ⟨b,h⟩;simp only at h1 h2
 by_cases e:b=0
 ·subst e;decide
 ·exact Bj h1 (h2 e).1 (h2 e).2
theorem oQ (n k:Nat) (h:2^k<=n):dy n=k+dy (n/2^k):=by
 have hp:=Nat.two_pow_pos k;have hn:n≠0:=by omega
 have hd:n/2^k≠0:=by have:=(Nat.le_div_iff_mul_le hp).2 (by rw[Nat.one_mul];exact h);omega
 have e1:=Nat.log2_self_le hd;have e2:=(Nat.log2_lt hd (k:=(n/2^k).log2+1)).1 (by omega);have:dy (n/2^k)=(n/2^k).log2+1:=by unfold dy;rw[if_neg hd]
 rw[this];refine Bj ?_ ?_ (by omega)
 ·rw[Nat.pow_add];have:=(Nat.div_lt_iff_lt_mul hp).1 e2;rw[Nat.mul_comm];exact this
 ·rw[show k+((n/2^k).log2+1) -1=(n/2^k).log2+k by omega,Nat.pow_add];exact(Nat.le_div_iff_mul_le hp).1 e1
def Bk (P:Program) (k:FuncId):Prop:=∀(x:UInt64) (H:Hp),an P k #[.int .u64 x.toNat] H fun r H'=>r=.int .i64 (dy x.toNat:Int)/\H'=H
theorem Fk:(#[0,1,2,2,3,3,3,3,4,4,4,4,4,4,4,4,5,5,5,5,5,5,5,5,5,5,5,5,5,5,5,5,6,6,6,6,6,6,6,6,6,6,6,6,6,6,6,6,6,6,6,6,6,6,6,6,6,6,6,6,6,6,6,6,7,7,7,7,7,7,7,7,7,7,7,7,7,7,7,7,7,7,7,7,7,7,7,7,7,7,7,7,7,7,7,7,7,7,7,7,7,7,7,7,7,7,7,7,7,7,7,7,7,7,7,7,7,7,7,7,7,7,7,7,7,7,7,7,8,8,8,8,8,8,8,8,8,8,8,8,8,8,8,8,8,8,8,8,8,8,8,8,8,8,8,8,8,8,8,8,8,8,8,8,8,8,8,8,8,8,8,8,8,8,8,8,8,8,8,8,8,8,8,8,8,8,8,8,8,8,8,8,8,8,8,8,8,8,8,8,8,8,8,8,8,8,8,8,8,8,8,8,8,8,8,8,8,8,8,8,8,8,8,8,8,8,8,8,8,8,8,8,8,8,8,8,8,8,8,8,8,8,8,8,8,8,8,8,8,8,8,8,8,8,8,8]:Array UInt8)=oO.toArray:=by decide+kernel
theorem Fl (hk:aq P k (tf ι) tg 1):Bk P k:=by
 intro x H;refine ah hk (args:=[_]) (by simp) ?_;unfold tf tg kA kB kC kU kV kY;have hx:=x.toNat_lt;generalize x.toNat=n at*;have last:∀(m a:Nat),m<256->a<=56->dy n=a+dy m->∀f:Fr,f 0=.int .u64 (m:Int)->f 2=.int .i64 (a:Int)→
   vc P (.seq (.reg [.p (.t 19) (.mv (.v 2)),.p (.t 20) (.mv (.v 0)),.p (.t 21) (.ii .u8 (.t 20)),.p (.t 22) (.m (.ixs (.c (.string ⟨oO.toArray⟩)) (.t 21))),.p (.t 23) (.ii .i64 (.t 22)),.p (.t 24) (.ar .add .i64 (.t 19) (.t 23)),.p (.v 2) (.mv (.t 24))]) .ret)
    (kx [.t 2] fun r H'=>r=.int .i64 (dy n:Int)/\H'=H) f H:=by
  intro m a hm ha he f f0 f2;have hw8:IntKind.u8.wrap (m:Int)=(m:Int):=by rw[IntKind.wrap_u8];omega
  have hlen:oO.length=256:=by decide
  have hg:=Fb oO m (by omega);obtain⟨_,_,h8⟩:=Bi ⟨m,hm⟩;have h8:oP m<=8:=h8;have hT:(oO.getD m 0).toNat=oP m:=rfl;have hw1:IntKind.i64.wrap (oP m:Int)=(oP m:Int):=IntWalk.i64_in _ ⟨by omega,by omega⟩;have Oo:IntKind.i64.wrap ((a:Int)+(oP m:Int))=((a+oP m:Nat):Int):=by rw[<-Int.natCast_add];exact IntWalk.i64_in _ ⟨by omega,by omega⟩
  simp only[go_sem,zS,↓reduceIte,Za,Zb,Zc,reduceCtorEq,ae,f0,f2,hw8,fJ,hlen,ai,hg,hT,hw1,Oo];rw[he,Fj m hm]
  repeat' apply And.intro
  all_goals first|trivial|decide|omega
 rw[Fk];generalize aan:S.seq (.reg [.p (.t 19) (.mv (.v 2)),.p (.t 20) (.mv (.v 0)),.p (.t 21) (.ii .u8 (.t 20)),.p (.t 22) (.m (.ixs (.c (.string ⟨oO.toArray⟩)) (.t 21))),.p (.t 23) (.ii .i64 (.t 22)),.p (.t 24) (.ar .add .i64 (.t 19) (.t 23)),.p (.v 2) (.mv (.t 24))]) .ret=LST at last⊢
 -- the third test
 have Fm:∀(m a:Nat),m<65536->(a=0\/a=16\/a=32\/a=48)->dy n=a+dy m->∀f:Fr,f 0=.int .u64 (m:Int)->f 2=.int .i64 (a:Int)→
   vc P (.seq (.seq (.reg [.p (.t 13) (.mv (.v 0)),.p (.v 14) (.cm .geq .u64 (.t 13) (.c (.int .u64 256)))]) (.ite (.v 14) (.seq (.reg [.p (.t 15) (.mv (.v 0)),.p (.t 16) (.sh .shr .u64 (.t 15) (.c (.int .u64 8))),.p (.v 0) (.mv (.t 16))]) (.reg [.p (.t 17) (.mv (.v 2)),.p (.t 18) (.ar .add .i64 (.t 17) (.c (.int .i64 8))),.p (.v 2) (.mv (.t 18))])) .skip)) LST)
    (kx [.t 2] fun r H'=>r=.int .i64 (dy n:Int)/\H'=H) f H:=by
  intro m a hm ha he f f0 f2;have hw:IntKind.i64.wrap ((a:Int)+8)=((a+8:Nat):Int):=by rw[show((a:Int)+8)=((a+8:Nat):Int) by simp];exact IntWalk.i64_in _ ⟨by omega,by omega⟩
  have hd:(m:Int)/2^8=((m/2^8:Nat):Int):=by simp
  simp only[go_sem,zS,↓reduceIte,Za,Zb,Zc,reduceCtorEq,ae,f0,f2,iM,hw,hd];refine aC (fun h=>?_) (fun h=>?_)
  ·have h:256<=m:=by omega
   exact⟨by decide,last _ _ (by omega) (by omega) (by rw[he,oQ m 8 (by omega)];omega) _ rfl rfl⟩
  ·exact last m a (by omega) (by omega) he _ (by simp only[go_sem,zS,↓reduceIte,Za,Zb,Zc,reduceCtorEq,ae,f0]) (by simp only[go_sem,zS,↓reduceIte,Za,Zb,Zc,reduceCtorEq,ae,f2])
 generalize aao:S.seq (.seq (.reg [.p (.t 13) (.mv (.v 0)),.p (.v 14) (.cm .geq .u64 (.t 13) (.c (.int .u64 256)))]) (.ite (.v 14) (.seq (.reg [.p (.t 15) (.mv (.v 0)),.p (.t 16) (.sh .shr .u64 (.t 15) (.c (.int .u64 8))),.p (.v 0) (.mv (.t 16))]) (.reg [.p (.t 17) (.mv (.v 2)),.p (.t 18) (.ar .add .i64 (.t 17) (.c (.int .i64 8))),.p (.v 2) (.mv (.t 18))])) .skip)) LST=TRD at Fm⊢;have second:∀(m a:Nat),m<4294967296->(a=0\/a=32)->dy n=a+dy m->∀f:Fr,f 0=.int .u64 (m:Int)->f 2=.int .i64 (a:Int)→
   vc P (.seq (.seq (.reg [.p (.t 7) (.mv (.v 0)),.p (.v 8) (.cm .geq .u64 (.t 7) (.c (.int .u64 65536)))]) (.ite (.v 8) (.seq (.reg [.p (.t 9) (.mv (.v 0)),.p (.t 10) (.sh .shr .u64 (.t 9) (.c (.int .u64 16))),.p (.v 0) (.mv (.t 10))]) (.reg [.p (.t 11) (.mv (.v 2)),.p (.t 12) (.ar .add .i64 (.t 11) (.c (.int .i64 16))),.p (.v 2) (.mv (.t 12))])) .skip)) TRD)
    (kx [.t 2] fun r H'=>r=.int .i64 (dy n:Int)/\H'=H) f H:=by
  intro m a hm ha he f f0 f2;have hw:IntKind.i64.wrap ((a:Int)+16)=((a+16:Nat):Int):=by rw[show((a:Int)+16)=((a+16:Nat):Int) by simp];exact IntWalk.i64_in _ ⟨by omega,by omega⟩
  have hd:(m:Int)/2^16=((m/2^16:Nat):Int):=by simp
  simp only[go_sem,zS,↓reduceIte,Za,Zb,Zc,reduceCtorEq,ae,f0,f2,iM,hw,hd];refine aC (fun h=>?_) (fun h=>?_)
  ·have h:65536<=m:=by omega
   exact⟨by decide,Fm _ _ (by omega) (by omega) (by rw[he,oQ m 16 (by omega)];omega) _ rfl rfl⟩
  ·exact Fm m a (by omega) (by omega) he _ (by simp only[go_sem,zS,↓reduceIte,Za,Zb,Zc,reduceCtorEq,ae,f0]) (by simp only[go_sem,zS,↓reduceIte,Za,Zb,Zc,reduceCtorEq,ae,f2])
 have hd:(n:Int)/2^32=((n/2^32:Nat):Int):=by simp
 generalize aap:S.seq (.seq (.reg [.p (.t 7) (.mv (.v 0)),.p (.v 8) (.cm .geq .u64 (.t 7) (.c (.int .u64 65536)))]) (.ite (.v 8) (.seq (.reg [.p (.t 9) (.mv (.v 0)),.p (.t 10) (.sh .shr .u64 (.t 9) (.c (.int .u64 16))),.p (.v 0) (.mv (.t 10))]) (.reg [.p (.t 11) (.mv (.v 2)),.p (.t 12) (.ar .add .i64 (.t 11) (.c (.int .i64 16))),.p (.v 2) (.mv (.t 12))])) .skip)) TRD=SND at second⊢;simp only[go_sem,zS,↓reduceIte,Za,Zb,Zc,reduceCtorEq,ae,iM,hd];refine aC (fun h=>?_) (fun h=>?_)
 ·have h:4294967296<=n:=by omega
  exact⟨by decide,second _ _ (by show n/4294967296<4294967296;omega) (by omega) (oQ n 32 (by show 4294967296<=n;exact h)) _ rfl rfl⟩
 ·exact second n 0 (by omega) (by omega) (by omega) _ (by simp only[go_sem,zS,↓reduceIte,Za,Zb,Zc,reduceCtorEq,ae]) (by simp only[go_sem,zS,↓reduceIte,Za,Zb,Zc,reduceCtorEq,ae];rfl)
end Go.Mg
namespace Go.Mg
open Go Go.RowKit
def tl (ι:aJ):S:=
 kY [kR 2 (ι.t 128) 0,kC 4 (.int .u64 0)] (.seq (kY [kA 5 1,kG 6 0 2,kD 7 6,kL 8 7,kV 9 (.cm .lss .i64 (.t 5) (.t 8))] (.ite (.v 9) (kY [kG 10 0 2,kD 11 10,kA 12 1,kI 13 1 11 12,kD 14 13,kB 4 14] .ret) .skip)) (kY [kC 4 (.int .u64 0)] .ret))
def tn:List RV:=[.t 4]
def yq (ι:aJ):S:=
 kY [kR 2 (ι.t 128) 0,kC 4 (.bool false)] (kY [kA 5 1,kU 6 (.cm .geq .i64 (.t 5) (.c (.int .i64 0))),kF 7 6,kS 8 7 true 1,kT 9 7 true (.cm .leq .i64 (.t 8) (.c (.int .i64 4095))),kJ 10 7 9,kF 11 10,kT 12 11 true (.m (.ldn 1 (.v 2))),kS 13 11 true 1,kT 14 11 true (.dv .quo .i64 (.t 13) (.c (.int .i64 64))),.ge (.t 15) (.t 11) true (kg (ι.f 129) [.t 12,.t 14]),kS 16 11 true 1,kT 17 11 true (.dv .rem .i64 (.t 16) (.c (.int .i64 64))),kT 18 11 true (.sh .shr .u64 (.t 15) (.t 17)),kT 19 11 true (.bt .and .u64 (.t 18) (.c (.int .u64 1))),kT 20 11 true (.cm .eql .u64 (.t 19) (.c (.int .u64 1))),kJ 21 11 20,kB 4 21] .ret)
def yt:List RV:=[.t 4]
def tt (ι:aJ):S:=
 kY [kR 2 (ι.t 128) 0,kd 4 (.new (ι.t 128) #[kZ])] (.seq (kY [kA 6 1,kU 7 (.cm .lss .i64 (.t 6) (.c (.int .i64 0))),kF 8 7,kS 9 8 false 1,kT 10 8 false (.cm .gtr .i64 (.t 9) (.c (.int .i64 4095))),kU 11 (.pick (.t 8) (.c (.bool true)) (.t 10)),kF 12 11,kT 13 12 false (.m (.ldn 1 (.v 2))),kS 14 12 false 1,.ge (.t 15) (.t 12) false (kg (ι.f 130) [.t 13,.t 14]),kV 16 (.pick (.t 12) (.c (.bool true)) (.t 15))] (.ite (.v 16) (kY [kM 17 1 2,kf (.stn 1 (.v 4) (.t 17))] .ret) .skip)) (kY [kG 18 0 2,kD 19 18,kL 20 19,kA 21 1,kU 22 (.dv .quo .i64 (.t 21) (.c (.int .i64 64))),kU 23 (.ar .add .i64 (.t 22) (.c (.int .i64 1))),kU 24 (.m (.mx (.t 20) (.t 23))),kc 25 (.nq (ι.t 28) 1 8 #[.int .u64 0] (.t 24) (.t 24)),kB 5 25] (kY [kA 26 5,kG 27 0 2,kD 28 27,kc 29 (.cpy false 1 (.t 26) (.t 28))] (kY [kA 30 5,kA 31 1,kU 32 (.dv .quo .i64 (.t 31) (.c (.int .i64 64))),kI 33 1 30 32,kD 34 33,kA 35 1,kU 36 (.dv .rem .i64 (.t 35) (.c (.int .i64 64))),kU 37 (.sh .shl .u64 (.c (.int .u64 1)) (.t 36)),kU 38 (.bt .or .u64 (.t 34) (.t 37)),kI 39 1 30 32,kf (.st (.t 39) (.t 38))] (kY [kA 40 5,kU 41 (.m (.jA #[kZ] [(0,(1,.t 40))])),kf (.stn 1 (.v 4) (.t 41))] .ret)))))
def tu:List RV:=[.cn 4 1]
def Fo (ι:aJ):S:=
 kY [kR 2 (ι.t 128) 0,kR 3 (ι.t 128) 1,kd 4 (.new (ι.t 128) #[kZ])] (kY [kG 7 0 2,kD 8 7,kL 9 8,kG 10 0 3,kD 11 10,kL 12 11,kU 13 (.m (.mx (.t 9) (.t 12))),kc 14 (.nq (ι.t 28) 1 8 #[.int .u64 0] (.t 13) (.t 13)),kB 5 14] (.seq (kY [kA 15 5,kV 16 (.m (.lenl (.t 15))),kC 17 (.int .i64 0)] (.blk 0 (.loop (kY [kH 18 17 16] (.seq (.ite (.v 18) .skip (.exit 0)) (.seq (.blk 1 (kY [kA 19 17,kB 6 19] (.dr (kW 20 (.mv (.v 5)) (kW 21 (.mv (.v 6)) (kW 22 (.m (.ldn 1 (.v 2))) (kW 23 (.mv (.v 6)) (kW 25 (.m (.ldn 1 (.v 3))) (kW 26 (.mv (.v 6)) (ka 24 (kg (ι.f 129) [.t 22,.t 23]) (ka 27 (kg (ι.f 129) [.t 25,.t 26]) (kW 28 (.bt .or .u64 (.t 24) (.t 27)) (kW 29 (.is 1 (.t 20) (.t 21)) (kb (.st (.t 29) (.t 28)) .done .wnil))) .wnil) .wnil)))))))))) (.reg [ke 30 17,kB 17 30]))))))) (kY [kA 31 5,kU 32 (.m (.jA #[kZ] [(0,(1,.t 31))])),kf (.stn 1 (.v 4) (.t 32))] .ret)))
def Fp:List RV:=[.cn 4 1]
def oR (ι:aJ):S:=
 kY [kR 1 (ι.t 128) 0,kC 2 (.bool false)] (kY [kG 3 0 1,kD 4 3,kL 5 4,kU 6 (.cm .eql .i64 (.t 5) (.c (.int .i64 0))),kB 2 6] .ret)
def oS:List RV:=[.t 2]
def oT (ι:aJ):S:=
 kY [kR 1 (ι.t 128) 0,kC 2 (.int .i64 0),kC 3 (.bool false)] (.seq (kY [kM 5 1 1,kd 6 (kg (ι.f 133) [.t 5])] (.ite (.v 6) (kY [kC 2 (.int .i64 0),kC 3 (.bool false)] .ret) .skip)) (kY [kG 7 0 1,kD 8 7,kL 9 8,kU 10 (.ar .sub .i64 (.t 9) (.c (.int .i64 1))),kB 4 10] (kY [kA 11 4,kU 12 (.ar .mul .i64 (.c (.int .i64 64)) (.t 11)),kG 13 0 1,kD 14 13,kA 15 4,kI 16 1 14 15,kD 17 16,kc 18 (kg (ι.f 127) [.t 17]),kU 19 (.ar .add .i64 (.t 12) (.t 18)),kU 20 (.ar .sub .i64 (.t 19) (.c (.int .i64 1))),kB 2 20,kC 3 (.bool true)] .ret)))
def oU:List RV:=[.t 2,.t 3]
def yu (ι:aJ):S:=
 kY [kR 1 (ι.t 128) 0,kC 2 (.int .i64 0)] (kY [kC 3 (.int .i64 0)] (.seq (kY [kG 6 0 1,kV 7 (.ld (.t 6)),kO 8 7,kC 9 (.int .i64 0)] (.blk 0 (.loop (kY [kH 10 9 8] (.seq (.ite (.v 10) .skip (.exit 0)) (.seq (.blk 1 (kY [kK 11 1 7 9,kD 12 11,kB 5 12] (.reg [kA 13 3,kA 14 5,kc 15 (kg (ι.f 124) [.t 14]),kU 16 (.ar .add .i64 (.t 13) (.t 15)),kB 3 16]))) (.reg [ke 17 9,kB 9 17]))))))) (kY [kA 18 3,kB 2 18] .ret)))
def yv:List RV:=[.t 2]
theorem Oq (l:List UInt64):bQ (dV l).toArray:=by
 intro x hx;simp[dV]at hx;obtain⟨y,_,rfl⟩:=hx;rfl
theorem nJ (n:Nat):List.replicate n (Value.int .u64 0)=dV (List.replicate n 0):=by simp[dV]
theorem JF (a b:List UInt64):dV (a++b)=dV a++dV b:=by simp[dV]
theorem iT (a:List UInt64) (n:Nat):(dV a).take n=dV (a.take n):=by simp[dV]
theorem Fq (a:List UInt64) (n:Nat):(dV a).drop n=dV (a.drop n):=by simp[dV]
structure eH (H:Hp) (v:Value) (W:List UInt64) (p:Nat->Bool):Prop where
 sl:aG H v (dV W)
 len:W.length<=64
 can:Can W
 is:∀n,bU W n=p n
variable {X:Nat->Prop} {H H':Hp} {v x:Value} {W:List UInt64} {p:Nat->Bool} {n b:Nat} {k:FuncId} {P:Program} {ι:aJ}
theorem eH.ag (h:eH H v W p) (hk:af X H H') (hw:∀k,aU v k->¬X k):eH H' v W p:=⟨h.sl.ag hk hw,h.len,h.can,h.is⟩
theorem eH.lt (h:eH H v W p) (hp:p n=true):n<64*W.length:=by
 apply Decidable.byContradiction;intro hn;rw[<-h.is,fN (by omega)]at hp;cases hp
theorem eH.lt' (h:eH H v W p) (hp:p n=true):n<4096:=by
 have:=h.lt hp;have:=h.len;omega
def aS (H:Hp) (x:Value) (p:Nat->Bool):Prop:=∃v W,x=.agg #[v]/\eH H v W p
def jP:Value->Nat->Prop
 |.agg cs,k=>aU (cs.getD 0 undef) k
 |_,_=>False
theorem aS.ag (h:aS H x p) (hk:af X H H') (hw:∀k,jP x k->¬X k):aS H' x p:=by
 obtain⟨v,W,rfl,hv⟩:=h;exact⟨v,W,rfl,hv.ag hk hw⟩
theorem aS.aj (h:aS H x p) (hk:af (fun _=>False) H H'):aS H' x p:=h.ag hk (fun _ _ h=>h)
theorem aS.bM (h:aS H x p) {k:Nat} (hk:jP x k):k<H.size:=by
 obtain⟨v,W,rfl,hv⟩:=h;exact hv.sl.bM hk
theorem aS.lt (h:aS H x p) (hp:p n=true):n<4096:=by
 obtain⟨v,W,rfl,hv⟩:=h;exact hv.lt' hp
theorem aS.congr {q:Nat->Bool} (h:aS H x p) (e:∀n,p n=q n):aS H x q:=by
 obtain⟨v,W,rfl,hv⟩:=h;exact⟨v,W,rfl,hv.sl,hv.len,hv.can,fun n=>(hv.is n).trans (e n)⟩
theorem aS.empty (H:Hp) (a:Option Addr) (c:Nat):aS H (.agg #[.slice a 0 c]) (fun _=>false):=
 ⟨_,[],rfl,aG.nil _ _ _,by simp,fun h=>absurd rfl h,fun n=>fN (by simp)⟩
theorem CF (r:A->Value) (C:Array Value):eN r C []=C:=rfl
theorem yw (r:A->Value) (C:Array Value) (off size:Nat) (a:A) (l:List (Nat×Nat×A)):eN r C ((off,size,a)::l)=eN r (gQ C off (r a).cells.toList) l:=rfl
theorem yx (r:A->Value) (n:Nat):eE r n []=True:=rfl
theorem wz (r:A->Value) (n off size:Nat) (a:A) (l:List (Nat×Nat×A)):eE r n ((off,size,a)::l)=((r a).cells.size=size/\off+size<=n/\eE r n l):=rfl
theorem wA (a:Option Addr) (l c:Nat):(Value.slice a l c).cells=#[.slice a l c]:=rfl
theorem CG (k:IntKind) (n:Int):(Value.int k n).cells=#[.int k n]:=rfl
theorem yy (b:Bool):(Value.bool b).cells=#[.bool b]:=rfl
theorem CH (b:ByteArray):(Value.string b).cells=#[.string b]:=rfl
theorem CI (b:Option Addr):(Value.pointer b).cells=#[.pointer b]:=rfl
theorem WU (z x:Value):gQ #[z] 0 [x]=#[x]:=rfl
theorem Sb (z y x:Value):gQ #[z,y] 0 [x]=#[x,y]:=rfl
theorem Sc (z y x:Value):gQ #[z,y] 1 [x]=#[z,x]:=rfl
theorem zF:(∀(r:A->Value) (C:Array Value),eN r C []=C)/\(∀(r:A->Value) (C:Array Value) (off size:Nat) (a:A) (l:List (Nat×Nat×A)),eN r C ((off,size,a)::l)=eN r (gQ C off (r a).cells.toList) l)/\(∀(r:A->Value) (n:Nat),eE r n []=True)∧
  (∀(r:A->Value) (n off size:Nat) (a:A) (l:List (Nat×Nat×A)),eE r n ((off,size,a)::l)=((r a).cells.size=size/\off+size<=n/\eE r n l))/\(∀(a:Option Addr) (l c:Nat),(Value.slice a l c).cells=#[.slice a l c])/\(∀(k:IntKind) (n:Int),(Value.int k n).cells=#[.int k n])∧
  (∀b:Bool,(Value.bool b).cells=#[.bool b])/\(∀b:ByteArray,(Value.string b).cells=#[.string b])/\(∀b:Option Addr,(Value.pointer b).cells=#[.pointer b])/\(∀C:Array Value,(Value.agg C).cells=C)/\(∀(H:Hp) (a:Addr) (xs:List Value),vy H (.pointer (some a)) xs=aA H a xs)∧
  (∀(H:Hp) (a:Addr) (n:Nat),QD H (.pointer (some a)) n=bK H a n)/\(∀z x:Value,gQ #[z] 0 [x]=#[x])/\(∀z y x:Value,gQ #[z,y] 0 [x]=#[x,y])/\(∀z y x:Value,gQ #[z,y] 1 [x]=#[z,x]):=
 ⟨CF,yw,yx,wz,wA,CG,yy,CH,CI,aN,cM,eT,WU,Sb,Sc⟩
def iU (P:Program) (k:FuncId):Prop:=∀(W:List UInt64) (v:Value) (i:Nat) (H:Hp),aG H v (dV W)->W.length<=64->i<1000->an P k #[.agg #[v],.int .i64 i] H fun r H'=>r=.int .u64 (W.getD i 0).toNat/\af (fun _=>False) H H'
theorem Fs (hk:aq P k (tl ι) tn 2):iU P k:=by
 intro W v i H hv hW hi;refine ah hk (args:=[_,_]) (by simp) ?_;unfold tl tn kA kB kC kD kG kI kL kR kV kY;simp only[go_sem,zS,↓reduceIte,Za,Zb,Zc,reduceCtorEq,aN];refine ay fun H1 b1 e1 z1 B1 K1=>?_;have hv1:=hv.ag K1 (by simp);have hl:=hv1.len;simp only[go_sem,zS,↓reduceIte,Za,Zb,Zc,reduceCtorEq,ae,B1.cell,hv1.ax,hl,aH];refine aC (fun hlt=>?_) (fun gx=>?_)
 ·have hlt:i<W.length:=by omega
  obtain⟨b,o,c,rfl,-,hc⟩:=hv1.cells (by intro e;have h:=congrArg List.length e;rw[aH,List.length_nil]at h;omega);rw[aH]at hc;have hci:=hc i hlt;rw[fK _ _ hlt]at hci;simp only[go_sem,zS,↓reduceIte,Za,Zb,Zc,reduceCtorEq,ae,B1.cell,aH,hci,ai]
  repeat' apply And.intro
  all_goals first|exact K1|trivial|omega
 ·have:W.getD i 0=0:=by rw[List.getD_eq_getElem?_getD,List.getElem?_eq_none (by omega)];rfl
  simp only[go_sem,zS,↓reduceIte,Za,Zb,Zc,reduceCtorEq,ae,this];exact⟨rfl,K1⟩
theorem oV (n:Nat) (h:n<4096):IntKind.i64.wrap (Int.tdiv (n:Int) 64)=((n/64:Nat):Int):=by
 have:Int.tdiv (n:Int) 64=((n/64:Nat):Int):=rfl;rw[this];exact IntWalk.i64_in _ ⟨by omega,by omega⟩
theorem yz (n:Nat):Int.tmod (n:Int) 64=((n % 64:Nat):Int):=rfl
def cX (p:Nat->Bool) (i:Int):Bool:=decide (0<=i)&&decide (i<=4095)&&p i.toNat
def fP (P:Program) (k:FuncId):Prop:=∀(p:Nat->Bool) (x:Value) (i:Int) (H:Hp),aS H x p->an P k #[x,.int .i64 i] H fun r H'=>r=.bool (cX p i)/\af (fun _=>False) H H'
theorem JG (hk:aq P k (yq ι) yt 2) (hw:iU P (ι.f 129)):fP P k:=by
 intro p x i H hx;obtain⟨v,W,rfl,hv⟩:=hx;refine ah hk (args:=[_,_]) (by simp) ?_;unfold yq yt kA kB kF kC kJ kR kS kT kU kg kY;simp only[go_sem,zS,↓reduceIte,Za,Zb,Zc,reduceCtorEq,aN];refine ay fun H1 b1 e1 z1 B1 K1=>?_;have hv1:=hv.ag K1 (by simp)
 by_cases h0:(0:Int)<=i<;>by_cases h1:i<=4095
 ·obtain⟨n,rfl⟩:=Int.eq_ofNat_of_zero_le h0;have hn:n<4096:=by omega
  have D0:((n:Int)<=4095):=h1;simp only[go_sem,zS,↓reduceIte,Za,Zb,Zc,reduceCtorEq,ae,ge_iff_le,h0,D0,B1.aI 1 rfl,oV n hn];refine And.intro (by decide) ?_;refine(hw W v (n/64) H1 hv1.sl hv1.len (by omega)).mono ?_;rintro r H2 ⟨rfl,K2⟩;have e:=WS (W.getD (n/64) 0) (n % 64);have e2:bt (W.getD (n/64) 0) (n % 64)=p n:=hv.is n;simp only[go_sem,zS,↓reduceIte,Za,Zb,Zc,reduceCtorEq,ae,yz,ai,e,e2,cX,h0,D0];have hm:(0:Int)<=((n % 64:Nat):Int)/\((n % 64:Nat):Int)<=64:=by omega
  cases p n<;>simp only[go_sem,zS,↓reduceIte,Za,Zb,Zc,reduceCtorEq,ae,zU,Zf,Zg,if_true,if_false,Int.toNat_natCast]<;>(repeat' apply And.intro)<;>first|exact K1.trans K2|exact hm.1|(rfl)|omega|trivial
 all_goals
  simp only[go_sem,zS,↓reduceIte,Za,Zb,Zc,reduceCtorEq,ae,ge_iff_le,h0,h1,cX,Bool.false_and,Bool.and_false];exact K1
theorem Can.yA (h:W≠[]->∃n,bU W n=true/\64*(W.length -1)<=n):Can W:=by
 intro hW h0;obtain⟨n,h1,h2⟩:=h hW;have hl:0<W.length:=List.length_pos_iff.2 hW;have hlt:n<64*W.length:=by
  apply Decidable.byContradiction;intro hn;rw[fN (by omega)]at h1;cases h1
 unfold bU at h1;have e:n/64=W.length -1:=by omega
 rw[e,List.getD_eq_getElem?_getD]at h1;rw[List.getLast_eq_getElem]at h0;have:W.length -1<W.length:=by omega
 simp[this,h0,dU]at h1
theorem wB (W:List UInt64) {k:Nat} (x:UInt64) (hk:k<W.length) (n:Nat):bU (W.set k x) n=if n/64=k then bt x (n % 64)else bU W n:=by
 unfold bU;rw[List.getD_eq_getElem?_getD,List.getElem?_set]
 by_cases e:n/64=k
 ·subst e;simp[hk]
 ·have:¬k=n/64:=fun h=>e h.symm;rw[if_neg this,if_neg e,<-List.getD_eq_getElem?_getD]
theorem wC (W:List UInt64) (m n:Nat):bU (W++List.replicate m 0) n=bU W n:=by
 unfold bU;rw[List.getD_eq_getElem?_getD,List.getD_eq_getElem?_getD]
 by_cases h:n/64<W.length
 ·rw[List.getElem?_append_left h]
 ·rw[List.getElem?_append_right (by omega),List.getElem?_eq_none (l:=W) (by omega),List.getElem?_replicate]
  split<;>rfl
theorem WV (k:Nat) (hk:k<64):IntKind.u64.wrap (1*2^k)=((UInt64.ofNat (2^k)).toNat:Int):=by
 have hp:2^k<18446744073709551616:=Nat.pow_lt_pow_right (by omega) hk;rw[UInt64.toNat_ofNat',Nat.mod_eq_of_lt hp,Int.one_mul];have:((2:Int)^k)=((2^k:Nat):Int):=by simp
 rw[this];exact u64_in _ hp
theorem Ft (x:UInt64) (k:Nat) (hk:k<64):bits .or .u64 (x.toNat:Int) (IntKind.u64.wrap (1*2^k))=((Ef x k).toNat:Int):=by
 rw[WV k hk];exact Bg _ _
def nf (W:List UInt64) (n:Nat):List UInt64:=(W++List.replicate (max W.length (n/64+1) -W.length) 0).set (n/64) (Ef (W.getD (n/64) 0) (n % 64))
theorem rC (W:List UInt64) (n:Nat):(nf W n).length=max W.length (n/64+1):=by
 unfold nf;rw[List.length_set,List.length_append,List.length_replicate];omega
theorem me (W:List UInt64) (n m:Nat):bU (nf W n) m=(bU W m||decide (m=n)):=by
 unfold nf;rw[wB _ _ (by rw[List.length_append,List.length_replicate];omega),wC]
 by_cases e:m/64=n/64
 ·rw[if_pos e,E3 _ (by omega)];have e1:bU W m=bt (W.getD (n/64) 0) (m % 64):=by unfold bU;rw[e]
  rw[e1]
  congr 1
  by_cases h:m % 64=n % 64
  ·have:m=n:=by omega
   simp[h,this]
  ·have:m≠n:=fun h'=>h (by rw[h']);simp[h,this]
 ·rw[if_neg e];have:m≠n:=fun h=>e (by rw[h]);simp[this]
theorem CJ (h:Can W) (n:Nat):Can (nf W n):=by
 refine Can.yA fun _=>?_;rw[rC]
 by_cases hl:W.length<=n/64
 ·exact⟨n,by rw[me];simp,by omega⟩
 ·obtain⟨m,h1,h2,_⟩:=h.top (by intro e;subst e;simp at hl);exact⟨m,by rw[me,h1];rfl,by omega⟩
def gy (p:Nat->Bool) (i:Int) (n:Nat):Bool:=p n||(decide ((n:Int)=i)&&decide (n<4096))
def fc (P:Program) (k:FuncId):Prop:=∀(p:Nat->Bool) (x:Value) (i:Int) (H:Hp),aS H x p->an P k #[x,.int .i64 i] H fun r H'=>aS H' r (gy p i)/\af (fun _=>False) H H'/\∀k,jP r k->jP x k\/H.size<=k
theorem aG.one {l:List Value} (h:aG H v l):bQ #[v]:=by
 intro y hy;simp at hy;subst hy;obtain⟨a,c,rfl,_⟩:=h.mk;rfl
theorem tw {u:Value} {R:Value->Hp->Prop} (B:Bl H b [u]) (hs:bQ #[v]) (h:∀H',H'.size=H.size->af (fun k=>k=b) H H'->R (.agg #[v]) H'):
  (bK H ⟨b,0,none⟩ 1/\bQ #[v])/\(aI (aA H ⟨b,0,none⟩ [v]) (.pointer (some ⟨b,0,none⟩)) 1).isSome=true/\R (.agg ((aI (aA H ⟨b,0,none⟩ [v]) (.pointer (some ⟨b,0,none⟩)) 1).getD #[])) (aA H ⟨b,0,none⟩ [v]):=by
 have hB:Bl (aA H ⟨b,0,none⟩ [v]) b [v]:=by
  have:=B.aA 0 [v];simpa[iE]using this
 refine⟨⟨B.bK (o:=0) (n:=1) (by simp),hs⟩,?_⟩;rw[hB.aI 1 rfl];exact⟨rfl,h _ (dP _ _ _) ((af.refl _ _).aA _ (.inl rfl))⟩
theorem af.bD {A B C:Hp} (h:af (fun _=>False) A B) (k:af (fun k=>k=b) B C) (hb:A.size<=b):af (fun _=>False) A C:=h.trans' k (fun i hi e=>by omega)
theorem Fu (hk:aq P k (tt ι) tu 2) (hh:fP P (ι.f 130)):fc P k:=by
 intro p x i H hx;obtain⟨v,W,rfl,hv⟩:=hx;obtain⟨av,cv,rfl,hcv⟩:=hv.sl.mk;rw[aH]at hv hcv⊢;obtain⟨R,hR⟩:∃R:Value->Hp->Prop,R=fun r H'=>aS H' r (gy p i)/\af (fun _=>False) H H'/\∀k,jP r k->jP (.agg #[.slice av W.length cv]) k\/H.size<=k:=⟨_,rfl⟩
 rw[<-hR];refine ah hk (args:=[_,_]) (by simp) ?_;unfold tt tu kA kB kF kD kG kI kL kM kR kS kT kU kV kc kd kf kg kY kZ;simp only[go_sem,zS,↓reduceIte,Za,Zb,Zc,reduceCtorEq,aN];refine ay fun H1 b1 e1 z1 B1 K1=>?_;simp only[go_sem,zS,↓reduceIte,Za,Zb,Zc,reduceCtorEq];refine ay fun H2 b2 e2 z2 B2 K2=>?_;have eB:=K2.bl B1 (by simp);have gz:=K1.trans K2;have hv2:=hv.ag gz (by simp);have hne:b1≠b2:=by omega
 have s1:=K1.size;have s2:=K2.size
 -- the set as it was
 have same:∀H3,af (fun _=>False) H2 H3->(∀n,gy p i n=p n)->∀H4,af (fun k=>k=b2) H3 H4->R (.agg #[.slice av W.length cv]) H4:=by
  intro H3 K3 hp H4 K4;have K:=(gz.trans K3).bD K4 (by omega);rw[hR];exact⟨⟨_,W,rfl,hv.sl.ag K (by simp),hv.len,hv.can,fun n=>by rw[hp,hv.is]⟩,K,fun k h=>.inl h⟩
 have hp0:(i<0\/4095<i)->∀n,gy p i n=p n:=by
  intro h n;unfold gy;have:(decide ((n:Int)=i)&&decide (n<4096))=false:=by
   by_cases e:(n:Int)=i
   ·have:¬n<4096:=by omega
    simp[this]
   ·simp[e]
  rw[this,Bool.or_false]
 by_cases h0:i<0
 ·simp only[go_sem,zS,↓reduceIte,Za,Zb,Zc,reduceCtorEq,ae,h0,eB.aI 1 rfl,aN,cM,eT];exact tw B2 hv.sl.one fun H4 z K4=>same H2 (af.refl _ _) (hp0 (.inl h0)) H4 K4
 ·by_cases h1:(4095:Int)<i
  ·simp only[go_sem,zS,↓reduceIte,Za,Zb,Zc,reduceCtorEq,ae,h0,h1,gt_iff_lt,eB.aI 1 rfl,aN,cM,eT];exact tw B2 hv.sl.one fun H4 z K4=>same H2 (af.refl _ _) (hp0 (.inr h1)) H4 K4
  ·obtain⟨n,rfl⟩:=Int.eq_ofNat_of_zero_le (Int.not_lt.1 h0);have hn:n<4096:=by omega
   simp only[go_sem,zS,↓reduceIte,Za,Zb,Zc,reduceCtorEq,ae,h0,h1,gt_iff_lt,eB.aI 1 rfl,aN];refine(hh p _ _ H2 ⟨_,W,rfl,hv2⟩).mono ?_;rintro r H3 ⟨rfl,K3⟩;have hm:cX p (n:Int)=p n:=by
    unfold cX;have a1:(0:Int)<=(n:Int):=by omega
    have a2:(n:Int)<=4095:=by omega
    simp[a1,a2]
   simp only[hm];have qM:=K3.bl eB (by simp);have Ej:=K3.bl B2 (by simp)
   cases hpn:p n with
   |true=>
    have hpw:∀m,gy p (n:Int) m=p m:=by
     intro m;unfold gy
     by_cases e:m=n
     ·subst e;rw[hpn];rfl
     ·have:¬(m:Int)=(n:Int):=by omega
      simp[this]
    simp only[go_sem,zS,↓reduceIte,Za,Zb,Zc,reduceCtorEq,ae,qM.aI 1 rfl,aN,cM,eT];exact tw Ej hv.sl.one fun H4 z K4=>same H3 K3 hpw H4 K4
   |false=>
    have mf:=gz.trans K3;have Ek:=hv.ag mf (by simp);have hl:=Ek.sl.len;have hq:n/64<64:=by omega
    have hlW:=hv.len;have wq:IntKind.i64.wrap (((n/64:Nat):Int)+1)=((n/64+1:Nat):Int):=IntWalk.i64_in _ ⟨by omega,by omega⟩;have hmx:(if((n/64+1:Nat):Int)>((W.length:Nat):Int)then((n/64+1:Nat):Int)else((W.length:Nat):Int))=((max W.length (n/64+1):Nat):Int):=by split<;>omega
    rw[ae];simp only[go_sem,zS,↓reduceIte,Za,Zb,Zc,reduceCtorEq,qM.cell,Ek.sl.ax,hl,aH,oV n hn,wq,hmx,ai];generalize hM:max W.length (n/64+1)=M at*;have WW:M<=64:=by omega
    refine And.intro (by decide) ⟨⟨by omega,by omega,by unfold maxLen;omega⟩,?_⟩;refine aF fun H4 b4 e4 z4 B4 K4=>?_;have B4:Bl H4 b4 (dV (List.replicate M 0)):=by
     have:=B4;rw[cx]at this;rw[nJ]at this;exact this
    have s3:=K3.size;have s4:=K4.size;have Fv:=K4.bl qM (by simp);have QV:=mf.trans K4;have WX:=hv.ag QV (by simp);have Sd:=WX.sl.eF (k:=W.length) (by rw[aH];exact Nat.le_refl _);rw[iT,List.take_length]at Sd;have Ot:min W.length M=W.length:=by omega
    simp only[go_sem,zS,↓reduceIte,Za,Zb,Zc,reduceCtorEq,ae,Fv.cell,WX.sl.ax,WX.sl.bI,aH,Ot];refine⟨_,Sd,B4.fZ 0 0 (dV W).toArray (Oq _) (by simp[aH];omega),?_⟩;have B5:=B4.put 0 0 (dV W).toArray;have K5:af (fun k=>k=b4) H4 (gV H4 (some ⟨b4,0,none⟩) 0 (dV W).toArray):=(af.refl _ _).put rfl _ _ (.inl rfl);generalize gV H4 (some ⟨b4,0,none⟩) 0 (dV W).toArray=H5 at B5 K5⊢;have WY:iE (dV (List.replicate M 0)) (0+0) (dV W).toArray.toList=dV (W++List.replicate (M -W.length) 0):=by
     unfold iE;simp only[Nat.add_zero,List.take_zero,List.nil_append,Nat.zero_add,aH,Fq,List.drop_replicate,JF]
    rw[WY]at B5;have Fw:(W++List.replicate (M -W.length) (0:UInt64)).length=M:=by rw[List.length_append,List.length_replicate];omega
    have WZ:cell H5 ⟨b4,n/64,none⟩=some (.int .u64 ((W.getD (n/64) 0).toNat:Int)):=by
     rw[B5.cell,fK _ _ (by omega)]
     congr 4
     rw[List.getD_eq_getElem?_getD,List.getD_eq_getElem?_getD]
     by_cases h:n/64<W.length
     ·rw[List.getElem?_append_left h]
     ·rw[List.getElem?_append_right (by omega),List.getElem?_eq_none (l:=W) (by omega),List.getElem?_replicate]
      split<;>rfl
    have hst:=B5.bk (o:=n/64) (by rw[aH];omega);simp only[go_sem,zS,↓reduceIte,Za,Zb,Zc,reduceCtorEq,ae,zF,Fw,yz,ai,oV n hn,Nat.mul_one,WZ,Ft _ (n % 64) (by omega),hst];have B6:=B5.al (n/64) (.int .u64 ((Ef (W.getD (n/64) 0) (n % 64)).toNat:Int));rw[lh _ _ (by omega)]at B6;have Sf:(W++List.replicate (M -W.length) 0).set (n/64) (Ef (W.getD (n/64) 0) (n % 64))=nf W n:=by unfold nf;rw[hM]
    rw[Sf]at B6;have K6:af (fun k=>k=b4) H5 (al H5 ⟨b4,n/64,none⟩ (.int .u64 ((Ef (W.getD (n/64) 0) (n % 64)).toNat:Int))):=(af.refl _ _).al _ (.inl rfl);generalize al H5 ⟨b4,n/64,none⟩ (.int .u64 ((Ef (W.getD (n/64) 0) (n % 64)).toNat:Int))=H6 at B6 K6⊢;have Ou:Bl H6 b2 [.slice none 0 0]:=K6.bl (K5.bl (K4.bl Ej (by simp)) (by omega)) (by omega);have IB:=rC W n;rw[hM]at IB;have W4:64≠0:=by decide
    have hKf:af (fun _=>False) H H6:=((QV.bD K5 (by omega)).bD K6 (by omega))
    refine⟨by decide,by omega,by decide,by omega,by omega,by decide,tw Ou ?_ fun H7 z7 K7=>?_⟩
    ·intro y hy;simp at hy;subst hy;rfl
    ·have B7:=K7.bl B6 (by omega);have hs:=aG.bl B7 0 M M (Nat.le_refl _) (by rw[aH];omega);rw[List.drop_zero,iT,List.take_of_length_le (by omega)]at hs;rw[hR];refine⟨⟨_,nf W n,rfl,hs,by omega,CJ hv.can n,fun m=>?_⟩,hKf.bD K7 (by omega),fun k h=>.inr ?_⟩
     ·rw[me,hv.is];unfold gy
      congr 1
      by_cases e:m=n
      ·subst e;simp[hn]
      ·have:¬(m:Int)=(n:Int):=by omega
       simp[this,e]
     ·have:k=b4:=h.1;omega
def CK (A B:List UInt64) (m:Nat):List UInt64:=(List.range m).map fun k=>A.getD k 0|||B.getD k 0
theorem gZ (A B:List UInt64) (m:Nat):(CK A B m).length=m:=by simp[CK]
theorem tx (A B:List UInt64) (n:Nat):bU (CK A B (max A.length B.length)) n=(bU A n||bU B n):=by
 unfold bU CK;rw[List.getD_eq_getElem?_getD,List.getElem?_map]
 by_cases h:n/64<max A.length B.length
 ·rw[List.getElem?_range h];simp only[Option.map_some,Option.getD_some];unfold bt;rw[UInt64.toNat_or,Nat.testBit_or]
 ·rw[List.getElem?_eq_none (by simp;omega)];rw[List.getD_eq_getElem?_getD,List.getElem?_eq_none (by omega),List.getD_eq_getElem?_getD,List.getElem?_eq_none (by omega)];simp[dU]
theorem JH {A B:List UInt64} (ha:Can A) (hb:Can B):Can (CK A B (max A.length B.length)):=by
 refine Can.yA fun hne=>?_;rw[gZ]
 by_cases h:B.length<=A.length
 ·have hA:A≠[]:=by
   intro e;subst e;apply hne;have:B=[]:=List.eq_nil_of_length_eq_zero (by simpa using h);subst this;rfl
  obtain⟨n,h1,h2,_⟩:=ha.top hA;exact⟨n,by rw[tx,h1];rfl,by omega⟩
 ·have hB:B≠[]:=by
   intro e;subst e;simp at h
  obtain⟨n,h1,h2,_⟩:=hb.top hB;exact⟨n,by rw[tx,h1,Bool.or_true],by omega⟩
def nK (P:Program) (k:FuncId):Prop:=∀(p q:Nat->Bool) (x y:Value) (H:Hp),aS H x p->aS H y q->an P k #[x,y] H fun r H'=>aS H' r (fun n=>p n||q n)/\af (fun _=>False) H H'/\∀k,jP r k->H.size<=k
theorem JI (A B:List UInt64) (k m:Nat) (hk:k<m):(CK A B k++List.replicate (m -k) 0).set k (A.getD k 0|||B.getD k 0)=CK A B (k+1)++List.replicate (m -(k+1)) 0:=by
 rw[List.set_append_right _ _ (by rw[gZ];exact Nat.le_refl _),gZ,Nat.sub_self];have:m -k=(m -(k+1))+1:=by omega
 rw[this,List.replicate_succ];simp[CK,List.range_succ]
theorem Ov (hk:aq P k (Fo ι) Fp 2) (hw:iU P (ι.f 129)):nK P k:=by
 intro p q x y H hx hy;obtain⟨v,A,rfl,hv⟩:=hx;obtain⟨u,B,rfl,hu⟩:=hy;obtain⟨R,hR⟩:∃R:Value->Hp->Prop,R=fun r H'=>aS H' r (fun n=>p n||q n)/\af (fun _=>False) H H'/\∀k,jP r k->H.size<=k:=⟨_,rfl⟩
 rw[<-hR];refine ah hk (args:=[_,_]) (by simp) ?_;unfold Fo Fp kA kB kC kD ke kG kH kL kR kU kV kW ka kb kc kd kf kg kY kZ;simp only[go_sem,zS,↓reduceIte,Za,Zb,Zc,reduceCtorEq,aN];refine ay fun H1 b1 e1 z1 B1 K1=>?_;simp only[go_sem,zS,↓reduceIte,Za,Zb,Zc,reduceCtorEq,aN];refine ay fun H2 b2 e2 z2 B2 K2=>?_;simp only[go_sem,zS,↓reduceIte,Za,Zb,Zc,reduceCtorEq];refine ay fun H3 b3 e3 z3 B3 K3=>?_;have s1:=K1.size;have s2:=K2.size;have s3:=K3.size;have Ow:=(K1.trans K2).trans K3;have qM:=K3.bl (K2.bl B1 (by simp)) (by simp);have Ej:=K3.bl B2 (by simp);have Ek:=hv.ag Ow (by simp);have Sg:=hu.ag Ow (by simp);have lA:=hv.len;have lB:=hu.len;have hmx:(if((B.length:Nat):Int)>((A.length:Nat):Int)then((B.length:Nat):Int)else((A.length:Nat):Int))=((max A.length B.length:Nat):Int):=by split<;>omega
 simp only[go_sem,zS,↓reduceIte,Za,Zb,Zc,reduceCtorEq,qM.cell,Ej.cell,Ek.sl.ax,Sg.sl.ax,Ek.sl.len,Sg.sl.len,aH,hmx];generalize hM:max A.length B.length=M at*;have WW:M<=64:=by omega
 refine⟨⟨by omega,by omega,by unfold maxLen;omega⟩,?_⟩;refine aF fun H4 b4 e4 z4 B4 K4=>?_;have s4:=K4.size;have B4:Bl H4 b4 (dV (List.replicate M 0)):=by
  have:=B4;rw[cx,nJ]at this;exact this
 have Fv:=K4.bl qM (by simp);have JJ:=K4.bl Ej (by simp);have Mv:=K4.bl B3 (by simp);have QV:=Ow.trans K4;simp only[go_sem,zS,↓reduceIte,Za,Zb,Zc,reduceCtorEq,ae,ai];refine aL [18,6,17] rfl (fun n f H'=>∃i,i<=M/\n=M -i/\f 17=.int .i64 i/\Bl H' b4 (dV (CK A B i++List.replicate (M -i) 0))/\af (fun k=>k=b4) H4 H') M
  ⟨0,by omega,by omega,rfl,by simpa[CK]using B4,af.refl _ _⟩ ?_
 rintro n g H5 ⟨i,hi,rfl,hf,B5,K5⟩;have s5:=K5.size;simp only[go_sem,zS,↓reduceIte,Za,Zb,Zc,reduceCtorEq,ae]at hf;simp only[go_sem,zS,↓reduceIte,Za,Zb,Zc,reduceCtorEq,ae,hf];refine aC (fun hlt=>?_) (fun gx=>?_)
 ·have hlt:i<M:=by omega
  have Sh:=K5.bl Fv (by omega);have Mw:=K5.bl JJ (by omega);refine bC (fun k=>k=b4) ?_;have n1:¬b1=b4:=by omega
  have n2:¬b2=b4:=by omega
  have hv5:eH H5 v A p:=hv.ag (QV.bD K5 (by omega)) (by simp);have hu5:eH H5 u B q:=hu.ag (QV.bD K5 (by omega)) (by simp);simp only[go_sem,zS,↓reduceIte,Za,Zb,Zc,reduceCtorEq,ae,n1,n2,Sh.aI 1 rfl,Mw.aI 1 rfl,aN];refine(hw A v i H5 hv5.sl hv5.len (by omega)).mono ?_;rintro r H6 ⟨rfl,K6⟩;have s6:=K6.size;have Ou:=K6.bl Mw (by simp);simp only[go_sem,zS,↓reduceIte,Za,Zb,Zc,reduceCtorEq,ae,n2,Ou.aI 1 rfl,aN];refine⟨K6.any,?_⟩;refine(hw B u i H6 (hu5.sl.ag K6 (by simp)) hu5.len (by omega)).mono ?_;rintro r H7 ⟨rfl,K7⟩;have QW:=K7.bl (K6.bl B5 (by simp)) (by simp);have Fw:(dV (CK A B i++List.replicate (M -i) 0)).length=M:=by rw[aH,List.length_append,gZ,List.length_replicate];omega
  have hst:=QW.bk (o:=i) (by rw[Fw];exact hlt);have hor:=Bg (A.getD i 0) (B.getD i 0);simp only[go_sem,zS,↓reduceIte,Za,Zb,Zc,reduceCtorEq,ae,hor,ai,Nat.mul_one,hst];refine⟨K7.any,by omega,(af.refl _ _).al _ (.inl rfl),?_⟩;have B8:=QW.al i (.int .u64 ((A.getD i 0|||B.getD i 0).toNat:Int));rw[lh _ _ (by rw[<-aH,Fw];exact hlt),JI A B i M hlt]at B8;simp(disch:=omega)only[go_sem,zS,↓reduceIte,Za,Zb,Zc,reduceCtorEq,ae,hf,IntWalk.i64_in];have KK:af (fun k=>k=b4) H4 (al H7 ⟨b4,i,none⟩ (.int .u64 ((A.getD i 0|||B.getD i 0).toNat:Int))):=(((K5.trans K6.any).trans K7.any)).al _ (.inl rfl);exact⟨M -(i+1),by omega,i+1,by omega,rfl,by simp,B8,KK⟩
 ·have hiM:i=M:=by omega
  subst hiM;have WY:Bl H5 b4 (dV (CK A B i)):=by
   have:=B5;rw[Nat.sub_self]at this;simpa using this
  have JK:=K5.bl Mv (by omega);simp only[go_sem,zS,↓reduceIte,Za,Zb,Zc,reduceCtorEq,ae,zF];refine⟨by decide,tw JK ?_ fun H7 z7 K7=>?_⟩
  ·intro y hy;simp at hy;subst hy;rfl
  ·have B7:=K7.bl WY (by omega);have hs:=aG.bl B7 0 i i (Nat.le_refl _) (by rw[aH,gZ];omega);rw[List.drop_zero,iT,List.take_of_length_le (by rw[gZ];omega)]at hs;have hc:=JH hv.can hu.can;have hm:=fun n=>tx A B n;rw[hM]at hc hm;rw[hR];refine⟨⟨_,CK A B i,rfl,⟨hs,by rw[gZ];omega,hc,fun n=>?_⟩⟩,(QV.bD K5 (by omega)).bD K7 (by omega),fun k h=>?_⟩
   ·rw[hm,hv.is,hu.is]
   ·have:k=b4:=h.1;omega
def fu (P:Program) (k:FuncId):Prop:=∀(p:Nat->Bool) (v:Value) (W:List UInt64) (H:Hp),eH H v W p->an P k #[.agg #[v]] H fun r H'=>r=.bool (decide (W=[]))/\af (fun _=>False) H H'
theorem CL (hk:aq P k (oR ι) oS 1):fu P k:=by
 intro p v W H hv;refine ah hk (args:=[_]) (by simp) ?_;unfold oR oS kB kC kD kG kL kR kU kY;simp only[go_sem,zS,↓reduceIte,Za,Zb,Zc,reduceCtorEq,aN];refine ay fun H1 b1 e1 z1 B1 K1=>?_;have hv1:=hv.ag K1 (by simp);simp only[go_sem,zS,↓reduceIte,Za,Zb,Zc,reduceCtorEq,ae,B1.cell,hv1.sl.ax,hv1.sl.len,aH];have:(((W.length:Nat):Int)==0)=decide (W=[]):=by
  cases W with
  |nil=>rfl
  |cons a l=>simp;omega
 rw[this];exact⟨rfl,K1⟩
theorem eH.nM (h:eH H v W p):W=[]↔∀n,p n=false:=by
 constructor
 ·intro e n;subst e;rw[<-h.is,fN (by simp)]
 ·intro e;apply Classical.byContradiction;intro hW;obtain⟨n,h1,_⟩:=h.can.top hW;rw[h.is,e]at h1;cases h1
def Top (p:Nat->Bool) (t:Nat):Prop:=p t=true/\∀n,p n=true->n<=t
theorem Fx {x:UInt64} (h:x≠0):1<=dy x.toNat/\dy x.toNat<=64/\bt x (dy x.toNat -1)=true/\∀k,bt x k=true->k<dy x.toNat:=by
 have h0:x.toNat≠0:=fun e=>h (UInt64.toNat_inj.1 (by simpa using e));have hx:=x.toNat_lt;have e1:=Nat.log2_self_le h0;have e2:x.toNat<2^(x.toNat.log2+1):=(Nat.log2_lt h0).1 (by omega);have hl:dy x.toNat=x.toNat.log2+1:=by unfold dy;rw[if_neg h0]
 have e3:x.toNat.log2<64:=(Nat.log2_lt h0).2 hx;rw[hl];refine⟨by omega,by omega,?_,fun k hk=>?_⟩
 ·unfold bt;rw[Nat.add_sub_cancel,Nat.testBit_eq_decide_div_mod_eq,decide_eq_true_eq];have:x.toNat/2^x.toNat.log2=1:=by
   refine Nat.div_eq_of_lt_le ?_ ?_
   ·rw[Nat.one_mul];exact e1
   ·rw[Nat.pow_succ]at e2;omega
  rw[this]
 ·apply Decidable.byContradiction;intro hn;unfold bt at hk;rw[Nat.testBit_lt_two_pow (Nat.lt_of_lt_of_le e2 (Nat.pow_le_pow_right (by omega) (by omega)))]at hk
  cases hk
def ib (P:Program) (k:FuncId):Prop:=∀(p:Nat->Bool) (x:Value) (H:Hp),aS H x p->an P k #[x] H fun r H'=>((r=.tuple #[.int .i64 0,.bool false]/\∀n,p n=false)\/∃t:Nat,r=.tuple #[.int .i64 t,.bool true]/\Top p t)/\af (fun _=>False) H H'
theorem CM (hk:aq P k (oT ι) oU 1) (he:fu P (ι.f 133)) (hl:Bk P (ι.f 127)):ib P k:=by
 intro p x H hx;obtain⟨v,W,rfl,hv⟩:=hx;refine ah hk (args:=[_]) (by simp) ?_;unfold oT oU kA kB kC kD kG kI kL kM kR kU kc kd kg kY;simp only[go_sem,zS,↓reduceIte,Za,Zb,Zc,reduceCtorEq,aN];refine ay fun H1 b1 e1 z1 B1 K1=>?_;have hv1:=hv.ag K1 (by simp);simp only[go_sem,zS,↓reduceIte,Za,Zb,Zc,reduceCtorEq,ae,B1.aI 1 rfl];refine(he p v W H1 hv1).mono ?_;rintro r H2 ⟨rfl,K2⟩;have B2:=K2.bl B1 (by simp);have hv2:=hv1.ag K2 (by simp)
 by_cases hW:W=[]
 ·simp only[go_sem,zS,↓reduceIte,Za,Zb,Zc,reduceCtorEq,ae,hW];exact⟨.inl (hv.nM.1 hW),K1.trans K2⟩
 ·have W4:0<W.length:=List.length_pos_iff.2 hW;have hlen:=hv.len;obtain⟨b,o,c,rfl,-,hc⟩:=hv2.sl.cells (by intro e;have h:=congrArg List.length e;rw[aH,List.length_nil]at h;omega);rw[aH]at hc⊢;have hci:=hc (W.length -1) (by omega);rw[fK _ _ (by omega)]at hci;have w1:IntKind.i64.wrap (((W.length:Nat):Int) -1)=((W.length -1:Nat):Int):=by rw[show(((W.length:Nat):Int) -1)=((W.length -1:Nat):Int) by omega];exact IntWalk.i64_in _ ⟨by omega,by omega⟩
  have w2:IntKind.i64.wrap (64*((W.length -1:Nat):Int))=((64*(W.length -1):Nat):Int):=by rw[show(64*((W.length -1:Nat):Int))=((64*(W.length -1):Nat):Int) by omega];exact IntWalk.i64_in _ ⟨by omega,by omega⟩
  simp only[go_sem,zS,↓reduceIte,Za,Zb,Zc,reduceCtorEq,ae,hW,B2.cell,aH,w1,w2,ai,Nat.mul_one,hci];refine⟨by omega,?_⟩;refine(hl _ _).mono ?_;rintro r H3 ⟨rfl,rfl⟩;have hx0:W.getD (W.length -1) 0≠0:=by
   have:=hv.can hW;rw[List.getLast_eq_getElem]at this;rw[List.getD_eq_getElem?_getD,List.getElem?_eq_getElem (by omega)];exact this
  obtain⟨l1,l2,l3,l4⟩:=Fx hx0;have w3:IntKind.i64.wrap (IntKind.i64.wrap (((64*(W.length -1):Nat):Int)+((dy (W.getD (W.length -1) 0).toNat:Nat):Int)) -1)=((64*(W.length -1)+(dy (W.getD (W.length -1) 0).toNat -1):Nat):Int):=by
   have w4:IntKind.i64.wrap (((64*(W.length -1):Nat):Int)+((dy (W.getD (W.length -1) 0).toNat:Nat):Int))=((64*(W.length -1):Nat):Int)+((dy (W.getD (W.length -1) 0).toNat:Nat):Int):=IntWalk.i64_in _ ⟨by omega,by omega⟩;rw[w4,show((((64*(W.length -1):Nat):Int)+((dy (W.getD (W.length -1) 0).toNat:Nat):Int)) -1)=((64*(W.length -1)+(dy (W.getD (W.length -1) 0).toNat -1):Nat):Int) by omega];exact IntWalk.i64_in _ ⟨by omega,by omega⟩
  simp only[go_sem,zS,↓reduceIte,Za,Zb,Zc,reduceCtorEq,ae,w3];refine⟨.inr ⟨_,rfl,?_,fun n hn=>?_⟩,K1.trans K2⟩
  ·rw[<-hv.is,fO _ _ _ (by omega)];exact l3
  ·have h1:=hv.lt hn;rw[<-hv.is]at hn
   by_cases e:n/64=W.length -1
   ·unfold bU at hn;rw[e]at hn;have:=l4 _ hn;omega
   ·omega
def iV (P:Program) (k:FuncId):Prop:=∀(p:Nat->Bool) (x:Value) (H:Hp),aS H x p->an P k #[x] H fun r H'=>r=.int .i64 ((aD p).length:Int)/\af (fun _=>False) H H'
theorem eH.count (h:eH H v W p):cn (64*W.length) p=(aD p).length:=by
 rw[bR];have:=h.len;refine(iS (by omega) fun i h1 h2=>?_).symm;rw[<-h.is,fN h1]
theorem JL (hk:aq P k (yu ι) yv 1) (ho:wy P (ι.f 124)):iV P k:=by
 intro p x H hx;obtain⟨v,W,rfl,hv⟩:=hx;refine ah hk (args:=[_]) (by simp) ?_;unfold yu yv kA kB kC kD ke kG kH kK kO kR kU kV kc kg kY;simp only[go_sem,zS,↓reduceIte,Za,Zb,Zc,reduceCtorEq,aN];refine ay fun H1 b1 e1 z1 B1 K1=>?_;have hv1:=hv.ag K1 (by simp);have hlen:=hv.len;simp only[go_sem,zS,↓reduceIte,Za,Zb,Zc,reduceCtorEq,ae,B1.cell,hv1.sl.ax,hv1.sl.len,aH];refine aL [10,5,3,9] rfl (fun n f H'=>∃i,i<=W.length/\n=W.length -i/\f 9=.int .i64 i/\f 3=.int .i64 (cn (64*i) p:Int)/\H'=H1) W.length
  ⟨0,by omega,by omega,rfl,rfl,rfl⟩ ?_
 rintro n g H' ⟨i,hi,rfl,IC,j6,rfl⟩;simp only[go_sem,zS,↓reduceIte,Za,Zb,Zc,reduceCtorEq,ae]at IC j6;simp only[go_sem,zS,↓reduceIte,Za,Zb,Zc,reduceCtorEq,ae,IC];refine aC (fun hlt=>?_) (fun gx=>?_)
 ·have hlt:i<W.length:=by omega
  obtain⟨b,o,c,rfl,-,hc⟩:=hv1.sl.cells (by intro e;have h:=congrArg List.length e;rw[aH,List.length_nil]at h;omega);rw[aH]at hc;have hci:=hc i hlt;rw[fK _ _ hlt]at hci;simp only[go_sem,zS,↓reduceIte,Za,Zb,Zc,reduceCtorEq,ae,j6,IC,aH,ai,Nat.mul_one,hci];refine⟨by omega,?_⟩;refine(ho _ _).mono ?_;rintro r H3 ⟨rfl,rfl⟩;have hc1:cn (64*(i+1)) p=cn (64*i) p+wk (W.getD i 0):=by
   rw[show 64*(i+1)=64*i+64 by omega,oM]
   congr 1
   exact aZ fun b hb=>by rw[<-hv.is,fO _ _ _ hb]
  have hle:=dw (64*(i+1)) p;simp(disch:=omega)only[go_sem,zS,↓reduceIte,Za,Zb,Zc,reduceCtorEq,ae,j6,IC,IntWalk.i64_in];exact⟨W.length -(i+1),by omega,i+1,by omega,rfl,by simp,by rw[hc1];simp⟩
 ·have:i=W.length:=by omega
  subst this;simp only[go_sem,zS,↓reduceIte,Za,Zb,Zc,reduceCtorEq,ae,j6];rw[hv.count];exact⟨rfl,K1⟩
end Go.Mg

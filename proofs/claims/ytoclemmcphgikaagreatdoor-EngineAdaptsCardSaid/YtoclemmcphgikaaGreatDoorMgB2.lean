/- Several texts of ours in one. No conditions. -/
import Derived.Test.YtoclemmcphgikaaGreatDoorMgMA
import Derived.Test.YtoclemmcphgikaaGreatDoorMgOwn
import Derived.Test.YtoclemmcphgikaaGreatDoorMgLib
import Derived.Test.YtoclemmcphgikaaGreatDoorMgKp
open Nat renaming reduceEqDiff→Za,reduceAdd→Zb,reduceMul→Zc
open Int renaming reduceBEq→Zf,reduceBNe→Zg
namespace Go.Mg
set_option linter.all false
def lowB (x:UInt64):Nat:=((List.range 64).find? (bt x)).getD 64
variable {x:UInt64} {n t:Nat} {W A B:List UInt64} {p:Nat->Bool}
theorem lowB_spec (h:x≠0):lowB x<64/\bt x (lowB x)=true/\∀k<lowB x,bt x k=false:=by
 unfold lowB
 cases e:(List.range 64).find? (bt x)with
 |none=>
  exfalso
  apply h
  rw[List.find?_eq_none]at e
  apply bt_ext
  intro k hk
  rw[bt_zero]
  have:=e k (by simpa using hk)
  simpa using this
 |some t=>
  have h1:=List.mem_of_find?_eq_some e
  have h2:=List.find?_some e
  refine⟨by simpa using h1,h2,fun k hk=>?_⟩
  simp only[Option.getD_some]at hk
  rw[List.find?_range_eq_some]at e
  have:=e.2.2 k hk
  simpa using this
theorem low_form (h1:n.testBit t=true) (h2:∀k<t,n.testBit k=false):∃m,n=2^t*(2*m+1):=by
 have h3:n % 2^t=0:=by
  apply Nat.eq_of_testBit_eq
  intro k
  rw[Nat.testBit_mod_two_pow,Nat.zero_testBit]
  by_cases hk:k<t
  ·rw[h2 k hk];simp
  ·simp[hk]
 rw[Nat.testBit_eq_decide_div_mod_eq,decide_eq_true_eq]at h1
 refine⟨n/2^t/2,?_⟩
 have e1:=Nat.div_add_mod n (2^t)
 have e2:=Nat.div_add_mod (n/2^t) 2
 rw[h1]at e2
 rw[e2];omega
theorem tb_pred (h1:n.testBit t=true) (h2:∀k<t,n.testBit k=false) (k:Nat):(n -1).testBit k=if k<t then true else if k=t then false else n.testBit k:=by
 obtain⟨m,rfl⟩:=low_form h1 h2
 have hp:0<2^t:=Nat.two_pow_pos t
 have e:2^t*(2*m+1) -1=2^t*(2*m)+(2^t -1):=by
  rw[Nat.mul_add,Nat.mul_one];omega
 rw[e,Nat.testBit_two_pow_mul_add _ (by omega),Nat.testBit_two_pow_mul]
 by_cases hk:k<t
 ·rw[if_pos hk,if_pos hk,Nat.testBit_two_pow_sub_one];simpa using hk
 ·rw[if_neg hk,if_neg hk]
  by_cases hk2:k=t
  ·subst hk2;rw[if_pos rfl,Nat.sub_self];simp
  ·rw[if_neg hk2]
   have e1:(k≥t):=by omega
   simp only[e1,decide_true,Bool.true_and]
   obtain⟨d,rfl⟩:∃d,k=t+(d+1):=⟨k -t -1,by omega⟩
   have e2:t+(d+1) -t=d+1:=by omega
   rw[e2,Nat.testBit_succ,Nat.testBit_succ]
   congr 1;omega
def clrB (x:UInt64):UInt64:=x&&&(x -1)
theorem sub1_toNat (h:x≠0):(x -1).toNat=x.toNat -1:=by
 have h0:x.toNat≠0:=fun e=>h (UInt64.toNat_inj.1 (by simpa using e))
 have:=x.toNat_lt
 rw[UInt64.toNat_sub]
 have e:(1:UInt64).toNat=1:=rfl
 rw[e];omega
theorem bt_clr (h:x≠0) (k:Nat):bt (clrB x) k=(bt x k&&!decide (k=lowB x)):=by
 obtain⟨_,b,c⟩:=lowB_spec h
 unfold clrB
 have:bt (x&&&(x -1)) k=(bt x k&&(x.toNat -1).testBit k):=by
  unfold bt;rw[UInt64.toNat_and,Nat.testBit_and,sub1_toNat h]
 rw[this,tb_pred b c]
 by_cases h1:k<lowB x
 ·rw[if_pos h1,c k h1];simp
 ·rw[if_neg h1]
  by_cases h2:k=lowB x
  ·rw[if_pos h2];simp[h2]
  ·rw[if_neg h2]
   show(bt x k&&bt x k)=_
   simp[h2]
theorem neg_and (h:x≠0):x&&&(0 -x)=UInt64.ofNat (2^lowB x):=by
 obtain⟨a,b,c⟩:=lowB_spec h
 apply bt_ext
 intro k hk
 have h0:x.toNat≠0:=fun e=>h (UInt64.toNat_inj.1 (by simpa using e))
 have hlt:=x.toNat_lt
 have e1:(0 -x).toNat=2^64 -((x.toNat -1)+1):=by
  rw[UInt64.toNat_sub]
  have e:(0:UInt64).toNat=0:=rfl
  rw[e];omega
 have e2:bt (x&&&(0 -x)) k=(bt x k&&(2^64 -((x.toNat -1)+1)).testBit k):=by
  unfold bt;rw[UInt64.toNat_and,Nat.testBit_and,e1]
 rw[e2,Nat.testBit_two_pow_sub_succ (by omega),tb_pred b c]
 have e3:bt (UInt64.ofNat (2^lowB x)) k=decide (lowB x=k):=by
  unfold bt
  rw[UInt64.toNat_ofNat',Nat.mod_eq_of_lt (Nat.pow_lt_pow_right (by omega) a),Nat.testBit_two_pow]
 rw[e3]
 by_cases h1:k<lowB x
 ·rw[c k h1]
  have:¬lowB x=k:=by omega
  simp[this]
 ·rw[if_neg h1]
  by_cases h2:k=lowB x
  ·subst h2;simp[b,hk]
  ·rw[if_neg h2]
   have:¬lowB x=k:=fun h=>h2 h.symm
   simp only[hk,decide_true,Bool.true_and,this,decide_false]
   show(bt x k&&!bt x k)=false
   cases bt x k<;>rfl
def cnt64 (x:UInt64):Nat:=cn 64 (bt x)
theorem land_mul_add (a b c d:Nat) (hb:b<256) (hd:d<256):(256*a+b)&&&(256*c+d)=256*(a&&&c)+(b&&&d):=by
 apply Nat.eq_of_testBit_eq
 intro k
 have e:(256:Nat)=2^8:=rfl
 have hbd:b&&&d<2^8:=Nat.lt_of_le_of_lt Nat.and_le_left hb
 rw[Nat.testBit_and,e,Nat.testBit_two_pow_mul_add _ hb,Nat.testBit_two_pow_mul_add _ hd,Nat.testBit_two_pow_mul_add _ hbd]
 split
 ·rw[Nat.testBit_and]
 ·rw[Nat.testBit_and]
def rpt (c:Nat):Nat->Nat
 |0=>0
 |k+1=>256*rpt c k+c
def p1 (m n:Nat):Nat:=(n/2&&&m)+(n&&&m)
def p2 (m n:Nat):Nat:=(n/4&&&m)+(n&&&m)
def p3 (m n:Nat):Nat:=(n/16+n)&&&m
theorem p1_tab:∀b:Fin 256,((b.val/2&&&0x55)=((128+b.val/2)&&&0x55))/\p1 0x55 b.val<256:=by decide+kernel
theorem p2_tab:∀b:Fin 256,∀c:Fin 4,((c.val*64+b.val/4)&&&0x33)=(b.val/4&&&0x33):=by decide+kernel
theorem p2_le:∀b:Fin 256,p2 0x33 b.val<=0x66/\p2 0x33 (p1 0x55 b.val)<=0x44/\p2 0x33 (p1 0x55 b.val) % 16<=4:=by decide+kernel
theorem p3_tab:∀y:Fin 69,∀c:Fin 5,((c.val*16+y.val/16+y.val)&&&0x0f)=p3 0x0f y.val:=by decide+kernel
def pc8 (b:Nat):Nat:=cn 8 fun k=>b.testBit k
theorem pc8_ok:∀b:Fin 256,p3 0x0f (p2 0x33 (p1 0x55 b.val))=pc8 b.val/\pc8 b.val<=8:=by decide+kernel
theorem p1_step (m n b:Nat) (hb:b<256):p1 (256*m+0x55) (256*n+b)=256*p1 m n+p1 0x55 b:=by
 obtain⟨h1,_⟩:=p1_tab ⟨b,hb⟩
 have e1:(256*n+b)/2=256*(n/2)+(n % 2*128+b/2):=by omega
 unfold p1
 rw[e1,land_mul_add _ _ _ _ (by omega) (by omega),land_mul_add _ _ _ _ hb (by omega)]
 have e2:(n % 2*128+b/2)&&&0x55=b/2&&&0x55:=by
  have:n % 2=0\/n % 2=1:=by omega
  rcases this with h|h
  ·rw[h];simp
  ·rw[h,Nat.one_mul];exact h1.symm
 rw[e2];omega
theorem p2_step (m n b:Nat) (hb:b<256):p2 (256*m+0x33) (256*n+b)=256*p2 m n+p2 0x33 b:=by
 have h1:=p2_tab ⟨b,hb⟩ ⟨n % 4,by omega⟩
 have e1:(256*n+b)/4=256*(n/4)+(n % 4*64+b/4):=by omega
 unfold p2
 rw[e1,land_mul_add _ _ _ _ (by omega) (by omega),land_mul_add _ _ _ _ hb (by omega)]
 have h1:(n % 4*64+b/4)&&&0x33=b/4&&&0x33:=h1
 rw[h1];omega
theorem p3_step (m n y:Nat) (hy:y<=0x44) (hn:n % 16<=4):p3 (256*m+0x0f) (256*n+y)=256*p3 m n+p3 0x0f y:=by
 have h1:=p3_tab ⟨y,by omega⟩ ⟨n % 16,by omega⟩
 have h1:((n % 16*16+y/16+y)&&&0x0f)=p3 0x0f y:=h1
 have e1:(256*n+y)/16+(256*n+y)=256*(n/16+n)+(n % 16*16+y/16+y):=by omega
 unfold p3 at*
 rw[e1,land_mul_add _ _ _ _ (by omega) (by omega),h1]
def sum8:Nat->Nat->Nat
 |0,_=>0
 |k+1,n=>256*sum8 k (n/256)+pc8 (n % 256)
theorem p123:∀(k n:Nat),n<256^k->p2 (rpt 0x33 k) (p1 (rpt 0x55 k) n) % 16<=4/\p3 (rpt 0x0f k) (p2 (rpt 0x33 k) (p1 (rpt 0x55 k) n))=sum8 k n
 |0,n,h=>by
  have:n=0:=by simpa using h
  subst this
  decide
 |k+1,n,h=>by
  have hb:n % 256<256:=Nat.mod_lt _ (by omega)
  have hk:n/256<256^k:=by rw[Nat.pow_succ]at h;omega
  obtain⟨i1,i2⟩:=p123 k (n/256) hk
  have e:n=256*(n/256)+n % 256:=by omega
  have s1:=p1_step (rpt 0x55 k) (n/256) (n % 256) hb
  rw[<-e]at s1
  obtain⟨_,t1⟩:=p1_tab ⟨n % 256,hb⟩
  obtain⟨_,t2,t3⟩:=p2_le ⟨n % 256,hb⟩
  have s2:=p2_step (rpt 0x33 k) (p1 (rpt 0x55 k) (n/256)) (p1 0x55 (n % 256)) t1
  rw[<-s1]at s2
  have s3:=p3_step (rpt 0x0f k) (p2 (rpt 0x33 k) (p1 (rpt 0x55 k) (n/256))) (p2 0x33 (p1 0x55 (n % 256))) t2 i1
  rw[<-s2]at s3
  refine⟨?_,?_⟩
  ·show p2 (256*rpt 0x33 k+0x33) (p1 (256*rpt 0x55 k+0x55) n) % 16<=4
   rw[s2]
   have t3:p2 0x33 (p1 0x55 (n % 256)) % 16<=4:=t3
   omega
  ·show p3 (256*rpt 0x0f k+0x0f) (p2 (256*rpt 0x33 k+0x33) (p1 (256*rpt 0x55 k+0x55) n))=_
   rw[s3,i2,(pc8_ok ⟨n % 256,hb⟩).1]
   rfl
theorem cn_add_n (a b:Nat) (p:Nat->Bool):cn (a+b) p=cn a p+cn b fun i=>p (a+i):=by
 induction b with
 |zero=>rfl
 |succ b ih=>rw[<-Nat.add_assoc,cn_succ,cn_succ,ih];omega
theorem cn_byte (k n:Nat):cn (8*(k+1)) (fun i=>n.testBit i)=pc8 (n % 256)+cn (8*k) fun i=>(n/256).testBit i:=by
 rw[show 8*(k+1)=8+8*k by omega,cn_add_n]
 congr 1
 ·refine cn_congr fun i hi=>?_
  rw[show(256:Nat)=2^8 from rfl,Nat.testBit_mod_two_pow];simp[hi]
 ·refine cn_congr fun i hi=>?_
  rw[show(256:Nat)=2^8 from rfl,Nat.testBit_div_two_pow]
  congr 1
  omega
theorem cnt64_bytes (x:UInt64):∃c0 c1 c2 c3 c4 c5 c6 c7:Nat,sum8 8 x.toNat=c0+256*(c1+256*(c2+256*(c3+256*(c4+256*(c5+256*(c6+256*c7))))))/\cnt64 x=c0+c1+c2+c3+c4+c5+c6+c7∧
  c0<=8/\c1<=8/\c2<=8/\c3<=8/\c4<=8/\c5<=8/\c6<=8/\c7<=8:=by
 have hp:∀n,pc8 (n % 256)<=8:=fun n=>(pc8_ok ⟨n % 256,Nat.mod_lt _ (by omega)⟩).2
 refine⟨pc8 ((x.toNat) % 256),pc8 ((x.toNat/256) % 256),pc8 ((x.toNat/256/256) % 256),pc8 ((x.toNat/256/256/256) % 256),pc8 ((x.toNat/256/256/256/256) % 256),pc8 ((x.toNat/256/256/256/256/256) % 256),pc8 ((x.toNat/256/256/256/256/256/256) % 256),pc8 ((x.toNat/256/256/256/256/256/256/256) % 256),?_,?_,hp _,hp _,hp _,hp _,hp _,hp _,hp _,hp _⟩
 ·simp only[sum8];omega
 ·have e:cnt64 x=cn (8*(7+1)) fun i=>x.toNat.testBit i:=rfl
  rw[e,cn_byte 7,cn_byte 6,cn_byte 5,cn_byte 4,cn_byte 3,cn_byte 2,cn_byte 1,cn_byte 0]
  simp only[Nat.mul_zero,cn];omega
def memb (W:List UInt64) (n:Nat):Bool:=bt (W.getD (n/64) 0) (n % 64)
theorem memb_ge (h:64*W.length<=n):memb W n=false:=by
 unfold memb
 rw[List.getD_eq_getElem?_getD,List.getElem?_eq_none (by omega)]
 exact bt_zero _
theorem memb_at (W:List UInt64) (k b:Nat) (hb:b<64):memb W (64*k+b)=bt (W.getD k 0) b:=by
 unfold memb
 rw[show(64*k+b)/64=k by omega,show(64*k+b) % 64=b by omega]
theorem memb_ext (hl:A.length=B.length) (h:∀n,memb A n=memb B n):A=B:=by
 apply List.ext_getElem hl
 intro i h1 h2
 apply bt_ext
 intro k hk
 have:=h (64*i+k)
 rw[memb_at _ _ _ hk,memb_at _ _ _ hk]at this
 simpa[List.getD_eq_getElem?_getD,h1,h2]using this
def Can (W:List UInt64):Prop:=∀h:W≠[],W.getLast h≠0
theorem Can.top (h:Can W) (hW:W≠[]):∃n,memb W n=true/\64*(W.length -1)<=n/\n<64*W.length:=by
 have hl:0<W.length:=List.length_pos_iff.2 hW
 obtain⟨a,b,c⟩:=lowB_spec (h hW)
 refine⟨64*(W.length -1)+lowB (W.getLast hW),?_,by omega,by omega⟩
 rw[memb_at _ _ _ a,<-b]
 congr 1
 rw[List.getD_eq_getElem?_getD,List.getLast_eq_getElem]
 have:W.length -1<W.length:=by omega
 simp[this]
theorem Can.ext (ha:Can A) (hb:Can B) (h:∀n,memb A n=memb B n):A=B:=by
 refine memb_ext ?_ h
 rcases Nat.lt_trichotomy A.length B.length with hl|hl|hl
 ·obtain⟨n,h1,h2,h3⟩:=hb.top (List.length_pos_iff.1 (by omega))
  have:=h n
  rw[h1,memb_ge (by omega)]at this;cases this
 ·exact hl
 ·obtain⟨n,h1,h2,h3⟩:=ha.top (List.length_pos_iff.1 (by omega))
  have:=h n
  rw[h1,memb_ge (by omega)]at this;cases this
def mems (p:Nat->Bool):List Nat:=(List.range 4096).filter p
theorem filter_get (p:Nat->Bool):∀(N n:Nat),n<N->p n=true->((List.range N).filter p)[cn n p]?=some n
 |0,n,h,_=>by omega
 |N+1,n,h,hp=>by
  rw[List.range_succ,List.filter_append]
  by_cases e:n<N
  ·have:=filter_get p N n e hp
   have hl:=(List.getElem?_eq_some_iff.1 this).1
   rw[List.getElem?_append_left hl];exact this
  ·have:n=N:=by omega
   subst this
   rw[List.getElem?_append_right (by rw[filter_lt_cn];exact Nat.le_refl _),filter_lt_cn]
   simp[hp]
theorem cn_range {a b : Nat} (hab : a <= b) (h : ∀ i, a <= i -> i < b -> p i = false) : cn b p = cn a p := by
  induction b with
  | zero => have : a = 0 := by omega
            subst this; rfl
  | succ b ih =>
    by_cases e : a = b + 1
    · subst e; rfl
    · rw [cn_succ, h b (by omega) (by omega), ih (by omega) fun i h1 h2 => h i h1 (by omega)]; simp
theorem mem_mems:n∈mems p↔n<4096/\p n=true:=by simp[mems]
theorem mems_length (p:Nat->Bool):(mems p).length=cn 4096 p:=filter_lt_cn _ _
end Go.Mg
namespace Go.Mg
open Go Go.RowKit
set_option linter.all false
set_option maxRecDepth 100000
def c_ones (ι:Ids):S:=
 kY [kC 2 (.int .i64 0)] (kY [kA 3 0,kU 4 (.sh .shr .u64 (.t 3) (.c (.int .u64 1))),kU 5 (.bt .and .u64 (.t 4) (.c (.int .u64 6148914691236517205))),kA 6 0,kU 7 (.bt .and .u64 (.t 6) (.c (.int .u64 6148914691236517205))),kU 8 (.ar .add .u64 (.t 5) (.t 7)),kB 0 8] (kY [kA 9 0,kU 10 (.sh .shr .u64 (.t 9) (.c (.int .u64 2))),kU 11 (.bt .and .u64 (.t 10) (.c (.int .u64 3689348814741910323))),kA 12 0,kU 13 (.bt .and .u64 (.t 12) (.c (.int .u64 3689348814741910323))),kU 14 (.ar .add .u64 (.t 11) (.t 13)),kB 0 14] (kY [kA 15 0,kU 16 (.sh .shr .u64 (.t 15) (.c (.int .u64 4))),kA 17 0,kU 18 (.ar .add .u64 (.t 16) (.t 17)),kU 19 (.bt .and .u64 (.t 18) (.c (.int .u64 1085102592571150095))),kB 0 19] (kY [kA 20 0,kA 21 0,kU 22 (.sh .shr .u64 (.t 21) (.c (.int .u64 8))),kU 23 (.ar .add .u64 (.t 20) (.t 22)),kB 0 23] (kY [kA 24 0,kA 25 0,kU 26 (.sh .shr .u64 (.t 25) (.c (.int .u64 16))),kU 27 (.ar .add .u64 (.t 24) (.t 26)),kB 0 27] (kY [kA 28 0,kA 29 0,kU 30 (.sh .shr .u64 (.t 29) (.c (.int .u64 32))),kU 31 (.ar .add .u64 (.t 28) (.t 30)),kB 0 31] (kY [kA 32 0,kU 33 (.ii .i64 (.t 32)),kU 34 (.bt .and .i64 (.t 33) (.c (.int .i64 127))),kB 2 34] .ret)))))))
def r_ones:List RV:=[.t 2]
def c_tz (ι:Ids):S:=
 kY [kC 2 (.int .i64 0)] (.seq (kY [kA 3 0,kV 4 (.cm .eql .u64 (.t 3) (.c (.int .u64 0)))] (.ite (.v 4) (kY [kC 2 (.int .i64 64)] .ret) .skip)) (kY [kA 5 0,kA 6 0,kU 7 (.neg .u64 (.t 6)),kU 8 (.bt .and .u64 (.t 5) (.t 7)),kU 9 (.ar .mul .u64 (.t 8) (.c (.int .u64 285870213051353865))),kU 10 (.sh .shr .u64 (.t 9) (.c (.int .u64 58))),kU 11 (.ia 64 1 (.c (.pointer (.some ⟨ι.g 125,0,.none⟩))) (.t 10)),kD 12 11,kU 13 (.ii .i64 (.t 12)),kB 2 13] .ret))
def r_tz:List RV:=[.t 2]
def c_len64 (ι:Ids):S:=
 kY [kC 2 (.int .i64 0)] (.seq (kY [kA 3 0,kV 4 (.cm .geq .u64 (.t 3) (.c (.int .u64 4294967296)))] (.ite (.v 4) (kY [kA 5 0,kU 6 (.sh .shr .u64 (.t 5) (.c (.int .u64 32))),kB 0 6] (.reg [kC 2 (.int .i64 32)])) .skip)) (.seq (kY [kA 7 0,kV 8 (.cm .geq .u64 (.t 7) (.c (.int .u64 65536)))] (.ite (.v 8) (kY [kA 9 0,kU 10 (.sh .shr .u64 (.t 9) (.c (.int .u64 16))),kB 0 10] (.reg [kA 11 2,kU 12 (.ar .add .i64 (.t 11) (.c (.int .i64 16))),kB 2 12])) .skip)) (.seq (kY [kA 13 0,kV 14 (.cm .geq .u64 (.t 13) (.c (.int .u64 256)))] (.ite (.v 14) (kY [kA 15 0,kU 16 (.sh .shr .u64 (.t 15) (.c (.int .u64 8))),kB 0 16] (.reg [kA 17 2,kU 18 (.ar .add .i64 (.t 17) (.c (.int .i64 8))),kB 2 18])) .skip)) (kY [kA 19 2,kA 20 0,kU 21 (.ii .u8 (.t 20)),kU 22 (.m (.ixs (.c (.string ⟨#[0,1,2,2,3,3,3,3,4,4,4,4,4,4,4,4,5,5,5,5,5,5,5,5,5,5,5,5,5,5,5,5,6,6,6,6,6,6,6,6,6,6,6,6,6,6,6,6,6,6,6,6,6,6,6,6,6,6,6,6,6,6,6,6,7,7,7,7,7,7,7,7,7,7,7,7,7,7,7,7,7,7,7,7,7,7,7,7,7,7,7,7,7,7,7,7,7,7,7,7,7,7,7,7,7,7,7,7,7,7,7,7,7,7,7,7,7,7,7,7,7,7,7,7,7,7,7,7,8,8,8,8,8,8,8,8,8,8,8,8,8,8,8,8,8,8,8,8,8,8,8,8,8,8,8,8,8,8,8,8,8,8,8,8,8,8,8,8,8,8,8,8,8,8,8,8,8,8,8,8,8,8,8,8,8,8,8,8,8,8,8,8,8,8,8,8,8,8,8,8,8,8,8,8,8,8,8,8,8,8,8,8,8,8,8,8,8,8,8,8,8,8,8,8,8,8,8,8,8,8,8,8,8,8,8,8,8,8,8,8,8,8,8,8,8,8,8,8,8,8,8,8,8,8,8,8]⟩)) (.t 21))),kU 23 (.ii .i64 (.t 22)),kU 24 (.ar .add .i64 (.t 19) (.t 23)),kB 2 24] .ret))))
def r_len64:List RV:=[.t 2]
theorem u64_and (a b:Nat) (ha:a<18446744073709551616) (hb:b<18446744073709551616):bits .and .u64 (a:Int) (b:Int)=((a&&&b:Nat):Int):=by
 have h:=bits_and (UInt64.ofNat a) (UInt64.ofNat b)
 rw[UInt64.toNat_and,UInt64.toNat_ofNat',UInt64.toNat_ofNat',Nat.mod_eq_of_lt ha,Nat.mod_eq_of_lt hb]at h
 exact h
theorem u64_in (n:Nat) (h:n<18446744073709551616):IntKind.u64.wrap (n:Int)=(n:Int):=by rw[IntKind.wrap_u64];omega
theorem and1 (x:UInt64) (k:Nat):bits .and .u64 ((x.toNat:Int)/2^k) 1=if bt x k=true then 1 else 0:=by
 have e:((x.toNat:Int)/2^k)=((x.toNat/2^k:Nat):Int):=by simp
 have hlt:x.toNat/2^k<18446744073709551616:=Nat.lt_of_le_of_lt (Nat.div_le_self _ _) x.toNat_lt
 rw[e,show(1:Int)=((1:Nat):Int)from rfl,u64_and _ _ hlt (by omega),Nat.and_one_is_mod]
 unfold bt
 rw[Nat.testBit_eq_decide_div_mod_eq]
 by_cases h:x.toNat/2^k % 2=1
 ·simp[h]
 ·have:x.toNat/2^k % 2=0:=by omega
  simp[this]
theorem i64_and127 (n:Nat) (h:n<9223372036854775808):bits .and .i64 (n:Int) 127=((n % 128:Nat):Int):=by
 show IntKind.i64.wrap ((BitVec.ofInt 64 (n:Int)&&&BitVec.ofInt 64 127).toNat:Int)=_
 have e:(BitVec.ofInt 64 (n:Int)&&&BitVec.ofInt 64 127).toNat=n % 128:=by
  rw[BitVec.toNat_and]
  have e1:(BitVec.ofInt 64 (n:Int)).toNat=n:=by simp;omega
  have e2:(BitVec.ofInt 64 127).toNat=127:=by decide
  rw[e1,e2,show 127=2^7 -1 from rfl,Nat.and_two_pow_sub_one_eq_mod]
 rw[e]
 exact IntWalk.i64_in _ ⟨by omega,by omega⟩
def dig (c T:Nat->Nat):Prop:=∀i,T i=c i+256*T (i+1)
variable {c T:Nat->Nat} {P:Program} {ι:Ids} {k:FuncId}
theorem dig_div (h:dig c T) (hc:∀i,c i<256) (i:Nat):T i/256=T (i+1):=by
 have a:=h i
 have b:=hc i
 rw[a]
 generalize T (i+1)=y at*
 generalize c i=z at*
 omega
theorem dig_add (h:dig c T) (s:Nat):dig (fun i=>c i+c (i+s)) (fun i=>T i+T (i+s)):=by
 intro i
 have a:=h i
 have b:=h (i+s)
 have e:i+s+1=i+1+s:=by omega
 rw[e]at b
 simp only
 rw[a,b]
 generalize T (i+1)=y
 generalize T (i+1+s)=z
 omega
def tl8:List Nat->Nat
 |[]=>0
 |a::l=>a+256*tl8 l
theorem tl8_dig (l:List Nat):dig (fun i=>l.getD i 0) (fun i=>tl8 (l.drop i)):=by
 intro i
 simp only
 by_cases h:i<l.length
 ·rw[List.drop_eq_getElem_cons h,List.getD_eq_getElem?_getD,List.getElem?_eq_getElem h];rfl
 ·rw[List.drop_eq_nil_of_le (by omega),List.drop_eq_nil_of_le (by omega),List.getD_eq_getElem?_getD,List.getElem?_eq_none (by omega)];rfl
theorem fold8' (hd:dig c T) (hc:∀i,c i<=8):(T 0+T 0/256+(T 0+T 0/256)/65536+(T 0+T 0/256+(T 0+T 0/256)/65536)/4294967296) % 128=c 0+c 1+c 2+c 3+c 4+c 5+c 6+c 7:=by
 have e1:T 0/256=T 1:=dig_div hd (fun i=>Nat.lt_of_le_of_lt (hc i) (by decide)) 0
 rw[e1]
 obtain⟨A,hA⟩:∃A:Nat->Nat,A=fun i=>T i+T (i+1):=⟨_,rfl⟩
 obtain⟨a,ha⟩:∃a:Nat->Nat,a=fun i=>c i+c (i+1):=⟨_,rfl⟩
 have s1:dig a A:=by rw[hA,ha];exact dig_add hd 1
 have a1:∀i,a i<=16:=fun i=>by rw[ha];exact Nat.add_le_add (hc i) (hc (i+1))
 have hA0:T 0+T 1=A 0:=by rw[hA]
 rw[hA0]
 have d1:∀i,A i/256=A (i+1):=fun i=>dig_div s1 (fun i=>Nat.lt_of_le_of_lt (a1 i) (by decide)) i
 have e2:A 0/65536=A 2:=by
  rw[show 65536=256*256 from rfl,<-Nat.div_div_eq_div_mul,d1,d1]
 rw[e2]
 obtain⟨B,hB⟩:∃B:Nat->Nat,B=fun i=>A i+A (i+2):=⟨_,rfl⟩
 obtain⟨b,hb⟩:∃b:Nat->Nat,b=fun i=>a i+a (i+2):=⟨_,rfl⟩
 have s2:dig b B:=by rw[hB,hb];exact dig_add s1 2
 have b1:∀i,b i<=32:=fun i=>by rw[hb];exact Nat.add_le_add (a1 i) (a1 (i+2))
 have hB0:A 0+A 2=B 0:=by rw[hB]
 rw[hB0]
 have d2:∀i,B i/256=B (i+1):=fun i=>dig_div s2 (fun i=>Nat.lt_of_le_of_lt (b1 i) (by decide)) i
 have e3:B 0/4294967296=B 4:=by
  rw[show 4294967296=256*256*256*256 from rfl,<-Nat.div_div_eq_div_mul,<-Nat.div_div_eq_div_mul,<-Nat.div_div_eq_div_mul,d2,d2,d2,d2]
 rw[e3]
 have s3:=dig_add s2 4 0
 simp only[Nat.zero_add]at s3
 rw[s3]
 have fin:∀z y:Nat,y<=64->(y+256*z) % 128=y:=fun z y h=>by omega
 rw[fin _ _ (Nat.add_le_add (b1 0) (b1 4)),hb,ha]
 simp only[Nat.zero_add,Zb]
 generalize c 0=x0
 generalize c 1=x1
 generalize c 2=x2
 generalize c 3=x3
 generalize c 4=x4
 generalize c 5=x5
 generalize c 6=x6
 generalize c 7=x7
 omega
def OnesSpec (P:Program) (k:FuncId):Prop:=∀(x:UInt64) (H:Hp),CallsM P k #[.int .u64 x.toNat] H fun r H'=>r=.int .i64 (cnt64 x:Int)/\H'=H
theorem land_le (a b:Nat):a&&&b<=b:=Nat.and_le_right
theorem ones_ok (hk:FnIs P k (c_ones ι) r_ones 1):OnesSpec P k:=by
 intro x H
 refine calls_of_vc hk (args:=[_]) (by simp) ?_
 unfold c_ones r_ones kA kB kC kU kY
 have hx:=x.toNat_lt
 have g1:rpt 0x55 8=6148914691236517205:=by decide
 have g2:rpt 0x33 8=3689348814741910323:=by decide
 have g3:rpt 0x0f 8=1085102592571150095:=by decide
 obtain⟨-,hp⟩:=p123 8 x.toNat (by have:=x.toNat_lt;exact this)
 rw[g1,g2,g3]at hp
 obtain⟨c0,c1,c2,c3,c4,c5,c6,c7,hs,hc,h0,h1,h2,h3,h4,h5,h6,h7⟩:=cnt64_bytes x
 rw[hs]at hp
 -- the first sum
 have a1:bits .and .u64 ((x.toNat:Int)/2^1) 6148914691236517205=((x.toNat/2&&&6148914691236517205:Nat):Int):=by
  have:=u64_and (x.toNat/2) 6148914691236517205 (by omega) (by omega)
  rw[<-this];rfl
 have a2:bits .and .u64 (x.toNat:Int) 6148914691236517205=((x.toNat&&&6148914691236517205:Nat):Int):=u64_and _ 6148914691236517205 hx (by omega)
 have l1:=land_le (x.toNat/2) 6148914691236517205
 have l2:=land_le x.toNat 6148914691236517205
 have a3:IntKind.u64.wrap (((x.toNat/2&&&6148914691236517205:Nat):Int)+((x.toNat&&&6148914691236517205:Nat):Int))=((p1 6148914691236517205 x.toNat:Nat):Int):=by
  unfold p1;rw[<-Int.natCast_add];exact u64_in _ (by omega)
 have b1:p1 6148914691236517205 x.toNat<=12297829382473034410:=by unfold p1;omega
 simp only[go_sem,zS,↓reduceIte,Za,Zb,Zc,reduceCtorEq,kont_eq,tn_ofNat,a1,a2,a3]
 generalize p1 6148914691236517205 x.toNat=m at*
 have a4:bits .and .u64 ((m:Int)/2^2) 3689348814741910323=((m/4&&&3689348814741910323:Nat):Int):=by
  have:=u64_and (m/4) 3689348814741910323 (by omega) (by omega)
  rw[<-this];rfl
 have a5:bits .and .u64 (m:Int) 3689348814741910323=((m&&&3689348814741910323:Nat):Int):=u64_and _ 3689348814741910323 (by omega) (by omega)
 have l3:=land_le (m/4) 3689348814741910323
 have l4:=land_le m 3689348814741910323
 have a6:IntKind.u64.wrap (((m/4&&&3689348814741910323:Nat):Int)+((m&&&3689348814741910323:Nat):Int))=((p2 3689348814741910323 m:Nat):Int):=by
  unfold p2;rw[<-Int.natCast_add];exact u64_in _ (by omega)
 have b2:p2 3689348814741910323 m<=7378697629483820646:=by unfold p2;omega
 simp only[a4,a5,a6]
 generalize p2 3689348814741910323 m=q at*
 have a7:IntKind.u64.wrap ((q:Int)/2^4+(q:Int))=((q/16+q:Nat):Int):=by
  have e:((q:Int)/2^4)=((q/16:Nat):Int):=by simp
  rw[e,<-Int.natCast_add];exact u64_in _ (by omega)
 have a8:bits .and .u64 ((q/16+q:Nat):Int) 1085102592571150095=((p3 1085102592571150095 q:Nat):Int):=u64_and _ 1085102592571150095 (by omega) (by omega)
 simp only[a7,a8,hp]
 generalize ht:c0+256*(c1+256*(c2+256*(c3+256*(c4+256*(c5+256*(c6+256*c7))))))=t
 have a9:IntKind.u64.wrap ((t:Int)+(t:Int)/2^8)=((t+t/256:Nat):Int):=by
  have e:((t:Int)/2^8)=((t/256:Nat):Int):=by simp
  rw[e,<-Int.natCast_add];exact u64_in _ (by omega)
 simp only[a9]
 generalize ht2:t+t/256=t2
 have a10:IntKind.u64.wrap ((t2:Int)+(t2:Int)/2^16)=((t2+t2/65536:Nat):Int):=by
  have e:((t2:Int)/2^16)=((t2/65536:Nat):Int):=by simp
  rw[e,<-Int.natCast_add];exact u64_in _ (by omega)
 simp only[a10]
 generalize ht3:t2+t2/65536=t3
 have a11:IntKind.u64.wrap ((t3:Int)+(t3:Int)/2^32)=((t3+t3/4294967296:Nat):Int):=by
  have e:((t3:Int)/2^32)=((t3/4294967296:Nat):Int):=by simp
  rw[e,<-Int.natCast_add];exact u64_in _ (by omega)
 simp only[a11]
 generalize ht4:t3+t3/4294967296=t4
 have hb4:t4<9223372036854775808:=by omega
 have a12:IntKind.i64.wrap (t4:Int)=(t4:Int):=IntWalk.i64_in _ ⟨by omega,by omega⟩
 simp only[a12,i64_and127 _ hb4,go_sem,zS,↓reduceIte,Za,Zb,Zc,reduceCtorEq,kont_eq]
 have this:t4 % 128=cnt64 x:=by
  have hle:∀i,([c0,c1,c2,c3,c4,c5,c6,c7]:List Nat).getD i 0<=8:=by
   intro i
   rcases i with _|_|_|_|_|_|_|_|i
   ·exact h0
   ·exact h1
   ·exact h2
   ·exact h3
   ·exact h4
   ·exact h5
   ·exact h6
   ·exact h7
   ·exact Nat.zero_le _
  have hf:=fold8' (tl8_dig [c0,c1,c2,c3,c4,c5,c6,c7]) hle
  have hT:tl8 (List.drop 0 [c0,c1,c2,c3,c4,c5,c6,c7])=t:=by rw[<-ht,List.drop_zero];simp only[tl8,Nat.mul_zero,Nat.add_zero]
  simp only[hT,ht2,ht3,ht4]at hf
  rw[hc];exact hf
 rw[this]
 repeat' apply And.intro
 all_goals first|trivial|decide|omega
def tabL:List Nat:=[0,1,56,2,57,49,28,3,61,58,42,50,38,29,17,4,62,47,59,36,45,43,51,22,53,39,33,30,24,18,12,5,63,55,48,27,60,41,37,16,46,35,44,21,52,32,23,11,54,26,40,15,34,20,31,10,25,14,19,9,13,8,7,6]
def TabOk (ι:Ids) (H:Hp):Prop:=Bl H (ι.g 125) ((tabL.map fun n:Nat=>(n:Int)).map (Value.int .u8))
theorem TabOk.keep {H H':Hp} (h:TabOk ι H) (hk:Keep (fun _=>False) H H'):TabOk ι H':=hk.bl h (by simp)
theorem tab_at:∀t:Fin 64,tabL.getD (2^t.val*285870213051353865 % 18446744073709551616/288230376151711744) 0=t.val/\2^t.val*285870213051353865 % 18446744073709551616/288230376151711744<64:=by decide+kernel
def TzSpec (P:Program) (ι:Ids) (k:FuncId):Prop:=∀(x:UInt64) (H:Hp),TabOk ι H->x≠0->CallsM P k #[.int .u64 x.toNat] H fun r H'=>r=.int .i64 (lowB x:Int)/\H'=H
theorem tz_ok (hk:FnIs P k (c_tz ι) r_tz 1):TzSpec P ι k:=by
 intro x H hT hx
 refine calls_of_vc hk (args:=[_]) (by simp) ?_
 unfold c_tz r_tz kA kB kC kD kU kV kY
 obtain⟨hl,_,_⟩:=lowB_spec hx
 have h0:¬((x.toNat:Int)==0)=true:=by
  simp only[beq_iff_eq]
  intro e
  exact hx (UInt64.toNat_inj.1 (by simpa using e))
 have h0:((x.toNat:Int)==0)=false:=by simpa using h0
 have hneg:IntKind.u64.wrap (-(x.toNat:Int))=((0 -x:UInt64).toNat:Int):=by
  have:=x.toNat_lt
  have h1:x.toNat≠0:=fun e=>hx (UInt64.toNat_inj.1 (by simpa using e))
  rw[IntKind.wrap_u64,UInt64.toNat_sub]
  have e:(0:UInt64).toNat=0:=rfl
  rw[e];omega
 have hand:=bits_and x (0 -x)
 rw[neg_and hx]at hand
 have hp:(UInt64.ofNat (2^lowB x)).toNat=2^lowB x:=by
  rw[UInt64.toNat_ofNat'];exact Nat.mod_eq_of_lt (Nat.pow_lt_pow_right (by omega) hl)
 rw[hp]at hand
 obtain⟨t1,t2⟩:=tab_at ⟨lowB x,hl⟩
 simp only at t1 t2
 have hmul:IntKind.u64.wrap (((2^lowB x:Nat):Int)*285870213051353865)=((2^lowB x*285870213051353865 % 18446744073709551616:Nat):Int):=by
  rw[IntKind.wrap_u64];simp
 have hsh:((2^lowB x*285870213051353865 % 18446744073709551616:Nat):Int)/2^58=((2^lowB x*285870213051353865 % 18446744073709551616/288230376151711744:Nat):Int):=by simp
 have hcell:cell H ⟨ι.g 125,2^lowB x*285870213051353865 % 18446744073709551616/288230376151711744,none⟩=some (.int .u8 (lowB x:Int)):=by
  rw[hT.cell]
  have hlen:tabL.length=64:=by decide
  rw[List.getElem?_map,List.getElem?_map,List.getElem?_eq_getElem (by rw[hlen];exact t2)]
  simp only[Option.map_some]
  rw[List.getD_eq_getElem?_getD,List.getElem?_eq_getElem (by rw[hlen];exact t2),Option.getD_some]at t1
  rw[t1]
 have hw:IntKind.i64.wrap (lowB x:Int)=(lowB x:Int):=IntWalk.i64_in _ ⟨by omega,by omega⟩
 simp only[go_sem,zS,↓reduceIte,Za,Zb,Zc,reduceCtorEq,kont_eq,h0,hneg,hand,hmul,tn_ofNat,hsh,tn_cast,hcell,hw]
 repeat' apply And.intro
 all_goals first|trivial|decide|omega|exact_mod_cast t2
def len8L:List UInt8:=[0,1,2,2,3,3,3,3]++List.replicate 8 4++List.replicate 16 5++List.replicate 32 6++List.replicate 64 7++List.replicate 128 8
def lenT (b:Nat):Nat:=(len8L.getD b 0).toNat
theorem lenT_ok:∀b:Fin 256,b.val<2^lenT b.val/\(b.val≠0->2^(lenT b.val -1)<=b.val/\1<=lenT b.val)/\lenT b.val<=8:=by decide+kernel
def lenB (n:Nat):Nat:=if n=0 then 0 else n.log2+1
theorem lenB_of {n k:Nat} (h1:n<2^k) (h2:2^(k -1)<=n) (h3:1<=k):lenB n=k:=by
 have hn:n≠0:=by have:=Nat.two_pow_pos (k -1);omega
 unfold lenB
 rw[if_neg hn]
 have:n.log2=k -1:=(Nat.log2_eq_iff hn).2 ⟨h2,by rw[show k -1+1=k by omega];exact h1⟩
 omega
theorem lenB_tab (b:Nat) (h:b<256):lenB b=lenT b:=by
 obtain⟨h1,h2,_⟩:=lenT_ok ⟨b,h⟩
 simp only at h1 h2
 by_cases e:b=0
 ·subst e;decide
 ·exact lenB_of h1 (h2 e).1 (h2 e).2
theorem lenB_div (n k:Nat) (h:2^k<=n):lenB n=k+lenB (n/2^k):=by
 have hp:=Nat.two_pow_pos k
 have hn:n≠0:=by omega
 have hd:n/2^k≠0:=by have:=(Nat.le_div_iff_mul_le hp).2 (by rw[Nat.one_mul];exact h);omega
 have e1:=Nat.log2_self_le hd
 have e2:=(Nat.log2_lt hd (k:=(n/2^k).log2+1)).1 (by omega)
 have:lenB (n/2^k)=(n/2^k).log2+1:=by unfold lenB;rw[if_neg hd]
 rw[this]
 refine lenB_of ?_ ?_ (by omega)
 ·rw[Nat.pow_add]
  have:=(Nat.div_lt_iff_lt_mul hp).1 e2
  rw[Nat.mul_comm];exact this
 ·rw[show k+((n/2^k).log2+1) -1=(n/2^k).log2+k by omega,Nat.pow_add]
  exact(Nat.le_div_iff_mul_le hp).1 e1
def LenSpec (P:Program) (k:FuncId):Prop:=∀(x:UInt64) (H:Hp),CallsM P k #[.int .u64 x.toNat] H fun r H'=>r=.int .i64 (lenB x.toNat:Int)/\H'=H
theorem len8_tab:(#[0,1,2,2,3,3,3,3,4,4,4,4,4,4,4,4,5,5,5,5,5,5,5,5,5,5,5,5,5,5,5,5,6,6,6,6,6,6,6,6,6,6,6,6,6,6,6,6,6,6,6,6,6,6,6,6,6,6,6,6,6,6,6,6,7,7,7,7,7,7,7,7,7,7,7,7,7,7,7,7,7,7,7,7,7,7,7,7,7,7,7,7,7,7,7,7,7,7,7,7,7,7,7,7,7,7,7,7,7,7,7,7,7,7,7,7,7,7,7,7,7,7,7,7,7,7,7,7,8,8,8,8,8,8,8,8,8,8,8,8,8,8,8,8,8,8,8,8,8,8,8,8,8,8,8,8,8,8,8,8,8,8,8,8,8,8,8,8,8,8,8,8,8,8,8,8,8,8,8,8,8,8,8,8,8,8,8,8,8,8,8,8,8,8,8,8,8,8,8,8,8,8,8,8,8,8,8,8,8,8,8,8,8,8,8,8,8,8,8,8,8,8,8,8,8,8,8,8,8,8,8,8,8,8,8,8,8,8,8,8,8,8,8,8,8,8,8,8,8,8,8,8,8,8,8,8]:Array UInt8)=len8L.toArray:=by decide+kernel
theorem len64_ok (hk:FnIs P k (c_len64 ι) r_len64 1):LenSpec P k:=by
 intro x H
 refine calls_of_vc hk (args:=[_]) (by simp) ?_
 unfold c_len64 r_len64 kA kB kC kU kV kY
 have hx:=x.toNat_lt
 generalize x.toNat=n at*
 have last:∀(m a:Nat),m<256->a<=56->lenB n=a+lenB m->∀f:Fr,f 0=.int .u64 (m:Int)->f 2=.int .i64 (a:Int)→
   vc P (.seq (.reg [.p (.t 19) (.mv (.v 2)),.p (.t 20) (.mv (.v 0)),.p (.t 21) (.ii .u8 (.t 20)),.p (.t 22) (.m (.ixs (.c (.string ⟨len8L.toArray⟩)) (.t 21))),.p (.t 23) (.ii .i64 (.t 22)),.p (.t 24) (.ar .add .i64 (.t 19) (.t 23)),.p (.v 2) (.mv (.t 24))]) .ret)
    (retQ [.t 2] fun r H'=>r=.int .i64 (lenB n:Int)/\H'=H) f H:=by
  intro m a hm ha he f f0 f2
  have hw8:IntKind.u8.wrap (m:Int)=(m:Int):=by rw[IntKind.wrap_u8];omega
  have hlen:len8L.length=256:=by decide
  have hg:=ba_get len8L m (by omega)
  obtain⟨_,_,h8⟩:=lenT_ok ⟨m,hm⟩
  have h8:lenT m<=8:=h8
  have hT:(len8L.getD m 0).toNat=lenT m:=rfl
  have hw1:IntKind.i64.wrap (lenT m:Int)=(lenT m:Int):=IntWalk.i64_in _ ⟨by omega,by omega⟩
  have hw2:IntKind.i64.wrap ((a:Int)+(lenT m:Int))=((a+lenT m:Nat):Int):=by rw[<-Int.natCast_add];exact IntWalk.i64_in _ ⟨by omega,by omega⟩
  simp only[go_sem,zS,↓reduceIte,Za,Zb,Zc,reduceCtorEq,kont_eq,f0,f2,hw8,ba_size,hlen,tn_cast,hg,hT,hw1,hw2]
  rw[he,lenB_tab m hm]
  repeat' apply And.intro
  all_goals first|trivial|decide|omega
 rw[len8_tab]
 generalize hLST:S.seq (.reg [.p (.t 19) (.mv (.v 2)),.p (.t 20) (.mv (.v 0)),.p (.t 21) (.ii .u8 (.t 20)),.p (.t 22) (.m (.ixs (.c (.string ⟨len8L.toArray⟩)) (.t 21))),.p (.t 23) (.ii .i64 (.t 22)),.p (.t 24) (.ar .add .i64 (.t 19) (.t 23)),.p (.v 2) (.mv (.t 24))]) .ret=LST at last⊢
 -- the third test
 have third:∀(m a:Nat),m<65536->(a=0\/a=16\/a=32\/a=48)->lenB n=a+lenB m->∀f:Fr,f 0=.int .u64 (m:Int)->f 2=.int .i64 (a:Int)→
   vc P (.seq (.seq (.reg [.p (.t 13) (.mv (.v 0)),.p (.v 14) (.cm .geq .u64 (.t 13) (.c (.int .u64 256)))]) (.ite (.v 14) (.seq (.reg [.p (.t 15) (.mv (.v 0)),.p (.t 16) (.sh .shr .u64 (.t 15) (.c (.int .u64 8))),.p (.v 0) (.mv (.t 16))]) (.reg [.p (.t 17) (.mv (.v 2)),.p (.t 18) (.ar .add .i64 (.t 17) (.c (.int .i64 8))),.p (.v 2) (.mv (.t 18))])) .skip)) LST)
    (retQ [.t 2] fun r H'=>r=.int .i64 (lenB n:Int)/\H'=H) f H:=by
  intro m a hm ha he f f0 f2
  have hw:IntKind.i64.wrap ((a:Int)+8)=((a+8:Nat):Int):=by rw[show((a:Int)+8)=((a+8:Nat):Int) by simp];exact IntWalk.i64_in _ ⟨by omega,by omega⟩
  have hd:(m:Int)/2^8=((m/2^8:Nat):Int):=by simp
  simp only[go_sem,zS,↓reduceIte,Za,Zb,Zc,reduceCtorEq,kont_eq,f0,f2,tn_ofNat,hw,hd]
  refine iteV_dec (fun h=>?_) (fun h=>?_)
  ·have h:256<=m:=by omega
   exact⟨by decide,last _ _ (by omega) (by omega) (by rw[he,lenB_div m 8 (by omega)];omega) _ rfl rfl⟩
  ·exact last m a (by omega) (by omega) he _ (by simp only[go_sem,zS,↓reduceIte,Za,Zb,Zc,reduceCtorEq,kont_eq,f0]) (by simp only[go_sem,zS,↓reduceIte,Za,Zb,Zc,reduceCtorEq,kont_eq,f2])
 generalize hTRD:S.seq (.seq (.reg [.p (.t 13) (.mv (.v 0)),.p (.v 14) (.cm .geq .u64 (.t 13) (.c (.int .u64 256)))]) (.ite (.v 14) (.seq (.reg [.p (.t 15) (.mv (.v 0)),.p (.t 16) (.sh .shr .u64 (.t 15) (.c (.int .u64 8))),.p (.v 0) (.mv (.t 16))]) (.reg [.p (.t 17) (.mv (.v 2)),.p (.t 18) (.ar .add .i64 (.t 17) (.c (.int .i64 8))),.p (.v 2) (.mv (.t 18))])) .skip)) LST=TRD at third⊢
 have second:∀(m a:Nat),m<4294967296->(a=0\/a=32)->lenB n=a+lenB m->∀f:Fr,f 0=.int .u64 (m:Int)->f 2=.int .i64 (a:Int)→
   vc P (.seq (.seq (.reg [.p (.t 7) (.mv (.v 0)),.p (.v 8) (.cm .geq .u64 (.t 7) (.c (.int .u64 65536)))]) (.ite (.v 8) (.seq (.reg [.p (.t 9) (.mv (.v 0)),.p (.t 10) (.sh .shr .u64 (.t 9) (.c (.int .u64 16))),.p (.v 0) (.mv (.t 10))]) (.reg [.p (.t 11) (.mv (.v 2)),.p (.t 12) (.ar .add .i64 (.t 11) (.c (.int .i64 16))),.p (.v 2) (.mv (.t 12))])) .skip)) TRD)
    (retQ [.t 2] fun r H'=>r=.int .i64 (lenB n:Int)/\H'=H) f H:=by
  intro m a hm ha he f f0 f2
  have hw:IntKind.i64.wrap ((a:Int)+16)=((a+16:Nat):Int):=by rw[show((a:Int)+16)=((a+16:Nat):Int) by simp];exact IntWalk.i64_in _ ⟨by omega,by omega⟩
  have hd:(m:Int)/2^16=((m/2^16:Nat):Int):=by simp
  simp only[go_sem,zS,↓reduceIte,Za,Zb,Zc,reduceCtorEq,kont_eq,f0,f2,tn_ofNat,hw,hd]
  refine iteV_dec (fun h=>?_) (fun h=>?_)
  ·have h:65536<=m:=by omega
   exact⟨by decide,third _ _ (by omega) (by omega) (by rw[he,lenB_div m 16 (by omega)];omega) _ rfl rfl⟩
  ·exact third m a (by omega) (by omega) he _ (by simp only[go_sem,zS,↓reduceIte,Za,Zb,Zc,reduceCtorEq,kont_eq,f0]) (by simp only[go_sem,zS,↓reduceIte,Za,Zb,Zc,reduceCtorEq,kont_eq,f2])
 have hd:(n:Int)/2^32=((n/2^32:Nat):Int):=by simp
 generalize hSND:S.seq (.seq (.reg [.p (.t 7) (.mv (.v 0)),.p (.v 8) (.cm .geq .u64 (.t 7) (.c (.int .u64 65536)))]) (.ite (.v 8) (.seq (.reg [.p (.t 9) (.mv (.v 0)),.p (.t 10) (.sh .shr .u64 (.t 9) (.c (.int .u64 16))),.p (.v 0) (.mv (.t 10))]) (.reg [.p (.t 11) (.mv (.v 2)),.p (.t 12) (.ar .add .i64 (.t 11) (.c (.int .i64 16))),.p (.v 2) (.mv (.t 12))])) .skip)) TRD=SND at second⊢
 simp only[go_sem,zS,↓reduceIte,Za,Zb,Zc,reduceCtorEq,kont_eq,tn_ofNat,hd]
 refine iteV_dec (fun h=>?_) (fun h=>?_)
 ·have h:4294967296<=n:=by omega
  exact⟨by decide,second _ _ (by show n/4294967296<4294967296;omega) (by omega) (lenB_div n 32 (by show 4294967296<=n;exact h)) _ rfl rfl⟩
 ·exact second n 0 (by omega) (by omega) (by omega) _ (by simp only[go_sem,zS,↓reduceIte,Za,Zb,Zc,reduceCtorEq,kont_eq]) (by simp only[go_sem,zS,↓reduceIte,Za,Zb,Zc,reduceCtorEq,kont_eq];rfl)
end Go.Mg
namespace Go.Mg
open Go Go.RowKit
set_option linter.all false
set_option maxRecDepth 100000
def c_bword (ι:Ids):S:=
 kY [kR 2 (ι.t 128) 0,kC 4 (.int .u64 0)] (.seq (kY [kA 5 1,kG 6 0 2,kD 7 6,kL 8 7,kV 9 (.cm .lss .i64 (.t 5) (.t 8))] (.ite (.v 9) (kY [kG 10 0 2,kD 11 10,kA 12 1,kI 13 1 11 12,kD 14 13,kB 4 14] .ret) .skip)) (kY [kC 4 (.int .u64 0)] .ret))
def r_bword:List RV:=[.t 4]
def c_bhas (ι:Ids):S:=
 kY [kR 2 (ι.t 128) 0,kC 4 (.bool false)] (kY [kA 5 1,kU 6 (.cm .geq .i64 (.t 5) (.c (.int .i64 0))),kF 7 6,kS 8 7 true 1,kT 9 7 true (.cm .leq .i64 (.t 8) (.c (.int .i64 4095))),kJ 10 7 9,kF 11 10,kT 12 11 true (.m (.ldn 1 (.v 2))),kS 13 11 true 1,kT 14 11 true (.dv .quo .i64 (.t 13) (.c (.int .i64 64))),.ge (.t 15) (.t 11) true (.call (ι.f 129) [.t 12,.t 14]),kS 16 11 true 1,kT 17 11 true (.dv .rem .i64 (.t 16) (.c (.int .i64 64))),kT 18 11 true (.sh .shr .u64 (.t 15) (.t 17)),kT 19 11 true (.bt .and .u64 (.t 18) (.c (.int .u64 1))),kT 20 11 true (.cm .eql .u64 (.t 19) (.c (.int .u64 1))),kJ 21 11 20,kB 4 21] .ret)
def r_bhas:List RV:=[.t 4]
def c_bwith (ι:Ids):S:=
 kY [kR 2 (ι.t 128) 0,.e (.v 4) (.new (ι.t 128) #[kZ])] (.seq (kY [kA 6 1,kU 7 (.cm .lss .i64 (.t 6) (.c (.int .i64 0))),kF 8 7,kS 9 8 false 1,kT 10 8 false (.cm .gtr .i64 (.t 9) (.c (.int .i64 4095))),kU 11 (.pick (.t 8) (.c (.bool true)) (.t 10)),kF 12 11,kT 13 12 false (.m (.ldn 1 (.v 2))),kS 14 12 false 1,.ge (.t 15) (.t 12) false (.call (ι.f 130) [.t 13,.t 14]),kV 16 (.pick (.t 12) (.c (.bool true)) (.t 15))] (.ite (.v 16) (kY [kM 17 1 2,.e .no (.stn 1 (.v 4) (.t 17))] .ret) .skip)) (kY [kG 18 0 2,kD 19 18,kL 20 19,kA 21 1,kU 22 (.dv .quo .i64 (.t 21) (.c (.int .i64 64))),kU 23 (.ar .add .i64 (.t 22) (.c (.int .i64 1))),kU 24 (.m (.mx (.t 20) (.t 23))),.e (.t 25) (.mkS (ι.t 28) 1 8 #[.int .u64 0] (.t 24) (.t 24)),kB 5 25] (kY [kA 26 5,kG 27 0 2,kD 28 27,.e (.t 29) (.cpy false 1 (.t 26) (.t 28))] (kY [kA 30 5,kA 31 1,kU 32 (.dv .quo .i64 (.t 31) (.c (.int .i64 64))),kI 33 1 30 32,kD 34 33,kA 35 1,kU 36 (.dv .rem .i64 (.t 35) (.c (.int .i64 64))),kU 37 (.sh .shl .u64 (.c (.int .u64 1)) (.t 36)),kU 38 (.bt .or .u64 (.t 34) (.t 37)),kI 39 1 30 32,.e .no (.st (.t 39) (.t 38))] (kY [kA 40 5,kU 41 (.m (.bld #[kZ] [(0,(1,.t 40))])),.e .no (.stn 1 (.v 4) (.t 41))] .ret)))))
def r_bwith:List RV:=[.cn 4 1]
def c_bor (ι:Ids):S:=
 kY [kR 2 (ι.t 128) 0,kR 3 (ι.t 128) 1,.e (.v 4) (.new (ι.t 128) #[kZ])] (kY [kG 7 0 2,kD 8 7,kL 9 8,kG 10 0 3,kD 11 10,kL 12 11,kU 13 (.m (.mx (.t 9) (.t 12))),.e (.t 14) (.mkS (ι.t 28) 1 8 #[.int .u64 0] (.t 13) (.t 13)),kB 5 14] (.seq (kY [kA 15 5,kV 16 (.m (.lenl (.t 15))),kC 17 (.int .i64 0)] (.blk 0 (.loop (kY [kH 18 17 16] (.seq (.ite (.v 18) .skip (.exit 0)) (.seq (.blk 1 (kY [kA 19 17,kB 6 19] (.dr (kW 20 (.mv (.v 5)) (kW 21 (.mv (.v 6)) (kW 22 (.m (.ldn 1 (.v 2))) (kW 23 (.mv (.v 6)) (kW 25 (.m (.ldn 1 (.v 3))) (kW 26 (.mv (.v 6)) (.wcons (.t 24) .none (.call (ι.f 129) [.t 22,.t 23]) (.wcons (.t 27) .none (.call (ι.f 129) [.t 25,.t 26]) (kW 28 (.bt .or .u64 (.t 24) (.t 27)) (kW 29 (.is 1 (.t 20) (.t 21)) (.wcons .no .none (.st (.t 29) (.t 28)) .done .wnil))) .wnil) .wnil)))))))))) (.reg [ke 30 17,kB 17 30]))))))) (kY [kA 31 5,kU 32 (.m (.bld #[kZ] [(0,(1,.t 31))])),.e .no (.stn 1 (.v 4) (.t 32))] .ret)))
def r_bor:List RV:=[.cn 4 1]
def c_bempty (ι:Ids):S:=
 kY [kR 1 (ι.t 128) 0,kC 2 (.bool false)] (kY [kG 3 0 1,kD 4 3,kL 5 4,kU 6 (.cm .eql .i64 (.t 5) (.c (.int .i64 0))),kB 2 6] .ret)
def r_bempty:List RV:=[.t 2]
def c_bgreat (ι:Ids):S:=
 kY [kR 1 (ι.t 128) 0,kC 2 (.int .i64 0),kC 3 (.bool false)] (.seq (kY [kM 5 1 1,.e (.v 6) (.call (ι.f 133) [.t 5])] (.ite (.v 6) (kY [kC 2 (.int .i64 0),kC 3 (.bool false)] .ret) .skip)) (kY [kG 7 0 1,kD 8 7,kL 9 8,kU 10 (.ar .sub .i64 (.t 9) (.c (.int .i64 1))),kB 4 10] (kY [kA 11 4,kU 12 (.ar .mul .i64 (.c (.int .i64 64)) (.t 11)),kG 13 0 1,kD 14 13,kA 15 4,kI 16 1 14 15,kD 17 16,.e (.t 18) (.call (ι.f 127) [.t 17]),kU 19 (.ar .add .i64 (.t 12) (.t 18)),kU 20 (.ar .sub .i64 (.t 19) (.c (.int .i64 1))),kB 2 20,kC 3 (.bool true)] .ret)))
def r_bgreat:List RV:=[.t 2,.t 3]
def c_blen (ι:Ids):S:=
 kY [kR 1 (ι.t 128) 0,kC 2 (.int .i64 0)] (kY [kC 3 (.int .i64 0)] (.seq (kY [kG 6 0 1,kV 7 (.ld (.t 6)),kO 8 7,kC 9 (.int .i64 0)] (.blk 0 (.loop (kY [kH 10 9 8] (.seq (.ite (.v 10) .skip (.exit 0)) (.seq (.blk 1 (kY [kK 11 1 7 9,kD 12 11,kB 5 12] (.reg [kA 13 3,kA 14 5,.e (.t 15) (.call (ι.f 124) [.t 14]),kU 16 (.ar .add .i64 (.t 13) (.t 15)),kB 3 16]))) (.reg [ke 17 9,kB 9 17]))))))) (kY [kA 18 3,kB 2 18] .ret)))
def r_blen:List RV:=[.t 2]
theorem w64_a1 (l:List UInt64):all1 (w64 l).toArray:=by
 intro x hx
 simp[w64]at hx
 obtain⟨y,_,rfl⟩:=hx;rfl
theorem w64_rep (n:Nat):List.replicate n (Value.int .u64 0)=w64 (List.replicate n 0):=by simp[w64]
theorem w64_app (a b:List UInt64):w64 (a++b)=w64 a++w64 b:=by simp[w64]
theorem w64_take (a:List UInt64) (n:Nat):(w64 a).take n=w64 (a.take n):=by simp[w64]
theorem w64_drop (a:List UInt64) (n:Nat):(w64 a).drop n=w64 (a.drop n):=by simp[w64]
structure SetV (H:Hp) (v:Value) (W:List UInt64) (p:Nat->Bool):Prop where
 sl:SlR H v (w64 W)
 len:W.length<=64
 can:Can W
 is:∀n,memb W n=p n
variable {X:Nat->Prop} {H H':Hp} {v x:Value} {W:List UInt64} {p:Nat->Bool} {n b:Nat} {k:FuncId} {P:Program} {ι:Ids}
theorem SetV.keep (h:SetV H v W p) (hk:Keep X H H') (hw:∀k,slB v k->¬X k):SetV H' v W p:=⟨h.sl.keep hk hw,h.len,h.can,h.is⟩
theorem SetV.lt (h:SetV H v W p) (hp:p n=true):n<64*W.length:=by
 apply Decidable.byContradiction
 intro hn
 rw[<-h.is,memb_ge (by omega)]at hp;cases hp
theorem SetV.lt' (h:SetV H v W p) (hp:p n=true):n<4096:=by
 have:=h.lt hp;have:=h.len;omega
def SetM (H:Hp) (x:Value) (p:Nat->Bool):Prop:=∃v W,x=.agg #[v]/\SetV H v W p
def setB:Value->Nat->Prop
 |.agg cs,k=>slB (cs.getD 0 undef) k
 |_,_=>False
theorem SetM.keep (h:SetM H x p) (hk:Keep X H H') (hw:∀k,setB x k->¬X k):SetM H' x p:=by
 obtain⟨v,W,rfl,hv⟩:=h;exact⟨v,W,rfl,hv.keep hk hw⟩
theorem SetM.keep0 (h:SetM H x p) (hk:Keep (fun _=>False) H H'):SetM H' x p:=h.keep hk (fun _ _ h=>h)
theorem SetM.old (h:SetM H x p) {k:Nat} (hk:setB x k):k<H.size:=by
 obtain⟨v,W,rfl,hv⟩:=h;exact hv.sl.old hk
theorem SetM.lt (h:SetM H x p) (hp:p n=true):n<4096:=by
 obtain⟨v,W,rfl,hv⟩:=h;exact hv.lt' hp
theorem SetM.congr {q:Nat->Bool} (h:SetM H x p) (e:∀n,p n=q n):SetM H x q:=by
 obtain⟨v,W,rfl,hv⟩:=h;exact⟨v,W,rfl,hv.sl,hv.len,hv.can,fun n=>(hv.is n).trans (e n)⟩
theorem SetM.empty (H:Hp) (a:Option Addr) (c:Nat):SetM H (.agg #[.slice a 0 c]) (fun _=>false):=
 ⟨_,[],rfl,SlR.nil _ _ _,by simp,fun h=>absurd rfl h,fun n=>memb_ge (by simp)⟩
theorem fillV_nil (r:A->Value) (C:Array Value):fillV r C []=C:=rfl
theorem fillV_cons (r:A->Value) (C:Array Value) (off size:Nat) (a:A) (l:List (Nat×Nat×A)):fillV r C ((off,size,a)::l)=fillV r (wrA C off (r a).cells.toList) l:=rfl
theorem okFill_nil (r:A->Value) (n:Nat):okFill r n []=True:=rfl
theorem okFill_cons (r:A->Value) (n off size:Nat) (a:A) (l:List (Nat×Nat×A)):okFill r n ((off,size,a)::l)=((r a).cells.size=size/\off+size<=n/\okFill r n l):=rfl
theorem cells_slice (a:Option Addr) (l c:Nat):(Value.slice a l c).cells=#[.slice a l c]:=rfl
theorem cells_int (k:IntKind) (n:Int):(Value.int k n).cells=#[.int k n]:=rfl
theorem cells_bool (b:Bool):(Value.bool b).cells=#[.bool b]:=rfl
theorem cells_str (b:ByteArray):(Value.string b).cells=#[.string b]:=rfl
theorem cells_ptr (b:Option Addr):(Value.pointer b).cells=#[.pointer b]:=rfl
theorem wrA1 (z x:Value):wrA #[z] 0 [x]=#[x]:=rfl
theorem wrA20 (z y x:Value):wrA #[z,y] 0 [x]=#[x,y]:=rfl
theorem wrA21 (z y x:Value):wrA #[z,y] 1 [x]=#[z,x]:=rfl
theorem zF:(∀(r:A->Value) (C:Array Value),fillV r C []=C)/\(∀(r:A->Value) (C:Array Value) (off size:Nat) (a:A) (l:List (Nat×Nat×A)),fillV r C ((off,size,a)::l)=fillV r (wrA C off (r a).cells.toList) l)/\(∀(r:A->Value) (n:Nat),okFill r n []=True)∧
  (∀(r:A->Value) (n off size:Nat) (a:A) (l:List (Nat×Nat×A)),okFill r n ((off,size,a)::l)=((r a).cells.size=size/\off+size<=n/\okFill r n l))/\(∀(a:Option Addr) (l c:Nat),(Value.slice a l c).cells=#[.slice a l c])/\(∀(k:IntKind) (n:Int),(Value.int k n).cells=#[.int k n])∧
  (∀b:Bool,(Value.bool b).cells=#[.bool b])/\(∀b:ByteArray,(Value.string b).cells=#[.string b])/\(∀b:Option Addr,(Value.pointer b).cells=#[.pointer b])/\(∀C:Array Value,(Value.agg C).cells=C)/\(∀(H:Hp) (a:Addr) (xs:List Value),stNH H (.pointer (some a)) xs=stNA H a xs)∧
  (∀(H:Hp) (a:Addr) (n:Nat),okN H (.pointer (some a)) n=okNA H a n)/\(∀z x:Value,wrA #[z] 0 [x]=#[x])/\(∀z y x:Value,wrA #[z,y] 0 [x]=#[x,y])/\(∀z y x:Value,wrA #[z,y] 1 [x]=#[z,x]):=
 ⟨fillV_nil,fillV_cons,okFill_nil,okFill_cons,cells_slice,cells_int,cells_bool,cells_str,cells_ptr,cells_agg,stNH_ptr,okN_ptr,wrA1,wrA20,wrA21⟩
def WordSpec (P:Program) (k:FuncId):Prop:=∀(W:List UInt64) (v:Value) (i:Nat) (H:Hp),SlR H v (w64 W)->W.length<=64->i<1000->CallsM P k #[.agg #[v],.int .i64 i] H fun r H'=>r=.int .u64 (W.getD i 0).toNat/\Keep (fun _=>False) H H'
theorem bword_ok (hk:FnIs P k (c_bword ι) r_bword 2):WordSpec P k:=by
 intro W v i H hv hW hi
 refine calls_of_vc hk (args:=[_,_]) (by simp) ?_
 unfold c_bword r_bword kA kB kC kD kG kI kL kR kV kY
 simp only[go_sem,zS,↓reduceIte,Za,Zb,Zc,reduceCtorEq,cells_agg]
 refine kont_new fun H1 b1 e1 z1 B1 K1=>?_
 have hv1:=hv.keep K1 (by simp)
 have hl:=hv1.len
 simp only[go_sem,zS,↓reduceIte,Za,Zb,Zc,reduceCtorEq,kont_eq,B1.cell,hv1.isSl,hl,w64_len]
 refine iteV_dec (fun hlt=>?_) (fun hge=>?_)
 ·have hlt:i<W.length:=by omega
  obtain⟨b,o,c,rfl,-,hc⟩:=hv1.cells (by intro e;have h:=congrArg List.length e;rw[w64_len,List.length_nil]at h;omega)
  rw[w64_len]at hc
  have hci:=hc i hlt
  rw[w64_get _ _ hlt]at hci
  simp only[go_sem,zS,↓reduceIte,Za,Zb,Zc,reduceCtorEq,kont_eq,B1.cell,w64_len,hci,tn_cast]
  repeat' apply And.intro
  all_goals first|exact K1|trivial|omega
 ·have:W.getD i 0=0:=by rw[List.getD_eq_getElem?_getD,List.getElem?_eq_none (by omega)];rfl
  simp only[go_sem,zS,↓reduceIte,Za,Zb,Zc,reduceCtorEq,kont_eq,this]
  exact⟨rfl,K1⟩
theorem tdiv64 (n:Nat) (h:n<4096):IntKind.i64.wrap (Int.tdiv (n:Int) 64)=((n/64:Nat):Int):=by
 have:Int.tdiv (n:Int) 64=((n/64:Nat):Int):=rfl
 rw[this];exact IntWalk.i64_in _ ⟨by omega,by omega⟩
theorem tmod64 (n:Nat):Int.tmod (n:Int) 64=((n % 64:Nat):Int):=rfl
def memI (p:Nat->Bool) (i:Int):Bool:=decide (0<=i)&&decide (i<=4095)&&p i.toNat
def HasSpec (P:Program) (k:FuncId):Prop:=∀(p:Nat->Bool) (x:Value) (i:Int) (H:Hp),SetM H x p->CallsM P k #[x,.int .i64 i] H fun r H'=>r=.bool (memI p i)/\Keep (fun _=>False) H H'
theorem bhas_ok (hk:FnIs P k (c_bhas ι) r_bhas 2) (hw:WordSpec P (ι.f 129)):HasSpec P k:=by
 intro p x i H hx
 obtain⟨v,W,rfl,hv⟩:=hx
 refine calls_of_vc hk (args:=[_,_]) (by simp) ?_
 unfold c_bhas r_bhas kA kB kF kC kJ kR kS kT kU kY
 simp only[go_sem,zS,↓reduceIte,Za,Zb,Zc,reduceCtorEq,cells_agg]
 refine kont_new fun H1 b1 e1 z1 B1 K1=>?_
 have hv1:=hv.keep K1 (by simp)
 by_cases h0:(0:Int)<=i<;>by_cases h1:i<=4095
 ·obtain⟨n,rfl⟩:=Int.eq_ofNat_of_zero_le h0
  have hn:n<4096:=by omega
  have h1':((n:Int)<=4095):=h1
  simp only[go_sem,zS,↓reduceIte,Za,Zb,Zc,reduceCtorEq,kont_eq,ge_iff_le,h0,h1',B1.ldNO 1 rfl,tdiv64 n hn]
  refine And.intro (by decide) ?_
  refine(hw W v (n/64) H1 hv1.sl hv1.len (by omega)).mono ?_
  rintro r H2 ⟨rfl,K2⟩
  have e:=and1 (W.getD (n/64) 0) (n % 64)
  have e2:bt (W.getD (n/64) 0) (n % 64)=p n:=hv.is n
  simp only[go_sem,zS,↓reduceIte,Za,Zb,Zc,reduceCtorEq,kont_eq,tmod64,tn_cast,e,e2,memI,h0,h1']
  have hm:(0:Int)<=((n % 64:Nat):Int)/\((n % 64:Nat):Int)<=64:=by omega
  cases p n<;>simp only[go_sem,zS,↓reduceIte,Za,Zb,Zc,reduceCtorEq,kont_eq,zU,Zf,Zg,if_true,if_false,Int.toNat_natCast]<;>(repeat' apply And.intro)<;>first|exact K1.trans K2|exact hm.1|(rfl)|omega|trivial
 all_goals
  simp only[go_sem,zS,↓reduceIte,Za,Zb,Zc,reduceCtorEq,kont_eq,ge_iff_le,h0,h1,memI,Bool.false_and,Bool.and_false]
  exact K1
theorem Can.of_top (h:W≠[]->∃n,memb W n=true/\64*(W.length -1)<=n):Can W:=by
 intro hW h0
 obtain⟨n,h1,h2⟩:=h hW
 have hl:0<W.length:=List.length_pos_iff.2 hW
 have hlt:n<64*W.length:=by
  apply Decidable.byContradiction
  intro hn
  rw[memb_ge (by omega)]at h1;cases h1
 unfold memb at h1
 have e:n/64=W.length -1:=by omega
 rw[e,List.getD_eq_getElem?_getD]at h1
 rw[List.getLast_eq_getElem]at h0
 have:W.length -1<W.length:=by omega
 simp[this,h0,bt_zero]at h1
theorem memb_set (W:List UInt64) {k:Nat} (x:UInt64) (hk:k<W.length) (n:Nat):memb (W.set k x) n=if n/64=k then bt x (n % 64)else memb W n:=by
 unfold memb
 rw[List.getD_eq_getElem?_getD,List.getElem?_set]
 by_cases e:n/64=k
 ·subst e;simp[hk]
 ·have:¬k=n/64:=fun h=>e h.symm
  rw[if_neg this,if_neg e,<-List.getD_eq_getElem?_getD]
theorem memb_pad (W:List UInt64) (m n:Nat):memb (W++List.replicate m 0) n=memb W n:=by
 unfold memb
 rw[List.getD_eq_getElem?_getD,List.getD_eq_getElem?_getD]
 by_cases h:n/64<W.length
 ·rw[List.getElem?_append_left h]
 ·rw[List.getElem?_append_right (by omega),List.getElem?_eq_none (l:=W) (by omega),List.getElem?_replicate]
  split<;>rfl
theorem shl1 (k:Nat) (hk:k<64):IntKind.u64.wrap (1*2^k)=((UInt64.ofNat (2^k)).toNat:Int):=by
 have hp:2^k<18446744073709551616:=Nat.pow_lt_pow_right (by omega) hk
 rw[UInt64.toNat_ofNat',Nat.mod_eq_of_lt hp,Int.one_mul]
 have:((2:Int)^k)=((2^k:Nat):Int):=by simp
 rw[this];exact u64_in _ hp
theorem or_orB (x:UInt64) (k:Nat) (hk:k<64):bits .or .u64 (x.toNat:Int) (IntKind.u64.wrap (1*2^k))=((orB x k).toNat:Int):=by
 rw[shl1 k hk];exact bits_or _ _
def withW (W:List UInt64) (n:Nat):List UInt64:=(W++List.replicate (max W.length (n/64+1) -W.length) 0).set (n/64) (orB (W.getD (n/64) 0) (n % 64))
theorem withW_len (W:List UInt64) (n:Nat):(withW W n).length=max W.length (n/64+1):=by
 unfold withW;rw[List.length_set,List.length_append,List.length_replicate];omega
theorem withW_mem (W:List UInt64) (n m:Nat):memb (withW W n) m=(memb W m||decide (m=n)):=by
 unfold withW
 rw[memb_set _ _ (by rw[List.length_append,List.length_replicate];omega),memb_pad]
 by_cases e:m/64=n/64
 ·rw[if_pos e,bt_orB _ (by omega)]
  have e1:memb W m=bt (W.getD (n/64) 0) (m % 64):=by unfold memb;rw[e]
  rw[e1]
  congr 1
  by_cases h:m % 64=n % 64
  ·have:m=n:=by omega
   simp[h,this]
  ·have:m≠n:=fun h'=>h (by rw[h'])
   simp[h,this]
 ·rw[if_neg e]
  have:m≠n:=fun h=>e (by rw[h])
  simp[this]
theorem withW_can (h:Can W) (n:Nat):Can (withW W n):=by
 refine Can.of_top fun _=>?_
 rw[withW_len]
 by_cases hl:W.length<=n/64
 ·exact⟨n,by rw[withW_mem];simp,by omega⟩
 ·obtain⟨m,h1,h2,_⟩:=h.top (by intro e;subst e;simp at hl)
  exact⟨m,by rw[withW_mem,h1];rfl,by omega⟩
def withP (p:Nat->Bool) (i:Int) (n:Nat):Bool:=p n||(decide ((n:Int)=i)&&decide (n<4096))
def BWithSpec (P:Program) (k:FuncId):Prop:=∀(p:Nat->Bool) (x:Value) (i:Int) (H:Hp),SetM H x p->CallsM P k #[x,.int .i64 i] H fun r H'=>SetM H' r (withP p i)/\Keep (fun _=>False) H H'/\∀k,setB r k->setB x k\/H.size<=k
theorem SlR.one {l:List Value} (h:SlR H v l):all1 #[v]:=by
 intro y hy
 simp at hy;subst hy
 obtain⟨a,c,rfl,_⟩:=h.mk;rfl
theorem ret1 {u:Value} {R:Value->Hp->Prop} (B:Bl H b [u]) (hs:all1 #[v]) (h:∀H',H'.size=H.size->Keep (fun k=>k=b) H H'->R (.agg #[v]) H'):
  (okNA H ⟨b,0,none⟩ 1/\all1 #[v])/\(ldNO (stNA H ⟨b,0,none⟩ [v]) (.pointer (some ⟨b,0,none⟩)) 1).isSome=true/\R (.agg ((ldNO (stNA H ⟨b,0,none⟩ [v]) (.pointer (some ⟨b,0,none⟩)) 1).getD #[])) (stNA H ⟨b,0,none⟩ [v]):=by
 have hB:Bl (stNA H ⟨b,0,none⟩ [v]) b [v]:=by
  have:=B.stNA 0 [v]
  simpa[wrL]using this
 refine⟨⟨B.okNA (o:=0) (n:=1) (by simp),hs⟩,?_⟩
 rw[hB.ldNO 1 rfl]
 exact⟨rfl,h _ (size_stNA _ _ _) ((Keep.refl _ _).stNA _ (.inl rfl))⟩
theorem Keep.to_old {A B C:Hp} (h:Keep (fun _=>False) A B) (k:Keep (fun k=>k=b) B C) (hb:A.size<=b):Keep (fun _=>False) A C:=h.trans' k (fun i hi e=>by omega)
theorem bwith_ok (hk:FnIs P k (c_bwith ι) r_bwith 2) (hh:HasSpec P (ι.f 130)):BWithSpec P k:=by
 intro p x i H hx
 obtain⟨v,W,rfl,hv⟩:=hx
 obtain⟨av,cv,rfl,hcv⟩:=hv.sl.mk
 rw[w64_len]at hv hcv⊢
 obtain⟨R,hR⟩:∃R:Value->Hp->Prop,R=fun r H'=>SetM H' r (withP p i)/\Keep (fun _=>False) H H'/\∀k,setB r k->setB (.agg #[.slice av W.length cv]) k\/H.size<=k:=⟨_,rfl⟩
 rw[<-hR]
 refine calls_of_vc hk (args:=[_,_]) (by simp) ?_
 unfold c_bwith r_bwith kA kB kF kD kG kI kL kM kR kS kT kU kV kY kZ
 simp only[go_sem,zS,↓reduceIte,Za,Zb,Zc,reduceCtorEq,cells_agg]
 refine kont_new fun H1 b1 e1 z1 B1 K1=>?_
 simp only[go_sem,zS,↓reduceIte,Za,Zb,Zc,reduceCtorEq]
 refine kont_new fun H2 b2 e2 z2 B2 K2=>?_
 have B1':=K2.bl B1 (by simp)
 have K12:=K1.trans K2
 have hv2:=hv.keep K12 (by simp)
 have hne:b1≠b2:=by omega
 have s1:=K1.size
 have s2:=K2.size
 -- the set as it was
 have same:∀H3,Keep (fun _=>False) H2 H3->(∀n,withP p i n=p n)->∀H4,Keep (fun k=>k=b2) H3 H4->R (.agg #[.slice av W.length cv]) H4:=by
  intro H3 K3 hp H4 K4
  have K:=(K12.trans K3).to_old K4 (by omega)
  rw[hR]
  exact⟨⟨_,W,rfl,hv.sl.keep K (by simp),hv.len,hv.can,fun n=>by rw[hp,hv.is]⟩,K,fun k h=>.inl h⟩
 have hp0:(i<0\/4095<i)->∀n,withP p i n=p n:=by
  intro h n
  unfold withP
  have:(decide ((n:Int)=i)&&decide (n<4096))=false:=by
   by_cases e:(n:Int)=i
   ·have:¬n<4096:=by omega
    simp[this]
   ·simp[e]
  rw[this,Bool.or_false]
 by_cases h0:i<0
 ·simp only[go_sem,zS,↓reduceIte,Za,Zb,Zc,reduceCtorEq,kont_eq,h0,B1'.ldNO 1 rfl,cells_agg,stNH_ptr,okN_ptr]
  exact ret1 B2 hv.sl.one fun H4 z K4=>same H2 (Keep.refl _ _) (hp0 (.inl h0)) H4 K4
 ·by_cases h1:(4095:Int)<i
  ·simp only[go_sem,zS,↓reduceIte,Za,Zb,Zc,reduceCtorEq,kont_eq,h0,h1,gt_iff_lt,B1'.ldNO 1 rfl,cells_agg,stNH_ptr,okN_ptr]
   exact ret1 B2 hv.sl.one fun H4 z K4=>same H2 (Keep.refl _ _) (hp0 (.inr h1)) H4 K4
  ·obtain⟨n,rfl⟩:=Int.eq_ofNat_of_zero_le (Int.not_lt.1 h0)
   have hn:n<4096:=by omega
   simp only[go_sem,zS,↓reduceIte,Za,Zb,Zc,reduceCtorEq,kont_eq,h0,h1,gt_iff_lt,B1'.ldNO 1 rfl,cells_agg]
   refine(hh p _ _ H2 ⟨_,W,rfl,hv2⟩).mono ?_
   rintro r H3 ⟨rfl,K3⟩
   have hm:memI p (n:Int)=p n:=by
    unfold memI
    have a1:(0:Int)<=(n:Int):=by omega
    have a2:(n:Int)<=4095:=by omega
    simp[a1,a2]
   simp only[hm]
   have B13:=K3.bl B1' (by simp)
   have B23:=K3.bl B2 (by simp)
   cases hpn:p n with
   |true=>
    have hpw:∀m,withP p (n:Int) m=p m:=by
     intro m
     unfold withP
     by_cases e:m=n
     ·subst e;rw[hpn];rfl
     ·have:¬(m:Int)=(n:Int):=by omega
      simp[this]
    simp only[go_sem,zS,↓reduceIte,Za,Zb,Zc,reduceCtorEq,kont_eq,B13.ldNO 1 rfl,cells_agg,stNH_ptr,okN_ptr]
    exact ret1 B23 hv.sl.one fun H4 z K4=>same H3 K3 hpw H4 K4
   |false=>
    have K13:=K12.trans K3
    have hv3:=hv.keep K13 (by simp)
    have hl:=hv3.sl.len
    have hq:n/64<64:=by omega
    have hlW:=hv.len
    have wq:IntKind.i64.wrap (((n/64:Nat):Int)+1)=((n/64+1:Nat):Int):=IntWalk.i64_in _ ⟨by omega,by omega⟩
    have hmx:(if((n/64+1:Nat):Int)>((W.length:Nat):Int)then((n/64+1:Nat):Int)else((W.length:Nat):Int))=((max W.length (n/64+1):Nat):Int):=by split<;>omega
    rw[kont_eq]
    simp only[go_sem,zS,↓reduceIte,Za,Zb,Zc,reduceCtorEq,B13.cell,hv3.sl.isSl,hl,w64_len,tdiv64 n hn,wq,hmx,tn_cast]
    generalize hM:max W.length (n/64+1)=M at*
    have hM64:M<=64:=by omega
    refine And.intro (by decide) ⟨⟨by omega,by omega,by unfold maxLen;omega⟩,?_⟩
    refine kont_news fun H4 b4 e4 z4 B4 K4=>?_
    have B4:Bl H4 b4 (w64 (List.replicate M 0)):=by
     have:=B4
     rw[rep_one]at this
     rw[w64_rep]at this;exact this
    have s3:=K3.size
    have s4:=K4.size
    have B14:=K4.bl B13 (by simp)
    have K14:=K13.trans K4
    have hv4:=hv.keep K14 (by simp)
    have hsrc:=hv4.sl.srcN (k:=W.length) (by rw[w64_len];exact Nat.le_refl _)
    rw[w64_take,List.take_length]at hsrc
    have hmin:min W.length M=W.length:=by omega
    simp only[go_sem,zS,↓reduceIte,Za,Zb,Zc,reduceCtorEq,kont_eq,B14.cell,hv4.sl.isSl,hv4.sl.lenS,w64_len,hmin]
    refine⟨_,hsrc,B4.okPut 0 0 (w64 W).toArray (w64_a1 _) (by simp[w64_len];omega),?_⟩
    have B5:=B4.put 0 0 (w64 W).toArray
    have K5:Keep (fun k=>k=b4) H4 (putH H4 (some ⟨b4,0,none⟩) 0 (w64 W).toArray):=(Keep.refl _ _).put rfl _ _ (.inl rfl)
    generalize putH H4 (some ⟨b4,0,none⟩) 0 (w64 W).toArray=H5 at B5 K5⊢
    have hB5:wrL (w64 (List.replicate M 0)) (0+0) (w64 W).toArray.toList=w64 (W++List.replicate (M -W.length) 0):=by
     unfold wrL
     simp only[Nat.add_zero,List.take_zero,List.nil_append,Nat.zero_add,w64_len,w64_drop,List.drop_replicate,w64_app]
    rw[hB5]at B5
    have hln:(W++List.replicate (M -W.length) (0:UInt64)).length=M:=by rw[List.length_append,List.length_replicate];omega
    have hc5:cell H5 ⟨b4,n/64,none⟩=some (.int .u64 ((W.getD (n/64) 0).toNat:Int)):=by
     rw[B5.cell,w64_get _ _ (by omega)]
     congr 4
     rw[List.getD_eq_getElem?_getD,List.getD_eq_getElem?_getD]
     by_cases h:n/64<W.length
     ·rw[List.getElem?_append_left h]
     ·rw[List.getElem?_append_right (by omega),List.getElem?_eq_none (l:=W) (by omega),List.getElem?_replicate]
      split<;>rfl
    have hst:=B5.okSt (o:=n/64) (by rw[w64_len];omega)
    simp only[go_sem,zS,↓reduceIte,Za,Zb,Zc,reduceCtorEq,kont_eq,zF,hln,tmod64,tn_cast,tdiv64 n hn,Nat.mul_one,hc5,or_orB _ (n % 64) (by omega),hst]
    have B6:=B5.setc (n/64) (.int .u64 ((orB (W.getD (n/64) 0) (n % 64)).toNat:Int))
    rw[w64_set _ _ (by omega)]at B6
    have hW':(W++List.replicate (M -W.length) 0).set (n/64) (orB (W.getD (n/64) 0) (n % 64))=withW W n:=by unfold withW;rw[hM]
    rw[hW']at B6
    have K6:Keep (fun k=>k=b4) H5 (setc H5 ⟨b4,n/64,none⟩ (.int .u64 ((orB (W.getD (n/64) 0) (n % 64)).toNat:Int))):=(Keep.refl _ _).setc _ (.inl rfl)
    generalize setc H5 ⟨b4,n/64,none⟩ (.int .u64 ((orB (W.getD (n/64) 0) (n % 64)).toNat:Int))=H6 at B6 K6⊢
    have B26:Bl H6 b2 [.slice none 0 0]:=K6.bl (K5.bl (K4.bl B23 (by simp)) (by omega)) (by omega)
    have hwl:=withW_len W n
    rw[hM]at hwl
    have hpos:64≠0:=by decide
    have hKf:Keep (fun _=>False) H H6:=((K14.to_old K5 (by omega)).to_old K6 (by omega))
    refine⟨by decide,by omega,by decide,by omega,by omega,by decide,ret1 B26 ?_ fun H7 z7 K7=>?_⟩
    ·intro y hy;simp at hy;subst hy;rfl
    ·have B7:=K7.bl B6 (by omega)
     have hs:=SlR.bl B7 0 M M (Nat.le_refl _) (by rw[w64_len];omega)
     rw[List.drop_zero,w64_take,List.take_of_length_le (by omega)]at hs
     rw[hR]
     refine⟨⟨_,withW W n,rfl,hs,by omega,withW_can hv.can n,fun m=>?_⟩,hKf.to_old K7 (by omega),fun k h=>.inr ?_⟩
     ·rw[withW_mem,hv.is]
      unfold withP
      congr 1
      by_cases e:m=n
      ·subst e;simp[hn]
      ·have:¬(m:Int)=(n:Int):=by omega
       simp[this,e]
     ·have:k=b4:=h.1
      omega
def orW (A B:List UInt64) (m:Nat):List UInt64:=(List.range m).map fun k=>A.getD k 0|||B.getD k 0
theorem orW_len (A B:List UInt64) (m:Nat):(orW A B m).length=m:=by simp[orW]
theorem orW_mem (A B:List UInt64) (n:Nat):memb (orW A B (max A.length B.length)) n=(memb A n||memb B n):=by
 unfold memb orW
 rw[List.getD_eq_getElem?_getD,List.getElem?_map]
 by_cases h:n/64<max A.length B.length
 ·rw[List.getElem?_range h]
  simp only[Option.map_some,Option.getD_some]
  unfold bt;rw[UInt64.toNat_or,Nat.testBit_or]
 ·rw[List.getElem?_eq_none (by simp;omega)]
  rw[List.getD_eq_getElem?_getD,List.getElem?_eq_none (by omega),List.getD_eq_getElem?_getD,List.getElem?_eq_none (by omega)]
  simp[bt_zero]
theorem orW_can {A B:List UInt64} (ha:Can A) (hb:Can B):Can (orW A B (max A.length B.length)):=by
 refine Can.of_top fun hne=>?_
 rw[orW_len]
 by_cases h:B.length<=A.length
 ·have hA:A≠[]:=by
   intro e;subst e
   apply hne
   have:B=[]:=List.eq_nil_of_length_eq_zero (by simpa using h)
   subst this;rfl
  obtain⟨n,h1,h2,_⟩:=ha.top hA
  exact⟨n,by rw[orW_mem,h1];rfl,by omega⟩
 ·have hB:B≠[]:=by
   intro e;subst e
   simp at h
  obtain⟨n,h1,h2,_⟩:=hb.top hB
  exact⟨n,by rw[orW_mem,h1,Bool.or_true],by omega⟩
def BOrSpec (P:Program) (k:FuncId):Prop:=∀(p q:Nat->Bool) (x y:Value) (H:Hp),SetM H x p->SetM H y q->CallsM P k #[x,y] H fun r H'=>SetM H' r (fun n=>p n||q n)/\Keep (fun _=>False) H H'/\∀k,setB r k->H.size<=k
theorem orW_upd (A B:List UInt64) (k m:Nat) (hk:k<m):(orW A B k++List.replicate (m -k) 0).set k (A.getD k 0|||B.getD k 0)=orW A B (k+1)++List.replicate (m -(k+1)) 0:=by
 rw[List.set_append_right _ _ (by rw[orW_len];exact Nat.le_refl _),orW_len,Nat.sub_self]
 have:m -k=(m -(k+1))+1:=by omega
 rw[this,List.replicate_succ]
 simp[orW,List.range_succ]
theorem bor_ok (hk:FnIs P k (c_bor ι) r_bor 2) (hw:WordSpec P (ι.f 129)):BOrSpec P k:=by
 intro p q x y H hx hy
 obtain⟨v,A,rfl,hv⟩:=hx
 obtain⟨u,B,rfl,hu⟩:=hy
 obtain⟨R,hR⟩:∃R:Value->Hp->Prop,R=fun r H'=>SetM H' r (fun n=>p n||q n)/\Keep (fun _=>False) H H'/\∀k,setB r k->H.size<=k:=⟨_,rfl⟩
 rw[<-hR]
 refine calls_of_vc hk (args:=[_,_]) (by simp) ?_
 unfold c_bor r_bor kA kB kC kD ke kG kH kL kR kU kV kW kY kZ
 simp only[go_sem,zS,↓reduceIte,Za,Zb,Zc,reduceCtorEq,cells_agg]
 refine kont_new fun H1 b1 e1 z1 B1 K1=>?_
 simp only[go_sem,zS,↓reduceIte,Za,Zb,Zc,reduceCtorEq,cells_agg]
 refine kont_new fun H2 b2 e2 z2 B2 K2=>?_
 simp only[go_sem,zS,↓reduceIte,Za,Zb,Zc,reduceCtorEq]
 refine kont_new fun H3 b3 e3 z3 B3 K3=>?_
 have s1:=K1.size
 have s2:=K2.size
 have s3:=K3.size
 have K123:=(K1.trans K2).trans K3
 have B13:=K3.bl (K2.bl B1 (by simp)) (by simp)
 have B23:=K3.bl B2 (by simp)
 have hv3:=hv.keep K123 (by simp)
 have hu3:=hu.keep K123 (by simp)
 have lA:=hv.len
 have lB:=hu.len
 have hmx:(if((B.length:Nat):Int)>((A.length:Nat):Int)then((B.length:Nat):Int)else((A.length:Nat):Int))=((max A.length B.length:Nat):Int):=by split<;>omega
 simp only[go_sem,zS,↓reduceIte,Za,Zb,Zc,reduceCtorEq,B13.cell,B23.cell,hv3.sl.isSl,hu3.sl.isSl,hv3.sl.len,hu3.sl.len,w64_len,hmx]
 generalize hM:max A.length B.length=M at*
 have hM64:M<=64:=by omega
 refine⟨⟨by omega,by omega,by unfold maxLen;omega⟩,?_⟩
 refine kont_news fun H4 b4 e4 z4 B4 K4=>?_
 have s4:=K4.size
 have B4:Bl H4 b4 (w64 (List.replicate M 0)):=by
  have:=B4
  rw[rep_one,w64_rep]at this;exact this
 have B14:=K4.bl B13 (by simp)
 have B24:=K4.bl B23 (by simp)
 have B34:=K4.bl B3 (by simp)
 have K14:=K123.trans K4
 simp only[go_sem,zS,↓reduceIte,Za,Zb,Zc,reduceCtorEq,kont_eq,tn_cast]
 refine vc_loop [18,6,17] rfl (fun n f H'=>∃i,i<=M/\n=M -i/\f 17=.int .i64 i/\Bl H' b4 (w64 (orW A B i++List.replicate (M -i) 0))/\Keep (fun k=>k=b4) H4 H') M
  ⟨0,by omega,by omega,rfl,by simpa[orW]using B4,Keep.refl _ _⟩ ?_
 rintro n g H5 ⟨i,hi,rfl,hf,B5,K5⟩
 have s5:=K5.size
 simp only[go_sem,zS,↓reduceIte,Za,Zb,Zc,reduceCtorEq,kont_eq]at hf
 simp only[go_sem,zS,↓reduceIte,Za,Zb,Zc,reduceCtorEq,kont_eq,hf]
 refine iteV_dec (fun hlt=>?_) (fun hge=>?_)
 ·have hlt:i<M:=by omega
  have B15:=K5.bl B14 (by omega)
  have B25:=K5.bl B24 (by omega)
  refine vc_drk (fun k=>k=b4) ?_
  have n1:¬b1=b4:=by omega
  have n2:¬b2=b4:=by omega
  have hv5:SetV H5 v A p:=hv.keep (K14.to_old K5 (by omega)) (by simp)
  have hu5:SetV H5 u B q:=hu.keep (K14.to_old K5 (by omega)) (by simp)
  simp only[go_sem,zS,↓reduceIte,Za,Zb,Zc,reduceCtorEq,kont_eq,n1,n2,B15.ldNO 1 rfl,B25.ldNO 1 rfl,cells_agg]
  refine(hw A v i H5 hv5.sl hv5.len (by omega)).mono ?_
  rintro r H6 ⟨rfl,K6⟩
  have s6:=K6.size
  have B26:=K6.bl B25 (by simp)
  simp only[go_sem,zS,↓reduceIte,Za,Zb,Zc,reduceCtorEq,kont_eq,n2,B26.ldNO 1 rfl,cells_agg]
  refine⟨K6.any,?_⟩
  refine(hw B u i H6 (hu5.sl.keep K6 (by simp)) hu5.len (by omega)).mono ?_
  rintro r H7 ⟨rfl,K7⟩
  have B57:=K7.bl (K6.bl B5 (by simp)) (by simp)
  have hln:(w64 (orW A B i++List.replicate (M -i) 0)).length=M:=by rw[w64_len,List.length_append,orW_len,List.length_replicate];omega
  have hst:=B57.okSt (o:=i) (by rw[hln];exact hlt)
  have hor:=bits_or (A.getD i 0) (B.getD i 0)
  simp only[go_sem,zS,↓reduceIte,Za,Zb,Zc,reduceCtorEq,kont_eq,hor,tn_cast,Nat.mul_one,hst]
  refine⟨K7.any,by omega,(Keep.refl _ _).setc _ (.inl rfl),?_⟩
  have B8:=B57.setc i (.int .u64 ((A.getD i 0|||B.getD i 0).toNat:Int))
  rw[w64_set _ _ (by rw[<-w64_len,hln];exact hlt),orW_upd A B i M hlt]at B8
  simp(disch:=omega)only[go_sem,zS,↓reduceIte,Za,Zb,Zc,reduceCtorEq,kont_eq,hf,IntWalk.i64_in]
  have KK:Keep (fun k=>k=b4) H4 (setc H7 ⟨b4,i,none⟩ (.int .u64 ((A.getD i 0|||B.getD i 0).toNat:Int))):=(((K5.trans K6.any).trans K7.any)).setc _ (.inl rfl)
  exact⟨M -(i+1),by omega,i+1,by omega,rfl,by simp,B8,KK⟩
 ·have hiM:i=M:=by omega
  subst hiM
  have hB5:Bl H5 b4 (w64 (orW A B i)):=by
   have:=B5
   rw[Nat.sub_self]at this
   simpa using this
  have B35:=K5.bl B34 (by omega)
  simp only[go_sem,zS,↓reduceIte,Za,Zb,Zc,reduceCtorEq,kont_eq,zF]
  refine⟨by decide,ret1 B35 ?_ fun H7 z7 K7=>?_⟩
  ·intro y hy;simp at hy;subst hy;rfl
  ·have B7:=K7.bl hB5 (by omega)
   have hs:=SlR.bl B7 0 i i (Nat.le_refl _) (by rw[w64_len,orW_len];omega)
   rw[List.drop_zero,w64_take,List.take_of_length_le (by rw[orW_len];omega)]at hs
   have hc:=orW_can hv.can hu.can
   have hm:=fun n=>orW_mem A B n
   rw[hM]at hc hm
   rw[hR]
   refine⟨⟨_,orW A B i,rfl,⟨hs,by rw[orW_len];omega,hc,fun n=>?_⟩⟩,(K14.to_old K5 (by omega)).to_old K7 (by omega),fun k h=>?_⟩
   ·rw[hm,hv.is,hu.is]
   ·have:k=b4:=h.1
    omega
def BEmptySpec (P:Program) (k:FuncId):Prop:=∀(p:Nat->Bool) (v:Value) (W:List UInt64) (H:Hp),SetV H v W p->CallsM P k #[.agg #[v]] H fun r H'=>r=.bool (decide (W=[]))/\Keep (fun _=>False) H H'
theorem bempty_ok (hk:FnIs P k (c_bempty ι) r_bempty 1):BEmptySpec P k:=by
 intro p v W H hv
 refine calls_of_vc hk (args:=[_]) (by simp) ?_
 unfold c_bempty r_bempty kB kC kD kG kL kR kU kY
 simp only[go_sem,zS,↓reduceIte,Za,Zb,Zc,reduceCtorEq,cells_agg]
 refine kont_new fun H1 b1 e1 z1 B1 K1=>?_
 have hv1:=hv.keep K1 (by simp)
 simp only[go_sem,zS,↓reduceIte,Za,Zb,Zc,reduceCtorEq,kont_eq,B1.cell,hv1.sl.isSl,hv1.sl.len,w64_len]
 have:(((W.length:Nat):Int)==0)=decide (W=[]):=by
  cases W with
  |nil=>rfl
  |cons a l=>simp;omega
 rw[this]
 exact⟨rfl,K1⟩
theorem SetV.nil_iff (h:SetV H v W p):W=[]↔∀n,p n=false:=by
 constructor
 ·intro e n
  subst e
  rw[<-h.is,memb_ge (by simp)]
 ·intro e
  apply Classical.byContradiction
  intro hW
  obtain⟨n,h1,_⟩:=h.can.top hW
  rw[h.is,e]at h1;cases h1
def Top (p:Nat->Bool) (t:Nat):Prop:=p t=true/\∀n,p n=true->n<=t
theorem lenB_top {x:UInt64} (h:x≠0):1<=lenB x.toNat/\lenB x.toNat<=64/\bt x (lenB x.toNat -1)=true/\∀k,bt x k=true->k<lenB x.toNat:=by
 have h0:x.toNat≠0:=fun e=>h (UInt64.toNat_inj.1 (by simpa using e))
 have hx:=x.toNat_lt
 have e1:=Nat.log2_self_le h0
 have e2:x.toNat<2^(x.toNat.log2+1):=(Nat.log2_lt h0).1 (by omega)
 have hl:lenB x.toNat=x.toNat.log2+1:=by unfold lenB;rw[if_neg h0]
 have e3:x.toNat.log2<64:=(Nat.log2_lt h0).2 hx
 rw[hl]
 refine⟨by omega,by omega,?_,fun k hk=>?_⟩
 ·unfold bt
  rw[Nat.add_sub_cancel,Nat.testBit_eq_decide_div_mod_eq,decide_eq_true_eq]
  have:x.toNat/2^x.toNat.log2=1:=by
   refine Nat.div_eq_of_lt_le ?_ ?_
   ·rw[Nat.one_mul];exact e1
   ·rw[Nat.pow_succ]at e2;omega
  rw[this]
 ·apply Decidable.byContradiction
  intro hn
  unfold bt at hk
  rw[Nat.testBit_lt_two_pow (Nat.lt_of_lt_of_le e2 (Nat.pow_le_pow_right (by omega) (by omega)))]at hk
  cases hk
def BGreatSpec (P:Program) (k:FuncId):Prop:=∀(p:Nat->Bool) (x:Value) (H:Hp),SetM H x p->CallsM P k #[x] H fun r H'=>((r=.tuple #[.int .i64 0,.bool false]/\∀n,p n=false)\/∃t:Nat,r=.tuple #[.int .i64 t,.bool true]/\Top p t)/\Keep (fun _=>False) H H'
theorem bgreat_ok (hk:FnIs P k (c_bgreat ι) r_bgreat 1) (he:BEmptySpec P (ι.f 133)) (hl:LenSpec P (ι.f 127)):BGreatSpec P k:=by
 intro p x H hx
 obtain⟨v,W,rfl,hv⟩:=hx
 refine calls_of_vc hk (args:=[_]) (by simp) ?_
 unfold c_bgreat r_bgreat kA kB kC kD kG kI kL kM kR kU kY
 simp only[go_sem,zS,↓reduceIte,Za,Zb,Zc,reduceCtorEq,cells_agg]
 refine kont_new fun H1 b1 e1 z1 B1 K1=>?_
 have hv1:=hv.keep K1 (by simp)
 simp only[go_sem,zS,↓reduceIte,Za,Zb,Zc,reduceCtorEq,kont_eq,B1.ldNO 1 rfl]
 refine(he p v W H1 hv1).mono ?_
 rintro r H2 ⟨rfl,K2⟩
 have B2:=K2.bl B1 (by simp)
 have hv2:=hv1.keep K2 (by simp)
 by_cases hW:W=[]
 ·simp only[go_sem,zS,↓reduceIte,Za,Zb,Zc,reduceCtorEq,kont_eq,hW]
  exact⟨.inl (hv.nil_iff.1 hW),K1.trans K2⟩
 ·have hpos:0<W.length:=List.length_pos_iff.2 hW
  have hlen:=hv.len
  obtain⟨b,o,c,rfl,-,hc⟩:=hv2.sl.cells (by intro e;have h:=congrArg List.length e;rw[w64_len,List.length_nil]at h;omega)
  rw[w64_len]at hc⊢
  have hci:=hc (W.length -1) (by omega)
  rw[w64_get _ _ (by omega)]at hci
  have w1:IntKind.i64.wrap (((W.length:Nat):Int) -1)=((W.length -1:Nat):Int):=by rw[show(((W.length:Nat):Int) -1)=((W.length -1:Nat):Int) by omega];exact IntWalk.i64_in _ ⟨by omega,by omega⟩
  have w2:IntKind.i64.wrap (64*((W.length -1:Nat):Int))=((64*(W.length -1):Nat):Int):=by rw[show(64*((W.length -1:Nat):Int))=((64*(W.length -1):Nat):Int) by omega];exact IntWalk.i64_in _ ⟨by omega,by omega⟩
  simp only[go_sem,zS,↓reduceIte,Za,Zb,Zc,reduceCtorEq,kont_eq,hW,B2.cell,w64_len,w1,w2,tn_cast,Nat.mul_one,hci]
  refine⟨by omega,?_⟩
  refine(hl _ _).mono ?_
  rintro r H3 ⟨rfl,rfl⟩
  have hx0:W.getD (W.length -1) 0≠0:=by
   have:=hv.can hW
   rw[List.getLast_eq_getElem]at this
   rw[List.getD_eq_getElem?_getD,List.getElem?_eq_getElem (by omega)]
   exact this
  obtain⟨l1,l2,l3,l4⟩:=lenB_top hx0
  have w3:IntKind.i64.wrap (IntKind.i64.wrap (((64*(W.length -1):Nat):Int)+((lenB (W.getD (W.length -1) 0).toNat:Nat):Int)) -1)=((64*(W.length -1)+(lenB (W.getD (W.length -1) 0).toNat -1):Nat):Int):=by
   have w4:IntKind.i64.wrap (((64*(W.length -1):Nat):Int)+((lenB (W.getD (W.length -1) 0).toNat:Nat):Int))=((64*(W.length -1):Nat):Int)+((lenB (W.getD (W.length -1) 0).toNat:Nat):Int):=IntWalk.i64_in _ ⟨by omega,by omega⟩
   rw[w4,show((((64*(W.length -1):Nat):Int)+((lenB (W.getD (W.length -1) 0).toNat:Nat):Int)) -1)=((64*(W.length -1)+(lenB (W.getD (W.length -1) 0).toNat -1):Nat):Int) by omega]
   exact IntWalk.i64_in _ ⟨by omega,by omega⟩
  simp only[go_sem,zS,↓reduceIte,Za,Zb,Zc,reduceCtorEq,kont_eq,w3]
  refine⟨.inr ⟨_,rfl,?_,fun n hn=>?_⟩,K1.trans K2⟩
  ·rw[<-hv.is,memb_at _ _ _ (by omega)];exact l3
  ·have h1:=hv.lt hn
   rw[<-hv.is]at hn
   by_cases e:n/64=W.length -1
   ·unfold memb at hn
    rw[e]at hn
    have:=l4 _ hn
    omega
   ·omega
def BLenSpec (P:Program) (k:FuncId):Prop:=∀(p:Nat->Bool) (x:Value) (H:Hp),SetM H x p->CallsM P k #[x] H fun r H'=>r=.int .i64 ((mems p).length:Int)/\Keep (fun _=>False) H H'
theorem SetV.count (h:SetV H v W p):cn (64*W.length) p=(mems p).length:=by
 rw[mems_length]
 have:=h.len
 refine(cn_range (by omega) fun i h1 h2=>?_).symm
 rw[<-h.is,memb_ge h1]
theorem blen_ok (hk:FnIs P k (c_blen ι) r_blen 1) (ho:OnesSpec P (ι.f 124)):BLenSpec P k:=by
 intro p x H hx
 obtain⟨v,W,rfl,hv⟩:=hx
 refine calls_of_vc hk (args:=[_]) (by simp) ?_
 unfold c_blen r_blen kA kB kC kD ke kG kH kK kO kR kU kV kY
 simp only[go_sem,zS,↓reduceIte,Za,Zb,Zc,reduceCtorEq,cells_agg]
 refine kont_new fun H1 b1 e1 z1 B1 K1=>?_
 have hv1:=hv.keep K1 (by simp)
 have hlen:=hv.len
 simp only[go_sem,zS,↓reduceIte,Za,Zb,Zc,reduceCtorEq,kont_eq,B1.cell,hv1.sl.isSl,hv1.sl.len,w64_len]
 refine vc_loop [10,5,3,9] rfl (fun n f H'=>∃i,i<=W.length/\n=W.length -i/\f 9=.int .i64 i/\f 3=.int .i64 (cn (64*i) p:Int)/\H'=H1) W.length
  ⟨0,by omega,by omega,rfl,rfl,rfl⟩ ?_
 rintro n g H' ⟨i,hi,rfl,hf9,hf3,rfl⟩
 simp only[go_sem,zS,↓reduceIte,Za,Zb,Zc,reduceCtorEq,kont_eq]at hf9 hf3
 simp only[go_sem,zS,↓reduceIte,Za,Zb,Zc,reduceCtorEq,kont_eq,hf9]
 refine iteV_dec (fun hlt=>?_) (fun hge=>?_)
 ·have hlt:i<W.length:=by omega
  obtain⟨b,o,c,rfl,-,hc⟩:=hv1.sl.cells (by intro e;have h:=congrArg List.length e;rw[w64_len,List.length_nil]at h;omega)
  rw[w64_len]at hc
  have hci:=hc i hlt
  rw[w64_get _ _ hlt]at hci
  simp only[go_sem,zS,↓reduceIte,Za,Zb,Zc,reduceCtorEq,kont_eq,hf3,hf9,w64_len,tn_cast,Nat.mul_one,hci]
  refine⟨by omega,?_⟩
  refine(ho _ _).mono ?_
  rintro r H3 ⟨rfl,rfl⟩
  have hc1:cn (64*(i+1)) p=cn (64*i) p+cnt64 (W.getD i 0):=by
   rw[show 64*(i+1)=64*i+64 by omega,cn_add_n]
   congr 1
   exact cn_congr fun b hb=>by rw[<-hv.is,memb_at _ _ _ hb]
  have hle:=cn_le (64*(i+1)) p
  simp(disch:=omega)only[go_sem,zS,↓reduceIte,Za,Zb,Zc,reduceCtorEq,kont_eq,hf3,hf9,IntWalk.i64_in]
  exact⟨W.length -(i+1),by omega,i+1,by omega,rfl,by simp,by rw[hc1];simp⟩
 ·have:i=W.length:=by omega
  subst this
  simp only[go_sem,zS,↓reduceIte,Za,Zb,Zc,reduceCtorEq,kont_eq,hf3]
  rw[hv.count]
  exact⟨rfl,K1⟩
end Go.Mg

/- Lemmas of ours. No conditions. -/
import Derived.Test.YtoclemmcphgikaaGreatDoorMgX3
open Nat renaming reduceEqDiff→Za,reduceAdd→Zb,reduceMul→Zc,reduceLeDiff→Zd,reduceLT→Ze
open Int renaming reduceBEq→Zf,reduceBNe→Zg,reduceLE→Zh,reduceLT→Zi
set_option linter.all false
set_option maxRecDepth 100000
namespace Go.Mg
abbrev RS:=List UInt8×Int
def j0 (m:UInt64):List UInt8:=if m=0 then[]else ME [m] ((dM m.toNat -1)/8+1)
theorem Rh (m:UInt64) (n:Nat):bY [m] n=bt m n:=by
 by_cases h:n<64
 ·have:=gw [m] 0 n h;rw[Nat.mul_zero,Nat.zero_add]at this;exact this
 ·rw[fz (by simp;omega)]
  cases e:bt m n with
  |false=>rfl
  |true=>exact absurd (rV e) h
theorem dP (m:UInt64) (n:Nat):bH (j0 m) n=bt m n:=by
 unfold j0
 split
 ·next h=>subst h;rw[fT,dS]
 ·next h=>
  obtain⟨l1,l2,l3,l4⟩:=oJ h
  by_cases hn:n<8*((dM m.toNat -1)/8+1)
  ·rw[JR _ _ _ hn,Rh]
  ·rw[jZ (by rw[fC];omega)]
   cases e:bt m n with
   |false=>rfl
   |true=>have:=l4 n e;omega
theorem mf (m:UInt64):eo (j0 m):=by
 refine eo.lE fun h=>?_;have hm:m≠0:=fun e=>h (by unfold j0;rw[if_pos e]);obtain⟨l1,l2,l3,l4⟩:=oJ hm;refine⟨dM m.toNat -1,by rw[dP];exact l3,?_⟩;unfold j0;rw[if_neg hm,fC];omega
theorem mg (m:UInt64):(j0 m).length<=8:=by
 unfold j0
 split
 ·simp
 ·next h=>
  obtain⟨l1,l2,l3,l4⟩:=oJ h;rw[fC];omega
theorem BJ (p:Nat->Bool):∀k,k<=64->∃m:UInt64,∀n,bt m n=(decide (n<k)&&p n)
 |0,_=>⟨0,fun n=>by rw[dS,decide_eq_false (by omega),Bool.false_and]⟩
 |k+1,h=>by
  obtain⟨m,hm⟩:=BJ p k (by omega)
  cases e:p k with
  |false=>
   refine⟨m,fun n=>?_⟩;rw[hm]
   by_cases hn:n=k
   ·subst hn;rw[e,Bool.and_false,Bool.and_false]
   ·congr 1
    rw[decide_eq_decide];omega
  |true=>
   refine⟨EV m k,fun n=>?_⟩;rw[yy m (by omega),hm]
   by_cases hn:n=k
   ·subst hn;rw[e,decide_eq_true (rfl:n=n),decide_eq_true (show n<n+1 by omega)];simp
   ·rw[decide_eq_false hn,Bool.or_false]
    congr 1
    rw[decide_eq_decide];omega
noncomputable def VX (p:Nat->Bool):UInt64:=(BJ p 64 (by omega)).choose
theorem JT {p:Nat->Bool} (h:∀n,p n=true->n<64) (n:Nat):bt (VX p) n=p n:=by
 rw[VX,(BJ p 64 (by omega)).choose_spec]
 cases e:p n with
 |false=>rw[Bool.and_false]
 |true=>rw[decide_eq_true (h n e)];rfl
theorem Ri (m:UInt64):VX (bH (j0 m))=m:=qn fun k hk=>by
 rw[JT (fun n h=>by rw[dP]at h;exact rV h),dP]
def dQ (x:wO):List UInt8:=dw x.1++du x.2.toNat
def dR (x:fV):List UInt8:=du x.1.toNat++du x.2.toNat
def mh (x:tk):List UInt8:=du x.1.toNat++dw (j0 x.2)
def cC {α:Type} (e:α->List UInt8) (l:List α):List UInt8:=du l.length++l.flatMap e
def df (F:cf):List UInt8:=cC dQ F.st++(cC dR F.be++(cC dR F.di++(cC dR F.sa++cC mh F.mo)))
def bh {α:Type} (f:RS->α×RS):Nat->RS->List α×RS
 |0,s=>([],s)
 |n+1,s=>((bh f n s).1++[(f (bh f n s).2).1],(f (bh f n s).2).2)
theorem ek {α:Type} (f:RS->α×RS):∀(n:Nat) (s:RS),(bh f n s).1.length=n
 |0,_=>rfl
 |n+1,s=>by simp[bh,ek f n s]
def bR {α:Type} (most:Nat) (f:RS->α×RS) (s:RS):List α×RS:=bh f (bF most s).1 (bF most s).2
def nj (s:RS):wO×RS:=(((bB 12 s).1,((rdNum 63 (bB 12 s).2).1:Int)),(rdNum 63 (bB 12 s).2).2)
def eX (s:RS):fV×RS:=((((rdNum 10 s).1:Int),((rdNum 10 (rdNum 10 s).2).1:Int)),(rdNum 10 (rdNum 10 s).2).2)
noncomputable def mQ (s:RS):tk×RS:=((((rdNum 10 s).1:Int),VX (bH (cO 10 (rdNum 10 s).2).1)),(cO 10 (rdNum 10 s).2).2)
noncomputable def nN (s:RS):cf×RS:=
 let a:=bR 10 nj s
 let b:=bR 20 eX a.2
 let c:=bR 20 eX b.2
 let d:=bR 20 eX c.2
 let e:=bR 20 mQ d.2
 (⟨a.1,b.1,c.1,d.1,e.1⟩,e.2)
def Mj {α:Type} (f:RS->α×RS) (e:α->List UInt8) (P:α->Prop):Prop:=∀x,P x->∀r,f (e x++r,0)=(x,(r,0))
theorem Er {α:Type} {f:RS->α×RS} {e:α->List UInt8} {P:α->Prop} (h:Mj f e P) {l:List α} (hl:∀x∈l,P x) (r:List UInt8):∀n,n<=l.length->bh f n (l.flatMap e++r,0)=(l.take n,((l.drop n).flatMap e++r,0))
 |0,_=>by simp[bh]
 |n+1,hn=>by
  rw[bh,Er h hl r n (by omega)];have hd:l.drop n=l[n]::l.drop (n+1):=List.drop_eq_getElem_cons (by omega);simp only;rw[hd,List.flatMap_cons,List.append_assoc,h _ (hl _ (List.getElem_mem _)),List.take_succ_eq_append_getElem (by omega)]
variable {most n:Nat} {F:cf}
theorem Rj (h:n<=most) (hm:most<18446744073709551616) (r:List UInt8):bF most (du n++r,0)=(n,(r,0)):=by
 unfold bF;rw[if_neg (by simp),wx _ (by omega)];simp only;rw[if_neg (by omega)]
theorem mj (h:n<=most) (hm:most<18446744073709551616) (r:List UInt8):rdNum most (du n++r,0)=(n,(r,0)):=by
 unfold rdNum;rw[if_neg (by simp),wx _ (by omega)];simp only;rw[if_neg (by omega)]
theorem wC {m:Nat} {x:List UInt8} (h:x.length<=m) (hm:m<=1000000) (r:List UInt8):bB m (dw x++r,0)=(x,(r,0)):=by
 unfold bB;rw[if_neg (by simp),dw,List.append_assoc,wx _ (by omega)];simp only;rw[if_neg (by omega),if_neg (by simp),List.take_left,List.drop_left]
theorem jx {α:Type} {f:RS->α×RS} {e:α->List UInt8} {P:α->Prop} (h:Mj f e P) {l:List α} (hl:∀x∈l,P x) (hm:l.length<=most) (hm2:most<18446744073709551616) (r:List UInt8):bR most f (cC e l++r,0)=(l,(r,0)):=by
 unfold bR cC;rw[List.append_assoc,Rj hm hm2];simp only;rw[Er h hl r _ (Nat.le_refl _)];simp
theorem JU {m:List UInt8} (hc:eo m) (hl:m.length<=512) (hb:∀n,bH m n=true->n<=most) (r:List UInt8):cO most (dw m++r,0)=(m,(r,0)):=by
 have:=wC (m:=512) hl (by omega) r;unfold cO;rw[this,if_neg (by simp),if_neg (by simp),if_neg (not_not_intro hc),if_neg (fun⟨n,h1,h2⟩=>by have:=hb n h1;omega)]
theorem aaB:Mj nj dQ fun x=>x.1.length<=12/\0<=x.2/\x.2<=63:=by
 rintro⟨nm,ro⟩ ⟨h1,h2,h3⟩ r;simp only at h1 h2 h3;unfold nj dQ;simp only;rw[List.append_assoc,wC h1 (by omega)];simp only;rw[mj (by omega) (by omega)];simp only[Int.toNat_of_nonneg h2]
theorem Rk:Mj eX dR fun x=>0<=x.1/\x.1<=10/\0<=x.2/\x.2<=10:=by
 rintro⟨a,b⟩ ⟨h1,h2,h3,h4⟩ r;simp only at h1 h2 h3 h4;unfold eX dR;simp only;rw[List.append_assoc,mj (by omega) (by omega)];simp only;rw[mj (by omega) (by omega)];simp only[Int.toNat_of_nonneg h1,Int.toNat_of_nonneg h3]
theorem acB:Mj mQ mh fun x=>0<=x.1/\x.1<=10/\x.2.toNat<2^11:=by
 rintro⟨a,m⟩ ⟨h1,h2,h3⟩ r;simp only at h1 h2 h3;have hb:∀n,bH (j0 m) n=true->n<=10:=fun n hn=>by
  rw[dP]at hn;apply Classical.byContradiction;intro hc;unfold bt at hn;rw[Nat.testBit_lt_two_pow (Nat.lt_of_lt_of_le h3 (Nat.pow_le_pow_right (by omega) (by omega)))]at hn
  cases hn
 have hs:=mg m;unfold mQ mh;simp only;rw[List.append_assoc,mj (by omega) (by omega)];simp only;rw[JU (mf m) (by omega) hb];simp only[Int.toNat_of_nonneg h1,Ri]
structure HW (F:cf):Prop where
 st:F.st.length<=10/\∀x∈F.st,x.1.length<=12/\0<=x.2/\x.2<=63
 be:F.be.length<=20/\∀x∈F.be,0<=x.1/\x.1<=10/\0<=x.2/\x.2<=10
 di:F.di.length<=20/\∀x∈F.di,0<=x.1/\x.1<=10/\0<=x.2/\x.2<=10
 sa:F.sa.length<=20/\∀x∈F.sa,0<=x.1/\x.1<=10/\0<=x.2/\x.2<=10
 mo:F.mo.length<=20/\∀x∈F.mo,0<=x.1/\x.1<=10/\x.2.toNat<2^11
theorem BK (h:HW F) (r:List UInt8):nN (df F++r,0)=(F,(r,0)):=by
 unfold nN df;simp only[List.append_assoc];rw[jx aaB h.st.2 h.st.1 (by omega)];simp only;rw[jx Rk h.be.2 h.be.1 (by omega)];simp only;rw[jx Rk h.di.2 h.di.1 (by omega)];simp only;rw[jx Rk h.sa.2 h.sa.1 (by omega)];simp only;rw[jx acB h.mo.2 h.mo.1 (by omega)]
theorem wD {G:cf} (hF:HW F) (hG:HW G) {r t:List UInt8} (h:df F++r=df G++t):F=G/\r=t:=by
 have h1:=BK hF r;rw[h,BK hG t]at h1;simp only[Prod.mk.injEq,and_true]at h1;exact⟨h1.1.symm,h1.2.symm⟩
theorem gh (h:nD F=true):HW F:=by
 obtain⟨hG,hs⟩:=FI.1 (tw.1 h);have hl:=hG.lim;have h10:=hG.lt;unfold iQ at hl;have pr:∀{l:List fV},(∀x∈l,kg (F.st.length:Int) x/\x.1≠x.2)->∀x∈l,0<=x.1/\x.1<=10/\0<=x.2/\x.2<=10:=fun hh x hx=>by
  have:=(hh x hx).1;unfold kg at this;omega
 refine⟨⟨h10,fun x hx=>?_⟩,⟨by omega,pr hG.be⟩,⟨by omega,pr hG.di⟩,⟨by omega,pr hG.sa⟩,⟨by omega,fun x hx=>?_⟩⟩
 ·obtain⟨i,hi,rfl⟩:=List.getElem_of_mem hx;have:=hs i hi;rw[List.getD_eq_getElem?_getD,List.getElem?_eq_getElem hi,Option.getD_some]at this;unfold qF at this
  split at this
  ·omega
  ·next hv=>
   have hv:cK F.st[i].1=true:=by simpa using hv
   unfold cK at hv;simp only[Bool.and_eq_true,decide_eq_true_eq]at hv
   split at this
   ·omega
   ·split at this
    ·omega
    ·next hr=>exact⟨hv.1.1.1.2,by omega,by omega⟩
 ·have:=hG.mo x hx;unfold pd at this
  split at this
  ·omega
  ·next hh=>
   have hp:2^F.st.length<=2^11:=Nat.pow_le_pow_right (by omega) (by omega);omega
end Go.Mg
namespace Go.Mg
open Go Go.RowKit
def HX (ι:aG):S:=
 kY [kR 1 (ι.t 296) 0,kC 2 (kZ)] (.seq (kY [kM 12 5 1,.e (.t 13) (.call (ι.f 312) [.t 12]),kV 14 (.not (.t 13))] (.ite (.v 14) (kY [kC 2 (kZ)] .ret) .skip)) (kY [.e (.t 15) (.call (ι.f 55) []),kB 3 15] (kY [kA 16 3,kG 17 0 1,kD 18 17,kL 19 18,kU 20 (.ii .u64 (.t 19)),.e (.t 21) (.call (ι.f 57) [.t 16,.t 20])] (.seq (kY [kG 22 0 1,kV 23 (.ld (.t 22)),kO 24 23,kC 25 (.int .i64 0)] (.blk 0 (.loop (kY [kH 26 25 24] (.seq (.ite (.v 26) .skip (.exit 0)) (.seq (.blk 1 (kY [kK 27 2 23 25,kN 28 2 27,.e (.v 5) (.new (ι.t 297) #[.string ⟨#[]⟩,.int .i64 0]),.e .no (.stn 2 (.v 5) (.t 28))] (kY [kA 29 3,kG 30 0 5,kD 31 30,.e (.t 32) (.call (ι.f 59) [.t 29,.t 31])] (.reg [kA 33 3,kG 34 1 5,kD 35 34,kU 36 (.ii .u64 (.t 35)),.e (.t 37) (.call (ι.f 57) [.t 33,.t 36])])))) (.reg [ke 38 25,kB 25 38]))))))) (.seq (kY [kG 39 1 1,kD 40 39,kG 41 2 1,kD 42 41,kG 43 3 1,kD 44 43,.e (.v 45) (.aV (ι.t 235) 1 3 [.t 40,.t 42,.t 44]),kO 46 45,kC 47 (.int .i64 0)] (.blk 2 (.loop (kY [kH 48 47 46] (.seq (.ite (.v 48) .skip (.exit 2)) (.seq (.blk 3 (kY [kK 49 1 45 47,kD 50 49,kB 7 50] (kY [kA 51 3,kA 52 7,kL 53 52,kU 54 (.ii .u64 (.t 53)),.e (.t 55) (.call (ι.f 57) [.t 51,.t 54])] (kY [kV 56 (.mv (.v 7)),kO 57 56,kC 58 (.int .i64 0)] (.blk 4 (.loop (kY [kH 59 58 57] (.seq (.ite (.v 59) .skip (.exit 4)) (.seq (.blk 5 (kY [kK 60 2 56 58,kN 61 2 60,.e (.v 9) (.new (ι.t 194) #[.int .i64 0,.int .i64 0]),.e .no (.stn 2 (.v 9) (.t 61))] (kY [kA 62 3,kP 63 2 1 9 0,kD 64 63,kU 65 (.ii .u64 (.t 64)),.e (.t 66) (.call (ι.f 57) [.t 62,.t 65])] (.reg [kA 67 3,kP 68 2 1 9 1,kD 69 68,kU 70 (.ii .u64 (.t 69)),.e (.t 71) (.call (ι.f 57) [.t 67,.t 70])])))) (.reg [ke 72 58,kB 58 72])))))))))) (.reg [ke 73 47,kB 47 73]))))))) (kY [kA 74 3,kG 75 4 1,kD 76 75,kL 77 76,kU 78 (.ii .u64 (.t 77)),.e (.t 79) (.call (ι.f 57) [.t 74,.t 78])] (.seq (kY [kG 80 4 1,kV 81 (.ld (.t 80)),kO 82 81,kC 83 (.int .i64 0)] (.blk 6 (.loop (kY [kH 84 83 82] (.seq (.ite (.v 84) .skip (.exit 6)) (.seq (.blk 7 (kY [kK 85 2 81 83,kN 86 2 85,.e (.v 11) (.new (ι.t 298) #[.int .i64 0,kZ]),.e .no (.stn 2 (.v 11) (.t 86))] (kY [kA 87 3,kG 88 0 11,kD 89 88,kU 90 (.ii .u64 (.t 89)),.e (.t 91) (.call (ι.f 57) [.t 87,.t 90])] (.reg [kA 92 3,kG 93 1 11,kN 94 1 93,.e (.t 95) (.call (ι.f 340) [.t 92,.t 94])])))) (.reg [ke 96 83,kB 83 96]))))))) (kY [kA 97 3,.e (.t 98) (.call (ι.f 60) [.t 97]),kB 2 98] .ret))))))))
def HY:List RV:=[.t 2]
def kq (C:Nat) (N:Nat->Prop) (w:Nat) (l:List UInt8) (A:Hp):Prop:=∃F,wS F A w l/\∀q,F q->C<=q/\¬N q
def WrW (C:Nat) (N:Nat->Prop) (q:Nat):Prop:=C<=q/\¬N q
variable {C w:Nat} {N:Nat->Prop} {l m:List UInt8} {A A':Hp} {F:cf} {P:Program} {j:FuncId} {K:Value->Hp->Prop}
theorem kq.aj (h:kq C N w l A) (hk:af (fun _=>False) A A'):kq C N w l A':=by
 obtain⟨F,h1,h2⟩:=h;exact⟨F,h1.ai hk (by simp),h2⟩
theorem kq.new {b:Nat} (h:kq C N w l A) (hk:af (fun _=>False) A A') (hb:A.size<=b):kq C (fun q=>N q\/q=b) w l A':=by
 obtain⟨F,h1,h2⟩:=h;refine⟨F,h1.ai hk (by simp),fun q hq=>⟨(h2 q hq).1,fun hn=>?_⟩⟩;rcases hn with hn|rfl
 ·exact(h2 q hq).2 hn
 ·have:=h1.bound q hq;omega
theorem kq.mono {N':Nat->Prop} (h:kq C N w l A) (hn:∀q,N' q->N q):kq C N' w l A:=by
 obtain⟨F,h1,h2⟩:=h;exact⟨F,h1,fun q hq=>⟨(h2 q hq).1,fun h=>(h2 q hq).2 (hn q h)⟩⟩
theorem kq.step {l l':List UInt8} {F:Nat->Prop} (h2:∀q,F q->C<=q/\¬N q) (hN:∀q,N q->q<A.size) (hC:C<=A.size) (h':wS (grow F A A') A' w l') (hk:af F A A'):kq C N w l' A'/\af (WrW C N) A A':=by
 refine⟨⟨_,h',fun q hq=>?_⟩,hk.mono fun q _ hq=>h2 q hq⟩;rcases hq with hq|hq
 ·exact h2 q hq
 ·exact⟨by omega,fun hn=>by have:=hN q hn;omega⟩
theorem kq.uint (hu:gJ P j) (h:kq C N w l A) (hN:∀q,N q->q<A.size) (hC:C<=A.size) {v:Nat} (hv:v<18446744073709551616) (hl:l.length<=90000000)
  (hK:∀A',kq C N w (l++du v) A'->af (WrW C N) A A'->K (.tuple #[]) A'):an P j #[.pointer (some ⟨w,0,none⟩),.int .u64 v] A K:=by
 obtain⟨F,h1,h2⟩:=h;refine(hu F w l v A h1 hv hl).mono ?_;rintro r A' ⟨rfl,h',hk⟩;obtain⟨a,b⟩:=kq.step (l:=l) h2 hN hC h' hk;exact hK A' a b
theorem kq.str (hs:lZ P j) (h:kq C N w l A) (hN:∀q,N q->q<A.size) (hC:C<=A.size) (hl:l.length+m.length<=80000000)
  (hK:∀A',kq C N w (l++dw m) A'->af (WrW C N) A A'->K (.tuple #[]) A'):an P j #[.pointer (some ⟨w,0,none⟩),.string ⟨m.toArray⟩] A K:=by
 obtain⟨F,h1,h2⟩:=h;refine(hs F w l m A h1 hl).mono ?_;rintro r A' ⟨rfl,h',hk⟩;obtain⟨a,b⟩:=kq.step (l:=l) h2 hN hC h' hk;exact hK A' a b
theorem kq.set (hs:mb P j) {p:Nat->Bool} {x:Value} (h:kq C N w l A) (hN:∀q,N q->q<A.size) (hC:C<=A.size) (hx:aQ A x p) (hm:eo m) (hmp:∀n,bH m n=p n) (hl:l.length<=70000000)
  (hK:∀A',kq C N w (l++dw m) A'->af (WrW C N) A A'->K (.tuple #[]) A'):an P j #[.pointer (some ⟨w,0,none⟩),x] A K:=by
 obtain⟨F,h1,h2⟩:=h;refine(hs F w l m p x A h1 hx hm hmp hl).mono ?_;rintro r A' ⟨rfl,h',hk⟩;obtain⟨a,b⟩:=kq.step (l:=l) h2 hN hC h' hk;exact hK A' a b
theorem jy {α:Type} {e:α->List UInt8} {c:Nat}:∀{l:List α},(∀x∈l,(e x).length<=c)->(l.flatMap e).length<=c*l.length
 |[],_=>by simp
 |x::l,h=>by
  have h1:=h x List.mem_cons_self;have h2:=jy (l:=l) fun y hy=>h y (List.mem_cons_of_mem _ hy);rw[List.flatMap_cons,List.length_append,List.length_cons,Nat.mul_succ];omega
theorem dh {α:Type} (e:α->List UInt8) {l:List α} {i:Nat} (hi:i<l.length):(l.take (i+1)).flatMap e=(l.take i).flatMap e++e l[i]:=by
 rw[List.take_succ_eq_append_getElem hi,List.flatMap_append,List.flatMap_cons,List.flatMap_nil,List.append_nil]
def L3 (F:cf):List (List fV):=[F.be,F.di,F.sa]
theorem BL (F:cf):df F=cC dQ F.st++((L3 F).flatMap (cC dR)++cC mh F.mo):=by
 simp[df,L3]
theorem HW.stl (h:HW F) (i:Nat):(du F.st.length++(F.st.take i).flatMap dQ).length<=400:=by
 have h1:=aP F.st.length (by have:=h.st.1;omega);have h2:=jy (e:=dQ) (c:=34) (l:=F.st.take i) fun x hx=>by
  have hx:=h.st.2 x (List.mem_of_mem_take hx);have a:=aP x.1.length (by omega);have b:=aP x.2.toNat (by omega);simp only[dQ,dw,List.length_append];omega
 have h3:(F.st.take i).length<=10:=by rw[List.length_take];have:=h.st.1;omega
 rw[List.length_append];have:=Nat.mul_le_mul_left 34 h3;omega
theorem BM {l:List fV} (h:∀x∈l,0<=x.1/\x.1<=10/\0<=x.2/\x.2<=10) (hl:l.length<=20) (i:Nat):(du l.length++(l.take i).flatMap dR).length<=500:=by
 have h1:=aP l.length (by omega);have h2:=jy (e:=dR) (c:=22) (l:=l.take i) fun x hx=>by
  have hx:=h x (List.mem_of_mem_take hx);have a:=aP x.1.toNat (by omega);have b:=aP x.2.toNat (by omega);simp only[dR,List.length_append];omega
 have h3:(l.take i).length<=20:=by rw[List.length_take];omega
 rw[List.length_append];have:=Nat.mul_le_mul_left 22 h3;omega
theorem HW.mol (h:HW F) (i:Nat):(du F.mo.length++(F.mo.take i).flatMap mh).length<=700:=by
 have h1:=aP F.mo.length (by have:=h.mo.1;omega);have h2:=jy (e:=mh) (c:=30) (l:=F.mo.take i) fun x hx=>by
  have hx:=h.mo.2 x (List.mem_of_mem_take hx);have a:=aP x.1.toNat (by omega);have s:=mg x.2;have b:=aP (j0 x.2).length (by omega);simp only[mh,dw,List.length_append];omega
 have h3:(F.mo.take i).length<=20:=by rw[List.length_take];have:=h.mo.1;omega
 rw[List.length_append];have:=Nat.mul_le_mul_left 30 h3;omega
theorem HW.l3 (h:HW F) {l:List fV} (hl:l∈L3 F):(∀x∈l,0<=x.1/\x.1<=10/\0<=x.2/\x.2<=10)/\l.length<=20:=by
 simp only[L3,List.mem_cons,List.not_mem_nil,or_false]at hl;rcases hl with rfl|rfl|rfl
 ·exact⟨h.be.2,h.be.1⟩
 ·exact⟨h.di.2,h.di.1⟩
 ·exact⟨h.sa.2,h.sa.1⟩
theorem HW.l3l (h:HW F) (j:Nat):(((L3 F).take j).flatMap (cC dR)).length<=1500:=by
 have h2:=jy (e:=cC dR) (c:=500) (l:=(L3 F).take j) fun l hl=>by
  obtain⟨a,b⟩:=h.l3 (List.mem_of_mem_take hl);have:=BM a b l.length;rw[List.take_length]at this;exact this
 have h3:((L3 F).take j).length<=3:=by rw[List.length_take];simp[L3];omega
 have:=Nat.mul_le_mul_left 500 h3;omega
def pO (P:Program) (ι:aG) (k:FuncId):Prop:=∀(F:cf) (v:Value) (H:Hp),bg ι H->bU H v F->nD F=true->an P k #[v] H fun r H'=>bq H' r (w8 (df F))/\(∀q,ax r q->H.size<=q)/\af (fun _=>False) H H'
structure afi (P:Program) (ι:aG):Prop where
 uP:fp P ι (ι.f 312)
 new:v7 P (ι.f 55)
 uint:gJ P (ι.f 57)
 str:lZ P (ι.f 59)
 set:mb P (ι.f 340)
 out:we P (ι.f 60)
theorem kr {z:Int} (h1:0<=z) (h2:z<=1000000):IntKind.u64.wrap z=((z.toNat:Nat):Int):=by
 rw[IntKind.wrap_u64];omega
theorem VY {ι:aG} {k:FuncId} (hk:al P k (HX ι) HY 1) (c:afi P ι):pO P ι k:=by
 intro F v H hT hv hok;refine qI fun Q hQ=>?_;have hE:=gh hok;have pV:=hv;obtain⟨s,b,d,a,m,ms,rfl,h1,h2,h3,h4,h5,h6⟩:=hv;obtain⟨b0,bc,eb,-⟩:=h2.mk;obtain⟨d0,dc,ed,-⟩:=h3.mk;obtain⟨a0,ac,ea,-⟩:=h4.mk;refine ah hk (args:=[_]) (by simp) ?_;unfold HX HY kA kB kC kD ke kG kH kK kL kM kN kO kP kR kU kV kY kZ;simp-implicitDefEqProofs only[go_sem,↓reduceIte,Za,Zb,Zc,reduceCtorEq,Zf,Zg,Zh,Zi,Zd,Ze];refine ay fun H1 b1 e1 z1 B1 K1=>?_;have bQ:Bl H1 b1 [s,b,d,a,m]:=B1;have s1:=K1.size;simp-implicitDefEqProofs only[go_sem,↓reduceIte,Za,Zb,Zc,reduceCtorEq,Zf,Zg,Zh,Zi,Zd,Ze,bQ.aM 5 rfl];refine(c.uP F _ H1 (hT.ai K1) (pV.aj K1)).mono ?_;rintro r H2 ⟨rfl,K2⟩;have B2:=K2.bl bQ (by simp);have fk:=K1.trans K2;have s2:=K2.size;rw[ae,hok];simp-implicitDefEqProofs only[go_sem,↓reduceIte,Za,Zb,Zc,reduceCtorEq,Zf,Zg,Zh,Zi,Zd,Ze,Bool.not_true];refine(c.new H2).mono ?_;rintro r H3 ⟨rfl,W3,K3⟩;have B3:=K3.bl B2 (by simp);have lF:=fk.trans K3;have s3:=K3.size;generalize hw:H2.size=w at*;have WZ:b1<w:=by have:=B2.lt;omega
 have I3:kq w (fun _=>False) w [] H3:=⟨_,W3,fun q hq=>⟨by omega,fun h=>h⟩⟩
 have l1:=hE.st.1;have cl:∀{A:Hp},Bl A b1 [s,b,d,a,m]->cell A ⟨b1,0,none⟩=some s/\cell A ⟨b1,1,none⟩=some b/\cell A ⟨b1,2,none⟩=some d/\cell A ⟨b1,3,none⟩=some a/\cell A ⟨b1,4,none⟩=some m:=fun B=>⟨by rw[B.cell];rfl,by rw[B.cell];rfl,by rw[B.cell];rfl,by rw[B.cell];rfl,by rw[B.cell];rfl⟩
 -- what is kept while bytes are written
 have kp:∀{A A':Hp} {N:Nat->Prop},af (WrW w N) A A'->af (fun q=>w<=q) A A':=fun h=>h.mono fun q _ hq=>hq.1;rw[ae];simp-implicitDefEqProofs only[go_sem,↓reduceIte,Za,Zb,Zc,reduceCtorEq,Zf,Zg,Zh,Zi,Zd,Ze,(cl B3).1,h1.aq,h1.len,kr (show(0:Int)<=(F.st.length:Int) by omega) (show(F.st.length:Int)<=1000000 by omega),Int.toNat_natCast];refine I3.uint c.uint (by simp) (by omega) (by omega) (by simp) fun A I4 K4=>?_;have K4:=kp K4;have KA:af (fun q=>w<=q) H3 A:=K4;have B4:=KA.bl B3 (by omega);have sA:=KA.size;rw[List.nil_append]at I4;rw[ae];simp-implicitDefEqProofs only[go_sem,↓reduceIte,Za,Zb,Zc,reduceCtorEq,Zf,Zg,Zh,Zi,Zd,Ze,(cl B4).1,h1.aq,h1.len];have bj:∀{A':Hp},af (fun q=>w<=q) H3 A'->af (fun _=>False) H A':=fun K=>lF.trans' K fun q hq e=>by omega
 refine aD F.st.length [26,5,25] rfl rfl (by omega) (by rfl) (by rfl) (fun i g A=>kq w (fun _=>False) w (du F.st.length++(F.st.take i).flatMap dQ) A/\af (fun q=>w<=q) H3 A) ⟨by simpa using I4,KA⟩ ?_ ?_
 ·rintro i g A hi gi gn ⟨I,K⟩;simp-implicitDefEqProofs only[go_sem,↓reduceIte,Za,Zb,Zc,reduceCtorEq,ae,Zf,Zg,Zh,Zi,Zd,Ze]at gi gn;have KH:=bj K;obtain⟨sb,so,sc,rfl,-,hld⟩:=(h1.aj KH).elem dD (i:=i) hi;have sA:=K.size;have hx:=hE.st.2 _ (List.getElem_mem hi);simp-implicitDefEqProofs only[go_sem,↓reduceIte,Za,Zb,Zc,reduceCtorEq,Zf,Zg,Zh,Zi,Zd,Ze,gi,ak,aC,hld];refine⟨⟨by omega,by omega⟩,?_⟩;refine aN (cj F.st[i]) (by rfl) rfl rfl (List.all_eq_true.2 (jh _)) fun A1 b5 e5 z5 B5 K5=>?_;have s5:=K5.size;have c0:cell A1 ⟨b5,0,none⟩=some (sV F.st[i].1):=by rw[B5.cell];rfl
  have J1:=I.new (b:=b5) K5 (by omega);have hb:=hE.stl i;simp-implicitDefEqProofs only[go_sem,↓reduceIte,Za,Zb,Zc,reduceCtorEq,Zf,Zg,Zh,Zi,Zd,Ze,c0,sV];refine J1.str c.str (fun q hq=>by rcases hq with hq|hq;exact hq.elim;omega) (by omega) (by omega) fun A2 J2 K6=>?_;have Zy:=K6.bl B5 fun h=>h.2 (.inr rfl);have s6:=K6.size;have c1:cell A2 ⟨b5,1,none⟩=some (.int .i64 F.st[i].2):=by rw[Zy.cell];rfl
  have hb2:=aP F.st[i].1.length (by omega);rw[ae];simp-implicitDefEqProofs only[go_sem,↓reduceIte,Za,Zb,Zc,reduceCtorEq,Zf,Zg,Zh,Zi,Zd,Ze,c1,kr hx.2.1 (by omega)];refine J2.uint c.uint (fun q hq=>by rcases hq with hq|hq;exact hq.elim;omega) (by omega) (by omega) (by simp only[List.length_append,dw]at hb⊢;omega) fun A3 J3 K7=>?_;rw[ae];simp-implicitDefEqProofs only[go_sem,↓reduceIte,Za,Zb,Zc,reduceCtorEq,ae,Zf,Zg,Zh,Zi,Zd,Ze];refine⟨?_,((K.trans K5.any).trans (kp K6)).trans (kp K7)⟩;rw[dh _ hi,dQ,<-List.append_assoc,<-List.append_assoc];exact J3.mono fun q h=>h.elim
 ·rintro g A -⟨I,K⟩;rw[List.take_length]at I;have B5:=K.bl B3 (by omega);obtain⟨-,q1,q2,q3,-⟩:=cl B5;have sA:=K.size;obtain⟨us,hus⟩:∃us,us=[b,d,a]:=⟨_,rfl⟩
  have hul:us.length=3:=by rw[hus];rfl
  have hsl:∀j<3,ql H (us.getD j undef) ((L3 F).getD j [])/\(L3 F).getD j []∈L3 F:=fun j hj=>by
   have:j=0\/j=1\/j=2:=by omega
   rw[hus];rcases this with rfl|rfl|rfl
   ·exact⟨h2,by simp[L3]⟩
   ·exact⟨h3,by simp[L3]⟩
   ·exact⟨h4,by simp[L3]⟩
  rw[eb]at q1;rw[ed]at q2;rw[ea]at q3;simp-implicitDefEqProofs only[go_sem,↓reduceIte,Za,Zb,Zc,reduceCtorEq,Zf,Zg,Zh,Zi,Zd,Ze,q1,q2,q3,Value.cells];refine aF fun A1 b45 e45 z45 B45 K45=>?_;have afj:Bl A1 b45 us:=by rw[hus,eb,ed,ea];exact B45
  have s45:=K45.size;have I1:=I.new (b:=b45) K45 (by omega);have K31:=K.trans K45.any;clear hus B45;simp-implicitDefEqProofs only[go_sem,↓reduceIte,Za,Zb,Zc,reduceCtorEq,Zf,Zg,Zh,Zi,Zd,Ze];have hL3:(L3 F).length=3:=rfl;refine aD 3 [48,7,56,57,58,59,9,47] rfl rfl (by omega) (by rfl) (by rfl) (fun j g X=>kq w (fun q=>False\/q=b45) w (cC dQ F.st++((L3 F).take j).flatMap (cC dR)) X/\Bl X b45 us/\af (fun q=>w<=q) H3 X) ⟨by simpa[cC]using I1,afj,K31⟩ ?_ ?_
  ·rintro j g2 X hj gi gn ⟨J,BX,KX⟩;simp-implicitDefEqProofs only[go_sem,↓reduceIte,Za,Zb,Zc,reduceCtorEq,ae,Zf,Zg,Zh,Zi,Zd,Ze]at gi gn;obtain⟨zT,hmem⟩:=hsl j hj;obtain⟨hpr,Cr⟩:=hE.l3 hmem;have kh:=bj KX;have Rl:=zT.aj kh;have IP:cell X ⟨b45,j,none⟩=some (us.getD j undef):=by
    rw[BX.cell,List.getElem?_eq_getElem (by omega),List.getD_eq_getElem?_getD,List.getElem?_eq_getElem (by omega)];rfl
   have sX:=KX.size;have hNX:∀q,(False\/q=b45)->q<X.size:=fun q hq=>by
    rcases hq with hq|hq
    ·exact hq.elim
    ·rw[hq];exact BX.lt
   have hb1:=hE.stl F.st.length;rw[List.take_length]at hb1;have hb1:(cC dQ F.st).length<=400:=hb1;have hb2:=hE.l3l j;generalize hU:us.getD j undef=u at*;generalize hL:(L3 F).getD j []=pl at*;simp-implicitDefEqProofs only[go_sem,↓reduceIte,Za,Zb,Zc,reduceCtorEq,Zf,Zg,Zh,Zi,Zd,Ze,gi,ak,IP,Rl.aq,Rl.len,kr (show(0:Int)<=(pl.length:Int) by omega) (show(pl.length:Int)<=1000000 by omega),Int.toNat_natCast];refine⟨by omega,J.uint c.uint hNX (by omega) (by omega) (by rw[List.length_append];omega) fun X1 J1 L1=>?_⟩;have BX1:=L1.bl BX fun h=>h.2 (.inr rfl);have DE:=KX.trans (kp L1);have XJ:=zT.aj (bj DE);have sX1:=L1.size;have aaC:pl.length<=9223372036854775807:=by omega
   rw[ae];simp-implicitDefEqProofs only[go_sem,↓reduceIte,Za,Zb,Zc,reduceCtorEq,Zf,Zg,Zh,Zi,Zd,Ze,XJ.aq,XJ.len];refine aD pl.length [59,9,58] rfl rfl aaC (by rfl) (by rfl) (fun i g Y=>kq w (fun q=>False\/q=b45) w (cC dQ F.st++((L3 F).take j).flatMap (cC dR)++(du pl.length++(pl.take i).flatMap dR)) Y/\Bl Y b45 us/\af (fun q=>w<=q) H3 Y) ⟨by simpa[cC]using J1,BX1,DE⟩ ?_ ?_
   ·rintro i g3 Y hi gi gn ⟨I,BY,KY⟩;simp-implicitDefEqProofs only[go_sem,↓reduceIte,Za,Zb,Zc,reduceCtorEq,ae,Zf,Zg,Zh,Zi,Zd,Ze]at gi gn;obtain⟨sb,so,sc,e,-,hld⟩:=(zT.aj (bj KY)).elem eH (i:=i) hi;have sY:=KY.size;have hx:=hpr _ (List.getElem_mem hi);have Cq:=BM hpr Cr i;simp-implicitDefEqProofs only[go_sem,↓reduceIte,Za,Zb,Zc,reduceCtorEq,Zf,Zg,Zh,Zi,Zd,Ze,gi,e,ak,aC,hld];refine⟨⟨by omega,by omega⟩,?_⟩;refine aN (pE pl[i]) (by rfl) rfl rfl (List.all_eq_true.2 (fX _)) fun Y1 b9 e9 z9 B9 K9=>?_;have s9:=K9.size;have lt9:=BY.lt;have hNY:∀q,((False\/q=b45)\/q=b9)->q<Y1.size:=fun q hq=>by
     rcases hq with(hq|hq)|hq
     ·exact hq.elim
     ·omega
     ·omega
    have J1:=I.new (b:=b9) K9 (by omega);have c0:cell Y1 ⟨b9,0,none⟩=some (.int .i64 pl[i].1):=by rw[B9.cell];rfl
    have w7:∀z:Int,0<=z->z<=10->z.toNat<18446744073709551616:=fun z _ _=>by omega
    have acC:=aP pl[i].1.toNat (by omega);simp-implicitDefEqProofs only[go_sem,↓reduceIte,Za,Zb,Zc,reduceCtorEq,Zf,Zg,Zh,Zi,Zd,Ze,c0,kr hx.1 (by omega)];refine J1.uint c.uint hNY (by omega) (by omega) (by simp only[List.length_append]at Cq⊢;omega) fun Y2 J2 L2=>?_;have ZZ:=L2.bl B9 fun h=>h.2 (.inr rfl);have c1:cell Y2 ⟨b9,1,none⟩=some (.int .i64 pl[i].2):=by rw[ZZ.cell];rfl
    have sL2:=L2.size;rw[ae];simp-implicitDefEqProofs only[go_sem,↓reduceIte,Za,Zb,Zc,reduceCtorEq,Zf,Zg,Zh,Zi,Zd,Ze,c1,kr hx.2.2.1 (by omega)];refine J2.uint c.uint (fun q hq=>by have:=hNY q hq;omega) (by omega) (by omega) (by simp only[List.length_append]at Cq⊢;omega) fun Y3 J3 N0=>?_;rw[ae];simp-implicitDefEqProofs only[go_sem,↓reduceIte,Za,Zb,Zc,reduceCtorEq,ae,Zf,Zg,Zh,Zi,Zd,Ze];refine⟨?_,N0.bl (L2.bl (K9.bl BY (by simp)) fun h=>h.2 (.inl (.inr rfl))) fun h=>h.2 (.inl (.inr rfl)),((KY.trans K9.any).trans (kp L2)).trans (kp N0)⟩;rw[dh _ hi,dR];simp only[<-List.append_assoc]at J3⊢;exact J3.mono fun q h=>.inl h
   ·rintro g3 Y -⟨I,BY,KY⟩;simp-implicitDefEqProofs only[go_sem,↓reduceIte,Za,Zb,Zc,reduceCtorEq,ae,Zf,Zg,Zh,Zi,Zd,Ze];refine⟨?_,BY,KY⟩;rw[List.take_length,List.append_assoc]at I;have Tp:j<(L3 F).length:=by rw[hL3];exact hj
    have e:(L3 F)[j]=pl:=by rw[<-hL,List.getD_eq_getElem?_getD,List.getElem?_eq_getElem Tp];rfl
    rw[dh _ Tp,e];exact I
  ·rintro g2 X -⟨J,BX,KX⟩;rw[show(L3 F).take 3=L3 F by rw[<-hL3,List.take_length]]at J;have J:=J.mono (N':=fun _=>False) fun q h=>.inl h;have B5:=KX.bl B3 (by omega);have q4:=(cl B5).2.2.2.2;have sX:=KX.size;have hb1:=hE.stl F.st.length;rw[List.take_length]at hb1;have hb1:(cC dQ F.st).length<=400:=hb1;have hb2:=hE.l3l 3;rw[show(L3 F).take 3=L3 F by rw[<-hL3,List.take_length]]at hb2;have nQ:=hE.mo.1;have hms:=h6.len;simp-implicitDefEqProofs only[go_sem,↓reduceIte,Za,Zb,Zc,reduceCtorEq,Zf,Zg,Zh,Zi,Zd,Ze,q4,h5.aq,h5.len,h6.len,kr (show(0:Int)<=(F.mo.length:Int) by omega) (show(F.mo.length:Int)<=1000000 by omega),Int.toNat_natCast];refine J.uint c.uint (by simp) (by omega) (by omega) (by rw[List.length_append];omega) fun X1 J1 L1=>?_;have DE:=KX.trans (kp L1);have B6:=DE.bl B3 (by omega);have q4:=(cl B6).2.2.2.2;rw[ae];simp-implicitDefEqProofs only[go_sem,↓reduceIte,Za,Zb,Zc,reduceCtorEq,Zf,Zg,Zh,Zi,Zd,Ze,q4,h5.aq,h5.len,h6.len];refine aD F.mo.length [84,11,83] rfl rfl (by omega) (by rfl) (by rfl) (fun i g Y=>kq w (fun _=>False) w (cC dQ F.st++(L3 F).flatMap (cC dR)++(du F.mo.length++(F.mo.take i).flatMap mh)) Y/\af (fun q=>w<=q) H3 Y) ⟨by simpa[cC]using J1,DE⟩ ?_ ?_
   ·rintro i g3 Y hi gi gn ⟨I,KY⟩;simp-implicitDefEqProofs only[go_sem,↓reduceIte,Za,Zb,Zc,reduceCtorEq,ae,Zf,Zg,Zh,Zi,Zd,Ze]at gi gn;have T5:=bj KY;obtain⟨sb,so,sc,e,-,hld⟩:=(h5.aj T5).elem eP (i:=i) (by omega);obtain⟨g1,wT⟩:=h6.at_ i (by omega) hi;have sY:=KY.size;have hx:=hE.mo.2 _ (List.getElem_mem hi);have Cq:=hE.mol i;simp-implicitDefEqProofs only[go_sem,↓reduceIte,Za,Zb,Zc,reduceCtorEq,Zf,Zg,Zh,Zi,Zd,Ze,gi,e,ak,aC,hld];refine⟨⟨by omega,by omega⟩,?_⟩;refine aN (cH ms[i]) (by rfl) rfl rfl (List.all_eq_true.2 (ji _)) fun Y1 b11 e11 z11 B11 La=>?_;have s11:=La.size;have hNY:∀q,(False\/q=b11)->q<Y1.size:=fun q hq=>by
     rcases hq with hq|hq
     ·exact hq.elim
     ·omega
    have J1:=I.new (b:=b11) La (by omega);have c0:cell Y1 ⟨b11,0,none⟩=some (.int .i64 F.mo[i].1):=by rw[B11.cell,<-g1];rfl
    have acC:=aP F.mo[i].1.toNat (by omega);simp-implicitDefEqProofs only[go_sem,↓reduceIte,Za,Zb,Zc,reduceCtorEq,Zf,Zg,Zh,Zi,Zd,Ze,c0,kr hx.1 (by omega)];refine J1.uint c.uint hNY (by omega) (by omega) (by simp only[List.length_append]at Cq⊢;omega) fun Y2 J2 L2=>?_;have afk:=L2.bl B11 fun h=>h.2 (.inr rfl);have l1:aR Y2 ⟨b11,1,none⟩ 1=some #[hZ ms[i]]:=afk.aR (o:=1) (n:=1) (by simp[cH]);have sL2:=L2.size;have KH2:=bj (((KY.trans La.any).trans (kp L2)));rw[ae];simp-implicitDefEqProofs only[go_sem,↓reduceIte,Za,Zb,Zc,reduceCtorEq,Zf,Zg,Zh,Zi,Zd,Ze,aC,l1];refine J2.set c.set (fun q hq=>by have:=hNY q hq;omega) (by omega) (wT.aj KH2) (mf F.mo[i].2) (dP F.mo[i].2) (by simp only[List.length_append]at Cq⊢;omega) fun Y3 J3 N0=>?_;rw[ae];simp-implicitDefEqProofs only[go_sem,↓reduceIte,Za,Zb,Zc,reduceCtorEq,ae,Zf,Zg,Zh,Zi,Zd,Ze];refine⟨?_,((KY.trans La.any).trans (kp L2)).trans (kp N0)⟩;rw[dh _ hi,mh];simp only[<-List.append_assoc]at J3⊢;exact J3.mono fun q h=>.inl h
   ·rintro g3 Y -⟨I,KY⟩;rw[List.take_length,List.append_assoc,<-cC,<-BL]at I;have Cq:=hE.mol F.mo.length;rw[List.take_length,<-cC]at Cq;obtain⟨FF,WF,hFF⟩:=I;have hlen:(df F).length<=100000:=by rw[BL];simp only[List.length_append];omega
    simp-implicitDefEqProofs only[go_sem,↓reduceIte,Za,Zb,Zc,reduceCtorEq,Zf,Zg,Zh,Zi,Zd,Ze];refine(c.out FF w (df F) Y WF (by omega)).mono ?_;rintro r Z ⟨O,o,KZ⟩;have sY:=KY.size;rw[ae];simp-implicitDefEqProofs only[go_sem,↓reduceIte,Za,Zb,Zc,reduceCtorEq,ae,Zf,Zg,Zh,Zi,Zd,Ze];rw[hQ];exact⟨O,fun q hq=>by have:=o q hq;omega,(bj KY).trans KZ⟩
end Go.Mg
namespace Go.Mg
open Go Go.RowKit
def Ia (ι:aG):S:=
 kY [kR 1 (ι.t 289) 0,kC 2 (kZ)] (kY [kG 12 0 1,kD 13 12,kL 14 13,kU 15 (.ii .u64 (.t 14)),.e (.t 16) (.call (ι.f 61) [.t 15]),kB 3 16] (.seq (kY [kG 17 0 1,kV 18 (.ld (.t 17)),kO 19 18,kC 20 (.int .i64 0)] (.blk 0 (.loop (kY [kH 21 20 19] (.seq (.ite (.v 21) .skip (.exit 0)) (.seq (.blk 1 (kY [kK 22 2 18 20,kN 23 2 22,.e (.v 5) (.new (ι.t 290) #[.string ⟨#[]⟩,.int .i64 0]),.e .no (.stn 2 (.v 5) (.t 23))] (kY [kA 24 3,kG 25 0 5,kD 26 25,.e (.t 27) (.s2b (ι.t 19) (.t 26)),.e (.t 28) (.call (ι.f 62) [.t 27]),.e (.t 29) (.app false (ι.t 19) 1 1 #[.int .u8 0] (.t 24) (.t 28)),kB 3 29] (.reg [kA 30 3,kG 31 1 5,kD 32 31,kU 33 (.ii .u64 (.t 32)),.e (.t 34) (.call (ι.f 61) [.t 33]),.e (.t 35) (.app false (ι.t 19) 1 1 #[.int .u8 0] (.t 30) (.t 34)),kB 3 35])))) (.reg [ke 36 20,kB 20 36]))))))) (.seq (kY [kG 37 1 1,kD 38 37,kG 39 2 1,kD 40 39,kG 41 3 1,kD 42 41,.e (.v 43) (.aV (ι.t 235) 1 3 [.t 38,.t 40,.t 42]),kO 44 43,kC 45 (.int .i64 0)] (.blk 2 (.loop (kY [kH 46 45 44] (.seq (.ite (.v 46) .skip (.exit 2)) (.seq (.blk 3 (kY [kK 47 1 43 45,kD 48 47,kB 7 48] (kY [kA 49 3,kA 50 7,kL 51 50,kU 52 (.ii .u64 (.t 51)),.e (.t 53) (.call (ι.f 61) [.t 52]),.e (.t 54) (.app false (ι.t 19) 1 1 #[.int .u8 0] (.t 49) (.t 53)),kB 3 54] (kY [kV 55 (.mv (.v 7)),kO 56 55,kC 57 (.int .i64 0)] (.blk 4 (.loop (kY [kH 58 57 56] (.seq (.ite (.v 58) .skip (.exit 4)) (.seq (.blk 5 (kY [kK 59 2 55 57,kN 60 2 59,.e (.v 9) (.new (ι.t 194) #[.int .i64 0,.int .i64 0]),.e .no (.stn 2 (.v 9) (.t 60))] (kY [kA 61 3,kP 62 2 1 9 0,kD 63 62,kU 64 (.ii .u64 (.t 63)),.e (.t 65) (.call (ι.f 61) [.t 64]),.e (.t 66) (.app false (ι.t 19) 1 1 #[.int .u8 0] (.t 61) (.t 65)),kB 3 66] (.reg [kA 67 3,kP 68 2 1 9 1,kD 69 68,kU 70 (.ii .u64 (.t 69)),.e (.t 71) (.call (ι.f 61) [.t 70]),.e (.t 72) (.app false (ι.t 19) 1 1 #[.int .u8 0] (.t 67) (.t 71)),kB 3 72])))) (.reg [ke 73 57,kB 57 73])))))))))) (.reg [ke 74 45,kB 45 74]))))))) (kY [kA 75 3,kG 76 4 1,kD 77 76,kL 78 77,kU 79 (.ii .u64 (.t 78)),.e (.t 80) (.call (ι.f 61) [.t 79]),.e (.t 81) (.app false (ι.t 19) 1 1 #[.int .u8 0] (.t 75) (.t 80)),kB 3 81] (.seq (kY [kG 82 4 1,kV 83 (.ld (.t 82)),kO 84 83,kC 85 (.int .i64 0)] (.blk 6 (.loop (kY [kH 86 85 84] (.seq (.ite (.v 86) .skip (.exit 6)) (.seq (.blk 7 (kY [kK 87 2 83 85,kN 88 2 87,.e (.v 11) (.new (ι.t 291) #[.int .i64 0,.int .u64 0]),.e .no (.stn 2 (.v 11) (.t 88))] (kY [kA 89 3,kG 90 0 11,kD 91 90,kU 92 (.ii .u64 (.t 91)),.e (.t 93) (.call (ι.f 61) [.t 92]),.e (.t 94) (.app false (ι.t 19) 1 1 #[.int .u8 0] (.t 89) (.t 93)),kB 3 94] (.reg [kA 95 3,kG 96 1 11,kD 97 96,.e (.t 98) (.call (ι.f 282) [.t 97]),.e (.t 99) (.call (ι.f 347) [.t 98]),.e (.t 100) (.app false (ι.t 19) 1 1 #[.int .u8 0] (.t 95) (.t 99)),kB 3 100])))) (.reg [ke 101 85,kB 85 101]))))))) (kY [kA 102 3,kB 2 102] .ret))))))
def Ib:List RV:=[.t 2]
def nO (P:Program) (k:FuncId):Prop:=∀(F:cf) (v:Value) (H:Hp),c9 H v F->HW F->an P k #[v] H fun r H'=>bq H' r (w8 (df F))/\(∀q,ax r q->H.size<=q)/\af (fun _=>False) H H'
structure afl (P:Program) (ι:aG):Prop where
 put:jY P (ι.f 61)
 aaD:js P (ι.f 62)
 aaE:me P (ι.f 347)
 mem:mD P (ι.f 282)
structure xj (C:Nat) (H3:Hp) (v:Value) (l:List UInt8) (A:Hp):Prop where
 o:bq A v (w8 l)
 n:∀q,ax v q->C<=q
 k:af (fun q=>C<=q) H3 A
variable {C:Nat} {H3 A:Hp} {v:Value} {l:List UInt8}
theorem xj.aj {A':Hp} (h:xj C H3 v l A) (hk:af (fun _=>False) A A'):xj C H3 v l A':=⟨h.o.ai hk (by simp),h.n,h.k.trans hk.any⟩
theorem xj.app {m:List UInt8} (h:xj C H3 v l A) (hC:C<=A.size) {x:Value} (hx:bq A x (w8 m)) (hl:l.length+m.length<=1000000000) {T:TypeId} {K:Value->Hp->Prop}
  (hK:∀v' A',xj C H3 v' (l++m) A'->af (ax v) A A'->(∀q,ax v' q->ax v q\/A.size<=q)->K v' A'):iM false T 1 1 #[.int .u8 0] v x A K:=
 qi h.o hx.sl rfl hl fun v' A' O K' o=>hK v' A' ⟨O,fun q hq=>by
  rcases o q hq with h'|h'
  ·exact h.n q h'
  ·omega,h.k.trans (K'.mono fun q _ hq=>h.n q hq)⟩ K' o
theorem xj.nb (h:xj C H3 v l A) {b:Nat} (hb:A.size<=b):¬ax v b:=fun hq=>by have:=h.o.bj hq;omega
theorem VZ {P:Program} {ι:aG} {k:FuncId} (hk:al P k (Ia ι) Ib 1) (c:afl P ι):nO P k:=by
 intro F v H hv hE;refine qI fun Q hQ=>?_;obtain⟨s,b,d,a,m,rfl,h1,h2,h3,h4,h5⟩:=hv;obtain⟨b0,bc,eb,-⟩:=h2.mk;obtain⟨d0,dc,ed,-⟩:=h3.mk;obtain⟨a0,ac,ea,-⟩:=h4.mk;refine ah hk (args:=[_]) (by simp) ?_;unfold Ia Ib kA kB kC kD ke kG kH kK kL kN kO kP kR kU kV kY kZ;simp-implicitDefEqProofs only[go_sem,↓reduceIte,Za,Zb,Zc,reduceCtorEq,Zf,Zg,Zh,Zi,Zd,Ze];refine ay fun H1 b1 e1 z1 B1 K1=>?_;have bQ:Bl H1 b1 [s,b,d,a,m]:=B1;have s1:=K1.size;have cl:∀{A:Hp},Bl A b1 [s,b,d,a,m]->cell A ⟨b1,0,none⟩=some s/\cell A ⟨b1,1,none⟩=some b/\cell A ⟨b1,2,none⟩=some d/\cell A ⟨b1,3,none⟩=some a/\cell A ⟨b1,4,none⟩=some m:=fun B=>⟨by rw[B.cell];rfl,by rw[B.cell];rfl,by rw[B.cell];rfl,by rw[B.cell];rfl,by rw[B.cell];rfl⟩
 have l1:=hE.st.1;simp-implicitDefEqProofs only[go_sem,↓reduceIte,Za,Zb,Zc,reduceCtorEq,Zf,Zg,Zh,Zi,Zd,Ze,(cl bQ).1,h1.aq,h1.len,kr (show(0:Int)<=(F.st.length:Int) by omega) (show(F.st.length:Int)<=1000000 by omega),Int.toNat_natCast];refine(c.put F.st.length H1 (by omega)).mono ?_;rintro r H2 ⟨O2,o2,K2⟩;have B2:=K2.bl bQ (by simp);have fk:=K1.trans K2;have s2:=K2.size;obtain⟨C,hC⟩:∃C,C=H1.size:=⟨_,rfl⟩
 rw[<-hC]at o2;have WZ:b1<C:=by omega
 have I2:xj C H1 r (du F.st.length) H2:=⟨O2,o2,K2.any⟩
 have bj:∀{A':Hp} {v:Value} {l:List UInt8},xj C H1 v l A'->af (fun _=>False) H A':=fun I=>K1.trans' I.k fun q hq e=>by omega
 have bl1:∀{A':Hp} {v:Value} {l:List UInt8},xj C H1 v l A'->Bl A' b1 [s,b,d,a,m]:=fun I=>I.k.bl bQ (by omega);have sz:∀{A':Hp} {v:Value} {l:List UInt8},xj C H1 v l A'->C<=A'.size:=fun I=>by have:=I.k.size;omega
 rw[ae];simp-implicitDefEqProofs only[go_sem,↓reduceIte,Za,Zb,Zc,reduceCtorEq,Zf,Zg,Zh,Zi,Zd,Ze,(cl B2).1,h1.aq,h1.len];refine aD F.st.length [21,5,3,20] rfl rfl (by omega) (by rfl) (by rfl) (fun i g A=>∃v,g 3=v/\xj C H1 v (du F.st.length++(F.st.take i).flatMap dQ) A) ⟨r,by simp-implicitDefEqProofs only[go_sem,↓reduceIte,Za,Zb,Zc,reduceCtorEq,ae,Zf,Zg,Zh,Zi,Zd,Ze],by simpa using I2⟩ ?_ ?_
 ·rintro i g A hi gi gn ⟨v3,g3,I⟩;simp-implicitDefEqProofs only[go_sem,↓reduceIte,Za,Zb,Zc,reduceCtorEq,ae,Zf,Zg,Zh,Zi,Zd,Ze]at gi gn g3;have KH:=bj I;obtain⟨sb,so,sc,e,-,hld⟩:=(h1.aj KH).elem dD (i:=i) hi;have hx:=hE.st.2 _ (List.getElem_mem hi);have hb:=hE.stl i;simp-implicitDefEqProofs only[go_sem,↓reduceIte,Za,Zb,Zc,reduceCtorEq,Zf,Zg,Zh,Zi,Zd,Ze,gi,g3,e,ak,aC,hld];refine⟨⟨by omega,by omega⟩,?_⟩;refine aN (cj F.st[i]) (by rfl) rfl rfl (List.all_eq_true.2 (jh _)) fun A1 b5 e5 z5 B5 K5=>?_;have J1:=I.aj K5;have c0:cell A1 ⟨b5,0,none⟩=some (sV F.st[i].1):=by rw[B5.cell];rfl
  simp-implicitDefEqProofs only[go_sem,↓reduceIte,Za,Zb,Zc,reduceCtorEq,Zf,Zg,Zh,Zi,Zd,Ze,g3,c0,sV];intro cc hcc;have hcc:F.st[i].1.length<=cc:=hcc;obtain⟨K6,S6⟩:=JN A1 F.st[i].1 (ι.t 19) cc hcc;rw[ae];generalize Array.push A1 _=A2 at*;have J2:=J1.aj K6;have hb2:=aP F.st[i].1.length (by omega);simp-implicitDefEqProofs only[go_sem,↓reduceIte,Za,Zb,Zc,reduceCtorEq,Zf,Zg,Zh,Zi,Zd,Ze,g3];refine(c.aaD _ _ A2 S6 (by omega)).mono ?_;rintro r3 A3 ⟨O3,o3,K7⟩;have J3:=J2.aj K7;rw[ae];simp-implicitDefEqProofs only[go_sem,↓reduceIte,Za,Zb,Zc,reduceCtorEq,Zf,Zg,Zh,Zi,Zd,Ze,g3];refine J3.app (sz J3) O3 (by simp only[dw,List.length_append]at hb⊢;omega) fun v4 A4 J4 L4 o4=>?_;have B53:=(K6.trans K7).bl B5 (by simp);have nb3:¬ax v3 b5:=I.nb (by omega);have B54:=L4.bl B53 nb3;have c1:cell A4 ⟨b5,1,none⟩=some (.int .i64 F.st[i].2):=by rw[B54.cell];rfl
  rw[ae];simp-implicitDefEqProofs only[go_sem,↓reduceIte,Za,Zb,Zc,reduceCtorEq,Zf,Zg,Zh,Zi,Zd,Ze,c1,kr hx.2.1 (by omega)];refine(c.put _ A4 (by omega)).mono ?_;rintro r5 A5 ⟨O5,o5,K8⟩;have J5:=J4.aj K8;have Cq:=aP F.st[i].2.toNat (by omega);rw[ae];simp-implicitDefEqProofs only[go_sem,↓reduceIte,Za,Zb,Zc,reduceCtorEq,Zf,Zg,Zh,Zi,Zd,Ze];refine J5.app (sz J5) O5 (by simp only[dw,List.length_append]at hb⊢;omega) fun v6 A6 J6 L6 o6=>?_;rw[ae];simp-implicitDefEqProofs only[go_sem,↓reduceIte,Za,Zb,Zc,reduceCtorEq,ae,Zf,Zg,Zh,Zi,Zd,Ze];refine⟨v6,rfl,?_⟩;rw[dh _ hi,dQ];simp only[<-List.append_assoc]at J6⊢;exact J6
 ·rintro g A -⟨v3,g3,I⟩;rw[List.take_length]at I;simp-implicitDefEqProofs only[go_sem,↓reduceIte,Za,Zb,Zc,reduceCtorEq,ae,Zf,Zg,Zh,Zi,Zd,Ze]at g3;obtain⟨-,q1,q2,q3,-⟩:=cl (bl1 I);obtain⟨us,hus⟩:∃us,us=[b,d,a]:=⟨_,rfl⟩
  have hul:us.length=3:=by rw[hus];rfl
  have hsl:∀j<3,ql H (us.getD j undef) ((L3 F).getD j [])/\(L3 F).getD j []∈L3 F:=fun j hj=>by
   have:j=0\/j=1\/j=2:=by omega
   rw[hus];rcases this with rfl|rfl|rfl
   ·exact⟨h2,by simp[L3]⟩
   ·exact⟨h3,by simp[L3]⟩
   ·exact⟨h4,by simp[L3]⟩
  rw[eb]at q1;rw[ed]at q2;rw[ea]at q3;simp-implicitDefEqProofs only[go_sem,↓reduceIte,Za,Zb,Zc,reduceCtorEq,Zf,Zg,Zh,Zi,Zd,Ze,q1,q2,q3,Value.cells];refine aF fun A1 V3 e43 z43 B43 K43=>?_;have afm:Bl A1 V3 us:=by rw[hus,eb,ed,ea];exact B43
  have s43:=K43.size;have I1:=I.aj K43;have afn:¬ax v3 V3:=I.nb (by omega);clear hus B43;simp-implicitDefEqProofs only[go_sem,↓reduceIte,Za,Zb,Zc,reduceCtorEq,Zf,Zg,Zh,Zi,Zd,Ze];have hL3:(L3 F).length=3:=rfl;refine aD 3 [46,7,3,55,56,57,58,9,45] rfl rfl (by omega) (by rfl) (by rfl) (fun j g X=>∃v,g 3=v/\xj C H1 v (cC dQ F.st++((L3 F).take j).flatMap (cC dR)) X/\Bl X V3 us/\¬ax v V3) ⟨v3,by simp-implicitDefEqProofs only[go_sem,↓reduceIte,Za,Zb,Zc,reduceCtorEq,ae,Zf,Zg,Zh,Zi,Zd,Ze,g3],by simpa[cC]using I1,afm,afn⟩ ?_ ?_
  ·rintro j g2 X hj gi gn ⟨w3,g23,J,BX,nX⟩;simp-implicitDefEqProofs only[go_sem,↓reduceIte,Za,Zb,Zc,reduceCtorEq,ae,Zf,Zg,Zh,Zi,Zd,Ze]at gi gn g23;obtain⟨zT,hmem⟩:=hsl j hj;obtain⟨hpr,Cr⟩:=hE.l3 hmem;have Rl:=zT.aj (bj J);have IP:cell X ⟨V3,j,none⟩=some (us.getD j undef):=by
    rw[BX.cell,List.getElem?_eq_getElem (by omega),List.getD_eq_getElem?_getD,List.getElem?_eq_getElem (by omega)];rfl
   have hb1:=hE.stl F.st.length;rw[List.take_length]at hb1;have hb1:(cC dQ F.st).length<=400:=hb1;have hb2:=hE.l3l j;generalize hU:us.getD j undef=u at*;generalize hL:(L3 F).getD j []=pl at*;have aaC:pl.length<=9223372036854775807:=by omega
   have hb0:=aP pl.length (by omega);simp-implicitDefEqProofs only[go_sem,↓reduceIte,Za,Zb,Zc,reduceCtorEq,Zf,Zg,Zh,Zi,Zd,Ze,gi,g23,ak,IP,Rl.aq,Rl.len,kr (show(0:Int)<=(pl.length:Int) by omega) (show(pl.length:Int)<=1000000 by omega),Int.toNat_natCast];refine⟨by omega,(c.put pl.length X (by omega)).mono ?_⟩;rintro r3 X1 ⟨O3,o3,L1⟩;have J1:=J.aj L1;have BX1:=L1.bl BX (by simp);rw[ae];simp-implicitDefEqProofs only[go_sem,↓reduceIte,Za,Zb,Zc,reduceCtorEq,Zf,Zg,Zh,Zi,Zd,Ze,g23];refine J1.app (sz J1) O3 (by simp only[List.length_append];omega) fun v4 X2 J2 L2 o4=>?_;have BX2:=L2.bl BX1 nX;have n4:¬ax v4 V3:=fun hq=>by
    rcases o4 _ hq with h|h
    ·exact nX h
    ·have:=BX1.lt;omega
   have XK:=zT.aj (bj J2);rw[ae];simp-implicitDefEqProofs only[go_sem,↓reduceIte,Za,Zb,Zc,reduceCtorEq,Zf,Zg,Zh,Zi,Zd,Ze,XK.aq,XK.len];refine aD pl.length [58,9,3,57] rfl rfl aaC (by rfl) (by rfl) (fun i g Y=>∃v,g 3=v/\xj C H1 v (cC dQ F.st++((L3 F).take j).flatMap (cC dR)++(du pl.length++(pl.take i).flatMap dR)) Y/\Bl Y V3 us/\¬ax v V3) ⟨v4,by simp-implicitDefEqProofs only[go_sem,↓reduceIte,Za,Zb,Zc,reduceCtorEq,ae,Zf,Zg,Zh,Zi,Zd,Ze],by simpa[cC]using J2,BX2,n4⟩ ?_ ?_
   ·rintro i g3' Y hi gi gn ⟨y3,Ic,I,BY,nY⟩;simp-implicitDefEqProofs only[go_sem,↓reduceIte,Za,Zb,Zc,reduceCtorEq,ae,Zf,Zg,Zh,Zi,Zd,Ze]at gi gn Ic;obtain⟨sb,so,sc,e,-,hld⟩:=(zT.aj (bj I)).elem eH (i:=i) hi;have hx:=hpr _ (List.getElem_mem hi);have Cq:=BM hpr Cr i;simp-implicitDefEqProofs only[go_sem,↓reduceIte,Za,Zb,Zc,reduceCtorEq,Zf,Zg,Zh,Zi,Zd,Ze,gi,Ic,e,ak,aC,hld];refine⟨⟨by omega,by omega⟩,?_⟩;refine aN (pE pl[i]) (by rfl) rfl rfl (List.all_eq_true.2 (fX _)) fun Y1 b9 e9 z9 B9 K9=>?_;have J1:=I.aj K9;have n9:¬ax y3 b9:=I.nb (by omega);have c0:cell Y1 ⟨b9,0,none⟩=some (.int .i64 pl[i].1):=by rw[B9.cell];rfl
    have w7:=aP pl[i].1.toNat (by omega);have w8':=aP pl[i].2.toNat (by omega);simp-implicitDefEqProofs only[go_sem,↓reduceIte,Za,Zb,Zc,reduceCtorEq,Zf,Zg,Zh,Zi,Zd,Ze,Ic,c0,kr hx.1 (by omega)];refine(c.put _ Y1 (by omega)).mono ?_;rintro r5 Y2 ⟨O5,o5,K5⟩;have J2:=J1.aj K5;have BY2:=(K9.trans K5).bl BY (by simp);rw[ae];simp-implicitDefEqProofs only[go_sem,↓reduceIte,Za,Zb,Zc,reduceCtorEq,Zf,Zg,Zh,Zi,Zd,Ze,Ic];refine J2.app (sz J2) O5 (by simp only[List.length_append]at Cq⊢;omega) fun v6 Y3 J3 N0 o6=>?_;have B93:=N0.bl (K5.bl B9 (by simp)) n9;have BY3:=N0.bl BY2 nY;have n6:¬ax v6 V3:=fun hq=>by
     rcases o6 _ hq with h|h
     ·exact nY h
     ·have:=BY2.lt;omega
    have c1:cell Y3 ⟨b9,1,none⟩=some (.int .i64 pl[i].2):=by rw[B93.cell];rfl
    rw[ae];simp-implicitDefEqProofs only[go_sem,↓reduceIte,Za,Zb,Zc,reduceCtorEq,Zf,Zg,Zh,Zi,Zd,Ze,c1,kr hx.2.2.1 (by omega)];refine(c.put _ Y3 (by omega)).mono ?_;rintro r7 Y4 ⟨O7,o7,K7⟩;have J4:=J3.aj K7;have BY4:=K7.bl BY3 (by simp);rw[ae];simp-implicitDefEqProofs only[go_sem,↓reduceIte,Za,Zb,Zc,reduceCtorEq,Zf,Zg,Zh,Zi,Zd,Ze];refine J4.app (sz J4) O7 (by simp only[List.length_append]at Cq⊢;omega) fun v8 Y5 J5 L5 o8=>?_;rw[ae];simp-implicitDefEqProofs only[go_sem,↓reduceIte,Za,Zb,Zc,reduceCtorEq,ae,Zf,Zg,Zh,Zi,Zd,Ze];refine⟨v8,rfl,?_,L5.bl BY4 n6,fun hq=>?_⟩
    ·rw[dh _ hi,dR];simp only[<-List.append_assoc]at J5⊢;exact J5
    ·rcases o8 _ hq with h|h
     ·exact n6 h
     ·have:=BY4.lt;omega
   ·rintro g3' Y -⟨y3,Ic,I,BY,nY⟩;simp-implicitDefEqProofs only[go_sem,↓reduceIte,Za,Zb,Zc,reduceCtorEq,ae,Zf,Zg,Zh,Zi,Zd,Ze]at Ic;simp-implicitDefEqProofs only[go_sem,↓reduceIte,Za,Zb,Zc,reduceCtorEq,ae,Zf,Zg,Zh,Zi,Zd,Ze];refine⟨y3,Ic,?_,BY,nY⟩;rw[List.take_length,List.append_assoc]at I;have Tp:j<(L3 F).length:=by rw[hL3];exact hj
    have e:(L3 F)[j]=pl:=by rw[<-hL,List.getD_eq_getElem?_getD,List.getElem?_eq_getElem Tp];rfl
    rw[dh _ Tp,e];exact I
  ·rintro g2 X -⟨w3,g23,J,BX,nX⟩;rw[show(L3 F).take 3=L3 F by rw[<-hL3,List.take_length]]at J;simp-implicitDefEqProofs only[go_sem,↓reduceIte,Za,Zb,Zc,reduceCtorEq,ae,Zf,Zg,Zh,Zi,Zd,Ze]at g23;have q4:=(cl (bl1 J)).2.2.2.2;have hb1:=hE.stl F.st.length;rw[List.take_length]at hb1;have hb1:(cC dQ F.st).length<=400:=hb1;have hb2:=hE.l3l 3;rw[show(L3 F).take 3=L3 F by rw[<-hL3,List.take_length]]at hb2;have nQ:=hE.mo.1;have hb0:=aP F.mo.length (by omega);simp-implicitDefEqProofs only[go_sem,↓reduceIte,Za,Zb,Zc,reduceCtorEq,Zf,Zg,Zh,Zi,Zd,Ze,g23,q4,h5.aq,h5.len,kr (show(0:Int)<=(F.mo.length:Int) by omega) (show(F.mo.length:Int)<=1000000 by omega),Int.toNat_natCast];refine(c.put F.mo.length X (by omega)).mono ?_;rintro r3 X1 ⟨O3,o3,L1⟩;have J1:=J.aj L1;rw[ae];simp-implicitDefEqProofs only[go_sem,↓reduceIte,Za,Zb,Zc,reduceCtorEq,Zf,Zg,Zh,Zi,Zd,Ze,g23];refine J1.app (sz J1) O3 (by simp only[List.length_append];omega) fun v4 X2 J2 L2 o4=>?_;have q4:=(cl (bl1 J2)).2.2.2.2;rw[ae];simp-implicitDefEqProofs only[go_sem,↓reduceIte,Za,Zb,Zc,reduceCtorEq,Zf,Zg,Zh,Zi,Zd,Ze,q4,h5.aq,h5.len];refine aD F.mo.length [86,11,3,85] rfl rfl (by omega) (by rfl) (by rfl) (fun i g Y=>∃v,g 3=v/\xj C H1 v (cC dQ F.st++(L3 F).flatMap (cC dR)++(du F.mo.length++(F.mo.take i).flatMap mh)) Y) ⟨v4,by simp-implicitDefEqProofs only[go_sem,↓reduceIte,Za,Zb,Zc,reduceCtorEq,ae,Zf,Zg,Zh,Zi,Zd,Ze],by simpa[cC]using J2⟩ ?_ ?_
   ·rintro i g3' Y hi gi gn ⟨y3,Ic,I⟩;simp-implicitDefEqProofs only[go_sem,↓reduceIte,Za,Zb,Zc,reduceCtorEq,ae,Zf,Zg,Zh,Zi,Zd,Ze]at gi gn Ic;obtain⟨sb,so,sc,e,-,hld⟩:=(h5.aj (bj I)).elem ph (i:=i) hi;have hx:=hE.mo.2 _ (List.getElem_mem hi);have Cq:=hE.mol i;have hs8:=mg F.mo[i].2;have w7:=aP F.mo[i].1.toNat (by omega);have w8':=aP (j0 F.mo[i].2).length (by omega);simp-implicitDefEqProofs only[go_sem,↓reduceIte,Za,Zb,Zc,reduceCtorEq,Zf,Zg,Zh,Zi,Zd,Ze,gi,Ic,e,ak,aC,hld];refine⟨⟨by omega,by omega⟩,?_⟩;refine aN (mP F.mo[i]) (by rfl) rfl rfl (List.all_eq_true.2 (DD _)) fun Y1 b11 e11 z11 B11 La=>?_;have J1:=I.aj La;have n11:¬ax y3 b11:=I.nb (by omega);have c0:cell Y1 ⟨b11,0,none⟩=some (.int .i64 F.mo[i].1):=by rw[B11.cell];rfl
    simp-implicitDefEqProofs only[go_sem,↓reduceIte,Za,Zb,Zc,reduceCtorEq,Zf,Zg,Zh,Zi,Zd,Ze,Ic,c0,kr hx.1 (by omega)];refine(c.put _ Y1 (by omega)).mono ?_;rintro r5 Y2 ⟨O5,o5,K5⟩;have J2:=J1.aj K5;rw[ae];simp-implicitDefEqProofs only[go_sem,↓reduceIte,Za,Zb,Zc,reduceCtorEq,Zf,Zg,Zh,Zi,Zd,Ze,Ic];refine J2.app (sz J2) O5 (by simp only[List.length_append]at Cq⊢;omega) fun v6 Y3 J3 N0 o6=>?_;have afo:=N0.bl (K5.bl B11 (by simp)) n11;have c1:cell Y3 ⟨b11,1,none⟩=some (.int .u64 F.mo[i].2.toNat):=by rw[afo.cell];rfl
    rw[ae];simp-implicitDefEqProofs only[go_sem,↓reduceIte,Za,Zb,Zc,reduceCtorEq,Zf,Zg,Zh,Zi,Zd,Ze,c1];refine(c.mem F.mo[i].2 Y3).mono ?_;rintro r6 Y4 ⟨O6,o6',K6⟩;have hle:((List.range 64).filter (bt F.mo[i].2)).length<=64:=by
     have:=List.length_filter_le (bt F.mo[i].2) (List.range 64);simp at this;omega
    rw[ae];simp-implicitDefEqProofs only[go_sem,↓reduceIte,Za,Zb,Zc,reduceCtorEq,Zf,Zg,Zh,Zi,Zd,Ze];refine(c.aaE _ (j0 F.mo[i].2) r6 Y4 O6.sl (by omega) (fun n hn=>by have:=(List.mem_filter.1 hn).1;rw[List.mem_range]at this;omega) (mf _) fun n=>?_).mono ?_
    ·rw[dP,Bool.eq_iff_iff,decide_eq_true_eq,List.mem_filter,List.mem_range];exact⟨fun h=>⟨rV h,h⟩,fun h=>h.2⟩
    rintro r7 Y5 ⟨O7,o7,K7⟩;have J4:=J3.aj (K6.trans K7);rw[ae];simp-implicitDefEqProofs only[go_sem,↓reduceIte,Za,Zb,Zc,reduceCtorEq,Zf,Zg,Zh,Zi,Zd,Ze];refine J4.app (sz J4) O7 (by simp only[dw,List.length_append]at Cq⊢;omega) fun v8 Y6 J5 L5 o8=>?_;rw[ae];simp-implicitDefEqProofs only[go_sem,↓reduceIte,Za,Zb,Zc,reduceCtorEq,ae,Zf,Zg,Zh,Zi,Zd,Ze];refine⟨v8,rfl,?_⟩;rw[dh _ hi,mh];simp only[<-List.append_assoc]at J5⊢;exact J5
   ·rintro g3' Y -⟨y3,Ic,I⟩;rw[List.take_length,List.append_assoc,<-cC,<-BL]at I;simp-implicitDefEqProofs only[go_sem,↓reduceIte,Za,Zb,Zc,reduceCtorEq,ae,Zf,Zg,Zh,Zi,Zd,Ze]at Ic;simp-implicitDefEqProofs only[go_sem,↓reduceIte,Za,Zb,Zc,reduceCtorEq,ae,Zf,Zg,Zh,Zi,Zd,Ze,Ic];rw[hQ];exact⟨I.o,fun q hq=>by have:=I.n q hq;omega,bj I⟩
end Go.Mg

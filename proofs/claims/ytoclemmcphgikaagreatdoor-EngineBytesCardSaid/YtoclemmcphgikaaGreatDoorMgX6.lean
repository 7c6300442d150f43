/- Lemmas of ours. No conditions. -/
import Derived.Test.YtoclemmcphgikaaGreatDoorMgX3
open Bool renaming false→ZS,true→ZT
open Decidable renaming decide→ZQ
open Go renaming Value→ZR
open Go.IntKind renaming i64→ZY,u64→ZW,u8→ZX
open Go.Value renaming int→Z8,pointer→Z7,tuple→ZZ
open Option renaming none→ZU,some→ZV
open Bool renaming and_false→Ya
open Classical renaming byContradiction→Zn
open Int renaming toNat_natCast→Zo,toNat_of_nonneg→X8
open List renaming append_assoc→ZA,flatMap_cons→Zq,getD_eq_getElem?_getD→ZP,getElem?_eq_getElem→ZO,getElem_mem→ZL,length_append→ZK,length_take→Zr,mem_of_mem_take→YA,mem_range→YK,range→ZF,take_length→ZI,take_succ_eq_append_getElem→Zw
open Nat renaming mul_le_mul_left→Xr,pow_le_pow_right→YO
open Nat renaming reduceEqDiff→Za,reduceAdd→Zb,reduceMul→Zc,reduceLeDiff→Zd,reduceLT→Ze
open Int renaming reduceBEq→Zf,reduceBNe→Zg,reduceLE→Zh,reduceLT→Zi
set_option maxRecDepth 100000
set_option linter.all false
namespace Go.Mg
abbrev RS:=List UInt8×Int
def iQ (m:UInt64):List UInt8:=if m=0 then[]else Pt [m] ((ef m.toNat -1)/8+1)
def T7 (m:UInt64) (n:Nat):cC [m] n=bt m n:=by
 by_cases h:n<64
 ·have:=gV [m] 0 n h;rw[Nat.mul_zero,Nat.zero_add]at this;exact this
 ·rw[fZ (by simp;omega)]
  cases e:bt m n with
  |false=>rfl
  |true=>exact absurd (pY e) h
def eC (m:UInt64) (n:Nat):bP (iQ m) n=bt m n:=by
 unfold iQ
 split
 ·next h=>subst h;rw[gF,eF]
 ·next h=>
  obtain⟨l1,l2,l3,l4⟩:=jH h
  by_cases hn:n<8*((ef m.toNat -1)/8+1)
  ·rw[MB _ _ _ hn,T7]
  ·rw[lE (by rw[eI];omega)]
   cases e:bt m n with
   |false=>rfl
   |true=>have:=l4 n e;omega
def nh (m:UInt64):eZ (iQ m):=by
 refine eZ.mC fun h=>?_;have hm:m≠0:=fun e=>h (by unfold iQ;rw[if_pos e]);obtain⟨l1,l2,l3,l4⟩:=jH hm;refine⟨ef m.toNat -1,by rw[eC];exact l3,?_⟩;unfold iQ;rw[if_neg hm,eI];omega
def ni (m:UInt64):(iQ m).length<=8:=by
 unfold iQ
 split
 ·simp
 ·next h=>
  obtain⟨l1,l2,l3,l4⟩:=jH h;rw[eI];omega
def Dp (p:Nat->Bool):∀k,k<=64->∃m:UInt64,∀n,bt m n=(ZQ (n<k)&&p n)
 |0,_=>⟨0,fun n=>by rw[eF,decide_eq_false (by omega),Bool.false_and]⟩
 |k+1,h=>by
  obtain⟨m,hm⟩:=Dp p k (by omega)
  cases e:p k with
  |false=>
   refine⟨m,fun n=>?_⟩;rw[hm]
   by_cases hn:n=k
   ·subst hn;rw[e,Ya,Ya]
   ·congr 1
    rw[decide_eq_decide];omega
  |true=>
   refine⟨Gk m k,fun n=>?_⟩;rw[zZ m (by omega),hm]
   by_cases hn:n=k
   ·subst hn;rw[e,decide_eq_true (rfl:n=n),decide_eq_true (show n<n+1 by omega)];simp
   ·rw[decide_eq_false hn,Bool.or_false]
    congr 1
    rw[decide_eq_decide];omega
noncomputable def ads (p:Nat->Bool):UInt64:=(Dp p 64 (by omega)).choose
variable {p:Nat->Bool} {most n C w b:Nat} {m l:List UInt8} {x v:ZR} {α:Type} {F:cf} {N:Nat->Prop} {A A' H3:Hp} {P:Program} {j k:FuncId} {K:ZR->Hp->Prop} {V:aH}
def MD (h:∀n,p n=ZT->n<64) (n:Nat):bt (ads p) n=p n:=by
 rw[ads,(Dp p 64 (by omega)).choose_spec]
 cases e:p n with
 |false=>rw[Ya]
 |true=>rw[decide_eq_true (h n e)];rfl
def T8 (m:UInt64):ads (bP (iQ m))=m:=oP fun k hk=>by
 rw[MD (fun n h=>by rw[eC]at h;exact pY h),eC]
def dI (x:x9):List UInt8:=du x.1++dB x.2.toNat
def cW (x:fC):List UInt8:=dB x.1.toNat++dB x.2.toNat
def iR (x:tW):List UInt8:=dB x.1.toNat++du (iQ x.2)
def bQ {α:Type} (e:α->List UInt8) (l:List α):List UInt8:=dB l.length++l.flatMap e
def cN (F:cf):List UInt8:=bQ dI F.st++(bQ cW F.be++(bQ cW F.di++(bQ cW F.sa++bQ iR F.mo)))
def bq {α:Type} (f:RS->α×RS):Nat->RS->List α×RS
 |0,s=>([],s)
 |n+1,s=>((bq f n s).1++[(f (bq f n s).2).1],(f (bq f n s).2).2)
def eV {α:Type} (f:RS->α×RS):∀(n:Nat) (s:RS),(bq f n s).1.length=n
 |0,_=>rfl
 |n+1,s=>by simp[bq,eV f n s]
def cg {α:Type} (most:Nat) (f:RS->α×RS) (s:RS):List α×RS:=bq f (bF most s).1 (bF most s).2
def oJ (s:RS):x9×RS:=(((bj 12 s).1,((rdNum 63 (bj 12 s).2).1:Int)),(rdNum 63 (bj 12 s).2).2)
def fI (s:RS):fC×RS:=((((rdNum 10 s).1:Int),((rdNum 10 (rdNum 10 s).2).1:Int)),(rdNum 10 (rdNum 10 s).2).2)
noncomputable def oj (s:RS):tW×RS:=((((rdNum 10 s).1:Int),ads (bP (dg 10 (rdNum 10 s).2).1)),(dg 10 (rdNum 10 s).2).2)
noncomputable def pw (s:RS):cf×RS:=
 let a:=cg 10 oJ s
 let b:=cg 20 fI a.2
 let c:=cg 20 fI b.2
 let d:=cg 20 fI c.2
 let e:=cg 20 oj d.2
 (⟨a.1,b.1,c.1,d.1,e.1⟩,e.2)
def OJ {α:Type} (f:RS->α×RS) (e:α->List UInt8) (P:α->Prop):Prop:=∀x,P x->∀r,f (e x++r,0)=(x,(r,0))
def FO {α:Type} {f:RS->α×RS} {e:α->List UInt8} {P:α->Prop} (h:OJ f e P) {l:List α} (hl:∀x∈l,P x) (r:List UInt8):∀n,n<=l.length->bq f n (l.flatMap e++r,0)=(l.take n,((l.drop n).flatMap e++r,0))
 |0,_=>by simp[bq]
 |n+1,hn=>by
  rw[bq,FO h hl r n (by omega)];have hd:l.drop n=l[n]::l.drop (n+1):=List.drop_eq_getElem_cons (by omega);simp only;rw[hd,Zq,ZA,h _ (hl _ (ZL _)),Zw (by omega)]
def FP (h:n<=most) (hm:most<18446744073709551616) (r:List UInt8):bF most (dB n++r,0)=(n,(r,0)):=by
 unfold bF;rw[if_neg (by simp),xH _ (by omega)];simp only;rw[if_neg (by omega)]
def nj (h:n<=most) (hm:most<18446744073709551616) (r:List UInt8):rdNum most (dB n++r,0)=(n,(r,0)):=by
 unfold rdNum;rw[if_neg (by simp),xH _ (by omega)];simp only;rw[if_neg (by omega)]
def xN {m:Nat} {x:List UInt8} (h:x.length<=m) (hm:m<=1000000) (r:List UInt8):bj m (du x++r,0)=(x,(r,0)):=by
 unfold bj;rw[if_neg (by simp),du,ZA,xH _ (by omega)];simp only;rw[if_neg (by omega),if_neg (by simp),List.take_left,List.drop_left]
def j0 {f:RS->α×RS} {e:α->List UInt8} {P:α->Prop} (h:OJ f e P) {l:List α} (hl:∀x∈l,P x) (hm:l.length<=most) (hm2:most<18446744073709551616) (r:List UInt8):cg most f (bQ e l++r,0)=(l,(r,0)):=by
 unfold cg bQ;rw[ZA,FP hm hm2];simp only;rw[FO h hl r _ (Nat.le_refl _)];simp
def ME (hc:eZ m) (hl:m.length<=512) (hb:∀n,bP m n=ZT->n<=most) (r:List UInt8):dg most (du m++r,0)=(m,(r,0)):=by
 have:=xN (m:=512) hl (by omega) r;unfold dg;rw[this,if_neg (by simp),if_neg (by simp),if_neg (not_not_intro hc),if_neg (fun⟨n,h1,h2⟩=>by have:=hb n h1;omega)]
def agO:OJ oJ dI fun x=>x.1.length<=12/\0<=x.2/\x.2<=63:=by
 rintro⟨nm,ro⟩ ⟨h1,h2,h3⟩ r;simp only at h1 h2 h3;unfold oJ dI;simp only;rw[ZA,xN h1 (by omega)];simp only;rw[nj (by omega) (by omega)];simp only[X8 h2]
def T9:OJ fI cW fun x=>0<=x.1/\x.1<=10/\0<=x.2/\x.2<=10:=by
 rintro⟨a,b⟩ ⟨h1,h2,h3,h4⟩ r;simp only at h1 h2 h3 h4;unfold fI cW;simp only;rw[ZA,nj (by omega) (by omega)];simp only;rw[nj (by omega) (by omega)];simp only[X8 h1,X8 h3]
def aiT:OJ oj iR fun x=>0<=x.1/\x.1<=10/\x.2.toNat<2^11:=by
 rintro⟨a,m⟩ ⟨h1,h2,h3⟩ r;simp only at h1 h2 h3;have hb:∀n,bP (iQ m) n=ZT->n<=10:=fun n hn=>by
  rw[eC]at hn;apply Zn;intro hc;unfold bt at hn;rw[Nat.testBit_lt_two_pow (Nat.lt_of_lt_of_le h3 (YO (by omega) (by omega)))]at hn
  cases hn
 have hs:=ni m;unfold oj iR;simp only;rw[ZA,nj (by omega) (by omega)];simp only;rw[ME (nh m) (by omega) hb];simp only[X8 h1,T8]
structure FQ (F:cf):Prop where
 st:F.st.length<=10/\∀x∈F.st,x.1.length<=12/\0<=x.2/\x.2<=63
 be:F.be.length<=20/\∀x∈F.be,0<=x.1/\x.1<=10/\0<=x.2/\x.2<=10
 di:F.di.length<=20/\∀x∈F.di,0<=x.1/\x.1<=10/\0<=x.2/\x.2<=10
 sa:F.sa.length<=20/\∀x∈F.sa,0<=x.1/\x.1<=10/\0<=x.2/\x.2<=10
 mo:F.mo.length<=20/\∀x∈F.mo,0<=x.1/\x.1<=10/\x.2.toNat<2^11
def Dq (h:FQ F) (r:List UInt8):pw (cN F++r,0)=(F,(r,0)):=by
 unfold pw cN;simp only[ZA];rw[j0 agO h.st.2 h.st.1 (by omega)];simp only;rw[j0 T9 h.be.2 h.be.1 (by omega)];simp only;rw[j0 T9 h.di.2 h.di.1 (by omega)];simp only;rw[j0 T9 h.sa.2 h.sa.1 (by omega)];simp only;rw[j0 aiT h.mo.2 h.mo.1 (by omega)]
def xP {G:cf} (hF:FQ F) (hG:FQ G) {r t:List UInt8} (h:cN F++r=cN G++t):F=G/\r=t:=by
 have h1:=Dq hF r;rw[h,Dq hG t]at h1;simp only[Prod.mk.injEq,and_true]at h1;exact⟨h1.1.symm,h1.2.symm⟩
def fO (h:nM F=ZT):FQ F:=by
 obtain⟨hG,hs⟩:=G9.1 (qB.1 h);have hl:=hG.lim;have h10:=hG.lt;unfold iJ at hl;have pr:∀{l:List fC},(∀x∈l,kj (F.st.length:Int) x/\x.1≠x.2)->∀x∈l,0<=x.1/\x.1<=10/\0<=x.2/\x.2<=10:=fun hh x hx=>by
  have:=(hh x hx).1;unfold kj at this;omega
 refine⟨⟨h10,fun x hx=>?_⟩,⟨by omega,pr hG.be⟩,⟨by omega,pr hG.di⟩,⟨by omega,pr hG.sa⟩,⟨by omega,fun x hx=>?_⟩⟩
 ·obtain⟨i,hi,rfl⟩:=List.getElem_of_mem hx;have:=hs i hi;rw[ZP,ZO hi,Option.getD_some]at this;unfold si at this
  split at this
  ·omega
  ·next hv=>
   have hv:cY F.st[i].1=ZT:=by simpa using hv
   unfold cY at hv;simp only[Bool.and_eq_true,decide_eq_true_eq]at hv
   split at this
   ·omega
   ·split at this
    ·omega
    ·next hr=>exact⟨hv.1.1.1.2,by omega,by omega⟩
 ·have:=hG.mo x hx;unfold pk at this
  split at this
  ·omega
  ·next hh=>
   have hp:2^F.st.length<=2^11:=YO (by omega) (by omega);omega
def J0 (V:aH):S:=
 kY [kR 1 (V.t 296) 0,kC 2 (kZ)] (.seq (kY [kM 12 5 1,kc 13 (kg (V.f 312) [.t 12]),kV 14 (.not (.t 13))] (.ite (.v 14) (kY [kC 2 (kZ)] .ret) .skip)) (kY [kc 15 (kg (V.f 55) []),kB 3 15] (kY [kA 16 3,kG 17 0 1,kD 18 17,kL 19 18,kU 20 (.ii ZW (.t 19)),kc 21 (kg (V.f 57) [.t 16,.t 20])] (.seq (kY [kG 22 0 1,kV 23 (.ld (.t 22)),kO 24 23,kC 25 (Z8 ZY 0)] (.blk 0 (.loop (kY [kH 26 25 24] (.seq (.ite (.v 26) .skip (.exit 0)) (.seq (.blk 1 (kY [kK 27 2 23 25,kN 28 2 27,kd 5 (.new (V.t 297) #[.string ⟨#[]⟩,Z8 ZY 0]),kf (.stn 2 (.v 5) (.t 28))] (kY [kA 29 3,kG 30 0 5,kD 31 30,kc 32 (kg (V.f 59) [.t 29,.t 31])] (.reg [kA 33 3,kG 34 1 5,kD 35 34,kU 36 (.ii ZW (.t 35)),kc 37 (kg (V.f 57) [.t 33,.t 36])])))) (.reg [ke 38 25,kB 25 38]))))))) (.seq (kY [kG 39 1 1,kD 40 39,kG 41 2 1,kD 42 41,kG 43 3 1,kD 44 43,kd 45 (.aX (V.t 235) 1 3 [.t 40,.t 42,.t 44]),kO 46 45,kC 47 (Z8 ZY 0)] (.blk 2 (.loop (kY [kH 48 47 46] (.seq (.ite (.v 48) .skip (.exit 2)) (.seq (.blk 3 (kY [kK 49 1 45 47,kD 50 49,kB 7 50] (kY [kA 51 3,kA 52 7,kL 53 52,kU 54 (.ii ZW (.t 53)),kc 55 (kg (V.f 57) [.t 51,.t 54])] (kY [kV 56 (.mv (.v 7)),kO 57 56,kC 58 (Z8 ZY 0)] (.blk 4 (.loop (kY [kH 59 58 57] (.seq (.ite (.v 59) .skip (.exit 4)) (.seq (.blk 5 (kY [kK 60 2 56 58,kN 61 2 60,kd 9 (.new (V.t 194) #[Z8 ZY 0,Z8 ZY 0]),kf (.stn 2 (.v 9) (.t 61))] (kY [kA 62 3,kP 63 2 1 9 0,kD 64 63,kU 65 (.ii ZW (.t 64)),kc 66 (kg (V.f 57) [.t 62,.t 65])] (.reg [kA 67 3,kP 68 2 1 9 1,kD 69 68,kU 70 (.ii ZW (.t 69)),kc 71 (kg (V.f 57) [.t 67,.t 70])])))) (.reg [ke 72 58,kB 58 72])))))))))) (.reg [ke 73 47,kB 47 73]))))))) (kY [kA 74 3,kG 75 4 1,kD 76 75,kL 77 76,kU 78 (.ii ZW (.t 77)),kc 79 (kg (V.f 57) [.t 74,.t 78])] (.seq (kY [kG 80 4 1,kV 81 (.ld (.t 80)),kO 82 81,kC 83 (Z8 ZY 0)] (.blk 6 (.loop (kY [kH 84 83 82] (.seq (.ite (.v 84) .skip (.exit 6)) (.seq (.blk 7 (kY [kK 85 2 81 83,kN 86 2 85,kd 11 (.new (V.t 298) #[Z8 ZY 0,kZ]),kf (.stn 2 (.v 11) (.t 86))] (kY [kA 87 3,kG 88 0 11,kD 89 88,kU 90 (.ii ZW (.t 89)),kc 91 (kg (V.f 57) [.t 87,.t 90])] (.reg [kA 92 3,kG 93 1 11,kN 94 1 93,kc 95 (kg (V.f 340) [.t 92,.t 94])])))) (.reg [ke 96 83,kB 83 96]))))))) (kY [kA 97 3,kc 98 (kg (V.f 60) [.t 97]),kB 2 98] .ret))))))))
def J8:List RV:=[.t 2]
def lY (C:Nat) (N:Nat->Prop) (w:Nat) (l:List UInt8) (A:Hp):Prop:=∃F,yc F A w l/\∀q,F q->C<=q/\¬N q
def WrW (C:Nat) (N:Nat->Prop) (q:Nat):Prop:=C<=q/\¬N q
def lY.aj (h:lY C N w l A) (hk:af (fun _=>False) A A'):lY C N w l A':=by
 obtain⟨F,h1,h2⟩:=h;exact⟨F,h1.ai hk (by simp),h2⟩
def lY.new (h:lY C N w l A) (hk:af (fun _=>False) A A') (hb:A.size<=b):lY C (fun q=>N q\/q=b) w l A':=by
 obtain⟨F,h1,h2⟩:=h;refine⟨F,h1.ai hk (by simp),fun q hq=>⟨(h2 q hq).1,fun hn=>?_⟩⟩;rcases hn with hn|rfl
 ·exact(h2 q hq).2 hn
 ·have:=h1.bound q hq;omega
def lY.mono {N':Nat->Prop} (h:lY C N w l A) (hn:∀q,N' q->N q):lY C N' w l A:=by
 obtain⟨F,h1,h2⟩:=h;exact⟨F,h1,fun q hq=>⟨(h2 q hq).1,fun h=>(h2 q hq).2 (hn q h)⟩⟩
def lY.step {l l':List UInt8} {F:Nat->Prop} (h2:∀q,F q->C<=q/\¬N q) (hN:∀q,N q->q<A.size) (hC:C<=A.size) (h':yc (grow F A A') A' w l') (hk:af F A A'):lY C N w l' A'/\af (WrW C N) A A':=by
 refine⟨⟨_,h',fun q hq=>?_⟩,hk.mono fun q _ hq=>h2 q hq⟩;rcases hq with hq|hq
 ·exact h2 q hq
 ·exact⟨by omega,fun hn=>by have:=hN q hn;omega⟩
def lY.uint (hu:iu P j) (h:lY C N w l A) (hN:∀q,N q->q<A.size) (hC:C<=A.size) {v:Nat} (hv:v<18446744073709551616) (hl:l.length<=90000000)
  (hK:∀A',lY C N w (l++dB v) A'->af (WrW C N) A A'->K (ZZ #[]) A'):an P j #[Z7 (ZV ⟨w,0,ZU⟩),Z8 ZW v] A K:=by
 obtain⟨F,h1,h2⟩:=h;refine(hu F w l v A h1 hv hl).mono ?_;rintro r A' ⟨rfl,h',hk⟩;obtain⟨a,b⟩:=lY.step (l:=l) h2 hN hC h' hk;exact hK A' a b
def lY.str (hs:mX P j) (h:lY C N w l A) (hN:∀q,N q->q<A.size) (hC:C<=A.size) (hl:l.length+m.length<=80000000)
  (hK:∀A',lY C N w (l++du m) A'->af (WrW C N) A A'->K (ZZ #[]) A'):an P j #[Z7 (ZV ⟨w,0,ZU⟩),.string ⟨m.toArray⟩] A K:=by
 obtain⟨F,h1,h2⟩:=h;refine(hs F w l m A h1 hl).mono ?_;rintro r A' ⟨rfl,h',hk⟩;obtain⟨a,b⟩:=lY.step (l:=l) h2 hN hC h' hk;exact hK A' a b
def lY.set (hs:mZ P j) (h:lY C N w l A) (hN:∀q,N q->q<A.size) (hC:C<=A.size) (hx:aR A x p) (hm:eZ m) (hmp:∀n,bP m n=p n) (hl:l.length<=70000000)
  (hK:∀A',lY C N w (l++du m) A'->af (WrW C N) A A'->K (ZZ #[]) A'):an P j #[Z7 (ZV ⟨w,0,ZU⟩),x] A K:=by
 obtain⟨F,h1,h2⟩:=h;refine(hs F w l m p x A h1 hx hm hmp hl).mono ?_;rintro r A' ⟨rfl,h',hk⟩;obtain⟨a,b⟩:=lY.step (l:=l) h2 hN hC h' hk;exact hK A' a b
def gH {α:Type} {e:α->List UInt8} {c:Nat}:∀{l:List α},(∀x∈l,(e x).length<=c)->(l.flatMap e).length<=c*l.length
 |[],_=>by simp
 |x::l,h=>by
  have h1:=h x List.mem_cons_self;have h2:=gH (l:=l) fun y hy=>h y (List.mem_cons_of_mem _ hy);rw[Zq,ZK,List.length_cons,Nat.mul_succ];omega
def dK (e:α->List UInt8) {l:List α} {i:Nat} (hi:i<l.length):(l.take (i+1)).flatMap e=(l.take i).flatMap e++e l[i]:=by
 rw[Zw hi,List.flatMap_append,Zq,List.flatMap_nil,List.append_nil]
def L3 (F:cf):List (List fC):=[F.be,F.di,F.sa]
def Dr (F:cf):cN F=bQ dI F.st++((L3 F).flatMap (bQ cW)++bQ iR F.mo):=by
 simp[cN,L3]
def FQ.stl (h:FQ F) (i:Nat):(dB F.st.length++(F.st.take i).flatMap dI).length<=400:=by
 have h1:=aS F.st.length (by have:=h.st.1;omega);have h2:=gH (e:=dI) (c:=34) (l:=F.st.take i) fun x hx=>by
  have hx:=h.st.2 x (YA hx);have a:=aS x.1.length (by omega);have b:=aS x.2.toNat (by omega);simp only[dI,du,ZK];omega
 have h3:(F.st.take i).length<=10:=by rw[Zr];have:=h.st.1;omega
 rw[ZK];have:=Xr 34 h3;omega
def Ds {l:List fC} (h:∀x∈l,0<=x.1/\x.1<=10/\0<=x.2/\x.2<=10) (hl:l.length<=20) (i:Nat):(dB l.length++(l.take i).flatMap cW).length<=500:=by
 have h1:=aS l.length (by omega);have h2:=gH (e:=cW) (c:=22) (l:=l.take i) fun x hx=>by
  have hx:=h x (YA hx);have a:=aS x.1.toNat (by omega);have b:=aS x.2.toNat (by omega);simp only[cW,ZK];omega
 have h3:(l.take i).length<=20:=by rw[Zr];omega
 rw[ZK];have:=Xr 22 h3;omega
def FQ.mol (h:FQ F) (i:Nat):(dB F.mo.length++(F.mo.take i).flatMap iR).length<=700:=by
 have h1:=aS F.mo.length (by have:=h.mo.1;omega);have h2:=gH (e:=iR) (c:=30) (l:=F.mo.take i) fun x hx=>by
  have hx:=h.mo.2 x (YA hx);have a:=aS x.1.toNat (by omega);have s:=ni x.2;have b:=aS (iQ x.2).length (by omega);simp only[iR,du,ZK];omega
 have h3:(F.mo.take i).length<=20:=by rw[Zr];have:=h.mo.1;omega
 rw[ZK];have:=Xr 30 h3;omega
def FQ.l3 (h:FQ F) {l:List fC} (hl:l∈L3 F):(∀x∈l,0<=x.1/\x.1<=10/\0<=x.2/\x.2<=10)/\l.length<=20:=by
 simp only[L3,List.mem_cons,List.not_mem_nil,or_false]at hl;rcases hl with rfl|rfl|rfl
 ·exact⟨h.be.2,h.be.1⟩
 ·exact⟨h.di.2,h.di.1⟩
 ·exact⟨h.sa.2,h.sa.1⟩
def FQ.l3l (h:FQ F) (j:Nat):(((L3 F).take j).flatMap (bQ cW)).length<=1500:=by
 have h2:=gH (e:=bQ cW) (c:=500) (l:=(L3 F).take j) fun l hl=>by
  obtain⟨a,b⟩:=h.l3 (YA hl);have:=Ds a b l.length;rw[ZI]at this;exact this
 have h3:((L3 F).take j).length<=3:=by rw[Zr];simp[L3];omega
 have:=Xr 500 h3;omega
def rq (P:Program) (V:aH) (k:FuncId):Prop:=∀(F:cf) (v:ZR) (H:Hp),bh V H->bZ H v F->nM F=ZT->an P k #[v] H fun r H'=>br H' r (w8 (cN F))/\(∀q,ay r q->H.size<=q)/\af (fun _=>False) H H'
structure alL (P:Program) (V:aH):Prop where
 wg:fU P V (V.f 312)
 new:xB P (V.f 55)
 uint:iu P (V.f 57)
 str:mX P (V.f 59)
 set:mZ P (V.f 340)
 out:xC P (V.f 60)
def lZ {z:Int} (h1:0<=z) (h2:z<=1000000):IntKind.u64.wrap z=((z.toNat:Nat):Int):=by
 rw[IntKind.wrap_u64];omega
def adt (hk:ak P k (J0 V) J8 1) (c:alL P V):rq P V k:=by
 intro F v H hT hv hok;refine qI fun Q hQ=>?_;have hE:=fO hok;have pg:=hv;obtain⟨s,b,d,a,m,ms,rfl,h1,h2,h3,h4,h5,h6⟩:=hv;obtain⟨b0,bc,eb,-⟩:=h2.mk;obtain⟨d0,dc,ed,-⟩:=h3.mk;obtain⟨a0,ac,ea,-⟩:=h4.mk;refine ah hk (args:=[_]) (by simp) ?_;unfold J0 J8 kA kB kC kD ke kG kH kK kL kM kN kO kP kR kU kV kc kd kf kg kY kZ;simp only[go_sem,Za,Zb];refine ax fun H1 b1 e1 z1 B1 K1=>?_;have bL:Bl H1 b1 [s,b,d,a,m]:=B1;have s1:=K1.size;simp only[go_sem,Za,Zb,bL.aL 5 rfl];refine(c.wg F _ H1 (hT.ai K1) (pg.aj K1)).mono ?_;rintro r H2 ⟨rfl,K2⟩;have B2:=K2.bl bL id;have df:=K1.trans K2;have s2:=K2.size;rw[ae,hok];simp only[go_sem,Za,Zb,Bool.not_true];refine(c.new H2).mono ?_;rintro r H3 ⟨rfl,W3,K3⟩;have B3:=K3.bl B2 id;have mD:=df.trans K3;have s3:=K3.size;generalize hw:H2.size=w at*;have hbC:b1<w:=by have:=B2.lt;omega
 have I3:lY w (fun _=>False) w [] H3:=⟨_,W3,fun q hq=>⟨by omega,fun h=>h⟩⟩
 have l1:=hE.st.1;have cl:∀{A:Hp},Bl A b1 [s,b,d,a,m]->cell A ⟨b1,0,ZU⟩=ZV s/\cell A ⟨b1,1,ZU⟩=ZV b/\cell A ⟨b1,2,ZU⟩=ZV d/\cell A ⟨b1,3,ZU⟩=ZV a/\cell A ⟨b1,4,ZU⟩=ZV m:=fun B=>⟨by rw[B.cell];rfl,by rw[B.cell];rfl,by rw[B.cell];rfl,by rw[B.cell];rfl,by rw[B.cell];rfl⟩
 -- what is kept while bytes are written
 have kp:∀{A A':Hp} {N:Nat->Prop},af (WrW w N) A A'->af (fun q=>w<=q) A A':=fun h=>h.mono fun q _ hq=>hq.1;rw[ae];simp only[go_sem,Za,Zb,(cl B3).1,h1.aq,h1.len,lZ (show(0:Int)<=(F.st.length:Int) by omega) (show(F.st.length:Int)<=1000000 by omega),Zo];refine I3.uint c.uint (by simp) (by omega) (by omega) (by simp) fun A I4 K4=>?_;have K4:=kp K4;have KA:af (fun q=>w<=q) H3 A:=K4;have B4:=KA.bl B3 (by omega);have sA:=KA.size;rw[List.nil_append]at I4;rw[ae];simp only[go_sem,Za,Zb,(cl B4).1,h1.aq,h1.len];have bo:∀{A':Hp},af (fun q=>w<=q) H3 A'->af (fun _=>False) H A':=fun K=>mD.trans' K fun q hq e=>by omega
 refine aF F.st.length [26,5,25] rfl rfl (by omega) (by rfl) (by rfl) (fun i g A=>lY w (fun _=>False) w (dB F.st.length++(F.st.take i).flatMap dI) A/\af (fun q=>w<=q) H3 A) ⟨by simpa using I4,KA⟩ ?_ ?_
 ·rintro i g A hi gi gn ⟨I,K⟩;simp only[go_sem,Za,Zb,ae]at gi gn;have KH:=bo K;obtain⟨sb,so,sc,rfl,-,hld⟩:=(h1.aj KH).elem dE (i:=i) hi;have sA:=K.size;have hx:=hE.st.2 _ (ZL hi);simp only[go_sem,Za,Zb,gi,al,aC,hld];refine⟨⟨by omega,by omega⟩,?_⟩;refine aO (cB F.st[i]) (by rfl) rfl rfl (List.all_eq_true.2 (jL _)) fun A1 b5 e5 z5 B5 K5=>?_;have s5:=K5.size;have c0:cell A1 ⟨b5,0,ZU⟩=ZV (sV F.st[i].1):=by rw[B5.cell];rfl
  have J1:=I.new (b:=b5) K5 (by omega);have hb:=hE.stl i;simp only[go_sem,Za,Zb,c0,sV];refine J1.str c.str (fun q hq=>by rcases hq with hq|hq;exact hq.elim;omega) (by omega) (by omega) fun A2 J2 K6=>?_;have B52:=K6.bl B5 fun h=>h.2 (.inr rfl);have s6:=K6.size;have c1:cell A2 ⟨b5,1,ZU⟩=ZV (Z8 ZY F.st[i].2):=by rw[B52.cell];rfl
  have hb2:=aS F.st[i].1.length (by omega);rw[ae];simp only[go_sem,Za,Zb,c1,lZ hx.2.1 (by omega)];refine J2.uint c.uint (fun q hq=>by rcases hq with hq|hq;exact hq.elim;omega) (by omega) (by omega) (by simp only[ZK,du]at hb⊢;omega) fun A3 J3 K7=>?_;rw[ae];simp only[go_sem,Za,Zb,ae];refine⟨?_,((K.trans K5.any).trans (kp K6)).trans (kp K7)⟩;rw[dK _ hi,dI,<-ZA,<-ZA];exact J3.mono fun q h=>h.elim
 ·rintro g A -⟨I,K⟩;rw[ZI]at I;have B5:=K.bl B3 (by omega);obtain⟨-,q1,q2,q3,-⟩:=cl B5;have sA:=K.size;obtain⟨us,hus⟩:∃us,us=[b,d,a]:=⟨_,rfl⟩
  have hul:us.length=3:=by rw[hus];rfl
  have hsl:∀j<3,rP H (us.getD j undef) ((L3 F).getD j [])/\(L3 F).getD j []∈L3 F:=fun j hj=>by
   have:j=0\/j=1\/j=2:=by omega
   rw[hus];rcases this with rfl|rfl|rfl
   ·exact⟨h2,by simp[L3]⟩
   ·exact⟨h3,by simp[L3]⟩
   ·exact⟨h4,by simp[L3]⟩
  rw[eb]at q1;rw[ed]at q2;rw[ea]at q3;simp only[go_sem,Za,Zb,q1,q2,q3,Value.cells];refine aG fun A1 b45 e45 z45 B45 K45=>?_;have alM:Bl A1 b45 us:=by rw[hus,eb,ed,ea];exact B45
  have s45:=K45.size;have I1:=I.new (b:=b45) K45 (by omega);have K31:=K.trans K45.any;clear hus B45;simp only[go_sem,Za,Zb];have hL3:(L3 F).length=3:=rfl;refine aF 3 [48,7,56,57,58,59,9,47] rfl rfl (by omega) (by rfl) (by rfl) (fun j g X=>lY w (fun q=>False\/q=b45) w (bQ dI F.st++((L3 F).take j).flatMap (bQ cW)) X/\Bl X b45 us/\af (fun q=>w<=q) H3 X) ⟨by simpa[bQ]using I1,alM,K31⟩ ?_ ?_
  ·rintro j g2 X hj gi gn ⟨J,BX,KX⟩;simp only[go_sem,Za,Zb,ae]at gi gn;obtain⟨Bq,hmem⟩:=hsl j hj;obtain⟨hpr,DT⟩:=hE.l3 hmem;have lP:=bo KX;have Ua:=Bq.aj lP;have Lm:cell X ⟨b45,j,ZU⟩=ZV (us.getD j undef):=by
    rw[BX.cell,ZO (by omega),ZP,ZO (by omega)];rfl
   have sX:=KX.size;have hNX:∀q,(False\/q=b45)->q<X.size:=fun q hq=>by
    rcases hq with hq|hq
    ·exact hq.elim
    ·rw[hq];exact BX.lt
   have hb1:=hE.stl F.st.length;rw[ZI]at hb1;have hb1:(bQ dI F.st).length<=400:=hb1;have hb2:=hE.l3l j;generalize hU:us.getD j undef=u at*;generalize hL:(L3 F).getD j []=pl at*;simp only[go_sem,Za,Zb,gi,al,Lm,Ua.aq,Ua.len,lZ (show(0:Int)<=(pl.length:Int) by omega) (show(pl.length:Int)<=1000000 by omega),Zo];refine⟨by omega,J.uint c.uint hNX (by omega) (by omega) (by rw[ZK];omega) fun X1 J1 L1=>?_⟩;have BX1:=L1.bl BX fun h=>h.2 (.inr rfl);have LK:=KX.trans (kp L1);have aeI:=Bq.aj (bo LK);have sX1:=L1.size;have agP:pl.length<=9223372036854775807:=by omega
   rw[ae];simp only[go_sem,Za,Zb,aeI.aq,aeI.len];refine aF pl.length [59,9,58] rfl rfl agP (by rfl) (by rfl) (fun i g Y=>lY w (fun q=>False\/q=b45) w (bQ dI F.st++((L3 F).take j).flatMap (bQ cW)++(dB pl.length++(pl.take i).flatMap cW)) Y/\Bl Y b45 us/\af (fun q=>w<=q) H3 Y) ⟨by simpa[bQ]using J1,BX1,LK⟩ ?_ ?_
   ·rintro i g3 Y hi gi gn ⟨I,BY,KY⟩;simp only[go_sem,Za,Zb,ae]at gi gn;obtain⟨sb,so,sc,e,-,hld⟩:=(Bq.aj (bo KY)).elem dy (i:=i) hi;have sY:=KY.size;have hx:=hpr _ (ZL hi);have DR:=Ds hpr DT i;simp only[go_sem,Za,Zb,gi,e,al,aC,hld];refine⟨⟨by omega,by omega⟩,?_⟩;refine aO (pE pl[i]) (by rfl) rfl rfl (List.all_eq_true.2 (iE _)) fun Y1 b9 e9 z9 B9 K9=>?_;have s9:=K9.size;have lt9:=BY.lt;have hNY:∀q,((False\/q=b45)\/q=b9)->q<Y1.size:=fun q hq=>by
     rcases hq with(hq|hq)|hq
     ·exact hq.elim
     ·omega
     ·omega
    have J1:=I.new (b:=b9) K9 (by omega);have c0:cell Y1 ⟨b9,0,ZU⟩=ZV (Z8 ZY pl[i].1):=by rw[B9.cell];rfl
    have w7:∀z:Int,0<=z->z<=10->z.toNat<18446744073709551616:=fun z _ _=>by omega
    have aiU:=aS pl[i].1.toNat (by omega);simp-implicitDefEqProofs only[go_sem,↓reduceIte,Za,Zb,Zc,reduceCtorEq,Zf,Zg,Zh,Zi,Zd,Ze,c0,lZ hx.1 (by omega)];refine J1.uint c.uint hNY (by omega) (by omega) (by simp only[ZK]at DR⊢;omega) fun Y2 J2 L2=>?_;have B92:=L2.bl B9 fun h=>h.2 (.inr rfl);have c1:cell Y2 ⟨b9,1,ZU⟩=ZV (Z8 ZY pl[i].2):=by rw[B92.cell];rfl
    have sL2:=L2.size;rw[ae];simp-implicitDefEqProofs only[go_sem,↓reduceIte,Za,Zb,Zc,reduceCtorEq,Zf,Zg,Zh,Zi,Zd,Ze,c1,lZ hx.2.2.1 (by omega)];refine J2.uint c.uint (fun q hq=>by have:=hNY q hq;omega) (by omega) (by omega) (by simp only[ZK]at DR⊢;omega) fun Y3 J3 Qy=>?_;rw[ae];simp only[go_sem,Za,Zb,ae];refine⟨?_,Qy.bl (L2.bl (K9.bl BY id) fun h=>h.2 (.inl (.inr rfl))) fun h=>h.2 (.inl (.inr rfl)),((KY.trans K9.any).trans (kp L2)).trans (kp Qy)⟩;rw[dK _ hi,cW];simp only[<-ZA]at J3⊢;exact J3.mono fun q h=>.inl h
   ·rintro g3 Y -⟨I,BY,KY⟩;simp only[go_sem,Za,Zb,ae];refine⟨?_,BY,KY⟩;rw[ZI,ZA]at I;have hj3:j<(L3 F).length:=by rw[hL3];exact hj
    have e:(L3 F)[j]=pl:=by rw[<-hL,ZP,ZO hj3];rfl
    rw[dK _ hj3,e];exact I
  ·rintro g2 X -⟨J,BX,KX⟩;rw[show(L3 F).take 3=L3 F by rw[<-hL3,ZI]]at J;have J:=J.mono (N':=fun _=>False) fun q h=>.inl h;have B5:=KX.bl B3 (by omega);have q4:=(cl B5).2.2.2.2;have sX:=KX.size;have hb1:=hE.stl F.st.length;rw[ZI]at hb1;have hb1:(bQ dI F.st).length<=400:=hb1;have hb2:=hE.l3l 3;rw[show(L3 F).take 3=L3 F by rw[<-hL3,ZI]]at hb2;have mb:=hE.mo.1;have hms:=h6.len;simp only[go_sem,Za,Zb,q4,h5.aq,h5.len,h6.len,lZ (show(0:Int)<=(F.mo.length:Int) by omega) (show(F.mo.length:Int)<=1000000 by omega),Zo];refine J.uint c.uint (by simp) (by omega) (by omega) (by rw[ZK];omega) fun X1 J1 L1=>?_;have LK:=KX.trans (kp L1);have B6:=LK.bl B3 (by omega);have q4:=(cl B6).2.2.2.2;rw[ae];simp only[go_sem,Za,Zb,q4,h5.aq,h5.len,h6.len];refine aF F.mo.length [84,11,83] rfl rfl (by omega) (by rfl) (by rfl) (fun i g Y=>lY w (fun _=>False) w (bQ dI F.st++(L3 F).flatMap (bQ cW)++(dB F.mo.length++(F.mo.take i).flatMap iR)) Y/\af (fun q=>w<=q) H3 Y) ⟨by simpa[bQ]using J1,LK⟩ ?_ ?_
   ·rintro i g3 Y hi gi gn ⟨I,KY⟩;simp only[go_sem,Za,Zb,ae]at gi gn;have KHY:=bo KY;obtain⟨sb,so,sc,e,-,hld⟩:=(h5.aj KHY).elem dG (i:=i) (by omega);obtain⟨g1,yd⟩:=h6.at_ i (by omega) hi;have sY:=KY.size;have hx:=hE.mo.2 _ (ZL hi);have DR:=hE.mol i;simp only[go_sem,Za,Zb,gi,e,al,aC,hld];refine⟨⟨by omega,by omega⟩,?_⟩;refine aO (cq ms[i]) (by rfl) rfl rfl (List.all_eq_true.2 (gD _)) fun Y1 b11 e11 z11 B11 Ny=>?_;have s11:=Ny.size;have hNY:∀q,(False\/q=b11)->q<Y1.size:=fun q hq=>by
     rcases hq with hq|hq
     ·exact hq.elim
     ·omega
    have J1:=I.new (b:=b11) Ny (by omega);have c0:cell Y1 ⟨b11,0,ZU⟩=ZV (Z8 ZY F.mo[i].1):=by rw[B11.cell,<-g1];rfl
    have aiU:=aS F.mo[i].1.toNat (by omega);simp only[go_sem,Za,Zb,c0,lZ hx.1 (by omega)];refine J1.uint c.uint hNY (by omega) (by omega) (by simp only[ZK]at DR⊢;omega) fun Y2 J2 L2=>?_;have alN:=L2.bl B11 fun h=>h.2 (.inr rfl);have l1:aQ Y2 ⟨b11,1,ZU⟩ 1=ZV #[gP ms[i]]:=alN.aQ (o:=1) (n:=1) (by simp[cq]);have sL2:=L2.size;have KH2:=bo (((KY.trans Ny.any).trans (kp L2)));rw[ae];simp only[go_sem,Za,Zb,aC,l1];refine J2.set c.set (fun q hq=>by have:=hNY q hq;omega) (by omega) (yd.aj KH2) (nh F.mo[i].2) (eC F.mo[i].2) (by simp only[ZK]at DR⊢;omega) fun Y3 J3 Qy=>?_;rw[ae];simp only[go_sem,Za,Zb,ae];refine⟨?_,((KY.trans Ny.any).trans (kp L2)).trans (kp Qy)⟩;rw[dK _ hi,iR];simp only[<-ZA]at J3⊢;exact J3.mono fun q h=>.inl h
   ·rintro g3 Y -⟨I,KY⟩;rw[ZI,ZA,<-bQ,<-Dr]at I;have DR:=hE.mol F.mo.length;rw[ZI,<-bQ]at DR;obtain⟨FF,WF,hFF⟩:=I;have hlen:(cN F).length<=100000:=by rw[Dr];simp only[ZK];omega
    simp only[go_sem,Za,Zb];refine(c.out FF w (cN F) Y WF (by omega)).mono ?_;rintro r Z ⟨O,o,KZ⟩;have sY:=KY.size;rw[ae];simp only[go_sem,Za,Zb,ae];rw[hQ];exact⟨O,fun q hq=>by have:=o q hq;omega,(bo KY).trans KZ⟩
def J9 (V:aH):S:=
 kY [kR 1 (V.t 289) 0,kC 2 (kZ)] (kY [kG 12 0 1,kD 13 12,kL 14 13,kU 15 (.ii ZW (.t 14)),kc 16 (kg (V.f 61) [.t 15]),kB 3 16] (.seq (kY [kG 17 0 1,kV 18 (.ld (.t 17)),kO 19 18,kC 20 (Z8 ZY 0)] (.blk 0 (.loop (kY [kH 21 20 19] (.seq (.ite (.v 21) .skip (.exit 0)) (.seq (.blk 1 (kY [kK 22 2 18 20,kN 23 2 22,kd 5 (.new (V.t 290) #[.string ⟨#[]⟩,Z8 ZY 0]),kf (.stn 2 (.v 5) (.t 23))] (kY [kA 24 3,kG 25 0 5,kD 26 25,kc 27 (.s2b (V.t 19) (.t 26)),kc 28 (kg (V.f 62) [.t 27]),kc 29 (.app ZS (V.t 19) 1 1 #[Z8 ZX 0] (.t 24) (.t 28)),kB 3 29] (.reg [kA 30 3,kG 31 1 5,kD 32 31,kU 33 (.ii ZW (.t 32)),kc 34 (kg (V.f 61) [.t 33]),kc 35 (.app ZS (V.t 19) 1 1 #[Z8 ZX 0] (.t 30) (.t 34)),kB 3 35])))) (.reg [ke 36 20,kB 20 36]))))))) (.seq (kY [kG 37 1 1,kD 38 37,kG 39 2 1,kD 40 39,kG 41 3 1,kD 42 41,kd 43 (.aX (V.t 235) 1 3 [.t 38,.t 40,.t 42]),kO 44 43,kC 45 (Z8 ZY 0)] (.blk 2 (.loop (kY [kH 46 45 44] (.seq (.ite (.v 46) .skip (.exit 2)) (.seq (.blk 3 (kY [kK 47 1 43 45,kD 48 47,kB 7 48] (kY [kA 49 3,kA 50 7,kL 51 50,kU 52 (.ii ZW (.t 51)),kc 53 (kg (V.f 61) [.t 52]),kc 54 (.app ZS (V.t 19) 1 1 #[Z8 ZX 0] (.t 49) (.t 53)),kB 3 54] (kY [kV 55 (.mv (.v 7)),kO 56 55,kC 57 (Z8 ZY 0)] (.blk 4 (.loop (kY [kH 58 57 56] (.seq (.ite (.v 58) .skip (.exit 4)) (.seq (.blk 5 (kY [kK 59 2 55 57,kN 60 2 59,kd 9 (.new (V.t 194) #[Z8 ZY 0,Z8 ZY 0]),kf (.stn 2 (.v 9) (.t 60))] (kY [kA 61 3,kP 62 2 1 9 0,kD 63 62,kU 64 (.ii ZW (.t 63)),kc 65 (kg (V.f 61) [.t 64]),kc 66 (.app ZS (V.t 19) 1 1 #[Z8 ZX 0] (.t 61) (.t 65)),kB 3 66] (.reg [kA 67 3,kP 68 2 1 9 1,kD 69 68,kU 70 (.ii ZW (.t 69)),kc 71 (kg (V.f 61) [.t 70]),kc 72 (.app ZS (V.t 19) 1 1 #[Z8 ZX 0] (.t 67) (.t 71)),kB 3 72])))) (.reg [ke 73 57,kB 57 73])))))))))) (.reg [ke 74 45,kB 45 74]))))))) (kY [kA 75 3,kG 76 4 1,kD 77 76,kL 78 77,kU 79 (.ii ZW (.t 78)),kc 80 (kg (V.f 61) [.t 79]),kc 81 (.app ZS (V.t 19) 1 1 #[Z8 ZX 0] (.t 75) (.t 80)),kB 3 81] (.seq (kY [kG 82 4 1,kV 83 (.ld (.t 82)),kO 84 83,kC 85 (Z8 ZY 0)] (.blk 6 (.loop (kY [kH 86 85 84] (.seq (.ite (.v 86) .skip (.exit 6)) (.seq (.blk 7 (kY [kK 87 2 83 85,kN 88 2 87,kd 11 (.new (V.t 291) #[Z8 ZY 0,Z8 ZW 0]),kf (.stn 2 (.v 11) (.t 88))] (kY [kA 89 3,kG 90 0 11,kD 91 90,kU 92 (.ii ZW (.t 91)),kc 93 (kg (V.f 61) [.t 92]),kc 94 (.app ZS (V.t 19) 1 1 #[Z8 ZX 0] (.t 89) (.t 93)),kB 3 94] (.reg [kA 95 3,kG 96 1 11,kD 97 96,kc 98 (kg (V.f 282) [.t 97]),kc 99 (kg (V.f 347) [.t 98]),kc 100 (.app ZS (V.t 19) 1 1 #[Z8 ZX 0] (.t 95) (.t 99)),kB 3 100])))) (.reg [ke 101 85,kB 85 101]))))))) (kY [kA 102 3,kB 2 102] .ret))))))
def Ka:List RV:=[.t 2]
def py (P:Program) (k:FuncId):Prop:=∀(F:cf) (v:ZR) (H:Hp),dF H v F->FQ F->an P k #[v] H fun r H'=>br H' r (w8 (cN F))/\(∀q,ay r q->H.size<=q)/\af (fun _=>False) H H'
structure alO (P:Program) (V:aH):Prop where
 put:lD P (V.f 61)
 agQ:jV P (V.f 62)
 agR:ng P (V.f 347)
 mem:nJ P (V.f 282)
structure yx (C:Nat) (H3:Hp) (v:ZR) (l:List UInt8) (A:Hp):Prop where
 o:br A v (w8 l)
 n:∀q,ay v q->C<=q
 k:af (fun q=>C<=q) H3 A
def yx.aj (h:yx C H3 v l A) (hk:af (fun _=>False) A A'):yx C H3 v l A':=⟨h.o.ai hk (by simp),h.n,h.k.trans hk.any⟩
def yx.app (h:yx C H3 v l A) (hC:C<=A.size) (hx:br A x (w8 m)) (hl:l.length+m.length<=1000000000) {T:TypeId}
  (hK:∀v' A',yx C H3 v' (l++m) A'->af (ay v) A A'->(∀q,ay v' q->ay v q\/A.size<=q)->K v' A'):jn ZS T 1 1 #[Z8 ZX 0] v x A K:=
 ny h.o hx.sl rfl hl fun v' A' O K' o=>hK v' A' ⟨O,fun q hq=>by
  rcases o q hq with h'|h'
  ·exact h.n q h'
  ·omega,h.k.trans (K'.mono fun q _ hq=>h.n q hq)⟩ K' o
def yx.nb (h:yx C H3 v l A) (hb:A.size<=b):¬ay v b:=fun hq=>by have:=h.o.bo hq;omega
def adu (hk:ak P k (J9 V) Ka 1) (c:alO P V):py P k:=by
 intro F v H hv hE;refine qI fun Q hQ=>?_;obtain⟨s,b,d,a,m,rfl,h1,h2,h3,h4,h5⟩:=hv;obtain⟨b0,bc,eb,-⟩:=h2.mk;obtain⟨d0,dc,ed,-⟩:=h3.mk;obtain⟨a0,ac,ea,-⟩:=h4.mk;refine ah hk (args:=[_]) (by simp) ?_;unfold J9 Ka kA kB kC kD ke kG kH kK kL kN kO kP kR kU kV kc kd kf kg kY kZ;simp only[go_sem,Za,Zb];refine ax fun H1 b1 e1 z1 B1 K1=>?_;have bL:Bl H1 b1 [s,b,d,a,m]:=B1;have s1:=K1.size;have cl:∀{A:Hp},Bl A b1 [s,b,d,a,m]->cell A ⟨b1,0,ZU⟩=ZV s/\cell A ⟨b1,1,ZU⟩=ZV b/\cell A ⟨b1,2,ZU⟩=ZV d/\cell A ⟨b1,3,ZU⟩=ZV a/\cell A ⟨b1,4,ZU⟩=ZV m:=fun B=>⟨by rw[B.cell];rfl,by rw[B.cell];rfl,by rw[B.cell];rfl,by rw[B.cell];rfl,by rw[B.cell];rfl⟩
 have l1:=hE.st.1;simp only[go_sem,Za,Zb,(cl bL).1,h1.aq,h1.len,lZ (show(0:Int)<=(F.st.length:Int) by omega) (show(F.st.length:Int)<=1000000 by omega),Zo];refine(c.put F.st.length H1 (by omega)).mono ?_;rintro r H2 ⟨O2,o2,K2⟩;have B2:=K2.bl bL id;have df:=K1.trans K2;have s2:=K2.size;obtain⟨C,hC⟩:∃C,C=H1.size:=⟨_,rfl⟩
 rw[<-hC]at o2;have hbC:b1<C:=by omega
 have I2:yx C H1 r (dB F.st.length) H2:=⟨O2,o2,K2.any⟩
 have bo:∀{A':Hp} {v:ZR} {l:List UInt8},yx C H1 v l A'->af (fun _=>False) H A':=fun I=>K1.trans' I.k fun q hq e=>by omega
 have bl1:∀{A':Hp} {v:ZR} {l:List UInt8},yx C H1 v l A'->Bl A' b1 [s,b,d,a,m]:=fun I=>I.k.bl bL (by omega);have sz:∀{A':Hp} {v:ZR} {l:List UInt8},yx C H1 v l A'->C<=A'.size:=fun I=>by have:=I.k.size;omega
 rw[ae];simp only[go_sem,Za,Zb,(cl B2).1,h1.aq,h1.len];refine aF F.st.length [21,5,3,20] rfl rfl (by omega) (by rfl) (by rfl) (fun i g A=>∃v,g 3=v/\yx C H1 v (dB F.st.length++(F.st.take i).flatMap dI) A) ⟨r,by simp only[go_sem,Za,Zb,ae],by simpa using I2⟩ ?_ ?_
 ·rintro i g A hi gi gn ⟨v3,g3,I⟩;simp only[go_sem,Za,Zb,ae]at gi gn g3;have KH:=bo I;obtain⟨sb,so,sc,e,-,hld⟩:=(h1.aj KH).elem dE (i:=i) hi;have hx:=hE.st.2 _ (ZL hi);have hb:=hE.stl i;simp only[go_sem,Za,Zb,gi,g3,e,al,aC,hld];refine⟨⟨by omega,by omega⟩,?_⟩;refine aO (cB F.st[i]) (by rfl) rfl rfl (List.all_eq_true.2 (jL _)) fun A1 b5 e5 z5 B5 K5=>?_;have J1:=I.aj K5;have c0:cell A1 ⟨b5,0,ZU⟩=ZV (sV F.st[i].1):=by rw[B5.cell];rfl
  simp only[go_sem,Za,Zb,g3,c0,sV];intro cc hcc;have hcc:F.st[i].1.length<=cc:=hcc;obtain⟨K6,S6⟩:=Mw A1 F.st[i].1 (V.t 19) cc hcc;rw[ae];generalize Array.push A1 _=A2 at*;have J2:=J1.aj K6;have hb2:=aS F.st[i].1.length (by omega);simp only[go_sem,Za,Zb,g3];refine(c.agQ _ _ A2 S6 (by omega)).mono ?_;rintro r3 A3 ⟨O3,o3,K7⟩;have J3:=J2.aj K7;rw[ae];simp only[go_sem,Za,Zb,g3];refine J3.app (sz J3) O3 (by simp only[du,ZK]at hb⊢;omega) fun v4 A4 J4 L4 o4=>?_;have B53:=(K6.trans K7).bl B5 (by simp);have nb3:¬ay v3 b5:=I.nb (by omega);have B54:=L4.bl B53 nb3;have c1:cell A4 ⟨b5,1,ZU⟩=ZV (Z8 ZY F.st[i].2):=by rw[B54.cell];rfl
  rw[ae];simp only[go_sem,Za,Zb,c1,lZ hx.2.1 (by omega)];refine(c.put _ A4 (by omega)).mono ?_;rintro r5 A5 ⟨O5,o5,K8⟩;have J5:=J4.aj K8;have DR:=aS F.st[i].2.toNat (by omega);rw[ae];simp only[go_sem,Za,Zb];refine J5.app (sz J5) O5 (by simp only[du,ZK]at hb⊢;omega) fun v6 A6 J6 L6 o6=>?_;rw[ae];simp only[go_sem,Za,Zb,ae];refine⟨v6,rfl,?_⟩;rw[dK _ hi,dI];simp only[<-ZA]at J6⊢;exact J6
 ·rintro g A -⟨v3,g3,I⟩;rw[ZI]at I;simp only[go_sem,Za,Zb,ae]at g3;obtain⟨-,q1,q2,q3,-⟩:=cl (bl1 I);obtain⟨us,hus⟩:∃us,us=[b,d,a]:=⟨_,rfl⟩
  have hul:us.length=3:=by rw[hus];rfl
  have hsl:∀j<3,rP H (us.getD j undef) ((L3 F).getD j [])/\(L3 F).getD j []∈L3 F:=fun j hj=>by
   have:j=0\/j=1\/j=2:=by omega
   rw[hus];rcases this with rfl|rfl|rfl
   ·exact⟨h2,by simp[L3]⟩
   ·exact⟨h3,by simp[L3]⟩
   ·exact⟨h4,by simp[L3]⟩
  rw[eb]at q1;rw[ed]at q2;rw[ea]at q3;simp only[go_sem,Za,Zb,q1,q2,q3,Value.cells];refine aG fun A1 b43 e43 z43 B43 K43=>?_;have alP:Bl A1 b43 us:=by rw[hus,eb,ed,ea];exact B43
  have s43:=K43.size;have I1:=I.aj K43;have alQ:¬ay v3 b43:=I.nb (by omega);clear hus B43;simp only[go_sem,Za,Zb];have hL3:(L3 F).length=3:=rfl;refine aF 3 [46,7,3,55,56,57,58,9,45] rfl rfl (by omega) (by rfl) (by rfl) (fun j g X=>∃v,g 3=v/\yx C H1 v (bQ dI F.st++((L3 F).take j).flatMap (bQ cW)) X/\Bl X b43 us/\¬ay v b43) ⟨v3,by simp only[go_sem,Za,Zb,ae,g3],by simpa[bQ]using I1,alP,alQ⟩ ?_ ?_
  ·rintro j g2 X hj gi gn ⟨w3,g23,J,BX,nX⟩;simp only[go_sem,Za,Zb,ae]at gi gn g23;obtain⟨Bq,hmem⟩:=hsl j hj;obtain⟨hpr,DT⟩:=hE.l3 hmem;have Ua:=Bq.aj (bo J);have Lm:cell X ⟨b43,j,ZU⟩=ZV (us.getD j undef):=by
    rw[BX.cell,ZO (by omega),ZP,ZO (by omega)];rfl
   have hb1:=hE.stl F.st.length;rw[ZI]at hb1;have hb1:(bQ dI F.st).length<=400:=hb1;have hb2:=hE.l3l j;generalize hU:us.getD j undef=u at*;generalize hL:(L3 F).getD j []=pl at*;have agP:pl.length<=9223372036854775807:=by omega
   have hb0:=aS pl.length (by omega);simp only[go_sem,Za,Zb,gi,g23,al,Lm,Ua.aq,Ua.len,lZ (show(0:Int)<=(pl.length:Int) by omega) (show(pl.length:Int)<=1000000 by omega),Zo];refine⟨by omega,(c.put pl.length X (by omega)).mono ?_⟩;rintro r3 X1 ⟨O3,o3,L1⟩;have J1:=J.aj L1;have BX1:=L1.bl BX id;rw[ae];simp only[go_sem,Za,Zb,g23];refine J1.app (sz J1) O3 (by simp only[ZK];omega) fun v4 X2 J2 L2 o4=>?_;have BX2:=L2.bl BX1 nX;have n4:¬ay v4 b43:=fun hq=>by
    rcases o4 _ hq with h|h
    ·exact nX h
    ·have:=BX1.lt;omega
   have aeJ:=Bq.aj (bo J2);rw[ae];simp only[go_sem,Za,Zb,aeJ.aq,aeJ.len];refine aF pl.length [58,9,3,57] rfl rfl agP (by rfl) (by rfl) (fun i g Y=>∃v,g 3=v/\yx C H1 v (bQ dI F.st++((L3 F).take j).flatMap (bQ cW)++(dB pl.length++(pl.take i).flatMap cW)) Y/\Bl Y b43 us/\¬ay v b43) ⟨v4,by simp only[go_sem,Za,Zb,ae],by simpa[bQ]using J2,BX2,n4⟩ ?_ ?_
   ·rintro i g3' Y hi gi gn ⟨y3,Kb,I,BY,nY⟩;simp only[go_sem,Za,Zb,ae]at gi gn Kb;obtain⟨sb,so,sc,e,-,hld⟩:=(Bq.aj (bo I)).elem dy (i:=i) hi;have hx:=hpr _ (ZL hi);have DR:=Ds hpr DT i;simp only[go_sem,Za,Zb,gi,Kb,e,al,aC,hld];refine⟨⟨by omega,by omega⟩,?_⟩;refine aO (pE pl[i]) (by rfl) rfl rfl (List.all_eq_true.2 (iE _)) fun Y1 b9 e9 z9 B9 K9=>?_;have J1:=I.aj K9;have n9:¬ay y3 b9:=I.nb (by omega);have c0:cell Y1 ⟨b9,0,ZU⟩=ZV (Z8 ZY pl[i].1):=by rw[B9.cell];rfl
    have w7:=aS pl[i].1.toNat (by omega);have w8':=aS pl[i].2.toNat (by omega);simp-implicitDefEqProofs only[go_sem,↓reduceIte,Za,Zb,Zc,reduceCtorEq,Zf,Zg,Zh,Zi,Zd,Ze,Kb,c0,lZ hx.1 (by omega)];refine(c.put _ Y1 (by omega)).mono ?_;rintro r5 Y2 ⟨O5,o5,K5⟩;have J2:=J1.aj K5;have BY2:=(K9.trans K5).bl BY (by simp);rw[ae];simp only[go_sem,Za,Zb,Kb];refine J2.app (sz J2) O5 (by simp only[ZK]at DR⊢;omega) fun v6 Y3 J3 Qy o6=>?_;have B93:=Qy.bl (K5.bl B9 id) n9;have BY3:=Qy.bl BY2 nY;have n6:¬ay v6 b43:=fun hq=>by
     rcases o6 _ hq with h|h
     ·exact nY h
     ·have:=BY2.lt;omega
    have c1:cell Y3 ⟨b9,1,ZU⟩=ZV (Z8 ZY pl[i].2):=by rw[B93.cell];rfl
    rw[ae];simp-implicitDefEqProofs only[go_sem,↓reduceIte,Za,Zb,Zc,reduceCtorEq,Zf,Zg,Zh,Zi,Zd,Ze,c1,lZ hx.2.2.1 (by omega)];refine(c.put _ Y3 (by omega)).mono ?_;rintro r7 Y4 ⟨O7,o7,K7⟩;have J4:=J3.aj K7;have BY4:=K7.bl BY3 id;rw[ae];simp only[go_sem,Za,Zb];refine J4.app (sz J4) O7 (by simp only[ZK]at DR⊢;omega) fun v8 Y5 J5 L5 o8=>?_;rw[ae];simp only[go_sem,Za,Zb,ae];refine⟨v8,rfl,?_,L5.bl BY4 n6,fun hq=>?_⟩
    ·rw[dK _ hi,cW];simp only[<-ZA]at J5⊢;exact J5
    ·rcases o8 _ hq with h|h
     ·exact n6 h
     ·have:=BY4.lt;omega
   ·rintro g3' Y -⟨y3,Kb,I,BY,nY⟩;simp only[go_sem,Za,Zb,ae]at Kb;simp only[go_sem,Za,Zb,ae];refine⟨y3,Kb,?_,BY,nY⟩;rw[ZI,ZA]at I;have hj3:j<(L3 F).length:=by rw[hL3];exact hj
    have e:(L3 F)[j]=pl:=by rw[<-hL,ZP,ZO hj3];rfl
    rw[dK _ hj3,e];exact I
  ·rintro g2 X -⟨w3,g23,J,BX,nX⟩;rw[show(L3 F).take 3=L3 F by rw[<-hL3,ZI]]at J;simp only[go_sem,Za,Zb,ae]at g23;have q4:=(cl (bl1 J)).2.2.2.2;have hb1:=hE.stl F.st.length;rw[ZI]at hb1;have hb1:(bQ dI F.st).length<=400:=hb1;have hb2:=hE.l3l 3;rw[show(L3 F).take 3=L3 F by rw[<-hL3,ZI]]at hb2;have mb:=hE.mo.1;have hb0:=aS F.mo.length (by omega);simp only[go_sem,Za,Zb,g23,q4,h5.aq,h5.len,lZ (show(0:Int)<=(F.mo.length:Int) by omega) (show(F.mo.length:Int)<=1000000 by omega),Zo];refine(c.put F.mo.length X (by omega)).mono ?_;rintro r3 X1 ⟨O3,o3,L1⟩;have J1:=J.aj L1;rw[ae];simp only[go_sem,Za,Zb,g23];refine J1.app (sz J1) O3 (by simp only[ZK];omega) fun v4 X2 J2 L2 o4=>?_;have q4:=(cl (bl1 J2)).2.2.2.2;rw[ae];simp only[go_sem,Za,Zb,q4,h5.aq,h5.len];refine aF F.mo.length [86,11,3,85] rfl rfl (by omega) (by rfl) (by rfl) (fun i g Y=>∃v,g 3=v/\yx C H1 v (bQ dI F.st++(L3 F).flatMap (bQ cW)++(dB F.mo.length++(F.mo.take i).flatMap iR)) Y) ⟨v4,by simp only[go_sem,Za,Zb,ae],by simpa[bQ]using J2⟩ ?_ ?_
   ·rintro i g3' Y hi gi gn ⟨y3,Kb,I⟩;simp only[go_sem,Za,Zb,ae]at gi gn Kb;obtain⟨sb,so,sc,e,-,hld⟩:=(h5.aj (bo I)).elem qt (i:=i) hi;have hx:=hE.mo.2 _ (ZL hi);have DR:=hE.mol i;have hs8:=ni F.mo[i].2;have w7:=aS F.mo[i].1.toNat (by omega);have w8':=aS (iQ F.mo[i].2).length (by omega);simp only[go_sem,Za,Zb,gi,Kb,e,al,aC,hld];refine⟨⟨by omega,by omega⟩,?_⟩;refine aO (og F.mo[i]) (by rfl) rfl rfl (List.all_eq_true.2 (E3 _)) fun Y1 b11 e11 z11 B11 Ny=>?_;have J1:=I.aj Ny;have n11:¬ay y3 b11:=I.nb (by omega);have c0:cell Y1 ⟨b11,0,ZU⟩=ZV (Z8 ZY F.mo[i].1):=by rw[B11.cell];rfl
    simp only[go_sem,Za,Zb,Kb,c0,lZ hx.1 (by omega)];refine(c.put _ Y1 (by omega)).mono ?_;rintro r5 Y2 ⟨O5,o5,K5⟩;have J2:=J1.aj K5;rw[ae];simp only[go_sem,Za,Zb,Kb];refine J2.app (sz J2) O5 (by simp only[ZK]at DR⊢;omega) fun v6 Y3 J3 Qy o6=>?_;have alR:=Qy.bl (K5.bl B11 id) n11;have c1:cell Y3 ⟨b11,1,ZU⟩=ZV (Z8 ZW F.mo[i].2.toNat):=by rw[alR.cell];rfl
    rw[ae];simp only[go_sem,Za,Zb,c1];refine(c.mem F.mo[i].2 Y3).mono ?_;rintro r6 Y4 ⟨O6,o6',K6⟩;have hle:((ZF 64).filter (bt F.mo[i].2)).length<=64:=by
     have:=List.length_filter_le (bt F.mo[i].2) (ZF 64);simp at this;omega
    rw[ae];simp only[go_sem,Za,Zb];refine(c.agR _ (iQ F.mo[i].2) r6 Y4 O6.sl (by omega) (fun n hn=>by have:=(List.mem_filter.1 hn).1;rw[YK]at this;omega) (nh _) fun n=>?_).mono ?_
    ·rw[eC,Bool.eq_iff_iff,decide_eq_true_eq,List.mem_filter,YK];exact⟨fun h=>⟨pY h,h⟩,fun h=>h.2⟩
    rintro r7 Y5 ⟨O7,o7,K7⟩;have J4:=J3.aj (K6.trans K7);rw[ae];simp only[go_sem,Za,Zb];refine J4.app (sz J4) O7 (by simp only[du,ZK]at DR⊢;omega) fun v8 Y6 J5 L5 o8=>?_;rw[ae];simp only[go_sem,Za,Zb,ae];refine⟨v8,rfl,?_⟩;rw[dK _ hi,iR];simp only[<-ZA]at J5⊢;exact J5
   ·rintro g3' Y -⟨y3,Kb,I⟩;rw[ZI,ZA,<-bQ,<-Dr]at I;simp only[go_sem,Za,Zb,ae]at Kb;simp only[go_sem,Za,Zb,ae,Kb];rw[hQ];exact⟨I.o,fun q hq=>by have:=I.n q hq;omega,bo I⟩
end Go.Mg

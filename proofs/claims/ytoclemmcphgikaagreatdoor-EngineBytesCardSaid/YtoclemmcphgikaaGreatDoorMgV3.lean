/- Lemmas of ours. No conditions. -/
import Derived.Test.YtoclemmcphgikaaGreatDoorMgP5
import Derived.Test.YtoclemmcphgikaaGreatDoorMgN1
import Derived.Test.YtoclemmcphgikaaGreatDoorMgLp
open Bool renaming false→ZS,true→ZT
open Decidable renaming decide→ZQ
open Go renaming Value→ZR
open Go.IntKind renaming i64→ZY,u64→ZW,u8→ZX
open Go.Value renaming agg→Z0,bool→Z5,int→Z8,pointer→Z7,slice→Z6
open Option renaming none→ZU,some→ZV
open Bool renaming eq_iff_iff→YU,false_eq_true→ZD,or_eq_true→Yq,true_and→X0
open Classical renaming byContradiction→Zn,propDecidable→Xu
open Go.IntWalk renaming i64_in→ZN
open List renaming filter_append→XD,filter_cons→WL,filter_nil→WD,getD_eq_getElem?_getD→ZP,getElem?_cons_zero→Yt,length_filter_le→YS,length_map→YM,length_take→Zr,map_append→XZ,mem_filter→XV,mem_map→XR,mem_range→YK,range→ZF,range_succ→Yg,take_of_length_le→Zy,take_succ_eq_append_getElem→Zw
open Nat renaming mod_lt→WO
open Option renaming getD_some→Zu,isSome_none→Ys
open UInt64 renaming ofNat→Y7
open UInt8 renaming ofNat→ZG
open Nat renaming reduceEqDiff→Za,reduceAdd→Zb,reduceMul→Zc,reduceLeDiff→Zd,reduceLT→Ze
open Int renaming reduceBEq→Zf,reduceBNe→Zg,reduceLE→Zh,reduceLT→Zi
set_option maxRecDepth 100000
set_option linter.all false
namespace Go.Mg
abbrev x9:=List UInt8×Int
abbrev fC:=Int×Int
abbrev tW:=Int×UInt64
structure cf where
 st:List x9
 be:List fC
 di:List fC
 sa:List fC
 mo:List tW
def iI (a b:Int):Int:=if a=0 then b else a
def fN (b:Int):iI 0 b=b:=rfl
variable {a roles:Int} {b n i C b1 len:Nat} {p:Nat->Bool} {l:List (UInt8×UInt8)} {k:FuncId} {R:Nat->Nat->Bool} {f:Fr} {P:Program} {V:aH} {H H' A:Hp} {v dv r0 r1 r2 r4 r5 r6 y0 y1 y2 y3 y4 r3:ZR} {cs:List ZR} {Qb:Ex->Fr->Hp->Prop}
def sg (b:Int) (h:a≠0):iI a b=a:=if_neg h
def lp {b:Int}:iI a b=0↔a=0/\b=0:=by
 unfold iI;split
 ·next h=>simp[h]
 ·next h=>simp[h]
def EZ (n:Nat) (x:fC):Bool:=ZQ (x.1<0)||ZQ ((n:Int)<=x.1)||ZQ (x.2<0)||ZQ ((n:Int)<=x.2)
def qp (n:Nat) (x:fC):Int:=if EZ n x=ZT then 2 else if x.1=x.2 then 1 else 0
def ji (n:Nat):List fC->Int
 |[]=>0
 |x::l=>iI (qp n x) (ji n l)
def AS (n:Nat):∀(l m:List fC),ji n (l++m)=iI (ji n l) (ji n m)
 |[],m=>rfl
 |x::l,m=>by
  simp only[List.cons_append,ji,AS n l m];unfold iI;split<;>rfl
def Q0 {n:Nat}:∀{l:List fC},ji n l=0↔∀x∈l,qp n x=0
 |[]=>by simp[ji]
 |x::l=>by simp[ji,lp,Q0 (l:=l)]
def Q1 {x : fC} : qp n x = 0 ↔ kj (n : Int) x /\ x.1 ≠ x.2 := by
  unfold qp EZ kj
  split
  · next h =>
    simp only [Yq, decide_eq_true_eq] at h
    constructor
    · intro h; omega
    · rintro ⟨⟨_, _, _, _⟩, _⟩; omega
  · next h =>
    simp only [Yq, decide_eq_true_eq] at h
    split
    · next h2 => constructor
                 · intro h; omega
                 · rintro ⟨_, h3⟩; exact absurd h2 h3
    · next h2 => exact ⟨fun _ => ⟨by omega, h2⟩, fun _ => rfl⟩
def si (roles:Int) (p:Nat->Bool) (l:List x9) (x:x9):Int:=
 if cY x.1=ZS then 9 else if(l.any fun y=>ZQ (y.1=x.1))=ZT then 5 else if x.2<1\/roles<x.2\/cz p x.2=ZT then 10 else 0
def AT (roles:Int) (p:Nat->Bool) (l:List x9):Nat->Int
 |0=>0
 |k+1=>iI (AT roles p l k) (si roles p (l.take k) (l.getD k ([],0)))
def Q2 {l : List x9} {k : Nat} (h : AT roles p l k ≠ 0) : ∀ m, k <= m -> AT roles p l m = AT roles p l k
  | m, hm => by
    induction m with
    | zero => have : k = 0 := by omega
              subst this; rfl
    | succ m ih =>
      by_cases e : k = m + 1
      · rw [e]
      · have := ih (by omega);rw [AT, this, sg _ h]
def aef {roles:Int} {p:Nat->Bool} {l:List x9}:∀{k:Nat},AT roles p l k=0↔∀i<k,si roles p (l.take i) (l.getD i ([],0))=0
 |0=>by simp[AT]
 |k+1=>by
  rw[AT,lp,aef (k:=k)]
  constructor
  ·rintro⟨h1,h2⟩ i hi
   by_cases e:i=k
   ·rw[e];exact h2
   ·exact h1 i (by omega)
  ·exact fun h=>⟨fun i hi=>h i (by omega),h k (by omega)⟩
def pk (n:Nat) (x:tW):Int:=if x.1<1\/10<x.1\/x.2=0\/2^n<=x.2.toNat then 2 else 0
def uw (n:Nat):List tW->Int
 |[]=>0
 |x::l=>iI (pk n x) (uw n l)
def aeg {n:Nat}:∀{l:List tW},uw n l=0↔∀x∈l,pk n x=0
 |[]=>by simp[uw]
 |x::l=>by simp[uw,lp,aeg (l:=l)]
def iJ (f:cf):Prop:=10<f.st.length\/20<f.be.length\/20<f.di.length\/20<f.sa.length\/20<f.mo.length
instance (f:cf):Decidable (iJ f):=by unfold iJ;infer_instance
noncomputable def E0 (R:Nat->Nat->Bool):Int:=@ite _ (Eu R) (Xu _) 0 16
def G8 (h:Eu R):E0 R=0:=if_pos h
def Q3 (h:¬Eu R):E0 R=16:=if_neg h
noncomputable def fF (f:cf) (roles:Int) (p:Nat->Bool):Int:=
 if f.st=[]then 4 else if iJ f then 3 else
 iI (AT roles p f.st f.st.length) (iI (ji f.st.length f.be) (iI (ji f.st.length f.di) (iI (ji f.st.length f.sa) (iI (uw f.st.length f.mo) (E0 (jK f.be))))))
structure Good (f:cf):Prop where
 ne:f.st≠[]
 lim:¬iJ f
 be:∀x∈f.be,kj (f.st.length:Int) x/\x.1≠x.2
 di:∀x∈f.di,kj (f.st.length:Int) x/\x.1≠x.2
 sa:∀x∈f.sa,kj (f.st.length:Int) x/\x.1≠x.2
 mo:∀x∈f.mo,pk f.st.length x=0
 acy:Eu (jK f.be)
def G9 {f:cf}:fF f roles p=0↔Good f/\∀i<f.st.length,si roles p (f.st.take i) (f.st.getD i ([],0))=0:=by
 unfold fF
 split
 ·next h=>exact⟨fun h=>by omega,fun h'=>absurd h h'.1.ne⟩
 ·next h=>
  split
  ·next h2=>exact⟨fun h=>by omega,fun h'=>absurd h2 h'.1.lim⟩
  ·next h2=>
   simp only[lp,aef,Q0,aeg,Q1]
   constructor
   ·rintro⟨a,b,c,d,e,g⟩;refine⟨⟨h,h2,b,c,d,e,?_⟩,a⟩;apply Zn;intro hn;rw[Q3 hn]at g;omega
   ·rintro⟨a,b⟩;exact⟨b,a.be,a.di,a.sa,a.mo,G8 a.acy⟩
def Good.lt {f:cf} (h:Good f):f.st.length<=10:=by have:=h.lim;unfold iJ at this;omega
def gR (be:List fC) (d:Nat->Bool) (k:Nat):Bool:=be.any fun x=>ZQ (x.2=(k:Int))&&!cz d x.1
def nW (n:Nat) (be:List fC) (d:Nat->Bool):List Nat:=(ZF n).filter fun k=>!gR be d k&&!cz d (k:Int)
def gB {d:Nat->Bool} {k:Nat} (hk:k<=4095):cz d (k:Int)=d k:=by
 unfold cz;rw[decide_eq_true (by omega),decide_eq_true (by omega),Int.toNat_natCast,X0,X0]
def sI (s:List Int) (a:Int):Int:=s.getD a.toNat 0
def gC (s:List Int) (x:fC):Bool:=ZQ (sI s x.1≠0)&&ZQ (sI s x.1=sI s x.2)
def fq (s:List Int) (x:fC):Bool:=ZQ (sI s x.1≠0)&&ZQ (sI s x.2≠0)&&ZQ (sI s x.1≠sI s x.2)
def E1 (s:List Int) (m:UInt64) (u:Int) (n:Nat):Nat:=cn n fun k=>bt m k&&ZQ (s.getD k 0=u)
def iX (s:List Int) (x:tW):Bool:=s.any fun u=>ZQ (u≠0)&&ZQ (x.1<(E1 s x.2 u s.length:Int))
def eY (f:cf) (s:List Int):Nat×Nat:=
 match f.di.findIdx? (gC s)with
 |some i=>(1,i)
 |none=>match f.sa.findIdx? (fq s)with
  |some i=>(2,i)
  |none=>match f.mo.findIdx? (iX s)with
   |some i=>(3,i)
   |none=>(0,0)
def ux (n:Nat) (s:List Int):Bool:=(s.all fun u=>ZQ (0<=u)&&ZQ (u<=256))&&ZQ (s.length=n)
structure cF where
 n:Nat
 ro:List UInt8
 be:List (UInt8×UInt8)
 di:List (UInt8×UInt8)
 sa:List (UInt8×UInt8)
 mo:List (UInt8×UInt8)
 el:List UInt8
def oC (r:cF):Nat:=1+r.n % 5
def prN (n:Nat) (x:UInt8×UInt8):Nat×Nat:=(x.1.toNat % n,if x.1.toNat % n=x.2.toNat % n then(x.1.toNat % n+1) % n else x.2.toNat % n)
def gX (n:Nat) (x:UInt8×UInt8):fC:=(((prN n x).1:Nat),((prN n x).2:Nat))
def NI (x:fC):fC:=if x.2<x.1 then(x.2,x.1)else x
def Ha (k:Nat):List UInt8:=[115,ZG (48+k)]
def LJ (l:List UInt8) (k:Nat):Int:=if k<l.length then 1+((l.getD k 0).toNat % 4:Nat)else 1
def uy (r:cF) (m:Nat):List x9:=(ZF m).map fun k=>(Ha k,LJ r.ro k)
def allM (n:Nat):UInt64:=Y7 (2^n -1)
def moM (n:Nat) (x:UInt8×UInt8):UInt64:=if Y7 x.2.toNat&&&allM n=0 then allM n else Y7 x.2.toNat&&&allM n
def Q4 (n:Nat) (x:UInt8×UInt8):tW:=(1+((x.1.toNat % 3:Nat):Int),moM n x)
def bu (r:cF):cf where
 st:=uy r (oC r)
 be:=if 1<oC r then(r.be.take 6).map fun x=>NI (gX (oC r) x)else[]
 di:=if 1<oC r then(r.di.take 6).map (gX (oC r))else[]
 sa:=if 1<oC r then(r.sa.take 3).map (gX (oC r))else[]
 mo:=(r.mo.take 3).map (Q4 (oC r))
def ft (r:cF):1<=oC r/\oC r<=5:=by unfold oC;omega
def cK (r:cF):(bu r).st.length=oC r:=by simp[bu,uy]
def afL (h:1<n) (x:UInt8×UInt8):(prN n x).1<n/\(prN n x).2<n/\(prN n x).1≠(prN n x).2:=by
 unfold prN;have h1:x.1.toNat % n<n:=WO _ (by omega);have h2:x.2.toNat % n<n:=WO _ (by omega);refine⟨h1,?_,?_⟩
 ·simp only;split
  ·exact WO _ (by omega)
  ·exact h2
 ·simp only;split
  ·by_cases h3:x.1.toNat % n+1<n
   ·rw[Nat.mod_eq_of_lt h3];omega
   ·rw[show x.1.toNat % n+1=n by omega,Nat.mod_self];omega
  ·assumption
def AU (h:1<n) (x:UInt8×UInt8):kj (n:Int) (gX n x)/\(gX n x).1≠(gX n x).2:=by
 obtain⟨h1,h2,h3⟩:=afL h x;unfold gX kj;simp only;omega
def Q5 {x:fC} (h:kj (n:Int) x/\x.1≠x.2):kj (n:Int) (NI x)/\(NI x).1<(NI x).2:=by
 obtain⟨⟨h1,h2,h3,h4⟩,h5⟩:=h;unfold NI kj
 split
 ·simp only;omega
 ·exact⟨⟨h1,h2,h3,h4⟩,by omega⟩
def Hc (h:n<=5):(allM n).toNat=2^n -1:=by
 have:∀m:Fin 6,(allM m.val).toNat=2^m.val -1:=by decide
 exact this ⟨n,by omega⟩
def afM (h1:1<=n) (h:n<=5) (x:UInt8×UInt8):moM n x≠0/\(moM n x).toNat<2^n:=by
 have ha:=Hc h;have hp:2<=2^n:=by
  have:=Nat.pow_le_pow_right (show 0<2 by omega) h1;simpa using this
 unfold moM
 split
 ·refine⟨fun e=>?_,by omega⟩;rw[e]at ha;simp at ha;omega
 ·next hne=>
  refine⟨hne,?_⟩;rw[UInt64.toNat_and,ha];exact Nat.lt_of_le_of_lt Nat.and_le_right (by omega)
def tX {L:List fC} (h:∀x∈L,x.1<x.2):Eu (jK L):=by
 have:∀a b,Tc (jK L) a b->a<b:=fun a b hab=>by
  induction hab with
  |one k=>have:=h _ (of_decide_eq_true k);simp only at this;omega
  |more k _ ih=>have:=h _ (of_decide_eq_true k);simp only at this;omega
 exact fun a h=>by have:=this a a h;omega
def iK (r:cF):Good (bu r):=by
 obtain⟨z1,z2⟩:=ft r;have hl:=cK r;refine⟨fun e=>by rw[e]at hl;simp at hl;omega,?_,?_,?_,?_,?_,?_⟩
 ·unfold iJ;rw[hl];simp only[bu]
  split<;>simp[Zr]<;>omega
 ·intro x hx;rw[hl];simp only[bu]at hx
  split at hx
  ·next h1=>
   obtain⟨y,_,rfl⟩:=List.mem_map.1 hx;obtain⟨a,b⟩:=Q5 (AU h1 y);exact⟨a,by omega⟩
  ·simp at hx
 ·intro x hx;rw[hl];simp only[bu]at hx
  split at hx
  ·next h1=>obtain⟨y,_,rfl⟩:=List.mem_map.1 hx;exact AU h1 y
  ·simp at hx
 ·intro x hx;rw[hl];simp only[bu]at hx
  split at hx
  ·next h1=>obtain⟨y,_,rfl⟩:=List.mem_map.1 hx;exact AU h1 y
  ·simp at hx
 ·intro x hx;rw[hl];obtain⟨y,_,rfl⟩:=List.mem_map.1 hx;obtain⟨a,b⟩:=afM z1 z2 y;unfold pk Q4;rw[if_neg];rintro(h|h|h|h)
  ·simp only at h;omega
  ·simp only at h;omega
  ·exact a h
  ·simp only at h;omega
 ·refine tX fun x hx=>?_;simp only[bu]at hx
  split at hx
  ·next h1=>obtain⟨y,_,rfl⟩:=List.mem_map.1 hx;exact(Q5 (AU h1 y)).2
  ·simp at hx
def NJ {k:Nat} (h:k<5):cY (Ha k)=ZT:=by
 have:∀m:Fin 5,cY (Ha m.val)=ZT:=by decide+kernel
 exact this ⟨k,h⟩
def aaR {k:Nat} (h1:i<5) (h2:k<5) (h:Ha i=Ha k):i=k:=by
 have:∀a b:Fin 5,Ha a.val=Ha b.val->a.val=b.val:=by decide+kernel
 exact this ⟨i,h1⟩ ⟨k,h2⟩ h
def Q6 (l:List UInt8) (k:Nat):1<=LJ l k/\LJ l k<=4:=by
 unfold LJ;split<;>omega
def aaS (r:cF) (h4:4<=roles) (hp:∀k,1<=k->k<=4->p k=ZS) (i:Nat) (hi:i<(bu r).st.length):si roles p ((bu r).st.take i) ((bu r).st.getD i ([],0))=0:=by
 have hl:=cK r;obtain⟨z1,z2⟩:=ft r;rw[hl]at hi;have hg:∀j<oC r,(bu r).st.getD j ([],0)=(Ha j,LJ r.ro j):=fun j hj=>by
  simp only[bu,uy,ZP,List.getElem?_map,List.getElem?_range hj,Option.map_some,Zu]
 rw[hg i hi];unfold si;rw[if_neg (by rw[NJ (by omega)];simp),if_neg,if_neg]
 ·obtain⟨r1,r2⟩:=Q6 r.ro i;rintro(h|h|h)
  ·simp only at h;omega
  ·simp only at h;omega
  ·obtain⟨q,hq⟩:∃q:Nat,LJ r.ro i=(q:Int):=⟨(LJ r.ro i).toNat,by omega⟩
   simp only[hq]at h;rw[gB (by omega),hp q (by omega) (by omega)]at h
   cases h
 ·intro h;simp only[List.any_eq_true,decide_eq_true_eq]at h;obtain⟨y,hy,e⟩:=h;obtain⟨j,hj,rfl⟩:=List.getElem_of_mem hy;have F0:j<i:=by rw[Zr]at hj;omega
  have:=hg j (by omega);rw[ZP,List.getElem?_eq_getElem (by omega)]at this;rw[List.getElem_take]at e;simp only[Zu]at this;rw[this]at e;have:=aaR (by omega) (by omega) e;omega
def aaT (r:cF) (h4:4<=roles) (hp:∀k,1<=k->k<=4->p k=ZS):fF (bu r) roles p=0:=G9.2 ⟨iK r,aaS r h4 hp⟩
attribute [go_sem] zF
def AV (V:aH):S:=
 kY [kC 2 (kZ)] (kY [kC 3 (kZ)] (.seq (kY [kC 4 (Z8 ZY 0)] (.blk 0 (.loop (.seq (kY [kA 5 4,kV 6 (.cm .lss ZY (.t 5) (.c (Z8 ZY 64)))] (.ite (.v 6) .skip (.exit 0))) (.seq (.blk 1 (kY [kA 9 0,kA 10 4,kU 11 (.sh .shr ZW (.t 9) (.t 10)),kU 12 (.dv .rem ZW (.t 11) (.c (Z8 ZW 2))),kV 13 (.cm .eql ZW (.t 12) (.c (Z8 ZW 1)))] (.ite (.v 13) (.reg [kA 14 3,kA 15 4,kc 16 (.aX (V.t 26) 1 1 [.t 15]),kc 17 (.app ZS (V.t 26) 1 8 #[Z8 ZY 0] (.t 14) (.t 16)),kB 3 17]) .skip))) (.reg [kA 7 4,kU 8 (.ar .add ZY (.t 7) (.c (Z8 ZY 1))),kB 4 8])))))) (kY [kA 18 3,kB 2 18] .ret)))
def AW:List RV:=[.t 2]
def wy (V:aH):S:=
 kY [kd 2 (.new (V.t 128) #[kZ])] (kY [kA 3 0,kc 4 (kg (V.f 282) [.t 3]),kc 5 (kg (V.f 143) [.t 4]),kf (.stn 1 (.v 2) (.t 5))] .ret)
def wz:List RV:=[.cn 2 1]
def wA (V:aH):S:=
 kY [kC 4 (Z8 ZY 0)] (.seq (kY [kV 7 (.mv (.v 0)),kO 8 7,kC 9 (Z8 ZY 0)] (.blk 0 (.loop (kY [kH 10 9 8] (.seq (.ite (.v 10) .skip (.exit 0)) (.seq (.blk 1 (kY [kK 11 2 7 9,kN 12 2 11,kd 6 (.new (V.t 194) #[Z8 ZY 0,Z8 ZY 0]),kf (.stn 2 (.v 6) (.t 12))] (.seq (kY [kP 13 2 1 6 0,kD 14 13,kU 15 (.cm .lss ZY (.t 14) (.c (Z8 ZY 0))),kF 16 15,kT 17 16 ZS (.ia 2 1 (.v 6) (.c (Z8 ZY 0))),kT 18 16 ZS (.ld (.t 17)),kS 19 16 ZS 1,kT 20 16 ZS (.cm .geq ZY (.t 18) (.t 19)),kU 21 (.pick (.t 16) (.c (Z5 ZT)) (.t 20)),kF 22 21,kT 23 22 ZS (.ia 2 1 (.v 6) (.c (Z8 ZY 1))),kT 24 22 ZS (.ld (.t 23)),kT 25 22 ZS (.cm .lss ZY (.t 24) (.c (Z8 ZY 0))),kU 26 (.pick (.t 22) (.c (Z5 ZT)) (.t 25)),kF 27 26,kT 28 27 ZS (.ia 2 1 (.v 6) (.c (Z8 ZY 1))),kT 29 27 ZS (.ld (.t 28)),kS 30 27 ZS 1,kT 31 27 ZS (.cm .geq ZY (.t 29) (.t 30)),kV 32 (.pick (.t 27) (.c (Z5 ZT)) (.t 31))] (.ite (.v 32) (kY [kC 4 (Z8 ZY 2)] .ret) .skip)) (kY [kP 33 2 1 6 0,kD 34 33,kP 35 2 1 6 1,kD 36 35,kV 37 (.cm .eql ZY (.t 34) (.t 36))] (.ite (.v 37) (kY [kC 4 (Z8 ZY 1)] .ret) .skip))))) (.reg [ke 38 9,kB 9 38]))))))) (kY [kC 4 (Z8 ZY 0)] .ret))
def wB:List RV:=[.t 4]
-- no code: arbac/arbacref40.pairs
def AX (V:aH):S:=
 kY [kR 2 (V.t 49) 0,kd 4 (.new (V.t 194) #[Z8 ZY 0,Z8 ZY 0])] (kY [kP 7 2 1 2 0,kD 8 7,kU 9 (.ii ZY (.t 8)),kA 10 1,kU 11 (.dv .rem ZY (.t 9) (.t 10)),kB 5 11] (kY [kP 12 2 1 2 1,kD 13 12,kU 14 (.ii ZY (.t 13)),kA 15 1,kU 16 (.dv .rem ZY (.t 14) (.t 15)),kB 6 16] (.seq (kY [kA 17 5,kA 18 6,kV 19 (.cm .eql ZY (.t 17) (.t 18))] (.ite (.v 19) (.reg [kA 20 5,kU 21 (.ar .add ZY (.t 20) (.c (Z8 ZY 1))),kA 22 1,kU 23 (.dv .rem ZY (.t 21) (.t 22)),kB 6 23]) .skip)) (kY [kA 24 5,kA 25 6,kU 26 (.m (.bld #[Z8 ZY 0,Z8 ZY 0] [(0,(1,.t 24)),(1,(1,.t 25))])),kf (.stn 2 (.v 4) (.t 26))] .ret))))
def AY:List RV:=[.cn 4 2]
def Hd (V:aH):S:=
 kY [kC 2 (.string ⟨#[]⟩)] (.seq (kY [kA 3 0,kV 4 (.cm .lss ZY (.t 3) (.c (Z8 ZY 10)))] (.ite (.v 4) (kY [kA 5 0,kU 6 (.ar .add ZY (.c (Z8 ZY 48)) (.t 5)),kU 7 (.ii ZX (.t 6)),kc 8 (.aX (V.t 19) 1 1 [.t 7]),kU 9 (.m (.b2s (.t 8))),kB 2 9] .ret) .skip)) (.seq (.dr (kW 10 (.mv (.v 0)) (kW 11 (.dv .quo ZY (.t 10) (.c (Z8 ZY 10))) (kW 13 (.mv (.v 0)) (kW 14 (.dv .rem ZY (.t 13) (.c (Z8 ZY 10))) (kW 15 (.ar .add ZY (.c (Z8 ZY 48)) (.t 14)) (kW 16 (.ii ZX (.t 15)) (ka 12 (kg (V.f 287) [.t 11]) (ka 17 (.aX (V.t 19) 1 1 [.t 16]) (kW 18 (.m (.b2s (.t 17))) (kW 19 (.sadd (.t 12) (.t 18)) (kX 2 (.mv (.t 19)) .done))) .wnil) (ka 17 (.aX (V.t 19) 1 1 [.t 16]) (kW 18 (.m (.b2s (.t 17))) (ka 12 (kg (V.f 287) [.t 11]) (kW 19 (.sadd (.t 12) (.t 18)) (kX 2 (.mv (.t 19)) .done)) .wnil)) .wnil))))))))) .ret))
def He:List RV:=[.t 2]
def AZ (x:UInt64) (i:Nat):((((x.toNat:Int)/2^i).tmod 2)==1)=bt x i:=by
 have e:((x.toNat:Int)/2^i)=((x.toNat/2^i:Nat):Int):=by simp
 have e2:(((x.toNat/2^i:Nat):Int)).tmod 2=((x.toNat/2^i % 2:Nat):Int):=ct _ 2;rw[e,e2];unfold bt;rw[Nat.testBit_eq_decide_div_mod_eq];rw[YU];simp only[beq_iff_eq,decide_eq_true_eq];omega
def nJ (P:Program) (k:FuncId):Prop:=∀(x:UInt64) (H:Hp),an P k #[Z8 ZW x.toNat] H fun r H'=>br H' r (iN ((ZF 64).filter (bt x)))/\(∀q,ay r q->H.size<=q)/\af (fun _=>False) H H'
def wC (hk:ak P k (AV V) AW 1):nJ P k:=by
 intro x H;refine qI fun Q hQ=>?_;refine ah hk (args:=[_]) (by simp) ?_;unfold AV AW kA kB kC kU kV kc kY kZ;simp only[go_sem,zS,↓reduceIte,Za,Zb,Zc,reduceCtorEq,ae];refine aT [6,13,3,4] rfl (fun m f A=>∃(i:Nat) (v:ZR),i<=64/\m=64 -i/\f 4=Z8 ZY (i:Int)/\f 3=v/\br A v (iN ((ZF i).filter (bt x)))/\(∀q,ay v q->H.size<=q)/\af (fun _=>False) H A) 64 ?_ ?_
 ·exact⟨0,_,by omega,by omega,by rfl,by simp only[go_sem,zS,↓reduceIte,Za,Zb,Zc,reduceCtorEq,ae],br.nil _,fun q h=>h.elim,af.refl _ _⟩
 rintro m f A ⟨i,v,hi,rfl,yJ,uL,hO,ho,hK⟩;have sA:=hK.size;simp only[go_sem,zS,↓reduceIte,Za,Zb,Zc,reduceCtorEq,ae]at yJ uL;simp only[go_sem,zS,↓reduceIte,Za,Zb,Zc,reduceCtorEq,yJ];refine aN (fun hlt=>?_) (fun ki=>?_)
 ·have hlt:i<64:=by omega
  have hle:((ZF i).filter (bt x)).length<=64:=by
   have:=YS (bt x) (ZF i);simp at this;omega
  have hs:=Yg (n:=i);have h64:((i:Int)).toNat=i:=by omega
  simp-implicitDefEqProofs (disch:=omega)only[go_sem,zS,↓reduceIte,Za,Zb,Zc,reduceCtorEq,yJ,h64,AZ,al];refine⟨⟨by omega,by show((i:Nat):Int)<=((64:Nat):Int);omega⟩,by omega,?_⟩;refine zP (fun hb=>?_) (fun hb=>?_)
  ·simp only[go_sem,zS,↓reduceIte,Za,Zb,Zc,reduceCtorEq,yJ,uL];refine aG fun H1 b1 e1 z1 B1 K1=>?_;have bL:Bl H1 b1 (iN [i]):=B1;simp only[go_sem,zS,↓reduceIte,Za,Zb,Zc,reduceCtorEq,ae];refine ja (m:=iN [i]) H.size (hO.ai K1 (by simp)) ho (by omega) (aP.bl bL 0 1 1 (by omega) (by simp[bH])) (gT _) rfl (by omega) (by rw[bH,bH];simp only[List.length_singleton];omega) fun v' H2 O2 o2 K2=>?_;simp-implicitDefEqProofs (disch:=omega)only[go_sem,zS,↓reduceIte,Za,Zb,Zc,reduceCtorEq,ae,yJ,ZN];refine⟨64 -(i+1),by omega,i+1,v',by omega,rfl,rfl,rfl,?_,o2,(hK.trans K1).gK K2 (by omega)⟩;rw[hs,XD,WL,if_pos hb,WD,iN,XZ,PW];exact O2
  ·simp-implicitDefEqProofs (disch:=omega)only[go_sem,zS,↓reduceIte,Za,Zb,Zc,reduceCtorEq,ae,yJ,ZN];refine⟨64 -(i+1),by omega,i+1,v,by omega,rfl,rfl,uL,?_,ho,hK⟩;rw[hs,XD,WL,if_neg (by rw[hb];simp),WD,List.append_nil];exact hO
 ·have:i=64:=by omega
  subst this;simp only[go_sem,zS,↓reduceIte,Za,Zb,Zc,reduceCtorEq,ae,uL];rw[hQ];exact⟨hO,ho,hK⟩
def il (P:Program) (k:FuncId):Prop:=∀(x:UInt64) (H:Hp),an P k #[Z8 ZW x.toNat] H fun r H'=>aR H' r (bt x)/\(∀q,jG r q->H.size<=q)/\af (fun _=>False) H H'
def NL (hk:ak P k (wy V) wz 1) (hm:nJ P (V.f 282)) (ho:uN P (V.f 143)):il P k:=by
 intro x H;refine qI fun Q hQ=>?_;refine ah hk (args:=[_]) (by simp) ?_;unfold wy wz kA kc kd kf kg kY kZ;simp only[go_sem,zS,↓reduceIte,Za,Zb,Zc,reduceCtorEq];refine ax fun H1 b1 e1 z1 B1 K1=>?_;have bL:Bl H1 b1 [Z6 ZU 0 0]:=B1;simp only[go_sem,zS,↓reduceIte,Za,Zb,Zc,reduceCtorEq,ae];refine(hm x H1).mono ?_;rintro l H2 ⟨O2,o2,K2⟩;rw[ae];simp only[go_sem,zS,↓reduceIte,Za,Zb,Zc,reduceCtorEq,ae];have hle:((ZF 64).filter (bt x)).length<=64:=by
  have:=YS (bt x) (ZF 64);simp at this;omega
 refine(ho (nI ((ZF 64).filter (bt x))) l H2 O2.sl (by simp only[nI,YM];omega)).mono ?_;rintro r H3 ⟨S3,K3,s3⟩;have df:=K2.trans K3;have B3:=df.bl bL (by simp);obtain⟨v,W,rfl,hV⟩:=S3;rw[ae];simp only[go_sem,zS,↓reduceIte,Za,Zb,Zc,reduceCtorEq,ae];refine ur B3 hV.sl.one fun H4 z4 K4=>?_;have hb:∀q,jG (Z0 #[v]) q->q≠b1:=fun q hq e=>by have:=s3 q hq;have:=bL.lt;have:=K2.size;omega
 rw[hQ];refine⟨(aR.ai ⟨v,W,rfl,hV⟩ K4 hb).congr fun n=>?_,fun q hq=>by have:=s3 q hq;have:=K2.size;have:=K1.size;omega,(K1.trans df).dk K4 (by omega)⟩;unfold Po
 by_cases hn:n<64
 ·rw[decide_eq_true (show n<4096 by omega),Bool.and_true];rw[YU,decide_eq_true_eq];simp only[nI,XR,XV,YK]
  constructor
  ·rintro⟨a,⟨_,h⟩,e⟩;have:a=n:=by omega
   rw[<-this];exact h
  ·intro h;exact⟨n,⟨hn,h⟩,rfl⟩
 ·have h1:bt x n=ZS:=by
   cases hb:bt x n with
   |false=>rfl
   |true=>have:=pY hb;omega
  rw[h1,Bool.and_eq_false_iff]
  left
  rw[decide_eq_false_iff_not];simp only[nI,XR,XV,YK];rintro⟨a,⟨h,_⟩,e⟩;omega
def afN {l:List fC} (hi:i<l.length) (h:ji n (l.take i)=0):ji n (l.take (i+1))=qp n l[i]:=by
 rw[Zw hi,AS,h,fN];simp only[ji,iI]
 split<;>simp_all
def E2 {l:List fC} (h:ji n (l.take i)≠0):ji n l=ji n (l.take i):=by
 conv=>lhs;rw[<-List.take_append_drop i l]
 rw[AS,sg _ h]
def sk (P:Program) (k:FuncId):Prop:=∀(n:Nat) (l:List fC) (v:ZR) (H:Hp),rP H v l->l.length<=1000000->n<=1000000->an P k #[v,Z8 ZY n] H fun r H'=>r=Z8 ZY (ji n l)/\af (fun _=>False) H H'
def NN (hk:ak P k (wA V) wB 2):sk P k:=by
 intro n l v H hv hl hn;refine qI fun Q hQ=>?_;refine ah hk (args:=[_,_]) (by simp) ?_;unfold wA wB kB kF kC kD ke kH kK kN kO kP kS kT kU kV kd kf kY;simp-implicitDefEqProofs only[go_sem,zS,↓reduceIte,Za,Zb,Zc,reduceCtorEq,ae,hv.aq,hv.len];refine aF l.length [10,6,32,4,37,9] rfl rfl (by omega) (by simp-implicitDefEqProofs only[go_sem,zS,↓reduceIte,Za,Zb,Zc,reduceCtorEq,ae]) (by simp-implicitDefEqProofs only[go_sem,zS,↓reduceIte,Za,Zb,Zc,reduceCtorEq,ae]) (fun k g A=>ji n (l.take k)=0/\af (fun _=>False) H A) ⟨rfl,af.refl _ _⟩ ?_ ?_
 ·rintro k g A hk gi gn ⟨hp,KA⟩;simp-implicitDefEqProofs only[go_sem,zS,↓reduceIte,Za,Zb,Zc,reduceCtorEq,ae]at gi gn;have pA:=hv.aj KA;obtain⟨pb,po,pc,fT,-,hld⟩:=pA.elem (enc:=pE) (k:=2) (fun _=>rfl) hk;obtain⟨x,hx⟩:∃x,x=l[k]:=⟨_,rfl⟩
  have hpx:=afN hk hp;rw[<-hx]at hld hpx;obtain⟨x1,x2⟩:=x;have dm:aQ A ⟨pb,po+k*2,ZU⟩ 2=ZV #[Z8 ZY x1,Z8 ZY x2]:=hld;simp-implicitDefEqProofs only[go_sem,zS,↓reduceIte,Za,Zb,Zc,reduceCtorEq,zF,fT,gi,al,aC,dm];refine⟨by omega,?_⟩;refine aO [Z8 ZY x1,Z8 ZY x2] (by simp-implicitDefEqProofs only[go_sem,zS,↓reduceIte,Za,Zb,Zc,reduceCtorEq,ae]) rfl rfl rfl fun H1 b1 e1 z1 B1 K1=>?_;have KH:=KA.trans K1;have c0:cell H1 ⟨b1,0,ZU⟩=ZV (Z8 ZY x1):=by rw[B1.cell];rfl
  have c1:cell H1 ⟨b1,1,ZU⟩=ZV (Z8 ZY x2):=by rw[B1.cell];rfl
  have bad:qp n (x1,x2)=2->Q (Z8 ZY 2) H1:=fun h=>by
   rw[hQ,E2 (i:=k+1) (by rw[hpx,h];decide),hpx,h];exact⟨rfl,KH⟩
  by_cases h1:x1<0
  ·have e1:ZQ (x1<0)=ZT:=decide_eq_true h1;simp-implicitDefEqProofs only[go_sem,↓reduceIte,Za,Zb,Zc,reduceCtorEq,ae,Zf,Zg,Zh,Zi,Zd,Ze,c0,c1,e1];exact bad (by simp[qp,EZ,h1];try omega)
  have e1:ZQ (x1<0)=ZS:=decide_eq_false h1
  by_cases h2:(n:Int)<=x1
  ·have e2:ZQ ((n:Int)<=x1)=ZT:=decide_eq_true h2;simp-implicitDefEqProofs only[go_sem,↓reduceIte,Za,Zb,Zc,reduceCtorEq,ae,Zf,Zg,Zh,Zi,Zd,Ze,c0,c1,e1,e2];exact bad (by simp[qp,EZ,h2];try omega)
  have e2:ZQ ((n:Int)<=x1)=ZS:=decide_eq_false h2
  by_cases h3:x2<0
  ·have e3:ZQ (x2<0)=ZT:=decide_eq_true h3;simp-implicitDefEqProofs only[go_sem,↓reduceIte,Za,Zb,Zc,reduceCtorEq,ae,Zf,Zg,Zh,Zi,Zd,Ze,c0,c1,e1,e2,e3];exact bad (by simp[qp,EZ,h3];try omega)
  have e3:ZQ (x2<0)=ZS:=decide_eq_false h3
  by_cases h4:(n:Int)<=x2
  ·have e4:ZQ ((n:Int)<=x2)=ZT:=decide_eq_true h4;simp-implicitDefEqProofs only[go_sem,↓reduceIte,Za,Zb,Zc,reduceCtorEq,ae,Zf,Zg,Zh,Zi,Zd,Ze,c0,c1,e1,e2,e3,e4];exact bad (by simp[qp,EZ,h4];try omega)
  have e4:ZQ ((n:Int)<=x2)=ZS:=decide_eq_false h4
  by_cases h5:x1=x2
  ·have e5:(x1==x2)=ZT:=by simp[h5]
   simp-implicitDefEqProofs only[go_sem,↓reduceIte,Za,Zb,Zc,reduceCtorEq,ae,Zf,Zg,Zh,Zi,Zd,Ze,c0,c1,e1,e2,e3,e4,e5];have hp1:qp n (x1,x2)=1:=by simp[qp,EZ,e1,e2,e3,e4,h5]
   rw[hQ,E2 (i:=k+1) (by rw[hpx,hp1];decide),hpx,hp1];exact⟨rfl,KH⟩
  ·have e5:(x1==x2)=ZS:=by simp[h5]
   simp-implicitDefEqProofs only[go_sem,↓reduceIte,Za,Zb,Zc,reduceCtorEq,ae,Zf,Zg,Zh,Zi,Zd,Ze,c0,c1,e1,e2,e3,e4,e5];have hp1:qp n (x1,x2)=0:=by simp[qp,EZ,e1,e2,e3,e4,h5]
   exact⟨by rw[hpx,hp1],KH⟩
 ·rintro g A _ ⟨hp,KA⟩;simp-implicitDefEqProofs only[go_sem,zS,↓reduceIte,Za,Zb,Zc,reduceCtorEq,ae];rw[hQ];rw[List.take_length]at hp;exact⟨by rw[hp],KA⟩
def qq (P:Program) (k:FuncId):Prop:=∀(n:Nat) (x:UInt8×UInt8) (H:Hp),1<n->n<=10->an P k #[Z0 #[Z8 ZX x.1.toNat,Z8 ZX x.2.toNat],Z8 ZY n] H fun r H'=>r=Z0 #[Z8 ZY (gX n x).1,Z8 ZY (gX n x).2]/\af (fun _=>False) H H'
def Q7 (hk:ak P k (AX V) AY 2):qq P k:=by
 intro n x H h1 hn;obtain⟨a,b⟩:=x;have ha:=a.toNat_lt;have hb:=b.toNat_lt;refine qI fun Q hQ=>?_;refine ah hk (args:=[_,_]) (by simp) ?_;unfold AX AY kA kB kD kP kR kU kV kd kf kY;simp only[go_sem,Za,Zb];refine ax fun H1 b1 e1 z1 B1 K1=>?_;have bL:Bl H1 b1 [Z8 ZX a.toNat,Z8 ZX b.toNat]:=B1;simp only[go_sem,Za,Zb];refine ax fun H2 b2 e2 z2 B2 K2=>?_;have gI:=K2.bl bL id;have fG:Bl H2 b2 [Z8 ZY 0,Z8 ZY 0]:=B2;have cS:=K1.trans K2;have c0:cell H2 ⟨b1,0,ZU⟩=ZV (Z8 ZX a.toNat):=by rw[gI.cell];rfl
 have c1:cell H2 ⟨b1,1,ZU⟩=ZV (Z8 ZX b.toNat):=by rw[gI.cell];rfl
 have w0:IntKind.i64.wrap (a.toNat:Int)=a.toNat:=ZN _ (by omega);have w1:IntKind.i64.wrap (b.toNat:Int)=b.toNat:=ZN _ (by omega);have m0:((a.toNat:Int)).tmod (n:Int)=((a.toNat % n:Nat):Int):=ct _ _;have m1:((b.toNat:Int)).tmod (n:Int)=((b.toNat % n:Nat):Int):=ct _ _;have xX:((n:Nat):Int)≠0:=by omega
 have ha':a.toNat % n<n:=WO _ (by omega)
 by_cases he:a.toNat % n=b.toNat % n
 ·have e5:(((a.toNat % n:Nat):Int)==((b.toNat % n:Nat):Int))=ZT:=by rw[he];simp
  have w2:IntKind.i64.wrap (((a.toNat % n:Nat):Int)+1)=((a.toNat % n+1:Nat):Int):=by rw[ZN _ (by omega)];omega
  have m2:(((a.toNat % n+1:Nat):Int)).tmod (n:Int)=(((a.toNat % n+1) % n:Nat):Int):=ct _ _;simp-implicitDefEqProofs only[go_sem,↓reduceIte,Za,Zb,Zc,reduceCtorEq,ae,Zf,Zg,Zh,Zi,Zd,Ze,c0,c1,w0,w1,m0,m1,xX,e5,w2,m2,ne_eq];refine G6 (n:=2) (cs:=[Z8 ZY _,Z8 ZY _]) fG rfl rfl rfl fun H3 z3 B3 K3=>?_;rw[hQ];refine⟨?_,cS.dk K3 (by omega)⟩;simp[gX,prN,he]
 ·have e5:(((a.toNat % n:Nat):Int)==((b.toNat % n:Nat):Int))=ZS:=by simp only[beq_eq_false_iff_ne,ne_eq];omega
  simp-implicitDefEqProofs only[go_sem,↓reduceIte,Za,Zb,Zc,reduceCtorEq,ae,Zf,Zg,Zh,Zi,Zd,Ze,c0,c1,w0,w1,m0,m1,xX,e5,ne_eq];refine G6 (n:=2) (cs:=[Z8 ZY _,Z8 ZY _]) fG rfl rfl rfl fun H3 z3 B3 K3=>?_;rw[hQ];refine⟨?_,cS.dk K3 (by omega)⟩;simp[gX,prN,he]
def Bb (P:Program) (k:FuncId):Prop:=∀(n:Nat) (H:Hp),n<10->an P k #[Z8 ZY n] H fun r H'=>r=sV [ZG (48+n)]/\af (fun _=>False) H H'
def aaU (hk:ak P k (Hd V) He 1):Bb P k:=by
 intro n H hn;refine qI fun Q hQ=>?_;refine ah hk (args:=[_]) (by simp) ?_;unfold Hd He kA kB kC kU kV kW kX ka kc kg kY;have e1:ZQ ((n:Int)<10)=ZT:=decide_eq_true (by omega);have w1:IntKind.i64.wrap (48+(n:Int))=((48+n:Nat):Int):=by rw[ZN _ (by omega)];omega
 have w2:IntKind.u8.wrap ((48+n:Nat):Int)=(((ZG (48+n)).toNat:Nat):Int):=by
  rw[UInt8.toNat_ofNat',IntKind.wrap_u8];omega
 simp only[go_sem,Za,Zb,e1,w1,w2];refine aG fun H1 b1 e1 z1 B1 K1=>?_;have bL:Bl H1 b1 (w8 [ZG (48+n)]):=B1;have hs:aP H1 (Z6 (ZV ⟨b1,0,ZU⟩) 1 1) (w8 [ZG (48+n)]):=aP.bl bL 0 1 1 (by omega) (by simp[aM]);have hb:=hs.bO;simp only[go_sem,Za,Zb,ae,hb,toBA_w8];refine⟨jC hb,?_⟩;rw[hQ];exact⟨rfl,K1⟩
def Bc (V:aH):S:=
 (.dr (kW 37 (.fa 0 (.v 3)) (kW 39 (.mv (.v 5)) (kW 42 (.mv (.v 6)) (ka 38 (.rd (.ld (.t 37))) (ka 40 (kg (V.f 287) [.t 39]) (kW 41 (.sadd (.c (.string ⟨#[115]⟩)) (.t 40)) (kW 43 (.m (.bld #[.string ⟨#[]⟩,Z8 ZY 0] [(0,(1,.t 41)),(1,(1,.t 42))])) (ka 44 (.aX (V.t 290) 2 1 [.t 43]) (ka 45 (.app ZS (V.t 290) 2 24 #[.string ⟨#[]⟩,Z8 ZY 0] (.t 38) (.t 44)) (kW 46 (.fa 0 (.v 3)) (kb (.st (.t 46) (.t 45)) .done .wnil)) .wnil) .wnil))) .wnil) (ka 40 (kg (V.f 287) [.t 39]) (kW 41 (.sadd (.c (.string ⟨#[115]⟩)) (.t 40)) (kW 43 (.m (.bld #[.string ⟨#[]⟩,Z8 ZY 0] [(0,(1,.t 41)),(1,(1,.t 42))])) (ka 38 (.rd (.ld (.t 37))) (ka 44 (.aX (V.t 290) 2 1 [.t 43]) (ka 45 (.app ZS (V.t 290) 2 24 #[.string ⟨#[]⟩,Z8 ZY 0] (.t 38) (.t 44)) (kW 46 (.fa 0 (.v 3)) (kb (.st (.t 46) (.t 45)) .done .wnil)) .wnil) .wnil) (ka 44 (.aX (V.t 290) 2 1 [.t 43]) (ka 38 (.rd (.ld (.t 37))) (ka 45 (.app ZS (V.t 290) 2 24 #[.string ⟨#[]⟩,Z8 ZY 0] (.t 38) (.t 44)) (kW 46 (.fa 0 (.v 3)) (kb (.st (.t 46) (.t 45)) .done .wnil)) .wnil) .wnil) .wnil)))) .wnil))))))
def Bd (V:aH):S:=
 (.reg [kG 79 1 3,kD 80 79,kM 81 2 8,kc 82 (.aX (V.t 194) 2 1 [.t 81]),kc 83 (.app ZS (V.t 194) 2 16 #[Z8 ZY 0,Z8 ZY 0] (.t 80) (.t 82)),kG 84 1 3,kf (.st (.t 84) (.t 83))])
def Hf (V:aH):S:=
 (.dr (kW 100 (.fa 2 (.v 3)) (kW 102 (.fa 3 (.v 1)) (kW 103 (.ld (.t 102)) (kW 104 (.mv (.v 9)) (kW 105 (.is 2 (.t 103) (.t 104)) (kW 106 (.m (.ldn 2 (.t 105))) (kW 107 (.mv (.v 4)) (ka 101 (.rd (.ld (.t 100))) (ka 108 (kg (V.f 286) [.t 106,.t 107]) (ka 109 (.aX (V.t 194) 2 1 [.t 108]) (ka 110 (.app ZS (V.t 194) 2 16 #[Z8 ZY 0,Z8 ZY 0] (.t 101) (.t 109)) (kW 111 (.fa 2 (.v 3)) (kb (.st (.t 111) (.t 110)) .done .wnil)) .wnil) .wnil) .wnil) (ka 108 (kg (V.f 286) [.t 106,.t 107]) (ka 101 (.rd (.ld (.t 100))) (ka 109 (.aX (V.t 194) 2 1 [.t 108]) (ka 110 (.app ZS (V.t 194) 2 16 #[Z8 ZY 0,Z8 ZY 0] (.t 101) (.t 109)) (kW 111 (.fa 2 (.v 3)) (kb (.st (.t 111) (.t 110)) .done .wnil)) .wnil) .wnil) (ka 109 (.aX (V.t 194) 2 1 [.t 108]) (ka 101 (.rd (.ld (.t 100))) (ka 110 (.app ZS (V.t 194) 2 16 #[Z8 ZY 0,Z8 ZY 0] (.t 101) (.t 109)) (kW 111 (.fa 2 (.v 3)) (kb (.st (.t 111) (.t 110)) .done .wnil)) .wnil) .wnil) .wnil)) .wnil))))))))))
def Hg (V:aH):S:=
 (.dr (kW 127 (.fa 3 (.v 3)) (kW 129 (.fa 4 (.v 1)) (kW 130 (.ld (.t 129)) (kW 131 (.mv (.v 10)) (kW 132 (.is 2 (.t 130) (.t 131)) (kW 133 (.m (.ldn 2 (.t 132))) (kW 134 (.mv (.v 4)) (ka 128 (.rd (.ld (.t 127))) (ka 135 (kg (V.f 286) [.t 133,.t 134]) (ka 136 (.aX (V.t 194) 2 1 [.t 135]) (ka 137 (.app ZS (V.t 194) 2 16 #[Z8 ZY 0,Z8 ZY 0] (.t 128) (.t 136)) (kW 138 (.fa 3 (.v 3)) (kb (.st (.t 138) (.t 137)) .done .wnil)) .wnil) .wnil) .wnil) (ka 135 (kg (V.f 286) [.t 133,.t 134]) (ka 128 (.rd (.ld (.t 127))) (ka 136 (.aX (V.t 194) 2 1 [.t 135]) (ka 137 (.app ZS (V.t 194) 2 16 #[Z8 ZY 0,Z8 ZY 0] (.t 128) (.t 136)) (kW 138 (.fa 3 (.v 3)) (kb (.st (.t 138) (.t 137)) .done .wnil)) .wnil) .wnil) (ka 136 (.aX (V.t 194) 2 1 [.t 135]) (ka 128 (.rd (.ld (.t 127))) (ka 137 (.app ZS (V.t 194) 2 16 #[Z8 ZY 0,Z8 ZY 0] (.t 128) (.t 136)) (kW 138 (.fa 3 (.v 3)) (kb (.st (.t 138) (.t 137)) .done .wnil)) .wnil) .wnil) .wnil)) .wnil))))))))))
def Be (V:aH):S:=
 (.dr (kW 166 (.fa 4 (.v 3)) (kW 168 (.fa 5 (.v 1)) (kW 169 (.ld (.t 168)) (kW 170 (.mv (.v 11)) (kW 171 (.is 2 (.t 169) (.t 170)) (kW 172 (.ia 2 1 (.t 171) (.c (Z8 ZY 0))) (kW 173 (.ld (.t 172)) (kW 174 (.dv .rem ZX (.t 173) (.c (Z8 ZX 3))) (kW 175 (.ii ZY (.t 174)) (kW 176 (.ar .add ZY (.c (Z8 ZY 1)) (.t 175)) (kW 177 (.mv (.v 12)) (kW 178 (.m (.bld #[Z8 ZY 0,Z8 ZW 0] [(0,(1,.t 176)),(1,(1,.t 177))])) (ka 167 (.rd (.ld (.t 166))) (ka 179 (.aX (V.t 291) 2 1 [.t 178]) (ka 180 (.app ZS (V.t 291) 2 16 #[Z8 ZY 0,Z8 ZW 0] (.t 167) (.t 179)) (kW 181 (.fa 4 (.v 3)) (kb (.st (.t 181) (.t 180)) .done .wnil)) .wnil) .wnil) (ka 179 (.aX (V.t 291) 2 1 [.t 178]) (ka 167 (.rd (.ld (.t 166))) (ka 180 (.app ZS (V.t 291) 2 16 #[Z8 ZY 0,Z8 ZW 0] (.t 167) (.t 179)) (kW 181 (.fa 4 (.v 3)) (kb (.st (.t 181) (.t 180)) .done .wnil)) .wnil) .wnil) .wnil)))))))))))))))
def Hh (V:aH):S:=
 (kY [kA 47 7,kG 48 2 1,kD 49 48,kL 50 49,kU 51 (.cm .lss ZY (.t 47) (.t 50)),kF 52 51,kS 53 52 ZT 7,kT 54 52 ZT (.cm .lss ZY (.t 53) (.c (Z8 ZY 6))),kJ 55 52 54,kF 56 55,kS 57 56 ZT 4,kT 58 56 ZT (.cm .gtr ZY (.t 57) (.c (Z8 ZY 1))),kV 59 (.pick (.t 56) (.t 58) (.c (Z5 ZS)))] (.ite (.v 59) .skip (.exit 2)))
def Hi (V:aH):S:=
 (kY [kA 85 9,kG 86 3 1,kD 87 86,kL 88 87,kU 89 (.cm .lss ZY (.t 85) (.t 88)),kF 90 89,kS 91 90 ZT 9,kT 92 90 ZT (.cm .lss ZY (.t 91) (.c (Z8 ZY 6))),kJ 93 90 92,kF 94 93,kS 95 94 ZT 4,kT 96 94 ZT (.cm .gtr ZY (.t 95) (.c (Z8 ZY 1))),kV 97 (.pick (.t 94) (.t 96) (.c (Z5 ZS)))] (.ite (.v 97) .skip (.exit 4)))
def Hj (V:aH):S:=
 (kY [kA 112 10,kG 113 4 1,kD 114 113,kL 115 114,kU 116 (.cm .lss ZY (.t 112) (.t 115)),kF 117 116,kS 118 117 ZT 10,kT 119 117 ZT (.cm .lss ZY (.t 118) (.c (Z8 ZY 3))),kJ 120 117 119,kF 121 120,kS 122 121 ZT 4,kT 123 121 ZT (.cm .gtr ZY (.t 122) (.c (Z8 ZY 1))),kV 124 (.pick (.t 121) (.t 123) (.c (Z5 ZS)))] (.ite (.v 124) .skip (.exit 6)))
def Hk (V:aH):S:=
 (kY [kA 139 11,kG 140 5 1,kD 141 140,kL 142 141,kU 143 (.cm .lss ZY (.t 139) (.t 142)),kF 144 143,kS 145 144 ZT 11,kT 146 144 ZT (.cm .lss ZY (.t 145) (.c (Z8 ZY 3))),kV 147 (.pick (.t 144) (.t 146) (.c (Z5 ZS)))] (.ite (.v 147) .skip (.exit 8)))
def Bf (V:aH):S:=
 kY [kR 1 (V.t 288) 0,kd 2 (.new (V.t 289) #[kZ,kZ,kZ,kZ,kZ])] (kY [kU 13 (.m (.bld #[kZ,kZ,kZ,kZ,kZ] [])),kd 3 (.new (V.t 289) #[kZ,kZ,kZ,kZ,kZ]),kf (.stn 5 (.v 3) (.t 13))] (kY [kG 14 0 1,kD 15 14,kU 16 (.dv .rem ZX (.t 15) (.c (Z8 ZX 5))),kU 17 (.ii ZY (.t 16)),kU 18 (.ar .add ZY (.c (Z8 ZY 1)) (.t 17)),kB 4 18] (.seq (kY [kC 5 (Z8 ZY 0)] (.blk 0 (.loop (.seq (kY [kA 19 5,kA 20 4,kV 21 (.cm .lss ZY (.t 19) (.t 20))] (.ite (.v 21) .skip (.exit 0))) (.seq (.blk 1 (kY [kC 6 (Z8 ZY 1)] (.seq (kY [kA 24 5,kG 25 1 1,kD 26 25,kL 27 26,kV 28 (.cm .lss ZY (.t 24) (.t 27))] (.ite (.v 28) (.reg [kG 29 1 1,kD 30 29,kA 31 5,kI 32 1 30 31,kD 33 32,kU 34 (.dv .rem ZX (.t 33) (.c (Z8 ZX 4))),kU 35 (.ii ZY (.t 34)),kU 36 (.ar .add ZY (.c (Z8 ZY 1)) (.t 35)),kB 6 36]) .skip)) (Bc V)))) (.reg [kA 22 5,kU 23 (.ar .add ZY (.t 22) (.c (Z8 ZY 1))),kB 5 23])))))) (.seq (kY [kC 7 (Z8 ZY 0)] (.blk 2 (.loop (.seq (Hh V) (.seq (.blk 3 (kY [kG 62 2 1,kD 63 62,kA 64 7,kI 65 2 63 64,kN 66 2 65,kA 67 4,kc 68 (kg (V.f 286) [.t 66,.t 67]),kd 8 (.new (V.t 194) #[Z8 ZY 0,Z8 ZY 0]),kf (.stn 2 (.v 8) (.t 68))] (.seq (kY [kP 69 2 1 8 0,kD 70 69,kP 71 2 1 8 1,kD 72 71,kV 73 (.cm .gtr ZY (.t 70) (.t 72))] (.ite (.v 73) (.reg [kP 74 2 1 8 1,kD 75 74,kP 76 2 1 8 0,kD 77 76,kU 78 (.m (.bld #[Z8 ZY 0,Z8 ZY 0] [(0,(1,.t 75)),(1,(1,.t 77))])),kf (.stn 2 (.v 8) (.t 78))]) .skip)) (Bd V)))) (.reg [kA 60 7,kU 61 (.ar .add ZY (.t 60) (.c (Z8 ZY 1))),kB 7 61])))))) (.seq (kY [kC 9 (Z8 ZY 0)] (.blk 4 (.loop (.seq (Hi V) (.seq (.blk 5 (Hf V)) (.reg [kA 98 9,kU 99 (.ar .add ZY (.t 98) (.c (Z8 ZY 1))),kB 9 99])))))) (.seq (kY [kC 10 (Z8 ZY 0)] (.blk 6 (.loop (.seq (Hj V) (.seq (.blk 7 (Hg V)) (.reg [kA 125 10,kU 126 (.ar .add ZY (.t 125) (.c (Z8 ZY 1))),kB 10 126])))))) (.seq (kY [kC 11 (Z8 ZY 0)] (.blk 8 (.loop (.seq (Hk V) (.seq (.blk 9 (kY [kG 150 5 1,kD 151 150,kA 152 11,kI 153 2 151 152,kU 154 (.ia 2 1 (.t 153) (.c (Z8 ZY 1))),kD 155 154,kU 156 (.ii ZW (.t 155)),kA 157 4,kU 158 (.sh .shl ZW (.c (Z8 ZW 1)) (.t 157)),kU 159 (.ar .sub ZW (.t 158) (.c (Z8 ZW 1))),kU 160 (.bt .and ZW (.t 156) (.t 159)),kB 12 160] (.seq (kY [kA 161 12,kV 162 (.cm .eql ZW (.t 161) (.c (Z8 ZW 0)))] (.ite (.v 162) (.reg [kA 163 4,kU 164 (.sh .shl ZW (.c (Z8 ZW 1)) (.t 163)),kU 165 (.ar .sub ZW (.t 164) (.c (Z8 ZW 1))),kB 12 165]) .skip)) (Be V)))) (.reg [kA 148 11,kU 149 (.ar .add ZY (.t 148) (.c (Z8 ZY 1))),kB 11 149])))))) (kY [kM 182 5 3,kf (.stn 5 (.v 2) (.t 182))] .ret))))))))
def Bg:List RV:=[.cn 2 5]
def cB (x:x9):List ZR:=[sV x.1,Z8 ZY x.2]
def og (x:tW):List ZR:=[Z8 ZY x.1,Z8 ZW x.2.toNat]
def lU (x:UInt8×UInt8):List ZR:=[Z8 ZX x.1.toNat,Z8 ZX x.2.toNat]
def dE (x:x9):(cB x).length=2:=rfl
def qt (x:tW):(og x).length=2:=rfl
def iM (x:UInt8×UInt8):(lU x).length=2:=rfl
def jL (x:x9):∀v∈cB x,v.oneCell'=ZT:=by
 intro v hv;simp[cB]at hv;rcases hv with rfl|rfl<;>rfl
def E3 (x:tW):∀v∈og x,v.oneCell'=ZT:=by
 intro v hv;simp[og]at hv;rcases hv with rfl|rfl<;>rfl
def dF (H:Hp) (v:ZR) (f:cf):Prop:=∃s b d a m,v=Z0 #[s,b,d,a,m]/\bk cB 2 H s f.st/\rP H b f.be/\rP H d f.di/\rP H a f.sa/\bk og 2 H m f.mo
def flB (v:ZR) (q:Nat):Prop:=∃c∈gL v,aV c q
def dF.ai {W:Nat->Prop} {f:cf} (h:dF H v f) (hk:af W H H') (hw:∀q,flB v q->¬W q):dF H' v f:=by
 obtain⟨s,b,d,a,m,rfl,h1,h2,h3,h4,h5⟩:=h;have w:∀c∈[s,b,d,a,m],∀q,aV c q->¬W q:=fun c hc q hq=>hw q ⟨c,hc,hq⟩;exact⟨s,b,d,a,m,rfl,h1.ai hk (w s (by simp)),h2.ai hk (w b (by simp)),h3.ai hk (w d (by simp)),h4.ai hk (w a (by simp)),h5.ai hk (w m (by simp))⟩
def dF.aj {f:cf} (h:dF H v f) (hk:af (fun _=>False) H H'):dF H' v f:=h.ai hk fun _ _ h=>h
def jj (H:Hp) (v:ZR) (r:cF):Prop:=r.n<256/\∃ro be di sa mo el,v=Z0 #[Z8 ZX (r.n:Int),ro,be,di,sa,mo,el]/\aP H ro (w8 r.ro)/\bk lU 2 H be r.be/\bk lU 2 H di r.di/\bk lU 2 H sa r.sa/\bk lU 2 H mo r.mo/\aP H el (w8 r.el)
def jj.aj {r:cF} (h:jj H v r) (hk:af (fun _=>False) H H'):jj H' v r:=by
 obtain⟨h0,ro,be,di,sa,mo,el,rfl,h1,h2,h3,h4,h5,h6⟩:=h;exact⟨h0,ro,be,di,sa,mo,el,rfl,h1.ai hk (by simp),h2.aj hk,h3.aj hk,h4.aj hk,h5.aj hk,h6.ai hk (by simp)⟩
def yP {o:Nat} {l:List ZR} (h:aQ H ⟨b,o,ZU⟩ n=ZV l.toArray) {j:Nat} (hj:j<n):cell H ⟨b,o+j,ZU⟩=l[j]?:=by
 unfold aQ at h;simp only[Ys,ZD,if_false]at h
 split at h
 ·rename_i C T z hb
  split at h
  ·rename_i hle;simp only[Option.some.injEq]at h;have e:l[j]?=(C.extract o (o+n))[j]?:=by rw[h];simp
   rw[e];simp only[cell,hb,Ys,ZD,if_false];rw[Array.getElem?_extract];rw[if_pos (by omega)]
  ·cases h
 ·cases h
def NO (r:cF) (i:Nat):uy r (i+1)=uy r i++[(Ha i,LJ r.ro i)]:=by simp[uy,Yg]
def Q8 (r:cF) (i:Nat):(uy r i).length=i:=by simp[uy]
def aaV (hd:Bb P (V.f 287)) {sv:ZR} {L:List x9} {ro:Int} (h3:f 3=Z7 (ZV ⟨b,0,ZU⟩)) (h5:f 5=Z8 ZY (i:Int)) (h6:f 6=Z8 ZY ro) (hi:i<10) (hL:L.length<=100)
  (B:Bl A b (sv::cs)) (hb:b<C) (hC:C<=A.size) (O:cr cB 2 A sv L) (o:∀q,ay sv q->C<=q)
  (hK:∀v' A',cr cB 2 A' v' (L++[(Ha i,ro)])->(∀q,ay v' q->C<=q)->Bl A' b (v'::cs)->af (fun q=>q=b\/C<=q) A A'->Qb .n f A'):vc P (Bc V) Qb f A:=by
 unfold Bc kW ka kb kg;refine aZ (fun q=>q=b\/C<=q) ?_;have c0:∀{A':Hp},af (fun _=>False) A A'->cell A' ⟨b,0,ZU⟩=ZV sv:=fun K=>by rw[(K.bl B id).cell];rfl
 have UF:∀(x:List UInt8),(ByteArray.mk [115].toArray)++(ByteArray.mk x.toArray)=⟨([115]++x).toArray⟩:=fun x=>rfl;simp only[go_sem,Za,Zb,ae,h3,h5,h6,c0 (af.refl _ A)];have fin:∀(A2:Hp) (bb:Nat) (e:Env),af (fun _=>False) A A2->Bl A2 bb (cB (Ha i,ro))->jn ZS (V.t 290) 2 24 #[.string ⟨#[]⟩,Z8 ZY 0] sv (Z6 (ZV ⟨bb,0,ZU⟩) 1 1) A2 (mg P (fun q=>q=b\/C<=q) A2 (.t 45) (.px (.t 46) ZU (.fa 0 (.v 3)) (.wcons .no ZU (.st (.t 46) (.t 45)) .done .wnil)) e f (Qb .n)):=fun A2 bb e K B2=>
  nH dE jL (O.ai K (by simp)) o (by have:=K.size;omega) (bk.bl B2 (l:=[(Ha i,ro)]) rfl (by simp[cB]) (by simp)) rfl (by omega) (by simp;omega) (K.bl B id) hb (by simp) h3 rfl fun v' A' O' o' B' K'=>hK v' A' O' o' B' ((K.mono fun _ _ h=>h.elim).trans K')
 have eX:∀{X Y:Hp},af (fun _=>False) X Y->af (fun q=>q=b\/C<=q) X Y:=fun K=>K.mono fun _ _ h=>h.elim;have h2m:2<=maxLen:=by unfold maxLen;omega
 refine⟨⟨af.refl _ _,(hd i A hi).mono ?_⟩,(hd i A hi).mono ?_⟩
 ·rintro x A1 ⟨rfl,K1⟩;simp-implicitDefEqProofs only[go_sem,↓reduceIte,Za,Zb,Zc,reduceCtorEq,ae,Zf,Zg,Zh,Zi,Zd,Ze,sV];refine⟨eX K1,h2m,?_⟩;generalize tY:A1.push _=A2;have B2:Bl A2 A1.size (cB (Ha i,ro)):=by rw[<-tY];exact Bl.dh _ _ _
  have K2:af (fun _=>False) A1 A2:=by rw[<-tY];exact(af.refl _ _).push _
  exact⟨eX K2,fin A2 _ _ (K1.trans K2) B2⟩
 ·rintro x A1 ⟨rfl,K1⟩;simp only[go_sem,Za,Zb,ae,sV,c0 K1];refine⟨eX K1,h2m,?_⟩;generalize tY:A1.push _=A2;have B2:Bl A2 A1.size (cB (Ha i,ro)):=by rw[<-tY];exact Bl.dh _ _ _
  have K2:af (fun _=>False) A1 A2:=by rw[<-tY];exact(af.refl _ _).push _
  simp-implicitDefEqProofs only[go_sem,↓reduceIte,Za,Zb,Zc,reduceCtorEq,ae,Zf,Zg,Zh,Zi,Zd,Ze,c0 (K1.trans K2)];exact⟨⟨af.refl _ _,eX K2,fin A2 _ _ (K1.trans K2) B2⟩,eX K2,af.refl _ _,fin A2 _ _ (K1.trans K2) B2⟩
def aaW (hp:qq P (V.f 286)) {L:List fC} (h1:f 1=Z7 (ZV ⟨b1,0,ZU⟩)) (h3:f 3=Z7 (ZV ⟨b,0,ZU⟩)) (h4:f 4=Z8 ZY (n:Int)) (h9:f 9=Z8 ZY (i:Int)) (hn:1<n) (hn5:n<=5) (hL:L.length<=100)
  (B1:Bl A b1 [r0,r1,r2,dv,r4,r5,r6]) (hl:bk lU 2 A dv l) (hi:i<l.length) (B:Bl A b [y0,y1,y2,y3,y4]) (hb1:b1<b) (hb:b<C) (hdv:∀q,aV dv q->q<b) (hC:C<=A.size) (O:FZ A y2 L) (o:∀q,ay y2 q->C<=q)
  (hK:∀v' A',FZ A' v' (L++[gX n l[i]])->(∀q,ay v' q->C<=q)->Bl A' b [y0,y1,v',y3,y4]->af (fun q=>q=b\/C<=q) A A'->Qb .n f A'):vc P (Hf V) Qb f A:=by
 unfold Hf kW ka kb kg;refine aZ (fun q=>q=b\/C<=q) ?_;have c0:∀{A':Hp},af (fun _=>False) A A'->cell A' ⟨b,2,ZU⟩=ZV y2:=fun K=>by rw[(K.bl B id).cell];rfl
 have c1:cell A ⟨b1,3,ZU⟩=ZV dv:=by rw[B1.cell];rfl
 obtain⟨pb,po,pc,fT,oz,hld⟩:=hl.elem iM hi;have ahN:=hdv pb oz;obtain⟨x,hx⟩:∃x,x=l[i]:=⟨_,rfl⟩
 rw[<-hx]at hld hK;have dm:aQ A ⟨pb,po+i*2,ZU⟩ 2=ZV #[Z8 ZX x.1.toNat,Z8 ZX x.2.toNat]:=hld;have fin:∀(A2:Hp) (bb:Nat) (e:Env),af (fun _=>False) A A2->Bl A2 bb (pE (gX n x))->jn ZS (V.t 194) 2 16 #[Z8 ZY 0,Z8 ZY 0] y2 (Z6 (ZV ⟨bb,0,ZU⟩) 1 1) A2 (mg P (fun q=>q=b\/C<=q) A2 (.t 110) (.px (.t 111) ZU (.fa 2 (.v 3)) (.wcons .no ZU (.st (.t 111) (.t 110)) .done .wnil)) e f (Qb .n)):=fun A2 bb e K B2=>
  nH dy iE (O.ai K (by simp)) o (by have:=K.size;omega) (bk.bl B2 (l:=[gX n x]) rfl (by simp[pE]) (by simp)) rfl (by omega) (by simp;omega) (K.bl B id) hb (by simp) h3 rfl fun v' A' O' o' B' K'=>hK v' A' O' o' B' ((K.mono fun _ _ h=>h.elim).trans K')
 have eX:∀{X Y:Hp},af (fun _=>False) X Y->af (fun q=>q=b\/C<=q) X Y:=fun K=>K.mono fun _ _ h=>h.elim;simp only[go_sem,Za,Zb,ae,h1,h3,h4,h9,c0 (af.refl _ A),c1,fT,al,aC,dm];refine⟨by omega,by omega,by omega,⟨af.refl _ _,(hp n x A hn (by omega)).mono ?_⟩,(hp n x A hn (by omega)).mono ?_⟩
 ·rintro y A1 ⟨rfl,K1⟩;simp only[go_sem,Za,Zb,ae];refine⟨eX K1,?_⟩;generalize tY:A1.push _=A2;have B2:Bl A2 A1.size (pE (gX n x)):=by rw[<-tY];exact Bl.dh _ _ _
  have K2:af (fun _=>False) A1 A2:=by rw[<-tY];exact(af.refl _ _).push _
  exact⟨eX K2,fin A2 _ _ (K1.trans K2) B2⟩
 ·rintro y A1 ⟨rfl,K1⟩;simp only[go_sem,Za,Zb,ae,h3,c0 K1];refine⟨eX K1,?_⟩;generalize tY:A1.push _=A2;have B2:Bl A2 A1.size (pE (gX n x)):=by rw[<-tY];exact Bl.dh _ _ _
  have K2:af (fun _=>False) A1 A2:=by rw[<-tY];exact(af.refl _ _).push _
  simp only[go_sem,Za,Zb,ae,c0 (K1.trans K2)];exact⟨⟨af.refl _ _,eX K2,fin A2 _ _ (K1.trans K2) B2⟩,eX K2,af.refl _ _,fin A2 _ _ (K1.trans K2) B2⟩
def aaX (hp:qq P (V.f 286)) {L:List fC} (h1:f 1=Z7 (ZV ⟨b1,0,ZU⟩)) (h3:f 3=Z7 (ZV ⟨b,0,ZU⟩)) (h4:f 4=Z8 ZY (n:Int)) (h9:f 10=Z8 ZY (i:Int)) (hn:1<n) (hn5:n<=5) (hL:L.length<=100)
  (B1:Bl A b1 [r0,r1,r2,r3,dv,r5,r6]) (hl:bk lU 2 A dv l) (hi:i<l.length) (B:Bl A b [y0,y1,y2,y3,y4]) (hb1:b1<b) (hb:b<C) (hdv:∀q,aV dv q->q<b) (hC:C<=A.size) (O:FZ A y3 L) (o:∀q,ay y3 q->C<=q)
  (hK:∀v' A',FZ A' v' (L++[gX n l[i]])->(∀q,ay v' q->C<=q)->Bl A' b [y0,y1,y2,v',y4]->af (fun q=>q=b\/C<=q) A A'->Qb .n f A'):vc P (Hg V) Qb f A:=by
 unfold Hg kW ka kb kg;refine aZ (fun q=>q=b\/C<=q) ?_;have c0:∀{A':Hp},af (fun _=>False) A A'->cell A' ⟨b,3,ZU⟩=ZV y3:=fun K=>by rw[(K.bl B id).cell];rfl
 have c1:cell A ⟨b1,4,ZU⟩=ZV dv:=by rw[B1.cell];rfl
 obtain⟨pb,po,pc,fT,oz,hld⟩:=hl.elem iM hi;have ahN:=hdv pb oz;obtain⟨x,hx⟩:∃x,x=l[i]:=⟨_,rfl⟩
 rw[<-hx]at hld hK;have dm:aQ A ⟨pb,po+i*2,ZU⟩ 2=ZV #[Z8 ZX x.1.toNat,Z8 ZX x.2.toNat]:=hld;have fin:∀(A2:Hp) (bb:Nat) (e:Env),af (fun _=>False) A A2->Bl A2 bb (pE (gX n x))->jn ZS (V.t 194) 2 16 #[Z8 ZY 0,Z8 ZY 0] y3 (Z6 (ZV ⟨bb,0,ZU⟩) 1 1) A2 (mg P (fun q=>q=b\/C<=q) A2 (.t 137) (.px (.t 138) ZU (.fa 3 (.v 3)) (.wcons .no ZU (.st (.t 138) (.t 137)) .done .wnil)) e f (Qb .n)):=fun A2 bb e K B2=>
  nH dy iE (O.ai K (by simp)) o (by have:=K.size;omega) (bk.bl B2 (l:=[gX n x]) rfl (by simp[pE]) (by simp)) rfl (by omega) (by simp;omega) (K.bl B id) hb (by simp) h3 rfl fun v' A' O' o' B' K'=>hK v' A' O' o' B' ((K.mono fun _ _ h=>h.elim).trans K')
 have eX:∀{X Y:Hp},af (fun _=>False) X Y->af (fun q=>q=b\/C<=q) X Y:=fun K=>K.mono fun _ _ h=>h.elim;simp only[go_sem,Za,Zb,ae,h1,h3,h4,h9,c0 (af.refl _ A),c1,fT,al,aC,dm];refine⟨by omega,by omega,by omega,⟨af.refl _ _,(hp n x A hn (by omega)).mono ?_⟩,(hp n x A hn (by omega)).mono ?_⟩
 ·rintro y A1 ⟨rfl,K1⟩;simp only[go_sem,Za,Zb,ae];refine⟨eX K1,?_⟩;generalize tY:A1.push _=A2;have B2:Bl A2 A1.size (pE (gX n x)):=by rw[<-tY];exact Bl.dh _ _ _
  have K2:af (fun _=>False) A1 A2:=by rw[<-tY];exact(af.refl _ _).push _
  exact⟨eX K2,fin A2 _ _ (K1.trans K2) B2⟩
 ·rintro y A1 ⟨rfl,K1⟩;simp only[go_sem,Za,Zb,ae,h3,c0 K1];refine⟨eX K1,?_⟩;generalize tY:A1.push _=A2;have B2:Bl A2 A1.size (pE (gX n x)):=by rw[<-tY];exact Bl.dh _ _ _
  have K2:af (fun _=>False) A1 A2:=by rw[<-tY];exact(af.refl _ _).push _
  simp only[go_sem,Za,Zb,ae,c0 (K1.trans K2)];exact⟨⟨af.refl _ _,eX K2,fin A2 _ _ (K1.trans K2) B2⟩,eX K2,af.refl _ _,fin A2 _ _ (K1.trans K2) B2⟩
def akM (n:Nat) (hn:n<=5):IntKind.u64.wrap (IntKind.u64.wrap (1*2^n) -1)=((allM n).toNat:Int):=by
 have:∀m:Fin 6,IntKind.u64.wrap (IntKind.u64.wrap (1*2^m.val) -1)=((allM m.val).toNat:Int):=by decide
 exact this ⟨n,by omega⟩
def aaY {L:List tW} {m:UInt64} (h1:f 1=Z7 (ZV ⟨b1,0,ZU⟩)) (h3:f 3=Z7 (ZV ⟨b,0,ZU⟩)) (h11:f 11=Z8 ZY (i:Int)) (h12:f 12=Z8 ZW m.toNat) (hL:L.length<=100)
  (B1:Bl A b1 [r0,r1,r2,r3,r4,dv,r6]) (hl:bk lU 2 A dv l) (hi:i<l.length) (B:Bl A b [y0,y1,y2,y3,y4]) (hb1:b1<b) (hb:b<C) (hdv:∀q,aV dv q->q<b) (hC:C<=A.size) (O:cr og 2 A y4 L) (o:∀q,ay y4 q->C<=q)
  (hK:∀v' A',cr og 2 A' v' (L++[(1+((l[i].1.toNat % 3:Nat):Int),m)])->(∀q,ay v' q->C<=q)->Bl A' b [y0,y1,y2,y3,v']->af (fun q=>q=b\/C<=q) A A'->Qb .n f A'):vc P (Be V) Qb f A:=by
 unfold Be kW ka kb;refine aZ (fun q=>q=b\/C<=q) ?_;have c0:∀{A':Hp},af (fun _=>False) A A'->cell A' ⟨b,4,ZU⟩=ZV y4:=fun K=>by rw[(K.bl B id).cell];rfl
 have c1:cell A ⟨b1,5,ZU⟩=ZV dv:=by rw[B1.cell];rfl
 obtain⟨pb,po,pc,fT,oz,hld⟩:=hl.elem iM hi;have ahN:=hdv pb oz;obtain⟨x,hx⟩:∃x,x=l[i]:=⟨_,rfl⟩
 rw[<-hx]at hld hK;have c2:cell A ⟨pb,po+i*2,ZU⟩=ZV (Z8 ZX x.1.toNat):=yP hld (j:=0) (by omega);have hlt:=x.1.toNat_lt;have m3:((x.1.toNat:Int)).tmod 3=((x.1.toNat % 3:Nat):Int):=ct _ 3;have w3:IntKind.i64.wrap ((x.1.toNat % 3:Nat):Int)=((x.1.toNat % 3:Nat):Int):=ZN _ (by omega);have w4:IntKind.i64.wrap (1+((x.1.toNat % 3:Nat):Int))=1+((x.1.toNat % 3:Nat):Int):=ZN _ (by omega);have fin:∀(A2:Hp) (bb:Nat) (e:Env),af (fun _=>False) A A2->Bl A2 bb (og (1+((x.1.toNat % 3:Nat):Int),m))->jn ZS (V.t 291) 2 16 #[Z8 ZY 0,Z8 ZW 0] y4 (Z6 (ZV ⟨bb,0,ZU⟩) 1 1) A2 (mg P (fun q=>q=b\/C<=q) A2 (.t 180) (.px (.t 181) ZU (.fa 4 (.v 3)) (.wcons .no ZU (.st (.t 181) (.t 180)) .done .wnil)) e f (Qb .n)):=fun A2 bb e K B2=>
  nH qt E3 (O.ai K (by simp)) o (by have:=K.size;omega) (bk.bl B2 (l:=[(1+((x.1.toNat % 3:Nat):Int),m)]) rfl (by simp[og]) (by simp)) rfl (by omega) (by simp;omega) (K.bl B id) hb (by simp) h3 rfl fun v' A' O' o' B' K'=>hK v' A' O' o' B' ((K.mono fun _ _ h=>h.elim).trans K')
 have eX:∀{X Y:Hp},af (fun _=>False) X Y->af (fun q=>q=b\/C<=q) X Y:=fun K=>K.mono fun _ _ h=>h.elim;simp-implicitDefEqProofs only[go_sem,↓reduceIte,Za,Zb,Zc,reduceCtorEq,ae,Zf,Zg,Zh,Zi,Zd,Ze,h1,h3,h11,h12,c0 (af.refl _ A),c1,fT,al,c2,m3,w3,w4];refine⟨by omega,by omega,by omega,by decide,?_⟩;generalize tY:A.push _=A2;have B2:Bl A2 A.size (og (1+((x.1.toNat % 3:Nat):Int),m)):=by rw[<-tY];exact Bl.dh _ _ _
 have K2:af (fun _=>False) A A2:=by rw[<-tY];exact(af.refl _ _).push _
 simp only[go_sem,Za,Zb,ae,c0 K2];exact⟨⟨af.refl _ _,eX K2,fin A2 _ _ K2 B2⟩,eX K2,af.refl _ _,fin A2 _ _ K2 B2⟩
def aaZ {bp:Nat} {L:List fC} {x:fC} (h3:f 3=Z7 (ZV ⟨b,0,ZU⟩)) (h8:f 8=Z7 (ZV ⟨bp,0,ZU⟩)) (hL:L.length<=100)
  (Bp:Bl A bp (pE x)) (B:Bl A b [y0,y1,y2,y3,y4]) (hb:b<C) (hC:C<=A.size) (O:FZ A y1 L) (o:∀q,ay y1 q->C<=q)
  (hK:∀v' A',FZ A' v' (L++[x])->(∀q,ay v' q->C<=q)->Bl A' b [y0,v',y2,y3,y4]->af (fun q=>q=b\/C<=q) A A'->Qb .n f A'):vc P (Bd V) Qb f A:=by
 unfold Bd kD kG kM kc kf;have c0:cell A ⟨b,1,ZU⟩=ZV y1:=by rw[B.cell];rfl
 simp only[go_sem,Za,Zb,h3,h8,c0,Bp.aL 2 rfl];refine⟨rfl,?_⟩;refine aG fun A2 b2 e2 z2 B2 K2=>?_;have fG:Bl A2 b2 (pE x):=B2;simp only[go_sem,Za,Zb];exact wx dy iE (O.ai K2 (by simp)) o (by omega) (bk.bl fG (l:=[x]) rfl (by simp[pE]) (by simp)) rfl (by omega) (by simp;omega) (K2.bl B id) hb (by simp) h3 rfl fun v' A' O' o' B' K'=>hK v' A' O' o' B' ((K2.mono fun _ _ h=>h.elim).trans K')
def cZ {α:Type} {l:List α} (h:i<l.length):l.take (i+1)=l.take i++[l[i]]:=Zw h
def aa0 (h1:f 1=Z7 (ZV ⟨b1,0,ZU⟩)) (h4:f 4=Z8 ZY (n:Int)) (h7:f 7=Z8 ZY (i:Int)) (B1:Bl A b1 cs) (hc:cs[2]?=ZV dv) (hd:aq dv) (hl:aW dv=len)
  (hT:i<min len 6->1<n->Qb .n (bR f 59 (Z5 ZT)) A) (hF:¬(i<min len 6/\1<n)->Qb (.x 2) (bR f 59 (Z5 ZS)) A):vc P (Hh V) Qb f A:=by
 unfold Hh kA kF kD kG kJ kL kS kT kU kV kY;have c0:cell A ⟨b1,2,ZU⟩=ZV dv:=by rw[B1.cell];exact hc
 by_cases e1:i<len
 ·have d1:ZQ ((i:Int)<(len:Int))=ZT:=decide_eq_true (by omega)
  by_cases e2:i<6
  ·have d2:ZQ ((i:Int)<6)=ZT:=decide_eq_true (by omega)
   by_cases e3:1<n
   ·have d3:ZQ (1<(n:Int))=ZT:=decide_eq_true (by omega);simp only[go_sem,Za,Zb,ae,h1,h4,h7,c0,hd,hl,d1,d2,gt_iff_lt,d3];exact hT (by omega) e3
   ·have d3:ZQ (1<(n:Int))=ZS:=decide_eq_false (by omega);simp only[go_sem,Za,Zb,ae,h1,h4,h7,c0,hd,hl,d1,d2,gt_iff_lt,d3];exact hF (by omega)
  ·have d2:ZQ ((i:Int)<6)=ZS:=decide_eq_false (by omega);simp only[go_sem,Za,Zb,ae,h1,h4,h7,c0,hd,hl,d1,d2];exact hF (by omega)
 ·have d1:ZQ ((i:Int)<(len:Int))=ZS:=decide_eq_false (by omega);simp only[go_sem,Za,Zb,ae,h1,h4,h7,c0,hd,hl,d1];exact hF (by omega)
def aa1 (h1:f 1=Z7 (ZV ⟨b1,0,ZU⟩)) (h4:f 4=Z8 ZY (n:Int)) (h7:f 9=Z8 ZY (i:Int)) (B1:Bl A b1 cs) (hc:cs[3]?=ZV dv) (hd:aq dv) (hl:aW dv=len)
  (hT:i<min len 6->1<n->Qb .n (bR f 97 (Z5 ZT)) A) (hF:¬(i<min len 6/\1<n)->Qb (.x 4) (bR f 97 (Z5 ZS)) A):vc P (Hi V) Qb f A:=by
 unfold Hi kA kF kD kG kJ kL kS kT kU kV kY;have c0:cell A ⟨b1,3,ZU⟩=ZV dv:=by rw[B1.cell];exact hc
 by_cases e1:i<len
 ·have d1:ZQ ((i:Int)<(len:Int))=ZT:=decide_eq_true (by omega)
  by_cases e2:i<6
  ·have d2:ZQ ((i:Int)<6)=ZT:=decide_eq_true (by omega)
   by_cases e3:1<n
   ·have d3:ZQ (1<(n:Int))=ZT:=decide_eq_true (by omega);simp only[go_sem,Za,Zb,ae,h1,h4,h7,c0,hd,hl,d1,d2,gt_iff_lt,d3];exact hT (by omega) e3
   ·have d3:ZQ (1<(n:Int))=ZS:=decide_eq_false (by omega);simp only[go_sem,Za,Zb,ae,h1,h4,h7,c0,hd,hl,d1,d2,gt_iff_lt,d3];exact hF (by omega)
  ·have d2:ZQ ((i:Int)<6)=ZS:=decide_eq_false (by omega);simp only[go_sem,Za,Zb,ae,h1,h4,h7,c0,hd,hl,d1,d2];exact hF (by omega)
 ·have d1:ZQ ((i:Int)<(len:Int))=ZS:=decide_eq_false (by omega);simp only[go_sem,Za,Zb,ae,h1,h4,h7,c0,hd,hl,d1];exact hF (by omega)
def aa2 (h1:f 1=Z7 (ZV ⟨b1,0,ZU⟩)) (h4:f 4=Z8 ZY (n:Int)) (h7:f 10=Z8 ZY (i:Int)) (B1:Bl A b1 cs) (hc:cs[4]?=ZV dv) (hd:aq dv) (hl:aW dv=len)
  (hT:i<min len 3->1<n->Qb .n (bR f 124 (Z5 ZT)) A) (hF:¬(i<min len 3/\1<n)->Qb (.x 6) (bR f 124 (Z5 ZS)) A):vc P (Hj V) Qb f A:=by
 unfold Hj kA kF kD kG kJ kL kS kT kU kV kY;have c0:cell A ⟨b1,4,ZU⟩=ZV dv:=by rw[B1.cell];exact hc
 by_cases e1:i<len
 ·have d1:ZQ ((i:Int)<(len:Int))=ZT:=decide_eq_true (by omega)
  by_cases e2:i<3
  ·have d2:ZQ ((i:Int)<3)=ZT:=decide_eq_true (by omega)
   by_cases e3:1<n
   ·have d3:ZQ (1<(n:Int))=ZT:=decide_eq_true (by omega);simp only[go_sem,Za,Zb,ae,h1,h4,h7,c0,hd,hl,d1,d2,gt_iff_lt,d3];exact hT (by omega) e3
   ·have d3:ZQ (1<(n:Int))=ZS:=decide_eq_false (by omega);simp only[go_sem,Za,Zb,ae,h1,h4,h7,c0,hd,hl,d1,d2,gt_iff_lt,d3];exact hF (by omega)
  ·have d2:ZQ ((i:Int)<3)=ZS:=decide_eq_false (by omega);simp only[go_sem,Za,Zb,ae,h1,h4,h7,c0,hd,hl,d1,d2];exact hF (by omega)
 ·have d1:ZQ ((i:Int)<(len:Int))=ZS:=decide_eq_false (by omega);simp only[go_sem,Za,Zb,ae,h1,h4,h7,c0,hd,hl,d1];exact hF (by omega)
def aa3 (h1:f 1=Z7 (ZV ⟨b1,0,ZU⟩)) (h7:f 11=Z8 ZY (i:Int)) (B1:Bl A b1 cs) (hc:cs[5]?=ZV dv) (hd:aq dv) (hl:aW dv=len)
  (hT:i<min len 3->Qb .n (bR f 147 (Z5 ZT)) A) (hF:¬i<min len 3->Qb (.x 8) (bR f 147 (Z5 ZS)) A):vc P (Hk V) Qb f A:=by
 unfold Hk kA kF kD kG kL kS kT kU kV kY;have c0:cell A ⟨b1,5,ZU⟩=ZV dv:=by rw[B1.cell];exact hc
 by_cases e1:i<len
 ·have d1:ZQ ((i:Int)<(len:Int))=ZT:=decide_eq_true (by omega)
  by_cases e2:i<3
  ·have d2:ZQ ((i:Int)<3)=ZT:=decide_eq_true (by omega);simp only[go_sem,Za,Zb,ae,h1,h7,c0,hd,hl,d1,d2];exact hT (by omega)
  ·have d2:ZQ ((i:Int)<3)=ZS:=decide_eq_false (by omega);simp only[go_sem,Za,Zb,ae,h1,h7,c0,hd,hl,d1,d2];exact hF (by omega)
 ·have d1:ZQ ((i:Int)<(len:Int))=ZS:=decide_eq_false (by omega);simp only[go_sem,Za,Zb,ae,h1,h7,c0,hd,hl,d1];exact hF (by omega)
def qw (P:Program) (k:FuncId):Prop:=∀(r:cF) (v:ZR) (H:Hp),jj H v r->an P k #[v] H fun x H'=>dF H' x (bu r)/\(∀q,flB x q->H.size<=q)/\af (fun _=>False) H H'
def Q9 (hk:ak P k (Bf V) Bg 1) (hp:qq P (V.f 286)) (hd:Bb P (V.f 287)):qw P k:=by
 intro r v H hv;have pg:=hv;obtain⟨hn,ro,be,di,sa,mo,el,rfl,hro,hbe,hdi,UF,hmo,hel⟩:=hv;refine qI fun Q hQ=>?_;refine ah hk (args:=[_]) (by simp) ?_;unfold Bf Bg kA kB kC kD kG kI kL kM kN kP kR kU kV kc kd kf kg kY kZ;simp only[go_sem,Za,Zb];refine ax fun H1 b1 e1 z1 B1 K1=>?_;have bL:Bl H1 b1 [Z8 ZX (r.n:Int),ro,be,di,sa,mo,el]:=B1;simp only[go_sem,Za,Zb];refine ax fun H2 b2 e2 z2 B2 K2=>?_;have gI:=K2.bl bL id;simp only[go_sem,Za,Zb];refine aO [Z6 ZU 0 0,Z6 ZU 0 0,Z6 ZU 0 0,Z6 ZU 0 0,Z6 ZU 0 0] (by rfl) rfl rfl rfl fun H3 b3 e3 z3 B3 K3=>?_;have jv:=K3.bl gI id;have tR:=K3.bl B2 id;have eo:=(K1.trans K2).trans K3;have hb1:b1<b2:=by have:=bL.lt;omega
 have hb2:b2<b3:=by have:=B2.lt;omega
 obtain⟨C,hC⟩:∃C,C=H3.size:=⟨_,rfl⟩
 have hCH:H.size<=b1:=by omega
 have DR:b3<C:=by have:=B3.lt;omega
 obtain⟨n,hne⟩:∃n,n=oC r:=⟨_,rfl⟩
 have hn5:=ft r;rw[<-hne]at hn5;have cA:∀{A:Hp},af (fun q=>q=b3\/C<=q) H3 A->∀i,cell A ⟨b1,i,ZU⟩=([Z8 ZX (r.n:Int),ro,be,di,sa,mo,el]:List ZR)[i]?:=fun K i=>(K.bl jv (by omega)).cell i;have c0:=cA (af.refl _ H3) 0;have m5:((r.n:Int)).tmod 5=((r.n % 5:Nat):Int):=ct _ _;have w5:IntKind.i64.wrap ((r.n % 5:Nat):Int)=((r.n % 5:Nat):Int):=ZN _ (by omega);have w6:IntKind.i64.wrap (1+((r.n % 5:Nat):Int))=(n:Int):=by rw[ZN _ (by omega),hne];unfold oC;omega
 simp only[Yt]at c0;simp only[go_sem,Za,Zb,ae,c0,m5,w5,w6];refine⟨by decide,?_⟩;refine aT [21,6,28,5] rfl (fun m f A=>∃(i:Nat) (sv:ZR),i<=n/\m=n -i/\f 5=Z8 ZY (i:Int)/\Bl A b3 [sv,Z6 ZU 0 0,Z6 ZU 0 0,Z6 ZU 0 0,Z6 ZU 0 0]/\cr cB 2 A sv (uy r i)/\(∀q,ay sv q->C<=q)/\af (fun q=>q=b3\/C<=q) H3 A) n ?_ ?_
 ·exact⟨0,_,by omega,by omega,by rfl,B3,cr.nil _,fun q h=>h.elim,af.refl _ _⟩
 rintro m f A ⟨i,sv,hi,rfl,hf5,BA,OA,oA,KA⟩;have sA:=KA.size;simp-implicitDefEqProofs only[go_sem,zS,↓reduceIte,Za,Zb,Zc,reduceCtorEq,ae]at hf5;simp only[go_sem,Za,Zb,hf5];refine aN (fun hlt=>?_) (fun ki=>?_)
 ·have hlt:i<n:=by omega
  have c1:=cA KA 1;simp only[List.getElem?_cons_succ,Yt]at c1;have roA:=(hro.ai eo (by simp)).ai KA (fun q hq h=>by have:=(hro.ai eo (by simp)).bo hq;have:=hro.bo hq;omega);simp only[go_sem,Za,Zb,hf5,c1,roA.len,roA.aq,aM];have fin:∀g:Fr,g 3=Z7 (ZV ⟨b3,0,ZU⟩)->g 5=Z8 ZY (i:Int)->g 6=Z8 ZY (LJ r.ro i)->∀Qb,(∀v' A',cr cB 2 A' v' (uy r (i+1))->(∀q,ay v' q->C<=q)->Bl A' b3 [v',Z6 ZU 0 0,Z6 ZU 0 0,Z6 ZU 0 0,Z6 ZU 0 0]->af (fun q=>q=b3\/C<=q) H3 A'->Qb .n g A')->vc P (Bc V) Qb g A:=fun g g3 g5 g6 Qb hQb=>
   aaV hd g3 g5 g6 (by omega) (by rw[Q8];omega) BA DR (by omega) OA oA fun v' A' O' o' B' K'=>hQb v' A' (by rw[NO];exact O') o' B' (KA.trans K')
  refine aN (fun hlr=>?_) (fun hlr=>?_)
  ·have hlr:i<r.ro.length:=by omega
   obtain⟨rb,rof,rc,hre,hrc,hcell⟩:=roA.cells (by intro e;rw[e]at roA;have:=aM r.ro;rw[e]at this;simp at this;omega);have hci:=hcell i (by rw[aM];exact hlr);rw[k8 _ _ hlr]at hci;have aml:=(r.ro.getD i 0).toNat_lt;have m4:(((r.ro.getD i 0).toNat:Int)).tmod 4=(((r.ro.getD i 0).toNat % 4:Nat):Int):=ct _ 4;have w4:IntKind.i64.wrap (((r.ro.getD i 0).toNat % 4:Nat):Int)=(((r.ro.getD i 0).toNat % 4:Nat):Int):=ZN _ (by omega);have w7:IntKind.i64.wrap (1+(((r.ro.getD i 0).toNat % 4:Nat):Int))=LJ r.ro i:=by rw[ZN _ (by omega)];unfold LJ;rw[if_pos hlr]
   simp only[go_sem,Za,Zb,ae,hf5,hre,al,hci,m4,w4,w7,aM];refine⟨by omega,by decide,?_⟩;refine fin _ (by rfl) (by simp only[go_sem,Za,Zb,ae,hf5]) (by rfl) _ fun v' A' O' o' B' K'=>?_;simp-implicitDefEqProofs (disch:=omega)only[go_sem,Za,Zb,ae,hf5,ZN];exact⟨n -(i+1),by omega,i+1,v',by omega,rfl,rfl,B',O',o',K'⟩
  ·have w7:LJ r.ro i=1:=by unfold LJ;rw[if_neg (by omega)]
   refine fin _ (by rfl) (by simp only[go_sem,Za,Zb,ae,hf5]) (by simp only[go_sem,Za,Zb,ae,w7]) _ fun v' A' O' o' B' K'=>?_;simp-implicitDefEqProofs (disch:=omega)only[go_sem,Za,Zb,ae,hf5,ZN];exact⟨n -(i+1),by omega,i+1,v',by omega,rfl,rfl,B',O',o',K'⟩
 ·have hin:i=n:=by omega
  subst hin;have W0:∀{X:Hp},af (fun q=>q=b3\/C<=q) H3 X->Bl X b1 [Z8 ZX (r.n:Int),ro,be,di,sa,mo,el]:=fun K=>K.bl jv (by omega);have raw:∀{X:Hp} {v:ZR} {l:List (UInt8×UInt8)},bk lU 2 H v l->af (fun q=>q=b3\/C<=q) H3 X->bk lU 2 X v l/\∀q,aV v q->q<b3:=fun{X v l} h K=>by
   have h3:=h.aj eo;exact⟨h3.ai K fun q hq hw=>by have:=h.bo hq;omega,fun q hq=>by have:=h.bo hq;omega⟩
  obtain⟨C1,hC1⟩:∃C1,C1=A.size:=⟨_,rfl⟩
  have hCC:C<=C1:=by omega
  have oS:∀q,ay sv q->C<=q/\q<C1:=fun q hq=>⟨oA q hq,by have:=OA.bo hq;omega⟩
  obtain⟨NB,hNB⟩:∃NB,NB=if 1<i then min r.be.length 6 else 0:=⟨_,rfl⟩
  refine aT [59,8,73,7] rfl (fun m f X=>∃(j:Nat) (bv:ZR),j<=NB/\m=NB -j/\f 7=Z8 ZY (j:Int)/\Bl X b3 [sv,bv,Z6 ZU 0 0,Z6 ZU 0 0,Z6 ZU 0 0]/\FZ X bv ((r.be.take j).map fun x=>NI (gX i x))/\(∀q,ay bv q->C1<=q)/\af (fun q=>q=b3\/C1<=q) A X) NB ?_ ?_
  ·exact⟨0,_,by omega,by omega,by rfl,BA,cr.nil _,fun q h=>h.elim,af.refl _ _⟩
  rintro m g X ⟨j,bv,hj,rfl,hg7,BX,OX,oX,KX⟩;have sX:=KX.size;have K3X:af (fun q=>q=b3\/C<=q) H3 X:=KA.trans (KX.mono fun q _ h=>by omega);simp-implicitDefEqProofs only[go_sem,zS,↓reduceIte,Za,Zb,Zc,reduceCtorEq,ae]at hg7;rw[kx];refine aa0 (n:=i) (len:=r.be.length) (i:=j) (by rfl) (by rfl) (by simp only[go_sem,Za,Zb,ae,hg7]) (W0 K3X) rfl hbe.aq hbe.len (fun hj1 Pj=>?_) (fun hnj=>?_)
  ·rw[if_pos Pj]at hNB;have ym:j<r.be.length:=by omega
   obtain⟨beX,bbX⟩:=raw hbe K3X;obtain⟨pb,po,pc,fT,oz,hld⟩:=beX.elem iM ym;obtain⟨x,hx⟩:∃x,x=r.be[j]:=⟨_,rfl⟩
   rw[<-hx]at hld;have dm:aQ X ⟨pb,po+j*2,ZU⟩ 2=ZV #[Z8 ZX x.1.toNat,Z8 ZX x.2.toNat]:=hld;have c2:cell X ⟨b1,2,ZU⟩=ZV be:=by rw[(W0 K3X).cell];rfl
   rw[fT]at c2;simp only[go_sem,Za,Zb,ae,hg7,c2,al,aC,dm];refine⟨by omega,(hp i x X Pj (by omega)).mono ?_⟩;rintro y X1 ⟨rfl,LK⟩;rw[ae];simp only[go_sem,Za,Zb];refine aO [Z8 ZY (gX i x).1,Z8 ZY (gX i x).2] (by rfl) rfl rfl rfl fun X2 bp eb zb BP KX2=>?_;have aa4:=LK.trans KX2;have s1:=LK.size;have p0:cell X2 ⟨bp,0,ZU⟩=ZV (Z8 ZY (gX i x).1):=by rw[BP.cell];rfl
   have p1:cell X2 ⟨bp,1,ZU⟩=ZV (Z8 ZY (gX i x).2):=by rw[BP.cell];rfl
   have BX2:=aa4.bl BX (by simp);have OX2:=OX.ai aa4 (by simp);have aeh:∀(g2:Fr) (X3:Hp),Bl X3 bp (pE (NI (gX i x)))->af (fun q=>q=bp) X2 X3->g2 3=Z7 (ZV ⟨b3,0,ZU⟩)->g2 8=Z7 (ZV ⟨bp,0,ZU⟩)->∀Qb,(∀v' X',FZ X' v' ((r.be.take (j+1)).map fun x=>NI (gX i x))->(∀q,ay v' q->C1<=q)->Bl X' b3 [sv,v',Z6 ZU 0 0,Z6 ZU 0 0,Z6 ZU 0 0]->af (fun q=>q=b3\/C1<=q) A X'->Qb .n g2 X')->vc P (Bd V) Qb g2 X3:=fun g2 X3 hB3 hK3 q3 q8 Qb hQb=>by
    have hbp:C1<=bp:=by omega
    have hbx:b3<X2.size:=BX2.lt;have hb4:b3<bp:=by have:=BX.lt;omega
    have sX3:=hK3.size;refine aaZ (C:=C1) q3 q8 (by rw[YM,Zr];omega) hB3 (hK3.bl BX2 (by omega)) (by omega) (by have:=aa4.size;omega) (OX2.ai hK3 fun q hq e=>by have:=OX.bo hq;omega) oX fun v' X' O' o' B' K'=>hQb v' X' ?_ o' B' ?_
    ·rw[cZ ym,XZ,<-hx];exact O'
    ·exact(KX.trans aa4.any).trans ((hK3.mono fun q _ e=>by omega).trans K')
   by_cases Ac:(gX i x).2<(gX i x).1
   ·have e1:ZQ ((gX i x).1>(gX i x).2)=ZT:=decide_eq_true Ac;simp-implicitDefEqProofs only[go_sem,↓reduceIte,Za,Zb,Zc,reduceCtorEq,ae,Zf,Zg,Zh,Zi,Zd,Ze,p0,p1,e1];refine⟨⟨BP.bG (by simp),aU rfl⟩,?_⟩;have BS:=BP.aB 0 [Z8 ZY (gX i x).2,Z8 ZY (gX i x).1];refine aeh _ _ ?_ ((af.refl _ _).aB _ (.inl rfl)) (by rfl) (by rfl) _ fun v' X' O' o' B' K'=>?_
    ·have:pE (NI (gX i x))=rE [Z8 ZY (gX i x).1,Z8 ZY (gX i x).2] 0 [Z8 ZY (gX i x).2,Z8 ZY (gX i x).1]:=by
      unfold NI;rw[if_pos Ac];rfl
     rw[this];exact BS
    ·simp-implicitDefEqProofs (disch:=omega)only[go_sem,Za,Zb,ae,hg7,ZN];exact⟨NB -(j+1),by omega,j+1,v',by omega,rfl,rfl,B',O',o',K'⟩
   ·have e1:ZQ ((gX i x).1>(gX i x).2)=ZS:=decide_eq_false (by omega);simp-implicitDefEqProofs only[go_sem,↓reduceIte,Za,Zb,Zc,reduceCtorEq,ae,Zf,Zg,Zh,Zi,Zd,Ze,p0,p1,e1];refine aeh _ _ ?_ (af.refl _ _) (by rfl) (by rfl) _ fun v' X' O' o' B' K'=>?_
    ·have:pE (NI (gX i x))=[Z8 ZY (gX i x).1,Z8 ZY (gX i x).2]:=by
      unfold NI;rw[if_neg Ac];rfl
     rw[this];exact BP
    ·simp-implicitDefEqProofs (disch:=omega)only[go_sem,Za,Zb,ae,hg7,ZN];exact⟨NB -(j+1),by omega,j+1,v',by omega,rfl,rfl,B',O',o',K'⟩
  ·have vB:j=NB:=by rw[hNB]at hj⊢;split at hj<;>split<;>omega
   have eB:(r.be.take j).map (fun x=>NI (gX i x))=(bu r).be:=by
    rw[vB,hNB];simp only[bu,<-hne]
    split
    ·congr 1
     by_cases h6:r.be.length<=6
     ·rw[Zy (by omega),Zy h6]
     ·rw[show min r.be.length 6=6 by omega]
    ·simp
   rw[eB]at OX;have oB:∀q,ay bv q->C1<=q/\q<X.size:=fun q hq=>⟨oX q hq,OX.bo hq⟩
   have OSX:=OA.ai KX fun q hq h=>by have:=oS q hq;omega
   obtain⟨C2,hC2⟩:∃C2,C2=X.size:=⟨_,rfl⟩
   rw[<-hC2]at oB;clear hj hnj vB eB hg7;have amm:C1<=C2:=by omega
   clear KX;obtain⟨ND,hND⟩:∃ND,ND=if 1<i then min r.di.length 6 else 0:=⟨_,rfl⟩
   simp only[go_sem,Za,Zb,ae];refine aT [97,9] rfl (fun m f Y=>∃(j:Nat) (dv:ZR),j<=ND/\m=ND -j/\f 9=Z8 ZY (j:Int)/\Bl Y b3 [sv,bv,dv,Z6 ZU 0 0,Z6 ZU 0 0]/\FZ Y dv ((r.di.take j).map (gX i))/\(∀q,ay dv q->C2<=q)/\af (fun q=>q=b3\/C2<=q) X Y) ND ?_ ?_
   ·exact⟨0,_,by omega,by omega,by rfl,BX,cr.nil _,fun q h=>h.elim,af.refl _ _⟩
   rintro m g2 Y ⟨j,dv,hj,rfl,hg9,BY,OY,oY,KY⟩;have sY:=KY.size;have K3Y:af (fun q=>q=b3\/C<=q) H3 Y:=K3X.trans (KY.mono fun q _ h=>by omega);simp-implicitDefEqProofs only[go_sem,zS,↓reduceIte,Za,Zb,Zc,reduceCtorEq,ae]at hg9;rw[kx];refine aa1 (n:=i) (len:=r.di.length) (i:=j) (by rfl) (by rfl) (by simp only[go_sem,Za,Zb,ae,hg9]) (W0 K3Y) rfl hdi.aq hdi.len (fun hj1 Pj=>?_) (fun hnj=>?_)
   ·rw[if_pos Pj]at hND;have ym:j<r.di.length:=by omega
    obtain⟨diY,dbY⟩:=raw hdi K3Y;simp only[go_sem,Za,Zb,ae];refine aaW (n:=i) (i:=j) hp (by rfl) (by rfl) (by rfl) (by simp only[go_sem,Za,Zb,ae,hg9]) Pj (by omega) (by rw[YM,Zr];omega) (W0 K3Y) diY ym BY (by omega) (by omega:b3<C2) dbY (by omega) OY oY fun v' X' O' o' B' K'=>?_;simp-implicitDefEqProofs (disch:=omega)only[go_sem,Za,Zb,ae,hg9,ZN];refine⟨ND -(j+1),by omega,j+1,v',by omega,rfl,rfl,B',?_,o',KY.trans K'⟩;rw[cZ ym,XZ];exact O'
   ·have vB:j=ND:=by rw[hND]at hj⊢;split at hj<;>split<;>omega
    have eD:(r.di.take j).map (gX i)=(bu r).di:=by
     rw[vB,hND];simp only[bu,<-hne]
     split
     ·congr 1
      by_cases h6:r.di.length<=6
      ·rw[Zy (by omega),Zy h6]
      ·rw[show min r.di.length 6=6 by omega]
     ·simp
    rw[eD]at OY;have oD:∀q,ay dv q->C2<=q/\q<Y.size:=fun q hq=>⟨oY q hq,OY.bo hq⟩
    have OSY:=OSX.ai KY fun q hq h=>by have:=oS q hq;omega
    have OBY:=OX.ai KY fun q hq h=>by have:=oB q hq;omega
    obtain⟨C3,hC3⟩:∃C3,C3=Y.size:=⟨_,rfl⟩
    rw[<-hC3]at oD;have amn:C2<=C3:=by omega
    clear hj hnj vB eD hg9 KY;obtain⟨NA,hNA⟩:∃NA,NA=if 1<i then min r.sa.length 3 else 0:=⟨_,rfl⟩
    simp only[go_sem,Za,Zb,ae];refine aT [124,10] rfl (fun m f Z=>∃(j:Nat) (av:ZR),j<=NA/\m=NA -j/\f 10=Z8 ZY (j:Int)/\Bl Z b3 [sv,bv,dv,av,Z6 ZU 0 0]/\FZ Z av ((r.sa.take j).map (gX i))/\(∀q,ay av q->C3<=q)/\af (fun q=>q=b3\/C3<=q) Y Z) NA ?_ ?_
    ·exact⟨0,_,by omega,by omega,by rfl,BY,cr.nil _,fun q h=>h.elim,af.refl _ _⟩
    rintro m g3 Z ⟨j,av,hj,rfl,Ra,BZ,OZ,oZ,KZ⟩;have sZ:=KZ.size;have K3Z:af (fun q=>q=b3\/C<=q) H3 Z:=K3Y.trans (KZ.mono fun q _ h=>by omega);simp-implicitDefEqProofs only[go_sem,zS,↓reduceIte,Za,Zb,Zc,reduceCtorEq,ae]at Ra;rw[kx];refine aa2 (n:=i) (len:=r.sa.length) (i:=j) (by rfl) (by rfl) (by simp only[go_sem,Za,Zb,ae,Ra]) (W0 K3Z) rfl UF.aq UF.len (fun hj1 Pj=>?_) (fun hnj=>?_)
    ·rw[if_pos Pj]at hNA;have ym:j<r.sa.length:=by omega
     obtain⟨saZ,sbZ⟩:=raw UF K3Z;simp only[go_sem,Za,Zb,ae];refine aaX (n:=i) (i:=j) hp (by rfl) (by rfl) (by rfl) (by simp only[go_sem,Za,Zb,ae,Ra]) Pj (by omega) (by rw[YM,Zr];omega) (W0 K3Z) saZ ym BZ (by omega) (by omega:b3<C3) sbZ (by omega) OZ oZ fun v' X' O' o' B' K'=>?_;simp-implicitDefEqProofs (disch:=omega)only[go_sem,Za,Zb,ae,Ra,ZN];refine⟨NA -(j+1),by omega,j+1,v',by omega,rfl,rfl,B',?_,o',KZ.trans K'⟩;rw[cZ ym,XZ];exact O'
    ·have vB:j=NA:=by rw[hNA]at hj⊢;split at hj<;>split<;>omega
     have eA:(r.sa.take j).map (gX i)=(bu r).sa:=by
      rw[vB,hNA];simp only[bu,<-hne]
      split
      ·congr 1
       by_cases h6:r.sa.length<=3
       ·rw[Zy (by omega),Zy h6]
       ·rw[show min r.sa.length 3=3 by omega]
      ·simp
     rw[eA]at OZ;have oA2:∀q,ay av q->C3<=q/\q<Z.size:=fun q hq=>⟨oZ q hq,OZ.bo hq⟩
     have OSZ:=OSY.ai KZ fun q hq h=>by have:=oS q hq;omega
     have OBZ:=OBY.ai KZ fun q hq h=>by have:=oB q hq;omega
     have ODZ:=OY.ai KZ fun q hq h=>by have:=oD q hq;omega
     obtain⟨C4,hC4⟩:∃C4,C4=Z.size:=⟨_,rfl⟩
     rw[<-hC4]at oA2;have amo:C3<=C4:=by omega
     clear hj hnj vB eA Ra KZ;obtain⟨NM,hNM⟩:∃NM,NM=min r.mo.length 3:=⟨_,rfl⟩
     simp only[go_sem,Za,Zb,ae];refine aT [147,12,162,11] rfl (fun m f T=>∃(j:Nat) (mv:ZR),j<=NM/\m=NM -j/\f 11=Z8 ZY (j:Int)/\Bl T b3 [sv,bv,dv,av,mv]/\cr og 2 T mv ((r.mo.take j).map (Q4 i))/\(∀q,ay mv q->C4<=q)/\af (fun q=>q=b3\/C4<=q) Z T) NM ?_ ?_
     ·exact⟨0,_,by omega,by omega,by rfl,BZ,cr.nil _,fun q h=>h.elim,af.refl _ _⟩
     rintro m g4 T ⟨j,mv,hj,rfl,Hl,BT,OT,oT,KT⟩;have sT:=KT.size;have Rb:af (fun q=>q=b3\/C<=q) H3 T:=K3Z.trans (KT.mono fun q _ h=>by omega);simp-implicitDefEqProofs only[go_sem,zS,↓reduceIte,Za,Zb,Zc,reduceCtorEq,ae]at Hl;rw[kx];refine aa3 (len:=r.mo.length) (i:=j) (by rfl) (by simp only[go_sem,Za,Zb,ae,Hl]) (W0 Rb) rfl hmo.aq hmo.len (fun hj1=>?_) (fun hnj=>?_)
     ·have ym:j<r.mo.length:=by omega
      obtain⟨moT,mbT⟩:=raw hmo Rb;obtain⟨pb,po,pc,fT,oz,hld⟩:=moT.elem iM ym;obtain⟨x,hx⟩:∃x,x=r.mo[j]:=⟨_,rfl⟩
      rw[<-hx]at hld;have c1:cell T ⟨pb,po+j*2+1,ZU⟩=ZV (Z8 ZX x.2.toNat):=yP hld (j:=1) (by omega);have c2:cell T ⟨b1,5,ZU⟩=ZV mo:=by rw[(W0 Rb).cell];rfl
      have c2':=c2;rw[fT]at c2';have Pp:=x.2.toNat_lt;have w1:IntKind.u64.wrap (x.2.toNat:Int)=((Y7 x.2.toNat).toNat:Int):=by
       rw[IntKind.wrap_u64,UInt64.toNat_ofNat'];omega
      have hand:bits .and ZW ((Y7 x.2.toNat).toNat:Int) ((allM i).toNat:Int)=((Y7 x.2.toNat&&&allM i).toNat:Int):=mw _ _;have tail:∀(g5:Fr) (mm:UInt64),mm=moM i x->g5 1=Z7 (ZV ⟨b1,0,ZU⟩)->g5 3=Z7 (ZV ⟨b3,0,ZU⟩)->g5 11=Z8 ZY (j:Int)->g5 12=Z8 ZW mm.toNat->∀Qb,(∀v' X',cr og 2 X' v' ((r.mo.take (j+1)).map (Q4 i))->(∀q,ay v' q->C4<=q)->Bl X' b3 [sv,bv,dv,av,v']->af (fun q=>q=b3\/C4<=q) Z X'->Qb .n g5 X')->vc P (Be V) Qb g5 T:=fun g5 mm hmm q1 q3 q11 q12 Qb hQb=>
       aaY (m:=mm) q1 q3 q11 q12 (by rw[YM,Zr];omega) (W0 Rb) moT ym BT (by omega) (by omega:b3<C4) mbT (by omega) OT oT fun v' X' O' o' B' K'=>hQb v' X' (by rw[cZ ym,XZ,<-hx];rw[hmm,<-hx]at O';exact O') o' B' (KT.trans K')
      have Rc:((i:Int)).toNat=i:=by omega
      have h64:((IntKind.u64.bits:Nat):Int)=64:=rfl;simp-implicitDefEqProofs only[go_sem,↓reduceIte,Za,Zb,Zc,reduceCtorEq,ae,Zf,Zg,Zh,Zi,Zd,Ze,Hl,c2',al,c1,w1,Rc,akM i (by omega),hand];have akN:∀y:UInt64,(((y.toNat:Int))==0)=ZQ (y=0):=fun y=>by
       rw[YU];simp only[beq_iff_eq,decide_eq_true_eq]
       constructor
       ·intro h;apply UInt64.toNat_inj.1;have:y.toNat=0:=by omega
        rw[this];rfl
       ·rintro rfl;rfl
      rw[akN];refine⟨by omega,by omega,aN (fun h0=>⟨by omega,?_⟩) (fun h0=>?_)⟩
      ·refine tail _ (allM i) (by unfold moM;rw[if_pos h0]) (by rfl) (by rfl) (by simp only[go_sem,Za,Zb,ae,Hl]) (by rfl) _ fun v' X' O' o' B' K'=>?_;simp-implicitDefEqProofs (disch:=omega)only[go_sem,Za,Zb,ae,Hl,ZN];exact⟨NM -(j+1),by omega,j+1,v',by omega,rfl,rfl,B',O',o',K'⟩
      ·refine tail _ (Y7 x.2.toNat&&&allM i) (by unfold moM;rw[if_neg h0]) (by rfl) (by rfl) (by simp only[go_sem,Za,Zb,ae,Hl]) (by rfl) _ fun v' X' O' o' B' K'=>?_;simp-implicitDefEqProofs (disch:=omega)only[go_sem,Za,Zb,ae,Hl,ZN];exact⟨NM -(j+1),by omega,j+1,v',by omega,rfl,rfl,B',O',o',K'⟩
     ·have vB:j=NM:=by omega
      have eM:(r.mo.take j).map (Q4 i)=(bu r).mo:=by
       rw[vB,hNM];simp only[bu,<-hne]
       congr 1
       by_cases h6:r.mo.length<=3
       ·rw[Zy (by omega),Zy h6]
       ·rw[show min r.mo.length 3=3 by omega]
      rw[eM]at OT;have oM:∀q,ay mv q->C4<=q:=oT;have OST:=OSZ.ai KT fun q hq h=>by have:=oS q hq;omega
      have OBT:=OBZ.ai KT fun q hq h=>by have:=oB q hq;omega
      have ODT:=ODZ.ai KT fun q hq h=>by have:=oD q hq;omega
      have OAT:=OZ.ai KT fun q hq h=>by have:=oA2 q hq;omega
      have eS:uy r i=(bu r).st:=by simp only[bu,<-hne]
      rw[eS]at OST;have B2T:=Rb.bl tR (by omega);simp only[go_sem,Za,Zb,ae,BT.aL 5 rfl];have one:([sv,bv,dv,av,mv].all fun v=>v.oneCell')=ZT:=by
       obtain⟨_,_,_,rfl⟩:=OST.shape;obtain⟨_,_,_,rfl⟩:=OBT.shape;obtain⟨_,_,_,rfl⟩:=ODT.shape;obtain⟨_,_,_,rfl⟩:=OAT.shape;obtain⟨_,_,_,rfl⟩:=OT.shape
       rfl
      refine G6 (n:=5) (cs:=[sv,bv,dv,av,mv]) B2T rfl rfl one fun HZ zz BZ2 uQ=>?_;rw[hQ];have amp:∀q,C<=q->q≠b2:=fun q h e=>by omega
      refine⟨⟨_,_,_,_,_,rfl,(OST.sl.ai uQ fun q hq e=>?_),(OBT.sl.ai uQ fun q hq e=>?_),(ODT.sl.ai uQ fun q hq e=>?_),(OAT.sl.ai uQ fun q hq e=>?_),(OT.sl.ai uQ fun q hq e=>?_)⟩,?_,?_⟩
      ·have:=oS q (OST.aV hq);omega
      ·have:=oB q (OBT.aV hq);omega
      ·have:=oD q (ODT.aV hq);omega
      ·have:=oA2 q (OAT.aV hq);omega
      ·have:=oM q (OT.aV hq);omega
      ·rintro q ⟨c,hc,hq⟩;have hc:c∈[sv,bv,dv,av,mv]:=hc;simp only[List.mem_cons,List.not_mem_nil,or_false]at hc;rcases hc with rfl|rfl|rfl|rfl|rfl
       ·have:=oS q (OST.aV hq);omega
       ·have:=oB q (OBT.aV hq);omega
       ·have:=oD q (ODT.aV hq);omega
       ·have:=oA2 q (OAT.aV hq);omega
       ·have:=oM q (OT.aV hq);omega
      ·have KHT:af (fun _=>False) H T:=eo.trans' Rb fun q hq h=>by omega
       exact KHT.trans' uQ fun q hq e=>by omega
end Go.Mg

/- Lemmas of ours. No conditions. -/
import Derived.Test.YtoclemmcphgikaaGreatDoorMgP5
import Derived.Test.YtoclemmcphgikaaGreatDoorMgN1
import Derived.Test.YtoclemmcphgikaaGreatDoorMgLp
open Nat renaming reduceEqDiff→Za,reduceAdd→Zb,reduceMul→Zc,reduceLeDiff→Zd,reduceLT→Ze
open Int renaming reduceBEq→Zf,reduceBNe→Zg,reduceLE→Zh,reduceLT→Zi
set_option linter.all false
set_option maxRecDepth 100000
namespace Go.Mg
abbrev wO:=List UInt8×Int
abbrev fV:=Int×Int
abbrev tk:=Int×UInt64
structure cf where
 st:List wO
 be:List fV
 di:List fV
 sa:List fV
 mo:List tk
def gZ (a b:Int):Int:=if a=0 then b else a
theorem fc (b:Int):gZ 0 b=b:=rfl
variable {a roles:Int} {n k:Nat} {p:Nat->Bool} {R:Nat->Nat->Bool}
theorem qE (b:Int) (h:a≠0):gZ a b=a:=if_neg h
theorem jQ {b:Int}:gZ a b=0↔a=0/\b=0:=by
 unfold gZ;split
 ·next h=>simp[h]
 ·next h=>simp[h]
def Dy (n:Nat) (x:fV):Bool:=decide (x.1<0)||decide ((n:Int)<=x.1)||decide (x.2<0)||decide ((n:Int)<=x.2)
def o0 (n:Nat) (x:fV):Int:=if Dy n x=true then 2 else if x.1=x.2 then 1 else 0
def iG (n:Nat):List fV->Int
 |[]=>0
 |x::l=>gZ (o0 n x) (iG n l)
theorem zv (n:Nat):∀(l m:List fV),iG n (l++m)=gZ (iG n l) (iG n m)
 |[],m=>rfl
 |x::l,m=>by
  simp only[List.cons_append,iG,zv n l m];unfold gZ;split<;>rfl
theorem OE {n:Nat}:∀{l:List fV},iG n l=0↔∀x∈l,o0 n x=0
 |[]=>by simp[iG]
 |x::l=>by simp[iG,jQ,OE (l:=l)]
theorem OF {x : fV} : o0 n x = 0 ↔ kg (n : Int) x /\ x.1 ≠ x.2 := by
  unfold o0 Dy kg
  split
  · next h =>
    simp only [Bool.or_eq_true, decide_eq_true_eq] at h
    constructor
    · intro h; omega
    · rintro ⟨⟨_, _, _, _⟩, _⟩; omega
  · next h =>
    simp only [Bool.or_eq_true, decide_eq_true_eq] at h
    split
    · next h2 => constructor
                 · intro h; omega
                 · rintro ⟨_, h3⟩; exact absurd h2 h3
    · next h2 => exact ⟨fun _ => ⟨by omega, h2⟩, fun _ => rfl⟩
def qF (roles:Int) (p:Nat->Bool) (l:List wO) (x:wO):Int:=
 if cK x.1=false then 9 else if(l.any fun y=>decide (y.1=x.1))=true then 5 else if x.2<1\/roles<x.2\/bZ p x.2=true then 10 else 0
def zw (roles:Int) (p:Nat->Bool) (l:List wO):Nat->Int
 |0=>0
 |k+1=>gZ (zw roles p l k) (qF roles p (l.take k) (l.getD k ([],0)))
theorem OG {l : List wO} (h : zw roles p l k ≠ 0) : ∀ m, k <= m -> zw roles p l m = zw roles p l k
  | m, hm => by
    induction m with
    | zero => have : k = 0 := by omega
              subst this; rfl
    | succ m ih =>
      by_cases e : k = m + 1
      · rw [e]
      · have := ih (by omega);rw [zw, this, qE _ h]
theorem W4 {roles:Int} {p:Nat->Bool} {l:List wO}:∀{k:Nat},zw roles p l k=0↔∀i<k,qF roles p (l.take i) (l.getD i ([],0))=0
 |0=>by simp[zw]
 |k+1=>by
  rw[zw,jQ,W4 (k:=k)]
  constructor
  ·rintro⟨h1,h2⟩ i hi
   by_cases e:i=k
   ·rw[e];exact h2
   ·exact h1 i (by omega)
  ·exact fun h=>⟨fun i hi=>h i (by omega),h k (by omega)⟩
def pd (n:Nat) (x:tk):Int:=if x.1<1\/10<x.1\/x.2=0\/2^n<=x.2.toNat then 2 else 0
def sF (n:Nat):List tk->Int
 |[]=>0
 |x::l=>gZ (pd n x) (sF n l)
theorem W5 {n:Nat}:∀{l:List tk},sF n l=0↔∀x∈l,pd n x=0
 |[]=>by simp[sF]
 |x::l=>by simp[sF,jQ,W5 (l:=l)]
def iQ (f:cf):Prop:=10<f.st.length\/20<f.be.length\/20<f.di.length\/20<f.sa.length\/20<f.mo.length
instance (f:cf):Decidable (iQ f):=by unfold iQ;infer_instance
noncomputable def Dz (R:Nat->Nat->Bool):Int:=@ite _ (CT R) (Classical.propDecidable _) 0 16
theorem FH (h:CT R):Dz R=0:=if_pos h
theorem OH (h:¬CT R):Dz R=16:=if_neg h
noncomputable def eU (f:cf) (roles:Int) (p:Nat->Bool):Int:=
 if f.st=[]then 4 else if iQ f then 3 else
 gZ (zw roles p f.st f.st.length) (gZ (iG f.st.length f.be) (gZ (iG f.st.length f.di) (gZ (iG f.st.length f.sa) (gZ (sF f.st.length f.mo) (Dz (jf f.be))))))
structure Good (f:cf):Prop where
 ne:f.st≠[]
 lim:¬iQ f
 be:∀x∈f.be,kg (f.st.length:Int) x/\x.1≠x.2
 di:∀x∈f.di,kg (f.st.length:Int) x/\x.1≠x.2
 sa:∀x∈f.sa,kg (f.st.length:Int) x/\x.1≠x.2
 mo:∀x∈f.mo,pd f.st.length x=0
 acy:CT (jf f.be)
theorem FI {f:cf}:eU f roles p=0↔Good f/\∀i<f.st.length,qF roles p (f.st.take i) (f.st.getD i ([],0))=0:=by
 unfold eU
 split
 ·next h=>exact⟨fun h=>by omega,fun h'=>absurd h h'.1.ne⟩
 ·next h=>
  split
  ·next h2=>exact⟨fun h=>by omega,fun h'=>absurd h2 h'.1.lim⟩
  ·next h2=>
   simp only[jQ,W4,OE,W5,OF]
   constructor
   ·rintro⟨a,b,c,d,e,g⟩;refine⟨⟨h,h2,b,c,d,e,?_⟩,a⟩;apply Classical.byContradiction;intro hn;rw[OH hn]at g;omega
   ·rintro⟨a,b⟩;exact⟨b,a.be,a.di,a.sa,a.mo,FH a.acy⟩
theorem Good.lt {f:cf} (h:Good f):f.st.length<=10:=by have:=h.lim;unfold iQ at this;omega
def iH (be:List fV) (d:Nat->Bool) (k:Nat):Bool:=be.any fun x=>decide (x.2=(k:Int))&&!bZ d x.1
def uU (n:Nat) (be:List fV) (d:Nat->Bool):List Nat:=(List.range n).filter fun k=>!iH be d k&&!bZ d (k:Int)
theorem jg {d:Nat->Bool} (hk:k<=4095):bZ d (k:Int)=d k:=by
 unfold bZ;rw[decide_eq_true (by omega),decide_eq_true (by omega),Int.toNat_natCast,Bool.true_and,Bool.true_and]
def sI (s:List Int) (a:Int):Int:=s.getD a.toNat 0
def fP (s:List Int) (x:fV):Bool:=decide (sI s x.1≠0)&&decide (sI s x.1=sI s x.2)
def eO (s:List Int) (x:fV):Bool:=decide (sI s x.1≠0)&&decide (sI s x.2≠0)&&decide (sI s x.1≠sI s x.2)
def DA (s:List Int) (m:UInt64) (u:Int) (n:Nat):Nat:=cn n fun k=>bt m k&&decide (s.getD k 0=u)
def im (s:List Int) (x:tk):Bool:=s.any fun u=>decide (u≠0)&&decide (x.1<(DA s x.2 u s.length:Int))
def fQ (f:cf) (s:List Int):Nat×Nat:=
 match f.di.findIdx? (fP s)with
 |some i=>(1,i)
 |none=>match f.sa.findIdx? (eO s)with
  |some i=>(2,i)
  |none=>match f.mo.findIdx? (im s)with
   |some i=>(3,i)
   |none=>(0,0)
def sG (n:Nat) (s:List Int):Bool:=(s.all fun u=>decide (0<=u)&&decide (u<=256))&&decide (s.length=n)
structure dX where
 n:Nat
 ro:List UInt8
 be:List (UInt8×UInt8)
 di:List (UInt8×UInt8)
 sa:List (UInt8×UInt8)
 mo:List (UInt8×UInt8)
 el:List UInt8
def jR (r:dX):Nat:=1+r.n % 5
def Tz (n:Nat) (x:UInt8×UInt8):Nat×Nat:=(x.1.toNat % n,if x.1.toNat % n=x.2.toNat % n then(x.1.toNat % n+1) % n else x.2.toNat % n)
def gy (n:Nat) (x:UInt8×UInt8):fV:=(((Tz n x).1:Nat),((Tz n x).2:Nat))
def Lh (x:fV):fV:=if x.2<x.1 then(x.2,x.1)else x
def Jj (k:Nat):List UInt8:=[115,UInt8.ofNat (48+k)]
def Li (l:List UInt8) (k:Nat):Int:=if k<l.length then 1+((l.getD k 0).toNat % 4:Nat)else 1
def uV (r:dX) (m:Nat):List wO:=(List.range m).map fun k=>(Jj k,Li r.ro k)
def allM (n:Nat):UInt64:=UInt64.ofNat (2^n -1)
def Zn (n:Nat) (x:UInt8×UInt8):UInt64:=if UInt64.ofNat x.2.toNat&&&allM n=0 then allM n else UInt64.ofNat x.2.toNat&&&allM n
def OI (n:Nat) (x:UInt8×UInt8):tk:=(1+((x.1.toNat % 3:Nat):Int),Zn n x)
def dt (r:dX):cf where
 st:=uV r (jR r)
 be:=if 1<jR r then(r.be.take 6).map fun x=>Lh (gy (jR r) x)else[]
 di:=if 1<jR r then(r.di.take 6).map (gy (jR r))else[]
 sa:=if 1<jR r then(r.sa.take 3).map (gy (jR r))else[]
 mo:=(r.mo.take 3).map (OI (jR r))
theorem nC (r:dX):1<=jR r/\jR r<=5:=by unfold jR;omega
theorem pf (r:dX):(dt r).st.length=jR r:=by simp[dt,uV]
theorem Zo (h:1<n) (x:UInt8×UInt8):(Tz n x).1<n/\(Tz n x).2<n/\(Tz n x).1≠(Tz n x).2:=by
 unfold Tz;have h1:x.1.toNat % n<n:=Nat.mod_lt _ (by omega);have h2:x.2.toNat % n<n:=Nat.mod_lt _ (by omega);refine⟨h1,?_,?_⟩
 ·simp only;split
  ·exact Nat.mod_lt _ (by omega)
  ·exact h2
 ·simp only;split
  ·by_cases h3:x.1.toNat % n+1<n
   ·rw[Nat.mod_eq_of_lt h3];omega
   ·rw[show x.1.toNat % n+1=n by omega,Nat.mod_self];omega
  ·assumption
theorem zx (h:1<n) (x:UInt8×UInt8):kg (n:Int) (gy n x)/\(gy n x).1≠(gy n x).2:=by
 obtain⟨h1,h2,h3⟩:=Zo h x;unfold gy kg;simp only;omega
theorem OJ {x:fV} (h:kg (n:Int) x/\x.1≠x.2):kg (n:Int) (Lh x)/\(Lh x).1<(Lh x).2:=by
 obtain⟨⟨h1,h2,h3,h4⟩,h5⟩:=h;unfold Lh kg
 split
 ·simp only;omega
 ·exact⟨⟨h1,h2,h3,h4⟩,by omega⟩
theorem FJ (h:n<=5):(allM n).toNat=2^n -1:=by
 have:∀m:Fin 6,(allM m.val).toNat=2^m.val -1:=by decide
 exact this ⟨n,by omega⟩
theorem Zp (h1:1<=n) (h:n<=5) (x:UInt8×UInt8):Zn n x≠0/\(Zn n x).toNat<2^n:=by
 have ha:=FJ h;have hp:2<=2^n:=by
  have:=Nat.pow_le_pow_right (show 0<2 by omega) h1;simpa using this
 unfold Zn
 split
 ·refine⟨fun e=>?_,by omega⟩;rw[e]at ha;simp at ha;omega
 ·next hne=>
  refine⟨hne,?_⟩;rw[UInt64.toNat_and,ha];exact Nat.lt_of_le_of_lt Nat.and_le_right (by omega)
theorem r8 {L:List fV} (h:∀x∈L,x.1<x.2):CT (jf L):=by
 have:∀a b,Tc (jf L) a b->a<b:=fun a b hab=>by
  induction hab with
  |one k=>have:=h _ (of_decide_eq_true k);simp only at this;omega
  |more k _ ih=>have:=h _ (of_decide_eq_true k);simp only at this;omega
 exact fun a h=>by have:=this a a h;omega
theorem DB (r:dX):Good (dt r):=by
 obtain⟨z1,z2⟩:=nC r;have hl:=pf r;refine⟨fun e=>by rw[e]at hl;simp at hl;omega,?_,?_,?_,?_,?_,?_⟩
 ·unfold iQ;rw[hl];simp only[dt]
  split<;>simp[List.length_take]<;>omega
 ·intro x hx;rw[hl];simp only[dt]at hx
  split at hx
  ·next h1=>
   obtain⟨y,_,rfl⟩:=List.mem_map.1 hx;obtain⟨a,b⟩:=OJ (zx h1 y);exact⟨a,by omega⟩
  ·simp at hx
 ·intro x hx;rw[hl];simp only[dt]at hx
  split at hx
  ·next h1=>obtain⟨y,_,rfl⟩:=List.mem_map.1 hx;exact zx h1 y
  ·simp at hx
 ·intro x hx;rw[hl];simp only[dt]at hx
  split at hx
  ·next h1=>obtain⟨y,_,rfl⟩:=List.mem_map.1 hx;exact zx h1 y
  ·simp at hx
 ·intro x hx;rw[hl];obtain⟨y,_,rfl⟩:=List.mem_map.1 hx;obtain⟨a,b⟩:=Zp z1 z2 y;unfold pd OI;rw[if_neg];rintro(h|h|h|h)
  ·simp only at h;omega
  ·simp only at h;omega
  ·exact a h
  ·simp only at h;omega
 ·refine r8 fun x hx=>?_;simp only[dt]at hx
  split at hx
  ·next h1=>obtain⟨y,_,rfl⟩:=List.mem_map.1 hx;exact(OJ (zx h1 y)).2
  ·simp at hx
theorem Lj (h:k<5):cK (Jj k)=true:=by
 have:∀m:Fin 5,cK (Jj m.val)=true:=by decide+kernel
 exact this ⟨k,h⟩
theorem TA {i:Nat} (h1:i<5) (h2:k<5) (h:Jj i=Jj k):i=k:=by
 have:∀a b:Fin 5,Jj a.val=Jj b.val->a.val=b.val:=by decide+kernel
 exact this ⟨i,h1⟩ ⟨k,h2⟩ h
theorem Zq (l:List UInt8) (k:Nat):1<=Li l k/\Li l k<=4:=by
 unfold Li;split<;>omega
theorem TB (r:dX) (h4:4<=roles) (hp:∀k,1<=k->k<=4->p k=false) (i:Nat) (hi:i<(dt r).st.length):qF roles p ((dt r).st.take i) ((dt r).st.getD i ([],0))=0:=by
 have hl:=pf r;obtain⟨z1,z2⟩:=nC r;rw[hl]at hi;have hg:∀j<jR r,(dt r).st.getD j ([],0)=(Jj j,Li r.ro j):=fun j hj=>by
  simp only[dt,uV,List.getD_eq_getElem?_getD,List.getElem?_map,List.getElem?_range hj,Option.map_some,Option.getD_some]
 rw[hg i hi];unfold qF;rw[if_neg (by rw[Lj (by omega)];simp),if_neg,if_neg]
 ·obtain⟨r1,r2⟩:=Zq r.ro i;rintro(h|h|h)
  ·simp only at h;omega
  ·simp only at h;omega
  ·obtain⟨q,hq⟩:∃q:Nat,Li r.ro i=(q:Int):=⟨(Li r.ro i).toNat,by omega⟩
   simp only[hq]at h;rw[jg (by omega),hp q (by omega) (by omega)]at h
   cases h
 ·intro h;simp only[List.any_eq_true,decide_eq_true_eq]at h;obtain⟨y,hy,e⟩:=h;obtain⟨j,hj,rfl⟩:=List.getElem_of_mem hy;have EB:j<i:=by rw[List.length_take]at hj;omega
  have:=hg j (by omega);rw[List.getD_eq_getElem?_getD,List.getElem?_eq_getElem (by omega)]at this;rw[List.getElem_take]at e;simp only[Option.getD_some]at this;rw[this]at e;have:=TA (by omega) (by omega) e;omega
theorem TC (r:dX) (h4:4<=roles) (hp:∀k,1<=k->k<=4->p k=false):eU (dt r) roles p=0:=FI.2 ⟨DB r,TB r h4 hp⟩
end Go.Mg
namespace Go.Mg
open Go Go.RowKit
attribute [go_sem] zF
def zy (ι:aG):S:=
 kY [kC 2 (kZ)] (kY [kC 3 (kZ)] (.seq (kY [kC 4 (.int .i64 0)] (.blk 0 (.loop (.seq (kY [kA 5 4,kV 6 (.cm .lss .i64 (.t 5) (.c (.int .i64 64)))] (.ite (.v 6) .skip (.exit 0))) (.seq (.blk 1 (kY [kA 9 0,kA 10 4,kU 11 (.sh .shr .u64 (.t 9) (.t 10)),kU 12 (.dv .rem .u64 (.t 11) (.c (.int .u64 2))),kV 13 (.cm .eql .u64 (.t 12) (.c (.int .u64 1)))] (.ite (.v 13) (.reg [kA 14 3,kA 15 4,.e (.t 16) (.aV (ι.t 26) 1 1 [.t 15]),.e (.t 17) (.app false (ι.t 26) 1 8 #[.int .i64 0] (.t 14) (.t 16)),kB 3 17]) .skip))) (.reg [kA 7 4,kU 8 (.ar .add .i64 (.t 7) (.c (.int .i64 1))),kB 4 8])))))) (kY [kA 18 3,kB 2 18] .ret)))
def zB:List RV:=[.t 2]
def uW (ι:aG):S:=
 kY [.e (.v 2) (.new (ι.t 128) #[kZ])] (kY [kA 3 0,.e (.t 4) (.call (ι.f 282) [.t 3]),.e (.t 5) (.call (ι.f 143) [.t 4]),.e .no (.stn 1 (.v 2) (.t 5))] .ret)
def uX:List RV:=[.cn 2 1]
def uY (ι:aG):S:=
 kY [kC 4 (.int .i64 0)] (.seq (kY [kV 7 (.mv (.v 0)),kO 8 7,kC 9 (.int .i64 0)] (.blk 0 (.loop (kY [kH 10 9 8] (.seq (.ite (.v 10) .skip (.exit 0)) (.seq (.blk 1 (kY [kK 11 2 7 9,kN 12 2 11,.e (.v 6) (.new (ι.t 194) #[.int .i64 0,.int .i64 0]),.e .no (.stn 2 (.v 6) (.t 12))] (.seq (kY [kP 13 2 1 6 0,kD 14 13,kU 15 (.cm .lss .i64 (.t 14) (.c (.int .i64 0))),kF 16 15,kT 17 16 false (.ia 2 1 (.v 6) (.c (.int .i64 0))),kT 18 16 false (.ld (.t 17)),kS 19 16 false 1,kT 20 16 false (.cm .geq .i64 (.t 18) (.t 19)),kU 21 (.pick (.t 16) (.c (.bool true)) (.t 20)),kF 22 21,kT 23 22 false (.ia 2 1 (.v 6) (.c (.int .i64 1))),kT 24 22 false (.ld (.t 23)),kT 25 22 false (.cm .lss .i64 (.t 24) (.c (.int .i64 0))),kU 26 (.pick (.t 22) (.c (.bool true)) (.t 25)),kF 27 26,kT 28 27 false (.ia 2 1 (.v 6) (.c (.int .i64 1))),kT 29 27 false (.ld (.t 28)),kS 30 27 false 1,kT 31 27 false (.cm .geq .i64 (.t 29) (.t 30)),kV 32 (.pick (.t 27) (.c (.bool true)) (.t 31))] (.ite (.v 32) (kY [kC 4 (.int .i64 2)] .ret) .skip)) (kY [kP 33 2 1 6 0,kD 34 33,kP 35 2 1 6 1,kD 36 35,kV 37 (.cm .eql .i64 (.t 34) (.t 36))] (.ite (.v 37) (kY [kC 4 (.int .i64 1)] .ret) .skip))))) (.reg [ke 38 9,kB 9 38]))))))) (kY [kC 4 (.int .i64 0)] .ret))
def uZ:List RV:=[.t 4]
-- no code: arbac/arbacref40.pairs
def zC (ι:aG):S:=
 kY [kR 2 (ι.t 49) 0,.e (.v 4) (.new (ι.t 194) #[.int .i64 0,.int .i64 0])] (kY [kP 7 2 1 2 0,kD 8 7,kU 9 (.ii .i64 (.t 8)),kA 10 1,kU 11 (.dv .rem .i64 (.t 9) (.t 10)),kB 5 11] (kY [kP 12 2 1 2 1,kD 13 12,kU 14 (.ii .i64 (.t 13)),kA 15 1,kU 16 (.dv .rem .i64 (.t 14) (.t 15)),kB 6 16] (.seq (kY [kA 17 5,kA 18 6,kV 19 (.cm .eql .i64 (.t 17) (.t 18))] (.ite (.v 19) (.reg [kA 20 5,kU 21 (.ar .add .i64 (.t 20) (.c (.int .i64 1))),kA 22 1,kU 23 (.dv .rem .i64 (.t 21) (.t 22)),kB 6 23]) .skip)) (kY [kA 24 5,kA 25 6,kU 26 (.m (.bld #[.int .i64 0,.int .i64 0] [(0,(1,.t 24)),(1,(1,.t 25))])),.e .no (.stn 2 (.v 4) (.t 26))] .ret))))
def zD:List RV:=[.cn 4 2]
def FK (ι:aG):S:=
 kY [kC 2 (.string ⟨#[]⟩)] (.seq (kY [kA 3 0,kV 4 (.cm .lss .i64 (.t 3) (.c (.int .i64 10)))] (.ite (.v 4) (kY [kA 5 0,kU 6 (.ar .add .i64 (.c (.int .i64 48)) (.t 5)),kU 7 (.ii .u8 (.t 6)),.e (.t 8) (.aV (ι.t 19) 1 1 [.t 7]),kU 9 (.m (.b2s (.t 8))),kB 2 9] .ret) .skip)) (.seq (.dr (kW 10 (.mv (.v 0)) (kW 11 (.dv .quo .i64 (.t 10) (.c (.int .i64 10))) (kW 13 (.mv (.v 0)) (kW 14 (.dv .rem .i64 (.t 13) (.c (.int .i64 10))) (kW 15 (.ar .add .i64 (.c (.int .i64 48)) (.t 14)) (kW 16 (.ii .u8 (.t 15)) (.wcons (.t 12) .none (.call (ι.f 287) [.t 11]) (.wcons (.t 17) .none (.aV (ι.t 19) 1 1 [.t 16]) (kW 18 (.m (.b2s (.t 17))) (kW 19 (.sadd (.t 12) (.t 18)) (kX 2 (.mv (.t 19)) .done))) .wnil) (.wcons (.t 17) .none (.aV (ι.t 19) 1 1 [.t 16]) (kW 18 (.m (.b2s (.t 17))) (.wcons (.t 12) .none (.call (ι.f 287) [.t 11]) (kW 19 (.sadd (.t 12) (.t 18)) (kX 2 (.mv (.t 19)) .done)) .wnil)) .wnil))))))))) .ret))
def FL:List RV:=[.t 2]
theorem zG (x:UInt64) (i:Nat):((((x.toNat:Int)/2^i).tmod 2)==1)=bt x i:=by
 have e:((x.toNat:Int)/2^i)=((x.toNat/2^i:Nat):Int):=by simp
 have e2:(((x.toNat/2^i:Nat):Int)).tmod 2=((x.toNat/2^i % 2:Nat):Int):=cg _ 2;rw[e,e2];unfold bt;rw[Nat.testBit_eq_decide_div_mod_eq];rw[Bool.eq_iff_iff];simp only[beq_iff_eq,decide_eq_true_eq];omega
def mD (P:Program) (k:FuncId):Prop:=∀(x:UInt64) (H:Hp),an P k #[.int .u64 x.toNat] H fun r H'=>bq H' r (iN ((List.range 64).filter (bt x)))/\(∀q,ax r q->H.size<=q)/\af (fun _=>False) H H'
variable {P:Program} {ι:aG} {k:FuncId} {n i:Nat} {l:List fV}
theorem u0 (hk:al P k (zy ι) zB 1):mD P k:=by
 intro x H;refine qI fun Q hQ=>?_;refine ah hk (args:=[_]) (by simp) ?_;unfold zy zB kA kB kC kU kV kY kZ;simp only[go_sem,zS,↓reduceIte,Za,Zb,Zc,reduceCtorEq,ae];refine aS [6,13,3,4] rfl (fun m f A=>∃(i:Nat) (v:Value),i<=64/\m=64 -i/\f 4=.int .i64 (i:Int)/\f 3=v/\bq A v (iN ((List.range i).filter (bt x)))/\(∀q,ax v q->H.size<=q)/\af (fun _=>False) H A) 64 ?_ ?_
 ·exact⟨0,_,by omega,by omega,by rfl,by simp only[go_sem,zS,↓reduceIte,Za,Zb,Zc,reduceCtorEq,ae],bq.nil _,fun q h=>h.elim,af.refl _ _⟩
 rintro m f A ⟨i,v,hi,rfl,xz,sW,hO,ho,hK⟩;have sA:=hK.size;simp only[go_sem,zS,↓reduceIte,Za,Zb,Zc,reduceCtorEq,ae]at xz sW;simp only[go_sem,zS,↓reduceIte,Za,Zb,Zc,reduceCtorEq,xz];refine aL (fun hlt=>?_) (fun jN=>?_)
 ·have hlt:i<64:=by omega
  have hle:((List.range i).filter (bt x)).length<=64:=by
   have:=List.length_filter_le (bt x) (List.range i);simp at this;omega
  have hs:=List.range_succ (n:=i);have h64:((i:Int)).toNat=i:=by omega
  simp-implicitDefEqProofs (disch:=omega)only[go_sem,zS,↓reduceIte,Za,Zb,Zc,reduceCtorEq,xz,h64,zG,ak];refine⟨⟨by omega,by show((i:Nat):Int)<=((64:Nat):Int);omega⟩,by omega,?_⟩;refine yp (fun hb=>?_) (fun hb=>?_)
  ·simp only[go_sem,zS,↓reduceIte,Za,Zb,Zc,reduceCtorEq,xz,sW];refine aF fun H1 b1 e1 z1 B1 K1=>?_;have bQ:Bl H1 b1 (iN [i]):=B1;simp only[go_sem,zS,↓reduceIte,Za,Zb,Zc,reduceCtorEq,ae];refine jK (m:=iN [i]) H.size (hO.ai K1 (by simp)) ho (by omega) (aO.bl bQ 0 1 1 (by omega) (by simp[bE])) (iz _) rfl (by omega) (by rw[bE,bE];simp only[List.length_singleton];omega) fun v' H2 O2 o2 K2=>?_;simp-implicitDefEqProofs (disch:=omega)only[go_sem,zS,↓reduceIte,Za,Zb,Zc,reduceCtorEq,ae,xz,IntWalk.i64_in];refine⟨64 -(i+1),by omega,i+1,v',by omega,rfl,rfl,rfl,?_,o2,(hK.trans K1).gV K2 (by omega)⟩;rw[hs,List.filter_append,List.filter_cons,if_pos hb,List.filter_nil,iN,List.map_append,Ng];exact O2
  ·simp-implicitDefEqProofs (disch:=omega)only[go_sem,zS,↓reduceIte,Za,Zb,Zc,reduceCtorEq,ae,xz,IntWalk.i64_in];refine⟨64 -(i+1),by omega,i+1,v,by omega,rfl,rfl,sW,?_,ho,hK⟩;rw[hs,List.filter_append,List.filter_cons,if_neg (by rw[hb];simp),List.filter_nil,List.append_nil];exact hO
 ·have:i=64:=by omega
  subst this;simp only[go_sem,zS,↓reduceIte,Za,Zb,Zc,reduceCtorEq,ae,sW];rw[hQ];exact⟨hO,ho,hK⟩
def gG (P:Program) (k:FuncId):Prop:=∀(x:UInt64) (H:Hp),an P k #[.int .u64 x.toNat] H fun r H'=>aQ H' r (bt x)/\(∀q,jc r q->H.size<=q)/\af (fun _=>False) H H'
theorem Lk (hk:al P k (uW ι) uX 1) (hm:mD P (ι.f 282)) (ho:tf P (ι.f 143)):gG P k:=by
 intro x H;refine qI fun Q hQ=>?_;refine ah hk (args:=[_]) (by simp) ?_;unfold uW uX kA kY kZ;simp only[go_sem,zS,↓reduceIte,Za,Zb,Zc,reduceCtorEq];refine ay fun H1 b1 e1 z1 B1 K1=>?_;have bQ:Bl H1 b1 [.slice none 0 0]:=B1;simp only[go_sem,zS,↓reduceIte,Za,Zb,Zc,reduceCtorEq,ae];refine(hm x H1).mono ?_;rintro l H2 ⟨O2,o2,K2⟩;rw[ae];simp only[go_sem,zS,↓reduceIte,Za,Zb,Zc,reduceCtorEq,ae];have hle:((List.range 64).filter (bt x)).length<=64:=by
  have:=List.length_filter_le (bt x) (List.range 64);simp at this;omega
 refine(ho (nI ((List.range 64).filter (bt x))) l H2 O2.sl (by simp only[nI,List.length_map];omega)).mono ?_;rintro r H3 ⟨S3,K3,s3⟩;have fk:=K2.trans K3;have B3:=fk.bl bQ (by simp);obtain⟨v,W,rfl,hV⟩:=S3;rw[ae];simp only[go_sem,zS,↓reduceIte,Za,Zb,Zc,reduceCtorEq,ae];refine sD B3 hV.sl.one fun H4 z4 K4=>?_;have hb:∀q,jc (.agg #[v]) q->q≠b1:=fun q hq e=>by have:=s3 q hq;have:=bQ.lt;have:=K2.size;omega
 rw[hQ];refine⟨(aQ.ai ⟨v,W,rfl,hV⟩ K4 hb).congr fun n=>?_,fun q hq=>by have:=s3 q hq;have:=K2.size;have:=K1.size;omega,(K1.trans fk).cP K4 (by omega)⟩;unfold MC
 by_cases hn:n<64
 ·rw[decide_eq_true (show n<4096 by omega),Bool.and_true];rw[Bool.eq_iff_iff,decide_eq_true_eq];simp only[nI,List.mem_map,List.mem_filter,List.mem_range]
  constructor
  ·rintro⟨a,⟨_,h⟩,e⟩;have:a=n:=by omega
   rw[<-this];exact h
  ·intro h;exact⟨n,⟨hn,h⟩,rfl⟩
 ·have h1:bt x n=false:=by
   cases hb:bt x n with
   |false=>rfl
   |true=>have:=rV hb;omega
  rw[h1,Bool.and_eq_false_iff]
  left
  rw[decide_eq_false_iff_not];simp only[nI,List.mem_map,List.mem_filter,List.mem_range];rintro⟨a,⟨h,_⟩,e⟩;omega
theorem Zr (hi:i<l.length) (h:iG n (l.take i)=0):iG n (l.take (i+1))=o0 n l[i]:=by
 rw[List.take_succ_eq_append_getElem hi,zv,h,fc];simp only[iG,gZ]
 split<;>simp_all
theorem DC (h:iG n (l.take i)≠0):iG n l=iG n (l.take i):=by
 conv=>lhs;rw[<-List.take_append_drop i l]
 rw[zv,qE _ h]
def qG (P:Program) (k:FuncId):Prop:=∀(n:Nat) (l:List fV) (v:Value) (H:Hp),ql H v l->l.length<=1000000->n<=1000000->an P k #[v,.int .i64 n] H fun r H'=>r=.int .i64 (iG n l)/\af (fun _=>False) H H'
theorem Ll (hk:al P k (uY ι) uZ 2):qG P k:=by
 intro n l v H hv hl hn;refine qI fun Q hQ=>?_;refine ah hk (args:=[_,_]) (by simp) ?_;unfold uY uZ kB kF kC kD ke kH kK kN kO kP kS kT kU kV kY;simp-implicitDefEqProofs only[go_sem,zS,↓reduceIte,Za,Zb,Zc,reduceCtorEq,ae,hv.aq,hv.len];refine aD l.length [10,6,32,4,37,9] rfl rfl (by omega) (by simp-implicitDefEqProofs only[go_sem,zS,↓reduceIte,Za,Zb,Zc,reduceCtorEq,ae]) (by simp-implicitDefEqProofs only[go_sem,zS,↓reduceIte,Za,Zb,Zc,reduceCtorEq,ae]) (fun k g A=>iG n (l.take k)=0/\af (fun _=>False) H A) ⟨rfl,af.refl _ _⟩ ?_ ?_
 ·rintro k g A hk gi gn ⟨hp,KA⟩;simp-implicitDefEqProofs only[go_sem,zS,↓reduceIte,Za,Zb,Zc,reduceCtorEq,ae]at gi gn;have pA:=hv.aj KA;obtain⟨pb,po,pc,gz,-,hld⟩:=pA.elem (enc:=pE) (k:=2) (fun _=>rfl) hk;obtain⟨x,hx⟩:∃x,x=l[k]:=⟨_,rfl⟩
  have hpx:=Zr hk hp;rw[<-hx]at hld hpx;obtain⟨x1,x2⟩:=x;have cU:aR A ⟨pb,po+k*2,none⟩ 2=some #[.int .i64 x1,.int .i64 x2]:=hld;simp-implicitDefEqProofs only[go_sem,zS,↓reduceIte,Za,Zb,Zc,reduceCtorEq,gz,gi,ak,aC,cU];refine⟨by omega,?_⟩;refine aN [.int .i64 x1,.int .i64 x2] (by simp-implicitDefEqProofs only[go_sem,zS,↓reduceIte,Za,Zb,Zc,reduceCtorEq,ae]) rfl rfl rfl fun H1 b1 e1 z1 B1 K1=>?_;have KH:=KA.trans K1;have c0:cell H1 ⟨b1,0,none⟩=some (.int .i64 x1):=by rw[B1.cell];rfl
  have c1:cell H1 ⟨b1,1,none⟩=some (.int .i64 x2):=by rw[B1.cell];rfl
  have bad:o0 n (x1,x2)=2->Q (.int .i64 2) H1:=fun h=>by
   rw[hQ,DC (i:=k+1) (by rw[hpx,h];decide),hpx,h];exact⟨rfl,KH⟩
  by_cases h1:x1<0
  ·have e1:decide (x1<0)=true:=decide_eq_true h1;simp-implicitDefEqProofs only[go_sem,↓reduceIte,Za,Zb,Zc,reduceCtorEq,ae,Zf,Zg,Zh,Zi,Zd,Ze,c0,c1,e1];exact bad (by simp[o0,Dy,h1];try omega)
  have e1:decide (x1<0)=false:=decide_eq_false h1
  by_cases h2:(n:Int)<=x1
  ·have e2:decide ((n:Int)<=x1)=true:=decide_eq_true h2;simp-implicitDefEqProofs only[go_sem,↓reduceIte,Za,Zb,Zc,reduceCtorEq,ae,Zf,Zg,Zh,Zi,Zd,Ze,c0,c1,e1,e2];exact bad (by simp[o0,Dy,h2];try omega)
  have e2:decide ((n:Int)<=x1)=false:=decide_eq_false h2
  by_cases h3:x2<0
  ·have e3:decide (x2<0)=true:=decide_eq_true h3;simp-implicitDefEqProofs only[go_sem,↓reduceIte,Za,Zb,Zc,reduceCtorEq,ae,Zf,Zg,Zh,Zi,Zd,Ze,c0,c1,e1,e2,e3];exact bad (by simp[o0,Dy,h3];try omega)
  have e3:decide (x2<0)=false:=decide_eq_false h3
  by_cases h4:(n:Int)<=x2
  ·have e4:decide ((n:Int)<=x2)=true:=decide_eq_true h4;simp-implicitDefEqProofs only[go_sem,↓reduceIte,Za,Zb,Zc,reduceCtorEq,ae,Zf,Zg,Zh,Zi,Zd,Ze,c0,c1,e1,e2,e3,e4];exact bad (by simp[o0,Dy,h4];try omega)
  have e4:decide ((n:Int)<=x2)=false:=decide_eq_false h4
  by_cases h5:x1=x2
  ·have e5:(x1==x2)=true:=by simp[h5]
   simp-implicitDefEqProofs only[go_sem,↓reduceIte,Za,Zb,Zc,reduceCtorEq,ae,Zf,Zg,Zh,Zi,Zd,Ze,c0,c1,e1,e2,e3,e4,e5];have hp1:o0 n (x1,x2)=1:=by simp[o0,Dy,e1,e2,e3,e4,h5]
   rw[hQ,DC (i:=k+1) (by rw[hpx,hp1];decide),hpx,hp1];exact⟨rfl,KH⟩
  ·have e5:(x1==x2)=false:=by simp[h5]
   simp-implicitDefEqProofs only[go_sem,↓reduceIte,Za,Zb,Zc,reduceCtorEq,ae,Zf,Zg,Zh,Zi,Zd,Ze,c0,c1,e1,e2,e3,e4,e5];have hp1:o0 n (x1,x2)=0:=by simp[o0,Dy,e1,e2,e3,e4,h5]
   exact⟨by rw[hpx,hp1],KH⟩
 ·rintro g A _ ⟨hp,KA⟩;simp-implicitDefEqProofs only[go_sem,zS,↓reduceIte,Za,Zb,Zc,reduceCtorEq,ae];rw[hQ];rw[List.take_length]at hp;exact⟨by rw[hp],KA⟩
def pg (P:Program) (k:FuncId):Prop:=∀(n:Nat) (x:UInt8×UInt8) (H:Hp),1<n->n<=10->an P k #[.agg #[.int .u8 x.1.toNat,.int .u8 x.2.toNat],.int .i64 n] H fun r H'=>r=.agg #[.int .i64 (gy n x).1,.int .i64 (gy n x).2]/\af (fun _=>False) H H'
theorem OK (hk:al P k (zC ι) zD 2):pg P k:=by
 intro n x H h1 hn;obtain⟨a,b⟩:=x;have ha:=a.toNat_lt;have hb:=b.toNat_lt;refine qI fun Q hQ=>?_;refine ah hk (args:=[_,_]) (by simp) ?_;unfold zC zD kA kB kD kP kR kU kV kY;simp-implicitDefEqProofs only[go_sem,↓reduceIte,Za,Zb,Zc,reduceCtorEq,Zf,Zg,Zh,Zi,Zd,Ze];refine ay fun H1 b1 e1 z1 B1 K1=>?_;have bQ:Bl H1 b1 [.int .u8 a.toNat,.int .u8 b.toNat]:=B1;simp-implicitDefEqProofs only[go_sem,↓reduceIte,Za,Zb,Zc,reduceCtorEq,Zf,Zg,Zh,Zi,Zd,Ze];refine ay fun H2 b2 e2 z2 B2 K2=>?_;have kx:=K2.bl bQ (by simp);have km:Bl H2 b2 [.int .i64 0,.int .i64 0]:=B2;have dB:=K1.trans K2;have c0:cell H2 ⟨b1,0,none⟩=some (.int .u8 a.toNat):=by rw[kx.cell];rfl
 have c1:cell H2 ⟨b1,1,none⟩=some (.int .u8 b.toNat):=by rw[kx.cell];rfl
 have w0:IntKind.i64.wrap (a.toNat:Int)=a.toNat:=IntWalk.i64_in _ (by omega);have w1:IntKind.i64.wrap (b.toNat:Int)=b.toNat:=IntWalk.i64_in _ (by omega);have m0:((a.toNat:Int)).tmod (n:Int)=((a.toNat % n:Nat):Int):=cg _ _;have m1:((b.toNat:Int)).tmod (n:Int)=((b.toNat % n:Nat):Int):=cg _ _;have wW:((n:Nat):Int)≠0:=by omega
 have YD:a.toNat % n<n:=Nat.mod_lt _ (by omega)
 by_cases he:a.toNat % n=b.toNat % n
 ·have e5:(((a.toNat % n:Nat):Int)==((b.toNat % n:Nat):Int))=true:=by rw[he];simp
  have w2:IntKind.i64.wrap (((a.toNat % n:Nat):Int)+1)=((a.toNat % n+1:Nat):Int):=by rw[IntWalk.i64_in _ (by omega)];omega
  have m2:(((a.toNat % n+1:Nat):Int)).tmod (n:Int)=(((a.toNat % n+1) % n:Nat):Int):=cg _ _;simp-implicitDefEqProofs only[go_sem,↓reduceIte,Za,Zb,Zc,reduceCtorEq,ae,Zf,Zg,Zh,Zi,Zd,Ze,c0,c1,w0,w1,m0,m1,wW,e5,w2,m2,ne_eq];refine FE (n:=2) (cs:=[.int .i64 _,.int .i64 _]) km rfl rfl rfl fun H3 z3 B3 K3=>?_;rw[hQ];refine⟨?_,dB.cP K3 (by omega)⟩;simp[gy,Tz,he]
 ·have e5:(((a.toNat % n:Nat):Int)==((b.toNat % n:Nat):Int))=false:=by simp only[beq_eq_false_iff_ne,ne_eq];omega
  simp-implicitDefEqProofs only[go_sem,↓reduceIte,Za,Zb,Zc,reduceCtorEq,ae,Zf,Zg,Zh,Zi,Zd,Ze,c0,c1,w0,w1,m0,m1,wW,e5,ne_eq];refine FE (n:=2) (cs:=[.int .i64 _,.int .i64 _]) km rfl rfl rfl fun H3 z3 B3 K3=>?_;rw[hQ];refine⟨?_,dB.cP K3 (by omega)⟩;simp[gy,Tz,he]
def zH (P:Program) (k:FuncId):Prop:=∀(n:Nat) (H:Hp),n<10->an P k #[.int .i64 n] H fun r H'=>r=sV [UInt8.ofNat (48+n)]/\af (fun _=>False) H H'
theorem TD (hk:al P k (FK ι) FL 1):zH P k:=by
 intro n H hn;refine qI fun Q hQ=>?_;refine ah hk (args:=[_]) (by simp) ?_;unfold FK FL kA kB kC kU kV kW kX kY;have e1:decide ((n:Int)<10)=true:=decide_eq_true (by omega);have w1:IntKind.i64.wrap (48+(n:Int))=((48+n:Nat):Int):=by rw[IntWalk.i64_in _ (by omega)];omega
 have w2:IntKind.u8.wrap ((48+n:Nat):Int)=(((UInt8.ofNat (48+n)).toNat:Nat):Int):=by
  rw[UInt8.toNat_ofNat',IntKind.wrap_u8];omega
 simp only[go_sem,Za,Zb,e1,w1,w2];refine aF fun H1 b1 e1 z1 B1 K1=>?_;have bQ:Bl H1 b1 (w8 [UInt8.ofNat (48+n)]):=B1;have hs:aO H1 (.slice (some ⟨b1,0,none⟩) 1 1) (w8 [UInt8.ofNat (48+n)]):=aO.bl bQ 0 1 1 (by omega) (by simp[aK]);have hb:=hs.bX;simp only[go_sem,Za,Zb,ae,hb,toBA_w8];refine⟨oz hb,?_⟩;rw[hQ];exact⟨rfl,K1⟩
end Go.Mg
namespace Go.Mg
open Go Go.RowKit
def zI (ι:aG):S:=
 (.dr (kW 37 (.fa 0 (.v 3)) (kW 39 (.mv (.v 5)) (kW 42 (.mv (.v 6)) (.wcons (.t 38) .none (.rd (.ld (.t 37))) (.wcons (.t 40) .none (.call (ι.f 287) [.t 39]) (kW 41 (.sadd (.c (.string ⟨#[115]⟩)) (.t 40)) (kW 43 (.m (.bld #[.string ⟨#[]⟩,.int .i64 0] [(0,(1,.t 41)),(1,(1,.t 42))])) (.wcons (.t 44) .none (.aV (ι.t 290) 2 1 [.t 43]) (.wcons (.t 45) .none (.app false (ι.t 290) 2 24 #[.string ⟨#[]⟩,.int .i64 0] (.t 38) (.t 44)) (kW 46 (.fa 0 (.v 3)) (.wcons .no .none (.st (.t 46) (.t 45)) .done .wnil)) .wnil) .wnil))) .wnil) (.wcons (.t 40) .none (.call (ι.f 287) [.t 39]) (kW 41 (.sadd (.c (.string ⟨#[115]⟩)) (.t 40)) (kW 43 (.m (.bld #[.string ⟨#[]⟩,.int .i64 0] [(0,(1,.t 41)),(1,(1,.t 42))])) (.wcons (.t 38) .none (.rd (.ld (.t 37))) (.wcons (.t 44) .none (.aV (ι.t 290) 2 1 [.t 43]) (.wcons (.t 45) .none (.app false (ι.t 290) 2 24 #[.string ⟨#[]⟩,.int .i64 0] (.t 38) (.t 44)) (kW 46 (.fa 0 (.v 3)) (.wcons .no .none (.st (.t 46) (.t 45)) .done .wnil)) .wnil) .wnil) (.wcons (.t 44) .none (.aV (ι.t 290) 2 1 [.t 43]) (.wcons (.t 38) .none (.rd (.ld (.t 37))) (.wcons (.t 45) .none (.app false (ι.t 290) 2 24 #[.string ⟨#[]⟩,.int .i64 0] (.t 38) (.t 44)) (kW 46 (.fa 0 (.v 3)) (.wcons .no .none (.st (.t 46) (.t 45)) .done .wnil)) .wnil) .wnil) .wnil)))) .wnil))))))
def zJ (ι:aG):S:=
 (.reg [kG 79 1 3,kD 80 79,kM 81 2 8,.e (.t 82) (.aV (ι.t 194) 2 1 [.t 81]),.e (.t 83) (.app false (ι.t 194) 2 16 #[.int .i64 0,.int .i64 0] (.t 80) (.t 82)),kG 84 1 3,.e .no (.st (.t 84) (.t 83))])
def FM (ι:aG):S:=
 (.dr (kW 100 (.fa 2 (.v 3)) (kW 102 (.fa 3 (.v 1)) (kW 103 (.ld (.t 102)) (kW 104 (.mv (.v 9)) (kW 105 (.is 2 (.t 103) (.t 104)) (kW 106 (.m (.ldn 2 (.t 105))) (kW 107 (.mv (.v 4)) (.wcons (.t 101) .none (.rd (.ld (.t 100))) (.wcons (.t 108) .none (.call (ι.f 286) [.t 106,.t 107]) (.wcons (.t 109) .none (.aV (ι.t 194) 2 1 [.t 108]) (.wcons (.t 110) .none (.app false (ι.t 194) 2 16 #[.int .i64 0,.int .i64 0] (.t 101) (.t 109)) (kW 111 (.fa 2 (.v 3)) (.wcons .no .none (.st (.t 111) (.t 110)) .done .wnil)) .wnil) .wnil) .wnil) (.wcons (.t 108) .none (.call (ι.f 286) [.t 106,.t 107]) (.wcons (.t 101) .none (.rd (.ld (.t 100))) (.wcons (.t 109) .none (.aV (ι.t 194) 2 1 [.t 108]) (.wcons (.t 110) .none (.app false (ι.t 194) 2 16 #[.int .i64 0,.int .i64 0] (.t 101) (.t 109)) (kW 111 (.fa 2 (.v 3)) (.wcons .no .none (.st (.t 111) (.t 110)) .done .wnil)) .wnil) .wnil) (.wcons (.t 109) .none (.aV (ι.t 194) 2 1 [.t 108]) (.wcons (.t 101) .none (.rd (.ld (.t 100))) (.wcons (.t 110) .none (.app false (ι.t 194) 2 16 #[.int .i64 0,.int .i64 0] (.t 101) (.t 109)) (kW 111 (.fa 2 (.v 3)) (.wcons .no .none (.st (.t 111) (.t 110)) .done .wnil)) .wnil) .wnil) .wnil)) .wnil))))))))))
def FN (ι:aG):S:=
 (.dr (kW 127 (.fa 3 (.v 3)) (kW 129 (.fa 4 (.v 1)) (kW 130 (.ld (.t 129)) (kW 131 (.mv (.v 10)) (kW 132 (.is 2 (.t 130) (.t 131)) (kW 133 (.m (.ldn 2 (.t 132))) (kW 134 (.mv (.v 4)) (.wcons (.t 128) .none (.rd (.ld (.t 127))) (.wcons (.t 135) .none (.call (ι.f 286) [.t 133,.t 134]) (.wcons (.t 136) .none (.aV (ι.t 194) 2 1 [.t 135]) (.wcons (.t 137) .none (.app false (ι.t 194) 2 16 #[.int .i64 0,.int .i64 0] (.t 128) (.t 136)) (kW 138 (.fa 3 (.v 3)) (.wcons .no .none (.st (.t 138) (.t 137)) .done .wnil)) .wnil) .wnil) .wnil) (.wcons (.t 135) .none (.call (ι.f 286) [.t 133,.t 134]) (.wcons (.t 128) .none (.rd (.ld (.t 127))) (.wcons (.t 136) .none (.aV (ι.t 194) 2 1 [.t 135]) (.wcons (.t 137) .none (.app false (ι.t 194) 2 16 #[.int .i64 0,.int .i64 0] (.t 128) (.t 136)) (kW 138 (.fa 3 (.v 3)) (.wcons .no .none (.st (.t 138) (.t 137)) .done .wnil)) .wnil) .wnil) (.wcons (.t 136) .none (.aV (ι.t 194) 2 1 [.t 135]) (.wcons (.t 128) .none (.rd (.ld (.t 127))) (.wcons (.t 137) .none (.app false (ι.t 194) 2 16 #[.int .i64 0,.int .i64 0] (.t 128) (.t 136)) (kW 138 (.fa 3 (.v 3)) (.wcons .no .none (.st (.t 138) (.t 137)) .done .wnil)) .wnil) .wnil) .wnil)) .wnil))))))))))
def zK (ι:aG):S:=
 (.dr (kW 166 (.fa 4 (.v 3)) (kW 168 (.fa 5 (.v 1)) (kW 169 (.ld (.t 168)) (kW 170 (.mv (.v 11)) (kW 171 (.is 2 (.t 169) (.t 170)) (kW 172 (.ia 2 1 (.t 171) (.c (.int .i64 0))) (kW 173 (.ld (.t 172)) (kW 174 (.dv .rem .u8 (.t 173) (.c (.int .u8 3))) (kW 175 (.ii .i64 (.t 174)) (kW 176 (.ar .add .i64 (.c (.int .i64 1)) (.t 175)) (kW 177 (.mv (.v 12)) (kW 178 (.m (.bld #[.int .i64 0,.int .u64 0] [(0,(1,.t 176)),(1,(1,.t 177))])) (.wcons (.t 167) .none (.rd (.ld (.t 166))) (.wcons (.t 179) .none (.aV (ι.t 291) 2 1 [.t 178]) (.wcons (.t 180) .none (.app false (ι.t 291) 2 16 #[.int .i64 0,.int .u64 0] (.t 167) (.t 179)) (kW 181 (.fa 4 (.v 3)) (.wcons .no .none (.st (.t 181) (.t 180)) .done .wnil)) .wnil) .wnil) (.wcons (.t 179) .none (.aV (ι.t 291) 2 1 [.t 178]) (.wcons (.t 167) .none (.rd (.ld (.t 166))) (.wcons (.t 180) .none (.app false (ι.t 291) 2 16 #[.int .i64 0,.int .u64 0] (.t 167) (.t 179)) (kW 181 (.fa 4 (.v 3)) (.wcons .no .none (.st (.t 181) (.t 180)) .done .wnil)) .wnil) .wnil) .wnil)))))))))))))))
def FO (ι:aG):S:=
 (kY [kA 47 7,kG 48 2 1,kD 49 48,kL 50 49,kU 51 (.cm .lss .i64 (.t 47) (.t 50)),kF 52 51,kS 53 52 true 7,kT 54 52 true (.cm .lss .i64 (.t 53) (.c (.int .i64 6))),kJ 55 52 54,kF 56 55,kS 57 56 true 4,kT 58 56 true (.cm .gtr .i64 (.t 57) (.c (.int .i64 1))),kV 59 (.pick (.t 56) (.t 58) (.c (.bool false)))] (.ite (.v 59) .skip (.exit 2)))
def FP (ι:aG):S:=
 (kY [kA 85 9,kG 86 3 1,kD 87 86,kL 88 87,kU 89 (.cm .lss .i64 (.t 85) (.t 88)),kF 90 89,kS 91 90 true 9,kT 92 90 true (.cm .lss .i64 (.t 91) (.c (.int .i64 6))),kJ 93 90 92,kF 94 93,kS 95 94 true 4,kT 96 94 true (.cm .gtr .i64 (.t 95) (.c (.int .i64 1))),kV 97 (.pick (.t 94) (.t 96) (.c (.bool false)))] (.ite (.v 97) .skip (.exit 4)))
def FQ (ι:aG):S:=
 (kY [kA 112 10,kG 113 4 1,kD 114 113,kL 115 114,kU 116 (.cm .lss .i64 (.t 112) (.t 115)),kF 117 116,kS 118 117 true 10,kT 119 117 true (.cm .lss .i64 (.t 118) (.c (.int .i64 3))),kJ 120 117 119,kF 121 120,kS 122 121 true 4,kT 123 121 true (.cm .gtr .i64 (.t 122) (.c (.int .i64 1))),kV 124 (.pick (.t 121) (.t 123) (.c (.bool false)))] (.ite (.v 124) .skip (.exit 6)))
def FR (ι:aG):S:=
 (kY [kA 139 11,kG 140 5 1,kD 141 140,kL 142 141,kU 143 (.cm .lss .i64 (.t 139) (.t 142)),kF 144 143,kS 145 144 true 11,kT 146 144 true (.cm .lss .i64 (.t 145) (.c (.int .i64 3))),kV 147 (.pick (.t 144) (.t 146) (.c (.bool false)))] (.ite (.v 147) .skip (.exit 8)))
def zL (ι:aG):S:=
 kY [kR 1 (ι.t 288) 0,.e (.v 2) (.new (ι.t 289) #[kZ,kZ,kZ,kZ,kZ])] (kY [kU 13 (.m (.bld #[kZ,kZ,kZ,kZ,kZ] [])),.e (.v 3) (.new (ι.t 289) #[kZ,kZ,kZ,kZ,kZ]),.e .no (.stn 5 (.v 3) (.t 13))] (kY [kG 14 0 1,kD 15 14,kU 16 (.dv .rem .u8 (.t 15) (.c (.int .u8 5))),kU 17 (.ii .i64 (.t 16)),kU 18 (.ar .add .i64 (.c (.int .i64 1)) (.t 17)),kB 4 18] (.seq (kY [kC 5 (.int .i64 0)] (.blk 0 (.loop (.seq (kY [kA 19 5,kA 20 4,kV 21 (.cm .lss .i64 (.t 19) (.t 20))] (.ite (.v 21) .skip (.exit 0))) (.seq (.blk 1 (kY [kC 6 (.int .i64 1)] (.seq (kY [kA 24 5,kG 25 1 1,kD 26 25,kL 27 26,kV 28 (.cm .lss .i64 (.t 24) (.t 27))] (.ite (.v 28) (.reg [kG 29 1 1,kD 30 29,kA 31 5,kI 32 1 30 31,kD 33 32,kU 34 (.dv .rem .u8 (.t 33) (.c (.int .u8 4))),kU 35 (.ii .i64 (.t 34)),kU 36 (.ar .add .i64 (.c (.int .i64 1)) (.t 35)),kB 6 36]) .skip)) (zI ι)))) (.reg [kA 22 5,kU 23 (.ar .add .i64 (.t 22) (.c (.int .i64 1))),kB 5 23])))))) (.seq (kY [kC 7 (.int .i64 0)] (.blk 2 (.loop (.seq (FO ι) (.seq (.blk 3 (kY [kG 62 2 1,kD 63 62,kA 64 7,kI 65 2 63 64,kN 66 2 65,kA 67 4,.e (.t 68) (.call (ι.f 286) [.t 66,.t 67]),.e (.v 8) (.new (ι.t 194) #[.int .i64 0,.int .i64 0]),.e .no (.stn 2 (.v 8) (.t 68))] (.seq (kY [kP 69 2 1 8 0,kD 70 69,kP 71 2 1 8 1,kD 72 71,kV 73 (.cm .gtr .i64 (.t 70) (.t 72))] (.ite (.v 73) (.reg [kP 74 2 1 8 1,kD 75 74,kP 76 2 1 8 0,kD 77 76,kU 78 (.m (.bld #[.int .i64 0,.int .i64 0] [(0,(1,.t 75)),(1,(1,.t 77))])),.e .no (.stn 2 (.v 8) (.t 78))]) .skip)) (zJ ι)))) (.reg [kA 60 7,kU 61 (.ar .add .i64 (.t 60) (.c (.int .i64 1))),kB 7 61])))))) (.seq (kY [kC 9 (.int .i64 0)] (.blk 4 (.loop (.seq (FP ι) (.seq (.blk 5 (FM ι)) (.reg [kA 98 9,kU 99 (.ar .add .i64 (.t 98) (.c (.int .i64 1))),kB 9 99])))))) (.seq (kY [kC 10 (.int .i64 0)] (.blk 6 (.loop (.seq (FQ ι) (.seq (.blk 7 (FN ι)) (.reg [kA 125 10,kU 126 (.ar .add .i64 (.t 125) (.c (.int .i64 1))),kB 10 126])))))) (.seq (kY [kC 11 (.int .i64 0)] (.blk 8 (.loop (.seq (FR ι) (.seq (.blk 9 (kY [kG 150 5 1,kD 151 150,kA 152 11,kI 153 2 151 152,kU 154 (.ia 2 1 (.t 153) (.c (.int .i64 1))),kD 155 154,kU 156 (.ii .u64 (.t 155)),kA 157 4,kU 158 (.sh .shl .u64 (.c (.int .u64 1)) (.t 157)),kU 159 (.ar .sub .u64 (.t 158) (.c (.int .u64 1))),kU 160 (.bt .and .u64 (.t 156) (.t 159)),kB 12 160] (.seq (kY [kA 161 12,kV 162 (.cm .eql .u64 (.t 161) (.c (.int .u64 0)))] (.ite (.v 162) (.reg [kA 163 4,kU 164 (.sh .shl .u64 (.c (.int .u64 1)) (.t 163)),kU 165 (.ar .sub .u64 (.t 164) (.c (.int .u64 1))),kB 12 165]) .skip)) (zK ι)))) (.reg [kA 148 11,kU 149 (.ar .add .i64 (.t 148) (.c (.int .i64 1))),kB 11 149])))))) (kY [kM 182 5 3,.e .no (.stn 5 (.v 2) (.t 182))] .ret))))))))
def zM:List RV:=[.cn 2 5]
def cj (x:wO):List Value:=[sV x.1,.int .i64 x.2]
def mP (x:tk):List Value:=[.int .i64 x.1,.int .u64 x.2.toNat]
def qH (x:UInt8×UInt8):List Value:=[.int .u8 x.1.toNat,.int .u8 x.2.toNat]
theorem dD (x:wO):(cj x).length=2:=rfl
theorem ph (x:tk):(mP x).length=2:=rfl
theorem lO (x:UInt8×UInt8):(qH x).length=2:=rfl
theorem jh (x:wO):∀v∈cj x,v.oneCell'=true:=by
 intro v hv;simp[cj]at hv;rcases hv with rfl|rfl<;>rfl
theorem DD (x:tk):∀v∈mP x,v.oneCell'=true:=by
 intro v hv;simp[mP]at hv;rcases hv with rfl|rfl<;>rfl
def c9 (H:Hp) (v:Value) (f:cf):Prop:=∃s b d a m,v=.agg #[s,b,d,a,m]/\bk cj 2 H s f.st/\ql H b f.be/\ql H d f.di/\ql H a f.sa/\bk mP 2 H m f.mo
def flB (v:Value) (q:Nat):Prop:=∃c∈gL v,aT c q
variable {H H' A:Hp} {v dv r0 r1 r2 r4 r5 r6 y0 y1 y2 y3 y4 r3:Value} {f:Fr} {b n C i b1 len:Nat} {l:List (UInt8×UInt8)} {P:Program} {ι:aG} {L:List fV} {cs:List Value} {Qb:Ex->Fr->Hp->Prop}
theorem c9.ai {W:Nat->Prop} {f:cf} (h:c9 H v f) (hk:af W H H') (hw:∀q,flB v q->¬W q):c9 H' v f:=by
 obtain⟨s,b,d,a,m,rfl,h1,h2,h3,h4,h5⟩:=h;have w:∀c∈[s,b,d,a,m],∀q,aT c q->¬W q:=fun c hc q hq=>hw q ⟨c,hc,hq⟩;exact⟨s,b,d,a,m,rfl,h1.ai hk (w s (by simp)),h2.ai hk (w b (by simp)),h3.ai hk (w d (by simp)),h4.ai hk (w a (by simp)),h5.ai hk (w m (by simp))⟩
theorem c9.aj {f:cf} (h:c9 H v f) (hk:af (fun _=>False) H H'):c9 H' v f:=h.ai hk fun _ _ h=>h
def mY (H:Hp) (v:Value) (r:dX):Prop:=r.n<256/\∃ro be di sa mo el,v=.agg #[.int .u8 (r.n:Int),ro,be,di,sa,mo,el]/\aO H ro (w8 r.ro)/\bk qH 2 H be r.be/\bk qH 2 H di r.di/\bk qH 2 H sa r.sa/\bk qH 2 H mo r.mo/\aO H el (w8 r.el)
theorem mY.aj {r:dX} (h:mY H v r) (hk:af (fun _=>False) H H'):mY H' v r:=by
 obtain⟨h0,ro,be,di,sa,mo,el,rfl,h1,h2,h3,h4,h5,h6⟩:=h;exact⟨h0,ro,be,di,sa,mo,el,rfl,h1.ai hk (by simp),h2.aj hk,h3.aj hk,h4.aj hk,h5.aj hk,h6.ai hk (by simp)⟩
theorem xE {o:Nat} {l:List Value} (h:aR H ⟨b,o,none⟩ n=some l.toArray) {j:Nat} (hj:j<n):cell H ⟨b,o+j,none⟩=l[j]?:=by
 unfold aR at h;simp only[Option.isSome_none,Bool.false_eq_true,if_false]at h
 split at h
 ·rename_i C T z hb
  split at h
  ·rename_i hle;simp only[Option.some.injEq]at h;have e:l[j]?=(C.extract o (o+n))[j]?:=by rw[h];simp
   rw[e];simp only[cell,hb,Option.isSome_none,Bool.false_eq_true,if_false];rw[Array.getElem?_extract];rw[if_pos (by omega)]
  ·cases h
 ·cases h
theorem Lm (r:dX) (i:Nat):uV r (i+1)=uV r i++[(Jj i,Li r.ro i)]:=by simp[uV,List.range_succ]
theorem OM (r:dX) (i:Nat):(uV r i).length=i:=by simp[uV]
theorem TE (hd:zH P (ι.f 287)) {sv:Value} {L:List wO} {ro:Int} (h3:f 3=.pointer (some ⟨b,0,none⟩)) (h5:f 5=.int .i64 (i:Int)) (h6:f 6=.int .i64 ro) (hi:i<10) (hL:L.length<=100)
  (B:Bl A b (sv::cs)) (hb:b<C) (hC:C<=A.size) (O:bT cj 2 A sv L) (o:∀q,ax sv q->C<=q)
  (hK:∀v' A',bT cj 2 A' v' (L++[(Jj i,ro)])->(∀q,ax v' q->C<=q)->Bl A' b (v'::cs)->af (fun q=>q=b\/C<=q) A A'->Qb .n f A'):vc P (zI ι) Qb f A:=by
 unfold zI kW;refine bo (fun q=>q=b\/C<=q) ?_;have c0:∀{A':Hp},af (fun _=>False) A A'->cell A' ⟨b,0,none⟩=some sv:=fun K=>by rw[(K.bl B (by simp)).cell];rfl
 have R8:∀(x:List UInt8),(ByteArray.mk [115].toArray)++(ByteArray.mk x.toArray)=⟨([115]++x).toArray⟩:=fun x=>rfl;simp-implicitDefEqProofs only[go_sem,↓reduceIte,Za,Zb,Zc,reduceCtorEq,ae,Zf,Zg,Zh,Zi,Zd,Ze,h3,h5,h6,c0 (af.refl _ A)];have fin:∀(A2:Hp) (bb:Nat) (e:Env),af (fun _=>False) A A2->Bl A2 bb (cj (Jj i,ro))->iM false (ι.t 290) 2 24 #[.string ⟨#[]⟩,.int .i64 0] sv (.slice (some ⟨bb,0,none⟩) 1 1) A2 (la P (fun q=>q=b\/C<=q) A2 (.t 45) (.px (.t 46) none (.fa 0 (.v 3)) (.wcons .no none (.st (.t 46) (.t 45)) .done .wnil)) e f (Qb .n)):=fun A2 bb e K B2=>
  mC dD jh (O.ai K (by simp)) o (by have:=K.size;omega) (bk.bl B2 (l:=[(Jj i,ro)]) rfl (by simp[cj]) (by simp)) rfl (by omega) (by simp;omega) (K.bl B (by simp)) hb (by simp) h3 rfl fun v' A' O' o' B' K'=>hK v' A' O' o' B' ((K.mono fun _ _ h=>h.elim).trans K')
 have eF:∀{X Y:Hp},af (fun _=>False) X Y->af (fun q=>q=b\/C<=q) X Y:=fun K=>K.mono fun _ _ h=>h.elim;have h2m:2<=maxLen:=by unfold maxLen;omega
 refine⟨⟨af.refl _ _,(hd i A hi).mono ?_⟩,(hd i A hi).mono ?_⟩
 ·rintro x A1 ⟨rfl,K1⟩;simp-implicitDefEqProofs only[go_sem,↓reduceIte,Za,Zb,Zc,reduceCtorEq,ae,Zf,Zg,Zh,Zi,Zd,Ze,sV];refine⟨eF K1,h2m,?_⟩;generalize sd:A1.push _=A2;have B2:Bl A2 A1.size (cj (Jj i,ro)):=by rw[<-sd];exact Bl.cS _ _ _
  have K2:af (fun _=>False) A1 A2:=by rw[<-sd];exact(af.refl _ _).push _
  exact⟨eF K2,fin A2 _ _ (K1.trans K2) B2⟩
 ·rintro x A1 ⟨rfl,K1⟩;simp-implicitDefEqProofs only[go_sem,↓reduceIte,Za,Zb,Zc,reduceCtorEq,ae,Zf,Zg,Zh,Zi,Zd,Ze,sV,c0 K1];refine⟨eF K1,h2m,?_⟩;generalize sd:A1.push _=A2;have B2:Bl A2 A1.size (cj (Jj i,ro)):=by rw[<-sd];exact Bl.cS _ _ _
  have K2:af (fun _=>False) A1 A2:=by rw[<-sd];exact(af.refl _ _).push _
  simp-implicitDefEqProofs only[go_sem,↓reduceIte,Za,Zb,Zc,reduceCtorEq,ae,Zf,Zg,Zh,Zi,Zd,Ze,c0 (K1.trans K2)];exact⟨⟨af.refl _ _,eF K2,fin A2 _ _ (K1.trans K2) B2⟩,eF K2,af.refl _ _,fin A2 _ _ (K1.trans K2) B2⟩
theorem TF (hp:pg P (ι.f 286)) (h1:f 1=.pointer (some ⟨b1,0,none⟩)) (h3:f 3=.pointer (some ⟨b,0,none⟩)) (h4:f 4=.int .i64 (n:Int)) (h9:f 9=.int .i64 (i:Int)) (hn:1<n) (hn5:n<=5) (hL:L.length<=100)
  (B1:Bl A b1 [r0,r1,r2,dv,r4,r5,r6]) (hl:bk qH 2 A dv l) (hi:i<l.length) (B:Bl A b [y0,y1,y2,y3,y4]) (hb1:b1<b) (hb:b<C) (hdv:∀q,aT dv q->q<b) (hC:C<=A.size) (O:EA A y2 L) (o:∀q,ax y2 q->C<=q)
  (hK:∀v' A',EA A' v' (L++[gy n l[i]])->(∀q,ax v' q->C<=q)->Bl A' b [y0,y1,v',y3,y4]->af (fun q=>q=b\/C<=q) A A'->Qb .n f A'):vc P (FM ι) Qb f A:=by
 unfold FM kW;refine bo (fun q=>q=b\/C<=q) ?_;have c0:∀{A':Hp},af (fun _=>False) A A'->cell A' ⟨b,2,none⟩=some y2:=fun K=>by rw[(K.bl B (by simp)).cell];rfl
 have c1:cell A ⟨b1,3,none⟩=some dv:=by rw[B1.cell];rfl
 obtain⟨pb,po,pc,gz,nz,hld⟩:=hl.elem lO hi;have aby:=hdv pb nz;obtain⟨x,hx⟩:∃x,x=l[i]:=⟨_,rfl⟩
 rw[<-hx]at hld hK;have cU:aR A ⟨pb,po+i*2,none⟩ 2=some #[.int .u8 x.1.toNat,.int .u8 x.2.toNat]:=hld;have fin:∀(A2:Hp) (bb:Nat) (e:Env),af (fun _=>False) A A2->Bl A2 bb (pE (gy n x))->iM false (ι.t 194) 2 16 #[.int .i64 0,.int .i64 0] y2 (.slice (some ⟨bb,0,none⟩) 1 1) A2 (la P (fun q=>q=b\/C<=q) A2 (.t 110) (.px (.t 111) none (.fa 2 (.v 3)) (.wcons .no none (.st (.t 111) (.t 110)) .done .wnil)) e f (Qb .n)):=fun A2 bb e K B2=>
  mC eH fX (O.ai K (by simp)) o (by have:=K.size;omega) (bk.bl B2 (l:=[gy n x]) rfl (by simp[pE]) (by simp)) rfl (by omega) (by simp;omega) (K.bl B (by simp)) hb (by simp) h3 rfl fun v' A' O' o' B' K'=>hK v' A' O' o' B' ((K.mono fun _ _ h=>h.elim).trans K')
 have eF:∀{X Y:Hp},af (fun _=>False) X Y->af (fun q=>q=b\/C<=q) X Y:=fun K=>K.mono fun _ _ h=>h.elim;simp only[go_sem,Za,Zb,ae,h1,h3,h4,h9,c0 (af.refl _ A),c1,gz,ak,aC,cU];refine⟨by omega,by omega,by omega,⟨af.refl _ _,(hp n x A hn (by omega)).mono ?_⟩,(hp n x A hn (by omega)).mono ?_⟩
 ·rintro y A1 ⟨rfl,K1⟩;simp only[go_sem,Za,Zb,ae];refine⟨eF K1,?_⟩;generalize sd:A1.push _=A2;have B2:Bl A2 A1.size (pE (gy n x)):=by rw[<-sd];exact Bl.cS _ _ _
  have K2:af (fun _=>False) A1 A2:=by rw[<-sd];exact(af.refl _ _).push _
  exact⟨eF K2,fin A2 _ _ (K1.trans K2) B2⟩
 ·rintro y A1 ⟨rfl,K1⟩;simp only[go_sem,Za,Zb,ae,h3,c0 K1];refine⟨eF K1,?_⟩;generalize sd:A1.push _=A2;have B2:Bl A2 A1.size (pE (gy n x)):=by rw[<-sd];exact Bl.cS _ _ _
  have K2:af (fun _=>False) A1 A2:=by rw[<-sd];exact(af.refl _ _).push _
  simp only[go_sem,Za,Zb,ae,c0 (K1.trans K2)];exact⟨⟨af.refl _ _,eF K2,fin A2 _ _ (K1.trans K2) B2⟩,eF K2,af.refl _ _,fin A2 _ _ (K1.trans K2) B2⟩
theorem TG (hp:pg P (ι.f 286)) (h1:f 1=.pointer (some ⟨b1,0,none⟩)) (h3:f 3=.pointer (some ⟨b,0,none⟩)) (h4:f 4=.int .i64 (n:Int)) (h9:f 10=.int .i64 (i:Int)) (hn:1<n) (hn5:n<=5) (hL:L.length<=100)
  (B1:Bl A b1 [r0,r1,r2,r3,dv,r5,r6]) (hl:bk qH 2 A dv l) (hi:i<l.length) (B:Bl A b [y0,y1,y2,y3,y4]) (hb1:b1<b) (hb:b<C) (hdv:∀q,aT dv q->q<b) (hC:C<=A.size) (O:EA A y3 L) (o:∀q,ax y3 q->C<=q)
  (hK:∀v' A',EA A' v' (L++[gy n l[i]])->(∀q,ax v' q->C<=q)->Bl A' b [y0,y1,y2,v',y4]->af (fun q=>q=b\/C<=q) A A'->Qb .n f A'):vc P (FN ι) Qb f A:=by
 unfold FN kW;refine bo (fun q=>q=b\/C<=q) ?_;have c0:∀{A':Hp},af (fun _=>False) A A'->cell A' ⟨b,3,none⟩=some y3:=fun K=>by rw[(K.bl B (by simp)).cell];rfl
 have c1:cell A ⟨b1,4,none⟩=some dv:=by rw[B1.cell];rfl
 obtain⟨pb,po,pc,gz,nz,hld⟩:=hl.elem lO hi;have aby:=hdv pb nz;obtain⟨x,hx⟩:∃x,x=l[i]:=⟨_,rfl⟩
 rw[<-hx]at hld hK;have cU:aR A ⟨pb,po+i*2,none⟩ 2=some #[.int .u8 x.1.toNat,.int .u8 x.2.toNat]:=hld;have fin:∀(A2:Hp) (bb:Nat) (e:Env),af (fun _=>False) A A2->Bl A2 bb (pE (gy n x))->iM false (ι.t 194) 2 16 #[.int .i64 0,.int .i64 0] y3 (.slice (some ⟨bb,0,none⟩) 1 1) A2 (la P (fun q=>q=b\/C<=q) A2 (.t 137) (.px (.t 138) none (.fa 3 (.v 3)) (.wcons .no none (.st (.t 138) (.t 137)) .done .wnil)) e f (Qb .n)):=fun A2 bb e K B2=>
  mC eH fX (O.ai K (by simp)) o (by have:=K.size;omega) (bk.bl B2 (l:=[gy n x]) rfl (by simp[pE]) (by simp)) rfl (by omega) (by simp;omega) (K.bl B (by simp)) hb (by simp) h3 rfl fun v' A' O' o' B' K'=>hK v' A' O' o' B' ((K.mono fun _ _ h=>h.elim).trans K')
 have eF:∀{X Y:Hp},af (fun _=>False) X Y->af (fun q=>q=b\/C<=q) X Y:=fun K=>K.mono fun _ _ h=>h.elim;simp only[go_sem,Za,Zb,ae,h1,h3,h4,h9,c0 (af.refl _ A),c1,gz,ak,aC,cU];refine⟨by omega,by omega,by omega,⟨af.refl _ _,(hp n x A hn (by omega)).mono ?_⟩,(hp n x A hn (by omega)).mono ?_⟩
 ·rintro y A1 ⟨rfl,K1⟩;simp only[go_sem,Za,Zb,ae];refine⟨eF K1,?_⟩;generalize sd:A1.push _=A2;have B2:Bl A2 A1.size (pE (gy n x)):=by rw[<-sd];exact Bl.cS _ _ _
  have K2:af (fun _=>False) A1 A2:=by rw[<-sd];exact(af.refl _ _).push _
  exact⟨eF K2,fin A2 _ _ (K1.trans K2) B2⟩
 ·rintro y A1 ⟨rfl,K1⟩;simp only[go_sem,Za,Zb,ae,h3,c0 K1];refine⟨eF K1,?_⟩;generalize sd:A1.push _=A2;have B2:Bl A2 A1.size (pE (gy n x)):=by rw[<-sd];exact Bl.cS _ _ _
  have K2:af (fun _=>False) A1 A2:=by rw[<-sd];exact(af.refl _ _).push _
  simp only[go_sem,Za,Zb,ae,c0 (K1.trans K2)];exact⟨⟨af.refl _ _,eF K2,fin A2 _ _ (K1.trans K2) B2⟩,eF K2,af.refl _ _,fin A2 _ _ (K1.trans K2) B2⟩
theorem aew (n:Nat) (hn:n<=5):IntKind.u64.wrap (IntKind.u64.wrap (1*2^n) -1)=((allM n).toNat:Int):=by
 have:∀m:Fin 6,IntKind.u64.wrap (IntKind.u64.wrap (1*2^m.val) -1)=((allM m.val).toNat:Int):=by decide
 exact this ⟨n,by omega⟩
theorem TH {L:List tk} {m:UInt64} (h1:f 1=.pointer (some ⟨b1,0,none⟩)) (h3:f 3=.pointer (some ⟨b,0,none⟩)) (h11:f 11=.int .i64 (i:Int)) (h12:f 12=.int .u64 m.toNat) (hL:L.length<=100)
  (B1:Bl A b1 [r0,r1,r2,r3,r4,dv,r6]) (hl:bk qH 2 A dv l) (hi:i<l.length) (B:Bl A b [y0,y1,y2,y3,y4]) (hb1:b1<b) (hb:b<C) (hdv:∀q,aT dv q->q<b) (hC:C<=A.size) (O:bT mP 2 A y4 L) (o:∀q,ax y4 q->C<=q)
  (hK:∀v' A',bT mP 2 A' v' (L++[(1+((l[i].1.toNat % 3:Nat):Int),m)])->(∀q,ax v' q->C<=q)->Bl A' b [y0,y1,y2,y3,v']->af (fun q=>q=b\/C<=q) A A'->Qb .n f A'):vc P (zK ι) Qb f A:=by
 unfold zK kW;refine bo (fun q=>q=b\/C<=q) ?_;have c0:∀{A':Hp},af (fun _=>False) A A'->cell A' ⟨b,4,none⟩=some y4:=fun K=>by rw[(K.bl B (by simp)).cell];rfl
 have c1:cell A ⟨b1,5,none⟩=some dv:=by rw[B1.cell];rfl
 obtain⟨pb,po,pc,gz,nz,hld⟩:=hl.elem lO hi;have aby:=hdv pb nz;obtain⟨x,hx⟩:∃x,x=l[i]:=⟨_,rfl⟩
 rw[<-hx]at hld hK;have c2:cell A ⟨pb,po+i*2,none⟩=some (.int .u8 x.1.toNat):=xE hld (j:=0) (by omega);have hlt:=x.1.toNat_lt;have m3:((x.1.toNat:Int)).tmod 3=((x.1.toNat % 3:Nat):Int):=cg _ 3;have w3:IntKind.i64.wrap ((x.1.toNat % 3:Nat):Int)=((x.1.toNat % 3:Nat):Int):=IntWalk.i64_in _ (by omega);have w4:IntKind.i64.wrap (1+((x.1.toNat % 3:Nat):Int))=1+((x.1.toNat % 3:Nat):Int):=IntWalk.i64_in _ (by omega);have fin:∀(A2:Hp) (bb:Nat) (e:Env),af (fun _=>False) A A2->Bl A2 bb (mP (1+((x.1.toNat % 3:Nat):Int),m))->iM false (ι.t 291) 2 16 #[.int .i64 0,.int .u64 0] y4 (.slice (some ⟨bb,0,none⟩) 1 1) A2 (la P (fun q=>q=b\/C<=q) A2 (.t 180) (.px (.t 181) none (.fa 4 (.v 3)) (.wcons .no none (.st (.t 181) (.t 180)) .done .wnil)) e f (Qb .n)):=fun A2 bb e K B2=>
  mC ph DD (O.ai K (by simp)) o (by have:=K.size;omega) (bk.bl B2 (l:=[(1+((x.1.toNat % 3:Nat):Int),m)]) rfl (by simp[mP]) (by simp)) rfl (by omega) (by simp;omega) (K.bl B (by simp)) hb (by simp) h3 rfl fun v' A' O' o' B' K'=>hK v' A' O' o' B' ((K.mono fun _ _ h=>h.elim).trans K')
 have eF:∀{X Y:Hp},af (fun _=>False) X Y->af (fun q=>q=b\/C<=q) X Y:=fun K=>K.mono fun _ _ h=>h.elim;simp-implicitDefEqProofs only[go_sem,↓reduceIte,Za,Zb,Zc,reduceCtorEq,ae,Zf,Zg,Zh,Zi,Zd,Ze,h1,h3,h11,h12,c0 (af.refl _ A),c1,gz,ak,c2,m3,w3,w4];refine⟨by omega,by omega,by omega,by decide,?_⟩;generalize sd:A.push _=A2;have B2:Bl A2 A.size (mP (1+((x.1.toNat % 3:Nat):Int),m)):=by rw[<-sd];exact Bl.cS _ _ _
 have K2:af (fun _=>False) A A2:=by rw[<-sd];exact(af.refl _ _).push _
 simp-implicitDefEqProofs only[go_sem,↓reduceIte,Za,Zb,Zc,reduceCtorEq,ae,Zf,Zg,Zh,Zi,Zd,Ze,c0 K2];exact⟨⟨af.refl _ _,eF K2,fin A2 _ _ K2 B2⟩,eF K2,af.refl _ _,fin A2 _ _ K2 B2⟩
theorem TI {bp:Nat} {x:fV} (h3:f 3=.pointer (some ⟨b,0,none⟩)) (h8:f 8=.pointer (some ⟨bp,0,none⟩)) (hL:L.length<=100)
  (Bp:Bl A bp (pE x)) (B:Bl A b [y0,y1,y2,y3,y4]) (hb:b<C) (hC:C<=A.size) (O:EA A y1 L) (o:∀q,ax y1 q->C<=q)
  (hK:∀v' A',EA A' v' (L++[x])->(∀q,ax v' q->C<=q)->Bl A' b [y0,v',y2,y3,y4]->af (fun q=>q=b\/C<=q) A A'->Qb .n f A'):vc P (zJ ι) Qb f A:=by
 unfold zJ kD kG kM;have c0:cell A ⟨b,1,none⟩=some y1:=by rw[B.cell];rfl
 simp only[go_sem,Za,Zb,h3,h8,c0,Bp.aM 2 rfl];refine⟨rfl,?_⟩;refine aF fun A2 b2 e2 z2 B2 K2=>?_;have km:Bl A2 b2 (pE x):=B2;simp only[go_sem,Za,Zb];exact uT eH fX (O.ai K2 (by simp)) o (by omega) (bk.bl km (l:=[x]) rfl (by simp[pE]) (by simp)) rfl (by omega) (by simp;omega) (K2.bl B (by simp)) hb (by simp) h3 rfl fun v' A' O' o' B' K'=>hK v' A' O' o' B' ((K2.mono fun _ _ h=>h.elim).trans K')
theorem cW {α:Type} {l:List α} (h:i<l.length):l.take (i+1)=l.take i++[l[i]]:=List.take_succ_eq_append_getElem h
theorem TJ (h1:f 1=.pointer (some ⟨b1,0,none⟩)) (h4:f 4=.int .i64 (n:Int)) (h7:f 7=.int .i64 (i:Int)) (B1:Bl A b1 cs) (hc:cs[2]?=some dv) (hd:aq dv) (hl:aU dv=len)
  (hT:i<min len 6->1<n->Qb .n (bL f 59 (.bool true)) A) (hF:¬(i<min len 6/\1<n)->Qb (.x 2) (bL f 59 (.bool false)) A):vc P (FO ι) Qb f A:=by
 unfold FO kA kF kD kG kJ kL kS kT kU kV kY;have c0:cell A ⟨b1,2,none⟩=some dv:=by rw[B1.cell];exact hc
 by_cases e1:i<len
 ·have d1:decide ((i:Int)<(len:Int))=true:=decide_eq_true (by omega)
  by_cases e2:i<6
  ·have d2:decide ((i:Int)<6)=true:=decide_eq_true (by omega)
   by_cases e3:1<n
   ·have d3:decide (1<(n:Int))=true:=decide_eq_true (by omega);simp only[go_sem,Za,Zb,ae,h1,h4,h7,c0,hd,hl,d1,d2,gt_iff_lt,d3];exact hT (by omega) e3
   ·have d3:decide (1<(n:Int))=false:=decide_eq_false (by omega);simp only[go_sem,Za,Zb,ae,h1,h4,h7,c0,hd,hl,d1,d2,gt_iff_lt,d3];exact hF (by omega)
  ·have d2:decide ((i:Int)<6)=false:=decide_eq_false (by omega);simp only[go_sem,Za,Zb,ae,h1,h4,h7,c0,hd,hl,d1,d2];exact hF (by omega)
 ·have d1:decide ((i:Int)<(len:Int))=false:=decide_eq_false (by omega);simp only[go_sem,Za,Zb,ae,h1,h4,h7,c0,hd,hl,d1];exact hF (by omega)
theorem TK (h1:f 1=.pointer (some ⟨b1,0,none⟩)) (h4:f 4=.int .i64 (n:Int)) (h7:f 9=.int .i64 (i:Int)) (B1:Bl A b1 cs) (hc:cs[3]?=some dv) (hd:aq dv) (hl:aU dv=len)
  (hT:i<min len 6->1<n->Qb .n (bL f 97 (.bool true)) A) (hF:¬(i<min len 6/\1<n)->Qb (.x 4) (bL f 97 (.bool false)) A):vc P (FP ι) Qb f A:=by
 unfold FP kA kF kD kG kJ kL kS kT kU kV kY;have c0:cell A ⟨b1,3,none⟩=some dv:=by rw[B1.cell];exact hc
 by_cases e1:i<len
 ·have d1:decide ((i:Int)<(len:Int))=true:=decide_eq_true (by omega)
  by_cases e2:i<6
  ·have d2:decide ((i:Int)<6)=true:=decide_eq_true (by omega)
   by_cases e3:1<n
   ·have d3:decide (1<(n:Int))=true:=decide_eq_true (by omega);simp only[go_sem,Za,Zb,ae,h1,h4,h7,c0,hd,hl,d1,d2,gt_iff_lt,d3];exact hT (by omega) e3
   ·have d3:decide (1<(n:Int))=false:=decide_eq_false (by omega);simp only[go_sem,Za,Zb,ae,h1,h4,h7,c0,hd,hl,d1,d2,gt_iff_lt,d3];exact hF (by omega)
  ·have d2:decide ((i:Int)<6)=false:=decide_eq_false (by omega);simp only[go_sem,Za,Zb,ae,h1,h4,h7,c0,hd,hl,d1,d2];exact hF (by omega)
 ·have d1:decide ((i:Int)<(len:Int))=false:=decide_eq_false (by omega);simp only[go_sem,Za,Zb,ae,h1,h4,h7,c0,hd,hl,d1];exact hF (by omega)
theorem TL (h1:f 1=.pointer (some ⟨b1,0,none⟩)) (h4:f 4=.int .i64 (n:Int)) (h7:f 10=.int .i64 (i:Int)) (B1:Bl A b1 cs) (hc:cs[4]?=some dv) (hd:aq dv) (hl:aU dv=len)
  (hT:i<min len 3->1<n->Qb .n (bL f 124 (.bool true)) A) (hF:¬(i<min len 3/\1<n)->Qb (.x 6) (bL f 124 (.bool false)) A):vc P (FQ ι) Qb f A:=by
 unfold FQ kA kF kD kG kJ kL kS kT kU kV kY;have c0:cell A ⟨b1,4,none⟩=some dv:=by rw[B1.cell];exact hc
 by_cases e1:i<len
 ·have d1:decide ((i:Int)<(len:Int))=true:=decide_eq_true (by omega)
  by_cases e2:i<3
  ·have d2:decide ((i:Int)<3)=true:=decide_eq_true (by omega)
   by_cases e3:1<n
   ·have d3:decide (1<(n:Int))=true:=decide_eq_true (by omega);simp only[go_sem,Za,Zb,ae,h1,h4,h7,c0,hd,hl,d1,d2,gt_iff_lt,d3];exact hT (by omega) e3
   ·have d3:decide (1<(n:Int))=false:=decide_eq_false (by omega);simp only[go_sem,Za,Zb,ae,h1,h4,h7,c0,hd,hl,d1,d2,gt_iff_lt,d3];exact hF (by omega)
  ·have d2:decide ((i:Int)<3)=false:=decide_eq_false (by omega);simp only[go_sem,Za,Zb,ae,h1,h4,h7,c0,hd,hl,d1,d2];exact hF (by omega)
 ·have d1:decide ((i:Int)<(len:Int))=false:=decide_eq_false (by omega);simp only[go_sem,Za,Zb,ae,h1,h4,h7,c0,hd,hl,d1];exact hF (by omega)
theorem TM (h1:f 1=.pointer (some ⟨b1,0,none⟩)) (h7:f 11=.int .i64 (i:Int)) (B1:Bl A b1 cs) (hc:cs[5]?=some dv) (hd:aq dv) (hl:aU dv=len)
  (hT:i<min len 3->Qb .n (bL f 147 (.bool true)) A) (hF:¬i<min len 3->Qb (.x 8) (bL f 147 (.bool false)) A):vc P (FR ι) Qb f A:=by
 unfold FR kA kF kD kG kL kS kT kU kV kY;have c0:cell A ⟨b1,5,none⟩=some dv:=by rw[B1.cell];exact hc
 by_cases e1:i<len
 ·have d1:decide ((i:Int)<(len:Int))=true:=decide_eq_true (by omega)
  by_cases e2:i<3
  ·have d2:decide ((i:Int)<3)=true:=decide_eq_true (by omega);simp only[go_sem,Za,Zb,ae,h1,h7,c0,hd,hl,d1,d2];exact hT (by omega)
  ·have d2:decide ((i:Int)<3)=false:=decide_eq_false (by omega);simp only[go_sem,Za,Zb,ae,h1,h7,c0,hd,hl,d1,d2];exact hF (by omega)
 ·have d1:decide ((i:Int)<(len:Int))=false:=decide_eq_false (by omega);simp only[go_sem,Za,Zb,ae,h1,h7,c0,hd,hl,d1];exact hF (by omega)
def pj (P:Program) (k:FuncId):Prop:=∀(r:dX) (v:Value) (H:Hp),mY H v r->an P k #[v] H fun x H'=>c9 H' x (dt r)/\(∀q,flB x q->H.size<=q)/\af (fun _=>False) H H'
theorem OP {k:FuncId} (hk:al P k (zL ι) zM 1) (hp:pg P (ι.f 286)) (hd:zH P (ι.f 287)):pj P k:=by
 intro r v H hv;have pV:=hv;obtain⟨hn,ro,be,di,sa,mo,el,rfl,hro,Zs,TN,R8,hmo,hel⟩:=hv;refine qI fun Q hQ=>?_;refine ah hk (args:=[_]) (by simp) ?_;unfold zL zM kA kB kC kD kG kI kL kM kN kP kR kU kV kY kZ;simp-implicitDefEqProofs only[go_sem,↓reduceIte,Za,Zb,Zc,reduceCtorEq,Zf,Zg,Zh,Zi,Zd,Ze];refine ay fun H1 b1 e1 z1 B1 K1=>?_;have bQ:Bl H1 b1 [.int .u8 (r.n:Int),ro,be,di,sa,mo,el]:=B1;simp-implicitDefEqProofs only[go_sem,↓reduceIte,Za,Zb,Zc,reduceCtorEq,Zf,Zg,Zh,Zi,Zd,Ze];refine ay fun H2 b2 e2 z2 B2 K2=>?_;have kx:=K2.bl bQ (by simp);simp-implicitDefEqProofs only[go_sem,↓reduceIte,Za,Zb,Zc,reduceCtorEq,Zf,Zg,Zh,Zi,Zd,Ze];refine aN [.slice none 0 0,.slice none 0 0,.slice none 0 0,.slice none 0 0,.slice none 0 0] (by rfl) rfl rfl rfl fun H3 b3 e3 z3 B3 K3=>?_;have kj:=K3.bl kx (by simp);have xy:=K3.bl B2 (by simp);have gg:=(K1.trans K2).trans K3;have hb1:b1<b2:=by have:=bQ.lt;omega
 have hb2:b2<b3:=by have:=B2.lt;omega
 obtain⟨C,hC⟩:∃C,C=H3.size:=⟨_,rfl⟩
 have hCH:H.size<=b1:=by omega
 have Cq:b3<C:=by have:=B3.lt;omega
 obtain⟨n,hne⟩:∃n,n=jR r:=⟨_,rfl⟩
 have hn5:=nC r;rw[<-hne]at hn5;have cA:∀{A:Hp},af (fun q=>q=b3\/C<=q) H3 A->∀i,cell A ⟨b1,i,none⟩=([.int .u8 (r.n:Int),ro,be,di,sa,mo,el]:List Value)[i]?:=fun K i=>(K.bl kj (by omega)).cell i;have c0:=cA (af.refl _ H3) 0;have m5:((r.n:Int)).tmod 5=((r.n % 5:Nat):Int):=cg _ _;have w5:IntKind.i64.wrap ((r.n % 5:Nat):Int)=((r.n % 5:Nat):Int):=IntWalk.i64_in _ (by omega);have w6:IntKind.i64.wrap (1+((r.n % 5:Nat):Int))=(n:Int):=by rw[IntWalk.i64_in _ (by omega),hne];unfold jR;omega
 simp only[List.getElem?_cons_zero]at c0;simp-implicitDefEqProofs only[go_sem,↓reduceIte,Za,Zb,Zc,reduceCtorEq,ae,Zf,Zg,Zh,Zi,Zd,Ze,c0,m5,w5,w6];refine⟨by decide,?_⟩;refine aS [21,6,28,5] rfl (fun m f A=>∃(i:Nat) (sv:Value),i<=n/\m=n -i/\f 5=.int .i64 (i:Int)/\Bl A b3 [sv,.slice none 0 0,.slice none 0 0,.slice none 0 0,.slice none 0 0]/\bT cj 2 A sv (uV r i)/\(∀q,ax sv q->C<=q)/\af (fun q=>q=b3\/C<=q) H3 A) n ?_ ?_
 ·exact⟨0,_,by omega,by omega,by rfl,B3,bT.nil _,fun q h=>h.elim,af.refl _ _⟩
 rintro m f A ⟨i,sv,hi,rfl,W6,BA,OA,oA,KA⟩;have sA:=KA.size;simp-implicitDefEqProofs only[go_sem,zS,↓reduceIte,Za,Zb,Zc,reduceCtorEq,ae]at W6;simp-implicitDefEqProofs only[go_sem,↓reduceIte,Za,Zb,Zc,reduceCtorEq,Zf,Zg,Zh,Zi,Zd,Ze,W6];refine aL (fun hlt=>?_) (fun jN=>?_)
 ·have hlt:i<n:=by omega
  have c1:=cA KA 1;simp only[List.getElem?_cons_succ,List.getElem?_cons_zero]at c1;have roA:=(hro.ai gg (by simp)).ai KA (fun q hq h=>by have:=(hro.ai gg (by simp)).bj hq;have:=hro.bj hq;omega);simp-implicitDefEqProofs only[go_sem,↓reduceIte,Za,Zb,Zc,reduceCtorEq,Zf,Zg,Zh,Zi,Zd,Ze,W6,c1,roA.len,roA.aq,aK];have fin:∀g:Fr,g 3=.pointer (some ⟨b3,0,none⟩)->g 5=.int .i64 (i:Int)->g 6=.int .i64 (Li r.ro i)->∀Qb,(∀v' A',bT cj 2 A' v' (uV r (i+1))->(∀q,ax v' q->C<=q)->Bl A' b3 [v',.slice none 0 0,.slice none 0 0,.slice none 0 0,.slice none 0 0]->af (fun q=>q=b3\/C<=q) H3 A'->Qb .n g A')->vc P (zI ι) Qb g A:=fun g g3 g5 g6 Qb hQb=>
   TE hd g3 g5 g6 (by omega) (by rw[OM];omega) BA Cq (by omega) OA oA fun v' A' O' o' B' K'=>hQb v' A' (by rw[Lm];exact O') o' B' (KA.trans K')
  refine aL (fun WX=>?_) (fun WX=>?_)
  ·have WX:i<r.ro.length:=by omega
   obtain⟨rb,rof,rc,hre,hrc,hcell⟩:=roA.cells (by intro e;rw[e]at roA;have:=aK r.ro;rw[e]at this;simp at this;omega);have hci:=hcell i (by rw[aK];exact WX);rw[jH _ _ WX]at hci;have afN:=(r.ro.getD i 0).toNat_lt;have m4:(((r.ro.getD i 0).toNat:Int)).tmod 4=(((r.ro.getD i 0).toNat % 4:Nat):Int):=cg _ 4;have w4:IntKind.i64.wrap (((r.ro.getD i 0).toNat % 4:Nat):Int)=(((r.ro.getD i 0).toNat % 4:Nat):Int):=IntWalk.i64_in _ (by omega);have w7:IntKind.i64.wrap (1+(((r.ro.getD i 0).toNat % 4:Nat):Int))=Li r.ro i:=by rw[IntWalk.i64_in _ (by omega)];unfold Li;rw[if_pos WX]
   simp-implicitDefEqProofs only[go_sem,↓reduceIte,Za,Zb,Zc,reduceCtorEq,ae,Zf,Zg,Zh,Zi,Zd,Ze,W6,hre,ak,hci,m4,w4,w7,aK];refine⟨by omega,by decide,?_⟩;refine fin _ (by rfl) (by simp-implicitDefEqProofs only[go_sem,↓reduceIte,Za,Zb,Zc,reduceCtorEq,ae,Zf,Zg,Zh,Zi,Zd,Ze,W6]) (by rfl) _ fun v' A' O' o' B' K'=>?_;simp-implicitDefEqProofs (disch:=omega)only[go_sem,↓reduceIte,Za,Zb,Zc,reduceCtorEq,ae,Zf,Zg,Zh,Zi,Zd,Ze,W6,IntWalk.i64_in];exact⟨n -(i+1),by omega,i+1,v',by omega,rfl,rfl,B',O',o',K'⟩
  ·have w7:Li r.ro i=1:=by unfold Li;rw[if_neg (by omega)]
   refine fin _ (by rfl) (by simp-implicitDefEqProofs only[go_sem,↓reduceIte,Za,Zb,Zc,reduceCtorEq,ae,Zf,Zg,Zh,Zi,Zd,Ze,W6]) (by simp-implicitDefEqProofs only[go_sem,↓reduceIte,Za,Zb,Zc,reduceCtorEq,ae,Zf,Zg,Zh,Zi,Zd,Ze,w7]) _ fun v' A' O' o' B' K'=>?_;simp-implicitDefEqProofs (disch:=omega)only[go_sem,↓reduceIte,Za,Zb,Zc,reduceCtorEq,ae,Zf,Zg,Zh,Zi,Zd,Ze,W6,IntWalk.i64_in];exact⟨n -(i+1),by omega,i+1,v',by omega,rfl,rfl,B',O',o',K'⟩
 ·have hin:i=n:=by omega
  subst hin;have W0:∀{X:Hp},af (fun q=>q=b3\/C<=q) H3 X->Bl X b1 [.int .u8 (r.n:Int),ro,be,di,sa,mo,el]:=fun K=>K.bl kj (by omega);have raw:∀{X:Hp} {v:Value} {l:List (UInt8×UInt8)},bk qH 2 H v l->af (fun q=>q=b3\/C<=q) H3 X->bk qH 2 X v l/\∀q,aT v q->q<b3:=fun{X v l} h K=>by
   have h3:=h.aj gg;exact⟨h3.ai K fun q hq hw=>by have:=h.bj hq;omega,fun q hq=>by have:=h.bj hq;omega⟩
  obtain⟨C1,hC1⟩:∃C1,C1=A.size:=⟨_,rfl⟩
  have hCC:C<=C1:=by omega
  have oS:∀q,ax sv q->C<=q/\q<C1:=fun q hq=>⟨oA q hq,by have:=OA.bj hq;omega⟩
  obtain⟨NB,hNB⟩:∃NB,NB=if 1<i then min r.be.length 6 else 0:=⟨_,rfl⟩
  refine aS [59,8,73,7] rfl (fun m f X=>∃(j:Nat) (bv:Value),j<=NB/\m=NB -j/\f 7=.int .i64 (j:Int)/\Bl X b3 [sv,bv,.slice none 0 0,.slice none 0 0,.slice none 0 0]/\EA X bv ((r.be.take j).map fun x=>Lh (gy i x))/\(∀q,ax bv q->C1<=q)/\af (fun q=>q=b3\/C1<=q) A X) NB ?_ ?_
  ·exact⟨0,_,by omega,by omega,by rfl,BA,bT.nil _,fun q h=>h.elim,af.refl _ _⟩
  rintro m g X ⟨j,bv,hj,rfl,hg7,BX,OX,oX,KX⟩;have sX:=KX.size;have W8:af (fun q=>q=b3\/C<=q) H3 X:=KA.trans (KX.mono fun q _ h=>by omega);simp-implicitDefEqProofs only[go_sem,zS,↓reduceIte,Za,Zb,Zc,reduceCtorEq,ae]at hg7;rw[jF];refine TJ (n:=i) (len:=r.be.length) (i:=j) (by rfl) (by rfl) (by simp-implicitDefEqProofs only[go_sem,↓reduceIte,Za,Zb,Zc,reduceCtorEq,ae,Zf,Zg,Zh,Zi,Zd,Ze,hg7]) (W0 W8) rfl Zs.aq Zs.len (fun hj1 Mv=>?_) (fun hnj=>?_)
  ·rw[if_pos Mv]at hNB;have xa:j<r.be.length:=by omega
   obtain⟨beX,bbX⟩:=raw Zs W8;obtain⟨pb,po,pc,gz,nz,hld⟩:=beX.elem lO xa;obtain⟨x,hx⟩:∃x,x=r.be[j]:=⟨_,rfl⟩
   rw[<-hx]at hld;have cU:aR X ⟨pb,po+j*2,none⟩ 2=some #[.int .u8 x.1.toNat,.int .u8 x.2.toNat]:=hld;have c2:cell X ⟨b1,2,none⟩=some be:=by rw[(W0 W8).cell];rfl
   rw[gz]at c2;simp-implicitDefEqProofs only[go_sem,↓reduceIte,Za,Zb,Zc,reduceCtorEq,ae,Zf,Zg,Zh,Zi,Zd,Ze,hg7,c2,ak,aC,cU];refine⟨by omega,(hp i x X Mv (by omega)).mono ?_⟩;rintro y X1 ⟨rfl,DE⟩;rw[ae];simp-implicitDefEqProofs only[go_sem,↓reduceIte,Za,Zb,Zc,reduceCtorEq,Zf,Zg,Zh,Zi,Zd,Ze];refine aN [.int .i64 (gy i x).1,.int .i64 (gy i x).2] (by rfl) rfl rfl rfl fun X2 bp eb zb BP Jk=>?_;have TO:=DE.trans Jk;have s1:=DE.size;have p0:cell X2 ⟨bp,0,none⟩=some (.int .i64 (gy i x).1):=by rw[BP.cell];rfl
   have p1:cell X2 ⟨bp,1,none⟩=some (.int .i64 (gy i x).2):=by rw[BP.cell];rfl
   have BX2:=TO.bl BX (by simp);have OX2:=OX.ai TO (by simp);have Xa:∀(g2:Fr) (X3:Hp),Bl X3 bp (pE (Lh (gy i x)))->af (fun q=>q=bp) X2 X3->g2 3=.pointer (some ⟨b3,0,none⟩)->g2 8=.pointer (some ⟨bp,0,none⟩)->∀Qb,(∀v' X',EA X' v' ((r.be.take (j+1)).map fun x=>Lh (gy i x))->(∀q,ax v' q->C1<=q)->Bl X' b3 [sv,v',.slice none 0 0,.slice none 0 0,.slice none 0 0]->af (fun q=>q=b3\/C1<=q) A X'->Qb .n g2 X')->vc P (zJ ι) Qb g2 X3:=fun g2 X3 hB3 hK3 q3 q8 Qb hQb=>by
    have hbp:C1<=bp:=by omega
    have hbx:b3<X2.size:=BX2.lt;have hb4:b3<bp:=by have:=BX.lt;omega
    have sX3:=hK3.size;refine TI (C:=C1) q3 q8 (by rw[List.length_map,List.length_take];omega) hB3 (hK3.bl BX2 (by omega)) (by omega) (by have:=TO.size;omega) (OX2.ai hK3 fun q hq e=>by have:=OX.bj hq;omega) oX fun v' X' O' o' B' K'=>hQb v' X' ?_ o' B' ?_
    ·rw[cW xa,List.map_append,<-hx];exact O'
    ·exact(KX.trans TO.any).trans ((hK3.mono fun q _ e=>by omega).trans K')
   by_cases yB:(gy i x).2<(gy i x).1
   ·have e1:decide ((gy i x).1>(gy i x).2)=true:=decide_eq_true yB;simp-implicitDefEqProofs only[go_sem,↓reduceIte,Za,Zb,Zc,reduceCtorEq,ae,Zf,Zg,Zh,Zi,Zd,Ze,p0,p1,e1];refine⟨⟨BP.bM (by simp),bd rfl⟩,?_⟩;have BS:=BP.aB 0 [.int .i64 (gy i x).2,.int .i64 (gy i x).1];refine Xa _ _ ?_ ((af.refl _ _).aB _ (.inl rfl)) (by rfl) (by rfl) _ fun v' X' O' o' B' K'=>?_
    ·have:pE (Lh (gy i x))=pU [.int .i64 (gy i x).1,.int .i64 (gy i x).2] 0 [.int .i64 (gy i x).2,.int .i64 (gy i x).1]:=by
      unfold Lh;rw[if_pos yB];rfl
     rw[this];exact BS
    ·simp-implicitDefEqProofs (disch:=omega)only[go_sem,↓reduceIte,Za,Zb,Zc,reduceCtorEq,ae,Zf,Zg,Zh,Zi,Zd,Ze,hg7,IntWalk.i64_in];exact⟨NB -(j+1),by omega,j+1,v',by omega,rfl,rfl,B',O',o',K'⟩
   ·have e1:decide ((gy i x).1>(gy i x).2)=false:=decide_eq_false (by omega);simp-implicitDefEqProofs only[go_sem,↓reduceIte,Za,Zb,Zc,reduceCtorEq,ae,Zf,Zg,Zh,Zi,Zd,Ze,p0,p1,e1];refine Xa _ _ ?_ (af.refl _ _) (by rfl) (by rfl) _ fun v' X' O' o' B' K'=>?_
    ·have:pE (Lh (gy i x))=[.int .i64 (gy i x).1,.int .i64 (gy i x).2]:=by
      unfold Lh;rw[if_neg yB];rfl
     rw[this];exact BP
    ·simp-implicitDefEqProofs (disch:=omega)only[go_sem,↓reduceIte,Za,Zb,Zc,reduceCtorEq,ae,Zf,Zg,Zh,Zi,Zd,Ze,hg7,IntWalk.i64_in];exact⟨NB -(j+1),by omega,j+1,v',by omega,rfl,rfl,B',O',o',K'⟩
  ·have uj:j=NB:=by rw[hNB]at hj⊢;split at hj<;>split<;>omega
   have eB:(r.be.take j).map (fun x=>Lh (gy i x))=(dt r).be:=by
    rw[uj,hNB];simp only[dt,<-hne]
    split
    ·congr 1
     by_cases h6:r.be.length<=6
     ·rw[List.take_of_length_le (by omega),List.take_of_length_le h6]
     ·rw[show min r.be.length 6=6 by omega]
    ·simp
   rw[eB]at OX;have oB:∀q,ax bv q->C1<=q/\q<X.size:=fun q hq=>⟨oX q hq,OX.bj hq⟩
   have OSX:=OA.ai KX fun q hq h=>by have:=oS q hq;omega
   obtain⟨C2,hC2⟩:∃C2,C2=X.size:=⟨_,rfl⟩
   rw[<-hC2]at oB;clear hj hnj uj eB hg7;have afO:C1<=C2:=by omega
   clear KX;obtain⟨ND,hND⟩:∃ND,ND=if 1<i then min r.di.length 6 else 0:=⟨_,rfl⟩
   simp-implicitDefEqProofs only[go_sem,↓reduceIte,Za,Zb,Zc,reduceCtorEq,ae,Zf,Zg,Zh,Zi,Zd,Ze];refine aS [97,9] rfl (fun m f Y=>∃(j:Nat) (dv:Value),j<=ND/\m=ND -j/\f 9=.int .i64 (j:Int)/\Bl Y b3 [sv,bv,dv,.slice none 0 0,.slice none 0 0]/\EA Y dv ((r.di.take j).map (gy i))/\(∀q,ax dv q->C2<=q)/\af (fun q=>q=b3\/C2<=q) X Y) ND ?_ ?_
   ·exact⟨0,_,by omega,by omega,by rfl,BX,bT.nil _,fun q h=>h.elim,af.refl _ _⟩
   rintro m g2 Y ⟨j,dv,hj,rfl,hg9,BY,OY,oY,KY⟩;have sY:=KY.size;have K3Y:af (fun q=>q=b3\/C<=q) H3 Y:=W8.trans (KY.mono fun q _ h=>by omega);simp-implicitDefEqProofs only[go_sem,zS,↓reduceIte,Za,Zb,Zc,reduceCtorEq,ae]at hg9;rw[jF];refine TK (n:=i) (len:=r.di.length) (i:=j) (by rfl) (by rfl) (by simp-implicitDefEqProofs only[go_sem,↓reduceIte,Za,Zb,Zc,reduceCtorEq,ae,Zf,Zg,Zh,Zi,Zd,Ze,hg9]) (W0 K3Y) rfl TN.aq TN.len (fun hj1 Mv=>?_) (fun hnj=>?_)
   ·rw[if_pos Mv]at hND;have xa:j<r.di.length:=by omega
    obtain⟨diY,dbY⟩:=raw TN K3Y;simp-implicitDefEqProofs only[go_sem,↓reduceIte,Za,Zb,Zc,reduceCtorEq,ae,Zf,Zg,Zh,Zi,Zd,Ze];refine TF (n:=i) (i:=j) hp (by rfl) (by rfl) (by rfl) (by simp-implicitDefEqProofs only[go_sem,↓reduceIte,Za,Zb,Zc,reduceCtorEq,ae,Zf,Zg,Zh,Zi,Zd,Ze,hg9]) Mv (by omega) (by rw[List.length_map,List.length_take];omega) (W0 K3Y) diY xa BY (by omega) (by omega:b3<C2) dbY (by omega) OY oY fun v' X' O' o' B' K'=>?_;simp-implicitDefEqProofs (disch:=omega)only[go_sem,↓reduceIte,Za,Zb,Zc,reduceCtorEq,ae,Zf,Zg,Zh,Zi,Zd,Ze,hg9,IntWalk.i64_in];refine⟨ND -(j+1),by omega,j+1,v',by omega,rfl,rfl,B',?_,o',KY.trans K'⟩;rw[cW xa,List.map_append];exact O'
   ·have uj:j=ND:=by rw[hND]at hj⊢;split at hj<;>split<;>omega
    have eD:(r.di.take j).map (gy i)=(dt r).di:=by
     rw[uj,hND];simp only[dt,<-hne]
     split
     ·congr 1
      by_cases h6:r.di.length<=6
      ·rw[List.take_of_length_le (by omega),List.take_of_length_le h6]
      ·rw[show min r.di.length 6=6 by omega]
     ·simp
    rw[eD]at OY;have oD:∀q,ax dv q->C2<=q/\q<Y.size:=fun q hq=>⟨oY q hq,OY.bj hq⟩
    have OSY:=OSX.ai KY fun q hq h=>by have:=oS q hq;omega
    have OBY:=OX.ai KY fun q hq h=>by have:=oB q hq;omega
    obtain⟨C3,hC3⟩:∃C3,C3=Y.size:=⟨_,rfl⟩
    rw[<-hC3]at oD;have afP:C2<=C3:=by omega
    clear hj hnj uj eD hg9 KY;obtain⟨NA,hNA⟩:∃NA,NA=if 1<i then min r.sa.length 3 else 0:=⟨_,rfl⟩
    simp-implicitDefEqProofs only[go_sem,↓reduceIte,Za,Zb,Zc,reduceCtorEq,ae,Zf,Zg,Zh,Zi,Zd,Ze];refine aS [124,10] rfl (fun m f Z=>∃(j:Nat) (av:Value),j<=NA/\m=NA -j/\f 10=.int .i64 (j:Int)/\Bl Z b3 [sv,bv,dv,av,.slice none 0 0]/\EA Z av ((r.sa.take j).map (gy i))/\(∀q,ax av q->C3<=q)/\af (fun q=>q=b3\/C3<=q) Y Z) NA ?_ ?_
    ·exact⟨0,_,by omega,by omega,by rfl,BY,bT.nil _,fun q h=>h.elim,af.refl _ _⟩
    rintro m g3 Z ⟨j,av,hj,rfl,OQ,BZ,OZ,oZ,KZ⟩;have sZ:=KZ.size;have K3Z:af (fun q=>q=b3\/C<=q) H3 Z:=K3Y.trans (KZ.mono fun q _ h=>by omega);simp-implicitDefEqProofs only[go_sem,zS,↓reduceIte,Za,Zb,Zc,reduceCtorEq,ae]at OQ;rw[jF];refine TL (n:=i) (len:=r.sa.length) (i:=j) (by rfl) (by rfl) (by simp-implicitDefEqProofs only[go_sem,↓reduceIte,Za,Zb,Zc,reduceCtorEq,ae,Zf,Zg,Zh,Zi,Zd,Ze,OQ]) (W0 K3Z) rfl R8.aq R8.len (fun hj1 Mv=>?_) (fun hnj=>?_)
    ·rw[if_pos Mv]at hNA;have xa:j<r.sa.length:=by omega
     obtain⟨saZ,sbZ⟩:=raw R8 K3Z;simp-implicitDefEqProofs only[go_sem,↓reduceIte,Za,Zb,Zc,reduceCtorEq,ae,Zf,Zg,Zh,Zi,Zd,Ze];refine TG (n:=i) (i:=j) hp (by rfl) (by rfl) (by rfl) (by simp-implicitDefEqProofs only[go_sem,↓reduceIte,Za,Zb,Zc,reduceCtorEq,ae,Zf,Zg,Zh,Zi,Zd,Ze,OQ]) Mv (by omega) (by rw[List.length_map,List.length_take];omega) (W0 K3Z) saZ xa BZ (by omega) (by omega:b3<C3) sbZ (by omega) OZ oZ fun v' X' O' o' B' K'=>?_;simp-implicitDefEqProofs (disch:=omega)only[go_sem,↓reduceIte,Za,Zb,Zc,reduceCtorEq,ae,Zf,Zg,Zh,Zi,Zd,Ze,OQ,IntWalk.i64_in];refine⟨NA -(j+1),by omega,j+1,v',by omega,rfl,rfl,B',?_,o',KZ.trans K'⟩;rw[cW xa,List.map_append];exact O'
    ·have uj:j=NA:=by rw[hNA]at hj⊢;split at hj<;>split<;>omega
     have eA:(r.sa.take j).map (gy i)=(dt r).sa:=by
      rw[uj,hNA];simp only[dt,<-hne]
      split
      ·congr 1
       by_cases h6:r.sa.length<=3
       ·rw[List.take_of_length_le (by omega),List.take_of_length_le h6]
       ·rw[show min r.sa.length 3=3 by omega]
      ·simp
     rw[eA]at OZ;have TP:∀q,ax av q->C3<=q/\q<Z.size:=fun q hq=>⟨oZ q hq,OZ.bj hq⟩
     have OSZ:=OSY.ai KZ fun q hq h=>by have:=oS q hq;omega
     have OBZ:=OBY.ai KZ fun q hq h=>by have:=oB q hq;omega
     have ODZ:=OY.ai KZ fun q hq h=>by have:=oD q hq;omega
     obtain⟨C4,hC4⟩:∃C4,C4=Z.size:=⟨_,rfl⟩
     rw[<-hC4]at TP;have afQ:C3<=C4:=by omega
     clear hj hnj uj eA OQ KZ;obtain⟨NM,hNM⟩:∃NM,NM=min r.mo.length 3:=⟨_,rfl⟩
     simp-implicitDefEqProofs only[go_sem,↓reduceIte,Za,Zb,Zc,reduceCtorEq,ae,Zf,Zg,Zh,Zi,Zd,Ze];refine aS [147,12,162,11] rfl (fun m f T=>∃(j:Nat) (mv:Value),j<=NM/\m=NM -j/\f 11=.int .i64 (j:Int)/\Bl T b3 [sv,bv,dv,av,mv]/\bT mP 2 T mv ((r.mo.take j).map (OI i))/\(∀q,ax mv q->C4<=q)/\af (fun q=>q=b3\/C4<=q) Z T) NM ?_ ?_
     ·exact⟨0,_,by omega,by omega,by rfl,BZ,bT.nil _,fun q h=>h.elim,af.refl _ _⟩
     rintro m g4 T ⟨j,mv,hj,rfl,FT,BT,OT,oT,KT⟩;have sT:=KT.size;have OR:af (fun q=>q=b3\/C<=q) H3 T:=K3Z.trans (KT.mono fun q _ h=>by omega);simp-implicitDefEqProofs only[go_sem,zS,↓reduceIte,Za,Zb,Zc,reduceCtorEq,ae]at FT;rw[jF];refine TM (len:=r.mo.length) (i:=j) (by rfl) (by simp-implicitDefEqProofs only[go_sem,↓reduceIte,Za,Zb,Zc,reduceCtorEq,ae,Zf,Zg,Zh,Zi,Zd,Ze,FT]) (W0 OR) rfl hmo.aq hmo.len (fun hj1=>?_) (fun hnj=>?_)
     ·have xa:j<r.mo.length:=by omega
      obtain⟨moT,mbT⟩:=raw hmo OR;obtain⟨pb,po,pc,gz,nz,hld⟩:=moT.elem lO xa;obtain⟨x,hx⟩:∃x,x=r.mo[j]:=⟨_,rfl⟩
      rw[<-hx]at hld;have c1:cell T ⟨pb,po+j*2+1,none⟩=some (.int .u8 x.2.toNat):=xE hld (j:=1) (by omega);have c2:cell T ⟨b1,5,none⟩=some mo:=by rw[(W0 OR).cell];rfl
      have c2':=c2;rw[gz]at c2';have Xb:=x.2.toNat_lt;have w1:IntKind.u64.wrap (x.2.toNat:Int)=((UInt64.ofNat x.2.toNat).toNat:Int):=by
       rw[IntKind.wrap_u64,UInt64.toNat_ofNat'];omega
      have hand:bits .and .u64 ((UInt64.ofNat x.2.toNat).toNat:Int) ((allM i).toNat:Int)=((UInt64.ofNat x.2.toNat&&&allM i).toNat:Int):=lq _ _;have tail:∀(g5:Fr) (mm:UInt64),mm=Zn i x->g5 1=.pointer (some ⟨b1,0,none⟩)->g5 3=.pointer (some ⟨b3,0,none⟩)->g5 11=.int .i64 (j:Int)->g5 12=.int .u64 mm.toNat->∀Qb,(∀v' X',bT mP 2 X' v' ((r.mo.take (j+1)).map (OI i))->(∀q,ax v' q->C4<=q)->Bl X' b3 [sv,bv,dv,av,v']->af (fun q=>q=b3\/C4<=q) Z X'->Qb .n g5 X')->vc P (zK ι) Qb g5 T:=fun g5 mm hmm q1 q3 q11 q12 Qb hQb=>
       TH (m:=mm) q1 q3 q11 q12 (by rw[List.length_map,List.length_take];omega) (W0 OR) moT xa BT (by omega) (by omega:b3<C4) mbT (by omega) OT oT fun v' X' O' o' B' K'=>hQb v' X' (by rw[cW xa,List.map_append,<-hx];rw[hmm,<-hx]at O';exact O') o' B' (KT.trans K')
      have OV:((i:Int)).toNat=i:=by omega
      have h64:((IntKind.u64.bits:Nat):Int)=64:=rfl;simp-implicitDefEqProofs only[go_sem,↓reduceIte,Za,Zb,Zc,reduceCtorEq,ae,Zf,Zg,Zh,Zi,Zd,Ze,FT,c2',ak,c1,w1,OV,aew i (by omega),hand];have aex:∀y:UInt64,(((y.toNat:Int))==0)=decide (y=0):=fun y=>by
       rw[Bool.eq_iff_iff];simp only[beq_iff_eq,decide_eq_true_eq]
       constructor
       ·intro h;apply UInt64.toNat_inj.1;have:y.toNat=0:=by omega
        rw[this];rfl
       ·rintro rfl;rfl
      rw[aex];refine⟨by omega,by omega,aL (fun h0=>⟨by omega,?_⟩) (fun h0=>?_)⟩
      ·refine tail _ (allM i) (by unfold Zn;rw[if_pos h0]) (by rfl) (by rfl) (by simp-implicitDefEqProofs only[go_sem,↓reduceIte,Za,Zb,Zc,reduceCtorEq,ae,Zf,Zg,Zh,Zi,Zd,Ze,FT]) (by rfl) _ fun v' X' O' o' B' K'=>?_;simp-implicitDefEqProofs (disch:=omega)only[go_sem,↓reduceIte,Za,Zb,Zc,reduceCtorEq,ae,Zf,Zg,Zh,Zi,Zd,Ze,FT,IntWalk.i64_in];exact⟨NM -(j+1),by omega,j+1,v',by omega,rfl,rfl,B',O',o',K'⟩
      ·refine tail _ (UInt64.ofNat x.2.toNat&&&allM i) (by unfold Zn;rw[if_neg h0]) (by rfl) (by rfl) (by simp-implicitDefEqProofs only[go_sem,↓reduceIte,Za,Zb,Zc,reduceCtorEq,ae,Zf,Zg,Zh,Zi,Zd,Ze,FT]) (by rfl) _ fun v' X' O' o' B' K'=>?_;simp-implicitDefEqProofs (disch:=omega)only[go_sem,↓reduceIte,Za,Zb,Zc,reduceCtorEq,ae,Zf,Zg,Zh,Zi,Zd,Ze,FT,IntWalk.i64_in];exact⟨NM -(j+1),by omega,j+1,v',by omega,rfl,rfl,B',O',o',K'⟩
     ·have uj:j=NM:=by omega
      have eM:(r.mo.take j).map (OI i)=(dt r).mo:=by
       rw[uj,hNM];simp only[dt,<-hne]
       congr 1
       by_cases h6:r.mo.length<=3
       ·rw[List.take_of_length_le (by omega),List.take_of_length_le h6]
       ·rw[show min r.mo.length 3=3 by omega]
      rw[eM]at OT;have oM:∀q,ax mv q->C4<=q:=oT;have Xc:=OSZ.ai KT fun q hq h=>by have:=oS q hq;omega
      have Zt:=OBZ.ai KT fun q hq h=>by have:=oB q hq;omega
      have Zu:=ODZ.ai KT fun q hq h=>by have:=oD q hq;omega
      have Zv:=OZ.ai KT fun q hq h=>by have:=TP q hq;omega
      have eS:uV r i=(dt r).st:=by simp only[dt,<-hne]
      rw[eS]at Xc;have B2T:=OR.bl xy (by omega);simp-implicitDefEqProofs only[go_sem,↓reduceIte,Za,Zb,Zc,reduceCtorEq,ae,Zf,Zg,Zh,Zi,Zd,Ze,BT.aM 5 rfl];have one:([sv,bv,dv,av,mv].all fun v=>v.oneCell')=true:=by
       obtain⟨_,_,_,rfl⟩:=Xc.shape;obtain⟨_,_,_,rfl⟩:=Zt.shape;obtain⟨_,_,_,rfl⟩:=Zu.shape;obtain⟨_,_,_,rfl⟩:=Zv.shape;obtain⟨_,_,_,rfl⟩:=OT.shape
       rfl
      refine FE (n:=5) (cs:=[sv,bv,dv,av,mv]) B2T rfl rfl one fun HZ zz BZ2 tn=>?_;rw[hQ];have afR:∀q,C<=q->q≠b2:=fun q h e=>by omega
      refine⟨⟨_,_,_,_,_,rfl,(Xc.sl.ai tn fun q hq e=>?_),(Zt.sl.ai tn fun q hq e=>?_),(Zu.sl.ai tn fun q hq e=>?_),(Zv.sl.ai tn fun q hq e=>?_),(OT.sl.ai tn fun q hq e=>?_)⟩,?_,?_⟩
      ·have:=oS q (Xc.aT hq);omega
      ·have:=oB q (Zt.aT hq);omega
      ·have:=oD q (Zu.aT hq);omega
      ·have:=TP q (Zv.aT hq);omega
      ·have:=oM q (OT.aT hq);omega
      ·rintro q ⟨c,hc,hq⟩;have hc:c∈[sv,bv,dv,av,mv]:=hc;simp only[List.mem_cons,List.not_mem_nil,or_false]at hc;rcases hc with rfl|rfl|rfl|rfl|rfl
       ·have:=oS q (Xc.aT hq);omega
       ·have:=oB q (Zt.aT hq);omega
       ·have:=oD q (Zu.aT hq);omega
       ·have:=TP q (Zv.aT hq);omega
       ·have:=oM q (OT.aT hq);omega
      ·have KHT:af (fun _=>False) H T:=gg.trans' OR fun q hq h=>by omega
       exact KHT.trans' tn fun q hq e=>by omega
end Go.Mg

/- Lemmas of ours. No conditions. -/
import Derived.Test.YteeemadonfcliabGreatDoorMgP5
import Derived.Test.YteeemadonfcliabGreatDoorMgN1
import Derived.Test.YteeemadonfcliabGreatDoorMgLp
open Nat renaming reduceEqDiff→Za,reduceAdd→Zb,reduceMul→Zc,reduceLeDiff→Zd,reduceLT→Ze
open Int renaming reduceBEq→Zf,reduceBNe→Zg,reduceLE→Zh,reduceLT→Zi
set_option linter.all false
set_option maxRecDepth 100000
namespace Go.Mg
abbrev wx:=List UInt8×Int
abbrev eH:=Int×Int
abbrev yi:=Int×UInt64
structure dz where
 st:List wx
 be:List eH
 di:List eH
 sa:List eH
 mo:List yi
def ju (a b:Int):Int:=if a=0 then b else a
theorem eC (b:Int):ju 0 b=b:=rfl
variable {a roles:Int} {n k:Nat} {p:Nat->Bool} {R:Nat->Nat->Bool}
theorem ox (b:Int) (h:a≠0):ju a b=a:=if_neg h
theorem ja {b:Int}:ju a b=0↔a=0/\b=0:=by
 unfold ju;split
 ·next h=>simp[h]
 ·next h=>simp[h]
def zx (n:Nat) (x:eH):Bool:=decide (x.1<0)||decide ((n:Int)<=x.1)||decide (x.2<0)||decide ((n:Int)<=x.2)
def mP (n:Nat) (x:eH):Int:=if zx n x=true then 2 else if x.1=x.2 then 1 else 0
def jq (n:Nat):List eH->Int
 |[]=>0
 |x::l=>ju (mP n x) (jq n l)
theorem wy (n:Nat):∀(l m:List eH),jq n (l++m)=ju (jq n l) (jq n m)
 |[],m=>rfl
 |x::l,m=>by
  simp only[List.cons_append,jq,wy n l m];unfold ju;split<;>rfl
theorem Jd {n:Nat}:∀{l:List eH},jq n l=0↔∀x∈l,mP n x=0
 |[]=>by simp[jq]
 |x::l=>by simp[jq,ja,Jd (l:=l)]
theorem Je {x : eH} : mP n x = 0 ↔ l8 (n : Int) x /\ x.1 ≠ x.2 := by
  unfold mP zx l8
  split
  · next h =>
    simp only [Bool.or_eq_true, decide_eq_true_eq] at h
    constructor
    · intro h; omega
    · rintro ⟨⟨_, _, _, _⟩, _⟩; omega
  · next h =>
    simp only [Bool.or_eq_true, decide_eq_true_eq] at h
    split
    · next h2 => constructor
                 · intro h; omega
                 · rintro ⟨_, h3⟩; exact absurd h2 h3
    · next h2 => exact ⟨fun _ => ⟨by omega, h2⟩, fun _ => rfl⟩
def pP (roles:Int) (p:Nat->Bool) (l:List wx) (x:wx):Int:=
 if cI x.1=false then 9 else if(l.any fun y=>decide (y.1=x.1))=true then 5 else if x.2<1\/roles<x.2\/bS p x.2=true then 10 else 0
def zy (roles:Int) (p:Nat->Bool) (l:List wx):Nat->Int
 |0=>0
 |k+1=>ju (zy roles p l k) (pP roles p (l.take k) (l.getD k ([],0)))
theorem Jf {l : List wx} (h : zy roles p l k ≠ 0) : ∀ m, k <= m -> zy roles p l m = zy roles p l k
  | m, hm => by
    induction m with
    | zero => have : k = 0 := by omega
              subst this; rfl
    | succ m ih =>
      by_cases e : k = m + 1
      · rw [e]
      · have := ih (by omega);rw [zy, this, ox _ h]
theorem Q6 {roles:Int} {p:Nat->Bool} {l:List wx}:∀{k:Nat},zy roles p l k=0↔∀i<k,pP roles p (l.take i) (l.getD i ([],0))=0
 |0=>by simp[zy]
 |k+1=>by
  rw[zy,ja,Q6 (k:=k)]
  constructor
  ·rintro⟨h1,h2⟩ i hi
   by_cases e:i=k
   ·rw[e];exact h2
   ·exact h1 i (by omega)
  ·exact fun h=>⟨fun i hi=>h i (by omega),h k (by omega)⟩
def pQ (n:Nat) (x:yi):Int:=if x.1<1\/10<x.1\/x.2=0\/2^n<=x.2.toNat then 2 else 0
def rM (n:Nat):List yi->Int
 |[]=>0
 |x::l=>ju (pQ n x) (rM n l)
theorem Q7 {n:Nat}:∀{l:List yi},rM n l=0↔∀x∈l,pQ n x=0
 |[]=>by simp[rM]
 |x::l=>by simp[rM,ja,Q7 (l:=l)]
def mQ (f:dz):Prop:=10<f.st.length\/20<f.be.length\/20<f.di.length\/20<f.sa.length\/20<f.mo.length
instance (f:dz):Decidable (mQ f):=by unfold mQ;infer_instance
noncomputable def Gg (R:Nat->Nat->Bool):Int:=@ite _ (AX R) (Classical.propDecidable _) 0 16
theorem Cg (h:AX R):Gg R=0:=if_pos h
theorem Jg (h:¬AX R):Gg R=16:=if_neg h
noncomputable def ef (f:dz) (roles:Int) (p:Nat->Bool):Int:=
 if f.st=[]then 4 else if mQ f then 3 else
 ju (zy roles p f.st f.st.length) (ju (jq f.st.length f.be) (ju (jq f.st.length f.di) (ju (jq f.st.length f.sa) (ju (rM f.st.length f.mo) (Gg (lP f.be))))))
structure Good (f:dz):Prop where
 ne:f.st≠[]
 lim:¬mQ f
 be:∀x∈f.be,l8 (f.st.length:Int) x/\x.1≠x.2
 di:∀x∈f.di,l8 (f.st.length:Int) x/\x.1≠x.2
 sa:∀x∈f.sa,l8 (f.st.length:Int) x/\x.1≠x.2
 mo:∀x∈f.mo,pQ f.st.length x=0
 acy:AX (lP f.be)
theorem Jh {f:dz}:ef f roles p=0↔Good f/\∀i<f.st.length,pP roles p (f.st.take i) (f.st.getD i ([],0))=0:=by
 unfold ef
 split
 ·next h=>exact⟨fun h=>by omega,fun h'=>absurd h h'.1.ne⟩
 ·next h=>
  split
  ·next h2=>exact⟨fun h=>by omega,fun h'=>absurd h2 h'.1.lim⟩
  ·next h2=>
   simp only[ja,Q6,Jd,Q7,Je]
   constructor
   ·rintro⟨a,b,c,d,e,g⟩;refine⟨⟨h,h2,b,c,d,e,?_⟩,a⟩;apply Classical.byContradiction;intro hn;rw[Jg hn]at g;omega
   ·rintro⟨a,b⟩;exact⟨b,a.be,a.di,a.sa,a.mo,Cg a.acy⟩
theorem Good.lt {f:dz} (h:Good f):f.st.length<=10:=by have:=h.lim;unfold mQ at this;omega
def jO (be:List eH) (d:Nat->Bool) (k:Nat):Bool:=be.any fun x=>decide (x.2=(k:Int))&&!bS d x.1
def jb (n:Nat) (be:List eH) (d:Nat->Bool):List Nat:=(List.range n).filter fun k=>!jO be d k&&!bS d (k:Int)
theorem fZ {d:Nat->Bool} (hk:k<=4095):bS d (k:Int)=d k:=by
 unfold bS;rw[decide_eq_true (by omega),decide_eq_true (by omega),Int.toNat_natCast,Bool.true_and,Bool.true_and]
def sI (s:List Int) (a:Int):Int:=s.getD a.toNat 0
def ft (s:List Int) (x:eH):Bool:=decide (sI s x.1≠0)&&decide (sI s x.1=sI s x.2)
def fu (s:List Int) (x:eH):Bool:=decide (sI s x.1≠0)&&decide (sI s x.2≠0)&&decide (sI s x.1≠sI s x.2)
def Q8 (s:List Int) (m:UInt64) (u:Int) (n:Nat):Nat:=cn n fun k=>bt m k&&decide (s.getD k 0=u)
def iy (s:List Int) (x:yi):Bool:=s.any fun u=>decide (u≠0)&&decide (x.1<(Q8 s x.2 u s.length:Int))
def jP (f:dz) (s:List Int):Nat×Nat:=
 match f.di.findIdx? (ft s)with
 |some i=>(1,i)
 |none=>match f.sa.findIdx? (fu s)with
  |some i=>(2,i)
  |none=>match f.mo.findIdx? (iy s)with
   |some i=>(3,i)
   |none=>(0,0)
def pR (n:Nat) (s:List Int):Bool:=(s.all fun u=>decide (0<=u)&&decide (u<=256))&&decide (s.length=n)
structure cQ where
 n:Nat
 ro:List UInt8
 be:List (UInt8×UInt8)
 di:List (UInt8×UInt8)
 sa:List (UInt8×UInt8)
 mo:List (UInt8×UInt8)
 el:List UInt8
def rN (r:cQ):Nat:=1+r.n % 5
def NY (n:Nat) (x:UInt8×UInt8):Nat×Nat:=(x.1.toNat % n,if x.1.toNat % n=x.2.toNat % n then(x.1.toNat % n+1) % n else x.2.toNat % n)
def fG (n:Nat) (x:UInt8×UInt8):eH:=(((NY n x).1:Nat),((NY n x).2:Nat))
def Gh (x:eH):eH:=if x.2<x.1 then(x.2,x.1)else x
def EZ (k:Nat):List UInt8:=[115,UInt8.ofNat (48+k)]
def Gi (l:List UInt8) (k:Nat):Int:=if k<l.length then 1+((l.getD k 0).toNat % 4:Nat)else 1
def rO (r:cQ) (m:Nat):List wx:=(List.range m).map fun k=>(EZ k,Gi r.ro k)
def allM (n:Nat):UInt64:=UInt64.ofNat (2^n -1)
def Tp (n:Nat) (x:UInt8×UInt8):UInt64:=if UInt64.ofNat x.2.toNat&&&allM n=0 then allM n else UInt64.ofNat x.2.toNat&&&allM n
def Ji (n:Nat) (x:UInt8×UInt8):yi:=(1+((x.1.toNat % 3:Nat):Int),Tp n x)
def bT (r:cQ):dz where
 st:=rO r (rN r)
 be:=if 1<rN r then(r.be.take 6).map fun x=>Gh (fG (rN r) x)else[]
 di:=if 1<rN r then(r.di.take 6).map (fG (rN r))else[]
 sa:=if 1<rN r then(r.sa.take 3).map (fG (rN r))else[]
 mo:=(r.mo.take 3).map (Ji (rN r))
theorem gg (r:cQ):1<=rN r/\rN r<=5:=by unfold rN;omega
theorem dm (r:cQ):(bT r).st.length=rN r:=by simp[bT,rO]
theorem Tq (h:1<n) (x:UInt8×UInt8):(NY n x).1<n/\(NY n x).2<n/\(NY n x).1≠(NY n x).2:=by
 unfold NY;have h1:x.1.toNat % n<n:=Nat.mod_lt _ (by omega);have h2:x.2.toNat % n<n:=Nat.mod_lt _ (by omega);refine⟨h1,?_,?_⟩
 ·simp only;split
  ·exact Nat.mod_lt _ (by omega)
  ·exact h2
 ·simp only;split
  ·by_cases h3:x.1.toNat % n+1<n
   ·rw[Nat.mod_eq_of_lt h3];omega
   ·rw[show x.1.toNat % n+1=n by omega,Nat.mod_self];omega
  ·assumption
theorem wz (h:1<n) (x:UInt8×UInt8):l8 (n:Int) (fG n x)/\(fG n x).1≠(fG n x).2:=by
 obtain⟨h1,h2,h3⟩:=Tq h x;unfold fG l8;simp only;omega
theorem Jj {x:eH} (h:l8 (n:Int) x/\x.1≠x.2):l8 (n:Int) (Gh x)/\(Gh x).1<(Gh x).2:=by
 obtain⟨⟨h1,h2,h3,h4⟩,h5⟩:=h;unfold Gh l8
 split
 ·simp only;omega
 ·exact⟨⟨h1,h2,h3,h4⟩,by omega⟩
theorem Ch (h:n<=5):(allM n).toNat=2^n -1:=by
 have:∀m:Fin 6,(allM m.val).toNat=2^m.val -1:=by decide
 exact this ⟨n,by omega⟩
theorem Tr (h1:1<=n) (h:n<=5) (x:UInt8×UInt8):Tp n x≠0/\(Tp n x).toNat<2^n:=by
 have ha:=Ch h;have hp:2<=2^n:=by
  have:=Nat.pow_le_pow_right (show 0<2 by omega) h1;simpa using this
 unfold Tp
 split
 ·refine⟨fun e=>?_,by omega⟩;rw[e]at ha;simp at ha;omega
 ·next hne=>
  refine⟨hne,?_⟩;rw[UInt64.toNat_and,ha];exact Nat.lt_of_le_of_lt Nat.and_le_right (by omega)
theorem pz {L:List eH} (h:∀x∈L,x.1<x.2):AX (lP L):=by
 have:∀a b,Tc (lP L) a b->a<b:=fun a b hab=>by
  induction hab with
  |one k=>have:=h _ (of_decide_eq_true k);simp only at this;omega
  |more k _ ih=>have:=h _ (of_decide_eq_true k);simp only at this;omega
 exact fun a h=>by have:=this a a h;omega
theorem mR (r:cQ):Good (bT r):=by
 obtain⟨z1,z2⟩:=gg r;have hl:=dm r;refine⟨fun e=>by rw[e]at hl;simp at hl;omega,?_,?_,?_,?_,?_,?_⟩
 ·unfold mQ;rw[hl];simp only[bT]
  split<;>simp[List.length_take]<;>omega
 ·intro x hx;rw[hl];simp only[bT]at hx
  split at hx
  ·next h1=>
   obtain⟨y,_,rfl⟩:=List.mem_map.1 hx;obtain⟨a,b⟩:=Jj (wz h1 y);exact⟨a,by omega⟩
  ·simp at hx
 ·intro x hx;rw[hl];simp only[bT]at hx
  split at hx
  ·next h1=>obtain⟨y,_,rfl⟩:=List.mem_map.1 hx;exact wz h1 y
  ·simp at hx
 ·intro x hx;rw[hl];simp only[bT]at hx
  split at hx
  ·next h1=>obtain⟨y,_,rfl⟩:=List.mem_map.1 hx;exact wz h1 y
  ·simp at hx
 ·intro x hx;rw[hl];obtain⟨y,_,rfl⟩:=List.mem_map.1 hx;obtain⟨a,b⟩:=Tr z1 z2 y;unfold pQ Ji;rw[if_neg];rintro(h|h|h|h)
  ·simp only at h;omega
  ·simp only at h;omega
  ·exact a h
  ·simp only at h;omega
 ·refine pz fun x hx=>?_;simp only[bT]at hx
  split at hx
  ·next h1=>obtain⟨y,_,rfl⟩:=List.mem_map.1 hx;exact(Jj (wz h1 y)).2
  ·simp at hx
theorem Gj (h:k<5):cI (EZ k)=true:=by
 have:∀m:Fin 5,cI (EZ m.val)=true:=by decide+kernel
 exact this ⟨k,h⟩
theorem NZ {i:Nat} (h1:i<5) (h2:k<5) (h:EZ i=EZ k):i=k:=by
 have:∀a b:Fin 5,EZ a.val=EZ b.val->a.val=b.val:=by decide+kernel
 exact this ⟨i,h1⟩ ⟨k,h2⟩ h
theorem Ts (l:List UInt8) (k:Nat):1<=Gi l k/\Gi l k<=4:=by
 unfold Gi;split<;>omega
theorem N0 (r:cQ) (h4:4<=roles) (hp:∀k,1<=k->k<=4->p k=false) (i:Nat) (hi:i<(bT r).st.length):pP roles p ((bT r).st.take i) ((bT r).st.getD i ([],0))=0:=by
 have hl:=dm r;obtain⟨z1,z2⟩:=gg r;rw[hl]at hi;have hg:∀j<rN r,(bT r).st.getD j ([],0)=(EZ j,Gi r.ro j):=fun j hj=>by
  simp only[bT,rO,List.getD_eq_getElem?_getD,List.getElem?_map,List.getElem?_range hj,Option.map_some,Option.getD_some]
 rw[hg i hi];unfold pP;rw[if_neg (by rw[Gj (by omega)];simp),if_neg,if_neg]
 ·obtain⟨r1,r2⟩:=Ts r.ro i;rintro(h|h|h)
  ·simp only at h;omega
  ·simp only at h;omega
  ·obtain⟨q,hq⟩:∃q:Nat,Gi r.ro i=(q:Int):=⟨(Gi r.ro i).toNat,by omega⟩
   simp only[hq]at h;rw[fZ (by omega),hp q (by omega) (by omega)]at h
   cases h
 ·intro h;simp only[List.any_eq_true,decide_eq_true_eq]at h;obtain⟨y,hy,e⟩:=h;obtain⟨j,hj,rfl⟩:=List.getElem_of_mem hy;have uy:j<i:=by rw[List.length_take]at hj;omega
  have:=hg j (by omega);rw[List.getD_eq_getElem?_getD,List.getElem?_eq_getElem (by omega)]at this;rw[List.getElem_take]at e;simp only[Option.getD_some]at this;rw[this]at e;have:=NZ (by omega) (by omega) e;omega
theorem N1 (r:cQ) (h4:4<=roles) (hp:∀k,1<=k->k<=4->p k=false):ef (bT r) roles p=0:=Jh.2 ⟨mR r,N0 r h4 hp⟩
end Go.Mg
namespace Go.Mg
open Go Go.RowKit
def wA (ι:aC):S:=
 kY [kC 2 (kZ)] (kY [kC 3 (kZ)] (.seq (kY [kC 4 (.int .i64 0)] (.blk 0 (.loop (.seq (kY [kA 5 4,kV 6 (.cm .lss .i64 (.t 5) (.c (.int .i64 64)))] (.ite (.v 6) .skip (.exit 0))) (.seq (.blk 1 (kY [kA 9 0,kA 10 4,kU 11 (.sh .shr .u64 (.t 9) (.t 10)),kU 12 (.dv .rem .u64 (.t 11) (.c (.int .u64 2))),kV 13 (.cm .eql .u64 (.t 12) (.c (.int .u64 1)))] (.ite (.v 13) (.reg [kA 14 3,kA 15 4,kc 16 (.bF (ι.t 26) 1 1 [.t 15]),kc 17 (.app false (ι.t 26) 1 8 #[.int .i64 0] (.t 14) (.t 16)),kB 3 17]) .skip))) (.reg [kA 7 4,kU 8 (.ar .add .i64 (.t 7) (.c (.int .i64 1))),kB 4 8])))))) (kY [kA 18 3,kB 2 18] .ret)))
def wB:List RV:=[.t 2]
def rP (ι:aC):S:=
 kY [kd 2 (.new (ι.t 128) #[kZ])] (kY [kA 3 0,kc 4 (kg (ι.f 282) [.t 3]),kc 5 (kg (ι.f 143) [.t 4]),kf (.stn 1 (.v 2) (.t 5))] .ret)
def rQ:List RV:=[.cn 2 1]
def rR (ι:aC):S:=
 kY [kC 4 (.int .i64 0)] (.seq (kY [kV 7 (.mv (.v 0)),kO 8 7,kC 9 (.int .i64 0)] (.blk 0 (.loop (kY [kH 10 9 8] (.seq (.ite (.v 10) .skip (.exit 0)) (.seq (.blk 1 (kY [kK 11 2 7 9,kN 12 2 11,kd 6 (.new (ι.t 194) #[.int .i64 0,.int .i64 0]),kf (.stn 2 (.v 6) (.t 12))] (.seq (kY [kP 13 2 1 6 0,kD 14 13,kU 15 (.cm .lss .i64 (.t 14) (.c (.int .i64 0))),kF 16 15,kT 17 16 false (.ia 2 1 (.v 6) (.c (.int .i64 0))),kT 18 16 false (.ld (.t 17)),kS 19 16 false 1,kT 20 16 false (.cm .geq .i64 (.t 18) (.t 19)),kU 21 (.pick (.t 16) (.c (.bool true)) (.t 20)),kF 22 21,kT 23 22 false (.ia 2 1 (.v 6) (.c (.int .i64 1))),kT 24 22 false (.ld (.t 23)),kT 25 22 false (.cm .lss .i64 (.t 24) (.c (.int .i64 0))),kU 26 (.pick (.t 22) (.c (.bool true)) (.t 25)),kF 27 26,kT 28 27 false (.ia 2 1 (.v 6) (.c (.int .i64 1))),kT 29 27 false (.ld (.t 28)),kS 30 27 false 1,kT 31 27 false (.cm .geq .i64 (.t 29) (.t 30)),kV 32 (.pick (.t 27) (.c (.bool true)) (.t 31))] (.ite (.v 32) (kY [kC 4 (.int .i64 2)] .ret) .skip)) (kY [kP 33 2 1 6 0,kD 34 33,kP 35 2 1 6 1,kD 36 35,kV 37 (.cm .eql .i64 (.t 34) (.t 36))] (.ite (.v 37) (kY [kC 4 (.int .i64 1)] .ret) .skip))))) (.reg [ke 38 9,kB 9 38]))))))) (kY [kC 4 (.int .i64 0)] .ret))
def rS:List RV:=[.t 4]
def wC (ι:aC):S:=
 kY [kR 2 (ι.t 49) 0,kd 4 (.new (ι.t 194) #[.int .i64 0,.int .i64 0])] (kY [kP 7 2 1 2 0,kD 8 7,kU 9 (.ii .i64 (.t 8)),kA 10 1,kU 11 (.dv .rem .i64 (.t 9) (.t 10)),kB 5 11] (kY [kP 12 2 1 2 1,kD 13 12,kU 14 (.ii .i64 (.t 13)),kA 15 1,kU 16 (.dv .rem .i64 (.t 14) (.t 15)),kB 6 16] (.seq (kY [kA 17 5,kA 18 6,kV 19 (.cm .eql .i64 (.t 17) (.t 18))] (.ite (.v 19) (.reg [kA 20 5,kU 21 (.ar .add .i64 (.t 20) (.c (.int .i64 1))),kA 22 1,kU 23 (.dv .rem .i64 (.t 21) (.t 22)),kB 6 23]) .skip)) (kY [kA 24 5,kA 25 6,kU 26 (.m (.gz #[.int .i64 0,.int .i64 0] [(0,(1,.t 24)),(1,(1,.t 25))])),kf (.stn 2 (.v 4) (.t 26))] .ret))))
def wD:List RV:=[.cn 4 2]
def Ci (ι:aC):S:=
 kY [kC 2 (.string ⟨#[]⟩)] (.seq (kY [kA 3 0,kV 4 (.cm .lss .i64 (.t 3) (.c (.int .i64 10)))] (.ite (.v 4) (kY [kA 5 0,kU 6 (.ar .add .i64 (.c (.int .i64 48)) (.t 5)),kU 7 (.ii .u8 (.t 6)),kc 8 (.bF (ι.t 19) 1 1 [.t 7]),kU 9 (.m (.b2s (.t 8))),kB 2 9] .ret) .skip)) (.seq (.dr (kW 10 (.mv (.v 0)) (kW 11 (.dv .quo .i64 (.t 10) (.c (.int .i64 10))) (kW 13 (.mv (.v 0)) (kW 14 (.dv .rem .i64 (.t 13) (.c (.int .i64 10))) (kW 15 (.ar .add .i64 (.c (.int .i64 48)) (.t 14)) (kW 16 (.ii .u8 (.t 15)) (ka 12 (kg (ι.f 287) [.t 11]) (ka 17 (.bF (ι.t 19) 1 1 [.t 16]) (kW 18 (.m (.b2s (.t 17))) (kW 19 (.sadd (.t 12) (.t 18)) (kX 2 (.mv (.t 19)) .done))) .wnil) (ka 17 (.bF (ι.t 19) 1 1 [.t 16]) (kW 18 (.m (.b2s (.t 17))) (ka 12 (kg (ι.f 287) [.t 11]) (kW 19 (.sadd (.t 12) (.t 18)) (kX 2 (.mv (.t 19)) .done)) .wnil)) .wnil))))))))) .ret))
def Cj:List RV:=[.t 2]
theorem N3 (x:UInt64) (i:Nat):((((x.toNat:Int)/2^i).tmod 2)==1)=bt x i:=by
 have e:((x.toNat:Int)/2^i)=((x.toNat/2^i:Nat):Int):=by simp
 have e2:(((x.toNat/2^i:Nat):Int)).tmod 2=((x.toNat/2^i % 2:Nat):Int):=cY _ 2;rw[e,e2];unfold bt;rw[Nat.testBit_eq_decide_div_mod_eq];rw[Bool.eq_iff_iff];simp only[beq_iff_eq,decide_eq_true_eq];omega
def uJ (P:Program) (k:FuncId):Prop:=∀(x:UInt64) (H:Hp),ak P k #[.int .u64 x.toNat] H fun r H'=>bY H' r (iN ((List.range 64).filter (bt x)))/\(∀q,ay r q->H.size<=q)/\af (fun _=>False) H H'
variable {P:Program} {ι:aC} {k:FuncId} {n i:Nat} {l:List eH}
theorem Jk (hk:an P k (wA ι) wB 1):uJ P k:=by
 intro x H;refine qI fun Q hQ=>?_;refine ah hk (args:=[_]) (by simp) ?_;unfold wA wB kA kB kC kU kV kc kY kZ;simp-implicitDefEqProofs only[go_sem,zS,↓reduceIte,Za,Zb,Zc,reduceCtorEq,ae];refine aP [6,13,3,4] rfl (fun m f A=>∃(i:Nat) (v:Value),i<=64/\m=64 -i/\f 4=.int .i64 (i:Int)/\f 3=v/\bY A v (iN ((List.range i).filter (bt x)))/\(∀q,ay v q->H.size<=q)/\af (fun _=>False) H A) 64 ?_ ?_
 ·exact⟨0,_,by omega,by omega,by simp-implicitDefEqProofs only[go_sem,zS,↓reduceIte,Za,Zb,Zc,reduceCtorEq,ae];rfl,by simp-implicitDefEqProofs only[go_sem,zS,↓reduceIte,Za,Zb,Zc,reduceCtorEq,ae],bY.nil _,fun q h=>h.elim,af.refl _ _⟩
 rintro m f A ⟨i,v,hi,rfl,Mv,uD,hO,ho,hK⟩;have sA:=hK.size;simp-implicitDefEqProofs only[go_sem,zS,↓reduceIte,Za,Zb,Zc,reduceCtorEq,ae]at Mv uD;simp-implicitDefEqProofs only[go_sem,zS,↓reduceIte,Za,Zb,Zc,reduceCtorEq,Mv];refine aH (fun hlt=>?_) (fun jt=>?_)
 ·have hlt:i<64:=by omega
  have hle:((List.range i).filter (bt x)).length<=64:=by
   have:=List.length_filter_le (bt x) (List.range i);simp at this;omega
  have hs:=List.range_succ (n:=i);have h64:((i:Int)).toNat=i:=by omega
  simp-implicitDefEqProofs (disch:=omega)only[go_sem,zS,↓reduceIte,Za,Zb,Zc,reduceCtorEq,Mv,h64,N3,aj];refine⟨⟨by omega,by show((i:Nat):Int)<=((64:Nat):Int);omega⟩,by omega,?_⟩;refine pY (fun hb=>?_) (fun hb=>?_)
  ·simp-implicitDefEqProofs only[go_sem,zS,↓reduceIte,Za,Zb,Zc,reduceCtorEq,Mv,uD];refine aG fun H1 b1 e1 z1 B1 K1=>?_;have cf:Bl H1 b1 (iN [i]):=B1;simp-implicitDefEqProofs only[go_sem,zS,↓reduceIte,Za,Zb,Zc,reduceCtorEq,ae];refine kh (m:=iN [i]) H.size (hO.ag K1 (by simp)) ho (by omega) (aM.bl cf 0 1 1 (by omega) (by simp[aW])) (gH _) rfl (by omega) (by rw[aW,aW];simp only[List.length_singleton];omega) fun v' H2 O2 o2 K2=>?_;simp-implicitDefEqProofs (disch:=omega)only[go_sem,zS,↓reduceIte,Za,Zb,Zc,reduceCtorEq,ae,Mv,IntWalk.i64_in];refine⟨64 -(i+1),by omega,i+1,v',by omega,rfl,rfl,rfl,?_,o2,(hK.trans K1).nQ K2 (by omega)⟩;rw[hs,List.filter_append,List.filter_cons,if_pos hb,List.filter_nil,iN,List.map_append,HQ];exact O2
  ·simp-implicitDefEqProofs (disch:=omega)only[go_sem,zS,↓reduceIte,Za,Zb,Zc,reduceCtorEq,ae,Mv,IntWalk.i64_in];refine⟨64 -(i+1),by omega,i+1,v,by omega,rfl,rfl,uD,?_,ho,hK⟩;rw[hs,List.filter_append,List.filter_cons,if_neg (by rw[hb];simp),List.filter_nil,List.append_nil];exact hO
 ·have:i=64:=by omega
  subst this;simp-implicitDefEqProofs only[go_sem,zS,↓reduceIte,Za,Zb,Zc,reduceCtorEq,ae,uD];rw[hQ];exact⟨hO,ho,hK⟩
def fN (P:Program) (k:FuncId):Prop:=∀(x:UInt64) (H:Hp),ak P k #[.int .u64 x.toNat] H fun r H'=>aQ H' r (bt x)/\(∀q,iZ r q->H.size<=q)/\af (fun _=>False) H H'
theorem Gk (hk:an P k (rP ι) rQ 1) (hm:uJ P (ι.f 282)) (ho:qh P (ι.f 143)):fN P k:=by
 intro x H;refine qI fun Q hQ=>?_;refine ah hk (args:=[_]) (by simp) ?_;unfold rP rQ kA kc kd kf kg kY kZ;simp-implicitDefEqProofs only[go_sem,zS,↓reduceIte,Za,Zb,Zc,reduceCtorEq];refine al fun H1 b1 e1 z1 B1 K1=>?_;have cf:Bl H1 b1 [.slice none 0 0]:=B1;simp-implicitDefEqProofs only[go_sem,zS,↓reduceIte,Za,Zb,Zc,reduceCtorEq,ae];refine(hm x H1).mono ?_;rintro l H2 ⟨O2,o2,K2⟩;rw[ae];simp-implicitDefEqProofs only[go_sem,zS,↓reduceIte,Za,Zb,Zc,reduceCtorEq,ae];have hle:((List.range 64).filter (bt x)).length<=64:=by
  have:=List.length_filter_le (bt x) (List.range 64);simp at this;omega
 refine(ho (nI ((List.range 64).filter (bt x))) l H2 O2.sl (by simp only[nI,List.length_map];omega)).mono ?_;rintro r H3 ⟨S3,K3,s3⟩;have jo:=K2.trans K3;have B3:=jo.bl cf (by simp);obtain⟨v,W,rfl,hV⟩:=S3;rw[ae];simp-implicitDefEqProofs only[go_sem,zS,↓reduceIte,Za,Zb,Zc,reduceCtorEq,ae,zF];refine tV B3 hV.sl.one fun H4 z4 K4=>?_;have hb:∀q,iZ (.agg #[v]) q->q≠b1:=fun q hq e=>by have:=s3 q hq;have:=cf.lt;have:=K2.size;omega
 rw[hQ];refine⟨(aQ.ag ⟨v,W,rfl,hV⟩ K4 hb).congr fun n=>?_,fun q hq=>by have:=s3 q hq;have:=K2.size;have:=K1.size;omega,(K1.trans jo).cB K4 (by omega)⟩;unfold Mw
 by_cases hn:n<64
 ·rw[decide_eq_true (show n<4096 by omega),Bool.and_true];rw[Bool.eq_iff_iff,decide_eq_true_eq];simp only[nI,List.mem_map,List.mem_filter,List.mem_range]
  constructor
  ·rintro⟨a,⟨_,h⟩,e⟩;have:a=n:=by omega
   rw[<-this];exact h
  ·intro h;exact⟨n,⟨hn,h⟩,rfl⟩
 ·have h1:bt x n=false:=by
   cases hb:bt x n with
   |false=>rfl
   |true=>have:=HY hb;omega
  rw[h1,Bool.and_eq_false_iff]
  left
  rw[decide_eq_false_iff_not];simp only[nI,List.mem_map,List.mem_filter,List.mem_range];rintro⟨a,⟨h,_⟩,e⟩;omega
theorem Tt (hi:i<l.length) (h:jq n (l.take i)=0):jq n (l.take (i+1))=mP n l[i]:=by
 rw[List.take_succ_eq_append_getElem hi,wy,h,eC];simp only[jq,ju]
 split<;>simp_all
theorem zB (h:jq n (l.take i)≠0):jq n l=jq n (l.take i):=by
 conv=>lhs;rw[<-List.take_append_drop i l]
 rw[wy,ox _ h]
def oy (P:Program) (k:FuncId):Prop:=∀(n:Nat) (l:List eH) (v:Value) (H:Hp),nT H v l->l.length<=1000000->n<=1000000->ak P k #[v,.int .i64 n] H fun r H'=>r=.int .i64 (jq n l)/\af (fun _=>False) H H'
theorem Gl (hk:an P k (rR ι) rS 2):oy P k:=by
 intro n l v H hv hl hn;refine qI fun Q hQ=>?_;refine ah hk (args:=[_,_]) (by simp) ?_;unfold rR rS kB kF kC kD ke kH kK kN kO kP kS kT kU kV kd kf kY;simp-implicitDefEqProofs only[go_sem,zS,↓reduceIte,Za,Zb,Zc,reduceCtorEq,ae,hv.aq,hv.len];refine aL l.length [10,6,32,4,37,9] rfl rfl (by omega) (by simp-implicitDefEqProofs only[go_sem,zS,↓reduceIte,Za,Zb,Zc,reduceCtorEq,ae]) (by simp-implicitDefEqProofs only[go_sem,zS,↓reduceIte,Za,Zb,Zc,reduceCtorEq,ae]) (fun k g A=>jq n (l.take k)=0/\af (fun _=>False) H A) ⟨rfl,af.refl _ _⟩ ?_ ?_
 ·rintro k g A hk gi gn ⟨hp,KA⟩;simp-implicitDefEqProofs only[go_sem,zS,↓reduceIte,Za,Zb,Zc,reduceCtorEq,ae]at gi gn;have pA:=hv.ai KA;obtain⟨pb,po,pc,jr,-,hld⟩:=pA.elem (enc:=pE) (k:=2) (fun _=>rfl) hk;obtain⟨x,hx⟩:∃x,x=l[k]:=⟨_,rfl⟩
  have Ve:=Tt hk hp;rw[<-hx]at hld Ve;obtain⟨x1,x2⟩:=x;have cP:aR A ⟨pb,po+k*2,none⟩ 2=some #[.int .i64 x1,.int .i64 x2]:=hld;simp-implicitDefEqProofs only[go_sem,zS,↓reduceIte,Za,Zb,Zc,reduceCtorEq,zF,jr,gi,aj,aB,cP];refine⟨by omega,?_⟩;refine bf [.int .i64 x1,.int .i64 x2] (by simp-implicitDefEqProofs only[go_sem,zS,↓reduceIte,Za,Zb,Zc,reduceCtorEq,ae]) rfl rfl rfl fun H1 b1 e1 z1 B1 K1=>?_;have KH:=KA.trans K1;have c0:cell H1 ⟨b1,0,none⟩=some (.int .i64 x1):=by rw[B1.cell];rfl
  have c1:cell H1 ⟨b1,1,none⟩=some (.int .i64 x2):=by rw[B1.cell];rfl
  have bad:mP n (x1,x2)=2->Q (.int .i64 2) H1:=fun h=>by
   rw[hQ,zB (i:=k+1) (by rw[Ve,h];decide),Ve,h];exact⟨rfl,KH⟩
  by_cases h1:x1<0
  ·have e1:decide (x1<0)=true:=decide_eq_true h1;simp-implicitDefEqProofs only[go_sem,zS,↓reduceIte,Za,Zb,Zc,reduceCtorEq,ae,zU,zV,Zf,Zg,Zh,Zi,Zd,Ze,zF,c0,c1,e1];exact bad (by simp[mP,zx,h1];try omega)
  have e1:decide (x1<0)=false:=decide_eq_false h1
  by_cases h2:(n:Int)<=x1
  ·have e2:decide ((n:Int)<=x1)=true:=decide_eq_true h2;simp-implicitDefEqProofs only[go_sem,zS,↓reduceIte,Za,Zb,Zc,reduceCtorEq,ae,zU,zV,Zf,Zg,Zh,Zi,Zd,Ze,zF,c0,c1,e1,e2];exact bad (by simp[mP,zx,h2];try omega)
  have e2:decide ((n:Int)<=x1)=false:=decide_eq_false h2
  by_cases h3:x2<0
  ·have e3:decide (x2<0)=true:=decide_eq_true h3;simp-implicitDefEqProofs only[go_sem,zS,↓reduceIte,Za,Zb,Zc,reduceCtorEq,ae,zU,zV,Zf,Zg,Zh,Zi,Zd,Ze,zF,c0,c1,e1,e2,e3];exact bad (by simp[mP,zx,h3];try omega)
  have e3:decide (x2<0)=false:=decide_eq_false h3
  by_cases h4:(n:Int)<=x2
  ·have e4:decide ((n:Int)<=x2)=true:=decide_eq_true h4;simp-implicitDefEqProofs only[go_sem,zS,↓reduceIte,Za,Zb,Zc,reduceCtorEq,ae,zU,zV,Zf,Zg,Zh,Zi,Zd,Ze,zF,c0,c1,e1,e2,e3,e4];exact bad (by simp[mP,zx,h4];try omega)
  have e4:decide ((n:Int)<=x2)=false:=decide_eq_false h4
  by_cases h5:x1=x2
  ·have e5:(x1==x2)=true:=by simp[h5]
   simp-implicitDefEqProofs only[go_sem,zS,↓reduceIte,Za,Zb,Zc,reduceCtorEq,ae,zU,zV,Zf,Zg,Zh,Zi,Zd,Ze,zF,c0,c1,e1,e2,e3,e4,e5];have hp1:mP n (x1,x2)=1:=by simp[mP,zx,e1,e2,e3,e4,h5]
   rw[hQ,zB (i:=k+1) (by rw[Ve,hp1];decide),Ve,hp1];exact⟨rfl,KH⟩
  ·have e5:(x1==x2)=false:=by simp[h5]
   simp-implicitDefEqProofs only[go_sem,zS,↓reduceIte,Za,Zb,Zc,reduceCtorEq,ae,zU,zV,Zf,Zg,Zh,Zi,Zd,Ze,zF,c0,c1,e1,e2,e3,e4,e5];have hp1:mP n (x1,x2)=0:=by simp[mP,zx,e1,e2,e3,e4,h5]
   exact⟨by rw[Ve,hp1],KH⟩
 ·rintro g A _ ⟨hp,KA⟩;simp-implicitDefEqProofs only[go_sem,zS,↓reduceIte,Za,Zb,Zc,reduceCtorEq,ae];rw[hQ];rw[List.take_length]at hp;exact⟨by rw[hp],KA⟩
def mT (P:Program) (k:FuncId):Prop:=∀(n:Nat) (x:UInt8×UInt8) (H:Hp),1<n->n<=10->ak P k #[.agg #[.int .u8 x.1.toNat,.int .u8 x.2.toNat],.int .i64 n] H fun r H'=>r=.agg #[.int .i64 (fG n x).1,.int .i64 (fG n x).2]/\af (fun _=>False) H H'
theorem Jl (hk:an P k (wC ι) wD 2):mT P k:=by
 intro n x H h1 hn;obtain⟨a,b⟩:=x;have ha:=a.toNat_lt;have hb:=b.toNat_lt;refine qI fun Q hQ=>?_;refine ah hk (args:=[_,_]) (by simp) ?_;unfold wC wD kA kB kD kP kR kU kV kd kf kY;simp-implicitDefEqProofs only[go_sem,zS,↓reduceIte,Za,Zb,Zc,reduceCtorEq,zU,zV,Zf,Zg,Zh,Zi,Zd,Ze,zF];refine al fun H1 b1 e1 z1 B1 K1=>?_;have cf:Bl H1 b1 [.int .u8 a.toNat,.int .u8 b.toNat]:=B1;simp-implicitDefEqProofs only[go_sem,zS,↓reduceIte,Za,Zb,Zc,reduceCtorEq,zU,zV,Zf,Zg,Zh,Zi,Zd,Ze,zF];refine al fun H2 b2 e2 z2 B2 K2=>?_;have fY:=K2.bl cf (by simp);have jc:Bl H2 b2 [.int .i64 0,.int .i64 0]:=B2;have cG:=K1.trans K2;have c0:cell H2 ⟨b1,0,none⟩=some (.int .u8 a.toNat):=by rw[fY.cell];rfl
 have c1:cell H2 ⟨b1,1,none⟩=some (.int .u8 b.toNat):=by rw[fY.cell];rfl
 have w0:IntKind.i64.wrap (a.toNat:Int)=a.toNat:=IntWalk.i64_in _ (by omega);have w1:IntKind.i64.wrap (b.toNat:Int)=b.toNat:=IntWalk.i64_in _ (by omega);have m0:((a.toNat:Int)).tmod (n:Int)=((a.toNat % n:Nat):Int):=cY _ _;have m1:((b.toNat:Int)).tmod (n:Int)=((b.toNat % n:Nat):Int):=cY _ _;have hn0:((n:Nat):Int)≠0:=by omega
 have Mu:a.toNat % n<n:=Nat.mod_lt _ (by omega)
 by_cases he:a.toNat % n=b.toNat % n
 ·have e5:(((a.toNat % n:Nat):Int)==((b.toNat % n:Nat):Int))=true:=by rw[he];simp
  have w2:IntKind.i64.wrap (((a.toNat % n:Nat):Int)+1)=((a.toNat % n+1:Nat):Int):=by rw[IntWalk.i64_in _ (by omega)];omega
  have m2:(((a.toNat % n+1:Nat):Int)).tmod (n:Int)=(((a.toNat % n+1) % n:Nat):Int):=cY _ _;simp-implicitDefEqProofs only[go_sem,zS,↓reduceIte,Za,Zb,Zc,reduceCtorEq,ae,zU,zV,Zf,Zg,Zh,Zi,Zd,Ze,zF,c0,c1,w0,w1,m0,m1,hn0,e5,w2,m2,ne_eq];refine Jc (n:=2) (cs:=[.int .i64 _,.int .i64 _]) jc rfl rfl rfl fun H3 z3 B3 K3=>?_;rw[hQ];refine⟨?_,cG.cB K3 (by omega)⟩;simp[fG,NY,he]
 ·have e5:(((a.toNat % n:Nat):Int)==((b.toNat % n:Nat):Int))=false:=by simp only[beq_eq_false_iff_ne,ne_eq];omega
  simp-implicitDefEqProofs only[go_sem,zS,↓reduceIte,Za,Zb,Zc,reduceCtorEq,ae,zU,zV,Zf,Zg,Zh,Zi,Zd,Ze,zF,c0,c1,w0,w1,m0,m1,hn0,e5,ne_eq];refine Jc (n:=2) (cs:=[.int .i64 _,.int .i64 _]) jc rfl rfl rfl fun H3 z3 B3 K3=>?_;rw[hQ];refine⟨?_,cG.cB K3 (by omega)⟩;simp[fG,NY,he]
def wE (P:Program) (k:FuncId):Prop:=∀(n:Nat) (H:Hp),n<10->ak P k #[.int .i64 n] H fun r H'=>r=sV [UInt8.ofNat (48+n)]/\af (fun _=>False) H H'
theorem N4 (hk:an P k (Ci ι) Cj 1):wE P k:=by
 intro n H hn;refine qI fun Q hQ=>?_;refine ah hk (args:=[_]) (by simp) ?_;unfold Ci Cj kA kB kC kU kV kW kX ka kc kg kY;have e1:decide ((n:Int)<10)=true:=decide_eq_true (by omega);have w1:IntKind.i64.wrap (48+(n:Int))=((48+n:Nat):Int):=by rw[IntWalk.i64_in _ (by omega)];omega
 have w2:IntKind.u8.wrap ((48+n:Nat):Int)=(((UInt8.ofNat (48+n)).toNat:Nat):Int):=by
  rw[UInt8.toNat_ofNat',IntKind.wrap_u8];omega
 simp-implicitDefEqProofs only[go_sem,zS,↓reduceIte,Za,Zb,Zc,reduceCtorEq,zU,zV,Zf,Zg,Zh,Zi,Zd,Ze,zF,e1,w1,w2];refine aG fun H1 b1 e1 z1 B1 K1=>?_;have cf:Bl H1 b1 (w8 [UInt8.ofNat (48+n)]):=B1;have hs:aM H1 (.slice (some ⟨b1,0,none⟩) 1 1) (w8 [UInt8.ofNat (48+n)]):=aM.bl cf 0 1 1 (by omega) (by simp[iU]);have hb:=hs.cz;simp-implicitDefEqProofs only[go_sem,zS,↓reduceIte,Za,Zb,Zc,reduceCtorEq,ae,zU,zV,Zf,Zg,Zh,Zi,Zd,Ze,zF,hb,toBA_w8];refine⟨yP hb,?_⟩;rw[hQ];exact⟨rfl,K1⟩
end Go.Mg
namespace Go.Mg
open Go Go.RowKit
def wF (ι:aC):S:=
 (.dr (kW 37 (.fa 0 (.v 3)) (kW 39 (.mv (.v 5)) (kW 42 (.mv (.v 6)) (ka 38 (.rd (.ld (.t 37))) (ka 40 (kg (ι.f 287) [.t 39]) (kW 41 (.sadd (.c (.string ⟨#[115]⟩)) (.t 40)) (kW 43 (.m (.gz #[.string ⟨#[]⟩,.int .i64 0] [(0,(1,.t 41)),(1,(1,.t 42))])) (ka 44 (.bF (ι.t 290) 2 1 [.t 43]) (ka 45 (.app false (ι.t 290) 2 24 #[.string ⟨#[]⟩,.int .i64 0] (.t 38) (.t 44)) (kW 46 (.fa 0 (.v 3)) (kb (.st (.t 46) (.t 45)) .done .wnil)) .wnil) .wnil))) .wnil) (ka 40 (kg (ι.f 287) [.t 39]) (kW 41 (.sadd (.c (.string ⟨#[115]⟩)) (.t 40)) (kW 43 (.m (.gz #[.string ⟨#[]⟩,.int .i64 0] [(0,(1,.t 41)),(1,(1,.t 42))])) (ka 38 (.rd (.ld (.t 37))) (ka 44 (.bF (ι.t 290) 2 1 [.t 43]) (ka 45 (.app false (ι.t 290) 2 24 #[.string ⟨#[]⟩,.int .i64 0] (.t 38) (.t 44)) (kW 46 (.fa 0 (.v 3)) (kb (.st (.t 46) (.t 45)) .done .wnil)) .wnil) .wnil) (ka 44 (.bF (ι.t 290) 2 1 [.t 43]) (ka 38 (.rd (.ld (.t 37))) (ka 45 (.app false (ι.t 290) 2 24 #[.string ⟨#[]⟩,.int .i64 0] (.t 38) (.t 44)) (kW 46 (.fa 0 (.v 3)) (kb (.st (.t 46) (.t 45)) .done .wnil)) .wnil) .wnil) .wnil)))) .wnil))))))
def wG (ι:aC):S:=
 (.reg [kG 79 1 3,kD 80 79,kM 81 2 8,kc 82 (.bF (ι.t 194) 2 1 [.t 81]),kc 83 (.app false (ι.t 194) 2 16 #[.int .i64 0,.int .i64 0] (.t 80) (.t 82)),kG 84 1 3,kf (.st (.t 84) (.t 83))])
def Ck (ι:aC):S:=
 (.dr (kW 100 (.fa 2 (.v 3)) (kW 102 (.fa 3 (.v 1)) (kW 103 (.ld (.t 102)) (kW 104 (.mv (.v 9)) (kW 105 (.is 2 (.t 103) (.t 104)) (kW 106 (.m (.ldn 2 (.t 105))) (kW 107 (.mv (.v 4)) (ka 101 (.rd (.ld (.t 100))) (ka 108 (kg (ι.f 286) [.t 106,.t 107]) (ka 109 (.bF (ι.t 194) 2 1 [.t 108]) (ka 110 (.app false (ι.t 194) 2 16 #[.int .i64 0,.int .i64 0] (.t 101) (.t 109)) (kW 111 (.fa 2 (.v 3)) (kb (.st (.t 111) (.t 110)) .done .wnil)) .wnil) .wnil) .wnil) (ka 108 (kg (ι.f 286) [.t 106,.t 107]) (ka 101 (.rd (.ld (.t 100))) (ka 109 (.bF (ι.t 194) 2 1 [.t 108]) (ka 110 (.app false (ι.t 194) 2 16 #[.int .i64 0,.int .i64 0] (.t 101) (.t 109)) (kW 111 (.fa 2 (.v 3)) (kb (.st (.t 111) (.t 110)) .done .wnil)) .wnil) .wnil) (ka 109 (.bF (ι.t 194) 2 1 [.t 108]) (ka 101 (.rd (.ld (.t 100))) (ka 110 (.app false (ι.t 194) 2 16 #[.int .i64 0,.int .i64 0] (.t 101) (.t 109)) (kW 111 (.fa 2 (.v 3)) (kb (.st (.t 111) (.t 110)) .done .wnil)) .wnil) .wnil) .wnil)) .wnil))))))))))
def Cl (ι:aC):S:=
 (.dr (kW 127 (.fa 3 (.v 3)) (kW 129 (.fa 4 (.v 1)) (kW 130 (.ld (.t 129)) (kW 131 (.mv (.v 10)) (kW 132 (.is 2 (.t 130) (.t 131)) (kW 133 (.m (.ldn 2 (.t 132))) (kW 134 (.mv (.v 4)) (ka 128 (.rd (.ld (.t 127))) (ka 135 (kg (ι.f 286) [.t 133,.t 134]) (ka 136 (.bF (ι.t 194) 2 1 [.t 135]) (ka 137 (.app false (ι.t 194) 2 16 #[.int .i64 0,.int .i64 0] (.t 128) (.t 136)) (kW 138 (.fa 3 (.v 3)) (kb (.st (.t 138) (.t 137)) .done .wnil)) .wnil) .wnil) .wnil) (ka 135 (kg (ι.f 286) [.t 133,.t 134]) (ka 128 (.rd (.ld (.t 127))) (ka 136 (.bF (ι.t 194) 2 1 [.t 135]) (ka 137 (.app false (ι.t 194) 2 16 #[.int .i64 0,.int .i64 0] (.t 128) (.t 136)) (kW 138 (.fa 3 (.v 3)) (kb (.st (.t 138) (.t 137)) .done .wnil)) .wnil) .wnil) (ka 136 (.bF (ι.t 194) 2 1 [.t 135]) (ka 128 (.rd (.ld (.t 127))) (ka 137 (.app false (ι.t 194) 2 16 #[.int .i64 0,.int .i64 0] (.t 128) (.t 136)) (kW 138 (.fa 3 (.v 3)) (kb (.st (.t 138) (.t 137)) .done .wnil)) .wnil) .wnil) .wnil)) .wnil))))))))))
def wH (ι:aC):S:=
 (.dr (kW 166 (.fa 4 (.v 3)) (kW 168 (.fa 5 (.v 1)) (kW 169 (.ld (.t 168)) (kW 170 (.mv (.v 11)) (kW 171 (.is 2 (.t 169) (.t 170)) (kW 172 (.ia 2 1 (.t 171) (.c (.int .i64 0))) (kW 173 (.ld (.t 172)) (kW 174 (.dv .rem .u8 (.t 173) (.c (.int .u8 3))) (kW 175 (.ii .i64 (.t 174)) (kW 176 (.ar .add .i64 (.c (.int .i64 1)) (.t 175)) (kW 177 (.mv (.v 12)) (kW 178 (.m (.gz #[.int .i64 0,.int .u64 0] [(0,(1,.t 176)),(1,(1,.t 177))])) (ka 167 (.rd (.ld (.t 166))) (ka 179 (.bF (ι.t 291) 2 1 [.t 178]) (ka 180 (.app false (ι.t 291) 2 16 #[.int .i64 0,.int .u64 0] (.t 167) (.t 179)) (kW 181 (.fa 4 (.v 3)) (kb (.st (.t 181) (.t 180)) .done .wnil)) .wnil) .wnil) (ka 179 (.bF (ι.t 291) 2 1 [.t 178]) (ka 167 (.rd (.ld (.t 166))) (ka 180 (.app false (ι.t 291) 2 16 #[.int .i64 0,.int .u64 0] (.t 167) (.t 179)) (kW 181 (.fa 4 (.v 3)) (kb (.st (.t 181) (.t 180)) .done .wnil)) .wnil) .wnil) .wnil)))))))))))))))
def Cm (ι:aC):S:=
 (kY [kA 47 7,kG 48 2 1,kD 49 48,kL 50 49,kU 51 (.cm .lss .i64 (.t 47) (.t 50)),kF 52 51,kS 53 52 true 7,kT 54 52 true (.cm .lss .i64 (.t 53) (.c (.int .i64 6))),kJ 55 52 54,kF 56 55,kS 57 56 true 4,kT 58 56 true (.cm .gtr .i64 (.t 57) (.c (.int .i64 1))),kV 59 (.pick (.t 56) (.t 58) (.c (.bool false)))] (.ite (.v 59) .skip (.exit 2)))
def Cn (ι:aC):S:=
 (kY [kA 85 9,kG 86 3 1,kD 87 86,kL 88 87,kU 89 (.cm .lss .i64 (.t 85) (.t 88)),kF 90 89,kS 91 90 true 9,kT 92 90 true (.cm .lss .i64 (.t 91) (.c (.int .i64 6))),kJ 93 90 92,kF 94 93,kS 95 94 true 4,kT 96 94 true (.cm .gtr .i64 (.t 95) (.c (.int .i64 1))),kV 97 (.pick (.t 94) (.t 96) (.c (.bool false)))] (.ite (.v 97) .skip (.exit 4)))
def Co (ι:aC):S:=
 (kY [kA 112 10,kG 113 4 1,kD 114 113,kL 115 114,kU 116 (.cm .lss .i64 (.t 112) (.t 115)),kF 117 116,kS 118 117 true 10,kT 119 117 true (.cm .lss .i64 (.t 118) (.c (.int .i64 3))),kJ 120 117 119,kF 121 120,kS 122 121 true 4,kT 123 121 true (.cm .gtr .i64 (.t 122) (.c (.int .i64 1))),kV 124 (.pick (.t 121) (.t 123) (.c (.bool false)))] (.ite (.v 124) .skip (.exit 6)))
def Cp (ι:aC):S:=
 (kY [kA 139 11,kG 140 5 1,kD 141 140,kL 142 141,kU 143 (.cm .lss .i64 (.t 139) (.t 142)),kF 144 143,kS 145 144 true 11,kT 146 144 true (.cm .lss .i64 (.t 145) (.c (.int .i64 3))),kV 147 (.pick (.t 144) (.t 146) (.c (.bool false)))] (.ite (.v 147) .skip (.exit 8)))
def wI (ι:aC):S:=
 kY [kR 1 (ι.t 288) 0,kd 2 (.new (ι.t 289) #[kZ,kZ,kZ,kZ,kZ])] (kY [kU 13 (.m (.gz #[kZ,kZ,kZ,kZ,kZ] [])),kd 3 (.new (ι.t 289) #[kZ,kZ,kZ,kZ,kZ]),kf (.stn 5 (.v 3) (.t 13))] (kY [kG 14 0 1,kD 15 14,kU 16 (.dv .rem .u8 (.t 15) (.c (.int .u8 5))),kU 17 (.ii .i64 (.t 16)),kU 18 (.ar .add .i64 (.c (.int .i64 1)) (.t 17)),kB 4 18] (.seq (kY [kC 5 (.int .i64 0)] (.blk 0 (.loop (.seq (kY [kA 19 5,kA 20 4,kV 21 (.cm .lss .i64 (.t 19) (.t 20))] (.ite (.v 21) .skip (.exit 0))) (.seq (.blk 1 (kY [kC 6 (.int .i64 1)] (.seq (kY [kA 24 5,kG 25 1 1,kD 26 25,kL 27 26,kV 28 (.cm .lss .i64 (.t 24) (.t 27))] (.ite (.v 28) (.reg [kG 29 1 1,kD 30 29,kA 31 5,kI 32 1 30 31,kD 33 32,kU 34 (.dv .rem .u8 (.t 33) (.c (.int .u8 4))),kU 35 (.ii .i64 (.t 34)),kU 36 (.ar .add .i64 (.c (.int .i64 1)) (.t 35)),kB 6 36]) .skip)) (wF ι)))) (.reg [kA 22 5,kU 23 (.ar .add .i64 (.t 22) (.c (.int .i64 1))),kB 5 23])))))) (.seq (kY [kC 7 (.int .i64 0)] (.blk 2 (.loop (.seq (Cm ι) (.seq (.blk 3 (kY [kG 62 2 1,kD 63 62,kA 64 7,kI 65 2 63 64,kN 66 2 65,kA 67 4,kc 68 (kg (ι.f 286) [.t 66,.t 67]),kd 8 (.new (ι.t 194) #[.int .i64 0,.int .i64 0]),kf (.stn 2 (.v 8) (.t 68))] (.seq (kY [kP 69 2 1 8 0,kD 70 69,kP 71 2 1 8 1,kD 72 71,kV 73 (.cm .gtr .i64 (.t 70) (.t 72))] (.ite (.v 73) (.reg [kP 74 2 1 8 1,kD 75 74,kP 76 2 1 8 0,kD 77 76,kU 78 (.m (.gz #[.int .i64 0,.int .i64 0] [(0,(1,.t 75)),(1,(1,.t 77))])),kf (.stn 2 (.v 8) (.t 78))]) .skip)) (wG ι)))) (.reg [kA 60 7,kU 61 (.ar .add .i64 (.t 60) (.c (.int .i64 1))),kB 7 61])))))) (.seq (kY [kC 9 (.int .i64 0)] (.blk 4 (.loop (.seq (Cn ι) (.seq (.blk 5 (Ck ι)) (.reg [kA 98 9,kU 99 (.ar .add .i64 (.t 98) (.c (.int .i64 1))),kB 9 99])))))) (.seq (kY [kC 10 (.int .i64 0)] (.blk 6 (.loop (.seq (Co ι) (.seq (.blk 7 (Cl ι)) (.reg [kA 125 10,kU 126 (.ar .add .i64 (.t 125) (.c (.int .i64 1))),kB 10 126])))))) (.seq (kY [kC 11 (.int .i64 0)] (.blk 8 (.loop (.seq (Cp ι) (.seq (.blk 9 (kY [kG 150 5 1,kD 151 150,kA 152 11,kI 153 2 151 152,kU 154 (.ia 2 1 (.t 153) (.c (.int .i64 1))),kD 155 154,kU 156 (.ii .u64 (.t 155)),kA 157 4,kU 158 (.sh .shl .u64 (.c (.int .u64 1)) (.t 157)),kU 159 (.ar .sub .u64 (.t 158) (.c (.int .u64 1))),kU 160 (.bt .and .u64 (.t 156) (.t 159)),kB 12 160] (.seq (kY [kA 161 12,kV 162 (.cm .eql .u64 (.t 161) (.c (.int .u64 0)))] (.ite (.v 162) (.reg [kA 163 4,kU 164 (.sh .shl .u64 (.c (.int .u64 1)) (.t 163)),kU 165 (.ar .sub .u64 (.t 164) (.c (.int .u64 1))),kB 12 165]) .skip)) (wH ι)))) (.reg [kA 148 11,kU 149 (.ar .add .i64 (.t 148) (.c (.int .i64 1))),kB 11 149])))))) (kY [kM 182 5 3,kf (.stn 5 (.v 2) (.t 182))] .ret))))))))
def wJ:List RV:=[.cn 2 5]
def cL (x:wx):List Value:=[sV x.1,.int .i64 x.2]
def oz (x:yi):List Value:=[.int .i64 x.1,.int .u64 x.2.toNat]
def jQ (x:UInt8×UInt8):List Value:=[.int .u8 x.1.toNat,.int .u8 x.2.toNat]
theorem fg (x:wx):(cL x).length=2:=rfl
theorem zC (x:yi):(oz x).length=2:=rfl
theorem gh (x:UInt8×UInt8):(jQ x).length=2:=rfl
theorem mU (x:wx):∀v∈cL x,v.oneCell'=true:=by
 intro v hv;simp[cL]at hv;rcases hv with rfl|rfl<;>rfl
theorem Jm (x:yi):∀v∈oz x,v.oneCell'=true:=by
 intro v hv;simp[oz]at hv;rcases hv with rfl|rfl<;>rfl
def fh (H:Hp) (v:Value) (f:dz):Prop:=∃s b d a m,v=.agg #[s,b,d,a,m]/\bk cL 2 H s f.st/\nT H b f.be/\nT H d f.di/\nT H a f.sa/\bk oz 2 H m f.mo
def flB (v:Value) (q:Nat):Prop:=∃c∈gL v,aV c q
variable {H H' A:Hp} {v dv r0 r1 r2 r4 r5 r6 y0 y1 y2 y3 y4 r3:Value} {f:Fr} {b n C i b1 len:Nat} {l:List (UInt8×UInt8)} {P:Program} {ι:aC} {L:List eH} {cs:List Value} {Qb:Ex->Fr->Hp->Prop}
theorem fh.ag {W:Nat->Prop} {f:dz} (h:fh H v f) (hk:af W H H') (hw:∀q,flB v q->¬W q):fh H' v f:=by
 obtain⟨s,b,d,a,m,rfl,h1,h2,h3,h4,h5⟩:=h;have w:∀c∈[s,b,d,a,m],∀q,aV c q->¬W q:=fun c hc q hq=>hw q ⟨c,hc,hq⟩;exact⟨s,b,d,a,m,rfl,h1.ag hk (w s (by simp)),h2.ag hk (w b (by simp)),h3.ag hk (w d (by simp)),h4.ag hk (w a (by simp)),h5.ag hk (w m (by simp))⟩
theorem fh.ai {f:dz} (h:fh H v f) (hk:af (fun _=>False) H H'):fh H' v f:=h.ag hk fun _ _ h=>h
def lz (H:Hp) (v:Value) (r:cQ):Prop:=r.n<256/\∃ro be di sa mo el,v=.agg #[.int .u8 (r.n:Int),ro,be,di,sa,mo,el]/\aM H ro (w8 r.ro)/\bk jQ 2 H be r.be/\bk jQ 2 H di r.di/\bk jQ 2 H sa r.sa/\bk jQ 2 H mo r.mo/\aM H el (w8 r.el)
theorem lz.ai {r:cQ} (h:lz H v r) (hk:af (fun _=>False) H H'):lz H' v r:=by
 obtain⟨h0,ro,be,di,sa,mo,el,rfl,h1,h2,h3,h4,h5,h6⟩:=h;exact⟨h0,ro,be,di,sa,mo,el,rfl,h1.ag hk (by simp),h2.ai hk,h3.ai hk,h4.ai hk,h5.ai hk,h6.ag hk (by simp)⟩
theorem fO {o:Nat} {l:List Value} (h:aR H ⟨b,o,none⟩ n=some l.toArray) {j:Nat} (hj:j<n):cell H ⟨b,o+j,none⟩=l[j]?:=by
 unfold aR at h;simp only[Option.isSome_none,Bool.false_eq_true,if_false]at h
 split at h
 ·rename_i C T z hb
  split at h
  ·rename_i hle;simp only[Option.some.injEq]at h;have e:l[j]?=(C.extract o (o+n))[j]?:=by rw[h];simp
   rw[e];simp only[cell,hb,Option.isSome_none,Bool.false_eq_true,if_false];rw[Array.getElem?_extract];rw[if_pos (by omega)]
  ·cases h
 ·cases h
theorem Gm (r:cQ) (i:Nat):rO r (i+1)=rO r i++[(EZ i,Gi r.ro i)]:=by simp[rO,List.range_succ]
theorem Jn (r:cQ) (i:Nat):(rO r i).length=i:=by simp[rO]
theorem N5 (hd:wE P (ι.f 287)) {sv:Value} {L:List wx} {ro:Int} (h3:f 3=.pointer (some ⟨b,0,none⟩)) (h5:f 5=.int .i64 (i:Int)) (h6:f 6=.int .i64 ro) (hi:i<10) (hL:L.length<=100)
  (B:Bl A b (sv::cs)) (hb:b<C) (hC:C<=A.size) (O:ct cL 2 A sv L) (o:∀q,ay sv q->C<=q)
  (hK:∀v' A',ct cL 2 A' v' (L++[(EZ i,ro)])->(∀q,ay v' q->C<=q)->Bl A' b (v'::cs)->af (fun q=>q=b\/C<=q) A A'->Qb .n f A'):vc P (wF ι) Qb f A:=by
 unfold wF kW ka kb kg;refine bj (fun q=>q=b\/C<=q) ?_;have c0:∀{A':Hp},af (fun _=>False) A A'->cell A' ⟨b,0,none⟩=some sv:=fun K=>by rw[(K.bl B (by simp)).cell];rfl
 have Q9:∀(x:List UInt8),(ByteArray.mk [115].toArray)++(ByteArray.mk x.toArray)=⟨([115]++x).toArray⟩:=fun x=>rfl;simp-implicitDefEqProofs only[go_sem,zS,↓reduceIte,Za,Zb,Zc,reduceCtorEq,ae,zU,zV,Zf,Zg,Zh,Zi,Zd,Ze,zF,h3,h5,h6,c0 (af.refl _ A)];have fin:∀(A2:Hp) (bb:Nat) (e:Env),af (fun _=>False) A A2->Bl A2 bb (cL (EZ i,ro))->jy false (ι.t 290) 2 24 #[.string ⟨#[]⟩,.int .i64 0] sv (.slice (some ⟨bb,0,none⟩) 1 1) A2 (lq P (fun q=>q=b\/C<=q) A2 (.t 45) (.px (.t 46) none (.fa 0 (.v 3)) (.wcons .no none (.st (.t 46) (.t 45)) .done .wnil)) e f (Qb .n)):=fun A2 bb e K B2=>
  ko fg mU (O.ag K (by simp)) o (by have:=K.size;omega) (bk.bl B2 (l:=[(EZ i,ro)]) rfl (by simp[cL]) (by simp)) rfl (by omega) (by simp;omega) (K.bl B (by simp)) hb (by simp) h3 rfl fun v' A' O' o' B' K'=>hK v' A' O' o' B' ((K.mono fun _ _ h=>h.elim).trans K')
 have dh:∀{X Y:Hp},af (fun _=>False) X Y->af (fun q=>q=b\/C<=q) X Y:=fun K=>K.mono fun _ _ h=>h.elim;have h2m:2<=maxLen:=by unfold maxLen;omega
 refine⟨⟨af.refl _ _,(hd i A hi).mono ?_⟩,(hd i A hi).mono ?_⟩
 ·rintro x A1 ⟨rfl,K1⟩;simp-implicitDefEqProofs only[go_sem,zS,↓reduceIte,Za,Zb,Zc,reduceCtorEq,ae,zU,zV,Zf,Zg,Zh,Zi,Zd,Ze,zF,sV];refine⟨dh K1,h2m,?_⟩;generalize pB:A1.push _=A2;have B2:Bl A2 A1.size (cL (EZ i,ro)):=by rw[<-pB];exact Bl.cH _ _ _
  have K2:af (fun _=>False) A1 A2:=by rw[<-pB];exact(af.refl _ _).push _
  exact⟨dh K2,fin A2 _ _ (K1.trans K2) B2⟩
 ·rintro x A1 ⟨rfl,K1⟩;simp-implicitDefEqProofs only[go_sem,zS,↓reduceIte,Za,Zb,Zc,reduceCtorEq,ae,zU,zV,Zf,Zg,Zh,Zi,Zd,Ze,zF,sV,c0 K1];refine⟨dh K1,h2m,?_⟩;generalize pB:A1.push _=A2;have B2:Bl A2 A1.size (cL (EZ i,ro)):=by rw[<-pB];exact Bl.cH _ _ _
  have K2:af (fun _=>False) A1 A2:=by rw[<-pB];exact(af.refl _ _).push _
  simp-implicitDefEqProofs only[go_sem,zS,↓reduceIte,Za,Zb,Zc,reduceCtorEq,ae,zU,zV,Zf,Zg,Zh,Zi,Zd,Ze,c0 (K1.trans K2)];exact⟨⟨af.refl _ _,dh K2,fin A2 _ _ (K1.trans K2) B2⟩,dh K2,af.refl _ _,fin A2 _ _ (K1.trans K2) B2⟩
theorem N6 (hp:mT P (ι.f 286)) (h1:f 1=.pointer (some ⟨b1,0,none⟩)) (h3:f 3=.pointer (some ⟨b,0,none⟩)) (h4:f 4=.int .i64 (n:Int)) (h9:f 9=.int .i64 (i:Int)) (hn:1<n) (hn5:n<=5) (hL:L.length<=100)
  (B1:Bl A b1 [r0,r1,r2,dv,r4,r5,r6]) (hl:bk jQ 2 A dv l) (hi:i<l.length) (B:Bl A b [y0,y1,y2,y3,y4]) (hb1:b1<b) (hb:b<C) (hdv:∀q,aV dv q->q<b) (hC:C<=A.size) (O:vq A y2 L) (o:∀q,ay y2 q->C<=q)
  (hK:∀v' A',vq A' v' (L++[fG n l[i]])->(∀q,ay v' q->C<=q)->Bl A' b [y0,y1,v',y3,y4]->af (fun q=>q=b\/C<=q) A A'->Qb .n f A'):vc P (Ck ι) Qb f A:=by
 unfold Ck kW ka kb kg;refine bj (fun q=>q=b\/C<=q) ?_;have c0:∀{A':Hp},af (fun _=>False) A A'->cell A' ⟨b,2,none⟩=some y2:=fun K=>by rw[(K.bl B (by simp)).cell];rfl
 have c1:cell A ⟨b1,3,none⟩=some dv:=by rw[B1.cell];rfl
 obtain⟨pb,po,pc,jr,oe,hld⟩:=hl.elem gh hi;have WD:=hdv pb oe;obtain⟨x,hx⟩:∃x,x=l[i]:=⟨_,rfl⟩
 rw[<-hx]at hld hK;have cP:aR A ⟨pb,po+i*2,none⟩ 2=some #[.int .u8 x.1.toNat,.int .u8 x.2.toNat]:=hld;have fin:∀(A2:Hp) (bb:Nat) (e:Env),af (fun _=>False) A A2->Bl A2 bb (pE (fG n x))->jy false (ι.t 194) 2 16 #[.int .i64 0,.int .i64 0] y2 (.slice (some ⟨bb,0,none⟩) 1 1) A2 (lq P (fun q=>q=b\/C<=q) A2 (.t 110) (.px (.t 111) none (.fa 2 (.v 3)) (.wcons .no none (.st (.t 111) (.t 110)) .done .wnil)) e f (Qb .n)):=fun A2 bb e K B2=>
  ko iX jD (O.ag K (by simp)) o (by have:=K.size;omega) (bk.bl B2 (l:=[fG n x]) rfl (by simp[pE]) (by simp)) rfl (by omega) (by simp;omega) (K.bl B (by simp)) hb (by simp) h3 rfl fun v' A' O' o' B' K'=>hK v' A' O' o' B' ((K.mono fun _ _ h=>h.elim).trans K')
 have dh:∀{X Y:Hp},af (fun _=>False) X Y->af (fun q=>q=b\/C<=q) X Y:=fun K=>K.mono fun _ _ h=>h.elim;simp-implicitDefEqProofs only[go_sem,zS,↓reduceIte,Za,Zb,Zc,reduceCtorEq,ae,zU,zV,Zf,Zg,Zh,Zi,Zd,Ze,zF,h1,h3,h4,h9,c0 (af.refl _ A),c1,jr,aj,aB,cP];refine⟨by omega,by omega,by omega,⟨af.refl _ _,(hp n x A hn (by omega)).mono ?_⟩,(hp n x A hn (by omega)).mono ?_⟩
 ·rintro y A1 ⟨rfl,K1⟩;simp-implicitDefEqProofs only[go_sem,zS,↓reduceIte,Za,Zb,Zc,reduceCtorEq,ae,zU,zV,Zf,Zg,Zh,Zi,Zd,Ze,zF];refine⟨dh K1,?_⟩;generalize pB:A1.push _=A2;have B2:Bl A2 A1.size (pE (fG n x)):=by rw[<-pB];exact Bl.cH _ _ _
  have K2:af (fun _=>False) A1 A2:=by rw[<-pB];exact(af.refl _ _).push _
  exact⟨dh K2,fin A2 _ _ (K1.trans K2) B2⟩
 ·rintro y A1 ⟨rfl,K1⟩;simp-implicitDefEqProofs only[go_sem,zS,↓reduceIte,Za,Zb,Zc,reduceCtorEq,ae,zU,zV,Zf,Zg,Zh,Zi,Zd,Ze,zF,h3,c0 K1];refine⟨dh K1,?_⟩;generalize pB:A1.push _=A2;have B2:Bl A2 A1.size (pE (fG n x)):=by rw[<-pB];exact Bl.cH _ _ _
  have K2:af (fun _=>False) A1 A2:=by rw[<-pB];exact(af.refl _ _).push _
  simp-implicitDefEqProofs only[go_sem,zS,↓reduceIte,Za,Zb,Zc,reduceCtorEq,ae,zU,zV,Zf,Zg,Zh,Zi,Zd,Ze,c0 (K1.trans K2)];exact⟨⟨af.refl _ _,dh K2,fin A2 _ _ (K1.trans K2) B2⟩,dh K2,af.refl _ _,fin A2 _ _ (K1.trans K2) B2⟩
theorem N7 (hp:mT P (ι.f 286)) (h1:f 1=.pointer (some ⟨b1,0,none⟩)) (h3:f 3=.pointer (some ⟨b,0,none⟩)) (h4:f 4=.int .i64 (n:Int)) (h9:f 10=.int .i64 (i:Int)) (hn:1<n) (hn5:n<=5) (hL:L.length<=100)
  (B1:Bl A b1 [r0,r1,r2,r3,dv,r5,r6]) (hl:bk jQ 2 A dv l) (hi:i<l.length) (B:Bl A b [y0,y1,y2,y3,y4]) (hb1:b1<b) (hb:b<C) (hdv:∀q,aV dv q->q<b) (hC:C<=A.size) (O:vq A y3 L) (o:∀q,ay y3 q->C<=q)
  (hK:∀v' A',vq A' v' (L++[fG n l[i]])->(∀q,ay v' q->C<=q)->Bl A' b [y0,y1,y2,v',y4]->af (fun q=>q=b\/C<=q) A A'->Qb .n f A'):vc P (Cl ι) Qb f A:=by
 unfold Cl kW ka kb kg;refine bj (fun q=>q=b\/C<=q) ?_;have c0:∀{A':Hp},af (fun _=>False) A A'->cell A' ⟨b,3,none⟩=some y3:=fun K=>by rw[(K.bl B (by simp)).cell];rfl
 have c1:cell A ⟨b1,4,none⟩=some dv:=by rw[B1.cell];rfl
 obtain⟨pb,po,pc,jr,oe,hld⟩:=hl.elem gh hi;have WD:=hdv pb oe;obtain⟨x,hx⟩:∃x,x=l[i]:=⟨_,rfl⟩
 rw[<-hx]at hld hK;have cP:aR A ⟨pb,po+i*2,none⟩ 2=some #[.int .u8 x.1.toNat,.int .u8 x.2.toNat]:=hld;have fin:∀(A2:Hp) (bb:Nat) (e:Env),af (fun _=>False) A A2->Bl A2 bb (pE (fG n x))->jy false (ι.t 194) 2 16 #[.int .i64 0,.int .i64 0] y3 (.slice (some ⟨bb,0,none⟩) 1 1) A2 (lq P (fun q=>q=b\/C<=q) A2 (.t 137) (.px (.t 138) none (.fa 3 (.v 3)) (.wcons .no none (.st (.t 138) (.t 137)) .done .wnil)) e f (Qb .n)):=fun A2 bb e K B2=>
  ko iX jD (O.ag K (by simp)) o (by have:=K.size;omega) (bk.bl B2 (l:=[fG n x]) rfl (by simp[pE]) (by simp)) rfl (by omega) (by simp;omega) (K.bl B (by simp)) hb (by simp) h3 rfl fun v' A' O' o' B' K'=>hK v' A' O' o' B' ((K.mono fun _ _ h=>h.elim).trans K')
 have dh:∀{X Y:Hp},af (fun _=>False) X Y->af (fun q=>q=b\/C<=q) X Y:=fun K=>K.mono fun _ _ h=>h.elim;simp-implicitDefEqProofs only[go_sem,zS,↓reduceIte,Za,Zb,Zc,reduceCtorEq,ae,zU,zV,Zf,Zg,Zh,Zi,Zd,Ze,zF,h1,h3,h4,h9,c0 (af.refl _ A),c1,jr,aj,aB,cP];refine⟨by omega,by omega,by omega,⟨af.refl _ _,(hp n x A hn (by omega)).mono ?_⟩,(hp n x A hn (by omega)).mono ?_⟩
 ·rintro y A1 ⟨rfl,K1⟩;simp-implicitDefEqProofs only[go_sem,zS,↓reduceIte,Za,Zb,Zc,reduceCtorEq,ae,zU,zV,Zf,Zg,Zh,Zi,Zd,Ze,zF];refine⟨dh K1,?_⟩;generalize pB:A1.push _=A2;have B2:Bl A2 A1.size (pE (fG n x)):=by rw[<-pB];exact Bl.cH _ _ _
  have K2:af (fun _=>False) A1 A2:=by rw[<-pB];exact(af.refl _ _).push _
  exact⟨dh K2,fin A2 _ _ (K1.trans K2) B2⟩
 ·rintro y A1 ⟨rfl,K1⟩;simp-implicitDefEqProofs only[go_sem,zS,↓reduceIte,Za,Zb,Zc,reduceCtorEq,ae,zU,zV,Zf,Zg,Zh,Zi,Zd,Ze,zF,h3,c0 K1];refine⟨dh K1,?_⟩;generalize pB:A1.push _=A2;have B2:Bl A2 A1.size (pE (fG n x)):=by rw[<-pB];exact Bl.cH _ _ _
  have K2:af (fun _=>False) A1 A2:=by rw[<-pB];exact(af.refl _ _).push _
  simp-implicitDefEqProofs only[go_sem,zS,↓reduceIte,Za,Zb,Zc,reduceCtorEq,ae,zU,zV,Zf,Zg,Zh,Zi,Zd,Ze,c0 (K1.trans K2)];exact⟨⟨af.refl _ _,dh K2,fin A2 _ _ (K1.trans K2) B2⟩,dh K2,af.refl _ _,fin A2 _ _ (K1.trans K2) B2⟩
theorem abA (n:Nat) (hn:n<=5):IntKind.u64.wrap (IntKind.u64.wrap (1*2^n) -1)=((allM n).toNat:Int):=by
 have:∀m:Fin 6,IntKind.u64.wrap (IntKind.u64.wrap (1*2^m.val) -1)=((allM m.val).toNat:Int):=by decide
 exact this ⟨n,by omega⟩
theorem N9 {L:List yi} {m:UInt64} (h1:f 1=.pointer (some ⟨b1,0,none⟩)) (h3:f 3=.pointer (some ⟨b,0,none⟩)) (h11:f 11=.int .i64 (i:Int)) (h12:f 12=.int .u64 m.toNat) (hL:L.length<=100)
  (B1:Bl A b1 [r0,r1,r2,r3,r4,dv,r6]) (hl:bk jQ 2 A dv l) (hi:i<l.length) (B:Bl A b [y0,y1,y2,y3,y4]) (hb1:b1<b) (hb:b<C) (hdv:∀q,aV dv q->q<b) (hC:C<=A.size) (O:ct oz 2 A y4 L) (o:∀q,ay y4 q->C<=q)
  (hK:∀v' A',ct oz 2 A' v' (L++[(1+((l[i].1.toNat % 3:Nat):Int),m)])->(∀q,ay v' q->C<=q)->Bl A' b [y0,y1,y2,y3,v']->af (fun q=>q=b\/C<=q) A A'->Qb .n f A'):vc P (wH ι) Qb f A:=by
 unfold wH kW ka kb;refine bj (fun q=>q=b\/C<=q) ?_;have c0:∀{A':Hp},af (fun _=>False) A A'->cell A' ⟨b,4,none⟩=some y4:=fun K=>by rw[(K.bl B (by simp)).cell];rfl
 have c1:cell A ⟨b1,5,none⟩=some dv:=by rw[B1.cell];rfl
 obtain⟨pb,po,pc,jr,oe,hld⟩:=hl.elem gh hi;have WD:=hdv pb oe;obtain⟨x,hx⟩:∃x,x=l[i]:=⟨_,rfl⟩
 rw[<-hx]at hld hK;have c2:cell A ⟨pb,po+i*2,none⟩=some (.int .u8 x.1.toNat):=fO hld (j:=0) (by omega);have hlt:=x.1.toNat_lt;have m3:((x.1.toNat:Int)).tmod 3=((x.1.toNat % 3:Nat):Int):=cY _ 3;have w3:IntKind.i64.wrap ((x.1.toNat % 3:Nat):Int)=((x.1.toNat % 3:Nat):Int):=IntWalk.i64_in _ (by omega);have w4:IntKind.i64.wrap (1+((x.1.toNat % 3:Nat):Int))=1+((x.1.toNat % 3:Nat):Int):=IntWalk.i64_in _ (by omega);have fin:∀(A2:Hp) (bb:Nat) (e:Env),af (fun _=>False) A A2->Bl A2 bb (oz (1+((x.1.toNat % 3:Nat):Int),m))->jy false (ι.t 291) 2 16 #[.int .i64 0,.int .u64 0] y4 (.slice (some ⟨bb,0,none⟩) 1 1) A2 (lq P (fun q=>q=b\/C<=q) A2 (.t 180) (.px (.t 181) none (.fa 4 (.v 3)) (.wcons .no none (.st (.t 181) (.t 180)) .done .wnil)) e f (Qb .n)):=fun A2 bb e K B2=>
  ko zC Jm (O.ag K (by simp)) o (by have:=K.size;omega) (bk.bl B2 (l:=[(1+((x.1.toNat % 3:Nat):Int),m)]) rfl (by simp[oz]) (by simp)) rfl (by omega) (by simp;omega) (K.bl B (by simp)) hb (by simp) h3 rfl fun v' A' O' o' B' K'=>hK v' A' O' o' B' ((K.mono fun _ _ h=>h.elim).trans K')
 have dh:∀{X Y:Hp},af (fun _=>False) X Y->af (fun q=>q=b\/C<=q) X Y:=fun K=>K.mono fun _ _ h=>h.elim;simp-implicitDefEqProofs only[go_sem,zS,↓reduceIte,Za,Zb,Zc,reduceCtorEq,ae,zU,zV,Zf,Zg,Zh,Zi,Zd,Ze,zF,h1,h3,h11,h12,c0 (af.refl _ A),c1,jr,aj,c2,m3,w3,w4];refine⟨by omega,by omega,by omega,by decide,?_⟩;generalize pB:A.push _=A2;have B2:Bl A2 A.size (oz (1+((x.1.toNat % 3:Nat):Int),m)):=by rw[<-pB];exact Bl.cH _ _ _
 have K2:af (fun _=>False) A A2:=by rw[<-pB];exact(af.refl _ _).push _
 simp-implicitDefEqProofs only[go_sem,zS,↓reduceIte,Za,Zb,Zc,reduceCtorEq,ae,zU,zV,Zf,Zg,Zh,Zi,Zd,Ze,c0 K2];exact⟨⟨af.refl _ _,dh K2,fin A2 _ _ K2 B2⟩,dh K2,af.refl _ _,fin A2 _ _ K2 B2⟩
theorem Oa {bp:Nat} {x:eH} (h3:f 3=.pointer (some ⟨b,0,none⟩)) (h8:f 8=.pointer (some ⟨bp,0,none⟩)) (hL:L.length<=100)
  (Bp:Bl A bp (pE x)) (B:Bl A b [y0,y1,y2,y3,y4]) (hb:b<C) (hC:C<=A.size) (O:vq A y1 L) (o:∀q,ay y1 q->C<=q)
  (hK:∀v' A',vq A' v' (L++[x])->(∀q,ay v' q->C<=q)->Bl A' b [y0,v',y2,y3,y4]->af (fun q=>q=b\/C<=q) A A'->Qb .n f A'):vc P (wG ι) Qb f A:=by
 unfold wG kD kG kM kc kf;have c0:cell A ⟨b,1,none⟩=some y1:=by rw[B.cell];rfl
 simp-implicitDefEqProofs only[go_sem,zS,↓reduceIte,Za,Zb,Zc,reduceCtorEq,zU,zV,Zf,Zg,Zh,Zi,Zd,Ze,zF,h3,h8,c0,Bp.aD 2 rfl];refine⟨rfl,?_⟩;refine aG fun A2 b2 e2 z2 B2 K2=>?_;have jc:Bl A2 b2 (pE x):=B2;simp-implicitDefEqProofs only[go_sem,zS,↓reduceIte,Za,Zb,Zc,reduceCtorEq,zU,zV,Zf,Zg,Zh,Zi,Zd,Ze,zF];exact rL iX jD (O.ag K2 (by simp)) o (by omega) (bk.bl jc (l:=[x]) rfl (by simp[pE]) (by simp)) rfl (by omega) (by simp;omega) (K2.bl B (by simp)) hb (by simp) h3 rfl fun v' A' O' o' B' K'=>hK v' A' O' o' B' ((K2.mono fun _ _ h=>h.elim).trans K')
theorem dD {α:Type} {l:List α} (h:i<l.length):l.take (i+1)=l.take i++[l[i]]:=List.take_succ_eq_append_getElem h
theorem Ob (h1:f 1=.pointer (some ⟨b1,0,none⟩)) (h4:f 4=.int .i64 (n:Int)) (h7:f 7=.int .i64 (i:Int)) (B1:Bl A b1 cs) (hc:cs[2]?=some dv) (hd:aq dv) (hl:aO dv=len)
  (hT:i<min len 6->1<n->Qb .n (bw f 59 (.bool true)) A) (hF:¬(i<min len 6/\1<n)->Qb (.x 2) (bw f 59 (.bool false)) A):vc P (Cm ι) Qb f A:=by
 unfold Cm kA kF kD kG kJ kL kS kT kU kV kY;have c0:cell A ⟨b1,2,none⟩=some dv:=by rw[B1.cell];exact hc
 by_cases e1:i<len
 ·have d1:decide ((i:Int)<(len:Int))=true:=decide_eq_true (by omega)
  by_cases e2:i<6
  ·have d2:decide ((i:Int)<6)=true:=decide_eq_true (by omega)
   by_cases e3:1<n
   ·have d3:decide (1<(n:Int))=true:=decide_eq_true (by omega);simp-implicitDefEqProofs only[go_sem,zS,↓reduceIte,Za,Zb,Zc,reduceCtorEq,ae,zU,zV,Zf,Zg,Zh,Zi,Zd,Ze,zF,h1,h4,h7,c0,hd,hl,d1,d2,gt_iff_lt,d3];exact hT (by omega) e3
   ·have d3:decide (1<(n:Int))=false:=decide_eq_false (by omega);simp-implicitDefEqProofs only[go_sem,zS,↓reduceIte,Za,Zb,Zc,reduceCtorEq,ae,zU,zV,Zf,Zg,Zh,Zi,Zd,Ze,zF,h1,h4,h7,c0,hd,hl,d1,d2,gt_iff_lt,d3];exact hF (by omega)
  ·have d2:decide ((i:Int)<6)=false:=decide_eq_false (by omega);simp-implicitDefEqProofs only[go_sem,zS,↓reduceIte,Za,Zb,Zc,reduceCtorEq,ae,zU,zV,Zf,Zg,Zh,Zi,Zd,Ze,zF,h1,h4,h7,c0,hd,hl,d1,d2];exact hF (by omega)
 ·have d1:decide ((i:Int)<(len:Int))=false:=decide_eq_false (by omega);simp-implicitDefEqProofs only[go_sem,zS,↓reduceIte,Za,Zb,Zc,reduceCtorEq,ae,zU,zV,Zf,Zg,Zh,Zi,Zd,Ze,zF,h1,h4,h7,c0,hd,hl,d1];exact hF (by omega)
theorem Oc (h1:f 1=.pointer (some ⟨b1,0,none⟩)) (h4:f 4=.int .i64 (n:Int)) (h7:f 9=.int .i64 (i:Int)) (B1:Bl A b1 cs) (hc:cs[3]?=some dv) (hd:aq dv) (hl:aO dv=len)
  (hT:i<min len 6->1<n->Qb .n (bw f 97 (.bool true)) A) (hF:¬(i<min len 6/\1<n)->Qb (.x 4) (bw f 97 (.bool false)) A):vc P (Cn ι) Qb f A:=by
 unfold Cn kA kF kD kG kJ kL kS kT kU kV kY;have c0:cell A ⟨b1,3,none⟩=some dv:=by rw[B1.cell];exact hc
 by_cases e1:i<len
 ·have d1:decide ((i:Int)<(len:Int))=true:=decide_eq_true (by omega)
  by_cases e2:i<6
  ·have d2:decide ((i:Int)<6)=true:=decide_eq_true (by omega)
   by_cases e3:1<n
   ·have d3:decide (1<(n:Int))=true:=decide_eq_true (by omega);simp-implicitDefEqProofs only[go_sem,zS,↓reduceIte,Za,Zb,Zc,reduceCtorEq,ae,zU,zV,Zf,Zg,Zh,Zi,Zd,Ze,zF,h1,h4,h7,c0,hd,hl,d1,d2,gt_iff_lt,d3];exact hT (by omega) e3
   ·have d3:decide (1<(n:Int))=false:=decide_eq_false (by omega);simp-implicitDefEqProofs only[go_sem,zS,↓reduceIte,Za,Zb,Zc,reduceCtorEq,ae,zU,zV,Zf,Zg,Zh,Zi,Zd,Ze,zF,h1,h4,h7,c0,hd,hl,d1,d2,gt_iff_lt,d3];exact hF (by omega)
  ·have d2:decide ((i:Int)<6)=false:=decide_eq_false (by omega);simp-implicitDefEqProofs only[go_sem,zS,↓reduceIte,Za,Zb,Zc,reduceCtorEq,ae,zU,zV,Zf,Zg,Zh,Zi,Zd,Ze,zF,h1,h4,h7,c0,hd,hl,d1,d2];exact hF (by omega)
 ·have d1:decide ((i:Int)<(len:Int))=false:=decide_eq_false (by omega);simp-implicitDefEqProofs only[go_sem,zS,↓reduceIte,Za,Zb,Zc,reduceCtorEq,ae,zU,zV,Zf,Zg,Zh,Zi,Zd,Ze,zF,h1,h4,h7,c0,hd,hl,d1];exact hF (by omega)
theorem Od (h1:f 1=.pointer (some ⟨b1,0,none⟩)) (h4:f 4=.int .i64 (n:Int)) (h7:f 10=.int .i64 (i:Int)) (B1:Bl A b1 cs) (hc:cs[4]?=some dv) (hd:aq dv) (hl:aO dv=len)
  (hT:i<min len 3->1<n->Qb .n (bw f 124 (.bool true)) A) (hF:¬(i<min len 3/\1<n)->Qb (.x 6) (bw f 124 (.bool false)) A):vc P (Co ι) Qb f A:=by
 unfold Co kA kF kD kG kJ kL kS kT kU kV kY;have c0:cell A ⟨b1,4,none⟩=some dv:=by rw[B1.cell];exact hc
 by_cases e1:i<len
 ·have d1:decide ((i:Int)<(len:Int))=true:=decide_eq_true (by omega)
  by_cases e2:i<3
  ·have d2:decide ((i:Int)<3)=true:=decide_eq_true (by omega)
   by_cases e3:1<n
   ·have d3:decide (1<(n:Int))=true:=decide_eq_true (by omega);simp-implicitDefEqProofs only[go_sem,zS,↓reduceIte,Za,Zb,Zc,reduceCtorEq,ae,zU,zV,Zf,Zg,Zh,Zi,Zd,Ze,zF,h1,h4,h7,c0,hd,hl,d1,d2,gt_iff_lt,d3];exact hT (by omega) e3
   ·have d3:decide (1<(n:Int))=false:=decide_eq_false (by omega);simp-implicitDefEqProofs only[go_sem,zS,↓reduceIte,Za,Zb,Zc,reduceCtorEq,ae,zU,zV,Zf,Zg,Zh,Zi,Zd,Ze,zF,h1,h4,h7,c0,hd,hl,d1,d2,gt_iff_lt,d3];exact hF (by omega)
  ·have d2:decide ((i:Int)<3)=false:=decide_eq_false (by omega);simp-implicitDefEqProofs only[go_sem,zS,↓reduceIte,Za,Zb,Zc,reduceCtorEq,ae,zU,zV,Zf,Zg,Zh,Zi,Zd,Ze,zF,h1,h4,h7,c0,hd,hl,d1,d2];exact hF (by omega)
 ·have d1:decide ((i:Int)<(len:Int))=false:=decide_eq_false (by omega);simp-implicitDefEqProofs only[go_sem,zS,↓reduceIte,Za,Zb,Zc,reduceCtorEq,ae,zU,zV,Zf,Zg,Zh,Zi,Zd,Ze,zF,h1,h4,h7,c0,hd,hl,d1];exact hF (by omega)
theorem Oe (h1:f 1=.pointer (some ⟨b1,0,none⟩)) (h7:f 11=.int .i64 (i:Int)) (B1:Bl A b1 cs) (hc:cs[5]?=some dv) (hd:aq dv) (hl:aO dv=len)
  (hT:i<min len 3->Qb .n (bw f 147 (.bool true)) A) (hF:¬i<min len 3->Qb (.x 8) (bw f 147 (.bool false)) A):vc P (Cp ι) Qb f A:=by
 unfold Cp kA kF kD kG kL kS kT kU kV kY;have c0:cell A ⟨b1,5,none⟩=some dv:=by rw[B1.cell];exact hc
 by_cases e1:i<len
 ·have d1:decide ((i:Int)<(len:Int))=true:=decide_eq_true (by omega)
  by_cases e2:i<3
  ·have d2:decide ((i:Int)<3)=true:=decide_eq_true (by omega);simp-implicitDefEqProofs only[go_sem,zS,↓reduceIte,Za,Zb,Zc,reduceCtorEq,ae,zU,zV,Zf,Zg,Zh,Zi,Zd,Ze,zF,h1,h7,c0,hd,hl,d1,d2];exact hT (by omega)
  ·have d2:decide ((i:Int)<3)=false:=decide_eq_false (by omega);simp-implicitDefEqProofs only[go_sem,zS,↓reduceIte,Za,Zb,Zc,reduceCtorEq,ae,zU,zV,Zf,Zg,Zh,Zi,Zd,Ze,zF,h1,h7,c0,hd,hl,d1,d2];exact hF (by omega)
 ·have d1:decide ((i:Int)<(len:Int))=false:=decide_eq_false (by omega);simp-implicitDefEqProofs only[go_sem,zS,↓reduceIte,Za,Zb,Zc,reduceCtorEq,ae,zU,zV,Zf,Zg,Zh,Zi,Zd,Ze,zF,h1,h7,c0,hd,hl,d1];exact hF (by omega)
def mV (P:Program) (k:FuncId):Prop:=∀(r:cQ) (v:Value) (H:Hp),lz H v r->ak P k #[v] H fun x H'=>fh H' x (bT r)/\(∀q,flB x q->H.size<=q)/\af (fun _=>False) H H'
theorem Jo {k:FuncId} (hk:an P k (wI ι) wJ 1) (hp:mT P (ι.f 286)) (hd:wE P (ι.f 287)):mV P k:=by
 intro r v H hv;have lO:=hv;obtain⟨hn,ro,be,di,sa,mo,el,rfl,WE,Tu,My,Q9,hmo,hel⟩:=hv;refine qI fun Q hQ=>?_;refine ah hk (args:=[_]) (by simp) ?_;unfold wI wJ kA kB kC kD kG kI kL kM kN kP kR kU kV kc kd kf kg kY kZ;simp-implicitDefEqProofs only[go_sem,zS,↓reduceIte,Za,Zb,Zc,reduceCtorEq,zU,zV,Zf,Zg,Zh,Zi,Zd,Ze,zF];refine al fun H1 b1 e1 z1 B1 K1=>?_;have cf:Bl H1 b1 [.int .u8 (r.n:Int),ro,be,di,sa,mo,el]:=B1;simp-implicitDefEqProofs only[go_sem,zS,↓reduceIte,Za,Zb,Zc,reduceCtorEq,zU,zV,Zf,Zg,Zh,Zi,Zd,Ze,zF];refine al fun H2 b2 e2 z2 B2 K2=>?_;have fY:=K2.bl cf (by simp);simp-implicitDefEqProofs only[go_sem,zS,↓reduceIte,Za,Zb,Zc,reduceCtorEq,zU,zV,Zf,Zg,Zh,Zi,Zd,Ze,zF];refine bf [.slice none 0 0,.slice none 0 0,.slice none 0 0,.slice none 0 0,.slice none 0 0] (by simp-implicitDefEqProofs only[go_sem,zS,↓reduceIte,Za,Zb,Zc,reduceCtorEq,ae,zU,zV,Zf,Zg,Zh,Zi,Zd,Ze]) rfl rfl rfl fun H3 b3 e3 z3 B3 K3=>?_;have gC:=K3.bl fY (by simp);have nX:=K3.bl B2 (by simp);have ew:=(K1.trans K2).trans K3;have hb1:b1<b2:=by have:=cf.lt;omega
 have hb2:b2<b3:=by have:=B2.lt;omega
 obtain⟨C,hC⟩:∃C,C=H3.size:=⟨_,rfl⟩
 have hCH:H.size<=b1:=by omega
 have Zm:b3<C:=by have:=B3.lt;omega
 obtain⟨n,hne⟩:∃n,n=rN r:=⟨_,rfl⟩
 have hn5:=gg r;rw[<-hne]at hn5;have cA:∀{A:Hp},af (fun q=>q=b3\/C<=q) H3 A->∀i,cell A ⟨b1,i,none⟩=([.int .u8 (r.n:Int),ro,be,di,sa,mo,el]:List Value)[i]?:=fun K i=>(K.bl gC (by omega)).cell i;have c0:=cA (af.refl _ H3) 0;have m5:((r.n:Int)).tmod 5=((r.n % 5:Nat):Int):=cY _ _;have w5:IntKind.i64.wrap ((r.n % 5:Nat):Int)=((r.n % 5:Nat):Int):=IntWalk.i64_in _ (by omega);have w6:IntKind.i64.wrap (1+((r.n % 5:Nat):Int))=(n:Int):=by rw[IntWalk.i64_in _ (by omega),hne];unfold rN;omega
 simp only[List.getElem?_cons_zero]at c0;simp-implicitDefEqProofs only[go_sem,zS,↓reduceIte,Za,Zb,Zc,reduceCtorEq,ae,zU,zV,Zf,Zg,Zh,Zi,Zd,Ze,zF,c0,m5,w5,w6];refine⟨by decide,?_⟩;refine aP [21,6,28,5] rfl (fun m f A=>∃(i:Nat) (sv:Value),i<=n/\m=n -i/\f 5=.int .i64 (i:Int)/\Bl A b3 [sv,.slice none 0 0,.slice none 0 0,.slice none 0 0,.slice none 0 0]/\ct cL 2 A sv (rO r i)/\(∀q,ay sv q->C<=q)/\af (fun q=>q=b3\/C<=q) H3 A) n ?_ ?_
 ·exact⟨0,_,by omega,by omega,by simp-implicitDefEqProofs only[go_sem,zS,↓reduceIte,Za,Zb,Zc,reduceCtorEq,ae];rfl,B3,ct.nil _,fun q h=>h.elim,af.refl _ _⟩
 rintro m f A ⟨i,sv,hi,rfl,Ra,BA,OA,oA,KA⟩;have sA:=KA.size;simp-implicitDefEqProofs only[go_sem,zS,↓reduceIte,Za,Zb,Zc,reduceCtorEq,ae]at Ra;simp-implicitDefEqProofs only[go_sem,zS,↓reduceIte,Za,Zb,Zc,reduceCtorEq,zU,zV,Zf,Zg,Zh,Zi,Zd,Ze,zF,Ra];refine aH (fun hlt=>?_) (fun jt=>?_)
 ·have hlt:i<n:=by omega
  have c1:=cA KA 1;simp only[List.getElem?_cons_succ,List.getElem?_cons_zero]at c1;have Zn:=(WE.ag ew (by simp)).ag KA (fun q hq h=>by have:=(WE.ag ew (by simp)).bE hq;have:=WE.bE hq;omega);simp-implicitDefEqProofs only[go_sem,zS,↓reduceIte,Za,Zb,Zc,reduceCtorEq,zU,zV,Zf,Zg,Zh,Zi,Zd,Ze,zF,Ra,c1,Zn.len,Zn.aq,iU];have fin:∀g:Fr,g 3=.pointer (some ⟨b3,0,none⟩)->g 5=.int .i64 (i:Int)->g 6=.int .i64 (Gi r.ro i)->∀Qb,(∀v' A',ct cL 2 A' v' (rO r (i+1))->(∀q,ay v' q->C<=q)->Bl A' b3 [v',.slice none 0 0,.slice none 0 0,.slice none 0 0,.slice none 0 0]->af (fun q=>q=b3\/C<=q) H3 A'->Qb .n g A')->vc P (wF ι) Qb g A:=fun g g3 g5 g6 Qb WG=>
   N5 hd g3 g5 g6 (by omega) (by rw[Jn];omega) BA Zm (by omega) OA oA fun v' A' O' o' B' K'=>WG v' A' (by rw[Gm];exact O') o' B' (KA.trans K')
  refine aH (fun Ti=>?_) (fun Ti=>?_)
  ·have Ti:i<r.ro.length:=by omega
   obtain⟨rb,rof,rc,hre,hrc,hcell⟩:=Zn.cells (by intro e;rw[e]at Zn;have:=iU r.ro;rw[e]at this;simp at this;omega);have hci:=hcell i (by rw[iU];exact Ti);rw[HP _ _ Ti]at hci;have ada:=(r.ro.getD i 0).toNat_lt;have m4:(((r.ro.getD i 0).toNat:Int)).tmod 4=(((r.ro.getD i 0).toNat % 4:Nat):Int):=cY _ 4;have w4:IntKind.i64.wrap (((r.ro.getD i 0).toNat % 4:Nat):Int)=(((r.ro.getD i 0).toNat % 4:Nat):Int):=IntWalk.i64_in _ (by omega);have w7:IntKind.i64.wrap (1+(((r.ro.getD i 0).toNat % 4:Nat):Int))=Gi r.ro i:=by rw[IntWalk.i64_in _ (by omega)];unfold Gi;rw[if_pos Ti]
   simp-implicitDefEqProofs only[go_sem,zS,↓reduceIte,Za,Zb,Zc,reduceCtorEq,ae,zU,zV,Zf,Zg,Zh,Zi,Zd,Ze,zF,Ra,hre,aj,hci,m4,w4,w7,iU];refine⟨by omega,by decide,?_⟩;refine fin _ (by simp-implicitDefEqProofs only[go_sem,zS,↓reduceIte,Za,Zb,Zc,reduceCtorEq,ae,zU,zV,Zf,Zg,Zh,Zi,Zd,Ze]) (by simp-implicitDefEqProofs only[go_sem,zS,↓reduceIte,Za,Zb,Zc,reduceCtorEq,ae,zU,zV,Zf,Zg,Zh,Zi,Zd,Ze,Ra]) (by simp-implicitDefEqProofs only[go_sem,zS,↓reduceIte,Za,Zb,Zc,reduceCtorEq,ae,zU,zV,Zf,Zg,Zh,Zi,Zd,Ze]) _ fun v' A' O' o' B' K'=>?_;simp-implicitDefEqProofs (disch:=omega)only[go_sem,zS,↓reduceIte,Za,Zb,Zc,reduceCtorEq,ae,zU,zV,Zf,Zg,Zh,Zi,Zd,Ze,Ra,IntWalk.i64_in];exact⟨n -(i+1),by omega,i+1,v',by omega,rfl,rfl,B',O',o',K'⟩
  ·have w7:Gi r.ro i=1:=by unfold Gi;rw[if_neg (by omega)]
   refine fin _ (by simp-implicitDefEqProofs only[go_sem,zS,↓reduceIte,Za,Zb,Zc,reduceCtorEq,ae,zU,zV,Zf,Zg,Zh,Zi,Zd,Ze]) (by simp-implicitDefEqProofs only[go_sem,zS,↓reduceIte,Za,Zb,Zc,reduceCtorEq,ae,zU,zV,Zf,Zg,Zh,Zi,Zd,Ze,Ra]) (by simp-implicitDefEqProofs only[go_sem,zS,↓reduceIte,Za,Zb,Zc,reduceCtorEq,ae,zU,zV,Zf,Zg,Zh,Zi,Zd,Ze,w7]) _ fun v' A' O' o' B' K'=>?_;simp-implicitDefEqProofs (disch:=omega)only[go_sem,zS,↓reduceIte,Za,Zb,Zc,reduceCtorEq,ae,zU,zV,Zf,Zg,Zh,Zi,Zd,Ze,Ra,IntWalk.i64_in];exact⟨n -(i+1),by omega,i+1,v',by omega,rfl,rfl,B',O',o',K'⟩
 ·have hin:i=n:=by omega
  subst hin;have W0:∀{X:Hp},af (fun q=>q=b3\/C<=q) H3 X->Bl X b1 [.int .u8 (r.n:Int),ro,be,di,sa,mo,el]:=fun K=>K.bl gC (by omega);have raw:∀{X:Hp} {v:Value} {l:List (UInt8×UInt8)},bk jQ 2 H v l->af (fun q=>q=b3\/C<=q) H3 X->bk jQ 2 X v l/\∀q,aV v q->q<b3:=fun{X v l} h K=>by
   have h3:=h.ai ew;exact⟨h3.ag K fun q hq hw=>by have:=h.bE hq;omega,fun q hq=>by have:=h.bE hq;omega⟩
  obtain⟨C1,hC1⟩:∃C1,C1=A.size:=⟨_,rfl⟩
  have hCC:C<=C1:=by omega
  have oS:∀q,ay sv q->C<=q/\q<C1:=fun q hq=>⟨oA q hq,by have:=OA.bE hq;omega⟩
  obtain⟨NB,hNB⟩:∃NB,NB=if 1<i then min r.be.length 6 else 0:=⟨_,rfl⟩
  refine aP [59,8,73,7] rfl (fun m f X=>∃(j:Nat) (bv:Value),j<=NB/\m=NB -j/\f 7=.int .i64 (j:Int)/\Bl X b3 [sv,bv,.slice none 0 0,.slice none 0 0,.slice none 0 0]/\vq X bv ((r.be.take j).map fun x=>Gh (fG i x))/\(∀q,ay bv q->C1<=q)/\af (fun q=>q=b3\/C1<=q) A X) NB ?_ ?_
  ·exact⟨0,_,by omega,by omega,by simp-implicitDefEqProofs only[go_sem,zS,↓reduceIte,Za,Zb,Zc,reduceCtorEq,ae];rfl,BA,ct.nil _,fun q h=>h.elim,af.refl _ _⟩
  rintro m g X ⟨j,bv,hj,rfl,Vf,BX,OX,oX,KX⟩;have sX:=KX.size;have Rb:af (fun q=>q=b3\/C<=q) H3 X:=KA.trans (KX.mono fun q _ h=>by omega);simp-implicitDefEqProofs only[go_sem,zS,↓reduceIte,Za,Zb,Zc,reduceCtorEq,ae]at Vf;rw[jz];refine Ob (n:=i) (len:=r.be.length) (i:=j) (by simp-implicitDefEqProofs only[go_sem,zS,↓reduceIte,Za,Zb,Zc,reduceCtorEq,ae,zU,zV,Zf,Zg,Zh,Zi,Zd,Ze]) (by simp-implicitDefEqProofs only[go_sem,zS,↓reduceIte,Za,Zb,Zc,reduceCtorEq,ae,zU,zV,Zf,Zg,Zh,Zi,Zd,Ze]) (by simp-implicitDefEqProofs only[go_sem,zS,↓reduceIte,Za,Zb,Zc,reduceCtorEq,ae,zU,zV,Zf,Zg,Zh,Zi,Zd,Ze,Vf]) (W0 Rb) rfl Tu.aq Tu.len (fun Wk Hd=>?_) (fun hnj=>?_)
  ·rw[if_pos Hd]at hNB;have tX:j<r.be.length:=by omega
   obtain⟨beX,bbX⟩:=raw Tu Rb;obtain⟨pb,po,pc,jr,oe,hld⟩:=beX.elem gh tX;obtain⟨x,hx⟩:∃x,x=r.be[j]:=⟨_,rfl⟩
   rw[<-hx]at hld;have cP:aR X ⟨pb,po+j*2,none⟩ 2=some #[.int .u8 x.1.toNat,.int .u8 x.2.toNat]:=hld;have c2:cell X ⟨b1,2,none⟩=some be:=by rw[(W0 Rb).cell];rfl
   rw[jr]at c2;simp-implicitDefEqProofs only[go_sem,zS,↓reduceIte,Za,Zb,Zc,reduceCtorEq,ae,zU,zV,Zf,Zg,Zh,Zi,Zd,Ze,zF,Vf,c2,aj,aB,cP];refine⟨by omega,(hp i x X Hd (by omega)).mono ?_⟩;rintro y X1 ⟨rfl,Rc⟩;rw[ae];simp-implicitDefEqProofs only[go_sem,zS,↓reduceIte,Za,Zb,Zc,reduceCtorEq,zU,zV,Zf,Zg,Zh,Zi,Zd,Ze,zF];refine bf [.int .i64 (fG i x).1,.int .i64 (fG i x).2] (by simp-implicitDefEqProofs only[go_sem,zS,↓reduceIte,Za,Zb,Zc,reduceCtorEq,ae,zU,zV,Zf,Zg,Zh,Zi,Zd,Ze]) rfl rfl rfl fun X2 bp eb zb BP Re=>?_;have Of:=Rc.trans Re;have s1:=Rc.size;have p0:cell X2 ⟨bp,0,none⟩=some (.int .i64 (fG i x).1):=by rw[BP.cell];rfl
   have p1:cell X2 ⟨bp,1,none⟩=some (.int .i64 (fG i x).2):=by rw[BP.cell];rfl
   have WH:=Of.bl BX (by simp);have OX2:=OX.ag Of (by simp);have uK:∀(g2:Fr) (X3:Hp),Bl X3 bp (pE (Gh (fG i x)))->af (fun q=>q=bp) X2 X3->g2 3=.pointer (some ⟨b3,0,none⟩)->g2 8=.pointer (some ⟨bp,0,none⟩)->∀Qb,(∀v' X',vq X' v' ((r.be.take (j+1)).map fun x=>Gh (fG i x))->(∀q,ay v' q->C1<=q)->Bl X' b3 [sv,v',.slice none 0 0,.slice none 0 0,.slice none 0 0]->af (fun q=>q=b3\/C1<=q) A X'->Qb .n g2 X')->vc P (wG ι) Qb g2 X3:=fun g2 X3 hB3 Zo q3 q8 Qb WG=>by
    have hbp:C1<=bp:=by omega
    have hbx:b3<X2.size:=WH.lt;have hb4:b3<bp:=by have:=BX.lt;omega
    have sX3:=Zo.size;refine Oa (C:=C1) q3 q8 (by rw[List.length_map,List.length_take];omega) hB3 (Zo.bl WH (by omega)) (by omega) (by have:=Of.size;omega) (OX2.ag Zo fun q hq e=>by have:=OX.bE hq;omega) oX fun v' X' O' o' B' K'=>WG v' X' ?_ o' B' ?_
    ·rw[dD tX,List.map_append,<-hx];exact O'
    ·exact(KX.trans Of.any).trans ((Zo.mono fun q _ e=>by omega).trans K')
   by_cases AY:(fG i x).2<(fG i x).1
   ·have e1:decide ((fG i x).1>(fG i x).2)=true:=decide_eq_true AY;simp-implicitDefEqProofs only[go_sem,zS,↓reduceIte,Za,Zb,Zc,reduceCtorEq,ae,zU,zV,Zf,Zg,Zh,Zi,Zd,Ze,zF,p0,p1,e1];refine⟨⟨BP.bK (by simp),bg rfl⟩,?_⟩;have BS:=BP.az 0 [.int .i64 (fG i x).2,.int .i64 (fG i x).1];refine uK _ _ ?_ ((af.refl _ _).az _ (.inl rfl)) (by simp-implicitDefEqProofs only[go_sem,zS,↓reduceIte,Za,Zb,Zc,reduceCtorEq,ae,zU,zV,Zf,Zg,Zh,Zi,Zd,Ze]) (by simp-implicitDefEqProofs only[go_sem,zS,↓reduceIte,Za,Zb,Zc,reduceCtorEq,ae,zU,zV,Zf,Zg,Zh,Zi,Zd,Ze]) _ fun v' X' O' o' B' K'=>?_
    ·have:pE (Gh (fG i x))=nJ [.int .i64 (fG i x).1,.int .i64 (fG i x).2] 0 [.int .i64 (fG i x).2,.int .i64 (fG i x).1]:=by
      unfold Gh;rw[if_pos AY];rfl
     rw[this];exact BS
    ·simp-implicitDefEqProofs (disch:=omega)only[go_sem,zS,↓reduceIte,Za,Zb,Zc,reduceCtorEq,ae,zU,zV,Zf,Zg,Zh,Zi,Zd,Ze,Vf,IntWalk.i64_in];exact⟨NB -(j+1),by omega,j+1,v',by omega,rfl,rfl,B',O',o',K'⟩
   ·have e1:decide ((fG i x).1>(fG i x).2)=false:=decide_eq_false (by omega);simp-implicitDefEqProofs only[go_sem,zS,↓reduceIte,Za,Zb,Zc,reduceCtorEq,ae,zU,zV,Zf,Zg,Zh,Zi,Zd,Ze,zF,p0,p1,e1];refine uK _ _ ?_ (af.refl _ _) (by simp-implicitDefEqProofs only[go_sem,zS,↓reduceIte,Za,Zb,Zc,reduceCtorEq,ae,zU,zV,Zf,Zg,Zh,Zi,Zd,Ze]) (by simp-implicitDefEqProofs only[go_sem,zS,↓reduceIte,Za,Zb,Zc,reduceCtorEq,ae,zU,zV,Zf,Zg,Zh,Zi,Zd,Ze]) _ fun v' X' O' o' B' K'=>?_
    ·have:pE (Gh (fG i x))=[.int .i64 (fG i x).1,.int .i64 (fG i x).2]:=by
      unfold Gh;rw[if_neg AY];rfl
     rw[this];exact BP
    ·simp-implicitDefEqProofs (disch:=omega)only[go_sem,zS,↓reduceIte,Za,Zb,Zc,reduceCtorEq,ae,zU,zV,Zf,Zg,Zh,Zi,Zd,Ze,Vf,IntWalk.i64_in];exact⟨NB -(j+1),by omega,j+1,v',by omega,rfl,rfl,B',O',o',K'⟩
  ·have qV:j=NB:=by rw[hNB]at hj⊢;split at hj<;>split<;>omega
   have eB:(r.be.take j).map (fun x=>Gh (fG i x))=(bT r).be:=by
    rw[qV,hNB];simp only[bT,<-hne]
    split
    ·congr 1
     by_cases h6:r.be.length<=6
     ·rw[List.take_of_length_le (by omega),List.take_of_length_le h6]
     ·rw[show min r.be.length 6=6 by omega]
    ·simp
   rw[eB]at OX;have oB:∀q,ay bv q->C1<=q/\q<X.size:=fun q hq=>⟨oX q hq,OX.bE hq⟩
   have OSX:=OA.ag KX fun q hq h=>by have:=oS q hq;omega
   obtain⟨C2,hC2⟩:∃C2,C2=X.size:=⟨_,rfl⟩
   rw[<-hC2]at oB;clear hj hnj qV eB Vf;have adb:C1<=C2:=by omega
   clear KX;obtain⟨ND,hND⟩:∃ND,ND=if 1<i then min r.di.length 6 else 0:=⟨_,rfl⟩
   simp-implicitDefEqProofs only[go_sem,zS,↓reduceIte,Za,Zb,Zc,reduceCtorEq,ae,zU,zV,Zf,Zg,Zh,Zi,Zd,Ze,zF];refine aP [97,9] rfl (fun m f Y=>∃(j:Nat) (dv:Value),j<=ND/\m=ND -j/\f 9=.int .i64 (j:Int)/\Bl Y b3 [sv,bv,dv,.slice none 0 0,.slice none 0 0]/\vq Y dv ((r.di.take j).map (fG i))/\(∀q,ay dv q->C2<=q)/\af (fun q=>q=b3\/C2<=q) X Y) ND ?_ ?_
   ·exact⟨0,_,by omega,by omega,by simp-implicitDefEqProofs only[go_sem,zS,↓reduceIte,Za,Zb,Zc,reduceCtorEq,ae];rfl,BX,ct.nil _,fun q h=>h.elim,af.refl _ _⟩
   rintro m g2 Y ⟨j,dv,hj,rfl,WI,BY,OY,oY,KY⟩;have sY:=KY.size;have Zp:af (fun q=>q=b3\/C<=q) H3 Y:=Rb.trans (KY.mono fun q _ h=>by omega);simp-implicitDefEqProofs only[go_sem,zS,↓reduceIte,Za,Zb,Zc,reduceCtorEq,ae]at WI;rw[jz];refine Oc (n:=i) (len:=r.di.length) (i:=j) (by simp-implicitDefEqProofs only[go_sem,zS,↓reduceIte,Za,Zb,Zc,reduceCtorEq,ae,zU,zV,Zf,Zg,Zh,Zi,Zd,Ze]) (by simp-implicitDefEqProofs only[go_sem,zS,↓reduceIte,Za,Zb,Zc,reduceCtorEq,ae,zU,zV,Zf,Zg,Zh,Zi,Zd,Ze]) (by simp-implicitDefEqProofs only[go_sem,zS,↓reduceIte,Za,Zb,Zc,reduceCtorEq,ae,zU,zV,Zf,Zg,Zh,Zi,Zd,Ze,WI]) (W0 Zp) rfl My.aq My.len (fun Wk Hd=>?_) (fun hnj=>?_)
   ·rw[if_pos Hd]at hND;have tX:j<r.di.length:=by omega
    obtain⟨diY,dbY⟩:=raw My Zp;simp-implicitDefEqProofs only[go_sem,zS,↓reduceIte,Za,Zb,Zc,reduceCtorEq,ae,zU,zV,Zf,Zg,Zh,Zi,Zd,Ze,zF];refine N6 (n:=i) (i:=j) hp (by simp-implicitDefEqProofs only[go_sem,zS,↓reduceIte,Za,Zb,Zc,reduceCtorEq,ae,zU,zV,Zf,Zg,Zh,Zi,Zd,Ze]) (by simp-implicitDefEqProofs only[go_sem,zS,↓reduceIte,Za,Zb,Zc,reduceCtorEq,ae,zU,zV,Zf,Zg,Zh,Zi,Zd,Ze]) (by simp-implicitDefEqProofs only[go_sem,zS,↓reduceIte,Za,Zb,Zc,reduceCtorEq,ae,zU,zV,Zf,Zg,Zh,Zi,Zd,Ze]) (by simp-implicitDefEqProofs only[go_sem,zS,↓reduceIte,Za,Zb,Zc,reduceCtorEq,ae,zU,zV,Zf,Zg,Zh,Zi,Zd,Ze,WI]) Hd (by omega) (by rw[List.length_map,List.length_take];omega) (W0 Zp) diY tX BY (by omega) (by omega:b3<C2) dbY (by omega) OY oY fun v' X' O' o' B' K'=>?_;simp-implicitDefEqProofs (disch:=omega)only[go_sem,zS,↓reduceIte,Za,Zb,Zc,reduceCtorEq,ae,zU,zV,Zf,Zg,Zh,Zi,Zd,Ze,WI,IntWalk.i64_in];refine⟨ND -(j+1),by omega,j+1,v',by omega,rfl,rfl,B',?_,o',KY.trans K'⟩;rw[dD tX,List.map_append];exact O'
   ·have qV:j=ND:=by rw[hND]at hj⊢;split at hj<;>split<;>omega
    have eD:(r.di.take j).map (fG i)=(bT r).di:=by
     rw[qV,hND];simp only[bT,<-hne]
     split
     ·congr 1
      by_cases h6:r.di.length<=6
      ·rw[List.take_of_length_le (by omega),List.take_of_length_le h6]
      ·rw[show min r.di.length 6=6 by omega]
     ·simp
    rw[eD]at OY;have oD:∀q,ay dv q->C2<=q/\q<Y.size:=fun q hq=>⟨oY q hq,OY.bE hq⟩
    have OSY:=OSX.ag KY fun q hq h=>by have:=oS q hq;omega
    have OBY:=OX.ag KY fun q hq h=>by have:=oB q hq;omega
    obtain⟨C3,hC3⟩:∃C3,C3=Y.size:=⟨_,rfl⟩
    rw[<-hC3]at oD;have ade:C2<=C3:=by omega
    clear hj hnj qV eD WI KY;obtain⟨NA,hNA⟩:∃NA,NA=if 1<i then min r.sa.length 3 else 0:=⟨_,rfl⟩
    simp-implicitDefEqProofs only[go_sem,zS,↓reduceIte,Za,Zb,Zc,reduceCtorEq,ae,zU,zV,Zf,Zg,Zh,Zi,Zd,Ze,zF];refine aP [124,10] rfl (fun m f Z=>∃(j:Nat) (av:Value),j<=NA/\m=NA -j/\f 10=.int .i64 (j:Int)/\Bl Z b3 [sv,bv,dv,av,.slice none 0 0]/\vq Z av ((r.sa.take j).map (fG i))/\(∀q,ay av q->C3<=q)/\af (fun q=>q=b3\/C3<=q) Y Z) NA ?_ ?_
    ·exact⟨0,_,by omega,by omega,by simp-implicitDefEqProofs only[go_sem,zS,↓reduceIte,Za,Zb,Zc,reduceCtorEq,ae];rfl,BY,ct.nil _,fun q h=>h.elim,af.refl _ _⟩
    rintro m g3 Z ⟨j,av,hj,rfl,Jp,BZ,OZ,oZ,KZ⟩;have sZ:=KZ.size;have Zq:af (fun q=>q=b3\/C<=q) H3 Z:=Zp.trans (KZ.mono fun q _ h=>by omega);simp-implicitDefEqProofs only[go_sem,zS,↓reduceIte,Za,Zb,Zc,reduceCtorEq,ae]at Jp;rw[jz];refine Od (n:=i) (len:=r.sa.length) (i:=j) (by simp-implicitDefEqProofs only[go_sem,zS,↓reduceIte,Za,Zb,Zc,reduceCtorEq,ae,zU,zV,Zf,Zg,Zh,Zi,Zd,Ze]) (by simp-implicitDefEqProofs only[go_sem,zS,↓reduceIte,Za,Zb,Zc,reduceCtorEq,ae,zU,zV,Zf,Zg,Zh,Zi,Zd,Ze]) (by simp-implicitDefEqProofs only[go_sem,zS,↓reduceIte,Za,Zb,Zc,reduceCtorEq,ae,zU,zV,Zf,Zg,Zh,Zi,Zd,Ze,Jp]) (W0 Zq) rfl Q9.aq Q9.len (fun Wk Hd=>?_) (fun hnj=>?_)
    ·rw[if_pos Hd]at hNA;have tX:j<r.sa.length:=by omega
     obtain⟨saZ,sbZ⟩:=raw Q9 Zq;simp-implicitDefEqProofs only[go_sem,zS,↓reduceIte,Za,Zb,Zc,reduceCtorEq,ae,zU,zV,Zf,Zg,Zh,Zi,Zd,Ze,zF];refine N7 (n:=i) (i:=j) hp (by simp-implicitDefEqProofs only[go_sem,zS,↓reduceIte,Za,Zb,Zc,reduceCtorEq,ae,zU,zV,Zf,Zg,Zh,Zi,Zd,Ze]) (by simp-implicitDefEqProofs only[go_sem,zS,↓reduceIte,Za,Zb,Zc,reduceCtorEq,ae,zU,zV,Zf,Zg,Zh,Zi,Zd,Ze]) (by simp-implicitDefEqProofs only[go_sem,zS,↓reduceIte,Za,Zb,Zc,reduceCtorEq,ae,zU,zV,Zf,Zg,Zh,Zi,Zd,Ze]) (by simp-implicitDefEqProofs only[go_sem,zS,↓reduceIte,Za,Zb,Zc,reduceCtorEq,ae,zU,zV,Zf,Zg,Zh,Zi,Zd,Ze,Jp]) Hd (by omega) (by rw[List.length_map,List.length_take];omega) (W0 Zq) saZ tX BZ (by omega) (by omega:b3<C3) sbZ (by omega) OZ oZ fun v' X' O' o' B' K'=>?_;simp-implicitDefEqProofs (disch:=omega)only[go_sem,zS,↓reduceIte,Za,Zb,Zc,reduceCtorEq,ae,zU,zV,Zf,Zg,Zh,Zi,Zd,Ze,Jp,IntWalk.i64_in];refine⟨NA -(j+1),by omega,j+1,v',by omega,rfl,rfl,B',?_,o',KZ.trans K'⟩;rw[dD tX,List.map_append];exact O'
    ·have qV:j=NA:=by rw[hNA]at hj⊢;split at hj<;>split<;>omega
     have eA:(r.sa.take j).map (fG i)=(bT r).sa:=by
      rw[qV,hNA];simp only[bT,<-hne]
      split
      ·congr 1
       by_cases h6:r.sa.length<=3
       ·rw[List.take_of_length_le (by omega),List.take_of_length_le h6]
       ·rw[show min r.sa.length 3=3 by omega]
      ·simp
     rw[eA]at OZ;have Og:∀q,ay av q->C3<=q/\q<Z.size:=fun q hq=>⟨oZ q hq,OZ.bE hq⟩
     have OSZ:=OSY.ag KZ fun q hq h=>by have:=oS q hq;omega
     have OBZ:=OBY.ag KZ fun q hq h=>by have:=oB q hq;omega
     have ODZ:=OY.ag KZ fun q hq h=>by have:=oD q hq;omega
     obtain⟨C4,hC4⟩:∃C4,C4=Z.size:=⟨_,rfl⟩
     rw[<-hC4]at Og;have adf:C3<=C4:=by omega
     clear hj hnj qV eA Jp KZ;obtain⟨NM,hNM⟩:∃NM,NM=min r.mo.length 3:=⟨_,rfl⟩
     simp-implicitDefEqProofs only[go_sem,zS,↓reduceIte,Za,Zb,Zc,reduceCtorEq,ae,zU,zV,Zf,Zg,Zh,Zi,Zd,Ze,zF];refine aP [147,12,162,11] rfl (fun m f T=>∃(j:Nat) (mv:Value),j<=NM/\m=NM -j/\f 11=.int .i64 (j:Int)/\Bl T b3 [sv,bv,dv,av,mv]/\ct oz 2 T mv ((r.mo.take j).map (Ji i))/\(∀q,ay mv q->C4<=q)/\af (fun q=>q=b3\/C4<=q) Z T) NM ?_ ?_
     ·exact⟨0,_,by omega,by omega,by simp-implicitDefEqProofs only[go_sem,zS,↓reduceIte,Za,Zb,Zc,reduceCtorEq,ae];rfl,BZ,ct.nil _,fun q h=>h.elim,af.refl _ _⟩
     rintro m g4 T ⟨j,mv,hj,rfl,Cq,BT,OT,oT,KT⟩;have sT:=KT.size;have Jq:af (fun q=>q=b3\/C<=q) H3 T:=Zq.trans (KT.mono fun q _ h=>by omega);simp-implicitDefEqProofs only[go_sem,zS,↓reduceIte,Za,Zb,Zc,reduceCtorEq,ae]at Cq;rw[jz];refine Oe (len:=r.mo.length) (i:=j) (by simp-implicitDefEqProofs only[go_sem,zS,↓reduceIte,Za,Zb,Zc,reduceCtorEq,ae,zU,zV,Zf,Zg,Zh,Zi,Zd,Ze]) (by simp-implicitDefEqProofs only[go_sem,zS,↓reduceIte,Za,Zb,Zc,reduceCtorEq,ae,zU,zV,Zf,Zg,Zh,Zi,Zd,Ze,Cq]) (W0 Jq) rfl hmo.aq hmo.len (fun Wk=>?_) (fun hnj=>?_)
     ·have tX:j<r.mo.length:=by omega
      obtain⟨moT,mbT⟩:=raw hmo Jq;obtain⟨pb,po,pc,jr,oe,hld⟩:=moT.elem gh tX;obtain⟨x,hx⟩:∃x,x=r.mo[j]:=⟨_,rfl⟩
      rw[<-hx]at hld;have c1:cell T ⟨pb,po+j*2+1,none⟩=some (.int .u8 x.2.toNat):=fO hld (j:=1) (by omega);have c2:cell T ⟨b1,5,none⟩=some mo:=by rw[(W0 Jq).cell];rfl
      have c2':=c2;rw[jr]at c2';have Mz:=x.2.toNat_lt;have w1:IntKind.u64.wrap (x.2.toNat:Int)=((UInt64.ofNat x.2.toNat).toNat:Int):=by
       rw[IntKind.wrap_u64,UInt64.toNat_ofNat'];omega
      have hand:bits .and .u64 ((UInt64.ofNat x.2.toNat).toNat:Int) ((allM i).toNat:Int)=((UInt64.ofNat x.2.toNat&&&allM i).toNat:Int):=mF _ _;have tail:∀(g5:Fr) (mm:UInt64),mm=Tp i x->g5 1=.pointer (some ⟨b1,0,none⟩)->g5 3=.pointer (some ⟨b3,0,none⟩)->g5 11=.int .i64 (j:Int)->g5 12=.int .u64 mm.toNat->∀Qb,(∀v' X',ct oz 2 X' v' ((r.mo.take (j+1)).map (Ji i))->(∀q,ay v' q->C4<=q)->Bl X' b3 [sv,bv,dv,av,v']->af (fun q=>q=b3\/C4<=q) Z X'->Qb .n g5 X')->vc P (wH ι) Qb g5 T:=fun g5 mm hmm q1 q3 q11 q12 Qb WG=>
       N9 (m:=mm) q1 q3 q11 q12 (by rw[List.length_map,List.length_take];omega) (W0 Jq) moT tX BT (by omega) (by omega:b3<C4) mbT (by omega) OT oT fun v' X' O' o' B' K'=>WG v' X' (by rw[dD tX,List.map_append,<-hx];rw[hmm,<-hx]at O';exact O') o' B' (KT.trans K')
      have abB:((i:Int)).toNat=i:=by omega
      have h64:((IntKind.u64.bits:Nat):Int)=64:=rfl;simp-implicitDefEqProofs only[go_sem,zS,↓reduceIte,Za,Zb,Zc,reduceCtorEq,ae,zU,zV,Zf,Zg,Zh,Zi,Zd,Ze,zF,Cq,c2',aj,c1,w1,abB,abA i (by omega),hand];have abC:∀y:UInt64,(((y.toNat:Int))==0)=decide (y=0):=fun y=>by
       rw[Bool.eq_iff_iff];simp only[beq_iff_eq,decide_eq_true_eq]
       constructor
       ·intro h;apply UInt64.toNat_inj.1;have:y.toNat=0:=by omega
        rw[this];rfl
       ·rintro rfl;rfl
      rw[abC];refine⟨by omega,by omega,aH (fun h0=>⟨by omega,?_⟩) (fun h0=>?_)⟩
      ·refine tail _ (allM i) (by unfold Tp;rw[if_pos h0]) (by simp-implicitDefEqProofs only[go_sem,zS,↓reduceIte,Za,Zb,Zc,reduceCtorEq,ae,zU,zV,Zf,Zg,Zh,Zi,Zd,Ze]) (by simp-implicitDefEqProofs only[go_sem,zS,↓reduceIte,Za,Zb,Zc,reduceCtorEq,ae,zU,zV,Zf,Zg,Zh,Zi,Zd,Ze]) (by simp-implicitDefEqProofs only[go_sem,zS,↓reduceIte,Za,Zb,Zc,reduceCtorEq,ae,zU,zV,Zf,Zg,Zh,Zi,Zd,Ze,Cq]) (by simp-implicitDefEqProofs only[go_sem,zS,↓reduceIte,Za,Zb,Zc,reduceCtorEq,ae,zU,zV,Zf,Zg,Zh,Zi,Zd,Ze]) _ fun v' X' O' o' B' K'=>?_;simp-implicitDefEqProofs (disch:=omega)only[go_sem,zS,↓reduceIte,Za,Zb,Zc,reduceCtorEq,ae,zU,zV,Zf,Zg,Zh,Zi,Zd,Ze,Cq,IntWalk.i64_in];exact⟨NM -(j+1),by omega,j+1,v',by omega,rfl,rfl,B',O',o',K'⟩
      ·refine tail _ (UInt64.ofNat x.2.toNat&&&allM i) (by unfold Tp;rw[if_neg h0]) (by simp-implicitDefEqProofs only[go_sem,zS,↓reduceIte,Za,Zb,Zc,reduceCtorEq,ae,zU,zV,Zf,Zg,Zh,Zi,Zd,Ze]) (by simp-implicitDefEqProofs only[go_sem,zS,↓reduceIte,Za,Zb,Zc,reduceCtorEq,ae,zU,zV,Zf,Zg,Zh,Zi,Zd,Ze]) (by simp-implicitDefEqProofs only[go_sem,zS,↓reduceIte,Za,Zb,Zc,reduceCtorEq,ae,zU,zV,Zf,Zg,Zh,Zi,Zd,Ze,Cq]) (by simp-implicitDefEqProofs only[go_sem,zS,↓reduceIte,Za,Zb,Zc,reduceCtorEq,ae,zU,zV,Zf,Zg,Zh,Zi,Zd,Ze]) _ fun v' X' O' o' B' K'=>?_;simp-implicitDefEqProofs (disch:=omega)only[go_sem,zS,↓reduceIte,Za,Zb,Zc,reduceCtorEq,ae,zU,zV,Zf,Zg,Zh,Zi,Zd,Ze,Cq,IntWalk.i64_in];exact⟨NM -(j+1),by omega,j+1,v',by omega,rfl,rfl,B',O',o',K'⟩
     ·have qV:j=NM:=by omega
      have eM:(r.mo.take j).map (Ji i)=(bT r).mo:=by
       rw[qV,hNM];simp only[bT,<-hne]
       congr 1
       by_cases h6:r.mo.length<=3
       ·rw[List.take_of_length_le (by omega),List.take_of_length_le h6]
       ·rw[show min r.mo.length 3=3 by omega]
      rw[eM]at OT;have oM:∀q,ay mv q->C4<=q:=oT;have Rf:=OSZ.ag KT fun q hq h=>by have:=oS q hq;omega
      have Tv:=OBZ.ag KT fun q hq h=>by have:=oB q hq;omega
      have Tw:=ODZ.ag KT fun q hq h=>by have:=oD q hq;omega
      have Tx:=OZ.ag KT fun q hq h=>by have:=Og q hq;omega
      have eS:rO r i=(bT r).st:=by simp only[bT,<-hne]
      rw[eS]at Rf;have B2T:=Jq.bl nX (by omega);simp-implicitDefEqProofs only[go_sem,zS,↓reduceIte,Za,Zb,Zc,reduceCtorEq,ae,zU,zV,Zf,Zg,Zh,Zi,Zd,Ze,zF,BT.aD 5 rfl];have one:([sv,bv,dv,av,mv].all fun v=>v.oneCell')=true:=by
       obtain⟨_,_,_,rfl⟩:=Rf.shape;obtain⟨_,_,_,rfl⟩:=Tv.shape;obtain⟨_,_,_,rfl⟩:=Tw.shape;obtain⟨_,_,_,rfl⟩:=Tx.shape;obtain⟨_,_,_,rfl⟩:=OT.shape
       rfl
      refine Jc (n:=5) (cs:=[sv,bv,dv,av,mv]) B2T rfl rfl one fun HZ zz BZ2 E0=>?_;rw[hQ];have adg:∀q,C<=q->q≠b2:=fun q h e=>by omega
      refine⟨⟨_,_,_,_,_,rfl,(Rf.sl.ag E0 fun q hq e=>?_),(Tv.sl.ag E0 fun q hq e=>?_),(Tw.sl.ag E0 fun q hq e=>?_),(Tx.sl.ag E0 fun q hq e=>?_),(OT.sl.ag E0 fun q hq e=>?_)⟩,?_,?_⟩
      ·have:=oS q (Rf.aV hq);omega
      ·have:=oB q (Tv.aV hq);omega
      ·have:=oD q (Tw.aV hq);omega
      ·have:=Og q (Tx.aV hq);omega
      ·have:=oM q (OT.aV hq);omega
      ·rintro q ⟨c,hc,hq⟩;have hc:c∈[sv,bv,dv,av,mv]:=hc;simp only[List.mem_cons,List.not_mem_nil,or_false]at hc;rcases hc with rfl|rfl|rfl|rfl|rfl
       ·have:=oS q (Rf.aV hq);omega
       ·have:=oB q (Tv.aV hq);omega
       ·have:=oD q (Tw.aV hq);omega
       ·have:=Og q (Tx.aV hq);omega
       ·have:=oM q (OT.aV hq);omega
      ·have KHT:af (fun _=>False) H T:=ew.trans' Jq fun q hq h=>by omega
       exact KHT.trans' E0 fun q hq e=>by omega
end Go.Mg

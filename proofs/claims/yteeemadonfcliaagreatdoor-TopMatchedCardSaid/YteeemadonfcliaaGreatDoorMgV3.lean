/- Lemmas of ours. No conditions. -/
import Derived.Test.YteeemadonfcliaaGreatDoorMgP5
import Derived.Test.YteeemadonfcliaaGreatDoorMgN1
import Derived.Test.YteeemadonfcliaaGreatDoorMgLp
open Nat renaming reduceEqDiff→Za,reduceAdd→Zb,reduceMul→Zc,reduceLeDiff→Zd,reduceLT→Ze
open Int renaming reduceBEq→Zf,reduceBNe→Zg,reduceLE→Zh,reduceLT→Zi
set_option linter.all false
set_option maxRecDepth 100000
namespace Go.Mg
abbrev BH:=List UInt8×Int
abbrev gR:=Int×Int
abbrev Dk:=Int×UInt64
structure jn where
 st:List BH
 be:List gR
 di:List gR
 sa:List gR
 mo:List Dk
def iG (a b:Int):Int:=if a=0 then b else a
theorem dM (b:Int):iG 0 b=b:=rfl
variable {a:Int} {k:Nat} {R:Nat->Nat->Bool}
theorem mA (b:Int) (h:a≠0):iG a b=a:=if_neg h
theorem nU {b:Int}:iG a b=0↔a=0/\b=0:=by
 unfold iG;split
 ·next h=>simp[h]
 ·next h=>simp[h]
def wW (n:Nat) (x:gR):Bool:=decide (x.1<0)||decide ((n:Int)<=x.1)||decide (x.2<0)||decide ((n:Int)<=x.2)
def lD (n:Nat) (x:gR):Int:=if wW n x=true then 2 else if x.1=x.2 then 1 else 0
def iA (n:Nat):List gR->Int
 |[]=>0
 |x::l=>iG (lD n x) (iA n l)
theorem ue (n:Nat):∀(l m:List gR),iA n (l++m)=iG (iA n l) (iA n m)
 |[],m=>rfl
 |x::l,m=>by
  simp only[List.cons_append,iA,ue n l m];unfold iG;split<;>rfl
theorem MI {n:Nat}:∀{l:List gR},iA n l=0↔∀x∈l,lD n x=0
 |[]=>by simp[iA]
 |x::l=>by simp[iA,nU,MI (l:=l)]
theorem OW {n : Nat} {x : gR} : lD n x = 0 ↔ qW (n : Int) x /\ x.1 ≠ x.2 := by
  unfold lD wW qW
  split
  · next h =>
    simp only [Bool.or_eq_true, decide_eq_true_eq] at h
    constructor
    · intro h; omega
    · rintro ⟨⟨_, _, _, _⟩, _⟩; omega
  · next h =>
    simp only [Bool.or_eq_true, decide_eq_true_eq] at h
    split
    · next h2 => constructor
                 · intro h; omega
                 · rintro ⟨_, h3⟩; exact absurd h2 h3
    · next h2 => exact ⟨fun _ => ⟨by omega, h2⟩, fun _ => rfl⟩
def wX (roles:Int) (p:Nat->Bool) (l:List BH) (x:BH):Int:=
 if cB x.1=false then 9 else if(l.any fun y=>decide (y.1=x.1))=true then 5 else if x.2<1\/roles<x.2\/cX p x.2=true then 10 else 0
def BI (roles:Int) (p:Nat->Bool) (l:List BH):Nat->Int
 |0=>0
 |k+1=>iG (BI roles p l k) (wX roles p (l.take k) (l.getD k ([],0)))
theorem F6 {roles : Int} {p : Nat -> Bool} {l : List BH} (h : BI roles p l k ≠ 0) : ∀ m, k <= m -> BI roles p l m = BI roles p l k
  | m, hm => by
    induction m with
    | zero => have : k = 0 := by omega
              subst this; rfl
    | succ m ih =>
      by_cases e : k = m + 1
      · rw [e]
      · have := ih (by omega);rw [BI, this, mA _ h]
def uf (n:Nat) (x:Dk):Int:=if x.1<1\/10<x.1\/x.2=0\/2^n<=x.2.toNat then 2 else 0
def rI (n:Nat):List Dk->Int
 |[]=>0
 |x::l=>iG (uf n x) (rI n l)
def wY (f:jn):Prop:=10<f.st.length\/20<f.be.length\/20<f.di.length\/20<f.sa.length\/20<f.mo.length
instance (f:jn):Decidable (wY f):=by unfold wY;infer_instance
noncomputable def Dl (R:Nat->Nat->Bool):Int:=@ite _ (yk R) (Classical.propDecidable _) 0 16
theorem F7 (h:yk R):Dl R=0:=if_pos h
theorem OY (h:¬yk R):Dl R=16:=if_neg h
noncomputable def fw (f:jn) (roles:Int) (p:Nat->Bool):Int:=
 if f.st=[]then 4 else if wY f then 3 else
 iG (BI roles p f.st f.st.length) (iG (iA f.st.length f.be) (iG (iA f.st.length f.di) (iG (iA f.st.length f.sa) (iG (rI f.st.length f.mo) (Dl (jT f.be))))))
structure Good (f:jn):Prop where
 ne:f.st≠[]
 lim:¬wY f
 be:∀x∈f.be,qW (f.st.length:Int) x/\x.1≠x.2
 di:∀x∈f.di,qW (f.st.length:Int) x/\x.1≠x.2
 sa:∀x∈f.sa,qW (f.st.length:Int) x/\x.1≠x.2
 mo:∀x∈f.mo,uf f.st.length x=0
 acy:yk (jT f.be)
theorem Good.lt {f:jn} (h:Good f):f.st.length<=10:=by have:=h.lim;unfold wY at this;omega
theorem lE {d:Nat->Bool} (hk:k<=4095):cX d (k:Int)=d k:=by
 unfold cX;rw[decide_eq_true (by omega),decide_eq_true (by omega),Int.toNat_natCast,Bool.true_and,Bool.true_and]
def sI (s:List Int) (a:Int):Int:=s.getD a.toNat 0
def jU (s:List Int) (x:gR):Bool:=decide (sI s x.1≠0)&&decide (sI s x.1=sI s x.2)
def mB (s:List Int) (x:gR):Bool:=decide (sI s x.1≠0)&&decide (sI s x.2≠0)&&decide (sI s x.1≠sI s x.2)
def Q4 (s:List Int) (m:UInt64) (u:Int) (n:Nat):Nat:=cn n fun k=>bt m k&&decide (s.getD k 0=u)
def mC (s:List Int) (x:Dk):Bool:=s.any fun u=>decide (u≠0)&&decide (x.1<(Q4 s x.2 u s.length:Int))
def OZ (f:jn) (s:List Int):Nat×Nat:=
 match f.di.findIdx? (jU s)with
 |some i=>(1,i)
 |none=>match f.sa.findIdx? (mB s)with
  |some i=>(2,i)
  |none=>match f.mo.findIdx? (mC s)with
   |some i=>(3,i)
   |none=>(0,0)
def Sz (n:Nat) (s:List Int):Bool:=(s.all fun u=>decide (0<=u)&&decide (u<=256))&&decide (s.length=n)
structure SC where
 n:Nat
 ro:List UInt8
 be:List (UInt8×UInt8)
 di:List (UInt8×UInt8)
 sa:List (UInt8×UInt8)
 mo:List (UInt8×UInt8)
 el:List UInt8
theorem wZ {L:List gR} (h:∀x∈L,x.1<x.2):yk (jT L):=by
 have:∀a b,Tc (jT L) a b->a<b:=fun a b hab=>by
  induction hab with
  |one k=>have:=h _ (of_decide_eq_true k);simp only at this;omega
  |more k _ ih=>have:=h _ (of_decide_eq_true k);simp only at this;omega
 exact fun a h=>by have:=this a a h;omega
end Go.Mg
namespace Go.Mg
open Go Go.RowKit
def pr (ι:aJ):S:=
 kY [kC 4 (.int .i64 0)] (.seq (kY [kV 7 (.mv (.v 0)),kO 8 7,kC 9 (.int .i64 0)] (.blk 0 (.loop (kY [kH 10 9 8] (.seq (.ite (.v 10) .skip (.exit 0)) (.seq (.blk 1 (kY [kK 11 2 7 9,kN 12 2 11,kd 6 (.new (ι.t 194) #[.int .i64 0,.int .i64 0]),kf (.stn 2 (.v 6) (.t 12))] (.seq (kY [kP 13 2 1 6 0,kD 14 13,kU 15 (.cm .lss .i64 (.t 14) (.c (.int .i64 0))),kF 16 15,kT 17 16 false (.ia 2 1 (.v 6) (.c (.int .i64 0))),kT 18 16 false (.ld (.t 17)),kS 19 16 false 1,kT 20 16 false (.cm .geq .i64 (.t 18) (.t 19)),kU 21 (.pick (.t 16) (.c (.bool true)) (.t 20)),kF 22 21,kT 23 22 false (.ia 2 1 (.v 6) (.c (.int .i64 1))),kT 24 22 false (.ld (.t 23)),kT 25 22 false (.cm .lss .i64 (.t 24) (.c (.int .i64 0))),kU 26 (.pick (.t 22) (.c (.bool true)) (.t 25)),kF 27 26,kT 28 27 false (.ia 2 1 (.v 6) (.c (.int .i64 1))),kT 29 27 false (.ld (.t 28)),kS 30 27 false 1,kT 31 27 false (.cm .geq .i64 (.t 29) (.t 30)),kV 32 (.pick (.t 27) (.c (.bool true)) (.t 31))] (.ite (.v 32) (kY [kC 4 (.int .i64 2)] .ret) .skip)) (kY [kP 33 2 1 6 0,kD 34 33,kP 35 2 1 6 1,kD 36 35,kV 37 (.cm .eql .i64 (.t 34) (.t 36))] (.ite (.v 37) (kY [kC 4 (.int .i64 1)] .ret) .skip))))) (.reg [ke 38 9,kB 9 38]))))))) (kY [kC 4 (.int .i64 0)] .ret))
def pt:List RV:=[.t 4]
variable {n i:Nat} {l:List gR}
theorem O0 (hi:i<l.length) (h:iA n (l.take i)=0):iA n (l.take (i+1))=lD n l[i]:=by
 rw[List.take_succ_eq_append_getElem hi,ue,h,dM];simp only[iA,iG]
 split<;>simp_all
theorem w6 (h:iA n (l.take i)≠0):iA n l=iA n (l.take i):=by
 conv=>lhs;rw[<-List.take_append_drop i l]
 rw[ue,mA _ h]
def mD (P:Program) (k:FuncId):Prop:=∀(n:Nat) (l:List gR) (v:Value) (H:Hp),sN H v l->l.length<=1000000->n<=1000000->an P k #[v,.int .i64 n] H fun r H'=>r=.int .i64 (iA n l)/\af (fun _=>False) H H'
theorem Dm {P:Program} {ι:aJ} {k:FuncId} (hk:aq P k (pr ι) pt 2):mD P k:=by
 intro n l v H hv hl hn;refine qI fun Q hQ=>?_;refine ah hk (args:=[_,_]) (by simp) ?_;unfold pr pt kB kF kC kD ke kH kK kN kO kP kS kT kU kV kd kf kY;simp-implicitDefEqProofs only[go_sem,zS,↓reduceIte,Za,Zb,Zc,reduceCtorEq,ae,hv.ax,hv.len];refine aO l.length [10,6,32,4,37,9] rfl rfl (by omega) (by simp-implicitDefEqProofs only[go_sem,zS,↓reduceIte,Za,Zb,Zc,reduceCtorEq,ae]) (by simp-implicitDefEqProofs only[go_sem,zS,↓reduceIte,Za,Zb,Zc,reduceCtorEq,ae]) (fun k g A=>iA n (l.take k)=0/\af (fun _=>False) H A) ⟨rfl,af.refl _ _⟩ ?_ ?_
 ·rintro k g A hk gi gn ⟨hp,KA⟩;simp-implicitDefEqProofs only[go_sem,zS,↓reduceIte,Za,Zb,Zc,reduceCtorEq,ae]at gi gn;have pA:=hv.aj KA;obtain⟨pb,po,pc,yY,-,hld⟩:=pA.elem (enc:=pE) (k:=2) (fun _=>rfl) hk;obtain⟨x,hx⟩:∃x,x=l[k]:=⟨_,rfl⟩
  have Q5:=O0 hk hp;rw[<-hx]at hld Q5;obtain⟨x1,x2⟩:=x;have iF:aR A ⟨pb,po+k*2,none⟩ 2=some #[.int .i64 x1,.int .i64 x2]:=hld;simp-implicitDefEqProofs only[go_sem,zS,↓reduceIte,Za,Zb,Zc,reduceCtorEq,zF,yY,gi,ai,aB,iF];refine⟨by omega,?_⟩;refine bB [.int .i64 x1,.int .i64 x2] (by simp-implicitDefEqProofs only[go_sem,zS,↓reduceIte,Za,Zb,Zc,reduceCtorEq,ae]) rfl rfl rfl fun H1 b1 e1 z1 B1 K1=>?_;have KH:=KA.trans K1;have c0:cell H1 ⟨b1,0,none⟩=some (.int .i64 x1):=by rw[B1.cell];rfl
  have c1:cell H1 ⟨b1,1,none⟩=some (.int .i64 x2):=by rw[B1.cell];rfl
  have bad:lD n (x1,x2)=2->Q (.int .i64 2) H1:=fun h=>by
   rw[hQ,w6 (i:=k+1) (by rw[Q5,h];decide),Q5,h];exact⟨rfl,KH⟩
  by_cases h1:x1<0
  ·have e1:decide (x1<0)=true:=decide_eq_true h1;simp-implicitDefEqProofs only[go_sem,zS,↓reduceIte,Za,Zb,Zc,reduceCtorEq,ae,zU,zV,Zf,Zg,Zh,Zi,Zd,Ze,zF,c0,c1,e1];exact bad (by simp[lD,wW,h1];try omega)
  have e1:decide (x1<0)=false:=decide_eq_false h1
  by_cases h2:(n:Int)<=x1
  ·have e2:decide ((n:Int)<=x1)=true:=decide_eq_true h2;simp-implicitDefEqProofs only[go_sem,zS,↓reduceIte,Za,Zb,Zc,reduceCtorEq,ae,zU,zV,Zf,Zg,Zh,Zi,Zd,Ze,zF,c0,c1,e1,e2];exact bad (by simp[lD,wW,h2];try omega)
  have e2:decide ((n:Int)<=x1)=false:=decide_eq_false h2
  by_cases h3:x2<0
  ·have e3:decide (x2<0)=true:=decide_eq_true h3;simp-implicitDefEqProofs only[go_sem,zS,↓reduceIte,Za,Zb,Zc,reduceCtorEq,ae,zU,zV,Zf,Zg,Zh,Zi,Zd,Ze,zF,c0,c1,e1,e2,e3];exact bad (by simp[lD,wW,h3];try omega)
  have e3:decide (x2<0)=false:=decide_eq_false h3
  by_cases h4:(n:Int)<=x2
  ·have e4:decide ((n:Int)<=x2)=true:=decide_eq_true h4;simp-implicitDefEqProofs only[go_sem,zS,↓reduceIte,Za,Zb,Zc,reduceCtorEq,ae,zU,zV,Zf,Zg,Zh,Zi,Zd,Ze,zF,c0,c1,e1,e2,e3,e4];exact bad (by simp[lD,wW,h4];try omega)
  have e4:decide ((n:Int)<=x2)=false:=decide_eq_false h4
  by_cases h5:x1=x2
  ·have e5:(x1==x2)=true:=by simp[h5]
   simp-implicitDefEqProofs only[go_sem,zS,↓reduceIte,Za,Zb,Zc,reduceCtorEq,ae,zU,zV,Zf,Zg,Zh,Zi,Zd,Ze,zF,c0,c1,e1,e2,e3,e4,e5];have hp1:lD n (x1,x2)=1:=by simp[lD,wW,e1,e2,e3,e4,h5]
   rw[hQ,w6 (i:=k+1) (by rw[Q5,hp1];decide),Q5,hp1];exact⟨rfl,KH⟩
  ·have e5:(x1==x2)=false:=by simp[h5]
   simp-implicitDefEqProofs only[go_sem,zS,↓reduceIte,Za,Zb,Zc,reduceCtorEq,ae,zU,zV,Zf,Zg,Zh,Zi,Zd,Ze,zF,c0,c1,e1,e2,e3,e4,e5];have hp1:lD n (x1,x2)=0:=by simp[lD,wW,e1,e2,e3,e4,h5]
   exact⟨by rw[Q5,hp1],KH⟩
 ·rintro g A _ ⟨hp,KA⟩;simp-implicitDefEqProofs only[go_sem,zS,↓reduceIte,Za,Zb,Zc,reduceCtorEq,ae];rw[hQ];rw[List.take_length]at hp;exact⟨by rw[hp],KA⟩
end Go.Mg
namespace Go.Mg
open Go Go.RowKit
def gE (x:BH):List Value:=[sV x.1,.int .i64 x.2]
def XQ (x:Dk):List Value:=[.int .i64 x.1,.int .u64 x.2.toNat]
def J2 (x:UInt8×UInt8):List Value:=[.int .u8 x.1.toNat,.int .u8 x.2.toNat]
theorem i7 (x:BH):(gE x).length=2:=rfl
theorem w7 (x:BH):∀v∈gE x,v.oneCell'=true:=by
 intro v hv;simp[gE]at hv;rcases hv with rfl|rfl<;>rfl
def nh (H:Hp) (v:Value) (f:jn):Prop:=∃s b d a m,v=.agg #[s,b,d,a,m]/\bo gE 2 H s f.st/\sN H b f.be/\sN H d f.di/\sN H a f.sa/\bo XQ 2 H m f.mo
def flB (v:Value) (q:Nat):Prop:=∃c∈gL v,aU c q
variable {H H':Hp} {v:Value} {f:jn}
theorem nh.ag {W:Nat->Prop} (h:nh H v f) (hk:af W H H') (hw:∀q,flB v q->¬W q):nh H' v f:=by
 obtain⟨s,b,d,a,m,rfl,h1,h2,h3,h4,h5⟩:=h;have w:∀c∈[s,b,d,a,m],∀q,aU c q->¬W q:=fun c hc q hq=>hw q ⟨c,hc,hq⟩;exact⟨s,b,d,a,m,rfl,h1.ag hk (w s (by simp)),h2.ag hk (w b (by simp)),h3.ag hk (w d (by simp)),h4.ag hk (w a (by simp)),h5.ag hk (w m (by simp))⟩
theorem nh.aj (h:nh H v f) (hk:af (fun _=>False) H H'):nh H' v f:=h.ag hk fun _ _ h=>h
def F8 (H:Hp) (v:Value) (r:SC):Prop:=r.n<256/\∃ro be di sa mo el,v=.agg #[.int .u8 (r.n:Int),ro,be,di,sa,mo,el]/\aG H ro (w8 r.ro)/\bo J2 2 H be r.be/\bo J2 2 H di r.di/\bo J2 2 H sa r.sa/\bo J2 2 H mo r.mo/\aG H el (w8 r.el)
theorem F8.aj {r:SC} (h:F8 H v r) (hk:af (fun _=>False) H H'):F8 H' v r:=by
 obtain⟨h0,ro,be,di,sa,mo,el,rfl,h1,h2,h3,h4,h5,h6⟩:=h;exact⟨h0,ro,be,di,sa,mo,el,rfl,h1.ag hk (by simp),h2.aj hk,h3.aj hk,h4.aj hk,h5.aj hk,h6.ag hk (by simp)⟩
theorem yZ {α:Type} {l:List α} {i:Nat} (h:i<l.length):l.take (i+1)=l.take i++[l[i]]:=List.take_succ_eq_append_getElem h
end Go.Mg

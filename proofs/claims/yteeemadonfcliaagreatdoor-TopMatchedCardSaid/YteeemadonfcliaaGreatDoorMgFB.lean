/- Lemmas of ours. No conditions. -/
import Derived.Test.YteeemadonfcliaaGreatDoorMgB4
open Nat renaming reduceEqDiff→Za,reduceAdd→Zb,reduceMul→Zc
set_option linter.all false
set_option maxRecDepth 100000
namespace Go.Mg
open Go Go.RowKit
def tJ (ι:aJ):S:=
 kY [kC 4 (.int .i64 0)] (.seq (kY [kA 6 0,kV 7 (.m (.lenl (.t 6))),kC 8 (.int .i64 0)] (.blk 0 (.loop (kY [kH 9 8 7] (.seq (.ite (.v 9) .skip (.exit 0)) (.seq (.blk 1 (kY [kA 10 8,kB 5 10] (kY [kA 11 1,kA 12 0,kA 13 5,kI 14 1 12 13,kD 15 14,kV 16 (.cm .eql .i64 (.t 11) (.t 15))] (.ite (.v 16) (kY [kA 17 5,kB 4 17] .ret) .skip)))) (.reg [ke 18 8,kB 8 18]))))))) (kY [kC 4 (.int .i64 (-1))] .ret))
def tK:List RV:=[.t 4]
def tL (ι:aJ):S:=
 kY [kC 4 (.bool false)] (kY [kA 5 0,kA 6 1,kc 7 (kg (ι.f 157) [.t 5,.t 6]),kU 8 (.cm .geq .i64 (.t 7) (.c (.int .i64 0))),kB 4 8] .ret)
def tM:List RV:=[.t 4]
def tN (ι:aJ):S:=
 kY [kC 2 (kZ)] (.seq (kY [kA 3 0,kV 4 (.m (.eqn .sl false (.t 3)))] (.ite (.v 4) (kY [kC 2 (kZ)] .ret) .skip)) (kY [kc 5 (.cj (ι.t 26) 1 0 []),kA 6 0,kc 7 (.app false (ι.t 26) 1 8 #[.int .i64 0] (.t 5) (.t 6)),kB 2 7] .ret))
def tO:List RV:=[.t 2]
def yH (ι:aJ):S:=
 kY [kC 4 (.bool false)] (.seq (kY [kA 6 0,kL 7 6,kA 8 1,kL 9 8,kV 10 (.cm .neq .i64 (.t 7) (.t 9))] (.ite (.v 10) (kY [kC 4 (.bool false)] .ret) .skip)) (.seq (kY [kA 11 0,kV 12 (.m (.lenl (.t 11))),kC 13 (.int .i64 0)] (.blk 0 (.loop (kY [kH 14 13 12] (.seq (.ite (.v 14) .skip (.exit 0)) (.seq (.blk 1 (kY [kA 15 13,kB 5 15] (kY [kA 16 0,kA 17 5,kI 18 1 16 17,kD 19 18,kA 20 1,kA 21 5,kI 22 1 20 21,kD 23 22,kV 24 (.cm .neq .i64 (.t 19) (.t 23))] (.ite (.v 24) (kY [kC 4 (.bool false)] .ret) .skip)))) (.reg [ke 25 13,kB 13 25]))))))) (kY [kC 4 (.bool true)] .ret)))
def yI:List RV:=[.t 4]
def nI (l:List Nat):List Int:=l.map fun n:Nat=>(n:Int)
theorem bh (l:List Nat):(nI l).length=l.length:=by simp[nI]
theorem yJ (l:List Nat) (i:Nat) (h:i<l.length):(nI l).getD i 0=((l.getD i 0:Nat):Int):=by simp[nI,h]
theorem JP (p:Nat->Bool):cf p=iL (nI (aD p)):=by simp[cf,iL,nI]
def wJ (P:Program) (k:FuncId):Prop:=∀(l:List Int) (v:Value) (x:Int) (H:Hp),aG H v (iL l)->l.length<=1000000->an P k #[v,.int .i64 x] H fun r H'=>(∃n:Int,r=.int .i64 n/\(0<=n↔x∈l))/\H'=H
variable {P:Program} {ι:aJ} {k:FuncId}
theorem FI (hk:aq P k (tJ ι) tK 2):wJ P k:=by
 intro l v x H hv JQ;refine ah hk (args:=[_,_]) (by simp) ?_;unfold tJ tK kA kB kC kD ke kH kI kV kY;simp only[go_sem,zS,↓reduceIte,Za,Zb,Zc,reduceCtorEq,ae,hv.ax,hv.len,ak];refine aL [9,5,16,4,8] rfl (fun n f H'=>∃i:Nat,i<=l.length/\n=l.length -i/\f 8=.int .i64 i/\(∀a<i,∀h:a<l.length,l[a]≠x)/\H'=H) l.length
  ⟨0,by omega,by omega,by simp only[go_sem,zS,↓reduceIte,Za,Zb,Zc,reduceCtorEq,ae];rfl,fun a ha=>by omega,rfl⟩ ?_
 rintro n f H1 ⟨i,hi,rfl,hf,hx,rfl⟩;simp only[go_sem,zS,↓reduceIte,Za,Zb,Zc,reduceCtorEq,ae]at hf;simp only[go_sem,zS,↓reduceIte,Za,Zb,Zc,reduceCtorEq,hf];refine aC (fun hlt=>?_) (fun gx=>?_)
 ·have hlt:i<l.length:=by omega
  obtain⟨b,o,c,rfl,hlm,hc⟩:=hv.cells (by intro e;have h:=congrArg List.length e;rw[ak,List.length_nil]at h;omega);rw[ak]at hc hlm;have hci:=hc i hlt;rw[bW _ _ hlt]at hci;have Xg:l.getD i 0=l[i]:=by rw[List.getD_eq_getElem?_getD,List.getElem?_eq_getElem hlt];rfl
  rw[Xg]at hci
  by_cases h:x=l[i]
  ·have e:(x==l[i])=true:=by simpa using h
   simp only[go_sem,zS,↓reduceIte,Za,Zb,Zc,reduceCtorEq,ae,hf,ak,ai,Nat.mul_one,hci,e];exact⟨by omega,⟨i,rfl,⟨fun _=>by rw[h];exact List.getElem_mem _,fun _=>by omega⟩⟩⟩
  ·have e:(x==l[i])=false:=by simpa using h
   simp(disch:=omega)only[go_sem,zS,↓reduceIte,Za,Zb,Zc,reduceCtorEq,ae,hf,ak,ai,Nat.mul_one,hci,e,IntWalk.i64_in];refine⟨by omega,l.length -(i+1),by omega,i+1,by omega,rfl,by simp,fun a ha R2=>?_⟩
   by_cases e2:a=i
   ·subst e2;exact fun h'=>h h'.symm
   ·exact hx a (by omega) R2
 ·refine⟨-1,rfl,⟨fun h=>by omega,fun h=>?_⟩⟩;obtain⟨a,ha,e⟩:=List.getElem_of_mem h;exact absurd e (hx a (by omega) ha)
def ly (P:Program) (k:FuncId):Prop:=∀(l:List Int) (v:Value) (x:Int) (H:Hp),aG H v (iL l)->l.length<=1000000->an P k #[v,.int .i64 x] H fun r H'=>(∃b:Bool,r=.bool b/\(b=true↔x∈l))/\H'=H
theorem FJ (hk:aq P k (tL ι) tM 2) (hi:wJ P (ι.f 157)):ly P k:=by
 intro l v x H hv JQ;refine ah hk (args:=[_,_]) (by simp) ?_;unfold tL tM kA kB kC kU kc kg kY;simp only[go_sem,zS,↓reduceIte,Za,Zb,Zc,reduceCtorEq,ae];refine(hi l v x H hv JQ).mono ?_;rintro r H1 ⟨⟨n,rfl,hn⟩,rfl⟩;simp only[go_sem,zS,↓reduceIte,Za,Zb,Zc,reduceCtorEq,ae];exact⟨_,rfl,by rw[decide_eq_true_iff];exact hn⟩
def dA (P:Program) (k:FuncId):Prop:=∀(l:List Int) (v:Value) (H:Hp),aG H v (iL l)->l.length<=1000000->an P k #[v] H fun r H'=>bY H' r (iL l)/\(∀k,az r k->H.size<=k)/\af (fun _=>False) H H'
theorem FK (hk:aq P k (tN ι) tO 1):dA P k:=by
 intro l v H hv hl;refine ah hk (args:=[_]) (by simp) ?_;unfold tN tO kA kB kC kV kc kY kZ;obtain⟨a,c,hvm,hlc⟩:=hv.mk;rw[ak]at hvm hlc;subst hvm
 cases a with
 |none=>
  have h0:l=[]:=by
   rcases hv with⟨_,_,_,h⟩|⟨_,_,_,_,h,_⟩
   ·cases l with
    |nil=>rfl
    |cons _ _=>cases h
   ·cases h
  subst h0;simp only[go_sem,zS,↓reduceIte,Za,Zb,Zc,reduceCtorEq,ae];exact⟨bY.nil _,fun k h=>h.elim,af.refl _ _⟩
 |some p=>
  simp only[go_sem,zS,↓reduceIte,Za,Zb,Zc,reduceCtorEq,zF];refine aF fun H1 b e1 z1 B1 K1=>?_;have s1:=K1.size;simp only[go_sem,zS,↓reduceIte,Za,Zb,Zc,reduceCtorEq,ae];have B1:Bl H1 b []:=B1;refine eG (l:=[]) (m:=iL l) (bY.bl B1 (by simp) (by simp) (by simp) (by simp)) (hv.ag K1 (by simp)) (ji l) rfl (by unfold maxLen;rw[ak];simp;omega) (by rw[ak];simp;omega) fun v' H2 O2 M2 N2=>?_;obtain⟨va,vn,vc,rfl⟩:=O2.shape;simp only[go_sem,zS,↓reduceIte,Za,Zb,Zc,reduceCtorEq,ae];refine⟨O2,fun k hk=>?_,K1.trans' M2 (fun i hi h=>by have h:i=b:=h;omega)⟩;rcases N2 k hk with h|h
  ·have h:k=b:=h;omega
  ·omega
theorem Mz {l:List Int} {i:Nat} (hi:i<l.length):(iL l)[i]?=some (.int .i64 (gi l i)):=by
 rw[bW _ _ hi];unfold gi;simp[List.getD_eq_getElem?_getD,hi]
def nP (P:Program) (k:FuncId):Prop:=∀(l m:List Int) (v w:Value) (H:Hp),aG H v (iL l)->aG H w (iL m)->l.length<=1000000->an P k #[v,w] H fun r H'=>r=.bool (decide (l=m))/\H'=H
theorem JR (hk:aq P k (yH ι) yI 2):nP P k:=by
 intro l m v w H hv hw hl;refine ah hk (args:=[_,_]) (by simp) ?_;unfold yH yI kA kB kC kD ke kH kI kL kV kY
 by_cases hlm:l.length=m.length
 ·have e0:((m.length:Int)!=(m.length:Int))=false:=by simp
  simp only[go_sem,zS,↓reduceIte,Za,Zb,Zc,reduceCtorEq,ae,hv.ax,hv.len,hw.ax,hw.len,ak,hlm,e0];refine aL [14,5,24,4,13] rfl (fun n f H'=>∃i:Nat,i<=l.length/\n=l.length -i/\f 13=.int .i64 i/\(∀a<i,gi l a=gi m a)/\H'=H) l.length
   ⟨0,by omega,by omega,by simp only[go_sem,zS,↓reduceIte,Za,Zb,Zc,reduceCtorEq,ae];rfl,fun a ha=>by omega,rfl⟩ ?_
  rintro n f H2 ⟨i,hi,rfl,hf,hx,rfl⟩;simp only[go_sem,zS,↓reduceIte,Za,Zb,Zc,reduceCtorEq,ae]at hf;simp only[go_sem,zS,↓reduceIte,Za,Zb,Zc,reduceCtorEq,ae,hf];refine aC (fun hlt=>?_) (fun gx=>?_)
  ·have hlt:i<l.length:=by omega
   obtain⟨b,o,c,rfl,-,hc⟩:=hv.cells (by intro e;have h:=congrArg List.length e;rw[ak,List.length_nil]at h;omega);obtain⟨b2,o2,c2,rfl,-,hc2⟩:=hw.cells (by intro e;have h:=congrArg List.length e;rw[ak,List.length_nil]at h;omega);rw[ak]at hc hc2;have hci:=hc i hlt;have OD:=hc2 i (by omega);rw[Mz hlt]at hci;rw[Mz (by omega)]at OD
   by_cases h:gi l i=gi m i
   ·have e1:(gi m i !=gi m i)=false:=by simp
    simp(disch:=omega)only[go_sem,zS,↓reduceIte,Za,Zb,Zc,reduceCtorEq,ae,hf,ak,ai,Nat.mul_one,hci,OD,h,e1,IntWalk.i64_in];refine⟨by omega,by omega,l.length -(i+1),by omega,i+1,by omega,rfl,by simp,fun a ha=>?_⟩
    by_cases e:a=i
    ·subst e;exact h
    ·exact hx a (by omega)
   ·have e1:(gi l i !=gi m i)=true:=by simpa using h
    have e2:decide (l=m)=false:=decide_eq_false (fun e=>h (by rw[e]));simp only[go_sem,zS,↓reduceIte,Za,Zb,Zc,reduceCtorEq,ae,hf,ak,ai,Nat.mul_one,hci,OD,e1,e2];exact⟨by omega,by omega⟩
  ·have e2:l=m:=by
    refine List.ext_getElem hlm fun i h1 h2=>?_;have:=hx i (by omega);unfold gi at this;rw[List.getD_eq_getElem?_getD,List.getD_eq_getElem?_getD,List.getElem?_eq_getElem h1,List.getElem?_eq_getElem h2]at this;exact this
   simp only[go_sem,zS,↓reduceIte,Za,Zb,Zc,reduceCtorEq,ae,decide_eq_true e2]
 ·have e0:((l.length:Int)!=(m.length:Int))=true:=by rw[bne_iff_ne];omega
  have e2:decide (l=m)=false:=decide_eq_false (fun e=>hlm (by rw[e]));simp only[go_sem,zS,↓reduceIte,Za,Zb,Zc,reduceCtorEq,ae,hv.ax,hv.len,hw.ax,hw.len,ak,e0,e2]
theorem FL (a b:Nat):(a:Int).tmod (b:Int)=((a % b:Nat):Int):=(Int.ofNat_tmod a b).symm
end Go.Mg

/- Lemmas of ours. No conditions. -/
import Derived.Test.YtkfikjdbdfekfabDoorMgK7
import Derived.Test.YtkfikjdbdfekfabDoorMgW1
open Nat renaming reduceEqDiff→Za,reduceAdd→Zb,reduceMul→Zc
set_option linter.all false
set_option maxRecDepth 100000
namespace Go.Mg
open Go Go.RowKit
def fm (ι:bh):S:=
 kY [kd 4 (.new (ι.t 9) (Array.replicate 32 (.int .u8 0)))] (kY [kc 8 (kg (ι.f 55) []),kB 5 8] (kY [kA 9 5,kA 10 0,kc 11 (kg (ι.f 59) [.t 9,.t 10])] (.seq (kY [kV 12 (.mv (.v 1)),kO 13 12,kC 14 (.int .i64 0)] (.blk 0 (.loop (kY [kH 15 14 13] (.seq (.ite (.v 15) .skip (.exit 0)) (.seq (.blk 1 (kY [kK 16 1 12 14,kD 17 16,kB 7 17] (.reg [kA 18 5,kA 19 7,kc 20 (kg (ι.f 58) [.t 18,.t 19])]))) (.reg [ke 21 14,kB 14 21]))))))) (kY [kA 22 5,kc 23 (kg (ι.f 60) [.t 22]),kc 24 (kg (ι.f 14) [.t 23]),kf (.stn 32 (.v 4) (.t 24))] .ret))))
def fo:List RV:=[.cn 4 32]
theorem uP:(Array.replicate 32 (Value.int .u8 0)).toList=w8 (List.replicate 32 0):=by rw[<-je];rfl
def Small (ls:List (List UInt8)):Prop:=ls.length<=10/\∀i,i<ls.length->(ls.getD i []).length<=1000
def df (ls:List (List UInt8)) (n:Nat):List UInt8:=iter n (fun a i=>a++bd (ls.getD i [])) []
theorem cA (l:List UInt8) (h:l.length<=1000):(bd l).length<=1011:=by
 have:=db l.length (by omega);rw[bd,List.length_append];omega
theorem fp (ls:List (List UInt8)) (hs:Small ls):∀n,n<=ls.length->(df ls n).length<=1011*n
 |0,_=>by simp[df,iter]
 |n+1,h=>by
  have ih:=fp ls hs n (by omega);have:=cA _ (hs.2 n (by omega));unfold df at ih⊢;simp only[iter,List.length_append];omega
theorem lp (ls:List (List UInt8)) (n:Nat):df ls (n+1)=df ls n++bd (ls.getD n []):=by
 unfold df;simp only[iter]
def qb (tag:List UInt8) (ls:List (List UInt8)):List UInt8:=bd tag++df ls ls.length
def cM (P:Program) (ι:bh) (k:FuncId):Prop:=∀(tag:List UInt8) (ls:List (List UInt8)) (v:Value) (H:Hp),vA H v ls->Small ls->tag.length<=1000->aE ι H→
 ai P k #[.string ⟨tag.toArray⟩,v] H fun r H'=>r=.agg (w8 (cx (qb tag ls))).toArray/\ae (fun _=>False) H H'
theorem lq {P:Program} {ι:bh} {k:FuncId} (hk:ah P k (fm ι) fo 2) (hn:dd P (ι.f 55)) (hst:bH P (ι.f 59)) (hb:bB P (ι.f 58)) (ho:de P (ι.f 60)) (hs:cz P ι (ι.f 14)):cM P ι k:=by
 intro tag ls v H hv sJ uQ hG;refine ag hk (args:=[_,_]) (by simp) ?_;unfold fm fo kA kB kC kD ke kH kK kO kV kc kd kf kg kY;obtain⟨vs,hS,hlen,hel⟩:=hv;have htl:=cA tag uQ;simp only[go_sem,zS,↓reduceIte,Za,Zb,Zc,reduceCtorEq];refine aR fun H1 b1 e1 z1 B1 K1=>?_;rw[uP]at B1;have k1:=K1.size;simp only[go_sem,zS,↓reduceIte,Za,Zb,Zc,reduceCtorEq,aa];refine(hn _).mono ?_;rintro r H2 ⟨rfl,W2,K2⟩;have p7:=K1.trans K2;have B2:=K2.bl B1 (by simp);simp only[go_sem,zS,↓reduceIte,Za,Zb,Zc,reduceCtorEq,aa];refine(hst _ _ _ _ _ W2 (by simp;omega)).mono ?_;rintro r H3 ⟨rfl,W3,K3⟩;have ni:ae (fun _=>False) H H3:=p7.trans' K3 (fun i hi e=>by omega);have B3:=K3.bl B2 (by omega);have xV:H1.size<H2.size:=W2.bound _ rfl;rw[List.nil_append]at W3;simp only[go_sem,zS,↓reduceIte,Za,Zb,Zc,reduceCtorEq,aa,hS.aT,hS.len,hlen];generalize hw:H1.size=w at*;have xW:=sJ.1;refine aD [15,7,14] rfl (fun n f H'=>∃i F,i<=ls.length/\n=ls.length -i/\f 14=.int .i64 i/\gQ F H' w (bd tag++df ls i)/\(∀k,F k->H.size<=k/\k≠b1)/\Bl H' b1 (w8 (List.replicate 32 0))/\ae (fun _=>False) H H') ls.length
  ⟨0,_,by omega,by omega,rfl,by simpa[df,iter]using W3,fun k h=>?_,B3,ni⟩ ?_
 ·rcases h with h|h
  ·omega
  ·omega
 rintro n g H4 ⟨i,F,hi,rfl,ou,W4,sK,B4,K4⟩;simp only[go_sem,zS,↓reduceIte,Za,Zb,Zc,reduceCtorEq,aa]at ou;simp only[go_sem,zS,↓reduceIte,Za,Zb,Zc,reduceCtorEq,aa,ou];refine au (fun hlt=>?_) (fun o8=>?_)
 ·have ki:i<ls.length:=by omega
  obtain⟨bV,oV,cV,rfl,-,-⟩:=hS.cells (by intro e;rw[e]at hlen;simp at hlen;omega);have hg:vs[i]?=some (vs.getD i undef):=by
   have:i<vs.length:=by omega
   simp[List.getD_eq_getElem?_getD,this]
  have hcell:=(hS.ax K4 (by simp)).j7 (i:=i) (by omega);rw[hg]at hcell;have uR:=(hel i ki).ax K4 (by simp);have hold:∀k,cQ (vs.getD i undef) k->¬F k:=fun k h hF=>by have:=(hel i ki).nS h;have:=sK k hF;omega
  have he:=fp ls sJ i (by omega);have hx:=sJ.2 i ki;simp(disch:=omega)only[go_sem,zS,↓reduceIte,Za,Zb,Zc,reduceCtorEq,aa,ou,hcell,hlen,aq];refine And.intro (by omega) ?_;refine(hb _ _ _ _ _ _ W4 uR hold (by rw[List.length_append];omega)).mono ?_;rintro r H5 ⟨rfl,W5,K5⟩;have k4:=K4.size;have k5:=K5.size;simp(disch:=omega)only[go_sem,zS,↓reduceIte,Za,Zb,Zc,reduceCtorEq,aa,ou,IntWalk.i64_in];refine⟨ls.length -(i+1),by omega,i+1,_,by omega,rfl,by simp,by rw[lp,<-List.append_assoc];exact W5,fun k h=>?_,K5.bl B4 (fun h=>(sK _ h).2 rfl),K4.trans' K5 (fun j hj h=>by have:=sK j h;omega)⟩;have qF:=B4.lt;rcases h with h|h
  ·exact sK k h
  ·exact⟨by omega,by omega⟩
 ·have ki:i=ls.length:=by omega
  subst ki;have he:=fp ls sJ ls.length (Nat.le_refl _);refine(ho _ _ _ _ W4 (by rw[List.length_append];omega)).mono ?_;rintro r H5 ⟨O5,o5,K5⟩;have qJ:=K4.trans K5;simp only[go_sem,zS,↓reduceIte,Za,Zb,Zc,reduceCtorEq,aa];refine(hs _ _ _ O5.sl (hG.ax qJ (by simp) (by simp))).mono ?_;rintro r H6 ⟨rfl,K6⟩;have xf:=qJ.trans K6;have B6:=K6.bl (K5.bl B4 (by simp)) (by simp);have hsl:=cy (bd tag++df ls ls.length);have U:=B6.a6 0 (w8 (cx (bd tag++df ls ls.length)));rw[ec _ _ (by rw[af,hsl];simp[w8])]at U;have t32:List.take 32 (w8 (cx (bd tag++df ls ls.length)))=w8 (cx (bd tag++df ls ls.length)):=List.take_of_length_le (by rw[af,hsl];omega);simp only[go_sem,zS,↓reduceIte,Za,Zb,Zc,reduceCtorEq,aa,cr,c9,eg,bo,U.aJ (o:=0) (n:=32) (by rw[af,hsl];omega),List.drop_zero,t32];exact⟨⟨B6.eo (by simp[af]),by rw[af,hsl],bS _⟩,rfl,xf.a6 _ (.inr (by simp only[];omega))⟩
end Go.Mg

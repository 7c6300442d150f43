/- Lemmas of ours. No conditions. -/
import Derived.Test.YtkfikjdbdfekfabDoorMgSnd2
namespace Go.Mg
open Go Go.RowKit
inductive RV where
 |t (n:Nat)
 |c1 (n:Nat)
 |cn (n size:Nat)
def q6 (P:Program) (L:List Nat):ResultVar->Option RV
 |.tmp t=>if L.contains t then some (.t t)else none
 |.cell a ty=>if L.contains a then(if dk P ty then some (.c1 a)else if iT P ty then some (.cn a (P.cellsOf ty))else none)else none
def RV.pre (f:Fr) (H:Hp):RV->Prop
 |.t _=>True
 |.c1 n=>(nx H (f n)).isSome=true
 |.cn n s=>(cS H (f n) s).isSome=true
def RV.val (f:Fr) (H:Hp):RV->Value
 |.t n=>f n
 |.c1 n=>(nx H (f n)).getD undef
 |.cn n s=>.agg ((cS H (f n) s).getD #[])
def dp (f:Fr) (H:Hp):List RV->Prop
 |[]=>True
 |r::l=>r.pre f H/\dp f H l
def eJ (f:Fr) (H:Hp):List RV->Value
 |[r]=>r.val f H
 |l=>.tuple (l.map (RV.val f H)).toArray
def nI (rs:List RV) (R:Value->Hp->Prop):Ex->Fr->Hp->Prop
 |.x _,_,_=>False
 |_,f,H=>dp f H rs/\R (eJ f H rs) H
def cF:Nat->List Value->Env
 |_,[]=>[]
 |k,x::l=>(k,x)::cF (k+1) l
def s0:Operand->List Nat
 |.tmp t=>[t]
 |_=>[]
def jW:List Nat->List Oper->List Nat
 |_,[]=>[]
 |ds,o::l=>(o.op.operands.toList.flatMap s0).filter (fun t=>!ds.contains t)++jW (match o.dst with|some d=>d::ds|none=>ds) l
def live:Code->List Nat
 |.region _ ops _=>jW [] ops.toList
 |.seq a b=>live a++live b
 |.cond c a b=>s0 c++live a++live b
 |.block _ c=>live c
 |.loop c=>live c
 |.rangeFunc g ps a b=>s0 g++ps.toList++live a++live b
 |_=>[]
def q7:ResultVar->List Nat
 |.tmp t=>[t]
 |.cell a _=>[a]
def o0 (fn:Func):List Nat:=((match fn.body with|some c=>live c|none=>[])++fn.results.toList.flatMap q7).eraseDups
def l9 (P:Program) (fn:Func):Option (S×List RV):=
 fn.body.bind fun c=>(trans P (o0 fn) fn.ntmps c).bind fun s=>(fn.results.toList.mapM (q6 P (o0 fn))).map fun rs=>(s,rs)
structure ah (P:Program) (k:FuncId) (s:S) (rs:List RV) (np:Nat):Prop where
 ok:∃fn c L,P.funcs[k]?=some fn/\fn.body=some c/\trans P L fn.ntmps c=some s/\fn.results.toList.mapM (q6 P L)=some rs/\np<=fn.ntmps
 mix:P.follows .mixedOrders=true
 body:cK P k=true
variable {P:Program} {k:FuncId} {s:S} {np:Nat}
theorem ah.mk' {fn:Func} {rs:List RV} (hf:P.funcs[k]?=some fn) (hm:P.follows .mixedOrders=true) (hc:l9 P fn=some (s,rs)) (hn:decide (np<=fn.ntmps)=true)
  (hb:(fn.name== "runtime.NumGoroutine")=false):ah P k s rs np:=by
 unfold l9 at hc;obtain⟨c,h1,hc⟩:=Option.bind_eq_some_iff.1 hc;obtain⟨s',h2,hc⟩:=Option.bind_eq_some_iff.1 hc;obtain⟨xI,h3,hc⟩:=Option.map_eq_some_iff.1 hc
 cases hc
 refine⟨⟨fn,c,_,hf,h1,h2,h3,of_decide_eq_true hn⟩,hm,?_⟩;simp[cK,hf,h1,hb]
theorem eK:∀(l:List Value) (k t:Nat),look (cF k l) (k+t)=l.getD t undef
 |[],k,t=>by simp[cF,look]
 |x::l,k,t=>by
  cases t with
  |zero=>simp[cF,look]
  |succ t=>
   have:=eK l (k+1) t;simp only[cF,look];rw[if_neg (by omega),show k+(t+1)=k+1+t by omega,this];simp
def qv (tm:Array Value):ResultVar->Sem Value
 |.tmp t=>pure (tm.getD t undef)
 |.cell b t=>do loadVar t (←asAddr (tm.getD b undef))
theorem iB (fn:Func) (tm:Array Value):results fn tm=(do let vs<-fn.results.mapM (qv tm);pure (if h:vs.size=1 then vs[0]else .tuple vs)):=by
 unfold results
 congr 1
theorem jX {P:Program} {D:List Deferred} {L:List Nat} {n:Nat} {a:Act} {f:Fr} (hr:Rel D L n a f) {w:World}:∀{rv:List ResultVar} {rs:List RV},rv.mapM (q6 P L)=some rs->dp f w.heap rs→
  (rv.mapM (qv a.tmps)).run P w=.ok (rs.map (RV.val f w.heap)) w
 |[],rs,h,_=>by cases h;simp
 |x::l,rs,h,hp=>by
  simp only[List.mapM_cons,bind,Option.bind_eq_some_iff]at h;obtain⟨y,hy,ys,wB,h⟩:=h
  cases h
  obtain⟨p1,p2⟩:=hp;have ih:=jX hr (w:=w) wB p2;have h1:(qv a.tmps x).run P w=.ok (y.val f w.heap) w:=by
   cases x with
   |tmp t=>
    simp only[q6]at hy
    split at hy
    ·rename_i hc;cases hy;simp only[qv,Sem.run_pure,RV.val,hr.l t hc]
    ·cases hy
   |cell b t=>
    simp only[q6]at hy
    split at hy
    case isFalse=>cases hy
    rename_i hc;have hv:=hr.l b hc
    split at hy
    ·rename_i qO
     cases hy
     simp only[RV.pre]at p1;simp only[RV.val];simp only[qv,hv];unfold nx at*
     split at p1
     case h_2=>cases p1
     rename_i p s5;obtain⟨v,hv2⟩:=Option.isSome_iff_exists.1 p1;rw[s5];simp only[hv2,asAddr,loadVar,Sem.run_bind,Sem.run_pure,Result.andThen,cg qO,Bool.false_eq_true,if_false,en rfl hv2,Option.getD_some]
    ·split at hy
     case isFalse=>cases hy
     rename_i nv
     cases hy
     simp only[RV.pre]at p1;simp only[RV.val];simp only[qv,hv];unfold cS at*
     split at p1
     case h_2=>cases p1
     rename_i p s5;obtain⟨v,hv2⟩:=Option.isSome_iff_exists.1 p1;rw[s5];obtain⟨g1,g2⟩:=bq nv w;simp only[hv2,asAddr,loadVar,Sem.run_bind,Sem.run_pure,Result.andThen,g1,if_true,aj P t g2,dW hv2,Option.getD_some]
  simp[List.mapM_cons,h1,ih,Result.andThen]
theorem ag {rs:List RV} (hk:ah P k s rs np) {args:List Value} (ha:args.length<=np) {H:Hp} {R:Value->Hp->Prop}
  (h:vc P s (nI rs R) (look (cF 0 args)) H):ai P k args.toArray H R:=by
 obtain⟨⟨fn,c,L,hf,hb,ht,hres,hn⟩,hmix,_⟩:=hk;intro w hw;refine calls_of_wp hf hb ?_;have hr:Rel [] L fn.ntmps {tmps:=args.toArray++Array.replicate (fn.ntmps -args.toArray.size) undef,defers:=[]} (look (cF 0 args)):=by
  refine⟨rfl,by simp;omega,fun t _=>?_⟩;have:=eK args 0 t;rw[Nat.zero_add]at this;rw[this,Array.getD_eq_getD_getElem?,List.getD_eq_getElem?_getD]
  by_cases ht:t<args.length
  ·simp[Array.getElem?_append,ht]
  ·rw[Array.getElem?_append,if_neg (by simpa using ht),List.getElem?_eq_none (by omega)];simp only[Array.getElem?_replicate]
   split<;>rfl
 refine wp_mono (l8 hmix c s ht _ _ _ w (hw▸h) hr) ?_;rintro e a' w' ⟨e',f',rfl,hq,dY,cP⟩;have fin:nI rs R .r f' w'.heap->∃v,(results fn a'.tmps).run P w'=.ok v w'/\∃v',Ending.returned v=.returned v'/\R v' w'.heap/\aI w w':=by
  rintro⟨h1,h2⟩;refine⟨_,?_,_,rfl,h2,cP⟩;have hrun:=jX (P:=P) dY (w:=w') hres h1;rw[iB,Array.mapM_eq_mapM_toList];simp only[bind_pure_comp,Functor.map_map,Sem.run_map];rw[hrun];simp only[Result.andThen]
  congr 1
  cases rs with
  |nil=>rfl
  |cons r l=>cases l with
   |nil=>rfl
   |cons r2 l=>simp[eJ]
 cases e' with
 |n=>obtain⟨v,g1,v',g2,g3,g4⟩:=fin hq;exact⟨dY.d,v,g1,v',g2,g3,g4⟩
 |r=>obtain⟨v,g1,v',g2,g3,g4⟩:=fin hq;exact⟨dY.d,v,g1,v',g2,g3,g4⟩
 |x i=>exact hq.elim
end Go.Mg

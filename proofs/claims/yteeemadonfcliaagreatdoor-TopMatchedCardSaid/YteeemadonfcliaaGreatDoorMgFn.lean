/- Lemmas of ours. No conditions. -/
import Derived.Test.YteeemadonfcliaaGreatDoorMgSnd2
namespace Go.Mg
open Go Go.RowKit
inductive RV where
 |t (n:Nat)
 |c1 (n:Nat)
 |cn (n size:Nat)
def Iy (P:Program) (L:List Nat):ResultVar->Option RV
 |.tmp t=>if L.contains t then some (.t t)else none
 |.cell a ty=>if L.contains a then(if lQ P ty then some (.c1 a)else if xU P ty then some (.cn a (P.cellsOf ty))else none)else none
def RV.pre (f:Fr) (H:Hp):RV->Prop
 |.t _=>True
 |.c1 n=>(IW H (f n)).isSome=true
 |.cn n s=>(aI H (f n) s).isSome=true
def RV.val (f:Fr) (H:Hp):RV->Value
 |.t n=>f n
 |.c1 n=>(IW H (f n)).getD undef
 |.cn n s=>.agg ((aI H (f n) s).getD #[])
def cU (f:Fr) (H:Hp):List RV->Prop
 |[]=>True
 |r::l=>r.pre f H/\cU f H l
def cV (f:Fr) (H:Hp):List RV->Value
 |[r]=>r.val f H
 |l=>.tuple (l.map (RV.val f H)).toArray
def kx (rs:List RV) (R:Value->Hp->Prop):Ex->Fr->Hp->Prop
 |.x _,_,_=>False
 |_,f,H=>cU f H rs/\R (cV f H rs) H
def dJ:Nat->List Value->Env
 |_,[]=>[]
 |k,x::l=>(k,x)::dJ (k+1) l
def VC:Operand->List Nat
 |.tmp t=>[t]
 |_=>[]
def AN:List Nat->List Oper->List Nat
 |_,[]=>[]
 |ds,o::l=>(o.op.operands.toList.flatMap VC).filter (fun t=>!ds.contains t)++AN (match o.dst with|some d=>d::ds|none=>ds) l
def live:Code->List Nat
 |.region _ ops _=>AN [] ops.toList
 |.seq a b=>live a++live b
 |.cond c a b=>VC c++live a++live b
 |.block _ c=>live c
 |.loop c=>live c
 |.rangeFunc g ps a b=>VC g++ps.toList++live a++live b
 |_=>[]
def RH:ResultVar->List Nat
 |.tmp t=>[t]
 |.cell a _=>[a]
def ry (fn:Func):List Nat:=((match fn.body with|some c=>live c|none=>[])++fn.results.toList.flatMap RH).eraseDups
def EN (P:Program) (fn:Func):Option (S×List RV):=
 fn.body.bind fun c=>(trans P (ry fn) fn.ntmps c).bind fun s=>(fn.results.toList.mapM (Iy P (ry fn))).map fun rs=>(s,rs)
structure aq (P:Program) (k:FuncId) (s:S) (rs:List RV) (np:Nat):Prop where
 ok:∃fn c L,P.funcs[k]?=some fn/\fn.body=some c/\trans P L fn.ntmps c=some s/\fn.results.toList.mapM (Iy P L)=some rs/\np<=fn.ntmps
 mix:P.follows .mixedOrders=true
 body:bF P k=true
variable {P:Program} {k:FuncId} {s:S} {np:Nat}
theorem aq.mk' {fn:Func} {rs:List RV} (hf:P.funcs[k]?=some fn) (hm:P.follows .mixedOrders=true) (hc:EN P fn=some (s,rs)) (hn:decide (np<=fn.ntmps)=true)
  (hb:(fn.name== "runtime.NumGoroutine")=false):aq P k s rs np:=by
 unfold EN at hc;obtain⟨c,h1,hc⟩:=Option.bind_eq_some_iff.1 hc;obtain⟨s',h2,hc⟩:=Option.bind_eq_some_iff.1 hc;obtain⟨rs',h3,hc⟩:=Option.map_eq_some_iff.1 hc
 cases hc
 refine⟨⟨fn,c,_,hf,h1,h2,h3,of_decide_eq_true hn⟩,hm,?_⟩;simp[bF,hf,h1,hb]
theorem gW:∀(l:List Value) (k t:Nat),look (dJ k l) (k+t)=l.getD t undef
 |[],k,t=>by simp[dJ,look]
 |x::l,k,t=>by
  cases t with
  |zero=>simp[dJ,look]
  |succ t=>
   have:=gW l (k+1) t;simp only[dJ,look];rw[if_neg (by omega),show k+(t+1)=k+1+t by omega,this];simp
def QH (tm:Array Value):ResultVar->Sem Value
 |.tmp t=>pure (tm.getD t undef)
 |.cell b t=>do loadVar t (←asAddr (tm.getD b undef))
theorem mZ (fn:Func) (tm:Array Value):results fn tm=(do let vs<-fn.results.mapM (QH tm);pure (if h:vs.size=1 then vs[0]else .tuple vs)):=by
 unfold results
 congr 1
theorem ss {P:Program} {D:List Deferred} {L:List Nat} {n:Nat} {a:Act} {f:Fr} (hr:Rel D L n a f) {w:World}:∀{rv:List ResultVar} {rs:List RV},rv.mapM (Iy P L)=some rs->cU f w.heap rs→
  (rv.mapM (QH a.tmps)).run P w=.ok (rs.map (RV.val f w.heap)) w
 |[],rs,h,_=>by cases h;simp
 |x::l,rs,h,hp=>by
  simp only[List.mapM_cons,bind,Option.bind_eq_some_iff]at h;obtain⟨y,hy,ys,hys,h⟩:=h
  cases h
  obtain⟨p1,p2⟩:=hp;have ih:=ss hr (w:=w) hys p2;have h1:(QH a.tmps x).run P w=.ok (y.val f w.heap) w:=by
   cases x with
   |tmp t=>
    simp only[Iy]at hy
    split at hy
    ·rename_i hc;cases hy;simp only[QH,Sem.run_pure,RV.val,hr.l t hc]
    ·cases hy
   |cell b t=>
    simp only[Iy]at hy
    split at hy
    case isFalse=>cases hy
    rename_i hc;have hv:=hr.l b hc
    split at hy
    ·rename_i Ru
     cases hy
     simp only[RV.pre]at p1;simp only[RV.val];simp only[QH,hv];unfold IW at*
     split at p1
     case h_2=>cases p1
     rename_i p VD;obtain⟨v,hv2⟩:=Option.isSome_iff_exists.1 p1;rw[VD];simp only[hv2,asAddr,loadVar,Sem.run_bind,Sem.run_pure,Result.andThen,iH Ru,Bool.false_eq_true,if_false,oh rfl hv2,Option.getD_some]
    ·split at hy
     case isFalse=>cases hy
     rename_i hag
     cases hy
     simp only[RV.pre]at p1;simp only[RV.val];simp only[QH,hv];unfold aI at*
     split at p1
     case h_2=>cases p1
     rename_i p VD;obtain⟨v,hv2⟩:=Option.isSome_iff_exists.1 p1;rw[VD];obtain⟨g1,g2⟩:=fk hag w;simp only[hv2,asAddr,loadVar,Sem.run_bind,Sem.run_pure,Result.andThen,g1,if_true,aQ P t g2,nB hv2,Option.getD_some]
  simp[List.mapM_cons,h1,ih,Result.andThen]
theorem ah {rs:List RV} (hk:aq P k s rs np) {args:List Value} (ha:args.length<=np) {H:Hp} {R:Value->Hp->Prop}
  (h:vc P s (kx rs R) (look (dJ 0 args)) H):an P k args.toArray H R:=by
 obtain⟨⟨fn,c,L,hf,hb,ht,hres,hn⟩,hmix,_⟩:=hk;intro w hw;refine calls_of_wp hf hb ?_;have hr:Rel [] L fn.ntmps {tmps:=args.toArray++Array.replicate (fn.ntmps -args.toArray.size) undef,defers:=[]} (look (dJ 0 args)):=by
  refine⟨rfl,by simp;omega,fun t _=>?_⟩;have:=gW args 0 t;rw[Nat.zero_add]at this;rw[this,Array.getD_eq_getD_getElem?,List.getD_eq_getElem?_getD]
  by_cases ht:t<args.length
  ·simp[Array.getElem?_append,ht]
  ·rw[Array.getElem?_append,if_neg (by simpa using ht),List.getElem?_eq_none (by omega)];simp only[Array.getElem?_replicate]
   split<;>rfl
 refine wp_mono (vU hmix c s ht _ _ _ w (hw▸h) hr) ?_;rintro e a' w' ⟨e',f',rfl,hq,ct,bO⟩;have fin:kx rs R .r f' w'.heap->∃v,(results fn a'.tmps).run P w'=.ok v w'/\∃v',Ending.returned v=.returned v'/\R v' w'.heap/\aW w w':=by
  rintro⟨h1,h2⟩;refine⟨_,?_,_,rfl,h2,bO⟩;have hrun:=ss (P:=P) ct (w:=w') hres h1;rw[mZ,Array.mapM_eq_mapM_toList];simp only[bind_pure_comp,Functor.map_map,Sem.run_map];rw[hrun];simp only[Result.andThen]
  congr 1
  cases rs with
  |nil=>rfl
  |cons r l=>cases l with
   |nil=>rfl
   |cons r2 l=>simp[cV]
 cases e' with
 |n=>obtain⟨v,g1,v',g2,g3,g4⟩:=fin hq;exact⟨ct.d,v,g1,v',g2,g3,g4⟩
 |r=>obtain⟨v,g1,v',g2,g3,g4⟩:=fin hq;exact⟨ct.d,v,g1,v',g2,g3,g4⟩
 |x i=>exact hq.elim
end Go.Mg

/- Lemmas of ours. No conditions. -/
import Derived.Test.YtkfikjdbdfekfabDoorMgRow
namespace Go.Mg
open Go Go.ChangeShapes Go.WideShapes Go.RowKit
section
variable {H:Type} {enc:TypeId×Value->H} {P:Program}
theorem hJ {w:World} {base:Nat} {sp:Nat->Bool} {held:Bool} {fuel n:Nat} {t e:TypeId} {k:IntKind} {cs:List Value} {ns:List Int} {p:List MemPlace}
  (ht:P.underlying t=some (.array n e)) (he:P.underlying e=some (.int k)) (h1:P.cellsOf e=1) (hn:P.cellsOf t=n) (hns:ns.length=n)
  (h:DataW.trod enc P w base sp held fuel t cs=some (.agg (ns.map fun x=>.lit (.int k x)),p)):cs=ns.map (Value.int k):=by
 obtain⟨xs,m,-,hx,hl,hxl,hel⟩:=DataW.trod_array ht h;simp only[Prod.mk.injEq,DataW.agg.injEq]at hx;obtain⟨hx,-⟩:=hx;apply List.ext_getElem
 ·simp[hns,hl,hn]
 ·intro i hi ki;have hin:i<n:=by omega
  have:=hel i hin;rw[h1,Nat.mul_one]at this;have vL:i<xs.length:=by omega
  rw[List.getElem?_eq_getElem vL]at this;obtain⟨y,hc,hy,-⟩:=DataW.trod_int he this;have e1:(cs.drop i).take 1=[cs[i]]:=by
   rw[List.drop_eq_getElem_cons hi];rfl
  rw[e1]at hc;simp only[List.cons.injEq,and_true]at hc;rw[hc,List.getElem_map];have xy:i<ns.length:=by omega
  have hg:(ns.map fun x=>(DataW.lit (.int k x):DataW H))[i]?=(xs.map (·.1))[i]?:=by rw[hx]
  rw[List.getElem?_map,List.getElem?_map,List.getElem?_eq_getElem xy,List.getElem?_eq_getElem vL,hy]at hg;simp at hg;rw[hg]
theorem gd {w:World} {name:String} {g:Nat} {n:Nat} {t e:TypeId} {k:IntKind} {cs:Array Value} {ns:List Int} {p:List MemPlace} {fuel:Nat} {d:DataW Unit}
  (hg:P.globalNamed name=some g) (hv:w.var? P name=some cs) (hd:DataW.trod (fun _=>()) P w 0 (fun _=>true) false fuel t cs.toList=some (d,p)) (hdd:d=.agg (ns.map fun x=>.lit (.int k x)))
  (ht:P.underlying t=some (.array n e)) (he:P.underlying e=some (.int k)) (h1:P.cellsOf e=1) (hn:P.cellsOf t=n) (hns:ns.length=n) (h0:0<n) {ps:List MemPlace}
  (hrow:∀x∈MemPlace.row ⟨g,0,none⟩ cs.size,x∈ps) (hz:∀b off,MemPlace.cell b off∈ps->∃c t,w.heap[b]?=some (.cells c t (0,0))):Bl w.heap g (ns.map (Value.int k)):=by
 subst hdd;have sM:=hJ ht he h1 hn hns hd;have ko:0<cs.size:=by
  have:=congrArg List.length sM;simp at this;omega
 obtain⟨c,T,hc⟩:=hz g 0 (hrow _ (MemPlace.mem_row.2 ⟨0,ko,rfl⟩));refine⟨T,?_⟩;rw[hc];have:w.var? P name=some c:=by simp[World.var?,hg,hc]
 rw[hv]at this
 cases this
 rw[<-sM]
end
end Go.Mg

/- Lemmas of ours. No conditions. -/
import Derived.Test.YtoclemmcphgikaaGreatDoorMgGX
set_option maxRecDepth 100000
set_option linter.all false
namespace Go.Mg
open Go Go.RowKit
def Uc {l:List UInt64} {H:Hp} {v:Value} (h:aP H v (cj l)) {i:Nat} (hi:i<l.length):∃b o c,v=.slice (some ⟨b,o,none⟩) l.length c/\cell H ⟨b,o+i,none⟩=some (.int .u64 (l.getD i 0).toNat):=by
 obtain⟨b,o,c,e,-,hc⟩:=h.cells (by intro e;have:=congrArg List.length e;simp[cj]at this;subst this;simp at hi);rw[aI]at e hc;refine⟨b,o,c,e,?_⟩;rw[hc i hi];simp[cj,List.getD_eq_getElem?_getD,hi]
structure AdI (C:Nat) (A:Hp) (lv mv:Value) (vs:List Value) (ms mm:List UInt64):Prop where
 l:br A lv vs
 s:jk A vs ms
 m:br A mv (cj mm)
 ol:∀q,ay lv q->C<=q
 om:∀q,ay mv q->C<=q/\¬ay lv q
 os:∀x∈vs,∀q,aV x q->C<=q/\¬ay lv q/\¬ay mv q
variable {C:Nat} {A:Hp} {lv mv:Value} {vs:List Value} {ms mm:List UInt64}
def AdI.aj {A':Hp} (h:AdI C A lv mv vs ms mm) (hk:af (fun _=>False) A A'):AdI C A' lv mv vs ms mm:=
 ⟨h.l.ai hk (by simp),h.s.aj hk,h.m.ai hk (by simp),h.ol,h.om,h.os⟩
def AdI.bo (h:AdI C A lv mv vs ms mm) {x:Value} (hx:x∈vs) {q:Nat} (hq:aV x q):q<A.size:=by
 obtain⟨j,hj,rfl⟩:=List.getElem_of_mem hx;exact(h.s.at_ j hj (by rw[<-h.s.len];exact hj)).bo (k:=q) hq
end Go.Mg

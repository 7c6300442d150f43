/- Lemmas of ours. No conditions. -/
import Derived.Test.YtoclemmcphgikaaGreatDoorMgGX
set_option linter.all false
set_option maxRecDepth 100000
namespace Go.Mg
open Go Go.RowKit
end Go.Mg
namespace Go.Mg
open Go Go.RowKit
theorem Rm {l:List UInt64} {H:Hp} {v:Value} (h:aO H v (cN l)) {i:Nat} (hi:i<l.length):∃b o c,v=.slice (some ⟨b,o,none⟩) l.length c/\cell H ⟨b,o+i,none⟩=some (.int .u64 (l.getD i 0).toNat):=by
 obtain⟨b,o,c,e,-,hc⟩:=h.cells (by intro e;have:=congrArg List.length e;simp[cN]at this;subst this;simp at hi);rw[aH]at e hc;refine⟨b,o,c,e,?_⟩;rw[hc i hi];simp[cN,List.getD_eq_getElem?_getD,hi]
structure AdI (C:Nat) (A:Hp) (lv mv:Value) (vs:List Value) (ms mm:List UInt64):Prop where
 l:bq A lv vs
 s:iI A vs ms
 m:bq A mv (cN mm)
 ol:∀q,ax lv q->C<=q
 om:∀q,ax mv q->C<=q/\¬ax lv q
 os:∀x∈vs,∀q,aT x q->C<=q/\¬ax lv q/\¬ax mv q
variable {C:Nat} {A:Hp} {lv mv:Value} {vs:List Value} {ms mm:List UInt64}
theorem AdI.aj {A':Hp} (h:AdI C A lv mv vs ms mm) (hk:af (fun _=>False) A A'):AdI C A' lv mv vs ms mm:=
 ⟨h.l.ai hk (by simp),h.s.aj hk,h.m.ai hk (by simp),h.ol,h.om,h.os⟩
theorem AdI.bj (h:AdI C A lv mv vs ms mm) {x:Value} (hx:x∈vs) {q:Nat} (hq:aT x q):q<A.size:=by
 obtain⟨j,hj,rfl⟩:=List.getElem_of_mem hx;exact(h.s.at_ j hj (by rw[<-h.s.len];exact hj)).bj (k:=q) hq
end Go.Mg

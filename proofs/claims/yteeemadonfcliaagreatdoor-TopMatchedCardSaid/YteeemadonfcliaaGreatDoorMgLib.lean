/- Lemmas of ours. No conditions. -/
import Derived.Test.YteeemadonfcliaaGreatDoorMgEl
import Derived.Laws.Externs
namespace Go.Mg
open Go Go.RowKit
structure Mu (P:Program) (f:FuncId) (e:Array Value->Sem Value):Prop where
 mk'::
 fn:∃fn,P.funcs[f]?=some fn/\(fn.name== "runtime.NumGoroutine")=false/\fn.body.isNone=true/\Extern.findNext fn=none/\Extern.find fn=some e
theorem Mu.run {P:Program} {f:FuncId} {e:Array Value->Sem Value} (h:Mu P f e) (args:Array Value) (w:World) {v:Value} (hv:(e args).run P w=.ok v w):(callFunc f args).run P w=.ok (.value v) w:=by
 obtain⟨fn,h1,h2,h3,h4,h5⟩:=h.fn;rw[run_callFunc_extern h1 h2 h3 h4 h5,hv];rfl
theorem Oc (a b:List UInt8):((⟨a.toArray⟩:ByteArray).toList==(⟨b.toArray⟩:ByteArray).toList)=decide (a=b):=by
 rw[ByteArray.toList_eq,ByteArray.toList_eq]
 by_cases h:a=b
 ·subst h;simp
 ·rw[decide_eq_false h];exact beq_eq_false_iff_ne.2 h
theorem fJ (a:List UInt8):(⟨a.toArray⟩:ByteArray).size=a.length:=rfl
theorem Fb (s:List UInt8) (i:Nat) (h:i<s.length):(⟨s.toArray⟩:ByteArray)[i]?.getD 0=s.getD i 0:=by
 have h':i<(⟨s.toArray⟩:ByteArray).size:=by rw[fJ];exact h
 have e:(⟨s.toArray⟩:ByteArray)[i]?=some (s[i]):=by
  exact getElem?_pos (⟨s.toArray⟩:ByteArray) i h'
 rw[e];simp[h]
end Go.Mg

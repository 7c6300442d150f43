/- Lemmas of ours. No conditions. -/
import Derived.Test.YtkfikjdbdfekfabDoorMgOwn
import Derived.Laws.Externs
namespace Go.Mg
open Go Go.RowKit
structure pf (P:Program) (f:FuncId) (e:Array Value->Sem Value):Prop where
 mk'::
 fn:∃fn,P.funcs[f]?=some fn/\(fn.name== "runtime.NumGoroutine")=false/\fn.body.isNone=true/\Extern.findNext fn=none/\Extern.find fn=some e
theorem pf.run {P:Program} {f:FuncId} {e:Array Value->Sem Value} (h:pf P f e) (args:Array Value) (w:World) {v:Value} (hv:(e args).run P w=.ok v w):(callFunc f args).run P w=.ok (.value v) w:=by
 obtain⟨fn,h1,h2,h3,h4,h5⟩:=h.fn;rw[run_callFunc_extern h1 h2 h3 h4 h5,hv];rfl
theorem oE (a:List UInt8):(⟨a.toArray⟩:ByteArray).size=a.length:=rfl
theorem oF (l:List UInt8) (n:Nat):(⟨l.toArray⟩:ByteArray).extract 0 n=⟨(l.take n).toArray⟩:=by
 apply ByteArray.ext;rw[ByteArray.data_extract];simp[List.extract_eq_take_drop]
end Go.Mg

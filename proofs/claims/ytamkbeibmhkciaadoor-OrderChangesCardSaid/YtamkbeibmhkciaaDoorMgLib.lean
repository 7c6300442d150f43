/- readers of the library that have no text: IndexByte, Compare. -/
import Derived.Test.YtamkbeibmhkciaaDoorMgOwn
import Derived.Laws.Externs
namespace Go.Mg
open Go Go.RowKit
structure LibIs (P : Program) (f : FuncId) (e : Array Value → Sem Value) : Prop where
  mk' ::
  fn : ∃ fn, P.funcs[f]? = some fn ∧ (fn.name == "runtime.NumGoroutine") = false ∧ fn.body.isNone = true ∧ Extern.findNext fn = none ∧ Extern.find fn = some e
theorem LibIs.run {P : Program} {f : FuncId} {e : Array Value → Sem Value} (h : LibIs P f e) (args : Array Value) (w : World) {v : Value} (hv : (e args).run P w = .ok v w) : (callFunc f args).run P w = .ok (.value v) w := by
  obtain ⟨fn, h1, h2, h3, h4, h5⟩ := h.fn
  rw [run_callFunc_extern h1 h2 h3 h4 h5, hv]; rfl
end Go.Mg

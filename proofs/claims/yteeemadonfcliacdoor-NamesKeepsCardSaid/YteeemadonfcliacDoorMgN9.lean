/- names: equal tables. -/
import Derived.Test.YteeemadonfcliacDoorMgN8
namespace Go.Mg
open Go Go.RowKit
set_option linter.all false
set_option maxRecDepth 100000
theorem Cl.nsmall {l : List (List UInt8)} (h : Cl l) : NSmall l := ⟨by have := h.len; omega, fun i hi => by have := h.small hi; omega⟩
end Go.Mg

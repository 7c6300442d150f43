/- Several texts of ours in one. No conditions. -/
import Derived.Test.YtamkbeibmhkciaaDoorMgT4
namespace Go.Mg
open Go Go.RowKit
set_option linter.unusedSimpArgs false
set_option linter.unusedVariables false
set_option maxRecDepth 100000
/- arbaclaw06.OrderEnds -/
end Go.Mg

namespace Go.Mg
open Go Go.RowKit
set_option linter.unusedSimpArgs false
set_option linter.unusedVariables false
set_option maxRecDepth 100000
/- arbaclaw06.OrderMakes -/
end Go.Mg

namespace Go.Mg
open Go Go.RowKit
set_option linter.unusedSimpArgs false
set_option linter.unusedVariables false
set_option maxRecDepth 100000
/- arbaclaw06.OrderPairs -/
end Go.Mg

namespace Go.Mg
open Go Go.RowKit
set_option linter.unusedSimpArgs false
set_option linter.unusedVariables false
set_option maxRecDepth 100000
/- arbaclaw06.OrderCovers -/
/-! ### a strict order has at most half of the pairs -/
def sm : Nat → (Nat → Nat) → Nat
  | 0, _ => 0
  | n + 1, f => sm n f + f n
end Go.Mg

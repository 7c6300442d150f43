/- order: the law Pairs. -/
import Derived.Test.YtamkbeibmhkciaaDoorMgT6
namespace Go.Mg
open Go Go.RowKit
set_option linter.unusedSimpArgs false
set_option linter.unusedVariables false
set_option maxRecDepth 100000
/- arbaclaw06.OrderPairs -/
end Go.Mg

/- order: the law Makes. -/
import Derived.Test.YtamkbeibmhkciaaDoorMgT5
namespace Go.Mg
open Go Go.RowKit
set_option linter.unusedSimpArgs false
set_option linter.unusedVariables false
set_option maxRecDepth 100000
/- arbaclaw06.OrderMakes -/
end Go.Mg

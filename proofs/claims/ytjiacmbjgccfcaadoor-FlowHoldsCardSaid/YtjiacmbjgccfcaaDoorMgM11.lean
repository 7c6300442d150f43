/- matching: Least. -/
import Derived.Test.YtjiacmbjgccfcaaDoorMgM10
namespace Go.Mg
open Go Go.RowKit
set_option linter.unusedSimpArgs false
set_option linter.unusedVariables false
set_option maxRecDepth 100000
end Go.Mg

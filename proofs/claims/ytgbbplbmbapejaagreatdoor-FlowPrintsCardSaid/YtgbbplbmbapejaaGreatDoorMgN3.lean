/- names: bytes of a table; the examples; the law of validity. -/
import Derived.Test.YtgbbplbmbapejaaGreatDoorMgN2
import Derived.Test.YtgbbplbmbapejaaGreatDoorMgW2
namespace Go.Mg
open Go Go.RowKit
set_option linter.all false
set_option maxRecDepth 100000
end Go.Mg

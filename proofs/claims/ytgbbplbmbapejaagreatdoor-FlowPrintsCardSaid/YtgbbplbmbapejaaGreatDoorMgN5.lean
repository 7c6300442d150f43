/- names: the laws of nil tables, of keywords, of additions. -/
import Derived.Test.YtgbbplbmbapejaaGreatDoorMgN4
namespace Go.Mg
open Go Go.RowKit
set_option linter.all false
set_option maxRecDepth 100000
end Go.Mg

/- names: the laws of additions and of keywords. -/
import Derived.Test.YtgbbplbmbapejaaGreatDoorMgN5
namespace Go.Mg
open Go Go.RowKit
set_option linter.all false
set_option maxRecDepth 100000
end Go.Mg

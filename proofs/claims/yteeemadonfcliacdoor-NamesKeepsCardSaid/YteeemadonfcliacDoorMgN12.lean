/- names: the laws of reading. -/
import Derived.Test.YteeemadonfcliacDoorMgN11
namespace Go.Mg
open Go Go.RowKit
set_option linter.all false
set_option maxRecDepth 100000
end Go.Mg

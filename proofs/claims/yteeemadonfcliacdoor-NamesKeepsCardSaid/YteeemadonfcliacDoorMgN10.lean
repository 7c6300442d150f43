/- names: the keywords. -/
import Derived.Test.YteeemadonfcliacDoorMgN9
namespace Go.Mg
open Go Go.RowKit
set_option linter.all false
set_option maxRecDepth 100000
end Go.Mg

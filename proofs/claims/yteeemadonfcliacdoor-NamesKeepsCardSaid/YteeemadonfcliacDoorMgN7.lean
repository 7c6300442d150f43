/- names: tables of lists, the reference's lists, and the law about them. -/
import Derived.Test.YteeemadonfcliacDoorMgN6
namespace Go.Mg
open Go Go.RowKit
set_option linter.all false
set_option maxRecDepth 100000
end Go.Mg

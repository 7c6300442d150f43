/- order: what the laws' arguments show: a Raw. -/
import Derived.Test.YtamkbeibmhkciaaDoorMgT1
import Derived.Test.YtamkbeibmhkciaaDoorMgOpen3
namespace Go.Mg
open Go Go.ChangeShapes Go.WideShapes Go.RowKit
section
variable {H : Type} {enc : TypeId × Value → H} {P : Program}
end
end Go.Mg

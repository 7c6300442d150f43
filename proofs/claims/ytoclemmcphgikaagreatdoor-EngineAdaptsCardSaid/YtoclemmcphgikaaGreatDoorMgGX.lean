/- Several texts of ours in one. No conditions. -/
import Derived.Test.YtoclemmcphgikaaGreatDoorMgGT
import Derived.Test.YtoclemmcphgikaaGreatDoorMgGI
namespace Go.Mg
open Go Go.RowKit
set_option linter.all false
set_option maxRecDepth 100000
end Go.Mg
namespace Go.Mg
open Go Go.RowKit
set_option linter.all false
set_option maxRecDepth 100000
structure RnI (r:RawF) (H:Hp) (rb:Nat) (st:List Int):Prop where
 run:RunV H rb (mkF r) ((masksF r).map bt) st
 ok:okS (mkF r).st.length st
 ne:cmpV (mkF r) (masksF r) st≠[]
theorem RnI.keep0 {r:RawF} {H H':Hp} {rb:Nat} {st:List Int} (h:RnI r H rb st) (hk:Keep (fun _=>False) H H'):RnI r H' rb st:=⟨h.run.keep0 hk,h.ok,h.ne⟩
end Go.Mg
namespace Go.Mg
open Go Go.RowKit
set_option linter.all false
set_option maxRecDepth 100000
end Go.Mg
namespace Go.Mg
open Go Go.RowKit
set_option linter.all false
set_option maxRecDepth 100000
end Go.Mg

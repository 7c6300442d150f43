/- Lemmas of ours. No conditions. -/
import Derived.Test.YtoclemmcphgikaaGreatDoorMgGT
set_option linter.all false
set_option maxRecDepth 100000
namespace Go.Mg
open Go Go.RowKit
end Go.Mg
namespace Go.Mg
open Go Go.RowKit
structure RnI (r:dX) (H:Hp) (rb:Nat) (st:List Int):Prop where
 run:dI H rb (dt r) ((bf r).map bt) st
 ok:Ec (dt r).st.length st
 ne:qW (dt r) (bf r) st≠[]
theorem RnI.aj {r:dX} {H H':Hp} {rb:Nat} {st:List Int} (h:RnI r H rb st) (hk:af (fun _=>False) H H'):RnI r H' rb st:=⟨h.run.aj hk,h.ok,h.ne⟩
end Go.Mg
namespace Go.Mg
open Go Go.RowKit
end Go.Mg
namespace Go.Mg
open Go Go.RowKit
end Go.Mg

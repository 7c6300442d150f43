/- Lemmas of ours. No conditions. -/
import Derived.Test.YtoclemmcphgikaaGreatDoorMgGT
set_option maxRecDepth 100000
set_option linter.all false
namespace Go.Mg
open Go Go.RowKit
structure RnI (r:cF) (H:Hp) (rb:Nat) (st:List Int):Prop where
 run:cH H rb (bu r) ((aD r).map bt) st
 ok:uC (bu r).st.length st
 ne:eN (bu r) (aD r) st≠[]
def RnI.aj {r:cF} {H H':Hp} {rb:Nat} {st:List Int} (h:RnI r H rb st) (hk:af (fun _=>False) H H'):RnI r H' rb st:=⟨h.run.aj hk,h.ok,h.ne⟩
end Go.Mg

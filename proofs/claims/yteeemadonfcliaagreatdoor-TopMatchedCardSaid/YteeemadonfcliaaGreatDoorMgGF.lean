/- Lemmas of ours. No conditions. -/
import Derived.Test.YteeemadonfcliaaGreatDoorMgGD
set_option linter.all false
set_option maxRecDepth 100000
namespace Go.Mg
open Go Go.RowKit
end Go.Mg
namespace Go.Mg
open Go Go.RowKit
def PT (W:Nat->Prop) (H:Hp) (rb:Nat):Prop:=¬W rb/\∃ev,cell H ⟨rb,5,none⟩=some ev/\∀q,aU ev q->¬W q
variable {H:Hp} {rb:Nat}
theorem PT.aj {W:Nat->Prop} {H':Hp} (h:PT W H rb) (hl:rb<H.size) (hk:af (fun _=>False) H H'):PT W H' rb:=by
 obtain⟨h1,ev,h2,h3⟩:=h;exact⟨h1,ev,by rw[hk.cell hl (by simp)];exact h2,h3⟩
theorem lK.lt {F:jn} {el:List (Nat->Bool)} {st:List Int} (h:lK H rb F el st):rb<H.size:=by
 obtain⟨s,b,d,a,m,ev,sv,vs,h1,_⟩:=h;exact h1.lt
end Go.Mg

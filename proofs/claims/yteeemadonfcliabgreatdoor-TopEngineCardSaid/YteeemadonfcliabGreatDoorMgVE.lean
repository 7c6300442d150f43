/- Lemmas of ours. No conditions. -/
import Derived.Test.YteeemadonfcliabGreatDoorMgVC
set_option linter.all false
set_option maxRecDepth 100000
namespace Go.Mg
open Go Go.RowKit
def AF:dz:={st:=[([111,114,100,101,114],1),([99,104,101,99,107],2),([112,97,121],1)],be:=[(0,1),(1,2)],di:=[(0,2)],sa:=[],mo:=[]}
structure AwA (ι:aC) (A:Hp) (f:Fr):Prop where
 x:∃b1 s b d,f 1=.pointer (some ⟨b1,0,none⟩)/\Bl A b1 [s,b,d,.slice none 0 0,.slice none 0 0]/\bW A (.agg #[s,b,d,.slice none 0 0,.slice none 0 0]) AF
 y:∃b3,f 3=.pointer (some ⟨b3,0,none⟩)/\Bl A b3 [.int .i64 1,.int .i64 0]
 z:∃b7,f 7=.pointer (some ⟨b7,0,none⟩)/\Bl A b7 [.int .i64 3,.int .i64 0]
 f4:f 4=.bool false
 f6:f 6=.bool true
 f8:f 8=.bool false
 tab:aU ι A
theorem AwA.ag {ι:aC} {A A':Hp} {f:Fr} (h:AwA ι A f) (hk:af (fun _=>False) A A'):AwA ι A' f:=by
 obtain⟨⟨b1,s,b,d,h1,h2,h3⟩,⟨b3,h4,h5⟩,⟨b7,h6,h7⟩,h8,h9,Zu,h11⟩:=h;exact⟨⟨b1,s,b,d,h1,hk.bl h2 (by simp),h3.ai hk⟩,⟨b3,h4,hk.bl h5 (by simp)⟩,⟨b7,h6,hk.bl h7 (by simp)⟩,h8,h9,Zu,h11.ag hk⟩
end Go.Mg
namespace Go.Mg
open Go Go.RowKit
end Go.Mg

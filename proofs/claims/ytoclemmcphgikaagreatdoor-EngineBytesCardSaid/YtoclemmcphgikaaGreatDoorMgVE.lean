/- Lemmas of ours. No conditions. -/
import Derived.Test.YtoclemmcphgikaaGreatDoorMgVC
set_option maxRecDepth 100000
set_option linter.all false
namespace Go.Mg
open Go Go.RowKit
def AF:cf:={st:=[([111,114,100,101,114],1),([99,104,101,99,107],2),([112,97,121],1)],be:=[(0,1),(1,2)],di:=[(0,2)],sa:=[],mo:=[]}
structure AwA (V:aH) (A:Hp) (f:Fr):Prop where
 x:∃b1 s b d,f 1=.pointer (some ⟨b1,0,none⟩)/\Bl A b1 [s,b,d,.slice none 0 0,.slice none 0 0]/\bZ A (.agg #[s,b,d,.slice none 0 0,.slice none 0 0]) AF
 y:∃b3,f 3=.pointer (some ⟨b3,0,none⟩)/\Bl A b3 [.int .i64 1,.int .i64 0]
 z:∃b7,f 7=.pointer (some ⟨b7,0,none⟩)/\Bl A b7 [.int .i64 3,.int .i64 0]
 f4:f 4=.bool false
 f6:f 6=.bool true
 f8:f 8=.bool false
 tab:bh V A
def AwA.ai {V:aH} {A A':Hp} {f:Fr} (h:AwA V A f) (hk:af (fun _=>False) A A'):AwA V A' f:=by
 obtain⟨⟨b1,s,b,d,h1,h2,h3⟩,⟨b3,h4,h5⟩,⟨b7,h6,h7⟩,h8,h9,h10,h11⟩:=h;exact⟨⟨b1,s,b,d,h1,hk.bl h2 id,h3.aj hk⟩,⟨b3,h4,hk.bl h5 id⟩,⟨b7,h6,hk.bl h7 id⟩,h8,h9,h10,h11.ai hk⟩
variable {f:cf} {H:Hp} {s b d a m:Value}
def bZ.bM (h:bZ H (.agg #[s,b,d,a,m]) f):Mg.bM #[s,b,d,a,m]:=by
 obtain⟨s',b',d',a',m',ms,e,h1,h2,h3,h4,h5,_⟩:=h;simp only[Value.agg.injEq,Array.mk.injEq,List.cons.injEq,and_true]at e;obtain⟨rfl,rfl,rfl,rfl,rfl⟩:=e;obtain⟨_,_,rfl,_⟩:=h1.mk;obtain⟨_,_,rfl,_⟩:=h2.mk;obtain⟨_,_,rfl,_⟩:=h3.mk;obtain⟨_,_,rfl,_⟩:=h4.mk;obtain⟨_,_,rfl,_⟩:=h5.mk;exact aU rfl
def dF.bM (h:dF H (.agg #[s,b,d,a,m]) f):Mg.bM #[s,b,d,a,m]:=by
 obtain⟨s',b',d',a',m',e,h1,h2,h3,h4,h5⟩:=h;simp only[Value.agg.injEq,Array.mk.injEq,List.cons.injEq,and_true]at e;obtain⟨rfl,rfl,rfl,rfl,rfl⟩:=e;obtain⟨_,_,rfl,_⟩:=h1.mk;obtain⟨_,_,rfl,_⟩:=h2.mk;obtain⟨_,_,rfl,_⟩:=h3.mk;obtain⟨_,_,rfl,_⟩:=h4.mk;obtain⟨_,_,rfl,_⟩:=h5.mk;exact aU rfl
end Go.Mg

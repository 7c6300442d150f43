/- Lemmas of ours. No conditions. -/
import Derived.WalkKit
import Derived.StillTailTactics
import Derived.Deep.LoopGhost
namespace Go.Mg
open Go Go.RowKit
abbrev Hp:=Array Obj
abbrev Fr:=Nat->Value
abbrev Env:=List (Nat×Value)
structure aI (w w':World):Prop where
 os:w'.os=w.os
 tape:w'.tape=w.tape
 output:w'.output=w.output
theorem aI.refl (w:World):aI w w:=⟨rfl,rfl,rfl⟩
theorem aI.trans {a b c:World} (h:aI a b) (k:aI b c):aI a c:=⟨k.os.trans h.os,k.tape.trans h.tape,k.output.trans h.output⟩
def ai (P:Program) (f:FuncId) (args:Array Value) (H:Hp) (R:Value->Hp->Prop):Prop:=
 ∀w:World,w.heap=H->Calls P f args w fun e w'=>∃v,e=.returned v/\R v w'.heap/\aI w w'
theorem ai.mono {P:Program} {f:FuncId} {args:Array Value} {H:Hp} {R R':Value->Hp->Prop} (h:ai P f args H R) (hr:∀v H',R v H'->R' v H'):ai P f args H R':=
 fun w hw=>(h w hw).mono fun _ _ ⟨v,he,hR,hs⟩=>⟨v,he,hr _ _ hR,hs⟩
inductive A where
 |t (n:Nat)
 |v (n:Nat)
 |c (x:Value)
def look:Env->Nat->Value
 |[],_=>undef
 |p::e,n=>if n=p.1 then p.2 else look e n
def A.rd (e:Env) (f:Fr):A->Value
 |.t n=>look e n
 |.v n=>f n
 |.c x=>x
def ng (f:Fr) (d:Nat) (x:Value):Fr:=fun i=>if i=d then x else f i
inductive D where
 |no
 |t (n:Nat)
 |v (n:Nat)
def D.env:D->Value->Env->Env
 |.t n,x,e=>(n,x)::e
 |_,_,e=>e
def D.fr:D->Value->Fr->Fr
 |.v n,x,f=>ng f n x
 |_,_,f=>f
def cell (H:Hp) (a:Addr):Option Value:=
 match H[a.block]? with
 |some (.cells c _ _)=>if a.spot.isSome then none else c[a.off]?
 |_=>none
def cE (H:Hp) (a:Addr):Bool:=
 match H[a.block]? with
 |some (.cells _ _ (lo,hi))=>lo<=a.off&&a.off<hi
 |_=>false
def al (H:Hp) (a:Addr) (v:Value):Hp:=
 H.modify a.block fun
  |.cells c elem frozen=>.cells (if a.spot.isSome then c else c.setIfInBounds a.off v) elem frozen
  |o=>o
theorem nk (w:World) (a:Addr):w.cell? a=cell w.heap a:=rfl
theorem nm (w:World) (a:Addr) (v:Value):w.setCell a v={w with heap:=al w.heap a v}:=rfl
def _root_.Go.Value.i:Value->Int|.int _ n=>n|_=>0
def _root_.Go.Value.b:Value->Bool|.bool b=>b|_=>false
def cb (k:IntKind):Value->Prop|.int k' _=>k'=k|_=>False
def lJ:Value->Prop|.bool _=>True|_=>False
def qK (P:Program) (o:Oper) (a:Act) (w:World) (K:Value->Hp->Prop):Prop:=
 ∀(next:Act->World->Prop) (Q:Exit->Act->World->Prop),(∀v w',K v w'.heap->aI w w'->next (a.put o.dst v) w')->o.upon P a next Q ((execOp a.eval o).run P w)
end Go.Mg

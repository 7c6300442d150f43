/- Lemmas of ours. No conditions. -/
import Derived.Test.YtoclemmcphgikaaGreatDoorMgLp
set_option linter.all false
namespace Go.Mg
open Go Go.RowKit
def JE (R:Hp->Hp->Prop) (x:PX) (r:A->Value) (H:Hp):Prop:=if x.free=true then x.pre r H else∀H',R H H'->x.pre r H'/\x.val r H'=x.val r H
def Ho (P:Program) (R:Hp->Hp->Prop):T->Env->Fr->Hp->(Fr->Hp->Prop)->Prop
 |.done,_,f,H,Q=>Q f H
 |.px d none x t,e,f,H,Q=>JE R x (A.rd e f) H/\Ho P R t (d.env (x.val (A.rd e f) H) e) (d.fr (x.val (A.rd e f) H) f) H Q
 |.px d (some (y,b)) x t,e,f,H,Q=>(gb (y.rd e f) b=true->JE R x (A.rd e f) H)∧
   Ho P R t (d.env (if gb (y.rd e f) b=true then x.val (A.rd e f) H else undef) e) (d.fr (if gb (y.rd e f) b=true then x.val (A.rd e f) H else undef) f) H Q
 |.wcons d none x t m,e,f,H,Q=>x.wp P (A.rd e f) H (fun v H'=>R H H'/\Ho P R t (d.env v e) (d.fr v f) H' Q)/\Ho P R m e f H Q
 |.wcons d (some (y,b)) x t m,e,f,H,Q=>((gb (y.rd e f) b=true->x.wp P (A.rd e f) H (fun v H'=>R H H'/\Ho P R t (d.env v e) (d.fr v f) H' Q))∧
   (gb (y.rd e f) b=false->Ho P R t (d.env undef e) (d.fr undef f) H Q))/\Ho P R m e f H Q
 |.wnil,_,_,_,_=>True
section
variable (P:Program) (R:Hp->Hp->Prop)
@[go_sem] theorem ab3 (x:PX) (r:A->Value) (H:Hp):JE R x r H=if x.free=true then x.pre r H else∀H',R H H'->x.pre r H'/\x.val r H'=x.val r H:=rfl
@[go_sem] theorem ab4 (e:Env) (f:Fr) (H:Hp) (Q):Ho P R .done e f H Q=Q f H:=rfl
@[go_sem] theorem ab5 (e:Env) (f:Fr) (H:Hp) (Q):Ho P R .wnil e f H Q=True:=rfl
@[go_sem] theorem ae7 (d:D) (x:PX) (t:T) (e:Env) (f:Fr) (H:Hp) (Q):
  Ho P R (.px d none x t) e f H Q=(JE R x (A.rd e f) H/\Ho P R t (d.env (x.val (A.rd e f) H) e) (d.fr (x.val (A.rd e f) H) f) H Q):=rfl
def Xw (P:Program) (R:Hp->Hp->Prop) (H0:Hp) (d:D) (t:T) (e:Env) (f:Fr) (Q:Fr->Hp->Prop) (v:Value) (H:Hp):Prop:=R H0 H/\Ho P R t (d.env v e) (d.fr v f) H Q
@[go_sem] theorem ab6 (H0:Hp) (d:D) (t:T) (e:Env) (f:Fr) (Q) (v:Value) (H:Hp):Xw P R H0 d t e f Q v H=(R H0 H/\Ho P R t (d.env v e) (d.fr v f) H Q):=rfl
@[go_sem] theorem afC (d:D) (x:EX) (t m:T) (e:Env) (f:Fr) (H:Hp) (Q):
  Ho P R (.wcons d none x t m) e f H Q=(x.wp P (A.rd e f) H (Xw P R H d t e f Q)/\Ho P R m e f H Q):=rfl
end
end Go.Mg

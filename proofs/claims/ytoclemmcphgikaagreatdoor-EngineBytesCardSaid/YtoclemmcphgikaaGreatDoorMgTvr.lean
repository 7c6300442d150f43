/- Lemmas of ours. No conditions. -/
import Derived.Test.YtoclemmcphgikaaGreatDoorMgLp
set_option linter.all false
namespace Go.Mg
open Go Go.RowKit
def Mj (R:Hp->Hp->Prop) (x:PX) (r:A->Value) (H:Hp):Prop:=if x.free=true then x.pre r H else∀H',R H H'->x.pre r H'/\x.val r H'=x.val r H
def Jn (P:Program) (R:Hp->Hp->Prop):T->Env->Fr->Hp->(Fr->Hp->Prop)->Prop
 |.done,_,f,H,Q=>Q f H
 |.px d none x t,e,f,H,Q=>Mj R x (A.rd e f) H/\Jn P R t (d.env (x.val (A.rd e f) H) e) (d.fr (x.val (A.rd e f) H) f) H Q
 |.px d (some (y,b)) x t,e,f,H,Q=>(gb (y.rd e f) b=true->Mj R x (A.rd e f) H)∧
   Jn P R t (d.env (if gb (y.rd e f) b=true then x.val (A.rd e f) H else undef) e) (d.fr (if gb (y.rd e f) b=true then x.val (A.rd e f) H else undef) f) H Q
 |.wcons d none x t m,e,f,H,Q=>x.wp P (A.rd e f) H (fun v H'=>R H H'/\Jn P R t (d.env v e) (d.fr v f) H' Q)/\Jn P R m e f H Q
 |.wcons d (some (y,b)) x t m,e,f,H,Q=>((gb (y.rd e f) b=true->x.wp P (A.rd e f) H (fun v H'=>R H H'/\Jn P R t (d.env v e) (d.fr v f) H' Q))∧
   (gb (y.rd e f) b=false->Jn P R t (d.env undef e) (d.fr undef f) H Q))/\Jn P R m e f H Q
 |.wnil,_,_,_,_=>True
section
variable (P:Program) (R:Hp->Hp->Prop)
@[go_sem] theorem aip (x:PX) (r:A->Value) (H:Hp):Mj R x r H=if x.free=true then x.pre r H else∀H',R H H'->x.pre r H'/\x.val r H'=x.val r H:=rfl
@[go_sem] theorem aiq (e:Env) (f:Fr) (H:Hp) (Q):Jn P R .done e f H Q=Q f H:=rfl
@[go_sem] theorem air (e:Env) (f:Fr) (H:Hp) (Q):Jn P R .wnil e f H Q=True:=rfl
@[go_sem] theorem aly (d:D) (x:PX) (t:T) (e:Env) (f:Fr) (H:Hp) (Q):
  Jn P R (.px d none x t) e f H Q=(Mj R x (A.rd e f) H/\Jn P R t (d.env (x.val (A.rd e f) H) e) (d.fr (x.val (A.rd e f) H) f) H Q):=rfl
def aer (P:Program) (R:Hp->Hp->Prop) (H0:Hp) (d:D) (t:T) (e:Env) (f:Fr) (Q:Fr->Hp->Prop) (v:Value) (H:Hp):Prop:=R H0 H/\Jn P R t (d.env v e) (d.fr v f) H Q
@[go_sem] theorem ais (H0:Hp) (d:D) (t:T) (e:Env) (f:Fr) (Q) (v:Value) (H:Hp):aer P R H0 d t e f Q v H=(R H0 H/\Jn P R t (d.env v e) (d.fr v f) H Q):=rfl
@[go_sem] theorem ama (d:D) (x:EX) (t m:T) (e:Env) (f:Fr) (H:Hp) (Q):
  Jn P R (.wcons d none x t m) e f H Q=(x.wp P (A.rd e f) H (aer P R H d t e f Q)/\Jn P R m e f H Q):=rfl
end
end Go.Mg

/- regions that draw their order, over any relation that all their effects keep. -/
import Derived.Test.YtgbbplbmbapejaaGreatDoorMgLp
namespace Go.Mg
open Go Go.RowKit
set_option linter.all false
def stabR (R : Hp -> Hp -> Prop) (x : PX) (r : A -> Value) (H : Hp) : Prop := if x.free = true then x.pre r H else ∀ H', R H H' -> x.pre r H' /\ x.val r H' = x.val r H
def tvr (P : Program) (R : Hp -> Hp -> Prop) : T -> Env -> Fr -> Hp -> (Fr -> Hp -> Prop) -> Prop
 | .done, _, f, H, Q => Q f H
 | .px d none x t, e, f, H, Q => stabR R x (A.rd e f) H /\ tvr P R t (d.env (x.val (A.rd e f) H) e) (d.fr (x.val (A.rd e f) H) f) H Q
 | .px d (some (y, b)) x t, e, f, H, Q => (gb (y.rd e f) b = true -> stabR R x (A.rd e f) H) ∧
   tvr P R t (d.env (if gb (y.rd e f) b = true then x.val (A.rd e f) H else undef) e) (d.fr (if gb (y.rd e f) b = true then x.val (A.rd e f) H else undef) f) H Q
 | .wcons d none x t m, e, f, H, Q => x.wp P (A.rd e f) H (fun v H' => R H H' /\ tvr P R t (d.env v e) (d.fr v f) H' Q) /\ tvr P R m e f H Q
 | .wcons d (some (y, b)) x t m, e, f, H, Q => ((gb (y.rd e f) b = true -> x.wp P (A.rd e f) H (fun v H' => R H H' /\ tvr P R t (d.env v e) (d.fr v f) H' Q)) ∧
   (gb (y.rd e f) b = false -> tvr P R t (d.env undef e) (d.fr undef f) H Q)) /\ tvr P R m e f H Q
 | .wnil, _, _, _, _ => True
section
variable (P : Program) (R : Hp -> Hp -> Prop)
@[go_sem] theorem stabR_eq (x : PX) (r : A -> Value) (H : Hp) : stabR R x r H = if x.free = true then x.pre r H else ∀ H', R H H' -> x.pre r H' /\ x.val r H' = x.val r H := rfl
@[go_sem] theorem tvr_done (e : Env) (f : Fr) (H : Hp) (Q) : tvr P R .done e f H Q = Q f H := rfl
@[go_sem] theorem tvr_wnil (e : Env) (f : Fr) (H : Hp) (Q) : tvr P R .wnil e f H Q = True := rfl
@[go_sem] theorem tvr_px (d : D) (x : PX) (t : T) (e : Env) (f : Fr) (H : Hp) (Q) :
  tvr P R (.px d none x t) e f H Q = (stabR R x (A.rd e f) H /\ tvr P R t (d.env (x.val (A.rd e f) H) e) (d.fr (x.val (A.rd e f) H) f) H Q) := rfl
def kontR (P : Program) (R : Hp -> Hp -> Prop) (H0 : Hp) (d : D) (t : T) (e : Env) (f : Fr) (Q : Fr -> Hp -> Prop) (v : Value) (H : Hp) : Prop := R H0 H /\ tvr P R t (d.env v e) (d.fr v f) H Q
@[go_sem] theorem kontR_eq (H0 : Hp) (d : D) (t : T) (e : Env) (f : Fr) (Q) (v : Value) (H : Hp) : kontR P R H0 d t e f Q v H = (R H0 H /\ tvr P R t (d.env v e) (d.fr v f) H Q) := rfl
@[go_sem] theorem tvr_w (d : D) (x : EX) (t m : T) (e : Env) (f : Fr) (H : Hp) (Q) :
  tvr P R (.wcons d none x t m) e f H Q = (x.wp P (A.rd e f) H (kontR P R H d t e f Q) /\ tvr P R m e f H Q) := rfl
end
end Go.Mg

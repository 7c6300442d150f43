/- regions that draw their order, over any relation that all their effects keep. -/
import Derived.Test.YtoclemmcphgikaaGreatDoorMgLp
namespace Go.Mg
open Go Go.RowKit
set_option linter.all false
def stabR (R:Hp->Hp->Prop) (x:PX) (r:A->Value) (H:Hp):Prop:=if x.free=true then x.pre r H else∀H',R H H'->x.pre r H'/\x.val r H'=x.val r H
def tvr (P:Program) (R:Hp->Hp->Prop):T->Env->Fr->Hp->(Fr->Hp->Prop)->Prop
 |.done,_,f,H,Q=>Q f H
 |.px d none x t,e,f,H,Q=>stabR R x (A.rd e f) H/\tvr P R t (d.env (x.val (A.rd e f) H) e) (d.fr (x.val (A.rd e f) H) f) H Q
 |.px d (some (y,b)) x t,e,f,H,Q=>(gb (y.rd e f) b=true->stabR R x (A.rd e f) H)∧
   tvr P R t (d.env (if gb (y.rd e f) b=true then x.val (A.rd e f) H else undef) e) (d.fr (if gb (y.rd e f) b=true then x.val (A.rd e f) H else undef) f) H Q
 |.wcons d none x t m,e,f,H,Q=>x.wp P (A.rd e f) H (fun v H'=>R H H'/\tvr P R t (d.env v e) (d.fr v f) H' Q)/\tvr P R m e f H Q
 |.wcons d (some (y,b)) x t m,e,f,H,Q=>((gb (y.rd e f) b=true->x.wp P (A.rd e f) H (fun v H'=>R H H'/\tvr P R t (d.env v e) (d.fr v f) H' Q))∧
   (gb (y.rd e f) b=false->tvr P R t (d.env undef e) (d.fr undef f) H Q))/\tvr P R m e f H Q
 |.wnil,_,_,_,_=>True
section
variable (P:Program) (R:Hp->Hp->Prop)
@[go_sem] theorem stabR_eq (x:PX) (r:A->Value) (H:Hp):stabR R x r H=if x.free=true then x.pre r H else∀H',R H H'->x.pre r H'/\x.val r H'=x.val r H:=rfl
@[go_sem] theorem tvr_done (e:Env) (f:Fr) (H:Hp) (Q):tvr P R .done e f H Q=Q f H:=rfl
@[go_sem] theorem tvr_wnil (e:Env) (f:Fr) (H:Hp) (Q):tvr P R .wnil e f H Q=True:=rfl
@[go_sem] theorem tvr_px (d:D) (x:PX) (t:T) (e:Env) (f:Fr) (H:Hp) (Q):
  tvr P R (.px d none x t) e f H Q=(stabR R x (A.rd e f) H/\tvr P R t (d.env (x.val (A.rd e f) H) e) (d.fr (x.val (A.rd e f) H) f) H Q):=rfl
def kontR (P:Program) (R:Hp->Hp->Prop) (H0:Hp) (d:D) (t:T) (e:Env) (f:Fr) (Q:Fr->Hp->Prop) (v:Value) (H:Hp):Prop:=R H0 H/\tvr P R t (d.env v e) (d.fr v f) H Q
@[go_sem] theorem kontR_eq (H0:Hp) (d:D) (t:T) (e:Env) (f:Fr) (Q) (v:Value) (H:Hp):kontR P R H0 d t e f Q v H=(R H0 H/\tvr P R t (d.env v e) (d.fr v f) H Q):=rfl
@[go_sem] theorem tvr_w (d:D) (x:EX) (t m:T) (e:Env) (f:Fr) (H:Hp) (Q):
  tvr P R (.wcons d none x t m) e f H Q=(x.wp P (A.rd e f) H (kontR P R H d t e f Q)/\tvr P R m e f H Q):=rfl
end
theorem fl_set {α:Type} {enc:α->List Value} {k:Nat} (hk:∀x,(enc x).length=k) {j:Nat} (hj:j<k) {x:Value} {y:α}:∀(l:List α) (i:Nat) (hi:i<l.length),(enc l[i]).set j x=enc y->(l.flatMap enc).set (i*k+j) x=(l.set i y).flatMap enc
 |[],i,hi,_=>by simp at hi
 |a::l,0,hi,h=>by
  have h:(enc a).set j x=enc y:=h
  rw[List.set_cons_zero,List.flatMap_cons,List.flatMap_cons,Nat.zero_mul,Nat.zero_add,List.set_append,if_pos (by rw[hk];exact hj),h]
 |a::l,i+1,hi,h=>by
  have h:(enc (l[i]'(by simpa using hi))).set j x=enc y:=h
  rw[List.set_cons_succ,List.flatMap_cons,List.flatMap_cons,List.set_append,if_neg (by rw[hk,Nat.succ_mul];omega),hk,<-fl_set hk hj l i _ h,show(i+1)*k+j -k=i*k+j by rw[Nat.succ_mul];omega]
theorem owE_setc {α:Type} {enc:α->List Value} {k:Nat} (hk:∀x,(enc x).length=k) {H:Hp} {v:Value} {l:List α} (h:OwE enc k H v l) {i j:Nat} (hi:i<l.length) (hj:j<k):∃b c,v=.slice (some ⟨b,0,none⟩) l.length c/\ownB v b∧
  (Mg.cell H ⟨b,i*k+j,none⟩=(enc l[i])[j]?)/\((Mg.cell H ⟨b,i*k+j,none⟩).isSome=true/\Mg.frz H ⟨b,i*k+j,none⟩=false)/\∀(x:Value) (y:α),(enc l[i]).set j x=enc y->OwE enc k (Mg.setc H ⟨b,i*k+j,none⟩ x) v (l.set i y)/\Keep (fun q=>q=b) H (Mg.setc H ⟨b,i*k+j,none⟩ x):=by
 obtain⟨b,c,L,rfl,h1,h2,hb,h3⟩:=h.some (by intro e;subst e;simp at hi)
 have hfl:=fl_len hk l
 have hlt:i*k+j<l.length*k:=by
  have h1:=Nat.mul_le_mul_right k (show i+1<=l.length from hi)
  rw[Nat.succ_mul]at h1;omega
 have hL:l.length*k<=L.length:=Nat.le_trans (Nat.mul_le_mul_right k h1) h2
 refine⟨b,c,rfl,rfl,?_,hb.okSt (by omega),fun x y hy=>⟨?_,(Keep.refl _ _).setc _ (.inl rfl)⟩⟩
 ·rw[hb.cell,<-fl_at hk l i l[i] (List.getElem?_eq_getElem hi),<-h3,List.getElem?_take,if_pos hj,List.getElem?_drop,List.getElem?_take,if_pos hlt]
 ·refine OwE.bl (hb.setc (i*k+j) x) (by simp) h1 (by simpa using h2) ?_
  rw[<-fl_set hk hj l i hi hy,List.take_set,h3]
end Go.Mg

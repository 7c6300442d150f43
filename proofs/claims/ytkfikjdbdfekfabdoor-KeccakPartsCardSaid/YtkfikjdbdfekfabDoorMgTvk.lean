/- Lemmas of ours. No conditions. -/
import Derived.Test.YtkfikjdbdfekfabDoorMgHeap
set_option linter.all false
namespace Go.Mg
open Go Go.RowKit
def pU (W:Nat->Prop) (v:Value):Prop:=match v with|.pointer (some p)=>¬W p.block|_=>False
def rh (W:Nat->Prop) (v:Value):Prop:=match v with|.slice (some p) n _=>n=0\/¬W p.block|_=>True
def i7 (W:Nat->Prop) (v:Value):Prop:=match v with|.map (some b)=>¬W b|_=>True
def b7 (W:Nat->Prop) (x:PX) (r:A->Value) (H:Hp):Prop:=
 match x with
 |.ld a=>pU W (r a)/\x.pre r H
 |.m (.ldn _ a)=>pU W (r a)/\x.pre r H
 |.m (.b2s a)=>rh W (r a)/\x.pre r H
 |.m (.lks _ _ m _)=>i7 W (r m)/\x.pre r H
 |.m (.lki _ _ m _)=>i7 W (r m)/\x.pre r H
 |x=>if x.free=true then x.pre r H else False
def fz (P:Program) (W:Nat->Prop):T->Env->Fr->Hp->(Fr->Hp->Prop)->Prop
 |.done,_,f,H,Q=>Q f H
 |.px d none x t,e,f,H,Q=>b7 W x (A.rd e f) H/\fz P W t (d.env (x.val (A.rd e f) H) e) (d.fr (x.val (A.rd e f) H) f) H Q
 |.px d (some (y,b)) x t,e,f,H,Q=>(gb (y.rd e f) b=true->b7 W x (A.rd e f) H)∧
   fz P W t (d.env (if gb (y.rd e f) b=true then x.val (A.rd e f) H else undef) e) (d.fr (if gb (y.rd e f) b=true then x.val (A.rd e f) H else undef) f) H Q
 |.wcons d none x t m,e,f,H,Q=>x.wp P (A.rd e f) H (fun v H'=>ae W H H'/\fz P W t (d.env v e) (d.fr v f) H' Q)/\fz P W m e f H Q
 |.wcons d (some (y,b)) x t m,e,f,H,Q=>((gb (y.rd e f) b=true->x.wp P (A.rd e f) H (fun v H'=>ae W H H'/\fz P W t (d.env v e) (d.fr v f) H' Q))∧
   (gb (y.rd e f) b=false->fz P W t (d.env undef e) (d.fr undef f) H Q))/\fz P W m e f H Q
 |.wnil,_,_,_,_=>True
variable {W:Nat->Prop} {H H':Hp} {p:Addr} {v:Value}
theorem ae.cell (h:ae W H H') (h1:p.block<H.size) (h2:¬W p.block):Mg.cell H' p=Mg.cell H p:=by
 unfold Mg.cell;rw[h.at_ _ h1 h2]
theorem ae.aJ (h:ae W H H') (h1:p.block<H.size) (h2:¬W p.block) (n:Nat):Mg.aJ H' p n=Mg.aJ H p n:=by
 unfold Mg.aJ;rw[h.at_ _ h1 h2]
theorem ae.aB (h:ae W H H') {xs:Array Value} (h1:Mg.aB H v=some xs) (h2:rh W v):Mg.aB H' v=some xs:=by
 unfold Mg.aB at*
 split at h1
 ·rename_i b n c
  by_cases e:n=0
  ·rw[if_pos e]at h1⊢;exact h1
  ·rw[if_neg e]at h1⊢;have hlt:b.block<H.size:=by
    apply Decidable.byContradiction;intro hn;have hb:H[b.block]?=none:=by simpa using hn
    simp[Mg.aJ,hb]at h1
   rw[h.aJ hlt (h2.resolve_left e) n];exact h1
 ·exact h1
 ·cases h1
theorem ae.aU (h:ae W H H') {es:List MapEntry} (h1:Mg.aU H v=some es) (h2:i7 W v):Mg.aU H' v=some es:=by
 unfold Mg.aU at*
 split at h1
 ·exact h1
 ·rename_i b;have hlt:b<H.size:=by
   apply Decidable.byContradiction;intro hn;have hb:H[b]?=none:=by simpa using hn
   rw[hb]at h1;cases h1
  rw[h.at_ b hlt h2];exact h1
 ·cases h1
theorem iC {x:PX} {r:A->Value} (h:b7 W x r H):
  if x.free=true then x.pre r H else∀H',ae W H H'->x.pre r H'/\x.val r H'=x.val r H:=by
 unfold b7 at h
 split at h
 ·rename_i a;obtain⟨h1,h2⟩:=h;simp only[PX.free,Bool.false_eq_true,if_false];intro H' hk;unfold pU at h1
  split at h1
  case h_2=>exact h1.elim
  rename_i p hp;simp only[PX.pre,hp,nx]at h2;have hlt:p.block<H.size:=by
   apply Decidable.byContradiction;intro hn;have hb:H[p.block]?=none:=by simpa using hn
   simp[Mg.cell,hb]at h2
  have e:Mg.cell H' p=Mg.cell H p:=hk.cell hlt h1;simp only[PX.pre,PX.val,hp,nx,e];exact⟨h2,trivial⟩
 ·rename_i n a;obtain⟨h1,h2⟩:=h;simp only[PX.free,PM.free,Bool.false_eq_true,if_false];intro H' hk;unfold pU at h1
  split at h1
  case h_2=>exact h1.elim
  rename_i p hp;simp only[PX.pre,PM.pre,hp,cS]at h2;have hlt:p.block<H.size:=by
   apply Decidable.byContradiction;intro hn;have hb:H[p.block]?=none:=by simpa using hn
   simp[Mg.aJ,hb]at h2
  have e:Mg.aJ H' p n=Mg.aJ H p n:=hk.aJ hlt h1 n;simp only[PX.pre,PX.val,PM.pre,PM.val,hp,cS,e];exact⟨h2,trivial⟩
 ·rename_i a;obtain⟨h1,xs,h2,h3⟩:=h;simp only[PX.free,PM.free,Bool.false_eq_true,if_false];intro H' hk;have h4:=hk.aB h2 h1;simp only[PX.pre,PX.val,PM.pre,PM.val,jP,h2,h4];exact⟨⟨xs,rfl,h3⟩,trivial⟩
 ·rename_i z ok m k;obtain⟨h1,h0,es,h2,h3⟩:=h;simp only[PX.free,PM.free,Bool.false_eq_true,if_false];intro H' hk;have h4:=hk.aU h2 h1;simp only[PX.pre,PX.val,PM.pre,PM.val,h2,h4];exact⟨⟨h0,es,rfl,h3⟩,trivial⟩
 ·rename_i kk z m k;obtain⟨h1,h0,es,h2,h3⟩:=h;simp only[PX.free,PM.free,Bool.false_eq_true,if_false];intro H' hk;have h4:=hk.aU h2 h1;simp only[PX.pre,PX.val,PM.pre,PM.val,h2,h4];exact⟨⟨h0,es,rfl,h3⟩,trivial⟩
 ·split at h
  ·rename_i hf;rw[if_pos hf];exact h
  ·exact h.elim
theorem aK {P:Program} {W:Nat->Prop}:∀(t:T) (e:Env) (f:Fr) (H:Hp) (Q:Fr->Hp->Prop),fz P W t e f H Q->iv P (ae W H) t e f H Q
 |.done,_,_,_,_,h=>h
 |.wnil,_,_,_,_,_=>trivial
 |.px d none x t,e,f,H,Q,h=>⟨iC h.1,aK t _ _ _ _ h.2⟩
 |.px d (some (y,b)) x t,e,f,H,Q,h=>⟨fun g=>iC (h.1 g),aK t _ _ _ _ h.2⟩
 |.wcons d none x t m,e,f,H,Q,h=>⟨EX.wp_mono (fun v H' q=>⟨ae W H',fun _ k=>q.1.trans k,ae.refl _ _,aK t _ _ _ _ q.2⟩) h.1,aK m _ _ _ _ h.2⟩
 |.wcons d (some (y,b)) x t m,e,f,H,Q,h=>⟨⟨fun g=>EX.wp_mono (fun v H' q=>⟨ae W H',fun _ k=>q.1.trans k,ae.refl _ _,aK t _ _ _ _ q.2⟩) (h.1.1 g),fun g=>aK t _ _ _ _ (h.1.2 g)⟩,aK m _ _ _ _ h.2⟩
theorem eM {P:Program} {t:T} {Q} {f:Fr} (W:Nat->Prop) (h:fz P W t [] f H (Q .n)):vc P (.dr t) Q f H:=
 ⟨ae W H,ae.refl _ _,aK t _ _ _ _ h⟩
section
variable (P:Program) (W:Nat->Prop)
@[go_sem] theorem ri (a:A) (r:A->Value) (H:Hp):b7 W (.ld a) r H=(pU W (r a)/\PX.pre (.ld a) r H):=rfl
@[go_sem] theorem qA (n:Nat) (a:A) (r:A->Value) (H:Hp):b7 W (.m (.ldn n a)) r H=(pU W (r a)/\PX.pre (.m (.ldn n a)) r H):=rfl
@[go_sem] theorem qB (a:A) (r:A->Value) (H:Hp):b7 W (.m (.b2s a)) r H=(rh W (r a)/\PX.pre (.m (.b2s a)) r H):=rfl
@[go_sem] theorem qC (z:Value) (ok:Bool) (a b:A) (r:A->Value) (H:Hp):b7 W (.m (.lks z ok a b)) r H=(i7 W (r a)/\PX.pre (.m (.lks z ok a b)) r H):=rfl
@[go_sem] theorem rj (v:Value):rh (fun _=>False) v:=by unfold rh;split<;>simp
@[go_sem] theorem qD (v:Value):i7 (fun _=>False) v:=by unfold i7;split<;>simp
@[go_sem] theorem sk (p:Addr):pU W (.pointer (some p))=(¬W p.block):=rfl
@[go_sem] theorem rk (e:Env) (f:Fr) (H:Hp) (Q):fz P W .done e f H Q=Q f H:=rfl
@[go_sem] theorem rl (e:Env) (f:Fr) (H:Hp) (Q):fz P W .wnil e f H Q=True:=rfl
@[go_sem] theorem tx (d:D) (x:PX) (t:T) (e:Env) (f:Fr) (H:Hp) (Q):
  fz P W (.px d none x t) e f H Q=(b7 W x (A.rd e f) H/\fz P W t (d.env (x.val (A.rd e f) H) e) (d.fr (x.val (A.rd e f) H) f) H Q):=rfl
@[go_sem] theorem sm (d:D) (y:A) (b:Bool) (x:PX) (t:T) (e:Env) (f:Fr) (H:Hp) (Q):
  fz P W (.px d (some (y,b)) x t) e f H Q=((gb (y.rd e f) b=true->b7 W x (A.rd e f) H)∧
   fz P W t (d.env (if gb (y.rd e f) b=true then x.val (A.rd e f) H else undef) e) (d.fr (if gb (y.rd e f) b=true then x.val (A.rd e f) H else undef) f) H Q):=rfl
def ma (P:Program) (W:Nat->Prop) (H0:Hp) (d:D) (t:T) (e:Env) (f:Fr) (Q:Fr->Hp->Prop) (v:Value) (H:Hp):Prop:=ae W H0 H/\fz P W t (d.env v e) (d.fr v f) H Q
@[go_sem] theorem iD (H0:Hp) (d:D) (t:T) (e:Env) (f:Fr) (Q) (v:Value) (H:Hp):ma P W H0 d t e f Q v H=(ae W H0 H/\fz P W t (d.env v e) (d.fr v f) H Q):=rfl
@[go_sem] theorem vh (d:D) (x:EX) (t m:T) (e:Env) (f:Fr) (H:Hp) (Q):
  fz P W (.wcons d none x t m) e f H Q=(x.wp P (A.rd e f) H (ma P W H d t e f Q)/\fz P W m e f H Q):=rfl
@[go_sem] theorem tz (d:D) (y:A) (b:Bool) (x:EX) (t m:T) (e:Env) (f:Fr) (H:Hp) (Q):
  fz P W (.wcons d (some (y,b)) x t m) e f H Q=(((gb (y.rd e f) b=true->x.wp P (A.rd e f) H (ma P W H d t e f Q))/\(gb (y.rd e f) b=false->fz P W t (d.env undef e) (d.fr undef f) H Q))/\fz P W m e f H Q):=rfl
end
@[go_sem] theorem qE (P:Program) (W:Nat->Prop) (kk:IntKind) (z:Value) (a b:A) (r:A->Value) (H:Hp):b7 W (.m (.lki kk z a b)) r H=(i7 W (r a)/\PX.pre (.m (.lki kk z a b)) r H):=rfl
attribute [go_sem] b7
def jZ (C:Hp->Prop) (x:PX) (r:A->Value) (H:Hp):Prop:=if x.free=true then x.pre r H else∀H',C H'->x.pre r H'/\x.val r H'=x.val r H
def fR (P:Program) (C:Hp->Prop):T->Env->Fr->Hp->(Fr->Hp->Prop)->Prop
 |.done,_,f,H,Q=>Q f H
 |.px d none x t,e,f,H,Q=>jZ C x (A.rd e f) H/\fR P C t (d.env (x.val (A.rd e f) H) e) (d.fr (x.val (A.rd e f) H) f) H Q
 |.px d (some (y,b)) x t,e,f,H,Q=>(gb (y.rd e f) b=true->jZ C x (A.rd e f) H)∧
   fR P C t (d.env (if gb (y.rd e f) b=true then x.val (A.rd e f) H else undef) e) (d.fr (if gb (y.rd e f) b=true then x.val (A.rd e f) H else undef) f) H Q
 |.wcons d none x t m,e,f,H,Q=>x.wp P (A.rd e f) H (fun v H'=>C H'/\fR P C t (d.env v e) (d.fr v f) H' Q)/\fR P C m e f H Q
 |.wcons d (some (y,b)) x t m,e,f,H,Q=>((gb (y.rd e f) b=true->x.wp P (A.rd e f) H (fun v H'=>C H'/\fR P C t (d.env v e) (d.fr v f) H' Q))∧
   (gb (y.rd e f) b=false->fR P C t (d.env undef e) (d.fr undef f) H Q))/\fR P C m e f H Q
 |.wnil,_,_,_,_=>True
section
variable (P:Program) (C:Hp->Prop)
@[go_sem] theorem rm (e:Env) (f:Fr) (H:Hp) (Q):fR P C .done e f H Q=Q f H:=rfl
@[go_sem] theorem rn (e:Env) (f:Fr) (H:Hp) (Q):fR P C .wnil e f H Q=True:=rfl
@[go_sem] theorem tA (d:D) (x:PX) (t:T) (e:Env) (f:Fr) (H:Hp) (Q):
  fR P C (.px d none x t) e f H Q=(jZ C x (A.rd e f) H/\fR P C t (d.env (x.val (A.rd e f) H) e) (d.fr (x.val (A.rd e f) H) f) H Q):=rfl
@[go_sem] theorem sn (d:D) (y:A) (b:Bool) (x:PX) (t:T) (e:Env) (f:Fr) (H:Hp) (Q):
  fR P C (.px d (some (y,b)) x t) e f H Q=((gb (y.rd e f) b=true->jZ C x (A.rd e f) H)∧
   fR P C t (d.env (if gb (y.rd e f) b=true then x.val (A.rd e f) H else undef) e) (d.fr (if gb (y.rd e f) b=true then x.val (A.rd e f) H else undef) f) H Q):=rfl
def mb (P:Program) (C:Hp->Prop) (d:D) (t:T) (e:Env) (f:Fr) (Q:Fr->Hp->Prop) (v:Value) (H:Hp):Prop:=C H/\fR P C t (d.env v e) (d.fr v f) H Q
@[go_sem] theorem rp (d:D) (t:T) (e:Env) (f:Fr) (Q) (v:Value) (H:Hp):mb P C d t e f Q v H=(C H/\fR P C t (d.env v e) (d.fr v f) H Q):=rfl
@[go_sem] theorem vi (d:D) (x:EX) (t m:T) (e:Env) (f:Fr) (H:Hp) (Q):
  fR P C (.wcons d none x t m) e f H Q=(x.wp P (A.rd e f) H (mb P C d t e f Q)/\fR P C m e f H Q):=rfl
@[go_sem] theorem tB (d:D) (y:A) (b:Bool) (x:EX) (t m:T) (e:Env) (f:Fr) (H:Hp) (Q):
  fR P C (.wcons d (some (y,b)) x t m) e f H Q=(((gb (y.rd e f) b=true->x.wp P (A.rd e f) H (mb P C d t e f Q))/\(gb (y.rd e f) b=false->fR P C t (d.env undef e) (d.fr undef f) H Q))/\fR P C m e f H Q):=rfl
end
end Go.Mg

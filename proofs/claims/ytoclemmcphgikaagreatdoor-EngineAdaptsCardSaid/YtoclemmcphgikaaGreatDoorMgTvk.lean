/- Part of the proof of EngineAdaptsCardSaid: a lemma text of ours, over the kit alone. No conditions. -/
import Derived.Test.YtoclemmcphgikaaGreatDoorMgHeap
namespace Go.Mg
open Go Go.RowKit
set_option linter.all false
def ldS (W:Nat->Prop) (v:Value):Prop:=match v with|.pointer (some p)=>¬W p.block|_=>False
def slS (W:Nat->Prop) (v:Value):Prop:=match v with|.slice (some p) n _=>n=0\/¬W p.block|_=>True
def mapS (W:Nat->Prop) (v:Value):Prop:=match v with|.map (some b)=>¬W b|_=>True
def stabX (W:Nat->Prop) (x:PX) (r:A->Value) (H:Hp):Prop:=
 match x with
 |.ld a=>ldS W (r a)/\x.pre r H
 |.m (.ldn _ a)=>ldS W (r a)/\x.pre r H
 |.m (.b2s a)=>slS W (r a)/\x.pre r H
 |.m (.lks _ _ m _)=>mapS W (r m)/\x.pre r H
 |.m (.lki _ _ m _)=>mapS W (r m)/\x.pre r H
 |x=>if x.free=true then x.pre r H else False
def tvk (P:Program) (W:Nat->Prop):T->Env->Fr->Hp->(Fr->Hp->Prop)->Prop
 |.done,_,f,H,Q=>Q f H
 |.px d none x t,e,f,H,Q=>stabX W x (A.rd e f) H/\tvk P W t (d.env (x.val (A.rd e f) H) e) (d.fr (x.val (A.rd e f) H) f) H Q
 |.px d (some (y,b)) x t,e,f,H,Q=>(gb (y.rd e f) b=true->stabX W x (A.rd e f) H)∧
   tvk P W t (d.env (if gb (y.rd e f) b=true then x.val (A.rd e f) H else undef) e) (d.fr (if gb (y.rd e f) b=true then x.val (A.rd e f) H else undef) f) H Q
 |.wcons d none x t m,e,f,H,Q=>x.wp P (A.rd e f) H (fun v H'=>Keep W H H'/\tvk P W t (d.env v e) (d.fr v f) H' Q)/\tvk P W m e f H Q
 |.wcons d (some (y,b)) x t m,e,f,H,Q=>((gb (y.rd e f) b=true->x.wp P (A.rd e f) H (fun v H'=>Keep W H H'/\tvk P W t (d.env v e) (d.fr v f) H' Q))∧
   (gb (y.rd e f) b=false->tvk P W t (d.env undef e) (d.fr undef f) H Q))/\tvk P W m e f H Q
 |.wnil,_,_,_,_=>True
variable {W:Nat->Prop} {H H':Hp} {p:Addr} {v:Value}
theorem Keep.cell (h:Keep W H H') (h1:p.block<H.size) (h2:¬W p.block):Mg.cell H' p=Mg.cell H p:=by
 unfold Mg.cell;rw[h.at_ _ h1 h2]
theorem Keep.ldNA (h:Keep W H H') (h1:p.block<H.size) (h2:¬W p.block) (n:Nat):Mg.ldNA H' p n=Mg.ldNA H p n:=by
 unfold Mg.ldNA;rw[h.at_ _ h1 h2]
theorem Keep.bytesIn (h:Keep W H H') {xs:Array Value} (h1:Mg.bytesIn H v=some xs) (h2:slS W v):Mg.bytesIn H' v=some xs:=by
 unfold Mg.bytesIn at*
 split at h1
 ·rename_i b n c
  by_cases e:n=0
  ·rw[if_pos e]at h1⊢;exact h1
  ·rw[if_neg e]at h1⊢
   have hlt:b.block<H.size:=by
    apply Decidable.byContradiction
    intro hn
    have hb:H[b.block]?=none:=by simpa using hn
    simp[Mg.ldNA,hb]at h1
   rw[h.ldNA hlt (h2.resolve_left e) n];exact h1
 ·exact h1
 ·cases h1
theorem Keep.mapIn (h:Keep W H H') {es:List MapEntry} (h1:Mg.mapIn H v=some es) (h2:mapS W v):Mg.mapIn H' v=some es:=by
 unfold Mg.mapIn at*
 split at h1
 ·exact h1
 ·rename_i b
  have hlt:b<H.size:=by
   apply Decidable.byContradiction
   intro hn
   have hb:H[b]?=none:=by simpa using hn
   rw[hb]at h1;cases h1
  rw[h.at_ b hlt h2];exact h1
 ·cases h1
theorem stabX_ok {x:PX} {r:A->Value} (h:stabX W x r H):
  if x.free=true then x.pre r H else∀H',Keep W H H'->x.pre r H'/\x.val r H'=x.val r H:=by
 unfold stabX at h
 split at h
 ·rename_i a
  obtain⟨h1,h2⟩:=h
  simp only[PX.free,Bool.false_eq_true,if_false]
  intro H' hk
  unfold ldS at h1
  split at h1
  case h_2=>exact h1.elim
  rename_i p hp
  simp only[PX.pre,hp,ldO]at h2
  have hlt:p.block<H.size:=by
   apply Decidable.byContradiction
   intro hn
   have hb:H[p.block]?=none:=by simpa using hn
   simp[Mg.cell,hb]at h2
  have e:Mg.cell H' p=Mg.cell H p:=hk.cell hlt h1
  simp only[PX.pre,PX.val,hp,ldO,e]
  exact⟨h2,trivial⟩
 ·rename_i n a
  obtain⟨h1,h2⟩:=h
  simp only[PX.free,PM.free,Bool.false_eq_true,if_false]
  intro H' hk
  unfold ldS at h1
  split at h1
  case h_2=>exact h1.elim
  rename_i p hp
  simp only[PX.pre,PM.pre,hp,ldNO]at h2
  have hlt:p.block<H.size:=by
   apply Decidable.byContradiction
   intro hn
   have hb:H[p.block]?=none:=by simpa using hn
   simp[Mg.ldNA,hb]at h2
  have e:Mg.ldNA H' p n=Mg.ldNA H p n:=hk.ldNA hlt h1 n
  simp only[PX.pre,PX.val,PM.pre,PM.val,hp,ldNO,e]
  exact⟨h2,trivial⟩
 ·rename_i a
  obtain⟨h1,xs,h2,h3⟩:=h
  simp only[PX.free,PM.free,Bool.false_eq_true,if_false]
  intro H' hk
  have h4:=hk.bytesIn h2 h1
  simp only[PX.pre,PX.val,PM.pre,PM.val,okB2s,h2,h4]
  exact⟨⟨xs,rfl,h3⟩,trivial⟩
 ·rename_i z ok m k
  obtain⟨h1,h0,es,h2,h3⟩:=h
  simp only[PX.free,PM.free,Bool.false_eq_true,if_false]
  intro H' hk
  have h4:=hk.mapIn h2 h1
  simp only[PX.pre,PX.val,PM.pre,PM.val,h2,h4]
  exact⟨⟨h0,es,rfl,h3⟩,trivial⟩
 ·rename_i kk z m k
  obtain⟨h1,h0,es,h2,h3⟩:=h
  simp only[PX.free,PM.free,Bool.false_eq_true,if_false]
  intro H' hk
  have h4:=hk.mapIn h2 h1
  simp only[PX.pre,PX.val,PM.pre,PM.val,h2,h4]
  exact⟨⟨h0,es,rfl,h3⟩,trivial⟩
 ·split at h
  ·rename_i hf;rw[if_pos hf];exact h
  ·exact h.elim
theorem tvc_of_tvk {P:Program} {W:Nat->Prop}:∀(t:T) (e:Env) (f:Fr) (H:Hp) (Q:Fr->Hp->Prop),tvk P W t e f H Q->tvc P (Keep W H) t e f H Q
 |.done,_,_,_,_,h=>h
 |.wnil,_,_,_,_,_=>trivial
 |.px d none x t,e,f,H,Q,h=>⟨stabX_ok h.1,tvc_of_tvk t _ _ _ _ h.2⟩
 |.px d (some (y,b)) x t,e,f,H,Q,h=>⟨fun g=>stabX_ok (h.1 g),tvc_of_tvk t _ _ _ _ h.2⟩
 |.wcons d none x t m,e,f,H,Q,h=>⟨EX.wp_mono (fun v H' q=>⟨Keep W H',fun _ k=>q.1.trans k,Keep.refl _ _,tvc_of_tvk t _ _ _ _ q.2⟩) h.1,tvc_of_tvk m _ _ _ _ h.2⟩
 |.wcons d (some (y,b)) x t m,e,f,H,Q,h=>⟨⟨fun g=>EX.wp_mono (fun v H' q=>⟨Keep W H',fun _ k=>q.1.trans k,Keep.refl _ _,tvc_of_tvk t _ _ _ _ q.2⟩) (h.1.1 g),fun g=>tvc_of_tvk t _ _ _ _ (h.1.2 g)⟩,tvc_of_tvk m _ _ _ _ h.2⟩
theorem vc_drk {P:Program} {t:T} {Q} {f:Fr} (W:Nat->Prop) (h:tvk P W t [] f H (Q .n)):vc P (.dr t) Q f H:=
 ⟨Keep W H,Keep.refl _ _,tvc_of_tvk t _ _ _ _ h⟩
section
variable (P:Program) (W:Nat->Prop)
@[go_sem] theorem stabX_ld (a:A) (r:A->Value) (H:Hp):stabX W (.ld a) r H=(ldS W (r a)/\PX.pre (.ld a) r H):=rfl
@[go_sem] theorem stabX_ldn (n:Nat) (a:A) (r:A->Value) (H:Hp):stabX W (.m (.ldn n a)) r H=(ldS W (r a)/\PX.pre (.m (.ldn n a)) r H):=rfl
@[go_sem] theorem stabX_b2s (a:A) (r:A->Value) (H:Hp):stabX W (.m (.b2s a)) r H=(slS W (r a)/\PX.pre (.m (.b2s a)) r H):=rfl
@[go_sem] theorem stabX_lks (z:Value) (ok:Bool) (a b:A) (r:A->Value) (H:Hp):stabX W (.m (.lks z ok a b)) r H=(mapS W (r a)/\PX.pre (.m (.lks z ok a b)) r H):=rfl
@[go_sem] theorem slS_none (v:Value):slS (fun _=>False) v:=by unfold slS;split<;>simp
@[go_sem] theorem mapS_none (v:Value):mapS (fun _=>False) v:=by unfold mapS;split<;>simp
@[go_sem] theorem ldS_ptr (p:Addr):ldS W (.pointer (some p))=(¬W p.block):=rfl
@[go_sem] theorem tvk_done (e:Env) (f:Fr) (H:Hp) (Q):tvk P W .done e f H Q=Q f H:=rfl
@[go_sem] theorem tvk_wnil (e:Env) (f:Fr) (H:Hp) (Q):tvk P W .wnil e f H Q=True:=rfl
@[go_sem] theorem tvk_px (d:D) (x:PX) (t:T) (e:Env) (f:Fr) (H:Hp) (Q):
  tvk P W (.px d none x t) e f H Q=(stabX W x (A.rd e f) H/\tvk P W t (d.env (x.val (A.rd e f) H) e) (d.fr (x.val (A.rd e f) H) f) H Q):=rfl
@[go_sem] theorem tvk_pxg (d:D) (y:A) (b:Bool) (x:PX) (t:T) (e:Env) (f:Fr) (H:Hp) (Q):
  tvk P W (.px d (some (y,b)) x t) e f H Q=((gb (y.rd e f) b=true->stabX W x (A.rd e f) H)∧
   tvk P W t (d.env (if gb (y.rd e f) b=true then x.val (A.rd e f) H else undef) e) (d.fr (if gb (y.rd e f) b=true then x.val (A.rd e f) H else undef) f) H Q):=rfl
def kontK (P:Program) (W:Nat->Prop) (H0:Hp) (d:D) (t:T) (e:Env) (f:Fr) (Q:Fr->Hp->Prop) (v:Value) (H:Hp):Prop:=Keep W H0 H/\tvk P W t (d.env v e) (d.fr v f) H Q
@[go_sem] theorem kontK_eq (H0:Hp) (d:D) (t:T) (e:Env) (f:Fr) (Q) (v:Value) (H:Hp):kontK P W H0 d t e f Q v H=(Keep W H0 H/\tvk P W t (d.env v e) (d.fr v f) H Q):=rfl
@[go_sem] theorem tvk_w (d:D) (x:EX) (t m:T) (e:Env) (f:Fr) (H:Hp) (Q):
  tvk P W (.wcons d none x t m) e f H Q=(x.wp P (A.rd e f) H (kontK P W H d t e f Q)/\tvk P W m e f H Q):=rfl
@[go_sem] theorem tvk_wg (d:D) (y:A) (b:Bool) (x:EX) (t m:T) (e:Env) (f:Fr) (H:Hp) (Q):
  tvk P W (.wcons d (some (y,b)) x t m) e f H Q=(((gb (y.rd e f) b=true->x.wp P (A.rd e f) H (kontK P W H d t e f Q))/\(gb (y.rd e f) b=false->tvk P W t (d.env undef e) (d.fr undef f) H Q))/\tvk P W m e f H Q):=rfl
end
@[go_sem] theorem stabX_lki (P:Program) (W:Nat->Prop) (kk:IntKind) (z:Value) (a b:A) (r:A->Value) (H:Hp):stabX W (.m (.lki kk z a b)) r H=(mapS W (r a)/\PX.pre (.m (.lki kk z a b)) r H):=rfl
attribute [go_sem] stabX
def stabC (C:Hp->Prop) (x:PX) (r:A->Value) (H:Hp):Prop:=if x.free=true then x.pre r H else∀H',C H'->x.pre r H'/\x.val r H'=x.val r H
def tvq (P:Program) (C:Hp->Prop):T->Env->Fr->Hp->(Fr->Hp->Prop)->Prop
 |.done,_,f,H,Q=>Q f H
 |.px d none x t,e,f,H,Q=>stabC C x (A.rd e f) H/\tvq P C t (d.env (x.val (A.rd e f) H) e) (d.fr (x.val (A.rd e f) H) f) H Q
 |.px d (some (y,b)) x t,e,f,H,Q=>(gb (y.rd e f) b=true->stabC C x (A.rd e f) H)∧
   tvq P C t (d.env (if gb (y.rd e f) b=true then x.val (A.rd e f) H else undef) e) (d.fr (if gb (y.rd e f) b=true then x.val (A.rd e f) H else undef) f) H Q
 |.wcons d none x t m,e,f,H,Q=>x.wp P (A.rd e f) H (fun v H'=>C H'/\tvq P C t (d.env v e) (d.fr v f) H' Q)/\tvq P C m e f H Q
 |.wcons d (some (y,b)) x t m,e,f,H,Q=>((gb (y.rd e f) b=true->x.wp P (A.rd e f) H (fun v H'=>C H'/\tvq P C t (d.env v e) (d.fr v f) H' Q))∧
   (gb (y.rd e f) b=false->tvq P C t (d.env undef e) (d.fr undef f) H Q))/\tvq P C m e f H Q
 |.wnil,_,_,_,_=>True
theorem tvc_of_tvq {P:Program} {C:Hp->Prop}:∀(t:T) (e:Env) (f:Fr) (H:Hp) (Q:Fr->Hp->Prop),tvq P C t e f H Q->tvc P C t e f H Q
 |.done,_,_,_,_,h=>h
 |.wnil,_,_,_,_,_=>trivial
 |.px d none x t,e,f,H,Q,h=>⟨h.1,tvc_of_tvq t _ _ _ _ h.2⟩
 |.px d (some (y,b)) x t,e,f,H,Q,h=>⟨h.1,tvc_of_tvq t _ _ _ _ h.2⟩
 |.wcons d none x t m,e,f,H,Q,h=>⟨EX.wp_mono (fun v H' q=>⟨C,fun _ k=>k,q.1,tvc_of_tvq t _ _ _ _ q.2⟩) h.1,tvc_of_tvq m _ _ _ _ h.2⟩
 |.wcons d (some (y,b)) x t m,e,f,H,Q,h=>⟨⟨fun g=>EX.wp_mono (fun v H' q=>⟨C,fun _ k=>k,q.1,tvc_of_tvq t _ _ _ _ q.2⟩) (h.1.1 g),fun g=>tvc_of_tvq t _ _ _ _ (h.1.2 g)⟩,tvc_of_tvq m _ _ _ _ h.2⟩
theorem vc_drc {P:Program} {t:T} {Q} {f:Fr} {H:Hp} (C:Hp->Prop) (hC:C H) (h:tvq P C t [] f H (Q .n)):vc P (.dr t) Q f H:=
 ⟨C,hC,tvc_of_tvq t _ _ _ _ h⟩
section
variable (P:Program) (C:Hp->Prop)
@[go_sem] theorem tvq_done (e:Env) (f:Fr) (H:Hp) (Q):tvq P C .done e f H Q=Q f H:=rfl
@[go_sem] theorem tvq_wnil (e:Env) (f:Fr) (H:Hp) (Q):tvq P C .wnil e f H Q=True:=rfl
@[go_sem] theorem tvq_px (d:D) (x:PX) (t:T) (e:Env) (f:Fr) (H:Hp) (Q):
  tvq P C (.px d none x t) e f H Q=(stabC C x (A.rd e f) H/\tvq P C t (d.env (x.val (A.rd e f) H) e) (d.fr (x.val (A.rd e f) H) f) H Q):=rfl
@[go_sem] theorem tvq_pxg (d:D) (y:A) (b:Bool) (x:PX) (t:T) (e:Env) (f:Fr) (H:Hp) (Q):
  tvq P C (.px d (some (y,b)) x t) e f H Q=((gb (y.rd e f) b=true->stabC C x (A.rd e f) H)∧
   tvq P C t (d.env (if gb (y.rd e f) b=true then x.val (A.rd e f) H else undef) e) (d.fr (if gb (y.rd e f) b=true then x.val (A.rd e f) H else undef) f) H Q):=rfl
def kontC (P:Program) (C:Hp->Prop) (d:D) (t:T) (e:Env) (f:Fr) (Q:Fr->Hp->Prop) (v:Value) (H:Hp):Prop:=C H/\tvq P C t (d.env v e) (d.fr v f) H Q
@[go_sem] theorem kontC_eq (d:D) (t:T) (e:Env) (f:Fr) (Q) (v:Value) (H:Hp):kontC P C d t e f Q v H=(C H/\tvq P C t (d.env v e) (d.fr v f) H Q):=rfl
@[go_sem] theorem tvq_w (d:D) (x:EX) (t m:T) (e:Env) (f:Fr) (H:Hp) (Q):
  tvq P C (.wcons d none x t m) e f H Q=(x.wp P (A.rd e f) H (kontC P C d t e f Q)/\tvq P C m e f H Q):=rfl
@[go_sem] theorem tvq_wg (d:D) (y:A) (b:Bool) (x:EX) (t m:T) (e:Env) (f:Fr) (H:Hp) (Q):
  tvq P C (.wcons d (some (y,b)) x t m) e f H Q=(((gb (y.rd e f) b=true->x.wp P (A.rd e f) H (kontC P C d t e f Q))/\(gb (y.rd e f) b=false->tvq P C t (d.env undef e) (d.fr undef f) H Q))/\tvq P C m e f H Q):=rfl
end
end Go.Mg

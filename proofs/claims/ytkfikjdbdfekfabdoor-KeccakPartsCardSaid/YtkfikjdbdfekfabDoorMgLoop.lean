/- Lemmas of ours. No conditions. -/
import Derived.Test.YtkfikjdbdfekfabDoorMgSimp
namespace Go.Mg
open Go Go.RowKit
variable {P:Program} {H:Hp} {f:Fr} {p q:Prop}
theorem EX.wp_mono {x:EX} {r:A->Value} {K K':Value->Hp->Prop} (h:∀v H',K v H'->K' v H') (hx:x.wp P r H K):x.wp P r H K':=by
 cases x with
 |st a y=>exact⟨hx.1,h _ _ hx.2⟩
 |stn n a y=>exact⟨hx.1,h _ _ hx.2⟩
 |new T z=>exact h _ _ hx
 |rd y=>exact⟨hx.1,h _ _ hx.2⟩
 |box T a=>exact h _ _ hx
 |call f args=>exact ai.mono hx h
 |callv f args=>
  simp only[EX.wp]at hx⊢
  split at hx
  ·exact⟨hx.1,ai.mono hx.2 h⟩
  ·exact hx.elim
 |cally f args=>obtain⟨l,h1,h2⟩:=hx;exact⟨l,h1,h2.mono h⟩
 |lib f args=>obtain⟨v,H1,h1,h2⟩:=hx;exact⟨v,H1,h1,h _ _ h2⟩
 |mup m k v=>obtain⟨h1,b,es,cl,h2,h3,h4,h5⟩:=hx;exact⟨h1,b,es,cl,h2,h3,h4,h _ _ h5⟩
 |mui kk m k v=>obtain⟨h1,b,es,cl,h2,h3,h4,h5⟩:=hx;exact⟨h1,b,es,cl,h2,h3,h4,h _ _ h5⟩
 |mkm=>exact h _ _ hx
 |bad=>exact hx.elim
 |dS T s n ps=>exact⟨hx.1,h _ _ hx.2⟩
 |pH T n zs ps=>exact⟨hx.1,h _ _ hx.2⟩
 |rV T s b z l c=>exact⟨hx.1,h _ _ hx.2⟩
 |app str T s b z sv xv=>
  obtain⟨h1,news,h2,h3,h4⟩:=hx;exact⟨h1,news,h2,fun g=>⟨(h3 g).1,h _ _ (h3 g).2⟩,fun g=>let⟨o,g1,g2⟩:=h4 g;⟨o,g1,fun c hc=>h _ _ (g2 c hc)⟩⟩
 |cpy str s d sv=>obtain⟨h1,news,h2,h3,h4⟩:=hx;exact⟨h1,news,h2,h3,h _ _ h4⟩
 |clr z a=>exact⟨hx.1,hx.2.1,h _ _ hx.2.2⟩
 |s2b T a=>exact⟨hx.1,fun c hc=>h _ _ (hx.2 c hc)⟩
 |mark a=>
  simp only[EX.wp]at hx⊢
  split at hx
  ·split at hx<;>exact h _ _ hx
  ·exact hx.elim
def D.wr:D->List Nat
 |.v n=>[n]
 |_=>[]
def O.wr:O->List Nat
 |.p d _|.e d _|.gp d _ _ _|.ge d _ _ _=>d.wr
def T.wr:T->List Nat
 |.px d _ _ t=>d.wr++t.wr
 |.wcons d _ _ t m=>d.wr++t.wr++m.wr
 |_=>[]
def S.wr:S->List Nat
 |.reg l=>l.flatMap O.wr
 |.dr t=>t.wr
 |.seq a b|.ite _ a b=>a.wr++b.wr
 |.blk _ s|.loop s=>s.wr
 |.rf g _ _ _ _=>[g]
 |_=>[]
theorem bG (d:D) (x:Value) (f:Fr) (i:Nat) (h:i∉d.wr):d.fr x f i=f i:=by
 cases d<;>simp only[D.fr]
 simp[D.wr]at h;simp[ng,h]
theorem cq {P:Program}:∀(l:List O) (e:Env) (f:Fr) (H:Hp) (Q Q':Fr->Hp->Prop),(∀f' H',Q f' H'->(∀i,i∉l.flatMap O.wr->f' i=f i)->Q' f' H')->ops P l e f H Q->ops P l e f H Q'
 |[],e,f,H,Q,Q',h,hq=>h _ _ hq (fun _ _=>rfl)
 |.p d x::r,e,f,H,Q,Q',h,hq=>⟨hq.1,cq r _ _ _ Q Q' (fun f' H' q k=>h f' H' q (fun i hi=>by
   simp only[List.flatMap_cons,List.mem_append,not_or]at hi;rw[k i hi.2,bG d _ _ i hi.1])) hq.2⟩
 |.gp d g b x::r,e,f,H,Q,Q',h,hq=>⟨hq.1,cq r _ _ _ Q Q' (fun f' H' q k=>h f' H' q (fun i hi=>by
   simp only[List.flatMap_cons,List.mem_append,not_or]at hi;rw[k i hi.2,bG d _ _ i hi.1])) hq.2⟩
 |.e d x::r,e,f,H,Q,Q',h,hq=>EX.wp_mono (fun v H' hk=>cq r _ _ _ Q Q' (fun f' pR q k=>h f' pR q (fun i hi=>by
   simp only[List.flatMap_cons,List.mem_append,not_or]at hi;rw[k i hi.2,bG d _ _ i hi.1])) hk) hq
 |.ge d g b x::r,e,f,H,Q,Q',h,hq=>by
  have key:∀v e' H',ops P r e' (d.fr v f) H' Q->ops P r e' (d.fr v f) H' Q':=fun v e' H'=>cq r _ _ _ Q Q' (fun f' pR q k=>h f' pR q (fun i hi=>by
   simp only[List.flatMap_cons,List.mem_append,not_or]at hi;rw[k i hi.2,bG d _ _ i hi.1]))
  exact⟨fun hg=>EX.wp_mono (fun v H' hk=>key _ _ _ hk) (hq.1 hg),fun hg=>key _ _ _ (hq.2 hg)⟩
theorem bw {P:Program}:∀(C:Hp->Prop) (t:T) (e:Env) (f:Fr) (H:Hp) (Q Q':Fr->Hp->Prop),(∀f' H',Q f' H'->(∀i,i∉t.wr->f' i=f i)->Q' f' H')->iv P C t e f H Q->iv P C t e f H Q'
 |C,.done,e,f,H,Q,Q',h,hq=>h _ _ hq (fun _ _=>rfl)
 |C,.wnil,e,f,H,Q,Q',h,hq=>trivial
 |C,.px d none x t,e,f,H,Q,Q',h,hq=>⟨hq.1,bw _ t _ _ _ Q Q' (fun f' H' q k=>h f' H' q (fun i hi=>by
   simp only[T.wr,List.mem_append,not_or]at hi;rw[k i hi.2,bG d _ _ i hi.1])) hq.2⟩
 |C,.px d (some (y,b)) x t,e,f,H,Q,Q',h,hq=>⟨hq.1,bw _ t _ _ _ Q Q' (fun f' H' q k=>h f' H' q (fun i hi=>by
   simp only[T.wr,List.mem_append,not_or]at hi;rw[k i hi.2,bG d _ _ i hi.1])) hq.2⟩
 |C,.wcons d none x t m,e,f,H,Q,Q',h,hq=>⟨EX.wp_mono (fun v H' ⟨C',hk,qt,q5⟩=>⟨C',hk,qt,bw _ t _ _ _ Q Q' (fun f' pR q k=>h f' pR q (fun i hi=>by
   simp only[T.wr,List.mem_append,not_or]at hi;rw[k i hi.1.2,bG d _ _ i hi.1.1])) q5⟩) hq.1,bw _ m _ _ _ Q Q' (fun f' H' q k=>h f' H' q (fun i hi=>by
   simp only[T.wr,List.mem_append,not_or]at hi;exact k i hi.2)) hq.2⟩
 |C,.wcons d (some (y,b)) x t m,e,f,H,Q,Q',h,hq=>by
  have key:∀(C:Hp->Prop) v e' H',iv P C t e' (d.fr v f) H' Q->iv P C t e' (d.fr v f) H' Q':=fun C v e' H'=>bw _ t _ _ _ Q Q' (fun f' pR q k=>h f' pR q (fun i hi=>by
   simp only[T.wr,List.mem_append,not_or]at hi;rw[k i hi.1.2,bG d _ _ i hi.1.1]))
  refine⟨⟨fun hg=>EX.wp_mono (fun v H' ⟨C',hk,qt,q5⟩=>⟨C',hk,qt,key _ _ _ _ q5⟩) (hq.1.1 hg),fun hg=>key _ _ _ _ (hq.1.2 hg)⟩,bw _ m _ _ _ Q Q' (fun f' H' q k=>h f' H' q (fun i hi=>by
   simp only[T.wr,List.mem_append,not_or]at hi;exact k i hi.2)) hq.2⟩
theorem bQ {P:Program}:∀(s:S) (f:Fr) (H:Hp) (Q Q':Ex->Fr->Hp->Prop),(∀e f' H',Q e f' H'->(∀i,i∉s.wr->f' i=f i)->Q' e f' H')->vc P s Q f H->vc P s Q' f H
 |.skip,f,H,Q,Q',h,hq=>h _ _ _ hq (fun _ _=>rfl)
 |.exit _,f,H,Q,Q',h,hq=>h _ _ _ hq (fun _ _=>rfl)
 |.ret,f,H,Q,Q',h,hq=>h _ _ _ hq (fun _ _=>rfl)
 |.reg l,f,H,Q,Q',h,hq=>cq l _ _ _ _ _ (fun f' H' q k=>h _ _ _ q k) hq
 |.dr t,f,H,Q,Q',h,hq=>let⟨C,hC,ht⟩:=hq;⟨C,hC,bw C t _ _ _ _ _ (fun f' H' q k=>h _ _ _ q k) ht⟩
 |.seq a b,f,H,Q,Q',h,hq=>by
  refine bQ a f H _ _ ?_ hq;intro e f1 H1 q k
  cases e with
  |n=>
   refine bQ b f1 H1 _ _ ?_ q;intro e f2 H2 q2 k2;exact h _ _ _ q2 (fun i hi=>by simp only[S.wr,List.mem_append,not_or]at hi;rw[k2 i hi.2,k i hi.1])
  |x i=>exact h _ _ _ q (fun i hi=>by simp only[S.wr,List.mem_append,not_or]at hi;exact k i hi.1)
  |r=>exact h _ _ _ q (fun i hi=>by simp only[S.wr,List.mem_append,not_or]at hi;exact k i hi.1)
 |.ite c a b,f,H,Q,Q',h,hq=>by
  obtain⟨h1,h2,h3⟩:=hq;exact⟨h1,fun hc=>bQ a f H _ _ (fun e f' H' q k=>h _ _ _ q (fun i hi=>by simp only[S.wr,List.mem_append,not_or]at hi;exact k i hi.1)) (h2 hc),
   fun hc=>bQ b f H _ _ (fun e f' H' q k=>h _ _ _ q (fun i hi=>by simp only[S.wr,List.mem_append,not_or]at hi;exact k i hi.2)) (h3 hc)⟩
 |.blk id s,f,H,Q,Q',h,hq=>by
  refine bQ s f H _ _ ?_ hq;intro e f1 H1 q k
  cases e with
  |n=>exact h _ _ _ q k
  |x i=>
   simp only[iY]at q⊢
   split
   ·rename_i hi;rw[if_pos hi]at q;exact h _ _ _ q k
   ·rename_i hi;rw[if_neg hi]at q;exact h _ _ _ q k
  |r=>exact h _ _ _ q k
 |.rf g a p i s,f,H,Q,Q',h,hq=>by
  obtain⟨gf,lb,xs,G,J,X,h1,h2,h3,h4,h5,h6,h7⟩:=hq;have hk:∀k,k∉(S.rf g a p i s).wr->ng f g (qS (f g) H.size) k=f k:=fun k hk=>by
   simp only[S.wr,List.mem_singleton]at hk;simp only[ng,if_neg hk]
  exact⟨gf,lb,xs,G,J,X,h1,h2,h3,h4,h5,fun H1 hj=>h _ _ _ (h6 H1 hj) hk,fun e H1 hx=>h _ _ _ (h7 e H1 hx) hk⟩
 |.loop s,f,H,Q,Q',h,hq=>by
  obtain⟨I,⟨n,h0⟩,hr⟩:=hq;refine⟨fun n f1 H1=>I n f1 H1/\∀i,i∉s.wr->f1 i=f i,⟨n,h0,fun _ _=>rfl⟩,?_⟩;rintro n f1 H1 ⟨hI,hk⟩;refine bQ s f1 H1 _ _ ?_ (hr n f1 H1 hI);intro e f2 H2 q k
  cases e with
  |n=>obtain⟨m,hm,tt⟩:=q;exact⟨m,hm,tt,fun i hi=>by rw[k i hi,hk i hi]⟩
  |x i=>exact h _ _ _ q (fun i hi=>by rw[k i hi,hk i hi])
  |r=>exact h _ _ _ q (fun i hi=>by rw[k i hi,hk i hi])
def over (f:Fr) (g:Fr):List Nat->Fr
 |[]=>f
 |w::ws=>fun i=>if i=w then g i else over f g ws i
@[go_sem] theorem ra (f g:Fr) (i:Nat):over f g [] i=f i:=rfl
@[go_sem] theorem qy (f g:Fr) (w:Nat) (ws:List Nat) (i:Nat):over f g (w::ws) i=if i=w then g i else over f g ws i:=rfl
theorem jY (f g:Fr):∀(ws:List Nat) (i:Nat),over f g ws i=if i∈ws then g i else f i
 |[],i=>by simp[over]
 |w::ws,i=>by
  simp only[over,List.mem_cons]
  by_cases h:i=w
  ·simp[h]
  ·simp[h,jY f g ws i]
theorem over_self {g:Fr} {ws:List Nat} (h:∀i,i∉ws->g i=f i):over f g ws=g:=by
 funext i;rw[jY];split
 ·rfl
 ·rename_i hi;exact(h i hi).symm
theorem aD {s:S} {Q:Ex->Fr->Hp->Prop} (ws:List Nat) (hws:s.wr.all (ws.contains ·)=true) (I:Nat->Fr->Hp->Prop) (re:Nat) (h0:I re f H)
  (hr:∀n g H',I n (over f g ws) H'->vc P s (iy I n Q) (over f g ws) H'):vc P (.loop s) Q f H:=by
 refine⟨fun n f1 H1=>I n f1 H1/\∀i,i∉ws->f1 i=f i,⟨re,h0,fun _ _=>rfl⟩,?_⟩;rintro n f1 H1 ⟨hI,hk⟩;have e:=over_self hk;have:=hr n f1 H1 (by rw[e];exact hI);rw[e]at this;refine bQ s f1 H1 _ _ ?_ this;intro ex f2 H2 q k;have hsub:∀i,i∉ws->i∉s.wr:=fun i hi hm=>by
  have:=List.all_eq_true.1 hws i hm;exact hi (by simpa using this)
 cases ex with
 |n=>obtain⟨m,hm,tt⟩:=q;exact⟨m,hm,tt,fun i hi=>by rw[k i (hsub i hi),hk i hi]⟩
 |x i=>exact q
 |r=>exact q
@[go_sem] theorem si (I) (n:Nat) (Q) (f:Fr) (H:Hp):iy I n Q .n f H=∃m,m<n/\I m f H:=rfl
def gx (v:Value) (p q:Prop):Prop:=lJ v/\(v.b=true->p)/\(v.b=false->q)
@[go_sem] theorem tu (P:Program) (c:A) (a b:S) (Q) (f:Fr) (H:Hp):vc P (.ite c a b) Q f H=gx (c.rd [] f) (vc P a Q f H) (vc P b Q f H):=rfl
@[congr] theorem pS {v v':Value} (h:v=v'):gx v p q=gx v' p q:=by rw[h]
@[go_sem] theorem qz (p q:Prop):gx (.bool true) p q=p:=by simp[gx,lJ,Value.b]
@[go_sem] theorem pT (p q:Prop):gx (.bool false) p q=q:=by simp[gx,lJ,Value.b]
theorem nJ {b:Bool} (h1:b=true->p) (h2:b=false->q):gx (.bool b) p q:=⟨trivial,h1,h2⟩
theorem au {c:Prop} [Decidable c] (h1:c->p) (h2:¬c->q):gx (.bool (decide c)) p q:=⟨trivial,fun h=>h1 (by simpa[Value.b]using h),fun h=>h2 (by simpa[Value.b]using h)⟩
end Go.Mg

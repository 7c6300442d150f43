/- Lemmas of ours. No conditions. -/
import Derived.Test.YtoclemmcphgikaaGreatDoorMgFn
open Bool renaming false→ZS,true→ZT
open Go renaming Value→ZR
open Go.Value renaming bool→Z5,pointer→Z7
open Option renaming none→ZU,some→ZV
open Bool renaming false_eq_true→ZD
open Decidable renaming byContradiction→YX
open List renaming flatMap_cons→Zq,map→Wc,mem_append→Zl
open Nat renaming le_refl→ZH,le_trans→Zp,lt_of_lt_of_le→Xv
set_option linter.all false
namespace Go.Mg
open Go Go.RowKit
section
variable (P:Program)
@[go_sem] theorem aaa (Q) (f:Fr) (H:Hp):vc P .skip Q f H=Q .n f H:=rfl
@[go_sem] theorem PO (l:List O) (Q) (f:Fr) (H:Hp):vc P (.reg l) Q f H=ops P l [] f H (Q .n):=rfl
@[go_sem] theorem kx (a b:S) (Q) (f:Fr) (H:Hp):vc P (.seq a b) Q f H=vc P a (yB (vc P b Q) Q) f H:=rfl
@[go_sem] theorem afa (i:Nat) (s:S) (Q) (f:Fr) (H:Hp):vc P (.blk i s) Q f H=vc P s (uj i Q) f H:=rfl
@[go_sem] theorem aab (i:Nat) (Q) (f:Fr) (H:Hp):vc P (.exit i) Q f H=Q (.x i) f H:=rfl
@[go_sem] theorem afb (Q) (f:Fr) (H:Hp):vc P .ret Q f H=Q .r f H:=rfl
@[go_sem] theorem zM (N) (Q) (f:Fr) (H:Hp):yB N Q .n f H=N f H:=rfl
@[go_sem] theorem aac (N) (Q) (i:Nat) (f:Fr) (H:Hp):yB N Q (.x i) f H=Q (.x i) f H:=rfl
@[go_sem] theorem ai3 (N) (Q) (f:Fr) (H:Hp):yB N Q .r f H=Q .r f H:=rfl
@[go_sem] theorem ajj (i:Nat) (Q) (f:Fr) (H:Hp):uj i Q .n f H=Q .n f H:=rfl
@[go_sem] theorem ajk (i:Nat) (Q) (f:Fr) (H:Hp):uj i Q .r f H=Q .r f H:=rfl
@[go_sem] theorem PQ (i j:Nat) (Q) (f:Fr) (H:Hp):uj i Q (.x j) f H=if j=i then Q .n f H else Q (.x j) f H:=rfl
@[go_sem] theorem ai4 (I) (i:Nat) (Q) (f:Fr) (H:Hp):vq I i Q .r f H=Q .r f H:=rfl
@[go_sem] theorem aad (I) (i j:Nat) (Q) (f:Fr) (H:Hp):vq I i Q (.x j) f H=Q (.x j) f H:=rfl
@[go_sem] theorem ajl (rs:List RV) (R) (f:Fr) (H:Hp):kr rs R .n f H=(dQ f H rs/\R (dR f H rs) H):=rfl
@[go_sem] theorem ajm (rs:List RV) (R) (f:Fr) (H:Hp):kr rs R .r f H=(dQ f H rs/\R (dR f H rs) H):=rfl
@[go_sem] theorem zN (e:Env) (f:Fr) (H:Hp) (Q):ops P [] e f H Q=Q f H:=rfl
@[go_sem] theorem Lg (d:D) (x:PX) (r:List O) (e:Env) (f:Fr) (H:Hp) (Q):
  ops P (.p d x::r) e f H Q=(x.pre (A.rd e f) H/\ops P r (d.env (x.val (A.rd e f) H) e) (d.fr (x.val (A.rd e f) H) f) H Q):=rfl
@[go_sem] theorem ajn (d:D) (g:A) (b:Bool) (x:PX) (r:List O) (e:Env) (f:Fr) (H:Hp) (Q):
  ops P (.gp d g b x::r) e f H Q=((gb (g.rd e f) b=ZT->x.pre (A.rd e f) H)∧
   ops P r (d.env (if gb (g.rd e f) b=ZT then x.val (A.rd e f) H else undef) e) (d.fr (if gb (g.rd e f) b=ZT then x.val (A.rd e f) H else undef) f) H Q):=rfl
@[go_sem] theorem Lh (d:D) (x:EX) (r:List O) (e:Env) (f:Fr) (H:Hp) (Q):ops P (.e d x::r) e f H Q=x.wp P (A.rd e f) H (zG P d r e f Q):=rfl
@[go_sem] theorem ajo (d:D) (g:A) (b:Bool) (x:EX) (r:List O) (e:Env) (f:Fr) (H:Hp) (Q):
  ops P (.ge d g b x::r) e f H Q=((gb (g.rd e f) b=ZT->x.wp P (A.rd e f) H (zG P d r e f Q))/\(gb (g.rd e f) b=ZS->ops P r (d.env undef e) (d.fr undef f) H Q)):=rfl
def ae (d:D) (r:List O) (e:Env) (f:Fr) (Q) (v:ZR) (H:Hp):zG P d r e f Q v H=ops P r (d.env v e) (d.fr v f) H Q:=rfl
@[go_sem] theorem iW (e:Env) (f:Fr) (n:Nat):A.rd e f (.t n)=look e n:=rfl
@[go_sem] theorem k7 (e:Env) (f:Fr) (n:Nat):A.rd e f (.v n)=f n:=rfl
@[go_sem] theorem rd_c (e:Env) (f:Fr) (v:ZR):A.rd e f (.c v)=v:=rfl
@[go_sem] theorem bD (k:Nat) (x:ZR) (e:Env) (n:Nat):look ((k,x)::e) n=if n=k then x else look e n:=rfl
@[go_sem] theorem look_nil (n:Nat):look [] n=undef:=rfl
@[go_sem] theorem ajp (f:Fr) (d:Nat) (x:ZR) (i:Nat):bR f d x i=if i=d then x else f i:=rfl
@[go_sem] theorem gQ (n:Nat) (x:ZR) (e:Env):D.env (.t n) x e=(n,x)::e:=rfl
@[go_sem] theorem Em (n:Nat) (x:ZR) (e:Env):D.env (.v n) x e=e:=rfl
@[go_sem] theorem jo (x:ZR) (e:Env):D.env .no x e=e:=rfl
@[go_sem] theorem nV (n:Nat) (x:ZR) (f:Fr):D.fr (.t n) x f=f:=rfl
@[go_sem] theorem PS (n:Nat) (x:ZR) (f:Fr):D.fr (.v n) x f=bR f n x:=rfl
@[go_sem] theorem oo (x:ZR) (f:Fr):D.fr .no x f=f:=rfl
@[go_sem] theorem aho (k:Nat):fK k []=[]:=rfl
@[go_sem] theorem ag7 (k:Nat) (x:ZR) (l:List ZR):fK k (x::l)=(k,x)::fK (k+1) l:=rfl
@[go_sem] theorem Li (k k':IntKind) (n:Int):ju k (.int k' n)=(k'=k):=rfl
@[go_sem] theorem afc (a:Option Addr) (l c:Nat):aq (.slice a l c)=True:=rfl
@[go_sem] theorem afd (a:Option Addr) (l c:Nat):aW (.slice a l c)=l:=rfl
@[go_sem] theorem afe (a:Option Addr) (l c:Nat):iw (.slice a l c)=c:=rfl
@[go_sem] theorem aff (a:Option Addr) (l c:Nat):iT (.slice a l c)=a:=rfl
attribute [go_sem] PX.free PM.free forall_eq DX ye mxF
@[go_sem] theorem ajq (l:List ZR):gL (.agg l.toArray)=l:=rfl
attribute [go_sem] List.getD_cons_zero List.getD_cons_succ
@[go_sem] theorem ai5 (x b:Bool):gb (.bool x) b=(x==b):=rfl
@[go_sem] theorem ahp (b:Bool):gb undef b=ZS:=rfl
attribute [go_sem] Option.getD_some Option.isSome_some Value.oneCell' PX.pre PX.val PM.pre PM.val arI dvI shI cmI scB isInt Pu pI KN vh DW gJ Value.i Value.b Value.s Value.g Pw oi Px pz DM fc aeY PC US rI dQ dR RV.pre RV.val Pv cP tM bw Uy EX.wp
def zS:(∀{α β:Type} (f:α->β) (a:α) (l:List α),Wc f (a::l)=f a::Wc f l)/\(∀{α β:Type} (f:α->β),Wc f []=[])/\(∀p:Prop,(p/\True)=p)/\(∀p:Prop,(True/\p)=p)∧
  (∀n:Nat,n*1=n)/\(∀n:Nat,0+n=n)/\((ZS=ZT)=False)/\(∀h:Decidable True,@decide True h=ZT)/\(∀h:Decidable False,@decide False h=ZS)/\((¬False)=True):=
 ⟨fun f a l=>List.map_cons,fun f=>List.map_nil,and_true,true_and,Nat.mul_one,Nat.zero_add,ZD,decide_true,decide_false,not_false_eq_true⟩
def zU:(∀{α:Type} [BEq α] [ReflBEq α] (a:α),(a==a)=ZT)/\(∀{α:Type} [BEq α] [LawfulBEq α] (a:α),(a !=a)=ZS)/\(∀{n:Nat},((no_index (OfNat.ofNat n):Nat):Int)=OfNat.ofNat n):=
 ⟨beq_self_eq_true,bne_self_eq_false,Int.cast_ofNat_Int⟩
def zV:(∀n:Int,n<=n)/\(∀p:Prop,(p/\p)=p)/\(∀n:Nat,n<=n):=⟨Int.le_refl,and_self,ZH⟩
end
def EX.wp_mono {P:Program} {x:EX} {r:A->ZR} {H:Hp} {K K':ZR->Hp->Prop} (h:∀v H',K v H'->K' v H') (hx:x.wp P r H K):x.wp P r H K':=by
 cases x with
 |st a y=>exact⟨hx.1,h _ _ hx.2⟩
 |stn n a y=>exact⟨hx.1,h _ _ hx.2⟩
 |new T z=>exact h _ _ hx
 |rd y=>exact⟨hx.1,h _ _ hx.2⟩
 |box T a=>exact h _ _ hx
 |call f args=>exact an.mono hx h
 |callv f args=>
  simp only[EX.wp]at hx⊢
  split at hx
  ·exact⟨hx.1,an.mono hx.2 h⟩
  ·exact hx.elim
 |cally f args=>obtain⟨l,h1,h2⟩:=hx;exact⟨l,h1,h2.mono h⟩
 |lib f args=>obtain⟨v,H1,h1,h2⟩:=hx;exact⟨v,H1,h1,h _ _ h2⟩
 |mup m k v=>obtain⟨h1,b,es,cl,h2,h3,h4,h5⟩:=hx;exact⟨h1,b,es,cl,h2,h3,h4,h _ _ h5⟩
 |mui kk m k v=>obtain⟨h1,b,es,cl,h2,h3,h4,h5⟩:=hx;exact⟨h1,b,es,cl,h2,h3,h4,h _ _ h5⟩
 |mkm=>exact h _ _ hx
 |bad=>exact hx.elim
 |aX T s n ps=>exact⟨hx.1,h _ _ hx.2⟩
 |ae5 T n zs ps=>exact⟨hx.1,h _ _ hx.2⟩
 |rJ T s b z l c=>exact⟨hx.1,h _ _ hx.2⟩
 |app str T s b z sv xv=>
  obtain⟨h1,news,h2,h3,h4⟩:=hx;exact⟨h1,news,h2,fun g=>⟨(h3 g).1,h _ _ (h3 g).2⟩,fun g=>let⟨o,g1,g2⟩:=h4 g;⟨o,g1,fun c hc=>h _ _ (g2 c hc)⟩⟩
 |cpy str s d sv=>obtain⟨h1,news,h2,h3,h4⟩:=hx;exact⟨h1,news,h2,h3,h _ _ h4⟩
 |clr z a=>exact⟨hx.1,hx.2.1,h _ _ hx.2.2⟩
 |s2b T a=>exact⟨hx.1,fun c hc=>h _ _ (hx.2 c hc)⟩
 |mark a=>
  simp only[EX.wp]at hx⊢
  split at hx
  ·split at hx<;>exact h _ _ hx
  ·exact hx.elim
def D.wr:D->List Nat
 |.v n=>[n]
 |_=>[]
def O.wr:O->List Nat
 |.p d _|.e d _|.gp d _ _ _|.ge d _ _ _=>d.wr
def T.wr:T->List Nat
 |.px d _ _ t=>d.wr++t.wr
 |.wcons d _ _ t m=>d.wr++t.wr++m.wr
 |_=>[]
def S.wr:S->List Nat
 |.reg l=>l.flatMap O.wr
 |.dr t=>t.wr
 |.seq a b|.ite _ a b=>a.wr++b.wr
 |.blk _ s|.loop s=>s.wr
 |.rf g _ _ _ _=>[g]
 |_=>[]
def i7 (d:D) (x:ZR) (f:Fr) (i:Nat) (h:i∉d.wr):d.fr x f i=f i:=by
 cases d<;>simp only[D.fr]
 simp[D.wr]at h;simp[bR,h]
def mf {P:Program}:∀(l:List O) (e:Env) (f:Fr) (H:Hp) (Q Q':Fr->Hp->Prop),(∀f' H',Q f' H'->(∀i,i∉l.flatMap O.wr->f' i=f i)->Q' f' H')->ops P l e f H Q->ops P l e f H Q'
 |[],e,f,H,Q,Q',h,hq=>h _ _ hq (fun _ _=>rfl)
 |.p d x::r,e,f,H,Q,Q',h,hq=>⟨hq.1,mf r _ _ _ Q Q' (fun f' H' q k=>h f' H' q (fun i hi=>by
   simp only[Zq,Zl,not_or]at hi;rw[k i hi.2,i7 d _ _ i hi.1])) hq.2⟩
 |.gp d g b x::r,e,f,H,Q,Q',h,hq=>⟨hq.1,mf r _ _ _ Q Q' (fun f' H' q k=>h f' H' q (fun i hi=>by
   simp only[Zq,Zl,not_or]at hi;rw[k i hi.2,i7 d _ _ i hi.1])) hq.2⟩
 |.e d x::r,e,f,H,Q,Q',h,hq=>EX.wp_mono (fun v H' hk=>mf r _ _ _ Q Q' (fun f' H'' q k=>h f' H'' q (fun i hi=>by
   simp only[Zq,Zl,not_or]at hi;rw[k i hi.2,i7 d _ _ i hi.1])) hk) hq
 |.ge d g b x::r,e,f,H,Q,Q',h,hq=>by
  have key:∀v e' H',ops P r e' (d.fr v f) H' Q->ops P r e' (d.fr v f) H' Q':=fun v e' H'=>mf r _ _ _ Q Q' (fun f' H'' q k=>h f' H'' q (fun i hi=>by
   simp only[Zq,Zl,not_or]at hi;rw[k i hi.2,i7 d _ _ i hi.1]))
  exact⟨fun hg=>EX.wp_mono (fun v H' hk=>key _ _ _ hk) (hq.1 hg),fun hg=>key _ _ _ (hq.2 hg)⟩
def iC {P:Program}:∀(C:Hp->Prop) (t:T) (e:Env) (f:Fr) (H:Hp) (Q Q':Fr->Hp->Prop),(∀f' H',Q f' H'->(∀i,i∉t.wr->f' i=f i)->Q' f' H')->DN P C t e f H Q->DN P C t e f H Q'
 |C,.done,e,f,H,Q,Q',h,hq=>h _ _ hq (fun _ _=>rfl)
 |C,.wnil,e,f,H,Q,Q',h,hq=>trivial
 |C,.px d ZU x t,e,f,H,Q,Q',h,hq=>⟨hq.1,iC _ t _ _ _ Q Q' (fun f' H' q k=>h f' H' q (fun i hi=>by
   simp only[T.wr,Zl,not_or]at hi;rw[k i hi.2,i7 d _ _ i hi.1])) hq.2⟩
 |C,.px d (ZV (y,b)) x t,e,f,H,Q,Q',h,hq=>⟨hq.1,iC _ t _ _ _ Q Q' (fun f' H' q k=>h f' H' q (fun i hi=>by
   simp only[T.wr,Zl,not_or]at hi;rw[k i hi.2,i7 d _ _ i hi.1])) hq.2⟩
 |C,.wcons d ZU x t m,e,f,H,Q,Q',h,hq=>⟨EX.wp_mono (fun v H' ⟨C',hk,UB,hk2⟩=>⟨C',hk,UB,iC _ t _ _ _ Q Q' (fun f' H'' q k=>h f' H'' q (fun i hi=>by
   simp only[T.wr,Zl,not_or]at hi;rw[k i hi.1.2,i7 d _ _ i hi.1.1])) hk2⟩) hq.1,iC _ m _ _ _ Q Q' (fun f' H' q k=>h f' H' q (fun i hi=>by
   simp only[T.wr,Zl,not_or]at hi;exact k i hi.2)) hq.2⟩
 |C,.wcons d (ZV (y,b)) x t m,e,f,H,Q,Q',h,hq=>by
  have key:∀(C:Hp->Prop) v e' H',DN P C t e' (d.fr v f) H' Q->DN P C t e' (d.fr v f) H' Q':=fun C v e' H'=>iC _ t _ _ _ Q Q' (fun f' H'' q k=>h f' H'' q (fun i hi=>by
   simp only[T.wr,Zl,not_or]at hi;rw[k i hi.1.2,i7 d _ _ i hi.1.1]))
  refine⟨⟨fun hg=>EX.wp_mono (fun v H' ⟨C',hk,UB,hk2⟩=>⟨C',hk,UB,key _ _ _ _ hk2⟩) (hq.1.1 hg),fun hg=>key _ _ _ _ (hq.1.2 hg)⟩,iC _ m _ _ _ Q Q' (fun f' H' q k=>h f' H' q (fun i hi=>by
   simp only[T.wr,Zl,not_or]at hi;exact k i hi.2)) hq.2⟩
def fX {P:Program}:∀(s:S) (f:Fr) (H:Hp) (Q Q':Ex->Fr->Hp->Prop),(∀e f' H',Q e f' H'->(∀i,i∉s.wr->f' i=f i)->Q' e f' H')->vc P s Q f H->vc P s Q' f H
 |.skip,f,H,Q,Q',h,hq=>h _ _ _ hq (fun _ _=>rfl)
 |.exit _,f,H,Q,Q',h,hq=>h _ _ _ hq (fun _ _=>rfl)
 |.ret,f,H,Q,Q',h,hq=>h _ _ _ hq (fun _ _=>rfl)
 |.reg l,f,H,Q,Q',h,hq=>mf l _ _ _ _ _ (fun f' H' q k=>h _ _ _ q k) hq
 |.dr t,f,H,Q,Q',h,hq=>let⟨C,hC,ht⟩:=hq;⟨C,hC,iC C t _ _ _ _ _ (fun f' H' q k=>h _ _ _ q k) ht⟩
 |.seq a b,f,H,Q,Q',h,hq=>by
  refine fX a f H _ _ ?_ hq;intro e f1 H1 q k
  cases e with
  |n=>
   refine fX b f1 H1 _ _ ?_ q;intro e f2 H2 q2 k2;exact h _ _ _ q2 (fun i hi=>by simp only[S.wr,Zl,not_or]at hi;rw[k2 i hi.2,k i hi.1])
  |x i=>exact h _ _ _ q (fun i hi=>by simp only[S.wr,Zl,not_or]at hi;exact k i hi.1)
  |r=>exact h _ _ _ q (fun i hi=>by simp only[S.wr,Zl,not_or]at hi;exact k i hi.1)
 |.ite c a b,f,H,Q,Q',h,hq=>by
  obtain⟨h1,h2,h3⟩:=hq;exact⟨h1,fun hc=>fX a f H _ _ (fun e f' H' q k=>h _ _ _ q (fun i hi=>by simp only[S.wr,Zl,not_or]at hi;exact k i hi.1)) (h2 hc),
   fun hc=>fX b f H _ _ (fun e f' H' q k=>h _ _ _ q (fun i hi=>by simp only[S.wr,Zl,not_or]at hi;exact k i hi.2)) (h3 hc)⟩
 |.blk id s,f,H,Q,Q',h,hq=>by
  refine fX s f H _ _ ?_ hq;intro e f1 H1 q k
  cases e with
  |n=>exact h _ _ _ q k
  |x i=>
   simp only[uj]at q⊢
   split
   ·rename_i hi;rw[if_pos hi]at q;exact h _ _ _ q k
   ·rename_i hi;rw[if_neg hi]at q;exact h _ _ _ q k
  |r=>exact h _ _ _ q k
 |.rf g a p i s,f,H,Q,Q',h,hq=>by
  obtain⟨gf,lb,xs,G,J,X,h1,h2,h3,h4,h5,h6,h7⟩:=hq;have hk:∀k,k∉(S.rf g a p i s).wr->bR f g (pS (f g) H.size) k=f k:=fun k hk=>by
   simp only[S.wr,List.mem_singleton]at hk;simp only[bR,if_neg hk]
  exact⟨gf,lb,xs,G,J,X,h1,h2,h3,h4,h5,fun H1 hj=>h _ _ _ (h6 H1 hj) hk,fun e H1 hx=>h _ _ _ (h7 e H1 hx) hk⟩
 |.loop s,f,H,Q,Q',h,hq=>by
  obtain⟨I,⟨n,h0⟩,hr⟩:=hq;refine⟨fun n f1 H1=>I n f1 H1/\∀i,i∉s.wr->f1 i=f i,⟨n,h0,fun _ _=>rfl⟩,?_⟩;rintro n f1 H1 ⟨hI,hk⟩;refine fX s f1 H1 _ _ ?_ (hr n f1 H1 hI);intro e f2 H2 q k
  cases e with
  |n=>obtain⟨m,hm,hI2⟩:=q;exact⟨m,hm,hI2,fun i hi=>by rw[k i hi,hk i hi]⟩
  |x i=>exact h _ _ _ q (fun i hi=>by rw[k i hi,hk i hi])
  |r=>exact h _ _ _ q (fun i hi=>by rw[k i hi,hk i hi])
def Lj {P:Program} {s:S} {f:Fr} {H:Hp} {Q Q':Ex->Fr->Hp->Prop} (h:∀e f' H',Q e f' H'->Q' e f' H') (hq:vc P s Q f H):vc P s Q' f H:=
 fX s f H Q Q' (fun e f' H' q _=>h e f' H' q) hq
def over (f:Fr) (g:Fr):List Nat->Fr
 |[]=>f
 |w::ws=>fun i=>if i=w then g i else over f g ws i
@[go_sem] theorem ahq (f g:Fr) (i:Nat):over f g [] i=f i:=rfl
@[go_sem] theorem ag8 (f g:Fr) (w:Nat) (ws:List Nat) (i:Nat):over f g (w::ws) i=if i=w then g i else over f g ws i:=rfl
def Lk (f g:Fr):∀(ws:List Nat) (i:Nat),over f g ws i=if i∈ws then g i else f i
 |[],i=>by simp[over]
 |w::ws,i=>by
  simp only[over,List.mem_cons]
  by_cases h:i=w
  ·simp[h]
  ·simp[h,Lk f g ws i]
def over_self {f g:Fr} {ws:List Nat} (h:∀i,i∉ws->g i=f i):over f g ws=g:=by
 funext i;rw[Lk];split
 ·rfl
 ·rename_i hi;exact(h i hi).symm
def aT {P:Program} {s:S} {Q:Ex->Fr->Hp->Prop} {f:Fr} {H:Hp} (ws:List Nat) (hws:s.wr.all (ws.contains ·)=ZT) (I:Nat->Fr->Hp->Prop) (ahr:Nat) (h0:I ahr f H)
  (hr:∀n g H',I n (over f g ws) H'->vc P s (vq I n Q) (over f g ws) H'):vc P (.loop s) Q f H:=by
 refine⟨fun n f1 H1=>I n f1 H1/\∀i,i∉ws->f1 i=f i,⟨ahr,h0,fun _ _=>rfl⟩,?_⟩;rintro n f1 H1 ⟨hI,hk⟩;have e:=over_self hk;have:=hr n f1 H1 (by rw[e];exact hI);rw[e]at this;refine fX s f1 H1 _ _ ?_ this;intro ex f2 H2 q k;have hsub:∀i,i∉ws->i∉s.wr:=fun i hi hm=>by
  have:=List.all_eq_true.1 hws i hm;exact hi (by simpa using this)
 cases ex with
 |n=>obtain⟨m,hm,hI2⟩:=q;exact⟨m,hm,hI2,fun i hi=>by rw[k i (hsub i hi),hk i hi]⟩
 |x i=>exact q
 |r=>exact q
@[go_sem] theorem aae (I) (n:Nat) (Q) (f:Fr) (H:Hp):vq I n Q .n f H=∃m,m<n/\I m f H:=rfl
def zO (v:ZR) (p q:Prop):Prop:=Pu v/\(v.b=ZT->p)/\(v.b=ZS->q)
@[go_sem] theorem afg (P:Program) (c:A) (a b:S) (Q) (f:Fr) (H:Hp):vc P (.ite c a b) Q f H=zO (c.rd [] f) (vc P a Q f H) (vc P b Q f H):=rfl
@[congr] theorem afh {v v':ZR} {p q:Prop} (h:v=v'):zO v p q=zO v' p q:=by rw[h]
@[go_sem] theorem ag9 (p q:Prop):zO (Z5 ZT) p q=p:=by simp[zO,Pu,Value.b]
@[go_sem] theorem afi (p q:Prop):zO (Z5 ZS) p q=q:=by simp[zO,Pu,Value.b]
def zP {b:Bool} {p q:Prop} (h1:b=ZT->p) (h2:b=ZS->q):zO (.bool b) p q:=⟨trivial,h1,h2⟩
def aN {c:Prop} [Decidable c] {p q:Prop} (h1:c->p) (h2:¬c->q):zO (.bool (decide c)) p q:=⟨trivial,fun h=>h1 (by simpa[Value.b]using h),fun h=>h2 (by simpa[Value.b]using h)⟩
def Bl (H:Hp) (b:Nat) (l:List ZR):Prop:=∃T,H[b]?=ZV (.cells l.toArray T (0,0))
def Bl.lt {H:Hp} {b:Nat} {l:List ZR} (h:Bl H b l):b<H.size:=by
 obtain⟨T,h⟩:=h;exact(Array.getElem?_eq_some_iff.1 h).1
def Bl.cell {H:Hp} {b:Nat} {l:List ZR} (h:Bl H b l) (o:Nat):cell H ⟨b,o,ZU⟩=l[o]?:=by
 obtain⟨T,h⟩:=h;simp[Mg.cell,h]
def Bl.tL {H:Hp} {b:Nat} {l:List ZR} (h:Bl H b l) (o:Nat):tL H ⟨b,o,ZU⟩=ZS:=by
 obtain⟨T,h⟩:=h;simp[Mg.tL,h]
def Bl.az {H:Hp} {b:Nat} {l:List ZR} (h:Bl H b l) (o:Nat) (v:ZR):Bl (Mg.az H ⟨b,o,ZU⟩ v) b (l.set o v):=by
 obtain⟨T,h⟩:=h;refine⟨T,?_⟩;rw[ve (p:=⟨b,o,ZU⟩) rfl h,dN h];simp
def jA {H:Hp} {p:Addr} {v:ZR} {b:Nat} (hb:b≠p.block):(az H p v)[b]?=H[b]?:=by
 unfold az;rw[Array.getElem?_modify,if_neg (fun e=>hb e.symm)]
def Bl.fg {H:Hp} {b:Nat} {l:List ZR} (h:Bl H b l) {p:Addr} (v:ZR) (hb:b≠p.block):Bl (Mg.az H p v) b l:=by
 obtain⟨T,h⟩:=h;exact⟨T,by rw[jA hb];exact h⟩
def fh {H:Hp} {o:Obj} {b:Nat} (hb:b<H.size):(H.push o)[b]?=H[b]?:=by
 rw[Array.getElem?_push,if_neg (by omega)]
def Bl.push {H:Hp} {b:Nat} {l:List ZR} (h:Bl H b l) (o:Obj):Bl (H.push o) b l:=by
 have:=h.lt;obtain⟨T,h⟩:=h;exact⟨T,by rw[fh this];exact h⟩
def Bl.new (H:Hp) (l:List ZR) (T:TypeId):Bl (H.push (.cells l.toArray T)) H.size l:=⟨T,by simp⟩
def Bl.dh (H:Hp) (C:Array ZR) (T:TypeId):Bl (H.push (.cells C T)) H.size C.toList:=⟨T,by simp⟩
def dV (H:Hp) (p:Addr) (v:ZR):(az H p v).size=H.size:=by simp[az]
def Bl.bw {H:Hp} {b:Nat} {l:List ZR} (h:Bl H b l) {o:Nat} (ho:o<l.length):(Mg.cell H ⟨b,o,ZU⟩).isSome=ZT/\Mg.tL H ⟨b,o,ZU⟩=ZS:=by
 rw[h.cell,h.tL];simp[ho]
structure af (W:Nat->Prop) (H H':Hp):Prop where
 size:H.size<=H'.size
 at_:∀k,k<H.size->¬W k->H'[k]?=H[k]?
def af.refl (W:Nat->Prop) (H:Hp):af W H H:=⟨ZH _,fun _ _ _=>rfl⟩
def af.trans {W:Nat->Prop} {A B C:Hp} (h:af W A B) (k:af W B C):af W A C:=
 ⟨Zp h.size k.size,fun i hi hw=>(k.at_ i (Xv hi h.size) hw).trans (h.at_ i hi hw)⟩
def af.push {W:Nat->Prop} {A B:Hp} (h:af W A B) (o:Obj):af W A (B.push o):=
 h.trans ⟨by simp,fun k hk _=>fh hk⟩
def af.az {W:Nat->Prop} {A B:Hp} (h:af W A B) {p:Addr} (v:ZR) (hp:W p.block\/A.size<=p.block):af W A (Mg.az B p v):=by
 refine⟨by rw[dV];exact h.size,fun k hk hw=>?_⟩;rw[jA (by rintro rfl;rcases hp with hp|hp;exact hw hp;omega)];exact h.at_ k hk hw
def af.bl {W:Nat->Prop} {H H':Hp} (h:af W H H') {b:Nat} {l:List ZR} (hb:Bl H b l) (hw:¬W b):Bl H' b l:=by
 have:=hb.lt;obtain⟨T,hb⟩:=hb;exact⟨T,by rw[h.at_ b this hw];exact hb⟩
def af.mono {W W':Nat->Prop} {H H':Hp} (h:af W H H') (hw:∀k,k<H.size->W k->W' k):af W' H H':=
 ⟨h.size,fun k hk hn=>h.at_ k hk (fun a=>hn (hw k hk a))⟩
def af.trans' {W W':Nat->Prop} {A B C:Hp} (h:af W A B) (k:af W' B C) (hw:∀i,i<A.size->W' i->W i):af W A C:=
 ⟨Zp h.size k.size,fun i hi hn=>(k.at_ i (Xv hi h.size) (fun a=>hn (hw i hi a))).trans (h.at_ i hi hn)⟩
@[go_sem] theorem zQ (H:Hp) (a:Addr):UR H (Z7 (ZV a))=cell H a:=rfl
@[go_sem] theorem fQ (b o n:Nat):Addr.add ⟨b,o,ZU⟩ n=⟨b,o+n,ZU⟩:=fW _ rfl n
@[go_sem] theorem al (a:Nat):((a:Int)).toNat=a:=by simp
@[go_sem] theorem ajr (a n:Nat):((a:Int)+(no_index (OfNat.ofNat n):Int)).toNat=a+OfNat.ofNat n:=by
 show((a:Int)+((n:Nat):Int)).toNat=a+n
 omega
end Go.Mg
namespace Go.Mg
structure aH where
 f:Nat->Nat
 t:Nat->Nat
 g:Nat->Nat
def ldS (W:Nat->Prop) (v:ZR):Prop:=match v with|.pointer (ZV p)=>¬W p.block|_=>False
def slS (W:Nat->Prop) (v:ZR):Prop:=match v with|.slice (ZV p) n _=>n=0\/¬W p.block|_=>True
def Gc (W:Nat->Prop) (v:ZR):Prop:=match v with|.map (ZV b)=>¬W b|_=>True
def ek (W:Nat->Prop) (x:PX) (r:A->ZR) (H:Hp):Prop:=
 match x with
 |.ld a=>ldS W (r a)/\x.pre r H
 |.m (.ldn _ a)=>ldS W (r a)/\x.pre r H
 |.m (.b2s a)=>slS W (r a)/\x.pre r H
 |.m (.lks _ _ m _)=>Gc W (r m)/\x.pre r H
 |.m (.lki _ _ m _)=>Gc W (r m)/\x.pre r H
 |x=>if x.free=ZT then x.pre r H else False
def dJ (P:Program) (W:Nat->Prop):T->Env->Fr->Hp->(Fr->Hp->Prop)->Prop
 |.done,_,f,H,Q=>Q f H
 |.px d ZU x t,e,f,H,Q=>ek W x (A.rd e f) H/\dJ P W t (d.env (x.val (A.rd e f) H) e) (d.fr (x.val (A.rd e f) H) f) H Q
 |.px d (ZV (y,b)) x t,e,f,H,Q=>(gb (y.rd e f) b=ZT->ek W x (A.rd e f) H)∧
   dJ P W t (d.env (if gb (y.rd e f) b=ZT then x.val (A.rd e f) H else undef) e) (d.fr (if gb (y.rd e f) b=ZT then x.val (A.rd e f) H else undef) f) H Q
 |.wcons d ZU x t m,e,f,H,Q=>x.wp P (A.rd e f) H (fun v H'=>af W H H'/\dJ P W t (d.env v e) (d.fr v f) H' Q)/\dJ P W m e f H Q
 |.wcons d (ZV (y,b)) x t m,e,f,H,Q=>((gb (y.rd e f) b=ZT->x.wp P (A.rd e f) H (fun v H'=>af W H H'/\dJ P W t (d.env v e) (d.fr v f) H' Q))∧
   (gb (y.rd e f) b=ZS->dJ P W t (d.env undef e) (d.fr undef f) H Q))/\dJ P W m e f H Q
 |.wnil,_,_,_,_=>True
variable {W:Nat->Prop} {H H':Hp} {p:Addr} {v:ZR}
def af.cell (h:af W H H') (h1:p.block<H.size) (h2:¬W p.block):Mg.cell H' p=Mg.cell H p:=by
 unfold Mg.cell;rw[h.at_ _ h1 h2]
def af.aQ (h:af W H H') (h1:p.block<H.size) (h2:¬W p.block) (n:Nat):Mg.aQ H' p n=Mg.aQ H p n:=by
 unfold Mg.aQ;rw[h.at_ _ h1 h2]
def af.bO (h:af W H H') {xs:Array ZR} (h1:Mg.bO H v=ZV xs) (h2:slS W v):Mg.bO H' v=ZV xs:=by
 unfold Mg.bO at*
 split at h1
 ·rename_i b n c
  by_cases e:n=0
  ·rw[if_pos e]at h1⊢;exact h1
  ·rw[if_neg e]at h1⊢;have hlt:b.block<H.size:=by
    apply YX;intro hn;have hb:H[b.block]?=ZU:=by simpa using hn
    simp[Mg.aQ,hb]at h1
   rw[h.aQ hlt (h2.resolve_left e) n];exact h1
 ·exact h1
 ·cases h1
def af.eQ (h:af W H H') {es:List MapEntry} (h1:Mg.eQ H v=ZV es) (h2:Gc W v):Mg.eQ H' v=ZV es:=by
 unfold Mg.eQ at*
 split at h1
 ·exact h1
 ·rename_i b;have hlt:b<H.size:=by
   apply YX;intro hn;have hb:H[b]?=ZU:=by simpa using hn
   rw[hb]at h1;cases h1
  rw[h.at_ b hlt h2];exact h1
 ·cases h1
def En {x:PX} {r:A->ZR} (h:ek W x r H):
  if x.free=ZT then x.pre r H else∀H',af W H H'->x.pre r H'/\x.val r H'=x.val r H:=by
 unfold ek at h
 split at h
 ·rename_i a;obtain⟨h1,h2⟩:=h;simp only[PX.free,ZD,if_false];intro H' hk;unfold ldS at h1
  split at h1
  case h_2=>exact h1.elim
  rename_i p hp;simp only[PX.pre,hp,UR]at h2;have hlt:p.block<H.size:=by
   apply YX;intro hn;have hb:H[p.block]?=ZU:=by simpa using hn
   simp[Mg.cell,hb]at h2
  have e:Mg.cell H' p=Mg.cell H p:=hk.cell hlt h1;simp only[PX.pre,PX.val,hp,UR,e];exact⟨h2,trivial⟩
 ·rename_i n a;obtain⟨h1,h2⟩:=h;simp only[PX.free,PM.free,ZD,if_false];intro H' hk;unfold ldS at h1
  split at h1
  case h_2=>exact h1.elim
  rename_i p hp;simp only[PX.pre,PM.pre,hp,aL]at h2;have hlt:p.block<H.size:=by
   apply YX;intro hn;have hb:H[p.block]?=ZU:=by simpa using hn
   simp[Mg.aQ,hb]at h2
  have e:Mg.aQ H' p n=Mg.aQ H p n:=hk.aQ hlt h1 n;simp only[PX.pre,PX.val,PM.pre,PM.val,hp,aL,e];exact⟨h2,trivial⟩
 ·rename_i a;obtain⟨h1,xs,h2,h3⟩:=h;simp only[PX.free,PM.free,ZD,if_false];intro H' hk;have h4:=hk.bO h2 h1;simp only[PX.pre,PX.val,PM.pre,PM.val,KR,h2,h4];exact⟨⟨xs,rfl,h3⟩,trivial⟩
 ·rename_i z ok m k;obtain⟨h1,h0,es,h2,h3⟩:=h;simp only[PX.free,PM.free,ZD,if_false];intro H' hk;have h4:=hk.eQ h2 h1;simp only[PX.pre,PX.val,PM.pre,PM.val,h2,h4];exact⟨⟨h0,es,rfl,h3⟩,trivial⟩
 ·rename_i kk z m k;obtain⟨h1,h0,es,h2,h3⟩:=h;simp only[PX.free,PM.free,ZD,if_false];intro H' hk;have h4:=hk.eQ h2 h1;simp only[PX.pre,PX.val,PM.pre,PM.val,h2,h4];exact⟨⟨h0,es,rfl,h3⟩,trivial⟩
 ·split at h
  ·rename_i hf;rw[if_pos hf];exact h
  ·exact h.elim
def dS {P:Program} {W:Nat->Prop}:∀(t:T) (e:Env) (f:Fr) (H:Hp) (Q:Fr->Hp->Prop),dJ P W t e f H Q->DN P (af W H) t e f H Q
 |.done,_,_,_,_,h=>h
 |.wnil,_,_,_,_,_=>trivial
 |.px d ZU x t,e,f,H,Q,h=>⟨En h.1,dS t _ _ _ _ h.2⟩
 |.px d (ZV (y,b)) x t,e,f,H,Q,h=>⟨fun g=>En (h.1 g),dS t _ _ _ _ h.2⟩
 |.wcons d ZU x t m,e,f,H,Q,h=>⟨EX.wp_mono (fun v H' q=>⟨af W H',fun _ k=>q.1.trans k,af.refl _ _,dS t _ _ _ _ q.2⟩) h.1,dS m _ _ _ _ h.2⟩
 |.wcons d (ZV (y,b)) x t m,e,f,H,Q,h=>⟨⟨fun g=>EX.wp_mono (fun v H' q=>⟨af W H',fun _ k=>q.1.trans k,af.refl _ _,dS t _ _ _ _ q.2⟩) (h.1.1 g),fun g=>dS t _ _ _ _ (h.1.2 g)⟩,dS m _ _ _ _ h.2⟩
def aZ {P:Program} {t:T} {Q} {f:Fr} (W:Nat->Prop) (h:dJ P W t [] f H (Q .n)):vc P (.dr t) Q f H:=
 ⟨af W H,af.refl _ _,dS t _ _ _ _ h⟩
section
variable (P:Program) (W:Nat->Prop)
@[go_sem] theorem ahs (a:A) (r:A->ZR) (H:Hp):ek W (.ld a) r H=(ldS W (r a)/\PX.pre (.ld a) r H):=rfl
@[go_sem] theorem aha (n:Nat) (a:A) (r:A->ZR) (H:Hp):ek W (.m (.ldn n a)) r H=(ldS W (r a)/\PX.pre (.m (.ldn n a)) r H):=rfl
@[go_sem] theorem ahb (a:A) (r:A->ZR) (H:Hp):ek W (.m (.b2s a)) r H=(slS W (r a)/\PX.pre (.m (.b2s a)) r H):=rfl
@[go_sem] theorem ahc (z:ZR) (ok:Bool) (a b:A) (r:A->ZR) (H:Hp):ek W (.m (.lks z ok a b)) r H=(Gc W (r a)/\PX.pre (.m (.lks z ok a b)) r H):=rfl
@[go_sem] theorem aht (v:ZR):slS (fun _=>False) v:=by unfold slS;split<;>simp
@[go_sem] theorem ahd (v:ZR):Gc (fun _=>False) v:=by unfold Gc;split<;>simp
@[go_sem] theorem ai6 (p:Addr):ldS W (Z7 (ZV p))=(¬W p.block):=rfl
@[go_sem] theorem vv (e:Env) (f:Fr) (H:Hp) (Q):dJ P W .done e f H Q=Q f H:=rfl
@[go_sem] theorem vw (e:Env) (f:Fr) (H:Hp) (Q):dJ P W .wnil e f H Q=True:=rfl
@[go_sem] theorem cQ (d:D) (x:PX) (t:T) (e:Env) (f:Fr) (H:Hp) (Q):
  dJ P W (.px d ZU x t) e f H Q=(ek W x (A.rd e f) H/\dJ P W t (d.env (x.val (A.rd e f) H) e) (d.fr (x.val (A.rd e f) H) f) H Q):=rfl
@[go_sem] theorem ai7 (d:D) (y:A) (b:Bool) (x:PX) (t:T) (e:Env) (f:Fr) (H:Hp) (Q):
  dJ P W (.px d (ZV (y,b)) x t) e f H Q=((gb (y.rd e f) b=ZT->ek W x (A.rd e f) H)∧
   dJ P W t (d.env (if gb (y.rd e f) b=ZT then x.val (A.rd e f) H else undef) e) (d.fr (if gb (y.rd e f) b=ZT then x.val (A.rd e f) H else undef) f) H Q):=rfl
def mg (P:Program) (W:Nat->Prop) (H0:Hp) (d:D) (t:T) (e:Env) (f:Fr) (Q:Fr->Hp->Prop) (v:ZR) (H:Hp):Prop:=af W H0 H/\dJ P W t (d.env v e) (d.fr v f) H Q
@[go_sem] theorem aJ (H0:Hp) (d:D) (t:T) (e:Env) (f:Fr) (Q) (v:ZR) (H:Hp):mg P W H0 d t e f Q v H=(af W H0 H/\dJ P W t (d.env v e) (d.fr v f) H Q):=rfl
@[go_sem] theorem en (d:D) (x:EX) (t m:T) (e:Env) (f:Fr) (H:Hp) (Q):
  dJ P W (.wcons d ZU x t m) e f H Q=(x.wp P (A.rd e f) H (mg P W H d t e f Q)/\dJ P W m e f H Q):=rfl
@[go_sem] theorem ajs (d:D) (y:A) (b:Bool) (x:EX) (t m:T) (e:Env) (f:Fr) (H:Hp) (Q):
  dJ P W (.wcons d (ZV (y,b)) x t m) e f H Q=(((gb (y.rd e f) b=ZT->x.wp P (A.rd e f) H (mg P W H d t e f Q))/\(gb (y.rd e f) b=ZS->dJ P W t (d.env undef e) (d.fr undef f) H Q))/\dJ P W m e f H Q):=rfl
end
@[go_sem] theorem ahe (P:Program) (W:Nat->Prop) (kk:IntKind) (z:ZR) (a b:A) (r:A->ZR) (H:Hp):ek W (.m (.lki kk z a b)) r H=(Gc W (r a)/\PX.pre (.m (.lki kk z a b)) r H):=rfl
attribute [go_sem] ek
def Eo (C:Hp->Prop) (x:PX) (r:A->ZR) (H:Hp):Prop:=if x.free=ZT then x.pre r H else∀H',C H'->x.pre r H'/\x.val r H'=x.val r H
def xY (P:Program) (C:Hp->Prop):T->Env->Fr->Hp->(Fr->Hp->Prop)->Prop
 |.done,_,f,H,Q=>Q f H
 |.px d ZU x t,e,f,H,Q=>Eo C x (A.rd e f) H/\xY P C t (d.env (x.val (A.rd e f) H) e) (d.fr (x.val (A.rd e f) H) f) H Q
 |.px d (ZV (y,b)) x t,e,f,H,Q=>(gb (y.rd e f) b=ZT->Eo C x (A.rd e f) H)∧
   xY P C t (d.env (if gb (y.rd e f) b=ZT then x.val (A.rd e f) H else undef) e) (d.fr (if gb (y.rd e f) b=ZT then x.val (A.rd e f) H else undef) f) H Q
 |.wcons d ZU x t m,e,f,H,Q=>x.wp P (A.rd e f) H (fun v H'=>C H'/\xY P C t (d.env v e) (d.fr v f) H' Q)/\xY P C m e f H Q
 |.wcons d (ZV (y,b)) x t m,e,f,H,Q=>((gb (y.rd e f) b=ZT->x.wp P (A.rd e f) H (fun v H'=>C H'/\xY P C t (d.env v e) (d.fr v f) H' Q))∧
   (gb (y.rd e f) b=ZS->xY P C t (d.env undef e) (d.fr undef f) H Q))/\xY P C m e f H Q
 |.wnil,_,_,_,_=>True
def dT {P:Program} {C:Hp->Prop}:∀(t:T) (e:Env) (f:Fr) (H:Hp) (Q:Fr->Hp->Prop),xY P C t e f H Q->DN P C t e f H Q
 |.done,_,_,_,_,h=>h
 |.wnil,_,_,_,_,_=>trivial
 |.px d ZU x t,e,f,H,Q,h=>⟨h.1,dT t _ _ _ _ h.2⟩
 |.px d (ZV (y,b)) x t,e,f,H,Q,h=>⟨h.1,dT t _ _ _ _ h.2⟩
 |.wcons d ZU x t m,e,f,H,Q,h=>⟨EX.wp_mono (fun v H' q=>⟨C,fun _ k=>k,q.1,dT t _ _ _ _ q.2⟩) h.1,dT m _ _ _ _ h.2⟩
 |.wcons d (ZV (y,b)) x t m,e,f,H,Q,h=>⟨⟨fun g=>EX.wp_mono (fun v H' q=>⟨C,fun _ k=>k,q.1,dT t _ _ _ _ q.2⟩) (h.1.1 g),fun g=>dT t _ _ _ _ (h.1.2 g)⟩,dT m _ _ _ _ h.2⟩
def afj {P:Program} {t:T} {Q} {f:Fr} {H:Hp} (C:Hp->Prop) (hC:C H) (h:xY P C t [] f H (Q .n)):vc P (.dr t) Q f H:=
 ⟨C,hC,dT t _ _ _ _ h⟩
section
variable (P:Program) (C:Hp->Prop)
@[go_sem] theorem ahu (e:Env) (f:Fr) (H:Hp) (Q):xY P C .done e f H Q=Q f H:=rfl
@[go_sem] theorem ahv (e:Env) (f:Fr) (H:Hp) (Q):xY P C .wnil e f H Q=True:=rfl
@[go_sem] theorem ajt (d:D) (x:PX) (t:T) (e:Env) (f:Fr) (H:Hp) (Q):
  xY P C (.px d ZU x t) e f H Q=(Eo C x (A.rd e f) H/\xY P C t (d.env (x.val (A.rd e f) H) e) (d.fr (x.val (A.rd e f) H) f) H Q):=rfl
@[go_sem] theorem ai8 (d:D) (y:A) (b:Bool) (x:PX) (t:T) (e:Env) (f:Fr) (H:Hp) (Q):
  xY P C (.px d (ZV (y,b)) x t) e f H Q=((gb (y.rd e f) b=ZT->Eo C x (A.rd e f) H)∧
   xY P C t (d.env (if gb (y.rd e f) b=ZT then x.val (A.rd e f) H else undef) e) (d.fr (if gb (y.rd e f) b=ZT then x.val (A.rd e f) H else undef) f) H Q):=rfl
def PT (P:Program) (C:Hp->Prop) (d:D) (t:T) (e:Env) (f:Fr) (Q:Fr->Hp->Prop) (v:ZR) (H:Hp):Prop:=C H/\xY P C t (d.env v e) (d.fr v f) H Q
@[go_sem] theorem ahw (d:D) (t:T) (e:Env) (f:Fr) (Q) (v:ZR) (H:Hp):PT P C d t e f Q v H=(C H/\xY P C t (d.env v e) (d.fr v f) H Q):=rfl
@[go_sem] theorem al6 (d:D) (x:EX) (t m:T) (e:Env) (f:Fr) (H:Hp) (Q):
  xY P C (.wcons d ZU x t m) e f H Q=(x.wp P (A.rd e f) H (PT P C d t e f Q)/\xY P C m e f H Q):=rfl
@[go_sem] theorem aju (d:D) (y:A) (b:Bool) (x:EX) (t m:T) (e:Env) (f:Fr) (H:Hp) (Q):
  xY P C (.wcons d (ZV (y,b)) x t m) e f H Q=(((gb (y.rd e f) b=ZT->x.wp P (A.rd e f) H (PT P C d t e f Q))/\(gb (y.rd e f) b=ZS->xY P C t (d.env undef e) (d.fr undef f) H Q))/\xY P C m e f H Q):=rfl
end
end Go.Mg

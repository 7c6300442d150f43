/- Lemmas of ours. No conditions. -/
import Derived.Test.YteeemadonfcliaaGreatDoorMgFn
set_option linter.all false
namespace Go.Mg
open Go Go.RowKit
section
variable (P:Program)
@[go_sem] theorem Ja (Q) (f:Fr) (H:Hp):vc P .skip Q f H=Q .n f H:=rfl
@[go_sem] theorem EO (l:List O) (Q) (f:Fr) (H:Hp):vc P (.reg l) Q f H=ops P l [] f H (Q .n):=rfl
@[go_sem] theorem x8 (a b:S) (Q) (f:Fr) (H:Hp):vc P (.seq a b) Q f H=vc P a (vR (vc P b Q) Q) f H:=rfl
@[go_sem] theorem NF (i:Nat) (s:S) (Q) (f:Fr) (H:Hp):vc P (.blk i s) Q f H=vc P s (oz i Q) f H:=rfl
@[go_sem] theorem Jb (i:Nat) (Q) (f:Fr) (H:Hp):vc P (.exit i) Q f H=Q (.x i) f H:=rfl
@[go_sem] theorem VE (Q) (f:Fr) (H:Hp):vc P .ret Q f H=Q .r f H:=rfl
@[go_sem] theorem AO (N) (Q) (f:Fr) (H:Hp):vR N Q .n f H=N f H:=rfl
@[go_sem] theorem Jc (N) (Q) (i:Nat) (f:Fr) (H:Hp):vR N Q (.x i) f H=Q (.x i) f H:=rfl
@[go_sem] theorem Uy (N) (Q) (f:Fr) (H:Hp):vR N Q .r f H=Q .r f H:=rfl
@[go_sem] theorem VF (i:Nat) (Q) (f:Fr) (H:Hp):oz i Q .n f H=Q .n f H:=rfl
@[go_sem] theorem VG (i:Nat) (Q) (f:Fr) (H:Hp):oz i Q .r f H=Q .r f H:=rfl
@[go_sem] theorem NG (i j:Nat) (Q) (f:Fr) (H:Hp):oz i Q (.x j) f H=if j=i then Q .n f H else Q (.x j) f H:=rfl
@[go_sem] theorem Uz (I) (i:Nat) (Q) (f:Fr) (H:Hp):rp I i Q .r f H=Q .r f H:=rfl
@[go_sem] theorem Jd (I) (i j:Nat) (Q) (f:Fr) (H:Hp):rp I i Q (.x j) f H=Q (.x j) f H:=rfl
@[go_sem] theorem VH (rs:List RV) (R) (f:Fr) (H:Hp):kx rs R .n f H=(cU f H rs/\R (cV f H rs) H):=rfl
@[go_sem] theorem VI (rs:List RV) (R) (f:Fr) (H:Hp):kx rs R .r f H=(cU f H rs/\R (cV f H rs) H):=rfl
@[go_sem] theorem su (e:Env) (f:Fr) (H:Hp) (Q):ops P [] e f H Q=Q f H:=rfl
@[go_sem] theorem AP (d:D) (x:PX) (r:List O) (e:Env) (f:Fr) (H:Hp) (Q):
  ops P (.p d x::r) e f H Q=(x.pre (A.rd e f) H/\ops P r (d.env (x.val (A.rd e f) H) e) (d.fr (x.val (A.rd e f) H) f) H Q):=rfl
@[go_sem] theorem VJ (d:D) (g:A) (b:Bool) (x:PX) (r:List O) (e:Env) (f:Fr) (H:Hp) (Q):
  ops P (.gp d g b x::r) e f H Q=((gb (g.rd e f) b=true->x.pre (A.rd e f) H)∧
   ops P r (d.env (if gb (g.rd e f) b=true then x.val (A.rd e f) H else undef) e) (d.fr (if gb (g.rd e f) b=true then x.val (A.rd e f) H else undef) f) H Q):=rfl
@[go_sem] theorem EP (d:D) (x:EX) (r:List O) (e:Env) (f:Fr) (H:Hp) (Q):ops P (.e d x::r) e f H Q=x.wp P (A.rd e f) H (vQ P d r e f Q):=rfl
@[go_sem] theorem VK (d:D) (g:A) (b:Bool) (x:EX) (r:List O) (e:Env) (f:Fr) (H:Hp) (Q):
  ops P (.ge d g b x::r) e f H Q=((gb (g.rd e f) b=true->x.wp P (A.rd e f) H (vQ P d r e f Q))/\(gb (g.rd e f) b=false->ops P r (d.env undef e) (d.fr undef f) H Q)):=rfl
theorem ae (d:D) (r:List O) (e:Env) (f:Fr) (Q) (v:Value) (H:Hp):vQ P d r e f Q v H=ops P r (d.env v e) (d.fr v f) H Q:=rfl
@[go_sem] theorem vV (e:Env) (f:Fr) (n:Nat):A.rd e f (.t n)=look e n:=rfl
@[go_sem] theorem oD (e:Env) (f:Fr) (n:Nat):A.rd e f (.v n)=f n:=rfl
@[go_sem] theorem rd_c (e:Env) (f:Fr) (v:Value):A.rd e f (.c v)=v:=rfl
@[go_sem] theorem aV (k:Nat) (x:Value) (e:Env) (n:Nat):look ((k,x)::e) n=if n=k then x else look e n:=rfl
@[go_sem] theorem look_nil (n:Nat):look [] n=undef:=rfl
@[go_sem] theorem VL (f:Fr) (d:Nat) (x:Value) (i:Nat):bN f d x i=if i=d then x else f i:=rfl
@[go_sem] theorem oE (n:Nat) (x:Value) (e:Env):D.env (.t n) x e=(n,x)::e:=rfl
@[go_sem] theorem AQ (n:Nat) (x:Value) (e:Env):D.env (.v n) x e=e:=rfl
@[go_sem] theorem lU (x:Value) (e:Env):D.env .no x e=e:=rfl
@[go_sem] theorem x9 (n:Nat) (x:Value) (f:Fr):D.fr (.t n) x f=f:=rfl
@[go_sem] theorem Je (n:Nat) (x:Value) (f:Fr):D.fr (.v n) x f=bN f n x:=rfl
@[go_sem] theorem rz (x:Value) (f:Fr):D.fr .no x f=f:=rfl
@[go_sem] theorem RI (k:Nat):dJ k []=[]:=rfl
@[go_sem] theorem QI (k:Nat) (x:Value) (l:List Value):dJ k (x::l)=(k,x)::dJ (k+1) l:=rfl
@[go_sem] theorem AR (k k':IntKind) (n:Int):fB k (.int k' n)=(k'=k):=rfl
@[go_sem] theorem NH (a:Option Addr) (l c:Nat):ax (.slice a l c)=True:=rfl
@[go_sem] theorem NI (a:Option Addr) (l c:Nat):aP (.slice a l c)=l:=rfl
@[go_sem] theorem NJ (a:Option Addr) (l c:Nat):eO (.slice a l c)=c:=rfl
@[go_sem] theorem NL (a:Option Addr) (l c:Nat):fC (.slice a l c)=a:=rfl
attribute [go_sem] PX.free PM.free forall_eq xT vC Mh
@[go_sem] theorem VM (l:List Value):gL (.agg l.toArray)=l:=rfl
attribute [go_sem] List.getD_cons_zero List.getD_cons_succ
@[go_sem] theorem UB (x b:Bool):gb (.bool x) b=(x==b):=rfl
@[go_sem] theorem RJ (b:Bool):gb undef b=false:=rfl
attribute [go_sem] Option.getD_some Option.isSome_some Value.oneCell' PX.pre PX.val PM.pre PM.val Rv Us Rw Rx Ut isInt Ev j9 Nn oq vB eD Value.i Value.b Value.s Value.g Ey oi Ez kj xM jK Ns ED IY EE cU cV RV.pre RV.val Ew bI mV bk QE EX.wp
theorem zS:(∀{α β:Type} (f:α->β) (a:α) (l:List α),List.map f (a::l)=f a::List.map f l)/\(∀{α β:Type} (f:α->β),List.map f []=[])/\(∀p:Prop,(p/\True)=p)/\(∀p:Prop,(True/\p)=p)∧
  (∀n:Nat,n*1=n)/\(∀n:Nat,0+n=n)/\((false=true)=False)/\(∀h:Decidable True,@decide True h=true)/\(∀h:Decidable False,@decide False h=false)/\((¬False)=True):=
 ⟨fun f a l=>List.map_cons,fun f=>List.map_nil,and_true,true_and,Nat.mul_one,Nat.zero_add,Bool.false_eq_true,decide_true,decide_false,not_false_eq_true⟩
theorem zU:(∀{α:Type} [BEq α] [ReflBEq α] (a:α),(a==a)=true)/\(∀{α:Type} [BEq α] [LawfulBEq α] (a:α),(a !=a)=false)/\(∀{n:Nat},((no_index (OfNat.ofNat n):Nat):Int)=OfNat.ofNat n):=
 ⟨beq_self_eq_true,bne_self_eq_false,Int.cast_ofNat_Int⟩
theorem zV:(∀n:Int,n<=n)/\(∀p:Prop,(p/\p)=p)/\(∀n:Nat,n<=n):=⟨Int.le_refl,and_self,Nat.le_refl⟩
end
end Go.Mg
namespace Go.Mg
open Go Go.RowKit
variable {P:Program} {H:Hp} {s:S} {f:Fr} {Q:Ex->Fr->Hp->Prop} {p q:Prop}
theorem EX.wp_mono {x:EX} {r:A->Value} {K K':Value->Hp->Prop} (h:∀v H',K v H'->K' v H') (hx:x.wp P r H K):x.wp P r H K':=by
 cases x with
 |st a y=>exact⟨hx.1,h _ _ hx.2⟩
 |stn n a y=>exact⟨hx.1,h _ _ hx.2⟩
 |new T z=>exact h _ _ hx
 |rd y=>exact⟨hx.1,h _ _ hx.2⟩
 |box T a=>exact h _ _ hx
 |call f args=>exact an.mono hx h
 |callv f args=>
  simp only[EX.wp]at hx⊢
  split at hx
  ·exact⟨hx.1,an.mono hx.2 h⟩
  ·exact hx.elim
 |cally f args=>obtain⟨l,h1,h2⟩:=hx;exact⟨l,h1,h2.mono h⟩
 |lib f args=>exact fun w hw=>let⟨v,w',h1,h2,h3⟩:=hx w hw;⟨v,w',h1,h2,h _ _ h3⟩
 |mup m k v=>obtain⟨h1,b,es,cl,h2,h3,h4,h5⟩:=hx;exact⟨h1,b,es,cl,h2,h3,h4,h _ _ h5⟩
 |mui kk m k v=>obtain⟨h1,b,es,cl,h2,h3,h4,h5⟩:=hx;exact⟨h1,b,es,cl,h2,h3,h4,h _ _ h5⟩
 |mkm=>exact h _ _ hx
 |bad=>exact hx.elim
 |cj T s n ps=>exact⟨hx.1,h _ _ hx.2⟩
 |Nz T n zs ps=>exact⟨hx.1,h _ _ hx.2⟩
 |nq T s b z l c=>exact⟨hx.1,h _ _ hx.2⟩
 |app str T s b z sv xv=>
  obtain⟨h1,news,h2,h3,h4⟩:=hx;exact⟨h1,news,h2,fun g=>⟨(h3 g).1,h _ _ (h3 g).2⟩,fun g=>let⟨o,g1,g2⟩:=h4 g;⟨o,g1,fun c hc=>h _ _ (g2 c hc)⟩⟩
 |cpy str s d sv=>obtain⟨h1,news,h2,h3,h4⟩:=hx;exact⟨h1,news,h2,h3,h _ _ h4⟩
 |clr z a=>exact⟨hx.1,hx.2.1,h _ _ hx.2.2⟩
 |s2b T a=>exact⟨hx.1,fun c hc=>h _ _ (hx.2 c hc)⟩
 |mark a=>
  simp only[EX.wp]at hx⊢
  split at hx
  ·split at hx<;>exact h _ _ hx
  ·exact hx.elim
def D.wr:D->List Nat
 |.v n=>[n]
 |_=>[]
def O.wr:O->List Nat
 |.p d _|.e d _|.gp d _ _ _|.ge d _ _ _=>d.wr
def T.wr:T->List Nat
 |.px d _ _ t=>d.wr++t.wr
 |.wcons d _ _ t m=>d.wr++t.wr++m.wr
 |_=>[]
def S.wr:S->List Nat
 |.reg l=>l.flatMap O.wr
 |.dr t=>t.wr
 |.seq a b|.ite _ a b=>a.wr++b.wr
 |.blk _ s|.loop s=>s.wr
 |.rf g _ _ _ _=>[g]
 |_=>[]
theorem fG (d:D) (x:Value) (f:Fr) (i:Nat) (h:i∉d.wr):d.fr x f i=f i:=by
 cases d<;>simp only[D.fr]
 simp[D.wr]at h;simp[bN,h]
theorem iK {P:Program}:∀(l:List O) (e:Env) (f:Fr) (H:Hp) (Q Q':Fr->Hp->Prop),(∀f' H',Q f' H'->(∀i,i∉l.flatMap O.wr->f' i=f i)->Q' f' H')->ops P l e f H Q->ops P l e f H Q'
 |[],e,f,H,Q,Q',h,hq=>h _ _ hq (fun _ _=>rfl)
 |.p d x::r,e,f,H,Q,Q',h,hq=>⟨hq.1,iK r _ _ _ Q Q' (fun f' H' q k=>h f' H' q (fun i hi=>by
   simp only[List.flatMap_cons,List.mem_append,not_or]at hi;rw[k i hi.2,fG d _ _ i hi.1])) hq.2⟩
 |.gp d g b x::r,e,f,H,Q,Q',h,hq=>⟨hq.1,iK r _ _ _ Q Q' (fun f' H' q k=>h f' H' q (fun i hi=>by
   simp only[List.flatMap_cons,List.mem_append,not_or]at hi;rw[k i hi.2,fG d _ _ i hi.1])) hq.2⟩
 |.e d x::r,e,f,H,Q,Q',h,hq=>EX.wp_mono (fun v H' hk=>iK r _ _ _ Q Q' (fun f' NM q k=>h f' NM q (fun i hi=>by
   simp only[List.flatMap_cons,List.mem_append,not_or]at hi;rw[k i hi.2,fG d _ _ i hi.1])) hk) hq
 |.ge d g b x::r,e,f,H,Q,Q',h,hq=>by
  have key:∀v e' H',ops P r e' (d.fr v f) H' Q->ops P r e' (d.fr v f) H' Q':=fun v e' H'=>iK r _ _ _ Q Q' (fun f' NM q k=>h f' NM q (fun i hi=>by
   simp only[List.flatMap_cons,List.mem_append,not_or]at hi;rw[k i hi.2,fG d _ _ i hi.1]))
  exact⟨fun hg=>EX.wp_mono (fun v H' hk=>key _ _ _ hk) (hq.1 hg),fun hg=>key _ _ _ (hq.2 hg)⟩
theorem fq {P:Program}:∀(C:Hp->Prop) (t:T) (e:Env) (f:Fr) (H:Hp) (Q Q':Fr->Hp->Prop),(∀f' H',Q f' H'->(∀i,i∉t.wr->f' i=f i)->Q' f' H')->vo P C t e f H Q->vo P C t e f H Q'
 |C,.done,e,f,H,Q,Q',h,hq=>h _ _ hq (fun _ _=>rfl)
 |C,.wnil,e,f,H,Q,Q',h,hq=>trivial
 |C,.px d none x t,e,f,H,Q,Q',h,hq=>⟨hq.1,fq _ t _ _ _ Q Q' (fun f' H' q k=>h f' H' q (fun i hi=>by
   simp only[T.wr,List.mem_append,not_or]at hi;rw[k i hi.2,fG d _ _ i hi.1])) hq.2⟩
 |C,.px d (some (y,b)) x t,e,f,H,Q,Q',h,hq=>⟨hq.1,fq _ t _ _ _ Q Q' (fun f' H' q k=>h f' H' q (fun i hi=>by
   simp only[T.wr,List.mem_append,not_or]at hi;rw[k i hi.2,fG d _ _ i hi.1])) hq.2⟩
 |C,.wcons d none x t m,e,f,H,Q,Q',h,hq=>⟨EX.wp_mono (fun v H' ⟨C',hk,Ea,hk2⟩=>⟨C',hk,Ea,fq _ t _ _ _ Q Q' (fun f' NM q k=>h f' NM q (fun i hi=>by
   simp only[T.wr,List.mem_append,not_or]at hi;rw[k i hi.1.2,fG d _ _ i hi.1.1])) hk2⟩) hq.1,fq _ m _ _ _ Q Q' (fun f' H' q k=>h f' H' q (fun i hi=>by
   simp only[T.wr,List.mem_append,not_or]at hi;exact k i hi.2)) hq.2⟩
 |C,.wcons d (some (y,b)) x t m,e,f,H,Q,Q',h,hq=>by
  have key:∀(C:Hp->Prop) v e' H',vo P C t e' (d.fr v f) H' Q->vo P C t e' (d.fr v f) H' Q':=fun C v e' H'=>fq _ t _ _ _ Q Q' (fun f' NM q k=>h f' NM q (fun i hi=>by
   simp only[T.wr,List.mem_append,not_or]at hi;rw[k i hi.1.2,fG d _ _ i hi.1.1]))
  refine⟨⟨fun hg=>EX.wp_mono (fun v H' ⟨C',hk,Ea,hk2⟩=>⟨C',hk,Ea,key _ _ _ _ hk2⟩) (hq.1.1 hg),fun hg=>key _ _ _ _ (hq.1.2 hg)⟩,fq _ m _ _ _ Q Q' (fun f' H' q k=>h f' H' q (fun i hi=>by
   simp only[T.wr,List.mem_append,not_or]at hi;exact k i hi.2)) hq.2⟩
theorem dS {P:Program}:∀(s:S) (f:Fr) (H:Hp) (Q Q':Ex->Fr->Hp->Prop),(∀e f' H',Q e f' H'->(∀i,i∉s.wr->f' i=f i)->Q' e f' H')->vc P s Q f H->vc P s Q' f H
 |.skip,f,H,Q,Q',h,hq=>h _ _ _ hq (fun _ _=>rfl)
 |.exit _,f,H,Q,Q',h,hq=>h _ _ _ hq (fun _ _=>rfl)
 |.ret,f,H,Q,Q',h,hq=>h _ _ _ hq (fun _ _=>rfl)
 |.reg l,f,H,Q,Q',h,hq=>iK l _ _ _ _ _ (fun f' H' q k=>h _ _ _ q k) hq
 |.dr t,f,H,Q,Q',h,hq=>let⟨C,hC,ht⟩:=hq;⟨C,hC,fq C t _ _ _ _ _ (fun f' H' q k=>h _ _ _ q k) ht⟩
 |.seq a b,f,H,Q,Q',h,hq=>by
  refine dS a f H _ _ ?_ hq;intro e f1 H1 q k
  cases e with
  |n=>
   refine dS b f1 H1 _ _ ?_ q;intro e f2 H2 q2 k2;exact h _ _ _ q2 (fun i hi=>by simp only[S.wr,List.mem_append,not_or]at hi;rw[k2 i hi.2,k i hi.1])
  |x i=>exact h _ _ _ q (fun i hi=>by simp only[S.wr,List.mem_append,not_or]at hi;exact k i hi.1)
  |r=>exact h _ _ _ q (fun i hi=>by simp only[S.wr,List.mem_append,not_or]at hi;exact k i hi.1)
 |.ite c a b,f,H,Q,Q',h,hq=>by
  obtain⟨h1,h2,h3⟩:=hq;exact⟨h1,fun hc=>dS a f H _ _ (fun e f' H' q k=>h _ _ _ q (fun i hi=>by simp only[S.wr,List.mem_append,not_or]at hi;exact k i hi.1)) (h2 hc),
   fun hc=>dS b f H _ _ (fun e f' H' q k=>h _ _ _ q (fun i hi=>by simp only[S.wr,List.mem_append,not_or]at hi;exact k i hi.2)) (h3 hc)⟩
 |.blk id s,f,H,Q,Q',h,hq=>by
  refine dS s f H _ _ ?_ hq;intro e f1 H1 q k
  cases e with
  |n=>exact h _ _ _ q k
  |x i=>
   simp only[oz]at q⊢
   split
   ·rename_i hi;rw[if_pos hi]at q;exact h _ _ _ q k
   ·rename_i hi;rw[if_neg hi]at q;exact h _ _ _ q k
  |r=>exact h _ _ _ q k
 |.rf g a p i s,f,H,Q,Q',h,hq=>by
  obtain⟨gf,lb,xs,G,J,X,h1,h2,h3,h4,h5,h6,h7⟩:=hq;have hk:∀k,k∉(S.rf g a p i s).wr->bN f g (nr (f g) H.size) k=f k:=fun k hk=>by
   simp only[S.wr,List.mem_singleton]at hk;simp only[bN,if_neg hk]
  exact⟨gf,lb,xs,G,J,X,h1,h2,h3,h4,h5,fun H1 hj=>h _ _ _ (h6 H1 hj) hk,fun e H1 hx=>h _ _ _ (h7 e H1 hx) hk⟩
 |.loop s,f,H,Q,Q',h,hq=>by
  obtain⟨I,⟨n,h0⟩,hr⟩:=hq;refine⟨fun n f1 H1=>I n f1 H1/\∀i,i∉s.wr->f1 i=f i,⟨n,h0,fun _ _=>rfl⟩,?_⟩;rintro n f1 H1 ⟨hI,hk⟩;refine dS s f1 H1 _ _ ?_ (hr n f1 H1 hI);intro e f2 H2 q k
  cases e with
  |n=>obtain⟨m,hm,NN⟩:=q;exact⟨m,hm,NN,fun i hi=>by rw[k i hi,hk i hi]⟩
  |x i=>exact h _ _ _ q (fun i hi=>by rw[k i hi,hk i hi])
  |r=>exact h _ _ _ q (fun i hi=>by rw[k i hi,hk i hi])
theorem eQ {Q':Ex->Fr->Hp->Prop} (h:∀e f' H',Q e f' H'->Q' e f' H') (hq:vc P s Q f H):vc P s Q' f H:=
 dS s f H Q Q' (fun e f' H' q _=>h e f' H' q) hq
def over (f:Fr) (g:Fr):List Nat->Fr
 |[]=>f
 |w::ws=>fun i=>if i=w then g i else over f g ws i
@[go_sem] theorem RK (f g:Fr) (i:Nat):over f g [] i=f i:=rfl
@[go_sem] theorem QJ (f g:Fr) (w:Nat) (ws:List Nat) (i:Nat):over f g (w::ws) i=if i=w then g i else over f g ws i:=rfl
theorem AS (f g:Fr):∀(ws:List Nat) (i:Nat),over f g ws i=if i∈ws then g i else f i
 |[],i=>by simp[over]
 |w::ws,i=>by
  simp only[over,List.mem_cons]
  by_cases h:i=w
  ·simp[h]
  ·simp[h,AS f g ws i]
theorem over_self {g:Fr} {ws:List Nat} (h:∀i,i∉ws->g i=f i):over f g ws=g:=by
 funext i;rw[AS];split
 ·rfl
 ·rename_i hi;exact(h i hi).symm
theorem aL (ws:List Nat) (hws:s.wr.all (ws.contains ·)=true) (I:Nat->Fr->Hp->Prop) (RM:Nat) (h0:I RM f H)
  (hr:∀n g H',I n (over f g ws) H'->vc P s (rp I n Q) (over f g ws) H'):vc P (.loop s) Q f H:=by
 refine⟨fun n f1 H1=>I n f1 H1/\∀i,i∉ws->f1 i=f i,⟨RM,h0,fun _ _=>rfl⟩,?_⟩;rintro n f1 H1 ⟨hI,hk⟩;have e:=over_self hk;have:=hr n f1 H1 (by rw[e];exact hI);rw[e]at this;refine dS s f1 H1 _ _ ?_ this;intro ex f2 H2 q k;have hsub:∀i,i∉ws->i∉s.wr:=fun i hi hm=>by
  have:=List.all_eq_true.1 hws i hm;exact hi (by simpa using this)
 cases ex with
 |n=>obtain⟨m,hm,NN⟩:=q;exact⟨m,hm,NN,fun i hi=>by rw[k i (hsub i hi),hk i hi]⟩
 |x i=>exact q
 |r=>exact q
@[go_sem] theorem Jf (I) (n:Nat) (Q) (f:Fr) (H:Hp):rp I n Q .n f H=∃m,m<n/\I m f H:=rfl
def sw (v:Value) (p q:Prop):Prop:=Ev v/\(v.b=true->p)/\(v.b=false->q)
@[go_sem] theorem NO (P:Program) (c:A) (a b:S) (Q) (f:Fr) (H:Hp):vc P (.ite c a b) Q f H=sw (c.rd [] f) (vc P a Q f H) (vc P b Q f H):=rfl
@[congr] theorem NQ {v v':Value} (h:v=v'):sw v p q=sw v' p q:=by rw[h]
@[go_sem] theorem QK (p q:Prop):sw (.bool true) p q=p:=by simp[sw,Ev,Value.b]
@[go_sem] theorem NR (p q:Prop):sw (.bool false) p q=q:=by simp[sw,Ev,Value.b]
theorem sC {b:Bool} (h1:b=true->p) (h2:b=false->q):sw (.bool b) p q:=⟨trivial,h1,h2⟩
theorem aC {c:Prop} [Decidable c] (h1:c->p) (h2:¬c->q):sw (.bool (decide c)) p q:=⟨trivial,fun h=>h1 (by simpa[Value.b]using h),fun h=>h2 (by simpa[Value.b]using h)⟩
end Go.Mg
namespace Go.Mg
open Go Go.RowKit
def Bl (H:Hp) (b:Nat) (l:List Value):Prop:=∃T,H[b]?=some (.cells l.toArray T (0,0))
variable {H A B C H':Hp} {b:Nat} {l:List Value} {p:Addr} {W W':Nat->Prop}
theorem Bl.lt (h:Bl H b l):b<H.size:=by
 obtain⟨T,h⟩:=h;exact(Array.getElem?_eq_some_iff.1 h).1
theorem Bl.cell (h:Bl H b l) (o:Nat):cell H ⟨b,o,none⟩=l[o]?:=by
 obtain⟨T,h⟩:=h;simp[Mg.cell,h]
theorem Bl.j8 (h:Bl H b l) (o:Nat):j8 H ⟨b,o,none⟩=false:=by
 obtain⟨T,h⟩:=h;simp[Mg.j8,h]
theorem Bl.al (h:Bl H b l) (o:Nat) (v:Value):Bl (Mg.al H ⟨b,o,none⟩ v) b (l.set o v):=by
 obtain⟨T,h⟩:=h;refine⟨T,?_⟩;rw[oj (p:=⟨b,o,none⟩) rfl h,cw h];simp
theorem gh {v:Value} (hb:b≠p.block):(al H p v)[b]?=H[b]?:=by
 unfold al;rw[Array.getElem?_modify,if_neg (fun e=>hb e.symm)]
theorem Bl.dt (h:Bl H b l) (v:Value) (hb:b≠p.block):Bl (Mg.al H p v) b l:=by
 obtain⟨T,h⟩:=h;exact⟨T,by rw[gh hb];exact h⟩
theorem du {o:Obj} (hb:b<H.size):(H.push o)[b]?=H[b]?:=by
 rw[Array.getElem?_push,if_neg (by omega)]
theorem Bl.push (h:Bl H b l) (o:Obj):Bl (H.push o) b l:=by
 have:=h.lt;obtain⟨T,h⟩:=h;exact⟨T,by rw[du this];exact h⟩
theorem Bl.new (H:Hp) (l:List Value) (T:TypeId):Bl (H.push (.cells l.toArray T)) H.size l:=⟨T,by simp⟩
theorem Bl.cW (H:Hp) (C:Array Value) (T:TypeId):Bl (H.push (.cells C T)) H.size C.toList:=⟨T,by simp⟩
theorem eZ (H:Hp) (p:Addr) (v:Value):(al H p v).size=H.size:=by simp[al]
theorem Bl.bk (h:Bl H b l) {o:Nat} (ho:o<l.length):(Mg.cell H ⟨b,o,none⟩).isSome=true/\Mg.j8 H ⟨b,o,none⟩=false:=by
 rw[h.cell,h.j8];simp[ho]
structure af (W:Nat->Prop) (H H':Hp):Prop where
 size:H.size<=H'.size
 at_:∀k,k<H.size->¬W k->H'[k]?=H[k]?
theorem af.refl (W:Nat->Prop) (H:Hp):af W H H:=⟨Nat.le_refl _,fun _ _ _=>rfl⟩
theorem af.trans (h:af W A B) (k:af W B C):af W A C:=
 ⟨Nat.le_trans h.size k.size,fun i hi hw=>(k.at_ i (Nat.lt_of_lt_of_le hi h.size) hw).trans (h.at_ i hi hw)⟩
theorem af.push (h:af W A B) (o:Obj):af W A (B.push o):=
 h.trans ⟨by simp,fun k hk _=>du hk⟩
theorem af.al (h:af W A B) (v:Value) (hp:W p.block\/A.size<=p.block):af W A (Mg.al B p v):=by
 refine⟨by rw[eZ];exact h.size,fun k hk hw=>?_⟩;rw[gh (by rintro rfl;rcases hp with hp|hp;exact hw hp;omega)];exact h.at_ k hk hw
theorem af.bl (h:af W H H') (hb:Bl H b l) (hw:¬W b):Bl H' b l:=by
 have:=hb.lt;obtain⟨T,hb⟩:=hb;exact⟨T,by rw[h.at_ b this hw];exact hb⟩
theorem af.mono (h:af W H H') (hw:∀k,k<H.size->W k->W' k):af W' H H':=
 ⟨h.size,fun k hk hn=>h.at_ k hk (fun a=>hn (hw k hk a))⟩
theorem af.trans' (h:af W A B) (k:af W' B C) (hw:∀i,i<A.size->W' i->W i):af W A C:=
 ⟨Nat.le_trans h.size k.size,fun i hi hn=>(k.at_ i (Nat.lt_of_lt_of_le hi h.size) (fun a=>hn (hw i hi a))).trans (h.at_ i hi hn)⟩
@[go_sem] theorem AT (H:Hp) (a:Addr):IW H (.pointer (some a))=cell H a:=rfl
@[go_sem] theorem sD (b o n:Nat):Addr.add ⟨b,o,none⟩ n=⟨b,o+n,none⟩:=dR _ rfl n
@[go_sem] theorem ai (a:Nat):((a:Int)).toNat=a:=by simp
@[go_sem] theorem VN (a n:Nat):((a:Int)+(no_index (OfNat.ofNat n):Int)).toNat=a+OfNat.ofNat n:=by
 show((a:Int)+((n:Nat):Int)).toNat=a+n
 omega
end Go.Mg
namespace Go.Mg
structure aJ where
 f:Nat->Nat
 t:Nat->Nat
 g:Nat->Nat
end Go.Mg
namespace Go.Mg
open Go Go.RowKit
def NS (W:Nat->Prop) (v:Value):Prop:=match v with|.pointer (some p)=>¬W p.block|_=>False
def RN (W:Nat->Prop) (v:Value):Prop:=match v with|.slice (some p) n _=>n=0\/¬W p.block|_=>True
def ya (W:Nat->Prop) (v:Value):Prop:=match v with|.map (some b)=>¬W b|_=>True
def iw (W:Nat->Prop) (x:PX) (r:A->Value) (H:Hp):Prop:=
 match x with
 |.ld a=>NS W (r a)/\x.pre r H
 |.m (.ldn _ a)=>NS W (r a)/\x.pre r H
 |.m (.b2s a)=>RN W (r a)/\x.pre r H
 |.m (.lks _ _ m _)=>ya W (r m)/\x.pre r H
 |.m (.lki _ _ m _)=>ya W (r m)/\x.pre r H
 |x=>if x.free=true then x.pre r H else False
def cK (P:Program) (W:Nat->Prop):T->Env->Fr->Hp->(Fr->Hp->Prop)->Prop
 |.done,_,f,H,Q=>Q f H
 |.px d none x t,e,f,H,Q=>iw W x (A.rd e f) H/\cK P W t (d.env (x.val (A.rd e f) H) e) (d.fr (x.val (A.rd e f) H) f) H Q
 |.px d (some (y,b)) x t,e,f,H,Q=>(gb (y.rd e f) b=true->iw W x (A.rd e f) H)∧
   cK P W t (d.env (if gb (y.rd e f) b=true then x.val (A.rd e f) H else undef) e) (d.fr (if gb (y.rd e f) b=true then x.val (A.rd e f) H else undef) f) H Q
 |.wcons d none x t m,e,f,H,Q=>x.wp P (A.rd e f) H (fun v H'=>af W H H'/\cK P W t (d.env v e) (d.fr v f) H' Q)/\cK P W m e f H Q
 |.wcons d (some (y,b)) x t m,e,f,H,Q=>((gb (y.rd e f) b=true->x.wp P (A.rd e f) H (fun v H'=>af W H H'/\cK P W t (d.env v e) (d.fr v f) H' Q))∧
   (gb (y.rd e f) b=false->cK P W t (d.env undef e) (d.fr undef f) H Q))/\cK P W m e f H Q
 |.wnil,_,_,_,_=>True
variable {W:Nat->Prop} {H H':Hp} {p:Addr} {v:Value}
theorem af.cell (h:af W H H') (h1:p.block<H.size) (h2:¬W p.block):Mg.cell H' p=Mg.cell H p:=by
 unfold Mg.cell;rw[h.at_ _ h1 h2]
theorem af.aR (h:af W H H') (h1:p.block<H.size) (h2:¬W p.block) (n:Nat):Mg.aR H' p n=Mg.aR H p n:=by
 unfold Mg.aR;rw[h.at_ _ h1 h2]
theorem af.cg (h:af W H H') {xs:Array Value} (h1:Mg.cg H v=some xs) (h2:RN W v):Mg.cg H' v=some xs:=by
 unfold Mg.cg at*
 split at h1
 ·rename_i b n c
  by_cases e:n=0
  ·rw[if_pos e]at h1⊢;exact h1
  ·rw[if_neg e]at h1⊢;have hlt:b.block<H.size:=by
    apply Decidable.byContradiction;intro hn;have hb:H[b.block]?=none:=by simpa using hn
    simp[Mg.aR,hb]at h1
   rw[h.aR hlt (h2.resolve_left e) n];exact h1
 ·exact h1
 ·cases h1
theorem af.dh (h:af W H H') {es:List MapEntry} (h1:Mg.dh H v=some es) (h2:ya W v):Mg.dh H' v=some es:=by
 unfold Mg.dh at*
 split at h1
 ·exact h1
 ·rename_i b;have hlt:b<H.size:=by
   apply Decidable.byContradiction;intro hn;have hb:H[b]?=none:=by simpa using hn
   rw[hb]at h1;cases h1
  rw[h.at_ b hlt h2];exact h1
 ·cases h1
theorem vW {x:PX} {r:A->Value} (h:iw W x r H):
  if x.free=true then x.pre r H else∀H',af W H H'->x.pre r H'/\x.val r H'=x.val r H:=by
 unfold iw at h
 split at h
 ·rename_i a;obtain⟨h1,h2⟩:=h;simp only[PX.free,Bool.false_eq_true,if_false];intro H' hk;unfold NS at h1
  split at h1
  case h_2=>exact h1.elim
  rename_i p hp;simp only[PX.pre,hp,IW]at h2;have hlt:p.block<H.size:=by
   apply Decidable.byContradiction;intro hn;have hb:H[p.block]?=none:=by simpa using hn
   simp[Mg.cell,hb]at h2
  have e:Mg.cell H' p=Mg.cell H p:=hk.cell hlt h1;simp only[PX.pre,PX.val,hp,IW,e];exact⟨h2,trivial⟩
 ·rename_i n a;obtain⟨h1,h2⟩:=h;simp only[PX.free,PM.free,Bool.false_eq_true,if_false];intro H' hk;unfold NS at h1
  split at h1
  case h_2=>exact h1.elim
  rename_i p hp;simp only[PX.pre,PM.pre,hp,aI]at h2;have hlt:p.block<H.size:=by
   apply Decidable.byContradiction;intro hn;have hb:H[p.block]?=none:=by simpa using hn
   simp[Mg.aR,hb]at h2
  have e:Mg.aR H' p n=Mg.aR H p n:=hk.aR hlt h1 n;simp only[PX.pre,PX.val,PM.pre,PM.val,hp,aI,e];exact⟨h2,trivial⟩
 ·rename_i a;obtain⟨h1,xs,h2,h3⟩:=h;simp only[PX.free,PM.free,Bool.false_eq_true,if_false];intro H' hk;have h4:=hk.cg h2 h1;simp only[PX.pre,PX.val,PM.pre,PM.val,AB,h2,h4];exact⟨⟨xs,rfl,h3⟩,trivial⟩
 ·rename_i z ok m k;obtain⟨h1,h0,es,h2,h3⟩:=h;simp only[PX.free,PM.free,Bool.false_eq_true,if_false];intro H' hk;have h4:=hk.dh h2 h1;simp only[PX.pre,PX.val,PM.pre,PM.val,h2,h4];exact⟨⟨h0,es,rfl,h3⟩,trivial⟩
 ·rename_i kk z m k;obtain⟨h1,h0,es,h2,h3⟩:=h;simp only[PX.free,PM.free,Bool.false_eq_true,if_false];intro H' hk;have h4:=hk.dh h2 h1;simp only[PX.pre,PX.val,PM.pre,PM.val,h2,h4];exact⟨⟨h0,es,rfl,h3⟩,trivial⟩
 ·split at h
  ·rename_i hf;rw[if_pos hf];exact h
  ·exact h.elim
theorem cz {P:Program} {W:Nat->Prop}:∀(t:T) (e:Env) (f:Fr) (H:Hp) (Q:Fr->Hp->Prop),cK P W t e f H Q->vo P (af W H) t e f H Q
 |.done,_,_,_,_,h=>h
 |.wnil,_,_,_,_,_=>trivial
 |.px d none x t,e,f,H,Q,h=>⟨vW h.1,cz t _ _ _ _ h.2⟩
 |.px d (some (y,b)) x t,e,f,H,Q,h=>⟨fun g=>vW (h.1 g),cz t _ _ _ _ h.2⟩
 |.wcons d none x t m,e,f,H,Q,h=>⟨EX.wp_mono (fun v H' q=>⟨af W H',fun _ k=>q.1.trans k,af.refl _ _,cz t _ _ _ _ q.2⟩) h.1,cz m _ _ _ _ h.2⟩
 |.wcons d (some (y,b)) x t m,e,f,H,Q,h=>⟨⟨fun g=>EX.wp_mono (fun v H' q=>⟨af W H',fun _ k=>q.1.trans k,af.refl _ _,cz t _ _ _ _ q.2⟩) (h.1.1 g),fun g=>cz t _ _ _ _ (h.1.2 g)⟩,cz m _ _ _ _ h.2⟩
theorem bC {P:Program} {t:T} {Q} {f:Fr} (W:Nat->Prop) (h:cK P W t [] f H (Q .n)):vc P (.dr t) Q f H:=
 ⟨af W H,af.refl _ _,cz t _ _ _ _ h⟩
section
variable (P:Program) (W:Nat->Prop)
@[go_sem] theorem RO (a:A) (r:A->Value) (H:Hp):iw W (.ld a) r H=(NS W (r a)/\PX.pre (.ld a) r H):=rfl
@[go_sem] theorem QL (n:Nat) (a:A) (r:A->Value) (H:Hp):iw W (.m (.ldn n a)) r H=(NS W (r a)/\PX.pre (.m (.ldn n a)) r H):=rfl
@[go_sem] theorem QM (a:A) (r:A->Value) (H:Hp):iw W (.m (.b2s a)) r H=(RN W (r a)/\PX.pre (.m (.b2s a)) r H):=rfl
@[go_sem] theorem QN (z:Value) (ok:Bool) (a b:A) (r:A->Value) (H:Hp):iw W (.m (.lks z ok a b)) r H=(ya W (r a)/\PX.pre (.m (.lks z ok a b)) r H):=rfl
@[go_sem] theorem RP (v:Value):RN (fun _=>False) v:=by unfold RN;split<;>simp
@[go_sem] theorem QO (v:Value):ya (fun _=>False) v:=by unfold ya;split<;>simp
@[go_sem] theorem UC (p:Addr):NS W (.pointer (some p))=(¬W p.block):=rfl
@[go_sem] theorem RQ (e:Env) (f:Fr) (H:Hp) (Q):cK P W .done e f H Q=Q f H:=rfl
@[go_sem] theorem RS (e:Env) (f:Fr) (H:Hp) (Q):cK P W .wnil e f H Q=True:=rfl
@[go_sem] theorem cI (d:D) (x:PX) (t:T) (e:Env) (f:Fr) (H:Hp) (Q):
  cK P W (.px d none x t) e f H Q=(iw W x (A.rd e f) H/\cK P W t (d.env (x.val (A.rd e f) H) e) (d.fr (x.val (A.rd e f) H) f) H Q):=rfl
@[go_sem] theorem UD (d:D) (y:A) (b:Bool) (x:PX) (t:T) (e:Env) (f:Fr) (H:Hp) (Q):
  cK P W (.px d (some (y,b)) x t) e f H Q=((gb (y.rd e f) b=true->iw W x (A.rd e f) H)∧
   cK P W t (d.env (if gb (y.rd e f) b=true then x.val (A.rd e f) H else undef) e) (d.fr (if gb (y.rd e f) b=true then x.val (A.rd e f) H else undef) f) H Q):=rfl
def ER (P:Program) (W:Nat->Prop) (H0:Hp) (d:D) (t:T) (e:Env) (f:Fr) (Q:Fr->Hp->Prop) (v:Value) (H:Hp):Prop:=af W H0 H/\cK P W t (d.env v e) (d.fr v f) H Q
@[go_sem] theorem aK (H0:Hp) (d:D) (t:T) (e:Env) (f:Fr) (Q) (v:Value) (H:Hp):ER P W H0 d t e f Q v H=(af W H0 H/\cK P W t (d.env v e) (d.fr v f) H Q):=rfl
@[go_sem] theorem iy (d:D) (x:EX) (t m:T) (e:Env) (f:Fr) (H:Hp) (Q):
  cK P W (.wcons d none x t m) e f H Q=(x.wp P (A.rd e f) H (ER P W H d t e f Q)/\cK P W m e f H Q):=rfl
@[go_sem] theorem VO (d:D) (y:A) (b:Bool) (x:EX) (t m:T) (e:Env) (f:Fr) (H:Hp) (Q):
  cK P W (.wcons d (some (y,b)) x t m) e f H Q=(((gb (y.rd e f) b=true->x.wp P (A.rd e f) H (ER P W H d t e f Q))/\(gb (y.rd e f) b=false->cK P W t (d.env undef e) (d.fr undef f) H Q))/\cK P W m e f H Q):=rfl
end
@[go_sem] theorem QP (P:Program) (W:Nat->Prop) (kk:IntKind) (z:Value) (a b:A) (r:A->Value) (H:Hp):iw W (.m (.lki kk z a b)) r H=(ya W (r a)/\PX.pre (.m (.lki kk z a b)) r H):=rfl
attribute [go_sem] iw
def vX (C:Hp->Prop) (x:PX) (r:A->Value) (H:Hp):Prop:=if x.free=true then x.pre r H else∀H',C H'->x.pre r H'/\x.val r H'=x.val r H
def qK (P:Program) (C:Hp->Prop):T->Env->Fr->Hp->(Fr->Hp->Prop)->Prop
 |.done,_,f,H,Q=>Q f H
 |.px d none x t,e,f,H,Q=>vX C x (A.rd e f) H/\qK P C t (d.env (x.val (A.rd e f) H) e) (d.fr (x.val (A.rd e f) H) f) H Q
 |.px d (some (y,b)) x t,e,f,H,Q=>(gb (y.rd e f) b=true->vX C x (A.rd e f) H)∧
   qK P C t (d.env (if gb (y.rd e f) b=true then x.val (A.rd e f) H else undef) e) (d.fr (if gb (y.rd e f) b=true then x.val (A.rd e f) H else undef) f) H Q
 |.wcons d none x t m,e,f,H,Q=>x.wp P (A.rd e f) H (fun v H'=>C H'/\qK P C t (d.env v e) (d.fr v f) H' Q)/\qK P C m e f H Q
 |.wcons d (some (y,b)) x t m,e,f,H,Q=>((gb (y.rd e f) b=true->x.wp P (A.rd e f) H (fun v H'=>C H'/\qK P C t (d.env v e) (d.fr v f) H' Q))∧
   (gb (y.rd e f) b=false->qK P C t (d.env undef e) (d.fr undef f) H Q))/\qK P C m e f H Q
 |.wnil,_,_,_,_=>True
theorem cA {P:Program} {C:Hp->Prop}:∀(t:T) (e:Env) (f:Fr) (H:Hp) (Q:Fr->Hp->Prop),qK P C t e f H Q->vo P C t e f H Q
 |.done,_,_,_,_,h=>h
 |.wnil,_,_,_,_,_=>trivial
 |.px d none x t,e,f,H,Q,h=>⟨h.1,cA t _ _ _ _ h.2⟩
 |.px d (some (y,b)) x t,e,f,H,Q,h=>⟨h.1,cA t _ _ _ _ h.2⟩
 |.wcons d none x t m,e,f,H,Q,h=>⟨EX.wp_mono (fun v H' q=>⟨C,fun _ k=>k,q.1,cA t _ _ _ _ q.2⟩) h.1,cA m _ _ _ _ h.2⟩
 |.wcons d (some (y,b)) x t m,e,f,H,Q,h=>⟨⟨fun g=>EX.wp_mono (fun v H' q=>⟨C,fun _ k=>k,q.1,cA t _ _ _ _ q.2⟩) (h.1.1 g),fun g=>cA t _ _ _ _ (h.1.2 g)⟩,cA m _ _ _ _ h.2⟩
theorem NT {P:Program} {t:T} {Q} {f:Fr} {H:Hp} (C:Hp->Prop) (hC:C H) (h:qK P C t [] f H (Q .n)):vc P (.dr t) Q f H:=
 ⟨C,hC,cA t _ _ _ _ h⟩
section
variable (P:Program) (C:Hp->Prop)
@[go_sem] theorem RT (e:Env) (f:Fr) (H:Hp) (Q):qK P C .done e f H Q=Q f H:=rfl
@[go_sem] theorem RU (e:Env) (f:Fr) (H:Hp) (Q):qK P C .wnil e f H Q=True:=rfl
@[go_sem] theorem VP (d:D) (x:PX) (t:T) (e:Env) (f:Fr) (H:Hp) (Q):
  qK P C (.px d none x t) e f H Q=(vX C x (A.rd e f) H/\qK P C t (d.env (x.val (A.rd e f) H) e) (d.fr (x.val (A.rd e f) H) f) H Q):=rfl
@[go_sem] theorem UE (d:D) (y:A) (b:Bool) (x:PX) (t:T) (e:Env) (f:Fr) (H:Hp) (Q):
  qK P C (.px d (some (y,b)) x t) e f H Q=((gb (y.rd e f) b=true->vX C x (A.rd e f) H)∧
   qK P C t (d.env (if gb (y.rd e f) b=true then x.val (A.rd e f) H else undef) e) (d.fr (if gb (y.rd e f) b=true then x.val (A.rd e f) H else undef) f) H Q):=rfl
def ES (P:Program) (C:Hp->Prop) (d:D) (t:T) (e:Env) (f:Fr) (Q:Fr->Hp->Prop) (v:Value) (H:Hp):Prop:=C H/\qK P C t (d.env v e) (d.fr v f) H Q
@[go_sem] theorem RW (d:D) (t:T) (e:Env) (f:Fr) (Q) (v:Value) (H:Hp):ES P C d t e f Q v H=(C H/\qK P C t (d.env v e) (d.fr v f) H Q):=rfl
@[go_sem] theorem aai (d:D) (x:EX) (t m:T) (e:Env) (f:Fr) (H:Hp) (Q):
  qK P C (.wcons d none x t m) e f H Q=(x.wp P (A.rd e f) H (ES P C d t e f Q)/\qK P C m e f H Q):=rfl
@[go_sem] theorem VQ (d:D) (y:A) (b:Bool) (x:EX) (t m:T) (e:Env) (f:Fr) (H:Hp) (Q):
  qK P C (.wcons d (some (y,b)) x t m) e f H Q=(((gb (y.rd e f) b=true->x.wp P (A.rd e f) H (ES P C d t e f Q))/\(gb (y.rd e f) b=false->qK P C t (d.env undef e) (d.fr undef f) H Q))/\qK P C m e f H Q):=rfl
end
end Go.Mg

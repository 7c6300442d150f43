/- Part of the proof of EngineAdaptsCardSaid: a lemma text of ours, over the kit alone. No conditions. -/
import Derived.Test.YtoclemmcphgikaaGreatDoorMgFn
namespace Go.Mg
open Go Go.RowKit
section
variable (P:Program)
@[go_sem] theorem vc_skip (Q) (f:Fr) (H:Hp):vc P .skip Q f H=Q .n f H:=rfl
@[go_sem] theorem vc_reg (l:List O) (Q) (f:Fr) (H:Hp):vc P (.reg l) Q f H=ops P l [] f H (Q .n):=rfl
@[go_sem] theorem vc_seq (a b:S) (Q) (f:Fr) (H:Hp):vc P (.seq a b) Q f H=vc P a (thenQ (vc P b Q) Q) f H:=rfl
@[go_sem] theorem vc_blk (i:Nat) (s:S) (Q) (f:Fr) (H:Hp):vc P (.blk i s) Q f H=vc P s (blkQ i Q) f H:=rfl
@[go_sem] theorem vc_exit (i:Nat) (Q) (f:Fr) (H:Hp):vc P (.exit i) Q f H=Q (.x i) f H:=rfl
@[go_sem] theorem vc_ret (Q) (f:Fr) (H:Hp):vc P .ret Q f H=Q .r f H:=rfl
@[go_sem] theorem thenQ_n (N) (Q) (f:Fr) (H:Hp):thenQ N Q .n f H=N f H:=rfl
@[go_sem] theorem thenQ_x (N) (Q) (i:Nat) (f:Fr) (H:Hp):thenQ N Q (.x i) f H=Q (.x i) f H:=rfl
@[go_sem] theorem thenQ_r (N) (Q) (f:Fr) (H:Hp):thenQ N Q .r f H=Q .r f H:=rfl
@[go_sem] theorem blkQ_n (i:Nat) (Q) (f:Fr) (H:Hp):blkQ i Q .n f H=Q .n f H:=rfl
@[go_sem] theorem blkQ_r (i:Nat) (Q) (f:Fr) (H:Hp):blkQ i Q .r f H=Q .r f H:=rfl
@[go_sem] theorem blkQ_x (i j:Nat) (Q) (f:Fr) (H:Hp):blkQ i Q (.x j) f H=if j=i then Q .n f H else Q (.x j) f H:=rfl
@[go_sem] theorem loopQ_r (I) (i:Nat) (Q) (f:Fr) (H:Hp):loopQ I i Q .r f H=Q .r f H:=rfl
@[go_sem] theorem loopQ_x (I) (i j:Nat) (Q) (f:Fr) (H:Hp):loopQ I i Q (.x j) f H=Q (.x j) f H:=rfl
@[go_sem] theorem retQ_n (rs:List RV) (R) (f:Fr) (H:Hp):retQ rs R .n f H=(resPre f H rs/\R (resVal f H rs) H):=rfl
@[go_sem] theorem retQ_r (rs:List RV) (R) (f:Fr) (H:Hp):retQ rs R .r f H=(resPre f H rs/\R (resVal f H rs) H):=rfl
@[go_sem] theorem ops_nil (e:Env) (f:Fr) (H:Hp) (Q):ops P [] e f H Q=Q f H:=rfl
@[go_sem] theorem ops_p (d:D) (x:PX) (r:List O) (e:Env) (f:Fr) (H:Hp) (Q):
  ops P (.p d x::r) e f H Q=(x.pre (A.rd e f) H/\ops P r (d.env (x.val (A.rd e f) H) e) (d.fr (x.val (A.rd e f) H) f) H Q):=rfl
@[go_sem] theorem ops_gp (d:D) (g:A) (b:Bool) (x:PX) (r:List O) (e:Env) (f:Fr) (H:Hp) (Q):
  ops P (.gp d g b x::r) e f H Q=((gb (g.rd e f) b=true->x.pre (A.rd e f) H)∧
   ops P r (d.env (if gb (g.rd e f) b=true then x.val (A.rd e f) H else undef) e) (d.fr (if gb (g.rd e f) b=true then x.val (A.rd e f) H else undef) f) H Q):=rfl
@[go_sem] theorem ops_e (d:D) (x:EX) (r:List O) (e:Env) (f:Fr) (H:Hp) (Q):ops P (.e d x::r) e f H Q=x.wp P (A.rd e f) H (kont P d r e f Q):=rfl
@[go_sem] theorem ops_ge (d:D) (g:A) (b:Bool) (x:EX) (r:List O) (e:Env) (f:Fr) (H:Hp) (Q):
  ops P (.ge d g b x::r) e f H Q=((gb (g.rd e f) b=true->x.wp P (A.rd e f) H (kont P d r e f Q))/\(gb (g.rd e f) b=false->ops P r (d.env undef e) (d.fr undef f) H Q)):=rfl
theorem kont_eq (d:D) (r:List O) (e:Env) (f:Fr) (Q) (v:Value) (H:Hp):kont P d r e f Q v H=ops P r (d.env v e) (d.fr v f) H Q:=rfl
@[go_sem] theorem rd_t (e:Env) (f:Fr) (n:Nat):A.rd e f (.t n)=look e n:=rfl
@[go_sem] theorem rd_v (e:Env) (f:Fr) (n:Nat):A.rd e f (.v n)=f n:=rfl
@[go_sem] theorem rd_c (e:Env) (f:Fr) (v:Value):A.rd e f (.c v)=v:=rfl
@[go_sem] theorem look_cons (k:Nat) (x:Value) (e:Env) (n:Nat):look ((k,x)::e) n=if n=k then x else look e n:=rfl
@[go_sem] theorem look_nil (n:Nat):look [] n=undef:=rfl
@[go_sem] theorem upd_eq (f:Fr) (d:Nat) (x:Value) (i:Nat):upd f d x i=if i=d then x else f i:=rfl
@[go_sem] theorem env_t (n:Nat) (x:Value) (e:Env):D.env (.t n) x e=(n,x)::e:=rfl
@[go_sem] theorem env_v (n:Nat) (x:Value) (e:Env):D.env (.v n) x e=e:=rfl
@[go_sem] theorem env_no (x:Value) (e:Env):D.env .no x e=e:=rfl
@[go_sem] theorem fr_t (n:Nat) (x:Value) (f:Fr):D.fr (.t n) x f=f:=rfl
@[go_sem] theorem fr_v (n:Nat) (x:Value) (f:Fr):D.fr (.v n) x f=upd f n x:=rfl
@[go_sem] theorem fr_no (x:Value) (f:Fr):D.fr .no x f=f:=rfl
@[go_sem] theorem enum_nil (k:Nat):enumA k []=[]:=rfl
@[go_sem] theorem enum_cons (k:Nat) (x:Value) (l:List Value):enumA k (x::l)=(k,x)::enumA (k+1) l:=rfl
@[go_sem] theorem isI_int (k k':IntKind) (n:Int):isI k (.int k' n)=(k'=k):=rfl
@[go_sem] theorem isSl_slice (a:Option Addr) (l c:Nat):isSl (.slice a l c)=True:=rfl
@[go_sem] theorem lenV_slice (a:Option Addr) (l c:Nat):lenV (.slice a l c)=l:=rfl
@[go_sem] theorem capV_slice (a:Option Addr) (l c:Nat):capV (.slice a l c)=c:=rfl
@[go_sem] theorem adrV_slice (a:Option Addr) (l c:Nat):adrV (.slice a l c)=a:=rfl
attribute [go_sem] PX.free PM.free forall_eq okFs eqFs mxF
@[go_sem] theorem gL_agg (l:List Value):gL (.agg l.toArray)=l:=rfl
attribute [go_sem] List.getD_cons_zero List.getD_cons_succ
@[go_sem] theorem gb_bool (x b:Bool):gb (.bool x) b=(x==b):=rfl
@[go_sem] theorem gb_undef (b:Bool):gb undef b=false:=rfl
attribute [go_sem] Option.getD_some Option.isSome_some Value.oneCell' PX.pre PX.val PM.pre PM.val arI dvI shI cmI scB isInt isB isS isP isAg okNil isNilV Value.i Value.b Value.s Value.g okI oi okLH loN hiN ptrAdd eltP okElt tupI noMeth resPre resVal RV.pre RV.val isPt lenS srcOk okSt stH EX.wp
theorem zS:(∀{α β:Type} (f:α->β) (a:α) (l:List α),List.map f (a::l)=f a::List.map f l)/\(∀{α β:Type} (f:α->β),List.map f []=[])/\(∀p:Prop,(p/\True)=p)/\(∀p:Prop,(True/\p)=p)∧
  (∀n:Nat,n*1=n)/\(∀n:Nat,0+n=n)/\((false=true)=False)/\(∀h:Decidable True,@decide True h=true)/\(∀h:Decidable False,@decide False h=false)/\((¬False)=True):=
 ⟨fun f a l=>List.map_cons,fun f=>List.map_nil,and_true,true_and,Nat.mul_one,Nat.zero_add,Bool.false_eq_true,decide_true,decide_false,not_false_eq_true⟩
theorem zU:(∀{α:Type} [BEq α] [ReflBEq α] (a:α),(a==a)=true)/\(∀{α:Type} [BEq α] [LawfulBEq α] (a:α),(a !=a)=false)/\(∀{n:Nat},((no_index (OfNat.ofNat n):Nat):Int)=OfNat.ofNat n):=
 ⟨beq_self_eq_true,bne_self_eq_false,Int.cast_ofNat_Int⟩
theorem zV:(∀n:Int,n<=n)/\(∀p:Prop,(p/\p)=p)/\(∀n:Nat,n<=n):=⟨Int.le_refl,and_self,Nat.le_refl⟩
end
end Go.Mg

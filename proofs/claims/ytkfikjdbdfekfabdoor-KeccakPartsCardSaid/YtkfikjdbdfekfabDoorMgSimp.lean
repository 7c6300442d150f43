/- Lemmas of ours. No conditions. -/
import Derived.Test.YtkfikjdbdfekfabDoorMgFn
namespace Go.Mg
open Go Go.RowKit
section
variable (P:Program)
@[go_sem] theorem r4 (Q) (f:Fr) (H:Hp):vc P .skip Q f H=Q .n f H:=rfl
@[go_sem] theorem s7 (l:List O) (Q) (f:Fr) (H:Hp):vc P (.reg l) Q f H=ops P l [] f H (Q .n):=rfl
@[go_sem] theorem s8 (a b:S) (Q) (f:Fr) (H:Hp):vc P (.seq a b) Q f H=vc P a (iw (vc P b Q) Q) f H:=rfl
@[go_sem] theorem ta (i:Nat) (s:S) (Q) (f:Fr) (H:Hp):vc P (.blk i s) Q f H=vc P s (iY i Q) f H:=rfl
@[go_sem] theorem r5 (i:Nat) (Q) (f:Fr) (H:Hp):vc P (.exit i) Q f H=Q (.x i) f H:=rfl
@[go_sem] theorem tb (Q) (f:Fr) (H:Hp):vc P .ret Q f H=Q .r f H:=rfl
@[go_sem] theorem r6 (N) (Q) (f:Fr) (H:Hp):iw N Q .n f H=N f H:=rfl
@[go_sem] theorem r7 (N) (Q) (i:Nat) (f:Fr) (H:Hp):iw N Q (.x i) f H=Q (.x i) f H:=rfl
@[go_sem] theorem r8 (N) (Q) (f:Fr) (H:Hp):iw N Q .r f H=Q .r f H:=rfl
@[go_sem] theorem tc (i:Nat) (Q) (f:Fr) (H:Hp):iY i Q .n f H=Q .n f H:=rfl
@[go_sem] theorem te (i:Nat) (Q) (f:Fr) (H:Hp):iY i Q .r f H=Q .r f H:=rfl
@[go_sem] theorem tf (i j:Nat) (Q) (f:Fr) (H:Hp):iY i Q (.x j) f H=if j=i then Q .n f H else Q (.x j) f H:=rfl
@[go_sem] theorem r9 (I) (i:Nat) (Q) (f:Fr) (H:Hp):iy I i Q .r f H=Q .r f H:=rfl
@[go_sem] theorem sd (I) (i j:Nat) (Q) (f:Fr) (H:Hp):iy I i Q (.x j) f H=Q (.x j) f H:=rfl
@[go_sem] theorem tg (rs:List RV) (R) (f:Fr) (H:Hp):nI rs R .n f H=(dp f H rs/\R (eJ f H rs) H):=rfl
@[go_sem] theorem th (rs:List RV) (R) (f:Fr) (H:Hp):nI rs R .r f H=(dp f H rs/\R (eJ f H rs) H):=rfl
@[go_sem] theorem se (e:Env) (f:Fr) (H:Hp) (Q):ops P [] e f H Q=Q f H:=rfl
@[go_sem] theorem u9 (d:D) (x:PX) (r:List O) (e:Env) (f:Fr) (H:Hp) (Q):
  ops P (.p d x::r) e f H Q=(x.pre (A.rd e f) H/\ops P r (d.env (x.val (A.rd e f) H) e) (d.fr (x.val (A.rd e f) H) f) H Q):=rfl
@[go_sem] theorem tj (d:D) (g:A) (b:Bool) (x:PX) (r:List O) (e:Env) (f:Fr) (H:Hp) (Q):
  ops P (.gp d g b x::r) e f H Q=((gb (g.rd e f) b=true->x.pre (A.rd e f) H)∧
   ops P r (d.env (if gb (g.rd e f) b=true then x.val (A.rd e f) H else undef) e) (d.fr (if gb (g.rd e f) b=true then x.val (A.rd e f) H else undef) f) H Q):=rfl
@[go_sem] theorem vd (d:D) (x:EX) (r:List O) (e:Env) (f:Fr) (H:Hp) (Q):ops P (.e d x::r) e f H Q=x.wp P (A.rd e f) H (kr P d r e f Q):=rfl
@[go_sem] theorem tk (d:D) (g:A) (b:Bool) (x:EX) (r:List O) (e:Env) (f:Fr) (H:Hp) (Q):
  ops P (.ge d g b x::r) e f H Q=((gb (g.rd e f) b=true->x.wp P (A.rd e f) H (kr P d r e f Q))/\(gb (g.rd e f) b=false->ops P r (d.env undef e) (d.fr undef f) H Q)):=rfl
theorem aa (d:D) (r:List O) (e:Env) (f:Fr) (Q) (v:Value) (H:Hp):kr P d r e f Q v H=ops P r (d.env v e) (d.fr v f) H Q:=rfl
@[go_sem] theorem wC (e:Env) (f:Fr) (n:Nat):A.rd e f (.t n)=look e n:=rfl
@[go_sem] theorem wD (e:Env) (f:Fr) (n:Nat):A.rd e f (.v n)=f n:=rfl
@[go_sem] theorem rd_c (e:Env) (f:Fr) (v:Value):A.rd e f (.c v)=v:=rfl
@[go_sem] theorem qw (k:Nat) (x:Value) (e:Env) (n:Nat):look ((k,x)::e) n=if n=k then x else look e n:=rfl
@[go_sem] theorem look_nil (n:Nat):look [] n=undef:=rfl
@[go_sem] theorem tl (f:Fr) (d:Nat) (x:Value) (i:Nat):ng f d x i=if i=d then x else f i:=rfl
@[go_sem] theorem ve (n:Nat) (x:Value) (e:Env):D.env (.t n) x e=(n,x)::e:=rfl
@[go_sem] theorem vf (n:Nat) (x:Value) (e:Env):D.env (.v n) x e=e:=rfl
@[go_sem] theorem tn (x:Value) (e:Env):D.env .no x e=e:=rfl
@[go_sem] theorem wE (n:Nat) (x:Value) (f:Fr):D.fr (.t n) x f=f:=rfl
@[go_sem] theorem wF (n:Nat) (x:Value) (f:Fr):D.fr (.v n) x f=ng f n x:=rfl
@[go_sem] theorem vg (x:Value) (f:Fr):D.fr .no x f=f:=rfl
@[go_sem] theorem q8 (k:Nat):cF k []=[]:=rfl
@[go_sem] theorem qx (k:Nat) (x:Value) (l:List Value):cF k (x::l)=(k,x)::cF (k+1) l:=rfl
@[go_sem] theorem sf (k k':IntKind) (n:Int):cb k (.int k' n)=(k'=k):=rfl
@[go_sem] theorem pN (a:Option Addr) (l c:Nat):aT (.slice a l c)=True:=rfl
@[go_sem] theorem pO (a:Option Addr) (l c:Nat):av (.slice a l c)=l:=rfl
@[go_sem] theorem pP (a:Option Addr) (l c:Nat):bp (.slice a l c)=c:=rfl
@[go_sem] theorem pQ (a:Option Addr) (l c:Nat):bC (.slice a l c)=a:=rfl
attribute [go_sem] PX.free PM.free forall_eq iS hY qL
@[go_sem] theorem tq (l:List Value):gL (.agg l.toArray)=l:=rfl
attribute [go_sem] List.getD_cons_zero List.getD_cons_succ
@[go_sem] theorem sg (x b:Bool):gb (.bool x) b=(x==b):=rfl
@[go_sem] theorem q9 (b:Bool):gb undef b=false:=rfl
attribute [go_sem] Option.getD_some Option.isSome_some Value.oneCell' PX.pre PX.val PM.pre PM.val rR rS qP rT rU isInt lJ cR qq eu hX bg Value.i Value.b Value.s Value.g lM oi lN dM jO eF pA lS ny lT dp eJ RV.pre RV.val lL aF dN nC sT EX.wp
theorem zS:(∀{α β:Type} (f:α->β) (a:α) (l:List α),List.map f (a::l)=f a::List.map f l)/\(∀{α β:Type} (f:α->β),List.map f []=[])/\(∀p:Prop,(p/\True)=p)/\(∀p:Prop,(True/\p)=p)∧
  (∀n:Nat,n*1=n)/\(∀n:Nat,0+n=n)/\((false=true)=False)/\(∀h:Decidable True,@decide True h=true)/\(∀h:Decidable False,@decide False h=false)/\((¬False)=True):=
 ⟨fun f a l=>List.map_cons,fun f=>List.map_nil,and_true,true_and,Nat.mul_one,Nat.zero_add,Bool.false_eq_true,decide_true,decide_false,not_false_eq_true⟩
theorem zU:(∀{α:Type} [BEq α] [ReflBEq α] (a:α),(a==a)=true)/\(∀{α:Type} [BEq α] [LawfulBEq α] (a:α),(a !=a)=false)/\(∀{n:Nat},((no_index (OfNat.ofNat n):Nat):Int)=OfNat.ofNat n):=
 ⟨beq_self_eq_true,bne_self_eq_false,Int.cast_ofNat_Int⟩
end
end Go.Mg

/- Lemmas of ours. No conditions. -/
import Derived.Test.YteeemadonfcliaaGreatDoorMgSnd
import Derived.RangeFuncRecord
namespace Go.Mg
open Go Go.RowKit
inductive EX where
 |st (a x:A)
 |stn (n:Nat) (a x:A)
 |new (T:TypeId) (z:Array Value)
 |box (T:TypeId) (a:A)
 |call (f:FuncId) (args:List A)
 |callv (f:A) (args:List A)
 |cally (f:A) (args:List A)
 |lib (f:FuncId) (args:List A)
 |cj (T:TypeId) (size:Nat) (n:Nat) (parts:List A)
 |Nz (T:TypeId) (n:Nat) (zs:Array Value) (parts:List (Nat×Nat×A))
 |nq (T:TypeId) (size bytes:Nat) (z:Array Value) (l c:A)
 |app (str:Bool) (T:TypeId) (size bytes:Nat) (z:Array Value) (s x:A)
 |cpy (str:Bool) (size:Nat) (d s:A)
 |clr (z:Array Value) (a:A)
 |s2b (T:TypeId) (a:A)
 |mark (a:A)
 |rd (x:PX)
 |mup (m k v:A)
 |mui (kk:IntKind) (m k v:A)
 |mkm
 |bad
def bk (H:Hp) (v:Value):Prop:=match v with|.pointer (some a)=>(cell H a).isSome=true/\j8 H a=false|_=>False
def QE (H:Hp) (v x:Value):Hp:=match v with|.pointer (some a)=>al H a x|_=>H
def bI:Value->Nat|.slice _ n _=>n|.string s=>s.size|_=>0
def byteCells (s:ByteArray):Array Value:=s.data.map fun b=>.int .u8 b.toNat
def mV (str:Bool) (v:Value):Prop:=if str=true then j9 v else ax v
def eF (H:Hp) (v:Value) (k:Nat):Option (Array Value):=
 match v with
 |.slice (some b) _ _=>if k=0 then some #[]else aR H b k
 |.slice none _ _=>some #[]
 |.string s=>some (byteCells (s.extract 0 k))
 |_=>none
def bQ (xs:Array Value):Prop:=∀x∈xs.toList,x.oneCell'=true
def fZ (H:Hp) (a:Option Addr) (off:Nat) (xs:Array Value):Prop:=match a with|none=>True|some p=>bQ xs/\(xs.size=0\/bK H (p.add off) xs.size)
def gV (H:Hp) (a:Option Addr) (off:Nat) (xs:Array Value):Hp:=match a with|none=>H|some p=>if xs.size=0 then H else aA H (p.add off) xs.toList
def rep (z:Array Value) (n:Nat):Array Value:=(Array.range n).map fun i=>z[i % z.size]!
def Ix (H:Hp) (b:Nat) (n:Nat):Hp:=
 H.modify b fun
  |.cells c T (lo,hi)=>.cells c T (if lo==hi then(n,n+1)else(min lo n,max hi (n+1)))
  |o=>o
def vP (H:Hp) (b:Nat):Option Nat:=match H[b]? with|some (.cells c _ _)=>some c.size|_=>none
def ox (es:Array MapEntry) (clock:Nat) (k v:Value):Array MapEntry×Nat:=
 match es.toList.findIdx? (fun e=>k.i==e.key.i)with
 |some i=>(es.modify i fun e=>{e with key:=k,val:=v},clock)
 |none=>(es.push {key:=k,val:=v,born:=clock},clock+1)
def bF (P:Program) (f:FuncId):Bool:=match P.funcs[f]? with|some fn=>fn.body.isSome&&!(fn.name== "runtime.NumGoroutine")|none=>false
def EH (P:Program) (f:FuncId) (args:Array Value) (H:Hp) (v:Value) (H':Hp):Prop:=∀w:World,w.heap=H->(callFunc f args).run P w=.ok (.value v) {w with heap:=H'}
def Ry (P:Program) (f:FuncId) (args:Array Value) (H:Hp) (K:Value->Hp->Prop):Prop:=∀w:World,w.heap=H->∃v w',(callFunc f args).run P w=.ok (.value v) w'/\aW w w'/\K v w'.heap
variable {P:Program} {args:Array Value} {H:Hp} {K:Value->Hp->Prop}
theorem EH.m {f:FuncId} {H':Hp} {v:Value} (h:EH P f args H v H') (hk:K v H'):Ry P f args H K:=fun w hw=>⟨v,_,h w hw,⟨rfl,rfl,rfl⟩,hk⟩
def qN (str:Bool) (T:TypeId) (size bytes:Nat) (z:Array Value) (s x:Value) (H:Hp) (K:Value->Hp->Prop):Prop:=
  (ax s/\mV str x/\aP s+bI x<=maxLen/\(aP s+bI x)*bytes<=140737488355328)∧
  ∃news,eF H x (bI x*size)=some news∧
   (aP s+bI x<=eO s->fZ H (fC s) (aP s*size) news∧
    K (.slice (fC s) (aP s+bI x) (eO s)) (gV H (fC s) (aP s*size) news))∧
   (eO s<aP s+bI x->∃olds,eF H s (aP s*size)=some olds/\∀c,aP s+bI x<=c→
    K (.slice (some ⟨H.size,0,none⟩) (aP s+bI x) c) (H.push (.cells (olds++news++rep z ((c -(aP s+bI x))*z.size)) T)))
def oy (P:Program) (l:Nat) (args:Array Value) (H:Hp) (K:Value->Hp->Prop):Prop:=
 ∀w:World,w.heap=H->∃fn tmps I3 body,(Instr.yield l args).run P w=.ok (.round l fn tmps I3 body) w∧
  RoundIn Fence.wide 0 P l fn tmps I3 body w fun e w'=>∃v,e=.returned v/\K v w'.heap/\aW w w'
theorem oy.mono {l:Nat} {K':Value->Hp->Prop} (h:oy P l args H K) (hk:∀v H',K v H'->K' v H'):oy P l args H K':=
 fun w hw=>let⟨fn,tmps,I3,body,h1,h2⟩:=h w hw;⟨fn,tmps,I3,body,h1,h2.mono fun _ _ ⟨v,e,k,s⟩=>⟨v,e,hk _ _ k,s⟩⟩
def AJ (P:Program) (gf:FuncId) (lb:Array Value) (xs:List Value) (G:Hp->Prop):Prop:=
 ∀(l:Nat) (J:Nat->Hp->Prop) (K:Hp->Prop),
  (∀k H,k<xs.length->J k H->oy P l #[xs.getD k undef] H fun v H'=>(v=.bool true/\J (k+1) H')\/(v=.bool false/\K H'))→
  (∀k H,J k H->G H)->∀H,J 0 H→
   ∀w:World,w.heap=H->Calls P gf (#[.func (.yield l) #[] #[]]++lb) w fun e w'=>∃v,e=.returned v/\aW w w'/\(J xs.length w'.heap\/K w'.heap)
def fF (l:Nat) (H H':Hp):Prop:=H'.size=H.size/\∀k,k≠l->H'[k]?=H[k]?
def EX.wp (P:Program):EX->(A->Value)->Hp->(Value->Hp->Prop)->Prop
 |.st a x,r,H,K=>(bk H (r a)/\(r x).oneCell'=true)/\K undef (QE H (r a) (r x))
 |.stn n a x,r,H,K=>(QD H (r a) n/\(r x).cells.size=n/\bQ (r x).cells)/\K undef (vy H (r a) (r x).cells.toList)
 |.new T z,_,H,K=>K (.pointer (some ⟨H.size,0,none⟩)) (H.push (.cells z T))
 |.box T a,r,H,K=>K (.pointer (some ⟨H.size,0,none⟩)) (H.push (.cells (r a).cells T))
 |.call f args,r,H,K=>an P f (args.map r).toArray H K
 |.callv f args,r,H,K=>match r f with
  |.func (.func g) fi ca=>bF P g=true/\an P g (fi++(args.map r).toArray++ca) H K
  |_=>False
 |.cally f args,r,H,K=>∃l,r f=.func (.yield l) #[] #[]/\oy P l (args.map r).toArray H K
 |.lib f args,r,H,K=>Ry P f (args.map r).toArray H K
 |.cj T size n parts,r,H,K=>(∀a∈parts,(r a).cells.size=size)/\K (.slice (some ⟨H.size,0,none⟩) n n) (H.push (.cells (parts.flatMap fun a=>(r a).cells.toList).toArray T))
 |.Nz T n zs ps,r,H,K=>eE r zs.size ps/\K (.slice (some ⟨H.size,0,none⟩) n n) (H.push (.cells (eN r zs ps) T))
 |.nq T size bytes z l c,r,H,K=>(isInt (r l)/\isInt (r c)/\0<=(r l).i/\(r l).i<=(r c).i/\bytes*(r c).i<=281474976710656/\(r c).i<=maxLen)∧
   K (.slice (some ⟨H.size,0,none⟩) (r l).i.toNat (r c).i.toNat) (H.push (.cells (rep z ((r c).i.toNat*size)) T))
 |.app str T size bytes z s x,r,H,K=>qN str T size bytes z (r s) (r x) H K
 |.cpy str size d s,r,H,K=>(ax (r d)/\mV str (r s))∧
  ∃news,eF H (r s) (min (bI (r s)) (aP (r d))*size)=some news/\fZ H (fC (r d)) 0 news/\K (.int .i64 (min (bI (r s)) (aP (r d)):Nat)) (gV H (fC (r d)) 0 news)
 |.clr z a,r,H,K=>ax (r a)/\fZ H (fC (r a)) 0 (rep z (aP (r a)*z.size))/\K (.tuple #[]) (gV H (fC (r a)) 0 (rep z (aP (r a)*z.size)))
 |.s2b T a,r,H,K=>j9 (r a)/\∀c,(r a).s.size<=c→
   K (.slice (some ⟨H.size,0,none⟩) (r a).s.size c) (H.push (.cells (byteCells (r a).s++Array.replicate (c -(r a).s.size) (.int .u8 0)) T (c,c+1)))
 |.rd x,r,H,K=>x.pre r H/\K (x.val r H) H
 |.mup m k v,r,H,K=>j9 (r k)/\∃b es clock,r m=.map (some b)/\H[b]?=some (.map es clock)/\(∀e∈es.toList,j9 e.key/\((r k).s==e.key.s)=false)/\K undef (H.setIfInBounds b (.map (es.push {key:=r k,val:=r v,born:=clock}) (clock+1)))
 |.mui kk m k v,r,H,K=>fB kk (r k)/\∃b es clock,r m=.map (some b)/\H[b]?=some (.map es clock)/\(∀e∈es.toList,fB kk e.key)/\K undef (H.setIfInBounds b (.map (ox es clock (r k) (r v)).1 (ox es clock (r k) (r v)).2))
 |.mkm,_,H,K=>K (.map (some H.size)) (H.push (.map #[] 0))
 |.bad,_,_,_=>False
 |.mark a,r,H,K=>match r a with
  |.slice (some p) _ _=>match vP H p.block with
   |some n=>K (r a) (Ix H p.block n)
   |none=>K (r a) H
  |_=>False
def qP (tr:Operand->Option A):List Operand->Option (List A)
 |[]=>some []
 |x::l=>do pure ((←tr x)::(←qP tr l))
def kr (k:Nat):List (Nat×Operand)->Bool
 |[]=>true
 |(i,_)::l=>i==k&&kr (k+1) l
def Rz (P:Program) (e:TypeId):Bool:=match P.underlying e with|some (.int .u8)=>true|_=>false
def EI (P:Program) (tr:Operand->Option A) (c:Call):Option EX:=
 match c.callee with
 |.value (.func f)=>if bF P f=true then(qP tr c.args.toList).map (.call f)else(qP tr c.args.toList).map (.lib f)
 |.value f=>(tr f).bind fun g=>(qP tr c.args.toList).map (.callv g)
 |.builtin .append=>
  match c.args.toList,c.argTypes.toList with
  |[s,x],[t,u]=>(tr s).bind fun s=>(tr x).bind fun x=>
   match P.underlying t with
   |some (.slice e)=>(P.info? e).bind fun i=>i.zero.bind fun z=>
    if i.size=z.cells.size then
     match P.underlying u with
     |some (.slice _)=>some (.app false e i.size i.bytes z.cells s x)
     |some .string=>if i.size=1 then some (.app true e i.size i.bytes z.cells s x)else none
     |_=>none
    else none
   |_=>none
  |_,_=>none
 |.builtin .copy=>
  match c.args.toList,c.argTypes.toList with
  |[d,s],[t,u]=>(tr d).bind fun d=>(tr s).bind fun s=>
   match P.underlying t with
   |some (.slice e)=>if(P.info? e).isSome then
     match P.underlying u with
     |some (.slice _)=>some (.cpy false (P.cellsOf e) d s)
     |some .string=>if P.cellsOf e=1 then some (.cpy true (P.cellsOf e) d s)else none
     |_=>none
    else none
   |_=>none
  |_,_=>none
 |.builtin .clear=>
  match c.args.toList,c.argTypes.toList with
  |[s],[t]=>(tr s).bind fun s=>
   match P.underlying t with
   |some (.slice e)=>(P.info? e).bind fun i=>i.zero.bind fun z=>some (.clr z.cells s)
   |_=>none
  |_,_=>none
 |_=>none
def ex (P:Program) (tr:Operand->Option A) (o:Oper):Option EX:=
 match o.op with
 |.store t x y=>(tr x).bind fun a=>(tr y).bind fun b=>
  if xU P t then some (.stn (P.cellsOf t) a b)else if P.cellsOf t=1 then(if lQ P t then some (.st a b)else none)else none
 |.alloc t=>match(P.info? t).bind (·.zero)with
  |some z=>some (.new t z.cells)
  |none=>none
 |.box t x=>(tr x).map (.box t)
 |.buildSlice t len parts=>
  match P.underlying t with
  |some (.slice e)=>(P.info? e).bind fun i=>i.zero.bind fun z=>
   if len=0/\parts.toList.isEmpty=true then some (.cj e i.size 0 [])else
   if len*i.size<=16777216/\0<len*i.size then
    if kr 0 parts.toList&&parts.size==len then(qP tr (parts.toList.map (·.2))).map (.cj e i.size len)
    else(eP tr (fun k=>some (k*i.size,i.size)) parts.toList).map (.Nz e len (rep z.cells (len*i.size)))
   else none
  |_=>none
 |.makeSlice t l c=>(tr l).bind fun l=>(tr c).bind fun c=>
  match P.underlying t with
  |some (.slice e)=>(P.info? e).bind fun i=>i.zero.bind fun z=>some (.nq e i.size i.bytes z.cells l c)
  |_=>none
 |.convert s t x=>(tr x).bind fun a=>
  match P.underlying s,P.underlying t with
  |some .string,some (.slice e)=>match P.underlying e with
   |some (.int .u8)=>some (.s2b e a)
   |_=>none
  |some (.slice _),some (.slice e)=>if s=t/\Rz P e=true then some (.mark a)else none
  |_,_=>none
 |.call c=>EI P tr c
 |.mapUpdate t m k v=>(tr m).bind fun m=>(tr k).bind fun k=>(tr v).bind fun v=>
  match P.underlying t with
  |some (.map q _)=>match P.underlying q with
   |some .string=>some (.mup m k v)
   |some (.int kk)=>some (.mui kk m k v)
   |_=>none
  |_=>none
 |.makeMap _ none=>some .mkm
 |.panic _=>some .bad
 |_=>none
inductive O where
 |p (d:D) (x:PX)
 |e (d:D) (x:EX)
 |gp (d:D) (g:A) (b:Bool) (x:PX)
 |ge (d:D) (g:A) (b:Bool) (x:EX)
def gb:Value->Bool->Bool
 |.bool x,b=>x==b
 |_,_=>false
def ops (P:Program):List O->Env->Fr->Hp->(Fr->Hp->Prop)->Prop
 |[],_,f,H,Q=>Q f H
 |.p d x::r,e,f,H,Q=>x.pre (A.rd e f) H/\ops P r (d.env (x.val (A.rd e f) H) e) (d.fr (x.val (A.rd e f) H) f) H Q
 |.e d x::r,e,f,H,Q=>x.wp P (A.rd e f) H (fun v H'=>ops P r (d.env v e) (d.fr v f) H' Q)
 |.gp d g b x::r,e,f,H,Q=>(gb (g.rd e f) b=true->x.pre (A.rd e f) H)∧
   ops P r (d.env (if gb (g.rd e f) b=true then x.val (A.rd e f) H else undef) e) (d.fr (if gb (g.rd e f) b=true then x.val (A.rd e f) H else undef) f) H Q
 |.ge d g b x::r,e,f,H,Q=>(gb (g.rd e f) b=true->x.wp P (A.rd e f) H (fun v H'=>ops P r (d.env v e) (d.fr v f) H' Q))∧
   (gb (g.rd e f) b=false->ops P r (d.env undef e) (d.fr undef f) H Q)
inductive T where
 |done
 |px (d:D) (g:Option (A×Bool)) (x:PX) (t:T)
 |wcons (d:D) (g:Option (A×Bool)) (x:EX) (t more:T)
 |wnil
def PX.free:PX->Bool
 |.ld _=>false
 |.m q=>q.free
 |_=>true
def D6 (g:Option (A×Bool)) (e:Env) (f:Fr):Bool:=match g with|none=>true|some (x,b)=>gb (x.rd e f) b
def vo (P:Program):(Hp->Prop)->T->Env->Fr->Hp->(Fr->Hp->Prop)->Prop
 |_,.done,_,f,H,Q=>Q f H
 |C,.px d none x t,e,f,H,Q=>(if x.free=true then x.pre (A.rd e f) H else∀H',C H'->x.pre (A.rd e f) H'/\x.val (A.rd e f) H'=x.val (A.rd e f) H)∧
   vo P C t (d.env (x.val (A.rd e f) H) e) (d.fr (x.val (A.rd e f) H) f) H Q
 |C,.px d (some (y,b)) x t,e,f,H,Q=>(gb (y.rd e f) b=true->if x.free=true then x.pre (A.rd e f) H else∀H',C H'->x.pre (A.rd e f) H'/\x.val (A.rd e f) H'=x.val (A.rd e f) H)∧
   vo P C t (d.env (if gb (y.rd e f) b=true then x.val (A.rd e f) H else undef) e) (d.fr (if gb (y.rd e f) b=true then x.val (A.rd e f) H else undef) f) H Q
 |C,.wcons d none x t m,e,f,H,Q=>x.wp P (A.rd e f) H (fun v H'=>∃C':Hp->Prop,(∀K,C' K->C K)/\C' H'/\vo P C' t (d.env v e) (d.fr v f) H' Q)/\vo P C m e f H Q
 |C,.wcons d (some (y,b)) x t m,e,f,H,Q=>((gb (y.rd e f) b=true->x.wp P (A.rd e f) H (fun v H'=>∃C':Hp->Prop,(∀K,C' K->C K)/\C' H'/\vo P C' t (d.env v e) (d.fr v f) H' Q))∧
   (gb (y.rd e f) b=false->vo P C t (d.env undef e) (d.fr undef f) H Q))/\vo P C m e f H Q
 |_,.wnil,_,_,_,_=>True
def vQ (P:Program) (d:D) (r:List O) (e:Env) (f:Fr) (Q:Fr->Hp->Prop) (v:Value) (H:Hp):Prop:=ops P r (d.env v e) (d.fr v f) H Q
inductive Ex where
 |n
 |x (id:Nat)
 |r
def Ex.to:Ex->Exit
 |.n=>.normal
 |.x id=>.exit id
 |.r=>.ret
inductive S where
 |skip
 |reg (l:List O)
 |dr (t:T)
 |seq (a b:S)
 |ite (c:A) (a b:S)
 |blk (id:Nat) (s:S)
 |loop (s:S)
 |exit (id:Nat)
 |ret
 |rf (g:Nat) (a:A) (p i:Nat) (body:S)
def RfH (P:Program) (v:Value) (H:Hp) (rnd:Value->(Ex->Fr->Hp->Prop)->Hp->Prop) (K:Ex->Hp->Prop):Prop:=
 ∃(gf:FuncId) (lb:Array Value) (xs:List Value) (G:Hp->Prop) (J:Nat->Hp->Prop) (X:Ex->Hp->Prop),
  (v=.func (.func gf) #[] lb/\bF P gf=true/\AJ P gf lb xs G)/\(∀k H',J k H'->G H')∧
  (∀H0:Hp,H0.size=H.size+2->(∀k,k<H.size->H0[k]?=H[k]?)->H0[H.size]?=some (.deferred (some []))->J 0 H0)∧
  ((∀k H1 H2,J k H1->fF (H.size+1) H1 H2->J k H2)/\∀e H1 H2,X e H1->fF (H.size+1) H1 H2->X e H2)∧
  (∀k H1,k<xs.length->J k H1->rnd (xs.getD k undef) (fun e _ H2=>H2[H.size+1]?=H1[H.size+1]?/\match e with|.n=>J (k+1) H2|e=>X e H2) H1)∧
  (∀H1,J xs.length H1->K .n H1)/\∀e H1,X e H1->K e H1
def mW:Value->List Nat
 |.tuple vs=>vs.toList.map fun v=>v.i.toNat
 |_=>[]
def nr (v:Value) (d:Nat):Value:=.tuple ((d::mW v).map fun m:Nat=>Value.int .i64 (m:Int)).toArray
def vR (N:Fr->Hp->Prop) (Q:Ex->Fr->Hp->Prop):Ex->Fr->Hp->Prop
 |.n,f,H=>N f H
 |e,f,H=>Q e f H
def oz (id:Nat) (Q:Ex->Fr->Hp->Prop):Ex->Fr->Hp->Prop
 |.x i,f,H=>if i=id then Q .n f H else Q (.x i) f H
 |e,f,H=>Q e f H
def rp (I:Nat->Fr->Hp->Prop) (n:Nat) (Q:Ex->Fr->Hp->Prop):Ex->Fr->Hp->Prop
 |.n,f,H=>∃m,m<n/\I m f H
 |e,f,H=>Q e f H
def vc (P:Program):S->(Ex->Fr->Hp->Prop)->Fr->Hp->Prop
 |.skip,Q,f,H=>Q .n f H
 |.reg l,Q,f,H=>ops P l [] f H (Q .n)
 |.dr t,Q,f,H=>∃C:Hp->Prop,C H/\vo P C t [] f H (Q .n)
 |.seq a b,Q,f,H=>vc P a (vR (vc P b Q) Q) f H
 |.ite c a b,Q,f,H=>Ev (c.rd [] f)/\((c.rd [] f).b=true->vc P a Q f H)/\((c.rd [] f).b=false->vc P b Q f H)
 |.blk id s,Q,f,H=>vc P s (oz id Q) f H
 |.loop s,Q,f,H=>∃I:Nat->Fr->Hp->Prop,(∃n,I n f H)/\∀n f' H',I n f' H'->vc P s (rp I n Q) f' H'
 |.exit id,Q,f,H=>Q (.x id) f H
 |.ret,Q,f,H=>Q .r f H
 |.rf g a p i body,Q,f,H=>RfH P (a.rd [] f) H (fun x Qb Hb=>vc P body Qb (bN (bN f p x) i x) Hb) (fun e H'=>Q e (bN f g (nr (f g) H.size)) H')
def xN (L e:List Nat):Operand->Option A
 |.tmp t=>if L.contains t then some (.v t)else if e.contains t then some (.t t)else none
 |.const v=>some (.c v)
 |.global g=>some (.c (.pointer (some ⟨g,0,none⟩)))
 |.func f=>some (.c (.func (.func f) #[] #[]))
def QF (L:List Nat) (n:Nat):Option Tmp->Option D
 |none=>some .no
 |some d=>if d<n then(if L.contains d then some (.v d)else some (.t d))else none
def D.more:D->List Nat->List Nat
 |.t n,e=>n::e
 |_,e=>e
def RA (L e:List Nat) (all:Array Oper):Option (Nat×Bool)->Option (Option (A×Bool))
 |none=>some none
 |some (j,b)=>match(all[j]?).bind (·.dst)with
  |some t=>(xN L e (.tmp t)).map fun a=>some (a,b)
  |none=>none
def iv (P:Program) (L:List Nat) (n:Nat) (all:Array Oper):List Oper->List Nat->Option (List O)
 |[],_=>some []
 |o::r,e=>
  (QF L n o.dst).bind fun d=>
  (RA L e all o.guard).bind fun g=>
  match px P (xN L e) o,g with
  |some x,none=>(iv P L n all r (d.more e)).map (.p d x::·)
  |some x,some (a,b)=>(iv P L n all r (d.more e)).map (.gp d a b x::·)
  |none,g=>(ex P (xN L e) o).bind fun x=>match g with
   |none=>(iv P L n all r (d.more e)).map (.e d x::·)
   |some (a,b)=>(iv P L n all r (d.more e)).map (.ge d a b x::·)
def O.pure:O->Bool
 |.p _ _|.gp _ _ _ _=>true
 |_=>false
def EJ (ops:Array Oper) (l:List O):Bool:=
 (Region.lexB .any ops&&l.all O.pure)||(List.range ops.size).any fun n=>(l.take n).all O.pure&&Region.lexTailB .any ops n
def Vz (fl:Bool) (P:Program) (tr:Operand->Option A) (o:Oper):Option EX:=
 match ex P tr o with
 |some x=>some x
 |none=>if fl then(px P tr o).map .rd else none
def addrOf (ops:Array Oper) (a:Operand):Option Oper:=match a with
 |.tmp t=>ops.find? fun o=>o.dst==some t
 |_=>none
def sameAddr (a b:Oper):Bool:=match a.op,b.op with
 |.fieldAddr t _ f,.fieldAddr t' _ f'=>t==t'&&f==f'
 |.indexAddr t _ _,.indexAddr t' _ _=>t==t'
 |_,_=>false
def I4 (ops:Array Oper) (x y:Oper):Bool:=match x.op,y.op with
 |.nilCheck a,.nilCheck b=>match addrOf ops a,addrOf ops b with
  |some p,some q=>match p.op,q.op with
   |.move (.tmp u),.move (.tmp v)=>u==v
   |_,_=>false
  |_,_=>false
 |_,_=>false
def I5 (a b:Operand):Bool:=match a,b with
 |.tmp u,.tmp v=>u==v
 |_,_=>false
def AK (ops:Array Oper) (o:Oper):Bool:=match o.op with
 |.load _ a=>match addrOf ops a with
  |some x=>ops.any fun s=>match s.op with
   |.store _ b _=>match addrOf ops b with
    |some y=>sameAddr x y||I4 ops x y
    |none=>false
   |_=>false
  |none=>ops.any fun s=>match s.op with
   |.store _ b _=>I5 a b
   |_=>false
 |.lookup _ _ _ false=>ops.any fun s=>match s.op with
  |.mapUpdate ..=>true
  |_=>false
 |_=>false
def NA (fl:Oper->Bool) (P:Program) (L:List Nat) (n:Nat) (all:Array Oper):Nat->Array Bool->List Nat->Option T
 |0,listed,_=>if Region.ready .any all listed=[]then some .done else none
 |k+1,listed,ks=>
  if Region.ready .any all listed=[]then some .done else
  match(Region.ready .any all listed).find? (fun i=>Region.free .any all listed i&&(all[i]?).any fun o=>(px P (xN L ks) o).any fun x=>!fl o||x.free)with
  |some i=>
   (all[i]?).bind fun o=>(QF L n o.dst).bind fun d=>(RA L ks all o.guard).bind fun g=>(px P (xN L ks) o).bind fun x=>
    (NA fl P L n all k (listed.setIfInBounds i true) (d.more ks)).map (.px d g x)
  |none=>
   (Region.ready .any all listed).foldr (fun i acc=>acc.bind fun m=>
    (all[i]?).bind fun o=>(QF L n o.dst).bind fun d=>(RA L ks all o.guard).bind fun g=>(Vz (fl o) P (xN L ks) o).bind fun x=>
     (NA fl P L n all k (listed.setIfInBounds i true) (d.more ks)).map fun t=>.wcons d g x t m) (some .wnil)
def Mi (ops:Array Oper):Bool:=
 (ops.any fun o=>match o.op with|.store ..=>true|_=>false)&&ops.all fun o=>match o.op with|.store ..|.load ..|.indexAddr ..|.move ..|.assign ..|.nilCheck ..|.fieldAddr ..|.binOp ..=>true|_=>false
def RB (P:Program) (L:List Nat) (n:Nat) (ops:Array Oper):Option S:=
 match(iv P L n ops ops.toList []).bind fun l=>if EJ ops l then some (S.reg l)else none with
 |some s=>some s
 |none=>if Region.noSelect ops then(NA (fun o=>Mi ops||AK ops o) P L n ops ops.size (Array.replicate ops.size false) []).map .dr else none
def trans (P:Program) (L:List Nat) (n:Nat):Code->Option S
 |.skip=>some .skip
 |.region _ ops draw=>if draw then RB P L n ops else(iv P L n ops ops.toList []).map .reg
 |.seq a b=>(trans P L n a).bind fun x=>(trans P L n b).map (.seq x ·)
 |.cond c a b=>(xN L [] c).bind fun c=>(trans P L n a).bind fun x=>(trans P L n b).map (.ite c x ·)
 |.block id c=>(trans P L n c).map (.blk id ·)
 |.loop c=>(trans P L n c).map .loop
 |.exit id=>some (.exit id)
 |.ret=>some .ret
 |_=>none
end Go.Mg
namespace Go.Mg
def kA (n m:Nat):O:=.p (.t n) (.mv (.v m))
def kB (n m:Nat):O:=.p (.v n) (.mv (.t m))
def kF (n m:Nat):O:=.p (.t n) (.mv (.t m))
def kC (n:Nat) (x:Value):O:=.p (.v n) (.mv (.c x))
def kD (n m:Nat):O:=.p (.t n) (.ld (.t m))
def ke (n x:Nat):O:=.p (.t n) (.ar .add .i64 (.v x) (.c (.int .i64 1)))
def kG (n i m:Nat):O:=.p (.t n) (.fa i (.v m))
def kH (n a b:Nat):O:=.p (.v n) (.cm .lss .i64 (.v a) (.v b))
def kI (n a b c:Nat):O:=.p (.t n) (.is a (.t b) (.t c))
def kK (n a b c:Nat):O:=.p (.t n) (.is a (.v b) (.v c))
def kJ (n a b:Nat):O:=.p (.t n) (.pick (.t a) (.t b) (.c (.bool false)))
def kL (n m:Nat):O:=.p (.t n) (.m (.lenl (.t m)))
def kM (n i m:Nat):O:=.p (.t n) (.m (.ldn i (.v m)))
def kN (n i m:Nat):O:=.p (.t n) (.m (.ldn i (.t m)))
def kO (n m:Nat):O:=.p (.v n) (.m (.lenl (.v m)))
def kP (n a b m:Nat) (x:Int):O:=.p (.t n) (.ia a b (.v m) (.c (.int .i64 x)))
def kQ (n m i:Nat):O:=.p (.t n) (.ext (.t m) i)
def kR (n:Nat) (x:TypeId) (m:Nat):O:=.e (.v n) (.box x (.v m))
def kS (n g:Nat) (b:Bool) (m:Nat):O:=.gp (.t n) (.t g) b (.mv (.v m))
def kT (n g:Nat) (b:Bool) (x:PX):O:=.gp (.t n) (.t g) b x
def kU (n:Nat) (x:PX):O:=.p (.t n) x
def kV (n:Nat) (x:PX):O:=.p (.v n) x
def kW (n:Nat) (x:PX) (r:T):T:=.px (.t n) none x r
def kX (n:Nat) (x:PX) (r:T):T:=.px (.v n) none x r
def ka (n:Nat) (x:EX) (t m:T):T:=.wcons (.t n) none x t m
def kb (x:EX) (t m:T):T:=.wcons .no none x t m
def kc (n:Nat) (x:EX):O:=.e (.t n) x
def kd (n:Nat) (x:EX):O:=.e (.v n) x
def kf (x:EX):O:=.e .no x
def kg (f:FuncId) (l:List A):EX:=.call f l
def kY (l:List O) (s:S):S:=.seq (.reg l) s
def kZ:Value:=.slice none 0 0
end Go.Mg

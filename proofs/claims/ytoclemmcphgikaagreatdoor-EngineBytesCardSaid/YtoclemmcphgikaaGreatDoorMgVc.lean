/- Lemmas of ours. No conditions. -/
import Derived.Test.YtoclemmcphgikaaGreatDoorMgSnd
import Derived.RangeFuncRecord
open Bool renaming false→ZS,true→ZT
open Go renaming Value→ZR
open Go.IntKind renaming i64→ZY,u8→ZX
open Go.Value renaming bool→Z5,int→Z8,pointer→Z7,slice→Z6,tuple→ZZ
open Option renaming none→ZU,some→ZV
open Array renaming replicate→Yz
namespace Go.Mg
open Go Go.RowKit
inductive EX where
 |st (a x:A)
 |stn (n:Nat) (a x:A)
 |new (T:TypeId) (z:Array ZR)
 |box (T:TypeId) (a:A)
 |call (f:FuncId) (args:List A)
 |callv (f:A) (args:List A)
 |cally (f:A) (args:List A)
 |lib (f:FuncId) (args:List A)
 |aX (T:TypeId) (size:Nat) (n:Nat) (parts:List A)
 |ae5 (T:TypeId) (n:Nat) (zs:Array ZR) (parts:List (Nat×Nat×A))
 |rJ (T:TypeId) (size bytes:Nat) (z:Array ZR) (l c:A)
 |app (str:Bool) (T:TypeId) (size bytes:Nat) (z:Array ZR) (s x:A)
 |cpy (str:Bool) (size:Nat) (d s:A)
 |clr (z:Array ZR) (a:A)
 |s2b (T:TypeId) (a:A)
 |mark (a:A)
 |rd (x:PX)
 |mup (m k v:A)
 |mui (kk:IntKind) (m k v:A)
 |mkm
 |bad
def bw (H:Hp) (v:ZR):Prop:=match v with|.pointer (ZV a)=>(cell H a).isSome=ZT/\tL H a=ZS|_=>False
def Uy (H:Hp) (v x:ZR):Hp:=match v with|.pointer (ZV a)=>az H a x|_=>H
def cP:ZR->Nat|.slice _ n _=>n|.string s=>s.size|_=>0
def byteCells (s:ByteArray):Array ZR:=s.data.map fun b=>Z8 ZX b.toNat
def tM (str:Bool) (v:ZR):Prop:=if str=ZT then pI v else aq v
def iV (H:Hp) (v:ZR) (k:Nat):Option (Array ZR):=
 match v with
 |.slice (ZV b) _ _=>if k=0 then ZV #[]else aQ H b k
 |.slice ZU _ _=>ZV #[]
 |.string s=>ZV (byteCells (s.extract 0 k))
 |_=>ZU
def bM (xs:Array ZR):Prop:=∀x∈xs.toList,x.oneCell'=ZT
def lK (H:Hp) (a:Option Addr) (off:Nat) (xs:Array ZR):Prop:=match a with|none=>True|some p=>bM xs/\(xs.size=0\/bG H (p.add off) xs.size)
def kq (H:Hp) (a:Option Addr) (off:Nat) (xs:Array ZR):Hp:=match a with|none=>H|some p=>if xs.size=0 then H else aB H (p.add off) xs.toList
def rep (z:Array ZR) (n:Nat):Array ZR:=(Array.range n).map fun i=>z[i % z.size]!
def Uz (H:Hp) (b:Nat) (n:Nat):Hp:=
 H.modify b fun
  |.cells c T (lo,hi)=>.cells c T (if lo==hi then(n,n+1)else(min lo n,max hi (n+1)))
  |o=>o
def Ei (H:Hp) (b:Nat):Option Nat:=match H[b]? with|some (.cells c _ _)=>ZV c.size|_=>ZU
def vm (es:Array MapEntry) (clock:Nat) (k v:ZR):Array MapEntry×Nat:=
 match es.toList.findIdx? (fun e=>k.i==e.key.i)with
 |some i=>(es.modify i fun e=>{e with key:=k,val:=v},clock)
 |none=>(es.push {key:=k,val:=v,born:=clock},clock+1)
def bS (P:Program) (f:FuncId):Bool:=match P.funcs[f]? with|some fn=>fn.body.isSome&&!(fn.name== "runtime.NumGoroutine")|none=>ZS
def ae6 (P:Program) (f:FuncId) (args:Array ZR) (H:Hp) (v:ZR) (H':Hp):Prop:=∀w:World,w.heap=H->(callFunc f args).run P w=.ok (.value v) {w with heap:=H'}
def jn (str:Bool) (T:TypeId) (size bytes:Nat) (z:Array ZR) (s x:ZR) (H:Hp) (K:ZR->Hp->Prop):Prop:=
  (aq s/\tM str x/\aW s+cP x<=maxLen/\(aW s+cP x)*bytes<=140737488355328)∧
  ∃news,iV H x (cP x*size)=ZV news∧
   (aW s+cP x<=iw s->lK H (iT s) (aW s*size) news∧
    K (.slice (iT s) (aW s+cP x) (iw s)) (kq H (iT s) (aW s*size) news))∧
   (iw s<aW s+cP x->∃olds,iV H s (aW s*size)=ZV olds/\∀c,aW s+cP x<=c→
    K (Z6 (ZV ⟨H.size,0,ZU⟩) (aW s+cP x) c) (H.push (.cells (olds++news++rep z ((c -(aW s+cP x))*z.size)) T)))
def vp (P:Program) (l:Nat) (args:Array ZR) (H:Hp) (K:ZR->Hp->Prop):Prop:=
 ∀w:World,w.heap=H->∃fn tmps UX body,(Instr.yield l args).run P w=.ok (.round l fn tmps UX body) w∧
  RoundIn Fence.wide 0 P l fn tmps UX body w fun e w'=>∃v,e=.returned v/\K v w'.heap/\bI w w'
theorem vp.mono {P:Program} {l:Nat} {args:Array ZR} {H:Hp} {K K':ZR->Hp->Prop} (h:vp P l args H K) (hk:∀v H',K v H'->K' v H'):vp P l args H K':=
 fun w hw=>let⟨fn,tmps,UX,body,h1,h2⟩:=h w hw;⟨fn,tmps,UX,body,h1,h2.mono fun _ _ ⟨v,e,k,s⟩=>⟨v,e,hk _ _ k,s⟩⟩
def Ld (P:Program) (gf:FuncId) (lb:Array ZR) (xs:List ZR) (G:Hp->Prop):Prop:=
 ∀(l:Nat) (J:Nat->Hp->Prop) (K:Hp->Prop),
  (∀k H,k<xs.length->J k H->vp P l #[xs.getD k undef] H fun v H'=>(v=Z5 ZT/\J (k+1) H')\/(v=Z5 ZS/\K H'))→
  (∀k H,J k H->G H)->∀H,J 0 H→
   ∀w:World,w.heap=H->Calls P gf (#[.func (.yield l) #[] #[]]++lb) w fun e w'=>∃v,e=.returned v/\bI w w'/\(J xs.length w'.heap\/K w'.heap)
def i6 (l:Nat) (H H':Hp):Prop:=H'.size=H.size/\∀k,k≠l->H'[k]?=H[k]?
def EX.wp (P:Program):EX->(A->ZR)->Hp->(ZR->Hp->Prop)->Prop
 |.st a x,r,H,K=>(bw H (r a)/\(r x).oneCell'=ZT)/\K undef (Uy H (r a) (r x))
 |.stn n a x,r,H,K=>(okN H (r a) n/\(r x).cells.size=n/\bM (r x).cells)/\K undef (ML H (r a) (r x).cells.toList)
 |.new T z,_,H,K=>K (Z7 (ZV ⟨H.size,0,ZU⟩)) (H.push (.cells z T))
 |.box T a,r,H,K=>K (Z7 (ZV ⟨H.size,0,ZU⟩)) (H.push (.cells (r a).cells T))
 |.call f args,r,H,K=>an P f (args.map r).toArray H K
 |.callv f args,r,H,K=>match r f with
  |.func (.func g) fi ca=>bS P g=ZT/\an P g (fi++(args.map r).toArray++ca) H K
  |_=>False
 |.cally f args,r,H,K=>∃l,r f=.func (.yield l) #[] #[]/\vp P l (args.map r).toArray H K
 |.lib f args,r,H,K=>∃v H',ae6 P f (args.map r).toArray H v H'/\K v H'
 |.aX T size n parts,r,H,K=>(∀a∈parts,(r a).cells.size=size)/\K (Z6 (ZV ⟨H.size,0,ZU⟩) n n) (H.push (.cells (parts.flatMap fun a=>(r a).cells.toList).toArray T))
 |.ae5 T n zs ps,r,H,K=>eJ r zs.size ps/\K (Z6 (ZV ⟨H.size,0,ZU⟩) n n) (H.push (.cells (gq r zs ps) T))
 |.rJ T size bytes z l c,r,H,K=>(isInt (r l)/\isInt (r c)/\0<=(r l).i/\(r l).i<=(r c).i/\bytes*(r c).i<=281474976710656/\(r c).i<=maxLen)∧
   K (Z6 (ZV ⟨H.size,0,ZU⟩) (r l).i.toNat (r c).i.toNat) (H.push (.cells (rep z ((r c).i.toNat*size)) T))
 |.app str T size bytes z s x,r,H,K=>jn str T size bytes z (r s) (r x) H K
 |.cpy str size d s,r,H,K=>(aq (r d)/\tM str (r s))∧
  ∃news,iV H (r s) (min (cP (r s)) (aW (r d))*size)=ZV news/\lK H (iT (r d)) 0 news/\K (Z8 ZY (min (cP (r s)) (aW (r d)):Nat)) (kq H (iT (r d)) 0 news)
 |.clr z a,r,H,K=>aq (r a)/\lK H (iT (r a)) 0 (rep z (aW (r a)*z.size))/\K (ZZ #[]) (kq H (iT (r a)) 0 (rep z (aW (r a)*z.size)))
 |.s2b T a,r,H,K=>pI (r a)/\∀c,(r a).s.size<=c→
   K (Z6 (ZV ⟨H.size,0,ZU⟩) (r a).s.size c) (H.push (.cells (byteCells (r a).s++Yz (c -(r a).s.size) (Z8 ZX 0)) T (c,c+1)))
 |.rd x,r,H,K=>x.pre r H/\K (x.val r H) H
 |.mup m k v,r,H,K=>pI (r k)/\∃b es clock,r m=.map (ZV b)/\H[b]?=ZV (.map es clock)/\(∀e∈es.toList,pI e.key/\((r k).s==e.key.s)=ZS)/\K undef (H.setIfInBounds b (.map (es.push {key:=r k,val:=r v,born:=clock}) (clock+1)))
 |.mui kk m k v,r,H,K=>ju kk (r k)/\∃b es clock,r m=.map (ZV b)/\H[b]?=ZV (.map es clock)/\(∀e∈es.toList,ju kk e.key)/\K undef (H.setIfInBounds b (.map (vm es clock (r k) (r v)).1 (vm es clock (r k) (r v)).2))
 |.mkm,_,H,K=>K (.map (ZV H.size)) (H.push (.map #[] 0))
 |.bad,_,_,_=>False
 |.mark a,r,H,K=>match r a with
  |.slice (ZV p) _ _=>match Ei H p.block with
   |some n=>K (r a) (Uz H p.block n)
   |none=>K (r a) H
  |_=>False
def yf (tr:Operand->Option A):List Operand->Option (List A)
 |[]=>ZV []
 |x::l=>do pure ((←tr x)::(←yf tr l))
def pR (k:Nat):List (Nat×Operand)->Bool
 |[]=>ZT
 |(i,_)::l=>i==k&&pR (k+1) l
def ahi (P:Program) (e:TypeId):Bool:=match P.underlying e with|some (.int ZX)=>ZT|_=>ZS
def PG (P:Program) (tr:Operand->Option A) (c:Call):Option EX:=
 match c.callee with
 |.value (.func f)=>if bS P f=ZT then(yf tr c.args.toList).map (.call f)else(yf tr c.args.toList).map (.lib f)
 |.value f=>(tr f).bind fun g=>(yf tr c.args.toList).map (.callv g)
 |.builtin .append=>
  match c.args.toList,c.argTypes.toList with
  |[s,x],[t,u]=>(tr s).bind fun s=>(tr x).bind fun x=>
   match P.underlying t with
   |some (.slice e)=>(P.info? e).bind fun i=>i.zero.bind fun z=>
    if i.size=z.cells.size then
     match P.underlying u with
     |some (.slice _)=>ZV (.app ZS e i.size i.bytes z.cells s x)
     |some .string=>if i.size=1 then ZV (.app ZT e i.size i.bytes z.cells s x)else ZU
     |_=>ZU
    else ZU
   |_=>ZU
  |_,_=>ZU
 |.builtin .copy=>
  match c.args.toList,c.argTypes.toList with
  |[d,s],[t,u]=>(tr d).bind fun d=>(tr s).bind fun s=>
   match P.underlying t with
   |some (.slice e)=>if(P.info? e).isSome then
     match P.underlying u with
     |some (.slice _)=>ZV (.cpy ZS (P.cellsOf e) d s)
     |some .string=>if P.cellsOf e=1 then ZV (.cpy ZT (P.cellsOf e) d s)else ZU
     |_=>ZU
    else ZU
   |_=>ZU
  |_,_=>ZU
 |.builtin .clear=>
  match c.args.toList,c.argTypes.toList with
  |[s],[t]=>(tr s).bind fun s=>
   match P.underlying t with
   |some (.slice e)=>(P.info? e).bind fun i=>i.zero.bind fun z=>ZV (.clr z.cells s)
   |_=>ZU
  |_,_=>ZU
 |_=>ZU
def ex (P:Program) (tr:Operand->Option A) (o:Oper):Option EX:=
 match o.op with
 |.store t x y=>(tr x).bind fun a=>(tr y).bind fun b=>
  if F7 P t then ZV (.stn (P.cellsOf t) a b)else if P.cellsOf t=1 then(if rH P t then ZV (.st a b)else ZU)else ZU
 |.alloc t=>match(P.info? t).bind (·.zero)with
  |some z=>ZV (.new t z.cells)
  |none=>ZU
 |.box t x=>(tr x).map (.box t)
 |.buildSlice t len parts=>
  match P.underlying t with
  |some (.slice e)=>(P.info? e).bind fun i=>i.zero.bind fun z=>
   if len=0/\parts.toList.isEmpty=ZT then ZV (.aX e i.size 0 [])else
   if len*i.size<=16777216/\0<len*i.size then
    if pR 0 parts.toList&&parts.size==len then(yf tr (parts.toList.map (·.2))).map (.aX e i.size len)
    else(gS tr (fun k=>ZV (k*i.size,i.size)) parts.toList).map (.ae5 e len (rep z.cells (len*i.size)))
   else ZU
  |_=>ZU
 |.makeSlice t l c=>(tr l).bind fun l=>(tr c).bind fun c=>
  match P.underlying t with
  |some (.slice e)=>(P.info? e).bind fun i=>i.zero.bind fun z=>ZV (.rJ e i.size i.bytes z.cells l c)
  |_=>ZU
 |.convert s t x=>(tr x).bind fun a=>
  match P.underlying s,P.underlying t with
  |some .string,ZV (.slice e)=>match P.underlying e with
   |some (.int ZX)=>ZV (.s2b e a)
   |_=>ZU
  |some (.slice _),ZV (.slice e)=>if s=t/\ahi P e=ZT then ZV (.mark a)else ZU
  |_,_=>ZU
 |.call c=>PG P tr c
 |.mapUpdate t m k v=>(tr m).bind fun m=>(tr k).bind fun k=>(tr v).bind fun v=>
  match P.underlying t with
  |some (.map q _)=>match P.underlying q with
   |some .string=>ZV (.mup m k v)
   |some (.int kk)=>ZV (.mui kk m k v)
   |_=>ZU
  |_=>ZU
 |.makeMap _ ZU=>ZV .mkm
 |.panic _=>ZV .bad
 |_=>ZU
inductive O where
 |p (d:D) (x:PX)
 |e (d:D) (x:EX)
 |gp (d:D) (g:A) (b:Bool) (x:PX)
 |ge (d:D) (g:A) (b:Bool) (x:EX)
def gb:ZR->Bool->Bool
 |.bool x,b=>x==b
 |_,_=>ZS
def ops (P:Program):List O->Env->Fr->Hp->(Fr->Hp->Prop)->Prop
 |[],_,f,H,Q=>Q f H
 |.p d x::r,e,f,H,Q=>x.pre (A.rd e f) H/\ops P r (d.env (x.val (A.rd e f) H) e) (d.fr (x.val (A.rd e f) H) f) H Q
 |.e d x::r,e,f,H,Q=>x.wp P (A.rd e f) H (fun v H'=>ops P r (d.env v e) (d.fr v f) H' Q)
 |.gp d g b x::r,e,f,H,Q=>(gb (g.rd e f) b=ZT->x.pre (A.rd e f) H)∧
   ops P r (d.env (if gb (g.rd e f) b=ZT then x.val (A.rd e f) H else undef) e) (d.fr (if gb (g.rd e f) b=ZT then x.val (A.rd e f) H else undef) f) H Q
 |.ge d g b x::r,e,f,H,Q=>(gb (g.rd e f) b=ZT->x.wp P (A.rd e f) H (fun v H'=>ops P r (d.env v e) (d.fr v f) H' Q))∧
   (gb (g.rd e f) b=ZS->ops P r (d.env undef e) (d.fr undef f) H Q)
inductive T where
 |done
 |px (d:D) (g:Option (A×Bool)) (x:PX) (t:T)
 |wcons (d:D) (g:Option (A×Bool)) (x:EX) (t more:T)
 |wnil
def PX.free:PX->Bool
 |.ld _=>ZS
 |.m q=>q.free
 |_=>ZT
def Pe (g:Option (A×Bool)) (e:Env) (f:Fr):Bool:=match g with|none=>ZT|some (x,b)=>gb (x.rd e f) b
def DN (P:Program):(Hp->Prop)->T->Env->Fr->Hp->(Fr->Hp->Prop)->Prop
 |_,.done,_,f,H,Q=>Q f H
 |C,.px d ZU x t,e,f,H,Q=>(if x.free=ZT then x.pre (A.rd e f) H else∀H',C H'->x.pre (A.rd e f) H'/\x.val (A.rd e f) H'=x.val (A.rd e f) H)∧
   DN P C t (d.env (x.val (A.rd e f) H) e) (d.fr (x.val (A.rd e f) H) f) H Q
 |C,.px d (ZV (y,b)) x t,e,f,H,Q=>(gb (y.rd e f) b=ZT->if x.free=ZT then x.pre (A.rd e f) H else∀H',C H'->x.pre (A.rd e f) H'/\x.val (A.rd e f) H'=x.val (A.rd e f) H)∧
   DN P C t (d.env (if gb (y.rd e f) b=ZT then x.val (A.rd e f) H else undef) e) (d.fr (if gb (y.rd e f) b=ZT then x.val (A.rd e f) H else undef) f) H Q
 |C,.wcons d ZU x t m,e,f,H,Q=>x.wp P (A.rd e f) H (fun v H'=>∃C':Hp->Prop,(∀K,C' K->C K)/\C' H'/\DN P C' t (d.env v e) (d.fr v f) H' Q)/\DN P C m e f H Q
 |C,.wcons d (ZV (y,b)) x t m,e,f,H,Q=>((gb (y.rd e f) b=ZT->x.wp P (A.rd e f) H (fun v H'=>∃C':Hp->Prop,(∀K,C' K->C K)/\C' H'/\DN P C' t (d.env v e) (d.fr v f) H' Q))∧
   (gb (y.rd e f) b=ZS->DN P C t (d.env undef e) (d.fr undef f) H Q))/\DN P C m e f H Q
 |_,.wnil,_,_,_,_=>True
def zG (P:Program) (d:D) (r:List O) (e:Env) (f:Fr) (Q:Fr->Hp->Prop) (v:ZR) (H:Hp):Prop:=ops P r (d.env v e) (d.fr v f) H Q
inductive Ex where
 |n
 |x (id:Nat)
 |r
def Ex.to:Ex->Exit
 |.n=>.normal
 |.x id=>.exit id
 |.r=>.ret
inductive S where
 |skip
 |reg (l:List O)
 |dr (t:T)
 |seq (a b:S)
 |ite (c:A) (a b:S)
 |blk (id:Nat) (s:S)
 |loop (s:S)
 |exit (id:Nat)
 |ret
 |rf (g:Nat) (a:A) (p i:Nat) (body:S)
def RfH (P:Program) (v:ZR) (H:Hp) (rnd:ZR->(Ex->Fr->Hp->Prop)->Hp->Prop) (K:Ex->Hp->Prop):Prop:=
 ∃(gf:FuncId) (lb:Array ZR) (xs:List ZR) (G:Hp->Prop) (J:Nat->Hp->Prop) (X:Ex->Hp->Prop),
  (v=.func (.func gf) #[] lb/\bS P gf=ZT/\Ld P gf lb xs G)/\(∀k H',J k H'->G H')∧
  (∀H0:Hp,H0.size=H.size+2->(∀k,k<H.size->H0[k]?=H[k]?)->H0[H.size]?=ZV (.deferred (ZV []))->J 0 H0)∧
  ((∀k H1 H2,J k H1->i6 (H.size+1) H1 H2->J k H2)/\∀e H1 H2,X e H1->i6 (H.size+1) H1 H2->X e H2)∧
  (∀k H1,k<xs.length->J k H1->rnd (xs.getD k undef) (fun e _ H2=>H2[H.size+1]?=H1[H.size+1]?/\match e with|.n=>J (k+1) H2|e=>X e H2) H1)∧
  (∀H1,J xs.length H1->K .n H1)/\∀e H1,X e H1->K e H1
def l8:ZR->List Nat
 |.tuple vs=>vs.toList.map fun v=>v.i.toNat
 |_=>[]
def pS (v:ZR) (d:Nat):ZR:=.tuple ((d::l8 v).map fun m:Nat=>Value.int ZY (m:Int)).toArray
def yB (N:Fr->Hp->Prop) (Q:Ex->Fr->Hp->Prop):Ex->Fr->Hp->Prop
 |.n,f,H=>N f H
 |e,f,H=>Q e f H
def uj (id:Nat) (Q:Ex->Fr->Hp->Prop):Ex->Fr->Hp->Prop
 |.x i,f,H=>if i=id then Q .n f H else Q (.x i) f H
 |e,f,H=>Q e f H
def vq (I:Nat->Fr->Hp->Prop) (n:Nat) (Q:Ex->Fr->Hp->Prop):Ex->Fr->Hp->Prop
 |.n,f,H=>∃m,m<n/\I m f H
 |e,f,H=>Q e f H
def vc (P:Program):S->(Ex->Fr->Hp->Prop)->Fr->Hp->Prop
 |.skip,Q,f,H=>Q .n f H
 |.reg l,Q,f,H=>ops P l [] f H (Q .n)
 |.dr t,Q,f,H=>∃C:Hp->Prop,C H/\DN P C t [] f H (Q .n)
 |.seq a b,Q,f,H=>vc P a (yB (vc P b Q) Q) f H
 |.ite c a b,Q,f,H=>Pu (c.rd [] f)/\((c.rd [] f).b=ZT->vc P a Q f H)/\((c.rd [] f).b=ZS->vc P b Q f H)
 |.blk id s,Q,f,H=>vc P s (uj id Q) f H
 |.loop s,Q,f,H=>∃I:Nat->Fr->Hp->Prop,(∃n,I n f H)/\∀n f' H',I n f' H'->vc P s (vq I n Q) f' H'
 |.exit id,Q,f,H=>Q (.x id) f H
 |.ret,Q,f,H=>Q .r f H
 |.rf g a p i body,Q,f,H=>RfH P (a.rd [] f) H (fun x Qb Hb=>vc P body Qb (bR (bR f p x) i x) Hb) (fun e H'=>Q e (bR f g (pS (f g) H.size)) H')
def FX (L e:List Nat):Operand->Option A
 |.tmp t=>if L.contains t then ZV (.v t)else if e.contains t then ZV (.t t)else ZU
 |.const v=>ZV (.c v)
 |.global g=>ZV (.c (Z7 (ZV ⟨g,0,ZU⟩)))
 |.func f=>ZV (.c (.func (.func f) #[] #[]))
def trD (L:List Nat) (n:Nat):Option Tmp->Option D
 |none=>ZV .no
 |some d=>if d<n then(if L.contains d then ZV (.v d)else ZV (.t d))else ZU
def D.more:D->List Nat->List Nat
 |.t n,e=>n::e
 |_,e=>e
def trG (L e:List Nat) (all:Array Oper):Option (Nat×Bool)->Option (Option (A×Bool))
 |none=>ZV ZU
 |some (j,b)=>match(all[j]?).bind (·.dst)with
  |some t=>(FX L e (.tmp t)).map fun a=>ZV (a,b)
  |none=>ZU
def lM (P:Program) (L:List Nat) (n:Nat) (all:Array Oper):List Oper->List Nat->Option (List O)
 |[],_=>ZV []
 |o::r,e=>
  (trD L n o.dst).bind fun d=>
  (trG L e all o.guard).bind fun g=>
  match px P (FX L e) o,g with
  |some x,ZU=>(lM P L n all r (d.more e)).map (.p d x::·)
  |some x,ZV (a,b)=>(lM P L n all r (d.more e)).map (.gp d a b x::·)
  |none,g=>(ex P (FX L e) o).bind fun x=>match g with
   |none=>(lM P L n all r (d.more e)).map (.e d x::·)
   |some (a,b)=>(lM P L n all r (d.more e)).map (.ge d a b x::·)
def O.pure:O->Bool
 |.p _ _|.gp _ _ _ _=>ZT
 |_=>ZS
def PH (ops:Array Oper) (l:List O):Bool:=
 (Region.lexB .any ops&&l.all O.pure)||(List.range ops.size).any fun n=>(l.take n).all O.pure&&Region.lexTailB .any ops n
def exq (fl:Bool) (P:Program) (tr:Operand->Option A) (o:Oper):Option EX:=
 match ex P tr o with
 |some x=>ZV x
 |none=>if fl then(px P tr o).map .rd else ZU
def addrOf (ops:Array Oper) (a:Operand):Option Oper:=match a with
 |.tmp t=>ops.find? fun o=>o.dst==ZV t
 |_=>ZU
def sameAddr (a b:Oper):Bool:=match a.op,b.op with
 |.fieldAddr t _ f,.fieldAddr t' _ f'=>t==t'&&f==f'
 |.indexAddr t _ _,.indexAddr t' _ _=>t==t'
 |_,_=>ZS
def UY (ops:Array Oper) (x y:Oper):Bool:=match x.op,y.op with
 |.nilCheck a,.nilCheck b=>match addrOf ops a,addrOf ops b with
  |some p,ZV q=>match p.op,q.op with
   |.move (.tmp u),.move (.tmp v)=>u==v
   |_,_=>ZS
  |_,_=>ZS
 |_,_=>ZS
def UZ (a b:Operand):Bool:=match a,b with
 |.tmp u,.tmp v=>u==v
 |_,_=>ZS
def ad3 (ops:Array Oper) (o:Oper):Bool:=match o.op with
 |.load _ a=>match addrOf ops a with
  |some x=>ops.any fun s=>match s.op with
   |.store _ b _=>match addrOf ops b with
    |some y=>sameAddr x y||UY ops x y
    |none=>ZS
   |_=>ZS
  |none=>ops.any fun s=>match s.op with
   |.store _ b _=>UZ a b
   |_=>ZS
 |.lookup _ _ _ ZS=>ops.any fun s=>match s.op with
  |.mapUpdate ..=>ZT
  |_=>ZS
 |_=>ZS
def trT (fl:Oper->Bool) (P:Program) (L:List Nat) (n:Nat) (all:Array Oper):Nat->Array Bool->List Nat->Option T
 |0,listed,_=>if Region.ready .any all listed=[]then ZV .done else ZU
 |k+1,listed,ks=>
  if Region.ready .any all listed=[]then ZV .done else
  match(Region.ready .any all listed).find? (fun i=>Region.free .any all listed i&&(all[i]?).any fun o=>(px P (FX L ks) o).any fun x=>!fl o||x.free)with
  |some i=>
   (all[i]?).bind fun o=>(trD L n o.dst).bind fun d=>(trG L ks all o.guard).bind fun g=>(px P (FX L ks) o).bind fun x=>
    (trT fl P L n all k (listed.setIfInBounds i ZT) (d.more ks)).map (.px d g x)
  |none=>
   (Region.ready .any all listed).foldr (fun i acc=>acc.bind fun m=>
    (all[i]?).bind fun o=>(trD L n o.dst).bind fun d=>(trG L ks all o.guard).bind fun g=>(exq (fl o) P (FX L ks) o).bind fun x=>
     (trT fl P L n all k (listed.setIfInBounds i ZT) (d.more ks)).map fun t=>.wcons d g x t m) (ZV .wnil)
def ad4 (ops:Array Oper):Bool:=
 (ops.any fun o=>match o.op with|.store ..=>ZT|_=>ZS)&&ops.all fun o=>match o.op with|.store ..|.load ..|.indexAddr ..|.move ..|.assign ..|.nilCheck ..|.fieldAddr ..|.binOp ..=>ZT|_=>ZS
def ahj (P:Program) (L:List Nat) (n:Nat) (ops:Array Oper):Option S:=
 match(lM P L n ops ops.toList []).bind fun l=>if PH ops l then ZV (S.reg l)else ZU with
 |some s=>ZV s
 |none=>if Region.noSelect ops then(trT (fun o=>ad4 ops||ad3 ops o) P L n ops ops.size (Yz ops.size ZS) []).map .dr else ZU
def trans (P:Program) (L:List Nat) (n:Nat):Code->Option S
 |.skip=>ZV .skip
 |.region _ ops draw=>if draw then ahj P L n ops else(lM P L n ops ops.toList []).map .reg
 |.seq a b=>(trans P L n a).bind fun x=>(trans P L n b).map (.seq x ·)
 |.cond c a b=>(FX L [] c).bind fun c=>(trans P L n a).bind fun x=>(trans P L n b).map (.ite c x ·)
 |.block id c=>(trans P L n c).map (.blk id ·)
 |.loop c=>(trans P L n c).map .loop
 |.exit id=>ZV (.exit id)
 |.ret=>ZV .ret
 |_=>ZU
end Go.Mg
namespace Go.Mg
def kA (n m:Nat):O:=.p (.t n) (.mv (.v m))
def kB (n m:Nat):O:=.p (.v n) (.mv (.t m))
def kF (n m:Nat):O:=.p (.t n) (.mv (.t m))
def kC (n:Nat) (x:ZR):O:=.p (.v n) (.mv (.c x))
def kD (n m:Nat):O:=.p (.t n) (.ld (.t m))
def ke (n x:Nat):O:=.p (.t n) (.ar .add ZY (.v x) (.c (Z8 ZY 1)))
def kG (n i m:Nat):O:=.p (.t n) (.fa i (.v m))
def kH (n a b:Nat):O:=.p (.v n) (.cm .lss ZY (.v a) (.v b))
def kI (n a b c:Nat):O:=.p (.t n) (.is a (.t b) (.t c))
def kK (n a b c:Nat):O:=.p (.t n) (.is a (.v b) (.v c))
def kJ (n a b:Nat):O:=.p (.t n) (.pick (.t a) (.t b) (.c (Z5 ZS)))
def kL (n m:Nat):O:=.p (.t n) (.m (.lenl (.t m)))
def kM (n i m:Nat):O:=.p (.t n) (.m (.ldn i (.v m)))
def kN (n i m:Nat):O:=.p (.t n) (.m (.ldn i (.t m)))
def kO (n m:Nat):O:=.p (.v n) (.m (.lenl (.v m)))
def kP (n a b m:Nat) (x:Int):O:=.p (.t n) (.ia a b (.v m) (.c (Z8 ZY x)))
def kQ (n m i:Nat):O:=.p (.t n) (.ext (.t m) i)
def kR (n:Nat) (x:TypeId) (m:Nat):O:=.e (.v n) (.box x (.v m))
def kS (n g:Nat) (b:Bool) (m:Nat):O:=.gp (.t n) (.t g) b (.mv (.v m))
def kT (n g:Nat) (b:Bool) (x:PX):O:=.gp (.t n) (.t g) b x
def kU (n:Nat) (x:PX):O:=.p (.t n) x
def kV (n:Nat) (x:PX):O:=.p (.v n) x
def kW (n:Nat) (x:PX) (r:T):T:=.px (.t n) ZU x r
def kX (n:Nat) (x:PX) (r:T):T:=.px (.v n) ZU x r
def ka (n:Nat) (x:EX) (t m:T):T:=.wcons (.t n) ZU x t m
def kb (x:EX) (t m:T):T:=.wcons .no ZU x t m
def kc (n:Nat) (x:EX):O:=.e (.t n) x
def kd (n:Nat) (x:EX):O:=.e (.v n) x
def kf (x:EX):O:=.e .no x
def kg (f:FuncId) (l:List A):EX:=.call f l
def kY (l:List O) (s:S):S:=.seq (.reg l) s
def kZ:ZR:=Z6 ZU 0 0
end Go.Mg

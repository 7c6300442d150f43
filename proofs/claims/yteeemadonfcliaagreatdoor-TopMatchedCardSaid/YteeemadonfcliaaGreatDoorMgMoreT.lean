/- Lemmas of ours. No conditions. -/
import Derived.Test.YteeemadonfcliaaGreatDoorMgMem0
import Derived.Laws.BytesString
namespace Go.Mg
open Go Go.RowKit
inductive NK where
 |ptr|sl|mp|fn|ifc
inductive PM where
 |ldn (n:Nat) (a:A)
 |eqn (k:NK) (n:Bool) (a:A)
 |eqp (n:Bool) (a b:A)
 |eqa (n:Bool) (k:IntKind) (len:Nat) (a b:A)
 |sla (len size:Nat) (a:A) (lo hi:Option A)
 |sls (size:Nat) (a:A) (lo hi:Option A)
 |slt (a:A) (lo hi:Option A)
 |lens (a:A)
 |lenl (a:A)
 |lenc (n:Nat)
 |capl (a:A)
 |mn (a b:A)
 |mx (a b:A)
 |ix (n:Nat) (a i:A)
 |ixn (n size:Nat) (a i:A)
 |ixs (a i:A)
 |fld (off:Nat) (a:A)
 |fldn (off size:Nat) (a:A)
 |slm (size:Nat) (a:A) (lo:Option A) (hi mx:A)
 |b2s (a:A)
 |jA (zero:Array Value) (parts:List (Nat×Nat×A))
 |mkf (g:FuncId) (first cap:List A)
 |lks (zero:Value) (ok:Bool) (m k:A)
 |lki (kk:IntKind) (zero:Value) (m k:A)
 |mif (t:TypeId) (a:A)
 |tas (t:TypeId) (a:A)
 |eqs (n:Bool) (fs:List (Nat×Option IntKind)) (a b:A)
 |mxs (a:A) (l:List A)
def vB:NK->Value->Prop
 |.ptr,.pointer _=>True
 |.sl,.slice _ _ _=>True
 |.mp,.map _=>True
 |.fn,.func _ _ _=>True
 |.fn,.nilFunc=>True
 |.ifc,.nilIface=>True
 |.ifc,.iface _ _=>True
 |_,_=>False
def eD:Value->Bool
 |.pointer none|.slice none _ _|.map none|.nilFunc|.nilIface=>true
 |_=>false
def Ew:Value->Prop|.pointer _=>True|_=>False
def oq:Value->Prop|.agg _=>True|_=>False
def _root_.Go.Value.g:Value->Array Value|.agg cs=>cs|_=>#[]
def ax:Value->Prop|.slice _ _ _=>True|_=>False
def aP:Value->Nat|.slice _ n _=>n|_=>0
def eO:Value->Nat|.slice _ _ c=>c|_=>0
def fC:Value->Option Addr|.slice a _ _=>a|_=>none
def oi (r:A->Value) (x:Option A):Option Int:=x.map fun a=>(r a).i
def Ey (r:A->Value):Option A->Prop
 |none=>True
 |some a=>isInt (r a)
def Ez (len cap:Nat):Option Int->Option Int->Prop
 |none,none=>True
 |some l,none=>0<=l/\l<=len
 |none,some h=>0<=h/\h<=cap
 |some l,some h=>0<=l/\l<=h/\h<=cap
def kj (lo:Option Int):Nat:=(lo.getD 0).toNat
def xM (len:Nat) (hi:Option Int):Nat:=match hi with|none=>len|some h=>h.toNat
def vl (v:Value) (size:Nat) (lo hi:Option Int):Value:=
 match v with
 |.slice a l c=>.slice (if c=kj lo then a else a.map (·.add (kj lo*size))) (xM l hi -kj lo) (c -kj lo)
 |v=>v
def Np (v:Value) (n size:Nat) (lo hi:Option Int):Value:=
 match v with
 |.pointer (some a)=>.slice (some (if n=kj lo then a else a.add (kj lo*size))) (xM n hi -kj lo) (n -kj lo)
 |v=>v
def eN (r:A->Value):Array Value->List (Nat×Nat×A)->Array Value
 |C,[]=>C
 |C,(off,_,a)::l=>eN r (gQ C off (r a).cells.toList) l
def eE (r:A->Value) (n:Nat):List (Nat×Nat×A)->Prop
 |[]=>True
 |(off,size,a)::l=>(r a).cells.size=size/\off+size<=n/\eE r n l
def cg (H:Hp) (v:Value):Option (Array Value):=
 match v with
 |.slice (some b) n _=>if n=0 then some #[]else aR H b n
 |.slice none _ _=>some #[]
 |_=>none
def AB (H:Hp) (v:Value):Prop:=∃xs,cg H v=some xs/\∀x∈xs.toList,fB .u8 x
def toBA (xs:Array Value):ByteArray:=⟨xs.map fun v=>UInt8.ofNat v.i.toNat⟩
def Nq (v:Value) (size l h m:Nat):Value:=match v with
 |.slice a _ _=>.slice (if m=l then a else a.map (·.add (l*size))) (h -l) (m -l)
 |v=>v
def u8T (P:Program) (e:TypeId):Bool:=match P.underlying e with|some (.int .u8)=>true|_=>false
def dh (H:Hp) (v:Value):Option (List MapEntry):=
 match v with
 |.map none=>some []
 |.map (some b)=>match H[b]? with|some (.map es _)=>some es.toList|_=>none
 |_=>none
def iq (k:ByteArray) (es:List MapEntry):Option Value:=(es.find? fun e=>k==e.key.s).map (·.val)
def isIf (t:TypeId) (v:Value):Prop:=match v with|.iface u _=>u=t|_=>False
def ifV (v:Value):Value:=match v with|.iface _ x=>x|_=>undef
def fj (k:Int) (es:List MapEntry):Option Value:=(es.find? fun e=>k==e.key.i).map (·.val)
def gL:Value->List Value|.agg cs=>cs.toList|_=>[]
def xT:List (Nat×Option IntKind)->List Value->Prop
 |[],_=>True
 |(o,some k)::l,xs=>(o<xs.length/\fB k (xs.getD o undef))/\xT l xs
 |(o,none)::l,xs=>(o<xs.length/\j9 (xs.getD o undef))/\xT l xs
def vC:List (Nat×Option IntKind)->List Value->List Value->Bool
 |[],_,_=>true
 |(o,some _)::l,xs,ys=>((xs.getD o undef).i==(ys.getD o undef).i)&&vC l xs ys
 |(o,none)::l,xs,ys=>((xs.getD o undef).s.toList==(ys.getD o undef).s.toList)&&vC l xs ys
def Mh (m:Int):List Int->Int
 |[]=>m
 |x::l=>Mh (if x>m then x else m) l
def PM.pre:PM->(A->Value)->Hp->Prop
 |.ldn n a,r,H=>(aI H (r a) n).isSome=true
 |.eqn k _ a,r,_=>vB k (r a)
 |.eqp _ a b,r,_=>Ew (r a)/\Ew (r b)/\(eD (r a)=true\/eD (r b)=true)
 |.eqa _ k n a b,r,_=>oq (r a)/\oq (r b)/\(r a).g.size=n/\(r b).g.size=n/\(∀x∈(r a).g,fB k x)/\(∀x∈(r b).g,fB k x)
 |.sla len _ a lo hi,r,_=>Nn (r a)/\Ey r lo/\Ey r hi/\Ez len len (oi r lo) (oi r hi)
 |.sls _ a lo hi,r,_=>ax (r a)/\Ey r lo/\Ey r hi/\Ez (aP (r a)) (eO (r a)) (oi r lo) (oi r hi)
 |.slt a lo hi,r,_=>j9 (r a)/\Ey r lo/\Ey r hi/\Ez (r a).s.size (r a).s.size (oi r lo) (oi r hi)
 |.lens a,r,_=>j9 (r a)
 |.lenl a,r,_=>ax (r a)
 |.lenc _,_,_=>True
 |.capl a,r,_=>ax (r a)
 |.mn a b,r,_=>isInt (r a)/\isInt (r b)
 |.mx a b,r,_=>isInt (r a)/\isInt (r b)
 |.ix n a i,r,_=>oq (r a)/\isInt (r i)/\0<=(r i).i/\(r i).i<n/\(r i).i.toNat<(r a).g.size
 |.ixn n _ a i,r,_=>oq (r a)/\isInt (r i)/\0<=(r i).i/\(r i).i<n
 |.ixs a i,r,_=>j9 (r a)/\isInt (r i)/\0<=(r i).i/\(r i).i<(r a).s.size
 |.fld off a,r,_=>oq (r a)/\off<(r a).g.size
 |.fldn _ _ a,r,_=>oq (r a)
 |.slm _ a lo hi tp,r,_=>ax (r a)/\Ey r lo/\isInt (r hi)/\isInt (r tp)/\0<=(oi r lo).getD 0/\(oi r lo).getD 0<=(r hi).i/\(r hi).i<=(r tp).i/\(r tp).i<=eO (r a)
 |.b2s a,r,H=>AB H (r a)
 |.jA z ps,r,_=>eE r z.size ps
 |.mkf _ _ _,_,_=>True
 |.lks _ _ m k,r,H=>j9 (r k)/\∃es,dh H (r m)=some es/\∀e∈es,j9 e.key
 |.lki kk _ m k,r,H=>fB kk (r k)/\∃es,dh H (r m)=some es/\∀e∈es,fB kk e.key
 |.mif _ _,_,_=>True
 |.tas t a,r,_=>isIf t (r a)
 |.eqs _ fs a b,r,_=>(oq (r a)/\oq (r b))/\xT fs (gL (r a))/\xT fs (gL (r b))
 |.mxs a l,r,_=>isInt (r a)/\∀b∈l,isInt (r b)
def PM.free:PM->Bool
 |.ldn _ _=>false
 |.b2s _=>false
 |.lks ..=>false
 |.lki ..=>false
 |_=>true
def kindOf:Value->IntKind|.int k _=>k|_=>.i64
def PM.val:PM->(A->Value)->Hp->Value
 |.ldn n a,r,H=>.agg ((aI H (r a) n).getD #[])
 |.eqn _ n a,r,_=>.bool (n !=eD (r a))
 |.eqp n a b,r,_=>.bool (n !=(eD (r a)&&eD (r b)))
 |.eqa n _ _ a b,r,_=>.bool (n !=((r a).g.toList.map Value.i==(r b).g.toList.map Value.i))
 |.sla len size a lo hi,r,_=>Np (r a) len size (oi r lo) (oi r hi)
 |.sls size a lo hi,r,_=>vl (r a) size (oi r lo) (oi r hi)
 |.slt a lo hi,r,_=>.string ((r a).s.extract (kj (oi r lo)) (xM (r a).s.size (oi r hi)))
 |.lens a,r,_=>.int .i64 (r a).s.size
 |.lenl a,r,_=>.int .i64 (aP (r a))
 |.lenc n,_,_=>.int .i64 n
 |.capl a,r,_=>.int .i64 (eO (r a))
 |.mn a b,r,_=>.int (kindOf (r a)) (if(r b).i<(r a).i then(r b).i else(r a).i)
 |.mx a b,r,_=>.int (kindOf (r a)) (if(r b).i>(r a).i then(r b).i else(r a).i)
 |.ix _ a i,r,_=>((r a).g[(r i).i.toNat]?).getD undef
 |.ixn _ size a i,r,_=>.agg ((r a).g.extract ((r i).i.toNat*size) ((r i).i.toNat*size+size))
 |.ixs a i,r,_=>.int .u8 (((r a).s[(r i).i.toNat]?.getD 0).toNat)
 |.fld off a,r,_=>((r a).g[off]?).getD undef
 |.fldn off size a,r,_=>.agg ((r a).g.extract off (off+size))
 |.slm size a lo hi tp,r,_=>Nq (r a) size (kj (oi r lo)) (r hi).i.toNat (r tp).i.toNat
 |.b2s a,r,H=>.string (toBA ((cg H (r a)).getD #[]))
 |.jA z ps,r,_=>.agg (eN r z ps)
 |.mkf g fs cs,r,_=>.func (.func g) (fs.map r).toArray (cs.map r).toArray
 |.lks z ok m k,r,H=>if ok=true then .tuple #[(iq (r k).s ((dh H (r m)).getD [])).getD z,.bool (iq (r k).s ((dh H (r m)).getD [])).isSome]else(iq (r k).s ((dh H (r m)).getD [])).getD z
 |.lki _ z m k,r,H=>(fj (r k).i ((dh H (r m)).getD [])).getD z
 |.mif t a,r,_=>.iface t (r a)
 |.tas _ a,r,_=>ifV (r a)
 |.eqs n fs a b,r,_=>.bool (n !=vC fs (gL (r a)) (gL (r b)))
 |.mxs a l,r,_=>.int (kindOf (r a)) (Mh (r a).i (l.map fun b=>(r b).i))
def Ur (tr:Operand->Option A):Option Operand->Option (Option A)
 |none=>some none
 |some x=>(tr x).map some
def lQ (P:Program) (t:TypeId):Bool:=
 match P.underlying t with
 |some (.struct _)|some (.array _ _)|none=>false
 |_=>true
def xU (P:Program) (t:TypeId):Bool:=
 match P.underlying t with
 |some (.struct _)|some (.array _ _)=>(P.info? t).isSome
 |_=>false
def eP (tr:Operand->Option A) (place:Nat->Option (Nat×Nat)):List (Nat×Operand)->Option (List (Nat×Nat×A))
 |[]=>some []
 |(i,x)::l=>(place i).bind fun p=>(tr x).bind fun a=>(eP tr place l).map ((p.1,p.2,a)::·)
def EA:Operand->Option NK
 |.const (.pointer none)=>some .ptr
 |.const (.slice none _ _)=>some .sl
 |.const (.map none)=>some .mp
 |.const .nilFunc=>some .fn
 |.const .nilIface=>some .ifc
 |_=>none
def AD:NK->TypeDesc->Bool
 |.ptr,.pointer _=>true
 |.sl,.slice _=>true
 |.mp,.map _ _=>true
 |.fn,.func _ _ _=>true
 |.ifc,.interface _=>true
 |_,_=>false
def vD (P:Program):List Field->Option (List (Nat×Option IntKind))
 |[]=>some []
 |f::l=>if f.name= "_" then none else match P.underlying f.type with
  |some (.int k)=>(vD P l).map ((f.offset,some k)::·)
  |some .string=>(vD P l).map ((f.offset,none)::·)
  |_=>none
def IS (P:Program) (tr:Operand->Option A) (n:Bool) (t:TypeId) (x y:Operand):Option PM:=
 match P.underlying t with
 |none=>none
 |some d=>
  match EA y with
  |some k=>if AD k d then(tr x).map (.eqn k n)else none
  |none=>
   match d with
   |.pointer _=>(tr x).bind fun a=>(tr y).bind fun b=>some (.eqp n a b)
   |.array len e=>match P.underlying e with
    |some (.int k)=>if P.cellsOf e=1 then(tr x).bind fun a=>(tr y).bind fun b=>some (.eqa n k len a b)else none
    |_=>none
   |.struct fs=>if P.stoodInHeld t=true then none else(vD P fs.toList).bind fun l=>(tr x).bind fun a=>(tr y).bind fun b=>some (.eqs n l a b)
   |_=>none
def vE (tr:Operand->Option A):List Operand->Option (List A)
 |[]=>some []
 |x::l=>(tr x).bind fun a=>(vE tr l).map (a::·)
def pm (P:Program) (tr:Operand->Option A) (o:Oper):Option PM:=
 match o.op with
 |.load t x=>if xU P t then(tr x).map (.ldn (P.cellsOf t))else none
 |.binOp .eql t x y _=>IS P tr false t x y
 |.binOp .neq t x y _=>IS P tr true t x y
 |.slice t x lo hi none=>
  (tr x).bind fun a=>(Ur tr lo).bind fun l=>(Ur tr hi).bind fun h=>
  match P.underlying t with
  |some (.array n e)=>if(P.info? e).isSome then some (.sla n (P.cellsOf e) a l h)else none
  |some (.slice e)=>if(P.info? e).isSome then some (.sls (P.cellsOf e) a l h)else none
  |some .string=>some (.slt a l h)
  |_=>none
 |.call {callee:=.builtin .len,args,argTypes}=>
  match args.toList,argTypes.toList with
  |[x],[t]=>(tr x).bind fun a=>match P.underlying t with
   |some .string=>some (.lens a)
   |some (.slice _)=>some (.lenl a)
   |some (.array n _)=>some (.lenc n)
   |_=>none
  |_,_=>none
 |.call {callee:=.builtin .cap,args,argTypes}=>
  match args.toList,argTypes.toList with
  |[x],[t]=>(tr x).bind fun a=>match P.underlying t with
   |some (.slice _)=>some (.capl a)
   |_=>none
  |_,_=>none
 |.call {callee:=.builtin .min,args, ..}=>
  match args.toList with
  |[x,y]=>(tr x).bind fun a=>(tr y).bind fun b=>some (.mn a b)
  |_=>none
 |.call {callee:=.builtin .max,args, ..}=>
  match args.toList with
  |[x,y]=>(tr x).bind fun a=>(tr y).bind fun b=>some (.mx a b)
  |x::y::z::l=>(tr x).bind fun a=>(vE tr (y::z::l)).map (.mxs a ·)
  |_=>none
 |.index t x i=>(tr x).bind fun a=>(tr i).bind fun j=>
  match P.underlying t with
  |some (.array n e)=>if lQ P e&&P.cellsOf e==1 then some (.ix n a j)else if xU P e then some (.ixn n (P.cellsOf e) a j)else none
  |some .string=>some (.ixs a j)
  |_=>none
 |.field t x f=>(tr x).bind fun a=>
  match P.underlying t with
  |some (.struct fs)=>match fs[f]? with
   |some fd=>if lQ P fd.type then some (.fld fd.offset a)else if xU P fd.type then some (.fldn fd.offset (P.cellsOf fd.type) a)else none
   |none=>none
  |_=>none
 |.build t parts=>
  match(P.info? t).bind (·.zero)with
  |some z=>match P.underlying t with
   |some (.struct fs)=>if fs.all fun f=>(P.info? f.type).isSome then(eP tr (fun i=>(fs[i]?).map fun f=>(f.offset,P.cellsOf f.type)) parts.toList).map (.jA z.cells)else none
   |some (.array _ e)=>if(P.info? e).isSome then(eP tr (fun i=>some (i*P.cellsOf e,P.cellsOf e)) parts.toList).map (.jA z.cells)else none
   |_=>none
  |none=>none
 |.slice t x lo (some hi) (some mx)=>
  (tr x).bind fun a=>(Ur tr lo).bind fun l=>(tr hi).bind fun h=>(tr mx).bind fun m=>
  match P.underlying t with
  |some (.slice e)=>if(P.info? e).isSome then some (.slm (P.cellsOf e) a l h m)else none
  |_=>none
 |.convert s t x=>(tr x).bind fun a=>
  match P.underlying s,P.underlying t with
  |some (.slice e),some .string=>if u8T P e=true then some (.b2s a)else none
  |_,_=>none
 |.makeFunc (.func g) fs cs=>(vE tr fs.toList).bind fun a=>(vE tr cs.toList).map fun b=>.mkf g a b
 |.lookup t x i ok=>(tr x).bind fun a=>(tr i).bind fun b=>
  match P.underlying t with
  |some (.map k e)=>match P.underlying k,(P.info? e).bind (·.zero)with
   |some .string,some z=>some (.lks z ok a b)
   |some (.int kk),some z=>if ok=true then none else some (.lki kk z a b)
   |_,_=>none
  |_=>none
 |.makeInterface t x=>(tr x).bind fun a=>match P.underlying t with
  |some (.interface _)=>none
  |some _=>some (.mif t a)
  |none=>none
 |.typeAssert x _ t false=>(tr x).bind fun a=>match P.underlying t with
  |some (.interface _)=>none
  |some _=>some (.tas t a)
  |none=>none
 |_=>none
end Go.Mg
namespace Go.Mg
open Go Go.RowKit
variable {v:Value}
theorem dk (h:oq v):v=.agg v.g:=by
 cases v<;>simp only[oq]at h;rfl
theorem dN (h:ax v):v=.slice (fC v) (aP v) (eO v):=by
 cases v<;>simp only[ax]at h;rfl
section
variable {P:Program} {o:Oper} {w:World} {ρ:Operand->Value} {tr:Operand->Option A} {r:A->Value}
theorem fk {t:TypeId} (h:xU P t=true) (w:World):(isAgg t).run P w=.ok true w/\(P.info? t).isSome=true:=by
 unfold xU at h
 split at h
 ·rename_i fs hu;exact⟨by simp only[isAgg,Sem.run_bind,run_underlying hu,Result.andThen,Sem.run_pure],h⟩
 ·rename_i n e hu;exact⟨by simp only[isAgg,Sem.run_bind,run_underlying hu,Result.andThen,Sem.run_pure],h⟩
 ·cases h
theorem iH {t:TypeId} (h:lQ P t=true) (w:World):(isAgg t).run P w=.ok false w:=by
 unfold lQ at h
 cases hu:P.underlying t with
 |none=>simp[hu]at h
 |some d=>
 rw[hu]at h;simp only[isAgg,Sem.run_bind,run_underlying hu,Result.andThen]
 cases d<;>first|rfl|cases h
theorem bT {α β:Type} {s:Sem α} {f:α->Sem β} {v:α} {w w':World} (h:s.run P w=.ok v w'):(s>>=f).run P w=(f v).run P w':=by
 simp only[Sem.run_bind,h,Result.andThen]
theorem xV (op:BinOp) (t:TypeId) (x y:Operand) (a b:Value) (h:(∀xs,a≠.agg xs)/\a≠.nilIface):(eqGuard op t x y a b).run P w=.ok () w:=by
 unfold eqGuard
 by_cases ho:(match op with|.eql=>true|.neq=>true|_=>false)=true
 ·cases op<;>simp at ho<;>(cases a<;>first|rfl|exact(h.1 _ rfl).elim|exact(h.2 rfl).elim)
 ·cases op<;>simp at ho<;>rfl
def r8:NK->Value->Prop
 |.ptr,.pointer none=>True
 |.sl,.slice none _ _=>True
 |.mp,.map none=>True
 |.fn,.nilFunc=>True
 |.ifc,.nilIface=>True
 |_,_=>False
theorem xW {y:Operand} {k:NK} (h:EA y=some k):∃v,y=.const v/\r8 k v:=by
 unfold EA at h
 split at h<;>cases h<;>exact⟨_,rfl,trivial⟩
theorem Rs (d:Nat) {t:TypeId} {td:TypeDesc} (hu:P.underlying t=some td) {k:NK} (hf:AD k td=true) {v:Value} (hv:vB k v) {z:Value}
  (hz:r8 k z):
  (Op.equalIn (d+1) t v z).run P w=.ok (eD v) w:=by
 simp only[Op.equalIn,Sem.run_bind,run_underlying hu,Result.andThen]
 cases k
 case ptr=>
  cases td<;>first|(cases hf;done)|skip
  cases v<;>first|exact hv.elim|skip
  cases z<;>first|exact hz.elim|skip
  rename_i e a b
  cases b<;>first|exact hz.elim|skip
  cases a<;>rfl
 case sl=>
  cases td<;>first|(cases hf;done)|skip
  cases v<;>first|exact hv.elim|skip
  cases z<;>first|exact hz.elim|skip
  rename_i e a l c b l' c'
  cases b<;>first|exact hz.elim|skip
  cases a<;>rfl
 case mp=>
  cases td<;>first|(cases hf;done)|skip
  cases v<;>first|exact hv.elim|skip
  cases z<;>first|exact hz.elim|skip
  rename_i e q a b
  cases b<;>first|exact hz.elim|skip
  cases a<;>rfl
 case fn=>
  cases td<;>first|(cases hf;done)|skip
  cases v<;>first|exact hv.elim|skip
  all_goals
   cases z<;>first|exact hz.elim|skip
   rfl
 case ifc=>
  cases td<;>first|(cases hf;done)|skip
  cases v<;>first|exact hv.elim|skip
  all_goals
   cases z<;>first|exact hz.elim|skip
   rfl
theorem Ct {k:NK} {v z:Value} (hv:vB k v)
  (hz:r8 k z) (t:TypeId):
  binOp .eql t v z=(do pure (.bool (←Op.equal t v z)))/\binOp .neq t v z=(do pure (.bool (!(←Op.equal t v z)))):=by
 cases k<;>cases v<;>first|exact hv.elim|(cases z<;>first|exact hz.elim|exact⟨rfl,rfl⟩)
theorem vF (op:BinOp) (t:TypeId) (x y:Operand) {k:NK} {v z:Value} (hy:y=.const z) (hv:vB k v)
  (hz:r8 k z):(eqGuard op t x y v z).run P w=.ok () w:=by
 subst hy
 cases op<;>cases k<;>cases v<;>first|exact hv.elim|(cases z<;>first|exact hz.elim|rfl|skip)
 all_goals (cases x<;>rfl)
theorem nC {n:Bool} {op:BinOp} (hop:op=if n then .neq else .eql) {t:TypeId} {x y:Operand} {u:TypeId} (ho:o.op=.binOp op t x y u) {v z:Value} (hx:ρ x=v) (hy:ρ y=z) {b:Bool}
  (hg:(eqGuard op t x y v z).run P w=.ok () w) (hnum:binOp .eql t v z=(do pure (.bool (←Op.equal t v z)))/\binOp .neq t v z=(do pure (.bool (!(←Op.equal t v z)))))
  (h:(Op.equal t v z).run P w=.ok b w):(execOp ρ o).run P w=.ok (.value (.bool (n !=b))) w:=by
 simp only[execOp,ho,hx,hy];refine bJ ?_;rw[bT hg]
 cases n<;>simp at hop<;>subst hop
 ·rw[hnum.1];simp only[Sem.run_bind,h,Result.andThen,Sem.run_pure];simp
 ·rw[hnum.2];simp only[Sem.run_bind,h,Result.andThen,Sem.run_pure];simp
theorem ptrEq (d:Nat) {t e:TypeId} (hu:P.underlying t=some (.pointer e)) {a b:Value} (ha:Ew a) (hb:Ew b) (h:eD a=true\/eD b=true):
  (Op.equalIn (d+1) t a b).run P w=.ok (eD a&&eD b) w:=by
 simp only[Op.equalIn,Sem.run_bind,run_underlying hu,Result.andThen]
 cases a<;>first|exact ha.elim|skip
 cases b<;>first|exact hb.elim|skip
 rename_i p q
 cases p with
 |none=>cases q<;>rfl
 |some p=>cases q with
  |none=>rfl
  |some q=>simp[eD]at h
theorem km (f:Nat->Sem Bool) (g:Nat->Bool):∀(l:List Nat),(∀i∈l,(f i).run P w=.ok (g i) w)→
  (forIn l ((none,()):Option Bool×Unit) (fun i _=>do
   let b<-f i
   if(!b)=true then pure (ForInStep.done (some false,()))else pure (ForInStep.yield (none,())):Nat->Option Bool×Unit->Sem (ForInStep (Option Bool×Unit)))).run P w=.ok ((if l.all g then none else some false),()) w
 |[],_=>by simp
 |i::l,h=>by
  have h1:=h i (by simp);have ih:=km f g l (fun j hj=>h j (by simp[hj]));rw[List.forIn_cons];simp only[bind_assoc,Sem.run_bind,h1,Result.andThen]
  cases hg:g i
  ·simp;simp[hg]
  ·simp only[Bool.not_true,Bool.false_eq_true,if_false,Sem.run_pure];rw[ih];simp[hg]
theorem vG {e:TypeId} {k:IntKind} (he:P.underlying e=some (.int k)) {xs:Array Value} {i:Nat} (hi:i<xs.size) (w:World):(part e xs i).run P w=.ok xs[i] w:=by
 have:(isAgg e).run P w=.ok false w:=by simp only[isAgg,Sem.run_bind,run_underlying he,Result.andThen,Sem.run_pure]
 simp[part,Sem.run_bind,this,Result.andThen,hi]
theorem kn (d:Nat) {e:TypeId} {k:IntKind} (he:P.underlying e=some (.int k)) {x y:Value} (hx:fB k x) (hy:fB k y) (w:World):(Op.equalIn (d+1) e x y).run P w=.ok (x.i==y.i) w:=by
 rw[bp hx,bp hy];simp only[Op.equalIn,Sem.run_bind,run_underlying he,Result.andThen,if_true,Sem.run_pure,Value.i]
theorem r9 (xs ys:Array Value) (n:Nat) (hx:xs.size=n) (hy:ys.size=n):
  ((List.range n).all fun i=>((xs[i]?.getD undef).i==(ys[i]?.getD undef).i))=(xs.toList.map Value.i==ys.toList.map Value.i):=by
 rw[Bool.eq_iff_iff];simp only[List.all_eq_true,List.mem_range,beq_iff_eq]
 constructor
 ·intro h;apply List.ext_getElem
  ·simp[hx,hy]
  ·intro i h1 h2;have hi:i<n:=by simpa[hx]using h1
   have:=h i hi;simpa[hx,hy,hi]using this
 ·intro h i hi;have e:(xs.toList.map Value.i)[i]?=(ys.toList.map Value.i)[i]?:=by rw[h]
  have h1:i<xs.size:=by omega
  have h2:i<ys.size:=by omega
  simp only[List.getElem?_map,Array.getElem?_toList,h1,h2,Array.getElem?_eq_getElem,Option.map_some,Option.some.injEq]at e;simpa[h1,h2]using e
theorem Nr (D:Nat) {t e:TypeId} {len:Nat} {k:IntKind} (hu:P.underlying t=some (.array len e)) (he:P.underlying e=some (.int k)) (hs:P.cellsOf e=1) {xs ys:Array Value} (hx:xs.size=len) (hy:ys.size=len)
  (h1:∀x∈xs,fB k x) (h2:∀x∈ys,fB k x) (hD:∀x y,fB k x->fB k y->(Op.equalIn D e x y).run P w=.ok (x.i==y.i) w):(Op.equalIn (D+1) t (.agg xs) (.agg ys)).run P w=.ok (xs.toList.map Value.i==ys.toList.map Value.i) w:=by
 have vm:=gS P e (by omega) w;simp only[Op.equalIn,Sem.run_bind,run_underlying hu,Result.andThen,vm,hs,Nat.mul_one];rw[Std.Legacy.Range.forIn_eq_forIn_range'];have hl:List.range' 0 (Std.Legacy.Range.size [:len]) 1=List.range len:=by rw[List.range_eq_range'];simp[Std.Legacy.Range.size]
 have key:=km (P:=P) (w:=w) (fun i=>do
   let a<-part e xs i
   let b<-part e ys i
   Op.equalIn D e a b) (fun i=>((xs[i]?.getD undef).i==(ys[i]?.getD undef).i)) (List.range len) ?_
 ·simp only[bind_assoc]at key;rw[show([:len]:Std.Legacy.Range).start=0 from rfl,show([:len]:Std.Legacy.Range).step=1 from rfl,hl,key,r9 xs ys len hx hy]
  cases(xs.toList.map Value.i==ys.toList.map Value.i)<;>rfl
 ·intro i hi;have hi:i<len:=List.mem_range.1 hi;have a1:i<xs.size:=by omega
  have a2:i<ys.size:=by omega
  rw[bT (vG he a1 w),bT (vG he a2 w),hD _ _ (h1 _ (Array.getElem_mem a1)) (h2 _ (Array.getElem_mem a2))];simp[a1,a2]
theorem Rt (d:Nat) {t e:TypeId} {len:Nat} {k:IntKind} (hu:P.underlying t=some (.array len e)) (he:P.underlying e=some (.int k)) (hs:P.cellsOf e=1) {xs ys:Array Value} (hx:xs.size=len) (hy:ys.size=len)
  (h1:∀x∈xs,fB k x) (h2:∀x∈ys,fB k x):(Op.equalIn (d+2) t (.agg xs) (.agg ys)).run P w=.ok (xs.toList.map Value.i==ys.toList.map Value.i) w:=
 Nr (d+1) hu he hs hx hy h1 h2 fun _ _ a b=>kn d he a b w
theorem nm {t e:TypeId} {len:Nat} {k:IntKind} (hu:P.underlying t=some (.array len e)) (he:P.underlying e=some (.int k)) (d:Nat):P.eqGuardType (d+2) t=false:=by
 simp only[Program.eqGuardType,hu,he]
theorem vH (op:BinOp) {t e:TypeId} {len:Nat} {k:IntKind} (hu:P.underlying t=some (.array len e)) (he:P.underlying e=some (.int k)) (x y:Operand) (xs ys:Array Value):
  (eqGuard op t x y (.agg xs) (.agg ys)).run P w=.ok () w:=by
 have:P.eqGuardType P.depth t=false:=by unfold Program.depth;exact nm hu he _
 exact run_eqGuard_agg (w:=w) op t x y xs ys this
theorem gT {e:TypeId} (he:(∃k,P.underlying e=some (.int k))\/P.underlying e=some .string) {xs:Array Value} {i:Nat} (hi:i<xs.toList.length) (w:World):(part e xs i).run P w=.ok (xs.toList.getD i undef) w:=by
 have:(isAgg e).run P w=.ok false w:=by
  rcases he with⟨k,he⟩|he<;>simp only[isAgg,Sem.run_bind,run_underlying he,Result.andThen,Sem.run_pure]
 have AE:i<xs.size:=by simpa using hi
 have e2:xs.toList.getD i undef=xs[i]:=by rw[List.getD_eq_getElem?_getD];simp[AE]
 rw[e2];simp[part,Sem.run_bind,this,Result.andThen,AE]
theorem gU (d:Nat) {xs ys:Array Value} (w:World):∀(fs:List Field) (l:List (Nat×Option IntKind)),vD P fs=some l->xT l xs.toList->xT l ys.toList->(Op.eqFields (d+1) xs ys fs).run P w=.ok (vC l xs.toList ys.toList) w
 |[],l,h,_,_=>by cases h;simp[Op.eqFields,vC]
 |f::fs,l,h,h1,h2=>by
  simp only[vD]at h
  split at h
  ·cases h
  ·rename_i hn
   split at h
   ·rename_i k hk;obtain⟨l',hl,rfl⟩:=Option.map_eq_some_iff.1 h;obtain⟨⟨a1,a2⟩,a3⟩:=h1;obtain⟨⟨b1,b2⟩,b3⟩:=h2;have ih:=gU d w fs l' hl a3 b3;simp only[Op.eqFields,hn,ne_eq,not_false_eq_true,if_true];rw[bT (gT (.inl ⟨k,hk⟩) a1 w),bT (gT (.inl ⟨k,hk⟩) b1 w),bT (kn d hk a2 b2 w)];rw[vC]
    cases((xs.toList.getD f.offset undef).i==(ys.toList.getD f.offset undef).i)<;>simp[ih]
   ·rename_i hk;obtain⟨l',hl,rfl⟩:=Option.map_eq_some_iff.1 h;obtain⟨⟨a1,a2⟩,a3⟩:=h1;obtain⟨⟨b1,b2⟩,b3⟩:=h2;have ih:=gU d w fs l' hl a3 b3;have hs:(Op.equalIn (d+1) f.type (xs.toList.getD f.offset undef) (ys.toList.getD f.offset undef)).run P w=.ok ((xs.toList.getD f.offset undef).s.toList==(ys.toList.getD f.offset undef).s.toList) w:=by
     rw[bP a2,bP b2];exact run_equalIn_string w d f.type _ _ hk
    simp only[Op.eqFields,hn,ne_eq,not_false_eq_true,if_true];rw[bT (gT (.inr hk) a1 w),bT (gT (.inr hk) b1 w),bT hs];rw[vC]
    cases((xs.toList.getD f.offset undef).s.toList==(ys.toList.getD f.offset undef).s.toList)<;>simp[ih]
   ·cases h
theorem jI (d:Nat):∀(fs:List Field) (l:List (Nat×Option IntKind)),vD P fs=some l->(fs.any fun f=>f.name != "_" &&P.eqGuardType (d+1) f.type)=false
 |[],_,_=>rfl
 |f::fs,l,h=>by
  simp only[vD]at h
  split at h
  ·cases h
  ·split at h
   ·rename_i k hk;obtain⟨l',hl,rfl⟩:=Option.map_eq_some_iff.1 h;rw[List.any_cons,jI d fs l' hl,Bool.or_false];simp only[Program.eqGuardType,hk,Bool.and_false]
   ·rename_i hk;obtain⟨l',hl,rfl⟩:=Option.map_eq_some_iff.1 h;rw[List.any_cons,jI d fs l' hl,Bool.or_false];simp only[Program.eqGuardType,hk,Bool.and_false]
   ·cases h
theorem sd (op:BinOp) {t:TypeId} {fs:Array Field} {l:List (Nat×Option IntKind)} (hu:P.underlying t=some (.struct fs)) (hl:vD P fs.toList=some l) (x y:Operand) (xs ys:Array Value):
  (eqGuard op t x y (.agg xs) (.agg ys)).run P w=.ok () w:=by
 have:P.eqGuardType P.depth t=false:=by
  unfold Program.depth;simp only[Program.eqGuardType,hu];rw[<-Array.any_toList];exact jI _ _ _ hl
 exact run_eqGuard_agg (w:=w) op t x y xs ys this
theorem ot {n:Bool} {op:BinOp} (hop:op=if n then .neq else .eql) {t:TypeId} {x y:Operand} {u:TypeId} (ho:o.op=.binOp op t x y u) {q:PM} (hq:IS P tr n t x y=some q)
  (htr:∀y z,tr y=some z->ρ y=r z) (hc:∀v,ρ (.const v)=v) (hpre:q.pre r w.heap):(execOp ρ o).run P w=.ok (.value (q.val r w.heap)) w:=by
 unfold IS at hq
 split at hq
 ·cases hq
 ·rename_i td hu
  split at hq
  ·rename_i k hk
   split at hq
   ·rename_i hf;obtain⟨a,ha,rfl⟩:=Option.map_eq_some_iff.1 hq;obtain⟨z,hy,hz⟩:=xW hk;have ex:=htr _ _ ha;have ey:ρ y=z:=by rw[hy];exact hc z
    exact nC hop ho ex ey (vF op t x y hy hpre hz) (Ct hpre hz t) (fY fun d=>Rs (d+2) hu hf hpre hz)
   ·cases hq
  ·split at hq
   ·simp only[Option.bind_eq_some_iff]at hq;obtain⟨a,ha,b,hb,hq⟩:=hq
    cases hq
    obtain⟨h1,h2,h3⟩:=hpre;refine nC hop ho (htr _ _ ha) (htr _ _ hb) ?_ ?_ (fY fun d=>ptrEq (d+2) hu h1 h2 h3)
    ·refine xV op t x y _ _ ⟨?_,?_⟩
     ·intro xs hx;rw[hx]at h1;exact h1.elim
     ·intro hx;rw[hx]at h1;exact h1.elim
    ·generalize r a=a' at*;generalize r b=b' at*
     cases a'<;>first|exact h1.elim|skip
     cases b'<;>first|exact h2.elim|exact⟨rfl,rfl⟩
   ·rename_i len e _
    split at hq
    ·rename_i k hk
     split at hq
     ·rename_i hs;simp only[Option.bind_eq_some_iff]at hq;obtain⟨a,ha,b,hb,hq⟩:=hq
      cases hq
      obtain⟨h1,h2,h3,h4,h5,h6⟩:=hpre;refine nC hop ho ((htr _ _ ha).trans (dk h1)) ((htr _ _ hb).trans (dk h2)) (vH op hu hk x y _ _) ⟨rfl,rfl⟩ (fY fun d=>Rt (d+1) hu hk hs h3 h4 h5 h6)
     ·cases hq
    ·cases hq
   ·rename_i fs
    split at hq
    ·cases hq
    ·rename_i hst;simp only[Option.bind_eq_some_iff]at hq;obtain⟨l,hl,a,ha,b,hb,hq⟩:=hq
     cases hq
     obtain⟨⟨h1,h2⟩,h3,h4⟩:=hpre;have hfs:P.fieldsOf t=fs:=by simp[Program.fieldsOf,hu]
     have ea:=dk h1;have eb:=dk h2;have e1:gL (r a)=(r a).g.toList:=by rw[ea];rfl
     have e2:gL (r b)=(r b).g.toList:=by rw[eb];rfl
     rw[e1]at h3;rw[e2]at h4;refine nC hop ho ((htr _ _ ha).trans ea) ((htr _ _ hb).trans eb) (sd op hu hl x y _ _) ⟨rfl,rfl⟩ (fY fun d=>?_);rw[show d+3=(d+2)+1 from rfl,run_equalIn_agg w (d+2) t _ _ (by rw[hfs];exact hu) (by simpa using hst),hfs,e1,e2];exact gU (d+1) w _ _ hl h3 h4
   ·cases hq
end
end Go.Mg
namespace Go.Mg
open Go Go.RowKit
section
variable {P:Program} {o:Oper} {w:World} {ρ:Operand->Value} {tr:Operand->Option A} {r:A->Value}
theorem ou {x:Option Operand} {y:Option A} (h:Ur tr x=some y) (htr:∀y z,tr y=some z->ρ y=r z):x.map ρ=y.map r:=by
 cases x with
 |none=>cases h;rfl
 |some x=>obtain⟨z,hz,rfl⟩:=Option.map_eq_some_iff.1 h;simp[htr _ _ hz]
theorem cG {v:Value} (hv:isInt v) {y:Nat} {c:BoundsCode} (h0:0<=v.i) (h1:v.i<=y):(Instr.sliceBound v y c).run P w=.ok v.i.toNat w:=by
 obtain⟨k,hk⟩:=aT hv;generalize hn:v.i=n at*;rw[hk];simp only[Instr.sliceBound,asIntOf,Sem.run_bind,Sem.run_pure,Result.andThen,h0,h1,and_self,if_true]
theorem jJ {b:Bool} {len cap:Nat} {lo hi:Option A} (hl:Ey r lo) (hh:Ey r hi) (h:Ez len cap (oi r lo) (oi r hi)):
  (Instr.sliceBounds b len cap (lo.map r) (hi.map r) none).run P w=.ok (kj (oi r lo),xM len (oi r hi),cap) w:=by
 cases lo with
 |none=>cases hi with
  |none=>rfl
  |some y=>
   obtain⟨h1,h2⟩:=h;simp only[Instr.sliceBounds,Sem.run_bind,Sem.run_pure,Result.andThen,Option.map_some,Option.map_none,cG hh h1 h2]
   rfl
 |some x=>cases hi with
  |none=>
   obtain⟨h1,h2⟩:=h;simp only[Instr.sliceBounds,Sem.run_bind,Sem.run_pure,Result.andThen,Option.map_some,Option.map_none,cG hl h1 h2]
   rfl
  |some y=>
   obtain⟨h1,h2,h3⟩:=h;simp only[Instr.sliceBounds,Sem.run_bind,Sem.run_pure,Result.andThen,Option.map_some];have h1:0<=(r x).i:=h1;have h2:(r x).i<=(r y).i:=h2;rw[cG hh (by omega) h3];simp only;rw[cG hl h1 (by omega)]
   rfl
theorem vI {b:Bool} {len cap:Nat} {lo:Option A} {hi mx:A} (hl:Ey r lo) (hh:isInt (r hi)) (hm:isInt (r mx)) (h1:0<=(oi r lo).getD 0) (h2:(oi r lo).getD 0<=(r hi).i) (h3:(r hi).i<=(r mx).i) (h4:(r mx).i<=cap):
  (Instr.sliceBounds b len cap (lo.map r) (some (r hi)) (some (r mx))).run P w=.ok (kj (oi r lo),(r hi).i.toNat,(r mx).i.toNat) w:=by
 cases lo with
 |none=>
  have D0:(0:Int)<=(r hi).i:=h2;simp only[Instr.sliceBounds,Sem.run_bind,Sem.run_pure,Result.andThen,Option.map_none];rw[cG hm (by omega) h4];simp only;rw[cG hh D0 (by omega)]
  rfl
 |some x=>
  have D0:0<=(r x).i:=h1;have Iw:(r x).i<=(r hi).i:=h2;simp only[Instr.sliceBounds,Sem.run_bind,Sem.run_pure,Result.andThen,Option.map_some];rw[cG hm (by omega) h4];simp only;rw[cG hh (by omega) (by omega)];simp only;rw[cG hl D0 (by omega)]
  rfl
theorem vJ:∀(l:List Value),(∀x∈l,fB .u8 x)->(l.map Value.i).map (Value.int .u8)=l
 |[],_=>rfl
 |x::l,h=>by
  have e:=bp (h x (by simp));simp only[List.map_cons];rw[vJ l (fun y hy=>h y (by simp[hy])),<-e]
theorem vK:∀(l:List Value) (q:ByteArray),(l.map Value.i).foldl (fun q n=>q.push (UInt8.ofNat n.toNat)) q=⟨q.data++(l.map fun v=>UInt8.ofNat v.i.toNat).toArray⟩
 |[],q=>by simp
 |x::l,q=>by
  simp only[List.map_cons,List.foldl_cons];rw[vK l];simp[ByteArray.push]
theorem IT {s t e:TypeId} {v:Value} (hs:P.underlying s=some (.slice e)) (ht:P.underlying t=some .string) (he:P.underlying e=some (.int .u8)) (h:AB w.heap v):
  (convert s t v).run P w=.ok (.string (toBA ((cg w.heap v).getD #[]))) w:=by
 obtain⟨xs,hx,hb⟩:=h;rw[hx,Option.getD_some]
 cases v with
 |slice a n c=>
  rw[run_convert_bytes_string w s t e a n c hs he ht]
  cases a with
  |none=>cases hx;simp[Conv.bytesToString,Sem.run_pure,toBA];rfl
  |some p=>
   have hl:(loadCells p n).run P w=.ok xs w:=by
    simp only[cg]at hx
    split at hx
    ·rename_i h0;subst h0;cases hx;rfl
    ·exact nB hx
   have hz:=vJ xs.toList hb;have IU:xs=((xs.toList.map Value.i).map (Value.int .u8)).toArray:=by rw[hz]
   rw[IU]at hl;rw[run_bytesToString w p n c _ hl,vK]
   congr 2
   apply ByteArray.ext;simp only[toBA];apply Array.ext';simp
 |_=>cases hx
theorem rl:∀(xs:List Value) (j:Nat) (C:Array Value) (off:Nat),off+j+xs.length<=C.size->(xs.zipIdx j).foldl (fun cs (x:Value×Nat)=>cs.setIfInBounds (off+x.2) x.1) C=gQ C (off+j) xs
 |[],j,C,off,_=>by simp[Az]
 |x::xs,j,C,off,h=>by
  simp only[List.length_cons]at h;simp only[List.zipIdx_cons,List.foldl_cons];rw[rl xs (j+1) _ off (by simp;omega),<-vA (x:=x) (by omega)]
  rfl
theorem ko {place:Nat->Option (Nat×Nat)}:∀{parts:List (Nat×Operand)} {ps:List (Nat×Nat×A)} (C:Array Value),eP tr place parts=some ps->(∀y z,tr y=some z->ρ y=r z)->eE r C.size ps→
  Instr.fill place C (parts.map fun p=>(p.1,ρ p.2))=some (eN r C ps)
 |[],ps,C,h,_,_=>by cases h;rfl
 |(i,x)::l,ps,C,h,htr,hok=>by
  simp only[eP]at h;obtain⟨p,hp,h⟩:=Option.bind_eq_some_iff.1 h;obtain⟨a,ha,h⟩:=Option.bind_eq_some_iff.1 h;obtain⟨Vw,AF,rfl⟩:=Option.map_eq_some_iff.1 h;obtain⟨h1,h2,h3⟩:=hok;obtain⟨off,size⟩:=p;simp only at h1 h2 h3;have hlen:off+(r a).cells.toList.length<=C.size:=by simp[h1];exact h2
  have e:(r a).cells.zipIdx.foldl (fun cs (x:Value×Nat)=>cs.setIfInBounds (off+x.2) x.1) C=gQ C off (r a).cells.toList:=by
   rw[<-Array.foldl_toList,Array.toList_zipIdx];exact rl _ 0 C off (by omega)
  have ih:=ko (place:=place) (gQ C off (r a).cells.toList) AF htr (by rw[vz hlen];exact h3);have hc:((decide ((r a).cells.size≠size))||decide (off+(r a).cells.size>C.size))=false:=by
   simp[h1];omega
  simp only[List.map_cons,Instr.fill,hp,htr _ _ ha,hc,Bool.false_eq_true,if_false,eN];rw[<-ih,<-e]
theorem ef {b:Builtin} {args:Array Operand} {ts:Array TypeId} (ho:o.op=.call {callee:=.builtin b,args:=args,argTypes:=ts}) {s:Sem Value} {v:Value}
  (hb:∀cs vs,builtin b ts o.type cs vs=(do pure (.value (←(match b with|.len=>Builtin.len_ ts o.type vs|.cap=>Builtin.cap_ ts o.type vs|.min=>Builtin.min_ ts o.type vs|.max=>Builtin.max_ ts o.type vs|_=>s)))))
  (h:(match b with|.len=>Builtin.len_ ts o.type (args.map ρ)|.cap=>Builtin.cap_ ts o.type (args.map ρ)|.min=>Builtin.min_ ts o.type (args.map ρ)|.max=>Builtin.max_ ts o.type (args.map ρ)|_=>s).run P w=.ok v w):
  (execOp ρ o).run P w=.ok (.value v) w:=by
 simp only[execOp,ho,resolve,Sem.run_bind,Sem.run_pure,Result.andThen,invoke];rw[hb];exact bJ h
theorem rm {l:List Operand} {as:List A} (h:vE tr l=some as) (htr:∀y z,tr y=some z->ρ y=r z):l.map ρ=as.map r:=by
 induction l generalizing as with
 |nil=>cases h;rfl
 |cons x l ih=>
  simp only[vE]at h;obtain⟨a,ha,h⟩:=Option.bind_eq_some_iff.1 h;obtain⟨b,hb,rfl⟩:=Option.map_eq_some_iff.1 h;simp[htr _ _ ha,ih hb]
theorem iu (e:Bool) {t:TypeId} (ht:P.underlying t=some .string) (n:Nat) (v:Value):(Instr.checkKey e (n+1) t v).run P w=.ok () w:=by
 unfold Instr.checkKey;simp only[Sem.run_bind,run_underlying ht,Result.andThen]
 rfl
theorem fo (k:ByteArray):∀(es:List MapEntry) (i:Nat),(∀e∈es,j9 e.key)->∃x,Instr.findNow .string (.string k) es i=some x/\x.map (·.2)=iq k es
 |[],i,_=>⟨none,rfl,rfl⟩
 |e::es,i,h=>by
  have hk:=bP (h e (by simp));unfold Instr.findNow;rw[hk];simp only[Instr.sameNow]
  by_cases hb:(k==e.key.s)=true
  ·rw[hb];refine⟨_,rfl,?_⟩;simp[iq,List.find?,hb]
  ·have jz:(k==e.key.s)=false:=by simpa using hb
   rw[jz];obtain⟨x,h1,h2⟩:=fo k es (i+1) (fun e he=>h e (by simp[he]));refine⟨x,h1,?_⟩;rw[h2];simp[iq,List.find?,jz]
theorem iI (kk:IntKind) (n:Int):∀(es:List MapEntry) (i:Nat),(∀e∈es,fB kk e.key)->∃x,Instr.findNow (.int kk) (.int kk n) es i=some x/\x.map (·.2)=fj n es/\x.map (·.1)=(es.findIdx? fun e=>n==e.key.i).map (·+i)
 |[],i,_=>⟨none,rfl,rfl,rfl⟩
 |e::es,i,h=>by
  have hk:=bp (h e (by simp));unfold Instr.findNow;rw[hk];simp only[Instr.sameNow,if_true]
  by_cases hb:(n==e.key.i)=true
  ·rw[hb];refine⟨_,rfl,?_,?_⟩
   ·simp[fj,List.find?,hb]
   ·simp[List.findIdx?_cons,hb]
  ·have jz:(n==e.key.i)=false:=by simpa using hb
   rw[jz];obtain⟨x,h1,h2,h3⟩:=iI kk n es (i+1) (fun e he=>h e (by simp[he]));refine⟨x,h1,?_,?_⟩
   ·rw[h2];simp[fj,List.find?,jz]
   ·rw[h3,List.findIdx?_cons,jz]
    cases es.findIdx? (fun e=>n==e.key.i)with
    |none=>rfl
    |some j=>simp;omega
theorem kp (e:Bool) {kk:IntKind} {t:TypeId} (ht:P.underlying t=some (.int kk)) (n:Nat) (v:Value):(Instr.checkKey e (n+1) t v).run P w=.ok () w:=by
 unfold Instr.checkKey;simp only[Sem.run_bind,run_underlying ht,Result.andThen]
 rfl
theorem ov {H:Hp} {v:Value} {es:List MapEntry} (h:dh H v=some es):(v=.map none/\es=[])\/∃b a c,v=.map (some b)/\H[b]?=some (.map a c)/\es=a.toList:=by
 cases v with
 |map o=>
  cases o with
  |none=>left;simp[dh]at h;exact⟨rfl,h⟩
  |some b=>
   right
   simp only[dh]at h
   cases hb:H[b]? with
   |none=>rw[hb]at h;cases h
   |some o=>
    rw[hb]at h
    cases o with
    |map a c=>cases h;exact⟨b,a,c,rfl,hb,rfl⟩
    |_=>cases h
 |_=>simp[dh]at h
theorem xX {t k e:TypeId} {z:Value} {m:Value} {kv:Value} {es:List MapEntry} {ok:Bool} (ht:P.underlying t=some (.map k e)) (hk:P.underlying k=some .string) (hz:(P.info? e).bind (·.zero)=some z)
  (hm:dh w.heap m=some es) (hs:∀e∈es,j9 e.key) (hkv:j9 kv):
  (Instr.lookup t m kv ok).run P w=.ok (if ok=true then .tuple #[(iq kv.s es).getD z,.bool (iq kv.s es).isSome]else(iq kv.s es).getD z) w:=by
 obtain⟨i,hi,hz⟩:=Option.bind_eq_some_iff.1 hz;have hzero:(zeroValue e).run P w=.ok z w:=by simp[zeroValue,typeInfo,program,Sem.run,hi,hz,Sem.run_bind,Result.andThen]
 have hkv:=bP hkv;generalize kv.s=q at*;subst hkv;obtain⟨x,h1,h2⟩:=fo q es 0 hs;have hck:∀e:Bool,(Instr.checkKey e 10000 k (.string q)).run P w=.ok () w:=fun e=>iu e hk 9999 _;have IV:∀l:List MapEntry,l=es->(Instr.findKey k (.string q) l).run P w=.ok x w:=fun l hl=>by
  subst hl;simp only[Instr.findKey,Sem.run_bind,run_underlying hk,Result.andThen,h1,Sem.run_pure]
 have e0:iq q es=x.map (·.2):=h2.symm;unfold Instr.lookup;rw[e0];rcases ov hm with⟨rfl,rfl⟩|⟨b,a,c,rfl,hb,rfl⟩
 ·simp only[Sem.run_bind,run_underlying ht,Result.andThen,Sem.run_pure,hck,IV [] rfl]
  cases x with
  |none=>simp only[hzero,Sem.run_bind,Result.andThen,Sem.run_pure];cases ok<;>rfl
  |some p=>obtain⟨i,v⟩:=p;simp only[Sem.run_pure,Sem.run_bind,Result.andThen];cases ok<;>rfl
 ·have hg:(getObj b).run P w=.ok (.map a c) w:=by simp[getObj,Sem.run,hb]
  simp only[Sem.run_bind,run_underlying ht,Result.andThen,hg,Sem.run_pure,hck,IV a.toList rfl]
  cases x with
  |none=>simp only[hzero,Sem.run_bind,Result.andThen,Sem.run_pure];cases ok<;>rfl
  |some p=>obtain⟨i,v⟩:=p;simp only[Sem.run_pure,Sem.run_bind,Result.andThen];cases ok<;>rfl
theorem vL {t k e:TypeId} {kk:IntKind} {z:Value} {m:Value} {kv:Value} {es:List MapEntry} (ht:P.underlying t=some (.map k e)) (hk:P.underlying k=some (.int kk)) (hz:(P.info? e).bind (·.zero)=some z)
  (hm:dh w.heap m=some es) (hs:∀e∈es,fB kk e.key) (hkv:fB kk kv):
  (Instr.lookup t m kv false).run P w=.ok ((fj kv.i es).getD z) w:=by
 obtain⟨i,hi,hz⟩:=Option.bind_eq_some_iff.1 hz;have hzero:(zeroValue e).run P w=.ok z w:=by simp[zeroValue,typeInfo,program,Sem.run,hi,hz,Sem.run_bind,Result.andThen]
 have hkv:=bp hkv;generalize kv.i=q at*;subst hkv;obtain⟨x,h1,h2,-⟩:=iI kk q es 0 hs;have hck:∀e:Bool,(Instr.checkKey e 10000 k (.int kk q)).run P w=.ok () w:=fun e=>kp e hk 9999 _;have IV:∀l:List MapEntry,l=es->(Instr.findKey k (.int kk q) l).run P w=.ok x w:=fun l hl=>by
  subst hl;simp only[Instr.findKey,Sem.run_bind,run_underlying hk,Result.andThen,h1,Sem.run_pure]
 have e0:fj q es=x.map (·.2):=h2.symm;unfold Instr.lookup;rw[e0];rcases ov hm with⟨rfl,rfl⟩|⟨b,a,c,rfl,hb,rfl⟩
 ·simp only[Sem.run_bind,run_underlying ht,Result.andThen,Sem.run_pure,hck,IV [] rfl]
  cases x with
  |none=>simp only[hzero,Sem.run_bind,Result.andThen,Sem.run_pure];rfl
  |some p=>obtain⟨i,v⟩:=p;simp only[Sem.run_pure,Sem.run_bind,Result.andThen];rfl
 ·have hg:(getObj b).run P w=.ok (.map a c) w:=by simp[getObj,Sem.run,hb]
  simp only[Sem.run_bind,run_underlying ht,Result.andThen,hg,Sem.run_pure,hck,IV a.toList rfl]
  cases x with
  |none=>simp only[hzero,Sem.run_bind,Result.andThen,Sem.run_pure];rfl
  |some p=>obtain⟨i,v⟩:=p;simp only[Sem.run_pure,Sem.run_bind,Result.andThen];rfl
theorem EB {l:List Operand} {m:List A} (htr:∀y z,tr y=some z->ρ y=r z) (h:vE tr l=some m):l.map ρ=m.map r:=by
 induction l generalizing m with
 |nil=>cases h;rfl
 |cons x l ih=>
  simp only[vE]at h;obtain⟨a,ha,h⟩:=Option.bind_eq_some_iff.1 h;obtain⟨b,hb,rfl⟩:=Option.map_eq_some_iff.1 h;simp[htr _ _ ha,ih hb]
theorem AG (w:World):∀(m:List A),(∀b∈m,isInt (r b))->∀v,isInt v->((m.map r).foldlM Builtin.max2 v).run P w=.ok (.int (kindOf v) (Mh v.i (m.map fun b=>(r b).i))) w
 |[],_,v,hv=>by
  obtain⟨k,hk⟩:=aT hv;generalize v.i=i at*;subst hk;simp[Mh,kindOf]
 |b::m,h,v,hv=>by
  obtain⟨k,hk⟩:=aT hv;obtain⟨k',D1⟩:=aT (h b (by simp));have e:(Builtin.max2 v (r b)).run P w=.ok (.int k (if(r b).i>v.i then(r b).i else v.i)) w:=by
   generalize v.i=i at*;generalize(r b).i=j at*;rw[hk,D1];simp[Builtin.max2]
  simp only[List.map_cons,List.foldlM_cons];rw[bT e,AG w m (fun c hc=>h c (by simp[hc])) (.int k (if(r b).i>v.i then(r b).i else v.i)) trivial];have e2:kindOf v=k:=by rw[hk];rfl
  rw[e2];rfl
theorem EC {q:PM} (hq:pm P tr o=some q) (htr:∀y z,tr y=some z->ρ y=r z) (hc:∀v,ρ (.const v)=v) (hpre:q.pre r w.heap):
  (execOp ρ o).run P w=.ok (.value (q.val r w.heap)) w:=by
 unfold pm at hq
 split at hq
 ·-- load
  rename_i t x hop
  split at hq
  case isFalse=>cases hq
  rename_i hag;obtain⟨a,ha,rfl⟩:=Option.map_eq_some_iff.1 hq;obtain⟨h1,h2⟩:=fk hag w;simp only[execOp,hop,htr _ _ ha];refine bJ ?_;simp only[PM.pre]at hpre;simp only[PM.val];obtain⟨xs,IU⟩:=Option.isSome_iff_exists.1 hpre;rw[IU];unfold aI at IU
  split at IU
  case h_2=>cases IU
  rename_i p hp;rw[hp];simp only[Instr.loadAt,Instr.sureAddr,Sem.run_bind,Sem.run_pure,Result.andThen,loadVar,h1,if_true,aQ P t h2,nB IU,Option.getD_some]
 ·rename_i t x y u hop;exact ot (op:=.eql) rfl hop hq htr hc hpre
 ·rename_i t x y u hop;exact ot (op:=.neq) rfl hop hq htr hc hpre
 ·-- slice
  rename_i t x lo hi hop;obtain⟨a,ha,hq⟩:=Option.bind_eq_some_iff.1 hq;obtain⟨l,hl,hq⟩:=Option.bind_eq_some_iff.1 hq;obtain⟨h,hh,hq⟩:=Option.bind_eq_some_iff.1 hq;have el:=ou hl htr;have eh:=ou hh htr
  split at hq
  ·rename_i n e hu
   split at hq
   case isFalse=>cases hq
   rename_i he
   cases hq
   obtain⟨h1,h2,h3,h4⟩:=hpre;obtain⟨p,hp⟩:=og h1;simp only[execOp,hop,htr _ _ ha,el,eh,PM.val];refine bJ ?_;rw[hp];simp only[Instr.sliceAt,Sem.run_bind,run_underlying hu,Result.andThen,Instr.sureAddr,Sem.run_pure,Option.map_none];rw[jJ h2 h3 h4];simp only[aQ P e he,Np]
  ·rename_i e hu
   split at hq
   case isFalse=>cases hq
   rename_i he
   cases hq
   obtain⟨h1,h2,h3,h4⟩:=hpre;have hp:=dN h1;simp only[execOp,hop,htr _ _ ha,el,eh,PM.val];refine bJ ?_;generalize r a=v at*;generalize fC v=ad at*;generalize aP v=ln at*;generalize eO v=cp at*;subst hp;simp only[Instr.sliceAt,Instr.slice,Sem.run_bind,run_underlying hu,Result.andThen,Sem.run_pure,Option.map_none];rw[jJ h2 h3 h4];simp only[aQ P e he,vl]
  ·rename_i hu
   cases hq
   obtain⟨h1,h2,h3,h4⟩:=hpre;have hp:=bP h1;simp only[execOp,hop,htr _ _ ha,el,eh,PM.val];refine bJ ?_;generalize r a=v at*;generalize v.s=st at*;subst hp;simp only[Instr.sliceAt,Instr.slice,Sem.run_bind,run_underlying hu,Result.andThen,Sem.run_pure,Option.map_none,Option.isSome_none,Bool.false_eq_true,if_false];rw[jJ h2 h3 h4]
  ·cases hq
 ·-- len
  rename_i args ts hop
  split at hq
  case h_2=>cases hq
  rename_i x t ha ht;obtain⟨a,hx,hq⟩:=Option.bind_eq_some_iff.1 hq;have e1:args=#[x]:=by cases args;simpa using ha
  have e2:ts=#[t]:=by cases ts;simpa using ht
  subst e1;subst e2;refine ef (s:=pure undef) hop (fun _ _=>rfl) ?_;simp only[List.map_toArray,List.map_cons,List.map_nil,htr _ _ hx]
  split at hq<;>cases hq
  ·rename_i hu;have e:=bP (v:=r a) hpre;simp only[PM.val];generalize r a=v at*;generalize v.s=q at*;subst e;simp[Builtin.len_,Sem.run_bind,run_underlying hu,Result.andThen,goInt]
  ·rename_i _ hu;have e:=dN (v:=r a) hpre;simp only[PM.val];generalize r a=v at*;generalize fC v=ad at*;generalize aP v=ln at*;generalize eO v=cp at*;subst e;simp[Builtin.len_,Sem.run_bind,run_underlying hu,Result.andThen,goInt]
  ·rename_i _ _ hu;simp only[PM.val];simp[Builtin.len_,Sem.run_bind,run_underlying hu,Result.andThen,goInt]
 ·-- cap
  rename_i args ts hop
  split at hq
  case h_2=>cases hq
  rename_i x t ha ht;obtain⟨a,hx,hq⟩:=Option.bind_eq_some_iff.1 hq;have e1:args=#[x]:=by cases args;simpa using ha
  have e2:ts=#[t]:=by cases ts;simpa using ht
  subst e1;subst e2;refine ef (s:=pure undef) hop (fun _ _=>rfl) ?_;simp only[List.map_toArray,List.map_cons,List.map_nil,htr _ _ hx]
  split at hq<;>cases hq
  rename_i _ hu;have e:=dN (v:=r a) hpre;simp only[PM.val];generalize r a=v at*;generalize fC v=ad at*;generalize aP v=ln at*;generalize eO v=cp at*;subst e;simp[Builtin.cap_,Sem.run_bind,run_underlying hu,Result.andThen,goInt]
 ·-- min
  rename_i args ts hop
  split at hq
  case h_2=>cases hq
  rename_i x y ha;obtain⟨a,hx,hq⟩:=Option.bind_eq_some_iff.1 hq;obtain⟨b,hy,hq⟩:=Option.bind_eq_some_iff.1 hq
  cases hq
  have e1:args=#[x,y]:=by cases args;simpa using ha
  subst e1;obtain⟨h1,h2⟩:=hpre;refine ef (s:=pure undef) hop (fun _ _=>rfl) ?_;simp only[List.map_toArray,List.map_cons,List.map_nil,htr _ _ hx,htr _ _ hy,PM.val];obtain⟨k,hk⟩:=aT h1;obtain⟨k',D1⟩:=aT h2;generalize(r a).i=m at*;generalize(r b).i=n at*;rw[hk,D1];simp[Builtin.min_,Builtin.min2,kindOf]
 ·-- max
  rename_i args ts hop
  split at hq
  case h_3=>cases hq
  case h_2=>
   rename_i x y z l ha;obtain⟨a,hx,hq⟩:=Option.bind_eq_some_iff.1 hq;obtain⟨m,hm,rfl⟩:=Option.map_eq_some_iff.1 hq;have e1:args=(x::y::z::l).toArray:=by cases args;simpa using ha
   subst e1;obtain⟨h1,h2⟩:=hpre;refine ef (s:=pure undef) hop (fun _ _=>rfl) ?_;have hl:=EB htr hm;simp only[List.map_toArray,List.map_cons,htr _ _ hx,PM.val]at hl⊢;simp only[Builtin.max_];rw[hl];exact AG (r:=r) w m h2 (r a) h1
  rename_i x y ha;obtain⟨a,hx,hq⟩:=Option.bind_eq_some_iff.1 hq;obtain⟨b,hy,hq⟩:=Option.bind_eq_some_iff.1 hq
  cases hq
  have e1:args=#[x,y]:=by cases args;simpa using ha
  subst e1;obtain⟨h1,h2⟩:=hpre;refine ef (s:=pure undef) hop (fun _ _=>rfl) ?_;simp only[List.map_toArray,List.map_cons,List.map_nil,htr _ _ hx,htr _ _ hy,PM.val];obtain⟨k,hk⟩:=aT h1;obtain⟨k',D1⟩:=aT h2;generalize(r a).i=m at*;generalize(r b).i=n at*;rw[hk,D1];simp[Builtin.max_,Builtin.max2,kindOf]
 ·-- index
  rename_i t x i hop;obtain⟨a,ha,hq⟩:=Option.bind_eq_some_iff.1 hq;obtain⟨j,hj,hq⟩:=Option.bind_eq_some_iff.1 hq;have ea:=htr _ _ ha;have ej:=htr _ _ hj
  split at hq
  ·rename_i n e hu
   split at hq
   ·rename_i hp1
    cases hq
    simp only[Bool.and_eq_true,beq_iff_eq]at hp1;obtain⟨h1,h2,h3,h4,h5⟩:=hpre;obtain⟨k,hk⟩:=aT h2;simp only[execOp,hop,ea,ej,PM.val];refine bJ ?_;generalize iJ:(r j).i=q at*;generalize xY:(r a).g=cs at*;rw[dk h1,hk,xY];have AH:0<=q/\q<(n:Int):=⟨h3,h4⟩
    simp only[Instr.index,Sem.run_bind,asIntOf,run_underlying hu,Result.andThen,Sem.run_pure,AH,and_self,if_true,gS P e (show P.cellsOf e≠0 by omega),hp1.2,part,iH hp1.1,Bool.false_eq_true,if_false,Nat.mul_one];simp[h5]
   ·split at hq
    ·rename_i hag
     cases hq
     obtain⟨h1,h2,h3,h4⟩:=hpre;obtain⟨k,hk⟩:=aT h2;simp only[execOp,hop,ea,ej,PM.val];refine bJ ?_;generalize iJ:(r j).i=q at*;generalize xY:(r a).g=cs at*;rw[dk h1,hk,xY];have AH:0<=q/\q<(n:Int):=⟨h3,h4⟩
     obtain⟨g1,g2⟩:=fk hag w;simp only[Instr.index,Sem.run_bind,asIntOf,run_underlying hu,Result.andThen,Sem.run_pure,AH,and_self,if_true,aQ P e g2,part,g1]
    ·cases hq
  ·rename_i hu
   cases hq
   obtain⟨h1,h2,h3,h4⟩:=hpre;obtain⟨k,hk⟩:=aT h2;simp only[execOp,hop,ea,ej,PM.val];refine bJ ?_;generalize iJ:(r j).i=q at*;generalize xY:(r a).s=st at*;rw[bP h1,hk,xY];have hlt:q.toNat<st.size:=by omega
   simp only[Instr.index,Sem.run_bind,asIntOf,run_underlying hu,Result.andThen,Sem.run_pure,h3,if_true];simp[hlt]
  ·cases hq
 ·-- field
  rename_i t x f hop;obtain⟨a,ha,hq⟩:=Option.bind_eq_some_iff.1 hq;have ea:=htr _ _ ha
  split at hq
  case h_2=>cases hq
  rename_i fs hu
  split at hq
  case h_2=>cases hq
  rename_i fd hf
  split at hq
  ·rename_i hp1
   cases hq
   obtain⟨h1,h2⟩:=hpre;simp only[execOp,hop,ea,PM.val];refine bJ ?_;generalize xY:(r a).g=cs at*;rw[dk h1,xY];simp only[Instr.field,Sem.run_bind,run_underlying hu,Result.andThen,hf,asAgg,Sem.run_pure,part,iH hp1,Bool.false_eq_true,if_false];simp[h2]
  ·split at hq
   case isFalse=>cases hq
   rename_i hag
   cases hq
   obtain⟨g1,g2⟩:=fk hag w;simp only[execOp,hop,ea,PM.val];refine bJ ?_;generalize xY:(r a).g=cs at*;rw[dk (v:=r a) hpre,xY];simp only[Instr.field,Sem.run_bind,run_underlying hu,Result.andThen,hf,asAgg,Sem.run_pure,part,g1,if_true,aQ P fd.type g2]
 ·-- build
  rename_i t parts hop
  split at hq
  case h_2=>cases hq
  rename_i z hz;obtain⟨i,hi,hz⟩:=Option.bind_eq_some_iff.1 hz;have hzero:(zeroValue t).run P w=.ok z w:=by simp[zeroValue,typeInfo,program,Sem.run,hi,hz,Sem.run_bind,Result.andThen]
  split at hq
  ·rename_i fs hu
   split at hq
   case isFalse=>cases hq
   rename_i ek;obtain⟨ps,AF,rfl⟩:=Option.map_eq_some_iff.1 hq;simp only[execOp,hop,PM.val];refine bJ ?_;have hf:=ko z.cells AF htr hpre;have Ru:(fs.mapM (fun f=>do pure (f.offset,<-sizeOf f.type):Field->Sem (Nat×Nat))).run P w=.ok (fs.map fun f=>(f.offset,P.cellsOf f.type)) w:=by
    rw[Array.mapM_eq_mapM_toList];have key:∀l:List Field,(∀f∈l,(P.info? f.type).isSome=true)->(l.mapM (fun f=>do pure (f.offset,<-sizeOf f.type):Field->Sem (Nat×Nat))).run P w=.ok (l.map fun f=>(f.offset,P.cellsOf f.type)) w:=by
     intro l
     induction l with
     |nil=>intro _;simp
     |cons f l ih=>
      intro hl;have h1:=aQ P f.type (hl f (by simp)) w;have h2:=ih (fun g hg=>hl g (by simp[hg]));simp only[bind_pure_comp]at h2;simp[List.mapM_cons,h1,h2,Result.andThen]
    have:=key fs.toList (fun f hf=>by
     have:=(Array.all_eq_true' ..|>.1 ek) f (by simpa using hf);simpa using this)
    simp only[bind_pure_comp]at this;simp[this,Result.andThen];rw[<-List.map_toArray]
   simp only[Instr.build,Sem.run_bind,hzero,Result.andThen,run_underlying hu,Ru];simp only[Array.toList_map];have e:(fun i:Nat=>(fs.map fun(f:Field)=>(f.offset,P.cellsOf f.type))[i]?)=(fun i:Nat=>(fs[i]?).map fun(f:Field)=>(f.offset,P.cellsOf f.type)):=by
    funext i;simp
   rw[e,hf]
   rfl
  ·rename_i n e hu
   split at hq
   case isFalse=>cases hq
   rename_i he;obtain⟨ps,AF,rfl⟩:=Option.map_eq_some_iff.1 hq;simp only[execOp,hop,PM.val];refine bJ ?_;have hf:=ko z.cells AF htr hpre;simp only[Instr.build,Sem.run_bind,hzero,Result.andThen,run_underlying hu,aQ P e he];simp only[Array.toList_map];rw[hf]
   rfl
  ·cases hq
 ·-- slice with a third bound
  rename_i t x lo hi mx hop;obtain⟨a,ha,hq⟩:=Option.bind_eq_some_iff.1 hq;obtain⟨l,hl,hq⟩:=Option.bind_eq_some_iff.1 hq;obtain⟨h,hh,hq⟩:=Option.bind_eq_some_iff.1 hq;obtain⟨m,hm,hq⟩:=Option.bind_eq_some_iff.1 hq;have el:=ou hl htr
  split at hq
  case h_2=>cases hq
  rename_i e hu
  split at hq
  case isFalse=>cases hq
  rename_i he
  cases hq
  obtain⟨h1,h2,h3,h4,h5,h6,h7,h8⟩:=hpre;have hp:=dN h1;simp only[execOp,hop,htr _ _ ha,el,Option.map_some,htr _ _ hh,htr _ _ hm,PM.val];refine bJ ?_;generalize r a=v at*;generalize fC v=ad at*;generalize aP v=ln at*;generalize eO v=cp at*;subst hp;simp only[Instr.sliceAt,Instr.slice,Sem.run_bind,run_underlying hu,Result.andThen,Sem.run_pure];rw[vI h2 h3 h4 h5 h6 h7 h8];simp only[aQ P e he,Nq]
 ·-- bytes to a string
  rename_i s t x hop;obtain⟨a,ha,hq⟩:=Option.bind_eq_some_iff.1 hq
  split at hq
  case h_2=>cases hq
  rename_i e hs ht
  split at hq
  case isFalse=>cases hq
  rename_i he
  cases hq
  unfold u8T at he
  split at he
  case h_2=>cases he
  rename_i hu8;simp only[execOp,hop,htr _ _ ha,PM.val];exact bJ (IT hs ht hu8 hpre)
 ·-- a closure
  rename_i g fs cs hop;obtain⟨a,ha,hq⟩:=Option.bind_eq_some_iff.1 hq;obtain⟨b,hb,rfl⟩:=Option.map_eq_some_iff.1 hq;have ea:=rm ha htr;have eb:=rm hb htr;simp only[execOp,hop,PM.val];refine bJ ?_;have e1:fs.map ρ=(a.map r).toArray:=by apply Array.ext';rw[Array.toList_map];exact ea
  have e2:cs.map ρ=(b.map r).toArray:=by apply Array.ext';rw[Array.toList_map];exact eb
  rw[e1,e2]
  rfl
 ·-- lookup
  rename_i t x i ok hop;obtain⟨a,ha,hq⟩:=Option.bind_eq_some_iff.1 hq;obtain⟨b,hb,hq⟩:=Option.bind_eq_some_iff.1 hq
  split at hq
  case h_2=>cases hq
  rename_i k e hu
  split at hq
  case h_3=>cases hq
  ·rename_i z hk hz
   cases hq
   obtain⟨h1,es,h2,h3⟩:=hpre;simp only[execOp,hop,htr _ _ ha,htr _ _ hb,PM.val,h2,Option.getD_some];exact bJ (xX hu hk hz h2 h3 h1)
  ·rename_i kk z hk hz
   split at hq
   ·cases hq
   ·rename_i hok
    cases hq
    have hok:ok=false:=by simpa using hok
    obtain⟨h1,es,h2,h3⟩:=hpre;simp only[execOp,hop,htr _ _ ha,htr _ _ hb,PM.val,h2,Option.getD_some,hok];exact bJ (vL hu hk hz h2 h3 h1)
 ·-- interface
  rename_i t x hop;obtain⟨a,ha,hq⟩:=Option.bind_eq_some_iff.1 hq
  split at hq
  ·cases hq
  ·rename_i d hd hu
   cases hq
   simp only[execOp,hop,htr _ _ ha,PM.val];refine bJ ?_;unfold Instr.makeInterface;simp only[Sem.run_bind,run_underlying hu,Result.andThen]
   cases d<;>first|rfl|exact absurd rfl (hd _)
  ·cases hq
 ·-- type assertion
  rename_i x xt t hop;obtain⟨a,ha,hq⟩:=Option.bind_eq_some_iff.1 hq
  split at hq
  ·cases hq
  ·rename_i d hd hu
   cases hq
   simp only[execOp,hop,htr _ _ ha,PM.val];refine bJ ?_;have hpre:isIf t (r a):=hpre;unfold isIf at hpre
   split at hpre
   case h_2=>exact hpre.elim
   rename_i u v hv;subst hpre;rw[hv];unfold Instr.typeAssert;simp only[Sem.run_bind,run_underlying hu,Result.andThen]
   cases d<;>first|(simp[ifV,Sem.run_pure];done)|exact absurd rfl (hd _)
  ·cases hq
 ·cases hq
end
end Go.Mg

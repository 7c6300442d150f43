/- Lemmas of ours. No conditions. -/
import Derived.Test.YtkfikjdbdfekfabDoorMgMem0
namespace Go.Mg
open Go Go.RowKit
inductive NK where
 |ptr|sl|mp|fn|ifc
inductive PM where
 |ldn (n:Nat) (a:A)
 |eqn (k:NK) (n:Bool) (a:A)
 |eqp (n:Bool) (a b:A)
 |eqa (n:Bool) (k:IntKind) (len:Nat) (a b:A)
 |sla (len size:Nat) (a:A) (lo hi:Option A)
 |sls (size:Nat) (a:A) (lo hi:Option A)
 |slt (a:A) (lo hi:Option A)
 |lens (a:A)
 |lenl (a:A)
 |lenc (n:Nat)
 |capl (a:A)
 |mn (a b:A)
 |mx (a b:A)
 |ix (n:Nat) (a i:A)
 |ixn (n size:Nat) (a i:A)
 |ixs (a i:A)
 |fld (off:Nat) (a:A)
 |fldn (off size:Nat) (a:A)
 |slm (size:Nat) (a:A) (lo:Option A) (hi mx:A)
 |b2s (a:A)
 |bld (zero:Array Value) (parts:List (Nat×Nat×A))
 |mkf (g:FuncId) (first cap:List A)
 |lks (zero:Value) (ok:Bool) (m k:A)
 |lki (kk:IntKind) (zero:Value) (m k:A)
 |mif (t:TypeId) (a:A)
 |tas (t:TypeId) (a:A)
 |eqs (n:Bool) (fs:List (Nat×Option IntKind)) (a b:A)
 |mxs (a:A) (l:List A)
def hX:NK->Value->Prop
 |.ptr,.pointer _=>True
 |.sl,.slice _ _ _=>True
 |.mp,.map _=>True
 |.fn,.func _ _ _=>True
 |.fn,.nilFunc=>True
 |.ifc,.nilIface=>True
 |.ifc,.iface _ _=>True
 |_,_=>False
def bg:Value->Bool
 |.pointer none|.slice none _ _|.map none|.nilFunc|.nilIface=>true
 |_=>false
def lL:Value->Prop|.pointer _=>True|_=>False
def eu:Value->Prop|.agg _=>True|_=>False
def _root_.Go.Value.g:Value->Array Value|.agg cs=>cs|_=>#[]
def aT:Value->Prop|.slice _ _ _=>True|_=>False
def av:Value->Nat|.slice _ n _=>n|_=>0
def bp:Value->Nat|.slice _ _ c=>c|_=>0
def bC:Value->Option Addr|.slice a _ _=>a|_=>none
def oi (r:A->Value) (x:Option A):Option Int:=x.map fun a=>(r a).i
def lM (r:A->Value):Option A->Prop
 |none=>True
 |some a=>isInt (r a)
def lN (len cap:Nat):Option Int->Option Int->Prop
 |none,none=>True
 |some l,none=>0<=l/\l<=len
 |none,some h=>0<=h/\h<=cap
 |some l,some h=>0<=l/\l<=h/\h<=cap
def dM (lo:Option Int):Nat:=(lo.getD 0).toNat
def jO (len:Nat) (hi:Option Int):Nat:=match hi with|none=>len|some h=>h.toNat
def fK (v:Value) (size:Nat) (lo hi:Option Int):Value:=
 match v with
 |.slice a l c=>.slice (if c=dM lo then a else a.map (·.add (dM lo*size))) (jO l hi -dM lo) (c -dM lo)
 |v=>v
def pt (v:Value) (n size:Nat) (lo hi:Option Int):Value:=
 match v with
 |.pointer (some a)=>.slice (some (if n=dM lo then a else a.add (dM lo*size))) (jO n hi -dM lo) (n -dM lo)
 |v=>v
def bW (r:A->Value):Array Value->List (Nat×Nat×A)->Array Value
 |C,[]=>C
 |C,(off,_,a)::l=>bW r (gg C off (r a).cells.toList) l
def bN (r:A->Value) (n:Nat):List (Nat×Nat×A)->Prop
 |[]=>True
 |(off,size,a)::l=>(r a).cells.size=size/\off+size<=n/\bN r n l
def aB (H:Hp) (v:Value):Option (Array Value):=
 match v with
 |.slice (some b) n _=>if n=0 then some #[]else aJ H b n
 |.slice none _ _=>some #[]
 |_=>none
def jP (H:Hp) (v:Value):Prop:=∃xs,aB H v=some xs/\∀x∈xs.toList,cb .u8 x
def toBA (xs:Array Value):ByteArray:=⟨xs.map fun v=>UInt8.ofNat v.i.toNat⟩
def pv (v:Value) (size l h m:Nat):Value:=match v with
 |.slice a _ _=>.slice (if m=l then a else a.map (·.add (l*size))) (h -l) (m -l)
 |v=>v
def uX (P:Program) (e:TypeId):Bool:=match P.underlying e with|some (.int .u8)=>true|_=>false
def aU (H:Hp) (v:Value):Option (List MapEntry):=
 match v with
 |.map none=>some []
 |.map (some b)=>match H[b]? with|some (.map es _)=>some es.toList|_=>none
 |_=>none
def bZ (k:ByteArray) (es:List MapEntry):Option Value:=(es.find? fun e=>k==e.key.s).map (·.val)
def isIf (t:TypeId) (v:Value):Prop:=match v with|.iface u _=>u=t|_=>False
def uY (v:Value):Value:=match v with|.iface _ x=>x|_=>undef
def fL (k:Int) (es:List MapEntry):Option Value:=(es.find? fun e=>k==e.key.i).map (·.val)
def gL:Value->List Value|.agg cs=>cs.toList|_=>[]
def iS:List (Nat×Option IntKind)->List Value->Prop
 |[],_=>True
 |(o,some k)::l,xs=>(o<xs.length/\cb k (xs.getD o undef))/\iS l xs
 |(o,none)::l,xs=>(o<xs.length/\cR (xs.getD o undef))/\iS l xs
def hY:List (Nat×Option IntKind)->List Value->List Value->Bool
 |[],_,_=>true
 |(o,some _)::l,xs,ys=>((xs.getD o undef).i==(ys.getD o undef).i)&&hY l xs ys
 |(o,none)::l,xs,ys=>((xs.getD o undef).s.toList==(ys.getD o undef).s.toList)&&hY l xs ys
def qL (m:Int):List Int->Int
 |[]=>m
 |x::l=>qL (if x>m then x else m) l
def PM.pre:PM->(A->Value)->Hp->Prop
 |.ldn n a,r,H=>(cS H (r a) n).isSome=true
 |.eqn k _ a,r,_=>hX k (r a)
 |.eqp _ a b,r,_=>lL (r a)/\lL (r b)/\(bg (r a)=true\/bg (r b)=true)
 |.eqa _ k n a b,r,_=>eu (r a)/\eu (r b)/\(r a).g.size=n/\(r b).g.size=n/\(∀x∈(r a).g,cb k x)/\(∀x∈(r b).g,cb k x)
 |.sla len _ a lo hi,r,_=>qq (r a)/\lM r lo/\lM r hi/\lN len len (oi r lo) (oi r hi)
 |.sls _ a lo hi,r,_=>aT (r a)/\lM r lo/\lM r hi/\lN (av (r a)) (bp (r a)) (oi r lo) (oi r hi)
 |.slt a lo hi,r,_=>cR (r a)/\lM r lo/\lM r hi/\lN (r a).s.size (r a).s.size (oi r lo) (oi r hi)
 |.lens a,r,_=>cR (r a)
 |.lenl a,r,_=>aT (r a)
 |.lenc _,_,_=>True
 |.capl a,r,_=>aT (r a)
 |.mn a b,r,_=>isInt (r a)/\isInt (r b)
 |.mx a b,r,_=>isInt (r a)/\isInt (r b)
 |.ix n a i,r,_=>eu (r a)/\isInt (r i)/\0<=(r i).i/\(r i).i<n/\(r i).i.toNat<(r a).g.size
 |.ixn n _ a i,r,_=>eu (r a)/\isInt (r i)/\0<=(r i).i/\(r i).i<n
 |.ixs a i,r,_=>cR (r a)/\isInt (r i)/\0<=(r i).i/\(r i).i<(r a).s.size
 |.fld off a,r,_=>eu (r a)/\off<(r a).g.size
 |.fldn _ _ a,r,_=>eu (r a)
 |.slm _ a lo hi tp,r,_=>aT (r a)/\lM r lo/\isInt (r hi)/\isInt (r tp)/\0<=(oi r lo).getD 0/\(oi r lo).getD 0<=(r hi).i/\(r hi).i<=(r tp).i/\(r tp).i<=bp (r a)
 |.b2s a,r,H=>jP H (r a)
 |.bld z ps,r,_=>bN r z.size ps
 |.mkf _ _ _,_,_=>True
 |.lks _ _ m k,r,H=>cR (r k)/\∃es,aU H (r m)=some es/\∀e∈es,cR e.key
 |.lki kk _ m k,r,H=>cb kk (r k)/\∃es,aU H (r m)=some es/\∀e∈es,cb kk e.key
 |.mif _ _,_,_=>True
 |.tas t a,r,_=>isIf t (r a)
 |.eqs _ fs a b,r,_=>(eu (r a)/\eu (r b))/\iS fs (gL (r a))/\iS fs (gL (r b))
 |.mxs a l,r,_=>isInt (r a)/\∀b∈l,isInt (r b)
def PM.free:PM->Bool
 |.ldn _ _=>false
 |.b2s _=>false
 |.lks ..=>false
 |.lki ..=>false
 |_=>true
def kindOf:Value->IntKind|.int k _=>k|_=>.i64
def PM.val:PM->(A->Value)->Hp->Value
 |.ldn n a,r,H=>.agg ((cS H (r a) n).getD #[])
 |.eqn _ n a,r,_=>.bool (n !=bg (r a))
 |.eqp n a b,r,_=>.bool (n !=(bg (r a)&&bg (r b)))
 |.eqa n _ _ a b,r,_=>.bool (n !=((r a).g.toList.map Value.i==(r b).g.toList.map Value.i))
 |.sla len size a lo hi,r,_=>pt (r a) len size (oi r lo) (oi r hi)
 |.sls size a lo hi,r,_=>fK (r a) size (oi r lo) (oi r hi)
 |.slt a lo hi,r,_=>.string ((r a).s.extract (dM (oi r lo)) (jO (r a).s.size (oi r hi)))
 |.lens a,r,_=>.int .i64 (r a).s.size
 |.lenl a,r,_=>.int .i64 (av (r a))
 |.lenc n,_,_=>.int .i64 n
 |.capl a,r,_=>.int .i64 (bp (r a))
 |.mn a b,r,_=>.int (kindOf (r a)) (if(r b).i<(r a).i then(r b).i else(r a).i)
 |.mx a b,r,_=>.int (kindOf (r a)) (if(r b).i>(r a).i then(r b).i else(r a).i)
 |.ix _ a i,r,_=>((r a).g[(r i).i.toNat]?).getD undef
 |.ixn _ size a i,r,_=>.agg ((r a).g.extract ((r i).i.toNat*size) ((r i).i.toNat*size+size))
 |.ixs a i,r,_=>.int .u8 (((r a).s[(r i).i.toNat]?.getD 0).toNat)
 |.fld off a,r,_=>((r a).g[off]?).getD undef
 |.fldn off size a,r,_=>.agg ((r a).g.extract off (off+size))
 |.slm size a lo hi tp,r,_=>pv (r a) size (dM (oi r lo)) (r hi).i.toNat (r tp).i.toNat
 |.b2s a,r,H=>.string (toBA ((aB H (r a)).getD #[]))
 |.bld z ps,r,_=>.agg (bW r z ps)
 |.mkf g fs cs,r,_=>.func (.func g) (fs.map r).toArray (cs.map r).toArray
 |.lks z ok m k,r,H=>if ok=true then .tuple #[(bZ (r k).s ((aU H (r m)).getD [])).getD z,.bool (bZ (r k).s ((aU H (r m)).getD [])).isSome]else(bZ (r k).s ((aU H (r m)).getD [])).getD z
 |.lki _ z m k,r,H=>(fL (r k).i ((aU H (r m)).getD [])).getD z
 |.mif t a,r,_=>.iface t (r a)
 |.tas _ a,r,_=>uY (r a)
 |.eqs n fs a b,r,_=>.bool (n !=hY fs (gL (r a)) (gL (r b)))
 |.mxs a l,r,_=>.int (kindOf (r a)) (qL (r a).i (l.map fun b=>(r b).i))
def rQ (tr:Operand->Option A):Option Operand->Option (Option A)
 |none=>some none
 |some x=>(tr x).map some
def dk (P:Program) (t:TypeId):Bool:=
 match P.underlying t with
 |some (.struct _)|some (.array _ _)|none=>false
 |_=>true
def iT (P:Program) (t:TypeId):Bool:=
 match P.underlying t with
 |some (.struct _)|some (.array _ _)=>(P.info? t).isSome
 |_=>false
def bk (tr:Operand->Option A) (place:Nat->Option (Nat×Nat)):List (Nat×Operand)->Option (List (Nat×Nat×A))
 |[]=>some []
 |(i,x)::l=>(place i).bind fun p=>(tr x).bind fun a=>(bk tr place l).map ((p.1,p.2,a)::·)
def lO:Operand->Option NK
 |.const (.pointer none)=>some .ptr
 |.const (.slice none _ _)=>some .sl
 |.const (.map none)=>some .mp
 |.const .nilFunc=>some .fn
 |.const .nilIface=>some .ifc
 |_=>none
def jQ:NK->TypeDesc->Bool
 |.ptr,.pointer _=>true
 |.sl,.slice _=>true
 |.mp,.map _ _=>true
 |.fn,.func _ _ _=>true
 |.ifc,.interface _=>true
 |_,_=>false
def hZ (P:Program):List Field->Option (List (Nat×Option IntKind))
 |[]=>some []
 |f::l=>if f.name= "_" then none else match P.underlying f.type with
  |some (.int k)=>(hZ P l).map ((f.offset,some k)::·)
  |some .string=>(hZ P l).map ((f.offset,none)::·)
  |_=>none
def nq (P:Program) (tr:Operand->Option A) (n:Bool) (t:TypeId) (x y:Operand):Option PM:=
 match P.underlying t with
 |none=>none
 |some d=>
  match lO y with
  |some k=>if jQ k d then(tr x).map (.eqn k n)else none
  |none=>
   match d with
   |.pointer _=>(tr x).bind fun a=>(tr y).bind fun b=>some (.eqp n a b)
   |.array len e=>match P.underlying e with
    |some (.int k)=>if P.cellsOf e=1 then(tr x).bind fun a=>(tr y).bind fun b=>some (.eqa n k len a b)else none
    |_=>none
   |.struct fs=>if P.stoodInHeld t=true then none else(hZ P fs.toList).bind fun l=>(tr x).bind fun a=>(tr y).bind fun b=>some (.eqs n l a b)
   |_=>none
def h9 (tr:Operand->Option A):List Operand->Option (List A)
 |[]=>some []
 |x::l=>(tr x).bind fun a=>(h9 tr l).map (a::·)
def pm (P:Program) (tr:Operand->Option A) (o:Oper):Option PM:=
 match o.op with
 |.load t x=>if iT P t then(tr x).map (.ldn (P.cellsOf t))else none
 |.binOp .eql t x y _=>nq P tr false t x y
 |.binOp .neq t x y _=>nq P tr true t x y
 |.slice t x lo hi none=>
  (tr x).bind fun a=>(rQ tr lo).bind fun l=>(rQ tr hi).bind fun h=>
  match P.underlying t with
  |some (.array n e)=>if(P.info? e).isSome then some (.sla n (P.cellsOf e) a l h)else none
  |some (.slice e)=>if(P.info? e).isSome then some (.sls (P.cellsOf e) a l h)else none
  |some .string=>some (.slt a l h)
  |_=>none
 |.call {callee:=.builtin .len,args,argTypes}=>
  match args.toList,argTypes.toList with
  |[x],[t]=>(tr x).bind fun a=>match P.underlying t with
   |some .string=>some (.lens a)
   |some (.slice _)=>some (.lenl a)
   |some (.array n _)=>some (.lenc n)
   |_=>none
  |_,_=>none
 |.call {callee:=.builtin .cap,args,argTypes}=>
  match args.toList,argTypes.toList with
  |[x],[t]=>(tr x).bind fun a=>match P.underlying t with
   |some (.slice _)=>some (.capl a)
   |_=>none
  |_,_=>none
 |.call {callee:=.builtin .min,args, ..}=>
  match args.toList with
  |[x,y]=>(tr x).bind fun a=>(tr y).bind fun b=>some (.mn a b)
  |_=>none
 |.call {callee:=.builtin .max,args, ..}=>
  match args.toList with
  |[x,y]=>(tr x).bind fun a=>(tr y).bind fun b=>some (.mx a b)
  |x::y::z::l=>(tr x).bind fun a=>(h9 tr (y::z::l)).map (.mxs a ·)
  |_=>none
 |.index t x i=>(tr x).bind fun a=>(tr i).bind fun j=>
  match P.underlying t with
  |some (.array n e)=>if dk P e&&P.cellsOf e==1 then some (.ix n a j)else if iT P e then some (.ixn n (P.cellsOf e) a j)else none
  |some .string=>some (.ixs a j)
  |_=>none
 |.field t x f=>(tr x).bind fun a=>
  match P.underlying t with
  |some (.struct fs)=>match fs[f]? with
   |some fd=>if dk P fd.type then some (.fld fd.offset a)else if iT P fd.type then some (.fldn fd.offset (P.cellsOf fd.type) a)else none
   |none=>none
  |_=>none
 |.build t parts=>
  match(P.info? t).bind (·.zero)with
  |some z=>match P.underlying t with
   |some (.struct fs)=>if fs.all fun f=>(P.info? f.type).isSome then(bk tr (fun i=>(fs[i]?).map fun f=>(f.offset,P.cellsOf f.type)) parts.toList).map (.bld z.cells)else none
   |some (.array _ e)=>if(P.info? e).isSome then(bk tr (fun i=>some (i*P.cellsOf e,P.cellsOf e)) parts.toList).map (.bld z.cells)else none
   |_=>none
  |none=>none
 |.slice t x lo (some hi) (some mx)=>
  (tr x).bind fun a=>(rQ tr lo).bind fun l=>(tr hi).bind fun h=>(tr mx).bind fun m=>
  match P.underlying t with
  |some (.slice e)=>if(P.info? e).isSome then some (.slm (P.cellsOf e) a l h m)else none
  |_=>none
 |.convert s t x=>(tr x).bind fun a=>
  match P.underlying s,P.underlying t with
  |some (.slice e),some .string=>if uX P e=true then some (.b2s a)else none
  |_,_=>none
 |.makeFunc (.func g) fs cs=>(h9 tr fs.toList).bind fun a=>(h9 tr cs.toList).map fun b=>.mkf g a b
 |.lookup t x i ok=>(tr x).bind fun a=>(tr i).bind fun b=>
  match P.underlying t with
  |some (.map k e)=>match P.underlying k,(P.info? e).bind (·.zero)with
   |some .string,some z=>some (.lks z ok a b)
   |some (.int kk),some z=>if ok=true then none else some (.lki kk z a b)
   |_,_=>none
  |_=>none
 |.makeInterface t x=>(tr x).bind fun a=>match P.underlying t with
  |some (.interface _)=>none
  |some _=>some (.mif t a)
  |none=>none
 |.typeAssert x _ t false=>(tr x).bind fun a=>match P.underlying t with
  |some (.interface _)=>none
  |some _=>some (.tas t a)
  |none=>none
 |_=>none
end Go.Mg

/- Part of the proof of EngineAdaptsCardSaid: a lemma text of ours, over the kit alone. No conditions. -/
import Derived.Test.YtoclemmcphgikaaGreatDoorMgMem0
namespace Go.Mg
open Go Go.RowKit
inductive NK where
 |ptr|sl|mp|fn|ifc
inductive PM where
 |ldn (n:Nat) (a:A)
 |eqn (k:NK) (n:Bool) (a:A)
 |eqp (n:Bool) (a b:A)
 |eqa (n:Bool) (k:IntKind) (len:Nat) (a b:A)
 |sla (len size:Nat) (a:A) (lo hi:Option A)
 |sls (size:Nat) (a:A) (lo hi:Option A)
 |slt (a:A) (lo hi:Option A)
 |lens (a:A)
 |lenl (a:A)
 |lenc (n:Nat)
 |capl (a:A)
 |mn (a b:A)
 |mx (a b:A)
 |ix (n:Nat) (a i:A)
 |ixn (n size:Nat) (a i:A)
 |ixs (a i:A)
 |fld (off:Nat) (a:A)
 |fldn (off size:Nat) (a:A)
 |slm (size:Nat) (a:A) (lo:Option A) (hi mx:A)
 |b2s (a:A)
 |bld (zero:Array Value) (parts:List (Nat×Nat×A))
 |mkf (g:FuncId) (first cap:List A)
 |lks (zero:Value) (ok:Bool) (m k:A)
 |lki (kk:IntKind) (zero:Value) (m k:A)
 |mif (t:TypeId) (a:A)
 |tas (t:TypeId) (a:A)
 |eqs (n:Bool) (fs:List (Nat×Option IntKind)) (a b:A)
 |mxs (a:A) (l:List A)
def okNil:NK->Value->Prop
 |.ptr,.pointer _=>True
 |.sl,.slice _ _ _=>True
 |.mp,.map _=>True
 |.fn,.func _ _ _=>True
 |.fn,.nilFunc=>True
 |.ifc,.nilIface=>True
 |.ifc,.iface _ _=>True
 |_,_=>False
def isNilV:Value->Bool
 |.pointer none|.slice none _ _|.map none|.nilFunc|.nilIface=>true
 |_=>false
def isPt:Value->Prop|.pointer _=>True|_=>False
def isAg:Value->Prop|.agg _=>True|_=>False
def _root_.Go.Value.g:Value->Array Value|.agg cs=>cs|_=>#[]
def isSl:Value->Prop|.slice _ _ _=>True|_=>False
def lenV:Value->Nat|.slice _ n _=>n|_=>0
def capV:Value->Nat|.slice _ _ c=>c|_=>0
def adrV:Value->Option Addr|.slice a _ _=>a|_=>none
def oi (r:A->Value) (x:Option A):Option Int:=x.map fun a=>(r a).i
def okI (r:A->Value):Option A->Prop
 |none=>True
 |some a=>isInt (r a)
def okLH (len cap:Nat):Option Int->Option Int->Prop
 |none,none=>True
 |some l,none=>0<=l/\l<=len
 |none,some h=>0<=h/\h<=cap
 |some l,some h=>0<=l/\l<=h/\h<=cap
def loN (lo:Option Int):Nat:=(lo.getD 0).toNat
def hiN (len:Nat) (hi:Option Int):Nat:=match hi with|none=>len|some h=>h.toNat
def slV (v:Value) (size:Nat) (lo hi:Option Int):Value:=
 match v with
 |.slice a l c=>.slice (if c=loN lo then a else a.map (·.add (loN lo*size))) (hiN l hi -loN lo) (c -loN lo)
 |v=>v
def slaV (v:Value) (n size:Nat) (lo hi:Option Int):Value:=
 match v with
 |.pointer (some a)=>.slice (some (if n=loN lo then a else a.add (loN lo*size))) (hiN n hi -loN lo) (n -loN lo)
 |v=>v
def fillV (r:A->Value):Array Value->List (Nat×Nat×A)->Array Value
 |C,[]=>C
 |C,(off,_,a)::l=>fillV r (wrA C off (r a).cells.toList) l
def okFill (r:A->Value) (n:Nat):List (Nat×Nat×A)->Prop
 |[]=>True
 |(off,size,a)::l=>(r a).cells.size=size/\off+size<=n/\okFill r n l
def bytesIn (H:Hp) (v:Value):Option (Array Value):=
 match v with
 |.slice (some b) n _=>if n=0 then some #[]else ldNA H b n
 |.slice none _ _=>some #[]
 |_=>none
def okB2s (H:Hp) (v:Value):Prop:=∃xs,bytesIn H v=some xs/\∀x∈xs.toList,isI .u8 x
def toBA (xs:Array Value):ByteArray:=⟨xs.map fun v=>UInt8.ofNat v.i.toNat⟩
def slmV (v:Value) (size l h m:Nat):Value:=match v with
 |.slice a _ _=>.slice (if m=l then a else a.map (·.add (l*size))) (h -l) (m -l)
 |v=>v
def u8T (P:Program) (e:TypeId):Bool:=match P.underlying e with|some (.int .u8)=>true|_=>false
def mapIn (H:Hp) (v:Value):Option (List MapEntry):=
 match v with
 |.map none=>some []
 |.map (some b)=>match H[b]? with|some (.map es _)=>some es.toList|_=>none
 |_=>none
def findE (k:ByteArray) (es:List MapEntry):Option Value:=(es.find? fun e=>k==e.key.s).map (·.val)
def isIf (t:TypeId) (v:Value):Prop:=match v with|.iface u _=>u=t|_=>False
def ifV (v:Value):Value:=match v with|.iface _ x=>x|_=>undef
def findI (k:Int) (es:List MapEntry):Option Value:=(es.find? fun e=>k==e.key.i).map (·.val)
def gL:Value->List Value|.agg cs=>cs.toList|_=>[]
def okFs:List (Nat×Option IntKind)->List Value->Prop
 |[],_=>True
 |(o,some k)::l,xs=>(o<xs.length/\isI k (xs.getD o undef))/\okFs l xs
 |(o,none)::l,xs=>(o<xs.length/\isS (xs.getD o undef))/\okFs l xs
def eqFs:List (Nat×Option IntKind)->List Value->List Value->Bool
 |[],_,_=>true
 |(o,some _)::l,xs,ys=>((xs.getD o undef).i==(ys.getD o undef).i)&&eqFs l xs ys
 |(o,none)::l,xs,ys=>((xs.getD o undef).s.toList==(ys.getD o undef).s.toList)&&eqFs l xs ys
def mxF (m:Int):List Int->Int
 |[]=>m
 |x::l=>mxF (if x>m then x else m) l
def PM.pre:PM->(A->Value)->Hp->Prop
 |.ldn n a,r,H=>(ldNO H (r a) n).isSome=true
 |.eqn k _ a,r,_=>okNil k (r a)
 |.eqp _ a b,r,_=>isPt (r a)/\isPt (r b)/\(isNilV (r a)=true\/isNilV (r b)=true)
 |.eqa _ k n a b,r,_=>isAg (r a)/\isAg (r b)/\(r a).g.size=n/\(r b).g.size=n/\(∀x∈(r a).g,isI k x)/\(∀x∈(r b).g,isI k x)
 |.sla len _ a lo hi,r,_=>isP (r a)/\okI r lo/\okI r hi/\okLH len len (oi r lo) (oi r hi)
 |.sls _ a lo hi,r,_=>isSl (r a)/\okI r lo/\okI r hi/\okLH (lenV (r a)) (capV (r a)) (oi r lo) (oi r hi)
 |.slt a lo hi,r,_=>isS (r a)/\okI r lo/\okI r hi/\okLH (r a).s.size (r a).s.size (oi r lo) (oi r hi)
 |.lens a,r,_=>isS (r a)
 |.lenl a,r,_=>isSl (r a)
 |.lenc _,_,_=>True
 |.capl a,r,_=>isSl (r a)
 |.mn a b,r,_=>isInt (r a)/\isInt (r b)
 |.mx a b,r,_=>isInt (r a)/\isInt (r b)
 |.ix n a i,r,_=>isAg (r a)/\isInt (r i)/\0<=(r i).i/\(r i).i<n/\(r i).i.toNat<(r a).g.size
 |.ixn n _ a i,r,_=>isAg (r a)/\isInt (r i)/\0<=(r i).i/\(r i).i<n
 |.ixs a i,r,_=>isS (r a)/\isInt (r i)/\0<=(r i).i/\(r i).i<(r a).s.size
 |.fld off a,r,_=>isAg (r a)/\off<(r a).g.size
 |.fldn _ _ a,r,_=>isAg (r a)
 |.slm _ a lo hi tp,r,_=>isSl (r a)/\okI r lo/\isInt (r hi)/\isInt (r tp)/\0<=(oi r lo).getD 0/\(oi r lo).getD 0<=(r hi).i/\(r hi).i<=(r tp).i/\(r tp).i<=capV (r a)
 |.b2s a,r,H=>okB2s H (r a)
 |.bld z ps,r,_=>okFill r z.size ps
 |.mkf _ _ _,_,_=>True
 |.lks _ _ m k,r,H=>isS (r k)/\∃es,mapIn H (r m)=some es/\∀e∈es,isS e.key
 |.lki kk _ m k,r,H=>isI kk (r k)/\∃es,mapIn H (r m)=some es/\∀e∈es,isI kk e.key
 |.mif _ _,_,_=>True
 |.tas t a,r,_=>isIf t (r a)
 |.eqs _ fs a b,r,_=>(isAg (r a)/\isAg (r b))/\okFs fs (gL (r a))/\okFs fs (gL (r b))
 |.mxs a l,r,_=>isInt (r a)/\∀b∈l,isInt (r b)
def PM.free:PM->Bool
 |.ldn _ _=>false
 |.b2s _=>false
 |.lks ..=>false
 |.lki ..=>false
 |_=>true
def kindOf:Value->IntKind|.int k _=>k|_=>.i64
def PM.val:PM->(A->Value)->Hp->Value
 |.ldn n a,r,H=>.agg ((ldNO H (r a) n).getD #[])
 |.eqn _ n a,r,_=>.bool (n !=isNilV (r a))
 |.eqp n a b,r,_=>.bool (n !=(isNilV (r a)&&isNilV (r b)))
 |.eqa n _ _ a b,r,_=>.bool (n !=((r a).g.toList.map Value.i==(r b).g.toList.map Value.i))
 |.sla len size a lo hi,r,_=>slaV (r a) len size (oi r lo) (oi r hi)
 |.sls size a lo hi,r,_=>slV (r a) size (oi r lo) (oi r hi)
 |.slt a lo hi,r,_=>.string ((r a).s.extract (loN (oi r lo)) (hiN (r a).s.size (oi r hi)))
 |.lens a,r,_=>.int .i64 (r a).s.size
 |.lenl a,r,_=>.int .i64 (lenV (r a))
 |.lenc n,_,_=>.int .i64 n
 |.capl a,r,_=>.int .i64 (capV (r a))
 |.mn a b,r,_=>.int (kindOf (r a)) (if(r b).i<(r a).i then(r b).i else(r a).i)
 |.mx a b,r,_=>.int (kindOf (r a)) (if(r b).i>(r a).i then(r b).i else(r a).i)
 |.ix _ a i,r,_=>((r a).g[(r i).i.toNat]?).getD undef
 |.ixn _ size a i,r,_=>.agg ((r a).g.extract ((r i).i.toNat*size) ((r i).i.toNat*size+size))
 |.ixs a i,r,_=>.int .u8 (((r a).s[(r i).i.toNat]?.getD 0).toNat)
 |.fld off a,r,_=>((r a).g[off]?).getD undef
 |.fldn off size a,r,_=>.agg ((r a).g.extract off (off+size))
 |.slm size a lo hi tp,r,_=>slmV (r a) size (loN (oi r lo)) (r hi).i.toNat (r tp).i.toNat
 |.b2s a,r,H=>.string (toBA ((bytesIn H (r a)).getD #[]))
 |.bld z ps,r,_=>.agg (fillV r z ps)
 |.mkf g fs cs,r,_=>.func (.func g) (fs.map r).toArray (cs.map r).toArray
 |.lks z ok m k,r,H=>if ok=true then .tuple #[(findE (r k).s ((mapIn H (r m)).getD [])).getD z,.bool (findE (r k).s ((mapIn H (r m)).getD [])).isSome]else(findE (r k).s ((mapIn H (r m)).getD [])).getD z
 |.lki _ z m k,r,H=>(findI (r k).i ((mapIn H (r m)).getD [])).getD z
 |.mif t a,r,_=>.iface t (r a)
 |.tas _ a,r,_=>ifV (r a)
 |.eqs n fs a b,r,_=>.bool (n !=eqFs fs (gL (r a)) (gL (r b)))
 |.mxs a l,r,_=>.int (kindOf (r a)) (mxF (r a).i (l.map fun b=>(r b).i))
def trO (tr:Operand->Option A):Option Operand->Option (Option A)
 |none=>some none
 |some x=>(tr x).map some
def plain1 (P:Program) (t:TypeId):Bool:=
 match P.underlying t with
 |some (.struct _)|some (.array _ _)|none=>false
 |_=>true
def aggr (P:Program) (t:TypeId):Bool:=
 match P.underlying t with
 |some (.struct _)|some (.array _ _)=>(P.info? t).isSome
 |_=>false
def trParts (tr:Operand->Option A) (place:Nat->Option (Nat×Nat)):List (Nat×Operand)->Option (List (Nat×Nat×A))
 |[]=>some []
 |(i,x)::l=>(place i).bind fun p=>(tr x).bind fun a=>(trParts tr place l).map ((p.1,p.2,a)::·)
def nilOf:Operand->Option NK
 |.const (.pointer none)=>some .ptr
 |.const (.slice none _ _)=>some .sl
 |.const (.map none)=>some .mp
 |.const .nilFunc=>some .fn
 |.const .nilIface=>some .ifc
 |_=>none
def fitsNil:NK->TypeDesc->Bool
 |.ptr,.pointer _=>true
 |.sl,.slice _=>true
 |.mp,.map _ _=>true
 |.fn,.func _ _ _=>true
 |.ifc,.interface _=>true
 |_,_=>false
def trFs (P:Program):List Field->Option (List (Nat×Option IntKind))
 |[]=>some []
 |f::l=>if f.name= "_" then none else match P.underlying f.type with
  |some (.int k)=>(trFs P l).map ((f.offset,some k)::·)
  |some .string=>(trFs P l).map ((f.offset,none)::·)
  |_=>none
def pmEq (P:Program) (tr:Operand->Option A) (n:Bool) (t:TypeId) (x y:Operand):Option PM:=
 match P.underlying t with
 |none=>none
 |some d=>
  match nilOf y with
  |some k=>if fitsNil k d then(tr x).map (.eqn k n)else none
  |none=>
   match d with
   |.pointer _=>(tr x).bind fun a=>(tr y).bind fun b=>some (.eqp n a b)
   |.array len e=>match P.underlying e with
    |some (.int k)=>if P.cellsOf e=1 then(tr x).bind fun a=>(tr y).bind fun b=>some (.eqa n k len a b)else none
    |_=>none
   |.struct fs=>if P.stoodInHeld t=true then none else(trFs P fs.toList).bind fun l=>(tr x).bind fun a=>(tr y).bind fun b=>some (.eqs n l a b)
   |_=>none
def trLs (tr:Operand->Option A):List Operand->Option (List A)
 |[]=>some []
 |x::l=>(tr x).bind fun a=>(trLs tr l).map (a::·)
def pm (P:Program) (tr:Operand->Option A) (o:Oper):Option PM:=
 match o.op with
 |.load t x=>if aggr P t then(tr x).map (.ldn (P.cellsOf t))else none
 |.binOp .eql t x y _=>pmEq P tr false t x y
 |.binOp .neq t x y _=>pmEq P tr true t x y
 |.slice t x lo hi none=>
  (tr x).bind fun a=>(trO tr lo).bind fun l=>(trO tr hi).bind fun h=>
  match P.underlying t with
  |some (.array n e)=>if(P.info? e).isSome then some (.sla n (P.cellsOf e) a l h)else none
  |some (.slice e)=>if(P.info? e).isSome then some (.sls (P.cellsOf e) a l h)else none
  |some .string=>some (.slt a l h)
  |_=>none
 |.call {callee:=.builtin .len,args,argTypes}=>
  match args.toList,argTypes.toList with
  |[x],[t]=>(tr x).bind fun a=>match P.underlying t with
   |some .string=>some (.lens a)
   |some (.slice _)=>some (.lenl a)
   |some (.array n _)=>some (.lenc n)
   |_=>none
  |_,_=>none
 |.call {callee:=.builtin .cap,args,argTypes}=>
  match args.toList,argTypes.toList with
  |[x],[t]=>(tr x).bind fun a=>match P.underlying t with
   |some (.slice _)=>some (.capl a)
   |_=>none
  |_,_=>none
 |.call {callee:=.builtin .min,args, ..}=>
  match args.toList with
  |[x,y]=>(tr x).bind fun a=>(tr y).bind fun b=>some (.mn a b)
  |_=>none
 |.call {callee:=.builtin .max,args, ..}=>
  match args.toList with
  |[x,y]=>(tr x).bind fun a=>(tr y).bind fun b=>some (.mx a b)
  |x::y::z::l=>(tr x).bind fun a=>(trLs tr (y::z::l)).map (.mxs a ·)
  |_=>none
 |.index t x i=>(tr x).bind fun a=>(tr i).bind fun j=>
  match P.underlying t with
  |some (.array n e)=>if plain1 P e&&P.cellsOf e==1 then some (.ix n a j)else if aggr P e then some (.ixn n (P.cellsOf e) a j)else none
  |some .string=>some (.ixs a j)
  |_=>none
 |.field t x f=>(tr x).bind fun a=>
  match P.underlying t with
  |some (.struct fs)=>match fs[f]? with
   |some fd=>if plain1 P fd.type then some (.fld fd.offset a)else if aggr P fd.type then some (.fldn fd.offset (P.cellsOf fd.type) a)else none
   |none=>none
  |_=>none
 |.build t parts=>
  match(P.info? t).bind (·.zero)with
  |some z=>match P.underlying t with
   |some (.struct fs)=>if fs.all fun f=>(P.info? f.type).isSome then(trParts tr (fun i=>(fs[i]?).map fun f=>(f.offset,P.cellsOf f.type)) parts.toList).map (.bld z.cells)else none
   |some (.array _ e)=>if(P.info? e).isSome then(trParts tr (fun i=>some (i*P.cellsOf e,P.cellsOf e)) parts.toList).map (.bld z.cells)else none
   |_=>none
  |none=>none
 |.slice t x lo (some hi) (some mx)=>
  (tr x).bind fun a=>(trO tr lo).bind fun l=>(tr hi).bind fun h=>(tr mx).bind fun m=>
  match P.underlying t with
  |some (.slice e)=>if(P.info? e).isSome then some (.slm (P.cellsOf e) a l h m)else none
  |_=>none
 |.convert s t x=>(tr x).bind fun a=>
  match P.underlying s,P.underlying t with
  |some (.slice e),some .string=>if u8T P e=true then some (.b2s a)else none
  |_,_=>none
 |.makeFunc (.func g) fs cs=>(trLs tr fs.toList).bind fun a=>(trLs tr cs.toList).map fun b=>.mkf g a b
 |.lookup t x i ok=>(tr x).bind fun a=>(tr i).bind fun b=>
  match P.underlying t with
  |some (.map k e)=>match P.underlying k,(P.info? e).bind (·.zero)with
   |some .string,some z=>some (.lks z ok a b)
   |some (.int kk),some z=>if ok=true then none else some (.lki kk z a b)
   |_,_=>none
  |_=>none
 |.makeInterface t x=>(tr x).bind fun a=>match P.underlying t with
  |some (.interface _)=>none
  |some _=>some (.mif t a)
  |none=>none
 |.typeAssert x _ t false=>(tr x).bind fun a=>match P.underlying t with
  |some (.interface _)=>none
  |some _=>some (.tas t a)
  |none=>none
 |_=>none
end Go.Mg

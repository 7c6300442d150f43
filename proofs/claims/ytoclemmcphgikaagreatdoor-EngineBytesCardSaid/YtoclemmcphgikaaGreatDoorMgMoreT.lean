/- Lemmas of ours. No conditions. -/
import Derived.Test.YtoclemmcphgikaaGreatDoorMgMem0
import Derived.Laws.BytesString
open Bool renaming false→ZS,true→ZT
open Decidable renaming decide→ZQ
open Go renaming Value→ZR
open Go.IntKind renaming i64→ZY,u8→ZX
open Go.Value renaming int→Z8,pointer→Z7,slice→Z6,tuple→ZZ
open Option renaming none→ZU,some→ZV
open Array renaming ext'→Xy,getElem_mem→Wh,toList_map→XF
open Bool renaming and_false→Ya,false_eq_true→ZD,or_false→Wx
open List renaming any_cons→VM,find?→WJ,findIdx?_cons→Wg,foldl_cons→VZ,map_cons→Y9,map_nil→YC,map_toArray→YV,range→ZF
open Nat renaming mul_one→Zs
open Option renaming bind_eq_some_iff→Zv,getD_some→Zu,map_none→Ye,map_some→YQ
open UInt8 renaming ofNat→ZG
set_option linter.all false
namespace Go.Mg
open Go Go.RowKit
inductive NK where
 |ptr|sl|mp|fn|ifc
inductive PM where
 |ldn (n:Nat) (a:A)
 |eqn (k:NK) (n:Bool) (a:A)
 |eqp (n:Bool) (a b:A)
 |eqa (n:Bool) (k:IntKind) (len:Nat) (a b:A)
 |sla (len size:Nat) (a:A) (lo hi:Option A)
 |sls (size:Nat) (a:A) (lo hi:Option A)
 |slt (a:A) (lo hi:Option A)
 |lens (a:A)
 |lenl (a:A)
 |lenc (n:Nat)
 |capl (a:A)
 |mn (a b:A)
 |mx (a b:A)
 |ix (n:Nat) (a i:A)
 |ixn (n size:Nat) (a i:A)
 |ixs (a i:A)
 |fld (off:Nat) (a:A)
 |fldn (off size:Nat) (a:A)
 |slm (size:Nat) (a:A) (lo:Option A) (hi mx:A)
 |b2s (a:A)
 |bld (zero:Array ZR) (parts:List (Nat×Nat×A))
 |mkf (g:FuncId) (first cap:List A)
 |lks (zero:ZR) (ok:Bool) (m k:A)
 |lki (kk:IntKind) (zero:ZR) (m k:A)
 |mif (t:TypeId) (a:A)
 |tas (t:TypeId) (a:A)
 |eqs (n:Bool) (fs:List (Nat×Option IntKind)) (a b:A)
 |mxs (a:A) (l:List A)
def DW:NK->ZR->Prop
 |.ptr,.pointer _=>True
 |.sl,.slice _ _ _=>True
 |.mp,.map _=>True
 |.fn,.func _ _ _=>True
 |.fn,.nilFunc=>True
 |.ifc,.nilIface=>True
 |.ifc,.iface _ _=>True
 |_,_=>False
def gJ:ZR->Bool
 |.pointer ZU|.slice ZU _ _|.map ZU|.nilFunc|.nilIface=>ZT
 |_=>ZS
def Pv:ZR->Prop|.pointer _=>True|_=>False
def vh:ZR->Prop|.agg _=>True|_=>False
def _root_.Go.Value.g:ZR->Array ZR|.agg cs=>cs|_=>#[]
def aq:ZR->Prop|.slice _ _ _=>True|_=>False
def aW:ZR->Nat|.slice _ n _=>n|_=>0
def iw:ZR->Nat|.slice _ _ c=>c|_=>0
def iT:ZR->Option Addr|.slice a _ _=>a|_=>ZU
def oi (r:A->ZR) (x:Option A):Option Int:=x.map fun a=>(r a).i
def Pw (r:A->ZR):Option A->Prop
 |none=>True
 |some a=>isInt (r a)
def Px (len cap:Nat):Option Int->Option Int->Prop
 |none,ZU=>True
 |some l,ZU=>0<=l/\l<=len
 |none,ZV h=>0<=h/\h<=cap
 |some l,ZV h=>0<=l/\l<=h/\h<=cap
def pz (lo:Option Int):Nat:=(lo.getD 0).toNat
def DM (len:Nat) (hi:Option Int):Nat:=match hi with|none=>len|some h=>h.toNat
def xW (v:ZR) (size:Nat) (lo hi:Option Int):ZR:=
 match v with
 |.slice a l c=>.slice (if c=pz lo then a else a.map (·.add (pz lo*size))) (DM l hi -pz lo) (c -pz lo)
 |v=>v
def aeV (v:ZR) (n size:Nat) (lo hi:Option Int):ZR:=
 match v with
 |.pointer (ZV a)=>Z6 (ZV (if n=pz lo then a else a.add (pz lo*size))) (DM n hi -pz lo) (n -pz lo)
 |v=>v
def gq (r:A->ZR):Array ZR->List (Nat×Nat×A)->Array ZR
 |C,[]=>C
 |C,(off,_,a)::l=>gq r (jx C off (r a).cells.toList) l
def eJ (r:A->ZR) (n:Nat):List (Nat×Nat×A)->Prop
 |[]=>True
 |(off,size,a)::l=>(r a).cells.size=size/\off+size<=n/\eJ r n l
def bO (H:Hp) (v:ZR):Option (Array ZR):=
 match v with
 |.slice (ZV b) n _=>if n=0 then ZV #[]else aQ H b n
 |.slice ZU _ _=>ZV #[]
 |_=>ZU
def KR (H:Hp) (v:ZR):Prop:=∃xs,bO H v=ZV xs/\∀x∈xs.toList,ju ZX x
def toBA (xs:Array ZR):ByteArray:=⟨xs.map fun v=>ZG v.i.toNat⟩
def aeW (v:ZR) (size l h m:Nat):ZR:=match v with
 |.slice a _ _=>.slice (if m=l then a else a.map (·.add (l*size))) (h -l) (m -l)
 |v=>v
def u8T (P:Program) (e:TypeId):Bool:=match P.underlying e with|some (.int ZX)=>ZT|_=>ZS
def eQ (H:Hp) (v:ZR):Option (List MapEntry):=
 match v with
 |.map ZU=>ZV []
 |.map (ZV b)=>match H[b]? with|some (.map es _)=>ZV es.toList|_=>ZU
 |_=>ZU
def lI (k:ByteArray) (es:List MapEntry):Option ZR:=(es.find? fun e=>k==e.key.s).map (·.val)
def isIf (t:TypeId) (v:ZR):Prop:=match v with|.iface u _=>u=t|_=>False
def ifV (v:ZR):ZR:=match v with|.iface _ x=>x|_=>undef
def iy (k:Int) (es:List MapEntry):Option ZR:=(es.find? fun e=>k==e.key.i).map (·.val)
def gL:ZR->List ZR|.agg cs=>cs.toList|_=>[]
def DX:List (Nat×Option IntKind)->List ZR->Prop
 |[],_=>True
 |(o,ZV k)::l,xs=>(o<xs.length/\ju k (xs.getD o undef))/\DX l xs
 |(o,ZU)::l,xs=>(o<xs.length/\pI (xs.getD o undef))/\DX l xs
def ye:List (Nat×Option IntKind)->List ZR->List ZR->Bool
 |[],_,_=>ZT
 |(o,ZV _)::l,xs,ys=>((xs.getD o undef).i==(ys.getD o undef).i)&&ye l xs ys
 |(o,ZU)::l,xs,ys=>((xs.getD o undef).s.toList==(ys.getD o undef).s.toList)&&ye l xs ys
def mxF (m:Int):List Int->Int
 |[]=>m
 |x::l=>mxF (if x>m then x else m) l
def PM.pre:PM->(A->ZR)->Hp->Prop
 |.ldn n a,r,H=>(aL H (r a) n).isSome=ZT
 |.eqn k _ a,r,_=>DW k (r a)
 |.eqp _ a b,r,_=>Pv (r a)/\Pv (r b)/\(gJ (r a)=ZT\/gJ (r b)=ZT)
 |.eqa _ k n a b,r,_=>vh (r a)/\vh (r b)/\(r a).g.size=n/\(r b).g.size=n/\(∀x∈(r a).g,ju k x)/\(∀x∈(r b).g,ju k x)
 |.sla len _ a lo hi,r,_=>KN (r a)/\Pw r lo/\Pw r hi/\Px len len (oi r lo) (oi r hi)
 |.sls _ a lo hi,r,_=>aq (r a)/\Pw r lo/\Pw r hi/\Px (aW (r a)) (iw (r a)) (oi r lo) (oi r hi)
 |.slt a lo hi,r,_=>pI (r a)/\Pw r lo/\Pw r hi/\Px (r a).s.size (r a).s.size (oi r lo) (oi r hi)
 |.lens a,r,_=>pI (r a)
 |.lenl a,r,_=>aq (r a)
 |.lenc _,_,_=>True
 |.capl a,r,_=>aq (r a)
 |.mn a b,r,_=>isInt (r a)/\isInt (r b)
 |.mx a b,r,_=>isInt (r a)/\isInt (r b)
 |.ix n a i,r,_=>vh (r a)/\isInt (r i)/\0<=(r i).i/\(r i).i<n/\(r i).i.toNat<(r a).g.size
 |.ixn n _ a i,r,_=>vh (r a)/\isInt (r i)/\0<=(r i).i/\(r i).i<n
 |.ixs a i,r,_=>pI (r a)/\isInt (r i)/\0<=(r i).i/\(r i).i<(r a).s.size
 |.fld off a,r,_=>vh (r a)/\off<(r a).g.size
 |.fldn _ _ a,r,_=>vh (r a)
 |.slm _ a lo hi tp,r,_=>aq (r a)/\Pw r lo/\isInt (r hi)/\isInt (r tp)/\0<=(oi r lo).getD 0/\(oi r lo).getD 0<=(r hi).i/\(r hi).i<=(r tp).i/\(r tp).i<=iw (r a)
 |.b2s a,r,H=>KR H (r a)
 |.bld z ps,r,_=>eJ r z.size ps
 |.mkf _ _ _,_,_=>True
 |.lks _ _ m k,r,H=>pI (r k)/\∃es,eQ H (r m)=ZV es/\∀e∈es,pI e.key
 |.lki kk _ m k,r,H=>ju kk (r k)/\∃es,eQ H (r m)=ZV es/\∀e∈es,ju kk e.key
 |.mif _ _,_,_=>True
 |.tas t a,r,_=>isIf t (r a)
 |.eqs _ fs a b,r,_=>(vh (r a)/\vh (r b))/\DX fs (gL (r a))/\DX fs (gL (r b))
 |.mxs a l,r,_=>isInt (r a)/\∀b∈l,isInt (r b)
def PM.free:PM->Bool
 |.ldn _ _=>ZS
 |.b2s _=>ZS
 |.lks ..=>ZS
 |.lki ..=>ZS
 |_=>ZT
def kindOf:ZR->IntKind|.int k _=>k|_=>ZY
def PM.val:PM->(A->ZR)->Hp->ZR
 |.ldn n a,r,H=>.agg ((aL H (r a) n).getD #[])
 |.eqn _ n a,r,_=>.bool (n !=gJ (r a))
 |.eqp n a b,r,_=>.bool (n !=(gJ (r a)&&gJ (r b)))
 |.eqa n _ _ a b,r,_=>.bool (n !=((r a).g.toList.map Value.i==(r b).g.toList.map Value.i))
 |.sla len size a lo hi,r,_=>aeV (r a) len size (oi r lo) (oi r hi)
 |.sls size a lo hi,r,_=>xW (r a) size (oi r lo) (oi r hi)
 |.slt a lo hi,r,_=>.string ((r a).s.extract (pz (oi r lo)) (DM (r a).s.size (oi r hi)))
 |.lens a,r,_=>Z8 ZY (r a).s.size
 |.lenl a,r,_=>Z8 ZY (aW (r a))
 |.lenc n,_,_=>Z8 ZY n
 |.capl a,r,_=>Z8 ZY (iw (r a))
 |.mn a b,r,_=>.int (kindOf (r a)) (if(r b).i<(r a).i then(r b).i else(r a).i)
 |.mx a b,r,_=>.int (kindOf (r a)) (if(r b).i>(r a).i then(r b).i else(r a).i)
 |.ix _ a i,r,_=>((r a).g[(r i).i.toNat]?).getD undef
 |.ixn _ size a i,r,_=>.agg ((r a).g.extract ((r i).i.toNat*size) ((r i).i.toNat*size+size))
 |.ixs a i,r,_=>Z8 ZX (((r a).s[(r i).i.toNat]?.getD 0).toNat)
 |.fld off a,r,_=>((r a).g[off]?).getD undef
 |.fldn off size a,r,_=>.agg ((r a).g.extract off (off+size))
 |.slm size a lo hi tp,r,_=>aeW (r a) size (pz (oi r lo)) (r hi).i.toNat (r tp).i.toNat
 |.b2s a,r,H=>.string (toBA ((bO H (r a)).getD #[]))
 |.bld z ps,r,_=>.agg (gq r z ps)
 |.mkf g fs cs,r,_=>.func (.func g) (fs.map r).toArray (cs.map r).toArray
 |.lks z ok m k,r,H=>if ok=ZT then ZZ #[(lI (r k).s ((eQ H (r m)).getD [])).getD z,.bool (lI (r k).s ((eQ H (r m)).getD [])).isSome]else(lI (r k).s ((eQ H (r m)).getD [])).getD z
 |.lki _ z m k,r,H=>(iy (r k).i ((eQ H (r m)).getD [])).getD z
 |.mif t a,r,_=>.iface t (r a)
 |.tas _ a,r,_=>ifV (r a)
 |.eqs n fs a b,r,_=>.bool (n !=ye fs (gL (r a)) (gL (r b)))
 |.mxs a l,r,_=>.int (kindOf (r a)) (mxF (r a).i (l.map fun b=>(r b).i))
def trO (tr:Operand->Option A):Option Operand->Option (Option A)
 |none=>ZV ZU
 |some x=>(tr x).map ZV
def rH (P:Program) (t:TypeId):Bool:=
 match P.underlying t with
 |some (.struct _)|some (.array _ _)|none=>ZS
 |_=>ZT
def F7 (P:Program) (t:TypeId):Bool:=
 match P.underlying t with
 |some (.struct _)|some (.array _ _)=>(P.info? t).isSome
 |_=>ZS
def gS (tr:Operand->Option A) (place:Nat->Option (Nat×Nat)):List (Nat×Operand)->Option (List (Nat×Nat×A))
 |[]=>ZV []
 |(i,x)::l=>(place i).bind fun p=>(tr x).bind fun a=>(gS tr place l).map ((p.1,p.2,a)::·)
def Py:Operand->Option NK
 |.const (Z7 ZU)=>ZV .ptr
 |.const (Z6 ZU _ _)=>ZV .sl
 |.const (.map ZU)=>ZV .mp
 |.const .nilFunc=>ZV .fn
 |.const .nilIface=>ZV .ifc
 |_=>ZU
def KU:NK->TypeDesc->Bool
 |.ptr,.pointer _=>ZT
 |.sl,.slice _=>ZT
 |.mp,.map _ _=>ZT
 |.fn,.func _ _ _=>ZT
 |.ifc,.interface _=>ZT
 |_,_=>ZS
def DY (P:Program):List Field->Option (List (Nat×Option IntKind))
 |[]=>ZV []
 |f::l=>if f.name= "_" then ZU else match P.underlying f.type with
  |some (.int k)=>(DY P l).map ((f.offset,ZV k)::·)
  |some .string=>(DY P l).map ((f.offset,ZU)::·)
  |_=>ZU
def UO (P:Program) (tr:Operand->Option A) (n:Bool) (t:TypeId) (x y:Operand):Option PM:=
 match P.underlying t with
 |none=>ZU
 |some d=>
  match Py y with
  |some k=>if KU k d then(tr x).map (.eqn k n)else ZU
  |none=>
   match d with
   |.pointer _=>(tr x).bind fun a=>(tr y).bind fun b=>ZV (.eqp n a b)
   |.array len e=>match P.underlying e with
    |some (.int k)=>if P.cellsOf e=1 then(tr x).bind fun a=>(tr y).bind fun b=>ZV (.eqa n k len a b)else ZU
    |_=>ZU
   |.struct fs=>if P.stoodInHeld t=ZT then ZU else(DY P fs.toList).bind fun l=>(tr x).bind fun a=>(tr y).bind fun b=>ZV (.eqs n l a b)
   |_=>ZU
def DZ (tr:Operand->Option A):List Operand->Option (List A)
 |[]=>ZV []
 |x::l=>(tr x).bind fun a=>(DZ tr l).map (a::·)
def pm (P:Program) (tr:Operand->Option A) (o:Oper):Option PM:=
 match o.op with
 |.load t x=>if F7 P t then(tr x).map (.ldn (P.cellsOf t))else ZU
 |.binOp .eql t x y _=>UO P tr ZS t x y
 |.binOp .neq t x y _=>UO P tr ZT t x y
 |.slice t x lo hi ZU=>
  (tr x).bind fun a=>(trO tr lo).bind fun l=>(trO tr hi).bind fun h=>
  match P.underlying t with
  |some (.array n e)=>if(P.info? e).isSome then ZV (.sla n (P.cellsOf e) a l h)else ZU
  |some (.slice e)=>if(P.info? e).isSome then ZV (.sls (P.cellsOf e) a l h)else ZU
  |some .string=>ZV (.slt a l h)
  |_=>ZU
 |.call {callee:=.builtin .len,args,argTypes}=>
  match args.toList,argTypes.toList with
  |[x],[t]=>(tr x).bind fun a=>match P.underlying t with
   |some .string=>ZV (.lens a)
   |some (.slice _)=>ZV (.lenl a)
   |some (.array n _)=>ZV (.lenc n)
   |_=>ZU
  |_,_=>ZU
 |.call {callee:=.builtin .cap,args,argTypes}=>
  match args.toList,argTypes.toList with
  |[x],[t]=>(tr x).bind fun a=>match P.underlying t with
   |some (.slice _)=>ZV (.capl a)
   |_=>ZU
  |_,_=>ZU
 |.call {callee:=.builtin .min,args, ..}=>
  match args.toList with
  |[x,y]=>(tr x).bind fun a=>(tr y).bind fun b=>ZV (.mn a b)
  |_=>ZU
 |.call {callee:=.builtin .max,args, ..}=>
  match args.toList with
  |[x,y]=>(tr x).bind fun a=>(tr y).bind fun b=>ZV (.mx a b)
  |x::y::z::l=>(tr x).bind fun a=>(DZ tr (y::z::l)).map (.mxs a ·)
  |_=>ZU
 |.index t x i=>(tr x).bind fun a=>(tr i).bind fun j=>
  match P.underlying t with
  |some (.array n e)=>if rH P e&&P.cellsOf e==1 then ZV (.ix n a j)else if F7 P e then ZV (.ixn n (P.cellsOf e) a j)else ZU
  |some .string=>ZV (.ixs a j)
  |_=>ZU
 |.field t x f=>(tr x).bind fun a=>
  match P.underlying t with
  |some (.struct fs)=>match fs[f]? with
   |some fd=>if rH P fd.type then ZV (.fld fd.offset a)else if F7 P fd.type then ZV (.fldn fd.offset (P.cellsOf fd.type) a)else ZU
   |none=>ZU
  |_=>ZU
 |.build t parts=>
  match(P.info? t).bind (·.zero)with
  |some z=>match P.underlying t with
   |some (.struct fs)=>if fs.all fun f=>(P.info? f.type).isSome then(gS tr (fun i=>(fs[i]?).map fun f=>(f.offset,P.cellsOf f.type)) parts.toList).map (.bld z.cells)else ZU
   |some (.array _ e)=>if(P.info? e).isSome then(gS tr (fun i=>ZV (i*P.cellsOf e,P.cellsOf e)) parts.toList).map (.bld z.cells)else ZU
   |_=>ZU
  |none=>ZU
 |.slice t x lo (ZV hi) (ZV mx)=>
  (tr x).bind fun a=>(trO tr lo).bind fun l=>(tr hi).bind fun h=>(tr mx).bind fun m=>
  match P.underlying t with
  |some (.slice e)=>if(P.info? e).isSome then ZV (.slm (P.cellsOf e) a l h m)else ZU
  |_=>ZU
 |.convert s t x=>(tr x).bind fun a=>
  match P.underlying s,P.underlying t with
  |some (.slice e),ZV .string=>if u8T P e=ZT then ZV (.b2s a)else ZU
  |_,_=>ZU
 |.makeFunc (.func g) fs cs=>(DZ tr fs.toList).bind fun a=>(DZ tr cs.toList).map fun b=>.mkf g a b
 |.lookup t x i ok=>(tr x).bind fun a=>(tr i).bind fun b=>
  match P.underlying t with
  |some (.map k e)=>match P.underlying k,(P.info? e).bind (·.zero)with
   |some .string,ZV z=>ZV (.lks z ok a b)
   |some (.int kk),ZV z=>if ok=ZT then ZU else ZV (.lki kk z a b)
   |_,_=>ZU
  |_=>ZU
 |.makeInterface t x=>(tr x).bind fun a=>match P.underlying t with
  |some (.interface _)=>ZU
  |some _=>ZV (.mif t a)
  |none=>ZU
 |.typeAssert x _ t ZS=>(tr x).bind fun a=>match P.underlying t with
  |some (.interface _)=>ZU
  |some _=>ZV (.tas t a)
  |none=>ZU
 |_=>ZU
variable {v:ZR}
def eR (h:vh v):v=.agg v.g:=by
 cases v<;>simp only[vh]at h;rfl
def fP (h:aq v):v=.slice (iT v) (aW v) (iw v):=by
 cases v<;>simp only[aq]at h;rfl
section
variable {P:Program} {o:Oper} {w:World} {ρ:Operand->ZR} {tr:Operand->Option A} {r:A->ZR}
def iz {t:TypeId} (h:F7 P t=ZT) (w:World):(isAgg t).run P w=.ok ZT w/\(P.info? t).isSome=ZT:=by
 unfold F7 at h
 split at h
 ·rename_i fs hu;exact⟨by simp only[isAgg,Sem.run_bind,run_underlying hu,Result.andThen,Sem.run_pure],h⟩
 ·rename_i n e hu;exact⟨by simp only[isAgg,Sem.run_bind,run_underlying hu,Result.andThen,Sem.run_pure],h⟩
 ·cases h
def mc {t:TypeId} (h:rH P t=ZT) (w:World):(isAgg t).run P w=.ok ZS w:=by
 unfold rH at h
 cases hu:P.underlying t with
 |none=>simp[hu]at h
 |some d=>
 rw[hu]at h;simp only[isAgg,Sem.run_bind,run_underlying hu,Result.andThen]
 cases d<;>first|rfl|cases h
def cX {α β:Type} {s:Sem α} {f:α->Sem β} {v:α} {w w':World} (h:s.run P w=.ok v w'):(s>>=f).run P w=(f v).run P w':=by
 simp only[Sem.run_bind,h,Result.andThen]
def F8 (op:BinOp) (t:TypeId) (x y:Operand) (a b:ZR) (h:(∀xs,a≠.agg xs)/\a≠.nilIface):(eqGuard op t x y a b).run P w=.ok () w:=by
 unfold eqGuard
 by_cases ho:(match op with|.eql=>ZT|.neq=>ZT|_=>ZS)=ZT
 ·cases op<;>simp at ho<;>(cases a<;>first|rfl|exact(h.1 _ rfl).elim|exact(h.2 rfl).elim)
 ·cases op<;>simp at ho<;>rfl
def zv:NK->ZR->Prop
 |.ptr,Z7 ZU=>True
 |.sl,Z6 ZU _ _=>True
 |.mp,.map ZU=>True
 |.fn,.nilFunc=>True
 |.ifc,.nilIface=>True
 |_,_=>False
def F9 {y:Operand} {k:NK} (h:Py y=ZV k):∃v,y=.const v/\zv k v:=by
 unfold Py at h
 split at h<;>cases h<;>exact⟨_,rfl,trivial⟩
def ahg (d:Nat) {t:TypeId} {td:TypeDesc} (hu:P.underlying t=ZV td) {k:NK} (hf:KU k td=ZT) {v:ZR} (hv:DW k v) {z:ZR}
  (hz:zv k z):
  (Op.equalIn (d+1) t v z).run P w=.ok (gJ v) w:=by
 simp only[Op.equalIn,Sem.run_bind,run_underlying hu,Result.andThen]
 cases k
 case ptr=>
  cases td<;>first|(cases hf;done)|skip
  cases v<;>first|exact hv.elim|skip
  cases z<;>first|exact hz.elim|skip
  rename_i e a b
  cases b<;>first|exact hz.elim|skip
  cases a<;>rfl
 case sl=>
  cases td<;>first|(cases hf;done)|skip
  cases v<;>first|exact hv.elim|skip
  cases z<;>first|exact hz.elim|skip
  rename_i e a l c b l' c'
  cases b<;>first|exact hz.elim|skip
  cases a<;>rfl
 case mp=>
  cases td<;>first|(cases hf;done)|skip
  cases v<;>first|exact hv.elim|skip
  cases z<;>first|exact hz.elim|skip
  rename_i e q a b
  cases b<;>first|exact hz.elim|skip
  cases a<;>rfl
 case fn=>
  cases td<;>first|(cases hf;done)|skip
  cases v<;>first|exact hv.elim|skip
  all_goals
   cases z<;>first|exact hz.elim|skip
   rfl
 case ifc=>
  cases td<;>first|(cases hf;done)|skip
  cases v<;>first|exact hv.elim|skip
  all_goals
   cases z<;>first|exact hz.elim|skip
   rfl
def MM {k:NK} {v z:ZR} (hv:DW k v)
  (hz:zv k z) (t:TypeId):
  binOp .eql t v z=(do pure (.bool (←Op.equal t v z)))/\binOp .neq t v z=(do pure (.bool (!(←Op.equal t v z)))):=by
 cases k<;>cases v<;>first|exact hv.elim|(cases z<;>first|exact hz.elim|exact⟨rfl,rfl⟩)
def D0 (op:BinOp) (t:TypeId) (x y:Operand) {k:NK} {v z:ZR} (hy:y=.const z) (hv:DW k v)
  (hz:zv k z):(eqGuard op t x y v z).run P w=.ok () w:=by
 subst hy
 cases op<;>cases k<;>cases v<;>first|exact hv.elim|(cases z<;>first|exact hz.elim|rfl|skip)
 all_goals (cases x<;>rfl)
def uG {n:Bool} {op:BinOp} (hop:op=if n then .neq else .eql) {t:TypeId} {x y:Operand} {u:TypeId} (ho:o.op=.binOp op t x y u) {v z:ZR} (hx:ρ x=v) (hy:ρ y=z) {b:Bool}
  (hg:(eqGuard op t x y v z).run P w=.ok () w) (hnum:binOp .eql t v z=(do pure (.bool (←Op.equal t v z)))/\binOp .neq t v z=(do pure (.bool (!(←Op.equal t v z)))))
  (h:(Op.equal t v z).run P w=.ok b w):(execOp ρ o).run P w=.ok (.value (.bool (n !=b))) w:=by
 simp only[execOp,ho,hx,hy];refine cO ?_;rw[cX hg]
 cases n<;>simp at hop<;>subst hop
 ·rw[hnum.1];simp only[Sem.run_bind,h,Result.andThen,Sem.run_pure];simp
 ·rw[hnum.2];simp only[Sem.run_bind,h,Result.andThen,Sem.run_pure];simp
def ptrEq (d:Nat) {t e:TypeId} (hu:P.underlying t=ZV (.pointer e)) {a b:ZR} (ha:Pv a) (hb:Pv b) (h:gJ a=ZT\/gJ b=ZT):
  (Op.equalIn (d+1) t a b).run P w=.ok (gJ a&&gJ b) w:=by
 simp only[Op.equalIn,Sem.run_bind,run_underlying hu,Result.andThen]
 cases a<;>first|exact ha.elim|skip
 cases b<;>first|exact hb.elim|skip
 rename_i p q
 cases p with
 |none=>cases q<;>rfl
 |some p=>cases q with
  |none=>rfl
  |some q=>simp[gJ]at h
def pL (f:Nat->Sem Bool) (g:Nat->Bool):∀(l:List Nat),(∀i∈l,(f i).run P w=.ok (g i) w)→
  (forIn l ((ZU,()):Option Bool×Unit) (fun i _=>do
   let b<-f i
   if(!b)=ZT then pure (ForInStep.done (ZV ZS,()))else pure (ForInStep.yield (ZU,())):Nat->Option Bool×Unit->Sem (ForInStep (Option Bool×Unit)))).run P w=.ok ((if l.all g then ZU else ZV ZS),()) w
 |[],_=>by simp
 |i::l,h=>by
  have h1:=h i (by simp);have ih:=pL f g l (fun j hj=>h j (by simp[hj]));rw[List.forIn_cons];simp only[bind_assoc,Sem.run_bind,h1,Result.andThen]
  cases hg:g i
  ·simp;simp[hg]
  ·simp only[Bool.not_true,ZD,if_false,Sem.run_pure];rw[ih];simp[hg]
def D1 {e:TypeId} {k:IntKind} (he:P.underlying e=ZV (.int k)) {xs:Array ZR} {i:Nat} (hi:i<xs.size) (w:World):(part e xs i).run P w=.ok xs[i] w:=by
 have:(isAgg e).run P w=.ok ZS w:=by simp only[isAgg,Sem.run_bind,run_underlying he,Result.andThen,Sem.run_pure]
 simp[part,Sem.run_bind,this,Result.andThen,hi]
def pM (d:Nat) {e:TypeId} {k:IntKind} (he:P.underlying e=ZV (.int k)) {x y:ZR} (hx:ju k x) (hy:ju k y) (w:World):(Op.equalIn (d+1) e x y).run P w=.ok (x.i==y.i) w:=by
 rw[bX hx,bX hy];simp only[Op.equalIn,Sem.run_bind,run_underlying he,Result.andThen,if_true,Sem.run_pure,Value.i]
def zw (xs ys:Array ZR) (n:Nat) (hx:xs.size=n) (hy:ys.size=n):
  ((ZF n).all fun i=>((xs[i]?.getD undef).i==(ys[i]?.getD undef).i))=(xs.toList.map Value.i==ys.toList.map Value.i):=by
 rw[Bool.eq_iff_iff];simp only[List.all_eq_true,List.mem_range,beq_iff_eq]
 constructor
 ·intro h;apply List.ext_getElem
  ·simp[hx,hy]
  ·intro i h1 h2;have hi:i<n:=by simpa[hx]using h1
   have:=h i hi;simpa[hx,hy,hi]using this
 ·intro h i hi;have e:(xs.toList.map Value.i)[i]?=(ys.toList.map Value.i)[i]?:=by rw[h]
  have h1:i<xs.size:=by omega
  have h2:i<ys.size:=by omega
  simp only[List.getElem?_map,Array.getElem?_toList,h1,h2,Array.getElem?_eq_getElem,YQ,Option.some.injEq]at e;simpa[h1,h2]using e
def aeX (D:Nat) {t e:TypeId} {len:Nat} {k:IntKind} (hu:P.underlying t=ZV (.array len e)) (he:P.underlying e=ZV (.int k)) (hs:P.cellsOf e=1) {xs ys:Array ZR} (hx:xs.size=len) (hy:ys.size=len)
  (h1:∀x∈xs,ju k x) (h2:∀x∈ys,ju k x) (hD:∀x y,ju k x->ju k y->(Op.equalIn D e x y).run P w=.ok (x.i==y.i) w):(Op.equalIn (D+1) t (.agg xs) (.agg ys)).run P w=.ok (xs.toList.map Value.i==ys.toList.map Value.i) w:=by
 have hsz:=km P e (by omega) w;simp only[Op.equalIn,Sem.run_bind,run_underlying hu,Result.andThen,hsz,hs,Zs];rw[Std.Legacy.Range.forIn_eq_forIn_range'];have hl:List.range' 0 (Std.Legacy.Range.size [:len]) 1=ZF len:=by rw[List.range_eq_range'];simp[Std.Legacy.Range.size]
 have key:=pL (P:=P) (w:=w) (fun i=>do
   let a<-part e xs i
   let b<-part e ys i
   Op.equalIn D e a b) (fun i=>((xs[i]?.getD undef).i==(ys[i]?.getD undef).i)) (ZF len) ?_
 ·simp only[bind_assoc]at key;rw[show([:len]:Std.Legacy.Range).start=0 from rfl,show([:len]:Std.Legacy.Range).step=1 from rfl,hl,key,zw xs ys len hx hy]
  cases(xs.toList.map Value.i==ys.toList.map Value.i)<;>rfl
 ·intro i hi;have hi:i<len:=List.mem_range.1 hi;have a1:i<xs.size:=by omega
  have a2:i<ys.size:=by omega
  rw[cX (D1 he a1 w),cX (D1 he a2 w),hD _ _ (h1 _ (Wh a1)) (h2 _ (Wh a2))];simp[a1,a2]
def ahh (d:Nat) {t e:TypeId} {len:Nat} {k:IntKind} (hu:P.underlying t=ZV (.array len e)) (he:P.underlying e=ZV (.int k)) (hs:P.cellsOf e=1) {xs ys:Array ZR} (hx:xs.size=len) (hy:ys.size=len)
  (h1:∀x∈xs,ju k x) (h2:∀x∈ys,ju k x):(Op.equalIn (d+2) t (.agg xs) (.agg ys)).run P w=.ok (xs.toList.map Value.i==ys.toList.map Value.i) w:=
 aeX (d+1) hu he hs hx hy h1 h2 fun _ _ a b=>pM d he a b w
def ui {t e:TypeId} {len:Nat} {k:IntKind} (hu:P.underlying t=ZV (.array len e)) (he:P.underlying e=ZV (.int k)) (d:Nat):P.eqGuardType (d+2) t=ZS:=by
 simp only[Program.eqGuardType,hu,he]
def D6 (op:BinOp) {t e:TypeId} {len:Nat} {k:IntKind} (hu:P.underlying t=ZV (.array len e)) (he:P.underlying e=ZV (.int k)) (x y:Operand) (xs ys:Array ZR):
  (eqGuard op t x y (.agg xs) (.agg ys)).run P w=.ok () w:=by
 have:P.eqGuardType P.depth t=ZS:=by unfold Program.depth;exact ui hu he _
 exact run_eqGuard_agg (w:=w) op t x y xs ys this
def kn {e:TypeId} (he:(∃k,P.underlying e=ZV (.int k))\/P.underlying e=ZV .string) {xs:Array ZR} {i:Nat} (hi:i<xs.toList.length) (w:World):(part e xs i).run P w=.ok (xs.toList.getD i undef) w:=by
 have:(isAgg e).run P w=.ok ZS w:=by
  rcases he with⟨k,he⟩|he<;>simp only[isAgg,Sem.run_bind,run_underlying he,Result.andThen,Sem.run_pure]
 have iU:i<xs.size:=by simpa using hi
 have e2:xs.toList.getD i undef=xs[i]:=by rw[List.getD_eq_getElem?_getD];simp[iU]
 rw[e2];simp[part,Sem.run_bind,this,Result.andThen,iU]
def ko (d:Nat) {xs ys:Array ZR} (w:World):∀(fs:List Field) (l:List (Nat×Option IntKind)),DY P fs=ZV l->DX l xs.toList->DX l ys.toList->(Op.eqFields (d+1) xs ys fs).run P w=.ok (ye l xs.toList ys.toList) w
 |[],l,h,_,_=>by cases h;simp[Op.eqFields,ye]
 |f::fs,l,h,h1,h2=>by
  simp only[DY]at h
  split at h
  ·cases h
  ·rename_i hn
   split at h
   ·rename_i k hk;obtain⟨l',hl,rfl⟩:=Option.map_eq_some_iff.1 h;obtain⟨⟨a1,a2⟩,a3⟩:=h1;obtain⟨⟨b1,b2⟩,b3⟩:=h2;have ih:=ko d w fs l' hl a3 b3;simp only[Op.eqFields,hn,ne_eq,not_false_eq_true,if_true];rw[cX (kn (.inl ⟨k,hk⟩) a1 w),cX (kn (.inl ⟨k,hk⟩) b1 w),cX (pM d hk a2 b2 w)];rw[ye]
    cases((xs.toList.getD f.offset undef).i==(ys.toList.getD f.offset undef).i)<;>simp[ih]
   ·rename_i hk;obtain⟨l',hl,rfl⟩:=Option.map_eq_some_iff.1 h;obtain⟨⟨a1,a2⟩,a3⟩:=h1;obtain⟨⟨b1,b2⟩,b3⟩:=h2;have ih:=ko d w fs l' hl a3 b3;have hs:(Op.equalIn (d+1) f.type (xs.toList.getD f.offset undef) (ys.toList.getD f.offset undef)).run P w=.ok ((xs.toList.getD f.offset undef).s.toList==(ys.toList.getD f.offset undef).s.toList) w:=by
     rw[cT a2,cT b2];exact run_equalIn_string w d f.type _ _ hk
    simp only[Op.eqFields,hn,ne_eq,not_false_eq_true,if_true];rw[cX (kn (.inr hk) a1 w),cX (kn (.inr hk) b1 w),cX hs];rw[ye]
    cases((xs.toList.getD f.offset undef).s.toList==(ys.toList.getD f.offset undef).s.toList)<;>simp[ih]
   ·cases h
def oL (d:Nat):∀(fs:List Field) (l:List (Nat×Option IntKind)),DY P fs=ZV l->(fs.any fun f=>f.name != "_" &&P.eqGuardType (d+1) f.type)=ZS
 |[],_,_=>rfl
 |f::fs,l,h=>by
  simp only[DY]at h
  split at h
  ·cases h
  ·split at h
   ·rename_i k hk;obtain⟨l',hl,rfl⟩:=Option.map_eq_some_iff.1 h;rw[VM,oL d fs l' hl,Wx];simp only[Program.eqGuardType,hk,Ya]
   ·rename_i hk;obtain⟨l',hl,rfl⟩:=Option.map_eq_some_iff.1 h;rw[VM,oL d fs l' hl,Wx];simp only[Program.eqGuardType,hk,Ya]
   ·cases h
def zx (op:BinOp) {t:TypeId} {fs:Array Field} {l:List (Nat×Option IntKind)} (hu:P.underlying t=ZV (.struct fs)) (hl:DY P fs.toList=ZV l) (x y:Operand) (xs ys:Array ZR):
  (eqGuard op t x y (.agg xs) (.agg ys)).run P w=.ok () w:=by
 have:P.eqGuardType P.depth t=ZS:=by
  unfold Program.depth;simp only[Program.eqGuardType,hu];rw[<-Array.any_toList];exact oL _ _ _ hl
 exact run_eqGuard_agg (w:=w) op t x y xs ys this
def vi {n:Bool} {op:BinOp} (hop:op=if n then .neq else .eql) {t:TypeId} {x y:Operand} {u:TypeId} (ho:o.op=.binOp op t x y u) {q:PM} (hq:UO P tr n t x y=ZV q)
  (htr:∀y z,tr y=ZV z->ρ y=r z) (hc:∀v,ρ (.const v)=v) (hpre:q.pre r w.heap):(execOp ρ o).run P w=.ok (.value (q.val r w.heap)) w:=by
 unfold UO at hq
 split at hq
 ·cases hq
 ·rename_i td hu
  split at hq
  ·rename_i k hk
   split at hq
   ·rename_i hf;obtain⟨a,ha,rfl⟩:=Option.map_eq_some_iff.1 hq;obtain⟨z,hy,hz⟩:=F9 hk;have ex:=htr _ _ ha;have ey:ρ y=z:=by rw[hy];exact hc z
    exact uG hop ho ex ey (D0 op t x y hy hpre hz) (MM hpre hz t) (jw fun d=>ahg (d+2) hu hf hpre hz)
   ·cases hq
  ·split at hq
   ·simp only[Zv]at hq;obtain⟨a,ha,b,hb,hq⟩:=hq
    cases hq
    obtain⟨h1,h2,h3⟩:=hpre;refine uG hop ho (htr _ _ ha) (htr _ _ hb) ?_ ?_ (jw fun d=>ptrEq (d+2) hu h1 h2 h3)
    ·refine F8 op t x y _ _ ⟨?_,?_⟩
     ·intro xs hx;rw[hx]at h1;exact h1.elim
     ·intro hx;rw[hx]at h1;exact h1.elim
    ·generalize r a=a' at*;generalize r b=b' at*
     cases a'<;>first|exact h1.elim|skip
     cases b'<;>first|exact h2.elim|exact⟨rfl,rfl⟩
   ·rename_i len e _
    split at hq
    ·rename_i k hk
     split at hq
     ·rename_i hs;simp only[Zv]at hq;obtain⟨a,ha,b,hb,hq⟩:=hq
      cases hq
      obtain⟨h1,h2,h3,h4,h5,h6⟩:=hpre;refine uG hop ho ((htr _ _ ha).trans (eR h1)) ((htr _ _ hb).trans (eR h2)) (D6 op hu hk x y _ _) ⟨rfl,rfl⟩ (jw fun d=>ahh (d+1) hu hk hs h3 h4 h5 h6)
     ·cases hq
    ·cases hq
   ·rename_i fs
    split at hq
    ·cases hq
    ·rename_i hst;simp only[Zv]at hq;obtain⟨l,hl,a,ha,b,hb,hq⟩:=hq
     cases hq
     obtain⟨⟨h1,h2⟩,h3,h4⟩:=hpre;have hfs:P.fieldsOf t=fs:=by simp[Program.fieldsOf,hu]
     have ea:=eR h1;have eb:=eR h2;have e1:gL (r a)=(r a).g.toList:=by rw[ea];rfl
     have e2:gL (r b)=(r b).g.toList:=by rw[eb];rfl
     rw[e1]at h3;rw[e2]at h4;refine uG hop ho ((htr _ _ ha).trans ea) ((htr _ _ hb).trans eb) (zx op hu hl x y _ _) ⟨rfl,rfl⟩ (jw fun d=>?_);rw[show d+3=(d+2)+1 from rfl,run_equalIn_agg w (d+2) t _ _ (by rw[hfs];exact hu) (by simpa using hst),hfs,e1,e2];exact ko (d+1) w _ _ hl h3 h4
   ·cases hq
end
section
variable {P:Program} {o:Oper} {w:World} {ρ:Operand->ZR} {tr:Operand->Option A} {r:A->ZR}
def vj {x:Option Operand} {y:Option A} (h:trO tr x=ZV y) (htr:∀y z,tr y=ZV z->ρ y=r z):x.map ρ=y.map r:=by
 cases x with
 |none=>cases h;rfl
 |some x=>obtain⟨z,hz,rfl⟩:=Option.map_eq_some_iff.1 h;simp[htr _ _ hz]
def dU {v:ZR} (hv:isInt v) {y:Nat} {c:BoundsCode} (h0:0<=v.i) (h1:v.i<=y):(Instr.sliceBound v y c).run P w=.ok v.i.toNat w:=by
 obtain⟨k,hk⟩:=bB hv;generalize hn:v.i=n at*;rw[hk];simp only[Instr.sliceBound,asIntOf,Sem.run_bind,Sem.run_pure,Result.andThen,h0,h1,and_self,if_true]
def oN {b:Bool} {len cap:Nat} {lo hi:Option A} (hl:Pw r lo) (hh:Pw r hi) (h:Px len cap (oi r lo) (oi r hi)):
  (Instr.sliceBounds b len cap (lo.map r) (hi.map r) ZU).run P w=.ok (pz (oi r lo),DM len (oi r hi),cap) w:=by
 cases lo with
 |none=>cases hi with
  |none=>rfl
  |some y=>
   obtain⟨h1,h2⟩:=h;simp only[Instr.sliceBounds,Sem.run_bind,Sem.run_pure,Result.andThen,YQ,Ye,dU hh h1 h2]
   rfl
 |some x=>cases hi with
  |none=>
   obtain⟨h1,h2⟩:=h;simp only[Instr.sliceBounds,Sem.run_bind,Sem.run_pure,Result.andThen,YQ,Ye,dU hl h1 h2]
   rfl
  |some y=>
   obtain⟨h1,h2,h3⟩:=h;simp only[Instr.sliceBounds,Sem.run_bind,Sem.run_pure,Result.andThen,YQ];have h1:0<=(r x).i:=h1;have h2:(r x).i<=(r y).i:=h2;rw[dU hh (by omega) h3];simp only;rw[dU hl h1 (by omega)]
   rfl
def Ea {b:Bool} {len cap:Nat} {lo:Option A} {hi mx:A} (hl:Pw r lo) (hh:isInt (r hi)) (hm:isInt (r mx)) (h1:0<=(oi r lo).getD 0) (h2:(oi r lo).getD 0<=(r hi).i) (h3:(r hi).i<=(r mx).i) (h4:(r mx).i<=cap):
  (Instr.sliceBounds b len cap (lo.map r) (ZV (r hi)) (ZV (r mx))).run P w=.ok (pz (oi r lo),(r hi).i.toNat,(r mx).i.toNat) w:=by
 cases lo with
 |none=>
  have KV:(0:Int)<=(r hi).i:=h2;simp only[Instr.sliceBounds,Sem.run_bind,Sem.run_pure,Result.andThen,Ye];rw[dU hm (by omega) h4];simp only;rw[dU hh KV (by omega)]
  rfl
 |some x=>
  have KV:0<=(r x).i:=h1;have MN:(r x).i<=(r hi).i:=h2;simp only[Instr.sliceBounds,Sem.run_bind,Sem.run_pure,Result.andThen,YQ];rw[dU hm (by omega) h4];simp only;rw[dU hh (by omega) (by omega)];simp only;rw[dU hl KV (by omega)]
  rfl
def Ec:∀(l:List ZR),(∀x∈l,ju ZX x)->(l.map Value.i).map (Value.int ZX)=l
 |[],_=>rfl
 |x::l,h=>by
  have e:=bX (h x (by simp));simp only[Y9];rw[Ec l (fun y hy=>h y (by simp[hy])),<-e]
def Ed:∀(l:List ZR) (q:ByteArray),(l.map Value.i).foldl (fun q n=>q.push (ZG n.toNat)) q=⟨q.data++(l.map fun v=>ZG v.i.toNat).toArray⟩
 |[],q=>by simp
 |x::l,q=>by
  simp only[Y9,VZ];rw[Ed l];simp[ByteArray.push]
def UP {s t e:TypeId} {v:ZR} (hs:P.underlying s=ZV (.slice e)) (ht:P.underlying t=ZV .string) (he:P.underlying e=ZV (.int ZX)) (h:KR w.heap v):
  (convert s t v).run P w=.ok (.string (toBA ((bO w.heap v).getD #[]))) w:=by
 obtain⟨xs,hx,hb⟩:=h;rw[hx,Zu]
 cases v with
 |slice a n c=>
  rw[run_convert_bytes_string w s t e a n c hs he ht]
  cases a with
  |none=>cases hx;simp[Conv.bytesToString,Sem.run_pure,toBA];rfl
  |some p=>
   have hl:(loadCells p n).run P w=.ok xs w:=by
    simp only[bO]at hx
    split at hx
    ·rename_i h0;subst h0;cases hx;rfl
    ·exact uF hx
   have hz:=Ec xs.toList hb;have hxs:xs=((xs.toList.map Value.i).map (Value.int ZX)).toArray:=by rw[hz]
   rw[hxs]at hl;rw[run_bytesToString w p n c _ hl,Ed]
   congr 2
   apply ByteArray.ext;simp only[toBA];apply Xy;simp
 |_=>cases hx
def yz:∀(xs:List ZR) (j:Nat) (C:Array ZR) (off:Nat),off+j+xs.length<=C.size->(xs.zipIdx j).foldl (fun cs (x:ZR×Nat)=>cs.setIfInBounds (off+x.2) x.1) C=jx C (off+j) xs
 |[],j,C,off,_=>by simp[KO]
 |x::xs,j,C,off,h=>by
  simp only[List.length_cons]at h;simp only[List.zipIdx_cons,VZ];rw[yz xs (j+1) _ off (by simp;omega),<-DV (x:=x) (by omega)]
  rfl
def pN {place:Nat->Option (Nat×Nat)}:∀{parts:List (Nat×Operand)} {ps:List (Nat×Nat×A)} (C:Array ZR),gS tr place parts=ZV ps->(∀y z,tr y=ZV z->ρ y=r z)->eJ r C.size ps→
  Instr.fill place C (parts.map fun p=>(p.1,ρ p.2))=ZV (gq r C ps)
 |[],ps,C,h,_,_=>by cases h;rfl
 |(i,x)::l,ps,C,h,htr,hok=>by
  simp only[gS]at h;obtain⟨p,hp,h⟩:=Option.bind_eq_some_iff.1 h;obtain⟨a,ha,h⟩:=Option.bind_eq_some_iff.1 h;obtain⟨ps',hps,rfl⟩:=Option.map_eq_some_iff.1 h;obtain⟨h1,h2,h3⟩:=hok;obtain⟨off,size⟩:=p;simp only at h1 h2 h3;have hlen:off+(r a).cells.toList.length<=C.size:=by simp[h1];exact h2
  have e:(r a).cells.zipIdx.foldl (fun cs (x:ZR×Nat)=>cs.setIfInBounds (off+x.2) x.1) C=jx C off (r a).cells.toList:=by
   rw[<-Array.foldl_toList,Array.toList_zipIdx];exact yz _ 0 C off (by omega)
  have ih:=pN (place:=place) (jx C off (r a).cells.toList) hps htr (by rw[DU hlen];exact h3);have hc:((ZQ ((r a).cells.size≠size))||ZQ (off+(r a).cells.size>C.size))=ZS:=by
   simp[h1];omega
  simp only[Y9,Instr.fill,hp,htr _ _ ha,hc,ZD,if_false,gq];rw[<-ih,<-e]
def gu {b:Builtin} {args:Array Operand} {ts:Array TypeId} (ho:o.op=.call {callee:=.builtin b,args:=args,argTypes:=ts}) {s:Sem ZR} {v:ZR}
  (hb:∀cs vs,builtin b ts o.type cs vs=(do pure (.value (←(match b with|.len=>Builtin.len_ ts o.type vs|.cap=>Builtin.cap_ ts o.type vs|.min=>Builtin.min_ ts o.type vs|.max=>Builtin.max_ ts o.type vs|_=>s)))))
  (h:(match b with|.len=>Builtin.len_ ts o.type (args.map ρ)|.cap=>Builtin.cap_ ts o.type (args.map ρ)|.min=>Builtin.min_ ts o.type (args.map ρ)|.max=>Builtin.max_ ts o.type (args.map ρ)|_=>s).run P w=.ok v w):
  (execOp ρ o).run P w=.ok (.value v) w:=by
 simp only[execOp,ho,resolve,Sem.run_bind,Sem.run_pure,Result.andThen,invoke];rw[hb];exact cO h
def yA {l:List Operand} {as:List A} (h:DZ tr l=ZV as) (htr:∀y z,tr y=ZV z->ρ y=r z):l.map ρ=as.map r:=by
 induction l generalizing as with
 |nil=>cases h;rfl
 |cons x l ih=>
  simp only[DZ]at h;obtain⟨a,ha,h⟩:=Option.bind_eq_some_iff.1 h;obtain⟨b,hb,rfl⟩:=Option.map_eq_some_iff.1 h;simp[htr _ _ ha,ih hb]
def lJ (e:Bool) {t:TypeId} (ht:P.underlying t=ZV .string) (n:Nat) (v:ZR):(Instr.checkKey e (n+1) t v).run P w=.ok () w:=by
 unfold Instr.checkKey;simp only[Sem.run_bind,run_underlying ht,Result.andThen]
 rfl
def iA (k:ByteArray):∀(es:List MapEntry) (i:Nat),(∀e∈es,pI e.key)->∃x,Instr.findNow .string (.string k) es i=ZV x/\x.map (·.2)=lI k es
 |[],i,_=>⟨ZU,rfl,rfl⟩
 |e::es,i,h=>by
  have hk:=cT (h e (by simp));unfold Instr.findNow;rw[hk];simp only[Instr.sameNow]
  by_cases hb:(k==e.key.s)=ZT
  ·rw[hb];refine⟨_,rfl,?_⟩;simp[lI,WJ,hb]
  ·have rB:(k==e.key.s)=ZS:=by simpa using hb
   rw[rB];obtain⟨x,h1,h2⟩:=iA k es (i+1) (fun e he=>h e (by simp[he]));refine⟨x,h1,?_⟩;rw[h2];simp[lI,WJ,rB]
def me (kk:IntKind) (n:Int):∀(es:List MapEntry) (i:Nat),(∀e∈es,ju kk e.key)->∃x,Instr.findNow (.int kk) (.int kk n) es i=ZV x/\x.map (·.2)=iy n es/\x.map (·.1)=(es.findIdx? fun e=>n==e.key.i).map (·+i)
 |[],i,_=>⟨ZU,rfl,rfl,rfl⟩
 |e::es,i,h=>by
  have hk:=bX (h e (by simp));unfold Instr.findNow;rw[hk];simp only[Instr.sameNow,if_true]
  by_cases hb:(n==e.key.i)=ZT
  ·rw[hb];refine⟨_,rfl,?_,?_⟩
   ·simp[iy,WJ,hb]
   ·simp[Wg,hb]
  ·have rB:(n==e.key.i)=ZS:=by simpa using hb
   rw[rB];obtain⟨x,h1,h2,h3⟩:=me kk n es (i+1) (fun e he=>h e (by simp[he]));refine⟨x,h1,?_,?_⟩
   ·rw[h2];simp[iy,WJ,rB]
   ·rw[h3,Wg,rB]
    cases es.findIdx? (fun e=>n==e.key.i)with
    |none=>rfl
    |some j=>simp;omega
def pO (e:Bool) {kk:IntKind} {t:TypeId} (ht:P.underlying t=ZV (.int kk)) (n:Nat) (v:ZR):(Instr.checkKey e (n+1) t v).run P w=.ok () w:=by
 unfold Instr.checkKey;simp only[Sem.run_bind,run_underlying ht,Result.andThen]
 rfl
def vk {H:Hp} {v:ZR} {es:List MapEntry} (h:eQ H v=ZV es):(v=.map ZU/\es=[])\/∃b a c,v=.map (ZV b)/\H[b]?=ZV (.map a c)/\es=a.toList:=by
 cases v with
 |map o=>
  cases o with
  |none=>left;simp[eQ]at h;exact⟨rfl,h⟩
  |some b=>
   right
   simp only[eQ]at h
   cases hb:H[b]? with
   |none=>rw[hb]at h;cases h
   |some o=>
    rw[hb]at h
    cases o with
    |map a c=>cases h;exact⟨b,a,c,rfl,hb,rfl⟩
    |_=>cases h
 |_=>simp[eQ]at h
def Ga {t k e:TypeId} {z:ZR} {m:ZR} {kv:ZR} {es:List MapEntry} {ok:Bool} (ht:P.underlying t=ZV (.map k e)) (hk:P.underlying k=ZV .string) (hz:(P.info? e).bind (·.zero)=ZV z)
  (hm:eQ w.heap m=ZV es) (hs:∀e∈es,pI e.key) (hkv:pI kv):
  (Instr.lookup t m kv ok).run P w=.ok (if ok=ZT then ZZ #[(lI kv.s es).getD z,.bool (lI kv.s es).isSome]else(lI kv.s es).getD z) w:=by
 obtain⟨i,hi,hz⟩:=Option.bind_eq_some_iff.1 hz;have hzero:(zeroValue e).run P w=.ok z w:=by simp[zeroValue,typeInfo,program,Sem.run,hi,hz,Sem.run_bind,Result.andThen]
 have hkv:=cT hkv;generalize kv.s=q at*;subst hkv;obtain⟨x,h1,h2⟩:=iA q es 0 hs;have Pc:∀e:Bool,(Instr.checkKey e 10000 k (.string q)).run P w=.ok () w:=fun e=>lJ e hk 9999 _;have UQ:∀l:List MapEntry,l=es->(Instr.findKey k (.string q) l).run P w=.ok x w:=fun l hl=>by
  subst hl;simp only[Instr.findKey,Sem.run_bind,run_underlying hk,Result.andThen,h1,Sem.run_pure]
 have e0:lI q es=x.map (·.2):=h2.symm;unfold Instr.lookup;rw[e0];rcases vk hm with⟨rfl,rfl⟩|⟨b,a,c,rfl,hb,rfl⟩
 ·simp only[Sem.run_bind,run_underlying ht,Result.andThen,Sem.run_pure,Pc,UQ [] rfl]
  cases x with
  |none=>simp only[hzero,Sem.run_bind,Result.andThen,Sem.run_pure];cases ok<;>rfl
  |some p=>obtain⟨i,v⟩:=p;simp only[Sem.run_pure,Sem.run_bind,Result.andThen];cases ok<;>rfl
 ·have hg:(getObj b).run P w=.ok (.map a c) w:=by simp[getObj,Sem.run,hb]
  simp only[Sem.run_bind,run_underlying ht,Result.andThen,hg,Sem.run_pure,Pc,UQ a.toList rfl]
  cases x with
  |none=>simp only[hzero,Sem.run_bind,Result.andThen,Sem.run_pure];cases ok<;>rfl
  |some p=>obtain⟨i,v⟩:=p;simp only[Sem.run_pure,Sem.run_bind,Result.andThen];cases ok<;>rfl
def Ee {t k e:TypeId} {kk:IntKind} {z:ZR} {m:ZR} {kv:ZR} {es:List MapEntry} (ht:P.underlying t=ZV (.map k e)) (hk:P.underlying k=ZV (.int kk)) (hz:(P.info? e).bind (·.zero)=ZV z)
  (hm:eQ w.heap m=ZV es) (hs:∀e∈es,ju kk e.key) (hkv:ju kk kv):
  (Instr.lookup t m kv ZS).run P w=.ok ((iy kv.i es).getD z) w:=by
 obtain⟨i,hi,hz⟩:=Option.bind_eq_some_iff.1 hz;have hzero:(zeroValue e).run P w=.ok z w:=by simp[zeroValue,typeInfo,program,Sem.run,hi,hz,Sem.run_bind,Result.andThen]
 have hkv:=bX hkv;generalize kv.i=q at*;subst hkv;obtain⟨x,h1,h2,-⟩:=me kk q es 0 hs;have Pc:∀e:Bool,(Instr.checkKey e 10000 k (.int kk q)).run P w=.ok () w:=fun e=>pO e hk 9999 _;have UQ:∀l:List MapEntry,l=es->(Instr.findKey k (.int kk q) l).run P w=.ok x w:=fun l hl=>by
  subst hl;simp only[Instr.findKey,Sem.run_bind,run_underlying hk,Result.andThen,h1,Sem.run_pure]
 have e0:iy q es=x.map (·.2):=h2.symm;unfold Instr.lookup;rw[e0];rcases vk hm with⟨rfl,rfl⟩|⟨b,a,c,rfl,hb,rfl⟩
 ·simp only[Sem.run_bind,run_underlying ht,Result.andThen,Sem.run_pure,Pc,UQ [] rfl]
  cases x with
  |none=>simp only[hzero,Sem.run_bind,Result.andThen,Sem.run_pure];rfl
  |some p=>obtain⟨i,v⟩:=p;simp only[Sem.run_pure,Sem.run_bind,Result.andThen];rfl
 ·have hg:(getObj b).run P w=.ok (.map a c) w:=by simp[getObj,Sem.run,hb]
  simp only[Sem.run_bind,run_underlying ht,Result.andThen,hg,Sem.run_pure,Pc,UQ a.toList rfl]
  cases x with
  |none=>simp only[hzero,Sem.run_bind,Result.andThen,Sem.run_pure];rfl
  |some p=>obtain⟨i,v⟩:=p;simp only[Sem.run_pure,Sem.run_bind,Result.andThen];rfl
def Pz {l:List Operand} {m:List A} (htr:∀y z,tr y=ZV z->ρ y=r z) (h:DZ tr l=ZV m):l.map ρ=m.map r:=by
 induction l generalizing m with
 |nil=>cases h;rfl
 |cons x l ih=>
  simp only[DZ]at h;obtain⟨a,ha,h⟩:=Option.bind_eq_some_iff.1 h;obtain⟨b,hb,rfl⟩:=Option.map_eq_some_iff.1 h;simp[htr _ _ ha,ih hb]
def La (w:World):∀(m:List A),(∀b∈m,isInt (r b))->∀v,isInt v->((m.map r).foldlM Builtin.max2 v).run P w=.ok (.int (kindOf v) (mxF v.i (m.map fun b=>(r b).i))) w
 |[],_,v,hv=>by
  obtain⟨k,hk⟩:=bB hv;generalize v.i=i at*;subst hk;simp[mxF,kindOf]
 |b::m,h,v,hv=>by
  obtain⟨k,hk⟩:=bB hv;obtain⟨k',MO⟩:=bB (h b (by simp));have e:(Builtin.max2 v (r b)).run P w=.ok (.int k (if(r b).i>v.i then(r b).i else v.i)) w:=by
   generalize v.i=i at*;generalize(r b).i=j at*;rw[hk,MO];simp[Builtin.max2]
  simp only[Y9,List.foldlM_cons];rw[cX e,La w m (fun c hc=>h c (by simp[hc])) (.int k (if(r b).i>v.i then(r b).i else v.i)) trivial];have e2:kindOf v=k:=by rw[hk];rfl
  rw[e2];rfl
def PB {q:PM} (hq:pm P tr o=ZV q) (htr:∀y z,tr y=ZV z->ρ y=r z) (hc:∀v,ρ (.const v)=v) (hpre:q.pre r w.heap):
  (execOp ρ o).run P w=.ok (.value (q.val r w.heap)) w:=by
 unfold pm at hq
 split at hq
 ·-- load
  rename_i t x hop
  split at hq
  case isFalse=>cases hq
  rename_i hag;obtain⟨a,ha,rfl⟩:=Option.map_eq_some_iff.1 hq;obtain⟨h1,h2⟩:=iz hag w;simp only[execOp,hop,htr _ _ ha];refine cO ?_;simp only[PM.pre]at hpre;simp only[PM.val];obtain⟨xs,hxs⟩:=Option.isSome_iff_exists.1 hpre;rw[hxs];unfold aL at hxs
  split at hxs
  case h_2=>cases hxs
  rename_i p hp;rw[hp];simp only[Instr.loadAt,Instr.sureAddr,Sem.run_bind,Sem.run_pure,Result.andThen,loadVar,h1,if_true,bg P t h2,uF hxs,Zu]
 ·rename_i t x y u hop;exact vi (op:=.eql) rfl hop hq htr hc hpre
 ·rename_i t x y u hop;exact vi (op:=.neq) rfl hop hq htr hc hpre
 ·-- slice
  rename_i t x lo hi hop;obtain⟨a,ha,hq⟩:=Option.bind_eq_some_iff.1 hq;obtain⟨l,hl,hq⟩:=Option.bind_eq_some_iff.1 hq;obtain⟨h,hh,hq⟩:=Option.bind_eq_some_iff.1 hq;have el:=vj hl htr;have eh:=vj hh htr
  split at hq
  ·rename_i n e hu
   split at hq
   case isFalse=>cases hq
   rename_i he
   cases hq
   obtain⟨h1,h2,h3,h4⟩:=hpre;obtain⟨p,hp⟩:=u0 h1;simp only[execOp,hop,htr _ _ ha,el,eh,PM.val];refine cO ?_;rw[hp];simp only[Instr.sliceAt,Sem.run_bind,run_underlying hu,Result.andThen,Instr.sureAddr,Sem.run_pure,Ye];rw[oN h2 h3 h4];simp only[bg P e he,aeV]
  ·rename_i e hu
   split at hq
   case isFalse=>cases hq
   rename_i he
   cases hq
   obtain⟨h1,h2,h3,h4⟩:=hpre;have hp:=fP h1;simp only[execOp,hop,htr _ _ ha,el,eh,PM.val];refine cO ?_;generalize r a=v at*;generalize iT v=ad at*;generalize aW v=ln at*;generalize iw v=cp at*;subst hp;simp only[Instr.sliceAt,Instr.slice,Sem.run_bind,run_underlying hu,Result.andThen,Sem.run_pure,Ye];rw[oN h2 h3 h4];simp only[bg P e he,xW]
  ·rename_i hu
   cases hq
   obtain⟨h1,h2,h3,h4⟩:=hpre;have hp:=cT h1;simp only[execOp,hop,htr _ _ ha,el,eh,PM.val];refine cO ?_;generalize r a=v at*;generalize v.s=st at*;subst hp;simp only[Instr.sliceAt,Instr.slice,Sem.run_bind,run_underlying hu,Result.andThen,Sem.run_pure,Ye,Option.isSome_none,ZD,if_false];rw[oN h2 h3 h4]
  ·cases hq
 ·-- len
  rename_i args ts hop
  split at hq
  case h_2=>cases hq
  rename_i x t ha ht;obtain⟨a,hx,hq⟩:=Option.bind_eq_some_iff.1 hq;have e1:args=#[x]:=by cases args;simpa using ha
  have e2:ts=#[t]:=by cases ts;simpa using ht
  subst e1;subst e2;refine gu (s:=pure undef) hop (fun _ _=>rfl) ?_;simp only[YV,Y9,YC,htr _ _ hx]
  split at hq<;>cases hq
  ·rename_i hu;have e:=cT (v:=r a) hpre;simp only[PM.val];generalize r a=v at*;generalize v.s=q at*;subst e;simp[Builtin.len_,Sem.run_bind,run_underlying hu,Result.andThen,goInt]
  ·rename_i _ hu;have e:=fP (v:=r a) hpre;simp only[PM.val];generalize r a=v at*;generalize iT v=ad at*;generalize aW v=ln at*;generalize iw v=cp at*;subst e;simp[Builtin.len_,Sem.run_bind,run_underlying hu,Result.andThen,goInt]
  ·rename_i _ _ hu;simp only[PM.val];simp[Builtin.len_,Sem.run_bind,run_underlying hu,Result.andThen,goInt]
 ·-- cap
  rename_i args ts hop
  split at hq
  case h_2=>cases hq
  rename_i x t ha ht;obtain⟨a,hx,hq⟩:=Option.bind_eq_some_iff.1 hq;have e1:args=#[x]:=by cases args;simpa using ha
  have e2:ts=#[t]:=by cases ts;simpa using ht
  subst e1;subst e2;refine gu (s:=pure undef) hop (fun _ _=>rfl) ?_;simp only[YV,Y9,YC,htr _ _ hx]
  split at hq<;>cases hq
  rename_i _ hu;have e:=fP (v:=r a) hpre;simp only[PM.val];generalize r a=v at*;generalize iT v=ad at*;generalize aW v=ln at*;generalize iw v=cp at*;subst e;simp[Builtin.cap_,Sem.run_bind,run_underlying hu,Result.andThen,goInt]
 ·-- min
  rename_i args ts hop
  split at hq
  case h_2=>cases hq
  rename_i x y ha;obtain⟨a,hx,hq⟩:=Option.bind_eq_some_iff.1 hq;obtain⟨b,hy,hq⟩:=Option.bind_eq_some_iff.1 hq
  cases hq
  have e1:args=#[x,y]:=by cases args;simpa using ha
  subst e1;obtain⟨h1,h2⟩:=hpre;refine gu (s:=pure undef) hop (fun _ _=>rfl) ?_;simp only[YV,Y9,YC,htr _ _ hx,htr _ _ hy,PM.val];obtain⟨k,hk⟩:=bB h1;obtain⟨k',MO⟩:=bB h2;generalize(r a).i=m at*;generalize(r b).i=n at*;rw[hk,MO];simp[Builtin.min_,Builtin.min2,kindOf]
 ·-- max
  rename_i args ts hop
  split at hq
  case h_3=>cases hq
  case h_2=>
   rename_i x y z l ha;obtain⟨a,hx,hq⟩:=Option.bind_eq_some_iff.1 hq;obtain⟨m,hm,rfl⟩:=Option.map_eq_some_iff.1 hq;have e1:args=(x::y::z::l).toArray:=by cases args;simpa using ha
   subst e1;obtain⟨h1,h2⟩:=hpre;refine gu (s:=pure undef) hop (fun _ _=>rfl) ?_;have hl:=Pz htr hm;simp only[YV,Y9,htr _ _ hx,PM.val]at hl⊢;simp only[Builtin.max_];rw[hl];exact La (r:=r) w m h2 (r a) h1
  rename_i x y ha;obtain⟨a,hx,hq⟩:=Option.bind_eq_some_iff.1 hq;obtain⟨b,hy,hq⟩:=Option.bind_eq_some_iff.1 hq
  cases hq
  have e1:args=#[x,y]:=by cases args;simpa using ha
  subst e1;obtain⟨h1,h2⟩:=hpre;refine gu (s:=pure undef) hop (fun _ _=>rfl) ?_;simp only[YV,Y9,YC,htr _ _ hx,htr _ _ hy,PM.val];obtain⟨k,hk⟩:=bB h1;obtain⟨k',MO⟩:=bB h2;generalize(r a).i=m at*;generalize(r b).i=n at*;rw[hk,MO];simp[Builtin.max_,Builtin.max2,kindOf]
 ·-- index
  rename_i t x i hop;obtain⟨a,ha,hq⟩:=Option.bind_eq_some_iff.1 hq;obtain⟨j,hj,hq⟩:=Option.bind_eq_some_iff.1 hq;have ea:=htr _ _ ha;have ej:=htr _ _ hj
  split at hq
  ·rename_i n e hu
   split at hq
   ·rename_i hp1
    cases hq
    simp only[Bool.and_eq_true,beq_iff_eq]at hp1;obtain⟨h1,h2,h3,h4,h5⟩:=hpre;obtain⟨k,hk⟩:=bB h2;simp only[execOp,hop,ea,ej,PM.val];refine cO ?_;generalize vl:(r j).i=q at*;generalize rD:(r a).g=cs at*;rw[eR h1,hk,rD];have pP:0<=q/\q<(n:Int):=⟨h3,h4⟩
    simp only[Instr.index,Sem.run_bind,asIntOf,run_underlying hu,Result.andThen,Sem.run_pure,pP,and_self,if_true,km P e (show P.cellsOf e≠0 by omega),hp1.2,part,mc hp1.1,ZD,if_false,Zs];simp[h5]
   ·split at hq
    ·rename_i hag
     cases hq
     obtain⟨h1,h2,h3,h4⟩:=hpre;obtain⟨k,hk⟩:=bB h2;simp only[execOp,hop,ea,ej,PM.val];refine cO ?_;generalize vl:(r j).i=q at*;generalize rD:(r a).g=cs at*;rw[eR h1,hk,rD];have pP:0<=q/\q<(n:Int):=⟨h3,h4⟩
     obtain⟨g1,g2⟩:=iz hag w;simp only[Instr.index,Sem.run_bind,asIntOf,run_underlying hu,Result.andThen,Sem.run_pure,pP,and_self,if_true,bg P e g2,part,g1]
    ·cases hq
  ·rename_i hu
   cases hq
   obtain⟨h1,h2,h3,h4⟩:=hpre;obtain⟨k,hk⟩:=bB h2;simp only[execOp,hop,ea,ej,PM.val];refine cO ?_;generalize vl:(r j).i=q at*;generalize rD:(r a).s=st at*;rw[cT h1,hk,rD];have hlt:q.toNat<st.size:=by omega
   simp only[Instr.index,Sem.run_bind,asIntOf,run_underlying hu,Result.andThen,Sem.run_pure,h3,if_true];simp[hlt]
  ·cases hq
 ·-- field
  rename_i t x f hop;obtain⟨a,ha,hq⟩:=Option.bind_eq_some_iff.1 hq;have ea:=htr _ _ ha
  split at hq
  case h_2=>cases hq
  rename_i fs hu
  split at hq
  case h_2=>cases hq
  rename_i fd hf
  split at hq
  ·rename_i hp1
   cases hq
   obtain⟨h1,h2⟩:=hpre;simp only[execOp,hop,ea,PM.val];refine cO ?_;generalize rD:(r a).g=cs at*;rw[eR h1,rD];simp only[Instr.field,Sem.run_bind,run_underlying hu,Result.andThen,hf,asAgg,Sem.run_pure,part,mc hp1,ZD,if_false];simp[h2]
  ·split at hq
   case isFalse=>cases hq
   rename_i hag
   cases hq
   obtain⟨g1,g2⟩:=iz hag w;simp only[execOp,hop,ea,PM.val];refine cO ?_;generalize rD:(r a).g=cs at*;rw[eR (v:=r a) hpre,rD];simp only[Instr.field,Sem.run_bind,run_underlying hu,Result.andThen,hf,asAgg,Sem.run_pure,part,g1,if_true,bg P fd.type g2]
 ·-- build
  rename_i t parts hop
  split at hq
  case h_2=>cases hq
  rename_i z hz;obtain⟨i,hi,hz⟩:=Option.bind_eq_some_iff.1 hz;have hzero:(zeroValue t).run P w=.ok z w:=by simp[zeroValue,typeInfo,program,Sem.run,hi,hz,Sem.run_bind,Result.andThen]
  split at hq
  ·rename_i fs hu
   split at hq
   case isFalse=>cases hq
   rename_i hall;obtain⟨ps,hps,rfl⟩:=Option.map_eq_some_iff.1 hq;simp only[execOp,hop,PM.val];refine cO ?_;have hf:=pN z.cells hps htr hpre;have hpl:(fs.mapM (fun f=>do pure (f.offset,<-sizeOf f.type):Field->Sem (Nat×Nat))).run P w=.ok (fs.map fun f=>(f.offset,P.cellsOf f.type)) w:=by
    rw[Array.mapM_eq_mapM_toList];have key:∀l:List Field,(∀f∈l,(P.info? f.type).isSome=ZT)->(l.mapM (fun f=>do pure (f.offset,<-sizeOf f.type):Field->Sem (Nat×Nat))).run P w=.ok (l.map fun f=>(f.offset,P.cellsOf f.type)) w:=by
     intro l
     induction l with
     |nil=>intro _;simp
     |cons f l ih=>
      intro hl;have h1:=bg P f.type (hl f (by simp)) w;have h2:=ih (fun g hg=>hl g (by simp[hg]));simp only[bind_pure_comp]at h2;simp[List.mapM_cons,h1,h2,Result.andThen]
    have:=key fs.toList (fun f hf=>by
     have:=(Array.all_eq_true' ..|>.1 hall) f (by simpa using hf);simpa using this)
    simp only[bind_pure_comp]at this;simp[this,Result.andThen];rw[<-YV]
   simp only[Instr.build,Sem.run_bind,hzero,Result.andThen,run_underlying hu,hpl];simp only[XF];have e:(fun i:Nat=>(fs.map fun(f:Field)=>(f.offset,P.cellsOf f.type))[i]?)=(fun i:Nat=>(fs[i]?).map fun(f:Field)=>(f.offset,P.cellsOf f.type)):=by
    funext i;simp
   rw[e,hf]
   rfl
  ·rename_i n e hu
   split at hq
   case isFalse=>cases hq
   rename_i he;obtain⟨ps,hps,rfl⟩:=Option.map_eq_some_iff.1 hq;simp only[execOp,hop,PM.val];refine cO ?_;have hf:=pN z.cells hps htr hpre;simp only[Instr.build,Sem.run_bind,hzero,Result.andThen,run_underlying hu,bg P e he];simp only[XF];rw[hf]
   rfl
  ·cases hq
 ·-- slice with a third bound
  rename_i t x lo hi mx hop;obtain⟨a,ha,hq⟩:=Option.bind_eq_some_iff.1 hq;obtain⟨l,hl,hq⟩:=Option.bind_eq_some_iff.1 hq;obtain⟨h,hh,hq⟩:=Option.bind_eq_some_iff.1 hq;obtain⟨m,hm,hq⟩:=Option.bind_eq_some_iff.1 hq;have el:=vj hl htr
  split at hq
  case h_2=>cases hq
  rename_i e hu
  split at hq
  case isFalse=>cases hq
  rename_i he
  cases hq
  obtain⟨h1,h2,h3,h4,h5,h6,h7,h8⟩:=hpre;have hp:=fP h1;simp only[execOp,hop,htr _ _ ha,el,YQ,htr _ _ hh,htr _ _ hm,PM.val];refine cO ?_;generalize r a=v at*;generalize iT v=ad at*;generalize aW v=ln at*;generalize iw v=cp at*;subst hp;simp only[Instr.sliceAt,Instr.slice,Sem.run_bind,run_underlying hu,Result.andThen,Sem.run_pure];rw[Ea h2 h3 h4 h5 h6 h7 h8];simp only[bg P e he,aeW]
 ·-- bytes to a string
  rename_i s t x hop;obtain⟨a,ha,hq⟩:=Option.bind_eq_some_iff.1 hq
  split at hq
  case h_2=>cases hq
  rename_i e hs ht
  split at hq
  case isFalse=>cases hq
  rename_i he
  cases hq
  unfold u8T at he
  split at he
  case h_2=>cases he
  rename_i hu8;simp only[execOp,hop,htr _ _ ha,PM.val];exact cO (UP hs ht hu8 hpre)
 ·-- a closure
  rename_i g fs cs hop;obtain⟨a,ha,hq⟩:=Option.bind_eq_some_iff.1 hq;obtain⟨b,hb,rfl⟩:=Option.map_eq_some_iff.1 hq;have ea:=yA ha htr;have eb:=yA hb htr;simp only[execOp,hop,PM.val];refine cO ?_;have e1:fs.map ρ=(a.map r).toArray:=by apply Xy;rw[XF];exact ea
  have e2:cs.map ρ=(b.map r).toArray:=by apply Xy;rw[XF];exact eb
  rw[e1,e2]
  rfl
 ·-- lookup
  rename_i t x i ok hop;obtain⟨a,ha,hq⟩:=Option.bind_eq_some_iff.1 hq;obtain⟨b,hb,hq⟩:=Option.bind_eq_some_iff.1 hq
  split at hq
  case h_2=>cases hq
  rename_i k e hu
  split at hq
  case h_3=>cases hq
  ·rename_i z hk hz
   cases hq
   obtain⟨h1,es,h2,h3⟩:=hpre;simp only[execOp,hop,htr _ _ ha,htr _ _ hb,PM.val,h2,Zu];exact cO (Ga hu hk hz h2 h3 h1)
  ·rename_i kk z hk hz
   split at hq
   ·cases hq
   ·rename_i hok
    cases hq
    have hok:ok=ZS:=by simpa using hok
    obtain⟨h1,es,h2,h3⟩:=hpre;simp only[execOp,hop,htr _ _ ha,htr _ _ hb,PM.val,h2,Zu,hok];exact cO (Ee hu hk hz h2 h3 h1)
 ·-- interface
  rename_i t x hop;obtain⟨a,ha,hq⟩:=Option.bind_eq_some_iff.1 hq
  split at hq
  ·cases hq
  ·rename_i d hd hu
   cases hq
   simp only[execOp,hop,htr _ _ ha,PM.val];refine cO ?_;unfold Instr.makeInterface;simp only[Sem.run_bind,run_underlying hu,Result.andThen]
   cases d<;>first|rfl|exact absurd rfl (hd _)
  ·cases hq
 ·-- type assertion
  rename_i x xt t hop;obtain⟨a,ha,hq⟩:=Option.bind_eq_some_iff.1 hq
  split at hq
  ·cases hq
  ·rename_i d hd hu
   cases hq
   simp only[execOp,hop,htr _ _ ha,PM.val];refine cO ?_;have hpre:isIf t (r a):=hpre;unfold isIf at hpre
   split at hpre
   case h_2=>exact hpre.elim
   rename_i u v hv;subst hpre;rw[hv];unfold Instr.typeAssert;simp only[Sem.run_bind,run_underlying hu,Result.andThen]
   cases d<;>first|(simp[ifV,Sem.run_pure];done)|exact absurd rfl (hd _)
  ·cases hq
 ·cases hq
end
end Go.Mg

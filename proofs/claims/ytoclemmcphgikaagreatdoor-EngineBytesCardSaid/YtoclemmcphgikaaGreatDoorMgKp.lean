/- Lemmas of ours. No conditions. -/
import Derived.WalkKit
set_option linter.all false
namespace Go.Mg
open Go Go.RowKit
def bitsOf (x:UInt64):(BitVec.ofInt 64 (x.toNat:Int))=x.toBitVec:=by
 apply BitVec.eq_of_toNat_eq;simp
def Ad (x:UInt64):IntKind.u64.wrap (x.toNat:Int)=x.toNat:=by
 have:=x.toNat_lt;rw[IntKind.wrap_u64];omega
def mw (x y:UInt64):bits .and .u64 (x.toNat:Int) (y.toNat:Int)=((x&&&y).toNat:Int):=by
 show IntKind.u64.wrap ((BitVec.ofInt 64 (x.toNat:Int)&&&BitVec.ofInt 64 (y.toNat:Int)).toNat:Int)=_
 rw[bitsOf,bitsOf];exact Ad (x&&&y)
def uI (x y:UInt64):bits .or .u64 (x.toNat:Int) (y.toNat:Int)=((x|||y).toNat:Int):=by
 show IntKind.u64.wrap ((BitVec.ofInt 64 (x.toNat:Int)|||BitVec.ofInt 64 (y.toNat:Int)).toNat:Int)=_
 rw[bitsOf,bitsOf];exact Ad (x|||y)
def cj (l:List UInt64):List Value:=l.map fun x=>.int .u64 x.toNat
def aI (l:List UInt64):(cj l).length=l.length:=by simp[cj]
def Qe (l:List UInt64) (rest:List Value) (i:Nat) (h:i<l.length):(cj l++rest)[i]?=some (.int .u64 (l.getD i 0).toNat):=by
 have:i<(cj l).length:=by simpa[cj]using h
 rw[List.getElem?_append_left this];simp[cj,h]
def dW (l:List UInt64) (i:Nat) (h:i<l.length):(cj l)[i]?=some (.int .u64 (l.getD i 0).toNat):=by
 simpa using Qe l [] i h
def Qf (l:List UInt64) (rest:List Value) (i:Nat) (h:i<l.length) (x:UInt64):(cj l++rest).set i (.int .u64 x.toNat)=cj (l.set i x)++rest:=by
 have:i<(cj l).length:=by simpa[cj]using h
 rw[List.set_append_left _ _ this];simp[cj,List.map_set]
def nB (l:List UInt64) (i:Nat) (h:i<l.length) (x:UInt64):(cj l).set i (.int .u64 x.toNat)=cj (l.set i x):=by
 simpa using Qf l [] i h x
end Go.Mg

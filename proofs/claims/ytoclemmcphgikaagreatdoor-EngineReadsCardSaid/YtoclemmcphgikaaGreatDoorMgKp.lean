/- Lemmas of ours. No conditions. -/
import Derived.WalkKit
namespace Go.Mg
open Go Go.RowKit
theorem bitsOf (x:UInt64):(BitVec.ofInt 64 (x.toNat:Int))=x.toBitVec:=by
 apply BitVec.eq_of_toNat_eq;simp
theorem yC (x:UInt64):IntKind.u64.wrap (x.toNat:Int)=x.toNat:=by
 have:=x.toNat_lt;rw[IntKind.wrap_u64];omega
theorem lq (x y:UInt64):bits .and .u64 (x.toNat:Int) (y.toNat:Int)=((x&&&y).toNat:Int):=by
 show IntKind.u64.wrap ((BitVec.ofInt 64 (x.toNat:Int)&&&BitVec.ofInt 64 (y.toNat:Int)).toNat:Int)=_
 rw[bitsOf,bitsOf];exact yC (x&&&y)
theorem sQ (x y:UInt64):bits .or .u64 (x.toNat:Int) (y.toNat:Int)=((x|||y).toNat:Int):=by
 show IntKind.u64.wrap ((BitVec.ofInt 64 (x.toNat:Int)|||BitVec.ofInt 64 (y.toNat:Int)).toNat:Int)=_
 rw[bitsOf,bitsOf];exact yC (x|||y)
def cN (l:List UInt64):List Value:=l.map fun x=>.int .u64 x.toNat
theorem aH (l:List UInt64):(cN l).length=l.length:=by simp[cN]
theorem Nz (l:List UInt64) (rest:List Value) (i:Nat) (h:i<l.length):(cN l++rest)[i]?=some (.int .u64 (l.getD i 0).toNat):=by
 have:i<(cN l).length:=by simpa[cN]using h
 rw[List.getElem?_append_left this];simp[cN,h]
theorem dT (l:List UInt64) (i:Nat) (h:i<l.length):(cN l)[i]?=some (.int .u64 (l.getD i 0).toNat):=by
 simpa using Nz l [] i h
theorem NC (l:List UInt64) (rest:List Value) (i:Nat) (h:i<l.length) (x:UInt64):(cN l++rest).set i (.int .u64 x.toNat)=cN (l.set i x)++rest:=by
 have:i<(cN l).length:=by simpa[cN]using h
 rw[List.set_append_left _ _ this];simp[cN,List.map_set]
theorem mz (l:List UInt64) (i:Nat) (h:i<l.length) (x:UInt64):(cN l).set i (.int .u64 x.toNat)=cN (l.set i x):=by
 simpa using NC l [] i h x
end Go.Mg

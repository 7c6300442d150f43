/- Lemmas of ours. No conditions. -/
import Derived.WalkKit
namespace Go.Mg
open Go Go.RowKit
theorem bitsOf (x:UInt64):(BitVec.ofInt 64 (x.toNat:Int))=x.toBitVec:=by
 apply BitVec.eq_of_toNat_eq;simp
theorem te (x:UInt64):IntKind.u64.wrap (x.toNat:Int)=x.toNat:=by
 have:=x.toNat_lt;rw[IntKind.wrap_u64];omega
theorem oL (x y:UInt64):bits .and .u64 (x.toNat:Int) (y.toNat:Int)=((x&&&y).toNat:Int):=by
 show IntKind.u64.wrap ((BitVec.ofInt 64 (x.toNat:Int)&&&BitVec.ofInt 64 (y.toNat:Int)).toNat:Int)=_
 rw[bitsOf,bitsOf];exact te (x&&&y)
theorem Bg (x y:UInt64):bits .or .u64 (x.toNat:Int) (y.toNat:Int)=((x|||y).toNat:Int):=by
 show IntKind.u64.wrap ((BitVec.ofInt 64 (x.toNat:Int)|||BitVec.ofInt 64 (y.toNat:Int)).toNat:Int)=_
 rw[bitsOf,bitsOf];exact te (x|||y)
def dV (l:List UInt64):List Value:=l.map fun x=>.int .u64 x.toNat
theorem aH (l:List UInt64):(dV l).length=l.length:=by simp[dV]
theorem Fc (l:List UInt64) (rest:List Value) (i:Nat) (h:i<l.length):(dV l++rest)[i]?=some (.int .u64 (l.getD i 0).toNat):=by
 have:i<(dV l).length:=by simpa[dV]using h
 rw[List.getElem?_append_left this];simp[dV,h]
theorem fK (l:List UInt64) (i:Nat) (h:i<l.length):(dV l)[i]?=some (.int .u64 (l.getD i 0).toNat):=by
 simpa using Fc l [] i h
theorem Fe (l:List UInt64) (rest:List Value) (i:Nat) (h:i<l.length) (x:UInt64):(dV l++rest).set i (.int .u64 x.toNat)=dV (l.set i x)++rest:=by
 have:i<(dV l).length:=by simpa[dV]using h
 rw[List.set_append_left _ _ this];simp[dV,List.map_set]
theorem lh (l:List UInt64) (i:Nat) (h:i<l.length) (x:UInt64):(dV l).set i (.int .u64 x.toNat)=dV (l.set i x):=by
 simpa using Fe l [] i h x
end Go.Mg

/- Lemmas of ours. No conditions. -/
import Derived.WalkKit
namespace Go.Mg
open Go Go.RowKit
theorem bitsOf (x:UInt64):(BitVec.ofInt 64 (x.toNat:Int))=x.toBitVec:=by
 apply BitVec.eq_of_toNat_eq;simp
theorem vx (x:UInt64):IntKind.u64.wrap (x.toNat:Int)=x.toNat:=by
 have:=x.toNat_lt;rw[IntKind.wrap_u64];omega
theorem mF (x y:UInt64):bits .and .u64 (x.toNat:Int) (y.toNat:Int)=((x&&&y).toNat:Int):=by
 show IntKind.u64.wrap ((BitVec.ofInt 64 (x.toNat:Int)&&&BitVec.ofInt 64 (y.toNat:Int)).toNat:Int)=_
 rw[bitsOf,bitsOf];exact vx (x&&&y)
theorem EE (x y:UInt64):bits .or .u64 (x.toNat:Int) (y.toNat:Int)=((x|||y).toNat:Int):=by
 show IntKind.u64.wrap ((BitVec.ofInt 64 (x.toNat:Int)|||BitVec.ofInt 64 (y.toNat:Int)).toNat:Int)=_
 rw[bitsOf,bitsOf];exact vx (x|||y)
def dI (l:List UInt64):List Value:=l.map fun x=>.int .u64 x.toNat
theorem aK (l:List UInt64):(dI l).length=l.length:=by simp[dI]
theorem Ii (l:List UInt64) (rest:List Value) (i:Nat) (h:i<l.length):(dI l++rest)[i]?=some (.int .u64 (l.getD i 0).toNat):=by
 have:i<(dI l).length:=by simpa[dI]using h
 rw[List.getElem?_append_left this];simp[dI,h]
theorem fF (l:List UInt64) (i:Nat) (h:i<l.length):(dI l)[i]?=some (.int .u64 (l.getD i 0).toNat):=by
 simpa using Ii l [] i h
theorem Ij (l:List UInt64) (rest:List Value) (i:Nat) (h:i<l.length) (x:UInt64):(dI l++rest).set i (.int .u64 x.toNat)=dI (l.set i x)++rest:=by
 have:i<(dI l).length:=by simpa[dI]using h
 rw[List.set_append_left _ _ this];simp[dI,List.map_set]
theorem mG (l:List UInt64) (i:Nat) (h:i<l.length) (x:UInt64):(dI l).set i (.int .u64 x.toNat)=dI (l.set i x):=by
 simpa using Ij l [] i h x
end Go.Mg

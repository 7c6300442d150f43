/- The plain side of keccak: lists of words. -/
import Derived.WalkKit
set_option linter.all false
namespace Go.Mg
open Go Go.RowKit
theorem bitsOf (x : UInt64) : (BitVec.ofInt 64 (x.toNat : Int)) = x.toBitVec := by
 apply BitVec.eq_of_toNat_eq
 simp
theorem wrapNat (x : UInt64) : IntKind.u64.wrap (x.toNat : Int) = x.toNat := by
 have := x.toNat_lt
 rw [IntKind.wrap_u64]; omega
theorem bits_and (x y : UInt64) : bits .and .u64 (x.toNat : Int) (y.toNat : Int) = ((x &&& y).toNat : Int) := by
 show IntKind.u64.wrap ((BitVec.ofInt 64 (x.toNat : Int) &&& BitVec.ofInt 64 (y.toNat : Int)).toNat : Int) = _
 rw [bitsOf, bitsOf]; exact wrapNat (x &&& y)
theorem bits_or (x y : UInt64) : bits .or .u64 (x.toNat : Int) (y.toNat : Int) = ((x ||| y).toNat : Int) := by
 show IntKind.u64.wrap ((BitVec.ofInt 64 (x.toNat : Int) ||| BitVec.ofInt 64 (y.toNat : Int)).toNat : Int) = _
 rw [bitsOf, bitsOf]; exact wrapNat (x ||| y)
def w64 (l : List UInt64) : List Value := l.map fun x => .int .u64 x.toNat
theorem w64_len (l : List UInt64) : (w64 l).length = l.length := by simp [w64]
theorem w64_getA (l : List UInt64) (rest : List Value) (i : Nat) (h : i < l.length) : (w64 l ++ rest)[i]? = some (.int .u64 (l.getD i 0).toNat) := by
 have : i < (w64 l).length := by simpa [w64] using h
 rw [List.getElem?_append_left this]
 simp [w64, h]
theorem w64_get (l : List UInt64) (i : Nat) (h : i < l.length) : (w64 l)[i]? = some (.int .u64 (l.getD i 0).toNat) := by
 simpa using w64_getA l [] i h
theorem w64_setA (l : List UInt64) (rest : List Value) (i : Nat) (h : i < l.length) (x : UInt64) : (w64 l ++ rest).set i (.int .u64 x.toNat) = w64 (l.set i x) ++ rest := by
 have : i < (w64 l).length := by simpa [w64] using h
 rw [List.set_append_left _ _ this]
 simp [w64, List.map_set]
theorem w64_set (l : List UInt64) (i : Nat) (h : i < l.length) (x : UInt64) : (w64 l).set i (.int .u64 x.toNat) = w64 (l.set i x) := by
 simpa using w64_setA l [] i h x
end Go.Mg

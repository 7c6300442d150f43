/- names: reading tables from bytes. -/
import Derived.Test.YteeemadonfcliacDoorMgN10
import Derived.Test.YteeemadonfcliacDoorMgW2
namespace Go.Mg
open Go Go.RowKit
set_option linter.all false
set_option maxRecDepth 100000
def flatE (l : List (List UInt8)) : List UInt8 := l.flatMap encB
theorem encN_flatE (l : List (List UInt8)) : ∀ n, n <= l.length -> encN l n = enc7 l.length ++ flatE (l.take n)
 | 0, _ => by simp [encN, iter, flatE]
 | n + 1, hn => by
  have e2 : l.take (n + 1) = l.take n ++ [l.getD n []] := by rw [List.take_add_one]; simp [show n < l.length by omega]
  have e3 : flatE (l.take n ++ [l.getD n []]) = flatE (l.take n) ++ encB (l.getD n []) := by simp [flatE]
  rw [encN_succ, encN_flatE l n (by omega), e2, e3, List.append_assoc]
theorem tbytes_flat (l : List (List UInt8)) : tbytes l = enc7 l.length ++ flatE l := by
 rw [tbytes, encN_flatE l _ (Nat.le_refl _), List.take_length]
theorem rdByt_enc (x r : List UInt8) (h : x.length <= 12) : rdByt 12 (encB x ++ r, 0) = (x, (r, 0)) := by
 unfold rdByt
 rw [if_neg (by simp), encB, List.append_assoc, dec7_enc _ (by omega)]
 simp only
 rw [if_neg (by omega), if_neg (by simp), List.take_left, List.drop_left]
end Go.Mg

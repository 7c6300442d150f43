/- Several texts of ours in one. No conditions. -/
import Derived.Test.YtjiacmbjgccfcaaDoorMgT1
import Derived.Test.YtjiacmbjgccfcaaDoorMgS2
namespace Go.Mg
open Go Go.RowKit
set_option linter.unusedSimpArgs false
set_option linter.unusedVariables false
set_option maxRecDepth 100000
def LA : List (Int × Int) := [(0, 1), (1, 3), (0, 2), (2, 3), (0, 3)]
def RA : Nat → Nat → Bool := relI LA
theorem rng_of {n : Nat} {L : List (Int × Int)} (h : ∀ p ∈ L, okP (n : Int) p) : Rng n (relI L) := fun a b hab => by
  have := h _ (of_decide_eq_true hab)
  unfold okP at this
  simp only at this
  omega
theorem okA : ∀ p ∈ LA, okP ((4 : Nat) : Int) p := by unfold okP; decide
end Go.Mg
namespace Go.Mg
open Go Go.RowKit
set_option linter.unusedSimpArgs false
set_option linter.unusedVariables false
set_option maxRecDepth 100000
end Go.Mg
namespace Go.Mg
open Go Go.RowKit
set_option linter.unusedSimpArgs false
set_option linter.unusedVariables false
set_option maxRecDepth 100000
end Go.Mg

/- Several texts of ours in one. No conditions. -/
import Derived.Test.YtamkbeibmhkciaaDoorMgT4
namespace Go.Mg
open Go Go.RowKit
set_option linter.unusedSimpArgs false
set_option linter.unusedVariables false
set_option maxRecDepth 100000
/- arbaclaw06.OrderEnds -/
theorem SlE.takeV {α : Type} {enc : α → List Value} {k : Nat} {H : Hp} {v : Value} {l : List α} (hk : ∀ x, (enc x).length = k) (h : SlE enc k H v l) {n : Nat} (hn : n ≤ l.length) : SlE enc k H (slV v k none (some (n : Int))) (l.take n) := by
  rcases h with ⟨a, c, rfl, rfl⟩ | ⟨b, o, c, hne, rfl, h0, C, T, z, h1, h2, h3⟩
  · have : n = 0 := by simpa using hn
    subst this
    exact .inl ⟨_, c - 0, rfl, by simp⟩
  · have hl : (l.take n).length = n := by simp; omega
    have hm : n * k ≤ l.length * k := Nat.mul_le_mul hn (Nat.le_refl _)
    have := SlE.at_ (enc := enc) (k := k) (l := l.take n) (o := o) (c := c) (by omega) h1 (by rw [hl]; omega) (by
      rw [hl]
      rw [← fl_take hk l n hn, ← h3]
      rw [List.take_take, Nat.min_eq_left hm])
    rw [hl] at this
    simp [slV, loN, hiN, add_off] at this ⊢
    exact this
end Go.Mg

namespace Go.Mg
open Go Go.RowKit
set_option linter.unusedSimpArgs false
set_option linter.unusedVariables false
set_option maxRecDepth 100000
/- arbaclaw06.OrderMakes -/
end Go.Mg

namespace Go.Mg
open Go Go.RowKit
set_option linter.unusedSimpArgs false
set_option linter.unusedVariables false
set_option maxRecDepth 100000
/- arbaclaw06.OrderPairs -/
end Go.Mg

namespace Go.Mg
open Go Go.RowKit
set_option linter.unusedSimpArgs false
set_option linter.unusedVariables false
set_option maxRecDepth 100000
/- arbaclaw06.OrderCovers -/
/-! ### a strict order has at most half of the pairs -/
def sm : Nat → (Nat → Nat) → Nat
  | 0, _ => 0
  | n + 1, f => sm n f + f n
end Go.Mg

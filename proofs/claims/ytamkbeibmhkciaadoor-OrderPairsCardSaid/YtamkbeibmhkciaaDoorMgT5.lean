/- order: the laws Ends, Makes. -/
import Derived.Test.YtamkbeibmhkciaaDoorMgT4
namespace Go.Mg
open Go Go.RowKit
set_option linter.unusedSimpArgs false
set_option linter.unusedVariables false
set_option maxRecDepth 100000
/- arbaclaw06.OrderEnds -/
theorem SlE.takeV {α : Type} {enc : α → List Value} {k : Nat} {H : Hp} {v : Value} {l : List α} (hk : ∀ x, (enc x).length = k) (h : SlE enc k H v l) {n : Nat} (hn : n ≤ l.length) : SlE enc k H (slV v k none (some (n : Int))) (l.take n) := by
  rcases h with ⟨a, c, rfl, rfl⟩ | ⟨b, o, c, hne, rfl, h0, C, T, z, h1, h2, h3⟩
  · have : n = 0 := by simpa using hn
    subst this
    exact .inl ⟨_, c - 0, rfl, by simp⟩
  · have hl : (l.take n).length = n := by simp; omega
    have hm : n * k ≤ l.length * k := Nat.mul_le_mul hn (Nat.le_refl _)
    have := SlE.at_ (enc := enc) (k := k) (l := l.take n) (o := o) (c := c) (by omega) h1 (by rw [hl]; omega) (by
      rw [hl]
      rw [← fl_take hk l n hn, ← h3]
      rw [List.take_take, Nat.min_eq_left hm])
    rw [hl] at this
    simp [slV, loN, hiN, add_off] at this ⊢
    exact this
theorem SlE.dropV {α : Type} {enc : α → List Value} {k : Nat} {H : Hp} {v : Value} {l : List α} (hk : ∀ x, (enc x).length = k) (h : SlE enc k H v l) {n : Nat} (hn : n ≤ l.length) : SlE enc k H (slV v k (some (n : Int)) none) (l.drop n) := by
  rcases h with ⟨a, c, rfl, rfl⟩ | ⟨b, o, c, hne, rfl, h0, C, T, z, h1, h2, h3⟩
  · have : n = 0 := by simpa using hn
    subst this
    exact .inl ⟨_, c - 0, rfl, by simp⟩
  · have hl : (l.drop n).length = l.length - n := by simp
    have hm : (l.length - n) * k + n * k = l.length * k := by rw [← Nat.add_mul, Nat.sub_add_cancel hn]
    by_cases hc : c = n
    · have hln : l.length = n := by omega
      have : l.drop n = [] := List.drop_eq_nil_of_le (by omega)
      rw [this]
      simp [slV, loN, hiN, hc, hln]
      exact SlE.nil _ _ _
    · have := SlE.at_ (enc := enc) (k := k) (l := l.drop n) (o := o + n * k) (c := c - n) (by omega) h1 (by rw [hl]; omega) (by
        rw [hl]
        rw [← fl_drop hk l n hn, ← h3]
        rw [List.drop_take, List.drop_drop]
        congr 1
        omega)
      rw [hl] at this
      simp [slV, loN, hiN, hc, add_off] at this ⊢
      exact this
end Go.Mg

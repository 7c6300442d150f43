/- Several texts of ours in one. No conditions. -/
import Derived.Test.YtjiacmbjgccfcaaDoorMgR4
namespace Go.Mg
open Go Go.RowKit
set_option linter.unusedSimpArgs false
set_option linter.unusedVariables false
set_option maxRecDepth 100000
end Go.Mg
namespace Go.Mg
open Go Go.RowKit
set_option linter.unusedSimpArgs false
set_option linter.unusedVariables false
set_option maxRecDepth 100000
theorem RNewRes.shape {n : Int} {L : List (Int × Int)} {r : Value} {H : Hp} (h : RNewRes n L r H) : ∃ (c d : Value) (e : Int) (x : Int), r = .tuple #[.agg #[c, d], .int .i64 e] ∧ c = .int .i64 x ∧ isSl d := by
  rcases h with ⟨_, h⟩ | ⟨_, _, h⟩ | ⟨_, _, _, h⟩ | ⟨_, _, _, v, h, _, _, pv, hv, hp⟩
  · exact ⟨_, _, _, _, h, rfl, trivial⟩
  · exact ⟨_, _, _, _, h, rfl, trivial⟩
  · exact ⟨_, _, _, _, h, rfl, trivial⟩
  · subst hv
    exact ⟨_, _, _, _, h, rfl, hp.isSl⟩
theorem RNewRes.keep {W : Nat → Prop} {n : Int} {L : List (Int × Int)} {r : Value} {H H' : Hp} {B : Nat} (h : RNewRes n L r H) (hf : frR B r) (hk : Keep W H H') (hw : ∀ q, B ≤ q → ¬ W q) : RNewRes n L r H' := by
  rcases h with h | h | h | ⟨h1, h2, h3, v, h, h4, h5, pv, hv, hp⟩
  · exact .inl h
  · exact .inr (.inl h)
  · exact .inr (.inr (.inl h))
  · subst hv
    exact .inr (.inr (.inr ⟨h1, h2, h3, _, h, h4, h5, _, rfl, hp.keep hk fun q hq => hw q (hf _ _ _ h q hq)⟩))
end Go.Mg

/- matching: slices of ints, move. -/
import Derived.Test.YtjiacmbjgccfcaaDoorMgM9
import Derived.Test.YtjiacmbjgccfcaaDoorMgMA
namespace Go.Mg
open Go Go.RowKit
set_option linter.unusedSimpArgs false
set_option linter.unusedVariables false
set_option maxRecDepth 100000
theorem OwS.room {H : Hp} {v : Value} {l : List Value} (h : OwS H v l) (hl : l ≠ []) : ∃ b c C, v = .slice (Option.some ⟨b, 0, Option.none⟩) l.length c ∧ l.length ≤ c ∧ Bl H b (l ++ C) := by
  rcases h with ⟨_, h⟩ | ⟨b, c, L, h1, h2, h3, h4, h5⟩
  · exact absurd h hl
  · refine ⟨b, c, L.drop l.length, h1, by omega, ?_⟩
    have : l ++ L.drop l.length = L := by
      have e := List.take_append_drop l.length L
      rw [h5] at e; exact e
    rw [this]; exact h4
end Go.Mg

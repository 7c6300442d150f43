/- what a law's slice arguments show in the heap. -/
import Derived.Test.YtamkbeibmhkciaaDoorMgLaid
import Derived.Test.YtamkbeibmhkciaaDoorMgOwn
namespace Go.Mg
open Go Go.ChangeShapes Go.WideShapes Go.RowKit
section
variable {H : Type} {enc : TypeId × Value → H} {P : Program}
theorem cellAt {w : World} {a : Addr} {u : Value} (h : w.cell? a = some u) : a.spot = none ∧ ∃ c e fr, w.heap[a.block]? = some (.cells c e fr) ∧ c[a.off]? = some u := by
  unfold World.cell? at h
  split at h
  · rename_i hb hs
    split at h
    · cases h
    · rename_i hn
      exact ⟨by simpa using hn, _, _, _, hs, h⟩
  · simp at h
end
end Go.Mg

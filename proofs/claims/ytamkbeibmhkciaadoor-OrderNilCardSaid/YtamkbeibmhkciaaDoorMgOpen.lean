/- what a law's slice arguments show in the heap. -/
import Derived.Test.YtamkbeibmhkciaaDoorMgLaid
import Derived.Test.YtamkbeibmhkciaaDoorMgOwn
namespace Go.Mg
open Go Go.ChangeShapes Go.WideShapes Go.RowKit
section
variable {H : Type} {enc : TypeId × Value → H} {P : Program}
theorem cellAt {w : World} {a : Addr} {u : Value} (h : w.cell? a = some u) : a.spot = none ∧ ∃ c e fr, w.heap[a.block]? = some (.cells c e fr) ∧ c[a.off]? = some u := by
  unfold World.cell? at h
  split at h
  · rename_i hb hs
    split at h
    · cases h
    · rename_i hn
      exact ⟨by simpa using hn, _, _, _, hs, h⟩
  · simp at h
theorem int_arg {W : World} {r : Reach} {b0 base : Nat} {sp : Nat → Bool} {held : Bool} {t : TypeId} {v : Value} {d : DataW H} {ps : List MemPlace} (ht : P.underlying t = some (.int .i64)) (h : Value.okWide P W r b0 t v) (hd : DataW.Trod enc P W base sp held t v d ps) : ∃ x : Int, v = .int .i64 x ∧ -9223372036854775808 ≤ x ∧ x ≤ 9223372036854775807 := by
  obtain ⟨n, rfl⟩ := okWide_int ht h
  obtain ⟨fuel, hf⟩ := hd
  obtain ⟨m, h1, -, hw⟩ := DataW.trod_int ht hf
  simp [Value.cells] at h1
  subst h1
  simp only [Lit.wf, Bool.and_eq_true, decide_eq_true_eq] at hw
  exact ⟨n, rfl, hw.1, hw.2⟩
end
end Go.Mg

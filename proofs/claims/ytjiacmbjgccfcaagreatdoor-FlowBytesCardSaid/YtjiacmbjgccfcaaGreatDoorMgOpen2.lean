/- what a law's arguments show in the heap: slices of small arrays of bytes, 16-bit numbers. -/
import Derived.Test.YtjiacmbjgccfcaaGreatDoorMgOpen
namespace Go.Mg
open Go Go.ChangeShapes Go.WideShapes Go.RowKit
def WdR (m : Nat) (H : Hp) (v : Value) (ws : List (List UInt8)) : Prop :=
  ∃ a c, v = .slice a ws.length c ∧ ws.length ≤ c ∧ ∀ i, i < ws.length → (ws.getD i []).length = m ∧ ∃ b o, a = some ⟨b, o, none⟩ ∧ b < H.size ∧ Mg.ldNA H ⟨b, o + i * m, none⟩ m = some (w8 (ws.getD i [])).toArray
theorem WdR.keep0 {m : Nat} {H H' : Hp} {v : Value} {ws : List (List UInt8)} (h : WdR m H v ws) (hk : Keep (fun _ => False) H H') : WdR m H' v ws := by
  obtain ⟨a, c, h1, h2, h3⟩ := h
  refine ⟨a, c, h1, h2, fun i hi => ?_⟩
  obtain ⟨h4, b, o, h5, h6, h7⟩ := h3 i hi
  exact ⟨h4, b, o, h5, Nat.lt_of_lt_of_le h6 hk.size, by rw [hk.ldNA (p := ⟨b, o + i * m, none⟩) h6 (by simp)]; exact h7⟩
section
variable {H : Type} {enc : TypeId × Value → H} {P : Program}
end
end Go.Mg

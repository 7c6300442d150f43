/- Several texts of ours in one. No conditions. -/
import Derived.Test.YteeemadonfcliacDoorMgB2
import Derived.Test.YteeemadonfcliacDoorMgRf4
namespace Go.Mg
open Go Go.RowKit
set_option linter.all false
set_option maxRecDepth 100000
end Go.Mg
namespace Go.Mg
open Go Go.RowKit
set_option linter.all false
set_option maxRecDepth 100000
theorem SetV.cells {H : Hp} {v : Value} {W : List UInt64} {p : Nat -> Bool} (h : SetV H v W p) {i : Nat} (hi : i < W.length) : ∃ b o c, v = .slice (some ⟨b, o, none⟩) W.length c /\ ∀ j, j < W.length -> cell H ⟨b, o + j, none⟩ = some (.int .u64 ((W.getD j 0).toNat : Int)) := by
 obtain ⟨b, o, c, h1, -, hc⟩ := h.sl.cells (by intro e; have h := congrArg List.length e; rw [w64_len, List.length_nil] at h; omega)
 rw [w64_len] at h1 hc
 exact ⟨b, o, c, h1, fun j hj => by rw [hc j hj, w64_get _ _ hj]⟩
end Go.Mg

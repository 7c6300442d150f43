/- Several texts of ours in one. No conditions. -/
import Derived.Test.YtjiacmbjgccfcaaDoorMgB3
namespace Go.Mg
open Go Go.RowKit
set_option linter.unusedSimpArgs false
set_option linter.unusedVariables false
set_option maxRecDepth 100000
def tagB (H : Hp) (b : Nat) : Option TypeId := match H[b]? with | some (.cells _ T _) => some T | _ => none
theorem tagB_keep {W : Nat → Prop} {H H' : Hp} (hk : Keep W H H') {q : Nat} {T : TypeId} (h : tagB H q = some T) (hw : ¬ W q) : tagB H' q = some T := by
  have hlt : q < H.size := by
    apply Decidable.byContradiction
    intro hn
    have : H[q]? = none := by simpa using hn
    unfold tagB at h; rw [this] at h; cases h
  unfold tagB at *
  rw [hk.at_ q hlt hw]; exact h
def Bld (ι : Ids) (F : Nat → Prop) (H : Hp) (b : Nat) (l : List UInt8) : Prop := F b ∧ ∃ p v, H[b]? = some (.cells #[p, v] (ι.t 215) (0, 0)) ∧ (p = .pointer none ∨ p = .pointer (some ⟨b, 0, none⟩)) ∧ OwS H v (w8 l) ∧ ∀ q, ownB v q → tagB H q = some (ι.t 19) ∧ q ≠ b ∧ F q
theorem Bld.keep {ι : Ids} {F : Nat → Prop} {H H' : Hp} {b : Nat} {l : List UInt8} {W : Nat → Prop} (h : Bld ι F H b l) (hk : Keep W H H') (hw : ∀ q, F q → q < H.size → ¬ W q) : Bld ι F H' b l := by
  obtain ⟨hB, p, v, h1, h2, h3, h4⟩ := h
  have hb : b < H.size := (Array.getElem?_eq_some_iff.1 h1).1
  exact ⟨hB, p, v, by rw [hk.at_ b hb (hw b hB hb)]; exact h1, h2, h3.keep hk fun q hq => hw q (h4 q hq).2.2 (h3.old hq), fun q hq => ⟨tagB_keep hk (h4 q hq).1 (hw q (h4 q hq).2.2 (h3.old hq)), (h4 q hq).2⟩⟩
theorem Bld.mono {ι : Ids} {F F' : Nat → Prop} {H : Hp} {b : Nat} {l : List UInt8} (h : Bld ι F H b l) (hf : ∀ q, F q → q < H.size → F' q) : Bld ι F' H b l := by
  obtain ⟨hB, p, v, h1, h2, h3, h4⟩ := h
  have hb : b < H.size := (Array.getElem?_eq_some_iff.1 h1).1
  exact ⟨hf b hB hb, p, v, h1, h2, h3, fun q hq => ⟨(h4 q hq).1, (h4 q hq).2.1, hf q (h4 q hq).2.2 (h3.old hq)⟩⟩
end Go.Mg
namespace Go.Mg
open Go Go.RowKit
set_option linter.unusedSimpArgs false
set_option linter.unusedVariables false
set_option maxRecDepth 100000
end Go.Mg

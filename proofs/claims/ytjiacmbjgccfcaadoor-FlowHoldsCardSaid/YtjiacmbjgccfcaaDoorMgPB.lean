/- Several texts of ours in one. No conditions. -/
import Derived.Test.YtjiacmbjgccfcaaDoorMgP5
namespace Go.Mg
open Go Go.RowKit
set_option linter.unusedSimpArgs false
set_option linter.unusedVariables false
set_option maxRecDepth 100000
def toI (p : NP) : Int × Int := ((p.1 : Int), (p.2 : Int))
theorem OwE.conv {α β : Type} {enc : α → List Value} {enc' : β → List Value} {k : Nat} {H : Hp} {v : Value} {l : List α} {l' : List β} (h : OwE enc k H v l) (e : l'.length = l.length) (f : l'.flatMap enc' = l.flatMap enc) : OwE enc' k H v l' := by
  rcases h with ⟨h1, rfl⟩ | ⟨b, c, L, rfl, h1, h2, hb, h3⟩
  · exact .inl ⟨h1, List.eq_nil_of_length_eq_zero (by simpa using e)⟩
  · exact .inr ⟨b, c, L, by rw [e], by omega, h2, hb, by rw [e, f]; exact h3⟩
theorem NewRes.shape {n : Int} {L : List (Int × Int)} {r : Value} {H : Hp} (h : NewRes n L r H) : ∃ x y, r = .tuple #[x, y] := by
  rcases h with ⟨_, h⟩ | ⟨_, _, h⟩ | ⟨_, _, _, h⟩ | ⟨_, _, _, pv, h, _⟩ <;> exact ⟨_, _, h⟩
end Go.Mg
namespace Go.Mg
open Go Go.RowKit
set_option linter.unusedSimpArgs false
set_option linter.unusedVariables false
set_option maxRecDepth 100000
end Go.Mg
namespace Go.Mg
open Go Go.RowKit
set_option linter.unusedSimpArgs false
set_option linter.unusedVariables false
set_option maxRecDepth 100000
theorem SlE.isCells {α : Type} {enc : α → List Value} {k : Nat} {H : Hp} {v : Value} {l : List α} (h : SlE enc k H v l) {q : Nat} (hq : slB v q) : ∃ C T z, H[q]? = some (.cells C T z) := by
  rcases h with ⟨a, c, rfl, _⟩ | ⟨b, o, c, _, rfl, h0, C, T, z, h1, h2, h3⟩
  · cases a <;> simp [Mg.slB] at hq
  · obtain ⟨rfl, _⟩ := hq; exact ⟨C, T, z, h1⟩
theorem OrdV.keepM {H H' : Hp} {v : Value} {n : Nat} {R : Nat → Nat → Bool} {ms : List Nat} (h : OrdV H v n R) (hk : Keep (fun q => q ∈ ms) H H') (hm : ∀ q ∈ ms, H[q]? = some (.deferred (some []))) : OrdV H' v n R := by
  obtain ⟨h1, h2, h3, b, pv, sv, ab, bb, avs, bvs, C, rfl, g1, g2, g3, g4, g5⟩ := h
  have nc : ∀ {q C T z}, H[q]? = some (.cells C T z) → q ∉ ms := fun {q C T z} hc hq => by rw [hm q hq] at hc; cases hc
  refine ⟨h1, h2, h3, b, pv, sv, ab, bb, avs, bvs, C, rfl, hk.bl g1 ?_, g2.keep hk fun q hq => ?_, g3.keepM hk hm, g4.keepM hk hm, g5.keep hk fun q hq => ?_⟩
  · obtain ⟨T, hb⟩ := g1; exact nc hb
  · obtain ⟨C', T, z, hb⟩ := g2.isCells hq; exact nc hb
  · obtain ⟨C', T, z, hb⟩ := g5.isCells hq; exact nc hb
noncomputable def keepR (R : Nat → Nat → Bool) (q : Nat → Nat → Bool) (x y : Nat) : Bool := tcB R x y && q x y
theorem Rng.keepR {n : Nat} {R : Nat → Nat → Bool} (h : Rng n R) (q : Nat → Nat → Bool) : Rng n (keepR R q) := fun a b k => by
  unfold Mg.keepR at k; simp only [Bool.and_eq_true] at k; exact h.clo a b k.1
theorem Acy.keepR {R : Nat → Nat → Bool} (h : Acy R) (q : Nat → Nat → Bool) : Acy (keepR R q) := fun a t => h.clo a (t.mono fun u v k => by
  unfold Mg.keepR at k; simp only [Bool.and_eq_true] at k; exact .one k.1)
end Go.Mg
namespace Go.Mg
open Go Go.RowKit
set_option linter.unusedSimpArgs false
set_option linter.unusedVariables false
set_option maxRecDepth 100000
end Go.Mg
namespace Go.Mg
open Go Go.RowKit
set_option linter.unusedSimpArgs false
set_option linter.unusedVariables false
set_option maxRecDepth 100000
end Go.Mg
namespace Go.Mg
open Go Go.RowKit
set_option linter.unusedSimpArgs false
set_option linter.unusedVariables false
set_option maxRecDepth 100000
end Go.Mg

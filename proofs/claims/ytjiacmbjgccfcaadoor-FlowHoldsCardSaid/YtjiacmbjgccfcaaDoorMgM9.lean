/- Several texts of ours in one. No conditions. -/
import Derived.Test.YtjiacmbjgccfcaaDoorMgB4
namespace Go.Mg
open Go Go.RowKit
set_option linter.unusedSimpArgs false
set_option linter.unusedVariables false
set_option maxRecDepth 100000
def nI (l : List Nat) : List Int := l.map fun n : Nat => (n : Int)
structure GrH (H : Hp) (v : Value) (ps : List (Nat → Bool)) (Z : Nat → Prop) (vs : List Value) : Prop where
  sl : SlR H v vs
  len : vs.length = ps.length
  at_ : ∀ i, i < ps.length → SetM H (.agg #[vs.getD i undef]) (ps.getD i fun _ => false)
  z1 : ∀ k, slB v k → Z k
  z2 : ∀ i k, i < ps.length → slB (vs.getD i undef) k → Z k
def GrM (H : Hp) (v : Value) (ps : List (Nat → Bool)) (Z : Nat → Prop) : Prop := ∃ vs, GrH H v ps Z vs
theorem GrH.keep {H H' : Hp} {v : Value} {ps : List (Nat → Bool)} {Z X : Nat → Prop} {vs : List Value} (h : GrH H v ps Z vs) (hk : Keep X H H') (hx : ∀ k, k < H.size → Z k → ¬ X k) : GrH H' v ps Z vs :=
  ⟨h.sl.keep hk fun k hb => hx k (h.sl.old hb) (h.z1 k hb), h.len, fun i hi => (h.at_ i hi).keep hk fun k hb => hx k ((h.at_ i hi).old hb) (h.z2 i k hi hb), h.z1, h.z2⟩
theorem GrM.keep {H H' : Hp} {v : Value} {ps : List (Nat → Bool)} {Z X : Nat → Prop} (h : GrM H v ps Z) (hk : Keep X H H') (hx : ∀ k, k < H.size → Z k → ¬ X k) : GrM H' v ps Z := let ⟨vs, h⟩ := h; ⟨vs, h.keep hk hx⟩
theorem GrM.keep0 {H H' : Hp} {v : Value} {ps : List (Nat → Bool)} {Z : Nat → Prop} (h : GrM H v ps Z) (hk : Keep (fun _ => False) H H') : GrM H' v ps Z := h.keep hk (fun _ _ _ h => h)
def wide (ps : List (Nat → Bool)) : Bool := ps.any fun p => (mems p).any fun n => decide (256 ≤ n)
end Go.Mg
namespace Go.Mg
open Go Go.RowKit
set_option linter.unusedSimpArgs false
set_option linter.unusedVariables false
set_option linter.unusedSectionVars false
set_option maxRecDepth 100000
def srL (gv lv : Value) (R : List Int) (F Se : List Bool) : List Value := gv :: lv :: (iL R ++ (bL F ++ bL Se))
section
variable {gv lv : Value} {R : List Int} {F Se : List Bool} (hR : R.length = 256) (hF : F.length = 256) (hS : Se.length = 256)
include hR in
end
structure SrH (H : Hp) (s bl : Nat) (gv : Value) (vs : List Value) (g : List (List Nat)) (Z : Nat → Prop) (st : Sst) (F : List Bool) : Prop where
  S : Bl H s (srL gv (.slice (some ⟨bl, 0, none⟩) st.L.length st.L.length) st.R F st.Se)
  L : Bl H bl (iL st.L)
  ne : s ≠ bl
  sl : SlR H gv vs
  len : vs.length = g.length
  at_ : ∀ i, i < g.length → SlR H (vs.getD i undef) (iL (nI (g.getD i [])))
  z1 : ∀ k, slB gv k → Z k
  z2 : ∀ i k, i < g.length → slB (vs.getD i undef) k → Z k
  zs : ¬ Z s
  zl : ¬ Z bl
  lL : st.L.length = g.length
  lR : st.R.length = 256
  lS : st.Se.length = 256
  lF : F.length = 256
theorem SrH.keep {H H' : Hp} {s bl : Nat} {gv : Value} {vs : List Value} {g : List (List Nat)} {Z X : Nat → Prop} {st : Sst} {F : List Bool} (h : SrH H s bl gv vs g Z st F) (hk : Keep X H H') (h1 : ¬ X s) (h2 : ¬ X bl) (h3 : ∀ k, k < H.size → Z k → ¬ X k) : SrH H' s bl gv vs g Z st F :=
  ⟨hk.bl h.S h1, hk.bl h.L h2, h.ne, h.sl.keep hk fun k hb => h3 k (h.sl.old hb) (h.z1 k hb), h.len, fun i hi => (h.at_ i hi).keep hk fun k hb => h3 k ((h.at_ i hi).old hb) (h.z2 i k hi hb), h.z1, h.z2, h.zs, h.zl, h.lL, h.lR, h.lS, h.lF⟩
structure SrG (H : Hp) (s bl c : Nat) (X : List Value) (gv : Value) (vs : List Value) (g : List (List Nat)) (Z : Nat → Prop) (st : Sst) (F : List Bool) : Prop where
  S : Bl H s (srL gv (.slice (some ⟨bl, 0, none⟩) st.L.length c) st.R F st.Se)
  L : Bl H bl (iL st.L ++ X)
  ne : s ≠ bl
  sl : SlR H gv vs
  len : vs.length = g.length
  at_ : ∀ i, i < g.length → SlR H (vs.getD i undef) (iL (nI (g.getD i [])))
  z1 : ∀ k, slB gv k → Z k
  z2 : ∀ i k, i < g.length → slB (vs.getD i undef) k → Z k
  zs : ¬ Z s
  zl : ¬ Z bl
  lL : st.L.length = g.length
  lR : st.R.length = 256
  lS : st.Se.length = 256
  lF : F.length = 256
theorem SrG.keep {H H' : Hp} {s bl c : Nat} {X : List Value} {gv : Value} {vs : List Value} {g : List (List Nat)} {Z Y : Nat → Prop} {st : Sst} {F : List Bool} (h : SrG H s bl c X gv vs g Z st F) (hk : Keep Y H H') (h1 : ¬ Y s) (h2 : ¬ Y bl) (h3 : ∀ k, k < H.size → Z k → ¬ Y k) : SrG H' s bl c X gv vs g Z st F :=
  ⟨hk.bl h.S h1, hk.bl h.L h2, h.ne, h.sl.keep hk fun k hb => h3 k (h.sl.old hb) (h.z1 k hb), h.len, fun i hi => (h.at_ i hi).keep hk fun k hb => h3 k ((h.at_ i hi).old hb) (h.z2 i k hi hb), h.z1, h.z2, h.zs, h.zl, h.lL, h.lR, h.lS, h.lF⟩
end Go.Mg
namespace Go.Mg
open Go Go.RowKit
set_option linter.unusedSimpArgs false
set_option linter.unusedVariables false
set_option maxRecDepth 100000
end Go.Mg
namespace Go.Mg
open Go Go.RowKit
set_option linter.unusedSimpArgs false
set_option linter.unusedVariables false
set_option maxRecDepth 100000
def OwT (H : Hp) (v : Value) (l : List Value) : Prop :=
  (v = .slice none 0 0 ∧ l = []) ∨ ∃ b o c L, v = .slice (some ⟨b, o, none⟩) l.length c ∧ l.length ≤ c ∧ o + c ≤ L.length ∧ Bl H b L ∧ (L.drop o).take l.length = l
theorem OwT.keep {W : Nat → Prop} {H H' : Hp} {v : Value} {l : List Value} (h : OwT H v l) (hk : Keep W H H') (hw : ∀ k, ownB v k → ¬ W k) : OwT H' v l := by
  rcases h with h | ⟨b, o, c, L, rfl, h1, h2, hb, h3⟩
  · exact .inl h
  · exact .inr ⟨b, o, c, L, rfl, h1, h2, hk.bl hb (hw b rfl), h3⟩
theorem OwT.old {H : Hp} {v : Value} {l : List Value} (h : OwT H v l) {k : Nat} (hk : ownB v k) : k < H.size := by
  rcases h with ⟨rfl, rfl⟩ | ⟨b, o, c, L, rfl, h1, h2, hb, h3⟩
  · exact hk.elim
  · cases hk; exact hb.lt
theorem OwT.sl {H : Hp} {v : Value} {l : List Value} (h : OwT H v l) : SlR H v l := by
  rcases h with ⟨rfl, rfl⟩ | ⟨b, o, c, L, rfl, h1, h2, hb, h3⟩
  · exact SlR.nil _ _ _
  · have := SlR.bl hb o l.length c h1 (by omega)
    rw [h3] at this
    exact this
theorem OwT.shape {H : Hp} {v : Value} {l : List Value} (h : OwT H v l) : ∃ a n c, v = .slice a n c := by
  rcases h with ⟨rfl, _⟩ | ⟨b, o, c, L, rfl, _⟩ <;> exact ⟨_, _, _, rfl⟩
end Go.Mg
namespace Go.Mg
open Go Go.RowKit
set_option linter.unusedSimpArgs false
set_option linter.unusedVariables false
set_option maxRecDepth 100000
def CkTo (ps : List (Nat → Bool)) (m : List Int) (i : Nat) : Prop := (∀ a < i, gi m a = -1 ∨ memI (ps.getD a fun _ => false) (gi m a) = true) ∧ ∀ a < i, ∀ b < i, gi m a = gi m b → gi m a ≠ -1 → a = b
theorem CkTo.skip {ps : List (Nat → Bool)} {m : List Int} {i : Nat} (h : CkTo ps m i) (hi : gi m i = -1) : CkTo ps m (i + 1) := by
  refine ⟨fun a ha => ?_, fun a ha b hb e hn => ?_⟩
  · by_cases e : a = i
    · subst e; exact .inl hi
    · exact h.1 a (by omega)
  · by_cases e1 : a = i
    · subst e1; exact absurd hi hn
    · by_cases e2 : b = i
      · subst e2; exact absurd (e.trans hi) hn
      · exact h.2 a (by omega) b (by omega) e hn
theorem CkTo.push {ps : List (Nat → Bool)} {m : List Int} {i : Nat} (h : CkTo ps m i) (hi : memI (ps.getD i fun _ => false) (gi m i) = true) (hu : ∀ a < i, gi m a ≠ gi m i) : CkTo ps m (i + 1) := by
  refine ⟨fun a ha => ?_, fun a ha b hb e hn => ?_⟩
  · by_cases e : a = i
    · subst e; exact .inr hi
    · exact h.1 a (by omega)
  · by_cases e1 : a = i
    · by_cases e2 : b = i
      · omega
      · subst e1; exact absurd e.symm (hu b (by omega))
    · by_cases e2 : b = i
      · subst e2; exact absurd e (hu a (by omega))
      · exact h.2 a (by omega) b (by omega) e hn
end Go.Mg

/- Several texts of ours in one. No conditions. -/
import Derived.Test.YtjiacmbjgccfcaaDoorMgR6
namespace Go.Mg
open Go Go.RowKit
set_option linter.unusedSimpArgs false
set_option linter.unusedVariables false
set_option maxRecDepth 100000
end Go.Mg
namespace Go.Mg
open Go Go.RowKit
set_option linter.unusedSimpArgs false
set_option linter.unusedVariables false
set_option maxRecDepth 100000
end Go.Mg
namespace Go.Mg
open Go Go.RowKit
set_option linter.unusedSimpArgs false
set_option linter.unusedVariables false
set_option maxRecDepth 100000
structure PthV (H : Hp) (v : Value) (ps : List (List Nat)) (vs : List Value) : Prop where
  ow : OwS H v vs
  len : vs.length = ps.length
  at_ : ∀ i, i < ps.length → SlR H (vs.getD i undef) (iN (ps.getD i []))
  dv : ∀ i, i < ps.length → ∀ q, slB (vs.getD i undef) q → ¬ ownB v q
theorem PthV.nil (H : Hp) : PthV H (.slice none 0 0) [] [] := ⟨OwS.nil _, rfl, fun i h => by simp at h, fun i h => by simp at h⟩
theorem PthV.keep0 {H H' : Hp} {v : Value} {ps : List (List Nat)} {vs : List Value} (h : PthV H v ps vs) (hk : Keep (fun _ => False) H H') : PthV H' v ps vs :=
  ⟨h.ow.keep hk (by simp), h.len, fun i hi => (h.at_ i hi).keep hk (by simp), h.dv⟩
theorem PthV.app {H H1 : Hp} {v w r : Value} {ps : List (List Nat)} {vs : List Value} {p : List Nat} (h : PthV H v ps vs) (hr : SlR H r (iN p)) (hrv : ∀ q, slB r q → ¬ ownB v q)
    (hO : OwS H1 w (vs ++ [r])) (hw : ∀ q, ownB w q → ownB v q ∨ H.size ≤ q) (hK : Keep (ownB v) H H1) : PthV H1 w (ps ++ [p]) (vs ++ [r]) := by
  have e1 : ∀ i, i < ps.length → (vs ++ [r]).getD i undef = vs.getD i undef := fun i hi => by
    rw [List.getD_eq_getElem?_getD, List.getElem?_append_left (by rw [h.len]; exact hi), ← List.getD_eq_getElem?_getD]
  have e2 : (vs ++ [r]).getD ps.length undef = r := by
    rw [List.getD_eq_getElem?_getD, List.getElem?_append_right (by rw [h.len]; exact Nat.le_refl _), h.len]; simp
  have f1 : ∀ i, i < ps.length → (ps ++ [p]).getD i [] = ps.getD i [] := fun i hi => by
    rw [List.getD_eq_getElem?_getD, List.getElem?_append_left hi, ← List.getD_eq_getElem?_getD]
  have f2 : (ps ++ [p]).getD ps.length [] = p := by
    rw [List.getD_eq_getElem?_getD, List.getElem?_append_right (Nat.le_refl _)]; simp
  have wd : ∀ (u : Value) (l : List Value), SlR H u l → (∀ q, slB u q → ¬ ownB v q) → ∀ q, slB u q → ¬ ownB w q := fun u l hu hd q hq hq' => by
    rcases hw q hq' with h' | h'
    · exact hd q hq h'
    · have := hu.old hq; omega
  refine ⟨hO, by simp [h.len], fun i hi => ?_, fun i hi q hq => ?_⟩
  · rw [List.length_append, List.length_singleton] at hi
    rcases Nat.lt_or_ge i ps.length with hi' | hi'
    · rw [e1 i hi', f1 i hi']; exact (h.at_ i hi').keep hK fun q hq => h.dv i hi' q hq
    · have : i = ps.length := by omega
      subst this; rw [e2, f2]; exact hr.keep hK hrv
  · rw [List.length_append, List.length_singleton] at hi
    rcases Nat.lt_or_ge i ps.length with hi' | hi'
    · rw [e1 i hi'] at hq; exact wd _ _ (h.at_ i hi') (h.dv i hi') q hq
    · have : i = ps.length := by omega
      subst this; rw [e2] at hq; exact wd _ _ hr hrv q hq
end Go.Mg

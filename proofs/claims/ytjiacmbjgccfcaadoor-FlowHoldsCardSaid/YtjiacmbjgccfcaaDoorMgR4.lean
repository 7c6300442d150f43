/- Several texts of ours in one. No conditions. -/
import Derived.Test.YtjiacmbjgccfcaaDoorMgPE
namespace Go.Mg
open Go Go.RowKit
set_option linter.unusedSimpArgs false
set_option linter.unusedVariables false
set_option maxRecDepth 100000
end Go.Mg
namespace Go.Mg
open Go Go.RowKit
set_option linter.unusedSimpArgs false
set_option linter.unusedVariables false
set_option maxRecDepth 100000
def rowB (n : Nat) (f : Nat → Nat → Bool) (x : Nat) : List Bool := (List.range n).map (f x)
theorem rowB_len (n : Nat) (f : Nat → Nat → Bool) (x : Nat) : (rowB n f x).length = n := by simp [rowB]
structure TabV (H : Hp) (v : Value) (m n : Nat) (f : Nat → Nat → Bool) (vs : List Value) (B : Nat) : Prop where
  ow : OwS H v vs
  len : vs.length = m
  at_ : ∀ i, i < m → OwS H (vs.getD i undef) (bL (rowB n f i))
  gev : ∀ q, ownB v q → B ≤ q
  ge : ∀ i, i < m → ∀ q, ownB (vs.getD i undef) q → B ≤ q
  dv : ∀ i, i < m → ∀ q, ownB (vs.getD i undef) q → ¬ ownB v q
  dj : ∀ i j, i < m → j < m → i ≠ j → ∀ q, ownB (vs.getD i undef) q → ¬ ownB (vs.getD j undef) q
theorem TabV.nil (H : Hp) (n : Nat) (f : Nat → Nat → Bool) (B : Nat) : TabV H (.slice none 0 0) 0 n f [] B :=
  ⟨OwS.nil _, rfl, fun i h => by omega, fun q h => h.elim, fun i h => by omega, fun i h => by omega, fun i j h => by omega⟩
theorem TabV.keep {W : Nat → Prop} {H H' : Hp} {v : Value} {m n : Nat} {f : Nat → Nat → Bool} {vs : List Value} {B : Nat} (h : TabV H v m n f vs B) (hk : Keep W H H') (hw : ∀ q, B ≤ q → q < H.size → ¬ W q) : TabV H' v m n f vs B :=
  ⟨h.ow.keep hk fun q hq => hw q (h.gev q hq) (h.ow.old hq), h.len, fun i hi => (h.at_ i hi).keep hk fun q hq => hw q (h.ge i hi q hq) ((h.at_ i hi).old hq), h.gev, h.ge, h.dv, h.dj⟩
theorem TabV.app {H H1 : Hp} {v w r : Value} {m n : Nat} {f : Nat → Nat → Bool} {vs : List Value} {B : Nat} (h : TabV H v m n f vs B) (hr : OwS H r (bL (rowB n f m))) (hrB : ∀ q, ownB r q → B ≤ q) (hrv : ∀ q, ownB r q → ¬ ownB v q) (hri : ∀ i, i < m → ∀ q, ownB r q → ¬ ownB (vs.getD i undef) q)
    (hO : OwS H1 w (vs ++ [r])) (hw : ∀ q, ownB w q → ownB v q ∨ H.size ≤ q) (hK : Keep (ownB v) H H1) (hB : B ≤ H.size) : TabV H1 w (m + 1) n f (vs ++ [r]) B := by
  have e1 : ∀ i, i < m → (vs ++ [r]).getD i undef = vs.getD i undef := fun i hi => by
    rw [List.getD_eq_getElem?_getD, List.getElem?_append_left (by rw [h.len]; exact hi), ← List.getD_eq_getElem?_getD]
  have e2 : (vs ++ [r]).getD m undef = r := by
    rw [List.getD_eq_getElem?_getD, List.getElem?_append_right (by rw [h.len]; exact Nat.le_refl _), h.len]; simp
  have wd : ∀ (u : Value) (l : List Value), OwS H u l → (∀ q, ownB u q → ¬ ownB v q) → ∀ q, ownB u q → ¬ ownB w q := fun u l hu hd q hq hq' => by
    rcases hw q hq' with h' | h'
    · exact hd q hq h'
    · have := hu.old hq; omega
  refine ⟨hO, by simp [h.len], fun i hi => ?_, fun q hq => ?_, fun i hi q hq => ?_, fun i hi q hq => ?_, fun i j hi hj hij q hq => ?_⟩
  · rcases Nat.lt_or_ge i m with hi' | hi'
    · rw [e1 i hi']; exact (h.at_ i hi').keep hK fun q hq => h.dv i hi' q hq
    · have : i = m := by omega
      subst this; rw [e2]; exact hr.keep hK hrv
  · rcases hw q hq with h' | h'
    · exact h.gev q h'
    · omega
  · rcases Nat.lt_or_ge i m with hi' | hi'
    · rw [e1 i hi'] at hq; exact h.ge i hi' q hq
    · have : i = m := by omega
      subst this; rw [e2] at hq; exact hrB q hq
  · rcases Nat.lt_or_ge i m with hi' | hi'
    · rw [e1 i hi'] at hq; exact wd _ _ (h.at_ i hi') (h.dv i hi') q hq
    · have : i = m := by omega
      subst this; rw [e2] at hq; exact wd _ _ hr hrv q hq
  · rcases Nat.lt_or_ge i m with hi' | hi' <;> rcases Nat.lt_or_ge j m with hj' | hj'
    · rw [e1 i hi'] at hq; rw [e1 j hj']; exact h.dj i j hi' hj' hij q hq
    · have : j = m := by omega
      subst this; rw [e1 i hi'] at hq; rw [e2]; exact fun hq' => hri i hi' q hq' hq
    · have : i = m := by omega
      subst this; rw [e2] at hq; rw [e1 j hj']; exact hri j hj' q hq
    · omega
theorem TabV.set {H : Hp} {v : Value} {m n : Nat} {f : Nat → Nat → Bool} {vs : List Value} {B x y db dc : Nat} {t : Bool} (h : TabV H v m n f vs B) (hx : x < m) (hy : y < n) (hd : vs.getD x undef = .slice (some ⟨db, 0, none⟩) n dc) :
    TabV (setc H ⟨db, y, none⟩ (.bool t)) v m n (fun a b => if a = x ∧ b = y then t else f a b) vs B := by
  have K : Keep (fun q => q = db) H (setc H ⟨db, y, none⟩ (.bool t)) := (Keep.refl _ _).setc _ (.inl rfl)
  have hdb : ownB (vs.getD x undef) db := by rw [hd]; rfl
  refine ⟨h.ow.keep K fun q hq e => by subst e; exact h.dv x hx _ hdb hq, h.len, fun i hi => ?_, h.gev, h.ge, h.dv, h.dj⟩
  by_cases e : i = x
  · subst e
    rcases h.at_ i hi with ⟨e0, _⟩ | ⟨b', c', M, k0, k1, k2, k3, k4⟩
    · rw [hd] at e0; cases e0
    · rw [hd] at k0
      simp only [Value.slice.injEq, Option.some.injEq, Addr.mk.injEq, and_true] at k0
      obtain ⟨rfl, k0, rfl⟩ := k0
      rw [bL_len, rowB_len] at k1 k4
      rw [hd]
      refine OwS.bl (k3.setc y (.bool t)) (by rw [bL_len, rowB_len]) k1 (by simpa using k2) ?_
      rw [List.take_set, k4, bL_set]
      congr 1
      refine List.ext_getElem (by simp [rowB]) fun j h1 h2 => ?_
      have hj : j < n := by simpa [rowB] using h2
      rw [List.getElem_set]
      by_cases ej : y = j
      · subst ej; simp [rowB]
      · have : ¬ j = y := fun e => ej e.symm
        simp [rowB, ej, this]
  · have e' : rowB n (fun a b => if a = x ∧ b = y then t else f a b) i = rowB n f i := by
      unfold rowB; refine List.map_congr_left fun j _ => ?_
      show (if i = x ∧ j = y then t else f i j) = f i j
      rw [if_neg fun h => e h.1]
    rw [e']
    exact (h.at_ i hi).keep K fun q hq e2 => by subst e2; exact h.dj i x hi hx e q hq hdb
theorem TabV.mono {H : Hp} {v : Value} {m n : Nat} {f : Nat → Nat → Bool} {vs : List Value} {B B' : Nat} (h : TabV H v m n f vs B) (hb : B' ≤ B) : TabV H v m n f vs B' :=
  ⟨h.ow, h.len, h.at_, fun q hq => Nat.le_trans hb (h.gev q hq), fun i hi q hq => Nat.le_trans hb (h.ge i hi q hq), h.dv, h.dj⟩
theorem TabV.congr {H : Hp} {v : Value} {m n : Nat} {f g : Nat → Nat → Bool} {vs : List Value} {B : Nat} (h : TabV H v m n f vs B) (e : ∀ x < m, ∀ y < n, f x y = g x y) : TabV H v m n g vs B :=
  ⟨h.ow, h.len, fun i hi => by
    have : rowB n g i = rowB n f i := List.map_congr_left fun j hj => (e i hi j (List.mem_range.1 hj)).symm
    rw [this]; exact h.at_ i hi, h.gev, h.ge, h.dv, h.dj⟩
theorem inP_dec (L : List NP) (x y : Nat) : decide (((x : Int), (y : Int)) ∈ L.map toI) = inP L x y := by
  unfold inP
  refine decide_eq_decide.2 ⟨fun h => ?_, fun h => List.mem_map.2 ⟨_, h, rfl⟩⟩
  obtain ⟨p, hp, e⟩ := List.mem_map.1 h
  have e1 : (p.1 : Int) = x := congrArg Prod.fst e
  have e2 : (p.2 : Int) = y := congrArg Prod.snd e
  have : p = (x, y) := by rw [← Int.ofNat_inj.1 e1, ← Int.ofNat_inj.1 e2]
  rw [← this]; exact hp
end Go.Mg
namespace Go.Mg
open Go Go.RowKit
set_option linter.unusedSimpArgs false
set_option linter.unusedVariables false
set_option maxRecDepth 100000
def ROrd (H : Hp) (v : Value) (n : Nat) (R : Nat → Nat → Bool) : Prop := n ≤ 256 ∧ Rng n R ∧ ∃ pv, v = .agg #[.int .i64 (n : Int), pv] ∧ SlE nE 2 H pv (gridP n R)
theorem ROrd.keep0 {H H' : Hp} {v : Value} {n : Nat} {R : Nat → Nat → Bool} (h : ROrd H v n R) (hk : Keep (fun _ => False) H H') : ROrd H' v n R := by
  obtain ⟨h1, h2, pv, rfl, h3⟩ := h
  exact ⟨h1, h2, pv, rfl, h3.keep hk (by simp)⟩
end Go.Mg
namespace Go.Mg
open Go Go.RowKit
set_option linter.unusedSimpArgs false
set_option linter.unusedVariables false
set_option maxRecDepth 100000
def zR : Value := .agg #[.int .i64 0, .slice none 0 0]
def RNewRes (n : Int) (L : List (Int × Int)) (r : Value) (H : Hp) : Prop :=
  (badN n ∧ r = .tuple #[zR, .int .i64 1]) ∨ (¬ badN n ∧ (¬ ∀ p ∈ L, okP n p) ∧ r = .tuple #[zR, .int .i64 2]) ∨
  (¬ badN n ∧ (∀ p ∈ L, okP n p) ∧ ¬ Acy (relI L) ∧ r = .tuple #[zR, .int .i64 16]) ∨
  (¬ badN n ∧ (∀ p ∈ L, okP n p) ∧ Acy (relI L) ∧ ∃ v, r = .tuple #[v, .int .i64 0] ∧ ROrd H v n.toNat (relI L))
def frR (B : Nat) (r : Value) : Prop := ∀ x pv c, r = .tuple #[.agg #[x, pv], c] → ∀ q, slB pv q → B ≤ q
theorem frR.z (B : Nat) (c : Value) : frR B (.tuple #[zR, c]) := by
  intro x pv c' h q hq
  unfold zR at h
  simp only [Value.tuple.injEq, Array.mk.injEq, List.cons.injEq, Value.agg.injEq, and_true] at h
  rw [← h.1.2] at hq; exact hq.elim
end Go.Mg

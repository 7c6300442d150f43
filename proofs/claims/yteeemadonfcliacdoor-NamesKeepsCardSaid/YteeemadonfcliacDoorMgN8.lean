/- names: every name is found. -/
import Derived.Test.YteeemadonfcliacDoorMgN7
namespace Go.Mg
open Go Go.RowKit
set_option linter.all false
set_option maxRecDepth 100000
def Cl (l : List (List UInt8)) : Prop := ∀ i, i < l.length -> addE (l.take i) (l.getD i []) 100 = 0
theorem Cl.nil : Cl [] := fun i h => by simp at h
theorem Cl.push {l : List (List UInt8)} {s : List UInt8} (h : Cl l) (hs : addE l s 100 = 0) : Cl (l ++ [s]) := by
 intro i hi
 by_cases e : i < l.length
 ·rw [List.take_append_of_le_length (by omega), List.getD_eq_getElem?_getD, List.getElem?_append_left e, <- List.getD_eq_getElem?_getD]; exact h i e
 ·have : i = l.length := by simp at hi; omega
  subst this
  rw [List.take_left]; simpa using hs
theorem addE_zero {l : List (List UInt8)} {s : List UInt8} {most : Int} (h : addE l s most = 0) : validF s = true /\ s ∉ l /\ (l.length : Int) < most /\ l.length < 256 := by
 unfold addE at h
 by_cases c1 : validF s = false
 ·rw [if_pos c1] at h; omega
 rw [if_neg c1] at h
 by_cases c2 : s ∈ l
 ·rw [if_pos c2] at h; omega
 rw [if_neg c2] at h
 by_cases c3 : (l.length : Int) ≥ most \/ l.length ≥ 256
 ·rw [if_pos c3] at h; omega
 exact ⟨by simpa using c1, c2, by omega, by omega⟩
theorem Cl.valid {l : List (List UInt8)} (h : Cl l) {i : Nat} (hi : i < l.length) : validF (l.getD i []) = true := (addE_zero (h i hi)).1
theorem Cl.ne {l : List (List UInt8)} (h : Cl l) {i j : Nat} (hi : i < l.length) (hj : j < i) : l.getD j [] ≠ l.getD i [] := by
 intro e
 refine (addE_zero (h i hi)).2.1 ?_
 rw [<- e]
 have : (l.take i)[j]'(by simp; omega) = l.getD j [] := by simp [show j < l.length by omega]
 rw [<- this]; exact List.getElem_mem _
theorem Cl.pos {l : List (List UInt8)} (h : Cl l) {i : Nat} (hi : i < l.length) : posS l (l.getD i []) = some i := posS_some hi rfl fun j hj => h.ne hi hj
theorem Cl.len {l : List (List UInt8)} (h : Cl l) : l.length <= 100 := by
 by_cases e : l.length = 0
 ·omega
 ·have := addE_zero (h (l.length - 1) (by omega))
  simp at this; omega
theorem valid_len {s : List UInt8} (h : validF s = true) : s.length <= 12 := by
 unfold validF at h
 simp at h; omega
theorem Cl.small {l : List (List UInt8)} (h : Cl l) {i : Nat} (hi : i < l.length) : (l.getD i []).length <= 12 := valid_len (h.valid hi)
end Go.Mg

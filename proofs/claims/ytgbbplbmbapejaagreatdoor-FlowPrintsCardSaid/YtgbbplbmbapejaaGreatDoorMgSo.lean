/- slices.SortFunc over pairs of small numbers: the library's own text, by the kit's contract. -/
import Derived.Shelf.SlSortCmp.NoneTotal
import Derived.Test.YtgbbplbmbapejaaGreatDoorMgEl
import Derived.Test.YtgbbplbmbapejaaGreatDoorMgO3
namespace Go.Mg
open Go Go.RowKit Go.Shelf Go.Sort
set_option linter.all false
def nE (p : Nat × Nat) : List Value := [.int .i64 (p.1 : Int), .int .i64 (p.2 : Int)]
theorem nE_len (p : Nat × Nat) : (nE p).length = 2 := rfl
theorem nE_one (p : Nat × Nat) : ∀ v ∈ nE p, v.oneCell' = true := by
 intro v hv; simp [nE] at hv; rcases hv with rfl | rfl <;> rfl
abbrev F2 := Fin 256 × Fin 256
def f2N (x : F2) : Nat × Nat := (x.1.val, x.2.val)
def f2E (x : F2) : List Value := nE (f2N x)
def cf2 (x y : F2) : Int := if x.1 = y.1 then (x.2.val : Int) - y.2.val else (x.1.val : Int) - y.1.val
def CmpOk (P : Program) (g : FuncId) : Prop := ∀ (x y : F2) (W : World), Calls P g #[.agg (f2E x).toArray, .agg (f2E y).toArray] W fun e w' => e = .returned (.int .i64 (cf2 x y)) /\ ∃ q os', w' = grow (W.drewN q) os'
theorem lt2 (x y : F2) : Go.Proofs.ltOf cf2 x y = decide (x.1.val < y.1.val \/ (x.1.val = y.1.val /\ x.2.val < y.2.val)) := by
 unfold Go.Proofs.ltOf cf2
 by_cases h : x.1 = y.1
 ·simp [h]; omega
 ·have : x.1.val ≠ y.1.val := fun e => h (Fin.ext e)
  simp [h, this]; omega
theorem swo2 : SWO (Go.Proofs.ltOf cf2) where
 irrefl x := by rw [lt2]; simp
 trans x y z h1 h2 := by rw [lt2] at *; simp at *; omega
 ntrans x y z h1 h2 := by rw [lt2] at *; simp at *; omega
theorem tot2 (x y : F2) (h1 : Go.Proofs.ltOf cf2 x y = false) (h2 : Go.Proofs.ltOf cf2 y x = false) : x = y := by
 rw [lt2] at h1 h2
 simp at h1 h2
 obtain ⟨a, b⟩ := x
 obtain ⟨c, d⟩ := y
 have e1 : a.val = c.val := by simp at h1 h2; omega
 have e2 : b.val = d.val := by simp at h1 h2; omega
 rw [Fin.ext e1, Fin.ext e2]
def PSortSpec (P : Program) (k g : FuncId) : Prop := ∀ (l : List (Nat × Nat)) (v : Value) (H : Hp), OwE nE 2 H v l -> (∀ p ∈ l, p.1 < 256 /\ p.2 < 256) -> l.length < 1000000 →
 CallsM P k #[v, .func (.func g) #[] #[]] H fun r H' => r = .tuple #[] /\ (∃ l' : List (Nat × Nat), l'.Perm l /\ l'.Pairwise ple /\ OwE nE 2 H' v l') /\ Keep (ownB v) H H'
theorem f2_of : ∀ (l : List (Nat × Nat)), (∀ p ∈ l, p.1 < 256 /\ p.2 < 256) -> ∃ d : List F2, d.map f2N = l
 | [], _ => ⟨[], rfl⟩
 | p :: l, h => by
  obtain ⟨d, hd⟩ := f2_of l fun q hq => h q (by simp [hq])
  obtain ⟨h1, h2⟩ := h p (by simp)
  exact ⟨(⟨p.1, h1⟩, ⟨p.2, h2⟩) :: d, by simp [hd, f2N]⟩
theorem flatK_eq (d : List F2) : (flatK f2E 2 d.toArray).toList = (d.map f2N).flatMap nE := by
 apply List.ext_getElem?
 intro i
 have e : ∀ i, i < d.length * 2 -> ((d.map f2N).flatMap nE)[i]? = (f2E (d.toArray[i / 2]!))[i % 2]? := by
  intro i hi
  have hd : i / 2 < d.length := by omega
  have := fl_at nE_len (d.map f2N) (i / 2) (f2N d[i / 2]) (by simp [hd])
  have h2 := congrArg (fun l => l[i % 2]?) this
  simp only [List.getElem?_take, List.getElem?_drop] at h2
  rw [if_pos (by omega), show i / 2 * 2 + i % 2 = i by omega] at h2
  rw [h2]
  simp [f2E, hd]
 by_cases hi : i < d.length * 2
 ·rw [e i hi]
  have hs : i < (flatK f2E 2 d.toArray).size := by simpa using hi
  rw [Array.getElem?_toList, Array.getElem?_eq_getElem hs, <- getElem!_pos (flatK f2E 2 d.toArray) i hs, get_flatK f2E 2 d.toArray i (by simpa using hi)]
  have hm : i % 2 < (f2E (d.toArray[i / 2]!)).length := by show i % 2 < 2; omega
  rw [List.getElem?_eq_getElem hm, getElem!_pos (f2E (d.toArray[i / 2]!)) (i % 2) hm]
 ·rw [List.getElem?_eq_none (by rw [Array.length_toList, size_flatK]; simpa using hi), List.getElem?_eq_none (by rw [fl_len nE_len]; simpa using hi)]
theorem holds2 {w : World} {b : Nat} {Lc : List Value} (hb : Bl w.heap b Lc) {d : List F2} (hL : d.length * 2 <= Lc.length) (h : Lc.take (d.length * 2) = (d.map f2N).flatMap nE) : HoldsK f2E 2 w b 0 d.toArray := by
 intro j hj
 rw [size_flatK] at hj
 have hj' : j < d.length * 2 := by simpa using hj
 rw [cell_eq, frz_eq, Nat.zero_add, hb.cell, hb.frz]
 refine ⟨?_, rfl⟩
 have e : Lc[j]? = (Lc.take (d.length * 2))[j]? := by rw [List.getElem?_take, if_pos hj']
 rw [e, h, <- flatK_eq, Array.getElem?_toList, Array.getElem?_eq_getElem (by rw [size_flatK]; exact hj)]
 rw [<- getElem!_pos (flatK f2E 2 d.toArray) j (by rw [size_flatK]; exact hj)]
 rfl
theorem put2 {w : World} {b m : Nat} {Lc : List Value} (hb : Bl w.heap b Lc) (d : List F2) (hL : d.length * 2 <= Lc.length) (os : Array Obj) :
  ∃ L', Bl (Go.Proofs.sortWorldK f2E 2 w b 0 m d.toArray os).heap b L' /\ L'.length = Lc.length /\ L'.take (d.length * 2) = (d.map f2N).flatMap nE := by
 obtain ⟨T, hb'⟩ := hb
 refine ⟨(putCells id 0 (flatK f2E 2 d.toArray) Lc.toArray).toList, ⟨T, ?_⟩, by simp [putCells], ?_⟩
 ·have hlt := (Array.getElem?_eq_some_iff.1 hb').1
  show ((w.heap.modify b (onCells _)) ++ os)[b]? = _
  rw [Array.getElem?_append_left (by simpa using hlt), Array.getElem?_modify, if_pos rfl, hb']
  rfl
 ·rw [<- flatK_eq]
  apply List.ext_getElem?
  intro i
  rw [List.getElem?_take]
  by_cases hi : i < d.length * 2
  ·have hs : i < (flatK f2E 2 d.toArray).size := by simpa using hi
   have hs' : i < Lc.length := by omega
   rw [if_pos hi, Array.getElem?_toList, Array.getElem?_toList]
   simp only [putCells, Array.getElem?_mapIdx, Nat.zero_le, true_and, Nat.zero_add, Nat.sub_zero]
   rw [List.getElem?_toArray, List.getElem?_eq_getElem hs', Option.map_some, if_pos hs, Array.getElem?_eq_getElem hs, <- getElem!_pos (flatK f2E 2 d.toArray) i hs]
   rfl
  ·rw [if_neg hi, List.getElem?_eq_none (by rw [Array.length_toList, size_flatK]; simpa using hi)]
theorem keep2 {w : World} {b m : Nat} {d : Array F2} {os : Array Obj} : Keep (fun q => q = b) w.heap (Go.Proofs.sortWorldK f2E 2 w b 0 m d os).heap := by
 refine ⟨?_, fun q hq hn => ?_⟩
 ·show w.heap.size <= ((w.heap.modify b (onCells _)) ++ os).size
  simp
 ·show ((w.heap.modify b (onCells _)) ++ os)[q]? = _
  rw [Array.getElem?_append_left (by simpa using hq), Array.getElem?_modify, if_neg (fun e => hn e.symm)]
theorem sort_ok {P : Program} {ρ : Ren} (L : Go.Proofs.SlLaysF0.n6 P ρ) (aE : ∀ w, (isAgg (ρ.t 24)).run P w = .ok true w) (zE : ∀ w, (Go.sizeOf (ρ.t 24)).run P w = .ok 2 w) (g : FuncId)
  (eg : ∀ args w, (callFunc g args).run P w = .ok (.enter g args) w) (hC : CmpOk P g) : PSortSpec P (ρ.f 6) g := by
 intro l v H hv hl hn w hw
 subst hw
 by_cases h0 : l = []
 ·subst h0
  obtain ⟨a, c, rfl, -⟩ := hv.sl.mk
  refine (Go.Proofs.AnyF.slices_SortFunc_none L a c _ w).mono ?_
  rintro e w' ⟨rfl, rfl⟩
  exact ⟨_, rfl, ⟨rfl, ⟨[], .refl _, .nil, hv⟩, Keep.refl _ _⟩, Same.refl _⟩
 ·obtain ⟨b, c, Lc, rfl, h1, h2, hb, h3⟩ := hv.some h0
  obtain ⟨d, rfl⟩ := f2_of l hl
  have hlen : (d.map f2N).length = d.length := by simp
  rw [hlen] at h1 h3
  have hL : d.length * 2 <= Lc.length := Nat.le_trans (Nat.mul_le_mul_right 2 h1) h2
  have hcon := Go.Proofs.AnyQ.slices_SortFunc_total L 2 aE zE f2E (fun _ => rfl) (fun x => nE_one _) cf2 swo2 g #[] b 0 c d.toArray w eg (fun _ _ _ _ x y => hC x y _) (holds2 hb hL h3) hb.lt (by simp at hn ⊢; omega) tot2
  have e1 : (d.map f2N).length = d.toArray.size := by simp
  rw [e1]
  refine hcon.mono ?_
  rintro e w' ⟨rfl, m, os, rfl⟩
  have hp := List.mergeSort_perm d.toArray.toList fun x y => !(Go.Proofs.ltOf cf2) y x
  have hs : (d.toArray.toList.mergeSort fun x y => !(Go.Proofs.ltOf cf2) y x).Pairwise fun x y => (!(Go.Proofs.ltOf cf2) y x) = true := by
   refine List.pairwise_mergeSort ?_ ?_ _
   ·intro x y z h1 h2
    rw [lt2] at *; simp at *; omega
   ·intro x y
    rw [lt2, lt2]; simp; omega
  generalize d.toArray.toList.mergeSort (fun x y => !(Go.Proofs.ltOf cf2) y x) = d' at hp hs ⊢
  have hl' : d'.length = d.length := hp.length_eq
  obtain ⟨L', hB, hl2, ht⟩ := put2 (m := m) hb d' (by omega) os
  refine ⟨_, rfl, ⟨rfl, ⟨d'.map f2N, hp.map _, ?_, ?_⟩, keep2⟩, ⟨rfl, rfl, rfl⟩⟩
  ·rw [List.pairwise_map]
   refine hs.imp fun {x y} h => ?_
   rw [lt2] at h
   simp [ple, f2N] at h ⊢
   omega
  ·refine OwE.bl hB (by simp [hl']) (by simpa using h1) (by omega) ?_
   simp only [List.size_toArray]
   rw [<- hl']; exact ht
end Go.Mg

/- Several texts of ours in one. No conditions. -/
import Derived.Test.YtgbbplbmbapejaaGreatDoorMgEl
import Derived.Test.YtgbbplbmbapejaaGreatDoorMgKp
namespace Go.Mg
open Go Go.RowKit
set_option linter.all false
set_option maxRecDepth 100000
def RevTo (l : List UInt8) (i : Nat) (x : List UInt8) : Prop := x.length = l.length /\ ∀ j, j < l.length -> x.getD j 0 = if j < i \/ l.length <= i + j then l.getD (l.length - 1 - j) 0 else l.getD j 0
theorem RevTo.zero (l : List UInt8) : RevTo l 0 l := ⟨rfl, fun j hj => by rw [if_neg (by omega)]⟩
theorem getD_set8 (x : List UInt8) (i j : Nat) (y : UInt8) (h : i < x.length) : (x.set i y).getD j 0 = if j = i then y else x.getD j 0 := by
 by_cases e : j = i
 ·subst e; rw [if_pos rfl, List.getD_eq_getElem?_getD, List.getElem?_set_self h]; rfl
 ·rw [if_neg e, List.getD_eq_getElem?_getD, List.getElem?_set_ne (Ne.symm e), <- List.getD_eq_getElem?_getD]
theorem RevTo.step {l : List UInt8} {i : Nat} {x : List UInt8} (h : RevTo l i x) (hi : 2 * i + 1 < l.length) : RevTo l (i + 1) ((x.set i (x.getD (l.length - 1 - i) 0)).set (l.length - 1 - i) (x.getD i 0)) := by
 obtain ⟨h1, h2⟩ := h
 refine ⟨by simp [h1], fun j hj => ?_⟩
 have q1 : x.getD i 0 = l.getD i 0 := by rw [h2 i (by omega), if_neg (by omega)]
 have q2 : x.getD (l.length - 1 - i) 0 = l.getD (l.length - 1 - i) 0 := by rw [h2 (l.length - 1 - i) (by omega), if_neg (by omega)]
 rw [q1, q2, getD_set8 _ _ _ _ (by simp; omega), getD_set8 _ _ _ _ (by omega), h2 j hj]
 by_cases e1 : j = l.length - 1 - i
 ·rw [if_pos e1, if_pos (by omega)]; congr 1; omega
 ·rw [if_neg e1]
  by_cases e2 : j = i
  ·rw [if_pos e2, if_pos (by omega)]; congr 1; omega
  ·rw [if_neg e2]
   by_cases e3 : j < i \/ l.length <= i + j
   ·rw [if_pos e3, if_pos (by omega)]
   ·rw [if_neg e3, if_neg (by omega)]
theorem RevTo.all {l : List UInt8} {i : Nat} {x : List UInt8} (h : RevTo l i x) (hi : l.length <= 2 * i + 1) : x = l.reverse := by
 obtain ⟨h1, h2⟩ := h
 apply List.ext_getElem (by simp [h1])
 intro j g1 g2
 have := h2 j (by omega)
 have e1 : x.getD j 0 = x[j] := by simp [g1]
 have e2 : l.reverse[j] = l.getD (l.length - 1 - j) 0 := by
  rw [List.getElem_reverse]; simp [show l.length - 1 - j < l.length by omega]
 rw [<- e1, e2, this]
 split
 ·rfl
 ·congr 1; omega
def grow (F : Nat -> Prop) (H H' : Hp) : Nat -> Prop := fun k => F k \/ (H.size <= k /\ k < H'.size)
def WrB (F : Nat -> Prop) (H : Hp) (w : Nat) (l : List UInt8) : Prop := ∃ v, Bl H w [v] /\ OwS H v (w8 l) /\ ¬ ownB v w /\ F w /\ (∀ k, ownB v k -> F k) /\ ∀ k, F k -> k < H.size
theorem WrB.keep {F W : Nat -> Prop} {H H' : Hp} {w : Nat} {l : List UInt8} (h : WrB F H w l) (hk : Keep W H H') (hw : ∀ k, F k -> ¬ W k) : WrB F H' w l := by
 obtain ⟨v, h1, h2, h3, h4, h5, h6⟩ := h
 exact ⟨v, hk.bl h1 (hw _ h4), h2.keep hk (fun k hb => hw k (h5 k hb)), h3, h4, h5, fun k hf => Nat.lt_of_lt_of_le (h6 k hf) hk.size⟩
theorem WrB.bound {F : Nat -> Prop} {H : Hp} {w : Nat} {l : List UInt8} (h : WrB F H w l) : ∀ k, F k -> k < H.size := let ⟨_, _, _, _, _, _, h6⟩ := h; h6
theorem WrB.mono {F G : Nat -> Prop} {H : Hp} {w : Nat} {l : List UInt8} (h : WrB F H w l) (hf : ∀ k, F k -> G k) (hg : ∀ k, G k -> k < H.size) : WrB G H w l := by
 obtain ⟨v, h1, h2, h3, h4, h5, h6⟩ := h
 exact ⟨v, h1, h2, h3, hf _ h4, fun k hk => hf k (h5 k hk), hg⟩
end Go.Mg
namespace Go.Mg
open Go Go.RowKit
set_option linter.all false
set_option maxRecDepth 100000
def RdB (F : Nat -> Prop) (H : Hp) (r : Nat) (l : List UInt8) (e : Int) : Prop := ∃ v, Bl H r [v, .int .i64 e] /\ SlR H v (w8 l) /\ F r /\ (∀ k, slB v k -> F k /\ k ≠ r) /\ ∀ k, F k -> k < H.size
theorem RdB.keep {F W : Nat -> Prop} {H H' : Hp} {r : Nat} {l : List UInt8} {e : Int} (h : RdB F H r l e) (hk : Keep W H H') (hw : ∀ k, F k -> ¬ W k) : RdB F H' r l e := by
 obtain ⟨v, h1, h2, h3, h4, h5⟩ := h
 exact ⟨v, hk.bl h1 (hw _ h3), h2.keep hk (fun k hb => hw k (h4 k hb).1), h3, h4, fun k hf => Nat.lt_of_lt_of_le (h5 k hf) hk.size⟩
theorem RdB.bound {F : Nat -> Prop} {H : Hp} {r : Nat} {l : List UInt8} {e : Int} (h : RdB F H r l e) : ∀ k, F k -> k < H.size := let ⟨_, _, _, _, _, h6⟩ := h; h6
theorem RdB.at {F : Nat -> Prop} {H : Hp} {r : Nat} {l : List UInt8} {e : Int} (h : RdB F H r l e) : F r := let ⟨_, _, _, h, _⟩ := h; h
end Go.Mg

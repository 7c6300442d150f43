/- Part of the proof of FlowBytesCardSaid: a lemma text of ours, over the kit alone. No conditions. -/
import Derived.Test.YtjiacmbjgccfcaaGreatDoorMgLoop
namespace Go.Mg
open Go Go.RowKit
def Bl (H : Hp) (b : Nat) (l : List Value) : Prop := ∃ T, H[b]? = some (.cells l.toArray T (0, 0))
theorem Bl.lt {H : Hp} {b : Nat} {l : List Value} (h : Bl H b l) : b < H.size := by
  obtain ⟨T, h⟩ := h; exact (Array.getElem?_eq_some_iff.1 h).1
theorem Bl.cell {H : Hp} {b : Nat} {l : List Value} (h : Bl H b l) (o : Nat) : cell H ⟨b, o, none⟩ = l[o]? := by
  obtain ⟨T, h⟩ := h; simp [Mg.cell, h]
theorem Bl.frz {H : Hp} {b : Nat} {l : List Value} (h : Bl H b l) (o : Nat) : frz H ⟨b, o, none⟩ = false := by
  obtain ⟨T, h⟩ := h; simp [Mg.frz, h]
theorem Bl.setc {H : Hp} {b : Nat} {l : List Value} (h : Bl H b l) (o : Nat) (v : Value) : Bl (Mg.setc H ⟨b, o, none⟩ v) b (l.set o v) := by
  obtain ⟨T, h⟩ := h
  refine ⟨T, ?_⟩
  rw [setc_known (p := ⟨b, o, none⟩) rfl h, getElem?_setKnown h]
  simp
theorem getElem?_setc_ne {H : Hp} {p : Addr} {v : Value} {b : Nat} (hb : b ≠ p.block) : (setc H p v)[b]? = H[b]? := by
  unfold setc
  rw [Array.getElem?_modify, if_neg (fun e => hb e.symm)]
theorem Bl.setc_ne {H : Hp} {b : Nat} {l : List Value} (h : Bl H b l) {p : Addr} (v : Value) (hb : b ≠ p.block) : Bl (Mg.setc H p v) b l := by
  obtain ⟨T, h⟩ := h; exact ⟨T, by rw [getElem?_setc_ne hb]; exact h⟩
theorem getElem?_push_lt' {H : Hp} {o : Obj} {b : Nat} (hb : b < H.size) : (H.push o)[b]? = H[b]? := by
  rw [Array.getElem?_push, if_neg (by omega)]
theorem Bl.push {H : Hp} {b : Nat} {l : List Value} (h : Bl H b l) (o : Obj) : Bl (H.push o) b l := by
  have := h.lt
  obtain ⟨T, h⟩ := h; exact ⟨T, by rw [getElem?_push_lt' this]; exact h⟩
theorem Bl.new (H : Hp) (l : List Value) (T : TypeId) : Bl (H.push (.cells l.toArray T)) H.size l := ⟨T, by simp⟩
theorem Bl.new' (H : Hp) (C : Array Value) (T : TypeId) : Bl (H.push (.cells C T)) H.size C.toList := ⟨T, by simp⟩
theorem size_setc (H : Hp) (p : Addr) (v : Value) : (setc H p v).size = H.size := by simp [setc]
theorem Bl.okSt {H : Hp} {b : Nat} {l : List Value} (h : Bl H b l) {o : Nat} (ho : o < l.length) : (Mg.cell H ⟨b, o, none⟩).isSome = true ∧ Mg.frz H ⟨b, o, none⟩ = false := by
  rw [h.cell, h.frz]; simp [ho]
structure Keep (W : Nat → Prop) (H H' : Hp) : Prop where
  size : H.size ≤ H'.size
  at_ : ∀ k, k < H.size → ¬ W k → H'[k]? = H[k]?
theorem Keep.refl (W : Nat → Prop) (H : Hp) : Keep W H H := ⟨Nat.le_refl _, fun _ _ _ => rfl⟩
theorem Keep.trans {W : Nat → Prop} {A B C : Hp} (h : Keep W A B) (k : Keep W B C) : Keep W A C :=
  ⟨Nat.le_trans h.size k.size, fun i hi hw => (k.at_ i (Nat.lt_of_lt_of_le hi h.size) hw).trans (h.at_ i hi hw)⟩
theorem Keep.push {W : Nat → Prop} {A B : Hp} (h : Keep W A B) (o : Obj) : Keep W A (B.push o) :=
  h.trans ⟨by simp, fun k hk _ => getElem?_push_lt' hk⟩
theorem Keep.setc {W : Nat → Prop} {A B : Hp} (h : Keep W A B) {p : Addr} (v : Value) (hp : W p.block ∨ A.size ≤ p.block) : Keep W A (Mg.setc B p v) := by
  refine ⟨by rw [size_setc]; exact h.size, fun k hk hw => ?_⟩
  rw [getElem?_setc_ne (by rintro rfl; rcases hp with hp | hp; exact hw hp; omega)]
  exact h.at_ k hk hw
theorem Keep.bl {W : Nat → Prop} {H H' : Hp} (h : Keep W H H') {b : Nat} {l : List Value} (hb : Bl H b l) (hw : ¬ W b) : Bl H' b l := by
  have := hb.lt
  obtain ⟨T, hb⟩ := hb; exact ⟨T, by rw [h.at_ b this hw]; exact hb⟩
theorem Keep.mono {W W' : Nat → Prop} {H H' : Hp} (h : Keep W H H') (hw : ∀ k, k < H.size → W k → W' k) : Keep W' H H' :=
  ⟨h.size, fun k hk hn => h.at_ k hk (fun a => hn (hw k hk a))⟩
theorem Keep.trans' {W W' : Nat → Prop} {A B C : Hp} (h : Keep W A B) (k : Keep W' B C) (hw : ∀ i, i < A.size → W' i → W i) : Keep W A C :=
  ⟨Nat.le_trans h.size k.size, fun i hi hn => (k.at_ i (Nat.lt_of_lt_of_le hi h.size) (fun a => hn (hw i hi a))).trans (h.at_ i hi hn)⟩
@[go_sem] theorem ldO_ptr (H : Hp) (a : Addr) : ldO H (.pointer (some a)) = cell H a := rfl
@[go_sem] theorem add_mk (b o n : Nat) : Addr.add ⟨b, o, none⟩ n = ⟨b, o + n, none⟩ := add_off _ rfl n
@[go_sem] theorem tn_cast (a : Nat) : ((a : Int)).toNat = a := by simp
@[go_sem] theorem tn_add (a n : Nat) : ((a : Int) + (no_index (OfNat.ofNat n) : Int)).toNat = a + OfNat.ofNat n := by
  show ((a : Int) + ((n : Nat) : Int)).toNat = a + n
  omega
end Go.Mg
namespace Go.Mg
structure Ids where
  f : Nat → Nat
  t : Nat → Nat
  g : Nat → Nat
end Go.Mg

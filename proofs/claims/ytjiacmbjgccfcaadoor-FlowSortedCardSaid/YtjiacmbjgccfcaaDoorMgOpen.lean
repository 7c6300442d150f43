/- what a law's slice arguments show in the heap. -/
import Derived.Test.YtjiacmbjgccfcaaDoorMgLaid
import Derived.Test.YtjiacmbjgccfcaaDoorMgOwn
namespace Go.Mg
open Go Go.ChangeShapes Go.WideShapes Go.RowKit
section
variable {H : Type} {enc : TypeId × Value → H} {P : Program}
theorem cellAt {w : World} {a : Addr} {u : Value} (h : w.cell? a = some u) : a.spot = none ∧ ∃ c e fr, w.heap[a.block]? = some (.cells c e fr) ∧ c[a.off]? = some u := by
  unfold World.cell? at h
  split at h
  · rename_i hb hs
    split at h
    · cases h
    · rename_i hn
      exact ⟨by simpa using hn, _, _, _, hs, h⟩
  · simp at h
theorem ints_of_cells {W : World} {base : Nat} {sp : Nat → Bool} {held : Bool} {t e : TypeId} {k : IntKind} {cs : List Value} {x : DataW H × List MemPlace} {fuel : Nat}
    (ht : P.underlying t = some (.slice e)) (he : P.underlying e = some (.int k)) (hc : P.cellsOf e = 1) (hf : DataW.trod enc P W base sp held fuel t cs = some x) :
    ∃ v, cs = [v] ∧ ∃ zs : List Int, (∀ n ∈ zs, (Lit.int k n).wf = true) ∧ SlR W.heap v (zs.map (Value.int k)) := by
  rcases open_ints ht he hc hf with ⟨hcs, -⟩ | ⟨a, len, cap, zs, rfl, -, hl, -, hz, -, hcell, hwf⟩
  · subst hcs
    exact ⟨_, rfl, [], by simp, .inl ⟨_, _, rfl, rfl⟩⟩
  · refine ⟨_, rfl, ?_⟩
    have hle : len ≤ zs.length := by rw [hz]; split <;> omega
    refine ⟨zs.take len, fun n hn => hwf n (List.mem_of_mem_take hn), ?_⟩
    by_cases h0 : len = 0
    · subst h0; exact .inl ⟨_, _, rfl, by simp⟩
    · obtain ⟨hs, c, T, fr, hb, -⟩ := cellAt (hcell 0 (by omega))
      obtain ⟨ab, ao, as⟩ := a
      have hs' : as = none := by unfold Addr.add at hs; split at hs <;> simp_all
      subst hs'
      have hb' : W.heap[ab]? = some (.cells c T fr) := hb
      have hall : ∀ i, i < len → c[ao + i]? = some (.int k (zs.getD i 0)) := by
        intro i hi
        have hc := hcell i (by omega)
        rw [add_off _ rfl] at hc
        obtain ⟨-, c', T', fr', hb2, hg⟩ := cellAt hc
        have hb2 : W.heap[ab]? = some (.cells c' T' fr') := hb2
        rw [hb'] at hb2
        cases hb2
        exact hg
      have hsz : ao + len ≤ c.size := by
        have := hall (len - 1) (by omega)
        have := (Array.getElem?_eq_some_iff.1 this).1
        omega
      have hL : ((zs.take len).map (Value.int k)).length = len := by simp; omega
      have := SlR.at_ (H := W.heap) (b := ab) (o := ao) (c := cap) (l := (zs.take len).map (Value.int k)) (by omega) hb' (by omega) (by
        rw [hL]
        apply List.ext_getElem?
        intro i
        rw [List.getElem?_take, List.getElem?_drop, List.getElem?_map, List.getElem?_take]
        split
        · rename_i hi
          rw [Array.getElem?_toList, hall i hi]
          have : i < zs.length := by omega
          simp [List.getD_eq_getElem?_getD, this]
        · rfl)
      rwa [hL] at this
theorem bytes_of_ints {H : Hp} {v : Value} {zs : List Int} (hw : ∀ n ∈ zs, (Lit.int .u8 n).wf = true) (hs : SlR H v (zs.map (Value.int .u8))) : ∃ l : List UInt8, SlR H v (w8 l) := by
  refine ⟨zs.map fun n => UInt8.ofNat n.toNat, ?_⟩
  have : w8 (zs.map fun n => UInt8.ofNat n.toNat) = zs.map (Value.int .u8) := by
    unfold w8
    rw [List.map_map]
    apply List.map_congr_left
    intro n hn
    have h := hw n hn
    simp only [Lit.wf, Bool.and_eq_true, decide_eq_true_eq] at h
    obtain ⟨h1, h2⟩ := h
    have h1 : (0 : Int) ≤ n := h1
    have h2 : n ≤ 255 := h2
    simp only [Function.comp_apply, Value.int.injEq, true_and, UInt8.toNat_ofNat']
    omega
  rw [this]; exact hs
theorem bytes_of_cells {W : World} {base : Nat} {sp : Nat → Bool} {held : Bool} {t e : TypeId} {cs : List Value} {x : DataW H × List MemPlace} {fuel : Nat}
    (ht : P.underlying t = some (.slice e)) (he : P.underlying e = some (.int .u8)) (hc : P.cellsOf e = 1) (hf : DataW.trod enc P W base sp held fuel t cs = some x) :
    ∃ v, cs = [v] ∧ ∃ l : List UInt8, SlR W.heap v (w8 l) := by
  obtain ⟨v, h1, zs, hw, hs⟩ := ints_of_cells ht he hc hf
  exact ⟨v, h1, bytes_of_ints hw hs⟩
theorem u8_arg {W : World} {r : Reach} {b0 base : Nat} {sp : Nat → Bool} {held : Bool} {t : TypeId} {v : Value} {d : DataW H} {ps : List MemPlace} (ht : P.underlying t = some (.int .u8)) (h : Value.okWide P W r b0 t v) (hd : DataW.Trod enc P W base sp held t v d ps) : ∃ x : UInt8, v = .int .u8 x.toNat := by
  obtain ⟨n, rfl⟩ := okWide_int ht h
  obtain ⟨fuel, hf⟩ := hd
  obtain ⟨m, h1, -, hw⟩ := DataW.trod_int ht hf
  simp [Value.cells] at h1
  subst h1
  simp only [Lit.wf, Bool.and_eq_true, decide_eq_true_eq] at hw
  have h1 : (0 : Int) ≤ n := hw.1
  have h2 : n ≤ 255 := hw.2
  refine ⟨UInt8.ofNat n.toNat, ?_⟩
  simp only [Value.int.injEq, true_and, UInt8.toNat_ofNat']
  omega
end
end Go.Mg

/- what a law's slice arguments show in the heap. -/
import Derived.Test.YtjiacmbjgccfcaaGreatDoorMgLaid
import Derived.Test.YtjiacmbjgccfcaaGreatDoorMgOwn
namespace Go.Mg
open Go Go.ChangeShapes Go.WideShapes Go.RowKit
section
variable {H : Type} {enc : TypeId × Value → H} {P : Program}
theorem cellAt {w : World} {a : Addr} {u : Value} (h : w.cell? a = some u) : a.spot = none ∧ ∃ c e fr, w.heap[a.block]? = some (.cells c e fr) ∧ c[a.off]? = some u := by
  unfold World.cell? at h
  split at h
  · rename_i hb hs
    split at h
    · cases h
    · rename_i hn
      exact ⟨by simpa using hn, _, _, _, hs, h⟩
  · simp at h
theorem ints_of_cells {W : World} {base : Nat} {sp : Nat → Bool} {held : Bool} {t e : TypeId} {k : IntKind} {cs : List Value} {x : DataW H × List MemPlace} {fuel : Nat}
    (ht : P.underlying t = some (.slice e)) (he : P.underlying e = some (.int k)) (hc : P.cellsOf e = 1) (hf : DataW.trod enc P W base sp held fuel t cs = some x) :
    ∃ v, cs = [v] ∧ ∃ zs : List Int, (∀ n ∈ zs, (Lit.int k n).wf = true) ∧ SlR W.heap v (zs.map (Value.int k)) := by
  rcases open_ints ht he hc hf with ⟨hcs, -⟩ | ⟨a, len, cap, zs, rfl, -, hl, -, hz, -, hcell, hwf⟩
  · subst hcs
    exact ⟨_, rfl, [], by simp, .inl ⟨_, _, rfl, rfl⟩⟩
  · refine ⟨_, rfl, ?_⟩
    have hle : len ≤ zs.length := by rw [hz]; split <;> omega
    refine ⟨zs.take len, fun n hn => hwf n (List.mem_of_mem_take hn), ?_⟩
    by_cases h0 : len = 0
    · subst h0; exact .inl ⟨_, _, rfl, by simp⟩
    · obtain ⟨hs, c, T, fr, hb, -⟩ := cellAt (hcell 0 (by omega))
      obtain ⟨ab, ao, as⟩ := a
      have hs' : as = none := by unfold Addr.add at hs; split at hs <;> simp_all
      subst hs'
      have hb' : W.heap[ab]? = some (.cells c T fr) := hb
      have hall : ∀ i, i < len → c[ao + i]? = some (.int k (zs.getD i 0)) := by
        intro i hi
        have hc := hcell i (by omega)
        rw [add_off _ rfl] at hc
        obtain ⟨-, c', T', fr', hb2, hg⟩ := cellAt hc
        have hb2 : W.heap[ab]? = some (.cells c' T' fr') := hb2
        rw [hb'] at hb2
        cases hb2
        exact hg
      have hsz : ao + len ≤ c.size := by
        have := hall (len - 1) (by omega)
        have := (Array.getElem?_eq_some_iff.1 this).1
        omega
      have hL : ((zs.take len).map (Value.int k)).length = len := by simp; omega
      have := SlR.at_ (H := W.heap) (b := ab) (o := ao) (c := cap) (l := (zs.take len).map (Value.int k)) (by omega) hb' (by omega) (by
        rw [hL]
        apply List.ext_getElem?
        intro i
        rw [List.getElem?_take, List.getElem?_drop, List.getElem?_map, List.getElem?_take]
        split
        · rename_i hi
          rw [Array.getElem?_toList, hall i hi]
          have : i < zs.length := by omega
          simp [List.getD_eq_getElem?_getD, this]
        · rfl)
      rwa [hL] at this
theorem bytes_of_ints {H : Hp} {v : Value} {zs : List Int} (hw : ∀ n ∈ zs, (Lit.int .u8 n).wf = true) (hs : SlR H v (zs.map (Value.int .u8))) : ∃ l : List UInt8, SlR H v (w8 l) := by
  refine ⟨zs.map fun n => UInt8.ofNat n.toNat, ?_⟩
  have : w8 (zs.map fun n => UInt8.ofNat n.toNat) = zs.map (Value.int .u8) := by
    unfold w8
    rw [List.map_map]
    apply List.map_congr_left
    intro n hn
    have h := hw n hn
    simp only [Lit.wf, Bool.and_eq_true, decide_eq_true_eq] at h
    obtain ⟨h1, h2⟩ := h
    have h1 : (0 : Int) ≤ n := h1
    have h2 : n ≤ 255 := h2
    simp only [Function.comp_apply, Value.int.injEq, true_and, UInt8.toNat_ofNat']
    omega
  rw [this]; exact hs
theorem bytes_of_cells {W : World} {base : Nat} {sp : Nat → Bool} {held : Bool} {t e : TypeId} {cs : List Value} {x : DataW H × List MemPlace} {fuel : Nat}
    (ht : P.underlying t = some (.slice e)) (he : P.underlying e = some (.int .u8)) (hc : P.cellsOf e = 1) (hf : DataW.trod enc P W base sp held fuel t cs = some x) :
    ∃ v, cs = [v] ∧ ∃ l : List UInt8, SlR W.heap v (w8 l) := by
  obtain ⟨v, h1, zs, hw, hs⟩ := ints_of_cells ht he hc hf
  exact ⟨v, h1, bytes_of_ints hw hs⟩
theorem okWide_arr' {W : World} {r : Reach} {b0 n : Nat} {t e : TypeId} {v : Value} (ht : P.underlying t = some (.array n e)) (h : Value.okWide P W r b0 t v) : ∃ xs : Array Value, v = .agg xs ∧ xs.size = P.cellsOf t := by
  simp only [Value.okWide, ht] at h
  obtain ⟨cs, h1, h2, _⟩ := h
  exact ⟨cs, h1, h2⟩
theorem bytes_of_acells {W : World} {base : Nat} {sp : Nat → Bool} {held : Bool} {n : Nat} {t e : TypeId} {cs : List Value} {x : DataW H × List MemPlace} {fuel : Nat}
    (ht : P.underlying t = some (.array n e)) (he : P.underlying e = some (.int .u8)) (hc : P.cellsOf e = 1) (hn : P.cellsOf t = n) (hf : DataW.trod enc P W base sp held fuel t cs = some x) : ∃ l : List UInt8, l.length = n ∧ cs = w8 l := by
  obtain ⟨xs, m, -, -, hl, hxl, hel⟩ := DataW.trod_array ht hf
  rw [hn] at hl
  have each : ∀ i, i < n → ∃ y : UInt8, cs[i]? = some (.int .u8 y.toNat) := by
    intro i hi
    have := hel i hi
    rw [hc, Nat.mul_one, List.getElem?_eq_getElem (by omega)] at this
    obtain ⟨y, h1, -, hw⟩ := DataW.trod_int he this
    have hi' : i < cs.length := by omega
    have e1 : (cs.drop i).take 1 = [cs[i]] := by rw [List.drop_eq_getElem_cons hi']; rfl
    rw [e1] at h1
    simp only [List.cons.injEq, and_true] at h1
    simp only [Lit.wf, Bool.and_eq_true, decide_eq_true_eq] at hw
    have h3 : (0 : Int) ≤ y := hw.1
    have h4 : y ≤ 255 := hw.2
    refine ⟨UInt8.ofNat y.toNat, ?_⟩
    rw [List.getElem?_eq_getElem hi', h1]
    simp only [Option.some.injEq, Value.int.injEq, true_and, UInt8.toNat_ofNat']
    omega
  obtain ⟨l, h1, h2⟩ := choose_list (fun i (y : UInt8) => cs[i]? = some (.int .u8 y.toNat)) 0 n each
  refine ⟨l, h1, List.ext_getElem? fun i => ?_⟩
  by_cases hi : i < n
  · rw [h2 i hi, w8_get _ _ (by omega)]
  · rw [List.getElem?_eq_none (by omega), List.getElem?_eq_none (by rw [w8_len]; omega)]
theorem bytes_of_arr {W : World} {r : Reach} {b0 base : Nat} {sp : Nat → Bool} {held : Bool} {n : Nat} {t e : TypeId} {v : Value} {d : DataW H} {ps : List MemPlace}
    (ht : P.underlying t = some (.array n e)) (he : P.underlying e = some (.int .u8)) (hc : P.cellsOf e = 1) (hn : P.cellsOf t = n) (hval : Value.okWide P W r b0 t v) (hd : DataW.Trod enc P W base sp held t v d ps) :
    ∃ l : List UInt8, l.length = n ∧ v = .agg (w8 l).toArray := by
  obtain ⟨xs, rfl, -⟩ := okWide_arr' ht hval
  obtain ⟨fuel, hf⟩ := hd
  obtain ⟨l, h1, h2⟩ := bytes_of_acells ht he hc hn hf
  exact ⟨l, h1, by rw [← h2]; rfl⟩
end
end Go.Mg

/- what a law's slice arguments show in the heap. -/
import Derived.Test.YtihlnbepcimnfaaDoorMgLaid
import Derived.Test.YtihlnbepcimnfaaDoorMgOwn
namespace Go.Mg
open Go Go.ChangeShapes Go.WideShapes Go.RowKit
section
variable {H : Type} {enc : TypeId × Value → H} {P : Program}
theorem cellAt {w : World} {a : Addr} {u : Value} (h : w.cell? a = some u) : a.spot = none ∧ ∃ c e fr, w.heap[a.block]? = some (.cells c e fr) ∧ c[a.off]? = some u := by
  unfold World.cell? at h
  split at h
  · rename_i hb hs
    split at h
    · cases h
    · rename_i hn
      exact ⟨by simpa using hn, _, _, _, hs, h⟩
  · simp at h
theorem ints_of_cells {W : World} {base : Nat} {sp : Nat → Bool} {held : Bool} {t e : TypeId} {k : IntKind} {cs : List Value} {x : DataW H × List MemPlace} {fuel : Nat}
    (ht : P.underlying t = some (.slice e)) (he : P.underlying e = some (.int k)) (hc : P.cellsOf e = 1) (hf : DataW.trod enc P W base sp held fuel t cs = some x) :
    ∃ v, cs = [v] ∧ ∃ zs : List Int, (∀ n ∈ zs, (Lit.int k n).wf = true) ∧ SlR W.heap v (zs.map (Value.int k)) := by
  rcases open_ints ht he hc hf with ⟨hcs, -⟩ | ⟨a, len, cap, zs, rfl, -, hl, -, hz, -, hcell, hwf⟩
  · subst hcs
    exact ⟨_, rfl, [], by simp, .inl ⟨_, _, rfl, rfl⟩⟩
  · refine ⟨_, rfl, ?_⟩
    have hle : len ≤ zs.length := by rw [hz]; split <;> omega
    refine ⟨zs.take len, fun n hn => hwf n (List.mem_of_mem_take hn), ?_⟩
    by_cases h0 : len = 0
    · subst h0; exact .inl ⟨_, _, rfl, by simp⟩
    · obtain ⟨hs, c, T, fr, hb, -⟩ := cellAt (hcell 0 (by omega))
      obtain ⟨ab, ao, as⟩ := a
      have hs' : as = none := by unfold Addr.add at hs; split at hs <;> simp_all
      subst hs'
      have hb' : W.heap[ab]? = some (.cells c T fr) := hb
      have hall : ∀ i, i < len → c[ao + i]? = some (.int k (zs.getD i 0)) := by
        intro i hi
        have hc := hcell i (by omega)
        rw [add_off _ rfl] at hc
        obtain ⟨-, c', T', fr', hb2, hg⟩ := cellAt hc
        have hb2 : W.heap[ab]? = some (.cells c' T' fr') := hb2
        rw [hb'] at hb2
        cases hb2
        exact hg
      have hsz : ao + len ≤ c.size := by
        have := hall (len - 1) (by omega)
        have := (Array.getElem?_eq_some_iff.1 this).1
        omega
      have hL : ((zs.take len).map (Value.int k)).length = len := by simp; omega
      have := SlR.at_ (H := W.heap) (b := ab) (o := ao) (c := cap) (l := (zs.take len).map (Value.int k)) (by omega) hb' (by omega) (by
        rw [hL]
        apply List.ext_getElem?
        intro i
        rw [List.getElem?_take, List.getElem?_drop, List.getElem?_map, List.getElem?_take]
        split
        · rename_i hi
          rw [Array.getElem?_toList, hall i hi]
          have : i < zs.length := by omega
          simp [List.getD_eq_getElem?_getD, this]
        · rfl)
      rwa [hL] at this
theorem ints_of_slice {W : World} {r : Reach} {b0 base : Nat} {sp : Nat → Bool} {held : Bool} {t e : TypeId} {k : IntKind} {v : Value} {d : DataW H} {ps : List MemPlace}
    (ht : P.underlying t = some (.slice e)) (he : P.underlying e = some (.int k)) (hc : P.cellsOf e = 1) (hval : Value.okWide P W r b0 t v) (hd : DataW.Trod enc P W base sp held t v d ps) :
    ∃ zs : List Int, (∀ n ∈ zs, (Lit.int k n).wf = true) ∧ SlR W.heap v (zs.map (Value.int k)) := by
  obtain ⟨a0, len, cap, rfl⟩ := okWide_slice ht hval
  obtain ⟨fuel, hf⟩ := hd
  obtain ⟨v, h1, h2⟩ := ints_of_cells ht he hc hf
  simp [Value.cells] at h1
  subst h1
  exact h2
theorem bytes_of_ints {H : Hp} {v : Value} {zs : List Int} (hw : ∀ n ∈ zs, (Lit.int .u8 n).wf = true) (hs : SlR H v (zs.map (Value.int .u8))) : ∃ l : List UInt8, SlR H v (w8 l) := by
  refine ⟨zs.map fun n => UInt8.ofNat n.toNat, ?_⟩
  have : w8 (zs.map fun n => UInt8.ofNat n.toNat) = zs.map (Value.int .u8) := by
    unfold w8
    rw [List.map_map]
    apply List.map_congr_left
    intro n hn
    have h := hw n hn
    simp only [Lit.wf, Bool.and_eq_true, decide_eq_true_eq] at h
    obtain ⟨h1, h2⟩ := h
    have h1 : (0 : Int) ≤ n := h1
    have h2 : n ≤ 255 := h2
    simp only [Function.comp_apply, Value.int.injEq, true_and, UInt8.toNat_ofNat']
    omega
  rw [this]; exact hs
theorem bytes_of_slice {W : World} {r : Reach} {b0 base : Nat} {sp : Nat → Bool} {held : Bool} {t e : TypeId} {v : Value} {d : DataW H} {ps : List MemPlace}
    (ht : P.underlying t = some (.slice e)) (he : P.underlying e = some (.int .u8)) (hc : P.cellsOf e = 1) (hval : Value.okWide P W r b0 t v) (hd : DataW.Trod enc P W base sp held t v d ps) :
    ∃ l : List UInt8, SlR W.heap v (w8 l) := by
  obtain ⟨zs, hw, hs⟩ := ints_of_slice ht he hc hval hd
  exact bytes_of_ints hw hs
theorem bytes_of_cells {W : World} {base : Nat} {sp : Nat → Bool} {held : Bool} {t e : TypeId} {cs : List Value} {x : DataW H × List MemPlace} {fuel : Nat}
    (ht : P.underlying t = some (.slice e)) (he : P.underlying e = some (.int .u8)) (hc : P.cellsOf e = 1) (hf : DataW.trod enc P W base sp held fuel t cs = some x) :
    ∃ v, cs = [v] ∧ ∃ l : List UInt8, SlR W.heap v (w8 l) := by
  obtain ⟨v, h1, zs, hw, hs⟩ := ints_of_cells ht he hc hf
  exact ⟨v, h1, bytes_of_ints hw hs⟩
/-- a slice of slices of bytes -/
theorem bytess_of_slice {W : World} {r : Reach} {b0 base : Nat} {sp : Nat → Bool} {held : Bool} {t e e2 : TypeId} {v : Value} {d : DataW H} {ps : List MemPlace}
    (ht : P.underlying t = some (.slice e)) (he : P.underlying e = some (.slice e2)) (c1 : P.cellsOf e = 1) (hu : P.underlying e2 = some (.int .u8)) (c2 : P.cellsOf e2 = 1) (hval : Value.okWide P W r b0 t v) (hd : DataW.Trod enc P W base sp held t v d ps) :
    ∃ ls : List (List UInt8), SlS W.heap v ls := by
  obtain ⟨a0, len, cap, rfl⟩ := okWide_slice ht hval
  obtain ⟨fuel, hf⟩ := hd
  rcases DataW.trod_slice ht hf with ⟨hcs, -⟩ | ⟨a, len', cap', elems, rest, n, -, hcs, -, -, hl, -, hlen, hel, -, -⟩
  · simp [Value.cells] at hcs
    obtain ⟨rfl, rfl, rfl⟩ := hcs
    exact ⟨[], [], .inl ⟨_, _, rfl, rfl⟩, rfl, fun i h => by simp at h⟩
  · simp [Value.cells] at hcs
    obtain ⟨rfl, rfl, rfl⟩ := hcs
    have each : ∀ i, i < len → ∃ x : Value × List UInt8, W.cell? (a.add i) = some x.1 ∧ SlR W.heap x.1 (w8 x.2) := by
      intro i hi
      have := hel i hi
      rw [List.getElem?_eq_getElem (by omega), c1, Nat.mul_one, Option.bind_eq_some_iff] at this
      obtain ⟨cs', hcs, hy⟩ := this
      obtain ⟨v, rfl, l, hl⟩ := bytes_of_cells he hu c2 hy
      exact ⟨(v, l), cell_of_cells?_one hcs, hl⟩
    obtain ⟨xs, hx, hxs⟩ := choose_list (fun i (x : Value × List UInt8) => W.cell? (a.add i) = some x.1 ∧ SlR W.heap x.1 (w8 x.2)) (undef, []) len each
    have g1 : ∀ i, i < len → (xs.map (·.1)).getD i undef = (xs.getD i (undef, [])).1 := fun i hi => by
      have : i < xs.length := by omega
      simp [List.getD_eq_getElem?_getD, this]
    have g2 : ∀ i, i < len → (xs.map (·.2)).getD i [] = (xs.getD i (undef, [])).2 := fun i hi => by
      have : i < xs.length := by omega
      simp [List.getD_eq_getElem?_getD, this]
    refine ⟨xs.map (·.2), xs.map (·.1), ?_, by simp, fun i hi => ?_⟩
    · by_cases h0 : len = 0
      · subst h0
        have : xs = [] := List.eq_nil_of_length_eq_zero hx
        subst this
        exact .inl ⟨_, _, rfl, rfl⟩
      · obtain ⟨hs, c, T, fr, hb, -⟩ := cellAt (hxs 0 (by omega)).1
        obtain ⟨ab, ao, as⟩ := a
        have hs' : as = none := by unfold Addr.add at hs; split at hs <;> simp_all
        subst hs'
        have hb' : W.heap[ab]? = some (.cells c T fr) := hb
        have hall : ∀ i, i < len → c[ao + i]? = some (xs.getD i (undef, [])).1 := by
          intro i hi
          have hc := (hxs i hi).1
          rw [add_off _ rfl] at hc
          obtain ⟨-, c', T', fr', hb2, hg⟩ := cellAt hc
          have hb2 : W.heap[ab]? = some (.cells c' T' fr') := hb2
          rw [hb'] at hb2
          cases hb2
          exact hg
        have hsz : ao + len ≤ c.size := by
          have := hall (len - 1) (by omega)
          have := (Array.getElem?_eq_some_iff.1 this).1
          omega
        have hL : (xs.map (·.1)).length = len := by simp; omega
        have := SlR.at_ (H := W.heap) (b := ab) (o := ao) (c := cap) (l := xs.map (·.1)) (by omega) hb' (by omega) (by
          rw [hL]
          apply List.ext_getElem?
          intro i
          rw [List.getElem?_take, List.getElem?_drop]
          split
          · rename_i hi
            rw [Array.getElem?_toList, hall i hi]
            have : i < xs.length := by omega
            simp [List.getD_eq_getElem?_getD, this]
          · rw [List.getElem?_eq_none (by omega)])
        rwa [hL] at this
    · have hi : i < len := by simp at hi; omega
      rw [g1 i hi, g2 i hi]
      exact (hxs i hi).2
theorem okWide_arr' {W : World} {r : Reach} {b0 n : Nat} {t e : TypeId} {v : Value} (ht : P.underlying t = some (.array n e)) (h : Value.okWide P W r b0 t v) : ∃ xs : Array Value, v = .agg xs ∧ xs.size = P.cellsOf t := by
  simp only [Value.okWide, ht] at h
  obtain ⟨cs, h1, h2, _⟩ := h
  exact ⟨cs, h1, h2⟩
theorem string_of {W : World} {r : Reach} {b0 base : Nat} {sp : Nat → Bool} {held : Bool} {t : TypeId} {v : Value} {d : DataW H} {ps : List MemPlace} (ht : P.underlying t = some .string) (h : Value.okWide P W r b0 t v) (hd : DataW.Trod enc P W base sp held t v d ps) : ∃ l : List UInt8, v = .string ⟨l.toArray⟩ ∧ l.length ≤ maxLen := by
  obtain ⟨s, rfl⟩ := okWide_string ht h
  obtain ⟨fuel, hf⟩ := hd
  obtain ⟨s', h1, -, h2⟩ := DataW.trod_string ht hf
  simp [Value.cells] at h1
  subst h1
  exact ⟨s.data.toList, by simp, by simpa using h2⟩
theorem bytes_of_acells {W : World} {base : Nat} {sp : Nat → Bool} {held : Bool} {n : Nat} {t e : TypeId} {cs : List Value} {x : DataW H × List MemPlace} {fuel : Nat}
    (ht : P.underlying t = some (.array n e)) (he : P.underlying e = some (.int .u8)) (hc : P.cellsOf e = 1) (hn : P.cellsOf t = n) (hf : DataW.trod enc P W base sp held fuel t cs = some x) : ∃ l : List UInt8, l.length = n ∧ cs = w8 l := by
  obtain ⟨xs, m, -, -, hl, hxl, hel⟩ := DataW.trod_array ht hf
  rw [hn] at hl
  have each : ∀ i, i < n → ∃ y : UInt8, cs[i]? = some (.int .u8 y.toNat) := by
    intro i hi
    have := hel i hi
    rw [hc, Nat.mul_one, List.getElem?_eq_getElem (by omega)] at this
    obtain ⟨y, h1, -, hw⟩ := DataW.trod_int he this
    have hi' : i < cs.length := by omega
    have e1 : (cs.drop i).take 1 = [cs[i]] := by rw [List.drop_eq_getElem_cons hi']; rfl
    rw [e1] at h1
    simp only [List.cons.injEq, and_true] at h1
    simp only [Lit.wf, Bool.and_eq_true, decide_eq_true_eq] at hw
    have h3 : (0 : Int) ≤ y := hw.1
    have h4 : y ≤ 255 := hw.2
    refine ⟨UInt8.ofNat y.toNat, ?_⟩
    rw [List.getElem?_eq_getElem hi', h1]
    simp only [Option.some.injEq, Value.int.injEq, true_and, UInt8.toNat_ofNat']
    omega
  obtain ⟨l, h1, h2⟩ := choose_list (fun i (y : UInt8) => cs[i]? = some (.int .u8 y.toNat)) 0 n each
  refine ⟨l, h1, List.ext_getElem? fun i => ?_⟩
  by_cases hi : i < n
  · rw [h2 i hi, w8_get _ _ (by omega)]
  · rw [List.getElem?_eq_none (by omega), List.getElem?_eq_none (by rw [w8_len]; omega)]
theorem bytes_of_arr {W : World} {r : Reach} {b0 base : Nat} {sp : Nat → Bool} {held : Bool} {n : Nat} {t e : TypeId} {v : Value} {d : DataW H} {ps : List MemPlace}
    (ht : P.underlying t = some (.array n e)) (he : P.underlying e = some (.int .u8)) (hc : P.cellsOf e = 1) (hn : P.cellsOf t = n) (hval : Value.okWide P W r b0 t v) (hd : DataW.Trod enc P W base sp held t v d ps) :
    ∃ l : List UInt8, l.length = n ∧ v = .agg (w8 l).toArray := by
  obtain ⟨xs, rfl, -⟩ := okWide_arr' ht hval
  obtain ⟨fuel, hf⟩ := hd
  obtain ⟨l, h1, h2⟩ := bytes_of_acells ht he hc hn hf
  exact ⟨l, h1, by rw [← h2]; rfl⟩
theorem bytes_of_arr2 {W : World} {r : Reach} {b0 base : Nat} {sp : Nat → Bool} {held : Bool} {n m : Nat} {t e e2 : TypeId} {v : Value} {d : DataW H} {ps : List MemPlace}
    (ht : P.underlying t = some (.array n e)) (he : P.underlying e = some (.array m e2)) (hu : P.underlying e2 = some (.int .u8)) (hc : P.cellsOf e2 = 1) (hm : P.cellsOf e = m) (hn : P.cellsOf t = n * m)
    (hval : Value.okWide P W r b0 t v) (hd : DataW.Trod enc P W base sp held t v d ps) :
    ∃ l : List UInt8, l.length = n * m ∧ v = .agg (w8 l).toArray := by
  obtain ⟨cs, rfl, -⟩ := okWide_arr' ht hval
  obtain ⟨fuel, hf⟩ := hd
  obtain ⟨xs, q, -, -, hl, hxl, hel⟩ := DataW.trod_array ht hf
  have hl : cs.toList.length = n * m := by rw [← hn]; exact hl
  have hel : ∀ i, i < n → DataW.trod enc P W base sp held q e ((cs.toList.drop (i * m)).take m) = xs[i]? := by rw [← hm]; exact hel
  have each : ∀ k, k < n * m → ∃ y : UInt8, cs.toList[k]? = some (.int .u8 y.toNat) := by
    intro k hk
    have hm0 : 0 < m := by rcases Nat.eq_zero_or_pos m with h | h; (subst h; simp at hk); exact h
    have hi : k / m < n := (Nat.div_lt_iff_lt_mul hm0).2 hk
    have hj : k % m < m := Nat.mod_lt _ hm0
    have h1 := hel (k / m) hi
    rw [List.getElem?_eq_getElem (by omega)] at h1
    obtain ⟨li, h2, h3⟩ := bytes_of_acells he hu hc hm h1
    refine ⟨li.getD (k % m) 0, ?_⟩
    have h4 := congrArg (·[k % m]?) h3
    simp only [List.getElem?_take, List.getElem?_drop, if_pos hj] at h4
    rw [w8_get _ _ (by omega)] at h4
    rw [← h4]
    congr 1
    rw [Nat.mul_comm]; exact (Nat.div_add_mod k m).symm
  obtain ⟨l, h1, h2⟩ := choose_list (fun i (y : UInt8) => cs.toList[i]? = some (.int .u8 y.toNat)) 0 (n * m) each
  refine ⟨l, h1, ?_⟩
  have : cs.toList = w8 l := List.ext_getElem? fun i => by
    by_cases hi : i < n * m
    · rw [h2 i hi, w8_get _ _ (by omega)]
    · rw [List.getElem?_eq_none (by omega), List.getElem?_eq_none (by rw [w8_len]; omega)]
  rw [← this]
theorem u8_arg {W : World} {r : Reach} {b0 base : Nat} {sp : Nat → Bool} {held : Bool} {t : TypeId} {v : Value} {d : DataW H} {ps : List MemPlace} (ht : P.underlying t = some (.int .u8)) (h : Value.okWide P W r b0 t v) (hd : DataW.Trod enc P W base sp held t v d ps) : ∃ x : UInt8, v = .int .u8 x.toNat := by
  obtain ⟨n, rfl⟩ := okWide_int ht h
  obtain ⟨fuel, hf⟩ := hd
  obtain ⟨m, h1, -, hw⟩ := DataW.trod_int ht hf
  simp [Value.cells] at h1
  subst h1
  simp only [Lit.wf, Bool.and_eq_true, decide_eq_true_eq] at hw
  have h1 : (0 : Int) ≤ n := hw.1
  have h2 : n ≤ 255 := hw.2
  refine ⟨UInt8.ofNat n.toNat, ?_⟩
  simp only [Value.int.injEq, true_and, UInt8.toNat_ofNat']
  omega
theorem int_arg {W : World} {r : Reach} {b0 base : Nat} {sp : Nat → Bool} {held : Bool} {t : TypeId} {v : Value} {d : DataW H} {ps : List MemPlace} (ht : P.underlying t = some (.int .i64)) (h : Value.okWide P W r b0 t v) (hd : DataW.Trod enc P W base sp held t v d ps) : ∃ x : Int, v = .int .i64 x ∧ -9223372036854775808 ≤ x ∧ x ≤ 9223372036854775807 := by
  obtain ⟨n, rfl⟩ := okWide_int ht h
  obtain ⟨fuel, hf⟩ := hd
  obtain ⟨m, h1, -, hw⟩ := DataW.trod_int ht hf
  simp [Value.cells] at h1
  subst h1
  simp only [Lit.wf, Bool.and_eq_true, decide_eq_true_eq] at hw
  exact ⟨n, rfl, hw.1, hw.2⟩
end
end Go.Mg

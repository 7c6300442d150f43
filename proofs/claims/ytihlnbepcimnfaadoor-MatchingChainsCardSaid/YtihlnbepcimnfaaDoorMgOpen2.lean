/- what a law's arguments show in the heap: slices of small arrays of bytes, 16-bit numbers. -/
import Derived.Test.YtihlnbepcimnfaaDoorMgOpen
namespace Go.Mg
open Go Go.ChangeShapes Go.WideShapes Go.RowKit
/-- a slice of arrays of m bytes -/
def WdR (m : Nat) (H : Hp) (v : Value) (ws : List (List UInt8)) : Prop :=
  ∃ a c, v = .slice a ws.length c ∧ ws.length ≤ c ∧ ∀ i, i < ws.length → (ws.getD i []).length = m ∧ ∃ b o, a = some ⟨b, o, none⟩ ∧ b < H.size ∧ Mg.ldNA H ⟨b, o + i * m, none⟩ m = some (w8 (ws.getD i [])).toArray
theorem WdR.keep0 {m : Nat} {H H' : Hp} {v : Value} {ws : List (List UInt8)} (h : WdR m H v ws) (hk : Keep (fun _ => False) H H') : WdR m H' v ws := by
  obtain ⟨a, c, h1, h2, h3⟩ := h
  refine ⟨a, c, h1, h2, fun i hi => ?_⟩
  obtain ⟨h4, b, o, h5, h6, h7⟩ := h3 i hi
  exact ⟨h4, b, o, h5, Nat.lt_of_lt_of_le h6 hk.size, by rw [hk.ldNA (p := ⟨b, o + i * m, none⟩) h6 (by simp)]; exact h7⟩
section
variable {H : Type} {enc : TypeId × Value → H} {P : Program}
theorem wide_of_slice {m : Nat} {W : World} {r : Reach} {b0 base : Nat} {sp : Nat → Bool} {held : Bool} {t e e2 : TypeId} {v : Value} {d : DataW H} {ps : List MemPlace}
    (ht : P.underlying t = some (.slice e)) (he : P.underlying e = some (.array m e2)) (hu : P.underlying e2 = some (.int .u8)) (c2 : P.cellsOf e2 = 1) (hm : P.cellsOf e = m) (hm0 : 0 < m) (hval : Value.okWide P W r b0 t v) (hd : DataW.Trod enc P W base sp held t v d ps) :
    ∃ ws : List (List UInt8), WdR m W.heap v ws := by
  obtain ⟨a0, len, cap, rfl⟩ := okWide_slice ht hval
  obtain ⟨fuel, hf⟩ := hd
  rcases DataW.trod_slice ht hf with ⟨hcs, -⟩ | ⟨a, len', cap', elems, rest, n, -, hcs, -, -, hl, -, hlen, hel, -, -⟩
  · simp [Value.cells] at hcs
    obtain ⟨rfl, rfl, rfl⟩ := hcs
    exact ⟨[], _, _, rfl, by simp, fun i h => absurd h (by simp)⟩
  · simp [Value.cells] at hcs
    obtain ⟨rfl, rfl, rfl⟩ := hcs
    have each : ∀ i, i < len → ∃ x : List UInt8, x.length = m ∧ W.cells? base (a.add (i * m)) m = some (w8 x) := by
      intro i hi
      have := hel i hi
      rw [List.getElem?_eq_getElem (by omega), Option.bind_eq_some_iff] at this
      obtain ⟨cs', hcs, hy⟩ := this
      obtain ⟨l, h1, rfl⟩ := bytes_of_acells he hu c2 hm hy
      rw [hm] at hcs
      exact ⟨l, h1, hcs⟩
    obtain ⟨ws, hx, hws⟩ := choose_list (fun i (x : List UInt8) => x.length = m ∧ W.cells? base (a.add (i * m)) m = some (w8 x)) [] len each
    refine ⟨ws, some a, cap, by rw [hx], by omega, fun i hi => ?_⟩
    obtain ⟨ab, ao, as⟩ := a
    have hs' : as = none := by
      obtain ⟨h1, h2⟩ := hws 0 (by omega)
      obtain ⟨-, -, hcell⟩ := World.cells?_some h2
      have hc0 := hcell 0 hm0
      rw [w8_get _ _ (by omega)] at hc0
      obtain ⟨hs, -⟩ := cellAt hc0
      simpa [Addr.add] using hs
    subst hs'
    obtain ⟨h1, h2⟩ := hws i (by omega)
    obtain ⟨-, -, hcell⟩ := World.cells?_some h2
    have hc0 := hcell 0 hm0
    rw [w8_get _ _ (by omega)] at hc0
    obtain ⟨hs, C, T, fr, hb, -⟩ := cellAt hc0
    have hb' : W.heap[ab]? = some (.cells C T fr) := by
      rw [add_mk, add_mk] at hb; exact hb
    have hall : ∀ j, j < m → C[ao + i * m + j]? = (w8 (ws.getD i []))[j]? := by
      intro j hj
      have hc := hcell j hj
      have hjl : j < (w8 (ws.getD i [])).length := by rw [w8_len]; omega
      rw [add_mk, add_mk, List.getElem?_eq_getElem hjl] at hc
      obtain ⟨-, c', T', fr', hb2, hg⟩ := cellAt hc
      have hb2 : W.heap[ab]? = some (.cells c' T' fr') := hb2
      rw [hb'] at hb2
      cases hb2
      rw [List.getElem?_eq_getElem hjl]
      exact hg
    have hsz : ao + i * m + m ≤ C.size := by
      have := hall (m - 1) (by omega)
      have hjl : m - 1 < (w8 (ws.getD i [])).length := by rw [w8_len]; omega
      rw [List.getElem?_eq_getElem hjl] at this
      have := (Array.getElem?_eq_some_iff.1 this).1
      omega
    refine ⟨h1, ab, ao, rfl, (Array.getElem?_eq_some_iff.1 hb').1, ?_⟩
    unfold Mg.ldNA
    simp only [hb', Option.isSome_none, Bool.false_eq_true, if_false]
    rw [if_pos hsz]
    congr 1
    apply Array.ext'
    apply List.ext_getElem?
    intro j
    rw [Array.toList_extract, List.extract_eq_take_drop, List.getElem?_take, List.getElem?_drop]
    split
    · rw [Array.getElem?_toList]
      exact hall j (by omega)
    · rw [List.getElem?_eq_none]
      show (w8 (ws.getD i [])).length ≤ j
      rw [w8_len]; omega
theorem u16_arg {W : World} {r : Reach} {b0 base : Nat} {sp : Nat → Bool} {held : Bool} {t : TypeId} {v : Value} {d : DataW H} {ps : List MemPlace} (ht : P.underlying t = some (.int .u16)) (h : Value.okWide P W r b0 t v) (hd : DataW.Trod enc P W base sp held t v d ps) : ∃ x : Nat, v = .int .u16 x ∧ x ≤ 65535 := by
  obtain ⟨n, rfl⟩ := okWide_int ht h
  obtain ⟨fuel, hf⟩ := hd
  obtain ⟨m, h1, -, hw⟩ := DataW.trod_int ht hf
  simp [Value.cells] at h1
  subst h1
  simp only [Lit.wf, Bool.and_eq_true, decide_eq_true_eq] at hw
  have h1 : (0 : Int) ≤ n := hw.1
  have h2 : n ≤ 65535 := hw.2
  exact ⟨n.toNat, by congr 1; omega, by omega⟩
end
end Go.Mg

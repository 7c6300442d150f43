/- flow: what the laws' Spoil arguments show. -/
import Derived.Test.YtjiacmbjgccfcaaDoorMgV0
import Derived.Test.YtjiacmbjgccfcaaDoorMgVH
namespace Go.Mg
open Go Go.ChangeShapes Go.WideShapes Go.RowKit
set_option linter.unusedVariables false
set_option linter.unusedSimpArgs false
section
variable {H : Type} {enc : TypeId × Value → H} {P : Program}
theorem spoil_cells {W : World} {base : Nat} {sp : Nat → Bool} {held : Bool} {t tb ti ts : TypeId} {n1 n2 n3 n4 : String} {m1 m2 m3 m4 : Bool} {g1 g2 g3 g4 p1 p2 p3 p4 : String} {o1 o2 o3 o4 : Nat} {cs : List Value} {x : DataW H × List MemPlace} {fuel : Nat}
    (ht : P.underlying t = some (.struct #[⟨n1, tb, 0, m1, g1, p1, o1⟩, ⟨n2, ti, 1, m2, g2, p2, o2⟩, ⟨n3, ti, 2, m3, g3, p3, o3⟩, ⟨n4, ts, 3, m4, g4, p4, o4⟩])) (hc : P.cellsOf t = 4) (hb : P.underlying tb = some (.int .u8)) (cb : P.cellsOf tb = 1)
    (hi : P.underlying ti = some (.int .i64)) (ci : P.cellsOf ti = 1) (hs : P.underlying ts = some .string) (cs1 : P.cellsOf ts = 1) (hf : DataW.trod enc P W base sp held fuel t cs = some x) : ∃ a : SpN, True ∧ cs = encX a := by
  obtain ⟨xs, m, -, -, hxl0, hxl, hel⟩ := DataW.trod_struct ht hf
  have hxl : xs.length = 4 := hxl
  rw [hc] at hxl0
  obtain ⟨v0, v1, v2, v3, rfl⟩ : ∃ v0 v1 v2 v3, cs = [v0, v1, v2, v3] := by
    match cs, hxl0 with
    | [a, b, c, d], _ => exact ⟨a, b, c, d, rfl⟩
  have f0 : DataW.trod enc P W base sp held m tb (([v0, v1, v2, v3].drop 0).take (P.cellsOf tb)) = xs[0]? := hel 0 _ rfl
  have f1 : DataW.trod enc P W base sp held m ti (([v0, v1, v2, v3].drop 1).take (P.cellsOf ti)) = xs[1]? := hel 1 _ rfl
  have f2 : DataW.trod enc P W base sp held m ti (([v0, v1, v2, v3].drop 2).take (P.cellsOf ti)) = xs[2]? := hel 2 _ rfl
  have f3 : DataW.trod enc P W base sp held m ts (([v0, v1, v2, v3].drop 3).take (P.cellsOf ts)) = xs[3]? := hel 3 _ rfl
  rw [List.getElem?_eq_getElem (by omega), cb] at f0
  rw [List.getElem?_eq_getElem (by omega), ci] at f1 f2
  rw [List.getElem?_eq_getElem (by omega), cs1] at f3
  obtain ⟨a0, e0, -, w0⟩ := DataW.trod_int hb f0
  obtain ⟨a1, e1, -, w1⟩ := DataW.trod_int hi f1
  obtain ⟨a2, e2, -, w2⟩ := DataW.trod_int hi f2
  obtain ⟨s, e3, -, h2⟩ := DataW.trod_string hs f3
  have k0 : [v0] = [Value.int .u8 a0] := e0
  have k1 : [v1] = [Value.int .i64 a1] := e1
  have k2 : [v2] = [Value.int .i64 a2] := e2
  have k3 : [v3] = [Value.string s] := e3
  simp only [List.cons.injEq, and_true] at k0 k1 k2 k3
  subst k0 k1 k2 k3
  have r0 := wf_u8' w0
  refine ⟨⟨UInt8.ofNat a0.toNat, a1, a2, s.data.toList⟩, trivial, ?_⟩
  have : (((UInt8.ofNat a0.toNat).toNat : Nat) : Int) = a0 := by rw [UInt8.toNat_ofNat']; omega
  simp only [encX, this, sV]
theorem spoil_arg {W : World} {r : Reach} {b0 base : Nat} {sp : Nat → Bool} {held : Bool} {t tb ti ts : TypeId} {n1 n2 n3 n4 : String} {m1 m2 m3 m4 : Bool} {g1 g2 g3 g4 p1 p2 p3 p4 : String} {o1 o2 o3 o4 : Nat} {v : Value} {d : DataW H} {ps : List MemPlace}
    (ht : P.underlying t = some (.struct #[⟨n1, tb, 0, m1, g1, p1, o1⟩, ⟨n2, ti, 1, m2, g2, p2, o2⟩, ⟨n3, ti, 2, m3, g3, p3, o3⟩, ⟨n4, ts, 3, m4, g4, p4, o4⟩])) (hc : P.cellsOf t = 4) (hb : P.underlying tb = some (.int .u8)) (cb : P.cellsOf tb = 1)
    (hi : P.underlying ti = some (.int .i64)) (ci : P.cellsOf ti = 1) (hs : P.underlying ts = some .string) (cs1 : P.cellsOf ts = 1) (hval : Value.okWide P W r b0 t v) (hd : DataW.Trod enc P W base sp held t v d ps) : ∃ x : SpN, v = .agg (encX x).toArray := by
  have hv : ∃ cs : Array Value, v = .agg cs := by
    simp only [Value.okWide, ht] at hval
    obtain ⟨cs, h1, _⟩ := hval
    exact ⟨cs, h1⟩
  obtain ⟨cs, rfl⟩ := hv
  obtain ⟨fuel, hf⟩ := hd
  obtain ⟨a, -, h⟩ := spoil_cells ht hc hb cb hi ci hs cs1 hf
  have h : cs.toList = encX a := h
  exact ⟨a, by rw [← h]⟩
end
end Go.Mg

/- order: what the laws' arguments show: a Raw. -/
import Derived.Test.YtamkbeibmhkciaaDoorMgT1
import Derived.Test.YtamkbeibmhkciaaDoorMgOpen3
namespace Go.Mg
open Go Go.ChangeShapes Go.WideShapes Go.RowKit
section
variable {H : Type} {enc : TypeId × Value → H} {P : Program}
theorem wf_u8 {n : Int} (h : (Lit.int .u8 n).wf = true) : 0 ≤ n ∧ n ≤ 255 := by
  simp only [Lit.wf, Bool.and_eq_true, decide_eq_true_eq] at h
  exact ⟨h.1, h.2⟩
theorem raw_arg {W : World} {r : Reach} {b0 base : Nat} {sp : Nat → Bool} {held : Bool} {t tb ts te : TypeId} {n1 n2 n3 n4 : String} {m1 m2 m3 m4 : Bool} {g1 g2 g3 g4 p1 p2 p3 p4 : String} {o1 o2 o3 o4 : Nat} {v : Value} {d : DataW H} {ps : List MemPlace}
    (ht : P.underlying t = some (.struct #[⟨n1, tb, 0, m1, g1, p1, o1⟩, ⟨n2, tb, 1, m2, g2, p2, o2⟩, ⟨n3, tb, 2, m3, g3, p3, o3⟩, ⟨n4, ts, 3, m4, g4, p4, o4⟩])) (hc : P.cellsOf t = 4) (hb : P.underlying tb = some (.int .u8)) (cb : P.cellsOf tb = 1) (hs : P.underlying ts = some (.slice te)) (cs1 : P.cellsOf ts = 1)
    (he : P.underlying te = some (.array 2 tb)) (ce : P.cellsOf te = 2) (hval : Value.okWide P W r b0 t v) (hd : DataW.Trod enc P W base sp held t v d ps) : ∃ x : RawN, RawV W.heap v x := by
  have hv : ∃ cs : Array Value, v = .agg cs ∧ cs.size = P.cellsOf t := by
    simp only [Value.okWide, ht] at hval
    obtain ⟨cs, h1, h2, _⟩ := hval
    exact ⟨cs, h1, h2⟩
  obtain ⟨cs, rfl, hcs⟩ := hv
  rw [hc] at hcs
  obtain ⟨fuel, hf⟩ := hd
  obtain ⟨xs, m, -, -, hl, hxl, hel⟩ := DataW.trod_struct ht hf
  have hxl : xs.length = 4 := hxl
  have hcl : (Value.cells (.agg cs) : Array Value) = cs := rfl
  rw [hcl] at hel hl
  obtain ⟨ccs⟩ := cs
  have hcs : ccs.length = 4 := hcs
  obtain ⟨v0, v1, v2, v3, rfl⟩ : ∃ v0 v1 v2 v3, ccs = [v0, v1, v2, v3] := by
    match ccs, hcs with
    | [a, b, c, d], _ => exact ⟨a, b, c, d, rfl⟩
  have f0 : DataW.trod enc P W base sp held m tb (([v0, v1, v2, v3].drop 0).take (P.cellsOf tb)) = xs[0]? := hel 0 _ rfl
  have f1 : DataW.trod enc P W base sp held m tb (([v0, v1, v2, v3].drop 1).take (P.cellsOf tb)) = xs[1]? := hel 1 _ rfl
  have f2 : DataW.trod enc P W base sp held m tb (([v0, v1, v2, v3].drop 2).take (P.cellsOf tb)) = xs[2]? := hel 2 _ rfl
  have f3 : DataW.trod enc P W base sp held m ts (([v0, v1, v2, v3].drop 3).take (P.cellsOf ts)) = xs[3]? := hel 3 _ rfl
  rw [List.getElem?_eq_getElem (by omega), cb] at f0 f1 f2
  rw [List.getElem?_eq_getElem (by omega), cs1] at f3
  obtain ⟨a0, e0, -, w0⟩ := DataW.trod_int hb f0
  obtain ⟨a1, e1, -, w1⟩ := DataW.trod_int hb f1
  obtain ⟨a2, e2, -, w2⟩ := DataW.trod_int hb f2
  obtain ⟨u, e3, qs, hq, hql, hS⟩ := pairs_of_cells hs he hb cb ce f3
  have k0 : [v0] = [Value.int .u8 a0] := e0
  have k1 : [v1] = [Value.int .u8 a1] := e1
  have k2 : [v2] = [Value.int .u8 a2] := e2
  have k3 : [v3] = [u] := e3
  simp only [List.cons.injEq, and_true] at k0 k1 k2 k3
  clear e0 e1 e2 e3
  subst k0 k1 k2 k3
  have r0 := wf_u8 w0
  have r1 := wf_u8 w1
  have r2 := wf_u8 w2
  have c0 : ((a0.toNat : Nat) : Int) = a0 := by omega
  have c1 : ((a1.toNat : Nat) : Int) = a1 := by omega
  have c2 : ((a2.toNat : Nat) : Int) = a2 := by omega
  refine ⟨⟨a0.toNat, a1.toNat, a2.toNat, qs.map toN, by omega, by omega, by omega, fun p hp => ?_⟩, v3, ?_, ?_, by simpa using hql⟩
  · obtain ⟨q, hq', rfl⟩ := List.mem_map.1 hp
    have h1 := wf_u8 (hq q hq').1
    have h2 := wf_u8 (hq q hq').2
    exact ⟨by simp only [toN]; omega, by simp only [toN]; omega⟩
  · simp only [c0, c1, c2]
  · refine hS.conv (by simp) ?_
    have : ∀ l : List (Int × Int), (∀ p ∈ l, (Lit.int .u8 p.1).wf = true ∧ (Lit.int .u8 p.2).wf = true) → (l.map toN).flatMap bE = l.flatMap (kE .u8) := fun l hl => by
      induction l with
      | nil => rfl
      | cons p l ih =>
        rw [List.map_cons, List.flatMap_cons, List.flatMap_cons, ih fun q hq => hl q (List.mem_cons_of_mem _ hq)]
        congr 1
        have h1 := wf_u8 (hl p List.mem_cons_self).1
        have h2 := wf_u8 (hl p List.mem_cons_self).2
        simp only [bE, kE, toN, Int.toNat_of_nonneg h1.1, Int.toNat_of_nonneg h2.1]
    exact this qs hq
end
end Go.Mg

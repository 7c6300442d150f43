/- matching: what the functions answer on the small graphs of the laws; the examples. -/
import Derived.Test.YtihlnbepcimnfaaDoorMgM14
namespace Go.Mg
open Go Go.RowKit
set_option linter.unusedSimpArgs false
set_option linter.unusedVariables false
set_option maxRecDepth 100000

theorem gl_bt (X : List UInt64) (i j : Nat) : Eg (gl (X.map bt)) i j ↔ Eb X i j := by
  unfold Eg Eb bx
  by_cases h : i < X.length
  · have e : (gl (X.map bt)).getD i [] = mems (bt (X.getD i 0)) := by
      unfold gl; rw [getD_mems _ _ (by simpa using h)]
      congr 1
      rw [List.getD_eq_getElem?_getD, List.getD_eq_getElem?_getD, List.getElem?_map, List.getElem?_eq_getElem h]; rfl
    rw [e, mem_mems]
    exact ⟨fun h => h.2, fun h => ⟨by have := bt_lt h; omega, h⟩⟩
  · have e : (gl (X.map bt)).getD i [] = [] := by
      rw [List.getD_eq_getElem?_getD, List.getElem?_eq_none (by rw [gl_len]; simpa using h)]; rfl
    have e2 : X.getD i 0 = 0 := by rw [List.getD_eq_getElem?_getD, List.getElem?_eq_none (by omega)]; rfl
    rw [e, e2, bt_zero]
    exact ⟨fun h => (by cases h), fun h => (by cases h)⟩
theorem Eg_bt (X : List UInt64) : Eg (gl (X.map bt)) = Eb X := by
  funext i j; exact propext (gl_bt X i j)
theorem chk_bt (X : List UInt64) (h : X.length ≤ 256) : chkF (X.map bt) = 0 := by
  unfold chkF
  rw [if_neg (by simpa using h), if_neg]
  intro hw
  obtain ⟨p, hp, n, _, h1, h2⟩ := wide_iff.1 hw
  obtain ⟨x, _, rfl⟩ := List.mem_map.1 hp
  have := bt_lt h1
  omega
theorem list_of_gi {L : List Int} {n : Nat} (h : L.length = n) : (List.range n).map (gi L) = L := by
  refine List.ext_getElem (by simp [h]) fun i h1 h2 => ?_
  rw [List.getElem_map, List.getElem_range]
  unfold gi; rw [List.getD_eq_getElem?_getD, List.getElem?_eq_getElem h2]; rfl
theorem of_mx {X : List UInt64} {L : List Int} (hl : L.length = X.length) (h : Mx X.length 256 (Eb X) (gi L)) : InF X 0 L ∧ mtc L = szF (allF X 0) := by
  have h1 := InF.of_mt h.1
  rw [list_of_gi hl] at h1
  exact ⟨h1, by rw [allF_size (by omega) h, mtc_cn, hl]⟩
theorem defL_eq {X : List UInt64} {D : List Nat} (h : DefOf (X.map bt) D) : inD D X.length = defL (allF X 0) X.length ∧ outD D X.length = (List.range X.length).filter fun i => !defB (allF X 0) i := by
  obtain ⟨L, hX, hl, hD⟩ := h
  rw [List.length_map, Eg_bt] at hX hD
  have key : ∀ i < X.length, decide (i ∈ D) = defB (allF X 0) i := by
    intro i hi
    have h1 := hD.iff hX hi
    have h2 := allF_def (g := X) (N := 256) (by omega) hX hi
    cases hb : defB (allF X 0) i with
    | true => exact decide_eq_true (h1.2 (h2.1 hb))
    | false => exact decide_eq_false fun h => by rw [h2.2 (h1.1 h)] at hb; cases hb
  refine ⟨List.filter_congr fun i hi => key i (by simpa using hi), List.filter_congr fun i hi => by rw [key i (by simpa using hi)]⟩
theorem def_pos {X : List UInt64} {D : List Nat} (h : DefOf (X.map bt) D) : decide (((inD D X.length).length : Int) > 0) = decide (szF (allF X 0) < X.length) := by
  obtain ⟨L, hX, hl, hD⟩ := h
  rw [List.length_map, Eg_bt] at hX hD
  rw [List.length_map] at hl
  refine decide_eq_decide.2 ⟨fun h => ?_, fun h => ?_⟩
  · rw [allF_size (g := X) (N := 256) (by omega) hX]
    obtain ⟨i, hi⟩ := List.exists_mem_of_length_pos (show 0 < (inD D X.length).length by omega)
    unfold inD at hi
    rw [List.mem_filter] at hi
    have hin : i < X.length := by simpa using hi.1
    obtain ⟨L', hL', h0⟩ := (hD.iff hX hin).1 (by simpa using hi.2)
    have e : cn X.length (mt L') = cn X.length (mt (gi L)) := Nat.le_antisymm (hX.max hL'.1) (hL'.max hX.1)
    rw [← e]
    apply Decidable.byContradiction
    intro hn
    have := cn_le X.length (mt L')
    have := cn_full (n := X.length) (p := mt L') (by omega) i hin
    unfold mt at this
    rw [h0] at this; cases this
  · rw [allF_size (g := X) (N := 256) (by omega) hX] at h
    apply Decidable.byContradiction
    intro hn
    have h0 : inD D X.length = [] := List.eq_nil_of_length_eq_zero (by omega)
    have hall : ∀ i < X.length, mt (gi L) i = true := by
      intro i hi
      have hnd : i ∉ D := fun h => by
        have : i ∈ inD D X.length := by unfold inD; rw [List.mem_filter]; exact ⟨by simpa using hi, by simpa using h⟩
        rw [h0] at this; cases this
      have : ¬ gi L i = -1 := fun h => hnd ((hD.iff hX hi).2 ⟨gi L, hX, h⟩)
      rcases hX.1.ed i hi with h1 | ⟨j, _, h1, _⟩
      · exact absurd h1 this
      · unfold mt; exact decide_eq_true (by omega)
    have := cn_congr (n := X.length) (p := mt (gi L)) (q := fun _ => true) hall
    rw [cn_true] at this
    omega
def MaxX (X : List UInt64) (H : Hp) (r : Value) (H' : Hp) : Prop := ∃ v L, r = .tuple #[v, .int .i64 0] ∧ SlR H' v (iL L) ∧ InF X 0 L ∧ mtc L = szF (allF X 0) ∧ Keep (fun _ => False) H H'
theorem MMaxPost.toX {X : List UInt64} {H H' : Hp} {r : Value} (hX : X.length ≤ 256) (h : MMaxPost (X.map bt) H r H') : MaxX X H r H' := by
  obtain ⟨⟨h0, _⟩ | ⟨bl, L, R, h0, rfl, hB, hbl, hM⟩, K⟩ := h
  · exact absurd (chk_bt X hX) h0
  · rw [List.length_map] at *
    rw [Eg_bt] at hM
    obtain ⟨h1, h2⟩ := of_mx hM.lL hM.mx
    refine ⟨_, L, rfl, ?_, h1, h2, K⟩
    have := SlR.bl hB 0 X.length X.length (by omega) (by rw [iL_len, hM.lL]; omega)
    rwa [List.drop_zero, List.take_of_length_le (by rw [iL_len, hM.lL]; omega)] at this
theorem MSizePost.toX {X : List UInt64} {H H' : Hp} {r : Value} (hX : X.length ≤ 256) (h : MSizePost (X.map bt) H r H') : r = .tuple #[.int .i64 (szF (allF X 0) : Int), .int .i64 0] ∧ Keep (fun _ => False) H H' := by
  obtain ⟨⟨h0, _⟩ | ⟨L, h0, rfl, hM⟩, K⟩ := h
  · exact absurd (chk_bt X hX) h0
  · rw [List.length_map] at *
    rw [Eg_bt] at hM
    exact ⟨by rw [allF_size (by omega) hM], K⟩
theorem MDefPost.toX {X : List UInt64} {H H' : Hp} {r : Value} (hX : X.length ≤ 256) (h : MDefPost (X.map bt) H r H') : ∃ v, r = .tuple #[v, .bool (decide (szF (allF X 0) < X.length))] ∧ SlR H' v (iL (nI (defL (allF X 0) X.length))) ∧ Keep (fun _ => False) H H' := by
  obtain ⟨⟨h0, _⟩ | ⟨v, D, h0, hD, rfl, hO, ho⟩, K⟩ := h
  · exact absurd (chk_bt X hX) h0
  · rw [List.length_map] at *
    exact ⟨v, by rw [def_pos hD], by rw [← (defL_eq hD).1]; exact hO.sl, K⟩
theorem MCovPost.toX {X : List UInt64} {H H' : Hp} {r : Value} (hX : X.length ≤ 256) (h : MCovPost (X.map bt) H r H') : ∃ v w, r = .tuple #[v, w] ∧ SlR H' v (iL (nI ((List.range X.length).filter fun i => !defB (allF X 0) i))) ∧ SlR H' w (memL (nbP (X.map bt) (defL (allF X 0) X.length))) ∧ Keep (fun _ => False) H H' := by
  obtain ⟨⟨h0, _⟩ | ⟨v, w, D, h0, hD, rfl, hO, ho⟩, K⟩ := h
  · exact absurd (chk_bt X hX) h0
  · rw [List.length_map] at *
    exact ⟨v, w, rfl, by rw [← (defL_eq hD).2]; exact hO.sl, by rw [← (defL_eq hD).1]; exact ho.sl, K⟩
theorem MLeastPost.toX {X : List UInt64} {H H' : Hp} {r : Value} (hX : X.length ≤ 256) (h : MLeastPost (X.map bt) H r H') : ((leastF (allF X 0) X.length = none ∧ r = .tuple #[.slice none 0 0, .bool false]) ∨ ∃ v m, leastF (allF X 0) X.length = some m ∧ r = .tuple #[v, .bool true] ∧ SlR H' v (iL m)) ∧ Keep (fun _ => False) H H' := by
  obtain ⟨⟨h0 | ⟨L, hM, i, hi, h1⟩, rfl⟩ | ⟨v, L, h0, hP, hL, hl, rfl, hs, hn⟩, K⟩ := h
  · exact absurd (chk_bt X hX) h0
  · rw [List.length_map] at *
    rw [Eg_bt] at hM
    refine ⟨.inl ⟨?_, rfl⟩, K⟩
    cases hf : leastF (allF X 0) X.length with
    | none => rfl
    | some m =>
      obtain ⟨e1, e2, e3⟩ := leastF_some (N := 256) (by omega) hf
      have h2 := hM.max e2.m
      have h3 : cn X.length (mt (gi m)) = X.length := by
        rw [cn_congr (q := fun _ => true) (fun a ha => by unfold mt; exact decide_eq_true (e2.all a ha)), cn_true]
      have h4 := cn_le X.length (mt (gi L))
      have := cn_full (n := X.length) (p := mt (gi L)) (by omega) i hi
      unfold mt at this
      rw [h1] at this; cases this
  · rw [List.length_map] at *
    rw [Eg_bt] at hP hL
    refine ⟨.inr ?_, K⟩
    cases hf : leastF (allF X 0) X.length with
    | none => exact (leastF_none hf hP).elim
    | some m =>
      obtain ⟨e1, e2, e3⟩ := leastF_some (N := 256) (by omega) hf
      have e : m = L := by
        have := LeastTo.uniq e3 hL e2 hP
        rw [← list_of_gi e1, ← list_of_gi hl]
        exact List.map_congr_left fun i hi => this i (by simpa using hi)
      exact ⟨v, m, rfl, rfl, by rw [e]; exact hs⟩
end Go.Mg

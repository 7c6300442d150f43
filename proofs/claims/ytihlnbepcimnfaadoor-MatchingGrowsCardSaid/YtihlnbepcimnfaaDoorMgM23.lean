/- matching: the law about one edge more. -/
import Derived.Test.YtihlnbepcimnfaaDoorMgM22
namespace Go.Mg
open Go Go.RowKit
set_option linter.unusedSimpArgs false
set_option linter.unusedVariables false
set_option maxRecDepth 100000
theorem wrL_set (l C : List Value) (i : Nat) (u : Value) (hi : i < l.length) : (wrL (l ++ C) i [u]).take l.length = l.set i u := by
  unfold wrL
  have h1 : (l ++ C).take i = l.take i := List.take_append_of_le_length (by omega)
  have h2 : (l ++ C).drop (i + [u].length) = l.drop (i + 1) ++ C := List.drop_append_of_le_length (by simp; omega)
  have h3 : l.set i u = l.take i ++ u :: l.drop (i + 1) := by rw [List.set_eq_take_append_cons_drop, if_pos hi]
  rw [h1, h2, h3]
  have : l.take i ++ [u] ++ (l.drop (i + 1) ++ C) = (l.take i ++ u :: l.drop (i + 1)) ++ C := by simp
  rw [this, List.take_append_of_le_length (by simp; omega), List.take_of_length_le (by simp; omega)]
theorem lgrow_ok {P : Program} {ι : Ids} {k : FuncId} (hk : FnIs P k (c_lgrow ι) r_lgrow 3) (h : MWide P ι) (ws : List (List UInt8)) (a t : UInt8) (v : Value) (H : Hp) (hT : TabOk ι H) (hv : WdR 3 H v ws) :
    CallsM P k #[v, .int .u8 a.toNat, .int .u8 t.toNat] H fun r H' => r = .bool true ∧ Keep (fun _ => False) H H' := by
  obtain ⟨R, hR⟩ : ∃ R : Value → Hp → Prop, R = fun r H' => r = .bool true ∧ Keep (fun _ => False) H H' := ⟨_, rfl⟩
  rw [← hR]
  refine calls_of_vc hk (args := [_, _, _]) (by simp) ?_
  unfold c_lgrow r_lgrow
  have hlow := wideP_low ws
  have hl40 := wideP_len ws
  simp only [go_sem, List.map_cons, List.map_nil, ↓reduceIte, Nat.reduceEqDiff, Nat.reduceAdd, Nat.reduceMul, reduceCtorEq, and_true, true_and, Nat.mul_one, Nat.zero_add, Bool.false_eq_true, decide_true, decide_false, not_false_eq_true, kont_eq]
  refine (h.aw H hT).mono ?_
  rintro r H1 ⟨rfl, K1⟩
  simp only [go_sem, List.map_cons, List.map_nil, ↓reduceIte, Nat.reduceEqDiff, Nat.reduceAdd, Nat.reduceMul, reduceCtorEq, and_true, true_and, Nat.mul_one, Nat.zero_add, Bool.false_eq_true, decide_true, decide_false, not_false_eq_true, kont_eq]
  refine (h.wm ws v H1 (hv.keep0 K1)).mono ?_
  rintro g H2 ⟨gvs, G2, K2⟩
  generalize wideP ws = ps at *
  have h0 := hlow.chk
  have hT2 := (hT.keep K1).keep K2
  have hgl := G2.ow.sl.len
  rw [G2.len] at hgl
  have hgs := G2.ow.sl.isSl
  have K02 := K1.trans K2
  by_cases hn0 : ps.length = 0
  · have e0 : ((((0 : Nat) : Int)) == 0) = true := rfl
    rw [kont_eq]
    simp only [go_sem, List.map_cons, List.map_nil, ↓reduceIte, Nat.reduceEqDiff, Nat.reduceAdd, Nat.reduceMul, reduceCtorEq, and_true, true_and, Nat.mul_one, Nat.zero_add, Bool.false_eq_true, decide_true, decide_false, not_false_eq_true, kont_eq, hgs, hgl, hn0, e0]
    rw [hR]
    exact ⟨rfl, K02⟩
  · have e0 : ((ps.length : Int) == 0) = false := by rw [beq_eq_false_iff_ne]; omega
    have w0 : ∀ y : UInt8, IntKind.i64.wrap (y.toNat : Int) = (y.toNat : Int) := fun y => IntWalk.i64_in _ (by have := y.toNat_lt; omega)
    have et : Int.tmod (a.toNat : Int) (ps.length : Int) = ((a.toNat % ps.length : Nat) : Int) := rfl
    have hi : a.toNat % ps.length < ps.length := Nat.mod_lt _ (by omega)
    have hne : gvs ≠ [] := fun e => hn0 (by have := G2.len; rw [e, List.length_nil] at this; omega)
    have hone : all1 gvs.toArray := by
      intro y hy
      obtain ⟨q, hq, e⟩ := List.getElem_of_mem (by simpa using hy : y ∈ gvs)
      have := G2.at_ q (by have := G2.len; omega)
      rw [List.getD_eq_getElem?_getD, List.getElem?_eq_getElem hq] at this
      obtain ⟨_, _, e2, h2⟩ := this
      cases e2
      have := h2.sl.one
      rw [← e]
      exact this _ (by simp)
    rw [kont_eq]
    simp only [go_sem, List.map_cons, List.map_nil, ↓reduceIte, Nat.reduceEqDiff, Nat.reduceAdd, Nat.reduceMul, reduceCtorEq, and_true, true_and, Nat.mul_one, Nat.zero_add, Bool.false_eq_true, decide_true, decide_false, not_false_eq_true, hgs, hgl, e0, w0, et]
    generalize a.toNat % ps.length = i at hi ⊢
    refine ⟨by omega, ?_⟩
    refine (h.gc gvs g H2 G2.ow.sl hne hone (by have := G2.len; omega)).mono ?_
    rintro hv3 H3 ⟨O3, o3, K3⟩
    obtain ⟨hb, hc, hC, rfl, hhc, hB⟩ := O3.room hne
    have hbn : H2.size ≤ hb := o3 hb rfl
    have hgi := (G2.at_ i hi).keep0 K3
    have hcell : ldNA H3 ⟨hb, i, none⟩ 1 = some #[gvs.getD i undef] := by
      have hil : i < gvs.length := by rw [G2.len]; exact hi
      rw [hB.ldNA (by rw [List.length_append]; omega), List.drop_append_of_le_length (by omega), List.drop_eq_getElem_cons hil, List.getD_eq_getElem?_getD, List.getElem?_eq_getElem hil]
      rfl
    have hub0 := fun k => G2.o2 i k hi
    rw [kont_eq]
    simp only [go_sem, List.map_cons, List.map_nil, ↓reduceIte, Nat.reduceEqDiff, Nat.reduceAdd, Nat.reduceMul, reduceCtorEq, and_true, true_and, Nat.mul_one, Nat.zero_add, Bool.false_eq_true, decide_true, decide_false, not_false_eq_true, G2.len, tn_cast, Nat.mul_one, Nat.zero_add, hcell, ldNO_ptr, w0]
    refine ⟨by omega, ?_⟩
    refine (h.bw _ _ (t.toNat : Int) H3 hgi).mono ?_
    rintro r H4 ⟨S4, K4, n4⟩
    obtain ⟨u4, W4, rfl, hu4⟩ := id S4
    have s1 := K02.size
    have s3 := K3.size
    have s4 := K4.size
    have B4 := K4.bl hB (by simp)
    have hbl := hB.lt
    have hokN := B4.okNA (o := i) (n := 1) (by rw [List.length_append, G2.len]; omega)
    have B5 := B4.stNA i [u4]
    have K5 : Keep (fun k => k = hb) H4 (stNA H4 ⟨hb, i, none⟩ [u4]) := (Keep.refl _ _).stNA _ (.inl rfl)
    have hone4 : all1 #[u4] := hu4.sl.one
    have K25 : Keep (fun k => k = hb) H2 (stNA H4 ⟨hb, i, none⟩ [u4]) := (K3.trans K4).any.trans K5
    have K05 : Keep (fun _ => False) H (stNA H4 ⟨hb, i, none⟩ [u4]) := ((K02.trans K3).trans K4).to_old K5 (by omega)
    have K25' : Keep (fun _ => False) H2 (stNA H4 ⟨hb, i, none⟩ [u4]) := (K3.trans K4).to_old K5 (by omega)
    have hu4n : ∀ k, slB u4 k → H1.size ≤ k ∧ k ≠ hb := fun k hk => by
      rcases n4 k hk with h' | h'
      · have := (hub0 k h').1
        have := (G2.at_ i hi).old (k := k) h'
        omega
      · have := K1.size
        have := K2.size
        omega
    have S5 := S4.keep K5 (fun k hk e => (hu4n k hk).2 e)
    rw [kont_eq]
    simp only [go_sem, List.map_cons, List.map_nil, ↓reduceIte, Nat.reduceEqDiff, Nat.reduceAdd, Nat.reduceMul, reduceCtorEq, and_true, true_and, Nat.mul_one, Nat.zero_add, Bool.false_eq_true, decide_true, decide_false, not_false_eq_true, G2.len, tn_cast, Nat.mul_one, Nat.zero_add, hokN, hone4]
    refine ⟨by omega, ?_⟩
    have GM5 := G2.toM.keep0 K25'
    have GH5 : GrM (stNA H4 ⟨hb, i, none⟩ [u4]) (.slice (some ⟨hb, 0, none⟩) ps.length hc) (ps.set i (withP (ps.getD i fun _ => false) (t.toNat : Int))) (fun k => H1.size ≤ k) := by
      have hset : (wrL (gvs ++ hC) i [u4]).take gvs.length = gvs.set i u4 := wrL_set _ _ _ _ (by rw [G2.len]; exact hi)
      have hlenw : (wrL (gvs ++ hC) i [u4]).length = (gvs ++ hC).length := wrL_len (by rw [List.length_append, G2.len, List.length_singleton]; omega)
      refine ⟨gvs.set i u4, ?_, by rw [List.length_set, List.length_set, G2.len], fun j hj => ?_, fun k hk => by have hk : k = hb := hk.1; have := K2.size; omega, fun j k hj hk => ?_⟩
      · have := SlR.bl B5 0 ps.length hc (by rw [← G2.len]; exact hhc) (by rw [hlenw, List.length_append, G2.len]; omega)
        rw [List.drop_zero, ← G2.len, hset] at this
        rwa [G2.len] at this
      · rw [List.length_set] at hj
        by_cases e : j = i
        · subst e
          have e1 : (gvs.set j u4).getD j undef = u4 := by rw [List.getD_eq_getElem?_getD, List.getElem?_set]; simp [G2.len, hi]
          have e2 : (ps.set j (withP (ps.getD j fun _ => false) (t.toNat : Int))).getD j (fun _ => false) = withP (ps.getD j fun _ => false) (t.toNat : Int) := by rw [List.getD_eq_getElem?_getD, List.getElem?_set]; simp [hi]
          rw [e1, e2]; exact S5
        · have e1 : (gvs.set i u4).getD j undef = gvs.getD j undef := by rw [List.getD_eq_getElem?_getD, List.getElem?_set, if_neg (fun h => e h.symm), ← List.getD_eq_getElem?_getD]
          have e2 : (ps.set i (withP (ps.getD i fun _ => false) (t.toNat : Int))).getD j (fun _ => false) = ps.getD j fun _ => false := by rw [List.getD_eq_getElem?_getD, List.getElem?_set, if_neg (fun h => e h.symm), ← List.getD_eq_getElem?_getD]
          rw [e1, e2]
          exact (G2.at_ j hj).keep0 K25'
      · rw [List.length_set] at hj
        by_cases e : j = i
        · subst e
          have e1 : (gvs.set j u4).getD j undef = u4 := by rw [List.getD_eq_getElem?_getD, List.getElem?_set]; simp [G2.len, hi]
          rw [e1] at hk
          exact (hu4n k hk).1
        · have e1 : (gvs.set i u4).getD j undef = gvs.getD j undef := by rw [List.getD_eq_getElem?_getD, List.getElem?_set, if_neg (fun h => e h.symm), ← List.getD_eq_getElem?_getD]
          rw [e1] at hk
          exact (G2.o2 j k hj hk).1
    have hT5 := hT.keep K05
    refine ⟨hokN, ?_⟩
    have hgm : stNH H4 (.pointer (some ⟨hb, i, none⟩)) [u4] = stNA H4 ⟨hb, i, none⟩ [u4] := rfl
    rw [hgm]
    generalize stNA H4 ⟨hb, i, none⟩ [u4] = H5 at K05 GM5 GH5 hT5 ⊢
    have ht256 : t.toNat < 256 := t.toNat_lt
    rw [kont_eq]
    simp only [go_sem, List.map_cons, List.map_nil, ↓reduceIte, Nat.reduceEqDiff, Nat.reduceAdd, Nat.reduceMul, reduceCtorEq, and_true, true_and, Nat.mul_one, Nat.zero_add, Bool.false_eq_true, decide_true, decide_false, not_false_eq_true]
    refine (h.sz ps g _ H5 hT5 GM5 (by omega)).mono ?_
    intro r H6 hp
    obtain ⟨⟨n, rfl, hsz⟩, K6⟩ := hp.gen
    obtain ⟨L, hszL, hMx⟩ : ∃ L, n = cn ps.length (mt (gi L)) ∧ Mx ps.length 256 (Eg (gl ps)) (gi L) := by
      rcases hsz with ⟨h', _⟩ | ⟨_, h'⟩
      · exact absurd h0 h'
      · exact h'
    have h0' : chkF (ps.set i (withP (ps.getD i fun _ => false) (t.toNat : Int))) = 0 := by
      refine Low.chk ⟨by rw [List.length_set]; exact hlow.1, fun p hp n hn => ?_⟩
      rcases List.mem_or_eq_of_mem_set hp with h' | h'
      · exact hlow.2 p h' n hn
      · subst h'
        unfold withP at hn
        simp only [Bool.or_eq_true, Bool.and_eq_true, decide_eq_true_eq] at hn
        rcases hn with h' | h'
        · exact (hlow.at_ i n h').1
        · omega
    rw [h0, kont_eq]
    simp only [go_sem, List.map_cons, List.map_nil, ↓reduceIte, Nat.reduceEqDiff, Nat.reduceAdd, Nat.reduceMul, reduceCtorEq, and_true, true_and, Nat.mul_one, Nat.zero_add, Bool.false_eq_true, decide_true, decide_false, not_false_eq_true]
    refine (h.sz _ _ _ H6 (hT5.keep K6) (GH5.keep0 K6) (by rw [List.length_set]; omega)).mono ?_
    intro r H7 hp
    obtain ⟨⟨m, rfl, hsz2⟩, K7⟩ := hp.gen
    obtain ⟨L', hszL2, hMx2⟩ : ∃ L, m = cn ps.length (mt (gi L)) ∧ Mx ps.length 256 (Eg (gl (ps.set i (withP (ps.getD i fun _ => false) (t.toNat : Int))))) (gi L) := by
      rcases hsz2 with ⟨h', _⟩ | ⟨_, h'⟩
      · exact absurd h0' h'
      · rwa [List.length_set] at h'
    have K57 := K6.trans K7
    rw [h0', kont_eq]
    simp only [go_sem, List.map_cons, List.map_nil, ↓reduceIte, Nat.reduceEqDiff, Nat.reduceAdd, Nat.reduceMul, reduceCtorEq, and_true, true_and, Nat.mul_one, Nat.zero_add, Bool.false_eq_true, decide_true, decide_false, not_false_eq_true]
    refine (h.df ps g _ H7 (hT5.keep K57) (GM5.keep0 K57) (by omega)).mono ?_
    rintro r H8 ⟨⟨h', _⟩ | ⟨dv, D, _, hD, rfl, hdO, hdo⟩, K8⟩
    · exact absurd h0 h'
    have K58 := K57.trans K8
    rw [kont_eq]
    simp only [go_sem, List.map_cons, List.map_nil, ↓reduceIte, Nat.reduceEqDiff, Nat.reduceAdd, Nat.reduceMul, reduceCtorEq, and_true, true_and, Nat.mul_one, Nat.zero_add, Bool.false_eq_true, decide_true, decide_false, not_false_eq_true]
    refine (h.cv ps g _ H8 (hT5.keep K58) (GM5.keep0 K58) (by omega)).mono ?_
    rintro r H9 ⟨⟨h', _⟩ | ⟨lv, rv, D', _, hD', rfl, OL, OR⟩, K9⟩
    · exact absurd h0 h'
    rw [← hD.uniq hD', memL_nI] at OR
    obtain ⟨g1, g2, g3⟩ := grow hlow hi ht256 hD hMx hMx2
    rw [← hszL, ← hszL2] at g1 g2 g3
    have hdS := hdO.sl.keep K9 (by simp)
    have hcl := cn_le ps.length (mt (gi L))
    have d0 : ((0 : Int) != 0) = false := rfl
    have d1 : decide ((m : Int) < (n : Int)) = false := decide_eq_false (by omega)
    have wn : IntKind.i64.wrap ((n : Int) + 1) = (n : Int) + 1 := IntWalk.i64_in _ ⟨by omega, by omega⟩
    have d2 : decide ((m : Int) > (n : Int) + 1) = false := decide_eq_false (by omega)
    by_cases hmn : m = n
    · have e3 : ((m : Int) == (n : Int)) = true := by rw [beq_iff_eq]; omega
      rw [kont_eq]
      simp only [go_sem, List.map_cons, List.map_nil, ↓reduceIte, Nat.reduceEqDiff, Nat.reduceAdd, Nat.reduceMul, reduceCtorEq, and_true, true_and, Nat.mul_one, Nat.zero_add, Bool.false_eq_true, decide_true, decide_false, not_false_eq_true, kont_eq, d0, d1, wn, d2, e3]
      rw [hR]
      exact ⟨rfl, (K05.trans K58).trans K9⟩
    · have e3 : ((m : Int) == (n : Int)) = false := by rw [beq_eq_false_iff_ne]; omega
      obtain ⟨g4, g5⟩ := g3 hmn
      have hdle := inD_le D ps.length
      rw [kont_eq]
      simp only [go_sem, List.map_cons, List.map_nil, ↓reduceIte, Nat.reduceEqDiff, Nat.reduceAdd, Nat.reduceMul, reduceCtorEq, and_true, true_and, Nat.mul_one, Nat.zero_add, Bool.false_eq_true, decide_true, decide_false, not_false_eq_true, d0, d1, wn, d2, e3]
      refine (h.co (nI (inD D ps.length)) _ (i : Int) H9 hdS (by rw [nI_len]; omega)).mono ?_
      rintro r Ha ⟨⟨b1, rfl, hb1⟩, rfl⟩
      have hb1 : b1 = true := hb1.2 (mem_nI.2 g4)
      subst hb1
      have hml : (mems (nbP ps (inD D ps.length))).length ≤ 4096 := by rw [mems_length]; exact cn_le _ _
      rw [kont_eq]
      simp only [go_sem, List.map_cons, List.map_nil, ↓reduceIte, Nat.reduceEqDiff, Nat.reduceAdd, Nat.reduceMul, reduceCtorEq, and_true, true_and, Nat.mul_one, Nat.zero_add, Bool.false_eq_true, decide_true, decide_false, not_false_eq_true, w0]
      refine (h.co (nI (mems (nbP ps (inD D ps.length)))) _ (t.toNat : Int) Ha OR.sl (by rw [nI_len]; omega)).mono ?_
      rintro r Hb ⟨⟨b2, rfl, hb2⟩, rfl⟩
      have hb2 : b2 = false := by
        cases b2 with
        | false => rfl
        | true =>
          have := (mem_mems.1 (mem_nI.1 (hb2.1 rfl))).2
          rw [g5] at this; cases this
      subst hb2
      rw [kont_eq]
      simp only [go_sem, List.map_cons, List.map_nil, ↓reduceIte, Nat.reduceEqDiff, Nat.reduceAdd, Nat.reduceMul, reduceCtorEq, and_true, true_and, Nat.mul_one, Nat.zero_add, Bool.false_eq_true, decide_true, decide_false, not_false_eq_true, kont_eq]
      rw [hR]
      exact ⟨rfl, (K05.trans K58).trans K9⟩
end Go.Mg

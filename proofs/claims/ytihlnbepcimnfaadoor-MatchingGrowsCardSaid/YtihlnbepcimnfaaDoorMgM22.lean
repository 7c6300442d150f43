/- matching: the law about covers. -/
import Derived.Test.YtihlnbepcimnfaaDoorMgM21
namespace Go.Mg
open Go Go.RowKit
set_option linter.unusedSimpArgs false
set_option linter.unusedVariables false
set_option maxRecDepth 100000
theorem ofP_mems (p : Nat → Bool) (n : Nat) : ofP (nI (mems p)) n = (p n && decide (n < 4096)) := by
  unfold ofP
  by_cases hn : n < 4096
  · by_cases hp : p n = true
    · have : (n : Int) ∈ nI (mems p) := mem_nI.2 (mem_mems.2 ⟨hn, hp⟩)
      simp [this, hn, hp]
    · have : ¬ (n : Int) ∈ nI (mems p) := fun h => hp (mem_mems.1 (mem_nI.1 h)).2
      simp [this, hn, hp]
  · simp [hn]
theorem lcov_ok {P : Program} {ι : Ids} {k : FuncId} (hk : FnIs P k (c_lcov ι) r_lcov 1) (h : MWide P ι) (ws : List (List UInt8)) (v : Value) (H : Hp) (hT : TabOk ι H) (hv : WdR 3 H v ws) :
    CallsM P k #[v] H fun r H' => r = .bool true ∧ Keep (fun _ => False) H H' := by
  obtain ⟨R, hR⟩ : ∃ R : Value → Hp → Prop, R = fun r H' => r = .bool true ∧ Keep (fun _ => False) H H' := ⟨_, rfl⟩
  rw [← hR]
  refine calls_of_vc hk (args := [_]) (by simp) ?_
  unfold c_lcov r_lcov
  have hlow := wideP_low ws
  have hl40 := wideP_len ws
  simp only [go_sem, List.map_cons, List.map_nil, ↓reduceIte, Nat.reduceEqDiff, Nat.reduceAdd, Nat.reduceMul, reduceCtorEq, and_true, true_and, Nat.mul_one, Nat.zero_add, Bool.false_eq_true, decide_true, decide_false, not_false_eq_true, kont_eq]
  refine (h.aw H hT).mono ?_
  rintro r H1 ⟨rfl, K1⟩
  simp only [go_sem, List.map_cons, List.map_nil, ↓reduceIte, Nat.reduceEqDiff, Nat.reduceAdd, Nat.reduceMul, reduceCtorEq, and_true, true_and, Nat.mul_one, Nat.zero_add, Bool.false_eq_true, decide_true, decide_false, not_false_eq_true, kont_eq]
  refine (h.wm ws v H1 (hv.keep0 K1)).mono ?_
  rintro g H2 ⟨gvs, G2, K2⟩
  generalize wideP ws = ps at *
  have h0 := hlow.chk
  have hT2 := (hT.keep K1).keep K2
  simp only [go_sem, List.map_cons, List.map_nil, ↓reduceIte, Nat.reduceEqDiff, Nat.reduceAdd, Nat.reduceMul, reduceCtorEq, and_true, true_and, Nat.mul_one, Nat.zero_add, Bool.false_eq_true, decide_true, decide_false, not_false_eq_true, kont_eq]
  refine (h.sz ps g _ H2 hT2 G2.toM (by omega)).mono ?_
  intro r H3 hp
  obtain ⟨⟨sz, rfl, hsz⟩, K3⟩ := hp.gen
  obtain ⟨L, hszL, hMx⟩ : ∃ L, sz = cn ps.length (mt (gi L)) ∧ Mx ps.length 256 (Eg (gl ps)) (gi L) := by
    rcases hsz with ⟨h', _⟩ | ⟨_, h'⟩
    · exact absurd h0 h'
    · exact h'
  have hT3 := hT2.keep K3
  have GM3 := G2.toM.keep0 K3
  have hgl := G2.ow.sl.len
  rw [G2.len] at hgl
  have hgs := G2.ow.sl.isSl
  rw [h0, kont_eq]
  simp only [go_sem, List.map_cons, List.map_nil, ↓reduceIte, Nat.reduceEqDiff, Nat.reduceAdd, Nat.reduceMul, reduceCtorEq, and_true, true_and, Nat.mul_one, Nat.zero_add, Bool.false_eq_true, decide_true, decide_false, not_false_eq_true]
  refine (h.cv ps g _ H3 hT3 GM3 (by omega)).mono ?_
  rintro r H4 ⟨⟨h', _⟩ | ⟨lv, rv, D, _, hD, rfl, OL, OR⟩, K4⟩
  · exact absurd h0 h'
  obtain ⟨hsm, hcov⟩ := hD.small hlow hMx
  have hio := in_out D ps.length
  generalize hnbe : nbP ps (inD D ps.length) = nb at *
  have hcl := cn_le ps.length (mt (gi L))
  rw [memL_nI] at OR
  obtain ⟨la, ln, lc, rfl⟩ := OL.shape
  obtain ⟨ra, rn, rc, rfl⟩ := OR.shape
  have e1 := OL.sl.len
  have e2 := OR.sl.len
  rw [iL_len, nI_len] at e1 e2
  have e1 : ln = (outD D ps.length).length := e1
  have e2 : rn = (mems nb).length := e2
  subst e1 e2
  rw [kont_eq]
  simp only [go_sem, List.map_cons, List.map_nil, ↓reduceIte, Nat.reduceEqDiff, Nat.reduceAdd, Nat.reduceMul, reduceCtorEq, and_true, true_and, Nat.mul_one, Nat.zero_add, Bool.false_eq_true, decide_true, decide_false, not_false_eq_true]
  refine (h.of (nI (mems nb)) _ H4 OR.sl (by rw [nI_len]; omega)).mono ?_
  rintro r H5 ⟨S5, K5, n5⟩
  obtain ⟨u, W, rfl, hu⟩ := id S5
  have s5 := K5.size
  rw [kont_eq]
  simp only [go_sem, List.map_cons, List.map_nil, ↓reduceIte, Nat.reduceEqDiff, Nat.reduceAdd, Nat.reduceMul, reduceCtorEq, and_true, true_and, Nat.mul_one, Nat.zero_add, Bool.false_eq_true, decide_true, decide_false, not_false_eq_true, fillV_nil, fillV_cons, okFill_nil, okFill_cons, cells_slice, cells_int, cells_bool, cells_str, cells_ptr, cells_agg, stNH_ptr, okN_ptr, wrA1, wrA20, wrA21]
  refine kont_new fun H6 b6 e6 z6 B6 K6 => ?_
  have s6 := K6.size
  have hokN := B6.okNA (o := 0) (n := 1) (by simp)
  have B7 := B6.stNA 0 [u]
  have B7 : Bl (stNA H6 ⟨b6, 0, none⟩ [u]) b6 [u] := by simpa [wrL] using B7
  have K7 : Keep (fun k => k = b6) H6 (stNA H6 ⟨b6, 0, none⟩ [u]) := (Keep.refl _ _).stNA _ (.inl rfl)
  have hone : all1 #[u] := hu.sl.one
  have S7 := (S5.keep0 K6).keep K7 (fun k hk e => by have := S5.old hk; omega)
  have K37 : Keep (fun _ => False) H3 (stNA H6 ⟨b6, 0, none⟩ [u]) := ((K4.trans K5).trans K6).to_old K7 (by have := K4.size; omega)
  have K47 : Keep (fun _ => False) H4 (stNA H6 ⟨b6, 0, none⟩ [u]) := (K5.trans K6).to_old K7 (by omega)
  simp only [go_sem, List.map_cons, List.map_nil, ↓reduceIte, Nat.reduceEqDiff, Nat.reduceAdd, Nat.reduceMul, reduceCtorEq, and_true, true_and, Nat.mul_one, Nat.zero_add, Bool.false_eq_true, decide_true, decide_false, not_false_eq_true, fillV_nil, fillV_cons, okFill_nil, okFill_cons, cells_slice, cells_int, cells_bool, cells_str, cells_ptr, cells_agg, stNH_ptr, okN_ptr, wrA1, wrA20, wrA21, hokN, hone]
  generalize stNA H6 ⟨b6, 0, none⟩ [u] = H7 at B7 K7 S7 K37 K47 ⊢
  have d0 : ((0 : Int) != 0) = false := rfl
  have w1 : IntKind.i64.wrap (((outD D ps.length).length : Int) + ((mems nb).length : Int)) = ((outD D ps.length).length : Int) + ((mems nb).length : Int) := IntWalk.i64_in _ ⟨by omega, by omega⟩
  have d1 : (((outD D ps.length).length : Int) + ((mems nb).length : Int) != (sz : Int)) = false := by
    rw [bne_eq_false_iff_eq]; omega
  have SL7 := OL.sl.keep K47 (by simp)
  have SR7 := OR.sl.keep K47 (by simp)
  rw [kont_eq]
  simp only [go_sem, List.map_cons, List.map_nil, ↓reduceIte, Nat.reduceEqDiff, Nat.reduceAdd, Nat.reduceMul, reduceCtorEq, and_true, true_and, Nat.mul_one, Nat.zero_add, Bool.false_eq_true, decide_true, decide_false, not_false_eq_true, d0, w1, d1]
  refine (h.so (nI (outD D ps.length)) _ H7 SL7 (by rw [nI_len]; omega) (sorted_range _ _)).mono ?_
  rintro r H8 ⟨rfl, rfl⟩
  have hl8 := B7.ldNO 1 rfl
  rw [kont_eq]
  simp only [go_sem, List.map_cons, List.map_nil, ↓reduceIte, Nat.reduceEqDiff, Nat.reduceAdd, Nat.reduceMul, reduceCtorEq, and_true, true_and, Nat.mul_one, Nat.zero_add, Bool.false_eq_true, decide_true, decide_false, not_false_eq_true, hl8]
  refine (h.ls _ _ H8 (hT3.keep K37) S7).mono ?_
  rintro r H9 ⟨O9, o9, K9⟩
  have hme : mems (ofP (nI (mems nb))) = mems nb := mems_congr fun n hn => by rw [ofP_mems]; simp [hn]
  rw [memL_nI, hme] at O9
  have SR9 := SR7.keep K9 (by simp)
  rw [kont_eq]
  simp only [go_sem, List.map_cons, List.map_nil, ↓reduceIte, Nat.reduceEqDiff, Nat.reduceAdd, Nat.reduceMul, reduceCtorEq, and_true, true_and, Nat.mul_one, Nat.zero_add, Bool.false_eq_true, decide_true, decide_false, not_false_eq_true]
  refine (h.eq (nI (mems nb)) (nI (mems nb)) _ _ H9 O9.sl SR9 (by rw [nI_len]; omega)).mono ?_
  rintro r Ha ⟨rfl, rfl⟩
  have d2 : decide (nI (mems nb) = nI (mems nb)) = true := by simp
  have K39 := K37.trans K9
  rw [d2, kont_eq]
  simp only [go_sem, List.map_cons, List.map_nil, ↓reduceIte, Nat.reduceEqDiff, Nat.reduceAdd, Nat.reduceMul, reduceCtorEq, and_true, true_and, Nat.mul_one, Nat.zero_add, Bool.false_eq_true, decide_true, decide_false, not_false_eq_true]
  refine (h.df ps g _ Ha (hT3.keep K39) (GM3.keep0 K39) (by omega)).mono ?_
  rintro r Hb ⟨⟨h', _⟩ | ⟨dv, D', _, hD', rfl, hdO, hdo⟩, Kb⟩
  · exact absurd h0 h'
  rw [← hD.uniq hD'] at hdO
  have K3b := K39.trans Kb
  have K0b := ((K1.trans K2).trans K3).trans K3b
  have GMb := GM3.keep0 K3b
  have SLb := (SL7.keep K9 (by simp)).keep Kb (by simp)
  have Sb := (S7.keep0 K9).keep0 Kb
  have Bb := Kb.bl (K9.bl B7 (by simp)) (by simp)
  have hdle := inD_le D ps.length
  rw [kont_eq]
  simp only [go_sem, List.map_cons, List.map_nil, ↓reduceIte, Nat.reduceEqDiff, Nat.reduceAdd, Nat.reduceMul, reduceCtorEq, and_true, true_and, Nat.mul_one, Nat.zero_add, Bool.false_eq_true, decide_true, decide_false, not_false_eq_true, hgs, hgl]
  refine vc_mono ?_ ?_ (Q := fun e f H' => e = .x 0 ∧ f 3 = g ∧ f 8 = .pointer (some ⟨b6, 0, none⟩) ∧ f 9 = dv ∧ Keep (fun _ => False) Hb H')
  · rintro e f Hc ⟨rfl, hf3, hf8, hf9, Kc⟩
    have hlc := (Kc.bl Bb (by simp)).ldNO 1 rfl
    simp only [go_sem, List.map_cons, List.map_nil, ↓reduceIte, Nat.reduceEqDiff, Nat.reduceAdd, Nat.reduceMul, reduceCtorEq, and_true, true_and, Nat.mul_one, Nat.zero_add, Bool.false_eq_true, decide_true, decide_false, not_false_eq_true]
    refine vc_drk (fun _ => False) ?_
    simp only [go_sem, List.map_cons, List.map_nil, ↓reduceIte, Nat.reduceEqDiff, Nat.reduceAdd, Nat.reduceMul, reduceCtorEq, and_true, true_and, Nat.mul_one, Nat.zero_add, Bool.false_eq_true, decide_true, decide_false, not_false_eq_true, kont_eq, hf3, hf8, hf9, hlc]
    refine (h.ne ps (inD D ps.length) g dv _ Hc (GMb.keep0 Kc) (hdO.sl.keep Kc (by simp)) (fun a ha => (mem_inD.1 ha).1) (by omega)).mono ?_
    rintro r Hd ⟨Sd, Kd⟩
    simp only [go_sem, List.map_cons, List.map_nil, ↓reduceIte, Nat.reduceEqDiff, Nat.reduceAdd, Nat.reduceMul, reduceCtorEq, and_true, true_and, Nat.mul_one, Nat.zero_add, Bool.false_eq_true, decide_true, decide_false, not_false_eq_true, kont_eq]
    refine ⟨Kd, ?_⟩
    rw [hnbe] at Sd
    refine (h.be _ _ _ _ Hd Sd ((Sb.keep0 Kc).keep0 Kd)).mono ?_
    rintro r He ⟨⟨b, rfl, hb⟩, Ke⟩
    have hb : b = true := hb.2 fun n => by
      rw [ofP_mems]
      cases hn : nb n with
      | false => rfl
      | true =>
        rw [← hnbe] at hn
        unfold nbP at hn
        rw [List.any_eq_true] at hn
        obtain ⟨q, _, hq⟩ := hn
        have := (hlow.at_ q n hq).1
        simp; omega
    subst hb
    simp only [go_sem, List.map_cons, List.map_nil, ↓reduceIte, Nat.reduceEqDiff, Nat.reduceAdd, Nat.reduceMul, reduceCtorEq, and_true, true_and, Nat.mul_one, Nat.zero_add, Bool.false_eq_true, decide_true, decide_false, not_false_eq_true, kont_eq]
    rw [hR]
    exact ⟨Ke, rfl, ((K0b.trans Kc).trans Kd).trans Ke⟩
  · refine vc_loop [60, 12, 11, 82, 2, 59] rfl (fun n f H' => ∃ i : Nat, i ≤ ps.length ∧ n = ps.length - i ∧ f 59 = .int .i64 i ∧ Keep (fun _ => False) Hb H') ps.length
      ⟨0, by omega, by omega, by simp only [go_sem, List.map_cons, List.map_nil, ↓reduceIte, Nat.reduceEqDiff, Nat.reduceAdd, Nat.reduceMul, reduceCtorEq, and_true, true_and, Nat.mul_one, Nat.zero_add, Bool.false_eq_true, decide_true, decide_false, not_false_eq_true, kont_eq]; rfl, Keep.refl _ _⟩ ?_
    rintro n f Hc ⟨i, hi, rfl, hf, Kc⟩
    simp only [go_sem, List.map_cons, List.map_nil, ↓reduceIte, Nat.reduceEqDiff, Nat.reduceAdd, Nat.reduceMul, reduceCtorEq, and_true, true_and, Nat.mul_one, Nat.zero_add, Bool.false_eq_true, decide_true, decide_false, not_false_eq_true, kont_eq] at hf
    simp only [go_sem, List.map_cons, List.map_nil, ↓reduceIte, Nat.reduceEqDiff, Nat.reduceAdd, Nat.reduceMul, reduceCtorEq, and_true, true_and, Nat.mul_one, Nat.zero_add, Bool.false_eq_true, decide_true, decide_false, not_false_eq_true, hf]
    refine iteV_dec (fun hlt => ?_) (fun hge => ?_)
    · have hlt : i < ps.length := by omega
      obtain ⟨gvs', hG⟩ := GMb.keep0 Kc
      have hgi := hG.at_ i hlt
      obtain ⟨eb, eo, ec, rfl, hld, hcell⟩ := hG.elt hlt
      generalize gvs'.getD i undef = gu at hgi hld hcell
      simp only [go_sem, List.map_cons, List.map_nil, ↓reduceIte, Nat.reduceEqDiff, Nat.reduceAdd, Nat.reduceMul, reduceCtorEq, and_true, true_and, Nat.mul_one, Nat.zero_add, Bool.false_eq_true, decide_true, decide_false, not_false_eq_true, tn_cast, Nat.mul_one, ldNO_ptr, hld]
      refine ⟨by omega, ?_⟩
      refine kont_new fun Hd bd ed zd Bd Kd => ?_
      have sd := Kd.size
      have sc := Kc.size
      have hokd := Bd.okNA (o := 0) (n := 1) (by simp)
      have Be := Bd.stNA 0 [gu]
      have Be : Bl (stNA Hd ⟨bd, 0, none⟩ [gu]) bd [gu] := by simpa [wrL] using Be
      have Ke : Keep (fun k => k = bd) Hd (stNA Hd ⟨bd, 0, none⟩ [gu]) := (Keep.refl _ _).stNA _ (.inl rfl)
      have honeg : all1 #[gu] := by obtain ⟨_, _, e, h⟩ := hgi; cases e; exact h.sl.one
      have Sg := (hgi.keep0 Kd).keep Ke (fun k hk e => by have := hgi.old hk; omega)
      have Kbe : Keep (fun _ => False) Hb (stNA Hd ⟨bd, 0, none⟩ [gu]) := (Kc.trans Kd).to_old Ke (by omega)
      simp only [go_sem, List.map_cons, List.map_nil, ↓reduceIte, Nat.reduceEqDiff, Nat.reduceAdd, Nat.reduceMul, reduceCtorEq, and_true, true_and, Nat.mul_one, Nat.zero_add, Bool.false_eq_true, decide_true, decide_false, not_false_eq_true, fillV_nil, fillV_cons, okFill_nil, okFill_cons, cells_slice, cells_int, cells_bool, cells_str, cells_ptr, cells_agg, stNH_ptr, okN_ptr, wrA1, wrA20, wrA21, hokd, honeg]
      generalize stNA Hd ⟨bd, 0, none⟩ [gu] = He at Be Ke Sg Kbe ⊢
      have SLe := SLb.keep Kbe (by simp)
      have SDe := hdO.sl.keep Kbe (by simp)
      have Se := Sb.keep0 Kbe
      have hle8 := (Kbe.bl Bb (by simp)).ldNO 1 rfl
      have hled := Be.ldNO 1 rfl
      rw [kont_eq]
      simp only [go_sem, List.map_cons, List.map_nil, ↓reduceIte, Nat.reduceEqDiff, Nat.reduceAdd, Nat.reduceMul, reduceCtorEq, and_true, true_and, Nat.mul_one, Nat.zero_add, Bool.false_eq_true, decide_true, decide_false, not_false_eq_true]
      refine (h.co (nI (outD D ps.length)) _ (i : Int) He SLe (by rw [nI_len]; omega)).mono ?_
      rintro r Hf ⟨⟨b1, rfl, hb1⟩, rfl⟩
      rw [kont_eq]
      simp only [go_sem, List.map_cons, List.map_nil, ↓reduceIte, Nat.reduceEqDiff, Nat.reduceAdd, Nat.reduceMul, reduceCtorEq, and_true, true_and, Nat.mul_one, Nat.zero_add, Bool.false_eq_true, decide_true, decide_false, not_false_eq_true]
      refine (h.co (nI (inD D ps.length)) _ (i : Int) Hf SDe (by rw [nI_len]; omega)).mono ?_
      rintro r Hg ⟨⟨b2, rfl, hb2⟩, rfl⟩
      rw [mem_nI, mem_outD] at hb1
      rw [mem_nI, mem_inD] at hb2
      by_cases hiD : i ∈ D
      · have hb1 : b1 = false := by
          cases b1 with
          | false => rfl
          | true => exact absurd hiD (hb1.1 rfl).2
        have hb2 : b2 = true := hb2.2 ⟨hlt, hiD⟩
        subst hb1 hb2
        have d4 : (false == true) = false := rfl
        rw [kont_eq]
        simp only [go_sem, List.map_cons, List.map_nil, ↓reduceIte, Nat.reduceEqDiff, Nat.reduceAdd, Nat.reduceMul, reduceCtorEq, and_true, true_and, Nat.mul_one, Nat.zero_add, Bool.false_eq_true, decide_true, decide_false, not_false_eq_true, d4]
        refine (h.co (nI (outD D ps.length)) _ (i : Int) Hg SLe (by rw [nI_len]; omega)).mono ?_
        rintro r Hh ⟨⟨b3, rfl, hb3⟩, rfl⟩
        rw [mem_nI, mem_outD] at hb3
        have hb3 : b3 = false := by
          cases b3 with
          | false => rfl
          | true => exact absurd hiD (hb3.1 rfl).2
        subst hb3
        rw [kont_eq]
        simp only [go_sem, List.map_cons, List.map_nil, ↓reduceIte, Nat.reduceEqDiff, Nat.reduceAdd, Nat.reduceMul, reduceCtorEq, and_true, true_and, Nat.mul_one, Nat.zero_add, Bool.false_eq_true, decide_true, decide_false, not_false_eq_true, hle8, hled]
        refine (h.wi _ _ _ _ Hh Sg Se).mono ?_
        rintro r Hi ⟨⟨b4, rfl, hb4⟩, Ki⟩
        have hb4 : b4 = true := hb4.2 fun n hn => by
          rw [ofP_mems]
          have hn2 := (hlow.at_ i n hn).1
          rcases hcov i hlt n hn2 ((hlow.eg i n).2 hn) with h' | h'
          · exact absurd hiD h'
          · rw [h']; simp; omega
        subst hb4
        simp (disch := omega) only [go_sem, List.map_cons, List.map_nil, ↓reduceIte, Nat.reduceEqDiff, Nat.reduceAdd, Nat.reduceMul, reduceCtorEq, and_true, true_and, Nat.mul_one, Nat.zero_add, Bool.false_eq_true, decide_true, decide_false, not_false_eq_true, kont_eq, hf, IntWalk.i64_in]
        exact ⟨ps.length - (i + 1), by omega, i + 1, by omega, rfl, by simp, Kbe.trans Ki⟩
      · have hb1 : b1 = true := hb1.2 ⟨hlt, hiD⟩
        have hb2 : b2 = false := by
          cases b2 with
          | false => rfl
          | true => exact absurd (hb2.1 rfl).2 hiD
        subst hb1 hb2
        have d4 : (true == false) = false := rfl
        rw [kont_eq]
        simp only [go_sem, List.map_cons, List.map_nil, ↓reduceIte, Nat.reduceEqDiff, Nat.reduceAdd, Nat.reduceMul, reduceCtorEq, and_true, true_and, Nat.mul_one, Nat.zero_add, Bool.false_eq_true, decide_true, decide_false, not_false_eq_true, d4]
        refine (h.co (nI (outD D ps.length)) _ (i : Int) Hg SLe (by rw [nI_len]; omega)).mono ?_
        rintro r Hh ⟨⟨b3, rfl, hb3⟩, rfl⟩
        rw [mem_nI, mem_outD] at hb3
        have hb3 : b3 = true := hb3.2 ⟨hlt, hiD⟩
        subst hb3
        simp (disch := omega) only [go_sem, List.map_cons, List.map_nil, ↓reduceIte, Nat.reduceEqDiff, Nat.reduceAdd, Nat.reduceMul, reduceCtorEq, and_true, true_and, Nat.mul_one, Nat.zero_add, Bool.false_eq_true, decide_true, decide_false, not_false_eq_true, kont_eq, hf, IntWalk.i64_in]
        exact ⟨ps.length - (i + 1), by omega, i + 1, by omega, rfl, by simp, Kbe⟩
    · exact Kc
end Go.Mg

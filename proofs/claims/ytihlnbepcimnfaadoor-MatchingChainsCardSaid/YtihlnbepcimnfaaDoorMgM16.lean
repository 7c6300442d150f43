/- matching: the examples of the laws. -/
import Derived.Test.YtihlnbepcimnfaaDoorMgM15
import Derived.ProofKit
namespace Go.Mg
open Go Go.RowKit
set_option linter.unusedSimpArgs false
set_option linter.unusedVariables false
set_option maxRecDepth 100000
/- arbaclaw09.awake -/
def c_mawake (ι : Ids) : S :=
  .seq (.reg [.p (.v 0) (.mv (.c (.bool false)))]) (.seq (.reg [.e (.t 12) (.bldF (ι.t 28) 1 3 [.c (.int .u64 3), .c (.int .u64 1), .c (.int .u64 1)]), .e (.t 13) (.call (ι.f 167) [.t 12]), .p (.v 1)
  (.mv (.t 13))]) (.seq (.reg [.p (.t 15) (.mv (.v 1)), .e (.t 16) (.call (ι.f 150) [.t 15]), .p (.t 14) (.mv (.t 16)), .p (.t 17) (.ext (.t 14) 0), .p (.t 18) (.ext (.t 14) 1), .p (.v 2) (.mv (.t 17)),
  .p (.v 3) (.mv (.t 18))]) (.seq (.reg [.p (.t 20) (.mv (.v 1)), .e (.t 21) (.call (ι.f 153) [.t 20]), .p (.t 19) (.mv (.t 21)), .p (.t 22) (.ext (.t 19) 0), .p (.t 23) (.ext (.t 19) 1), .p (.v 4) (.mv
  (.t 22)), .p (.v 5) (.mv (.t 23))]) (.seq (.reg [.p (.t 25) (.mv (.v 1)), .e (.t 26) (.call (ι.f 154) [.t 25]), .p (.t 24) (.mv (.t 26)), .p (.t 27) (.ext (.t 24) 0), .p (.t 28) (.ext (.t 24) 1), .p
  (.v 6) (.mv (.t 27)), .p (.v 7) (.mv (.t 28))]) (.seq (.reg [.e (.t 30) (.bldF (ι.t 28) 1 3 [.c (.int .u64 7), .c (.int .u64 5), .c (.int .u64 1)]), .e (.t 31) (.call (ι.f 167) [.t 30]), .e (.t 32)
  (.call (ι.f 162) [.t 31]), .p (.t 29) (.mv (.t 32)), .p (.t 33) (.ext (.t 29) 0), .p (.t 34) (.ext (.t 29) 1), .p (.v 8) (.mv (.t 33)), .p (.v 9) (.mv (.t 34))]) (.seq (.reg [.e (.t 36) (.bldF (ι.t
  28) 1 2 [.c (.int .u64 7), .c (.int .u64 5)]), .e (.t 37) (.call (ι.f 167) [.t 36]), .e (.t 38) (.call (ι.f 162) [.t 37]), .p (.t 35) (.mv (.t 38)), .p (.t 39) (.ext (.t 35) 0), .p (.t 40) (.ext (.t
  35) 1), .p (.v 10) (.mv (.t 39)), .p (.v 11) (.mv (.t 40))]) (.seq (.reg [.p (.t 41) (.mv (.v 3)), .p (.t 42) (.cm .eql .i64 (.t 41) (.c (.int .i64 0))), .p (.t 43) (.mv (.t 42)), .gp (.t 44) (.t 43)
  true (.mv (.v 2)), .gp (.t 45) (.t 43) true (.cm .eql .i64 (.t 44) (.c (.int .i64 2))), .p (.t 46) (.pick (.t 43) (.t 45) (.c (.bool false))), .p (.t 47) (.mv (.t 46)), .gp (.t 48) (.t 47) true (.mv
  (.v 5)), .p (.t 49) (.pick (.t 47) (.t 48) (.c (.bool false))), .p (.t 50) (.mv (.t 49)), .gp (.t 51) (.t 50) true (.mv (.v 4)), .ge (.t 52) (.t 50) true (.bldF (ι.t 26) 1 2 [.c (.int .i64 1), .c
  (.int .i64 2)]), .ge (.t 53) (.t 50) true (.call (ι.f 165) [.t 51, .t 52]), .p (.t 54) (.pick (.t 50) (.t 53) (.c (.bool false))), .p (.t 55) (.mv (.t 54)), .gp (.t 56) (.t 55) true (.mv (.v 6)), .ge
  (.t 57) (.t 55) true (.bldF (ι.t 26) 1 1 [.c (.int .i64 0)]), .ge (.t 58) (.t 55) true (.call (ι.f 165) [.t 56, .t 57]), .p (.t 59) (.pick (.t 55) (.t 58) (.c (.bool false))), .p (.t 60) (.mv (.t
  59)), .gp (.t 61) (.t 60) true (.mv (.v 7)), .ge (.t 62) (.t 60) true (.bldF (ι.t 26) 1 1 [.c (.int .i64 0)]), .ge (.t 63) (.t 60) true (.call (ι.f 165) [.t 61, .t 62]), .p (.t 64) (.pick (.t 60) (.t
  63) (.c (.bool false))), .p (.t 65) (.mv (.t 64)), .gp (.t 66) (.t 65) true (.mv (.v 9)), .p (.t 67) (.pick (.t 65) (.t 66) (.c (.bool false))), .p (.t 68) (.mv (.t 67)), .gp (.t 69) (.t 68) true (.mv
  (.v 8)), .ge (.t 70) (.t 68) true (.bldF (ι.t 26) 1 3 [.c (.int .i64 1), .c (.int .i64 2), .c (.int .i64 0)]), .ge (.t 71) (.t 68) true (.call (ι.f 165) [.t 69, .t 70]), .p (.t 72) (.pick (.t 68) (.t
  71) (.c (.bool false))), .p (.t 73) (.mv (.t 72)), .gp (.t 74) (.t 73) true (.mv (.v 11)), .p (.t 75) (.pick (.t 73) (.t 74) (.c (.bool false))), .p (.t 76) (.mv (.t 75)), .gp (.t 77) (.t 76) true
  (.mv (.v 10)), .ge (.t 78) (.t 76) true (.bldF (ι.t 26) 1 2 [.c (.int .i64 0), .c (.int .i64 2)]), .ge (.t 79) (.t 76) true (.call (ι.f 165) [.t 77, .t 78]), .p (.t 80) (.pick (.t 76) (.t 79) (.c
  (.bool false))), .p (.v 0) (.mv (.t 80))]) .ret)))))))
def r_mawake : List RV := [.t 0]
theorem ex1 : szF (allF [3, 1, 1] 0) = 2 := by decide +kernel
theorem ex2 : defL (allF [3, 1, 1] 0) 3 = [1, 2] := by decide +kernel
theorem ex3 : ((List.range 3).filter fun i => !defB (allF [3, 1, 1] 0) i) = [0] := by decide +kernel
theorem ex4 : mems (nbP ([3, 1, 1].map bt) [1, 2]) = [0] := by decide +kernel
theorem ex5 : leastF (allF [7, 5, 1] 0) 3 = some [1, 2, 0] := by decide +kernel
theorem ex6 : leastF (allF [7, 5] 0) 2 = some [0, 2] := by decide +kernel
/-- what the functions of the matching answer, all at once -/
structure MFns (P : Program) (ι : Ids) : Prop where
  gr : LGraphSpec P (ι.f 167)
  sz : MSizeSpec P ι (ι.f 150)
  df : MDefSpec P ι (ι.f 153)
  cv : MCovSpec P ι (ι.f 154)
  le : MLeastSpec P ι (ι.f 162)
  eq : IEqSpec P (ι.f 165)
theorem GrO.ofX {H : Hp} {v : Value} {X : List UInt64} {B : Nat} {vs : List Value} (h : GrO H v (X.map bt) B vs) : GrM H v (X.map bt) (fun k => B ≤ k) := h.toM
def MAwakeSpec (P : Program) (ι : Ids) (k : FuncId) : Prop := ∀ (H : Hp), TabOk ι H → CallsM P k #[] H fun r H' => r = .bool true ∧ Keep (fun _ => False) H H'
theorem mawake_ok {P : Program} {ι : Ids} {k : FuncId} (hk : FnIs P k (c_mawake ι) r_mawake 0) (h : MFns P ι) : MAwakeSpec P ι k := by
  intro H hT
  obtain ⟨R, hR⟩ : ∃ R : Value → Hp → Prop, R = fun r H' => r = .bool true ∧ Keep (fun _ => False) H H' := ⟨_, rfl⟩
  rw [← hR]
  refine calls_of_vc hk (args := []) (by simp) ?_
  unfold c_mawake r_mawake
  simp only [go_sem, List.map_cons, List.map_nil, ↓reduceIte, Nat.reduceEqDiff, Nat.reduceAdd, Nat.reduceMul, reduceCtorEq, and_true, true_and, Nat.mul_one, Nat.zero_add, Bool.false_eq_true, decide_true, decide_false, not_false_eq_true, fillV_nil, fillV_cons, okFill_nil, okFill_cons, cells_slice, cells_int, cells_bool, cells_str, cells_ptr, cells_agg, stNH_ptr, okN_ptr, wrA1, wrA20, wrA21]
  refine kont_news fun H1 b1 e1 z1 B1 K1 => ?_
  have S1 : SlR H1 (.slice (some ⟨b1, 0, none⟩) 3 3) (w64 [3, 1, 1]) := SlR.bl B1 0 3 3 (by omega) (by decide)
  simp only [go_sem, List.map_cons, List.map_nil, ↓reduceIte, Nat.reduceEqDiff, Nat.reduceAdd, Nat.reduceMul, reduceCtorEq, and_true, true_and, Nat.mul_one, Nat.zero_add, Bool.false_eq_true, decide_true, decide_false, not_false_eq_true, kont_eq]
  refine (h.gr [3, 1, 1] _ H1 S1 (by simp)).mono ?_
  rintro g H2 ⟨gvs, G2, K2⟩
  simp only [go_sem, List.map_cons, List.map_nil, ↓reduceIte, Nat.reduceEqDiff, Nat.reduceAdd, Nat.reduceMul, reduceCtorEq, and_true, true_and, Nat.mul_one, Nat.zero_add, Bool.false_eq_true, decide_true, decide_false, not_false_eq_true, kont_eq]
  refine (h.sz _ g _ H2 ((hT.keep K1).keep K2) G2.toM (by simp)).mono ?_
  intro r H3 hp
  obtain ⟨rfl, K3⟩ := hp.toX (by simp)
  rw [ex1]
  simp only [go_sem, List.map_cons, List.map_nil, ↓reduceIte, Nat.reduceEqDiff, Nat.reduceAdd, Nat.reduceMul, reduceCtorEq, and_true, true_and, Nat.mul_one, Nat.zero_add, Bool.false_eq_true, decide_true, decide_false, not_false_eq_true, kont_eq]
  refine (h.df _ g _ H3 (((hT.keep K1).keep K2).keep K3) (G2.toM.keep0 K3) (by simp)).mono ?_
  intro r H4 hp
  obtain ⟨v4, rfl, S4, K4⟩ := hp.toX (by simp)
  have d4 : decide (szF (allF [3, 1, 1] 0) < ([3, 1, 1] : List UInt64).length) = true := by rw [ex1]; rfl
  have l4 : ([3, 1, 1] : List UInt64).length = 3 := rfl
  rw [l4, ex2] at S4
  rw [d4]
  simp only [go_sem, List.map_cons, List.map_nil, ↓reduceIte, Nat.reduceEqDiff, Nat.reduceAdd, Nat.reduceMul, reduceCtorEq, and_true, true_and, Nat.mul_one, Nat.zero_add, Bool.false_eq_true, decide_true, decide_false, not_false_eq_true, kont_eq]
  refine (h.cv _ g _ H4 ((((hT.keep K1).keep K2).keep K3).keep K4) ((G2.toM.keep0 K3).keep0 K4) (by simp)).mono ?_
  intro r H5 hp
  obtain ⟨v5, w5, rfl, S5, T5, K5⟩ := hp.toX (by simp)
  rw [l4, ex3] at S5
  rw [l4, ex2, memL_nI, ex4] at T5
  rw [kont_eq]
  simp only [go_sem, List.map_cons, List.map_nil, ↓reduceIte, Nat.reduceEqDiff, Nat.reduceAdd, Nat.reduceMul, reduceCtorEq, and_true, true_and, Nat.mul_one, Nat.zero_add, Bool.false_eq_true, decide_true, decide_false, not_false_eq_true, fillV_nil, fillV_cons, okFill_nil, okFill_cons, cells_slice, cells_int, cells_bool, cells_str, cells_ptr, cells_agg, stNH_ptr, okN_ptr, wrA1, wrA20, wrA21]
  refine kont_news fun H6 b6 e6 z6 B6 K6 => ?_
  have S6 : SlR H6 (.slice (some ⟨b6, 0, none⟩) 3 3) (w64 [7, 5, 1]) := SlR.bl B6 0 3 3 (by omega) (by decide)
  simp only [go_sem, List.map_cons, List.map_nil, ↓reduceIte, Nat.reduceEqDiff, Nat.reduceAdd, Nat.reduceMul, reduceCtorEq, and_true, true_and, Nat.mul_one, Nat.zero_add, Bool.false_eq_true, decide_true, decide_false, not_false_eq_true, kont_eq]
  refine (h.gr [7, 5, 1] _ H6 S6 (by simp)).mono ?_
  rintro g7 H7 ⟨gvs7, G7, K7⟩
  simp only [go_sem, List.map_cons, List.map_nil, ↓reduceIte, Nat.reduceEqDiff, Nat.reduceAdd, Nat.reduceMul, reduceCtorEq, and_true, true_and, Nat.mul_one, Nat.zero_add, Bool.false_eq_true, decide_true, decide_false, not_false_eq_true, kont_eq]
  have hT7 := (((((hT.keep K1).keep K2).keep K3).keep K4).keep K5).keep K6 |>.keep K7
  refine (h.le _ g7 _ H7 hT7 G7.toM (by simp)).mono ?_
  intro r H8 hp
  obtain ⟨⟨h8, _⟩ | ⟨v8, m8, h8, rfl, S8⟩, K8⟩ := hp.toX (by simp)
  · exact absurd (h8.symm.trans ex5) (by simp)
  · have h8 : m8 = [1, 2, 0] := Option.some.inj (h8.symm.trans ex5)
    subst h8
    rw [kont_eq]
    simp only [go_sem, List.map_cons, List.map_nil, ↓reduceIte, Nat.reduceEqDiff, Nat.reduceAdd, Nat.reduceMul, reduceCtorEq, and_true, true_and, Nat.mul_one, Nat.zero_add, Bool.false_eq_true, decide_true, decide_false, not_false_eq_true, fillV_nil, fillV_cons, okFill_nil, okFill_cons, cells_slice, cells_int, cells_bool, cells_str, cells_ptr, cells_agg, stNH_ptr, okN_ptr, wrA1, wrA20, wrA21]
    refine kont_news fun H9 b9 e9 z9 B9 K9 => ?_
    have S9 : SlR H9 (.slice (some ⟨b9, 0, none⟩) 2 2) (w64 [7, 5]) := SlR.bl B9 0 2 2 (by omega) (by decide)
    simp only [go_sem, List.map_cons, List.map_nil, ↓reduceIte, Nat.reduceEqDiff, Nat.reduceAdd, Nat.reduceMul, reduceCtorEq, and_true, true_and, Nat.mul_one, Nat.zero_add, Bool.false_eq_true, decide_true, decide_false, not_false_eq_true, kont_eq]
    refine (h.gr [7, 5] _ H9 S9 (by simp)).mono ?_
    rintro g10 H10 ⟨gvs10, G10, K10⟩
    simp only [go_sem, List.map_cons, List.map_nil, ↓reduceIte, Nat.reduceEqDiff, Nat.reduceAdd, Nat.reduceMul, reduceCtorEq, and_true, true_and, Nat.mul_one, Nat.zero_add, Bool.false_eq_true, decide_true, decide_false, not_false_eq_true, kont_eq]
    refine (h.le _ g10 _ H10 ((hT7.keep K8).keep K9 |>.keep K10) G10.toM (by simp)).mono ?_
    intro r H11 hp
    obtain ⟨⟨h11, _⟩ | ⟨v11, m11, h11, rfl, S11⟩, K11⟩ := hp.toX (by simp)
    · exact absurd (h11.symm.trans ex6) (by simp)
    · have h11 : m11 = [0, 2] := Option.some.inj (h11.symm.trans ex6)
      subst h11
      have d0 : ((0 : Int) == 0) = true := rfl
      have d2 : (((2 : Nat) : Int) == 2) = true := rfl
      rw [kont_eq]
      simp only [go_sem, List.map_cons, List.map_nil, ↓reduceIte, Nat.reduceEqDiff, Nat.reduceAdd, Nat.reduceMul, reduceCtorEq, and_true, true_and, Nat.mul_one, Nat.zero_add, Bool.false_eq_true, decide_true, decide_false, not_false_eq_true, fillV_nil, fillV_cons, okFill_nil, okFill_cons, cells_slice, cells_int, cells_bool, cells_str, cells_ptr, cells_agg, stNH_ptr, okN_ptr, wrA1, wrA20, wrA21, d0, d2]
      have k5 := K5.trans K6 |>.trans K7 |>.trans K8 |>.trans K9 |>.trans K10 |>.trans K11
      have k6 := K6.trans K7 |>.trans K8 |>.trans K9 |>.trans K10 |>.trans K11
      have k9 := K9.trans K10 |>.trans K11
      have KK11 : Keep (fun _ => False) H11 H11 := Keep.refl _ _
      have KA := K1.trans K2 |>.trans K3 |>.trans K4 |>.trans k5
      refine kont_news fun H12 b12 e12 z12 B12 K12 => ?_
      have A12 : SlR H12 (.slice (some ⟨b12, 0, none⟩) 2 2) (iL [1, 2]) := SlR.bl B12 0 2 2 (by omega) (by decide)
      have KK12 := KK11.trans K12
      have E12 : decide (nI [1, 2] = ([1, 2] : List Int)) = true := by decide
      simp only [go_sem, List.map_cons, List.map_nil, ↓reduceIte, Nat.reduceEqDiff, Nat.reduceAdd, Nat.reduceMul, reduceCtorEq, and_true, true_and, Nat.mul_one, Nat.zero_add, Bool.false_eq_true, decide_true, decide_false, not_false_eq_true]
      refine (h.eq (nI [1, 2]) [1, 2] _ _ H12 (S4.keep (k5.trans KK12) (by simp)) A12 (by decide)).mono ?_
      rintro r H12' ⟨rfl, rfl⟩
      rw [E12, kont_eq]
      simp only [go_sem, List.map_cons, List.map_nil, ↓reduceIte, Nat.reduceEqDiff, Nat.reduceAdd, Nat.reduceMul, reduceCtorEq, and_true, true_and, Nat.mul_one, Nat.zero_add, Bool.false_eq_true, decide_true, decide_false, not_false_eq_true, fillV_nil, fillV_cons, okFill_nil, okFill_cons, cells_slice, cells_int, cells_bool, cells_str, cells_ptr, cells_agg, stNH_ptr, okN_ptr, wrA1, wrA20, wrA21]
      refine kont_news fun H13 b13 e13 z13 B13 K13 => ?_
      have A13 : SlR H13 (.slice (some ⟨b13, 0, none⟩) 1 1) (iL [0]) := SlR.bl B13 0 1 1 (by omega) (by decide)
      have KK13 := KK12.trans K13
      have E13 : decide (nI [0] = ([0] : List Int)) = true := by decide
      simp only [go_sem, List.map_cons, List.map_nil, ↓reduceIte, Nat.reduceEqDiff, Nat.reduceAdd, Nat.reduceMul, reduceCtorEq, and_true, true_and, Nat.mul_one, Nat.zero_add, Bool.false_eq_true, decide_true, decide_false, not_false_eq_true]
      refine (h.eq (nI [0]) [0] _ _ H13 (S5.keep (k6.trans KK13) (by simp)) A13 (by decide)).mono ?_
      rintro r H13x ⟨rfl, rfl⟩
      rw [E13, kont_eq]
      simp only [go_sem, List.map_cons, List.map_nil, ↓reduceIte, Nat.reduceEqDiff, Nat.reduceAdd, Nat.reduceMul, reduceCtorEq, and_true, true_and, Nat.mul_one, Nat.zero_add, Bool.false_eq_true, decide_true, decide_false, not_false_eq_true, fillV_nil, fillV_cons, okFill_nil, okFill_cons, cells_slice, cells_int, cells_bool, cells_str, cells_ptr, cells_agg, stNH_ptr, okN_ptr, wrA1, wrA20, wrA21]
      refine kont_news fun H14 b14 e14 z14 B14 K14 => ?_
      have A14 : SlR H14 (.slice (some ⟨b14, 0, none⟩) 1 1) (iL [0]) := SlR.bl B14 0 1 1 (by omega) (by decide)
      have KK14 := KK13.trans K14
      have E14 : decide (nI [0] = ([0] : List Int)) = true := by decide
      simp only [go_sem, List.map_cons, List.map_nil, ↓reduceIte, Nat.reduceEqDiff, Nat.reduceAdd, Nat.reduceMul, reduceCtorEq, and_true, true_and, Nat.mul_one, Nat.zero_add, Bool.false_eq_true, decide_true, decide_false, not_false_eq_true]
      refine (h.eq (nI [0]) [0] _ _ H14 (T5.keep (k6.trans KK14) (by simp)) A14 (by decide)).mono ?_
      rintro r H14' ⟨rfl, rfl⟩
      rw [E14, kont_eq]
      simp only [go_sem, List.map_cons, List.map_nil, ↓reduceIte, Nat.reduceEqDiff, Nat.reduceAdd, Nat.reduceMul, reduceCtorEq, and_true, true_and, Nat.mul_one, Nat.zero_add, Bool.false_eq_true, decide_true, decide_false, not_false_eq_true, fillV_nil, fillV_cons, okFill_nil, okFill_cons, cells_slice, cells_int, cells_bool, cells_str, cells_ptr, cells_agg, stNH_ptr, okN_ptr, wrA1, wrA20, wrA21]
      refine kont_news fun H15 b15 e15 z15 B15 K15 => ?_
      have A15 : SlR H15 (.slice (some ⟨b15, 0, none⟩) 3 3) (iL [1, 2, 0]) := SlR.bl B15 0 3 3 (by omega) (by decide)
      have KK15 := KK14.trans K15
      have E15 : decide ([1, 2, 0] = ([1, 2, 0] : List Int)) = true := by decide
      simp only [go_sem, List.map_cons, List.map_nil, ↓reduceIte, Nat.reduceEqDiff, Nat.reduceAdd, Nat.reduceMul, reduceCtorEq, and_true, true_and, Nat.mul_one, Nat.zero_add, Bool.false_eq_true, decide_true, decide_false, not_false_eq_true]
      refine (h.eq [1, 2, 0] [1, 2, 0] _ _ H15 (S8.keep (k9.trans KK15) (by simp)) A15 (by decide)).mono ?_
      rintro r H15' ⟨rfl, rfl⟩
      rw [E15, kont_eq]
      simp only [go_sem, List.map_cons, List.map_nil, ↓reduceIte, Nat.reduceEqDiff, Nat.reduceAdd, Nat.reduceMul, reduceCtorEq, and_true, true_and, Nat.mul_one, Nat.zero_add, Bool.false_eq_true, decide_true, decide_false, not_false_eq_true, fillV_nil, fillV_cons, okFill_nil, okFill_cons, cells_slice, cells_int, cells_bool, cells_str, cells_ptr, cells_agg, stNH_ptr, okN_ptr, wrA1, wrA20, wrA21]
      refine kont_news fun H16 b16 e16 z16 B16 K16 => ?_
      have A16 : SlR H16 (.slice (some ⟨b16, 0, none⟩) 2 2) (iL [0, 2]) := SlR.bl B16 0 2 2 (by omega) (by decide)
      have KK16 := KK15.trans K16
      have E16 : decide ([0, 2] = ([0, 2] : List Int)) = true := by decide
      simp only [go_sem, List.map_cons, List.map_nil, ↓reduceIte, Nat.reduceEqDiff, Nat.reduceAdd, Nat.reduceMul, reduceCtorEq, and_true, true_and, Nat.mul_one, Nat.zero_add, Bool.false_eq_true, decide_true, decide_false, not_false_eq_true]
      refine (h.eq [0, 2] [0, 2] _ _ H16 (S11.keep (KK16) (by simp)) A16 (by decide)).mono ?_
      rintro r H16' ⟨rfl, rfl⟩
      rw [E16, kont_eq]
      simp only [go_sem, List.map_cons, List.map_nil, ↓reduceIte, Nat.reduceEqDiff, Nat.reduceAdd, Nat.reduceMul, reduceCtorEq, and_true, true_and, Nat.mul_one, Nat.zero_add, Bool.false_eq_true, decide_true, decide_false, not_false_eq_true, fillV_nil, fillV_cons, okFill_nil, okFill_cons, cells_slice, cells_int, cells_bool, cells_str, cells_ptr, cells_agg, stNH_ptr, okN_ptr, wrA1, wrA20, wrA21]
      rw [hR]
      exact ⟨rfl, KA.trans KK16⟩
end Go.Mg

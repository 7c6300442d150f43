/- matching: the laws about small graphs. -/
import Derived.Test.YtihlnbepcimnfaaDoorMgM16
namespace Go.Mg
open Go Go.RowKit
set_option linter.unusedSimpArgs false
set_option linter.unusedVariables false
set_option maxRecDepth 100000
/- arbaclaw09.MatchingMaximum -/
def c_lmax (ι : Ids) : S :=
  .seq (.reg [.p (.v 2) (.mv (.c (.bool false)))]) (.seq (.seq (.reg [.e (.t 10) (.call (ι.f 174) []), .p (.v 11) (.not (.t 10))]) (.ite (.v 11) (.seq (.reg [.p (.v 2) (.mv (.c (.bool false)))]) .ret)
  .skip)) (.seq (.reg [.p (.t 12) (.mv (.v 0)), .e (.t 13) (.call (ι.f 168) [.t 12]), .p (.v 3) (.mv (.t 13))]) (.seq (.reg [.p (.t 14) (.mv (.v 3)), .e (.t 15) (.call (ι.f 167) [.t 14]), .p (.v 4) (.mv
  (.t 15))]) (.seq (.reg [.p (.t 16) (.mv (.v 3)), .e (.t 17) (.call (ι.f 169) [.t 16, .c (.int .i64 0), .c (.int .u64 0)]), .p (.v 5) (.mv (.t 17))]) (.seq (.reg [.p (.t 19) (.mv (.v 4)), .e (.t 20)
  (.call (ι.f 149) [.t 19]), .p (.t 18) (.mv (.t 20)), .p (.t 21) (.ext (.t 18) 0), .p (.t 22) (.ext (.t 18) 1), .p (.v 6) (.mv (.t 21)), .p (.v 7) (.mv (.t 22))]) (.seq (.reg [.p (.t 24) (.mv (.v 4)),
  .e (.t 25) (.call (ι.f 150) [.t 24]), .p (.t 23) (.mv (.t 25)), .p (.t 26) (.ext (.t 23) 0), .p (.t 27) (.ext (.t 23) 1), .p (.v 8) (.mv (.t 26)), .p (.v 9) (.mv (.t 27))]) (.seq (.reg [.p (.t 28)
  (.mv (.v 7)), .p (.t 29) (.cm .eql .i64 (.t 28) (.c (.int .i64 0))), .p (.t 30) (.mv (.t 29)), .gp (.t 31) (.t 30) true (.mv (.v 9)), .gp (.t 32) (.t 30) true (.cm .eql .i64 (.t 31) (.c (.int .i64
  0))), .p (.t 33) (.pick (.t 30) (.t 32) (.c (.bool false))), .p (.t 34) (.mv (.t 33)), .gp (.t 35) (.t 34) true (.mv (.v 8)), .gp (.t 36) (.t 34) true (.mv (.v 5)), .ge (.t 37) (.t 34) true (.call
  (ι.f 170) [.t 36]), .gp (.t 38) (.t 34) true (.cm .eql .i64 (.t 35) (.t 37)), .p (.t 39) (.pick (.t 34) (.t 38) (.c (.bool false))), .p (.t 40) (.mv (.t 39)), .gp (.t 41) (.t 40) true (.mv (.v 3)),
  .gp (.t 42) (.t 40) true (.mv (.v 6)), .ge (.t 43) (.t 40) true (.call (ι.f 173) [.t 41, .t 42]), .p (.t 44) (.pick (.t 40) (.t 43) (.c (.bool false))), .p (.t 45) (.mv (.t 44)), .gp (.t 46) (.t 45)
  true (.mv (.v 6)), .ge (.t 47) (.t 45) true (.call (ι.f 164) [.t 46]), .gp (.t 48) (.t 45) true (.mv (.v 8)), .gp (.t 49) (.t 45) true (.cm .eql .i64 (.t 47) (.t 48)), .p (.t 50) (.pick (.t 45) (.t
  49) (.c (.bool false))), .p (.v 2) (.mv (.t 50))]) .ret)))))))
def r_lmax : List RV := [.t 2]
/- arbaclaw09.MatchingDeficient -/
def c_ldef (ι : Ids) : S :=
  .seq (.reg [.p (.v 2) (.mv (.c (.bool false)))]) (.seq (.seq (.reg [.e (.t 7) (.call (ι.f 174) []), .p (.v 8) (.not (.t 7))]) (.ite (.v 8) (.seq (.reg [.p (.v 2) (.mv (.c (.bool false)))]) .ret)
  .skip)) (.seq (.reg [.p (.t 9) (.mv (.v 0)), .e (.t 10) (.call (ι.f 168) [.t 9]), .p (.v 3) (.mv (.t 10))]) (.seq (.reg [.p (.t 11) (.mv (.v 3)), .e (.t 12) (.call (ι.f 169) [.t 11, .c (.int .i64 0),
  .c (.int .u64 0)]), .p (.v 4) (.mv (.t 12))]) (.seq (.reg [.p (.t 14) (.mv (.v 3)), .e (.t 15) (.call (ι.f 167) [.t 14]), .e (.t 16) (.call (ι.f 153) [.t 15]), .p (.t 13) (.mv (.t 16)), .p (.t 17)
  (.ext (.t 13) 0), .p (.t 18) (.ext (.t 13) 1), .p (.v 5) (.mv (.t 17)), .p (.v 6) (.mv (.t 18))]) (.seq (.reg [.p (.t 19) (.mv (.v 6)), .p (.t 20) (.mv (.v 4)), .e (.t 21) (.call (ι.f 170) [.t 20]),
  .p (.t 22) (.mv (.v 3)), .p (.t 23) (.m (.lenl (.t 22))), .p (.t 24) (.cm .lss .i64 (.t 21) (.t 23)), .p (.t 25) (.eqb false (.t 19) (.t 24)), .p (.t 26) (.mv (.t 25)), .gp (.t 27) (.t 26) true (.mv
  (.v 5)), .gp (.t 28) (.t 26) true (.mv (.v 4)), .gp (.t 29) (.t 26) true (.mv (.v 3)), .gp (.t 30) (.t 26) true (.m (.lenl (.t 29))), .ge (.t 31) (.t 26) true (.call (ι.f 171) [.t 28, .t 30]), .ge (.t
  32) (.t 26) true (.call (ι.f 165) [.t 27, .t 31]), .p (.t 33) (.pick (.t 26) (.t 32) (.c (.bool false))), .p (.v 2) (.mv (.t 33))]) .ret)))))
def r_ldef : List RV := [.t 2]
/- arbaclaw09.MatchingLeast -/
def c_lleast (ι : Ids) : S :=
  .seq (.reg [.p (.v 2) (.mv (.c (.bool false)))]) (.seq (.seq (.reg [.e (.t 8) (.call (ι.f 174) []), .p (.v 9) (.not (.t 8))]) (.ite (.v 9) (.seq (.reg [.p (.v 2) (.mv (.c (.bool false)))]) .ret)
  .skip)) (.seq (.reg [.p (.t 10) (.mv (.v 0)), .e (.t 11) (.call (ι.f 168) [.t 10]), .p (.v 3) (.mv (.t 11))]) (.seq (.reg [.p (.t 13) (.mv (.v 3)), .e (.t 14) (.call (ι.f 167) [.t 13]), .e (.t 15)
  (.call (ι.f 162) [.t 14]), .p (.t 12) (.mv (.t 15)), .p (.t 16) (.ext (.t 12) 0), .p (.t 17) (.ext (.t 12) 1), .p (.v 4) (.mv (.t 16)), .p (.v 5) (.mv (.t 17))]) (.seq (.reg [.p (.t 19) (.mv (.v 3)),
  .e (.t 20) (.call (ι.f 169) [.t 19, .c (.int .i64 0), .c (.int .u64 0)]), .p (.t 21) (.mv (.v 3)), .p (.t 22) (.m (.lenl (.t 21))), .e (.t 23) (.call (ι.f 172) [.t 20, .t 22]), .p (.t 18) (.mv (.t
  23)), .p (.t 24) (.ext (.t 18) 0), .p (.t 25) (.ext (.t 18) 1), .p (.v 6) (.mv (.t 24)), .p (.v 7) (.mv (.t 25))]) (.seq (.reg [.p (.t 26) (.mv (.v 5)), .p (.t 27) (.mv (.v 7)), .p (.t 28) (.eqb false
  (.t 26) (.t 27)), .p (.t 29) (.mv (.t 28)), .gp (.t 30) (.t 29) true (.mv (.v 4)), .gp (.t 31) (.t 29) true (.mv (.v 6)), .ge (.t 32) (.t 29) true (.call (ι.f 165) [.t 30, .t 31]), .p (.t 33) (.pick
  (.t 29) (.t 32) (.c (.bool false))), .p (.v 2) (.mv (.t 33))]) .ret)))))
def r_lleast : List RV := [.t 2]
/- arbaclaw09.MatchingChecks -/
def c_lchk (ι : Ids) : S :=
  .seq (.reg [.p (.v 4) (.mv (.c (.bool false)))]) (.seq (.seq (.reg [.e (.t 6) (.call (ι.f 174) []), .p (.v 7) (.not (.t 6))]) (.ite (.v 7) (.seq (.reg [.p (.v 4) (.mv (.c (.bool false)))]) .ret)
  .skip)) (.seq (.reg [.p (.t 8) (.mv (.v 0)), .e (.t 9) (.call (ι.f 168) [.t 8]), .p (.v 5) (.mv (.t 9))]) (.seq (.reg [.p (.t 10) (.mv (.v 5)), .e (.t 11) (.call (ι.f 167) [.t 10]), .p (.t 12) (.mv
  (.v 1)), .e (.t 13) (.call (ι.f 156) [.t 11, .t 12]), .p (.t 14) (.mv (.v 5)), .p (.t 15) (.mv (.v 1)), .e (.t 16) (.call (ι.f 173) [.t 14, .t 15]), .p (.t 17) (.eqb false (.t 13) (.t 16)), .p (.v 4)
  (.mv (.t 17))]) .ret)))
def r_lchk : List RV := [.t 4]
/-- what the laws about small graphs use -/
structure MLaws (P : Program) (ι : Ids) : Prop where
  aw : MAwakeSpec P ι (ι.f 174)
  sm : SmallSpec P (ι.f 168)
  gr : LGraphSpec P (ι.f 167)
  al : RAllSpec P (ι.f 169) 7
  rz : RSizeSpec P (ι.f 170)
  rc : RChkSpec P (ι.f 173)
  rm : MtcSpec P (ι.f 164)
  rd : RDefSpec P (ι.f 171)
  rl : RLeastSpec P (ι.f 172)
  mx : MMaxSpec P ι (ι.f 149)
  sz : MSizeSpec P ι (ι.f 150)
  df : MDefSpec P ι (ι.f 153)
  le : MLeastSpec P ι (ι.f 162)
  ck : MChkSpec P (ι.f 156)
  eq : IEqSpec P (ι.f 165)
theorem allX {l : List UInt8} : (allF (smallF l) 0).length ≤ 1000000 ∧ ∀ m ∈ allF (smallF l) 0, m.length = (smallF l).length := by
  refine ⟨Nat.le_trans (allF_len _ _ (smallF_bt l)) (Nat.le_trans (Nat.pow_le_pow_right (n := 7) (by omega) (smallF_len l)) (by decide)), fun m hm => (mem_allF.1 hm).len⟩
theorem lmax_ok {P : Program} {ι : Ids} {k : FuncId} (hk : FnIs P k (c_lmax ι) r_lmax 1) (h : MLaws P ι) (l : List UInt8) (v : Value) (H : Hp) (hT : TabOk ι H) (hv : SlR H v (w8 l)) :
    CallsM P k #[v] H fun r H' => r = .bool true ∧ Keep (fun _ => False) H H' := by
  obtain ⟨R, hR⟩ : ∃ R : Value → Hp → Prop, R = fun r H' => r = .bool true ∧ Keep (fun _ => False) H H' := ⟨_, rfl⟩
  rw [← hR]
  refine calls_of_vc hk (args := [_]) (by simp) ?_
  unfold c_lmax r_lmax
  obtain ⟨a1, a2⟩ := allX (l := l)
  have hX6 := smallF_len l
  have hXb := smallF_bt l
  simp only [go_sem, List.map_cons, List.map_nil, ↓reduceIte, Nat.reduceEqDiff, Nat.reduceAdd, Nat.reduceMul, reduceCtorEq, and_true, true_and, Nat.mul_one, Nat.zero_add, Bool.false_eq_true, decide_true, decide_false, not_false_eq_true, kont_eq]
  refine (h.aw H hT).mono ?_
  rintro r H1 ⟨rfl, K1⟩
  simp only [go_sem, List.map_cons, List.map_nil, ↓reduceIte, Nat.reduceEqDiff, Nat.reduceAdd, Nat.reduceMul, reduceCtorEq, and_true, true_and, Nat.mul_one, Nat.zero_add, Bool.false_eq_true, decide_true, decide_false, not_false_eq_true, kont_eq]
  refine (h.sm l v H1 (hv.keep K1 (by simp))).mono ?_
  rintro x H2 ⟨O2, o2, K2⟩
  generalize smallF l = X at *
  simp only [go_sem, List.map_cons, List.map_nil, ↓reduceIte, Nat.reduceEqDiff, Nat.reduceAdd, Nat.reduceMul, reduceCtorEq, and_true, true_and, Nat.mul_one, Nat.zero_add, Bool.false_eq_true, decide_true, decide_false, not_false_eq_true, kont_eq]
  refine (h.gr X x H2 O2.sl (by omega)).mono ?_
  rintro g H3 ⟨gvs, G3, K3⟩
  simp only [go_sem, List.map_cons, List.map_nil, ↓reduceIte, Nat.reduceEqDiff, Nat.reduceAdd, Nat.reduceMul, reduceCtorEq, and_true, true_and, Nat.mul_one, Nat.zero_add, Bool.false_eq_true, decide_true, decide_false, not_false_eq_true, kont_eq]
  refine (h.al X 0 0 x H3 (O2.sl.keep K3 (by simp)) hX6 hXb (by omega) (by omega)).mono ?_
  rintro a H4 ⟨avs, A4, K4⟩
  rw [List.drop_zero] at A4
  simp only [go_sem, List.map_cons, List.map_nil, ↓reduceIte, Nat.reduceEqDiff, Nat.reduceAdd, Nat.reduceMul, reduceCtorEq, and_true, true_and, Nat.mul_one, Nat.zero_add, Bool.false_eq_true, decide_true, decide_false, not_false_eq_true, kont_eq]
  have hT4 := (((hT.keep K1).keep K2).keep K3).keep K4
  refine (h.mx _ g _ H4 hT4 (G3.toM.keep0 K4) (by rw [List.length_map]; omega)).mono ?_
  intro r H5 hp
  obtain ⟨mv, L, rfl, S5, hIn, hmt, K5⟩ := hp.toX (by omega)
  simp only [go_sem, List.map_cons, List.map_nil, ↓reduceIte, Nat.reduceEqDiff, Nat.reduceAdd, Nat.reduceMul, reduceCtorEq, and_true, true_and, Nat.mul_one, Nat.zero_add, Bool.false_eq_true, decide_true, decide_false, not_false_eq_true, kont_eq]
  refine (h.sz _ g _ H5 (hT4.keep K5) ((G3.toM.keep0 K4).keep0 K5) (by rw [List.length_map]; omega)).mono ?_
  intro r H6 hp
  obtain ⟨rfl, K6⟩ := hp.toX (by omega)
  have d0 : ((0 : Int) == 0) = true := rfl
  have K06 := ((((K1.trans K2).trans K3).trans K4).trans K5).trans K6
  rw [kont_eq]
  simp only [go_sem, List.map_cons, List.map_nil, ↓reduceIte, Nat.reduceEqDiff, Nat.reduceAdd, Nat.reduceMul, reduceCtorEq, and_true, true_and, Nat.mul_one, Nat.zero_add, Bool.false_eq_true, decide_true, decide_false, not_false_eq_true, d0]
  refine (h.rz _ a avs H6 ⟨A4.ow.sl.keep (K5.trans K6) (by simp), A4.len, fun i hi => (A4.at_ i hi).keep (K5.trans K6) (by simp)⟩ a1 (fun m hm => by rw [a2 m hm]; omega)).mono ?_
  rintro r H7 ⟨rfl, rfl⟩
  have d1 : ((szF (allF X 0) : Int) == (szF (allF X 0) : Int)) = true := by simp
  rw [kont_eq]
  simp only [go_sem, List.map_cons, List.map_nil, ↓reduceIte, Nat.reduceEqDiff, Nat.reduceAdd, Nat.reduceMul, reduceCtorEq, and_true, true_and, Nat.mul_one, Nat.zero_add, Bool.false_eq_true, decide_true, decide_false, not_false_eq_true, d1]
  refine (h.rc X L _ _ H7 (O2.sl.keep ((K3.trans K4).trans (K5.trans K6)) (by simp)) (S5.keep K6 (by simp)) (by omega)).mono ?_
  rintro r H8 ⟨⟨b, rfl, hb⟩, rfl⟩
  have hb : b = true := hb.2 hIn
  subst hb
  rw [kont_eq]
  simp only [go_sem, List.map_cons, List.map_nil, ↓reduceIte, Nat.reduceEqDiff, Nat.reduceAdd, Nat.reduceMul, reduceCtorEq, and_true, true_and, Nat.mul_one, Nat.zero_add, Bool.false_eq_true, decide_true, decide_false, not_false_eq_true]
  have hLl : L.length = X.length := hIn.len
  refine (h.rm L _ H8 (S5.keep K6 (by simp)) (by omega)).mono ?_
  rintro r H9 ⟨rfl, rfl⟩
  rw [hmt]
  simp only [go_sem, List.map_cons, List.map_nil, ↓reduceIte, Nat.reduceEqDiff, Nat.reduceAdd, Nat.reduceMul, reduceCtorEq, and_true, true_and, Nat.mul_one, Nat.zero_add, Bool.false_eq_true, decide_true, decide_false, not_false_eq_true, kont_eq, d1]
  rw [hR]
  exact ⟨rfl, K06⟩
theorem ldef_ok {P : Program} {ι : Ids} {k : FuncId} (hk : FnIs P k (c_ldef ι) r_ldef 1) (h : MLaws P ι) (l : List UInt8) (v : Value) (H : Hp) (hT : TabOk ι H) (hv : SlR H v (w8 l)) :
    CallsM P k #[v] H fun r H' => r = .bool true ∧ Keep (fun _ => False) H H' := by
  obtain ⟨R, hR⟩ : ∃ R : Value → Hp → Prop, R = fun r H' => r = .bool true ∧ Keep (fun _ => False) H H' := ⟨_, rfl⟩
  rw [← hR]
  refine calls_of_vc hk (args := [_]) (by simp) ?_
  unfold c_ldef r_ldef
  obtain ⟨a1, a2⟩ := allX (l := l)
  have hX6 := smallF_len l
  have hXb := smallF_bt l
  simp only [go_sem, List.map_cons, List.map_nil, ↓reduceIte, Nat.reduceEqDiff, Nat.reduceAdd, Nat.reduceMul, reduceCtorEq, and_true, true_and, Nat.mul_one, Nat.zero_add, Bool.false_eq_true, decide_true, decide_false, not_false_eq_true, kont_eq]
  refine (h.aw H hT).mono ?_
  rintro r H1 ⟨rfl, K1⟩
  simp only [go_sem, List.map_cons, List.map_nil, ↓reduceIte, Nat.reduceEqDiff, Nat.reduceAdd, Nat.reduceMul, reduceCtorEq, and_true, true_and, Nat.mul_one, Nat.zero_add, Bool.false_eq_true, decide_true, decide_false, not_false_eq_true, kont_eq]
  refine (h.sm l v H1 (hv.keep K1 (by simp))).mono ?_
  rintro x H2 ⟨O2, o2, K2⟩
  generalize smallF l = X at *
  simp only [go_sem, List.map_cons, List.map_nil, ↓reduceIte, Nat.reduceEqDiff, Nat.reduceAdd, Nat.reduceMul, reduceCtorEq, and_true, true_and, Nat.mul_one, Nat.zero_add, Bool.false_eq_true, decide_true, decide_false, not_false_eq_true, kont_eq]
  refine (h.al X 0 0 x H2 O2.sl hX6 hXb (by omega) (by omega)).mono ?_
  rintro a H3 ⟨avs, A3, K3⟩
  rw [List.drop_zero] at A3
  simp only [go_sem, List.map_cons, List.map_nil, ↓reduceIte, Nat.reduceEqDiff, Nat.reduceAdd, Nat.reduceMul, reduceCtorEq, and_true, true_and, Nat.mul_one, Nat.zero_add, Bool.false_eq_true, decide_true, decide_false, not_false_eq_true, kont_eq]
  refine (h.gr X x H3 (O2.sl.keep K3 (by simp)) (by omega)).mono ?_
  rintro g H4 ⟨gvs, G4, K4⟩
  simp only [go_sem, List.map_cons, List.map_nil, ↓reduceIte, Nat.reduceEqDiff, Nat.reduceAdd, Nat.reduceMul, reduceCtorEq, and_true, true_and, Nat.mul_one, Nat.zero_add, Bool.false_eq_true, decide_true, decide_false, not_false_eq_true, kont_eq]
  have hT4 := (((hT.keep K1).keep K2).keep K3).keep K4
  refine (h.df _ g _ H4 hT4 G4.toM (by rw [List.length_map]; omega)).mono ?_
  intro r H5 hp
  obtain ⟨dv, rfl, S5, K5⟩ := hp.toX (by omega)
  have K05 := (((K1.trans K2).trans K3).trans K4).trans K5
  have A5 : LsR H5 a (allF X 0) avs := ⟨A3.ow.sl.keep (K4.trans K5) (by simp), A3.len, fun i hi => (A3.at_ i hi).keep (K4.trans K5) (by simp)⟩
  have X5 := O2.sl.keep (K3.trans (K4.trans K5)) (by simp)
  rw [kont_eq]
  simp only [go_sem, List.map_cons, List.map_nil, ↓reduceIte, Nat.reduceEqDiff, Nat.reduceAdd, Nat.reduceMul, reduceCtorEq, and_true, true_and, Nat.mul_one, Nat.zero_add, Bool.false_eq_true, decide_true, decide_false, not_false_eq_true]
  refine (h.rz _ a avs H5 A5 a1 (fun m hm => by rw [a2 m hm]; omega)).mono ?_
  rintro r H7 ⟨rfl, rfl⟩
  have d1 : (decide (szF (allF X 0) < X.length) == decide ((szF (allF X 0) : Int) < (X.length : Int))) = true := by
    rw [beq_iff_eq]; exact decide_eq_decide.2 (by omega)
  rw [kont_eq]
  simp only [go_sem, List.map_cons, List.map_nil, ↓reduceIte, Nat.reduceEqDiff, Nat.reduceAdd, Nat.reduceMul, reduceCtorEq, and_true, true_and, Nat.mul_one, Nat.zero_add, Bool.false_eq_true, decide_true, decide_false, not_false_eq_true, X5.isSl, X5.len, w64_len, d1]
  refine (h.rd _ a avs X.length H7 A5 a1 a2 (by omega)).mono ?_
  rintro dr H8 ⟨O8, o8, K8⟩
  rw [kont_eq]
  simp only [go_sem, List.map_cons, List.map_nil, ↓reduceIte, Nat.reduceEqDiff, Nat.reduceAdd, Nat.reduceMul, reduceCtorEq, and_true, true_and, Nat.mul_one, Nat.zero_add, Bool.false_eq_true, decide_true, decide_false, not_false_eq_true]
  have hl8 := defL_le (allF X 0) X.length
  refine (h.eq _ _ _ _ H8 (S5.keep K8 (by simp)) O8.sl (by rw [nI_len]; omega)).mono ?_
  rintro r H9 ⟨rfl, rfl⟩
  have d2 : decide (nI (defL (allF X 0) X.length) = nI (defL (allF X 0) X.length)) = true := by simp
  rw [d2]
  simp only [go_sem, List.map_cons, List.map_nil, ↓reduceIte, Nat.reduceEqDiff, Nat.reduceAdd, Nat.reduceMul, reduceCtorEq, and_true, true_and, Nat.mul_one, Nat.zero_add, Bool.false_eq_true, decide_true, decide_false, not_false_eq_true, kont_eq]
  rw [hR]
  exact ⟨rfl, K05.trans K8⟩
theorem lleast_ok {P : Program} {ι : Ids} {k : FuncId} (hk : FnIs P k (c_lleast ι) r_lleast 1) (h : MLaws P ι) (l : List UInt8) (v : Value) (H : Hp) (hT : TabOk ι H) (hv : SlR H v (w8 l)) :
    CallsM P k #[v] H fun r H' => r = .bool true ∧ Keep (fun _ => False) H H' := by
  obtain ⟨R, hR⟩ : ∃ R : Value → Hp → Prop, R = fun r H' => r = .bool true ∧ Keep (fun _ => False) H H' := ⟨_, rfl⟩
  rw [← hR]
  refine calls_of_vc hk (args := [_]) (by simp) ?_
  unfold c_lleast r_lleast
  obtain ⟨a1, a2⟩ := allX (l := l)
  have hX6 := smallF_len l
  have hXb := smallF_bt l
  simp only [go_sem, List.map_cons, List.map_nil, ↓reduceIte, Nat.reduceEqDiff, Nat.reduceAdd, Nat.reduceMul, reduceCtorEq, and_true, true_and, Nat.mul_one, Nat.zero_add, Bool.false_eq_true, decide_true, decide_false, not_false_eq_true, kont_eq]
  refine (h.aw H hT).mono ?_
  rintro r H1 ⟨rfl, K1⟩
  simp only [go_sem, List.map_cons, List.map_nil, ↓reduceIte, Nat.reduceEqDiff, Nat.reduceAdd, Nat.reduceMul, reduceCtorEq, and_true, true_and, Nat.mul_one, Nat.zero_add, Bool.false_eq_true, decide_true, decide_false, not_false_eq_true, kont_eq]
  refine (h.sm l v H1 (hv.keep K1 (by simp))).mono ?_
  rintro x H2 ⟨O2, o2, K2⟩
  generalize smallF l = X at *
  simp only [go_sem, List.map_cons, List.map_nil, ↓reduceIte, Nat.reduceEqDiff, Nat.reduceAdd, Nat.reduceMul, reduceCtorEq, and_true, true_and, Nat.mul_one, Nat.zero_add, Bool.false_eq_true, decide_true, decide_false, not_false_eq_true, kont_eq]
  refine (h.gr X x H2 O2.sl (by omega)).mono ?_
  rintro g H3 ⟨gvs, G3, K3⟩
  simp only [go_sem, List.map_cons, List.map_nil, ↓reduceIte, Nat.reduceEqDiff, Nat.reduceAdd, Nat.reduceMul, reduceCtorEq, and_true, true_and, Nat.mul_one, Nat.zero_add, Bool.false_eq_true, decide_true, decide_false, not_false_eq_true, kont_eq]
  have hT3 := ((hT.keep K1).keep K2).keep K3
  refine (h.le _ g _ H3 hT3 G3.toM (by rw [List.length_map]; omega)).mono ?_
  intro r H4 hp
  obtain ⟨hp, K4⟩ := hp.toX (by omega)
  have X4 := O2.sl.keep (K3.trans K4) (by simp)
  have hT4 := hT3.keep K4
  have K04 := ((K1.trans K2).trans K3).trans K4
  have dt : ((true : Bool) == true) = true := rfl
  have df : ((false : Bool) == false) = true := rfl
  obtain ⟨mv, b, L, hr, hsh, hm, hL, hc⟩ : ∃ (mv : Value) (b : Bool) (L : List Int), r = .tuple #[mv, .bool b] ∧ (∃ a n c, mv = .slice a n c) ∧ SlR H4 mv (iL L) ∧ L.length ≤ 1000 ∧ ((leastF (allF X 0) X.length = none ∧ b = false ∧ L = []) ∨ (leastF (allF X 0) X.length = some L ∧ b = true)) := by
    rcases hp with ⟨hn, rfl⟩ | ⟨mv, m, hs, rfl, S4⟩
    · exact ⟨_, _, [], rfl, ⟨_, _, _, rfl⟩, SlR.nil _ _ _, by simp, .inl ⟨hn, rfl, rfl⟩⟩
    · obtain ⟨ma, mc, rfl, -⟩ := id S4.mk
      exact ⟨_, _, m, rfl, ⟨_, _, _, rfl⟩, S4, by have := (leastF_some (N := 256) (by omega) hs).1; omega, .inr ⟨hs, rfl⟩⟩
  subst hr
  obtain ⟨ma, mn, mc, rfl⟩ := hsh
  simp only [go_sem, List.map_cons, List.map_nil, ↓reduceIte, Nat.reduceEqDiff, Nat.reduceAdd, Nat.reduceMul, reduceCtorEq, and_true, true_and, Nat.mul_one, Nat.zero_add, Bool.false_eq_true, decide_true, decide_false, not_false_eq_true, kont_eq]
  refine (h.al X 0 0 x H4 X4 hX6 hXb (by omega) (by omega)).mono ?_
  rintro a H5 ⟨avs, A5, K5⟩
  rw [List.drop_zero] at A5
  have X5 := X4.keep K5 (by simp)
  rw [kont_eq]
  simp only [go_sem, List.map_cons, List.map_nil, ↓reduceIte, Nat.reduceEqDiff, Nat.reduceAdd, Nat.reduceMul, reduceCtorEq, and_true, true_and, Nat.mul_one, Nat.zero_add, Bool.false_eq_true, decide_true, decide_false, not_false_eq_true, X5.isSl, X5.len, w64_len]
  refine (h.rl _ a avs X.length H5 A5.toR a1 (fun m hm => by rw [a2 m hm]; omega)).mono ?_
  rintro r H6 ⟨hp, rfl⟩
  rcases hp with ⟨hn, rfl⟩ | ⟨u, m, hs, rfl, S6⟩
  · rcases hc with ⟨_, rfl, rfl⟩ | ⟨h', _⟩
    · rw [kont_eq]
      simp only [go_sem, List.map_cons, List.map_nil, ↓reduceIte, Nat.reduceEqDiff, Nat.reduceAdd, Nat.reduceMul, reduceCtorEq, and_true, true_and, Nat.mul_one, Nat.zero_add, Bool.false_eq_true, decide_true, decide_false, not_false_eq_true, df]
      refine (h.eq [] [] _ _ H6 (hm.keep K5 (by simp)) (SlR.nil _ _ _) (by simp)).mono ?_
      rintro r H7 ⟨rfl, rfl⟩
      have d2 : decide (([] : List Int) = []) = true := by simp
      rw [d2]
      simp only [go_sem, List.map_cons, List.map_nil, ↓reduceIte, Nat.reduceEqDiff, Nat.reduceAdd, Nat.reduceMul, reduceCtorEq, and_true, true_and, Nat.mul_one, Nat.zero_add, Bool.false_eq_true, decide_true, decide_false, not_false_eq_true, kont_eq]
      rw [hR]
      exact ⟨rfl, K04.trans K5⟩
    · rw [hn] at h'; cases h'
  · rcases hc with ⟨h', _⟩ | ⟨h', rfl⟩
    · rw [hs] at h'; cases h'
    · rw [hs] at h'
      cases h'
      obtain ⟨ua, uc, rfl, -⟩ := id S6.mk
      rw [kont_eq]
      simp only [go_sem, List.map_cons, List.map_nil, ↓reduceIte, Nat.reduceEqDiff, Nat.reduceAdd, Nat.reduceMul, reduceCtorEq, and_true, true_and, Nat.mul_one, Nat.zero_add, Bool.false_eq_true, decide_true, decide_false, not_false_eq_true, dt]
      refine (h.eq L L _ _ H6 (hm.keep K5 (by simp)) S6 (by omega)).mono ?_
      rintro r H7 ⟨rfl, rfl⟩
      have d2 : decide (L = L) = true := by simp
      rw [d2]
      simp only [go_sem, List.map_cons, List.map_nil, ↓reduceIte, Nat.reduceEqDiff, Nat.reduceAdd, Nat.reduceMul, reduceCtorEq, and_true, true_and, Nat.mul_one, Nat.zero_add, Bool.false_eq_true, decide_true, decide_false, not_false_eq_true, kont_eq]
      rw [hR]
      exact ⟨rfl, K04.trans K5⟩
theorem ckP_iff {X : List UInt64} {m : List Int} (hX : X.length ≤ 256) : CkP (X.map bt) m ↔ InF X 0 m := by
  have hgd : ∀ a < X.length, (X.map bt).getD a (fun _ => false) = bt (bx X a) := by
    intro a ha
    unfold bx
    rw [List.getD_eq_getElem?_getD, List.getD_eq_getElem?_getD, List.getElem?_map, List.getElem?_eq_getElem ha]; rfl
  have hmem : ∀ a < X.length, (gi m a = -1 ∨ memI ((X.map bt).getD a fun _ => false) (gi m a) = true) ↔ (gi m a = -1 ∨ ∃ j : Nat, j < 64 ∧ gi m a = (j : Int) ∧ bt (bx X a) j = true) := by
    intro a ha
    rw [hgd a ha]
    refine or_congr_right ⟨fun h => ?_, fun ⟨j, h1, h2, h3⟩ => ?_⟩
    · unfold memI at h
      simp only [Bool.and_eq_true, decide_eq_true_eq] at h
      exact ⟨(gi m a).toNat, bt_lt h.2, by omega, h.2⟩
    · unfold memI
      simp only [Bool.and_eq_true, decide_eq_true_eq]
      rw [h2]
      exact ⟨⟨by omega, by omega⟩, by simpa using h3⟩
  constructor
  · rintro ⟨_, hl, h1, h2⟩
    rw [List.length_map] at hl
    refine (InTo.all hl).1 ⟨fun a ha => (hmem a (by omega)).1 (h1 a ha), fun a ha b hb e hn => h2 a ha b hb e (by omega)⟩
  · intro h
    have hl := h.len
    obtain ⟨h1, h2⟩ := (InTo.all hl).2 h
    refine ⟨chk_bt X hX, by rw [List.length_map]; exact hl, fun a ha => (hmem a (by omega)).2 (h1 a ha), fun a ha b hb e hn => h2 a ha b hb e ?_⟩
    rcases h1 a ha with h | ⟨j, _, h, _⟩
    · exact absurd h hn
    · omega
theorem lchk_ok {P : Program} {ι : Ids} {k : FuncId} (hk : FnIs P k (c_lchk ι) r_lchk 2) (h : MLaws P ι) (l : List UInt8) (m : List Int) (v w : Value) (H : Hp) (hT : TabOk ι H) (hv : SlR H v (w8 l)) (hw : SlR H w (iL m)) :
    CallsM P k #[v, w] H fun r H' => r = .bool true ∧ Keep (fun _ => False) H H' := by
  obtain ⟨R, hR⟩ : ∃ R : Value → Hp → Prop, R = fun r H' => r = .bool true ∧ Keep (fun _ => False) H H' := ⟨_, rfl⟩
  rw [← hR]
  refine calls_of_vc hk (args := [_, _]) (by simp) ?_
  unfold c_lchk r_lchk
  have hX6 := smallF_len l
  simp only [go_sem, List.map_cons, List.map_nil, ↓reduceIte, Nat.reduceEqDiff, Nat.reduceAdd, Nat.reduceMul, reduceCtorEq, and_true, true_and, Nat.mul_one, Nat.zero_add, Bool.false_eq_true, decide_true, decide_false, not_false_eq_true, kont_eq]
  refine (h.aw H hT).mono ?_
  rintro r H1 ⟨rfl, K1⟩
  simp only [go_sem, List.map_cons, List.map_nil, ↓reduceIte, Nat.reduceEqDiff, Nat.reduceAdd, Nat.reduceMul, reduceCtorEq, and_true, true_and, Nat.mul_one, Nat.zero_add, Bool.false_eq_true, decide_true, decide_false, not_false_eq_true, kont_eq]
  refine (h.sm l v H1 (hv.keep K1 (by simp))).mono ?_
  rintro x H2 ⟨O2, o2, K2⟩
  generalize smallF l = X at *
  simp only [go_sem, List.map_cons, List.map_nil, ↓reduceIte, Nat.reduceEqDiff, Nat.reduceAdd, Nat.reduceMul, reduceCtorEq, and_true, true_and, Nat.mul_one, Nat.zero_add, Bool.false_eq_true, decide_true, decide_false, not_false_eq_true, kont_eq]
  refine (h.gr X x H2 O2.sl (by omega)).mono ?_
  rintro g H3 ⟨gvs, G3, K3⟩
  simp only [go_sem, List.map_cons, List.map_nil, ↓reduceIte, Nat.reduceEqDiff, Nat.reduceAdd, Nat.reduceMul, reduceCtorEq, and_true, true_and, Nat.mul_one, Nat.zero_add, Bool.false_eq_true, decide_true, decide_false, not_false_eq_true, kont_eq]
  refine (h.ck _ m g w _ H3 G3.toM (hw.keep ((K1.trans K2).trans K3) (by simp)) (by rw [List.length_map]; omega)).mono ?_
  rintro r H4 ⟨⟨b, rfl, hb⟩, K4⟩
  simp only [go_sem, List.map_cons, List.map_nil, ↓reduceIte, Nat.reduceEqDiff, Nat.reduceAdd, Nat.reduceMul, reduceCtorEq, and_true, true_and, Nat.mul_one, Nat.zero_add, Bool.false_eq_true, decide_true, decide_false, not_false_eq_true, kont_eq]
  refine (h.rc X m x w H4 (O2.sl.keep (K3.trans K4) (by simp)) (hw.keep (((K1.trans K2).trans K3).trans K4) (by simp)) (by omega)).mono ?_
  rintro r H5 ⟨⟨b', rfl, hb'⟩, rfl⟩
  have e : b = b' := by
    have : b = true ↔ b' = true := by rw [hb, hb', ckP_iff (by omega)]
    cases b <;> cases b' <;> simp_all
  subst e
  have d1 : (b == b) = true := by simp
  simp only [go_sem, List.map_cons, List.map_nil, ↓reduceIte, Nat.reduceEqDiff, Nat.reduceAdd, Nat.reduceMul, reduceCtorEq, and_true, true_and, Nat.mul_one, Nat.zero_add, Bool.false_eq_true, decide_true, decide_false, not_false_eq_true, kont_eq, d1]
  rw [hR]
  exact ⟨rfl, ((K1.trans K2).trans K3).trans K4⟩
end Go.Mg

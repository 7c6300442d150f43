/- names: the laws of nil tables, of keywords, of additions. -/
import Derived.Test.YtpifmenfgbcneaaMgN4
namespace Go.Mg
open Go Go.RowKit
set_option linter.unusedSimpArgs false
set_option linter.unusedVariables false
set_option maxRecDepth 100000
/- arbaclaw08.NamesNil -/
def c_lnnil (ι : Ids) : S :=
  .seq (.reg [.p (.v 4) (.mv (.c (.bool false)))]) (.seq (.seq (.reg [.e (.t 13) (.call (ι.f 91) []), .p (.v 14) (.not (.t 13))]) (.ite (.v 14) (.seq (.reg [.p (.v 4) (.mv (.c (.bool false)))]) .ret)
  .skip)) (.seq (.reg [.p (.v 5) (.mv (.c (.pointer .none)))]) (.seq (.reg [.p (.t 16) (.mv (.v 5)), .p (.t 17) (.mv (.v 0)), .p (.t 18) (.mv (.v 1)), .e (.t 19) (.call (ι.f 84) [.t 16, .t 17, .t 18]),
  .p (.t 15) (.mv (.t 19)), .p (.t 20) (.ext (.t 15) 0), .p (.t 21) (.ext (.t 15) 1), .p (.t 22) (.ext (.t 15) 2), .p (.v 6) (.mv (.t 20)), .p (.v 7) (.mv (.t 21)), .p (.v 8) (.mv (.t 22))]) (.seq (.reg
  [.p (.t 24) (.mv (.v 5)), .p (.t 25) (.mv (.v 0)), .e (.t 26) (.call (ι.f 87) [.t 24, .t 25]), .p (.t 23) (.mv (.t 26)), .p (.t 27) (.ext (.t 23) 0), .p (.t 28) (.ext (.t 23) 1), .p (.v 9) (.mv (.t
  27)), .p (.v 10) (.mv (.t 28))]) (.seq (.reg [.p (.t 30) (.mv (.v 5)), .p (.t 31) (.mv (.v 1)), .e (.t 32) (.call (ι.f 88) [.t 30, .t 31]), .p (.t 29) (.mv (.t 32)), .p (.t 33) (.ext (.t 29) 0), .p
  (.t 34) (.ext (.t 29) 1), .p (.v 11) (.mv (.t 33)), .p (.v 12) (.mv (.t 34))]) (.seq (.reg [.p (.t 35) (.mv (.v 6)), .p (.t 36) (.m (.eqn .ptr false (.t 35))), .p (.t 37) (.mv (.t 36)), .gp (.t 38)
  (.t 37) true (.mv (.v 7)), .gp (.t 39) (.t 37) true (.cm .eql .i64 (.t 38) (.c (.int .i64 0))), .p (.t 40) (.pick (.t 37) (.t 39) (.c (.bool false))), .p (.t 41) (.mv (.t 40)), .gp (.t 42) (.t 41)
  true (.mv (.v 8)), .gp (.t 43) (.t 41) true (.cm .eql .i64 (.t 42) (.c (.int .i64 1))), .p (.t 44) (.pick (.t 41) (.t 43) (.c (.bool false))), .p (.t 45) (.mv (.t 44)), .gp (.t 46) (.t 45) true (.mv
  (.v 9)), .gp (.t 47) (.t 45) true (.cm .eql .i64 (.t 46) (.c (.int .i64 0))), .p (.t 48) (.pick (.t 45) (.t 47) (.c (.bool false))), .p (.t 49) (.mv (.t 48)), .gp (.t 50) (.t 49) true (.mv (.v 10)),
  .gp (.t 51) (.t 49) true (.not (.t 50)), .p (.t 52) (.pick (.t 49) (.t 51) (.c (.bool false))), .p (.t 53) (.mv (.t 52)), .gp (.t 54) (.t 53) true (.mv (.v 11)), .gp (.t 55) (.t 53) true (.sc .eql (.t
  54) (.c (.string ⟨#[]⟩))), .p (.t 56) (.pick (.t 53) (.t 55) (.c (.bool false))), .p (.t 57) (.mv (.t 56)), .gp (.t 58) (.t 57) true (.mv (.v 12)), .gp (.t 59) (.t 57) true (.not (.t 58)), .p (.t 60)
  (.pick (.t 57) (.t 59) (.c (.bool false))), .p (.t 61) (.mv (.t 60)), .gp (.t 62) (.t 61) true (.mv (.v 5)), .ge (.t 63) (.t 61) true (.call (ι.f 85) [.t 62]), .gp (.t 64) (.t 61) true (.cm .eql .i64
  (.t 63) (.c (.int .i64 0))), .p (.t 65) (.pick (.t 61) (.t 64) (.c (.bool false))), .p (.t 66) (.mv (.t 65)), .gp (.t 67) (.t 66) true (.mv (.v 5)), .ge (.t 68) (.t 66) true (.call (ι.f 86) [.t 67]),
  .gp (.t 69) (.t 66) true (.m (.lenl (.t 68))), .gp (.t 70) (.t 66) true (.cm .eql .i64 (.t 69) (.c (.int .i64 0))), .p (.t 71) (.pick (.t 66) (.t 70) (.c (.bool false))), .p (.t 72) (.mv (.t 71)), .gp
  (.t 73) (.t 72) true (.mv (.v 5)), .ge (.t 74) (.t 72) true (.call (ι.f 95) [.t 73, .c (.pointer .none)]), .p (.t 75) (.pick (.t 72) (.t 74) (.c (.bool false))), .p (.t 76) (.mv (.t 75)), .gp (.t 77)
  (.t 76) true (.mv (.v 5)), .ge (.t 78) (.t 76) true (.call (ι.f 83) []), .ge (.t 79) (.t 76) true (.call (ι.f 95) [.t 77, .t 78]), .gp (.t 80) (.t 76) true (.not (.t 79)), .p (.t 81) (.pick (.t 76)
  (.t 80) (.c (.bool false))), .p (.t 82) (.mv (.t 81)), .ge (.t 83) (.t 82) true (.call (ι.f 83) []), .ge (.t 84) (.t 82) true (.call (ι.f 95) [.t 83, .c (.pointer .none)]), .gp (.t 85) (.t 82) true
  (.not (.t 84)), .p (.t 86) (.pick (.t 82) (.t 85) (.c (.bool false))), .p (.t 87) (.mv (.t 86)), .gp (.t 88) (.t 87) true (.mv (.v 5)), .ge (.t 89) (.t 87) true (.call (ι.f 90) [.t 88]), .gp (.t 90)
  (.t 87) true (.m (.lenl (.t 89))), .gp (.t 91) (.t 87) true (.cm .eql .i64 (.t 90) (.c (.int .i64 0))), .p (.t 92) (.pick (.t 87) (.t 91) (.c (.bool false))), .p (.v 4) (.mv (.t 92))]) .ret))))))
def r_lnnil : List RV := [.t 4]

def AddNil (P : Program) (k : FuncId) : Prop := ∀ (s : List UInt8) (n : Int) (H : Hp), CallsM P k #[.pointer none, sV s, .int .i64 n] H fun r H' => r = .tuple #[.pointer none, .int .i64 0, .int .i64 1] ∧ H' = H
theorem nadd_nil {P : Program} {ι : Ids} {k : FuncId} (hk : FnIs P k (c_nadd ι) r_nadd 3) : AddNil P k := by
  intro s n H
  refine calls_of_vc hk (args := [_, _, _]) (by simp) ?_
  unfold c_nadd r_nadd
  simp only [go_sem, List.map_cons, List.map_nil, ↓reduceIte, Nat.reduceEqDiff, Nat.reduceAdd, Nat.reduceMul, reduceCtorEq, and_true, true_and, Nat.mul_one, Nat.zero_add, Bool.false_eq_true, decide_true, decide_false, not_false_eq_true, kont_eq]
def NBytesNil (P : Program) (k : FuncId) : Prop := ∀ H, CallsM P k #[.pointer none] H fun r H' => r = .slice none 0 0 ∧ H' = H
theorem nbytes_nil {P : Program} {ι : Ids} {k : FuncId} (hk : FnIs P k (c_nbytes ι) r_nbytes 1) : NBytesNil P k := by
  intro H
  refine calls_of_vc hk (args := [_]) (by simp) ?_
  unfold c_nbytes r_nbytes
  simp only [go_sem, List.map_cons, List.map_nil, ↓reduceIte, Nat.reduceEqDiff, Nat.reduceAdd, Nat.reduceMul, reduceCtorEq, and_true, true_and, Nat.mul_one, Nat.zero_add, Bool.false_eq_true, decide_true, decide_false, not_false_eq_true, kont_eq]
theorem lnnil_ok {P : Program} {ι : Ids} {k : FuncId} (hk : FnIs P k (c_lnnil ι) r_lnnil 2) (ha : NAwakeSpec P (ι.f 91)) (han : AddNil P (ι.f 84)) (hnu : NNumberSpec P (ι.f 87)) (hna : NNameSpec P (ι.f 88))
    (hle : NLenSpec P (ι.f 85)) (hns : NNamesSpec P (ι.f 86)) (heq : NEqualSpec P (ι.f 95)) (hnw : NNewSpec P (ι.f 83)) (hb : NBytesNil P (ι.f 90))
    (s : List UInt8) (n : Int) (H : Hp) : CallsM P k #[sV s, .int .i64 n] H fun r H' => r = .bool true ∧ Keep (fun _ => False) H H' := by
  refine calls_of_vc hk (args := [_, _]) (by simp) ?_
  unfold c_lnnil r_lnnil
  simp only [go_sem, List.map_cons, List.map_nil, ↓reduceIte, Nat.reduceEqDiff, Nat.reduceAdd, Nat.reduceMul, reduceCtorEq, and_true, true_and, Nat.mul_one, Nat.zero_add, Bool.false_eq_true, decide_true, decide_false, not_false_eq_true, kont_eq]
  refine (ha _).mono ?_
  rintro r H1 ⟨rfl, K1⟩
  simp only [go_sem, List.map_cons, List.map_nil, ↓reduceIte, Nat.reduceEqDiff, Nat.reduceAdd, Nat.reduceMul, reduceCtorEq, and_true, true_and, Nat.mul_one, Nat.zero_add, Bool.false_eq_true, decide_true, decide_false, not_false_eq_true, kont_eq]
  refine (han _ _ _).mono ?_
  rintro r H1' ⟨rfl, rfl⟩
  simp only [go_sem, List.map_cons, List.map_nil, ↓reduceIte, Nat.reduceEqDiff, Nat.reduceAdd, Nat.reduceMul, reduceCtorEq, and_true, true_and, Nat.mul_one, Nat.zero_add, Bool.false_eq_true, decide_true, decide_false, not_false_eq_true, kont_eq]
  refine (hnu.2 _ _).mono ?_
  rintro r H1' ⟨rfl, rfl⟩
  simp only [go_sem, List.map_cons, List.map_nil, ↓reduceIte, Nat.reduceEqDiff, Nat.reduceAdd, Nat.reduceMul, reduceCtorEq, and_true, true_and, Nat.mul_one, Nat.zero_add, Bool.false_eq_true, decide_true, decide_false, not_false_eq_true, kont_eq]
  refine (hna.2 _ _).mono ?_
  rintro r H1' ⟨rfl, rfl⟩
  have e0 : ((⟨#[]⟩ : ByteArray).toList == (⟨#[]⟩ : ByteArray).toList) = true := ba_tlb [] []
  simp only [go_sem, List.map_cons, List.map_nil, ↓reduceIte, Nat.reduceEqDiff, Nat.reduceAdd, Nat.reduceMul, reduceCtorEq, and_true, true_and, Nat.mul_one, Nat.zero_add, Bool.false_eq_true, decide_true, decide_false, not_false_eq_true, kont_eq, beq_self_eq_true, e0]
  refine (hle.2 _).mono ?_
  rintro r H1' ⟨rfl, rfl⟩
  simp only [go_sem, List.map_cons, List.map_nil, ↓reduceIte, Nat.reduceEqDiff, Nat.reduceAdd, Nat.reduceMul, reduceCtorEq, and_true, true_and, Nat.mul_one, Nat.zero_add, Bool.false_eq_true, decide_true, decide_false, not_false_eq_true, kont_eq, beq_self_eq_true]
  refine (hns.2 _).mono ?_
  rintro r H1' ⟨rfl, rfl⟩
  have z0 : (((0 : Nat) : Int) == 0) = true := rfl
  simp only [go_sem, List.map_cons, List.map_nil, ↓reduceIte, Nat.reduceEqDiff, Nat.reduceAdd, Nat.reduceMul, reduceCtorEq, and_true, true_and, Nat.mul_one, Nat.zero_add, Bool.false_eq_true, decide_true, decide_false, not_false_eq_true, kont_eq, beq_self_eq_true, z0]
  refine (heq.2.1 _).mono ?_
  rintro r H1' ⟨rfl, rfl⟩
  simp only [go_sem, List.map_cons, List.map_nil, ↓reduceIte, Nat.reduceEqDiff, Nat.reduceAdd, Nat.reduceMul, reduceCtorEq, and_true, true_and, Nat.mul_one, Nat.zero_add, Bool.false_eq_true, decide_true, decide_false, not_false_eq_true, kont_eq]
  refine (hnw _).mono ?_
  rintro r H2 ⟨rfl, T2, K2, z2⟩
  simp only [go_sem, List.map_cons, List.map_nil, ↓reduceIte, Nat.reduceEqDiff, Nat.reduceAdd, Nat.reduceMul, reduceCtorEq, and_true, true_and, Nat.mul_one, Nat.zero_add, Bool.false_eq_true, decide_true, decide_false, not_false_eq_true, kont_eq]
  refine (heq.2.2.1 _ _).mono ?_
  rintro r H2' ⟨rfl, rfl⟩
  simp only [go_sem, List.map_cons, List.map_nil, ↓reduceIte, Nat.reduceEqDiff, Nat.reduceAdd, Nat.reduceMul, reduceCtorEq, and_true, true_and, Nat.mul_one, Nat.zero_add, Bool.false_eq_true, decide_true, decide_false, not_false_eq_true, kont_eq]
  refine (hnw _).mono ?_
  rintro r H3 ⟨rfl, T3, K3, z3⟩
  simp only [go_sem, List.map_cons, List.map_nil, ↓reduceIte, Nat.reduceEqDiff, Nat.reduceAdd, Nat.reduceMul, reduceCtorEq, and_true, true_and, Nat.mul_one, Nat.zero_add, Bool.false_eq_true, decide_true, decide_false, not_false_eq_true, kont_eq]
  refine (heq.2.2.2 _ _).mono ?_
  rintro r H3' ⟨rfl, rfl⟩
  simp only [go_sem, List.map_cons, List.map_nil, ↓reduceIte, Nat.reduceEqDiff, Nat.reduceAdd, Nat.reduceMul, reduceCtorEq, and_true, true_and, Nat.mul_one, Nat.zero_add, Bool.false_eq_true, decide_true, decide_false, not_false_eq_true, kont_eq]
  refine (hb _).mono ?_
  rintro r H3' ⟨rfl, rfl⟩
  simp only [go_sem, List.map_cons, List.map_nil, ↓reduceIte, Nat.reduceEqDiff, Nat.reduceAdd, Nat.reduceMul, reduceCtorEq, and_true, true_and, Nat.mul_one, Nat.zero_add, Bool.false_eq_true, decide_true, decide_false, not_false_eq_true, kont_eq, z0]
  exact (K1.trans K2).trans K3
end Go.Mg

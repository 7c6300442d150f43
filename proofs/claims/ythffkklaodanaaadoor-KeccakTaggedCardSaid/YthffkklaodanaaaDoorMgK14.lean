/- keccak: the law of sums. -/
import Derived.Test.YthffkklaodanaaaDoorMgK13
namespace Go.Mg
open Go Go.RowKit
set_option linter.unusedSimpArgs false
set_option linter.unusedVariables false
set_option maxRecDepth 100000
/- arbaclaw03.KeccakSums -/
def c_lsums (ι : Ids) : S :=
  .seq (.reg [.p (.v 2) (.mv (.c (.bool false)))]) (.seq (.reg [.e (.t 3) (.call (ι.f 21) []), .p (.t 4) (.mv (.t 3)), .gp (.t 5) (.t 4) true (.mv (.v 0)), .ge (.t 6) (.t 4) true (.call (ι.f 18) [.t
  5]), .ge (.t 7) (.t 4) true (.call (ι.f 14) [.t 6]), .gp (.t 8) (.t 4) true (.mv (.v 0)), .ge (.t 9) (.t 4) true (.call (ι.f 18) [.t 8]), .ge (.t 10) (.t 4) true (.call (ι.f 33) [.t 9]), .gp (.t 11)
  (.t 4) true (.m (.eqa false .u8 32 (.t 7) (.t 10))), .p (.t 12) (.pick (.t 4) (.t 11) (.c (.bool false))), .p (.v 2) (.mv (.t 12))]) .ret)
def r_lsums : List RV := [.t 2]

theorem sums_ok {P : Program} {ι : Ids} {k : FuncId} (hk : FnIs P k (c_lsums ι) r_lsums 1) (ha : AwakeSpec P ι (ι.f 21)) (hsh : ShortSpec P (ι.f 18)) (hks : KSumSpec P ι (ι.f 14)) (hrs : RSumSpec P (ι.f 33))
    (a : List UInt8) (va : Value) (H : Hp) (hG : GlobOk ι H) (hva : SlR H va (w8 a)) : CallsM P k #[va] H fun r H' => r = .bool true ∧ Keep (fun _ => False) H H' := by
  refine calls_of_vc hk (args := [_]) (by simp) ?_
  unfold c_lsums r_lsums
  simp only [go_sem, List.map_cons, List.map_nil, ↓reduceIte, Nat.reduceEqDiff, Nat.reduceAdd, Nat.reduceMul, reduceCtorEq, and_true, true_and, Nat.mul_one, Nat.zero_add, Bool.false_eq_true, decide_true, decide_false, not_false_eq_true, kont_eq]
  refine (ha _ hG).mono ?_
  rintro r H1 ⟨rfl, K1⟩
  simp only [go_sem, List.map_cons, List.map_nil, ↓reduceIte, Nat.reduceEqDiff, Nat.reduceAdd, Nat.reduceMul, reduceCtorEq, and_true, true_and, Nat.mul_one, Nat.zero_add, Bool.false_eq_true, decide_true, decide_false, not_false_eq_true, kont_eq]
  refine (hsh a va _ (hva.keep K1 (by simp))).mono ?_
  rintro va' H1' ⟨Sa, sba, rfl⟩
  simp only [go_sem, List.map_cons, List.map_nil, ↓reduceIte, Nat.reduceEqDiff, Nat.reduceAdd, Nat.reduceMul, reduceCtorEq, and_true, true_and, Nat.mul_one, Nat.zero_add, Bool.false_eq_true, decide_true, decide_false, not_false_eq_true, kont_eq]
  refine (hks _ _ _ Sa (hG.keep K1 (by simp) (by simp))).mono ?_
  rintro r H2 ⟨rfl, K2⟩
  have K2' := K1.trans K2
  simp only [go_sem, List.map_cons, List.map_nil, ↓reduceIte, Nat.reduceEqDiff, Nat.reduceAdd, Nat.reduceMul, reduceCtorEq, and_true, true_and, Nat.mul_one, Nat.zero_add, Bool.false_eq_true, decide_true, decide_false, not_false_eq_true, kont_eq]
  refine (hsh a va _ (hva.keep K2' (by simp))).mono ?_
  rintro va2 H2' ⟨Sa2, sba2, rfl⟩
  simp only [go_sem, List.map_cons, List.map_nil, ↓reduceIte, Nat.reduceEqDiff, Nat.reduceAdd, Nat.reduceMul, reduceCtorEq, and_true, true_and, Nat.mul_one, Nat.zero_add, Bool.false_eq_true, decide_true, decide_false, not_false_eq_true, kont_eq]
  refine (hrs _ _ _ Sa2 (by rw [List.length_take]; omega)).mono ?_
  rintro r H3 ⟨rfl, K3⟩
  simp only [go_sem, List.map_cons, List.map_nil, ↓reduceIte, Nat.reduceEqDiff, Nat.reduceAdd, Nat.reduceMul, reduceCtorEq, and_true, true_and, Nat.mul_one, Nat.zero_add, Bool.false_eq_true, decide_true, decide_false, not_false_eq_true, kont_eq, sumR_eq, w8_len, sumF_len, w8_eqv, decide_true, beq_self_eq_true]
  exact ⟨⟨w8_isI _, w8_isI _⟩, K2'.trans K3⟩
end Go.Mg

/- keccak: awake. -/
import Derived.Test.YthffkklaodanaaaDoorMgK6
namespace Go.Mg
open Go Go.RowKit
set_option linter.unusedSimpArgs false
set_option linter.unusedVariables false
set_option maxRecDepth 100000
/- arbaclaw03.awake -/
def c_awake (ι : Ids) : S :=
  .seq (.reg [.p (.v 0) (.mv (.c (.bool false)))]) (.seq (.reg [.e (.t 1) (.call (ι.f 14) [.c (.slice .none 0 0)]), .e (.t 2) (.call (ι.f 20) [.t 1]), .p (.t 3) (.sc .eql (.t 2) (.c (.string ⟨#[97, 55,
  102, 102, 99, 54, 102, 56, 98, 102, 49, 101, 100, 55, 54, 54, 53, 49, 99, 49, 52, 55, 53, 54, 97, 48, 54, 49, 100, 54, 54, 50, 102, 53, 56, 48, 102, 102, 52, 100, 101, 52, 51, 98, 52, 57, 102, 97, 56,
  50, 100, 56, 48, 97, 52, 98, 56, 48, 102, 56, 52, 51, 52, 97]⟩))), .p (.t 4) (.mv (.t 3)), .ge (.t 5) (.t 4) true (.bldF (ι.t 19) 1 3 [.c (.int .u8 97), .c (.int .u8 98), .c (.int .u8 99)]), .ge (.t
  6) (.t 4) true (.mark (.t 5)), .ge (.t 7) (.t 4) true (.call (ι.f 14) [.t 6]), .ge (.t 8) (.t 4) true (.call (ι.f 20) [.t 7]), .gp (.t 9) (.t 4) true (.sc .eql (.t 8) (.c (.string ⟨#[51, 97, 57, 56,
  53, 100, 97, 55, 52, 102, 101, 50, 50, 53, 98, 50, 48, 52, 53, 99, 49, 55, 50, 100, 54, 98, 100, 51, 57, 48, 98, 100, 56, 53, 53, 102, 48, 56, 54, 101, 51, 101, 57, 100, 53, 50, 53, 98, 52, 54, 98,
  102, 101, 50, 52, 53, 49, 49, 52, 51, 49, 53, 51, 50]⟩))), .p (.t 10) (.pick (.t 4) (.t 9) (.c (.bool false))), .p (.v 0) (.mv (.t 10))]) .ret)
def r_awake : List RV := [.t 0]
theorem aw1 : hexF (sumF []) = [97, 55, 102, 102, 99, 54, 102, 56, 98, 102, 49, 101, 100, 55, 54, 54, 53, 49, 99, 49, 52, 55, 53, 54, 97, 48, 54, 49, 100, 54, 54, 50, 102, 53, 56, 48, 102, 102, 52, 100, 101, 52, 51, 98, 52, 57, 102, 97, 56, 50, 100, 56, 48, 97, 52, 98, 56, 48, 102, 56, 52, 51, 52, 97] := by decide +kernel
theorem aw2 : hexF (sumF [97, 98, 99]) = [51, 97, 57, 56, 53, 100, 97, 55, 52, 102, 101, 50, 50, 53, 98, 50, 48, 52, 53, 99, 49, 55, 50, 100, 54, 98, 100, 51, 57, 48, 98, 100, 56, 53, 53, 102, 48, 56, 54, 101, 51, 101, 57, 100, 53, 50, 53, 98, 52, 54, 98, 102, 101, 50, 52, 53, 49, 49, 52, 51, 49, 53, 51, 50] := by decide +kernel

def AwakeSpec (P : Program) (ι : Ids) (k : FuncId) : Prop := ∀ H, GlobOk ι H → CallsM P k #[] H fun r H' => r = .bool true ∧ Keep (fun _ => False) H H'
theorem awake_ok {P : Program} {ι : Ids} {k : FuncId} (hk : FnIs P k (c_awake ι) r_awake 0) (hs : KSumSpec P ι (ι.f 14)) (ht : TextSpec P (ι.f 20)) : AwakeSpec P ι k := by
  intro H hG
  refine calls_of_vc hk (args := []) (by simp) ?_
  unfold c_awake r_awake
  simp only [go_sem, List.map_cons, List.map_nil, ↓reduceIte, Nat.reduceEqDiff, Nat.reduceAdd, Nat.reduceMul, reduceCtorEq, and_true, true_and, Nat.mul_one, Nat.zero_add, Bool.false_eq_true, decide_true, decide_false, not_false_eq_true, kont_eq]
  refine (hs [] _ _ (.inl ⟨none, 0, rfl, rfl⟩) hG).mono ?_
  rintro r H1 ⟨rfl, K1⟩
  simp only [go_sem, List.map_cons, List.map_nil, ↓reduceIte, Nat.reduceEqDiff, Nat.reduceAdd, Nat.reduceMul, reduceCtorEq, and_true, true_and, Nat.mul_one, Nat.zero_add, Bool.false_eq_true, decide_true, decide_false, not_false_eq_true, kont_eq]
  refine (ht _ _ (sumF_len _)).mono ?_
  rintro r H2 ⟨rfl, K2⟩
  have K2' := K1.trans K2
  rw [aw1]
  simp only [go_sem, List.map_cons, List.map_nil, ↓reduceIte, Nat.reduceEqDiff, Nat.reduceAdd, Nat.reduceMul, reduceCtorEq, and_true, true_and, Nat.mul_one, Nat.zero_add, Bool.false_eq_true, decide_true, decide_false, not_false_eq_true, kont_eq, beq_self_eq_true]
  have hm := mkH_new H2 #[Value.int IntKind.u8 97, Value.int IntKind.u8 98, Value.int IntKind.u8 99] (ι.t 19) 3
  simp only [go_sem, List.map_cons, List.map_nil, ↓reduceIte, Nat.reduceEqDiff, Nat.reduceAdd, Nat.reduceMul, reduceCtorEq, and_true, true_and, Nat.mul_one, Nat.zero_add, Bool.false_eq_true, decide_true, decide_false, not_false_eq_true, kont_eq] at hm ⊢
  obtain ⟨K3, -, hS⟩ := hm
  generalize mkH _ _ _ = H3 at *
  have K3' := K2'.trans K3
  refine (hs [97, 98, 99] _ _ (hS 3 (by omega)) (hG.keep K3' (by simp) (by simp))).mono ?_
  rintro r H4 ⟨rfl, K4⟩
  simp only [go_sem, List.map_cons, List.map_nil, ↓reduceIte, Nat.reduceEqDiff, Nat.reduceAdd, Nat.reduceMul, reduceCtorEq, and_true, true_and, Nat.mul_one, Nat.zero_add, Bool.false_eq_true, decide_true, decide_false, not_false_eq_true, kont_eq]
  refine (ht _ _ (sumF_len _)).mono ?_
  rintro r H5 ⟨rfl, K5⟩
  rw [aw2]
  simp only [go_sem, List.map_cons, List.map_nil, ↓reduceIte, Nat.reduceEqDiff, Nat.reduceAdd, Nat.reduceMul, reduceCtorEq, and_true, true_and, Nat.mul_one, Nat.zero_add, Bool.false_eq_true, decide_true, decide_false, not_false_eq_true, kont_eq, beq_self_eq_true]
  exact (K3'.trans K4).trans K5
end Go.Mg

/- matching: wide graphs, neighbours, IsSorted, Compare. -/
import Derived.Test.YtihlnbepcimnfaaDoorMgM18
import Derived.Test.YtihlnbepcimnfaaDoorMgOpen2
namespace Go.Mg
open Go Go.RowKit
set_option linter.unusedSimpArgs false
set_option linter.unusedVariables false
set_option maxRecDepth 100000
/- (arbaclaw09.Wide).make -/
def c_wmake (ι : Ids) : S :=
  .seq (.reg [.p (.v 2) (.mv (.c (.slice .none 0 0)))]) (.seq (.reg [.p (.v 3) (.mv (.c (.slice .none 0 0)))]) (.seq (.seq (.reg [.p (.t 6) (.mv (.v 0)), .p (.t 7) (.mv (.v 0)), .p (.t 8) (.m (.lenl (.t
  7))), .p (.t 9) (.m (.mn (.t 8) (.c (.int .i64 40)))), .p (.v 10) (.m (.sls 3 (.t 6) .none (.some (.t 9)))), .p (.v 11) (.m (.lenl (.v 10))), .p (.v 12) (.mv (.c (.int .i64 0)))]) (.blk 0 (.loop (.seq
  (.reg [.p (.v 13) (.cm .lss .i64 (.v 12) (.v 11))]) (.seq (.ite (.v 13) .skip (.exit 0)) (.seq (.blk 1 (.seq (.reg [.p (.t 14) (.is 3 (.v 10) (.v 12)), .p (.t 15) (.m (.ldn 3 (.t 14))), .e (.v 5)
  (.new (ι.t 180) #[.int .u8 0, .int .u8 0, .int .u8 0]), .e .no (.stn 3 (.v 5) (.t 15))]) (.reg [.p (.t 16) (.mv (.v 3)), .p (.t 17) (.ia 3 1 (.v 5) (.c (.int .i64 0))), .p (.t 18) (.ld (.t 17)), .p
  (.t 19) (.ii .i64 (.t 18)), .p (.t 20) (.ia 3 1 (.v 5) (.c (.int .i64 1))), .p (.t 21) (.ld (.t 20)), .p (.t 22) (.ii .i64 (.t 21)), .p (.t 23) (.ia 3 1 (.v 5) (.c (.int .i64 2))), .p (.t 24) (.ld (.t
  23)), .p (.t 25) (.ii .i64 (.t 24)), .e (.t 26) (.bldF (ι.t 26) 1 3 [.t 19, .t 22, .t 25]), .e (.t 27) (.call (ι.f 143) [.t 26]), .e (.t 28) (.bldF (ι.t 128) 1 1 [.t 27]), .e (.t 29) (.app false (ι.t
  128) 1 24 #[.slice .none 0 0] (.t 16) (.t 28)), .p (.v 3) (.mv (.t 29))]))) (.reg [.p (.t 30) (.ar .add .i64 (.v 12) (.c (.int .i64 1))), .p (.v 12) (.mv (.t 30))]))))))) (.seq (.reg [.p (.t 31) (.mv
  (.v 3)), .p (.v 2) (.mv (.t 31))]) .ret)))
def r_wmake : List RV := [.t 2]
/- arbaclaw09.neighbours -/
def c_lneigh (ι : Ids) : S :=
  .seq (.reg [.e (.v 4) (.new (ι.t 128) #[.slice .none 0 0])]) (.seq (.reg [.e (.t 8) (.call (ι.f 143) [.c (.slice .none 0 0)]), .e (.v 5) (.new (ι.t 128) #[.slice .none 0 0]), .e .no (.stn 1 (.v 5) (.t
  8))]) (.seq (.seq (.reg [.p (.v 9) (.mv (.v 1)), .p (.v 10) (.m (.lenl (.v 9))), .p (.v 11) (.mv (.c (.int .i64 0)))]) (.blk 0 (.loop (.seq (.reg [.p (.v 12) (.cm .lss .i64 (.v 11) (.v 10))]) (.seq
  (.ite (.v 12) .skip (.exit 0)) (.seq (.blk 1 (.seq (.reg [.p (.t 13) (.is 1 (.v 9) (.v 11)), .p (.t 14) (.ld (.t 13)), .p (.v 7) (.mv (.t 14))]) (.seq (.reg [.p (.t 15) (.mv (.v 7)), .p (.t 16) (.cm
  .geq .i64 (.t 15) (.c (.int .i64 0))), .p (.t 17) (.mv (.t 16)), .gp (.t 18) (.t 17) true (.mv (.v 7)), .gp (.t 19) (.t 17) true (.mv (.v 0)), .gp (.t 20) (.t 17) true (.m (.lenl (.t 19))), .gp (.t
  21) (.t 17) true (.cm .lss .i64 (.t 18) (.t 20)), .p (.v 22) (.pick (.t 17) (.t 21) (.c (.bool false)))]) (.ite (.v 22) (.reg [.p (.t 23) (.m (.ldn 1 (.v 5))), .p (.t 24) (.mv (.v 0)), .p (.t 25) (.mv
  (.v 7)), .p (.t 26) (.is 1 (.t 24) (.t 25)), .p (.t 27) (.m (.ldn 1 (.t 26))), .e (.t 28) (.call (ι.f 132) [.t 23, .t 27]), .e .no (.stn 1 (.v 5) (.t 28))]) .skip)))) (.reg [.p (.t 29) (.ar .add .i64
  (.v 11) (.c (.int .i64 1))), .p (.v 11) (.mv (.t 29))]))))))) (.seq (.reg [.p (.t 30) (.m (.ldn 1 (.v 5))), .e .no (.stn 1 (.v 4) (.t 30))]) .ret)))
def r_lneigh : List RV := [.cn 4 1]
/- slices.IsSorted[[]int,int] -/
def c_issort (ι : Ids) : S :=
  .seq (.reg [.p (.v 2) (.mv (.c (.bool false)))]) (.seq (.seq (.reg [.p (.t 4) (.mv (.v 0)), .p (.t 5) (.m (.lenl (.t 4))), .p (.t 6) (.ar .sub .i64 (.t 5) (.c (.int .i64 1))), .p (.v 3) (.mv (.t 6))])
  (.blk 0 (.loop (.seq (.seq (.reg [.p (.t 7) (.mv (.v 3)), .p (.v 8) (.cm .gtr .i64 (.t 7) (.c (.int .i64 0)))]) (.ite (.v 8) .skip (.exit 0))) (.seq (.blk 1 (.seq (.reg [.p (.t 11) (.mv (.v 0)), .p
  (.t 12) (.mv (.v 3)), .p (.t 13) (.is 1 (.t 11) (.t 12)), .p (.t 14) (.ld (.t 13)), .p (.t 15) (.mv (.v 0)), .p (.t 16) (.mv (.v 3)), .p (.t 17) (.ar .sub .i64 (.t 16) (.c (.int .i64 1))), .p (.t 18)
  (.is 1 (.t 15) (.t 17)), .p (.t 19) (.ld (.t 18)), .e (.v 20) (.call (ι.f 183) [.t 14, .t 19])]) (.ite (.v 20) (.seq (.reg [.p (.v 2) (.mv (.c (.bool false)))]) .ret) .skip))) (.reg [.p (.t 9) (.mv
  (.v 3)), .p (.t 10) (.ar .sub .i64 (.t 9) (.c (.int .i64 1))), .p (.v 3) (.mv (.t 10))])))))) (.seq (.reg [.p (.v 2) (.mv (.c (.bool true)))]) .ret))
def r_issort : List RV := [.t 2]
/- slices.Compare[[]int,int] -/
def c_slcmp (ι : Ids) : S :=
  .seq (.reg [.p (.v 4) (.mv (.c (.int .i64 0)))]) (.seq (.seq (.reg [.p (.v 9) (.mv (.v 0)), .p (.v 10) (.m (.lenl (.v 9))), .p (.v 11) (.mv (.c (.int .i64 0)))]) (.blk 0 (.loop (.seq (.reg [.p (.v 12)
  (.cm .lss .i64 (.v 11) (.v 10))]) (.seq (.ite (.v 12) .skip (.exit 0)) (.seq (.blk 1 (.seq (.reg [.p (.t 13) (.mv (.v 11)), .p (.t 14) (.is 1 (.v 9) (.v 11)), .p (.t 15) (.ld (.t 14)), .p (.v 5) (.mv
  (.t 13)), .p (.v 6) (.mv (.t 15))]) (.seq (.seq (.reg [.p (.t 16) (.mv (.v 5)), .p (.t 17) (.mv (.v 1)), .p (.t 18) (.m (.lenl (.t 17))), .p (.v 19) (.cm .geq .i64 (.t 16) (.t 18))]) (.ite (.v 19)
  (.seq (.reg [.p (.v 4) (.mv (.c (.int .i64 1)))]) .ret) .skip)) (.seq (.reg [.p (.t 20) (.mv (.v 1)), .p (.t 21) (.mv (.v 5)), .p (.t 22) (.is 1 (.t 20) (.t 21)), .p (.t 23) (.ld (.t 22)), .p (.v 7)
  (.mv (.t 23))]) (.seq (.reg [.p (.t 24) (.mv (.v 6)), .p (.t 25) (.mv (.v 7)), .e (.t 26) (.call (ι.f 185) [.t 24, .t 25]), .p (.v 8) (.mv (.t 26))]) (.seq (.reg [.p (.t 27) (.mv (.v 8)), .p (.v 28)
  (.cm .neq .i64 (.t 27) (.c (.int .i64 0)))]) (.ite (.v 28) (.seq (.reg [.p (.t 29) (.mv (.v 8)), .p (.v 4) (.mv (.t 29))]) .ret) .skip))))))) (.reg [.p (.t 30) (.ar .add .i64 (.v 11) (.c (.int .i64
  1))), .p (.v 11) (.mv (.t 30))]))))))) (.seq (.seq (.reg [.p (.t 31) (.mv (.v 0)), .p (.t 32) (.m (.lenl (.t 31))), .p (.t 33) (.mv (.v 1)), .p (.t 34) (.m (.lenl (.t 33))), .p (.v 35) (.cm .lss .i64
  (.t 32) (.t 34))]) (.ite (.v 35) (.seq (.reg [.p (.v 4) (.mv (.c (.int .i64 (-1))))]) .ret) .skip)) (.seq (.reg [.p (.v 4) (.mv (.c (.int .i64 0)))]) .ret)))
def r_slcmp : List RV := [.t 4]
/- cmp.Less[int] -/
def c_cless (ι : Ids) : S :=
  .seq (.reg [.p (.v 4) (.mv (.c (.bool false)))]) (.seq (.reg [.p (.t 5) (.mv (.v 0)), .e (.t 6) (.call (ι.f 187) [.t 5]), .p (.t 7) (.mv (.t 6)), .gp (.t 8) (.t 7) true (.mv (.v 1)), .ge (.t 9) (.t 7)
  true (.call (ι.f 187) [.t 8]), .gp (.t 10) (.t 7) true (.not (.t 9)), .p (.t 11) (.pick (.t 7) (.t 10) (.c (.bool false))), .p (.t 12) (.mv (.t 11)), .gp (.t 13) (.t 12) false (.mv (.v 0)), .gp (.t
  14) (.t 12) false (.mv (.v 1)), .gp (.t 15) (.t 12) false (.cm .lss .i64 (.t 13) (.t 14)), .p (.t 16) (.pick (.t 12) (.c (.bool true)) (.t 15)), .p (.v 4) (.mv (.t 16))]) .ret)
def r_cless : List RV := [.t 4]
/- cmp.Compare[int] -/
def c_ccmp (ι : Ids) : S :=
  .seq (.reg [.p (.v 4) (.mv (.c (.int .i64 0)))]) (.seq (.reg [.p (.t 7) (.mv (.v 0)), .e (.t 8) (.call (ι.f 187) [.t 7]), .p (.v 5) (.mv (.t 8))]) (.seq (.reg [.p (.t 9) (.mv (.v 1)), .e (.t 10)
  (.call (ι.f 187) [.t 9]), .p (.v 6) (.mv (.t 10))]) (.seq (.seq (.reg [.p (.v 11) (.mv (.v 5))]) (.ite (.v 11) (.seq (.seq (.reg [.p (.v 12) (.mv (.v 6))]) (.ite (.v 12) (.seq (.reg [.p (.v 4) (.mv
  (.c (.int .i64 0)))]) .ret) .skip)) (.seq (.reg [.p (.v 4) (.mv (.c (.int .i64 (-1))))]) .ret)) .skip)) (.seq (.seq (.reg [.p (.v 13) (.mv (.v 6))]) (.ite (.v 13) (.seq (.reg [.p (.v 4) (.mv (.c (.int
  .i64 1)))]) .ret) .skip)) (.seq (.seq (.reg [.p (.t 14) (.mv (.v 0)), .p (.t 15) (.mv (.v 1)), .p (.v 16) (.cm .lss .i64 (.t 14) (.t 15))]) (.ite (.v 16) (.seq (.reg [.p (.v 4) (.mv (.c (.int .i64
  (-1))))]) .ret) .skip)) (.seq (.seq (.reg [.p (.t 17) (.mv (.v 0)), .p (.t 18) (.mv (.v 1)), .p (.v 19) (.cm .gtr .i64 (.t 17) (.t 18))]) (.ite (.v 19) (.seq (.reg [.p (.v 4) (.mv (.c (.int .i64
  1)))]) .ret) .skip)) (.seq (.reg [.p (.v 4) (.mv (.c (.int .i64 0)))]) .ret)))))))
def r_ccmp : List RV := [.t 4]
/- cmp.isNaN[int] -/
def c_cnan (ι : Ids) : S :=
  .seq (.reg [.p (.v 2) (.mv (.c (.bool false)))]) (.seq (.reg [.p (.t 3) (.mv (.v 0)), .p (.t 4) (.mv (.v 0)), .p (.t 5) (.cm .neq .i64 (.t 3) (.t 4)), .p (.v 2) (.mv (.t 5))]) .ret)
def r_cnan : List RV := [.t 2]
/- slices.Clone[matching.Graph,bits.Set] -/
def c_gclone (ι : Ids) : S :=
  .seq (.reg [.p (.v 2) (.mv (.c (.slice .none 0 0)))]) (.seq (.seq (.reg [.p (.t 3) (.mv (.v 0)), .p (.v 4) (.m (.eqn .sl false (.t 3)))]) (.ite (.v 4) (.seq (.reg [.p (.v 2) (.mv (.c (.slice .none 0
  0)))]) .ret) .skip)) (.seq (.reg [.e (.t 5) (.bldF (ι.t 128) 1 0 []), .p (.t 6) (.mv (.v 0)), .e (.t 7) (.app false (ι.t 128) 1 24 #[.slice .none 0 0] (.t 5) (.t 6)), .p (.v 2) (.mv (.t 7))]) .ret))
def r_gclone : List RV := [.t 2]
def NanSpec (P : Program) (k : FuncId) : Prop := ∀ (x : Int) (H : Hp), CallsM P k #[.int .i64 x] H fun r H' => r = .bool false ∧ H' = H
theorem cnan_ok {P : Program} {ι : Ids} {k : FuncId} (hk : FnIs P k (c_cnan ι) r_cnan 1) : NanSpec P k := by
  intro x H
  refine calls_of_vc hk (args := [_]) (by simp) ?_
  unfold c_cnan r_cnan
  have e : (x != x) = false := by simp
  simp only [go_sem, List.map_cons, List.map_nil, ↓reduceIte, Nat.reduceEqDiff, Nat.reduceAdd, Nat.reduceMul, reduceCtorEq, and_true, true_and, Nat.mul_one, Nat.zero_add, Bool.false_eq_true, decide_true, decide_false, not_false_eq_true, kont_eq, e]
def LessSpec (P : Program) (k : FuncId) : Prop := ∀ (x y : Int) (H : Hp), CallsM P k #[.int .i64 x, .int .i64 y] H fun r H' => r = .bool (decide (x < y)) ∧ H' = H
theorem cless_ok {P : Program} {ι : Ids} {k : FuncId} (hk : FnIs P k (c_cless ι) r_cless 2) (hn : NanSpec P (ι.f 187)) : LessSpec P k := by
  intro x y H
  refine calls_of_vc hk (args := [_, _]) (by simp) ?_
  unfold c_cless r_cless
  simp only [go_sem, List.map_cons, List.map_nil, ↓reduceIte, Nat.reduceEqDiff, Nat.reduceAdd, Nat.reduceMul, reduceCtorEq, and_true, true_and, Nat.mul_one, Nat.zero_add, Bool.false_eq_true, decide_true, decide_false, not_false_eq_true, kont_eq]
  refine (hn x H).mono ?_
  rintro r H1 ⟨rfl, rfl⟩
  simp only [go_sem, List.map_cons, List.map_nil, ↓reduceIte, Nat.reduceEqDiff, Nat.reduceAdd, Nat.reduceMul, reduceCtorEq, and_true, true_and, Nat.mul_one, Nat.zero_add, Bool.false_eq_true, decide_true, decide_false, not_false_eq_true, kont_eq]
def CmpSpec (P : Program) (k : FuncId) : Prop := ∀ (x y : Int) (H : Hp), CallsM P k #[.int .i64 x, .int .i64 y] H fun r H' => r = .int .i64 (if x < y then -1 else if x > y then 1 else 0) ∧ H' = H
theorem ccmp_ok {P : Program} {ι : Ids} {k : FuncId} (hk : FnIs P k (c_ccmp ι) r_ccmp 2) (hn : NanSpec P (ι.f 187)) : CmpSpec P k := by
  intro x y H
  refine calls_of_vc hk (args := [_, _]) (by simp) ?_
  unfold c_ccmp r_ccmp
  simp only [go_sem, List.map_cons, List.map_nil, ↓reduceIte, Nat.reduceEqDiff, Nat.reduceAdd, Nat.reduceMul, reduceCtorEq, and_true, true_and, Nat.mul_one, Nat.zero_add, Bool.false_eq_true, decide_true, decide_false, not_false_eq_true, kont_eq]
  refine (hn x H).mono ?_
  rintro r H1 ⟨rfl, rfl⟩
  simp only [go_sem, List.map_cons, List.map_nil, ↓reduceIte, Nat.reduceEqDiff, Nat.reduceAdd, Nat.reduceMul, reduceCtorEq, and_true, true_and, Nat.mul_one, Nat.zero_add, Bool.false_eq_true, decide_true, decide_false, not_false_eq_true, kont_eq]
  refine (hn y H1).mono ?_
  rintro r H2 ⟨rfl, rfl⟩
  by_cases h1 : x < y
  · have e1 : decide (x < y) = true := decide_eq_true h1
    simp only [go_sem, List.map_cons, List.map_nil, ↓reduceIte, Nat.reduceEqDiff, Nat.reduceAdd, Nat.reduceMul, reduceCtorEq, and_true, true_and, Nat.mul_one, Nat.zero_add, Bool.false_eq_true, decide_true, decide_false, not_false_eq_true, kont_eq, e1, h1]
  · have e1 : decide (x < y) = false := decide_eq_false h1
    by_cases h2 : x > y
    · have e2 : decide (x > y) = true := decide_eq_true h2
      simp only [go_sem, List.map_cons, List.map_nil, ↓reduceIte, Nat.reduceEqDiff, Nat.reduceAdd, Nat.reduceMul, reduceCtorEq, and_true, true_and, Nat.mul_one, Nat.zero_add, Bool.false_eq_true, decide_true, decide_false, not_false_eq_true, kont_eq, e1, e2, h1, h2]
    · have e2 : decide (x > y) = false := decide_eq_false h2
      simp only [go_sem, List.map_cons, List.map_nil, ↓reduceIte, Nat.reduceEqDiff, Nat.reduceAdd, Nat.reduceMul, reduceCtorEq, and_true, true_and, Nat.mul_one, Nat.zero_add, Bool.false_eq_true, decide_true, decide_false, not_false_eq_true, kont_eq, e1, e2, h1, h2]
def SortSpec (P : Program) (k : FuncId) : Prop := ∀ (l : List Int) (v : Value) (H : Hp), SlR H v (iL l) → l.length ≤ 1000000 → (∀ i, i + 1 < l.length → gi l i ≤ gi l (i + 1)) → CallsM P k #[v] H fun r H' => r = .bool true ∧ H' = H
theorem issort_ok {P : Program} {ι : Ids} {k : FuncId} (hk : FnIs P k (c_issort ι) r_issort 1) (hn : LessSpec P (ι.f 183)) : SortSpec P k := by
  intro l v H hv hl hs
  refine calls_of_vc hk (args := [_]) (by simp) ?_
  unfold c_issort r_issort
  have ew : IntKind.i64.wrap ((l.length : Int) - 1) = (l.length : Int) - 1 := IntWalk.i64_in _ ⟨by omega, by omega⟩
  simp only [go_sem, List.map_cons, List.map_nil, ↓reduceIte, Nat.reduceEqDiff, Nat.reduceAdd, Nat.reduceMul, reduceCtorEq, and_true, true_and, Nat.mul_one, Nat.zero_add, Bool.false_eq_true, decide_true, decide_false, not_false_eq_true, kont_eq, hv.isSl, hv.len, iL_len, ew]
  refine vc_loop [8, 20, 2, 3] rfl (fun n f H' => ∃ i : Int, i < l.length ∧ -1 ≤ i ∧ n = (i + 1).toNat ∧ f 3 = .int .i64 i ∧ H' = H) l.length
    ⟨(l.length : Int) - 1, by omega, by omega, by omega, by simp only [go_sem, List.map_cons, List.map_nil, ↓reduceIte, Nat.reduceEqDiff, Nat.reduceAdd, Nat.reduceMul, reduceCtorEq, and_true, true_and, Nat.mul_one, Nat.zero_add, Bool.false_eq_true, decide_true, decide_false, not_false_eq_true, kont_eq], rfl⟩ ?_
  rintro n f H1 ⟨i, hi, h0, rfl, hf, rfl⟩
  simp only [go_sem, List.map_cons, List.map_nil, ↓reduceIte, Nat.reduceEqDiff, Nat.reduceAdd, Nat.reduceMul, reduceCtorEq, and_true, true_and, Nat.mul_one, Nat.zero_add, Bool.false_eq_true, decide_true, decide_false, not_false_eq_true, kont_eq] at hf
  by_cases hp : i > 0
  · have e1 : decide (i > 0) = true := decide_eq_true hp
    obtain ⟨j, rfl⟩ : ∃ j : Nat, i = ((j + 1 : Nat) : Int) := ⟨(i - 1).toNat, by omega⟩
    have hj : j + 1 < l.length := by omega
    have es : IntKind.i64.wrap (((j + 1 : Nat) : Int) - 1) = (j : Int) := by rw [IntWalk.i64_in _ ⟨by omega, by omega⟩]; omega
    obtain ⟨b, o, c, rfl, -, hc⟩ := hv.cells (by intro e; have h := congrArg List.length e; rw [iL_len, List.length_nil] at h; omega)
    rw [iL_len] at hc
    have c1 := hc (j + 1) hj
    have c2 := hc j (by omega)
    rw [iL_at hj] at c1
    rw [iL_at (by omega)] at c2
    simp only [go_sem, List.map_cons, List.map_nil, ↓reduceIte, Nat.reduceEqDiff, Nat.reduceAdd, Nat.reduceMul, reduceCtorEq, and_true, true_and, Nat.mul_one, Nat.zero_add, Bool.false_eq_true, decide_true, decide_false, not_false_eq_true, kont_eq, hf, e1, iL_len, es, tn_cast, Nat.mul_one, c1, c2]
    refine ⟨by omega, by omega, ?_⟩
    refine (hn _ _ H1).mono ?_
    rintro r H2 ⟨rfl, rfl⟩
    have e2 : decide (gi l (j + 1) < gi l j) = false := decide_eq_false (by have := hs j hj; omega)
    simp only [go_sem, List.map_cons, List.map_nil, ↓reduceIte, Nat.reduceEqDiff, Nat.reduceAdd, Nat.reduceMul, reduceCtorEq, and_true, true_and, Nat.mul_one, Nat.zero_add, Bool.false_eq_true, decide_true, decide_false, not_false_eq_true, kont_eq, hf, e2, es]
    exact ⟨((j : Int) + 1).toNat, by omega, (j : Int), by omega, by omega, rfl, rfl⟩
  · have e1 : decide (i > 0) = false := decide_eq_false hp
    simp only [go_sem, List.map_cons, List.map_nil, ↓reduceIte, Nat.reduceEqDiff, Nat.reduceAdd, Nat.reduceMul, reduceCtorEq, and_true, true_and, Nat.mul_one, Nat.zero_add, Bool.false_eq_true, decide_true, decide_false, not_false_eq_true, kont_eq, hf, e1]
def LexSpec (P : Program) (k : FuncId) : Prop := ∀ (l m : List Int) (v w : Value) (H : Hp), SlR H v (iL l) → SlR H w (iL m) → l.length ≤ 1000000 → l.length = m.length → (∀ i < l.length, (∀ a < i, gi m a = gi l a) → gi l i ≤ gi m i) →
  CallsM P k #[v, w] H fun r H' => (∃ n : Int, r = .int .i64 n ∧ n ≤ 0) ∧ H' = H
theorem slcmp_ok {P : Program} {ι : Ids} {k : FuncId} (hk : FnIs P k (c_slcmp ι) r_slcmp 2) (hn : CmpSpec P (ι.f 185)) : LexSpec P k := by
  intro l m v w H hv hw hl hlm hx
  obtain ⟨R, hR⟩ : ∃ R : Value → Hp → Prop, R = fun r H' => (∃ n : Int, r = .int .i64 n ∧ n ≤ 0) ∧ H' = H := ⟨_, rfl⟩
  rw [← hR]
  refine calls_of_vc hk (args := [_, _]) (by simp) ?_
  unfold c_slcmp r_slcmp
  simp only [go_sem, List.map_cons, List.map_nil, ↓reduceIte, Nat.reduceEqDiff, Nat.reduceAdd, Nat.reduceMul, reduceCtorEq, and_true, true_and, Nat.mul_one, Nat.zero_add, Bool.false_eq_true, decide_true, decide_false, not_false_eq_true, kont_eq, hv.isSl, hv.len, iL_len]
  refine vc_loop [12, 5, 6, 19, 4, 7, 8, 28, 11] rfl (fun n f H' => ∃ i : Nat, i ≤ l.length ∧ n = l.length - i ∧ f 11 = .int .i64 i ∧ (∀ a < i, gi m a = gi l a) ∧ H' = H) l.length
    ⟨0, by omega, by omega, by simp only [go_sem, List.map_cons, List.map_nil, ↓reduceIte, Nat.reduceEqDiff, Nat.reduceAdd, Nat.reduceMul, reduceCtorEq, and_true, true_and, Nat.mul_one, Nat.zero_add, Bool.false_eq_true, decide_true, decide_false, not_false_eq_true, kont_eq]; rfl, fun a ha => by omega, rfl⟩ ?_
  rintro n f H1 ⟨i, hi, rfl, hf, he, rfl⟩
  simp only [go_sem, List.map_cons, List.map_nil, ↓reduceIte, Nat.reduceEqDiff, Nat.reduceAdd, Nat.reduceMul, reduceCtorEq, and_true, true_and, Nat.mul_one, Nat.zero_add, Bool.false_eq_true, decide_true, decide_false, not_false_eq_true, kont_eq] at hf
  simp only [go_sem, List.map_cons, List.map_nil, ↓reduceIte, Nat.reduceEqDiff, Nat.reduceAdd, Nat.reduceMul, reduceCtorEq, and_true, true_and, Nat.mul_one, Nat.zero_add, Bool.false_eq_true, decide_true, decide_false, not_false_eq_true, hf]
  refine iteV_dec (fun hlt => ?_) (fun hge => ?_)
  · have hlt : i < l.length := by omega
    obtain ⟨b, o, c, rfl, -, hc⟩ := hv.cells (by intro e; have h := congrArg List.length e; rw [iL_len, List.length_nil] at h; omega)
    obtain ⟨b2, o2, c2, rfl, -, hc2⟩ := hw.cells (by intro e; have h := congrArg List.length e; rw [iL_len, List.length_nil] at h; omega)
    rw [iL_len] at hc hc2
    have ci := hc i hlt
    have ci2 := hc2 i (by omega)
    rw [iL_at hlt] at ci
    rw [iL_at (by omega)] at ci2
    have e1 : decide ((i : Int) ≥ (m.length : Int)) = false := decide_eq_false (by omega)
    simp only [go_sem, List.map_cons, List.map_nil, ↓reduceIte, Nat.reduceEqDiff, Nat.reduceAdd, Nat.reduceMul, reduceCtorEq, and_true, true_and, Nat.mul_one, Nat.zero_add, Bool.false_eq_true, decide_true, decide_false, not_false_eq_true, kont_eq, hf, e1, iL_len, tn_cast, Nat.mul_one, ci, ci2]
    refine ⟨by omega, by omega, ?_⟩
    refine (hn _ _ H1).mono ?_
    rintro r H2 ⟨rfl, rfl⟩
    have hle := hx i hlt he
    by_cases h1 : gi l i < gi m i
    · have e2 : ((-1 : Int) != 0) = true := rfl
      simp only [go_sem, List.map_cons, List.map_nil, ↓reduceIte, Nat.reduceEqDiff, Nat.reduceAdd, Nat.reduceMul, reduceCtorEq, and_true, true_and, Nat.mul_one, Nat.zero_add, Bool.false_eq_true, decide_true, decide_false, not_false_eq_true, kont_eq, h1, e2]
      rw [hR]
      exact ⟨⟨-1, rfl, by omega⟩, rfl⟩
    · have h2 : ¬ gi l i > gi m i := by omega
      have e2 : ((0 : Int) != 0) = false := rfl
      simp (disch := omega) only [go_sem, List.map_cons, List.map_nil, ↓reduceIte, Nat.reduceEqDiff, Nat.reduceAdd, Nat.reduceMul, reduceCtorEq, and_true, true_and, Nat.mul_one, Nat.zero_add, Bool.false_eq_true, decide_true, decide_false, not_false_eq_true, kont_eq, hf, h1, h2, e2, IntWalk.i64_in]
      refine ⟨l.length - (i + 1), by omega, i + 1, by omega, rfl, by simp, fun a ha => ?_⟩
      by_cases e : a = i
      · subst e; omega
      · exact he a (by omega)
  · have e1 : decide ((l.length : Int) < (m.length : Int)) = false := decide_eq_false (by omega)
    simp only [go_sem, List.map_cons, List.map_nil, ↓reduceIte, Nat.reduceEqDiff, Nat.reduceAdd, Nat.reduceMul, reduceCtorEq, and_true, true_and, Nat.mul_one, Nat.zero_add, Bool.false_eq_true, decide_true, decide_false, not_false_eq_true, kont_eq, hv.isSl, hv.len, hw.isSl, hw.len, iL_len, e1]
    rw [hR]
    exact ⟨⟨0, rfl, by omega⟩, rfl⟩
def wideP (ws : List (List UInt8)) : List (Nat → Bool) := (ws.take 40).map fun x => ofP (x.map fun b => (b.toNat : Int))
theorem wideP_len (ws : List (List UInt8)) : (wideP ws).length ≤ 40 := by unfold wideP; simp; omega
def WMakeSpec (P : Program) (k : FuncId) : Prop := ∀ (ws : List (List UInt8)) (v : Value) (H : Hp), WdR 3 H v ws → CallsM P k #[v] H fun r H' => ∃ vs, GrO H' r (wideP ws) H.size vs ∧ Keep (fun _ => False) H H'
theorem wmake_ok {P : Program} {ι : Ids} {k : FuncId} (hk : FnIs P k (c_wmake ι) r_wmake 1) (ho : BOfSpec P (ι.f 143)) : WMakeSpec P k := by
  intro ws v H hv
  obtain ⟨R, hR⟩ : ∃ R : Value → Hp → Prop, R = fun r H' => ∃ vs, GrO H' r (wideP ws) H.size vs ∧ Keep (fun _ => False) H H' := ⟨_, rfl⟩
  rw [← hR]
  refine calls_of_vc hk (args := [_]) (by simp) ?_
  unfold c_wmake r_wmake
  obtain ⟨a, c, rfl, hc, hws⟩ := hv
  have emin : (if (40 : Int) < (ws.length : Int) then (40 : Int) else (ws.length : Int)) = ((min ws.length 40 : Nat) : Int) := by split <;> omega
  simp only [go_sem, List.map_cons, List.map_nil, ↓reduceIte, Nat.reduceEqDiff, Nat.reduceAdd, Nat.reduceMul, reduceCtorEq, and_true, true_and, Nat.mul_one, Nat.zero_add, Bool.false_eq_true, decide_true, decide_false, not_false_eq_true, emin]
  have ea : (if c = 0 then a else Option.map (fun x => x) a) = a := by split <;> simp
  rw [ea]
  refine ⟨by omega, ?_⟩
  obtain ⟨N, hN⟩ : ∃ N, N = min ws.length 40 := ⟨_, rfl⟩
  rw [← hN]
  have hNw : N ≤ ws.length := by omega
  have hN40 : N ≤ 40 := by omega
  have hv : WdR 3 H (.slice a ws.length c) ws := ⟨a, c, rfl, hc, hws⟩
  refine vc_loop [13, 5, 3, 12] rfl (fun n f H' => ∃ (i : Nat) (gv : Value) (vs : List Value), i ≤ N ∧ n = N - i ∧ f 12 = .int .i64 i ∧ f 3 = gv ∧ GrO H' gv ((ws.take i).map fun x => ofP (x.map fun b => (b.toNat : Int))) H.size vs ∧ Keep (fun _ => False) H H') N
    ⟨0, .slice none 0 0, [], by omega, by omega, by simp only [go_sem, List.map_cons, List.map_nil, ↓reduceIte, Nat.reduceEqDiff, Nat.reduceAdd, Nat.reduceMul, reduceCtorEq, and_true, true_and, Nat.mul_one, Nat.zero_add, Bool.false_eq_true, decide_true, decide_false, not_false_eq_true, kont_eq]; rfl, by simp only [go_sem, List.map_cons, List.map_nil, ↓reduceIte, Nat.reduceEqDiff, Nat.reduceAdd, Nat.reduceMul, reduceCtorEq, and_true, true_and, Nat.mul_one, Nat.zero_add, Bool.false_eq_true, decide_true, decide_false, not_false_eq_true, kont_eq], GrO.nil _ _, Keep.refl _ _⟩ ?_
  rintro n f H2 ⟨i, gv, vs, hi, rfl, hf, hf3, hG, K2⟩
  simp only [go_sem, List.map_cons, List.map_nil, ↓reduceIte, Nat.reduceEqDiff, Nat.reduceAdd, Nat.reduceMul, reduceCtorEq, and_true, true_and, Nat.mul_one, Nat.zero_add, Bool.false_eq_true, decide_true, decide_false, not_false_eq_true, kont_eq] at hf hf3
  simp only [go_sem, List.map_cons, List.map_nil, ↓reduceIte, Nat.reduceEqDiff, Nat.reduceAdd, Nat.reduceMul, reduceCtorEq, and_true, true_and, Nat.mul_one, Nat.zero_add, Bool.false_eq_true, decide_true, decide_false, not_false_eq_true, hf]
  refine iteV_dec (fun hlt => ?_) (fun hge => ?_)
  · have hlt : i < N := by omega
    have hlt' : i < ws.length := by omega
    obtain ⟨a', c', hv1, -, hw2⟩ := hv.keep0 K2
    injection hv1 with hv1 _ hv3
    subst hv1 hv3
    obtain ⟨hx3, b, o, rfl, hb, hld⟩ := hw2 i hlt'
    have htk : (ws.take (i + 1)).map (fun x => ofP (x.map fun b : UInt8 => (b.toNat : Int))) = (ws.take i).map (fun x => ofP (x.map fun b : UInt8 => (b.toNat : Int))) ++ [ofP ((ws.getD i []).map fun b : UInt8 => (b.toNat : Int))] := by
      rw [List.take_succ_eq_append_getElem hlt', List.map_append, List.getD_eq_getElem?_getD, List.getElem?_eq_getElem hlt']; rfl
    generalize ws.getD i [] = x at *
    obtain ⟨x0, x1, x2, rfl⟩ : ∃ p q r, x = [p, q, r] := by
      match x, hx3 with
      | [p, q, r], _ => exact ⟨p, q, r, rfl⟩
    have hw8 : (w8 [x0, x1, x2]).toArray = #[.int .u8 x0.toNat, .int .u8 x1.toNat, .int .u8 x2.toNat] := rfl
    rw [hw8] at hld
    have s2 := K2.size
    simp only [go_sem, List.map_cons, List.map_nil, ↓reduceIte, Nat.reduceEqDiff, Nat.reduceAdd, Nat.reduceMul, reduceCtorEq, and_true, true_and, Nat.mul_one, Nat.zero_add, Bool.false_eq_true, decide_true, decide_false, not_false_eq_true, tn_cast, ldNO_ptr, hld]
    refine ⟨by omega, ?_⟩
    refine kont_new fun H3 b3 e3 z3 B3 K3 => ?_
    have s3 := K3.size
    have hokN := B3.okNA (o := 0) (n := 3) (by simp)
    have B4 := B3.stNA 0 [.int .u8 x0.toNat, .int .u8 x1.toNat, .int .u8 x2.toNat]
    have B4 : Bl (stNA H3 ⟨b3, 0, none⟩ [.int .u8 x0.toNat, .int .u8 x1.toNat, .int .u8 x2.toNat]) b3 [.int .u8 x0.toNat, .int .u8 x1.toNat, .int .u8 x2.toNat] := by simpa [wrL] using B4
    have K4 : Keep (fun k => k = b3) H3 (stNA H3 ⟨b3, 0, none⟩ [.int .u8 x0.toNat, .int .u8 x1.toNat, .int .u8 x2.toNat]) := (Keep.refl _ _).stNA _ (.inl rfl)
    have hone : all1 #[.int .u8 x0.toNat, .int .u8 x1.toNat, .int .u8 x2.toNat] := by
      intro y hy; simp at hy; rcases hy with rfl | rfl | rfl <;> rfl
    simp only [go_sem, List.map_cons, List.map_nil, ↓reduceIte, Nat.reduceEqDiff, Nat.reduceAdd, Nat.reduceMul, reduceCtorEq, and_true, true_and, Nat.mul_one, Nat.zero_add, Bool.false_eq_true, decide_true, decide_false, not_false_eq_true, fillV_nil, fillV_cons, okFill_nil, okFill_cons, cells_slice, cells_int, cells_bool, cells_str, cells_ptr, cells_agg, stNH_ptr, okN_ptr, wrA1, wrA20, wrA21, hokN, hone]
    have K24 : Keep (fun _ => False) H (stNA H3 ⟨b3, 0, none⟩ [.int .u8 x0.toNat, .int .u8 x1.toNat, .int .u8 x2.toNat]) := (K2.trans K3).to_old K4 (by omega)
    have K34 : Keep (fun k => k = b3) H2 (stNA H3 ⟨b3, 0, none⟩ [.int .u8 x0.toNat, .int .u8 x1.toNat, .int .u8 x2.toNat]) := K3.any.trans K4
    have G4 := hG.keep K34 (fun k hk hB e => by omega)
    have s4 := K4.size
    generalize stNA H3 ⟨b3, 0, none⟩ [.int .u8 x0.toNat, .int .u8 x1.toNat, .int .u8 x2.toNat] = H4 at B4 K4 K24 G4 s4 ⊢
    have c0 : cell H4 ⟨b3, 0, none⟩ = some (.int .u8 x0.toNat) := by rw [B4.cell]; rfl
    have c1 : cell H4 ⟨b3, 1, none⟩ = some (.int .u8 x1.toNat) := by rw [B4.cell]; rfl
    have c2 : cell H4 ⟨b3, 2, none⟩ = some (.int .u8 x2.toNat) := by rw [B4.cell]; rfl
    have w0 : ∀ y : UInt8, IntKind.i64.wrap (y.toNat : Int) = (y.toNat : Int) := fun y => IntWalk.i64_in _ (by have := y.toNat_lt; omega)
    rw [kont_eq]
    simp only [go_sem, List.map_cons, List.map_nil, ↓reduceIte, Nat.reduceEqDiff, Nat.reduceAdd, Nat.reduceMul, reduceCtorEq, and_true, true_and, Nat.mul_one, Nat.zero_add, Bool.false_eq_true, decide_true, decide_false, not_false_eq_true, fillV_nil, fillV_cons, okFill_nil, okFill_cons, cells_slice, cells_int, cells_bool, cells_str, cells_ptr, cells_agg, stNH_ptr, okN_ptr, wrA1, wrA20, wrA21, hf3, c0, c1, c2, w0]
    refine ⟨by omega, by omega, by omega, ?_⟩
    refine kont_news fun H5 b5 e5 z5 B5 K5 => ?_
    have s5 := K5.size
    have S5 : SlR H5 (.slice (some ⟨b5, 0, none⟩) 3 3) (iL [(x0.toNat : Int), (x1.toNat : Int), (x2.toNat : Int)]) := SlR.bl B5 0 3 3 (by omega) (by simp)
    simp only [go_sem, List.map_cons, List.map_nil, ↓reduceIte, Nat.reduceEqDiff, Nat.reduceAdd, Nat.reduceMul, reduceCtorEq, and_true, true_and, Nat.mul_one, Nat.zero_add, Bool.false_eq_true, decide_true, decide_false, not_false_eq_true]
    refine (ho _ _ H5 S5 (by simp)).mono ?_
    rintro r H6 ⟨hS6, K6, n6⟩
    obtain ⟨u6, W6, rfl, hu6⟩ := id hS6
    have s6 := K6.size
    rw [kont_eq]
    simp only [go_sem, List.map_cons, List.map_nil, ↓reduceIte, Nat.reduceEqDiff, Nat.reduceAdd, Nat.reduceMul, reduceCtorEq, and_true, true_and, Nat.mul_one, Nat.zero_add, Bool.false_eq_true, decide_true, decide_false, not_false_eq_true, fillV_nil, fillV_cons, okFill_nil, okFill_cons, cells_slice, cells_int, cells_bool, cells_str, cells_ptr, cells_agg, stNH_ptr, okN_ptr, wrA1, wrA20, wrA21]
    refine kont_news fun H7 b7 e7 z7 B7 K7 => ?_
    have s7 := K7.size
    simp only [go_sem, List.map_cons, List.map_nil, ↓reduceIte, Nat.reduceEqDiff, Nat.reduceAdd, Nat.reduceMul, reduceCtorEq, and_true, true_and, Nat.mul_one, Nat.zero_add, Bool.false_eq_true, decide_true, decide_false, not_false_eq_true, kont_eq]
    have G7 := ((G4.keep0 K5).keep0 K6).keep0 K7
    have K07 := ((K24.trans K5).trans K6).trans K7
    refine GrO.app G7 (SlR.bl B7 0 1 1 (by omega) (by simp)) (hS6.keep0 K7) rfl (by rw [List.length_map, List.length_take]; omega) (by omega) K07.size (fun k hk => ?_) fun v8 H8 G8 M8 => ?_
    · have := n6 k hk
      exact ⟨by have := K24.size; omega, fun h => by have := (G4.keep0 K5).ow.old h; omega⟩
    · simp (disch := omega) only [go_sem, List.map_cons, List.map_nil, ↓reduceIte, Nat.reduceEqDiff, Nat.reduceAdd, Nat.reduceMul, reduceCtorEq, and_true, true_and, Nat.mul_one, Nat.zero_add, Bool.false_eq_true, decide_true, decide_false, not_false_eq_true, kont_eq, hf, IntWalk.i64_in]
      exact ⟨N - (i + 1), by omega, i + 1, v8, _, by omega, rfl, by simp, rfl, by rw [htk]; exact G8, K07.trans' M8 (fun k hk h => by have := hG.o1 k h; omega)⟩
  · have hil : i = N := by omega
    subst hil
    obtain ⟨ga, gn, gc, rfl⟩ := hG.ow.shape
    simp only [go_sem, List.map_cons, List.map_nil, ↓reduceIte, Nat.reduceEqDiff, Nat.reduceAdd, Nat.reduceMul, reduceCtorEq, and_true, true_and, Nat.mul_one, Nat.zero_add, Bool.false_eq_true, decide_true, decide_false, not_false_eq_true, kont_eq, hf3]
    rw [hR]
    have e : wideP ws = (ws.take i).map fun x => ofP (x.map fun b => (b.toNat : Int)) := by
      unfold wideP
      rw [hN]
      congr 1
      by_cases h : ws.length ≤ 40
      · rw [Nat.min_eq_left h, List.take_of_length_le (Nat.le_refl _), List.take_of_length_le h]
      · rw [Nat.min_eq_right (by omega)]
    rw [e]
    exact ⟨vs, hG, K2⟩
def NeighSpec (P : Program) (k : FuncId) : Prop := ∀ (ps : List (Nat → Bool)) (D : List Nat) (v w : Value) (Z : Nat → Prop) (H : Hp), GrM H v ps Z → SlR H w (iL (nI D)) → (∀ a ∈ D, a < ps.length) → D.length ≤ 100000 →
  CallsM P k #[v, w] H fun r H' => SetM H' r (nbP ps D) ∧ Keep (fun _ => False) H H'
theorem lneigh_ok {P : Program} {ι : Ids} {k : FuncId} (hk : FnIs P k (c_lneigh ι) r_lneigh 2) (ho : BOfSpec P (ι.f 143)) (hor : BOrSpec P (ι.f 132)) : NeighSpec P k := by
  intro ps D v w Z H hv hw hD hDl
  obtain ⟨R, hR⟩ : ∃ R : Value → Hp → Prop, R = fun r H' => SetM H' r (nbP ps D) ∧ Keep (fun _ => False) H H' := ⟨_, rfl⟩
  rw [← hR]
  refine calls_of_vc hk (args := [_, _]) (by simp) ?_
  unfold c_lneigh r_lneigh
  simp only [go_sem, List.map_cons, List.map_nil, ↓reduceIte, Nat.reduceEqDiff, Nat.reduceAdd, Nat.reduceMul, reduceCtorEq, and_true, true_and, Nat.mul_one, Nat.zero_add, Bool.false_eq_true, decide_true, decide_false, not_false_eq_true, fillV_nil, fillV_cons, okFill_nil, okFill_cons, cells_slice, cells_int, cells_bool, cells_str, cells_ptr, cells_agg, stNH_ptr, okN_ptr, wrA1, wrA20, wrA21]
  refine kont_new fun H1 b2 e1 z1 B1 K1 => ?_
  have s1 := K1.size
  simp only [go_sem, List.map_cons, List.map_nil, ↓reduceIte, Nat.reduceEqDiff, Nat.reduceAdd, Nat.reduceMul, reduceCtorEq, and_true, true_and, Nat.mul_one, Nat.zero_add, Bool.false_eq_true, decide_true, decide_false, not_false_eq_true, kont_eq]
  refine (ho [] _ H1 (SlR.nil _ _ _) (by simp)).mono ?_
  rintro r H2 ⟨hS2, K2, n2⟩
  obtain ⟨u, W, rfl, hu⟩ := id hS2
  have s2 := K2.size
  rw [kont_eq]
  simp only [go_sem, List.map_cons, List.map_nil, ↓reduceIte, Nat.reduceEqDiff, Nat.reduceAdd, Nat.reduceMul, reduceCtorEq, and_true, true_and, Nat.mul_one, Nat.zero_add, Bool.false_eq_true, decide_true, decide_false, not_false_eq_true, fillV_nil, fillV_cons, okFill_nil, okFill_cons, cells_slice, cells_int, cells_bool, cells_str, cells_ptr, cells_agg, stNH_ptr, okN_ptr, wrA1, wrA20, wrA21]
  refine kont_new fun H3 b3 e3 z3 B3 K3 => ?_
  have s3 := K3.size
  have hokN := B3.okNA (o := 0) (n := 1) (by simp)
  have B4 := B3.stNA 0 [u]
  have B4 : Bl (stNA H3 ⟨b3, 0, none⟩ [u]) b3 [u] := by simpa [wrL] using B4
  have K4 : Keep (fun k => k = b3) H3 (stNA H3 ⟨b3, 0, none⟩ [u]) := (Keep.refl _ _).stNA _ (.inl rfl)
  have hone : all1 #[u] := hu.sl.one
  have hu4 := (hS2.keep0 K3).keep K4 (fun k hk e => by have := hS2.old hk; omega)
  have hub : ∀ k, slB u k → H1.size ≤ k ∧ k ≠ b3 := fun k hk => ⟨n2 k hk, fun e => by have := hS2.old (k := k) hk; omega⟩
  have B14 := K4.bl (K3.bl (K2.bl B1 (by simp)) (by simp)) (by have := B1.lt; omega)
  have K04 : Keep (fun _ => False) H (stNA H3 ⟨b3, 0, none⟩ [u]) := ((K1.trans K2).trans K3).to_old K4 (by omega)
  have hw4 := hw.keep K04 (by simp)
  simp only [go_sem, List.map_cons, List.map_nil, ↓reduceIte, Nat.reduceEqDiff, Nat.reduceAdd, Nat.reduceMul, reduceCtorEq, and_true, true_and, Nat.mul_one, Nat.zero_add, Bool.false_eq_true, decide_true, decide_false, not_false_eq_true, kont_eq, fillV_nil, fillV_cons, okFill_nil, okFill_cons, cells_slice, cells_int, cells_bool, cells_str, cells_ptr, cells_agg, stNH_ptr, okN_ptr, wrA1, wrA20, wrA21, hokN, hone]
  generalize stNA H3 ⟨b3, 0, none⟩ [u] = H4 at B4 K4 hu4 B14 K04 hw4 ⊢
  simp only [go_sem, List.map_cons, List.map_nil, ↓reduceIte, Nat.reduceEqDiff, Nat.reduceAdd, Nat.reduceMul, reduceCtorEq, and_true, true_and, Nat.mul_one, Nat.zero_add, Bool.false_eq_true, decide_true, decide_false, not_false_eq_true, kont_eq, hw4.isSl, hw4.len, iL_len, nI_len]
  refine vc_mono ?_ ?_ (Q := fun e f H' => e = .x 0 ∧ f 4 = .pointer (some ⟨b2, 0, none⟩) ∧ f 5 = .pointer (some ⟨b3, 0, none⟩) ∧ ∃ (u y : Value), Bl H' b3 [u] ∧ Bl H' b2 [y] ∧ SetM H' (.agg #[u]) (nbP ps D) ∧ (∀ k, slB u k → H1.size ≤ k) ∧ Keep (fun _ => False) H H')
  · rintro e f H5 ⟨rfl, hf2, hf3, u, y, B5, B25, hu5, hub, K5⟩
    have e3 := B5.ldNO 1 rfl
    simp only [go_sem, List.map_cons, List.map_nil, ↓reduceIte, Nat.reduceEqDiff, Nat.reduceAdd, Nat.reduceMul, reduceCtorEq, and_true, true_and, Nat.mul_one, Nat.zero_add, Bool.false_eq_true, decide_true, decide_false, not_false_eq_true, kont_eq, fillV_nil, fillV_cons, okFill_nil, okFill_cons, cells_slice, cells_int, cells_bool, cells_str, cells_ptr, cells_agg, stNH_ptr, okN_ptr, wrA1, wrA20, wrA21, hf2, hf3, e3]
    refine ret1 B25 ?_ fun H6 z6 K6 => ?_
    · obtain ⟨_, _, e, h⟩ := hu5; cases e; exact h.sl.one
    · have hb2 : b2 < H1.size := B1.lt
      rw [hR]
      exact ⟨hu5.keep K6 (fun k hk e => by have := hub k hk; omega), K5.to_old K6 (by omega)⟩
  · refine vc_loop [12, 7, 22, 11] rfl (fun n f H' => ∃ (i : Nat) (u y : Value), i ≤ D.length ∧ n = D.length - i ∧ f 11 = .int .i64 i ∧ Bl H' b3 [u] ∧ Bl H' b2 [y] ∧ SetM H' (.agg #[u]) (nbP ps (D.take i)) ∧ (∀ k, slB u k → H1.size ≤ k ∧ k ≠ b3) ∧ Keep (fun _ => False) H H') D.length
      ⟨0, u, _, by omega, by omega, by simp only [go_sem, List.map_cons, List.map_nil, ↓reduceIte, Nat.reduceEqDiff, Nat.reduceAdd, Nat.reduceMul, reduceCtorEq, and_true, true_and, Nat.mul_one, Nat.zero_add, Bool.false_eq_true, decide_true, decide_false, not_false_eq_true, kont_eq]; rfl, B4, B14, hu4.congr (fun n => by simp [ofP, nbP]), hub, K04⟩ ?_
    rintro n f H5 ⟨i, u, y, hi, rfl, hf, B5, B25, hu5, hub, K5⟩
    simp only [go_sem, List.map_cons, List.map_nil, ↓reduceIte, Nat.reduceEqDiff, Nat.reduceAdd, Nat.reduceMul, reduceCtorEq, and_true, true_and, Nat.mul_one, Nat.zero_add, Bool.false_eq_true, decide_true, decide_false, not_false_eq_true, kont_eq] at hf
    simp only [go_sem, List.map_cons, List.map_nil, ↓reduceIte, Nat.reduceEqDiff, Nat.reduceAdd, Nat.reduceMul, reduceCtorEq, and_true, true_and, Nat.mul_one, Nat.zero_add, Bool.false_eq_true, decide_true, decide_false, not_false_eq_true, hf]
    refine iteV_dec (fun hlt => ?_) (fun hge => ?_)
    · have hlt : i < D.length := by omega
      have hw5 := hw.keep K5 (by simp)
      obtain ⟨wb, wo, wc, rfl, -, hwc⟩ := hw5.cells (by intro e; have h := congrArg List.length e; rw [iL_len, nI_len, List.length_nil] at h; omega)
      rw [iL_len, nI_len] at hwc
      have hci := hwc i hlt
      rw [iL_get _ _ (by rw [nI_len]; exact hlt), nI_get _ _ hlt] at hci
      have hj : D.getD i 0 < ps.length := hD _ (by rw [List.getD_eq_getElem?_getD, List.getElem?_eq_getElem hlt]; exact List.getElem_mem _)
      have htk : D.take (i + 1) = D.take i ++ [D.getD i 0] := by
        rw [List.take_succ_eq_append_getElem hlt, List.getD_eq_getElem?_getD, List.getElem?_eq_getElem hlt]; rfl
      generalize D.getD i 0 = j at *
      obtain ⟨gvs, hG⟩ := hv.keep0 K5
      have hgj := hG.at_ j hj
      obtain ⟨eb, eo, ec, rfl, hld, hcell⟩ := hG.elt hj
      have e3 := B5.ldNO 1 rfl
      have e5 : decide ((j : Int) ≥ 0) = true := decide_eq_true (by omega)
      have e6 : decide ((j : Int) < (ps.length : Int)) = true := decide_eq_true (by omega)
      simp only [go_sem, List.map_cons, List.map_nil, ↓reduceIte, Nat.reduceEqDiff, Nat.reduceAdd, Nat.reduceMul, reduceCtorEq, and_true, true_and, Nat.mul_one, Nat.zero_add, Bool.false_eq_true, decide_true, decide_false, not_false_eq_true, kont_eq, hf, iL_len, nI_len, tn_cast, Nat.mul_one, hci, e5, e6, e3, hld, ldNO_ptr]
      refine ⟨by omega, by omega, ?_⟩
      refine (hor _ _ _ _ H5 hu5 hgj).mono ?_
      rintro r H6 ⟨hS6, K6, n6⟩
      obtain ⟨u6, W6, rfl, hu6⟩ := id hS6
      have s6 := K6.size
      have s5 := K5.size
      have B6 := K6.bl B5 (by simp)
      have B26 := K6.bl B25 (by simp)
      have hb35 := B5.lt
      have hb25 := B25.lt
      have hub6 : ∀ k, slB u6 k → H1.size ≤ k ∧ k ≠ b3 := fun k hk => by
        have h : H5.size ≤ k := n6 k hk
        exact ⟨by have := B1.lt; omega, by omega⟩
      have hokN := B6.okNA (o := 0) (n := 1) (by simp)
      have B7 := B6.stNA 0 [u6]
      have B7 : Bl (stNA H6 ⟨b3, 0, none⟩ [u6]) b3 [u6] := by simpa [wrL] using B7
      have K7 : Keep (fun k => k = b3) H6 (stNA H6 ⟨b3, 0, none⟩ [u6]) := (Keep.refl _ _).stNA _ (.inl rfl)
      have hone : all1 #[u6] := hu6.sl.one
      have hu7 := hS6.keep K7 (fun k hk e => (hub6 k hk).2 e)
      have B27 := K7.bl B26 (by have := B1.lt; omega)
      simp (disch := omega) only [go_sem, List.map_cons, List.map_nil, ↓reduceIte, Nat.reduceEqDiff, Nat.reduceAdd, Nat.reduceMul, reduceCtorEq, and_true, true_and, Nat.mul_one, Nat.zero_add, Bool.false_eq_true, decide_true, decide_false, not_false_eq_true, kont_eq, fillV_nil, fillV_cons, okFill_nil, okFill_cons, cells_slice, cells_int, cells_bool, cells_str, cells_ptr, cells_agg, stNH_ptr, okN_ptr, wrA1, wrA20, wrA21, hf, hokN, hone, IntWalk.i64_in]
      exact ⟨D.length - (i + 1), by omega, i + 1, u6, y, by omega, rfl, by simp, B7, B27, hu7.congr (fun n => by rw [htk, nbP_app]), hub6, (K5.trans K6).to_old K7 (by omega)⟩
    · have hil : i = D.length := by omega
      subst hil
      rw [List.take_length] at hu5
      exact ⟨u, y, B5, B25, hu5, fun k hk => (hub k hk).1, K5⟩
/-- a graph's copy: its own block, the sets those of the graph -/
def GClnSpec (P : Program) (k : FuncId) : Prop := ∀ (vs : List Value) (v : Value) (H : Hp), SlR H v vs → vs ≠ [] → all1 vs.toArray → vs.length ≤ 100000 → CallsM P k #[v] H fun r H' => OwS H' r vs ∧ (∀ k, ownB r k → H.size ≤ k) ∧ Keep (fun _ => False) H H'
theorem gclone_ok {P : Program} {ι : Ids} {k : FuncId} (hk : FnIs P k (c_gclone ι) r_gclone 1) : GClnSpec P k := by
  intro vs v H hv hne h1 hl
  refine calls_of_vc hk (args := [_]) (by simp) ?_
  unfold c_gclone r_gclone
  obtain ⟨b, o, c, rfl, hlc, hcl⟩ := hv.cells hne
  simp only [go_sem, List.map_cons, List.map_nil, ↓reduceIte, Nat.reduceEqDiff, Nat.reduceAdd, Nat.reduceMul, reduceCtorEq, and_true, true_and, Nat.mul_one, Nat.zero_add, Bool.false_eq_true, decide_true, decide_false, not_false_eq_true, fillV_nil, fillV_cons, okFill_nil, okFill_cons, cells_slice, cells_int, cells_bool, cells_str, cells_ptr, cells_agg, stNH_ptr, okN_ptr, wrA1, wrA20, wrA21]
  refine kont_news fun H1 b1 e1 z1 B1 K1 => ?_
  have s1 := K1.size
  simp only [go_sem, List.map_cons, List.map_nil, ↓reduceIte, Nat.reduceEqDiff, Nat.reduceAdd, Nat.reduceMul, reduceCtorEq, and_true, true_and, Nat.mul_one, Nat.zero_add, Bool.false_eq_true, decide_true, decide_false, not_false_eq_true, kont_eq]
  have B1 : Bl H1 b1 [] := B1
  refine app_sl (l := []) (m := vs) (OwS.bl B1 (by simp) (by simp) (by simp) (by simp)) (hv.keep K1 (by simp)) h1 rfl (by unfold maxLen; simp; omega) (by simp; omega) fun v' H2 O2 M2 N2 => ?_
  obtain ⟨va, vn, vc, rfl⟩ := O2.shape
  simp only [go_sem, List.map_cons, List.map_nil, ↓reduceIte, Nat.reduceEqDiff, Nat.reduceAdd, Nat.reduceMul, reduceCtorEq, and_true, true_and, Nat.mul_one, Nat.zero_add, Bool.false_eq_true, decide_true, decide_false, not_false_eq_true, kont_eq]
  refine ⟨O2, fun k hk => ?_, K1.trans' M2 (fun i hi h => by have h : i = b1 := h; omega)⟩
  rcases N2 k hk with h | h
  · have h : k = b1 := h; omega
  · omega
end Go.Mg

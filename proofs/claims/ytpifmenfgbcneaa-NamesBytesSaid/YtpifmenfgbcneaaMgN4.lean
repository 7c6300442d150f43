/- names: questions to tables, lists of texts, the reference. -/
import Derived.Test.YtpifmenfgbcneaaMgN3
namespace Go.Mg
open Go Go.RowKit
set_option linter.unusedSimpArgs false
set_option linter.unusedVariables false
set_option maxRecDepth 100000
/- arbacref08.Same -/
def c_nsame (ι : Ids) : S :=
  .seq (.reg [.p (.v 4) (.mv (.c (.bool false)))]) (.seq (.seq (.reg [.p (.t 6) (.mv (.v 0)), .p (.t 7) (.m (.lenl (.t 6))), .p (.t 8) (.mv (.v 1)), .p (.t 9) (.m (.lenl (.t 8))), .p (.v 10) (.cm .neq
  .i64 (.t 7) (.t 9))]) (.ite (.v 10) (.seq (.reg [.p (.v 4) (.mv (.c (.bool false)))]) .ret) .skip)) (.seq (.seq (.reg [.p (.t 11) (.mv (.v 0)), .p (.v 12) (.m (.lenl (.t 11))), .p (.v 13) (.mv (.c
  (.int .i64 0)))]) (.blk 0 (.loop (.seq (.reg [.p (.v 14) (.cm .lss .i64 (.v 13) (.v 12))]) (.seq (.ite (.v 14) .skip (.exit 0)) (.seq (.blk 1 (.seq (.reg [.p (.t 15) (.mv (.v 13)), .p (.v 5) (.mv (.t
  15))]) (.seq (.reg [.p (.t 16) (.mv (.v 0)), .p (.t 17) (.mv (.v 5)), .p (.t 18) (.is 1 (.t 16) (.t 17)), .p (.t 19) (.ld (.t 18)), .p (.t 20) (.mv (.v 1)), .p (.t 21) (.mv (.v 5)), .p (.t 22) (.is 1
  (.t 20) (.t 21)), .p (.t 23) (.ld (.t 22)), .p (.v 24) (.sc .neq (.t 19) (.t 23))]) (.ite (.v 24) (.seq (.reg [.p (.v 4) (.mv (.c (.bool false)))]) .ret) .skip)))) (.reg [.p (.t 25) (.ar .add .i64 (.v
  13) (.c (.int .i64 1))), .p (.v 13) (.mv (.t 25))]))))))) (.seq (.reg [.p (.v 4) (.mv (.c (.bool true)))]) .ret)))
def r_nsame : List RV := [.t 4]
/- slices.Equal[[]string,string] -/
def c_sequal (ι : Ids) : S :=
  .seq (.reg [.p (.v 4) (.mv (.c (.bool false)))]) (.seq (.seq (.reg [.p (.t 6) (.mv (.v 0)), .p (.t 7) (.m (.lenl (.t 6))), .p (.t 8) (.mv (.v 1)), .p (.t 9) (.m (.lenl (.t 8))), .p (.v 10) (.cm .neq
  .i64 (.t 7) (.t 9))]) (.ite (.v 10) (.seq (.reg [.p (.v 4) (.mv (.c (.bool false)))]) .ret) .skip)) (.seq (.seq (.reg [.p (.t 11) (.mv (.v 0)), .p (.v 12) (.m (.lenl (.t 11))), .p (.v 13) (.mv (.c
  (.int .i64 0)))]) (.blk 0 (.loop (.seq (.reg [.p (.v 14) (.cm .lss .i64 (.v 13) (.v 12))]) (.seq (.ite (.v 14) .skip (.exit 0)) (.seq (.blk 1 (.seq (.reg [.p (.t 15) (.mv (.v 13)), .p (.v 5) (.mv (.t
  15))]) (.seq (.reg [.p (.t 16) (.mv (.v 0)), .p (.t 17) (.mv (.v 5)), .p (.t 18) (.is 1 (.t 16) (.t 17)), .p (.t 19) (.ld (.t 18)), .p (.t 20) (.mv (.v 1)), .p (.t 21) (.mv (.v 5)), .p (.t 22) (.is 1
  (.t 20) (.t 21)), .p (.t 23) (.ld (.t 22)), .p (.v 24) (.sc .neq (.t 19) (.t 23))]) (.ite (.v 24) (.seq (.reg [.p (.v 4) (.mv (.c (.bool false)))]) .ret) .skip)))) (.reg [.p (.t 25) (.ar .add .i64 (.v
  13) (.c (.int .i64 1))), .p (.v 13) (.mv (.t 25))]))))))) (.seq (.reg [.p (.v 4) (.mv (.c (.bool true)))]) .ret)))
def r_sequal : List RV := [.t 4]
/- (ptr names.Table).Equal -/
def c_nequal (ι : Ids) : S :=
  .seq (.reg [.p (.v 4) (.mv (.c (.bool false)))]) (.seq (.seq (.reg [.p (.t 5) (.mv (.v 0)), .p (.t 6) (.m (.eqn .ptr false (.t 5))), .p (.t 7) (.mv (.t 6)), .gp (.t 8) (.t 7) false (.mv (.v 1)), .gp
  (.t 9) (.t 7) false (.m (.eqn .ptr false (.t 8))), .p (.v 10) (.pick (.t 7) (.c (.bool true)) (.t 9))]) (.ite (.v 10) (.seq (.reg [.p (.t 11) (.mv (.v 0)), .p (.t 12) (.mv (.v 1)), .p (.t 13) (.m
  (.eqp false (.t 11) (.t 12))), .p (.v 4) (.mv (.t 13))]) .ret) .skip)) (.seq (.reg [.p (.t 14) (.mv (.v 0)), .p (.t 15) (.nil (.t 14)), .p (.t 16) (.fa 0 (.t 15)), .p (.t 17) (.ld (.t 16)), .p (.t 18)
  (.mv (.v 1)), .p (.t 19) (.nil (.t 18)), .p (.t 20) (.fa 0 (.t 19)), .p (.t 21) (.ld (.t 20)), .e (.t 22) (.call (ι.f 94) [.t 17, .t 21]), .p (.v 4) (.mv (.t 22))]) .ret))
def r_nequal : List RV := [.t 4]
/- arbacref08.Number -/
def c_rnumber (ι : Ids) : S :=
  .seq (.reg [.p (.v 4) (.mv (.c (.int .i64 0)))]) (.seq (.seq (.reg [.p (.v 7) (.mv (.v 0)), .p (.v 8) (.m (.lenl (.v 7))), .p (.v 9) (.mv (.c (.int .i64 0)))]) (.blk 0 (.loop (.seq (.reg [.p (.v 10)
  (.cm .lss .i64 (.v 9) (.v 8))]) (.seq (.ite (.v 10) .skip (.exit 0)) (.seq (.blk 1 (.seq (.reg [.p (.t 11) (.mv (.v 9)), .p (.t 12) (.is 1 (.v 7) (.v 9)), .p (.t 13) (.ld (.t 12)), .p (.v 5) (.mv (.t
  11)), .p (.v 6) (.mv (.t 13))]) (.seq (.reg [.p (.t 14) (.mv (.v 6)), .p (.t 15) (.mv (.v 1)), .p (.v 16) (.sc .eql (.t 14) (.t 15))]) (.ite (.v 16) (.seq (.reg [.p (.t 17) (.mv (.v 5)), .p (.t 18)
  (.ar .add .i64 (.t 17) (.c (.int .i64 1))), .p (.v 4) (.mv (.t 18))]) .ret) .skip)))) (.reg [.p (.t 19) (.ar .add .i64 (.v 9) (.c (.int .i64 1))), .p (.v 9) (.mv (.t 19))]))))))) (.seq (.reg [.p (.v
  4) (.mv (.c (.int .i64 0)))]) .ret))
def r_rnumber : List RV := [.t 4]
/- arbacref08.Check -/
def c_rcheck (ι : Ids) : S :=
  .seq (.reg [.p (.v 6) (.mv (.c (.int .i64 0)))]) (.seq (.seq (.reg [.p (.t 7) (.mv (.v 1)), .e (.t 8) (.call (ι.f 76) [.t 7]), .p (.v 9) (.not (.t 8))]) (.ite (.v 9) (.seq (.reg [.p (.v 6) (.mv (.c
  (.int .i64 9)))]) .ret) .skip)) (.seq (.seq (.reg [.p (.t 10) (.mv (.v 0)), .p (.t 11) (.mv (.v 1)), .e (.t 12) (.call (ι.f 96) [.t 10, .t 11]), .p (.v 13) (.cm .gtr .i64 (.t 12) (.c (.int .i64 0)))])
  (.ite (.v 13) (.seq (.reg [.p (.v 6) (.mv (.c (.int .i64 5)))]) .ret) .skip)) (.seq (.seq (.reg [.p (.t 14) (.mv (.v 0)), .p (.t 15) (.m (.lenl (.t 14))), .p (.t 16) (.mv (.v 2)), .p (.t 17) (.cm .geq
  .i64 (.t 15) (.t 16)), .p (.t 18) (.mv (.t 17)), .gp (.t 19) (.t 18) false (.mv (.v 0)), .gp (.t 20) (.t 18) false (.m (.lenl (.t 19))), .gp (.t 21) (.t 18) false (.cm .geq .i64 (.t 20) (.c (.int .i64
  256))), .p (.v 22) (.pick (.t 18) (.c (.bool true)) (.t 21))]) (.ite (.v 22) (.seq (.reg [.p (.v 6) (.mv (.c (.int .i64 14)))]) .ret) .skip)) (.seq (.reg [.p (.v 6) (.mv (.c (.int .i64 0)))]) .ret))))
def r_rcheck : List RV := [.t 6]
/- arbaclaw08.words -/
def c_nwords (ι : Ids) : S :=
  .seq (.reg [.p (.v 2) (.mv (.c (.slice .none 0 0)))]) (.seq (.reg [.p (.v 3) (.mv (.c (.slice .none 0 0)))]) (.seq (.seq (.reg [.p (.v 4) (.mv (.c (.int .i64 0)))]) (.blk 0 (.loop (.seq (.seq (.reg
  [.p (.t 5) (.mv (.v 4)), .p (.t 6) (.mv (.v 0)), .p (.t 7) (.m (.lenl (.t 6))), .p (.t 8) (.cm .lss .i64 (.t 5) (.t 7)), .p (.t 9) (.mv (.t 8)), .gp (.t 10) (.t 9) true (.mv (.v 4)), .gp (.t 11) (.t
  9) true (.cm .lss .i64 (.t 10) (.c (.int .i64 24))), .p (.v 12) (.pick (.t 9) (.t 11) (.c (.bool false)))]) (.ite (.v 12) .skip (.exit 0))) (.seq (.blk 1 (.reg [.p (.t 15) (.mv (.v 3)), .p (.t 16)
  (.mv (.v 0)), .p (.t 17) (.mv (.v 4)), .p (.t 18) (.is 1 (.t 16) (.t 17)), .p (.t 19) (.ld (.t 18)), .e (.t 20) (.call (ι.f 77) [.t 19]), .e (.t 21) (.bldF (ι.t 67) 1 1 [.t 20]), .e (.t 22) (.app
  false (ι.t 67) 1 16 #[.string ⟨#[]⟩] (.t 15) (.t 21)), .p (.v 3) (.mv (.t 22))])) (.reg [.p (.t 13) (.mv (.v 4)), .p (.t 14) (.ar .add .i64 (.t 13) (.c (.int .i64 1))), .p (.v 4) (.mv (.t 14))]))))))
  (.seq (.reg [.p (.t 23) (.mv (.v 3)), .p (.v 2) (.mv (.t 23))]) .ret)))
def r_nwords : List RV := [.t 2]

def SameSpec (P : Program) (k : FuncId) : Prop := ∀ (a b : List (List UInt8)) (va vb : Value) (H : Hp), SlR H va (sL a) → SlR H vb (sL b) → a.length ≤ 1000000 → CallsM P k #[va, vb] H fun r H' => r = .bool (decide (a = b)) ∧ H' = H
theorem nsame_ok {P : Program} {ι : Ids} {k : FuncId} (hk : FnIs P k (c_nsame ι) r_nsame 2) : SameSpec P k := by
  intro a b va vb H ha hb hl
  refine calls_of_vc hk (args := [_, _]) (by simp) ?_
  unfold c_nsame r_nsame
  by_cases c1 : a.length = b.length
  · have e1 : ((a.length : Int) != (b.length : Int)) = false := by rw [c1]; exact bne_self_eq_false _
    simp only [go_sem, List.map_cons, List.map_nil, ↓reduceIte, Nat.reduceEqDiff, Nat.reduceAdd, Nat.reduceMul, reduceCtorEq, and_true, true_and, Nat.mul_one, Nat.zero_add, Bool.false_eq_true, decide_true, decide_false, not_false_eq_true, kont_eq, ha.isSl, ha.len, hb.isSl, hb.len, sL_len, e1]
    refine vc_loop [14, 5, 24, 4, 13] rfl (fun n f H' => ∃ i, i ≤ a.length ∧ n = a.length - i ∧ f 13 = .int .i64 i ∧ (∀ j, j < i → a.getD j [] = b.getD j []) ∧ H' = H) a.length
      ⟨0, by omega, by omega, rfl, fun j hj => by omega, rfl⟩ ?_
    rintro n g H' ⟨i, hi, rfl, hf, hx, rfl⟩
    simp only [go_sem, List.map_cons, List.map_nil, ↓reduceIte, Nat.reduceEqDiff, Nat.reduceAdd, Nat.reduceMul, reduceCtorEq, and_true, true_and, Nat.mul_one, Nat.zero_add, Bool.false_eq_true, decide_true, decide_false, not_false_eq_true, kont_eq] at hf
    simp only [go_sem, List.map_cons, List.map_nil, ↓reduceIte, Nat.reduceEqDiff, Nat.reduceAdd, Nat.reduceMul, reduceCtorEq, and_true, true_and, Nat.mul_one, Nat.zero_add, Bool.false_eq_true, decide_true, decide_false, not_false_eq_true, kont_eq, hf]
    refine iteV_dec (fun hlt => ?_) (fun hge => ?_)
    · have hi2 : i < a.length := by omega
      obtain ⟨b1, o1, q1, rfl, -, hc1⟩ := ha.cells (by intro e; have h := congrArg List.length e; rw [sL_len, List.length_nil] at h; omega)
      obtain ⟨b2, o2, q2, rfl, -, hc2⟩ := hb.cells (by intro e; have h := congrArg List.length e; rw [sL_len, List.length_nil] at h; omega)
      have hci1 := hc1 i (by rw [sL_len]; omega)
      have hci2 := hc2 i (by rw [sL_len]; omega)
      rw [sL_get _ _ hi2] at hci1
      rw [sL_get _ _ (by omega)] at hci2
      simp (disch := omega) only [go_sem, List.map_cons, List.map_nil, ↓reduceIte, Nat.reduceEqDiff, Nat.reduceAdd, Nat.reduceMul, reduceCtorEq, and_true, true_and, Nat.mul_one, Nat.zero_add, Bool.false_eq_true, decide_true, decide_false, not_false_eq_true, kont_eq, hf, sL_len, hci1, hci2, tn_cast, ba_tlb]
      refine And.intro (by omega) (And.intro (by omega) ?_)
      by_cases h1 : a.getD i [] = b.getD i []
      · simp (disch := omega) only [go_sem, List.map_cons, List.map_nil, ↓reduceIte, Nat.reduceEqDiff, Nat.reduceAdd, Nat.reduceMul, reduceCtorEq, and_true, true_and, Nat.mul_one, Nat.zero_add, Bool.false_eq_true, decide_true, decide_false, not_false_eq_true, kont_eq, h1, hf, IntWalk.i64_in, iteV]
        refine ⟨a.length - (i + 1), by omega, i + 1, by omega, rfl, by simp, fun j hj => ?_⟩
        by_cases e : j = i
        · subst e; exact h1
        · exact hx j (by omega)
      · have hne : a ≠ b := fun e => h1 (by rw [e])
        simp only [go_sem, List.map_cons, List.map_nil, ↓reduceIte, Nat.reduceEqDiff, Nat.reduceAdd, Nat.reduceMul, reduceCtorEq, and_true, true_and, Nat.mul_one, Nat.zero_add, Bool.false_eq_true, decide_true, decide_false, not_false_eq_true, kont_eq, h1, hne, iteV]
    · have hi2 : i = a.length := by omega
      subst hi2
      have : a = b := by
        apply List.ext_getElem c1
        intro j h1 h2
        have := hx j h1
        simpa [List.getD_eq_getElem?_getD, h1, h2] using this
      simp only [go_sem, List.map_cons, List.map_nil, ↓reduceIte, Nat.reduceEqDiff, Nat.reduceAdd, Nat.reduceMul, reduceCtorEq, and_true, true_and, Nat.mul_one, Nat.zero_add, Bool.false_eq_true, decide_true, decide_false, not_false_eq_true, kont_eq, this]
  · have e1 : ((a.length : Int) != (b.length : Int)) = true := by
      simp only [bne_iff_ne]; omega
    have hne : a ≠ b := fun e => c1 (by rw [e])
    simp only [go_sem, List.map_cons, List.map_nil, ↓reduceIte, Nat.reduceEqDiff, Nat.reduceAdd, Nat.reduceMul, reduceCtorEq, and_true, true_and, Nat.mul_one, Nat.zero_add, Bool.false_eq_true, decide_true, decide_false, not_false_eq_true, kont_eq, ha.isSl, ha.len, hb.isSl, hb.len, sL_len, e1, hne]
def SEqSpec (P : Program) (k : FuncId) : Prop := ∀ (a b : List (List UInt8)) (va vb : Value) (H : Hp), SlR H va (sL a) → SlR H vb (sL b) → a.length ≤ 1000000 → CallsM P k #[va, vb] H fun r H' => r = .bool (decide (a = b)) ∧ H' = H
theorem sequal_ok {P : Program} {ι : Ids} {k : FuncId} (hk : FnIs P k (c_sequal ι) r_sequal 2) : SEqSpec P k := by
  intro a b va vb H ha hb hl
  refine calls_of_vc hk (args := [_, _]) (by simp) ?_
  unfold c_sequal r_sequal
  by_cases c1 : a.length = b.length
  · have e1 : ((a.length : Int) != (b.length : Int)) = false := by rw [c1]; exact bne_self_eq_false _
    simp only [go_sem, List.map_cons, List.map_nil, ↓reduceIte, Nat.reduceEqDiff, Nat.reduceAdd, Nat.reduceMul, reduceCtorEq, and_true, true_and, Nat.mul_one, Nat.zero_add, Bool.false_eq_true, decide_true, decide_false, not_false_eq_true, kont_eq, ha.isSl, ha.len, hb.isSl, hb.len, sL_len, e1]
    refine vc_loop [14, 5, 24, 4, 13] rfl (fun n f H' => ∃ i, i ≤ a.length ∧ n = a.length - i ∧ f 13 = .int .i64 i ∧ (∀ j, j < i → a.getD j [] = b.getD j []) ∧ H' = H) a.length
      ⟨0, by omega, by omega, rfl, fun j hj => by omega, rfl⟩ ?_
    rintro n g H' ⟨i, hi, rfl, hf, hx, rfl⟩
    simp only [go_sem, List.map_cons, List.map_nil, ↓reduceIte, Nat.reduceEqDiff, Nat.reduceAdd, Nat.reduceMul, reduceCtorEq, and_true, true_and, Nat.mul_one, Nat.zero_add, Bool.false_eq_true, decide_true, decide_false, not_false_eq_true, kont_eq] at hf
    simp only [go_sem, List.map_cons, List.map_nil, ↓reduceIte, Nat.reduceEqDiff, Nat.reduceAdd, Nat.reduceMul, reduceCtorEq, and_true, true_and, Nat.mul_one, Nat.zero_add, Bool.false_eq_true, decide_true, decide_false, not_false_eq_true, kont_eq, hf]
    refine iteV_dec (fun hlt => ?_) (fun hge => ?_)
    · have hi2 : i < a.length := by omega
      obtain ⟨b1, o1, q1, rfl, -, hc1⟩ := ha.cells (by intro e; have h := congrArg List.length e; rw [sL_len, List.length_nil] at h; omega)
      obtain ⟨b2, o2, q2, rfl, -, hc2⟩ := hb.cells (by intro e; have h := congrArg List.length e; rw [sL_len, List.length_nil] at h; omega)
      have hci1 := hc1 i (by rw [sL_len]; omega)
      have hci2 := hc2 i (by rw [sL_len]; omega)
      rw [sL_get _ _ hi2] at hci1
      rw [sL_get _ _ (by omega)] at hci2
      simp (disch := omega) only [go_sem, List.map_cons, List.map_nil, ↓reduceIte, Nat.reduceEqDiff, Nat.reduceAdd, Nat.reduceMul, reduceCtorEq, and_true, true_and, Nat.mul_one, Nat.zero_add, Bool.false_eq_true, decide_true, decide_false, not_false_eq_true, kont_eq, hf, sL_len, hci1, hci2, tn_cast, ba_tlb]
      refine And.intro (by omega) (And.intro (by omega) ?_)
      by_cases h1 : a.getD i [] = b.getD i []
      · simp (disch := omega) only [go_sem, List.map_cons, List.map_nil, ↓reduceIte, Nat.reduceEqDiff, Nat.reduceAdd, Nat.reduceMul, reduceCtorEq, and_true, true_and, Nat.mul_one, Nat.zero_add, Bool.false_eq_true, decide_true, decide_false, not_false_eq_true, kont_eq, h1, hf, IntWalk.i64_in, iteV]
        refine ⟨a.length - (i + 1), by omega, i + 1, by omega, rfl, by simp, fun j hj => ?_⟩
        by_cases e : j = i
        · subst e; exact h1
        · exact hx j (by omega)
      · have hne : a ≠ b := fun e => h1 (by rw [e])
        simp only [go_sem, List.map_cons, List.map_nil, ↓reduceIte, Nat.reduceEqDiff, Nat.reduceAdd, Nat.reduceMul, reduceCtorEq, and_true, true_and, Nat.mul_one, Nat.zero_add, Bool.false_eq_true, decide_true, decide_false, not_false_eq_true, kont_eq, h1, hne, iteV]
    · have hi2 : i = a.length := by omega
      subst hi2
      have : a = b := by
        apply List.ext_getElem c1
        intro j h1 h2
        have := hx j h1
        simpa [List.getD_eq_getElem?_getD, h1, h2] using this
      simp only [go_sem, List.map_cons, List.map_nil, ↓reduceIte, Nat.reduceEqDiff, Nat.reduceAdd, Nat.reduceMul, reduceCtorEq, and_true, true_and, Nat.mul_one, Nat.zero_add, Bool.false_eq_true, decide_true, decide_false, not_false_eq_true, kont_eq, this]
  · have e1 : ((a.length : Int) != (b.length : Int)) = true := by
      simp only [bne_iff_ne]; omega
    have hne : a ≠ b := fun e => c1 (by rw [e])
    simp only [go_sem, List.map_cons, List.map_nil, ↓reduceIte, Nat.reduceEqDiff, Nat.reduceAdd, Nat.reduceMul, reduceCtorEq, and_true, true_and, Nat.mul_one, Nat.zero_add, Bool.false_eq_true, decide_true, decide_false, not_false_eq_true, kont_eq, ha.isSl, ha.len, hb.isSl, hb.len, sL_len, e1, hne]

def NLenSpec (P : Program) (k : FuncId) : Prop := (∀ (F : Nat → Prop) (t : Nat) (l : List (List UInt8)) (H : Hp), TabB F H t l → CallsM P k #[.pointer (some ⟨t, 0, none⟩)] H fun r H' => r = .int .i64 l.length ∧ H' = H) ∧
  ∀ H, CallsM P k #[.pointer none] H fun r H' => r = .int .i64 0 ∧ H' = H
theorem nlen_ok {P : Program} {ι : Ids} {k : FuncId} (hk : FnIs P k (c_nlen ι) r_nlen 1) : NLenSpec P k := by
  constructor
  · intro F t l H ht
    refine calls_of_vc hk (args := [_]) (by simp) ?_
    unfold c_nlen r_nlen
    obtain ⟨vs, vm, hB, hS, hM, hFt, hFs, hFm, hFb⟩ := ht
    simp only [go_sem, List.map_cons, List.map_nil, ↓reduceIte, Nat.reduceEqDiff, Nat.reduceAdd, Nat.reduceMul, reduceCtorEq, and_true, true_and, Nat.mul_one, Nat.zero_add, Bool.false_eq_true, decide_true, decide_false, not_false_eq_true, kont_eq, hB.cell, hS.isSl, hS.len, sL_len]
  · intro H
    refine calls_of_vc hk (args := [_]) (by simp) ?_
    unfold c_nlen r_nlen
    simp only [go_sem, List.map_cons, List.map_nil, ↓reduceIte, Nat.reduceEqDiff, Nat.reduceAdd, Nat.reduceMul, reduceCtorEq, and_true, true_and, Nat.mul_one, Nat.zero_add, Bool.false_eq_true, decide_true, decide_false, not_false_eq_true, kont_eq]
def NNamesSpec (P : Program) (k : FuncId) : Prop := (∀ (F : Nat → Prop) (t : Nat) (l : List (List UInt8)) (H : Hp), TabB F H t l → l.length ≤ 100000 → CallsM P k #[.pointer (some ⟨t, 0, none⟩)] H fun r H' => OwS H' r (sL l) ∧ (∀ k, ownB r k → H.size ≤ k) ∧ Keep (fun _ => False) H H') ∧
  ∀ H, CallsM P k #[.pointer none] H fun r H' => r = .slice none 0 0 ∧ H' = H
theorem nnames_ok {P : Program} {ι : Ids} {k : FuncId} (hk : FnIs P k (c_nnames ι) r_nnames 1) (hc : SCloneSpec P (ι.f 78)) : NNamesSpec P k := by
  constructor
  · intro F t l H ht hl
    refine calls_of_vc hk (args := [_]) (by simp) ?_
    unfold c_nnames r_nnames
    obtain ⟨vs, vm, hB, hS, hM, hFt, hFs, hFm, hFb⟩ := ht
    simp only [go_sem, List.map_cons, List.map_nil, ↓reduceIte, Nat.reduceEqDiff, Nat.reduceAdd, Nat.reduceMul, reduceCtorEq, and_true, true_and, Nat.mul_one, Nat.zero_add, Bool.false_eq_true, decide_true, decide_false, not_false_eq_true, kont_eq, hB.cell]
    refine (hc _ _ _ hS hl).mono ?_
    rintro r H1 ⟨O1, o1, K1⟩
    simp only [go_sem, List.map_cons, List.map_nil, ↓reduceIte, Nat.reduceEqDiff, Nat.reduceAdd, Nat.reduceMul, reduceCtorEq, and_true, true_and, Nat.mul_one, Nat.zero_add, Bool.false_eq_true, decide_true, decide_false, not_false_eq_true, kont_eq]
    exact ⟨O1, o1, K1⟩
  · intro H
    refine calls_of_vc hk (args := [_]) (by simp) ?_
    unfold c_nnames r_nnames
    simp only [go_sem, List.map_cons, List.map_nil, ↓reduceIte, Nat.reduceEqDiff, Nat.reduceAdd, Nat.reduceMul, reduceCtorEq, and_true, true_and, Nat.mul_one, Nat.zero_add, Bool.false_eq_true, decide_true, decide_false, not_false_eq_true, kont_eq]
/-- a name's number, 0: none -/
def numS (l : List (List UInt8)) (s : List UInt8) : Int := match posS l s with | some i => ((i + 1 : Nat) : Int) | none => 0
def NNumberSpec (P : Program) (k : FuncId) : Prop := (∀ (F : Nat → Prop) (t : Nat) (l : List (List UInt8)) (s : List UInt8) (H : Hp), TabB F H t l → CallsM P k #[.pointer (some ⟨t, 0, none⟩), sV s] H fun r H' => r = .tuple #[.int .i64 (numS l s), .bool (decide (s ∈ l))] ∧ H' = H) ∧
  ∀ s H, CallsM P k #[.pointer none, sV s] H fun r H' => r = .tuple #[.int .i64 0, .bool false] ∧ H' = H
theorem nnumber_ok {P : Program} {ι : Ids} {k : FuncId} (hk : FnIs P k (c_nnumber ι) r_nnumber 2) : NNumberSpec P k := by
  constructor
  · intro F t l s H ht
    refine calls_of_vc hk (args := [_, _]) (by simp) ?_
    unfold c_nnumber r_nnumber
    obtain ⟨vs, vm, hB, hS, hM, hFt, hFs, hFm, hFb⟩ := ht
    obtain ⟨es, hin, hes⟩ := hM.inn
    have hfe := hes.find s
    have hm := posS_isSome l s
    simp only [go_sem, List.map_cons, List.map_nil, ↓reduceIte, Nat.reduceEqDiff, Nat.reduceAdd, Nat.reduceMul, reduceCtorEq, and_true, true_and, Nat.mul_one, Nat.zero_add, Bool.false_eq_true, decide_true, decide_false, not_false_eq_true, kont_eq, hB.cell, hin, hfe]
    refine ⟨⟨es, rfl, hes.keys⟩, ?_⟩
    unfold numS
    cases hp : posS l s with
    | none => rw [hp] at hm; simp only [go_sem, List.map_cons, List.map_nil, ↓reduceIte, Nat.reduceEqDiff, Nat.reduceAdd, Nat.reduceMul, reduceCtorEq, and_true, true_and, Nat.mul_one, Nat.zero_add, Bool.false_eq_true, decide_true, decide_false, not_false_eq_true, kont_eq]; rw [← hm]; rfl
    | some i => rw [hp] at hm; simp only [go_sem, List.map_cons, List.map_nil, ↓reduceIte, Nat.reduceEqDiff, Nat.reduceAdd, Nat.reduceMul, reduceCtorEq, and_true, true_and, Nat.mul_one, Nat.zero_add, Bool.false_eq_true, decide_true, decide_false, not_false_eq_true, kont_eq]; rw [← hm]; rfl
  · intro s H
    refine calls_of_vc hk (args := [_, _]) (by simp) ?_
    unfold c_nnumber r_nnumber
    simp only [go_sem, List.map_cons, List.map_nil, ↓reduceIte, Nat.reduceEqDiff, Nat.reduceAdd, Nat.reduceMul, reduceCtorEq, and_true, true_and, Nat.mul_one, Nat.zero_add, Bool.false_eq_true, decide_true, decide_false, not_false_eq_true, kont_eq]
def RNumberSpec (P : Program) (k : FuncId) : Prop := ∀ (l : List (List UInt8)) (s : List UInt8) (v : Value) (H : Hp), SlR H v (sL l) → l.length ≤ 1000000 → CallsM P k #[v, sV s] H fun r H' => r = .int .i64 (numS l s) ∧ H' = H
theorem rnumber_ok {P : Program} {ι : Ids} {k : FuncId} (hk : FnIs P k (c_rnumber ι) r_rnumber 2) : RNumberSpec P k := by
  intro l s v H hv hl
  refine calls_of_vc hk (args := [_, _]) (by simp) ?_
  unfold c_rnumber r_rnumber
  simp only [go_sem, List.map_cons, List.map_nil, ↓reduceIte, Nat.reduceEqDiff, Nat.reduceAdd, Nat.reduceMul, reduceCtorEq, and_true, true_and, Nat.mul_one, Nat.zero_add, Bool.false_eq_true, decide_true, decide_false, not_false_eq_true, kont_eq, hv.isSl, hv.len, sL_len]
  refine vc_loop [10, 5, 6, 16, 4, 9] rfl (fun n f H' => ∃ i, i ≤ l.length ∧ n = l.length - i ∧ f 9 = .int .i64 i ∧ (∀ j, j < i → l.getD j [] ≠ s) ∧ H' = H) l.length
    ⟨0, by omega, by omega, rfl, fun j hj => by omega, rfl⟩ ?_
  rintro n g H' ⟨i, hi, rfl, hf9, hx, rfl⟩
  simp only [go_sem, List.map_cons, List.map_nil, ↓reduceIte, Nat.reduceEqDiff, Nat.reduceAdd, Nat.reduceMul, reduceCtorEq, and_true, true_and, Nat.mul_one, Nat.zero_add, Bool.false_eq_true, decide_true, decide_false, not_false_eq_true, kont_eq] at hf9
  simp only [go_sem, List.map_cons, List.map_nil, ↓reduceIte, Nat.reduceEqDiff, Nat.reduceAdd, Nat.reduceMul, reduceCtorEq, and_true, true_and, Nat.mul_one, Nat.zero_add, Bool.false_eq_true, decide_true, decide_false, not_false_eq_true, kont_eq, hf9]
  refine iteV_dec (fun hlt => ?_) (fun hge => ?_)
  · have hi2 : i < l.length := by omega
    obtain ⟨b, o, c, rfl, -, hc⟩ := hv.cells (by intro e; have h := congrArg List.length e; rw [sL_len, List.length_nil] at h; omega)
    rw [sL_len] at hc
    have hci := hc i hi2
    rw [sL_get _ _ hi2] at hci
    simp (disch := omega) only [go_sem, List.map_cons, List.map_nil, ↓reduceIte, Nat.reduceEqDiff, Nat.reduceAdd, Nat.reduceMul, reduceCtorEq, and_true, true_and, Nat.mul_one, Nat.zero_add, Bool.false_eq_true, decide_true, decide_false, not_false_eq_true, kont_eq, hf9, sL_len, hci, tn_cast, ba_tlb, IntWalk.i64_in]
    refine And.intro (by omega) ?_
    refine iteV_dec (fun h1 => ?_) (fun h1 => ?_)
    · unfold numS; rw [posS_some hi2 h1 hx]; simp
    · refine ⟨l.length - (i + 1), by omega, i + 1, by omega, rfl, by simp, fun j hj => ?_⟩
      by_cases e : j = i
      · subst e; exact h1
      · exact hx j (by omega)
  · have hi2 : i = l.length := by omega
    subst hi2
    unfold numS; rw [posS_none hx]
theorem numS_pos (l : List (List UInt8)) (s : List UInt8) : decide (numS l s > 0) = decide (s ∈ l) := by
  rw [← posS_isSome]
  unfold numS
  cases posS l s with
  | none => rfl
  | some i => simp
def RCheckSpec (P : Program) (k : FuncId) : Prop := ∀ (l : List (List UInt8)) (s : List UInt8) (most : Int) (v : Value) (H : Hp), SlR H v (sL l) → l.length ≤ 1000000 → s.length ≤ 1000000 → CallsM P k #[v, sV s, .int .i64 most] H fun r H' => r = .int .i64 (addE l s most) ∧ Keep (fun _ => False) H H'
theorem rcheck_ok {P : Program} {ι : Ids} {k : FuncId} (hk : FnIs P k (c_rcheck ι) r_rcheck 3) (hv : ValidSpec P (ι.f 76)) (hn : RNumberSpec P (ι.f 96)) : RCheckSpec P k := by
  intro l s most v H hS hl hs
  refine calls_of_vc hk (args := [_, _, _]) (by simp) ?_
  unfold c_rcheck r_rcheck
  simp only [go_sem, List.map_cons, List.map_nil, ↓reduceIte, Nat.reduceEqDiff, Nat.reduceAdd, Nat.reduceMul, reduceCtorEq, and_true, true_and, Nat.mul_one, Nat.zero_add, Bool.false_eq_true, decide_true, decide_false, not_false_eq_true, kont_eq]
  refine (hv _ _ hs).mono ?_
  rintro r H1 ⟨rfl, K1⟩
  have S1 := hS.keep K1 (by simp)
  by_cases c1 : validF s = false
  · have : addE l s most = 9 := by unfold addE; rw [if_pos c1]
    simp only [go_sem, List.map_cons, List.map_nil, ↓reduceIte, Nat.reduceEqDiff, Nat.reduceAdd, Nat.reduceMul, reduceCtorEq, and_true, true_and, Nat.mul_one, Nat.zero_add, Bool.false_eq_true, decide_true, decide_false, not_false_eq_true, kont_eq, c1, this]
    exact K1
  have c1' : validF s = true := by simpa using c1
  simp only [go_sem, List.map_cons, List.map_nil, ↓reduceIte, Nat.reduceEqDiff, Nat.reduceAdd, Nat.reduceMul, reduceCtorEq, and_true, true_and, Nat.mul_one, Nat.zero_add, Bool.false_eq_true, decide_true, decide_false, not_false_eq_true, kont_eq, c1']
  refine (hn _ _ _ _ S1 hl).mono ?_
  rintro r H2 ⟨rfl, rfl⟩
  have hp := numS_pos l s
  by_cases c2 : s ∈ l
  · have : addE l s most = 5 := by unfold addE; rw [if_neg c1, if_pos c2]
    rw [decide_eq_true c2] at hp
    simp only [go_sem, List.map_cons, List.map_nil, ↓reduceIte, Nat.reduceEqDiff, Nat.reduceAdd, Nat.reduceMul, reduceCtorEq, and_true, true_and, Nat.mul_one, Nat.zero_add, Bool.false_eq_true, decide_true, decide_false, not_false_eq_true, kont_eq, hp, this]
    exact K1
  rw [decide_eq_false c2] at hp
  by_cases c4 : (l.length : Int) ≥ most
  · have : addE l s most = 14 := by unfold addE; rw [if_neg c1, if_neg c2, if_pos (.inl c4)]
    simp only [go_sem, List.map_cons, List.map_nil, ↓reduceIte, Nat.reduceEqDiff, Nat.reduceAdd, Nat.reduceMul, reduceCtorEq, and_true, true_and, Nat.mul_one, Nat.zero_add, Bool.false_eq_true, decide_true, decide_false, not_false_eq_true, kont_eq, hp, S1.isSl, S1.len, sL_len, c4, this]
    exact K1
  by_cases c5 : (l.length : Int) ≥ 256
  · have : addE l s most = 14 := by unfold addE; rw [if_neg c1, if_neg c2, if_pos (.inr (by omega))]
    simp only [go_sem, List.map_cons, List.map_nil, ↓reduceIte, Nat.reduceEqDiff, Nat.reduceAdd, Nat.reduceMul, reduceCtorEq, and_true, true_and, Nat.mul_one, Nat.zero_add, Bool.false_eq_true, decide_true, decide_false, not_false_eq_true, kont_eq, hp, S1.isSl, S1.len, sL_len, c4, c5, this]
    exact K1
  have : addE l s most = 0 := by unfold addE; rw [if_neg c1, if_neg c2, if_neg (by omega)]
  simp only [go_sem, List.map_cons, List.map_nil, ↓reduceIte, Nat.reduceEqDiff, Nat.reduceAdd, Nat.reduceMul, reduceCtorEq, and_true, true_and, Nat.mul_one, Nat.zero_add, Bool.false_eq_true, decide_true, decide_false, not_false_eq_true, kont_eq, hp, S1.isSl, S1.len, sL_len, c4, c5, this]
  exact K1

def nameR (l : List (List UInt8)) (n : Int) : Value := if 1 ≤ n ∧ n ≤ (l.length : Int) then .tuple #[sV (l.getD (n - 1).toNat []), .bool true] else .tuple #[sV [], .bool false]
def NNameSpec (P : Program) (k : FuncId) : Prop := (∀ (F : Nat → Prop) (t : Nat) (l : List (List UInt8)) (n : Int) (H : Hp), TabB F H t l → l.length ≤ 1000000 → CallsM P k #[.pointer (some ⟨t, 0, none⟩), .int .i64 n] H fun r H' => r = nameR l n ∧ H' = H) ∧
  ∀ (n : Int) H, CallsM P k #[.pointer none, .int .i64 n] H fun r H' => r = .tuple #[sV [], .bool false] ∧ H' = H
theorem nname_ok {P : Program} {ι : Ids} {k : FuncId} (hk : FnIs P k (c_nname ι) r_nname 2) (hl : NLenSpec P (ι.f 85)) : NNameSpec P k := by
  constructor
  · intro F t l n H ht hll
    refine calls_of_vc hk (args := [_, _]) (by simp) ?_
    unfold c_nname r_nname
    by_cases c1 : n < 1
    · have : nameR l n = .tuple #[sV [], .bool false] := by unfold nameR; rw [if_neg (by omega)]
      simp only [go_sem, List.map_cons, List.map_nil, ↓reduceIte, Nat.reduceEqDiff, Nat.reduceAdd, Nat.reduceMul, reduceCtorEq, and_true, true_and, Nat.mul_one, Nat.zero_add, Bool.false_eq_true, decide_true, decide_false, not_false_eq_true, kont_eq, c1, this]
    simp only [go_sem, List.map_cons, List.map_nil, ↓reduceIte, Nat.reduceEqDiff, Nat.reduceAdd, Nat.reduceMul, reduceCtorEq, and_true, true_and, Nat.mul_one, Nat.zero_add, Bool.false_eq_true, decide_true, decide_false, not_false_eq_true, kont_eq, c1]
    refine (hl.1 F t l H ht).mono ?_
    rintro r H' ⟨rfl, rfl⟩
    by_cases c2 : n > (l.length : Int)
    · have : nameR l n = .tuple #[sV [], .bool false] := by unfold nameR; rw [if_neg (by omega)]
      simp only [go_sem, List.map_cons, List.map_nil, ↓reduceIte, Nat.reduceEqDiff, Nat.reduceAdd, Nat.reduceMul, reduceCtorEq, and_true, true_and, Nat.mul_one, Nat.zero_add, Bool.false_eq_true, decide_true, decide_false, not_false_eq_true, kont_eq, c2, this]
    obtain ⟨vs, vm, hB, hS, hM, hFt, hFs, hFm, hFb⟩ := ht
    have hi : (n - 1).toNat < l.length := by omega
    obtain ⟨b, o, c, rfl, -, hc⟩ := hS.cells (by intro e; have h := congrArg List.length e; rw [sL_len, List.length_nil] at h; omega)
    rw [sL_len] at hc hB
    have hci := hc _ hi
    rw [sL_get _ _ hi] at hci
    have e1 : IntKind.i64.wrap (n - 1) = n - 1 := IntWalk.i64_in _ ⟨by omega, by omega⟩
    have : nameR l n = .tuple #[sV (l.getD (n - 1).toNat []), .bool true] := by unfold nameR; rw [if_pos (by omega)]
    simp only [go_sem, List.map_cons, List.map_nil, ↓reduceIte, Nat.reduceEqDiff, Nat.reduceAdd, Nat.reduceMul, reduceCtorEq, and_true, true_and, Nat.mul_one, Nat.zero_add, Bool.false_eq_true, decide_true, decide_false, not_false_eq_true, kont_eq, c2, hB.cell, e1, hci, this]
    omega
  · intro n H
    refine calls_of_vc hk (args := [_, _]) (by simp) ?_
    unfold c_nname r_nname
    by_cases c1 : n < 1
    · simp only [go_sem, List.map_cons, List.map_nil, ↓reduceIte, Nat.reduceEqDiff, Nat.reduceAdd, Nat.reduceMul, reduceCtorEq, and_true, true_and, Nat.mul_one, Nat.zero_add, Bool.false_eq_true, decide_true, decide_false, not_false_eq_true, kont_eq, c1]
    simp only [go_sem, List.map_cons, List.map_nil, ↓reduceIte, Nat.reduceEqDiff, Nat.reduceAdd, Nat.reduceMul, reduceCtorEq, and_true, true_and, Nat.mul_one, Nat.zero_add, Bool.false_eq_true, decide_true, decide_false, not_false_eq_true, kont_eq, c1]
    refine (hl.2 H).mono ?_
    rintro r H' ⟨rfl, rfl⟩
    have c2 : n > 0 := by omega
    simp only [go_sem, List.map_cons, List.map_nil, ↓reduceIte, Nat.reduceEqDiff, Nat.reduceAdd, Nat.reduceMul, reduceCtorEq, and_true, true_and, Nat.mul_one, Nat.zero_add, Bool.false_eq_true, decide_true, decide_false, not_false_eq_true, kont_eq, c2]
def NEqualSpec (P : Program) (k : FuncId) : Prop := (∀ (F G : Nat → Prop) (t u : Nat) (l m : List (List UInt8)) (H : Hp), TabB F H t l → TabB G H u m → l.length ≤ 1000000 → CallsM P k #[.pointer (some ⟨t, 0, none⟩), .pointer (some ⟨u, 0, none⟩)] H fun r H' => r = .bool (decide (l = m)) ∧ H' = H) ∧
  (∀ H, CallsM P k #[.pointer none, .pointer none] H fun r H' => r = .bool true ∧ H' = H) ∧
  (∀ a H, CallsM P k #[.pointer none, .pointer (some a)] H fun r H' => r = .bool false ∧ H' = H) ∧
  (∀ a H, CallsM P k #[.pointer (some a), .pointer none] H fun r H' => r = .bool false ∧ H' = H)
theorem nequal_ok {P : Program} {ι : Ids} {k : FuncId} (hk : FnIs P k (c_nequal ι) r_nequal 2) (he : SEqSpec P (ι.f 94)) : NEqualSpec P k := by
  refine ⟨?_, ?_, ?_, ?_⟩
  · intro F G t u l m H ht hu hl
    refine calls_of_vc hk (args := [_, _]) (by simp) ?_
    unfold c_nequal r_nequal
    obtain ⟨vs, vm, hB, hS, hM, hFt, hFs, hFm, hFb⟩ := ht
    obtain ⟨vs', vm', hB', hS', hM', hFt', hFs', hFm', hFb'⟩ := hu
    simp only [go_sem, List.map_cons, List.map_nil, ↓reduceIte, Nat.reduceEqDiff, Nat.reduceAdd, Nat.reduceMul, reduceCtorEq, and_true, true_and, Nat.mul_one, Nat.zero_add, Bool.false_eq_true, decide_true, decide_false, not_false_eq_true, kont_eq, hB.cell, hB'.cell]
    refine (he _ _ _ _ _ hS hS' hl).mono ?_
    rintro r H' ⟨rfl, rfl⟩
    simp only [go_sem, List.map_cons, List.map_nil, ↓reduceIte, Nat.reduceEqDiff, Nat.reduceAdd, Nat.reduceMul, reduceCtorEq, and_true, true_and, Nat.mul_one, Nat.zero_add, Bool.false_eq_true, decide_true, decide_false, not_false_eq_true, kont_eq]
  all_goals
    intros
    refine calls_of_vc hk (args := [_, _]) (by simp) ?_
    unfold c_nequal r_nequal
    simp only [go_sem, List.map_cons, List.map_nil, ↓reduceIte, Nat.reduceEqDiff, Nat.reduceAdd, Nat.reduceMul, reduceCtorEq, and_true, true_and, Nat.mul_one, Nat.zero_add, Bool.false_eq_true, decide_true, decide_false, not_false_eq_true, kont_eq]
    first | rfl | simp
def wordsF (l : List UInt8) (n : Nat) : List (List UInt8) := (l.take n).map fun x => wordL.getD (x.toNat % 20) []
theorem wordsF_len (l : List UInt8) (n : Nat) (h : n ≤ l.length) : (wordsF l n).length = n := by simp [wordsF]; omega
theorem wordsF_succ (l : List UInt8) (n : Nat) (h : n < l.length) : wordsF l (n + 1) = wordsF l n ++ [wordL.getD ((l.getD n 0).toNat % 20) []] := by
  have e : l.take (n + 1) = l.take n ++ [l.getD n 0] := by
    rw [List.take_add_one]; simp [h]
  unfold wordsF
  rw [e, List.map_append]; rfl
theorem wordsF_small (l : List UInt8) (n i : Nat) (hi : i < (wordsF l n).length) : ((wordsF l n).getD i []).length ≤ 20 := by
  have : (wordsF l n).getD i [] ∈ wordsF l n := by
    rw [List.getD_eq_getElem?_getD, List.getElem?_eq_getElem hi]; simp
  generalize (wordsF l n).getD i [] = w at *
  unfold wordsF at this
  obtain ⟨x, -, rfl⟩ := List.mem_map.1 this
  exact wordL_len x
def WordsSpec (P : Program) (k : FuncId) : Prop := ∀ (l : List UInt8) (v : Value) (H : Hp), SlR H v (w8 l) → CallsM P k #[v] H fun r H' => OwS H' r (sL (wordsF l (min l.length 24))) ∧ (∀ k, ownB r k → H.size ≤ k) ∧ Keep (fun _ => False) H H'
theorem nwords_ok {P : Program} {ι : Ids} {k : FuncId} (hk : FnIs P k (c_nwords ι) r_nwords 1) (hw : WordSpec P (ι.f 77)) : WordsSpec P k := by
  intro l v H hv
  refine calls_of_vc hk (args := [_]) (by simp) ?_
  unfold c_nwords r_nwords
  simp only [go_sem, List.map_cons, List.map_nil, ↓reduceIte, Nat.reduceEqDiff, Nat.reduceAdd, Nat.reduceMul, reduceCtorEq, and_true, true_and, Nat.mul_one, Nat.zero_add, Bool.false_eq_true, decide_true, decide_false, not_false_eq_true, kont_eq]
  refine vc_loop [12, 3, 4] rfl (fun n f H' => ∃ i, i ≤ 24 ∧ i ≤ l.length ∧ n = 24 - i ∧ f 4 = .int .i64 i ∧ OwS H' (f 3) (sL (wordsF l i)) ∧ (∀ k, ownB (f 3) k → H.size ≤ k) ∧ Keep (fun _ => False) H H') 24
    ⟨0, by omega, by omega, by omega, rfl, OwS.nil _, fun k h => h.elim, Keep.refl _ _⟩ ?_
  rintro n g H1 ⟨i, hi24, hil, rfl, hf4, O1, o1, K1⟩
  simp only [go_sem, List.map_cons, List.map_nil, ↓reduceIte, Nat.reduceEqDiff, Nat.reduceAdd, Nat.reduceMul, reduceCtorEq, and_true, true_and, Nat.mul_one, Nat.zero_add, Bool.false_eq_true, decide_true, decide_false, not_false_eq_true, kont_eq] at hf4 O1 o1
  have k1 := K1.size
  by_cases hc : i < l.length ∧ i < 24
  · obtain ⟨hc1, hc2⟩ := hc
    have d1 : (i : Int) < (l.length : Int) := by omega
    have d2 : (i : Int) < 24 := by omega
    obtain ⟨bV, oV, cV, rfl, -, hcc⟩ := hv.cells (by intro e; have h := congrArg List.length e; rw [w8_len, List.length_nil] at h; omega)
    have hcell := (hv.keep K1 (by simp)).cell_at (i := i) (by rw [w8_len]; omega)
    rw [w8_get _ _ hc1] at hcell
    simp only [go_sem, List.map_cons, List.map_nil, ↓reduceIte, Nat.reduceEqDiff, Nat.reduceAdd, Nat.reduceMul, reduceCtorEq, and_true, true_and, Nat.mul_one, Nat.zero_add, Bool.false_eq_true, decide_true, decide_false, not_false_eq_true, kont_eq, hf4, w8_len, d1, d2, hcell, tn_cast]
    refine And.intro (by omega) ?_
    refine (hw _ _).mono ?_
    rintro r H2 ⟨rfl, K2⟩
    have K2' := K1.trans K2
    have k2 := K2'.size
    rw [kont_eq]
    simp only [go_sem, List.map_cons, List.map_nil, ↓reduceIte, Nat.reduceEqDiff, Nat.reduceAdd, Nat.reduceMul, reduceCtorEq, and_true, true_and, Nat.mul_one, Nat.zero_add, Bool.false_eq_true, decide_true, decide_false, not_false_eq_true, kont_eq]
    generalize hA : Array.push H2 _ = H3
    have K3 : Keep (fun _ => False) H2 H3 := by rw [← hA]; exact (Keep.refl _ _).push _
    have B3 : Bl H3 H2.size (sL [wordL.getD ((l.getD i 0).toNat % 20) []]) := by rw [← hA]; exact Bl.new' _ _ _
    have K3' := K2'.trans K3
    refine app_slN H.size (l := sL (wordsF l i)) (m := sL [wordL.getD ((l.getD i 0).toNat % 20) []]) ((O1.keep K2 (by simp)).keep K3 (by simp)) o1 K3'.size (SlR.bl B3 0 1 1 (by omega) (by simp [sL])) (sL_all1 _) rfl (by omega) (by rw [sL_len, sL_len, wordsF_len _ _ hil]; simp; omega) fun v4 H4 O4 o4 K4 => ?_
    rw [← sL_app, ← wordsF_succ _ _ hc1] at O4
    simp (disch := omega) only [go_sem, List.map_cons, List.map_nil, ↓reduceIte, Nat.reduceEqDiff, Nat.reduceAdd, Nat.reduceMul, reduceCtorEq, and_true, true_and, Nat.mul_one, Nat.zero_add, Bool.false_eq_true, decide_true, decide_false, not_false_eq_true, kont_eq, hf4, IntWalk.i64_in]
    exact ⟨24 - (i + 1), by omega, i + 1, by omega, by omega, rfl, by simp, O4, o4, K3'.at_old K4 (Nat.le_refl _)⟩
  · have hm : min l.length 24 = i := by omega
    have hex : ¬ (i : Int) < (l.length : Int) ∨ ((i : Int) < (l.length : Int) ∧ ¬ (i : Int) < 24) := by omega
    rw [hm]
    rcases hex with d1 | ⟨d1, d2⟩
    all_goals
      simp only [go_sem, List.map_cons, List.map_nil, ↓reduceIte, Nat.reduceEqDiff, Nat.reduceAdd, Nat.reduceMul, reduceCtorEq, and_true, true_and, Nat.mul_one, Nat.zero_add, Bool.false_eq_true, decide_true, decide_false, not_false_eq_true, kont_eq, hf4, hv.isSl, hv.len, w8_len, d1]
      try simp only [go_sem, List.map_cons, List.map_nil, ↓reduceIte, Nat.reduceEqDiff, Nat.reduceAdd, Nat.reduceMul, reduceCtorEq, and_true, true_and, Nat.mul_one, Nat.zero_add, Bool.false_eq_true, decide_true, decide_false, not_false_eq_true, kont_eq, hf4, hv.isSl, hv.len, w8_len, d1, d2]
      exact ⟨O1, o1, K1⟩
end Go.Mg

/- matching: the reference's Size, Deficient, Least, Check. -/
import Derived.Test.YtihlnbepcimnfaaDoorMgM13
namespace Go.Mg
open Go Go.RowKit
set_option linter.unusedSimpArgs false
set_option linter.unusedVariables false
set_option maxRecDepth 100000
/- arbacref09.Size -/
def c_rsize (ι : Ids) : S :=
  .seq (.reg [.p (.v 2) (.mv (.c (.int .i64 0)))]) (.seq (.reg [.p (.v 3) (.mv (.c (.int .i64 0)))]) (.seq (.seq (.reg [.p (.v 6) (.mv (.v 0)), .p (.v 7) (.m (.lenl (.v 6))), .p (.v 8) (.mv (.c (.int
  .i64 0)))]) (.blk 0 (.loop (.seq (.reg [.p (.v 9) (.cm .lss .i64 (.v 8) (.v 7))]) (.seq (.ite (.v 9) .skip (.exit 0)) (.seq (.blk 1 (.seq (.reg [.p (.t 10) (.is 1 (.v 6) (.v 8)), .p (.t 11) (.ld (.t
  10)), .p (.v 5) (.mv (.t 11))]) (.seq (.reg [.p (.t 12) (.mv (.v 5)), .e (.t 13) (.call (ι.f 164) [.t 12]), .p (.t 14) (.mv (.v 3)), .p (.v 15) (.cm .gtr .i64 (.t 13) (.t 14))]) (.ite (.v 15) (.reg
  [.p (.t 16) (.mv (.v 5)), .e (.t 17) (.call (ι.f 164) [.t 16]), .p (.v 3) (.mv (.t 17))]) .skip)))) (.reg [.p (.t 18) (.ar .add .i64 (.v 8) (.c (.int .i64 1))), .p (.v 8) (.mv (.t 18))]))))))) (.seq
  (.reg [.p (.t 19) (.mv (.v 3)), .p (.v 2) (.mv (.t 19))]) .ret)))
def r_rsize : List RV := [.t 2]
/- arbacref09.Deficient -/
def c_rdef (ι : Ids) : S :=
  .seq (.reg [.p (.v 4) (.mv (.c (.slice .none 0 0)))]) (.seq (.reg [.p (.v 5) (.mv (.c (.slice .none 0 0)))]) (.seq (.reg [.p (.t 11) (.mv (.v 0)), .e (.t 12) (.call (ι.f 170) [.t 11]), .p (.v 6) (.mv
  (.t 12))]) (.seq (.seq (.reg [.p (.v 7) (.mv (.c (.int .i64 0)))]) (.blk 0 (.loop (.seq (.seq (.reg [.p (.t 13) (.mv (.v 7)), .p (.t 14) (.mv (.v 1)), .p (.v 15) (.cm .lss .i64 (.t 13) (.t 14))])
  (.ite (.v 15) .skip (.exit 0))) (.seq (.blk 1 (.seq (.reg [.p (.v 8) (.mv (.c (.bool false)))]) (.seq (.seq (.reg [.p (.v 18) (.mv (.v 0)), .p (.v 19) (.m (.lenl (.v 18))), .p (.v 20) (.mv (.c (.int
  .i64 0)))]) (.blk 2 (.loop (.seq (.reg [.p (.v 21) (.cm .lss .i64 (.v 20) (.v 19))]) (.seq (.ite (.v 21) .skip (.exit 2)) (.seq (.blk 3 (.seq (.reg [.p (.t 22) (.is 1 (.v 18) (.v 20)), .p (.t 23) (.ld
  (.t 22)), .p (.v 10) (.mv (.t 23))]) (.reg [.p (.t 24) (.mv (.v 8)), .p (.t 25) (.mv (.t 24)), .gp (.t 26) (.t 25) false (.mv (.v 10)), .gp (.t 27) (.t 25) false (.mv (.v 7)), .gp (.t 28) (.t 25)
  false (.is 1 (.t 26) (.t 27)), .gp (.t 29) (.t 25) false (.ld (.t 28)), .gp (.t 30) (.t 25) false (.cm .lss .i64 (.t 29) (.c (.int .i64 0))), .gp (.t 31) (.t 25) false (.mv (.t 30)), .gp (.t 32) (.t
  31) true (.mv (.v 10)), .ge (.t 33) (.t 31) true (.call (ι.f 164) [.t 32]), .gp (.t 34) (.t 31) true (.mv (.v 6)), .gp (.t 35) (.t 31) true (.cm .eql .i64 (.t 33) (.t 34)), .gp (.t 36) (.t 25) false
  (.pick (.t 31) (.t 35) (.c (.bool false))), .p (.t 37) (.pick (.t 25) (.c (.bool true)) (.t 36)), .p (.v 8) (.mv (.t 37))]))) (.reg [.p (.t 38) (.ar .add .i64 (.v 20) (.c (.int .i64 1))), .p (.v 20)
  (.mv (.t 38))]))))))) (.seq (.reg [.p (.v 39) (.mv (.v 8))]) (.ite (.v 39) (.reg [.p (.t 40) (.mv (.v 5)), .p (.t 41) (.mv (.v 7)), .e (.t 42) (.bldF (ι.t 26) 1 1 [.t 41]), .e (.t 43) (.app false (ι.t
  26) 1 8 #[.int .i64 0] (.t 40) (.t 42)), .p (.v 5) (.mv (.t 43))]) .skip))))) (.reg [.p (.t 16) (.mv (.v 7)), .p (.t 17) (.ar .add .i64 (.t 16) (.c (.int .i64 1))), .p (.v 7) (.mv (.t 17))]))))))
  (.seq (.reg [.p (.t 44) (.mv (.v 5)), .p (.v 4) (.mv (.t 44))]) .ret))))
def r_rdef : List RV := [.t 4]
/- arbacref09.Least -/
def c_rleast (ι : Ids) : S :=
  .seq (.reg [.p (.v 4) (.mv (.c (.slice .none 0 0))), .p (.v 5) (.mv (.c (.bool false)))]) (.seq (.seq (.reg [.p (.v 8) (.mv (.v 0)), .p (.v 9) (.m (.lenl (.v 8))), .p (.v 10) (.mv (.c (.int .i64
  0)))]) (.blk 0 (.loop (.seq (.reg [.p (.v 11) (.cm .lss .i64 (.v 10) (.v 9))]) (.seq (.ite (.v 11) .skip (.exit 0)) (.seq (.blk 1 (.seq (.reg [.p (.t 12) (.is 1 (.v 8) (.v 10)), .p (.t 13) (.ld (.t
  12)), .p (.v 7) (.mv (.t 13))]) (.seq (.reg [.p (.t 14) (.mv (.v 7)), .e (.t 15) (.call (ι.f 164) [.t 14]), .p (.t 16) (.mv (.v 1)), .p (.v 17) (.cm .eql .i64 (.t 15) (.t 16))]) (.ite (.v 17) (.seq
  (.reg [.p (.t 18) (.mv (.v 7)), .p (.v 4) (.mv (.t 18)), .p (.v 5) (.mv (.c (.bool true)))]) .ret) .skip)))) (.reg [.p (.t 19) (.ar .add .i64 (.v 10) (.c (.int .i64 1))), .p (.v 10) (.mv (.t
  19))]))))))) (.seq (.reg [.p (.v 4) (.mv (.c (.slice .none 0 0))), .p (.v 5) (.mv (.c (.bool false)))]) .ret))
def r_rleast : List RV := [.t 4, .t 5]
/- arbacref09.Check -/
def c_rcheck (ι : Ids) : S :=
  .seq (.reg [.p (.v 4) (.mv (.c (.bool false)))]) (.seq (.seq (.reg [.p (.t 8) (.mv (.v 1)), .p (.t 9) (.m (.lenl (.t 8))), .p (.t 10) (.mv (.v 0)), .p (.t 11) (.m (.lenl (.t 10))), .p (.v 12) (.cm
  .neq .i64 (.t 9) (.t 11))]) (.ite (.v 12) (.seq (.reg [.p (.v 4) (.mv (.c (.bool false)))]) .ret) .skip)) (.seq (.seq (.reg [.p (.v 13) (.mv (.v 1)), .p (.v 14) (.m (.lenl (.v 13))), .p (.v 15) (.mv
  (.c (.int .i64 0)))]) (.blk 0 (.loop (.seq (.reg [.p (.v 16) (.cm .lss .i64 (.v 15) (.v 14))]) (.seq (.ite (.v 16) .skip (.exit 0)) (.seq (.blk 1 (.seq (.reg [.p (.t 17) (.mv (.v 15)), .p (.t 18) (.is
  1 (.v 13) (.v 15)), .p (.t 19) (.ld (.t 18)), .p (.v 5) (.mv (.t 17)), .p (.v 6) (.mv (.t 19))]) (.seq (.seq (.reg [.p (.t 20) (.mv (.v 6)), .p (.v 21) (.cm .eql .i64 (.t 20) (.c (.int .i64 (-1))))])
  (.ite (.v 21) (.exit 1) .skip)) (.seq (.seq (.reg [.p (.t 22) (.mv (.v 6)), .p (.t 23) (.cm .lss .i64 (.t 22) (.c (.int .i64 0))), .p (.t 24) (.mv (.t 23)), .gp (.t 25) (.t 24) false (.mv (.v 6)), .gp
  (.t 26) (.t 24) false (.cm .gtr .i64 (.t 25) (.c (.int .i64 63))), .p (.t 27) (.pick (.t 24) (.c (.bool true)) (.t 26)), .p (.t 28) (.mv (.t 27)), .gp (.t 29) (.t 28) false (.mv (.v 0)), .gp (.t 30)
  (.t 28) false (.mv (.v 5)), .gp (.t 31) (.t 28) false (.is 1 (.t 29) (.t 30)), .gp (.t 32) (.t 28) false (.ld (.t 31)), .gp (.t 33) (.t 28) false (.mv (.v 6)), .gp (.t 34) (.t 28) false (.sh .shr .u64
  (.t 32) (.t 33)), .gp (.t 35) (.t 28) false (.bt .and .u64 (.t 34) (.c (.int .u64 1))), .gp (.t 36) (.t 28) false (.cm .eql .u64 (.t 35) (.c (.int .u64 0))), .p (.v 37) (.pick (.t 28) (.c (.bool
  true)) (.t 36))]) (.ite (.v 37) (.seq (.reg [.p (.v 4) (.mv (.c (.bool false)))]) .ret) .skip)) (.seq (.reg [.p (.v 7) (.mv (.c (.int .i64 0)))]) (.blk 2 (.loop (.seq (.seq (.reg [.p (.t 38) (.mv (.v
  7)), .p (.t 39) (.mv (.v 5)), .p (.v 40) (.cm .lss .i64 (.t 38) (.t 39))]) (.ite (.v 40) .skip (.exit 2))) (.seq (.blk 3 (.seq (.reg [.p (.t 43) (.mv (.v 1)), .p (.t 44) (.mv (.v 7)), .p (.t 45) (.is
  1 (.t 43) (.t 44)), .p (.t 46) (.ld (.t 45)), .p (.t 47) (.mv (.v 6)), .p (.v 48) (.cm .eql .i64 (.t 46) (.t 47))]) (.ite (.v 48) (.seq (.reg [.p (.v 4) (.mv (.c (.bool false)))]) .ret) .skip))) (.reg
  [.p (.t 41) (.mv (.v 7)), .p (.t 42) (.ar .add .i64 (.t 41) (.c (.int .i64 1))), .p (.v 7) (.mv (.t 42))])))))))))) (.reg [.p (.t 49) (.ar .add .i64 (.v 15) (.c (.int .i64 1))), .p (.v 15) (.mv (.t
  49))]))))))) (.seq (.reg [.p (.v 4) (.mv (.c (.bool true)))]) .ret)))
def r_rcheck : List RV := [.t 4]

structure LsR (H : Hp) (v : Value) (ms : List (List Int)) (vs : List Value) : Prop where
  sl : SlR H v vs
  len : vs.length = ms.length
  at_ : ∀ i, i < ms.length → SlR H (vs.getD i undef) (iL (ms.getD i []))
theorem LsO.toR {H : Hp} {v : Value} {ms : List (List Int)} {B : Nat} {vs : List Value} (h : LsO H v ms B vs) : LsR H v ms vs := ⟨h.ow.sl, h.len, h.at_⟩
theorem LsR.elt {H : Hp} {v : Value} {ms : List (List Int)} {vs : List Value} (h : LsR H v ms vs) {i : Nat} (hi : i < ms.length) : ∃ b o c, v = .slice (some ⟨b, o, none⟩) ms.length c ∧ cell H ⟨b, o + i, none⟩ = some (vs.getD i undef) := by
  obtain ⟨b, o, c, rfl, -, hc⟩ := h.sl.cells (by intro e; have := h.len; rw [e, List.length_nil] at this; omega)
  rw [h.len] at hc
  have hci := hc i hi
  have hvi : vs[i]? = some (vs.getD i undef) := by rw [List.getD_eq_getElem?_getD, List.getElem?_eq_getElem (by rw [h.len]; exact hi)]; rfl
  rw [hvi] at hci
  rw [h.len]
  exact ⟨b, o, c, rfl, hci⟩
theorem szF_take (ms : List (List Int)) (i : Nat) (h : i < ms.length) : szF (ms.take (i + 1)) = if mtc (ms.getD i []) > szF (ms.take i) then mtc (ms.getD i []) else szF (ms.take i) := by
  rw [List.take_succ_eq_append_getElem h, szF_snoc, List.getD_eq_getElem?_getD, List.getElem?_eq_getElem h]; rfl
theorem mtc_le (m : List Int) : mtc m ≤ m.length := by unfold mtc; exact List.length_filter_le _ _
def RSizeSpec (P : Program) (k : FuncId) : Prop := ∀ (ms : List (List Int)) (v : Value) (vs : List Value) (H : Hp), LsR H v ms vs → ms.length ≤ 1000000 → (∀ m ∈ ms, m.length ≤ 1000) → CallsM P k #[v] H fun r H' => r = .int .i64 (szF ms : Int) ∧ H' = H
theorem rsize_ok {P : Program} {ι : Ids} {k : FuncId} (hk : FnIs P k (c_rsize ι) r_rsize 1) (hm : MtcSpec P (ι.f 164)) : RSizeSpec P k := by
  intro ms v vs H hv hl hml
  refine calls_of_vc hk (args := [_]) (by simp) ?_
  unfold c_rsize r_rsize
  simp only [go_sem, List.map_cons, List.map_nil, ↓reduceIte, Nat.reduceEqDiff, Nat.reduceAdd, Nat.reduceMul, reduceCtorEq, and_true, true_and, Nat.mul_one, Nat.zero_add, Bool.false_eq_true, decide_true, decide_false, not_false_eq_true, kont_eq, hv.sl.isSl, hv.sl.len, hv.len]
  refine vc_loop [9, 5, 15, 3, 8] rfl (fun n f H' => ∃ i : Nat, i ≤ ms.length ∧ n = ms.length - i ∧ f 8 = .int .i64 i ∧ f 3 = .int .i64 (szF (ms.take i) : Int) ∧ H' = H) ms.length
    ⟨0, by omega, by omega, by simp only [go_sem, List.map_cons, List.map_nil, ↓reduceIte, Nat.reduceEqDiff, Nat.reduceAdd, Nat.reduceMul, reduceCtorEq, and_true, true_and, Nat.mul_one, Nat.zero_add, Bool.false_eq_true, decide_true, decide_false, not_false_eq_true, kont_eq]; rfl, by simp only [go_sem, List.map_cons, List.map_nil, ↓reduceIte, Nat.reduceEqDiff, Nat.reduceAdd, Nat.reduceMul, reduceCtorEq, and_true, true_and, Nat.mul_one, Nat.zero_add, Bool.false_eq_true, decide_true, decide_false, not_false_eq_true, kont_eq]; rfl, rfl⟩ ?_
  rintro n f H2 ⟨i, hi, rfl, hf, hf3, rfl⟩
  simp only [go_sem, List.map_cons, List.map_nil, ↓reduceIte, Nat.reduceEqDiff, Nat.reduceAdd, Nat.reduceMul, reduceCtorEq, and_true, true_and, Nat.mul_one, Nat.zero_add, Bool.false_eq_true, decide_true, decide_false, not_false_eq_true, kont_eq] at hf hf3
  simp only [go_sem, List.map_cons, List.map_nil, ↓reduceIte, Nat.reduceEqDiff, Nat.reduceAdd, Nat.reduceMul, reduceCtorEq, and_true, true_and, Nat.mul_one, Nat.zero_add, Bool.false_eq_true, decide_true, decide_false, not_false_eq_true, hf]
  refine iteV_dec (fun hlt => ?_) (fun hge => ?_)
  · have hlt : i < ms.length := by omega
    have hst := szF_take ms i hlt
    have hat := hv.at_ i hlt
    have hm1 : (ms.getD i []).length ≤ 1000 := hml _ (by rw [List.getD_eq_getElem?_getD, List.getElem?_eq_getElem hlt]; exact List.getElem_mem _)
    obtain ⟨b, o, c, rfl, hci⟩ := hv.elt hlt
    generalize vs.getD i undef = u at hci hat
    generalize ms.getD i [] = m at hst hat hm1
    have hle := mtc_le m
    simp only [go_sem, List.map_cons, List.map_nil, ↓reduceIte, Nat.reduceEqDiff, Nat.reduceAdd, Nat.reduceMul, reduceCtorEq, and_true, true_and, Nat.mul_one, Nat.zero_add, Bool.false_eq_true, decide_true, decide_false, not_false_eq_true, kont_eq, tn_cast, Nat.mul_one, hci, hf3]
    refine ⟨by omega, ?_⟩
    refine (hm m u H2 hat (by omega)).mono ?_
    rintro r H3 ⟨rfl, rfl⟩
    simp only [go_sem, List.map_cons, List.map_nil, ↓reduceIte, Nat.reduceEqDiff, Nat.reduceAdd, Nat.reduceMul, reduceCtorEq, and_true, true_and, Nat.mul_one, Nat.zero_add, Bool.false_eq_true, decide_true, decide_false, not_false_eq_true, kont_eq, hf3]
    refine iteV_dec (fun h => ?_) (fun h => ?_)
    · refine (hm m u H3 hat (by omega)).mono ?_
      rintro r H4 ⟨rfl, rfl⟩
      simp (disch := omega) only [go_sem, List.map_cons, List.map_nil, ↓reduceIte, Nat.reduceEqDiff, Nat.reduceAdd, Nat.reduceMul, reduceCtorEq, and_true, true_and, Nat.mul_one, Nat.zero_add, Bool.false_eq_true, decide_true, decide_false, not_false_eq_true, kont_eq, hf, IntWalk.i64_in]
      exact ⟨ms.length - (i + 1), by omega, i + 1, by omega, rfl, by simp, by rw [hst, if_pos (by omega)]⟩
    · simp (disch := omega) only [go_sem, List.map_cons, List.map_nil, ↓reduceIte, Nat.reduceEqDiff, Nat.reduceAdd, Nat.reduceMul, reduceCtorEq, and_true, true_and, Nat.mul_one, Nat.zero_add, Bool.false_eq_true, decide_true, decide_false, not_false_eq_true, kont_eq, hf, IntWalk.i64_in]
      exact ⟨ms.length - (i + 1), by omega, i + 1, by omega, rfl, by simp, by rw [hst, if_neg (by omega)]⟩
  · have : i = ms.length := by omega
    subst this
    rw [List.take_length] at hf3
    simp only [go_sem, List.map_cons, List.map_nil, ↓reduceIte, Nat.reduceEqDiff, Nat.reduceAdd, Nat.reduceMul, reduceCtorEq, and_true, true_and, Nat.mul_one, Nat.zero_add, Bool.false_eq_true, decide_true, decide_false, not_false_eq_true, kont_eq, hf3]
def RLeastSpec (P : Program) (k : FuncId) : Prop := ∀ (ms : List (List Int)) (v : Value) (vs : List Value) (n : Nat) (H : Hp), LsR H v ms vs → ms.length ≤ 1000000 → (∀ m ∈ ms, m.length ≤ 1000) → CallsM P k #[v, .int .i64 n] H fun r H' => ((leastF ms n = none ∧ r = .tuple #[.slice none 0 0, .bool false]) ∨ ∃ u m, leastF ms n = some m ∧ r = .tuple #[u, .bool true] ∧ SlR H u (iL m)) ∧ H' = H
theorem rleast_ok {P : Program} {ι : Ids} {k : FuncId} (hk : FnIs P k (c_rleast ι) r_rleast 2) (hm : MtcSpec P (ι.f 164)) : RLeastSpec P k := by
  intro ms v vs n H hv hl hml
  obtain ⟨R, hR⟩ : ∃ R : Value → Hp → Prop, R = fun r H' => ((leastF ms n = none ∧ r = .tuple #[.slice none 0 0, .bool false]) ∨ ∃ u m, leastF ms n = some m ∧ r = .tuple #[u, .bool true] ∧ SlR H u (iL m)) ∧ H' = H := ⟨_, rfl⟩
  rw [← hR]
  refine calls_of_vc hk (args := [_, _]) (by simp) ?_
  unfold c_rleast r_rleast
  simp only [go_sem, List.map_cons, List.map_nil, ↓reduceIte, Nat.reduceEqDiff, Nat.reduceAdd, Nat.reduceMul, reduceCtorEq, and_true, true_and, Nat.mul_one, Nat.zero_add, Bool.false_eq_true, decide_true, decide_false, not_false_eq_true, kont_eq, hv.sl.isSl, hv.sl.len, hv.len]
  refine vc_loop [11, 7, 17, 4, 5, 10] rfl (fun n' f H' => ∃ i : Nat, i ≤ ms.length ∧ n' = ms.length - i ∧ f 10 = .int .i64 i ∧ (∀ a < i, mtc (ms.getD a []) ≠ n) ∧ H' = H) ms.length
    ⟨0, by omega, by omega, by simp only [go_sem, List.map_cons, List.map_nil, ↓reduceIte, Nat.reduceEqDiff, Nat.reduceAdd, Nat.reduceMul, reduceCtorEq, and_true, true_and, Nat.mul_one, Nat.zero_add, Bool.false_eq_true, decide_true, decide_false, not_false_eq_true, kont_eq]; rfl, fun a ha => by omega, rfl⟩ ?_
  rintro n' f H2 ⟨i, hi, rfl, hf, hx, rfl⟩
  simp only [go_sem, List.map_cons, List.map_nil, ↓reduceIte, Nat.reduceEqDiff, Nat.reduceAdd, Nat.reduceMul, reduceCtorEq, and_true, true_and, Nat.mul_one, Nat.zero_add, Bool.false_eq_true, decide_true, decide_false, not_false_eq_true, kont_eq] at hf
  simp only [go_sem, List.map_cons, List.map_nil, ↓reduceIte, Nat.reduceEqDiff, Nat.reduceAdd, Nat.reduceMul, reduceCtorEq, and_true, true_and, Nat.mul_one, Nat.zero_add, Bool.false_eq_true, decide_true, decide_false, not_false_eq_true, hf]
  refine iteV_dec (fun hlt => ?_) (fun hge => ?_)
  · have hlt : i < ms.length := by omega
    have hat := hv.at_ i hlt
    have hm1 : (ms.getD i []).length ≤ 1000 := hml _ (by rw [List.getD_eq_getElem?_getD, List.getElem?_eq_getElem hlt]; exact List.getElem_mem _)
    obtain ⟨b, o, c, rfl, hci⟩ := hv.elt hlt
    generalize vs.getD i undef = u at hci hat
    obtain ⟨m, hme⟩ : ∃ m, m = ms.getD i [] := ⟨_, rfl⟩
    rw [← hme] at hat hm1
    simp only [go_sem, List.map_cons, List.map_nil, ↓reduceIte, Nat.reduceEqDiff, Nat.reduceAdd, Nat.reduceMul, reduceCtorEq, and_true, true_and, Nat.mul_one, Nat.zero_add, Bool.false_eq_true, decide_true, decide_false, not_false_eq_true, kont_eq, tn_cast, Nat.mul_one, hci]
    refine ⟨by omega, ?_⟩
    refine (hm m u H2 hat (by omega)).mono ?_
    rintro r H3 ⟨rfl, rfl⟩
    obtain ⟨ua, uc, rfl, -⟩ := hat.mk
    by_cases h : mtc m = n
    · have e1 : ((mtc m : Int) == (n : Int)) = true := by rw [beq_iff_eq]; omega
      simp only [go_sem, List.map_cons, List.map_nil, ↓reduceIte, Nat.reduceEqDiff, Nat.reduceAdd, Nat.reduceMul, reduceCtorEq, and_true, true_and, Nat.mul_one, Nat.zero_add, Bool.false_eq_true, decide_true, decide_false, not_false_eq_true, kont_eq, e1]
      rw [hR]
      refine ⟨.inr ⟨_, m, ?_, rfl, hat⟩, rfl⟩
      unfold leastF
      rw [List.find?_eq_some_iff_getElem]
      refine ⟨by simpa using h, i, hlt, by rw [hme, List.getD_eq_getElem?_getD, List.getElem?_eq_getElem hlt]; rfl, fun j hj => ?_⟩
      have := hx j hj
      rw [List.getD_eq_getElem?_getD, List.getElem?_eq_getElem (by omega)] at this
      simpa using this
    · have e1 : ((mtc m : Int) == (n : Int)) = false := by rw [beq_eq_false_iff_ne]; omega
      simp (disch := omega) only [go_sem, List.map_cons, List.map_nil, ↓reduceIte, Nat.reduceEqDiff, Nat.reduceAdd, Nat.reduceMul, reduceCtorEq, and_true, true_and, Nat.mul_one, Nat.zero_add, Bool.false_eq_true, decide_true, decide_false, not_false_eq_true, kont_eq, hf, e1, IntWalk.i64_in]
      refine ⟨ms.length - (i + 1), by omega, i + 1, by omega, rfl, by simp, fun a ha => ?_⟩
      by_cases e : a = i
      · subst e; rw [← hme]; exact h
      · exact hx a (by omega)
  · rw [hR]
    refine ⟨.inl ⟨?_, rfl⟩, rfl⟩
    unfold leastF
    rw [List.find?_eq_none]
    intro m hm2
    obtain ⟨a, ha, e⟩ := List.getElem_of_mem hm2
    have := hx a (by omega)
    rw [List.getD_eq_getElem?_getD, List.getElem?_eq_getElem ha] at this
    simp only [Option.getD_some, e] at this
    simpa using this
/-- some list of the first i leaves a free -/
theorem any_take_succ {ms : List (List Int)} {q : Nat} (h : q < ms.length) (p : List Int → Bool) : (ms.take (q + 1)).any p = ((ms.take q).any p || p (ms.getD q [])) := by
  rw [List.take_succ_eq_append_getElem h, List.any_append, List.getD_eq_getElem?_getD, List.getElem?_eq_getElem h]; simp
def defL (ms : List (List Int)) (i : Nat) : List Nat := (List.range i).filter (defB ms)
theorem defL_succ (ms : List (List Int)) (i : Nat) : defL ms (i + 1) = defL ms i ++ if defB ms i = true then [i] else [] := by
  unfold defL; rw [List.range_succ, List.filter_append]; congr 1
  by_cases h : defB ms i = true <;> simp [h]
theorem defL_le (ms : List (List Int)) (i : Nat) : (defL ms i).length ≤ i := by
  unfold defL; have := List.length_filter_le (defB ms) (List.range i); simpa using this
def RDefSpec (P : Program) (k : FuncId) : Prop := ∀ (ms : List (List Int)) (v : Value) (vs : List Value) (n : Nat) (H : Hp), LsR H v ms vs → ms.length ≤ 1000000 → (∀ m ∈ ms, m.length = n) → n ≤ 1000 → CallsM P k #[v, .int .i64 n] H fun r H' => OwS H' r (iL (nI (defL ms n))) ∧ (∀ k, ownB r k → H.size ≤ k) ∧ Keep (fun _ => False) H H'
theorem rdef_ok {P : Program} {ι : Ids} {k : FuncId} (hk : FnIs P k (c_rdef ι) r_rdef 2) (hm : MtcSpec P (ι.f 164)) (hz : RSizeSpec P (ι.f 170)) : RDefSpec P k := by
  intro ms v vs n H hv hl hml hn
  obtain ⟨R, hR⟩ : ∃ R : Value → Hp → Prop, R = fun r H' => OwS H' r (iL (nI (defL ms n))) ∧ (∀ k, ownB r k → H.size ≤ k) ∧ Keep (fun _ => False) H H' := ⟨_, rfl⟩
  rw [← hR]
  refine calls_of_vc hk (args := [_, _]) (by simp) ?_
  unfold c_rdef r_rdef
  simp only [go_sem, List.map_cons, List.map_nil, ↓reduceIte, Nat.reduceEqDiff, Nat.reduceAdd, Nat.reduceMul, reduceCtorEq, and_true, true_and, Nat.mul_one, Nat.zero_add, Bool.false_eq_true, decide_true, decide_false, not_false_eq_true, kont_eq]
  refine (hz ms v vs H hv hl (fun m h => by rw [hml m h]; exact hn)).mono ?_
  rintro r H1 ⟨rfl, rfl⟩
  simp only [go_sem, List.map_cons, List.map_nil, ↓reduceIte, Nat.reduceEqDiff, Nat.reduceAdd, Nat.reduceMul, reduceCtorEq, and_true, true_and, Nat.mul_one, Nat.zero_add, Bool.false_eq_true, decide_true, decide_false, not_false_eq_true, kont_eq]
  refine vc_loop [15, 8, 18, 19, 20, 21, 10, 39, 5, 7] rfl (fun n' f H' => ∃ (i : Nat) (ov : Value), i ≤ n ∧ n' = n - i ∧ f 7 = .int .i64 i ∧ f 5 = ov ∧ OwS H' ov (iL (nI (defL ms i))) ∧ (∀ k, ownB ov k → H1.size ≤ k) ∧ Keep (fun _ => False) H1 H') n
    ⟨0, .slice none 0 0, by omega, by omega, by simp only [go_sem, List.map_cons, List.map_nil, ↓reduceIte, Nat.reduceEqDiff, Nat.reduceAdd, Nat.reduceMul, reduceCtorEq, and_true, true_and, Nat.mul_one, Nat.zero_add, Bool.false_eq_true, decide_true, decide_false, not_false_eq_true, kont_eq]; rfl, by simp only [go_sem, List.map_cons, List.map_nil, ↓reduceIte, Nat.reduceEqDiff, Nat.reduceAdd, Nat.reduceMul, reduceCtorEq, and_true, true_and, Nat.mul_one, Nat.zero_add, Bool.false_eq_true, decide_true, decide_false, not_false_eq_true, kont_eq], OwS.nil _, fun k h => h.elim, Keep.refl _ _⟩ ?_
  rintro n' f H2 ⟨i, ov, hi, rfl, hf, hf5, hO, ho, K2⟩
  simp only [go_sem, List.map_cons, List.map_nil, ↓reduceIte, Nat.reduceEqDiff, Nat.reduceAdd, Nat.reduceMul, reduceCtorEq, and_true, true_and, Nat.mul_one, Nat.zero_add, Bool.false_eq_true, decide_true, decide_false, not_false_eq_true, kont_eq] at hf hf5
  simp only [go_sem, List.map_cons, List.map_nil, ↓reduceIte, Nat.reduceEqDiff, Nat.reduceAdd, Nat.reduceMul, reduceCtorEq, and_true, true_and, Nat.mul_one, Nat.zero_add, Bool.false_eq_true, decide_true, decide_false, not_false_eq_true, hf]
  refine iteV_dec (fun hlt => ?_) (fun hge => ?_)
  · have hlt : i < n := by omega
    have hv2 : LsR H2 v ms vs := ⟨hv.sl.keep K2 (by simp), hv.len, fun a ha => (hv.at_ a ha).keep K2 (by simp)⟩
    simp only [go_sem, List.map_cons, List.map_nil, ↓reduceIte, Nat.reduceEqDiff, Nat.reduceAdd, Nat.reduceMul, reduceCtorEq, and_true, true_and, Nat.mul_one, Nat.zero_add, Bool.false_eq_true, decide_true, decide_false, not_false_eq_true, hv2.sl.isSl, hv2.sl.len, hv2.len]
    refine vc_mono ?_ ?_ (Q := fun e f' H' => e = .x 2 ∧ f' 7 = .int .i64 i ∧ f' 5 = ov ∧ f' 8 = .bool (defB ms i) ∧ H' = H2)
    · rintro e f3 H3 ⟨rfl, hf7, hf5, hf8, rfl⟩
      have hle := defL_le ms i
      cases hd : defB ms i with
      | true =>
        rw [hd] at hf8
        simp only [go_sem, List.map_cons, List.map_nil, ↓reduceIte, Nat.reduceEqDiff, Nat.reduceAdd, Nat.reduceMul, reduceCtorEq, and_true, true_and, Nat.mul_one, Nat.zero_add, Bool.false_eq_true, decide_true, decide_false, not_false_eq_true, fillV_nil, fillV_cons, okFill_nil, okFill_cons, cells_slice, cells_int, cells_bool, cells_str, cells_ptr, cells_agg, stNH_ptr, okN_ptr, wrA1, wrA20, wrA21, hf8, hf7, hf5]
        refine kont_news fun H6 b6 e6 z6 B6 K6 => ?_
        have s2 := K2.size
        have s6 := K6.size
        simp only [go_sem, List.map_cons, List.map_nil, ↓reduceIte, Nat.reduceEqDiff, Nat.reduceAdd, Nat.reduceMul, reduceCtorEq, and_true, true_and, Nat.mul_one, Nat.zero_add, Bool.false_eq_true, decide_true, decide_false, not_false_eq_true, kont_eq]
        refine app_sl (l := iL (nI (defL ms i))) (m := [.int .i64 (i : Int)]) (hO.keep K6 (by simp)) (SlR.bl B6 0 1 1 (by omega) (by simp)) ?_ rfl ?_ ?_ fun v2 H7 O7 M7 N7 => ?_
        · intro y hy; simp at hy; subst hy; rfl
        · unfold maxLen; simp only [List.length_singleton, iL_len, nI_len]; omega
        · simp only [List.length_singleton, iL_len, nI_len]; omega
        · have hQe : iL (nI (defL ms i)) ++ [.int .i64 (i : Int)] = iL (nI (defL ms (i + 1))) := by rw [defL_succ, if_pos hd]; simp [iL, nI]
          rw [hQe] at O7
          simp (disch := omega) only [go_sem, List.map_cons, List.map_nil, ↓reduceIte, Nat.reduceEqDiff, Nat.reduceAdd, Nat.reduceMul, reduceCtorEq, and_true, true_and, Nat.mul_one, Nat.zero_add, Bool.false_eq_true, decide_true, decide_false, not_false_eq_true, kont_eq, hf7, IntWalk.i64_in]
          refine ⟨n - (i + 1), by omega, i + 1, v2, by omega, rfl, by simp, rfl, O7, fun k hk => ?_, (K2.trans K6).trans' M7 (fun q hq h => by have := ho q h; omega)⟩
          rcases N7 k hk with h | h
          · exact ho k h
          · omega
      | false =>
        rw [hd] at hf8
        simp (disch := omega) only [go_sem, List.map_cons, List.map_nil, ↓reduceIte, Nat.reduceEqDiff, Nat.reduceAdd, Nat.reduceMul, reduceCtorEq, and_true, true_and, Nat.mul_one, Nat.zero_add, Bool.false_eq_true, decide_true, decide_false, not_false_eq_true, kont_eq, hf8, hf7, hf5, IntWalk.i64_in]
        exact ⟨n - (i + 1), by omega, i + 1, ov, by omega, rfl, by simp, rfl, by rw [defL_succ, hd]; simpa using hO, ho, K2⟩
    · refine vc_loop [21, 10, 8, 20] rfl (fun n' f H' => ∃ (q : Nat), q ≤ ms.length ∧ n' = ms.length - q ∧ f 20 = .int .i64 q ∧ f 8 = .bool ((ms.take q).any fun m => decide (gi m i < 0) && decide (mtc m = szF ms)) ∧ H' = H2) ms.length
        ⟨0, by omega, by omega, by simp only [go_sem, List.map_cons, List.map_nil, ↓reduceIte, Nat.reduceEqDiff, Nat.reduceAdd, Nat.reduceMul, reduceCtorEq, and_true, true_and, Nat.mul_one, Nat.zero_add, Bool.false_eq_true, decide_true, decide_false, not_false_eq_true, kont_eq]; rfl, by simp only [go_sem, List.map_cons, List.map_nil, ↓reduceIte, Nat.reduceEqDiff, Nat.reduceAdd, Nat.reduceMul, reduceCtorEq, and_true, true_and, Nat.mul_one, Nat.zero_add, Bool.false_eq_true, decide_true, decide_false, not_false_eq_true, kont_eq]; rfl, rfl⟩ ?_
      rintro n' f3 H3 ⟨q, hq, rfl, hf20, hf8, rfl⟩
      simp only [go_sem, List.map_cons, List.map_nil, ↓reduceIte, Nat.reduceEqDiff, Nat.reduceAdd, Nat.reduceMul, reduceCtorEq, and_true, true_and, Nat.mul_one, Nat.zero_add, Bool.false_eq_true, decide_true, decide_false, not_false_eq_true, kont_eq] at hf20 hf8
      simp only [go_sem, List.map_cons, List.map_nil, ↓reduceIte, Nat.reduceEqDiff, Nat.reduceAdd, Nat.reduceMul, reduceCtorEq, and_true, true_and, Nat.mul_one, Nat.zero_add, Bool.false_eq_true, decide_true, decide_false, not_false_eq_true, hf20]
      refine iteV_dec (fun hlq => ?_) (fun hge => ?_)
      · have hlq : q < ms.length := by omega
        have hat := hv2.at_ q hlq
        have hmq : (ms.getD q []).length = n := hml _ (by rw [List.getD_eq_getElem?_getD, List.getElem?_eq_getElem hlq]; exact List.getElem_mem _)
        have hany := any_take_succ hlq (fun m => decide (gi m i < 0) && decide (mtc m = szF ms))
        obtain ⟨b, o, c, rfl, hci⟩ := hv2.elt hlq
        generalize vs.getD q undef = u at hci hat
        generalize ms.getD q [] = m at hat hmq hany
        obtain ⟨ub, uo, uc, rfl, -, huc⟩ := hat.cells (by intro e; have h := congrArg List.length e; rw [iL_len, List.length_nil] at h; omega)
        rw [iL_len] at huc
        have hui := huc i (by omega)
        rw [iL_at (by omega)] at hui
        have hgoal : ∀ (bb : Bool), bb = (ms.take (q + 1)).any (fun m => decide (gi m i < 0) && decide (mtc m = szF ms)) → ∃ n', n' < ms.length - q ∧ ∃ q', q' ≤ ms.length ∧ n' = ms.length - q' ∧ (q + 1 : Nat) = q' ∧ Value.bool bb = .bool ((ms.take q').any fun m => decide (gi m i < 0) && decide (mtc m = szF ms)) :=
          fun bb hb => ⟨ms.length - (q + 1), by omega, q + 1, by omega, rfl, rfl, by rw [hb]⟩
        cases hb : (ms.take q).any (fun m => decide (gi m i < 0) && decide (mtc m = szF ms)) with
        | true =>
          rw [hb] at hf8 hany
          obtain ⟨n', a1, q', a2, a3, a4, a5⟩ := hgoal true (by rw [hany]; rfl)
          simp (disch := omega) only [go_sem, List.map_cons, List.map_nil, ↓reduceIte, Nat.reduceEqDiff, Nat.reduceAdd, Nat.reduceMul, reduceCtorEq, and_true, true_and, Nat.mul_one, Nat.zero_add, Bool.false_eq_true, decide_true, decide_false, not_false_eq_true, kont_eq, hf20, hf8, tn_cast, Nat.mul_one, hci, IntWalk.i64_in]
          exact ⟨by omega, n', a1, q', a2, a3, by rw [← a4]; simp, a5⟩
        | false =>
          rw [hb] at hf8 hany
          by_cases h : gi m i < 0
          · have e1 : decide (gi m i < 0) = true := decide_eq_true h
            simp only [go_sem, List.map_cons, List.map_nil, ↓reduceIte, Nat.reduceEqDiff, Nat.reduceAdd, Nat.reduceMul, reduceCtorEq, and_true, true_and, Nat.mul_one, Nat.zero_add, Bool.false_eq_true, decide_true, decide_false, not_false_eq_true, kont_eq, hf20, hf8, hf, tn_cast, Nat.mul_one, hci, hui, iL_len, hmq, e1]
            refine ⟨by omega, by omega, ?_⟩
            rw [iL_len, hmq] at hat
            refine (hm m _ H3 hat (by omega)).mono ?_
            rintro r H4 ⟨rfl, rfl⟩
            have e2 : ((mtc m : Int) == (szF ms : Int)) = decide (mtc m = szF ms) := by
              by_cases e : mtc m = szF ms
              · simp [e]
              · have : ¬ ((mtc m : Int) = (szF ms : Int)) := by omega
                simp [e, this]
            obtain ⟨n', a1, q', a2, a3, a4, a5⟩ := hgoal (decide (mtc m = szF ms)) (by rw [hany, e1]; simp)
            simp (disch := omega) only [go_sem, List.map_cons, List.map_nil, ↓reduceIte, Nat.reduceEqDiff, Nat.reduceAdd, Nat.reduceMul, reduceCtorEq, and_true, true_and, Nat.mul_one, Nat.zero_add, Bool.false_eq_true, decide_true, decide_false, not_false_eq_true, kont_eq, hf20, e2, IntWalk.i64_in]
            exact ⟨n', a1, q', a2, a3, by rw [← a4]; simp, a5⟩
          · have e1 : decide (gi m i < 0) = false := decide_eq_false h
            obtain ⟨n', a1, q', a2, a3, a4, a5⟩ := hgoal false (by rw [hany, e1]; rfl)
            simp (disch := omega) only [go_sem, List.map_cons, List.map_nil, ↓reduceIte, Nat.reduceEqDiff, Nat.reduceAdd, Nat.reduceMul, reduceCtorEq, and_true, true_and, Nat.mul_one, Nat.zero_add, Bool.false_eq_true, decide_true, decide_false, not_false_eq_true, kont_eq, hf20, hf8, hf, tn_cast, Nat.mul_one, hci, hui, iL_len, hmq, e1, IntWalk.i64_in]
            exact ⟨by omega, by omega, n', a1, q', a2, a3, by rw [← a4]; simp, a5⟩
      · have hql : q = ms.length := by omega
        subst hql
        rw [List.take_length] at hf8
        exact ⟨hf, by first | exact hf5 | rfl, hf8⟩
  · have hil : i = n := by omega
    subst hil
    obtain ⟨va, vn, vc', rfl⟩ := hO.shape
    simp only [go_sem, List.map_cons, List.map_nil, ↓reduceIte, Nat.reduceEqDiff, Nat.reduceAdd, Nat.reduceMul, reduceCtorEq, and_true, true_and, Nat.mul_one, Nat.zero_add, Bool.false_eq_true, decide_true, decide_false, not_false_eq_true, kont_eq, hf5]
    rw [hR]
    exact ⟨hO, ho, K2⟩
/-- the first i of m fit -/
def InTo (X : List UInt64) (m : List Int) (i : Nat) : Prop := (∀ a < i, gi m a = -1 ∨ ∃ j : Nat, j < 64 ∧ gi m a = (j : Int) ∧ bt (bx X a) j = true) ∧ ∀ a < i, ∀ b < i, gi m a = gi m b → 0 ≤ gi m a → a = b
theorem InTo.all {X : List UInt64} {m : List Int} (hl : m.length = X.length) : InTo X m m.length ↔ InF X 0 m := by
  refine ⟨fun h => ⟨hl, fun i hi => ?_, fun i hi k hk => h.2 i (by omega) k (by omega)⟩, fun h => ⟨fun a ha => ?_, fun a ha b hb => h.inj a (by omega) b (by omega)⟩⟩
  · rcases h.1 i (by omega) with e | ⟨j, h1, h2, h3⟩
    · exact .inl e
    · exact .inr ⟨j, h1, h2, h3, bt_zero j⟩
  · rcases h.ed a (by omega) with e | ⟨j, h1, h2, h3, _⟩
    · exact .inl e
    · exact .inr ⟨j, h1, h2, h3⟩
def RChkSpec (P : Program) (k : FuncId) : Prop := ∀ (X : List UInt64) (m : List Int) (v w : Value) (H : Hp), SlR H v (w64 X) → SlR H w (iL m) → X.length ≤ 1000000 →
  CallsM P k #[v, w] H fun r H' => (∃ b : Bool, r = .bool b ∧ (b = true ↔ InF X 0 m)) ∧ H' = H
theorem rcheck_ok {P : Program} {ι : Ids} {k : FuncId} (hk : FnIs P k (c_rcheck ι) r_rcheck 2) : RChkSpec P k := by
  intro X m v w H hv hw hX
  obtain ⟨R, hR⟩ : ∃ R : Value → Hp → Prop, R = fun r H' => (∃ b : Bool, r = .bool b ∧ (b = true ↔ InF X 0 m)) ∧ H' = H := ⟨_, rfl⟩
  rw [← hR]
  refine calls_of_vc hk (args := [_, _]) (by simp) ?_
  unfold c_rcheck r_rcheck
  by_cases hl : m.length = X.length
  · have e0 : ((X.length : Int) != (X.length : Int)) = false := by simp
    simp only [go_sem, List.map_cons, List.map_nil, ↓reduceIte, Nat.reduceEqDiff, Nat.reduceAdd, Nat.reduceMul, reduceCtorEq, and_true, true_and, Nat.mul_one, Nat.zero_add, Bool.false_eq_true, decide_true, decide_false, not_false_eq_true, kont_eq, hv.isSl, hv.len, hw.isSl, hw.len, iL_len, w64_len, hl, e0]
    refine vc_loop [16, 5, 6, 21, 37, 4, 7, 40, 48, 15] rfl (fun n' f H' => ∃ i : Nat, i ≤ X.length ∧ n' = X.length - i ∧ f 15 = .int .i64 i ∧ InTo X m i ∧ H' = H) X.length
      ⟨0, by omega, by omega, by simp only [go_sem, List.map_cons, List.map_nil, ↓reduceIte, Nat.reduceEqDiff, Nat.reduceAdd, Nat.reduceMul, reduceCtorEq, and_true, true_and, Nat.mul_one, Nat.zero_add, Bool.false_eq_true, decide_true, decide_false, not_false_eq_true, kont_eq]; rfl, ⟨fun a ha => by omega, fun a ha => by omega⟩, rfl⟩ ?_
    rintro n' f H2 ⟨i, hi, rfl, hf, hin, rfl⟩
    simp only [go_sem, List.map_cons, List.map_nil, ↓reduceIte, Nat.reduceEqDiff, Nat.reduceAdd, Nat.reduceMul, reduceCtorEq, and_true, true_and, Nat.mul_one, Nat.zero_add, Bool.false_eq_true, decide_true, decide_false, not_false_eq_true, kont_eq] at hf
    simp only [go_sem, List.map_cons, List.map_nil, ↓reduceIte, Nat.reduceEqDiff, Nat.reduceAdd, Nat.reduceMul, reduceCtorEq, and_true, true_and, Nat.mul_one, Nat.zero_add, Bool.false_eq_true, decide_true, decide_false, not_false_eq_true, hf]
    refine iteV_dec (fun hlt => ?_) (fun hge => ?_)
    · have hlt : i < X.length := by omega
      obtain ⟨b, o, c, rfl, -, hc⟩ := hv.cells (by intro e; have h := congrArg List.length e; rw [w64_len, List.length_nil] at h; omega)
      obtain ⟨b2, o2, c2, rfl, -, hc2⟩ := hw.cells (by intro e; have h := congrArg List.length e; rw [iL_len, List.length_nil] at h; omega)
      rw [w64_len] at hc
      rw [iL_len, hl] at hc2
      have hci := hc i hlt
      rw [w64_get _ _ hlt] at hci
      have hcm := hc2 i hlt
      rw [iL_at (by omega)] at hcm
      have no : ∀ {b : Bool}, b = false → ¬ InF X 0 m → R (.bool b) H2 := fun h1 h2 => by rw [hR]; exact ⟨⟨_, rfl, by rw [h1]; exact ⟨fun h => (by cases h), fun h => absurd h h2⟩⟩, rfl⟩
      by_cases h1 : gi m i = -1
      · have e1 : ((-1 : Int) == -1) = true := rfl
        rw [h1] at hcm
        simp (disch := omega) only [go_sem, List.map_cons, List.map_nil, ↓reduceIte, Nat.reduceEqDiff, Nat.reduceAdd, Nat.reduceMul, reduceCtorEq, and_true, true_and, Nat.mul_one, Nat.zero_add, Bool.false_eq_true, decide_true, decide_false, not_false_eq_true, kont_eq, hf, w64_len, iL_len, hl, tn_cast, Nat.mul_one, hcm, e1, IntWalk.i64_in]
        refine ⟨by omega, X.length - (i + 1), by omega, i + 1, by omega, rfl, by simp, ⟨fun a ha => ?_, fun a ha b hb e hn => ?_⟩⟩
        · by_cases e : a = i
          · subst e; exact .inl h1
          · exact hin.1 a (by omega)
        · have ha' : a ≠ i := fun h => by subst h; omega
          have hb' : b ≠ i := fun h => by subst h; omega
          exact hin.2 a (by omega) b (by omega) e hn
      · have e1 : (gi m i == -1) = false := by simpa using h1
        by_cases h2 : gi m i < 0
        · have e2 : decide (gi m i < 0) = true := decide_eq_true h2
          simp only [go_sem, List.map_cons, List.map_nil, ↓reduceIte, Nat.reduceEqDiff, Nat.reduceAdd, Nat.reduceMul, reduceCtorEq, and_true, true_and, Nat.mul_one, Nat.zero_add, Bool.false_eq_true, decide_true, decide_false, not_false_eq_true, kont_eq, hf, w64_len, iL_len, hl, tn_cast, Nat.mul_one, hcm, e1, e2]
          refine ⟨by omega, no rfl fun h => ?_⟩
          rcases h.ed i hlt with e | ⟨j, _, e, _⟩ <;> omega
        · have e2 : decide (gi m i < 0) = false := decide_eq_false h2
          by_cases h3 : gi m i > 63
          · have e3 : decide (gi m i > 63) = true := decide_eq_true h3
            simp only [go_sem, List.map_cons, List.map_nil, ↓reduceIte, Nat.reduceEqDiff, Nat.reduceAdd, Nat.reduceMul, reduceCtorEq, and_true, true_and, Nat.mul_one, Nat.zero_add, Bool.false_eq_true, decide_true, decide_false, not_false_eq_true, kont_eq, hf, w64_len, iL_len, hl, tn_cast, Nat.mul_one, hcm, e1, e2, e3]
            refine ⟨by omega, no rfl fun h => ?_⟩
            rcases h.ed i hlt with e | ⟨j, _, e, _⟩ <;> omega
          · have e3 : decide (gi m i > 63) = false := decide_eq_false h3
            obtain ⟨j, hj⟩ : ∃ j : Nat, gi m i = (j : Int) := ⟨(gi m i).toNat, by omega⟩
            have hj64 : j < 64 := by omega
            have ex := and1 (X.getD i 0) j
            have d00 : ((0 : Int) == 0) = true := rfl
            have d10 : ((1 : Int) == 0) = false := rfl
            rw [hj] at hcm e1 e2 e3
            cases hb : bt (X.getD i 0) j with
            | false =>
              rw [hb] at ex
              simp only [go_sem, List.map_cons, List.map_nil, ↓reduceIte, Nat.reduceEqDiff, Nat.reduceAdd, Nat.reduceMul, reduceCtorEq, and_true, true_and, Nat.mul_one, Nat.zero_add, Bool.false_eq_true, decide_true, decide_false, not_false_eq_true, kont_eq, hf, w64_len, iL_len, hl, tn_cast, Nat.mul_one, hcm, e1, e2, e3, hci, ex, d00]
              refine ⟨by omega, by omega, by omega, no rfl fun h => ?_⟩
              rcases h.ed i hlt with e | ⟨j', _, e, e', _⟩
              · omega
              · have : j' = j := by omega
                subst this
                unfold bx at e'; rw [hb] at e'; cases e'
            | true =>
              rw [hb] at ex
              simp only [go_sem, List.map_cons, List.map_nil, ↓reduceIte, Nat.reduceEqDiff, Nat.reduceAdd, Nat.reduceMul, reduceCtorEq, and_true, true_and, Nat.mul_one, Nat.zero_add, Bool.false_eq_true, decide_true, decide_false, not_false_eq_true, kont_eq, hf, w64_len, iL_len, hl, tn_cast, Nat.mul_one, hcm, e1, e2, e3, hci, ex, d10]
              refine ⟨by omega, by omega, by omega, ?_⟩
              refine vc_loop [40, 48, 4, 7] rfl (fun n' f H' => ∃ q : Nat, q ≤ i ∧ n' = i - q ∧ f 7 = .int .i64 q ∧ (∀ a < q, gi m a ≠ (j : Int)) ∧ H' = H2) i
                ⟨0, by omega, by omega, by simp only [go_sem, List.map_cons, List.map_nil, ↓reduceIte, Nat.reduceEqDiff, Nat.reduceAdd, Nat.reduceMul, reduceCtorEq, and_true, true_and, Nat.mul_one, Nat.zero_add, Bool.false_eq_true, decide_true, decide_false, not_false_eq_true, kont_eq]; rfl, fun a ha => by omega, rfl⟩ ?_
              rintro n' f3 H3 ⟨q, hq, rfl, hf7, hx, rfl⟩
              simp only [go_sem, List.map_cons, List.map_nil, ↓reduceIte, Nat.reduceEqDiff, Nat.reduceAdd, Nat.reduceMul, reduceCtorEq, and_true, true_and, Nat.mul_one, Nat.zero_add, Bool.false_eq_true, decide_true, decide_false, not_false_eq_true, kont_eq] at hf7
              simp only [go_sem, List.map_cons, List.map_nil, ↓reduceIte, Nat.reduceEqDiff, Nat.reduceAdd, Nat.reduceMul, reduceCtorEq, and_true, true_and, Nat.mul_one, Nat.zero_add, Bool.false_eq_true, decide_true, decide_false, not_false_eq_true, hf7]
              refine iteV_dec (fun hlq => ?_) (fun hge => ?_)
              · have hlq : q < i := by omega
                have hcq := hc2 q (by omega)
                rw [iL_at (by omega)] at hcq
                by_cases h : gi m q = (j : Int)
                · have e4 : (gi m q == (j : Int)) = true := by simpa using h
                  simp only [go_sem, List.map_cons, List.map_nil, ↓reduceIte, Nat.reduceEqDiff, Nat.reduceAdd, Nat.reduceMul, reduceCtorEq, and_true, true_and, Nat.mul_one, Nat.zero_add, Bool.false_eq_true, decide_true, decide_false, not_false_eq_true, kont_eq, hf7, iL_len, hl, tn_cast, Nat.mul_one, hcq, e4]
                  refine ⟨by omega, no rfl fun h' => ?_⟩
                  have := h'.inj q (by omega) i hlt (by rw [h, hj]) (by omega)
                  omega
                · have e4 : (gi m q == (j : Int)) = false := by simpa using h
                  simp (disch := omega) only [go_sem, List.map_cons, List.map_nil, ↓reduceIte, Nat.reduceEqDiff, Nat.reduceAdd, Nat.reduceMul, reduceCtorEq, and_true, true_and, Nat.mul_one, Nat.zero_add, Bool.false_eq_true, decide_true, decide_false, not_false_eq_true, kont_eq, hf7, iL_len, hl, tn_cast, Nat.mul_one, hcq, e4, IntWalk.i64_in]
                  refine ⟨by omega, i - (q + 1), by omega, q + 1, by omega, rfl, by simp, fun a ha => ?_⟩
                  by_cases e : a = q
                  · subst e; exact h
                  · exact hx a (by omega)
              · have hqi : q = i := by omega
                subst hqi
                simp (disch := omega) only [go_sem, List.map_cons, List.map_nil, ↓reduceIte, Nat.reduceEqDiff, Nat.reduceAdd, Nat.reduceMul, reduceCtorEq, and_true, true_and, Nat.mul_one, Nat.zero_add, Bool.false_eq_true, decide_true, decide_false, not_false_eq_true, kont_eq, hf, IntWalk.i64_in]
                refine ⟨X.length - (q + 1), by omega, q + 1, by omega, rfl, by simp, ⟨fun a ha => ?_, fun a ha b hb2 e hn => ?_⟩⟩
                · by_cases e : a = q
                  · subst e; exact .inr ⟨j, hj64, hj, hb⟩
                  · exact hin.1 a (by omega)
                · by_cases e1 : a = q
                  · by_cases e2 : b = q
                    · omega
                    · subst e1; exact absurd (e.symm.trans hj) (hx b (by omega))
                  · by_cases e2 : b = q
                    · subst e2; exact absurd (e.trans hj) (hx a (by omega))
                    · exact hin.2 a (by omega) b (by omega) e hn
    · have hil : i = X.length := by omega
      subst hil
      rw [hR]
      exact ⟨⟨true, rfl, ⟨fun _ => (InTo.all hl).1 (by rw [hl]; exact hin), fun _ => rfl⟩⟩, rfl⟩
  · have e0 : ((m.length : Int) != (X.length : Int)) = true := by rw [bne_iff_ne]; omega
    simp only [go_sem, List.map_cons, List.map_nil, ↓reduceIte, Nat.reduceEqDiff, Nat.reduceAdd, Nat.reduceMul, reduceCtorEq, and_true, true_and, Nat.mul_one, Nat.zero_add, Bool.false_eq_true, decide_true, decide_false, not_false_eq_true, kont_eq, hv.isSl, hv.len, hw.isSl, hw.len, iL_len, w64_len, e0]
    rw [hR]
    exact ⟨⟨false, rfl, ⟨fun h => (by cases h), fun h => absurd h.len hl⟩⟩, rfl⟩
end Go.Mg

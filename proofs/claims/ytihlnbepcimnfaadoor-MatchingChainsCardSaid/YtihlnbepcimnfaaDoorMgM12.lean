/- matching: what the laws use: matched, Equal, set, Graph, Small. -/
import Derived.Test.YtihlnbepcimnfaaDoorMgM11
import Derived.Test.YtihlnbepcimnfaaDoorMgB4
namespace Go.Mg
open Go Go.RowKit
set_option linter.unusedSimpArgs false
set_option linter.unusedVariables false
set_option maxRecDepth 100000
/- arbaclaw09.matched -/
def c_matched (ι : Ids) : S :=
  .seq (.reg [.p (.v 2) (.mv (.c (.int .i64 0)))]) (.seq (.reg [.p (.v 3) (.mv (.c (.int .i64 0)))]) (.seq (.seq (.reg [.p (.v 6) (.mv (.v 0)), .p (.v 7) (.m (.lenl (.v 6))), .p (.v 8) (.mv (.c (.int
  .i64 0)))]) (.blk 0 (.loop (.seq (.reg [.p (.v 9) (.cm .lss .i64 (.v 8) (.v 7))]) (.seq (.ite (.v 9) .skip (.exit 0)) (.seq (.blk 1 (.seq (.reg [.p (.t 10) (.is 1 (.v 6) (.v 8)), .p (.t 11) (.ld (.t
  10)), .p (.v 5) (.mv (.t 11))]) (.seq (.reg [.p (.t 12) (.mv (.v 5)), .p (.v 13) (.cm .geq .i64 (.t 12) (.c (.int .i64 0)))]) (.ite (.v 13) (.reg [.p (.t 14) (.mv (.v 3)), .p (.t 15) (.ar .add .i64
  (.t 14) (.c (.int .i64 1))), .p (.v 3) (.mv (.t 15))]) .skip)))) (.reg [.p (.t 16) (.ar .add .i64 (.v 8) (.c (.int .i64 1))), .p (.v 8) (.mv (.t 16))]))))))) (.seq (.reg [.p (.t 17) (.mv (.v 3)), .p
  (.v 2) (.mv (.t 17))]) .ret)))
def r_matched : List RV := [.t 2]
/- arbacref09.Matched -/
def c_rmatched (ι : Ids) : S :=
  .seq (.reg [.p (.v 2) (.mv (.c (.int .i64 0)))]) (.seq (.reg [.p (.v 3) (.mv (.c (.int .i64 0)))]) (.seq (.seq (.reg [.p (.v 6) (.mv (.v 0)), .p (.v 7) (.m (.lenl (.v 6))), .p (.v 8) (.mv (.c (.int
  .i64 0)))]) (.blk 0 (.loop (.seq (.reg [.p (.v 9) (.cm .lss .i64 (.v 8) (.v 7))]) (.seq (.ite (.v 9) .skip (.exit 0)) (.seq (.blk 1 (.seq (.reg [.p (.t 10) (.is 1 (.v 6) (.v 8)), .p (.t 11) (.ld (.t
  10)), .p (.v 5) (.mv (.t 11))]) (.seq (.reg [.p (.t 12) (.mv (.v 5)), .p (.v 13) (.cm .geq .i64 (.t 12) (.c (.int .i64 0)))]) (.ite (.v 13) (.reg [.p (.t 14) (.mv (.v 3)), .p (.t 15) (.ar .add .i64
  (.t 14) (.c (.int .i64 1))), .p (.v 3) (.mv (.t 15))]) .skip)))) (.reg [.p (.t 16) (.ar .add .i64 (.v 8) (.c (.int .i64 1))), .p (.v 8) (.mv (.t 16))]))))))) (.seq (.reg [.p (.t 17) (.mv (.v 3)), .p
  (.v 2) (.mv (.t 17))]) .ret)))
def r_rmatched : List RV := [.t 2]
/- slices.Equal[[]int,int] -/
def c_sleq (ι : Ids) : S :=
  .seq (.reg [.p (.v 4) (.mv (.c (.bool false)))]) (.seq (.seq (.reg [.p (.t 6) (.mv (.v 0)), .p (.t 7) (.m (.lenl (.t 6))), .p (.t 8) (.mv (.v 1)), .p (.t 9) (.m (.lenl (.t 8))), .p (.v 10) (.cm .neq
  .i64 (.t 7) (.t 9))]) (.ite (.v 10) (.seq (.reg [.p (.v 4) (.mv (.c (.bool false)))]) .ret) .skip)) (.seq (.seq (.reg [.p (.t 11) (.mv (.v 0)), .p (.v 12) (.m (.lenl (.t 11))), .p (.v 13) (.mv (.c
  (.int .i64 0)))]) (.blk 0 (.loop (.seq (.reg [.p (.v 14) (.cm .lss .i64 (.v 13) (.v 12))]) (.seq (.ite (.v 14) .skip (.exit 0)) (.seq (.blk 1 (.seq (.reg [.p (.t 15) (.mv (.v 13)), .p (.v 5) (.mv (.t
  15))]) (.seq (.reg [.p (.t 16) (.mv (.v 0)), .p (.t 17) (.mv (.v 5)), .p (.t 18) (.is 1 (.t 16) (.t 17)), .p (.t 19) (.ld (.t 18)), .p (.t 20) (.mv (.v 1)), .p (.t 21) (.mv (.v 5)), .p (.t 22) (.is 1
  (.t 20) (.t 21)), .p (.t 23) (.ld (.t 22)), .p (.v 24) (.cm .neq .i64 (.t 19) (.t 23))]) (.ite (.v 24) (.seq (.reg [.p (.v 4) (.mv (.c (.bool false)))]) .ret) .skip)))) (.reg [.p (.t 25) (.ar .add
  .i64 (.v 13) (.c (.int .i64 1))), .p (.v 13) (.mv (.t 25))]))))))) (.seq (.reg [.p (.v 4) (.mv (.c (.bool true)))]) .ret)))
def r_sleq : List RV := [.t 4]
/- arbaclaw09.set -/
def c_lset (ι : Ids) : S :=
  .seq (.reg [.e (.v 2) (.new (ι.t 128) #[.slice .none 0 0])]) (.seq (.reg [.e (.t 5) (.call (ι.f 143) [.c (.slice .none 0 0)]), .e (.v 3) (.new (ι.t 128) #[.slice .none 0 0]), .e .no (.stn 1 (.v 3) (.t
  5))]) (.seq (.seq (.reg [.p (.v 6) (.mv (.c (.int .i64 0)))]) (.blk 0 (.loop (.seq (.reg [.p (.v 7) (.cm .lss .i64 (.v 6) (.c (.int .i64 64)))]) (.seq (.ite (.v 7) .skip (.exit 0)) (.seq (.blk 1 (.seq
  (.reg [.p (.t 8) (.mv (.v 6)), .p (.v 4) (.mv (.t 8))]) (.seq (.reg [.p (.t 9) (.mv (.v 0)), .p (.t 10) (.mv (.v 4)), .p (.t 11) (.sh .shr .u64 (.t 9) (.t 10)), .p (.t 12) (.bt .and .u64 (.t 11) (.c
  (.int .u64 1))), .p (.v 13) (.cm .eql .u64 (.t 12) (.c (.int .u64 1)))]) (.ite (.v 13) (.reg [.p (.t 14) (.m (.ldn 1 (.v 3))), .p (.t 15) (.mv (.v 4)), .e (.t 16) (.call (ι.f 131) [.t 14, .t 15]), .e
  .no (.stn 1 (.v 3) (.t 16))]) .skip)))) (.reg [.p (.t 17) (.ar .add .i64 (.v 6) (.c (.int .i64 1))), .p (.v 6) (.mv (.t 17))]))))))) (.seq (.reg [.p (.t 18) (.m (.ldn 1 (.v 3))), .e .no (.stn 1 (.v 2)
  (.t 18))]) .ret)))
def r_lset : List RV := [.cn 2 1]
/- arbaclaw09.Graph -/
def c_lgraph (ι : Ids) : S :=
  .seq (.reg [.p (.v 2) (.mv (.c (.slice .none 0 0)))]) (.seq (.reg [.p (.v 3) (.mv (.c (.slice .none 0 0)))]) (.seq (.seq (.reg [.p (.v 6) (.mv (.v 0)), .p (.v 7) (.m (.lenl (.v 6))), .p (.v 8) (.mv
  (.c (.int .i64 0)))]) (.blk 0 (.loop (.seq (.reg [.p (.v 9) (.cm .lss .i64 (.v 8) (.v 7))]) (.seq (.ite (.v 9) .skip (.exit 0)) (.seq (.blk 1 (.seq (.reg [.p (.t 10) (.is 1 (.v 6) (.v 8)), .p (.t 11)
  (.ld (.t 10)), .p (.v 5) (.mv (.t 11))]) (.reg [.p (.t 12) (.mv (.v 3)), .p (.t 13) (.mv (.v 5)), .e (.t 14) (.call (ι.f 166) [.t 13]), .e (.t 15) (.bldF (ι.t 128) 1 1 [.t 14]), .e (.t 16) (.app false
  (ι.t 128) 1 24 #[.slice .none 0 0] (.t 12) (.t 15)), .p (.v 3) (.mv (.t 16))]))) (.reg [.p (.t 17) (.ar .add .i64 (.v 8) (.c (.int .i64 1))), .p (.v 8) (.mv (.t 17))]))))))) (.seq (.reg [.p (.t 18)
  (.mv (.v 3)), .p (.v 2) (.mv (.t 18))]) .ret)))
def r_lgraph : List RV := [.t 2]
/- arbaclaw09.Small -/
def c_lsmall (ι : Ids) : S :=
  .seq (.reg [.p (.v 2) (.mv (.c (.slice .none 0 0)))]) (.seq (.reg [.p (.v 3) (.mv (.c (.slice .none 0 0)))]) (.seq (.seq (.reg [.p (.v 4) (.mv (.c (.int .i64 0)))]) (.blk 0 (.loop (.seq (.seq (.reg
  [.p (.t 5) (.mv (.v 4)), .p (.t 6) (.mv (.v 0)), .p (.t 7) (.m (.lenl (.t 6))), .p (.t 8) (.cm .lss .i64 (.t 5) (.t 7)), .p (.t 9) (.mv (.t 8)), .gp (.t 10) (.t 9) true (.mv (.v 4)), .gp (.t 11) (.t
  9) true (.cm .lss .i64 (.t 10) (.c (.int .i64 6))), .p (.v 12) (.pick (.t 9) (.t 11) (.c (.bool false)))]) (.ite (.v 12) .skip (.exit 0))) (.seq (.blk 1 (.reg [.p (.t 15) (.mv (.v 3)), .p (.t 16) (.mv
  (.v 0)), .p (.t 17) (.mv (.v 4)), .p (.t 18) (.is 1 (.t 16) (.t 17)), .p (.t 19) (.ld (.t 18)), .p (.t 20) (.bt .and .u8 (.t 19) (.c (.int .u8 63))), .p (.t 21) (.ii .u64 (.t 20)), .e (.t 22) (.bldF
  (ι.t 28) 1 1 [.t 21]), .e (.t 23) (.app false (ι.t 28) 1 8 #[.int .u64 0] (.t 15) (.t 22)), .p (.v 3) (.mv (.t 23))])) (.reg [.p (.t 13) (.mv (.v 4)), .p (.t 14) (.ar .add .i64 (.t 13) (.c (.int .i64
  1))), .p (.v 4) (.mv (.t 14))])))))) (.seq (.reg [.p (.t 24) (.mv (.v 3)), .p (.v 2) (.mv (.t 24))]) .ret)))
def r_lsmall : List RV := [.t 2]

theorem iL_at {l : List Int} {i : Nat} (hi : i < l.length) : (iL l)[i]? = some (.int .i64 (gi l i)) := by
  rw [iL_get _ _ hi]
  unfold gi; simp [List.getD_eq_getElem?_getD, hi]
def MtcSpec (P : Program) (k : FuncId) : Prop := ∀ (l : List Int) (v : Value) (H : Hp), SlR H v (iL l) → l.length ≤ 1000000 → CallsM P k #[v] H fun r H' => r = .int .i64 (mtc l : Int) ∧ H' = H
theorem matched_ok {P : Program} {ι : Ids} {k : FuncId} (hk : FnIs P k (c_matched ι) r_matched 1) : MtcSpec P k := by
  intro l v H hv hl
  refine calls_of_vc hk (args := [_]) (by simp) ?_
  unfold c_matched r_matched
  simp only [go_sem, List.map_cons, List.map_nil, ↓reduceIte, Nat.reduceEqDiff, Nat.reduceAdd, Nat.reduceMul, reduceCtorEq, and_true, true_and, Nat.mul_one, Nat.zero_add, Bool.false_eq_true, decide_true, decide_false, not_false_eq_true, kont_eq, hv.isSl, hv.len, iL_len]
  refine vc_loop [9, 5, 13, 3, 8] rfl (fun n f H' => ∃ i : Nat, i ≤ l.length ∧ n = l.length - i ∧ f 8 = .int .i64 i ∧ f 3 = .int .i64 (cn i (mt (gi l)) : Int) ∧ H' = H) l.length
    ⟨0, by omega, by omega, by simp only [go_sem, List.map_cons, List.map_nil, ↓reduceIte, Nat.reduceEqDiff, Nat.reduceAdd, Nat.reduceMul, reduceCtorEq, and_true, true_and, Nat.mul_one, Nat.zero_add, Bool.false_eq_true, decide_true, decide_false, not_false_eq_true, kont_eq]; rfl, by simp only [go_sem, List.map_cons, List.map_nil, ↓reduceIte, Nat.reduceEqDiff, Nat.reduceAdd, Nat.reduceMul, reduceCtorEq, and_true, true_and, Nat.mul_one, Nat.zero_add, Bool.false_eq_true, decide_true, decide_false, not_false_eq_true, kont_eq]; rfl, rfl⟩ ?_
  rintro n f H2 ⟨i, hi, rfl, hf, hf3, rfl⟩
  simp only [go_sem, List.map_cons, List.map_nil, ↓reduceIte, Nat.reduceEqDiff, Nat.reduceAdd, Nat.reduceMul, reduceCtorEq, and_true, true_and, Nat.mul_one, Nat.zero_add, Bool.false_eq_true, decide_true, decide_false, not_false_eq_true, kont_eq] at hf hf3
  simp only [go_sem, List.map_cons, List.map_nil, ↓reduceIte, Nat.reduceEqDiff, Nat.reduceAdd, Nat.reduceMul, reduceCtorEq, and_true, true_and, Nat.mul_one, Nat.zero_add, Bool.false_eq_true, decide_true, decide_false, not_false_eq_true, kont_eq, hf, hf3]
  refine iteV_dec (fun hlt => ?_) (fun hge => ?_)
  · have hlt : i < l.length := by omega
    obtain ⟨b, o, c, rfl, -, hc⟩ := hv.cells (by intro e; have h := congrArg List.length e; rw [iL_len, List.length_nil] at h; omega)
    rw [iL_len] at hc
    have hci := hc i hlt
    rw [iL_at hlt] at hci
    have hle := cn_le i (mt (gi l))
    simp only [go_sem, List.map_cons, List.map_nil, ↓reduceIte, Nat.reduceEqDiff, Nat.reduceAdd, Nat.reduceMul, reduceCtorEq, and_true, true_and, Nat.mul_one, Nat.zero_add, Bool.false_eq_true, decide_true, decide_false, not_false_eq_true, kont_eq, iL_len, tn_cast, Nat.mul_one, hci]
    refine ⟨by omega, ?_⟩
    refine iteV_dec (fun h => ?_) (fun h => ?_)
    · simp (disch := omega) only [go_sem, List.map_cons, List.map_nil, ↓reduceIte, Nat.reduceEqDiff, Nat.reduceAdd, Nat.reduceMul, reduceCtorEq, and_true, true_and, Nat.mul_one, Nat.zero_add, Bool.false_eq_true, decide_true, decide_false, not_false_eq_true, kont_eq, hf, hf3, IntWalk.i64_in]
      exact ⟨l.length - (i + 1), by omega, i + 1, by omega, rfl, by simp, by rw [cn_mt_succ, if_pos h]; simp⟩
    · simp (disch := omega) only [go_sem, List.map_cons, List.map_nil, ↓reduceIte, Nat.reduceEqDiff, Nat.reduceAdd, Nat.reduceMul, reduceCtorEq, and_true, true_and, Nat.mul_one, Nat.zero_add, Bool.false_eq_true, decide_true, decide_false, not_false_eq_true, kont_eq, hf, hf3, IntWalk.i64_in]
      exact ⟨l.length - (i + 1), by omega, i + 1, by omega, rfl, by simp, by rw [cn_mt_succ, if_neg h]; simp⟩
  · have : i = l.length := by omega
    subst this
    simp only [go_sem, List.map_cons, List.map_nil, ↓reduceIte, Nat.reduceEqDiff, Nat.reduceAdd, Nat.reduceMul, reduceCtorEq, and_true, true_and, Nat.mul_one, Nat.zero_add, Bool.false_eq_true, decide_true, decide_false, not_false_eq_true, kont_eq, hf3, mtc_cn]
theorem rmatched_ok {P : Program} {ι : Ids} {k : FuncId} (hk : FnIs P k (c_rmatched ι) r_rmatched 1) : MtcSpec P k := matched_ok (ι := ι) hk
def IEqSpec (P : Program) (k : FuncId) : Prop := ∀ (l m : List Int) (v w : Value) (H : Hp), SlR H v (iL l) → SlR H w (iL m) → l.length ≤ 1000000 → CallsM P k #[v, w] H fun r H' => r = .bool (decide (l = m)) ∧ H' = H
theorem sleq_ok {P : Program} {ι : Ids} {k : FuncId} (hk : FnIs P k (c_sleq ι) r_sleq 2) : IEqSpec P k := by
  intro l m v w H hv hw hl
  refine calls_of_vc hk (args := [_, _]) (by simp) ?_
  unfold c_sleq r_sleq
  by_cases hlm : l.length = m.length
  · have e0 : ((m.length : Int) != (m.length : Int)) = false := by simp
    simp only [go_sem, List.map_cons, List.map_nil, ↓reduceIte, Nat.reduceEqDiff, Nat.reduceAdd, Nat.reduceMul, reduceCtorEq, and_true, true_and, Nat.mul_one, Nat.zero_add, Bool.false_eq_true, decide_true, decide_false, not_false_eq_true, kont_eq, hv.isSl, hv.len, hw.isSl, hw.len, iL_len, hlm, e0]
    refine vc_loop [14, 5, 24, 4, 13] rfl (fun n f H' => ∃ i : Nat, i ≤ l.length ∧ n = l.length - i ∧ f 13 = .int .i64 i ∧ (∀ a < i, gi l a = gi m a) ∧ H' = H) l.length
      ⟨0, by omega, by omega, by simp only [go_sem, List.map_cons, List.map_nil, ↓reduceIte, Nat.reduceEqDiff, Nat.reduceAdd, Nat.reduceMul, reduceCtorEq, and_true, true_and, Nat.mul_one, Nat.zero_add, Bool.false_eq_true, decide_true, decide_false, not_false_eq_true, kont_eq]; rfl, fun a ha => by omega, rfl⟩ ?_
    rintro n f H2 ⟨i, hi, rfl, hf, hx, rfl⟩
    simp only [go_sem, List.map_cons, List.map_nil, ↓reduceIte, Nat.reduceEqDiff, Nat.reduceAdd, Nat.reduceMul, reduceCtorEq, and_true, true_and, Nat.mul_one, Nat.zero_add, Bool.false_eq_true, decide_true, decide_false, not_false_eq_true, kont_eq] at hf
    simp only [go_sem, List.map_cons, List.map_nil, ↓reduceIte, Nat.reduceEqDiff, Nat.reduceAdd, Nat.reduceMul, reduceCtorEq, and_true, true_and, Nat.mul_one, Nat.zero_add, Bool.false_eq_true, decide_true, decide_false, not_false_eq_true, kont_eq, hf]
    refine iteV_dec (fun hlt => ?_) (fun hge => ?_)
    · have hlt : i < l.length := by omega
      obtain ⟨b, o, c, rfl, -, hc⟩ := hv.cells (by intro e; have h := congrArg List.length e; rw [iL_len, List.length_nil] at h; omega)
      obtain ⟨b2, o2, c2, rfl, -, hc2⟩ := hw.cells (by intro e; have h := congrArg List.length e; rw [iL_len, List.length_nil] at h; omega)
      rw [iL_len] at hc hc2
      have hci := hc i hlt
      have hci2 := hc2 i (by omega)
      rw [iL_at hlt] at hci
      rw [iL_at (by omega)] at hci2
      by_cases h : gi l i = gi m i
      · have e1 : (gi m i != gi m i) = false := by simp
        simp (disch := omega) only [go_sem, List.map_cons, List.map_nil, ↓reduceIte, Nat.reduceEqDiff, Nat.reduceAdd, Nat.reduceMul, reduceCtorEq, and_true, true_and, Nat.mul_one, Nat.zero_add, Bool.false_eq_true, decide_true, decide_false, not_false_eq_true, kont_eq, hf, iL_len, tn_cast, Nat.mul_one, hci, hci2, h, e1, IntWalk.i64_in]
        refine ⟨by omega, by omega, l.length - (i + 1), by omega, i + 1, by omega, rfl, by simp, fun a ha => ?_⟩
        by_cases e : a = i
        · subst e; exact h
        · exact hx a (by omega)
      · have e1 : (gi l i != gi m i) = true := by simpa using h
        have e2 : decide (l = m) = false := decide_eq_false (fun e => h (by rw [e]))
        simp only [go_sem, List.map_cons, List.map_nil, ↓reduceIte, Nat.reduceEqDiff, Nat.reduceAdd, Nat.reduceMul, reduceCtorEq, and_true, true_and, Nat.mul_one, Nat.zero_add, Bool.false_eq_true, decide_true, decide_false, not_false_eq_true, kont_eq, hf, iL_len, tn_cast, Nat.mul_one, hci, hci2, e1, e2]
        exact ⟨by omega, by omega⟩
    · have e2 : l = m := by
        refine List.ext_getElem hlm fun i h1 h2 => ?_
        have := hx i (by omega)
        unfold gi at this
        rw [List.getD_eq_getElem?_getD, List.getD_eq_getElem?_getD, List.getElem?_eq_getElem h1, List.getElem?_eq_getElem h2] at this
        exact this
      simp only [go_sem, List.map_cons, List.map_nil, ↓reduceIte, Nat.reduceEqDiff, Nat.reduceAdd, Nat.reduceMul, reduceCtorEq, and_true, true_and, Nat.mul_one, Nat.zero_add, Bool.false_eq_true, decide_true, decide_false, not_false_eq_true, kont_eq, decide_eq_true e2]
  · have e0 : ((l.length : Int) != (m.length : Int)) = true := by rw [bne_iff_ne]; omega
    have e2 : decide (l = m) = false := decide_eq_false (fun e => hlm (by rw [e]))
    simp only [go_sem, List.map_cons, List.map_nil, ↓reduceIte, Nat.reduceEqDiff, Nat.reduceAdd, Nat.reduceMul, reduceCtorEq, and_true, true_and, Nat.mul_one, Nat.zero_add, Bool.false_eq_true, decide_true, decide_false, not_false_eq_true, kont_eq, hv.isSl, hv.len, hw.isSl, hw.len, iL_len, e0, e2]
/-! ### graphs that a function owns -/
structure GrO (H : Hp) (v : Value) (ps : List (Nat → Bool)) (B : Nat) (vs : List Value) : Prop where
  ow : OwS H v vs
  len : vs.length = ps.length
  at_ : ∀ i, i < ps.length → SetM H (.agg #[vs.getD i undef]) (ps.getD i fun _ => false)
  o1 : ∀ k, ownB v k → B ≤ k
  o2 : ∀ i k, i < ps.length → slB (vs.getD i undef) k → B ≤ k ∧ ¬ ownB v k
theorem GrO.toM {H : Hp} {v : Value} {ps : List (Nat → Bool)} {B : Nat} {vs : List Value} (h : GrO H v ps B vs) : GrM H v ps (fun k => B ≤ k) :=
  ⟨vs, h.ow.sl, h.len, h.at_, fun k hk => h.o1 k (h.ow.slB hk), fun i k hi hk => (h.o2 i k hi hk).1⟩
theorem GrO.nil (H : Hp) (B : Nat) : GrO H (.slice none 0 0) [] B [] := ⟨OwS.nil _, rfl, fun i hi => absurd hi (by simp), fun k h => h.elim, fun i k hi => absurd hi (by simp)⟩
theorem GrO.keep {W : Nat → Prop} {H H' : Hp} {v : Value} {ps : List (Nat → Bool)} {B : Nat} {vs : List Value} (h : GrO H v ps B vs) (hk : Keep W H H') (hw : ∀ k, k < H.size → B ≤ k → ¬ W k) : GrO H' v ps B vs :=
  ⟨h.ow.keep hk fun k hb => hw k (h.ow.old hb) (h.o1 k hb), h.len, fun i hi => (h.at_ i hi).keep hk fun k hb => hw k ((h.at_ i hi).old hb) (h.o2 i k hi hb).1, h.o1, h.o2⟩
theorem GrO.keep0 {H H' : Hp} {v : Value} {ps : List (Nat → Bool)} {B : Nat} {vs : List Value} (h : GrO H v ps B vs) (hk : Keep (fun _ => False) H H') : GrO H' v ps B vs := h.keep hk (fun _ _ _ h => h)
/-- one set more -/
theorem GrO.app {T : TypeId} {bytes : Nat} {z : Array Value} {v x u : Value} {H : Hp} {K : Value → Hp → Prop} {ps : List (Nat → Bool)} {B : Nat} {vs : List Value} {p : Nat → Bool} (h : GrO H v ps B vs) (hx : SlR H x [u]) (hu : SetM H (.agg #[u]) p)
    (hz : z.size = 1) (h1 : ps.length ≤ 100000) (hb : bytes ≤ 1000) (hB : B ≤ H.size) (hub : ∀ k, slB u k → B ≤ k ∧ ¬ ownB v k)
    (hK : ∀ v' H', GrO H' v' (ps ++ [p]) B (vs ++ [u]) → Keep (ownB v) H H' → K v' H') : AppC false T 1 bytes z v x H K := by
  have hone : all1 #[u] := by obtain ⟨v, W, e, h⟩ := hu; cases e; exact h.sl.one
  have hvl := h.len
  refine app_sl (l := vs) (m := [u]) h.ow hx hone hz (by unfold maxLen; simp only [List.length_singleton]; omega) ?_ fun v' H' O M N => hK v' H' ⟨O, by simp [hvl], fun i hi => ?_, fun k hk => ?_, fun i k hi hk => ?_⟩ M
  · simp only [List.length_singleton]
    have : (vs.length + 1) * bytes ≤ 100001 * 1000 := Nat.mul_le_mul (by omega) hb
    omega
  · by_cases e : i = ps.length
    · subst e
      have e1 : (vs ++ [u]).getD ps.length undef = u := by rw [List.getD_eq_getElem?_getD, List.getElem?_append_right (by omega), hvl]; simp
      have e2 : (ps ++ [p]).getD ps.length (fun _ => false) = p := by rw [List.getD_eq_getElem?_getD, List.getElem?_append_right (by omega)]; simp
      rw [e1, e2]
      exact hu.keep M fun k hk hw => (hub k hk).2 hw
    · have hi' : i < ps.length := by simp at hi; omega
      have e1 : (vs ++ [u]).getD i undef = vs.getD i undef := by rw [List.getD_eq_getElem?_getD, List.getElem?_append_left (by omega), ← List.getD_eq_getElem?_getD]
      have e2 : (ps ++ [p]).getD i (fun _ => false) = ps.getD i fun _ => false := by rw [List.getD_eq_getElem?_getD, List.getElem?_append_left (by omega), ← List.getD_eq_getElem?_getD]
      rw [e1, e2]
      exact (h.at_ i hi').keep M fun k hk hw => (h.o2 i k hi' hk).2 hw
  · rcases N k hk with hk | hk
    · exact h.o1 k hk
    · omega
  · by_cases e : i = ps.length
    · subst e
      have e1 : (vs ++ [u]).getD ps.length undef = u := by rw [List.getD_eq_getElem?_getD, List.getElem?_append_right (by omega), hvl]; simp
      rw [e1] at hk
      refine ⟨(hub k hk).1, fun hw => ?_⟩
      rcases N k hw with hw | hw
      · exact (hub k hk).2 hw
      · have := hu.old (k := k) hk; omega
    · have hi' : i < ps.length := by simp at hi; omega
      have e1 : (vs ++ [u]).getD i undef = vs.getD i undef := by rw [List.getD_eq_getElem?_getD, List.getElem?_append_left (by omega), ← List.getD_eq_getElem?_getD]
      rw [e1] at hk
      refine ⟨(h.o2 i k hi' hk).1, fun hw => ?_⟩
      rcases N k hw with hw | hw
      · exact (h.o2 i k hi' hk).2 hw
      · have := (h.at_ i hi').old hk; omega
theorem GrO.get1 {x : UInt64} : (fun n => bt x n) = bt x := rfl
def LSetSpec (P : Program) (k : FuncId) : Prop := ∀ (x : UInt64) (H : Hp), CallsM P k #[.int .u64 x.toNat] H fun r H' => SetM H' r (bt x) ∧ Keep (fun _ => False) H H' ∧ ∀ k, setB r k → H.size ≤ k
theorem lset_ok {P : Program} {ι : Ids} {k : FuncId} (hk : FnIs P k (c_lset ι) r_lset 1) (ho : BOfSpec P (ι.f 143)) (hw : BWithSpec P (ι.f 131)) : LSetSpec P k := by
  intro x H
  obtain ⟨R, hR⟩ : ∃ R : Value → Hp → Prop, R = fun r H' => SetM H' r (bt x) ∧ Keep (fun _ => False) H H' ∧ ∀ k, setB r k → H.size ≤ k := ⟨_, rfl⟩
  rw [← hR]
  refine calls_of_vc hk (args := [_]) (by simp) ?_
  unfold c_lset r_lset
  simp only [go_sem, List.map_cons, List.map_nil, ↓reduceIte, Nat.reduceEqDiff, Nat.reduceAdd, Nat.reduceMul, reduceCtorEq, and_true, true_and, Nat.mul_one, Nat.zero_add, Bool.false_eq_true, decide_true, decide_false, not_false_eq_true, fillV_nil, fillV_cons, okFill_nil, okFill_cons, cells_slice, cells_int, cells_bool, cells_str, cells_ptr, cells_agg, stNH_ptr, okN_ptr, wrA1, wrA20, wrA21]
  refine kont_new fun H1 b2 e1 z1 B1 K1 => ?_
  have s1 := K1.size
  simp only [go_sem, List.map_cons, List.map_nil, ↓reduceIte, Nat.reduceEqDiff, Nat.reduceAdd, Nat.reduceMul, reduceCtorEq, and_true, true_and, Nat.mul_one, Nat.zero_add, Bool.false_eq_true, decide_true, decide_false, not_false_eq_true, kont_eq]
  refine (ho [] _ H1 (SlR.nil _ _ _) (by simp)).mono ?_
  rintro r H2 ⟨hS2, K2, n2⟩
  obtain ⟨u, W, rfl, hu⟩ := id hS2
  have s2 := K2.size
  rw [kont_eq]
  simp only [go_sem, List.map_cons, List.map_nil, ↓reduceIte, Nat.reduceEqDiff, Nat.reduceAdd, Nat.reduceMul, reduceCtorEq, and_true, true_and, Nat.mul_one, Nat.zero_add, Bool.false_eq_true, decide_true, decide_false, not_false_eq_true, fillV_nil, fillV_cons, okFill_nil, okFill_cons, cells_slice, cells_int, cells_bool, cells_str, cells_ptr, cells_agg, stNH_ptr, okN_ptr, wrA1, wrA20, wrA21]
  refine kont_new fun H3 b3 e3 z3 B3 K3 => ?_
  have s3 := K3.size
  have hokN := B3.okNA (o := 0) (n := 1) (by simp)
  have B4 := B3.stNA 0 [u]
  have B4 : Bl (stNA H3 ⟨b3, 0, none⟩ [u]) b3 [u] := by simpa [wrL] using B4
  have K4 : Keep (fun k => k = b3) H3 (stNA H3 ⟨b3, 0, none⟩ [u]) := (Keep.refl _ _).stNA _ (.inl rfl)
  have hone : all1 #[u] := hu.sl.one
  have hu4 := (hS2.keep0 K3).keep K4 (fun k hk e => by have := hS2.old hk; omega)
  have hub : ∀ k, slB u k → H1.size ≤ k ∧ k ≠ b3 := fun k hk => ⟨n2 k hk, fun e => by have := hS2.old (k := k) hk; omega⟩
  have B14 := K4.bl (K3.bl (K2.bl B1 (by simp)) (by simp)) (by have := B1.lt; omega)
  have K04 : Keep (fun _ => False) H (stNA H3 ⟨b3, 0, none⟩ [u]) := ((K1.trans K2).trans K3).to_old K4 (by omega)
  simp only [go_sem, List.map_cons, List.map_nil, ↓reduceIte, Nat.reduceEqDiff, Nat.reduceAdd, Nat.reduceMul, reduceCtorEq, and_true, true_and, Nat.mul_one, Nat.zero_add, Bool.false_eq_true, decide_true, decide_false, not_false_eq_true, kont_eq, fillV_nil, fillV_cons, okFill_nil, okFill_cons, cells_slice, cells_int, cells_bool, cells_str, cells_ptr, cells_agg, stNH_ptr, okN_ptr, wrA1, wrA20, wrA21, hokN, hone]
  generalize stNA H3 ⟨b3, 0, none⟩ [u] = H4 at B4 K4 hu4 B14 K04 ⊢
  refine vc_mono ?_ ?_ (Q := fun e f H' => e = .x 0 ∧ f 2 = .pointer (some ⟨b2, 0, none⟩) ∧ f 3 = .pointer (some ⟨b3, 0, none⟩) ∧ ∃ (u y : Value), Bl H' b3 [u] ∧ Bl H' b2 [y] ∧ SetM H' (.agg #[u]) (bt x) ∧ (∀ k, slB u k → H1.size ≤ k) ∧ Keep (fun _ => False) H H')
  · rintro e f H5 ⟨rfl, hf2, hf3, u, y, B5, B25, hu5, hub, K5⟩
    have e3 := B5.ldNO 1 rfl
    simp only [go_sem, List.map_cons, List.map_nil, ↓reduceIte, Nat.reduceEqDiff, Nat.reduceAdd, Nat.reduceMul, reduceCtorEq, and_true, true_and, Nat.mul_one, Nat.zero_add, Bool.false_eq_true, decide_true, decide_false, not_false_eq_true, kont_eq, fillV_nil, fillV_cons, okFill_nil, okFill_cons, cells_slice, cells_int, cells_bool, cells_str, cells_ptr, cells_agg, stNH_ptr, okN_ptr, wrA1, wrA20, wrA21, hf2, hf3, e3]
    refine ret1 B25 ?_ fun H6 z6 K6 => ?_
    · obtain ⟨_, _, e, h⟩ := hu5; cases e; exact h.sl.one
    · have hb2 : b2 < H1.size := B1.lt
      rw [hR]
      exact ⟨hu5.keep K6 (fun k hk e => by have := hub k hk; omega), K5.to_old K6 (by omega), fun k hk => by have := hub k hk; omega⟩
  · refine vc_loop [7, 4, 13, 6] rfl (fun n f H' => ∃ (i : Nat) (u y : Value), i ≤ 64 ∧ n = 64 - i ∧ f 6 = .int .i64 i ∧ Bl H' b3 [u] ∧ Bl H' b2 [y] ∧ SetM H' (.agg #[u]) (fun n => bt x n && decide (n < i)) ∧ (∀ k, slB u k → H1.size ≤ k ∧ k ≠ b3) ∧ Keep (fun _ => False) H H') 64
      ⟨0, u, _, by omega, by omega, by simp only [go_sem, List.map_cons, List.map_nil, ↓reduceIte, Nat.reduceEqDiff, Nat.reduceAdd, Nat.reduceMul, reduceCtorEq, and_true, true_and, Nat.mul_one, Nat.zero_add, Bool.false_eq_true, decide_true, decide_false, not_false_eq_true, kont_eq]; rfl, B4, B14, hu4.congr (fun n => by simp [ofP]), hub, K04⟩ ?_
    rintro n f H5 ⟨i, u, y, hi, rfl, hf, B5, B25, hu5, hub, K5⟩
    simp only [go_sem, List.map_cons, List.map_nil, ↓reduceIte, Nat.reduceEqDiff, Nat.reduceAdd, Nat.reduceMul, reduceCtorEq, and_true, true_and, Nat.mul_one, Nat.zero_add, Bool.false_eq_true, decide_true, decide_false, not_false_eq_true, kont_eq] at hf
    simp only [go_sem, List.map_cons, List.map_nil, ↓reduceIte, Nat.reduceEqDiff, Nat.reduceAdd, Nat.reduceMul, reduceCtorEq, and_true, true_and, Nat.mul_one, Nat.zero_add, Bool.false_eq_true, decide_true, decide_false, not_false_eq_true, hf]
    have e64 : ((64 : Int)) = ((64 : Nat) : Int) := rfl
    rw [e64]
    refine iteV_dec (fun hlt => ?_) (fun hge => ?_)
    · have hlt : i < 64 := by omega
      have e := and1 x i
      have e3 := B5.ldNO 1 rfl
      cases hb : bt x i with
      | true =>
        rw [hb] at e
        have e1 : ((1 : Int) == 1) = true := rfl
        simp only [go_sem, List.map_cons, List.map_nil, ↓reduceIte, Nat.reduceEqDiff, Nat.reduceAdd, Nat.reduceMul, reduceCtorEq, and_true, true_and, Nat.mul_one, Nat.zero_add, Bool.false_eq_true, decide_true, decide_false, not_false_eq_true, kont_eq, fillV_nil, fillV_cons, okFill_nil, okFill_cons, cells_slice, cells_int, cells_bool, cells_str, cells_ptr, cells_agg, stNH_ptr, okN_ptr, wrA1, wrA20, wrA21, hf, tn_cast, e, e3, e1]
        refine ⟨by omega, ?_⟩
        refine (hw _ _ (i : Int) H5 hu5).mono ?_
        rintro r H6 ⟨hS6, K6, n6⟩
        obtain ⟨u6, W6, rfl, hu6⟩ := id hS6
        have s6 := K6.size
        have s5 := K5.size
        have B6 := K6.bl B5 (by simp)
        have B26 := K6.bl B25 (by simp)
        have hb35 := B5.lt
        have hb25 := B25.lt
        have hub6 : ∀ k, slB u6 k → H1.size ≤ k ∧ k ≠ b3 := fun k hk => by
          rcases n6 k hk with h | h
          · exact hub k h
          · exact ⟨by have := B1.lt; omega, by omega⟩
        have hokN := B6.okNA (o := 0) (n := 1) (by simp)
        have B7 := B6.stNA 0 [u6]
        have B7 : Bl (stNA H6 ⟨b3, 0, none⟩ [u6]) b3 [u6] := by simpa [wrL] using B7
        have K7 : Keep (fun k => k = b3) H6 (stNA H6 ⟨b3, 0, none⟩ [u6]) := (Keep.refl _ _).stNA _ (.inl rfl)
        have hone : all1 #[u6] := hu6.sl.one
        have hu7 := hS6.keep K7 (fun k hk e => (hub6 k hk).2 e)
        have B27 := K7.bl B26 (by have := B1.lt; omega)
        simp (disch := omega) only [go_sem, List.map_cons, List.map_nil, ↓reduceIte, Nat.reduceEqDiff, Nat.reduceAdd, Nat.reduceMul, reduceCtorEq, and_true, true_and, Nat.mul_one, Nat.zero_add, Bool.false_eq_true, decide_true, decide_false, not_false_eq_true, kont_eq, fillV_nil, fillV_cons, okFill_nil, okFill_cons, cells_slice, cells_int, cells_bool, cells_str, cells_ptr, cells_agg, stNH_ptr, okN_ptr, wrA1, wrA20, wrA21, hf, hokN, hone, IntWalk.i64_in]
        refine ⟨64 - (i + 1), by omega, i + 1, u6, y, by omega, rfl, by simp, B7, B27, hu7.congr (fun n => ?_), hub6, (K5.trans K6).to_old K7 (by omega)⟩
        unfold withP
        by_cases e1 : n = i
        · subst e1; rw [hb]; simp; omega
        · have : ¬ ((n : Int) = (i : Int)) := by omega
          have e2 : decide (n < i + 1) = decide (n < i) := decide_eq_decide.2 (by omega)
          simp [this, e2]
      | false =>
        rw [hb] at e
        have e1 : ((0 : Int) == 1) = false := rfl
        simp (disch := omega) only [go_sem, List.map_cons, List.map_nil, ↓reduceIte, Nat.reduceEqDiff, Nat.reduceAdd, Nat.reduceMul, reduceCtorEq, and_true, true_and, Nat.mul_one, Nat.zero_add, Bool.false_eq_true, decide_true, decide_false, not_false_eq_true, kont_eq, hf, tn_cast, e, e1, IntWalk.i64_in]
        refine ⟨by omega, 64 - (i + 1), by omega, i + 1, u, y, by omega, rfl, by simp, B5, B25, hu5.congr (fun n => ?_), hub, K5⟩
        by_cases e1 : n = i
        · subst e1; rw [hb]; rfl
        · have e2 : decide (n < i + 1) = decide (n < i) := decide_eq_decide.2 (by omega)
          rw [e2]
    · have hil : i = 64 := by omega
      subst hil
      refine ⟨u, y, B5, B25, hu5.congr (fun n => ?_), fun k hk => (hub k hk).1, K5⟩
      cases hb : bt x n with
      | false => rfl
      | true => simp [bt_lt hb]
def LGraphSpec (P : Program) (k : FuncId) : Prop := ∀ (X : List UInt64) (v : Value) (H : Hp), SlR H v (w64 X) → X.length ≤ 1000 → CallsM P k #[v] H fun r H' => ∃ vs, GrO H' r (X.map bt) H.size vs ∧ Keep (fun _ => False) H H'
theorem lgraph_ok {P : Program} {ι : Ids} {k : FuncId} (hk : FnIs P k (c_lgraph ι) r_lgraph 1) (hs : LSetSpec P (ι.f 166)) : LGraphSpec P k := by
  intro X v H hv hX
  obtain ⟨R, hR⟩ : ∃ R : Value → Hp → Prop, R = fun r H' => ∃ vs, GrO H' r (X.map bt) H.size vs ∧ Keep (fun _ => False) H H' := ⟨_, rfl⟩
  rw [← hR]
  refine calls_of_vc hk (args := [_]) (by simp) ?_
  unfold c_lgraph r_lgraph
  simp only [go_sem, List.map_cons, List.map_nil, ↓reduceIte, Nat.reduceEqDiff, Nat.reduceAdd, Nat.reduceMul, reduceCtorEq, and_true, true_and, Nat.mul_one, Nat.zero_add, Bool.false_eq_true, decide_true, decide_false, not_false_eq_true, kont_eq, hv.isSl, hv.len, w64_len]
  refine vc_loop [9, 5, 3, 8] rfl (fun n f H' => ∃ (i : Nat) (gv : Value) (vs : List Value), i ≤ X.length ∧ n = X.length - i ∧ f 8 = .int .i64 i ∧ f 3 = gv ∧ GrO H' gv ((X.take i).map bt) H.size vs ∧ Keep (fun _ => False) H H') X.length
    ⟨0, .slice none 0 0, [], by omega, by omega, by simp only [go_sem, List.map_cons, List.map_nil, ↓reduceIte, Nat.reduceEqDiff, Nat.reduceAdd, Nat.reduceMul, reduceCtorEq, and_true, true_and, Nat.mul_one, Nat.zero_add, Bool.false_eq_true, decide_true, decide_false, not_false_eq_true, kont_eq]; rfl, by simp only [go_sem, List.map_cons, List.map_nil, ↓reduceIte, Nat.reduceEqDiff, Nat.reduceAdd, Nat.reduceMul, reduceCtorEq, and_true, true_and, Nat.mul_one, Nat.zero_add, Bool.false_eq_true, decide_true, decide_false, not_false_eq_true, kont_eq], GrO.nil _ _, Keep.refl _ _⟩ ?_
  rintro n f H2 ⟨i, gv, vs, hi, rfl, hf, hf3, hG, K2⟩
  simp only [go_sem, List.map_cons, List.map_nil, ↓reduceIte, Nat.reduceEqDiff, Nat.reduceAdd, Nat.reduceMul, reduceCtorEq, and_true, true_and, Nat.mul_one, Nat.zero_add, Bool.false_eq_true, decide_true, decide_false, not_false_eq_true, kont_eq] at hf hf3
  simp only [go_sem, List.map_cons, List.map_nil, ↓reduceIte, Nat.reduceEqDiff, Nat.reduceAdd, Nat.reduceMul, reduceCtorEq, and_true, true_and, Nat.mul_one, Nat.zero_add, Bool.false_eq_true, decide_true, decide_false, not_false_eq_true, hf]
  refine iteV_dec (fun hlt => ?_) (fun hge => ?_)
  · have hlt : i < X.length := by omega
    obtain ⟨b, o, c, rfl, -, hc⟩ := (hv.keep K2 (by simp)).cells (by intro e; have h := congrArg List.length e; rw [w64_len, List.length_nil] at h; omega)
    rw [w64_len] at hc
    have hci := hc i hlt
    rw [w64_get _ _ hlt] at hci
    simp only [go_sem, List.map_cons, List.map_nil, ↓reduceIte, Nat.reduceEqDiff, Nat.reduceAdd, Nat.reduceMul, reduceCtorEq, and_true, true_and, Nat.mul_one, Nat.zero_add, Bool.false_eq_true, decide_true, decide_false, not_false_eq_true, w64_len, tn_cast, Nat.mul_one, hci, hf3]
    refine ⟨by omega, ?_⟩
    refine (hs _ H2).mono ?_
    rintro r H3 ⟨hS3, K3, n3⟩
    obtain ⟨u, W, rfl, hu⟩ := id hS3
    have s3 := K3.size
    have s2 := K2.size
    rw [kont_eq]
    simp only [go_sem, List.map_cons, List.map_nil, ↓reduceIte, Nat.reduceEqDiff, Nat.reduceAdd, Nat.reduceMul, reduceCtorEq, and_true, true_and, Nat.mul_one, Nat.zero_add, Bool.false_eq_true, decide_true, decide_false, not_false_eq_true, fillV_nil, fillV_cons, okFill_nil, okFill_cons, cells_slice, cells_int, cells_bool, cells_str, cells_ptr, cells_agg, stNH_ptr, okN_ptr, wrA1, wrA20, wrA21]
    refine kont_news fun H4 b4 e4 z4 B4 K4 => ?_
    simp only [go_sem, List.map_cons, List.map_nil, ↓reduceIte, Nat.reduceEqDiff, Nat.reduceAdd, Nat.reduceMul, reduceCtorEq, and_true, true_and, Nat.mul_one, Nat.zero_add, Bool.false_eq_true, decide_true, decide_false, not_false_eq_true, kont_eq]
    have hd : (X.take (i + 1)).map bt = (X.take i).map bt ++ [bt (X.getD i 0)] := by
      rw [List.take_succ_eq_append_getElem hlt, List.map_append, List.getD_eq_getElem?_getD, List.getElem?_eq_getElem hlt]; rfl
    have s4 := K4.size
    refine GrO.app ((hG.keep0 K3).keep0 K4) (SlR.bl B4 0 1 1 (by omega) (by simp)) (hS3.keep0 K4) rfl (by simp; omega) (by omega) (by omega) (fun k hk => ?_) fun v' H5 O5 M5 => ?_
    · have := n3 k hk
      exact ⟨by omega, fun h => by have := hG.ow.old h; omega⟩
    · simp (disch := omega) only [go_sem, List.map_cons, List.map_nil, ↓reduceIte, Nat.reduceEqDiff, Nat.reduceAdd, Nat.reduceMul, reduceCtorEq, and_true, true_and, Nat.mul_one, Nat.zero_add, Bool.false_eq_true, decide_true, decide_false, not_false_eq_true, kont_eq, hf, IntWalk.i64_in]
      exact ⟨X.length - (i + 1), by omega, i + 1, v', _, by omega, rfl, by simp, rfl, by rw [hd]; exact O5, ((K2.trans K3).trans K4).trans' M5 (fun q hq h => by have := hG.o1 q h; omega)⟩
  · have hil : i = X.length := by omega
    subst hil
    obtain ⟨ga, gn, gc, rfl⟩ := hG.ow.shape
    simp only [go_sem, List.map_cons, List.map_nil, ↓reduceIte, Nat.reduceEqDiff, Nat.reduceAdd, Nat.reduceMul, reduceCtorEq, and_true, true_and, Nat.mul_one, Nat.zero_add, Bool.false_eq_true, decide_true, decide_false, not_false_eq_true, kont_eq, hf3]
    rw [hR]
    rw [List.take_length] at hG
    exact ⟨vs, hG, K2⟩
/-! ### Small -/
def smallF (l : List UInt8) : List UInt64 := (l.take 6).map fun b => UInt64.ofNat (b.toNat &&& 63)
theorem smallF_len (l : List UInt8) : (smallF l).length ≤ 6 := by unfold smallF; simp; omega
theorem smallF_bt (l : List UInt8) : ∀ x ∈ smallF l, ∀ v, bt x v = true → v < 6 := by
  intro x hx v hv
  unfold smallF at hx
  obtain ⟨b, _, rfl⟩ := List.mem_map.1 hx
  unfold bt at hv
  have h1 : b.toNat &&& 63 < 64 := Nat.lt_of_le_of_lt Nat.and_le_right (by omega)
  rw [UInt64.toNat_ofNat', Nat.mod_eq_of_lt (by omega)] at hv
  apply Decidable.byContradiction
  intro hn
  rw [Nat.testBit_lt_two_pow (Nat.lt_of_lt_of_le h1 (Nat.pow_le_pow_right (n := 2) (i := 6) (by omega) (by omega)))] at hv
  cases hv
theorem and63 (b : UInt8) : bits .and .u8 (b.toNat : Int) 63 = ((b.toNat &&& 63 : Nat) : Int) := by
  have : ∀ n : Fin 256, bits .and .u8 ((n.val : Nat) : Int) 63 = ((n.val &&& 63 : Nat) : Int) := by decide
  exact this ⟨b.toNat, b.toNat_lt⟩
def SmallSpec (P : Program) (k : FuncId) : Prop := ∀ (l : List UInt8) (v : Value) (H : Hp), SlR H v (w8 l) → CallsM P k #[v] H fun r H' => OwS H' r (w64 (smallF l)) ∧ (∀ k, ownB r k → H.size ≤ k) ∧ Keep (fun _ => False) H H'
theorem lsmall_ok {P : Program} {ι : Ids} {k : FuncId} (hk : FnIs P k (c_lsmall ι) r_lsmall 1) : SmallSpec P k := by
  intro l v H hv
  obtain ⟨R, hR⟩ : ∃ R : Value → Hp → Prop, R = fun r H' => OwS H' r (w64 (smallF l)) ∧ (∀ k, ownB r k → H.size ≤ k) ∧ Keep (fun _ => False) H H' := ⟨_, rfl⟩
  rw [← hR]
  refine calls_of_vc hk (args := [_]) (by simp) ?_
  unfold c_lsmall r_lsmall
  simp only [go_sem, List.map_cons, List.map_nil, ↓reduceIte, Nat.reduceEqDiff, Nat.reduceAdd, Nat.reduceMul, reduceCtorEq, and_true, true_and, Nat.mul_one, Nat.zero_add, Bool.false_eq_true, decide_true, decide_false, not_false_eq_true, kont_eq]
  refine vc_loop [12, 3, 4] rfl (fun n f H' => ∃ (i : Nat) (gv : Value), i ≤ l.length ∧ i ≤ 6 ∧ n = 6 - i ∧ f 4 = .int .i64 i ∧ f 3 = gv ∧ OwS H' gv (w64 (smallF (l.take i))) ∧ (∀ k, ownB gv k → H.size ≤ k) ∧ Keep (fun _ => False) H H') 6
    ⟨0, .slice none 0 0, by omega, by omega, by omega, by simp only [go_sem, List.map_cons, List.map_nil, ↓reduceIte, Nat.reduceEqDiff, Nat.reduceAdd, Nat.reduceMul, reduceCtorEq, and_true, true_and, Nat.mul_one, Nat.zero_add, Bool.false_eq_true, decide_true, decide_false, not_false_eq_true, kont_eq]; rfl, by simp only [go_sem, List.map_cons, List.map_nil, ↓reduceIte, Nat.reduceEqDiff, Nat.reduceAdd, Nat.reduceMul, reduceCtorEq, and_true, true_and, Nat.mul_one, Nat.zero_add, Bool.false_eq_true, decide_true, decide_false, not_false_eq_true, kont_eq], OwS.nil _, fun k h => h.elim, Keep.refl _ _⟩ ?_
  rintro n f H2 ⟨i, gv, hi, hi6, rfl, hf, hf3, hG, ho, K2⟩
  simp only [go_sem, List.map_cons, List.map_nil, ↓reduceIte, Nat.reduceEqDiff, Nat.reduceAdd, Nat.reduceMul, reduceCtorEq, and_true, true_and, Nat.mul_one, Nat.zero_add, Bool.false_eq_true, decide_true, decide_false, not_false_eq_true, kont_eq] at hf hf3
  have fin : ¬ (i < l.length ∧ i < 6) → smallF (l.take i) = smallF l := by
    intro h
    unfold smallF
    rw [List.take_take]
    by_cases h6 : i = 6
    · subst h6; rfl
    · have : i = l.length := by omega
      subst this
      rw [Nat.min_eq_right (by omega), List.take_of_length_le (Nat.le_refl _), List.take_of_length_le (by omega)]
  obtain ⟨ga, gn, gc, rfl⟩ := hG.shape
  by_cases hlt : i < l.length
  · have e1 : decide ((i : Int) < ((l.length : Nat) : Int)) = true := decide_eq_true (by omega)
    by_cases h6 : i < 6
    · have e2 : decide ((i : Int) < 6) = true := decide_eq_true (by omega)
      obtain ⟨b, o, c, rfl, -, hc⟩ := (hv.keep K2 (by simp)).cells (by intro e; have h := congrArg List.length e; rw [w8_len, List.length_nil] at h; omega)
      rw [w8_len] at hc
      have hci := hc i hlt
      rw [w8_get _ _ hlt] at hci
      simp only [go_sem, List.map_cons, List.map_nil, ↓reduceIte, Nat.reduceEqDiff, Nat.reduceAdd, Nat.reduceMul, reduceCtorEq, and_true, true_and, Nat.mul_one, Nat.zero_add, Bool.false_eq_true, decide_true, decide_false, not_false_eq_true, hf, hf3, w8_len, e1, e2, tn_cast, Nat.mul_one, hci]
      have ea : IntKind.u64.wrap (bits .and .u8 ((l.getD i 0).toNat : Int) 63) = ((UInt64.ofNat ((l.getD i 0).toNat &&& 63)).toNat : Int) := by
        have h1 : (l.getD i 0).toNat &&& 63 < 64 := Nat.lt_of_le_of_lt Nat.and_le_right (by omega)
        rw [and63, UInt64.toNat_ofNat', Nat.mod_eq_of_lt (by omega)]
        exact u64_in _ (by omega)
      rw [ea]
      refine ⟨by omega, ?_⟩
      refine kont_news fun H3 b3 e3 z3 B3 K3 => ?_
      have s3 := K3.size
      have s2 := K2.size
      simp only [go_sem, List.map_cons, List.map_nil, ↓reduceIte, Nat.reduceEqDiff, Nat.reduceAdd, Nat.reduceMul, reduceCtorEq, and_true, true_and, Nat.mul_one, Nat.zero_add, Bool.false_eq_true, decide_true, decide_false, not_false_eq_true, kont_eq]
      have hln := smallF_len (l.take i)
      have hd : smallF (l.take (i + 1)) = smallF (l.take i) ++ [UInt64.ofNat ((l.getD i 0).toNat &&& 63)] := by
        unfold smallF
        rw [List.take_take, List.take_take, Nat.min_eq_right (by omega), Nat.min_eq_right (by omega), List.take_succ_eq_append_getElem hlt, List.map_append, List.getD_eq_getElem?_getD, List.getElem?_eq_getElem hlt]; rfl
      refine app_sl (l := w64 (smallF (l.take i))) (m := [.int .u64 ((UInt64.ofNat ((l.getD i 0).toNat &&& 63)).toNat : Int)]) (hG.keep K3 (by simp)) (SlR.bl B3 0 1 1 (by omega) (by simp)) ?_ rfl ?_ ?_ fun v' H4 O4 M4 N4 => ?_
      · intro y hy; simp at hy; subst hy; rfl
      · unfold maxLen; simp only [List.length_singleton, w64_len]; omega
      · simp only [List.length_singleton, w64_len]; omega
      · have hQe : w64 (smallF (l.take i)) ++ [.int .u64 ((UInt64.ofNat ((l.getD i 0).toNat &&& 63)).toNat : Int)] = w64 (smallF (l.take (i + 1))) := by rw [hd]; simp [w64]
        rw [hQe] at O4
        simp (disch := omega) only [go_sem, List.map_cons, List.map_nil, ↓reduceIte, Nat.reduceEqDiff, Nat.reduceAdd, Nat.reduceMul, reduceCtorEq, and_true, true_and, Nat.mul_one, Nat.zero_add, Bool.false_eq_true, decide_true, decide_false, not_false_eq_true, kont_eq, hf, IntWalk.i64_in]
        refine ⟨6 - (i + 1), by omega, i + 1, v', by omega, by omega, rfl, by simp, rfl, O4, fun k hk => ?_, (K2.trans K3).trans' M4 (fun q hq h => by have := ho q h; omega)⟩
        rcases N4 k hk with h | h
        · exact ho k h
        · omega
    · have e2 : decide ((i : Int) < 6) = false := decide_eq_false (by omega)
      simp only [go_sem, List.map_cons, List.map_nil, ↓reduceIte, Nat.reduceEqDiff, Nat.reduceAdd, Nat.reduceMul, reduceCtorEq, and_true, true_and, Nat.mul_one, Nat.zero_add, Bool.false_eq_true, decide_true, decide_false, not_false_eq_true, kont_eq, hf, hf3, hv.isSl, hv.len, w8_len, e1, e2]
      rw [hR, ← fin (by omega)]
      exact ⟨hG, ho, K2⟩
  · have e1 : decide ((i : Int) < ((l.length : Nat) : Int)) = false := decide_eq_false (by omega)
    simp only [go_sem, List.map_cons, List.map_nil, ↓reduceIte, Nat.reduceEqDiff, Nat.reduceAdd, Nat.reduceMul, reduceCtorEq, and_true, true_and, Nat.mul_one, Nat.zero_add, Bool.false_eq_true, decide_true, decide_false, not_false_eq_true, kont_eq, hf, hf3, hv.isSl, hv.len, w8_len, e1]
    rw [hR, ← fin (by omega)]
    exact ⟨hG, ho, K2⟩
end Go.Mg

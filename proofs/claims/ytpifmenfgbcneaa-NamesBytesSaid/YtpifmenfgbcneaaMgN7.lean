/- names: tables of lists, the reference's lists, and the law about them. -/
import Derived.Test.YtpifmenfgbcneaaMgN6
namespace Go.Mg
open Go Go.RowKit
set_option linter.unusedSimpArgs false
set_option linter.unusedVariables false
set_option maxRecDepth 100000
/- names.Of -/
def c_nof (ι : Ids) : S :=
  .seq (.reg [.p (.v 4) (.mv (.c (.pointer .none))), .p (.v 5) (.mv (.c (.int .i64 0)))]) (.seq (.reg [.e (.t 12) (.call (ι.f 83) []), .p (.v 6) (.mv (.t 12))]) (.seq (.seq (.reg [.p (.v 13) (.mv (.v
  0)), .p (.v 14) (.m (.lenl (.v 13))), .p (.v 15) (.mv (.c (.int .i64 0)))]) (.blk 0 (.loop (.seq (.reg [.p (.v 16) (.cm .lss .i64 (.v 15) (.v 14))]) (.seq (.ite (.v 16) .skip (.exit 0)) (.seq (.blk 1
  (.seq (.reg [.p (.t 17) (.is 1 (.v 13) (.v 15)), .p (.t 18) (.ld (.t 17)), .p (.v 8) (.mv (.t 18))]) (.seq (.reg [.p (.t 20) (.mv (.v 6)), .p (.t 21) (.mv (.v 8)), .p (.t 22) (.mv (.v 1)), .e (.t 23)
  (.call (ι.f 84) [.t 20, .t 21, .t 22]), .p (.t 19) (.mv (.t 23)), .p (.t 24) (.ext (.t 19) 0), .p (.t 25) (.ext (.t 19) 1), .p (.t 26) (.ext (.t 19) 2), .p (.v 9) (.mv (.t 24)), .p (.t 10) (.mv (.t
  25)), .p (.v 11) (.mv (.t 26))]) (.seq (.seq (.reg [.p (.t 27) (.mv (.v 11)), .p (.v 28) (.cm .neq .i64 (.t 27) (.c (.int .i64 0)))]) (.ite (.v 28) (.seq (.reg [.p (.t 29) (.mv (.v 11)), .p (.v 4)
  (.mv (.c (.pointer .none))), .p (.v 5) (.mv (.t 29))]) .ret) .skip)) (.reg [.p (.t 30) (.mv (.v 9)), .p (.v 6) (.mv (.t 30))]))))) (.reg [.p (.t 31) (.ar .add .i64 (.v 15) (.c (.int .i64 1))), .p (.v
  15) (.mv (.t 31))]))))))) (.seq (.reg [.p (.t 32) (.mv (.v 6)), .p (.v 4) (.mv (.t 32)), .p (.v 5) (.mv (.c (.int .i64 0)))]) .ret)))
def r_nof : List RV := [.t 4, .t 5]
/- arbacref08.Of -/
def c_rof (ι : Ids) : S :=
  .seq (.reg [.p (.v 4) (.mv (.c (.slice .none 0 0))), .p (.v 5) (.mv (.c (.int .i64 0)))]) (.seq (.reg [.p (.v 6) (.mv (.c (.slice .none 0 0)))]) (.seq (.seq (.reg [.p (.v 10) (.mv (.v 0)), .p (.v 11)
  (.m (.lenl (.v 10))), .p (.v 12) (.mv (.c (.int .i64 0)))]) (.blk 0 (.loop (.seq (.reg [.p (.v 13) (.cm .lss .i64 (.v 12) (.v 11))]) (.seq (.ite (.v 13) .skip (.exit 0)) (.seq (.blk 1 (.seq (.reg [.p
  (.t 14) (.is 1 (.v 10) (.v 12)), .p (.t 15) (.ld (.t 14)), .p (.v 8) (.mv (.t 15))]) (.seq (.reg [.p (.t 16) (.mv (.v 6)), .p (.t 17) (.mv (.v 8)), .p (.t 18) (.mv (.v 1)), .e (.t 19) (.call (ι.f 97)
  [.t 16, .t 17, .t 18]), .p (.v 9) (.mv (.t 19))]) (.seq (.seq (.reg [.p (.t 20) (.mv (.v 9)), .p (.v 21) (.cm .neq .i64 (.t 20) (.c (.int .i64 0)))]) (.ite (.v 21) (.seq (.reg [.p (.t 22) (.mv (.v
  9)), .p (.v 4) (.mv (.c (.slice .none 0 0))), .p (.v 5) (.mv (.t 22))]) .ret) .skip)) (.reg [.p (.t 23) (.mv (.v 6)), .p (.t 24) (.mv (.v 8)), .e (.t 25) (.bldF (ι.t 67) 1 1 [.t 24]), .e (.t 26) (.app
  false (ι.t 67) 1 16 #[.string ⟨#[]⟩] (.t 23) (.t 25)), .p (.v 6) (.mv (.t 26))]))))) (.reg [.p (.t 27) (.ar .add .i64 (.v 12) (.c (.int .i64 1))), .p (.v 12) (.mv (.t 27))]))))))) (.seq (.reg [.p (.t
  28) (.mv (.v 6)), .p (.v 4) (.mv (.t 28)), .p (.v 5) (.mv (.c (.int .i64 0)))]) .ret)))
def r_rof : List RV := [.t 4, .t 5]
/- arbaclaw08.NamesOf -/
def c_lnof (ι : Ids) : S :=
  .seq (.reg [.p (.v 4) (.mv (.c (.bool false)))]) (.seq (.seq (.reg [.e (.t 10) (.call (ι.f 91) []), .p (.v 11) (.not (.t 10))]) (.ite (.v 11) (.seq (.reg [.p (.v 4) (.mv (.c (.bool false)))]) .ret)
  .skip)) (.seq (.reg [.p (.t 12) (.mv (.v 0)), .e (.t 13) (.call (ι.f 98) [.t 12]), .p (.v 5) (.mv (.t 13))]) (.seq (.reg [.p (.t 15) (.mv (.v 5)), .p (.t 16) (.mv (.v 1)), .e (.t 17) (.call (ι.f 101)
  [.t 15, .t 16]), .p (.t 14) (.mv (.t 17)), .p (.t 18) (.ext (.t 14) 0), .p (.t 19) (.ext (.t 14) 1), .p (.v 6) (.mv (.t 18)), .p (.v 7) (.mv (.t 19))]) (.seq (.reg [.p (.t 21) (.mv (.v 5)), .p (.t 22)
  (.mv (.v 1)), .e (.t 23) (.call (ι.f 102) [.t 21, .t 22]), .p (.t 20) (.mv (.t 23)), .p (.t 24) (.ext (.t 20) 0), .p (.t 25) (.ext (.t 20) 1), .p (.v 8) (.mv (.t 24)), .p (.v 9) (.mv (.t 25))]) (.seq
  (.seq (.reg [.p (.t 26) (.mv (.v 9)), .p (.v 27) (.cm .neq .i64 (.t 26) (.c (.int .i64 0)))]) (.ite (.v 27) (.seq (.reg [.p (.t 28) (.mv (.v 6)), .p (.t 29) (.m (.eqn .ptr false (.t 28))), .p (.t 30)
  (.mv (.t 29)), .gp (.t 31) (.t 30) true (.mv (.v 7)), .gp (.t 32) (.t 30) true (.mv (.v 9)), .gp (.t 33) (.t 30) true (.cm .eql .i64 (.t 31) (.t 32)), .p (.t 34) (.pick (.t 30) (.t 33) (.c (.bool
  false))), .p (.v 4) (.mv (.t 34))]) .ret) .skip)) (.seq (.reg [.p (.t 35) (.mv (.v 7)), .p (.t 36) (.cm .eql .i64 (.t 35) (.c (.int .i64 0))), .p (.t 37) (.mv (.t 36)), .gp (.t 38) (.t 37) true (.mv
  (.v 6)), .ge (.t 39) (.t 37) true (.call (ι.f 86) [.t 38]), .gp (.t 40) (.t 37) true (.mv (.v 8)), .ge (.t 41) (.t 37) true (.call (ι.f 93) [.t 39, .t 40]), .p (.t 42) (.pick (.t 37) (.t 41) (.c
  (.bool false))), .p (.v 4) (.mv (.t 42))]) .ret))))))
def r_lnof : List RV := [.t 4]

/-- the first error of adding texts one after the other -/
def ofE (most : Int) : List (List UInt8) → List (List UInt8) → Int
  | _, [] => 0
  | d, s :: r => if addE d s most = 0 then ofE most (d ++ [s]) r else addE d s most
theorem ofE_step (w : List (List UInt8)) (most : Int) (i : Nat) (h : i < w.length) : ofE most (w.take i) (w.drop i) = if addE (w.take i) (w.getD i []) most = 0 then ofE most (w.take (i + 1)) (w.drop (i + 1)) else addE (w.take i) (w.getD i []) most := by
  have e : w.drop i = w.getD i [] :: w.drop (i + 1) := by
    rw [List.drop_eq_getElem_cons h]; simp [h]
  have e2 : w.take (i + 1) = w.take i ++ [w.getD i []] := by rw [List.take_add_one]; simp [h]
  rw [e, ofE, e2]
def WSmall (w : List (List UInt8)) : Prop := w.length ≤ 300 ∧ ∀ i, i < w.length → (w.getD i []).length ≤ 1000000
def NOfSpec (P : Program) (k : FuncId) : Prop := ∀ (w : List (List UInt8)) (v : Value) (most : Int) (H : Hp), SlR H v (sL w) → WSmall w → CallsM P k #[v, .int .i64 most] H fun r H' => Keep (fun _ => False) H H' ∧
  ((ofE most [] w ≠ 0 ∧ r = .tuple #[.pointer none, .int .i64 (ofE most [] w)]) ∨ (ofE most [] w = 0 ∧ ∃ t F, r = .tuple #[.pointer (some ⟨t, 0, none⟩), .int .i64 0] ∧ TabB F H' t w ∧ ∀ k, F k → H.size ≤ k))
theorem nof_ok {P : Program} {ι : Ids} {k : FuncId} (hk : FnIs P k (c_nof ι) r_nof 2) (hnw : NNewSpec P (ι.f 83)) (had : AddSpec P (ι.f 84)) : NOfSpec P k := by
  intro w v most H hv hsm
  refine calls_of_vc hk (args := [_, _]) (by simp) ?_
  unfold c_nof r_nof
  have hw3 := hsm.1
  simp only [go_sem, List.map_cons, List.map_nil, ↓reduceIte, Nat.reduceEqDiff, Nat.reduceAdd, Nat.reduceMul, reduceCtorEq, and_true, true_and, Nat.mul_one, Nat.zero_add, Bool.false_eq_true, decide_true, decide_false, not_false_eq_true, kont_eq]
  refine (hnw _).mono ?_
  rintro r H1 ⟨rfl, T1, K1, z1⟩
  have S1 := hv.keep K1 (by simp)
  simp only [go_sem, List.map_cons, List.map_nil, ↓reduceIte, Nat.reduceEqDiff, Nat.reduceAdd, Nat.reduceMul, reduceCtorEq, and_true, true_and, Nat.mul_one, Nat.zero_add, Bool.false_eq_true, decide_true, decide_false, not_false_eq_true, kont_eq, S1.isSl, S1.len, sL_len]
  refine vc_loop [16, 8, 9, 11, 28, 4, 5, 6, 15] rfl (fun n f H' => ∃ i F t, i ≤ w.length ∧ n = w.length - i ∧ f 15 = .int .i64 i ∧ f 6 = .pointer (some ⟨t, 0, none⟩)
      ∧ TabB F H' t (w.take i) ∧ (∀ k, F k → H.size ≤ k) ∧ Keep (fun _ => False) H H' ∧ ofE most [] w = ofE most (w.take i) (w.drop i)) w.length
    ⟨0, _, _, by omega, by omega, rfl, rfl, T1, fun k hk => by omega, K1, rfl⟩ ?_
  rintro n g H4 ⟨i, F, t, hi, rfl, hf15, hf6, T4, d4, K4, hE⟩
  simp only [go_sem, List.map_cons, List.map_nil, ↓reduceIte, Nat.reduceEqDiff, Nat.reduceAdd, Nat.reduceMul, reduceCtorEq, and_true, true_and, Nat.mul_one, Nat.zero_add, Bool.false_eq_true, decide_true, decide_false, not_false_eq_true, kont_eq] at hf15 hf6
  simp only [go_sem, List.map_cons, List.map_nil, ↓reduceIte, Nat.reduceEqDiff, Nat.reduceAdd, Nat.reduceMul, reduceCtorEq, and_true, true_and, Nat.mul_one, Nat.zero_add, Bool.false_eq_true, decide_true, decide_false, not_false_eq_true, kont_eq, hf15]
  refine iteV_dec (fun hlt => ?_) (fun hge => ?_)
  · have hi2 : i < w.length := by omega
    rw [ofE_step w most i hi2] at hE
    obtain ⟨bV, oV, cV, rfl, -, -⟩ := hv.cells (by intro e; have h := congrArg List.length e; rw [sL_len, List.length_nil] at h; omega)
    have hcell := (hv.keep K4 (by simp)).cell_at (i := i) (by rw [sL_len]; omega)
    rw [sL_get _ _ hi2] at hcell
    have hsl := hsm.2 i hi2
    have e2 : w.take (i + 1) = w.take i ++ [w.getD i []] := by rw [List.take_add_one]; simp [hi2]
    generalize w.getD i [] = s at *
    simp (disch := omega) only [go_sem, List.map_cons, List.map_nil, ↓reduceIte, Nat.reduceEqDiff, Nat.reduceAdd, Nat.reduceMul, reduceCtorEq, and_true, true_and, Nat.mul_one, Nat.zero_add, Bool.false_eq_true, decide_true, decide_false, not_false_eq_true, kont_eq, hf15, hf6, hcell, sL_len, tn_cast]
    refine And.intro (by omega) ?_
    refine (had F t _ s most _ T4 (by omega)).mono ?_
    rintro r H6 ⟨K6, h6⟩
    have K6' := K4.trans K6
    have k4 := K4.size
    rcases h6 with ⟨he, rfl⟩ | ⟨he, t', rfl, T6'⟩
    · rw [if_neg he] at hE
      have e2 : (addE (w.take i) s most != 0) = true := by simpa using he
      simp (disch := omega) only [go_sem, List.map_cons, List.map_nil, ↓reduceIte, Nat.reduceEqDiff, Nat.reduceAdd, Nat.reduceMul, reduceCtorEq, and_true, true_and, Nat.mul_one, Nat.zero_add, Bool.false_eq_true, decide_true, decide_false, not_false_eq_true, kont_eq, hf15, hf6, e2]
      exact ⟨K6', .inl ⟨by rw [hE]; exact he, by rw [hE]⟩⟩
    · rw [if_pos he] at hE
      have e1 : ((0 : Int) != 0) = false := rfl
      simp (disch := omega) only [go_sem, List.map_cons, List.map_nil, ↓reduceIte, Nat.reduceEqDiff, Nat.reduceAdd, Nat.reduceMul, reduceCtorEq, and_true, true_and, Nat.mul_one, Nat.zero_add, Bool.false_eq_true, decide_true, decide_false, not_false_eq_true, kont_eq, hf15, hf6, e1, IntWalk.i64_in]
      exact ⟨w.length - (i + 1), by omega, i + 1, _, t', by omega, rfl, by simp, rfl, by rw [e2]; exact T6', fun k hk => by omega, K6', hE⟩
  · have hi2 : i = w.length := by omega
    subst hi2
    rw [List.take_length] at T4
    rw [List.drop_length, ofE] at hE
    simp only [go_sem, List.map_cons, List.map_nil, ↓reduceIte, Nat.reduceEqDiff, Nat.reduceAdd, Nat.reduceMul, reduceCtorEq, and_true, true_and, Nat.mul_one, Nat.zero_add, Bool.false_eq_true, decide_true, decide_false, not_false_eq_true, kont_eq, hf6]
    exact ⟨K4, .inr ⟨hE, t, F, rfl, T4, d4⟩⟩
def ROfSpec (P : Program) (k : FuncId) : Prop := ∀ (w : List (List UInt8)) (v : Value) (most : Int) (H : Hp), SlR H v (sL w) → WSmall w → CallsM P k #[v, .int .i64 most] H fun r H' => Keep (fun _ => False) H H' ∧
  ((ofE most [] w ≠ 0 ∧ r = .tuple #[.slice none 0 0, .int .i64 (ofE most [] w)]) ∨ (ofE most [] w = 0 ∧ ∃ x, r = .tuple #[x, .int .i64 0] ∧ OwS H' x (sL w) ∧ ∀ k, ownB x k → H.size ≤ k))
theorem rof_ok {P : Program} {ι : Ids} {k : FuncId} (hk : FnIs P k (c_rof ι) r_rof 2) (hck : RCheckSpec P (ι.f 97)) : ROfSpec P k := by
  intro w v most H hv hsm
  refine calls_of_vc hk (args := [_, _]) (by simp) ?_
  unfold c_rof r_rof
  have hw3 := hsm.1
  simp only [go_sem, List.map_cons, List.map_nil, ↓reduceIte, Nat.reduceEqDiff, Nat.reduceAdd, Nat.reduceMul, reduceCtorEq, and_true, true_and, Nat.mul_one, Nat.zero_add, Bool.false_eq_true, decide_true, decide_false, not_false_eq_true, kont_eq, hv.isSl, hv.len, sL_len]
  refine vc_loop [13, 8, 9, 21, 4, 5, 6, 12] rfl (fun n f H' => ∃ i, i ≤ w.length ∧ n = w.length - i ∧ f 12 = .int .i64 i ∧ OwS H' (f 6) (sL (w.take i)) ∧ (∀ k, ownB (f 6) k → H.size ≤ k)
      ∧ Keep (fun _ => False) H H' ∧ ofE most [] w = ofE most (w.take i) (w.drop i)) w.length
    ⟨0, by omega, by omega, rfl, OwS.nil _, fun k hk => hk.elim, Keep.refl _ _, rfl⟩ ?_
  rintro n g H4 ⟨i, hi, rfl, hf12, O4, o4, K4, hE⟩
  simp only [go_sem, List.map_cons, List.map_nil, ↓reduceIte, Nat.reduceEqDiff, Nat.reduceAdd, Nat.reduceMul, reduceCtorEq, and_true, true_and, Nat.mul_one, Nat.zero_add, Bool.false_eq_true, decide_true, decide_false, not_false_eq_true, kont_eq] at hf12 O4 o4
  simp only [go_sem, List.map_cons, List.map_nil, ↓reduceIte, Nat.reduceEqDiff, Nat.reduceAdd, Nat.reduceMul, reduceCtorEq, and_true, true_and, Nat.mul_one, Nat.zero_add, Bool.false_eq_true, decide_true, decide_false, not_false_eq_true, kont_eq, hf12]
  refine iteV_dec (fun hlt => ?_) (fun hge => ?_)
  · have hi2 : i < w.length := by omega
    rw [ofE_step w most i hi2] at hE
    obtain ⟨bV, oV, cV, rfl, -, -⟩ := hv.cells (by intro e; have h := congrArg List.length e; rw [sL_len, List.length_nil] at h; omega)
    have hcell := (hv.keep K4 (by simp)).cell_at (i := i) (by rw [sL_len]; omega)
    rw [sL_get _ _ hi2] at hcell
    have hsl := hsm.2 i hi2
    have e2 : w.take (i + 1) = w.take i ++ [w.getD i []] := by rw [List.take_add_one]; simp [hi2]
    have hl4 : (w.take i).length = i := by simp; omega
    generalize w.getD i [] = s at *
    simp (disch := omega) only [go_sem, List.map_cons, List.map_nil, ↓reduceIte, Nat.reduceEqDiff, Nat.reduceAdd, Nat.reduceMul, reduceCtorEq, and_true, true_and, Nat.mul_one, Nat.zero_add, Bool.false_eq_true, decide_true, decide_false, not_false_eq_true, kont_eq, hf12, hcell, sL_len, tn_cast]
    refine And.intro (by omega) ?_
    refine (hck _ s most _ _ O4.sl (by omega) (by omega)).mono ?_
    rintro r H6 ⟨rfl, K6⟩
    have O6 := O4.keep K6 (by simp)
    have K6' := K4.trans K6
    have k4 := K4.size
    by_cases he : addE (w.take i) s most = 0
    · rw [if_pos he] at hE
      have e1 : ((0 : Int) != 0) = false := rfl
      simp (disch := omega) only [go_sem, List.map_cons, List.map_nil, ↓reduceIte, Nat.reduceEqDiff, Nat.reduceAdd, Nat.reduceMul, reduceCtorEq, and_true, true_and, Nat.mul_one, Nat.zero_add, Bool.false_eq_true, decide_true, decide_false, not_false_eq_true, kont_eq, hf12, e1, he]
      generalize hA : Array.push H6 _ = H7
      have KA : Keep (fun _ => False) H6 H7 := by rw [← hA]; exact (Keep.refl _ _).push _
      have BA : Bl H7 H6.size (sL [s]) := by rw [← hA]; exact Bl.new' _ _ _
      have k6 := K6'.size
      have k7 := KA.size
      refine app_slN H.size (l := sL (w.take i)) (m := sL [s]) (O6.keep KA (by simp)) o4 (by omega) (SlR.bl BA 0 1 1 (by omega) (by simp [sL])) (sL_all1 _) rfl (by omega) (by rw [sL_len, sL_len, hl4]; simp; omega) fun v8 H8 O8 o8 K8 => ?_
      rw [← sL_app, ← e2] at O8
      simp (disch := omega) only [go_sem, List.map_cons, List.map_nil, ↓reduceIte, Nat.reduceEqDiff, Nat.reduceAdd, Nat.reduceMul, reduceCtorEq, and_true, true_and, Nat.mul_one, Nat.zero_add, Bool.false_eq_true, decide_true, decide_false, not_false_eq_true, kont_eq, hf12, IntWalk.i64_in]
      exact ⟨w.length - (i + 1), by omega, i + 1, by omega, rfl, by simp, O8, o8, (K6'.trans KA).at_old K8 (Nat.le_refl _), hE⟩
    · rw [if_neg he] at hE
      have e2 : (addE (w.take i) s most != 0) = true := by simpa using he
      simp (disch := omega) only [go_sem, List.map_cons, List.map_nil, ↓reduceIte, Nat.reduceEqDiff, Nat.reduceAdd, Nat.reduceMul, reduceCtorEq, and_true, true_and, Nat.mul_one, Nat.zero_add, Bool.false_eq_true, decide_true, decide_false, not_false_eq_true, kont_eq, hf12, e2]
      exact ⟨K6', .inl ⟨by rw [hE]; exact he, by rw [hE]⟩⟩
  · have hi2 : i = w.length := by omega
    subst hi2
    rw [List.take_length] at O4
    rw [List.drop_length, ofE] at hE
    exact ⟨K4, .inr ⟨hE, _, rfl, O4, o4⟩⟩
theorem lnof_ok {P : Program} {ι : Ids} {k : FuncId} (hk : FnIs P k (c_lnof ι) r_lnof 2) (ha : NAwakeSpec P (ι.f 91)) (hw : WordsSpec P (ι.f 98)) (hof : NOfSpec P (ι.f 101)) (hro : ROfSpec P (ι.f 102))
    (hns : NNamesSpec P (ι.f 86)) (hsm : SameSpec P (ι.f 93))
    (l : List UInt8) (v : Value) (most : Int) (H : Hp) (hv : SlR H v (w8 l)) : CallsM P k #[v, .int .i64 most] H fun r H' => r = .bool true ∧ Keep (fun _ => False) H H' := by
  refine calls_of_vc hk (args := [_, _]) (by simp) ?_
  unfold c_lnof r_lnof
  simp only [go_sem, List.map_cons, List.map_nil, ↓reduceIte, Nat.reduceEqDiff, Nat.reduceAdd, Nat.reduceMul, reduceCtorEq, and_true, true_and, Nat.mul_one, Nat.zero_add, Bool.false_eq_true, decide_true, decide_false, not_false_eq_true, kont_eq]
  refine (ha _).mono ?_
  rintro r H1 ⟨rfl, K1⟩
  simp only [go_sem, List.map_cons, List.map_nil, ↓reduceIte, Nat.reduceEqDiff, Nat.reduceAdd, Nat.reduceMul, reduceCtorEq, and_true, true_and, Nat.mul_one, Nat.zero_add, Bool.false_eq_true, decide_true, decide_false, not_false_eq_true, kont_eq]
  refine (hw _ _ _ (hv.keep K1 (by simp))).mono ?_
  rintro vw H3 ⟨O3, o3, K3⟩
  have K3' := K1.trans K3
  have hwl := wordsF_len l (min l.length 24) (by omega)
  have hws := wordsF_small l (min l.length 24)
  generalize wordsF l (min l.length 24) = w at *
  have hsmall : WSmall w := ⟨by omega, fun i hi => by have := hws i hi; omega⟩
  simp only [go_sem, List.map_cons, List.map_nil, ↓reduceIte, Nat.reduceEqDiff, Nat.reduceAdd, Nat.reduceMul, reduceCtorEq, and_true, true_and, Nat.mul_one, Nat.zero_add, Bool.false_eq_true, decide_true, decide_false, not_false_eq_true, kont_eq]
  refine (hof w _ most _ O3.sl hsmall).mono ?_
  rintro r H4 ⟨K4, h4⟩
  have O4 := O3.keep K4 (by simp)
  rcases h4 with ⟨he, rfl⟩ | ⟨he, t, F, rfl, T4, d4⟩
  · simp only [go_sem, List.map_cons, List.map_nil, ↓reduceIte, Nat.reduceEqDiff, Nat.reduceAdd, Nat.reduceMul, reduceCtorEq, and_true, true_and, Nat.mul_one, Nat.zero_add, Bool.false_eq_true, decide_true, decide_false, not_false_eq_true, kont_eq]
    refine (hro w _ most _ O4.sl hsmall).mono ?_
    rintro r H5 ⟨K5, h5⟩
    rcases h5 with ⟨-, rfl⟩ | ⟨he', -⟩
    · have e2 : (ofE most [] w != 0) = true := by simpa using he
      have e3 : (ofE most [] w == ofE most [] w) = true := beq_self_eq_true _
      simp only [go_sem, List.map_cons, List.map_nil, ↓reduceIte, Nat.reduceEqDiff, Nat.reduceAdd, Nat.reduceMul, reduceCtorEq, and_true, true_and, Nat.mul_one, Nat.zero_add, Bool.false_eq_true, decide_true, decide_false, not_false_eq_true, kont_eq, e2, e3]
      exact (K3'.trans K4).trans K5
    · exact absurd he' he
  · simp only [go_sem, List.map_cons, List.map_nil, ↓reduceIte, Nat.reduceEqDiff, Nat.reduceAdd, Nat.reduceMul, reduceCtorEq, and_true, true_and, Nat.mul_one, Nat.zero_add, Bool.false_eq_true, decide_true, decide_false, not_false_eq_true, kont_eq]
    refine (hro w _ most _ O4.sl hsmall).mono ?_
    rintro r H5 ⟨K5, h5⟩
    rcases h5 with ⟨he', rfl⟩ | ⟨-, x, rfl, O5, o5⟩
    · exact absurd he he'
    · have T5 := T4.keep K5 (by simp)
      have e1 : ((0 : Int) != 0) = false := rfl
      have e3 : ((0 : Int) == 0) = true := rfl
      simp only [go_sem, List.map_cons, List.map_nil, ↓reduceIte, Nat.reduceEqDiff, Nat.reduceAdd, Nat.reduceMul, reduceCtorEq, and_true, true_and, Nat.mul_one, Nat.zero_add, Bool.false_eq_true, decide_true, decide_false, not_false_eq_true, kont_eq, e1, e3]
      refine (hns.1 _ _ _ _ T5 (by omega)).mono ?_
      rintro r H6 ⟨O6, o6, K6⟩
      simp only [go_sem, List.map_cons, List.map_nil, ↓reduceIte, Nat.reduceEqDiff, Nat.reduceAdd, Nat.reduceMul, reduceCtorEq, and_true, true_and, Nat.mul_one, Nat.zero_add, Bool.false_eq_true, decide_true, decide_false, not_false_eq_true, kont_eq]
      refine (hsm _ _ _ _ _ O6.sl (O5.keep K6 (by simp)).sl (by omega)).mono ?_
      rintro r H11 ⟨rfl, rfl⟩
      simp only [go_sem, List.map_cons, List.map_nil, ↓reduceIte, Nat.reduceEqDiff, Nat.reduceAdd, Nat.reduceMul, reduceCtorEq, and_true, true_and, Nat.mul_one, Nat.zero_add, Bool.false_eq_true, decide_true, decide_false, not_false_eq_true, kont_eq]
      exact ((K3'.trans K4).trans K5).trans K6
end Go.Mg

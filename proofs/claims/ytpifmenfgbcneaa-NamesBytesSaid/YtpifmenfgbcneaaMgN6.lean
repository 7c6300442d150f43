/- names: the laws of additions and of keywords. -/
import Derived.Test.YtpifmenfgbcneaaMgN5
namespace Go.Mg
open Go Go.RowKit
set_option linter.unusedSimpArgs false
set_option linter.unusedVariables false
set_option maxRecDepth 100000
/- arbaclaw08.NamesAdds -/
def c_lnadds (ι : Ids) : S :=
  .seq (.reg [.p (.v 4) (.mv (.c (.bool false)))]) (.seq (.seq (.reg [.e (.t 13) (.call (ι.f 91) []), .p (.v 14) (.not (.t 13))]) (.ite (.v 14) (.seq (.reg [.p (.v 4) (.mv (.c (.bool false)))]) .ret)
  .skip)) (.seq (.reg [.e (.t 15) (.call (ι.f 83) []), .p (.v 5) (.mv (.t 15))]) (.seq (.reg [.p (.v 6) (.mv (.c (.slice .none 0 0)))]) (.seq (.seq (.reg [.p (.t 16) (.mv (.v 0)), .e (.v 17) (.call (ι.f
  98) [.t 16]), .p (.v 18) (.m (.lenl (.v 17))), .p (.v 19) (.mv (.c (.int .i64 0)))]) (.blk 0 (.loop (.seq (.reg [.p (.v 20) (.cm .lss .i64 (.v 19) (.v 18))]) (.seq (.ite (.v 20) .skip (.exit 0)) (.seq
  (.blk 1 (.seq (.reg [.p (.t 21) (.is 1 (.v 17) (.v 19)), .p (.t 22) (.ld (.t 21)), .p (.v 8) (.mv (.t 22))]) (.seq (.reg [.p (.t 23) (.mv (.v 6)), .p (.t 24) (.mv (.v 8)), .p (.t 25) (.mv (.v 1)), .e
  (.t 26) (.call (ι.f 97) [.t 23, .t 24, .t 25]), .p (.v 9) (.mv (.t 26))]) (.seq (.reg [.p (.t 28) (.mv (.v 5)), .p (.t 29) (.mv (.v 8)), .p (.t 30) (.mv (.v 1)), .e (.t 31) (.call (ι.f 84) [.t 28, .t
  29, .t 30]), .p (.t 27) (.mv (.t 31)), .p (.t 32) (.ext (.t 27) 0), .p (.t 33) (.ext (.t 27) 1), .p (.t 34) (.ext (.t 27) 2), .p (.v 10) (.mv (.t 32)), .p (.v 11) (.mv (.t 33)), .p (.v 12) (.mv (.t
  34))]) (.seq (.seq (.reg [.p (.t 35) (.mv (.v 12)), .p (.t 36) (.mv (.v 9)), .p (.v 37) (.cm .neq .i64 (.t 35) (.t 36))]) (.ite (.v 37) (.seq (.reg [.p (.v 4) (.mv (.c (.bool false)))]) .ret) .skip))
  (.seq (.seq (.reg [.p (.t 38) (.mv (.v 9)), .p (.v 39) (.cm .neq .i64 (.t 38) (.c (.int .i64 0)))]) (.ite (.v 39) (.seq (.seq (.reg [.p (.t 40) (.mv (.v 10)), .p (.t 41) (.m (.eqn .ptr true (.t 40))),
  .p (.t 42) (.mv (.t 41)), .gp (.t 43) (.t 42) false (.mv (.v 11)), .gp (.t 44) (.t 42) false (.cm .neq .i64 (.t 43) (.c (.int .i64 0))), .p (.v 45) (.pick (.t 42) (.c (.bool true)) (.t 44))]) (.ite
  (.v 45) (.seq (.reg [.p (.v 4) (.mv (.c (.bool false)))]) .ret) .skip)) (.exit 1)) .skip)) (.seq (.reg [.p (.t 46) (.mv (.v 6)), .p (.t 47) (.mv (.v 8)), .e (.t 48) (.bldF (ι.t 67) 1 1 [.t 47]), .e
  (.t 49) (.app false (ι.t 67) 1 16 #[.string ⟨#[]⟩] (.t 46) (.t 48)), .p (.v 6) (.mv (.t 49))]) (.seq (.reg [.p (.t 50) (.mv (.v 10)), .p (.v 5) (.mv (.t 50))]) (.seq (.reg [.p (.t 51) (.mv (.v 11)),
  .p (.t 52) (.mv (.v 6)), .p (.t 53) (.m (.lenl (.t 52))), .p (.t 54) (.cm .neq .i64 (.t 51) (.t 53)), .p (.t 55) (.mv (.t 54)), .gp (.t 56) (.t 55) false (.mv (.v 5)), .ge (.t 57) (.t 55) false (.call
  (ι.f 85) [.t 56]), .gp (.t 58) (.t 55) false (.mv (.v 11)), .gp (.t 59) (.t 55) false (.cm .neq .i64 (.t 57) (.t 58)), .p (.t 60) (.pick (.t 55) (.c (.bool true)) (.t 59)), .p (.t 61) (.mv (.t 60)),
  .gp (.t 62) (.t 61) false (.mv (.v 5)), .ge (.t 63) (.t 61) false (.call (ι.f 86) [.t 62]), .gp (.t 64) (.t 61) false (.mv (.v 6)), .ge (.t 65) (.t 61) false (.call (ι.f 93) [.t 63, .t 64]), .gp (.t
  66) (.t 61) false (.not (.t 65)), .p (.v 67) (.pick (.t 61) (.c (.bool true)) (.t 66))]) (.ite (.v 67) (.seq (.reg [.p (.v 4) (.mv (.c (.bool false)))]) .ret) .skip)))))))))) (.reg [.p (.t 68) (.ar
  .add .i64 (.v 19) (.c (.int .i64 1))), .p (.v 19) (.mv (.t 68))]))))))) (.seq (.reg [.p (.t 69) (.mv (.v 5)), .e (.t 70) (.call (ι.f 85) [.t 69]), .p (.t 71) (.mv (.v 6)), .p (.t 72) (.m (.lenl (.t
  71))), .p (.t 73) (.cm .eql .i64 (.t 70) (.t 72)), .p (.v 4) (.mv (.t 73))]) .ret)))))
def r_lnadds : List RV := [.t 4]

theorem lnadds_ok {P : Program} {ι : Ids} {k : FuncId} (hk : FnIs P k (c_lnadds ι) r_lnadds 2) (ha : NAwakeSpec P (ι.f 91)) (hnw : NNewSpec P (ι.f 83)) (hw : WordsSpec P (ι.f 98)) (hck : RCheckSpec P (ι.f 97)) (had : AddSpec P (ι.f 84))
    (hle : NLenSpec P (ι.f 85)) (hns : NNamesSpec P (ι.f 86)) (hsm : SameSpec P (ι.f 93))
    (l : List UInt8) (v : Value) (most : Int) (H : Hp) (hv : SlR H v (w8 l)) : CallsM P k #[v, .int .i64 most] H fun r H' => r = .bool true ∧ Keep (fun _ => False) H H' := by
  refine calls_of_vc hk (args := [_, _]) (by simp) ?_
  unfold c_lnadds r_lnadds
  simp only [go_sem, List.map_cons, List.map_nil, ↓reduceIte, Nat.reduceEqDiff, Nat.reduceAdd, Nat.reduceMul, reduceCtorEq, and_true, true_and, Nat.mul_one, Nat.zero_add, Bool.false_eq_true, decide_true, decide_false, not_false_eq_true, kont_eq]
  refine (ha _).mono ?_
  rintro r H1 ⟨rfl, K1⟩
  simp only [go_sem, List.map_cons, List.map_nil, ↓reduceIte, Nat.reduceEqDiff, Nat.reduceAdd, Nat.reduceMul, reduceCtorEq, and_true, true_and, Nat.mul_one, Nat.zero_add, Bool.false_eq_true, decide_true, decide_false, not_false_eq_true, kont_eq]
  refine (hnw _).mono ?_
  rintro r H2 ⟨rfl, T2, K2, z2⟩
  have K2' := K1.trans K2
  simp only [go_sem, List.map_cons, List.map_nil, ↓reduceIte, Nat.reduceEqDiff, Nat.reduceAdd, Nat.reduceMul, reduceCtorEq, and_true, true_and, Nat.mul_one, Nat.zero_add, Bool.false_eq_true, decide_true, decide_false, not_false_eq_true, kont_eq]
  refine (hw _ _ _ (hv.keep K2' (by simp))).mono ?_
  rintro vw H3 ⟨O3, o3, K3⟩
  have T3 := T2.keep K3 (by simp)
  have K3' := K2'.trans K3
  have hwl := wordsF_len l (min l.length 24) (by omega)
  have hws := wordsF_small l (min l.length 24)
  generalize wordsF l (min l.length 24) = w at *
  have S3 := O3.sl
  simp only [go_sem, List.map_cons, List.map_nil, ↓reduceIte, Nat.reduceEqDiff, Nat.reduceAdd, Nat.reduceMul, reduceCtorEq, and_true, true_and, Nat.mul_one, Nat.zero_add, Bool.false_eq_true, decide_true, decide_false, not_false_eq_true, kont_eq, S3.isSl, S3.len, sL_len]
  have hw24 : w.length ≤ 24 := by omega
  refine vc_loop [20, 8, 9, 10, 11, 12, 37, 4, 39, 45, 6, 5, 67, 19] rfl (fun n f H' => ∃ i told F t, i ≤ w.length ∧ n = w.length - i ∧ f 19 = .int .i64 i ∧ f 5 = .pointer (some ⟨t, 0, none⟩) ∧ OwS H' (f 6) (sL told) ∧ (∀ k, ownB (f 6) k → H3.size ≤ k)
      ∧ TabB F H' t told ∧ (∀ k, F k → ¬ ownB (f 6) k) ∧ told.length ≤ i ∧ Keep (fun _ => False) H3 H') w.length
    ⟨0, [], _, _, by omega, by omega, rfl, rfl, OwS.nil _, fun k h => h.elim, T3, fun k _ h => h.elim, by simp, Keep.refl _ _⟩ ?_
  rintro n g H4 ⟨i, told, F, t, hi, rfl, hf19, hf5, O4, o4, T4, d4, ht, K4⟩
  simp only [go_sem, List.map_cons, List.map_nil, ↓reduceIte, Nat.reduceEqDiff, Nat.reduceAdd, Nat.reduceMul, reduceCtorEq, and_true, true_and, Nat.mul_one, Nat.zero_add, Bool.false_eq_true, decide_true, decide_false, not_false_eq_true, kont_eq] at hf19 hf5 O4 o4 d4
  simp only [go_sem, List.map_cons, List.map_nil, ↓reduceIte, Nat.reduceEqDiff, Nat.reduceAdd, Nat.reduceMul, reduceCtorEq, and_true, true_and, Nat.mul_one, Nat.zero_add, Bool.false_eq_true, decide_true, decide_false, not_false_eq_true, kont_eq, hf19]
  refine iteV_dec (fun hlt => ?_) (fun hge => ?_)
  · have hi2 : i < w.length := by omega
    obtain ⟨bV, oV, cV, rfl, -, -⟩ := S3.cells (by intro e; have h := congrArg List.length e; rw [sL_len, List.length_nil] at h; omega)
    have hcell := (S3.keep K4 (by simp)).cell_at (i := i) (by rw [sL_len]; omega)
    rw [sL_get _ _ hi2] at hcell
    have hsl := hws i hi2
    generalize w.getD i [] = s at *
    simp (disch := omega) only [go_sem, List.map_cons, List.map_nil, ↓reduceIte, Nat.reduceEqDiff, Nat.reduceAdd, Nat.reduceMul, reduceCtorEq, and_true, true_and, Nat.mul_one, Nat.zero_add, Bool.false_eq_true, decide_true, decide_false, not_false_eq_true, kont_eq, hf19, hf5, hcell, sL_len, tn_cast]
    refine And.intro (by omega) ?_
    refine (hck told s most _ _ O4.sl (by omega) (by omega)).mono ?_
    rintro r H5 ⟨rfl, K5⟩
    simp only [go_sem, List.map_cons, List.map_nil, ↓reduceIte, Nat.reduceEqDiff, Nat.reduceAdd, Nat.reduceMul, reduceCtorEq, and_true, true_and, Nat.mul_one, Nat.zero_add, Bool.false_eq_true, decide_true, decide_false, not_false_eq_true, kont_eq, hf5]
    refine (had F t told s most _ (T4.keep K5 (by simp)) (by omega)).mono ?_
    rintro r H6 ⟨K6, h6⟩
    have O6 := (O4.keep K5 (by simp)).keep K6 (by simp)
    have T6 := (T4.keep K5 (by simp)).keep K6 (by simp)
    have K6' := (K4.trans K5).trans K6
    rcases h6 with ⟨he, rfl⟩ | ⟨he, t', rfl, T6'⟩
    · have e1 : (addE told s most != addE told s most) = false := bne_self_eq_false _
      have e2 : (addE told s most != 0) = true := by simpa using he
      have e3 : ((0 : Int) != 0) = false := rfl
      simp (disch := omega) only [go_sem, List.map_cons, List.map_nil, ↓reduceIte, Nat.reduceEqDiff, Nat.reduceAdd, Nat.reduceMul, reduceCtorEq, and_true, true_and, Nat.mul_one, Nat.zero_add, Bool.false_eq_true, decide_true, decide_false, not_false_eq_true, kont_eq, hf19, hf5, e1, e2, e3, IntWalk.i64_in]
      exact ⟨w.length - (i + 1), by omega, i + 1, told, F, t, by omega, rfl, by simp, rfl, O6, o4, T6, d4, by omega, K6'⟩
    · have e1 : ((0 : Int) != 0) = false := rfl
      have F6 := T6'.bound
      simp (disch := omega) only [go_sem, List.map_cons, List.map_nil, ↓reduceIte, Nat.reduceEqDiff, Nat.reduceAdd, Nat.reduceMul, reduceCtorEq, and_true, true_and, Nat.mul_one, Nat.zero_add, Bool.false_eq_true, decide_true, decide_false, not_false_eq_true, kont_eq, hf19, hf5, he, e1]
      generalize hA : Array.push H6 _ = H7
      have KA : Keep (fun _ => False) H6 H7 := by rw [← hA]; exact (Keep.refl _ _).push _
      have BA : Bl H7 H6.size (sL [s]) := by rw [← hA]; exact Bl.new' _ _ _
      have k6 := K6'.size
      have O7 := O6.keep KA (by simp)
      refine app_sl (l := sL told) (m := sL [s]) O7 (SlR.bl BA 0 1 1 (by omega) (by simp [sL])) (sL_all1 _) rfl (by rw [sL_len, sL_len]; unfold maxLen; simp; omega) (by rw [sL_len, sL_len]; simp; omega) fun v8 H8 O8 K8 o8 => ?_
      rw [← sL_app] at O8
      have T8 := (T6'.keep KA (by simp)).keep K8 (fun k hk h => by have := O4.old h; have := K5.size; omega)
      have e4 : (((told.length + 1 : Nat) : Int) != ((told.length : Int) + 1)) = false := by rw [show ((told.length + 1 : Nat) : Int) = (told.length : Int) + 1 by omega]; exact bne_self_eq_false _
      have e5 : (((sL (told ++ [s])).length : Nat) : Int) = (told.length : Int) + 1 := by rw [sL_len]; simp
      have e6 : ((told ++ [s]).length : Int) = (told.length : Int) + 1 := by simp
      have e7 : (((told.length : Int) + 1) != ((told.length : Int) + 1)) = false := bne_self_eq_false _
      have e8 : (((told.length : Int) + 1) != ((told.length + 1 : Nat) : Int)) = false := by rw [show ((told.length + 1 : Nat) : Int) = (told.length : Int) + 1 by omega]; exact bne_self_eq_false _
      have hfr : H6.size < H7.size := BA.lt
      simp (disch := omega) only [go_sem, List.map_cons, List.map_nil, ↓reduceIte, Nat.reduceEqDiff, Nat.reduceAdd, Nat.reduceMul, reduceCtorEq, and_true, true_and, Nat.mul_one, Nat.zero_add, Bool.false_eq_true, decide_true, decide_false, not_false_eq_true, kont_eq, hf19, hf5, O8.sl.isSl, O8.sl.len, e4, e5, e6, e7, e8]
      refine (hle.1 _ _ _ _ T8).mono ?_
      rintro r H9 ⟨rfl, rfl⟩
      simp (disch := omega) only [go_sem, List.map_cons, List.map_nil, ↓reduceIte, Nat.reduceEqDiff, Nat.reduceAdd, Nat.reduceMul, reduceCtorEq, and_true, true_and, Nat.mul_one, Nat.zero_add, Bool.false_eq_true, decide_true, decide_false, not_false_eq_true, kont_eq, hf19, hf5, e4, e5, e6, e7, e8]
      refine (hns.1 _ _ _ _ T8 (by simp; omega)).mono ?_
      rintro r H10 ⟨O10, o10, K10⟩
      have O8' := O8.keep K10 (by simp)
      simp (disch := omega) only [go_sem, List.map_cons, List.map_nil, ↓reduceIte, Nat.reduceEqDiff, Nat.reduceAdd, Nat.reduceMul, reduceCtorEq, and_true, true_and, Nat.mul_one, Nat.zero_add, Bool.false_eq_true, decide_true, decide_false, not_false_eq_true, kont_eq, hf19, hf5, e4, e5, e6, e7, e8]
      refine (hsm _ _ _ _ _ O10.sl O8'.sl (by simp; omega)).mono ?_
      rintro r H11 ⟨rfl, rfl⟩
      simp (disch := omega) only [go_sem, List.map_cons, List.map_nil, ↓reduceIte, Nat.reduceEqDiff, Nat.reduceAdd, Nat.reduceMul, reduceCtorEq, and_true, true_and, Nat.mul_one, Nat.zero_add, Bool.false_eq_true, decide_true, decide_false, not_false_eq_true, kont_eq, hf19, hf5, decide_true, IntWalk.i64_in]
      have ob : ∀ k, ownB v8 k → H3.size ≤ k := fun k h => by
        have q1 := K4.size; have q2 := K5.size; have q3 := KA.size; have q4 := K6.size
        rcases o8 k h with h | h
        · exact o4 k h
        · omega
      refine ⟨w.length - (i + 1), by omega, i + 1, told ++ [s], _, t', by omega, rfl, by simp, rfl, O8', ob, T8.keep K10 (by simp), fun k hk h => ?_, by simp; omega, (K6'.trans KA).trans' K8 (fun j hj h => by have := o4 j h; omega) |>.trans K10⟩
      have q2 := K5.size
      rcases o8 k h with h | h
      · have := O4.old h; omega
      · omega
  · simp only [go_sem, List.map_cons, List.map_nil, ↓reduceIte, Nat.reduceEqDiff, Nat.reduceAdd, Nat.reduceMul, reduceCtorEq, and_true, true_and, Nat.mul_one, Nat.zero_add, Bool.false_eq_true, decide_true, decide_false, not_false_eq_true, kont_eq, hf5]
    refine (hle.1 _ _ _ _ T4).mono ?_
    rintro r H9 ⟨rfl, rfl⟩
    have e7 : ((told.length : Int) == (told.length : Int)) = true := beq_self_eq_true _
    simp only [go_sem, List.map_cons, List.map_nil, ↓reduceIte, Nat.reduceEqDiff, Nat.reduceAdd, Nat.reduceMul, reduceCtorEq, and_true, true_and, Nat.mul_one, Nat.zero_add, Bool.false_eq_true, decide_true, decide_false, not_false_eq_true, kont_eq, O4.sl.isSl, O4.sl.len, sL_len, e7]
    exact K3'.trans K4
end Go.Mg

/- names: every name is found. -/
import Derived.Test.YtpifmenfgbcneaaMgN7
namespace Go.Mg
open Go Go.RowKit
set_option linter.unusedSimpArgs false
set_option linter.unusedVariables false
set_option maxRecDepth 100000
/- arbaclaw08.NamesFinds -/
def c_lnfinds (ι : Ids) : S :=
  .seq (.reg [.p (.v 6) (.mv (.c (.bool false)))]) (.seq (.seq (.reg [.e (.t 25) (.call (ι.f 91) []), .p (.v 26) (.not (.t 25))]) (.ite (.v 26) (.seq (.reg [.p (.v 6) (.mv (.c (.bool false)))]) .ret)
  .skip)) (.seq (.reg [.e (.t 27) (.call (ι.f 83) []), .p (.v 7) (.mv (.t 27))]) (.seq (.reg [.p (.v 8) (.mv (.c (.slice .none 0 0)))]) (.seq (.seq (.reg [.p (.t 28) (.mv (.v 0)), .e (.v 29) (.call (ι.f
  98) [.t 28]), .p (.v 30) (.m (.lenl (.v 29))), .p (.v 31) (.mv (.c (.int .i64 0)))]) (.blk 0 (.loop (.seq (.reg [.p (.v 32) (.cm .lss .i64 (.v 31) (.v 30))]) (.seq (.ite (.v 32) .skip (.exit 0)) (.seq
  (.blk 1 (.seq (.reg [.p (.t 33) (.is 1 (.v 29) (.v 31)), .p (.t 34) (.ld (.t 33)), .p (.v 10) (.mv (.t 34))]) (.seq (.reg [.p (.t 36) (.mv (.v 7)), .p (.t 37) (.mv (.v 10)), .e (.t 38) (.call (ι.f 84)
  [.t 36, .t 37, .c (.int .i64 100)]), .p (.t 35) (.mv (.t 38)), .p (.t 39) (.ext (.t 35) 0), .p (.t 40) (.ext (.t 35) 1), .p (.t 41) (.ext (.t 35) 2), .p (.v 11) (.mv (.t 39)), .p (.t 12) (.mv (.t
  40)), .p (.v 13) (.mv (.t 41))]) (.seq (.reg [.p (.t 42) (.mv (.v 13)), .p (.v 43) (.cm .eql .i64 (.t 42) (.c (.int .i64 0)))]) (.ite (.v 43) (.reg [.p (.t 44) (.mv (.v 11)), .p (.t 45) (.mv (.v 8)),
  .p (.t 46) (.mv (.v 10)), .e (.t 47) (.bldF (ι.t 67) 1 1 [.t 46]), .e (.t 48) (.app false (ι.t 67) 1 16 #[.string ⟨#[]⟩] (.t 45) (.t 47)), .p (.v 7) (.mv (.t 44)), .p (.v 8) (.mv (.t 48))]) .skip)))))
  (.reg [.p (.t 49) (.ar .add .i64 (.v 31) (.c (.int .i64 1))), .p (.v 31) (.mv (.t 49))]))))))) (.seq (.seq (.reg [.p (.v 50) (.mv (.v 8)), .p (.v 51) (.m (.lenl (.v 50))), .p (.v 52) (.mv (.c (.int
  .i64 0)))]) (.blk 2 (.loop (.seq (.reg [.p (.v 53) (.cm .lss .i64 (.v 52) (.v 51))]) (.seq (.ite (.v 53) .skip (.exit 2)) (.seq (.blk 3 (.seq (.reg [.p (.t 54) (.mv (.v 52)), .p (.t 55) (.is 1 (.v 50)
  (.v 52)), .p (.t 56) (.ld (.t 55)), .p (.v 14) (.mv (.t 54)), .p (.v 15) (.mv (.t 56))]) (.seq (.reg [.p (.t 58) (.mv (.v 7)), .p (.t 59) (.mv (.v 15)), .e (.t 60) (.call (ι.f 87) [.t 58, .t 59]), .p
  (.t 57) (.mv (.t 60)), .p (.t 61) (.ext (.t 57) 0), .p (.t 62) (.ext (.t 57) 1), .p (.v 16) (.mv (.t 61)), .p (.v 17) (.mv (.t 62))]) (.seq (.reg [.p (.t 64) (.mv (.v 7)), .p (.t 65) (.mv (.v 14)), .p
  (.t 66) (.ar .add .i64 (.t 65) (.c (.int .i64 1))), .e (.t 67) (.call (ι.f 88) [.t 64, .t 66]), .p (.t 63) (.mv (.t 67)), .p (.t 68) (.ext (.t 63) 0), .p (.t 69) (.ext (.t 63) 1), .p (.v 18) (.mv (.t
  68)), .p (.v 19) (.mv (.t 69))]) (.seq (.reg [.p (.t 70) (.mv (.v 17)), .p (.t 71) (.not (.t 70)), .p (.t 72) (.mv (.t 71)), .gp (.t 73) (.t 72) false (.mv (.v 16)), .gp (.t 74) (.t 72) false (.mv (.v
  14)), .gp (.t 75) (.t 72) false (.ar .add .i64 (.t 74) (.c (.int .i64 1))), .gp (.t 76) (.t 72) false (.cm .neq .i64 (.t 73) (.t 75)), .p (.t 77) (.pick (.t 72) (.c (.bool true)) (.t 76)), .p (.t 78)
  (.mv (.t 77)), .gp (.t 79) (.t 78) false (.mv (.v 19)), .gp (.t 80) (.t 78) false (.not (.t 79)), .p (.t 81) (.pick (.t 78) (.c (.bool true)) (.t 80)), .p (.t 82) (.mv (.t 81)), .gp (.t 83) (.t 82)
  false (.mv (.v 18)), .gp (.t 84) (.t 82) false (.mv (.v 15)), .gp (.t 85) (.t 82) false (.sc .neq (.t 83) (.t 84)), .p (.v 86) (.pick (.t 82) (.c (.bool true)) (.t 85))]) (.ite (.v 86) (.seq (.reg [.p
  (.v 6) (.mv (.c (.bool false)))]) .ret) .skip)))))) (.reg [.p (.t 87) (.ar .add .i64 (.v 52) (.c (.int .i64 1))), .p (.v 52) (.mv (.t 87))]))))))) (.seq (.reg [.p (.t 88) (.mv (.v 2)), .p (.t 89) (.mv
  (.v 2)), .p (.t 90) (.m (.lens (.t 89))), .p (.t 91) (.m (.mn (.t 90) (.c (.int .i64 20)))), .p (.t 92) (.m (.slt (.t 88) .none (.some (.t 91)))), .p (.v 2) (.mv (.t 92))]) (.seq (.reg [.p (.t 94)
  (.mv (.v 7)), .p (.t 95) (.mv (.v 2)), .e (.t 96) (.call (ι.f 87) [.t 94, .t 95]), .p (.t 93) (.mv (.t 96)), .p (.t 97) (.ext (.t 93) 0), .p (.t 98) (.ext (.t 93) 1), .p (.v 20) (.mv (.t 97)), .p (.v
  21) (.mv (.t 98))]) (.seq (.reg [.p (.t 100) (.mv (.v 7)), .p (.t 101) (.mv (.v 1)), .e (.t 102) (.call (ι.f 88) [.t 100, .t 101]), .p (.t 99) (.mv (.t 102)), .p (.t 103) (.ext (.t 99) 0), .p (.t 104)
  (.ext (.t 99) 1), .p (.v 22) (.mv (.t 103)), .p (.v 23) (.mv (.t 104))]) (.seq (.reg [.p (.t 105) (.mv (.v 8)), .p (.t 106) (.mv (.v 2)), .e (.t 107) (.call (ι.f 96) [.t 105, .t 106]), .p (.v 24) (.mv
  (.t 107))]) (.seq (.seq (.reg [.p (.t 108) (.mv (.v 20)), .p (.t 109) (.mv (.v 24)), .p (.t 110) (.cm .neq .i64 (.t 108) (.t 109)), .p (.t 111) (.mv (.t 110)), .gp (.t 112) (.t 111) false (.mv (.v
  21)), .gp (.t 113) (.t 111) false (.mv (.v 24)), .gp (.t 114) (.t 111) false (.cm .gtr .i64 (.t 113) (.c (.int .i64 0))), .gp (.t 115) (.t 111) false (.eqb true (.t 112) (.t 114)), .p (.t 116) (.pick
  (.t 111) (.c (.bool true)) (.t 115)), .p (.t 117) (.mv (.t 116)), .gp (.t 118) (.t 117) false (.mv (.v 23)), .gp (.t 119) (.t 117) false (.mv (.v 1)), .gp (.t 120) (.t 117) false (.cm .geq .i64 (.t
  119) (.c (.int .i64 1))), .gp (.t 121) (.t 117) false (.mv (.t 120)), .gp (.t 122) (.t 121) true (.mv (.v 1)), .gp (.t 123) (.t 121) true (.mv (.v 8)), .gp (.t 124) (.t 121) true (.m (.lenl (.t
  123))), .gp (.t 125) (.t 121) true (.cm .leq .i64 (.t 122) (.t 124)), .gp (.t 126) (.t 117) false (.pick (.t 121) (.t 125) (.c (.bool false))), .gp (.t 127) (.t 117) false (.eqb true (.t 118) (.t
  126)), .p (.v 128) (.pick (.t 117) (.c (.bool true)) (.t 127))]) (.ite (.v 128) (.seq (.reg [.p (.v 6) (.mv (.c (.bool false)))]) .ret) .skip)) (.seq (.reg [.p (.t 129) (.mv (.v 23)), .p (.t 130) (.mv
  (.t 129)), .gp (.t 131) (.t 130) false (.mv (.v 22)), .gp (.t 132) (.t 130) false (.sc .eql (.t 131) (.c (.string ⟨#[]⟩))), .p (.t 133) (.pick (.t 130) (.c (.bool true)) (.t 132)), .p (.v 6) (.mv (.t
  133))]) .ret)))))))))))
def r_lnfinds : List RV := [.t 6]

/-- a list of names, each of which could be added to those before it -/
def Cl (l : List (List UInt8)) : Prop := ∀ i, i < l.length → addE (l.take i) (l.getD i []) 100 = 0
theorem Cl.nil : Cl [] := fun i h => by simp at h
theorem Cl.push {l : List (List UInt8)} {s : List UInt8} (h : Cl l) (hs : addE l s 100 = 0) : Cl (l ++ [s]) := by
  intro i hi
  by_cases e : i < l.length
  · rw [List.take_append_of_le_length (by omega), List.getD_eq_getElem?_getD, List.getElem?_append_left e, ← List.getD_eq_getElem?_getD]; exact h i e
  · have : i = l.length := by simp at hi; omega
    subst this
    rw [List.take_left]; simpa using hs
theorem addE_zero {l : List (List UInt8)} {s : List UInt8} {most : Int} (h : addE l s most = 0) : validF s = true ∧ s ∉ l ∧ (l.length : Int) < most ∧ l.length < 256 := by
  unfold addE at h
  by_cases c1 : validF s = false
  · rw [if_pos c1] at h; omega
  rw [if_neg c1] at h
  by_cases c2 : s ∈ l
  · rw [if_pos c2] at h; omega
  rw [if_neg c2] at h
  by_cases c3 : (l.length : Int) ≥ most ∨ l.length ≥ 256
  · rw [if_pos c3] at h; omega
  exact ⟨by simpa using c1, c2, by omega, by omega⟩
theorem Cl.valid {l : List (List UInt8)} (h : Cl l) {i : Nat} (hi : i < l.length) : validF (l.getD i []) = true := (addE_zero (h i hi)).1
theorem Cl.ne {l : List (List UInt8)} (h : Cl l) {i j : Nat} (hi : i < l.length) (hj : j < i) : l.getD j [] ≠ l.getD i [] := by
  intro e
  refine (addE_zero (h i hi)).2.1 ?_
  rw [← e]
  have : (l.take i)[j]'(by simp; omega) = l.getD j [] := by simp [show j < l.length by omega]
  rw [← this]; exact List.getElem_mem _
theorem Cl.pos {l : List (List UInt8)} (h : Cl l) {i : Nat} (hi : i < l.length) : posS l (l.getD i []) = some i := posS_some hi rfl fun j hj => h.ne hi hj
theorem Cl.len {l : List (List UInt8)} (h : Cl l) : l.length ≤ 100 := by
  by_cases e : l.length = 0
  · omega
  · have := addE_zero (h (l.length - 1) (by omega))
    simp at this; omega
theorem valid_len {s : List UInt8} (h : validF s = true) : s.length ≤ 12 := by
  unfold validF at h
  simp at h; omega
theorem Cl.small {l : List (List UInt8)} (h : Cl l) {i : Nat} (hi : i < l.length) : (l.getD i []).length ≤ 12 := valid_len (h.valid hi)
theorem Cl.ofE {l : List (List UInt8)} (h : Cl l) : ofE 100 [] l = 0 := by
  have : ∀ n, n ≤ l.length → Mg.ofE 100 [] l = Mg.ofE 100 (l.take n) (l.drop n) := by
    intro n
    induction n with
    | zero => intro _; rfl
    | succ n ih =>
      intro hn
      rw [ih (by omega), ofE_step l 100 n (by omega), if_pos (h n (by omega))]
  rw [this l.length (Nat.le_refl _), List.drop_length]; rfl
theorem lnfinds_ok {P : Program} {ι : Ids} {k : FuncId} (hk : FnIs P k (c_lnfinds ι) r_lnfinds 3) (ha : NAwakeSpec P (ι.f 91)) (hnw : NNewSpec P (ι.f 83)) (hw : WordsSpec P (ι.f 98)) (had : AddSpec P (ι.f 84))
    (hnu : NNumberSpec P (ι.f 87)) (hna : NNameSpec P (ι.f 88)) (hrn : RNumberSpec P (ι.f 96))
    (l : List UInt8) (v : Value) (m : Int) (s0 : List UInt8) (H : Hp) (hv : SlR H v (w8 l)) : CallsM P k #[v, .int .i64 m, sV s0] H fun r H' => r = .bool true ∧ Keep (fun _ => False) H H' := by
  refine calls_of_vc hk (args := [_, _, _]) (by simp) ?_
  unfold c_lnfinds r_lnfinds
  simp only [go_sem, List.map_cons, List.map_nil, ↓reduceIte, Nat.reduceEqDiff, Nat.reduceAdd, Nat.reduceMul, reduceCtorEq, and_true, true_and, Nat.mul_one, Nat.zero_add, Bool.false_eq_true, decide_true, decide_false, not_false_eq_true, kont_eq]
  refine (ha _).mono ?_
  rintro r H1 ⟨rfl, K1⟩
  simp only [go_sem, List.map_cons, List.map_nil, ↓reduceIte, Nat.reduceEqDiff, Nat.reduceAdd, Nat.reduceMul, reduceCtorEq, and_true, true_and, Nat.mul_one, Nat.zero_add, Bool.false_eq_true, decide_true, decide_false, not_false_eq_true, kont_eq]
  refine (hnw _).mono ?_
  rintro r H2 ⟨rfl, T2, K2, z2⟩
  have K2' := K1.trans K2
  simp only [go_sem, List.map_cons, List.map_nil, ↓reduceIte, Nat.reduceEqDiff, Nat.reduceAdd, Nat.reduceMul, reduceCtorEq, and_true, true_and, Nat.mul_one, Nat.zero_add, Bool.false_eq_true, decide_true, decide_false, not_false_eq_true, kont_eq]
  refine (hw _ _ _ (hv.keep K2' (by simp))).mono ?_
  rintro vw H3 ⟨O3, o3, K3⟩
  have T3 := T2.keep K3 (by simp)
  have K3' := K2'.trans K3
  have hwl := wordsF_len l (min l.length 24) (by omega)
  have hws := wordsF_small l (min l.length 24)
  generalize wordsF l (min l.length 24) = w at *
  have S3 := O3.sl
  simp only [go_sem, List.map_cons, List.map_nil, ↓reduceIte, Nat.reduceEqDiff, Nat.reduceAdd, Nat.reduceMul, reduceCtorEq, and_true, true_and, Nat.mul_one, Nat.zero_add, Bool.false_eq_true, decide_true, decide_false, not_false_eq_true, kont_eq, S3.isSl, S3.len, sL_len]
  have hw24 : w.length ≤ 24 := by omega
  refine vc_loop [32, 10, 11, 13, 43, 7, 8, 31] rfl (fun n f H' => ∃ i told F t, i ≤ w.length ∧ n = w.length - i ∧ f 31 = .int .i64 i ∧ f 7 = .pointer (some ⟨t, 0, none⟩) ∧ OwS H' (f 8) (sL told) ∧ (∀ k, ownB (f 8) k → H3.size ≤ k)
      ∧ TabB F H' t told ∧ (∀ k, F k → ¬ ownB (f 8) k) ∧ told.length ≤ i ∧ Cl told ∧ Keep (fun _ => False) H3 H') w.length
    ⟨0, [], _, _, by omega, by omega, rfl, rfl, OwS.nil _, fun k h => h.elim, T3, fun k _ h => h.elim, by simp, Cl.nil, Keep.refl _ _⟩ ?_
  rintro n g H4 ⟨i, told, F, t, hi, rfl, hf31, hf7, O4, o4, T4, d4, ht, hC, K4⟩
  simp only [go_sem, List.map_cons, List.map_nil, ↓reduceIte, Nat.reduceEqDiff, Nat.reduceAdd, Nat.reduceMul, reduceCtorEq, and_true, true_and, Nat.mul_one, Nat.zero_add, Bool.false_eq_true, decide_true, decide_false, not_false_eq_true, kont_eq] at hf31 hf7 O4 o4 d4
  simp only [go_sem, List.map_cons, List.map_nil, ↓reduceIte, Nat.reduceEqDiff, Nat.reduceAdd, Nat.reduceMul, reduceCtorEq, and_true, true_and, Nat.mul_one, Nat.zero_add, Bool.false_eq_true, decide_true, decide_false, not_false_eq_true, kont_eq, hf31]
  refine iteV_dec (fun hlt => ?_) (fun hge => ?_)
  · have hi2 : i < w.length := by omega
    obtain ⟨bV, oV, cV, rfl, -, -⟩ := S3.cells (by intro e; have h := congrArg List.length e; rw [sL_len, List.length_nil] at h; omega)
    have hcell := (S3.keep K4 (by simp)).cell_at (i := i) (by rw [sL_len]; omega)
    rw [sL_get _ _ hi2] at hcell
    have hsl := hws i hi2
    generalize w.getD i [] = s at *
    simp (disch := omega) only [go_sem, List.map_cons, List.map_nil, ↓reduceIte, Nat.reduceEqDiff, Nat.reduceAdd, Nat.reduceMul, reduceCtorEq, and_true, true_and, Nat.mul_one, Nat.zero_add, Bool.false_eq_true, decide_true, decide_false, not_false_eq_true, kont_eq, hf31, hf7, hcell, sL_len, tn_cast]
    refine And.intro (by omega) ?_
    refine (had F t told s 100 _ T4 (by omega)).mono ?_
    rintro r H6 ⟨K6, h6⟩
    have O6 := O4.keep K6 (by simp)
    have T6 := T4.keep K6 (by simp)
    have K6' := K4.trans K6
    rcases h6 with ⟨he, rfl⟩ | ⟨he, t', rfl, T6'⟩
    · have e2 : (addE told s 100 == 0) = false := by simpa using he
      simp (disch := omega) only [go_sem, List.map_cons, List.map_nil, ↓reduceIte, Nat.reduceEqDiff, Nat.reduceAdd, Nat.reduceMul, reduceCtorEq, and_true, true_and, Nat.mul_one, Nat.zero_add, Bool.false_eq_true, decide_true, decide_false, not_false_eq_true, kont_eq, hf31, hf7, e2, IntWalk.i64_in]
      exact ⟨w.length - (i + 1), by omega, i + 1, told, F, t, by omega, rfl, by simp, rfl, O6, o4, T6, d4, by omega, hC, K6'⟩
    · have e1 : ((0 : Int) == 0) = true := rfl
      have F6 := T6'.bound
      simp (disch := omega) only [go_sem, List.map_cons, List.map_nil, ↓reduceIte, Nat.reduceEqDiff, Nat.reduceAdd, Nat.reduceMul, reduceCtorEq, and_true, true_and, Nat.mul_one, Nat.zero_add, Bool.false_eq_true, decide_true, decide_false, not_false_eq_true, kont_eq, hf31, hf7, he, e1]
      generalize hA : Array.push H6 _ = H7
      have KA : Keep (fun _ => False) H6 H7 := by rw [← hA]; exact (Keep.refl _ _).push _
      have BA : Bl H7 H6.size (sL [s]) := by rw [← hA]; exact Bl.new' _ _ _
      have k6 := K6'.size
      have O7 := O6.keep KA (by simp)
      refine app_sl (l := sL told) (m := sL [s]) O7 (SlR.bl BA 0 1 1 (by omega) (by simp [sL])) (sL_all1 _) rfl (by rw [sL_len, sL_len]; unfold maxLen; simp; omega) (by rw [sL_len, sL_len]; simp; omega) fun v8 H8 O8 K8 o8 => ?_
      rw [← sL_app] at O8
      have T8 := (T6'.keep KA (by simp)).keep K8 (fun k hk h => by have := O4.old h; omega)
      have hfr : H6.size < H7.size := BA.lt
      simp (disch := omega) only [go_sem, List.map_cons, List.map_nil, ↓reduceIte, Nat.reduceEqDiff, Nat.reduceAdd, Nat.reduceMul, reduceCtorEq, and_true, true_and, Nat.mul_one, Nat.zero_add, Bool.false_eq_true, decide_true, decide_false, not_false_eq_true, kont_eq, hf31, hf7, IntWalk.i64_in]
      have ob : ∀ k, ownB v8 k → H3.size ≤ k := fun k h => by
        have q1 := K4.size; have q3 := KA.size; have q4 := K6.size
        rcases o8 k h with h | h
        · exact o4 k h
        · omega
      refine ⟨w.length - (i + 1), by omega, i + 1, told ++ [s], _, t', by omega, rfl, by simp, rfl, O8, ob, T8, fun k hk h => ?_, by simp; omega, hC.push he, (K6'.trans KA).trans' K8 (fun j hj h => by have := o4 j h; omega)⟩
      rcases o8 k h with h | h
      · have := O4.old h; omega
      · omega
  · have K4' := K3'.trans K4
    have hcl := hC.len
    simp only [go_sem, List.map_cons, List.map_nil, ↓reduceIte, Nat.reduceEqDiff, Nat.reduceAdd, Nat.reduceMul, reduceCtorEq, and_true, true_and, Nat.mul_one, Nat.zero_add, Bool.false_eq_true, decide_true, decide_false, not_false_eq_true, kont_eq, hf7, O4.sl.isSl, O4.sl.len, sL_len]
    refine vc_loop [53, 14, 15, 16, 17, 18, 19, 86, 6, 52] rfl (fun n f H' => ∃ j, j ≤ told.length ∧ n = told.length - j ∧ f 52 = .int .i64 j ∧ H' = H4) told.length
      ⟨0, by omega, by omega, rfl, rfl⟩ ?_
    rintro n g' H5 ⟨j, hj, rfl, hf52, rfl⟩
    simp only [go_sem, List.map_cons, List.map_nil, ↓reduceIte, Nat.reduceEqDiff, Nat.reduceAdd, Nat.reduceMul, reduceCtorEq, and_true, true_and, Nat.mul_one, Nat.zero_add, Bool.false_eq_true, decide_true, decide_false, not_false_eq_true, kont_eq] at hf52
    simp only [go_sem, List.map_cons, List.map_nil, ↓reduceIte, Nat.reduceEqDiff, Nat.reduceAdd, Nat.reduceMul, reduceCtorEq, and_true, true_and, Nat.mul_one, Nat.zero_add, Bool.false_eq_true, decide_true, decide_false, not_false_eq_true, kont_eq, hf52]
    refine iteV_dec (fun hlt => ?_) (fun hge => ?_)
    · have hj2 : j < told.length := by omega
      obtain ⟨bV, oV, cV, hg8, -, hcc⟩ := O4.sl.cells (by intro e; have h := congrArg List.length e; rw [sL_len, List.length_nil] at h; omega)
      have hcell := hcc j (by rw [sL_len]; omega)
      rw [sL_get _ _ hj2] at hcell
      have hp := hC.pos hj2
      have hme : told.getD j [] ∈ told := by simp [List.getD_eq_getElem?_getD, hj2]
      have hnR : nameR told ((j : Int) + 1) = .tuple #[sV (told.getD j []), .bool true] := by
        unfold nameR
        rw [if_pos (by omega)]
        congr; omega
      have hnS : numS told (told.getD j []) = ((j + 1 : Nat) : Int) := by unfold numS; rw [hp]
      generalize told.getD j [] = x at *
      simp (disch := omega) only [go_sem, List.map_cons, List.map_nil, ↓reduceIte, Nat.reduceEqDiff, Nat.reduceAdd, Nat.reduceMul, reduceCtorEq, and_true, true_and, Nat.mul_one, Nat.zero_add, Bool.false_eq_true, decide_true, decide_false, not_false_eq_true, kont_eq, hf52, hf7, hg8, hcell, sL_len, tn_cast]
      refine And.intro (by omega) ?_
      refine (hnu.1 _ _ _ x _ T4).mono ?_
      rintro r H5' ⟨rfl, rfl⟩
      rw [hnS, decide_eq_true hme]
      simp (disch := omega) only [go_sem, List.map_cons, List.map_nil, ↓reduceIte, Nat.reduceEqDiff, Nat.reduceAdd, Nat.reduceMul, reduceCtorEq, and_true, true_and, Nat.mul_one, Nat.zero_add, Bool.false_eq_true, decide_true, decide_false, not_false_eq_true, kont_eq, hf52, hf7, IntWalk.i64_in]
      refine (hna.1 _ _ _ _ _ T4 (by omega)).mono ?_
      rintro r H5' ⟨rfl, rfl⟩
      rw [hnR]
      have e1 : (((j + 1 : Nat) : Int) != ((j : Int) + 1)) = false := by rw [show ((j + 1 : Nat) : Int) = (j : Int) + 1 by omega]; exact bne_self_eq_false _
      have e3 : (((⟨x.toArray⟩ : ByteArray).toList == (⟨x.toArray⟩ : ByteArray).toList)) = true := beq_self_eq_true _
      simp (disch := omega) only [go_sem, List.map_cons, List.map_nil, ↓reduceIte, Nat.reduceEqDiff, Nat.reduceAdd, Nat.reduceMul, reduceCtorEq, and_true, true_and, Nat.mul_one, Nat.zero_add, Bool.false_eq_true, decide_true, decide_false, not_false_eq_true, kont_eq, beq_self_eq_true, bne_self_eq_false, Int.reduceBEq, Int.reduceBNe, Int.cast_ofNat_Int, hf52, hf7, IntWalk.i64_in, e1, e3]
      exact ⟨told.length - (j + 1), by omega, j + 1, by omega, rfl, rfl⟩
    · have hmn : (if (20 : Int) < (s0.length : Int) then (20 : Int) else (s0.length : Int)) = ((min s0.length 20 : Nat) : Int) := by split <;> omega
      simp (disch := omega) only [go_sem, List.map_cons, List.map_nil, ↓reduceIte, Nat.reduceEqDiff, Nat.reduceAdd, Nat.reduceMul, reduceCtorEq, and_true, true_and, Nat.mul_one, Nat.zero_add, Bool.false_eq_true, decide_true, decide_false, not_false_eq_true, kont_eq, beq_self_eq_true, bne_self_eq_false, Int.reduceBEq, Int.reduceBNe, Int.cast_ofNat_Int, ba_size, hmn, tn_cast, ba_take, hf7]
      refine And.intro (by omega) ?_
      generalize s0.take (min s0.length 20) = s at *
      refine (hnu.1 _ _ _ s _ T4).mono ?_
      rintro r H5' ⟨rfl, rfl⟩
      simp only [go_sem, List.map_cons, List.map_nil, ↓reduceIte, Nat.reduceEqDiff, Nat.reduceAdd, Nat.reduceMul, reduceCtorEq, and_true, true_and, Nat.mul_one, Nat.zero_add, Bool.false_eq_true, decide_true, decide_false, not_false_eq_true, kont_eq, beq_self_eq_true, bne_self_eq_false, Int.reduceBEq, Int.reduceBNe, Int.cast_ofNat_Int, hf7]
      refine (hna.1 _ _ _ _ _ T4 (by omega)).mono ?_
      rintro r H5' ⟨rfl, rfl⟩
      have e1 : (numS told s != numS told s) = false := bne_self_eq_false _
      have e2 := numS_pos told s
      unfold nameR
      by_cases hc : 1 ≤ m ∧ m ≤ (told.length : Int)
      · have c1 : m ≥ 1 := hc.1
        have c2 := hc.2
        rw [if_pos hc]
        simp only [go_sem, List.map_cons, List.map_nil, ↓reduceIte, Nat.reduceEqDiff, Nat.reduceAdd, Nat.reduceMul, reduceCtorEq, and_true, true_and, Nat.mul_one, Nat.zero_add, Bool.false_eq_true, decide_true, decide_false, not_false_eq_true, kont_eq, beq_self_eq_true, bne_self_eq_false, Int.reduceBEq, Int.reduceBNe, Int.cast_ofNat_Int, hf7]
        refine (hrn _ _ _ _ O4.sl (by omega)).mono ?_
        rintro r H5' ⟨rfl, rfl⟩
        simp only [go_sem, List.map_cons, List.map_nil, ↓reduceIte, Nat.reduceEqDiff, Nat.reduceAdd, Nat.reduceMul, reduceCtorEq, and_true, true_and, Nat.mul_one, Nat.zero_add, Bool.false_eq_true, decide_true, decide_false, not_false_eq_true, kont_eq, beq_self_eq_true, bne_self_eq_false, Int.reduceBEq, Int.reduceBNe, Int.cast_ofNat_Int, hf7, e1, e2, bne_self_eq_false, c1, c2, O4.sl.isSl, O4.sl.len, sL_len]
        exact K4'
      · rw [if_neg hc]
        simp only [go_sem, List.map_cons, List.map_nil, ↓reduceIte, Nat.reduceEqDiff, Nat.reduceAdd, Nat.reduceMul, reduceCtorEq, and_true, true_and, Nat.mul_one, Nat.zero_add, Bool.false_eq_true, decide_true, decide_false, not_false_eq_true, kont_eq, beq_self_eq_true, bne_self_eq_false, Int.reduceBEq, Int.reduceBNe, Int.cast_ofNat_Int, hf7]
        refine (hrn _ _ _ _ O4.sl (by omega)).mono ?_
        rintro r H5' ⟨rfl, rfl⟩
        have e3 : ((⟨#[]⟩ : ByteArray).toList == (⟨#[]⟩ : ByteArray).toList) = true := beq_self_eq_true _
        by_cases c1 : m ≥ 1
        · have c2 : ¬ m ≤ (told.length : Int) := by omega
          simp only [go_sem, List.map_cons, List.map_nil, ↓reduceIte, Nat.reduceEqDiff, Nat.reduceAdd, Nat.reduceMul, reduceCtorEq, and_true, true_and, Nat.mul_one, Nat.zero_add, Bool.false_eq_true, decide_true, decide_false, not_false_eq_true, kont_eq, beq_self_eq_true, bne_self_eq_false, Int.reduceBEq, Int.reduceBNe, Int.cast_ofNat_Int, hf7, e1, e2, bne_self_eq_false, c1, c2, O4.sl.isSl, O4.sl.len, sL_len, e3]
          exact K4'
        · simp only [go_sem, List.map_cons, List.map_nil, ↓reduceIte, Nat.reduceEqDiff, Nat.reduceAdd, Nat.reduceMul, reduceCtorEq, and_true, true_and, Nat.mul_one, Nat.zero_add, Bool.false_eq_true, decide_true, decide_false, not_false_eq_true, kont_eq, beq_self_eq_true, bne_self_eq_false, Int.reduceBEq, Int.reduceBNe, Int.cast_ofNat_Int, hf7, e1, e2, bne_self_eq_false, c1, O4.sl.isSl, O4.sl.len, sL_len, e3]
          exact K4'
end Go.Mg

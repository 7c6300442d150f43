/- names: the laws of reading. -/
import Derived.Test.YtpifmenfgbcneaaMgN11
namespace Go.Mg
open Go Go.RowKit
set_option linter.unusedSimpArgs false
set_option linter.unusedVariables false
set_option maxRecDepth 100000
/- arbaclaw08.NamesReads -/
def c_lnreads (ι : Ids) : S :=
  .seq (.reg [.p (.v 4) (.mv (.c (.bool false)))]) (.seq (.seq (.reg [.e (.t 12) (.call (ι.f 91) []), .p (.v 13) (.not (.t 12))]) (.ite (.v 13) (.seq (.reg [.p (.v 4) (.mv (.c (.bool false)))]) .ret)
  .skip)) (.seq (.reg [.p (.t 15) (.mv (.v 0)), .p (.t 16) (.mv (.v 0)), .p (.t 17) (.m (.lenl (.t 16))), .p (.t 18) (.m (.mn (.t 17) (.c (.int .i64 200)))), .p (.t 19) (.m (.sls 1 (.t 15) .none (.some
  (.t 18)))), .e (.t 20) (.call (ι.f 119) [.t 19]), .p (.t 14) (.mv (.t 20)), .p (.t 21) (.ext (.t 14) 0), .p (.t 22) (.ext (.t 14) 1), .p (.v 5) (.mv (.t 21)), .p (.v 6) (.mv (.t 22))]) (.seq (.seq
  (.dr (.px (.t 23) .none (.mv (.v 6)) (.px (.t 24) .none (.cm .eql .i64 (.t 23) (.c (.int .i64 0))) (.px (.t 25) .none (.mv (.t 24)) (.px (.t 26) (.some (.t 25, true)) (.mv (.v 5)) (.px (.t 29) (.some
  (.t 25, true)) (.mv (.v 0)) (.px (.t 30) (.some (.t 25, true)) (.mv (.v 0)) (.px (.t 31) (.some (.t 25, true)) (.m (.lenl (.t 30))) (.px (.t 32) (.some (.t 25, true)) (.m (.mn (.t 31) (.c (.int .i64
  200)))) (.px (.t 33) (.some (.t 25, true)) (.m (.sls 1 (.t 29) .none (.some (.t 32)))) (.px (.t 34) (.some (.t 25, true)) (.m (.b2s (.t 33))) (.wcons (.t 27) (.some (.t 25, true)) (.call (ι.f 90) [.t
  26]) (.px (.t 28) (.some (.t 25, true)) (.m (.b2s (.t 27))) (.px (.t 35) (.some (.t 25, true)) (.sc .neq (.t 28) (.t 34)) (.px (.t 36) .none (.pick (.t 25) (.t 35) (.c (.bool false))) (.px (.t 37)
  .none (.mv (.t 36)) (.px (.t 38) (.some (.t 37, false)) (.mv (.v 6)) (.px (.t 39) (.some (.t 37, false)) (.cm .neq .i64 (.t 38) (.c (.int .i64 0))) (.px (.t 40) (.some (.t 37, false)) (.mv (.t 39))
  (.px (.t 41) (.some (.t 40, true)) (.mv (.v 6)) (.px (.t 42) (.some (.t 40, true)) (.cm .neq .i64 (.t 41) (.c (.int .i64 6))) (.px (.t 43) (.some (.t 40, true)) (.mv (.t 42)) (.px (.t 44) (.some (.t
  43, false)) (.mv (.v 5)) (.px (.t 45) (.some (.t 43, false)) (.m (.eqn .ptr true (.t 44))) (.px (.t 46) (.some (.t 40, true)) (.pick (.t 43) (.c (.bool true)) (.t 45)) (.px (.t 47) (.some (.t 37,
  false)) (.pick (.t 40) (.t 46) (.c (.bool false))) (.px (.v 48) .none (.pick (.t 37) (.c (.bool true)) (.t 47)) .done))))))))))))))) .wnil)))))))))))) (.ite (.v 48) (.seq (.reg [.p (.v 4) (.mv (.c
  (.bool false)))]) .ret) .skip)) (.seq (.reg [.p (.t 49) (.mv (.v 1)), .e (.t 50) (.call (ι.f 98) [.t 49]), .p (.v 7) (.mv (.t 50))]) (.seq (.reg [.p (.t 52) (.mv (.v 7)), .e (.t 53) (.call (ι.f 120)
  [.t 52]), .e (.t 54) (.call (ι.f 119) [.t 53]), .p (.t 51) (.mv (.t 54)), .p (.t 55) (.ext (.t 51) 0), .p (.t 56) (.ext (.t 51) 1), .p (.v 8) (.mv (.t 55)), .p (.v 9) (.mv (.t 56))]) (.seq (.reg [.p
  (.t 58) (.mv (.v 7)), .e (.t 59) (.call (ι.f 102) [.t 58, .c (.int .i64 256)]), .p (.t 57) (.mv (.t 59)), .p (.t 60) (.ext (.t 57) 0), .p (.t 61) (.ext (.t 57) 1), .p (.t 10) (.mv (.t 60)), .p (.v 11)
  (.mv (.t 61))]) (.seq (.seq (.reg [.p (.t 62) (.mv (.v 11)), .p (.v 63) (.cm .neq .i64 (.t 62) (.c (.int .i64 0)))]) (.ite (.v 63) (.seq (.reg [.p (.t 64) (.mv (.v 8)), .p (.t 65) (.m (.eqn .ptr false
  (.t 64))), .p (.t 66) (.mv (.t 65)), .gp (.t 67) (.t 66) true (.mv (.v 9)), .gp (.t 68) (.t 66) true (.cm .eql .i64 (.t 67) (.c (.int .i64 6))), .p (.t 69) (.pick (.t 66) (.t 68) (.c (.bool false))),
  .p (.v 4) (.mv (.t 69))]) .ret) .skip)) (.seq (.reg [.p (.t 70) (.mv (.v 9)), .p (.t 71) (.cm .eql .i64 (.t 70) (.c (.int .i64 0))), .p (.t 72) (.mv (.t 71)), .gp (.t 73) (.t 72) true (.mv (.v 8)),
  .ge (.t 74) (.t 72) true (.call (ι.f 86) [.t 73]), .gp (.t 75) (.t 72) true (.mv (.v 7)), .ge (.t 76) (.t 72) true (.call (ι.f 93) [.t 74, .t 75]), .p (.t 77) (.pick (.t 72) (.t 76) (.c (.bool
  false))), .p (.v 4) (.mv (.t 77))]) .ret))))))))
def r_lnreads : List RV := [.t 4]
/- arbaclaw08.NamesBytes -/
def c_lnbytes (ι : Ids) : S :=
  .seq (.reg [.p (.v 2) (.mv (.c (.bool false)))]) (.seq (.seq (.reg [.e (.t 10) (.call (ι.f 91) []), .p (.v 11) (.not (.t 10))]) (.ite (.v 11) (.seq (.reg [.p (.v 2) (.mv (.c (.bool false)))]) .ret)
  .skip)) (.seq (.reg [.p (.v 3) (.mv (.c (.slice .none 0 0)))]) (.seq (.seq (.reg [.p (.t 12) (.mv (.v 0)), .e (.v 13) (.call (ι.f 98) [.t 12]), .p (.v 14) (.m (.lenl (.v 13))), .p (.v 15) (.mv (.c
  (.int .i64 0)))]) (.blk 0 (.loop (.seq (.reg [.p (.v 16) (.cm .lss .i64 (.v 15) (.v 14))]) (.seq (.ite (.v 16) .skip (.exit 0)) (.seq (.blk 1 (.seq (.reg [.p (.t 17) (.is 1 (.v 13) (.v 15)), .p (.t
  18) (.ld (.t 17)), .p (.v 5) (.mv (.t 18))]) (.seq (.reg [.p (.t 19) (.mv (.v 3)), .p (.t 20) (.mv (.v 5)), .e (.t 21) (.call (ι.f 97) [.t 19, .t 20, .c (.int .i64 100)]), .p (.v 22) (.cm .eql .i64
  (.t 21) (.c (.int .i64 0)))]) (.ite (.v 22) (.reg [.p (.t 23) (.mv (.v 3)), .p (.t 24) (.mv (.v 5)), .e (.t 25) (.bldF (ι.t 67) 1 1 [.t 24]), .e (.t 26) (.app false (ι.t 67) 1 16 #[.string ⟨#[]⟩] (.t
  23) (.t 25)), .p (.v 3) (.mv (.t 26))]) .skip)))) (.reg [.p (.t 27) (.ar .add .i64 (.v 15) (.c (.int .i64 1))), .p (.v 15) (.mv (.t 27))]))))))) (.seq (.reg [.p (.t 29) (.mv (.v 3)), .e (.t 30) (.call
  (ι.f 101) [.t 29, .c (.int .i64 100)]), .p (.t 28) (.mv (.t 30)), .p (.t 31) (.ext (.t 28) 0), .p (.t 32) (.ext (.t 28) 1), .p (.v 6) (.mv (.t 31)), .p (.v 7) (.mv (.t 32))]) (.seq (.seq (.dr (.px (.t
  33) .none (.mv (.v 7)) (.px (.t 34) .none (.cm .neq .i64 (.t 33) (.c (.int .i64 0))) (.px (.t 35) .none (.mv (.t 34)) (.px (.t 36) (.some (.t 35, false)) (.mv (.v 6)) (.px (.t 39) (.some (.t 35,
  false)) (.mv (.v 3)) (.wcons (.t 37) (.some (.t 35, false)) (.call (ι.f 90) [.t 36]) (.px (.t 38) (.some (.t 35, false)) (.m (.b2s (.t 37))) (.wcons (.t 40) (.some (.t 35, false)) (.call (ι.f 120) [.t
  39]) (.px (.t 41) (.some (.t 35, false)) (.m (.b2s (.t 40))) (.px (.t 42) (.some (.t 35, false)) (.sc .neq (.t 38) (.t 41)) (.px (.v 43) .none (.pick (.t 35) (.c (.bool true)) (.t 42)) .done)))
  .wnil)) .wnil))))))) (.ite (.v 43) (.seq (.reg [.p (.v 2) (.mv (.c (.bool false)))]) .ret) .skip)) (.seq (.reg [.p (.t 45) (.mv (.v 6)), .e (.t 46) (.call (ι.f 90) [.t 45]), .e (.t 47) (.call (ι.f
  119) [.t 46]), .p (.t 44) (.mv (.t 47)), .p (.t 48) (.ext (.t 44) 0), .p (.t 49) (.ext (.t 44) 1), .p (.v 8) (.mv (.t 48)), .p (.v 9) (.mv (.t 49))]) (.seq (.reg [.p (.t 50) (.mv (.v 9)), .p (.t 51)
  (.cm .eql .i64 (.t 50) (.c (.int .i64 0))), .p (.t 52) (.mv (.t 51)), .gp (.t 53) (.t 52) true (.mv (.v 8)), .gp (.t 54) (.t 52) true (.mv (.v 6)), .ge (.t 55) (.t 52) true (.call (ι.f 95) [.t 53, .t
  54]), .p (.t 56) (.pick (.t 52) (.t 55) (.c (.bool false))), .p (.t 57) (.mv (.t 56)), .gp (.t 58) (.t 57) true (.mv (.v 6)), .gp (.t 59) (.t 57) true (.mv (.v 8)), .ge (.t 60) (.t 57) true (.call
  (ι.f 95) [.t 58, .t 59]), .p (.t 61) (.pick (.t 57) (.t 60) (.c (.bool false))), .p (.t 62) (.mv (.t 61)), .gp (.t 63) (.t 62) true (.mv (.v 8)), .ge (.t 64) (.t 62) true (.call (ι.f 86) [.t 63]), .gp
  (.t 65) (.t 62) true (.mv (.v 3)), .ge (.t 66) (.t 62) true (.call (ι.f 93) [.t 64, .t 65]), .p (.t 67) (.pick (.t 62) (.t 66) (.c (.bool false))), .p (.v 2) (.mv (.t 67))]) .ret)))))))
def r_lnbytes : List RV := [.t 2]

theorem ofE_nsmall {most : Int} {l : List (List UInt8)} (h : ofE most [] l = 0) : NSmall l := ⟨by have := ofE_len h; omega, fun i hi => by
  have := ofE_small h (l.getD i []) (by simp [List.getD_eq_getElem?_getD, hi])
  omega⟩
theorem lnreads_ok {P : Program} {ι : Ids} {k : FuncId} (hk : FnIs P k (c_lnreads ι) r_lnreads 2) (ha : NAwakeSpec P (ι.f 91)) (hrd : NReadSpec P (ι.f 119)) (hby : NBytesSpec P (ι.f 90)) (hw : WordsSpec P (ι.f 98)) (hrb : RBytesLSpec P (ι.f 120))
    (hro : ROfSpec P (ι.f 102)) (hns : NNamesSpec P (ι.f 86)) (hsm : SameSpec P (ι.f 93))
    (p l : List UInt8) (v u : Value) (H : Hp) (hv : SlR H v (w8 p)) (hu : SlR H u (w8 l)) : CallsM P k #[v, u] H fun r H' => r = .bool true ∧ Keep (fun _ => False) H H' := by
  refine calls_of_vc hk (args := [_, _]) (by simp) ?_
  unfold c_lnreads r_lnreads
  simp only [go_sem, List.map_cons, List.map_nil, ↓reduceIte, Nat.reduceEqDiff, Nat.reduceAdd, Nat.reduceMul, reduceCtorEq, and_true, true_and, Nat.mul_one, Nat.zero_add, Bool.false_eq_true, decide_true, decide_false, not_false_eq_true, kont_eq, beq_self_eq_true, bne_self_eq_false, Int.reduceBEq, Int.reduceBNe, Int.cast_ofNat_Int]
  refine (ha _).mono ?_
  rintro r H1 ⟨rfl, K1⟩
  have S1 := hv.keep K1 (by simp)
  have hmn : (if (200 : Int) < (p.length : Int) then (200 : Int) else (p.length : Int)) = ((min p.length 200 : Nat) : Int) := by split <;> omega
  have cap := S1.cap
  rw [w8_len] at cap
  have ST := S1.take (n := min p.length 200) (by rw [w8_len]; omega)
  rw [w8_take] at ST
  simp only [go_sem, List.map_cons, List.map_nil, ↓reduceIte, Nat.reduceEqDiff, Nat.reduceAdd, Nat.reduceMul, reduceCtorEq, and_true, true_and, Nat.mul_one, Nat.zero_add, Bool.false_eq_true, decide_true, decide_false, not_false_eq_true, kont_eq, beq_self_eq_true, bne_self_eq_false, Int.reduceBEq, Int.reduceBNe, Int.cast_ofNat_Int, S1.isSl, S1.len, w8_len, hmn]
  refine And.intro (by omega) ?_
  have hql : (p.take (min p.length 200)).length ≤ 200 := by rw [List.length_take]; omega
  generalize p.take (min p.length 200) = q at *
  refine (hrd _ _ _ ST (by omega)).mono ?_
  rintro r H2 ⟨K2, h2⟩
  have K2' := K1.trans K2
  rcases h2 with ⟨hN, rfl⟩ | ⟨m, t, F, hm, rfl, T2, hF⟩
  case' inl =>
    have e1 : ((6 : Int) == 0) = false := rfl
    simp only [go_sem, List.map_cons, List.map_nil, ↓reduceIte, Nat.reduceEqDiff, Nat.reduceAdd, Nat.reduceMul, reduceCtorEq, and_true, true_and, Nat.mul_one, Nat.zero_add, Bool.false_eq_true, decide_true, decide_false, not_false_eq_true, kont_eq, beq_self_eq_true, bne_self_eq_false, Int.reduceBEq, Int.reduceBNe, Int.cast_ofNat_Int]
    refine vc_drk (fun _ => False) ?_
    simp only [go_sem, List.map_cons, List.map_nil, ↓reduceIte, Nat.reduceEqDiff, Nat.reduceAdd, Nat.reduceMul, reduceCtorEq, and_true, true_and, Nat.mul_one, Nat.zero_add, Bool.false_eq_true, decide_true, decide_false, not_false_eq_true, kont_eq, beq_self_eq_true, bne_self_eq_false, Int.reduceBEq, Int.reduceBNe, Int.cast_ofNat_Int]
    rename Hp => H3
    have K3' := K2'
  case' inr =>
    obtain ⟨hb1, hb2⟩ := readF_ok hm
    simp only [go_sem, List.map_cons, List.map_nil, ↓reduceIte, Nat.reduceEqDiff, Nat.reduceAdd, Nat.reduceMul, reduceCtorEq, and_true, true_and, Nat.mul_one, Nat.zero_add, Bool.false_eq_true, decide_true, decide_false, not_false_eq_true, kont_eq, beq_self_eq_true, bne_self_eq_false, Int.reduceBEq, Int.reduceBNe, Int.cast_ofNat_Int]
    refine vc_drk (fun _ => False) ?_
    have S2 := S1.keep K2 (by simp)
    have ST2 := ST.keep K2 (by simp)
    have bT := ST2.bytesIn
    simp only [go_sem, List.map_cons, List.map_nil, ↓reduceIte, Nat.reduceEqDiff, Nat.reduceAdd, Nat.reduceMul, reduceCtorEq, and_true, true_and, Nat.mul_one, Nat.zero_add, Bool.false_eq_true, decide_true, decide_false, not_false_eq_true, kont_eq, beq_self_eq_true, bne_self_eq_false, Int.reduceBEq, Int.reduceBNe, Int.cast_ofNat_Int, S2.isSl, S2.len, w8_len, hmn, bT, toBA_w8]
    refine ⟨by omega, okB2s_w8 bT, ?_⟩
    refine (hby _ _ _ _ T2 (ofE_nsmall hb2)).mono ?_
    rintro r H3 ⟨O3, o3, K3⟩
    have b3 := O3.sl.bytesIn
    rw [hb1] at b3
    simp only [go_sem, List.map_cons, List.map_nil, ↓reduceIte, Nat.reduceEqDiff, Nat.reduceAdd, Nat.reduceMul, reduceCtorEq, and_true, true_and, Nat.mul_one, Nat.zero_add, Bool.false_eq_true, decide_true, decide_false, not_false_eq_true, kont_eq, beq_self_eq_true, bne_self_eq_false, Int.reduceBEq, Int.reduceBNe, Int.cast_ofNat_Int, b3, toBA_w8]
    refine ⟨K3, okB2s_w8 b3, ?_⟩
    have K3' := K2'.trans K3
  all_goals
    refine (hw _ _ _ (hu.keep K3' (by simp))).mono ?_
    rintro vw H4 ⟨O4, o4, K4⟩
    have hwl := wordsF_len l (min l.length 24) (by omega)
    have hws := wordsF_small l (min l.length 24)
    generalize wordsF l (min l.length 24) = w at *
    have hw24 : w.length ≤ 24 := by omega
    have nsm : NSmall w := ⟨by omega, fun i hi => by have := hws i hi; omega⟩
    have wsm : WSmall w := ⟨by omega, fun i hi => by have := hws i hi; omega⟩
    have hel : ∀ x ∈ w, x.length < 18446744073709551616 := fun x hx => by
      obtain ⟨i, hi, rfl⟩ := List.getElem_of_mem hx
      have := hws i hi
      simp [hi] at this; omega
    have htl := encN_len w nsm w.length (Nat.le_refl _)
    simp only [go_sem, List.map_cons, List.map_nil, ↓reduceIte, Nat.reduceEqDiff, Nat.reduceAdd, Nat.reduceMul, reduceCtorEq, and_true, true_and, Nat.mul_one, Nat.zero_add, Bool.false_eq_true, decide_true, decide_false, not_false_eq_true, kont_eq, beq_self_eq_true, bne_self_eq_false, Int.reduceBEq, Int.reduceBNe, Int.cast_ofNat_Int]
    refine (hrb _ _ _ O4.sl nsm).mono ?_
    rintro v5 H5 ⟨O5, o5, K5⟩
    simp only [go_sem, List.map_cons, List.map_nil, ↓reduceIte, Nat.reduceEqDiff, Nat.reduceAdd, Nat.reduceMul, reduceCtorEq, and_true, true_and, Nat.mul_one, Nat.zero_add, Bool.false_eq_true, decide_true, decide_false, not_false_eq_true, kont_eq, beq_self_eq_true, bne_self_eq_false, Int.reduceBEq, Int.reduceBNe, Int.cast_ofNat_Int]
    refine (hrd _ _ _ O5.sl (by unfold tbytes; omega)).mono ?_
    rintro r H6 ⟨K6, h6⟩
    have K6' := ((K3'.trans K4).trans K5).trans K6
    have O6 := (O4.keep K5 (by simp)).keep K6 (by simp)
    by_cases cw : ofE 256 [] w = 0
    · rw [readF_tbytes cw] at h6
      rcases h6 with ⟨h, -⟩ | ⟨m', t', F', hm', rfl, T6, hF'⟩
      · cases h
      cases hm'
      simp only [go_sem, List.map_cons, List.map_nil, ↓reduceIte, Nat.reduceEqDiff, Nat.reduceAdd, Nat.reduceMul, reduceCtorEq, and_true, true_and, Nat.mul_one, Nat.zero_add, Bool.false_eq_true, decide_true, decide_false, not_false_eq_true, kont_eq, beq_self_eq_true, bne_self_eq_false, Int.reduceBEq, Int.reduceBNe, Int.cast_ofNat_Int]
      refine (hro w _ 256 _ O6.sl wsm).mono ?_
      rintro r H7 ⟨K7, h7⟩
      rcases h7 with ⟨h, -⟩ | ⟨-, x, rfl, O7, o7⟩
      · exact absurd cw h
      simp only [go_sem, List.map_cons, List.map_nil, ↓reduceIte, Nat.reduceEqDiff, Nat.reduceAdd, Nat.reduceMul, reduceCtorEq, and_true, true_and, Nat.mul_one, Nat.zero_add, Bool.false_eq_true, decide_true, decide_false, not_false_eq_true, kont_eq, beq_self_eq_true, bne_self_eq_false, Int.reduceBEq, Int.reduceBNe, Int.cast_ofNat_Int]
      refine (hns.1 _ _ _ _ (T6.keep K7 (by simp)) (by omega)).mono ?_
      rintro r H8 ⟨O8, o8, K8⟩
      simp only [go_sem, List.map_cons, List.map_nil, ↓reduceIte, Nat.reduceEqDiff, Nat.reduceAdd, Nat.reduceMul, reduceCtorEq, and_true, true_and, Nat.mul_one, Nat.zero_add, Bool.false_eq_true, decide_true, decide_false, not_false_eq_true, kont_eq, beq_self_eq_true, bne_self_eq_false, Int.reduceBEq, Int.reduceBNe, Int.cast_ofNat_Int]
      refine (hsm _ _ _ _ _ O8.sl ((O6.keep K7 (by simp)).keep K8 (by simp)).sl (by omega)).mono ?_
      rintro r H9 ⟨rfl, rfl⟩
      simp only [go_sem, List.map_cons, List.map_nil, ↓reduceIte, Nat.reduceEqDiff, Nat.reduceAdd, Nat.reduceMul, reduceCtorEq, and_true, true_and, Nat.mul_one, Nat.zero_add, Bool.false_eq_true, decide_true, decide_false, not_false_eq_true, kont_eq, beq_self_eq_true, bne_self_eq_false, Int.reduceBEq, Int.reduceBNe, Int.cast_ofNat_Int]
      exact (K6'.trans K7).trans K8
    · rw [readF_none cw (by omega) hel] at h6
      rcases h6 with ⟨-, rfl⟩ | ⟨m', t', F', hm', -⟩
      case inr => cases hm'
      simp only [go_sem, List.map_cons, List.map_nil, ↓reduceIte, Nat.reduceEqDiff, Nat.reduceAdd, Nat.reduceMul, reduceCtorEq, and_true, true_and, Nat.mul_one, Nat.zero_add, Bool.false_eq_true, decide_true, decide_false, not_false_eq_true, kont_eq, beq_self_eq_true, bne_self_eq_false, Int.reduceBEq, Int.reduceBNe, Int.cast_ofNat_Int]
      refine (hro w _ 256 _ O6.sl wsm).mono ?_
      rintro r H7 ⟨K7, h7⟩
      rcases h7 with ⟨h, rfl⟩ | ⟨h, -⟩
      · have e2 : (ofE 256 [] w != 0) = true := by simpa using h
        simp only [go_sem, List.map_cons, List.map_nil, ↓reduceIte, Nat.reduceEqDiff, Nat.reduceAdd, Nat.reduceMul, reduceCtorEq, and_true, true_and, Nat.mul_one, Nat.zero_add, Bool.false_eq_true, decide_true, decide_false, not_false_eq_true, kont_eq, beq_self_eq_true, bne_self_eq_false, Int.reduceBEq, Int.reduceBNe, Int.cast_ofNat_Int, e2]
        exact K6'.trans K7
      · exact absurd h cw
theorem addE_mono {l : List (List UInt8)} {s : List UInt8} (h : addE l s 100 = 0) : addE l s 256 = 0 := by
  obtain ⟨h1, h2, h3, h4⟩ := addE_zero h
  unfold addE
  rw [if_neg (by simp [h1]), if_neg h2, if_neg (by omega)]
theorem ofE_of {most : Int} {l : List (List UInt8)} (h : ∀ i, i < l.length → addE (l.take i) (l.getD i []) most = 0) : ofE most [] l = 0 := by
  have : ∀ n, n ≤ l.length → ofE most [] l = ofE most (l.take n) (l.drop n) := by
    intro n
    induction n with
    | zero => intro _; rfl
    | succ n ih =>
      intro hn
      rw [ih (by omega), ofE_step l most n (by omega), if_pos (h n (by omega))]
  rw [this l.length (Nat.le_refl _), List.drop_length]; rfl
theorem lnbytes_ok {P : Program} {ι : Ids} {k : FuncId} (hk : FnIs P k (c_lnbytes ι) r_lnbytes 1) (ha : NAwakeSpec P (ι.f 91)) (hw : WordsSpec P (ι.f 98)) (hck : RCheckSpec P (ι.f 97)) (hof : NOfSpec P (ι.f 101)) (hby : NBytesSpec P (ι.f 90))
    (hrb : RBytesLSpec P (ι.f 120)) (hrd : NReadSpec P (ι.f 119)) (heq : NEqualSpec P (ι.f 95)) (hns : NNamesSpec P (ι.f 86)) (hsm : SameSpec P (ι.f 93))
    (l : List UInt8) (v : Value) (H : Hp) (hv : SlR H v (w8 l)) : CallsM P k #[v] H fun r H' => r = .bool true ∧ Keep (fun _ => False) H H' := by
  refine calls_of_vc hk (args := [_]) (by simp) ?_
  unfold c_lnbytes r_lnbytes
  simp only [go_sem, List.map_cons, List.map_nil, ↓reduceIte, Nat.reduceEqDiff, Nat.reduceAdd, Nat.reduceMul, reduceCtorEq, and_true, true_and, Nat.mul_one, Nat.zero_add, Bool.false_eq_true, decide_true, decide_false, not_false_eq_true, kont_eq, beq_self_eq_true, bne_self_eq_false, Int.reduceBEq, Int.reduceBNe, Int.cast_ofNat_Int]
  refine (ha _).mono ?_
  rintro r H1 ⟨rfl, K1⟩
  simp only [go_sem, List.map_cons, List.map_nil, ↓reduceIte, Nat.reduceEqDiff, Nat.reduceAdd, Nat.reduceMul, reduceCtorEq, and_true, true_and, Nat.mul_one, Nat.zero_add, Bool.false_eq_true, decide_true, decide_false, not_false_eq_true, kont_eq, beq_self_eq_true, bne_self_eq_false, Int.reduceBEq, Int.reduceBNe, Int.cast_ofNat_Int]
  refine (hw _ _ _ (hv.keep K1 (by simp))).mono ?_
  rintro vw H3 ⟨O3, o3, K3⟩
  have K3' := K1.trans K3
  have hwl := wordsF_len l (min l.length 24) (by omega)
  have hws := wordsF_small l (min l.length 24)
  generalize wordsF l (min l.length 24) = w at *
  have S3 := O3.sl
  simp only [go_sem, List.map_cons, List.map_nil, ↓reduceIte, Nat.reduceEqDiff, Nat.reduceAdd, Nat.reduceMul, reduceCtorEq, and_true, true_and, Nat.mul_one, Nat.zero_add, Bool.false_eq_true, decide_true, decide_false, not_false_eq_true, kont_eq, beq_self_eq_true, bne_self_eq_false, Int.reduceBEq, Int.reduceBNe, Int.cast_ofNat_Int, S3.isSl, S3.len, sL_len]
  have hw24 : w.length ≤ 24 := by omega
  refine vc_loop [16, 5, 22, 3, 15] rfl (fun n f H' => ∃ i told, i ≤ w.length ∧ n = w.length - i ∧ f 15 = .int .i64 i ∧ OwS H' (f 3) (sL told) ∧ (∀ k, ownB (f 3) k → H3.size ≤ k)
      ∧ told.length ≤ i ∧ Cl told ∧ Keep (fun _ => False) H3 H') w.length
    ⟨0, [], by omega, by omega, rfl, OwS.nil _, fun k h => h.elim, by simp, Cl.nil, Keep.refl _ _⟩ ?_
  rintro n g H4 ⟨i, told, hi, rfl, hf31, O4, o4, ht, hC, K4⟩
  simp only [go_sem, List.map_cons, List.map_nil, ↓reduceIte, Nat.reduceEqDiff, Nat.reduceAdd, Nat.reduceMul, reduceCtorEq, and_true, true_and, Nat.mul_one, Nat.zero_add, Bool.false_eq_true, decide_true, decide_false, not_false_eq_true, kont_eq, beq_self_eq_true, bne_self_eq_false, Int.reduceBEq, Int.reduceBNe, Int.cast_ofNat_Int] at hf31 O4 o4
  simp only [go_sem, List.map_cons, List.map_nil, ↓reduceIte, Nat.reduceEqDiff, Nat.reduceAdd, Nat.reduceMul, reduceCtorEq, and_true, true_and, Nat.mul_one, Nat.zero_add, Bool.false_eq_true, decide_true, decide_false, not_false_eq_true, kont_eq, beq_self_eq_true, bne_self_eq_false, Int.reduceBEq, Int.reduceBNe, Int.cast_ofNat_Int, hf31]
  refine iteV_dec (fun hlt => ?_) (fun hge => ?_)
  · have hi2 : i < w.length := by omega
    obtain ⟨bV, oV, cV, rfl, -, -⟩ := S3.cells (by intro e; have h := congrArg List.length e; rw [sL_len, List.length_nil] at h; omega)
    have hcell := (S3.keep K4 (by simp)).cell_at (i := i) (by rw [sL_len]; omega)
    rw [sL_get _ _ hi2] at hcell
    have hsl := hws i hi2
    generalize w.getD i [] = s at *
    simp (disch := omega) only [go_sem, List.map_cons, List.map_nil, ↓reduceIte, Nat.reduceEqDiff, Nat.reduceAdd, Nat.reduceMul, reduceCtorEq, and_true, true_and, Nat.mul_one, Nat.zero_add, Bool.false_eq_true, decide_true, decide_false, not_false_eq_true, kont_eq, beq_self_eq_true, bne_self_eq_false, Int.reduceBEq, Int.reduceBNe, Int.cast_ofNat_Int, hf31, hcell, sL_len, tn_cast]
    refine And.intro (by omega) ?_
    refine (hck told s 100 _ _ O4.sl (by omega) (by omega)).mono ?_
    rintro r H6 ⟨rfl, K6⟩
    have O6 := O4.keep K6 (by simp)
    have K6' := K4.trans K6
    by_cases he : addE told s 100 = 0
    · have e1 : (addE told s 100 == 0) = true := by rw [he]; rfl
      simp (disch := omega) only [go_sem, List.map_cons, List.map_nil, ↓reduceIte, Nat.reduceEqDiff, Nat.reduceAdd, Nat.reduceMul, reduceCtorEq, and_true, true_and, Nat.mul_one, Nat.zero_add, Bool.false_eq_true, decide_true, decide_false, not_false_eq_true, kont_eq, beq_self_eq_true, bne_self_eq_false, Int.reduceBEq, Int.reduceBNe, Int.cast_ofNat_Int, hf31, e1]
      generalize hA : Array.push H6 _ = H7
      have KA : Keep (fun _ => False) H6 H7 := by rw [← hA]; exact (Keep.refl _ _).push _
      have BA : Bl H7 H6.size (sL [s]) := by rw [← hA]; exact Bl.new' _ _ _
      have k6 := K6'.size
      have k7 := KA.size
      refine app_slN H3.size (l := sL told) (m := sL [s]) (O6.keep KA (by simp)) o4 (by omega) (SlR.bl BA 0 1 1 (by omega) (by simp [sL])) (sL_all1 _) rfl (by omega) (by rw [sL_len, sL_len]; simp; omega) fun v8 H8 O8 o8 K8 => ?_
      rw [← sL_app] at O8
      simp (disch := omega) only [go_sem, List.map_cons, List.map_nil, ↓reduceIte, Nat.reduceEqDiff, Nat.reduceAdd, Nat.reduceMul, reduceCtorEq, and_true, true_and, Nat.mul_one, Nat.zero_add, Bool.false_eq_true, decide_true, decide_false, not_false_eq_true, kont_eq, beq_self_eq_true, bne_self_eq_false, Int.reduceBEq, Int.reduceBNe, Int.cast_ofNat_Int, hf31, IntWalk.i64_in]
      exact ⟨w.length - (i + 1), by omega, i + 1, told ++ [s], by omega, rfl, by simp, O8, o8, by simp; omega, hC.push he, (K6'.trans KA).at_old K8 (Nat.le_refl _)⟩
    · have e2 : (addE told s 100 == 0) = false := by simpa using he
      simp (disch := omega) only [go_sem, List.map_cons, List.map_nil, ↓reduceIte, Nat.reduceEqDiff, Nat.reduceAdd, Nat.reduceMul, reduceCtorEq, and_true, true_and, Nat.mul_one, Nat.zero_add, Bool.false_eq_true, decide_true, decide_false, not_false_eq_true, kont_eq, beq_self_eq_true, bne_self_eq_false, Int.reduceBEq, Int.reduceBNe, Int.cast_ofNat_Int, hf31, e2, IntWalk.i64_in]
      exact ⟨w.length - (i + 1), by omega, i + 1, told, by omega, rfl, by simp, O6, o4, by omega, hC, K6'⟩
  have K4' := K3'.trans K4
  refine (hof told _ 100 _ O4.sl hC.wsmall).mono ?_
  rintro r H5 ⟨K5, h5⟩
  rcases h5 with ⟨he, -⟩ | ⟨-, t, F, rfl, T5, d5⟩
  · exact absurd hC.ofE he
  have O5 := O4.keep K5 (by simp)
  have lC := hC.len
  have htl := encN_len told hC.nsmall told.length (Nat.le_refl _)
  have c256 : ofE 256 [] told = 0 := ofE_of fun i hi => addE_mono (hC i hi)
  simp only [go_sem, List.map_cons, List.map_nil, ↓reduceIte, Nat.reduceEqDiff, Nat.reduceAdd, Nat.reduceMul, reduceCtorEq, and_true, true_and, Nat.mul_one, Nat.zero_add, Bool.false_eq_true, decide_true, decide_false, not_false_eq_true, kont_eq, beq_self_eq_true, bne_self_eq_false, Int.reduceBEq, Int.reduceBNe, Int.cast_ofNat_Int]
  refine vc_drk (fun _ => False) ?_
  simp only [go_sem, List.map_cons, List.map_nil, ↓reduceIte, Nat.reduceEqDiff, Nat.reduceAdd, Nat.reduceMul, reduceCtorEq, and_true, true_and, Nat.mul_one, Nat.zero_add, Bool.false_eq_true, decide_true, decide_false, not_false_eq_true, kont_eq, beq_self_eq_true, bne_self_eq_false, Int.reduceBEq, Int.reduceBNe, Int.cast_ofNat_Int]
  refine (hby _ _ _ _ T5 hC.nsmall).mono ?_
  rintro r H6 ⟨O6, o6, K6⟩
  have b6 := O6.sl.bytesIn
  simp only [go_sem, List.map_cons, List.map_nil, ↓reduceIte, Nat.reduceEqDiff, Nat.reduceAdd, Nat.reduceMul, reduceCtorEq, and_true, true_and, Nat.mul_one, Nat.zero_add, Bool.false_eq_true, decide_true, decide_false, not_false_eq_true, kont_eq, beq_self_eq_true, bne_self_eq_false, Int.reduceBEq, Int.reduceBNe, Int.cast_ofNat_Int, b6, toBA_w8]
  refine ⟨K6, okB2s_w8 b6, ?_⟩
  refine (hrb _ _ _ (O5.keep K6 (by simp)).sl hC.nsmall).mono ?_
  rintro r H7 ⟨O7, o7, K7⟩
  have b7 := O7.sl.bytesIn
  simp only [go_sem, List.map_cons, List.map_nil, ↓reduceIte, Nat.reduceEqDiff, Nat.reduceAdd, Nat.reduceMul, reduceCtorEq, and_true, true_and, Nat.mul_one, Nat.zero_add, Bool.false_eq_true, decide_true, decide_false, not_false_eq_true, kont_eq, beq_self_eq_true, bne_self_eq_false, Int.reduceBEq, Int.reduceBNe, Int.cast_ofNat_Int, b7, toBA_w8]
  refine ⟨K7, okB2s_w8 b7, ?_⟩
  have T7 := (T5.keep K6 (by simp)).keep K7 (by simp)
  refine (hby _ _ _ _ T7 hC.nsmall).mono ?_
  rintro r H8 ⟨O8, o8, K8⟩
  simp only [go_sem, List.map_cons, List.map_nil, ↓reduceIte, Nat.reduceEqDiff, Nat.reduceAdd, Nat.reduceMul, reduceCtorEq, and_true, true_and, Nat.mul_one, Nat.zero_add, Bool.false_eq_true, decide_true, decide_false, not_false_eq_true, kont_eq, beq_self_eq_true, bne_self_eq_false, Int.reduceBEq, Int.reduceBNe, Int.cast_ofNat_Int]
  refine (hrd _ _ _ O8.sl (by unfold tbytes; omega)).mono ?_
  rintro r H9 ⟨K9, h9⟩
  rw [readF_tbytes c256] at h9
  rcases h9 with ⟨h, -⟩ | ⟨m', t', F', hm', rfl, T9, hF'⟩
  · cases h
  cases hm'
  have T9' := (T7.keep K8 (by simp)).keep K9 (by simp)
  have O9 := (((O5.keep K6 (by simp)).keep K7 (by simp)).keep K8 (by simp)).keep K9 (by simp)
  simp only [go_sem, List.map_cons, List.map_nil, ↓reduceIte, Nat.reduceEqDiff, Nat.reduceAdd, Nat.reduceMul, reduceCtorEq, and_true, true_and, Nat.mul_one, Nat.zero_add, Bool.false_eq_true, decide_true, decide_false, not_false_eq_true, kont_eq, beq_self_eq_true, bne_self_eq_false, Int.reduceBEq, Int.reduceBNe, Int.cast_ofNat_Int]
  refine (heq.1 _ _ _ _ _ _ _ T9 T9' (by omega)).mono ?_
  rintro r H10 ⟨rfl, rfl⟩
  simp only [go_sem, List.map_cons, List.map_nil, ↓reduceIte, Nat.reduceEqDiff, Nat.reduceAdd, Nat.reduceMul, reduceCtorEq, and_true, true_and, Nat.mul_one, Nat.zero_add, Bool.false_eq_true, decide_true, decide_false, not_false_eq_true, kont_eq, beq_self_eq_true, bne_self_eq_false, Int.reduceBEq, Int.reduceBNe, Int.cast_ofNat_Int]
  refine (heq.1 _ _ _ _ _ _ _ T9' T9 (by omega)).mono ?_
  rintro r H10 ⟨rfl, rfl⟩
  simp only [go_sem, List.map_cons, List.map_nil, ↓reduceIte, Nat.reduceEqDiff, Nat.reduceAdd, Nat.reduceMul, reduceCtorEq, and_true, true_and, Nat.mul_one, Nat.zero_add, Bool.false_eq_true, decide_true, decide_false, not_false_eq_true, kont_eq, beq_self_eq_true, bne_self_eq_false, Int.reduceBEq, Int.reduceBNe, Int.cast_ofNat_Int]
  refine (hns.1 _ _ _ _ T9 (by omega)).mono ?_
  rintro r H11 ⟨O11, o11, K11⟩
  simp only [go_sem, List.map_cons, List.map_nil, ↓reduceIte, Nat.reduceEqDiff, Nat.reduceAdd, Nat.reduceMul, reduceCtorEq, and_true, true_and, Nat.mul_one, Nat.zero_add, Bool.false_eq_true, decide_true, decide_false, not_false_eq_true, kont_eq, beq_self_eq_true, bne_self_eq_false, Int.reduceBEq, Int.reduceBNe, Int.cast_ofNat_Int]
  refine (hsm _ _ _ _ _ O11.sl (O9.keep K11 (by simp)).sl (by omega)).mono ?_
  rintro r H12 ⟨rfl, rfl⟩
  simp only [go_sem, List.map_cons, List.map_nil, ↓reduceIte, Nat.reduceEqDiff, Nat.reduceAdd, Nat.reduceMul, reduceCtorEq, and_true, true_and, Nat.mul_one, Nat.zero_add, Bool.false_eq_true, decide_true, decide_false, not_false_eq_true, kont_eq, beq_self_eq_true, bne_self_eq_false, Int.reduceBEq, Int.reduceBNe, Int.cast_ofNat_Int]
  exact (((((K4'.trans K5).trans K6).trans K7).trans K8).trans K9).trans K11
end Go.Mg

/- names: the keywords. -/
import Derived.Test.YtpifmenfgbcneaaMgN9
namespace Go.Mg
open Go Go.RowKit
set_option linter.unusedSimpArgs false
set_option linter.unusedVariables false
set_option maxRecDepth 100000
/- arbaclaw08.NamesKeywords -/
def c_lnkw (ι : Ids) : S :=
  .seq (.reg [.p (.v 2) (.mv (.c (.bool false)))]) (.seq (.seq (.reg [.e (.t 6) (.call (ι.f 91) []), .p (.v 7) (.not (.t 6))]) (.ite (.v 7) (.seq (.reg [.p (.v 2) (.mv (.c (.bool false)))]) .ret)
  .skip)) (.seq (.reg [.e (.t 8) (.call (ι.f 68) []), .p (.v 3) (.mv (.t 8))]) (.seq (.seq (.reg [.p (.t 9) (.mv (.v 3)), .p (.t 10) (.m (.lenl (.t 9))), .p (.t 11) (.cm .neq .i64 (.t 10) (.c (.int .i64
  20))), .p (.t 12) (.mv (.t 11)), .gp (.t 13) (.t 12) false (.mv (.v 3)), .ge (.t 14) (.t 12) false (.call (ι.f 69) []), .ge (.t 15) (.t 12) false (.call (ι.f 93) [.t 13, .t 14]), .gp (.t 16) (.t 12)
  false (.not (.t 15)), .p (.v 17) (.pick (.t 12) (.c (.bool true)) (.t 16))]) (.ite (.v 17) (.seq (.reg [.p (.v 2) (.mv (.c (.bool false)))]) .ret) .skip)) (.seq (.reg [.p (.t 18) (.mv (.v 3)), .p (.t
  19) (.mv (.v 0)), .p (.t 20) (.ii .i64 (.t 19)), .p (.t 21) (.dv .rem .i64 (.t 20) (.c (.int .i64 20))), .p (.t 22) (.is 1 (.t 18) (.t 21)), .p (.t 23) (.ld (.t 22)), .p (.v 4) (.mv (.t 23))]) (.seq
  (.seq (.reg [.p (.t 24) (.mv (.v 3)), .p (.v 25) (.m (.lenl (.t 24))), .p (.v 26) (.mv (.c (.int .i64 0)))]) (.blk 0 (.loop (.seq (.reg [.p (.v 27) (.cm .lss .i64 (.v 26) (.v 25))]) (.seq (.ite (.v
  27) .skip (.exit 0)) (.seq (.blk 1 (.seq (.reg [.p (.t 28) (.mv (.v 26)), .p (.v 5) (.mv (.t 28))]) (.seq (.dr (.px (.t 29) .none (.mv (.v 3)) (.px (.t 30) .none (.mv (.v 5)) (.px (.t 31) .none (.is 1
  (.t 29) (.t 30)) (.px (.t 32) .none (.ld (.t 31)) (.wcons (.t 33) .none (.call (ι.f 75) [.t 32]) (.px (.t 34) .none (.mv (.t 33)) (.px (.t 35) (.some (.t 34, false)) (.mv (.v 3)) (.px (.t 36) (.some
  (.t 34, false)) (.mv (.v 5)) (.px (.t 37) (.some (.t 34, false)) (.is 1 (.t 35) (.t 36)) (.px (.t 38) (.some (.t 34, false)) (.ld (.t 37)) (.px (.t 39) (.some (.t 34, false)) (.sadd (.c (.string
  ⟨#[120]⟩)) (.t 38)) (.wcons (.t 40) (.some (.t 34, false)) (.call (ι.f 75) [.t 39]) (.px (.t 41) (.some (.t 34, false)) (.not (.t 40)) (.px (.t 42) .none (.pick (.t 34) (.c (.bool true)) (.t 41)) (.px
  (.t 43) .none (.mv (.t 42)) (.px (.t 44) (.some (.t 43, false)) (.mv (.v 5)) (.px (.t 45) (.some (.t 43, false)) (.cm .gtr .i64 (.t 44) (.c (.int .i64 0))) (.px (.t 46) (.some (.t 43, false)) (.mv (.t
  45)) (.px (.t 47) (.some (.t 46, true)) (.mv (.v 3)) (.px (.t 48) (.some (.t 46, true)) (.mv (.v 5)) (.px (.t 49) (.some (.t 46, true)) (.ar .sub .i64 (.t 48) (.c (.int .i64 1))) (.px (.t 50) (.some
  (.t 46, true)) (.is 1 (.t 47) (.t 49)) (.px (.t 51) (.some (.t 46, true)) (.ld (.t 50)) (.px (.t 52) (.some (.t 46, true)) (.mv (.v 3)) (.px (.t 53) (.some (.t 46, true)) (.mv (.v 5)) (.px (.t 54)
  (.some (.t 46, true)) (.is 1 (.t 52) (.t 53)) (.px (.t 55) (.some (.t 46, true)) (.ld (.t 54)) (.px (.t 56) (.some (.t 46, true)) (.sc .geq (.t 51) (.t 55)) (.px (.t 57) (.some (.t 43, false)) (.pick
  (.t 46) (.t 56) (.c (.bool false))) (.px (.v 58) .none (.pick (.t 43) (.c (.bool true)) (.t 57)) .done)))))))))))))))))) .wnil))))))) .wnil)))))) (.ite (.v 58) (.seq (.reg [.p (.v 2) (.mv (.c (.bool
  false)))]) .ret) .skip)))) (.reg [.p (.t 59) (.ar .add .i64 (.v 26) (.c (.int .i64 1))), .p (.v 26) (.mv (.t 59))]))))))) (.seq (.reg [.p (.t 60) (.mv (.v 3)), .p (.t 61) (.is 1 (.t 60) (.c (.int .i64
  0))), .e .no (.st (.t 61) (.c (.string ⟨#[99, 104, 97, 110, 103, 101, 100]⟩)))]) (.seq (.reg [.p (.t 62) (.mv (.v 4)), .p (.t 63) (.sadd (.t 62) (.c (.string ⟨#[50]⟩))), .e (.t 64) (.call (ι.f 75) [.t
  63]), .p (.t 65) (.mv (.t 64)), .ge (.t 66) (.t 65) true (.call (ι.f 68) []), .gp (.t 67) (.t 65) true (.is 1 (.t 66) (.c (.int .i64 0))), .gp (.t 68) (.t 65) true (.ld (.t 67)), .gp (.t 69) (.t 65)
  true (.sc .eql (.t 68) (.c (.string ⟨#[97, 108, 108]⟩))), .p (.t 70) (.pick (.t 65) (.t 69) (.c (.bool false))), .p (.v 2) (.mv (.t 70))]) .ret)))))))
def r_lnkw : List RV := [.t 2]

theorem kw_not (i : Nat) (h : i < 20) : validF (kwL.getD i []) = false := by
  have : ∀ m : Fin 20, validF (kwL.getD m.val []) = false := by decide +kernel
  exact this ⟨i, h⟩
theorem kw_x (i : Nat) (h : i < 20) : validF ([120] ++ kwL.getD i []) = true := by
  have : ∀ m : Fin 20, validF ([120] ++ kwL.getD m.val []) = true := by decide +kernel
  exact this ⟨i, h⟩
theorem kw_2 (i : Nat) (h : i < 20) : validF (kwL.getD i [] ++ [50]) = true := by
  have : ∀ m : Fin 20, validF (kwL.getD m.val [] ++ [50]) = true := by decide +kernel
  exact this ⟨i, h⟩
theorem kw_len (i : Nat) (h : i < 20) : (kwL.getD i []).length ≤ 10 := by
  have : ∀ m : Fin 20, (kwL.getD m.val []).length ≤ 10 := by decide +kernel
  exact this ⟨i, h⟩
theorem kw_asc (i : Nat) (h : i + 1 < 20) : Op.bytesLess (⟨(kwL.getD i []).toArray⟩ : ByteArray).toList (⟨(kwL.getD (i + 1) []).toArray⟩ : ByteArray).toList = true := by
  have : ∀ m : Fin 19, Op.bytesLess (⟨(kwL.getD m.val []).toArray⟩ : ByteArray).toList (⟨(kwL.getD (m.val + 1) []).toArray⟩ : ByteArray).toList = true := by decide +kernel
  exact this ⟨i, by omega⟩
theorem lnkw_ok {P : Program} {ι : Ids} {k : FuncId} (hk : FnIs P k (c_lnkw ι) r_lnkw 1) (ha : NAwakeSpec P (ι.f 91)) (hkw : KwSpec P (ι.f 68)) (hrk : KwSpec P (ι.f 69)) (hsm : SameSpec P (ι.f 93)) (hva : ValidSpec P (ι.f 75))
    (n : UInt8) (H : Hp) : CallsM P k #[.int .u8 n.toNat] H fun r H' => r = .bool true ∧ Keep (fun _ => False) H H' := by
  refine calls_of_vc hk (args := [_]) (by simp) ?_
  unfold c_lnkw r_lnkw
  simp only [go_sem, List.map_cons, List.map_nil, ↓reduceIte, Nat.reduceEqDiff, Nat.reduceAdd, Nat.reduceMul, reduceCtorEq, and_true, true_and, Nat.mul_one, Nat.zero_add, Bool.false_eq_true, decide_true, decide_false, not_false_eq_true, kont_eq, beq_self_eq_true, bne_self_eq_false, Int.reduceBEq, Int.reduceBNe, Int.cast_ofNat_Int]
  refine (ha _).mono ?_
  rintro r H1 ⟨rfl, K1⟩
  simp only [go_sem, List.map_cons, List.map_nil, ↓reduceIte, Nat.reduceEqDiff, Nat.reduceAdd, Nat.reduceMul, reduceCtorEq, and_true, true_and, Nat.mul_one, Nat.zero_add, Bool.false_eq_true, decide_true, decide_false, not_false_eq_true, kont_eq, beq_self_eq_true, bne_self_eq_false, Int.reduceBEq, Int.reduceBNe, Int.cast_ofNat_Int]
  refine (hkw _).mono ?_
  rintro r H2 ⟨rfl, B2, K2, z2⟩
  simp only [go_sem, List.map_cons, List.map_nil, ↓reduceIte, Nat.reduceEqDiff, Nat.reduceAdd, Nat.reduceMul, reduceCtorEq, and_true, true_and, Nat.mul_one, Nat.zero_add, Bool.false_eq_true, decide_true, decide_false, not_false_eq_true, kont_eq, beq_self_eq_true, bne_self_eq_false, Int.reduceBEq, Int.reduceBNe, Int.cast_ofNat_Int]
  refine (hrk _).mono ?_
  rintro r H3 ⟨rfl, B3, K3, z3⟩
  have B2' := K3.bl B2 (by simp)
  simp only [go_sem, List.map_cons, List.map_nil, ↓reduceIte, Nat.reduceEqDiff, Nat.reduceAdd, Nat.reduceMul, reduceCtorEq, and_true, true_and, Nat.mul_one, Nat.zero_add, Bool.false_eq_true, decide_true, decide_false, not_false_eq_true, kont_eq, beq_self_eq_true, bne_self_eq_false, Int.reduceBEq, Int.reduceBNe, Int.cast_ofNat_Int]
  refine (hsm kwL kwL _ _ _ (kw_sl B2') (kw_sl B3) (by decide)).mono ?_
  rintro r H3' ⟨rfl, rfl⟩
  have hn := n.toNat_lt
  have w1 : IntKind.i64.wrap (n.toNat : Int) = (n.toNat : Int) := IntWalk.i64_in _ ⟨by omega, by omega⟩
  have m1 : ((n.toNat : Int)).tmod 20 = ((n.toNat % 20 : Nat) : Int) := by rw [Int.tmod_eq_emod_of_nonneg (by omega)]; omega
  have hci : ∀ {i : Nat}, i < 20 → cell H3' ⟨H1.size, i, none⟩ = some (sV (kwL.getD i [])) := fun {i} h => by
    rw [B2'.cell i, sL_get _ _ (by show _ < 20; omega)]
  have c20 : ((20 : Nat) : Int) = 20 := rfl
  have hm := hci (i := n.toNat % 20) (by omega)
  simp (disch := omega) only [go_sem, List.map_cons, List.map_nil, ↓reduceIte, Nat.reduceEqDiff, Nat.reduceAdd, Nat.reduceMul, reduceCtorEq, and_true, true_and, Nat.mul_one, Nat.zero_add, Bool.false_eq_true, decide_true, decide_false, not_false_eq_true, kont_eq, beq_self_eq_true, bne_self_eq_false, Int.reduceBEq, Int.reduceBNe, Int.cast_ofNat_Int, w1, m1, tn_cast, hm]
  refine And.intro (by omega) (And.intro ⟨by omega, by omega⟩ ?_)
  refine vc_loop [27, 5, 58, 2, 26] rfl (fun q f H' => ∃ i, i ≤ 20 ∧ q = 20 - i ∧ f 26 = .int .i64 i ∧ Keep (fun _ => False) H3' H') 20
    ⟨0, by omega, by omega, rfl, Keep.refl _ _⟩ ?_
  rintro q g H4 ⟨i, hi, rfl, hf26, K4⟩
  simp only [go_sem, List.map_cons, List.map_nil, ↓reduceIte, Nat.reduceEqDiff, Nat.reduceAdd, Nat.reduceMul, reduceCtorEq, and_true, true_and, Nat.mul_one, Nat.zero_add, Bool.false_eq_true, decide_true, decide_false, not_false_eq_true, kont_eq, beq_self_eq_true, bne_self_eq_false, Int.reduceBEq, Int.reduceBNe, Int.cast_ofNat_Int] at hf26
  simp only [go_sem, List.map_cons, List.map_nil, ↓reduceIte, Nat.reduceEqDiff, Nat.reduceAdd, Nat.reduceMul, reduceCtorEq, and_true, true_and, Nat.mul_one, Nat.zero_add, Bool.false_eq_true, decide_true, decide_false, not_false_eq_true, kont_eq, beq_self_eq_true, bne_self_eq_false, Int.reduceBEq, Int.reduceBNe, Int.cast_ofNat_Int, hf26]
  have cd : ∀ {i : Nat}, i < 20 → cell H4 ⟨H1.size, i, none⟩ = some (sV (kwL.getD i [])) := fun {i} h => by
    rw [(K4.bl B2' (by simp)).cell i, sL_get _ _ (by show _ < 20; omega)]
  refine iteV_dec (fun hlt => ?_) (fun hge => ?_)
  · have hi2 : i < 20 := by omega
    have h1 := kw_not i hi2
    have h2 := kw_x i hi2
    have h3 := kw_len i hi2
    have ci := cd hi2
    have hli : (kwL.getD i []).length ≤ 1000000 := by omega
    refine vc_drk (fun _ => False) ?_
    simp (disch := omega) only [go_sem, List.map_cons, List.map_nil, ↓reduceIte, Nat.reduceEqDiff, Nat.reduceAdd, Nat.reduceMul, reduceCtorEq, and_true, true_and, Nat.mul_one, Nat.zero_add, Bool.false_eq_true, decide_true, decide_false, not_false_eq_true, kont_eq, beq_self_eq_true, bne_self_eq_false, Int.reduceBEq, Int.reduceBNe, Int.cast_ofNat_Int, hf26, tn_cast, ci]
    refine And.intro ⟨by omega, by omega⟩ ?_
    refine (hva _ _ hli).mono ?_
    rintro r H5 ⟨rfl, K5⟩
    have cj : ∀ {i : Nat}, i < 20 → cell H5 ⟨H1.size, i, none⟩ = some (sV (kwL.getD i [])) := fun {i} h => by
      rw [((K4.trans K5).bl B2' (by simp)).cell i, sL_get _ _ (by show _ < 20; omega)]
    rw [h1]
    have cji := cj hi2
    have as0 : ∀ j, i = j + 1 → Op.bytesLess (⟨(kwL.getD j []).toArray⟩ : ByteArray).toList (⟨(kwL.getD i []).toArray⟩ : ByteArray).toList = true := fun j e => by subst e; exact kw_asc j hi2
    generalize hx : kwL.getD i [] = x at *
    simp only [go_sem, List.map_cons, List.map_nil, ↓reduceIte, Nat.reduceEqDiff, Nat.reduceAdd, Nat.reduceMul, reduceCtorEq, and_true, true_and, Nat.mul_one, Nat.zero_add, Bool.false_eq_true, decide_true, decide_false, not_false_eq_true, kont_eq, hf26, tn_cast, cji]
    rw [ba_app]
    refine ⟨K5, ⟨by omega, by omega⟩, by unfold maxLen; omega, ?_⟩
    refine (hva _ _ (by simp; omega)).mono ?_
    rintro r H6 ⟨rfl, K6⟩
    have ck : ∀ {i : Nat}, i < 20 → cell H6 ⟨H1.size, i, none⟩ = some (sV (kwL.getD i [])) := fun {i} h => by
      rw [(((K4.trans K5).trans K6).bl B2' (by simp)).cell i, sL_get _ _ (by show _ < 20; omega)]
    rw [h2]
    by_cases c0 : i = 0
    · subst c0
      simp (disch := omega) only [go_sem, List.map_cons, List.map_nil, ↓reduceIte, Nat.reduceEqDiff, Nat.reduceAdd, Nat.reduceMul, reduceCtorEq, and_true, true_and, Nat.mul_one, Nat.zero_add, Bool.false_eq_true, decide_true, decide_false, not_false_eq_true, kont_eq, beq_self_eq_true, bne_self_eq_false, Int.reduceBEq, Int.reduceBNe, Int.cast_ofNat_Int, hf26, tn_cast, Int.natCast_zero, Int.reduceLT, gt_iff_lt, Int.lt_irrefl, IntWalk.i64_in]
      exact ⟨K6, 20 - (0 + 1), by omega, 1, by omega, rfl, rfl, (K4.trans K5).trans K6⟩
    · have c1 : (i : Int) > 0 := by omega
      have cki := ck hi2
      rw [hx] at cki
      obtain ⟨j, rfl⟩ : ∃ j, i = j + 1 := ⟨i - 1, by omega⟩
      have ckj := ck (show j < 20 by omega)
      have ej : ((j + 1 : Nat) : Int) - 1 = (j : Int) := by omega
      have as := as0 j rfl
      have wj : IntKind.i64.wrap (j : Int) = (j : Int) := IntWalk.i64_in _ ⟨by omega, by omega⟩
      have wi : IntKind.i64.wrap (((j + 1 : Nat) : Int) + 1) = ((j + 1 + 1 : Nat) : Int) := IntWalk.i64_in _ ⟨by omega, by omega⟩
      generalize kwL.getD j [] = y at *
      simp only [go_sem, List.map_cons, List.map_nil, ↓reduceIte, Nat.reduceEqDiff, Nat.reduceAdd, Nat.reduceMul, reduceCtorEq, and_true, true_and, Nat.mul_one, Nat.zero_add, Bool.false_eq_true, decide_true, decide_false, not_false_eq_true, kont_eq, beq_self_eq_true, bne_self_eq_false, Int.reduceBEq, Int.reduceBNe, Int.cast_ofNat_Int, hf26, tn_cast, c1, ej, wj, cki, ckj, as]
      simp only [go_sem, List.map_cons, List.map_nil, ↓reduceIte, Nat.reduceEqDiff, Nat.reduceAdd, Nat.reduceMul, reduceCtorEq, and_true, true_and, Nat.mul_one, Nat.zero_add, Bool.false_eq_true, decide_true, decide_false, not_false_eq_true, kont_eq, beq_self_eq_true, bne_self_eq_false, Int.reduceBEq, Int.reduceBNe, Int.cast_ofNat_Int, hf26, wi]
      exact ⟨K6, ⟨by omega, by omega⟩, ⟨by omega, by omega⟩, 20 - (j + 1 + 1), by omega, j + 1 + 1, by omega, rfl, rfl, (K4.trans K5).trans K6⟩
  · have BB := K4.bl B2' (by simp)
    have hw2 := kw_2 (n.toNat % 20) (by omega)
    have hwl := kw_len (n.toNat % 20) (by omega)
    generalize kwL.getD (n.toNat % 20) [] = w at *
    rw [ba_app]
    have hst := (BB.okSt (o := 0) (by rw [sL_len]; decide))
    refine ⟨by decide, hst, by unfold maxLen; simp [ba_size]; omega, ?_⟩
    generalize hS : setc H4 _ _ = H5
    have K5 : Keep (fun k => k = H1.size) H4 H5 := by rw [← hS]; exact (Keep.refl _ _).setc _ (.inl rfl)
    have K5' : Keep (fun _ => False) H1 H5 := ((K2.trans K3).trans K4).trans' K5 (fun j hj h => by omega)
    refine (hva _ _ (by simp; omega)).mono ?_
    rintro r H6 ⟨rfl, K6⟩
    rw [hw2]
    simp only [go_sem, List.map_cons, List.map_nil, ↓reduceIte, Nat.reduceEqDiff, Nat.reduceAdd, Nat.reduceMul, reduceCtorEq, and_true, true_and, Nat.mul_one, Nat.zero_add, Bool.false_eq_true, decide_true, decide_false, not_false_eq_true, kont_eq, beq_self_eq_true, bne_self_eq_false, Int.reduceBEq, Int.reduceBNe, Int.cast_ofNat_Int]
    refine (hkw _).mono ?_
    rintro r H7 ⟨rfl, B7, K7, z7⟩
    have c7 := B7.cell 0
    rw [sL_get _ _ (by decide)] at c7
    have e7 : kwL.getD 0 [] = [97, 108, 108] := rfl
    rw [e7] at c7
    simp only [go_sem, List.map_cons, List.map_nil, ↓reduceIte, Nat.reduceEqDiff, Nat.reduceAdd, Nat.reduceMul, reduceCtorEq, and_true, true_and, Nat.mul_one, Nat.zero_add, Bool.false_eq_true, decide_true, decide_false, not_false_eq_true, kont_eq, beq_self_eq_true, bne_self_eq_false, Int.reduceBEq, Int.reduceBNe, Int.cast_ofNat_Int, c7]
    exact ⟨by decide, ((K1.trans K5').trans K6).trans K7⟩
end Go.Mg

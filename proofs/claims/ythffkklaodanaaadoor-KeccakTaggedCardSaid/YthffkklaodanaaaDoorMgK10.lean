/- keccak: the law of copies. -/
import Derived.Test.YthffkklaodanaaaDoorMgK9
import Derived.Test.YthffkklaodanaaaDoorMgOwn
namespace Go.Mg
open Go Go.RowKit
set_option linter.unusedSimpArgs false
set_option linter.unusedVariables false
set_option maxRecDepth 100000
/- arbaclaw03.KeccakCopies -/
def c_lcopies (ι : Ids) : S :=
  .seq (.reg [.p (.v 6) (.mv (.c (.bool false)))]) (.seq (.seq (.reg [.e (.t 9) (.call (ι.f 21) []), .p (.v 10) (.not (.t 9))]) (.ite (.v 10) (.seq (.reg [.p (.v 6) (.mv (.c (.bool false)))]) .ret)
  .skip)) (.seq (.reg [.p (.t 11) (.mv (.v 0)), .e (.t 12) (.call (ι.f 18) [.t 11]), .p (.t 13) (.mv (.v 1)), .e (.t 14) (.call (ι.f 18) [.t 13]), .p (.t 15) (.mv (.v 2)), .e (.t 16) (.call (ι.f 18) [.t
  15]), .p (.v 0) (.mv (.t 12)), .p (.v 1) (.mv (.t 14)), .p (.v 2) (.mv (.t 16))]) (.seq (.reg [.e (.t 17) (.call (ι.f 13) []), .p (.v 7) (.mv (.t 17))]) (.seq (.reg [.p (.t 18) (.mv (.v 7)), .p (.t
  19) (.mv (.v 0)), .e (.t 20) (.call (ι.f 8) [.t 18, .t 19])]) (.seq (.reg [.p (.t 21) (.mv (.v 7)), .e (.t 22) (.call (ι.f 16) [.t 21]), .p (.v 8) (.mv (.t 22))]) (.seq (.reg [.p (.t 23) (.mv (.v 7)),
  .p (.t 24) (.mv (.v 1)), .e (.t 25) (.call (ι.f 8) [.t 23, .t 24])]) (.seq (.reg [.p (.t 26) (.mv (.v 8)), .p (.t 27) (.mv (.v 2)), .e (.t 28) (.call (ι.f 8) [.t 26, .t 27])]) (.seq (.reg [.p (.t 29)
  (.mv (.v 7)), .e (.t 30) (.call (ι.f 11) [.t 29]), .e (.t 31) (.bldF (ι.t 19) 1 0 []), .p (.t 32) (.mv (.v 0)), .e (.t 33) (.app false (ι.t 19) 1 1 #[.int .u8 0] (.t 31) (.t 32)), .p (.t 34) (.mv (.v
  1)), .e (.t 35) (.app false (ι.t 19) 1 1 #[.int .u8 0] (.t 33) (.t 34)), .e (.t 36) (.call (ι.f 14) [.t 35]), .p (.t 37) (.m (.eqa false .u8 32 (.t 30) (.t 36))), .p (.t 38) (.mv (.t 37)), .gp (.t 39)
  (.t 38) true (.mv (.v 8)), .ge (.t 40) (.t 38) true (.call (ι.f 11) [.t 39]), .ge (.t 41) (.t 38) true (.bldF (ι.t 19) 1 0 []), .gp (.t 42) (.t 38) true (.mv (.v 0)), .ge (.t 43) (.t 38) true (.app
  false (ι.t 19) 1 1 #[.int .u8 0] (.t 41) (.t 42)), .gp (.t 44) (.t 38) true (.mv (.v 2)), .ge (.t 45) (.t 38) true (.app false (ι.t 19) 1 1 #[.int .u8 0] (.t 43) (.t 44)), .ge (.t 46) (.t 38) true
  (.call (ι.f 14) [.t 45]), .gp (.t 47) (.t 38) true (.m (.eqa false .u8 32 (.t 40) (.t 46))), .p (.t 48) (.pick (.t 38) (.t 47) (.c (.bool false))), .p (.t 49) (.mv (.t 48)), .gp (.t 50) (.t 49) true
  (.mv (.v 7)), .ge (.t 51) (.t 49) true (.call (ι.f 15) [.t 50]), .gp (.t 52) (.t 49) true (.mv (.v 0)), .gp (.t 53) (.t 49) true (.m (.lenl (.t 52))), .gp (.t 54) (.t 49) true (.mv (.v 1)), .gp (.t
  55) (.t 49) true (.m (.lenl (.t 54))), .gp (.t 56) (.t 49) true (.ar .add .i64 (.t 53) (.t 55)), .gp (.t 57) (.t 49) true (.ii .u64 (.t 56)), .gp (.t 58) (.t 49) true (.cm .eql .u64 (.t 51) (.t 57)),
  .p (.t 59) (.pick (.t 49) (.t 58) (.c (.bool false))), .p (.t 60) (.mv (.t 59)), .gp (.t 61) (.t 60) true (.mv (.v 8)), .ge (.t 62) (.t 60) true (.call (ι.f 15) [.t 61]), .gp (.t 63) (.t 60) true (.mv
  (.v 0)), .gp (.t 64) (.t 60) true (.m (.lenl (.t 63))), .gp (.t 65) (.t 60) true (.mv (.v 2)), .gp (.t 66) (.t 60) true (.m (.lenl (.t 65))), .gp (.t 67) (.t 60) true (.ar .add .i64 (.t 64) (.t 66)),
  .gp (.t 68) (.t 60) true (.ii .u64 (.t 67)), .gp (.t 69) (.t 60) true (.cm .eql .u64 (.t 62) (.t 68)), .p (.t 70) (.pick (.t 60) (.t 69) (.c (.bool false))), .p (.v 6) (.mv (.t 70))]) .ret))))))))
def r_lcopies : List RV := [.t 6]

theorem len_sum (n m : Nat) (h : n + m < 1000000000) : IntKind.u64.wrap (IntKind.i64.wrap ((n : Int) + (m : Int))) = ((UInt64.ofNat (n + m)).toNat : Int) := by
  rw [IntWalk.i64_in _ ⟨by omega, by omega⟩, IntKind.wrap_u64, UInt64.toNat_ofNat']; omega
theorem copies_ok {P : Program} {ι : Ids} {k : FuncId} (hk : FnIs P k (c_lcopies ι) r_lcopies 3) (ha : AwakeSpec P ι (ι.f 21)) (hn : NewSpec P (ι.f 13)) (hsh : ShortSpec P (ι.f 18))
    (hw : WriteSpec P ι (ι.f 8)) (hc : HCopySpec P (ι.f 16)) (hl : HLenSpec P (ι.f 15)) (hs : HSumSpec P ι (ι.f 11)) (hks : KSumSpec P ι (ι.f 14))
    (a b c : List UInt8) (va vb vc : Value) (H : Hp) (hG : GlobOk ι H) (hva : SlR H va (w8 a)) (hvb : SlR H vb (w8 b)) (hvc : SlR H vc (w8 c)) : CallsM P k #[va, vb, vc] H fun r H' => r = .bool true ∧ Keep (fun _ => False) H H' := by
  refine calls_of_vc hk (args := [_, _, _]) (by simp) ?_
  unfold c_lcopies r_lcopies
  simp only [go_sem, List.map_cons, List.map_nil, ↓reduceIte, Nat.reduceEqDiff, Nat.reduceAdd, Nat.reduceMul, reduceCtorEq, and_true, true_and, Nat.mul_one, Nat.zero_add, Bool.false_eq_true, decide_true, decide_false, not_false_eq_true, kont_eq]
  refine (ha _ hG).mono ?_
  rintro r H1 ⟨rfl, K1⟩
  simp only [go_sem, List.map_cons, List.map_nil, ↓reduceIte, Nat.reduceEqDiff, Nat.reduceAdd, Nat.reduceMul, reduceCtorEq, and_true, true_and, Nat.mul_one, Nat.zero_add, Bool.false_eq_true, decide_true, decide_false, not_false_eq_true, kont_eq]
  refine (hsh a va _ (hva.keep K1 (by simp))).mono ?_
  rintro va' H1' ⟨Sa, sba, rfl⟩
  simp only [go_sem, List.map_cons, List.map_nil, ↓reduceIte, Nat.reduceEqDiff, Nat.reduceAdd, Nat.reduceMul, reduceCtorEq, and_true, true_and, Nat.mul_one, Nat.zero_add, Bool.false_eq_true, decide_true, decide_false, not_false_eq_true, kont_eq]
  refine (hsh b vb _ (hvb.keep K1 (by simp))).mono ?_
  rintro vb' H1' ⟨Sb, sbb, rfl⟩
  simp only [go_sem, List.map_cons, List.map_nil, ↓reduceIte, Nat.reduceEqDiff, Nat.reduceAdd, Nat.reduceMul, reduceCtorEq, and_true, true_and, Nat.mul_one, Nat.zero_add, Bool.false_eq_true, decide_true, decide_false, not_false_eq_true, kont_eq]
  refine (hsh c vc _ (hvc.keep K1 (by simp))).mono ?_
  rintro vc' H1' ⟨Sc, sbc, rfl⟩
  simp only [go_sem, List.map_cons, List.map_nil, ↓reduceIte, Nat.reduceEqDiff, Nat.reduceAdd, Nat.reduceMul, reduceCtorEq, and_true, true_and, Nat.mul_one, Nat.zero_add, Bool.false_eq_true, decide_true, decide_false, not_false_eq_true, kont_eq]
  have k1 := K1.size
  refine (hn _).mono ?_
  rintro r H2 ⟨rfl, B2, K2, z2⟩
  have K2' := K1.trans K2
  simp only [go_sem, List.map_cons, List.map_nil, ↓reduceIte, Nat.reduceEqDiff, Nat.reduceAdd, Nat.reduceMul, reduceCtorEq, and_true, true_and, Nat.mul_one, Nat.zero_add, Bool.false_eq_true, decide_true, decide_false, not_false_eq_true, kont_eq]
  have la : (a.take 600).length ≤ 600 := by rw [List.length_take]; omega
  have lb : (b.take 600).length ≤ 600 := by rw [List.length_take]; omega
  have lc : (c.take 600).length ≤ 600 := by rw [List.length_take]; omega
  generalize a.take 600 = a' at *
  generalize b.take 600 = b' at *
  generalize c.take 600 = c' at *
  have oa : ∀ k, slB va' k → k < H.size := fun k h => hva.old (sba k h)
  have ob : ∀ k, slB vb' k → k < H.size := fun k h => hvb.old (sbb k h)
  have oc : ∀ k, slB vc' k → k < H.size := fun k h => hvc.old (sbc k h)
  refine (hw _ _ _ _ _ B2 (Sa.keep K2 (by simp)) (fun h => by have := oa _ h; omega) (hG.new k1) (hG.keep K2' (by simp) (by simp))).mono ?_
  rintro r H3 ⟨rfl, B3, K3⟩
  have K3' : Keep (fun _ => False) H H3 := K2'.trans' K3 (fun i hi e => by omega)
  simp only [go_sem, List.map_cons, List.map_nil, ↓reduceIte, Nat.reduceEqDiff, Nat.reduceAdd, Nat.reduceMul, reduceCtorEq, and_true, true_and, Nat.mul_one, Nat.zero_add, Bool.false_eq_true, decide_true, decide_false, not_false_eq_true, kont_eq, List.nil_append] at B3 ⊢
  refine (hc.1 _ _ _ B3).mono ?_
  rintro r H4 ⟨rfl, B4, K4, z4⟩
  simp only [go_sem, List.map_cons, List.map_nil, ↓reduceIte, Nat.reduceEqDiff, Nat.reduceAdd, Nat.reduceMul, reduceCtorEq, and_true, true_and, Nat.mul_one, Nat.zero_add, Bool.false_eq_true, decide_true, decide_false, not_false_eq_true, kont_eq]
  have K4' := K3'.trans K4
  have b4 := B3.keep K4 (by simp)
  have hne : H1'.size ≠ H3.size := by have := B3.lt; omega
  have old4 : ∀ {v l}, SlR H1' v l → (∀ k, slB v k → k < H.size) → SlR H4 v l := fun h ho => ((h.keep K2 (by simp)).keep K3 (fun k hk e => by have := ho k hk; omega)).keep K4 (by simp)
  have Sa4 := old4 Sa oa
  have Sb4 := old4 Sb ob
  have Sc4 := old4 Sc oc
  refine (hw _ _ _ _ _ b4 Sb4 (fun h => by have := ob _ h; omega) (hG.new k1) (hG.keep K4' (by simp) (by simp))).mono ?_
  rintro r H5 ⟨rfl, B5, K5⟩
  have K5' : Keep (fun _ => False) H H5 := K4'.trans' K5 (fun i hi e => by omega)
  simp only [go_sem, List.map_cons, List.map_nil, ↓reduceIte, Nat.reduceEqDiff, Nat.reduceAdd, Nat.reduceMul, reduceCtorEq, and_true, true_and, Nat.mul_one, Nat.zero_add, Bool.false_eq_true, decide_true, decide_false, not_false_eq_true, kont_eq]
  have c5 := B4.keep K5 (Ne.symm hne)
  have k3 := K3'.size
  refine (hw _ _ _ _ _ c5 (Sc4.keep K5 (fun k hk e => by have := oc k hk; omega)) (fun h => by have := oc _ h; omega) (hG.new k3) (hG.keep K5' (by simp) (by simp))).mono ?_
  rintro r H6 ⟨rfl, C6, K6⟩
  have K6' : Keep (fun _ => False) H H6 := K5'.trans' K6 (fun i hi e => by omega)
  have B6 := B5.keep K6 hne
  have old6 : ∀ {v l}, SlR H4 v l → (∀ k, slB v k → k < H.size) → SlR H6 v l := fun h ho => ((h.keep K5 (fun k hk e => by have := ho k hk; omega)).keep K6 (fun k hk e => by have := ho k hk; omega))
  have Sa6 := old6 Sa4 oa
  have Sb6 := old6 Sb4 ob
  have Sc6 := old6 Sc4 oc
  simp only [go_sem, List.map_cons, List.map_nil, ↓reduceIte, Nat.reduceEqDiff, Nat.reduceAdd, Nat.reduceMul, reduceCtorEq, and_true, true_and, Nat.mul_one, Nat.zero_add, Bool.false_eq_true, decide_true, decide_false, not_false_eq_true, kont_eq]
  refine (hs _ _ _ B6 (hG.keep K6' (by simp) (by simp))).mono ?_
  rintro r H7 ⟨rfl, K7⟩
  have K7' := K6'.trans K7
  rw [kont_eq]
  simp only [go_sem, List.map_cons, List.map_nil, ↓reduceIte, Nat.reduceEqDiff, Nat.reduceAdd, Nat.reduceMul, reduceCtorEq, and_true, true_and, Nat.mul_one, Nat.zero_add, Bool.false_eq_true, decide_true, decide_false, not_false_eq_true]
  refine kont_news fun H8 b8 e8 z8 B8 K8 => ?_
  have K68 := K7.trans K8
  have k68 := K68.size
  have k7 := K7.size
  simp only [go_sem, List.map_cons, List.map_nil, ↓reduceIte, Nat.reduceEqDiff, Nat.reduceAdd, Nat.reduceMul, reduceCtorEq, and_true, true_and, Nat.mul_one, Nat.zero_add, Bool.false_eq_true, decide_true, decide_false, not_false_eq_true, kont_eq]
  refine app_bytesN H6.size (l := []) (m := a') (OwS.new B8 rfl rfl) (fun k (h : k = b8) => by omega) (by omega) (Sa6.keep K68 (by simp)) rfl (by simp; omega) fun v9 H9 O9 n9 K9 => ?_
  have K69 : Keep (fun _ => False) H6 H9 := K68.at_old K9 (by omega)
  have k69 := K69.size
  simp only [go_sem, List.map_cons, List.map_nil, ↓reduceIte, Nat.reduceEqDiff, Nat.reduceAdd, Nat.reduceMul, reduceCtorEq, and_true, true_and, Nat.mul_one, Nat.zero_add, Bool.false_eq_true, decide_true, decide_false, not_false_eq_true, kont_eq]
  refine app_bytesN H6.size (l := [] ++ a') (m := b') O9 n9 (by omega) (Sb6.keep K69 (by simp)) rfl (by simp; omega) fun v10 H10 O10 n10 K10 => ?_
  have K610 := K69.at_old K10 (by omega)
  have k610 := K610.size
  simp only [go_sem, List.map_cons, List.map_nil, ↓reduceIte, Nat.reduceEqDiff, Nat.reduceAdd, Nat.reduceMul, reduceCtorEq, and_true, true_and, Nat.mul_one, Nat.zero_add, Bool.false_eq_true, decide_true, decide_false, not_false_eq_true, kont_eq, List.nil_append] at O10 ⊢
  refine (hks _ _ _ O10.sl (hG.keep (K6'.trans K610) (by simp) (by simp))).mono ?_
  rintro r H11 ⟨rfl, K11⟩
  have K611 := K610.trans K11
  simp only [go_sem, List.map_cons, List.map_nil, ↓reduceIte, Nat.reduceEqDiff, Nat.reduceAdd, Nat.reduceMul, reduceCtorEq, and_true, true_and, Nat.mul_one, Nat.zero_add, Bool.false_eq_true, decide_true, decide_false, not_false_eq_true, kont_eq, w8_len, sumF_len, w8_eqv, decide_true, beq_self_eq_true]
  refine ⟨⟨w8_isI _, w8_isI _⟩, ?_⟩
  have C11 := C6.keep K611 (by simp)
  refine (hs _ _ _ C11 (hG.keep (K6'.trans K611) (by simp) (by simp))).mono ?_
  rintro r H12 ⟨rfl, K12⟩
  have K612 := K611.trans K12
  have k612 := K612.size
  rw [kont_eq]
  simp only [go_sem, List.map_cons, List.map_nil, ↓reduceIte, Nat.reduceEqDiff, Nat.reduceAdd, Nat.reduceMul, reduceCtorEq, and_true, true_and, Nat.mul_one, Nat.zero_add, Bool.false_eq_true, decide_true, decide_false, not_false_eq_true]
  refine kont_news fun H13 b13 e13 z13 B13 K13 => ?_
  have K613 := K612.trans K13
  have k613 := K613.size
  simp only [go_sem, List.map_cons, List.map_nil, ↓reduceIte, Nat.reduceEqDiff, Nat.reduceAdd, Nat.reduceMul, reduceCtorEq, and_true, true_and, Nat.mul_one, Nat.zero_add, Bool.false_eq_true, decide_true, decide_false, not_false_eq_true, kont_eq]
  refine app_bytesN H6.size (l := []) (m := a') (OwS.new B13 rfl rfl) (fun k (h : k = b13) => by omega) (by omega) (Sa6.keep K613 (by simp)) rfl (by simp; omega) fun v14 H14 O14 n14 K14 => ?_
  have K614 := K613.at_old K14 (by omega)
  have k614 := K614.size
  simp only [go_sem, List.map_cons, List.map_nil, ↓reduceIte, Nat.reduceEqDiff, Nat.reduceAdd, Nat.reduceMul, reduceCtorEq, and_true, true_and, Nat.mul_one, Nat.zero_add, Bool.false_eq_true, decide_true, decide_false, not_false_eq_true, kont_eq]
  refine app_bytesN H6.size (l := [] ++ a') (m := c') O14 n14 (by omega) (Sc6.keep K614 (by simp)) rfl (by simp; omega) fun v15 H15 O15 n15 K15 => ?_
  have K615 := K614.at_old K15 (by omega)
  simp only [go_sem, List.map_cons, List.map_nil, ↓reduceIte, Nat.reduceEqDiff, Nat.reduceAdd, Nat.reduceMul, reduceCtorEq, and_true, true_and, Nat.mul_one, Nat.zero_add, Bool.false_eq_true, decide_true, decide_false, not_false_eq_true, kont_eq, List.nil_append] at O15 ⊢
  refine (hks _ _ _ O15.sl (hG.keep (K6'.trans K615) (by simp) (by simp))).mono ?_
  rintro r H16 ⟨rfl, K16⟩
  have K616 := K615.trans K16
  simp only [go_sem, List.map_cons, List.map_nil, ↓reduceIte, Nat.reduceEqDiff, Nat.reduceAdd, Nat.reduceMul, reduceCtorEq, and_true, true_and, Nat.mul_one, Nat.zero_add, Bool.false_eq_true, decide_true, decide_false, not_false_eq_true, kont_eq, w8_len, sumF_len, w8_eqv, decide_true, beq_self_eq_true]
  refine ⟨⟨w8_isI _, w8_isI _⟩, ?_⟩
  refine (hl.1 _ _ _ (B6.keep K616 (by simp))).mono ?_
  rintro r H17 ⟨rfl, rfl⟩
  simp (disch := omega) only [go_sem, List.map_cons, List.map_nil, ↓reduceIte, Nat.reduceEqDiff, Nat.reduceAdd, Nat.reduceMul, reduceCtorEq, and_true, true_and, Nat.mul_one, Nat.zero_add, Bool.false_eq_true, decide_true, decide_false, not_false_eq_true, kont_eq, Sa6.len, Sb6.len, Sa6.isSl, Sb6.isSl, w8_len, len_sum, List.length_append, beq_self_eq_true]
  refine (hl.1 _ _ _ (C6.keep K616 (by simp))).mono ?_
  rintro r H18 ⟨rfl, rfl⟩
  simp (disch := omega) only [go_sem, List.map_cons, List.map_nil, ↓reduceIte, Nat.reduceEqDiff, Nat.reduceAdd, Nat.reduceMul, reduceCtorEq, and_true, true_and, Nat.mul_one, Nat.zero_add, Bool.false_eq_true, decide_true, decide_false, not_false_eq_true, kont_eq, Sa6.len, Sc6.len, Sa6.isSl, Sc6.isSl, w8_len, len_sum, List.length_append, beq_self_eq_true]
  exact K6'.trans K616
end Go.Mg

/- keccak: the laws of copies and of resets. -/
import Derived.Test.YthffkklaodanaaaDoorMgK8
namespace Go.Mg
open Go Go.RowKit
set_option linter.unusedSimpArgs false
set_option linter.unusedVariables false
set_option maxRecDepth 100000
/- arbaclaw03.KeccakResets -/
def c_lreset (ι : Ids) : S :=
  .seq (.reg [.p (.v 4) (.mv (.c (.bool false)))]) (.seq (.seq (.reg [.e (.t 7) (.call (ι.f 21) []), .p (.v 8) (.not (.t 7))]) (.ite (.v 8) (.seq (.reg [.p (.v 4) (.mv (.c (.bool false)))]) .ret)
  .skip)) (.seq (.reg [.e (.t 9) (.call (ι.f 13) []), .p (.v 5) (.mv (.t 9))]) (.seq (.reg [.p (.t 10) (.mv (.v 5)), .p (.t 11) (.mv (.v 0)), .e (.t 12) (.call (ι.f 18) [.t 11]), .e (.t 13) (.call (ι.f
  8) [.t 10, .t 12])]) (.seq (.reg [.p (.t 14) (.mv (.v 5)), .e (.t 15) (.call (ι.f 16) [.t 14]), .p (.v 6) (.mv (.t 15))]) (.seq (.reg [.p (.t 16) (.mv (.v 5)), .e (.t 17) (.call (ι.f 17) [.t 16])])
  (.seq (.seq (.reg [.p (.t 18) (.mv (.v 5)), .e (.t 19) (.call (ι.f 15) [.t 18]), .p (.t 20) (.cm .neq .u64 (.t 19) (.c (.int .u64 0))), .p (.t 21) (.mv (.t 20)), .gp (.t 22) (.t 21) false (.mv (.v
  5)), .ge (.t 23) (.t 21) false (.call (ι.f 11) [.t 22]), .ge (.t 24) (.t 21) false (.call (ι.f 14) [.c (.slice .none 0 0)]), .gp (.t 25) (.t 21) false (.m (.eqa true .u8 32 (.t 23) (.t 24))), .p (.v
  26) (.pick (.t 21) (.c (.bool true)) (.t 25))]) (.ite (.v 26) (.seq (.reg [.p (.v 4) (.mv (.c (.bool false)))]) .ret) .skip)) (.seq (.reg [.p (.t 27) (.mv (.v 5)), .p (.t 28) (.mv (.v 1)), .e (.t 29)
  (.call (ι.f 18) [.t 28]), .e (.t 30) (.call (ι.f 8) [.t 27, .t 29])]) (.seq (.reg [.p (.t 31) (.mv (.v 5)), .e (.t 32) (.call (ι.f 11) [.t 31]), .p (.t 33) (.mv (.v 1)), .e (.t 34) (.call (ι.f 18) [.t
  33]), .e (.t 35) (.call (ι.f 14) [.t 34]), .p (.t 36) (.m (.eqa false .u8 32 (.t 32) (.t 35))), .p (.t 37) (.mv (.t 36)), .gp (.t 38) (.t 37) true (.mv (.v 6)), .ge (.t 39) (.t 37) true (.call (ι.f
  11) [.t 38]), .gp (.t 40) (.t 37) true (.mv (.v 0)), .ge (.t 41) (.t 37) true (.call (ι.f 18) [.t 40]), .ge (.t 42) (.t 37) true (.call (ι.f 14) [.t 41]), .gp (.t 43) (.t 37) true (.m (.eqa false .u8
  32 (.t 39) (.t 42))), .p (.t 44) (.pick (.t 37) (.t 43) (.c (.bool false))), .p (.v 4) (.mv (.t 44))]) .ret))))))))
def r_lreset : List RV := [.t 4]

theorem reset_ok {P : Program} {ι : Ids} {k : FuncId} (hk : FnIs P k (c_lreset ι) r_lreset 2) (ha : AwakeSpec P ι (ι.f 21)) (hn : NewSpec P (ι.f 13)) (hsh : ShortSpec P (ι.f 18))
    (hw : WriteSpec P ι (ι.f 8)) (hc : HCopySpec P (ι.f 16)) (hr : HResetSpec P (ι.f 17)) (hl : HLenSpec P (ι.f 15)) (hs : HSumSpec P ι (ι.f 11)) (hks : KSumSpec P ι (ι.f 14))
    (a b : List UInt8) (va vb : Value) (H : Hp) (hG : GlobOk ι H) (hva : SlR H va (w8 a)) (hvb : SlR H vb (w8 b)) : CallsM P k #[va, vb] H fun r H' => r = .bool true ∧ Keep (fun _ => False) H H' := by
  refine calls_of_vc hk (args := [_, _]) (by simp) ?_
  unfold c_lreset r_lreset
  simp only [go_sem, List.map_cons, List.map_nil, ↓reduceIte, Nat.reduceEqDiff, Nat.reduceAdd, Nat.reduceMul, reduceCtorEq, and_true, true_and, Nat.mul_one, Nat.zero_add, Bool.false_eq_true, decide_true, decide_false, not_false_eq_true, kont_eq]
  refine (ha _ hG).mono ?_
  rintro r H1 ⟨rfl, K1⟩
  simp only [go_sem, List.map_cons, List.map_nil, ↓reduceIte, Nat.reduceEqDiff, Nat.reduceAdd, Nat.reduceMul, reduceCtorEq, and_true, true_and, Nat.mul_one, Nat.zero_add, Bool.false_eq_true, decide_true, decide_false, not_false_eq_true, kont_eq]
  refine (hn _).mono ?_
  rintro r H2 ⟨rfl, B2, K2, z2⟩
  have K2' := K1.trans K2
  simp only [go_sem, List.map_cons, List.map_nil, ↓reduceIte, Nat.reduceEqDiff, Nat.reduceAdd, Nat.reduceMul, reduceCtorEq, and_true, true_and, Nat.mul_one, Nat.zero_add, Bool.false_eq_true, decide_true, decide_false, not_false_eq_true, kont_eq]
  refine (hsh a va _ (hva.keep K2' (by simp))).mono ?_
  rintro r H2' ⟨S2, sb2, rfl⟩
  simp only [go_sem, List.map_cons, List.map_nil, ↓reduceIte, Nat.reduceEqDiff, Nat.reduceAdd, Nat.reduceMul, reduceCtorEq, and_true, true_and, Nat.mul_one, Nat.zero_add, Bool.false_eq_true, decide_true, decide_false, not_false_eq_true, kont_eq]
  have k1 := K1.size
  refine (hw _ _ _ _ _ B2 S2 (fun h => by have := hva.old (sb2 _ h); omega) (hG.new k1) (hG.keep K2' (by simp) (by simp))).mono ?_
  rintro r H3 ⟨rfl, B3, K3⟩
  simp only [go_sem, List.map_cons, List.map_nil, ↓reduceIte, Nat.reduceEqDiff, Nat.reduceAdd, Nat.reduceMul, reduceCtorEq, and_true, true_and, Nat.mul_one, Nat.zero_add, Bool.false_eq_true, decide_true, decide_false, not_false_eq_true, kont_eq, List.nil_append] at B3 ⊢
  have K3' : Keep (fun _ => False) H H3 := K2'.trans' K3 (fun i hi e => by omega)
  refine (hc.1 _ _ _ B3).mono ?_
  rintro r H4 ⟨rfl, B4, K4, z4⟩
  simp only [go_sem, List.map_cons, List.map_nil, ↓reduceIte, Nat.reduceEqDiff, Nat.reduceAdd, Nat.reduceMul, reduceCtorEq, and_true, true_and, Nat.mul_one, Nat.zero_add, Bool.false_eq_true, decide_true, decide_false, not_false_eq_true, kont_eq]
  have K4' := K3'.trans K4
  have b4 := B3.keep K4 (by simp)
  have hne : H1.size ≠ H3.size := by have := B3.lt; omega
  refine (hr.1 _ _ _ b4).mono ?_
  rintro r H5 ⟨rfl, B5, K5⟩
  simp only [go_sem, List.map_cons, List.map_nil, ↓reduceIte, Nat.reduceEqDiff, Nat.reduceAdd, Nat.reduceMul, reduceCtorEq, and_true, true_and, Nat.mul_one, Nat.zero_add, Bool.false_eq_true, decide_true, decide_false, not_false_eq_true, kont_eq]
  have c5 := B4.keep K5 (Ne.symm hne)
  have K5' : Keep (fun _ => False) H H5 := K4'.trans' K5 (fun i hi e => by omega)
  refine (hl.1 _ _ _ B5).mono ?_
  rintro r H6 ⟨rfl, rfl⟩
  simp only [go_sem, List.map_cons, List.map_nil, ↓reduceIte, Nat.reduceEqDiff, Nat.reduceAdd, Nat.reduceMul, reduceCtorEq, and_true, true_and, Nat.mul_one, Nat.zero_add, Bool.false_eq_true, decide_true, decide_false, not_false_eq_true, kont_eq]
  have e0 : (!(((UInt64.ofNat 0).toNat : Int) != 0)) = true := rfl
  have e1 : (((UInt64.ofNat 0).toNat : Int) != 0) = false := rfl
  simp only [go_sem, List.map_cons, List.map_nil, ↓reduceIte, Nat.reduceEqDiff, Nat.reduceAdd, Nat.reduceMul, reduceCtorEq, and_true, true_and, Nat.mul_one, Nat.zero_add, Bool.false_eq_true, decide_true, decide_false, not_false_eq_true, kont_eq, e0, e1]
  refine (hs _ _ _ B5 (hG.keep K5' (by simp) (by simp))).mono ?_
  rintro r H7 ⟨rfl, K7⟩
  simp only [go_sem, List.map_cons, List.map_nil, ↓reduceIte, Nat.reduceEqDiff, Nat.reduceAdd, Nat.reduceMul, reduceCtorEq, and_true, true_and, Nat.mul_one, Nat.zero_add, Bool.false_eq_true, decide_true, decide_false, not_false_eq_true, kont_eq, e0, e1]
  have K7' := K5'.trans K7
  refine (hks [] _ _ (.inl ⟨none, 0, rfl, rfl⟩) (hG.keep K7' (by simp) (by simp))).mono ?_
  rintro r H8 ⟨rfl, K8⟩
  have K8' := K7'.trans K8
  simp only [go_sem, List.map_cons, List.map_nil, ↓reduceIte, Nat.reduceEqDiff, Nat.reduceAdd, Nat.reduceMul, reduceCtorEq, and_true, true_and, Nat.mul_one, Nat.zero_add, Bool.false_eq_true, decide_true, decide_false, not_false_eq_true, kont_eq, e0, e1, w8_len, sumF_len, w8_eqv, decide_true, beq_self_eq_true]
  refine ⟨⟨w8_isI _, w8_isI _⟩, ?_⟩
  refine (hsh b vb _ (hvb.keep K8' (by simp))).mono ?_
  rintro r H8' ⟨S9, sb9, rfl⟩
  simp only [go_sem, List.map_cons, List.map_nil, ↓reduceIte, Nat.reduceEqDiff, Nat.reduceAdd, Nat.reduceMul, reduceCtorEq, and_true, true_and, Nat.mul_one, Nat.zero_add, Bool.false_eq_true, decide_true, decide_false, not_false_eq_true, kont_eq]
  have B8 := HashC.keep (HashC.keep B5 K7 (by simp)) K8 (by simp)
  have c8 := HashC.keep (HashC.keep c5 K7 (by simp)) K8 (by simp)
  have hG8 := hG.keep K8' (by simp) (by simp)
  refine (hw _ _ _ _ _ B8 S9 (fun h => by have := hvb.old (sb9 _ h); omega) (hG.new k1) hG8).mono ?_
  rintro r H9 ⟨rfl, B9, K9⟩
  have c9 := HashC.keep c8 K9 (Ne.symm hne)
  have K9' : Keep (fun _ => False) H H9 := K8'.trans' K9 (fun i hi e => by omega)
  simp only [go_sem, List.map_cons, List.map_nil, ↓reduceIte, Nat.reduceEqDiff, Nat.reduceAdd, Nat.reduceMul, reduceCtorEq, and_true, true_and, Nat.mul_one, Nat.zero_add, Bool.false_eq_true, decide_true, decide_false, not_false_eq_true, kont_eq, List.nil_append] at B9 ⊢
  refine (hs _ _ _ B9 (hG.keep K9' (by simp) (by simp))).mono ?_
  rintro r H10 ⟨rfl, K10⟩
  have K10' := K9'.trans K10
  simp only [go_sem, List.map_cons, List.map_nil, ↓reduceIte, Nat.reduceEqDiff, Nat.reduceAdd, Nat.reduceMul, reduceCtorEq, and_true, true_and, Nat.mul_one, Nat.zero_add, Bool.false_eq_true, decide_true, decide_false, not_false_eq_true, kont_eq]
  refine (hsh b vb _ (hvb.keep K10' (by simp))).mono ?_
  rintro r H10' ⟨S11, sb11, rfl⟩
  simp only [go_sem, List.map_cons, List.map_nil, ↓reduceIte, Nat.reduceEqDiff, Nat.reduceAdd, Nat.reduceMul, reduceCtorEq, and_true, true_and, Nat.mul_one, Nat.zero_add, Bool.false_eq_true, decide_true, decide_false, not_false_eq_true, kont_eq]
  refine (hks _ _ _ S11 (hG.keep K10' (by simp) (by simp))).mono ?_
  rintro r H11 ⟨rfl, K11⟩
  have K11' := K10'.trans K11
  simp only [go_sem, List.map_cons, List.map_nil, ↓reduceIte, Nat.reduceEqDiff, Nat.reduceAdd, Nat.reduceMul, reduceCtorEq, and_true, true_and, Nat.mul_one, Nat.zero_add, Bool.false_eq_true, decide_true, decide_false, not_false_eq_true, kont_eq, w8_len, sumF_len, w8_eqv, decide_true, beq_self_eq_true]
  refine ⟨⟨w8_isI _, w8_isI _⟩, ?_⟩
  have c11 := HashC.keep (HashC.keep c9 K10 (by simp)) K11 (by simp)
  refine (hs _ _ _ c11 (hG.keep K11' (by simp) (by simp))).mono ?_
  rintro r H12 ⟨rfl, K12⟩
  have K12' := K11'.trans K12
  simp only [go_sem, List.map_cons, List.map_nil, ↓reduceIte, Nat.reduceEqDiff, Nat.reduceAdd, Nat.reduceMul, reduceCtorEq, and_true, true_and, Nat.mul_one, Nat.zero_add, Bool.false_eq_true, decide_true, decide_false, not_false_eq_true, kont_eq]
  refine (hsh a va _ (hva.keep K12' (by simp))).mono ?_
  rintro r H12' ⟨S13, sb13, rfl⟩
  simp only [go_sem, List.map_cons, List.map_nil, ↓reduceIte, Nat.reduceEqDiff, Nat.reduceAdd, Nat.reduceMul, reduceCtorEq, and_true, true_and, Nat.mul_one, Nat.zero_add, Bool.false_eq_true, decide_true, decide_false, not_false_eq_true, kont_eq]
  refine (hks _ _ _ S13 (hG.keep K12' (by simp) (by simp))).mono ?_
  rintro r H13 ⟨rfl, K13⟩
  have K13' := K12'.trans K13
  simp only [go_sem, List.map_cons, List.map_nil, ↓reduceIte, Nat.reduceEqDiff, Nat.reduceAdd, Nat.reduceMul, reduceCtorEq, and_true, true_and, Nat.mul_one, Nat.zero_add, Bool.false_eq_true, decide_true, decide_false, not_false_eq_true, kont_eq, w8_len, sumF_len, w8_eqv, decide_true, beq_self_eq_true]
  exact ⟨⟨w8_isI _, w8_isI _⟩, K13'⟩
end Go.Mg

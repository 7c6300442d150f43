/- keccak: the law of the nil hash. -/
import Derived.Test.YthffkklaodanaaaDoorMgK7
namespace Go.Mg
open Go Go.RowKit
set_option linter.unusedSimpArgs false
set_option linter.unusedVariables false
set_option maxRecDepth 100000
/- arbaclaw03.KeccakNil -/
def c_lnil (ι : Ids) : S :=
  .seq (.reg [.p (.v 2) (.mv (.c (.bool false)))]) (.seq (.reg [.p (.v 3) (.mv (.c (.pointer .none)))]) (.seq (.reg [.p (.t 4) (.mv (.v 3)), .p (.t 5) (.mv (.v 0)), .e (.t 6) (.call (ι.f 8) [.t 4, .t
  5])]) (.seq (.reg [.p (.t 7) (.mv (.v 3)), .e (.t 8) (.call (ι.f 17) [.t 7])]) (.seq (.reg [.e (.t 9) (.call (ι.f 21) []), .p (.t 10) (.mv (.t 9)), .gp (.t 11) (.t 10) true (.mv (.v 3)), .ge (.t 12)
  (.t 10) true (.call (ι.f 11) [.t 11]), .gp (.t 13) (.t 10) true (.m (.bld (Array.replicate 32 (.int .u8 0)) [])), .gp (.t 14) (.t 10) true (.m (.eqa false .u8 32 (.t 12) (.t 13))), .p (.t 15) (.pick
  (.t 10) (.t 14) (.c (.bool false))), .p (.t 16) (.mv (.t 15)), .gp (.t 17) (.t 16) true (.mv (.v 3)), .ge (.t 18) (.t 16) true (.call (ι.f 15) [.t 17]), .gp (.t 19) (.t 16) true (.cm .eql .u64 (.t 18)
  (.c (.int .u64 0))), .p (.t 20) (.pick (.t 16) (.t 19) (.c (.bool false))), .p (.t 21) (.mv (.t 20)), .gp (.t 22) (.t 21) true (.mv (.v 3)), .ge (.t 23) (.t 21) true (.call (ι.f 16) [.t 22]), .gp (.t
  24) (.t 21) true (.m (.eqn .ptr false (.t 23))), .p (.t 25) (.pick (.t 21) (.t 24) (.c (.bool false))), .p (.v 2) (.mv (.t 25))]) .ret))))
def r_lnil : List RV := [.t 2]

theorem w8_isI (l : List UInt8) : ∀ x ∈ (w8 l).toArray, isI .u8 x := by
  intro x hx
  simp [w8] at hx
  obtain ⟨y, _, rfl⟩ := hx; rfl
theorem w8_i (l : List UInt8) : (w8 l).map Value.i = l.map fun x => (x.toNat : Int) := by simp [w8, Function.comp_def, Value.i]
theorem i_inj : ∀ {a b : List UInt8}, (a.map fun x => (x.toNat : Int)) = (b.map fun x => (x.toNat : Int)) → a = b
  | [], [], _ => rfl
  | [], _ :: _, h => by simp at h
  | _ :: _, [], h => by simp at h
  | x :: a, y :: b, h => by
    simp only [List.map_cons, List.cons.injEq] at h
    have e : x.toNat = y.toNat := by exact_mod_cast h.1
    rw [UInt8.toNat_inj.1 e, i_inj h.2]
theorem w8_eqv (a b : List UInt8) : ((w8 a).map Value.i == (w8 b).map Value.i) = decide (a = b) := by
  rw [w8_i, w8_i]
  by_cases h : a = b
  · subst h; simp
  · rw [decide_eq_false h]
    apply beq_eq_false_iff_ne.2
    exact fun e => h (i_inj e)

def WriteNil (P : Program) (k : FuncId) : Prop := ∀ v H, CallsM P k #[.pointer none, v] H fun r H' => r = .tuple #[] ∧ H' = H
theorem write_nil {P : Program} {ι : Ids} {k : FuncId} (hk : FnIs P k (c_write ι) r_write 2) : WriteNil P k := by
  intro v H
  refine calls_of_vc hk (args := [_, _]) (by simp) ?_
  unfold c_write r_write
  simp only [go_sem, List.map_cons, List.map_nil, ↓reduceIte, Nat.reduceEqDiff, Nat.reduceAdd, Nat.reduceMul, reduceCtorEq, and_true, true_and, Nat.mul_one, Nat.zero_add, Bool.false_eq_true, decide_true, decide_false, not_false_eq_true, kont_eq]
def HSumNil (P : Program) (k : FuncId) : Prop := ∀ H, CallsM P k #[.pointer none] H fun r H' => r = .agg (w8 (List.replicate 32 0)).toArray ∧ Keep (fun _ => False) H H'
theorem hsum_nil {P : Program} {ι : Ids} {k : FuncId} (hk : FnIs P k (c_hsum ι) r_hsum 1) : HSumNil P k := by
  intro H
  refine calls_of_vc hk (args := [_]) (by simp) ?_
  unfold c_hsum r_hsum
  have hz : (Array.replicate 32 (Value.int .u8 0)).toList = w8 (List.replicate 32 0) := by rw [← w8_rep]; rfl
  have hz2 : (Array.replicate 32 (Value.int .u8 0)) = (w8 (List.replicate 32 0)).toArray := by rw [← hz]
  simp only [go_sem, List.map_cons, List.map_nil, ↓reduceIte, Nat.reduceEqDiff, Nat.reduceAdd, Nat.reduceMul, reduceCtorEq, and_true, true_and, Nat.mul_one, Nat.zero_add, Bool.false_eq_true, decide_true, decide_false, not_false_eq_true]
  refine kont_new fun H1 b1 e1 z1 B1 K1 => ?_
  rw [hz] at B1
  simp only [go_sem, List.map_cons, List.map_nil, ↓reduceIte, Nat.reduceEqDiff, Nat.reduceAdd, Nat.reduceMul, reduceCtorEq, and_true, true_and, Nat.mul_one, Nat.zero_add, Bool.false_eq_true, decide_true, decide_false, not_false_eq_true, kont_eq, okFill, fillV, okN_ptr, stNH_ptr, cells_agg, hz2]
  have B2 := B1.stNA 0 (w8 (List.replicate 32 0))
  rw [wrL_all _ _ rfl] at B2
  refine ⟨⟨B1.okNA (by simp [w8_len]), by simp [w8_len], w8_all1 _⟩, ?_⟩
  simp only [ldNO_ptr, B2.ldNA (o := 0) (n := 32) (by simp [w8_len])]
  exact ⟨rfl, rfl, K1.stNA _ (.inr (by simp only []; omega))⟩

def LawSpec1 (P : Program) (ι : Ids) (k : FuncId) : Prop := ∀ v H, GlobOk ι H → CallsM P k #[v] H fun r H' => r = .bool true ∧ Keep (fun _ => False) H H'
theorem nil_ok {P : Program} {ι : Ids} {k : FuncId} (hk : FnIs P k (c_lnil ι) r_lnil 1) (hw : WriteNil P (ι.f 8)) (hr : HResetSpec P (ι.f 17)) (ha : AwakeSpec P ι (ι.f 21))
    (hs : HSumNil P (ι.f 11)) (hl : HLenSpec P (ι.f 15)) (hc : HCopySpec P (ι.f 16)) : LawSpec1 P ι k := by
  intro v H hG
  refine calls_of_vc hk (args := [_]) (by simp) ?_
  unfold c_lnil r_lnil
  simp only [go_sem, List.map_cons, List.map_nil, ↓reduceIte, Nat.reduceEqDiff, Nat.reduceAdd, Nat.reduceMul, reduceCtorEq, and_true, true_and, Nat.mul_one, Nat.zero_add, Bool.false_eq_true, decide_true, decide_false, not_false_eq_true, kont_eq]
  refine (hw _ _).mono ?_
  rintro r H1 ⟨rfl, rfl⟩
  simp only [go_sem, List.map_cons, List.map_nil, ↓reduceIte, Nat.reduceEqDiff, Nat.reduceAdd, Nat.reduceMul, reduceCtorEq, and_true, true_and, Nat.mul_one, Nat.zero_add, Bool.false_eq_true, decide_true, decide_false, not_false_eq_true, kont_eq]
  refine (hr.2 _).mono ?_
  rintro r H1 ⟨rfl, rfl⟩
  simp only [go_sem, List.map_cons, List.map_nil, ↓reduceIte, Nat.reduceEqDiff, Nat.reduceAdd, Nat.reduceMul, reduceCtorEq, and_true, true_and, Nat.mul_one, Nat.zero_add, Bool.false_eq_true, decide_true, decide_false, not_false_eq_true, kont_eq]
  refine (ha _ hG).mono ?_
  rintro r H2 ⟨rfl, K2⟩
  simp only [go_sem, List.map_cons, List.map_nil, ↓reduceIte, Nat.reduceEqDiff, Nat.reduceAdd, Nat.reduceMul, reduceCtorEq, and_true, true_and, Nat.mul_one, Nat.zero_add, Bool.false_eq_true, decide_true, decide_false, not_false_eq_true, kont_eq]
  refine (hs _).mono ?_
  rintro r H3 ⟨rfl, K3⟩
  have hz : (Array.replicate 32 (Value.int .u8 0)).toList = w8 (List.replicate 32 0) := by rw [← w8_rep]; rfl
  have hz2 : (Array.replicate 32 (Value.int .u8 0)) = (w8 (List.replicate 32 0)).toArray := by rw [← hz]
  simp only [go_sem, List.map_cons, List.map_nil, ↓reduceIte, Nat.reduceEqDiff, Nat.reduceAdd, Nat.reduceMul, reduceCtorEq, and_true, true_and, Nat.mul_one, Nat.zero_add, Bool.false_eq_true, decide_true, decide_false, not_false_eq_true, kont_eq, okFill, fillV, hz2, w8_eqv, w8_len]
  refine ⟨⟨by simp, by simp, w8_isI _, w8_isI _⟩, ?_⟩
  refine (hl.2 _).mono ?_
  rintro r H4 ⟨rfl, rfl⟩
  simp only [go_sem, List.map_cons, List.map_nil, ↓reduceIte, Nat.reduceEqDiff, Nat.reduceAdd, Nat.reduceMul, reduceCtorEq, and_true, true_and, Nat.mul_one, Nat.zero_add, Bool.false_eq_true, decide_true, decide_false, not_false_eq_true, kont_eq, beq_self_eq_true]
  refine (hc.2 _).mono ?_
  rintro r H5 ⟨rfl, rfl⟩
  simp only [go_sem, List.map_cons, List.map_nil, ↓reduceIte, Nat.reduceEqDiff, Nat.reduceAdd, Nat.reduceMul, reduceCtorEq, and_true, true_and, Nat.mul_one, Nat.zero_add, Bool.false_eq_true, decide_true, decide_false, not_false_eq_true, kont_eq]
  exact K2.trans K3
end Go.Mg

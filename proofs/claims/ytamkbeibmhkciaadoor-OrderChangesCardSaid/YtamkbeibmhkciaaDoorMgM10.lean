/- matching: slices of ints, move. -/
import Derived.Test.YtamkbeibmhkciaaDoorMgM9
import Derived.Test.YtamkbeibmhkciaaDoorMgMA
namespace Go.Mg
open Go Go.RowKit
set_option linter.unusedSimpArgs false
set_option linter.unusedVariables false
set_option maxRecDepth 100000
/- slices.Index[[]int,int] -/
/- slices.Contains[[]int,int] -/
/- slices.Clone[[]int,int] -/
def c_slcln (ι : Ids) : S :=
  .seq (.reg [.p (.v 2) (.mv (.c (.slice .none 0 0)))]) (.seq (.seq (.reg [.p (.t 3) (.mv (.v 0)), .p (.v 4) (.m (.eqn .sl false (.t 3)))]) (.ite (.v 4) (.seq (.reg [.p (.v 2) (.mv (.c (.slice .none 0
  0)))]) .ret) .skip)) (.seq (.reg [.e (.t 5) (.bldF (ι.t 26) 1 0 []), .p (.t 6) (.mv (.v 0)), .e (.t 7) (.app false (ι.t 26) 1 8 #[.int .i64 0] (.t 5) (.t 6)), .p (.v 2) (.mv (.t 7))]) .ret))
def r_slcln : List RV := [.t 2]
/- (ptr matching.search).move -/
def IClnSpec (P : Program) (k : FuncId) : Prop := ∀ (l : List Int) (v : Value) (H : Hp), SlR H v (iL l) → l.length ≤ 1000000 → CallsM P k #[v] H fun r H' => OwS H' r (iL l) ∧ (∀ k, ownB r k → H.size ≤ k) ∧ Keep (fun _ => False) H H'
theorem slcln_ok {P : Program} {ι : Ids} {k : FuncId} (hk : FnIs P k (c_slcln ι) r_slcln 1) : IClnSpec P k := by
  intro l v H hv hl
  refine calls_of_vc hk (args := [_]) (by simp) ?_
  unfold c_slcln r_slcln
  obtain ⟨a, c, hvm, hlc⟩ := hv.mk
  rw [iL_len] at hvm hlc
  subst hvm
  cases a with
  | none =>
    have h0 : l = [] := by
      rcases hv with ⟨_, _, _, h⟩ | ⟨_, _, _, _, h, _⟩
      · cases l with
        | nil => rfl
        | cons _ _ => cases h
      · cases h
    subst h0
    simp only [go_sem, List.map_cons, List.map_nil, ↓reduceIte, Nat.reduceEqDiff, Nat.reduceAdd, Nat.reduceMul, reduceCtorEq, and_true, true_and, Nat.mul_one, Nat.zero_add, Bool.false_eq_true, decide_true, decide_false, not_false_eq_true, kont_eq]
    exact ⟨OwS.nil _, fun k h => h.elim, Keep.refl _ _⟩
  | some p =>
    simp only [go_sem, List.map_cons, List.map_nil, ↓reduceIte, Nat.reduceEqDiff, Nat.reduceAdd, Nat.reduceMul, reduceCtorEq, and_true, true_and, Nat.mul_one, Nat.zero_add, Bool.false_eq_true, decide_true, decide_false, not_false_eq_true, fillV_nil, fillV_cons, okFill_nil, okFill_cons, cells_slice, cells_int, cells_bool, cells_str, cells_ptr, cells_agg, stNH_ptr, okN_ptr, wrA1, wrA20, wrA21]
    refine kont_news fun H1 b e1 z1 B1 K1 => ?_
    have s1 := K1.size
    simp only [go_sem, List.map_cons, List.map_nil, ↓reduceIte, Nat.reduceEqDiff, Nat.reduceAdd, Nat.reduceMul, reduceCtorEq, and_true, true_and, Nat.mul_one, Nat.zero_add, Bool.false_eq_true, decide_true, decide_false, not_false_eq_true, kont_eq]
    have B1 : Bl H1 b [] := B1
    refine app_sl (l := []) (m := iL l) (OwS.bl B1 (by simp) (by simp) (by simp) (by simp)) (hv.keep K1 (by simp)) (iL_all1 l) rfl (by unfold maxLen; rw [iL_len]; simp; omega) (by rw [iL_len]; simp; omega) fun v' H2 O2 M2 N2 => ?_
    obtain ⟨va, vn, vc, rfl⟩ := O2.shape
    simp only [go_sem, List.map_cons, List.map_nil, ↓reduceIte, Nat.reduceEqDiff, Nat.reduceAdd, Nat.reduceMul, reduceCtorEq, and_true, true_and, Nat.mul_one, Nat.zero_add, Bool.false_eq_true, decide_true, decide_false, not_false_eq_true, kont_eq]
    refine ⟨O2, fun k hk => ?_, K1.trans' M2 (fun i hi h => by have h : i = b := h; omega)⟩
    rcases N2 k hk with h | h
    · have h : k = b := h; omega
    · omega
theorem OwS.room {H : Hp} {v : Value} {l : List Value} (h : OwS H v l) (hl : l ≠ []) : ∃ b c C, v = .slice (Option.some ⟨b, 0, Option.none⟩) l.length c ∧ l.length ≤ c ∧ Bl H b (l ++ C) := by
  rcases h with ⟨_, h⟩ | ⟨b, c, L, h1, h2, h3, h4, h5⟩
  · exact absurd h hl
  · refine ⟨b, c, L.drop l.length, h1, by omega, ?_⟩
    have : l ++ L.drop l.length = L := by
      have e := List.take_append_drop l.length L
      rw [h5] at e; exact e
    rw [this]; exact h4
end Go.Mg

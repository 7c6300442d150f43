/- order: the reference's With and Without, their results' blocks are new. -/
import Derived.Test.YtamkbeibmhkciaaDoorMgR6
namespace Go.Mg
open Go Go.RowKit
set_option linter.unusedSimpArgs false
set_option linter.unusedVariables false
set_option maxRecDepth 100000
/- arbacref06.With -/
def c_rwith2 (ι : Ids) : S :=
  .seq (.reg [.e (.v 3) (.box (ι.t 246) (.v 0)), .e (.v 6) (.new (ι.t 246) #[.int .i64 0, .slice .none 0 0]), .p (.v 7) (.mv (.c (.int .i64 0)))]) (.seq (.seq (.reg [.p (.t 8) (.mv (.v 1)), .p (.t 9)
  (.cm .lss .i64 (.t 8) (.c (.int .i64 0))), .p (.t 10) (.mv (.t 9)), .gp (.t 11) (.t 10) false (.mv (.v 1)), .gp (.t 12) (.t 10) false (.fa 0 (.v 3)), .gp (.t 13) (.t 10) false (.ld (.t 12)), .gp (.t
  14) (.t 10) false (.cm .geq .i64 (.t 11) (.t 13)), .p (.t 15) (.pick (.t 10) (.c (.bool true)) (.t 14)), .p (.t 16) (.mv (.t 15)), .gp (.t 17) (.t 16) false (.mv (.v 2)), .gp (.t 18) (.t 16) false
  (.cm .lss .i64 (.t 17) (.c (.int .i64 0))), .p (.t 19) (.pick (.t 16) (.c (.bool true)) (.t 18)), .p (.t 20) (.mv (.t 19)), .gp (.t 21) (.t 20) false (.mv (.v 2)), .gp (.t 22) (.t 20) false (.fa 0 (.v
  3)), .gp (.t 23) (.t 20) false (.ld (.t 22)), .gp (.t 24) (.t 20) false (.cm .geq .i64 (.t 21) (.t 23)), .p (.v 25) (.pick (.t 20) (.c (.bool true)) (.t 24))]) (.ite (.v 25) (.seq (.reg [.p (.t 26)
  (.m (.bld #[.int .i64 0, .slice .none 0 0] [])), .e .no (.stn 2 (.v 6) (.t 26)), .p (.v 7) (.mv (.c (.int .i64 2)))]) .ret) .skip)) (.seq (.seq (.reg [.p (.t 27) (.m (.ldn 2 (.v 3))), .p (.t 28) (.mv
  (.v 1)), .p (.t 29) (.mv (.v 2)), .e (.v 30) (.call (ι.f 247) [.t 27, .t 28, .t 29])]) (.ite (.v 30) (.seq (.reg [.p (.t 31) (.m (.bld #[.int .i64 0, .slice .none 0 0] [])), .e .no (.stn 2 (.v 6) (.t
  31)), .p (.v 7) (.mv (.c (.int .i64 5)))]) .ret) .skip)) (.seq (.dr (.px (.t 32) .none (.fa 0 (.v 3)) (.px (.t 33) .none (.ld (.t 32)) (.px (.t 35) .none (.fa 1 (.v 3)) (.px (.t 36) .none (.ld (.t
  35)) (.px (.t 38) .none (.mv (.v 1)) (.px (.t 39) .none (.mv (.v 2)) (.px (.t 40) .none (.m (.bld #[.int .i64 0, .int .i64 0] [(0, (1, .t 38)), (1, (1, .t 39))])) (.wcons (.t 34) .none (.bldF (ι.t
  194) 2 0 []) (.wcons (.t 37) .none (.app false (ι.t 194) 2 16 #[.int .i64 0, .int .i64 0] (.t 34) (.t 36)) (.wcons (.t 41) .none (.bldF (ι.t 194) 2 1 [.t 40]) (.wcons (.t 42) .none (.app false (ι.t
  194) 2 16 #[.int .i64 0, .int .i64 0] (.t 37) (.t 41)) (.wcons (.t 43) .none (.call (ι.f 254) [.t 33, .t 42]) (.px (.t 44) .none (.ext (.t 43) 0) (.px (.t 45) .none (.ext (.t 43) 1) (.wcons .no .none
  (.stn 2 (.v 6) (.t 44)) (.px (.v 7) .none (.mv (.t 45)) .done) .wnil))) .wnil) .wnil) .wnil) (.wcons (.t 41) .none (.bldF (ι.t 194) 2 1 [.t 40]) (.wcons (.t 37) .none (.app false (ι.t 194) 2 16 #[.int
  .i64 0, .int .i64 0] (.t 34) (.t 36)) (.wcons (.t 42) .none (.app false (ι.t 194) 2 16 #[.int .i64 0, .int .i64 0] (.t 37) (.t 41)) (.wcons (.t 43) .none (.call (ι.f 254) [.t 33, .t 42]) (.px (.t 44)
  .none (.ext (.t 43) 0) (.px (.t 45) .none (.ext (.t 43) 1) (.wcons .no .none (.stn 2 (.v 6) (.t 44)) (.px (.v 7) .none (.mv (.t 45)) .done) .wnil))) .wnil) .wnil) .wnil) .wnil)) (.wcons (.t 41) .none
  (.bldF (ι.t 194) 2 1 [.t 40]) (.wcons (.t 34) .none (.bldF (ι.t 194) 2 0 []) (.wcons (.t 37) .none (.app false (ι.t 194) 2 16 #[.int .i64 0, .int .i64 0] (.t 34) (.t 36)) (.wcons (.t 42) .none (.app
  false (ι.t 194) 2 16 #[.int .i64 0, .int .i64 0] (.t 37) (.t 41)) (.wcons (.t 43) .none (.call (ι.f 254) [.t 33, .t 42]) (.px (.t 44) .none (.ext (.t 43) 0) (.px (.t 45) .none (.ext (.t 43) 1) (.wcons
  .no .none (.stn 2 (.v 6) (.t 44)) (.px (.v 7) .none (.mv (.t 45)) .done) .wnil))) .wnil) .wnil) .wnil) .wnil) .wnil)))))))))) .ret)))
def r_rwith2 : List RV := [.cn 6 2, .t 7]
/- arbacref06.Without -/
def c_rwout2 (ι : Ids) : S :=
  .seq (.reg [.e (.v 3) (.box (ι.t 246) (.v 0)), .e (.v 6) (.new (ι.t 246) #[.int .i64 0, .slice .none 0 0]), .p (.v 7) (.mv (.c (.int .i64 0)))]) (.seq (.seq (.reg [.p (.t 11) (.m (.ldn 2 (.v 3))), .p
  (.t 12) (.mv (.v 1)), .p (.t 13) (.mv (.v 2)), .e (.t 14) (.call (ι.f 247) [.t 11, .t 12, .t 13]), .p (.v 15) (.not (.t 14))]) (.ite (.v 15) (.seq (.reg [.p (.t 16) (.m (.bld #[.int .i64 0, .slice
  .none 0 0] [])), .e .no (.stn 2 (.v 6) (.t 16)), .p (.v 7) (.mv (.c (.int .i64 4)))]) .ret) .skip)) (.seq (.reg [.p (.t 17) (.fa 0 (.v 3)), .p (.t 18) (.ld (.t 17)), .p (.t 19) (.m (.bld #[.int .i64
  0, .slice .none 0 0] [(0, (1, .t 18))])), .e (.v 8) (.new (ι.t 246) #[.int .i64 0, .slice .none 0 0]), .e .no (.stn 2 (.v 8) (.t 19))]) (.seq (.seq (.reg [.p (.t 20) (.fa 1 (.v 3)), .p (.v 21) (.ld
  (.t 20)), .p (.v 22) (.m (.lenl (.v 21))), .p (.v 23) (.mv (.c (.int .i64 0)))]) (.blk 0 (.loop (.seq (.reg [.p (.v 24) (.cm .lss .i64 (.v 23) (.v 22))]) (.seq (.ite (.v 24) .skip (.exit 0)) (.seq
  (.blk 1 (.seq (.reg [.p (.t 25) (.is 2 (.v 21) (.v 23)), .p (.t 26) (.m (.ldn 2 (.t 25))), .e (.v 10) (.new (ι.t 194) #[.int .i64 0, .int .i64 0]), .e .no (.stn 2 (.v 10) (.t 26))]) (.seq (.reg [.p
  (.t 27) (.ia 2 1 (.v 10) (.c (.int .i64 0))), .p (.t 28) (.ld (.t 27)), .p (.t 29) (.mv (.v 1)), .p (.t 30) (.cm .neq .i64 (.t 28) (.t 29)), .p (.t 31) (.mv (.t 30)), .gp (.t 32) (.t 31) false (.ia 2
  1 (.v 10) (.c (.int .i64 1))), .gp (.t 33) (.t 31) false (.ld (.t 32)), .gp (.t 34) (.t 31) false (.mv (.v 2)), .gp (.t 35) (.t 31) false (.cm .neq .i64 (.t 33) (.t 34)), .p (.v 36) (.pick (.t 31) (.c
  (.bool true)) (.t 35))]) (.ite (.v 36) (.reg [.p (.t 37) (.fa 1 (.v 8)), .p (.t 38) (.ld (.t 37)), .p (.t 39) (.m (.ldn 2 (.v 10))), .e (.t 40) (.bldF (ι.t 194) 2 1 [.t 39]), .e (.t 41) (.app false
  (ι.t 194) 2 16 #[.int .i64 0, .int .i64 0] (.t 38) (.t 40)), .p (.t 42) (.fa 1 (.v 8)), .e .no (.st (.t 42) (.t 41))]) .skip)))) (.reg [.p (.t 43) (.ar .add .i64 (.v 23) (.c (.int .i64 1))), .p (.v
  23) (.mv (.t 43))]))))))) (.seq (.reg [.p (.t 44) (.m (.ldn 2 (.v 8))), .e .no (.stn 2 (.v 6) (.t 44)), .p (.v 7) (.mv (.c (.int .i64 0)))]) .ret))))
def r_rwout2 : List RV := [.cn 6 2, .t 7]

def RWith2Spec (P : Program) (k : FuncId) : Prop := ∀ (n : Nat) (R : Nat → Nat → Bool) (v : Value) (a b : Int) (H : Hp), ROrd H v n R → CallsM P k #[v, .int .i64 a, .int .i64 b] H fun r H' => RWithRes n R a b r H' ∧ frR H.size r ∧ Keep (fun _ => False) H H'
def RWout2Spec (P : Program) (k : FuncId) : Prop := ∀ (n : Nat) (R : Nat → Nat → Bool) (v : Value) (a b : Int) (H : Hp), ROrd H v n R → CallsM P k #[v, .int .i64 a, .int .i64 b] H fun r H' => RWoutRes n R a b r H' ∧ frR H.size r ∧ Keep (fun _ => False) H H'
theorem rwith2_ok {P : Program} {ι : Ids} {k : FuncId} (hk : FnIs P k (c_rwith2 ι) r_rwith2 3) (hg : RGivSpec P (ι.f 247)) (hw : RNewSpec P (ι.f 254)) : RWith2Spec P k := by
  intro n R v a b H hv
  obtain ⟨hn, hR, pv, rfl, hp⟩ := hv
  obtain ⟨Q, hQ⟩ : ∃ Q : Value → Hp → Prop, Q = fun r H' => RWithRes n R a b r H' ∧ frR H.size r ∧ Keep (fun _ => False) H H' := ⟨_, rfl⟩
  rw [← hQ]
  refine calls_of_vc hk (args := [_, _, _]) (by simp) ?_
  unfold c_rwith2 r_rwith2
  simp only [go_sem, List.map_cons, List.map_nil, ↓reduceIte, Nat.reduceEqDiff, Nat.reduceAdd, Nat.reduceMul, reduceCtorEq, and_true, true_and, Nat.mul_one, Nat.zero_add, Bool.false_eq_true, decide_true, decide_false, not_false_eq_true]
  refine kont_new fun H0 b0 e0 z0 B0 K0 => ?_
  have s0 := K0.size
  have B0' : Bl H0 b0 [.int .i64 (n : Int), pv] := B0
  simp only [go_sem, List.map_cons, List.map_nil, ↓reduceIte, Nat.reduceEqDiff, Nat.reduceAdd, Nat.reduceMul, reduceCtorEq, and_true, true_and, Nat.mul_one, Nat.zero_add, Bool.false_eq_true, decide_true, decide_false, not_false_eq_true]
  refine kont_new fun H1 b1 e1' z1 B1 K1 => ?_
  have s1 := K1.size
  have B1' : Bl H1 b1 [.int .i64 0, .slice none 0 0] := B1
  have D1 := K1.bl B0' (by simp)
  have p1 := (hp.keep0 K0).keep0 K1
  have c10 : cell H1 ⟨b0, 0, none⟩ = some (.int .i64 (n : Int)) := by rw [D1.cell]; rfl
  have hb01 : b0 < b1 := by have := B0'.lt; omega
  have hst1 : ∀ {A : Hp}, Bl A b1 [.int .i64 0, .slice none 0 0] → okNA A ⟨b1, 0, none⟩ 2 := fun h => h.okNA (o := 0) (n := 2) (by simp)
  have hone : ∀ w ∈ [Value.int .i64 0, Value.slice none 0 0], w.oneCell' = true := fun w hw => by simp at hw; rcases hw with rfl | rfl <;> rfl
  have hld : ∀ {A : Hp}, Bl A b1 [.int .i64 0, .slice none 0 0] → ldNO (stNA A ⟨b1, 0, none⟩ [.int .i64 0, .slice none 0 0]) (.pointer (some ⟨b1, 0, none⟩)) 2 = some #[.int .i64 0, .slice none 0 0] := fun h => (Bl.stNA h 0 [.int .i64 0, .slice none 0 0]).ldNO 2 rfl
  have hz1 : all1 #[Value.int .i64 0, Value.slice none 0 0] := fun w hw => by simp at hw; rcases hw with rfl | rfl <;> rfl
  have her : ∀ (A : Hp) (c : Int), Keep (fun _ => False) H1 A → (∀ A', RWithRes n R a b (.tuple #[zR, .int .i64 c]) A') → Q (.tuple #[.agg #[.int .i64 0, .slice none 0 0], .int .i64 c]) (stNA A ⟨b1, 0, none⟩ [.int .i64 0, .slice none 0 0]) := fun A c hK h => by
    rw [hQ]
    exact ⟨h _, frR.z _ _, ((K0.trans K1).trans hK).trans' ((Keep.refl (fun q => q = b1) A).stNA _ (.inl rfl)) fun q hq e => by omega⟩
  have hbad : ¬ okP n (a, b) → ∀ A', RWithRes n R a b (.tuple #[zR, .int .i64 2]) A' := fun h A' => .inl ⟨h, rfl⟩
  by_cases h1 : a < 0
  · have e1 : decide (a < 0) = true := decide_eq_true h1
    simp only [go_sem, List.map_cons, List.map_nil, ↓reduceIte, Nat.reduceEqDiff, Nat.reduceAdd, Nat.reduceMul, reduceCtorEq, and_true, true_and, Nat.mul_one, Nat.zero_add, Bool.false_eq_true, decide_true, decide_false, not_false_eq_true, kont_eq, fillV_nil, fillV_cons, okFill_nil, okFill_cons, cells_slice, cells_int, cells_bool, cells_str, cells_ptr, cells_agg, stNH_ptr, okN_ptr, wrA1, wrA20, wrA21, c10, e1, hst1 B1', hld B1', hone]
    exact ⟨hz1, her _ _ (Keep.refl _ _) (hbad fun h => by unfold okP at h; simp only at h; omega)⟩
  have e1 : decide (a < 0) = false := decide_eq_false h1
  by_cases h2 : a < n
  rotate_left
  · have e2 : decide ((n : Int) ≤ a) = true := decide_eq_true (by omega)
    simp only [go_sem, List.map_cons, List.map_nil, ↓reduceIte, Nat.reduceEqDiff, Nat.reduceAdd, Nat.reduceMul, reduceCtorEq, and_true, true_and, Nat.mul_one, Nat.zero_add, Bool.false_eq_true, decide_true, decide_false, not_false_eq_true, kont_eq, fillV_nil, fillV_cons, okFill_nil, okFill_cons, cells_slice, cells_int, cells_bool, cells_str, cells_ptr, cells_agg, stNH_ptr, okN_ptr, wrA1, wrA20, wrA21, c10, e1, e2, hst1 B1', hld B1', hone]
    exact ⟨hz1, her _ _ (Keep.refl _ _) (hbad fun h => by unfold okP at h; simp only at h; omega)⟩
  have e2 : decide ((n : Int) ≤ a) = false := decide_eq_false (by omega)
  by_cases h3 : b < 0
  · have e3 : decide (b < 0) = true := decide_eq_true h3
    simp only [go_sem, List.map_cons, List.map_nil, ↓reduceIte, Nat.reduceEqDiff, Nat.reduceAdd, Nat.reduceMul, reduceCtorEq, and_true, true_and, Nat.mul_one, Nat.zero_add, Bool.false_eq_true, decide_true, decide_false, not_false_eq_true, kont_eq, fillV_nil, fillV_cons, okFill_nil, okFill_cons, cells_slice, cells_int, cells_bool, cells_str, cells_ptr, cells_agg, stNH_ptr, okN_ptr, wrA1, wrA20, wrA21, c10, e1, e2, e3, hst1 B1', hld B1', hone]
    exact ⟨hz1, her _ _ (Keep.refl _ _) (hbad fun h => by unfold okP at h; simp only at h; omega)⟩
  have e3 : decide (b < 0) = false := decide_eq_false h3
  by_cases h4 : b < n
  rotate_left
  · have e4 : decide ((n : Int) ≤ b) = true := decide_eq_true (by omega)
    simp only [go_sem, List.map_cons, List.map_nil, ↓reduceIte, Nat.reduceEqDiff, Nat.reduceAdd, Nat.reduceMul, reduceCtorEq, and_true, true_and, Nat.mul_one, Nat.zero_add, Bool.false_eq_true, decide_true, decide_false, not_false_eq_true, kont_eq, fillV_nil, fillV_cons, okFill_nil, okFill_cons, cells_slice, cells_int, cells_bool, cells_str, cells_ptr, cells_agg, stNH_ptr, okN_ptr, wrA1, wrA20, wrA21, c10, e1, e2, e3, e4, hst1 B1', hld B1', hone]
    exact ⟨hz1, her _ _ (Keep.refl _ _) (hbad fun h => by unfold okP at h; simp only at h; omega)⟩
  have e4 : decide ((n : Int) ≤ b) = false := decide_eq_false (by omega)
  have hok : okP n (a, b) := ⟨by show 0 ≤ a; omega, h2, by show 0 ≤ b; omega, h4⟩
  have hgl := gridP_len16 R hn
  simp only [go_sem, List.map_cons, List.map_nil, ↓reduceIte, Nat.reduceEqDiff, Nat.reduceAdd, Nat.reduceMul, reduceCtorEq, and_true, true_and, Nat.mul_one, Nat.zero_add, Bool.false_eq_true, decide_true, decide_false, not_false_eq_true, kont_eq, fillV_nil, fillV_cons, okFill_nil, okFill_cons, cells_slice, cells_int, cells_bool, cells_str, cells_ptr, cells_agg, stNH_ptr, okN_ptr, wrA1, wrA20, wrA21, c10, e1, e2, e3, e4, D1.ldNO 2 rfl]
  refine (hg n a b pv (gridP n R) H1 p1 (by omega)).mono ?_
  rintro r H2 ⟨rfl, K2⟩
  have s2 := K2.size
  have C2 := K2.bl B1' (by simp)
  have D2 := K2.bl D1 (by simp)
  have hmem := mem_gridI (R := R) (n := n) (a := a) (b := b) ⟨by omega, h2⟩ ⟨by omega, h4⟩
  cases hRab : R a.toNat b.toNat with
  | true =>
    have e5 : decide ((a, b) ∈ (gridP n R).map toI) = true := decide_eq_true (hmem.2 hRab)
    rw [kont_eq]
    simp only [go_sem, List.map_cons, List.map_nil, ↓reduceIte, Nat.reduceEqDiff, Nat.reduceAdd, Nat.reduceMul, reduceCtorEq, and_true, true_and, Nat.mul_one, Nat.zero_add, Bool.false_eq_true, decide_true, decide_false, not_false_eq_true, kont_eq, fillV_nil, fillV_cons, okFill_nil, okFill_cons, cells_slice, cells_int, cells_bool, cells_str, cells_ptr, cells_agg, stNH_ptr, okN_ptr, wrA1, wrA20, wrA21, e5, hst1 C2, hld C2, hone]
    exact ⟨hz1, her _ _ K2 fun A' => .inr (.inl ⟨hok, hRab, rfl⟩)⟩
  | false =>
    have e5 : decide ((a, b) ∈ (gridP n R).map toI) = false := decide_eq_false fun h => by rw [hmem.1 h] at hRab; cases hRab
    rw [kont_eq]
    simp only [go_sem, List.map_cons, List.map_nil, ↓reduceIte, Nat.reduceEqDiff, Nat.reduceAdd, Nat.reduceMul, reduceCtorEq, and_true, true_and, Nat.mul_one, Nat.zero_add, Bool.false_eq_true, decide_true, decide_false, not_false_eq_true, kont_eq, e5]
    refine vc_drk (fun q => H2.size ≤ q ∨ q = b1) ?_
    have c20 : cell H2 ⟨b0, 0, none⟩ = some (.int .i64 (n : Int)) := by rw [D2.cell]; rfl
    have c21 : cell H2 ⟨b0, 1, none⟩ = some pv := by rw [D2.cell]; rfl
    have nb : ¬ (H2.size ≤ b0 ∨ b0 = b1) := by have := D2.lt; omega
    simp only [go_sem, List.map_cons, List.map_nil, ↓reduceIte, Nat.reduceEqDiff, Nat.reduceAdd, Nat.reduceMul, reduceCtorEq, and_true, true_and, Nat.mul_one, Nat.zero_add, Bool.false_eq_true, decide_true, decide_false, not_false_eq_true, kont_eq, fillV_nil, fillV_cons, okFill_nil, okFill_cons, cells_slice, cells_int, cells_bool, cells_str, cells_ptr, cells_agg, stNH_ptr, okN_ptr, wrA1, wrA20, wrA21, c20, c21, nb]
    have hpf : ∀ w ∈ [Value.int .i64 a, Value.int .i64 b], w.oneCell' = true := fun w hw => by simp at hw; rcases hw with rfl | rfl <;> rfl
    have fin : ∀ (A : Hp) (w : Value) (bp : Nat) (T : TypeId) (z : Array Value) (Kk : Value → Hp → Prop), z.size = 2 → Keep (fun _ => False) H2 A → OwE nE 2 A w (gridP n R) → (∀ q, ownB w q → H2.size ≤ q) → Bl A bp [.int .i64 a, .int .i64 b] → H2.size ≤ bp →
        (∀ v' A', Keep (fun q => H2.size ≤ q) A A' → CallsM P (ι.f 254) #[.int .i64 (n : Int), v'] A' (fun r A2 => (∃ (c d : Value) (e : Int) (x : Int), r = .tuple #[.agg #[c, d], .int .i64 e] ∧ c = .int .i64 x ∧ isSl d ∧ Bl A2 b1 [.int .i64 0, .slice none 0 0] ∧ Q (.tuple #[.agg #[c, d], .int .i64 e]) (stNA A2 ⟨b1, 0, none⟩ [c, d])) ∧ Keep (fun q => H2.size ≤ q) A' A2) → Kk v' A') → AppC false T 2 16 z w (.slice (some ⟨bp, 0, none⟩) 1 1) A Kk := by
      intro A w bp T z Kk hz KA O1 own1 B5 hbp hKk
      have sA := KA.size
      have O2 : OwE pE 2 A w ((gridP n R).map toI) := O1.conv (by simp) (toI_flat _)
      have hx2 : SlE pE 2 A (.slice (some ⟨bp, 0, none⟩) 1 1) [(a, b)] := SlE.bl B5 (l := [(a, b)]) rfl (by simp) (by simp)
      refine app_EN (l := (gridP n R).map toI) (m := [(a, b)]) H2.size pE_len pE_one O2 own1 (by omega) hx2 hz (by omega) (by simp; omega) fun v4 H4 O4 own4 K4 => hKk v4 H4 K4 ?_
      have K24 := KA.at_old K4 (Nat.le_refl _)
      refine (hw (n : Int) _ v4 H4 O4.sl (by simp; omega)).mono ?_
      rintro r H5 ⟨hr, hf, K5⟩
      have s4 := K24.size
      have s5 := K5.size
      obtain ⟨c, d, e, x, rfl, hc, hd⟩ := hr.shape
      have B1f := (K24.trans K5).bl C2 (by simp)
      refine ⟨⟨c, d, e, x, rfl, hc, hd, B1f, ?_⟩, K5.any⟩
      have KS : Keep (fun q => q = b1) H5 (stNA H5 ⟨b1, 0, none⟩ [c, d]) := (Keep.refl _ _).stNA _ (.inl rfl)
      have hb1l := C2.lt
      rw [hQ]
      exact ⟨.inr (.inr ⟨hok, hRab, hr.keep hf KS fun q hq e => by omega⟩), fun x pv c h q hq => by have := hf x pv c h q hq; omega, ((K0.trans K1).trans (K2.trans (K24.trans K5))).trans' KS fun q hq e => by omega⟩
    have mid : ∀ (A : Hp) (w : Value) (T : TypeId) (z : Array Value) (Kk : Value → Hp → Prop), z.size = 2 → Keep (fun _ => False) H2 A → OwE nE 2 A w ([] : List NP) → (∀ q, ownB w q → H2.size ≤ q) →
        (∀ v' A', Keep (fun q => H2.size ≤ q) A A' → OwE nE 2 A' v' (gridP n R) → (∀ q, ownB v' q → H2.size ≤ q) → Keep (ownB w) A A' → Kk v' A') → AppC false T 2 16 z w pv A Kk := by
      intro A w T z Kk hz KA O1 own1 hKk
      have sA := KA.size
      exact app_E (l := ([] : List NP)) (m := gridP n R) nE_len nE_one O1 ((p1.keep0 K2).keep0 KA) hz (by unfold maxLen; simp; omega) (by simp; omega) fun v4 H4 O4 L4 own4 => hKk v4 H4 (L4.mono fun q _ h => own1 q h) O4 (fun q h => by rcases own4 q h with h | h; exact own1 q h; omega) L4
    have kw : ∀ {A B : Hp}, Keep (fun q => H2.size ≤ q) A B → Keep (fun q => H2.size ≤ q ∨ q = b1) A B := fun h => h.mono fun q _ hq => .inl hq
    obtain ⟨pp, hpp⟩ : ∃ pp, pp = Obj.cells #[Value.int .i64 a, Value.int .i64 b] (ι.t 194) := ⟨_, rfl⟩
    obtain ⟨ee, hee⟩ : ∃ ee, ee = Obj.cells (#[] : Array Value) (ι.t 194) := ⟨_, rfl⟩
    have k1 := (Keep.refl (fun _ => False) H2).push ee
    have z1 : (H2.push ee).size = H2.size + 1 := by simp
    have e1 : OwE nE 2 (H2.push ee) (.slice (some ⟨H2.size, 0, none⟩) 0 0) ([] : List NP) := by
      rw [hee]; exact OwE.bl (Bl.new' H2 #[] (ι.t 194)) rfl (by omega) (by omega) (by simp)
    have o1 : ∀ q, ownB (.slice (some ⟨H2.size, 0, none⟩) 0 0) q → H2.size ≤ q := fun q (hq : q = H2.size) => by omega
    have bpn : ∀ A : Hp, Bl (A.push pp) A.size [.int .i64 a, .int .i64 b] := fun A => by rw [hpp]; exact Bl.new' A #[.int .i64 a, .int .i64 b] (ι.t 194)
    have tail : ∀ (c d : Value) (x : Int), c = .int .i64 x → isSl d → ∀ u ∈ [c, d], u.oneCell' = true := fun c d x hc hd u hu => by
      simp at hu
      rcases hu with rfl | rfl
      · rw [hc]; rfl
      · cases u <;> first | rfl | exact hd.elim
    refine ⟨by omega, ?_, ?_⟩
    · rw [← hpp, ← hee]
      refine ⟨kw k1.any, ?_, ?_⟩
      · refine mid _ _ _ _ _ rfl k1 e1 o1 fun v' A' K3 O3 own3 L3 => ?_
        have KA := k1.at_old K3 (Nat.le_refl _)
        have sA := KA.size
        simp only [go_sem, List.map_cons, List.map_nil, ↓reduceIte, Nat.reduceEqDiff, Nat.reduceAdd, Nat.reduceMul, reduceCtorEq, and_true, true_and, Nat.mul_one, Nat.zero_add, Bool.false_eq_true, decide_true, decide_false, not_false_eq_true, kont_eq, fillV_nil, fillV_cons, okFill_nil, okFill_cons, cells_slice, cells_int, cells_bool, cells_str, cells_ptr, cells_agg, stNH_ptr, okN_ptr, wrA1, wrA20, wrA21]
        rw [← hpp]
        have K4 := (Keep.refl (fun _ => False) A').push pp
        refine ⟨kw K3, kw K4.any, fin _ _ _ _ _ _ rfl (KA.trans K4) (O3.keep K4 (by simp)) own3 (bpn A') (by omega) fun v'' A'' K5 hcall => ?_⟩
        simp only [go_sem, List.map_cons, List.map_nil, ↓reduceIte, Nat.reduceEqDiff, Nat.reduceAdd, Nat.reduceMul, reduceCtorEq, and_true, true_and, Nat.mul_one, Nat.zero_add, Bool.false_eq_true, decide_true, decide_false, not_false_eq_true, kont_eq]
        refine ⟨kw K5, hcall.mono ?_⟩
        rintro r A2 ⟨⟨c, d, e, x, rfl, hc, hd, hB, hq⟩, K6⟩
        simp only [go_sem, List.map_cons, List.map_nil, ↓reduceIte, Nat.reduceEqDiff, Nat.reduceAdd, Nat.reduceMul, reduceCtorEq, and_true, true_and, Nat.mul_one, Nat.zero_add, Bool.false_eq_true, decide_true, decide_false, not_false_eq_true, kont_eq, fillV_nil, fillV_cons, okFill_nil, okFill_cons, cells_slice, cells_int, cells_bool, cells_str, cells_ptr, cells_agg, stNH_ptr, okN_ptr, wrA1, wrA20, wrA21]
        have hB2 : Bl (stNA A2 ⟨b1, 0, none⟩ [c, d]) b1 [c, d] := hB.stNA 0 [c, d]
        have h1 := tail c d x hc hd
        rw [hB2.ldNO 2 rfl]
        exact ⟨kw K6, ⟨hB.okNA (o := 0) (n := 2) (by simp), fun u hu => h1 u (by simpa using hu)⟩, (Keep.refl _ _).stNA _ (.inl (.inr rfl)), rfl, hq⟩
      · have K4 := (Keep.refl (fun _ => False) (H2.push ee)).push pp
        refine ⟨kw K4.any, ?_⟩
        refine mid _ _ _ _ _ rfl (k1.trans K4) (e1.keep K4 (by simp)) o1 fun v' A' K3 O3 own3 L3 => ?_
        have KA := (k1.trans K4).at_old K3 (Nat.le_refl _)
        have hBp := bpn (H2.push ee)
        rw [z1] at hBp
        simp only [go_sem, List.map_cons, List.map_nil, ↓reduceIte, Nat.reduceEqDiff, Nat.reduceAdd, Nat.reduceMul, reduceCtorEq, and_true, true_and, Nat.mul_one, Nat.zero_add, Bool.false_eq_true, decide_true, decide_false, not_false_eq_true, kont_eq, fillV_nil, fillV_cons, okFill_nil, okFill_cons, cells_slice, cells_int, cells_bool, cells_str, cells_ptr, cells_agg, stNH_ptr, okN_ptr, wrA1, wrA20, wrA21, z1]
        refine ⟨kw K3, fin _ _ _ _ _ _ rfl KA O3 own3 (?_ : Bl A' (H2.size + 1) _) (by omega) fun v'' A'' K5 hcall => ?_⟩
        · exact L3.bl hBp (fun h => by have h : H2.size + 1 = H2.size := h; omega)
        simp only [go_sem, List.map_cons, List.map_nil, ↓reduceIte, Nat.reduceEqDiff, Nat.reduceAdd, Nat.reduceMul, reduceCtorEq, and_true, true_and, Nat.mul_one, Nat.zero_add, Bool.false_eq_true, decide_true, decide_false, not_false_eq_true, kont_eq]
        refine ⟨kw K5, hcall.mono ?_⟩
        rintro r A2 ⟨⟨c, d, e, x, rfl, hc, hd, hB, hq⟩, K6⟩
        simp only [go_sem, List.map_cons, List.map_nil, ↓reduceIte, Nat.reduceEqDiff, Nat.reduceAdd, Nat.reduceMul, reduceCtorEq, and_true, true_and, Nat.mul_one, Nat.zero_add, Bool.false_eq_true, decide_true, decide_false, not_false_eq_true, kont_eq, fillV_nil, fillV_cons, okFill_nil, okFill_cons, cells_slice, cells_int, cells_bool, cells_str, cells_ptr, cells_agg, stNH_ptr, okN_ptr, wrA1, wrA20, wrA21]
        have hB2 : Bl (stNA A2 ⟨b1, 0, none⟩ [c, d]) b1 [c, d] := hB.stNA 0 [c, d]
        have h1 := tail c d x hc hd
        rw [hB2.ldNO 2 rfl]
        exact ⟨kw K6, ⟨hB.okNA (o := 0) (n := 2) (by simp), fun u hu => h1 u (by simpa using hu)⟩, (Keep.refl _ _).stNA _ (.inl (.inr rfl)), rfl, hq⟩
    · rw [← hpp, ← hee]
      have k2 := (Keep.refl (fun _ => False) H2).push pp
      have z2 : (H2.push pp).size = H2.size + 1 := by simp
      have k3 := (Keep.refl (fun _ => False) (H2.push pp)).push ee
      have e2 : OwE nE 2 ((H2.push pp).push ee) (.slice (some ⟨(H2.push pp).size, 0, none⟩) 0 0) ([] : List NP) := by
        rw [hee]; exact OwE.bl (Bl.new' (H2.push pp) #[] (ι.t 194)) rfl (by omega) (by omega) (by simp)
      have hBp := k3.bl (bpn H2) (by simp)
      refine ⟨kw k2.any, kw k3.any, ?_⟩
      · refine mid _ _ _ _ _ rfl (k2.trans k3) e2 (fun q (hq : q = (H2.push pp).size) => by omega) fun v' A' K3 O3 own3 L3 => ?_
        have KA := (k2.trans k3).at_old K3 (Nat.le_refl _)
        simp only [go_sem, List.map_cons, List.map_nil, ↓reduceIte, Nat.reduceEqDiff, Nat.reduceAdd, Nat.reduceMul, reduceCtorEq, and_true, true_and, Nat.mul_one, Nat.zero_add, Bool.false_eq_true, decide_true, decide_false, not_false_eq_true, kont_eq, fillV_nil, fillV_cons, okFill_nil, okFill_cons, cells_slice, cells_int, cells_bool, cells_str, cells_ptr, cells_agg, stNH_ptr, okN_ptr, wrA1, wrA20, wrA21, z2]
        refine ⟨kw K3, fin _ _ _ _ _ _ rfl KA O3 own3 (?_ : Bl A' H2.size _) (by omega) fun v'' A'' K5 hcall => ?_⟩
        · exact L3.bl hBp (fun h => by have h : H2.size = (H2.push pp).size := h; omega)
        simp only [go_sem, List.map_cons, List.map_nil, ↓reduceIte, Nat.reduceEqDiff, Nat.reduceAdd, Nat.reduceMul, reduceCtorEq, and_true, true_and, Nat.mul_one, Nat.zero_add, Bool.false_eq_true, decide_true, decide_false, not_false_eq_true, kont_eq]
        refine ⟨kw K5, hcall.mono ?_⟩
        rintro r A2 ⟨⟨c, d, e, x, rfl, hc, hd, hB, hq⟩, K6⟩
        simp only [go_sem, List.map_cons, List.map_nil, ↓reduceIte, Nat.reduceEqDiff, Nat.reduceAdd, Nat.reduceMul, reduceCtorEq, and_true, true_and, Nat.mul_one, Nat.zero_add, Bool.false_eq_true, decide_true, decide_false, not_false_eq_true, kont_eq, fillV_nil, fillV_cons, okFill_nil, okFill_cons, cells_slice, cells_int, cells_bool, cells_str, cells_ptr, cells_agg, stNH_ptr, okN_ptr, wrA1, wrA20, wrA21]
        have hB2 : Bl (stNA A2 ⟨b1, 0, none⟩ [c, d]) b1 [c, d] := hB.stNA 0 [c, d]
        have h1 := tail c d x hc hd
        rw [hB2.ldNO 2 rfl]
        exact ⟨kw K6, ⟨hB.okNA (o := 0) (n := 2) (by simp), fun u hu => h1 u (by simpa using hu)⟩, (Keep.refl _ _).stNA _ (.inl (.inr rfl)), rfl, hq⟩
theorem rwout2_ok {P : Program} {ι : Ids} {k : FuncId} (hk : FnIs P k (c_rwout2 ι) r_rwout2 3) (hg : RGivSpec P (ι.f 247)) : RWout2Spec P k := by
  intro n R v a b H hv
  obtain ⟨hn, hR, pv, rfl, hp⟩ := hv
  obtain ⟨Q, hQ⟩ : ∃ Q : Value → Hp → Prop, Q = fun r H' => RWoutRes n R a b r H' ∧ frR H.size r ∧ Keep (fun _ => False) H H' := ⟨_, rfl⟩
  rw [← hQ]
  refine calls_of_vc hk (args := [_, _, _]) (by simp) ?_
  unfold c_rwout2 r_rwout2
  simp only [go_sem, List.map_cons, List.map_nil, ↓reduceIte, Nat.reduceEqDiff, Nat.reduceAdd, Nat.reduceMul, reduceCtorEq, and_true, true_and, Nat.mul_one, Nat.zero_add, Bool.false_eq_true, decide_true, decide_false, not_false_eq_true]
  refine kont_new fun H0 b0 e0 z0 B0 K0 => ?_
  have s0 := K0.size
  have B0' : Bl H0 b0 [.int .i64 (n : Int), pv] := B0
  simp only [go_sem, List.map_cons, List.map_nil, ↓reduceIte, Nat.reduceEqDiff, Nat.reduceAdd, Nat.reduceMul, reduceCtorEq, and_true, true_and, Nat.mul_one, Nat.zero_add, Bool.false_eq_true, decide_true, decide_false, not_false_eq_true]
  refine kont_new fun H1 b1 e1' z1 B1 K1 => ?_
  have s1 := K1.size
  have B1' : Bl H1 b1 [.int .i64 0, .slice none 0 0] := B1
  have D1 := K1.bl B0' (by simp)
  have p1 := (hp.keep0 K0).keep0 K1
  have hgl := gridP_len16 R hn
  simp only [go_sem, List.map_cons, List.map_nil, ↓reduceIte, Nat.reduceEqDiff, Nat.reduceAdd, Nat.reduceMul, reduceCtorEq, and_true, true_and, Nat.mul_one, Nat.zero_add, Bool.false_eq_true, decide_true, decide_false, not_false_eq_true, kont_eq, D1.ldNO 2 rfl]
  refine (hg n a b pv (gridP n R) H1 p1 (by omega)).mono ?_
  rintro r H2 ⟨rfl, K2⟩
  have s2 := K2.size
  have C2 := K2.bl B1' (by simp)
  have D2 := K2.bl D1 (by simp)
  by_cases hm : (a, b) ∈ (gridP n R).map toI
  rotate_left
  · have e5 : decide ((a, b) ∈ (gridP n R).map toI) = false := decide_eq_false hm
    have hst1 : okNA H2 ⟨b1, 0, none⟩ 2 := C2.okNA (o := 0) (n := 2) (by simp)
    have hone : ∀ w ∈ [Value.int .i64 0, Value.slice none 0 0], w.oneCell' = true := fun w hw => by simp at hw; rcases hw with rfl | rfl <;> rfl
    have hld : ldNO (stNA H2 ⟨b1, 0, none⟩ [.int .i64 0, .slice none 0 0]) (.pointer (some ⟨b1, 0, none⟩)) 2 = some #[.int .i64 0, .slice none 0 0] := (Bl.stNA C2 0 [.int .i64 0, .slice none 0 0]).ldNO 2 rfl
    have hz1 : all1 #[Value.int .i64 0, Value.slice none 0 0] := fun w hw => by simp at hw; rcases hw with rfl | rfl <;> rfl
    rw [kont_eq]
    simp only [go_sem, List.map_cons, List.map_nil, ↓reduceIte, Nat.reduceEqDiff, Nat.reduceAdd, Nat.reduceMul, reduceCtorEq, and_true, true_and, Nat.mul_one, Nat.zero_add, Bool.false_eq_true, decide_true, decide_false, not_false_eq_true, kont_eq, fillV_nil, fillV_cons, okFill_nil, okFill_cons, cells_slice, cells_int, cells_bool, cells_str, cells_ptr, cells_agg, stNH_ptr, okN_ptr, wrA1, wrA20, wrA21, e5, Bool.not_false, hst1, hld, hone]
    refine ⟨hz1, ?_⟩
    rw [hQ]
    exact ⟨.inl ⟨hm, rfl⟩, frR.z _ _, ((K0.trans K1).trans K2).trans' ((Keep.refl (fun q => q = b1) H2).stNA _ (.inl rfl)) fun q hq e => by omega⟩
  have e5 : decide ((a, b) ∈ (gridP n R).map toI) = true := decide_eq_true hm
  have c20 : cell H2 ⟨b0, 0, none⟩ = some (.int .i64 (n : Int)) := by rw [D2.cell]; rfl
  rw [kont_eq]
  simp only [go_sem, List.map_cons, List.map_nil, ↓reduceIte, Nat.reduceEqDiff, Nat.reduceAdd, Nat.reduceMul, reduceCtorEq, and_true, true_and, Nat.mul_one, Nat.zero_add, Bool.false_eq_true, decide_true, decide_false, not_false_eq_true, fillV_nil, fillV_cons, okFill_nil, okFill_cons, cells_slice, cells_int, cells_bool, cells_str, cells_ptr, cells_agg, stNH_ptr, okN_ptr, wrA1, wrA20, wrA21, e5, Bool.not_true, c20]
  refine ⟨by omega, ?_⟩
  refine kont_new fun H5 b5 e5' z5 B5 K5 => ?_
  have s5 := K5.size
  have hst5 := B5.okNA (o := 0) (n := 2) (by simp)
  have B6 : Bl (stNA H5 ⟨b5, 0, none⟩ [.int .i64 (n : Int), .slice none 0 0]) b5 [.int .i64 (n : Int), .slice none 0 0] := B5.stNA 0 [.int .i64 (n : Int), .slice none 0 0]
  have K6 : Keep (fun q => q = b5) H5 (stNA H5 ⟨b5, 0, none⟩ [.int .i64 (n : Int), .slice none 0 0]) := (Keep.refl _ _).stNA _ (.inl rfl)
  have ha3 : all1 #[Value.int .i64 (n : Int), Value.slice none 0 0] := fun w hw => by simp at hw; rcases hw with rfl | rfl <;> rfl
  simp only [go_sem, List.map_cons, List.map_nil, ↓reduceIte, Nat.reduceEqDiff, Nat.reduceAdd, Nat.reduceMul, reduceCtorEq, and_true, true_and, Nat.mul_one, Nat.zero_add, Bool.false_eq_true, decide_true, decide_false, not_false_eq_true, fillV_nil, fillV_cons, okFill_nil, okFill_cons, cells_slice, cells_int, cells_bool, cells_str, cells_ptr, cells_agg, stNH_ptr, okN_ptr, wrA1, wrA20, wrA21, hst5]
  refine ⟨ha3, ?_⟩
  rw [kont_eq]
  generalize stNA H5 ⟨b5, 0, none⟩ [.int .i64 (n : Int), .slice none 0 0] = H6 at B6 K6 ⊢
  have s6 := K6.size
  have K26 : Keep (fun _ => False) H2 H6 := K5.to_old K6 (by omega)
  have D6 := K26.bl D2 (by simp)
  have p6 := (p1.keep0 K2).keep0 K26
  have c61 : cell H6 ⟨b0, 1, none⟩ = some pv := by rw [D6.cell]; rfl
  have hb0 : b0 < H2.size := D2.lt
  simp only [go_sem, List.map_cons, List.map_nil, ↓reduceIte, Nat.reduceEqDiff, Nat.reduceAdd, Nat.reduceMul, reduceCtorEq, and_true, true_and, Nat.mul_one, Nat.zero_add, Bool.false_eq_true, decide_true, decide_false, not_false_eq_true, kont_eq, c61, p6.isSl, p6.lenS, p6.len]
  refine vc_loop [24, 10, 36, 23] rfl (fun m g A => ∃ (q : Nat) (w : Value), q ≤ (gridP n R).length ∧ m = (gridP n R).length - q ∧ g 23 = .int .i64 (q : Int) ∧ Bl A b5 [.int .i64 (n : Int), w] ∧ OwE nE 2 A w (fltP ((gridP n R).take q) a b) ∧ (∀ q, ownB w q → H6.size ≤ q) ∧ Keep (fun q => q = b5) H6 A) (gridP n R).length ?_ ?_
  · exact ⟨0, _, by omega, by omega, by simp only [go_sem, List.map_cons, List.map_nil, ↓reduceIte, Nat.reduceEqDiff, Nat.reduceAdd, Nat.reduceMul, reduceCtorEq, and_true, true_and, Nat.mul_one, Nat.zero_add, Bool.false_eq_true, decide_true, decide_false, not_false_eq_true, kont_eq]; rfl, B6, OwE.nil _, fun q h => h.elim, Keep.refl _ _⟩
  rintro m g H7 ⟨q, w, hq, rfl, hg23, B7, O7, w7, K7⟩
  have s7 := K7.size
  simp only [go_sem, List.map_cons, List.map_nil, ↓reduceIte, Nat.reduceEqDiff, Nat.reduceAdd, Nat.reduceMul, reduceCtorEq, and_true, true_and, Nat.mul_one, Nat.zero_add, Bool.false_eq_true, decide_true, decide_false, not_false_eq_true, kont_eq] at hg23
  simp only [go_sem, List.map_cons, List.map_nil, ↓reduceIte, Nat.reduceEqDiff, Nat.reduceAdd, Nat.reduceMul, reduceCtorEq, and_true, true_and, Nat.mul_one, Nat.zero_add, Bool.false_eq_true, decide_true, decide_false, not_false_eq_true, hg23]
  refine iteV_dec (fun hlt => ?_) (fun hge => ?_)
  · have hlt : q < (gridP n R).length := by omega
    have p7 := (p1.keep0 K2).keep (K26.trans' K7 fun q hq e => (by omega : False)) (by simp)
    obtain ⟨pb, po, pc, rfl, hpq, hld⟩ := p7.elem nE_len hlt
    rw [← at0_eq hlt] at hld
    have hsu := fltP_succ hlt a b
    obtain ⟨x, y, hxy⟩ : ∃ x y, at0 (gridP n R) q = (x, y) := ⟨_, _, rfl⟩
    rw [hxy] at hld hsu
    have hld' : ldNA H7 ⟨pb, po + q * 2, none⟩ 2 = some #[.int .i64 (x : Int), .int .i64 (y : Int)] := hld
    simp only [go_sem, List.map_cons, List.map_nil, ↓reduceIte, Nat.reduceEqDiff, Nat.reduceAdd, Nat.reduceMul, reduceCtorEq, and_true, true_and, Nat.mul_one, Nat.zero_add, Bool.false_eq_true, decide_true, decide_false, not_false_eq_true, fillV_nil, fillV_cons, okFill_nil, okFill_cons, cells_slice, cells_int, cells_bool, cells_str, cells_ptr, cells_agg, stNH_ptr, okN_ptr, wrA1, wrA20, wrA21, tn_cast, ldNO_ptr, hld']
    refine ⟨by omega, ?_⟩
    refine kont_new fun H8 b8 e8 z8 B8 K8 => ?_
    have s8 := K8.size
    have hst := B8.okNA (o := 0) (n := 2) (by simp)
    have B9 : Bl (stNA H8 ⟨b8, 0, none⟩ [.int .i64 (x : Int), .int .i64 (y : Int)]) b8 [.int .i64 (x : Int), .int .i64 (y : Int)] := B8.stNA 0 [.int .i64 (x : Int), .int .i64 (y : Int)]
    have K9 : Keep (fun q => q = b8) H8 (stNA H8 ⟨b8, 0, none⟩ [.int .i64 (x : Int), .int .i64 (y : Int)]) := (Keep.refl _ _).stNA _ (.inl rfl)
    have ha1 : all1 #[Value.int .i64 (x : Int), Value.int .i64 (y : Int)] := fun w hw => by simp at hw; rcases hw with rfl | rfl <;> rfl
    simp only [go_sem, List.map_cons, List.map_nil, ↓reduceIte, Nat.reduceEqDiff, Nat.reduceAdd, Nat.reduceMul, reduceCtorEq, and_true, true_and, Nat.mul_one, Nat.zero_add, Bool.false_eq_true, decide_true, decide_false, not_false_eq_true, fillV_nil, fillV_cons, okFill_nil, okFill_cons, cells_slice, cells_int, cells_bool, cells_str, cells_ptr, cells_agg, stNH_ptr, okN_ptr, wrA1, wrA20, wrA21, hst]
    refine ⟨ha1, ?_⟩
    rw [kont_eq]
    generalize stNA H8 ⟨b8, 0, none⟩ [.int .i64 (x : Int), .int .i64 (y : Int)] = H9 at B9 K9 ⊢
    have s9 := K9.size
    have K79 : Keep (fun _ => False) H7 H9 := K8.to_old K9 (by omega)
    have cx : cell H9 ⟨b8, 0, none⟩ = some (.int .i64 (x : Int)) := by rw [B9.cell]; rfl
    have cy : cell H9 ⟨b8, 1, none⟩ = some (.int .i64 (y : Int)) := by rw [B9.cell]; rfl
    have B97 := K79.bl B7 (by simp)
    have O9 := O7.keep K79 (by simp)
    have c91 : cell H9 ⟨b5, 1, none⟩ = some w := by rw [B97.cell]; rfl
    have hfl := fltP_len ((gridP n R).take q) a b
    rw [List.length_take] at hfl
    have hto : toI (x, y) = ((x : Int), (y : Int)) := rfl
    have app : ∀ (A : Hp) (T : TypeId) (z : Array Value) (bp : Nat) (Kk : Value → Hp → Prop), z.size = 2 → Keep (fun _ => False) H9 A → Bl A bp [.int .i64 (x : Int), .int .i64 (y : Int)] → toI (x, y) ≠ (a, b) →
        (∀ (ya : Option Addr) (yn yc : Nat) (A3 : Hp), (cell A3 ⟨b5, 1, none⟩).isSome = true ∧ frz A3 ⟨b5, 1, none⟩ = false → Bl (setc A3 ⟨b5, 1, none⟩ (.slice ya yn yc)) b5 [.int .i64 (n : Int), .slice ya yn yc] → OwE nE 2 (setc A3 ⟨b5, 1, none⟩ (.slice ya yn yc)) (.slice ya yn yc) (fltP ((gridP n R).take (q + 1)) a b) → (∀ p, ownB (.slice ya yn yc) p → H6.size ≤ p) → Keep (fun q => q = b5) H6 (setc A3 ⟨b5, 1, none⟩ (.slice ya yn yc)) → Kk (.slice ya yn yc) A3) →
        AppC false T 2 16 z w (.slice (some ⟨bp, 0, none⟩) 1 1) A Kk := by
      intro A T z bp Kk hz KA Ba hne hKk
      have hx2 : SlE nE 2 A (.slice (some ⟨bp, 0, none⟩) 1 1) [(x, y)] := SlE.bl Ba (l := [(x, y)]) rfl (by simp) (by simp)
      refine app_E (m := [(x, y)]) nE_len nE_one (O9.keep KA (by simp)) hx2 hz (by unfold maxLen; rw [List.length_singleton]; omega) (by rw [List.length_singleton]; omega) fun v3 A3 O3' L3 own3' => ?_
      have t3 := L3.size
      have tA := KA.size
      rw [if_neg hne] at hsu
      rw [← hsu] at O3'
      obtain ⟨ya, yn, yc, rfl⟩ := O3'.shape
      have hb5n : ¬ ownB w b5 := fun h => by have := w7 _ h; omega
      have j13 := L3.bl (KA.bl B97 (by simp)) hb5n
      have L4 : Keep (fun p => p = b5) A3 (setc A3 ⟨b5, 1, none⟩ (.slice ya yn yc)) := (Keep.refl _ _).setc _ (.inl rfl)
      have o4 : ∀ p, ownB (.slice ya yn yc) p → H6.size ≤ p := fun p hp => by
        rcases own3' p hp with h | h
        · exact w7 p h
        · omega
      exact hKk ya yn yc A3 (j13.okSt (o := 1) (by simp)) (j13.setc 1 (.slice ya yn yc)) (O3'.keep L4 (fun q hq e => by have := o4 q hq; omega)) o4 ((((K7.trans K79.any).trans KA.any).trans' L3 fun q hq h => by have := w7 _ h; omega).trans L4)
    by_cases h1 : (x : Int) = a
    · have e1 : ((x : Int) != a) = false := by simp [h1]
      by_cases h2 : (y : Int) = b
      · have e2 : ((y : Int) != b) = false := by simp [h2]
        simp (disch := omega) only [go_sem, List.map_cons, List.map_nil, ↓reduceIte, Nat.reduceEqDiff, Nat.reduceAdd, Nat.reduceMul, reduceCtorEq, and_true, true_and, Nat.mul_one, Nat.zero_add, Bool.false_eq_true, decide_true, decide_false, not_false_eq_true, kont_eq, fillV_nil, fillV_cons, okFill_nil, okFill_cons, cells_slice, cells_int, cells_bool, cells_str, cells_ptr, cells_agg, stNH_ptr, okN_ptr, wrA1, wrA20, wrA21, ha1, hg23, cx, cy, e1, e2, tn_cast, Nat.mul_one, Nat.zero_add, IntWalk.i64_in]
        refine ⟨by omega, by omega, (gridP n R).length - (q + 1), by omega, q + 1, w, by omega, rfl, rfl, B97, ?_, w7, K7.trans K79.any⟩
        rw [hsu, if_pos (by rw [hto, h1, h2]), List.append_nil]; exact O9
      · have e2 : ((y : Int) != b) = true := by simp [h2]
        simp (disch := omega) only [go_sem, List.map_cons, List.map_nil, ↓reduceIte, Nat.reduceEqDiff, Nat.reduceAdd, Nat.reduceMul, reduceCtorEq, and_true, true_and, Nat.mul_one, Nat.zero_add, Bool.false_eq_true, decide_true, decide_false, not_false_eq_true, fillV_nil, fillV_cons, okFill_nil, okFill_cons, cells_slice, cells_int, cells_bool, cells_str, cells_ptr, cells_agg, stNH_ptr, okN_ptr, wrA1, wrA20, wrA21, ha1, hg23, cx, cy, e1, e2, c91, B9.ldNO 2 rfl, tn_cast, Nat.mul_one, Nat.zero_add, IntWalk.i64_in]
        refine ⟨by omega, by omega, ?_⟩
        refine kont_news fun A ba ea za Ba KA => ?_
        simp only [go_sem, List.map_cons, List.map_nil, ↓reduceIte, Nat.reduceEqDiff, Nat.reduceAdd, Nat.reduceMul, reduceCtorEq, and_true, true_and, Nat.mul_one, Nat.zero_add, Bool.false_eq_true, decide_true, decide_false, not_false_eq_true, kont_eq]
        refine app A _ _ ba _ rfl KA Ba (fun h => h2 (congrArg Prod.snd h)) fun ya yn yc A3 h3 h4 h5 h6 h7 => ?_
        simp (disch := omega) only [go_sem, List.map_cons, List.map_nil, ↓reduceIte, Nat.reduceEqDiff, Nat.reduceAdd, Nat.reduceMul, reduceCtorEq, and_true, true_and, Nat.mul_one, Nat.zero_add, Bool.false_eq_true, decide_true, decide_false, not_false_eq_true, kont_eq, h3, hg23, IntWalk.i64_in]
        exact ⟨(gridP n R).length - (q + 1), by omega, q + 1, _, by omega, rfl, rfl, h4, h5, h6, h7⟩
    · have e1 : ((x : Int) != a) = true := by simp [h1]
      simp (disch := omega) only [go_sem, List.map_cons, List.map_nil, ↓reduceIte, Nat.reduceEqDiff, Nat.reduceAdd, Nat.reduceMul, reduceCtorEq, and_true, true_and, Nat.mul_one, Nat.zero_add, Bool.false_eq_true, decide_true, decide_false, not_false_eq_true, fillV_nil, fillV_cons, okFill_nil, okFill_cons, cells_slice, cells_int, cells_bool, cells_str, cells_ptr, cells_agg, stNH_ptr, okN_ptr, wrA1, wrA20, wrA21, ha1, hg23, cx, cy, e1, c91, B9.ldNO 2 rfl, tn_cast, Nat.mul_one, Nat.zero_add, IntWalk.i64_in]
      refine ⟨by omega, ?_⟩
      refine kont_news fun A ba ea za Ba KA => ?_
      simp only [go_sem, List.map_cons, List.map_nil, ↓reduceIte, Nat.reduceEqDiff, Nat.reduceAdd, Nat.reduceMul, reduceCtorEq, and_true, true_and, Nat.mul_one, Nat.zero_add, Bool.false_eq_true, decide_true, decide_false, not_false_eq_true, kont_eq]
      refine app A _ _ ba _ rfl KA Ba (fun h => h1 (congrArg Prod.fst h)) fun ya yn yc A3 h3 h4 h5 h6 h7 => ?_
      simp (disch := omega) only [go_sem, List.map_cons, List.map_nil, ↓reduceIte, Nat.reduceEqDiff, Nat.reduceAdd, Nat.reduceMul, reduceCtorEq, and_true, true_and, Nat.mul_one, Nat.zero_add, Bool.false_eq_true, decide_true, decide_false, not_false_eq_true, kont_eq, h3, hg23, IntWalk.i64_in]
      exact ⟨(gridP n R).length - (q + 1), by omega, q + 1, _, by omega, rfl, rfl, h4, h5, h6, h7⟩
  · have hqe : q = (gridP n R).length := by omega
    subst hqe
    rw [List.take_length] at O7
    have K17 : Keep (fun _ => False) H1 H7 := (K2.trans K26).trans' K7 fun q hq e => by omega
    have C7 := K17.bl B1' (by simp)
    obtain ⟨wa, wn, wc, rfl⟩ := O7.shape
    have hst7 := C7.okNA (o := 0) (n := 2) (by simp)
    have C8 : Bl (stNA H7 ⟨b1, 0, none⟩ [.int .i64 (n : Int), .slice wa wn wc]) b1 [.int .i64 (n : Int), .slice wa wn wc] := C7.stNA 0 [.int .i64 (n : Int), .slice wa wn wc]
    have K8 : Keep (fun q => q = b1) H7 (stNA H7 ⟨b1, 0, none⟩ [.int .i64 (n : Int), .slice wa wn wc]) := (Keep.refl _ _).stNA _ (.inl rfl)
    have ha5 : all1 #[Value.int .i64 (n : Int), Value.slice wa wn wc] := fun u hu => by simp at hu; rcases hu with rfl | rfl <;> rfl
    have hns : ∀ u ∈ [Value.int .i64 (n : Int), Value.slice wa wn wc], u.oneCell' = true := fun u hu => by simp at hu; rcases hu with rfl | rfl <;> rfl
    simp only [go_sem, List.map_cons, List.map_nil, ↓reduceIte, Nat.reduceEqDiff, Nat.reduceAdd, Nat.reduceMul, reduceCtorEq, and_true, true_and, Nat.mul_one, Nat.zero_add, Bool.false_eq_true, decide_true, decide_false, not_false_eq_true, kont_eq, fillV_nil, fillV_cons, okFill_nil, okFill_cons, cells_slice, cells_int, cells_bool, cells_str, cells_ptr, cells_agg, stNH_ptr, okN_ptr, wrA1, wrA20, wrA21, B7.ldNO 2 rfl, hst7, C8.ldNO 2 rfl, hns]
    refine ⟨ha5, ?_⟩
    rw [hQ]
    obtain ⟨p, hp1, hp2⟩ := List.mem_map.1 hm
    have ea' : a = (p.1 : Int) := (congrArg Prod.fst hp2).symm
    have eb' : b = (p.2 : Int) := (congrArg Prod.snd hp2).symm
    have ea : a.toNat = p.1 := by omega
    have eb : b.toNat = p.2 := by omega
    refine ⟨.inr ⟨hm, _, rfl, hn, ?_, _, rfl, ?_⟩, fun x pv c h q hq => ?_, ((K0.trans K1).trans K17).trans' K8 fun q hq e => by omega⟩
    · rw [ea, eb]; exact hR.less _ _
    · rw [ea, eb]
      rw [ea', eb', fltP_grid hR] at O7
      exact (O7.keep K8 fun q hq e => by have := w7 q hq; omega).sl
    · simp only [Value.tuple.injEq, Array.mk.injEq, List.cons.injEq, Value.agg.injEq, and_true] at h
      rw [← h.1.2] at hq
      have := w7 q (O7.slB hq)
      omega
end Go.Mg

/- Several texts of ours in one. No conditions. -/
import Derived.Test.YtamkbeibmhkciaaDoorMgP5
namespace Go.Mg
open Go Go.RowKit
set_option linter.unusedSimpArgs false
set_option linter.unusedVariables false
set_option maxRecDepth 100000
/- slices.Index[[][2]int,[2]int] -/
def c_idxP (ι : Ids) : S :=
  .seq (.reg [.e (.v 3) (.box (ι.t 194) (.v 1)), .p (.v 4) (.mv (.c (.int .i64 0)))]) (.seq (.seq (.reg [.p (.t 6) (.mv (.v 0)), .p (.v 7) (.m (.lenl (.t 6))), .p (.v 8) (.mv (.c (.int .i64 0)))]) (.blk
  0 (.loop (.seq (.reg [.p (.v 9) (.cm .lss .i64 (.v 8) (.v 7))]) (.seq (.ite (.v 9) .skip (.exit 0)) (.seq (.blk 1 (.seq (.reg [.p (.t 10) (.mv (.v 8)), .p (.v 5) (.mv (.t 10))]) (.seq (.reg [.p (.t
  11) (.m (.ldn 2 (.v 3))), .p (.t 12) (.mv (.v 0)), .p (.t 13) (.mv (.v 5)), .p (.t 14) (.is 2 (.t 12) (.t 13)), .p (.t 15) (.m (.ldn 2 (.t 14))), .p (.v 16) (.m (.eqa false .i64 2 (.t 11) (.t 15)))])
  (.ite (.v 16) (.seq (.reg [.p (.t 17) (.mv (.v 5)), .p (.v 4) (.mv (.t 17))]) .ret) .skip)))) (.reg [.p (.t 18) (.ar .add .i64 (.v 8) (.c (.int .i64 1))), .p (.v 8) (.mv (.t 18))]))))))) (.seq (.reg
  [.p (.v 4) (.mv (.c (.int .i64 (-1))))]) .ret))
def r_idxP : List RV := [.t 4]
/- slices.Contains[[][2]int,[2]int] -/
def c_conP (ι : Ids) : S :=
  .seq (.reg [.e (.v 3) (.box (ι.t 194) (.v 1)), .p (.v 4) (.mv (.c (.bool false)))]) (.seq (.reg [.p (.t 5) (.mv (.v 0)), .p (.t 6) (.m (.ldn 2 (.v 3))), .e (.t 7) (.call (ι.f 226) [.t 5, .t 6]), .p
  (.t 8) (.cm .geq .i64 (.t 7) (.c (.int .i64 0))), .p (.v 4) (.mv (.t 8))]) .ret)
def r_conP : List RV := [.t 4]
/- slices.Delete[[][2]int,[2]int] -/
def c_delP (ι : Ids) : S :=
  .seq (.reg [.p (.v 6) (.mv (.c (.slice .none 0 0)))]) (.seq (.reg [.p (.t 8) (.mv (.v 0)), .p (.t 9) (.mv (.v 1)), .p (.t 10) (.mv (.v 2)), .p (.t 11) (.mv (.v 0)), .p (.t 12) (.m (.lenl (.t 11))), .p
  (.t 13) (.m (.slm 2 (.t 8) (.some (.t 9)) (.t 10) (.t 12)))]) (.seq (.seq (.reg [.p (.t 14) (.mv (.v 1)), .p (.t 15) (.mv (.v 2)), .p (.v 16) (.cm .eql .i64 (.t 14) (.t 15))]) (.ite (.v 16) (.seq
  (.reg [.p (.t 17) (.mv (.v 0)), .p (.v 6) (.mv (.t 17))]) .ret) .skip)) (.seq (.reg [.p (.t 18) (.mv (.v 0)), .p (.t 19) (.m (.lenl (.t 18))), .p (.v 7) (.mv (.t 19))]) (.seq (.reg [.p (.t 20) (.mv
  (.v 0)), .p (.t 21) (.mv (.v 1)), .p (.t 22) (.m (.sls 2 (.t 20) .none (.some (.t 21)))), .p (.t 23) (.mv (.v 0)), .p (.t 24) (.mv (.v 2)), .p (.t 25) (.m (.sls 2 (.t 23) (.some (.t 24)) .none)), .e
  (.t 26) (.app false (ι.t 194) 2 16 #[.int .i64 0, .int .i64 0] (.t 22) (.t 25)), .p (.v 0) (.mv (.t 26))]) (.seq (.reg [.p (.t 27) (.mv (.v 0)), .p (.t 28) (.mv (.v 0)), .p (.t 29) (.m (.lenl (.t
  28))), .p (.t 30) (.mv (.v 7)), .p (.t 31) (.m (.sls 2 (.t 27) (.some (.t 29)) (.some (.t 30)))), .e .no (.clr #[.int .i64 0, .int .i64 0] (.t 31))]) (.seq (.reg [.p (.t 32) (.mv (.v 0)), .p (.v 6)
  (.mv (.t 32))]) .ret))))))
def r_delP : List RV := [.t 6]
/- slices.Equal[[][2]int,[2]int] -/
def c_eqP (ι : Ids) : S :=
  .seq (.reg [.p (.v 4) (.mv (.c (.bool false)))]) (.seq (.seq (.reg [.p (.t 6) (.mv (.v 0)), .p (.t 7) (.m (.lenl (.t 6))), .p (.t 8) (.mv (.v 1)), .p (.t 9) (.m (.lenl (.t 8))), .p (.v 10) (.cm .neq
  .i64 (.t 7) (.t 9))]) (.ite (.v 10) (.seq (.reg [.p (.v 4) (.mv (.c (.bool false)))]) .ret) .skip)) (.seq (.seq (.reg [.p (.t 11) (.mv (.v 0)), .p (.v 12) (.m (.lenl (.t 11))), .p (.v 13) (.mv (.c
  (.int .i64 0)))]) (.blk 0 (.loop (.seq (.reg [.p (.v 14) (.cm .lss .i64 (.v 13) (.v 12))]) (.seq (.ite (.v 14) .skip (.exit 0)) (.seq (.blk 1 (.seq (.reg [.p (.t 15) (.mv (.v 13)), .p (.v 5) (.mv (.t
  15))]) (.seq (.reg [.p (.t 16) (.mv (.v 0)), .p (.t 17) (.mv (.v 5)), .p (.t 18) (.is 2 (.t 16) (.t 17)), .p (.t 19) (.m (.ldn 2 (.t 18))), .p (.t 20) (.mv (.v 1)), .p (.t 21) (.mv (.v 5)), .p (.t 22)
  (.is 2 (.t 20) (.t 21)), .p (.t 23) (.m (.ldn 2 (.t 22))), .p (.v 24) (.m (.eqa true .i64 2 (.t 19) (.t 23)))]) (.ite (.v 24) (.seq (.reg [.p (.v 4) (.mv (.c (.bool false)))]) .ret) .skip)))) (.reg
  [.p (.t 25) (.ar .add .i64 (.v 13) (.c (.int .i64 1))), .p (.v 13) (.mv (.t 25))]))))))) (.seq (.reg [.p (.v 4) (.mv (.c (.bool true)))]) .ret)))
def r_eqP : List RV := [.t 4]
/- (ptr order.Order).With -/
def c_owith (ι : Ids) : S :=
  .seq (.reg [.p (.v 6) (.mv (.c (.pointer .none))), .p (.v 7) (.mv (.c (.int .i64 0)))]) (.seq (.seq (.reg [.p (.t 8) (.mv (.v 0)), .p (.v 9) (.m (.eqn .ptr false (.t 8)))]) (.ite (.v 9) (.seq (.reg
  [.p (.v 6) (.mv (.c (.pointer .none))), .p (.v 7) (.mv (.c (.int .i64 1)))]) .ret) .skip)) (.seq (.seq (.reg [.p (.t 10) (.mv (.v 0)), .p (.t 11) (.mv (.v 1)), .e (.t 12) (.call (ι.f 202) [.t 10, .t
  11]), .p (.t 13) (.not (.t 12)), .p (.t 14) (.mv (.t 13)), .gp (.t 15) (.t 14) false (.mv (.v 0)), .gp (.t 16) (.t 14) false (.mv (.v 2)), .ge (.t 17) (.t 14) false (.call (ι.f 202) [.t 15, .t 16]),
  .gp (.t 18) (.t 14) false (.not (.t 17)), .p (.v 19) (.pick (.t 14) (.c (.bool true)) (.t 18))]) (.ite (.v 19) (.seq (.reg [.p (.v 6) (.mv (.c (.pointer .none))), .p (.v 7) (.mv (.c (.int .i64 2)))])
  .ret) .skip)) (.seq (.seq (.reg [.p (.t 20) (.mv (.v 0)), .p (.t 21) (.nil (.t 20)), .p (.t 22) (.fa 1 (.t 21)), .p (.t 23) (.ld (.t 22)), .p (.t 24) (.mv (.v 1)), .p (.t 25) (.mv (.v 2)), .p (.t 26)
  (.m (.bld #[.int .i64 0, .int .i64 0] [(0, (1, .t 24)), (1, (1, .t 25))])), .e (.v 27) (.call (ι.f 227) [.t 23, .t 26])]) (.ite (.v 27) (.seq (.reg [.p (.v 6) (.mv (.c (.pointer .none))), .p (.v 7)
  (.mv (.c (.int .i64 5)))]) .ret) .skip)) (.seq (.dr (.px (.t 28) .none (.mv (.v 0)) (.px (.t 29) .none (.nil (.t 28)) (.px (.t 30) .none (.fa 0 (.t 29)) (.px (.t 31) .none (.ld (.t 30)) (.px (.t 32)
  .none (.mv (.v 0)) (.px (.t 34) .none (.mv (.v 1)) (.px (.t 35) .none (.mv (.v 2)) (.px (.t 36) .none (.m (.bld #[.int .i64 0, .int .i64 0] [(0, (1, .t 34)), (1, (1, .t 35))])) (.wcons (.t 33) .none
  (.call (ι.f 205) [.t 32]) (.wcons (.t 37) .none (.bldF (ι.t 194) 2 1 [.t 36]) (.wcons (.t 38) .none (.app false (ι.t 194) 2 16 #[.int .i64 0, .int .i64 0] (.t 33) (.t 37)) (.wcons (.t 39) .none (.call
  (ι.f 201) [.t 31, .t 38]) (.px (.t 40) .none (.ext (.t 39) 0) (.px (.t 41) .none (.ext (.t 39) 1) (.px (.v 6) .none (.mv (.t 40)) (.px (.v 7) .none (.mv (.t 41)) .done)))) .wnil) .wnil) .wnil) (.wcons
  (.t 37) .none (.bldF (ι.t 194) 2 1 [.t 36]) (.wcons (.t 33) .none (.call (ι.f 205) [.t 32]) (.wcons (.t 38) .none (.app false (ι.t 194) 2 16 #[.int .i64 0, .int .i64 0] (.t 33) (.t 37)) (.wcons (.t
  39) .none (.call (ι.f 201) [.t 31, .t 38]) (.px (.t 40) .none (.ext (.t 39) 0) (.px (.t 41) .none (.ext (.t 39) 1) (.px (.v 6) .none (.mv (.t 40)) (.px (.v 7) .none (.mv (.t 41)) .done)))) .wnil)
  .wnil) .wnil) .wnil))))))))))) .ret))))
def r_owith : List RV := [.t 6, .t 7]

def toI (p : NP) : Int × Int := ((p.1 : Int), (p.2 : Int))
/-- where a pair is first, or -1 -/
def PIdxSpec (P : Program) (k : FuncId) : Prop := ∀ (l : List NP) (v : Value) (x : Int × Int) (H : Hp), SlE nE 2 H v l → l.length ≤ 1000000 →
  CallsM P k #[v, .agg #[.int .i64 x.1, .int .i64 x.2]] H fun r H' => ((r = .int .i64 (-1) ∧ ∀ p ∈ l, toI p ≠ x) ∨ ∃ i : Nat, r = .int .i64 (i : Int) ∧ i < l.length ∧ toI (at0 l i) = x ∧ ∀ j < i, toI (at0 l j) ≠ x) ∧ Keep (fun _ => False) H H'
theorem eqa_x (x : Int × Int) (b : NP) : ([x.1, x.2] == [(b.1 : Int), (b.2 : Int)]) = decide (toI b = x) := by
  obtain ⟨x1, x2⟩ := x
  obtain ⟨b1, b2⟩ := b
  rw [Bool.eq_iff_iff]
  simp [toI]
  omega
theorem idxP_ok {P : Program} {ι : Ids} {k : FuncId} (hk : FnIs P k (c_idxP ι) r_idxP 2) : PIdxSpec P k := by
  intro l v x H hv hl1
  refine calls_of_vc hk (args := [_, _]) (by simp) ?_
  unfold c_idxP r_idxP
  simp only [go_sem, List.map_cons, List.map_nil, ↓reduceIte, Nat.reduceEqDiff, Nat.reduceAdd, Nat.reduceMul, reduceCtorEq, and_true, true_and, Nat.mul_one, Nat.zero_add, Bool.false_eq_true, decide_true, decide_false, not_false_eq_true, cells_agg]
  refine kont_new fun H1 b1 e1 z1 B1 K1 => ?_
  have hv1 := hv.keep0 K1
  simp only [go_sem, List.map_cons, List.map_nil, ↓reduceIte, Nat.reduceEqDiff, Nat.reduceAdd, Nat.reduceMul, reduceCtorEq, and_true, true_and, Nat.mul_one, Nat.zero_add, Bool.false_eq_true, decide_true, decide_false, not_false_eq_true, kont_eq, hv.isSl, hv.len]
  refine vc_loop [9, 5, 16, 4, 8] rfl (fun n f H' => ∃ i : Nat, i ≤ l.length ∧ n = l.length - i ∧ f 8 = .int .i64 i ∧ (∀ a < i, toI (at0 l a) ≠ x) ∧ H' = H1) l.length
    ⟨0, by omega, by omega, by simp only [go_sem, List.map_cons, List.map_nil, ↓reduceIte, Nat.reduceEqDiff, Nat.reduceAdd, Nat.reduceMul, reduceCtorEq, and_true, true_and, Nat.mul_one, Nat.zero_add, Bool.false_eq_true, decide_true, decide_false, not_false_eq_true, kont_eq]; rfl, fun a ha => by omega, rfl⟩ ?_
  rintro n f H2 ⟨i, hi, rfl, hf, hx, rfl⟩
  simp only [go_sem, List.map_cons, List.map_nil, ↓reduceIte, Nat.reduceEqDiff, Nat.reduceAdd, Nat.reduceMul, reduceCtorEq, and_true, true_and, Nat.mul_one, Nat.zero_add, Bool.false_eq_true, decide_true, decide_false, not_false_eq_true, kont_eq] at hf
  simp only [go_sem, List.map_cons, List.map_nil, ↓reduceIte, Nat.reduceEqDiff, Nat.reduceAdd, Nat.reduceMul, reduceCtorEq, and_true, true_and, Nat.mul_one, Nat.zero_add, Bool.false_eq_true, decide_true, decide_false, not_false_eq_true, hf]
  refine iteV_dec (fun hlt => ?_) (fun hge => ?_)
  · have hlt : i < l.length := by omega
    obtain ⟨pb, po, pc, rfl, hpq, hld⟩ := hv1.elem nE_len hlt
    rw [← at0_eq hlt] at hld
    have hld' : ldNA H2 ⟨pb, po + i * 2, none⟩ 2 = some #[.int .i64 ((at0 l i).1 : Int), .int .i64 ((at0 l i).2 : Int)] := hld
    have hb1 : ldNA H2 ⟨b1, 0, none⟩ 2 = some #[.int .i64 x.1, .int .i64 x.2] := B1.ldNO 2 rfl
    have hone : (∀ y ∈ (#[Value.int .i64 x.1, Value.int .i64 x.2] : Array Value), isI .i64 y) ∧ ∀ y ∈ (#[Value.int .i64 ((at0 l i).1 : Int), Value.int .i64 ((at0 l i).2 : Int)] : Array Value), isI .i64 y := ⟨by simp [isI], by simp [isI]⟩
    by_cases h : toI (at0 l i) = x
    · have e : ([x.1, x.2] == [((at0 l i).1 : Int), ((at0 l i).2 : Int)]) = true := by rw [eqa_x]; exact decide_eq_true h
      simp only [go_sem, List.map_cons, List.map_nil, ↓reduceIte, Nat.reduceEqDiff, Nat.reduceAdd, Nat.reduceMul, reduceCtorEq, and_true, true_and, Nat.mul_one, Nat.zero_add, Bool.false_eq_true, decide_true, decide_false, not_false_eq_true, kont_eq, fillV_nil, fillV_cons, okFill_nil, okFill_cons, cells_slice, cells_int, cells_bool, cells_str, cells_ptr, cells_agg, stNH_ptr, okN_ptr, wrA1, wrA20, wrA21, hf, tn_cast, ldNO_ptr, hld', hb1, e]
      exact ⟨by omega, hone, .inr ⟨i, rfl, hlt, h, hx⟩, K1⟩
    · have e : ([x.1, x.2] == [((at0 l i).1 : Int), ((at0 l i).2 : Int)]) = false := by rw [eqa_x]; exact decide_eq_false h
      simp (disch := omega) only [go_sem, List.map_cons, List.map_nil, ↓reduceIte, Nat.reduceEqDiff, Nat.reduceAdd, Nat.reduceMul, reduceCtorEq, and_true, true_and, Nat.mul_one, Nat.zero_add, Bool.false_eq_true, decide_true, decide_false, not_false_eq_true, kont_eq, fillV_nil, fillV_cons, okFill_nil, okFill_cons, cells_slice, cells_int, cells_bool, cells_str, cells_ptr, cells_agg, stNH_ptr, okN_ptr, wrA1, wrA20, wrA21, hf, tn_cast, ldNO_ptr, hld', hb1, e, IntWalk.i64_in]
      refine ⟨by omega, hone, l.length - (i + 1), by omega, i + 1, by omega, rfl, rfl, fun a ha => ?_⟩
      by_cases e2 : a = i
      · subst e2; exact h
      · exact hx a (by omega)
  · refine ⟨.inl fun p hp => ?_, K1⟩
    obtain ⟨a, ha, e⟩ := List.getElem_of_mem hp
    have := hx a (by omega)
    rwa [at0_eq ha, e] at this
def PConSpec (P : Program) (k : FuncId) : Prop := ∀ (l : List NP) (v : Value) (x : Int × Int) (H : Hp), SlE nE 2 H v l → l.length ≤ 1000000 →
  CallsM P k #[v, .agg #[.int .i64 x.1, .int .i64 x.2]] H fun r H' => r = .bool (decide (x ∈ l.map toI)) ∧ Keep (fun _ => False) H H'
theorem conP_ok {P : Program} {ι : Ids} {k : FuncId} (hk : FnIs P k (c_conP ι) r_conP 2) (hi : PIdxSpec P (ι.f 226)) : PConSpec P k := by
  intro l v x H hv hl1
  refine calls_of_vc hk (args := [_, _]) (by simp) ?_
  unfold c_conP r_conP
  simp only [go_sem, List.map_cons, List.map_nil, ↓reduceIte, Nat.reduceEqDiff, Nat.reduceAdd, Nat.reduceMul, reduceCtorEq, and_true, true_and, Nat.mul_one, Nat.zero_add, Bool.false_eq_true, decide_true, decide_false, not_false_eq_true, cells_agg]
  refine kont_new fun H1 b1 e1 z1 B1 K1 => ?_
  have hb1 : ldNA H1 ⟨b1, 0, none⟩ 2 = some #[.int .i64 x.1, .int .i64 x.2] := B1.ldNO 2 rfl
  simp only [go_sem, List.map_cons, List.map_nil, ↓reduceIte, Nat.reduceEqDiff, Nat.reduceAdd, Nat.reduceMul, reduceCtorEq, and_true, true_and, Nat.mul_one, Nat.zero_add, Bool.false_eq_true, decide_true, decide_false, not_false_eq_true, kont_eq, ldNO_ptr, hb1]
  refine (hi l v x H1 (hv.keep0 K1) hl1).mono ?_
  rintro r H2 ⟨h, K2⟩
  rcases h with ⟨rfl, h⟩ | ⟨i, rfl, h1, h2, _⟩
  · have e : decide ((-1 : Int) ≥ 0) = false := rfl
    simp only [go_sem, List.map_cons, List.map_nil, ↓reduceIte, Nat.reduceEqDiff, Nat.reduceAdd, Nat.reduceMul, reduceCtorEq, and_true, true_and, Nat.mul_one, Nat.zero_add, Bool.false_eq_true, decide_true, decide_false, not_false_eq_true, kont_eq, e]
    refine ⟨?_, K1.trans K2⟩
    rw [decide_eq_false]
    intro hm
    obtain ⟨p, hp, e⟩ := List.mem_map.1 hm
    exact h p hp e
  · have e : decide ((i : Int) ≥ 0) = true := decide_eq_true (by omega)
    simp only [go_sem, List.map_cons, List.map_nil, ↓reduceIte, Nat.reduceEqDiff, Nat.reduceAdd, Nat.reduceMul, reduceCtorEq, and_true, true_and, Nat.mul_one, Nat.zero_add, Bool.false_eq_true, decide_true, decide_false, not_false_eq_true, kont_eq, e]
    refine ⟨?_, K1.trans K2⟩
    rw [decide_eq_true]
    exact List.mem_map.2 ⟨at0 l i, by rw [at0_eq h1]; exact List.getElem_mem _, h2⟩
def PEqSpec (P : Program) (k : FuncId) : Prop := ∀ (l m : List NP) (v w : Value) (H : Hp), SlE nE 2 H v l → SlE nE 2 H w m → l.length ≤ 1000000 → CallsM P k #[v, w] H fun r H' => r = .bool (decide (l = m)) ∧ H' = H
theorem eqP_ok {P : Program} {ι : Ids} {k : FuncId} (hk : FnIs P k (c_eqP ι) r_eqP 2) : PEqSpec P k := by
  intro l m v w H hv hw hl
  refine calls_of_vc hk (args := [_, _]) (by simp) ?_
  unfold c_eqP r_eqP
  by_cases hlm : l.length = m.length
  · have e0 : ((m.length : Int) != (m.length : Int)) = false := by simp
    simp only [go_sem, List.map_cons, List.map_nil, ↓reduceIte, Nat.reduceEqDiff, Nat.reduceAdd, Nat.reduceMul, reduceCtorEq, and_true, true_and, Nat.mul_one, Nat.zero_add, Bool.false_eq_true, decide_true, decide_false, not_false_eq_true, kont_eq, hv.isSl, hv.len, hw.isSl, hw.len, hlm, e0]
    refine vc_loop [14, 5, 24, 4, 13] rfl (fun n f H' => ∃ i : Nat, i ≤ l.length ∧ n = l.length - i ∧ f 13 = .int .i64 i ∧ (∀ a < i, at0 l a = at0 m a) ∧ H' = H) l.length
      ⟨0, by omega, by omega, by simp only [go_sem, List.map_cons, List.map_nil, ↓reduceIte, Nat.reduceEqDiff, Nat.reduceAdd, Nat.reduceMul, reduceCtorEq, and_true, true_and, Nat.mul_one, Nat.zero_add, Bool.false_eq_true, decide_true, decide_false, not_false_eq_true, kont_eq]; rfl, fun a ha => by omega, rfl⟩ ?_
    rintro n f H2 ⟨i, hi, rfl, hf, hx, rfl⟩
    simp only [go_sem, List.map_cons, List.map_nil, ↓reduceIte, Nat.reduceEqDiff, Nat.reduceAdd, Nat.reduceMul, reduceCtorEq, and_true, true_and, Nat.mul_one, Nat.zero_add, Bool.false_eq_true, decide_true, decide_false, not_false_eq_true, kont_eq] at hf
    simp only [go_sem, List.map_cons, List.map_nil, ↓reduceIte, Nat.reduceEqDiff, Nat.reduceAdd, Nat.reduceMul, reduceCtorEq, and_true, true_and, Nat.mul_one, Nat.zero_add, Bool.false_eq_true, decide_true, decide_false, not_false_eq_true, hf]
    refine iteV_dec (fun hlt => ?_) (fun hge => ?_)
    · have hlt : i < l.length := by omega
      have hlt2 : i < m.length := by omega
      obtain ⟨pb, po, pc, rfl, hpq, hld⟩ := hv.elem nE_len hlt
      obtain ⟨qb, qo, qc, rfl, hqq, hld2⟩ := hw.elem nE_len hlt2
      rw [← at0_eq hlt] at hld
      rw [← at0_eq hlt2] at hld2
      have hld' : ldNA H2 ⟨pb, po + i * 2, none⟩ 2 = some #[.int .i64 ((at0 l i).1 : Int), .int .i64 ((at0 l i).2 : Int)] := hld
      have hld2' : ldNA H2 ⟨qb, qo + i * 2, none⟩ 2 = some #[.int .i64 ((at0 m i).1 : Int), .int .i64 ((at0 m i).2 : Int)] := hld2
      have hone : (∀ y ∈ (#[Value.int .i64 ((at0 l i).1 : Int), Value.int .i64 ((at0 l i).2 : Int)] : Array Value), isI .i64 y) ∧ ∀ y ∈ (#[Value.int .i64 ((at0 m i).1 : Int), Value.int .i64 ((at0 m i).2 : Int)] : Array Value), isI .i64 y := ⟨by simp [isI], by simp [isI]⟩
      by_cases h : at0 l i = at0 m i
      · have e : ([((at0 l i).1 : Int), ((at0 l i).2 : Int)] == [((at0 m i).1 : Int), ((at0 m i).2 : Int)]) = true := by rw [eqa_nE]; exact decide_eq_true h
        simp (disch := omega) only [go_sem, List.map_cons, List.map_nil, ↓reduceIte, Nat.reduceEqDiff, Nat.reduceAdd, Nat.reduceMul, reduceCtorEq, and_true, true_and, Nat.mul_one, Nat.zero_add, Bool.false_eq_true, decide_true, decide_false, not_false_eq_true, kont_eq, hf, tn_cast, ldNO_ptr, hld', hld2', e, Bool.not_true, IntWalk.i64_in]
        refine ⟨by omega, by omega, hone, l.length - (i + 1), by omega, i + 1, by omega, rfl, rfl, fun a ha => ?_⟩
        by_cases e2 : a = i
        · subst e2; exact h
        · exact hx a (by omega)
      · have e : ([((at0 l i).1 : Int), ((at0 l i).2 : Int)] == [((at0 m i).1 : Int), ((at0 m i).2 : Int)]) = false := by rw [eqa_nE]; exact decide_eq_false h
        have e2 : decide (l = m) = false := decide_eq_false (fun e => h (by rw [e]))
        simp only [go_sem, List.map_cons, List.map_nil, ↓reduceIte, Nat.reduceEqDiff, Nat.reduceAdd, Nat.reduceMul, reduceCtorEq, and_true, true_and, Nat.mul_one, Nat.zero_add, Bool.false_eq_true, decide_true, decide_false, not_false_eq_true, kont_eq, hf, tn_cast, ldNO_ptr, hld', hld2', e, e2, Bool.not_false]
        exact ⟨by omega, by omega, hone⟩
    · have e2 : l = m := by
        refine List.ext_getElem hlm fun i h1 h2 => ?_
        have := hx i (by omega)
        rwa [at0_eq h1, at0_eq h2] at this
      simp only [go_sem, List.map_cons, List.map_nil, ↓reduceIte, Nat.reduceEqDiff, Nat.reduceAdd, Nat.reduceMul, reduceCtorEq, and_true, true_and, Nat.mul_one, Nat.zero_add, Bool.false_eq_true, decide_true, decide_false, not_false_eq_true, kont_eq, decide_eq_true e2]
  · have e0 : ((l.length : Int) != (m.length : Int)) = true := by rw [bne_iff_ne]; omega
    have e2 : decide (l = m) = false := decide_eq_false (fun e => hlm (by rw [e]))
    simp only [go_sem, List.map_cons, List.map_nil, ↓reduceIte, Nat.reduceEqDiff, Nat.reduceAdd, Nat.reduceMul, reduceCtorEq, and_true, true_and, Nat.mul_one, Nat.zero_add, Bool.false_eq_true, decide_true, decide_false, not_false_eq_true, kont_eq, hv.isSl, hv.len, hw.isSl, hw.len, e0, e2]
def PDelSpec (P : Program) (k : FuncId) : Prop := ∀ (l : List NP) (v : Value) (i : Nat) (H : Hp), OwE nE 2 H v l → i < l.length → l.length ≤ 1000000 → CallsM P k #[v, .int .i64 (i : Int), .int .i64 ((i + 1 : Nat) : Int)] H fun r H' => OwE nE 2 H' r (l.eraseIdx i) ∧ (∀ q, ownB r q → ownB v q) ∧ Keep (ownB v) H H'
theorem delP_ok {P : Program} {ι : Ids} {k : FuncId} (hk : FnIs P k (c_delP ι) r_delP 3) : PDelSpec P k := by
  intro l v i H hv hi hl
  refine calls_of_vc hk (args := [_, _, _]) (by simp) ?_
  unfold c_delP r_delP
  obtain ⟨b, c, L, rfl, h1, h2, hB, h3⟩ := hv.some (by intro e; subst e; simp at hi)
  have hL : l.length * 2 ≤ L.length := by omega
  have e0 : ((i : Int) == ((i + 1 : Nat) : Int)) = false := by rw [beq_eq_false_iff_ne]; omega
  have hx : SlE nE 2 H (.slice (if c = i + 1 then some ⟨b, 0, none⟩ else some ⟨b, (i + 1) * 2, none⟩) (l.length - (i + 1)) (c - (i + 1))) (l.drop (i + 1)) := by
    have hld : (l.drop (i + 1)).length = l.length - (i + 1) := by simp
    by_cases h : l.length = i + 1
    · have : l.drop (i + 1) = [] := List.drop_eq_nil_of_le (by omega)
      rw [this, show l.length - (i + 1) = 0 by omega]
      exact SlE.nil _ _ _
    · rw [if_neg (by omega), ← hld]
      obtain ⟨T, hB'⟩ := hB
      refine SlE.at_ (by rw [hld]; omega) hB' (by rw [hld]; simp; omega) ?_
      rw [hld, ← fl_drop nE_len l (i + 1) (by omega), ← h3, List.drop_take]
      congr 1
      omega
  have hcc : c = l.length → c - (i + 1) + (i + 1) = c := by omega
  simp only [go_sem, List.map_cons, List.map_nil, ↓reduceIte, Nat.reduceEqDiff, Nat.reduceAdd, Nat.reduceMul, reduceCtorEq, and_true, true_and, Nat.mul_one, Nat.zero_add, Bool.false_eq_true, decide_true, decide_false, not_false_eq_true, kont_eq, e0, tn_cast, ite_self]
  refine ⟨by omega, by omega, by omega, ?_⟩
  have hs0 : OwE nE 2 H (.slice (some ⟨b, 0, none⟩) i c) (l.take i) := OwE.bl hB (by rw [List.length_take]; omega) (by omega) h2 (by rw [← fl_take nE_len l i (by omega), ← h3, List.take_take, Nat.min_eq_left (by omega)])
  have hnl : ((l.drop (i + 1)).flatMap nE).length = (l.length - (i + 1)) * 2 := by rw [fl_len nE_len]; simp
  have hsrc := hx.srcN
  rw [show (l.drop (i + 1)).length = l.length - (i + 1) by simp] at hsrc
  have hlx : lenS (.slice (if c = i + 1 then some ⟨b, 0, none⟩ else some ⟨b, (i + 1) * 2, none⟩) (l.length - (i + 1)) (c - (i + 1))) = l.length - (i + 1) := rfl
  refine ⟨⟨trivial, trivial, ?_, ?_⟩, ((l.drop (i + 1)).flatMap nE).toArray, by rw [hlx]; exact hsrc, fun _ => ⟨hB.okPut 0 _ _ (fl_all1 nE_one _) (by show 0 + i * 2 + ((l.drop (i + 1)).flatMap nE).toArray.size ≤ _; rw [List.size_toArray, hnl]; omega), ?_⟩, fun hlt => ?_⟩
  · rw [hlx]; show i + _ ≤ _; unfold maxLen; omega
  · rw [hlx]; show (i + _) * _ ≤ _; omega
  · rw [hlx]
    show kont P _ _ _ _ _ (Value.slice (some ⟨b, 0, none⟩) (i + (l.length - (i + 1))) c) (putH H (some ⟨b, 0, none⟩) (i * 2) _)
    have ei : i + (l.length - (i + 1)) = l.length - 1 := by omega
    rw [ei]
    have B1 := hB.put 0 (i * 2) ((l.drop (i + 1)).flatMap nE).toArray
    have K1 : Keep (fun q => q = b) H (putH H (some ⟨b, 0, none⟩) (i * 2) ((l.drop (i + 1)).flatMap nE).toArray) := (Keep.refl _ _).put rfl _ _ (.inl rfl)
    generalize putH H (some ⟨b, 0, none⟩) (i * 2) ((l.drop (i + 1)).flatMap nE).toArray = H1 at B1 K1 ⊢
    rw [Nat.zero_add] at B1
    have hl1 : (wrL L (i * 2) ((l.drop (i + 1)).flatMap nE)).length = L.length := wrL_len (by rw [hnl]; omega)
    have hc1 : ¬ c = l.length - 1 := by omega
    rw [kont_eq]
    simp only [go_sem, List.map_cons, List.map_nil, ↓reduceIte, Nat.reduceEqDiff, Nat.reduceAdd, Nat.reduceMul, reduceCtorEq, and_true, true_and, Nat.mul_one, Nat.zero_add, Bool.false_eq_true, decide_true, decide_false, not_false_eq_true, kont_eq, tn_cast, if_neg hc1, Nat.zero_add]
    have e1 : l.length - (l.length - 1) = 1 := by omega
    rw [e1]
    have hz : (rep #[Value.int .i64 0, Value.int .i64 0] (1 * 2)).toList = [.int .i64 0, .int .i64 0] := by unfold rep; rw [Array.toList_map, Array.toList_range]; rfl
    have hza : all1 (rep #[Value.int .i64 0, Value.int .i64 0] (1 * 2)) := by
      intro y hy
      rw [hz] at hy; simp at hy; subst hy; rfl
    have ho := B1.okPut ((l.length - 1) * 2) 0 (rep #[Value.int .i64 0, Value.int .i64 0] (1 * 2)) hza (by rw [hl1, show (rep #[Value.int .i64 0, Value.int .i64 0] (1 * 2)).size = 2 from by simp [rep]]; omega)
    have B2 := B1.put ((l.length - 1) * 2) 0 (rep #[Value.int .i64 0, Value.int .i64 0] (1 * 2))
    rw [hz, Nat.add_zero] at B2
    have K2 : Keep (fun q => q = b) H1 (putH H1 (some ⟨b, (l.length - 1) * 2, none⟩) 0 (rep #[Value.int .i64 0, Value.int .i64 0] (1 * 2))) := (Keep.refl _ _).put rfl _ _ (.inl rfl)
    refine ⟨by omega, ho, OwE.bl B2 (by rw [List.length_eraseIdx_of_lt hi]) (by omega) ?_ ?_, fun q hq => hq, K1.trans K2⟩
    · rw [wrL_len (by rw [hl1]; show _ + 2 ≤ _; omega), hl1]; exact h2
    · rw [wrL_take (by omega) (by rw [Nat.add_zero, hl1]; omega), List.eraseIdx_eq_take_drop_succ, List.flatMap_append, ← fl_take nE_len l i (by omega), ← h3, List.take_take, Nat.min_eq_left (by omega)]
      have := wrL_take2 (L := L) (xs := (l.drop (i + 1)).flatMap nE) (o := i * 2) (by omega)
      rw [hnl, show i * 2 + (l.length - (i + 1)) * 2 = (l.length - 1) * 2 by omega] at this
      exact this
  · rw [hlx] at hlt
    exact absurd hlt (by show ¬ c < i + _; omega)
/-- the order o with a further pair -/
def OWithSpec (P : Program) (ι : Ids) (k : FuncId) : Prop := ∀ (o : OO) (v : Value) (a b : Int) (H : Hp), TabOk ι H → OrdO H v o → CallsM P k #[v, .int .i64 a, .int .i64 b] H fun r H' =>
  ((o = none ∧ r = .tuple #[.pointer none, .int .i64 1]) ∨ ∃ n R, o = some (n, R) ∧
    (((inO o a && inO o b) = false ∧ r = .tuple #[.pointer none, .int .i64 2]) ∨ ((inO o a && inO o b) = true ∧ R a.toNat b.toNat = true ∧ r = .tuple #[.pointer none, .int .i64 5]) ∨
     ((inO o a && inO o b) = true ∧ R a.toNat b.toNat = false ∧ NewRes (n : Int) ((gridP n R).map toI ++ [(a, b)]) r H'))) ∧ Keep (fun _ => False) H H' ∧ frN H.size H' r
theorem toI_flat (l : List NP) : (l.map toI).flatMap pE = l.flatMap nE := by
  induction l with
  | nil => rfl
  | cons p l ih => rw [List.map_cons, List.flatMap_cons, List.flatMap_cons, ih]; rfl
theorem mem_gridI {n : Nat} {R : Nat → Nat → Bool} {a b : Int} (ha : 0 ≤ a ∧ a < n) (hb : 0 ≤ b ∧ b < n) : (a, b) ∈ (gridP n R).map toI ↔ R a.toNat b.toNat = true := by
  rw [List.mem_map]
  constructor
  · rintro ⟨p, hp, e⟩
    simp only [toI, Prod.mk.injEq] at e
    have := (mem_gridP.1 hp).2.2
    rw [← e.1, ← e.2]; simpa using this
  · intro h
    exact ⟨(a.toNat, b.toNat), mem_gridP.2 ⟨by show a.toNat < n; omega, by show b.toNat < n; omega, h⟩, by simp only [toI, Prod.mk.injEq]; omega⟩
theorem OwE.conv {α β : Type} {enc : α → List Value} {enc' : β → List Value} {k : Nat} {H : Hp} {v : Value} {l : List α} {l' : List β} (h : OwE enc k H v l) (e : l'.length = l.length) (f : l'.flatMap enc' = l.flatMap enc) : OwE enc' k H v l' := by
  rcases h with ⟨h1, rfl⟩ | ⟨b, c, L, rfl, h1, h2, hb, h3⟩
  · exact .inl ⟨h1, List.eq_nil_of_length_eq_zero (by simpa using e)⟩
  · exact .inr ⟨b, c, L, by rw [e], by omega, h2, hb, by rw [e, f]; exact h3⟩
theorem NewRes.shape {n : Int} {L : List (Int × Int)} {r : Value} {H : Hp} (h : NewRes n L r H) : ∃ x y, r = .tuple #[x, y] := by
  rcases h with ⟨_, h⟩ | ⟨_, _, h⟩ | ⟨_, _, _, h⟩ | ⟨_, _, _, pv, h, _⟩ <;> exact ⟨_, _, h⟩
theorem owith_ok {P : Program} {ι : Ids} {k : FuncId} (hk : FnIs P k (c_owith ι) r_owith 3) (hi : OInSpec P (ι.f 202)) (hc : PConSpec P (ι.f 227)) (hp : OPairsSpec P (ι.f 205)) (hn : ONewSpec P ι (ι.f 201)) : OWithSpec P ι k := by
  intro o v a b H hT hv
  obtain ⟨Q, hQ⟩ : ∃ Q : Value → Hp → Prop, Q = fun r H' => ((o = none ∧ r = .tuple #[.pointer none, .int .i64 1]) ∨ ∃ n R, o = some (n, R) ∧
    (((inO o a && inO o b) = false ∧ r = .tuple #[.pointer none, .int .i64 2]) ∨ ((inO o a && inO o b) = true ∧ R a.toNat b.toNat = true ∧ r = .tuple #[.pointer none, .int .i64 5]) ∨
     ((inO o a && inO o b) = true ∧ R a.toNat b.toNat = false ∧ NewRes (n : Int) ((gridP n R).map toI ++ [(a, b)]) r H'))) ∧ Keep (fun _ => False) H H' ∧ frN H.size H' r := ⟨_, rfl⟩
  rw [← hQ]
  refine calls_of_vc hk (args := [_, _, _]) (by simp) ?_
  unfold c_owith r_owith
  cases o with
  | none =>
    have hv : v = .pointer none := hv
    subst hv
    simp only [go_sem, List.map_cons, List.map_nil, ↓reduceIte, Nat.reduceEqDiff, Nat.reduceAdd, Nat.reduceMul, reduceCtorEq, and_true, true_and, Nat.mul_one, Nat.zero_add, Bool.false_eq_true, decide_true, decide_false, not_false_eq_true, kont_eq]
    rw [hQ]
    exact ⟨.inl ⟨rfl, rfl⟩, Keep.refl _ _, frN.z _ _ _⟩
  | some o =>
    obtain ⟨n, R⟩ := o
    have hv' := hv
    obtain ⟨h1, h2, h3, bb0, pv, sv, ab, bb, avs, bvs, C, rfl, g1, g2, g3, g4, g5⟩ := hv'
    have h1 : n ≤ 256 := h1
    have hgl : (gridP n R).length ≤ 65536 := Nat.le_trans (gridP_len n R) (Nat.mul_le_mul h1 h1)
    simp only [go_sem, List.map_cons, List.map_nil, ↓reduceIte, Nat.reduceEqDiff, Nat.reduceAdd, Nat.reduceMul, reduceCtorEq, and_true, true_and, Nat.mul_one, Nat.zero_add, Bool.false_eq_true, decide_true, decide_false, not_false_eq_true, kont_eq]
    refine (hi (some (n, R)) _ a H hv).mono ?_
    rintro r H1 ⟨rfl, rfl⟩
    cases hia : inO (some (n, R)) a with
    | false =>
      rw [kont_eq]
      simp only [go_sem, List.map_cons, List.map_nil, ↓reduceIte, Nat.reduceEqDiff, Nat.reduceAdd, Nat.reduceMul, reduceCtorEq, and_true, true_and, Nat.mul_one, Nat.zero_add, Bool.false_eq_true, decide_true, decide_false, not_false_eq_true, kont_eq, Bool.not_false]
      rw [hQ]
      exact ⟨.inr ⟨n, R, rfl, .inl ⟨by rw [hia]; rfl, rfl⟩⟩, Keep.refl _ _, frN.z _ _ _⟩
    | true =>
      rw [kont_eq]
      simp only [go_sem, List.map_cons, List.map_nil, ↓reduceIte, Nat.reduceEqDiff, Nat.reduceAdd, Nat.reduceMul, reduceCtorEq, and_true, true_and, Nat.mul_one, Nat.zero_add, Bool.false_eq_true, decide_true, decide_false, not_false_eq_true, kont_eq, Bool.not_true]
      refine (hi (some (n, R)) _ b H1 hv).mono ?_
      rintro r H2 ⟨rfl, rfl⟩
      cases hib : inO (some (n, R)) b with
      | false =>
        rw [kont_eq]
        simp only [go_sem, List.map_cons, List.map_nil, ↓reduceIte, Nat.reduceEqDiff, Nat.reduceAdd, Nat.reduceMul, reduceCtorEq, and_true, true_and, Nat.mul_one, Nat.zero_add, Bool.false_eq_true, decide_true, decide_false, not_false_eq_true, kont_eq, Bool.not_false]
        rw [hQ]
        exact ⟨.inr ⟨n, R, rfl, .inl ⟨by rw [hia, hib]; rfl, rfl⟩⟩, Keep.refl _ _, frN.z _ _ _⟩
      | true =>
        have c1 : cell H2 ⟨bb0, 1, none⟩ = some pv := by rw [g1.cell]; rfl
        rw [kont_eq]
        simp only [go_sem, List.map_cons, List.map_nil, ↓reduceIte, Nat.reduceEqDiff, Nat.reduceAdd, Nat.reduceMul, reduceCtorEq, and_true, true_and, Nat.mul_one, Nat.zero_add, Bool.false_eq_true, decide_true, decide_false, not_false_eq_true, kont_eq, fillV_nil, fillV_cons, okFill_nil, okFill_cons, cells_slice, cells_int, cells_bool, cells_str, cells_ptr, cells_agg, stNH_ptr, okN_ptr, wrA1, wrA20, wrA21, Bool.not_true, c1]
        refine ⟨by omega, ?_⟩
        refine (hc (gridP n R) pv (a, b) H2 g2 (by omega)).mono ?_
        rintro r H3 ⟨rfl, K3⟩
        have ha := hia
        have hb := hib
        simp only [inO, Bool.and_eq_true, decide_eq_true_eq] at ha hb
        have hmem := mem_gridI (R := R) ha hb
        cases hR : R a.toNat b.toNat with
        | true =>
          have e : decide ((a, b) ∈ (gridP n R).map toI) = true := decide_eq_true (hmem.2 hR)
          rw [kont_eq]
          simp only [go_sem, List.map_cons, List.map_nil, ↓reduceIte, Nat.reduceEqDiff, Nat.reduceAdd, Nat.reduceMul, reduceCtorEq, and_true, true_and, Nat.mul_one, Nat.zero_add, Bool.false_eq_true, decide_true, decide_false, not_false_eq_true, kont_eq, e]
          rw [hQ]
          exact ⟨.inr ⟨n, R, rfl, .inr (.inl ⟨by rw [hia, hib]; rfl, hR, rfl⟩)⟩, K3, frN.z _ _ _⟩
        | false =>
          have e : decide ((a, b) ∈ (gridP n R).map toI) = false := decide_eq_false (fun h => by rw [hmem.1 h] at hR; cases hR)
          rw [kont_eq]
          simp only [go_sem, List.map_cons, List.map_nil, ↓reduceIte, Nat.reduceEqDiff, Nat.reduceAdd, Nat.reduceMul, reduceCtorEq, and_true, true_and, Nat.mul_one, Nat.zero_add, Bool.false_eq_true, decide_true, decide_false, not_false_eq_true, kont_eq, e]
          refine vc_drk (fun q => H3.size ≤ q) ?_
          have hv3 : OrdO H3 (.pointer (some ⟨bb0, 0, none⟩)) (some (n, R)) := OrdO.keep0 (o := some (n, R)) hv K3
          have hblt := g1.lt
          have s3 := K3.size
          have c0 : cell H3 ⟨bb0, 0, none⟩ = some (.int .i64 (n : Int)) := by rw [(K3.bl g1 (by simp)).cell]; rfl
          have nb : ¬ H3.size ≤ bb0 := by omega
          simp only [go_sem, List.map_cons, List.map_nil, ↓reduceIte, Nat.reduceEqDiff, Nat.reduceAdd, Nat.reduceMul, reduceCtorEq, and_true, true_and, Nat.mul_one, Nat.zero_add, Bool.false_eq_true, decide_true, decide_false, not_false_eq_true, kont_eq, fillV_nil, fillV_cons, okFill_nil, okFill_cons, cells_slice, cells_int, cells_bool, cells_str, cells_ptr, cells_agg, stNH_ptr, okN_ptr, wrA1, wrA20, wrA21, c0, nb]
          have fin : ∀ (A : Hp) (pv' : Value) (b2 : Nat) (T : TypeId) (z : Array Value) (Kk : Value → Hp → Prop), z.size = 2 → Keep (fun _ => False) H3 A → OwE nE 2 A pv' (gridP n R) → (∀ q, ownB pv' q → H3.size ≤ q) → Bl A b2 [.int .i64 a, .int .i64 b] → H3.size ≤ b2 →
              (∀ v' A', Keep (fun q => H3.size ≤ q) A A' → CallsM P (ι.f 201) #[.int .i64 (n : Int), v'] A' (fun r A2 => (∃ x y, r = .tuple #[x, y]) ∧ Q r A2 ∧ Keep (fun q => H3.size ≤ q) A' A2) → Kk v' A') → AppC false T 2 16 z pv' (.slice (some ⟨b2, 0, none⟩) 1 1) A Kk := by
            intro A pv' b2 T z Kk hz KA O1 own1 B1 hb2 hKk
            have sA := KA.size
            have O2 : OwE pE 2 A pv' ((gridP n R).map toI) := O1.conv (by simp) (toI_flat _)
            have hx2 : SlE pE 2 A (.slice (some ⟨b2, 0, none⟩) 1 1) [(a, b)] := SlE.bl B1 (l := [(a, b)]) rfl (by simp) (by simp)
            refine app_EN (l := (gridP n R).map toI) (m := [(a, b)]) H3.size pE_len pE_one O2 own1 (by omega) hx2 hz (by omega) (by simp; omega) fun v4 H4 O4 own4 K4 => hKk v4 H4 K4 ?_
            have K34 := KA.at_old K4 (Nat.le_refl _)
            refine (hn (n : Int) _ v4 H4 (hT.keep (K3.trans K34)) O4.sl (by simp; omega)).mono ?_
            rintro r H5 ⟨hr, K5, hfr⟩
            refine ⟨hr.shape, ?_, K5.any⟩
            rw [hQ]
            exact ⟨.inr ⟨n, R, rfl, .inr (.inr ⟨by rw [hia, hib]; rfl, hR, hr⟩)⟩, (K3.trans K34).trans K5, hfr.mono (by have := (K3.trans K34).size; omega)⟩
          have hpairs := fun (A : Hp) (K : Keep (fun _ => False) H3 A) => hp (some (n, R)) (.pointer (some ⟨bb0, 0, none⟩)) A (OrdO.keep0 (o := some (n, R)) hv3 K)
          refine ⟨by omega, ?_, ?_⟩
          · refine (hpairs H3 (Keep.refl _ _)).mono ?_
            rintro r H4 ⟨O4, own4, K4⟩
            have s4 := K4.size
            simp only [go_sem, List.map_cons, List.map_nil, ↓reduceIte, Nat.reduceEqDiff, Nat.reduceAdd, Nat.reduceMul, reduceCtorEq, and_true, true_and, Nat.mul_one, Nat.zero_add, Bool.false_eq_true, decide_true, decide_false, not_false_eq_true, kont_eq, fillV_nil, fillV_cons, okFill_nil, okFill_cons, cells_slice, cells_int, cells_bool, cells_str, cells_ptr, cells_agg, stNH_ptr, okN_ptr, wrA1, wrA20, wrA21]
            have B5 := Bl.new' H4 #[.int .i64 a, .int .i64 b] (ι.t 194)
            have K5 : Keep (fun _ => False) H4 (H4.push (.cells #[.int .i64 a, .int .i64 b] (ι.t 194))) := (Keep.refl _ _).push _
            refine ⟨K4.any, K5.any, fin _ r H4.size _ _ _ rfl (K4.trans K5) (O4.keep K5 (by simp)) own4 B5 (by omega) fun v' A' K6 hcall => ?_⟩
            simp only [go_sem, List.map_cons, List.map_nil, ↓reduceIte, Nat.reduceEqDiff, Nat.reduceAdd, Nat.reduceMul, reduceCtorEq, and_true, true_and, Nat.mul_one, Nat.zero_add, Bool.false_eq_true, decide_true, decide_false, not_false_eq_true, kont_eq]
            refine ⟨K6, hcall.mono ?_⟩
            rintro r A2 ⟨⟨x, y, rfl⟩, hq, K7⟩
            simp only [go_sem, List.map_cons, List.map_nil, ↓reduceIte, Nat.reduceEqDiff, Nat.reduceAdd, Nat.reduceMul, reduceCtorEq, and_true, true_and, Nat.mul_one, Nat.zero_add, Bool.false_eq_true, decide_true, decide_false, not_false_eq_true, kont_eq]
            exact ⟨K7, hq⟩
          · have B5 := Bl.new' H3 #[.int .i64 a, .int .i64 b] (ι.t 194)
            have K5 : Keep (fun _ => False) H3 (H3.push (.cells #[.int .i64 a, .int .i64 b] (ι.t 194))) := (Keep.refl _ _).push _
            have z5 : (H3.push (Obj.cells #[.int .i64 a, .int .i64 b] (ι.t 194))).size = H3.size + 1 := by simp
            refine ⟨K5.any, (hpairs _ K5).mono ?_⟩
            rintro r H4 ⟨O4, own4, K4⟩
            have s4 := K4.size
            simp only [go_sem, List.map_cons, List.map_nil, ↓reduceIte, Nat.reduceEqDiff, Nat.reduceAdd, Nat.reduceMul, reduceCtorEq, and_true, true_and, Nat.mul_one, Nat.zero_add, Bool.false_eq_true, decide_true, decide_false, not_false_eq_true, kont_eq, fillV_nil, fillV_cons, okFill_nil, okFill_cons, cells_slice, cells_int, cells_bool, cells_str, cells_ptr, cells_agg, stNH_ptr, okN_ptr, wrA1, wrA20, wrA21]
            refine ⟨K4.any, fin _ r H3.size _ _ _ rfl (K5.trans K4) O4 (fun q hq => by have := own4 q hq; omega) (K4.bl B5 (by simp)) (Nat.le_refl _) fun v' A' K6 hcall => ?_⟩
            simp only [go_sem, List.map_cons, List.map_nil, ↓reduceIte, Nat.reduceEqDiff, Nat.reduceAdd, Nat.reduceMul, reduceCtorEq, and_true, true_and, Nat.mul_one, Nat.zero_add, Bool.false_eq_true, decide_true, decide_false, not_false_eq_true, kont_eq]
            refine ⟨K6, hcall.mono ?_⟩
            rintro r A2 ⟨⟨x, y, rfl⟩, hq, K7⟩
            simp only [go_sem, List.map_cons, List.map_nil, ↓reduceIte, Nat.reduceEqDiff, Nat.reduceAdd, Nat.reduceMul, reduceCtorEq, and_true, true_and, Nat.mul_one, Nat.zero_add, Bool.false_eq_true, decide_true, decide_false, not_false_eq_true, kont_eq]
            exact ⟨K7, hq⟩
end Go.Mg

namespace Go.Mg
open Go Go.RowKit
set_option linter.unusedSimpArgs false
set_option linter.unusedVariables false
set_option maxRecDepth 100000
/- (ptr order.Order).Without -/
def c_owithout (ι : Ids) : S :=
  .seq (.reg [.p (.v 6) (.mv (.c (.pointer .none))), .p (.v 7) (.mv (.c (.int .i64 0)))]) (.seq (.seq (.reg [.p (.t 9) (.mv (.v 0)), .p (.v 10) (.m (.eqn .ptr false (.t 9)))]) (.ite (.v 10) (.seq (.reg
  [.p (.v 6) (.mv (.c (.pointer .none))), .p (.v 7) (.mv (.c (.int .i64 1)))]) .ret) .skip)) (.seq (.reg [.p (.t 11) (.mv (.v 0)), .p (.t 12) (.nil (.t 11)), .p (.t 13) (.fa 1 (.t 12)), .p (.t 14) (.ld
  (.t 13)), .p (.t 15) (.mv (.v 1)), .p (.t 16) (.mv (.v 2)), .p (.t 17) (.m (.bld #[.int .i64 0, .int .i64 0] [(0, (1, .t 15)), (1, (1, .t 16))])), .e (.t 18) (.call (ι.f 226) [.t 14, .t 17]), .p (.v
  8) (.mv (.t 18))]) (.seq (.seq (.reg [.p (.t 19) (.mv (.v 8)), .p (.v 20) (.cm .lss .i64 (.t 19) (.c (.int .i64 0)))]) (.ite (.v 20) (.seq (.reg [.p (.v 6) (.mv (.c (.pointer .none))), .p (.v 7) (.mv
  (.c (.int .i64 4)))]) .ret) .skip)) (.seq (.dr (.px (.t 21) .none (.mv (.v 0)) (.px (.t 22) .none (.nil (.t 21)) (.px (.t 23) .none (.fa 0 (.t 22)) (.px (.t 24) .none (.ld (.t 23)) (.px (.t 25) .none
  (.mv (.v 0)) (.px (.t 27) .none (.mv (.v 8)) (.px (.t 28) .none (.mv (.v 8)) (.px (.t 29) .none (.ar .add .i64 (.t 28) (.c (.int .i64 1))) (.wcons (.t 26) .none (.call (ι.f 205) [.t 25]) (.wcons (.t
  30) .none (.call (ι.f 228) [.t 26, .t 27, .t 29]) (.wcons (.t 31) .none (.call (ι.f 201) [.t 24, .t 30]) (.px (.t 32) .none (.ext (.t 31) 0) (.px (.t 33) .none (.ext (.t 31) 1) (.px (.v 6) .none (.mv
  (.t 32)) (.px (.v 7) .none (.mv (.t 33)) .done)))) .wnil) .wnil) .wnil)))))))))) .ret))))
def r_owithout : List RV := [.t 6, .t 7]
/- (ptr order.Order).Equal -/
theorem relI_grid {n : Nat} {R : Nat → Nat → Bool} (hR : Rng n R) : relI ((gridP n R).map toI) = R := by
  funext x y
  unfold relI
  cases hr : R x y with
  | true => exact decide_eq_true (List.mem_map.2 ⟨(x, y), mem_gridP.2 ⟨(hR _ _ hr).1, (hR _ _ hr).2, hr⟩, rfl⟩)
  | false =>
    refine decide_eq_false fun h => ?_
    obtain ⟨p, hp, e⟩ := List.mem_map.1 h
    simp only [toI, Prod.mk.injEq] at e
    have := (mem_gridP.1 hp).2.2
    rw [show p.1 = x by omega, show p.2 = y by omega, hr] at this
    cases this
theorem gridP_nodup (n : Nat) (R : Nat → Nat → Bool) : (gridP n R).Nodup := (gridP_sorted n R).imp fun {a b} h e => by subst e; exact plt.irr h
theorem relI_less {n : Nat} {R : Nat → Nat → Bool} (hR : Rng n R) {a b : Int} {i : Nat} (hi : i < (gridP n R).length) (he : toI (at0 (gridP n R) i) = (a, b)) : relI (((gridP n R).eraseIdx i).map toI) = lessR R a.toNat b.toNat := by
  have h0 := at0_eq hi
  have e1 : (at0 (gridP n R) i) = (a.toNat, b.toNat) := by
    simp only [toI, Prod.mk.injEq] at he
    exact Prod.ext (by show _ = a.toNat; omega) (by show _ = b.toNat; omega)
  funext x y
  unfold relI lessR
  rw [Bool.eq_iff_iff]
  simp only [decide_eq_true_eq, Bool.and_eq_true, Bool.not_eq_true', Bool.and_eq_false_imp, decide_eq_false_iff_not]
  have key : ∀ p : NP, p ∈ (gridP n R).eraseIdx i ↔ p ∈ gridP n R ∧ p ≠ (a.toNat, b.toNat) := fun p => by
    rw [List.mem_eraseIdx_iff_getElem]
    constructor
    · rintro ⟨j, hj, hji, e⟩
      refine ⟨by rw [← e]; exact List.getElem_mem _, fun ep => ?_⟩
      rw [← e1, h0, ← e] at ep
      exact hji ((List.getElem_inj (gridP_nodup n R)).1 ep)
    · rintro ⟨hp, hne⟩
      obtain ⟨j, hj, e⟩ := List.getElem_of_mem hp
      refine ⟨j, hj, fun ej => hne ?_, e⟩
      subst ej
      rw [← e, ← h0, e1]
  constructor
  · intro h
    obtain ⟨p, hp, e⟩ := List.mem_map.1 h
    simp only [toI, Prod.mk.injEq] at e
    obtain ⟨h1, h2⟩ := (key p).1 hp
    have ep : p = (x, y) := Prod.ext (by show p.1 = x; omega) (by show p.2 = y; omega)
    subst ep
    exact ⟨(mem_gridP.1 h1).2.2, fun h3 h4 => h2 (Prod.ext h3 h4)⟩
  · rintro ⟨hr, hne⟩
    refine List.mem_map.2 ⟨(x, y), (key _).2 ⟨mem_gridP.2 ⟨(hR _ _ hr).1, (hR _ _ hr).2, hr⟩, fun e => ?_⟩, rfl⟩
    simp only [Prod.mk.injEq] at e
    exact hne e.1 e.2
theorem Rng.less {n : Nat} {R : Nat → Nat → Bool} (hR : Rng n R) (a b : Nat) : Rng n (lessR R a b) := fun x y h => hR x y (by unfold lessR at h; simp only [Bool.and_eq_true] at h; exact h.1)
theorem Acy.less {R : Nat → Nat → Bool} (h : Acy R) (a b : Nat) : Acy (lessR R a b) := fun x t => h x (t.mono fun u v k => .one (by unfold lessR at k; simp only [Bool.and_eq_true] at k; exact k.1))
/-- the order o without a pair -/
def OWoutSpec (P : Program) (ι : Ids) (k : FuncId) : Prop := ∀ (o : OO) (v : Value) (a b : Int) (H : Hp), TabOk ι H → OrdO H v o → CallsM P k #[v, .int .i64 a, .int .i64 b] H fun r H' =>
  ((o = none ∧ r = .tuple #[.pointer none, .int .i64 1]) ∨ ∃ n R, o = some (n, R) ∧
    (((a, b) ∉ (gridP n R).map toI ∧ r = .tuple #[.pointer none, .int .i64 4]) ∨ ((a, b) ∈ (gridP n R).map toI ∧ ∃ pv, r = .tuple #[pv, .int .i64 0] ∧ OrdV H' pv n (lessR R a.toNat b.toNat)))) ∧ Keep (fun _ => False) H H' ∧ frN H.size H' r
theorem owithout_ok {P : Program} {ι : Ids} {k : FuncId} (hk : FnIs P k (c_owithout ι) r_owithout 3) (hi : PIdxSpec P (ι.f 226)) (hd : PDelSpec P (ι.f 228)) (hp : OPairsSpec P (ι.f 205)) (hn : ONewSpec P ι (ι.f 201)) : OWoutSpec P ι k := by
  intro o v a b H hT hv
  obtain ⟨Q, hQ⟩ : ∃ Q : Value → Hp → Prop, Q = fun r H' => ((o = none ∧ r = .tuple #[.pointer none, .int .i64 1]) ∨ ∃ n R, o = some (n, R) ∧
    (((a, b) ∉ (gridP n R).map toI ∧ r = .tuple #[.pointer none, .int .i64 4]) ∨ ((a, b) ∈ (gridP n R).map toI ∧ ∃ pv, r = .tuple #[pv, .int .i64 0] ∧ OrdV H' pv n (lessR R a.toNat b.toNat)))) ∧ Keep (fun _ => False) H H' ∧ frN H.size H' r := ⟨_, rfl⟩
  rw [← hQ]
  refine calls_of_vc hk (args := [_, _, _]) (by simp) ?_
  unfold c_owithout r_owithout
  cases o with
  | none =>
    have hv : v = .pointer none := hv
    subst hv
    simp only [go_sem, List.map_cons, List.map_nil, ↓reduceIte, Nat.reduceEqDiff, Nat.reduceAdd, Nat.reduceMul, reduceCtorEq, and_true, true_and, Nat.mul_one, Nat.zero_add, Bool.false_eq_true, decide_true, decide_false, not_false_eq_true, kont_eq]
    rw [hQ]
    exact ⟨.inl ⟨rfl, rfl⟩, Keep.refl _ _, frN.z _ _ _⟩
  | some o =>
    obtain ⟨n, R⟩ := o
    have hv' := hv
    obtain ⟨h1, h2, h3, bb0, pv, sv, ab, bb, avs, bvs, C, rfl, g1, g2, g3, g4, g5⟩ := hv'
    have h1 : n ≤ 256 := h1
    have hR : Rng n R := h2
    have hA : Acy R := h3
    have hgl : (gridP n R).length ≤ 65536 := Nat.le_trans (gridP_len n R) (Nat.mul_le_mul h1 h1)
    have c1 : cell H ⟨bb0, 1, none⟩ = some pv := by rw [g1.cell]; rfl
    simp only [go_sem, List.map_cons, List.map_nil, ↓reduceIte, Nat.reduceEqDiff, Nat.reduceAdd, Nat.reduceMul, reduceCtorEq, and_true, true_and, Nat.mul_one, Nat.zero_add, Bool.false_eq_true, decide_true, decide_false, not_false_eq_true, kont_eq, fillV_nil, fillV_cons, okFill_nil, okFill_cons, cells_slice, cells_int, cells_bool, cells_str, cells_ptr, cells_agg, stNH_ptr, okN_ptr, wrA1, wrA20, wrA21, c1]
    refine ⟨by omega, ?_⟩
    refine (hi (gridP n R) pv (a, b) H g2 (by omega)).mono ?_
    rintro r H1 ⟨hr, K1⟩
    rcases hr with ⟨rfl, hno⟩ | ⟨i, rfl, hi1, hi2, _⟩
    · have e : decide ((-1 : Int) < 0) = true := rfl
      rw [kont_eq]
      simp only [go_sem, List.map_cons, List.map_nil, ↓reduceIte, Nat.reduceEqDiff, Nat.reduceAdd, Nat.reduceMul, reduceCtorEq, and_true, true_and, Nat.mul_one, Nat.zero_add, Bool.false_eq_true, decide_true, decide_false, not_false_eq_true, kont_eq, e]
      rw [hQ]
      refine ⟨.inr ⟨n, R, rfl, .inl ⟨fun hm => ?_, rfl⟩⟩, K1, frN.z _ _ _⟩
      obtain ⟨p, hp, e⟩ := List.mem_map.1 hm
      exact hno p hp e
    · have e : decide ((i : Int) < 0) = false := decide_eq_false (by omega)
      rw [kont_eq]
      simp only [go_sem, List.map_cons, List.map_nil, ↓reduceIte, Nat.reduceEqDiff, Nat.reduceAdd, Nat.reduceMul, reduceCtorEq, and_true, true_and, Nat.mul_one, Nat.zero_add, Bool.false_eq_true, decide_true, decide_false, not_false_eq_true, kont_eq, e]
      have hv1 : OrdO H1 (.pointer (some ⟨bb0, 0, none⟩)) (some (n, R)) := OrdO.keep0 (o := some (n, R)) hv K1
      have hblt := g1.lt
      have s1 := K1.size
      have c0 : cell H1 ⟨bb0, 0, none⟩ = some (.int .i64 (n : Int)) := by rw [(K1.bl g1 (by simp)).cell]; rfl
      have nb : ¬ H1.size ≤ bb0 := by omega
      have ew : IntKind.i64.wrap ((i : Int) + 1) = ((i + 1 : Nat) : Int) := by rw [IntWalk.i64_in _ (by omega)]; rfl
      refine vc_drk (fun q => H1.size ≤ q) ?_
      simp only [go_sem, List.map_cons, List.map_nil, ↓reduceIte, Nat.reduceEqDiff, Nat.reduceAdd, Nat.reduceMul, reduceCtorEq, and_true, true_and, Nat.mul_one, Nat.zero_add, Bool.false_eq_true, decide_true, decide_false, not_false_eq_true, kont_eq, fillV_nil, fillV_cons, okFill_nil, okFill_cons, cells_slice, cells_int, cells_bool, cells_str, cells_ptr, cells_agg, stNH_ptr, okN_ptr, wrA1, wrA20, wrA21, c0, nb, ew]
      refine (hp (some (n, R)) _ H1 hv1).mono ?_
      rintro r H2 ⟨O2, own2, K2⟩
      simp only [go_sem, List.map_cons, List.map_nil, ↓reduceIte, Nat.reduceEqDiff, Nat.reduceAdd, Nat.reduceMul, reduceCtorEq, and_true, true_and, Nat.mul_one, Nat.zero_add, Bool.false_eq_true, decide_true, decide_false, not_false_eq_true, kont_eq]
      refine ⟨K2.any, (hd (gridP n R) r i H2 O2 hi1 (by omega)).mono ?_⟩
      rintro r3 H3 ⟨O3, own3, K3⟩
      simp only [go_sem, List.map_cons, List.map_nil, ↓reduceIte, Nat.reduceEqDiff, Nat.reduceAdd, Nat.reduceMul, reduceCtorEq, and_true, true_and, Nat.mul_one, Nat.zero_add, Bool.false_eq_true, decide_true, decide_false, not_false_eq_true, kont_eq]
      refine ⟨K3.mono fun q _ h => own2 q h, ?_⟩
      have O3' : OwE pE 2 H3 r3 (((gridP n R).eraseIdx i).map toI) := O3.conv (by simp) (toI_flat _)
      have K13 : Keep (fun _ => False) H1 H3 := K2.trans' K3 (fun j hj h => by have := own2 j h; omega)
      refine (hn (n : Int) _ r3 H3 (hT.keep (K1.trans K13)) O3'.sl (by rw [List.length_map, List.length_eraseIdx_of_lt hi1]; omega)).mono ?_
      rintro r H4 ⟨hr, K4, hfr⟩
      have hmem : ((a, b) : Int × Int) ∈ (gridP n R).map toI := List.mem_map.2 ⟨at0 (gridP n R) i, by rw [at0_eq hi1]; exact List.getElem_mem _, hi2⟩
      have hrel := relI_less hR hi1 hi2
      obtain ⟨pv, rfl, hO⟩ : ∃ pv, r = .tuple #[pv, .int .i64 0] ∧ OrdV H4 pv n (lessR R a.toNat b.toNat) := by
        rcases hr with ⟨h, _⟩ | ⟨_, h, _⟩ | ⟨_, _, h, _⟩ | ⟨_, _, _, pv, h, hO⟩
        · exfalso; unfold badN at h; omega
        · refine absurd (fun p hp => ?_) h
          obtain ⟨q, hq, rfl⟩ := List.mem_map.1 hp
          obtain ⟨k1, k2, _⟩ := mem_gridP.1 (List.mem_of_mem_eraseIdx hq)
          unfold okP toI; simp only; omega
        · rw [hrel] at h; exact absurd (hA.less _ _) h
        · rw [hrel, Int.toNat_natCast] at hO
          exact ⟨pv, h, hO⟩
      simp only [go_sem, List.map_cons, List.map_nil, ↓reduceIte, Nat.reduceEqDiff, Nat.reduceAdd, Nat.reduceMul, reduceCtorEq, and_true, true_and, Nat.mul_one, Nat.zero_add, Bool.false_eq_true, decide_true, decide_false, not_false_eq_true, kont_eq]
      refine ⟨K4.any, ?_⟩
      rw [hQ]
      exact ⟨.inr ⟨n, R, rfl, .inr ⟨hmem, pv, rfl, hO⟩⟩, (K1.trans K13).trans K4, hfr.mono (by have := (K1.trans K13).size; omega)⟩
end Go.Mg

namespace Go.Mg
open Go Go.RowKit
set_option linter.unusedSimpArgs false
set_option linter.unusedVariables false
set_option maxRecDepth 100000
/- (bits.Set).Meets -/
def c_bmeets (ι : Ids) : S :=
  .seq (.reg [.e (.v 2) (.box (ι.t 128) (.v 0)), .e (.v 3) (.box (ι.t 128) (.v 1)), .p (.v 4) (.mv (.c (.bool false)))]) (.seq (.seq (.reg [.p (.t 6) (.fa 0 (.v 2)), .p (.t 7) (.ld (.t 6)), .p (.t 8)
  (.m (.lenl (.t 7))), .p (.t 9) (.fa 0 (.v 3)), .p (.t 10) (.ld (.t 9)), .p (.t 11) (.m (.lenl (.t 10))), .p (.v 12) (.m (.mn (.t 8) (.t 11))), .p (.v 13) (.mv (.c (.int .i64 0)))]) (.blk 0 (.loop
  (.seq (.reg [.p (.v 14) (.cm .lss .i64 (.v 13) (.v 12))]) (.seq (.ite (.v 14) .skip (.exit 0)) (.seq (.blk 1 (.seq (.reg [.p (.t 15) (.mv (.v 13)), .p (.v 5) (.mv (.t 15))]) (.seq (.reg [.p (.t 16)
  (.fa 0 (.v 2)), .p (.t 17) (.ld (.t 16)), .p (.t 18) (.mv (.v 5)), .p (.t 19) (.is 1 (.t 17) (.t 18)), .p (.t 20) (.ld (.t 19)), .p (.t 21) (.fa 0 (.v 3)), .p (.t 22) (.ld (.t 21)), .p (.t 23) (.mv
  (.v 5)), .p (.t 24) (.is 1 (.t 22) (.t 23)), .p (.t 25) (.ld (.t 24)), .p (.t 26) (.bt .and .u64 (.t 20) (.t 25)), .p (.v 27) (.cm .neq .u64 (.t 26) (.c (.int .u64 0)))]) (.ite (.v 27) (.seq (.reg [.p
  (.v 4) (.mv (.c (.bool true)))]) .ret) .skip)))) (.reg [.p (.t 28) (.ar .add .i64 (.v 13) (.c (.int .i64 1))), .p (.v 13) (.mv (.t 28))]))))))) (.seq (.reg [.p (.v 4) (.mv (.c (.bool false)))]) .ret))
def r_bmeets : List RV := [.t 4]
/- (ptr order.Order).given -/
def c_ogiven (ι : Ids) : S :=
  .seq (.reg [.e (.v 3) (.box (ι.t 234) (.v 1)), .p (.v 4) (.mv (.c (.pointer .none)))]) (.seq (.seq (.reg [.p (.t 10) (.mv (.v 0)), .p (.v 11) (.m (.eqn .ptr false (.t 10)))]) (.ite (.v 11) (.seq (.reg
  [.p (.v 4) (.mv (.c (.pointer .none)))]) .ret) .skip)) (.seq (.reg [.e (.v 5) (.new (ι.t 235) #[.slice .none 0 0])]) (.seq (.seq (.reg [.p (.t 12) (.mv (.v 0)), .p (.t 13) (.nil (.t 12)), .p (.t 14)
  (.fa 0 (.t 13)), .p (.v 15) (.ld (.t 14)), .p (.v 16) (.mv (.c (.int .i64 0)))]) (.blk 0 (.loop (.seq (.reg [.p (.v 17) (.cm .lss .i64 (.v 16) (.v 15))]) (.seq (.ite (.v 17) .skip (.exit 0)) (.seq
  (.blk 1 (.seq (.reg [.p (.t 18) (.mv (.v 16)), .e (.v 6) (.new (ι.t 26) #[.int .i64 0]), .e .no (.st (.v 6) (.t 18))]) (.seq (.reg [.p (.t 19) (.mv (.v 0)), .p (.t 20) (.nil (.t 19)), .p (.t 21) (.fa
  3 (.t 20)), .p (.t 22) (.ld (.t 21)), .p (.t 23) (.ld (.v 6)), .p (.t 24) (.is 1 (.t 22) (.t 23)), .p (.t 25) (.m (.ldn 1 (.t 24))), .e (.v 26) (.call (ι.f 137) [.t 25])]) (.blk 2 (.rf 49 (.v 26) 27 7
  (.blk 3 (.seq (.reg [.p (.t 28) (.ld (.v 3)), .p (.t 29) (.ld (.v 6)), .p (.t 30) (.mv (.v 7)), .e (.v 31) (.callv (.t 28) [.t 29, .t 30])]) (.ite (.v 31) (.reg [.p (.t 32) (.ld (.v 5)), .p (.t 33)
  (.ld (.v 6)), .p (.t 34) (.mv (.v 7)), .p (.t 35) (.m (.bld #[.int .i64 0, .int .i64 0] [(0, (1, .t 33)), (1, (1, .t 34))])), .e (.t 36) (.bldF (ι.t 194) 2 1 [.t 35]), .e (.t 37) (.app false (ι.t 194)
  2 16 #[.int .i64 0, .int .i64 0] (.t 32) (.t 36)), .e .no (.st (.v 5) (.t 37))]) .skip)))))))) (.reg [.p (.t 38) (.ar .add .i64 (.v 16) (.c (.int .i64 1))), .p (.v 16) (.mv (.t 38))]))))))) (.seq (.dr
  (.px (.t 40) .none (.mv (.v 0)) (.px (.t 41) .none (.nil (.t 40)) (.px (.t 42) .none (.fa 0 (.t 41)) (.px (.t 43) .none (.ld (.t 42)) (.px (.t 44) .none (.ld (.v 5)) (.wcons (.t 45) .none (.call (ι.f
  201) [.t 43, .t 44]) (.px (.t 39) .none (.mv (.t 45)) (.px (.t 46) .none (.ext (.t 39) 0) (.px (.t 47) .none (.ext (.t 39) 1) (.px (.v 8) .none (.mv (.t 46)) (.px (.t 9) .none (.mv (.t 47)) .done)))))
  .wnil))))))) (.seq (.reg [.p (.t 48) (.mv (.v 8)), .p (.v 4) (.mv (.t 48))]) .ret)))))
def r_ogiven : List RV := [.t 4]
/- (ptr order.Order).Reduced$1 -/
def c_ored1 (ι : Ids) : S :=
  .seq (.reg [.p (.v 5) (.mv (.c (.bool false)))]) (.seq (.reg [.p (.t 6) (.ld (.v 2)), .p (.t 7) (.nil (.t 6)), .p (.t 8) (.fa 3 (.t 7)), .p (.t 9) (.ld (.t 8)), .p (.t 10) (.mv (.v 0)), .p (.t 11)
  (.is 1 (.t 9) (.t 10)), .p (.t 12) (.m (.ldn 1 (.t 11))), .p (.t 13) (.ld (.v 2)), .p (.t 14) (.nil (.t 13)), .p (.t 15) (.fa 2 (.t 14)), .p (.t 16) (.ld (.t 15)), .p (.t 17) (.mv (.v 1)), .p (.t 18)
  (.is 1 (.t 16) (.t 17)), .p (.t 19) (.m (.ldn 1 (.t 18))), .e (.t 20) (.call (ι.f 233) [.t 12, .t 19]), .p (.t 21) (.not (.t 20)), .p (.v 5) (.mv (.t 21))]) .ret)
def r_ored1 : List RV := [.t 5]
/- (ptr order.Order).Closed$1 -/
def c_oclo1 (ι : Ids) : S :=
  .seq (.reg [.p (.v 4) (.mv (.c (.bool false)))]) (.seq (.reg [.p (.v 4) (.mv (.c (.bool true)))]) .ret)
def r_oclo1 : List RV := [.t 4]
/- (ptr order.Order).Reduced -/
def c_ored (ι : Ids) : S :=
  .seq (.reg [.e (.v 1) (.box (ι.t 196) (.v 0)), .p (.v 2) (.mv (.c (.pointer .none)))]) (.seq (.reg [.p (.t 3) (.ld (.v 1)), .p (.t 4) (.m (.mkf (ι.f 237) [] [.v 1])), .e (.t 5) (.call (ι.f 236) [.t 3,
  .t 4]), .p (.v 2) (.mv (.t 5))]) .ret)
def r_ored : List RV := [.t 2]
/- (ptr order.Order).Closed -/
def c_oclo (ι : Ids) : S :=
  .seq (.reg [.p (.v 2) (.mv (.c (.pointer .none)))]) (.seq (.reg [.p (.t 3) (.mv (.v 0)), .e (.t 4) (.call (ι.f 236) [.t 3, .c (.func (.func (ι.f 238)) #[] #[])]), .p (.v 2) (.mv (.t 4))]) .ret)
def r_oclo : List RV := [.t 2]

def BMeetsSpec (P : Program) (k : FuncId) : Prop := ∀ (p q : Nat → Bool) (x y : Value) (H : Hp), SetM H x p → SetM H y q → CallsM P k #[x, y] H fun r H' => (∃ b : Bool, r = .bool b ∧ (b = true ↔ ∃ n, p n = true ∧ q n = true)) ∧ Keep (fun _ => False) H H'
theorem bt_and (x y : UInt64) (k : Nat) : bt (x &&& y) k = (bt x k && bt y k) := by unfold bt; rw [UInt64.toNat_and, Nat.testBit_and]
theorem and_ne0 (x y : UInt64) : x &&& y ≠ 0 ↔ ∃ k, bt x k = true ∧ bt y k = true := by
  constructor
  · intro h
    apply Classical.byContradiction
    intro hn
    refine h (bt_ext fun k _ => ?_)
    rw [bt_and, bt_zero]
    cases h1 : bt x k with
    | false => rfl
    | true =>
      cases h2 : bt y k with
      | false => rfl
      | true => exact absurd ⟨k, h1, h2⟩ hn
  · rintro ⟨k, h1, h2⟩ h
    have := bt_and x y k
    rw [h, bt_zero, h1, h2] at this
    cases this
theorem bmeets_ok {P : Program} {ι : Ids} {k : FuncId} (hk : FnIs P k (c_bmeets ι) r_bmeets 2) : BMeetsSpec P k := by
  intro p q x y H hx hy
  obtain ⟨v, W, rfl, hv⟩ := hx
  obtain ⟨w, U, rfl, hw⟩ := hy
  obtain ⟨Q, hQ⟩ : ∃ Q : Value → Hp → Prop, Q = fun r H' => (∃ b : Bool, r = .bool b ∧ (b = true ↔ ∃ n, p n = true ∧ q n = true)) ∧ Keep (fun _ => False) H H' := ⟨_, rfl⟩
  rw [← hQ]
  refine calls_of_vc hk (args := [_, _]) (by simp) ?_
  unfold c_bmeets r_bmeets
  simp only [go_sem, List.map_cons, List.map_nil, ↓reduceIte, Nat.reduceEqDiff, Nat.reduceAdd, Nat.reduceMul, reduceCtorEq, and_true, true_and, Nat.mul_one, Nat.zero_add, Bool.false_eq_true, decide_true, decide_false, not_false_eq_true, cells_agg]
  refine kont_new fun H1 b1 e1 z1 B1 K1 => ?_
  simp only [go_sem, List.map_cons, List.map_nil, ↓reduceIte, Nat.reduceEqDiff, Nat.reduceAdd, Nat.reduceMul, reduceCtorEq, and_true, true_and, Nat.mul_one, Nat.zero_add, Bool.false_eq_true, decide_true, decide_false, not_false_eq_true]
  refine kont_new fun H2 b2 e2 z2 B2 K2 => ?_
  have B1' := K2.bl B1 (by simp)
  have K12 := K1.trans K2
  have hv2 := hv.keep K12 (by simp)
  have hw2 := hw.keep K12 (by simp)
  have c1 : cell H2 ⟨b1, 0, none⟩ = some v := by rw [B1'.cell]; rfl
  have c2 : cell H2 ⟨b2, 0, none⟩ = some w := by rw [B2.cell]; rfl
  have hkd : ∀ x : Int, kindOf (Value.int .i64 x) = .i64 := fun _ => rfl
  have w64l : ∀ l : List UInt64, (w64 l).length = l.length := fun l => by simp [w64]
  simp only [go_sem, List.map_cons, List.map_nil, ↓reduceIte, Nat.reduceEqDiff, Nat.reduceAdd, Nat.reduceMul, reduceCtorEq, and_true, true_and, Nat.mul_one, Nat.zero_add, Bool.false_eq_true, decide_true, decide_false, not_false_eq_true, kont_eq, c1, c2, hv2.sl.isSl, hv2.sl.len, hw2.sl.isSl, hw2.sl.len, w64l, hkd]
  obtain ⟨m, hm⟩ : ∃ m : Nat, m = min W.length U.length := ⟨_, rfl⟩
  have em : (if (U.length : Int) < (W.length : Int) then (U.length : Int) else (W.length : Int)) = (m : Int) := by split <;> omega
  rw [em]
  have hWl := hv.len
  refine vc_loop [14, 5, 27, 4, 13] rfl (fun n f A => ∃ i : Nat, i ≤ m ∧ n = m - i ∧ f 13 = .int .i64 i ∧ (∀ a < i, W.getD a 0 &&& U.getD a 0 = 0) ∧ A = H2) m ?_ ?_
  · exact ⟨0, by omega, by omega, by simp only [go_sem, List.map_cons, List.map_nil, ↓reduceIte, Nat.reduceEqDiff, Nat.reduceAdd, Nat.reduceMul, reduceCtorEq, and_true, true_and, Nat.mul_one, Nat.zero_add, Bool.false_eq_true, decide_true, decide_false, not_false_eq_true, kont_eq]; rfl, fun a h => by omega, rfl⟩
  rintro n f A ⟨i, hi, rfl, hf, hz, rfl⟩
  simp only [go_sem, List.map_cons, List.map_nil, ↓reduceIte, Nat.reduceEqDiff, Nat.reduceAdd, Nat.reduceMul, reduceCtorEq, and_true, true_and, Nat.mul_one, Nat.zero_add, Bool.false_eq_true, decide_true, decide_false, not_false_eq_true, kont_eq] at hf
  simp only [go_sem, List.map_cons, List.map_nil, ↓reduceIte, Nat.reduceEqDiff, Nat.reduceAdd, Nat.reduceMul, reduceCtorEq, and_true, true_and, Nat.mul_one, Nat.zero_add, Bool.false_eq_true, decide_true, decide_false, not_false_eq_true, hf]
  refine iteV_dec (fun hlt => ?_) (fun hge => ?_)
  · have hi1 : i < W.length := by omega
    have hi2 : i < U.length := by omega
    obtain ⟨vb, vo, vc', rfl, cv⟩ := hv2.cells hi1
    obtain ⟨wb, wo, wc', rfl, cw⟩ := hw2.cells hi2
    have cvi := cv i hi1
    have cwi := cw i hi2
    have ea := u64_and (W.getD i 0).toNat (U.getD i 0).toNat (W.getD i 0).toNat_lt (U.getD i 0).toNat_lt
    have eb : (((W.getD i 0).toNat &&& (U.getD i 0).toNat : Nat) : Int) = ((W.getD i 0 &&& U.getD i 0).toNat : Int) := by rw [UInt64.toNat_and]
    by_cases h : W.getD i 0 &&& U.getD i 0 = 0
    · have e : (((W.getD i 0 &&& U.getD i 0).toNat : Int) != 0) = false := by rw [h]; rfl
      simp (disch := omega) only [go_sem, List.map_cons, List.map_nil, ↓reduceIte, Nat.reduceEqDiff, Nat.reduceAdd, Nat.reduceMul, reduceCtorEq, and_true, true_and, Nat.mul_one, Nat.zero_add, Bool.false_eq_true, decide_true, decide_false, not_false_eq_true, kont_eq, hf, tn_cast, Nat.mul_one, c1, c2, cvi, cwi, ea, eb, e, IntWalk.i64_in]
      refine ⟨by omega, by omega, m - (i + 1), by omega, i + 1, by omega, rfl, rfl, fun a ha => ?_⟩
      by_cases e2 : a = i
      · subst e2; exact h
      · exact hz a (by omega)
    · have e : (((W.getD i 0 &&& U.getD i 0).toNat : Int) != 0) = true := by
        rw [bne_iff_ne]
        intro e
        have e' : (W.getD i 0 &&& U.getD i 0).toNat = 0 := by omega
        exact h (UInt64.toNat_inj.1 e')
      simp only [go_sem, List.map_cons, List.map_nil, ↓reduceIte, Nat.reduceEqDiff, Nat.reduceAdd, Nat.reduceMul, reduceCtorEq, and_true, true_and, Nat.mul_one, Nat.zero_add, Bool.false_eq_true, decide_true, decide_false, not_false_eq_true, kont_eq, hf, tn_cast, Nat.mul_one, c1, c2, cvi, cwi, ea, eb, e]
      refine ⟨by omega, by omega, ?_⟩
      rw [hQ]
      obtain ⟨k, h1, h2⟩ := (and_ne0 _ _).1 h
      have hk64 := bt_lt h1
      refine ⟨⟨true, rfl, fun _ => ⟨64 * i + k, ?_, ?_⟩, fun _ => rfl⟩, K12⟩
      · rw [← hv.is, memb_at W i k hk64]; exact h1
      · rw [← hw.is, memb_at U i k hk64]; exact h2
  · rw [hQ]
    refine ⟨⟨false, rfl, fun h => absurd h (by simp), fun ⟨n, h1, h2⟩ => ?_⟩, K12⟩
    rw [← hv.is] at h1
    rw [← hw.is] at h2
    have l1 : n / 64 < W.length := by
      apply Decidable.byContradiction; intro hc
      rw [memb_ge (by omega)] at h1; cases h1
    have l2 : n / 64 < U.length := by
      apply Decidable.byContradiction; intro hc
      rw [memb_ge (by omega)] at h2; cases h2
    have := hz (n / 64) (by omega)
    exact absurd this ((and_ne0 _ _).2 ⟨n % 64, h1, h2⟩)
/-! ### a new order of some pairs of the relation -/
theorem SlE.isCells {α : Type} {enc : α → List Value} {k : Nat} {H : Hp} {v : Value} {l : List α} (h : SlE enc k H v l) {q : Nat} (hq : slB v q) : ∃ C T z, H[q]? = some (.cells C T z) := by
  rcases h with ⟨a, c, rfl, _⟩ | ⟨b, o, c, _, rfl, h0, C, T, z, h1, h2, h3⟩
  · cases a <;> simp [Mg.slB] at hq
  · obtain ⟨rfl, _⟩ := hq; exact ⟨C, T, z, h1⟩
theorem OrdV.keepM {H H' : Hp} {v : Value} {n : Nat} {R : Nat → Nat → Bool} {ms : List Nat} (h : OrdV H v n R) (hk : Keep (fun q => q ∈ ms) H H') (hm : ∀ q ∈ ms, H[q]? = some (.deferred (some []))) : OrdV H' v n R := by
  obtain ⟨h1, h2, h3, b, pv, sv, ab, bb, avs, bvs, C, rfl, g1, g2, g3, g4, g5⟩ := h
  have nc : ∀ {q C T z}, H[q]? = some (.cells C T z) → q ∉ ms := fun {q C T z} hc hq => by rw [hm q hq] at hc; cases hc
  refine ⟨h1, h2, h3, b, pv, sv, ab, bb, avs, bvs, C, rfl, hk.bl g1 ?_, g2.keep hk fun q hq => ?_, g3.keepM hk hm, g4.keepM hk hm, g5.keep hk fun q hq => ?_⟩
  · obtain ⟨T, hb⟩ := g1; exact nc hb
  · obtain ⟨C', T, z, hb⟩ := g2.isCells hq; exact nc hb
  · obtain ⟨C', T, z, hb⟩ := g5.isCells hq; exact nc hb
/-- what is kept of the pairs (x, y) with x above y -/
noncomputable def keepR (R : Nat → Nat → Bool) (q : Nat → Nat → Bool) (x y : Nat) : Bool := tcB R x y && q x y
theorem Rng.keepR {n : Nat} {R : Nat → Nat → Bool} (h : Rng n R) (q : Nat → Nat → Bool) : Rng n (keepR R q) := fun a b k => by
  unfold Mg.keepR at k; simp only [Bool.and_eq_true] at k; exact h.clo a b k.1
theorem Acy.keepR {R : Nat → Nat → Bool} (h : Acy R) (q : Nat → Nat → Bool) : Acy (keepR R q) := fun a t => h.clo a (t.mono fun u v k => by
  unfold Mg.keepR at k; simp only [Bool.and_eq_true] at k; exact .one k.1)
theorem mems_row {n : Nat} {R : Nat → Nat → Bool} (hR : Rng n R) (hn : n ≤ 4096) (q : Nat → Nat → Bool) (x : Nat) : ((mems fun y => tcB R x y).filter (q x)).map (fun y => (x, y)) = rowP n (keepR R q) x := by
  unfold rowP
  congr 1
  unfold mems
  have e : ∀ m, n ≤ m → ((List.range m).filter fun y => tcB R x y).filter (q x) = (List.range n).filter (keepR R q x) := fun m hm => by
    obtain ⟨d, rfl⟩ : ∃ d, m = n + d := ⟨m - n, by omega⟩
    clear hm
    induction d with
    | zero =>
      rw [List.filter_filter]
      refine List.filter_congr fun y _ => ?_
      unfold Mg.keepR
      rw [Bool.and_comm]
    | succ d ih =>
      rw [show n + (d + 1) = (n + d) + 1 by omega, List.range_succ, List.filter_append, List.filter_append, ih]
      have : tcB R x (n + d) = false := by
        cases h : tcB R x (n + d) with
        | false => rfl
        | true => have := (hR.tc (tcB_iff.1 h)).2; omega
      simp [this]
  exact e 4096 hn
def OGivSpec (P : Program) (ι : Ids) (k : FuncId) : Prop := ∀ (n : Nat) (R : Nat → Nat → Bool) (v : Value) (kv : Value) (q : Nat → Nat → Bool) (H : Hp), TabOk ι H → OrdV H v n R →
  (∃ g fi ca, kv = .func (.func g) fi ca ∧ bodyOk P g = true ∧ ∀ A, Keep (fun _ => False) H A → ∀ x y, x < n → y < n → CallsM P g (fi ++ #[.int .i64 (x : Int), .int .i64 (y : Int)] ++ ca) A fun r A' => r = .bool (q x y) ∧ Keep (fun _ => False) A A') →
  CallsM P k #[v, kv] H fun r H' => OrdV H' r n (keepR R q) ∧ Keep (fun _ => False) H H'
end Go.Mg

namespace Go.Mg
open Go Go.RowKit
set_option linter.unusedSimpArgs false
set_option linter.unusedVariables false
set_option maxRecDepth 100000

theorem ogiven_ok {P : Program} {ι : Ids} {k : FuncId} (hk : FnIsR P k (c_ogiven ι) r_ogiven 2 49) (ha : BAllSpec P (ι.f 137) (ι.f 136)) (hb1 : bodyOk P (ι.f 136) = true) (hY : FnIsY P (ι.f 136) (c_ball1 ι) r_ball1 2) (htz : TzSpec P ι (ι.f 126)) (hnw : ONewSpec P ι (ι.f 201)) : OGivSpec P ι k := by
  intro n R v kv q H hT hv hkv
  obtain ⟨Q, hQ⟩ : ∃ Q : Value → Hp → Prop, Q = fun r H' => OrdV H' r n (keepR R q) ∧ Keep (fun _ => False) H H' := ⟨_, rfl⟩
  rw [← hQ]
  refine calls_of_vcR hk (args := [_, _]) (by simp) ?_
  unfold c_ogiven r_ogiven
  have hv' := hv
  obtain ⟨hn, hR, hA, b, pv, sv, ab, bb, avs, bvs, C, rfl, g1, g2, g3, g4, g5⟩ := hv'
  obtain ⟨g, fi, ca, rfl, hbg, hkeep⟩ := hkv
  simp only [go_sem, List.map_cons, List.map_nil, ↓reduceIte, Nat.reduceEqDiff, Nat.reduceAdd, Nat.reduceMul, reduceCtorEq, and_true, true_and, Nat.mul_one, Nat.zero_add, Bool.false_eq_true, decide_true, decide_false, not_false_eq_true]
  refine kont_new fun H1 b3 e3 z3 B3 K1 => ?_
  have s1 := K1.size
  have hblt := g1.lt
  simp only [go_sem, List.map_cons, List.map_nil, ↓reduceIte, Nat.reduceEqDiff, Nat.reduceAdd, Nat.reduceMul, reduceCtorEq, and_true, true_and, Nat.mul_one, Nat.zero_add, Bool.false_eq_true, decide_true, decide_false, not_false_eq_true]
  refine kont_new fun H2 b5 e5 z5 B5 K2 => ?_
  have s2 := K2.size
  have K02 := K1.trans K2
  have g1' := K02.bl g1 (by simp)
  have c0 : cell H2 ⟨b, 0, none⟩ = some (.int .i64 (n : Int)) := by rw [g1'.cell]; rfl
  have B32 := K2.bl B3 (by simp)
  have B52 : Bl H2 b5 [.slice none 0 0] := B5
  have hT2 := hT.keep K02
  simp only [go_sem, List.map_cons, List.map_nil, ↓reduceIte, Nat.reduceEqDiff, Nat.reduceAdd, Nat.reduceMul, reduceCtorEq, and_true, true_and, Nat.mul_one, Nat.zero_add, Bool.false_eq_true, decide_true, decide_false, not_false_eq_true, kont_eq, c0]
  refine vc_loop [17, 6, 26, 31, 16, 49] rfl (fun m f A => ∃ (x : Nat) (lv : Value) (ms : List Nat), x ≤ n ∧ m = n - x ∧ f 16 = .int .i64 x ∧ mks (f 49) = ms ∧ ms.Nodup ∧ (∀ q ∈ ms, H2.size ≤ q ∧ A[q]? = some (.deferred (some []))) ∧
    Bl A b5 [lv] ∧ OwE nE 2 A lv ((List.range x).flatMap (rowP n (keepR R q))) ∧ (∀ q, ownB lv q → H2.size ≤ q) ∧ Keep (fun q => q = b5) H2 A) n ?_ ?_
  · exact ⟨0, _, [], by omega, by omega, by simp only [go_sem, List.map_cons, List.map_nil, ↓reduceIte, Nat.reduceEqDiff, Nat.reduceAdd, Nat.reduceMul, reduceCtorEq, and_true, true_and, Nat.mul_one, Nat.zero_add, Bool.false_eq_true, decide_true, decide_false, not_false_eq_true, kont_eq]; rfl, rfl, List.nodup_nil, by simp, B52, OwE.nil _, fun q h => h.elim, Keep.refl _ _⟩
  rintro m f H3 ⟨x, lv, ms, hx, rfl, hf, hms, hnd, hmk, B53, O3, own3, K3⟩
  have s3 := K3.size
  simp only [go_sem, List.map_cons, List.map_nil, ↓reduceIte, Nat.reduceEqDiff, Nat.reduceAdd, Nat.reduceMul, reduceCtorEq, and_true, true_and, Nat.mul_one, Nat.zero_add, Bool.false_eq_true, decide_true, decide_false, not_false_eq_true, kont_eq] at hf hms
  simp only [go_sem, List.map_cons, List.map_nil, ↓reduceIte, Nat.reduceEqDiff, Nat.reduceAdd, Nat.reduceMul, reduceCtorEq, and_true, true_and, Nat.mul_one, Nat.zero_add, Bool.false_eq_true, decide_true, decide_false, not_false_eq_true, hf]
  have hll : ((List.range x).flatMap (rowP n (keepR R q))).length ≤ 65536 := by
    have h1 : ((List.range x).flatMap (rowP n (keepR R q))).length ≤ x * n := by
      clear hf hx O3
      induction x with
      | zero => simp
      | succ x ih =>
        rw [List.range_succ, List.flatMap_append, List.length_append, Nat.succ_mul]
        have : ((List.flatMap (rowP n (keepR R q)) [x])).length ≤ n := by
          simp only [List.flatMap_cons, List.flatMap_nil, List.append_nil, rowP, List.length_map]
          have := List.length_filter_le (keepR R q x) (List.range n)
          simpa using this
        omega
    have hx256 : x ≤ 256 := Nat.le_trans hx hn
    exact Nat.le_trans h1 (Nat.mul_le_mul hx256 hn)
  refine iteV_dec (fun hlt => ?_) (fun hge => ?_)
  · have hxn : x < n := by omega
    refine kont_new fun H4 b6 e6 z6 B6 K4 => ?_
    have s4 := K4.size
    have hst6 := B6.okSt (o := 0) (by simp)
    have B7 := B6.setc 0 (.int .i64 (x : Int))
    have K5 : Keep (fun q => q = b6) H4 (setc H4 ⟨b6, 0, none⟩ (.int .i64 (x : Int))) := (Keep.refl _ _).setc _ (.inl rfl)
    simp only [go_sem, List.map_cons, List.map_nil, ↓reduceIte, Nat.reduceEqDiff, Nat.reduceAdd, Nat.reduceMul, reduceCtorEq, and_true, true_and, Nat.mul_one, Nat.zero_add, Bool.false_eq_true, decide_true, decide_false, not_false_eq_true, fillV_nil, fillV_cons, okFill_nil, okFill_cons, cells_slice, cells_int, cells_bool, cells_str, cells_ptr, cells_agg, stNH_ptr, okN_ptr, wrA1, wrA20, wrA21, hst6]
    rw [kont_eq]
    generalize setc H4 ⟨b6, 0, none⟩ (.int .i64 (x : Int)) = H5 at B7 K5 ⊢
    have s5 := K5.size
    have K35 : Keep (fun _ => False) H3 H5 := K4.to_old K5 (by omega)
    have c6 : cell H5 ⟨b6, 0, none⟩ = some (.int .i64 (x : Int)) := by rw [B7.cell]; rfl
    have K25 := K3.trans K35.any
    have g15 := K25.bl g1' (by omega)
    have c3 : cell H5 ⟨b, 3, none⟩ = some (.slice (some ⟨bb, 0, none⟩) n n) := by rw [g15.cell]; rfl
    have K05 : Keep (fun _ => False) H H5 := K02.trans' K25 (fun j hj h => by omega)
    have D5 := g4.keep K05 (by simp) (by simp)
    obtain ⟨v0, W0, hv0, hV0⟩ := D5.at_ x hxn
    simp only [Value.agg.injEq, Array.mk.injEq, List.cons.injEq, and_true] at hv0
    have hm5 : ∀ q ∈ ms, q < H3.size ∧ H5[q]? = some (.deferred (some [])) := fun q hq => by
      have h := (hmk q hq).2
      have hlt := (Array.getElem?_eq_some_iff.1 h).1
      exact ⟨hlt, by rw [K35.at_ q hlt (by simp)]; exact h⟩
    simp only [go_sem, List.map_cons, List.map_nil, ↓reduceIte, Nat.reduceEqDiff, Nat.reduceAdd, Nat.reduceMul, reduceCtorEq, and_true, true_and, Nat.mul_one, Nat.zero_add, Bool.false_eq_true, decide_true, decide_false, not_false_eq_true, kont_eq, c3, c6, tn_cast, Nat.mul_one, Nat.zero_add, ldNO_ptr, D5.ld hxn]
    refine ⟨by omega, (ha _ H5).mono ?_⟩
    rintro r H6 ⟨rfl, B8, K6, z8⟩
    have s6 := K6.size
    simp only [go_sem, List.map_cons, List.map_nil, ↓reduceIte, Nat.reduceEqDiff, Nat.reduceAdd, Nat.reduceMul, reduceCtorEq, and_true, true_and, Nat.mul_one, Nat.zero_add, Bool.false_eq_true, decide_true, decide_false, not_false_eq_true, kont_eq]
    have hV6 : SetV H6 v0 W0 (fun y => tcB R x y) := hV0.keep K6 (by simp)
    have B86 : Bl H6 H5.size [v0] := by rw [← hv0]; exact B8
    have K06 := K05.trans K6
    have hT6 := hT.keep K06
    have K36 := K35.trans K6
    have B56 := K36.bl B53 (by simp)
    have O6 := O3.keep K36 (by simp)
    have hown6 : ∀ q, ownB lv q → q < H3.size := fun q hq => O3.old hq
    have hb5lt := B53.lt
    have B66 := K6.bl B7 (by simp)
    have hb66 := B66.lt
    have B36 := (K25.trans K6.any).bl B32 (by omega)
    have hnm : ∀ q ∈ ms, ¬ (q = b5 ∨ ownB lv q) := fun p hp h => by
      rcases h with h | h
      · obtain ⟨T, hb⟩ := B53
        have := (hmk p hp).2
        rw [h, hb] at this; cases this
      · rcases O3 with ⟨rfl, _⟩ | ⟨ob, oc, oL, rfl, _, _, hB, _⟩
        · exact h.elim
        · have h : p = ob := h
          obtain ⟨T, hb⟩ := hB
          have := (hmk p hp).2
          rw [h, hb] at this; cases this
    refine vc_rf (fun p => p = b5 ∨ ownB lv p) (fun k A => ∃ lv', Bl A b5 [lv'] ∧ OwE nE 2 A lv' ((List.range x).flatMap (rowP n (keepR R q)) ++ (((mems fun y => tcB R x y).take k).filter (q x)).map fun y => (x, y)) ∧ ∀ p, ownB lv' p → ownB lv p ∨ H6.size + 2 ≤ p) (fun _ _ => False) (G := fun H => TabOk ι H ∧ Bl H H5.size [v0] ∧ SetV H v0 W0 fun y => tcB R x y) (by simp only [go_sem, List.map_cons, List.map_nil, ↓reduceIte, Nat.reduceEqDiff, Nat.reduceAdd, Nat.reduceMul, reduceCtorEq, and_true, true_and, Nat.mul_one, Nat.zero_add, Bool.false_eq_true, decide_true, decide_false, not_false_eq_true, kont_eq]; rfl) hb1 (ball1_ok hY htz) ?_ ?_ ?_ ?_ ?_ ?_ ?_ ?_
    · rintro p (rfl | h)
      · omega
      · have := hown6 p h; omega
    · rintro k A KA _
      have K : Keep (fun _ => False) H A := K06.trans' KA (fun j hj h => by
        rcases h with h | h
        · omega
        · have := own3 _ h; omega)
      refine ⟨hT.keep K, KA.bl B86 (fun h => by
        rcases h with h | h
        · omega
        · have := hown6 _ h; omega), hV6.keep KA (fun p hp h => ?_)⟩
      have := (g4.at_ x hxn).old (k := p) (by rw [hv0]; exact hp)
      rcases h with h | h
      · omega
      · have := own3 _ h; omega
    · intro A KA hs0
      exact ⟨lv, KA.bl B56 (by simp), by simpa using O6.keep KA (by simp), fun p h => .inl h⟩
    · rintro k A A2 hs0 KA ⟨lv', j1, j2, j3⟩ K
      exact ⟨lv', K.bl j1 (by omega), j2.keep K (fun p hp e => by
        rcases j3 p hp with h | h
        · have := hown6 p h; omega
        · omega), j3⟩
    · rintro e A A2 hs0 KA h; exact h.elim
    · rintro k A hk KA hs0 ⟨lv', j1, j2, j3⟩
      have hkl : k < (mems fun y => tcB R x y).length := by simpa [memL] using hk
      obtain ⟨y, hy⟩ : ∃ y, y = (mems fun y => tcB R x y)[k] := ⟨_, rfl⟩
      have hxv : (memL fun y => tcB R x y).getD k undef = .int .i64 (y : Int) := by
        rw [List.getD_eq_getElem?_getD, List.getElem?_eq_getElem hk]
        simp [memL, hy]
      rw [hxv]
      have hyn : y < n := by
        have := (mem_mems.1 (show y ∈ mems fun y => tcB R x y by rw [hy]; exact List.getElem_mem _)).2
        exact (hR.tc (tcB_iff.1 this)).2
      have htk : (((mems fun y => tcB R x y).take (k + 1)).filter (q x)).map (fun y => (x, y)) = ((((mems fun y => tcB R x y).take k).filter (q x)).map fun y => (x, y)) ++ if q x y = true then [(x, y)] else [] := by
        rw [List.take_succ_eq_append_getElem hkl, List.filter_append, List.map_append, ← hy]
        cases hq : q x y <;> simp [hq]
      have hlen : ((((mems fun y => tcB R x y).take k).filter (q x)).map fun y => (x, y)).length ≤ 4096 := by
        rw [List.length_map]
        refine Nat.le_trans (List.length_filter_le _ _) ?_
        rw [List.length_take]
        have := cn_le 4096 fun y => tcB R x y
        have := mems_length fun y => tcB R x y
        omega
      have hWn : ∀ p, p < H.size → ¬ (p = b5 ∨ ownB lv p) := fun p hp h => by
        rcases h with h | h
        · omega
        · have := own3 _ h; omega
      have K0A : Keep (fun _ => False) H A := K06.trans' KA (fun j hj h => hWn j hj h)
      have B3A := KA.bl B36 (fun h => by
        rcases h with h | h
        · omega
        · have := own3 _ h; omega)
      have B6A := KA.bl B66 (fun h => by
        rcases h with h | h
        · omega
        · have := hown6 _ h; omega)
      have c3A : cell A ⟨b3, 0, none⟩ = some (.func (.func g) fi ca) := by rw [B3A.cell]; rfl
      have c6A : cell A ⟨b6, 0, none⟩ = some (.int .i64 (x : Int)) := by rw [B6A.cell]; rfl
      simp only [go_sem, List.map_cons, List.map_nil, ↓reduceIte, Nat.reduceEqDiff, Nat.reduceAdd, Nat.reduceMul, reduceCtorEq, and_true, true_and, Nat.mul_one, Nat.zero_add, Bool.false_eq_true, decide_true, decide_false, not_false_eq_true, kont_eq, c3A, c6A]
      refine ⟨hbg, (hkeep A K0A x y hxn hyn).mono ?_⟩
      rintro r A1 ⟨rfl, L1⟩
      have t1 := L1.size
      have j1' := L1.bl j1 (by simp)
      have j2' := j2.keep L1 (by simp)
      have c5A : cell A1 ⟨b5, 0, none⟩ = some lv' := by rw [j1'.cell]; rfl
      have c6B : cell A1 ⟨b6, 0, none⟩ = some (.int .i64 (x : Int)) := by rw [(L1.bl B6A (by simp)).cell]; rfl
      rw [kont_eq]
      cases hq : q x y with
      | false =>
        simp only [go_sem, List.map_cons, List.map_nil, ↓reduceIte, Nat.reduceEqDiff, Nat.reduceAdd, Nat.reduceMul, reduceCtorEq, and_true, true_and, Nat.mul_one, Nat.zero_add, Bool.false_eq_true, decide_true, decide_false, not_false_eq_true, kont_eq]
        rw [hq] at htk
        simp only [Bool.false_eq_true, if_false, List.append_nil] at htk
        exact ⟨L1.any, lv', j1', by rw [htk]; exact j2', j3⟩
      | true =>
        rw [hq] at htk
        simp only [if_true] at htk
        simp only [go_sem, List.map_cons, List.map_nil, ↓reduceIte, Nat.reduceEqDiff, Nat.reduceAdd, Nat.reduceMul, reduceCtorEq, and_true, true_and, Nat.mul_one, Nat.zero_add, Bool.false_eq_true, decide_true, decide_false, not_false_eq_true, fillV_nil, fillV_cons, okFill_nil, okFill_cons, cells_slice, cells_int, cells_bool, cells_str, cells_ptr, cells_agg, stNH_ptr, okN_ptr, wrA1, wrA20, wrA21, c5A, c6B]
        refine ⟨by omega, ?_⟩
        refine kont_news fun A2 ba ea za Ba L2 => ?_
        have t2 := L2.size
        obtain ⟨xa, xn, xc, rfl⟩ := j2'.shape
        simp only [go_sem, List.map_cons, List.map_nil, ↓reduceIte, Nat.reduceEqDiff, Nat.reduceAdd, Nat.reduceMul, reduceCtorEq, and_true, true_and, Nat.mul_one, Nat.zero_add, Bool.false_eq_true, decide_true, decide_false, not_false_eq_true, kont_eq]
        have hx2 : SlE nE 2 A2 (.slice (some ⟨ba, 0, none⟩) 1 1) [(x, y)] := SlE.bl Ba (l := [(x, y)]) rfl (by simp) (by simp)
        refine app_E (m := [(x, y)]) nE_len nE_one (j2'.keep L2 (by simp)) hx2 rfl (by unfold maxLen; rw [List.length_append, List.length_singleton]; omega) (by rw [List.length_append, List.length_singleton]; omega) fun v3 A3 O3' L3 own3' => ?_
        have t3 := L3.size
        obtain ⟨ya, yn, yc, rfl⟩ := O3'.shape
        have hb5n : ¬ ownB (.slice xa xn xc) b5 := fun h => by
          rcases j3 _ h with h | h
          · have := own3 _ h; omega
          · omega
        have j13 := L3.bl (L2.bl j1' (by simp)) hb5n
        have hst5 := j13.okSt (o := 0) (by simp)
        have j14 := j13.setc 0 (.slice ya yn yc)
        have L4 : Keep (fun p => p = b5) A3 (setc A3 ⟨b5, 0, none⟩ (.slice ya yn yc)) := (Keep.refl _ _).setc _ (.inl rfl)
        simp only [go_sem, List.map_cons, List.map_nil, ↓reduceIte, Nat.reduceEqDiff, Nat.reduceAdd, Nat.reduceMul, reduceCtorEq, and_true, true_and, Nat.mul_one, Nat.zero_add, Bool.false_eq_true, decide_true, decide_false, not_false_eq_true, kont_eq, hst5]
        have own4 : ∀ p, ownB (.slice ya yn yc) p → ownB lv p ∨ H6.size + 2 ≤ p := fun p hp => by
          rcases own3' p hp with h | h
          · exact j3 p h
          · exact .inr (by omega)
        refine ⟨((L1.trans L2).any.trans (L3.mono fun p _ h => ?_)).trans (L4.mono fun p _ h => .inl (.inl h)), _, j14, ?_, own4⟩
        · rcases j3 p h with h | h
          · exact .inl (.inr h)
          · exact .inr h
        · rw [htk, ← List.append_assoc]
          refine O3'.keep L4 (fun p hp e => ?_)
          rcases own4 p hp with h | h
          · have := own3 _ h; omega
          · omega
    · rintro A KA hs0 hd ⟨lv', j1, j2, j3⟩
      simp (disch := omega) only [go_sem, List.map_cons, List.map_nil, ↓reduceIte, Nat.reduceEqDiff, Nat.reduceAdd, Nat.reduceMul, reduceCtorEq, and_true, true_and, Nat.mul_one, Nat.zero_add, Bool.false_eq_true, decide_true, decide_false, not_false_eq_true, kont_eq, hf, hms, IntWalk.i64_in]
      have e0 : (mems fun y => tcB R x y).take (memL fun y => tcB R x y).length = mems fun y => tcB R x y := List.take_of_length_le (by simp [memL])
      rw [e0, mems_row hR (by have hn : n ≤ 256 := hn; omega) q x] at j2
      refine ⟨n - (x + 1), by omega, x + 1, lv', H6.size :: ms, by omega, rfl, by rfl, rfl, ?_, ?_, j1, ?_, fun p hp => ?_, ?_⟩
      · exact List.nodup_cons.2 ⟨fun h => by have := (hm5 _ h).1; omega, hnd⟩
      · intro p hp
        rcases List.mem_cons.1 hp with e | hp
        · subst e; exact ⟨by omega, hd⟩
        · refine ⟨(hmk p hp).1, ?_⟩
          have h5 := hm5 p hp
          rw [KA.at_ p (by omega) (hnm p hp), K6.at_ p (by omega) (by simp)]
          exact h5.2
      · rw [List.range_succ, List.flatMap_append, List.flatMap_cons, List.flatMap_nil, List.append_nil]
        exact j2
      · rcases j3 p hp with h | h
        · exact own3 p h
        · omega
      · refine ((K3.trans K36.any).trans' KA fun j hj h => ?_)
        rcases h with h | h
        · exact h
        · have := own3 _ h; omega
    · rintro e A _ _ _ h; exact h.elim
  · have hxn : x = n := by omega
    subst hxn
    have K03 : Keep (fun _ => False) H H3 := K02.trans' K3 (fun j hj h => by omega)
    have g13 := K3.bl g1' (by omega)
    have c03 : cell H3 ⟨b, 0, none⟩ = some (.int .i64 (x : Int)) := by rw [g13.cell]; rfl
    have c53 : cell H3 ⟨b5, 0, none⟩ = some lv := by rw [B53.cell]; rfl
    refine vc_drk (fun _ => False) ?_
    simp only [go_sem, List.map_cons, List.map_nil, ↓reduceIte, Nat.reduceEqDiff, Nat.reduceAdd, Nat.reduceMul, reduceCtorEq, and_true, true_and, Nat.mul_one, Nat.zero_add, Bool.false_eq_true, decide_true, decide_false, not_false_eq_true, kont_eq, c03, c53]
    have O3' : OwE pE 2 H3 lv ((gridP x (keepR R q)).map toI) := OwE.conv (l := gridP x (keepR R q)) O3 (by simp) (toI_flat _)
    refine (hnw (x : Int) _ lv H3 (hT.keep K03) O3'.sl (by rw [List.length_map]; unfold gridP; omega)).mono ?_
    rintro r H4 ⟨hr, K4, _⟩
    have hrel := relI_grid (hR.keepR q)
    obtain ⟨pv', rfl, hO⟩ : ∃ pv, r = .tuple #[pv, .int .i64 0] ∧ OrdV H4 pv x (keepR R q) := by
      rcases hr with ⟨h, _⟩ | ⟨_, h, _⟩ | ⟨_, _, h, _⟩ | ⟨_, _, _, pv, h, hO⟩
      · exfalso; have hn : x ≤ 256 := hn; unfold badN at h; omega
      · refine absurd (fun p hp => ?_) h
        obtain ⟨p', hp', rfl⟩ := List.mem_map.1 hp
        obtain ⟨k1, k2, _⟩ := mem_gridP.1 hp'
        unfold okP toI; simp only; omega
      · rw [hrel] at h; exact absurd (hA.keepR q) h
      · rw [hrel, Int.toNat_natCast] at hO
        exact ⟨pv, h, hO⟩
    simp only [go_sem, List.map_cons, List.map_nil, ↓reduceIte, Nat.reduceEqDiff, Nat.reduceAdd, Nat.reduceMul, reduceCtorEq, and_true, true_and, Nat.mul_one, Nat.zero_add, Bool.false_eq_true, decide_true, decide_false, not_false_eq_true, kont_eq, hms]
    have hm4 : ∀ p ∈ ms, H4[p]? = some (.deferred (some [])) := fun p hp => by
      have h := (hmk p hp).2
      have hlt := (Array.getElem?_eq_some_iff.1 h).1
      rw [K4.at_ p hlt (by simp)]; exact h
    refine ⟨K4, hnd, hm4, fun A2 ha2 hb2 => ?_⟩
    have M : Keep (fun p => p ∈ ms) H4 A2 := ⟨by omega, fun p _ h => hb2 p h⟩
    rw [hQ]
    exact ⟨hO.keepM M hm4, (K03.trans K4).trans' M (fun j hj h => by have := (hmk j h).1; omega)⟩
end Go.Mg

namespace Go.Mg
open Go Go.RowKit
set_option linter.unusedSimpArgs false
set_option linter.unusedVariables false
set_option maxRecDepth 100000

theorem ogiven_nil {P : Program} {ι : Ids} {k : FuncId} (hk : FnIsR P k (c_ogiven ι) r_ogiven 2 49) (kv : Value) (H : Hp) : CallsM P k #[.pointer none, kv] H fun r H' => r = .pointer none ∧ Keep (fun _ => False) H H' := by
  refine calls_of_vcR hk (args := [_, _]) (by simp) ?_
  unfold c_ogiven r_ogiven
  simp only [go_sem, List.map_cons, List.map_nil, ↓reduceIte, Nat.reduceEqDiff, Nat.reduceAdd, Nat.reduceMul, reduceCtorEq, and_true, true_and, Nat.mul_one, Nat.zero_add, Bool.false_eq_true, decide_true, decide_false, not_false_eq_true]
  refine kont_new fun H1 b3 e3 z3 B3 K1 => ?_
  simp only [go_sem, List.map_cons, List.map_nil, ↓reduceIte, Nat.reduceEqDiff, Nat.reduceAdd, Nat.reduceMul, reduceCtorEq, and_true, true_and, Nat.mul_one, Nat.zero_add, Bool.false_eq_true, decide_true, decide_false, not_false_eq_true, kont_eq]
  refine ⟨List.nodup_nil, fun H' h1 h2 => ?_⟩
  exact K1.trans ⟨by omega, fun q _ _ => h2 q⟩
noncomputable def redO : OO → OO | none => none | some o => some (o.1, redR o.1 o.2)
noncomputable def cloO : OO → OO | none => none | some o => some (o.1, tcB o.2)
def ORedSpec (P : Program) (ι : Ids) (k : FuncId) (f : OO → OO) : Prop := ∀ (o : OO) (v : Value) (H : Hp), TabOk ι H → OrdO H v o → CallsM P k #[v] H fun r H' => OrdO H' r (f o) ∧ Keep (fun _ => False) H H'
theorem oclo_ok {P : Program} {ι : Ids} {k : FuncId} (hk : FnIs P k (c_oclo ι) r_oclo 1) (hg : OGivSpec P ι (ι.f 236)) (hgn : ∀ kv H, CallsM P (ι.f 236) #[.pointer none, kv] H fun r H' => r = .pointer none ∧ Keep (fun _ => False) H H') (hb : bodyOk P (ι.f 238) = true) (h1 : FnIs P (ι.f 238) (c_oclo1 ι) r_oclo1 2) : ORedSpec P ι k cloO := by
  intro o v H hT hv
  refine calls_of_vc hk (args := [_]) (by simp) ?_
  unfold c_oclo r_oclo
  cases o with
  | none =>
    have hv : v = .pointer none := hv
    subst hv
    simp only [go_sem, List.map_cons, List.map_nil, ↓reduceIte, Nat.reduceEqDiff, Nat.reduceAdd, Nat.reduceMul, reduceCtorEq, and_true, true_and, Nat.mul_one, Nat.zero_add, Bool.false_eq_true, decide_true, decide_false, not_false_eq_true, kont_eq]
    refine (hgn _ H).mono ?_
    rintro r H1 ⟨rfl, K1⟩
    simp only [go_sem, List.map_cons, List.map_nil, ↓reduceIte, Nat.reduceEqDiff, Nat.reduceAdd, Nat.reduceMul, reduceCtorEq, and_true, true_and, Nat.mul_one, Nat.zero_add, Bool.false_eq_true, decide_true, decide_false, not_false_eq_true, kont_eq]
    exact ⟨rfl, K1⟩
  | some o =>
    obtain ⟨n, R⟩ := o
    simp only [go_sem, List.map_cons, List.map_nil, ↓reduceIte, Nat.reduceEqDiff, Nat.reduceAdd, Nat.reduceMul, reduceCtorEq, and_true, true_and, Nat.mul_one, Nat.zero_add, Bool.false_eq_true, decide_true, decide_false, not_false_eq_true, kont_eq]
    refine (hg n R v _ (fun _ _ => true) H hT hv ⟨_, _, _, rfl, hb, fun A KA x y hx hy => ?_⟩).mono ?_
    · show CallsM P _ #[.int .i64 (x : Int), .int .i64 (y : Int)] A _
      refine calls_of_vc h1 (args := [_, _]) (by simp) ?_
      unfold c_oclo1 r_oclo1
      simp only [go_sem, List.map_cons, List.map_nil, ↓reduceIte, Nat.reduceEqDiff, Nat.reduceAdd, Nat.reduceMul, reduceCtorEq, and_true, true_and, Nat.mul_one, Nat.zero_add, Bool.false_eq_true, decide_true, decide_false, not_false_eq_true, kont_eq]
      exact Keep.refl _ _
    · rintro r H1 ⟨hO, K1⟩
      simp only [go_sem, List.map_cons, List.map_nil, ↓reduceIte, Nat.reduceEqDiff, Nat.reduceAdd, Nat.reduceMul, reduceCtorEq, and_true, true_and, Nat.mul_one, Nat.zero_add, Bool.false_eq_true, decide_true, decide_false, not_false_eq_true, kont_eq]
      refine ⟨?_, K1⟩
      have e : keepR R (fun _ _ => true) = tcB R := by funext x y; unfold keepR; simp
      rw [e] at hO
      exact hO
theorem ored_ok {P : Program} {ι : Ids} {k : FuncId} (hk : FnIs P k (c_ored ι) r_ored 1) (hg : OGivSpec P ι (ι.f 236)) (hgn : ∀ kv H, CallsM P (ι.f 236) #[.pointer none, kv] H fun r H' => r = .pointer none ∧ Keep (fun _ => False) H H') (hb : bodyOk P (ι.f 237) = true) (h1 : FnIs P (ι.f 237) (c_ored1 ι) r_ored1 3) (hm : BMeetsSpec P (ι.f 233)) : ORedSpec P ι k redO := by
  intro o v H hT hv
  obtain ⟨Q, hQ⟩ : ∃ Q : Value → Hp → Prop, Q = fun r H' => OrdO H' r (redO o) ∧ Keep (fun _ => False) H H' := ⟨_, rfl⟩
  rw [← hQ]
  refine calls_of_vc hk (args := [_]) (by simp) ?_
  unfold c_ored r_ored
  simp only [go_sem, List.map_cons, List.map_nil, ↓reduceIte, Nat.reduceEqDiff, Nat.reduceAdd, Nat.reduceMul, reduceCtorEq, and_true, true_and, Nat.mul_one, Nat.zero_add, Bool.false_eq_true, decide_true, decide_false, not_false_eq_true]
  cases o with
  | none =>
    have hv : v = .pointer none := hv
    subst hv
    refine kont_new fun H1 b1 e1 z1 B1 K1 => ?_
    have c1 : cell H1 ⟨b1, 0, none⟩ = some (.pointer none) := by rw [B1.cell]; rfl
    simp only [go_sem, List.map_cons, List.map_nil, ↓reduceIte, Nat.reduceEqDiff, Nat.reduceAdd, Nat.reduceMul, reduceCtorEq, and_true, true_and, Nat.mul_one, Nat.zero_add, Bool.false_eq_true, decide_true, decide_false, not_false_eq_true, kont_eq, c1]
    refine (hgn _ H1).mono ?_
    rintro r H2 ⟨rfl, K2⟩
    simp only [go_sem, List.map_cons, List.map_nil, ↓reduceIte, Nat.reduceEqDiff, Nat.reduceAdd, Nat.reduceMul, reduceCtorEq, and_true, true_and, Nat.mul_one, Nat.zero_add, Bool.false_eq_true, decide_true, decide_false, not_false_eq_true, kont_eq]
    rw [hQ]
    exact ⟨rfl, K1.trans K2⟩
  | some o =>
    obtain ⟨n, R⟩ := o
    have hv' := hv
    obtain ⟨hn, hR, hA, b, pv, sv, ab, bb, avs, bvs, C, rfl, g1, g2, g3, g4, g5⟩ := hv'
    refine kont_new fun H1 b1 e1 z1 B1 K1 => ?_
    have c1 : cell H1 ⟨b1, 0, none⟩ = some (.pointer (some ⟨b, 0, none⟩)) := by rw [B1.cell]; rfl
    simp only [go_sem, List.map_cons, List.map_nil, ↓reduceIte, Nat.reduceEqDiff, Nat.reduceAdd, Nat.reduceMul, reduceCtorEq, and_true, true_and, Nat.mul_one, Nat.zero_add, Bool.false_eq_true, decide_true, decide_false, not_false_eq_true, kont_eq, c1]
    refine (hg n R _ _ (fun x y => !btw n (tcB R) x y) H1 (hT.keep K1) (OrdV.keep0 hv K1) ⟨_, _, _, rfl, hb, fun A KA x y hx hy => ?_⟩).mono ?_
    · show CallsM P _ #[.int .i64 (x : Int), .int .i64 (y : Int), .pointer (some ⟨b1, 0, none⟩)] A _
      refine calls_of_vc h1 (args := [_, _, _]) (by simp) ?_
      unfold c_ored1 r_ored1
      have K0A := K1.trans KA
      have d1 : cell A ⟨b1, 0, none⟩ = some (.pointer (some ⟨b, 0, none⟩)) := by rw [(KA.bl B1 (by simp)).cell]; rfl
      have gA := K0A.bl g1 (by simp)
      have d2 : cell A ⟨b, 2, none⟩ = some (.slice (some ⟨ab, 0, none⟩) n n) := by rw [gA.cell]; rfl
      have d3 : cell A ⟨b, 3, none⟩ = some (.slice (some ⟨bb, 0, none⟩) n n) := by rw [gA.cell]; rfl
      have G3 := g3.keep K0A (by simp) (by simp)
      have G4 := g4.keep K0A (by simp) (by simp)
      simp only [go_sem, List.map_cons, List.map_nil, ↓reduceIte, Nat.reduceEqDiff, Nat.reduceAdd, Nat.reduceMul, reduceCtorEq, and_true, true_and, Nat.mul_one, Nat.zero_add, Bool.false_eq_true, decide_true, decide_false, not_false_eq_true, kont_eq, d1, d2, d3, tn_cast, Nat.mul_one, Nat.zero_add, ldNO_ptr, G3.ld hy, G4.ld hx]
      refine ⟨by omega, by omega, ?_⟩
      refine (hm _ _ _ _ A (G4.at_ x hx) (G3.at_ y hy)).mono ?_
      rintro r A1 ⟨⟨t, rfl, ht⟩, K2⟩
      simp only [go_sem, List.map_cons, List.map_nil, ↓reduceIte, Nat.reduceEqDiff, Nat.reduceAdd, Nat.reduceMul, reduceCtorEq, and_true, true_and, Nat.mul_one, Nat.zero_add, Bool.false_eq_true, decide_true, decide_false, not_false_eq_true, kont_eq]
      refine ⟨?_, K2⟩
      congr 2
      rw [Bool.eq_iff_iff, ht, btw_iff]
      constructor
      · rintro ⟨z, h1, h2⟩; exact ⟨z, (hR.tc (tcB_iff.1 h1)).2, h1, h2⟩
      · rintro ⟨z, _, h1, h2⟩; exact ⟨z, h1, h2⟩
    · rintro r H2 ⟨hO, K2⟩
      simp only [go_sem, List.map_cons, List.map_nil, ↓reduceIte, Nat.reduceEqDiff, Nat.reduceAdd, Nat.reduceMul, reduceCtorEq, and_true, true_and, Nat.mul_one, Nat.zero_add, Bool.false_eq_true, decide_true, decide_false, not_false_eq_true, kont_eq]
      rw [hQ]
      exact ⟨hO, K1.trans K2⟩
end Go.Mg

namespace Go.Mg
open Go Go.RowKit
set_option linter.unusedSimpArgs false
set_option linter.unusedVariables false
set_option maxRecDepth 100000
/- order.empty -/
/- (ptr order.Order).Tops -/
/- (ptr order.Order).Bottoms -/
/- (ptr order.Order).Height -/
def c_oheight (ι : Ids) : S :=
  .seq (.reg [.p (.v 2) (.mv (.c (.int .i64 0)))]) (.seq (.seq (.reg [.p (.t 8) (.mv (.v 0)), .p (.v 9) (.m (.eqn .ptr false (.t 8)))]) (.ite (.v 9) (.seq (.reg [.p (.v 2) (.mv (.c (.int .i64 0)))])
  .ret) .skip)) (.seq (.reg [.p (.v 3) (.mv (.c (.int .i64 0)))]) (.seq (.reg [.p (.t 10) (.mv (.v 0)), .p (.t 11) (.nil (.t 10)), .p (.t 12) (.fa 0 (.t 11)), .p (.t 13) (.ld (.t 12)), .e (.t 14) (.mkS
  (ι.t 26) 1 8 #[.int .i64 0] (.t 13) (.t 13)), .e (.v 4) (.new (ι.t 138) #[.slice .none 0 0]), .e .no (.st (.v 4) (.t 14))]) (.seq (.seq (.reg [.p (.t 15) (.mv (.v 0)), .p (.t 16) (.nil (.t 15)), .p
  (.t 17) (.fa 4 (.t 16)), .p (.v 18) (.ld (.t 17)), .p (.v 19) (.m (.lenl (.v 18))), .p (.v 20) (.mv (.c (.int .i64 0)))]) (.blk 0 (.loop (.seq (.reg [.p (.v 21) (.cm .lss .i64 (.v 20) (.v 19))]) (.seq
  (.ite (.v 21) .skip (.exit 0)) (.seq (.blk 1 (.seq (.reg [.p (.t 22) (.is 1 (.v 18) (.v 20)), .p (.t 23) (.ld (.t 22)), .e (.v 6) (.new (ι.t 26) #[.int .i64 0]), .e .no (.st (.v 6) (.t 23))]) (.seq
  (.seq (.reg [.p (.t 24) (.mv (.v 0)), .p (.t 25) (.nil (.t 24)), .p (.t 26) (.fa 2 (.t 25)), .p (.t 27) (.ld (.t 26)), .p (.t 28) (.ld (.v 6)), .p (.t 29) (.is 1 (.t 27) (.t 28)), .p (.t 30) (.m (.ldn
  1 (.t 29))), .e (.v 31) (.call (ι.f 137) [.t 30])]) (.blk 2 (.rf 59 (.v 31) 32 7 (.blk 3 (.dr (.px (.t 33) .none (.ld (.v 4)) (.px (.t 34) .none (.ld (.v 6)) (.px (.t 35) .none (.ld (.v 4)) (.px (.t
  36) .none (.ld (.v 6)) (.px (.t 37) .none (.is 1 (.t 35) (.t 36)) (.px (.t 39) .none (.ld (.v 4)) (.px (.t 40) .none (.mv (.v 7)) (.px (.t 41) .none (.is 1 (.t 39) (.t 40)) (.wcons (.t 38) .none (.rd
  (.ld (.t 37))) (.wcons (.t 42) .none (.rd (.ld (.t 41))) (.px (.t 43) .none (.m (.mx (.t 38) (.t 42))) (.px (.t 44) .none (.is 1 (.t 33) (.t 34)) (.wcons .no .none (.st (.t 44) (.t 43)) .done .wnil)))
  .wnil) (.wcons (.t 42) .none (.rd (.ld (.t 41))) (.wcons (.t 38) .none (.rd (.ld (.t 37))) (.px (.t 43) .none (.m (.mx (.t 38) (.t 42))) (.px (.t 44) .none (.is 1 (.t 33) (.t 34)) (.wcons .no .none
  (.st (.t 44) (.t 43)) .done .wnil))) .wnil) .wnil))))))))))))))) (.seq (.reg [.p (.t 45) (.ld (.v 4)), .p (.t 46) (.ld (.v 6)), .p (.t 47) (.is 1 (.t 45) (.t 46)), .p (.t 48) (.ld (.t 47)), .p (.t 49)
  (.ar .add .i64 (.t 48) (.c (.int .i64 1))), .p (.t 50) (.is 1 (.t 45) (.t 46)), .e .no (.st (.t 50) (.t 49))]) (.reg [.p (.t 51) (.mv (.v 3)), .p (.t 52) (.ld (.v 4)), .p (.t 53) (.ld (.v 6)), .p (.t
  54) (.is 1 (.t 52) (.t 53)), .p (.t 55) (.ld (.t 54)), .p (.t 56) (.m (.mx (.t 51) (.t 55))), .p (.v 3) (.mv (.t 56))]))))) (.reg [.p (.t 57) (.ar .add .i64 (.v 20) (.c (.int .i64 1))), .p (.v 20)
  (.mv (.t 57))]))))))) (.seq (.reg [.p (.t 58) (.mv (.v 3)), .p (.v 2) (.mv (.t 58))]) .ret)))))
def r_oheight : List RV := [.t 2]

end Go.Mg

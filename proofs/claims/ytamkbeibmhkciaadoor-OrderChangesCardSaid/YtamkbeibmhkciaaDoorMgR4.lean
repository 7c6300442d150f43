/- Several texts of ours in one. No conditions. -/
import Derived.Test.YtamkbeibmhkciaaDoorMgPE
namespace Go.Mg
open Go Go.RowKit
set_option linter.unusedSimpArgs false
set_option linter.unusedVariables false
set_option maxRecDepth 100000
/- arbacref06.Given -/
def c_rgiv (ι : Ids) : S :=
  .seq (.reg [.e (.v 3) (.box (ι.t 246) (.v 0)), .p (.v 6) (.mv (.c (.bool false)))]) (.seq (.seq (.reg [.p (.t 9) (.fa 1 (.v 3)), .p (.v 10) (.ld (.t 9)), .p (.v 11) (.m (.lenl (.v 10))), .p (.v 12)
  (.mv (.c (.int .i64 0)))]) (.blk 0 (.loop (.seq (.reg [.p (.v 13) (.cm .lss .i64 (.v 12) (.v 11))]) (.seq (.ite (.v 13) .skip (.exit 0)) (.seq (.blk 1 (.seq (.reg [.p (.t 14) (.is 2 (.v 10) (.v 12)),
  .p (.t 15) (.m (.ldn 2 (.t 14))), .e (.v 8) (.new (ι.t 194) #[.int .i64 0, .int .i64 0]), .e .no (.stn 2 (.v 8) (.t 15))]) (.seq (.reg [.p (.t 16) (.ia 2 1 (.v 8) (.c (.int .i64 0))), .p (.t 17) (.ld
  (.t 16)), .p (.t 18) (.mv (.v 1)), .p (.t 19) (.cm .eql .i64 (.t 17) (.t 18)), .p (.t 20) (.mv (.t 19)), .gp (.t 21) (.t 20) true (.ia 2 1 (.v 8) (.c (.int .i64 1))), .gp (.t 22) (.t 20) true (.ld (.t
  21)), .gp (.t 23) (.t 20) true (.mv (.v 2)), .gp (.t 24) (.t 20) true (.cm .eql .i64 (.t 22) (.t 23)), .p (.v 25) (.pick (.t 20) (.t 24) (.c (.bool false)))]) (.ite (.v 25) (.seq (.reg [.p (.v 6) (.mv
  (.c (.bool true)))]) .ret) .skip)))) (.reg [.p (.t 26) (.ar .add .i64 (.v 12) (.c (.int .i64 1))), .p (.v 12) (.mv (.t 26))]))))))) (.seq (.reg [.p (.v 6) (.mv (.c (.bool false)))]) .ret))
def r_rgiv : List RV := [.t 6]


def RGivSpec (P : Program) (k : FuncId) : Prop := ∀ (n a b : Int) (pv : Value) (L : List NP) (H : Hp), SlE nE 2 H pv L → L.length ≤ 1000000 → CallsM P k #[.agg #[.int .i64 n, pv], .int .i64 a, .int .i64 b] H fun r H' => r = .bool (decide ((a, b) ∈ L.map toI)) ∧ Keep (fun _ => False) H H'
theorem rgiv_ok {P : Program} {ι : Ids} {k : FuncId} (hk : FnIs P k (c_rgiv ι) r_rgiv 3) : RGivSpec P k := by
  intro n a b pv L H hp hL
  obtain ⟨Q, hQ⟩ : ∃ Q : Value → Hp → Prop, Q = fun r H' => r = .bool (decide ((a, b) ∈ L.map toI)) ∧ Keep (fun _ => False) H H' := ⟨_, rfl⟩
  rw [← hQ]
  refine calls_of_vc hk (args := [_, _, _]) (by simp) ?_
  unfold c_rgiv r_rgiv
  simp only [go_sem, List.map_cons, List.map_nil, ↓reduceIte, Nat.reduceEqDiff, Nat.reduceAdd, Nat.reduceMul, reduceCtorEq, and_true, true_and, Nat.mul_one, Nat.zero_add, Bool.false_eq_true, decide_true, decide_false, not_false_eq_true]
  refine kont_new fun H1 b1 e1 z1 B1 K1 => ?_
  have s1 := K1.size
  have B1' : Bl H1 b1 [.int .i64 n, pv] := B1
  have c11 : cell H1 ⟨b1, 1, none⟩ = some pv := by rw [B1'.cell]; rfl
  have p1 := hp.keep K1 (by simp)
  simp only [go_sem, List.map_cons, List.map_nil, ↓reduceIte, Nat.reduceEqDiff, Nat.reduceAdd, Nat.reduceMul, reduceCtorEq, and_true, true_and, Nat.mul_one, Nat.zero_add, Bool.false_eq_true, decide_true, decide_false, not_false_eq_true, kont_eq, c11, p1.isSl, p1.lenS, p1.len]
  refine vc_loop [13, 8, 25, 6, 12] rfl (fun m g A => ∃ q : Nat, q ≤ L.length ∧ m = L.length - q ∧ g 12 = .int .i64 (q : Int) ∧ (∀ i < q, toI (at0 L i) ≠ (a, b)) ∧ Keep (fun _ => False) H1 A) L.length ?_ ?_
  · exact ⟨0, by omega, by omega, by simp only [go_sem, List.map_cons, List.map_nil, ↓reduceIte, Nat.reduceEqDiff, Nat.reduceAdd, Nat.reduceMul, reduceCtorEq, and_true, true_and, Nat.mul_one, Nat.zero_add, Bool.false_eq_true, decide_true, decide_false, not_false_eq_true, kont_eq]; rfl, fun i hi => by omega, Keep.refl _ _⟩
  rintro m f H2 ⟨q, hq, rfl, hf, hno, K2⟩
  have s2 := K2.size
  simp only [go_sem, List.map_cons, List.map_nil, ↓reduceIte, Nat.reduceEqDiff, Nat.reduceAdd, Nat.reduceMul, reduceCtorEq, and_true, true_and, Nat.mul_one, Nat.zero_add, Bool.false_eq_true, decide_true, decide_false, not_false_eq_true, kont_eq] at hf
  simp only [go_sem, List.map_cons, List.map_nil, ↓reduceIte, Nat.reduceEqDiff, Nat.reduceAdd, Nat.reduceMul, reduceCtorEq, and_true, true_and, Nat.mul_one, Nat.zero_add, Bool.false_eq_true, decide_true, decide_false, not_false_eq_true, hf]
  refine iteV_dec (fun hlt => ?_) (fun hge => ?_)
  · have hlt : q < L.length := by omega
    have p2 := p1.keep K2 (by simp)
    obtain ⟨pb, po, pc, rfl, hpq, hld⟩ := p2.elem nE_len hlt
    rw [← at0_eq hlt] at hld
    have hld' : ldNA H2 ⟨pb, po + q * 2, none⟩ 2 = some #[.int .i64 ((at0 L q).1 : Int), .int .i64 ((at0 L q).2 : Int)] := hld
    have hmem : at0 L q ∈ L := by rw [at0_eq hlt]; exact List.getElem_mem _
    obtain ⟨u, y, huy⟩ : ∃ u y, at0 L q = (u, y) := ⟨_, _, rfl⟩
    have hto' : toI (at0 L q) = ((u : Int), (y : Int)) := by rw [huy]; rfl
    rw [huy] at hld' hmem
    have hld' : ldNA H2 ⟨pb, po + q * 2, none⟩ 2 = some #[.int .i64 (u : Int), .int .i64 (y : Int)] := hld'
    simp only [go_sem, List.map_cons, List.map_nil, ↓reduceIte, Nat.reduceEqDiff, Nat.reduceAdd, Nat.reduceMul, reduceCtorEq, and_true, true_and, Nat.mul_one, Nat.zero_add, Bool.false_eq_true, decide_true, decide_false, not_false_eq_true, fillV_nil, fillV_cons, okFill_nil, okFill_cons, cells_slice, cells_int, cells_bool, cells_str, cells_ptr, cells_agg, stNH_ptr, okN_ptr, wrA1, wrA20, wrA21, tn_cast, ldNO_ptr, hld']
    refine ⟨by omega, ?_⟩
    refine kont_new fun H3 b3 e3 z3 B3 K3 => ?_
    have s3 := K3.size
    have hst := B3.okNA (o := 0) (n := 2) (by simp)
    have B4 := B3.stNA 0 [.int .i64 (u : Int), .int .i64 (y : Int)]
    have K4 : Keep (fun q => q = b3) H3 (stNA H3 ⟨b3, 0, none⟩ [.int .i64 (u : Int), .int .i64 (y : Int)]) := (Keep.refl _ _).stNA _ (.inl rfl)
    simp only [go_sem, List.map_cons, List.map_nil, ↓reduceIte, Nat.reduceEqDiff, Nat.reduceAdd, Nat.reduceMul, reduceCtorEq, and_true, true_and, Nat.mul_one, Nat.zero_add, Bool.false_eq_true, decide_true, decide_false, not_false_eq_true, fillV_nil, fillV_cons, okFill_nil, okFill_cons, cells_slice, cells_int, cells_bool, cells_str, cells_ptr, cells_agg, stNH_ptr, okN_ptr, wrA1, wrA20, wrA21, hst]
    rw [kont_eq]
    generalize stNA H3 ⟨b3, 0, none⟩ [.int .i64 (u : Int), .int .i64 (y : Int)] = H4 at B4 K4 ⊢
    have s4 := K4.size
    have K24 : Keep (fun _ => False) H2 H4 := K3.to_old K4 (by omega)
    have cx : cell H4 ⟨b3, 0, none⟩ = some (.int .i64 (u : Int)) := by rw [B4.cell]; rfl
    have cy : cell H4 ⟨b3, 1, none⟩ = some (.int .i64 (y : Int)) := by rw [B4.cell]; rfl
    have ha1 : all1 #[Value.int .i64 (u : Int), Value.int .i64 (y : Int)] := fun w hw => by simp at hw; rcases hw with rfl | rfl <;> rfl
    have K04 := K1.trans (K2.trans K24)
    have fin : ∀ v : Value, v = .int .i64 ((q : Int) + 1) → ¬ ((u : Int) = a ∧ (y : Int) = b) → ∃ k < L.length - q, ∃ q' : Nat, q' ≤ L.length ∧ k = L.length - q' ∧ v = .int .i64 (q' : Int) ∧ (∀ i < q', toI (at0 L i) ≠ (a, b)) ∧ Keep (fun _ => False) H1 H4 := fun v hv hne =>
      ⟨L.length - (q + 1), by omega, q + 1, by omega, rfl, hv, fun i hi => by
        rcases Nat.lt_or_ge i q with h | h
        · exact hno i h
        · have : i = q := by omega
          subst this
          rw [hto']; intro e; injection e with e1 e2; exact hne ⟨e1, e2⟩, K2.trans K24⟩
    by_cases h1 : (u : Int) = a
    · have e1 : ((u : Int) == a) = true := by simp [h1]
      by_cases h2 : (y : Int) = b
      · have e2 : ((y : Int) == b) = true := by simp [h2]
        simp (disch := omega) only [go_sem, List.map_cons, List.map_nil, ↓reduceIte, Nat.reduceEqDiff, Nat.reduceAdd, Nat.reduceMul, reduceCtorEq, and_true, true_and, Nat.mul_one, Nat.zero_add, Bool.false_eq_true, decide_true, decide_false, not_false_eq_true, kont_eq, fillV_nil, fillV_cons, okFill_nil, okFill_cons, cells_slice, cells_int, cells_bool, cells_str, cells_ptr, cells_agg, stNH_ptr, okN_ptr, wrA1, wrA20, wrA21, ha1, hf, cx, cy, e1, e2, tn_cast, Nat.mul_one, Nat.zero_add, IntWalk.i64_in]
        refine ⟨⟨by omega, by omega⟩, ⟨by omega, by omega⟩, ?_⟩
        rw [hQ]
        refine ⟨?_, K04⟩
        congr 1
        symm
        refine decide_eq_true (List.mem_map.2 ⟨(u, y), hmem, ?_⟩)
        show ((u : Int), (y : Int)) = (a, b)
        rw [h1, h2]
      · have e2 : ((y : Int) == b) = false := by simp [h2]
        simp (disch := omega) only [go_sem, List.map_cons, List.map_nil, ↓reduceIte, Nat.reduceEqDiff, Nat.reduceAdd, Nat.reduceMul, reduceCtorEq, and_true, true_and, Nat.mul_one, Nat.zero_add, Bool.false_eq_true, decide_true, decide_false, not_false_eq_true, kont_eq, fillV_nil, fillV_cons, okFill_nil, okFill_cons, cells_slice, cells_int, cells_bool, cells_str, cells_ptr, cells_agg, stNH_ptr, okN_ptr, wrA1, wrA20, wrA21, ha1, hf, cx, cy, e1, e2, tn_cast, Nat.mul_one, Nat.zero_add, IntWalk.i64_in]
        exact ⟨⟨by omega, by omega⟩, ⟨by omega, by omega⟩, fin _ rfl fun h => h2 h.2⟩
    · have e1 : ((u : Int) == a) = false := by simp [h1]
      simp (disch := omega) only [go_sem, List.map_cons, List.map_nil, ↓reduceIte, Nat.reduceEqDiff, Nat.reduceAdd, Nat.reduceMul, reduceCtorEq, and_true, true_and, Nat.mul_one, Nat.zero_add, Bool.false_eq_true, decide_true, decide_false, not_false_eq_true, kont_eq, fillV_nil, fillV_cons, okFill_nil, okFill_cons, cells_slice, cells_int, cells_bool, cells_str, cells_ptr, cells_agg, stNH_ptr, okN_ptr, wrA1, wrA20, wrA21, ha1, hf, cx, cy, e1, tn_cast, Nat.mul_one, Nat.zero_add, IntWalk.i64_in]
      exact ⟨⟨by omega, by omega⟩, fin _ rfl fun h => h1 h.1⟩
  · have hqe : q = L.length := by omega
    rw [hQ]
    refine ⟨?_, K1.trans K2⟩
    congr 1
    symm
    refine decide_eq_false fun h => ?_
    obtain ⟨p, hp, e⟩ := List.mem_map.1 h
    obtain ⟨i, hi, rfl⟩ := List.getElem_of_mem hp
    exact hno i (by omega) (by rw [at0_eq hi]; exact e)
end Go.Mg

namespace Go.Mg
open Go Go.RowKit
set_option linter.unusedSimpArgs false
set_option linter.unusedVariables false
set_option maxRecDepth 100000
/- arbacref06.above -/
def c_rabv (ι : Ids) : S :=
  .seq (.reg [.e (.v 1) (.box (ι.t 246) (.v 0)), .p (.v 2) (.mv (.c (.slice .none 0 0)))]) (.seq (.reg [.p (.v 3) (.mv (.c (.slice .none 0 0)))]) (.seq (.seq (.reg [.p (.v 4) (.mv (.c (.int .i64 0)))])
  (.blk 0 (.loop (.seq (.seq (.reg [.p (.t 10) (.mv (.v 4)), .p (.t 11) (.fa 0 (.v 1)), .p (.t 12) (.ld (.t 11)), .p (.v 13) (.cm .lss .i64 (.t 10) (.t 12))]) (.ite (.v 13) .skip (.exit 0))) (.seq (.blk
  1 (.seq (.reg [.p (.v 5) (.mv (.c (.slice .none 0 0)))]) (.seq (.seq (.reg [.p (.v 6) (.mv (.c (.int .i64 0)))]) (.blk 2 (.loop (.seq (.seq (.reg [.p (.t 16) (.mv (.v 6)), .p (.t 17) (.fa 0 (.v 1)),
  .p (.t 18) (.ld (.t 17)), .p (.v 19) (.cm .lss .i64 (.t 16) (.t 18))]) (.ite (.v 19) .skip (.exit 2))) (.seq (.blk 3 (.reg [.p (.t 22) (.mv (.v 5)), .p (.t 23) (.m (.ldn 2 (.v 1))), .p (.t 24) (.mv
  (.v 4)), .p (.t 25) (.mv (.v 6)), .e (.t 26) (.call (ι.f 247) [.t 23, .t 24, .t 25]), .e (.t 27) (.bldF (ι.t 151) 1 1 [.t 26]), .e (.t 28) (.app false (ι.t 151) 1 1 #[.bool false] (.t 22) (.t 27)), .p
  (.v 5) (.mv (.t 28))])) (.reg [.p (.t 20) (.mv (.v 6)), .p (.t 21) (.ar .add .i64 (.t 20) (.c (.int .i64 1))), .p (.v 6) (.mv (.t 21))])))))) (.reg [.p (.t 29) (.mv (.v 3)), .p (.t 30) (.mv (.v 5)),
  .e (.t 31) (.bldF (ι.t 248) 1 1 [.t 30]), .e (.t 32) (.app false (ι.t 248) 1 24 #[.slice .none 0 0] (.t 29) (.t 31)), .p (.v 3) (.mv (.t 32))])))) (.reg [.p (.t 14) (.mv (.v 4)), .p (.t 15) (.ar .add
  .i64 (.t 14) (.c (.int .i64 1))), .p (.v 4) (.mv (.t 15))])))))) (.seq (.seq (.reg [.p (.v 7) (.mv (.c (.int .i64 0)))]) (.blk 4 (.loop (.seq (.seq (.reg [.p (.t 33) (.mv (.v 7)), .p (.t 34) (.fa 0
  (.v 1)), .p (.t 35) (.ld (.t 34)), .p (.v 36) (.cm .lss .i64 (.t 33) (.t 35))]) (.ite (.v 36) .skip (.exit 4))) (.seq (.blk 5 (.seq (.reg [.p (.v 8) (.mv (.c (.int .i64 0)))]) (.blk 6 (.loop (.seq
  (.seq (.reg [.p (.t 39) (.mv (.v 8)), .p (.t 40) (.fa 0 (.v 1)), .p (.t 41) (.ld (.t 40)), .p (.v 42) (.cm .lss .i64 (.t 39) (.t 41))]) (.ite (.v 42) .skip (.exit 6))) (.seq (.blk 7 (.seq (.reg [.p
  (.v 9) (.mv (.c (.int .i64 0)))]) (.blk 8 (.loop (.seq (.seq (.reg [.p (.t 45) (.mv (.v 9)), .p (.t 46) (.fa 0 (.v 1)), .p (.t 47) (.ld (.t 46)), .p (.v 48) (.cm .lss .i64 (.t 45) (.t 47))]) (.ite (.v
  48) .skip (.exit 8))) (.seq (.blk 9 (.seq (.reg [.p (.t 51) (.mv (.v 3)), .p (.t 52) (.mv (.v 8)), .p (.t 53) (.is 1 (.t 51) (.t 52)), .p (.t 54) (.ld (.t 53)), .p (.t 55) (.mv (.v 7)), .p (.t 56)
  (.is 1 (.t 54) (.t 55)), .p (.t 57) (.ld (.t 56)), .p (.t 58) (.mv (.t 57)), .gp (.t 59) (.t 58) true (.mv (.v 3)), .gp (.t 60) (.t 58) true (.mv (.v 7)), .gp (.t 61) (.t 58) true (.is 1 (.t 59) (.t
  60)), .gp (.t 62) (.t 58) true (.ld (.t 61)), .gp (.t 63) (.t 58) true (.mv (.v 9)), .gp (.t 64) (.t 58) true (.is 1 (.t 62) (.t 63)), .gp (.t 65) (.t 58) true (.ld (.t 64)), .p (.v 66) (.pick (.t 58)
  (.t 65) (.c (.bool false)))]) (.ite (.v 66) (.reg [.p (.t 67) (.mv (.v 3)), .p (.t 68) (.mv (.v 8)), .p (.t 69) (.is 1 (.t 67) (.t 68)), .p (.t 70) (.ld (.t 69)), .p (.t 71) (.mv (.v 9)), .p (.t 72)
  (.is 1 (.t 70) (.t 71)), .e .no (.st (.t 72) (.c (.bool true)))]) .skip))) (.reg [.p (.t 49) (.mv (.v 9)), .p (.t 50) (.ar .add .i64 (.t 49) (.c (.int .i64 1))), .p (.v 9) (.mv (.t 50))]))))))) (.reg
  [.p (.t 43) (.mv (.v 8)), .p (.t 44) (.ar .add .i64 (.t 43) (.c (.int .i64 1))), .p (.v 8) (.mv (.t 44))]))))))) (.reg [.p (.t 37) (.mv (.v 7)), .p (.t 38) (.ar .add .i64 (.t 37) (.c (.int .i64 1))),
  .p (.v 7) (.mv (.t 38))])))))) (.seq (.reg [.p (.t 73) (.mv (.v 3)), .p (.v 2) (.mv (.t 73))]) .ret))))
def r_rabv : List RV := [.t 2]

theorem bL_app (a b : List Bool) : bL (a ++ b) = bL a ++ bL b := by simp [bL]
theorem bL_all1 (l : List Bool) : all1 (bL l).toArray := by
  intro x hx
  simp [bL] at hx
  rcases hx with ⟨_, rfl⟩ | ⟨_, rfl⟩ <;> rfl
def rowB (n : Nat) (f : Nat → Nat → Bool) (x : Nat) : List Bool := (List.range n).map (f x)
theorem rowB_len (n : Nat) (f : Nat → Nat → Bool) (x : Nat) : (rowB n f x).length = n := by simp [rowB]
/-- a slice of m rows of n truth values, each row owned apart -/
structure TabV (H : Hp) (v : Value) (m n : Nat) (f : Nat → Nat → Bool) (vs : List Value) (B : Nat) : Prop where
  ow : OwS H v vs
  len : vs.length = m
  at_ : ∀ i, i < m → OwS H (vs.getD i undef) (bL (rowB n f i))
  gev : ∀ q, ownB v q → B ≤ q
  ge : ∀ i, i < m → ∀ q, ownB (vs.getD i undef) q → B ≤ q
  dv : ∀ i, i < m → ∀ q, ownB (vs.getD i undef) q → ¬ ownB v q
  dj : ∀ i j, i < m → j < m → i ≠ j → ∀ q, ownB (vs.getD i undef) q → ¬ ownB (vs.getD j undef) q
theorem TabV.nil (H : Hp) (n : Nat) (f : Nat → Nat → Bool) (B : Nat) : TabV H (.slice none 0 0) 0 n f [] B :=
  ⟨OwS.nil _, rfl, fun i h => by omega, fun q h => h.elim, fun i h => by omega, fun i h => by omega, fun i j h => by omega⟩
theorem TabV.keep {W : Nat → Prop} {H H' : Hp} {v : Value} {m n : Nat} {f : Nat → Nat → Bool} {vs : List Value} {B : Nat} (h : TabV H v m n f vs B) (hk : Keep W H H') (hw : ∀ q, B ≤ q → q < H.size → ¬ W q) : TabV H' v m n f vs B :=
  ⟨h.ow.keep hk fun q hq => hw q (h.gev q hq) (h.ow.old hq), h.len, fun i hi => (h.at_ i hi).keep hk fun q hq => hw q (h.ge i hi q hq) ((h.at_ i hi).old hq), h.gev, h.ge, h.dv, h.dj⟩
/-- another row -/
theorem TabV.app {H H1 : Hp} {v w r : Value} {m n : Nat} {f : Nat → Nat → Bool} {vs : List Value} {B : Nat} (h : TabV H v m n f vs B) (hr : OwS H r (bL (rowB n f m))) (hrB : ∀ q, ownB r q → B ≤ q) (hrv : ∀ q, ownB r q → ¬ ownB v q) (hri : ∀ i, i < m → ∀ q, ownB r q → ¬ ownB (vs.getD i undef) q)
    (hO : OwS H1 w (vs ++ [r])) (hw : ∀ q, ownB w q → ownB v q ∨ H.size ≤ q) (hK : Keep (ownB v) H H1) (hB : B ≤ H.size) : TabV H1 w (m + 1) n f (vs ++ [r]) B := by
  have e1 : ∀ i, i < m → (vs ++ [r]).getD i undef = vs.getD i undef := fun i hi => by
    rw [List.getD_eq_getElem?_getD, List.getElem?_append_left (by rw [h.len]; exact hi), ← List.getD_eq_getElem?_getD]
  have e2 : (vs ++ [r]).getD m undef = r := by
    rw [List.getD_eq_getElem?_getD, List.getElem?_append_right (by rw [h.len]; exact Nat.le_refl _), h.len]; simp
  have wd : ∀ (u : Value) (l : List Value), OwS H u l → (∀ q, ownB u q → ¬ ownB v q) → ∀ q, ownB u q → ¬ ownB w q := fun u l hu hd q hq hq' => by
    rcases hw q hq' with h' | h'
    · exact hd q hq h'
    · have := hu.old hq; omega
  refine ⟨hO, by simp [h.len], fun i hi => ?_, fun q hq => ?_, fun i hi q hq => ?_, fun i hi q hq => ?_, fun i j hi hj hij q hq => ?_⟩
  · rcases Nat.lt_or_ge i m with hi' | hi'
    · rw [e1 i hi']; exact (h.at_ i hi').keep hK fun q hq => h.dv i hi' q hq
    · have : i = m := by omega
      subst this; rw [e2]; exact hr.keep hK hrv
  · rcases hw q hq with h' | h'
    · exact h.gev q h'
    · omega
  · rcases Nat.lt_or_ge i m with hi' | hi'
    · rw [e1 i hi'] at hq; exact h.ge i hi' q hq
    · have : i = m := by omega
      subst this; rw [e2] at hq; exact hrB q hq
  · rcases Nat.lt_or_ge i m with hi' | hi'
    · rw [e1 i hi'] at hq; exact wd _ _ (h.at_ i hi') (h.dv i hi') q hq
    · have : i = m := by omega
      subst this; rw [e2] at hq; exact wd _ _ hr hrv q hq
  · rcases Nat.lt_or_ge i m with hi' | hi' <;> rcases Nat.lt_or_ge j m with hj' | hj'
    · rw [e1 i hi'] at hq; rw [e1 j hj']; exact h.dj i j hi' hj' hij q hq
    · have : j = m := by omega
      subst this; rw [e1 i hi'] at hq; rw [e2]; exact fun hq' => hri i hi' q hq' hq
    · have : i = m := by omega
      subst this; rw [e2] at hq; rw [e1 j hj']; exact hri j hj' q hq
    · omega
/-- a cell of the table -/
theorem TabV.rowAt {H : Hp} {v : Value} {m n : Nat} {f : Nat → Nat → Bool} {vs : List Value} {B : Nat} (h : TabV H v m n f vs B) {x y : Nat} (hx : x < m) (hy : y < n) :
    ∃ b c db dc, v = .slice (some ⟨b, 0, none⟩) m c ∧ vs.getD x undef = .slice (some ⟨db, 0, none⟩) n dc ∧ cell H ⟨b, x, none⟩ = some (.slice (some ⟨db, 0, none⟩) n dc) ∧ cell H ⟨db, y, none⟩ = some (.bool (f x y)) ∧ (cell H ⟨db, y, none⟩).isSome = true ∧ frz H ⟨db, y, none⟩ = false ∧ B ≤ db ∧ db < H.size := by
  have hxl : x < vs.length := by rw [h.len]; exact hx
  obtain ⟨b, c, L, rfl, h1, h2, h3, h4, h5⟩ := h.ow.some (by intro e; rw [e] at hxl; simp at hxl)
  obtain ⟨db, dc, M, k0, k1, k2, k3, k4, k5⟩ := (h.at_ x hx).some (by intro e; have := congrArg List.length e; rw [bL_len, rowB_len, List.length_nil] at this; omega)
  rw [bL_len, rowB_len] at k0 k1 k5
  have hM : y < M.length := by omega
  have hc := h5 x hxl
  have hd := k5 y hy
  refine ⟨b, c, db, dc, by rw [h.len], k0, ?_, ?_, ?_, ?_, h.ge x hx db (by rw [k0]; rfl), (h.at_ x hx).old (by rw [k0]; rfl)⟩
  · rw [h3.cell, hc, ← k0, List.getD_eq_getElem?_getD, List.getElem?_eq_getElem hxl]; rfl
  · rw [k3.cell, hd]; simp [bL, rowB, hy]
  · exact (k3.okSt hM).1
  · exact (k3.okSt hM).2
/-- a cell is written -/
theorem TabV.set {H : Hp} {v : Value} {m n : Nat} {f : Nat → Nat → Bool} {vs : List Value} {B x y db dc : Nat} {t : Bool} (h : TabV H v m n f vs B) (hx : x < m) (hy : y < n) (hd : vs.getD x undef = .slice (some ⟨db, 0, none⟩) n dc) :
    TabV (setc H ⟨db, y, none⟩ (.bool t)) v m n (fun a b => if a = x ∧ b = y then t else f a b) vs B := by
  have K : Keep (fun q => q = db) H (setc H ⟨db, y, none⟩ (.bool t)) := (Keep.refl _ _).setc _ (.inl rfl)
  have hdb : ownB (vs.getD x undef) db := by rw [hd]; rfl
  refine ⟨h.ow.keep K fun q hq e => by subst e; exact h.dv x hx _ hdb hq, h.len, fun i hi => ?_, h.gev, h.ge, h.dv, h.dj⟩
  by_cases e : i = x
  · subst e
    rcases h.at_ i hi with ⟨e0, _⟩ | ⟨b', c', M, k0, k1, k2, k3, k4⟩
    · rw [hd] at e0; cases e0
    · rw [hd] at k0
      simp only [Value.slice.injEq, Option.some.injEq, Addr.mk.injEq, and_true] at k0
      obtain ⟨rfl, k0, rfl⟩ := k0
      rw [bL_len, rowB_len] at k1 k4
      rw [hd]
      refine OwS.bl (k3.setc y (.bool t)) (by rw [bL_len, rowB_len]) k1 (by simpa using k2) ?_
      rw [List.take_set, k4, bL_set]
      congr 1
      refine List.ext_getElem (by simp [rowB]) fun j h1 h2 => ?_
      have hj : j < n := by simpa [rowB] using h2
      rw [List.getElem_set]
      by_cases ej : y = j
      · subst ej; simp [rowB]
      · have : ¬ j = y := fun e => ej e.symm
        simp [rowB, ej, this]
  · have e' : rowB n (fun a b => if a = x ∧ b = y then t else f a b) i = rowB n f i := by
      unfold rowB; refine List.map_congr_left fun j _ => ?_
      show (if i = x ∧ j = y then t else f i j) = f i j
      rw [if_neg fun h => e h.1]
    rw [e']
    exact (h.at_ i hi).keep K fun q hq e2 => by subst e2; exact h.dj i x hi hx e q hq hdb
theorem TabV.mono {H : Hp} {v : Value} {m n : Nat} {f : Nat → Nat → Bool} {vs : List Value} {B B' : Nat} (h : TabV H v m n f vs B) (hb : B' ≤ B) : TabV H v m n f vs B' :=
  ⟨h.ow, h.len, h.at_, fun q hq => Nat.le_trans hb (h.gev q hq), fun i hi q hq => Nat.le_trans hb (h.ge i hi q hq), h.dv, h.dj⟩
theorem TabV.congr {H : Hp} {v : Value} {m n : Nat} {f g : Nat → Nat → Bool} {vs : List Value} {B : Nat} (h : TabV H v m n f vs B) (e : ∀ x < m, ∀ y < n, f x y = g x y) : TabV H v m n g vs B :=
  ⟨h.ow, h.len, fun i hi => by
    have : rowB n g i = rowB n f i := List.map_congr_left fun j hj => (e i hi j (List.mem_range.1 hj)).symm
    rw [this]; exact h.at_ i hi, h.gev, h.ge, h.dv, h.dj⟩
theorem rowB_succ (y : Nat) (f : Nat → Nat → Bool) (x : Nat) : rowB (y + 1) f x = rowB y f x ++ [f x y] := by simp [rowB, List.range_succ]
def wmid (R : Nat → Nat → Bool) (k x y : Nat) (i j : Nat) : Bool := if i < x ∨ (i = x ∧ j < y) then wsh R (k + 1) i j else wsh R k i j
theorem wmid_col {R : Nat → Nat → Bool} {k x y i : Nat} : wmid R k x y i k = wsh R k i k := by
  unfold wmid; split
  · show (wsh R k i k || (wsh R k i k && wsh R k k k)) = _
    cases wsh R k i k <;> simp
  · rfl
theorem wmid_rw {R : Nat → Nat → Bool} {k x y j : Nat} : wmid R k x y k j = wsh R k k j := by
  unfold wmid; split
  · show (wsh R k k j || (wsh R k k k && wsh R k k j)) = _
    cases wsh R k k j <;> simp
  · rfl
theorem wmid_here {R : Nat → Nat → Bool} {k x y : Nat} : wmid R k x y x y = wsh R k x y := if_neg (by omega)
theorem wmid_step {R : Nat → Nat → Bool} {k x y i j : Nat} : wmid R k x (y + 1) i j = if i = x ∧ j = y then (wsh R k x y || (wsh R k x k && wsh R k k y)) else wmid R k x y i j := by
  unfold wmid
  by_cases h : i = x ∧ j = y
  · obtain ⟨rfl, rfl⟩ := h
    rw [if_pos (by omega), if_pos ⟨rfl, rfl⟩]; rfl
  · rw [if_neg h]
    by_cases h2 : i < x ∨ (i = x ∧ j < y)
    · rw [if_pos h2, if_pos (by omega)]
    · rw [if_neg h2, if_neg (by omega)]
theorem wmid_next {R : Nat → Nat → Bool} {k x n i j : Nat} (h : j < n) : wmid R k x n i j = wmid R k (x + 1) 0 i j := by
  unfold wmid
  by_cases h2 : i < x ∨ i = x
  · rw [if_pos (by omega), if_pos (by omega)]
  · rw [if_neg (by omega), if_neg (by omega)]
theorem wmid_zero {R : Nat → Nat → Bool} {k i j : Nat} : wmid R k 0 0 i j = wsh R k i j := if_neg (by omega)
theorem wmid_all {R : Nat → Nat → Bool} {k n i j : Nat} (h : i < n) : wmid R k n 0 i j = wsh R (k + 1) i j := if_pos (by omega)
theorem inP_dec (L : List NP) (x y : Nat) : decide (((x : Int), (y : Int)) ∈ L.map toI) = inP L x y := by
  unfold inP
  refine decide_eq_decide.2 ⟨fun h => ?_, fun h => List.mem_map.2 ⟨_, h, rfl⟩⟩
  obtain ⟨p, hp, e⟩ := List.mem_map.1 h
  have e1 : (p.1 : Int) = x := congrArg Prod.fst e
  have e2 : (p.2 : Int) = y := congrArg Prod.snd e
  have : p = (x, y) := by rw [← Int.ofNat_inj.1 e1, ← Int.ofNat_inj.1 e2]
  rw [← this]; exact hp
def RAbvSpec (P : Program) (k : FuncId) : Prop := ∀ (n : Nat) (pv : Value) (L : List NP) (H : Hp), n ≤ 256 → SlE nE 2 H pv L → L.length ≤ 1000000 → CallsM P k #[.agg #[.int .i64 (n : Int), pv]] H fun r H' => (∃ vs, TabV H' r n n (wsh (inP L) n) vs H.size) ∧ Keep (fun _ => False) H H'
theorem rabv_ok {P : Program} {ι : Ids} {k : FuncId} (hk : FnIs P k (c_rabv ι) r_rabv 1) (hg : RGivSpec P (ι.f 247)) : RAbvSpec P k := by
  intro n pv L H hn hp hL
  obtain ⟨Q, hQ⟩ : ∃ Q : Value → Hp → Prop, Q = fun r H' => (∃ vs, TabV H' r n n (wsh (inP L) n) vs H.size) ∧ Keep (fun _ => False) H H' := ⟨_, rfl⟩
  rw [← hQ]
  refine calls_of_vc hk (args := [_]) (by simp) ?_
  unfold c_rabv r_rabv
  simp only [go_sem, List.map_cons, List.map_nil, ↓reduceIte, Nat.reduceEqDiff, Nat.reduceAdd, Nat.reduceMul, reduceCtorEq, and_true, true_and, Nat.mul_one, Nat.zero_add, Bool.false_eq_true, decide_true, decide_false, not_false_eq_true]
  refine kont_new fun H1 b1 e1 z1 B1 K1 => ?_
  have s1 := K1.size
  have B1' : Bl H1 b1 [.int .i64 (n : Int), pv] := B1
  have p1 := hp.keep K1 (by simp)
  simp only [go_sem, List.map_cons, List.map_nil, ↓reduceIte, Nat.reduceEqDiff, Nat.reduceAdd, Nat.reduceMul, reduceCtorEq, and_true, true_and, Nat.mul_one, Nat.zero_add, Bool.false_eq_true, decide_true, decide_false, not_false_eq_true, kont_eq]
  refine vc_loop [13, 5, 6, 19, 3, 4] rfl (fun m f A => ∃ (x : Nat) (v : Value) (vs : List Value), x ≤ n ∧ m = n - x ∧ f 4 = .int .i64 (x : Int) ∧ f 3 = v ∧ TabV A v x n (inP L) vs H1.size ∧ Keep (fun _ => False) H1 A) n ?_ ?_
  · exact ⟨0, _, _, by omega, by omega, by simp only [go_sem, List.map_cons, List.map_nil, ↓reduceIte, Nat.reduceEqDiff, Nat.reduceAdd, Nat.reduceMul, reduceCtorEq, and_true, true_and, Nat.mul_one, Nat.zero_add, Bool.false_eq_true, decide_true, decide_false, not_false_eq_true, kont_eq]; rfl, rfl, TabV.nil _ _ _ _, Keep.refl _ _⟩
  rintro m f H2 ⟨x, v, vs, hx, rfl, hf4, hf3, T2, K2⟩
  have s2 := K2.size
  simp only [go_sem, List.map_cons, List.map_nil, ↓reduceIte, Nat.reduceEqDiff, Nat.reduceAdd, Nat.reduceMul, reduceCtorEq, and_true, true_and, Nat.mul_one, Nat.zero_add, Bool.false_eq_true, decide_true, decide_false, not_false_eq_true, kont_eq] at hf4 hf3
  have B2 := K2.bl B1' (by simp)
  have c20 : cell H2 ⟨b1, 0, none⟩ = some (.int .i64 (n : Int)) := by rw [B2.cell]; rfl
  simp only [go_sem, List.map_cons, List.map_nil, ↓reduceIte, Nat.reduceEqDiff, Nat.reduceAdd, Nat.reduceMul, reduceCtorEq, and_true, true_and, Nat.mul_one, Nat.zero_add, Bool.false_eq_true, decide_true, decide_false, not_false_eq_true, hf4, c20]
  refine iteV_dec (fun hlt => ?_) (fun hge => ?_)
  · have hxn : x < n := by omega
    refine vc_loop [19, 5, 6] rfl (fun m f A => ∃ (y : Nat) (r : Value), y ≤ n ∧ m = n - y ∧ f 6 = .int .i64 (y : Int) ∧ f 5 = r ∧ OwS A r (bL (rowB y (inP L) x)) ∧ (∀ q, ownB r q → H2.size ≤ q) ∧ Keep (fun _ => False) H2 A) n ?_ ?_
    · exact ⟨0, _, by omega, by omega, by simp only [go_sem, List.map_cons, List.map_nil, ↓reduceIte, Nat.reduceEqDiff, Nat.reduceAdd, Nat.reduceMul, reduceCtorEq, and_true, true_and, Nat.mul_one, Nat.zero_add, Bool.false_eq_true, decide_true, decide_false, not_false_eq_true, kont_eq]; rfl, rfl, OwS.nil _, fun q h => h.elim, Keep.refl _ _⟩
    rintro m f2 H3 ⟨y, r, hy, rfl, hf6, hf5, O3, w3, K3⟩
    have s3 := K3.size
    simp only [go_sem, List.map_cons, List.map_nil, ↓reduceIte, Nat.reduceEqDiff, Nat.reduceAdd, Nat.reduceMul, reduceCtorEq, and_true, true_and, Nat.mul_one, Nat.zero_add, Bool.false_eq_true, decide_true, decide_false, not_false_eq_true, kont_eq] at hf6 hf5
    have B3 := K3.bl B2 (by simp)
    have c30 : cell H3 ⟨b1, 0, none⟩ = some (.int .i64 (n : Int)) := by rw [B3.cell]; rfl
    simp only [go_sem, List.map_cons, List.map_nil, ↓reduceIte, Nat.reduceEqDiff, Nat.reduceAdd, Nat.reduceMul, reduceCtorEq, and_true, true_and, Nat.mul_one, Nat.zero_add, Bool.false_eq_true, decide_true, decide_false, not_false_eq_true, hf6, c30]
    refine iteV_dec (fun hlt2 => ?_) (fun hge2 => ?_)
    · have hyn : y < n := by omega
      simp only [go_sem, List.map_cons, List.map_nil, ↓reduceIte, Nat.reduceEqDiff, Nat.reduceAdd, Nat.reduceMul, reduceCtorEq, and_true, true_and, Nat.mul_one, Nat.zero_add, Bool.false_eq_true, decide_true, decide_false, not_false_eq_true, kont_eq, hf6, hf5, hf4, B3.ldNO 2 rfl]
      refine (hg n x y pv L H3 ((p1.keep K2 (by simp)).keep K3 (by simp)) hL).mono ?_
      rintro rb H4 ⟨rfl, K4⟩
      have s4 := K4.size
      rw [kont_eq, inP_dec]
      simp only [go_sem, List.map_cons, List.map_nil, ↓reduceIte, Nat.reduceEqDiff, Nat.reduceAdd, Nat.reduceMul, reduceCtorEq, and_true, true_and, Nat.mul_one, Nat.zero_add, Bool.false_eq_true, decide_true, decide_false, not_false_eq_true, fillV_nil, fillV_cons, okFill_nil, okFill_cons, cells_slice, cells_int, cells_bool, cells_str, cells_ptr, cells_agg, stNH_ptr, okN_ptr, wrA1, wrA20, wrA21]
      refine kont_news fun H5 b5 e5 z5 B5 K5 => ?_
      have s5 := K5.size
      have B5' : Bl H5 b5 (bL [inP L x y]) := B5
      simp only [go_sem, List.map_cons, List.map_nil, ↓reduceIte, Nat.reduceEqDiff, Nat.reduceAdd, Nat.reduceMul, reduceCtorEq, and_true, true_and, Nat.mul_one, Nat.zero_add, Bool.false_eq_true, decide_true, decide_false, not_false_eq_true, kont_eq]
      have hll : (rowB y (inP L) x).length = y := rowB_len _ _ _
      refine app_slN (l := bL (rowB y (inP L) x)) (m := bL [inP L x y]) H2.size ((O3.keep K4 (by simp)).keep K5 (by simp)) w3 (by omega) (SlR.bl B5' 0 1 1 (by omega) (by simp [bL])) (bL_all1 _) rfl (by omega) (by rw [bL_len, bL_len, hll]; simp; omega) fun v' H6 O6 own6 K6 => ?_
      rw [← bL_app, ← rowB_succ] at O6
      simp (disch := omega) only [go_sem, List.map_cons, List.map_nil, ↓reduceIte, Nat.reduceEqDiff, Nat.reduceAdd, Nat.reduceMul, reduceCtorEq, and_true, true_and, Nat.mul_one, Nat.zero_add, Bool.false_eq_true, decide_true, decide_false, not_false_eq_true, kont_eq, hf6, IntWalk.i64_in]
      exact ⟨n - (y + 1), by omega, y + 1, v', by omega, rfl, rfl, rfl, O6, own6, (K3.trans (K4.trans K5)).at_old K6 (Nat.le_refl _)⟩
    · have hyn : y = n := by omega
      subst hyn
      obtain ⟨ra, rn, rc, hrs⟩ : ∃ a n c, r = .slice a n c := O3.shape
      subst hrs
      simp only [go_sem, List.map_cons, List.map_nil, ↓reduceIte, Nat.reduceEqDiff, Nat.reduceAdd, Nat.reduceMul, reduceCtorEq, and_true, true_and, Nat.mul_one, Nat.zero_add, Bool.false_eq_true, decide_true, decide_false, not_false_eq_true, fillV_nil, fillV_cons, okFill_nil, okFill_cons, cells_slice, cells_int, cells_bool, cells_str, cells_ptr, cells_agg, stNH_ptr, okN_ptr, wrA1, wrA20, wrA21, hf5, hf3]
      refine kont_news fun H4 b4 e4 z4 B4 K4 => ?_
      have s4 := K4.size
      have B4' : Bl H4 b4 [.slice ra rn rc] := B4
      simp only [go_sem, List.map_cons, List.map_nil, ↓reduceIte, Nat.reduceEqDiff, Nat.reduceAdd, Nat.reduceMul, reduceCtorEq, and_true, true_and, Nat.mul_one, Nat.zero_add, Bool.false_eq_true, decide_true, decide_false, not_false_eq_true, kont_eq, hf3]
      have hall : all1 #[Value.slice ra rn rc] := fun w hw => by
        simp at hw; subst hw; rfl
      refine app_sl (l := vs) (m := [.slice ra rn rc]) ((T2.ow.keep K3 (by simp)).keep K4 (by simp)) (SlR.bl B4' 0 1 1 (by omega) (by simp)) hall rfl (by unfold maxLen; simp only [T2.len, List.length_singleton]; omega) (by simp only [T2.len, List.length_singleton]; omega) fun v' H5 O5 M5 N5 => ?_
      have K24 := K3.trans K4
      have T4 := T2.keep K24 (by simp)
      have T5 := T4.app (r := .slice ra rn rc) (O3.keep K4 (by simp)) (fun q hq => by have := w3 q hq; have := K2.size; omega) (fun q hq hq' => by have := w3 q hq; have := T2.ow.old hq'; omega) (fun i hi q hq hq' => by have := w3 q hq; have := (T2.at_ i hi).old hq'; omega) O5 N5 M5 (by omega)
      simp (disch := omega) only [go_sem, List.map_cons, List.map_nil, ↓reduceIte, Nat.reduceEqDiff, Nat.reduceAdd, Nat.reduceMul, reduceCtorEq, and_true, true_and, Nat.mul_one, Nat.zero_add, Bool.false_eq_true, decide_true, decide_false, not_false_eq_true, kont_eq, hf4, IntWalk.i64_in]
      exact ⟨y - (x + 1), by omega, x + 1, v', _, by omega, rfl, rfl, rfl, T5, (K2.trans K24).trans' M5 fun q hq h => by have := T2.gev q h; omega⟩
  · have hxn : x = n := by omega
    subst hxn
    refine vc_loop [36, 8, 42, 9, 48, 66, 7] rfl (fun m f A => ∃ (k : Nat), k ≤ x ∧ m = x - k ∧ f 7 = .int .i64 (k : Int) ∧ TabV A v x x (wsh (inP L) k) vs H1.size ∧ Keep (fun q => H1.size ≤ q) H1 A ∧ Bl A b1 [.int .i64 (x : Int), pv]) x ?_ ?_
    · exact ⟨0, by omega, by omega, by simp only [go_sem, List.map_cons, List.map_nil, ↓reduceIte, Nat.reduceEqDiff, Nat.reduceAdd, Nat.reduceMul, reduceCtorEq, and_true, true_and, Nat.mul_one, Nat.zero_add, Bool.false_eq_true, decide_true, decide_false, not_false_eq_true, kont_eq]; rfl, T2, K2.any, B2⟩
    rintro m f3 H3 ⟨k, hk', rfl, hf7, T3, K3, B3⟩
    have s3 := K3.size
    simp only [go_sem, List.map_cons, List.map_nil, ↓reduceIte, Nat.reduceEqDiff, Nat.reduceAdd, Nat.reduceMul, reduceCtorEq, and_true, true_and, Nat.mul_one, Nat.zero_add, Bool.false_eq_true, decide_true, decide_false, not_false_eq_true, kont_eq] at hf7
    have c30 : cell H3 ⟨b1, 0, none⟩ = some (.int .i64 (x : Int)) := by rw [B3.cell]; rfl
    simp only [go_sem, List.map_cons, List.map_nil, ↓reduceIte, Nat.reduceEqDiff, Nat.reduceAdd, Nat.reduceMul, reduceCtorEq, and_true, true_and, Nat.mul_one, Nat.zero_add, Bool.false_eq_true, decide_true, decide_false, not_false_eq_true, hf7, c30]
    refine iteV_dec (fun hlt => ?_) (fun hge => ?_)
    · have hkn : k < x := by omega
      refine vc_loop [42, 9, 48, 66, 8] rfl (fun m f A => ∃ (i : Nat), i ≤ x ∧ m = x - i ∧ f 8 = .int .i64 (i : Int) ∧ TabV A v x x (wmid (inP L) k i 0) vs H1.size ∧ Keep (fun q => H1.size ≤ q) H1 A ∧ Bl A b1 [.int .i64 (x : Int), pv]) x ?_ ?_
      · exact ⟨0, by omega, by omega, by simp only [go_sem, List.map_cons, List.map_nil, ↓reduceIte, Nat.reduceEqDiff, Nat.reduceAdd, Nat.reduceMul, reduceCtorEq, and_true, true_and, Nat.mul_one, Nat.zero_add, Bool.false_eq_true, decide_true, decide_false, not_false_eq_true, kont_eq]; rfl, T3.congr fun _ _ _ _ => wmid_zero.symm, K3, B3⟩
      rintro m f4 H4 ⟨i, hi, rfl, hf8, T4, K4, B4⟩
      have s4 := K4.size
      simp only [go_sem, List.map_cons, List.map_nil, ↓reduceIte, Nat.reduceEqDiff, Nat.reduceAdd, Nat.reduceMul, reduceCtorEq, and_true, true_and, Nat.mul_one, Nat.zero_add, Bool.false_eq_true, decide_true, decide_false, not_false_eq_true, kont_eq] at hf8
      have c40 : cell H4 ⟨b1, 0, none⟩ = some (.int .i64 (x : Int)) := by rw [B4.cell]; rfl
      simp only [go_sem, List.map_cons, List.map_nil, ↓reduceIte, Nat.reduceEqDiff, Nat.reduceAdd, Nat.reduceMul, reduceCtorEq, and_true, true_and, Nat.mul_one, Nat.zero_add, Bool.false_eq_true, decide_true, decide_false, not_false_eq_true, hf8, c40]
      refine iteV_dec (fun hlt => ?_) (fun hge => ?_)
      · have hin : i < x := by omega
        refine vc_loop [48, 66, 9] rfl (fun m f A => ∃ (j : Nat), j ≤ x ∧ m = x - j ∧ f 9 = .int .i64 (j : Int) ∧ TabV A v x x (wmid (inP L) k i j) vs H1.size ∧ Keep (fun q => H1.size ≤ q) H1 A ∧ Bl A b1 [.int .i64 (x : Int), pv]) x ?_ ?_
        · exact ⟨0, by omega, by omega, by simp only [go_sem, List.map_cons, List.map_nil, ↓reduceIte, Nat.reduceEqDiff, Nat.reduceAdd, Nat.reduceMul, reduceCtorEq, and_true, true_and, Nat.mul_one, Nat.zero_add, Bool.false_eq_true, decide_true, decide_false, not_false_eq_true, kont_eq]; rfl, T4, K4, B4⟩
        rintro m f5 H5 ⟨j, hj, rfl, hf9, T5, K5, B5⟩
        have s5 := K5.size
        simp only [go_sem, List.map_cons, List.map_nil, ↓reduceIte, Nat.reduceEqDiff, Nat.reduceAdd, Nat.reduceMul, reduceCtorEq, and_true, true_and, Nat.mul_one, Nat.zero_add, Bool.false_eq_true, decide_true, decide_false, not_false_eq_true, kont_eq] at hf9
        have c50 : cell H5 ⟨b1, 0, none⟩ = some (.int .i64 (x : Int)) := by rw [B5.cell]; rfl
        simp only [go_sem, List.map_cons, List.map_nil, ↓reduceIte, Nat.reduceEqDiff, Nat.reduceAdd, Nat.reduceMul, reduceCtorEq, and_true, true_and, Nat.mul_one, Nat.zero_add, Bool.false_eq_true, decide_true, decide_false, not_false_eq_true, hf9, c50]
        refine iteV_dec (fun hlt => ?_) (fun hge => ?_)
        · have hjn : j < x := by omega
          obtain ⟨tb, tc, db, dc, hv, hvi, ci, cik, -⟩ := T5.rowAt hin hkn
          obtain ⟨tb', tc', eb, ec, hv', hvk, ck, ckj, -⟩ := T5.rowAt hkn hjn
          obtain ⟨tb2, tc2, db2, dc2, hv2, hvi2, ci2, cij, oki, fri, hdb, hdbl⟩ := T5.rowAt hin hjn
          rw [hvi] at hvi2
          simp only [Value.slice.injEq, Option.some.injEq, Addr.mk.injEq, and_true] at hvi2
          obtain ⟨rfl, -, rfl⟩ := hvi2
          subst hv
          simp only [Value.slice.injEq, Option.some.injEq, Addr.mk.injEq, and_true, true_and] at hv' hv2
          obtain ⟨rfl, rfl⟩ := hv'
          obtain ⟨rfl, rfl⟩ := hv2
          rw [wmid_col] at cik
          rw [wmid_rw] at ckj
          have fin : ∀ (A : Hp) (w : Value), w = .int .i64 ((j : Int) + 1) → TabV A (.slice (some ⟨tb, 0, none⟩) x tc) x x (wmid (inP L) k i (j + 1)) vs H1.size → Keep (fun q => q = db) H5 A → ∃ m < x - j, ∃ j' : Nat, j' ≤ x ∧ m = x - j' ∧ w = .int .i64 (j' : Int) ∧ TabV A (.slice (some ⟨tb, 0, none⟩) x tc) x x (wmid (inP L) k i j') vs H1.size ∧ Keep (fun q => H1.size ≤ q) H1 A ∧ Bl A b1 [.int .i64 (x : Int), pv] := fun A w h1 h2 h3 =>
            ⟨x - (j + 1), by omega, j + 1, by omega, rfl, h1, h2, K5.trans (h3.mono fun q _ h => by omega), h3.bl B5 (fun e => by omega)⟩
          cases e1 : wsh (inP L) k i k with
          | false =>
            rw [e1] at cik
            simp (disch := omega) only [go_sem, List.map_cons, List.map_nil, ↓reduceIte, Nat.reduceEqDiff, Nat.reduceAdd, Nat.reduceMul, reduceCtorEq, and_true, true_and, Nat.mul_one, Nat.zero_add, Bool.false_eq_true, decide_true, decide_false, not_false_eq_true, kont_eq, fillV_nil, fillV_cons, okFill_nil, okFill_cons, cells_slice, cells_int, cells_bool, cells_str, cells_ptr, cells_agg, stNH_ptr, okN_ptr, wrA1, wrA20, wrA21, hf7, hf8, hf9, hf3, tn_cast, Nat.mul_one, Nat.zero_add, ci, cik, IntWalk.i64_in]
            refine ⟨by omega, by omega, fin _ _ rfl ?_ (Keep.refl _ _)⟩
            refine T5.congr fun i' _ j' _ => ?_
            rw [wmid_step]
            split
            · next h => obtain ⟨rfl, rfl⟩ := h; rw [wmid_here, e1]; simp
            · rfl
          | true =>
            rw [e1] at cik
            cases e2 : wsh (inP L) k k j with
            | false =>
              rw [e2] at ckj
              simp (disch := omega) only [go_sem, List.map_cons, List.map_nil, ↓reduceIte, Nat.reduceEqDiff, Nat.reduceAdd, Nat.reduceMul, reduceCtorEq, and_true, true_and, Nat.mul_one, Nat.zero_add, Bool.false_eq_true, decide_true, decide_false, not_false_eq_true, kont_eq, fillV_nil, fillV_cons, okFill_nil, okFill_cons, cells_slice, cells_int, cells_bool, cells_str, cells_ptr, cells_agg, stNH_ptr, okN_ptr, wrA1, wrA20, wrA21, hf7, hf8, hf9, hf3, tn_cast, Nat.mul_one, Nat.zero_add, ci, cik, ck, ckj, IntWalk.i64_in]
              refine ⟨by omega, by omega, by omega, by omega, fin _ _ rfl ?_ (Keep.refl _ _)⟩
              refine T5.congr fun i' _ j' _ => ?_
              rw [wmid_step]
              split
              · next h => obtain ⟨rfl, rfl⟩ := h; rw [wmid_here, e2]; simp
              · rfl
            | true =>
              rw [e2] at ckj
              simp (disch := omega) only [go_sem, List.map_cons, List.map_nil, ↓reduceIte, Nat.reduceEqDiff, Nat.reduceAdd, Nat.reduceMul, reduceCtorEq, and_true, true_and, Nat.mul_one, Nat.zero_add, Bool.false_eq_true, decide_true, decide_false, not_false_eq_true, kont_eq, fillV_nil, fillV_cons, okFill_nil, okFill_cons, cells_slice, cells_int, cells_bool, cells_str, cells_ptr, cells_agg, stNH_ptr, okN_ptr, wrA1, wrA20, wrA21, hf7, hf8, hf9, hf3, tn_cast, Nat.mul_one, Nat.zero_add, ci, cik, ck, ckj, oki, fri, IntWalk.i64_in]
              refine ⟨by omega, by omega, by omega, by omega, by omega, by omega, fin _ _ rfl ?_ ((Keep.refl _ _).setc _ (.inl rfl))⟩
              refine (T5.set (t := true) hin hjn hvi).congr fun i' _ j' _ => ?_
              rw [wmid_step]
              split
              · next h => obtain ⟨rfl, rfl⟩ := h; rw [e1, e2]; simp
              · rfl
        · have hje : j = x := by omega
          subst hje
          simp (disch := omega) only [go_sem, List.map_cons, List.map_nil, ↓reduceIte, Nat.reduceEqDiff, Nat.reduceAdd, Nat.reduceMul, reduceCtorEq, and_true, true_and, Nat.mul_one, Nat.zero_add, Bool.false_eq_true, decide_true, decide_false, not_false_eq_true, kont_eq, hf8, IntWalk.i64_in]
          exact ⟨j - (i + 1), by omega, i + 1, by omega, rfl, rfl, T5.congr fun _ _ _ h => wmid_next h, K5, B5⟩
      · have hie : i = x := by omega
        subst hie
        simp (disch := omega) only [go_sem, List.map_cons, List.map_nil, ↓reduceIte, Nat.reduceEqDiff, Nat.reduceAdd, Nat.reduceMul, reduceCtorEq, and_true, true_and, Nat.mul_one, Nat.zero_add, Bool.false_eq_true, decide_true, decide_false, not_false_eq_true, kont_eq, hf7, IntWalk.i64_in]
        exact ⟨i - (k + 1), by omega, k + 1, by omega, rfl, rfl, T4.congr fun _ h _ _ => wmid_all h, K4, B4⟩
    · have hke : k = x := by omega
      subst hke
      simp only [go_sem, List.map_cons, List.map_nil, ↓reduceIte, Nat.reduceEqDiff, Nat.reduceAdd, Nat.reduceMul, reduceCtorEq, and_true, true_and, Nat.mul_one, Nat.zero_add, Bool.false_eq_true, decide_true, decide_false, not_false_eq_true, kont_eq, hf3]
      rw [hQ]
      exact ⟨⟨vs, T3.mono (by omega)⟩, K1.trans (K3.none fun q h => by omega)⟩
end Go.Mg

namespace Go.Mg
open Go Go.RowKit
set_option linter.unusedSimpArgs false
set_option linter.unusedVariables false
set_option maxRecDepth 100000
/- arbacref06.Is -/
def c_ris (ι : Ids) : S :=
  .seq (.reg [.e (.v 3) (.box (ι.t 246) (.v 0)), .p (.v 6) (.mv (.c (.bool false)))]) (.seq (.seq (.reg [.p (.t 7) (.mv (.v 1)), .p (.t 8) (.cm .lss .i64 (.t 7) (.c (.int .i64 0))), .p (.t 9) (.mv (.t
  8)), .gp (.t 10) (.t 9) false (.mv (.v 1)), .gp (.t 11) (.t 9) false (.fa 0 (.v 3)), .gp (.t 12) (.t 9) false (.ld (.t 11)), .gp (.t 13) (.t 9) false (.cm .geq .i64 (.t 10) (.t 12)), .p (.t 14) (.pick
  (.t 9) (.c (.bool true)) (.t 13)), .p (.t 15) (.mv (.t 14)), .gp (.t 16) (.t 15) false (.mv (.v 2)), .gp (.t 17) (.t 15) false (.cm .lss .i64 (.t 16) (.c (.int .i64 0))), .p (.t 18) (.pick (.t 15) (.c
  (.bool true)) (.t 17)), .p (.t 19) (.mv (.t 18)), .gp (.t 20) (.t 19) false (.mv (.v 2)), .gp (.t 21) (.t 19) false (.fa 0 (.v 3)), .gp (.t 22) (.t 19) false (.ld (.t 21)), .gp (.t 23) (.t 19) false
  (.cm .geq .i64 (.t 20) (.t 22)), .p (.v 24) (.pick (.t 19) (.c (.bool true)) (.t 23))]) (.ite (.v 24) (.seq (.reg [.p (.v 6) (.mv (.c (.bool false)))]) .ret) .skip)) (.seq (.reg [.p (.t 25) (.m (.ldn
  2 (.v 3))), .e (.t 26) (.call (ι.f 249) [.t 25]), .p (.t 27) (.mv (.v 1)), .p (.t 28) (.is 1 (.t 26) (.t 27)), .p (.t 29) (.ld (.t 28)), .p (.t 30) (.mv (.v 2)), .p (.t 31) (.is 1 (.t 29) (.t 30)), .p
  (.t 32) (.ld (.t 31)), .p (.v 6) (.mv (.t 32))]) .ret))
def r_ris : List RV := [.t 6]
/- arbacref06.Above -/
def c_rabov (ι : Ids) : S :=
  .seq (.reg [.e (.v 2) (.box (ι.t 246) (.v 0)), .p (.v 4) (.mv (.c (.slice .none 0 0)))]) (.seq (.reg [.p (.v 5) (.mv (.c (.slice .none 0 0)))]) (.seq (.seq (.reg [.p (.v 6) (.mv (.c (.int .i64 0)))])
  (.blk 0 (.loop (.seq (.seq (.reg [.p (.t 7) (.mv (.v 6)), .p (.t 8) (.fa 0 (.v 2)), .p (.t 9) (.ld (.t 8)), .p (.v 10) (.cm .lss .i64 (.t 7) (.t 9))]) (.ite (.v 10) .skip (.exit 0))) (.seq (.blk 1
  (.seq (.reg [.p (.t 13) (.m (.ldn 2 (.v 2))), .p (.t 14) (.mv (.v 6)), .p (.t 15) (.mv (.v 1)), .e (.v 16) (.call (ι.f 250) [.t 13, .t 14, .t 15])]) (.ite (.v 16) (.reg [.p (.t 17) (.mv (.v 5)), .p
  (.t 18) (.mv (.v 6)), .e (.t 19) (.bldF (ι.t 26) 1 1 [.t 18]), .e (.t 20) (.app false (ι.t 26) 1 8 #[.int .i64 0] (.t 17) (.t 19)), .p (.v 5) (.mv (.t 20))]) .skip))) (.reg [.p (.t 11) (.mv (.v 6)),
  .p (.t 12) (.ar .add .i64 (.t 11) (.c (.int .i64 1))), .p (.v 6) (.mv (.t 12))])))))) (.seq (.reg [.p (.t 21) (.mv (.v 5)), .p (.v 4) (.mv (.t 21))]) .ret)))
def r_rabov : List RV := [.t 4]
/- arbacref06.Below -/
def c_rbelo (ι : Ids) : S :=
  .seq (.reg [.e (.v 2) (.box (ι.t 246) (.v 0)), .p (.v 4) (.mv (.c (.slice .none 0 0)))]) (.seq (.reg [.p (.v 5) (.mv (.c (.slice .none 0 0)))]) (.seq (.seq (.reg [.p (.v 6) (.mv (.c (.int .i64 0)))])
  (.blk 0 (.loop (.seq (.seq (.reg [.p (.t 7) (.mv (.v 6)), .p (.t 8) (.fa 0 (.v 2)), .p (.t 9) (.ld (.t 8)), .p (.v 10) (.cm .lss .i64 (.t 7) (.t 9))]) (.ite (.v 10) .skip (.exit 0))) (.seq (.blk 1
  (.seq (.reg [.p (.t 13) (.m (.ldn 2 (.v 2))), .p (.t 14) (.mv (.v 1)), .p (.t 15) (.mv (.v 6)), .e (.v 16) (.call (ι.f 250) [.t 13, .t 14, .t 15])]) (.ite (.v 16) (.reg [.p (.t 17) (.mv (.v 5)), .p
  (.t 18) (.mv (.v 6)), .e (.t 19) (.bldF (ι.t 26) 1 1 [.t 18]), .e (.t 20) (.app false (ι.t 26) 1 8 #[.int .i64 0] (.t 17) (.t 19)), .p (.v 5) (.mv (.t 20))]) .skip))) (.reg [.p (.t 11) (.mv (.v 6)),
  .p (.t 12) (.ar .add .i64 (.t 11) (.c (.int .i64 1))), .p (.v 6) (.mv (.t 12))])))))) (.seq (.reg [.p (.t 21) (.mv (.v 5)), .p (.v 4) (.mv (.t 21))]) .ret)))
def r_rbelo : List RV := [.t 4]
/- arbacref06.in -/
def c_rin (ι : Ids) : S :=
  .seq (.reg [.p (.v 4) (.mv (.c (.bool false)))]) (.seq (.seq (.reg [.p (.v 7) (.mv (.v 0)), .p (.v 8) (.m (.lenl (.v 7))), .p (.v 9) (.mv (.c (.int .i64 0)))]) (.blk 0 (.loop (.seq (.reg [.p (.v 10)
  (.cm .lss .i64 (.v 9) (.v 8))]) (.seq (.ite (.v 10) .skip (.exit 0)) (.seq (.blk 1 (.seq (.reg [.p (.t 11) (.is 1 (.v 7) (.v 9)), .p (.t 12) (.ld (.t 11)), .p (.v 6) (.mv (.t 12))]) (.seq (.reg [.p
  (.t 13) (.mv (.v 6)), .p (.t 14) (.mv (.v 1)), .p (.v 15) (.cm .eql .i64 (.t 13) (.t 14))]) (.ite (.v 15) (.seq (.reg [.p (.v 4) (.mv (.c (.bool true)))]) .ret) .skip)))) (.reg [.p (.t 16) (.ar .add
  .i64 (.v 9) (.c (.int .i64 1))), .p (.v 9) (.mv (.t 16))]))))))) (.seq (.reg [.p (.v 4) (.mv (.c (.bool false)))]) .ret))
def r_rin : List RV := [.t 4]

theorem inP_gridP {n : Nat} {R : Nat → Nat → Bool} (hR : Rng n R) : inP (gridP n R) = R := by
  funext x y
  rw [Bool.eq_iff_iff, inP_iff, mem_gridP]
  exact ⟨fun h => h.2.2, fun h => ⟨(hR x y h).1, (hR x y h).2, h⟩⟩
theorem gridP_len16 {n : Nat} (R : Nat → Nat → Bool) (hn : n ≤ 256) : (gridP n R).length ≤ 65536 := Nat.le_trans (gridP_len n R) (Nat.mul_le_mul hn hn)
/-- a reference order -/
def ROrd (H : Hp) (v : Value) (n : Nat) (R : Nat → Nat → Bool) : Prop := n ≤ 256 ∧ Rng n R ∧ ∃ pv, v = .agg #[.int .i64 (n : Int), pv] ∧ SlE nE 2 H pv (gridP n R)
theorem ROrd.keep0 {H H' : Hp} {v : Value} {n : Nat} {R : Nat → Nat → Bool} (h : ROrd H v n R) (hk : Keep (fun _ => False) H H') : ROrd H' v n R := by
  obtain ⟨h1, h2, pv, rfl, h3⟩ := h
  exact ⟨h1, h2, pv, rfl, h3.keep hk (by simp)⟩
noncomputable def isRb (n : Nat) (R : Nat → Nat → Bool) (x y : Int) : Bool := decide (0 ≤ x ∧ x < n ∧ 0 ≤ y ∧ y < n) && tcB R x.toNat y.toNat
theorem isRb_nat {n : Nat} {R : Nat → Nat → Bool} (hR : Rng n R) (x y : Nat) : isRb n R x y = tcB R x y := by
  unfold isRb
  rw [Int.toNat_natCast, Int.toNat_natCast]
  cases h : tcB R x y with
  | false => simp
  | true =>
    have := hR.tc (tcB_iff.1 h)
    simp; omega
def RIsSpec (P : Program) (k : FuncId) : Prop := ∀ (n : Nat) (R : Nat → Nat → Bool) (v : Value) (x y : Int) (H : Hp), ROrd H v n R → CallsM P k #[v, .int .i64 x, .int .i64 y] H fun r H' => r = .bool (isRb n R x y) ∧ Keep (fun _ => False) H H'
theorem ris_ok {P : Program} {ι : Ids} {k : FuncId} (hk : FnIs P k (c_ris ι) r_ris 3) (ha : RAbvSpec P (ι.f 249)) : RIsSpec P k := by
  intro n R v x y H hv
  obtain ⟨hn, hR, pv, rfl, hp⟩ := hv
  obtain ⟨Q, hQ⟩ : ∃ Q : Value → Hp → Prop, Q = fun r H' => r = .bool (isRb n R x y) ∧ Keep (fun _ => False) H H' := ⟨_, rfl⟩
  rw [← hQ]
  refine calls_of_vc hk (args := [_, _, _]) (by simp) ?_
  unfold c_ris r_ris
  simp only [go_sem, List.map_cons, List.map_nil, ↓reduceIte, Nat.reduceEqDiff, Nat.reduceAdd, Nat.reduceMul, reduceCtorEq, and_true, true_and, Nat.mul_one, Nat.zero_add, Bool.false_eq_true, decide_true, decide_false, not_false_eq_true]
  refine kont_new fun H1 b1 e1 z1 B1 K1 => ?_
  have s1 := K1.size
  have B1' : Bl H1 b1 [.int .i64 (n : Int), pv] := B1
  have p1 := hp.keep K1 (by simp)
  have c10 : cell H1 ⟨b1, 0, none⟩ = some (.int .i64 (n : Int)) := by rw [B1'.cell]; rfl
  have hno : ¬ (0 ≤ x ∧ x < n ∧ 0 ≤ y ∧ y < n) → Q (.bool false) H1 := fun h => by
    rw [hQ]; exact ⟨by unfold isRb; rw [decide_eq_false h]; rfl, K1⟩
  by_cases h1 : x < 0
  · have e1 : decide (x < 0) = true := decide_eq_true h1
    simp only [go_sem, List.map_cons, List.map_nil, ↓reduceIte, Nat.reduceEqDiff, Nat.reduceAdd, Nat.reduceMul, reduceCtorEq, and_true, true_and, Nat.mul_one, Nat.zero_add, Bool.false_eq_true, decide_true, decide_false, not_false_eq_true, kont_eq, fillV_nil, fillV_cons, okFill_nil, okFill_cons, cells_slice, cells_int, cells_bool, cells_str, cells_ptr, cells_agg, stNH_ptr, okN_ptr, wrA1, wrA20, wrA21, c10, e1]
    exact hno (by omega)
  have e1 : decide (x < 0) = false := decide_eq_false h1
  by_cases h2 : x < n
  rotate_left
  · have e2 : decide ((n : Int) ≤ x) = true := decide_eq_true (by omega)
    simp only [go_sem, List.map_cons, List.map_nil, ↓reduceIte, Nat.reduceEqDiff, Nat.reduceAdd, Nat.reduceMul, reduceCtorEq, and_true, true_and, Nat.mul_one, Nat.zero_add, Bool.false_eq_true, decide_true, decide_false, not_false_eq_true, kont_eq, fillV_nil, fillV_cons, okFill_nil, okFill_cons, cells_slice, cells_int, cells_bool, cells_str, cells_ptr, cells_agg, stNH_ptr, okN_ptr, wrA1, wrA20, wrA21, c10, e1, e2]
    exact hno (by omega)
  have e2 : decide ((n : Int) ≤ x) = false := decide_eq_false (by omega)
  by_cases h3 : y < 0
  · have e3 : decide (y < 0) = true := decide_eq_true h3
    simp only [go_sem, List.map_cons, List.map_nil, ↓reduceIte, Nat.reduceEqDiff, Nat.reduceAdd, Nat.reduceMul, reduceCtorEq, and_true, true_and, Nat.mul_one, Nat.zero_add, Bool.false_eq_true, decide_true, decide_false, not_false_eq_true, kont_eq, fillV_nil, fillV_cons, okFill_nil, okFill_cons, cells_slice, cells_int, cells_bool, cells_str, cells_ptr, cells_agg, stNH_ptr, okN_ptr, wrA1, wrA20, wrA21, c10, e1, e2, e3]
    exact hno (by omega)
  have e3 : decide (y < 0) = false := decide_eq_false h3
  by_cases h4 : y < n
  rotate_left
  · have e4 : decide ((n : Int) ≤ y) = true := decide_eq_true (by omega)
    simp only [go_sem, List.map_cons, List.map_nil, ↓reduceIte, Nat.reduceEqDiff, Nat.reduceAdd, Nat.reduceMul, reduceCtorEq, and_true, true_and, Nat.mul_one, Nat.zero_add, Bool.false_eq_true, decide_true, decide_false, not_false_eq_true, kont_eq, fillV_nil, fillV_cons, okFill_nil, okFill_cons, cells_slice, cells_int, cells_bool, cells_str, cells_ptr, cells_agg, stNH_ptr, okN_ptr, wrA1, wrA20, wrA21, c10, e1, e2, e3, e4]
    exact hno (by omega)
  have e4 : decide ((n : Int) ≤ y) = false := decide_eq_false (by omega)
  obtain ⟨a, rfl⟩ := Int.eq_ofNat_of_zero_le (by omega : 0 ≤ x)
  obtain ⟨b, rfl⟩ := Int.eq_ofNat_of_zero_le (by omega : 0 ≤ y)
  simp only [go_sem, List.map_cons, List.map_nil, ↓reduceIte, Nat.reduceEqDiff, Nat.reduceAdd, Nat.reduceMul, reduceCtorEq, and_true, true_and, Nat.mul_one, Nat.zero_add, Bool.false_eq_true, decide_true, decide_false, not_false_eq_true, kont_eq, fillV_nil, fillV_cons, okFill_nil, okFill_cons, cells_slice, cells_int, cells_bool, cells_str, cells_ptr, cells_agg, stNH_ptr, okN_ptr, wrA1, wrA20, wrA21, c10, e1, e2, e3, e4, B1'.ldNO 2 rfl]
  refine (ha n pv (gridP n R) H1 hn p1 (by have := gridP_len16 R hn; omega)).mono ?_
  rintro r H2 ⟨⟨vs, T2⟩, K2⟩
  rw [inP_gridP hR] at T2
  obtain ⟨tb, tc, db, dc, rfl, -, ci, cij, -⟩ := T2.rowAt (x := a) (y := b) (by omega) (by omega)
  rw [kont_eq]
  simp only [go_sem, List.map_cons, List.map_nil, ↓reduceIte, Nat.reduceEqDiff, Nat.reduceAdd, Nat.reduceMul, reduceCtorEq, and_true, true_and, Nat.mul_one, Nat.zero_add, Bool.false_eq_true, decide_true, decide_false, not_false_eq_true, kont_eq, fillV_nil, fillV_cons, okFill_nil, okFill_cons, cells_slice, cells_int, cells_bool, cells_str, cells_ptr, cells_agg, stNH_ptr, okN_ptr, wrA1, wrA20, wrA21, tn_cast, Nat.mul_one, Nat.zero_add, ci, cij]
  refine ⟨by omega, by omega, ?_⟩
  rw [hQ]
  refine ⟨?_, K1.trans K2⟩
  rw [wsh_tc hR, isRb_nat hR]
noncomputable def rabL (n : Nat) (R : Nat → Nat → Bool) (b : Int) : List Nat := (List.range n).filter fun x : Nat => isRb n R x b
noncomputable def rbeL (n : Nat) (R : Nat → Nat → Bool) (a : Int) : List Nat := (List.range n).filter fun x : Nat => isRb n R a x
def RListSpec (P : Program) (k : FuncId) (F : Nat → (Nat → Nat → Bool) → Int → List Nat) : Prop := ∀ (n : Nat) (R : Nat → Nat → Bool) (v : Value) (b : Int) (H : Hp), ROrd H v n R → CallsM P k #[v, .int .i64 b] H fun r H' => OwS H' r (iN (F n R b)) ∧ (∀ q, ownB r q → H.size ≤ q) ∧ Keep (fun _ => False) H H'
theorem rabov_ok {P : Program} {ι : Ids} {k : FuncId} (hk : FnIs P k (c_rabov ι) r_rabov 2) (hi : RIsSpec P (ι.f 250)) : RListSpec P k rabL := by
  intro n R v b H hv
  have hv0 := hv
  obtain ⟨hn, hR, pv, rfl, hp⟩ := hv
  obtain ⟨Q, hQ⟩ : ∃ Q : Value → Hp → Prop, Q = fun r H' => OwS H' r (iN (rabL n R b)) ∧ (∀ q, ownB r q → H.size ≤ q) ∧ Keep (fun _ => False) H H' := ⟨_, rfl⟩
  rw [← hQ]
  refine calls_of_vc hk (args := [_, _]) (by simp) ?_
  unfold c_rabov r_rabov
  simp only [go_sem, List.map_cons, List.map_nil, ↓reduceIte, Nat.reduceEqDiff, Nat.reduceAdd, Nat.reduceMul, reduceCtorEq, and_true, true_and, Nat.mul_one, Nat.zero_add, Bool.false_eq_true, decide_true, decide_false, not_false_eq_true]
  refine kont_new fun H1 b1 e1 z1 B1 K1 => ?_
  have s1 := K1.size
  have B1' : Bl H1 b1 [.int .i64 (n : Int), pv] := B1
  simp only [go_sem, List.map_cons, List.map_nil, ↓reduceIte, Nat.reduceEqDiff, Nat.reduceAdd, Nat.reduceMul, reduceCtorEq, and_true, true_and, Nat.mul_one, Nat.zero_add, Bool.false_eq_true, decide_true, decide_false, not_false_eq_true, kont_eq]
  refine vc_loop [10, 16, 5, 6] rfl (fun m f A => ∃ (i : Nat) (lv : Value), i ≤ n ∧ m = n - i ∧ f 6 = .int .i64 i ∧ f 5 = lv ∧ OwS A lv (iN ((List.range i).filter fun j : Nat => isRb n R j b)) ∧ (∀ q, ownB lv q → H1.size ≤ q) ∧ Keep (fun _ => False) H1 A) n ?_ ?_
  · exact ⟨0, _, by omega, by omega, by simp only [go_sem, List.map_cons, List.map_nil, ↓reduceIte, Nat.reduceEqDiff, Nat.reduceAdd, Nat.reduceMul, reduceCtorEq, and_true, true_and, Nat.mul_one, Nat.zero_add, Bool.false_eq_true, decide_true, decide_false, not_false_eq_true, kont_eq]; rfl, rfl, OwS.nil _, fun q h => h.elim, Keep.refl _ _⟩
  rintro m f H2 ⟨i, lv, hi', rfl, hf, hf5, O2, own2, K2⟩
  simp only [go_sem, List.map_cons, List.map_nil, ↓reduceIte, Nat.reduceEqDiff, Nat.reduceAdd, Nat.reduceMul, reduceCtorEq, and_true, true_and, Nat.mul_one, Nat.zero_add, Bool.false_eq_true, decide_true, decide_false, not_false_eq_true, kont_eq] at hf hf5
  have s2 := K2.size
  have B2 := K2.bl B1' (by simp)
  have c20 : cell H2 ⟨b1, 0, none⟩ = some (.int .i64 (n : Int)) := by rw [B2.cell]; rfl
  simp only [go_sem, List.map_cons, List.map_nil, ↓reduceIte, Nat.reduceEqDiff, Nat.reduceAdd, Nat.reduceMul, reduceCtorEq, and_true, true_and, Nat.mul_one, Nat.zero_add, Bool.false_eq_true, decide_true, decide_false, not_false_eq_true, hf, c20]
  refine iteV_dec (fun hlt => ?_) (fun hge => ?_)
  · have hin : i < n := by omega
    simp only [go_sem, List.map_cons, List.map_nil, ↓reduceIte, Nat.reduceEqDiff, Nat.reduceAdd, Nat.reduceMul, reduceCtorEq, and_true, true_and, Nat.mul_one, Nat.zero_add, Bool.false_eq_true, decide_true, decide_false, not_false_eq_true, kont_eq, hf, B2.ldNO 2 rfl]
    refine (hi n R _ i b H2 (hv0.keep0 (K1.trans K2))).mono ?_
    rintro r H3 ⟨rfl, K3⟩
    have s3 := K3.size
    have K13 := K2.trans K3
    have eS : (List.range (i + 1)).filter (fun j : Nat => isRb n R j b) = (List.range i).filter (fun j : Nat => isRb n R j b) ++ if isRb n R i b = true then [i] else [] := by
      rw [List.range_succ, List.filter_append]
      cases h : isRb n R i b <;> simp [h]
    have hll : ((List.range i).filter fun j : Nat => isRb n R j b).length ≤ i := by
      have := List.length_filter_le (fun j : Nat => isRb n R j b) (List.range i)
      simpa using this
    have O3 := O2.keep K3 (by simp)
    rw [kont_eq]
    cases hem : isRb n R i b with
    | false =>
      rw [hem] at eS
      simp (disch := omega) only [go_sem, List.map_cons, List.map_nil, ↓reduceIte, Nat.reduceEqDiff, Nat.reduceAdd, Nat.reduceMul, reduceCtorEq, and_true, true_and, Nat.mul_one, Nat.zero_add, Bool.false_eq_true, decide_true, decide_false, not_false_eq_true, kont_eq, hf, hf5, IntWalk.i64_in]
      refine ⟨n - (i + 1), by omega, i + 1, lv, by omega, rfl, rfl, rfl, ?_, own2, K13⟩
      rw [eS]; simpa using O3
    | true =>
      rw [hem] at eS
      simp only [go_sem, List.map_cons, List.map_nil, ↓reduceIte, Nat.reduceEqDiff, Nat.reduceAdd, Nat.reduceMul, reduceCtorEq, and_true, true_and, Nat.mul_one, Nat.zero_add, Bool.false_eq_true, decide_true, decide_false, not_false_eq_true, fillV_nil, fillV_cons, okFill_nil, okFill_cons, cells_slice, cells_int, cells_bool, cells_str, cells_ptr, cells_agg, stNH_ptr, okN_ptr, wrA1, wrA20, wrA21, hf5, hf]
      refine kont_news fun H5 b5 e5 z5 B5 K5 => ?_
      have s5 := K5.size
      have B5' : Bl H5 b5 (iN [i]) := B5
      simp only [go_sem, List.map_cons, List.map_nil, ↓reduceIte, Nat.reduceEqDiff, Nat.reduceAdd, Nat.reduceMul, reduceCtorEq, and_true, true_and, Nat.mul_one, Nat.zero_add, Bool.false_eq_true, decide_true, decide_false, not_false_eq_true, kont_eq]
      have hx5 : SlR H5 (.slice (some ⟨b5, 0, none⟩) 1 1) (iN [i]) := SlR.bl B5' 0 1 1 (by omega) (by rw [iN_len]; simp)
      refine app_slN (l := iN ((List.range i).filter fun j : Nat => isRb n R j b)) (m := iN [i]) H1.size (O3.keep K5 (by simp)) own2 (by omega) hx5 (iL_all1 _) rfl (by omega) (by rw [iN_len, iN_len]; simp; omega) fun v' H6 O6 own6 K6 => ?_
      rw [← iN_app] at O6
      simp (disch := omega) only [go_sem, List.map_cons, List.map_nil, ↓reduceIte, Nat.reduceEqDiff, Nat.reduceAdd, Nat.reduceMul, reduceCtorEq, and_true, true_and, Nat.mul_one, Nat.zero_add, Bool.false_eq_true, decide_true, decide_false, not_false_eq_true, kont_eq, hf, IntWalk.i64_in]
      refine ⟨n - (i + 1), by omega, i + 1, v', by omega, rfl, rfl, rfl, ?_, own6, (K13.trans K5).at_old K6 (Nat.le_refl _)⟩
      rw [eS]; simpa using O6
  · have : i = n := by omega
    subst this
    simp only [go_sem, List.map_cons, List.map_nil, ↓reduceIte, Nat.reduceEqDiff, Nat.reduceAdd, Nat.reduceMul, reduceCtorEq, and_true, true_and, Nat.mul_one, Nat.zero_add, Bool.false_eq_true, decide_true, decide_false, not_false_eq_true, kont_eq, hf5]
    rw [hQ]
    exact ⟨O2, fun q hq => by have := own2 q hq; omega, K1.trans K2⟩
theorem rbelo_ok {P : Program} {ι : Ids} {k : FuncId} (hk : FnIs P k (c_rbelo ι) r_rbelo 2) (hi : RIsSpec P (ι.f 250)) : RListSpec P k rbeL := by
  intro n R v b H hv
  have hv0 := hv
  obtain ⟨hn, hR, pv, rfl, hp⟩ := hv
  obtain ⟨Q, hQ⟩ : ∃ Q : Value → Hp → Prop, Q = fun r H' => OwS H' r (iN (rbeL n R b)) ∧ (∀ q, ownB r q → H.size ≤ q) ∧ Keep (fun _ => False) H H' := ⟨_, rfl⟩
  rw [← hQ]
  refine calls_of_vc hk (args := [_, _]) (by simp) ?_
  unfold c_rbelo r_rbelo
  simp only [go_sem, List.map_cons, List.map_nil, ↓reduceIte, Nat.reduceEqDiff, Nat.reduceAdd, Nat.reduceMul, reduceCtorEq, and_true, true_and, Nat.mul_one, Nat.zero_add, Bool.false_eq_true, decide_true, decide_false, not_false_eq_true]
  refine kont_new fun H1 b1 e1 z1 B1 K1 => ?_
  have s1 := K1.size
  have B1' : Bl H1 b1 [.int .i64 (n : Int), pv] := B1
  simp only [go_sem, List.map_cons, List.map_nil, ↓reduceIte, Nat.reduceEqDiff, Nat.reduceAdd, Nat.reduceMul, reduceCtorEq, and_true, true_and, Nat.mul_one, Nat.zero_add, Bool.false_eq_true, decide_true, decide_false, not_false_eq_true, kont_eq]
  refine vc_loop [10, 16, 5, 6] rfl (fun m f A => ∃ (i : Nat) (lv : Value), i ≤ n ∧ m = n - i ∧ f 6 = .int .i64 i ∧ f 5 = lv ∧ OwS A lv (iN ((List.range i).filter fun j : Nat => isRb n R b j)) ∧ (∀ q, ownB lv q → H1.size ≤ q) ∧ Keep (fun _ => False) H1 A) n ?_ ?_
  · exact ⟨0, _, by omega, by omega, by simp only [go_sem, List.map_cons, List.map_nil, ↓reduceIte, Nat.reduceEqDiff, Nat.reduceAdd, Nat.reduceMul, reduceCtorEq, and_true, true_and, Nat.mul_one, Nat.zero_add, Bool.false_eq_true, decide_true, decide_false, not_false_eq_true, kont_eq]; rfl, rfl, OwS.nil _, fun q h => h.elim, Keep.refl _ _⟩
  rintro m f H2 ⟨i, lv, hi', rfl, hf, hf5, O2, own2, K2⟩
  simp only [go_sem, List.map_cons, List.map_nil, ↓reduceIte, Nat.reduceEqDiff, Nat.reduceAdd, Nat.reduceMul, reduceCtorEq, and_true, true_and, Nat.mul_one, Nat.zero_add, Bool.false_eq_true, decide_true, decide_false, not_false_eq_true, kont_eq] at hf hf5
  have s2 := K2.size
  have B2 := K2.bl B1' (by simp)
  have c20 : cell H2 ⟨b1, 0, none⟩ = some (.int .i64 (n : Int)) := by rw [B2.cell]; rfl
  simp only [go_sem, List.map_cons, List.map_nil, ↓reduceIte, Nat.reduceEqDiff, Nat.reduceAdd, Nat.reduceMul, reduceCtorEq, and_true, true_and, Nat.mul_one, Nat.zero_add, Bool.false_eq_true, decide_true, decide_false, not_false_eq_true, hf, c20]
  refine iteV_dec (fun hlt => ?_) (fun hge => ?_)
  · have hin : i < n := by omega
    simp only [go_sem, List.map_cons, List.map_nil, ↓reduceIte, Nat.reduceEqDiff, Nat.reduceAdd, Nat.reduceMul, reduceCtorEq, and_true, true_and, Nat.mul_one, Nat.zero_add, Bool.false_eq_true, decide_true, decide_false, not_false_eq_true, kont_eq, hf, B2.ldNO 2 rfl]
    refine (hi n R _ b i H2 (hv0.keep0 (K1.trans K2))).mono ?_
    rintro r H3 ⟨rfl, K3⟩
    have s3 := K3.size
    have K13 := K2.trans K3
    have eS : (List.range (i + 1)).filter (fun j : Nat => isRb n R b j) = (List.range i).filter (fun j : Nat => isRb n R b j) ++ if isRb n R b i = true then [i] else [] := by
      rw [List.range_succ, List.filter_append]
      cases h : isRb n R b i <;> simp [h]
    have hll : ((List.range i).filter fun j : Nat => isRb n R b j).length ≤ i := by
      have := List.length_filter_le (fun j : Nat => isRb n R b j) (List.range i)
      simpa using this
    have O3 := O2.keep K3 (by simp)
    rw [kont_eq]
    cases hem : isRb n R b i with
    | false =>
      rw [hem] at eS
      simp (disch := omega) only [go_sem, List.map_cons, List.map_nil, ↓reduceIte, Nat.reduceEqDiff, Nat.reduceAdd, Nat.reduceMul, reduceCtorEq, and_true, true_and, Nat.mul_one, Nat.zero_add, Bool.false_eq_true, decide_true, decide_false, not_false_eq_true, kont_eq, hf, hf5, IntWalk.i64_in]
      refine ⟨n - (i + 1), by omega, i + 1, lv, by omega, rfl, rfl, rfl, ?_, own2, K13⟩
      rw [eS]; simpa using O3
    | true =>
      rw [hem] at eS
      simp only [go_sem, List.map_cons, List.map_nil, ↓reduceIte, Nat.reduceEqDiff, Nat.reduceAdd, Nat.reduceMul, reduceCtorEq, and_true, true_and, Nat.mul_one, Nat.zero_add, Bool.false_eq_true, decide_true, decide_false, not_false_eq_true, fillV_nil, fillV_cons, okFill_nil, okFill_cons, cells_slice, cells_int, cells_bool, cells_str, cells_ptr, cells_agg, stNH_ptr, okN_ptr, wrA1, wrA20, wrA21, hf5, hf]
      refine kont_news fun H5 b5 e5 z5 B5 K5 => ?_
      have s5 := K5.size
      have B5' : Bl H5 b5 (iN [i]) := B5
      simp only [go_sem, List.map_cons, List.map_nil, ↓reduceIte, Nat.reduceEqDiff, Nat.reduceAdd, Nat.reduceMul, reduceCtorEq, and_true, true_and, Nat.mul_one, Nat.zero_add, Bool.false_eq_true, decide_true, decide_false, not_false_eq_true, kont_eq]
      have hx5 : SlR H5 (.slice (some ⟨b5, 0, none⟩) 1 1) (iN [i]) := SlR.bl B5' 0 1 1 (by omega) (by rw [iN_len]; simp)
      refine app_slN (l := iN ((List.range i).filter fun j : Nat => isRb n R b j)) (m := iN [i]) H1.size (O3.keep K5 (by simp)) own2 (by omega) hx5 (iL_all1 _) rfl (by omega) (by rw [iN_len, iN_len]; simp; omega) fun v' H6 O6 own6 K6 => ?_
      rw [← iN_app] at O6
      simp (disch := omega) only [go_sem, List.map_cons, List.map_nil, ↓reduceIte, Nat.reduceEqDiff, Nat.reduceAdd, Nat.reduceMul, reduceCtorEq, and_true, true_and, Nat.mul_one, Nat.zero_add, Bool.false_eq_true, decide_true, decide_false, not_false_eq_true, kont_eq, hf, IntWalk.i64_in]
      refine ⟨n - (i + 1), by omega, i + 1, v', by omega, rfl, rfl, rfl, ?_, own6, (K13.trans K5).at_old K6 (Nat.le_refl _)⟩
      rw [eS]; simpa using O6
  · have : i = n := by omega
    subst this
    simp only [go_sem, List.map_cons, List.map_nil, ↓reduceIte, Nat.reduceEqDiff, Nat.reduceAdd, Nat.reduceMul, reduceCtorEq, and_true, true_and, Nat.mul_one, Nat.zero_add, Bool.false_eq_true, decide_true, decide_false, not_false_eq_true, kont_eq, hf5]
    rw [hQ]
    exact ⟨O2, fun q hq => by have := own2 q hq; omega, K1.trans K2⟩
def RInSpec (P : Program) (k : FuncId) : Prop := ∀ (l : List Nat) (v : Value) (x : Nat) (H : Hp), SlR H v (iN l) → l.length ≤ 1000000 → CallsM P k #[v, .int .i64 x] H fun r H' => r = .bool (decide (x ∈ l)) ∧ H' = H
theorem rin_ok {P : Program} {ι : Ids} {k : FuncId} (hk : FnIs P k (c_rin ι) r_rin 2) : RInSpec P k := by
  intro l v x H hv hl
  obtain ⟨Q, hQ⟩ : ∃ Q : Value → Hp → Prop, Q = fun r H' => r = .bool (decide (x ∈ l)) ∧ H' = H := ⟨_, rfl⟩
  rw [← hQ]
  refine calls_of_vc hk (args := [_, _]) (by simp) ?_
  unfold c_rin r_rin
  have hlen : (iN l).length = l.length := iN_len l
  simp only [go_sem, List.map_cons, List.map_nil, ↓reduceIte, Nat.reduceEqDiff, Nat.reduceAdd, Nat.reduceMul, reduceCtorEq, and_true, true_and, Nat.mul_one, Nat.zero_add, Bool.false_eq_true, decide_true, decide_false, not_false_eq_true, kont_eq, hv.isSl, hv.lenS, hv.len, hlen]
  refine vc_loop [10, 6, 15, 4, 9] rfl (fun m f A => ∃ (i : Nat), i ≤ l.length ∧ m = l.length - i ∧ f 9 = .int .i64 i ∧ (∀ j < i, l.getD j 0 ≠ x) ∧ A = H) l.length ?_ ?_
  · exact ⟨0, by omega, by omega, by simp only [go_sem, List.map_cons, List.map_nil, ↓reduceIte, Nat.reduceEqDiff, Nat.reduceAdd, Nat.reduceMul, reduceCtorEq, and_true, true_and, Nat.mul_one, Nat.zero_add, Bool.false_eq_true, decide_true, decide_false, not_false_eq_true, kont_eq]; rfl, fun j hj => by omega, rfl⟩
  rintro m f A ⟨i, hi, rfl, hf, hno, rfl⟩
  simp only [go_sem, List.map_cons, List.map_nil, ↓reduceIte, Nat.reduceEqDiff, Nat.reduceAdd, Nat.reduceMul, reduceCtorEq, and_true, true_and, Nat.mul_one, Nat.zero_add, Bool.false_eq_true, decide_true, decide_false, not_false_eq_true, kont_eq] at hf
  simp only [go_sem, List.map_cons, List.map_nil, ↓reduceIte, Nat.reduceEqDiff, Nat.reduceAdd, Nat.reduceMul, reduceCtorEq, and_true, true_and, Nat.mul_one, Nat.zero_add, Bool.false_eq_true, decide_true, decide_false, not_false_eq_true, hf]
  refine iteV_dec (fun hlt => ?_) (fun hge => ?_)
  · have hil : i < l.length := by omega
    obtain ⟨b, o, c, rfl, hcl, hcell⟩ := hv.cells (by intro e; rw [e] at hlen; simp at hlen; omega)
    have hc := hcell i (by omega)
    have hc' : cell A ⟨b, o + i, none⟩ = some (.int .i64 ((l.getD i 0 : Nat) : Int)) := by
      rw [hc]; simp [iN, iL, hil]
    by_cases h : l.getD i 0 = x
    · have e1 : (((l.getD i 0 : Nat) : Int) == (x : Int)) = true := by rw [h]; simp
      simp (disch := omega) only [go_sem, List.map_cons, List.map_nil, ↓reduceIte, Nat.reduceEqDiff, Nat.reduceAdd, Nat.reduceMul, reduceCtorEq, and_true, true_and, Nat.mul_one, Nat.zero_add, Bool.false_eq_true, decide_true, decide_false, not_false_eq_true, kont_eq, fillV_nil, fillV_cons, okFill_nil, okFill_cons, cells_slice, cells_int, cells_bool, cells_str, cells_ptr, cells_agg, stNH_ptr, okN_ptr, wrA1, wrA20, wrA21, hf, tn_cast, Nat.mul_one, Nat.zero_add, hc', e1, IntWalk.i64_in]
      refine ⟨by omega, ?_⟩
      rw [hQ]
      refine ⟨?_, rfl⟩
      congr 1; symm
      refine decide_eq_true ?_
      rw [← h, List.getD_eq_getElem?_getD, List.getElem?_eq_getElem hil]
      exact List.getElem_mem _
    · have e1 : (((l.getD i 0 : Nat) : Int) == (x : Int)) = false := by simp only [beq_eq_false_iff_ne, ne_eq]; omega
      simp (disch := omega) only [go_sem, List.map_cons, List.map_nil, ↓reduceIte, Nat.reduceEqDiff, Nat.reduceAdd, Nat.reduceMul, reduceCtorEq, and_true, true_and, Nat.mul_one, Nat.zero_add, Bool.false_eq_true, decide_true, decide_false, not_false_eq_true, kont_eq, fillV_nil, fillV_cons, okFill_nil, okFill_cons, cells_slice, cells_int, cells_bool, cells_str, cells_ptr, cells_agg, stNH_ptr, okN_ptr, wrA1, wrA20, wrA21, hf, tn_cast, Nat.mul_one, Nat.zero_add, hc', e1, IntWalk.i64_in]
      refine ⟨by omega, l.length - (i + 1), by omega, i + 1, by omega, rfl, rfl, fun j hj => ?_⟩
      rcases Nat.lt_or_ge j i with h' | h'
      · exact hno j h'
      · have : j = i := by omega
        subst this; exact h
  · rw [hQ]
    refine ⟨?_, rfl⟩
    congr 1; symm
    refine decide_eq_false fun h => ?_
    obtain ⟨j, hj, e⟩ := List.getElem_of_mem h
    refine hno j (by omega) ?_
    rw [List.getD_eq_getElem?_getD, List.getElem?_eq_getElem hj]; exact e
end Go.Mg

namespace Go.Mg
open Go Go.RowKit
set_option linter.unusedSimpArgs false
set_option linter.unusedVariables false
set_option maxRecDepth 100000
/- arbacref06.New -/
def c_rnew (ι : Ids) : S :=
  .seq (.reg [.e (.v 4) (.new (ι.t 246) #[.int .i64 0, .slice .none 0 0]), .p (.v 5) (.mv (.c (.int .i64 0)))]) (.seq (.seq (.reg [.p (.t 14) (.mv (.v 0)), .p (.t 15) (.cm .lss .i64 (.t 14) (.c (.int
  .i64 0))), .p (.t 16) (.mv (.t 15)), .gp (.t 17) (.t 16) false (.mv (.v 0)), .gp (.t 18) (.t 16) false (.cm .gtr .i64 (.t 17) (.c (.int .i64 256))), .p (.v 19) (.pick (.t 16) (.c (.bool true)) (.t
  18))]) (.ite (.v 19) (.seq (.reg [.p (.t 20) (.m (.bld #[.int .i64 0, .slice .none 0 0] [])), .e .no (.stn 2 (.v 4) (.t 20)), .p (.v 5) (.mv (.c (.int .i64 1)))]) .ret) .skip)) (.seq (.seq (.reg [.p
  (.v 21) (.mv (.v 1)), .p (.v 22) (.m (.lenl (.v 21))), .p (.v 23) (.mv (.c (.int .i64 0)))]) (.blk 0 (.loop (.seq (.reg [.p (.v 24) (.cm .lss .i64 (.v 23) (.v 22))]) (.seq (.ite (.v 24) .skip (.exit
  0)) (.seq (.blk 1 (.seq (.reg [.p (.t 25) (.is 2 (.v 21) (.v 23)), .p (.t 26) (.m (.ldn 2 (.t 25))), .e (.v 7) (.new (ι.t 194) #[.int .i64 0, .int .i64 0]), .e .no (.stn 2 (.v 7) (.t 26))]) (.seq
  (.reg [.p (.t 27) (.ia 2 1 (.v 7) (.c (.int .i64 0))), .p (.t 28) (.ld (.t 27)), .p (.t 29) (.cm .lss .i64 (.t 28) (.c (.int .i64 0))), .p (.t 30) (.mv (.t 29)), .gp (.t 31) (.t 30) false (.ia 2 1 (.v
  7) (.c (.int .i64 0))), .gp (.t 32) (.t 30) false (.ld (.t 31)), .gp (.t 33) (.t 30) false (.mv (.v 0)), .gp (.t 34) (.t 30) false (.cm .geq .i64 (.t 32) (.t 33)), .p (.t 35) (.pick (.t 30) (.c (.bool
  true)) (.t 34)), .p (.t 36) (.mv (.t 35)), .gp (.t 37) (.t 36) false (.ia 2 1 (.v 7) (.c (.int .i64 1))), .gp (.t 38) (.t 36) false (.ld (.t 37)), .gp (.t 39) (.t 36) false (.cm .lss .i64 (.t 38) (.c
  (.int .i64 0))), .p (.t 40) (.pick (.t 36) (.c (.bool true)) (.t 39)), .p (.t 41) (.mv (.t 40)), .gp (.t 42) (.t 41) false (.ia 2 1 (.v 7) (.c (.int .i64 1))), .gp (.t 43) (.t 41) false (.ld (.t 42)),
  .gp (.t 44) (.t 41) false (.mv (.v 0)), .gp (.t 45) (.t 41) false (.cm .geq .i64 (.t 43) (.t 44)), .p (.v 46) (.pick (.t 41) (.c (.bool true)) (.t 45))]) (.ite (.v 46) (.seq (.reg [.p (.t 47) (.m
  (.bld #[.int .i64 0, .slice .none 0 0] [])), .e .no (.stn 2 (.v 4) (.t 47)), .p (.v 5) (.mv (.c (.int .i64 2)))]) .ret) .skip)))) (.reg [.p (.t 48) (.ar .add .i64 (.v 23) (.c (.int .i64 1))), .p (.v
  23) (.mv (.t 48))]))))))) (.seq (.reg [.p (.t 49) (.mv (.v 0)), .p (.t 50) (.mv (.v 1)), .p (.t 51) (.m (.bld #[.int .i64 0, .slice .none 0 0] [(0, (1, .t 49)), (1, (1, .t 50))])), .e (.v 8) (.new
  (ι.t 246) #[.int .i64 0, .slice .none 0 0]), .e .no (.stn 2 (.v 8) (.t 51))]) (.seq (.reg [.p (.t 52) (.mv (.v 0)), .p (.t 53) (.m (.bld #[.int .i64 0, .slice .none 0 0] [(0, (1, .t 52))])), .e (.v 9)
  (.new (ι.t 246) #[.int .i64 0, .slice .none 0 0]), .e .no (.stn 2 (.v 9) (.t 53))]) (.seq (.seq (.reg [.p (.v 10) (.mv (.c (.int .i64 0)))]) (.blk 2 (.loop (.seq (.seq (.reg [.p (.t 54) (.mv (.v 10)),
  .p (.t 55) (.mv (.v 0)), .p (.v 56) (.cm .lss .i64 (.t 54) (.t 55))]) (.ite (.v 56) .skip (.exit 2))) (.seq (.blk 3 (.seq (.reg [.p (.v 11) (.mv (.c (.int .i64 0)))]) (.blk 4 (.loop (.seq (.seq (.reg
  [.p (.t 59) (.mv (.v 11)), .p (.t 60) (.mv (.v 0)), .p (.v 61) (.cm .lss .i64 (.t 59) (.t 60))]) (.ite (.v 61) .skip (.exit 4))) (.seq (.blk 5 (.seq (.reg [.p (.t 64) (.m (.ldn 2 (.v 8))), .p (.t 65)
  (.mv (.v 10)), .p (.t 66) (.mv (.v 11)), .e (.v 67) (.call (ι.f 247) [.t 64, .t 65, .t 66])]) (.ite (.v 67) (.reg [.p (.t 68) (.fa 1 (.v 9)), .p (.t 69) (.ld (.t 68)), .p (.t 70) (.mv (.v 10)), .p (.t
  71) (.mv (.v 11)), .p (.t 72) (.m (.bld #[.int .i64 0, .int .i64 0] [(0, (1, .t 70)), (1, (1, .t 71))])), .e (.t 73) (.bldF (ι.t 194) 2 1 [.t 72]), .e (.t 74) (.app false (ι.t 194) 2 16 #[.int .i64 0,
  .int .i64 0] (.t 69) (.t 73)), .p (.t 75) (.fa 1 (.v 9)), .e .no (.st (.t 75) (.t 74))]) .skip))) (.reg [.p (.t 62) (.mv (.v 11)), .p (.t 63) (.ar .add .i64 (.t 62) (.c (.int .i64 1))), .p (.v 11)
  (.mv (.t 63))]))))))) (.reg [.p (.t 57) (.mv (.v 10)), .p (.t 58) (.ar .add .i64 (.t 57) (.c (.int .i64 1))), .p (.v 10) (.mv (.t 58))])))))) (.seq (.reg [.p (.t 76) (.m (.ldn 2 (.v 9))), .e (.t 77)
  (.call (ι.f 249) [.t 76]), .p (.v 12) (.mv (.t 77))]) (.seq (.seq (.reg [.p (.v 13) (.mv (.c (.int .i64 0)))]) (.blk 6 (.loop (.seq (.seq (.reg [.p (.t 78) (.mv (.v 13)), .p (.t 79) (.mv (.v 0)), .p
  (.v 80) (.cm .lss .i64 (.t 78) (.t 79))]) (.ite (.v 80) .skip (.exit 6))) (.seq (.blk 7 (.seq (.reg [.p (.t 83) (.mv (.v 12)), .p (.t 84) (.mv (.v 13)), .p (.t 85) (.is 1 (.t 83) (.t 84)), .p (.t 86)
  (.ld (.t 85)), .p (.t 87) (.mv (.v 13)), .p (.t 88) (.is 1 (.t 86) (.t 87)), .p (.v 89) (.ld (.t 88))]) (.ite (.v 89) (.seq (.reg [.p (.t 90) (.m (.bld #[.int .i64 0, .slice .none 0 0] [])), .e .no
  (.stn 2 (.v 4) (.t 90)), .p (.v 5) (.mv (.c (.int .i64 16)))]) .ret) .skip))) (.reg [.p (.t 81) (.mv (.v 13)), .p (.t 82) (.ar .add .i64 (.t 81) (.c (.int .i64 1))), .p (.v 13) (.mv (.t 82))]))))))
  (.seq (.reg [.p (.t 91) (.m (.ldn 2 (.v 9))), .e .no (.stn 2 (.v 4) (.t 91)), .p (.v 5) (.mv (.c (.int .i64 0)))]) .ret))))))))
def r_rnew : List RV := [.cn 4 2, .t 5]

def gpre (n : Nat) (R : Nat → Nat → Bool) (x y : Nat) : List NP := (List.range x).flatMap (rowP n R) ++ rowP y R x
theorem gpre_step (n : Nat) (R : Nat → Nat → Bool) (x y : Nat) : gpre n R x (y + 1) = gpre n R x y ++ if R x y = true then [(x, y)] else [] := by
  unfold gpre rowP
  rw [List.range_succ, List.filter_append, List.map_append, ← List.append_assoc]
  cases h : R x y <;> simp [h]
theorem gpre_next (n : Nat) (R : Nat → Nat → Bool) (x : Nat) : gpre n R x n = gpre n R (x + 1) 0 := by
  unfold gpre
  rw [List.range_succ (n := x), List.flatMap_append]
  simp [rowP]
theorem gpre_all (n : Nat) (R : Nat → Nat → Bool) : gpre n R n 0 = gridP n R := by
  unfold gpre gridP; simp [rowP]
theorem rowP_len (n : Nat) (R : Nat → Nat → Bool) (x : Nat) : (rowP n R x).length ≤ n := by
  unfold rowP; rw [List.length_map]
  have := List.length_filter_le (R x) (List.range n)
  simpa using this
theorem gpre_len (n : Nat) (R : Nat → Nat → Bool) : ∀ (x y : Nat), (gpre n R x y).length ≤ x * n + y := by
  intro x y
  have h1 : ∀ x, ((List.range x).flatMap (rowP n R)).length ≤ x * n := fun x => by
    induction x with
    | zero => simp
    | succ x ih =>
      have h2 := rowP_len n R x
      have h3 : ((List.range (x + 1)).flatMap (rowP n R)).length = ((List.range x).flatMap (rowP n R)).length + (rowP n R x).length := by
        rw [List.range_succ, List.flatMap_append, List.length_append]; simp
      have h4 : (x + 1) * n = x * n + n := Nat.succ_mul x n
      omega
  unfold gpre
  rw [List.length_append]
  have := h1 x
  have := rowP_len y R x
  omega
def zR : Value := .agg #[.int .i64 0, .slice none 0 0]
def RNewRes (n : Int) (L : List (Int × Int)) (r : Value) (H : Hp) : Prop :=
  (badN n ∧ r = .tuple #[zR, .int .i64 1]) ∨ (¬ badN n ∧ (¬ ∀ p ∈ L, okP n p) ∧ r = .tuple #[zR, .int .i64 2]) ∨
  (¬ badN n ∧ (∀ p ∈ L, okP n p) ∧ ¬ Acy (relI L) ∧ r = .tuple #[zR, .int .i64 16]) ∨
  (¬ badN n ∧ (∀ p ∈ L, okP n p) ∧ Acy (relI L) ∧ ∃ v, r = .tuple #[v, .int .i64 0] ∧ ROrd H v n.toNat (relI L))
def frR (B : Nat) (r : Value) : Prop := ∀ x pv c, r = .tuple #[.agg #[x, pv], c] → ∀ q, slB pv q → B ≤ q
theorem frR.z (B : Nat) (c : Value) : frR B (.tuple #[zR, c]) := by
  intro x pv c' h q hq
  unfold zR at h
  simp only [Value.tuple.injEq, Array.mk.injEq, List.cons.injEq, Value.agg.injEq, and_true] at h
  rw [← h.1.2] at hq; exact hq.elim
def RNewSpec (P : Program) (k : FuncId) : Prop := ∀ (n : Int) (L : List (Int × Int)) (v : Value) (H : Hp), SlP H v L → L.length < 1000000 → CallsM P k #[.int .i64 n, v] H fun r H' => RNewRes n L r H' ∧ frR H.size r ∧ Keep (fun _ => False) H H'
theorem rnew_ok {P : Program} {ι : Ids} {k : FuncId} (hk : FnIs P k (c_rnew ι) r_rnew 2) (ha : RAbvSpec P (ι.f 249)) (hg : RGivSpec P (ι.f 247)) : RNewSpec P k := by
  intro n L v H hv hn
  obtain ⟨Q, hQ⟩ : ∃ Q : Value → Hp → Prop, Q = fun r H' => RNewRes n L r H' ∧ frR H.size r ∧ Keep (fun _ => False) H H' := ⟨_, rfl⟩
  rw [← hQ]
  refine calls_of_vc hk (args := [_, _]) (by simp) ?_
  unfold c_rnew r_rnew
  simp only [go_sem, List.map_cons, List.map_nil, ↓reduceIte, Nat.reduceEqDiff, Nat.reduceAdd, Nat.reduceMul, reduceCtorEq, and_true, true_and, Nat.mul_one, Nat.zero_add, Bool.false_eq_true, decide_true, decide_false, not_false_eq_true]
  refine kont_new fun H1 b1 e1 z1 B1 K1 => ?_
  have s1 := K1.size
  have B1' : Bl H1 b1 [.int .i64 0, .slice none 0 0] := B1
  have hst1 : ∀ {A : Hp}, Bl A b1 [.int .i64 0, .slice none 0 0] → okNA A ⟨b1, 0, none⟩ 2 := fun h => h.okNA (o := 0) (n := 2) (by simp)
  have hset : ∀ {A : Hp}, Bl A b1 [.int .i64 0, .slice none 0 0] → Bl (stNA A ⟨b1, 0, none⟩ [.int .i64 0, .slice none 0 0]) b1 [.int .i64 0, .slice none 0 0] := fun h => h.stNA 0 [.int .i64 0, .slice none 0 0]
  have hone : ∀ w ∈ [Value.int .i64 0, Value.slice none 0 0], w.oneCell' = true := fun w hw => by simp at hw; rcases hw with rfl | rfl <;> rfl
  have hld : ∀ {A : Hp}, Bl A b1 [.int .i64 0, .slice none 0 0] → ldNO (stNA A ⟨b1, 0, none⟩ [.int .i64 0, .slice none 0 0]) (.pointer (some ⟨b1, 0, none⟩)) 2 = some #[.int .i64 0, .slice none 0 0] := fun h => (hset h).ldNO 2 rfl
  have hz1 : all1 #[Value.int .i64 0, Value.slice none 0 0] := fun w hw => by simp at hw; rcases hw with rfl | rfl <;> rfl
  have her : ∀ (A : Hp) (c : Int), Keep (fun _ => False) H1 A → (∀ A', RNewRes n L (.tuple #[zR, .int .i64 c]) A') → Q (.tuple #[.agg #[.int .i64 0, .slice none 0 0], .int .i64 c]) (stNA A ⟨b1, 0, none⟩ [.int .i64 0, .slice none 0 0]) := fun A c hK h => by
    rw [hQ]
    exact ⟨h _, frR.z _ _, (K1.trans hK).trans' ((Keep.refl (fun q => q = b1) A).stNA _ (.inl rfl)) fun q hq e => by omega⟩
  by_cases hn0 : n < 0
  · have e1 : decide (n < 0) = true := decide_eq_true hn0
    simp only [go_sem, List.map_cons, List.map_nil, ↓reduceIte, Nat.reduceEqDiff, Nat.reduceAdd, Nat.reduceMul, reduceCtorEq, and_true, true_and, Nat.mul_one, Nat.zero_add, Bool.false_eq_true, decide_true, decide_false, not_false_eq_true, kont_eq, fillV_nil, fillV_cons, okFill_nil, okFill_cons, cells_slice, cells_int, cells_bool, cells_str, cells_ptr, cells_agg, stNH_ptr, okN_ptr, wrA1, wrA20, wrA21, e1, hst1 B1', hld B1', hone]
    exact ⟨hz1, her _ _ (Keep.refl _ _) fun _ => .inl ⟨.inl hn0, rfl⟩⟩
  have e1 : decide (n < 0) = false := decide_eq_false hn0
  by_cases hn2 : n > 256
  · have e2 : decide ((256 : Int) < n) = true := decide_eq_true hn2
    simp only [go_sem, List.map_cons, List.map_nil, ↓reduceIte, Nat.reduceEqDiff, Nat.reduceAdd, Nat.reduceMul, reduceCtorEq, and_true, true_and, Nat.mul_one, Nat.zero_add, Bool.false_eq_true, decide_true, decide_false, not_false_eq_true, kont_eq, fillV_nil, fillV_cons, okFill_nil, okFill_cons, cells_slice, cells_int, cells_bool, cells_str, cells_ptr, cells_agg, stNH_ptr, okN_ptr, wrA1, wrA20, wrA21, e1, e2, hst1 B1', hld B1', hone]
    exact ⟨hz1, her _ _ (Keep.refl _ _) fun _ => .inl ⟨.inr hn2, rfl⟩⟩
  have e2 : decide ((256 : Int) < n) = false := decide_eq_false (by omega)
  have hbad : ¬ badN n := by unfold badN; omega
  simp only [go_sem, List.map_cons, List.map_nil, ↓reduceIte, Nat.reduceEqDiff, Nat.reduceAdd, Nat.reduceMul, reduceCtorEq, and_true, true_and, Nat.mul_one, Nat.zero_add, Bool.false_eq_true, decide_true, decide_false, not_false_eq_true, kont_eq, fillV_nil, fillV_cons, okFill_nil, okFill_cons, cells_slice, cells_int, cells_bool, cells_str, cells_ptr, cells_agg, stNH_ptr, okN_ptr, wrA1, wrA20, wrA21, e1, e2, Bool.not_false, hv.isSl, hv.lenS, hv.len]
  refine vc_loop [24, 7, 46, 5, 23] rfl (fun m f A => ∃ i : Nat, i ≤ L.length ∧ m = L.length - i ∧ f 23 = .int .i64 i ∧ (∀ p ∈ L.take i, okP n p) ∧ Keep (fun _ => False) H1 A) L.length ?_ ?_
  · exact ⟨0, by omega, by omega, by simp only [go_sem, List.map_cons, List.map_nil, ↓reduceIte, Nat.reduceEqDiff, Nat.reduceAdd, Nat.reduceMul, reduceCtorEq, and_true, true_and, Nat.mul_one, Nat.zero_add, Bool.false_eq_true, decide_true, decide_false, not_false_eq_true, kont_eq]; rfl, by simp, Keep.refl _ _⟩
  rintro m f H2 ⟨i, hi, rfl, hf, hok, K2⟩
  have s2 := K2.size
  simp only [go_sem, List.map_cons, List.map_nil, ↓reduceIte, Nat.reduceEqDiff, Nat.reduceAdd, Nat.reduceMul, reduceCtorEq, and_true, true_and, Nat.mul_one, Nat.zero_add, Bool.false_eq_true, decide_true, decide_false, not_false_eq_true, kont_eq] at hf
  simp only [go_sem, List.map_cons, List.map_nil, ↓reduceIte, Nat.reduceEqDiff, Nat.reduceAdd, Nat.reduceMul, reduceCtorEq, and_true, true_and, Nat.mul_one, Nat.zero_add, Bool.false_eq_true, decide_true, decide_false, not_false_eq_true, hf]
  refine iteV_dec (fun hlt => ?_) (fun hge => ?_)
  · have hlt : i < L.length := by omega
    have hv2 := (hv.keep0 K1).keep0 K2
    obtain ⟨pb, po, pc, rfl, hpq, hld1⟩ := hv2.elem pE_len hlt
    obtain ⟨p, hp⟩ : ∃ p, p = L[i] := ⟨_, rfl⟩
    rw [← hp] at hld1
    have hld' : ldNA H2 ⟨pb, po + i * 2, none⟩ 2 = some #[.int .i64 p.1, .int .i64 p.2] := hld1
    simp only [go_sem, List.map_cons, List.map_nil, ↓reduceIte, Nat.reduceEqDiff, Nat.reduceAdd, Nat.reduceMul, reduceCtorEq, and_true, true_and, Nat.mul_one, Nat.zero_add, Bool.false_eq_true, decide_true, decide_false, not_false_eq_true, fillV_nil, fillV_cons, okFill_nil, okFill_cons, cells_slice, cells_int, cells_bool, cells_str, cells_ptr, cells_agg, stNH_ptr, okN_ptr, wrA1, wrA20, wrA21, tn_cast, ldNO_ptr, hld']
    refine ⟨by omega, ?_⟩
    refine kont_new fun H3 b3 e3 z3 B3 K3 => ?_
    have s3 := K3.size
    have hst := B3.okNA (o := 0) (n := 2) (by simp)
    have B4 := B3.stNA 0 [.int .i64 p.1, .int .i64 p.2]
    have K4 : Keep (fun q => q = b3) H3 (stNA H3 ⟨b3, 0, none⟩ [.int .i64 p.1, .int .i64 p.2]) := (Keep.refl _ _).stNA _ (.inl rfl)
    simp only [go_sem, List.map_cons, List.map_nil, ↓reduceIte, Nat.reduceEqDiff, Nat.reduceAdd, Nat.reduceMul, reduceCtorEq, and_true, true_and, Nat.mul_one, Nat.zero_add, Bool.false_eq_true, decide_true, decide_false, not_false_eq_true, fillV_nil, fillV_cons, okFill_nil, okFill_cons, cells_slice, cells_int, cells_bool, cells_str, cells_ptr, cells_agg, stNH_ptr, okN_ptr, wrA1, wrA20, wrA21, hst]
    refine ⟨fun x hx => by simp at hx; rcases hx with rfl | rfl <;> rfl, ?_⟩
    rw [kont_eq]
    generalize stNA H3 ⟨b3, 0, none⟩ [.int .i64 p.1, .int .i64 p.2] = H4 at B4 K4 ⊢
    have cB0 : cell H4 ⟨b3, 0, none⟩ = some (.int .i64 p.1) := by rw [B4.cell]; rfl
    have cB1 : cell H4 ⟨b3, 1, none⟩ = some (.int .i64 p.2) := by rw [B4.cell]; rfl
    have K14 : Keep (fun _ => False) H1 H4 := (K2.trans K3).to_old K4 (by omega)
    have C4 := K14.bl B1' (by simp)
    have hpL : p ∈ L := by rw [hp]; exact List.getElem_mem _
    have ha1 : all1 #[Value.int .i64 p.1, Value.int .i64 p.2] := fun w hw => by simp at hw; rcases hw with rfl | rfl <;> rfl
    have hbadp : ¬ okP n p → ∀ A', RNewRes n L (.tuple #[zR, .int .i64 2]) A' := fun h A' => .inr (.inl ⟨hbad, fun h2 => h (h2 p hpL), rfl⟩)
    by_cases h1 : p.1 < 0
    · have e3 : decide (p.1 < 0) = true := decide_eq_true h1
      simp only [go_sem, List.map_cons, List.map_nil, ↓reduceIte, Nat.reduceEqDiff, Nat.reduceAdd, Nat.reduceMul, reduceCtorEq, and_true, true_and, Nat.mul_one, Nat.zero_add, Bool.false_eq_true, decide_true, decide_false, not_false_eq_true, kont_eq, fillV_nil, fillV_cons, okFill_nil, okFill_cons, cells_slice, cells_int, cells_bool, cells_str, cells_ptr, cells_agg, stNH_ptr, okN_ptr, wrA1, wrA20, wrA21, ha1, hf, cB0, cB1, e3, hst1 C4, hld C4, hone, tn_cast]
      exact ⟨by omega, hz1, her _ _ K14 (hbadp fun h => by unfold okP at h; omega)⟩
    have e3 : decide (p.1 < 0) = false := decide_eq_false h1
    by_cases h2 : p.1 < n
    rotate_left
    · have e4 : decide (n ≤ p.1) = true := decide_eq_true (by omega)
      simp only [go_sem, List.map_cons, List.map_nil, ↓reduceIte, Nat.reduceEqDiff, Nat.reduceAdd, Nat.reduceMul, reduceCtorEq, and_true, true_and, Nat.mul_one, Nat.zero_add, Bool.false_eq_true, decide_true, decide_false, not_false_eq_true, kont_eq, fillV_nil, fillV_cons, okFill_nil, okFill_cons, cells_slice, cells_int, cells_bool, cells_str, cells_ptr, cells_agg, stNH_ptr, okN_ptr, wrA1, wrA20, wrA21, ha1, hf, cB0, cB1, e3, e4, hst1 C4, hld C4, hone, tn_cast]
      exact ⟨by omega, by omega, hz1, her _ _ K14 (hbadp fun h => by unfold okP at h; omega)⟩
    have e4 : decide (n ≤ p.1) = false := decide_eq_false (by omega)
    by_cases h3 : p.2 < 0
    · have e5 : decide (p.2 < 0) = true := decide_eq_true h3
      simp only [go_sem, List.map_cons, List.map_nil, ↓reduceIte, Nat.reduceEqDiff, Nat.reduceAdd, Nat.reduceMul, reduceCtorEq, and_true, true_and, Nat.mul_one, Nat.zero_add, Bool.false_eq_true, decide_true, decide_false, not_false_eq_true, kont_eq, fillV_nil, fillV_cons, okFill_nil, okFill_cons, cells_slice, cells_int, cells_bool, cells_str, cells_ptr, cells_agg, stNH_ptr, okN_ptr, wrA1, wrA20, wrA21, ha1, hf, cB0, cB1, e3, e4, e5, hst1 C4, hld C4, hone, tn_cast]
      exact ⟨by omega, by omega, by omega, hz1, her _ _ K14 (hbadp fun h => by unfold okP at h; omega)⟩
    have e5 : decide (p.2 < 0) = false := decide_eq_false h3
    by_cases h4 : p.2 < n
    rotate_left
    · have e6 : decide (n ≤ p.2) = true := decide_eq_true (by omega)
      simp only [go_sem, List.map_cons, List.map_nil, ↓reduceIte, Nat.reduceEqDiff, Nat.reduceAdd, Nat.reduceMul, reduceCtorEq, and_true, true_and, Nat.mul_one, Nat.zero_add, Bool.false_eq_true, decide_true, decide_false, not_false_eq_true, kont_eq, fillV_nil, fillV_cons, okFill_nil, okFill_cons, cells_slice, cells_int, cells_bool, cells_str, cells_ptr, cells_agg, stNH_ptr, okN_ptr, wrA1, wrA20, wrA21, ha1, hf, cB0, cB1, e3, e4, e5, e6, hst1 C4, hld C4, hone, tn_cast]
      exact ⟨by omega, by omega, by omega, by omega, hz1, her _ _ K14 (hbadp fun h => by unfold okP at h; omega)⟩
    have e6 : decide (n ≤ p.2) = false := decide_eq_false (by omega)
    simp (disch := omega) only [go_sem, List.map_cons, List.map_nil, ↓reduceIte, Nat.reduceEqDiff, Nat.reduceAdd, Nat.reduceMul, reduceCtorEq, and_true, true_and, Nat.mul_one, Nat.zero_add, Bool.false_eq_true, decide_true, decide_false, not_false_eq_true, kont_eq, fillV_nil, fillV_cons, okFill_nil, okFill_cons, cells_slice, cells_int, cells_bool, cells_str, cells_ptr, cells_agg, stNH_ptr, okN_ptr, wrA1, wrA20, wrA21, ha1, hf, cB0, cB1, e3, e4, e5, e6, hst1 C4, hld C4, hone, tn_cast, IntWalk.i64_in]
    refine ⟨by omega, by omega, by omega, by omega, L.length - (i + 1), by omega, i + 1, by omega, rfl, rfl, fun q hq => ?_, K14⟩
    rw [List.take_succ_eq_append_getElem hlt, List.mem_append] at hq
    rcases hq with hq | hq
    · exact hok q hq
    · simp only [List.mem_singleton] at hq
      rw [← hp] at hq
      subst hq
      unfold okP; omega
  · have hi : i = L.length := by omega
    subst hi
    rw [List.take_length] at hok
    have hv2 := (hv.keep0 K1).keep0 K2
    have hx : SlE nE 2 H2 v (L.map toN) := hv2.conv (by simp) (toN_flat hok)
    obtain ⟨N, rfl⟩ := Int.eq_ofNat_of_zero_le (by omega : 0 ≤ n)
    obtain ⟨R, hRe⟩ : ∃ R, R = relI L := ⟨_, rfl⟩
    have hRL : inP (L.map toN) = R := by rw [hRe]; exact toN_rel hok
    have hR : Rng N R := by
      rw [← hRL]
      exact Rng.inP fun q hq => by
        obtain ⟨p, hp, rfl⟩ := List.mem_map.1 hq
        obtain ⟨h1, h2, h3, h4⟩ := hok p hp
        exact ⟨by simp only [toN]; omega, by simp only [toN]; omega⟩
    have C2 := K2.bl B1' (by simp)
    obtain ⟨va, vn, vc', rfl⟩ : ∃ a n c, v = .slice a n c := by obtain ⟨a, c, h, _⟩ := hv.mk; exact ⟨a, _, c, h⟩
    simp only [go_sem, List.map_cons, List.map_nil, ↓reduceIte, Nat.reduceEqDiff, Nat.reduceAdd, Nat.reduceMul, reduceCtorEq, and_true, true_and, Nat.mul_one, Nat.zero_add, Bool.false_eq_true, decide_true, decide_false, not_false_eq_true, fillV_nil, fillV_cons, okFill_nil, okFill_cons, cells_slice, cells_int, cells_bool, cells_str, cells_ptr, cells_agg, stNH_ptr, okN_ptr, wrA1, wrA20, wrA21]
    refine ⟨by omega, ?_⟩
    refine kont_new fun H3 b3 e3 z3 B3 K3 => ?_
    have s3 := K3.size
    have hst3 := B3.okNA (o := 0) (n := 2) (by simp)
    have B4 := B3.stNA 0 [.int .i64 (N : Int), .slice va vn vc']
    have K4 : Keep (fun q => q = b3) H3 (stNA H3 ⟨b3, 0, none⟩ [.int .i64 (N : Int), .slice va vn vc']) := (Keep.refl _ _).stNA _ (.inl rfl)
    have ha2 : all1 #[Value.int .i64 (N : Int), Value.slice va vn vc'] := fun w hw => by simp at hw; rcases hw with rfl | rfl <;> rfl
    simp only [go_sem, List.map_cons, List.map_nil, ↓reduceIte, Nat.reduceEqDiff, Nat.reduceAdd, Nat.reduceMul, reduceCtorEq, and_true, true_and, Nat.mul_one, Nat.zero_add, Bool.false_eq_true, decide_true, decide_false, not_false_eq_true, fillV_nil, fillV_cons, okFill_nil, okFill_cons, cells_slice, cells_int, cells_bool, cells_str, cells_ptr, cells_agg, stNH_ptr, okN_ptr, wrA1, wrA20, wrA21, hst3]
    refine ⟨ha2, ?_⟩
    rw [kont_eq]
    have B4' : Bl (stNA H3 ⟨b3, 0, none⟩ [.int .i64 (N : Int), .slice va vn vc']) b3 [.int .i64 (N : Int), .slice va vn vc'] := B4
    generalize stNA H3 ⟨b3, 0, none⟩ [.int .i64 (N : Int), .slice va vn vc'] = H4 at B4' K4 ⊢
    clear B4
    have s4 := K4.size
    have K24 : Keep (fun _ => False) H2 H4 := K3.to_old K4 (by omega)
    simp only [go_sem, List.map_cons, List.map_nil, ↓reduceIte, Nat.reduceEqDiff, Nat.reduceAdd, Nat.reduceMul, reduceCtorEq, and_true, true_and, Nat.mul_one, Nat.zero_add, Bool.false_eq_true, decide_true, decide_false, not_false_eq_true, fillV_nil, fillV_cons, okFill_nil, okFill_cons, cells_slice, cells_int, cells_bool, cells_str, cells_ptr, cells_agg, stNH_ptr, okN_ptr, wrA1, wrA20, wrA21]
    refine ⟨by omega, ?_⟩
    refine kont_new fun H5 b5 e5 z5 B5 K5 => ?_
    have s5 := K5.size
    have hst5 := B5.okNA (o := 0) (n := 2) (by simp)
    have B6 : Bl (stNA H5 ⟨b5, 0, none⟩ [.int .i64 (N : Int), .slice none 0 0]) b5 [.int .i64 (N : Int), .slice none 0 0] := B5.stNA 0 [.int .i64 (N : Int), .slice none 0 0]
    have K6 : Keep (fun q => q = b5) H5 (stNA H5 ⟨b5, 0, none⟩ [.int .i64 (N : Int), .slice none 0 0]) := (Keep.refl _ _).stNA _ (.inl rfl)
    have ha3 : all1 #[Value.int .i64 (N : Int), Value.slice none 0 0] := fun w hw => by simp at hw; rcases hw with rfl | rfl <;> rfl
    simp only [go_sem, List.map_cons, List.map_nil, ↓reduceIte, Nat.reduceEqDiff, Nat.reduceAdd, Nat.reduceMul, reduceCtorEq, and_true, true_and, Nat.mul_one, Nat.zero_add, Bool.false_eq_true, decide_true, decide_false, not_false_eq_true, fillV_nil, fillV_cons, okFill_nil, okFill_cons, cells_slice, cells_int, cells_bool, cells_str, cells_ptr, cells_agg, stNH_ptr, okN_ptr, wrA1, wrA20, wrA21, hst5]
    refine ⟨ha3, ?_⟩
    rw [kont_eq]
    generalize stNA H5 ⟨b5, 0, none⟩ [.int .i64 (N : Int), .slice none 0 0] = H6 at B6 K6 ⊢
    have s6 := K6.size
    have K46 : Keep (fun _ => False) H4 H6 := K5.to_old K6 (by omega)
    have D6 := K46.bl B4' (by simp)
    have x6 := (hx.keep0 K24).keep0 K46
    have K26 := K24.trans K46
    have C6 := K26.bl C2 (by simp)
    have b3l : b3 < H6.size := D6.lt
    simp only [go_sem, List.map_cons, List.map_nil, ↓reduceIte, Nat.reduceEqDiff, Nat.reduceAdd, Nat.reduceMul, reduceCtorEq, and_true, true_and, Nat.mul_one, Nat.zero_add, Bool.false_eq_true, decide_true, decide_false, not_false_eq_true, kont_eq]
    refine vc_loop [56, 11, 61, 67, 10] rfl (fun m g A => ∃ (x : Nat) (w : Value), x ≤ N ∧ m = N - x ∧ g 10 = .int .i64 (x : Int) ∧ Bl A b5 [.int .i64 (N : Int), w] ∧ OwE nE 2 A w (gpre N R x 0) ∧ (∀ q, ownB w q → H6.size ≤ q) ∧ Keep (fun q => q = b5) H6 A) N ?_ ?_
    · exact ⟨0, _, by omega, by omega, by simp only [go_sem, List.map_cons, List.map_nil, ↓reduceIte, Nat.reduceEqDiff, Nat.reduceAdd, Nat.reduceMul, reduceCtorEq, and_true, true_and, Nat.mul_one, Nat.zero_add, Bool.false_eq_true, decide_true, decide_false, not_false_eq_true, kont_eq]; rfl, B6, OwE.nil _, fun q h => h.elim, Keep.refl _ _⟩
    rintro m g H7 ⟨x, w, hx0, rfl, hg10, B7, O7, w7, K7⟩
    have s7 := K7.size
    simp only [go_sem, List.map_cons, List.map_nil, ↓reduceIte, Nat.reduceEqDiff, Nat.reduceAdd, Nat.reduceMul, reduceCtorEq, and_true, true_and, Nat.mul_one, Nat.zero_add, Bool.false_eq_true, decide_true, decide_false, not_false_eq_true, kont_eq] at hg10
    simp only [go_sem, List.map_cons, List.map_nil, ↓reduceIte, Nat.reduceEqDiff, Nat.reduceAdd, Nat.reduceMul, reduceCtorEq, and_true, true_and, Nat.mul_one, Nat.zero_add, Bool.false_eq_true, decide_true, decide_false, not_false_eq_true, hg10]
    refine iteV_dec (fun hlt => ?_) (fun hge => ?_)
    · have hxN : x < N := by omega
      refine vc_loop [61, 67, 11] rfl (fun m g A => ∃ (y : Nat) (w : Value), y ≤ N ∧ m = N - y ∧ g 11 = .int .i64 (y : Int) ∧ Bl A b5 [.int .i64 (N : Int), w] ∧ OwE nE 2 A w (gpre N R x y) ∧ (∀ q, ownB w q → H6.size ≤ q) ∧ Keep (fun q => q = b5) H6 A) N ?_ ?_
      · exact ⟨0, _, by omega, by omega, by simp only [go_sem, List.map_cons, List.map_nil, ↓reduceIte, Nat.reduceEqDiff, Nat.reduceAdd, Nat.reduceMul, reduceCtorEq, and_true, true_and, Nat.mul_one, Nat.zero_add, Bool.false_eq_true, decide_true, decide_false, not_false_eq_true, kont_eq]; rfl, B7, O7, w7, K7⟩
      rintro m g2 H8 ⟨y, w8, hy0, rfl, hg11, B8, O8, o8, K8⟩
      have s8 := K8.size
      simp only [go_sem, List.map_cons, List.map_nil, ↓reduceIte, Nat.reduceEqDiff, Nat.reduceAdd, Nat.reduceMul, reduceCtorEq, and_true, true_and, Nat.mul_one, Nat.zero_add, Bool.false_eq_true, decide_true, decide_false, not_false_eq_true, kont_eq] at hg11
      simp only [go_sem, List.map_cons, List.map_nil, ↓reduceIte, Nat.reduceEqDiff, Nat.reduceAdd, Nat.reduceMul, reduceCtorEq, and_true, true_and, Nat.mul_one, Nat.zero_add, Bool.false_eq_true, decide_true, decide_false, not_false_eq_true, hg11]
      refine iteV_dec (fun hlt => ?_) (fun hge => ?_)
      · have hyN : y < N := by omega
        have D8 := K8.bl D6 (by omega)
        have x8 := x6.keep K8 fun q hq e => by have := (hx.keep0 K24).old hq; omega
        simp only [go_sem, List.map_cons, List.map_nil, ↓reduceIte, Nat.reduceEqDiff, Nat.reduceAdd, Nat.reduceMul, reduceCtorEq, and_true, true_and, Nat.mul_one, Nat.zero_add, Bool.false_eq_true, decide_true, decide_false, not_false_eq_true, kont_eq, hg11, hg10, D8.ldNO 2 rfl]
        refine (hg N x y _ (L.map toN) H8 x8 (by simp; omega)).mono ?_
        rintro rb H9 ⟨rfl, K9⟩
        have s9 := K9.size
        rw [kont_eq, inP_dec, hRL]
        have O9 := O8.keep K9 (by simp)
        have B9 := K9.bl B8 (by simp)
        have hst' := gpre_step N R x y
        cases hRx : R x y with
        | false =>
          rw [hRx] at hst'
          simp only [Bool.false_eq_true, if_false, List.append_nil] at hst'
          simp (disch := omega) only [go_sem, List.map_cons, List.map_nil, ↓reduceIte, Nat.reduceEqDiff, Nat.reduceAdd, Nat.reduceMul, reduceCtorEq, and_true, true_and, Nat.mul_one, Nat.zero_add, Bool.false_eq_true, decide_true, decide_false, not_false_eq_true, kont_eq, hg11, IntWalk.i64_in]
          exact ⟨N - (y + 1), by omega, y + 1, w8, by omega, rfl, rfl, B9, by rw [hst']; exact O9, o8, K8.trans K9.any⟩
        | true =>
          rw [hRx] at hst'
          simp only [if_true] at hst'
          have c91 : cell H9 ⟨b5, 1, none⟩ = some w8 := by rw [B9.cell]; rfl
          simp only [go_sem, List.map_cons, List.map_nil, ↓reduceIte, Nat.reduceEqDiff, Nat.reduceAdd, Nat.reduceMul, reduceCtorEq, and_true, true_and, Nat.mul_one, Nat.zero_add, Bool.false_eq_true, decide_true, decide_false, not_false_eq_true, fillV_nil, fillV_cons, okFill_nil, okFill_cons, cells_slice, cells_int, cells_bool, cells_str, cells_ptr, cells_agg, stNH_ptr, okN_ptr, wrA1, wrA20, wrA21, c91, hg11, hg10]
          refine ⟨by omega, ?_⟩
          refine kont_news fun H10 ba ea za Ba K10 => ?_
          have s10 := K10.size
          obtain ⟨xa, xn, xc, rfl⟩ := O8.shape
          simp only [go_sem, List.map_cons, List.map_nil, ↓reduceIte, Nat.reduceEqDiff, Nat.reduceAdd, Nat.reduceMul, reduceCtorEq, and_true, true_and, Nat.mul_one, Nat.zero_add, Bool.false_eq_true, decide_true, decide_false, not_false_eq_true, kont_eq]
          have hx2 : SlE nE 2 H10 (.slice (some ⟨ba, 0, none⟩) 1 1) [(x, y)] := SlE.bl Ba (l := [(x, y)]) rfl (by simp) (by simp)
          have hgl := gpre_len N R x y
          have hgl2 : x * N + y ≤ 256 * 256 + 256 := Nat.add_le_add (Nat.mul_le_mul (by omega) (by omega)) (by omega)
          refine app_E (m := [(x, y)]) nE_len nE_one (O9.keep K10 (by simp)) hx2 rfl (by unfold maxLen; rw [List.length_singleton]; omega) (by rw [List.length_singleton]; omega) fun v3 A3 O3' L3 own3' => ?_
          have t3 := L3.size
          rw [← hst'] at O3'
          obtain ⟨ya, yn, yc, rfl⟩ := O3'.shape
          have hb5n : ¬ ownB (.slice xa xn xc) b5 := fun h => by have := o8 _ h; omega
          have j13 := L3.bl (K10.bl B9 (by simp)) hb5n
          have hst5 := j13.okSt (o := 1) (by simp)
          have j14 := j13.setc 1 (.slice ya yn yc)
          have L4 : Keep (fun p => p = b5) A3 (setc A3 ⟨b5, 1, none⟩ (.slice ya yn yc)) := (Keep.refl _ _).setc _ (.inl rfl)
          have o4 : ∀ p, ownB (.slice ya yn yc) p → H6.size ≤ p := fun p hp => by
            rcases own3' p hp with h | h
            · exact o8 p h
            · omega
          simp (disch := omega) only [go_sem, List.map_cons, List.map_nil, ↓reduceIte, Nat.reduceEqDiff, Nat.reduceAdd, Nat.reduceMul, reduceCtorEq, and_true, true_and, Nat.mul_one, Nat.zero_add, Bool.false_eq_true, decide_true, decide_false, not_false_eq_true, kont_eq, hst5, hg11, IntWalk.i64_in]
          refine ⟨N - (y + 1), by omega, y + 1, _, by omega, rfl, rfl, j14, O3'.keep L4 (fun q hq e => by have := o4 q hq; omega), o4, ?_⟩
          exact (((K8.trans K9.any).trans K10.any).trans' L3 fun q hq h => by have := o8 _ h; omega).trans L4
      · have hyN : y = N := by omega
        subst hyN
        simp (disch := omega) only [go_sem, List.map_cons, List.map_nil, ↓reduceIte, Nat.reduceEqDiff, Nat.reduceAdd, Nat.reduceMul, reduceCtorEq, and_true, true_and, Nat.mul_one, Nat.zero_add, Bool.false_eq_true, decide_true, decide_false, not_false_eq_true, kont_eq, hg10, IntWalk.i64_in]
        exact ⟨y - (x + 1), by omega, x + 1, w8, by omega, rfl, rfl, B8, by rw [← gpre_next]; exact O8, o8, K8⟩
    · have hxN : x = N := by omega
      subst hxN
      rw [gpre_all] at O7
      simp only [go_sem, List.map_cons, List.map_nil, ↓reduceIte, Nat.reduceEqDiff, Nat.reduceAdd, Nat.reduceMul, reduceCtorEq, and_true, true_and, Nat.mul_one, Nat.zero_add, Bool.false_eq_true, decide_true, decide_false, not_false_eq_true, kont_eq, B7.ldNO 2 rfl]
      refine (ha x w (gridP x R) H7 (by omega) O7.sl (by have := gridP_len16 R (by omega : x ≤ 256); omega)).mono ?_
      rintro r H8 ⟨⟨vs, T8⟩, K8⟩
      have s8 := K8.size
      rw [inP_gridP hR] at T8
      rw [kont_eq]
      simp only [go_sem, List.map_cons, List.map_nil, ↓reduceIte, Nat.reduceEqDiff, Nat.reduceAdd, Nat.reduceMul, reduceCtorEq, and_true, true_and, Nat.mul_one, Nat.zero_add, Bool.false_eq_true, decide_true, decide_false, not_false_eq_true, kont_eq]
      refine vc_loop [80, 89, 5, 13] rfl (fun m g A => ∃ (y : Nat), y ≤ x ∧ m = x - y ∧ g 13 = .int .i64 (y : Int) ∧ (∀ i < y, tcB R i i = false) ∧ Keep (fun _ => False) H8 A) x ?_ ?_
      · exact ⟨0, by omega, by omega, by simp only [go_sem, List.map_cons, List.map_nil, ↓reduceIte, Nat.reduceEqDiff, Nat.reduceAdd, Nat.reduceMul, reduceCtorEq, and_true, true_and, Nat.mul_one, Nat.zero_add, Bool.false_eq_true, decide_true, decide_false, not_false_eq_true, kont_eq]; rfl, fun i hi => by omega, Keep.refl _ _⟩
      rintro m g2 H9 ⟨y, hy0, rfl, hg13, hac, K9⟩
      have s9 := K9.size
      simp only [go_sem, List.map_cons, List.map_nil, ↓reduceIte, Nat.reduceEqDiff, Nat.reduceAdd, Nat.reduceMul, reduceCtorEq, and_true, true_and, Nat.mul_one, Nat.zero_add, Bool.false_eq_true, decide_true, decide_false, not_false_eq_true, kont_eq] at hg13
      have K19 : Keep (fun _ => False) H1 H9 := (((K2.trans K26).trans' K7 fun q hq e => by omega).trans K8).trans K9
      simp only [go_sem, List.map_cons, List.map_nil, ↓reduceIte, Nat.reduceEqDiff, Nat.reduceAdd, Nat.reduceMul, reduceCtorEq, and_true, true_and, Nat.mul_one, Nat.zero_add, Bool.false_eq_true, decide_true, decide_false, not_false_eq_true, hg13]
      refine iteV_dec (fun hlt => ?_) (fun hge => ?_)
      · have hyx : y < x := by omega
        have T9 := T8.keep K9 (by simp)
        obtain ⟨tb, tc, db, dc, rfl, -, ci, cij, -⟩ := T9.rowAt hyx hyx
        rw [wsh_tc hR] at cij
        have C9 := K19.bl B1' (by simp)
        cases hc : tcB R y y with
        | true =>
          rw [hc] at cij
          simp only [go_sem, List.map_cons, List.map_nil, ↓reduceIte, Nat.reduceEqDiff, Nat.reduceAdd, Nat.reduceMul, reduceCtorEq, and_true, true_and, Nat.mul_one, Nat.zero_add, Bool.false_eq_true, decide_true, decide_false, not_false_eq_true, kont_eq, fillV_nil, fillV_cons, okFill_nil, okFill_cons, cells_slice, cells_int, cells_bool, cells_str, cells_ptr, cells_agg, stNH_ptr, okN_ptr, wrA1, wrA20, wrA21, hg13, tn_cast, Nat.mul_one, Nat.zero_add, ci, cij, hst1 C9, hld C9, hone]
          refine ⟨by omega, by omega, hz1, her _ _ K19 fun A' => .inr (.inr (.inl ⟨hbad, hok, fun h => ?_, rfl⟩))⟩
          rw [← hRe] at h
          exact h y (tcB_iff.1 hc)
        | false =>
          rw [hc] at cij
          simp (disch := omega) only [go_sem, List.map_cons, List.map_nil, ↓reduceIte, Nat.reduceEqDiff, Nat.reduceAdd, Nat.reduceMul, reduceCtorEq, and_true, true_and, Nat.mul_one, Nat.zero_add, Bool.false_eq_true, decide_true, decide_false, not_false_eq_true, kont_eq, fillV_nil, fillV_cons, okFill_nil, okFill_cons, cells_slice, cells_int, cells_bool, cells_str, cells_ptr, cells_agg, stNH_ptr, okN_ptr, wrA1, wrA20, wrA21, hg13, tn_cast, Nat.mul_one, Nat.zero_add, ci, cij, IntWalk.i64_in]
          refine ⟨by omega, by omega, x - (y + 1), by omega, y + 1, by omega, rfl, rfl, fun i hi => ?_, K9⟩
          rcases Nat.lt_or_ge i y with h | h
          · exact hac i h
          · have : i = y := by omega
            subst this; exact hc
      · have hyx : y = x := by omega
        subst hyx
        have hA : Acy R := fun a h => by
          have h1 := hac a (hR.tc h).1
          rw [tcB_iff.2 h] at h1; cases h1
        have K79 := K8.trans K9
        have B9 := K79.bl B7 (by simp)
        have O9 := O7.keep K79 (by simp)
        have C9 := K19.bl B1' (by simp)
        obtain ⟨wa, wn, wc, rfl⟩ := O7.shape
        have hst9 := C9.okNA (o := 0) (n := 2) (by simp)
        have C10 : Bl (stNA H9 ⟨b1, 0, none⟩ [.int .i64 (y : Int), .slice wa wn wc]) b1 [.int .i64 (y : Int), .slice wa wn wc] := C9.stNA 0 [.int .i64 (y : Int), .slice wa wn wc]
        have K10 : Keep (fun q => q = b1) H9 (stNA H9 ⟨b1, 0, none⟩ [.int .i64 (y : Int), .slice wa wn wc]) := (Keep.refl _ _).stNA _ (.inl rfl)
        have ha5 : all1 #[Value.int .i64 (y : Int), Value.slice wa wn wc] := fun u hu => by simp at hu; rcases hu with rfl | rfl <;> rfl
        simp only [go_sem, List.map_cons, List.map_nil, ↓reduceIte, Nat.reduceEqDiff, Nat.reduceAdd, Nat.reduceMul, reduceCtorEq, and_true, true_and, Nat.mul_one, Nat.zero_add, Bool.false_eq_true, decide_true, decide_false, not_false_eq_true, kont_eq, fillV_nil, fillV_cons, okFill_nil, okFill_cons, cells_slice, cells_int, cells_bool, cells_str, cells_ptr, cells_agg, stNH_ptr, okN_ptr, wrA1, wrA20, wrA21, B9.ldNO 2 rfl, hst9, C10.ldNO 2 rfl]
        refine ⟨ha5, ?_⟩
        rw [hQ]
        refine ⟨.inr (.inr (.inr ⟨hbad, hok, hRe ▸ hA, _, rfl, ?_⟩)), fun x pv c h q hq => ?_, (K1.trans K19).trans' K10 fun q hq e => by omega⟩
        · rw [← hRe, Int.toNat_natCast]
          exact ⟨by omega, hR, _, rfl, (O9.keep K10 fun q hq e => by have := w7 q hq; omega).sl⟩
        · simp only [Value.tuple.injEq, Array.mk.injEq, List.cons.injEq, Value.agg.injEq, and_true] at h
          rw [← h.1.2] at hq
          have := w7 q (O7.slB hq)
          omega
end Go.Mg

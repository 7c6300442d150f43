/- order: the law Makes. -/
import Derived.Test.YtamkbeibmhkciaaDoorMgT5
namespace Go.Mg
open Go Go.RowKit
set_option linter.unusedSimpArgs false
set_option linter.unusedVariables false
set_option maxRecDepth 100000
/- arbaclaw06.OrderMakes -/
def c_lmakes (ι : Ids) : S :=
  .seq (.reg [.p (.v 4) (.mv (.c (.bool false)))]) (.seq (.seq (.reg [.e (.t 9) (.call (ι.f 270) []), .p (.v 10) (.not (.t 9))]) (.ite (.v 10) (.seq (.reg [.p (.v 4) (.mv (.c (.bool false)))]) .ret)
  .skip)) (.seq (.reg [.p (.t 11) (.mv (.v 1)), .p (.t 12) (.mv (.v 1)), .p (.t 13) (.m (.lenl (.t 12))), .p (.t 14) (.m (.mn (.t 13) (.c (.int .i64 12)))), .p (.t 15) (.m (.sls 2 (.t 11) .none (.some
  (.t 14)))), .p (.v 1) (.mv (.t 15))]) (.seq (.seq (.reg [.p (.t 16) (.mv (.v 0)), .p (.t 17) (.cm .gtr .i64 (.t 16) (.c (.int .i64 12))), .p (.t 18) (.mv (.t 17)), .gp (.t 19) (.t 18) true (.mv (.v
  0)), .gp (.t 20) (.t 18) true (.cm .leq .i64 (.t 19) (.c (.int .i64 256))), .p (.v 21) (.pick (.t 18) (.t 20) (.c (.bool false)))]) (.ite (.v 21) (.reg [.p (.v 0) (.mv (.c (.int .i64 12)))]) .skip))
  (.seq (.reg [.p (.t 23) (.mv (.v 0)), .p (.t 24) (.mv (.v 1)), .e (.t 25) (.call (ι.f 201) [.t 23, .t 24]), .p (.t 22) (.mv (.t 25)), .p (.t 26) (.ext (.t 22) 0), .p (.t 27) (.ext (.t 22) 1), .p (.v
  5) (.mv (.t 26)), .p (.v 6) (.mv (.t 27))]) (.seq (.reg [.p (.t 29) (.mv (.v 0)), .p (.t 30) (.mv (.v 1)), .e (.t 31) (.call (ι.f 254) [.t 29, .t 30]), .p (.t 28) (.mv (.t 31)), .p (.t 32) (.ext (.t
  28) 0), .p (.t 33) (.ext (.t 28) 1), .e (.v 7) (.new (ι.t 246) #[.int .i64 0, .slice .none 0 0]), .e .no (.stn 2 (.v 7) (.t 32)), .p (.v 8) (.mv (.t 33))]) (.seq (.seq (.reg [.p (.t 34) (.mv (.v 6)),
  .p (.t 35) (.mv (.v 8)), .p (.t 36) (.cm .neq .i64 (.t 34) (.t 35)), .p (.t 37) (.mv (.t 36)), .gp (.t 38) (.t 37) false (.mv (.v 6)), .gp (.t 39) (.t 37) false (.cm .neq .i64 (.t 38) (.c (.int .i64
  0))), .p (.v 40) (.pick (.t 37) (.c (.bool true)) (.t 39))]) (.ite (.v 40) (.seq (.reg [.p (.t 41) (.mv (.v 6)), .p (.t 42) (.mv (.v 8)), .p (.t 43) (.cm .eql .i64 (.t 41) (.t 42)), .p (.t 44) (.mv
  (.t 43)), .gp (.t 45) (.t 44) true (.mv (.v 5)), .gp (.t 46) (.t 44) true (.m (.eqn .ptr false (.t 45))), .p (.t 47) (.pick (.t 44) (.t 46) (.c (.bool false))), .p (.v 4) (.mv (.t 47))]) .ret) .skip))
  (.seq (.reg [.p (.t 48) (.mv (.v 5)), .p (.t 49) (.m (.ldn 2 (.v 7))), .e (.t 50) (.call (ι.f 269) [.t 48, .t 49]), .p (.v 4) (.mv (.t 50))]) .ret)))))))
def r_lmakes : List RV := [.t 4]

structure MakC (P : Program) (ι : Ids) : Prop where
  nw : ONewSpec P ι (ι.f 201)
  rn : RNewSpec P (ι.f 254)
def LawMSpec (P : Program) (ι : Ids) (k : FuncId) : Prop := ∀ (n : Int) (L : List (Int × Int)) (v : Value) (H : Hp), TabOk ι H → SlP H v L → L.length ≤ maxLen → CallsM P k #[.int .i64 n, v] H fun x H' => x = .bool true ∧ Keep (fun _ => False) H H'
theorem lmakes_ok {P : Program} {ι : Ids} {k : FuncId} (hk : FnIs P k (c_lmakes ι) r_lmakes 2) (c : LawC P ι) (e : MakC P ι) : LawMSpec P ι k := by
  intro n L v H hT hv hl
  obtain ⟨Q, hQ⟩ : ∃ Q : Value → Hp → Prop, Q = fun x H' => x = .bool true ∧ Keep (fun _ => False) H H' := ⟨_, rfl⟩
  rw [← hQ]
  refine calls_of_vc hk (args := [_, _]) (by simp) ?_
  unfold c_lmakes r_lmakes
  obtain ⟨M, hM⟩ : ∃ M : Nat, M = min L.length 12 := ⟨_, rfl⟩
  have hMl : M ≤ L.length := by omega
  have emn : (if (12 : Int) < (L.length : Int) then (12 : Int) else (L.length : Int)) = (M : Int) := by split <;> omega
  have hS := hv.takeV pE_len hMl
  have hLM : (L.take M).length ≤ 12 := by rw [List.length_take]; omega
  obtain ⟨L', hL'⟩ : ∃ L', L' = L.take M := ⟨_, rfl⟩
  rw [← hL'] at hS hLM
  obtain ⟨va, vc, rfl, hcap⟩ := hv.mk
  obtain ⟨w, hw⟩ : ∃ w, w = slV (.slice va L.length vc) 2 none (some (M : Int)) := ⟨_, rfl⟩
  rw [← hw] at hS
  have hw' : Value.slice (if vc = 0 then va else Option.map (fun x => x) va) M vc = w := by
    rw [hw, slV_slice]
    simp [loN, hiN, Addr.add]
  simp only [go_sem, List.map_cons, List.map_nil, ↓reduceIte, Nat.reduceEqDiff, Nat.reduceAdd, Nat.reduceMul, reduceCtorEq, and_true, true_and, Nat.mul_one, Nat.zero_add, Bool.false_eq_true, decide_true, decide_false, not_false_eq_true, kont_eq]
  refine (c.awk H hT).mono ?_
  rintro x H1 ⟨rfl, K1⟩
  have hT1 := hT.keep K1
  have S1 := hS.keep0 K1
  rw [kont_eq]
  by_cases h12 : n > 12
  · have e1 : decide (n > 12) = true := decide_eq_true h12
    by_cases h256 : n ≤ 256
    · have e2 : decide (n ≤ 256) = true := decide_eq_true h256
      simp only [go_sem, List.map_cons, List.map_nil, ↓reduceIte, Nat.reduceEqDiff, Nat.reduceAdd, Nat.reduceMul, reduceCtorEq, and_true, true_and, Nat.mul_one, Nat.zero_add, Bool.false_eq_true, decide_true, decide_false, not_false_eq_true, kont_eq, fillV_nil, fillV_cons, okFill_nil, okFill_cons, cells_slice, cells_int, cells_bool, cells_str, cells_ptr, cells_agg, stNH_ptr, okN_ptr, wrA1, wrA20, wrA21, e1, e2, emn]
      refine ⟨by omega, ?_⟩
      rw [hw']
      refine (e.nw 12 L' w H1 hT1 S1 (by omega)).mono ?_
      rintro r1 H2 ⟨h1, K2, _⟩
      have hr1 : ∃ p q, r1 = .tuple #[p, .int .i64 q] := by
        rcases h1 with ⟨_, h⟩ | ⟨_, _, h⟩ | ⟨_, _, _, h⟩ | ⟨_, _, _, pv, h, _⟩ <;> exact ⟨_, _, h⟩
      obtain ⟨p, q, rfl⟩ := hr1
      have S2 := S1.keep0 K2
      rw [kont_eq]
      simp only [go_sem, List.map_cons, List.map_nil, ↓reduceIte, Nat.reduceEqDiff, Nat.reduceAdd, Nat.reduceMul, reduceCtorEq, and_true, true_and, Nat.mul_one, Nat.zero_add, Bool.false_eq_true, decide_true, decide_false, not_false_eq_true, kont_eq, fillV_nil, fillV_cons, okFill_nil, okFill_cons, cells_slice, cells_int, cells_bool, cells_str, cells_ptr, cells_agg, stNH_ptr, okN_ptr, wrA1, wrA20, wrA21]
      refine (e.rn 12 L' w H2 S2 (by omega)).mono ?_
      rintro r2 H3 ⟨h2, _, K3⟩
      obtain ⟨c0, d0, e0, x0, rfl, rfl, hd0⟩ := h2.shape
      have K13 := K2.trans K3
      rw [kont_eq]
      simp only [go_sem, List.map_cons, List.map_nil, ↓reduceIte, Nat.reduceEqDiff, Nat.reduceAdd, Nat.reduceMul, reduceCtorEq, and_true, true_and, Nat.mul_one, Nat.zero_add, Bool.false_eq_true, decide_true, decide_false, not_false_eq_true, fillV_nil, fillV_cons, okFill_nil, okFill_cons, cells_slice, cells_int, cells_bool, cells_str, cells_ptr, cells_agg, stNH_ptr, okN_ptr, wrA1, wrA20, wrA21]
      refine kont_new fun H4 b4 e4 z4 B4 K4 => ?_
      have s4 := K4.size
      have hst4 := B4.okNA (o := 0) (n := 2) (by simp)
      have B5 : Bl (stNA H4 ⟨b4, 0, none⟩ [.int .i64 x0, d0]) b4 [.int .i64 x0, d0] := B4.stNA 0 [.int .i64 x0, d0]
      have K5 : Keep (fun q => q = b4) H4 (stNA H4 ⟨b4, 0, none⟩ [.int .i64 x0, d0]) := (Keep.refl _ _).stNA _ (.inl rfl)
      have ha4 : all1 #[Value.int .i64 x0, d0] := fun u hu => by
        simp at hu
        rcases hu with rfl | rfl
        · rfl
        · cases u <;> first | rfl | exact hd0.elim
      simp only [go_sem, List.map_cons, List.map_nil, ↓reduceIte, Nat.reduceEqDiff, Nat.reduceAdd, Nat.reduceMul, reduceCtorEq, and_true, true_and, Nat.mul_one, Nat.zero_add, Bool.false_eq_true, decide_true, decide_false, not_false_eq_true, fillV_nil, fillV_cons, okFill_nil, okFill_cons, cells_slice, cells_int, cells_bool, cells_str, cells_ptr, cells_agg, stNH_ptr, okN_ptr, wrA1, wrA20, wrA21, hst4]
      refine ⟨ha4, ?_⟩
      rw [kont_eq]
      generalize stNA H4 ⟨b4, 0, none⟩ [.int .i64 x0, d0] = H5 at B5 K5 ⊢
      have K35 : Keep (fun _ => False) H3 H5 := K4.to_old K5 (by omega)
      have K05 := (K1.trans K13).trans K35
      have hbadc : ∀ q : Int, p = .pointer none → Q (.bool true) H5 := fun q _ => by rw [hQ]; exact ⟨rfl, K05⟩
      have same : ∀ (q : Int), ((q : Int) == q) = true ∧ ((q : Int) != q) = false := fun q => ⟨by simp, by simp⟩
      rcases h1 with ⟨hb, h1⟩ | ⟨hb, ho, h1⟩ | ⟨hb, ho, ha, h1⟩ | ⟨hb, ho, ha, pv, h1, hO⟩
      · rcases h2 with ⟨_, h2⟩ | ⟨hb', _⟩ | ⟨hb', _⟩ | ⟨hb', _⟩
        · simp only [Value.tuple.injEq, Array.mk.injEq, List.cons.injEq, Value.int.injEq, true_and, and_true] at h1 h2
          obtain ⟨rfl, rfl⟩ := h1
          obtain ⟨-, rfl⟩ := h2
          have e5 : ((1 : Int) != 1) = false := rfl
          have e6 : ((1 : Int) != 0) = true := rfl
          have e7 : ((1 : Int) == 1) = true := rfl
          simp only [go_sem, List.map_cons, List.map_nil, ↓reduceIte, Nat.reduceEqDiff, Nat.reduceAdd, Nat.reduceMul, reduceCtorEq, and_true, true_and, Nat.mul_one, Nat.zero_add, Bool.false_eq_true, decide_true, decide_false, not_false_eq_true, kont_eq, fillV_nil, fillV_cons, okFill_nil, okFill_cons, cells_slice, cells_int, cells_bool, cells_str, cells_ptr, cells_agg, stNH_ptr, okN_ptr, wrA1, wrA20, wrA21, e5, e6, e7]
          exact hbadc 0 rfl
        · exact absurd hb hb'
        · exact absurd hb hb'
        · exact absurd hb hb'
      · rcases h2 with ⟨hb', _⟩ | ⟨_, _, h2⟩ | ⟨_, ho', _⟩ | ⟨_, ho', _⟩
        · exact absurd hb' hb
        · simp only [Value.tuple.injEq, Array.mk.injEq, List.cons.injEq, Value.int.injEq, true_and, and_true] at h1 h2
          obtain ⟨rfl, rfl⟩ := h1
          obtain ⟨-, rfl⟩ := h2
          have e5 : ((2 : Int) != 2) = false := rfl
          have e6 : ((2 : Int) != 0) = true := rfl
          have e7 : ((2 : Int) == 2) = true := rfl
          simp only [go_sem, List.map_cons, List.map_nil, ↓reduceIte, Nat.reduceEqDiff, Nat.reduceAdd, Nat.reduceMul, reduceCtorEq, and_true, true_and, Nat.mul_one, Nat.zero_add, Bool.false_eq_true, decide_true, decide_false, not_false_eq_true, kont_eq, fillV_nil, fillV_cons, okFill_nil, okFill_cons, cells_slice, cells_int, cells_bool, cells_str, cells_ptr, cells_agg, stNH_ptr, okN_ptr, wrA1, wrA20, wrA21, e5, e6, e7]
          exact hbadc 0 rfl
        · exact absurd ho' ho
        · exact absurd ho' ho
      · rcases h2 with ⟨hb', _⟩ | ⟨_, ho', _⟩ | ⟨_, _, _, h2⟩ | ⟨_, _, ha', _⟩
        · exact absurd hb' hb
        · exact absurd ho ho'
        · simp only [Value.tuple.injEq, Array.mk.injEq, List.cons.injEq, Value.int.injEq, true_and, and_true] at h1 h2
          obtain ⟨rfl, rfl⟩ := h1
          obtain ⟨-, rfl⟩ := h2
          have e5 : ((16 : Int) != 16) = false := rfl
          have e6 : ((16 : Int) != 0) = true := rfl
          have e7 : ((16 : Int) == 16) = true := rfl
          simp only [go_sem, List.map_cons, List.map_nil, ↓reduceIte, Nat.reduceEqDiff, Nat.reduceAdd, Nat.reduceMul, reduceCtorEq, and_true, true_and, Nat.mul_one, Nat.zero_add, Bool.false_eq_true, decide_true, decide_false, not_false_eq_true, kont_eq, fillV_nil, fillV_cons, okFill_nil, okFill_cons, cells_slice, cells_int, cells_bool, cells_str, cells_ptr, cells_agg, stNH_ptr, okN_ptr, wrA1, wrA20, wrA21, e5, e6, e7]
          exact hbadc 0 rfl
        · exact absurd ha' ha
      · rcases h2 with ⟨hb', h2⟩ | ⟨_, ho', h2⟩ | ⟨_, _, ha', h2⟩ | ⟨_, _, _, tv, h2, hR⟩
        · exact absurd hb' hb
        · exact absurd ho ho'
        · exact absurd ha ha'
        · simp only [Value.tuple.injEq, Array.mk.injEq, List.cons.injEq, Value.int.injEq, true_and, and_true] at h1 h2
          obtain ⟨rfl, rfl⟩ := h1
          obtain ⟨h2a, rfl⟩ := h2
          subst h2a
          have e5 : ((0 : Int) != 0) = false := rfl
          simp only [go_sem, List.map_cons, List.map_nil, ↓reduceIte, Nat.reduceEqDiff, Nat.reduceAdd, Nat.reduceMul, reduceCtorEq, and_true, true_and, Nat.mul_one, Nat.zero_add, Bool.false_eq_true, decide_true, decide_false, not_false_eq_true, kont_eq, fillV_nil, fillV_cons, okFill_nil, okFill_cons, cells_slice, cells_int, cells_bool, cells_str, cells_ptr, cells_agg, stNH_ptr, okN_ptr, wrA1, wrA20, wrA21, e5, B5.ldNO 2 rfl]
          refine (c.is _ _ p _ H5 (hT.keep K05) (hO.keep0 (K3.trans K35)) (hR.keep0 K35)).mono ?_
          rintro x H6 ⟨rfl, K6⟩
          rw [kont_eq]
          simp only [go_sem, List.map_cons, List.map_nil, ↓reduceIte, Nat.reduceEqDiff, Nat.reduceAdd, Nat.reduceMul, reduceCtorEq, and_true, true_and, Nat.mul_one, Nat.zero_add, Bool.false_eq_true, decide_true, decide_false, not_false_eq_true, kont_eq, fillV_nil, fillV_cons, okFill_nil, okFill_cons, cells_slice, cells_int, cells_bool, cells_str, cells_ptr, cells_agg, stNH_ptr, okN_ptr, wrA1, wrA20, wrA21]
          rw [hQ]
          exact ⟨rfl, K05.trans K6⟩
    · have e2 : decide (n ≤ 256) = false := decide_eq_false h256
      simp only [go_sem, List.map_cons, List.map_nil, ↓reduceIte, Nat.reduceEqDiff, Nat.reduceAdd, Nat.reduceMul, reduceCtorEq, and_true, true_and, Nat.mul_one, Nat.zero_add, Bool.false_eq_true, decide_true, decide_false, not_false_eq_true, kont_eq, fillV_nil, fillV_cons, okFill_nil, okFill_cons, cells_slice, cells_int, cells_bool, cells_str, cells_ptr, cells_agg, stNH_ptr, okN_ptr, wrA1, wrA20, wrA21, e1, e2, emn]
      refine ⟨by omega, ?_⟩
      rw [hw']
      refine (e.nw n L' w H1 hT1 S1 (by omega)).mono ?_
      rintro r1 H2 ⟨h1, K2, _⟩
      have hr1 : ∃ p q, r1 = .tuple #[p, .int .i64 q] := by
        rcases h1 with ⟨_, h⟩ | ⟨_, _, h⟩ | ⟨_, _, _, h⟩ | ⟨_, _, _, pv, h, _⟩ <;> exact ⟨_, _, h⟩
      obtain ⟨p, q, rfl⟩ := hr1
      have S2 := S1.keep0 K2
      rw [kont_eq]
      simp only [go_sem, List.map_cons, List.map_nil, ↓reduceIte, Nat.reduceEqDiff, Nat.reduceAdd, Nat.reduceMul, reduceCtorEq, and_true, true_and, Nat.mul_one, Nat.zero_add, Bool.false_eq_true, decide_true, decide_false, not_false_eq_true, kont_eq, fillV_nil, fillV_cons, okFill_nil, okFill_cons, cells_slice, cells_int, cells_bool, cells_str, cells_ptr, cells_agg, stNH_ptr, okN_ptr, wrA1, wrA20, wrA21]
      refine (e.rn n L' w H2 S2 (by omega)).mono ?_
      rintro r2 H3 ⟨h2, _, K3⟩
      obtain ⟨c0, d0, e0, x0, rfl, rfl, hd0⟩ := h2.shape
      have K13 := K2.trans K3
      rw [kont_eq]
      simp only [go_sem, List.map_cons, List.map_nil, ↓reduceIte, Nat.reduceEqDiff, Nat.reduceAdd, Nat.reduceMul, reduceCtorEq, and_true, true_and, Nat.mul_one, Nat.zero_add, Bool.false_eq_true, decide_true, decide_false, not_false_eq_true, fillV_nil, fillV_cons, okFill_nil, okFill_cons, cells_slice, cells_int, cells_bool, cells_str, cells_ptr, cells_agg, stNH_ptr, okN_ptr, wrA1, wrA20, wrA21]
      refine kont_new fun H4 b4 e4 z4 B4 K4 => ?_
      have s4 := K4.size
      have hst4 := B4.okNA (o := 0) (n := 2) (by simp)
      have B5 : Bl (stNA H4 ⟨b4, 0, none⟩ [.int .i64 x0, d0]) b4 [.int .i64 x0, d0] := B4.stNA 0 [.int .i64 x0, d0]
      have K5 : Keep (fun q => q = b4) H4 (stNA H4 ⟨b4, 0, none⟩ [.int .i64 x0, d0]) := (Keep.refl _ _).stNA _ (.inl rfl)
      have ha4 : all1 #[Value.int .i64 x0, d0] := fun u hu => by
        simp at hu
        rcases hu with rfl | rfl
        · rfl
        · cases u <;> first | rfl | exact hd0.elim
      simp only [go_sem, List.map_cons, List.map_nil, ↓reduceIte, Nat.reduceEqDiff, Nat.reduceAdd, Nat.reduceMul, reduceCtorEq, and_true, true_and, Nat.mul_one, Nat.zero_add, Bool.false_eq_true, decide_true, decide_false, not_false_eq_true, fillV_nil, fillV_cons, okFill_nil, okFill_cons, cells_slice, cells_int, cells_bool, cells_str, cells_ptr, cells_agg, stNH_ptr, okN_ptr, wrA1, wrA20, wrA21, hst4]
      refine ⟨ha4, ?_⟩
      rw [kont_eq]
      generalize stNA H4 ⟨b4, 0, none⟩ [.int .i64 x0, d0] = H5 at B5 K5 ⊢
      have K35 : Keep (fun _ => False) H3 H5 := K4.to_old K5 (by omega)
      have K05 := (K1.trans K13).trans K35
      have hbadc : ∀ q : Int, p = .pointer none → Q (.bool true) H5 := fun q _ => by rw [hQ]; exact ⟨rfl, K05⟩
      have same : ∀ (q : Int), ((q : Int) == q) = true ∧ ((q : Int) != q) = false := fun q => ⟨by simp, by simp⟩
      rcases h1 with ⟨hb, h1⟩ | ⟨hb, ho, h1⟩ | ⟨hb, ho, ha, h1⟩ | ⟨hb, ho, ha, pv, h1, hO⟩
      · rcases h2 with ⟨_, h2⟩ | ⟨hb', _⟩ | ⟨hb', _⟩ | ⟨hb', _⟩
        · simp only [Value.tuple.injEq, Array.mk.injEq, List.cons.injEq, Value.int.injEq, true_and, and_true] at h1 h2
          obtain ⟨rfl, rfl⟩ := h1
          obtain ⟨-, rfl⟩ := h2
          have e5 : ((1 : Int) != 1) = false := rfl
          have e6 : ((1 : Int) != 0) = true := rfl
          have e7 : ((1 : Int) == 1) = true := rfl
          simp only [go_sem, List.map_cons, List.map_nil, ↓reduceIte, Nat.reduceEqDiff, Nat.reduceAdd, Nat.reduceMul, reduceCtorEq, and_true, true_and, Nat.mul_one, Nat.zero_add, Bool.false_eq_true, decide_true, decide_false, not_false_eq_true, kont_eq, fillV_nil, fillV_cons, okFill_nil, okFill_cons, cells_slice, cells_int, cells_bool, cells_str, cells_ptr, cells_agg, stNH_ptr, okN_ptr, wrA1, wrA20, wrA21, e5, e6, e7]
          exact hbadc 0 rfl
        · exact absurd hb hb'
        · exact absurd hb hb'
        · exact absurd hb hb'
      · rcases h2 with ⟨hb', _⟩ | ⟨_, _, h2⟩ | ⟨_, ho', _⟩ | ⟨_, ho', _⟩
        · exact absurd hb' hb
        · simp only [Value.tuple.injEq, Array.mk.injEq, List.cons.injEq, Value.int.injEq, true_and, and_true] at h1 h2
          obtain ⟨rfl, rfl⟩ := h1
          obtain ⟨-, rfl⟩ := h2
          have e5 : ((2 : Int) != 2) = false := rfl
          have e6 : ((2 : Int) != 0) = true := rfl
          have e7 : ((2 : Int) == 2) = true := rfl
          simp only [go_sem, List.map_cons, List.map_nil, ↓reduceIte, Nat.reduceEqDiff, Nat.reduceAdd, Nat.reduceMul, reduceCtorEq, and_true, true_and, Nat.mul_one, Nat.zero_add, Bool.false_eq_true, decide_true, decide_false, not_false_eq_true, kont_eq, fillV_nil, fillV_cons, okFill_nil, okFill_cons, cells_slice, cells_int, cells_bool, cells_str, cells_ptr, cells_agg, stNH_ptr, okN_ptr, wrA1, wrA20, wrA21, e5, e6, e7]
          exact hbadc 0 rfl
        · exact absurd ho' ho
        · exact absurd ho' ho
      · rcases h2 with ⟨hb', _⟩ | ⟨_, ho', _⟩ | ⟨_, _, _, h2⟩ | ⟨_, _, ha', _⟩
        · exact absurd hb' hb
        · exact absurd ho ho'
        · simp only [Value.tuple.injEq, Array.mk.injEq, List.cons.injEq, Value.int.injEq, true_and, and_true] at h1 h2
          obtain ⟨rfl, rfl⟩ := h1
          obtain ⟨-, rfl⟩ := h2
          have e5 : ((16 : Int) != 16) = false := rfl
          have e6 : ((16 : Int) != 0) = true := rfl
          have e7 : ((16 : Int) == 16) = true := rfl
          simp only [go_sem, List.map_cons, List.map_nil, ↓reduceIte, Nat.reduceEqDiff, Nat.reduceAdd, Nat.reduceMul, reduceCtorEq, and_true, true_and, Nat.mul_one, Nat.zero_add, Bool.false_eq_true, decide_true, decide_false, not_false_eq_true, kont_eq, fillV_nil, fillV_cons, okFill_nil, okFill_cons, cells_slice, cells_int, cells_bool, cells_str, cells_ptr, cells_agg, stNH_ptr, okN_ptr, wrA1, wrA20, wrA21, e5, e6, e7]
          exact hbadc 0 rfl
        · exact absurd ha' ha
      · rcases h2 with ⟨hb', h2⟩ | ⟨_, ho', h2⟩ | ⟨_, _, ha', h2⟩ | ⟨_, _, _, tv, h2, hR⟩
        · exact absurd hb' hb
        · exact absurd ho ho'
        · exact absurd ha ha'
        · simp only [Value.tuple.injEq, Array.mk.injEq, List.cons.injEq, Value.int.injEq, true_and, and_true] at h1 h2
          obtain ⟨rfl, rfl⟩ := h1
          obtain ⟨h2a, rfl⟩ := h2
          subst h2a
          have e5 : ((0 : Int) != 0) = false := rfl
          simp only [go_sem, List.map_cons, List.map_nil, ↓reduceIte, Nat.reduceEqDiff, Nat.reduceAdd, Nat.reduceMul, reduceCtorEq, and_true, true_and, Nat.mul_one, Nat.zero_add, Bool.false_eq_true, decide_true, decide_false, not_false_eq_true, kont_eq, fillV_nil, fillV_cons, okFill_nil, okFill_cons, cells_slice, cells_int, cells_bool, cells_str, cells_ptr, cells_agg, stNH_ptr, okN_ptr, wrA1, wrA20, wrA21, e5, B5.ldNO 2 rfl]
          refine (c.is _ _ p _ H5 (hT.keep K05) (hO.keep0 (K3.trans K35)) (hR.keep0 K35)).mono ?_
          rintro x H6 ⟨rfl, K6⟩
          rw [kont_eq]
          simp only [go_sem, List.map_cons, List.map_nil, ↓reduceIte, Nat.reduceEqDiff, Nat.reduceAdd, Nat.reduceMul, reduceCtorEq, and_true, true_and, Nat.mul_one, Nat.zero_add, Bool.false_eq_true, decide_true, decide_false, not_false_eq_true, kont_eq, fillV_nil, fillV_cons, okFill_nil, okFill_cons, cells_slice, cells_int, cells_bool, cells_str, cells_ptr, cells_agg, stNH_ptr, okN_ptr, wrA1, wrA20, wrA21]
          rw [hQ]
          exact ⟨rfl, K05.trans K6⟩
  · have e1 : decide (n > 12) = false := decide_eq_false h12
    simp only [go_sem, List.map_cons, List.map_nil, ↓reduceIte, Nat.reduceEqDiff, Nat.reduceAdd, Nat.reduceMul, reduceCtorEq, and_true, true_and, Nat.mul_one, Nat.zero_add, Bool.false_eq_true, decide_true, decide_false, not_false_eq_true, kont_eq, fillV_nil, fillV_cons, okFill_nil, okFill_cons, cells_slice, cells_int, cells_bool, cells_str, cells_ptr, cells_agg, stNH_ptr, okN_ptr, wrA1, wrA20, wrA21, e1, emn]
    refine ⟨by omega, ?_⟩
    rw [hw']
    refine (e.nw n L' w H1 hT1 S1 (by omega)).mono ?_
    rintro r1 H2 ⟨h1, K2, _⟩
    have hr1 : ∃ p q, r1 = .tuple #[p, .int .i64 q] := by
      rcases h1 with ⟨_, h⟩ | ⟨_, _, h⟩ | ⟨_, _, _, h⟩ | ⟨_, _, _, pv, h, _⟩ <;> exact ⟨_, _, h⟩
    obtain ⟨p, q, rfl⟩ := hr1
    have S2 := S1.keep0 K2
    rw [kont_eq]
    simp only [go_sem, List.map_cons, List.map_nil, ↓reduceIte, Nat.reduceEqDiff, Nat.reduceAdd, Nat.reduceMul, reduceCtorEq, and_true, true_and, Nat.mul_one, Nat.zero_add, Bool.false_eq_true, decide_true, decide_false, not_false_eq_true, kont_eq, fillV_nil, fillV_cons, okFill_nil, okFill_cons, cells_slice, cells_int, cells_bool, cells_str, cells_ptr, cells_agg, stNH_ptr, okN_ptr, wrA1, wrA20, wrA21]
    refine (e.rn n L' w H2 S2 (by omega)).mono ?_
    rintro r2 H3 ⟨h2, _, K3⟩
    obtain ⟨c0, d0, e0, x0, rfl, rfl, hd0⟩ := h2.shape
    have K13 := K2.trans K3
    rw [kont_eq]
    simp only [go_sem, List.map_cons, List.map_nil, ↓reduceIte, Nat.reduceEqDiff, Nat.reduceAdd, Nat.reduceMul, reduceCtorEq, and_true, true_and, Nat.mul_one, Nat.zero_add, Bool.false_eq_true, decide_true, decide_false, not_false_eq_true, fillV_nil, fillV_cons, okFill_nil, okFill_cons, cells_slice, cells_int, cells_bool, cells_str, cells_ptr, cells_agg, stNH_ptr, okN_ptr, wrA1, wrA20, wrA21]
    refine kont_new fun H4 b4 e4 z4 B4 K4 => ?_
    have s4 := K4.size
    have hst4 := B4.okNA (o := 0) (n := 2) (by simp)
    have B5 : Bl (stNA H4 ⟨b4, 0, none⟩ [.int .i64 x0, d0]) b4 [.int .i64 x0, d0] := B4.stNA 0 [.int .i64 x0, d0]
    have K5 : Keep (fun q => q = b4) H4 (stNA H4 ⟨b4, 0, none⟩ [.int .i64 x0, d0]) := (Keep.refl _ _).stNA _ (.inl rfl)
    have ha4 : all1 #[Value.int .i64 x0, d0] := fun u hu => by
      simp at hu
      rcases hu with rfl | rfl
      · rfl
      · cases u <;> first | rfl | exact hd0.elim
    simp only [go_sem, List.map_cons, List.map_nil, ↓reduceIte, Nat.reduceEqDiff, Nat.reduceAdd, Nat.reduceMul, reduceCtorEq, and_true, true_and, Nat.mul_one, Nat.zero_add, Bool.false_eq_true, decide_true, decide_false, not_false_eq_true, fillV_nil, fillV_cons, okFill_nil, okFill_cons, cells_slice, cells_int, cells_bool, cells_str, cells_ptr, cells_agg, stNH_ptr, okN_ptr, wrA1, wrA20, wrA21, hst4]
    refine ⟨ha4, ?_⟩
    rw [kont_eq]
    generalize stNA H4 ⟨b4, 0, none⟩ [.int .i64 x0, d0] = H5 at B5 K5 ⊢
    have K35 : Keep (fun _ => False) H3 H5 := K4.to_old K5 (by omega)
    have K05 := (K1.trans K13).trans K35
    have hbadc : ∀ q : Int, p = .pointer none → Q (.bool true) H5 := fun q _ => by rw [hQ]; exact ⟨rfl, K05⟩
    have same : ∀ (q : Int), ((q : Int) == q) = true ∧ ((q : Int) != q) = false := fun q => ⟨by simp, by simp⟩
    rcases h1 with ⟨hb, h1⟩ | ⟨hb, ho, h1⟩ | ⟨hb, ho, ha, h1⟩ | ⟨hb, ho, ha, pv, h1, hO⟩
    · rcases h2 with ⟨_, h2⟩ | ⟨hb', _⟩ | ⟨hb', _⟩ | ⟨hb', _⟩
      · simp only [Value.tuple.injEq, Array.mk.injEq, List.cons.injEq, Value.int.injEq, true_and, and_true] at h1 h2
        obtain ⟨rfl, rfl⟩ := h1
        obtain ⟨-, rfl⟩ := h2
        have e5 : ((1 : Int) != 1) = false := rfl
        have e6 : ((1 : Int) != 0) = true := rfl
        have e7 : ((1 : Int) == 1) = true := rfl
        simp only [go_sem, List.map_cons, List.map_nil, ↓reduceIte, Nat.reduceEqDiff, Nat.reduceAdd, Nat.reduceMul, reduceCtorEq, and_true, true_and, Nat.mul_one, Nat.zero_add, Bool.false_eq_true, decide_true, decide_false, not_false_eq_true, kont_eq, fillV_nil, fillV_cons, okFill_nil, okFill_cons, cells_slice, cells_int, cells_bool, cells_str, cells_ptr, cells_agg, stNH_ptr, okN_ptr, wrA1, wrA20, wrA21, e5, e6, e7]
        exact hbadc 0 rfl
      · exact absurd hb hb'
      · exact absurd hb hb'
      · exact absurd hb hb'
    · rcases h2 with ⟨hb', _⟩ | ⟨_, _, h2⟩ | ⟨_, ho', _⟩ | ⟨_, ho', _⟩
      · exact absurd hb' hb
      · simp only [Value.tuple.injEq, Array.mk.injEq, List.cons.injEq, Value.int.injEq, true_and, and_true] at h1 h2
        obtain ⟨rfl, rfl⟩ := h1
        obtain ⟨-, rfl⟩ := h2
        have e5 : ((2 : Int) != 2) = false := rfl
        have e6 : ((2 : Int) != 0) = true := rfl
        have e7 : ((2 : Int) == 2) = true := rfl
        simp only [go_sem, List.map_cons, List.map_nil, ↓reduceIte, Nat.reduceEqDiff, Nat.reduceAdd, Nat.reduceMul, reduceCtorEq, and_true, true_and, Nat.mul_one, Nat.zero_add, Bool.false_eq_true, decide_true, decide_false, not_false_eq_true, kont_eq, fillV_nil, fillV_cons, okFill_nil, okFill_cons, cells_slice, cells_int, cells_bool, cells_str, cells_ptr, cells_agg, stNH_ptr, okN_ptr, wrA1, wrA20, wrA21, e5, e6, e7]
        exact hbadc 0 rfl
      · exact absurd ho' ho
      · exact absurd ho' ho
    · rcases h2 with ⟨hb', _⟩ | ⟨_, ho', _⟩ | ⟨_, _, _, h2⟩ | ⟨_, _, ha', _⟩
      · exact absurd hb' hb
      · exact absurd ho ho'
      · simp only [Value.tuple.injEq, Array.mk.injEq, List.cons.injEq, Value.int.injEq, true_and, and_true] at h1 h2
        obtain ⟨rfl, rfl⟩ := h1
        obtain ⟨-, rfl⟩ := h2
        have e5 : ((16 : Int) != 16) = false := rfl
        have e6 : ((16 : Int) != 0) = true := rfl
        have e7 : ((16 : Int) == 16) = true := rfl
        simp only [go_sem, List.map_cons, List.map_nil, ↓reduceIte, Nat.reduceEqDiff, Nat.reduceAdd, Nat.reduceMul, reduceCtorEq, and_true, true_and, Nat.mul_one, Nat.zero_add, Bool.false_eq_true, decide_true, decide_false, not_false_eq_true, kont_eq, fillV_nil, fillV_cons, okFill_nil, okFill_cons, cells_slice, cells_int, cells_bool, cells_str, cells_ptr, cells_agg, stNH_ptr, okN_ptr, wrA1, wrA20, wrA21, e5, e6, e7]
        exact hbadc 0 rfl
      · exact absurd ha' ha
    · rcases h2 with ⟨hb', h2⟩ | ⟨_, ho', h2⟩ | ⟨_, _, ha', h2⟩ | ⟨_, _, _, tv, h2, hR⟩
      · exact absurd hb' hb
      · exact absurd ho ho'
      · exact absurd ha ha'
      · simp only [Value.tuple.injEq, Array.mk.injEq, List.cons.injEq, Value.int.injEq, true_and, and_true] at h1 h2
        obtain ⟨rfl, rfl⟩ := h1
        obtain ⟨h2a, rfl⟩ := h2
        subst h2a
        have e5 : ((0 : Int) != 0) = false := rfl
        simp only [go_sem, List.map_cons, List.map_nil, ↓reduceIte, Nat.reduceEqDiff, Nat.reduceAdd, Nat.reduceMul, reduceCtorEq, and_true, true_and, Nat.mul_one, Nat.zero_add, Bool.false_eq_true, decide_true, decide_false, not_false_eq_true, kont_eq, fillV_nil, fillV_cons, okFill_nil, okFill_cons, cells_slice, cells_int, cells_bool, cells_str, cells_ptr, cells_agg, stNH_ptr, okN_ptr, wrA1, wrA20, wrA21, e5, B5.ldNO 2 rfl]
        refine (c.is _ _ p _ H5 (hT.keep K05) (hO.keep0 (K3.trans K35)) (hR.keep0 K35)).mono ?_
        rintro x H6 ⟨rfl, K6⟩
        rw [kont_eq]
        simp only [go_sem, List.map_cons, List.map_nil, ↓reduceIte, Nat.reduceEqDiff, Nat.reduceAdd, Nat.reduceMul, reduceCtorEq, and_true, true_and, Nat.mul_one, Nat.zero_add, Bool.false_eq_true, decide_true, decide_false, not_false_eq_true, kont_eq, fillV_nil, fillV_cons, okFill_nil, okFill_cons, cells_slice, cells_int, cells_bool, cells_str, cells_ptr, cells_agg, stNH_ptr, okN_ptr, wrA1, wrA20, wrA21]
        rw [hQ]
        exact ⟨rfl, K05.trans K6⟩
end Go.Mg

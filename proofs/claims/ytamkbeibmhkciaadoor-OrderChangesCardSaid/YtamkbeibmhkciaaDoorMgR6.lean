/- Several texts of ours in one. No conditions. -/
import Derived.Test.YtamkbeibmhkciaaDoorMgR4
namespace Go.Mg
open Go Go.RowKit
set_option linter.unusedSimpArgs false
set_option linter.unusedVariables false
set_option maxRecDepth 100000
/- arbacref06.Closed -/
def c_rclo (ι : Ids) : S :=
  .seq (.reg [.e (.v 1) (.box (ι.t 246) (.v 0)), .e (.v 2) (.new (ι.t 246) #[.int .i64 0, .slice .none 0 0])]) (.seq (.reg [.p (.t 7) (.m (.ldn 2 (.v 1))), .e (.t 8) (.call (ι.f 249) [.t 7]), .p (.v 3)
  (.mv (.t 8))]) (.seq (.reg [.p (.t 9) (.fa 0 (.v 1)), .p (.t 10) (.ld (.t 9)), .p (.t 11) (.m (.bld #[.int .i64 0, .slice .none 0 0] [(0, (1, .t 10))])), .e (.v 4) (.new (ι.t 246) #[.int .i64 0,
  .slice .none 0 0]), .e .no (.stn 2 (.v 4) (.t 11))]) (.seq (.seq (.reg [.p (.v 5) (.mv (.c (.int .i64 0)))]) (.blk 0 (.loop (.seq (.seq (.reg [.p (.t 12) (.mv (.v 5)), .p (.t 13) (.fa 0 (.v 1)), .p
  (.t 14) (.ld (.t 13)), .p (.v 15) (.cm .lss .i64 (.t 12) (.t 14))]) (.ite (.v 15) .skip (.exit 0))) (.seq (.blk 1 (.seq (.reg [.p (.v 6) (.mv (.c (.int .i64 0)))]) (.blk 2 (.loop (.seq (.seq (.reg [.p
  (.t 18) (.mv (.v 6)), .p (.t 19) (.fa 0 (.v 1)), .p (.t 20) (.ld (.t 19)), .p (.v 21) (.cm .lss .i64 (.t 18) (.t 20))]) (.ite (.v 21) .skip (.exit 2))) (.seq (.blk 3 (.seq (.reg [.p (.t 24) (.mv (.v
  3)), .p (.t 25) (.mv (.v 5)), .p (.t 26) (.is 1 (.t 24) (.t 25)), .p (.t 27) (.ld (.t 26)), .p (.t 28) (.mv (.v 6)), .p (.t 29) (.is 1 (.t 27) (.t 28)), .p (.v 30) (.ld (.t 29))]) (.ite (.v 30) (.reg
  [.p (.t 31) (.fa 1 (.v 4)), .p (.t 32) (.ld (.t 31)), .p (.t 33) (.mv (.v 5)), .p (.t 34) (.mv (.v 6)), .p (.t 35) (.m (.bld #[.int .i64 0, .int .i64 0] [(0, (1, .t 33)), (1, (1, .t 34))])), .e (.t
  36) (.bldF (ι.t 194) 2 1 [.t 35]), .e (.t 37) (.app false (ι.t 194) 2 16 #[.int .i64 0, .int .i64 0] (.t 32) (.t 36)), .p (.t 38) (.fa 1 (.v 4)), .e .no (.st (.t 38) (.t 37))]) .skip))) (.reg [.p (.t
  22) (.mv (.v 6)), .p (.t 23) (.ar .add .i64 (.t 22) (.c (.int .i64 1))), .p (.v 6) (.mv (.t 23))]))))))) (.reg [.p (.t 16) (.mv (.v 5)), .p (.t 17) (.ar .add .i64 (.t 16) (.c (.int .i64 1))), .p (.v
  5) (.mv (.t 17))])))))) (.seq (.reg [.p (.t 39) (.m (.ldn 2 (.v 4))), .e .no (.stn 2 (.v 2) (.t 39))]) .ret))))
def r_rclo : List RV := [.cn 2 2]
/- arbacref06.Reduced -/
def c_rred (ι : Ids) : S :=
  .seq (.reg [.e (.v 1) (.box (ι.t 246) (.v 0)), .e (.v 2) (.new (ι.t 246) #[.int .i64 0, .slice .none 0 0])]) (.seq (.reg [.p (.t 9) (.m (.ldn 2 (.v 1))), .e (.t 10) (.call (ι.f 249) [.t 9]), .p (.v 3)
  (.mv (.t 10))]) (.seq (.reg [.p (.t 11) (.fa 0 (.v 1)), .p (.t 12) (.ld (.t 11)), .p (.t 13) (.m (.bld #[.int .i64 0, .slice .none 0 0] [(0, (1, .t 12))])), .e (.v 4) (.new (ι.t 246) #[.int .i64 0,
  .slice .none 0 0]), .e .no (.stn 2 (.v 4) (.t 13))]) (.seq (.seq (.reg [.p (.v 5) (.mv (.c (.int .i64 0)))]) (.blk 0 (.loop (.seq (.seq (.reg [.p (.t 14) (.mv (.v 5)), .p (.t 15) (.fa 0 (.v 1)), .p
  (.t 16) (.ld (.t 15)), .p (.v 17) (.cm .lss .i64 (.t 14) (.t 16))]) (.ite (.v 17) .skip (.exit 0))) (.seq (.blk 1 (.seq (.reg [.p (.v 6) (.mv (.c (.int .i64 0)))]) (.blk 2 (.loop (.seq (.seq (.reg [.p
  (.t 20) (.mv (.v 6)), .p (.t 21) (.fa 0 (.v 1)), .p (.t 22) (.ld (.t 21)), .p (.v 23) (.cm .lss .i64 (.t 20) (.t 22))]) (.ite (.v 23) .skip (.exit 2))) (.seq (.blk 3 (.seq (.reg [.p (.t 26) (.mv (.v
  3)), .p (.t 27) (.mv (.v 5)), .p (.t 28) (.is 1 (.t 26) (.t 27)), .p (.t 29) (.ld (.t 28)), .p (.t 30) (.mv (.v 6)), .p (.t 31) (.is 1 (.t 29) (.t 30)), .p (.t 32) (.ld (.t 31)), .p (.v 7) (.mv (.t
  32))]) (.seq (.seq (.reg [.p (.v 8) (.mv (.c (.int .i64 0)))]) (.blk 4 (.loop (.seq (.seq (.reg [.p (.t 33) (.mv (.v 8)), .p (.t 34) (.fa 0 (.v 1)), .p (.t 35) (.ld (.t 34)), .p (.v 36) (.cm .lss .i64
  (.t 33) (.t 35))]) (.ite (.v 36) .skip (.exit 4))) (.seq (.blk 5 (.reg [.p (.t 39) (.mv (.v 7)), .p (.t 40) (.mv (.t 39)), .gp (.t 41) (.t 40) true (.mv (.v 3)), .gp (.t 42) (.t 40) true (.mv (.v 5)),
  .gp (.t 43) (.t 40) true (.is 1 (.t 41) (.t 42)), .gp (.t 44) (.t 40) true (.ld (.t 43)), .gp (.t 45) (.t 40) true (.mv (.v 8)), .gp (.t 46) (.t 40) true (.is 1 (.t 44) (.t 45)), .gp (.t 47) (.t 40)
  true (.ld (.t 46)), .gp (.t 48) (.t 40) true (.mv (.t 47)), .gp (.t 49) (.t 48) true (.mv (.v 3)), .gp (.t 50) (.t 48) true (.mv (.v 8)), .gp (.t 51) (.t 48) true (.is 1 (.t 49) (.t 50)), .gp (.t 52)
  (.t 48) true (.ld (.t 51)), .gp (.t 53) (.t 48) true (.mv (.v 6)), .gp (.t 54) (.t 48) true (.is 1 (.t 52) (.t 53)), .gp (.t 55) (.t 48) true (.ld (.t 54)), .gp (.t 56) (.t 40) true (.pick (.t 48) (.t
  55) (.c (.bool false))), .gp (.t 57) (.t 40) true (.not (.t 56)), .p (.t 58) (.pick (.t 40) (.t 57) (.c (.bool false))), .p (.v 7) (.mv (.t 58))])) (.reg [.p (.t 37) (.mv (.v 8)), .p (.t 38) (.ar .add
  .i64 (.t 37) (.c (.int .i64 1))), .p (.v 8) (.mv (.t 38))])))))) (.seq (.reg [.p (.v 59) (.mv (.v 7))]) (.ite (.v 59) (.reg [.p (.t 60) (.fa 1 (.v 4)), .p (.t 61) (.ld (.t 60)), .p (.t 62) (.mv (.v
  5)), .p (.t 63) (.mv (.v 6)), .p (.t 64) (.m (.bld #[.int .i64 0, .int .i64 0] [(0, (1, .t 62)), (1, (1, .t 63))])), .e (.t 65) (.bldF (ι.t 194) 2 1 [.t 64]), .e (.t 66) (.app false (ι.t 194) 2 16
  #[.int .i64 0, .int .i64 0] (.t 61) (.t 65)), .p (.t 67) (.fa 1 (.v 4)), .e .no (.st (.t 67) (.t 66))]) .skip))))) (.reg [.p (.t 24) (.mv (.v 6)), .p (.t 25) (.ar .add .i64 (.t 24) (.c (.int .i64
  1))), .p (.v 6) (.mv (.t 25))]))))))) (.reg [.p (.t 18) (.mv (.v 5)), .p (.t 19) (.ar .add .i64 (.t 18) (.c (.int .i64 1))), .p (.v 5) (.mv (.t 19))])))))) (.seq (.reg [.p (.t 68) (.m (.ldn 2 (.v
  4))), .e .no (.stn 2 (.v 2) (.t 68))]) .ret))))
def r_rred : List RV := [.cn 2 2]

def RMapSpec (P : Program) (k : FuncId) (F : Nat → (Nat → Nat → Bool) → Nat → Nat → Bool) : Prop := ∀ (n : Nat) (R : Nat → Nat → Bool) (v : Value) (H : Hp), ROrd H v n R → CallsM P k #[v] H fun r H' => ROrd H' r n (F n R) ∧ Keep (fun _ => False) H H'
theorem rclo_ok {P : Program} {ι : Ids} {k : FuncId} (hk : FnIs P k (c_rclo ι) r_rclo 1) (ha : RAbvSpec P (ι.f 249)) : RMapSpec P k (fun _ R => tcB R) := by
  intro N R v H hv
  obtain ⟨hn, hR, pv, rfl, hp⟩ := hv
  obtain ⟨S, hS⟩ : ∃ S, S = tcB R := ⟨_, rfl⟩
  obtain ⟨Q, hQ⟩ : ∃ Q : Value → Hp → Prop, Q = fun r H' => ROrd H' r N S ∧ Keep (fun _ => False) H H' := ⟨_, rfl⟩
  show CallsM P k _ H fun r H' => ROrd H' r N (tcB R) ∧ Keep (fun _ => False) H H'
  rw [← hS, ← hQ]
  refine calls_of_vc hk (args := [_]) (by simp) ?_
  unfold c_rclo r_rclo
  simp only [go_sem, List.map_cons, List.map_nil, ↓reduceIte, Nat.reduceEqDiff, Nat.reduceAdd, Nat.reduceMul, reduceCtorEq, and_true, true_and, Nat.mul_one, Nat.zero_add, Bool.false_eq_true, decide_true, decide_false, not_false_eq_true]
  refine kont_new fun H0 b0 e0 z0 B0 K0 => ?_
  have s0 := K0.size
  have B0' : Bl H0 b0 [.int .i64 (N : Int), pv] := B0
  simp only [go_sem, List.map_cons, List.map_nil, ↓reduceIte, Nat.reduceEqDiff, Nat.reduceAdd, Nat.reduceMul, reduceCtorEq, and_true, true_and, Nat.mul_one, Nat.zero_add, Bool.false_eq_true, decide_true, decide_false, not_false_eq_true]
  refine kont_new fun H1 b1 e1 z1 B1 K1 => ?_
  have s1 := K1.size
  have B1' : Bl H1 b1 [.int .i64 0, .slice none 0 0] := B1
  have D1 := K1.bl B0' (by simp)
  have p1 := (hp.keep0 K0).keep0 K1
  simp only [go_sem, List.map_cons, List.map_nil, ↓reduceIte, Nat.reduceEqDiff, Nat.reduceAdd, Nat.reduceMul, reduceCtorEq, and_true, true_and, Nat.mul_one, Nat.zero_add, Bool.false_eq_true, decide_true, decide_false, not_false_eq_true, kont_eq, D1.ldNO 2 rfl]
  refine (ha N pv (gridP N R) H1 hn p1 (by have := gridP_len16 R hn; omega)).mono ?_
  rintro rt H2 ⟨⟨vs, T2⟩, K2⟩
  have s2 := K2.size
  rw [inP_gridP hR] at T2
  have T2' := T2.congr fun x _ y _ => wsh_tc hR x y
  have D2 := K2.bl D1 (by simp)
  have c20 : cell H2 ⟨b0, 0, none⟩ = some (.int .i64 (N : Int)) := by rw [D2.cell]; rfl
  rw [kont_eq]
  simp only [go_sem, List.map_cons, List.map_nil, ↓reduceIte, Nat.reduceEqDiff, Nat.reduceAdd, Nat.reduceMul, reduceCtorEq, and_true, true_and, Nat.mul_one, Nat.zero_add, Bool.false_eq_true, decide_true, decide_false, not_false_eq_true, fillV_nil, fillV_cons, okFill_nil, okFill_cons, cells_slice, cells_int, cells_bool, cells_str, cells_ptr, cells_agg, stNH_ptr, okN_ptr, wrA1, wrA20, wrA21, c20]
  refine ⟨by omega, ?_⟩
  refine kont_new fun H5 b5 e5 z5 B5 K5 => ?_
  have s5 := K5.size
  have hst5 := B5.okNA (o := 0) (n := 2) (by simp)
  have B6 : Bl (stNA H5 ⟨b5, 0, none⟩ [.int .i64 (N : Int), .slice none 0 0]) b5 [.int .i64 (N : Int), .slice none 0 0] := B5.stNA 0 [.int .i64 (N : Int), .slice none 0 0]
  have K6 : Keep (fun q => q = b5) H5 (stNA H5 ⟨b5, 0, none⟩ [.int .i64 (N : Int), .slice none 0 0]) := (Keep.refl _ _).stNA _ (.inl rfl)
  have ha3 : all1 #[Value.int .i64 (N : Int), Value.slice none 0 0] := fun w hw => by simp at hw; rcases hw with rfl | rfl <;> rfl
  simp only [go_sem, List.map_cons, List.map_nil, ↓reduceIte, Nat.reduceEqDiff, Nat.reduceAdd, Nat.reduceMul, reduceCtorEq, and_true, true_and, Nat.mul_one, Nat.zero_add, Bool.false_eq_true, decide_true, decide_false, not_false_eq_true, fillV_nil, fillV_cons, okFill_nil, okFill_cons, cells_slice, cells_int, cells_bool, cells_str, cells_ptr, cells_agg, stNH_ptr, okN_ptr, wrA1, wrA20, wrA21, hst5]
  refine ⟨ha3, ?_⟩
  rw [kont_eq]
  generalize stNA H5 ⟨b5, 0, none⟩ [.int .i64 (N : Int), .slice none 0 0] = H6 at B6 K6 ⊢
  have s6 := K6.size
  have K26 : Keep (fun _ => False) H2 H6 := K5.to_old K6 (by omega)
  have D6 := K26.bl D2 (by simp)
  have hb0 : b0 < H6.size := D6.lt
  simp only [go_sem, List.map_cons, List.map_nil, ↓reduceIte, Nat.reduceEqDiff, Nat.reduceAdd, Nat.reduceMul, reduceCtorEq, and_true, true_and, Nat.mul_one, Nat.zero_add, Bool.false_eq_true, decide_true, decide_false, not_false_eq_true, kont_eq]
  refine vc_loop [15, 6, 21, 30, 5] rfl (fun m g A => ∃ (x : Nat) (w : Value), x ≤ N ∧ m = N - x ∧ g 5 = .int .i64 (x : Int) ∧ Bl A b5 [.int .i64 (N : Int), w] ∧ OwE nE 2 A w (gpre N S x 0) ∧ (∀ q, ownB w q → H6.size ≤ q) ∧ Keep (fun q => q = b5) H6 A) N ?_ ?_
  · exact ⟨0, _, by omega, by omega, by simp only [go_sem, List.map_cons, List.map_nil, ↓reduceIte, Nat.reduceEqDiff, Nat.reduceAdd, Nat.reduceMul, reduceCtorEq, and_true, true_and, Nat.mul_one, Nat.zero_add, Bool.false_eq_true, decide_true, decide_false, not_false_eq_true, kont_eq]; rfl, B6, OwE.nil _, fun q h => h.elim, Keep.refl _ _⟩
  rintro m g H7 ⟨x, w, hx0, rfl, hg5, B7, O7, w7, K7⟩
  have s7 := K7.size
  simp only [go_sem, List.map_cons, List.map_nil, ↓reduceIte, Nat.reduceEqDiff, Nat.reduceAdd, Nat.reduceMul, reduceCtorEq, and_true, true_and, Nat.mul_one, Nat.zero_add, Bool.false_eq_true, decide_true, decide_false, not_false_eq_true, kont_eq] at hg5
  have D7 := K7.bl D6 (by omega)
  have c70 : cell H7 ⟨b0, 0, none⟩ = some (.int .i64 (N : Int)) := by rw [D7.cell]; rfl
  simp only [go_sem, List.map_cons, List.map_nil, ↓reduceIte, Nat.reduceEqDiff, Nat.reduceAdd, Nat.reduceMul, reduceCtorEq, and_true, true_and, Nat.mul_one, Nat.zero_add, Bool.false_eq_true, decide_true, decide_false, not_false_eq_true, hg5, c70]
  refine iteV_dec (fun hlt => ?_) (fun hge => ?_)
  · have hxN : x < N := by omega
    refine vc_loop [21, 30, 6] rfl (fun m g A => ∃ (y : Nat) (w : Value), y ≤ N ∧ m = N - y ∧ g 6 = .int .i64 (y : Int) ∧ Bl A b5 [.int .i64 (N : Int), w] ∧ OwE nE 2 A w (gpre N S x y) ∧ (∀ q, ownB w q → H6.size ≤ q) ∧ Keep (fun q => q = b5) H6 A) N ?_ ?_
    · exact ⟨0, _, by omega, by omega, by simp only [go_sem, List.map_cons, List.map_nil, ↓reduceIte, Nat.reduceEqDiff, Nat.reduceAdd, Nat.reduceMul, reduceCtorEq, and_true, true_and, Nat.mul_one, Nat.zero_add, Bool.false_eq_true, decide_true, decide_false, not_false_eq_true, kont_eq]; rfl, B7, O7, w7, K7⟩
    rintro m g2 H8 ⟨y, w8, hy0, rfl, hg6, B8, O8, o8, K8⟩
    have s8 := K8.size
    simp only [go_sem, List.map_cons, List.map_nil, ↓reduceIte, Nat.reduceEqDiff, Nat.reduceAdd, Nat.reduceMul, reduceCtorEq, and_true, true_and, Nat.mul_one, Nat.zero_add, Bool.false_eq_true, decide_true, decide_false, not_false_eq_true, kont_eq] at hg6
    have D8 := K8.bl D6 (by omega)
    have c80 : cell H8 ⟨b0, 0, none⟩ = some (.int .i64 (N : Int)) := by rw [D8.cell]; rfl
    simp only [go_sem, List.map_cons, List.map_nil, ↓reduceIte, Nat.reduceEqDiff, Nat.reduceAdd, Nat.reduceMul, reduceCtorEq, and_true, true_and, Nat.mul_one, Nat.zero_add, Bool.false_eq_true, decide_true, decide_false, not_false_eq_true, hg6, c80]
    refine iteV_dec (fun hlt => ?_) (fun hge => ?_)
    · have hyN : y < N := by omega
      have T8 := T2'.keep (K26.trans' K8 fun q hq h => by omega) (by simp)
      have hst' := gpre_step N S x y
      obtain ⟨tb, tc, db, dc, rfl, -, ci, cij, -⟩ := T8.rowAt hxN hyN
      rw [← congrFun (congrFun hS x) y] at cij
      cases hRx : S x y with
        | false =>
          rw [hRx] at cij
          rw [hRx] at hst'
          simp only [Bool.false_eq_true, if_false, List.append_nil] at hst'
          simp (disch := omega) only [go_sem, List.map_cons, List.map_nil, ↓reduceIte, Nat.reduceEqDiff, Nat.reduceAdd, Nat.reduceMul, reduceCtorEq, and_true, true_and, Nat.mul_one, Nat.zero_add, Bool.false_eq_true, decide_true, decide_false, not_false_eq_true, kont_eq, fillV_nil, fillV_cons, okFill_nil, okFill_cons, cells_slice, cells_int, cells_bool, cells_str, cells_ptr, cells_agg, stNH_ptr, okN_ptr, wrA1, wrA20, wrA21, hg5, ci, cij, tn_cast, Nat.mul_one, Nat.zero_add, hg6, IntWalk.i64_in]
          exact ⟨by omega, by omega, N - (y + 1), by omega, y + 1, w8, by omega, rfl, rfl, B8, by rw [hst']; exact O8, o8, K8⟩
        | true =>
          rw [hRx] at cij
          rw [hRx] at hst'
          simp only [if_true] at hst'
          have c91 : cell H8 ⟨b5, 1, none⟩ = some w8 := by rw [B8.cell]; rfl
          simp only [go_sem, List.map_cons, List.map_nil, ↓reduceIte, Nat.reduceEqDiff, Nat.reduceAdd, Nat.reduceMul, reduceCtorEq, and_true, true_and, Nat.mul_one, Nat.zero_add, Bool.false_eq_true, decide_true, decide_false, not_false_eq_true, fillV_nil, fillV_cons, okFill_nil, okFill_cons, cells_slice, cells_int, cells_bool, cells_str, cells_ptr, cells_agg, stNH_ptr, okN_ptr, wrA1, wrA20, wrA21, ci, cij, tn_cast, Nat.mul_one, Nat.zero_add, c91, hg6, hg5]
          refine ⟨by omega, by omega, by omega, ?_⟩
          refine kont_news fun H10 ba ea za Ba K10 => ?_
          have s10 := K10.size
          obtain ⟨xa, xn, xc, rfl⟩ := O8.shape
          simp only [go_sem, List.map_cons, List.map_nil, ↓reduceIte, Nat.reduceEqDiff, Nat.reduceAdd, Nat.reduceMul, reduceCtorEq, and_true, true_and, Nat.mul_one, Nat.zero_add, Bool.false_eq_true, decide_true, decide_false, not_false_eq_true, kont_eq]
          have hx2 : SlE nE 2 H10 (.slice (some ⟨ba, 0, none⟩) 1 1) [(x, y)] := SlE.bl Ba (l := [(x, y)]) rfl (by simp) (by simp)
          have hgl := gpre_len N S x y
          have hgl2 : x * N + y ≤ 256 * 256 + 256 := Nat.add_le_add (Nat.mul_le_mul (by omega) (by omega)) (by omega)
          refine app_E (m := [(x, y)]) nE_len nE_one (O8.keep K10 (by simp)) hx2 rfl (by unfold maxLen; rw [List.length_singleton]; omega) (by rw [List.length_singleton]; omega) fun v3 A3 O3' L3 own3' => ?_
          have t3 := L3.size
          rw [← hst'] at O3'
          obtain ⟨ya, yn, yc, rfl⟩ := O3'.shape
          have hb5n : ¬ ownB (.slice xa xn xc) b5 := fun h => by have := o8 _ h; omega
          have j13 := L3.bl (K10.bl B8 (by simp)) hb5n
          have hst5 := j13.okSt (o := 1) (by simp)
          have j14 := j13.setc 1 (.slice ya yn yc)
          have L4 : Keep (fun p => p = b5) A3 (setc A3 ⟨b5, 1, none⟩ (.slice ya yn yc)) := (Keep.refl _ _).setc _ (.inl rfl)
          have o4 : ∀ p, ownB (.slice ya yn yc) p → H6.size ≤ p := fun p hp => by
            rcases own3' p hp with h | h
            · exact o8 p h
            · omega
          simp (disch := omega) only [go_sem, List.map_cons, List.map_nil, ↓reduceIte, Nat.reduceEqDiff, Nat.reduceAdd, Nat.reduceMul, reduceCtorEq, and_true, true_and, Nat.mul_one, Nat.zero_add, Bool.false_eq_true, decide_true, decide_false, not_false_eq_true, kont_eq, hst5, hg6, IntWalk.i64_in]
          refine ⟨N - (y + 1), by omega, y + 1, _, by omega, rfl, rfl, j14, O3'.keep L4 (fun q hq e => by have := o4 q hq; omega), o4, ?_⟩
          exact ((K8.trans K10.any).trans' L3 fun q hq h => by have := o8 _ h; omega).trans L4
    · have hyN : y = N := by omega
      subst hyN
      simp (disch := omega) only [go_sem, List.map_cons, List.map_nil, ↓reduceIte, Nat.reduceEqDiff, Nat.reduceAdd, Nat.reduceMul, reduceCtorEq, and_true, true_and, Nat.mul_one, Nat.zero_add, Bool.false_eq_true, decide_true, decide_false, not_false_eq_true, kont_eq, hg5, IntWalk.i64_in]
      exact ⟨y - (x + 1), by omega, x + 1, w8, by omega, rfl, rfl, B8, by rw [← gpre_next]; exact O8, o8, K8⟩
  · have hxN : x = N := by omega
    subst hxN
    rw [gpre_all] at O7
    have K17 : Keep (fun _ => False) H1 H7 := (K2.trans K26).trans' K7 fun q hq e => by omega
    have C7 := K17.bl B1' (by simp)
    obtain ⟨wa, wn, wc, rfl⟩ := O7.shape
    have hst7 := C7.okNA (o := 0) (n := 2) (by simp)
    have C8 : Bl (stNA H7 ⟨b1, 0, none⟩ [.int .i64 (x : Int), .slice wa wn wc]) b1 [.int .i64 (x : Int), .slice wa wn wc] := C7.stNA 0 [.int .i64 (x : Int), .slice wa wn wc]
    have K8 : Keep (fun q => q = b1) H7 (stNA H7 ⟨b1, 0, none⟩ [.int .i64 (x : Int), .slice wa wn wc]) := (Keep.refl _ _).stNA _ (.inl rfl)
    have ha5 : all1 #[Value.int .i64 (x : Int), Value.slice wa wn wc] := fun u hu => by simp at hu; rcases hu with rfl | rfl <;> rfl
    have hns : ∀ u ∈ [Value.int .i64 (x : Int), Value.slice wa wn wc], u.oneCell' = true := fun u hu => by simp at hu; rcases hu with rfl | rfl <;> rfl
    simp only [go_sem, List.map_cons, List.map_nil, ↓reduceIte, Nat.reduceEqDiff, Nat.reduceAdd, Nat.reduceMul, reduceCtorEq, and_true, true_and, Nat.mul_one, Nat.zero_add, Bool.false_eq_true, decide_true, decide_false, not_false_eq_true, kont_eq, fillV_nil, fillV_cons, okFill_nil, okFill_cons, cells_slice, cells_int, cells_bool, cells_str, cells_ptr, cells_agg, stNH_ptr, okN_ptr, wrA1, wrA20, wrA21, B7.ldNO 2 rfl, hst7, C8.ldNO 2 rfl, hns]
    refine ⟨ha5, ?_⟩
    rw [hQ]
    refine ⟨⟨by omega, hS ▸ hR.clo, _, rfl, (O7.keep K8 fun q hq e => by have := w7 q hq; omega).sl⟩, ((K0.trans K1).trans K17).trans' K8 fun q hq e => by omega⟩
theorem anyR_succ (k : Nat) (p : Nat → Bool) : (List.range (k + 1)).any p = ((List.range k).any p || p k) := by simp [List.range_succ]
theorem rred_ok {P : Program} {ι : Ids} {k : FuncId} (hk : FnIs P k (c_rred ι) r_rred 1) (ha : RAbvSpec P (ι.f 249)) : RMapSpec P k redR := by
  intro N R v H hv
  obtain ⟨hn, hR, pv, rfl, hp⟩ := hv
  obtain ⟨S, hS⟩ : ∃ S, S = redR N R := ⟨_, rfl⟩
  obtain ⟨Q, hQ⟩ : ∃ Q : Value → Hp → Prop, Q = fun r H' => ROrd H' r N S ∧ Keep (fun _ => False) H H' := ⟨_, rfl⟩
  show CallsM P k _ H fun r H' => ROrd H' r N (redR N R) ∧ Keep (fun _ => False) H H'
  rw [← hS, ← hQ]
  refine calls_of_vc hk (args := [_]) (by simp) ?_
  unfold c_rred r_rred
  simp only [go_sem, List.map_cons, List.map_nil, ↓reduceIte, Nat.reduceEqDiff, Nat.reduceAdd, Nat.reduceMul, reduceCtorEq, and_true, true_and, Nat.mul_one, Nat.zero_add, Bool.false_eq_true, decide_true, decide_false, not_false_eq_true]
  refine kont_new fun H0 b0 e0 z0 B0 K0 => ?_
  have s0 := K0.size
  have B0' : Bl H0 b0 [.int .i64 (N : Int), pv] := B0
  simp only [go_sem, List.map_cons, List.map_nil, ↓reduceIte, Nat.reduceEqDiff, Nat.reduceAdd, Nat.reduceMul, reduceCtorEq, and_true, true_and, Nat.mul_one, Nat.zero_add, Bool.false_eq_true, decide_true, decide_false, not_false_eq_true]
  refine kont_new fun H1 b1 e1 z1 B1 K1 => ?_
  have s1 := K1.size
  have B1' : Bl H1 b1 [.int .i64 0, .slice none 0 0] := B1
  have D1 := K1.bl B0' (by simp)
  have p1 := (hp.keep0 K0).keep0 K1
  simp only [go_sem, List.map_cons, List.map_nil, ↓reduceIte, Nat.reduceEqDiff, Nat.reduceAdd, Nat.reduceMul, reduceCtorEq, and_true, true_and, Nat.mul_one, Nat.zero_add, Bool.false_eq_true, decide_true, decide_false, not_false_eq_true, kont_eq, D1.ldNO 2 rfl]
  refine (ha N pv (gridP N R) H1 hn p1 (by have := gridP_len16 R hn; omega)).mono ?_
  rintro rt H2 ⟨⟨vs, T2⟩, K2⟩
  have s2 := K2.size
  rw [inP_gridP hR] at T2
  have T2' := T2.congr fun x _ y _ => wsh_tc hR x y
  have D2 := K2.bl D1 (by simp)
  have c20 : cell H2 ⟨b0, 0, none⟩ = some (.int .i64 (N : Int)) := by rw [D2.cell]; rfl
  rw [kont_eq]
  simp only [go_sem, List.map_cons, List.map_nil, ↓reduceIte, Nat.reduceEqDiff, Nat.reduceAdd, Nat.reduceMul, reduceCtorEq, and_true, true_and, Nat.mul_one, Nat.zero_add, Bool.false_eq_true, decide_true, decide_false, not_false_eq_true, fillV_nil, fillV_cons, okFill_nil, okFill_cons, cells_slice, cells_int, cells_bool, cells_str, cells_ptr, cells_agg, stNH_ptr, okN_ptr, wrA1, wrA20, wrA21, c20]
  refine ⟨by omega, ?_⟩
  refine kont_new fun H5 b5 e5 z5 B5 K5 => ?_
  have s5 := K5.size
  have hst5 := B5.okNA (o := 0) (n := 2) (by simp)
  have B6 : Bl (stNA H5 ⟨b5, 0, none⟩ [.int .i64 (N : Int), .slice none 0 0]) b5 [.int .i64 (N : Int), .slice none 0 0] := B5.stNA 0 [.int .i64 (N : Int), .slice none 0 0]
  have K6 : Keep (fun q => q = b5) H5 (stNA H5 ⟨b5, 0, none⟩ [.int .i64 (N : Int), .slice none 0 0]) := (Keep.refl _ _).stNA _ (.inl rfl)
  have ha3 : all1 #[Value.int .i64 (N : Int), Value.slice none 0 0] := fun w hw => by simp at hw; rcases hw with rfl | rfl <;> rfl
  simp only [go_sem, List.map_cons, List.map_nil, ↓reduceIte, Nat.reduceEqDiff, Nat.reduceAdd, Nat.reduceMul, reduceCtorEq, and_true, true_and, Nat.mul_one, Nat.zero_add, Bool.false_eq_true, decide_true, decide_false, not_false_eq_true, fillV_nil, fillV_cons, okFill_nil, okFill_cons, cells_slice, cells_int, cells_bool, cells_str, cells_ptr, cells_agg, stNH_ptr, okN_ptr, wrA1, wrA20, wrA21, hst5]
  refine ⟨ha3, ?_⟩
  rw [kont_eq]
  generalize stNA H5 ⟨b5, 0, none⟩ [.int .i64 (N : Int), .slice none 0 0] = H6 at B6 K6 ⊢
  have s6 := K6.size
  have K26 : Keep (fun _ => False) H2 H6 := K5.to_old K6 (by omega)
  have D6 := K26.bl D2 (by simp)
  have hb0 : b0 < H6.size := D6.lt
  simp only [go_sem, List.map_cons, List.map_nil, ↓reduceIte, Nat.reduceEqDiff, Nat.reduceAdd, Nat.reduceMul, reduceCtorEq, and_true, true_and, Nat.mul_one, Nat.zero_add, Bool.false_eq_true, decide_true, decide_false, not_false_eq_true, kont_eq]
  refine vc_loop [17, 6, 23, 7, 8, 36, 59, 5] rfl (fun m g A => ∃ (x : Nat) (w : Value), x ≤ N ∧ m = N - x ∧ g 5 = .int .i64 (x : Int) ∧ Bl A b5 [.int .i64 (N : Int), w] ∧ OwE nE 2 A w (gpre N S x 0) ∧ (∀ q, ownB w q → H6.size ≤ q) ∧ Keep (fun q => q = b5) H6 A) N ?_ ?_
  · exact ⟨0, _, by omega, by omega, by simp only [go_sem, List.map_cons, List.map_nil, ↓reduceIte, Nat.reduceEqDiff, Nat.reduceAdd, Nat.reduceMul, reduceCtorEq, and_true, true_and, Nat.mul_one, Nat.zero_add, Bool.false_eq_true, decide_true, decide_false, not_false_eq_true, kont_eq]; rfl, B6, OwE.nil _, fun q h => h.elim, Keep.refl _ _⟩
  rintro m g H7 ⟨x, w, hx0, rfl, hg5, B7, O7, w7, K7⟩
  have s7 := K7.size
  simp only [go_sem, List.map_cons, List.map_nil, ↓reduceIte, Nat.reduceEqDiff, Nat.reduceAdd, Nat.reduceMul, reduceCtorEq, and_true, true_and, Nat.mul_one, Nat.zero_add, Bool.false_eq_true, decide_true, decide_false, not_false_eq_true, kont_eq] at hg5
  have D7 := K7.bl D6 (by omega)
  have c70 : cell H7 ⟨b0, 0, none⟩ = some (.int .i64 (N : Int)) := by rw [D7.cell]; rfl
  simp only [go_sem, List.map_cons, List.map_nil, ↓reduceIte, Nat.reduceEqDiff, Nat.reduceAdd, Nat.reduceMul, reduceCtorEq, and_true, true_and, Nat.mul_one, Nat.zero_add, Bool.false_eq_true, decide_true, decide_false, not_false_eq_true, hg5, c70]
  refine iteV_dec (fun hlt => ?_) (fun hge => ?_)
  · have hxN : x < N := by omega
    refine vc_loop [23, 7, 8, 36, 59, 6] rfl (fun m g A => ∃ (y : Nat) (w : Value), y ≤ N ∧ m = N - y ∧ g 6 = .int .i64 (y : Int) ∧ Bl A b5 [.int .i64 (N : Int), w] ∧ OwE nE 2 A w (gpre N S x y) ∧ (∀ q, ownB w q → H6.size ≤ q) ∧ Keep (fun q => q = b5) H6 A) N ?_ ?_
    · exact ⟨0, _, by omega, by omega, by simp only [go_sem, List.map_cons, List.map_nil, ↓reduceIte, Nat.reduceEqDiff, Nat.reduceAdd, Nat.reduceMul, reduceCtorEq, and_true, true_and, Nat.mul_one, Nat.zero_add, Bool.false_eq_true, decide_true, decide_false, not_false_eq_true, kont_eq]; rfl, B7, O7, w7, K7⟩
    rintro m g2 H8 ⟨y, w8, hy0, rfl, hg6, B8, O8, o8, K8⟩
    have s8 := K8.size
    simp only [go_sem, List.map_cons, List.map_nil, ↓reduceIte, Nat.reduceEqDiff, Nat.reduceAdd, Nat.reduceMul, reduceCtorEq, and_true, true_and, Nat.mul_one, Nat.zero_add, Bool.false_eq_true, decide_true, decide_false, not_false_eq_true, kont_eq] at hg6
    have D8 := K8.bl D6 (by omega)
    have c80 : cell H8 ⟨b0, 0, none⟩ = some (.int .i64 (N : Int)) := by rw [D8.cell]; rfl
    simp only [go_sem, List.map_cons, List.map_nil, ↓reduceIte, Nat.reduceEqDiff, Nat.reduceAdd, Nat.reduceMul, reduceCtorEq, and_true, true_and, Nat.mul_one, Nat.zero_add, Bool.false_eq_true, decide_true, decide_false, not_false_eq_true, hg6, c80]
    refine iteV_dec (fun hlt => ?_) (fun hge => ?_)
    · have hyN : y < N := by omega
      have T8 := T2'.keep (K26.trans' K8 fun q hq h => by omega) (by simp)
      have hst' := gpre_step N S x y
      obtain ⟨tb, tc, db, dc, rfl, hvi, ci, cij, -⟩ := T8.rowAt hxN hyN
      simp only [go_sem, List.map_cons, List.map_nil, ↓reduceIte, Nat.reduceEqDiff, Nat.reduceAdd, Nat.reduceMul, reduceCtorEq, and_true, true_and, Nat.mul_one, Nat.zero_add, Bool.false_eq_true, decide_true, decide_false, not_false_eq_true, kont_eq, fillV_nil, fillV_cons, okFill_nil, okFill_cons, cells_slice, cells_int, cells_bool, cells_str, cells_ptr, cells_agg, stNH_ptr, okN_ptr, wrA1, wrA20, wrA21, hg6, hg5, tn_cast, Nat.mul_one, Nat.zero_add, ci, cij]
      refine ⟨by omega, by omega, ?_⟩
      refine vc_mono (Q := fun e f' A => e = .x 4 ∧ f' 7 = .bool (S x y) ∧ f' 4 = .pointer (some ⟨b5, 0, none⟩) ∧ f' 5 = .int .i64 (x : Int) ∧ f' 6 = .int .i64 (y : Int) ∧ H8 = A) ?_ ?_
      rotate_left
      · refine vc_loop [36, 7, 8] rfl (fun m g A => ∃ (z : Nat), z ≤ N ∧ m = N - z ∧ g 8 = .int .i64 (z : Int) ∧ g 7 = .bool (tcB R x y && !(List.range z).any fun z => tcB R x z && tcB R z y) ∧ A = H8) N ?_ ?_
        · exact ⟨0, by omega, by omega, by simp only [go_sem, List.map_cons, List.map_nil, ↓reduceIte, Nat.reduceEqDiff, Nat.reduceAdd, Nat.reduceMul, reduceCtorEq, and_true, true_and, Nat.mul_one, Nat.zero_add, Bool.false_eq_true, decide_true, decide_false, not_false_eq_true, kont_eq]; rfl, by simp only [go_sem, List.map_cons, List.map_nil, ↓reduceIte, Nat.reduceEqDiff, Nat.reduceAdd, Nat.reduceMul, reduceCtorEq, and_true, true_and, Nat.mul_one, Nat.zero_add, Bool.false_eq_true, decide_true, decide_false, not_false_eq_true, kont_eq]; simp, rfl⟩
        rintro m g3 A ⟨z, hz0, rfl, hg8, hg7, rfl⟩
        simp only [go_sem, List.map_cons, List.map_nil, ↓reduceIte, Nat.reduceEqDiff, Nat.reduceAdd, Nat.reduceMul, reduceCtorEq, and_true, true_and, Nat.mul_one, Nat.zero_add, Bool.false_eq_true, decide_true, decide_false, not_false_eq_true, kont_eq] at hg8 hg7
        simp only [go_sem, List.map_cons, List.map_nil, ↓reduceIte, Nat.reduceEqDiff, Nat.reduceAdd, Nat.reduceMul, reduceCtorEq, and_true, true_and, Nat.mul_one, Nat.zero_add, Bool.false_eq_true, decide_true, decide_false, not_false_eq_true, hg8, c80]
        refine iteV_dec (fun hlt => ?_) (fun hge => ?_)
        · have hzN : z < N := by omega
          obtain ⟨tb', tc', db', dc', hv', hvi', ci', ciz, -⟩ := T8.rowAt hxN hzN
          obtain ⟨tb2, tc2, eb, ec, hv2, -, cz, czy, -⟩ := T8.rowAt hzN hyN
          rw [hvi] at hvi'
          simp only [Value.slice.injEq, Option.some.injEq, Addr.mk.injEq, and_true, true_and] at hvi' hv' hv2
          obtain ⟨rfl, rfl⟩ := hvi'
          obtain ⟨rfl, rfl⟩ := hv'
          obtain ⟨rfl, rfl⟩ := hv2
          have hsu := anyR_succ z fun z => tcB R x z && tcB R z y
          cases h7 : (tcB R x y && !(List.range z).any fun z => tcB R x z && tcB R z y) with
          | false =>
            rw [h7] at hg7
            have h8 : (tcB R x y && !(List.range (z + 1)).any fun z => tcB R x z && tcB R z y) = false := by
              rw [hsu]
              revert h7
              cases tcB R x y <;> cases ((List.range z).any fun z => tcB R x z && tcB R z y) <;> simp
            simp (disch := omega) only [go_sem, List.map_cons, List.map_nil, ↓reduceIte, Nat.reduceEqDiff, Nat.reduceAdd, Nat.reduceMul, reduceCtorEq, and_true, true_and, Nat.mul_one, Nat.zero_add, Bool.false_eq_true, decide_true, decide_false, not_false_eq_true, kont_eq, fillV_nil, fillV_cons, okFill_nil, okFill_cons, cells_slice, cells_int, cells_bool, cells_str, cells_ptr, cells_agg, stNH_ptr, okN_ptr, wrA1, wrA20, wrA21, hg6, hg5, hg7, hg8, tn_cast, Nat.mul_one, Nat.zero_add, IntWalk.i64_in]
            exact ⟨N - (z + 1), by omega, z + 1, by omega, rfl, rfl, by rw [h8]⟩
          | true =>
            rw [h7] at hg7
            have h8 : (tcB R x y && !(List.range (z + 1)).any fun z => tcB R x z && tcB R z y) = !(tcB R x z && tcB R z y) := by
              rw [hsu]
              revert h7
              cases tcB R x y <;> cases ((List.range z).any fun z => tcB R x z && tcB R z y) <;> simp
            cases hxz : tcB R x z with
            | false =>
              rw [hxz] at ciz h8
              simp (disch := omega) only [go_sem, List.map_cons, List.map_nil, ↓reduceIte, Nat.reduceEqDiff, Nat.reduceAdd, Nat.reduceMul, reduceCtorEq, and_true, true_and, Nat.mul_one, Nat.zero_add, Bool.false_eq_true, decide_true, decide_false, not_false_eq_true, kont_eq, fillV_nil, fillV_cons, okFill_nil, okFill_cons, cells_slice, cells_int, cells_bool, cells_str, cells_ptr, cells_agg, stNH_ptr, okN_ptr, wrA1, wrA20, wrA21, hg6, hg5, hg7, hg8, tn_cast, Nat.mul_one, Nat.zero_add, ci, ciz, IntWalk.i64_in]
              exact ⟨by omega, by omega, N - (z + 1), by omega, z + 1, by omega, rfl, rfl, by rw [h8]; rfl⟩
            | true =>
              rw [hxz] at ciz h8
              simp (disch := omega) only [go_sem, List.map_cons, List.map_nil, ↓reduceIte, Nat.reduceEqDiff, Nat.reduceAdd, Nat.reduceMul, reduceCtorEq, and_true, true_and, Nat.mul_one, Nat.zero_add, Bool.false_eq_true, decide_true, decide_false, not_false_eq_true, kont_eq, fillV_nil, fillV_cons, okFill_nil, okFill_cons, cells_slice, cells_int, cells_bool, cells_str, cells_ptr, cells_agg, stNH_ptr, okN_ptr, wrA1, wrA20, wrA21, hg6, hg5, hg7, hg8, tn_cast, Nat.mul_one, Nat.zero_add, ci, ciz, cz, czy, IntWalk.i64_in]
              exact ⟨by omega, by omega, by omega, by omega, N - (z + 1), by omega, z + 1, by omega, rfl, rfl, by rw [h8]; simp⟩
        · have hzN : z = N := by omega
          subst hzN
          simp only [go_sem, List.map_cons, List.map_nil, ↓reduceIte, Nat.reduceEqDiff, Nat.reduceAdd, Nat.reduceMul, reduceCtorEq, and_true, true_and, Nat.mul_one, Nat.zero_add, Bool.false_eq_true, decide_true, decide_false, not_false_eq_true, kont_eq, hg7, hg6, hg5]
          rw [hS]; rfl
      rintro e f3 A ⟨rfl, hf7, hf4, hf5, hf6, rfl⟩
      cases hRx : S x y with
        | false =>
          rw [hRx] at hf7
          rw [hRx] at hst'
          simp only [Bool.false_eq_true, if_false, List.append_nil] at hst'
          simp (disch := omega) only [go_sem, List.map_cons, List.map_nil, ↓reduceIte, Nat.reduceEqDiff, Nat.reduceAdd, Nat.reduceMul, reduceCtorEq, and_true, true_and, Nat.mul_one, Nat.zero_add, Bool.false_eq_true, decide_true, decide_false, not_false_eq_true, kont_eq, fillV_nil, fillV_cons, okFill_nil, okFill_cons, cells_slice, cells_int, cells_bool, cells_str, cells_ptr, cells_agg, stNH_ptr, okN_ptr, wrA1, wrA20, wrA21, hg5, hf7, hf4, hf5, hf6, hg6, IntWalk.i64_in]
          exact ⟨N - (y + 1), by omega, y + 1, w8, by omega, rfl, rfl, B8, by rw [hst']; exact O8, o8, K8⟩
        | true =>
          rw [hRx] at hf7
          rw [hRx] at hst'
          simp only [if_true] at hst'
          have c91 : cell H8 ⟨b5, 1, none⟩ = some w8 := by rw [B8.cell]; rfl
          simp only [go_sem, List.map_cons, List.map_nil, ↓reduceIte, Nat.reduceEqDiff, Nat.reduceAdd, Nat.reduceMul, reduceCtorEq, and_true, true_and, Nat.mul_one, Nat.zero_add, Bool.false_eq_true, decide_true, decide_false, not_false_eq_true, fillV_nil, fillV_cons, okFill_nil, okFill_cons, cells_slice, cells_int, cells_bool, cells_str, cells_ptr, cells_agg, stNH_ptr, okN_ptr, wrA1, wrA20, wrA21, hf7, hf4, hf5, hf6, c91, hg6, hg5]
          refine ⟨by omega, ?_⟩
          refine kont_news fun H10 ba ea za Ba K10 => ?_
          have s10 := K10.size
          obtain ⟨xa, xn, xc, rfl⟩ := O8.shape
          simp only [go_sem, List.map_cons, List.map_nil, ↓reduceIte, Nat.reduceEqDiff, Nat.reduceAdd, Nat.reduceMul, reduceCtorEq, and_true, true_and, Nat.mul_one, Nat.zero_add, Bool.false_eq_true, decide_true, decide_false, not_false_eq_true, kont_eq]
          have hx2 : SlE nE 2 H10 (.slice (some ⟨ba, 0, none⟩) 1 1) [(x, y)] := SlE.bl Ba (l := [(x, y)]) rfl (by simp) (by simp)
          have hgl := gpre_len N S x y
          have hgl2 : x * N + y ≤ 256 * 256 + 256 := Nat.add_le_add (Nat.mul_le_mul (by omega) (by omega)) (by omega)
          refine app_E (m := [(x, y)]) nE_len nE_one (O8.keep K10 (by simp)) hx2 rfl (by unfold maxLen; rw [List.length_singleton]; omega) (by rw [List.length_singleton]; omega) fun v3 A3 O3' L3 own3' => ?_
          have t3 := L3.size
          rw [← hst'] at O3'
          obtain ⟨ya, yn, yc, rfl⟩ := O3'.shape
          have hb5n : ¬ ownB (.slice xa xn xc) b5 := fun h => by have := o8 _ h; omega
          have j13 := L3.bl (K10.bl B8 (by simp)) hb5n
          have hst5 := j13.okSt (o := 1) (by simp)
          have j14 := j13.setc 1 (.slice ya yn yc)
          have L4 : Keep (fun p => p = b5) A3 (setc A3 ⟨b5, 1, none⟩ (.slice ya yn yc)) := (Keep.refl _ _).setc _ (.inl rfl)
          have o4 : ∀ p, ownB (.slice ya yn yc) p → H6.size ≤ p := fun p hp => by
            rcases own3' p hp with h | h
            · exact o8 p h
            · omega
          simp (disch := omega) only [go_sem, List.map_cons, List.map_nil, ↓reduceIte, Nat.reduceEqDiff, Nat.reduceAdd, Nat.reduceMul, reduceCtorEq, and_true, true_and, Nat.mul_one, Nat.zero_add, Bool.false_eq_true, decide_true, decide_false, not_false_eq_true, kont_eq, hst5, hf4, hf5, hf6, IntWalk.i64_in]
          refine ⟨N - (y + 1), by omega, y + 1, _, by omega, rfl, rfl, j14, O3'.keep L4 (fun q hq e => by have := o4 q hq; omega), o4, ?_⟩
          exact ((K8.trans K10.any).trans' L3 fun q hq h => by have := o8 _ h; omega).trans L4
    · have hyN : y = N := by omega
      subst hyN
      simp (disch := omega) only [go_sem, List.map_cons, List.map_nil, ↓reduceIte, Nat.reduceEqDiff, Nat.reduceAdd, Nat.reduceMul, reduceCtorEq, and_true, true_and, Nat.mul_one, Nat.zero_add, Bool.false_eq_true, decide_true, decide_false, not_false_eq_true, kont_eq, hg5, IntWalk.i64_in]
      exact ⟨y - (x + 1), by omega, x + 1, w8, by omega, rfl, rfl, B8, by rw [← gpre_next]; exact O8, o8, K8⟩
  · have hxN : x = N := by omega
    subst hxN
    rw [gpre_all] at O7
    have K17 : Keep (fun _ => False) H1 H7 := (K2.trans K26).trans' K7 fun q hq e => by omega
    have C7 := K17.bl B1' (by simp)
    obtain ⟨wa, wn, wc, rfl⟩ := O7.shape
    have hst7 := C7.okNA (o := 0) (n := 2) (by simp)
    have C8 : Bl (stNA H7 ⟨b1, 0, none⟩ [.int .i64 (x : Int), .slice wa wn wc]) b1 [.int .i64 (x : Int), .slice wa wn wc] := C7.stNA 0 [.int .i64 (x : Int), .slice wa wn wc]
    have K8 : Keep (fun q => q = b1) H7 (stNA H7 ⟨b1, 0, none⟩ [.int .i64 (x : Int), .slice wa wn wc]) := (Keep.refl _ _).stNA _ (.inl rfl)
    have ha5 : all1 #[Value.int .i64 (x : Int), Value.slice wa wn wc] := fun u hu => by simp at hu; rcases hu with rfl | rfl <;> rfl
    have hns : ∀ u ∈ [Value.int .i64 (x : Int), Value.slice wa wn wc], u.oneCell' = true := fun u hu => by simp at hu; rcases hu with rfl | rfl <;> rfl
    simp only [go_sem, List.map_cons, List.map_nil, ↓reduceIte, Nat.reduceEqDiff, Nat.reduceAdd, Nat.reduceMul, reduceCtorEq, and_true, true_and, Nat.mul_one, Nat.zero_add, Bool.false_eq_true, decide_true, decide_false, not_false_eq_true, kont_eq, fillV_nil, fillV_cons, okFill_nil, okFill_cons, cells_slice, cells_int, cells_bool, cells_str, cells_ptr, cells_agg, stNH_ptr, okN_ptr, wrA1, wrA20, wrA21, B7.ldNO 2 rfl, hst7, C8.ldNO 2 rfl, hns]
    refine ⟨ha5, ?_⟩
    rw [hQ]
    refine ⟨⟨by omega, hS ▸ hR.red, _, rfl, (O7.keep K8 fun q hq e => by have := w7 q hq; omega).sl⟩, ((K0.trans K1).trans K17).trans' K8 fun q hq e => by omega⟩
end Go.Mg

namespace Go.Mg
open Go Go.RowKit
set_option linter.unusedSimpArgs false
set_option linter.unusedVariables false
set_option maxRecDepth 100000
/- arbacref06.With -/
/- arbacref06.Without -/
theorem RNewRes.shape {n : Int} {L : List (Int × Int)} {r : Value} {H : Hp} (h : RNewRes n L r H) : ∃ (c d : Value) (e : Int) (x : Int), r = .tuple #[.agg #[c, d], .int .i64 e] ∧ c = .int .i64 x ∧ isSl d := by
  rcases h with ⟨_, h⟩ | ⟨_, _, h⟩ | ⟨_, _, _, h⟩ | ⟨_, _, _, v, h, _, _, pv, hv, hp⟩
  · exact ⟨_, _, _, _, h, rfl, trivial⟩
  · exact ⟨_, _, _, _, h, rfl, trivial⟩
  · exact ⟨_, _, _, _, h, rfl, trivial⟩
  · subst hv
    exact ⟨_, _, _, _, h, rfl, hp.isSl⟩
theorem RNewRes.keep {W : Nat → Prop} {n : Int} {L : List (Int × Int)} {r : Value} {H H' : Hp} {B : Nat} (h : RNewRes n L r H) (hf : frR B r) (hk : Keep W H H') (hw : ∀ q, B ≤ q → ¬ W q) : RNewRes n L r H' := by
  rcases h with h | h | h | ⟨h1, h2, h3, v, h, h4, h5, pv, hv, hp⟩
  · exact .inl h
  · exact .inr (.inl h)
  · exact .inr (.inr (.inl h))
  · subst hv
    exact .inr (.inr (.inr ⟨h1, h2, h3, _, h, h4, h5, _, rfl, hp.keep hk fun q hq => hw q (hf _ _ _ h q hq)⟩))
def RWithRes (n : Nat) (R : Nat → Nat → Bool) (a b : Int) (r : Value) (H : Hp) : Prop :=
  (¬ okP n (a, b) ∧ r = .tuple #[zR, .int .i64 2]) ∨ (okP n (a, b) ∧ R a.toNat b.toNat = true ∧ r = .tuple #[zR, .int .i64 5]) ∨
  (okP n (a, b) ∧ R a.toNat b.toNat = false ∧ RNewRes (n : Int) ((gridP n R).map toI ++ [(a, b)]) r H)
def fltP (L : List NP) (a b : Int) : List NP := L.filter fun p => !decide (toI p = (a, b))
theorem fltP_grid {n : Nat} {R : Nat → Nat → Bool} (hR : Rng n R) {a b : Nat} : fltP (gridP n R) a b = gridP n (lessR R a b) := by
  refine plt_ext ((gridP_sorted n R).filter _) (gridP_sorted n _) fun p => ?_
  unfold fltP
  rw [List.mem_filter, mem_gridP, mem_gridP]
  unfold lessR toI
  obtain ⟨x, y⟩ := p
  simp only [Prod.mk.injEq, Bool.not_eq_true', decide_eq_false_iff_not, Bool.and_eq_true, Int.ofNat_inj]
  constructor
  · rintro ⟨⟨h1, h2, h3⟩, h4⟩
    refine ⟨h1, h2, h3, ?_⟩
    by_cases e : x = a <;> simp [e] at h4 ⊢ <;> exact h4
  · rintro ⟨h1, h2, h3, h4⟩
    refine ⟨⟨h1, h2, h3⟩, ?_⟩
    by_cases e : x = a <;> simp [e] at h4 ⊢ <;> exact h4
theorem fltP_succ {L : List NP} {i : Nat} (h : i < L.length) (a b : Int) : fltP (L.take (i + 1)) a b = fltP (L.take i) a b ++ if toI (at0 L i) = (a, b) then [] else [at0 L i] := by
  unfold fltP
  rw [List.take_succ_eq_append_getElem h, List.filter_append, at0_eq h]
  congr 1
  by_cases e : toI L[i] = (a, b) <;> simp [e]
theorem fltP_len (L : List NP) (a b : Int) : (fltP L a b).length ≤ L.length := List.length_filter_le _ _
def RWoutRes (n : Nat) (R : Nat → Nat → Bool) (a b : Int) (r : Value) (H : Hp) : Prop :=
  ((a, b) ∉ (gridP n R).map toI ∧ r = .tuple #[zR, .int .i64 4]) ∨ ((a, b) ∈ (gridP n R).map toI ∧ ∃ v, r = .tuple #[v, .int .i64 0] ∧ ROrd H v n (lessR R a.toNat b.toNat))
end Go.Mg

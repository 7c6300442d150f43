/- Several texts of ours in one. No conditions. -/
import Derived.Test.YtamkbeibmhkciaaDoorMgR6
namespace Go.Mg
open Go Go.RowKit
set_option linter.unusedSimpArgs false
set_option linter.unusedVariables false
set_option maxRecDepth 100000
/- arbacref06.Sorted -/
def c_rsort (ι : Ids) : S :=
  .seq (.reg [.e (.v 1) (.box (ι.t 246) (.v 0)), .p (.v 2) (.mv (.c (.slice .none 0 0)))]) (.seq (.reg [.p (.v 3) (.mv (.c (.slice .none 0 0)))]) (.seq (.blk 0 (.loop (.seq (.seq (.reg [.p (.t 9) (.mv
  (.v 3)), .p (.t 10) (.m (.lenl (.t 9))), .p (.t 11) (.fa 0 (.v 1)), .p (.t 12) (.ld (.t 11)), .p (.v 13) (.cm .lss .i64 (.t 10) (.t 12))]) (.ite (.v 13) .skip (.exit 0))) (.blk 1 (.seq (.reg [.p (.v
  4) (.mv (.c (.int .i64 (-1))))]) (.seq (.seq (.reg [.p (.v 5) (.mv (.c (.int .i64 0)))]) (.blk 2 (.loop (.seq (.seq (.reg [.p (.t 14) (.mv (.v 5)), .p (.t 15) (.fa 0 (.v 1)), .p (.t 16) (.ld (.t 15)),
  .p (.t 17) (.cm .lss .i64 (.t 14) (.t 16)), .p (.t 18) (.mv (.t 17)), .gp (.t 19) (.t 18) true (.mv (.v 4)), .gp (.t 20) (.t 18) true (.cm .lss .i64 (.t 19) (.c (.int .i64 0))), .p (.v 21) (.pick (.t
  18) (.t 20) (.c (.bool false)))]) (.ite (.v 21) .skip (.exit 2))) (.seq (.blk 3 (.seq (.reg [.p (.t 24) (.mv (.v 3)), .p (.t 25) (.mv (.v 5)), .e (.t 26) (.call (ι.f 253) [.t 24, .t 25]), .p (.t 27)
  (.not (.t 26)), .p (.v 6) (.mv (.t 27))]) (.seq (.seq (.reg [.p (.t 28) (.m (.ldn 2 (.v 1))), .p (.t 29) (.mv (.v 5)), .e (.v 30) (.call (ι.f 251) [.t 28, .t 29]), .p (.v 31) (.m (.lenl (.v 30))), .p
  (.v 32) (.mv (.c (.int .i64 0)))]) (.blk 4 (.loop (.seq (.reg [.p (.v 33) (.cm .lss .i64 (.v 32) (.v 31))]) (.seq (.ite (.v 33) .skip (.exit 4)) (.seq (.blk 5 (.seq (.reg [.p (.t 34) (.is 1 (.v 30)
  (.v 32)), .p (.t 35) (.ld (.t 34)), .p (.v 8) (.mv (.t 35))]) (.reg [.p (.t 36) (.mv (.v 6)), .p (.t 37) (.mv (.t 36)), .gp (.t 38) (.t 37) true (.mv (.v 3)), .gp (.t 39) (.t 37) true (.mv (.v 8)),
  .ge (.t 40) (.t 37) true (.call (ι.f 253) [.t 38, .t 39]), .p (.t 41) (.pick (.t 37) (.t 40) (.c (.bool false))), .p (.v 6) (.mv (.t 41))]))) (.reg [.p (.t 42) (.ar .add .i64 (.v 32) (.c (.int .i64
  1))), .p (.v 32) (.mv (.t 42))]))))))) (.seq (.reg [.p (.v 43) (.mv (.v 6))]) (.ite (.v 43) (.reg [.p (.t 44) (.mv (.v 5)), .p (.v 4) (.mv (.t 44))]) .skip))))) (.reg [.p (.t 22) (.mv (.v 5)), .p (.t
  23) (.ar .add .i64 (.t 22) (.c (.int .i64 1))), .p (.v 5) (.mv (.t 23))])))))) (.reg [.p (.t 45) (.mv (.v 3)), .p (.t 46) (.mv (.v 4)), .e (.t 47) (.bldF (ι.t 26) 1 1 [.t 46]), .e (.t 48) (.app false
  (ι.t 26) 1 8 #[.int .i64 0] (.t 45) (.t 47)), .p (.v 3) (.mv (.t 48))]))))))) (.seq (.reg [.p (.t 49) (.mv (.v 3)), .p (.v 2) (.mv (.t 49))]) .ret)))
def r_rsort : List RV := [.t 2]

theorem rdy_tc {n : Nat} {R : Nat → Nat → Bool} {s : List Nat} (hs : Pre n R s) (hR : Rng n R) (x : Nat) :
    (!decide (x ∈ s) && (rabL n R x).all fun a => decide (a ∈ s)) = rdy n R s x := by
  rw [Bool.eq_iff_iff, rdy_iff]
  simp only [Bool.and_eq_true, Bool.not_eq_true', decide_eq_false_iff_not, List.all_eq_true, decide_eq_true_eq]
  refine and_congr_right fun _ => ⟨fun h a ha hr => h a ?_, fun h a ha => ?_⟩
  · exact List.mem_filter.2 ⟨List.mem_range.2 ha, by rw [isRb_nat hR]; exact tcB_iff.2 (.one hr)⟩
  · have h2 := (List.mem_filter.1 ha).2
    rw [isRb_nat hR] at h2
    obtain ⟨c, hc, hac⟩ := (tcB_iff.1 h2).last
    have hcs := h c (hR _ _ hc).1 hc
    rcases hac with rfl | hac
    · exact hcs
    · exact hs.memTc hR hac hcs
def RSrtSpec (P : Program) (k : FuncId) : Prop := ∀ (n : Nat) (R : Nat → Nat → Bool) (v : Value) (H : Hp), ROrd H v n R → Acy R → CallsM P k #[v] H fun r H' => OwS H' r (iN (srt n R)) ∧ (∀ q, ownB r q → H.size ≤ q) ∧ Keep (fun _ => False) H H'
theorem rsort_ok {P : Program} {ι : Ids} {k : FuncId} (hk : FnIs P k (c_rsort ι) r_rsort 1) (hi : RInSpec P (ι.f 253)) (hab : RListSpec P (ι.f 251) rabL) : RSrtSpec P k := by
  intro n R v H hv hA
  have hv0 := hv
  obtain ⟨hn, hR, pv, rfl, hp⟩ := hv
  obtain ⟨Q, hQ⟩ : ∃ Q : Value → Hp → Prop, Q = fun r H' => OwS H' r (iN (srt n R)) ∧ (∀ q, ownB r q → H.size ≤ q) ∧ Keep (fun _ => False) H H' := ⟨_, rfl⟩
  rw [← hQ]
  refine calls_of_vc hk (args := [_]) (by simp) ?_
  unfold c_rsort r_rsort
  simp only [go_sem, List.map_cons, List.map_nil, ↓reduceIte, Nat.reduceEqDiff, Nat.reduceAdd, Nat.reduceMul, reduceCtorEq, and_true, true_and, Nat.mul_one, Nat.zero_add, Bool.false_eq_true, decide_true, decide_false, not_false_eq_true]
  refine kont_new fun H1 b1 e1 z1 B1 K1 => ?_
  have s1 := K1.size
  have B1' : Bl H1 b1 [.int .i64 (n : Int), pv] := B1
  simp only [go_sem, List.map_cons, List.map_nil, ↓reduceIte, Nat.reduceEqDiff, Nat.reduceAdd, Nat.reduceMul, reduceCtorEq, and_true, true_and, Nat.mul_one, Nat.zero_add, Bool.false_eq_true, decide_true, decide_false, not_false_eq_true, kont_eq]
  refine vc_loop [13, 4, 5, 21, 6, 30, 31, 32, 33, 8, 43, 3] rfl (fun m f A => ∃ (s : List Nat) (w : Value), s.length ≤ n ∧ m = n - s.length ∧ f 3 = w ∧ Pre n R s ∧ OwS A w (iN s) ∧ (∀ q, ownB w q → H1.size ≤ q) ∧ Keep (fun _ => False) H1 A) n ?_ ?_
  · exact ⟨[], _, by simp, by simp, by simp only [go_sem, List.map_cons, List.map_nil, ↓reduceIte, Nat.reduceEqDiff, Nat.reduceAdd, Nat.reduceMul, reduceCtorEq, and_true, true_and, Nat.mul_one, Nat.zero_add, Bool.false_eq_true, decide_true, decide_false, not_false_eq_true, kont_eq], Pre.nil n R, OwS.nil _, fun q h => h.elim, Keep.refl _ _⟩
  rintro m f H2 ⟨s, w, hsn, rfl, hf3, hP, O2, w2, K2⟩
  have s2 := K2.size
  simp only [go_sem, List.map_cons, List.map_nil, ↓reduceIte, Nat.reduceEqDiff, Nat.reduceAdd, Nat.reduceMul, reduceCtorEq, and_true, true_and, Nat.mul_one, Nat.zero_add, Bool.false_eq_true, decide_true, decide_false, not_false_eq_true, kont_eq] at hf3
  have B2 := K2.bl B1' (by simp)
  have c20 : cell H2 ⟨b1, 0, none⟩ = some (.int .i64 (n : Int)) := by rw [B2.cell]; rfl
  have hsl : (iN s).length = s.length := iN_len s
  simp only [go_sem, List.map_cons, List.map_nil, ↓reduceIte, Nat.reduceEqDiff, Nat.reduceAdd, Nat.reduceMul, reduceCtorEq, and_true, true_and, Nat.mul_one, Nat.zero_add, Bool.false_eq_true, decide_true, decide_false, not_false_eq_true, hf3, c20, O2.sl.isSl, O2.sl.lenS, O2.sl.len, hsl]
  refine iteV_dec (fun hlt => ?_) (fun hge => ?_)
  · have hlt : s.length < n := by omega
    refine vc_mono (Q := fun e f' A => e = .x 2 ∧ f' 3 = w ∧ ∃ k : Nat, nxt n R s = some k ∧ f' 4 = .int .i64 (k : Int) ∧ OwS A w (iN s) ∧ Keep (fun _ => False) H1 A) ?_ ?_
    rotate_left
    · refine vc_loop [21, 6, 30, 31, 32, 33, 8, 43, 4, 5] rfl (fun m g A => ∃ (x : Nat), x ≤ n ∧ m = n - x ∧ g 5 = .int .i64 (x : Int) ∧ ((g 4 = .int .i64 (-1) ∧ ∀ j < x, rdy n R s j = false) ∨ ∃ k : Nat, nxt n R s = some k ∧ g 4 = .int .i64 (k : Int)) ∧ OwS A w (iN s) ∧ Keep (fun _ => False) H1 A) n ?_ ?_
      · exact ⟨0, by omega, by omega, by simp only [go_sem, List.map_cons, List.map_nil, ↓reduceIte, Nat.reduceEqDiff, Nat.reduceAdd, Nat.reduceMul, reduceCtorEq, and_true, true_and, Nat.mul_one, Nat.zero_add, Bool.false_eq_true, decide_true, decide_false, not_false_eq_true, kont_eq]; rfl, .inl ⟨by simp only [go_sem, List.map_cons, List.map_nil, ↓reduceIte, Nat.reduceEqDiff, Nat.reduceAdd, Nat.reduceMul, reduceCtorEq, and_true, true_and, Nat.mul_one, Nat.zero_add, Bool.false_eq_true, decide_true, decide_false, not_false_eq_true, kont_eq], fun j hj => by omega⟩, O2, K2⟩
      rintro m g H3 ⟨x, hx, rfl, hg5, hg4, O3, K3⟩
      have s3 := K3.size
      simp only [go_sem, List.map_cons, List.map_nil, ↓reduceIte, Nat.reduceEqDiff, Nat.reduceAdd, Nat.reduceMul, reduceCtorEq, and_true, true_and, Nat.mul_one, Nat.zero_add, Bool.false_eq_true, decide_true, decide_false, not_false_eq_true, kont_eq] at hg5 hg4
      have B3 := K3.bl B1' (by simp)
      have c30 : cell H3 ⟨b1, 0, none⟩ = some (.int .i64 (n : Int)) := by rw [B3.cell]; rfl
      rcases hg4 with ⟨hg4, hno⟩ | ⟨k, hk1, hg4⟩
      · by_cases hxn : x < n
        · have e1 : decide ((x : Int) < (n : Int)) = true := decide_eq_true (by omega)
          have e2 : decide ((-1 : Int) < 0) = true := rfl
          simp only [go_sem, List.map_cons, List.map_nil, ↓reduceIte, Nat.reduceEqDiff, Nat.reduceAdd, Nat.reduceMul, reduceCtorEq, and_true, true_and, Nat.mul_one, Nat.zero_add, Bool.false_eq_true, decide_true, decide_false, not_false_eq_true, kont_eq, fillV_nil, fillV_cons, okFill_nil, okFill_cons, cells_slice, cells_int, cells_bool, cells_str, cells_ptr, cells_agg, stNH_ptr, okN_ptr, wrA1, wrA20, wrA21, hf3, hg5, hg4, c30, e1, e2]
          refine (hi s w x H3 O3.sl (by omega)).mono ?_
          rintro r H4 ⟨rfl, rfl⟩
          rw [kont_eq]
          simp only [go_sem, List.map_cons, List.map_nil, ↓reduceIte, Nat.reduceEqDiff, Nat.reduceAdd, Nat.reduceMul, reduceCtorEq, and_true, true_and, Nat.mul_one, Nat.zero_add, Bool.false_eq_true, decide_true, decide_false, not_false_eq_true, kont_eq, fillV_nil, fillV_cons, okFill_nil, okFill_cons, cells_slice, cells_int, cells_bool, cells_str, cells_ptr, cells_agg, stNH_ptr, okN_ptr, wrA1, wrA20, wrA21, hg5, B3.ldNO 2 rfl]
          refine (hab n R _ x H4 (hv0.keep0 (K1.trans K3))).mono ?_
          rintro lv H5 ⟨O5, o5, K5⟩
          have s5 := K5.size
          have hll : (iN (rabL n R x)).length = (rabL n R x).length := iN_len _
          have hll2 : (rabL n R x).length ≤ n := by
            have := List.length_filter_le (fun j : Nat => isRb n R j x) (List.range n)
            rw [List.length_range] at this; exact this
          have O35 := O3.keep K5 (by simp)
          rw [kont_eq]
          simp only [go_sem, List.map_cons, List.map_nil, ↓reduceIte, Nat.reduceEqDiff, Nat.reduceAdd, Nat.reduceMul, reduceCtorEq, and_true, true_and, Nat.mul_one, Nat.zero_add, Bool.false_eq_true, decide_true, decide_false, not_false_eq_true, kont_eq, fillV_nil, fillV_cons, okFill_nil, okFill_cons, cells_slice, cells_int, cells_bool, cells_str, cells_ptr, cells_agg, stNH_ptr, okN_ptr, wrA1, wrA20, wrA21, O5.sl.isSl, O5.sl.lenS, O5.sl.len, hll]
          refine vc_loop [33, 8, 6, 32] rfl (fun m h A => ∃ (i : Nat), i ≤ (rabL n R x).length ∧ m = (rabL n R x).length - i ∧ h 32 = .int .i64 (i : Int) ∧ h 6 = .bool (!decide (x ∈ s) && ((rabL n R x).take i).all fun a => decide (a ∈ s)) ∧ A = H5) (rabL n R x).length ?_ ?_
          · exact ⟨0, by omega, by omega, by simp only [go_sem, List.map_cons, List.map_nil, ↓reduceIte, Nat.reduceEqDiff, Nat.reduceAdd, Nat.reduceMul, reduceCtorEq, and_true, true_and, Nat.mul_one, Nat.zero_add, Bool.false_eq_true, decide_true, decide_false, not_false_eq_true, kont_eq]; rfl, by simp only [go_sem, List.map_cons, List.map_nil, ↓reduceIte, Nat.reduceEqDiff, Nat.reduceAdd, Nat.reduceMul, reduceCtorEq, and_true, true_and, Nat.mul_one, Nat.zero_add, Bool.false_eq_true, decide_true, decide_false, not_false_eq_true, kont_eq]; simp, rfl⟩
          rintro m h A ⟨i, hi0, rfl, hh32, hh6, rfl⟩
          simp only [go_sem, List.map_cons, List.map_nil, ↓reduceIte, Nat.reduceEqDiff, Nat.reduceAdd, Nat.reduceMul, reduceCtorEq, and_true, true_and, Nat.mul_one, Nat.zero_add, Bool.false_eq_true, decide_true, decide_false, not_false_eq_true, kont_eq] at hh32 hh6
          simp only [go_sem, List.map_cons, List.map_nil, ↓reduceIte, Nat.reduceEqDiff, Nat.reduceAdd, Nat.reduceMul, reduceCtorEq, and_true, true_and, Nat.mul_one, Nat.zero_add, Bool.false_eq_true, decide_true, decide_false, not_false_eq_true, hh32]
          refine iteV_dec (fun hlt => ?_) (fun hge => ?_)
          · have hil : i < (rabL n R x).length := by omega
            obtain ⟨lb, lo, lc, rfl, hlc, hcell⟩ := O5.sl.cells (by intro e; rw [e] at hll; simp at hll; omega)
            have hc := hcell i (by omega)
            have hc' : cell A ⟨lb, lo + i, none⟩ = some (.int .i64 (((rabL n R x)[i] : Nat) : Int)) := by
              rw [hc]; simp [iN, iL, hil]
            have hsu : (!decide (x ∈ s) && ((rabL n R x).take (i + 1)).all fun a => decide (a ∈ s)) = ((!decide (x ∈ s) && ((rabL n R x).take i).all fun a => decide (a ∈ s)) && decide ((rabL n R x)[i] ∈ s)) := by
              rw [List.take_succ_eq_append_getElem hil, List.all_append, Bool.and_assoc]
              simp
            cases h6 : (!decide (x ∈ s) && ((rabL n R x).take i).all fun a => decide (a ∈ s)) with
            | false =>
              rw [h6] at hh6 hsu
              simp (disch := omega) only [go_sem, List.map_cons, List.map_nil, ↓reduceIte, Nat.reduceEqDiff, Nat.reduceAdd, Nat.reduceMul, reduceCtorEq, and_true, true_and, Nat.mul_one, Nat.zero_add, Bool.false_eq_true, decide_true, decide_false, not_false_eq_true, kont_eq, fillV_nil, fillV_cons, okFill_nil, okFill_cons, cells_slice, cells_int, cells_bool, cells_str, cells_ptr, cells_agg, stNH_ptr, okN_ptr, wrA1, wrA20, wrA21, hh32, hh6, tn_cast, Nat.mul_one, Nat.zero_add, hc', IntWalk.i64_in]
              exact ⟨by omega, (rabL n R x).length - (i + 1), by omega, i + 1, by omega, rfl, rfl, by rw [hsu]; rfl⟩
            | true =>
              rw [h6] at hh6 hsu
              simp (disch := omega) only [go_sem, List.map_cons, List.map_nil, ↓reduceIte, Nat.reduceEqDiff, Nat.reduceAdd, Nat.reduceMul, reduceCtorEq, and_true, true_and, Nat.mul_one, Nat.zero_add, Bool.false_eq_true, decide_true, decide_false, not_false_eq_true, kont_eq, fillV_nil, fillV_cons, okFill_nil, okFill_cons, cells_slice, cells_int, cells_bool, cells_str, cells_ptr, cells_agg, stNH_ptr, okN_ptr, wrA1, wrA20, wrA21, hh32, hh6, hf3, tn_cast, Nat.mul_one, Nat.zero_add, hc', IntWalk.i64_in]
              refine ⟨by omega, ?_⟩
              refine (hi s w (rabL n R x)[i] A O35.sl (by omega)).mono ?_
              rintro r A2 ⟨rfl, rfl⟩
              rw [kont_eq]
              simp (disch := omega) only [go_sem, List.map_cons, List.map_nil, ↓reduceIte, Nat.reduceEqDiff, Nat.reduceAdd, Nat.reduceMul, reduceCtorEq, and_true, true_and, Nat.mul_one, Nat.zero_add, Bool.false_eq_true, decide_true, decide_false, not_false_eq_true, kont_eq, fillV_nil, fillV_cons, okFill_nil, okFill_cons, cells_slice, cells_int, cells_bool, cells_str, cells_ptr, cells_agg, stNH_ptr, okN_ptr, wrA1, wrA20, wrA21, hh32, IntWalk.i64_in]
              exact ⟨(rabL n R x).length - (i + 1), by omega, i + 1, by omega, rfl, rfl, by rw [hsu]; rfl⟩
          · have hie : i = (rabL n R x).length := by omega
            subst hie
            rw [List.take_length, rdy_tc hP hR] at hh6
            cases hrd : rdy n R s x with
            | false =>
              rw [hrd] at hh6
              simp (disch := omega) only [go_sem, List.map_cons, List.map_nil, ↓reduceIte, Nat.reduceEqDiff, Nat.reduceAdd, Nat.reduceMul, reduceCtorEq, and_true, true_and, Nat.mul_one, Nat.zero_add, Bool.false_eq_true, decide_true, decide_false, not_false_eq_true, kont_eq, fillV_nil, fillV_cons, okFill_nil, okFill_cons, cells_slice, cells_int, cells_bool, cells_str, cells_ptr, cells_agg, stNH_ptr, okN_ptr, wrA1, wrA20, wrA21, hh6, hg5, IntWalk.i64_in]
              refine ⟨n - (x + 1), by omega, x + 1, by omega, rfl, rfl, .inl ⟨hg4, fun j hj => ?_⟩, O35, K3.trans K5⟩
              rcases Nat.lt_or_ge j x with h | h
              · exact hno j h
              · have : j = x := by omega
                subst this; exact hrd
            | true =>
              rw [hrd] at hh6
              simp (disch := omega) only [go_sem, List.map_cons, List.map_nil, ↓reduceIte, Nat.reduceEqDiff, Nat.reduceAdd, Nat.reduceMul, reduceCtorEq, and_true, true_and, Nat.mul_one, Nat.zero_add, Bool.false_eq_true, decide_true, decide_false, not_false_eq_true, kont_eq, fillV_nil, fillV_cons, okFill_nil, okFill_cons, cells_slice, cells_int, cells_bool, cells_str, cells_ptr, cells_agg, stNH_ptr, okN_ptr, wrA1, wrA20, wrA21, hh6, hg5, IntWalk.i64_in]
              exact ⟨n - (x + 1), by omega, x + 1, by omega, rfl, rfl, .inr ⟨x, nxt_eq hxn hrd hno, rfl⟩, O35, K3.trans K5⟩
        · have e1 : decide ((x : Int) < (n : Int)) = false := decide_eq_false (by omega)
          have hnone : nxt n R s = none := by
            cases h : nxt n R s with
            | none => rfl
            | some k =>
              obtain ⟨h1, h2, _⟩ := nxt_some h
              rw [hno k (by omega)] at h2; cases h2
          exact absurd hA (hP.stuck hR hnone hlt)
      · have hkn := (nxt_some hk1).1
        by_cases hxn : x < n
        · have e1 : decide ((x : Int) < (n : Int)) = true := decide_eq_true (by omega)
          have e2 : decide ((k : Int) < 0) = false := decide_eq_false (by omega)
          simp only [go_sem, List.map_cons, List.map_nil, ↓reduceIte, Nat.reduceEqDiff, Nat.reduceAdd, Nat.reduceMul, reduceCtorEq, and_true, true_and, Nat.mul_one, Nat.zero_add, Bool.false_eq_true, decide_true, decide_false, not_false_eq_true, kont_eq, fillV_nil, fillV_cons, okFill_nil, okFill_cons, cells_slice, cells_int, cells_bool, cells_str, cells_ptr, cells_agg, stNH_ptr, okN_ptr, wrA1, wrA20, wrA21, hf3, hg5, hg4, c30, e1, e2]
          exact ⟨k, hk1, rfl, O3, K3⟩
        · have e1 : decide ((x : Int) < (n : Int)) = false := decide_eq_false (by omega)
          simp only [go_sem, List.map_cons, List.map_nil, ↓reduceIte, Nat.reduceEqDiff, Nat.reduceAdd, Nat.reduceMul, reduceCtorEq, and_true, true_and, Nat.mul_one, Nat.zero_add, Bool.false_eq_true, decide_true, decide_false, not_false_eq_true, kont_eq, fillV_nil, fillV_cons, okFill_nil, okFill_cons, cells_slice, cells_int, cells_bool, cells_str, cells_ptr, cells_agg, stNH_ptr, okN_ptr, wrA1, wrA20, wrA21, hf3, hg5, hg4, c30, e1]
          exact ⟨k, hk1, rfl, O3, K3⟩
    rintro e f4 H3 ⟨rfl, hf43, k, hk1, hf44, O3, K3⟩
    have s3 := K3.size
    simp only [go_sem, List.map_cons, List.map_nil, ↓reduceIte, Nat.reduceEqDiff, Nat.reduceAdd, Nat.reduceMul, reduceCtorEq, and_true, true_and, Nat.mul_one, Nat.zero_add, Bool.false_eq_true, decide_true, decide_false, not_false_eq_true, fillV_nil, fillV_cons, okFill_nil, okFill_cons, cells_slice, cells_int, cells_bool, cells_str, cells_ptr, cells_agg, stNH_ptr, okN_ptr, wrA1, wrA20, wrA21, hf43, hf44]
    refine kont_news fun H5 b5 e5 z5 B5 K5 => ?_
    have s5 := K5.size
    have B5' : Bl H5 b5 (iN [k]) := B5
    simp only [go_sem, List.map_cons, List.map_nil, ↓reduceIte, Nat.reduceEqDiff, Nat.reduceAdd, Nat.reduceMul, reduceCtorEq, and_true, true_and, Nat.mul_one, Nat.zero_add, Bool.false_eq_true, decide_true, decide_false, not_false_eq_true, kont_eq]
    have hx5 : SlR H5 (.slice (some ⟨b5, 0, none⟩) 1 1) (iN [k]) := SlR.bl B5' 0 1 1 (by omega) (by rw [iN_len]; simp)
    refine app_slN (l := iN s) (m := iN [k]) H1.size (O3.keep K5 (by simp)) w2 (by omega) hx5 (iL_all1 _) rfl (by omega) (by rw [iN_len, iN_len]; simp; omega) fun v' H6 O6 own6 K6 => ?_
    rw [← iN_app] at O6
    simp only [go_sem, List.map_cons, List.map_nil, ↓reduceIte, Nat.reduceEqDiff, Nat.reduceAdd, Nat.reduceMul, reduceCtorEq, and_true, true_and, Nat.mul_one, Nat.zero_add, Bool.false_eq_true, decide_true, decide_false, not_false_eq_true, kont_eq]
    refine ⟨n - (s.length + 1), by omega, s ++ [k], v', (by rw [List.length_append, List.length_singleton]; omega), (by rw [List.length_append, List.length_singleton]), rfl, hP.snoc hk1, O6, own6, (K3.trans K5).at_old K6 (Nat.le_refl _)⟩
  · have hse : s.length = n := by omega
    rw [hQ]
    rw [hP.eq hR (.inl hse)] at O2
    exact ⟨O2, fun q hq => by have := w2 q hq; omega, K1.trans K2⟩
end Go.Mg

namespace Go.Mg
open Go Go.RowKit
set_option linter.unusedSimpArgs false
set_option linter.unusedVariables false
set_option maxRecDepth 100000
/- arbacref06.Height -/
/- arbacref06.rank -/
end Go.Mg

namespace Go.Mg
open Go Go.RowKit
set_option linter.unusedSimpArgs false
set_option linter.unusedVariables false
set_option maxRecDepth 100000
/- arbacref06.Path -/
def c_rpath (ι : Ids) : S :=
  .seq (.reg [.e (.v 3) (.box (ι.t 246) (.v 0)), .p (.v 6) (.mv (.c (.slice .none 0 0)))]) (.seq (.seq (.reg [.p (.t 14) (.mv (.v 1)), .p (.t 15) (.cm .lss .i64 (.t 14) (.c (.int .i64 0))), .p (.t 16)
  (.mv (.t 15)), .gp (.t 17) (.t 16) false (.mv (.v 1)), .gp (.t 18) (.t 16) false (.fa 0 (.v 3)), .gp (.t 19) (.t 16) false (.ld (.t 18)), .gp (.t 20) (.t 16) false (.cm .geq .i64 (.t 17) (.t 19)), .p
  (.t 21) (.pick (.t 16) (.c (.bool true)) (.t 20)), .p (.t 22) (.mv (.t 21)), .gp (.t 23) (.t 22) false (.mv (.v 2)), .gp (.t 24) (.t 22) false (.cm .lss .i64 (.t 23) (.c (.int .i64 0))), .p (.t 25)
  (.pick (.t 22) (.c (.bool true)) (.t 24)), .p (.t 26) (.mv (.t 25)), .gp (.t 27) (.t 26) false (.mv (.v 2)), .gp (.t 28) (.t 26) false (.fa 0 (.v 3)), .gp (.t 29) (.t 26) false (.ld (.t 28)), .gp (.t
  30) (.t 26) false (.cm .geq .i64 (.t 27) (.t 29)), .p (.v 31) (.pick (.t 26) (.c (.bool true)) (.t 30))]) (.ite (.v 31) (.seq (.reg [.p (.v 6) (.mv (.c (.slice .none 0 0)))]) .ret) .skip)) (.seq (.reg
  [.p (.t 32) (.mv (.v 1)), .e (.t 33) (.bldF (ι.t 26) 1 1 [.t 32]), .e (.t 34) (.bldF (ι.t 138) 1 1 [.t 33]), .p (.v 7) (.mv (.t 34))]) (.seq (.blk 0 (.loop (.seq (.seq (.reg [.p (.t 35) (.mv (.v 7)),
  .p (.t 36) (.m (.lenl (.t 35))), .p (.v 37) (.cm .gtr .i64 (.t 36) (.c (.int .i64 0)))]) (.ite (.v 37) .skip (.exit 0))) (.blk 1 (.seq (.seq (.reg [.p (.v 38) (.mv (.v 7)), .p (.v 39) (.m (.lenl (.v
  38))), .p (.v 40) (.mv (.c (.int .i64 0)))]) (.blk 2 (.loop (.seq (.reg [.p (.v 41) (.cm .lss .i64 (.v 40) (.v 39))]) (.seq (.ite (.v 41) .skip (.exit 2)) (.seq (.blk 3 (.seq (.reg [.p (.t 42) (.is 1
  (.v 38) (.v 40)), .p (.t 43) (.ld (.t 42)), .p (.v 9) (.mv (.t 43))]) (.seq (.reg [.p (.t 44) (.mv (.v 9)), .p (.t 45) (.mv (.v 9)), .p (.t 46) (.m (.lenl (.t 45))), .p (.t 47) (.ar .sub .i64 (.t 46)
  (.c (.int .i64 1))), .p (.t 48) (.is 1 (.t 44) (.t 47)), .p (.t 49) (.ld (.t 48)), .p (.t 50) (.mv (.v 2)), .p (.v 51) (.cm .eql .i64 (.t 49) (.t 50))]) (.ite (.v 51) (.seq (.reg [.p (.t 52) (.mv (.v
  9)), .p (.v 6) (.mv (.t 52))]) .ret) .skip)))) (.reg [.p (.t 53) (.ar .add .i64 (.v 40) (.c (.int .i64 1))), .p (.v 40) (.mv (.t 53))]))))))) (.seq (.reg [.p (.v 10) (.mv (.c (.slice .none 0 0)))])
  (.seq (.seq (.reg [.p (.v 54) (.mv (.v 7)), .p (.v 55) (.m (.lenl (.v 54))), .p (.v 56) (.mv (.c (.int .i64 0)))]) (.blk 4 (.loop (.seq (.reg [.p (.v 57) (.cm .lss .i64 (.v 56) (.v 55))]) (.seq (.ite
  (.v 57) .skip (.exit 4)) (.seq (.blk 5 (.seq (.reg [.p (.t 58) (.is 1 (.v 54) (.v 56)), .p (.t 59) (.ld (.t 58)), .p (.v 12) (.mv (.t 59))]) (.seq (.reg [.p (.v 13) (.mv (.c (.int .i64 0)))]) (.blk 6
  (.loop (.seq (.seq (.reg [.p (.t 60) (.mv (.v 13)), .p (.t 61) (.fa 0 (.v 3)), .p (.t 62) (.ld (.t 61)), .p (.v 63) (.cm .lss .i64 (.t 60) (.t 62))]) (.ite (.v 63) .skip (.exit 6))) (.seq (.blk 7
  (.seq (.reg [.p (.t 66) (.m (.ldn 2 (.v 3))), .p (.t 67) (.mv (.v 12)), .p (.t 68) (.mv (.v 12)), .p (.t 69) (.m (.lenl (.t 68))), .p (.t 70) (.ar .sub .i64 (.t 69) (.c (.int .i64 1))), .p (.t 71)
  (.is 1 (.t 67) (.t 70)), .p (.t 72) (.ld (.t 71)), .p (.t 73) (.mv (.v 13)), .e (.v 74) (.call (ι.f 247) [.t 66, .t 72, .t 73])]) (.ite (.v 74) (.reg [.p (.t 75) (.mv (.v 10)), .e (.t 76) (.bldF (ι.t
  26) 1 0 []), .p (.t 77) (.mv (.v 12)), .e (.t 78) (.app false (ι.t 26) 1 8 #[.int .i64 0] (.t 76) (.t 77)), .p (.t 79) (.mv (.v 13)), .e (.t 80) (.bldF (ι.t 26) 1 1 [.t 79]), .e (.t 81) (.app false
  (ι.t 26) 1 8 #[.int .i64 0] (.t 78) (.t 80)), .e (.t 82) (.bldF (ι.t 138) 1 1 [.t 81]), .e (.t 83) (.app false (ι.t 138) 1 24 #[.slice .none 0 0] (.t 75) (.t 82)), .p (.v 10) (.mv (.t 83))]) .skip)))
  (.reg [.p (.t 64) (.mv (.v 13)), .p (.t 65) (.ar .add .i64 (.t 64) (.c (.int .i64 1))), .p (.v 13) (.mv (.t 65))])))))))) (.reg [.p (.t 84) (.ar .add .i64 (.v 56) (.c (.int .i64 1))), .p (.v 56) (.mv
  (.t 84))]))))))) (.reg [.p (.t 85) (.mv (.v 10)), .p (.v 7) (.mv (.t 85))])))))))) (.seq (.reg [.p (.v 6) (.mv (.c (.slice .none 0 0)))]) .ret))))
def r_rpath : List RV := [.t 6]

theorem longer_len {n : Nat} {R : Nat → Nat → Bool} : ∀ l : List (List Nat), (longer n R l).length ≤ l.length * n
  | [] => by simp [longer]
  | p :: l => by
    have ih := longer_len (n := n) (R := R) l
    unfold longer at ih ⊢
    have h1 := List.length_filter_le (R (lastN p)) (List.range n)
    rw [List.length_range] at h1
    have h2 : (l.length + 1) * n = l.length * n + n := Nat.succ_mul _ _
    rw [List.flatMap_cons, List.length_append, List.length_map, List.length_cons]
    omega
theorem walks_len {n : Nat} {R : Nat → Nat → Bool} : ∀ (d x : Nat), (walks n R d x).length ≤ n ^ d
  | 0, x => by simp [walks]
  | d + 1, x => by
    rw [← longer_walks, Nat.pow_succ]
    exact Nat.le_trans (longer_len _) (Nat.mul_le_mul (walks_len d x) (Nat.le_refl _))
theorem walks_row {n : Nat} {R : Nat → Nat → Bool} : ∀ (d x : Nat), ∀ p ∈ walks n R d x, p.length = d + 1
  | 0, x, p, h => by
    simp only [walks, List.mem_singleton] at h
    subst h; rfl
  | d + 1, x, p, h => by
    rw [← longer_walks] at h
    obtain ⟨q, hq, hp⟩ := List.mem_flatMap.1 h
    obtain ⟨y, _, rfl⟩ := List.mem_map.1 hp
    rw [List.length_append, walks_row d x q hq, List.length_singleton]
theorem iN_at {l : List Nat} {i : Nat} (h : i < l.length) : (iN l)[i]? = some (.int .i64 (l[i] : Int)) := by simp [iN, iL, h]
theorem wlk_pre {R : Nat → Nat → Bool} : ∀ (d k : Nat) {x b : Nat}, wlk R (d + k) x b → ∃ c, wlk R d x c
  | 0, k, x, b, _ => ⟨x, rfl⟩
  | d + 1, k, x, b, h => by
    have e : d + 1 + k = (d + k) + 1 := by omega
    rw [e] at h
    obtain ⟨y, h1, h2⟩ := h
    obtain ⟨c, hc⟩ := wlk_pre d k h2
    exact ⟨c, y, h1, hc⟩
theorem walks_mem {n : Nat} {R : Nat → Nat → Bool} (hR : Rng n R) : ∀ (d : Nat) {x c : Nat}, wlk R d x c → ∃ p ∈ walks n R d x, lastN p = c
  | 0, x, c, h => ⟨[x], by simp [walks], h⟩
  | d + 1, x, c, h => by
    obtain ⟨y, h1, h2⟩ := h
    obtain ⟨p, hp, hl⟩ := walks_mem hR d h2
    refine ⟨x :: p, ?_, ?_⟩
    · unfold walks
      exact List.mem_flatMap.2 ⟨y, List.mem_filter.2 ⟨List.mem_range.2 (hR _ _ h1).2, h1⟩, List.mem_map.2 ⟨p, hp, rfl⟩⟩
    · rw [lastN_cons (walks_ne d y p hp), hl]
/-- a slice of lists -/
structure PthV (H : Hp) (v : Value) (ps : List (List Nat)) (vs : List Value) : Prop where
  ow : OwS H v vs
  len : vs.length = ps.length
  at_ : ∀ i, i < ps.length → SlR H (vs.getD i undef) (iN (ps.getD i []))
  dv : ∀ i, i < ps.length → ∀ q, slB (vs.getD i undef) q → ¬ ownB v q
theorem PthV.nil (H : Hp) : PthV H (.slice none 0 0) [] [] := ⟨OwS.nil _, rfl, fun i h => by simp at h, fun i h => by simp at h⟩
theorem PthV.keep0 {H H' : Hp} {v : Value} {ps : List (List Nat)} {vs : List Value} (h : PthV H v ps vs) (hk : Keep (fun _ => False) H H') : PthV H' v ps vs :=
  ⟨h.ow.keep hk (by simp), h.len, fun i hi => (h.at_ i hi).keep hk (by simp), h.dv⟩
theorem PthV.app {H H1 : Hp} {v w r : Value} {ps : List (List Nat)} {vs : List Value} {p : List Nat} (h : PthV H v ps vs) (hr : SlR H r (iN p)) (hrv : ∀ q, slB r q → ¬ ownB v q)
    (hO : OwS H1 w (vs ++ [r])) (hw : ∀ q, ownB w q → ownB v q ∨ H.size ≤ q) (hK : Keep (ownB v) H H1) : PthV H1 w (ps ++ [p]) (vs ++ [r]) := by
  have e1 : ∀ i, i < ps.length → (vs ++ [r]).getD i undef = vs.getD i undef := fun i hi => by
    rw [List.getD_eq_getElem?_getD, List.getElem?_append_left (by rw [h.len]; exact hi), ← List.getD_eq_getElem?_getD]
  have e2 : (vs ++ [r]).getD ps.length undef = r := by
    rw [List.getD_eq_getElem?_getD, List.getElem?_append_right (by rw [h.len]; exact Nat.le_refl _), h.len]; simp
  have f1 : ∀ i, i < ps.length → (ps ++ [p]).getD i [] = ps.getD i [] := fun i hi => by
    rw [List.getD_eq_getElem?_getD, List.getElem?_append_left hi, ← List.getD_eq_getElem?_getD]
  have f2 : (ps ++ [p]).getD ps.length [] = p := by
    rw [List.getD_eq_getElem?_getD, List.getElem?_append_right (Nat.le_refl _)]; simp
  have wd : ∀ (u : Value) (l : List Value), SlR H u l → (∀ q, slB u q → ¬ ownB v q) → ∀ q, slB u q → ¬ ownB w q := fun u l hu hd q hq hq' => by
    rcases hw q hq' with h' | h'
    · exact hd q hq h'
    · have := hu.old hq; omega
  refine ⟨hO, by simp [h.len], fun i hi => ?_, fun i hi q hq => ?_⟩
  · rw [List.length_append, List.length_singleton] at hi
    rcases Nat.lt_or_ge i ps.length with hi' | hi'
    · rw [e1 i hi', f1 i hi']; exact (h.at_ i hi').keep hK fun q hq => h.dv i hi' q hq
    · have : i = ps.length := by omega
      subst this; rw [e2, f2]; exact hr.keep hK hrv
  · rw [List.length_append, List.length_singleton] at hi
    rcases Nat.lt_or_ge i ps.length with hi' | hi'
    · rw [e1 i hi'] at hq; exact wd _ _ (h.at_ i hi') (h.dv i hi') q hq
    · have : i = ps.length := by omega
      subst this; rw [e2] at hq; exact wd _ _ hr hrv q hq
theorem PthV.rowAt {H : Hp} {v : Value} {ps : List (List Nat)} {vs : List Value} (h : PthV H v ps vs) {i : Nat} (hi : i < ps.length) (hne : ps.getD i [] ≠ []) :
    ∃ b c rb ro rc, v = .slice (some ⟨b, 0, none⟩) ps.length c ∧ vs.getD i undef = .slice (some ⟨rb, ro, none⟩) (ps.getD i []).length rc ∧ cell H ⟨b, i, none⟩ = some (.slice (some ⟨rb, ro, none⟩) (ps.getD i []).length rc) ∧
      cell H ⟨rb, ro + ((ps.getD i []).length - 1), none⟩ = some (.int .i64 (lastN (ps.getD i []) : Int)) := by
  have hl : i < vs.length := by rw [h.len]; exact hi
  obtain ⟨b, c, L, rfl, h1, h2, h3, h4, h5⟩ := h.ow.some (by intro e; rw [e] at hl; simp at hl)
  have hnl : 0 < (ps.getD i []).length := List.length_pos_iff.2 hne
  obtain ⟨rb, ro, rc, k0, k1, k2⟩ := (h.at_ i hi).cells (by intro e; have := congrArg List.length e; rw [iN_len] at this; simp at this; exact hne this)
  rw [iN_len] at k0 k2
  refine ⟨b, c, rb, ro, rc, by rw [h.len], k0, ?_, ?_⟩
  · have hc := h5 i hl
    rw [h3.cell, hc, ← k0, List.getD_eq_getElem?_getD, List.getElem?_eq_getElem hl]; rfl
  · rw [k2 _ (by omega)]
    have : (ps.getD i []).getLastD 0 = (ps.getD i [])[(ps.getD i []).length - 1] := by
      rw [List.getLastD_eq_getLast?, List.getLast?_eq_getElem?, List.getElem?_eq_getElem (by omega)]; rfl
    unfold lastN
    rw [this]
    exact iN_at (by omega)
def RPathSpec (P : Program) (k : FuncId) : Prop := ∀ (n : Nat) (R : Nat → Nat → Bool) (v : Value) (a b : Int) (H : Hp), ROrd H v n R → Acy R → n ≤ 7 → CallsM P k #[v, .int .i64 a, .int .i64 b] H fun r H' => SlR H' r (iN ((pthO (some (n, R)) a b).getD [])) ∧ Keep (fun _ => False) H H'
theorem rpath_ok {P : Program} {ι : Ids} {k : FuncId} (hk : FnIs P k (c_rpath ι) r_rpath 3) (hg : RGivSpec P (ι.f 247)) : RPathSpec P k := by
  intro n R v x0 y0 H hv hA hn7
  obtain ⟨hn, hR, pv, rfl, hp⟩ := hv
  obtain ⟨Q, hQ⟩ : ∃ Q : Value → Hp → Prop, Q = fun r H' => SlR H' r (iN ((pthO (some (n, R)) x0 y0).getD [])) ∧ Keep (fun _ => False) H H' := ⟨_, rfl⟩
  rw [← hQ]
  refine calls_of_vc hk (args := [_, _, _]) (by simp) ?_
  unfold c_rpath r_rpath
  simp only [go_sem, List.map_cons, List.map_nil, ↓reduceIte, Nat.reduceEqDiff, Nat.reduceAdd, Nat.reduceMul, reduceCtorEq, and_true, true_and, Nat.mul_one, Nat.zero_add, Bool.false_eq_true, decide_true, decide_false, not_false_eq_true]
  refine kont_new fun H1 b1 e1 z1 B1 K1 => ?_
  have s1 := K1.size
  have B1' : Bl H1 b1 [.int .i64 (n : Int), pv] := B1
  have p1 := hp.keep0 K1
  have c10 : cell H1 ⟨b1, 0, none⟩ = some (.int .i64 (n : Int)) := by rw [B1'.cell]; rfl
  have hno : pthO (some (n, R)) x0 y0 = none → ∀ A, Keep (fun _ => False) H1 A → Q (.slice none 0 0) A := fun h A KA => by
    rw [hQ, h]; exact ⟨(OwS.nil A).sl, K1.trans KA⟩
  have hout : ¬ (0 ≤ x0 ∧ x0 < n ∧ 0 ≤ y0 ∧ y0 < n) → Q (.slice none 0 0) H1 := fun h => hno (pthO_none fun n' R' e hh => by
    cases e
    have h1 := hh.1
    have h2 := hh.2.1
    simp only [inO, Bool.and_eq_true, decide_eq_true_eq] at h1 h2
    omega) _ (Keep.refl _ _)
  by_cases h1 : x0 < 0
  · have e1 : decide (x0 < 0) = true := decide_eq_true h1
    simp only [go_sem, List.map_cons, List.map_nil, ↓reduceIte, Nat.reduceEqDiff, Nat.reduceAdd, Nat.reduceMul, reduceCtorEq, and_true, true_and, Nat.mul_one, Nat.zero_add, Bool.false_eq_true, decide_true, decide_false, not_false_eq_true, kont_eq, fillV_nil, fillV_cons, okFill_nil, okFill_cons, cells_slice, cells_int, cells_bool, cells_str, cells_ptr, cells_agg, stNH_ptr, okN_ptr, wrA1, wrA20, wrA21, c10, e1]
    exact hout (by omega)
  have e1 : decide (x0 < 0) = false := decide_eq_false h1
  by_cases h2 : x0 < n
  rotate_left
  · have e2 : decide ((n : Int) ≤ x0) = true := decide_eq_true (by omega)
    simp only [go_sem, List.map_cons, List.map_nil, ↓reduceIte, Nat.reduceEqDiff, Nat.reduceAdd, Nat.reduceMul, reduceCtorEq, and_true, true_and, Nat.mul_one, Nat.zero_add, Bool.false_eq_true, decide_true, decide_false, not_false_eq_true, kont_eq, fillV_nil, fillV_cons, okFill_nil, okFill_cons, cells_slice, cells_int, cells_bool, cells_str, cells_ptr, cells_agg, stNH_ptr, okN_ptr, wrA1, wrA20, wrA21, c10, e1, e2]
    exact hout (by omega)
  have e2 : decide ((n : Int) ≤ x0) = false := decide_eq_false (by omega)
  by_cases h3 : y0 < 0
  · have e3 : decide (y0 < 0) = true := decide_eq_true h3
    simp only [go_sem, List.map_cons, List.map_nil, ↓reduceIte, Nat.reduceEqDiff, Nat.reduceAdd, Nat.reduceMul, reduceCtorEq, and_true, true_and, Nat.mul_one, Nat.zero_add, Bool.false_eq_true, decide_true, decide_false, not_false_eq_true, kont_eq, fillV_nil, fillV_cons, okFill_nil, okFill_cons, cells_slice, cells_int, cells_bool, cells_str, cells_ptr, cells_agg, stNH_ptr, okN_ptr, wrA1, wrA20, wrA21, c10, e1, e2, e3]
    exact hout (by omega)
  have e3 : decide (y0 < 0) = false := decide_eq_false h3
  by_cases h4 : y0 < n
  rotate_left
  · have e4 : decide ((n : Int) ≤ y0) = true := decide_eq_true (by omega)
    simp only [go_sem, List.map_cons, List.map_nil, ↓reduceIte, Nat.reduceEqDiff, Nat.reduceAdd, Nat.reduceMul, reduceCtorEq, and_true, true_and, Nat.mul_one, Nat.zero_add, Bool.false_eq_true, decide_true, decide_false, not_false_eq_true, kont_eq, fillV_nil, fillV_cons, okFill_nil, okFill_cons, cells_slice, cells_int, cells_bool, cells_str, cells_ptr, cells_agg, stNH_ptr, okN_ptr, wrA1, wrA20, wrA21, c10, e1, e2, e3, e4]
    exact hout (by omega)
  have e4 : decide ((n : Int) ≤ y0) = false := decide_eq_false (by omega)
  obtain ⟨a, rfl⟩ := Int.eq_ofNat_of_zero_le (by omega : 0 ≤ x0)
  obtain ⟨b, rfl⟩ := Int.eq_ofNat_of_zero_le (by omega : 0 ≤ y0)
  have han : a < n := by omega
  have hbn : b < n := by omega
  have hia : inO (some (n, R)) (a : Int) = true := by simp only [inO, Bool.and_eq_true, decide_eq_true_eq]; omega
  have hib : inO (some (n, R)) (b : Int) = true := by simp only [inO, Bool.and_eq_true, decide_eq_true_eq]; omega
  have hsome : ∀ d, isD R b d a → pthO (some (n, R)) (a : Int) (b : Int) = some (gpath n R b d a) := fun d h => by
    have := pthO_some (n := n) (R := R) (a := (a : Int)) (b := (b : Int)) (d := d) hia hib (by simpa using h)
    rwa [Int.toNat_natCast, Int.toNat_natCast] at this
  have hnone : (∀ d, ¬ isD R b d a) → pthO (some (n, R)) (a : Int) (b : Int) = none := fun h => pthO_none fun n' R' e hh => by
    cases e
    obtain ⟨d, hd⟩ := hh.2.2
    rw [Int.toNat_natCast, Int.toNat_natCast] at hd
    exact h d hd
  simp only [go_sem, List.map_cons, List.map_nil, ↓reduceIte, Nat.reduceEqDiff, Nat.reduceAdd, Nat.reduceMul, reduceCtorEq, and_true, true_and, Nat.mul_one, Nat.zero_add, Bool.false_eq_true, decide_true, decide_false, not_false_eq_true, fillV_nil, fillV_cons, okFill_nil, okFill_cons, cells_slice, cells_int, cells_bool, cells_str, cells_ptr, cells_agg, stNH_ptr, okN_ptr, wrA1, wrA20, wrA21, c10, e1, e2, e3, e4]
  refine kont_news fun H2 b2 e2' z2 B2 K2 => ?_
  have s2 := K2.size
  have B2' : Bl H2 b2 (iN [a]) := B2
  simp only [go_sem, List.map_cons, List.map_nil, ↓reduceIte, Nat.reduceEqDiff, Nat.reduceAdd, Nat.reduceMul, reduceCtorEq, and_true, true_and, Nat.mul_one, Nat.zero_add, Bool.false_eq_true, decide_true, decide_false, not_false_eq_true, fillV_nil, fillV_cons, okFill_nil, okFill_cons, cells_slice, cells_int, cells_bool, cells_str, cells_ptr, cells_agg, stNH_ptr, okN_ptr, wrA1, wrA20, wrA21]
  refine kont_news fun H3 b3 e3' z3 B3 K3 => ?_
  have s3 := K3.size
  have B3' : Bl H3 b3 [.slice (some ⟨b2, 0, none⟩) 1 1] := B3
  simp only [go_sem, List.map_cons, List.map_nil, ↓reduceIte, Nat.reduceEqDiff, Nat.reduceAdd, Nat.reduceMul, reduceCtorEq, and_true, true_and, Nat.mul_one, Nat.zero_add, Bool.false_eq_true, decide_true, decide_false, not_false_eq_true, kont_eq]
  have P3 : PthV H3 (.slice (some ⟨b3, 0, none⟩) 1 1) (walks n R 0 a) [.slice (some ⟨b2, 0, none⟩) 1 1] := by
    refine ⟨OwS.new B3' rfl rfl, rfl, fun i hi => ?_, fun i hi q hq hq' => ?_⟩
    · have : i = 0 := by simp [walks] at hi; omega
      subst this
      exact SlR.bl (K3.bl B2' (by simp)) 0 1 1 (by omega) (by rw [iN_len]; simp)
    · have : i = 0 := by simp [walks] at hi; omega
      subst this
      have h1 : q = b2 := by simpa [slB] using hq
      have h2 : q = b3 := hq'
      omega
  refine vc_loop [37, 38, 39, 40, 41, 9, 51, 6, 10, 54, 55, 56, 57, 12, 13, 63, 74, 7] rfl (fun m f A => ∃ (d : Nat) (w : Value) (vs : List Value), d ≤ n ∧ m = n - d ∧ f 7 = w ∧ PthV A w (walks n R d a) vs ∧ (∀ e < d, ¬ wlk R e a b) ∧ Keep (fun _ => False) H1 A) n ?_ ?_
  · exact ⟨0, _, _, by omega, by omega, by simp only [go_sem, List.map_cons, List.map_nil, ↓reduceIte, Nat.reduceEqDiff, Nat.reduceAdd, Nat.reduceMul, reduceCtorEq, and_true, true_and, Nat.mul_one, Nat.zero_add, Bool.false_eq_true, decide_true, decide_false, not_false_eq_true, kont_eq], P3, fun e he => by omega, K2.trans K3⟩
  rintro m f H4 ⟨d, w, vs, hdn, rfl, hf7, P4, hne, K4⟩
  have s4 := K4.size
  simp only [go_sem, List.map_cons, List.map_nil, ↓reduceIte, Nat.reduceEqDiff, Nat.reduceAdd, Nat.reduceMul, reduceCtorEq, and_true, true_and, Nat.mul_one, Nat.zero_add, Bool.false_eq_true, decide_true, decide_false, not_false_eq_true, kont_eq] at hf7
  have hpl := P4.len
  obtain ⟨ps, hps⟩ : ∃ ps, ps = walks n R d a := ⟨_, rfl⟩
  have hrow : ∀ i, i < ps.length → (ps.getD i []).length = d + 1 := fun i hi => by
    rw [List.getD_eq_getElem?_getD, List.getElem?_eq_getElem hi]
    exact walks_row d a _ (by rw [← hps]; exact List.getElem_mem _)
  have hcap : ps.length ≤ n ^ d := by rw [hps]; exact walks_len d a
  rw [← hps] at P4 hpl
  simp only [go_sem, List.map_cons, List.map_nil, ↓reduceIte, Nat.reduceEqDiff, Nat.reduceAdd, Nat.reduceMul, reduceCtorEq, and_true, true_and, Nat.mul_one, Nat.zero_add, Bool.false_eq_true, decide_true, decide_false, not_false_eq_true, hf7, P4.ow.sl.isSl, P4.ow.sl.lenS, P4.ow.sl.len, hpl]
  refine iteV_dec (fun hlt => ?_) (fun hge => ?_)
  · have hlen : 0 < ps.length := by omega
    have hd : d < n := by
      have hm : ps[0] ∈ walks n R d a := by rw [← hps]; exact List.getElem_mem _
      have hw := walks_last d a _ hm
      refine wlk_lt hR hA (b := lastN ps[0]) ?_ han hw
      cases d with
      | zero =>
        have : a = lastN ps[0] := hw
        omega
      | succ d => exact (hR.tc (wlk_tc d hw)).2
    have hcap2 : n ^ d * n ≤ 823543 := by
      have h1 : n ^ (d + 1) ≤ 7 ^ (d + 1) := Nat.pow_le_pow_left hn7 _
      have h2 : 7 ^ (d + 1) ≤ 7 ^ 7 := Nat.pow_le_pow_right (by omega) (by omega)
      rw [← Nat.pow_succ]
      exact Nat.le_trans h1 (Nat.le_trans h2 (by decide))
    have hcap3 : ps.length * n ≤ 823543 := Nat.le_trans (Nat.mul_le_mul hcap (Nat.le_refl _)) hcap2
    have hpn : ps.length ≤ ps.length * n := Nat.le_mul_of_pos_right _ (by omega)
    refine vc_loop [41, 9, 51, 6, 40] rfl (fun m g A => ∃ (i : Nat), i ≤ ps.length ∧ m = ps.length - i ∧ g 40 = .int .i64 (i : Int) ∧ (∀ j < i, lastN (ps.getD j []) ≠ b) ∧ A = H4) ps.length ?_ ?_
    · exact ⟨0, by omega, by omega, by simp only [go_sem, List.map_cons, List.map_nil, ↓reduceIte, Nat.reduceEqDiff, Nat.reduceAdd, Nat.reduceMul, reduceCtorEq, and_true, true_and, Nat.mul_one, Nat.zero_add, Bool.false_eq_true, decide_true, decide_false, not_false_eq_true, kont_eq]; rfl, fun j hj => by omega, rfl⟩
    rintro m g A ⟨i, hi0, rfl, hg40, hnot, rfl⟩
    simp only [go_sem, List.map_cons, List.map_nil, ↓reduceIte, Nat.reduceEqDiff, Nat.reduceAdd, Nat.reduceMul, reduceCtorEq, and_true, true_and, Nat.mul_one, Nat.zero_add, Bool.false_eq_true, decide_true, decide_false, not_false_eq_true, kont_eq] at hg40
    simp only [go_sem, List.map_cons, List.map_nil, ↓reduceIte, Nat.reduceEqDiff, Nat.reduceAdd, Nat.reduceMul, reduceCtorEq, and_true, true_and, Nat.mul_one, Nat.zero_add, Bool.false_eq_true, decide_true, decide_false, not_false_eq_true, hg40]
    refine iteV_dec (fun hlt => ?_) (fun hge => ?_)
    · have hil : i < ps.length := by omega
      have hr := hrow i hil
      obtain ⟨pb, pc, rb, ro, rc, rfl, hvi, ci, cl⟩ := P4.rowAt hil (by intro e; rw [e] at hr; simp at hr)
      rw [hr] at hvi ci cl
      have hd1 : ((d + 1 : Nat) : Int) - 1 = (d : Int) := by omega
      have cl' : cell A ⟨rb, ro + d, none⟩ = some (.int .i64 (lastN (ps.getD i []) : Int)) := cl
      by_cases hl : lastN (ps.getD i []) = b
      · have e5 : ((lastN (ps.getD i []) : Int) == (b : Int)) = true := by rw [hl]; simp
        simp (disch := omega) only [go_sem, List.map_cons, List.map_nil, ↓reduceIte, Nat.reduceEqDiff, Nat.reduceAdd, Nat.reduceMul, reduceCtorEq, and_true, true_and, Nat.mul_one, Nat.zero_add, Bool.false_eq_true, decide_true, decide_false, not_false_eq_true, kont_eq, fillV_nil, fillV_cons, okFill_nil, okFill_cons, cells_slice, cells_int, cells_bool, cells_str, cells_ptr, cells_agg, stNH_ptr, okN_ptr, wrA1, wrA20, wrA21, hg40, tn_cast, Nat.mul_one, Nat.zero_add, ci, hd1, cl', e5, IntWalk.i64_in]
        refine ⟨by omega, by omega, ?_⟩
        rw [hQ]
        have hm : ps.getD i [] ∈ walks n R d a := by
          rw [← hps, List.getD_eq_getElem?_getD, List.getElem?_eq_getElem hil]; exact List.getElem_mem _
        have hD : isD R b d a := ⟨by have := walks_last d a _ hm; rwa [hl] at this, hne⟩
        have hfind := walks_find hR d a hD
        have hfind2 : ps.find? (fun p => lastN p == b) = some (ps.getD i []) := by
          rw [List.find?_eq_some_iff_getElem]
          refine ⟨by show (lastN (ps.getD i []) == b) = true; rw [hl]; simp, i, hil, by rw [List.getD_eq_getElem?_getD, List.getElem?_eq_getElem hil]; rfl, fun j hj => ?_⟩
          have := hnot j hj
          rw [List.getD_eq_getElem?_getD, List.getElem?_eq_getElem (by omega)] at this
          simpa using this
        rw [← hps, hfind2] at hfind
        rw [hsome d hD, ← hfind]
        have := P4.at_ i hil
        rw [hvi] at this
        exact ⟨this, K1.trans K4⟩
      · have e5 : ((lastN (ps.getD i []) : Int) == (b : Int)) = false := by simp only [beq_eq_false_iff_ne, ne_eq]; omega
        simp (disch := omega) only [go_sem, List.map_cons, List.map_nil, ↓reduceIte, Nat.reduceEqDiff, Nat.reduceAdd, Nat.reduceMul, reduceCtorEq, and_true, true_and, Nat.mul_one, Nat.zero_add, Bool.false_eq_true, decide_true, decide_false, not_false_eq_true, kont_eq, fillV_nil, fillV_cons, okFill_nil, okFill_cons, cells_slice, cells_int, cells_bool, cells_str, cells_ptr, cells_agg, stNH_ptr, okN_ptr, wrA1, wrA20, wrA21, hg40, tn_cast, Nat.mul_one, Nat.zero_add, ci, hd1, cl', e5, IntWalk.i64_in]
        refine ⟨by omega, by omega, ps.length - (i + 1), by omega, i + 1, by omega, rfl, rfl, fun j hj => ?_⟩
        rcases Nat.lt_or_ge j i with h | h
        · exact hnot j h
        · have : j = i := by omega
          subst this; exact hl
    · have hie : i = ps.length := by omega
      subst hie
      have hnd : ¬ wlk R d a b := fun h => by
        have hfind := walks_find hR d a ⟨h, hne⟩
        rw [← hps] at hfind
        rw [List.find?_eq_some_iff_getElem] at hfind
        obtain ⟨h1, j, hj, h2, _⟩ := hfind
        refine hnot j hj ?_
        rw [List.getD_eq_getElem?_getD, List.getElem?_eq_getElem hj]
        show lastN ps[j] = b
        rw [h2]; simpa using h1
      simp only [go_sem, List.map_cons, List.map_nil, ↓reduceIte, Nat.reduceEqDiff, Nat.reduceAdd, Nat.reduceMul, reduceCtorEq, and_true, true_and, Nat.mul_one, Nat.zero_add, Bool.false_eq_true, decide_true, decide_false, not_false_eq_true, kont_eq, hf7, P4.ow.sl.isSl, P4.ow.sl.lenS, P4.ow.sl.len, hpl]
      refine vc_loop [57, 12, 13, 63, 74, 10, 56] rfl (fun m g A2 => ∃ (i : Nat) (u : Value) (us : List Value), i ≤ ps.length ∧ m = ps.length - i ∧ g 56 = .int .i64 (i : Int) ∧ g 10 = u ∧ PthV A2 u (longer n R (ps.take i)) us ∧ (∀ q, ownB u q → A.size ≤ q) ∧ Keep (fun _ => False) A A2) ps.length ?_ ?_
      · exact ⟨0, _, _, by omega, by omega, by simp only [go_sem, List.map_cons, List.map_nil, ↓reduceIte, Nat.reduceEqDiff, Nat.reduceAdd, Nat.reduceMul, reduceCtorEq, and_true, true_and, Nat.mul_one, Nat.zero_add, Bool.false_eq_true, decide_true, decide_false, not_false_eq_true, kont_eq]; rfl, by simp only [go_sem, List.map_cons, List.map_nil, ↓reduceIte, Nat.reduceEqDiff, Nat.reduceAdd, Nat.reduceMul, reduceCtorEq, and_true, true_and, Nat.mul_one, Nat.zero_add, Bool.false_eq_true, decide_true, decide_false, not_false_eq_true, kont_eq], PthV.nil _, fun q h => h.elim, Keep.refl _ _⟩
      rintro m g2 H5 ⟨i, u, us, hi, rfl, hg56, hg10, U5, u5, K5⟩
      have s5 := K5.size
      simp only [go_sem, List.map_cons, List.map_nil, ↓reduceIte, Nat.reduceEqDiff, Nat.reduceAdd, Nat.reduceMul, reduceCtorEq, and_true, true_and, Nat.mul_one, Nat.zero_add, Bool.false_eq_true, decide_true, decide_false, not_false_eq_true, kont_eq] at hg56 hg10
      simp only [go_sem, List.map_cons, List.map_nil, ↓reduceIte, Nat.reduceEqDiff, Nat.reduceAdd, Nat.reduceMul, reduceCtorEq, and_true, true_and, Nat.mul_one, Nat.zero_add, Bool.false_eq_true, decide_true, decide_false, not_false_eq_true, hg56]
      refine iteV_dec (fun hlt => ?_) (fun hge => ?_)
      · have hil : i < ps.length := by omega
        have hr := hrow i hil
        have P5 := P4.keep0 K5
        obtain ⟨pb, pc, rb, ro, rc, rfl, hvi, ci, -⟩ := P5.rowAt hil (by intro e; rw [e] at hr; simp at hr)
        have hsr := P5.at_ i hil
        rw [hr] at hvi ci
        rw [hvi] at hsr
        obtain ⟨p, hpe⟩ : ∃ p, p = ps.getD i [] := ⟨_, rfl⟩
        rw [← hpe] at hr hsr
        have hlg : longer n R (ps.take (i + 1)) = longer n R (ps.take i) ++ ((List.range n).filter (R (lastN p))).map fun y => p ++ [y] := by
          have hpi : p = ps[i] := by rw [hpe, List.getD_eq_getElem?_getD, List.getElem?_eq_getElem hil]; rfl
          rw [List.take_succ_eq_append_getElem hil, hpi]
          unfold longer
          rw [List.flatMap_append]
          simp only [List.flatMap_cons, List.flatMap_nil, List.append_nil]
        have hll : (longer n R (ps.take i)).length ≤ i * n := by
          have := longer_len (n := n) (R := R) (ps.take i)
          rw [List.length_take, Nat.min_eq_left (by omega)] at this; exact this
        have hcap4 : i * n + n ≤ 823543 := by
          have h1 : (i + 1) * n ≤ ps.length * n := Nat.mul_le_mul (by omega) (Nat.le_refl _)
          have h2 : (i + 1) * n = i * n + n := Nat.succ_mul _ _
          omega
        have hd1 : ((d + 1 : Nat) : Int) - 1 = (d : Int) := by omega
        simp only [go_sem, List.map_cons, List.map_nil, ↓reduceIte, Nat.reduceEqDiff, Nat.reduceAdd, Nat.reduceMul, reduceCtorEq, and_true, true_and, Nat.mul_one, Nat.zero_add, Bool.false_eq_true, decide_true, decide_false, not_false_eq_true, kont_eq, fillV_nil, fillV_cons, okFill_nil, okFill_cons, cells_slice, cells_int, cells_bool, cells_str, cells_ptr, cells_agg, stNH_ptr, okN_ptr, wrA1, wrA20, wrA21, hg56, tn_cast, Nat.mul_one, Nat.zero_add, ci]
        refine ⟨by omega, ?_⟩
        refine vc_loop [63, 74, 10, 13] rfl (fun m g A2 => ∃ (y : Nat) (u : Value) (us : List Value), y ≤ n ∧ m = n - y ∧ g 13 = .int .i64 (y : Int) ∧ g 10 = u ∧ PthV A2 u (longer n R (ps.take i) ++ ((List.range y).filter (R (lastN p))).map fun y => p ++ [y]) us ∧ (∀ q, ownB u q → A.size ≤ q) ∧ Keep (fun _ => False) A A2) n ?_ ?_
        · exact ⟨0, _, _, by omega, by omega, by simp only [go_sem, List.map_cons, List.map_nil, ↓reduceIte, Nat.reduceEqDiff, Nat.reduceAdd, Nat.reduceMul, reduceCtorEq, and_true, true_and, Nat.mul_one, Nat.zero_add, Bool.false_eq_true, decide_true, decide_false, not_false_eq_true, kont_eq]; rfl, by simp only [go_sem, List.map_cons, List.map_nil, ↓reduceIte, Nat.reduceEqDiff, Nat.reduceAdd, Nat.reduceMul, reduceCtorEq, and_true, true_and, Nat.mul_one, Nat.zero_add, Bool.false_eq_true, decide_true, decide_false, not_false_eq_true, kont_eq, hg10], by simpa using U5, u5, K5⟩
        rintro m g3 H6 ⟨y, u6, us6, hy, rfl, hg13, hg106, U6, w6, K6⟩
        have s6 := K6.size
        simp only [go_sem, List.map_cons, List.map_nil, ↓reduceIte, Nat.reduceEqDiff, Nat.reduceAdd, Nat.reduceMul, reduceCtorEq, and_true, true_and, Nat.mul_one, Nat.zero_add, Bool.false_eq_true, decide_true, decide_false, not_false_eq_true, kont_eq] at hg13 hg106
        have B6 := (K4.trans K6).bl B1' (by simp)
        have c60 : cell H6 ⟨b1, 0, none⟩ = some (.int .i64 (n : Int)) := by rw [B6.cell]; rfl
        simp only [go_sem, List.map_cons, List.map_nil, ↓reduceIte, Nat.reduceEqDiff, Nat.reduceAdd, Nat.reduceMul, reduceCtorEq, and_true, true_and, Nat.mul_one, Nat.zero_add, Bool.false_eq_true, decide_true, decide_false, not_false_eq_true, hg13, c60]
        refine iteV_dec (fun hlt => ?_) (fun hge => ?_)
        · have hyn : y < n := by omega
          have P6 := P4.keep0 K6
          obtain ⟨pb', pc', rb', ro', rc', -, hvi', -, cl⟩ := P6.rowAt hil (by intro e; rw [← hpe] at e; rw [e] at hr; simp at hr)
          have hsr6 := P6.at_ i hil
          rw [← hpe] at hvi' cl hsr6
          rw [hvi] at hsr6
          rw [hr] at hvi' cl
          rw [hvi] at hvi'
          simp only [Value.slice.injEq, Option.some.injEq, Addr.mk.injEq, and_true, true_and] at hvi'
          obtain ⟨⟨rfl, rfl⟩, rfl⟩ := hvi'
          have cl' : cell H6 ⟨rb, ro + d, none⟩ = some (.int .i64 (lastN p : Int)) := cl
          simp (disch := omega) only [go_sem, List.map_cons, List.map_nil, ↓reduceIte, Nat.reduceEqDiff, Nat.reduceAdd, Nat.reduceMul, reduceCtorEq, and_true, true_and, Nat.mul_one, Nat.zero_add, Bool.false_eq_true, decide_true, decide_false, not_false_eq_true, kont_eq, fillV_nil, fillV_cons, okFill_nil, okFill_cons, cells_slice, cells_int, cells_bool, cells_str, cells_ptr, cells_agg, stNH_ptr, okN_ptr, wrA1, wrA20, wrA21, hg13, tn_cast, Nat.mul_one, Nat.zero_add, hd1, cl', B6.ldNO 2 rfl, IntWalk.i64_in]
          refine ⟨by omega, ?_⟩
          refine (hg n (lastN p) y pv (gridP n R) H6 ((p1.keep0 K4).keep0 K6) (by have := gridP_len16 R hn; omega)).mono ?_
          rintro rb2 H7 ⟨rfl, K7⟩
          have s7 := K7.size
          rw [kont_eq, inP_dec, inP_gridP hR]
          have hfs : ((List.range (y + 1)).filter (R (lastN p))).map (fun y => p ++ [y]) = ((List.range y).filter (R (lastN p))).map (fun y => p ++ [y]) ++ if R (lastN p) y = true then [p ++ [y]] else [] := by
            rw [List.range_succ, List.filter_append, List.map_append]
            cases h : R (lastN p) y <;> simp [h]
          have hfl : (((List.range y).filter (R (lastN p))).map fun y => p ++ [y]).length ≤ y := by
            rw [List.length_map]
            have := List.length_filter_le (R (lastN p)) (List.range y)
            rwa [List.length_range] at this
          cases hRy : R (lastN p) y with
          | false =>
            rw [hRy] at hfs
            simp only [Bool.false_eq_true, if_false, List.append_nil] at hfs
            simp (disch := omega) only [go_sem, List.map_cons, List.map_nil, ↓reduceIte, Nat.reduceEqDiff, Nat.reduceAdd, Nat.reduceMul, reduceCtorEq, and_true, true_and, Nat.mul_one, Nat.zero_add, Bool.false_eq_true, decide_true, decide_false, not_false_eq_true, kont_eq, hg13, hg106, IntWalk.i64_in]
            exact ⟨n - (y + 1), by omega, y + 1, u6, us6, by omega, rfl, rfl, rfl, by rw [hfs]; exact U6.keep0 K7, w6, K6.trans K7⟩
          | true =>
            rw [hRy] at hfs
            simp only [if_true] at hfs
            simp only [go_sem, List.map_cons, List.map_nil, ↓reduceIte, Nat.reduceEqDiff, Nat.reduceAdd, Nat.reduceMul, reduceCtorEq, and_true, true_and, Nat.mul_one, Nat.zero_add, Bool.false_eq_true, decide_true, decide_false, not_false_eq_true, fillV_nil, fillV_cons, okFill_nil, okFill_cons, cells_slice, cells_int, cells_bool, cells_str, cells_ptr, cells_agg, stNH_ptr, okN_ptr, wrA1, wrA20, wrA21, hg106]
            refine kont_news fun H8 b8 e8 z8 B8 K8 => ?_
            have s8 := K8.size
            simp only [go_sem, List.map_cons, List.map_nil, ↓reduceIte, Nat.reduceEqDiff, Nat.reduceAdd, Nat.reduceMul, reduceCtorEq, and_true, true_and, Nat.mul_one, Nat.zero_add, Bool.false_eq_true, decide_true, decide_false, not_false_eq_true]
            have O8 : OwS H8 (.slice (some ⟨b8, 0, none⟩) 0 0) [] := OwS.bl B8 (by simp) (by simp) (by simp) (by simp)
            have hs8 := (hsr6.keep K7 (by simp)).keep K8 (by simp)
            have hpl2 : (iN p).length = d + 1 := by rw [iN_len, hr]
            refine app_slN (l := []) (m := iN p) H7.size O8 (fun q (hq : q = b8) => by omega) (by omega) hs8 (iL_all1 _) rfl (by omega) (by rw [hpl2]; simp; omega) fun v9 H9 O9 o9 K9 => ?_
            rw [List.nil_append] at O9
            have s9 := K9.size
            rw [kont_eq]
            simp only [go_sem, List.map_cons, List.map_nil, ↓reduceIte, Nat.reduceEqDiff, Nat.reduceAdd, Nat.reduceMul, reduceCtorEq, and_true, true_and, Nat.mul_one, Nat.zero_add, Bool.false_eq_true, decide_true, decide_false, not_false_eq_true, fillV_nil, fillV_cons, okFill_nil, okFill_cons, cells_slice, cells_int, cells_bool, cells_str, cells_ptr, cells_agg, stNH_ptr, okN_ptr, wrA1, wrA20, wrA21, hg13]
            refine kont_news fun H10 b10 e10 z10 B10 K10 => ?_
            have s10 := K10.size
            have B10' : Bl H10 b10 (iN [y]) := B10
            simp only [go_sem, List.map_cons, List.map_nil, ↓reduceIte, Nat.reduceEqDiff, Nat.reduceAdd, Nat.reduceMul, reduceCtorEq, and_true, true_and, Nat.mul_one, Nat.zero_add, Bool.false_eq_true, decide_true, decide_false, not_false_eq_true]
            refine app_slN (l := iN p) (m := iN [y]) H7.size (O9.keep K10 (by simp)) o9 (by omega) (SlR.bl B10' 0 1 1 (by omega) (by simp [iN_len])) (iL_all1 _) rfl (by omega) (by rw [hpl2, iN_len]; simp; omega) fun v11 H11 O11 o11 K11 => ?_
            rw [← iN_app] at O11
            have s11 := K11.size
            obtain ⟨ra, rn, rc2, rfl⟩ : ∃ a n c, v11 = .slice a n c := O11.shape
            rw [kont_eq]
            simp only [go_sem, List.map_cons, List.map_nil, ↓reduceIte, Nat.reduceEqDiff, Nat.reduceAdd, Nat.reduceMul, reduceCtorEq, and_true, true_and, Nat.mul_one, Nat.zero_add, Bool.false_eq_true, decide_true, decide_false, not_false_eq_true, fillV_nil, fillV_cons, okFill_nil, okFill_cons, cells_slice, cells_int, cells_bool, cells_str, cells_ptr, cells_agg, stNH_ptr, okN_ptr, wrA1, wrA20, wrA21]
            refine kont_news fun H12 b12 e12 z12 B12 K12 => ?_
            have s12 := K12.size
            have B12' : Bl H12 b12 [.slice ra rn rc2] := B12
            have hall : all1 #[Value.slice ra rn rc2] := fun w hw => by
              simp at hw; subst hw; rfl
            have K7C : Keep (fun _ => False) H7 H12 := (((K8.at_old K9 (by omega)).trans K10).at_old K11 (by omega)).trans K12
            have U7 := U6.keep0 K7
            have U12 := U7.keep0 K7C
            have hul := U6.len
            rw [List.length_append] at hul
            simp only [go_sem, List.map_cons, List.map_nil, ↓reduceIte, Nat.reduceEqDiff, Nat.reduceAdd, Nat.reduceMul, reduceCtorEq, and_true, true_and, Nat.mul_one, Nat.zero_add, Bool.false_eq_true, decide_true, decide_false, not_false_eq_true, kont_eq]
            refine app_sl (l := us6) (m := [.slice ra rn rc2]) U12.ow (SlR.bl B12' 0 1 1 (by omega) (by simp)) hall rfl (by unfold maxLen; simp only [hul, List.length_singleton]; omega) (by simp only [hul, List.length_singleton]; omega) fun v13 H13 O13 M13 N13 => ?_
            have U13 := U12.app (r := .slice ra rn rc2) (p := p ++ [y]) (O11.sl.keep K12 (by simp)) (fun q hq hq' => by have := o11 q (O11.slB hq); have := U7.ow.old hq'; omega) O13 N13 M13
            rw [List.append_assoc, ← hfs] at U13
            have K613 : Keep (fun _ => False) A H13 := (K6.trans (K7.trans K7C)).trans' M13 fun q hq h => by have := w6 q h; omega
            simp (disch := omega) only [go_sem, List.map_cons, List.map_nil, ↓reduceIte, Nat.reduceEqDiff, Nat.reduceAdd, Nat.reduceMul, reduceCtorEq, and_true, true_and, Nat.mul_one, Nat.zero_add, Bool.false_eq_true, decide_true, decide_false, not_false_eq_true, kont_eq, hg13, IntWalk.i64_in]
            exact ⟨n - (y + 1), by omega, y + 1, v13, _, by omega, rfl, rfl, rfl, U13, fun q hq => by
              rcases N13 q hq with h | h
              · exact w6 q h
              · omega, K613⟩
        · have hyn : y = n := by omega
          subst hyn
          simp (disch := omega) only [go_sem, List.map_cons, List.map_nil, ↓reduceIte, Nat.reduceEqDiff, Nat.reduceAdd, Nat.reduceMul, reduceCtorEq, and_true, true_and, Nat.mul_one, Nat.zero_add, Bool.false_eq_true, decide_true, decide_false, not_false_eq_true, kont_eq, hg56, hg106, IntWalk.i64_in]
          exact ⟨ps.length - (i + 1), by omega, i + 1, u6, us6, by omega, rfl, rfl, rfl, by rw [hlg]; exact U6, w6, K6⟩
      · have hie : i = ps.length := by omega
        subst hie
        rw [List.take_length, hps, longer_walks] at U5
        simp only [go_sem, List.map_cons, List.map_nil, ↓reduceIte, Nat.reduceEqDiff, Nat.reduceAdd, Nat.reduceMul, reduceCtorEq, and_true, true_and, Nat.mul_one, Nat.zero_add, Bool.false_eq_true, decide_true, decide_false, not_false_eq_true, kont_eq, hg10]
        refine ⟨n - (d + 1), by omega, d + 1, u, us, by omega, rfl, rfl, U5, fun e he => ?_, K4.trans K5⟩
        rcases Nat.lt_or_ge e d with h | h
        · exact hne e h
        · have : e = d := by omega
          subst this; exact hnd
  · have hlen : ps.length = 0 := by omega
    have hnw : ∀ e, ¬ wlk R e a b := fun e he => by
      rcases Nat.lt_or_ge e d with h | h
      · exact hne e h he
      · obtain ⟨c, hc⟩ := wlk_pre d (e - d) (by rw [Nat.add_sub_cancel' h]; exact he)
        obtain ⟨p, hp, _⟩ := walks_mem hR d hc
        rw [← hps, List.eq_nil_of_length_eq_zero hlen] at hp
        simp at hp
    exact hno (hnone fun d hd => hnw d hd.1) _ K4
end Go.Mg

/- order: the laws Ends, Makes. -/
import Derived.Test.YtamkbeibmhkciaaDoorMgT4
namespace Go.Mg
open Go Go.RowKit
set_option linter.unusedSimpArgs false
set_option linter.unusedVariables false
set_option maxRecDepth 100000
/- arbaclaw06.OrderEnds -/
def c_lends (ι : Ids) : S :=
  .seq (.reg [.e (.v 1) (.box (ι.t 263) (.v 0)), .p (.v 2) (.mv (.c (.bool false)))]) (.seq (.seq (.reg [.e (.t 8) (.call (ι.f 270) []), .p (.v 9) (.not (.t 8))]) (.ite (.v 9) (.seq (.reg [.p (.v 2)
  (.mv (.c (.bool false)))]) .ret) .skip)) (.seq (.reg [.p (.t 11) (.m (.ldn 4 (.v 1))), .e (.t 12) (.call (ι.f 268) [.t 11]), .p (.t 10) (.mv (.t 12)), .p (.t 13) (.ext (.t 10) 0), .p (.t 14) (.ext (.t
  10) 1), .e (.v 4) (.new (ι.t 246) #[.int .i64 0, .slice .none 0 0]), .p (.v 3) (.mv (.t 13)), .e .no (.stn 2 (.v 4) (.t 14))]) (.seq (.seq (.reg [.p (.t 15) (.mv (.v 3)), .p (.v 16) (.m (.eqn .ptr
  false (.t 15)))]) (.ite (.v 16) (.seq (.reg [.p (.v 2) (.mv (.c (.bool false)))]) .ret) .skip)) (.seq (.reg [.p (.v 5) (.mv (.c (.slice .none 0 0))), .p (.v 6) (.mv (.c (.slice .none 0 0)))]) (.seq
  (.seq (.reg [.p (.t 17) (.fa 0 (.v 4)), .p (.v 18) (.ld (.t 17)), .p (.v 19) (.mv (.c (.int .i64 0)))]) (.blk 0 (.loop (.seq (.reg [.p (.v 20) (.cm .lss .i64 (.v 19) (.v 18))]) (.seq (.ite (.v 20)
  .skip (.exit 0)) (.seq (.blk 1 (.seq (.reg [.p (.t 21) (.mv (.v 19)), .p (.v 7) (.mv (.t 21))]) (.seq (.seq (.reg [.p (.t 22) (.m (.ldn 2 (.v 4))), .p (.t 23) (.mv (.v 7)), .e (.t 24) (.call (ι.f 251)
  [.t 22, .t 23]), .p (.t 25) (.m (.lenl (.t 24))), .p (.v 26) (.cm .eql .i64 (.t 25) (.c (.int .i64 0)))]) (.ite (.v 26) (.reg [.p (.t 27) (.mv (.v 5)), .p (.t 28) (.mv (.v 7)), .e (.t 29) (.bldF (ι.t
  26) 1 1 [.t 28]), .e (.t 30) (.app false (ι.t 26) 1 8 #[.int .i64 0] (.t 27) (.t 29)), .p (.v 5) (.mv (.t 30))]) .skip)) (.seq (.reg [.p (.t 31) (.m (.ldn 2 (.v 4))), .p (.t 32) (.mv (.v 7)), .e (.t
  33) (.call (ι.f 252) [.t 31, .t 32]), .p (.t 34) (.m (.lenl (.t 33))), .p (.v 35) (.cm .eql .i64 (.t 34) (.c (.int .i64 0)))]) (.ite (.v 35) (.reg [.p (.t 36) (.mv (.v 6)), .p (.t 37) (.mv (.v 7)), .e
  (.t 38) (.bldF (ι.t 26) 1 1 [.t 37]), .e (.t 39) (.app false (ι.t 26) 1 8 #[.int .i64 0] (.t 36) (.t 38)), .p (.v 6) (.mv (.t 39))]) .skip))))) (.reg [.p (.t 40) (.ar .add .i64 (.v 19) (.c (.int .i64
  1))), .p (.v 19) (.mv (.t 40))]))))))) (.seq (.dr (.px (.t 41) .none (.mv (.v 3)) (.px (.t 43) .none (.mv (.v 5)) (.wcons (.t 42) .none (.call (ι.f 242) [.t 41]) (.wcons (.t 44) .none (.call (ι.f 165)
  [.t 42, .t 43]) (.px (.t 45) .none (.mv (.t 44)) (.px (.t 46) (.some (.t 45, true)) (.mv (.v 3)) (.px (.t 48) (.some (.t 45, true)) (.mv (.v 6)) (.wcons (.t 47) (.some (.t 45, true)) (.call (ι.f 243)
  [.t 46]) (.wcons (.t 49) (.some (.t 45, true)) (.call (ι.f 165) [.t 47, .t 48]) (.px (.t 50) .none (.pick (.t 45) (.t 49) (.c (.bool false))) (.px (.t 51) .none (.mv (.t 50)) (.px (.t 52) (.some (.t
  51, true)) (.mv (.v 3)) (.px (.t 54) (.some (.t 51, true)) (.m (.ldn 2 (.v 4))) (.wcons (.t 53) (.some (.t 51, true)) (.call (ι.f 244) [.t 52]) (.wcons (.t 55) (.some (.t 51, true)) (.call (ι.f 261)
  [.t 54]) (.px (.t 56) (.some (.t 51, true)) (.cm .eql .i64 (.t 53) (.t 55)) (.px (.t 57) .none (.pick (.t 51) (.t 56) (.c (.bool false))) (.px (.v 2) .none (.mv (.t 57)) .done))) .wnil) .wnil)))))
  .wnil) .wnil)))) .wnil) .wnil)))) .ret))))))
def r_lends : List RV := [.t 2]

structure EndC (P : Program) (ι : Ids) : Prop where
  tops : OEndSpec P (ι.f 242) topO
  bots : OEndSpec P (ι.f 243) botO
  hg : OHgtSpec P ι (ι.f 244)
  rh : RHeiSpec P (ι.f 261)
theorem topL {n : Nat} {R : Nat → Nat → Bool} (hR : Rng n R) : topO (some (n, R)) = (List.range n).filter fun x : Nat => decide ((rabL n R x).length = 0) := by
  show (List.range n).filter (fun i => emB fun x => tcB R x i) = _
  refine List.filter_congr fun i hi => ?_
  rw [Bool.eq_iff_iff, emB_iff, decide_eq_true_iff, List.length_eq_zero_iff]
  unfold rabL
  rw [List.filter_eq_nil_iff]
  constructor
  · intro h y hy
    rw [isRb_nat hR, h y]; simp
  · intro h y
    cases hy : tcB R y i with
    | false => rfl
    | true =>
      have := h y (List.mem_range.2 (hR.tc (tcB_iff.1 hy)).1)
      rw [isRb_nat hR, hy] at this
      exact absurd rfl this
theorem botL {n : Nat} {R : Nat → Nat → Bool} (hR : Rng n R) : botO (some (n, R)) = (List.range n).filter fun x : Nat => decide ((rbeL n R x).length = 0) := by
  show (List.range n).filter (fun i => emB fun x => tcB R i x) = _
  refine List.filter_congr fun i hi => ?_
  rw [Bool.eq_iff_iff, emB_iff, decide_eq_true_iff, List.length_eq_zero_iff]
  unfold rbeL
  rw [List.filter_eq_nil_iff]
  constructor
  · intro h y hy
    rw [isRb_nat hR, h y]; simp
  · intro h y
    cases hy : tcB R i y with
    | false => rfl
    | true =>
      have := h y (List.mem_range.2 (hR.tc (tcB_iff.1 hy)).2)
      rw [isRb_nat hR, hy] at this
      exact absurd rfl this
theorem flt_len (n : Nat) (p : Nat → Bool) : ((List.range n).filter p).length ≤ n := by
  have := List.length_filter_le p (List.range n)
  rwa [List.length_range] at this
theorem flt_succ (n : Nat) (p : Nat → Bool) : (List.range (n + 1)).filter p = (List.range n).filter p ++ if p n = true then [n] else [] := by
  rw [List.range_succ, List.filter_append]
  cases h : p n <;> simp [h]
theorem lends_ok {P : Program} {ι : Ids} {k : FuncId} (hk : FnIs P k (c_lends ι) r_lends 1) (c : LawC P ι) (e : EndC P ι) : Law1Spec P ι k := by
  intro r v H hT hv
  have hv0 := hv
  obtain ⟨rp, rfl, hp, hl⟩ := hv
  obtain ⟨Q, hQ⟩ : ∃ Q : Value → Hp → Prop, Q = fun x H' => x = .bool true ∧ Keep (fun _ => False) H H' := ⟨_, rfl⟩
  rw [← hQ]
  refine calls_of_vc hk (args := [_]) (by simp) ?_
  unfold c_lends r_lends
  simp only [go_sem, List.map_cons, List.map_nil, ↓reduceIte, Nat.reduceEqDiff, Nat.reduceAdd, Nat.reduceMul, reduceCtorEq, and_true, true_and, Nat.mul_one, Nat.zero_add, Bool.false_eq_true, decide_true, decide_false, not_false_eq_true]
  refine kont_new fun H1 b1 e1 z1 B1 K1 => ?_
  have s1 := K1.size
  have B1' : Bl H1 b1 [.int .u8 (r.N : Int), .int .u8 (r.T : Int), .int .u8 (r.A : Int), rp] := B1
  simp only [go_sem, List.map_cons, List.map_nil, ↓reduceIte, Nat.reduceEqDiff, Nat.reduceAdd, Nat.reduceMul, reduceCtorEq, and_true, true_and, Nat.mul_one, Nat.zero_add, Bool.false_eq_true, decide_true, decide_false, not_false_eq_true, kont_eq]
  refine (c.awk H1 (hT.keep K1)).mono ?_
  rintro x H2 ⟨rfl, K2⟩
  have B2 := K2.bl B1' (by simp)
  have K02 := K1.trans K2
  rw [kont_eq]
  simp only [go_sem, List.map_cons, List.map_nil, ↓reduceIte, Nat.reduceEqDiff, Nat.reduceAdd, Nat.reduceMul, reduceCtorEq, and_true, true_and, Nat.mul_one, Nat.zero_add, Bool.false_eq_true, decide_true, decide_false, not_false_eq_true, kont_eq, B2.ldNO 4 rfl]
  refine (c.mak r _ H2 (hT.keep K02) (hv0.keep0 K02)).mono ?_
  rintro x H3 ⟨ov, tv, rfl, ho, ht, _, _, K3⟩
  have K03 := K02.trans K3
  obtain ⟨ob, rfl⟩ := ptr_of ho
  have ht0 := ht
  obtain ⟨hn, hR, pv, rfl, hpv⟩ := ht
  have hA := ho.2.2.1
  have hsz := szR_lt r
  obtain ⟨n, hne⟩ : ∃ n, n = szR r := ⟨_, rfl⟩
  obtain ⟨R, hRe⟩ : ∃ R, R = relF r := ⟨_, rfl⟩
  rw [← hne, ← hRe] at ho ht0 hpv hR
  rw [← hRe] at hA
  rw [← hne] at hsz hn
  rw [kont_eq]
  simp only [go_sem, List.map_cons, List.map_nil, ↓reduceIte, Nat.reduceEqDiff, Nat.reduceAdd, Nat.reduceMul, reduceCtorEq, and_true, true_and, Nat.mul_one, Nat.zero_add, Bool.false_eq_true, decide_true, decide_false, not_false_eq_true, fillV_nil, fillV_cons, okFill_nil, okFill_cons, cells_slice, cells_int, cells_bool, cells_str, cells_ptr, cells_agg, stNH_ptr, okN_ptr, wrA1, wrA20, wrA21]
  refine kont_new fun H4 b4 e4 z4 B4 K4 => ?_
  have s4 := K4.size
  have hst4 := B4.okNA (o := 0) (n := 2) (by simp)
  have B5 : Bl (stNA H4 ⟨b4, 0, none⟩ [.int .i64 (n : Int), pv]) b4 [.int .i64 (n : Int), pv] := B4.stNA 0 [.int .i64 (n : Int), pv]
  have K5 : Keep (fun q => q = b4) H4 (stNA H4 ⟨b4, 0, none⟩ [.int .i64 (n : Int), pv]) := (Keep.refl _ _).stNA _ (.inl rfl)
  have hsl := hpv.isSl
  have ha4 : all1 #[Value.int .i64 (n : Int), pv] := fun u hu => by
    simp at hu
    rcases hu with rfl | rfl
    · rfl
    · cases u <;> first | rfl | exact hsl.elim
  simp only [go_sem, List.map_cons, List.map_nil, ↓reduceIte, Nat.reduceEqDiff, Nat.reduceAdd, Nat.reduceMul, reduceCtorEq, and_true, true_and, Nat.mul_one, Nat.zero_add, Bool.false_eq_true, decide_true, decide_false, not_false_eq_true, fillV_nil, fillV_cons, okFill_nil, okFill_cons, cells_slice, cells_int, cells_bool, cells_str, cells_ptr, cells_agg, stNH_ptr, okN_ptr, wrA1, wrA20, wrA21, hst4, ← hne]
  refine ⟨ha4, ?_⟩
  rw [kont_eq]
  generalize stNA H4 ⟨b4, 0, none⟩ [.int .i64 (n : Int), pv] = H5 at B5 K5 ⊢
  have K35 : Keep (fun _ => False) H3 H5 := K4.to_old K5 (by omega)
  have K05 := K03.trans K35
  have hT5 := hT.keep K05
  have oo : ∀ {A : Hp}, Keep (fun _ => False) H5 A → OrdO A (.pointer (some ⟨ob, 0, none⟩)) (some (n, R)) := fun K => OrdO.keep0 (o := some (n, R)) ho (K35.trans K)
  have tt : ∀ {A : Hp}, Keep (fun _ => False) H5 A → ROrd A (.agg #[.int .i64 (n : Int), pv]) n R := fun K => ht0.keep0 (K35.trans K)
  have B5c : cell H5 ⟨b4, 0, none⟩ = some (.int .i64 (n : Int)) := by rw [B5.cell]; rfl
  simp only [go_sem, List.map_cons, List.map_nil, ↓reduceIte, Nat.reduceEqDiff, Nat.reduceAdd, Nat.reduceMul, reduceCtorEq, and_true, true_and, Nat.mul_one, Nat.zero_add, Bool.false_eq_true, decide_true, decide_false, not_false_eq_true, kont_eq, B5c]
  have s35 := K35.size
  refine vc_loop [20, 7, 26, 5, 35, 6, 19] rfl (fun m f A => ∃ (i : Nat) (u w : Value), i ≤ n ∧ m = n - i ∧ f 19 = .int .i64 i ∧ f 5 = u ∧ f 6 = w ∧ OwS A u (iN ((List.range i).filter fun x : Nat => decide ((rabL n R x).length = 0))) ∧ OwS A w (iN ((List.range i).filter fun x : Nat => decide ((rbeL n R x).length = 0))) ∧ (∀ q, ownB u q → H5.size ≤ q) ∧ (∀ q, ownB w q → H5.size ≤ q) ∧ (∀ q, ownB u q → ¬ ownB w q) ∧ Keep (fun _ => False) H5 A) n ?_ ?_
  · exact ⟨0, _, _, by omega, by omega, by simp only [go_sem, List.map_cons, List.map_nil, ↓reduceIte, Nat.reduceEqDiff, Nat.reduceAdd, Nat.reduceMul, reduceCtorEq, and_true, true_and, Nat.mul_one, Nat.zero_add, Bool.false_eq_true, decide_true, decide_false, not_false_eq_true, kont_eq]; rfl, by simp only [go_sem, List.map_cons, List.map_nil, ↓reduceIte, Nat.reduceEqDiff, Nat.reduceAdd, Nat.reduceMul, reduceCtorEq, and_true, true_and, Nat.mul_one, Nat.zero_add, Bool.false_eq_true, decide_true, decide_false, not_false_eq_true, kont_eq], by simp only [go_sem, List.map_cons, List.map_nil, ↓reduceIte, Nat.reduceEqDiff, Nat.reduceAdd, Nat.reduceMul, reduceCtorEq, and_true, true_and, Nat.mul_one, Nat.zero_add, Bool.false_eq_true, decide_true, decide_false, not_false_eq_true, kont_eq], OwS.nil _, OwS.nil _, fun q h => h.elim, fun q h => h.elim, fun q h => h.elim, Keep.refl _ _⟩
  rintro m f H6 ⟨i, u, w, hi, rfl, hf19, hf5, hf6, U6, W6, u6, w6, uw6, K6⟩
  have s6 := K6.size
  simp only [go_sem, List.map_cons, List.map_nil, ↓reduceIte, Nat.reduceEqDiff, Nat.reduceAdd, Nat.reduceMul, reduceCtorEq, and_true, true_and, Nat.mul_one, Nat.zero_add, Bool.false_eq_true, decide_true, decide_false, not_false_eq_true, kont_eq] at hf19 hf5 hf6
  simp only [go_sem, List.map_cons, List.map_nil, ↓reduceIte, Nat.reduceEqDiff, Nat.reduceAdd, Nat.reduceMul, reduceCtorEq, and_true, true_and, Nat.mul_one, Nat.zero_add, Bool.false_eq_true, decide_true, decide_false, not_false_eq_true, hf19]
  refine iteV_dec (fun hlt => ?_) (fun hge => ?_)
  · have hin : i < n := by omega
    have B6 := K6.bl B5 (by simp)
    simp only [go_sem, List.map_cons, List.map_nil, ↓reduceIte, Nat.reduceEqDiff, Nat.reduceAdd, Nat.reduceMul, reduceCtorEq, and_true, true_and, Nat.mul_one, Nat.zero_add, Bool.false_eq_true, decide_true, decide_false, not_false_eq_true, kont_eq, hf19, B6.ldNO 2 rfl]
    refine (c.rab n R _ i H6 (tt K6)).mono ?_
    rintro la H7 ⟨O7, o7, K7⟩
    have s7 := K7.size
    have K57 := K6.trans K7
    have U7 := U6.keep K7 (by simp)
    have W7 := W6.keep K7 (by simp)
    have hl7 : (iN (rabL n R i)).length = (rabL n R i).length := iN_len _
    have e19 := flt_succ i fun x : Nat => decide ((rabL n R x).length = 0)
    have f19 := flt_len i fun x : Nat => decide ((rabL n R x).length = 0)
    have e20 := flt_succ i fun x : Nat => decide ((rbeL n R x).length = 0)
    have f20 := flt_len i fun x : Nat => decide ((rbeL n R x).length = 0)
    rw [kont_eq]
    by_cases ha : (rabL n R i).length = 0
    · have e7 : (((rabL n R i).length : Int) == 0) = true := by rw [ha]; rfl
      rw [decide_eq_true ha, if_pos rfl] at e19
      simp only [go_sem, List.map_cons, List.map_nil, ↓reduceIte, Nat.reduceEqDiff, Nat.reduceAdd, Nat.reduceMul, reduceCtorEq, and_true, true_and, Nat.mul_one, Nat.zero_add, Bool.false_eq_true, decide_true, decide_false, not_false_eq_true, fillV_nil, fillV_cons, okFill_nil, okFill_cons, cells_slice, cells_int, cells_bool, cells_str, cells_ptr, cells_agg, stNH_ptr, okN_ptr, wrA1, wrA20, wrA21, O7.sl.isSl, O7.sl.lenS, O7.sl.len, hl7, e7, hf5, hf19]
      refine kont_news fun Ha ba ea za Ba Ka => ?_
      have sa := Ka.size
      have Ba' : Bl Ha ba (iN [i]) := Ba
      simp only [go_sem, List.map_cons, List.map_nil, ↓reduceIte, Nat.reduceEqDiff, Nat.reduceAdd, Nat.reduceMul, reduceCtorEq, and_true, true_and, Nat.mul_one, Nat.zero_add, Bool.false_eq_true, decide_true, decide_false, not_false_eq_true, kont_eq]
      have Ua := U7.keep Ka (by simp)
      refine app_sl (l := iN ((List.range i).filter fun x : Nat => decide ((rabL n R x).length = 0))) (m := iN [i]) Ua (SlR.bl Ba' 0 1 1 (by omega) (by simp [iN_len])) (iL_all1 _) rfl (by unfold maxLen; rw [iN_len, iN_len]; simp only [List.length_singleton]; omega) (by rw [iN_len, iN_len]; simp only [List.length_singleton]; omega) fun vb Hb Ob Mb Nb => ?_
      have sb := Mb.size
      rw [← iN_app] at Ob
      have Wb := (W7.keep Ka (by simp)).keep Mb fun q hq hq' => uw6 q hq' hq
      have Kb : Keep (fun _ => False) H5 Hb := (K57.trans Ka).trans' Mb fun q hq h => by have := u6 q h; omega
      have ob : ∀ q, ownB vb q → H5.size ≤ q := fun q hq => by
        rcases Nb q hq with h | h
        · exact u6 q h
        · omega
      have uwb : ∀ q, ownB vb q → ¬ ownB w q := fun q hq hq' => by
        rcases Nb q hq with h | h
        · exact uw6 q h hq'
        · have := W7.old hq'; omega
      have Bb := Kb.bl B5 (by simp)
      simp only [go_sem, List.map_cons, List.map_nil, ↓reduceIte, Nat.reduceEqDiff, Nat.reduceAdd, Nat.reduceMul, reduceCtorEq, and_true, true_and, Nat.mul_one, Nat.zero_add, Bool.false_eq_true, decide_true, decide_false, not_false_eq_true, kont_eq, hf19, Bb.ldNO 2 rfl]
      refine (c.rbe n R _ i Hb (tt Kb)).mono ?_
      rintro lb H8 ⟨O8, o8, K8⟩
      have s8 := K8.size
      have K58 := Kb.trans K8
      have U8 := Ob.keep K8 (by simp)
      have W8 := Wb.keep K8 (by simp)
      have hl8 : (iN (rbeL n R i)).length = (rbeL n R i).length := iN_len _
      rw [kont_eq]
      by_cases hb : (rbeL n R i).length = 0
      · have e8 : (((rbeL n R i).length : Int) == 0) = true := by rw [hb]; rfl
        rw [decide_eq_true hb, if_pos rfl] at e20
        simp only [go_sem, List.map_cons, List.map_nil, ↓reduceIte, Nat.reduceEqDiff, Nat.reduceAdd, Nat.reduceMul, reduceCtorEq, and_true, true_and, Nat.mul_one, Nat.zero_add, Bool.false_eq_true, decide_true, decide_false, not_false_eq_true, fillV_nil, fillV_cons, okFill_nil, okFill_cons, cells_slice, cells_int, cells_bool, cells_str, cells_ptr, cells_agg, stNH_ptr, okN_ptr, wrA1, wrA20, wrA21, O8.sl.isSl, O8.sl.lenS, O8.sl.len, hl8, e8, hf6, hf19]
        refine kont_news fun H9 b9 e9 z9 B9 K9 => ?_
        have s9 := K9.size
        have B9' : Bl H9 b9 (iN [i]) := B9
        simp only [go_sem, List.map_cons, List.map_nil, ↓reduceIte, Nat.reduceEqDiff, Nat.reduceAdd, Nat.reduceMul, reduceCtorEq, and_true, true_and, Nat.mul_one, Nat.zero_add, Bool.false_eq_true, decide_true, decide_false, not_false_eq_true, kont_eq]
        have W9 := W8.keep K9 (by simp)
        refine app_sl (l := iN ((List.range i).filter fun x : Nat => decide ((rbeL n R x).length = 0))) (m := iN [i]) W9 (SlR.bl B9' 0 1 1 (by omega) (by simp [iN_len])) (iL_all1 _) rfl (by unfold maxLen; rw [iN_len, iN_len]; simp only [List.length_singleton]; omega) (by rw [iN_len, iN_len]; simp only [List.length_singleton]; omega) fun v' HA OA MA NA => ?_
        have sA := MA.size
        rw [← iN_app, ← e20] at OA
        have UA := (U8.keep K9 (by simp)).keep MA fun q hq hq' => uwb q hq hq'
        simp (disch := omega) only [go_sem, List.map_cons, List.map_nil, ↓reduceIte, Nat.reduceEqDiff, Nat.reduceAdd, Nat.reduceMul, reduceCtorEq, and_true, true_and, Nat.mul_one, Nat.zero_add, Bool.false_eq_true, decide_true, decide_false, not_false_eq_true, kont_eq, hf19, IntWalk.i64_in]
        refine ⟨n - (i + 1), by omega, i + 1, _, v', by omega, rfl, rfl, rfl, rfl, by rw [e19]; exact UA, OA, ob, fun q hq => ?_, fun q hq hq' => ?_, (K58.trans K9).trans' MA fun q hq h => by have := w6 q h; omega⟩
        · rcases NA q hq with h | h
          · exact w6 q h
          · omega
        · rcases NA q hq' with h | h
          · exact uwb q hq h
          · have := U8.old hq
            omega
      · have e8 : (((rbeL n R i).length : Int) == 0) = false := by simp only [beq_eq_false_iff_ne, ne_eq]; omega
        rw [decide_eq_false hb, if_neg (by simp), List.append_nil] at e20
        simp (disch := omega) only [go_sem, List.map_cons, List.map_nil, ↓reduceIte, Nat.reduceEqDiff, Nat.reduceAdd, Nat.reduceMul, reduceCtorEq, and_true, true_and, Nat.mul_one, Nat.zero_add, Bool.false_eq_true, decide_true, decide_false, not_false_eq_true, kont_eq, fillV_nil, fillV_cons, okFill_nil, okFill_cons, cells_slice, cells_int, cells_bool, cells_str, cells_ptr, cells_agg, stNH_ptr, okN_ptr, wrA1, wrA20, wrA21, O8.sl.isSl, O8.sl.lenS, O8.sl.len, hl8, e8, hf6, hf19, IntWalk.i64_in]
        exact ⟨n - (i + 1), by omega, i + 1, _, w, by omega, rfl, rfl, rfl, rfl, by rw [e19]; exact U8, by rw [e20]; exact W8, ob, w6, uwb, K58⟩
      
    · have e7 : (((rabL n R i).length : Int) == 0) = false := by simp only [beq_eq_false_iff_ne, ne_eq]; omega
      rw [decide_eq_false ha, if_neg (by simp), List.append_nil] at e19
      have B7 := K57.bl B5 (by simp)
      simp only [go_sem, List.map_cons, List.map_nil, ↓reduceIte, Nat.reduceEqDiff, Nat.reduceAdd, Nat.reduceMul, reduceCtorEq, and_true, true_and, Nat.mul_one, Nat.zero_add, Bool.false_eq_true, decide_true, decide_false, not_false_eq_true, kont_eq, fillV_nil, fillV_cons, okFill_nil, okFill_cons, cells_slice, cells_int, cells_bool, cells_str, cells_ptr, cells_agg, stNH_ptr, okN_ptr, wrA1, wrA20, wrA21, O7.sl.isSl, O7.sl.lenS, O7.sl.len, hl7, e7, hf19, B7.ldNO 2 rfl]
      refine (c.rbe n R _ i H7 (tt K57)).mono ?_
      rintro lb H8 ⟨O8, o8, K8⟩
      have s8 := K8.size
      have K58 := K57.trans K8
      have U8 := U7.keep K8 (by simp)
      have W8 := W7.keep K8 (by simp)
      have hl8 : (iN (rbeL n R i)).length = (rbeL n R i).length := iN_len _
      rw [kont_eq]
      by_cases hb : (rbeL n R i).length = 0
      · have e8 : (((rbeL n R i).length : Int) == 0) = true := by rw [hb]; rfl
        rw [decide_eq_true hb, if_pos rfl] at e20
        simp only [go_sem, List.map_cons, List.map_nil, ↓reduceIte, Nat.reduceEqDiff, Nat.reduceAdd, Nat.reduceMul, reduceCtorEq, and_true, true_and, Nat.mul_one, Nat.zero_add, Bool.false_eq_true, decide_true, decide_false, not_false_eq_true, fillV_nil, fillV_cons, okFill_nil, okFill_cons, cells_slice, cells_int, cells_bool, cells_str, cells_ptr, cells_agg, stNH_ptr, okN_ptr, wrA1, wrA20, wrA21, O8.sl.isSl, O8.sl.lenS, O8.sl.len, hl8, e8, hf6, hf19]
        refine kont_news fun H9 b9 e9 z9 B9 K9 => ?_
        have s9 := K9.size
        have B9' : Bl H9 b9 (iN [i]) := B9
        simp only [go_sem, List.map_cons, List.map_nil, ↓reduceIte, Nat.reduceEqDiff, Nat.reduceAdd, Nat.reduceMul, reduceCtorEq, and_true, true_and, Nat.mul_one, Nat.zero_add, Bool.false_eq_true, decide_true, decide_false, not_false_eq_true, kont_eq]
        have W9 := W8.keep K9 (by simp)
        refine app_sl (l := iN ((List.range i).filter fun x : Nat => decide ((rbeL n R x).length = 0))) (m := iN [i]) W9 (SlR.bl B9' 0 1 1 (by omega) (by simp [iN_len])) (iL_all1 _) rfl (by unfold maxLen; rw [iN_len, iN_len]; simp only [List.length_singleton]; omega) (by rw [iN_len, iN_len]; simp only [List.length_singleton]; omega) fun v' HA OA MA NA => ?_
        have sA := MA.size
        rw [← iN_app, ← e20] at OA
        have UA := (U8.keep K9 (by simp)).keep MA fun q hq hq' => uw6 q hq hq'
        simp (disch := omega) only [go_sem, List.map_cons, List.map_nil, ↓reduceIte, Nat.reduceEqDiff, Nat.reduceAdd, Nat.reduceMul, reduceCtorEq, and_true, true_and, Nat.mul_one, Nat.zero_add, Bool.false_eq_true, decide_true, decide_false, not_false_eq_true, kont_eq, hf5, hf19, IntWalk.i64_in]
        refine ⟨n - (i + 1), by omega, i + 1, _, v', by omega, rfl, rfl, rfl, rfl, by rw [e19]; exact UA, OA, u6, fun q hq => ?_, fun q hq hq' => ?_, (K58.trans K9).trans' MA fun q hq h => by have := w6 q h; omega⟩
        · rcases NA q hq with h | h
          · exact w6 q h
          · omega
        · rcases NA q hq' with h | h
          · exact uw6 q hq h
          · have := U8.old hq
            omega
      · have e8 : (((rbeL n R i).length : Int) == 0) = false := by simp only [beq_eq_false_iff_ne, ne_eq]; omega
        rw [decide_eq_false hb, if_neg (by simp), List.append_nil] at e20
        simp (disch := omega) only [go_sem, List.map_cons, List.map_nil, ↓reduceIte, Nat.reduceEqDiff, Nat.reduceAdd, Nat.reduceMul, reduceCtorEq, and_true, true_and, Nat.mul_one, Nat.zero_add, Bool.false_eq_true, decide_true, decide_false, not_false_eq_true, kont_eq, fillV_nil, fillV_cons, okFill_nil, okFill_cons, cells_slice, cells_int, cells_bool, cells_str, cells_ptr, cells_agg, stNH_ptr, okN_ptr, wrA1, wrA20, wrA21, O8.sl.isSl, O8.sl.lenS, O8.sl.len, hl8, e8, hf6, hf5, hf19, IntWalk.i64_in]
        exact ⟨n - (i + 1), by omega, i + 1, _, w, by omega, rfl, rfl, rfl, rfl, by rw [e19]; exact U8, by rw [e20]; exact W8, u6, w6, uw6, K58⟩
  · have : i = n := by omega
    subst this
    refine vc_drk (fun _ => False) ?_
    have B6 := K6.bl B5 (by simp)
    simp only [go_sem, List.map_cons, List.map_nil, ↓reduceIte, Nat.reduceEqDiff, Nat.reduceAdd, Nat.reduceMul, reduceCtorEq, and_true, true_and, Nat.mul_one, Nat.zero_add, Bool.false_eq_true, decide_true, decide_false, not_false_eq_true, kont_eq, fillV_nil, fillV_cons, okFill_nil, okFill_cons, cells_slice, cells_int, cells_bool, cells_str, cells_ptr, cells_agg, stNH_ptr, okN_ptr, wrA1, wrA20, wrA21, hf5, hf6]
    refine (e.tops (some (i, R)) _ H6 (oo K6)).mono ?_
    rintro x H7 ⟨O7, o7, K7⟩
    have K57 := K6.trans K7
    simp only [go_sem, List.map_cons, List.map_nil, ↓reduceIte, Nat.reduceEqDiff, Nat.reduceAdd, Nat.reduceMul, reduceCtorEq, and_true, true_and, Nat.mul_one, Nat.zero_add, Bool.false_eq_true, decide_true, decide_false, not_false_eq_true, kont_eq, fillV_nil, fillV_cons, okFill_nil, okFill_cons, cells_slice, cells_int, cells_bool, cells_str, cells_ptr, cells_agg, stNH_ptr, okN_ptr, wrA1, wrA20, wrA21]
    refine ⟨K7, ?_⟩
    rw [topL hR] at O7
    refine eqc c.eqI _ H7 _ _ _ (by have := flt_len i fun x : Nat => decide ((rabL i R x).length = 0); omega) O7.sl (U6.keep K7 (by simp)).sl ?_
    simp only [go_sem, List.map_cons, List.map_nil, ↓reduceIte, Nat.reduceEqDiff, Nat.reduceAdd, Nat.reduceMul, reduceCtorEq, and_true, true_and, Nat.mul_one, Nat.zero_add, Bool.false_eq_true, decide_true, decide_false, not_false_eq_true, kont_eq, fillV_nil, fillV_cons, okFill_nil, okFill_cons, cells_slice, cells_int, cells_bool, cells_str, cells_ptr, cells_agg, stNH_ptr, okN_ptr, wrA1, wrA20, wrA21, hf6]
    refine ⟨Keep.refl _ _, ?_⟩
    refine (e.bots (some (i, R)) _ H7 (oo K57)).mono ?_
    rintro x H8 ⟨O8, o8, K8⟩
    have K58 := K57.trans K8
    simp only [go_sem, List.map_cons, List.map_nil, ↓reduceIte, Nat.reduceEqDiff, Nat.reduceAdd, Nat.reduceMul, reduceCtorEq, and_true, true_and, Nat.mul_one, Nat.zero_add, Bool.false_eq_true, decide_true, decide_false, not_false_eq_true, kont_eq, fillV_nil, fillV_cons, okFill_nil, okFill_cons, cells_slice, cells_int, cells_bool, cells_str, cells_ptr, cells_agg, stNH_ptr, okN_ptr, wrA1, wrA20, wrA21]
    refine ⟨K8, ?_⟩
    rw [botL hR] at O8
    refine eqc c.eqI _ H8 _ _ _ (by have := flt_len i fun x : Nat => decide ((rbeL i R x).length = 0); omega) O8.sl ((W6.keep K7 (by simp)).keep K8 (by simp)).sl ?_
    have B8 := K58.bl B5 (by simp)
    simp only [go_sem, List.map_cons, List.map_nil, ↓reduceIte, Nat.reduceEqDiff, Nat.reduceAdd, Nat.reduceMul, reduceCtorEq, and_true, true_and, Nat.mul_one, Nat.zero_add, Bool.false_eq_true, decide_true, decide_false, not_false_eq_true, kont_eq, fillV_nil, fillV_cons, okFill_nil, okFill_cons, cells_slice, cells_int, cells_bool, cells_str, cells_ptr, cells_agg, stNH_ptr, okN_ptr, wrA1, wrA20, wrA21, B8.ldNO 2 rfl]
    refine ⟨Keep.refl _ _, ?_⟩
    refine (e.hg (some (i, R)) _ H8 (hT5.keep K58) (oo K58)).mono ?_
    rintro x H9 ⟨rfl, K9⟩
    simp only [go_sem, List.map_cons, List.map_nil, ↓reduceIte, Nat.reduceEqDiff, Nat.reduceAdd, Nat.reduceMul, reduceCtorEq, and_true, true_and, Nat.mul_one, Nat.zero_add, Bool.false_eq_true, decide_true, decide_false, not_false_eq_true, kont_eq, fillV_nil, fillV_cons, okFill_nil, okFill_cons, cells_slice, cells_int, cells_bool, cells_str, cells_ptr, cells_agg, stNH_ptr, okN_ptr, wrA1, wrA20, wrA21]
    refine ⟨K9, ?_⟩
    refine (e.rh i R _ H9 (tt (K58.trans K9)) hA).mono ?_
    rintro x HA ⟨rfl, KA⟩
    have e9 : ((hgtO (some (i, R)) : Int) == (maxL ((srt i R).map (hgt i R)) : Int)) = true := beq_self_eq_true _
    simp only [go_sem, List.map_cons, List.map_nil, ↓reduceIte, Nat.reduceEqDiff, Nat.reduceAdd, Nat.reduceMul, reduceCtorEq, and_true, true_and, Nat.mul_one, Nat.zero_add, Bool.false_eq_true, decide_true, decide_false, not_false_eq_true, kont_eq, fillV_nil, fillV_cons, okFill_nil, okFill_cons, cells_slice, cells_int, cells_bool, cells_str, cells_ptr, cells_agg, stNH_ptr, okN_ptr, wrA1, wrA20, wrA21, e9]
    refine ⟨KA, ?_⟩
    rw [hQ]
    exact ⟨rfl, (K05.trans (K58.trans K9)).trans KA⟩
end Go.Mg

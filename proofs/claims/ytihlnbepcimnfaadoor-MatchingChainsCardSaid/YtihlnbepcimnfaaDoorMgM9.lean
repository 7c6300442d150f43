/- matching: Deficient, Cover, Check. -/
import Derived.Test.YtihlnbepcimnfaaDoorMgM8
namespace Go.Mg
open Go Go.RowKit
set_option linter.unusedSimpArgs false
set_option linter.unusedVariables false
set_option maxRecDepth 100000
/- matching.Deficient -/
def c_mdef (ι : Ids) : S :=
  .seq (.reg [.p (.v 2) (.mv (.c (.slice .none 0 0))), .p (.v 3) (.mv (.c (.bool false)))]) (.seq (.seq (.reg [.p (.t 8) (.mv (.v 0)), .e (.t 9) (.call (ι.f 144) [.t 8]), .p (.v 10) (.cm .neq .i64 (.t
  9) (.c (.int .i64 0)))]) (.ite (.v 10) (.seq (.reg [.p (.v 2) (.mv (.c (.slice .none 0 0))), .p (.v 3) (.mv (.c (.bool false)))]) .ret) .skip)) (.seq (.reg [.p (.t 11) (.mv (.v 0)), .e (.t 12) (.call
  (ι.f 146) [.t 11]), .p (.v 4) (.mv (.t 12))]) (.seq (.reg [.p (.t 13) (.mv (.v 4)), .e (.t 14) (.call (ι.f 148) [.t 13])]) (.seq (.reg [.p (.v 5) (.mv (.c (.slice .none 0 0)))]) (.seq (.seq (.reg [.p
  (.t 15) (.mv (.v 4)), .e (.v 16) (.call (ι.f 152) [.t 15]), .p (.v 17) (.m (.lenl (.v 16))), .p (.v 18) (.mv (.c (.int .i64 0)))]) (.blk 0 (.loop (.seq (.reg [.p (.v 19) (.cm .lss .i64 (.v 18) (.v
  17))]) (.seq (.ite (.v 19) .skip (.exit 0)) (.seq (.blk 1 (.seq (.reg [.p (.t 20) (.mv (.v 18)), .p (.t 21) (.is 1 (.v 16) (.v 18)), .p (.t 22) (.ld (.t 21)), .p (.v 6) (.mv (.t 20)), .p (.v 7) (.mv
  (.t 22))]) (.seq (.reg [.p (.v 23) (.mv (.v 7))]) (.ite (.v 23) (.reg [.p (.t 24) (.mv (.v 5)), .p (.t 25) (.mv (.v 6)), .e (.t 26) (.bldF (ι.t 26) 1 1 [.t 25]), .e (.t 27) (.app false (ι.t 26) 1 8
  #[.int .i64 0] (.t 24) (.t 26)), .p (.v 5) (.mv (.t 27))]) .skip)))) (.reg [.p (.t 28) (.ar .add .i64 (.v 18) (.c (.int .i64 1))), .p (.v 18) (.mv (.t 28))]))))))) (.seq (.reg [.p (.t 29) (.mv (.v
  5)), .p (.t 30) (.mv (.v 5)), .p (.t 31) (.m (.lenl (.t 30))), .p (.t 32) (.cm .gtr .i64 (.t 31) (.c (.int .i64 0))), .p (.v 2) (.mv (.t 29)), .p (.v 3) (.mv (.t 32))]) .ret))))))
def r_mdef : List RV := [.t 2, .t 3]
/- matching.Cover -/
def c_mcov (ι : Ids) : S :=
  .seq (.reg [.p (.v 2) (.mv (.c (.slice .none 0 0))), .p (.v 3) (.mv (.c (.slice .none 0 0)))]) (.seq (.seq (.reg [.p (.t 8) (.mv (.v 0)), .e (.t 9) (.call (ι.f 144) [.t 8]), .p (.v 10) (.cm .neq .i64
  (.t 9) (.c (.int .i64 0)))]) (.ite (.v 10) (.seq (.reg [.p (.v 2) (.mv (.c (.slice .none 0 0))), .p (.v 3) (.mv (.c (.slice .none 0 0)))]) .ret) .skip)) (.seq (.reg [.p (.t 11) (.mv (.v 0)), .e (.t
  12) (.call (ι.f 146) [.t 11]), .p (.v 4) (.mv (.t 12))]) (.seq (.reg [.p (.t 13) (.mv (.v 4)), .e (.t 14) (.call (ι.f 148) [.t 13])]) (.seq (.reg [.p (.t 15) (.m (.bld #[.slice .none 0 0] [])), .e (.v
  5) (.new (ι.t 128) #[.slice .none 0 0]), .e .no (.stn 1 (.v 5) (.t 15))]) (.seq (.seq (.reg [.p (.t 16) (.mv (.v 4)), .e (.v 17) (.call (ι.f 152) [.t 16]), .p (.v 18) (.m (.lenl (.v 17))), .p (.v 19)
  (.mv (.c (.int .i64 0)))]) (.blk 0 (.loop (.seq (.reg [.p (.v 20) (.cm .lss .i64 (.v 19) (.v 18))]) (.seq (.ite (.v 20) .skip (.exit 0)) (.seq (.blk 1 (.seq (.reg [.p (.t 21) (.mv (.v 19)), .p (.t 22)
  (.is 1 (.v 17) (.v 19)), .p (.t 23) (.ld (.t 22)), .p (.v 6) (.mv (.t 21)), .p (.v 7) (.mv (.t 23))]) (.seq (.reg [.p (.v 24) (.mv (.v 7))]) (.ite (.v 24) (.reg [.p (.t 25) (.m (.ldn 1 (.v 5))), .p
  (.t 26) (.mv (.v 0)), .p (.t 27) (.mv (.v 6)), .p (.t 28) (.is 1 (.t 26) (.t 27)), .p (.t 29) (.m (.ldn 1 (.t 28))), .e (.t 30) (.call (ι.f 132) [.t 25, .t 29]), .e .no (.stn 1 (.v 5) (.t 30))]) (.reg
  [.p (.t 31) (.mv (.v 2)), .p (.t 32) (.mv (.v 6)), .e (.t 33) (.bldF (ι.t 26) 1 1 [.t 32]), .e (.t 34) (.app false (ι.t 26) 1 8 #[.int .i64 0] (.t 31) (.t 33)), .p (.v 2) (.mv (.t 34))]))))) (.reg [.p
  (.t 35) (.ar .add .i64 (.v 19) (.c (.int .i64 1))), .p (.v 19) (.mv (.t 35))]))))))) (.seq (.reg [.p (.t 36) (.mv (.v 2)), .p (.t 37) (.m (.ldn 1 (.v 5))), .e (.t 38) (.call (ι.f 139) [.t 37]), .p (.v
  2) (.mv (.t 36)), .p (.v 3) (.mv (.t 38))]) .ret))))))
def r_mcov : List RV := [.t 2, .t 3]
/- matching.Check -/
def c_mchk (ι : Ids) : S :=
  .seq (.reg [.p (.v 4) (.mv (.c (.bool false)))]) (.seq (.seq (.reg [.p (.t 8) (.mv (.v 0)), .e (.t 9) (.call (ι.f 144) [.t 8]), .p (.t 10) (.cm .neq .i64 (.t 9) (.c (.int .i64 0))), .p (.t 11) (.mv
  (.t 10)), .gp (.t 12) (.t 11) false (.mv (.v 1)), .gp (.t 13) (.t 11) false (.m (.lenl (.t 12))), .gp (.t 14) (.t 11) false (.mv (.v 0)), .gp (.t 15) (.t 11) false (.m (.lenl (.t 14))), .gp (.t 16)
  (.t 11) false (.cm .neq .i64 (.t 13) (.t 15)), .p (.v 17) (.pick (.t 11) (.c (.bool true)) (.t 16))]) (.ite (.v 17) (.seq (.reg [.p (.v 4) (.mv (.c (.bool false)))]) .ret) .skip)) (.seq (.reg [.e (.v
  5) (.new (ι.t 155) (Array.replicate 256 (.bool false)))]) (.seq (.seq (.reg [.p (.v 18) (.mv (.v 1)), .p (.v 19) (.m (.lenl (.v 18))), .p (.v 20) (.mv (.c (.int .i64 0)))]) (.blk 0 (.loop (.seq (.reg
  [.p (.v 21) (.cm .lss .i64 (.v 20) (.v 19))]) (.seq (.ite (.v 21) .skip (.exit 0)) (.seq (.blk 1 (.seq (.reg [.p (.t 22) (.mv (.v 20)), .p (.t 23) (.is 1 (.v 18) (.v 20)), .p (.t 24) (.ld (.t 23)), .p
  (.v 6) (.mv (.t 22)), .p (.v 7) (.mv (.t 24))]) (.seq (.seq (.reg [.p (.t 25) (.mv (.v 7)), .p (.v 26) (.cm .eql .i64 (.t 25) (.c (.int .i64 (-1))))]) (.ite (.v 26) (.exit 1) .skip)) (.seq (.seq (.reg
  [.p (.t 27) (.mv (.v 0)), .p (.t 28) (.mv (.v 6)), .p (.t 29) (.is 1 (.t 27) (.t 28)), .p (.t 30) (.m (.ldn 1 (.t 29))), .p (.t 31) (.mv (.v 7)), .e (.t 32) (.call (ι.f 130) [.t 30, .t 31]), .p (.t
  33) (.not (.t 32)), .p (.t 34) (.mv (.t 33)), .gp (.t 35) (.t 34) false (.mv (.v 7)), .gp (.t 36) (.t 34) false (.ia 256 1 (.v 5) (.t 35)), .gp (.t 37) (.t 34) false (.ld (.t 36)), .p (.v 38) (.pick
  (.t 34) (.c (.bool true)) (.t 37))]) (.ite (.v 38) (.seq (.reg [.p (.v 4) (.mv (.c (.bool false)))]) .ret) .skip)) (.reg [.p (.t 39) (.mv (.v 7)), .p (.t 40) (.ia 256 1 (.v 5) (.t 39)), .e .no (.st
  (.t 40) (.c (.bool true)))]))))) (.reg [.p (.t 41) (.ar .add .i64 (.v 20) (.c (.int .i64 1))), .p (.v 20) (.mv (.t 41))]))))))) (.seq (.reg [.p (.v 4) (.mv (.c (.bool true)))]) .ret))))
def r_mchk : List RV := [.t 4]
/-- D are the loose lefts of a graph -/
def DefOf (ps : List (Nat → Bool)) (D : List Nat) : Prop := ∃ L, Mx ps.length 256 (Eg (gl ps)) (gi L) ∧ L.length = ps.length ∧ Loose ps.length 256 (Eg (gl ps)) (gi L) D
/-- those of the first i that are in D -/
def inD (D : List Nat) (i : Nat) : List Nat := (List.range i).filter fun a => decide (a ∈ D)
def outD (D : List Nat) (i : Nat) : List Nat := (List.range i).filter fun a => !decide (a ∈ D)
theorem inD_succ (D : List Nat) (i : Nat) : inD D (i + 1) = inD D i ++ if i ∈ D then [i] else [] := by
  unfold inD; rw [List.range_succ, List.filter_append]; congr 1
  by_cases h : i ∈ D <;> simp [h]
theorem outD_succ (D : List Nat) (i : Nat) : outD D (i + 1) = outD D i ++ if i ∈ D then [] else [i] := by
  unfold outD; rw [List.range_succ, List.filter_append]; congr 1
  by_cases h : i ∈ D <;> simp [h]
theorem inD_le (D : List Nat) (i : Nat) : (inD D i).length ≤ i := by
  unfold inD; have := List.length_filter_le (fun a => decide (a ∈ D)) (List.range i); simpa using this
theorem outD_le (D : List Nat) (i : Nat) : (outD D i).length ≤ i := by
  unfold outD; have := List.length_filter_le (fun a => !decide (a ∈ D)) (List.range i); simpa using this
def MDefPost (ps : List (Nat → Bool)) (H : Hp) (r : Value) (H' : Hp) : Prop := ((chkF ps ≠ 0 ∧ r = .tuple #[.slice none 0 0, .bool false]) ∨ ∃ v D, chkF ps = 0 ∧ DefOf ps D ∧ r = .tuple #[v, .bool (decide (((inD D ps.length).length : Int) > 0))] ∧ OwS H' v (iL (nI (inD D ps.length))) ∧ ∀ k, ownB v k → H.size ≤ k) ∧ Keep (fun _ => False) H H'
def MDefSpec (P : Program) (ι : Ids) (k : FuncId) : Prop := ∀ (ps : List (Nat → Bool)) (v : Value) (Z : Nat → Prop) (H : Hp), TabOk ι H → GrM H v ps Z → ps.length ≤ 100000 →
  CallsM P k #[v] H (MDefPost ps H)
theorem mdef_ok {P : Program} {ι : Ids} {k : FuncId} (hk : FnIs P k (c_mdef ι) r_mdef 1) (hc : MCheckSpec P (ι.f 144)) (hb : BegSpec P ι (ι.f 146)) (hm : MaxiSpec P (ι.f 148)) (hl : LooseSpec P (ι.f 152)) : MDefSpec P ι k := by
  intro ps v Z H hT hv hn
  refine calls_of_vc hk (args := [_]) (by simp) ?_
  unfold c_mdef r_mdef
  obtain ⟨R, hR⟩ : ∃ R, R = MDefPost ps H := ⟨_, rfl⟩
  rw [← hR]
  simp only [go_sem, List.map_cons, List.map_nil, ↓reduceIte, Nat.reduceEqDiff, Nat.reduceAdd, Nat.reduceMul, reduceCtorEq, and_true, true_and, Nat.mul_one, Nat.zero_add, Bool.false_eq_true, decide_true, decide_false, not_false_eq_true, kont_eq]
  refine (hc ps v Z H hv hn).mono ?_
  rintro r H1 ⟨rfl, K1⟩
  by_cases h0 : chkF ps = 0
  · obtain ⟨c1, c2, c3⟩ := chk_ok h0
    have e0 : ((0 : Int) != 0) = false := rfl
    simp only [go_sem, List.map_cons, List.map_nil, ↓reduceIte, Nat.reduceEqDiff, Nat.reduceAdd, Nat.reduceMul, reduceCtorEq, and_true, true_and, Nat.mul_one, Nat.zero_add, Bool.false_eq_true, decide_true, decide_false, not_false_eq_true, kont_eq, h0, e0]
    refine (hb ps v Z H1 (hT.keep K1) (hv.keep0 K1) hn).mono ?_
    rintro r H2 ⟨s, bl, gv, vs, Se, rfl, hS, K2, g1, g2⟩
    simp only [go_sem, List.map_cons, List.map_nil, ↓reduceIte, Nat.reduceEqDiff, Nat.reduceAdd, Nat.reduceMul, reduceCtorEq, and_true, true_and, Nat.mul_one, Nat.zero_add, Bool.false_eq_true, decide_true, decide_false, not_false_eq_true, kont_eq]
    refine (hm H2 s bl gv vs (ps.map mems) _ _ hS c2 c3 (by simpa using c1) (by simp) rfl).mono ?_
    rintro r H3 ⟨L, R', Se', hS3, hM, K3⟩
    have s1 := K1.size
    simp only [go_sem, List.map_cons, List.map_nil, ↓reduceIte, Nat.reduceEqDiff, Nat.reduceAdd, Nat.reduceMul, reduceCtorEq, and_true, true_and, Nat.mul_one, Nat.zero_add, Bool.false_eq_true, decide_true, decide_false, not_false_eq_true, kont_eq]
    refine (hl H3 s bl gv vs (ps.map mems) _ _ _ hS3 c2 c3 (by simpa using c1) (by simpa using hM.inv)).mono ?_
    rintro r H4 ⟨b, O, D, rfl, hO, hbo, hOl, hD, hOD, K4⟩
    rw [List.length_map] at hD hOl hOD
    have s3 := K3.size
    have s2 := K2.size
    have K04 := ((K1.trans K2).trans' K3 (fun i hi h => by omega)).trans K4
    have c1' : ps.length ≤ 256 := c1
    simp only [go_sem, List.map_cons, List.map_nil, ↓reduceIte, Nat.reduceEqDiff, Nat.reduceAdd, Nat.reduceMul, reduceCtorEq, and_true, true_and, Nat.mul_one, Nat.zero_add, Bool.false_eq_true, decide_true, decide_false, not_false_eq_true, kont_eq, List.length_map]
    refine vc_loop [19, 6, 7, 23, 5, 18] rfl (fun n f H' => ∃ (i : Nat) (v : Value), i ≤ ps.length ∧ n = ps.length - i ∧ f 18 = .int .i64 i ∧ f 5 = v ∧ OwS H' v (iL (nI (inD D i))) ∧ (∀ k, ownB v k → H.size ≤ k ∧ k ≠ b) ∧ Bl H' b (bL O) ∧ Keep (fun _ => False) H H') ps.length
      ⟨0, .slice none 0 0, by omega, by omega, by simp only [go_sem, List.map_cons, List.map_nil, ↓reduceIte, Nat.reduceEqDiff, Nat.reduceAdd, Nat.reduceMul, reduceCtorEq, and_true, true_and, Nat.mul_one, Nat.zero_add, Bool.false_eq_true, decide_true, decide_false, not_false_eq_true, kont_eq]; rfl, by simp only [go_sem, List.map_cons, List.map_nil, ↓reduceIte, Nat.reduceEqDiff, Nat.reduceAdd, Nat.reduceMul, reduceCtorEq, and_true, true_and, Nat.mul_one, Nat.zero_add, Bool.false_eq_true, decide_true, decide_false, not_false_eq_true, kont_eq], OwS.nil _, fun k h => h.elim, hO, K04⟩ ?_
    rintro n f H5 ⟨i, v', hi, rfl, hf, hf5, hv', ho, hO5, K5⟩
    simp only [go_sem, List.map_cons, List.map_nil, ↓reduceIte, Nat.reduceEqDiff, Nat.reduceAdd, Nat.reduceMul, reduceCtorEq, and_true, true_and, Nat.mul_one, Nat.zero_add, Bool.false_eq_true, decide_true, decide_false, not_false_eq_true, kont_eq] at hf hf5
    simp only [go_sem, List.map_cons, List.map_nil, ↓reduceIte, Nat.reduceEqDiff, Nat.reduceAdd, Nat.reduceMul, reduceCtorEq, and_true, true_and, Nat.mul_one, Nat.zero_add, Bool.false_eq_true, decide_true, decide_false, not_false_eq_true, hf]
    refine iteV_dec (fun hlt => ?_) (fun hge => ?_)
    · have hlt : i < ps.length := by omega
      have hcO : cell H5 ⟨b, i, none⟩ = some (.bool (O.getD i true)) := by
        have hal : i < O.length := by rw [hOl]; exact hlt
        rw [hO5.cell, bL_get _ _ hal, List.getD_eq_getElem?_getD, List.getD_eq_getElem?_getD, List.getElem?_eq_getElem hal]; rfl
      rw [hOD i hlt] at hcO
      simp only [go_sem, List.map_cons, List.map_nil, ↓reduceIte, Nat.reduceEqDiff, Nat.reduceAdd, Nat.reduceMul, reduceCtorEq, and_true, true_and, Nat.mul_one, Nat.zero_add, Bool.false_eq_true, decide_true, decide_false, not_false_eq_true, tn_cast, Nat.mul_one, hcO]
      refine ⟨by omega, ?_⟩
      by_cases hd : i ∈ D
      · simp only [go_sem, List.map_cons, List.map_nil, ↓reduceIte, Nat.reduceEqDiff, Nat.reduceAdd, Nat.reduceMul, reduceCtorEq, and_true, true_and, Nat.mul_one, Nat.zero_add, Bool.false_eq_true, decide_true, decide_false, not_false_eq_true, fillV_nil, fillV_cons, okFill_nil, okFill_cons, cells_slice, cells_int, cells_bool, cells_str, cells_ptr, cells_agg, stNH_ptr, okN_ptr, wrA1, wrA20, wrA21, hd, hf5]
        refine kont_news fun H6 b6 e6 z6 B6 K6 => ?_
        have s6 := K6.size
        have hb5 := hO5.lt
        simp only [go_sem, List.map_cons, List.map_nil, ↓reduceIte, Nat.reduceEqDiff, Nat.reduceAdd, Nat.reduceMul, reduceCtorEq, and_true, true_and, Nat.mul_one, Nat.zero_add, Bool.false_eq_true, decide_true, decide_false, not_false_eq_true, kont_eq]
        have hle := inD_le D i
        refine app_sl (l := iL (nI (inD D i))) (m := [.int .i64 (i : Int)]) (hv'.keep K6 (by simp)) (SlR.bl B6 0 1 1 (by omega) (by simp)) ?_ rfl ?_ ?_ fun v2 H7 O7 M7 N7 => ?_
        · intro y hy; simp at hy; subst hy; rfl
        · unfold maxLen; simp only [List.length_singleton, iL_len, nI_len]; omega
        · simp only [List.length_singleton, iL_len, nI_len]; omega
        · have s7 := M7.size
          have hQe : iL (nI (inD D i)) ++ [.int .i64 (i : Int)] = iL (nI (inD D (i + 1))) := by rw [inD_succ, if_pos hd]; simp [iL, nI]
          rw [hQe] at O7
          simp (disch := omega) only [go_sem, List.map_cons, List.map_nil, ↓reduceIte, Nat.reduceEqDiff, Nat.reduceAdd, Nat.reduceMul, reduceCtorEq, and_true, true_and, Nat.mul_one, Nat.zero_add, Bool.false_eq_true, decide_true, decide_false, not_false_eq_true, kont_eq, hf, IntWalk.i64_in]
          refine ⟨ps.length - (i + 1), by omega, i + 1, v2, by omega, rfl, by simp, rfl, O7, fun k hk => ?_, M7.bl (K6.bl hO5 (by simp)) (fun h => (ho _ h).2 rfl), (K5.trans K6).trans' M7 (fun q hq h => by have := (ho q h).1; omega)⟩
          rcases N7 k hk with h | h
          · exact ho k h
          · have := K5.size; omega
      · simp (disch := omega) only [go_sem, List.map_cons, List.map_nil, ↓reduceIte, Nat.reduceEqDiff, Nat.reduceAdd, Nat.reduceMul, reduceCtorEq, and_true, true_and, Nat.mul_one, Nat.zero_add, Bool.false_eq_true, decide_true, decide_false, not_false_eq_true, kont_eq, hf, hf5, hd, IntWalk.i64_in]
        exact ⟨ps.length - (i + 1), by omega, i + 1, v', by omega, rfl, by simp, rfl, by rw [inD_succ, if_neg hd, List.append_nil]; exact hv', ho, hO5, K5⟩
    · have hil : i = ps.length := by omega
      subst hil
      obtain ⟨va, vn, vc, rfl⟩ := hv'.shape
      have hvl := hv'.sl.len
      rw [iL_len, nI_len] at hvl
      have hvl : vn = (inD D ps.length).length := hvl
      subst hvl
      simp only [go_sem, List.map_cons, List.map_nil, ↓reduceIte, Nat.reduceEqDiff, Nat.reduceAdd, Nat.reduceMul, reduceCtorEq, and_true, true_and, Nat.mul_one, Nat.zero_add, Bool.false_eq_true, decide_true, decide_false, not_false_eq_true, kont_eq, hf5]
      subst hR
      exact ⟨.inr ⟨_, D, h0, ⟨L, by simpa [gl] using hM.mx, by simpa using hM.lL, hD⟩, rfl, hv', fun k hk => (ho k hk).1⟩, K5⟩
  · have e0 : (chkF ps != 0) = true := by simpa using h0
    simp only [go_sem, List.map_cons, List.map_nil, ↓reduceIte, Nat.reduceEqDiff, Nat.reduceAdd, Nat.reduceMul, reduceCtorEq, and_true, true_and, Nat.mul_one, Nat.zero_add, Bool.false_eq_true, decide_true, decide_false, not_false_eq_true, kont_eq, e0]
    subst hR
    exact ⟨.inl ⟨h0, rfl⟩, K1⟩
/-- the neighbours of some lefts -/
def nbP (ps : List (Nat → Bool)) (l : List Nat) (n : Nat) : Bool := l.any fun a => (ps.getD a fun _ => false) n
theorem nbP_app (ps : List (Nat → Bool)) (l : List Nat) (i n : Nat) : nbP ps (l ++ [i]) n = (nbP ps l n || (ps.getD i fun _ => false) n) := by unfold nbP; simp
def MCovPost (ps : List (Nat → Bool)) (H : Hp) (r : Value) (H' : Hp) : Prop := ((chkF ps ≠ 0 ∧ r = .tuple #[.slice none 0 0, .slice none 0 0]) ∨ ∃ v w D, chkF ps = 0 ∧ DefOf ps D ∧ r = .tuple #[v, w] ∧ OwS H' v (iL (nI (outD D ps.length))) ∧ OwS H' w (memL (nbP ps (inD D ps.length)))) ∧ Keep (fun _ => False) H H'
def MCovSpec (P : Program) (ι : Ids) (k : FuncId) : Prop := ∀ (ps : List (Nat → Bool)) (v : Value) (Z : Nat → Prop) (H : Hp), TabOk ι H → GrM H v ps Z → ps.length ≤ 100000 →
  CallsM P k #[v] H (MCovPost ps H)
theorem mcov_ok {P : Program} {ι : Ids} {k : FuncId} (hk : FnIs P k (c_mcov ι) r_mcov 1) (hc : MCheckSpec P (ι.f 144)) (hb : BegSpec P ι (ι.f 146)) (hm : MaxiSpec P (ι.f 148)) (hl : LooseSpec P (ι.f 152)) (hor : BOrSpec P (ι.f 132)) (hls : BListSpec P ι (ι.f 139)) : MCovSpec P ι k := by
  intro ps v Z H hT hv hn
  refine calls_of_vc hk (args := [_]) (by simp) ?_
  unfold c_mcov r_mcov
  obtain ⟨R, hR⟩ : ∃ R, R = MCovPost ps H := ⟨_, rfl⟩
  rw [← hR]
  simp only [go_sem, List.map_cons, List.map_nil, ↓reduceIte, Nat.reduceEqDiff, Nat.reduceAdd, Nat.reduceMul, reduceCtorEq, and_true, true_and, Nat.mul_one, Nat.zero_add, Bool.false_eq_true, decide_true, decide_false, not_false_eq_true, kont_eq]
  refine (hc ps v Z H hv hn).mono ?_
  rintro r H1 ⟨rfl, K1⟩
  by_cases h0 : chkF ps = 0
  · obtain ⟨c1, c2, c3⟩ := chk_ok h0
    have e0 : ((0 : Int) != 0) = false := rfl
    simp only [go_sem, List.map_cons, List.map_nil, ↓reduceIte, Nat.reduceEqDiff, Nat.reduceAdd, Nat.reduceMul, reduceCtorEq, and_true, true_and, Nat.mul_one, Nat.zero_add, Bool.false_eq_true, decide_true, decide_false, not_false_eq_true, kont_eq, h0, e0]
    refine (hb ps v Z H1 (hT.keep K1) (hv.keep0 K1) hn).mono ?_
    rintro r H2 ⟨s, bl, gv, vs, Se, rfl, hS, K2, g1, g2⟩
    simp only [go_sem, List.map_cons, List.map_nil, ↓reduceIte, Nat.reduceEqDiff, Nat.reduceAdd, Nat.reduceMul, reduceCtorEq, and_true, true_and, Nat.mul_one, Nat.zero_add, Bool.false_eq_true, decide_true, decide_false, not_false_eq_true, kont_eq]
    refine (hm H2 s bl gv vs (ps.map mems) _ _ hS c2 c3 (by simpa using c1) (by simp) rfl).mono ?_
    rintro r H3 ⟨L, R', Se', hS3, hM, K3⟩
    have s1 := K1.size
    have s3 := K3.size
    have s2 := K2.size
    have K03 := (K1.trans K2).trans' K3 (fun i hi h => by omega)
    have c1' : ps.length ≤ 256 := c1
    rw [kont_eq]
    simp only [go_sem, List.map_cons, List.map_nil, ↓reduceIte, Nat.reduceEqDiff, Nat.reduceAdd, Nat.reduceMul, reduceCtorEq, and_true, true_and, Nat.mul_one, Nat.zero_add, Bool.false_eq_true, decide_true, decide_false, not_false_eq_true, fillV_nil, fillV_cons, okFill_nil, okFill_cons, cells_slice, cells_int, cells_bool, cells_str, cells_ptr, cells_agg, stNH_ptr, okN_ptr, wrA1, wrA20, wrA21]
    refine kont_new fun H4 b4 e4 z4 B4 K4 => ?_
    have s4 := K4.size
    have hokN := B4.okNA (o := 0) (n := 1) (by simp)
    have B5 := B4.stNA 0 [.slice none 0 0]
    have B5 : Bl (stNA H4 ⟨b4, 0, none⟩ [.slice none 0 0]) b4 [.slice none 0 0] := by simpa [wrL] using B5
    have K5 : Keep (fun k => k = b4) H4 (stNA H4 ⟨b4, 0, none⟩ [.slice none 0 0]) := (Keep.refl _ _).stNA _ (.inl rfl)
    have hone : all1 #[.slice none 0 0] := by intro y hy; simp at hy; subst hy; rfl
    simp only [go_sem, List.map_cons, List.map_nil, ↓reduceIte, Nat.reduceEqDiff, Nat.reduceAdd, Nat.reduceMul, reduceCtorEq, and_true, true_and, Nat.mul_one, Nat.zero_add, Bool.false_eq_true, decide_true, decide_false, not_false_eq_true, kont_eq, fillV_nil, fillV_cons, okFill_nil, okFill_cons, cells_slice, cells_int, cells_bool, cells_str, cells_ptr, cells_agg, stNH_ptr, okN_ptr, wrA1, wrA20, wrA21, hokN, hone]
    generalize stNA H4 ⟨b4, 0, none⟩ [.slice none 0 0] = H5 at B5 K5 ⊢
    have s5 := K5.size
    have K35 : Keep (fun k => k = b4) H3 H5 := K4.any.trans K5
    have hS5 := hS3.keep K35 (by have := hS3.S.lt; omega) (by have := hS3.L.lt; omega) (fun k hk _ => by omega)
    refine (hl H5 s bl gv vs (ps.map mems) _ _ _ hS5 c2 c3 (by simpa using c1) (by simpa using hM.inv)).mono ?_
    rintro r H6 ⟨b, O, D, rfl, hO, hbo, hOl, hD, hOD, K6⟩
    rw [List.length_map] at hD hOl hOD
    have K05 := (K03.trans K4).to_old K5 (by omega)
    have K06 := K05.trans K6
    have s6 := K6.size
    have B6 := K6.bl B5 (by simp)
    simp only [go_sem, List.map_cons, List.map_nil, ↓reduceIte, Nat.reduceEqDiff, Nat.reduceAdd, Nat.reduceMul, reduceCtorEq, and_true, true_and, Nat.mul_one, Nat.zero_add, Bool.false_eq_true, decide_true, decide_false, not_false_eq_true, kont_eq, List.length_map]
    refine vc_mono ?_ ?_ (Q := fun e f H' => e = .x 0 ∧ f 5 = .pointer (some ⟨b4, 0, none⟩) ∧ ∃ (v u : Value), f 2 = v ∧ OwS H' v (iL (nI (outD D ps.length))) ∧ Bl H' b4 [u] ∧ SetM H' (.agg #[u]) (nbP ps (inD D ps.length)) ∧ Keep (fun _ => False) H H')
    · rintro e f H7 ⟨rfl, hf5, v2, u, hf2, hv2, B7, hu, K7⟩
      have hl7 := B7.ldNA (o := 0) (n := 1) (by simp)
      have e3 : (List.take 1 (List.drop 0 [u])).toArray = #[u] := rfl
      rw [e3] at hl7
      simp only [go_sem, List.map_cons, List.map_nil, ↓reduceIte, Nat.reduceEqDiff, Nat.reduceAdd, Nat.reduceMul, reduceCtorEq, and_true, true_and, Nat.mul_one, Nat.zero_add, Bool.false_eq_true, decide_true, decide_false, not_false_eq_true, kont_eq, hf5, hf2, ldNO_ptr, hl7]
      refine (hls _ _ H7 (hT.keep K7) hu).mono ?_
      rintro r H8 ⟨O8, o8, K8⟩
      obtain ⟨va, vn, vc, rfl⟩ := hv2.shape
      simp only [go_sem, List.map_cons, List.map_nil, ↓reduceIte, Nat.reduceEqDiff, Nat.reduceAdd, Nat.reduceMul, reduceCtorEq, and_true, true_and, Nat.mul_one, Nat.zero_add, Bool.false_eq_true, decide_true, decide_false, not_false_eq_true, kont_eq]
      subst hR
      exact ⟨.inr ⟨_, _, D, h0, ⟨L, by simpa [gl] using hM.mx, by simpa using hM.lL, hD⟩, rfl, hv2.keep K8 (by simp), O8⟩, K7.trans K8⟩
    · refine vc_loop [20, 6, 7, 24, 2, 19] rfl (fun n f H' => ∃ (i : Nat) (v u : Value), i ≤ ps.length ∧ n = ps.length - i ∧ f 19 = .int .i64 i ∧ f 2 = v ∧ OwS H' v (iL (nI (outD D i))) ∧ (∀ k, ownB v k → H.size ≤ k ∧ k ≠ b4 ∧ k ≠ b) ∧ Bl H' b4 [u] ∧ SetM H' (.agg #[u]) (nbP ps (inD D i)) ∧ slB u b4 = False ∧ (∀ k, slB u k → ¬ ownB v k) ∧ Bl H' b (bL O) ∧ Keep (fun _ => False) H H') ps.length
        ⟨0, .slice none 0 0, .slice none 0 0, by omega, by omega, by simp only [go_sem, List.map_cons, List.map_nil, ↓reduceIte, Nat.reduceEqDiff, Nat.reduceAdd, Nat.reduceMul, reduceCtorEq, and_true, true_and, Nat.mul_one, Nat.zero_add, Bool.false_eq_true, decide_true, decide_false, not_false_eq_true, kont_eq]; rfl, by simp only [go_sem, List.map_cons, List.map_nil, ↓reduceIte, Nat.reduceEqDiff, Nat.reduceAdd, Nat.reduceMul, reduceCtorEq, and_true, true_and, Nat.mul_one, Nat.zero_add, Bool.false_eq_true, decide_true, decide_false, not_false_eq_true, kont_eq], OwS.nil _, fun k h => h.elim, B6, (SetM.empty _ _ _).congr (fun n => rfl), rfl, fun k h => h.elim, hO, K06⟩ ?_
      rintro n f H7 ⟨i, v', u, hi, rfl, hf, hf2, hv', ho, B7, hu, hub, hdis, hO7, K7⟩
      simp only [go_sem, List.map_cons, List.map_nil, ↓reduceIte, Nat.reduceEqDiff, Nat.reduceAdd, Nat.reduceMul, reduceCtorEq, and_true, true_and, Nat.mul_one, Nat.zero_add, Bool.false_eq_true, decide_true, decide_false, not_false_eq_true, kont_eq] at hf hf2
      simp only [go_sem, List.map_cons, List.map_nil, ↓reduceIte, Nat.reduceEqDiff, Nat.reduceAdd, Nat.reduceMul, reduceCtorEq, and_true, true_and, Nat.mul_one, Nat.zero_add, Bool.false_eq_true, decide_true, decide_false, not_false_eq_true, hf]
      refine iteV_dec (fun hlt => ?_) (fun hge => ?_)
      · have hlt : i < ps.length := by omega
        have hcO : cell H7 ⟨b, i, none⟩ = some (.bool (O.getD i true)) := by
          have hal : i < O.length := by rw [hOl]; exact hlt
          rw [hO7.cell, bL_get _ _ hal, List.getD_eq_getElem?_getD, List.getD_eq_getElem?_getD, List.getElem?_eq_getElem hal]; rfl
        rw [hOD i hlt] at hcO
        have s7 := K7.size
        have hb4 : b4 < H5.size := B5.lt
        by_cases hd : i ∈ D
        · obtain ⟨gvs, hG⟩ := hv.keep0 K7
          have hgi := hG.at_ i hlt
          obtain ⟨eb, eo, ec, rfl, hld, hcell⟩ := hG.elt hlt
          have hl7 := B7.ldNA (o := 0) (n := 1) (by simp)
          have e3 : (List.take 1 (List.drop 0 [u])).toArray = #[u] := rfl
          rw [e3] at hl7
          simp only [go_sem, List.map_cons, List.map_nil, ↓reduceIte, Nat.reduceEqDiff, Nat.reduceAdd, Nat.reduceMul, reduceCtorEq, and_true, true_and, Nat.mul_one, Nat.zero_add, Bool.false_eq_true, decide_true, decide_false, not_false_eq_true, kont_eq, tn_cast, Nat.mul_one, hcO, hd, hl7, hld, ldNO_ptr]
          refine ⟨by omega, by omega, ?_⟩
          refine (hor _ _ _ _ H7 hu hgi).mono ?_
          rintro r H8 ⟨O8, K8, n8⟩
          obtain ⟨u8, W8, rfl, hs8⟩ := id O8
          have s8 := K8.size
          have B8 := K8.bl B7 (by simp)
          have hb47 := B7.lt
          have hokN := B8.okNA (o := 0) (n := 1) (by simp)
          have B9 := B8.stNA 0 [u8]
          have B9 : Bl (stNA H8 ⟨b4, 0, none⟩ [u8]) b4 [u8] := by simpa [wrL] using B9
          have K9 : Keep (fun k => k = b4) H8 (stNA H8 ⟨b4, 0, none⟩ [u8]) := (Keep.refl _ _).stNA _ (.inl rfl)
          have hone : all1 #[u8] := hs8.sl.one
          simp only [go_sem, List.map_cons, List.map_nil, ↓reduceIte, Nat.reduceEqDiff, Nat.reduceAdd, Nat.reduceMul, reduceCtorEq, and_true, true_and, Nat.mul_one, Nat.zero_add, Bool.false_eq_true, decide_true, decide_false, not_false_eq_true, kont_eq, fillV_nil, fillV_cons, okFill_nil, okFill_cons, cells_slice, cells_int, cells_bool, cells_str, cells_ptr, cells_agg, stNH_ptr, okN_ptr, wrA1, wrA20, wrA21, hokN, hone]
          generalize stNA H8 ⟨b4, 0, none⟩ [u8] = H9 at B9 K9 ⊢
          have s9 := K9.size
          have hub8 : ∀ k, slB u8 k → H7.size ≤ k := n8
          simp (disch := omega) only [go_sem, List.map_cons, List.map_nil, ↓reduceIte, Nat.reduceEqDiff, Nat.reduceAdd, Nat.reduceMul, reduceCtorEq, and_true, true_and, Nat.mul_one, Nat.zero_add, Bool.false_eq_true, decide_true, decide_false, not_false_eq_true, kont_eq, hf, IntWalk.i64_in]
          refine ⟨ps.length - (i + 1), by omega, i + 1, v', u8, by omega, rfl, by simp, hf2, ?_, ho, B9, ?_, ?_, fun k h h' => ?_, ?_, ?_⟩
          · rw [outD_succ, if_pos hd, List.append_nil]
            exact (hv'.keep K8 (by simp)).keep K9 (fun k hk e => (ho k hk).2.1 e)
          · rw [inD_succ, if_pos hd]
            refine (SetM.keep O8 K9 (fun k hk e => by have := hub8 k hk; omega)).congr (fun n => (nbP_app _ _ _ _).symm)
          · exact propext ⟨fun h => by have := hub8 b4 h; omega, fun h => h.elim⟩
          · have := hub8 k h; have := hv'.old h'; omega
          · exact K9.bl (K8.bl hO7 (by simp)) (by omega)
          · exact (K7.trans K8).to_old K9 (by omega)
        · simp only [go_sem, List.map_cons, List.map_nil, ↓reduceIte, Nat.reduceEqDiff, Nat.reduceAdd, Nat.reduceMul, reduceCtorEq, and_true, true_and, Nat.mul_one, Nat.zero_add, Bool.false_eq_true, decide_true, decide_false, not_false_eq_true, fillV_nil, fillV_cons, okFill_nil, okFill_cons, cells_slice, cells_int, cells_bool, cells_str, cells_ptr, cells_agg, stNH_ptr, okN_ptr, wrA1, wrA20, wrA21, tn_cast, Nat.mul_one, hcO, hd, hf2]
          refine ⟨by omega, ?_⟩
          refine kont_news fun H8 b8 e8 z8 B8 K8 => ?_
          have s8 := K8.size
          simp only [go_sem, List.map_cons, List.map_nil, ↓reduceIte, Nat.reduceEqDiff, Nat.reduceAdd, Nat.reduceMul, reduceCtorEq, and_true, true_and, Nat.mul_one, Nat.zero_add, Bool.false_eq_true, decide_true, decide_false, not_false_eq_true, kont_eq]
          have hle := outD_le D i
          refine app_sl (l := iL (nI (outD D i))) (m := [.int .i64 (i : Int)]) (hv'.keep K8 (by simp)) (SlR.bl B8 0 1 1 (by omega) (by simp)) ?_ rfl ?_ ?_ fun v2 H9 O9 M9 N9 => ?_
          · intro y hy; simp at hy; subst hy; rfl
          · unfold maxLen; simp only [List.length_singleton, iL_len, nI_len]; omega
          · simp only [List.length_singleton, iL_len, nI_len]; omega
          · have s9 := M9.size
            have hQe : iL (nI (outD D i)) ++ [.int .i64 (i : Int)] = iL (nI (outD D (i + 1))) := by rw [outD_succ, if_neg hd]; simp [iL, nI]
            rw [hQe] at O9
            have hO7l := hO7.lt
            have B7l := B7.lt
            simp (disch := omega) only [go_sem, List.map_cons, List.map_nil, ↓reduceIte, Nat.reduceEqDiff, Nat.reduceAdd, Nat.reduceMul, reduceCtorEq, and_true, true_and, Nat.mul_one, Nat.zero_add, Bool.false_eq_true, decide_true, decide_false, not_false_eq_true, kont_eq, hf, IntWalk.i64_in]
            refine ⟨ps.length - (i + 1), by omega, i + 1, v2, u, by omega, rfl, by simp, rfl, O9, fun k hk => ?_, M9.bl (K8.bl B7 (by simp)) (fun h => (ho _ h).2.1 rfl), ?_, hub, fun k h h' => ?_, M9.bl (K8.bl hO7 (by simp)) (fun h => (ho _ h).2.2 rfl), (K7.trans K8).trans' M9 (fun q hq h => by have := (ho q h).1; omega)⟩
            · rcases N9 k hk with h | h
              · exact ho k h
              · refine ⟨by omega, by omega, by omega⟩
            · rw [inD_succ, if_neg hd, List.append_nil]
              exact (hu.keep K8 (by simp)).keep M9 (fun k hk h => hdis k hk h)
            · have ho7 := hu.old (k := k) h
              rcases N9 k h' with h'' | h''
              · exact hdis k h h''
              · omega
      · have hil : i = ps.length := by omega
        subst hil
        exact ⟨v', u, by first | exact hf2 | rfl, hv', B7, hu, K7⟩
  · have e0 : (chkF ps != 0) = true := by simpa using h0
    simp only [go_sem, List.map_cons, List.map_nil, ↓reduceIte, Nat.reduceEqDiff, Nat.reduceAdd, Nat.reduceMul, reduceCtorEq, and_true, true_and, Nat.mul_one, Nat.zero_add, Bool.false_eq_true, decide_true, decide_false, not_false_eq_true, kont_eq, e0]
    subst hR
    exact ⟨.inl ⟨h0, rfl⟩, K1⟩
/-- the first i of m are as they should be -/
def CkTo (ps : List (Nat → Bool)) (m : List Int) (i : Nat) : Prop := (∀ a < i, gi m a = -1 ∨ memI (ps.getD a fun _ => false) (gi m a) = true) ∧ ∀ a < i, ∀ b < i, gi m a = gi m b → gi m a ≠ -1 → a = b
def CkP (ps : List (Nat → Bool)) (m : List Int) : Prop := chkF ps = 0 ∧ m.length = ps.length ∧ CkTo ps m m.length
theorem CkTo.skip {ps : List (Nat → Bool)} {m : List Int} {i : Nat} (h : CkTo ps m i) (hi : gi m i = -1) : CkTo ps m (i + 1) := by
  refine ⟨fun a ha => ?_, fun a ha b hb e hn => ?_⟩
  · by_cases e : a = i
    · subst e; exact .inl hi
    · exact h.1 a (by omega)
  · by_cases e1 : a = i
    · subst e1; exact absurd hi hn
    · by_cases e2 : b = i
      · subst e2; exact absurd (e.trans hi) hn
      · exact h.2 a (by omega) b (by omega) e hn
theorem CkTo.push {ps : List (Nat → Bool)} {m : List Int} {i : Nat} (h : CkTo ps m i) (hi : memI (ps.getD i fun _ => false) (gi m i) = true) (hu : ∀ a < i, gi m a ≠ gi m i) : CkTo ps m (i + 1) := by
  refine ⟨fun a ha => ?_, fun a ha b hb e hn => ?_⟩
  · by_cases e : a = i
    · subst e; exact .inr hi
    · exact h.1 a (by omega)
  · by_cases e1 : a = i
    · by_cases e2 : b = i
      · omega
      · subst e1; exact absurd e.symm (hu b (by omega))
    · by_cases e2 : b = i
      · subst e2; exact absurd e (hu a (by omega))
      · exact h.2 a (by omega) b (by omega) e hn
def MChkSpec (P : Program) (k : FuncId) : Prop := ∀ (ps : List (Nat → Bool)) (m : List Int) (v w : Value) (Z : Nat → Prop) (H : Hp), GrM H v ps Z → SlR H w (iL m) → ps.length ≤ 100000 →
  CallsM P k #[v, w] H fun r H' => (∃ b : Bool, r = .bool b ∧ (b = true ↔ CkP ps m)) ∧ Keep (fun _ => False) H H'
theorem mchk_ok {P : Program} {ι : Ids} {k : FuncId} (hk : FnIs P k (c_mchk ι) r_mchk 2) (hc : MCheckSpec P (ι.f 144)) (hh : HasSpec P (ι.f 130)) : MChkSpec P k := by
  intro ps m v w Z H hv hw hn
  refine calls_of_vc hk (args := [_, _]) (by simp) ?_
  unfold c_mchk r_mchk
  simp only [go_sem, List.map_cons, List.map_nil, ↓reduceIte, Nat.reduceEqDiff, Nat.reduceAdd, Nat.reduceMul, reduceCtorEq, and_true, true_and, Nat.mul_one, Nat.zero_add, Bool.false_eq_true, decide_true, decide_false, not_false_eq_true, kont_eq]
  refine (hc ps v Z H hv hn).mono ?_
  rintro r H1 ⟨rfl, K1⟩
  have hvs : isSl v ∧ lenV v = ps.length := by obtain ⟨vs, h⟩ := hv; exact ⟨h.sl.isSl, by rw [h.sl.len, h.len]⟩
  by_cases h0 : chkF ps = 0
  · obtain ⟨c1, c2, c3⟩ := chk_ok h0
    have e0 : ((0 : Int) != 0) = false := rfl
    by_cases hl : m.length = ps.length
    · have e1 : ((ps.length : Int) != (ps.length : Int)) = false := by simp
      rw [kont_eq]
      simp only [go_sem, List.map_cons, List.map_nil, ↓reduceIte, Nat.reduceEqDiff, Nat.reduceAdd, Nat.reduceMul, reduceCtorEq, and_true, true_and, Nat.mul_one, Nat.zero_add, Bool.false_eq_true, decide_true, decide_false, not_false_eq_true, h0, e0, hw.isSl, hw.len, iL_len, hl, hvs, e1]
      refine kont_new fun H2 b e2 z2 B2 K2 => ?_
      have s1 := K1.size
      have B2 : Bl H2 b (bL (List.replicate 256 false)) := by
        have := B2
        rw [Array.toList_replicate, bL_rep] at this; exact this
      simp only [go_sem, List.map_cons, List.map_nil, ↓reduceIte, Nat.reduceEqDiff, Nat.reduceAdd, Nat.reduceMul, reduceCtorEq, and_true, true_and, Nat.mul_one, Nat.zero_add, Bool.false_eq_true, decide_true, decide_false, not_false_eq_true, kont_eq, hw.isSl, hw.len, iL_len, hl]
      refine vc_loop [21, 6, 7, 26, 38, 4, 20] rfl (fun n f H' => ∃ (i : Nat) (O : List Bool), i ≤ ps.length ∧ n = ps.length - i ∧ f 20 = .int .i64 i ∧ O.length = 256 ∧ Bl H' b (bL O) ∧ CkTo ps m i ∧ (∀ j < 256, O.getD j true = true ↔ ∃ a < i, gi m a = (j : Int)) ∧ Keep (fun _ => False) H H') ps.length
        ⟨0, _, by omega, by omega, by simp only [go_sem, List.map_cons, List.map_nil, ↓reduceIte, Nat.reduceEqDiff, Nat.reduceAdd, Nat.reduceMul, reduceCtorEq, and_true, true_and, Nat.mul_one, Nat.zero_add, Bool.false_eq_true, decide_true, decide_false, not_false_eq_true, kont_eq]; rfl, by simp, B2, ⟨fun a ha => by omega, fun a ha => by omega⟩, fun j hj => ?_, K1.trans K2⟩ ?_
      · refine ⟨fun h => ?_, fun ⟨a, ha, _⟩ => by omega⟩
        have := gb_rep 256 j hj
        unfold gb' at this
        rw [this] at h; cases h
      rintro n f H3 ⟨i, O, hi, rfl, hf, hOl, hO, hck, hOi, K3⟩
      simp only [go_sem, List.map_cons, List.map_nil, ↓reduceIte, Nat.reduceEqDiff, Nat.reduceAdd, Nat.reduceMul, reduceCtorEq, and_true, true_and, Nat.mul_one, Nat.zero_add, Bool.false_eq_true, decide_true, decide_false, not_false_eq_true, kont_eq] at hf
      simp only [go_sem, List.map_cons, List.map_nil, ↓reduceIte, Nat.reduceEqDiff, Nat.reduceAdd, Nat.reduceMul, reduceCtorEq, and_true, true_and, Nat.mul_one, Nat.zero_add, Bool.false_eq_true, decide_true, decide_false, not_false_eq_true, hf]
      refine iteV_dec (fun hlt => ?_) (fun hge => ?_)
      · have hlt : i < ps.length := by omega
        obtain ⟨mb, mo, mc, rfl, -, hmc⟩ := (hw.keep K3 (by simp)).cells (by intro e; have h := congrArg List.length e; rw [iL_len, List.length_nil] at h; omega)
        rw [iL_len] at hmc
        have hcm := hmc i (by rw [hl]; exact hlt)
        have him : i < m.length := by rw [hl]; exact hlt
        rw [iL_get _ _ him] at hcm
        have egi : m.getD i 0 = gi m i := by unfold gi; rw [List.getD_eq_getElem?_getD, List.getD_eq_getElem?_getD, List.getElem?_eq_getElem him]; rfl
        rw [egi] at hcm
        have next : ∀ (H4 : Hp) (O' : List Bool), O'.length = 256 → Bl H4 b (bL O') → CkTo ps m (i + 1) → (∀ j < 256, O'.getD j true = true ↔ ∃ a < i + 1, gi m a = (j : Int)) → Keep (fun _ => False) H H4 →
            ∃ n', n' < ps.length - i ∧ ∃ (i' : Nat) (O : List Bool), i' ≤ ps.length ∧ n' = ps.length - i' ∧ (i + 1 : Nat) = i' ∧ O.length = 256 ∧ Bl H4 b (bL O) ∧ CkTo ps m i' ∧ (∀ j < 256, O.getD j true = true ↔ ∃ a < i', gi m a = (j : Int)) ∧ Keep (fun _ => False) H H4 :=
          fun H4 O' a1 a2 a3 a4 a5 => ⟨ps.length - (i + 1), by omega, i + 1, O', by omega, rfl, rfl, a1, a2, a3, a4, a5⟩
        by_cases h1 : gi m i = -1
        · obtain ⟨n', a1, i', O', a2, a3, a4, a5⟩ := next H3 O hOl hO (hck.skip h1) (fun j hj => (hOi j hj).trans ⟨fun ⟨a, ha, e⟩ => ⟨a, by omega, e⟩, fun ⟨a, ha, e⟩ => ⟨a, by
            by_cases e2 : a = i
            · subst e2; omega
            · omega, e⟩⟩) K3
          have e3 : ((-1 : Int) == -1) = true := rfl
          rw [h1] at hcm
          simp (disch := omega) only [go_sem, List.map_cons, List.map_nil, ↓reduceIte, Nat.reduceEqDiff, Nat.reduceAdd, Nat.reduceMul, reduceCtorEq, and_true, true_and, Nat.mul_one, Nat.zero_add, Bool.false_eq_true, decide_true, decide_false, not_false_eq_true, kont_eq, hf, tn_cast, Nat.mul_one, iL_len, hl, hcm, e3, IntWalk.i64_in]
          exact ⟨by omega, n', a1, i', O', a2, a3, by rw [← a4]; simp, a5⟩
        · have e3 : (gi m i == -1) = false := by simpa using h1
          obtain ⟨gvs, hG⟩ := hv.keep0 K3
          have hgi := hG.at_ i hlt
          obtain ⟨eb, eo, ec, rfl, hld, hcell⟩ := hG.elt hlt
          simp only [go_sem, List.map_cons, List.map_nil, ↓reduceIte, Nat.reduceEqDiff, Nat.reduceAdd, Nat.reduceMul, reduceCtorEq, and_true, true_and, Nat.mul_one, Nat.zero_add, Bool.false_eq_true, decide_true, decide_false, not_false_eq_true, hf, tn_cast, Nat.mul_one, iL_len, hl, hcm, e3, hld, ldNO_ptr]
          refine ⟨by omega, by omega, ?_⟩
          refine (hh _ _ (gi m i) H3 hgi).mono ?_
          rintro r H4 ⟨rfl, K4⟩
          have s4 := K4.size
          rw [kont_eq]
          cases hmem : memI (ps.getD i fun _ => false) (gi m i) with
          | false =>
            simp only [go_sem, List.map_cons, List.map_nil, ↓reduceIte, Nat.reduceEqDiff, Nat.reduceAdd, Nat.reduceMul, reduceCtorEq, and_true, true_and, Nat.mul_one, Nat.zero_add, Bool.false_eq_true, decide_true, decide_false, not_false_eq_true, kont_eq]
            refine ⟨⟨false, rfl, ⟨fun h => (by cases h), fun h => ?_⟩⟩, K3.trans K4⟩
            rcases h.2.2.1 i (by rw [hl]; exact hlt) with h | h
            · exact absurd h h1
            · rw [hmem] at h; cases h
          | true =>
            obtain ⟨⟨h2, h3⟩, h4⟩ : (0 ≤ gi m i ∧ gi m i ≤ 4095) ∧ (ps.getD i fun _ => false) (gi m i).toNat = true := by
              unfold memI at hmem; simpa [Bool.and_eq_true, decide_eq_true_eq] using hmem
            have hj : (gi m i).toNat < 256 := c2 i _ (by rw [getD_mems ps i hlt]; exact mem_mems.2 ⟨by omega, h4⟩)
            obtain ⟨j, hje⟩ : ∃ j : Nat, gi m i = (j : Int) := ⟨(gi m i).toNat, by omega⟩
            have hj : j < 256 := by omega
            have hO4 := K4.bl hO (by simp)
            have cO : cell H4 ⟨b, j, none⟩ = some (.bool (O.getD j true)) := by
              have hal : j < O.length := by omega
              rw [hO4.cell, bL_get _ _ hal, List.getD_eq_getElem?_getD, List.getD_eq_getElem?_getD, List.getElem?_eq_getElem hal]; rfl
            rw [hje]
            cases hoj : O.getD j true with
            | true =>
              rw [hoj] at cO
              simp only [go_sem, List.map_cons, List.map_nil, ↓reduceIte, Nat.reduceEqDiff, Nat.reduceAdd, Nat.reduceMul, reduceCtorEq, and_true, true_and, Nat.mul_one, Nat.zero_add, Bool.false_eq_true, decide_true, decide_false, not_false_eq_true, kont_eq, tn_cast, Nat.mul_one, cO]
              obtain ⟨a, ha, e⟩ := (hOi j hj).1 hoj
              exact ⟨by omega, ⟨⟨false, rfl, ⟨fun h => (by cases h), fun h => by
                have := h.2.2.2 a (by rw [hl]; omega) i (by rw [hl]; exact hlt) (by rw [e, hje]) (by omega)
                omega⟩⟩, K3.trans K4⟩⟩
            | false =>
              rw [hoj] at cO
              have hst := hO4.okSt (o := j) (by rw [bL_len, hOl]; exact hj)
              have hO5 := hO4.setc j (.bool true)
              rw [bL_set] at hO5
              have K5 : Keep (fun k => k = b) H4 (setc H4 ⟨b, j, none⟩ (.bool true)) := (Keep.refl _ _).setc _ (.inl rfl)
              obtain ⟨n', a1, i', O', a2, a3, a4, a5⟩ := next (setc H4 ⟨b, j, none⟩ (.bool true)) (O.set j true) (by simp [hOl]) hO5 (hck.push hmem (fun a ha e => by
                  have := (hOi j hj).2 ⟨a, ha, by rw [e, hje]⟩
                  rw [hoj] at this; cases this)) (fun j' hj' => by
                    have hgs := gb_set O j true j'
                    unfold gb' at hgs
                    rw [hgs]
                    by_cases e : j' = j
                    · subst e
                      rw [if_pos ⟨rfl, by omega⟩]
                      exact ⟨fun _ => ⟨i, by omega, hje⟩, fun _ => rfl⟩
                    · rw [if_neg (fun h => e h.1), hOi j' hj']
                      exact ⟨fun ⟨a, ha, e'⟩ => ⟨a, by omega, e'⟩, fun ⟨a, ha, e'⟩ => ⟨a, by
                        by_cases e2 : a = i
                        · subst e2; omega
                        · omega, e'⟩⟩) ((K3.trans K4).to_old K5 (by omega))
              simp (disch := omega) only [go_sem, List.map_cons, List.map_nil, ↓reduceIte, Nat.reduceEqDiff, Nat.reduceAdd, Nat.reduceMul, reduceCtorEq, and_true, true_and, Nat.mul_one, Nat.zero_add, Bool.false_eq_true, decide_true, decide_false, not_false_eq_true, kont_eq, hf, tn_cast, Nat.mul_one, cO, hst, IntWalk.i64_in]
              exact ⟨by omega, by omega, n', a1, i', O', a2, a3, by rw [← a4]; simp, a5⟩
      · have hil : i = ps.length := by omega
        subst hil
        exact ⟨⟨true, rfl, ⟨fun _ => ⟨h0, hl, by rw [hl]; exact hck⟩, fun _ => rfl⟩⟩, K3⟩
    · have e1 : ((m.length : Int) != (ps.length : Int)) = true := by
        rw [bne_iff_ne]; omega
      rw [kont_eq]
      simp only [go_sem, List.map_cons, List.map_nil, ↓reduceIte, Nat.reduceEqDiff, Nat.reduceAdd, Nat.reduceMul, reduceCtorEq, and_true, true_and, Nat.mul_one, Nat.zero_add, Bool.false_eq_true, decide_true, decide_false, not_false_eq_true, kont_eq, h0, e0, hw.isSl, hw.len, iL_len, hvs, e1]
      exact ⟨⟨false, rfl, by simp [CkP, hl]⟩, K1⟩
  · have e0 : (chkF ps != 0) = true := by simpa using h0
    simp only [go_sem, List.map_cons, List.map_nil, ↓reduceIte, Nat.reduceEqDiff, Nat.reduceAdd, Nat.reduceMul, reduceCtorEq, and_true, true_and, Nat.mul_one, Nat.zero_add, Bool.false_eq_true, decide_true, decide_false, not_false_eq_true, kont_eq, e0]
    exact ⟨⟨false, rfl, by simp [CkP, h0]⟩, K1⟩
end Go.Mg

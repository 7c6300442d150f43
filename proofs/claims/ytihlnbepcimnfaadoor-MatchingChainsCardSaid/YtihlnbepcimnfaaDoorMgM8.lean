/- matching: Maximum, Size, the loose lefts. -/
import Derived.Test.YtihlnbepcimnfaaDoorMgM7
namespace Go.Mg
open Go Go.RowKit
set_option linter.unusedSimpArgs false
set_option linter.unusedVariables false
set_option maxRecDepth 100000
/- matching.Maximum -/
def c_mmax (ι : Ids) : S :=
  .seq (.reg [.p (.v 2) (.mv (.c (.slice .none 0 0))), .p (.v 3) (.mv (.c (.int .i64 0)))]) (.seq (.seq (.reg [.p (.t 6) (.mv (.v 0)), .e (.t 7) (.call (ι.f 144) [.t 6]), .p (.v 4) (.mv (.t 7))]) (.seq
  (.reg [.p (.t 8) (.mv (.v 4)), .p (.v 9) (.cm .neq .i64 (.t 8) (.c (.int .i64 0)))]) (.ite (.v 9) (.seq (.reg [.p (.t 10) (.mv (.v 4)), .p (.v 2) (.mv (.c (.slice .none 0 0))), .p (.v 3) (.mv (.t
  10))]) .ret) .skip))) (.seq (.reg [.p (.t 11) (.mv (.v 0)), .e (.t 12) (.call (ι.f 146) [.t 11]), .p (.v 5) (.mv (.t 12))]) (.seq (.reg [.p (.t 13) (.mv (.v 5)), .e (.t 14) (.call (ι.f 148) [.t 13])])
  (.seq (.reg [.p (.t 15) (.mv (.v 5)), .p (.t 16) (.nil (.t 15)), .p (.t 17) (.fa 1 (.t 16)), .p (.t 18) (.ld (.t 17)), .p (.v 2) (.mv (.t 18)), .p (.v 3) (.mv (.c (.int .i64 0)))]) .ret))))
def r_mmax : List RV := [.t 2, .t 3]
/- matching.Size -/
def c_msize (ι : Ids) : S :=
  .seq (.reg [.p (.v 2) (.mv (.c (.int .i64 0))), .p (.v 3) (.mv (.c (.int .i64 0)))]) (.seq (.reg [.p (.t 10) (.mv (.v 0)), .e (.t 11) (.call (ι.f 149) [.t 10]), .p (.t 9) (.mv (.t 11)), .p (.t 12)
  (.ext (.t 9) 0), .p (.t 13) (.ext (.t 9) 1), .p (.v 4) (.mv (.t 12)), .p (.v 5) (.mv (.t 13))]) (.seq (.reg [.p (.v 6) (.mv (.c (.int .i64 0)))]) (.seq (.seq (.reg [.p (.v 14) (.mv (.v 4)), .p (.v 15)
  (.m (.lenl (.v 14))), .p (.v 16) (.mv (.c (.int .i64 0)))]) (.blk 0 (.loop (.seq (.reg [.p (.v 17) (.cm .lss .i64 (.v 16) (.v 15))]) (.seq (.ite (.v 17) .skip (.exit 0)) (.seq (.blk 1 (.seq (.reg [.p
  (.t 18) (.is 1 (.v 14) (.v 16)), .p (.t 19) (.ld (.t 18)), .p (.v 8) (.mv (.t 19))]) (.seq (.reg [.p (.t 20) (.mv (.v 8)), .p (.v 21) (.cm .geq .i64 (.t 20) (.c (.int .i64 0)))]) (.ite (.v 21) (.reg
  [.p (.t 22) (.mv (.v 6)), .p (.t 23) (.ar .add .i64 (.t 22) (.c (.int .i64 1))), .p (.v 6) (.mv (.t 23))]) .skip)))) (.reg [.p (.t 24) (.ar .add .i64 (.v 16) (.c (.int .i64 1))), .p (.v 16) (.mv (.t
  24))]))))))) (.seq (.reg [.p (.t 25) (.mv (.v 6)), .p (.t 26) (.mv (.v 5)), .p (.v 2) (.mv (.t 25)), .p (.v 3) (.mv (.t 26))]) .ret))))
def r_msize : List RV := [.t 2, .t 3]
/- matching.loose -/
def c_mloose (ι : Ids) : S :=
  .seq (.reg [.p (.v 2) (.mv (.c (.slice .none 0 0)))]) (.seq (.reg [.p (.t 11) (.mv (.v 0)), .p (.t 12) (.nil (.t 11)), .p (.t 13) (.fa 0 (.t 12)), .p (.t 14) (.ld (.t 13)), .p (.t 15) (.m (.lenl (.t
  14))), .e (.t 16) (.mkS (ι.t 151) 1 1 #[.bool false] (.t 15) (.t 15)), .p (.v 3) (.mv (.t 16))]) (.seq (.reg [.p (.v 4) (.mv (.c (.slice .none 0 0)))]) (.seq (.seq (.reg [.p (.t 17) (.mv (.v 0)), .p
  (.t 18) (.nil (.t 17)), .p (.t 19) (.fa 1 (.t 18)), .p (.v 20) (.ld (.t 19)), .p (.v 21) (.m (.lenl (.v 20))), .p (.v 22) (.mv (.c (.int .i64 0)))]) (.blk 0 (.loop (.seq (.reg [.p (.v 23) (.cm .lss
  .i64 (.v 22) (.v 21))]) (.seq (.ite (.v 23) .skip (.exit 0)) (.seq (.blk 1 (.seq (.reg [.p (.t 24) (.mv (.v 22)), .p (.t 25) (.is 1 (.v 20) (.v 22)), .p (.t 26) (.ld (.t 25)), .p (.v 5) (.mv (.t 24)),
  .p (.v 6) (.mv (.t 26))]) (.seq (.reg [.p (.t 27) (.mv (.v 6)), .p (.v 28) (.cm .lss .i64 (.t 27) (.c (.int .i64 0)))]) (.ite (.v 28) (.seq (.reg [.p (.t 29) (.mv (.v 3)), .p (.t 30) (.mv (.v 5)), .p
  (.t 31) (.is 1 (.t 29) (.t 30)), .e .no (.st (.t 31) (.c (.bool true)))]) (.reg [.p (.t 32) (.mv (.v 4)), .p (.t 33) (.mv (.v 5)), .e (.t 34) (.bldF (ι.t 26) 1 1 [.t 33]), .e (.t 35) (.app false (ι.t
  26) 1 8 #[.int .i64 0] (.t 32) (.t 34)), .p (.v 4) (.mv (.t 35))])) .skip)))) (.reg [.p (.t 36) (.ar .add .i64 (.v 22) (.c (.int .i64 1))), .p (.v 22) (.mv (.t 36))]))))))) (.seq (.blk 2 (.loop (.seq
  (.seq (.reg [.p (.t 37) (.mv (.v 4)), .p (.t 38) (.m (.lenl (.t 37))), .p (.v 39) (.cm .gtr .i64 (.t 38) (.c (.int .i64 0)))]) (.ite (.v 39) .skip (.exit 2))) (.blk 3 (.seq (.reg [.p (.t 40) (.mv (.v
  4)), .p (.t 41) (.is 1 (.t 40) (.c (.int .i64 0))), .p (.t 42) (.ld (.t 41)), .p (.v 7) (.mv (.t 42))]) (.seq (.reg [.p (.t 43) (.mv (.v 4)), .p (.t 44) (.m (.sls 1 (.t 43) (.some (.c (.int .i64 1)))
  .none)), .p (.v 4) (.mv (.t 44))]) (.seq (.reg [.p (.t 45) (.mv (.v 0)), .p (.t 46) (.nil (.t 45)), .p (.t 47) (.fa 0 (.t 46)), .p (.t 48) (.ld (.t 47)), .p (.t 49) (.mv (.v 7)), .p (.t 50) (.is 1 (.t
  48) (.t 49)), .p (.v 51) (.ld (.t 50)), .p (.v 52) (.m (.lenl (.v 51))), .p (.v 53) (.mv (.c (.int .i64 0)))]) (.blk 4 (.loop (.seq (.reg [.p (.v 54) (.cm .lss .i64 (.v 53) (.v 52))]) (.seq (.ite (.v
  54) .skip (.exit 4)) (.seq (.blk 5 (.seq (.reg [.p (.t 55) (.is 1 (.v 51) (.v 53)), .p (.t 56) (.ld (.t 55)), .p (.v 9) (.mv (.t 56))]) (.seq (.reg [.p (.t 57) (.mv (.v 0)), .p (.t 58) (.mv (.v 9)),
  .p (.t 59) (.nil (.t 57)), .p (.t 60) (.fa 2 (.t 59)), .p (.t 61) (.ia 256 1 (.t 60) (.t 58)), .p (.t 62) (.ld (.t 61)), .p (.v 10) (.mv (.t 62))]) (.seq (.reg [.p (.t 63) (.mv (.v 10)), .p (.t 64)
  (.cm .geq .i64 (.t 63) (.c (.int .i64 0))), .p (.t 65) (.mv (.t 64)), .gp (.t 66) (.t 65) true (.mv (.v 3)), .gp (.t 67) (.t 65) true (.mv (.v 10)), .gp (.t 68) (.t 65) true (.is 1 (.t 66) (.t 67)),
  .gp (.t 69) (.t 65) true (.ld (.t 68)), .gp (.t 70) (.t 65) true (.not (.t 69)), .p (.v 71) (.pick (.t 65) (.t 70) (.c (.bool false)))]) (.ite (.v 71) (.seq (.reg [.p (.t 72) (.mv (.v 3)), .p (.t 73)
  (.mv (.v 10)), .p (.t 74) (.is 1 (.t 72) (.t 73)), .e .no (.st (.t 74) (.c (.bool true)))]) (.reg [.p (.t 75) (.mv (.v 4)), .p (.t 76) (.mv (.v 10)), .e (.t 77) (.bldF (ι.t 26) 1 1 [.t 76]), .e (.t
  78) (.app false (ι.t 26) 1 8 #[.int .i64 0] (.t 75) (.t 77)), .p (.v 4) (.mv (.t 78))])) .skip))))) (.reg [.p (.t 79) (.ar .add .i64 (.v 53) (.c (.int .i64 1))), .p (.v 53) (.mv (.t 79))])))))))))))))
  (.seq (.reg [.p (.t 80) (.mv (.v 3)), .p (.v 2) (.mv (.t 80))]) .ret)))))
def r_mloose : List RV := [.t 2]

theorem chk_ok {ps : List (Nat → Bool)} (h : chkF ps = 0) : ps.length ≤ 256 ∧ (∀ i, ∀ j ∈ (ps.map mems).getD i [], j < 256) ∧ ∀ i, ((ps.map mems).getD i []).length ≤ 4096 := by
  unfold chkF at h
  split at h
  · omega
  · rename_i h1
    split at h
    · omega
    · rename_i h2
      refine ⟨by omega, fun i j hj => ?_, fun i => ?_⟩
      · by_cases hi : i < ps.length
        · rw [getD_mems ps i hi] at hj
          apply Decidable.byContradiction
          intro hn
          apply h2
          obtain ⟨h3, h4⟩ := mem_mems.1 hj
          refine wide_iff.2 ⟨_, ?_, j, h3, h4, by omega⟩
          rw [List.getD_eq_getElem?_getD, List.getElem?_eq_getElem hi]
          exact List.getElem_mem _
        · rw [List.getD_eq_getElem?_getD, List.getElem?_eq_none (by simp; omega)] at hj
          cases hj
      · by_cases hi : i < ps.length
        · rw [getD_mems ps i hi, mems_length]; exact cn_le _ _
        · rw [List.getD_eq_getElem?_getD, List.getElem?_eq_none (by simp; omega)]; simp
/-- the lists of a graph's neighbours -/
def gl (ps : List (Nat → Bool)) : List (List Nat) := ps.map mems
theorem gl_len (ps : List (Nat → Bool)) : (gl ps).length = ps.length := by simp [gl]
def MMaxPost (ps : List (Nat → Bool)) (H : Hp) (r : Value) (H' : Hp) : Prop := ((chkF ps ≠ 0 ∧ r = .tuple #[.slice none 0 0, .int .i64 (chkF ps)]) ∨ ∃ bl L R, chkF ps = 0 ∧ r = .tuple #[.slice (some ⟨bl, 0, none⟩) ps.length ps.length, .int .i64 0] ∧ Bl H' bl (iL L) ∧ H.size ≤ bl ∧ MaxS ps.length 256 (Eg (gl ps)) ps.length L R) ∧ Keep (fun _ => False) H H'
def MMaxSpec (P : Program) (ι : Ids) (k : FuncId) : Prop := ∀ (ps : List (Nat → Bool)) (v : Value) (Z : Nat → Prop) (H : Hp), TabOk ι H → GrM H v ps Z → ps.length ≤ 100000 →
  CallsM P k #[v] H (MMaxPost ps H)
theorem mmax_ok {P : Program} {ι : Ids} {k : FuncId} (hk : FnIs P k (c_mmax ι) r_mmax 1) (hc : MCheckSpec P (ι.f 144)) (hb : BegSpec P ι (ι.f 146)) (hm : MaxiSpec P (ι.f 148)) : MMaxSpec P ι k := by
  intro ps v Z H hT hv hn
  refine calls_of_vc hk (args := [_]) (by simp) ?_
  unfold c_mmax r_mmax
  simp only [go_sem, List.map_cons, List.map_nil, ↓reduceIte, Nat.reduceEqDiff, Nat.reduceAdd, Nat.reduceMul, reduceCtorEq, and_true, true_and, Nat.mul_one, Nat.zero_add, Bool.false_eq_true, decide_true, decide_false, not_false_eq_true, kont_eq]
  refine (hc ps v Z H hv hn).mono ?_
  rintro r H1 ⟨rfl, K1⟩
  by_cases h0 : chkF ps = 0
  · obtain ⟨c1, c2, c3⟩ := chk_ok h0
    have e0 : ((0 : Int) != 0) = false := rfl
    simp only [go_sem, List.map_cons, List.map_nil, ↓reduceIte, Nat.reduceEqDiff, Nat.reduceAdd, Nat.reduceMul, reduceCtorEq, and_true, true_and, Nat.mul_one, Nat.zero_add, Bool.false_eq_true, decide_true, decide_false, not_false_eq_true, kont_eq, h0, e0]
    refine (hb ps v Z H1 (hT.keep K1) (hv.keep0 K1) hn).mono ?_
    rintro r H2 ⟨s, bl, gv, vs, Se, rfl, hS, K2, g1, g2⟩
    simp only [go_sem, List.map_cons, List.map_nil, ↓reduceIte, Nat.reduceEqDiff, Nat.reduceAdd, Nat.reduceMul, reduceCtorEq, and_true, true_and, Nat.mul_one, Nat.zero_add, Bool.false_eq_true, decide_true, decide_false, not_false_eq_true, kont_eq]
    refine (hm H2 s bl gv vs (ps.map mems) _ _ hS c2 c3 (by simpa using c1) (by simp) rfl).mono ?_
    rintro r H3 ⟨L, R, Se', hS3, hM, K3⟩
    have s1 := K1.size
    have cl : cell H3 ⟨s, 1, none⟩ = some (.slice (some ⟨bl, 0, none⟩) ps.length ps.length) := by rw [hS3.S.cell, hS3.lL]; simp [srL]
    simp only [go_sem, List.map_cons, List.map_nil, ↓reduceIte, Nat.reduceEqDiff, Nat.reduceAdd, Nat.reduceMul, reduceCtorEq, and_true, true_and, Nat.mul_one, Nat.zero_add, Bool.false_eq_true, decide_true, decide_false, not_false_eq_true, kont_eq, cl]
    refine ⟨.inr ⟨bl, L, R, h0, rfl, hS3.L, by omega, by simpa [gl] using hM⟩, (K1.trans K2).trans' K3 (fun i hi h => by omega)⟩
  · have e0 : (chkF ps != 0) = true := by simpa using h0
    simp only [go_sem, List.map_cons, List.map_nil, ↓reduceIte, Nat.reduceEqDiff, Nat.reduceAdd, Nat.reduceMul, reduceCtorEq, and_true, true_and, Nat.mul_one, Nat.zero_add, Bool.false_eq_true, decide_true, decide_false, not_false_eq_true, kont_eq, e0]
    exact ⟨.inl ⟨h0, rfl⟩, K1⟩
/-- how many of the first i are matched -/
theorem cn_mt_succ (L : List Int) (i : Nat) : cn (i + 1) (mt (gi L)) = cn i (mt (gi L)) + if 0 ≤ gi L i then 1 else 0 := by
  rw [cn_succ]; congr 1; unfold mt; simp
def MSizePost (ps : List (Nat → Bool)) (H : Hp) (r : Value) (H' : Hp) : Prop := ((chkF ps ≠ 0 ∧ r = .tuple #[.int .i64 0, .int .i64 (chkF ps)]) ∨ ∃ L, chkF ps = 0 ∧ r = .tuple #[.int .i64 (cn ps.length (mt (gi L)) : Int), .int .i64 0] ∧ Mx ps.length 256 (Eg (gl ps)) (gi L)) ∧ Keep (fun _ => False) H H'
def MSizeSpec (P : Program) (ι : Ids) (k : FuncId) : Prop := ∀ (ps : List (Nat → Bool)) (v : Value) (Z : Nat → Prop) (H : Hp), TabOk ι H → GrM H v ps Z → ps.length ≤ 100000 →
  CallsM P k #[v] H (MSizePost ps H)
theorem msize_ok {P : Program} {ι : Ids} {k : FuncId} (hk : FnIs P k (c_msize ι) r_msize 1) (hm : MMaxSpec P ι (ι.f 149)) : MSizeSpec P ι k := by
  intro ps v Z H hT hv hn
  refine calls_of_vc hk (args := [_]) (by simp) ?_
  unfold c_msize r_msize
  simp only [go_sem, List.map_cons, List.map_nil, ↓reduceIte, Nat.reduceEqDiff, Nat.reduceAdd, Nat.reduceMul, reduceCtorEq, and_true, true_and, Nat.mul_one, Nat.zero_add, Bool.false_eq_true, decide_true, decide_false, not_false_eq_true, kont_eq]
  refine (hm ps v Z H hT hv hn).mono ?_
  rintro r H1 ⟨⟨h0, rfl⟩ | ⟨bl, L, R, h0, rfl, hB, hbl, hM⟩, K1⟩
  · simp only [go_sem, List.map_cons, List.map_nil, ↓reduceIte, Nat.reduceEqDiff, Nat.reduceAdd, Nat.reduceMul, reduceCtorEq, and_true, true_and, Nat.mul_one, Nat.zero_add, Bool.false_eq_true, decide_true, decide_false, not_false_eq_true, kont_eq]
    refine vc_loop [17, 8, 21, 6, 16] rfl (fun n f H' => f 16 = .int .i64 0 ∧ f 6 = .int .i64 0 ∧ H' = H1) 0 ⟨by simp only [go_sem, List.map_cons, List.map_nil, ↓reduceIte, Nat.reduceEqDiff, Nat.reduceAdd, Nat.reduceMul, reduceCtorEq, and_true, true_and, Nat.mul_one, Nat.zero_add, Bool.false_eq_true, decide_true, decide_false, not_false_eq_true, kont_eq], by simp only [go_sem, List.map_cons, List.map_nil, ↓reduceIte, Nat.reduceEqDiff, Nat.reduceAdd, Nat.reduceMul, reduceCtorEq, and_true, true_and, Nat.mul_one, Nat.zero_add, Bool.false_eq_true, decide_true, decide_false, not_false_eq_true, kont_eq], rfl⟩ ?_
    rintro n f H2 ⟨hf, hf6, rfl⟩
    simp only [go_sem, List.map_cons, List.map_nil, ↓reduceIte, Nat.reduceEqDiff, Nat.reduceAdd, Nat.reduceMul, reduceCtorEq, and_true, true_and, Nat.mul_one, Nat.zero_add, Bool.false_eq_true, decide_true, decide_false, not_false_eq_true, kont_eq] at hf hf6
    have e0 : decide ((0 : Int) < ((0 : Nat) : Int)) = false := rfl
    simp only [go_sem, List.map_cons, List.map_nil, ↓reduceIte, Nat.reduceEqDiff, Nat.reduceAdd, Nat.reduceMul, reduceCtorEq, and_true, true_and, Nat.mul_one, Nat.zero_add, Bool.false_eq_true, decide_true, decide_false, not_false_eq_true, kont_eq, hf, hf6, e0]
    exact ⟨.inl ⟨h0, rfl⟩, K1⟩
  · simp only [go_sem, List.map_cons, List.map_nil, ↓reduceIte, Nat.reduceEqDiff, Nat.reduceAdd, Nat.reduceMul, reduceCtorEq, and_true, true_and, Nat.mul_one, Nat.zero_add, Bool.false_eq_true, decide_true, decide_false, not_false_eq_true, kont_eq]
    refine vc_loop [17, 8, 21, 6, 16] rfl (fun n f H' => ∃ i : Nat, i ≤ ps.length ∧ n = ps.length - i ∧ f 16 = .int .i64 i ∧ f 6 = .int .i64 (cn i (mt (gi L)) : Int) ∧ H' = H1) ps.length
      ⟨0, by omega, by omega, by simp only [go_sem, List.map_cons, List.map_nil, ↓reduceIte, Nat.reduceEqDiff, Nat.reduceAdd, Nat.reduceMul, reduceCtorEq, and_true, true_and, Nat.mul_one, Nat.zero_add, Bool.false_eq_true, decide_true, decide_false, not_false_eq_true, kont_eq]; rfl, by simp only [go_sem, List.map_cons, List.map_nil, ↓reduceIte, Nat.reduceEqDiff, Nat.reduceAdd, Nat.reduceMul, reduceCtorEq, and_true, true_and, Nat.mul_one, Nat.zero_add, Bool.false_eq_true, decide_true, decide_false, not_false_eq_true, kont_eq]; rfl, rfl⟩ ?_
    rintro n f H2 ⟨i, hi, rfl, hf, hf6, rfl⟩
    simp only [go_sem, List.map_cons, List.map_nil, ↓reduceIte, Nat.reduceEqDiff, Nat.reduceAdd, Nat.reduceMul, reduceCtorEq, and_true, true_and, Nat.mul_one, Nat.zero_add, Bool.false_eq_true, decide_true, decide_false, not_false_eq_true, kont_eq] at hf hf6
    simp only [go_sem, List.map_cons, List.map_nil, ↓reduceIte, Nat.reduceEqDiff, Nat.reduceAdd, Nat.reduceMul, reduceCtorEq, and_true, true_and, Nat.mul_one, Nat.zero_add, Bool.false_eq_true, decide_true, decide_false, not_false_eq_true, kont_eq, hf, hf6]
    refine iteV_dec (fun hlt => ?_) (fun hge => ?_)
    · have hlt : i < ps.length := by omega
      have hc : cell H2 ⟨bl, i, none⟩ = some (.int .i64 (gi L i)) := by
        rw [hB.cell, iL_get _ _ (by rw [hM.lL]; exact hlt)]
        unfold gi
        simp [List.getD_eq_getElem?_getD, show i < L.length by rw [hM.lL]; exact hlt]
      have hle := cn_le i (mt (gi L))
      simp only [go_sem, List.map_cons, List.map_nil, ↓reduceIte, Nat.reduceEqDiff, Nat.reduceAdd, Nat.reduceMul, reduceCtorEq, and_true, true_and, Nat.mul_one, Nat.zero_add, Bool.false_eq_true, decide_true, decide_false, not_false_eq_true, kont_eq, tn_cast, Nat.mul_one, hc]
      refine ⟨by omega, ?_⟩
      refine iteV_dec (fun h => ?_) (fun h => ?_)
      · simp (disch := omega) only [go_sem, List.map_cons, List.map_nil, ↓reduceIte, Nat.reduceEqDiff, Nat.reduceAdd, Nat.reduceMul, reduceCtorEq, and_true, true_and, Nat.mul_one, Nat.zero_add, Bool.false_eq_true, decide_true, decide_false, not_false_eq_true, kont_eq, hf, hf6, IntWalk.i64_in]
        exact ⟨ps.length - (i + 1), by omega, i + 1, by omega, rfl, by simp, by rw [cn_mt_succ, if_pos h]; simp⟩
      · simp (disch := omega) only [go_sem, List.map_cons, List.map_nil, ↓reduceIte, Nat.reduceEqDiff, Nat.reduceAdd, Nat.reduceMul, reduceCtorEq, and_true, true_and, Nat.mul_one, Nat.zero_add, Bool.false_eq_true, decide_true, decide_false, not_false_eq_true, kont_eq, hf, hf6, IntWalk.i64_in]
        exact ⟨ps.length - (i + 1), by omega, i + 1, by omega, rfl, by simp, by rw [cn_mt_succ, if_neg h]; simp⟩
    · have : i = ps.length := by omega
      subst this
      exact ⟨.inr ⟨L, h0, rfl, hM.mx⟩, K1⟩
/-! ### slices that a function owns, from some place of their block on -/
def OwT (H : Hp) (v : Value) (l : List Value) : Prop :=
  (v = .slice none 0 0 ∧ l = []) ∨ ∃ b o c L, v = .slice (some ⟨b, o, none⟩) l.length c ∧ l.length ≤ c ∧ o + c ≤ L.length ∧ Bl H b L ∧ (L.drop o).take l.length = l
theorem OwS.toT {H : Hp} {v : Value} {l : List Value} (h : OwS H v l) : OwT H v l := by
  rcases h with h | ⟨b, c, L, h1, h2, h3, h4, h5⟩
  · exact .inl h
  · exact .inr ⟨b, 0, c, L, h1, h2, by omega, h4, by rw [List.drop_zero]; exact h5⟩
theorem OwT.keep {W : Nat → Prop} {H H' : Hp} {v : Value} {l : List Value} (h : OwT H v l) (hk : Keep W H H') (hw : ∀ k, ownB v k → ¬ W k) : OwT H' v l := by
  rcases h with h | ⟨b, o, c, L, rfl, h1, h2, hb, h3⟩
  · exact .inl h
  · exact .inr ⟨b, o, c, L, rfl, h1, h2, hk.bl hb (hw b rfl), h3⟩
theorem OwT.old {H : Hp} {v : Value} {l : List Value} (h : OwT H v l) {k : Nat} (hk : ownB v k) : k < H.size := by
  rcases h with ⟨rfl, rfl⟩ | ⟨b, o, c, L, rfl, h1, h2, hb, h3⟩
  · exact hk.elim
  · cases hk; exact hb.lt
theorem OwT.sl {H : Hp} {v : Value} {l : List Value} (h : OwT H v l) : SlR H v l := by
  rcases h with ⟨rfl, rfl⟩ | ⟨b, o, c, L, rfl, h1, h2, hb, h3⟩
  · exact SlR.nil _ _ _
  · have := SlR.bl hb o l.length c h1 (by omega)
    rw [h3] at this
    exact this
theorem OwT.shape {H : Hp} {v : Value} {l : List Value} (h : OwT H v l) : ∃ a n c, v = .slice a n c := by
  rcases h with ⟨rfl, _⟩ | ⟨b, o, c, L, rfl, _⟩ <;> exact ⟨_, _, _, rfl⟩
/-- the first one goes -/
theorem OwT.pop {H : Hp} {v x : Value} {l : List Value} (h : OwT H v (x :: l)) : ∃ b o c, v = .slice (some ⟨b, o, none⟩) (l.length + 1) c ∧ cell H ⟨b, o, none⟩ = some x ∧ 1 ≤ c ∧
    ∀ v', v' = .slice (some (if c = 1 then ⟨b, o, none⟩ else ⟨b, o + 1, none⟩)) l.length (c - 1) → OwT H v' l ∧ ∀ k, ownB v' k → ownB v k := by
  rcases h with ⟨_, h⟩ | ⟨b, o, c, L, rfl, h1, h2, hb, h3⟩
  · cases h
  · simp only [List.length_cons] at h1 h2 h3 ⊢
    have hoL : o < L.length := by omega
    rw [List.drop_eq_getElem_cons hoL, List.take_succ_cons] at h3
    injection h3 with h4 h5
    refine ⟨b, o, c, rfl, ?_, by omega, ?_⟩
    · rw [hb.cell, List.getElem?_eq_getElem hoL, h4]
    · rintro v' rfl
      by_cases hc : c = 1
      · have : l = [] := List.eq_nil_of_length_eq_zero (by omega)
        subst this
        rw [if_pos hc]
        exact ⟨.inr ⟨b, o, c - 1, L, rfl, by simp, by omega, hb, rfl⟩, fun k h => h⟩
      · rw [if_neg hc]
        exact ⟨.inr ⟨b, o + 1, c - 1, L, rfl, by omega, by omega, hb, h5⟩, fun k h => h⟩
theorem app_T {T : TypeId} {bytes : Nat} {z : Array Value} {s x : Value} {H : Hp} {K : Value → Hp → Prop} {l m : List Value} (hs : OwT H s l) (hx : SlR H x m)
    (hm : all1 m.toArray) (hz : z.size = 1) (h1 : l.length + m.length ≤ maxLen) (h2 : (l.length + m.length) * bytes ≤ 140737488355328)
    (hK : ∀ v' H', OwT H' v' (l ++ m) → Keep (ownB s) H H' → (∀ k, ownB v' k → ownB s k ∨ H.size ≤ k) → K v' H') : AppC false T 1 bytes z s x H K := by
  have hsl := hs.sl
  have hlen := hsl.len
  have hxl := hx.lenS
  have hxs : srcN H x m.length = some m.toArray := by have := hx.srcN (Nat.le_refl m.length); rwa [List.take_length] at this
  refine ⟨⟨hsl.isSl, hx.isSl, by rw [hlen, hxl]; exact h1, by rw [hlen, hxl]; exact h2⟩, m.toArray, by rw [Nat.mul_one, hxl]; exact hxs, ?_⟩
  rw [hlen, hxl, Nat.mul_one]
  rcases hs with ⟨rfl, rfl⟩ | ⟨b, o, c, L, rfl, g1, g2, hb, g3⟩
  · refine ⟨fun hle => ?_, fun _ => ⟨#[], rfl, fun c hc => ?_⟩⟩
    · have : m = [] := by
        have : ([] : List Value).length + m.length ≤ 0 := hle
        apply List.eq_nil_of_length_eq_zero; simpa using this
      subst this
      exact ⟨trivial, hK _ _ (.inl ⟨rfl, rfl⟩) (Keep.refl _ _) (fun k h => .inl h)⟩
    · have hB := Bl.new' H (#[] ++ m.toArray ++ rep z ((c - (([] : List Value).length + m.length)) * z.size)) T
      refine hK _ _ (OwS.bl hB (by simp) (by simpa using hc) ?_ ?_).toT ((Keep.refl _ _).push _) (fun k h => .inr (Nat.le_of_eq h.symm))
      · simp [rep, hz] at hc ⊢; omega
      · simp
  · refine ⟨fun hle => ?_, fun hlt => ⟨_, hsl.srcN (Nat.le_refl _), fun c' hc => ?_⟩⟩
    · have hle : l.length + m.length ≤ c := hle
      refine ⟨hb.okPut _ _ _ hm (by simp; omega), ?_⟩
      have hB := hb.put o l.length m.toArray
      refine hK _ _ (.inr ⟨b, o, c, wrL L (o + l.length) m.toArray.toList, by rw [List.length_append]; rfl, by simpa using hle, ?_, hB, ?_⟩) ((Keep.refl _ _).put rfl _ _ (.inl rfl)) (fun k h => .inl h)
      · rw [wrL_len (by simp; omega)]; exact g2
      · unfold wrL
        have e1 : (L.take (o + l.length)).drop o = l := by rw [List.drop_take, Nat.add_sub_cancel_left]; exact g3
        have e2 : (L.take (o + l.length)).length = o + l.length := by rw [List.length_take]; omega
        rw [List.append_assoc, List.drop_append_of_le_length (by omega), e1, ← List.append_assoc, List.length_append]
        exact take_pre _ _ _
    · rw [List.take_length]
      have hB := Bl.new' H (l.toArray ++ m.toArray ++ rep z ((c' - (l.length + m.length)) * z.size)) T
      refine hK _ _ (OwS.bl hB (by simp) hc ?_ ?_).toT ((Keep.refl _ _).push _) (fun k h => .inr (Nat.le_of_eq h.symm))
      · simp [rep, hz]; omega
      · rw [Array.toList_append, Array.toList_append]; exact take_pre _ _ _
/-! ### loose -/
def LooseSpec (P : Program) (k : FuncId) : Prop := ∀ (H : Hp) (s bl : Nat) (gv : Value) (vs : List Value) (g : List (List Nat)) (Z : Nat → Prop) (st : Sst) (F : List Bool), SrH H s bl gv vs g Z st F → (∀ i, ∀ j ∈ g.getD i [], j < 256) → (∀ i, (g.getD i []).length ≤ 4096) → g.length ≤ 256 →
  Inv g.length 256 (Eg g) (gi st.L) (gi st.R) →
  CallsM P k #[.pointer (some ⟨s, 0, none⟩)] H fun r H' => ∃ b O D, r = .slice (some ⟨b, 0, none⟩) g.length g.length ∧ Bl H' b (bL O) ∧ H.size ≤ b ∧ O.length = g.length ∧ Loose g.length 256 (Eg g) (gi st.L) D ∧ (∀ i < g.length, O.getD i true = decide (i ∈ D)) ∧ Keep (fun _ => False) H H'
theorem mloose_ok {P : Program} {ι : Ids} {k : FuncId} (hk : FnIs P k (c_mloose ι) r_mloose 1) : LooseSpec P k := by
  intro H s bl gv vs g Z st F hS hg hgl hgn hI
  refine calls_of_vc hk (args := [_]) (by simp) ?_
  unfold c_mloose r_mloose
  have hc0 : cell H ⟨s, 0, none⟩ = some gv := by rw [hS.S.cell]; rfl
  have hc1 : cell H ⟨s, 1, none⟩ = some (.slice (some ⟨bl, 0, none⟩) g.length g.length) := by rw [hS.S.cell, hS.lL]; rfl
  simp only [go_sem, List.map_cons, List.map_nil, ↓reduceIte, Nat.reduceEqDiff, Nat.reduceAdd, Nat.reduceMul, reduceCtorEq, and_true, true_and, Nat.mul_one, Nat.zero_add, Bool.false_eq_true, decide_true, decide_false, not_false_eq_true, hc0, hS.sl.isSl, hS.sl.len, hS.len, tn_cast]
  refine ⟨⟨by omega, by omega, by unfold maxLen; omega⟩, ?_⟩
  refine kont_news fun H1 b e1 z1 B1 K1 => ?_
  have B1 : Bl H1 b (bL (List.replicate g.length false)) := by
    have := B1
    rw [rep_one, bL_rep] at this; exact this
  have s1 := K1.size
  have hsz : s < H.size := hS.S.lt
  have hblz : bl < H.size := hS.L.lt
  have hc1' : cell H1 ⟨s, 1, none⟩ = some (.slice (some ⟨bl, 0, none⟩) g.length g.length) := by rw [(K1.bl hS.S (by simp)).cell, hS.lL]; rfl
  simp only [go_sem, List.map_cons, List.map_nil, ↓reduceIte, Nat.reduceEqDiff, Nat.reduceAdd, Nat.reduceMul, reduceCtorEq, and_true, true_and, Nat.mul_one, Nat.zero_add, Bool.false_eq_true, decide_true, decide_false, not_false_eq_true, kont_eq, hc1']
  -- what the search needs to know of the state
  have mark : ∀ {D Q : List Nat} {O : List Bool} {a : Nat} {H5 : Hp}, True := fun {_ _ _ _ _} => trivial
  refine vc_mono ?_ ?_ (Q := fun e f H' => e = .x 0 ∧ f 0 = .pointer (some ⟨s, 0, none⟩) ∧ f 3 = .slice (some ⟨b, 0, none⟩) g.length g.length ∧ ∃ (qv : Value) (O : List Bool) (Q : List Nat), f 4 = qv ∧ OwT H' qv (iL (nI Q)) ∧ (∀ k, ownB qv k → H.size ≤ k ∧ k ≠ b) ∧ Bl H' b (bL O) ∧ LooI g.length 256 (Eg g) (gi st.L) O [] Q ∧ (∀ i < g.length, gi st.L i = -1 → i ∈ Q) ∧ Q.length ≤ 256 ∧ Keep (fun _ => False) H H')
  · rintro e f H2 ⟨rfl, hf0, hf3, qv, O, Q, hf4, hQ, hqo, hO, hLI, hun, hQ256, K2⟩
    simp only [go_sem, List.map_cons, List.map_nil, ↓reduceIte, Nat.reduceEqDiff, Nat.reduceAdd, Nat.reduceMul, reduceCtorEq, and_true, true_and, Nat.mul_one, Nat.zero_add, Bool.false_eq_true, decide_true, decide_false, not_false_eq_true]
    refine vc_mono ?_ ?_ (Q := fun e f H' => e = .x 2 ∧ f 3 = .slice (some ⟨b, 0, none⟩) g.length g.length ∧ ∃ (O : List Bool) (D : List Nat), Bl H' b (bL O) ∧ LooI g.length 256 (Eg g) (gi st.L) O D [] ∧ (∀ i < g.length, gi st.L i = -1 → i ∈ D) ∧ Keep (fun _ => False) H H')
    · rintro e f H3 ⟨rfl, hf3, O, D, hO, hLI, hun, K3⟩
      simp only [go_sem, List.map_cons, List.map_nil, ↓reduceIte, Nat.reduceEqDiff, Nat.reduceAdd, Nat.reduceMul, reduceCtorEq, and_true, true_and, Nat.mul_one, Nat.zero_add, Bool.false_eq_true, decide_true, decide_false, not_false_eq_true, kont_eq, hf3]
      obtain ⟨hL, hO2⟩ := hLI.done hun
      exact ⟨b, O, D, rfl, hO, by omega, hLI.len, hL, hO2, K3⟩
    · refine vc_loop [39, 7, 54, 9, 10, 71, 4, 51, 52, 53] rfl (fun n f H' => ∃ (qv : Value) (O : List Bool) (D Q : List Nat), n = uns O + Q.length ∧ uns O + Q.length ≤ 512 ∧ f 4 = qv ∧ OwT H' qv (iL (nI Q)) ∧ (∀ k, ownB qv k → H.size ≤ k ∧ k ≠ b) ∧ Bl H' b (bL O) ∧ LooI g.length 256 (Eg g) (gi st.L) O D Q ∧ (∀ i < g.length, gi st.L i = -1 → i ∈ Q.reverse ++ D) ∧ Keep (fun _ => False) H H') (uns O + Q.length)
        ⟨qv, O, [], Q, rfl, by have := cn_le O.length (fun j => !gb' O j); have := hLI.len; unfold uns; omega, hf4, hQ, hqo, hO, hLI, fun i hi e => by simpa using hun i hi e, K2⟩ ?_
      rintro n f3 H3 ⟨qv, O, D, Q, rfl, h512, hf4, hQ, hqo, hO, hLI, hun, K3⟩
      simp only [go_sem, List.map_cons, List.map_nil, ↓reduceIte, Nat.reduceEqDiff, Nat.reduceAdd, Nat.reduceMul, reduceCtorEq, and_true, true_and, Nat.mul_one, Nat.zero_add, Bool.false_eq_true, decide_true, decide_false, not_false_eq_true, kont_eq] at hf4
      cases Q with
      | nil =>
        obtain ⟨qa, qn, qc, rfl⟩ := hQ.shape
        have hql := hQ.sl.len
        have e0 : decide ((((0 : Nat)) : Int) > 0) = false := rfl
        have hqn : qn = 0 := hql
        subst hqn
        simp only [go_sem, List.map_cons, List.map_nil, ↓reduceIte, Nat.reduceEqDiff, Nat.reduceAdd, Nat.reduceMul, reduceCtorEq, and_true, true_and, Nat.mul_one, Nat.zero_add, Bool.false_eq_true, decide_true, decide_false, not_false_eq_true, kont_eq, hf4, e0, hf3]
        exact ⟨O, D, hO, hLI, by simpa using hun, K3⟩
      | cons i Q =>
        have hqe : iL (nI (i :: Q)) = .int .i64 (i : Int) :: iL (nI Q) := rfl
        rw [hqe] at hQ
        rw [List.length_cons] at h512
        obtain ⟨qb, qo, qc, rfl, hq0, hqc, hpop⟩ := hQ.pop
        rw [iL_len, nI_len] at hpop hf4
        have e0 : decide (((Q.length + 1 : Nat) : Int) > 0) = true := decide_eq_true (by omega)
        have hig : i < g.length := by
          have := hLI.gr.lt i (by simp)
          exact this
        have hc0' : cell H3 ⟨s, 0, none⟩ = some gv := by rw [(K3.bl hS.S (by simp)).cell]; rfl
        obtain ⟨gb, go, gc, rfl, -, hgc⟩ := (hS.sl.keep K3 (by simp)).cells (by intro e; have := hS.len; rw [e, List.length_nil] at this; omega)
        have hvl := hS.len
        have hgi := hgc i (by rw [hvl]; exact hig)
        have hvi : vs[i]? = some (vs.getD i undef) := by rw [List.getD_eq_getElem?_getD, List.getElem?_eq_getElem (by rw [hvl]; exact hig)]; rfl
        rw [hvi] at hgi
        have hA := (hS.at_ i hig).keep K3 (by simp)
        have hA0 := hS.at_ i hig
        generalize vs.getD i undef = u at hgi hA hA0
        have hil : (g.getD i []).length ≤ 4096 := hgl i
        have hlg : ∀ j ∈ g.getD i [], j < 256 := hg i
        have hE : ∀ j, Eg g i j ↔ j ∈ g.getD i [] := fun j => Iff.rfl
        generalize g.getD i [] = l at hA hA0 hil hlg hE
        have hvn : i < vs.length := by rw [hvl]; exact hig
        have hll : lenV u = l.length := by rw [hA.len, iL_len, nI_len]
        simp only [go_sem, List.map_cons, List.map_nil, ↓reduceIte, Nat.reduceEqDiff, Nat.reduceAdd, Nat.reduceMul, reduceCtorEq, and_true, true_and, Nat.mul_one, Nat.zero_add, Bool.false_eq_true, decide_true, decide_false, not_false_eq_true, hf0, hf4, e0, hq0, hc0', hgi, tn_cast, Nat.mul_one, hA.isSl, hll, Nat.add_sub_cancel]
        refine ⟨by omega, by omega, by omega, ?_⟩
        obtain ⟨hQ2, hQo2⟩ := hpop _ rfl
        have ep : (if qc = 1 then some (⟨qb, qo, none⟩ : Addr) else some ⟨qb, qo + 1, none⟩) = some (if qc = 1 then ⟨qb, qo, none⟩ else ⟨qb, qo + 1, none⟩) := by split <;> rfl
        rw [ep]
        generalize hqv2 : Value.slice (some (if qc = 1 then (⟨qb, qo, none⟩ : Addr) else ⟨qb, qo + 1, none⟩)) Q.length (qc - 1) = qv2 at hQ2 hQo2 ⊢
        have hqo2 : ∀ k, ownB qv2 k → H.size ≤ k ∧ k ≠ b := fun k hk => hqo k (hQo2 k hk)
        refine vc_loop [54, 9, 10, 71, 4, 53] rfl (fun n f H' => ∃ (q : Nat) (qv' : Value) (O' : List Bool) (Q' : List Nat), q ≤ l.length ∧ n = l.length - q ∧ f 53 = .int .i64 q ∧ f 4 = qv' ∧ OwT H' qv' (iL (nI Q')) ∧ (∀ k, ownB qv' k → H.size ≤ k ∧ k ≠ b) ∧ Bl H' b (bL O') ∧
            LooI g.length 256 (Eg g) (gi st.L) O' D (i :: Q') ∧ (∀ i' < g.length, gi st.L i' = -1 → i' ∈ (i :: Q').reverse ++ D) ∧ (∀ p < q, ∀ k < g.length, gi st.L k = (l.getD p 0 : Int) → k ∈ (i :: Q').reverse ++ D) ∧ uns O' + Q'.length ≤ uns O + Q.length ∧ Keep (fun _ => False) H H') l.length
          ⟨0, qv2, O, Q, by omega, by omega, by simp only [go_sem, List.map_cons, List.map_nil, ↓reduceIte, Nat.reduceEqDiff, Nat.reduceAdd, Nat.reduceMul, reduceCtorEq, and_true, true_and, Nat.mul_one, Nat.zero_add, Bool.false_eq_true, decide_true, decide_false, not_false_eq_true, kont_eq]; rfl, by simp only [go_sem, List.map_cons, List.map_nil, ↓reduceIte, Nat.reduceEqDiff, Nat.reduceAdd, Nat.reduceMul, reduceCtorEq, and_true, true_and, Nat.mul_one, Nat.zero_add, Bool.false_eq_true, decide_true, decide_false, not_false_eq_true, kont_eq], hQ2, hqo2, hO, hLI, hun, fun p hp => by omega, by omega, K3⟩ ?_
        rintro n f4 H4 ⟨q, qv', O', Q', hq, rfl, hf, hf4', hQ', hqo', hO', hLI', hun', hcl, hme, K4⟩
        simp only [go_sem, List.map_cons, List.map_nil, ↓reduceIte, Nat.reduceEqDiff, Nat.reduceAdd, Nat.reduceMul, reduceCtorEq, and_true, true_and, Nat.mul_one, Nat.zero_add, Bool.false_eq_true, decide_true, decide_false, not_false_eq_true, kont_eq] at hf hf4'
        simp only [go_sem, List.map_cons, List.map_nil, ↓reduceIte, Nat.reduceEqDiff, Nat.reduceAdd, Nat.reduceMul, reduceCtorEq, and_true, true_and, Nat.mul_one, Nat.zero_add, Bool.false_eq_true, decide_true, decide_false, not_false_eq_true, hf]
        refine iteV_dec (fun hlt => ?_) (fun hge => ?_)
        · have hlt : q < l.length := by omega
          have hA4 := hA0.keep K4 (by simp)
          obtain ⟨lb, lo, lc, rfl, -, hlc⟩ := hA4.cells (by intro e; have h := congrArg List.length e; rw [iL_len, nI_len, List.length_nil] at h; omega)
          rw [iL_len, nI_len] at hlc
          have hcq := hlc q hlt
          rw [iL_get _ _ (by rw [nI_len]; exact hlt), nI_get _ _ hlt] at hcq
          have hjE : l.getD q 0 ∈ l := by rw [List.getD_eq_getElem?_getD, List.getElem?_eq_getElem hlt]; exact List.getElem_mem _
          have hcl1 : ∀ {Q'' : List Nat}, (∀ k, k ∈ (i :: Q').reverse ++ D → k ∈ (i :: Q'').reverse ++ D) → (∀ k < g.length, gi st.L k = (l.getD q 0 : Int) → k ∈ (i :: Q'').reverse ++ D) → ∀ p < q + 1, ∀ k < g.length, gi st.L k = (l.getD p 0 : Int) → k ∈ (i :: Q'').reverse ++ D := by
            intro Q'' h1 h2 p hp k hk e
            by_cases e2 : p = q
            · subst e2; exact h2 k hk e
            · exact h1 k (hcl p (by omega) k hk e)
          generalize l.getD q 0 = j at *
          have hj := hlg j hjE
          have cR : cell H4 ⟨s, 2 + j, none⟩ = some (.int .i64 (gi st.R j)) := by rw [(K4.bl hS.S (by simp)).cell, srL_R hS.lR hj]
          have next : ∀ (H5 : Hp) (qv'' : Value) (O'' : List Bool) (Q'' : List Nat), OwT H5 qv'' (iL (nI Q'')) → (∀ k, ownB qv'' k → H.size ≤ k ∧ k ≠ b) → Bl H5 b (bL O'') → LooI g.length 256 (Eg g) (gi st.L) O'' D (i :: Q'') → (∀ k, k ∈ (i :: Q').reverse ++ D → k ∈ (i :: Q'').reverse ++ D) → (∀ k < g.length, gi st.L k = (j : Int) → k ∈ (i :: Q'').reverse ++ D) →
              uns O'' + Q''.length ≤ uns O + Q.length → Keep (fun _ => False) H H5 → ∃ n', n' < l.length - q ∧ ∃ (q' : Nat) (qv' : Value) (O' : List Bool) (Q' : List Nat), q' ≤ l.length ∧ n' = l.length - q' ∧ (q + 1 : Nat) = q' ∧ qv'' = qv' ∧ OwT H5 qv' (iL (nI Q')) ∧ (∀ k, ownB qv' k → H.size ≤ k ∧ k ≠ b) ∧ Bl H5 b (bL O') ∧
            LooI g.length 256 (Eg g) (gi st.L) O' D (i :: Q') ∧ (∀ i' < g.length, gi st.L i' = -1 → i' ∈ (i :: Q').reverse ++ D) ∧ (∀ p < q', ∀ k < g.length, gi st.L k = (l.getD p 0 : Int) → k ∈ (i :: Q').reverse ++ D) ∧ uns O' + Q'.length ≤ uns O + Q.length ∧ Keep (fun _ => False) H H5 :=
            fun H5 qv'' O'' Q'' a1 a2 a3 a4 a5 a6 a7 a9 => ⟨l.length - (q + 1), by omega, q + 1, qv'', O'', Q'', by omega, rfl, rfl, rfl, a1, a2, a3, a4, fun i' h e => a5 _ (hun' i' h e), hcl1 a5 a6, a7, a9⟩
          have hRk : ∀ k < g.length, gi st.L k = (j : Int) → gi st.R j = (k : Int) := by
            intro k hk e
            rcases hI.l k hk with h | ⟨j', _, h, _, h'⟩
            · omega
            · have : j' = j := by omega
              subst this; exact h'
          have s4 := K4.size
          rcases hI.r j hj with hRj | ⟨a, ha, hRj, hLa⟩
          · rw [hRj] at cR
            have c0 : decide ((-1 : Int) ≥ 0) = false := rfl
            obtain ⟨n', a1, q', qv'', O'', Q'', a2, a3, a4, a5, a6⟩ := next H4 qv' O' Q' hQ' hqo' hO' hLI' (fun k h => h) (fun k hk e => by have := hRk k hk e; omega) hme K4
            simp (disch := omega) only [go_sem, List.map_cons, List.map_nil, ↓reduceIte, Nat.reduceEqDiff, Nat.reduceAdd, Nat.reduceMul, reduceCtorEq, and_true, true_and, Nat.mul_one, Nat.zero_add, Bool.false_eq_true, decide_true, decide_false, not_false_eq_true, kont_eq, hf, hf0, hf4', iL_len, nI_len, tn_cast, Nat.mul_one, hcq, cR, c0, IntWalk.i64_in]
            exact ⟨by omega, by omega, n', a1, q', qv'', O'', Q'', a2, a3, by rw [← a4]; simp, a5, a6⟩
          · have c0 : decide ((a : Int) ≥ 0) = true := decide_eq_true (by omega)
            rw [hRj] at cR
            have cO : cell H4 ⟨b, a, none⟩ = some (.bool (O'.getD a true)) := by
              have hal : a < O'.length := by rw [hLI'.len]; exact ha
              rw [hO'.cell, bL_get _ _ hal, List.getD_eq_getElem?_getD, List.getD_eq_getElem?_getD, List.getElem?_eq_getElem hal]; rfl
            cases hoa : O'.getD a true with
            | true =>
              rw [hoa] at cO
              have hain : a ∈ (i :: Q').reverse ++ D := by have := hLI'.is a ha; rw [hoa] at this; simpa using this.symm
              obtain ⟨n', a1, q', qv'', O'', Q'', a2, a3, a4, a5, a6⟩ := next H4 qv' O' Q' hQ' hqo' hO' hLI' (fun k h => h) (fun k hk e => by
                have := hRk k hk e
                have : k = a := by omega
                subst this; exact hain) hme K4
              simp (disch := omega) only [go_sem, List.map_cons, List.map_nil, ↓reduceIte, Nat.reduceEqDiff, Nat.reduceAdd, Nat.reduceMul, reduceCtorEq, and_true, true_and, Nat.mul_one, Nat.zero_add, Bool.false_eq_true, decide_true, decide_false, not_false_eq_true, kont_eq, hf, hf0, hf3, hf4', iL_len, nI_len, tn_cast, Nat.mul_one, hcq, cR, c0, cO, IntWalk.i64_in]
              exact ⟨by omega, by omega, by omega, n', a1, q', qv'', O'', Q'', a2, a3, by rw [← a4]; simp, a5, a6⟩
            | false =>
              rw [hoa] at cO
              simp only [go_sem, List.map_cons, List.map_nil, ↓reduceIte, Nat.reduceEqDiff, Nat.reduceAdd, Nat.reduceMul, reduceCtorEq, and_true, true_and, Nat.mul_one, Nat.zero_add, Bool.false_eq_true, decide_true, decide_false, not_false_eq_true, hf, hf0, hf3, hf4', iL_len, nI_len, tn_cast, Nat.mul_one, hcq, cR, c0, cO]
              have hst := hO'.okSt (o := a) (by rw [bL_len, hLI'.len]; exact ha)
              have hO2 := hO'.setc a (.bool true)
              rw [bL_set] at hO2
              have K5 : Keep (fun k => k = b) H4 (setc H4 ⟨b, a, none⟩ (.bool true)) := (Keep.refl _ _).setc _ (.inl rfl)
              have hQ3 := hQ'.keep K5 (fun k hk e => (hqo' k hk).2 e)
              have hLI2 := hLI'.mark ha hoa (.inr ⟨i, by simp, j, hj, (hE j).2 hjE, hLa⟩)
              have hus := uns_set (a := O') (j := a) (by rw [hLI'.len]; exact ha) (by unfold gb'; exact hoa)
              refine ⟨by omega, by omega, by omega, by omega, hst.2, ?_⟩
              generalize setc H4 ⟨b, a, none⟩ (.bool true) = H5 at hO2 K5 hQ3 ⊢
              rw [kont_eq]
              simp only [go_sem, List.map_cons, List.map_nil, ↓reduceIte, Nat.reduceEqDiff, Nat.reduceAdd, Nat.reduceMul, reduceCtorEq, and_true, true_and, Nat.mul_one, Nat.zero_add, Bool.false_eq_true, decide_true, decide_false, not_false_eq_true, fillV_nil, fillV_cons, okFill_nil, okFill_cons, cells_slice, cells_int, cells_bool, cells_str, cells_ptr, cells_agg, stNH_ptr, okN_ptr, wrA1, wrA20, wrA21, hf4']
              refine kont_news fun H6 b6 e6 z6 B6 K6 => ?_
              have s5 := K5.size
              have s6 := K6.size
              have hbl4 : b < H4.size := hO'.lt
              simp only [go_sem, List.map_cons, List.map_nil, ↓reduceIte, Nat.reduceEqDiff, Nat.reduceAdd, Nat.reduceMul, reduceCtorEq, and_true, true_and, Nat.mul_one, Nat.zero_add, Bool.false_eq_true, decide_true, decide_false, not_false_eq_true, kont_eq]
              refine app_T (l := iL (nI Q')) (m := [.int .i64 (a : Int)]) (hQ3.keep K6 (by simp)) (SlR.bl B6 0 1 1 (by omega) (by simp)) ?_ rfl ?_ ?_ fun v' H7 O7 M7 N7 => ?_
              · intro y hy; simp at hy; subst hy; rfl
              · unfold maxLen; simp only [List.length_singleton, iL_len, nI_len]; omega
              · simp only [List.length_singleton, iL_len, nI_len]; omega
              · have s7 := M7.size
                have hQe : iL (nI Q') ++ [.int .i64 (a : Int)] = iL (nI (Q' ++ [a])) := by simp [iL, nI]
                rw [hQe] at O7
                obtain ⟨n', a1, q', qv'', O'', Q'', a2, a3, a4, a5, a6⟩ := next H7 v' (O'.set a true) (Q' ++ [a]) O7 (fun k hk => by
                    rcases N7 k hk with h | h
                    · exact hqo' k h
                    · omega) (M7.bl (K6.bl hO2 (by simp)) (fun h => (hqo' _ h).2 rfl)) hLI2 (fun k h => by simp at h ⊢; exact .inr h) (fun k hk e => by
                      have := hRk k hk e
                      have : k = a := by omega
                      subst this; simp) (by simp only [List.length_append, List.length_singleton]; omega) (((K4.to_old K5 (by omega)).trans K6).trans' M7 (fun q hq h => by have := (hqo' q h).1; omega))
                simp (disch := omega) only [go_sem, List.map_cons, List.map_nil, ↓reduceIte, Nat.reduceEqDiff, Nat.reduceAdd, Nat.reduceMul, reduceCtorEq, and_true, true_and, Nat.mul_one, Nat.zero_add, Bool.false_eq_true, decide_true, decide_false, not_false_eq_true, kont_eq, hf, IntWalk.i64_in]
                exact ⟨n', a1, q', qv'', O'', Q'', a2, a3, by rw [← a4]; simp, a5, a6⟩
        · have hql : q = l.length := by omega
          subst hql
          have hLI3 := LooI.pop (Q := []) hLI' fun j hj hE' k hk e => by
            obtain ⟨p, hp, e2⟩ := List.getElem_of_mem ((hE j).1 hE')
            refine hcl p hp k hk ?_
            rw [List.getD_eq_getElem?_getD, List.getElem?_eq_getElem hp, e2]
            exact e
          exact ⟨uns O' + Q'.length, by omega, qv', O', i :: D, Q', rfl, by omega, hf4', hQ', hqo', hO', hLI3, fun i' h e => by rw [← rev_pop]; exact hun' i' h e, K4⟩
  · refine vc_loop [23, 5, 6, 28, 4, 22] rfl (fun n f H' => ∃ (i : Nat) (qv : Value) (O : List Bool) (Q : List Nat), i ≤ g.length ∧ n = g.length - i ∧ f 22 = .int .i64 i ∧ f 4 = qv ∧ Q.length ≤ i ∧ OwS H' qv (iL (nI Q)) ∧ (∀ k, ownB qv k → H.size ≤ k ∧ k ≠ b) ∧ Bl H' b (bL O) ∧ LooI g.length 256 (Eg g) (gi st.L) O [] Q ∧ (∀ a < i, gi st.L a = -1 → a ∈ Q) ∧ (∀ a ∈ Q, a < i) ∧ Keep (fun _ => False) H H') g.length
      ⟨0, .slice none 0 0, List.replicate g.length false, [], by omega, by omega, by simp only [go_sem, List.map_cons, List.map_nil, ↓reduceIte, Nat.reduceEqDiff, Nat.reduceAdd, Nat.reduceMul, reduceCtorEq, and_true, true_and, Nat.mul_one, Nat.zero_add, Bool.false_eq_true, decide_true, decide_false, not_false_eq_true, kont_eq]; rfl, by simp only [go_sem, List.map_cons, List.map_nil, ↓reduceIte, Nat.reduceEqDiff, Nat.reduceAdd, Nat.reduceMul, reduceCtorEq, and_true, true_and, Nat.mul_one, Nat.zero_add, Bool.false_eq_true, decide_true, decide_false, not_false_eq_true, kont_eq], by simp, OwS.nil _, fun k h => h.elim, B1, ⟨by simp, fun i hi => by simp [List.getD_eq_getElem?_getD, hi], trivial, fun i h => by cases h⟩, fun a h => by omega, fun a h => (by cases h), K1⟩ ?_
    rintro n f H2 ⟨i, qv, O, Q, hi, rfl, hf, hf4, hQl, hQ, hqo, hO, hLI, hun, hQi, K2⟩
    simp only [go_sem, List.map_cons, List.map_nil, ↓reduceIte, Nat.reduceEqDiff, Nat.reduceAdd, Nat.reduceMul, reduceCtorEq, and_true, true_and, Nat.mul_one, Nat.zero_add, Bool.false_eq_true, decide_true, decide_false, not_false_eq_true, kont_eq] at hf hf4
    simp only [go_sem, List.map_cons, List.map_nil, ↓reduceIte, Nat.reduceEqDiff, Nat.reduceAdd, Nat.reduceMul, reduceCtorEq, and_true, true_and, Nat.mul_one, Nat.zero_add, Bool.false_eq_true, decide_true, decide_false, not_false_eq_true, hf]
    refine iteV_dec (fun hlt => ?_) (fun hge => ?_)
    · have hlt : i < g.length := by omega
      have s2 := K2.size
      have hc : cell H2 ⟨bl, i, none⟩ = some (.int .i64 (gi st.L i)) := by
        rw [(K2.bl hS.L (by simp)).cell, iL_get _ _ (by rw [hS.lL]; exact hlt)]
        unfold gi
        simp [List.getD_eq_getElem?_getD, show i < st.L.length by rw [hS.lL]; exact hlt]
      simp only [go_sem, List.map_cons, List.map_nil, ↓reduceIte, Nat.reduceEqDiff, Nat.reduceAdd, Nat.reduceMul, reduceCtorEq, and_true, true_and, Nat.mul_one, Nat.zero_add, Bool.false_eq_true, decide_true, decide_false, not_false_eq_true, tn_cast, Nat.mul_one, hc]
      refine ⟨by omega, ?_⟩
      refine iteV_dec (fun h => ?_) (fun h => ?_)
      · have hL1 : gi st.L i = -1 := by
          rcases hI.l i hlt with h' | ⟨j, _, h', _⟩ <;> omega
        have hnQ : i ∉ Q := fun h => by have := hQi i h; omega
        have hst := hO.okSt (o := i) (by rw [bL_len, hLI.len]; exact hlt)
        have hO2 := hO.setc i (.bool true)
        rw [bL_set] at hO2
        have K3 : Keep (fun k => k = b) H2 (setc H2 ⟨b, i, none⟩ (.bool true)) := (Keep.refl _ _).setc _ (.inl rfl)
        have hQ3 := hQ.keep K3 (fun k hk e => (hqo k hk).2 e)
        have hLI2 := hLI.mark hlt (by rw [hLI.is i hlt]; simpa using hnQ) (.inl hL1)
        simp only [go_sem, List.map_cons, List.map_nil, ↓reduceIte, Nat.reduceEqDiff, Nat.reduceAdd, Nat.reduceMul, reduceCtorEq, and_true, true_and, Nat.mul_one, Nat.zero_add, Bool.false_eq_true, decide_true, decide_false, not_false_eq_true, hf, hst, tn_cast, Nat.mul_one]
        refine ⟨by omega, ?_⟩
        generalize setc H2 ⟨b, i, none⟩ (.bool true) = H3 at hO2 K3 hQ3 ⊢
        rw [kont_eq]
        simp only [go_sem, List.map_cons, List.map_nil, ↓reduceIte, Nat.reduceEqDiff, Nat.reduceAdd, Nat.reduceMul, reduceCtorEq, and_true, true_and, Nat.mul_one, Nat.zero_add, Bool.false_eq_true, decide_true, decide_false, not_false_eq_true, fillV_nil, fillV_cons, okFill_nil, okFill_cons, cells_slice, cells_int, cells_bool, cells_str, cells_ptr, cells_agg, stNH_ptr, okN_ptr, wrA1, wrA20, wrA21, hf4]
        refine kont_news fun H4 b4 e4 z4 B4 K4 => ?_
        have s3 := K3.size
        have s4 := K4.size
        have hb : b < H2.size := hO.lt
        simp only [go_sem, List.map_cons, List.map_nil, ↓reduceIte, Nat.reduceEqDiff, Nat.reduceAdd, Nat.reduceMul, reduceCtorEq, and_true, true_and, Nat.mul_one, Nat.zero_add, Bool.false_eq_true, decide_true, decide_false, not_false_eq_true, kont_eq]
        refine app_sl (l := iL (nI Q)) (m := [.int .i64 (i : Int)]) (hQ3.keep K4 (by simp)) (SlR.bl B4 0 1 1 (by omega) (by simp)) ?_ rfl ?_ ?_ fun v' H5 O5 M5 N5 => ?_
        · intro y hy; simp at hy; subst hy; rfl
        · unfold maxLen; simp only [List.length_singleton, iL_len, nI_len]; omega
        · simp only [List.length_singleton, iL_len, nI_len]; omega
        · have s5 := M5.size
          have hQe : iL (nI Q) ++ [.int .i64 (i : Int)] = iL (nI (Q ++ [i])) := by simp [iL, nI]
          rw [hQe] at O5
          simp (disch := omega) only [go_sem, List.map_cons, List.map_nil, ↓reduceIte, Nat.reduceEqDiff, Nat.reduceAdd, Nat.reduceMul, reduceCtorEq, and_true, true_and, Nat.mul_one, Nat.zero_add, Bool.false_eq_true, decide_true, decide_false, not_false_eq_true, kont_eq, hf, IntWalk.i64_in]
          refine ⟨g.length - (i + 1), by omega, i + 1, _, O.set i true, Q ++ [i], by omega, rfl, by simp, rfl, by simp; omega, O5, fun k hk => ?_, M5.bl (K4.bl hO2 (by simp)) (fun h => (hqo _ h).2 rfl), hLI2, fun a ha e => ?_, fun a ha => ?_, ?_⟩
          · rcases N5 k hk with h | h
            · exact hqo k h
            · omega
          · by_cases e2 : a = i
            · subst e2; simp
            · exact List.mem_append_left _ (hun a (by omega) e)
          · rcases List.mem_append.1 ha with ha | ha
            · have := hQi a ha; omega
            · simp at ha; omega
          · exact (((K2.to_old K3 (by omega)).trans K4).trans' M5 (fun q hq h => by have := (hqo q h).1; omega))
      · simp (disch := omega) only [go_sem, List.map_cons, List.map_nil, ↓reduceIte, Nat.reduceEqDiff, Nat.reduceAdd, Nat.reduceMul, reduceCtorEq, and_true, true_and, Nat.mul_one, Nat.zero_add, Bool.false_eq_true, decide_true, decide_false, not_false_eq_true, kont_eq, hf, hf4, IntWalk.i64_in]
        exact ⟨g.length - (i + 1), by omega, i + 1, _, O, Q, by omega, rfl, by simp, rfl, by omega, hQ, hqo, hO, hLI, fun a ha e => by
          by_cases e2 : a = i
          · subst e2; omega
          · exact hun a (by omega) e, fun a ha => by have := hQi a ha; omega, K2⟩
    · have hil : i = g.length := by omega
      subst hil
      exact ⟨qv, O, Q, by first | exact hf4 | rfl, hQ.toT, hqo, hO, hLI, hun, by omega, K2⟩
end Go.Mg

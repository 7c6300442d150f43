/- matching: Least. -/
import Derived.Test.YtihlnbepcimnfaaDoorMgM10
namespace Go.Mg
open Go Go.RowKit
set_option linter.unusedSimpArgs false
set_option linter.unusedVariables false
set_option maxRecDepth 100000
/- matching.Least -/
def c_mleast (ι : Ids) : S :=
  .seq (.reg [.p (.v 2) (.mv (.c (.slice .none 0 0))), .p (.v 3) (.mv (.c (.bool false)))]) (.seq (.seq (.reg [.p (.t 8) (.mv (.v 0)), .e (.t 9) (.call (ι.f 144) [.t 8]), .p (.v 10) (.cm .neq .i64 (.t
  9) (.c (.int .i64 0)))]) (.ite (.v 10) (.seq (.reg [.p (.v 2) (.mv (.c (.slice .none 0 0))), .p (.v 3) (.mv (.c (.bool false)))]) .ret) .skip)) (.seq (.reg [.p (.t 11) (.mv (.v 0)), .e (.t 12) (.call
  (ι.f 146) [.t 11]), .p (.v 4) (.mv (.t 12))]) (.seq (.reg [.p (.t 13) (.mv (.v 4)), .e (.t 14) (.call (ι.f 148) [.t 13])]) (.seq (.seq (.reg [.p (.t 15) (.mv (.v 4)), .p (.t 16) (.nil (.t 15)), .p (.t
  17) (.fa 1 (.t 16)), .p (.t 18) (.ld (.t 17)), .e (.v 19) (.call (ι.f 158) [.t 18, .c (.int .i64 (-1))])]) (.ite (.v 19) (.seq (.reg [.p (.v 2) (.mv (.c (.slice .none 0 0))), .p (.v 3) (.mv (.c (.bool
  false)))]) .ret) .skip)) (.seq (.seq (.reg [.p (.t 20) (.mv (.v 4)), .p (.t 21) (.nil (.t 20)), .p (.t 22) (.fa 0 (.t 21)), .p (.t 23) (.ld (.t 22)), .p (.v 24) (.m (.lenl (.t 23))), .p (.v 25) (.mv
  (.c (.int .i64 0)))]) (.blk 0 (.loop (.seq (.reg [.p (.v 26) (.cm .lss .i64 (.v 25) (.v 24))]) (.seq (.ite (.v 26) .skip (.exit 0)) (.seq (.blk 1 (.seq (.reg [.p (.t 27) (.mv (.v 25)), .p (.v 5) (.mv
  (.t 27))]) (.seq (.seq (.reg [.p (.t 28) (.mv (.v 4)), .p (.t 29) (.nil (.t 28)), .p (.t 30) (.fa 0 (.t 29)), .p (.t 31) (.ld (.t 30)), .p (.t 32) (.mv (.v 5)), .p (.t 33) (.is 1 (.t 31) (.t 32)), .p
  (.v 34) (.ld (.t 33)), .p (.v 35) (.m (.lenl (.v 34))), .p (.v 36) (.mv (.c (.int .i64 0)))]) (.blk 2 (.loop (.seq (.reg [.p (.v 37) (.cm .lss .i64 (.v 36) (.v 35))]) (.seq (.ite (.v 37) .skip (.exit
  2)) (.seq (.blk 3 (.seq (.reg [.p (.t 38) (.is 1 (.v 34) (.v 36)), .p (.t 39) (.ld (.t 38)), .p (.v 7) (.mv (.t 39))]) (.seq (.seq (.reg [.p (.t 40) (.mv (.v 4)), .p (.t 41) (.mv (.v 7)), .p (.t 42)
  (.nil (.t 40)), .p (.t 43) (.fa 258 (.t 42)), .p (.t 44) (.ia 256 1 (.t 43) (.t 41)), .p (.v 45) (.ld (.t 44))]) (.ite (.v 45) (.exit 3) .skip)) (.seq (.reg [.p (.t 46) (.mv (.v 7)), .p (.t 47) (.mv
  (.v 4)), .p (.t 48) (.nil (.t 47)), .p (.t 49) (.fa 1 (.t 48)), .p (.t 50) (.ld (.t 49)), .p (.t 51) (.mv (.v 5)), .p (.t 52) (.is 1 (.t 50) (.t 51)), .p (.t 53) (.ld (.t 52)), .p (.t 54) (.cm .eql
  .i64 (.t 46) (.t 53)), .p (.t 55) (.mv (.t 54)), .gp (.t 56) (.t 55) false (.mv (.v 4)), .gp (.t 57) (.t 55) false (.mv (.v 5)), .gp (.t 58) (.t 55) false (.mv (.v 7)), .ge (.t 59) (.t 55) false
  (.call (ι.f 161) [.t 56, .t 57, .t 58]), .p (.v 60) (.pick (.t 55) (.c (.bool true)) (.t 59))]) (.ite (.v 60) (.exit 2) .skip))))) (.reg [.p (.t 61) (.ar .add .i64 (.v 36) (.c (.int .i64 1))), .p (.v
  36) (.mv (.t 61))]))))))) (.reg [.p (.t 62) (.mv (.v 4)), .p (.t 63) (.mv (.v 4)), .p (.t 64) (.nil (.t 63)), .p (.t 65) (.fa 1 (.t 64)), .p (.t 66) (.ld (.t 65)), .p (.t 67) (.mv (.v 5)), .p (.t 68)
  (.is 1 (.t 66) (.t 67)), .p (.t 69) (.ld (.t 68)), .p (.t 70) (.nil (.t 62)), .p (.t 71) (.fa 258 (.t 70)), .p (.t 72) (.ia 256 1 (.t 71) (.t 69)), .e .no (.st (.t 72) (.c (.bool true)))])))) (.reg
  [.p (.t 73) (.ar .add .i64 (.v 25) (.c (.int .i64 1))), .p (.v 25) (.mv (.t 73))]))))))) (.seq (.reg [.p (.t 74) (.mv (.v 4)), .p (.t 75) (.nil (.t 74)), .p (.t 76) (.fa 1 (.t 75)), .p (.t 77) (.ld
  (.t 76)), .p (.v 2) (.mv (.t 77)), .p (.v 3) (.mv (.c (.bool true)))]) .ret))))))
def r_mleast : List RV := [.t 2, .t 3]
theorem mems_lt (p : Nat → Bool) {a b : Nat} (hab : a < b) (hb : b < (mems p).length) : (mems p).getD a 0 < (mems p).getD b 0 := by
  have h := mems_sorted p
  rw [List.pairwise_iff_getElem] at h
  have := h a b (by omega) hb hab
  rw [List.getD_eq_getElem?_getD, List.getD_eq_getElem?_getD, List.getElem?_eq_getElem hb, List.getElem?_eq_getElem (by omega : a < _)]
  exact this
theorem least_at {n N : Nat} {E : Nat → Nat → Prop} {L0 : Nat → Int} {i q : Nat} {l : List Nat} (hi : i < n) (hs : ∀ a b, a < b → b < l.length → l.getD a 0 < l.getD b 0) (hm : ∀ j, E i j → j ∈ l)
    (hno : ∀ p < q, ∀ L', Pf n N E L' → (∀ b < i, L' b = L0 b) → L' i ≠ (l.getD p 0 : Int)) : ∀ L', Pf n N E L' → (∀ b < i, L' b = L0 b) → ((l.getD q 0 : Nat) : Int) ≤ L' i ∧ q < l.length := by
  intro L' p' hb
  have h0 := p'.all i hi
  obtain ⟨_, h2⟩ := p'.m.at hi h0
  obtain ⟨a, ha, e⟩ := List.getElem_of_mem (hm _ h2)
  have ea : l.getD a 0 = (L' i).toNat := by rw [List.getD_eq_getElem?_getD, List.getElem?_eq_getElem ha]; exact e
  have h3 : ¬ a < q := fun h => by have := hno a h L' p' hb; omega
  by_cases e2 : a = q
  · subst e2; exact ⟨by omega, ha⟩
  · have := hs q a (by omega) ha
    exact ⟨by omega, by omega⟩
def MLeastPost (ps : List (Nat → Bool)) (H : Hp) (r : Value) (H' : Hp) : Prop := (((chkF ps ≠ 0 ∨ ∃ L, Mx ps.length 256 (Eg (gl ps)) (gi L) ∧ ∃ i, i < ps.length ∧ gi L i = -1) ∧ r = .tuple #[.slice none 0 0, .bool false]) ∨
  ∃ v L, chkF ps = 0 ∧ Pf ps.length 256 (Eg (gl ps)) (gi L) ∧ LeastTo ps.length 256 (Eg (gl ps)) (gi L) ps.length ∧ L.length = ps.length ∧ r = .tuple #[v, .bool true] ∧ SlR H' v (iL L) ∧ ∀ k, slB v k → H.size ≤ k) ∧ Keep (fun _ => False) H H'
def MLeastSpec (P : Program) (ι : Ids) (k : FuncId) : Prop := ∀ (ps : List (Nat → Bool)) (v : Value) (Z : Nat → Prop) (H : Hp), TabOk ι H → GrM H v ps Z → ps.length ≤ 100000 →
  CallsM P k #[v] H (MLeastPost ps H)
theorem mleast_ok {P : Program} {ι : Ids} {k : FuncId} (hk : FnIs P k (c_mleast ι) r_mleast 1) (hc : MCheckSpec P (ι.f 144)) (hb : BegSpec P ι (ι.f 146)) (hm : MaxiSpec P (ι.f 148)) (hcon : IConSpec P (ι.f 158)) (hmv : MoveSpec P (ι.f 161)) : MLeastSpec P ι k := by
  intro ps v Z H hT hv hn
  refine calls_of_vc hk (args := [_]) (by simp) ?_
  unfold c_mleast r_mleast
  obtain ⟨R, hR⟩ : ∃ R, R = MLeastPost ps H := ⟨_, rfl⟩
  rw [← hR]
  simp only [go_sem, List.map_cons, List.map_nil, ↓reduceIte, Nat.reduceEqDiff, Nat.reduceAdd, Nat.reduceMul, reduceCtorEq, and_true, true_and, Nat.mul_one, Nat.zero_add, Bool.false_eq_true, decide_true, decide_false, not_false_eq_true, kont_eq]
  refine (hc ps v Z H hv hn).mono ?_
  rintro r H1 ⟨rfl, K1⟩
  by_cases h0 : chkF ps = 0
  · obtain ⟨c1, c2, c3⟩ := chk_ok h0
    have e0 : ((0 : Int) != 0) = false := rfl
    simp only [go_sem, List.map_cons, List.map_nil, ↓reduceIte, Nat.reduceEqDiff, Nat.reduceAdd, Nat.reduceMul, reduceCtorEq, and_true, true_and, Nat.mul_one, Nat.zero_add, Bool.false_eq_true, decide_true, decide_false, not_false_eq_true, kont_eq, h0, e0]
    refine (hb ps v Z H1 (hT.keep K1) (hv.keep0 K1) hn).mono ?_
    rintro r H2 ⟨s, bl, gv, vs, Se, rfl, hS, K2, g1, g2⟩
    simp only [go_sem, List.map_cons, List.map_nil, ↓reduceIte, Nat.reduceEqDiff, Nat.reduceAdd, Nat.reduceMul, reduceCtorEq, and_true, true_and, Nat.mul_one, Nat.zero_add, Bool.false_eq_true, decide_true, decide_false, not_false_eq_true, kont_eq]
    refine (hm H2 s bl gv vs (ps.map mems) _ _ hS c2 c3 (by simpa using c1) (by simp) rfl).mono ?_
    rintro r H3 ⟨L, R', Se', hS3, hM, K3⟩
    have s1 := K1.size
    have s3 := K3.size
    have s2 := K2.size
    have K03 := (K1.trans K2).trans' K3 (fun i hi h => by omega)
    have c1' : ps.length ≤ 256 := c1
    have hc1 : cell H3 ⟨s, 1, none⟩ = some (.slice (some ⟨bl, 0, none⟩) ps.length ps.length) := by
      have := hS3.lL
      rw [List.length_map] at this
      rw [hS3.S.cell, this]; rfl
    have hLl : L.length = ps.length := by have := hS3.lL; rwa [List.length_map] at this
    have hsl : SlR H3 (.slice (some ⟨bl, 0, none⟩) ps.length ps.length) (iL L) := by
      have := SlR.bl hS3.L 0 ps.length ps.length (by omega) (by rw [iL_len, hLl]; omega)
      rwa [List.drop_zero, List.take_of_length_le (by rw [iL_len, hLl]; omega)] at this
    simp only [go_sem, List.map_cons, List.map_nil, ↓reduceIte, Nat.reduceEqDiff, Nat.reduceAdd, Nat.reduceMul, reduceCtorEq, and_true, true_and, Nat.mul_one, Nat.zero_add, Bool.false_eq_true, decide_true, decide_false, not_false_eq_true, kont_eq, hc1]
    refine (hcon L _ (-1) H3 hsl (by omega)).mono ?_
    rintro r H3' ⟨⟨b, rfl, hb1⟩, rfl⟩
    have hMx : Mx ps.length 256 (Eg (gl ps)) (gi L) := by simpa [gl] using hM.mx
    cases b with
    | true =>
      simp only [go_sem, List.map_cons, List.map_nil, ↓reduceIte, Nat.reduceEqDiff, Nat.reduceAdd, Nat.reduceMul, reduceCtorEq, and_true, true_and, Nat.mul_one, Nat.zero_add, Bool.false_eq_true, decide_true, decide_false, not_false_eq_true, kont_eq]
      subst hR
      obtain ⟨i, hi, e⟩ := List.getElem_of_mem (hb1.1 rfl)
      refine ⟨.inl ⟨.inr ⟨L, hMx, i, by omega, ?_⟩, rfl⟩, K03⟩
      unfold gi; rw [List.getD_eq_getElem?_getD, List.getElem?_eq_getElem hi, e]; rfl
    | false =>
      have hA : ∀ a < ps.length, 0 ≤ gi L a := by
        intro a ha
        have hin : Inv ps.length 256 (Eg (gl ps)) (gi L) (gi R') := by simpa [gl] using hM.inv
        rcases hin.l a ha with h | ⟨j, _, h, _⟩
        · exfalso
          have : (-1 : Int) ∈ L := by
            have hal : a < L.length := by omega
            unfold gi at h
            rw [List.getD_eq_getElem?_getD, List.getElem?_eq_getElem hal] at h
            have h : L[a] = -1 := h
            rw [← h]; exact List.getElem_mem _
          have := hb1.2 this
          cases this
        · omega
      have hS4 := hS3.toG.narrow
      rw [← show gl ps = ps.map mems from rfl] at hS4 hS3
      have hgl : (gl ps).length = ps.length := gl_len ps
      rw [hgl] at hS4
      have hgvl : vs.length = ps.length := by rw [hS4.len, hgl]
      obtain ⟨Z', hZ'⟩ : ∃ Z' : Nat → Prop, Z' = fun k => (H1.size ≤ k ∧ k ≠ s ∧ k ≠ bl) ∧ k < H3'.size := ⟨_, rfl⟩
      rw [← hZ'] at hS4
      have hZo : ∀ k, Z' k → k < H3'.size := fun k h => by rw [hZ'] at h; exact h.2
      have hZn : ∀ k, Z' k → H.size ≤ k := fun k h => by rw [hZ'] at h; have := h.1.1; omega
      rw [kont_eq]
      have hc0 : cell H3' ⟨s, 0, none⟩ = some gv := by rw [hS4.S.cell]; rfl
      simp only [go_sem, List.map_cons, List.map_nil, ↓reduceIte, Nat.reduceEqDiff, Nat.reduceAdd, Nat.reduceMul, reduceCtorEq, and_true, true_and, Nat.mul_one, Nat.zero_add, Bool.false_eq_true, decide_true, decide_false, not_false_eq_true, kont_eq, hc0, hS4.sl.isSl, hS4.sl.len, hgvl]
      refine vc_loop [26, 5, 34, 35, 36, 37, 7, 45, 60, 25] rfl (fun n f H' => ∃ (i bl c : Nat) (X : List Value) (st : Sst) (F : List Bool), i ≤ ps.length ∧ n = ps.length - i ∧ f 25 = .int .i64 i ∧ SrG H' s bl c X gv vs (gl ps) Z' st F ∧ ps.length ≤ c ∧ H.size ≤ bl ∧
          Inv ps.length 256 (Eg (gl ps)) (gi st.L) (gi st.R) ∧ (∀ a < ps.length, 0 ≤ gi st.L a) ∧ LeastTo ps.length 256 (Eg (gl ps)) (gi st.L) i ∧ (∀ b < 256, gb' F b = true ↔ ∃ a < i, gi st.L a = (b : Int)) ∧ Keep (fun k => H.size ≤ k) H3' H') ps.length
        ⟨0, bl, _, _, _, _, by omega, by omega, by simp only [go_sem, List.map_cons, List.map_nil, ↓reduceIte, Nat.reduceEqDiff, Nat.reduceAdd, Nat.reduceMul, reduceCtorEq, and_true, true_and, Nat.mul_one, Nat.zero_add, Bool.false_eq_true, decide_true, decide_false, not_false_eq_true, kont_eq]; rfl, hS4, by omega, by omega, by simpa [gl] using hM.inv, hA, fun a ha => by omega, fun b hb => ⟨fun h => (by rw [gb_rep 256 b hb] at h; cases h), fun ⟨a, ha, _⟩ => by omega⟩, Keep.refl _ _⟩ ?_
      rintro n f H4 ⟨i, bl, c, X, st, F, hi, rfl, hf, S4, hcX, hbl, hI, hA, hLT, hF, K4⟩
      simp only [go_sem, List.map_cons, List.map_nil, ↓reduceIte, Nat.reduceEqDiff, Nat.reduceAdd, Nat.reduceMul, reduceCtorEq, and_true, true_and, Nat.mul_one, Nat.zero_add, Bool.false_eq_true, decide_true, decide_false, not_false_eq_true, kont_eq] at hf
      simp only [go_sem, List.map_cons, List.map_nil, ↓reduceIte, Nat.reduceEqDiff, Nat.reduceAdd, Nat.reduceMul, reduceCtorEq, and_true, true_and, Nat.mul_one, Nat.zero_add, Bool.false_eq_true, decide_true, decide_false, not_false_eq_true, hf]
      refine iteV_dec (fun hlt => ?_) (fun hge => ?_)
      · have hlt : i < ps.length := by omega
        have s4 := K4.size
        have c0 : cell H4 ⟨s, 0, none⟩ = some gv := by rw [S4.S.cell]; rfl
        obtain ⟨gb, go, gc, rfl, -, hgc⟩ := S4.sl.cells (by intro e; rw [e, List.length_nil] at hgvl; omega)
        have hgi := hgc i (by rw [hgvl]; exact hlt)
        have hvi : vs[i]? = some (vs.getD i undef) := by rw [List.getD_eq_getElem?_getD, List.getElem?_eq_getElem (by rw [hgvl]; exact hlt)]; rfl
        rw [hvi] at hgi
        have hAt := S4.at_ i (by rw [hgl]; exact hlt)
        have hlm : (gl ps).getD i [] = mems (ps.getD i fun _ => false) := getD_mems ps i hlt
        have hEl : ∀ j, Eg (gl ps) i j ↔ j ∈ (gl ps).getD i [] := fun j => Iff.rfl
        have hsort : ∀ a b, a < b → b < ((gl ps).getD i []).length → ((gl ps).getD i []).getD a 0 < ((gl ps).getD i []).getD b 0 := by
          rw [hlm]; exact fun a b => mems_lt _
        have hll : ((gl ps).getD i []).length ≤ 4096 := c3 i
        have hl256 : ∀ j ∈ (gl ps).getD i [], j < 256 := c2 i
        have hzu : ∀ k, slB (vs.getD i undef) k → Z' k := fun k hk => S4.z2 i k (by rw [hgl]; exact hlt) hk
        generalize hu : vs.getD i undef = u at hgi hAt hzu
        obtain ⟨l, hl⟩ : ∃ l, l = (gl ps).getD i [] := ⟨_, rfl⟩
        rw [← hl] at hAt hEl hsort hll hl256
        have hivs : i < vs.length := by rw [hgvl]; exact hlt
        have hul : lenV u = l.length := by rw [hAt.len, iL_len, nI_len]
        simp only [go_sem, List.map_cons, List.map_nil, ↓reduceIte, Nat.reduceEqDiff, Nat.reduceAdd, Nat.reduceMul, reduceCtorEq, and_true, true_and, Nat.mul_one, Nat.zero_add, Bool.false_eq_true, decide_true, decide_false, not_false_eq_true, c0, hgi, tn_cast, Nat.mul_one, hAt.isSl, hul]
        refine ⟨by omega, ?_⟩
        refine vc_mono ?_ ?_ (Q := fun e f' H' => e = .x 2 ∧ f' 4 = .pointer (some ⟨s, 0, none⟩) ∧ f' 5 = .int .i64 i ∧ f' 25 = .int .i64 i ∧ ∃ (bl c : Nat) (X : List Value) (st' : Sst), SrG H' s bl c X (.slice (some ⟨gb, go, none⟩) vs.length gc) vs (gl ps) Z' st' F ∧ ps.length ≤ c ∧ H.size ≤ bl ∧
            Inv ps.length 256 (Eg (gl ps)) (gi st'.L) (gi st'.R) ∧ (∀ a < ps.length, 0 ≤ gi st'.L a) ∧ (∀ a < i, gi st'.L a = gi st.L a) ∧ (∀ L', Pf ps.length 256 (Eg (gl ps)) L' → (∀ b < i, L' b = gi st.L b) → gi st'.L i ≤ L' i) ∧ Keep (fun k => H.size ≤ k) H3' H')
        · rintro e f5 H5 ⟨rfl, hf4, hf5, hf25, bl, c, X, st', S5, hcX, hbl, hI', hA', hLa, hLe, K5⟩
          have hj0 := hA' i hlt
          obtain ⟨hj1, hj2⟩ := hI'.mt.at hlt hj0
          obtain ⟨j, hj⟩ : ∃ j : Nat, gi st'.L i = (j : Int) := ⟨(gi st'.L i).toNat, by omega⟩
          have hj256 : j < 256 := by omega
          have c1 : cell H5 ⟨s, 1, none⟩ = some (.slice (some ⟨bl, 0, none⟩) ps.length c) := by rw [S5.S.cell, S5.lL, hgl]; rfl
          have cL : cell H5 ⟨bl, i, none⟩ = some (.int .i64 (j : Int)) := by
            have hal : i < st'.L.length := by rw [S5.lL, hgl]; exact hlt
            rw [S5.L.cell, List.getElem?_append_left (by rw [iL_len]; exact hal), iL_get _ _ hal, ← hj]
            unfold gi
            simp [List.getD_eq_getElem?_getD, hal]
          have okF : (cell H5 ⟨s, 258 + j, none⟩).isSome = true ∧ frz H5 ⟨s, 258 + j, none⟩ = false := S5.S.okSt (o := 258 + j) (by rw [srL_len S5.lR S5.lF S5.lS]; omega)
          have S6 := S5.setF hj256 true
          have K6 : Keep (fun k => H.size ≤ k) H5 (setc H5 ⟨s, 258 + j, none⟩ (.bool true)) := (Keep.refl _ _).setc _ (.inl (by show H.size ≤ s; omega))
          have hF6 : F.length = 256 := S5.lF
          simp (disch := omega) only [go_sem, List.map_cons, List.map_nil, ↓reduceIte, Nat.reduceEqDiff, Nat.reduceAdd, Nat.reduceMul, reduceCtorEq, and_true, true_and, Nat.mul_one, Nat.zero_add, Bool.false_eq_true, decide_true, decide_false, not_false_eq_true, kont_eq, hf4, hf5, hf25, c1, cL, tn_cast, Nat.mul_one, okF, IntWalk.i64_in]
          refine ⟨by omega, by omega, ps.length - (i + 1), by omega, i + 1, bl, c, X, st', F.set j true, by omega, rfl, by simp, S6, hcX, hbl, hI', hA', fun a ha L' p' hb => ?_, fun b hb => ?_, K5.trans K6⟩
          · by_cases e : a = i
            · subst e
              exact hLe L' p' (fun b hb' => by rw [hb b hb', hLa b hb'])
            · rw [hLa a (by omega)]
              exact hLT a (by omega) L' p' (fun b hb' => by rw [hb b hb', hLa b (by omega)])
          · rw [gb_set]
            by_cases e : b = j
            · subst e; rw [if_pos ⟨rfl, by omega⟩]; exact ⟨fun _ => ⟨i, by omega, hj⟩, fun _ => rfl⟩
            · rw [if_neg (fun h => e h.1), hF b hb]
              refine ⟨fun ⟨a, ha, h⟩ => ⟨a, by omega, by rw [hLa a ha]; exact h⟩, fun ⟨a, ha, h⟩ => ?_⟩
              by_cases e2 : a = i
              · subst e2; omega
              · exact ⟨a, by omega, by rw [← hLa a (by omega)]; exact h⟩
        · refine vc_loop [37, 7, 45, 60, 36] rfl (fun n f H' => ∃ (q bl c : Nat) (X : List Value) (Se : List Bool), q ≤ l.length ∧ n = l.length - q ∧ f 36 = .int .i64 q ∧ SrG H' s bl c X (.slice (some ⟨gb, go, none⟩) vs.length gc) vs (gl ps) Z' ⟨st.L, st.R, Se⟩ F ∧ ps.length ≤ c ∧ H.size ≤ bl ∧
              (∀ p < q, ∀ L', Pf ps.length 256 (Eg (gl ps)) L' → (∀ b < i, L' b = gi st.L b) → L' i ≠ (l.getD p 0 : Int)) ∧ Keep (fun k => H.size ≤ k) H3' H') l.length
            ⟨0, bl, c, X, st.Se, by omega, by omega, by simp only [go_sem, List.map_cons, List.map_nil, ↓reduceIte, Nat.reduceEqDiff, Nat.reduceAdd, Nat.reduceMul, reduceCtorEq, and_true, true_and, Nat.mul_one, Nat.zero_add, Bool.false_eq_true, decide_true, decide_false, not_false_eq_true, kont_eq]; rfl, S4, hcX, hbl, fun p hp => by omega, K4⟩ ?_
          rintro n f6 H5 ⟨q, bl, c, X, Se5, hq, rfl, hf6, S5, hcX, hbl, hno, K5⟩
          simp only [go_sem, List.map_cons, List.map_nil, ↓reduceIte, Nat.reduceEqDiff, Nat.reduceAdd, Nat.reduceMul, reduceCtorEq, and_true, true_and, Nat.mul_one, Nat.zero_add, Bool.false_eq_true, decide_true, decide_false, not_false_eq_true, kont_eq] at hf6
          simp only [go_sem, List.map_cons, List.map_nil, ↓reduceIte, Nat.reduceEqDiff, Nat.reduceAdd, Nat.reduceMul, reduceCtorEq, and_true, true_and, Nat.mul_one, Nat.zero_add, Bool.false_eq_true, decide_true, decide_false, not_false_eq_true, hf6]
          refine iteV_dec (fun hlq => ?_) (fun hge => ?_)
          · have hlq : q < l.length := by omega
            have s5 := K5.size
            have hA5 : SlR H5 u (iL (nI l)) := by
              have := S5.at_ i (by rw [hgl]; exact hlt)
              rw [hu, ← hl] at this; exact this
            obtain ⟨lb, lo, lc, rfl, -, hlc⟩ := hA5.cells (by intro e; have h := congrArg List.length e; rw [iL_len, nI_len, List.length_nil] at h; omega)
            rw [iL_len, nI_len] at hlc
            have hcq := hlc q hlq
            rw [iL_get _ _ (by rw [nI_len]; exact hlq), nI_get _ _ hlq] at hcq
            have hjE : l.getD q 0 ∈ l := by rw [List.getD_eq_getElem?_getD, List.getElem?_eq_getElem hlq]; exact List.getElem_mem _
            have hle := fun (st2 : Nat → Int) (h : st2 i = (l.getD q 0 : Int)) => fun L' (p' : Pf ps.length 256 (Eg (gl ps)) L') (hb : ∀ b < i, L' b = gi st.L b) => show st2 i ≤ L' i by
              have := (least_at hlt hsort (fun j h => (hEl j).1 h) hno L' p' hb).1
              omega
            have next : ∀ (H6 : Hp) (bl c : Nat) (X : List Value) (Se : List Bool), SrG H6 s bl c X (.slice (some ⟨gb, go, none⟩) vs.length gc) vs (gl ps) Z' ⟨st.L, st.R, Se⟩ F → ps.length ≤ c → H.size ≤ bl → (∀ L', Pf ps.length 256 (Eg (gl ps)) L' → (∀ b < i, L' b = gi st.L b) → L' i ≠ (l.getD q 0 : Int)) → Keep (fun k => H.size ≤ k) H3' H6 →
                ∃ n', n' < l.length - q ∧ ∃ (q' bl c : Nat) (X : List Value) (Se : List Bool), q' ≤ l.length ∧ n' = l.length - q' ∧ (q + 1 : Nat) = q' ∧ SrG H6 s bl c X (.slice (some ⟨gb, go, none⟩) vs.length gc) vs (gl ps) Z' ⟨st.L, st.R, Se⟩ F ∧ ps.length ≤ c ∧ H.size ≤ bl ∧
                  (∀ p < q', ∀ L', Pf ps.length 256 (Eg (gl ps)) L' → (∀ b < i, L' b = gi st.L b) → L' i ≠ (l.getD p 0 : Int)) ∧ Keep (fun k => H.size ≤ k) H3' H6 :=
              fun H6 bl c X Se a1 a2 a3 a4 a5 => ⟨l.length - (q + 1), by omega, q + 1, bl, c, X, Se, by omega, rfl, rfl, a1, a2, a3, fun p hp L' p' hb => by
                by_cases e : p = q
                · subst e; exact a4 L' p' hb
                · exact hno p (by omega) L' p' hb, a5⟩
            generalize l.getD q 0 = j at *
            have hj := hl256 j hjE
            have cF : cell H5 ⟨s, 258 + j, none⟩ = some (.bool (gb' F j)) := by rw [S5.S.cell, srL_F S5.lR S5.lF hj]
            cases hFj : gb' F j with
            | true =>
              obtain ⟨a, ha, hLa⟩ := (hF j hj).1 hFj
              obtain ⟨n', a1, q', bl', c', X', Se', a2, a3, a4, a5⟩ := next H5 bl c X Se5 S5 hcX hbl (fun L' p' hb e => by
                have := p'.m.inj a (by omega) i hlt (by rw [hb a ha, hLa, e]) (by rw [hb a ha, hLa]; omega)
                omega) K5
              rw [hFj] at cF
              simp (disch := omega) only [go_sem, List.map_cons, List.map_nil, ↓reduceIte, Nat.reduceEqDiff, Nat.reduceAdd, Nat.reduceMul, reduceCtorEq, and_true, true_and, Nat.mul_one, Nat.zero_add, Bool.false_eq_true, decide_true, decide_false, not_false_eq_true, kont_eq, hf6, iL_len, nI_len, tn_cast, Nat.mul_one, hcq, cF, IntWalk.i64_in]
              exact ⟨by omega, by omega, n', a1, q', bl', c', X', Se', a2, a3, by rw [← a4]; simp, a5⟩
            | false =>
              rw [hFj] at cF
              have c1 : cell H5 ⟨s, 1, none⟩ = some (.slice (some ⟨bl, 0, none⟩) ps.length c) := by rw [S5.S.cell, S5.lL, hgl]; rfl
              have cL : cell H5 ⟨bl, i, none⟩ = some (.int .i64 (gi st.L i)) := by
                have hal : i < st.L.length := by have := S5.lL; rw [hgl] at this; simp only at this; omega
                rw [S5.L.cell, List.getElem?_append_left (by rw [iL_len]; exact hal), iL_get _ _ hal]
                unfold gi
                simp [List.getD_eq_getElem?_getD, hal]
              by_cases hji : (j : Int) = gi st.L i
              · have e1 : ((j : Int) == gi st.L i) = true := by simpa using hji
                simp (disch := omega) only [go_sem, List.map_cons, List.map_nil, ↓reduceIte, Nat.reduceEqDiff, Nat.reduceAdd, Nat.reduceMul, reduceCtorEq, and_true, true_and, Nat.mul_one, Nat.zero_add, Bool.false_eq_true, decide_true, decide_false, not_false_eq_true, kont_eq, hf6, iL_len, nI_len, tn_cast, Nat.mul_one, hcq, cF, c1, cL, e1]
                exact ⟨by omega, by omega, by omega, hf, bl, c, X, _, S5, hcX, hbl, hI, hA, fun _ _ => rfl, hle _ hji.symm, K5⟩
              · have e1 : ((j : Int) == gi st.L i) = false := by simpa using hji
                simp (disch := omega) only [go_sem, List.map_cons, List.map_nil, ↓reduceIte, Nat.reduceEqDiff, Nat.reduceAdd, Nat.reduceMul, reduceCtorEq, and_true, true_and, Nat.mul_one, Nat.zero_add, Bool.false_eq_true, decide_true, decide_false, not_false_eq_true, hf6, iL_len, nI_len, tn_cast, Nat.mul_one, hcq, cF, c1, cL, e1]
                obtain ⟨p, hp⟩ : ∃ p : Nat, gi st.L i = (p : Int) := ⟨(gi st.L i).toNat, by have := hA i hlt; omega⟩
                have hm6 := hmv H5 s bl c X _ vs (gl ps) Z' ⟨st.L, st.R, Se5⟩ F i j p S5 (fun k h => by have := hZo k h; omega) c2 c3 (by rw [hgl]; exact c1') (by rw [hgl]; exact hI) (by rw [hgl]; exact hA) (by rw [hgl]; exact hlt) hj ((hEl j).2 hjE) hp (by omega) hF hFj (by rw [hgl]; exact hcX)
                refine ⟨by omega, by omega, by omega, ?_⟩
                refine hm6.mono ?_
                rintro r H6 ⟨b, bl', c', X', st', rfl, S6, hbl', hc', hok, K6⟩
                rw [hgl] at hc' hok
                have hbl6 : H.size ≤ bl' := by
                  have := K5.size
                  rcases hbl' with h | h <;> omega
                have K56 : Keep (fun k => H.size ≤ k) H3' H6 := K5.trans (K6.mono (fun k _ h => by
                  rcases h with h | h
                  · show H.size ≤ k; omega
                  · show H.size ≤ k; omega))
                cases b with
                | true =>
                  obtain ⟨o1, o2, o3, o4⟩ := hok.1 rfl
                  simp only [go_sem, List.map_cons, List.map_nil, ↓reduceIte, Nat.reduceEqDiff, Nat.reduceAdd, Nat.reduceMul, reduceCtorEq, and_true, true_and, Nat.mul_one, Nat.zero_add, Bool.false_eq_true, decide_true, decide_false, not_false_eq_true, kont_eq]
                  exact ⟨hf, bl', c', X', st', S6, hc', hbl6, o1, o2, o4, hle _ o3, K56⟩
                | false =>
                  obtain ⟨o1, o2, o3⟩ := hok.2 rfl
                  obtain ⟨L6, R6, Se6⟩ := st'
                  simp only at o1 o2
                  subst o1 o2
                  obtain ⟨n', a1, q', bl'', c'', X'', Se', a2, a3, a4, a5⟩ := next H6 bl' c' X' Se6 S6 hc' hbl6 o3 K56
                  simp (disch := omega) only [go_sem, List.map_cons, List.map_nil, ↓reduceIte, Nat.reduceEqDiff, Nat.reduceAdd, Nat.reduceMul, reduceCtorEq, and_true, true_and, Nat.mul_one, Nat.zero_add, Bool.false_eq_true, decide_true, decide_false, not_false_eq_true, kont_eq, hf6, IntWalk.i64_in]
                  exact ⟨n', a1, q', bl'', c'', X'', Se', a2, a3, by rw [← a4]; simp, a5⟩
          · have hql : q = l.length := by omega
            subst hql
            have hpf : Pf ps.length 256 (Eg (gl ps)) (gi st.L) := ⟨hI.mt, hA⟩
            have := (least_at hlt hsort (fun j h => (hEl j).1 h) hno _ hpf (fun _ _ => rfl)).2
            omega
      · have hil : i = ps.length := by omega
        subst hil
        have c1 : cell H4 ⟨s, 1, none⟩ = some (.slice (some ⟨bl, 0, none⟩) ps.length c) := by rw [S4.S.cell, S4.lL, hgl]; rfl
        have hLl : st.L.length = ps.length := by rw [S4.lL, hgl]
        have hsl : SlR H4 (.slice (some ⟨bl, 0, none⟩) ps.length c) (iL st.L) := by
          have := SlR.bl S4.L 0 ps.length c hcX (by rw [List.length_append, iL_len, hLl]; omega)
          rwa [List.drop_zero, List.take_append_of_le_length (by rw [iL_len, hLl]; omega), List.take_of_length_le (by rw [iL_len, hLl]; omega)] at this
        simp only [c1, Option.isSome_some, Option.getD_some, true_and]
        subst hR
        exact ⟨.inr ⟨_, st.L, h0, ⟨hI.mt, hA⟩, hLT, hLl, rfl, hsl, fun k hk => by have hk : k = bl := hk.1; omega⟩, K03.at_old K4 (by omega)⟩
  · have e0 : (chkF ps != 0) = true := by simpa using h0
    simp only [go_sem, List.map_cons, List.map_nil, ↓reduceIte, Nat.reduceEqDiff, Nat.reduceAdd, Nat.reduceMul, reduceCtorEq, and_true, true_and, Nat.mul_one, Nat.zero_add, Bool.false_eq_true, decide_true, decide_false, not_false_eq_true, kont_eq, e0]
    subst hR
    exact ⟨.inl ⟨.inl h0, rfl⟩, K1⟩
end Go.Mg

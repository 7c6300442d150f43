/- matching: the search from its beginning to a maximum matching, walked. -/
import Derived.Test.YtihlnbepcimnfaaDoorMgM6
namespace Go.Mg
open Go Go.RowKit
set_option linter.unusedSimpArgs false
set_option linter.unusedVariables false
set_option maxRecDepth 100000
/- matching.begin -/
def c_mbegin (ι : Ids) : S :=
  .seq (.reg [.p (.v 2) (.mv (.c (.pointer .none)))]) (.seq (.reg [.p (.t 7) (.mv (.v 0)), .p (.t 8) (.m (.lenl (.t 7))), .e (.t 9) (.mkS (ι.t 26) 1 8 #[.int .i64 0] (.t 8) (.t 8)), .p (.t 10) (.m (.bld
  zSearch [(1, (1, .t 9))])), .e (.t 11) (.box (ι.t 145) (.t 10)), .p (.v 3) (.mv (.t 11))]) (.seq (.seq (.reg [.p (.v 12) (.mv (.v 0)), .p (.v 13) (.m (.lenl (.v 12))), .p (.v 14) (.mv (.c (.int .i64
  0)))]) (.blk 0 (.loop (.seq (.reg [.p (.v 15) (.cm .lss .i64 (.v 14) (.v 13))]) (.seq (.ite (.v 15) .skip (.exit 0)) (.seq (.blk 1 (.seq (.reg [.p (.t 16) (.mv (.v 14)), .p (.t 17) (.is 1 (.v 12) (.v
  14)), .p (.t 18) (.m (.ldn 1 (.t 17))), .e (.v 5) (.new (ι.t 128) #[.slice .none 0 0]), .p (.v 4) (.mv (.t 16)), .e .no (.stn 1 (.v 5) (.t 18))]) (.seq (.dr (.px (.t 19) .none (.mv (.v 3)) (.px (.t
  20) .none (.mv (.v 3)) (.px (.t 21) .none (.nil (.t 20)) (.px (.t 22) .none (.fa 0 (.t 21)) (.px (.t 24) .none (.m (.ldn 1 (.v 5))) (.wcons (.t 23) .none (.rd (.ld (.t 22))) (.wcons (.t 25) .none
  (.call (ι.f 139) [.t 24]) (.wcons (.t 26) .none (.bldF (ι.t 138) 1 1 [.t 25]) (.wcons (.t 27) .none (.app false (ι.t 138) 1 24 #[.slice .none 0 0] (.t 23) (.t 26)) (.px (.t 28) .none (.nil (.t 19))
  (.px (.t 29) .none (.fa 0 (.t 28)) (.wcons .no .none (.st (.t 29) (.t 27)) .done .wnil))) .wnil) .wnil) .wnil) (.wcons (.t 25) .none (.call (ι.f 139) [.t 24]) (.wcons (.t 23) .none (.rd (.ld (.t 22)))
  (.wcons (.t 26) .none (.bldF (ι.t 138) 1 1 [.t 25]) (.wcons (.t 27) .none (.app false (ι.t 138) 1 24 #[.slice .none 0 0] (.t 23) (.t 26)) (.px (.t 28) .none (.nil (.t 19)) (.px (.t 29) .none (.fa 0
  (.t 28)) (.wcons .no .none (.st (.t 29) (.t 27)) .done .wnil))) .wnil) .wnil) (.wcons (.t 26) .none (.bldF (ι.t 138) 1 1 [.t 25]) (.wcons (.t 23) .none (.rd (.ld (.t 22))) (.wcons (.t 27) .none (.app
  false (ι.t 138) 1 24 #[.slice .none 0 0] (.t 23) (.t 26)) (.px (.t 28) .none (.nil (.t 19)) (.px (.t 29) .none (.fa 0 (.t 28)) (.wcons .no .none (.st (.t 29) (.t 27)) .done .wnil))) .wnil) .wnil)
  .wnil)) .wnil)))))))) (.reg [.p (.t 30) (.mv (.v 3)), .p (.t 31) (.nil (.t 30)), .p (.t 32) (.fa 1 (.t 31)), .p (.t 33) (.ld (.t 32)), .p (.t 34) (.mv (.v 4)), .p (.t 35) (.is 1 (.t 33) (.t 34)), .e
  .no (.st (.t 35) (.c (.int .i64 (-1))))])))) (.reg [.p (.t 36) (.ar .add .i64 (.v 14) (.c (.int .i64 1))), .p (.v 14) (.mv (.t 36))]))))))) (.seq (.seq (.reg [.p (.v 37) (.mv (.c (.int .i64 0)))])
  (.blk 2 (.loop (.seq (.reg [.p (.v 38) (.cm .lss .i64 (.v 37) (.c (.int .i64 256)))]) (.seq (.ite (.v 38) .skip (.exit 2)) (.seq (.blk 3 (.seq (.reg [.p (.t 39) (.mv (.v 37)), .p (.v 6) (.mv (.t
  39))]) (.reg [.p (.t 40) (.mv (.v 3)), .p (.t 41) (.mv (.v 6)), .p (.t 42) (.nil (.t 40)), .p (.t 43) (.fa 2 (.t 42)), .p (.t 44) (.ia 256 1 (.t 43) (.t 41)), .e .no (.st (.t 44) (.c (.int .i64
  (-1))))]))) (.reg [.p (.t 45) (.ar .add .i64 (.v 37) (.c (.int .i64 1))), .p (.v 37) (.mv (.t 45))]))))))) (.seq (.reg [.p (.t 46) (.mv (.v 3)), .p (.v 2) (.mv (.t 46))]) .ret))))
def r_mbegin : List RV := [.t 2]
/- (ptr matching.search).maximum -/
def c_mmaxi (ι : Ids) : S :=
  .seq (.reg [.p (.t 3) (.mv (.v 0)), .p (.t 4) (.nil (.t 3)), .p (.t 5) (.fa 0 (.t 4)), .p (.t 6) (.ld (.t 5)), .p (.v 7) (.m (.lenl (.t 6))), .p (.v 8) (.mv (.c (.int .i64 0)))]) (.blk 0 (.loop (.seq
  (.reg [.p (.v 9) (.cm .lss .i64 (.v 8) (.v 7))]) (.seq (.ite (.v 9) .skip (.exit 0)) (.seq (.blk 1 (.seq (.reg [.p (.t 10) (.mv (.v 8)), .p (.v 2) (.mv (.t 10))]) (.seq (.reg [.p (.t 11) (.mv (.v 0)),
  .p (.t 12) (.m (.bld (Array.replicate 256 (.bool false)) [])), .p (.t 13) (.nil (.t 11)), .p (.t 14) (.fa 514 (.t 13)), .e .no (.stn 256 (.t 14) (.t 12))]) (.reg [.p (.t 15) (.mv (.v 0)), .p (.t 16)
  (.mv (.v 2)), .e (.t 17) (.call (ι.f 147) [.t 15, .t 16])])))) (.reg [.p (.t 18) (.ar .add .i64 (.v 8) (.c (.int .i64 1))), .p (.v 8) (.mv (.t 18))]))))))
def r_mmaxi : List RV := []

/-! ### maximum -/
def MaxiSpec (P : Program) (k : FuncId) : Prop := ∀ (H : Hp) (s bl : Nat) (gv : Value) (vs : List Value) (g : List (List Nat)) (Z : Nat → Prop) (st : Sst), SrH H s bl gv vs g Z st (List.replicate 256 false) → (∀ i, ∀ j ∈ g.getD i [], j < 256) → (∀ i, (g.getD i []).length ≤ 4096) → g.length ≤ 256 →
  st.L = List.replicate g.length (-1) → st.R = List.replicate 256 (-1) →
  CallsM P k #[.pointer (some ⟨s, 0, none⟩)] H fun _ H' => ∃ L R Se, SrH H' s bl gv vs g Z ⟨L, R, Se⟩ (List.replicate 256 false) ∧ MaxS g.length 256 (Eg g) g.length L R ∧ Keep (fun k => k = s ∨ k = bl) H H'
theorem mmaxi_ok {P : Program} {ι : Ids} {k : FuncId} (hk : FnIs P k (c_mmaxi ι) r_mmaxi 1) (ha : AugSpec P (ι.f 147) 257) : MaxiSpec P k := by
  intro H s bl gv vs g Z st hH hg hgl hgn hL hR
  refine calls_of_vc hk (args := [_]) (by simp) ?_
  unfold c_mmaxi r_mmaxi
  have hc0 : cell H ⟨s, 0, none⟩ = some gv := by rw [hH.S.cell]; rfl
  simp only [go_sem, List.map_cons, List.map_nil, ↓reduceIte, Nat.reduceEqDiff, Nat.reduceAdd, Nat.reduceMul, reduceCtorEq, and_true, true_and, Nat.mul_one, Nat.zero_add, Bool.false_eq_true, decide_true, decide_false, not_false_eq_true, kont_eq, hc0, hH.sl.isSl, hH.sl.len, hH.len]
  refine vc_loop [9, 2, 8] rfl (fun n f H' => ∃ (i : Nat) (L R : List Int) (Se : List Bool), i ≤ g.length ∧ n = g.length - i ∧ f 8 = .int .i64 i ∧ SrH H' s bl gv vs g Z ⟨L, R, Se⟩ (List.replicate 256 false) ∧ MaxS g.length 256 (Eg g) i L R ∧ Keep (fun k => k = s ∨ k = bl) H H') g.length
    ⟨0, st.L, st.R, st.Se, by omega, by omega, by simp only [go_sem, List.map_cons, List.map_nil, ↓reduceIte, Nat.reduceEqDiff, Nat.reduceAdd, Nat.reduceMul, reduceCtorEq, and_true, true_and, Nat.mul_one, Nat.zero_add, Bool.false_eq_true, decide_true, decide_false, not_false_eq_true, kont_eq]; rfl, hH, by rw [hL, hR]; exact MaxS.start _ _ _, Keep.refl _ _⟩ ?_
  rintro n f H1 ⟨i, L, R, Se, hi, rfl, hf, hH1, hM, K1⟩
  simp only [go_sem, List.map_cons, List.map_nil, ↓reduceIte, Nat.reduceEqDiff, Nat.reduceAdd, Nat.reduceMul, reduceCtorEq, and_true, true_and, Nat.mul_one, Nat.zero_add, Bool.false_eq_true, decide_true, decide_false, not_false_eq_true, kont_eq] at hf
  simp only [go_sem, List.map_cons, List.map_nil, ↓reduceIte, Nat.reduceEqDiff, Nat.reduceAdd, Nat.reduceMul, reduceCtorEq, and_true, true_and, Nat.mul_one, Nat.zero_add, Bool.false_eq_true, decide_true, decide_false, not_false_eq_true, hf]
  refine iteV_dec (fun hlt => ?_) (fun hge => ?_)
  · have hlt : i < g.length := by omega
    have hfill : ∀ r : A → Value, fillV r (Array.replicate 256 (Value.bool false)) [] = Array.replicate 256 (Value.bool false) := fun r => rfl
    have hbl : (Array.replicate 256 (Value.bool false)).toList = bL (List.replicate 256 false) := by simp [bL]
    have hall : all1 (Array.replicate 256 (Value.bool false)) := by
      intro y hy
      rw [Array.toList_replicate] at hy
      rw [List.eq_of_mem_replicate hy]; rfl
    have hok := hH1.S.okNA (o := 514) (n := 256) (by rw [srL_len hH1.lR hH1.lF hH1.lS]; omega)
    have hH2 := hH1.resetSe (S' := List.replicate 256 false) (by simp)
    have K2 : Keep (fun k => k = s ∨ k = bl) H1 (stNA H1 ⟨s, 514, none⟩ (bL (List.replicate 256 false))) := (Keep.refl _ _).stNA _ (.inl (.inl rfl))
    simp only [go_sem, List.map_cons, List.map_nil, ↓reduceIte, Nat.reduceEqDiff, Nat.reduceAdd, Nat.reduceMul, reduceCtorEq, and_true, true_and, Nat.mul_one, Nat.zero_add, Bool.false_eq_true, decide_true, decide_false, not_false_eq_true, hf, hfill, cells_agg, hbl, okN_ptr, stNH_ptr, hok, hall, Array.size_replicate]
    refine ⟨trivial, ?_⟩
    generalize stNA H1 ⟨s, 514, none⟩ (bL (List.replicate 256 false)) = H2 at hH2 K2 ⊢
    rw [kont_eq]
    simp only [go_sem, List.map_cons, List.map_nil, ↓reduceIte, Nat.reduceEqDiff, Nat.reduceAdd, Nat.reduceMul, reduceCtorEq, and_true, true_and, Nat.mul_one, Nat.zero_add, Bool.false_eq_true, decide_true, decide_false, not_false_eq_true, hf]
    have hu := uns_rep 256
    refine (ha H2 s bl gv vs g Z ⟨L, R, List.replicate 256 false⟩ (List.replicate 256 false) i hH2 hg hgl hgn (by simp only; omega) hM.inv hlt (.inl (hM.out i (Nat.le_refl _) hlt))).mono ?_
    rintro r H3 ⟨rfl, hH3, K3⟩
    have hM3 := hM.step hg hlt 257 (by omega)
    simp (disch := omega) only [go_sem, List.map_cons, List.map_nil, ↓reduceIte, Nat.reduceEqDiff, Nat.reduceAdd, Nat.reduceMul, reduceCtorEq, and_true, true_and, Nat.mul_one, Nat.zero_add, Bool.false_eq_true, decide_true, decide_false, not_false_eq_true, kont_eq, hf, IntWalk.i64_in]
    exact ⟨g.length - (i + 1), by omega, i + 1, _, _, _, by omega, rfl, by simp, hH3, hM3, (K1.trans K2).trans K3⟩
  · have : i = g.length := by omega
    subst this
    exact ⟨L, R, Se, hH1, hM, K1⟩
/-! ### begin -/
def zList : List Value := .slice none 0 0 :: .slice none 0 0 :: (List.replicate 256 (.int .i64 0) ++ List.replicate 512 (.bool false))
theorem zSearch_list : zSearch.toList = zList := rfl
theorem zList_sr : zList = srL (.slice none 0 0) (.slice none 0 0) (List.replicate 256 0) (List.replicate 256 false) (List.replicate 256 false) := by
  unfold zList srL
  rw [iL, bL, List.map_replicate, List.map_replicate, List.replicate_append_replicate]
theorem GrH.elt {H : Hp} {v : Value} {ps : List (Nat → Bool)} {Z : Nat → Prop} {vs : List Value} (h : GrH H v ps Z vs) {i : Nat} (hi : i < ps.length) : ∃ b o c, v = .slice (some ⟨b, o, none⟩) ps.length c ∧ ldNA H ⟨b, o + i, none⟩ 1 = some #[vs.getD i undef] ∧ cell H ⟨b, o + i, none⟩ = some (vs.getD i undef) := by
  obtain ⟨b, o, c, rfl, -, hc⟩ := h.sl.cells (by intro e; have := h.len; rw [e, List.length_nil] at this; omega)
  rw [h.len] at hc
  have hci := hc i hi
  have hvi : vs[i]? = some (vs.getD i undef) := by rw [List.getD_eq_getElem?_getD, List.getElem?_eq_getElem (by rw [h.len]; exact hi)]; rfl
  rw [hvi] at hci
  refine ⟨b, o, c, by rw [h.len], ?_, hci⟩
  obtain ⟨C, T, z, hb, hz⟩ : ∃ C T z, H[b]? = some (.cells C T z) ∧ C[o + i]? = some (vs.getD i undef) := by
    simp only [cell] at hci
    split at hci
    · rename_i C T z hb; exact ⟨C, T, z, hb, by simpa using hci⟩
    · cases hci
  have hlt2 := (Array.getElem?_eq_some_iff.1 hz).1
  simp only [ldNA, hb, Option.isSome_none, Bool.false_eq_true, if_false]
  rw [if_pos (by omega)]
  congr 1
  apply Array.ext'
  rw [Array.toList_extract, List.extract_eq_take_drop]
  have : o + i < C.toList.length := by simpa using hlt2
  rw [List.drop_eq_getElem_cons this]
  have e1 : o + i + 1 - (o + i) = 1 := by omega
  rw [e1]
  have := (Array.getElem?_eq_some_iff.1 hz).2
  simpa using this
/-- s is a search over the graph's lists, all its blocks are new since n0 -/
def BegSpec (P : Program) (ι : Ids) (k : FuncId) : Prop := ∀ (ps : List (Nat → Bool)) (v : Value) (Z : Nat → Prop) (H : Hp), TabOk ι H → GrM H v ps Z → ps.length ≤ 100000 →
  CallsM P k #[v] H fun r H' => ∃ s bl gv vs Se, r = .pointer (some ⟨s, 0, none⟩) ∧ SrH H' s bl gv vs (ps.map mems) (fun k => H.size ≤ k ∧ k ≠ s ∧ k ≠ bl) ⟨List.replicate ps.length (-1), List.replicate 256 (-1), Se⟩ (List.replicate 256 false) ∧ Keep (fun _ => False) H H' ∧ H.size ≤ s ∧ H.size ≤ bl
theorem getD_mems (ps : List (Nat → Bool)) (i : Nat) (hi : i < ps.length) : (ps.map mems).getD i [] = mems (ps.getD i fun _ => false) := by
  simp [List.getD_eq_getElem?_getD, hi]
theorem mbegin_ok {P : Program} {ι : Ids} {k : FuncId} (hk : FnIs P k (c_mbegin ι) r_mbegin 1) (hl : BListSpec P ι (ι.f 139)) : BegSpec P ι k := by
  intro ps v Z H hT ⟨gs, hv⟩ hn
  refine calls_of_vc hk (args := [_]) (by simp) ?_
  unfold c_mbegin r_mbegin
  simp only [go_sem, List.map_cons, List.map_nil, ↓reduceIte, Nat.reduceEqDiff, Nat.reduceAdd, Nat.reduceMul, reduceCtorEq, and_true, true_and, Nat.mul_one, Nat.zero_add, Bool.false_eq_true, decide_true, decide_false, not_false_eq_true, hv.sl.isSl, hv.sl.len, hv.len, tn_cast]
  refine ⟨⟨by omega, by omega, by unfold maxLen; omega⟩, ?_⟩
  refine kont_news fun H1 bl e1 z1 B1 K1 => ?_
  simp only [go_sem, List.map_cons, List.map_nil, ↓reduceIte, Nat.reduceEqDiff, Nat.reduceAdd, Nat.reduceMul, reduceCtorEq, and_true, true_and, Nat.mul_one, Nat.zero_add, Bool.false_eq_true, decide_true, decide_false, not_false_eq_true, fillV_nil, fillV_cons, okFill_nil, okFill_cons, cells_slice, cells_int, cells_bool, cells_str, cells_ptr, cells_agg, stNH_ptr, okN_ptr, wrA1, wrA20, wrA21]
  refine ⟨by decide, ?_⟩
  refine kont_new fun H2 s e2 z2 B2 K2 => ?_
  have s1 := K1.size
  have s2 := K2.size
  have B1 : Bl H2 bl (iL (List.replicate ps.length 0)) := by
    have := K2.bl B1 (by simp)
    rw [rep_one, iL_rep] at this; exact this
  have B2 : Bl H2 s (srL (.slice none 0 0) (.slice (some ⟨bl, 0, none⟩) ps.length ps.length) (List.replicate 256 0) (List.replicate 256 false) (List.replicate 256 false)) := by
    have := B2
    rw [wrA_toList, zSearch_list, zList_sr] at this
    exact this
  have K12 := K1.trans K2
  have hv2 := hv.keep K12 (fun _ _ _ h => h)
  simp only [go_sem, List.map_cons, List.map_nil, ↓reduceIte, Nat.reduceEqDiff, Nat.reduceAdd, Nat.reduceMul, reduceCtorEq, and_true, true_and, Nat.mul_one, Nat.zero_add, Bool.false_eq_true, decide_true, decide_false, not_false_eq_true, kont_eq, hv2.sl.isSl, hv2.sl.len, hv.len]
  have Zn : ∀ k, Z k → k < H.size ∨ True := fun _ _ => .inr trivial
  refine vc_mono ?_ ?_ (Q := fun e f H' => e = .x 0 ∧ f 3 = .pointer (some ⟨s, 0, none⟩) ∧ ∃ gv vs, SrH H' s bl gv vs (ps.map mems) (fun k => H.size ≤ k ∧ k ≠ s ∧ k ≠ bl) ⟨List.replicate ps.length (-1), List.replicate 256 0, List.replicate 256 false⟩ (List.replicate 256 false) ∧ Keep (fun _ => False) H H')
  · rintro e f H3 ⟨rfl, hf3, gv, vs, hS, K3⟩
    simp only [go_sem, List.map_cons, List.map_nil, ↓reduceIte, Nat.reduceEqDiff, Nat.reduceAdd, Nat.reduceMul, reduceCtorEq, and_true, true_and, Nat.mul_one, Nat.zero_add, Bool.false_eq_true, decide_true, decide_false, not_false_eq_true, hf3]
    refine vc_mono ?_ ?_ (Q := fun e f H' => e = .x 2 ∧ f 3 = .pointer (some ⟨s, 0, none⟩) ∧ SrH H' s bl gv vs (ps.map mems) (fun k => H.size ≤ k ∧ k ≠ s ∧ k ≠ bl) ⟨List.replicate ps.length (-1), List.replicate 256 (-1), List.replicate 256 false⟩ (List.replicate 256 false) ∧ Keep (fun _ => False) H H')
    · rintro e f H4 ⟨rfl, hf3, hS4, K4⟩
      simp only [go_sem, List.map_cons, List.map_nil, ↓reduceIte, Nat.reduceEqDiff, Nat.reduceAdd, Nat.reduceMul, reduceCtorEq, and_true, true_and, Nat.mul_one, Nat.zero_add, Bool.false_eq_true, decide_true, decide_false, not_false_eq_true, kont_eq, hf3]
      exact ⟨s, bl, gv, vs, _, rfl, hS4, K4, by omega, by omega⟩
    · refine vc_loop [38, 6, 37] rfl (fun n f H' => ∃ i : Nat, i ≤ 256 ∧ n = 256 - i ∧ f 37 = .int .i64 i ∧ f 3 = .pointer (some ⟨s, 0, none⟩) ∧ SrH H' s bl gv vs (ps.map mems) (fun k => H.size ≤ k ∧ k ≠ s ∧ k ≠ bl) ⟨List.replicate ps.length (-1), List.replicate i (-1) ++ List.replicate (256 - i) 0, List.replicate 256 false⟩ (List.replicate 256 false) ∧ Keep (fun _ => False) H H') 256
        ⟨0, by omega, by omega, by simp only [go_sem, List.map_cons, List.map_nil, ↓reduceIte, Nat.reduceEqDiff, Nat.reduceAdd, Nat.reduceMul, reduceCtorEq, and_true, true_and, Nat.mul_one, Nat.zero_add, Bool.false_eq_true, decide_true, decide_false, not_false_eq_true, kont_eq]; rfl, by simp only [go_sem, List.map_cons, List.map_nil, ↓reduceIte, Nat.reduceEqDiff, Nat.reduceAdd, Nat.reduceMul, reduceCtorEq, and_true, true_and, Nat.mul_one, Nat.zero_add, Bool.false_eq_true, decide_true, decide_false, not_false_eq_true, kont_eq, hf3], by simpa using hS, K3⟩ ?_
      rintro n f4 H4 ⟨i, hi, rfl, hf, hf3, hS4, K4⟩
      simp only [go_sem, List.map_cons, List.map_nil, ↓reduceIte, Nat.reduceEqDiff, Nat.reduceAdd, Nat.reduceMul, reduceCtorEq, and_true, true_and, Nat.mul_one, Nat.zero_add, Bool.false_eq_true, decide_true, decide_false, not_false_eq_true, kont_eq] at hf hf3
      simp only [go_sem, List.map_cons, List.map_nil, ↓reduceIte, Nat.reduceEqDiff, Nat.reduceAdd, Nat.reduceMul, reduceCtorEq, and_true, true_and, Nat.mul_one, Nat.zero_add, Bool.false_eq_true, decide_true, decide_false, not_false_eq_true, kont_eq, hf, hf3]
      refine iteV_dec (fun hlt => ?_) (fun hge => ?_)
      · have hlt : i < 256 := by omega
        have hst := hS4.S.okSt (o := 2 + i) (by rw [srL_len hS4.lR hS4.lF hS4.lS]; omega)
        have h5 := hS4.setR hlt (-1)
        have hset : (List.replicate i (-1 : Int) ++ List.replicate (256 - i) 0).set i (-1) = List.replicate (i + 1) (-1) ++ List.replicate (256 - (i + 1)) 0 := by
          rw [List.set_append_right _ _ (by simp), List.length_replicate, Nat.sub_self]
          have : 256 - i = (256 - (i + 1)) + 1 := by omega
          rw [this, List.replicate_succ, List.replicate_succ']
          simp
        simp only [hset] at h5
        have K5 : Keep (fun k => k = s) H4 (setc H4 ⟨s, 2 + i, none⟩ (.int .i64 (-1))) := (Keep.refl _ _).setc _ (.inl rfl)
        simp (disch := omega) only [go_sem, List.map_cons, List.map_nil, ↓reduceIte, Nat.reduceEqDiff, Nat.reduceAdd, Nat.reduceMul, reduceCtorEq, and_true, true_and, Nat.mul_one, Nat.zero_add, Bool.false_eq_true, decide_true, decide_false, not_false_eq_true, kont_eq, hf, hf3, tn_cast, Nat.mul_one, hst, IntWalk.i64_in]
        exact ⟨by omega, 256 - (i + 1), by omega, i + 1, by omega, rfl, by simp, h5, K4.to_old K5 (by omega)⟩
      · have : i = 256 := by omega
        subst this
        have hS4' : SrH H4 s bl gv vs (ps.map mems) (fun k => H.size ≤ k ∧ k ≠ s ∧ k ≠ bl) ⟨List.replicate ps.length (-1), List.replicate 256 (-1), List.replicate 256 false⟩ (List.replicate 256 false) := by
          rw [Nat.sub_self, List.replicate_zero, List.append_nil] at hS4; exact hS4
        exact ⟨hS4', K4⟩
  · refine vc_loop [15, 5, 4, 14] rfl (fun n f H' => ∃ (i : Nat) (gv : Value) (vs : List Value), i ≤ ps.length ∧ n = ps.length - i ∧ f 14 = .int .i64 i ∧
      Bl H' s (srL gv (.slice (some ⟨bl, 0, none⟩) ps.length ps.length) (List.replicate 256 0) (List.replicate 256 false) (List.replicate 256 false)) ∧ Bl H' bl (iL (List.replicate i (-1) ++ List.replicate (ps.length - i) 0)) ∧
      OwS H' gv vs ∧ vs.length = i ∧ (∀ q, q < i → SlR H' (vs.getD q undef) (iL (nI (mems (ps.getD q fun _ => false))))) ∧ (∀ k, ownB gv k → H.size ≤ k ∧ k ≠ s ∧ k ≠ bl) ∧ (∀ q k, q < i → slB (vs.getD q undef) k → H.size ≤ k ∧ k ≠ s ∧ k ≠ bl ∧ ¬ ownB gv k) ∧ Keep (fun _ => False) H H') ps.length
      ⟨0, .slice none 0 0, [], by omega, by omega, by simp only [go_sem, List.map_cons, List.map_nil, ↓reduceIte, Nat.reduceEqDiff, Nat.reduceAdd, Nat.reduceMul, reduceCtorEq, and_true, true_and, Nat.mul_one, Nat.zero_add, Bool.false_eq_true, decide_true, decide_false, not_false_eq_true, kont_eq]; rfl, B2, by simpa using B1, OwS.nil _, rfl, fun q h => by omega, fun k h => h.elim, fun q k h => by omega, K12⟩ ?_
    rintro n f H3 ⟨i, gv, vs, hi, rfl, hf, B3, L3, O3, hvl, hat, ho, hz, K3⟩
    simp only [go_sem, List.map_cons, List.map_nil, ↓reduceIte, Nat.reduceEqDiff, Nat.reduceAdd, Nat.reduceMul, reduceCtorEq, and_true, true_and, Nat.mul_one, Nat.zero_add, Bool.false_eq_true, decide_true, decide_false, not_false_eq_true, kont_eq] at hf
    simp only [go_sem, List.map_cons, List.map_nil, ↓reduceIte, Nat.reduceEqDiff, Nat.reduceAdd, Nat.reduceMul, reduceCtorEq, and_true, true_and, Nat.mul_one, Nat.zero_add, Bool.false_eq_true, decide_true, decide_false, not_false_eq_true, hf]
    refine iteV_dec (fun hlt => ?_) (fun hge => ?_)
    · have hlt : i < ps.length := by omega
      have s3 := K3.size
      have hv3 := hv.keep K3 (fun _ _ _ h => h)
      obtain ⟨gb, go, gc, rfl, hld, hcl⟩ := hv3.elt hlt
      have hS := hv3.at_ i hlt
      generalize gs.getD i undef = u at hld hcl hS
      simp only [go_sem, List.map_cons, List.map_nil, ↓reduceIte, Nat.reduceEqDiff, Nat.reduceAdd, Nat.reduceMul, reduceCtorEq, and_true, true_and, Nat.mul_one, Nat.zero_add, Bool.false_eq_true, decide_true, decide_false, not_false_eq_true, hf, ldNO_ptr, hld, tn_cast, Nat.mul_one]
      refine ⟨by omega, ?_⟩
      refine kont_new fun H4 b4 e4 z4 B4 K4 => ?_
      have s4 := K4.size
      have hone : all1 #[u] := by obtain ⟨uv, W, e, hw⟩ := hS; cases e; exact hw.sl.one
      have hokN := B4.okNA (o := 0) (n := 1) (by simp)
      have B5 := B4.stNA 0 [u]
      have B5 : Bl (stNA H4 ⟨b4, 0, none⟩ [u]) b4 [u] := by simpa [wrL] using B5
      have K5 : Keep (fun k => k = b4) H4 (stNA H4 ⟨b4, 0, none⟩ [u]) := (Keep.refl _ _).stNA _ (.inl rfl)
      simp only [go_sem, List.map_cons, List.map_nil, ↓reduceIte, Nat.reduceEqDiff, Nat.reduceAdd, Nat.reduceMul, reduceCtorEq, and_true, true_and, Nat.mul_one, Nat.zero_add, Bool.false_eq_true, decide_true, decide_false, not_false_eq_true, fillV_nil, fillV_cons, okFill_nil, okFill_cons, cells_slice, cells_int, cells_bool, cells_str, cells_ptr, cells_agg, stNH_ptr, okN_ptr, wrA1, wrA20, wrA21, hokN, hone]
      generalize stNA H4 ⟨b4, 0, none⟩ [u] = H5 at B5 K5 ⊢
      rw [kont_eq]
      have s5 := K5.size
      have K35 : Keep (fun k => k = b4) H3 H5 := K4.any.trans K5
      have hb4 : H3.size ≤ b4 := by omega
      have K05 : Keep (fun _ => False) H H5 := (K3.trans K4).to_old K5 (by omega)
      have S5 : SetM H5 (.agg #[u]) (ps.getD i fun _ => false) := hS.keep K35 (fun k hb e => by have := hS.old hb; omega)
      have B35 := K35.bl B3 (by have := B3.lt; omega)
      have L35 := K35.bl L3 (by have := L3.lt; omega)
      have O5 : OwS H5 gv vs := O3.keep K35 (fun k hb e => by have := O3.old hb; omega)
      have at5 : ∀ q, q < i → SlR H5 (vs.getD q undef) (iL (nI (mems (ps.getD q fun _ => false)))) := fun q hq => (hat q hq).keep K35 (fun k hb e => by have := (hat q hq).old hb; omega)
      have hsb4 : s ≠ b4 := by have := B3.lt; omega
      have hob4 : ∀ k, ownB gv k → k ≠ b4 := fun k h e => by have := O3.old h; omega
      have T5 := hT.keep K05
      have hlist := hl _ _ H5 T5 S5
      rw [memL_nI] at hlist
      -- what comes behind the list
      have tail : ∀ (H6 H7 : Hp) (r : Value) (b7 : Nat), OwS H6 r (iL (nI (mems (ps.getD i fun _ => false)))) → (∀ k, ownB r k → H5.size ≤ k) → Keep (fun _ => False) H5 H6 → Keep (fun _ => False) H6 H7 → Bl H7 b7 [r] → b7 = H6.size →
          ∀ (v' : Value) (H8 : Hp), OwS H8 v' (vs ++ [r]) → Keep (ownB gv) H7 H8 → (∀ k, ownB v' k → ownB gv k ∨ H7.size ≤ k) →
            ((cell H8 ⟨s, 0, none⟩).isSome = true ∧ frz H8 ⟨s, 0, none⟩ = false) ∧ v'.oneCell' = true ∧ Keep (fun k => k = s) H8 (setc H8 ⟨s, 0, none⟩ v') ∧
            cell (setc H8 ⟨s, 0, none⟩ v') ⟨s, 1, none⟩ = some (.slice (some ⟨bl, 0, none⟩) ps.length ps.length) ∧
            ((cell (setc H8 ⟨s, 0, none⟩ v') ⟨bl, i, none⟩).isSome = true ∧ frz (setc H8 ⟨s, 0, none⟩ v') ⟨bl, i, none⟩ = false) ∧
            ∃ n', n' < ps.length - i ∧ ∃ (i' : Nat) (gv : Value) (vs : List Value), i' ≤ ps.length ∧ n' = ps.length - i' ∧ (i + 1 : Nat) = i' ∧
              Bl (setc (setc H8 ⟨s, 0, none⟩ v') ⟨bl, i, none⟩ (.int .i64 (-1))) s (srL gv (.slice (some ⟨bl, 0, none⟩) ps.length ps.length) (List.replicate 256 0) (List.replicate 256 false) (List.replicate 256 false)) ∧
              Bl (setc (setc H8 ⟨s, 0, none⟩ v') ⟨bl, i, none⟩ (.int .i64 (-1))) bl (iL (List.replicate i' (-1) ++ List.replicate (ps.length - i') 0)) ∧
              OwS (setc (setc H8 ⟨s, 0, none⟩ v') ⟨bl, i, none⟩ (.int .i64 (-1))) gv vs ∧ vs.length = i' ∧ (∀ q, q < i' → SlR (setc (setc H8 ⟨s, 0, none⟩ v') ⟨bl, i, none⟩ (.int .i64 (-1))) (vs.getD q undef) (iL (nI (mems (ps.getD q fun _ => false))))) ∧
              (∀ k, ownB gv k → H.size ≤ k ∧ k ≠ s ∧ k ≠ bl) ∧ (∀ q k, q < i' → slB (vs.getD q undef) k → H.size ≤ k ∧ k ≠ s ∧ k ≠ bl ∧ ¬ ownB gv k) ∧ Keep (fun _ => False) H (setc (setc H8 ⟨s, 0, none⟩ v') ⟨bl, i, none⟩ (.int .i64 (-1))) := by
        intro H6 H7 r b7 O6 o6 K6 K7 hC7 e7 v' H8 O8 M8 N8
        have s6 := K6.size
        have s7 := K7.size
        have s8 := M8.size
        have K57 := K6.trans K7
        have hsl : s < H5.size := B35.lt
        have hbl : bl < H5.size := L35.lt
        have B8 := M8.bl (K57.bl B35 (by simp)) (fun h => (ho _ h).2.1 rfl)
        have L8 := M8.bl (K57.bl L35 (by simp)) (fun h => (ho _ h).2.2 rfl)
        have K9 : Keep (fun k => k = s) H8 (setc H8 ⟨s, 0, none⟩ v') := (Keep.refl _ _).setc _ (.inl rfl)
        have B9 := B8.setc 0 v'
        have B9 : Bl (setc H8 ⟨s, 0, none⟩ v') s (srL v' (.slice (some ⟨bl, 0, none⟩) ps.length ps.length) (List.replicate 256 0) (List.replicate 256 false) (List.replicate 256 false)) := B9
        have hne : bl ≠ s := by omega
        have L9 := K9.bl L8 hne
        generalize setc H8 ⟨s, 0, none⟩ v' = H9 at K9 B9 L9 ⊢
        have K10 : Keep (fun k => k = bl) H9 (setc H9 ⟨bl, i, none⟩ (.int .i64 (-1))) := (Keep.refl _ _).setc _ (.inl rfl)
        have L10 := L9.setc i (.int .i64 (-1))
        rw [iL_set] at L10
        have hset : (List.replicate i (-1 : Int) ++ List.replicate (ps.length - i) 0).set i (-1) = List.replicate (i + 1) (-1) ++ List.replicate (ps.length - (i + 1)) 0 := by
          rw [List.set_append_right _ _ (by simp), List.length_replicate, Nat.sub_self]
          have : ps.length - i = (ps.length - (i + 1)) + 1 := by omega
          rw [this, List.replicate_succ, List.replicate_succ']
          simp
        rw [hset] at L10
        have hst := L9.okSt (o := i) (by rw [iL_len]; simp; omega)
        have B10 := K10.bl B9 (by omega)
        generalize setc H9 ⟨bl, i, none⟩ (.int .i64 (-1)) = H10 at K10 L10 B10 ⊢
        have ro : ∀ k, slB r k → H5.size ≤ k ∧ k < H6.size := fun k hk => ⟨o6 k (O6.slB hk), O6.sl.old hk⟩
        have own8 : ∀ k, ownB v' k → H.size ≤ k ∧ k ≠ s ∧ k ≠ bl := fun k hk => by
          rcases N8 k hk with h | h
          · exact ho k h
          · have := K05.size; omega
        have nown : ∀ k, H5.size ≤ k → ¬ ownB gv k := fun k hk h => by have := O5.old h; omega
        refine ⟨B8.okSt (o := 0) (by simp [srL]), ?_, K9, by rw [B9.cell]; rfl, hst, ps.length - (i + 1), by omega, i + 1, v', vs ++ [r], by omega, rfl, rfl, B10, L10, (O8.keep K9 (fun k hk e => (own8 k hk).2.1 e)).keep K10 (fun k hk e => (own8 k hk).2.2 e), by simp [hvl], fun q hq => ?_, own8, fun q k hq hk => ?_, ?_⟩
        · obtain ⟨va, vn, vc, rfl⟩ := O8.shape; rfl
        · by_cases e : q = i
          · subst e
            have : (vs ++ [r]).getD q undef = r := by rw [List.getD_eq_getElem?_getD, List.getElem?_append_right (by omega), hvl]; simp
            rw [this]
            exact (((O6.sl.keep K7 (by simp)).keep M8 (fun k hk h => nown k (ro k hk).1 h)).keep K9 (fun k hk h => by have := (ro k hk).1; omega)).keep K10 (fun k hk h => by have := (ro k hk).1; omega)
          · have hq' : q < i := by omega
            have : (vs ++ [r]).getD q undef = vs.getD q undef := by rw [List.getD_eq_getElem?_getD, List.getElem?_append_left (by omega), ← List.getD_eq_getElem?_getD]
            rw [this]
            exact (((at5 q hq').keep K57 (by simp)).keep M8 (fun k hk h => (hz q k hq' hk).2.2.2 h)).keep K9 (fun k hk h => (hz q k hq' hk).2.1 h) |>.keep K10 (fun k hk h => (hz q k hq' hk).2.2.1 h)
        · by_cases e : q = i
          · subst e
            have : (vs ++ [r]).getD q undef = r := by rw [List.getD_eq_getElem?_getD, List.getElem?_append_right (by omega), hvl]; simp
            rw [this] at hk
            obtain ⟨x1, x2⟩ := ro k hk
            have := K05.size
            refine ⟨by omega, by omega, by omega, fun h => ?_⟩
            rcases N8 k h with h | h
            · exact nown k x1 h
            · omega
          · have hq' : q < i := by omega
            have : (vs ++ [r]).getD q undef = vs.getD q undef := by rw [List.getD_eq_getElem?_getD, List.getElem?_append_left (by omega), ← List.getD_eq_getElem?_getD]
            rw [this] at hk
            obtain ⟨x1, x2, x3, x4⟩ := hz q k hq' hk
            refine ⟨x1, x2, x3, fun h => ?_⟩
            rcases N8 k h with h | h
            · exact x4 h
            · have := (at5 q hq').old hk; omega
        · exact ((((K05.trans K57).trans' M8 (fun k hk h => by have := (ho k h).1; omega)).to_old K9 (by omega)).to_old K10 (by omega))
      refine vc_drk (fun k => ownB gv k ∨ k = s) ?_
      have hns : ¬ (ownB gv b4 ∨ b4 = s) := by rintro (h | h); exact hob4 _ h rfl; exact hsb4 h.symm
      have c0 : cell H5 ⟨s, 0, none⟩ = some gv := by rw [B35.cell]; rfl
      have hl1 : List.take 1 (List.drop 0 [u]) = [u] := rfl
      simp only [go_sem, List.map_cons, List.map_nil, ↓reduceIte, Nat.reduceEqDiff, Nat.reduceAdd, Nat.reduceMul, reduceCtorEq, and_true, true_and, Nat.mul_one, Nat.zero_add, Bool.false_eq_true, decide_true, decide_false, not_false_eq_true, kont_eq, hns, ldNO_ptr, B5.ldNA (o := 0) (n := 1) (by simp), c0, hl1]
      refine ⟨⟨Keep.refl _ _, ?_⟩, ?_⟩
      · refine hlist.mono ?_
        rintro r H6 ⟨O6, o6, K6⟩
        obtain ⟨ra, rn, rc, rfl⟩ := O6.shape
        have hC7 := Bl.new' H6 #[.slice ra rn rc] (ι.t 138)
        have K7 : Keep (fun _ => False) H6 (H6.push (.cells #[.slice ra rn rc] (ι.t 138))) := (Keep.refl _ _).push _
        simp only [go_sem, List.map_cons, List.map_nil, ↓reduceIte, Nat.reduceEqDiff, Nat.reduceAdd, Nat.reduceMul, reduceCtorEq, and_true, true_and, Nat.mul_one, Nat.zero_add, Bool.false_eq_true, decide_true, decide_false, not_false_eq_true, kont_eq, fillV_nil, fillV_cons, okFill_nil, okFill_cons, cells_slice, cells_int, cells_bool, cells_str, cells_ptr, cells_agg, stNH_ptr, okN_ptr, wrA1, wrA20, wrA21]
        refine ⟨K6.any, K7.any, ?_⟩
        obtain ⟨b7, e7⟩ : ∃ b7, b7 = H6.size := ⟨_, rfl⟩
        rw [← e7] at hC7 ⊢
        generalize H6.push (.cells #[.slice ra rn rc] (ι.t 138)) = H7 at hC7 K7 ⊢
        have hbnd : vs.length ≤ 100000 := by omega
        refine app_sl (l := vs) (m := [.slice ra rn rc]) ((O5.keep K6 (by simp)).keep K7 (by simp)) (SlR.bl hC7 0 1 1 (by omega) (by simp)) ?_ rfl (by unfold maxLen; simp only [List.length_singleton]; omega) (by simp only [List.length_singleton]; omega) fun v' H8 O8 M8 N8 => ?_
        · intro y hy; simp at hy; subst hy; rfl
        · obtain ⟨g1, g2, g3, g4, g5, n', a1, i', gv', vs', a2, a3, a4, a5⟩ := tail H6 H7 _ b7 O6 o6 K6 K7 hC7 e7 v' H8 O8 M8 N8
          obtain ⟨va, vn, vc, rfl⟩ := O8.shape
          simp (disch := omega) only [go_sem, List.map_cons, List.map_nil, ↓reduceIte, Nat.reduceEqDiff, Nat.reduceAdd, Nat.reduceMul, reduceCtorEq, and_true, true_and, Nat.mul_one, Nat.zero_add, Bool.false_eq_true, decide_true, decide_false, not_false_eq_true, kont_eq, hf, g1, g3, g4, g5, IntWalk.i64_in]
          exact ⟨M8.mono (fun k _ h => .inl h), g3.mono (fun k _ h => .inr h), by omega, n', a1, i', gv', vs', a2, a3, by rw [← a4]; simp, a5⟩
      · refine hlist.mono ?_
        rintro r H6 ⟨O6, o6, K6⟩
        obtain ⟨ra, rn, rc, rfl⟩ := O6.shape
        have hC7 := Bl.new' H6 #[.slice ra rn rc] (ι.t 138)
        have K7 : Keep (fun _ => False) H6 (H6.push (.cells #[.slice ra rn rc] (ι.t 138))) := (Keep.refl _ _).push _
        have c6 : cell H6 ⟨s, 0, none⟩ = some gv := by rw [(K6.bl B35 (by simp)).cell]; rfl
        have c7 : cell (H6.push (.cells #[.slice ra rn rc] (ι.t 138))) ⟨s, 0, none⟩ = some gv := by rw [(K7.bl (K6.bl B35 (by simp)) (by simp)).cell]; rfl
        simp only [go_sem, List.map_cons, List.map_nil, ↓reduceIte, Nat.reduceEqDiff, Nat.reduceAdd, Nat.reduceMul, reduceCtorEq, and_true, true_and, Nat.mul_one, Nat.zero_add, Bool.false_eq_true, decide_true, decide_false, not_false_eq_true, kont_eq, fillV_nil, fillV_cons, okFill_nil, okFill_cons, cells_slice, cells_int, cells_bool, cells_str, cells_ptr, cells_agg, stNH_ptr, okN_ptr, wrA1, wrA20, wrA21, c6, c7]
        obtain ⟨b7, e7⟩ : ∃ b7, b7 = H6.size := ⟨_, rfl⟩
        rw [← e7] at hC7 ⊢
        generalize H6.push (.cells #[.slice ra rn rc] (ι.t 138)) = H7 at hC7 K7 c7 ⊢
        have hbnd : vs.length ≤ 100000 := by omega
        refine ⟨K6.any, ⟨Keep.refl _ _, K7.any, ?_⟩, K7.any, Keep.refl _ _, ?_⟩
        · refine app_sl (l := vs) (m := [.slice ra rn rc]) ((O5.keep K6 (by simp)).keep K7 (by simp)) (SlR.bl hC7 0 1 1 (by omega) (by simp)) ?_ rfl (by unfold maxLen; simp only [List.length_singleton]; omega) (by simp only [List.length_singleton]; omega) fun v' H8 O8 M8 N8 => ?_
          · intro y hy; simp at hy; subst hy; rfl
          · obtain ⟨g1, g2, g3, g4, g5, n', a1, i', gv', vs', a2, a3, a4, a5⟩ := tail H6 H7 _ b7 O6 o6 K6 K7 hC7 e7 v' H8 O8 M8 N8
            obtain ⟨va, vn, vc, rfl⟩ := O8.shape
            simp (disch := omega) only [go_sem, List.map_cons, List.map_nil, ↓reduceIte, Nat.reduceEqDiff, Nat.reduceAdd, Nat.reduceMul, reduceCtorEq, and_true, true_and, Nat.mul_one, Nat.zero_add, Bool.false_eq_true, decide_true, decide_false, not_false_eq_true, kont_eq, hf, g1, g3, g4, g5, IntWalk.i64_in]
            exact ⟨M8.mono (fun k _ h => .inl h), g3.mono (fun k _ h => .inr h), by omega, n', a1, i', gv', vs', a2, a3, by rw [← a4]; simp, a5⟩
        · refine app_sl (l := vs) (m := [.slice ra rn rc]) ((O5.keep K6 (by simp)).keep K7 (by simp)) (SlR.bl hC7 0 1 1 (by omega) (by simp)) ?_ rfl (by unfold maxLen; simp only [List.length_singleton]; omega) (by simp only [List.length_singleton]; omega) fun v' H8 O8 M8 N8 => ?_
          · intro y hy; simp at hy; subst hy; rfl
          · obtain ⟨g1, g2, g3, g4, g5, n', a1, i', gv', vs', a2, a3, a4, a5⟩ := tail H6 H7 _ b7 O6 o6 K6 K7 hC7 e7 v' H8 O8 M8 N8
            obtain ⟨va, vn, vc, rfl⟩ := O8.shape
            simp (disch := omega) only [go_sem, List.map_cons, List.map_nil, ↓reduceIte, Nat.reduceEqDiff, Nat.reduceAdd, Nat.reduceMul, reduceCtorEq, and_true, true_and, Nat.mul_one, Nat.zero_add, Bool.false_eq_true, decide_true, decide_false, not_false_eq_true, kont_eq, hf, g1, g3, g4, g5, IntWalk.i64_in]
            exact ⟨M8.mono (fun k _ h => .inl h), g3.mono (fun k _ h => .inr h), by omega, n', a1, i', gv', vs', a2, a3, by rw [← a4]; simp, a5⟩
    · have hil : i = ps.length := by omega
      rw [hil, Nat.sub_self, List.replicate_zero, List.append_nil] at L3
      have hzs : ∀ {k : Nat}, H.size ≤ k ∧ k ≠ s ∧ k ≠ bl → H.size ≤ k ∧ k ≠ s ∧ k ≠ bl := fun h => h
      refine ⟨gv, vs, ⟨by simpa using B3, L3, by omega, O3.sl, by rw [hvl, hil]; simp, fun q hq => ?_, fun k hk => ho k (O3.slB hk), fun q k hq hk => ?_, fun h => h.2.1 rfl, fun h => h.2.2 rfl, by simp, by simp, by simp, by simp⟩, K3⟩
      · have hq' : q < ps.length := by simpa using hq
        rw [getD_mems ps q hq']
        exact hat q (by omega)
      · have hq' : q < ps.length := by simpa using hq
        obtain ⟨x1, x2, x3, _⟩ := hz q k (by omega) hk
        exact ⟨x1, x2, x3⟩
end Go.Mg

/- matching: the search, walked. -/
import Derived.Test.YtihlnbepcimnfaaDoorMgB4
namespace Go.Mg
open Go Go.RowKit
set_option linter.unusedSimpArgs false
set_option linter.unusedVariables false
set_option maxRecDepth 100000
/-- the search as a fresh variable -/
def zSearch : Array Value := Array.mk (List.append [.slice none 0 0, .slice none 0 0] (List.append (List.replicate 256 (.int .i64 0)) (List.replicate 512 (.bool false))))
/- matching.check -/
def c_mcheck (ι : Ids) : S :=
  .seq (.reg [.p (.v 2) (.mv (.c (.int .i64 0)))]) (.seq (.seq (.reg [.p (.t 7) (.mv (.v 0)), .p (.t 8) (.m (.lenl (.t 7))), .p (.v 9) (.cm .gtr .i64 (.t 8) (.c (.int .i64 256)))]) (.ite (.v 9) (.seq
  (.reg [.p (.v 2) (.mv (.c (.int .i64 3)))]) .ret) .skip)) (.seq (.seq (.reg [.p (.v 10) (.mv (.v 0)), .p (.v 11) (.m (.lenl (.v 10))), .p (.v 12) (.mv (.c (.int .i64 0)))]) (.blk 0 (.loop (.seq (.reg
  [.p (.v 13) (.cm .lss .i64 (.v 12) (.v 11))]) (.seq (.ite (.v 13) .skip (.exit 0)) (.seq (.blk 1 (.seq (.reg [.p (.t 14) (.is 1 (.v 10) (.v 12)), .p (.t 15) (.m (.ldn 1 (.t 14))), .e (.v 4) (.new (ι.t
  128) #[.slice .none 0 0]), .e .no (.stn 1 (.v 4) (.t 15))]) (.seq (.reg [.p (.t 17) (.m (.ldn 1 (.v 4))), .e (.t 18) (.call (ι.f 134) [.t 17]), .p (.t 16) (.mv (.t 18)), .p (.t 19) (.ext (.t 16) 0),
  .p (.t 20) (.ext (.t 16) 1), .p (.v 5) (.mv (.t 19)), .p (.v 6) (.mv (.t 20))]) (.seq (.reg [.p (.t 21) (.mv (.v 6)), .p (.t 22) (.mv (.t 21)), .gp (.t 23) (.t 22) true (.mv (.v 5)), .gp (.t 24) (.t
  22) true (.cm .geq .i64 (.t 23) (.c (.int .i64 256))), .p (.v 25) (.pick (.t 22) (.t 24) (.c (.bool false)))]) (.ite (.v 25) (.seq (.reg [.p (.v 2) (.mv (.c (.int .i64 1)))]) .ret) .skip))))) (.reg
  [.p (.t 26) (.ar .add .i64 (.v 12) (.c (.int .i64 1))), .p (.v 12) (.mv (.t 26))]))))))) (.seq (.reg [.p (.v 2) (.mv (.c (.int .i64 0)))]) .ret)))
def r_mcheck : List RV := [.t 2]

/-! ### graphs -/
def nI (l : List Nat) : List Int := l.map fun n : Nat => (n : Int)
theorem nI_len (l : List Nat) : (nI l).length = l.length := by simp [nI]
theorem nI_get (l : List Nat) (i : Nat) (h : i < l.length) : (nI l).getD i 0 = ((l.getD i 0 : Nat) : Int) := by simp [nI, h]
theorem memL_nI (p : Nat → Bool) : memL p = iL (nI (mems p)) := by simp [memL, iL, nI]
/-- v shows sets; Z: all blocks named -/
structure GrH (H : Hp) (v : Value) (ps : List (Nat → Bool)) (Z : Nat → Prop) (vs : List Value) : Prop where
  sl : SlR H v vs
  len : vs.length = ps.length
  at_ : ∀ i, i < ps.length → SetM H (.agg #[vs.getD i undef]) (ps.getD i fun _ => false)
  z1 : ∀ k, slB v k → Z k
  z2 : ∀ i k, i < ps.length → slB (vs.getD i undef) k → Z k
def GrM (H : Hp) (v : Value) (ps : List (Nat → Bool)) (Z : Nat → Prop) : Prop := ∃ vs, GrH H v ps Z vs
theorem GrH.keep {H H' : Hp} {v : Value} {ps : List (Nat → Bool)} {Z X : Nat → Prop} {vs : List Value} (h : GrH H v ps Z vs) (hk : Keep X H H') (hx : ∀ k, k < H.size → Z k → ¬ X k) : GrH H' v ps Z vs :=
  ⟨h.sl.keep hk fun k hb => hx k (h.sl.old hb) (h.z1 k hb), h.len, fun i hi => (h.at_ i hi).keep hk fun k hb => hx k ((h.at_ i hi).old hb) (h.z2 i k hi hb), h.z1, h.z2⟩
theorem GrM.keep {H H' : Hp} {v : Value} {ps : List (Nat → Bool)} {Z X : Nat → Prop} (h : GrM H v ps Z) (hk : Keep X H H') (hx : ∀ k, k < H.size → Z k → ¬ X k) : GrM H' v ps Z := let ⟨vs, h⟩ := h; ⟨vs, h.keep hk hx⟩
theorem GrM.keep0 {H H' : Hp} {v : Value} {ps : List (Nat → Bool)} {Z : Nat → Prop} (h : GrM H v ps Z) (hk : Keep (fun _ => False) H H') : GrM H' v ps Z := h.keep hk (fun _ _ _ h => h)
/-- all neighbours are below 256, all lefts too -/
def wide (ps : List (Nat → Bool)) : Bool := ps.any fun p => (mems p).any fun n => decide (256 ≤ n)
def chkF (ps : List (Nat → Bool)) : Int := if 256 < ps.length then 3 else if wide ps = true then 1 else 0
theorem wide_iff {ps : List (Nat → Bool)} : wide ps = true ↔ ∃ p ∈ ps, ∃ n, n < 4096 ∧ p n = true ∧ 256 ≤ n := by
  unfold wide
  simp only [List.any_eq_true, decide_eq_true_eq, mem_mems]
  exact ⟨fun ⟨p, h1, n, ⟨h2, h3⟩, h4⟩ => ⟨p, h1, n, h2, h3, h4⟩, fun ⟨p, h1, n, h2, h3, h4⟩ => ⟨p, h1, n, ⟨h2, h3⟩, h4⟩⟩
def MCheckSpec (P : Program) (k : FuncId) : Prop := ∀ (ps : List (Nat → Bool)) (v : Value) (Z : Nat → Prop) (H : Hp), GrM H v ps Z → ps.length ≤ 100000 → CallsM P k #[v] H fun r H' => r = .int .i64 (chkF ps) ∧ Keep (fun _ => False) H H'
theorem mcheck_ok {P : Program} {ι : Ids} {k : FuncId} (hk : FnIs P k (c_mcheck ι) r_mcheck 1) (hg : BGreatSpec P (ι.f 134)) : MCheckSpec P k := by
  intro ps v Z H ⟨vs, hv⟩ hl
  refine calls_of_vc hk (args := [_]) (by simp) ?_
  unfold c_mcheck r_mcheck
  simp only [go_sem, List.map_cons, List.map_nil, ↓reduceIte, Nat.reduceEqDiff, Nat.reduceAdd, Nat.reduceMul, reduceCtorEq, and_true, true_and, Nat.mul_one, Nat.zero_add, Bool.false_eq_true, decide_true, decide_false, not_false_eq_true, kont_eq, hv.sl.isSl, hv.sl.len, hv.len]
  by_cases h0 : 256 < ps.length
  · have e0 : decide (((ps.length : Nat) : Int) > 256) = true := decide_eq_true (by omega)
    simp only [go_sem, List.map_cons, List.map_nil, ↓reduceIte, Nat.reduceEqDiff, Nat.reduceAdd, Nat.reduceMul, reduceCtorEq, and_true, true_and, Nat.mul_one, Nat.zero_add, Bool.false_eq_true, decide_true, decide_false, not_false_eq_true, kont_eq, e0]
    exact ⟨by unfold chkF; rw [if_pos h0], Keep.refl _ _⟩
  · have e0 : decide (((ps.length : Nat) : Int) > 256) = false := decide_eq_false (by omega)
    simp only [go_sem, List.map_cons, List.map_nil, ↓reduceIte, Nat.reduceEqDiff, Nat.reduceAdd, Nat.reduceMul, reduceCtorEq, and_true, true_and, Nat.mul_one, Nat.zero_add, Bool.false_eq_true, decide_true, decide_false, not_false_eq_true, kont_eq, e0, hv.sl.isSl, hv.sl.len, hv.len]
    refine vc_loop [13, 4, 5, 6, 25, 2, 12] rfl (fun n f H' => ∃ i, i ≤ ps.length ∧ n = ps.length - i ∧ f 12 = .int .i64 i ∧ (∀ j, j < i → ∀ n, (ps.getD j fun _ => false) n = true → n < 256) ∧ Keep (fun _ => False) H H') ps.length
      ⟨0, by omega, by omega, by simp only [go_sem, List.map_cons, List.map_nil, ↓reduceIte, Nat.reduceEqDiff, Nat.reduceAdd, Nat.reduceMul, reduceCtorEq, and_true, true_and, Nat.mul_one, Nat.zero_add, Bool.false_eq_true, decide_true, decide_false, not_false_eq_true, kont_eq]; rfl, fun j hj => by omega, Keep.refl _ _⟩ ?_
    rintro n g H1 ⟨i, hi, rfl, hf, hx, K1⟩
    simp only [go_sem, List.map_cons, List.map_nil, ↓reduceIte, Nat.reduceEqDiff, Nat.reduceAdd, Nat.reduceMul, reduceCtorEq, and_true, true_and, Nat.mul_one, Nat.zero_add, Bool.false_eq_true, decide_true, decide_false, not_false_eq_true, kont_eq] at hf
    simp only [go_sem, List.map_cons, List.map_nil, ↓reduceIte, Nat.reduceEqDiff, Nat.reduceAdd, Nat.reduceMul, reduceCtorEq, and_true, true_and, Nat.mul_one, Nat.zero_add, Bool.false_eq_true, decide_true, decide_false, not_false_eq_true, hf]
    refine iteV_dec (fun hlt => ?_) (fun hge => ?_)
    · have hlt : i < ps.length := by omega
      have hv1 := hv.keep K1 (fun _ _ _ h => h)
      obtain ⟨b, o, c, rfl, -, hc⟩ := hv1.sl.cells (by intro e; have h := congrArg List.length e; rw [hv.len, List.length_nil] at h; omega)
      rw [hv.len] at hc
      have hci := hc i hlt
      have hS := hv1.at_ i hlt
      have hvi : vs[i]? = some (vs.getD i undef) := by rw [List.getD_eq_getElem?_getD, List.getElem?_eq_getElem (by rw [hv.len]; exact hlt)]; rfl
      rw [hvi] at hci
      generalize vs.getD i undef = u at *
      have hld : ldNA H1 ⟨b, o + i, none⟩ 1 = some #[u] := by
        obtain ⟨C, T, z, hb, hz⟩ : ∃ C T z, H1[b]? = some (.cells C T z) ∧ C[o + i]? = some u := by
          simp only [cell] at hci
          split at hci
          · rename_i C T z hb; exact ⟨C, T, z, hb, by simpa using hci⟩
          · cases hci
        have hlt2 := (Array.getElem?_eq_some_iff.1 hz).1
        simp only [ldNA, hb, Option.isSome_none, Bool.false_eq_true, if_false]
        rw [if_pos (by omega)]
        congr 1
        apply Array.ext'
        rw [Array.toList_extract, List.extract_eq_take_drop]
        have : o + i < C.toList.length := by simpa using hlt2
        rw [List.drop_eq_getElem_cons this]
        have e1 : o + i + 1 - (o + i) = 1 := by omega
        rw [e1]
        have := (Array.getElem?_eq_some_iff.1 hz).2
        simpa using this
      simp only [go_sem, List.map_cons, List.map_nil, ↓reduceIte, Nat.reduceEqDiff, Nat.reduceAdd, Nat.reduceMul, reduceCtorEq, and_true, true_and, Nat.mul_one, Nat.zero_add, Bool.false_eq_true, decide_true, decide_false, not_false_eq_true, hf, hv.len, tn_cast, Nat.mul_one, ldNO_ptr, hld]
      refine ⟨by omega, ?_⟩
      refine kont_new fun H2 b2 e2 z2 B2 K2 => ?_
      have hone : all1 #[u] := by obtain ⟨uv, W, e, hw⟩ := hS; cases e; exact hw.sl.one
      have hokN := B2.okNA (o := 0) (n := 1) (by simp)
      have B3 := B2.stNA 0 [u]
      have B3 : Bl (stNA H2 ⟨b2, 0, none⟩ [u]) b2 [u] := by simpa [wrL] using B3
      have K3 : Keep (fun k => k = b2) H2 (stNA H2 ⟨b2, 0, none⟩ [u]) := (Keep.refl _ _).stNA _ (.inl rfl)
      have hl3 := B3.ldNA (o := 0) (n := 1) (by simp)
      simp only [go_sem, List.map_cons, List.map_nil, ↓reduceIte, Nat.reduceEqDiff, Nat.reduceAdd, Nat.reduceMul, reduceCtorEq, and_true, true_and, Nat.mul_one, Nat.zero_add, Bool.false_eq_true, decide_true, decide_false, not_false_eq_true, kont_eq, fillV_nil, fillV_cons, okFill_nil, okFill_cons, cells_slice, cells_int, cells_bool, cells_str, cells_ptr, cells_agg, stNH_ptr, okN_ptr, wrA1, wrA20, wrA21, hokN, hone]
      generalize stNA H2 ⟨b2, 0, none⟩ [u] = H3 at B3 K3 hl3 ⊢
      have e3 : (List.take 1 (List.drop 0 [u])).toArray = #[u] := rfl
      rw [e3] at hl3
      have K13 : Keep (fun _ => False) H H3 := (K1.trans K2).to_old K3 (by have := K1.size; omega)
      have hS3 : SetM H3 (.agg #[u]) (ps.getD i fun _ => false) := (hS.keep0 K2).keep K3 (fun k hb e => by
        have := hS.old hb
        omega)
      simp only [ldNO_ptr, hl3, Option.isSome_some, Option.getD_some, true_and]
      refine (hg _ _ H3 hS3).mono ?_
      rintro r H4 ⟨hr, K4⟩
      rcases hr with ⟨rfl, hnone⟩ | ⟨t, rfl, ht⟩
      · simp (disch := omega) only [go_sem, List.map_cons, List.map_nil, ↓reduceIte, Nat.reduceEqDiff, Nat.reduceAdd, Nat.reduceMul, reduceCtorEq, and_true, true_and, Nat.mul_one, Nat.zero_add, Bool.false_eq_true, decide_true, decide_false, not_false_eq_true, kont_eq, hf, IntWalk.i64_in]
        refine ⟨ps.length - (i + 1), by omega, i + 1, by omega, rfl, by simp, fun j hj n hn => ?_, K13.trans K4⟩
        by_cases e : j = i
        · subst e; rw [hnone] at hn; cases hn
        · exact hx j (by omega) n hn
      · by_cases h256 : (256 : Int) ≤ (t : Int)
        · simp only [go_sem, List.map_cons, List.map_nil, ↓reduceIte, Nat.reduceEqDiff, Nat.reduceAdd, Nat.reduceMul, reduceCtorEq, and_true, true_and, Nat.mul_one, Nat.zero_add, Bool.false_eq_true, decide_true, decide_false, not_false_eq_true, kont_eq, ge_iff_le, h256]
          refine ⟨?_, K13.trans K4⟩
          unfold chkF
          rw [if_neg h0, if_pos]
          refine wide_iff.2 ⟨ps.getD i fun _ => false, ?_, t, hS3.lt ht.1, ht.1, by omega⟩
          rw [List.getD_eq_getElem?_getD, List.getElem?_eq_getElem hlt]
          exact List.getElem_mem _
        · simp (disch := omega) only [go_sem, List.map_cons, List.map_nil, ↓reduceIte, Nat.reduceEqDiff, Nat.reduceAdd, Nat.reduceMul, reduceCtorEq, and_true, true_and, Nat.mul_one, Nat.zero_add, Bool.false_eq_true, decide_true, decide_false, not_false_eq_true, kont_eq, hf, ge_iff_le, h256, IntWalk.i64_in]
          refine ⟨ps.length - (i + 1), by omega, i + 1, by omega, rfl, by simp, fun j hj n hn => ?_, K13.trans K4⟩
          by_cases e : j = i
          · subst e
            have := ht.2 n hn
            omega
          · exact hx j (by omega) n hn
    · have : i = ps.length := by omega
      subst this
      refine ⟨?_, K1⟩
      unfold chkF
      rw [if_neg h0, if_neg]
      intro hw
      obtain ⟨p, hp, n, _, hn, h256⟩ := wide_iff.1 hw
      obtain ⟨j, hj, rfl⟩ := List.getElem_of_mem hp
      have := hx j hj n (by rw [List.getD_eq_getElem?_getD, List.getElem?_eq_getElem hj]; exact hn)
      omega
end Go.Mg

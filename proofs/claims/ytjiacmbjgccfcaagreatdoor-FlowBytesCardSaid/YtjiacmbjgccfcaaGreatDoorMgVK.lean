/- flow: Equal. -/
import Derived.Test.YtjiacmbjgccfcaaGreatDoorMgVH
import Derived.Test.YtjiacmbjgccfcaaGreatDoorMgDet
open Nat renaming reduceEqDiff → Za, reduceAdd → Zb, reduceMul → Zc, reduceLeDiff → Zd, reduceLT → Ze
open Int renaming reduceBEq → Zf, reduceBNe → Zg, reduceLE → Zh, reduceLT → Zi
namespace Go.Mg
open Go Go.RowKit
set_option linter.unusedSimpArgs false
set_option linter.unusedVariables false
set_option maxRecDepth 100000
def c_seqG (X : List (Nat × Option IntKind)) (ι : Ids) : S :=
  .seq (.reg [.p (.v 4) (.mv (.c (.bool false)))]) (.seq (.seq (.reg [.p (.t 6) (.mv (.v 0)), .p (.t 7) (.m (.lenl (.t 6))), .p (.t 8) (.mv (.v 1)), .p (.t 9) (.m (.lenl (.t 8))), .p (.v 10) (.cm .neq
  .i64 (.t 7) (.t 9))]) (.ite (.v 10) (.seq (.reg [.p (.v 4) (.mv (.c (.bool false)))]) .ret) .skip)) (.seq (.seq (.reg [.p (.t 11) (.mv (.v 0)), .p (.v 12) (.m (.lenl (.t 11))), .p (.v 13) (.mv (.c
  (.int .i64 0)))]) (.blk 0 (.loop (.seq (.reg [.p (.v 14) (.cm .lss .i64 (.v 13) (.v 12))]) (.seq (.ite (.v 14) .skip (.exit 0)) (.seq (.blk 1 (.seq (.reg [.p (.t 15) (.mv (.v 13)), .p (.v 5) (.mv (.t
  15))]) (.seq (.reg [.p (.t 16) (.mv (.v 0)), .p (.t 17) (.mv (.v 5)), .p (.t 18) (.is 2 (.t 16) (.t 17)), .p (.t 19) (.m (.ldn 2 (.t 18))), .p (.t 20) (.mv (.v 1)), .p (.t 21) (.mv (.v 5)), .p (.t 22)
  (.is 2 (.t 20) (.t 21)), .p (.t 23) (.m (.ldn 2 (.t 22))), .p (.v 24) (.m (.eqs true X (.t 19) (.t 23)))]) (.ite (.v 24) (.seq (.reg [.p (.v 4) (.mv (.c (.bool false)))]) .ret) .skip)))) (.reg [.p (.t
  25) (.ar .add .i64 (.v 13) (.c (.int .i64 1))), .p (.v 13) (.mv (.t 25))]))))))) (.seq (.reg [.p (.v 4) (.mv (.c (.bool true)))]) .ret)))
def r_seqG : List RV := [.t 4]
def c_eqP (ι : Ids) : S :=
  .seq (.reg [.p (.v 4) (.mv (.c (.bool false)))]) (.seq (.seq (.reg [.p (.t 6) (.mv (.v 0)), .p (.t 7) (.m (.lenl (.t 6))), .p (.t 8) (.mv (.v 1)), .p (.t 9) (.m (.lenl (.t 8))), .p (.v 10) (.cm .neq
  .i64 (.t 7) (.t 9))]) (.ite (.v 10) (.seq (.reg [.p (.v 4) (.mv (.c (.bool false)))]) .ret) .skip)) (.seq (.seq (.reg [.p (.t 11) (.mv (.v 0)), .p (.v 12) (.m (.lenl (.t 11))), .p (.v 13) (.mv (.c
  (.int .i64 0)))]) (.blk 0 (.loop (.seq (.reg [.p (.v 14) (.cm .lss .i64 (.v 13) (.v 12))]) (.seq (.ite (.v 14) .skip (.exit 0)) (.seq (.blk 1 (.seq (.reg [.p (.t 15) (.mv (.v 13)), .p (.v 5) (.mv (.t
  15))]) (.seq (.reg [.p (.t 16) (.mv (.v 0)), .p (.t 17) (.mv (.v 5)), .p (.t 18) (.is 2 (.t 16) (.t 17)), .p (.t 19) (.m (.ldn 2 (.t 18))), .p (.t 20) (.mv (.v 1)), .p (.t 21) (.mv (.v 5)), .p (.t 22)
  (.is 2 (.t 20) (.t 21)), .p (.t 23) (.m (.ldn 2 (.t 22))), .p (.v 24) (.m (.eqa true .i64 2 (.t 19) (.t 23)))]) (.ite (.v 24) (.seq (.reg [.p (.v 4) (.mv (.c (.bool false)))]) .ret) .skip)))) (.reg
  [.p (.t 25) (.ar .add .i64 (.v 13) (.c (.int .i64 1))), .p (.v 13) (.mv (.t 25))]))))))) (.seq (.reg [.p (.v 4) (.mv (.c (.bool true)))]) .ret)))
def r_eqP : List RV := [.t 4]
def c_eqfM (ι : Ids) : S :=
  .seq (.reg [.p (.v 6) (.mv (.c (.bool false)))]) (.seq (.seq (.reg [.p (.t 10) (.mv (.v 0)), .p (.t 11) (.m (.lenl (.t 10))), .p (.t 12) (.mv (.v 1)), .p (.t 13) (.m (.lenl (.t 12))), .p (.v 14) (.cm
  .neq .i64 (.t 11) (.t 13))]) (.ite (.v 14) (.seq (.reg [.p (.v 6) (.mv (.c (.bool false)))]) .ret) .skip)) (.seq (.seq (.reg [.p (.v 15) (.mv (.v 0)), .p (.v 16) (.m (.lenl (.v 15))), .p (.v 17) (.mv
  (.c (.int .i64 0)))]) (.blk 0 (.loop (.seq (.reg [.p (.v 18) (.cm .lss .i64 (.v 17) (.v 16))]) (.seq (.ite (.v 18) .skip (.exit 0)) (.seq (.blk 1 (.seq (.reg [.p (.t 19) (.mv (.v 17)), .p (.t 20) (.is
  2 (.v 15) (.v 17)), .p (.t 21) (.m (.ldn 2 (.t 20))), .e (.v 8) (.new (ι.t 298) #[.int .i64 0, .slice .none 0 0]), .p (.v 7) (.mv (.t 19)), .e .no (.stn 2 (.v 8) (.t 21))]) (.seq (.reg [.p (.t 22)
  (.mv (.v 1)), .p (.t 23) (.mv (.v 7)), .p (.t 24) (.is 2 (.t 22) (.t 23)), .p (.t 25) (.m (.ldn 2 (.t 24))), .e (.v 9) (.new (ι.t 298) #[.int .i64 0, .slice .none 0 0]), .e .no (.stn 2 (.v 9) (.t
  25))]) (.seq (.reg [.p (.t 26) (.mv (.v 2)), .p (.t 27) (.m (.ldn 2 (.v 8))), .p (.t 28) (.m (.ldn 2 (.v 9))), .e (.t 29) (.callv (.t 26) [.t 27, .t 28]), .p (.v 30) (.not (.t 29))]) (.ite (.v 30)
  (.seq (.reg [.p (.v 6) (.mv (.c (.bool false)))]) .ret) .skip))))) (.reg [.p (.t 31) (.ar .add .i64 (.v 17) (.c (.int .i64 1))), .p (.v 17) (.mv (.t 31))]))))))) (.seq (.reg [.p (.v 6) (.mv (.c (.bool
  true)))]) .ret)))
def r_eqfM : List RV := [.t 6]
def c_feq1 (ι : Ids) : S :=
  .seq (.reg [.e (.v 2) (.box (ι.t 298) (.v 0)), .e (.v 3) (.box (ι.t 298) (.v 1)), .p (.v 4) (.mv (.c (.bool false)))]) (.seq (.reg [.p (.t 5) (.fa 0 (.v 2)), .p (.t 6) (.ld (.t 5)), .p (.t 7) (.fa 0
  (.v 3)), .p (.t 8) (.ld (.t 7)), .p (.t 9) (.cm .eql .i64 (.t 6) (.t 8)), .p (.t 10) (.mv (.t 9)), .gp (.t 11) (.t 10) true (.fa 1 (.v 2)), .gp (.t 12) (.t 10) true (.m (.ldn 1 (.t 11))), .gp (.t 13)
  (.t 10) true (.fa 1 (.v 3)), .gp (.t 14) (.t 10) true (.m (.ldn 1 (.t 13))), .ge (.t 15) (.t 10) true (.call (ι.f 140) [.t 12, .t 14]), .p (.t 16) (.pick (.t 10) (.t 15) (.c (.bool false))), .p (.v 4)
  (.mv (.t 16))]) .ret)
def r_feq1 : List RV := [.t 4]
def c_feq (ι : Ids) : S :=
  .seq (.reg [.e (.v 2) (.box (ι.t 296) (.v 0)), .e (.v 3) (.box (ι.t 296) (.v 1)), .p (.v 4) (.mv (.c (.bool false)))]) (.seq (.reg [.p (.t 5) (.fa 0 (.v 2)), .p (.t 6) (.ld (.t 5)), .p (.t 7) (.fa 0
  (.v 3)), .p (.t 8) (.ld (.t 7)), .e (.t 9) (.call (ι.f 332) [.t 6, .t 8]), .p (.t 10) (.mv (.t 9)), .gp (.t 11) (.t 10) true (.fa 1 (.v 2)), .gp (.t 12) (.t 10) true (.ld (.t 11)), .gp (.t 13) (.t 10)
  true (.fa 1 (.v 3)), .gp (.t 14) (.t 10) true (.ld (.t 13)), .ge (.t 15) (.t 10) true (.call (ι.f 229) [.t 12, .t 14]), .p (.t 16) (.pick (.t 10) (.t 15) (.c (.bool false))), .p (.t 17) (.mv (.t 16)),
  .gp (.t 18) (.t 17) true (.fa 2 (.v 2)), .gp (.t 19) (.t 17) true (.ld (.t 18)), .gp (.t 20) (.t 17) true (.fa 2 (.v 3)), .gp (.t 21) (.t 17) true (.ld (.t 20)), .ge (.t 22) (.t 17) true (.call (ι.f
  229) [.t 19, .t 21]), .p (.t 23) (.pick (.t 17) (.t 22) (.c (.bool false))), .p (.t 24) (.mv (.t 23)), .gp (.t 25) (.t 24) true (.fa 3 (.v 2)), .gp (.t 26) (.t 24) true (.ld (.t 25)), .gp (.t 27) (.t
  24) true (.fa 3 (.v 3)), .gp (.t 28) (.t 24) true (.ld (.t 27)), .ge (.t 29) (.t 24) true (.call (ι.f 229) [.t 26, .t 28]), .p (.t 30) (.pick (.t 24) (.t 29) (.c (.bool false))), .p (.t 31) (.mv (.t
  30)), .gp (.t 32) (.t 31) true (.fa 4 (.v 2)), .gp (.t 33) (.t 31) true (.ld (.t 32)), .gp (.t 34) (.t 31) true (.fa 4 (.v 3)), .gp (.t 35) (.t 31) true (.ld (.t 34)), .ge (.t 36) (.t 31) true (.call
  (ι.f 330) [.t 33, .t 35, .c (.func (.func (ι.f 331)) #[] #[])]), .p (.t 37) (.pick (.t 31) (.t 36) (.c (.bool false))), .p (.v 4) (.mv (.t 37))]) .ret)
def r_feq : List RV := [.t 4]
def c_eqS (ι : Ids) : S := c_seqG [(0, none), (1, some .i64)] ι
theorem gL_enc (l : List Value) : gL (.agg l.toArray) = l := rfl
theorem eqa2 (x y : Int × Int) : (List.map Value.i (pE x) == List.map Value.i (pE y)) = decide (x = y) := by
  obtain ⟨x1, x2⟩ := x
  obtain ⟨y1, y2⟩ := y
  rw [Bool.eq_iff_iff]
  simp [pE, Value.i]
theorem pE_isI (x : Int × Int) : ∀ v ∈ (pE x).toArray, isI .i64 v := by
  intro v hv
  simp [pE] at hv
  rcases hv with rfl | rfl <;> rfl
theorem step_eq {α : Type} {l m : List α} {i : Nat} (hx : ∀ j, (h1 : j < l.length) → (h2 : j < m.length) → j < i → l[j] = m[j]) (h1 : i < l.length) (h2 : i < m.length) (h : l[i] = m[i]) : ∀ j, (h1 : j < l.length) → (h2 : j < m.length) → j < i + 1 → l[j] = m[j] := fun j h1 h2 hj => by
  by_cases e : j = i
  · subst e; exact h
  · exact hx j h1 h2 (by omega)
def EqESpec {α : Type} [DecidableEq α] (enc : α → List Value) (P : Program) (k : FuncId) : Prop := ∀ (l m : List α) (v w : Value) (H : Hp), SlE enc 2 H v l → SlE enc 2 H w m → l.length ≤ 1000000 → m.length ≤ 1000000 → CallsM P k #[v, w] H fun r H' => r = .bool (decide (l = m)) ∧ H' = H
theorem seqG_ok {α : Type} [DecidableEq α] {enc : α → List Value} (hen : ∀ x, (enc x).length = 2) {X : List (Nat × Option IntKind)} (hO : ∀ x, okFs X (enc x)) (hE : ∀ x y, eqFs X (enc x) (enc y) = decide (x = y)) {P : Program} {ι : Ids} {k : FuncId} (hk : FnIs P k (c_seqG X ι) r_seqG 2) : EqESpec enc P k := by
  intro l m v w H hv hw hl hm
  refine calls_of_vc hk (args := [_, _]) (by simp) ?_
  unfold c_seqG r_seqG
  by_cases hlm : l.length = m.length
  · have e0 : ((m.length : Int) != (m.length : Int)) = false := by simp
    simp -implicitDefEqProofs only [go_sem, zS, ↓reduceIte, Za, Zb, Zc, reduceCtorEq, kont_eq, zU, zV, Zf, Zg, Zh, Zi, Zd, Ze, hv.isSl, hv.len, hw.isSl, hw.len, hlm, e0]
    refine vc_range m.length [14, 13, 24, 4, 5] rfl rfl (by omega) (by simp -implicitDefEqProofs only [go_sem, zS, ↓reduceIte, Za, Zb, Zc, reduceCtorEq, kont_eq, zU, zV, Zf, Zg, Zh, Zi, Zd, Ze]) (by simp -implicitDefEqProofs only [go_sem, zS, ↓reduceIte, Za, Zb, Zc, reduceCtorEq, kont_eq, zU, zV, Zf, Zg, Zh, Zi, Zd, Ze]) (fun i g A => (∀ j, (h1 : j < l.length) → (h2 : j < m.length) → j < i → l[j] = m[j]) ∧ A = H) ⟨fun j _ _ h => by omega, rfl⟩ ?_ ?_
    · rintro i g A hi gi gn ⟨hx, rfl⟩
      simp -implicitDefEqProofs only [go_sem, zS, ↓reduceIte, Za, Zb, Zc, reduceCtorEq, kont_eq, zU, zV, Zf, Zg, Zh, Zi, Zd, Ze] at gi gn
      have hi' : i < l.length := by omega
      obtain ⟨b, o, c, rfl, -, h1⟩ := hv.elem (enc := enc) (by first | exact hen | exact pE_len) (i := i) hi'
      obtain ⟨b2, o2, c2, rfl, -, h2⟩ := hw.elem (enc := enc) (by first | exact hen | exact pE_len) (i := i) hi
      by_cases h : l[i] = m[i]
      · simp -implicitDefEqProofs only [go_sem, zS, ↓reduceIte, Za, Zb, Zc, reduceCtorEq, kont_eq, zU, zV, Zf, Zg, Zh, Zi, Zd, Ze, gi, tn_cast, ldNO_ptr, h1, h2, hlm, gL_enc, hO, hE, h]
        exact ⟨by omega, by omega, fun j h1 h2 => step_eq hx hi' hi h j (by omega) h2⟩
      · have e2 : decide (l = m) = false := decide_eq_false fun e => h (by subst e; rfl)
        simp -implicitDefEqProofs only [go_sem, zS, ↓reduceIte, Za, Zb, Zc, reduceCtorEq, kont_eq, zU, zV, Zf, Zg, Zh, Zi, Zd, Ze, gi, tn_cast, ldNO_ptr, h1, h2, hlm, gL_enc, hO, hE, h, e2]
        exact ⟨by omega, by omega⟩
    · rintro g A gi ⟨hx, rfl⟩
      have e2 : l = m := List.ext_getElem hlm fun i h1 h2 => hx i h1 h2 h2
      simp -implicitDefEqProofs only [go_sem, zS, ↓reduceIte, Za, Zb, Zc, reduceCtorEq, kont_eq, zU, zV, Zf, Zg, Zh, Zi, Zd, Ze, decide_eq_true e2]
  · have e0 : ((l.length : Int) != (m.length : Int)) = true := by rw [bne_iff_ne]; omega
    have e2 : decide (l = m) = false := decide_eq_false (fun e => hlm (by rw [e]))
    simp -implicitDefEqProofs only [go_sem, zS, ↓reduceIte, Za, Zb, Zc, reduceCtorEq, kont_eq, zU, zV, Zf, Zg, Zh, Zi, Zd, Ze, hv.isSl, hv.len, hw.isSl, hw.len, e0, e2]
theorem eqP_ok   {P : Program} {ι : Ids} {k : FuncId} (hk : FnIs P k (c_eqP ι) r_eqP 2) : EqESpec pE P k := by
  intro l m v w H hv hw hl hm
  refine calls_of_vc hk (args := [_, _]) (by simp) ?_
  unfold c_eqP r_eqP
  by_cases hlm : l.length = m.length
  · have e0 : ((m.length : Int) != (m.length : Int)) = false := by simp
    simp -implicitDefEqProofs only [go_sem, zS, ↓reduceIte, Za, Zb, Zc, reduceCtorEq, kont_eq, zU, zV, Zf, Zg, Zh, Zi, Zd, Ze, hv.isSl, hv.len, hw.isSl, hw.len, hlm, e0]
    refine vc_range m.length [14, 13, 24, 4, 5] rfl rfl (by omega) (by simp -implicitDefEqProofs only [go_sem, zS, ↓reduceIte, Za, Zb, Zc, reduceCtorEq, kont_eq, zU, zV, Zf, Zg, Zh, Zi, Zd, Ze]) (by simp -implicitDefEqProofs only [go_sem, zS, ↓reduceIte, Za, Zb, Zc, reduceCtorEq, kont_eq, zU, zV, Zf, Zg, Zh, Zi, Zd, Ze]) (fun i g A => (∀ j, (h1 : j < l.length) → (h2 : j < m.length) → j < i → l[j] = m[j]) ∧ A = H) ⟨fun j _ _ h => by omega, rfl⟩ ?_ ?_
    · rintro i g A hi gi gn ⟨hx, rfl⟩
      simp -implicitDefEqProofs only [go_sem, zS, ↓reduceIte, Za, Zb, Zc, reduceCtorEq, kont_eq, zU, zV, Zf, Zg, Zh, Zi, Zd, Ze] at gi gn
      have hi' : i < l.length := by omega
      obtain ⟨b, o, c, rfl, -, h1⟩ := hv.elem (enc := pE) (by first | exact hen | exact pE_len) (i := i) hi'
      obtain ⟨b2, o2, c2, rfl, -, h2⟩ := hw.elem (enc := pE) (by first | exact hen | exact pE_len) (i := i) hi
      by_cases h : l[i] = m[i]
      · simp -implicitDefEqProofs only [go_sem, zS, ↓reduceIte, Za, Zb, Zc, reduceCtorEq, kont_eq, zU, zV, Zf, Zg, Zh, Zi, Zd, Ze, gi, tn_cast, ldNO_ptr, h1, h2, hlm, eqa2, pE_len, h]
        exact ⟨⟨by omega, by omega⟩, ⟨by omega, by omega⟩, pE_isI _, fun j h1 h2 => step_eq hx hi' hi h j (by omega) h2⟩
      · have e2 : decide (l = m) = false := decide_eq_false fun e => h (by subst e; rfl)
        simp -implicitDefEqProofs only [go_sem, zS, ↓reduceIte, Za, Zb, Zc, reduceCtorEq, kont_eq, zU, zV, Zf, Zg, Zh, Zi, Zd, Ze, gi, tn_cast, ldNO_ptr, h1, h2, hlm, eqa2, pE_len, h, e2]
        exact ⟨⟨by omega, by omega⟩, ⟨by omega, by omega⟩, pE_isI _, pE_isI _⟩
    · rintro g A gi ⟨hx, rfl⟩
      have e2 : l = m := List.ext_getElem hlm fun i h1 h2 => hx i h1 h2 h2
      simp -implicitDefEqProofs only [go_sem, zS, ↓reduceIte, Za, Zb, Zc, reduceCtorEq, kont_eq, zU, zV, Zf, Zg, Zh, Zi, Zd, Ze, decide_eq_true e2]
  · have e0 : ((l.length : Int) != (m.length : Int)) = true := by rw [bne_iff_ne]; omega
    have e2 : decide (l = m) = false := decide_eq_false (fun e => hlm (by rw [e]))
    simp -implicitDefEqProofs only [go_sem, zS, ↓reduceIte, Za, Zb, Zc, reduceCtorEq, kont_eq, zU, zV, Zf, Zg, Zh, Zi, Zd, Ze, hv.isSl, hv.len, hw.isSl, hw.len, e0, e2]
def r_eqS : List RV := r_seqG
theorem eqS_ok {P : Program} {ι : Ids} {k : FuncId} (hk : FnIs P k (c_eqS ι) r_eqS 2) : EqESpec encS P k := by
  refine seqG_ok (ι := ι) (X := [(0, none), (1, some .i64)]) encS_len (fun x => ⟨⟨by simp [encS], trivial⟩, ⟨by simp [encS], rfl⟩, trivial⟩) (fun x y => ?_) hk
  obtain ⟨x1, x2⟩ := x
  obtain ⟨y1, y2⟩ := y
  rw [Bool.eq_iff_iff]
  simp only [eqFs, encS, sV, List.getD_cons_zero, List.getD_cons_succ, Value.i, Value.s, toList_ba, Bool.and_true, Bool.and_eq_true, beq_iff_eq, decide_eq_true_eq, Prod.mk.injEq]
def eqL {α : Type} (q : α → α → Bool) (l m : List α) : Bool := decide (l.length = m.length) && (l.zip m).all fun p => q p.1 p.2
theorem eqL_ne {α : Type} {q : α → α → Bool} {l m : List α} (h : l.length ≠ m.length) : eqL q l m = false := by simp [eqL, h]
theorem eqL_at {α : Type} {q : α → α → Bool} {l m : List α} {i : Nat} (h1 : i < l.length) (h2 : i < m.length) (h : q l[i] m[i] = false) : eqL q l m = false := by
  unfold eqL
  rw [Bool.and_eq_false_iff]
  right
  rw [List.all_eq_false]
  exact ⟨(l[i], m[i]), List.mem_iff_getElem.2 ⟨i, by simp; omega, by simp⟩, by simp [h]⟩
theorem eqL_all {α : Type} {q : α → α → Bool} {l m : List α} (hl : l.length = m.length) (h : ∀ i, (h1 : i < l.length) → (h2 : i < m.length) → q l[i] m[i] = true) : eqL q l m = true := by
  unfold eqL
  rw [Bool.and_eq_true]
  refine ⟨decide_eq_true hl, List.all_eq_true.2 fun p hp => ?_⟩
  obtain ⟨i, hi, rfl⟩ := List.getElem_of_mem hp
  simp at hi
  simpa using h i (by omega) (by omega)
def EqC {α : Type} (P : Program) (enc : α → List Value) (q : α → α → Bool) (l m : List α) (g : FuncId) (H : Hp) : Prop := bodyOk P g = true ∧ ∀ x ∈ l, ∀ y ∈ m, ∀ A, Keep (fun _ => False) H A → CallsM P g #[.agg (enc x).toArray, .agg (enc y).toArray] A fun r A' => r = .bool (q x y) ∧ Keep (fun _ => False) A A'
def EqFSpec {α : Type} (enc : α → List Value) (k : Nat) (P : Program) (j : FuncId) : Prop := ∀ (l m : List α) (q : α → α → Bool) (v w : Value) (g : FuncId) (H : Hp), SlE enc k H v l → SlE enc k H w m → l.length ≤ 1000000 → m.length ≤ 1000000 → EqC P enc q l m g H → CallsM P j #[v, w, .func (.func g) #[] #[]] H fun r H' => r = .bool (eqL q l m) ∧ Keep (fun _ => False) H H'
theorem eqfM_ok {P : Program} {ι : Ids} {j : FuncId} (hk : FnIs P j (c_eqfM ι) r_eqfM 3) : EqFSpec encV 2 P j := by
  intro l m q v w g H hv hw hl hm ⟨hg, hq⟩
  refine calls_of_vc hk (args := [_, _, _]) (by simp) ?_
  unfold c_eqfM r_eqfM
  by_cases hlm : l.length = m.length
  · have e0 : ((m.length : Int) != (m.length : Int)) = false := by simp
    simp -implicitDefEqProofs only [go_sem, zS, ↓reduceIte, Za, Zb, Zc, reduceCtorEq, kont_eq, zU, zV, Zf, Zg, Zh, Zi, Zd, Ze, hv.isSl, hv.len, hw.isSl, hw.len, hlm, e0]
    refine vc_range m.length [18, 17, 8, 7, 9, 30, 6] rfl rfl (by omega) (by simp -implicitDefEqProofs only [go_sem, zS, ↓reduceIte, Za, Zb, Zc, reduceCtorEq, kont_eq, zU, zV, Zf, Zg, Zh, Zi, Zd, Ze]) (by simp -implicitDefEqProofs only [go_sem, zS, ↓reduceIte, Za, Zb, Zc, reduceCtorEq, kont_eq, zU, zV, Zf, Zg, Zh, Zi, Zd, Ze]) (fun i g A => (∀ j, (h1 : j < l.length) → (h2 : j < m.length) → j < i → q l[j] m[j] = true) ∧ Keep (fun _ => False) H A) ⟨fun j _ _ h => by omega, Keep.refl _ _⟩ ?_ ?_
    · rintro i f A hi gi gn ⟨hx, KA⟩
      simp -implicitDefEqProofs only [go_sem, zS, ↓reduceIte, Za, Zb, Zc, reduceCtorEq, kont_eq, zU, zV, Zf, Zg, Zh, Zi, Zd, Ze] at gi gn
      have hi' : i < l.length := by omega
      obtain ⟨b, o, c, e, -, h1⟩ := (hv.keep0 KA).elem encV_len (i := i) hi'
      obtain ⟨b2, o2, c2, e2, -, h2⟩ := (hw.keep0 KA).elem encV_len (i := i) hi
      simp -implicitDefEqProofs only [go_sem, zS, ↓reduceIte, Za, Zb, Zc, reduceCtorEq, zU, zV, Zf, Zg, Zh, Zi, Zd, Ze, zF, gi, e, tn_cast, ldNO_ptr, h1, hlm]
      refine ⟨⟨by omega, by omega⟩, ?_⟩
      refine kont_newstP (encV l[i]) (.int .i64 (i : Int)) rfl (by simp -implicitDefEqProofs only [go_sem, zS, ↓reduceIte, Za, Zb, Zc, reduceCtorEq, kont_eq, zU, zV, Zf, Zg, Zh, Zi, Zd, Ze]) (by simp -implicitDefEqProofs only [go_sem, zS, ↓reduceIte, Za, Zb, Zc, reduceCtorEq, kont_eq, zU, zV, Zf, Zg, Zh, Zi, Zd, Ze]) rfl rfl (List.all_eq_true.2 (encV_one _)) fun A1 b8 e8 z8 B8 K8 => ?_
      obtain ⟨b2', o2', c2', e2', -, h2'⟩ := (hw.keep0 (KA.trans K8)).elem encV_len (i := i) hi
      simp -implicitDefEqProofs only [go_sem, zS, ↓reduceIte, Za, Zb, Zc, reduceCtorEq, zU, zV, Zf, Zg, Zh, Zi, Zd, Ze, zF, gi, e2', tn_cast, ldNO_ptr, h2', hlm]
      refine ⟨⟨by omega, by omega⟩, ?_⟩
      refine kont_newst (encV m[i]) (by simp -implicitDefEqProofs only [go_sem, zS, ↓reduceIte, Za, Zb, Zc, reduceCtorEq, kont_eq, zU, zV, Zf, Zg, Zh, Zi, Zd, Ze]) rfl rfl (List.all_eq_true.2 (encV_one _)) fun A2 b9 e9 z9 B9 K9 => ?_
      have K2 := K8.trans K9
      simp -implicitDefEqProofs only [go_sem, zS, ↓reduceIte, Za, Zb, Zc, reduceCtorEq, zU, zV, Zf, Zg, Zh, Zi, Zd, Ze, zF, (K9.bl B8 (by simp)).ldNO 2 rfl, B9.ldNO 2 rfl]
      refine ⟨hg, (hq l[i] (List.getElem_mem _) m[i] (List.getElem_mem _) A2 (KA.trans K2)).mono ?_⟩
      rintro r A3 ⟨rfl, K3⟩
      rw [kont_eq]
      cases hqq : q l[i] m[i] with
      | true =>
        simp -implicitDefEqProofs only [go_sem, zS, ↓reduceIte, Za, Zb, Zc, reduceCtorEq, kont_eq, zU, zV, Zf, Zg, Zh, Zi, Zd, Ze, zF, Bool.not_true]
        refine ⟨fun j h1 h2 hj => ?_, KA.trans (K2.trans K3)⟩
        by_cases e : j = i
        · subst e; exact hqq
        · exact hx j (by omega) (by omega) (by omega)
      | false =>
        simp -implicitDefEqProofs only [go_sem, zS, ↓reduceIte, Za, Zb, Zc, reduceCtorEq, kont_eq, zU, zV, Zf, Zg, Zh, Zi, Zd, Ze, zF, Bool.not_false, eqL_at hi' hi hqq]
        exact KA.trans (K2.trans K3)
    · rintro f A gi ⟨hx, KA⟩
      simp -implicitDefEqProofs only [go_sem, zS, ↓reduceIte, Za, Zb, Zc, reduceCtorEq, kont_eq, zU, zV, Zf, Zg, Zh, Zi, Zd, Ze, zF, eqL_all hlm fun i h1 h2 => hx i h1 h2 (by omega)]
      exact KA
  · have e0 : ((l.length : Int) != (m.length : Int)) = true := by rw [bne_iff_ne]; omega
    simp -implicitDefEqProofs only [go_sem, zS, ↓reduceIte, Za, Zb, Zc, reduceCtorEq, kont_eq, zU, zV, Zf, Zg, Zh, Zi, Zd, Ze, hv.isSl, hv.len, hw.isSl, hw.len, e0, eqL_ne hlm]
    exact Keep.refl _ _
def Feq1Spec (P : Program) (k : FuncId) : Prop := bodyOk P k = true ∧ ∀ (x y : MV) (a b : MoN) (H : Hp), x.1 = a.1 → y.1 = b.1 → SetM H (.agg #[mvV x]) (bt a.2) → SetM H (.agg #[mvV y]) (bt b.2) → CallsM P k #[.agg (encV x).toArray, .agg (encV y).toArray] H fun r H' => r = .bool (decide (a = b)) ∧ Keep (fun _ => False) H H'
theorem feq1_ok {P : Program} {ι : Ids} {k : FuncId} (hk : FnIs P k (c_feq1 ι) r_feq1 2) (he : BEqualSpec P (ι.f 140)) : Feq1Spec P k := by
  refine ⟨hk.body, fun x y a b H hx hy sx sy => ?_⟩
  refine calls_of_vc hk (args := [_, _]) (by simp) ?_
  unfold c_feq1 r_feq1
  simp -implicitDefEqProofs only [go_sem, zS, ↓reduceIte, Za, Zb, Zc, reduceCtorEq, zU, zV, Zf, Zg, Zh, Zi, Zd, Ze, zF]
  refine kont_new fun A1 b1 e1 z1 B1 K1 => ?_
  have B1' : Bl A1 b1 (encV x) := B1
  simp -implicitDefEqProofs only [go_sem, zS, ↓reduceIte, Za, Zb, Zc, reduceCtorEq, zU, zV, Zf, Zg, Zh, Zi, Zd, Ze, zF]
  refine kont_new fun A2 b2 e2 z2 B2 K2 => ?_
  have B2' : Bl A2 b2 (encV y) := B2
  have B12 := K2.bl B1' (by simp)
  have K12 := K1.trans K2
  have c1 : cell A2 ⟨b1, 0, none⟩ = some (.int .i64 x.1) := by rw [B12.cell]; rfl
  have c2 : cell A2 ⟨b2, 0, none⟩ = some (.int .i64 y.1) := by rw [B2'.cell]; rfl
  have l1 : ldNA A2 ⟨b1, 1, none⟩ 1 = some #[mvV x] := B12.ldNA (o := 1) (n := 1) (by simp [encV])
  have l2 : ldNA A2 ⟨b2, 1, none⟩ 1 = some #[mvV y] := B2'.ldNA (o := 1) (n := 1) (by simp [encV])
  by_cases h : a.1 = b.1
  · have d1 : (x.1 == y.1) = true := by rw [hx, hy]; simpa using h
    simp -implicitDefEqProofs only [go_sem, zS, ↓reduceIte, Za, Zb, Zc, reduceCtorEq, kont_eq, zU, zV, Zf, Zg, Zh, Zi, Zd, Ze, zF, c1, c2, d1, ldNO_ptr, l1, l2, forall_const]
    refine (he _ _ _ _ A2 (sx.keep0 K12) (sy.keep0 K12)).mono ?_
    rintro r A3 ⟨⟨c, rfl, hc⟩, K3⟩
    rw [kont_eq]
    simp -implicitDefEqProofs only [go_sem, zS, ↓reduceIte, Za, Zb, Zc, reduceCtorEq, kont_eq, zU, zV, Zf, Zg, Zh, Zi, Zd, Ze, zF]
    refine ⟨?_, K12.trans K3⟩
    congr 1
    rw [Bool.eq_iff_iff, hc]
    simp only [decide_eq_true_eq]
    exact ⟨fun e => Prod.ext h (bt_ext fun j _ => e j), fun e n => by rw [e]⟩
  · have d1 : (x.1 == y.1) = false := by rw [hx, hy]; simpa using h
    simp -implicitDefEqProofs only [go_sem, zS, ↓reduceIte, Za, Zb, Zc, reduceCtorEq, kont_eq, zU, zV, Zf, Zg, Zh, Zi, Zd, Ze, zF, c1, c2, d1, false_imp_iff]
    have : decide (a = b) = false := decide_eq_false fun e => h (by rw [e])
    rw [this]
    exact ⟨rfl, K12⟩
def feqB (F G : FlN) : Bool := decide (F.st = G.st) && decide (F.be = G.be) && decide (F.di = G.di) && decide (F.sa = G.sa) && decide (F.mo = G.mo)
theorem feqB_iff {F G : FlN} : feqB F G = true ↔ F = G := by
  unfold feqB
  simp only [Bool.and_eq_true, decide_eq_true_eq]
  constructor
  · rintro ⟨⟨⟨⟨h1, h2⟩, h3⟩, h4⟩, h5⟩
    cases F; cases G; simp_all
  · rintro rfl; simp
def isMo (H : Hp) (x : MV) (a : MoN) : Prop := x.1 = a.1 ∧ SetM H (.agg #[mvV x]) (bt a.2)
theorem isMo.det {H : Hp} {x : MV} {a b : MoN} (h : isMo H x a) (k : isMo H x b) : a = b := Prod.ext (h.1.symm.trans k.1) (bt_ext fun n _ => h.2.det k.2 n)
noncomputable def qM (H : Hp) (x y : MV) : Bool := @decide (∀ a b, isMo H x a → isMo H y b → a = b) (Classical.propDecidable _)
theorem qM_eq {H : Hp} {x y : MV} {a b : MoN} (h : isMo H x a) (k : isMo H y b) : qM H x y = decide (a = b) := by
  rw [Bool.eq_iff_iff, decide_eq_true_eq]
  refine (@decide_eq_true_iff _ (Classical.propDecidable _)).trans ?_
  exact ⟨fun e => e a b h k, fun e a' b' h' k' => (h'.det h).trans (e.trans (k.det k'))⟩
theorem MosR.is {H : Hp} {ms : List MV} {mo : List MoN} (h : MosR H ms mo) {x : MV} (hx : x ∈ ms) : ∃ a, isMo H x a := by
  obtain ⟨i, hi, rfl⟩ := List.getElem_of_mem hx
  exact ⟨_, h.at_ i hi (by rw [← h.len]; exact hi)⟩
theorem eqL_mos {H : Hp} {ms ns : List MV} {mo no : List MoN} (h1 : MosR H ms mo) (h2 : MosR H ns no) : eqL (qM H) ms ns = decide (mo = no) := by
  by_cases hl : ms.length = ns.length
  · have g1 := h1.len
    have g2 := h2.len
    by_cases e : mo = no
    · rw [decide_eq_true e]
      refine eqL_all hl fun i i1 i2 => ?_
      rw [qM_eq (h1.at_ i i1 (by omega)) (h2.at_ i i2 (by omega))]
      subst e
      exact decide_eq_true rfl
    · rw [decide_eq_false e]
      obtain ⟨i, i1, i2, hne⟩ : ∃ i, ∃ (i1 : i < mo.length) (i2 : i < no.length), mo[i] ≠ no[i] := by
        apply Classical.byContradiction
        intro hn
        exact e (List.ext_getElem (by omega) fun i i1 i2 => Classical.byContradiction fun hc => hn ⟨i, i1, i2, hc⟩)
      refine eqL_at (i := i) (by omega) (by omega) ?_
      rw [qM_eq (h1.at_ i (by omega) i1) (h2.at_ i (by omega) i2)]
      exact decide_eq_false hne
  · rw [eqL_ne hl]
    symm
    refine decide_eq_false fun e => hl ?_
    rw [h1.len, h2.len, e]
structure FeqC (P : Program) (ι : Ids) : Prop where
  eS : EqESpec encS P (ι.f 332)
  eP : EqESpec pE P (ι.f 229)
  eM : EqFSpec encV 2 P (ι.f 330)
  e1 : Feq1Spec P (ι.f 331)
def FEqSpec (P : Program) (k : FuncId) : Prop := ∀ (F G : FlN) (v w : Value) (H : Hp), ProFl H v F → ProFl H w G → SmK 1000 F → SmK 1000 G → CallsM P k #[v, w] H fun r H' => r = .bool (feqB F G) ∧ Keep (fun _ => False) H H'
theorem feq_ok {P : Program} {ι : Ids} {k : FuncId} (hk : FnIs P k (c_feq ι) r_feq 2) (c : FeqC P ι) : FEqSpec P k := by
  intro F G v w H hv hw hF hG
  obtain ⟨s, b, d, a, m, ms, rfl, h1, h2, h3, h4, h5, h6⟩ := hv
  obtain ⟨s', b', d', a', m', ns, rfl, g1, g2, g3, g4, g5, g6⟩ := hw
  refine calls_of_vc hk (args := [_, _]) (by simp) ?_
  unfold c_feq r_feq
  simp -implicitDefEqProofs only [go_sem, zS, ↓reduceIte, Za, Zb, Zc, reduceCtorEq, zU, zV, Zf, Zg, Zh, Zi, Zd, Ze, zF]
  refine kont_new fun A1 b1 e1 z1 B1 K1 => ?_
  have B1' : Bl A1 b1 [s, b, d, a, m] := B1
  simp -implicitDefEqProofs only [go_sem, zS, ↓reduceIte, Za, Zb, Zc, reduceCtorEq, zU, zV, Zf, Zg, Zh, Zi, Zd, Ze, zF]
  refine kont_new fun A2 b2 e2 z2 B2 K2 => ?_
  have B2' : Bl A2 b2 [s', b', d', a', m'] := B2
  have B12 := K2.bl B1' (by simp)
  have K12 := K1.trans K2
  have c10 : cell A2 ⟨b1, 0, none⟩ = some s := by rw [B12.cell]; rfl
  have c11 : cell A2 ⟨b1, 1, none⟩ = some b := by rw [B12.cell]; rfl
  have c12 : cell A2 ⟨b1, 2, none⟩ = some d := by rw [B12.cell]; rfl
  have c13 : cell A2 ⟨b1, 3, none⟩ = some a := by rw [B12.cell]; rfl
  have c14 : cell A2 ⟨b1, 4, none⟩ = some m := by rw [B12.cell]; rfl
  have c20 : cell A2 ⟨b2, 0, none⟩ = some s' := by rw [B2'.cell]; rfl
  have c21 : cell A2 ⟨b2, 1, none⟩ = some b' := by rw [B2'.cell]; rfl
  have c22 : cell A2 ⟨b2, 2, none⟩ = some d' := by rw [B2'.cell]; rfl
  have c23 : cell A2 ⟨b2, 3, none⟩ = some a' := by rw [B2'.cell]; rfl
  have c24 : cell A2 ⟨b2, 4, none⟩ = some m' := by rw [B2'.cell]; rfl
  have q1 := hF.st
  have q2 := hF.be
  have q3 := hF.di
  have q4 := hF.sa
  have q5 := hF.mo
  have p1 := hG.st
  have p2 := hG.be
  have p3 := hG.di
  have p4 := hG.sa
  have p5 := hG.mo
  simp -implicitDefEqProofs only [go_sem, zS, ↓reduceIte, Za, Zb, Zc, reduceCtorEq, kont_eq, zU, zV, Zf, Zg, Zh, Zi, Zd, Ze, zF, c10, c20]
  refine (c.eS _ _ _ _ A2 (h1.keep0 K12) (g1.keep0 K12) (by omega) (by omega)).mono ?_
  rintro r A3 ⟨rfl, rfl⟩
  rw [kont_eq]
  by_cases e1 : F.st = G.st
  case neg =>
    simp -implicitDefEqProofs only [go_sem, zS, ↓reduceIte, Za, Zb, Zc, reduceCtorEq, kont_eq, zU, zV, Zf, Zg, Zh, Zi, Zd, Ze, zF, e1, false_imp_iff, forall_const, feqB, Bool.false_and]
    exact K12
  simp -implicitDefEqProofs only [go_sem, zS, ↓reduceIte, Za, Zb, Zc, reduceCtorEq, kont_eq, zU, zV, Zf, Zg, Zh, Zi, Zd, Ze, zF, e1, c11, c21, forall_const]
  refine (c.eP _ _ _ _ A3 (h2.keep0 K12) (g2.keep0 K12) (by omega) (by omega)).mono ?_
  rintro r A4 ⟨rfl, rfl⟩
  rw [kont_eq]
  by_cases e2 : F.be = G.be
  case neg =>
    simp -implicitDefEqProofs only [go_sem, zS, ↓reduceIte, Za, Zb, Zc, reduceCtorEq, kont_eq, zU, zV, Zf, Zg, Zh, Zi, Zd, Ze, zF, e1, e2, false_imp_iff, forall_const, feqB, Bool.false_and, Bool.and_false]
    exact K12
  simp -implicitDefEqProofs only [go_sem, zS, ↓reduceIte, Za, Zb, Zc, reduceCtorEq, kont_eq, zU, zV, Zf, Zg, Zh, Zi, Zd, Ze, zF, e2, c12, c22, forall_const]
  refine (c.eP _ _ _ _ A4 (h3.keep0 K12) (g3.keep0 K12) (by omega) (by omega)).mono ?_
  rintro r A5 ⟨rfl, rfl⟩
  rw [kont_eq]
  by_cases e3 : F.di = G.di
  case neg =>
    simp -implicitDefEqProofs only [go_sem, zS, ↓reduceIte, Za, Zb, Zc, reduceCtorEq, kont_eq, zU, zV, Zf, Zg, Zh, Zi, Zd, Ze, zF, e1, e2, e3, false_imp_iff, forall_const, feqB, Bool.false_and, Bool.and_false]
    exact K12
  simp -implicitDefEqProofs only [go_sem, zS, ↓reduceIte, Za, Zb, Zc, reduceCtorEq, kont_eq, zU, zV, Zf, Zg, Zh, Zi, Zd, Ze, zF, e3, c13, c23, forall_const]
  refine (c.eP _ _ _ _ A5 (h4.keep0 K12) (g4.keep0 K12) (by omega) (by omega)).mono ?_
  rintro r A6 ⟨rfl, rfl⟩
  rw [kont_eq]
  by_cases e4 : F.sa = G.sa
  case neg =>
    simp -implicitDefEqProofs only [go_sem, zS, ↓reduceIte, Za, Zb, Zc, reduceCtorEq, kont_eq, zU, zV, Zf, Zg, Zh, Zi, Zd, Ze, zF, e1, e2, e3, e4, false_imp_iff, forall_const, feqB, Bool.false_and, Bool.and_false]
    exact K12
  simp -implicitDefEqProofs only [go_sem, zS, ↓reduceIte, Za, Zb, Zc, reduceCtorEq, kont_eq, zU, zV, Zf, Zg, Zh, Zi, Zd, Ze, zF, e4, c14, c24, forall_const]
  have M1 := h6.keep0 K12
  have M2 := g6.keep0 K12
  refine (c.eM ms ns (qM A6) _ _ (ι.f 331) A6 (h5.keep0 K12) (g5.keep0 K12) (by rw [h6.len]; omega) (by rw [g6.len]; omega) ⟨c.e1.1, fun x hx y hy A KA => ?_⟩).mono ?_
  · obtain ⟨a0, x0⟩ := M1.is hx
    obtain ⟨b0, y0⟩ := M2.is hy
    rw [qM_eq x0 y0]
    exact c.e1.2 x y a0 b0 A x0.1 y0.1 (x0.2.keep0 KA) (y0.2.keep0 KA)
  rintro r A7 ⟨rfl, K7⟩
  rw [kont_eq]
  simp -implicitDefEqProofs only [go_sem, zS, ↓reduceIte, Za, Zb, Zc, reduceCtorEq, kont_eq, zU, zV, Zf, Zg, Zh, Zi, Zd, Ze, zF, eqL_mos M1 M2, feqB, e1, e2, e3, e4, Bool.true_and]
  exact K12.trans K7
end Go.Mg

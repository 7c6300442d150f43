/- matching: what the laws use: matched, Equal, set, Graph, Small. -/
import Derived.Test.YtjiacmbjgccfcaaDoorMgM11
import Derived.Test.YtjiacmbjgccfcaaDoorMgB4
namespace Go.Mg
open Go Go.RowKit
set_option linter.unusedSimpArgs false
set_option linter.unusedVariables false
set_option maxRecDepth 100000
def c_sleq (ι : Ids) : S :=
  .seq (.reg [.p (.v 4) (.mv (.c (.bool false)))]) (.seq (.seq (.reg [.p (.t 6) (.mv (.v 0)), .p (.t 7) (.m (.lenl (.t 6))), .p (.t 8) (.mv (.v 1)), .p (.t 9) (.m (.lenl (.t 8))), .p (.v 10) (.cm .neq
  .i64 (.t 7) (.t 9))]) (.ite (.v 10) (.seq (.reg [.p (.v 4) (.mv (.c (.bool false)))]) .ret) .skip)) (.seq (.seq (.reg [.p (.t 11) (.mv (.v 0)), .p (.v 12) (.m (.lenl (.t 11))), .p (.v 13) (.mv (.c
  (.int .i64 0)))]) (.blk 0 (.loop (.seq (.reg [.p (.v 14) (.cm .lss .i64 (.v 13) (.v 12))]) (.seq (.ite (.v 14) .skip (.exit 0)) (.seq (.blk 1 (.seq (.reg [.p (.t 15) (.mv (.v 13)), .p (.v 5) (.mv (.t
  15))]) (.seq (.reg [.p (.t 16) (.mv (.v 0)), .p (.t 17) (.mv (.v 5)), .p (.t 18) (.is 1 (.t 16) (.t 17)), .p (.t 19) (.ld (.t 18)), .p (.t 20) (.mv (.v 1)), .p (.t 21) (.mv (.v 5)), .p (.t 22) (.is 1
  (.t 20) (.t 21)), .p (.t 23) (.ld (.t 22)), .p (.v 24) (.cm .neq .i64 (.t 19) (.t 23))]) (.ite (.v 24) (.seq (.reg [.p (.v 4) (.mv (.c (.bool false)))]) .ret) .skip)))) (.reg [.p (.t 25) (.ar .add
  .i64 (.v 13) (.c (.int .i64 1))), .p (.v 13) (.mv (.t 25))]))))))) (.seq (.reg [.p (.v 4) (.mv (.c (.bool true)))]) .ret)))
def r_sleq : List RV := [.t 4]
theorem iL_at {l : List Int} {i : Nat} (hi : i < l.length) : (iL l)[i]? = some (.int .i64 (gi l i)) := by
  rw [iL_get _ _ hi]
  unfold gi; simp [List.getD_eq_getElem?_getD, hi]
def IEqSpec (P : Program) (k : FuncId) : Prop := ∀ (l m : List Int) (v w : Value) (H : Hp), SlR H v (iL l) → SlR H w (iL m) → l.length ≤ 1000000 → CallsM P k #[v, w] H fun r H' => r = .bool (decide (l = m)) ∧ H' = H
theorem sleq_ok {P : Program} {ι : Ids} {k : FuncId} (hk : FnIs P k (c_sleq ι) r_sleq 2) : IEqSpec P k := by
  intro l m v w H hv hw hl
  refine calls_of_vc hk (args := [_, _]) (by simp) ?_
  unfold c_sleq r_sleq
  by_cases hlm : l.length = m.length
  · have e0 : ((m.length : Int) != (m.length : Int)) = false := by simp
    simp only [go_sem, List.map_cons, List.map_nil, ↓reduceIte, Nat.reduceEqDiff, Nat.reduceAdd, Nat.reduceMul, reduceCtorEq, and_true, true_and, Nat.mul_one, Nat.zero_add, Bool.false_eq_true, decide_true, decide_false, not_false_eq_true, kont_eq, hv.isSl, hv.len, hw.isSl, hw.len, iL_len, hlm, e0]
    refine vc_loop [14, 5, 24, 4, 13] rfl (fun n f H' => ∃ i : Nat, i ≤ l.length ∧ n = l.length - i ∧ f 13 = .int .i64 i ∧ (∀ a < i, gi l a = gi m a) ∧ H' = H) l.length
      ⟨0, by omega, by omega, by simp only [go_sem, List.map_cons, List.map_nil, ↓reduceIte, Nat.reduceEqDiff, Nat.reduceAdd, Nat.reduceMul, reduceCtorEq, and_true, true_and, Nat.mul_one, Nat.zero_add, Bool.false_eq_true, decide_true, decide_false, not_false_eq_true, kont_eq]; rfl, fun a ha => by omega, rfl⟩ ?_
    rintro n f H2 ⟨i, hi, rfl, hf, hx, rfl⟩
    simp only [go_sem, List.map_cons, List.map_nil, ↓reduceIte, Nat.reduceEqDiff, Nat.reduceAdd, Nat.reduceMul, reduceCtorEq, and_true, true_and, Nat.mul_one, Nat.zero_add, Bool.false_eq_true, decide_true, decide_false, not_false_eq_true, kont_eq] at hf
    simp only [go_sem, List.map_cons, List.map_nil, ↓reduceIte, Nat.reduceEqDiff, Nat.reduceAdd, Nat.reduceMul, reduceCtorEq, and_true, true_and, Nat.mul_one, Nat.zero_add, Bool.false_eq_true, decide_true, decide_false, not_false_eq_true, kont_eq, hf]
    refine iteV_dec (fun hlt => ?_) (fun hge => ?_)
    · have hlt : i < l.length := by omega
      obtain ⟨b, o, c, rfl, -, hc⟩ := hv.cells (by intro e; have h := congrArg List.length e; rw [iL_len, List.length_nil] at h; omega)
      obtain ⟨b2, o2, c2, rfl, -, hc2⟩ := hw.cells (by intro e; have h := congrArg List.length e; rw [iL_len, List.length_nil] at h; omega)
      rw [iL_len] at hc hc2
      have hci := hc i hlt
      have hci2 := hc2 i (by omega)
      rw [iL_at hlt] at hci
      rw [iL_at (by omega)] at hci2
      by_cases h : gi l i = gi m i
      · have e1 : (gi m i != gi m i) = false := by simp
        simp (disch := omega) only [go_sem, List.map_cons, List.map_nil, ↓reduceIte, Nat.reduceEqDiff, Nat.reduceAdd, Nat.reduceMul, reduceCtorEq, and_true, true_and, Nat.mul_one, Nat.zero_add, Bool.false_eq_true, decide_true, decide_false, not_false_eq_true, kont_eq, hf, iL_len, tn_cast, Nat.mul_one, hci, hci2, h, e1, IntWalk.i64_in]
        refine ⟨by omega, by omega, l.length - (i + 1), by omega, i + 1, by omega, rfl, by simp, fun a ha => ?_⟩
        by_cases e : a = i
        · subst e; exact h
        · exact hx a (by omega)
      · have e1 : (gi l i != gi m i) = true := by simpa using h
        have e2 : decide (l = m) = false := decide_eq_false (fun e => h (by rw [e]))
        simp only [go_sem, List.map_cons, List.map_nil, ↓reduceIte, Nat.reduceEqDiff, Nat.reduceAdd, Nat.reduceMul, reduceCtorEq, and_true, true_and, Nat.mul_one, Nat.zero_add, Bool.false_eq_true, decide_true, decide_false, not_false_eq_true, kont_eq, hf, iL_len, tn_cast, Nat.mul_one, hci, hci2, e1, e2]
        exact ⟨by omega, by omega⟩
    · have e2 : l = m := by
        refine List.ext_getElem hlm fun i h1 h2 => ?_
        have := hx i (by omega)
        unfold gi at this
        rw [List.getD_eq_getElem?_getD, List.getD_eq_getElem?_getD, List.getElem?_eq_getElem h1, List.getElem?_eq_getElem h2] at this
        exact this
      simp only [go_sem, List.map_cons, List.map_nil, ↓reduceIte, Nat.reduceEqDiff, Nat.reduceAdd, Nat.reduceMul, reduceCtorEq, and_true, true_and, Nat.mul_one, Nat.zero_add, Bool.false_eq_true, decide_true, decide_false, not_false_eq_true, kont_eq, decide_eq_true e2]
  · have e0 : ((l.length : Int) != (m.length : Int)) = true := by rw [bne_iff_ne]; omega
    have e2 : decide (l = m) = false := decide_eq_false (fun e => hlm (by rw [e]))
    simp only [go_sem, List.map_cons, List.map_nil, ↓reduceIte, Nat.reduceEqDiff, Nat.reduceAdd, Nat.reduceMul, reduceCtorEq, and_true, true_and, Nat.mul_one, Nat.zero_add, Bool.false_eq_true, decide_true, decide_false, not_false_eq_true, kont_eq, hv.isSl, hv.len, hw.isSl, hw.len, iL_len, e0, e2]
structure GrO (H : Hp) (v : Value) (ps : List (Nat → Bool)) (B : Nat) (vs : List Value) : Prop where
  ow : OwS H v vs
  len : vs.length = ps.length
  at_ : ∀ i, i < ps.length → SetM H (.agg #[vs.getD i undef]) (ps.getD i fun _ => false)
  o1 : ∀ k, ownB v k → B ≤ k
  o2 : ∀ i k, i < ps.length → slB (vs.getD i undef) k → B ≤ k ∧ ¬ ownB v k
theorem GrO.nil (H : Hp) (B : Nat) : GrO H (.slice none 0 0) [] B [] := ⟨OwS.nil _, rfl, fun i hi => absurd hi (by simp), fun k h => h.elim, fun i k hi => absurd hi (by simp)⟩
theorem GrO.keep {W : Nat → Prop} {H H' : Hp} {v : Value} {ps : List (Nat → Bool)} {B : Nat} {vs : List Value} (h : GrO H v ps B vs) (hk : Keep W H H') (hw : ∀ k, k < H.size → B ≤ k → ¬ W k) : GrO H' v ps B vs :=
  ⟨h.ow.keep hk fun k hb => hw k (h.ow.old hb) (h.o1 k hb), h.len, fun i hi => (h.at_ i hi).keep hk fun k hb => hw k ((h.at_ i hi).old hb) (h.o2 i k hi hb).1, h.o1, h.o2⟩
theorem GrO.keep0 {H H' : Hp} {v : Value} {ps : List (Nat → Bool)} {B : Nat} {vs : List Value} (h : GrO H v ps B vs) (hk : Keep (fun _ => False) H H') : GrO H' v ps B vs := h.keep hk (fun _ _ _ h => h)
theorem GrO.app {T : TypeId} {bytes : Nat} {z : Array Value} {v x u : Value} {H : Hp} {K : Value → Hp → Prop} {ps : List (Nat → Bool)} {B : Nat} {vs : List Value} {p : Nat → Bool} (h : GrO H v ps B vs) (hx : SlR H x [u]) (hu : SetM H (.agg #[u]) p)
    (hz : z.size = 1) (h1 : ps.length ≤ 100000) (hb : bytes ≤ 1000) (hB : B ≤ H.size) (hub : ∀ k, slB u k → B ≤ k ∧ ¬ ownB v k)
    (hK : ∀ v' H', GrO H' v' (ps ++ [p]) B (vs ++ [u]) → Keep (ownB v) H H' → K v' H') : AppC false T 1 bytes z v x H K := by
  have hone : all1 #[u] := by obtain ⟨v, W, e, h⟩ := hu; cases e; exact h.sl.one
  have hvl := h.len
  refine app_sl (l := vs) (m := [u]) h.ow hx hone hz (by unfold maxLen; simp only [List.length_singleton]; omega) ?_ fun v' H' O M N => hK v' H' ⟨O, by simp [hvl], fun i hi => ?_, fun k hk => ?_, fun i k hi hk => ?_⟩ M
  · simp only [List.length_singleton]
    have : (vs.length + 1) * bytes ≤ 100001 * 1000 := Nat.mul_le_mul (by omega) hb
    omega
  · by_cases e : i = ps.length
    · subst e
      have e1 : (vs ++ [u]).getD ps.length undef = u := by rw [List.getD_eq_getElem?_getD, List.getElem?_append_right (by omega), hvl]; simp
      have e2 : (ps ++ [p]).getD ps.length (fun _ => false) = p := by rw [List.getD_eq_getElem?_getD, List.getElem?_append_right (by omega)]; simp
      rw [e1, e2]
      exact hu.keep M fun k hk hw => (hub k hk).2 hw
    · have hi' : i < ps.length := by simp at hi; omega
      have e1 : (vs ++ [u]).getD i undef = vs.getD i undef := by rw [List.getD_eq_getElem?_getD, List.getElem?_append_left (by omega), ← List.getD_eq_getElem?_getD]
      have e2 : (ps ++ [p]).getD i (fun _ => false) = ps.getD i fun _ => false := by rw [List.getD_eq_getElem?_getD, List.getElem?_append_left (by omega), ← List.getD_eq_getElem?_getD]
      rw [e1, e2]
      exact (h.at_ i hi').keep M fun k hk hw => (h.o2 i k hi' hk).2 hw
  · rcases N k hk with hk | hk
    · exact h.o1 k hk
    · omega
  · by_cases e : i = ps.length
    · subst e
      have e1 : (vs ++ [u]).getD ps.length undef = u := by rw [List.getD_eq_getElem?_getD, List.getElem?_append_right (by omega), hvl]; simp
      rw [e1] at hk
      refine ⟨(hub k hk).1, fun hw => ?_⟩
      rcases N k hw with hw | hw
      · exact (hub k hk).2 hw
      · have := hu.old (k := k) hk; omega
    · have hi' : i < ps.length := by simp at hi; omega
      have e1 : (vs ++ [u]).getD i undef = vs.getD i undef := by rw [List.getD_eq_getElem?_getD, List.getElem?_append_left (by omega), ← List.getD_eq_getElem?_getD]
      rw [e1] at hk
      refine ⟨(h.o2 i k hi' hk).1, fun hw => ?_⟩
      rcases N k hw with hw | hw
      · exact (h.o2 i k hi' hk).2 hw
      · have := (h.at_ i hi').old hk; omega
end Go.Mg

/- keccak: the methods of a hash. -/
import Derived.Test.YthffkklaodanaaaDoorMgK1
import Derived.Test.YthffkklaodanaaaDoorMgBytes
namespace Go.Mg
open Go Go.RowKit
set_option linter.unusedSimpArgs false
set_option linter.unusedVariables false
set_option maxRecDepth 10000
/- (ptr keccak.words).absorb -/
def c_absorb (ι : Ids) : S :=
  .seq (.seq (.reg [.p (.v 7) (.mv (.c (.int .i64 0)))]) (.blk 0 (.loop (.seq (.reg [.p (.v 8) (.cm .lss .i64 (.v 7) (.c (.int .i64 17)))]) (.seq (.ite (.v 8) .skip (.exit 0)) (.seq (.blk 1 (.seq (.reg
  [.p (.t 9) (.mv (.v 7)), .p (.v 4) (.mv (.t 9))]) (.seq (.reg [.p (.v 5) (.mv (.c (.int .u64 0)))]) (.seq (.seq (.reg [.p (.v 6) (.mv (.c (.int .i64 7)))]) (.blk 2 (.loop (.seq (.seq (.reg [.p (.t 10)
  (.mv (.v 6)), .p (.v 11) (.cm .geq .i64 (.t 10) (.c (.int .i64 0)))]) (.ite (.v 11) .skip (.exit 2))) (.seq (.blk 3 (.reg [.p (.t 14) (.mv (.v 5)), .p (.t 15) (.sh .shl .u64 (.t 14) (.c (.int .u64
  8))), .p (.t 16) (.mv (.v 1)), .p (.t 17) (.mv (.v 4)), .p (.t 18) (.ar .mul .i64 (.c (.int .i64 8)) (.t 17)), .p (.t 19) (.mv (.v 6)), .p (.t 20) (.ar .add .i64 (.t 18) (.t 19)), .p (.t 21) (.is 1
  (.t 16) (.t 20)), .p (.t 22) (.ld (.t 21)), .p (.t 23) (.ii .u64 (.t 22)), .p (.t 24) (.bt .or .u64 (.t 15) (.t 23)), .p (.v 5) (.mv (.t 24))])) (.reg [.p (.t 12) (.mv (.v 6)), .p (.t 13) (.ar .sub
  .i64 (.t 12) (.c (.int .i64 1))), .p (.v 6) (.mv (.t 13))])))))) (.reg [.p (.t 25) (.mv (.v 0)), .p (.t 26) (.mv (.v 4)), .p (.t 27) (.nil (.t 25)), .p (.t 28) (.ia 25 1 (.t 27) (.t 26)), .p (.t 29)
  (.ld (.t 28)), .p (.t 30) (.mv (.v 5)), .p (.t 31) (.bt .xor .u64 (.t 29) (.t 30)), .p (.t 32) (.nil (.t 25)), .p (.t 33) (.ia 25 1 (.t 32) (.t 26)), .e .no (.st (.t 33) (.t 31))]))))) (.reg [.p (.t
  34) (.ar .add .i64 (.v 7) (.c (.int .i64 1))), .p (.v 7) (.mv (.t 34))]))))))) (.reg [.p (.t 35) (.mv (.v 0)), .e (.t 36) (.call (ι.f 6) [.t 35])])
def r_absorb : List RV := []

def wN (m : List UInt8) (i j : Nat) : UInt64 := iter j (fun w j => (w <<< 8) ||| (m.getD (8 * i + (7 - j)) 0).toUInt64) 0
def absorbN (st : List UInt64) (m : List UInt8) (i : Nat) : List UInt64 := iter i (fun st i => st.set i (st.getD i 0 ^^^ wN m i 8)) st
def absorbF (st : List UInt64) (m : List UInt8) : List UInt64 := keccakF (absorbN st m 17)
theorem absorbN_len (st : List UInt64) (m : List UInt8) (i : Nat) : (absorbN st m i).length = st.length := by
  unfold absorbN; rw [iter_len (by simp)]
theorem absorbF_len (st : List UInt64) (m : List UInt8) : (absorbF st m).length = st.length := by
  unfold absorbF; rw [keccakF_len, absorbN_len]

theorem shl8_or (w : UInt64) (x : UInt8) : bits .or .u64 (IntKind.u64.wrap ((w.toNat : Int) * 2 ^ 8)) (IntKind.u64.wrap (x.toNat : Int)) = (((w <<< 8) ||| x.toUInt64).toNat : Int) := by
  have h1 : IntKind.u64.wrap ((w.toNat : Int) * 2 ^ 8) = ((w <<< 8).toNat : Int) := by
    rw [IntKind.wrap_u64, UInt64.toNat_shiftLeft, Nat.shiftLeft_eq]
    have : (8 : UInt64).toNat % 64 = 8 := rfl
    rw [this]
    simp
  have h2 : IntKind.u64.wrap (x.toNat : Int) = (x.toUInt64.toNat : Int) := by
    have := x.toNat_lt
    rw [IntKind.wrap_u64, UInt8.toNat_toUInt64]; omega
  rw [h1, h2, bits_or]

def GlobOk (ι : Ids) (H : Hp) : Prop := Bl H (ι.g 4) (w64 roundsL) ∧ Bl H (ι.g 5) (turnsL.map fun (n : Nat) => .int .i64 n)
def notG (ι : Ids) (b : Nat) : Prop := b ≠ ι.g 4 ∧ b ≠ ι.g 5
theorem GlobOk.keep {ι : Ids} {W : Nat → Prop} {H H' : Hp} (h : GlobOk ι H) (hk : Keep W H H') (h1 : ¬ W (ι.g 4)) (h2 : ¬ W (ι.g 5)) : GlobOk ι H' :=
  ⟨hk.bl h.1 h1, hk.bl h.2 h2⟩
theorem GlobOk.keep1 {ι : Ids} {b : Nat} {H H' : Hp} (h : GlobOk ι H) (hk : Keep (· = b) H H') (hb : notG ι b) : GlobOk ι H' :=
  h.keep hk (fun e => hb.1 e.symm) (fun e => hb.2 e.symm)
theorem GlobOk.lt {ι : Ids} {H : Hp} (h : GlobOk ι H) : ι.g 4 < H.size ∧ ι.g 5 < H.size := ⟨h.1.lt, h.2.lt⟩
theorem GlobOk.new {ι : Ids} {H : Hp} (h : GlobOk ι H) {b : Nat} (hb : H.size ≤ b) : notG ι b := by
  have := h.lt; exact ⟨by omega, by omega⟩

def Src (H : Hp) (sb so : Nat) (m : List UInt8) : Prop := ∀ i, i < 136 → cell H ⟨sb, so + i, none⟩ = some (.int .u8 (m.getD i 0).toNat)
def AbsorbSpec (P : Program) (ι : Ids) (k : FuncId) : Prop := ∀ (b : Nat) (st : List UInt64) (rest : List Value) (sb so c : Nat) (m : List UInt8), st.length = 25 → ∀ H, Bl H b (w64 st ++ rest) → notG ι b → GlobOk ι H →
  Src H sb so m → (sb = b → 25 ≤ so) →
  CallsM P k #[.pointer (some ⟨b, 0, none⟩), .slice (some ⟨sb, so, none⟩) 136 c] H fun v H' => v = .tuple #[] ∧ Bl H' b (w64 (absorbF st m) ++ rest) ∧ Keep (· = b) H H'

theorem cell_setc_ne {H : Hp} {p q : Addr} {v : Value} (hp : p.spot = none) (h : q.block ≠ p.block ∨ q.off ≠ p.off) : cell (setc H p v) q = cell H q := by
  by_cases hb : q.block = p.block
  · have ho : q.off ≠ p.off := h.resolve_left (fun h => h hb)
    unfold cell setc
    rw [Array.getElem?_modify, if_pos hb.symm, hb]
    cases hH : H[p.block]? with
    | none => rfl
    | some o => cases o with
      | cells C T z =>
        simp [hp]
        rw [Array.getElem?_setIfInBounds_ne (fun e => ho e.symm)]
      | _ => rfl
  · unfold cell
    rw [getElem?_setc_ne hb]
theorem Src.setc {H : Hp} {sb so : Nat} {m : List UInt8} (h : Src H sb so m) {b o : Nat} (v : Value) (hb : sb = b → o < so) : Src (setc H ⟨b, o, none⟩ v) sb so m := by
  intro i hi
  rw [cell_setc_ne rfl]; exact h i hi
  by_cases e : sb = b
  · right; have := hb e; show so + i ≠ o; omega
  · left; exact e

theorem absorb_ok {P : Program} {ι : Ids} {k : FuncId} (hk : FnIs P k (c_absorb ι) r_absorb 2) (hp : PermSpec P ι (ι.f 6)) : AbsorbSpec P ι k := by
  intro b st rest sb so c m hst H hb hbg hG hsrc hal
  refine calls_of_vc hk (args := [_, _]) (by simp) ?_
  unfold c_absorb r_absorb
  simp only [go_sem, List.map_cons, List.map_nil, ↓reduceIte, Nat.reduceEqDiff, Nat.reduceAdd, Nat.reduceMul, reduceCtorEq, and_true, true_and, Nat.mul_one, Nat.zero_add, Bool.false_eq_true, decide_true, decide_false, not_false_eq_true, kont_eq]
  refine vc_loop [8, 4, 5, 6, 11, 7] rfl (fun n f H' => ∃ i, i ≤ 17 ∧ n = 17 - i ∧ f 7 = .int .i64 i ∧ Bl H' b (w64 (absorbN st m i) ++ rest) ∧ Src H' sb so m ∧ Keep (· = b) H H') 17
    ⟨0, by omega, by omega, rfl, hb, hsrc, Keep.refl _ _⟩ ?_
  rintro n g H1 ⟨i, hi17, rfl, hf7, hb1, hs1, hK1⟩
  simp only [go_sem, List.map_cons, List.map_nil, ↓reduceIte, Nat.reduceEqDiff, Nat.reduceAdd, Nat.reduceMul, reduceCtorEq, and_true, true_and, Nat.mul_one, Nat.zero_add, Bool.false_eq_true, decide_true, decide_false, not_false_eq_true, kont_eq] at hf7
  simp only [go_sem, List.map_cons, List.map_nil, ↓reduceIte, Nat.reduceEqDiff, Nat.reduceAdd, Nat.reduceMul, reduceCtorEq, and_true, true_and, Nat.mul_one, Nat.zero_add, Bool.false_eq_true, decide_true, decide_false, not_false_eq_true, kont_eq, hf7]
  refine iteV_dec (fun hlt => ?_) (fun hge => ?_)
  · have hi : i < 17 := by omega
    refine vc_loop [11, 5, 6] rfl (fun n f H' => ∃ j, j ≤ 8 ∧ n = 8 - j ∧ f 6 = .int .i64 (7 - (j : Int)) ∧ f 5 = .int .u64 (wN m i j).toNat ∧ H' = H1) 8 ⟨0, by omega, by omega, rfl, rfl, rfl⟩ ?_
    rintro n2 g2 H' ⟨j, hj8, rfl, hf6, hf5, rfl⟩
    simp only [go_sem, List.map_cons, List.map_nil, ↓reduceIte, Nat.reduceEqDiff, Nat.reduceAdd, Nat.reduceMul, reduceCtorEq, and_true, true_and, Nat.mul_one, Nat.zero_add, Bool.false_eq_true, decide_true, decide_false, not_false_eq_true, kont_eq] at hf6 hf5
    simp only [go_sem, List.map_cons, List.map_nil, ↓reduceIte, Nat.reduceEqDiff, Nat.reduceAdd, Nat.reduceMul, reduceCtorEq, and_true, true_and, Nat.mul_one, Nat.zero_add, Bool.false_eq_true, decide_true, decide_false, not_false_eq_true, kont_eq, hf6, hf5]
    refine iteV_dec (fun hlt2 => ?_) (fun hge2 => ?_)
    · have hj : j < 8 := by omega
      have e : (8 * (i : Int) + (7 - (j : Int))) = ((8 * i + (7 - j) : Nat) : Int) := by omega
      have e2 : (7 - (j : Int)) - 1 = 7 - ((j + 1 : Nat) : Int) := by omega
      have hc := hs1 (8 * i + (7 - j)) (by omega)
      simp (disch := omega) only [go_sem, List.map_cons, List.map_nil, ↓reduceIte, Nat.reduceEqDiff, Nat.reduceAdd, Nat.reduceMul, reduceCtorEq, and_true, true_and, Nat.mul_one, Nat.zero_add, Bool.false_eq_true, decide_true, decide_false, not_false_eq_true, kont_eq, hf6, hf5, IntWalk.i64_in, e, tn_cast, Option.map_some, hc, e2]
      refine ⟨by omega, by omega, 8 - (j + 1), by omega, j + 1, by omega, rfl, rfl, ?_⟩
      have := shl8_or (wN m i j) (m.getD (8 * i + (7 - j)) 0)
      exact congrArg (Value.int .u64) this
    · have hj : j = 8 := by omega
      subst hj
      have hl : (absorbN st m i).length = 25 := by rw [absorbN_len]; exact hst
      have ga := w64_getA (absorbN st m i) rest i (by omega)
      simp (disch := omega) only [go_sem, List.map_cons, List.map_nil, ↓reduceIte, Nat.reduceEqDiff, Nat.reduceAdd, Nat.reduceMul, reduceCtorEq, and_true, true_and, Nat.mul_one, Nat.zero_add, Bool.false_eq_true, decide_true, decide_false, not_false_eq_true, kont_eq, hf7, hb1.cell, hb1.frz, ga, IntWalk.i64_in, bits_xor]
      refine ⟨by omega, by omega, 17 - (i + 1), by omega, i + 1, by omega, rfl, by simp, ?_, hs1.setc _ (fun e => by have := hal e; omega), hK1.setc _ (.inl rfl)⟩
      have := hb1.setc i (.int .u64 ((absorbN st m i).getD i 0 ^^^ wN m i 8).toNat)
      rw [w64_setA _ _ _ (by omega)] at this
      exact this
  · have hi : i = 17 := by omega
    subst hi
    refine (hp _ _ _ (by rw [absorbN_len]; exact hst) _ hb1 hbg.1 hbg.2 (hG.keep1 hK1 hbg).1 (hG.keep1 hK1 hbg).2).mono ?_
    rintro v H' ⟨rfl, h1, h2⟩
    simp only [go_sem, List.map_cons, List.map_nil, ↓reduceIte, Nat.reduceEqDiff, Nat.reduceAdd, Nat.reduceMul, reduceCtorEq, and_true, true_and, Nat.mul_one, Nat.zero_add, Bool.false_eq_true, decide_true, decide_false, not_false_eq_true, kont_eq]
    exact ⟨h1, hK1.trans h2⟩
end Go.Mg

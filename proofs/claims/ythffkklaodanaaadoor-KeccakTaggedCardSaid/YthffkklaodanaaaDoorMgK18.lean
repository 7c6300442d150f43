/- keccak: the order of digests. -/
import Derived.Test.YthffkklaodanaaaDoorMgK17
namespace Go.Mg
open Go Go.RowKit
set_option linter.unusedSimpArgs false
set_option linter.unusedVariables false
set_option maxRecDepth 100000
/- bytes.Compare -/
def c_bcmp (ι : Ids) : S :=
  .seq (.reg [.p (.v 4) (.mv (.c (.int .i64 0)))]) (.seq (.reg [.p (.t 5) (.mv (.v 0)), .p (.t 6) (.mv (.v 1)), .e (.t 7) (.lib (ι.f 44) [.t 5, .t 6]), .p (.v 4) (.mv (.t 7))]) .ret)
def r_bcmp : List RV := [.t 4]
/- (keccak.ID).Compare -/
def c_cmp (ι : Ids) : S :=
  .seq (.reg [.e (.v 2) (.box (ι.t 9) (.v 0)), .e (.v 3) (.box (ι.t 9) (.v 1)), .p (.v 4) (.mv (.c (.int .i64 0)))]) (.seq (.reg [.p (.t 5) (.m (.sla 32 1 (.v 2) .none .none)), .p (.t 6) (.m (.sla 32 1
  (.v 3) .none .none)), .e (.t 7) (.call (ι.f 45) [.t 5, .t 6]), .p (.v 4) (.mv (.t 7))]) .ret)
def r_cmp : List RV := [.t 4]
/- arbacref03.Compare -/
def c_rcmp (ι : Ids) : S :=
  .seq (.reg [.e (.v 2) (.box (ι.t 32) (.v 0)), .e (.v 3) (.box (ι.t 32) (.v 1)), .p (.v 4) (.mv (.c (.int .i64 0)))]) (.seq (.seq (.reg [.p (.v 5) (.mv (.c (.int .i64 0)))]) (.blk 0 (.loop (.seq (.seq
  (.reg [.p (.t 6) (.mv (.v 5)), .p (.v 7) (.cm .lss .i64 (.t 6) (.c (.int .i64 32)))]) (.ite (.v 7) .skip (.exit 0))) (.seq (.blk 1 (.seq (.seq (.reg [.p (.t 10) (.mv (.v 5)), .p (.t 11) (.ia 32 1 (.v
  2) (.t 10)), .p (.t 12) (.ld (.t 11)), .p (.t 13) (.mv (.v 5)), .p (.t 14) (.ia 32 1 (.v 3) (.t 13)), .p (.t 15) (.ld (.t 14)), .p (.v 16) (.cm .lss .u8 (.t 12) (.t 15))]) (.ite (.v 16) (.seq (.reg
  [.p (.v 4) (.mv (.c (.int .i64 (-1))))]) .ret) .skip)) (.seq (.reg [.p (.t 17) (.mv (.v 5)), .p (.t 18) (.ia 32 1 (.v 2) (.t 17)), .p (.t 19) (.ld (.t 18)), .p (.t 20) (.mv (.v 5)), .p (.t 21) (.ia 32
  1 (.v 3) (.t 20)), .p (.t 22) (.ld (.t 21)), .p (.v 23) (.cm .gtr .u8 (.t 19) (.t 22))]) (.ite (.v 23) (.seq (.reg [.p (.v 4) (.mv (.c (.int .i64 1)))]) .ret) .skip)))) (.reg [.p (.t 8) (.mv (.v 5)),
  .p (.t 9) (.ar .add .i64 (.t 8) (.c (.int .i64 1))), .p (.v 5) (.mv (.t 9))])))))) (.seq (.reg [.p (.v 4) (.mv (.c (.int .i64 0)))]) .ret))
def r_rcmp : List RV := [.t 4]
/- arbaclaw03.KeccakOrders -/
def c_lorders (ι : Ids) : S :=
  .seq (.reg [.e (.v 2) (.box (ι.t 48) (.v 0)), .e (.v 3) (.box (ι.t 49) (.v 1)), .p (.v 4) (.mv (.c (.bool false)))]) (.seq (.seq (.reg [.e (.t 9) (.call (ι.f 21) []), .p (.v 10) (.not (.t 9))]) (.ite
  (.v 10) (.seq (.reg [.p (.v 4) (.mv (.c (.bool false)))]) .ret) .skip)) (.seq (.reg [.p (.t 11) (.ia 3 32 (.v 2) (.c (.int .i64 1))), .p (.t 12) (.ia 2 1 (.v 3) (.c (.int .i64 0))), .p (.t 13) (.ld
  (.t 12)), .p (.t 14) (.dv .rem .u8 (.t 13) (.c (.int .u8 33))), .p (.t 15) (.m (.sla 32 1 (.t 11) .none (.some (.t 14)))), .p (.t 16) (.ia 3 32 (.v 2) (.c (.int .i64 0))), .p (.t 17) (.m (.sla 32 1
  (.t 16) .none .none)), .e (.t 18) (.cpy false 1 (.t 15) (.t 17))]) (.seq (.reg [.p (.t 19) (.ia 3 32 (.v 2) (.c (.int .i64 2))), .p (.t 20) (.ia 2 1 (.v 3) (.c (.int .i64 1))), .p (.t 21) (.ld (.t
  20)), .p (.t 22) (.dv .rem .u8 (.t 21) (.c (.int .u8 33))), .p (.t 23) (.m (.sla 32 1 (.t 19) .none (.some (.t 22)))), .p (.t 24) (.ia 3 32 (.v 2) (.c (.int .i64 1))), .p (.t 25) (.m (.sla 32 1 (.t
  24) .none .none)), .e (.t 26) (.cpy false 1 (.t 23) (.t 25))]) (.seq (.dr (.px (.t 27) .none (.ia 3 32 (.v 2) (.c (.int .i64 0))) (.px (.t 28) .none (.m (.ldn 32 (.t 27))) (.px (.t 29) .none (.ia 3 32
  (.v 2) (.c (.int .i64 1))) (.px (.t 30) .none (.m (.ldn 32 (.t 29))) (.px (.t 31) .none (.ia 3 32 (.v 2) (.c (.int .i64 2))) (.px (.t 32) .none (.m (.ldn 32 (.t 31))) (.wcons (.v 5) .none (.new (ι.t
  9) (Array.replicate 32 (.int .u8 0))) (.wcons (.v 6) .none (.new (ι.t 9) (Array.replicate 32 (.int .u8 0))) (.wcons (.v 7) .none (.new (ι.t 9) (Array.replicate 32 (.int .u8 0))) (.wcons .no .none
  (.stn 32 (.v 5) (.t 28)) (.wcons .no .none (.stn 32 (.v 6) (.t 30)) (.wcons .no .none (.stn 32 (.v 7) (.t 32)) .done .wnil) .wnil) .wnil) .wnil) (.wcons (.v 7) .none (.new (ι.t 9) (Array.replicate 32
  (.int .u8 0))) (.wcons (.v 6) .none (.new (ι.t 9) (Array.replicate 32 (.int .u8 0))) (.wcons .no .none (.stn 32 (.v 5) (.t 28)) (.wcons .no .none (.stn 32 (.v 6) (.t 30)) (.wcons .no .none (.stn 32
  (.v 7) (.t 32)) .done .wnil) .wnil) .wnil) .wnil) .wnil)) (.wcons (.v 6) .none (.new (ι.t 9) (Array.replicate 32 (.int .u8 0))) (.wcons (.v 5) .none (.new (ι.t 9) (Array.replicate 32 (.int .u8 0)))
  (.wcons (.v 7) .none (.new (ι.t 9) (Array.replicate 32 (.int .u8 0))) (.wcons .no .none (.stn 32 (.v 5) (.t 28)) (.wcons .no .none (.stn 32 (.v 6) (.t 30)) (.wcons .no .none (.stn 32 (.v 7) (.t 32))
  .done .wnil) .wnil) .wnil) .wnil) (.wcons (.v 7) .none (.new (ι.t 9) (Array.replicate 32 (.int .u8 0))) (.wcons (.v 5) .none (.new (ι.t 9) (Array.replicate 32 (.int .u8 0))) (.wcons .no .none (.stn 32
  (.v 5) (.t 28)) (.wcons .no .none (.stn 32 (.v 6) (.t 30)) (.wcons .no .none (.stn 32 (.v 7) (.t 32)) .done .wnil) .wnil) .wnil) .wnil) .wnil)) (.wcons (.v 7) .none (.new (ι.t 9) (Array.replicate 32
  (.int .u8 0))) (.wcons (.v 5) .none (.new (ι.t 9) (Array.replicate 32 (.int .u8 0))) (.wcons (.v 6) .none (.new (ι.t 9) (Array.replicate 32 (.int .u8 0))) (.wcons .no .none (.stn 32 (.v 5) (.t 28))
  (.wcons .no .none (.stn 32 (.v 6) (.t 30)) (.wcons .no .none (.stn 32 (.v 7) (.t 32)) .done .wnil) .wnil) .wnil) .wnil) (.wcons (.v 6) .none (.new (ι.t 9) (Array.replicate 32 (.int .u8 0))) (.wcons
  (.v 5) .none (.new (ι.t 9) (Array.replicate 32 (.int .u8 0))) (.wcons .no .none (.stn 32 (.v 5) (.t 28)) (.wcons .no .none (.stn 32 (.v 6) (.t 30)) (.wcons .no .none (.stn 32 (.v 7) (.t 32)) .done
  .wnil) .wnil) .wnil) .wnil) .wnil)) .wnil)))))))))) (.seq (.reg [.p (.t 33) (.m (.ldn 32 (.v 5))), .p (.t 34) (.m (.ldn 32 (.v 6))), .e (.t 35) (.call (ι.f 46) [.t 33, .t 34]), .p (.v 8) (.mv (.t
  35))]) (.seq (.seq (.reg [.p (.t 36) (.mv (.v 8)), .p (.t 37) (.ia 3 32 (.v 2) (.c (.int .i64 0))), .p (.t 38) (.m (.ldn 32 (.t 37))), .p (.t 39) (.ia 3 32 (.v 2) (.c (.int .i64 1))), .p (.t 40) (.m
  (.ldn 32 (.t 39))), .e (.t 41) (.call (ι.f 47) [.t 38, .t 40]), .p (.t 42) (.cm .neq .i64 (.t 36) (.t 41)), .p (.t 43) (.mv (.t 42)), .gp (.t 44) (.t 43) false (.m (.ldn 32 (.v 6))), .gp (.t 45) (.t
  43) false (.m (.ldn 32 (.v 5))), .ge (.t 46) (.t 43) false (.call (ι.f 46) [.t 44, .t 45]), .gp (.t 47) (.t 43) false (.mv (.v 8)), .gp (.t 48) (.t 43) false (.neg .i64 (.t 47)), .gp (.t 49) (.t 43)
  false (.cm .neq .i64 (.t 46) (.t 48)), .p (.t 50) (.pick (.t 43) (.c (.bool true)) (.t 49)), .p (.t 51) (.mv (.t 50)), .gp (.t 52) (.t 51) false (.m (.ldn 32 (.v 5))), .gp (.t 53) (.t 51) false (.m
  (.ldn 32 (.v 5))), .ge (.t 54) (.t 51) false (.call (ι.f 46) [.t 52, .t 53]), .gp (.t 55) (.t 51) false (.cm .neq .i64 (.t 54) (.c (.int .i64 0))), .p (.t 56) (.pick (.t 51) (.c (.bool true)) (.t
  55)), .p (.t 57) (.mv (.t 56)), .gp (.t 58) (.t 57) false (.mv (.v 8)), .gp (.t 59) (.t 57) false (.cm .eql .i64 (.t 58) (.c (.int .i64 0))), .gp (.t 60) (.t 57) false (.m (.ldn 32 (.v 5))), .gp (.t
  61) (.t 57) false (.m (.ldn 32 (.v 6))), .gp (.t 62) (.t 57) false (.m (.eqa false .u8 32 (.t 60) (.t 61))), .gp (.t 63) (.t 57) false (.eqb true (.t 59) (.t 62)), .p (.v 64) (.pick (.t 57) (.c (.bool
  true)) (.t 63))]) (.ite (.v 64) (.seq (.reg [.p (.v 4) (.mv (.c (.bool false)))]) .ret) .skip)) (.seq (.reg [.p (.t 65) (.mv (.v 8)), .p (.t 66) (.cm .gtr .i64 (.t 65) (.c (.int .i64 0))), .p (.t 67)
  (.mv (.t 66)), .gp (.t 68) (.t 67) false (.m (.ldn 32 (.v 6))), .gp (.t 69) (.t 67) false (.m (.ldn 32 (.v 7))), .ge (.t 70) (.t 67) false (.call (ι.f 46) [.t 68, .t 69]), .gp (.t 71) (.t 67) false
  (.cm .gtr .i64 (.t 70) (.c (.int .i64 0))), .p (.t 72) (.pick (.t 67) (.c (.bool true)) (.t 71)), .p (.t 73) (.mv (.t 72)), .gp (.t 74) (.t 73) false (.m (.ldn 32 (.v 5))), .gp (.t 75) (.t 73) false
  (.m (.ldn 32 (.v 7))), .ge (.t 76) (.t 73) false (.call (ι.f 46) [.t 74, .t 75]), .gp (.t 77) (.t 73) false (.cm .leq .i64 (.t 76) (.c (.int .i64 0))), .p (.t 78) (.pick (.t 73) (.c (.bool true)) (.t
  77)), .p (.v 4) (.mv (.t 78))]) .ret)))))))
def r_lorders : List RV := [.t 4]

/-! ### the order of lists of bytes of one length -/
theorem ba_bang (s : List UInt8) (i : Nat) (h : i < s.length) : (⟨s.toArray⟩ : ByteArray)[i]! = s.getD i 0 := by
  have h' : i < (⟨s.toArray⟩ : ByteArray).size := by rw [ba_size]; exact h
  rw [getElem!_pos (⟨s.toArray⟩ : ByteArray) i h']
  show s.toArray[i] = _
  simp [h]
theorem cmpL_first {a b : List UInt8} (hl : a.length = b.length) {i : Nat} (hi : i < a.length) (h : ∀ j, j < i → a.getD j 0 = b.getD j 0) (hn : a.getD i 0 ≠ b.getD i 0) : cmpL a b = if a.getD i 0 < b.getD i 0 then -1 else 1 := by
  unfold cmpL Extern.BytealgCompare.cmp
  have : (List.range (min (⟨a.toArray⟩ : ByteArray).size (⟨b.toArray⟩ : ByteArray).size)).find? (fun i => (⟨a.toArray⟩ : ByteArray)[i]! != (⟨b.toArray⟩ : ByteArray)[i]!) = some i := by
    rw [List.find?_range_eq_some]
    refine ⟨?_, ?_, fun j hj => ?_⟩
    · rw [ba_bang _ _ hi, ba_bang _ _ (by omega)]; simpa using hn
    · rw [ba_size, ba_size, List.mem_range]; omega
    · rw [ba_bang _ _ (by omega), ba_bang _ _ (by omega), h j hj]; simp
  rw [this]
  simp only [ba_bang _ _ hi, ba_bang b i (by omega)]
theorem cmpL_self (a : List UInt8) : cmpL a a = 0 := by
  unfold cmpL Extern.BytealgCompare.cmp
  have : (List.range (min (⟨a.toArray⟩ : ByteArray).size (⟨a.toArray⟩ : ByteArray).size)).find? (fun i => (⟨a.toArray⟩ : ByteArray)[i]! != (⟨a.toArray⟩ : ByteArray)[i]!) = none := by
    rw [List.find?_eq_none]
    intro x _
    simp
  rw [this]
  simp
def LtL (a b : List UInt8) : Prop := ∃ i, i < a.length ∧ (∀ j, j < i → a.getD j 0 = b.getD j 0) ∧ a.getD i 0 < b.getD i 0
theorem u8_lt (a b : UInt8) : a < b ↔ a.toNat < b.toNat := Iff.rfl
theorem u8_ne {a b : UInt8} (h : a ≠ b) : a.toNat ≠ b.toNat := fun e => h (UInt8.toNat_inj.1 e)
theorem tri {a b : List UInt8} (hl : a.length = b.length) : a = b ∨ LtL a b ∨ LtL b a := by
  by_cases h : ∀ i, i < a.length → a.getD i 0 = b.getD i 0
  · exact .inl (ext_getD hl h)
  · right
    have : ∃ i, i < a.length ∧ a.getD i 0 ≠ b.getD i 0 := by
      apply Classical.byContradiction
      intro hn
      exact h fun i hi => Classical.byContradiction fun e => hn ⟨i, hi, e⟩
    have fst : ∃ i, (i < a.length ∧ a.getD i 0 ≠ b.getD i 0) ∧ ∀ j, j < i → ¬ (j < a.length ∧ a.getD j 0 ≠ b.getD j 0) := by
      obtain ⟨i, hi⟩ := this
      induction i using Nat.strongRecOn with
      | ind i ih =>
        by_cases hj : ∃ j, j < i ∧ (j < a.length ∧ a.getD j 0 ≠ b.getD j 0)
        · obtain ⟨j, hj, hj2⟩ := hj; exact ih j hj hj2
        · exact ⟨i, hi, fun j hj' hj2 => hj ⟨j, hj', hj2⟩⟩
    obtain ⟨i, ⟨hi, hne⟩, hmin⟩ := fst
    have hall : ∀ j, j < i → a.getD j 0 = b.getD j 0 := fun j hj => Classical.byContradiction fun e => hmin j hj ⟨by omega, e⟩
    have := u8_ne hne
    rcases Nat.lt_or_gt_of_ne this with h1 | h1
    · exact .inl ⟨i, hi, hall, h1⟩
    · exact .inr ⟨i, by omega, fun j hj => (hall j hj).symm, h1⟩
theorem cmp_lt {a b : List UInt8} (hl : a.length = b.length) (h : LtL a b) : cmpL a b = -1 := by
  obtain ⟨i, hi, h1, h2⟩ := h
  rw [cmpL_first hl hi h1 (fun e => by rw [e] at h2; exact absurd h2 (Nat.lt_irrefl _)), if_pos h2]
theorem cmp_gt {a b : List UInt8} (hl : a.length = b.length) (h : LtL b a) : cmpL a b = 1 := by
  obtain ⟨i, hi, h1, h2⟩ := h
  rw [cmpL_first hl (by omega) (fun j hj => (h1 j hj).symm) (fun e => by rw [e] at h2; exact absurd h2 (Nat.lt_irrefl _)), if_neg]
  intro h3
  exact Nat.lt_asymm ((u8_lt _ _).1 h2) ((u8_lt _ _).1 h3)
theorem LtL_trans {a b c : List UInt8} (h1 : a.length = b.length) (hab : LtL a b) (hbc : LtL b c) : LtL a c := by
  obtain ⟨i, hi, i1, i2⟩ := hab
  obtain ⟨j, hj, j1, j2⟩ := hbc
  rcases Nat.lt_trichotomy i j with h | h | h
  · exact ⟨i, hi, fun k hk => (i1 k hk).trans (j1 k (by omega)), by rw [← j1 i h]; exact i2⟩
  · subst h
    exact ⟨i, hi, fun k hk => (i1 k hk).trans (j1 k hk), Nat.lt_trans ((u8_lt _ _).1 i2) ((u8_lt _ _).1 j2)⟩
  · exact ⟨j, by omega, fun k hk => (i1 k (by omega)).trans (j1 k hk), by rw [i1 j h]; exact j2⟩
theorem cmp_anti {a b : List UInt8} (hl : a.length = b.length) : cmpL b a = - cmpL a b := by
  rcases tri hl with h | h | h
  · subst h; rw [cmpL_self]; rfl
  · rw [cmp_lt hl h, cmp_gt hl.symm h]; rfl
  · rw [cmp_gt hl h, cmp_lt hl.symm h]
theorem cmp_eq {a b : List UInt8} (hl : a.length = b.length) : (cmpL a b == 0) = decide (a = b) := by
  rcases tri hl with h | h | h
  · subst h; rw [cmpL_self]; simp
  · have hne : a ≠ b := by
      rintro rfl
      obtain ⟨i, _, _, h2⟩ := h; exact absurd h2 (Nat.lt_irrefl _)
    rw [cmp_lt hl h, decide_eq_false hne]; rfl
  · have hne : a ≠ b := by
      rintro rfl
      obtain ⟨i, _, _, h2⟩ := h; exact absurd h2 (Nat.lt_irrefl _)
    rw [cmp_gt hl h, decide_eq_false hne]; rfl
theorem cmp_trans {a b c : List UInt8} (h1 : a.length = b.length) (h2 : b.length = c.length) (hab : ¬ 0 < cmpL a b) (hbc : ¬ 0 < cmpL b c) : cmpL a c ≤ 0 := by
  have key : ∀ {a b : List UInt8}, a.length = b.length → ¬ 0 < cmpL a b → a = b ∨ LtL a b := fun hl h => by
    rcases tri hl with e | e | e
    · exact .inl e
    · exact .inr e
    · rw [cmp_gt hl e] at h; exact absurd (by decide) h
  have h3 : a.length = c.length := h1.trans h2
  rcases key h1 hab with rfl | hab
  · rcases key h2 hbc with rfl | hbc
    · rw [cmpL_self]; decide
    · rw [cmp_lt h3 hbc]; decide
  · rcases key h2 hbc with rfl | hbc
    · rw [cmp_lt h3 hab]; decide
    · rw [cmp_lt h3 (LtL_trans h1 hab hbc)]; decide

def CmpSpec (P : Program) (k : FuncId) : Prop := ∀ (a b : List UInt8) (H : Hp), a.length = 32 → b.length = 32 → CallsM P k #[.agg (w8 a).toArray, .agg (w8 b).toArray] H fun r H' => r = .int .i64 (cmpL a b) ∧ Keep (fun _ => False) H H'
def BCmpSpec (P : Program) (k : FuncId) : Prop := ∀ (a b : List UInt8) (u v : Value) (H : Hp), SlR H u (w8 a) → SlR H v (w8 b) → CallsM P k #[u, v] H fun r H' => r = .int .i64 (cmpL a b) ∧ H' = H
theorem bcmp_ok {P : Program} {ι : Ids} {k : FuncId} (hk : FnIs P k (c_bcmp ι) r_bcmp 2) (hl : LibIs P (ι.f 44) Extern.BytealgCompare.compare) : BCmpSpec P k := by
  intro a b u v H hu hv
  refine calls_of_vc hk (args := [_, _]) (by simp) ?_
  unfold c_bcmp r_bcmp
  simp only [go_sem, List.map_cons, List.map_nil, ↓reduceIte, Nat.reduceEqDiff, Nat.reduceAdd, Nat.reduceMul, reduceCtorEq, and_true, true_and, Nat.mul_one, Nat.zero_add, Bool.false_eq_true, decide_true, decide_false, not_false_eq_true, kont_eq]
  exact ⟨_, compare_lib hl hu hv, rfl⟩
theorem cmp_ok {P : Program} {ι : Ids} {k : FuncId} (hk : FnIs P k (c_cmp ι) r_cmp 2) (hb : BCmpSpec P (ι.f 45)) : CmpSpec P k := by
  intro a b H ha hb'
  refine calls_of_vc hk (args := [_, _]) (by simp) ?_
  unfold c_cmp r_cmp
  have la : (w8 a).length = 32 := by rw [w8_len, ha]
  have lb : (w8 b).length = 32 := by rw [w8_len, hb']
  have ta : List.take 32 (w8 a) = w8 a := List.take_of_length_le (by omega)
  have tb : List.take 32 (w8 b) = w8 b := List.take_of_length_le (by omega)
  simp only [go_sem, List.map_cons, List.map_nil, ↓reduceIte, Nat.reduceEqDiff, Nat.reduceAdd, Nat.reduceMul, reduceCtorEq, and_true, true_and, Nat.mul_one, Nat.zero_add, Bool.false_eq_true, decide_true, decide_false, not_false_eq_true, cells_agg]
  refine kont_new fun H1 b1 e1 z1 B1 K1 => ?_
  simp only [go_sem, List.map_cons, List.map_nil, ↓reduceIte, Nat.reduceEqDiff, Nat.reduceAdd, Nat.reduceMul, reduceCtorEq, and_true, true_and, Nat.mul_one, Nat.zero_add, Bool.false_eq_true, decide_true, decide_false, not_false_eq_true, cells_agg]
  refine kont_new fun H2 b2 e2 z2 B2 K2 => ?_
  have B1 : Bl H1 b1 (w8 a) := B1
  have B2 : Bl H2 b2 (w8 b) := B2
  have s1 := SlR.bl (K2.bl B1 (by simp)) 0 32 32 (by omega) (by omega)
  have s2 := SlR.bl B2 0 32 32 (by omega) (by omega)
  rw [List.drop_zero, ta] at s1
  rw [List.drop_zero, tb] at s2
  simp only [go_sem, List.map_cons, List.map_nil, ↓reduceIte, Nat.reduceEqDiff, Nat.reduceAdd, Nat.reduceMul, reduceCtorEq, and_true, true_and, Nat.mul_one, Nat.zero_add, Bool.false_eq_true, decide_true, decide_false, not_false_eq_true, kont_eq]
  refine (hb _ _ _ _ _ s1 s2).mono ?_
  rintro r H3 ⟨rfl, rfl⟩
  simp only [go_sem, List.map_cons, List.map_nil, ↓reduceIte, Nat.reduceEqDiff, Nat.reduceAdd, Nat.reduceMul, reduceCtorEq, and_true, true_and, Nat.mul_one, Nat.zero_add, Bool.false_eq_true, decide_true, decide_false, not_false_eq_true, kont_eq]
  exact K1.trans K2
theorem rcmp_ok {P : Program} {ι : Ids} {k : FuncId} (hk : FnIs P k (c_rcmp ι) r_rcmp 2) : CmpSpec P k := by
  intro a b H ha hb
  refine calls_of_vc hk (args := [_, _]) (by simp) ?_
  unfold c_rcmp r_rcmp
  simp only [go_sem, List.map_cons, List.map_nil, ↓reduceIte, Nat.reduceEqDiff, Nat.reduceAdd, Nat.reduceMul, reduceCtorEq, and_true, true_and, Nat.mul_one, Nat.zero_add, Bool.false_eq_true, decide_true, decide_false, not_false_eq_true, cells_agg]
  refine kont_new fun H1 b1 e1 z1 B1 K1 => ?_
  simp only [go_sem, List.map_cons, List.map_nil, ↓reduceIte, Nat.reduceEqDiff, Nat.reduceAdd, Nat.reduceMul, reduceCtorEq, and_true, true_and, Nat.mul_one, Nat.zero_add, Bool.false_eq_true, decide_true, decide_false, not_false_eq_true, cells_agg]
  refine kont_new fun H2 b2 e2 z2 B2 K2 => ?_
  have B1 : Bl H1 b1 (w8 a) := B1
  have B2 : Bl H2 b2 (w8 b) := B2
  have B1' := K2.bl B1 (by simp)
  have K2' := K1.trans K2
  simp only [go_sem, List.map_cons, List.map_nil, ↓reduceIte, Nat.reduceEqDiff, Nat.reduceAdd, Nat.reduceMul, reduceCtorEq, and_true, true_and, Nat.mul_one, Nat.zero_add, Bool.false_eq_true, decide_true, decide_false, not_false_eq_true, kont_eq]
  refine vc_loop [7, 16, 4, 23, 5] rfl (fun n f H' => ∃ i, i ≤ 32 ∧ n = 32 - i ∧ f 5 = .int .i64 i ∧ (∀ j, j < i → a.getD j 0 = b.getD j 0) ∧ H' = H2) 32
    ⟨0, by omega, by omega, rfl, fun j hj => by omega, rfl⟩ ?_
  rintro n g H' ⟨i, hi, rfl, hf5, hx, rfl⟩
  simp only [go_sem, List.map_cons, List.map_nil, ↓reduceIte, Nat.reduceEqDiff, Nat.reduceAdd, Nat.reduceMul, reduceCtorEq, and_true, true_and, Nat.mul_one, Nat.zero_add, Bool.false_eq_true, decide_true, decide_false, not_false_eq_true, kont_eq] at hf5
  simp only [go_sem, List.map_cons, List.map_nil, ↓reduceIte, Nat.reduceEqDiff, Nat.reduceAdd, Nat.reduceMul, reduceCtorEq, and_true, true_and, Nat.mul_one, Nat.zero_add, Bool.false_eq_true, decide_true, decide_false, not_false_eq_true, kont_eq, hf5]
  refine iteV_dec (fun hlt => ?_) (fun hge => ?_)
  · have hi2 : i < 32 := by omega
    have ga := w8_get a i (by omega)
    have gb := w8_get b i (by omega)
    simp (disch := omega) only [go_sem, List.map_cons, List.map_nil, ↓reduceIte, Nat.reduceEqDiff, Nat.reduceAdd, Nat.reduceMul, reduceCtorEq, and_true, true_and, Nat.mul_one, Nat.zero_add, Bool.false_eq_true, decide_true, decide_false, not_false_eq_true, kont_eq, hf5, B1'.cell, B2.cell, ga, gb, tn_cast]
    repeat (refine And.intro (by omega) ?_)
    refine iteV_dec (fun h1 => ?_) (fun h1 => ?_)
    · have hlt' : a.getD i 0 < b.getD i 0 := (u8_lt _ _).2 (by omega)
      rw [cmp_lt (by omega) ⟨i, by omega, hx, hlt'⟩]
      first | exact ⟨rfl, K2'⟩ | exact K2' | (simp only [go_sem, List.map_cons, List.map_nil, ↓reduceIte, Nat.reduceEqDiff, Nat.reduceAdd, Nat.reduceMul, reduceCtorEq, and_true, true_and, Nat.mul_one, Nat.zero_add, Bool.false_eq_true, decide_true, decide_false, not_false_eq_true, kont_eq]; exact K2')
    · repeat (refine And.intro (by omega) ?_)
      refine iteV_dec (fun h2 => ?_) (fun h2 => ?_)
      · have hlt' : b.getD i 0 < a.getD i 0 := (u8_lt _ _).2 (by omega)
        rw [cmp_gt (by omega) ⟨i, by omega, fun j hj => (hx j hj).symm, hlt'⟩]
        first | exact ⟨rfl, K2'⟩ | exact K2' | (simp only [go_sem, List.map_cons, List.map_nil, ↓reduceIte, Nat.reduceEqDiff, Nat.reduceAdd, Nat.reduceMul, reduceCtorEq, and_true, true_and, Nat.mul_one, Nat.zero_add, Bool.false_eq_true, decide_true, decide_false, not_false_eq_true, kont_eq]; exact K2')
      · have he : a.getD i 0 = b.getD i 0 := UInt8.toNat_inj.1 (by omega)
        simp (disch := omega) only [go_sem, List.map_cons, List.map_nil, ↓reduceIte, Nat.reduceEqDiff, Nat.reduceAdd, Nat.reduceMul, reduceCtorEq, and_true, true_and, Nat.mul_one, Nat.zero_add, Bool.false_eq_true, decide_true, decide_false, not_false_eq_true, kont_eq, hf5, IntWalk.i64_in]
        refine ⟨32 - (i + 1), by omega, i + 1, by omega, rfl, by simp, fun j hj => ?_⟩
        by_cases e : j = i
        · subst e; exact he
        · exact hx j (by omega)
  · have hi2 : i = 32 := by omega
    subst hi2
    have : a = b := ext_getD (by omega) fun i hi => hx i (by omega)
    subst this
    rw [cmpL_self]
    simp only [go_sem, List.map_cons, List.map_nil, ↓reduceIte, Nat.reduceEqDiff, Nat.reduceAdd, Nat.reduceMul, reduceCtorEq, and_true, true_and, Nat.mul_one, Nat.zero_add, Bool.false_eq_true, decide_true, decide_false, not_false_eq_true, kont_eq]
    exact K2'

/-! ### three new variables, drawn in any order, then three stores -/
def AllZ (H0 H : Hp) (L : List Nat) : Prop := (∀ b ∈ L, Bl H b (w8 (List.replicate 32 0)) ∧ H0.size ≤ b) ∧ L.Nodup ∧ Keep (fun _ => False) H0 H
theorem AllZ.new {H0 H : Hp} {L : List Nat} (h : AllZ H0 H L) (T : TypeId) : AllZ H0 (H.push (.cells (Array.replicate 32 (Value.int .u8 0)) T)) (H.size :: L) := by
  obtain ⟨h1, h2, h3⟩ := h
  refine ⟨fun b hb => ?_, List.nodup_cons.2 ⟨fun hm => ?_, h2⟩, h3.push _⟩
  · rcases List.mem_cons.1 hb with rfl | hb
    · have := Bl.new' H (Array.replicate 32 (Value.int .u8 0)) T
      rw [z32L] at this
      exact ⟨this, h3.size⟩
    · exact ⟨(h1 b hb).1.push _, (h1 b hb).2⟩
  · have := (h1 _ hm).1.lt
    omega
theorem tvk_new3 {P : Program} {W : Nat → Prop} {d : D} {T : TypeId} {t : Mg.T} {e : Env} {f : Fr} {H0 H : Hp} {Q : Fr → Hp → Prop} {L : List Nat} (hL : AllZ H0 H L)
    (h : ∀ H' b, AllZ H0 H' (b :: L) → tvk P W t (d.env (.pointer (some ⟨b, 0, none⟩)) e) (d.fr (.pointer (some ⟨b, 0, none⟩)) f) H' Q) :
    (EX.new T (Array.replicate 32 (Value.int .u8 0))).wp P (A.rd e f) H (fun v H' => Keep W H H' ∧ tvk P W t (d.env v e) (d.fr v f) H' Q) :=
  ⟨(Keep.refl _ _).push _, h _ _ (hL.new T)⟩
theorem leaf3 {P : Program} {e : Env} {f : Fr} {H0 H : Hp} {Q : Fr → Hp → Prop} {x y z : Nat} {a b c : List UInt8} (ha : a.length = 32) (hb : b.length = 32) (hc : c.length = 32) {L : List Nat} (hL : AllZ H0 H L)
    (h5 : f 5 = .pointer (some ⟨x, 0, none⟩)) (h6 : f 6 = .pointer (some ⟨y, 0, none⟩)) (h7 : f 7 = .pointer (some ⟨z, 0, none⟩)) (hx : x ∈ L) (hy : y ∈ L) (hz : z ∈ L) (hxy : x ≠ y) (hxz : x ≠ z) (hyz : y ≠ z)
    (e1 : look e 28 = .agg (w8 a).toArray) (e2 : look e 30 = .agg (w8 b).toArray) (e3 : look e 32 = .agg (w8 c).toArray)
    (h : ∀ H', Bl H' x (w8 a) → Bl H' y (w8 b) → Bl H' z (w8 c) → Keep (fun _ => False) H0 H' → Q f H') :
    tvk P (fun k => H0.size ≤ k) (.wcons .no none (.stn 32 (.v 5) (.t 28)) (.wcons .no none (.stn 32 (.v 6) (.t 30)) (.wcons .no none (.stn 32 (.v 7) (.t 32)) .done .wnil) .wnil) .wnil) e f H Q := by
  obtain ⟨g1, -, g3⟩ := hL
  obtain ⟨bx, ox⟩ := g1 x hx
  obtain ⟨by_, oy⟩ := g1 y hy
  obtain ⟨bz, oz⟩ := g1 z hz
  have l32 : ∀ l : List UInt8, l.length = 32 → (w8 l).length = 32 := fun l h => by rw [w8_len, h]
  have r32 : (w8 (List.replicate 32 (0 : UInt8))).length = 32 := by simp [w8]
  have x1 := bx.stNA 0 (w8 a)
  rw [wrL_all _ _ (by rw [l32 a ha, r32])] at x1
  have y1 := by_.stNA_ne (p := ⟨x, 0, none⟩) (w8 a) (by simp only []; omega)
  have z1 := bz.stNA_ne (p := ⟨x, 0, none⟩) (w8 a) (by simp only []; omega)
  have k1 := g3.stNA (p := ⟨x, 0, none⟩) (w8 a) (.inr ox)
  have y2 := y1.stNA 0 (w8 b)
  rw [wrL_all _ _ (by rw [l32 b hb, r32])] at y2
  have x2 := x1.stNA_ne (p := ⟨y, 0, none⟩) (w8 b) (by simp only []; omega)
  have z2 := z1.stNA_ne (p := ⟨y, 0, none⟩) (w8 b) (by simp only []; omega)
  have k2 := k1.stNA (p := ⟨y, 0, none⟩) (w8 b) (.inr oy)
  have z3 := z2.stNA 0 (w8 c)
  rw [wrL_all _ _ (by rw [l32 c hc, r32])] at z3
  have x3 := x2.stNA_ne (p := ⟨z, 0, none⟩) (w8 c) (by simp only []; omega)
  have y3 := y2.stNA_ne (p := ⟨z, 0, none⟩) (w8 c) (by simp only []; omega)
  have k3 := k2.stNA (p := ⟨z, 0, none⟩) (w8 c) (.inr oz)
  simp only [go_sem, List.map_cons, List.map_nil, ↓reduceIte, Nat.reduceEqDiff, Nat.reduceAdd, Nat.reduceMul, reduceCtorEq, and_true, true_and, Nat.mul_one, Nat.zero_add, Bool.false_eq_true, decide_true, decide_false, not_false_eq_true, kont_eq, h5, h6, h7, e1, e2, e3, okN_ptr, stNH_ptr, cells_agg]
  exact ⟨⟨bx.okNA (by omega), by rw [l32 a ha], w8_all1 _⟩, (Keep.refl _ _).stNA _ (.inl ox), ⟨y1.okNA (by omega), by rw [l32 b hb], w8_all1 _⟩, (Keep.refl _ _).stNA _ (.inl oy),
    ⟨z2.okNA (by omega), by rw [l32 c hc], w8_all1 _⟩, (Keep.refl _ _).stNA _ (.inl oz), h _ x3 y3 z3 k3⟩

theorem orders_ok {P : Program} {ι : Ids} {k : FuncId} (hk : FnIs P k (c_lorders ι) r_lorders 2) (ha : AwakeSpec P ι (ι.f 21)) (hc : CmpSpec P (ι.f 46)) (hr : CmpSpec P (ι.f 47))
    (l m : List UInt8) (H : Hp) (hG : GlobOk ι H) (hl : l.length = 96) (hm : m.length = 2) : CallsM P k #[.agg (w8 l).toArray, .agg (w8 m).toArray] H fun r H' => r = .bool true ∧ Keep (fun _ => False) H H' := by
  refine calls_of_vc hk (args := [_, _]) (by simp) ?_
  unfold c_lorders r_lorders
  have t32 : ∀ l : List UInt8, l.length = 32 → List.take 32 (w8 l) = w8 l := fun l hl => List.take_of_length_le (by rw [w8_len, hl]; omega)
  simp only [go_sem, List.map_cons, List.map_nil, ↓reduceIte, Nat.reduceEqDiff, Nat.reduceAdd, Nat.reduceMul, reduceCtorEq, and_true, true_and, Nat.mul_one, Nat.zero_add, Bool.false_eq_true, decide_true, decide_false, not_false_eq_true, cells_agg]
  refine kont_new fun H1 b1 e1 z1 B1 K1 => ?_
  simp only [go_sem, List.map_cons, List.map_nil, ↓reduceIte, Nat.reduceEqDiff, Nat.reduceAdd, Nat.reduceMul, reduceCtorEq, and_true, true_and, Nat.mul_one, Nat.zero_add, Bool.false_eq_true, decide_true, decide_false, not_false_eq_true, cells_agg]
  refine kont_new fun H2 b2 e2 z2 B2 K2 => ?_
  have B1 : Bl H1 b1 (w8 l) := B1
  have B2 : Bl H2 b2 (w8 m) := B2
  have B1' := K2.bl B1 (by simp)
  have K2' := K1.trans K2
  have hb1 := B1.lt
  simp only [go_sem, List.map_cons, List.map_nil, ↓reduceIte, Nat.reduceEqDiff, Nat.reduceAdd, Nat.reduceMul, reduceCtorEq, and_true, true_and, Nat.mul_one, Nat.zero_add, Bool.false_eq_true, decide_true, decide_false, not_false_eq_true, kont_eq]
  refine (ha _ (hG.keep K2' (by simp) (by simp))).mono ?_
  rintro r H3 ⟨rfl, K3⟩
  have B3 := K3.bl B1' (by simp)
  have M3 := K3.bl B2 (by simp)
  have K3' := K2'.trans K3
  have gm : ∀ i, i < 2 → (w8 m)[i]? = some (.int .u8 (m.getD i 0).toNat) := fun i hi => w8_get _ _ (by omega)
  have q1 : ∀ x : UInt8, ((x.toNat : Int)).tmod 33 = ((x.toNat % 33 : Nat) : Int) := fun x => by rw [Int.tmod_eq_emod_of_nonneg (by omega)]; omega
  have q2 : ∀ x : UInt8, IntKind.u8.wrap ((x.toNat % 33 : Nat) : Int) = ((x.toNat % 33 : Nat) : Int) := fun x => by rw [IntKind.wrap_u8]; omega
  rw [kont_eq]
  simp (disch := omega) only [go_sem, List.map_cons, List.map_nil, ↓reduceIte, Nat.reduceEqDiff, Nat.reduceAdd, Nat.reduceMul, reduceCtorEq, and_true, true_and, Nat.mul_one, Nat.zero_add, Bool.false_eq_true, decide_true, decide_false, not_false_eq_true, M3.cell, gm, q1, q2, tn_cast]
  have hx0 : (m.getD 0 0).toNat % 33 ≤ 32 := by omega
  have hx1 : (m.getD 1 0).toNat % 33 ≤ 32 := by omega
  generalize (m.getD 0 0).toNat % 33 = n0 at *
  have e0 : min 32 n0 = n0 := by omega
  rw [e0]
  have s0 := B3.srcN 0 32 32 n0 (by rw [w8_len]; omega)
  rw [List.drop_zero, w8_take] at s0
  have hln0 : (l.take n0).length = n0 := by rw [List.length_take]; omega
  have B4 := B3.put 32 0 (w8 (l.take n0)).toArray
  rw [Nat.add_zero, w8_wr] at B4
  have K4 : Keep (fun _ => False) H (putH H3 (some ⟨b1, 32, none⟩) 0 (w8 (l.take n0)).toArray) := K3'.put rfl _ _ (.inr (by simp only []; omega))
  have M4 := M3.put_ne (p := ⟨b1, 32, none⟩) rfl 0 (w8 (l.take n0)).toArray (by simp only []; omega)
  have lL1 : (bufW l 32 (l.take n0)).length = 96 := by rw [bufW_len (by omega), hl]
  refine ⟨by omega, by omega, by omega, by omega, by omega, _, s0, B3.okPut _ _ _ (w8_all1 _) (by rw [List.size_toArray, w8_len, w8_len]; omega), ?_⟩
  generalize bufW l 32 (l.take n0) = L1 at *
  generalize putH H3 _ _ _ = H4 at *
  rw [kont_eq]
  simp (disch := omega) only [go_sem, List.map_cons, List.map_nil, ↓reduceIte, Nat.reduceEqDiff, Nat.reduceAdd, Nat.reduceMul, reduceCtorEq, and_true, true_and, Nat.mul_one, Nat.zero_add, Bool.false_eq_true, decide_true, decide_false, not_false_eq_true, M4.cell, gm, q1, q2, tn_cast]
  generalize (m.getD 1 0).toNat % 33 = n1 at *
  have e1 : min 32 n1 = n1 := by omega
  rw [e1]
  have s1 := B4.srcN 32 32 32 n1 (by rw [w8_len]; omega)
  rw [w8_drop, w8_take] at s1
  have hln1 : ((L1.drop 32).take n1).length = n1 := by rw [List.length_take, List.length_drop]; omega
  have B5 := B4.put 64 0 (w8 ((L1.drop 32).take n1)).toArray
  rw [Nat.add_zero, w8_wr] at B5
  have K5 : Keep (fun _ => False) H (putH H4 (some ⟨b1, 64, none⟩) 0 (w8 ((L1.drop 32).take n1)).toArray) := K4.put rfl _ _ (.inr (by simp only []; omega))
  have lL2 : (bufW L1 64 ((L1.drop 32).take n1)).length = 96 := by rw [bufW_len (by omega), lL1]
  refine ⟨by omega, by omega, by omega, by omega, by omega, _, s1, B4.okPut _ _ _ (w8_all1 _) (by rw [List.size_toArray, w8_len, w8_len]; omega), ?_⟩
  generalize bufW L1 64 ((L1.drop 32).take n1) = L2 at *
  generalize putH H4 _ _ _ = H5 at *
  rw [kont_eq]
  simp only [ops_nil, thenQ_n, vc_seq, go_sem]
  have la : (L2.take 32).length = 32 := by rw [List.length_take]; omega
  have lb : ((L2.drop 32).take 32).length = 32 := by rw [List.length_take, List.length_drop]; omega
  have lc : ((L2.drop 64).take 32).length = 32 := by rw [List.length_take, List.length_drop]; omega
  have hb15 := B5.lt
  refine vc_keep _ _ _ (fun e f' H' => e = .n ∧ ∃ x y z, f' 5 = .pointer (some ⟨x, 0, none⟩) ∧ f' 6 = .pointer (some ⟨y, 0, none⟩) ∧ f' 7 = .pointer (some ⟨z, 0, none⟩) ∧ Bl H' x (w8 (L2.take 32)) ∧ Bl H' y (w8 ((L2.drop 32).take 32)) ∧ Bl H' z (w8 ((L2.drop 64).take 32)) ∧ Keep (fun _ => False) H5 H') _ ?_ ?_
  · rintro e f' H6 ⟨rfl, x, y, z, h5, h6, h7, X6, Y6, Z6, K6⟩ hk
    have hf2 : f' 2 = .pointer (some ⟨b1, 0, none⟩) := by rw [hk 2 (by simp [S.wr, T.wr, D.wr])]; simp only [go_sem, List.map_cons, List.map_nil, ↓reduceIte, Nat.reduceEqDiff, Nat.reduceAdd, Nat.reduceMul, reduceCtorEq, and_true, true_and, Nat.mul_one, Nat.zero_add, Bool.false_eq_true, decide_true, decide_false, not_false_eq_true, kont_eq]
    have K6' := K5.trans K6
    have B6 := K6.bl B5 (by simp)
    have lw : ∀ l : List UInt8, l.length = 32 → (w8 l).length = 32 := fun l h => by rw [w8_len, h]
    have g0 : ∀ o, o + 32 ≤ 96 → ldNA H6 ⟨b1, o, none⟩ 32 = some (w8 ((L2.drop o).take 32)).toArray := fun o h => by rw [B6.ldNA (by rw [w8_len]; omega), w8_drop, w8_take]
    generalize hA : L2.take 32 = A at *
    generalize hBB : (L2.drop 32).take 32 = B at *
    generalize hCC : (L2.drop 64).take 32 = C at *
    have ld : ∀ {H' x l}, Bl H' x (w8 l) → l.length = 32 → ldNA H' ⟨x, 0, none⟩ 32 = some (w8 l).toArray := fun h hl => by
      rw [h.ldNA (by rw [lw _ hl]; omega), List.drop_zero, t32 _ hl]
    simp only [go_sem, List.map_cons, List.map_nil, ↓reduceIte, Nat.reduceEqDiff, Nat.reduceAdd, Nat.reduceMul, reduceCtorEq, and_true, true_and, Nat.mul_one, Nat.zero_add, Bool.false_eq_true, decide_true, decide_false, not_false_eq_true, kont_eq, h5, h6, h7, hf2, ldNO_ptr, ld X6 la, ld Y6 lb]
    refine (hc _ _ _ la lb).mono ?_
    rintro r H7 ⟨rfl, K7⟩
    have X7 := K7.bl X6 (by simp)
    have Y7 := K7.bl Y6 (by simp)
    have Z7 := K7.bl Z6 (by simp)
    have B7 := K7.bl B6 (by simp)
    have K7' := K6'.trans K7
    have g7 : ∀ o, o + 32 ≤ 96 → ldNA H7 ⟨b1, o, none⟩ 32 = some (w8 ((L2.drop o).take 32)).toArray := fun o h => by rw [B7.ldNA (by rw [w8_len]; omega), w8_drop, w8_take]
    simp only [go_sem, List.map_cons, List.map_nil, ↓reduceIte, Nat.reduceEqDiff, Nat.reduceAdd, Nat.reduceMul, reduceCtorEq, and_true, true_and, Nat.mul_one, Nat.zero_add, Bool.false_eq_true, decide_true, decide_false, not_false_eq_true, kont_eq, h5, h6, h7, hf2, ldNO_ptr, g7 0 (by omega), g7 32 (by omega), List.drop_zero, hA, hBB]
    refine ⟨by omega, by omega, ?_⟩
    refine (hr _ _ _ la lb).mono ?_
    rintro r H8 ⟨rfl, K8⟩
    have X8 := K8.bl X7 (by simp)
    have Y8 := K8.bl Y7 (by simp)
    have Z8 := K8.bl Z7 (by simp)
    have K8' := K7'.trans K8
    simp only [go_sem, List.map_cons, List.map_nil, ↓reduceIte, Nat.reduceEqDiff, Nat.reduceAdd, Nat.reduceMul, reduceCtorEq, and_true, true_and, Nat.mul_one, Nat.zero_add, Bool.false_eq_true, decide_true, decide_false, not_false_eq_true, kont_eq, h5, h6, h7, hf2, ldNO_ptr, bne_self_eq_false, ld X8 la, ld Y8 lb]
    refine (hc _ _ _ lb la).mono ?_
    rintro r H9 ⟨rfl, K9⟩
    have X9 := K9.bl X8 (by simp)
    have Y9 := K9.bl Y8 (by simp)
    have Z9 := K9.bl Z8 (by simp)
    have K9' := K8'.trans K9
    have hs : ∀ a b : List UInt8, a.length = b.length → IntKind.i64.wrap (- cmpL a b) = - cmpL a b := fun a b h => by
      rcases tri h with e | e | e
      · subst e; rw [cmpL_self]; rfl
      · rw [cmp_lt h e]; rfl
      · rw [cmp_gt h e]; rfl
    simp only [go_sem, List.map_cons, List.map_nil, ↓reduceIte, Nat.reduceEqDiff, Nat.reduceAdd, Nat.reduceMul, reduceCtorEq, and_true, true_and, Nat.mul_one, Nat.zero_add, Bool.false_eq_true, decide_true, decide_false, not_false_eq_true, kont_eq, h5, h6, h7, hf2, ldNO_ptr, bne_self_eq_false, ld X9 la, ld Y9 lb, hs A B (by omega), cmp_anti (show A.length = B.length by omega)]
    refine (hc _ _ _ la la).mono ?_
    rintro r H10 ⟨rfl, K10⟩
    have X10 := K10.bl X9 (by simp)
    have Y10 := K10.bl Y9 (by simp)
    have Z10 := K10.bl Z9 (by simp)
    have K10' := K9'.trans K10
    simp only [go_sem, List.map_cons, List.map_nil, ↓reduceIte, Nat.reduceEqDiff, Nat.reduceAdd, Nat.reduceMul, reduceCtorEq, and_true, true_and, Nat.mul_one, Nat.zero_add, Bool.false_eq_true, decide_true, decide_false, not_false_eq_true, kont_eq, h5, h6, h7, hf2, ldNO_ptr, bne_self_eq_false, ld X10 la, ld Y10 lb, cmpL_self, w8_eqv, cmp_eq (show A.length = B.length by omega), beq_self_eq_true, lw _ la, lw _ lb]
    refine ⟨⟨w8_isI _, w8_isI _⟩, ?_⟩
    by_cases p1 : 0 < cmpL A B
    · have p1' : cmpL A B > 0 := p1
      simp only [go_sem, List.map_cons, List.map_nil, ↓reduceIte, Nat.reduceEqDiff, Nat.reduceAdd, Nat.reduceMul, reduceCtorEq, and_true, true_and, Nat.mul_one, Nat.zero_add, Bool.false_eq_true, decide_true, decide_false, not_false_eq_true, kont_eq, p1']
      exact K10'
    · have p1' : ¬ cmpL A B > 0 := p1
      simp only [go_sem, List.map_cons, List.map_nil, ↓reduceIte, Nat.reduceEqDiff, Nat.reduceAdd, Nat.reduceMul, reduceCtorEq, and_true, true_and, Nat.mul_one, Nat.zero_add, Bool.false_eq_true, decide_true, decide_false, not_false_eq_true, kont_eq, h5, h6, h7, p1', ldNO_ptr, ld Y10 lb, ld Z10 lc]
      refine (hc _ _ _ lb lc).mono ?_
      rintro r H11 ⟨rfl, K11⟩
      have X11 := K11.bl X10 (by simp)
      have Z11 := K11.bl Z10 (by simp)
      have K11' := K10'.trans K11
      by_cases p2 : 0 < cmpL B C
      · have p2' : cmpL B C > 0 := p2
        simp only [go_sem, List.map_cons, List.map_nil, ↓reduceIte, Nat.reduceEqDiff, Nat.reduceAdd, Nat.reduceMul, reduceCtorEq, and_true, true_and, Nat.mul_one, Nat.zero_add, Bool.false_eq_true, decide_true, decide_false, not_false_eq_true, kont_eq, p2']
        exact K11'
      · have p2' : ¬ cmpL B C > 0 := p2
        simp only [go_sem, List.map_cons, List.map_nil, ↓reduceIte, Nat.reduceEqDiff, Nat.reduceAdd, Nat.reduceMul, reduceCtorEq, and_true, true_and, Nat.mul_one, Nat.zero_add, Bool.false_eq_true, decide_true, decide_false, not_false_eq_true, kont_eq, h5, h6, h7, p2', ldNO_ptr, ld X11 la, ld Z11 lc]
        refine (hc _ _ _ la lc).mono ?_
        rintro r H12 ⟨rfl, K12⟩
        have p3 := cmp_trans (by omega) (by omega) p1 p2
        simp only [go_sem, List.map_cons, List.map_nil, ↓reduceIte, Nat.reduceEqDiff, Nat.reduceAdd, Nat.reduceMul, reduceCtorEq, and_true, true_and, Nat.mul_one, Nat.zero_add, Bool.false_eq_true, decide_true, decide_false, not_false_eq_true, kont_eq, p3]
        exact K11'.trans K12
  · have L0 : ∀ o n, o + n ≤ 96 → ldNA H5 ⟨b1, o, none⟩ n = some (w8 ((L2.drop o).take n)).toArray := fun o n h => by rw [B5.ldNA (by rw [w8_len]; omega), w8_drop, w8_take]
    refine vc_drk (fun k => H5.size ≤ k) ?_
    have hz : AllZ H5 H5 [] := ⟨fun b h => by simp at h, List.nodup_nil, Keep.refl _ _⟩
    have nW : ¬ H5.size ≤ b1 := by omega
    have nW' : ∀ o, ¬ H5.size ≤ (⟨b1, o, none⟩ : Addr).block := fun o => nW
    refine ⟨?_, ?_, ?_, ?_, ?_, ?_, ?_⟩
    · simp only [go_sem, List.map_cons, List.map_nil, ↓reduceIte, Nat.reduceEqDiff, Nat.reduceAdd, Nat.reduceMul, reduceCtorEq, and_true, true_and, Nat.mul_one, Nat.zero_add, Bool.false_eq_true, decide_true, decide_false, not_false_eq_true, kont_eq]; omega
    · simp only [go_sem, List.map_cons, List.map_nil, ↓reduceIte, Nat.reduceEqDiff, Nat.reduceAdd, Nat.reduceMul, reduceCtorEq, and_true, true_and, Nat.mul_one, Nat.zero_add, Bool.false_eq_true, decide_true, decide_false, not_false_eq_true, kont_eq, nW, L0 0 32 (by omega), ldNO_ptr]
    · simp only [go_sem, List.map_cons, List.map_nil, ↓reduceIte, Nat.reduceEqDiff, Nat.reduceAdd, Nat.reduceMul, reduceCtorEq, and_true, true_and, Nat.mul_one, Nat.zero_add, Bool.false_eq_true, decide_true, decide_false, not_false_eq_true, kont_eq]; omega
    · simp only [go_sem, List.map_cons, List.map_nil, ↓reduceIte, Nat.reduceEqDiff, Nat.reduceAdd, Nat.reduceMul, reduceCtorEq, and_true, true_and, Nat.mul_one, Nat.zero_add, Bool.false_eq_true, decide_true, decide_false, not_false_eq_true, kont_eq, nW, L0 32 32 (by omega), ldNO_ptr]
    · simp only [go_sem, List.map_cons, List.map_nil, ↓reduceIte, Nat.reduceEqDiff, Nat.reduceAdd, Nat.reduceMul, reduceCtorEq, and_true, true_and, Nat.mul_one, Nat.zero_add, Bool.false_eq_true, decide_true, decide_false, not_false_eq_true, kont_eq]; omega
    · simp only [go_sem, List.map_cons, List.map_nil, ↓reduceIte, Nat.reduceEqDiff, Nat.reduceAdd, Nat.reduceMul, reduceCtorEq, and_true, true_and, Nat.mul_one, Nat.zero_add, Bool.false_eq_true, decide_true, decide_false, not_false_eq_true, kont_eq, nW, L0 64 32 (by omega), ldNO_ptr]
    refine ⟨tvk_new3 hz fun Ha ba La => ⟨tvk_new3 La fun Hb bb Lb => ⟨tvk_new3 Lb fun Hc bc Lc => ?_, trivial⟩, ⟨tvk_new3 La fun Hb bb Lb => ⟨tvk_new3 Lb fun Hc bc Lc => ?_, trivial⟩, trivial⟩⟩,
      ⟨tvk_new3 hz fun Ha ba La => ⟨tvk_new3 La fun Hb bb Lb => ⟨tvk_new3 Lb fun Hc bc Lc => ?_, trivial⟩, ⟨tvk_new3 La fun Hb bb Lb => ⟨tvk_new3 Lb fun Hc bc Lc => ?_, trivial⟩, trivial⟩⟩,
      ⟨tvk_new3 hz fun Ha ba La => ⟨tvk_new3 La fun Hb bb Lb => ⟨tvk_new3 Lb fun Hc bc Lc => ?_, trivial⟩, ⟨tvk_new3 La fun Hb bb Lb => ⟨tvk_new3 Lb fun Hc bc Lc => ?_, trivial⟩, trivial⟩⟩, trivial⟩⟩⟩
    all_goals
      have hn := Lc.2.1
      simp only [List.nodup_cons, List.mem_cons, List.not_mem_nil, or_false, not_or, List.nodup_nil, and_true, not_false_eq_true] at hn
      refine leaf3 la lb lc Lc rfl rfl rfl (by simp) (by simp) (by simp) (by omega) (by omega) (by omega) ?_ ?_ ?_ (fun H' X Y Z K => ⟨rfl, _, _, _, rfl, rfl, rfl, X, Y, Z, K⟩)
      · simp only [go_sem, List.map_cons, List.map_nil, ↓reduceIte, Nat.reduceEqDiff, Nat.reduceAdd, Nat.reduceMul, reduceCtorEq, and_true, true_and, Nat.mul_one, Nat.zero_add, Bool.false_eq_true, decide_true, decide_false, not_false_eq_true, kont_eq, L0 0 32 (by omega), ldNO_ptr, List.drop_zero]
      · simp only [go_sem, List.map_cons, List.map_nil, ↓reduceIte, Nat.reduceEqDiff, Nat.reduceAdd, Nat.reduceMul, reduceCtorEq, and_true, true_and, Nat.mul_one, Nat.zero_add, Bool.false_eq_true, decide_true, decide_false, not_false_eq_true, kont_eq, L0 32 32 (by omega), ldNO_ptr]
      · simp only [go_sem, List.map_cons, List.map_nil, ↓reduceIte, Nat.reduceEqDiff, Nat.reduceAdd, Nat.reduceMul, reduceCtorEq, and_true, true_and, Nat.mul_one, Nat.zero_add, Bool.false_eq_true, decide_true, decide_false, not_false_eq_true, kont_eq, L0 64 32 (by omega), ldNO_ptr]
end Go.Mg

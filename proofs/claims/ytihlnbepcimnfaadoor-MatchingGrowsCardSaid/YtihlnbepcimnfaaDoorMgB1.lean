/- math/bits: how many bits, the lowest one, how long. -/
import Derived.Test.YtihlnbepcimnfaaDoorMgB0
import Derived.Test.YtihlnbepcimnfaaDoorMgOwn
import Derived.Test.YtihlnbepcimnfaaDoorMgLib
import Derived.Test.YtihlnbepcimnfaaDoorMgKp
namespace Go.Mg
open Go Go.RowKit
set_option linter.unusedSimpArgs false
set_option linter.unusedVariables false
set_option maxRecDepth 100000
/- math/bits.OnesCount64 -/
def c_ones (ι : Ids) : S :=
  .seq (.reg [.p (.v 2) (.mv (.c (.int .i64 0)))]) (.seq (.reg [.p (.t 3) (.mv (.v 0)), .p (.t 4) (.sh .shr .u64 (.t 3) (.c (.int .u64 1))), .p (.t 5) (.bt .and .u64 (.t 4) (.c (.int .u64
  6148914691236517205))), .p (.t 6) (.mv (.v 0)), .p (.t 7) (.bt .and .u64 (.t 6) (.c (.int .u64 6148914691236517205))), .p (.t 8) (.ar .add .u64 (.t 5) (.t 7)), .p (.v 0) (.mv (.t 8))]) (.seq (.reg [.p
  (.t 9) (.mv (.v 0)), .p (.t 10) (.sh .shr .u64 (.t 9) (.c (.int .u64 2))), .p (.t 11) (.bt .and .u64 (.t 10) (.c (.int .u64 3689348814741910323))), .p (.t 12) (.mv (.v 0)), .p (.t 13) (.bt .and .u64
  (.t 12) (.c (.int .u64 3689348814741910323))), .p (.t 14) (.ar .add .u64 (.t 11) (.t 13)), .p (.v 0) (.mv (.t 14))]) (.seq (.reg [.p (.t 15) (.mv (.v 0)), .p (.t 16) (.sh .shr .u64 (.t 15) (.c (.int
  .u64 4))), .p (.t 17) (.mv (.v 0)), .p (.t 18) (.ar .add .u64 (.t 16) (.t 17)), .p (.t 19) (.bt .and .u64 (.t 18) (.c (.int .u64 1085102592571150095))), .p (.v 0) (.mv (.t 19))]) (.seq (.reg [.p (.t
  20) (.mv (.v 0)), .p (.t 21) (.mv (.v 0)), .p (.t 22) (.sh .shr .u64 (.t 21) (.c (.int .u64 8))), .p (.t 23) (.ar .add .u64 (.t 20) (.t 22)), .p (.v 0) (.mv (.t 23))]) (.seq (.reg [.p (.t 24) (.mv (.v
  0)), .p (.t 25) (.mv (.v 0)), .p (.t 26) (.sh .shr .u64 (.t 25) (.c (.int .u64 16))), .p (.t 27) (.ar .add .u64 (.t 24) (.t 26)), .p (.v 0) (.mv (.t 27))]) (.seq (.reg [.p (.t 28) (.mv (.v 0)), .p (.t
  29) (.mv (.v 0)), .p (.t 30) (.sh .shr .u64 (.t 29) (.c (.int .u64 32))), .p (.t 31) (.ar .add .u64 (.t 28) (.t 30)), .p (.v 0) (.mv (.t 31))]) (.seq (.reg [.p (.t 32) (.mv (.v 0)), .p (.t 33) (.ii
  .i64 (.t 32)), .p (.t 34) (.bt .and .i64 (.t 33) (.c (.int .i64 127))), .p (.v 2) (.mv (.t 34))]) .ret)))))))
def r_ones : List RV := [.t 2]
/- math/bits.TrailingZeros64 -/
def c_tz (ι : Ids) : S :=
  .seq (.reg [.p (.v 2) (.mv (.c (.int .i64 0)))]) (.seq (.seq (.reg [.p (.t 3) (.mv (.v 0)), .p (.v 4) (.cm .eql .u64 (.t 3) (.c (.int .u64 0)))]) (.ite (.v 4) (.seq (.reg [.p (.v 2) (.mv (.c (.int
  .i64 64)))]) .ret) .skip)) (.seq (.reg [.p (.t 5) (.mv (.v 0)), .p (.t 6) (.mv (.v 0)), .p (.t 7) (.neg .u64 (.t 6)), .p (.t 8) (.bt .and .u64 (.t 5) (.t 7)), .p (.t 9) (.ar .mul .u64 (.t 8) (.c (.int
  .u64 285870213051353865))), .p (.t 10) (.sh .shr .u64 (.t 9) (.c (.int .u64 58))), .p (.t 11) (.ia 64 1 (.c (.pointer (.some ⟨ι.g 125, 0, .none⟩))) (.t 10)), .p (.t 12) (.ld (.t 11)), .p (.t 13) (.ii
  .i64 (.t 12)), .p (.v 2) (.mv (.t 13))]) .ret))
def r_tz : List RV := [.t 2]
/- math/bits.Len64 -/
def c_len64 (ι : Ids) : S :=
  .seq (.reg [.p (.v 2) (.mv (.c (.int .i64 0)))]) (.seq (.seq (.reg [.p (.t 3) (.mv (.v 0)), .p (.v 4) (.cm .geq .u64 (.t 3) (.c (.int .u64 4294967296)))]) (.ite (.v 4) (.seq (.reg [.p (.t 5) (.mv (.v
  0)), .p (.t 6) (.sh .shr .u64 (.t 5) (.c (.int .u64 32))), .p (.v 0) (.mv (.t 6))]) (.reg [.p (.v 2) (.mv (.c (.int .i64 32)))])) .skip)) (.seq (.seq (.reg [.p (.t 7) (.mv (.v 0)), .p (.v 8) (.cm .geq
  .u64 (.t 7) (.c (.int .u64 65536)))]) (.ite (.v 8) (.seq (.reg [.p (.t 9) (.mv (.v 0)), .p (.t 10) (.sh .shr .u64 (.t 9) (.c (.int .u64 16))), .p (.v 0) (.mv (.t 10))]) (.reg [.p (.t 11) (.mv (.v 2)),
  .p (.t 12) (.ar .add .i64 (.t 11) (.c (.int .i64 16))), .p (.v 2) (.mv (.t 12))])) .skip)) (.seq (.seq (.reg [.p (.t 13) (.mv (.v 0)), .p (.v 14) (.cm .geq .u64 (.t 13) (.c (.int .u64 256)))]) (.ite
  (.v 14) (.seq (.reg [.p (.t 15) (.mv (.v 0)), .p (.t 16) (.sh .shr .u64 (.t 15) (.c (.int .u64 8))), .p (.v 0) (.mv (.t 16))]) (.reg [.p (.t 17) (.mv (.v 2)), .p (.t 18) (.ar .add .i64 (.t 17) (.c
  (.int .i64 8))), .p (.v 2) (.mv (.t 18))])) .skip)) (.seq (.reg [.p (.t 19) (.mv (.v 2)), .p (.t 20) (.mv (.v 0)), .p (.t 21) (.ii .u8 (.t 20)), .p (.t 22) (.m (.ixs (.c (.string ⟨#[0, 1, 2, 2, 3, 3,
  3, 3, 4, 4, 4, 4, 4, 4, 4, 4, 5, 5, 5, 5, 5, 5, 5, 5, 5, 5, 5, 5, 5, 5, 5, 5, 6, 6, 6, 6, 6, 6, 6, 6, 6, 6, 6, 6, 6, 6, 6, 6, 6, 6, 6, 6, 6, 6, 6, 6, 6, 6, 6, 6, 6, 6, 6, 6, 7, 7, 7, 7, 7, 7, 7, 7, 7,
  7, 7, 7, 7, 7, 7, 7, 7, 7, 7, 7, 7, 7, 7, 7, 7, 7, 7, 7, 7, 7, 7, 7, 7, 7, 7, 7, 7, 7, 7, 7, 7, 7, 7, 7, 7, 7, 7, 7, 7, 7, 7, 7, 7, 7, 7, 7, 7, 7, 7, 7, 7, 7, 7, 7, 8, 8, 8, 8, 8, 8, 8, 8, 8, 8, 8, 8,
  8, 8, 8, 8, 8, 8, 8, 8, 8, 8, 8, 8, 8, 8, 8, 8, 8, 8, 8, 8, 8, 8, 8, 8, 8, 8, 8, 8, 8, 8, 8, 8, 8, 8, 8, 8, 8, 8, 8, 8, 8, 8, 8, 8, 8, 8, 8, 8, 8, 8, 8, 8, 8, 8, 8, 8, 8, 8, 8, 8, 8, 8, 8, 8, 8, 8, 8,
  8, 8, 8, 8, 8, 8, 8, 8, 8, 8, 8, 8, 8, 8, 8, 8, 8, 8, 8, 8, 8, 8, 8, 8, 8, 8, 8, 8, 8, 8, 8, 8, 8, 8, 8, 8, 8, 8, 8, 8, 8, 8, 8, 8, 8, 8, 8, 8, 8]⟩)) (.t 21))), .p (.t 23) (.ii .i64 (.t 22)), .p (.t
  24) (.ar .add .i64 (.t 19) (.t 23)), .p (.v 2) (.mv (.t 24))]) .ret))))
def r_len64 : List RV := [.t 2]

theorem u64_and (a b : Nat) (ha : a < 18446744073709551616) (hb : b < 18446744073709551616) : bits .and .u64 (a : Int) (b : Int) = ((a &&& b : Nat) : Int) := by
  have h := bits_and (UInt64.ofNat a) (UInt64.ofNat b)
  rw [UInt64.toNat_and, UInt64.toNat_ofNat', UInt64.toNat_ofNat', Nat.mod_eq_of_lt ha, Nat.mod_eq_of_lt hb] at h
  exact h
theorem u64_in (n : Nat) (h : n < 18446744073709551616) : IntKind.u64.wrap (n : Int) = (n : Int) := by rw [IntKind.wrap_u64]; omega
theorem div_n (a b : Nat) : ((a : Int) / (b : Int)) = ((a / b : Nat) : Int) := by simp
theorem and1 (x : UInt64) (k : Nat) : bits .and .u64 ((x.toNat : Int) / 2 ^ k) 1 = if bt x k = true then 1 else 0 := by
  have e : ((x.toNat : Int) / 2 ^ k) = ((x.toNat / 2 ^ k : Nat) : Int) := by simp
  have hlt : x.toNat / 2 ^ k < 18446744073709551616 := Nat.lt_of_le_of_lt (Nat.div_le_self _ _) x.toNat_lt
  rw [e, show (1 : Int) = ((1 : Nat) : Int) from rfl, u64_and _ _ hlt (by omega), Nat.and_one_is_mod]
  unfold bt
  rw [Nat.testBit_eq_decide_div_mod_eq]
  by_cases h : x.toNat / 2 ^ k % 2 = 1
  · simp [h]
  · have : x.toNat / 2 ^ k % 2 = 0 := by omega
    simp [this]
theorem i64_and127 (n : Nat) (h : n < 9223372036854775808) : bits .and .i64 (n : Int) 127 = ((n % 128 : Nat) : Int) := by
  show IntKind.i64.wrap ((BitVec.ofInt 64 (n : Int) &&& BitVec.ofInt 64 127).toNat : Int) = _
  have e : (BitVec.ofInt 64 (n : Int) &&& BitVec.ofInt 64 127).toNat = n % 128 := by
    rw [BitVec.toNat_and]
    have e1 : (BitVec.ofInt 64 (n : Int)).toNat = n := by simp; omega
    have e2 : (BitVec.ofInt 64 127).toNat = 127 := by decide
    rw [e1, e2, show 127 = 2 ^ 7 - 1 from rfl, Nat.and_two_pow_sub_one_eq_mod]
  rw [e]
  exact IntWalk.i64_in _ ⟨by omega, by omega⟩
/-! ### how many bits -/
def dig (c T : Nat → Nat) : Prop := ∀ i, T i = c i + 256 * T (i + 1)
theorem dig_div {c T : Nat → Nat} (h : dig c T) (hc : ∀ i, c i < 256) (i : Nat) : T i / 256 = T (i + 1) := by
  have a := h i
  have b := hc i
  rw [a]
  generalize T (i + 1) = y at *
  generalize c i = z at *
  omega
theorem dig_add {c T : Nat → Nat} (h : dig c T) (s : Nat) : dig (fun i => c i + c (i + s)) (fun i => T i + T (i + s)) := by
  intro i
  have a := h i
  have b := h (i + s)
  have e : i + s + 1 = i + 1 + s := by omega
  rw [e] at b
  simp only
  rw [a, b]
  generalize T (i + 1) = y
  generalize T (i + 1 + s) = z
  omega
def tl8 : List Nat → Nat
  | [] => 0
  | a :: l => a + 256 * tl8 l
theorem tl8_dig (l : List Nat) : dig (fun i => l.getD i 0) (fun i => tl8 (l.drop i)) := by
  intro i
  simp only
  by_cases h : i < l.length
  · rw [List.drop_eq_getElem_cons h, List.getD_eq_getElem?_getD, List.getElem?_eq_getElem h]; rfl
  · rw [List.drop_eq_nil_of_le (by omega), List.drop_eq_nil_of_le (by omega), List.getD_eq_getElem?_getD, List.getElem?_eq_none (by omega)]; rfl
theorem fold8' {c T : Nat → Nat} (hd : dig c T) (hc : ∀ i, c i ≤ 8) : (T 0 + T 0 / 256 + (T 0 + T 0 / 256) / 65536 + (T 0 + T 0 / 256 + (T 0 + T 0 / 256) / 65536) / 4294967296) % 128 = c 0 + c 1 + c 2 + c 3 + c 4 + c 5 + c 6 + c 7 := by
  have e1 : T 0 / 256 = T 1 := dig_div hd (fun i => Nat.lt_of_le_of_lt (hc i) (by decide)) 0
  rw [e1]
  obtain ⟨A, hA⟩ : ∃ A : Nat → Nat, A = fun i => T i + T (i + 1) := ⟨_, rfl⟩
  obtain ⟨a, ha⟩ : ∃ a : Nat → Nat, a = fun i => c i + c (i + 1) := ⟨_, rfl⟩
  have s1 : dig a A := by rw [hA, ha]; exact dig_add hd 1
  have a1 : ∀ i, a i ≤ 16 := fun i => by rw [ha]; exact Nat.add_le_add (hc i) (hc (i + 1))
  have hA0 : T 0 + T 1 = A 0 := by rw [hA]
  rw [hA0]
  have d1 : ∀ i, A i / 256 = A (i + 1) := fun i => dig_div s1 (fun i => Nat.lt_of_le_of_lt (a1 i) (by decide)) i
  have e2 : A 0 / 65536 = A 2 := by
    rw [show 65536 = 256 * 256 from rfl, ← Nat.div_div_eq_div_mul, d1, d1]
  rw [e2]
  obtain ⟨B, hB⟩ : ∃ B : Nat → Nat, B = fun i => A i + A (i + 2) := ⟨_, rfl⟩
  obtain ⟨b, hb⟩ : ∃ b : Nat → Nat, b = fun i => a i + a (i + 2) := ⟨_, rfl⟩
  have s2 : dig b B := by rw [hB, hb]; exact dig_add s1 2
  have b1 : ∀ i, b i ≤ 32 := fun i => by rw [hb]; exact Nat.add_le_add (a1 i) (a1 (i + 2))
  have hB0 : A 0 + A 2 = B 0 := by rw [hB]
  rw [hB0]
  have d2 : ∀ i, B i / 256 = B (i + 1) := fun i => dig_div s2 (fun i => Nat.lt_of_le_of_lt (b1 i) (by decide)) i
  have e3 : B 0 / 4294967296 = B 4 := by
    rw [show 4294967296 = 256 * 256 * 256 * 256 from rfl, ← Nat.div_div_eq_div_mul, ← Nat.div_div_eq_div_mul, ← Nat.div_div_eq_div_mul, d2, d2, d2, d2]
  rw [e3]
  have s3 := dig_add s2 4 0
  simp only [Nat.zero_add] at s3
  rw [s3]
  have fin : ∀ z y : Nat, y ≤ 64 → (y + 256 * z) % 128 = y := fun z y h => by omega
  rw [fin _ _ (Nat.add_le_add (b1 0) (b1 4)), hb, ha]
  simp only [Nat.zero_add, Nat.reduceAdd]
  generalize c 0 = x0
  generalize c 1 = x1
  generalize c 2 = x2
  generalize c 3 = x3
  generalize c 4 = x4
  generalize c 5 = x5
  generalize c 6 = x6
  generalize c 7 = x7
  omega
def OnesSpec (P : Program) (k : FuncId) : Prop := ∀ (x : UInt64) (H : Hp), CallsM P k #[.int .u64 x.toNat] H fun r H' => r = .int .i64 (cnt64 x : Int) ∧ H' = H
theorem land_le (a b : Nat) : a &&& b ≤ b := Nat.and_le_right
theorem ones_ok {P : Program} {ι : Ids} {k : FuncId} (hk : FnIs P k (c_ones ι) r_ones 1) : OnesSpec P k := by
  intro x H
  refine calls_of_vc hk (args := [_]) (by simp) ?_
  unfold c_ones r_ones
  have hx := x.toNat_lt
  have g1 : rpt 0x55 8 = 6148914691236517205 := by decide
  have g2 : rpt 0x33 8 = 3689348814741910323 := by decide
  have g3 : rpt 0x0f 8 = 1085102592571150095 := by decide
  obtain ⟨-, hp⟩ := p123 8 x.toNat (by have := x.toNat_lt; exact this)
  rw [g1, g2, g3] at hp
  obtain ⟨c0, c1, c2, c3, c4, c5, c6, c7, hs, hc, h0, h1, h2, h3, h4, h5, h6, h7⟩ := cnt64_bytes x
  rw [hs] at hp
  -- the first sum
  have a1 : bits .and .u64 ((x.toNat : Int) / 2 ^ 1) 6148914691236517205 = ((x.toNat / 2 &&& 6148914691236517205 : Nat) : Int) := by
    have := u64_and (x.toNat / 2) 6148914691236517205 (by omega) (by omega)
    rw [← this]; rfl
  have a2 : bits .and .u64 (x.toNat : Int) 6148914691236517205 = ((x.toNat &&& 6148914691236517205 : Nat) : Int) := u64_and _ 6148914691236517205 hx (by omega)
  have l1 := land_le (x.toNat / 2) 6148914691236517205
  have l2 := land_le x.toNat 6148914691236517205
  have a3 : IntKind.u64.wrap (((x.toNat / 2 &&& 6148914691236517205 : Nat) : Int) + ((x.toNat &&& 6148914691236517205 : Nat) : Int)) = ((p1 6148914691236517205 x.toNat : Nat) : Int) := by
    unfold p1; rw [← Int.natCast_add]; exact u64_in _ (by omega)
  have b1 : p1 6148914691236517205 x.toNat ≤ 12297829382473034410 := by unfold p1; omega
  simp only [go_sem, List.map_cons, List.map_nil, ↓reduceIte, Nat.reduceEqDiff, Nat.reduceAdd, Nat.reduceMul, reduceCtorEq, and_true, true_and, Nat.mul_one, Nat.zero_add, Bool.false_eq_true, decide_true, decide_false, not_false_eq_true, kont_eq, tn_ofNat, a1, a2, a3]
  generalize p1 6148914691236517205 x.toNat = m at *
  have a4 : bits .and .u64 ((m : Int) / 2 ^ 2) 3689348814741910323 = ((m / 4 &&& 3689348814741910323 : Nat) : Int) := by
    have := u64_and (m / 4) 3689348814741910323 (by omega) (by omega)
    rw [← this]; rfl
  have a5 : bits .and .u64 (m : Int) 3689348814741910323 = ((m &&& 3689348814741910323 : Nat) : Int) := u64_and _ 3689348814741910323 (by omega) (by omega)
  have l3 := land_le (m / 4) 3689348814741910323
  have l4 := land_le m 3689348814741910323
  have a6 : IntKind.u64.wrap (((m / 4 &&& 3689348814741910323 : Nat) : Int) + ((m &&& 3689348814741910323 : Nat) : Int)) = ((p2 3689348814741910323 m : Nat) : Int) := by
    unfold p2; rw [← Int.natCast_add]; exact u64_in _ (by omega)
  have b2 : p2 3689348814741910323 m ≤ 7378697629483820646 := by unfold p2; omega
  simp only [a4, a5, a6]
  generalize p2 3689348814741910323 m = q at *
  have a7 : IntKind.u64.wrap ((q : Int) / 2 ^ 4 + (q : Int)) = ((q / 16 + q : Nat) : Int) := by
    have e : ((q : Int) / 2 ^ 4) = ((q / 16 : Nat) : Int) := by simp
    rw [e, ← Int.natCast_add]; exact u64_in _ (by omega)
  have a8 : bits .and .u64 ((q / 16 + q : Nat) : Int) 1085102592571150095 = ((p3 1085102592571150095 q : Nat) : Int) := u64_and _ 1085102592571150095 (by omega) (by omega)
  simp only [a7, a8, hp]
  generalize ht : c0 + 256 * (c1 + 256 * (c2 + 256 * (c3 + 256 * (c4 + 256 * (c5 + 256 * (c6 + 256 * c7)))))) = t
  have a9 : IntKind.u64.wrap ((t : Int) + (t : Int) / 2 ^ 8) = ((t + t / 256 : Nat) : Int) := by
    have e : ((t : Int) / 2 ^ 8) = ((t / 256 : Nat) : Int) := by simp
    rw [e, ← Int.natCast_add]; exact u64_in _ (by omega)
  simp only [a9]
  generalize ht2 : t + t / 256 = t2
  have a10 : IntKind.u64.wrap ((t2 : Int) + (t2 : Int) / 2 ^ 16) = ((t2 + t2 / 65536 : Nat) : Int) := by
    have e : ((t2 : Int) / 2 ^ 16) = ((t2 / 65536 : Nat) : Int) := by simp
    rw [e, ← Int.natCast_add]; exact u64_in _ (by omega)
  simp only [a10]
  generalize ht3 : t2 + t2 / 65536 = t3
  have a11 : IntKind.u64.wrap ((t3 : Int) + (t3 : Int) / 2 ^ 32) = ((t3 + t3 / 4294967296 : Nat) : Int) := by
    have e : ((t3 : Int) / 2 ^ 32) = ((t3 / 4294967296 : Nat) : Int) := by simp
    rw [e, ← Int.natCast_add]; exact u64_in _ (by omega)
  simp only [a11]
  generalize ht4 : t3 + t3 / 4294967296 = t4
  have hb4 : t4 < 9223372036854775808 := by omega
  have a12 : IntKind.i64.wrap (t4 : Int) = (t4 : Int) := IntWalk.i64_in _ ⟨by omega, by omega⟩
  simp only [a12, i64_and127 _ hb4, go_sem, List.map_cons, List.map_nil, ↓reduceIte, Nat.reduceEqDiff, Nat.reduceAdd, Nat.reduceMul, reduceCtorEq, and_true, true_and, Nat.mul_one, Nat.zero_add, Bool.false_eq_true, decide_true, decide_false, not_false_eq_true, kont_eq]
  have this : t4 % 128 = cnt64 x := by
    have hle : ∀ i, ([c0, c1, c2, c3, c4, c5, c6, c7] : List Nat).getD i 0 ≤ 8 := by
      intro i
      rcases i with _ | _ | _ | _ | _ | _ | _ | _ | i
      · exact h0
      · exact h1
      · exact h2
      · exact h3
      · exact h4
      · exact h5
      · exact h6
      · exact h7
      · exact Nat.zero_le _
    have hf := fold8' (tl8_dig [c0, c1, c2, c3, c4, c5, c6, c7]) hle
    have hT : tl8 (List.drop 0 [c0, c1, c2, c3, c4, c5, c6, c7]) = t := by rw [← ht, List.drop_zero]; simp only [tl8, Nat.mul_zero, Nat.add_zero]
    simp only [hT, ht2, ht3, ht4] at hf
    rw [hc]; exact hf
  rw [this]
  repeat' apply And.intro
  all_goals first | trivial | decide | omega
/-! ### the lowest bit -/
def tabL : List Nat := [0, 1, 56, 2, 57, 49, 28, 3, 61, 58, 42, 50, 38, 29, 17, 4, 62, 47, 59, 36, 45, 43, 51, 22, 53, 39, 33, 30, 24, 18, 12, 5, 63, 55, 48, 27, 60, 41, 37, 16, 46, 35, 44, 21, 52, 32, 23, 11, 54, 26, 40, 15, 34, 20, 31, 10, 25, 14, 19, 9, 13, 8, 7, 6]
def TabOk (ι : Ids) (H : Hp) : Prop := Bl H (ι.g 125) ((tabL.map fun n : Nat => (n : Int)).map (Value.int .u8))
theorem TabOk.keep {ι : Ids} {H H' : Hp} (h : TabOk ι H) (hk : Keep (fun _ => False) H H') : TabOk ι H' := hk.bl h (by simp)
theorem tab_at : ∀ t : Fin 64, tabL.getD (2 ^ t.val * 285870213051353865 % 18446744073709551616 / 288230376151711744) 0 = t.val ∧ 2 ^ t.val * 285870213051353865 % 18446744073709551616 / 288230376151711744 < 64 := by decide +kernel
def TzSpec (P : Program) (ι : Ids) (k : FuncId) : Prop := ∀ (x : UInt64) (H : Hp), TabOk ι H → x ≠ 0 → CallsM P k #[.int .u64 x.toNat] H fun r H' => r = .int .i64 (lowB x : Int) ∧ H' = H
theorem tz_ok {P : Program} {ι : Ids} {k : FuncId} (hk : FnIs P k (c_tz ι) r_tz 1) : TzSpec P ι k := by
  intro x H hT hx
  refine calls_of_vc hk (args := [_]) (by simp) ?_
  unfold c_tz r_tz
  obtain ⟨hl, _, _⟩ := lowB_spec hx
  have h0 : ¬ ((x.toNat : Int) == 0) = true := by
    simp only [beq_iff_eq]
    intro e
    exact hx (UInt64.toNat_inj.1 (by simpa using e))
  have h0 : ((x.toNat : Int) == 0) = false := by simpa using h0
  have hneg : IntKind.u64.wrap (-(x.toNat : Int)) = ((0 - x : UInt64).toNat : Int) := by
    have := x.toNat_lt
    have h1 : x.toNat ≠ 0 := fun e => hx (UInt64.toNat_inj.1 (by simpa using e))
    rw [IntKind.wrap_u64, UInt64.toNat_sub]
    have e : (0 : UInt64).toNat = 0 := rfl
    rw [e]; omega
  have hand := bits_and x (0 - x)
  rw [neg_and hx] at hand
  have hp : (UInt64.ofNat (2 ^ lowB x)).toNat = 2 ^ lowB x := by
    rw [UInt64.toNat_ofNat']; exact Nat.mod_eq_of_lt (Nat.pow_lt_pow_right (by omega) hl)
  rw [hp] at hand
  obtain ⟨t1, t2⟩ := tab_at ⟨lowB x, hl⟩
  simp only at t1 t2
  have hmul : IntKind.u64.wrap (((2 ^ lowB x : Nat) : Int) * 285870213051353865) = ((2 ^ lowB x * 285870213051353865 % 18446744073709551616 : Nat) : Int) := by
    rw [IntKind.wrap_u64]; simp
  have hsh : ((2 ^ lowB x * 285870213051353865 % 18446744073709551616 : Nat) : Int) / 2 ^ 58 = ((2 ^ lowB x * 285870213051353865 % 18446744073709551616 / 288230376151711744 : Nat) : Int) := by simp
  have hcell : cell H ⟨ι.g 125, 2 ^ lowB x * 285870213051353865 % 18446744073709551616 / 288230376151711744, none⟩ = some (.int .u8 (lowB x : Int)) := by
    rw [hT.cell]
    have hlen : tabL.length = 64 := by decide
    rw [List.getElem?_map, List.getElem?_map, List.getElem?_eq_getElem (by rw [hlen]; exact t2)]
    simp only [Option.map_some]
    rw [List.getD_eq_getElem?_getD, List.getElem?_eq_getElem (by rw [hlen]; exact t2), Option.getD_some] at t1
    rw [t1]
  have hw : IntKind.i64.wrap (lowB x : Int) = (lowB x : Int) := IntWalk.i64_in _ ⟨by omega, by omega⟩
  simp only [go_sem, List.map_cons, List.map_nil, ↓reduceIte, Nat.reduceEqDiff, Nat.reduceAdd, Nat.reduceMul, reduceCtorEq, and_true, true_and, Nat.mul_one, Nat.zero_add, Bool.false_eq_true, decide_true, decide_false, not_false_eq_true, kont_eq, h0, hneg, hand, hmul, tn_ofNat, hsh, tn_cast, hcell, hw]
  repeat' apply And.intro
  all_goals first | trivial | decide | omega | exact_mod_cast t2
/-! ### how long -/
def len8L : List UInt8 := [0, 1, 2, 2, 3, 3, 3, 3] ++ List.replicate 8 4 ++ List.replicate 16 5 ++ List.replicate 32 6 ++ List.replicate 64 7 ++ List.replicate 128 8
def lenT (b : Nat) : Nat := (len8L.getD b 0).toNat
theorem lenT_ok : ∀ b : Fin 256, b.val < 2 ^ lenT b.val ∧ (b.val ≠ 0 → 2 ^ (lenT b.val - 1) ≤ b.val ∧ 1 ≤ lenT b.val) ∧ lenT b.val ≤ 8 := by decide +kernel
/-- how many bits x needs -/
def lenB (n : Nat) : Nat := if n = 0 then 0 else n.log2 + 1
theorem lenB_of {n k : Nat} (h1 : n < 2 ^ k) (h2 : 2 ^ (k - 1) ≤ n) (h3 : 1 ≤ k) : lenB n = k := by
  have hn : n ≠ 0 := by have := Nat.two_pow_pos (k - 1); omega
  unfold lenB
  rw [if_neg hn]
  have : n.log2 = k - 1 := (Nat.log2_eq_iff hn).2 ⟨h2, by rw [show k - 1 + 1 = k by omega]; exact h1⟩
  omega
theorem lenB_tab (b : Nat) (h : b < 256) : lenB b = lenT b := by
  obtain ⟨h1, h2, _⟩ := lenT_ok ⟨b, h⟩
  simp only at h1 h2
  by_cases e : b = 0
  · subst e; decide
  · exact lenB_of h1 (h2 e).1 (h2 e).2
theorem lenB_div (n k : Nat) (h : 2 ^ k ≤ n) : lenB n = k + lenB (n / 2 ^ k) := by
  have hp := Nat.two_pow_pos k
  have hn : n ≠ 0 := by omega
  have hd : n / 2 ^ k ≠ 0 := by have := (Nat.le_div_iff_mul_le hp).2 (by rw [Nat.one_mul]; exact h); omega
  have e1 := Nat.log2_self_le hd
  have e2 := (Nat.log2_lt hd (k := (n / 2 ^ k).log2 + 1)).1 (by omega)
  have : lenB (n / 2 ^ k) = (n / 2 ^ k).log2 + 1 := by unfold lenB; rw [if_neg hd]
  rw [this]
  refine lenB_of ?_ ?_ (by omega)
  · rw [Nat.pow_add]
    have := (Nat.div_lt_iff_lt_mul hp).1 e2
    rw [Nat.mul_comm]; exact this
  · rw [show k + ((n / 2 ^ k).log2 + 1) - 1 = (n / 2 ^ k).log2 + k by omega, Nat.pow_add]
    exact (Nat.le_div_iff_mul_le hp).1 e1
def LenSpec (P : Program) (k : FuncId) : Prop := ∀ (x : UInt64) (H : Hp), CallsM P k #[.int .u64 x.toNat] H fun r H' => r = .int .i64 (lenB x.toNat : Int) ∧ H' = H
theorem len8_tab : (#[0, 1, 2, 2, 3, 3, 3, 3, 4, 4, 4, 4, 4, 4, 4, 4, 5, 5, 5, 5, 5, 5, 5, 5, 5, 5, 5, 5, 5, 5, 5, 5, 6, 6, 6, 6, 6, 6, 6, 6, 6, 6, 6, 6, 6, 6, 6, 6, 6, 6, 6, 6, 6, 6, 6, 6, 6, 6, 6, 6, 6, 6, 6, 6, 7, 7, 7, 7, 7, 7, 7, 7, 7, 7, 7, 7, 7, 7, 7, 7, 7, 7, 7, 7, 7, 7, 7, 7, 7, 7, 7, 7, 7, 7, 7, 7, 7, 7, 7, 7, 7, 7, 7, 7, 7, 7, 7, 7, 7, 7, 7, 7, 7, 7, 7, 7, 7, 7, 7, 7, 7, 7, 7, 7, 7, 7, 7, 7, 8, 8, 8, 8, 8, 8, 8, 8, 8, 8, 8, 8, 8, 8, 8, 8, 8, 8, 8, 8, 8, 8, 8, 8, 8, 8, 8, 8, 8, 8, 8, 8, 8, 8, 8, 8, 8, 8, 8, 8, 8, 8, 8, 8, 8, 8, 8, 8, 8, 8, 8, 8, 8, 8, 8, 8, 8, 8, 8, 8, 8, 8, 8, 8, 8, 8, 8, 8, 8, 8, 8, 8, 8, 8, 8, 8, 8, 8, 8, 8, 8, 8, 8, 8, 8, 8, 8, 8, 8, 8, 8, 8, 8, 8, 8, 8, 8, 8, 8, 8, 8, 8, 8, 8, 8, 8, 8, 8, 8, 8, 8, 8, 8, 8, 8, 8, 8, 8, 8, 8, 8, 8, 8, 8, 8, 8, 8, 8] : Array UInt8) = len8L.toArray := by decide +kernel
theorem len64_ok {P : Program} {ι : Ids} {k : FuncId} (hk : FnIs P k (c_len64 ι) r_len64 1) : LenSpec P k := by
  intro x H
  refine calls_of_vc hk (args := [_]) (by simp) ?_
  unfold c_len64 r_len64
  have hx := x.toNat_lt
  generalize x.toNat = n at *
  have last : ∀ (m a : Nat), m < 256 → a ≤ 56 → lenB n = a + lenB m → ∀ f : Fr, f 0 = .int .u64 (m : Int) → f 2 = .int .i64 (a : Int) →
      vc P (.seq (.reg [.p (.t 19) (.mv (.v 2)), .p (.t 20) (.mv (.v 0)), .p (.t 21) (.ii .u8 (.t 20)), .p (.t 22) (.m (.ixs (.c (.string ⟨len8L.toArray⟩)) (.t 21))), .p (.t 23) (.ii .i64 (.t 22)), .p (.t 24) (.ar .add .i64 (.t 19) (.t 23)), .p (.v 2) (.mv (.t 24))]) .ret)
        (retQ [.t 2] fun r H' => r = .int .i64 (lenB n : Int) ∧ H' = H) f H := by
    intro m a hm ha he f f0 f2
    have hw8 : IntKind.u8.wrap (m : Int) = (m : Int) := by rw [IntKind.wrap_u8]; omega
    have hlen : len8L.length = 256 := by decide
    have hg := ba_get len8L m (by omega)
    obtain ⟨_, _, h8⟩ := lenT_ok ⟨m, hm⟩
    have h8 : lenT m ≤ 8 := h8
    have hT : (len8L.getD m 0).toNat = lenT m := rfl
    have hw1 : IntKind.i64.wrap (lenT m : Int) = (lenT m : Int) := IntWalk.i64_in _ ⟨by omega, by omega⟩
    have hw2 : IntKind.i64.wrap ((a : Int) + (lenT m : Int)) = ((a + lenT m : Nat) : Int) := by rw [← Int.natCast_add]; exact IntWalk.i64_in _ ⟨by omega, by omega⟩
    simp only [go_sem, List.map_cons, List.map_nil, ↓reduceIte, Nat.reduceEqDiff, Nat.reduceAdd, Nat.reduceMul, reduceCtorEq, and_true, true_and, Nat.mul_one, Nat.zero_add, Bool.false_eq_true, decide_true, decide_false, not_false_eq_true, kont_eq, f0, f2, hw8, ba_size, hlen, tn_cast, hg, hT, hw1, hw2]
    rw [he, lenB_tab m hm]
    repeat' apply And.intro
    all_goals first | trivial | decide | omega
  rw [len8_tab]
  generalize hLST : S.seq (.reg [.p (.t 19) (.mv (.v 2)), .p (.t 20) (.mv (.v 0)), .p (.t 21) (.ii .u8 (.t 20)), .p (.t 22) (.m (.ixs (.c (.string ⟨len8L.toArray⟩)) (.t 21))), .p (.t 23) (.ii .i64 (.t 22)), .p (.t 24) (.ar .add .i64 (.t 19) (.t 23)), .p (.v 2) (.mv (.t 24))]) .ret = LST at last ⊢
  -- the third test
  have third : ∀ (m a : Nat), m < 65536 → (a = 0 ∨ a = 16 ∨ a = 32 ∨ a = 48) → lenB n = a + lenB m → ∀ f : Fr, f 0 = .int .u64 (m : Int) → f 2 = .int .i64 (a : Int) →
      vc P (.seq (.seq (.reg [.p (.t 13) (.mv (.v 0)), .p (.v 14) (.cm .geq .u64 (.t 13) (.c (.int .u64 256)))]) (.ite (.v 14) (.seq (.reg [.p (.t 15) (.mv (.v 0)), .p (.t 16) (.sh .shr .u64 (.t 15) (.c (.int .u64 8))), .p (.v 0) (.mv (.t 16))]) (.reg [.p (.t 17) (.mv (.v 2)), .p (.t 18) (.ar .add .i64 (.t 17) (.c (.int .i64 8))), .p (.v 2) (.mv (.t 18))])) .skip)) LST)
        (retQ [.t 2] fun r H' => r = .int .i64 (lenB n : Int) ∧ H' = H) f H := by
    intro m a hm ha he f f0 f2
    have hw : IntKind.i64.wrap ((a : Int) + 8) = ((a + 8 : Nat) : Int) := by rw [show ((a : Int) + 8) = ((a + 8 : Nat) : Int) by simp]; exact IntWalk.i64_in _ ⟨by omega, by omega⟩
    have hd : (m : Int) / 2 ^ 8 = ((m / 2 ^ 8 : Nat) : Int) := by simp
    simp only [go_sem, List.map_cons, List.map_nil, ↓reduceIte, Nat.reduceEqDiff, Nat.reduceAdd, Nat.reduceMul, reduceCtorEq, and_true, true_and, Nat.mul_one, Nat.zero_add, Bool.false_eq_true, decide_true, decide_false, not_false_eq_true, kont_eq, f0, f2, tn_ofNat, hw, hd]
    refine iteV_dec (fun h => ?_) (fun h => ?_)
    · have h : 256 ≤ m := by omega
      exact ⟨by decide, last _ _ (by omega) (by omega) (by rw [he, lenB_div m 8 (by omega)]; omega) _ rfl rfl⟩
    · exact last m a (by omega) (by omega) he _ (by simp only [go_sem, List.map_cons, List.map_nil, ↓reduceIte, Nat.reduceEqDiff, Nat.reduceAdd, Nat.reduceMul, reduceCtorEq, and_true, true_and, Nat.mul_one, Nat.zero_add, Bool.false_eq_true, decide_true, decide_false, not_false_eq_true, kont_eq, f0]) (by simp only [go_sem, List.map_cons, List.map_nil, ↓reduceIte, Nat.reduceEqDiff, Nat.reduceAdd, Nat.reduceMul, reduceCtorEq, and_true, true_and, Nat.mul_one, Nat.zero_add, Bool.false_eq_true, decide_true, decide_false, not_false_eq_true, kont_eq, f2])
  generalize hTRD : S.seq (.seq (.reg [.p (.t 13) (.mv (.v 0)), .p (.v 14) (.cm .geq .u64 (.t 13) (.c (.int .u64 256)))]) (.ite (.v 14) (.seq (.reg [.p (.t 15) (.mv (.v 0)), .p (.t 16) (.sh .shr .u64 (.t 15) (.c (.int .u64 8))), .p (.v 0) (.mv (.t 16))]) (.reg [.p (.t 17) (.mv (.v 2)), .p (.t 18) (.ar .add .i64 (.t 17) (.c (.int .i64 8))), .p (.v 2) (.mv (.t 18))])) .skip)) LST = TRD at third ⊢
  have second : ∀ (m a : Nat), m < 4294967296 → (a = 0 ∨ a = 32) → lenB n = a + lenB m → ∀ f : Fr, f 0 = .int .u64 (m : Int) → f 2 = .int .i64 (a : Int) →
      vc P (.seq (.seq (.reg [.p (.t 7) (.mv (.v 0)), .p (.v 8) (.cm .geq .u64 (.t 7) (.c (.int .u64 65536)))]) (.ite (.v 8) (.seq (.reg [.p (.t 9) (.mv (.v 0)), .p (.t 10) (.sh .shr .u64 (.t 9) (.c (.int .u64 16))), .p (.v 0) (.mv (.t 10))]) (.reg [.p (.t 11) (.mv (.v 2)), .p (.t 12) (.ar .add .i64 (.t 11) (.c (.int .i64 16))), .p (.v 2) (.mv (.t 12))])) .skip)) TRD)
        (retQ [.t 2] fun r H' => r = .int .i64 (lenB n : Int) ∧ H' = H) f H := by
    intro m a hm ha he f f0 f2
    have hw : IntKind.i64.wrap ((a : Int) + 16) = ((a + 16 : Nat) : Int) := by rw [show ((a : Int) + 16) = ((a + 16 : Nat) : Int) by simp]; exact IntWalk.i64_in _ ⟨by omega, by omega⟩
    have hd : (m : Int) / 2 ^ 16 = ((m / 2 ^ 16 : Nat) : Int) := by simp
    simp only [go_sem, List.map_cons, List.map_nil, ↓reduceIte, Nat.reduceEqDiff, Nat.reduceAdd, Nat.reduceMul, reduceCtorEq, and_true, true_and, Nat.mul_one, Nat.zero_add, Bool.false_eq_true, decide_true, decide_false, not_false_eq_true, kont_eq, f0, f2, tn_ofNat, hw, hd]
    refine iteV_dec (fun h => ?_) (fun h => ?_)
    · have h : 65536 ≤ m := by omega
      exact ⟨by decide, third _ _ (by omega) (by omega) (by rw [he, lenB_div m 16 (by omega)]; omega) _ rfl rfl⟩
    · exact third m a (by omega) (by omega) he _ (by simp only [go_sem, List.map_cons, List.map_nil, ↓reduceIte, Nat.reduceEqDiff, Nat.reduceAdd, Nat.reduceMul, reduceCtorEq, and_true, true_and, Nat.mul_one, Nat.zero_add, Bool.false_eq_true, decide_true, decide_false, not_false_eq_true, kont_eq, f0]) (by simp only [go_sem, List.map_cons, List.map_nil, ↓reduceIte, Nat.reduceEqDiff, Nat.reduceAdd, Nat.reduceMul, reduceCtorEq, and_true, true_and, Nat.mul_one, Nat.zero_add, Bool.false_eq_true, decide_true, decide_false, not_false_eq_true, kont_eq, f2])
  have hd : (n : Int) / 2 ^ 32 = ((n / 2 ^ 32 : Nat) : Int) := by simp
  generalize hSND : S.seq (.seq (.reg [.p (.t 7) (.mv (.v 0)), .p (.v 8) (.cm .geq .u64 (.t 7) (.c (.int .u64 65536)))]) (.ite (.v 8) (.seq (.reg [.p (.t 9) (.mv (.v 0)), .p (.t 10) (.sh .shr .u64 (.t 9) (.c (.int .u64 16))), .p (.v 0) (.mv (.t 10))]) (.reg [.p (.t 11) (.mv (.v 2)), .p (.t 12) (.ar .add .i64 (.t 11) (.c (.int .i64 16))), .p (.v 2) (.mv (.t 12))])) .skip)) TRD = SND at second ⊢
  simp only [go_sem, List.map_cons, List.map_nil, ↓reduceIte, Nat.reduceEqDiff, Nat.reduceAdd, Nat.reduceMul, reduceCtorEq, and_true, true_and, Nat.mul_one, Nat.zero_add, Bool.false_eq_true, decide_true, decide_false, not_false_eq_true, kont_eq, tn_ofNat, hd]
  refine iteV_dec (fun h => ?_) (fun h => ?_)
  · have h : 4294967296 ≤ n := by omega
    exact ⟨by decide, second _ _ (by show n / 4294967296 < 4294967296; omega) (by omega) (lenB_div n 32 (by show 4294967296 ≤ n; exact h)) _ rfl rfl⟩
  · exact second n 0 (by omega) (by omega) (by omega) _ (by simp only [go_sem, List.map_cons, List.map_nil, ↓reduceIte, Nat.reduceEqDiff, Nat.reduceAdd, Nat.reduceMul, reduceCtorEq, and_true, true_and, Nat.mul_one, Nat.zero_add, Bool.false_eq_true, decide_true, decide_false, not_false_eq_true, kont_eq]) (by simp only [go_sem, List.map_cons, List.map_nil, ↓reduceIte, Nat.reduceEqDiff, Nat.reduceAdd, Nat.reduceMul, reduceCtorEq, and_true, true_and, Nat.mul_one, Nat.zero_add, Bool.false_eq_true, decide_true, decide_false, not_false_eq_true, kont_eq]; rfl)
end Go.Mg

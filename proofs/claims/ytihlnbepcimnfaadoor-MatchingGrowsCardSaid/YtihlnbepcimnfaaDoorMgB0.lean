/- Sets of small numbers as lists of words: plain. -/
import Derived.Test.YtihlnbepcimnfaaDoorMgMA
namespace Go.Mg
set_option linter.unusedSimpArgs false
set_option linter.unusedVariables false

/-! ### the lowest bit -/
def lowB (x : UInt64) : Nat := ((List.range 64).find? (bt x)).getD 64
theorem lowB_spec {x : UInt64} (h : x ≠ 0) : lowB x < 64 ∧ bt x (lowB x) = true ∧ ∀ k < lowB x, bt x k = false := by
  unfold lowB
  cases e : (List.range 64).find? (bt x) with
  | none =>
    exfalso
    apply h
    rw [List.find?_eq_none] at e
    apply bt_ext
    intro k hk
    rw [bt_zero]
    have := e k (by simpa using hk)
    simpa using this
  | some t =>
    have h1 := List.mem_of_find?_eq_some e
    have h2 := List.find?_some e
    refine ⟨by simpa using h1, h2, fun k hk => ?_⟩
    simp only [Option.getD_some] at hk
    rw [List.find?_range_eq_some] at e
    have := e.2.2 k hk
    simpa using this
theorem lowB_uniq {x : UInt64} {t : Nat} (h1 : bt x t = true) (h2 : ∀ k < t, bt x k = false) : lowB x = t := by
  have hx : x ≠ 0 := fun h => by subst h; rw [bt_zero] at h1; cases h1
  obtain ⟨a, b, c⟩ := lowB_spec hx
  rcases Nat.lt_trichotomy (lowB x) t with h | h | h
  · rw [h2 _ h] at b; cases b
  · exact h
  · rw [c _ h] at h1; cases h1
theorem low_form {n t : Nat} (h1 : n.testBit t = true) (h2 : ∀ k < t, n.testBit k = false) : ∃ m, n = 2 ^ t * (2 * m + 1) := by
  have h3 : n % 2 ^ t = 0 := by
    apply Nat.eq_of_testBit_eq
    intro k
    rw [Nat.testBit_mod_two_pow, Nat.zero_testBit]
    by_cases hk : k < t
    · rw [h2 k hk]; simp
    · simp [hk]
  rw [Nat.testBit_eq_decide_div_mod_eq, decide_eq_true_eq] at h1
  refine ⟨n / 2 ^ t / 2, ?_⟩
  have e1 := Nat.div_add_mod n (2 ^ t)
  have e2 := Nat.div_add_mod (n / 2 ^ t) 2
  rw [h1] at e2
  rw [e2]; omega
theorem tb_pred {n t : Nat} (h1 : n.testBit t = true) (h2 : ∀ k < t, n.testBit k = false) (k : Nat) : (n - 1).testBit k = if k < t then true else if k = t then false else n.testBit k := by
  obtain ⟨m, rfl⟩ := low_form h1 h2
  have hp : 0 < 2 ^ t := Nat.two_pow_pos t
  have e : 2 ^ t * (2 * m + 1) - 1 = 2 ^ t * (2 * m) + (2 ^ t - 1) := by
    rw [Nat.mul_add, Nat.mul_one]; omega
  rw [e, Nat.testBit_two_pow_mul_add _ (by omega), Nat.testBit_two_pow_mul]
  by_cases hk : k < t
  · rw [if_pos hk, if_pos hk, Nat.testBit_two_pow_sub_one]; simpa using hk
  · rw [if_neg hk, if_neg hk]
    by_cases hk2 : k = t
    · subst hk2; rw [if_pos rfl, Nat.sub_self]; simp
    · rw [if_neg hk2]
      have e1 : (k ≥ t) := by omega
      simp only [e1, decide_true, Bool.true_and]
      obtain ⟨d, rfl⟩ : ∃ d, k = t + (d + 1) := ⟨k - t - 1, by omega⟩
      have e2 : t + (d + 1) - t = d + 1 := by omega
      rw [e2, Nat.testBit_succ, Nat.testBit_succ]
      congr 1; omega
def clrB (x : UInt64) : UInt64 := x &&& (x - 1)
theorem sub1_toNat {x : UInt64} (h : x ≠ 0) : (x - 1).toNat = x.toNat - 1 := by
  have h0 : x.toNat ≠ 0 := fun e => h (UInt64.toNat_inj.1 (by simpa using e))
  have := x.toNat_lt
  rw [UInt64.toNat_sub]
  have e : (1 : UInt64).toNat = 1 := rfl
  rw [e]; omega
theorem bt_clr {x : UInt64} (h : x ≠ 0) (k : Nat) : bt (clrB x) k = (bt x k && !decide (k = lowB x)) := by
  obtain ⟨_, b, c⟩ := lowB_spec h
  unfold clrB
  have : bt (x &&& (x - 1)) k = (bt x k && (x.toNat - 1).testBit k) := by
    unfold bt; rw [UInt64.toNat_and, Nat.testBit_and, sub1_toNat h]
  rw [this, tb_pred b c]
  by_cases h1 : k < lowB x
  · rw [if_pos h1, c k h1]; simp
  · rw [if_neg h1]
    by_cases h2 : k = lowB x
    · rw [if_pos h2]; simp [h2]
    · rw [if_neg h2]
      show (bt x k && bt x k) = _
      simp [h2]
theorem neg_and {x : UInt64} (h : x ≠ 0) : x &&& (0 - x) = UInt64.ofNat (2 ^ lowB x) := by
  obtain ⟨a, b, c⟩ := lowB_spec h
  apply bt_ext
  intro k hk
  have h0 : x.toNat ≠ 0 := fun e => h (UInt64.toNat_inj.1 (by simpa using e))
  have hlt := x.toNat_lt
  have e1 : (0 - x).toNat = 2 ^ 64 - ((x.toNat - 1) + 1) := by
    rw [UInt64.toNat_sub]
    have e : (0 : UInt64).toNat = 0 := rfl
    rw [e]; omega
  have e2 : bt (x &&& (0 - x)) k = (bt x k && (2 ^ 64 - ((x.toNat - 1) + 1)).testBit k) := by
    unfold bt; rw [UInt64.toNat_and, Nat.testBit_and, e1]
  rw [e2, Nat.testBit_two_pow_sub_succ (by omega), tb_pred b c]
  have e3 : bt (UInt64.ofNat (2 ^ lowB x)) k = decide (lowB x = k) := by
    unfold bt
    rw [UInt64.toNat_ofNat', Nat.mod_eq_of_lt (Nat.pow_lt_pow_right (by omega) a), Nat.testBit_two_pow]
  rw [e3]
  by_cases h1 : k < lowB x
  · rw [c k h1]
    have : ¬ lowB x = k := by omega
    simp [this]
  · rw [if_neg h1]
    by_cases h2 : k = lowB x
    · subst h2; simp [b, hk]
    · rw [if_neg h2]
      have : ¬ lowB x = k := fun h => h2 h.symm
      simp only [hk, decide_true, Bool.true_and, this, decide_false]
      show (bt x k && !bt x k) = false
      cases bt x k <;> rfl

/-! ### how many bits -/
def cnt64 (x : UInt64) : Nat := cn 64 (bt x)
theorem land_mul_add (a b c d : Nat) (hb : b < 256) (hd : d < 256) : (256 * a + b) &&& (256 * c + d) = 256 * (a &&& c) + (b &&& d) := by
  apply Nat.eq_of_testBit_eq
  intro k
  have e : (256 : Nat) = 2 ^ 8 := rfl
  have hbd : b &&& d < 2 ^ 8 := Nat.lt_of_le_of_lt Nat.and_le_left hb
  rw [Nat.testBit_and, e, Nat.testBit_two_pow_mul_add _ hb, Nat.testBit_two_pow_mul_add _ hd, Nat.testBit_two_pow_mul_add _ hbd]
  split
  · rw [Nat.testBit_and]
  · rw [Nat.testBit_and]
def rpt (c : Nat) : Nat → Nat
  | 0 => 0
  | k + 1 => 256 * rpt c k + c
def p1 (m n : Nat) : Nat := (n / 2 &&& m) + (n &&& m)
def p2 (m n : Nat) : Nat := (n / 4 &&& m) + (n &&& m)
def p3 (m n : Nat) : Nat := (n / 16 + n) &&& m
theorem p1_tab : ∀ b : Fin 256, ((b.val / 2 &&& 0x55) = ((128 + b.val / 2) &&& 0x55)) ∧ p1 0x55 b.val < 256 := by decide +kernel
theorem p2_tab : ∀ b : Fin 256, ∀ c : Fin 4, ((c.val * 64 + b.val / 4) &&& 0x33) = (b.val / 4 &&& 0x33) := by decide +kernel
theorem p2_le : ∀ b : Fin 256, p2 0x33 b.val ≤ 0x66 ∧ p2 0x33 (p1 0x55 b.val) ≤ 0x44 ∧ p2 0x33 (p1 0x55 b.val) % 16 ≤ 4 := by decide +kernel
theorem p3_tab : ∀ y : Fin 69, ∀ c : Fin 5, ((c.val * 16 + y.val / 16 + y.val) &&& 0x0f) = p3 0x0f y.val := by decide +kernel
def pc8 (b : Nat) : Nat := cn 8 fun k => b.testBit k
theorem pc8_ok : ∀ b : Fin 256, p3 0x0f (p2 0x33 (p1 0x55 b.val)) = pc8 b.val ∧ pc8 b.val ≤ 8 := by decide +kernel
theorem p1_step (m n b : Nat) (hb : b < 256) : p1 (256 * m + 0x55) (256 * n + b) = 256 * p1 m n + p1 0x55 b := by
  obtain ⟨h1, _⟩ := p1_tab ⟨b, hb⟩
  have e1 : (256 * n + b) / 2 = 256 * (n / 2) + (n % 2 * 128 + b / 2) := by omega
  unfold p1
  rw [e1, land_mul_add _ _ _ _ (by omega) (by omega), land_mul_add _ _ _ _ hb (by omega)]
  have e2 : (n % 2 * 128 + b / 2) &&& 0x55 = b / 2 &&& 0x55 := by
    have : n % 2 = 0 ∨ n % 2 = 1 := by omega
    rcases this with h | h
    · rw [h]; simp
    · rw [h, Nat.one_mul]; exact h1.symm
  rw [e2]; omega
theorem p2_step (m n b : Nat) (hb : b < 256) : p2 (256 * m + 0x33) (256 * n + b) = 256 * p2 m n + p2 0x33 b := by
  have h1 := p2_tab ⟨b, hb⟩ ⟨n % 4, by omega⟩
  have e1 : (256 * n + b) / 4 = 256 * (n / 4) + (n % 4 * 64 + b / 4) := by omega
  unfold p2
  rw [e1, land_mul_add _ _ _ _ (by omega) (by omega), land_mul_add _ _ _ _ hb (by omega)]
  have h1 : (n % 4 * 64 + b / 4) &&& 0x33 = b / 4 &&& 0x33 := h1
  rw [h1]; omega
theorem p3_step (m n y : Nat) (hy : y ≤ 0x44) (hn : n % 16 ≤ 4) : p3 (256 * m + 0x0f) (256 * n + y) = 256 * p3 m n + p3 0x0f y := by
  have h1 := p3_tab ⟨y, by omega⟩ ⟨n % 16, by omega⟩
  have h1 : ((n % 16 * 16 + y / 16 + y) &&& 0x0f) = p3 0x0f y := h1
  have e1 : (256 * n + y) / 16 + (256 * n + y) = 256 * (n / 16 + n) + (n % 16 * 16 + y / 16 + y) := by omega
  unfold p3 at *
  rw [e1, land_mul_add _ _ _ _ (by omega) (by omega), h1]
def sum8 : Nat → Nat → Nat
  | 0, _ => 0
  | k + 1, n => 256 * sum8 k (n / 256) + pc8 (n % 256)
theorem p123 : ∀ (k n : Nat), n < 256 ^ k → p2 (rpt 0x33 k) (p1 (rpt 0x55 k) n) % 16 ≤ 4 ∧ p3 (rpt 0x0f k) (p2 (rpt 0x33 k) (p1 (rpt 0x55 k) n)) = sum8 k n
  | 0, n, h => by
    have : n = 0 := by simpa using h
    subst this
    decide
  | k + 1, n, h => by
    have hb : n % 256 < 256 := Nat.mod_lt _ (by omega)
    have hk : n / 256 < 256 ^ k := by rw [Nat.pow_succ] at h; omega
    obtain ⟨i1, i2⟩ := p123 k (n / 256) hk
    have e : n = 256 * (n / 256) + n % 256 := by omega
    have s1 := p1_step (rpt 0x55 k) (n / 256) (n % 256) hb
    rw [← e] at s1
    obtain ⟨_, t1⟩ := p1_tab ⟨n % 256, hb⟩
    obtain ⟨_, t2, t3⟩ := p2_le ⟨n % 256, hb⟩
    have s2 := p2_step (rpt 0x33 k) (p1 (rpt 0x55 k) (n / 256)) (p1 0x55 (n % 256)) t1
    rw [← s1] at s2
    have s3 := p3_step (rpt 0x0f k) (p2 (rpt 0x33 k) (p1 (rpt 0x55 k) (n / 256))) (p2 0x33 (p1 0x55 (n % 256))) t2 i1
    rw [← s2] at s3
    refine ⟨?_, ?_⟩
    · show p2 (256 * rpt 0x33 k + 0x33) (p1 (256 * rpt 0x55 k + 0x55) n) % 16 ≤ 4
      rw [s2]
      have t3 : p2 0x33 (p1 0x55 (n % 256)) % 16 ≤ 4 := t3
      omega
    · show p3 (256 * rpt 0x0f k + 0x0f) (p2 (256 * rpt 0x33 k + 0x33) (p1 (256 * rpt 0x55 k + 0x55) n)) = _
      rw [s3, i2, (pc8_ok ⟨n % 256, hb⟩).1]
      rfl
theorem cn_add_n (a b : Nat) (p : Nat → Bool) : cn (a + b) p = cn a p + cn b fun i => p (a + i) := by
  induction b with
  | zero => rfl
  | succ b ih => rw [← Nat.add_assoc, cn_succ, cn_succ, ih]; omega
theorem cn_byte (k n : Nat) : cn (8 * (k + 1)) (fun i => n.testBit i) = pc8 (n % 256) + cn (8 * k) fun i => (n / 256).testBit i := by
  rw [show 8 * (k + 1) = 8 + 8 * k by omega, cn_add_n]
  congr 1
  · refine cn_congr fun i hi => ?_
    rw [show (256 : Nat) = 2 ^ 8 from rfl, Nat.testBit_mod_two_pow]; simp [hi]
  · refine cn_congr fun i hi => ?_
    rw [show (256 : Nat) = 2 ^ 8 from rfl, Nat.testBit_div_two_pow]
    congr 1
    omega
theorem cnt64_bytes (x : UInt64) : ∃ c0 c1 c2 c3 c4 c5 c6 c7 : Nat, sum8 8 x.toNat = c0 + 256 * (c1 + 256 * (c2 + 256 * (c3 + 256 * (c4 + 256 * (c5 + 256 * (c6 + 256 * c7)))))) ∧ cnt64 x = c0 + c1 + c2 + c3 + c4 + c5 + c6 + c7 ∧
    c0 ≤ 8 ∧ c1 ≤ 8 ∧ c2 ≤ 8 ∧ c3 ≤ 8 ∧ c4 ≤ 8 ∧ c5 ≤ 8 ∧ c6 ≤ 8 ∧ c7 ≤ 8 := by
  have hp : ∀ n, pc8 (n % 256) ≤ 8 := fun n => (pc8_ok ⟨n % 256, Nat.mod_lt _ (by omega)⟩).2
  refine ⟨pc8 ((x.toNat) % 256), pc8 ((x.toNat / 256) % 256), pc8 ((x.toNat / 256 / 256) % 256), pc8 ((x.toNat / 256 / 256 / 256) % 256), pc8 ((x.toNat / 256 / 256 / 256 / 256) % 256), pc8 ((x.toNat / 256 / 256 / 256 / 256 / 256) % 256), pc8 ((x.toNat / 256 / 256 / 256 / 256 / 256 / 256) % 256), pc8 ((x.toNat / 256 / 256 / 256 / 256 / 256 / 256 / 256) % 256), ?_, ?_, hp _, hp _, hp _, hp _, hp _, hp _, hp _, hp _⟩
  · simp only [sum8]; omega
  · have e : cnt64 x = cn (8 * (7 + 1)) fun i => x.toNat.testBit i := rfl
    rw [e, cn_byte 7, cn_byte 6, cn_byte 5, cn_byte 4, cn_byte 3, cn_byte 2, cn_byte 1, cn_byte 0]
    simp only [Nat.mul_zero, cn]; omega

/-! ### members -/
def memb (W : List UInt64) (n : Nat) : Bool := bt (W.getD (n / 64) 0) (n % 64)
theorem memb_ge {W : List UInt64} {n : Nat} (h : 64 * W.length ≤ n) : memb W n = false := by
  unfold memb
  rw [List.getD_eq_getElem?_getD, List.getElem?_eq_none (by omega)]
  exact bt_zero _
theorem memb_at (W : List UInt64) (k b : Nat) (hb : b < 64) : memb W (64 * k + b) = bt (W.getD k 0) b := by
  unfold memb
  rw [show (64 * k + b) / 64 = k by omega, show (64 * k + b) % 64 = b by omega]
theorem memb_ext {A B : List UInt64} (hl : A.length = B.length) (h : ∀ n, memb A n = memb B n) : A = B := by
  apply List.ext_getElem hl
  intro i h1 h2
  apply bt_ext
  intro k hk
  have := h (64 * i + k)
  rw [memb_at _ _ _ hk, memb_at _ _ _ hk] at this
  simpa [List.getD_eq_getElem?_getD, h1, h2] using this
def Can (W : List UInt64) : Prop := ∀ h : W ≠ [], W.getLast h ≠ 0
theorem Can.top {W : List UInt64} (h : Can W) (hW : W ≠ []) : ∃ n, memb W n = true ∧ 64 * (W.length - 1) ≤ n ∧ n < 64 * W.length := by
  have hl : 0 < W.length := List.length_pos_iff.2 hW
  obtain ⟨a, b, c⟩ := lowB_spec (h hW)
  refine ⟨64 * (W.length - 1) + lowB (W.getLast hW), ?_, by omega, by omega⟩
  rw [memb_at _ _ _ a, ← b]
  congr 1
  rw [List.getD_eq_getElem?_getD, List.getLast_eq_getElem]
  have : W.length - 1 < W.length := by omega
  simp [this]
theorem Can.ext {A B : List UInt64} (ha : Can A) (hb : Can B) (h : ∀ n, memb A n = memb B n) : A = B := by
  refine memb_ext ?_ h
  rcases Nat.lt_trichotomy A.length B.length with hl | hl | hl
  · obtain ⟨n, h1, h2, h3⟩ := hb.top (List.length_pos_iff.1 (by omega))
    have := h n
    rw [h1, memb_ge (by omega)] at this; cases this
  · exact hl
  · obtain ⟨n, h1, h2, h3⟩ := ha.top (List.length_pos_iff.1 (by omega))
    have := h n
    rw [h1, memb_ge (by omega)] at this; cases this
/-- the members, ascending -/
def mems (p : Nat → Bool) : List Nat := (List.range 4096).filter p
theorem filter_get (p : Nat → Bool) : ∀ (N n : Nat), n < N → p n = true → ((List.range N).filter p)[cn n p]? = some n
  | 0, n, h, _ => by omega
  | N + 1, n, h, hp => by
    rw [List.range_succ, List.filter_append]
    by_cases e : n < N
    · have := filter_get p N n e hp
      have hl := (List.getElem?_eq_some_iff.1 this).1
      rw [List.getElem?_append_left hl]; exact this
    · have : n = N := by omega
      subst this
      rw [List.getElem?_append_right (by rw [filter_lt_cn]; exact Nat.le_refl _), filter_lt_cn]
      simp [hp]
theorem cn_range {p : Nat → Bool} {a b : Nat} (hab : a ≤ b) (h : ∀ i, a ≤ i → i < b → p i = false) : cn b p = cn a p := by
  induction b with
  | zero => have : a = 0 := by omega
            subst this; rfl
  | succ b ih =>
    by_cases e : a = b + 1
    · subst e; rfl
    · rw [cn_succ, h b (by omega) (by omega), ih (by omega) fun i h1 h2 => h i h1 (by omega)]; simp
theorem mem_mems {p : Nat → Bool} {n : Nat} : n ∈ mems p ↔ n < 4096 ∧ p n = true := by simp [mems]
theorem mems_length (p : Nat → Bool) : (mems p).length = cn 4096 p := filter_lt_cn _ _
theorem mems_sorted (p : Nat → Bool) : (mems p).Pairwise (· < ·) := List.pairwise_lt_range.filter _
theorem mems_congr {p q : Nat → Bool} (h : ∀ n < 4096, p n = q n) : mems p = mems q := by
  unfold mems
  refine List.filter_congr fun x hx => h x (by simpa using hx)
end Go.Mg

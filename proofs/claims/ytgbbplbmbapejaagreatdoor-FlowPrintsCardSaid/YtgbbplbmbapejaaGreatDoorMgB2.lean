/- Several texts of ours in one. No conditions. -/
import Derived.Test.YtgbbplbmbapejaaGreatDoorMgMA
import Derived.Test.YtgbbplbmbapejaaGreatDoorMgEl
import Derived.Test.YtgbbplbmbapejaaGreatDoorMgLib
import Derived.Test.YtgbbplbmbapejaaGreatDoorMgKp
open Nat renaming reduceEqDiff → Za, reduceAdd → Zb, reduceMul → Zc
open Int renaming reduceBEq → Zf, reduceBNe → Zg
namespace Go.Mg
set_option linter.all false
def lowB (x : UInt64) : Nat := ((List.range 64).find? (bt x)).getD 64
theorem lowB_spec {x : UInt64} (h : x ≠ 0) : lowB x < 64 /\ bt x (lowB x) = true /\ ∀ k < lowB x, bt x k = false := by
 unfold lowB
 cases e : (List.range 64).find? (bt x) with
 | none =>
  exfalso
  apply h
  rw [List.find?_eq_none] at e
  apply bt_ext
  intro k hk
  rw [bt_zero]
  have := e k (by simpa using hk)
  simpa using this
 | some t =>
  have h1 := List.mem_of_find?_eq_some e
  have h2 := List.find?_some e
  refine ⟨by simpa using h1, h2, fun k hk => ?_⟩
  simp only [Option.getD_some] at hk
  rw [List.find?_range_eq_some] at e
  have := e.2.2 k hk
  simpa using this
theorem low_form {n t : Nat} (h1 : n.testBit t = true) (h2 : ∀ k < t, n.testBit k = false) : ∃ m, n = 2 ^ t * (2 * m + 1) := by
 have h3 : n % 2 ^ t = 0 := by
  apply Nat.eq_of_testBit_eq
  intro k
  rw [Nat.testBit_mod_two_pow, Nat.zero_testBit]
  by_cases hk : k < t
  ·rw [h2 k hk]; simp
  ·simp [hk]
 rw [Nat.testBit_eq_decide_div_mod_eq, decide_eq_true_eq] at h1
 refine ⟨n / 2 ^ t / 2, ?_⟩
 have e1 := Nat.div_add_mod n (2 ^ t)
 have e2 := Nat.div_add_mod (n / 2 ^ t) 2
 rw [h1] at e2
 rw [e2]; omega
theorem tb_pred {n t : Nat} (h1 : n.testBit t = true) (h2 : ∀ k < t, n.testBit k = false) (k : Nat) : (n - 1).testBit k = if k < t then true else if k = t then false else n.testBit k := by
 obtain ⟨m, rfl⟩ := low_form h1 h2
 have hp : 0 < 2 ^ t := Nat.two_pow_pos t
 have e : 2 ^ t * (2 * m + 1) - 1 = 2 ^ t * (2 * m) + (2 ^ t - 1) := by
  rw [Nat.mul_add, Nat.mul_one]; omega
 rw [e, Nat.testBit_two_pow_mul_add _ (by omega), Nat.testBit_two_pow_mul]
 by_cases hk : k < t
 ·rw [if_pos hk, if_pos hk, Nat.testBit_two_pow_sub_one]; simpa using hk
 ·rw [if_neg hk, if_neg hk]
  by_cases hk2 : k = t
  ·subst hk2; rw [if_pos rfl, Nat.sub_self]; simp
  ·rw [if_neg hk2]
   have e1 : (k ≥ t) := by omega
   simp only [e1, decide_true, Bool.true_and]
   obtain ⟨d, rfl⟩ : ∃ d, k = t + (d + 1) := ⟨k - t - 1, by omega⟩
   have e2 : t + (d + 1) - t = d + 1 := by omega
   rw [e2, Nat.testBit_succ, Nat.testBit_succ]
   congr 1; omega
def clrB (x : UInt64) : UInt64 := x &&& (x - 1)
theorem sub1_toNat {x : UInt64} (h : x ≠ 0) : (x - 1).toNat = x.toNat - 1 := by
 have h0 : x.toNat ≠ 0 := fun e => h (UInt64.toNat_inj.1 (by simpa using e))
 have := x.toNat_lt
 rw [UInt64.toNat_sub]
 have e : (1 : UInt64).toNat = 1 := rfl
 rw [e]; omega
theorem bt_clr {x : UInt64} (h : x ≠ 0) (k : Nat) : bt (clrB x) k = (bt x k && !decide (k = lowB x)) := by
 obtain ⟨_, b, c⟩ := lowB_spec h
 unfold clrB
 have : bt (x &&& (x - 1)) k = (bt x k && (x.toNat - 1).testBit k) := by
  unfold bt; rw [UInt64.toNat_and, Nat.testBit_and, sub1_toNat h]
 rw [this, tb_pred b c]
 by_cases h1 : k < lowB x
 ·rw [if_pos h1, c k h1]; simp
 ·rw [if_neg h1]
  by_cases h2 : k = lowB x
  ·rw [if_pos h2]; simp [h2]
  ·rw [if_neg h2]
   show (bt x k && bt x k) = _
   simp [h2]
theorem neg_and {x : UInt64} (h : x ≠ 0) : x &&& (0 - x) = UInt64.ofNat (2 ^ lowB x) := by
 obtain ⟨a, b, c⟩ := lowB_spec h
 apply bt_ext
 intro k hk
 have h0 : x.toNat ≠ 0 := fun e => h (UInt64.toNat_inj.1 (by simpa using e))
 have hlt := x.toNat_lt
 have e1 : (0 - x).toNat = 2 ^ 64 - ((x.toNat - 1) + 1) := by
  rw [UInt64.toNat_sub]
  have e : (0 : UInt64).toNat = 0 := rfl
  rw [e]; omega
 have e2 : bt (x &&& (0 - x)) k = (bt x k && (2 ^ 64 - ((x.toNat - 1) + 1)).testBit k) := by
  unfold bt; rw [UInt64.toNat_and, Nat.testBit_and, e1]
 rw [e2, Nat.testBit_two_pow_sub_succ (by omega), tb_pred b c]
 have e3 : bt (UInt64.ofNat (2 ^ lowB x)) k = decide (lowB x = k) := by
  unfold bt
  rw [UInt64.toNat_ofNat', Nat.mod_eq_of_lt (Nat.pow_lt_pow_right (by omega) a), Nat.testBit_two_pow]
 rw [e3]
 by_cases h1 : k < lowB x
 ·rw [c k h1]
  have : ¬ lowB x = k := by omega
  simp [this]
 ·rw [if_neg h1]
  by_cases h2 : k = lowB x
  ·subst h2; simp [b, hk]
  ·rw [if_neg h2]
   have : ¬ lowB x = k := fun h => h2 h.symm
   simp only [hk, decide_true, Bool.true_and, this, decide_false]
   show (bt x k && !bt x k) = false
   cases bt x k <;> rfl
def p1 (m n : Nat) : Nat := (n / 2 &&& m) + (n &&& m)
def p2 (m n : Nat) : Nat := (n / 4 &&& m) + (n &&& m)
def p3 (m n : Nat) : Nat := (n / 16 + n) &&& m
theorem cn_add_n (a b : Nat) (p : Nat -> Bool) : cn (a + b) p = cn a p + cn b fun i => p (a + i) := by
 induction b with
 | zero => rfl
 | succ b ih => rw [<- Nat.add_assoc, cn_succ, cn_succ, ih]; omega
def memb (W : List UInt64) (n : Nat) : Bool := bt (W.getD (n / 64) 0) (n % 64)
theorem memb_ge {W : List UInt64} {n : Nat} (h : 64 * W.length <= n) : memb W n = false := by
 unfold memb
 rw [List.getD_eq_getElem?_getD, List.getElem?_eq_none (by omega)]
 exact bt_zero _
theorem memb_at (W : List UInt64) (k b : Nat) (hb : b < 64) : memb W (64 * k + b) = bt (W.getD k 0) b := by
 unfold memb
 rw [show (64 * k + b) / 64 = k by omega, show (64 * k + b) % 64 = b by omega]
theorem memb_ext {A B : List UInt64} (hl : A.length = B.length) (h : ∀ n, memb A n = memb B n) : A = B := by
 apply List.ext_getElem hl
 intro i h1 h2
 apply bt_ext
 intro k hk
 have := h (64 * i + k)
 rw [memb_at _ _ _ hk, memb_at _ _ _ hk] at this
 simpa [List.getD_eq_getElem?_getD, h1, h2] using this
def Can (W : List UInt64) : Prop := ∀ h : W ≠ [], W.getLast h ≠ 0
theorem Can.top {W : List UInt64} (h : Can W) (hW : W ≠ []) : ∃ n, memb W n = true /\ 64 * (W.length - 1) <= n /\ n < 64 * W.length := by
 have hl : 0 < W.length := List.length_pos_iff.2 hW
 obtain ⟨a, b, c⟩ := lowB_spec (h hW)
 refine ⟨64 * (W.length - 1) + lowB (W.getLast hW), ?_, by omega, by omega⟩
 rw [memb_at _ _ _ a, <- b]
 congr 1
 rw [List.getD_eq_getElem?_getD, List.getLast_eq_getElem]
 have : W.length - 1 < W.length := by omega
 simp [this]
theorem Can.ext {A B : List UInt64} (ha : Can A) (hb : Can B) (h : ∀ n, memb A n = memb B n) : A = B := by
 refine memb_ext ?_ h
 rcases Nat.lt_trichotomy A.length B.length with hl | hl | hl
 ·obtain ⟨n, h1, h2, h3⟩ := hb.top (List.length_pos_iff.1 (by omega))
  have := h n
  rw [h1, memb_ge (by omega)] at this; cases this
 ·exact hl
 ·obtain ⟨n, h1, h2, h3⟩ := ha.top (List.length_pos_iff.1 (by omega))
  have := h n
  rw [h1, memb_ge (by omega)] at this; cases this
def mems (p : Nat -> Bool) : List Nat := (List.range 4096).filter p
theorem filter_get (p : Nat -> Bool) : ∀ (N n : Nat), n < N -> p n = true -> ((List.range N).filter p)[cn n p]? = some n
 | 0, n, h, _ => by omega
 | N + 1, n, h, hp => by
  rw [List.range_succ, List.filter_append]
  by_cases e : n < N
  ·have := filter_get p N n e hp
   have hl := (List.getElem?_eq_some_iff.1 this).1
   rw [List.getElem?_append_left hl]; exact this
  ·have : n = N := by omega
   subst this
   rw [List.getElem?_append_right (by rw [filter_lt_cn]; exact Nat.le_refl _), filter_lt_cn]
   simp [hp]
theorem cn_range {p : Nat -> Bool} {a b : Nat} (hab : a <= b) (h : ∀ i, a <= i -> i < b -> p i = false) : cn b p = cn a p := by
  induction b with
  | zero => have : a = 0 := by omega
            subst this; rfl
  | succ b ih =>
    by_cases e : a = b + 1
    · subst e; rfl
    · rw [cn_succ, h b (by omega) (by omega), ih (by omega) fun i h1 h2 => h i h1 (by omega)]; simp
theorem mem_mems {p : Nat -> Bool} {n : Nat} : n ∈ mems p ↔ n < 4096 /\ p n = true := by simp [mems]
theorem mems_length (p : Nat -> Bool) : (mems p).length = cn 4096 p := filter_lt_cn _ _
end Go.Mg
namespace Go.Mg
open Go Go.RowKit
set_option linter.all false
set_option maxRecDepth 100000
def c_tz (ι : Ids) : S :=
 .seq (.reg [.p (.v 2) (.mv (.c (.int .i64 0)))]) (.seq (.seq (.reg [.p (.t 3) (.mv (.v 0)), .p (.v 4) (.cm .eql .u64 (.t 3) (.c (.int .u64 0)))]) (.ite (.v 4) (.seq (.reg [.p (.v 2) (.mv (.c (.int
 .i64 64)))]) .ret) .skip)) (.seq (.reg [.p (.t 5) (.mv (.v 0)), .p (.t 6) (.mv (.v 0)), .p (.t 7) (.neg .u64 (.t 6)), .p (.t 8) (.bt .and .u64 (.t 5) (.t 7)), .p (.t 9) (.ar .mul .u64 (.t 8) (.c (.int
 .u64 285870213051353865))), .p (.t 10) (.sh .shr .u64 (.t 9) (.c (.int .u64 58))), .p (.t 11) (.ia 64 1 (.c (.pointer (.some ⟨ι.g 125, 0, .none⟩))) (.t 10)), .p (.t 12) (.ld (.t 11)), .p (.t 13) (.ii
 .i64 (.t 12)), .p (.v 2) (.mv (.t 13))]) .ret))
def r_tz : List RV := [.t 2]
theorem u64_and (a b : Nat) (ha : a < 18446744073709551616) (hb : b < 18446744073709551616) : bits .and .u64 (a : Int) (b : Int) = ((a &&& b : Nat) : Int) := by
 have h := bits_and (UInt64.ofNat a) (UInt64.ofNat b)
 rw [UInt64.toNat_and, UInt64.toNat_ofNat', UInt64.toNat_ofNat', Nat.mod_eq_of_lt ha, Nat.mod_eq_of_lt hb] at h
 exact h
theorem u64_in (n : Nat) (h : n < 18446744073709551616) : IntKind.u64.wrap (n : Int) = (n : Int) := by rw [IntKind.wrap_u64]; omega
theorem and1 (x : UInt64) (k : Nat) : bits .and .u64 ((x.toNat : Int) / 2 ^ k) 1 = if bt x k = true then 1 else 0 := by
 have e : ((x.toNat : Int) / 2 ^ k) = ((x.toNat / 2 ^ k : Nat) : Int) := by simp
 have hlt : x.toNat / 2 ^ k < 18446744073709551616 := Nat.lt_of_le_of_lt (Nat.div_le_self _ _) x.toNat_lt
 rw [e, show (1 : Int) = ((1 : Nat) : Int) from rfl, u64_and _ _ hlt (by omega), Nat.and_one_is_mod]
 unfold bt
 rw [Nat.testBit_eq_decide_div_mod_eq]
 by_cases h : x.toNat / 2 ^ k % 2 = 1
 ·simp [h]
 ·have : x.toNat / 2 ^ k % 2 = 0 := by omega
  simp [this]
def tabL : List Nat := [0, 1, 56, 2, 57, 49, 28, 3, 61, 58, 42, 50, 38, 29, 17, 4, 62, 47, 59, 36, 45, 43, 51, 22, 53, 39, 33, 30, 24, 18, 12, 5, 63, 55, 48, 27, 60, 41, 37, 16, 46, 35, 44, 21, 52, 32, 23, 11, 54, 26, 40, 15, 34, 20, 31, 10, 25, 14, 19, 9, 13, 8, 7, 6]
def TabOk (ι : Ids) (H : Hp) : Prop := Bl H (ι.g 125) ((tabL.map fun n : Nat => (n : Int)).map (Value.int .u8))
theorem TabOk.keep {ι : Ids} {H H' : Hp} (h : TabOk ι H) (hk : Keep (fun _ => False) H H') : TabOk ι H' := hk.bl h (by simp)
theorem tab_at : ∀ t : Fin 64, tabL.getD (2 ^ t.val * 285870213051353865 % 18446744073709551616 / 288230376151711744) 0 = t.val /\ 2 ^ t.val * 285870213051353865 % 18446744073709551616 / 288230376151711744 < 64 := by decide +kernel
def TzSpec (P : Program) (ι : Ids) (k : FuncId) : Prop := ∀ (x : UInt64) (H : Hp), TabOk ι H -> x ≠ 0 -> CallsM P k #[.int .u64 x.toNat] H fun r H' => r = .int .i64 (lowB x : Int) /\ H' = H
theorem tz_ok {P : Program} {ι : Ids} {k : FuncId} (hk : FnIs P k (c_tz ι) r_tz 1) : TzSpec P ι k := by
 intro x H hT hx
 refine calls_of_vc hk (args := [_]) (by simp) ?_
 unfold c_tz r_tz
 obtain ⟨hl, _, _⟩ := lowB_spec hx
 have h0 : ¬ ((x.toNat : Int) == 0) = true := by
  simp only [beq_iff_eq]
  intro e
  exact hx (UInt64.toNat_inj.1 (by simpa using e))
 have h0 : ((x.toNat : Int) == 0) = false := by simpa using h0
 have hneg : IntKind.u64.wrap (-(x.toNat : Int)) = ((0 - x : UInt64).toNat : Int) := by
  have := x.toNat_lt
  have h1 : x.toNat ≠ 0 := fun e => hx (UInt64.toNat_inj.1 (by simpa using e))
  rw [IntKind.wrap_u64, UInt64.toNat_sub]
  have e : (0 : UInt64).toNat = 0 := rfl
  rw [e]; omega
 have hand := bits_and x (0 - x)
 rw [neg_and hx] at hand
 have hp : (UInt64.ofNat (2 ^ lowB x)).toNat = 2 ^ lowB x := by
  rw [UInt64.toNat_ofNat']; exact Nat.mod_eq_of_lt (Nat.pow_lt_pow_right (by omega) hl)
 rw [hp] at hand
 obtain ⟨t1, t2⟩ := tab_at ⟨lowB x, hl⟩
 simp only at t1 t2
 have hmul : IntKind.u64.wrap (((2 ^ lowB x : Nat) : Int) * 285870213051353865) = ((2 ^ lowB x * 285870213051353865 % 18446744073709551616 : Nat) : Int) := by
  rw [IntKind.wrap_u64]; simp
 have hsh : ((2 ^ lowB x * 285870213051353865 % 18446744073709551616 : Nat) : Int) / 2 ^ 58 = ((2 ^ lowB x * 285870213051353865 % 18446744073709551616 / 288230376151711744 : Nat) : Int) := by simp
 have hcell : cell H ⟨ι.g 125, 2 ^ lowB x * 285870213051353865 % 18446744073709551616 / 288230376151711744, none⟩ = some (.int .u8 (lowB x : Int)) := by
  rw [hT.cell]
  have hlen : tabL.length = 64 := by decide
  rw [List.getElem?_map, List.getElem?_map, List.getElem?_eq_getElem (by rw [hlen]; exact t2)]
  simp only [Option.map_some]
  rw [List.getD_eq_getElem?_getD, List.getElem?_eq_getElem (by rw [hlen]; exact t2), Option.getD_some] at t1
  rw [t1]
 have hw : IntKind.i64.wrap (lowB x : Int) = (lowB x : Int) := IntWalk.i64_in _ ⟨by omega, by omega⟩
 simp only [go_sem, zS, ↓reduceIte, Za, Zb, Zc, reduceCtorEq, kont_eq, h0, hneg, hand, hmul, tn_ofNat, hsh, tn_cast, hcell, hw]
 repeat' apply And.intro
 all_goals first | trivial | decide | omega | exact_mod_cast t2
end Go.Mg
namespace Go.Mg
open Go Go.RowKit
set_option linter.all false
set_option maxRecDepth 100000
def c_bword (ι : Ids) : S :=
 .seq (.reg [.e (.v 2) (.box (ι.t 128) (.v 0)), .p (.v 4) (.mv (.c (.int .u64 0)))]) (.seq (.seq (.reg [.p (.t 5) (.mv (.v 1)), .p (.t 6) (.fa 0 (.v 2)), .p (.t 7) (.ld (.t 6)), .p (.t 8) (.m (.lenl
 (.t 7))), .p (.v 9) (.cm .lss .i64 (.t 5) (.t 8))]) (.ite (.v 9) (.seq (.reg [.p (.t 10) (.fa 0 (.v 2)), .p (.t 11) (.ld (.t 10)), .p (.t 12) (.mv (.v 1)), .p (.t 13) (.is 1 (.t 11) (.t 12)), .p (.t
 14) (.ld (.t 13)), .p (.v 4) (.mv (.t 14))]) .ret) .skip)) (.seq (.reg [.p (.v 4) (.mv (.c (.int .u64 0)))]) .ret))
def r_bword : List RV := [.t 4]
def c_bhas (ι : Ids) : S :=
 .seq (.reg [.e (.v 2) (.box (ι.t 128) (.v 0)), .p (.v 4) (.mv (.c (.bool false)))]) (.seq (.reg [.p (.t 5) (.mv (.v 1)), .p (.t 6) (.cm .geq .i64 (.t 5) (.c (.int .i64 0))), .p (.t 7) (.mv (.t 6)),
 .gp (.t 8) (.t 7) true (.mv (.v 1)), .gp (.t 9) (.t 7) true (.cm .leq .i64 (.t 8) (.c (.int .i64 4095))), .p (.t 10) (.pick (.t 7) (.t 9) (.c (.bool false))), .p (.t 11) (.mv (.t 10)), .gp (.t 12) (.t
 11) true (.m (.ldn 1 (.v 2))), .gp (.t 13) (.t 11) true (.mv (.v 1)), .gp (.t 14) (.t 11) true (.dv .quo .i64 (.t 13) (.c (.int .i64 64))), .ge (.t 15) (.t 11) true (.call (ι.f 129) [.t 12, .t 14]),
 .gp (.t 16) (.t 11) true (.mv (.v 1)), .gp (.t 17) (.t 11) true (.dv .rem .i64 (.t 16) (.c (.int .i64 64))), .gp (.t 18) (.t 11) true (.sh .shr .u64 (.t 15) (.t 17)), .gp (.t 19) (.t 11) true (.bt
 .and .u64 (.t 18) (.c (.int .u64 1))), .gp (.t 20) (.t 11) true (.cm .eql .u64 (.t 19) (.c (.int .u64 1))), .p (.t 21) (.pick (.t 11) (.t 20) (.c (.bool false))), .p (.v 4) (.mv (.t 21))]) .ret)
def r_bhas : List RV := [.t 4]
def c_bwith (ι : Ids) : S :=
 .seq (.reg [.e (.v 2) (.box (ι.t 128) (.v 0)), .e (.v 4) (.new (ι.t 128) #[.slice .none 0 0])]) (.seq (.seq (.reg [.p (.t 6) (.mv (.v 1)), .p (.t 7) (.cm .lss .i64 (.t 6) (.c (.int .i64 0))), .p (.t
 8) (.mv (.t 7)), .gp (.t 9) (.t 8) false (.mv (.v 1)), .gp (.t 10) (.t 8) false (.cm .gtr .i64 (.t 9) (.c (.int .i64 4095))), .p (.t 11) (.pick (.t 8) (.c (.bool true)) (.t 10)), .p (.t 12) (.mv (.t
 11)), .gp (.t 13) (.t 12) false (.m (.ldn 1 (.v 2))), .gp (.t 14) (.t 12) false (.mv (.v 1)), .ge (.t 15) (.t 12) false (.call (ι.f 130) [.t 13, .t 14]), .p (.v 16) (.pick (.t 12) (.c (.bool true))
 (.t 15))]) (.ite (.v 16) (.seq (.reg [.p (.t 17) (.m (.ldn 1 (.v 2))), .e .no (.stn 1 (.v 4) (.t 17))]) .ret) .skip)) (.seq (.reg [.p (.t 18) (.fa 0 (.v 2)), .p (.t 19) (.ld (.t 18)), .p (.t 20) (.m
 (.lenl (.t 19))), .p (.t 21) (.mv (.v 1)), .p (.t 22) (.dv .quo .i64 (.t 21) (.c (.int .i64 64))), .p (.t 23) (.ar .add .i64 (.t 22) (.c (.int .i64 1))), .p (.t 24) (.m (.mx (.t 20) (.t 23))), .e (.t
 25) (.mkS (ι.t 28) 1 8 #[.int .u64 0] (.t 24) (.t 24)), .p (.v 5) (.mv (.t 25))]) (.seq (.reg [.p (.t 26) (.mv (.v 5)), .p (.t 27) (.fa 0 (.v 2)), .p (.t 28) (.ld (.t 27)), .e (.t 29) (.cpy false 1
 (.t 26) (.t 28))]) (.seq (.reg [.p (.t 30) (.mv (.v 5)), .p (.t 31) (.mv (.v 1)), .p (.t 32) (.dv .quo .i64 (.t 31) (.c (.int .i64 64))), .p (.t 33) (.is 1 (.t 30) (.t 32)), .p (.t 34) (.ld (.t 33)),
 .p (.t 35) (.mv (.v 1)), .p (.t 36) (.dv .rem .i64 (.t 35) (.c (.int .i64 64))), .p (.t 37) (.sh .shl .u64 (.c (.int .u64 1)) (.t 36)), .p (.t 38) (.bt .or .u64 (.t 34) (.t 37)), .p (.t 39) (.is 1 (.t
 30) (.t 32)), .e .no (.st (.t 39) (.t 38))]) (.seq (.reg [.p (.t 40) (.mv (.v 5)), .p (.t 41) (.m (.bld #[.slice .none 0 0] [(0, (1, .t 40))])), .e .no (.stn 1 (.v 4) (.t 41))]) .ret)))))
def r_bwith : List RV := [.cn 4 1]
def c_bor (ι : Ids) : S :=
 .seq (.reg [.e (.v 2) (.box (ι.t 128) (.v 0)), .e (.v 3) (.box (ι.t 128) (.v 1)), .e (.v 4) (.new (ι.t 128) #[.slice .none 0 0])]) (.seq (.reg [.p (.t 7) (.fa 0 (.v 2)), .p (.t 8) (.ld (.t 7)), .p (.t
 9) (.m (.lenl (.t 8))), .p (.t 10) (.fa 0 (.v 3)), .p (.t 11) (.ld (.t 10)), .p (.t 12) (.m (.lenl (.t 11))), .p (.t 13) (.m (.mx (.t 9) (.t 12))), .e (.t 14) (.mkS (ι.t 28) 1 8 #[.int .u64 0] (.t 13)
 (.t 13)), .p (.v 5) (.mv (.t 14))]) (.seq (.seq (.reg [.p (.t 15) (.mv (.v 5)), .p (.v 16) (.m (.lenl (.t 15))), .p (.v 17) (.mv (.c (.int .i64 0)))]) (.blk 0 (.loop (.seq (.reg [.p (.v 18) (.cm .lss
 .i64 (.v 17) (.v 16))]) (.seq (.ite (.v 18) .skip (.exit 0)) (.seq (.blk 1 (.seq (.reg [.p (.t 19) (.mv (.v 17)), .p (.v 6) (.mv (.t 19))]) (.dr (.px (.t 20) .none (.mv (.v 5)) (.px (.t 21) .none (.mv
 (.v 6)) (.px (.t 22) .none (.m (.ldn 1 (.v 2))) (.px (.t 23) .none (.mv (.v 6)) (.px (.t 25) .none (.m (.ldn 1 (.v 3))) (.px (.t 26) .none (.mv (.v 6)) (.wcons (.t 24) .none (.call (ι.f 129) [.t 22,
 .t 23]) (.wcons (.t 27) .none (.call (ι.f 129) [.t 25, .t 26]) (.px (.t 28) .none (.bt .or .u64 (.t 24) (.t 27)) (.px (.t 29) .none (.is 1 (.t 20) (.t 21)) (.wcons .no .none (.st (.t 29) (.t 28))
 .done .wnil))) .wnil) .wnil)))))))))) (.reg [.p (.t 30) (.ar .add .i64 (.v 17) (.c (.int .i64 1))), .p (.v 17) (.mv (.t 30))]))))))) (.seq (.reg [.p (.t 31) (.mv (.v 5)), .p (.t 32) (.m (.bld #[.slice
 .none 0 0] [(0, (1, .t 31))])), .e .no (.stn 1 (.v 4) (.t 32))]) .ret)))
def r_bor : List RV := [.cn 4 1]
def c_bempty (ι : Ids) : S :=
 .seq (.reg [.e (.v 1) (.box (ι.t 128) (.v 0)), .p (.v 2) (.mv (.c (.bool false)))]) (.seq (.reg [.p (.t 3) (.fa 0 (.v 1)), .p (.t 4) (.ld (.t 3)), .p (.t 5) (.m (.lenl (.t 4))), .p (.t 6) (.cm .eql
 .i64 (.t 5) (.c (.int .i64 0))), .p (.v 2) (.mv (.t 6))]) .ret)
def r_bempty : List RV := [.t 2]
theorem w64_a1 (l : List UInt64) : all1 (w64 l).toArray := by
 intro x hx
 simp [w64] at hx
 obtain ⟨y, _, rfl⟩ := hx; rfl
theorem w64_rep (n : Nat) : List.replicate n (Value.int .u64 0) = w64 (List.replicate n 0) := by simp [w64]
theorem w64_app (a b : List UInt64) : w64 (a ++ b) = w64 a ++ w64 b := by simp [w64]
theorem w64_take (a : List UInt64) (n : Nat) : (w64 a).take n = w64 (a.take n) := by simp [w64]
theorem w64_drop (a : List UInt64) (n : Nat) : (w64 a).drop n = w64 (a.drop n) := by simp [w64]
structure SetV (H : Hp) (v : Value) (W : List UInt64) (p : Nat -> Bool) : Prop where
 sl : SlR H v (w64 W)
 len : W.length <= 64
 can : Can W
 is : ∀ n, memb W n = p n
theorem SetV.keep {X : Nat -> Prop} {H H' : Hp} {v : Value} {W : List UInt64} {p : Nat -> Bool} (h : SetV H v W p) (hk : Keep X H H') (hw : ∀ k, slB v k -> ¬ X k) : SetV H' v W p := ⟨h.sl.keep hk hw, h.len, h.can, h.is⟩
theorem SetV.lt {H : Hp} {v : Value} {W : List UInt64} {p : Nat -> Bool} (h : SetV H v W p) {n : Nat} (hp : p n = true) : n < 64 * W.length := by
 apply Decidable.byContradiction
 intro hn
 rw [<- h.is, memb_ge (by omega)] at hp; cases hp
theorem SetV.lt' {H : Hp} {v : Value} {W : List UInt64} {p : Nat -> Bool} (h : SetV H v W p) {n : Nat} (hp : p n = true) : n < 4096 := by
 have := h.lt hp; have := h.len; omega
def SetM (H : Hp) (x : Value) (p : Nat -> Bool) : Prop := ∃ v W, x = .agg #[v] /\ SetV H v W p
def setB : Value -> Nat -> Prop
 | .agg cs, k => slB (cs.getD 0 undef) k
 | _, _ => False
theorem SetM.keep {X : Nat -> Prop} {H H' : Hp} {x : Value} {p : Nat -> Bool} (h : SetM H x p) (hk : Keep X H H') (hw : ∀ k, setB x k -> ¬ X k) : SetM H' x p := by
 obtain ⟨v, W, rfl, hv⟩ := h; exact ⟨v, W, rfl, hv.keep hk hw⟩
theorem SetM.keep0 {H H' : Hp} {x : Value} {p : Nat -> Bool} (h : SetM H x p) (hk : Keep (fun _ => False) H H') : SetM H' x p := h.keep hk (fun _ _ h => h)
theorem SetM.old {H : Hp} {x : Value} {p : Nat -> Bool} (h : SetM H x p) {k : Nat} (hk : setB x k) : k < H.size := by
 obtain ⟨v, W, rfl, hv⟩ := h; exact hv.sl.old hk
theorem SetM.lt {H : Hp} {x : Value} {p : Nat -> Bool} (h : SetM H x p) {n : Nat} (hp : p n = true) : n < 4096 := by
 obtain ⟨v, W, rfl, hv⟩ := h; exact hv.lt' hp
theorem SetM.congr {H : Hp} {x : Value} {p q : Nat -> Bool} (h : SetM H x p) (e : ∀ n, p n = q n) : SetM H x q := by
 obtain ⟨v, W, rfl, hv⟩ := h; exact ⟨v, W, rfl, hv.sl, hv.len, hv.can, fun n => (hv.is n).trans (e n)⟩
theorem SetM.empty (H : Hp) (a : Option Addr) (c : Nat) : SetM H (.agg #[.slice a 0 c]) (fun _ => false) :=
 ⟨_, [], rfl, SlR.nil _ _ _, by simp, fun h => absurd rfl h, fun n => memb_ge (by simp)⟩
theorem fillV_nil (r : A -> Value) (C : Array Value) : fillV r C [] = C := rfl
theorem fillV_cons (r : A -> Value) (C : Array Value) (off size : Nat) (a : A) (l : List (Nat × Nat × A)) : fillV r C ((off, size, a) :: l) = fillV r (wrA C off (r a).cells.toList) l := rfl
theorem okFill_nil (r : A -> Value) (n : Nat) : okFill r n [] = True := rfl
theorem okFill_cons (r : A -> Value) (n off size : Nat) (a : A) (l : List (Nat × Nat × A)) : okFill r n ((off, size, a) :: l) = ((r a).cells.size = size /\ off + size <= n /\ okFill r n l) := rfl
theorem cells_slice (a : Option Addr) (l c : Nat) : (Value.slice a l c).cells = #[.slice a l c] := rfl
theorem cells_int (k : IntKind) (n : Int) : (Value.int k n).cells = #[.int k n] := rfl
theorem cells_bool (b : Bool) : (Value.bool b).cells = #[.bool b] := rfl
theorem cells_str (b : ByteArray) : (Value.string b).cells = #[.string b] := rfl
theorem cells_ptr (b : Option Addr) : (Value.pointer b).cells = #[.pointer b] := rfl
theorem wrA1 (z x : Value) : wrA #[z] 0 [x] = #[x] := rfl
theorem wrA20 (z y x : Value) : wrA #[z, y] 0 [x] = #[x, y] := rfl
theorem wrA21 (z y x : Value) : wrA #[z, y] 1 [x] = #[z, x] := rfl
theorem zF : (∀ (r : A -> Value) (C : Array Value), fillV r C [] = C) /\ (∀ (r : A -> Value) (C : Array Value) (off size : Nat) (a : A) (l : List (Nat × Nat × A)), fillV r C ((off, size, a) :: l) = fillV r (wrA C off (r a).cells.toList) l) /\ (∀ (r : A -> Value) (n : Nat), okFill r n [] = True) ∧
  (∀ (r : A -> Value) (n off size : Nat) (a : A) (l : List (Nat × Nat × A)), okFill r n ((off, size, a) :: l) = ((r a).cells.size = size /\ off + size <= n /\ okFill r n l)) /\ (∀ (a : Option Addr) (l c : Nat), (Value.slice a l c).cells = #[.slice a l c]) /\ (∀ (k : IntKind) (n : Int), (Value.int k n).cells = #[.int k n]) ∧
  (∀ b : Bool, (Value.bool b).cells = #[.bool b]) /\ (∀ b : ByteArray, (Value.string b).cells = #[.string b]) /\ (∀ b : Option Addr, (Value.pointer b).cells = #[.pointer b]) /\ (∀ C : Array Value, (Value.agg C).cells = C) /\ (∀ (H : Hp) (a : Addr) (xs : List Value), stNH H (.pointer (some a)) xs = stNA H a xs) ∧
  (∀ (H : Hp) (a : Addr) (n : Nat), okN H (.pointer (some a)) n = okNA H a n) /\ (∀ z x : Value, wrA #[z] 0 [x] = #[x]) /\ (∀ z y x : Value, wrA #[z, y] 0 [x] = #[x, y]) /\ (∀ z y x : Value, wrA #[z, y] 1 [x] = #[z, x]) :=
 ⟨fillV_nil, fillV_cons, okFill_nil, okFill_cons, cells_slice, cells_int, cells_bool, cells_str, cells_ptr, cells_agg, stNH_ptr, okN_ptr, wrA1, wrA20, wrA21⟩
def WordSpec (P : Program) (k : FuncId) : Prop := ∀ (W : List UInt64) (v : Value) (i : Nat) (H : Hp), SlR H v (w64 W) -> W.length <= 64 -> i < 1000 -> CallsM P k #[.agg #[v], .int .i64 i] H fun r H' => r = .int .u64 (W.getD i 0).toNat /\ Keep (fun _ => False) H H'
theorem bword_ok {P : Program} {ι : Ids} {k : FuncId} (hk : FnIs P k (c_bword ι) r_bword 2) : WordSpec P k := by
 intro W v i H hv hW hi
 refine calls_of_vc hk (args := [_, _]) (by simp) ?_
 unfold c_bword r_bword
 simp only [go_sem, zS, ↓reduceIte, Za, Zb, Zc, reduceCtorEq, cells_agg]
 refine kont_new fun H1 b1 e1 z1 B1 K1 => ?_
 have hv1 := hv.keep K1 (by simp)
 have hl := hv1.len
 simp only [go_sem, zS, ↓reduceIte, Za, Zb, Zc, reduceCtorEq, kont_eq, B1.cell, hv1.isSl, hl, w64_len]
 refine iteV_dec (fun hlt => ?_) (fun hge => ?_)
 ·have hlt : i < W.length := by omega
  obtain ⟨b, o, c, rfl, -, hc⟩ := hv1.cells (by intro e; have h := congrArg List.length e; rw [w64_len, List.length_nil] at h; omega)
  rw [w64_len] at hc
  have hci := hc i hlt
  rw [w64_get _ _ hlt] at hci
  simp only [go_sem, zS, ↓reduceIte, Za, Zb, Zc, reduceCtorEq, kont_eq, B1.cell, w64_len, hci, tn_cast]
  repeat' apply And.intro
  all_goals first | exact K1 | trivial | omega
 ·have : W.getD i 0 = 0 := by rw [List.getD_eq_getElem?_getD, List.getElem?_eq_none (by omega)]; rfl
  simp only [go_sem, zS, ↓reduceIte, Za, Zb, Zc, reduceCtorEq, kont_eq, this]
  exact ⟨rfl, K1⟩
theorem tdiv64 (n : Nat) (h : n < 4096) : IntKind.i64.wrap (Int.tdiv (n : Int) 64) = ((n / 64 : Nat) : Int) := by
 have : Int.tdiv (n : Int) 64 = ((n / 64 : Nat) : Int) := rfl
 rw [this]; exact IntWalk.i64_in _ ⟨by omega, by omega⟩
theorem tmod64 (n : Nat) : Int.tmod (n : Int) 64 = ((n % 64 : Nat) : Int) := rfl
def memI (p : Nat -> Bool) (i : Int) : Bool := decide (0 <= i) && decide (i <= 4095) && p i.toNat
def HasSpec (P : Program) (k : FuncId) : Prop := ∀ (p : Nat -> Bool) (x : Value) (i : Int) (H : Hp), SetM H x p -> CallsM P k #[x, .int .i64 i] H fun r H' => r = .bool (memI p i) /\ Keep (fun _ => False) H H'
theorem bhas_ok {P : Program} {ι : Ids} {k : FuncId} (hk : FnIs P k (c_bhas ι) r_bhas 2) (hw : WordSpec P (ι.f 129)) : HasSpec P k := by
 intro p x i H hx
 obtain ⟨v, W, rfl, hv⟩ := hx
 refine calls_of_vc hk (args := [_, _]) (by simp) ?_
 unfold c_bhas r_bhas
 simp only [go_sem, zS, ↓reduceIte, Za, Zb, Zc, reduceCtorEq, cells_agg]
 refine kont_new fun H1 b1 e1 z1 B1 K1 => ?_
 have hv1 := hv.keep K1 (by simp)
 by_cases h0 : (0 : Int) <= i <;> by_cases h1 : i <= 4095
 ·obtain ⟨n, rfl⟩ := Int.eq_ofNat_of_zero_le h0
  have hn : n < 4096 := by omega
  have h1' : ((n : Int) <= 4095) := h1
  simp only [go_sem, zS, ↓reduceIte, Za, Zb, Zc, reduceCtorEq, kont_eq, ge_iff_le, h0, h1', B1.ldNO 1 rfl, tdiv64 n hn]
  refine And.intro (by decide) ?_
  refine (hw W v (n / 64) H1 hv1.sl hv1.len (by omega)).mono ?_
  rintro r H2 ⟨rfl, K2⟩
  have e := and1 (W.getD (n / 64) 0) (n % 64)
  have e2 : bt (W.getD (n / 64) 0) (n % 64) = p n := hv.is n
  simp only [go_sem, zS, ↓reduceIte, Za, Zb, Zc, reduceCtorEq, kont_eq, tmod64, tn_cast, e, e2, memI, h0, h1']
  have hm : (0 : Int) <= ((n % 64 : Nat) : Int) /\ ((n % 64 : Nat) : Int) <= 64 := by omega
  cases p n <;> simp only [go_sem, zS, ↓reduceIte, Za, Zb, Zc, reduceCtorEq, kont_eq, zU, Zf, Zg, if_true, if_false, Int.toNat_natCast] <;> (repeat' apply And.intro) <;> first | exact K1.trans K2 | exact hm.1 | (rfl) | omega | trivial
 all_goals
  simp only [go_sem, zS, ↓reduceIte, Za, Zb, Zc, reduceCtorEq, kont_eq, ge_iff_le, h0, h1, memI, Bool.false_and, Bool.and_false]
  exact K1
theorem Can.of_top {W : List UInt64} (h : W ≠ [] -> ∃ n, memb W n = true /\ 64 * (W.length - 1) <= n) : Can W := by
 intro hW h0
 obtain ⟨n, h1, h2⟩ := h hW
 have hl : 0 < W.length := List.length_pos_iff.2 hW
 have hlt : n < 64 * W.length := by
  apply Decidable.byContradiction
  intro hn
  rw [memb_ge (by omega)] at h1; cases h1
 unfold memb at h1
 have e : n / 64 = W.length - 1 := by omega
 rw [e, List.getD_eq_getElem?_getD] at h1
 rw [List.getLast_eq_getElem] at h0
 have : W.length - 1 < W.length := by omega
 simp [this, h0, bt_zero] at h1
theorem memb_set (W : List UInt64) {k : Nat} (x : UInt64) (hk : k < W.length) (n : Nat) : memb (W.set k x) n = if n / 64 = k then bt x (n % 64) else memb W n := by
 unfold memb
 rw [List.getD_eq_getElem?_getD, List.getElem?_set]
 by_cases e : n / 64 = k
 ·subst e; simp [hk]
 ·have : ¬ k = n / 64 := fun h => e h.symm
  rw [if_neg this, if_neg e, <- List.getD_eq_getElem?_getD]
theorem memb_pad (W : List UInt64) (m n : Nat) : memb (W ++ List.replicate m 0) n = memb W n := by
 unfold memb
 rw [List.getD_eq_getElem?_getD, List.getD_eq_getElem?_getD]
 by_cases h : n / 64 < W.length
 ·rw [List.getElem?_append_left h]
 ·rw [List.getElem?_append_right (by omega), List.getElem?_eq_none (l := W) (by omega), List.getElem?_replicate]
  split <;> rfl
theorem shl1 (k : Nat) (hk : k < 64) : IntKind.u64.wrap (1 * 2 ^ k) = ((UInt64.ofNat (2 ^ k)).toNat : Int) := by
 have hp : 2 ^ k < 18446744073709551616 := Nat.pow_lt_pow_right (by omega) hk
 rw [UInt64.toNat_ofNat', Nat.mod_eq_of_lt hp, Int.one_mul]
 have : ((2 : Int) ^ k) = ((2 ^ k : Nat) : Int) := by simp
 rw [this]; exact u64_in _ hp
theorem or_orB (x : UInt64) (k : Nat) (hk : k < 64) : bits .or .u64 (x.toNat : Int) (IntKind.u64.wrap (1 * 2 ^ k)) = ((orB x k).toNat : Int) := by
 rw [shl1 k hk]; exact bits_or _ _
def withW (W : List UInt64) (n : Nat) : List UInt64 := (W ++ List.replicate (max W.length (n / 64 + 1) - W.length) 0).set (n / 64) (orB (W.getD (n / 64) 0) (n % 64))
theorem withW_len (W : List UInt64) (n : Nat) : (withW W n).length = max W.length (n / 64 + 1) := by
 unfold withW; rw [List.length_set, List.length_append, List.length_replicate]; omega
theorem withW_mem (W : List UInt64) (n m : Nat) : memb (withW W n) m = (memb W m || decide (m = n)) := by
 unfold withW
 rw [memb_set _ _ (by rw [List.length_append, List.length_replicate]; omega), memb_pad]
 by_cases e : m / 64 = n / 64
 ·rw [if_pos e, bt_orB _ (by omega)]
  have e1 : memb W m = bt (W.getD (n / 64) 0) (m % 64) := by unfold memb; rw [e]
  rw [e1]
  congr 1
  by_cases h : m % 64 = n % 64
  ·have : m = n := by omega
   simp [h, this]
  ·have : m ≠ n := fun h' => h (by rw [h'])
   simp [h, this]
 ·rw [if_neg e]
  have : m ≠ n := fun h => e (by rw [h])
  simp [this]
theorem withW_can {W : List UInt64} (h : Can W) (n : Nat) : Can (withW W n) := by
 refine Can.of_top fun _ => ?_
 rw [withW_len]
 by_cases hl : W.length <= n / 64
 ·exact ⟨n, by rw [withW_mem]; simp, by omega⟩
 ·obtain ⟨m, h1, h2, _⟩ := h.top (by intro e; subst e; simp at hl)
  exact ⟨m, by rw [withW_mem, h1]; rfl, by omega⟩
def withP (p : Nat -> Bool) (i : Int) (n : Nat) : Bool := p n || (decide ((n : Int) = i) && decide (n < 4096))
def BWithSpec (P : Program) (k : FuncId) : Prop := ∀ (p : Nat -> Bool) (x : Value) (i : Int) (H : Hp), SetM H x p -> CallsM P k #[x, .int .i64 i] H fun r H' => SetM H' r (withP p i) /\ Keep (fun _ => False) H H' /\ ∀ k, setB r k -> setB x k \/ H.size <= k
theorem SlR.one {H : Hp} {v : Value} {l : List Value} (h : SlR H v l) : all1 #[v] := by
 intro y hy
 simp at hy; subst hy
 obtain ⟨a, c, rfl, _⟩ := h.mk; rfl
theorem ret1 {H : Hp} {b : Nat} {u v : Value} {R : Value -> Hp -> Prop} (B : Bl H b [u]) (hs : all1 #[v]) (h : ∀ H', H'.size = H.size -> Keep (fun k => k = b) H H' -> R (.agg #[v]) H') :
  (okNA H ⟨b, 0, none⟩ 1 /\ all1 #[v]) /\ (ldNO (stNA H ⟨b, 0, none⟩ [v]) (.pointer (some ⟨b, 0, none⟩)) 1).isSome = true /\ R (.agg ((ldNO (stNA H ⟨b, 0, none⟩ [v]) (.pointer (some ⟨b, 0, none⟩)) 1).getD #[])) (stNA H ⟨b, 0, none⟩ [v]) := by
 have hB : Bl (stNA H ⟨b, 0, none⟩ [v]) b [v] := by
  have := B.stNA 0 [v]
  simpa [wrL] using this
 refine ⟨⟨B.okNA (o := 0) (n := 1) (by simp), hs⟩, ?_⟩
 rw [hB.ldNO 1 rfl]
 exact ⟨rfl, h _ (size_stNA _ _ _) ((Keep.refl _ _).stNA _ (.inl rfl))⟩
theorem Keep.to_old {A B C : Hp} {b : Nat} (h : Keep (fun _ => False) A B) (k : Keep (fun k => k = b) B C) (hb : A.size <= b) : Keep (fun _ => False) A C := h.trans' k (fun i hi e => by omega)
theorem bwith_ok {P : Program} {ι : Ids} {k : FuncId} (hk : FnIs P k (c_bwith ι) r_bwith 2) (hh : HasSpec P (ι.f 130)) : BWithSpec P k := by
 intro p x i H hx
 obtain ⟨v, W, rfl, hv⟩ := hx
 obtain ⟨av, cv, rfl, hcv⟩ := hv.sl.mk
 rw [w64_len] at hv hcv ⊢
 obtain ⟨R, hR⟩ : ∃ R : Value -> Hp -> Prop, R = fun r H' => SetM H' r (withP p i) /\ Keep (fun _ => False) H H' /\ ∀ k, setB r k -> setB (.agg #[.slice av W.length cv]) k \/ H.size <= k := ⟨_, rfl⟩
 rw [<- hR]
 refine calls_of_vc hk (args := [_, _]) (by simp) ?_
 unfold c_bwith r_bwith
 simp only [go_sem, zS, ↓reduceIte, Za, Zb, Zc, reduceCtorEq, cells_agg]
 refine kont_new fun H1 b1 e1 z1 B1 K1 => ?_
 simp only [go_sem, zS, ↓reduceIte, Za, Zb, Zc, reduceCtorEq]
 refine kont_new fun H2 b2 e2 z2 B2 K2 => ?_
 have B1' := K2.bl B1 (by simp)
 have K12 := K1.trans K2
 have hv2 := hv.keep K12 (by simp)
 have hne : b1 ≠ b2 := by omega
 have s1 := K1.size
 have s2 := K2.size
 -- the set as it was
 have same : ∀ H3, Keep (fun _ => False) H2 H3 -> (∀ n, withP p i n = p n) -> ∀ H4, Keep (fun k => k = b2) H3 H4 -> R (.agg #[.slice av W.length cv]) H4 := by
  intro H3 K3 hp H4 K4
  have K := (K12.trans K3).to_old K4 (by omega)
  rw [hR]
  exact ⟨⟨_, W, rfl, hv.sl.keep K (by simp), hv.len, hv.can, fun n => by rw [hp, hv.is]⟩, K, fun k h => .inl h⟩
 have hp0 : (i < 0 \/ 4095 < i) -> ∀ n, withP p i n = p n := by
  intro h n
  unfold withP
  have : (decide ((n : Int) = i) && decide (n < 4096)) = false := by
   by_cases e : (n : Int) = i
   ·have : ¬ n < 4096 := by omega
    simp [this]
   ·simp [e]
  rw [this, Bool.or_false]
 by_cases h0 : i < 0
 ·simp only [go_sem, zS, ↓reduceIte, Za, Zb, Zc, reduceCtorEq, kont_eq, h0, B1'.ldNO 1 rfl, cells_agg, stNH_ptr, okN_ptr]
  exact ret1 B2 hv.sl.one fun H4 z K4 => same H2 (Keep.refl _ _) (hp0 (.inl h0)) H4 K4
 ·by_cases h1 : (4095 : Int) < i
  ·simp only [go_sem, zS, ↓reduceIte, Za, Zb, Zc, reduceCtorEq, kont_eq, h0, h1, gt_iff_lt, B1'.ldNO 1 rfl, cells_agg, stNH_ptr, okN_ptr]
   exact ret1 B2 hv.sl.one fun H4 z K4 => same H2 (Keep.refl _ _) (hp0 (.inr h1)) H4 K4
  ·obtain ⟨n, rfl⟩ := Int.eq_ofNat_of_zero_le (Int.not_lt.1 h0)
   have hn : n < 4096 := by omega
   simp only [go_sem, zS, ↓reduceIte, Za, Zb, Zc, reduceCtorEq, kont_eq, h0, h1, gt_iff_lt, B1'.ldNO 1 rfl, cells_agg]
   refine (hh p _ _ H2 ⟨_, W, rfl, hv2⟩).mono ?_
   rintro r H3 ⟨rfl, K3⟩
   have hm : memI p (n : Int) = p n := by
    unfold memI
    have a1 : (0 : Int) <= (n : Int) := by omega
    have a2 : (n : Int) <= 4095 := by omega
    simp [a1, a2]
   simp only [hm]
   have B13 := K3.bl B1' (by simp)
   have B23 := K3.bl B2 (by simp)
   cases hpn : p n with
   | true =>
    have hpw : ∀ m, withP p (n : Int) m = p m := by
     intro m
     unfold withP
     by_cases e : m = n
     ·subst e; rw [hpn]; rfl
     ·have : ¬ (m : Int) = (n : Int) := by omega
      simp [this]
    simp only [go_sem, zS, ↓reduceIte, Za, Zb, Zc, reduceCtorEq, kont_eq, B13.ldNO 1 rfl, cells_agg, stNH_ptr, okN_ptr]
    exact ret1 B23 hv.sl.one fun H4 z K4 => same H3 K3 hpw H4 K4
   | false =>
    have K13 := K12.trans K3
    have hv3 := hv.keep K13 (by simp)
    have hl := hv3.sl.len
    have hq : n / 64 < 64 := by omega
    have hlW := hv.len
    have wq : IntKind.i64.wrap (((n / 64 : Nat) : Int) + 1) = ((n / 64 + 1 : Nat) : Int) := IntWalk.i64_in _ ⟨by omega, by omega⟩
    have hmx : (if ((n / 64 + 1 : Nat) : Int) > ((W.length : Nat) : Int) then ((n / 64 + 1 : Nat) : Int) else ((W.length : Nat) : Int)) = ((max W.length (n / 64 + 1) : Nat) : Int) := by split <;> omega
    rw [kont_eq]
    simp only [go_sem, zS, ↓reduceIte, Za, Zb, Zc, reduceCtorEq, B13.cell, hv3.sl.isSl, hl, w64_len, tdiv64 n hn, wq, hmx, tn_cast]
    generalize hM : max W.length (n / 64 + 1) = M at *
    have hM64 : M <= 64 := by omega
    refine And.intro (by decide) ⟨⟨by omega, by omega, by unfold maxLen; omega⟩, ?_⟩
    refine kont_news fun H4 b4 e4 z4 B4 K4 => ?_
    have B4 : Bl H4 b4 (w64 (List.replicate M 0)) := by
     have := B4
     rw [rep_one] at this
     rw [w64_rep] at this; exact this
    have s3 := K3.size
    have s4 := K4.size
    have B14 := K4.bl B13 (by simp)
    have K14 := K13.trans K4
    have hv4 := hv.keep K14 (by simp)
    have hsrc := hv4.sl.srcN (k := W.length) (by rw [w64_len]; exact Nat.le_refl _)
    rw [w64_take, List.take_length] at hsrc
    have hmin : min W.length M = W.length := by omega
    simp only [go_sem, zS, ↓reduceIte, Za, Zb, Zc, reduceCtorEq, kont_eq, B14.cell, hv4.sl.isSl, hv4.sl.lenS, w64_len, hmin]
    refine ⟨_, hsrc, B4.okPut 0 0 (w64 W).toArray (w64_a1 _) (by simp [w64_len]; omega), ?_⟩
    have B5 := B4.put 0 0 (w64 W).toArray
    have K5 : Keep (fun k => k = b4) H4 (putH H4 (some ⟨b4, 0, none⟩) 0 (w64 W).toArray) := (Keep.refl _ _).put rfl _ _ (.inl rfl)
    generalize putH H4 (some ⟨b4, 0, none⟩) 0 (w64 W).toArray = H5 at B5 K5 ⊢
    have hB5 : wrL (w64 (List.replicate M 0)) (0 + 0) (w64 W).toArray.toList = w64 (W ++ List.replicate (M - W.length) 0) := by
     unfold wrL
     simp only [Nat.add_zero, List.take_zero, List.nil_append, Nat.zero_add, w64_len, w64_drop, List.drop_replicate, w64_app]
    rw [hB5] at B5
    have hln : (W ++ List.replicate (M - W.length) (0 : UInt64)).length = M := by rw [List.length_append, List.length_replicate]; omega
    have hc5 : cell H5 ⟨b4, n / 64, none⟩ = some (.int .u64 ((W.getD (n / 64) 0).toNat : Int)) := by
     rw [B5.cell, w64_get _ _ (by omega)]
     congr 4
     rw [List.getD_eq_getElem?_getD, List.getD_eq_getElem?_getD]
     by_cases h : n / 64 < W.length
     ·rw [List.getElem?_append_left h]
     ·rw [List.getElem?_append_right (by omega), List.getElem?_eq_none (l := W) (by omega), List.getElem?_replicate]
      split <;> rfl
    have hst := B5.okSt (o := n / 64) (by rw [w64_len]; omega)
    simp only [go_sem, zS, ↓reduceIte, Za, Zb, Zc, reduceCtorEq, kont_eq, zF, hln, tmod64, tn_cast, tdiv64 n hn, Nat.mul_one, hc5, or_orB _ (n % 64) (by omega), hst]
    have B6 := B5.setc (n / 64) (.int .u64 ((orB (W.getD (n / 64) 0) (n % 64)).toNat : Int))
    rw [w64_set _ _ (by omega)] at B6
    have hW' : (W ++ List.replicate (M - W.length) 0).set (n / 64) (orB (W.getD (n / 64) 0) (n % 64)) = withW W n := by unfold withW; rw [hM]
    rw [hW'] at B6
    have K6 : Keep (fun k => k = b4) H5 (setc H5 ⟨b4, n / 64, none⟩ (.int .u64 ((orB (W.getD (n / 64) 0) (n % 64)).toNat : Int))) := (Keep.refl _ _).setc _ (.inl rfl)
    generalize setc H5 ⟨b4, n / 64, none⟩ (.int .u64 ((orB (W.getD (n / 64) 0) (n % 64)).toNat : Int)) = H6 at B6 K6 ⊢
    have B26 : Bl H6 b2 [.slice none 0 0] := K6.bl (K5.bl (K4.bl B23 (by simp)) (by omega)) (by omega)
    have hwl := withW_len W n
    rw [hM] at hwl
    have hpos : 64 ≠ 0 := by decide
    have hKf : Keep (fun _ => False) H H6 := ((K14.to_old K5 (by omega)).to_old K6 (by omega))
    refine ⟨by decide, by omega, by decide, by omega, by omega, by decide, ret1 B26 ?_ fun H7 z7 K7 => ?_⟩
    ·intro y hy; simp at hy; subst hy; rfl
    ·have B7 := K7.bl B6 (by omega)
     have hs := SlR.bl B7 0 M M (Nat.le_refl _) (by rw [w64_len]; omega)
     rw [List.drop_zero, w64_take, List.take_of_length_le (by omega)] at hs
     rw [hR]
     refine ⟨⟨_, withW W n, rfl, hs, by omega, withW_can hv.can n, fun m => ?_⟩, hKf.to_old K7 (by omega), fun k h => .inr ?_⟩
     ·rw [withW_mem, hv.is]
      unfold withP
      congr 1
      by_cases e : m = n
      ·subst e; simp [hn]
      ·have : ¬ (m : Int) = (n : Int) := by omega
       simp [this, e]
     ·have : k = b4 := h.1
      omega
def orW (A B : List UInt64) (m : Nat) : List UInt64 := (List.range m).map fun k => A.getD k 0 ||| B.getD k 0
theorem orW_len (A B : List UInt64) (m : Nat) : (orW A B m).length = m := by simp [orW]
theorem orW_mem (A B : List UInt64) (n : Nat) : memb (orW A B (max A.length B.length)) n = (memb A n || memb B n) := by
 unfold memb orW
 rw [List.getD_eq_getElem?_getD, List.getElem?_map]
 by_cases h : n / 64 < max A.length B.length
 ·rw [List.getElem?_range h]
  simp only [Option.map_some, Option.getD_some]
  unfold bt; rw [UInt64.toNat_or, Nat.testBit_or]
 ·rw [List.getElem?_eq_none (by simp; omega)]
  rw [List.getD_eq_getElem?_getD, List.getElem?_eq_none (by omega), List.getD_eq_getElem?_getD, List.getElem?_eq_none (by omega)]
  simp [bt_zero]
theorem orW_can {A B : List UInt64} (ha : Can A) (hb : Can B) : Can (orW A B (max A.length B.length)) := by
 refine Can.of_top fun hne => ?_
 rw [orW_len]
 by_cases h : B.length <= A.length
 ·have hA : A ≠ [] := by
   intro e; subst e
   apply hne
   have : B = [] := List.eq_nil_of_length_eq_zero (by simpa using h)
   subst this; rfl
  obtain ⟨n, h1, h2, _⟩ := ha.top hA
  exact ⟨n, by rw [orW_mem, h1]; rfl, by omega⟩
 ·have hB : B ≠ [] := by
   intro e; subst e
   simp at h
  obtain ⟨n, h1, h2, _⟩ := hb.top hB
  exact ⟨n, by rw [orW_mem, h1, Bool.or_true], by omega⟩
def BOrSpec (P : Program) (k : FuncId) : Prop := ∀ (p q : Nat -> Bool) (x y : Value) (H : Hp), SetM H x p -> SetM H y q -> CallsM P k #[x, y] H fun r H' => SetM H' r (fun n => p n || q n) /\ Keep (fun _ => False) H H' /\ ∀ k, setB r k -> H.size <= k
theorem orW_upd (A B : List UInt64) (k m : Nat) (hk : k < m) : (orW A B k ++ List.replicate (m - k) 0).set k (A.getD k 0 ||| B.getD k 0) = orW A B (k + 1) ++ List.replicate (m - (k + 1)) 0 := by
 rw [List.set_append_right _ _ (by rw [orW_len]; exact Nat.le_refl _), orW_len, Nat.sub_self]
 have : m - k = (m - (k + 1)) + 1 := by omega
 rw [this, List.replicate_succ]
 simp [orW, List.range_succ]
theorem bor_ok {P : Program} {ι : Ids} {k : FuncId} (hk : FnIs P k (c_bor ι) r_bor 2) (hw : WordSpec P (ι.f 129)) : BOrSpec P k := by
 intro p q x y H hx hy
 obtain ⟨v, A, rfl, hv⟩ := hx
 obtain ⟨u, B, rfl, hu⟩ := hy
 obtain ⟨R, hR⟩ : ∃ R : Value -> Hp -> Prop, R = fun r H' => SetM H' r (fun n => p n || q n) /\ Keep (fun _ => False) H H' /\ ∀ k, setB r k -> H.size <= k := ⟨_, rfl⟩
 rw [<- hR]
 refine calls_of_vc hk (args := [_, _]) (by simp) ?_
 unfold c_bor r_bor
 simp only [go_sem, zS, ↓reduceIte, Za, Zb, Zc, reduceCtorEq, cells_agg]
 refine kont_new fun H1 b1 e1 z1 B1 K1 => ?_
 simp only [go_sem, zS, ↓reduceIte, Za, Zb, Zc, reduceCtorEq, cells_agg]
 refine kont_new fun H2 b2 e2 z2 B2 K2 => ?_
 simp only [go_sem, zS, ↓reduceIte, Za, Zb, Zc, reduceCtorEq]
 refine kont_new fun H3 b3 e3 z3 B3 K3 => ?_
 have s1 := K1.size
 have s2 := K2.size
 have s3 := K3.size
 have K123 := (K1.trans K2).trans K3
 have B13 := K3.bl (K2.bl B1 (by simp)) (by simp)
 have B23 := K3.bl B2 (by simp)
 have hv3 := hv.keep K123 (by simp)
 have hu3 := hu.keep K123 (by simp)
 have lA := hv.len
 have lB := hu.len
 have hmx : (if ((B.length : Nat) : Int) > ((A.length : Nat) : Int) then ((B.length : Nat) : Int) else ((A.length : Nat) : Int)) = ((max A.length B.length : Nat) : Int) := by split <;> omega
 simp only [go_sem, zS, ↓reduceIte, Za, Zb, Zc, reduceCtorEq, B13.cell, B23.cell, hv3.sl.isSl, hu3.sl.isSl, hv3.sl.len, hu3.sl.len, w64_len, hmx]
 generalize hM : max A.length B.length = M at *
 have hM64 : M <= 64 := by omega
 refine ⟨⟨by omega, by omega, by unfold maxLen; omega⟩, ?_⟩
 refine kont_news fun H4 b4 e4 z4 B4 K4 => ?_
 have s4 := K4.size
 have B4 : Bl H4 b4 (w64 (List.replicate M 0)) := by
  have := B4
  rw [rep_one, w64_rep] at this; exact this
 have B14 := K4.bl B13 (by simp)
 have B24 := K4.bl B23 (by simp)
 have B34 := K4.bl B3 (by simp)
 have K14 := K123.trans K4
 simp only [go_sem, zS, ↓reduceIte, Za, Zb, Zc, reduceCtorEq, kont_eq, tn_cast]
 refine vc_loop [18, 6, 17] rfl (fun n f H' => ∃ i, i <= M /\ n = M - i /\ f 17 = .int .i64 i /\ Bl H' b4 (w64 (orW A B i ++ List.replicate (M - i) 0)) /\ Keep (fun k => k = b4) H4 H') M
  ⟨0, by omega, by omega, rfl, by simpa [orW] using B4, Keep.refl _ _⟩ ?_
 rintro n g H5 ⟨i, hi, rfl, hf, B5, K5⟩
 have s5 := K5.size
 simp only [go_sem, zS, ↓reduceIte, Za, Zb, Zc, reduceCtorEq, kont_eq] at hf
 simp only [go_sem, zS, ↓reduceIte, Za, Zb, Zc, reduceCtorEq, kont_eq, hf]
 refine iteV_dec (fun hlt => ?_) (fun hge => ?_)
 ·have hlt : i < M := by omega
  have B15 := K5.bl B14 (by omega)
  have B25 := K5.bl B24 (by omega)
  refine vc_drk (fun k => k = b4) ?_
  have n1 : ¬ b1 = b4 := by omega
  have n2 : ¬ b2 = b4 := by omega
  have hv5 : SetV H5 v A p := hv.keep (K14.to_old K5 (by omega)) (by simp)
  have hu5 : SetV H5 u B q := hu.keep (K14.to_old K5 (by omega)) (by simp)
  simp only [go_sem, zS, ↓reduceIte, Za, Zb, Zc, reduceCtorEq, kont_eq, n1, n2, B15.ldNO 1 rfl, B25.ldNO 1 rfl, cells_agg]
  refine (hw A v i H5 hv5.sl hv5.len (by omega)).mono ?_
  rintro r H6 ⟨rfl, K6⟩
  have s6 := K6.size
  have B26 := K6.bl B25 (by simp)
  simp only [go_sem, zS, ↓reduceIte, Za, Zb, Zc, reduceCtorEq, kont_eq, n2, B26.ldNO 1 rfl, cells_agg]
  refine ⟨K6.any, ?_⟩
  refine (hw B u i H6 (hu5.sl.keep K6 (by simp)) hu5.len (by omega)).mono ?_
  rintro r H7 ⟨rfl, K7⟩
  have B57 := K7.bl (K6.bl B5 (by simp)) (by simp)
  have hln : (w64 (orW A B i ++ List.replicate (M - i) 0)).length = M := by rw [w64_len, List.length_append, orW_len, List.length_replicate]; omega
  have hst := B57.okSt (o := i) (by rw [hln]; exact hlt)
  have hor := bits_or (A.getD i 0) (B.getD i 0)
  simp only [go_sem, zS, ↓reduceIte, Za, Zb, Zc, reduceCtorEq, kont_eq, hor, tn_cast, Nat.mul_one, hst]
  refine ⟨K7.any, by omega, (Keep.refl _ _).setc _ (.inl rfl), ?_⟩
  have B8 := B57.setc i (.int .u64 ((A.getD i 0 ||| B.getD i 0).toNat : Int))
  rw [w64_set _ _ (by rw [<- w64_len, hln]; exact hlt), orW_upd A B i M hlt] at B8
  simp (disch := omega) only [go_sem, zS, ↓reduceIte, Za, Zb, Zc, reduceCtorEq, kont_eq, hf, IntWalk.i64_in]
  have KK : Keep (fun k => k = b4) H4 (setc H7 ⟨b4, i, none⟩ (.int .u64 ((A.getD i 0 ||| B.getD i 0).toNat : Int))) := (((K5.trans K6.any).trans K7.any)).setc _ (.inl rfl)
  exact ⟨M - (i + 1), by omega, i + 1, by omega, rfl, by simp, B8, KK⟩
 ·have hiM : i = M := by omega
  subst hiM
  have hB5 : Bl H5 b4 (w64 (orW A B i)) := by
   have := B5
   rw [Nat.sub_self] at this
   simpa using this
  have B35 := K5.bl B34 (by omega)
  simp only [go_sem, zS, ↓reduceIte, Za, Zb, Zc, reduceCtorEq, kont_eq, zF]
  refine ⟨by decide, ret1 B35 ?_ fun H7 z7 K7 => ?_⟩
  ·intro y hy; simp at hy; subst hy; rfl
  ·have B7 := K7.bl hB5 (by omega)
   have hs := SlR.bl B7 0 i i (Nat.le_refl _) (by rw [w64_len, orW_len]; omega)
   rw [List.drop_zero, w64_take, List.take_of_length_le (by rw [orW_len]; omega)] at hs
   have hc := orW_can hv.can hu.can
   have hm := fun n => orW_mem A B n
   rw [hM] at hc hm
   rw [hR]
   refine ⟨⟨_, orW A B i, rfl, ⟨hs, by rw [orW_len]; omega, hc, fun n => ?_⟩⟩, (K14.to_old K5 (by omega)).to_old K7 (by omega), fun k h => ?_⟩
   ·rw [hm, hv.is, hu.is]
   ·have : k = b4 := h.1
    omega
def BEmptySpec (P : Program) (k : FuncId) : Prop := ∀ (p : Nat -> Bool) (v : Value) (W : List UInt64) (H : Hp), SetV H v W p -> CallsM P k #[.agg #[v]] H fun r H' => r = .bool (decide (W = [])) /\ Keep (fun _ => False) H H'
theorem bempty_ok {P : Program} {ι : Ids} {k : FuncId} (hk : FnIs P k (c_bempty ι) r_bempty 1) : BEmptySpec P k := by
 intro p v W H hv
 refine calls_of_vc hk (args := [_]) (by simp) ?_
 unfold c_bempty r_bempty
 simp only [go_sem, zS, ↓reduceIte, Za, Zb, Zc, reduceCtorEq, cells_agg]
 refine kont_new fun H1 b1 e1 z1 B1 K1 => ?_
 have hv1 := hv.keep K1 (by simp)
 simp only [go_sem, zS, ↓reduceIte, Za, Zb, Zc, reduceCtorEq, kont_eq, B1.cell, hv1.sl.isSl, hv1.sl.len, w64_len]
 have : (((W.length : Nat) : Int) == 0) = decide (W = []) := by
  cases W with
  | nil => rfl
  | cons a l => simp; omega
 rw [this]
 exact ⟨rfl, K1⟩
theorem SetV.nil_iff {H : Hp} {v : Value} {W : List UInt64} {p : Nat -> Bool} (h : SetV H v W p) : W = [] ↔ ∀ n, p n = false := by
 constructor
 ·intro e n
  subst e
  rw [<- h.is, memb_ge (by simp)]
 ·intro e
  apply Classical.byContradiction
  intro hW
  obtain ⟨n, h1, _⟩ := h.can.top hW
  rw [h.is, e] at h1; cases h1
theorem SetV.count {H : Hp} {v : Value} {W : List UInt64} {p : Nat -> Bool} (h : SetV H v W p) : cn (64 * W.length) p = (mems p).length := by
 rw [mems_length]
 have := h.len
 refine (cn_range (by omega) fun i h1 h2 => ?_).symm
 rw [<- h.is, memb_ge h1]
end Go.Mg

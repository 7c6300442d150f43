/- keccak: texts of digests, and what they are parsed to. -/
import Derived.Test.YthffkklaodanaaaDoorMgK15
import Derived.Test.YthffkklaodanaaaDoorMgLib
namespace Go.Mg
open Go Go.RowKit
set_option linter.unusedSimpArgs false
set_option linter.unusedVariables false
set_option maxRecDepth 100000
/- arbacref03.Text -/
def c_rtext (ι : Ids) : S :=
  .seq (.reg [.p (.v 2) (.mv (.c (.string ⟨#[]⟩)))]) (.seq (.reg [.p (.v 3) (.mv (.c (.string ⟨#[48, 49, 50, 51, 52, 53, 54, 55, 56, 57, 97, 98, 99, 100, 101, 102]⟩)))]) (.seq (.reg [.p (.v 4) (.mv (.c
  (.string ⟨#[]⟩)))]) (.seq (.seq (.reg [.p (.v 7) (.mv (.v 0)), .p (.v 8) (.m (.lenl (.v 7))), .p (.v 9) (.mv (.c (.int .i64 0)))]) (.blk 0 (.loop (.seq (.reg [.p (.v 10) (.cm .lss .i64 (.v 9) (.v
  8))]) (.seq (.ite (.v 10) .skip (.exit 0)) (.seq (.blk 1 (.seq (.reg [.p (.t 11) (.is 1 (.v 7) (.v 9)), .p (.t 12) (.ld (.t 11)), .p (.v 6) (.mv (.t 12))]) (.reg [.p (.t 13) (.mv (.v 4)), .p (.t 14)
  (.mv (.v 3)), .p (.t 15) (.mv (.v 6)), .p (.t 16) (.dv .quo .u8 (.t 15) (.c (.int .u8 16))), .p (.t 17) (.mv (.v 6)), .p (.t 18) (.dv .quo .u8 (.t 17) (.c (.int .u8 16))), .p (.t 19) (.ar .add .u8 (.t
  18) (.c (.int .u8 1))), .p (.t 20) (.m (.slt (.t 14) (.some (.t 16)) (.some (.t 19)))), .p (.t 21) (.mv (.v 3)), .p (.t 22) (.mv (.v 6)), .p (.t 23) (.dv .rem .u8 (.t 22) (.c (.int .u8 16))), .p (.t
  24) (.mv (.v 6)), .p (.t 25) (.dv .rem .u8 (.t 24) (.c (.int .u8 16))), .p (.t 26) (.ar .add .u8 (.t 25) (.c (.int .u8 1))), .p (.t 27) (.m (.slt (.t 21) (.some (.t 23)) (.some (.t 26)))), .p (.t 28)
  (.sadd (.t 20) (.t 27)), .p (.t 29) (.sadd (.t 13) (.t 28)), .p (.v 4) (.mv (.t 29))]))) (.reg [.p (.t 30) (.ar .add .i64 (.v 9) (.c (.int .i64 1))), .p (.v 9) (.mv (.t 30))]))))))) (.seq (.reg [.p
  (.t 31) (.mv (.v 4)), .p (.v 2) (.mv (.t 31))]) .ret))))
def r_rtext : List RV := [.t 2]
/- arbacref03.digit -/
def c_rdigit (ι : Ids) : S :=
  .seq (.reg [.p (.v 2) (.mv (.c (.int .u8 0)))]) (.seq (.seq (.reg [.p (.t 3) (.mv (.v 0)), .p (.t 4) (.cm .geq .u8 (.t 3) (.c (.int .u8 48))), .p (.t 5) (.mv (.t 4)), .gp (.t 6) (.t 5) true (.mv (.v
  0)), .gp (.t 7) (.t 5) true (.cm .leq .u8 (.t 6) (.c (.int .u8 57))), .p (.v 8) (.pick (.t 5) (.t 7) (.c (.bool false)))]) (.ite (.v 8) (.seq (.reg [.p (.t 9) (.mv (.v 0)), .p (.t 10) (.ar .sub .u8
  (.t 9) (.c (.int .u8 48))), .p (.v 2) (.mv (.t 10))]) .ret) .skip)) (.seq (.seq (.reg [.p (.t 11) (.mv (.v 0)), .p (.t 12) (.cm .geq .u8 (.t 11) (.c (.int .u8 97))), .p (.t 13) (.mv (.t 12)), .gp (.t
  14) (.t 13) true (.mv (.v 0)), .gp (.t 15) (.t 13) true (.cm .leq .u8 (.t 14) (.c (.int .u8 102))), .p (.v 16) (.pick (.t 13) (.t 15) (.c (.bool false)))]) (.ite (.v 16) (.seq (.reg [.p (.t 17) (.mv
  (.v 0)), .p (.t 18) (.ar .sub .u8 (.t 17) (.c (.int .u8 97))), .p (.t 19) (.ar .add .u8 (.t 18) (.c (.int .u8 10))), .p (.v 2) (.mv (.t 19))]) .ret) .skip)) (.seq (.reg [.p (.v 2) (.mv (.c (.int .u8
  16)))]) .ret)))
def r_rdigit : List RV := [.t 2]
/- arbacref03.Parse -/
def c_rparse (ι : Ids) : S :=
  .seq (.reg [.e (.v 2) (.new (ι.t 32) (Array.replicate 32 (.int .u8 0))), .p (.v 3) (.mv (.c (.bool false)))]) (.seq (.reg [.e (.v 4) (.new (ι.t 32) (Array.replicate 32 (.int .u8 0)))]) (.seq (.seq
  (.reg [.p (.t 8) (.mv (.v 0)), .p (.t 9) (.m (.lens (.t 8))), .p (.v 10) (.cm .neq .i64 (.t 9) (.c (.int .i64 64)))]) (.ite (.v 10) (.seq (.reg [.p (.t 11) (.m (.ldn 32 (.v 4))), .e .no (.stn 32 (.v
  2) (.t 11)), .p (.v 3) (.mv (.c (.bool false)))]) .ret) .skip)) (.seq (.seq (.reg [.p (.v 5) (.mv (.c (.int .i64 0)))]) (.blk 0 (.loop (.seq (.seq (.reg [.p (.t 12) (.mv (.v 5)), .p (.v 13) (.cm .lss
  .i64 (.t 12) (.c (.int .i64 32)))]) (.ite (.v 13) .skip (.exit 0))) (.seq (.blk 1 (.seq (.reg [.p (.t 16) (.mv (.v 0)), .p (.t 17) (.mv (.v 5)), .p (.t 18) (.ar .mul .i64 (.c (.int .i64 2)) (.t 17)),
  .p (.t 19) (.m (.ixs (.t 16) (.t 18))), .e (.t 20) (.call (ι.f 37) [.t 19]), .p (.v 6) (.mv (.t 20))]) (.seq (.reg [.p (.t 21) (.mv (.v 0)), .p (.t 22) (.mv (.v 5)), .p (.t 23) (.ar .mul .i64 (.c
  (.int .i64 2)) (.t 22)), .p (.t 24) (.ar .add .i64 (.t 23) (.c (.int .i64 1))), .p (.t 25) (.m (.ixs (.t 21) (.t 24))), .e (.t 26) (.call (ι.f 37) [.t 25]), .p (.v 7) (.mv (.t 26))]) (.seq (.seq (.reg
  [.p (.t 27) (.mv (.v 6)), .p (.t 28) (.cm .gtr .u8 (.t 27) (.c (.int .u8 15))), .p (.t 29) (.mv (.t 28)), .gp (.t 30) (.t 29) false (.mv (.v 7)), .gp (.t 31) (.t 29) false (.cm .gtr .u8 (.t 30) (.c
  (.int .u8 15))), .p (.v 32) (.pick (.t 29) (.c (.bool true)) (.t 31))]) (.ite (.v 32) (.seq (.reg [.p (.t 33) (.m (.bld (Array.replicate 32 (.int .u8 0)) [])), .e .no (.stn 32 (.v 2) (.t 33)), .p (.v
  3) (.mv (.c (.bool false)))]) .ret) .skip)) (.reg [.p (.t 34) (.mv (.v 5)), .p (.t 35) (.mv (.v 6)), .p (.t 36) (.ar .mul .u8 (.c (.int .u8 16)) (.t 35)), .p (.t 37) (.mv (.v 7)), .p (.t 38) (.ar .add
  .u8 (.t 36) (.t 37)), .p (.t 39) (.ia 32 1 (.v 4) (.t 34)), .e .no (.st (.t 39) (.t 38))]))))) (.reg [.p (.t 14) (.mv (.v 5)), .p (.t 15) (.ar .add .i64 (.t 14) (.c (.int .i64 1))), .p (.v 5) (.mv (.t
  15))])))))) (.seq (.reg [.p (.t 40) (.m (.ldn 32 (.v 4))), .e .no (.stn 32 (.v 2) (.t 40)), .p (.v 3) (.mv (.c (.bool true)))]) .ret))))
def r_rparse : List RV := [.cn 2 32, .t 3]
/- keccak.Parse -/
def c_parse (ι : Ids) : S :=
  .seq (.reg [.e (.v 2) (.new (ι.t 9) (Array.replicate 32 (.int .u8 0))), .p (.v 3) (.mv (.c (.int .i64 0)))]) (.seq (.reg [.e (.v 4) (.new (ι.t 9) (Array.replicate 32 (.int .u8 0)))]) (.seq (.seq (.reg
  [.p (.t 7) (.mv (.v 0)), .p (.t 8) (.m (.lens (.t 7))), .p (.v 9) (.cm .neq .i64 (.t 8) (.c (.int .i64 64)))]) (.ite (.v 9) (.seq (.reg [.p (.t 10) (.m (.bld (Array.replicate 32 (.int .u8 0)) [])), .e
  .no (.stn 32 (.v 2) (.t 10)), .p (.v 3) (.mv (.c (.int .i64 6)))]) .ret) .skip)) (.seq (.seq (.reg [.p (.t 11) (.mv (.v 0)), .p (.v 12) (.m (.lens (.t 11))), .p (.v 13) (.mv (.c (.int .i64 0)))])
  (.blk 0 (.loop (.seq (.reg [.p (.v 14) (.cm .lss .i64 (.v 13) (.v 12))]) (.seq (.ite (.v 14) .skip (.exit 0)) (.seq (.blk 1 (.seq (.reg [.p (.t 15) (.mv (.v 13)), .p (.v 5) (.mv (.t 15))]) (.seq (.reg
  [.e (.t 16) (.bldF (ι.t 19) 1 16 [.c (.int .u8 48), .c (.int .u8 49), .c (.int .u8 50), .c (.int .u8 51), .c (.int .u8 52), .c (.int .u8 53), .c (.int .u8 54), .c (.int .u8 55), .c (.int .u8 56), .c
  (.int .u8 57), .c (.int .u8 97), .c (.int .u8 98), .c (.int .u8 99), .c (.int .u8 100), .c (.int .u8 101), .c (.int .u8 102)]), .e (.t 17) (.mark (.t 16)), .p (.t 18) (.mv (.v 0)), .p (.t 19) (.mv (.v
  5)), .p (.t 20) (.m (.ixs (.t 18) (.t 19))), .e (.t 21) (.call (ι.f 39) [.t 17, .t 20]), .p (.v 6) (.mv (.t 21))]) (.seq (.seq (.reg [.p (.t 22) (.mv (.v 6)), .p (.v 23) (.cm .lss .i64 (.t 22) (.c
  (.int .i64 0)))]) (.ite (.v 23) (.seq (.reg [.p (.t 24) (.m (.bld (Array.replicate 32 (.int .u8 0)) [])), .e .no (.stn 32 (.v 2) (.t 24)), .p (.v 3) (.mv (.c (.int .i64 6)))]) .ret) .skip)) (.reg [.p
  (.t 25) (.mv (.v 5)), .p (.t 26) (.dv .quo .i64 (.t 25) (.c (.int .i64 2))), .p (.t 27) (.mv (.v 5)), .p (.t 28) (.dv .quo .i64 (.t 27) (.c (.int .i64 2))), .p (.t 29) (.ia 32 1 (.v 4) (.t 28)), .p
  (.t 30) (.ld (.t 29)), .p (.t 31) (.sh .shl .u8 (.t 30) (.c (.int .u64 4))), .p (.t 32) (.mv (.v 6)), .p (.t 33) (.ii .u8 (.t 32)), .p (.t 34) (.bt .or .u8 (.t 31) (.t 33)), .p (.t 35) (.ia 32 1 (.v
  4) (.t 26)), .e .no (.st (.t 35) (.t 34))]))))) (.reg [.p (.t 36) (.ar .add .i64 (.v 13) (.c (.int .i64 1))), .p (.v 13) (.mv (.t 36))]))))))) (.seq (.reg [.p (.t 37) (.m (.ldn 32 (.v 4))), .e .no
  (.stn 32 (.v 2) (.t 37)), .p (.v 3) (.mv (.c (.int .i64 0)))]) .ret))))
def r_parse : List RV := [.cn 2 32, .t 3]
/- bytes.IndexByte -/
def c_idxb (ι : Ids) : S :=
  .seq (.reg [.p (.v 4) (.mv (.c (.int .i64 0)))]) (.seq (.reg [.p (.t 5) (.mv (.v 0)), .p (.t 6) (.mv (.v 1)), .e (.t 7) (.lib (ι.f 41) [.t 5, .t 6]), .p (.v 4) (.mv (.t 7))]) .ret)
def r_idxb : List RV := [.t 4]

def hval (c : UInt8) : UInt8 := if 48 ≤ c ∧ c ≤ 57 then c - 48 else if 97 ≤ c ∧ c ≤ 102 then c - 97 + 10 else 16
theorem all8 {p : UInt8 → Prop} (h : ∀ m : Fin 256, p (UInt8.ofNat m.val)) (c : UInt8) : p c := by
  have := h ⟨c.toNat, c.toNat_lt⟩
  simpa using this
theorem idx_hval (c : UInt8) : idxOf digL c = if hval c < 16 then ((hval c).toNat : Int) else -1 := by
  revert c
  exact all8 (by decide +kernel)
theorem dig_hval (c : UInt8) (h : hval c < 16) : digL.getD (hval c).toNat 0 = c := by
  revert c
  exact all8 (by decide +kernel)
theorem hval_dig (n : Nat) (h : n < 16) : hval (digL.getD n 0) = UInt8.ofNat n := by
  have : ∀ m : Fin 16, hval (digL.getD m.val 0) = UInt8.ofNat m.val := by decide +kernel
  exact this ⟨n, h⟩

def RDigitSpec (P : Program) (k : FuncId) : Prop := ∀ (c : UInt8) (H : Hp), CallsM P k #[.int .u8 c.toNat] H fun r H' => r = .int .u8 (hval c).toNat ∧ H' = H
theorem hval_1 (c : UInt8) (h1 : 48 ≤ c.toNat) (h2 : c.toNat ≤ 57) : IntKind.u8.wrap ((c.toNat : Int) - 48) = ((hval c).toNat : Int) := by
  revert c
  exact all8 (by decide +kernel)
theorem hval_2 (c : UInt8) (h1 : 97 ≤ c.toNat) (h2 : c.toNat ≤ 102) : IntKind.u8.wrap (IntKind.u8.wrap ((c.toNat : Int) - 97) + 10) = ((hval c).toNat : Int) := by
  revert c
  exact all8 (by decide +kernel)
theorem hval_3 (c : UInt8) (h1 : ¬ (48 ≤ c.toNat ∧ c.toNat ≤ 57)) (h2 : ¬ (97 ≤ c.toNat ∧ c.toNat ≤ 102)) : hval c = 16 := by
  revert c
  exact all8 (by decide +kernel)
theorem rdigit_ok {P : Program} {ι : Ids} {k : FuncId} (hk : FnIs P k (c_rdigit ι) r_rdigit 1) : RDigitSpec P k := by
  intro c H
  refine calls_of_vc hk (args := [_]) (by simp) ?_
  unfold c_rdigit r_rdigit
  have e1 := hval_1 c
  have e2 := hval_2 c
  have e3 := hval_3 c
  by_cases h1 : (48 : Int) ≤ (c.toNat : Int) <;> by_cases h2 : (c.toNat : Int) ≤ 57 <;> by_cases h3 : (97 : Int) ≤ (c.toNat : Int) <;> by_cases h4 : (c.toNat : Int) ≤ 102
  all_goals try (exfalso; omega)
  all_goals simp only [go_sem, List.map_cons, List.map_nil, ↓reduceIte, Nat.reduceEqDiff, Nat.reduceAdd, Nat.reduceMul, reduceCtorEq, and_true, true_and, Nat.mul_one, Nat.zero_add, Bool.false_eq_true, decide_true, decide_false, not_false_eq_true, kont_eq, h1, h2, h3, h4, ge_iff_le]
  all_goals first
    | (rw [e1 (by omega) (by omega)])
    | (rw [e2 (by omega) (by omega)])
    | (rw [e3 (by omega) (by omega)]; rfl)

def RTextSpec (P : Program) (k : FuncId) : Prop := ∀ (d : List UInt8) (v : Value) (H : Hp), SlR H v (w8 d) → d.length ≤ 1000000 → CallsM P k #[v] H fun r H' => r = .string ⟨(hexF d).toArray⟩ ∧ H' = H
theorem dig_ext (n : Nat) (h : n < 16) : (⟨#[48, 49, 50, 51, 52, 53, 54, 55, 56, 57, 97, 98, 99, 100, 101, 102]⟩ : ByteArray).extract n (n + 1) = ⟨#[digL.getD n 0]⟩ := by
  have : ∀ m : Fin 16, (⟨#[48, 49, 50, 51, 52, 53, 54, 55, 56, 57, 97, 98, 99, 100, 101, 102]⟩ : ByteArray).extract m.val (m.val + 1) = ⟨#[digL.getD m.val 0]⟩ := by decide +kernel
  exact this ⟨n, h⟩
theorem ba_app (a b : List UInt8) : (⟨a.toArray⟩ : ByteArray) ++ ⟨b.toArray⟩ = ⟨(a ++ b).toArray⟩ := by
  apply ByteArray.ext
  rw [ByteArray.data_append]
  simp
theorem ba_size (a : List UInt8) : (⟨a.toArray⟩ : ByteArray).size = a.length := rfl
theorem rtext_ok {P : Program} {ι : Ids} {k : FuncId} (hk : FnIs P k (c_rtext ι) r_rtext 1) : RTextSpec P k := by
  intro d v H hv hd
  refine calls_of_vc hk (args := [_]) (by simp) ?_
  unfold c_rtext r_rtext
  simp only [go_sem, List.map_cons, List.map_nil, ↓reduceIte, Nat.reduceEqDiff, Nat.reduceAdd, Nat.reduceMul, reduceCtorEq, and_true, true_and, Nat.mul_one, Nat.zero_add, Bool.false_eq_true, decide_true, decide_false, not_false_eq_true, kont_eq, hv.isSl, hv.len, w8_len]
  refine vc_loop [10, 6, 4, 9] rfl (fun n f H' => ∃ i, i ≤ d.length ∧ n = d.length - i ∧ f 9 = .int .i64 i ∧ f 4 = .string ⟨(hexF (d.take i)).toArray⟩ ∧ H' = H) d.length
    ⟨0, by omega, by omega, rfl, rfl, rfl⟩ ?_
  rintro n g H' ⟨i, hi, rfl, hf9, hf4, rfl⟩
  simp only [go_sem, List.map_cons, List.map_nil, ↓reduceIte, Nat.reduceEqDiff, Nat.reduceAdd, Nat.reduceMul, reduceCtorEq, and_true, true_and, Nat.mul_one, Nat.zero_add, Bool.false_eq_true, decide_true, decide_false, not_false_eq_true, kont_eq] at hf9 hf4
  simp only [go_sem, List.map_cons, List.map_nil, ↓reduceIte, Nat.reduceEqDiff, Nat.reduceAdd, Nat.reduceMul, reduceCtorEq, and_true, true_and, Nat.mul_one, Nat.zero_add, Bool.false_eq_true, decide_true, decide_false, not_false_eq_true, kont_eq, hf9]
  refine iteV_dec (fun hlt => ?_) (fun hge => ?_)
  · have hi2 : i < d.length := by omega
    have hs := hv
    obtain ⟨b, o, c, rfl, -, hc⟩ := hv.cells (by intro e; have h := congrArg List.length e; rw [w8_len, List.length_nil] at h; omega)
    rw [w8_len] at hc
    have hci : cell H' ⟨b, o + i, none⟩ = some (.int .u8 (d.getD i 0).toNat) := by rw [hc i hi2, w8_get _ _ hi2]
    have hx := (d.getD i 0).toNat_lt
    generalize hxx : d.getD i 0 = x at *
    have q1 : ((x.toNat : Int)).tdiv 16 = ((x.toNat / 16 : Nat) : Int) := by rw [Int.tdiv_eq_ediv_of_nonneg (by omega)]; omega
    have q2 : ((x.toNat : Int)).tmod 16 = ((x.toNat % 16 : Nat) : Int) := by rw [Int.tmod_eq_emod_of_nonneg (by omega)]; omega
    have w1 : ∀ m : Nat, m < 256 → IntKind.u8.wrap (m : Int) = (m : Int) := fun m hm => by rw [IntKind.wrap_u8]; omega
    have w2 : ∀ m : Nat, m < 16 → IntKind.u8.wrap ((m : Int) + 1) = ((m + 1 : Nat) : Int) := fun m hm => by rw [IntKind.wrap_u8]; omega
    have d1 := dig_ext (x.toNat / 16) (by omega)
    have d2 := dig_ext (x.toNat % 16) (by omega)
    simp (disch := omega) only [go_sem, List.map_cons, List.map_nil, ↓reduceIte, Nat.reduceEqDiff, Nat.reduceAdd, Nat.reduceMul, reduceCtorEq, and_true, true_and, Nat.mul_one, Nat.zero_add, Bool.false_eq_true, decide_true, decide_false, not_false_eq_true, kont_eq, hf9, hf4, w8_len, hci, q1, q2, w1, w2, tn_cast, d1, d2, IntWalk.i64_in]
    repeat (refine And.intro (by omega) ?_)
    have hle : (hexF (d.take i)).length + 2 ≤ maxLen := by rw [hexF_len, List.length_take]; unfold maxLen; omega
    refine ⟨by unfold maxLen; omega, hle, d.length - (i + 1), by omega, i + 1, by omega, rfl, by simp, ?_⟩
    have ht : d.take (i + 1) = d.take i ++ [x] := by
      rw [List.take_add_one, ← hxx]
      simp [show i < d.length by omega]
    have hh : hexF [x] = [digL.getD (x.toNat / 16) 0] ++ [digL.getD (x.toNat % 16) 0] := by simp [hexF, hexB]
    rw [ht, hexF_app, hh, ← ba_app, ← ba_app]
  · have hi2 : i = d.length := by omega
    subst hi2
    simp only [go_sem, List.map_cons, List.map_nil, ↓reduceIte, Nat.reduceEqDiff, Nat.reduceAdd, Nat.reduceMul, reduceCtorEq, and_true, true_and, Nat.mul_one, Nat.zero_add, Bool.false_eq_true, decide_true, decide_false, not_false_eq_true, kont_eq, hf4, List.take_length]

/-! ### parsing -/
def pN (s : List UInt8) (n : Nat) : List UInt8 := iter n (fun o i => o.set i (16 * hval (s.getD (2 * i) 0) + hval (s.getD (2 * i + 1) 0))) (List.replicate 32 0)
theorem pN_len (s : List UInt8) (n : Nat) : (pN s n).length = 32 := by unfold pN; rw [iter_len (by simp)]; simp
theorem pN_zero (s : List UInt8) : ∀ n i, n ≤ i → (pN s n).getD i 0 = 0
  | 0, i, _ => by
    simp only [pN, iter, List.getD_eq_getElem?_getD, List.getElem?_replicate]
    split <;> rfl
  | n + 1, i, h => by
    have ih := pN_zero s n i (by omega)
    unfold pN at ih ⊢
    simp only [iter]
    rw [List.getD_eq_getElem?_getD, List.getElem?_set_ne (by omega), ← List.getD_eq_getElem?_getD]
    exact ih
def Hex64 (s : List UInt8) : Prop := s.length = 64 ∧ ∀ j, j < 64 → hval (s.getD j 0) < 16
def ParseR (s : List UInt8) (r good bad : Value) : Prop :=
  (Hex64 s ∧ r = .tuple #[.agg (w8 (pN s 32)).toArray, good]) ∨ (¬ Hex64 s ∧ r = .tuple #[.agg (w8 (List.replicate 32 0)).toArray, bad])
theorem ba_get (s : List UInt8) (i : Nat) (h : i < s.length) : (⟨s.toArray⟩ : ByteArray)[i]?.getD 0 = s.getD i 0 := by
  have h' : i < (⟨s.toArray⟩ : ByteArray).size := by rw [ba_size]; exact h
  have e : (⟨s.toArray⟩ : ByteArray)[i]? = some (s[i]) := by
    exact getElem?_pos (⟨s.toArray⟩ : ByteArray) i h'
  rw [e]; simp [h]
def RParseSpec (P : Program) (k : FuncId) : Prop := ∀ (s : List UInt8) (H : Hp), CallsM P k #[.string ⟨s.toArray⟩] H fun r H' => ParseR s r (.bool true) (.bool false) ∧ Keep (fun _ => False) H H'
theorem mul16 (a b : UInt8) (ha : a < 16) (hb : b < 16) : IntKind.u8.wrap (IntKind.u8.wrap (16 * (a.toNat : Int)) + (b.toNat : Int)) = ((16 * a + b).toNat : Int) := by
  have ha' : a.toNat < 16 := ha
  have hb' : b.toNat < 16 := hb
  have : (16 * a + b).toNat = 16 * a.toNat + b.toNat := by
    rw [UInt8.toNat_add, UInt8.toNat_mul]
    have : (16 : UInt8).toNat = 16 := rfl
    rw [this]; omega
  rw [this, IntKind.wrap_u8, IntKind.wrap_u8]; omega
theorem z32L : (Array.replicate 32 (Value.int .u8 0)).toList = w8 (List.replicate 32 0) := by rw [← w8_rep]; rfl
theorem z32A : (Array.replicate 32 (Value.int .u8 0)) = (w8 (List.replicate 32 0)).toArray := by rw [← z32L]
theorem rparse_ok {P : Program} {ι : Ids} {k : FuncId} (hk : FnIs P k (c_rparse ι) r_rparse 1) (hd : RDigitSpec P (ι.f 37)) : RParseSpec P k := by
  intro s H
  refine calls_of_vc hk (args := [_]) (by simp) ?_
  unfold c_rparse r_rparse
  simp only [go_sem, List.map_cons, List.map_nil, ↓reduceIte, Nat.reduceEqDiff, Nat.reduceAdd, Nat.reduceMul, reduceCtorEq, and_true, true_and, Nat.mul_one, Nat.zero_add, Bool.false_eq_true, decide_true, decide_false, not_false_eq_true]
  refine kont_new fun H1 b1 e1 z1 B1 K1 => ?_
  simp only [go_sem, List.map_cons, List.map_nil, ↓reduceIte, Nat.reduceEqDiff, Nat.reduceAdd, Nat.reduceMul, reduceCtorEq, and_true, true_and, Nat.mul_one, Nat.zero_add, Bool.false_eq_true, decide_true, decide_false, not_false_eq_true]
  refine kont_new fun H2 b2 e2 z2 B2 K2 => ?_
  rw [z32L] at B1 B2
  have K2' := K1.trans K2
  have B1' := K2.bl B1 (by simp)
  have hl1 := B1'.lt
  simp only [go_sem, List.map_cons, List.map_nil, ↓reduceIte, Nat.reduceEqDiff, Nat.reduceAdd, Nat.reduceMul, reduceCtorEq, and_true, true_and, Nat.mul_one, Nat.zero_add, Bool.false_eq_true, decide_true, decide_false, not_false_eq_true, kont_eq, ba_size]
  have l32 : (w8 (List.replicate 32 (0 : UInt8))).length = 32 := by simp [w8]
  have t32 : ∀ l : List UInt8, l.length = 32 → List.take 32 (w8 l) = w8 l := fun l hl => List.take_of_length_le (by rw [w8_len, hl]; omega)
  refine iteV_of (fun h => ?_) (fun h => ?_)
  · have hne : s.length ≠ 64 := by intro e; rw [e] at h; exact absurd h (by decide)
    have U := B1'.stNA 0 (w8 (List.replicate 32 0))
    rw [wrL_all _ _ rfl] at U
    simp only [go_sem, List.map_cons, List.map_nil, ↓reduceIte, Nat.reduceEqDiff, Nat.reduceAdd, Nat.reduceMul, reduceCtorEq, and_true, true_and, Nat.mul_one, Nat.zero_add, Bool.false_eq_true, decide_true, decide_false, not_false_eq_true, kont_eq, ldNO_ptr, stNH_ptr, okN_ptr, B2.ldNA (o := 0) (n := 32) (by rw [l32]; omega), List.drop_zero, cells_agg, U.ldNA (o := 0) (n := 32) (by rw [l32]; omega), t32 _ (by simp : (List.replicate 32 (0 : UInt8)).length = 32)]
    refine ⟨⟨B1'.okNA (by rw [l32]; omega), by simp [w8_len], w8_all1 _⟩, .inr ⟨fun hh => hne hh.1, rfl⟩, K2'.stNA _ (.inr (by simp only []; omega))⟩
  · have hs : s.length = 64 := by
      apply Decidable.byContradiction
      intro e
      have : (((s.length : Nat) : Int) != 64) = true := by simp; omega
      rw [this] at h; cases h
    refine vc_loop [13, 6, 7, 32, 3, 5] rfl (fun n f H' => ∃ i, i ≤ 32 ∧ n = 32 - i ∧ f 5 = .int .i64 i ∧ (∀ j, j < 2 * i → hval (s.getD j 0) < 16) ∧ Bl H' b1 (w8 (List.replicate 32 0)) ∧ Bl H' b2 (w8 (pN s i)) ∧ Keep (fun _ => False) H H') 32
      ⟨0, by omega, by omega, rfl, fun j hj => by omega, B1', B2, K2'⟩ ?_
    rintro n g H3 ⟨i, hi, rfl, hf5, hx, U3, B3, K3⟩
    simp only [go_sem, List.map_cons, List.map_nil, ↓reduceIte, Nat.reduceEqDiff, Nat.reduceAdd, Nat.reduceMul, reduceCtorEq, and_true, true_and, Nat.mul_one, Nat.zero_add, Bool.false_eq_true, decide_true, decide_false, not_false_eq_true, kont_eq] at hf5
    simp only [go_sem, List.map_cons, List.map_nil, ↓reduceIte, Nat.reduceEqDiff, Nat.reduceAdd, Nat.reduceMul, reduceCtorEq, and_true, true_and, Nat.mul_one, Nat.zero_add, Bool.false_eq_true, decide_true, decide_false, not_false_eq_true, kont_eq, hf5]
    have k3 := K3.size
    refine iteV_dec (fun hlt => ?_) (fun hge => ?_)
    · have hi2 : i < 32 := by omega
      have m1 : (2 : Int) * (i : Int) = ((2 * i : Nat) : Int) := by omega
      have m2 : ((2 * i : Nat) : Int) + 1 = ((2 * i + 1 : Nat) : Int) := by omega
      have g1 := ba_get s (2 * i) (by omega)
      have g2 := ba_get s (2 * i + 1) (by omega)
      simp (disch := omega) only [go_sem, List.map_cons, List.map_nil, ↓reduceIte, Nat.reduceEqDiff, Nat.reduceAdd, Nat.reduceMul, reduceCtorEq, and_true, true_and, Nat.mul_one, Nat.zero_add, Bool.false_eq_true, decide_true, decide_false, not_false_eq_true, kont_eq, hf5, ba_size, m1, m2, IntWalk.i64_in, tn_cast, g1]
      refine And.intro (by omega) ?_
      refine (hd _ _).mono ?_
      rintro r H4 ⟨rfl, rfl⟩
      simp (disch := omega) only [go_sem, List.map_cons, List.map_nil, ↓reduceIte, Nat.reduceEqDiff, Nat.reduceAdd, Nat.reduceMul, reduceCtorEq, and_true, true_and, Nat.mul_one, Nat.zero_add, Bool.false_eq_true, decide_true, decide_false, not_false_eq_true, kont_eq, hf5, ba_size, m1, m2, IntWalk.i64_in, tn_cast, g2]
      refine And.intro (by omega) ?_
      refine (hd _ _).mono ?_
      rintro r H5 ⟨rfl, rfl⟩
      by_cases h1 : hval (s.getD (2 * i) 0) < 16
      · by_cases h2 : hval (s.getD (2 * i + 1) 0) < 16
        · have q1 : ¬ ((hval (s.getD (2 * i) 0)).toNat : Int) > 15 := by have : (hval (s.getD (2 * i) 0)).toNat < 16 := h1; omega
          have q2 : ¬ ((hval (s.getD (2 * i + 1) 0)).toNat : Int) > 15 := by have : (hval (s.getD (2 * i + 1) 0)).toNat < 16 := h2; omega
          have gp := w8_get (pN s i) i (by rw [pN_len]; exact hi2)
          have mm := mul16 _ _ h1 h2
          simp (disch := omega) only [go_sem, List.map_cons, List.map_nil, ↓reduceIte, Nat.reduceEqDiff, Nat.reduceAdd, Nat.reduceMul, reduceCtorEq, and_true, true_and, Nat.mul_one, Nat.zero_add, Bool.false_eq_true, decide_true, decide_false, not_false_eq_true, kont_eq, hf5, q1, q2, B3.cell, B3.frz, gp, mm, tn_cast, IntWalk.i64_in]
          repeat (refine And.intro (by omega) ?_)
          refine ⟨32 - (i + 1), by omega, i + 1, by omega, rfl, by simp, fun j hj => ?_, U3.setc_ne _ (by simp only []; omega), ?_, K3.setc _ (.inr (by simp only []; omega))⟩
          · by_cases hj1 : j < 2 * i
            · exact hx j hj1
            · by_cases hj2 : j = 2 * i
              · subst hj2; exact h1
              · have : j = 2 * i + 1 := by omega
                subst this; exact h2
          · have := B3.setc i (.int .u8 (16 * hval (s.getD (2 * i) 0) + hval (s.getD (2 * i + 1) 0)).toNat)
            rw [w8_set] at this
            exact this
        · have q1 : ¬ ((hval (s.getD (2 * i) 0)).toNat : Int) > 15 := by have : (hval (s.getD (2 * i) 0)).toNat < 16 := h1; omega
          have q2 : ((hval (s.getD (2 * i + 1) 0)).toNat : Int) > 15 := by have : ¬ (hval (s.getD (2 * i + 1) 0)).toNat < 16 := h2; omega
          have U := U3.stNA 0 (w8 (List.replicate 32 0))
          rw [wrL_all _ _ rfl] at U
          simp only [go_sem, List.map_cons, List.map_nil, ↓reduceIte, Nat.reduceEqDiff, Nat.reduceAdd, Nat.reduceMul, reduceCtorEq, and_true, true_and, Nat.mul_one, Nat.zero_add, Bool.false_eq_true, decide_true, decide_false, not_false_eq_true, kont_eq, okFill, fillV, q1, q2, ldNO_ptr, stNH_ptr, okN_ptr, cells_agg, z32A, U.ldNA (o := 0) (n := 32) (by rw [l32]; omega), List.drop_zero, t32 _ (by simp : (List.replicate 32 (0 : UInt8)).length = 32)]
          refine ⟨⟨U3.okNA (by rw [l32]; omega), by simp [w8_len], w8_all1 _⟩, .inr ⟨fun hh => h2 (hh.2 _ (by omega)), rfl⟩, K3.stNA _ (.inr (by simp only []; omega))⟩
      · have q1 : ((hval (s.getD (2 * i) 0)).toNat : Int) > 15 := by have : ¬ (hval (s.getD (2 * i) 0)).toNat < 16 := h1; omega
        have U := U3.stNA 0 (w8 (List.replicate 32 0))
        rw [wrL_all _ _ rfl] at U
        simp only [go_sem, List.map_cons, List.map_nil, ↓reduceIte, Nat.reduceEqDiff, Nat.reduceAdd, Nat.reduceMul, reduceCtorEq, and_true, true_and, Nat.mul_one, Nat.zero_add, Bool.false_eq_true, decide_true, decide_false, not_false_eq_true, kont_eq, okFill, fillV, q1, ldNO_ptr, stNH_ptr, okN_ptr, cells_agg, z32A, U.ldNA (o := 0) (n := 32) (by rw [l32]; omega), List.drop_zero, t32 _ (by simp : (List.replicate 32 (0 : UInt8)).length = 32)]
        refine ⟨⟨U3.okNA (by rw [l32]; omega), by simp [w8_len], w8_all1 _⟩, .inr ⟨fun hh => h1 (hh.2 _ (by omega)), rfl⟩, K3.stNA _ (.inr (by simp only []; omega))⟩
    · have hi2 : i = 32 := by omega
      subst hi2
      have U := U3.stNA 0 (w8 (pN s 32))
      have lp : (w8 (pN s 32)).length = 32 := by rw [w8_len, pN_len]
      rw [wrL_all _ _ (by rw [lp, l32])] at U
      simp only [go_sem, List.map_cons, List.map_nil, ↓reduceIte, Nat.reduceEqDiff, Nat.reduceAdd, Nat.reduceMul, reduceCtorEq, and_true, true_and, Nat.mul_one, Nat.zero_add, Bool.false_eq_true, decide_true, decide_false, not_false_eq_true, kont_eq, ldNO_ptr, stNH_ptr, okN_ptr, B3.ldNA (o := 0) (n := 32) (by rw [lp]; omega), List.drop_zero, cells_agg, U.ldNA (o := 0) (n := 32) (by rw [lp]; omega), t32 _ (pN_len s 32)]
      refine ⟨⟨U3.okNA (by rw [l32]; omega), by simp [w8_len, pN_len], w8_all1 _⟩, .inl ⟨⟨hs, fun j hj => hx j (by omega)⟩, rfl⟩, K3.stNA _ (.inr (by simp only []; omega))⟩

/-! ### the program's parser -/
def IdxSpec (P : Program) (k : FuncId) : Prop := ∀ (l : List UInt8) (x : UInt8) (v : Value) (H : Hp), SlR H v (w8 l) → CallsM P k #[v, .int .u8 x.toNat] H fun r H' => r = .int .i64 (idxOf l x) ∧ H' = H
theorem idxb_ok {P : Program} {ι : Ids} {k : FuncId} (hk : FnIs P k (c_idxb ι) r_idxb 2) (hl : LibIs P (ι.f 41) Extern.BytealgIndexByte.indexByte) : IdxSpec P k := by
  intro l x v H hv
  refine calls_of_vc hk (args := [_, _]) (by simp) ?_
  unfold c_idxb r_idxb
  simp only [go_sem, List.map_cons, List.map_nil, ↓reduceIte, Nat.reduceEqDiff, Nat.reduceAdd, Nat.reduceMul, reduceCtorEq, and_true, true_and, Nat.mul_one, Nat.zero_add, Bool.false_eq_true, decide_true, decide_false, not_false_eq_true, kont_eq]
  exact ⟨_, indexByte_lib hl hv x, rfl⟩
def dN (s : List UInt8) (n : Nat) : List UInt8 := iter n (fun d i => d.set (i / 2) ((d.getD (i / 2) 0 <<< 4) ||| hval (s.getD i 0))) (List.replicate 32 0)
theorem dN_len (s : List UInt8) (n : Nat) : (dN s n).length = 32 := by unfold dN; rw [iter_len (by simp)]; simp
theorem nib (a b : UInt8) (ha : a < 16) (hb : b < 16) : ((((0 : UInt8) <<< 4) ||| a) <<< 4) ||| b = 16 * a + b := by
  have : ∀ m n : Fin 16, ((((0 : UInt8) <<< 4) ||| UInt8.ofNat m.val) <<< 4) ||| UInt8.ofNat n.val = 16 * UInt8.ofNat m.val + UInt8.ofNat n.val := by decide +kernel
  have := this ⟨a.toNat, ha⟩ ⟨b.toNat, hb⟩
  simpa using this
theorem dN_pN (s : List UInt8) : ∀ m, m ≤ 32 → (∀ j, j < 2 * m → hval (s.getD j 0) < 16) → dN s (2 * m) = pN s m
  | 0, _, _ => by simp only [dN, pN, iter, Nat.mul_zero]
  | m + 1, hm, h => by
    have ih := dN_pN s m (by omega) (fun j hj => h j (by omega))
    have hz := pN_zero s m m (Nat.le_refl _)
    have hl := pN_len s m
    have e : 2 * (m + 1) = 2 * m + 2 := by omega
    rw [e]
    unfold dN pN at *
    simp only [iter]
    rw [ih]
    have d1 : 2 * m / 2 = m := by omega
    have d2 : (2 * m + 1) / 2 = m := by omega
    rw [d1, d2, hz]
    generalize iter m _ _ = l at *
    have g : (l.set m (((0 : UInt8) <<< 4) ||| hval (s.getD (2 * m) 0))).getD m 0 = (((0 : UInt8) <<< 4) ||| hval (s.getD (2 * m) 0)) := by
      simp [List.getD_eq_getElem?_getD, show m < l.length by omega]
    rw [g, List.set_set, nib _ _ (h _ (by omega)) (h _ (by omega))]
theorem bitsOr8 (x y : UInt8) : bits .or .u8 (x.toNat : Int) (y.toNat : Int) = ((x ||| y).toNat : Int) := by
  show IntKind.u8.wrap ((BitVec.ofInt 8 (x.toNat : Int) ||| BitVec.ofInt 8 (y.toNat : Int)).toNat : Int) = _
  rw [bitsOf8, bitsOf8]
  have := (x ||| y).toNat_lt
  show IntKind.u8.wrap ((x ||| y).toNat : Int) = _
  rw [IntKind.wrap_u8]; omega
theorem shl4 (x : UInt8) : IntKind.u8.wrap ((x.toNat : Int) * 2 ^ 4) = ((x <<< 4).toNat : Int) := by
  revert x
  exact all8 (by decide +kernel)
theorem u8_id (x : UInt8) : IntKind.u8.wrap (x.toNat : Int) = (x.toNat : Int) := by
  have := x.toNat_lt
  rw [IntKind.wrap_u8]; omega
def ParseSpec (P : Program) (k : FuncId) : Prop := ∀ (s : List UInt8) (H : Hp), CallsM P k #[.string ⟨s.toArray⟩] H fun r H' => ParseR s r (.int .i64 0) (.int .i64 6) ∧ Keep (fun _ => False) H H'
theorem parse_ok {P : Program} {ι : Ids} {k : FuncId} (hk : FnIs P k (c_parse ι) r_parse 1) (hi : IdxSpec P (ι.f 39)) : ParseSpec P k := by
  intro s H
  refine calls_of_vc hk (args := [_]) (by simp) ?_
  unfold c_parse r_parse
  simp only [go_sem, List.map_cons, List.map_nil, ↓reduceIte, Nat.reduceEqDiff, Nat.reduceAdd, Nat.reduceMul, reduceCtorEq, and_true, true_and, Nat.mul_one, Nat.zero_add, Bool.false_eq_true, decide_true, decide_false, not_false_eq_true]
  refine kont_new fun H1 b1 e1 z1 B1 K1 => ?_
  simp only [go_sem, List.map_cons, List.map_nil, ↓reduceIte, Nat.reduceEqDiff, Nat.reduceAdd, Nat.reduceMul, reduceCtorEq, and_true, true_and, Nat.mul_one, Nat.zero_add, Bool.false_eq_true, decide_true, decide_false, not_false_eq_true]
  refine kont_new fun H2 b2 e2 z2 B2 K2 => ?_
  rw [z32L] at B1 B2
  have K2' := K1.trans K2
  have B1' := K2.bl B1 (by simp)
  have hl1 := B1'.lt
  simp only [go_sem, List.map_cons, List.map_nil, ↓reduceIte, Nat.reduceEqDiff, Nat.reduceAdd, Nat.reduceMul, reduceCtorEq, and_true, true_and, Nat.mul_one, Nat.zero_add, Bool.false_eq_true, decide_true, decide_false, not_false_eq_true, kont_eq, ba_size]
  have l32 : (w8 (List.replicate 32 (0 : UInt8))).length = 32 := by simp [w8]
  have t32 : ∀ l : List UInt8, l.length = 32 → List.take 32 (w8 l) = w8 l := fun l hl => List.take_of_length_le (by rw [w8_len, hl]; omega)
  refine iteV_of (fun h => ?_) (fun h => ?_)
  · have hne : s.length ≠ 64 := by intro e; rw [e] at h; exact absurd h (by decide)
    have U := B1'.stNA 0 (w8 (List.replicate 32 0))
    rw [wrL_all _ _ rfl] at U
    simp only [go_sem, List.map_cons, List.map_nil, ↓reduceIte, Nat.reduceEqDiff, Nat.reduceAdd, Nat.reduceMul, reduceCtorEq, and_true, true_and, Nat.mul_one, Nat.zero_add, Bool.false_eq_true, decide_true, decide_false, not_false_eq_true, kont_eq, okFill, fillV, z32A, ldNO_ptr, stNH_ptr, okN_ptr, List.drop_zero, cells_agg, U.ldNA (o := 0) (n := 32) (by rw [l32]; omega), t32 _ (by simp : (List.replicate 32 (0 : UInt8)).length = 32)]
    refine ⟨⟨B1'.okNA (by rw [l32]; omega), by simp [w8_len], w8_all1 _⟩, .inr ⟨fun hh => hne hh.1, rfl⟩, K2'.stNA _ (.inr (by simp only []; omega))⟩
  · have hs : s.length = 64 := by
      apply Decidable.byContradiction
      intro e
      have : (((s.length : Nat) : Int) != 64) = true := by simp; omega
      rw [this] at h; cases h
    rw [hs]
    refine vc_loop [14, 5, 6, 23, 3, 13] rfl (fun n f H' => ∃ i, i ≤ 64 ∧ n = 64 - i ∧ f 13 = .int .i64 i ∧ (∀ j, j < i → hval (s.getD j 0) < 16) ∧ Bl H' b1 (w8 (List.replicate 32 0)) ∧ Bl H' b2 (w8 (dN s i)) ∧ Keep (fun _ => False) H H') 64
      ⟨0, by omega, by omega, rfl, fun j hj => by omega, B1', B2, K2'⟩ ?_
    rintro n g H3 ⟨i, hi64, rfl, hf13, hx, U3, B3, K3⟩
    simp only [go_sem, List.map_cons, List.map_nil, ↓reduceIte, Nat.reduceEqDiff, Nat.reduceAdd, Nat.reduceMul, reduceCtorEq, and_true, true_and, Nat.mul_one, Nat.zero_add, Bool.false_eq_true, decide_true, decide_false, not_false_eq_true, kont_eq] at hf13
    simp only [go_sem, List.map_cons, List.map_nil, ↓reduceIte, Nat.reduceEqDiff, Nat.reduceAdd, Nat.reduceMul, reduceCtorEq, and_true, true_and, Nat.mul_one, Nat.zero_add, Bool.false_eq_true, decide_true, decide_false, not_false_eq_true, kont_eq, hf13]
    have k3 := K3.size
    refine iteV_dec (fun hlt => ?_) (fun hge => ?_)
    · have hi2 : i < 64 := by omega
      have g1 := ba_get s i (by omega)
      have hm := mkH_new H3 #[Value.int IntKind.u8 48, Value.int IntKind.u8 49, Value.int IntKind.u8 50, Value.int IntKind.u8 51, Value.int IntKind.u8 52, Value.int IntKind.u8 53, Value.int IntKind.u8 54, Value.int IntKind.u8 55, Value.int IntKind.u8 56, Value.int IntKind.u8 57, Value.int IntKind.u8 97, Value.int IntKind.u8 98, Value.int IntKind.u8 99, Value.int IntKind.u8 100, Value.int IntKind.u8 101, Value.int IntKind.u8 102] (ι.t 19) 16
      simp (disch := omega) only [go_sem, List.map_cons, List.map_nil, ↓reduceIte, Nat.reduceEqDiff, Nat.reduceAdd, Nat.reduceMul, reduceCtorEq, and_true, true_and, Nat.mul_one, Nat.zero_add, Bool.false_eq_true, decide_true, decide_false, not_false_eq_true, kont_eq, hf13, ba_size, tn_cast, g1] at hm ⊢
      obtain ⟨K4, z4, hS⟩ := hm
      generalize mkH _ _ _ = H4 at *
      have K4' := K3.trans K4
      refine And.intro (by omega) ?_
      refine (hi digL _ _ _ (hS 16 (by omega))).mono ?_
      rintro r H5 ⟨rfl, rfl⟩
      rw [idx_hval]
      have U4 := K4.bl U3 (by simp)
      have B4 := K4.bl B3 (by simp)
      have k4 := K4'.size
      by_cases h1 : hval (s.getD i 0) < 16
      · rw [if_pos h1]
        have q1 : ¬ ((hval (s.getD i 0)).toNat : Int) < 0 := by omega
        have q2 : (i : Int).tdiv 2 = ((i / 2 : Nat) : Int) := by rw [Int.tdiv_eq_ediv_of_nonneg (by omega)]; omega
        have gp := w8_get (dN s i) (i / 2) (by rw [dN_len]; omega)
        simp (disch := omega) only [go_sem, List.map_cons, List.map_nil, ↓reduceIte, Nat.reduceEqDiff, Nat.reduceAdd, Nat.reduceMul, reduceCtorEq, and_true, true_and, Nat.mul_one, Nat.zero_add, Bool.false_eq_true, decide_true, decide_false, not_false_eq_true, kont_eq, hf13, q1, q2, B4.cell, B4.frz, gp, tn_cast, IntWalk.i64_in, shl4, u8_id, bitsOr8]
        repeat (refine And.intro (by omega) ?_)
        refine ⟨64 - (i + 1), by omega, i + 1, by omega, rfl, by simp, fun j hj => ?_, U4.setc_ne _ (by simp only []; omega), ?_, K4'.setc _ (.inr (by simp only []; omega))⟩
        · by_cases hj1 : j < i
          · exact hx j hj1
          · have : j = i := by omega
            subst this; exact h1
        · have := B4.setc (i / 2) (.int .u8 (((dN s i).getD (i / 2) 0 <<< 4) ||| hval (s.getD i 0)).toNat)
          rw [w8_set] at this
          exact this
      · rw [if_neg h1]
        have q1 : (-1 : Int) < 0 := by omega
        have U := U4.stNA 0 (w8 (List.replicate 32 0))
        rw [wrL_all _ _ rfl] at U
        simp only [go_sem, List.map_cons, List.map_nil, ↓reduceIte, Nat.reduceEqDiff, Nat.reduceAdd, Nat.reduceMul, reduceCtorEq, and_true, true_and, Nat.mul_one, Nat.zero_add, Bool.false_eq_true, decide_true, decide_false, not_false_eq_true, kont_eq, okFill, fillV, q1, ldNO_ptr, stNH_ptr, okN_ptr, cells_agg, z32A, U.ldNA (o := 0) (n := 32) (by rw [l32]; omega), List.drop_zero, t32 _ (by simp : (List.replicate 32 (0 : UInt8)).length = 32)]
        refine ⟨⟨U4.okNA (by rw [l32]; omega), by simp [w8_len], w8_all1 _⟩, .inr ⟨fun hh => h1 (hh.2 _ (by omega)), rfl⟩, K4'.stNA _ (.inr (by simp only []; omega))⟩
    · have hi2 : i = 64 := by omega
      subst hi2
      have hp := dN_pN s 32 (by omega) (fun j hj => hx j (by omega))
      rw [show 2 * 32 = 64 from rfl] at hp
      rw [hp] at B3
      have U := U3.stNA 0 (w8 (pN s 32))
      have lp : (w8 (pN s 32)).length = 32 := by rw [w8_len, pN_len]
      rw [wrL_all _ _ (by rw [lp, l32])] at U
      simp only [go_sem, List.map_cons, List.map_nil, ↓reduceIte, Nat.reduceEqDiff, Nat.reduceAdd, Nat.reduceMul, reduceCtorEq, and_true, true_and, Nat.mul_one, Nat.zero_add, Bool.false_eq_true, decide_true, decide_false, not_false_eq_true, kont_eq, ldNO_ptr, stNH_ptr, okN_ptr, B3.ldNA (o := 0) (n := 32) (by rw [lp]; omega), List.drop_zero, cells_agg, U.ldNA (o := 0) (n := 32) (by rw [lp]; omega), t32 _ (pN_len s 32)]
      refine ⟨⟨U3.okNA (by rw [l32]; omega), by simp [w8_len, pN_len], w8_all1 _⟩, .inl ⟨⟨hs, fun j hj => hx j (by omega)⟩, rfl⟩, K3.stNA _ (.inr (by simp only []; omega))⟩
end Go.Mg

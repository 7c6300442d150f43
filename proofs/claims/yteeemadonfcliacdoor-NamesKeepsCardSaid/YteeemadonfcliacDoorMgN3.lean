/- names: bytes of a table; the examples; the law of validity. -/
import Derived.Test.YteeemadonfcliacDoorMgN2
import Derived.Test.YteeemadonfcliacDoorMgW2
open Nat renaming reduceEqDiff → Za, reduceAdd → Zb, reduceMul → Zc
namespace Go.Mg
open Go Go.RowKit
set_option linter.all false
set_option maxRecDepth 100000
def c_nbytes (ι : Ids) : S :=
 .seq (.reg [.p (.v 2) (.mv (.c (.slice .none 0 0)))]) (.seq (.seq (.reg [.p (.t 6) (.mv (.v 0)), .p (.v 7) (.m (.eqn .ptr false (.t 6)))]) (.ite (.v 7) (.seq (.reg [.p (.v 2) (.mv (.c (.slice .none 0
 0)))]) .ret) .skip)) (.seq (.reg [.e (.t 8) (.call (ι.f 55) []), .p (.v 3) (.mv (.t 8))]) (.seq (.reg [.p (.t 9) (.mv (.v 3)), .p (.t 10) (.mv (.v 0)), .p (.t 11) (.nil (.t 10)), .p (.t 12) (.fa 0 (.t
 11)), .p (.t 13) (.ld (.t 12)), .p (.t 14) (.m (.lenl (.t 13))), .p (.t 15) (.ii .u64 (.t 14)), .e (.t 16) (.call (ι.f 57) [.t 9, .t 15])]) (.seq (.seq (.reg [.p (.t 17) (.mv (.v 0)), .p (.t 18) (.nil
 (.t 17)), .p (.t 19) (.fa 0 (.t 18)), .p (.v 20) (.ld (.t 19)), .p (.v 21) (.m (.lenl (.v 20))), .p (.v 22) (.mv (.c (.int .i64 0)))]) (.blk 0 (.loop (.seq (.reg [.p (.v 23) (.cm .lss .i64 (.v 22) (.v
 21))]) (.seq (.ite (.v 23) .skip (.exit 0)) (.seq (.blk 1 (.seq (.reg [.p (.t 24) (.is 1 (.v 20) (.v 22)), .p (.t 25) (.ld (.t 24)), .p (.v 5) (.mv (.t 25))]) (.reg [.p (.t 26) (.mv (.v 3)), .p (.t
 27) (.mv (.v 5)), .e (.t 28) (.call (ι.f 59) [.t 26, .t 27])]))) (.reg [.p (.t 29) (.ar .add .i64 (.v 22) (.c (.int .i64 1))), .p (.v 22) (.mv (.t 29))]))))))) (.seq (.reg [.p (.t 30) (.mv (.v 3)), .e
 (.t 31) (.call (ι.f 60) [.t 30]), .p (.v 2) (.mv (.t 31))]) .ret)))))
def r_nbytes : List RV := [.t 2]
def c_nawake (ι : Ids) : S :=
 .seq (.reg [.p (.v 0) (.mv (.c (.bool false)))]) (.seq (.reg [.e (.t 14) (.call (ι.f 83) []), .e (.t 15) (.call (ι.f 84) [.t 14, .c (.string ⟨#[99, 108, 101, 114, 107]⟩), .c (.int .i64 9)]), .p (.t
 13) (.mv (.t 15)), .p (.t 16) (.ext (.t 13) 0), .p (.t 17) (.ext (.t 13) 1), .p (.t 18) (.ext (.t 13) 2), .p (.v 1) (.mv (.t 16)), .p (.v 2) (.mv (.t 17)), .p (.v 3) (.mv (.t 18))]) (.seq (.reg [.p
 (.t 20) (.mv (.v 1)), .e (.t 21) (.call (ι.f 84) [.t 20, .c (.string ⟨#[97, 117, 100, 105, 116, 111, 114]⟩), .c (.int .i64 9)]), .p (.t 19) (.mv (.t 21)), .p (.t 22) (.ext (.t 19) 0), .p (.t 23) (.ext
 (.t 19) 1), .p (.t 24) (.ext (.t 19) 2), .p (.v 4) (.mv (.t 22)), .p (.v 5) (.mv (.t 23)), .p (.v 6) (.mv (.t 24))]) (.seq (.reg [.p (.t 26) (.mv (.v 4)), .e (.t 27) (.call (ι.f 84) [.t 26, .c
 (.string ⟨#[99, 108, 101, 114, 107]⟩), .c (.int .i64 9)]), .p (.t 25) (.mv (.t 27)), .p (.t 28) (.ext (.t 25) 0), .p (.t 29) (.ext (.t 25) 1), .p (.t 30) (.ext (.t 25) 2), .p (.t 7) (.mv (.t 28)), .p
 (.t 8) (.mv (.t 29)), .p (.v 9) (.mv (.t 30))]) (.seq (.reg [.p (.t 32) (.mv (.v 4)), .e (.t 33) (.call (ι.f 84) [.t 32, .c (.string ⟨#[120]⟩), .c (.int .i64 2)]), .p (.t 31) (.mv (.t 33)), .p (.t 34)
 (.ext (.t 31) 0), .p (.t 35) (.ext (.t 31) 1), .p (.t 36) (.ext (.t 31) 2), .p (.t 10) (.mv (.t 34)), .p (.t 11) (.mv (.t 35)), .p (.v 12) (.mv (.t 36))]) (.seq (.reg [.p (.t 37) (.mv (.v 2)), .p (.t
 38) (.cm .eql .i64 (.t 37) (.c (.int .i64 1))), .p (.t 39) (.mv (.t 38)), .gp (.t 40) (.t 39) true (.mv (.v 3)), .gp (.t 41) (.t 39) true (.cm .eql .i64 (.t 40) (.c (.int .i64 0))), .p (.t 42) (.pick
 (.t 39) (.t 41) (.c (.bool false))), .p (.t 43) (.mv (.t 42)), .gp (.t 44) (.t 43) true (.mv (.v 5)), .gp (.t 45) (.t 43) true (.cm .eql .i64 (.t 44) (.c (.int .i64 2))), .p (.t 46) (.pick (.t 43) (.t
 45) (.c (.bool false))), .p (.t 47) (.mv (.t 46)), .gp (.t 48) (.t 47) true (.mv (.v 6)), .gp (.t 49) (.t 47) true (.cm .eql .i64 (.t 48) (.c (.int .i64 0))), .p (.t 50) (.pick (.t 47) (.t 49) (.c
 (.bool false))), .p (.t 51) (.mv (.t 50)), .gp (.t 52) (.t 51) true (.mv (.v 9)), .gp (.t 53) (.t 51) true (.cm .eql .i64 (.t 52) (.c (.int .i64 5))), .p (.t 54) (.pick (.t 51) (.t 53) (.c (.bool
 false))), .p (.t 55) (.mv (.t 54)), .gp (.t 56) (.t 55) true (.mv (.v 12)), .gp (.t 57) (.t 55) true (.cm .eql .i64 (.t 56) (.c (.int .i64 14))), .p (.t 58) (.pick (.t 55) (.t 57) (.c (.bool false))),
 .p (.t 59) (.mv (.t 58)), .gp (.t 60) (.t 59) true (.mv (.v 4)), .ge (.t 61) (.t 59) true (.call (ι.f 90) [.t 60]), .gp (.t 62) (.t 59) true (.m (.b2s (.t 61))), .gp (.t 63) (.t 59) true (.sc .eql (.t
 62) (.c (.string ⟨#[2, 5, 99, 108, 101, 114, 107, 7, 97, 117, 100, 105, 116, 111, 114]⟩))), .p (.t 64) (.pick (.t 59) (.t 63) (.c (.bool false))), .p (.v 0) (.mv (.t 64))]) .ret)))))
def r_nawake : List RV := [.t 0]
def encN (ls : List (List UInt8)) (n : Nat) : List UInt8 := iter n (fun a i => a ++ encB (ls.getD i [])) (enc7 ls.length)
def tbytes (ls : List (List UInt8)) : List UInt8 := encN ls ls.length
def NSmall (ls : List (List UInt8)) : Prop := ls.length <= 300 /\ ∀ i, i < ls.length -> (ls.getD i []).length <= 1000
theorem encN_succ (ls : List (List UInt8)) (n : Nat) : encN ls (n + 1) = encN ls n ++ encB (ls.getD n []) := by
 unfold encN; simp only [iter]
theorem encB_le (l : List UInt8) (h : l.length <= 1000) : (encB l).length <= 1011 := by
 have := enc7_len l.length (by omega)
 rw [encB, List.length_append]; omega
theorem encN_len (ls : List (List UInt8)) (hs : NSmall ls) : ∀ n, n <= ls.length -> (encN ls n).length <= 11 + 1011 * n
 | 0, _ => by
  have h := enc7_len ls.length (by have := hs.1; omega)
  simp only [encN, iter]; omega
 | n + 1, h => by
  have ih := encN_len ls hs n (by omega)
  have := encB_le _ (hs.2 n (by omega))
  rw [encN_succ, List.length_append]; omega
def NBytesSpec (P : Program) (k : FuncId) : Prop := ∀ (F : Nat -> Prop) (t : Nat) (l : List (List UInt8)) (H : Hp), TabB F H t l -> NSmall l -> CallsM P k #[.pointer (some ⟨t, 0, none⟩)] H fun r H' => OwS H' r (w8 (tbytes l)) /\ (∀ k, ownB r k -> H.size <= k) /\ Keep (fun _ => False) H H'
theorem nbytes_ok {P : Program} {ι : Ids} {k : FuncId} (hk : FnIs P k (c_nbytes ι) r_nbytes 1) (hn : WNewSpec P (ι.f 55)) (hu : WUintSpec P (ι.f 57)) (hst : WStringSpec P (ι.f 59)) (ho : WOutSpec P (ι.f 60)) : NBytesSpec P k := by
 intro F t l H ht hsm
 refine calls_of_vc hk (args := [_]) (by simp) ?_
 unfold c_nbytes r_nbytes
 obtain ⟨vs, vm, hB, hS, hM, hFt, hFs, hFm, hFb⟩ := ht
 have lsl := hsm.1
 have w6 : IntKind.u64.wrap (l.length : Int) = (l.length : Int) := by rw [IntKind.wrap_u64]; omega
 simp only [go_sem, zS, ↓reduceIte, Za, Zb, Zc, reduceCtorEq, kont_eq]
 refine (hn _).mono ?_
 rintro r H1 ⟨rfl, W1, K1⟩
 have B1 := K1.bl hB (by simp)
 have S1 := hS.keep K1 (by simp)
 simp only [go_sem, zS, ↓reduceIte, Za, Zb, Zc, reduceCtorEq, kont_eq, B1.cell, S1.isSl, S1.len, sL_len, w6]
 refine (hu _ _ _ _ _ W1 (by omega) (by simp)).mono ?_
 rintro r H2 ⟨rfl, W2, K2⟩
 have k1 := K1.size
 have hbt := hB.lt
 have hw1 : H.size < H1.size := W1.bound _ rfl
 have K2' : Keep (fun _ => False) H H2 := K1.trans' K2 (fun i hi e => by omega)
 have B2 := K2.bl B1 (by omega)
 have S2 := S1.keep K2 (fun k h e => by have := hS.old h; omega)
 rw [List.nil_append] at W2
 simp only [go_sem, zS, ↓reduceIte, Za, Zb, Zc, reduceCtorEq, kont_eq, B2.cell, S2.isSl, S2.len, sL_len]
 generalize hw : H.size = w at *
 refine vc_loop [23, 5, 22] rfl (fun n f H' => ∃ i F, i <= l.length /\ n = l.length - i /\ f 22 = .int .i64 i /\ WrB F H' w (encN l i) /\ (∀ k, F k -> w <= k) /\ Keep (fun _ => False) H H') l.length
  ⟨0, _, by omega, by omega, rfl, by simpa [encN, iter] using W2, fun k h => by rcases h with h | h <;> omega, K2'⟩ ?_
 rintro n g H4 ⟨i, F4, hi, rfl, hf22, W4, hF4, K4⟩
 simp only [go_sem, zS, ↓reduceIte, Za, Zb, Zc, reduceCtorEq, kont_eq] at hf22
 simp only [go_sem, zS, ↓reduceIte, Za, Zb, Zc, reduceCtorEq, kont_eq, hf22]
 have k4 := K4.size
 refine iteV_dec (fun hlt => ?_) (fun hge => ?_)
 ·have hi2 : i < l.length := by omega
  obtain ⟨bV, oV, cV, rfl, -, -⟩ := hS.cells (by intro e; have h := congrArg List.length e; rw [sL_len, List.length_nil] at h; omega)
  have hcell := (hS.keep K4 (by simp)).cell_at (i := i) (by rw [sL_len]; omega)
  rw [sL_get _ _ hi2] at hcell
  have he := encN_len l hsm i (by omega)
  have hx := hsm.2 i hi2
  simp (disch := omega) only [go_sem, zS, ↓reduceIte, Za, Zb, Zc, reduceCtorEq, kont_eq, hf22, hcell, sL_len, tn_cast]
  refine And.intro (by omega) ?_
  refine (hst _ _ _ _ _ W4 (by omega)).mono ?_
  rintro r H5 ⟨rfl, W5, K5⟩
  have k5 := K5.size
  simp (disch := omega) only [go_sem, zS, ↓reduceIte, Za, Zb, Zc, reduceCtorEq, kont_eq, hf22, IntWalk.i64_in]
  refine ⟨l.length - (i + 1), by omega, i + 1, _, by omega, rfl, by simp, by rw [encN_succ]; exact W5, fun k h => ?_, K4.trans' K5 (fun j hj h => by have := hF4 j h; omega)⟩
  rcases h with h | h
  ·exact hF4 k h
  ·omega
 ·have hi2 : i = l.length := by omega
  subst hi2
  have he := encN_len l hsm l.length (Nat.le_refl _)
  refine (ho _ _ _ _ W4 (by omega)).mono ?_
  rintro r H5 ⟨O5, o5, K5⟩
  simp only [go_sem, zS, ↓reduceIte, Za, Zb, Zc, reduceCtorEq, kont_eq]
  exact ⟨O5, fun k h => by have := o5 k h; omega, K4.trans K5⟩
theorem enc7_small (v : Nat) (h : v < 128) : enc7 v = [UInt8.ofNat v] := by
 have h0 : v / 128 = 0 := by omega
 have h1 : v % 128 = v := by omega
 unfold enc7 le7
 rw [h0, h1, tl7_0]; rfl
def NAwakeSpec (P : Program) (k : FuncId) : Prop := ∀ H, CallsM P k #[] H fun r H' => r = .bool true /\ Keep (fun _ => False) H H'
theorem nawake_ok {P : Program} {ι : Ids} {k : FuncId} (hk : FnIs P k (c_nawake ι) r_nawake 0) (hn : NNewSpec P (ι.f 83)) (ha : AddSpec P (ι.f 84)) (hb : NBytesSpec P (ι.f 90)) : NAwakeSpec P k := by
 intro H
 refine calls_of_vc hk (args := []) (by simp) ?_
 unfold c_nawake r_nawake
 have a1 : addE [] [99, 108, 101, 114, 107] 9 = 0 := by decide +kernel
 have a2 : addE [[99, 108, 101, 114, 107]] [97, 117, 100, 105, 116, 111, 114] 9 = 0 := by decide +kernel
 have a3 : addE [[99, 108, 101, 114, 107], [97, 117, 100, 105, 116, 111, 114]] [99, 108, 101, 114, 107] 9 = 5 := by decide +kernel
 have a4 : addE [[99, 108, 101, 114, 107], [97, 117, 100, 105, 116, 111, 114]] [120] 2 = 14 := by decide +kernel
 have tb : tbytes [[99, 108, 101, 114, 107], [97, 117, 100, 105, 116, 111, 114]] = [2] ++ ([5] ++ [99, 108, 101, 114, 107]) ++ ([7] ++ [97, 117, 100, 105, 116, 111, 114]) := by
  have e : tbytes [[99, 108, 101, 114, 107], [97, 117, 100, 105, 116, 111, 114]] = enc7 2 ++ (enc7 5 ++ [99, 108, 101, 114, 107]) ++ (enc7 7 ++ [97, 117, 100, 105, 116, 111, 114]) := rfl
  rw [e, enc7_small 2 (by omega), enc7_small 5 (by omega), enc7_small 7 (by omega)]; rfl
 simp only [go_sem, zS, ↓reduceIte, Za, Zb, Zc, reduceCtorEq, kont_eq]
 refine (hn _).mono ?_
 rintro r H1 ⟨rfl, T1, K1, z1⟩
 simp only [go_sem, zS, ↓reduceIte, Za, Zb, Zc, reduceCtorEq, kont_eq]
 refine (ha _ _ _ [99, 108, 101, 114, 107] 9 _ T1 (by decide)).mono ?_
 rintro r H2 ⟨K2, h2⟩
 rcases h2 with ⟨h, -⟩ | ⟨-, t2, rfl, T2⟩
 ·exact absurd a1 h
 simp only [go_sem, zS, ↓reduceIte, Za, Zb, Zc, reduceCtorEq, kont_eq, List.length_nil]
 refine (ha _ _ _ [97, 117, 100, 105, 116, 111, 114] 9 _ T2 (by decide)).mono ?_
 rintro r H3 ⟨K3, h3⟩
 rcases h3 with ⟨h, -⟩ | ⟨-, t3, rfl, T3⟩
 ·exact absurd a2 h
 simp only [go_sem, zS, ↓reduceIte, Za, Zb, Zc, reduceCtorEq, kont_eq]
 refine (ha _ _ _ [99, 108, 101, 114, 107] 9 _ T3 (by decide)).mono ?_
 rintro r H4 ⟨K4, h4⟩
 have e3 : addE ([] ++ [[99, 108, 101, 114, 107]] ++ [[97, 117, 100, 105, 116, 111, 114]]) [99, 108, 101, 114, 107] 9 = 5 := a3
 rcases h4 with ⟨-, rfl⟩ | ⟨h, -⟩
 case inr => rw [e3] at h; exact absurd h (by decide)
 rw [e3]
 have T4 := T3.keep K4 (by simp)
 simp only [go_sem, zS, ↓reduceIte, Za, Zb, Zc, reduceCtorEq, kont_eq]
 refine (ha _ _ _ [120] 2 _ T4 (by decide)).mono ?_
 rintro r H5 ⟨K5, h5⟩
 have e4 : addE ([] ++ [[99, 108, 101, 114, 107]] ++ [[97, 117, 100, 105, 116, 111, 114]]) [120] 2 = 14 := a4
 rcases h5 with ⟨-, rfl⟩ | ⟨h, -⟩
 case inr => rw [e4] at h; exact absurd h (by decide)
 rw [e4]
 have T5 := T4.keep K5 (by simp)
 have KK := (((K1.trans K2).trans K3).trans K4).trans K5
 have i1 : (((1 : Nat) : Int) == 1) = true := rfl
 have i2 : (((2 : Nat) : Int) == 2) = true := rfl
 rw [kont_eq]
 simp only [go_sem, zS, ↓reduceIte, Za, Zb, Zc, reduceCtorEq, kont_eq, i1, i2, beq_self_eq_true]
 refine (hb _ _ _ _ T5 ⟨by decide, by decide⟩).mono ?_
 rintro r H6 ⟨O6, o6, K6⟩
 have tb' : tbytes ([] ++ [[99, 108, 101, 114, 107]] ++ [[97, 117, 100, 105, 116, 111, 114]]) = [2] ++ ([5] ++ [99, 108, 101, 114, 107]) ++ ([7] ++ [97, 117, 100, 105, 116, 111, 114]) := tb
 rw [tb'] at O6
 have hb6 := O6.sl.bytesIn
 have hr : ∀ l : List UInt8, (⟨l.toArray⟩ : ByteArray).toList = l := fun l => by rw [ByteArray.toList_eq]
 simp only [go_sem, zS, ↓reduceIte, Za, Zb, Zc, reduceCtorEq, kont_eq, hb6, toBA_w8, ba_tlb]
 exact ⟨okB2s_w8 hb6, KK.trans K6⟩
def NWordSpec (P : Program) (k : FuncId) : Prop := ∀ (n : UInt8) (H : Hp), CallsM P k #[.int .u8 n.toNat] H fun r H' => r = sV (wordL.getD (n.toNat % 20) []) /\ Keep (fun _ => False) H H'
theorem rword_ok {P : Program} {ι : Ids} {k : FuncId} (hk : FnIs P k (c_rword ι) r_rword 1) : NWordSpec P k := by
 intro n H
 refine calls_of_vc hk (args := [_]) (by simp) ?_
 unfold c_rword r_rword
 simp only [go_sem, zS, ↓reduceIte, Za, Zb, Zc, reduceCtorEq]
 refine kont_news fun H1 b1 e1 z1 B1 K1 => ?_
 have B1 : Bl H1 b1 (sL wordL) := B1
 have hn := n.toNat_lt
 have w1 : IntKind.i64.wrap (n.toNat : Int) = (n.toNat : Int) := IntWalk.i64_in _ ⟨by omega, by omega⟩
 have m1 : ((n.toNat : Int)).tmod 20 = ((n.toNat % 20 : Nat) : Int) := by rw [Int.tmod_eq_emod_of_nonneg (by omega)]; omega
 have hci := B1.cell (n.toNat % 20)
 rw [sL_get _ _ (by show _ < 20; omega)] at hci
 have c20 : ((20 : Nat) : Int) = 20 := rfl
 simp (disch := omega) only [go_sem, zS, ↓reduceIte, Za, Zb, Zc, reduceCtorEq, kont_eq, w1, c20, m1, tn_cast, hci]
 exact ⟨by omega, ⟨by omega, by omega⟩, K1⟩
theorem wordL_len (n : UInt8) : (wordL.getD (n.toNat % 20) []).length <= 20 := by
 have : ∀ m : Fin 20, (wordL.getD m.val []).length <= 20 := by decide
 exact this ⟨n.toNat % 20, by omega⟩
end Go.Mg

/- lists of ints of the library's slices: Index, Contains, Clone, Equal; what several chapters use. -/
import Derived.Test.YtgbbplbmbapejaaGreatDoorMgB4
import Derived.Test.YtgbbplbmbapejaaGreatDoorMgMA
open Nat renaming reduceEqDiff → Za, reduceAdd → Zb, reduceMul → Zc
namespace Go.Mg
open Go Go.RowKit
set_option linter.all false
set_option maxRecDepth 100000
def c_sleq (ι : Ids) : S :=
 .seq (.reg [.p (.v 4) (.mv (.c (.bool false)))]) (.seq (.seq (.reg [.p (.t 6) (.mv (.v 0)), .p (.t 7) (.m (.lenl (.t 6))), .p (.t 8) (.mv (.v 1)), .p (.t 9) (.m (.lenl (.t 8))), .p (.v 10) (.cm .neq
 .i64 (.t 7) (.t 9))]) (.ite (.v 10) (.seq (.reg [.p (.v 4) (.mv (.c (.bool false)))]) .ret) .skip)) (.seq (.seq (.reg [.p (.t 11) (.mv (.v 0)), .p (.v 12) (.m (.lenl (.t 11))), .p (.v 13) (.mv (.c
 (.int .i64 0)))]) (.blk 0 (.loop (.seq (.reg [.p (.v 14) (.cm .lss .i64 (.v 13) (.v 12))]) (.seq (.ite (.v 14) .skip (.exit 0)) (.seq (.blk 1 (.seq (.reg [.p (.t 15) (.mv (.v 13)), .p (.v 5) (.mv (.t
 15))]) (.seq (.reg [.p (.t 16) (.mv (.v 0)), .p (.t 17) (.mv (.v 5)), .p (.t 18) (.is 1 (.t 16) (.t 17)), .p (.t 19) (.ld (.t 18)), .p (.t 20) (.mv (.v 1)), .p (.t 21) (.mv (.v 5)), .p (.t 22) (.is 1
 (.t 20) (.t 21)), .p (.t 23) (.ld (.t 22)), .p (.v 24) (.cm .neq .i64 (.t 19) (.t 23))]) (.ite (.v 24) (.seq (.reg [.p (.v 4) (.mv (.c (.bool false)))]) .ret) .skip)))) (.reg [.p (.t 25) (.ar .add
 .i64 (.v 13) (.c (.int .i64 1))), .p (.v 13) (.mv (.t 25))]))))))) (.seq (.reg [.p (.v 4) (.mv (.c (.bool true)))]) .ret)))
def r_sleq : List RV := [.t 4]
def nI (l : List Nat) : List Int := l.map fun n : Nat => (n : Int)
theorem iL_at {l : List Int} {i : Nat} (hi : i < l.length) : (iL l)[i]? = some (.int .i64 (gi l i)) := by
 rw [iL_get _ _ hi]
 unfold gi; simp [List.getD_eq_getElem?_getD, hi]
def IEqSpec (P : Program) (k : FuncId) : Prop := ∀ (l m : List Int) (v w : Value) (H : Hp), SlR H v (iL l) -> SlR H w (iL m) -> l.length <= 1000000 -> CallsM P k #[v, w] H fun r H' => r = .bool (decide (l = m)) /\ H' = H
theorem sleq_ok {P : Program} {ι : Ids} {k : FuncId} (hk : FnIs P k (c_sleq ι) r_sleq 2) : IEqSpec P k := by
 intro l m v w H hv hw hl
 refine calls_of_vc hk (args := [_, _]) (by simp) ?_
 unfold c_sleq r_sleq
 by_cases hlm : l.length = m.length
 ·have e0 : ((m.length : Int) != (m.length : Int)) = false := by simp
  simp only [go_sem, zS, ↓reduceIte, Za, Zb, Zc, reduceCtorEq, kont_eq, hv.isSl, hv.len, hw.isSl, hw.len, iL_len, hlm, e0]
  refine vc_loop [14, 5, 24, 4, 13] rfl (fun n f H' => ∃ i : Nat, i <= l.length /\ n = l.length - i /\ f 13 = .int .i64 i /\ (∀ a < i, gi l a = gi m a) /\ H' = H) l.length
   ⟨0, by omega, by omega, by simp only [go_sem, zS, ↓reduceIte, Za, Zb, Zc, reduceCtorEq, kont_eq]; rfl, fun a ha => by omega, rfl⟩ ?_
  rintro n f H2 ⟨i, hi, rfl, hf, hx, rfl⟩
  simp only [go_sem, zS, ↓reduceIte, Za, Zb, Zc, reduceCtorEq, kont_eq] at hf
  simp only [go_sem, zS, ↓reduceIte, Za, Zb, Zc, reduceCtorEq, kont_eq, hf]
  refine iteV_dec (fun hlt => ?_) (fun hge => ?_)
  ·have hlt : i < l.length := by omega
   obtain ⟨b, o, c, rfl, -, hc⟩ := hv.cells (by intro e; have h := congrArg List.length e; rw [iL_len, List.length_nil] at h; omega)
   obtain ⟨b2, o2, c2, rfl, -, hc2⟩ := hw.cells (by intro e; have h := congrArg List.length e; rw [iL_len, List.length_nil] at h; omega)
   rw [iL_len] at hc hc2
   have hci := hc i hlt
   have hci2 := hc2 i (by omega)
   rw [iL_at hlt] at hci
   rw [iL_at (by omega)] at hci2
   by_cases h : gi l i = gi m i
   ·have e1 : (gi m i != gi m i) = false := by simp
    simp (disch := omega) only [go_sem, zS, ↓reduceIte, Za, Zb, Zc, reduceCtorEq, kont_eq, hf, iL_len, tn_cast, Nat.mul_one, hci, hci2, h, e1, IntWalk.i64_in]
    refine ⟨by omega, by omega, l.length - (i + 1), by omega, i + 1, by omega, rfl, by simp, fun a ha => ?_⟩
    by_cases e : a = i
    ·subst e; exact h
    ·exact hx a (by omega)
   ·have e1 : (gi l i != gi m i) = true := by simpa using h
    have e2 : decide (l = m) = false := decide_eq_false (fun e => h (by rw [e]))
    simp only [go_sem, zS, ↓reduceIte, Za, Zb, Zc, reduceCtorEq, kont_eq, hf, iL_len, tn_cast, Nat.mul_one, hci, hci2, e1, e2]
    exact ⟨by omega, by omega⟩
  ·have e2 : l = m := by
    refine List.ext_getElem hlm fun i h1 h2 => ?_
    have := hx i (by omega)
    unfold gi at this
    rw [List.getD_eq_getElem?_getD, List.getD_eq_getElem?_getD, List.getElem?_eq_getElem h1, List.getElem?_eq_getElem h2] at this
    exact this
   simp only [go_sem, zS, ↓reduceIte, Za, Zb, Zc, reduceCtorEq, kont_eq, decide_eq_true e2]
 ·have e0 : ((l.length : Int) != (m.length : Int)) = true := by rw [bne_iff_ne]; omega
  have e2 : decide (l = m) = false := decide_eq_false (fun e => hlm (by rw [e]))
  simp only [go_sem, zS, ↓reduceIte, Za, Zb, Zc, reduceCtorEq, kont_eq, hv.isSl, hv.len, hw.isSl, hw.len, iL_len, e0, e2]
theorem tmod_nat (a b : Nat) : (a : Int).tmod (b : Int) = ((a % b : Nat) : Int) := (Int.ofNat_tmod a b).symm
end Go.Mg

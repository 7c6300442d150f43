/- names: questions to tables, lists of texts, the reference. -/
import Derived.Test.YtgbbplbmbapejaaGreatDoorMgN3
open Nat renaming reduceEqDiff → Za, reduceAdd → Zb, reduceMul → Zc
namespace Go.Mg
open Go Go.RowKit
set_option linter.all false
set_option maxRecDepth 100000
def NLenSpec (P : Program) (k : FuncId) : Prop := (∀ (F : Nat -> Prop) (t : Nat) (l : List (List UInt8)) (H : Hp), TabB F H t l -> CallsM P k #[.pointer (some ⟨t, 0, none⟩)] H fun r H' => r = .int .i64 l.length /\ H' = H) ∧
 ∀ H, CallsM P k #[.pointer none] H fun r H' => r = .int .i64 0 /\ H' = H
theorem nlen_ok {P : Program} {ι : Ids} {k : FuncId} (hk : FnIs P k (c_nlen ι) r_nlen 1) : NLenSpec P k := by
 constructor
 ·intro F t l H ht
  refine calls_of_vc hk (args := [_]) (by simp) ?_
  unfold c_nlen r_nlen
  obtain ⟨vs, vm, hB, hS, hM, hFt, hFs, hFm, hFb⟩ := ht
  simp only [go_sem, zS, ↓reduceIte, Za, Zb, Zc, reduceCtorEq, kont_eq, hB.cell, hS.isSl, hS.len, sL_len]
 ·intro H
  refine calls_of_vc hk (args := [_]) (by simp) ?_
  unfold c_nlen r_nlen
  simp only [go_sem, zS, ↓reduceIte, Za, Zb, Zc, reduceCtorEq, kont_eq]
def nameR (l : List (List UInt8)) (n : Int) : Value := if 1 <= n /\ n <= (l.length : Int) then .tuple #[sV (l.getD (n - 1).toNat []), .bool true] else .tuple #[sV [], .bool false]
def NNameSpec (P : Program) (k : FuncId) : Prop := (∀ (F : Nat -> Prop) (t : Nat) (l : List (List UInt8)) (n : Int) (H : Hp), TabB F H t l -> l.length <= 1000000 -> CallsM P k #[.pointer (some ⟨t, 0, none⟩), .int .i64 n] H fun r H' => r = nameR l n /\ H' = H) ∧
 ∀ (n : Int) H, CallsM P k #[.pointer none, .int .i64 n] H fun r H' => r = .tuple #[sV [], .bool false] /\ H' = H
theorem nname_ok {P : Program} {ι : Ids} {k : FuncId} (hk : FnIs P k (c_nname ι) r_nname 2) (hl : NLenSpec P (ι.f 85)) : NNameSpec P k := by
 constructor
 ·intro F t l n H ht hll
  refine calls_of_vc hk (args := [_, _]) (by simp) ?_
  unfold c_nname r_nname
  by_cases c1 : n < 1
  ·have : nameR l n = .tuple #[sV [], .bool false] := by unfold nameR; rw [if_neg (by omega)]
   simp only [go_sem, zS, ↓reduceIte, Za, Zb, Zc, reduceCtorEq, kont_eq, c1, this]
  simp only [go_sem, zS, ↓reduceIte, Za, Zb, Zc, reduceCtorEq, kont_eq, c1]
  refine (hl.1 F t l H ht).mono ?_
  rintro r H' ⟨rfl, rfl⟩
  by_cases c2 : n > (l.length : Int)
  ·have : nameR l n = .tuple #[sV [], .bool false] := by unfold nameR; rw [if_neg (by omega)]
   simp only [go_sem, zS, ↓reduceIte, Za, Zb, Zc, reduceCtorEq, kont_eq, c2, this]
  obtain ⟨vs, vm, hB, hS, hM, hFt, hFs, hFm, hFb⟩ := ht
  have hi : (n - 1).toNat < l.length := by omega
  obtain ⟨b, o, c, rfl, -, hc⟩ := hS.cells (by intro e; have h := congrArg List.length e; rw [sL_len, List.length_nil] at h; omega)
  rw [sL_len] at hc hB
  have hci := hc _ hi
  rw [sL_get _ _ hi] at hci
  have e1 : IntKind.i64.wrap (n - 1) = n - 1 := IntWalk.i64_in _ ⟨by omega, by omega⟩
  have : nameR l n = .tuple #[sV (l.getD (n - 1).toNat []), .bool true] := by unfold nameR; rw [if_pos (by omega)]
  simp only [go_sem, zS, ↓reduceIte, Za, Zb, Zc, reduceCtorEq, kont_eq, c2, hB.cell, e1, hci, this]
  omega
 ·intro n H
  refine calls_of_vc hk (args := [_, _]) (by simp) ?_
  unfold c_nname r_nname
  by_cases c1 : n < 1
  ·simp only [go_sem, zS, ↓reduceIte, Za, Zb, Zc, reduceCtorEq, kont_eq, c1]
  simp only [go_sem, zS, ↓reduceIte, Za, Zb, Zc, reduceCtorEq, kont_eq, c1]
  refine (hl.2 H).mono ?_
  rintro r H' ⟨rfl, rfl⟩
  have c2 : n > 0 := by omega
  simp only [go_sem, zS, ↓reduceIte, Za, Zb, Zc, reduceCtorEq, kont_eq, c2]
end Go.Mg

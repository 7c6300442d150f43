/- names: texts, and which of them are names. -/
import Derived.Test.YtgbbplbmbapejaaGreatDoorMgLib
open Nat renaming reduceEqDiff → Za, reduceAdd → Zb, reduceMul → Zc
namespace Go.Mg
open Go Go.RowKit
set_option linter.all false
set_option maxRecDepth 100000
def c_nkw (ι : Ids) : S :=
 .seq (.reg [.p (.v 0) (.mv (.c (.slice .none 0 0)))]) (.seq (.reg [.e (.t 1) (.bldF (ι.t 67) 1 20 [.c (.string ⟨#[97, 108, 108]⟩), .c (.string ⟨#[97, 110, 100]⟩), .c (.string ⟨#[97, 115, 115, 105,
 103, 110]⟩), .c (.string ⟨#[98, 121]⟩), .c (.string ⟨#[99, 111, 117, 110, 116]⟩), .c (.string ⟨#[100, 101, 99, 108, 97, 114, 101]⟩), .c (.string ⟨#[100, 121, 110, 97, 109, 105, 99]⟩), .c (.string
 ⟨#[101, 110, 102, 111, 114, 99, 101]⟩), .c (.string ⟨#[102, 97, 108, 115, 101]⟩), .c (.string ⟨#[102, 111, 114]⟩), .c (.string ⟨#[105, 102]⟩), .c (.string ⟨#[109, 101, 109, 98, 101, 114, 115]⟩), .c
 (.string ⟨#[110, 111, 110, 101]⟩), .c (.string ⟨#[110, 111, 116]⟩), .c (.string ⟨#[111, 110]⟩), .c (.string ⟨#[111, 114]⟩), .c (.string ⟨#[114, 101, 118, 111, 107, 101]⟩), .c (.string ⟨#[115, 116, 97,
 116, 105, 99]⟩), .c (.string ⟨#[116, 114, 117, 101]⟩), .c (.string ⟨#[117, 115, 101, 114, 115]⟩)]), .p (.v 0) (.mv (.t 1))]) .ret)
def r_nkw : List RV := [.t 0]
def c_sidx (ι : Ids) : S :=
 .seq (.reg [.p (.v 4) (.mv (.c (.int .i64 0)))]) (.seq (.seq (.reg [.p (.t 6) (.mv (.v 0)), .p (.v 7) (.m (.lenl (.t 6))), .p (.v 8) (.mv (.c (.int .i64 0)))]) (.blk 0 (.loop (.seq (.reg [.p (.v 9)
 (.cm .lss .i64 (.v 8) (.v 7))]) (.seq (.ite (.v 9) .skip (.exit 0)) (.seq (.blk 1 (.seq (.reg [.p (.t 10) (.mv (.v 8)), .p (.v 5) (.mv (.t 10))]) (.seq (.reg [.p (.t 11) (.mv (.v 1)), .p (.t 12) (.mv
 (.v 0)), .p (.t 13) (.mv (.v 5)), .p (.t 14) (.is 1 (.t 12) (.t 13)), .p (.t 15) (.ld (.t 14)), .p (.v 16) (.sc .eql (.t 11) (.t 15))]) (.ite (.v 16) (.seq (.reg [.p (.t 17) (.mv (.v 5)), .p (.v 4)
 (.mv (.t 17))]) .ret) .skip)))) (.reg [.p (.t 18) (.ar .add .i64 (.v 8) (.c (.int .i64 1))), .p (.v 8) (.mv (.t 18))]))))))) (.seq (.reg [.p (.v 4) (.mv (.c (.int .i64 (-1))))]) .ret))
def r_sidx : List RV := [.t 4]
def c_scont (ι : Ids) : S :=
 .seq (.reg [.p (.v 4) (.mv (.c (.bool false)))]) (.seq (.reg [.p (.t 5) (.mv (.v 0)), .p (.t 6) (.mv (.v 1)), .e (.t 7) (.call (ι.f 70) [.t 5, .t 6]), .p (.t 8) (.cm .geq .i64 (.t 7) (.c (.int .i64
 0))), .p (.v 4) (.mv (.t 8))]) .ret)
def r_scont : List RV := [.t 4]
def c_nletter (ι : Ids) : S :=
 .seq (.reg [.p (.v 2) (.mv (.c (.bool false)))]) (.seq (.reg [.p (.t 3) (.mv (.v 0)), .p (.t 4) (.cm .geq .u8 (.t 3) (.c (.int .u8 97))), .p (.t 5) (.mv (.t 4)), .gp (.t 6) (.t 5) true (.mv (.v 0)),
 .gp (.t 7) (.t 5) true (.cm .leq .u8 (.t 6) (.c (.int .u8 122))), .p (.t 8) (.pick (.t 5) (.t 7) (.c (.bool false))), .p (.v 2) (.mv (.t 8))]) .ret)
def r_nletter : List RV := [.t 2]
def c_ninner (ι : Ids) : S :=
 .seq (.reg [.p (.v 3) (.mv (.c (.bool false)))]) (.seq (.reg [.p (.t 4) (.ld (.v 1)), .p (.t 5) (.mv (.v 0)), .e (.t 6) (.callv (.t 4) [.t 5]), .p (.t 7) (.mv (.t 6)), .gp (.t 8) (.t 7) false (.mv (.v
 0)), .gp (.t 9) (.t 7) false (.cm .geq .u8 (.t 8) (.c (.int .u8 48))), .gp (.t 10) (.t 7) false (.mv (.t 9)), .gp (.t 11) (.t 10) true (.mv (.v 0)), .gp (.t 12) (.t 10) true (.cm .leq .u8 (.t 11) (.c
 (.int .u8 57))), .gp (.t 13) (.t 7) false (.pick (.t 10) (.t 12) (.c (.bool false))), .p (.t 14) (.pick (.t 7) (.c (.bool true)) (.t 13)), .p (.t 15) (.mv (.t 14)), .gp (.t 16) (.t 15) false (.mv (.v
 0)), .gp (.t 17) (.t 15) false (.cm .eql .u8 (.t 16) (.c (.int .u8 95))), .p (.t 18) (.pick (.t 15) (.c (.bool true)) (.t 17)), .p (.v 3) (.mv (.t 18))]) .ret)
def r_ninner : List RV := [.t 3]
def c_nvalid (ι : Ids) : S :=
 .seq (.reg [.p (.v 2) (.mv (.c (.bool false)))]) (.seq (.seq (.reg [.p (.t 6) (.mv (.v 0)), .p (.t 7) (.m (.lens (.t 6))), .p (.t 8) (.cm .eql .i64 (.t 7) (.c (.int .i64 0))), .p (.t 9) (.mv (.t 8)),
 .gp (.t 10) (.t 9) false (.mv (.v 0)), .gp (.t 11) (.t 9) false (.m (.lens (.t 10))), .gp (.t 12) (.t 9) false (.cm .gtr .i64 (.t 11) (.c (.int .i64 12))), .p (.t 13) (.pick (.t 9) (.c (.bool true))
 (.t 12)), .p (.t 14) (.mv (.t 13)), .ge (.t 15) (.t 14) false (.call (ι.f 68) []), .gp (.t 16) (.t 14) false (.mv (.v 0)), .ge (.t 17) (.t 14) false (.call (ι.f 71) [.t 15, .t 16]), .p (.v 18) (.pick
 (.t 14) (.c (.bool true)) (.t 17))]) (.ite (.v 18) (.seq (.reg [.p (.v 2) (.mv (.c (.bool false)))]) .ret) .skip)) (.seq (.reg [.e (.v 3) (.new (ι.t 74) #[.nilFunc]), .e .no (.st (.v 3) (.c (.func
 (.func (ι.f 72)) #[] #[])))]) (.seq (.reg [.p (.t 19) (.m (.mkf (ι.f 73) [] [.v 3])), .p (.v 4) (.mv (.t 19))]) (.seq (.seq (.reg [.p (.t 20) (.mv (.v 0)), .p (.v 21) (.m (.lens (.t 20))), .p (.v 22)
 (.mv (.c (.int .i64 0)))]) (.blk 0 (.loop (.seq (.reg [.p (.v 23) (.cm .lss .i64 (.v 22) (.v 21))]) (.seq (.ite (.v 23) .skip (.exit 0)) (.seq (.blk 1 (.seq (.reg [.p (.t 24) (.mv (.v 22)), .p (.v 5)
 (.mv (.t 24))]) (.seq (.dr (.px (.t 25) .none (.mv (.v 4)) (.px (.t 26) .none (.mv (.v 0)) (.px (.t 27) .none (.mv (.v 5)) (.px (.t 28) .none (.m (.ixs (.t 26) (.t 27))) (.wcons (.t 29) .none (.callv
 (.t 25) [.t 28]) (.px (.t 30) .none (.not (.t 29)) (.px (.t 31) .none (.mv (.t 30)) (.px (.t 32) (.some (.t 31, false)) (.mv (.v 5)) (.px (.t 33) (.some (.t 31, false)) (.cm .eql .i64 (.t 32) (.c
 (.int .i64 0))) (.px (.t 34) (.some (.t 31, false)) (.mv (.t 33)) (.px (.t 35) (.some (.t 34, true)) (.ld (.v 3)) (.px (.t 36) (.some (.t 34, true)) (.mv (.v 0)) (.px (.t 37) (.some (.t 34, true))
 (.mv (.v 5)) (.px (.t 38) (.some (.t 34, true)) (.m (.ixs (.t 36) (.t 37))) (.wcons (.t 39) (.some (.t 34, true)) (.callv (.t 35) [.t 38]) (.px (.t 40) (.some (.t 34, true)) (.not (.t 39)) (.px (.t
 41) (.some (.t 31, false)) (.pick (.t 34) (.t 40) (.c (.bool false))) (.px (.v 42) .none (.pick (.t 31) (.c (.bool true)) (.t 41)) .done))) .wnil)))))))))) .wnil)))))) (.ite (.v 42) (.seq (.reg [.p
 (.v 2) (.mv (.c (.bool false)))]) .ret) .skip)))) (.reg [.p (.t 43) (.ar .add .i64 (.v 22) (.c (.int .i64 1))), .p (.v 22) (.mv (.t 43))]))))))) (.seq (.reg [.p (.v 2) (.mv (.c (.bool true)))])
 .ret)))))
def r_nvalid : List RV := [.t 2]
abbrev sV (s : List UInt8) : Value := .string ⟨s.toArray⟩
def sL (l : List (List UInt8)) : List Value := l.map sV
theorem sL_len (l : List (List UInt8)) : (sL l).length = l.length := by simp [sL]
theorem sL_get (l : List (List UInt8)) (i : Nat) (h : i < l.length) : (sL l)[i]? = some (sV (l.getD i [])) := by simp [sL, h]
def kwL : List (List UInt8) := [[97, 108, 108], [97, 110, 100], [97, 115, 115, 105, 103, 110], [98, 121], [99, 111, 117, 110, 116], [100, 101, 99, 108, 97, 114, 101], [100, 121, 110, 97, 109, 105, 99], [101, 110, 102, 111, 114, 99, 101], [102, 97, 108, 115, 101], [102, 111, 114], [105, 102], [109, 101, 109, 98, 101, 114, 115], [110, 111, 110, 101], [110, 111, 116], [111, 110], [111, 114], [114, 101, 118, 111, 107, 101], [115, 116, 97, 116, 105, 99], [116, 114, 117, 101], [117, 115, 101, 114, 115]]
def letterC (c : UInt8) : Bool := decide ((97 : Int) <= (c.toNat : Int)) && decide ((c.toNat : Int) <= 122)
def innerC (c : UInt8) : Bool := letterC c || (decide ((48 : Int) <= (c.toNat : Int)) && decide ((c.toNat : Int) <= 57)) || ((c.toNat : Int) == 95)
def validF (s : List UInt8) : Bool := decide (s.length ≠ 0) && decide (s.length <= 12) && !(decide (s ∈ kwL)) && s.all innerC && letterC (s.getD 0 0)
def KwSpec (P : Program) (k : FuncId) : Prop := ∀ H, CallsM P k #[] H fun r H' => r = .slice (some ⟨H.size, 0, none⟩) 20 20 /\ Bl H' H.size (sL kwL) /\ Keep (fun _ => False) H H' /\ H'.size = H.size + 1
theorem nkw_ok {P : Program} {ι : Ids} {k : FuncId} (hk : FnIs P k (c_nkw ι) r_nkw 0) : KwSpec P k := by
 intro H
 refine calls_of_vc hk (args := []) (by simp) ?_
 unfold c_nkw r_nkw
 simp only [go_sem, zS, ↓reduceIte, Za, Zb, Zc, reduceCtorEq]
 refine kont_news fun H1 b1 e1 z1 B1 K1 => ?_
 subst e1
 simp only [go_sem, zS, ↓reduceIte, Za, Zb, Zc, reduceCtorEq, kont_eq]
 exact ⟨B1, K1, z1⟩
theorem kw_sl {H : Hp} {b : Nat} (h : Bl H b (sL kwL)) : SlR H (.slice (some ⟨b, 0, none⟩) 20 20) (sL kwL) := by
 have := SlR.bl h 0 20 20 (by omega) (by rw [sL_len]; decide)
 rw [List.drop_zero, List.take_of_length_le (by rw [sL_len]; decide)] at this
 exact this
def posS (l : List (List UInt8)) (s : List UInt8) : Option Nat := l.findIdx? (· == s)
theorem posS_none {l : List (List UInt8)} {s : List UInt8} (h : ∀ j, j < l.length -> l.getD j [] ≠ s) : posS l s = none := by
 unfold posS
 rw [List.findIdx?_eq_none_iff]
 intro x hx
 obtain ⟨j, hj, rfl⟩ := List.getElem_of_mem hx
 have := h j hj
 simpa [hj] using this
theorem posS_some {l : List (List UInt8)} {s : List UInt8} {i : Nat} (hi : i < l.length) (h1 : l.getD i [] = s) (h : ∀ j, j < i -> l.getD j [] ≠ s) : posS l s = some i := by
 unfold posS
 rw [List.findIdx?_eq_some_iff_getElem]
 refine ⟨hi, ?_, fun j hj => ?_⟩
 ·simpa [hi] using h1
 ·have := h j hj
  simpa [show j < l.length by omega] using this
theorem posS_isSome (l : List (List UInt8)) (s : List UInt8) : (posS l s).isSome = decide (s ∈ l) := by
 unfold posS
 rw [List.findIdx?_isSome]
 by_cases h : s ∈ l
 ·rw [decide_eq_true h, List.any_eq_true]; exact ⟨s, h, by simp⟩
 ·rw [decide_eq_false h, List.any_eq_false]; intro x hx; simp; intro e; exact h (e ▸ hx)
def SIdxSpec (P : Program) (k : FuncId) : Prop := ∀ (l : List (List UInt8)) (s : List UInt8) (v : Value) (H : Hp), SlR H v (sL l) -> l.length <= 1000000 -> CallsM P k #[v, sV s] H fun r H' => r = .int .i64 (match posS l s with | some i => (i : Int) | none => -1) /\ H' = H
theorem sidx_ok {P : Program} {ι : Ids} {k : FuncId} (hk : FnIs P k (c_sidx ι) r_sidx 2) : SIdxSpec P k := by
 intro l s v H hv hl
 refine calls_of_vc hk (args := [_, _]) (by simp) ?_
 unfold c_sidx r_sidx
 simp only [go_sem, zS, ↓reduceIte, Za, Zb, Zc, reduceCtorEq, kont_eq, hv.isSl, hv.len, sL_len]
 refine vc_loop [9, 5, 16, 4, 8] rfl (fun n f H' => ∃ i, i <= l.length /\ n = l.length - i /\ f 8 = .int .i64 i /\ (∀ j, j < i -> l.getD j [] ≠ s) /\ H' = H) l.length
  ⟨0, by omega, by omega, rfl, fun j hj => by omega, rfl⟩ ?_
 rintro n g H' ⟨i, hi, rfl, hf8, hx, rfl⟩
 simp only [go_sem, zS, ↓reduceIte, Za, Zb, Zc, reduceCtorEq, kont_eq] at hf8
 simp only [go_sem, zS, ↓reduceIte, Za, Zb, Zc, reduceCtorEq, kont_eq, hf8]
 refine iteV_dec (fun hlt => ?_) (fun hge => ?_)
 ·have hi2 : i < l.length := by omega
  obtain ⟨b, o, c, rfl, -, hc⟩ := hv.cells (by intro e; have h := congrArg List.length e; rw [sL_len, List.length_nil] at h; omega)
  rw [sL_len] at hc
  have hci := hc i hi2
  rw [sL_get _ _ hi2] at hci
  simp (disch := omega) only [go_sem, zS, ↓reduceIte, Za, Zb, Zc, reduceCtorEq, kont_eq, hf8, sL_len, hci, tn_cast, ba_tlb]
  refine And.intro (by omega) ?_
  refine iteV_dec (fun h1 => ?_) (fun h1 => ?_)
  ·rw [posS_some hi2 h1.symm hx]
  ·simp (disch := omega) only [go_sem, zS, ↓reduceIte, Za, Zb, Zc, reduceCtorEq, kont_eq, hf8, IntWalk.i64_in]
   refine ⟨l.length - (i + 1), by omega, i + 1, by omega, rfl, by simp, fun j hj => ?_⟩
   by_cases e : j = i
   ·subst e; exact fun e => h1 e.symm
   ·exact hx j (by omega)
 ·have hi2 : i = l.length := by omega
  subst hi2
  rw [posS_none hx]
def SContSpec (P : Program) (k : FuncId) : Prop := ∀ (l : List (List UInt8)) (s : List UInt8) (v : Value) (H : Hp), SlR H v (sL l) -> l.length <= 1000000 -> CallsM P k #[v, sV s] H fun r H' => r = .bool (decide (s ∈ l)) /\ H' = H
theorem scont_ok {P : Program} {ι : Ids} {k : FuncId} (hk : FnIs P k (c_scont ι) r_scont 2) (hi : SIdxSpec P (ι.f 70)) : SContSpec P k := by
 intro l s v H hv hl
 refine calls_of_vc hk (args := [_, _]) (by simp) ?_
 unfold c_scont r_scont
 simp only [go_sem, zS, ↓reduceIte, Za, Zb, Zc, reduceCtorEq, kont_eq]
 refine (hi _ _ _ _ hv hl).mono ?_
 rintro r H' ⟨rfl, rfl⟩
 have := posS_isSome l s
 cases h : posS l s with
 | none => rw [h] at this; simp only [go_sem, zS, ↓reduceIte, Za, Zb, Zc, reduceCtorEq, kont_eq]; rw [<- this]; rfl
 | some i => rw [h] at this; simp only [go_sem, zS, ↓reduceIte, Za, Zb, Zc, reduceCtorEq, kont_eq]; rw [<- this]; simp
def LetSpec (P : Program) (k : FuncId) : Prop := bodyOk P k = true /\ ∀ (c : UInt8) (H : Hp), CallsM P k #[.int .u8 c.toNat] H fun r H' => r = .bool (letterC c) /\ H' = H
theorem nletter_ok {P : Program} {ι : Ids} {k : FuncId} (hk : FnIs P k (c_nletter ι) r_nletter 1) : LetSpec P k := by
 refine ⟨hk.body, fun c H => ?_⟩
 refine calls_of_vc hk (args := [_]) (by simp) ?_
 unfold c_nletter r_nletter
 by_cases h1 : (97 : Int) <= (c.toNat : Int) <;> by_cases h2 : (c.toNat : Int) <= 122
 all_goals
  simp only [go_sem, zS, ↓reduceIte, Za, Zb, Zc, reduceCtorEq, kont_eq, letterC, h1, h2, ge_iff_le]
  try rfl
def InnSpec (P : Program) (k m : FuncId) : Prop := bodyOk P k = true /\ ∀ (c : UInt8) (b : Nat) (H : Hp), Bl H b [.func (.func m) #[] #[]] -> CallsM P k #[.int .u8 c.toNat, .pointer (some ⟨b, 0, none⟩)] H fun r H' => r = .bool (innerC c) /\ H' = H
theorem ninner_ok {P : Program} {ι : Ids} {k m : FuncId} (hk : FnIs P k (c_ninner ι) r_ninner 2) (hl : LetSpec P m) : InnSpec P k m := by
 refine ⟨hk.body, fun c b H hB => ?_⟩
 refine calls_of_vc hk (args := [_, _]) (by simp) ?_
 unfold c_ninner r_ninner
 simp only [go_sem, zS, ↓reduceIte, Za, Zb, Zc, reduceCtorEq, kont_eq, hB.cell]
 refine ⟨hl.1, ?_⟩
 refine (hl.2 c H).mono ?_
 rintro r H' ⟨rfl, rfl⟩
 by_cases h1 : (48 : Int) <= (c.toNat : Int) <;> by_cases h2 : (c.toNat : Int) <= 57 <;> by_cases h3 : ((c.toNat : Int) == 95) = true <;> by_cases h0 : letterC c = true
 all_goals
  try (have h0 : letterC c = false := by simpa using h0)
  try (have h3 : ((c.toNat : Int) == 95) = false := by simpa using h3)
  simp only [go_sem, zS, ↓reduceIte, Za, Zb, Zc, reduceCtorEq, kont_eq, innerC, h0, h1, h2, h3, ge_iff_le]
  try rfl
def ValidSpec (P : Program) (k : FuncId) : Prop := ∀ (s : List UInt8) (H : Hp), s.length <= 1000000 -> CallsM P k #[sV s] H fun r H' => r = .bool (validF s) /\ Keep (fun _ => False) H H'
theorem validF_false {s : List UInt8} (i : Nat) (hi : i < s.length) (h : innerC (s.getD i 0) = false \/ (i = 0 /\ letterC (s.getD i 0) = false)) : validF s = false := by
 rcases h with h | ⟨rfl, h⟩
 ·have : s.all innerC = false := by
   rw [List.all_eq_false]
   refine ⟨s[i], by simp, ?_⟩
   simpa [List.getD_eq_getElem?_getD, hi] using h
  simp [validF, this]
 ·unfold validF; rw [h]; simp
theorem validF_true {s : List UInt8} (h0 : s.length ≠ 0) (h1 : s.length <= 12) (h2 : s ∉ kwL) (h3 : ∀ j, j < s.length -> innerC (s.getD j 0) = true) (h4 : letterC (s.getD 0 0) = true) : validF s = true := by
 have : s.all innerC = true := by
  rw [List.all_eq_true]
  intro x hx
  obtain ⟨j, hj, rfl⟩ := List.getElem_of_mem hx
  have := h3 j hj
  simpa [List.getD_eq_getElem?_getD, hj] using this
 unfold validF
 rw [this, h4, decide_eq_true h0, decide_eq_true h1, decide_eq_false h2]; rfl
theorem nvalid_ok {P : Program} {ι : Ids} {k : FuncId} (hk : FnIs P k (c_nvalid ι) r_nvalid 1) (hkw : KwSpec P (ι.f 68)) (hc : SContSpec P (ι.f 71)) (hl : LetSpec P (ι.f 72)) (hin : InnSpec P (ι.f 73) (ι.f 72)) : ValidSpec P k := by
 intro s H hs
 refine calls_of_vc hk (args := [_]) (by simp) ?_
 unfold c_nvalid r_nvalid
 by_cases p0 : s.length = 0
 ·have e0 : ((s.length : Int) == 0) = true := by rw [p0]; rfl
  have : validF s = false := by simp [validF, p0]
  simp only [go_sem, zS, ↓reduceIte, Za, Zb, Zc, reduceCtorEq, kont_eq, ba_size, e0, this]
  exact Keep.refl _ _
 have e0 : ((s.length : Int) == 0) = false := by
  apply beq_eq_false_iff_ne.2; omega
 by_cases p1 : (s.length : Int) > 12
 ·have : validF s = false := by
   have : ¬ s.length <= 12 := by omega
   simp [validF, this]
  simp only [go_sem, zS, ↓reduceIte, Za, Zb, Zc, reduceCtorEq, kont_eq, ba_size, e0, p1, this]
  exact Keep.refl _ _
 simp only [go_sem, zS, ↓reduceIte, Za, Zb, Zc, reduceCtorEq, kont_eq, ba_size, e0, p1]
 refine (hkw H).mono ?_
 rintro r H1 ⟨rfl, B1, K1, z1⟩
 simp only [go_sem, zS, ↓reduceIte, Za, Zb, Zc, reduceCtorEq, kont_eq]
 refine (hc kwL s _ H1 (kw_sl B1) (by decide)).mono ?_
 rintro r H2 ⟨rfl, rfl⟩
 by_cases p2 : s ∈ kwL
 ·have : validF s = false := by unfold validF; rw [decide_eq_true p2]; simp
  rw [this]
  simp only [go_sem, zS, ↓reduceIte, Za, Zb, Zc, reduceCtorEq, kont_eq, p2]
  exact K1
 simp only [go_sem, zS, ↓reduceIte, Za, Zb, Zc, reduceCtorEq, kont_eq, p2]
 generalize hA : Array.push H2 _ = H3
 have KA : Keep (fun _ => False) H2 H3 := by rw [<- hA]; exact (Keep.refl _ _).push _
 have BA : Bl H3 H2.size [.nilFunc] := by rw [<- hA]; exact Bl.new' _ _ _
 have k2 := K1.size
 have BF : Bl (setc H3 ⟨H2.size, 0, none⟩ (.func (.func (ι.f 72)) #[] #[])) H2.size [.func (.func (ι.f 72)) #[] #[]] := BA.setc 0 (.func (.func (ι.f 72)) #[] #[])
 have KF : Keep (fun _ => False) H (setc H3 ⟨H2.size, 0, none⟩ (.func (.func (ι.f 72)) #[] #[])) := (K1.trans KA).setc _ (.inr k2)
 refine ⟨BA.okSt (by simp), ?_⟩
 have hsl : s.length <= 12 := by omega
 generalize setc H3 _ _ = H4 at *
 refine vc_loop [23, 5, 42, 2, 22] rfl (fun n f H' => ∃ i, i <= s.length /\ n = s.length - i /\ f 22 = .int .i64 i /\ (∀ j, j < i -> innerC (s.getD j 0) = true) /\ (0 < i -> letterC (s.getD 0 0) = true) /\ H' = H4) s.length
  ⟨0, by omega, by omega, rfl, fun j hj => by omega, fun h => by omega, rfl⟩ ?_
 rintro n g H' ⟨i, hi, rfl, hf22, hx, hx0, rfl⟩
 simp only [go_sem, zS, ↓reduceIte, Za, Zb, Zc, reduceCtorEq, kont_eq] at hf22
 simp only [go_sem, zS, ↓reduceIte, Za, Zb, Zc, reduceCtorEq, kont_eq, hf22]
 refine iteV_dec (fun hlt => ?_) (fun hge => ?_)
 ·have hi2 : i < s.length := by omega
  have hg := ba_get s i hi2
  refine vc_drk (fun _ => False) ?_
  simp (disch := omega) only [go_sem, zS, ↓reduceIte, Za, Zb, Zc, reduceCtorEq, kont_eq, hf22, ba_size, tn_cast, hg]
  refine ⟨⟨by omega, by omega⟩, hin.1, ?_⟩
  refine (hin.2 _ _ _ BF).mono ?_
  rintro r H5 ⟨rfl, rfl⟩
  by_cases c1 : innerC (s.getD i 0) = true
  ·by_cases c2 : i = 0
   ·subst c2
    have z0 : (((0 : Nat) : Int) == 0) = true := rfl
    simp (disch := omega) only [go_sem, zS, ↓reduceIte, Za, Zb, Zc, reduceCtorEq, kont_eq, c1, z0, ba_size, tn_cast, hg, BF.cell, hf22]
    refine ⟨Keep.refl _ _, by omega, hl.1, ?_⟩
    refine (hl.2 _ _).mono ?_
    rintro r H5 ⟨rfl, rfl⟩
    by_cases c3 : letterC (s.getD 0 0) = true
    ·simp (disch := omega) only [go_sem, zS, ↓reduceIte, Za, Zb, Zc, reduceCtorEq, kont_eq, c3, hf22, IntWalk.i64_in]
     refine ⟨Keep.refl _ _, s.length - (0 + 1), by omega, 1, by omega, rfl, rfl, fun j hj => ?_⟩
     have e : j = 0 := by omega
     subst e; exact c1
    ·have c3 : letterC (s.getD 0 0) = false := by simpa using c3
     rw [validF_false 0 hi2 (.inr ⟨rfl, c3⟩)]
     simp only [go_sem, zS, ↓reduceIte, Za, Zb, Zc, reduceCtorEq, kont_eq, c3]
     exact ⟨Keep.refl _ _, KF⟩
   ·have z0 : ((i : Int) == 0) = false := by apply beq_eq_false_iff_ne.2; omega
    simp (disch := omega) only [go_sem, zS, ↓reduceIte, Za, Zb, Zc, reduceCtorEq, kont_eq, c1, z0, hf22, IntWalk.i64_in]
    refine ⟨Keep.refl _ _, s.length - (i + 1), by omega, i + 1, by omega, rfl, by simp, fun j hj => ?_, fun _ => hx0 (by omega)⟩
    by_cases e : j = i
    ·subst e; exact c1
    ·exact hx j (by omega)
  ·have c1 : innerC (s.getD i 0) = false := by simpa using c1
   rw [validF_false i hi2 (.inl c1)]
   simp only [go_sem, zS, ↓reduceIte, Za, Zb, Zc, reduceCtorEq, kont_eq, c1]
   exact ⟨Keep.refl _ _, KF⟩
 ·have hi2 : i = s.length := by omega
  subst hi2
  rw [validF_true p0 hsl p2 hx (hx0 (by omega))]
  exact ⟨rfl, KF⟩
end Go.Mg

/- Several texts of ours in one. No conditions. -/
import Derived.Test.YtgbbplbmbapejaaGreatDoorMgV9
open Nat renaming reduceEqDiff → Za, reduceAdd → Zb, reduceMul → Zc, reduceLeDiff → Zd, reduceLT → Ze
open Int renaming reduceBEq → Zf, reduceBNe → Zg, reduceLE → Zh, reduceLT → Zi
namespace Go.Mg
open Go Go.RowKit
set_option linter.all false
set_option maxRecDepth 100000
def c_smin (ι : Ids) : S :=
 .seq (.reg [.p (.v 2) (.mv (.c (.int .i64 0)))]) (.seq (.seq (.reg [.p (.t 5) (.mv (.v 0)), .p (.t 6) (.m (.lenl (.t 5))), .p (.v 7) (.cm .lss .i64 (.t 6) (.c (.int .i64 1)))]) (.ite (.v 7) (.reg [.p
 (.t 8) (.m (.mif (ι.t 67) (.c (.string ⟨#[115, 108, 105, 99, 101, 115, 46, 77, 105, 110, 58, 32, 101, 109, 112, 116, 121, 32, 108, 105, 115, 116]⟩)))), .e .no .bad]) .skip)) (.seq (.reg [.p (.t 9)
 (.mv (.v 0)), .p (.t 10) (.is 1 (.t 9) (.c (.int .i64 0))), .p (.t 11) (.ld (.t 10)), .p (.v 3) (.mv (.t 11))]) (.seq (.seq (.reg [.p (.v 4) (.mv (.c (.int .i64 1)))]) (.blk 0 (.loop (.seq (.seq (.reg
 [.p (.t 12) (.mv (.v 4)), .p (.t 13) (.mv (.v 0)), .p (.t 14) (.m (.lenl (.t 13))), .p (.v 15) (.cm .lss .i64 (.t 12) (.t 14))]) (.ite (.v 15) .skip (.exit 0))) (.seq (.blk 1 (.reg [.p (.t 18) (.mv
 (.v 3)), .p (.t 19) (.mv (.v 0)), .p (.t 20) (.mv (.v 4)), .p (.t 21) (.is 1 (.t 19) (.t 20)), .p (.t 22) (.ld (.t 21)), .p (.t 23) (.m (.mn (.t 18) (.t 22))), .p (.v 3) (.mv (.t 23))])) (.reg [.p (.t
 16) (.mv (.v 4)), .p (.t 17) (.ar .add .i64 (.t 16) (.c (.int .i64 1))), .p (.v 4) (.mv (.t 17))])))))) (.seq (.reg [.p (.t 24) (.mv (.v 3)), .p (.v 2) (.mv (.t 24))]) .ret))))
def r_smin : List RV := [.t 2]
def c_smax (ι : Ids) : S :=
 .seq (.reg [.p (.v 2) (.mv (.c (.int .i64 0)))]) (.seq (.seq (.reg [.p (.t 5) (.mv (.v 0)), .p (.t 6) (.m (.lenl (.t 5))), .p (.v 7) (.cm .lss .i64 (.t 6) (.c (.int .i64 1)))]) (.ite (.v 7) (.reg [.p
 (.t 8) (.m (.mif (ι.t 67) (.c (.string ⟨#[115, 108, 105, 99, 101, 115, 46, 77, 97, 120, 58, 32, 101, 109, 112, 116, 121, 32, 108, 105, 115, 116]⟩)))), .e .no .bad]) .skip)) (.seq (.reg [.p (.t 9) (.mv
 (.v 0)), .p (.t 10) (.is 1 (.t 9) (.c (.int .i64 0))), .p (.t 11) (.ld (.t 10)), .p (.v 3) (.mv (.t 11))]) (.seq (.seq (.reg [.p (.v 4) (.mv (.c (.int .i64 1)))]) (.blk 0 (.loop (.seq (.seq (.reg [.p
 (.t 12) (.mv (.v 4)), .p (.t 13) (.mv (.v 0)), .p (.t 14) (.m (.lenl (.t 13))), .p (.v 15) (.cm .lss .i64 (.t 12) (.t 14))]) (.ite (.v 15) .skip (.exit 0))) (.seq (.blk 1 (.reg [.p (.t 18) (.mv (.v
 3)), .p (.t 19) (.mv (.v 0)), .p (.t 20) (.mv (.v 4)), .p (.t 21) (.is 1 (.t 19) (.t 20)), .p (.t 22) (.ld (.t 21)), .p (.t 23) (.m (.mx (.t 18) (.t 22))), .p (.v 3) (.mv (.t 23))])) (.reg [.p (.t 16)
 (.mv (.v 4)), .p (.t 17) (.ar .add .i64 (.t 16) (.c (.int .i64 1))), .p (.v 4) (.mv (.t 17))])))))) (.seq (.reg [.p (.t 24) (.mv (.v 3)), .p (.v 2) (.mv (.t 24))]) .ret))))
def r_smax : List RV := [.t 2]
def c_hldC (ι : Ids) : S :=
 (.seq (.reg [.p (.t 19) (.m (.ldn 5 (.v 2))), .e (.t 20) (.call (ι.f 312) [.t 19]), .p (.t 21) (.not (.t 20)), .p (.t 22) (.mv (.t 21)), .gp (.t 23) (.t 22) false (.ld (.v 3)), .gp (.t 24) (.t 22)
 false (.m (.lenl (.t 23))), .gp (.t 25) (.t 22) false (.fa 0 (.v 2)), .gp (.t 26) (.t 22) false (.ld (.t 25)), .gp (.t 27) (.t 22) false (.m (.lenl (.t 26))), .gp (.t 28) (.t 22) false (.cm .neq .i64
 (.t 24) (.t 27)), .p (.t 29) (.pick (.t 22) (.c (.bool true)) (.t 28)), .p (.t 30) (.mv (.t 29)), .gp (.t 31) (.t 30) false (.ld (.v 3)), .ge (.t 32) (.t 30) false (.call (ι.f 316) [.t 31]), .gp (.t
 33) (.t 30) false (.cm .lss .i64 (.t 32) (.c (.int .i64 0))), .p (.t 34) (.pick (.t 30) (.c (.bool true)) (.t 33)), .p (.t 35) (.mv (.t 34)), .gp (.t 36) (.t 35) false (.ld (.v 3)), .ge (.t 37) (.t
 35) false (.call (ι.f 317) [.t 36]), .gp (.t 38) (.t 35) false (.cm .gtr .i64 (.t 37) (.c (.int .i64 256))), .p (.v 39) (.pick (.t 35) (.c (.bool true)) (.t 38))]) (.ite (.v 39) (.seq (.reg [.p (.t
 40) (.m (.bld #[.int .i64 0, .int .i64 0] [])), .e .no (.stn 2 (.v 4) (.t 40)), .e .no (.st (.v 5) (.c (.bool false)))]) .ret) .skip))
def c_hldD (ι : Ids) : S :=
 (.seq (.reg [.p (.t 49) (.ld (.v 3)), .p (.t 50) (.ia 2 1 (.v 7) (.c (.int .i64 0))), .p (.t 51) (.ld (.t 50)), .p (.t 52) (.is 1 (.t 49) (.t 51)), .p (.t 53) (.ld (.t 52)), .p (.t 54) (.ld (.v 3)),
 .p (.t 55) (.ia 2 1 (.v 7) (.c (.int .i64 1))), .p (.t 56) (.ld (.t 55)), .p (.t 57) (.is 1 (.t 54) (.t 56)), .p (.t 58) (.ld (.t 57)), .p (.v 8) (.mv (.t 53)), .p (.v 9) (.mv (.t 58))]) (.seq (.reg
 [.p (.t 59) (.mv (.v 8)), .p (.t 60) (.cm .neq .i64 (.t 59) (.c (.int .i64 0))), .p (.t 61) (.mv (.t 60)), .gp (.t 62) (.t 61) true (.mv (.v 8)), .gp (.t 63) (.t 61) true (.mv (.v 9)), .gp (.t 64) (.t
 61) true (.cm .eql .i64 (.t 62) (.t 63)), .p (.v 65) (.pick (.t 61) (.t 64) (.c (.bool false)))]) (.ite (.v 65) (.seq (.reg [.p (.t 66) (.mv (.v 6)), .p (.t 67) (.m (.bld #[.int .i64 0, .int .i64 0]
 [(0, (1, .c (.int .i64 1))), (1, (1, .t 66))])), .e .no (.stn 2 (.v 4) (.t 67)), .e .no (.st (.v 5) (.c (.bool false)))]) .ret) .skip)))
def c_hldS (ι : Ids) : S :=
 (.seq (.reg [.p (.t 77) (.ld (.v 3)), .p (.t 78) (.ia 2 1 (.v 11) (.c (.int .i64 0))), .p (.t 79) (.ld (.t 78)), .p (.t 80) (.is 1 (.t 77) (.t 79)), .p (.t 81) (.ld (.t 80)), .p (.t 82) (.ld (.v 3)),
 .p (.t 83) (.ia 2 1 (.v 11) (.c (.int .i64 1))), .p (.t 84) (.ld (.t 83)), .p (.t 85) (.is 1 (.t 82) (.t 84)), .p (.t 86) (.ld (.t 85)), .p (.v 12) (.mv (.t 81)), .p (.v 13) (.mv (.t 86))]) (.seq
 (.reg [.p (.t 87) (.mv (.v 12)), .p (.t 88) (.cm .neq .i64 (.t 87) (.c (.int .i64 0))), .p (.t 89) (.mv (.t 88)), .gp (.t 90) (.t 89) true (.mv (.v 13)), .gp (.t 91) (.t 89) true (.cm .neq .i64 (.t
 90) (.c (.int .i64 0))), .p (.t 92) (.pick (.t 89) (.t 91) (.c (.bool false))), .p (.t 93) (.mv (.t 92)), .gp (.t 94) (.t 93) true (.mv (.v 12)), .gp (.t 95) (.t 93) true (.mv (.v 13)), .gp (.t 96)
 (.t 93) true (.cm .neq .i64 (.t 94) (.t 95)), .p (.v 97) (.pick (.t 93) (.t 96) (.c (.bool false)))]) (.ite (.v 97) (.seq (.reg [.p (.t 98) (.mv (.v 10)), .p (.t 99) (.m (.bld #[.int .i64 0, .int .i64
 0] [(0, (1, .c (.int .i64 2))), (1, (1, .t 98))])), .e .no (.stn 2 (.v 4) (.t 99)), .e .no (.st (.v 5) (.c (.bool false)))]) .ret) .skip)))
def c_hldB (ι : Ids) : S :=
 (.blk 7 (.seq (.reg [.p (.t 113) (.ld (.v 3)), .p (.t 114) (.mv (.v 17)), .p (.t 115) (.is 1 (.t 113) (.t 114)), .p (.t 116) (.ld (.t 115)), .p (.v 18) (.mv (.t 116))]) (.seq (.reg [.p (.t 117) (.mv
 (.v 18)), .p (.v 118) (.cm .neq .i64 (.t 117) (.c (.int .i64 0)))]) (.ite (.v 118) (.seq (.reg [.p (.t 119) (.mv (.v 18)), .p (.t 120) (.ia 257 1 (.v 16) (.t 119)), .p (.t 121) (.ld (.t 120)), .p (.t
 122) (.ar .add .i64 (.t 121) (.c (.int .i64 1))), .p (.t 123) (.ia 257 1 (.v 16) (.t 119)), .e .no (.st (.t 123) (.t 122))]) (.seq (.dr (.px (.t 124) .none (.mv (.v 18)) (.px (.t 125) .none (.ia 257 1
 (.v 16) (.t 124)) (.px (.t 126) .none (.ld (.t 125)) (.px (.t 127) .none (.fa 0 (.v 15)) (.px (.t 128) .none (.ld (.t 127)) (.px (.v 129) .none (.cm .gtr .i64 (.t 126) (.t 128)) .done))))))) (.ite (.v
 129) (.seq (.reg [.p (.t 130) (.ld (.v 14)), .p (.t 131) (.m (.bld #[.int .i64 0, .int .i64 0] [(0, (1, .c (.int .i64 3))), (1, (1, .t 130))])), .e .no (.stn 2 (.v 4) (.t 131)), .e .no (.st (.v 5) (.c
 (.bool false)))]) .ret) .skip))) .skip))))
def c_hldM (ι : Ids) : S :=
 (.seq (.reg [.e (.v 16) (.new (ι.t 319) (Array.replicate 257 (.int .i64 0)))]) (.seq (.reg [.p (.t 109) (.fa 1 (.v 15)), .p (.t 110) (.m (.ldn 1 (.t 109))), .e (.v 111) (.call (ι.f 137) [.t 110])])
 (.blk 6 (.rf 134 (.v 111) 112 17 (c_hldB ι)))))
def c_fhld (ι : Ids) : S :=
 .seq (.reg [.e (.v 2) (.box (ι.t 296) (.v 0)), .e (.v 3) (.box (ι.t 138) (.v 1)), .e (.v 4) (.new (ι.t 318) #[.int .i64 0, .int .i64 0]), .e (.v 5) (.new (ι.t 151) #[.bool false])]) (.seq (c_hldC ι)
 (.seq (.seq (.reg [.p (.t 41) (.fa 2 (.v 2)), .p (.v 42) (.ld (.t 41)), .p (.v 43) (.m (.lenl (.v 42))), .p (.v 44) (.mv (.c (.int .i64 0)))]) (.blk 0 (.loop (.seq (.reg [.p (.v 45) (.cm .lss .i64 (.v
 44) (.v 43))]) (.seq (.ite (.v 45) .skip (.exit 0)) (.seq (.blk 1 (.seq (.reg [.p (.t 46) (.mv (.v 44)), .p (.t 47) (.is 2 (.v 42) (.v 44)), .p (.t 48) (.m (.ldn 2 (.t 47))), .e (.v 7) (.new (ι.t 194)
 #[.int .i64 0, .int .i64 0]), .p (.v 6) (.mv (.t 46)), .e .no (.stn 2 (.v 7) (.t 48))]) (c_hldD ι))) (.reg [.p (.t 68) (.ar .add .i64 (.v 44) (.c (.int .i64 1))), .p (.v 44) (.mv (.t 68))])))))))
 (.seq (.seq (.reg [.p (.t 69) (.fa 3 (.v 2)), .p (.v 70) (.ld (.t 69)), .p (.v 71) (.m (.lenl (.v 70))), .p (.v 72) (.mv (.c (.int .i64 0)))]) (.blk 2 (.loop (.seq (.reg [.p (.v 73) (.cm .lss .i64 (.v
 72) (.v 71))]) (.seq (.ite (.v 73) .skip (.exit 2)) (.seq (.blk 3 (.seq (.reg [.p (.t 74) (.mv (.v 72)), .p (.t 75) (.is 2 (.v 70) (.v 72)), .p (.t 76) (.m (.ldn 2 (.t 75))), .e (.v 11) (.new (ι.t
 194) #[.int .i64 0, .int .i64 0]), .p (.v 10) (.mv (.t 74)), .e .no (.stn 2 (.v 11) (.t 76))]) (c_hldS ι))) (.reg [.p (.t 100) (.ar .add .i64 (.v 72) (.c (.int .i64 1))), .p (.v 72) (.mv (.t
 100))]))))))) (.seq (.seq (.reg [.p (.t 101) (.fa 4 (.v 2)), .p (.v 102) (.ld (.t 101)), .p (.v 103) (.m (.lenl (.v 102))), .p (.v 104) (.mv (.c (.int .i64 0)))]) (.blk 4 (.loop (.seq (.reg [.p (.v
 105) (.cm .lss .i64 (.v 104) (.v 103))]) (.seq (.ite (.v 105) .skip (.exit 4)) (.seq (.blk 5 (.seq (.reg [.p (.t 106) (.mv (.v 104)), .p (.t 107) (.is 2 (.v 102) (.v 104)), .p (.t 108) (.m (.ldn 2 (.t
 107))), .e (.v 14) (.new (ι.t 26) #[.int .i64 0]), .e (.v 15) (.new (ι.t 298) #[.int .i64 0, .slice .none 0 0]), .e .no (.st (.v 14) (.t 106)), .e .no (.stn 2 (.v 15) (.t 108))]) (c_hldM ι))) (.reg
 [.p (.t 132) (.ar .add .i64 (.v 104) (.c (.int .i64 1))), .p (.v 104) (.mv (.t 132))]))))))) (.seq (.reg [.p (.t 133) (.m (.bld #[.int .i64 0, .int .i64 0] [])), .e .no (.stn 2 (.v 4) (.t 133)), .e
 .no (.st (.v 5) (.c (.bool true)))]) .ret)))))
def r_fhld : List RV := [.cn 4 2, .c1 5]
def MinSpec (P : Program) (k : FuncId) : Prop := ∀ (l : List Int) (v : Value) (H : Hp), SlR H v (iL l) -> l ≠ [] -> l.length <= 1000 -> CallsM P k #[v] H fun r H' => (∃ m, r = .int .i64 m /\ (m < 0 ↔ ∃ u ∈ l, u < 0)) /\ H' = H
def MaxSpec (P : Program) (k : FuncId) : Prop := ∀ (l : List Int) (v : Value) (H : Hp), SlR H v (iL l) -> l ≠ [] -> l.length <= 1000 -> CallsM P k #[v] H fun r H' => (∃ m, r = .int .i64 m /\ (256 < m ↔ ∃ u ∈ l, 256 < u)) /\ H' = H
theorem smin_ok {P : Program} {ι : Ids} {k : FuncId} (hk : FnIs P k (c_smin ι) r_smin 1) : MinSpec P k := by
 intro l v H hv hne hl
 obtain ⟨Q, hQ⟩ : ∃ Q : Value -> Hp -> Prop, Q = fun r H' => (∃ m, r = .int .i64 m /\ (m < 0 ↔ ∃ u ∈ l, u < 0)) /\ H' = H := ⟨_, rfl⟩
 rw [<- hQ]
 refine calls_of_vc hk (args := [_]) (by simp) ?_
 unfold c_smin r_smin
 have hlp : 0 < l.length := List.length_pos_iff.2 hne
 obtain ⟨b, o, c, hve, hc, hcell⟩ := hv.cells (by simpa [iL] using hne)
 rw [iL_len] at hve hcell
 have hci : ∀ i, i < l.length -> cell H ⟨b, o + i, none⟩ = some (.int .i64 (l.getD i 0)) := fun i hi => by rw [hcell i hi, iL_get _ _ hi]
 have c0 := hci 0 hlp
 rw [Nat.add_zero] at c0
 have d1 : decide ((l.length : Int) < 1) = false := decide_eq_false (by omega)
 simp -implicitDefEqProofs only [go_sem, zS, ↓reduceIte, Za, Zb, Zc, reduceCtorEq, kont_eq, zU, zV, Zf, Zg, Zh, Zi, Zd, Ze, zF, hve, d1, c0]
 refine ⟨by omega, ?_⟩
 refine vc_loop [15, 3, 4] rfl (fun m f A => ∃ (i : Nat) (x : Int), 1 <= i /\ i <= l.length /\ m = l.length - i /\ f 4 = .int .i64 (i : Int) /\ f 3 = .int .i64 x /\ (x < 0 ↔ ∃ j < i, l.getD j 0 < 0) /\ A = H) (l.length - 1) ?_ ?_
 ·exact ⟨1, l.getD 0 0, by omega, hlp, rfl, by simp -implicitDefEqProofs only [go_sem, zS, ↓reduceIte, Za, Zb, Zc, reduceCtorEq, kont_eq, zU, zV, Zf, Zg, Zh, Zi, Zd, Ze], by simp -implicitDefEqProofs only [go_sem, zS, ↓reduceIte, Za, Zb, Zc, reduceCtorEq, kont_eq, zU, zV, Zf, Zg, Zh, Zi, Zd, Ze], ⟨fun h => ⟨0, by omega, h⟩, fun ⟨j, hj, h⟩ => by rw [show j = 0 by omega] at h; exact h⟩, rfl⟩
 rintro m f A ⟨i, x, h1, hi, rfl, f4, f3, hx, rfl⟩
 simp -implicitDefEqProofs only [go_sem, zS, ↓reduceIte, Za, Zb, Zc, reduceCtorEq, kont_eq, zU, zV, Zf, Zg, Zh, Zi, Zd, Ze] at f4 f3
 simp -implicitDefEqProofs only [go_sem, zS, ↓reduceIte, Za, Zb, Zc, reduceCtorEq, kont_eq, zU, zV, Zf, Zg, Zh, Zi, Zd, Ze, zF, f4]
 refine iteV_dec (fun hlt => ?_) (fun hge => ?_)
 ·have hlt : i < l.length := by omega
  simp -implicitDefEqProofs (disch := omega) only [go_sem, zS, ↓reduceIte, Za, Zb, Zc, reduceCtorEq, kont_eq, zU, zV, Zf, Zg, Zh, Zi, Zd, Ze, zF, f3, f4, tn_cast, hci i hlt, kindOf, IntWalk.i64_in]
  refine ⟨by omega, l.length - (i + 1), by omega, i + 1, _, by omega, by omega, rfl, rfl, rfl, ?_⟩
  constructor
  ·intro h
   split at h
   ·exact ⟨i, by omega, h⟩
   ·obtain ⟨j, hj, hh⟩ := hx.1 h
    exact ⟨j, by omega, hh⟩
  ·rintro ⟨j, hj, hh⟩
   by_cases e : j = i
   ·subst e; split <;> omega
   ·have := hx.2 ⟨j, by omega, hh⟩
    split <;> omega
 ·have : i = l.length := by omega
  subst this
  simp -implicitDefEqProofs only [go_sem, zS, ↓reduceIte, Za, Zb, Zc, reduceCtorEq, kont_eq, zU, zV, Zf, Zg, Zh, Zi, Zd, Ze, f3]
  rw [hQ]
  refine ⟨⟨x, rfl, hx.trans ⟨?_, ?_⟩⟩, rfl⟩
  ·rintro ⟨j, hj, h⟩
   rw [List.getD_eq_getElem?_getD, List.getElem?_eq_getElem hj] at h
   exact ⟨_, List.getElem_mem hj, h⟩
  ·rintro ⟨u, hu, h⟩
   obtain ⟨j, hj, rfl⟩ := List.getElem_of_mem hu
   exact ⟨j, hj, by rw [List.getD_eq_getElem?_getD, List.getElem?_eq_getElem hj]; exact h⟩
theorem smax_ok {P : Program} {ι : Ids} {k : FuncId} (hk : FnIs P k (c_smax ι) r_smax 1) : MaxSpec P k := by
 intro l v H hv hne hl
 obtain ⟨Q, hQ⟩ : ∃ Q : Value -> Hp -> Prop, Q = fun r H' => (∃ m, r = .int .i64 m /\ (256 < m ↔ ∃ u ∈ l, 256 < u)) /\ H' = H := ⟨_, rfl⟩
 rw [<- hQ]
 refine calls_of_vc hk (args := [_]) (by simp) ?_
 unfold c_smax r_smax
 have hlp : 0 < l.length := List.length_pos_iff.2 hne
 obtain ⟨b, o, c, hve, hc, hcell⟩ := hv.cells (by simpa [iL] using hne)
 rw [iL_len] at hve hcell
 have hci : ∀ i, i < l.length -> cell H ⟨b, o + i, none⟩ = some (.int .i64 (l.getD i 0)) := fun i hi => by rw [hcell i hi, iL_get _ _ hi]
 have c0 := hci 0 hlp
 rw [Nat.add_zero] at c0
 have d1 : decide ((l.length : Int) < 1) = false := decide_eq_false (by omega)
 simp -implicitDefEqProofs only [go_sem, zS, ↓reduceIte, Za, Zb, Zc, reduceCtorEq, kont_eq, zU, zV, Zf, Zg, Zh, Zi, Zd, Ze, zF, hve, d1, c0]
 refine ⟨by omega, ?_⟩
 refine vc_loop [15, 3, 4] rfl (fun m f A => ∃ (i : Nat) (x : Int), 1 <= i /\ i <= l.length /\ m = l.length - i /\ f 4 = .int .i64 (i : Int) /\ f 3 = .int .i64 x /\ (256 < x ↔ ∃ j < i, 256 < l.getD j 0) /\ A = H) (l.length - 1) ?_ ?_
 ·exact ⟨1, l.getD 0 0, by omega, hlp, rfl, by simp -implicitDefEqProofs only [go_sem, zS, ↓reduceIte, Za, Zb, Zc, reduceCtorEq, kont_eq, zU, zV, Zf, Zg, Zh, Zi, Zd, Ze], by simp -implicitDefEqProofs only [go_sem, zS, ↓reduceIte, Za, Zb, Zc, reduceCtorEq, kont_eq, zU, zV, Zf, Zg, Zh, Zi, Zd, Ze], ⟨fun h => ⟨0, by omega, h⟩, fun ⟨j, hj, h⟩ => by rw [show j = 0 by omega] at h; exact h⟩, rfl⟩
 rintro m f A ⟨i, x, h1, hi, rfl, f4, f3, hx, rfl⟩
 simp -implicitDefEqProofs only [go_sem, zS, ↓reduceIte, Za, Zb, Zc, reduceCtorEq, kont_eq, zU, zV, Zf, Zg, Zh, Zi, Zd, Ze] at f4 f3
 simp -implicitDefEqProofs only [go_sem, zS, ↓reduceIte, Za, Zb, Zc, reduceCtorEq, kont_eq, zU, zV, Zf, Zg, Zh, Zi, Zd, Ze, zF, f4]
 refine iteV_dec (fun hlt => ?_) (fun hge => ?_)
 ·have hlt : i < l.length := by omega
  simp -implicitDefEqProofs (disch := omega) only [go_sem, zS, ↓reduceIte, Za, Zb, Zc, reduceCtorEq, kont_eq, zU, zV, Zf, Zg, Zh, Zi, Zd, Ze, zF, f3, f4, tn_cast, hci i hlt, kindOf, IntWalk.i64_in]
  refine ⟨by omega, l.length - (i + 1), by omega, i + 1, _, by omega, by omega, rfl, rfl, rfl, ?_⟩
  constructor
  ·intro h
   split at h
   ·exact ⟨i, by omega, h⟩
   ·obtain ⟨j, hj, hh⟩ := hx.1 h
    exact ⟨j, by omega, hh⟩
  ·rintro ⟨j, hj, hh⟩
   by_cases e : j = i
   ·subst e; split <;> omega
   ·have := hx.2 ⟨j, by omega, hh⟩
    split <;> omega
 ·have : i = l.length := by omega
  subst this
  simp -implicitDefEqProofs only [go_sem, zS, ↓reduceIte, Za, Zb, Zc, reduceCtorEq, kont_eq, zU, zV, Zf, Zg, Zh, Zi, Zd, Ze, f3]
  rw [hQ]
  refine ⟨⟨x, rfl, hx.trans ⟨?_, ?_⟩⟩, rfl⟩
  ·rintro ⟨j, hj, h⟩
   rw [List.getD_eq_getElem?_getD, List.getElem?_eq_getElem hj] at h
   exact ⟨_, List.getElem_mem hj, h⟩
  ·rintro ⟨u, hu, h⟩
   obtain ⟨j, hj, rfl⟩ := List.getElem_of_mem hu
   exact ⟨j, hj, by rw [List.getD_eq_getElem?_getD, List.getElem?_eq_getElem hj]; exact h⟩
theorem staff_cell {A : Hp} {sv : Value} {st : List Int} (hs : SlR A sv (iL st)) {a : Int} (h0 : 0 <= a) (h1 : a < st.length) : ∃ b o c, sv = .slice (some ⟨b, o, none⟩) st.length c /\ cell A ⟨b, o + a.toNat, none⟩ = some (.int .i64 (sI st a)) := by
 obtain ⟨b, o, c, hve, hc, hcell⟩ := hs.cells (by intro e; have := iL_len st; rw [e] at this; simp at this; omega)
 rw [iL_len] at hve hcell
 exact ⟨b, o, c, hve, by rw [hcell _ (by omega), iL_get _ _ (by omega)]; rfl⟩
theorem hldD_ok {P : Program} {ι : Ids} {f : Fr} {A : Hp} {b3 b4 b5 b7 i n : Nat} {sv c40 c41 c5 : Value} {x : PrN} {st : List Int} {Qb : Ex -> Fr -> Hp -> Prop} (h3 : f 3 = .pointer (some ⟨b3, 0, none⟩)) (h4 : f 4 = .pointer (some ⟨b4, 0, none⟩)) (h5 : f 5 = .pointer (some ⟨b5, 0, none⟩)) (h6 : f 6 = .int .i64 (i : Int)) (h7 : f 7 = .pointer (some ⟨b7, 0, none⟩))
  (B3 : Bl A b3 [sv]) (B4 : Bl A b4 [c40, c41]) (B5 : Bl A b5 [c5]) (h45 : b4 ≠ b5) (B7 : Bl A b7 (pE x)) (hs : SlR A sv (iL st)) (hn : st.length = n) (hx : okP (n : Int) x)
  (hT : difB st x = true -> ∀ f' A', (∀ j, j ∉ [8, 9, 65] -> f' j = f j) -> Bl A' b4 [.int .i64 1, .int .i64 (i : Int)] -> Bl A' b5 [.bool false] -> Keep (fun q => q = b4 \/ q = b5) A A' -> Qb .r f' A') (hF : difB st x = false -> ∀ f', (∀ j, j ∉ [8, 9, 65] -> f' j = f j) -> Qb .n f' A) : vc P (c_hldD ι) Qb f A := by
 unfold c_hldD
 obtain ⟨x1, x2, x3, x4⟩ := hx
 have c3 : cell A ⟨b3, 0, none⟩ = some sv := by rw [B3.cell]; rfl
 have c70 : cell A ⟨b7, 0, none⟩ = some (.int .i64 x.1) := by rw [B7.cell]; rfl
 have c71 : cell A ⟨b7, 1, none⟩ = some (.int .i64 x.2) := by rw [B7.cell]; rfl
 obtain ⟨sb, so, sc, rfl, k1⟩ := staff_cell hs x1 (by omega)
 obtain ⟨sb', so', sc', e, k2⟩ := staff_cell hs x3 (by omega)
 simp only [Value.slice.injEq, Option.some.injEq, Addr.mk.injEq, true_and, and_true] at e
 obtain ⟨⟨rfl, rfl⟩, rfl⟩ := e
 have keep : ∀ (u w z : Value), ∀ j, j ∉ [8, 9, 65] -> upd (upd (upd f 8 u) 9 w) 65 z j = f j := fun u w z j hj => by
  simp only [List.mem_cons, List.not_mem_nil, or_false, not_or] at hj
  simp only [upd, hj.1, hj.2.1, hj.2.2, if_false]
 have t4 := B4.okNA (o := 0) (n := 2) (by simp)
 have B4' := B4.stNA 0 [.int .i64 1, .int .i64 (i : Int)]
 have k4 : Keep (fun q => q = b4) A (stNA A ⟨b4, 0, none⟩ [.int .i64 1, .int .i64 (i : Int)]) := (Keep.refl _ _).stNA _ (.inl rfl)
 have B5' := k4.bl B5 (fun e => h45 e.symm)
 have t5 := B5'.okSt (o := 0) (by simp)
 have B5s := B5'.setc 0 (.bool false)
 have k5 : Keep (fun q => q = b5) (stNA A ⟨b4, 0, none⟩ [.int .i64 1, .int .i64 (i : Int)]) (setc (stNA A ⟨b4, 0, none⟩ [.int .i64 1, .int .i64 (i : Int)]) ⟨b5, 0, none⟩ (.bool false)) := (Keep.refl _ _).setc _ (.inl rfl)
 have B4s := k5.bl B4' h45
 have kk := (k4.mono fun q _ e => Or.inl (b := q = b5) e).trans (k5.mono fun q _ e => Or.inr (a := q = b4) e)
 have ha : all1 #[Value.int .i64 1, Value.int .i64 (i : Int)] := all1_of rfl
 by_cases e1 : sI st x.1 = 0
 ·have d1 : (sI st x.1 != 0) = false := by rw [e1]; rfl
  simp -implicitDefEqProofs only [go_sem, zS, ↓reduceIte, Za, Zb, Zc, reduceCtorEq, kont_eq, zU, zV, Zf, Zg, Zh, Zi, Zd, Ze, zF, h3, h7, c3, c70, c71, k1, k2, d1]
  refine ⟨by omega, by omega, hF ?_ _ (keep _ _ _)⟩
  simp [difB, e1]
 have d1 : (sI st x.1 != 0) = true := bne_iff_ne.2 e1
 by_cases e2 : sI st x.1 = sI st x.2
 ·have d2 : (sI st x.1 == sI st x.2) = true := by rw [e2]; simp
  simp -implicitDefEqProofs only [go_sem, zS, ↓reduceIte, Za, Zb, Zc, reduceCtorEq, kont_eq, zU, zV, Zf, Zg, Zh, Zi, Zd, Ze, zF, h3, h4, h5, h6, h7, c3, c70, c71, k1, k2, d1, d2, t4, t5]
  refine ⟨by omega, by omega, ha, ?_⟩
  refine hT ?_ _ _ (keep _ _ _) B4s B5s kk
  simp only [difB, Bool.and_eq_true, decide_eq_true_eq]
  exact ⟨e1, e2⟩
 ·have d2 : (sI st x.1 == sI st x.2) = false := by simp [e2]
  simp -implicitDefEqProofs only [go_sem, zS, ↓reduceIte, Za, Zb, Zc, reduceCtorEq, kont_eq, zU, zV, Zf, Zg, Zh, Zi, Zd, Ze, zF, h3, h7, c3, c70, c71, k1, k2, d1, d2]
  refine ⟨by omega, by omega, hF ?_ _ (keep _ _ _)⟩
  simp [difB, e2]
theorem hldS_ok {P : Program} {ι : Ids} {f : Fr} {A : Hp} {b3 b4 b5 b7 i n : Nat} {sv c40 c41 c5 : Value} {x : PrN} {st : List Int} {Qb : Ex -> Fr -> Hp -> Prop} (h3 : f 3 = .pointer (some ⟨b3, 0, none⟩)) (h4 : f 4 = .pointer (some ⟨b4, 0, none⟩)) (h5 : f 5 = .pointer (some ⟨b5, 0, none⟩)) (h6 : f 10 = .int .i64 (i : Int)) (h7 : f 11 = .pointer (some ⟨b7, 0, none⟩))
  (B3 : Bl A b3 [sv]) (B4 : Bl A b4 [c40, c41]) (B5 : Bl A b5 [c5]) (h45 : b4 ≠ b5) (B7 : Bl A b7 (pE x)) (hs : SlR A sv (iL st)) (hn : st.length = n) (hx : okP (n : Int) x)
  (hT : samB st x = true -> ∀ f' A', (∀ j, j ∉ [12, 13, 97] -> f' j = f j) -> Bl A' b4 [.int .i64 2, .int .i64 (i : Int)] -> Bl A' b5 [.bool false] -> Keep (fun q => q = b4 \/ q = b5) A A' -> Qb .r f' A') (hF : samB st x = false -> ∀ f', (∀ j, j ∉ [12, 13, 97] -> f' j = f j) -> Qb .n f' A) : vc P (c_hldS ι) Qb f A := by
 unfold c_hldS
 obtain ⟨x1, x2, x3, x4⟩ := hx
 have c3 : cell A ⟨b3, 0, none⟩ = some sv := by rw [B3.cell]; rfl
 have c70 : cell A ⟨b7, 0, none⟩ = some (.int .i64 x.1) := by rw [B7.cell]; rfl
 have c71 : cell A ⟨b7, 1, none⟩ = some (.int .i64 x.2) := by rw [B7.cell]; rfl
 obtain ⟨sb, so, sc, rfl, k1⟩ := staff_cell hs x1 (by omega)
 obtain ⟨sb', so', sc', e, k2⟩ := staff_cell hs x3 (by omega)
 simp only [Value.slice.injEq, Option.some.injEq, Addr.mk.injEq, true_and, and_true] at e
 obtain ⟨⟨rfl, rfl⟩, rfl⟩ := e
 have keep : ∀ (u w z : Value), ∀ j, j ∉ [12, 13, 97] -> upd (upd (upd f 12 u) 13 w) 97 z j = f j := fun u w z j hj => by
  simp only [List.mem_cons, List.not_mem_nil, or_false, not_or] at hj
  simp only [upd, hj.1, hj.2.1, hj.2.2, if_false]
 have t4 := B4.okNA (o := 0) (n := 2) (by simp)
 have B4' := B4.stNA 0 [.int .i64 2, .int .i64 (i : Int)]
 have k4 : Keep (fun q => q = b4) A (stNA A ⟨b4, 0, none⟩ [.int .i64 2, .int .i64 (i : Int)]) := (Keep.refl _ _).stNA _ (.inl rfl)
 have B5' := k4.bl B5 (fun e => h45 e.symm)
 have t5 := B5'.okSt (o := 0) (by simp)
 have B5s := B5'.setc 0 (.bool false)
 have k5 : Keep (fun q => q = b5) (stNA A ⟨b4, 0, none⟩ [.int .i64 2, .int .i64 (i : Int)]) (setc (stNA A ⟨b4, 0, none⟩ [.int .i64 2, .int .i64 (i : Int)]) ⟨b5, 0, none⟩ (.bool false)) := (Keep.refl _ _).setc _ (.inl rfl)
 have B4s := k5.bl B4' h45
 have kk := (k4.mono fun q _ e => Or.inl (b := q = b5) e).trans (k5.mono fun q _ e => Or.inr (a := q = b4) e)
 have ha : all1 #[Value.int .i64 2, Value.int .i64 (i : Int)] := all1_of rfl
 by_cases e1 : sI st x.1 = 0
 ·have d1 : (sI st x.1 != 0) = false := by rw [e1]; rfl
  simp -implicitDefEqProofs only [go_sem, zS, ↓reduceIte, Za, Zb, Zc, reduceCtorEq, kont_eq, zU, zV, Zf, Zg, Zh, Zi, Zd, Ze, zF, h3, h7, c3, c70, c71, k1, k2, d1]
  refine ⟨by omega, by omega, hF ?_ _ (keep _ _ _)⟩
  simp [samB, e1]
 have d1 : (sI st x.1 != 0) = true := bne_iff_ne.2 e1
 by_cases e0 : sI st x.2 = 0
 ·have d0 : (sI st x.2 != 0) = false := by rw [e0]; rfl
  simp -implicitDefEqProofs only [go_sem, zS, ↓reduceIte, Za, Zb, Zc, reduceCtorEq, kont_eq, zU, zV, Zf, Zg, Zh, Zi, Zd, Ze, zF, h3, h7, c3, c70, c71, k1, k2, d1, d0]
  refine ⟨by omega, by omega, hF ?_ _ (keep _ _ _)⟩
  simp [samB, e0]
 have d0 : (sI st x.2 != 0) = true := bne_iff_ne.2 e0
 by_cases e2 : sI st x.1 = sI st x.2
 ·have d2 : (sI st x.1 != sI st x.2) = false := by rw [e2]; simp
  simp -implicitDefEqProofs only [go_sem, zS, ↓reduceIte, Za, Zb, Zc, reduceCtorEq, kont_eq, zU, zV, Zf, Zg, Zh, Zi, Zd, Ze, zF, h3, h7, c3, c70, c71, k1, k2, d1, d0, d2]
  refine ⟨by omega, by omega, hF ?_ _ (keep _ _ _)⟩
  simp [samB, e2]
 ·have d2 : (sI st x.1 != sI st x.2) = true := bne_iff_ne.2 e2
  simp -implicitDefEqProofs only [go_sem, zS, ↓reduceIte, Za, Zb, Zc, reduceCtorEq, kont_eq, zU, zV, Zf, Zg, Zh, Zi, Zd, Ze, zF, h3, h4, h5, h6, h7, c3, c70, c71, k1, k2, d1, d0, d2, t4, t5]
  refine ⟨by omega, by omega, ha, ?_⟩
  refine hT ?_ _ _ (keep _ _ _) B4s B5s kk
  simp only [samB, Bool.and_eq_true, decide_eq_true_eq]
  exact ⟨⟨e1, e0⟩, e2⟩
theorem hldB_ok {P : Program} {ι : Ids} {f : Fr} {A : Hp} {b3 b4 b5 b14 b15 b16 i kk : Nat} {sv c40 c41 c5 : Value} {K : Int} {mv : Value} {st T : List Int} {Qb : Ex -> Fr -> Hp -> Prop} (h3 : f 3 = .pointer (some ⟨b3, 0, none⟩)) (h4 : f 4 = .pointer (some ⟨b4, 0, none⟩)) (h5 : f 5 = .pointer (some ⟨b5, 0, none⟩)) (h14 : f 14 = .pointer (some ⟨b14, 0, none⟩)) (h15 : f 15 = .pointer (some ⟨b15, 0, none⟩)) (h16 : f 16 = .pointer (some ⟨b16, 0, none⟩)) (h17 : f 17 = .int .i64 (kk : Int))
  (B3 : Bl A b3 [sv]) (B4 : Bl A b4 [c40, c41]) (B5 : Bl A b5 [c5]) (h45 : b4 ≠ b5) (B14 : Bl A b14 [.int .i64 (i : Int)]) (B15 : Bl A b15 [.int .i64 K, mv]) (B16 : Bl A b16 (iL T)) (d4 : b4 ≠ b16) (d5 : b5 ≠ b16) (d14 : b14 ≠ b16) (d15 : b15 ≠ b16) (hs : SlR A sv (iL st)) (hkk : kk < st.length) (hT : T.length = 257) (hu0 : 0 <= st.getD kk 0) (hu1 : st.getD kk 0 <= 256)
  (hb0 : 0 <= T.getD (st.getD kk 0).toNat 0) (hb1 : T.getD (st.getD kk 0).toNat 0 <= 10000)
  (hR : st.getD kk 0 ≠ 0 -> K < T.getD (st.getD kk 0).toNat 0 + 1 -> ∀ f' A', Bl A' b4 [.int .i64 3, .int .i64 (i : Int)] -> Bl A' b5 [.bool false] -> Keep (fun q => q = b4 \/ q = b5 \/ q = b16) A A' -> Qb .r f' A')
  (hN : st.getD kk 0 ≠ 0 -> ¬ K < T.getD (st.getD kk 0).toNat 0 + 1 -> ∀ f' A', Bl A' b16 (iL (T.set (st.getD kk 0).toNat (T.getD (st.getD kk 0).toNat 0 + 1))) -> Keep (fun q => q = b16) A A' -> Qb .n f' A')
  (h0 : st.getD kk 0 = 0 -> ∀ f', Qb .n f' A) : vc P (c_hldB ι) Qb f A := by
 unfold c_hldB
 have c3 : cell A ⟨b3, 0, none⟩ = some sv := by rw [B3.cell]; rfl
 obtain ⟨sb, so, sc, rfl, k1⟩ := staff_cell (a := (kk : Int)) hs (by omega) (by omega)
 have hsi : sI st (kk : Int) = st.getD kk 0 := rfl
 rw [hsi, Int.toNat_natCast] at k1
 obtain ⟨u, hu⟩ : ∃ u, u = st.getD kk 0 := ⟨_, rfl⟩
 rw [<- hu] at k1 hu0 hu1 hb0 hb1 hR hN h0
 by_cases e1 : u = 0
 ·have d1 : (u != 0) = false := by rw [e1]; rfl
  simp -implicitDefEqProofs only [go_sem, zS, ↓reduceIte, Za, Zb, Zc, reduceCtorEq, kont_eq, zU, zV, Zf, Zg, Zh, Zi, Zd, Ze, zF, h3, h17, c3, tn_cast, k1, d1]
  exact ⟨by omega, h0 e1 _⟩
 have d1 : (u != 0) = true := bne_iff_ne.2 e1
 have hul : u.toNat < T.length := by omega
 have cu : cell A ⟨b16, u.toNat, none⟩ = some (.int .i64 (T.getD u.toNat 0)) := by rw [B16.cell, iL_get _ _ hul]
 have w1 : IntKind.i64.wrap (T.getD u.toNat 0 + 1) = T.getD u.toNat 0 + 1 := IntWalk.i64_in _ (by omega)
 have tu := B16.okSt (o := u.toNat) (by rw [iL_len]; exact hul)
 have Bu := B16.setc u.toNat (.int .i64 (T.getD u.toNat 0 + 1))
 rw [iL_set] at Bu
 have ku : Keep (fun q => q = b16) A (setc A ⟨b16, u.toNat, none⟩ (.int .i64 (T.getD u.toNat 0 + 1))) := (Keep.refl _ _).setc _ (.inl rfl)
 have hulr : 0 <= u /\ u < ((257 : Nat) : Int) := by omega
 simp -implicitDefEqProofs only [go_sem, zS, ↓reduceIte, Za, Zb, Zc, reduceCtorEq, kont_eq, zU, zV, Zf, Zg, Zh, Zi, Zd, Ze, zF, h3, h16, h17, c3, tn_cast, k1, d1, cu, w1, tu, hulr]
 refine ⟨by omega, by omega, by omega, ?_⟩
 generalize setc A ⟨b16, u.toNat, none⟩ (.int .i64 (T.getD u.toNat 0 + 1)) = A1 at Bu ku ⊢
 have B15' := ku.bl B15 d15
 have B14' := ku.bl B14 d14
 have B4' := ku.bl B4 d4
 have B5' := ku.bl B5 d5
 have cu1 : cell A1 ⟨b16, u.toNat, none⟩ = some (.int .i64 (T.getD u.toNat 0 + 1)) := by
  rw [Bu.cell, iL_get _ _ (by simpa using hul), List.getD_eq_getElem?_getD, List.getElem?_set_self hul]; rfl
 have c15 : cell A1 ⟨b15, 0, none⟩ = some (.int .i64 K) := by rw [B15'.cell]; rfl
 have c14 : cell A1 ⟨b14, 0, none⟩ = some (.int .i64 (i : Int)) := by rw [B14'.cell]; rfl
 refine vc_drk (fun _ => False) ?_
 by_cases e2 : T.getD u.toNat 0 + 1 > K
 ·have d2 : decide (T.getD u.toNat 0 + 1 > K) = true := decide_eq_true e2
  have t4 := B4'.okNA (o := 0) (n := 2) (by simp)
  have B4w := B4'.stNA 0 [.int .i64 3, .int .i64 (i : Int)]
  have k4 : Keep (fun q => q = b4) A1 (stNA A1 ⟨b4, 0, none⟩ [.int .i64 3, .int .i64 (i : Int)]) := (Keep.refl _ _).stNA _ (.inl rfl)
  have B5'' := k4.bl B5' (fun e => h45 e.symm)
  have t5 := B5''.okSt (o := 0) (by simp)
  have B5s := B5''.setc 0 (.bool false)
  have k5 : Keep (fun q => q = b5) (stNA A1 ⟨b4, 0, none⟩ [.int .i64 3, .int .i64 (i : Int)]) (setc (stNA A1 ⟨b4, 0, none⟩ [.int .i64 3, .int .i64 (i : Int)]) ⟨b5, 0, none⟩ (.bool false)) := (Keep.refl _ _).setc _ (.inl rfl)
  have B4s := k5.bl B4w h45
  have ha : all1 #[Value.int .i64 3, Value.int .i64 (i : Int)] := all1_of rfl
  simp -implicitDefEqProofs only [go_sem, zS, ↓reduceIte, Za, Zb, Zc, reduceCtorEq, kont_eq, zU, zV, Zf, Zg, Zh, Zi, Zd, Ze, zF, h4, h5, h14, h15, h16, cu1, c14, c15, hulr, d2, t4, t5]
  exact ⟨by omega, ha, hR e1 (by omega) _ _ B4s B5s ((ku.mono fun q _ e => .inr (.inr e)).trans ((k4.mono fun q _ e => .inl e).trans (k5.mono fun q _ e => .inr (.inl e))))⟩
 ·have d2 : decide (T.getD u.toNat 0 + 1 > K) = false := decide_eq_false e2
  simp -implicitDefEqProofs only [go_sem, zS, ↓reduceIte, Za, Zb, Zc, reduceCtorEq, kont_eq, zU, zV, Zf, Zg, Zh, Zi, Zd, Ze, zF, h15, h16, cu1, c15, hulr, d2]
  exact ⟨by omega, hN e1 (by omega) _ _ Bu ku⟩
end Go.Mg
namespace Go.Mg
open Go Go.RowKit
set_option linter.all false
set_option maxRecDepth 100000
def tmN (s : List Int) (m : UInt64) (k : Nat) (u : Int) : Nat := (((mems (bt m)).take k).filter fun x => decide (s.getD x 0 = u)).length
theorem tmN_0 (s : List Int) (m : UInt64) (u : Int) : tmN s m 0 u = 0 := rfl
theorem tmN_succ {s : List Int} {m : UInt64} {k : Nat} (hk : k < (mems (bt m)).length) (u : Int) : tmN s m (k + 1) u = tmN s m k u + if s.getD (mems (bt m))[k] 0 = u then 1 else 0 := by
 unfold tmN
 rw [List.take_succ_eq_append_getElem hk, List.filter_append, List.length_append]
 congr 1
 simp only [List.filter_cons, List.filter_nil, decide_eq_true_eq]
 split <;> simp
theorem tmN_mono {s : List Int} {m : UInt64} {u : Int} {a : Nat} : ∀ {b : Nat}, a <= b -> tmN s m a u <= tmN s m b u
  | 0, h => by have : a = 0 := by omega
               subst this; exact Nat.le_refl _
  | b + 1, h => by
    by_cases e : a = b + 1
    · rw [e]; exact Nat.le_refl _
    · refine Nat.le_trans (tmN_mono (show a <= b by omega)) ?_
      by_cases hb : b < (mems (bt m)).length
      · rw [tmN_succ hb]; omega
      · unfold tmN
        rw [List.take_of_length_le (show (mems (bt m)).length <= b + 1 by omega), List.take_of_length_le (show (mems (bt m)).length <= b by omega)]
        exact Nat.le_refl _
theorem tmN_le (s : List Int) (m : UInt64) (k : Nat) (u : Int) : tmN s m k u <= 4096 := by
 unfold tmN
 refine Nat.le_trans (List.length_filter_le _ _) ?_
 rw [List.length_take]
 have := cn_le 4096 (bt m)
 have := mems_length (bt m)
 omega
theorem tmN_all {s : List Int} {m : UInt64} (hs : s.length <= 10) (hm : m.toNat < 2 ^ s.length) (u : Int) : tmN s m (mems (bt m)).length u = usN s m u s.length := by
 unfold tmN usN mems
 rw [List.take_length, List.filter_filter, filter_lt_cn]
 rw [cn_range (a := s.length) (b := 4096) (by omega)]
 ·exact cn_congr fun i _ => Bool.and_comm _ _
 ·intro i h1 h2
  have : bt m i = false := by
   cases hb : bt m i with
   | false => rfl
   | true =>
    have := (bt_within (n := s.length) (by omega)).2 hm i hb
    simp at this; omega
  rw [this, Bool.and_false]
theorem mosB_hit {s : List Int} {K : Int} {m : UInt64} (hs : s.length <= 10) (hm : m.toNat < 2 ^ s.length) {k i : Nat} (hi : i < s.length) (h0 : s.getD i 0 ≠ 0) (h : K < (tmN s m k (s.getD i 0) : Int)) : mosB s (K, m) = true := by
 unfold mosB
 refine List.any_eq_true.2 ⟨s.getD i 0, ?_, ?_⟩
 ·rw [List.getD_eq_getElem?_getD, List.getElem?_eq_getElem hi]; exact List.getElem_mem _
 ·simp only [Bool.and_eq_true, decide_eq_true_eq]
  refine ⟨h0, ?_⟩
  have h1 : tmN s m k (s.getD i 0) <= usN s m (s.getD i 0) s.length := by
   rw [<- tmN_all hs hm]
   by_cases hk : k <= (mems (bt m)).length
   ·exact tmN_mono hk
   ·unfold tmN
    rw [List.take_of_length_le (show (mems (bt m)).length <= k by omega), List.take_length]
    exact Nat.le_refl _
  omega
theorem mosB_miss {s : List Int} {K : Int} {m : UInt64} (hs : s.length <= 10) (hm : m.toNat < 2 ^ s.length) (hr : ∀ u ∈ s, 0 <= u /\ u <= 256) (h : ∀ u : Int, 0 <= u -> u <= 256 -> u ≠ 0 -> (tmN s m (mems (bt m)).length u : Int) <= K) : mosB s (K, m) = false := by
 unfold mosB
 refine List.any_eq_false.2 fun u hu => ?_
 simp only [Bool.and_eq_true, decide_eq_true_eq, not_and, Int.not_lt]
 intro h0
 have := h u (hr u hu).1 (hr u hu).2 h0
 rwa [tmN_all hs hm] at this
theorem hldC_ok {P : Program} {ι : Ids} (hg : FGoodSpec P ι (ι.f 312)) (hmi : MinSpec P (ι.f 316)) (hma : MaxSpec P (ι.f 317)) {f : Fr} {A : Hp} {b2 b3 b4 b5 : Nat} {s b d a m sv : Value} {F : FlN} {st : List Int} {Qb : Ex -> Fr -> Hp -> Prop}
  (h2 : f 2 = .pointer (some ⟨b2, 0, none⟩)) (h3 : f 3 = .pointer (some ⟨b3, 0, none⟩)) (h4 : f 4 = .pointer (some ⟨b4, 0, none⟩)) (h5 : f 5 = .pointer (some ⟨b5, 0, none⟩))
  (B2 : Bl A b2 [s, b, d, a, m]) (B3 : Bl A b3 [sv]) (B4 : Bl A b4 [.int .i64 0, .int .i64 0]) (B5 : Bl A b5 [.bool false]) (h45 : b4 ≠ b5) (hv : ProFl A (.agg #[s, b, d, a, m]) F) (hok : okF F = true) (hs : SlR A sv (iL st)) (hT : TabOk ι A) (is0 : isSl s) (ls0 : lenV s = F.st.length)
  (hN : fitB F.st.length st = true -> ∀ f' A', (∀ j, j ≠ 39 -> f' j = f j) -> Keep (fun _ => False) A A' -> Qb .n f' A')
  (hR : fitB F.st.length st = false -> ∀ f' A', (∀ j, j ≠ 39 -> f' j = f j) -> Bl A' b4 [.int .i64 0, .int .i64 0] -> Bl A' b5 [.bool false] -> Keep (fun q => q = b4 \/ q = b5) A A' -> Qb .r f' A') : vc P (c_hldC ι) Qb f A := by
 unfold c_hldC
 have hG := okF_good hok
 have hn := hG.lt
 have hne : 0 < F.st.length := List.length_pos_iff.2 hG.ne
 have keep : ∀ (z : Value), ∀ j, j ≠ 39 -> upd f 39 z j = f j := fun z j hj => by simp only [upd, hj, if_false]
 have out : ∀ A1, Keep (fun _ => False) A A1 -> fitB F.st.length st = false -> okNA A1 ⟨b4, 0, none⟩ 2 /\ ((cell (stNA A1 ⟨b4, 0, none⟩ [.int .i64 0, .int .i64 0]) ⟨b5, 0, none⟩).isSome = true /\ frz (stNA A1 ⟨b4, 0, none⟩ [.int .i64 0, .int .i64 0]) ⟨b5, 0, none⟩ = false) /\ ∀ z, Qb .r (upd f 39 z) (setc (stNA A1 ⟨b4, 0, none⟩ [.int .i64 0, .int .i64 0]) ⟨b5, 0, none⟩ (.bool false)) := fun A1 K1 hf => by
  have B41 := K1.bl B4 (by simp)
  have B51 := K1.bl B5 (by simp)
  have B4w := B41.stNA 0 [.int .i64 0, .int .i64 0]
  have k4 : Keep (fun q => q = b4) A1 (stNA A1 ⟨b4, 0, none⟩ [.int .i64 0, .int .i64 0]) := (Keep.refl _ _).stNA _ (.inl rfl)
  have B5' := k4.bl B51 (fun e => h45 e.symm)
  have B5s := B5'.setc 0 (.bool false)
  have k5 : Keep (fun q => q = b5) (stNA A1 ⟨b4, 0, none⟩ [.int .i64 0, .int .i64 0]) (setc (stNA A1 ⟨b4, 0, none⟩ [.int .i64 0, .int .i64 0]) ⟨b5, 0, none⟩ (.bool false)) := (Keep.refl _ _).setc _ (.inl rfl)
  exact ⟨B41.okNA (o := 0) (n := 2) (by simp), B5'.okSt (o := 0) (by simp), fun z => hR hf _ _ (keep z) (k5.bl B4w h45) B5s ((K1.any.trans (k4.mono fun q _ e => .inl e)).trans (k5.mono fun q _ e => .inr e))⟩
 have ha : all1 #[Value.int .i64 0, Value.int .i64 0] := all1_of rfl
 simp -implicitDefEqProofs only [go_sem, zS, ↓reduceIte, Za, Zb, Zc, reduceCtorEq, kont_eq, zU, zV, Zf, Zg, Zh, Zi, Zd, Ze, zF, h2, B2.ldNO 5 rfl]
 refine (hg F _ A hT hv).mono ?_
 rintro r A1 ⟨rfl, K1⟩
 have c3 : cell A1 ⟨b3, 0, none⟩ = some sv := by rw [(K1.bl B3 (by simp)).cell]; rfl
 have c2 : cell A1 ⟨b2, 0, none⟩ = some s := by rw [(K1.bl B2 (by simp)).cell]; rfl
 have hls : lenV sv = st.length := by rw [hs.len, iL_len]
 rw [kont_eq, hok]
 by_cases e1 : st.length = F.st.length
 case neg =>
  have d1 : ((st.length : Int) != (F.st.length : Int)) = true := bne_iff_ne.2 (by omega)
  obtain ⟨t1, t2, t3⟩ := out A1 K1 (by unfold fitB; simp [e1])
  simp -implicitDefEqProofs only [go_sem, zS, ↓reduceIte, Za, Zb, Zc, reduceCtorEq, kont_eq, zU, zV, Zf, Zg, Zh, Zi, Zd, Ze, zF, Bool.not_true, h2, h3, h4, h5, c3, c2, hs.isSl, hls, is0, ls0, d1, t1, t2]
  exact ⟨ha, t3 _⟩
 have d1 : ((st.length : Int) != (F.st.length : Int)) = false := by rw [e1]; simp
 have hns : st ≠ [] := fun e => by rw [e] at e1; simp at e1; omega
 simp -implicitDefEqProofs only [go_sem, zS, ↓reduceIte, Za, Zb, Zc, reduceCtorEq, kont_eq, zU, zV, Zf, Zg, Zh, Zi, Zd, Ze, zF, Bool.not_true, h2, h3, h4, h5, c3, c2, hs.isSl, hls, is0, ls0, d1]
 refine (hmi st sv A1 (hs.keep K1 (by simp)) hns (by omega)).mono ?_
 rintro r A2 ⟨⟨mi, rfl, hmi⟩, rfl⟩
 rw [kont_eq]
 by_cases e2 : mi < 0
 ·have d2 : decide (mi < 0) = true := decide_eq_true e2
  obtain ⟨t1, t2, t3⟩ := out A2 K1 (by
   obtain ⟨u, hu, hlt⟩ := hmi.1 e2
   unfold fitB
   rw [Bool.and_eq_false_iff]; left
   rw [List.all_eq_false]
   exact ⟨u, hu, by simp; omega⟩)
  simp -implicitDefEqProofs only [go_sem, zS, ↓reduceIte, Za, Zb, Zc, reduceCtorEq, kont_eq, zU, zV, Zf, Zg, Zh, Zi, Zd, Ze, zF, Bool.not_true, h2, h3, h4, h5, c3, c2, d2, t1, t2]
  exact ⟨ha, t3 _⟩
 have d2 : decide (mi < 0) = false := decide_eq_false e2
 simp -implicitDefEqProofs only [go_sem, zS, ↓reduceIte, Za, Zb, Zc, reduceCtorEq, kont_eq, zU, zV, Zf, Zg, Zh, Zi, Zd, Ze, zF, Bool.not_true, h2, h3, h4, h5, c3, c2, d2]
 refine (hma st sv A2 (hs.keep K1 (by simp)) hns (by omega)).mono ?_
 rintro r A3 ⟨⟨mx, rfl, hmx⟩, rfl⟩
 rw [kont_eq]
 by_cases e3 : mx > 256
 ·have d3 : decide (mx > 256) = true := decide_eq_true e3
  obtain ⟨t1, t2, t3⟩ := out A3 K1 (by
   obtain ⟨u, hu, hlt⟩ := hmx.1 e3
   unfold fitB
   rw [Bool.and_eq_false_iff]; left
   rw [List.all_eq_false]
   exact ⟨u, hu, by simp; omega⟩)
  simp -implicitDefEqProofs only [go_sem, zS, ↓reduceIte, Za, Zb, Zc, reduceCtorEq, kont_eq, zU, zV, Zf, Zg, Zh, Zi, Zd, Ze, zF, Bool.not_true, h2, h3, h4, h5, c3, c2, d3, t1, t2]
  exact ⟨ha, t3 _⟩
 have d3 : decide (mx > 256) = false := decide_eq_false e3
 simp -implicitDefEqProofs only [go_sem, zS, ↓reduceIte, Za, Zb, Zc, reduceCtorEq, kont_eq, zU, zV, Zf, Zg, Zh, Zi, Zd, Ze, zF, Bool.not_true, h2, h3, h4, h5, c3, c2, d3]
 refine hN ?_ _ A3 (keep _) K1
 unfold fitB
 rw [decide_eq_true e1, Bool.and_true, List.all_eq_true]
 intro u hu
 have h1 : ¬ u < 0 := fun h => e2 (hmi.2 ⟨u, hu, h⟩)
 have h2 : ¬ 256 < u := fun h => e3 (hmx.2 ⟨u, hu, h⟩)
 simp; omega
theorem getD_rep (n k : Nat) : (List.replicate n (0 : Int)).getD k 0 = 0 := by
 rw [List.getD_eq_getElem?_getD, List.getElem?_replicate]
 split <;> rfl
theorem hldM_ok {P : Program} {ι : Ids} (hba : BAllSpec P (ι.f 137) (ι.f 136)) (hb1 : bodyOk P (ι.f 136) = true) (hY : FnIsY P (ι.f 136) (c_ball1 ι) r_ball1 2) (htz : TzSpec P ι (ι.f 126)) {f : Fr} {A : Hp} {b3 b4 b5 b14 b15 i : Nat} {sv c40 c41 c5 : Value} {K : Int} {mv : Value} {m : UInt64} {st : List Int} {Qb : Ex -> Fr -> Hp -> Prop}
  (h3 : f 3 = .pointer (some ⟨b3, 0, none⟩)) (h4 : f 4 = .pointer (some ⟨b4, 0, none⟩)) (h5 : f 5 = .pointer (some ⟨b5, 0, none⟩)) (h14 : f 14 = .pointer (some ⟨b14, 0, none⟩)) (h15 : f 15 = .pointer (some ⟨b15, 0, none⟩))
  (B3 : Bl A b3 [sv]) (B4 : Bl A b4 [c40, c41]) (B5 : Bl A b5 [c5]) (B14 : Bl A b14 [.int .i64 (i : Int)]) (B15 : Bl A b15 [.int .i64 K, mv]) (h45 : b4 ≠ b5) (h3n : b3 ≠ b4 /\ b3 ≠ b5) (h14n : b14 ≠ b4 /\ b14 ≠ b5) (h15n : b15 ≠ b4 /\ b15 ≠ b5)
  (hs : SlR A sv (iL st)) (hsn : ∀ q, slB sv q -> q ≠ b4 /\ q ≠ b5) (hm : SetM A (.agg #[mv]) (bt m)) (hmn : ∀ q, slB mv q -> q ≠ b4 /\ q ≠ b5) (hT : TabOk ι A) (hTn : ∀ A', Keep (fun q => q = b4 \/ q = b5 \/ A.size <= q) A A' -> TabOk ι A')
  (hl : st.length <= 10) (hK : 1 <= K) (hmt : m.toNat < 2 ^ st.length) (hr : ∀ u ∈ st, 0 <= u /\ u <= 256)
  (hR : mosB st (K, m) = true -> ∀ f' A' q, (∀ j, j ∉ [16, 111, 134] -> f' j = f j) -> f' 134 = addM (f 134) q -> A.size <= q -> A'[q]? = some (.deferred (some [])) -> Bl A' b4 [.int .i64 3, .int .i64 (i : Int)] -> Bl A' b5 [.bool false] -> Keep (fun q => q = b4 \/ q = b5) A A' -> Qb .r f' A')
  (hN : mosB st (K, m) = false -> ∀ f' A' q, (∀ j, j ∉ [16, 111, 134] -> f' j = f j) -> f' 134 = addM (f 134) q -> A.size <= q -> A'[q]? = some (.deferred (some [])) -> Bl A' b4 [c40, c41] -> Bl A' b5 [c5] -> Keep (fun q => q = b4 \/ q = b5) A A' -> Qb .n f' A') : vc P (c_hldM ι) Qb f A := by
 unfold c_hldM
 have s4 := B4.lt
 have s5 := B5.lt
 have s3 := B3.lt
 have s14 := B14.lt
 have s15 := B15.lt
 simp -implicitDefEqProofs only [go_sem, zS, ↓reduceIte, Za, Zb, Zc, reduceCtorEq, zU, zV, Zf, Zg, Zh, Zi, Zd, Ze, zF]
 refine kont_new fun H1 b16 e16 z16 B16 K1 => ?_
 rw [Array.toList_replicate, iL_rep] at B16
 have B151 := K1.bl B15 (by simp)
 have mS : ldNA H1 ⟨b15, 1, none⟩ 1 = some #[mv] := by
  have := B151.ldNA (o := 1) (n := 1) (by simp)
  simpa using this
 simp -implicitDefEqProofs only [go_sem, zS, ↓reduceIte, Za, Zb, Zc, reduceCtorEq, kont_eq, zU, zV, Zf, Zg, Zh, Zi, Zd, Ze, zF, h15, ldNO_ptr, mS]
 refine (hba mv H1).mono ?_
 rintro r H2 ⟨rfl, Bs, K2, z2⟩
 rw [kont_eq]
 have K02 := K1.trans K2
 have B32 := K02.bl B3 (by simp)
 have B42 := K02.bl B4 (by simp)
 have B52 := K02.bl B5 (by simp)
 have B142 := K02.bl B14 (by simp)
 have B152 := K2.bl B151 (by simp)
 have B162 := K2.bl B16 (by simp)
 have s16 := B16.lt
 obtain ⟨u, W0, hu, hV⟩ := hm
 simp only [Value.agg.injEq, Array.mk.injEq, List.cons.injEq, and_true] at hu
 rw [<- hu] at hV
 have hmo : ∀ q, slB mv q -> q < A.size := fun q hq => SetM.old (x := .agg #[mv]) ⟨mv, W0, rfl, hV⟩ (k := q) hq
 have hV2 := hV.keep K02 (by simp)
 have hso : ∀ q, slB sv q -> q < A.size := fun q hq => hs.old hq
 have hs2 := hs.keep K02 (by simp)
 simp -implicitDefEqProofs only [go_sem, zS, ↓reduceIte, Za, Zb, Zc, reduceCtorEq, kont_eq, zU, zV, Zf, Zg, Zh, Zi, Zd, Ze]
 refine vc_rf (fun p => p = b4 \/ p = b5 \/ p = b16) (fun k A => ∃ T, Bl A b16 (iL T) /\ T.length = 257 /\ (∀ u : Int, 0 <= u -> u <= 256 -> u ≠ 0 -> T.getD u.toNat 0 = (tmN st m k u : Int) /\ (tmN st m k u : Int) <= K) /\ T.getD 0 0 = 0 /\ Bl A b4 [c40, c41] /\ Bl A b5 [c5])
  (fun e A => e = .r /\ mosB st (K, m) = true /\ Bl A b4 [.int .i64 3, .int .i64 (i : Int)] /\ Bl A b5 [.bool false]) (G := fun H => TabOk ι H /\ Bl H H1.size [mv] /\ SetV H mv W0 (bt m)) (by simp -implicitDefEqProofs only [go_sem, zS, ↓reduceIte, Za, Zb, Zc, reduceCtorEq, kont_eq, zU, zV, Zf, Zg, Zh, Zi, Zd, Ze]; rfl) hb1 (ball1_ok hY htz) ?_ ?_ ?_ ?_ ?_ ?_ ?_ ?_
 ·rintro p (rfl | rfl | rfl) <;> omega
 ·rintro k X KX _
  refine ⟨hTn X (K02.any.trans (KX.mono fun q _ h => ?_)), KX.bl Bs (by omega), hV2.keep KX fun q hq h => ?_⟩
  ·rcases h with h | h | h
   ·exact .inl h
   ·exact .inr (.inl h)
   ·exact .inr (.inr (by omega))
  ·have := hmn q hq
   have := hmo q hq
   omega
 ·intro X KX hs0
  exact ⟨_, KX.bl B162 (by simp), by simp, fun u _ hu h0 => ⟨by rw [tmN_0, getD_rep]; rfl, by rw [tmN_0]; omega⟩, getD_rep _ _, KX.bl B42 (by simp), KX.bl B52 (by simp)⟩
 ·rintro k X X2 hs0 KX ⟨T, j1, j2, j3, j4, j5, j6⟩ KK
  exact ⟨T, KK.bl j1 (by omega), j2, j3, j4, KK.bl j5 (by omega), KK.bl j6 (by omega)⟩
 ·rintro e X X2 hs0 KX ⟨j1, j2, j3, j4⟩ KK
  exact ⟨j1, j2, KK.bl j3 (by omega), KK.bl j4 (by omega)⟩
 ·rintro k X hk KX hs0 ⟨T, j1, j2, j3, j4, j5, j6⟩
  have hkl : k < (mems (bt m)).length := by simpa [memL] using hk
  obtain ⟨x, hx⟩ : ∃ x, x = (mems (bt m))[k] := ⟨_, rfl⟩
  have hxv : (memL (bt m)).getD k undef = .int .i64 (x : Int) := by
   rw [List.getD_eq_getElem?_getD, List.getElem?_eq_getElem hk]
   simp [memL, hx]
  rw [hxv]
  have hxm : bt m x = true := (mem_mems.1 (show x ∈ mems (bt m) by rw [hx]; exact List.getElem_mem _)).2
  have hxl : x < st.length := by
   have := (bt_within (n := st.length) (by omega)).2 hmt x hxm
   simpa using this
  have hxr := hr (st.getD x 0) (by rw [List.getD_eq_getElem?_getD, List.getElem?_eq_getElem hxl]; exact List.getElem_mem _)
  have hval : 0 <= T.getD (st.getD x 0).toNat 0 /\ T.getD (st.getD x 0).toNat 0 <= 10000 /\ (st.getD x 0 ≠ 0 -> T.getD (st.getD x 0).toNat 0 = (tmN st m k (st.getD x 0) : Int)) := by
   by_cases e0 : st.getD x 0 = 0
   ·rw [e0]
    have : T.getD (0 : Int).toNat 0 = 0 := j4
    rw [this]
    exact ⟨by omega, by omega, fun h => absurd rfl h⟩
   ·obtain ⟨v1, _⟩ := j3 _ hxr.1 hxr.2 e0
    have := tmN_le st m k (st.getD x 0)
    rw [v1]
    exact ⟨by omega, by omega, fun _ => rfl⟩
  have htm : ∀ v, tmN st m (k + 1) v = tmN st m k v + if st.getD x 0 = v then 1 else 0 := fun v => by rw [tmN_succ hkl, hx]
  have X3 := KX.bl B32 (by omega)
  have X14 := KX.bl B142 (by omega)
  have X15 := KX.bl B152 (by omega)
  have hsX := hs2.keep KX fun q hq h => by
   have := hsn q hq
   have := hso q hq
   omega
  refine hldB_ok (i := i) (kk := x) (K := K) (mv := mv) (T := T) (by simp -implicitDefEqProofs only [go_sem, zS, ↓reduceIte, Za, Zb, Zc, reduceCtorEq, kont_eq, zU, zV, Zf, Zg, Zh, Zi, Zd, Ze, h3]) (by simp -implicitDefEqProofs only [go_sem, zS, ↓reduceIte, Za, Zb, Zc, reduceCtorEq, kont_eq, zU, zV, Zf, Zg, Zh, Zi, Zd, Ze, h4]) (by simp -implicitDefEqProofs only [go_sem, zS, ↓reduceIte, Za, Zb, Zc, reduceCtorEq, kont_eq, zU, zV, Zf, Zg, Zh, Zi, Zd, Ze, h5]) (by simp -implicitDefEqProofs only [go_sem, zS, ↓reduceIte, Za, Zb, Zc, reduceCtorEq, kont_eq, zU, zV, Zf, Zg, Zh, Zi, Zd, Ze, h14]) (by simp -implicitDefEqProofs only [go_sem, zS, ↓reduceIte, Za, Zb, Zc, reduceCtorEq, kont_eq, zU, zV, Zf, Zg, Zh, Zi, Zd, Ze, h15]) (by simp -implicitDefEqProofs only [go_sem, zS, ↓reduceIte, Za, Zb, Zc, reduceCtorEq, kont_eq, zU, zV, Zf, Zg, Zh, Zi, Zd, Ze]) (by simp -implicitDefEqProofs only [go_sem, zS, ↓reduceIte, Za, Zb, Zc, reduceCtorEq, kont_eq, zU, zV, Zf, Zg, Zh, Zi, Zd, Ze]) X3 j5 j6 h45 X14 X15 j1 (by omega) (by omega) (by omega) (by omega) hsX hxl j2 hxr.1 hxr.2 hval.1 hval.2.1 ?_ ?_ ?_
  ·intro e0 hgt f' A' w4 w5 KK
   refine ⟨KK.mono fun q _ h => .inl h, rfl, mosB_hit hl hmt (k := k + 1) hxl e0 ?_, w4, w5⟩
   rw [hval.2.2 e0] at hgt
   have := htm (st.getD x 0)
   rw [if_pos rfl] at this
   omega
  ·intro e0 hle f' A' w16 KK
   rw [hval.2.2 e0] at hle w16
   refine ⟨KK.mono fun q _ h => .inl (.inr (.inr h)), _, w16, by simpa using j2, fun u hu0 hu1 hu => ?_, ?_, KK.bl j5 (by omega), KK.bl j6 (by omega)⟩
   ·obtain ⟨v1, v2⟩ := j3 u hu0 hu1 hu
    rw [List.getD_eq_getElem?_getD, List.getElem?_set]
    have ht := htm u
    by_cases eu : st.getD x 0 = u
    ·rw [if_pos eu] at ht
     rw [if_pos (by rw [eu]), if_pos (by omega), eu]
     rw [eu] at hle
     simp only [Option.getD_some]
     omega
    ·rw [if_neg eu] at ht
     rw [if_neg (by omega), <- List.getD_eq_getElem?_getD, v1]
     omega
   ·rw [List.getD_eq_getElem?_getD, List.getElem?_set, if_neg (by omega), <- List.getD_eq_getElem?_getD]
    exact j4
  ·intro e0 f'
   refine ⟨Keep.refl _ _, T, j1, j2, fun u hu0 hu1 hu => ?_, j4, j5, j6⟩
   obtain ⟨v1, v2⟩ := j3 u hu0 hu1 hu
   have ht := htm u
   rw [if_neg (by omega)] at ht
   exact ⟨by omega, by omega⟩
 ·rintro X KX hs0 hd ⟨T, j1, j2, j3, j4, j5, j6⟩
  have hfull : (memL (bt m)).length = (mems (bt m)).length := by simp [memL]
  rw [hfull] at j3
  refine hN (mosB_miss hl hmt hr fun u h0 h1 h2 => (j3 u h0 h1 h2).2) _ X H2.size (fun j hj => ?_) (by simp -implicitDefEqProofs only [go_sem, zS, ↓reduceIte, Za, Zb, Zc, reduceCtorEq, kont_eq, zU, zV, Zf, Zg, Zh, Zi, Zd, Ze]) (by omega) hd j5 j6 ?_
  ·simp only [List.mem_cons, List.not_mem_nil, or_false, not_or] at hj
   simp only [upd, D.fr, hj.1, hj.2.1, hj.2.2, if_false]
  ·refine K02.any.trans' KX fun q hq h => ?_
   rcases h with h | h | h
   ·exact .inl h
   ·exact .inr h
   ·omega
 ·rintro e X KX hs0 hd ⟨rfl, j2, j3, j4⟩
  refine hR j2 _ X H2.size (fun j hj => ?_) (by simp -implicitDefEqProofs only [go_sem, zS, ↓reduceIte, Za, Zb, Zc, reduceCtorEq, kont_eq, zU, zV, Zf, Zg, Zh, Zi, Zd, Ze]) (by omega) hd j3 j4 ?_
  ·simp only [List.mem_cons, List.not_mem_nil, or_false, not_or] at hj
   simp only [upd, D.fr, hj.1, hj.2.1, hj.2.2, if_false]
  ·refine K02.any.trans' KX fun q hq h => ?_
   rcases h with h | h | h
   ·exact .inl h
   ·exact .inr h
   ·omega
def hldR (F : FlN) (st : List Int) : Nat × Nat × Bool := if fitB F.st.length st = true then ((hldF F st).1, (hldF F st).2, decide ((hldF F st).1 = 0)) else (0, 0, false)
def hldV (x : Nat × Nat × Bool) : Value := .tuple #[.agg #[.int .i64 (x.1 : Int), .int .i64 (x.2.1 : Int)], .bool x.2.2]
def FHldSpec (P : Program) (ι : Ids) (k : FuncId) : Prop := ∀ (F : FlN) (v sv : Value) (st : List Int) (H : Hp), TabOk ι H -> ProFl H v F -> okF F = true -> SlR H sv (iL st) -> CallsM P k #[v, sv] H fun r H' => r = hldV (hldR F st) /\ Keep (fun _ => False) H H'
structure HldC (P : Program) (ι : Ids) : Prop where
 gd : FGoodSpec P ι (ι.f 312)
 mi : MinSpec P (ι.f 316)
 ma : MaxSpec P (ι.f 317)
 all : BAllSpec P (ι.f 137) (ι.f 136)
 a1 : bodyOk P (ι.f 136) = true
 aY : FnIsY P (ι.f 136) (c_ball1 ι) r_ball1 2
 tz : TzSpec P ι (ι.f 126)
theorem fI_hit {α : Type} {p : α -> Bool} {l : List α} {i : Nat} (hi : i < l.length) (h : p l[i] = true) (hp : ∀ j, (hj : j < l.length) -> j < i -> p l[j] = false) : l.findIdx? p = some i :=
 List.findIdx?_eq_some_iff_getElem.2 ⟨hi, h, fun j hj => by rw [hp j (by omega) hj]; simp⟩
theorem fI_none {α : Type} {p : α -> Bool} {l : List α} (hp : ∀ j, (hj : j < l.length) -> p l[j] = false) : l.findIdx? p = none :=
 List.findIdx?_eq_none_iff.2 fun x hx => by
  obtain ⟨j, hj, rfl⟩ := List.getElem_of_mem hx
  exact hp j hj
theorem fI_succ {α : Type} {p : α -> Bool} {l : List α} {i : Nat} (hi : i < l.length) (h : p l[i] = false) (hp : ∀ j, (hj : j < l.length) -> j < i -> p l[j] = false) : ∀ j, (hj : j < l.length) -> j < i + 1 -> p l[j] = false := fun j hj hlt => by
 by_cases e : j = i
 ·subst e; exact h
 ·exact hp j hj (by omega)
theorem fhld_ok {P : Program} {ι : Ids} {k : FuncId} (hk : FnIsR P k (c_fhld ι) r_fhld 2 134) (c : HldC P ι) : FHldSpec P ι k := by
 intro F v sv st H hT hv hok hst
 have hv0 := hv
 obtain ⟨s, b, d, a, m, ms, rfl, h1, h2, h3, h4, h5, h6⟩ := hv
 have hG := okF_good hok
 have hlim := hG.lim
 unfold tooL at hlim
 obtain ⟨Q, hQ⟩ : ∃ Q : Value -> Hp -> Prop, Q = fun r H' => r = hldV (hldR F st) /\ Keep (fun _ => False) H H' := ⟨_, rfl⟩
 rw [<- hQ]
 refine calls_of_vcR hk (args := [_, _]) (by simp) ?_
 unfold c_fhld r_fhld
 simp -implicitDefEqProofs only [go_sem, zS, ↓reduceIte, Za, Zb, Zc, reduceCtorEq, zU, zV, Zf, Zg, Zh, Zi, Zd, Ze, zF]
 refine kont_new fun H1 b2 e1 z1 B1 K1 => ?_
 have B1' : Bl H1 b2 [s, b, d, a, m] := B1
 simp -implicitDefEqProofs only [go_sem, zS, ↓reduceIte, Za, Zb, Zc, reduceCtorEq, zU, zV, Zf, Zg, Zh, Zi, Zd, Ze, zF]
 refine kont_new fun H2 b3 e2 z2 B2 K2 => ?_
 have B2' : Bl H2 b3 [sv] := by
  have := hst.isSl
  cases sv <;> first | exact B2 | exact absurd this (by simp [isSl])
 simp -implicitDefEqProofs only [go_sem, zS, ↓reduceIte, Za, Zb, Zc, reduceCtorEq, zU, zV, Zf, Zg, Zh, Zi, Zd, Ze, zF]
 refine kont_new fun H3 b4 e3 z3 B3 K3 => ?_
 have B3' : Bl H3 b4 [.int .i64 0, .int .i64 0] := B3
 simp -implicitDefEqProofs only [go_sem, zS, ↓reduceIte, Za, Zb, Zc, reduceCtorEq, zU, zV, Zf, Zg, Zh, Zi, Zd, Ze, zF]
 refine kont_new fun H4 b5 e4 z4 B4 K4 => ?_
 have B4' : Bl H4 b5 [.bool false] := B4
 have K02 := K1.trans K2
 have K04 := (K02.trans K3).trans K4
 have s1 := K1.size
 have s2 := K2.size
 have s3 := K3.size
 have s4 := K4.size
 have B14 := (K2.trans (K3.trans K4)).bl B1' (by simp)
 have B24 := (K3.trans K4).bl B2' (by simp)
 have B34 := K4.bl B3' (by simp)
 have hT4 := hT.keep K04
 have v4 := hv0.keep0 K04
 have st4 := hst.keep K04 (by simp)
 have h45 : b4 ≠ b5 := by omega
 have fin : ∀ (x y : Nat) (q : Bool) f' A', f' 4 = .pointer (some ⟨b4, 0, none⟩) -> f' 5 = .pointer (some ⟨b5, 0, none⟩) -> (mks (f' 134)).Nodup -> (∀ p ∈ mks (f' 134), H4.size <= p /\ A'[p]? = some (.deferred (some []))) -> Bl A' b4 [.int .i64 (x : Int), .int .i64 (y : Int)] -> Bl A' b5 [.bool q] -> Keep (fun p => p = b4 \/ p = b5) H4 A' -> hldR F st = (x, y, q) -> retQR 134 [.cn 4 2, .c1 5] Q .r f' A' := fun x y q f' A' f4 f5 hnd hmk j4 j5 K hr => by
  refine ⟨hnd, fun p hp => (hmk p hp).2, fun A2 hs2 hk2 => ?_⟩
  have M : Keep (fun p => p ∈ mks (f' 134)) A' A2 := ⟨by omega, fun p _ h => hk2 p h⟩
  have b4lt := B34.lt
  have b5lt := B4'.lt
  have i4 := M.bl j4 (fun h => by have := (hmk _ h).1; omega)
  have i5 := M.bl j5 (fun h => by have := (hmk _ h).1; omega)
  have c5 : cell A2 ⟨b5, 0, none⟩ = some (.bool q) := by rw [i5.cell]; rfl
  rw [hQ, hr]
  have n4 : ldNO A2 (.pointer (some ⟨b4, 0, none⟩)) 2 = some #[.int .i64 (x : Int), .int .i64 (y : Int)] := i4.ldNO 2 rfl
  simp -implicitDefEqProofs only [go_sem, zS, ↓reduceIte, Za, Zb, Zc, reduceCtorEq, kont_eq, zU, zV, Zf, Zg, Zh, Zi, Zd, Ze, resPre, resVal, f4, f5, n4, c5]
  exact ⟨rfl, (K04.trans' K fun p hp h => by omega).trans' M fun p hp h => by have := (hmk p h).1; omega⟩
 have fin0 : ∀ (x y : Nat) (q : Bool) f' A', f' 4 = .pointer (some ⟨b4, 0, none⟩) -> f' 5 = .pointer (some ⟨b5, 0, none⟩) -> f' 134 = undef -> Bl A' b4 [.int .i64 (x : Int), .int .i64 (y : Int)] -> Bl A' b5 [.bool q] -> Keep (fun p => p = b4 \/ p = b5) H4 A' -> hldR F st = (x, y, q) -> retQR 134 [.cn 4 2, .c1 5] Q .r f' A' := fun x y q f' A' f4 f5 f6 j4 j5 K hr =>
  fin x y q f' A' f4 f5 (by rw [f6, mks_undef]; exact List.nodup_nil) (by rw [f6, mks_undef]; intro p hp; cases hp) j4 j5 K hr
 have hdi : ∀ j, (hj : j < F.di.length) -> okP (F.st.length : Int) F.di[j] := fun j hj => (hG.di _ (List.getElem_mem hj)).1
 have hsa : ∀ j, (hj : j < F.sa.length) -> okP (F.st.length : Int) F.sa[j] := fun j hj => (hG.sa _ (List.getElem_mem hj)).1
 have hmo : ∀ j, (hj : j < F.mo.length) -> 1 <= F.mo[j].1 /\ F.mo[j].2.toNat < 2 ^ F.st.length := fun j hj => by
  have := hG.mo _ (List.getElem_mem hj)
  unfold moE1 at this
  split at this
  ·omega
  ·next h => omega
 simp -implicitDefEqProofs only [go_sem, zS, ↓reduceIte, Za, Zb, Zc, reduceCtorEq, kont_eq, zU, zV, Zf, Zg, Zh, Zi, Zd, Ze]
 refine hldC_ok c.gd c.mi c.ma (by simp -implicitDefEqProofs only [go_sem, zS, ↓reduceIte, Za, Zb, Zc, reduceCtorEq, kont_eq, zU, zV, Zf, Zg, Zh, Zi, Zd, Ze]) (by simp -implicitDefEqProofs only [go_sem, zS, ↓reduceIte, Za, Zb, Zc, reduceCtorEq, kont_eq, zU, zV, Zf, Zg, Zh, Zi, Zd, Ze]) (by simp -implicitDefEqProofs only [go_sem, zS, ↓reduceIte, Za, Zb, Zc, reduceCtorEq, kont_eq, zU, zV, Zf, Zg, Zh, Zi, Zd, Ze]) (by simp -implicitDefEqProofs only [go_sem, zS, ↓reduceIte, Za, Zb, Zc, reduceCtorEq, kont_eq, zU, zV, Zf, Zg, Zh, Zi, Zd, Ze]) B14 B24 B34 B4' h45 v4 hok st4 hT4 h1.isSl h1.len (fun hfit f' A hf' KA => ?_) (fun hfit f' A hf' j4 j5 KA => ?_)
 case refine_2 =>
  refine fin0 0 0 false f' A (by rw [hf' 4 (by decide)]; simp -implicitDefEqProofs only [go_sem, zS, ↓reduceIte, Za, Zb, Zc, reduceCtorEq, kont_eq, zU, zV, Zf, Zg, Zh, Zi, Zd, Ze]) (by rw [hf' 5 (by decide)]; simp -implicitDefEqProofs only [go_sem, zS, ↓reduceIte, Za, Zb, Zc, reduceCtorEq, kont_eq, zU, zV, Zf, Zg, Zh, Zi, Zd, Ze]) (by rw [hf' 134 (by decide)]; simp -implicitDefEqProofs only [go_sem, zS, ↓reduceIte, Za, Zb, Zc, reduceCtorEq, kont_eq, zU, zV, Zf, Zg, Zh, Zi, Zd, Ze]) j4 j5 KA ?_
  unfold hldR
  rw [hfit]; rfl
 have hl : st.length = F.st.length := by
  unfold fitB at hfit
  simp only [Bool.and_eq_true, decide_eq_true_eq] at hfit
  exact hfit.2
 have hr : ∀ u ∈ st, 0 <= u /\ u <= 256 := fun u hu => by
  unfold fitB at hfit
  simp only [Bool.and_eq_true, decide_eq_true_eq, List.all_eq_true] at hfit
  exact hfit.1 u hu
 have hR1 : ∀ x y, hldF F st = (x, y) -> hldR F st = (x, y, decide (x = 0)) := fun x y h => by
  unfold hldR; rw [if_pos hfit, h]
 have g2 : f' 2 = .pointer (some ⟨b2, 0, none⟩) := by rw [hf' 2 (by decide)]; simp -implicitDefEqProofs only [go_sem, zS, ↓reduceIte, Za, Zb, Zc, reduceCtorEq, kont_eq, zU, zV, Zf, Zg, Zh, Zi, Zd, Ze]
 have g3 : f' 3 = .pointer (some ⟨b3, 0, none⟩) := by rw [hf' 3 (by decide)]; simp -implicitDefEqProofs only [go_sem, zS, ↓reduceIte, Za, Zb, Zc, reduceCtorEq, kont_eq, zU, zV, Zf, Zg, Zh, Zi, Zd, Ze]
 have g4 : f' 4 = .pointer (some ⟨b4, 0, none⟩) := by rw [hf' 4 (by decide)]; simp -implicitDefEqProofs only [go_sem, zS, ↓reduceIte, Za, Zb, Zc, reduceCtorEq, kont_eq, zU, zV, Zf, Zg, Zh, Zi, Zd, Ze]
 have g5 : f' 5 = .pointer (some ⟨b5, 0, none⟩) := by rw [hf' 5 (by decide)]; simp -implicitDefEqProofs only [go_sem, zS, ↓reduceIte, Za, Zb, Zc, reduceCtorEq, kont_eq, zU, zV, Zf, Zg, Zh, Zi, Zd, Ze]
 have g134 : f' 134 = undef := by rw [hf' 134 (by decide)]; simp -implicitDefEqProofs only [go_sem, zS, ↓reduceIte, Za, Zb, Zc, reduceCtorEq, kont_eq, zU, zV, Zf, Zg, Zh, Zi, Zd, Ze]
 have B1A := KA.bl B14 (by simp)
 have B2A := KA.bl B24 (by simp)
 have B4A := KA.bl B34 (by simp)
 have B5A := KA.bl B4' (by simp)
 have c2 : cell A ⟨b2, 2, none⟩ = some d := by rw [B1A.cell]; rfl
 have KHA := K04.trans KA
 have hso : ∀ q, slB sv q -> q < H.size := fun q hq => hst.old hq
 have b4lt := B34.lt
 have b5lt := B4'.lt
 have sA := KA.size
 have old : ∀ X, Keep (fun p => p = b4 \/ p = b5) A X -> Keep (fun _ => False) H X := fun X K => KHA.trans' K fun p hp h => by omega
 simp -implicitDefEqProofs only [go_sem, zS, ↓reduceIte, Za, Zb, Zc, reduceCtorEq, kont_eq, zU, zV, Zf, Zg, Zh, Zi, Zd, Ze, zF, g2, c2, h3.isSl, h3.len]
 refine vc_range F.di.length [45, 7, 6, 8, 9, 65, 44] rfl rfl (by omega) (by simp -implicitDefEqProofs only [go_sem, zS, ↓reduceIte, Za, Zb, Zc, reduceCtorEq, kont_eq, zU, zV, Zf, Zg, Zh, Zi, Zd, Ze]) (by simp -implicitDefEqProofs only [go_sem, zS, ↓reduceIte, Za, Zb, Zc, reduceCtorEq, kont_eq, zU, zV, Zf, Zg, Zh, Zi, Zd, Ze]) (fun i g X => (∀ j, (hj : j < F.di.length) -> j < i -> difB st F.di[j] = false) /\ Bl X b4 [.int .i64 0, .int .i64 0] /\ Bl X b5 [.bool false] /\ Keep (fun p => p = b4 \/ p = b5) A X) ⟨fun j _ h => by omega, B4A, B5A, Keep.refl _ _⟩ ?_ ?_
 ·rintro i g X hi gi gn ⟨hp, j4, j5, KX⟩
  simp -implicitDefEqProofs only [go_sem, zS, ↓reduceIte, Za, Zb, Zc, reduceCtorEq, kont_eq, zU, zV, Zf, Zg, Zh, Zi, Zd, Ze] at gi gn
  have KHX := old X KX
  have sX := KX.size
  obtain ⟨pb, po, pc, hwe, hpb, hld⟩ := (h3.keep0 KHX).elem (enc := pE) (k := 2) (fun _ => rfl) hi
  obtain ⟨y, hy⟩ : ∃ y, y = F.di[i] := ⟨_, rfl⟩
  rw [<- hy] at hld
  have hld' : ldNA X ⟨pb, po + i * 2, none⟩ 2 = some #[.int .i64 y.1, .int .i64 y.2] := hld
  simp -implicitDefEqProofs only [go_sem, zS, ↓reduceIte, Za, Zb, Zc, reduceCtorEq, zU, zV, Zf, Zg, Zh, Zi, Zd, Ze, zF, gi, hwe, tn_cast, ldNO_ptr, hld']
  refine ⟨by omega, ?_⟩
  refine kont_newstP [.int .i64 y.1, .int .i64 y.2] (.int .i64 (i : Int)) rfl (by simp -implicitDefEqProofs only [go_sem, zS, ↓reduceIte, Za, Zb, Zc, reduceCtorEq, kont_eq, zU, zV, Zf, Zg, Zh, Zi, Zd, Ze]) (by simp -implicitDefEqProofs only [go_sem, zS, ↓reduceIte, Za, Zb, Zc, reduceCtorEq, kont_eq, zU, zV, Zf, Zg, Zh, Zi, Zd, Ze]) rfl rfl rfl fun A1 b7 e7 z7 B7 K7 => ?_
  have s7 := K7.size
  simp -implicitDefEqProofs only [go_sem, zS, ↓reduceIte, Za, Zb, Zc, reduceCtorEq, kont_eq, zU, zV, Zf, Zg, Zh, Zi, Zd, Ze]
  refine hldD_ok (i := i) (x := y) (by simp -implicitDefEqProofs only [go_sem, zS, ↓reduceIte, Za, Zb, Zc, reduceCtorEq, kont_eq, zU, zV, Zf, Zg, Zh, Zi, Zd, Ze, g3]) (by simp -implicitDefEqProofs only [go_sem, zS, ↓reduceIte, Za, Zb, Zc, reduceCtorEq, kont_eq, zU, zV, Zf, Zg, Zh, Zi, Zd, Ze, g4]) (by simp -implicitDefEqProofs only [go_sem, zS, ↓reduceIte, Za, Zb, Zc, reduceCtorEq, kont_eq, zU, zV, Zf, Zg, Zh, Zi, Zd, Ze, g5]) (by simp -implicitDefEqProofs only [go_sem, zS, ↓reduceIte, Za, Zb, Zc, reduceCtorEq, kont_eq, zU, zV, Zf, Zg, Zh, Zi, Zd, Ze]) (by simp -implicitDefEqProofs only [go_sem, zS, ↓reduceIte, Za, Zb, Zc, reduceCtorEq, kont_eq, zU, zV, Zf, Zg, Zh, Zi, Zd, Ze]) (K7.bl (KX.bl B2A (by omega)) (by simp)) (K7.bl j4 (by simp)) (K7.bl j5 (by simp)) h45 B7 ((hst.keep KHX (by simp)).keep K7 (by simp)) hl (by rw [hy]; exact hdi i hi) (fun hh g' A2 hg' w4 w5 K2' => ?_) (fun hh g' hg' => ?_)
  ·refine fin0 1 i false g' A2 (by rw [hg' 4 (by decide)]; simp -implicitDefEqProofs only [go_sem, zS, ↓reduceIte, Za, Zb, Zc, reduceCtorEq, kont_eq, zU, zV, Zf, Zg, Zh, Zi, Zd, Ze, g4]) (by rw [hg' 5 (by decide)]; simp -implicitDefEqProofs only [go_sem, zS, ↓reduceIte, Za, Zb, Zc, reduceCtorEq, kont_eq, zU, zV, Zf, Zg, Zh, Zi, Zd, Ze, g5]) (by rw [hg' 134 (by decide)]; simp -implicitDefEqProofs only [go_sem, zS, ↓reduceIte, Za, Zb, Zc, reduceCtorEq, kont_eq, zU, zV, Zf, Zg, Zh, Zi, Zd, Ze, g134]) w4 w5 (((KA.any.trans KX).trans K7.any).trans K2') (hR1 1 i ?_)
   unfold hldF
   rw [fI_hit hi (by rw [<- hy]; exact hh) hp]
  ·simp -implicitDefEqProofs only [go_sem, zS, ↓reduceIte, Za, Zb, Zc, reduceCtorEq, kont_eq, zU, zV, Zf, Zg, Zh, Zi, Zd, Ze]
   exact ⟨fI_succ hi (by rw [<- hy]; exact hh) hp, K7.bl j4 (by simp), K7.bl j5 (by simp), KX.trans K7.any⟩
 rintro g X gi ⟨hpD, j4, j5, KX⟩
 have fD : F.di.findIdx? (difB st) = none := fI_none fun j hj => hpD j hj hj
 have c3 : cell X ⟨b2, 3, none⟩ = some a := by rw [(KX.bl B1A (by omega)).cell]; rfl
 simp -implicitDefEqProofs only [go_sem, zS, ↓reduceIte, Za, Zb, Zc, reduceCtorEq, kont_eq, zU, zV, Zf, Zg, Zh, Zi, Zd, Ze, zF, g2, c3, h4.isSl, h4.len]
 refine vc_range F.sa.length [73, 11, 10, 12, 13, 97, 72] rfl rfl (by omega) (by simp -implicitDefEqProofs only [go_sem, zS, ↓reduceIte, Za, Zb, Zc, reduceCtorEq, kont_eq, zU, zV, Zf, Zg, Zh, Zi, Zd, Ze]) (by simp -implicitDefEqProofs only [go_sem, zS, ↓reduceIte, Za, Zb, Zc, reduceCtorEq, kont_eq, zU, zV, Zf, Zg, Zh, Zi, Zd, Ze]) (fun i g X => (∀ j, (hj : j < F.sa.length) -> j < i -> samB st F.sa[j] = false) /\ Bl X b4 [.int .i64 0, .int .i64 0] /\ Bl X b5 [.bool false] /\ Keep (fun p => p = b4 \/ p = b5) A X) ⟨fun j _ h => by omega, j4, j5, KX⟩ ?_ ?_
 ·clear j4 j5 KX hpD gi c3
  rintro i g1 X hi gi gn ⟨hp, j4, j5, KX⟩
  simp -implicitDefEqProofs only [go_sem, zS, ↓reduceIte, Za, Zb, Zc, reduceCtorEq, kont_eq, zU, zV, Zf, Zg, Zh, Zi, Zd, Ze] at gi gn
  have KHX := old X KX
  have sX := KX.size
  obtain ⟨pb, po, pc, hwe, hpb, hld⟩ := (h4.keep0 KHX).elem (enc := pE) (k := 2) (fun _ => rfl) hi
  obtain ⟨y, hy⟩ : ∃ y, y = F.sa[i] := ⟨_, rfl⟩
  rw [<- hy] at hld
  have hld' : ldNA X ⟨pb, po + i * 2, none⟩ 2 = some #[.int .i64 y.1, .int .i64 y.2] := hld
  simp -implicitDefEqProofs only [go_sem, zS, ↓reduceIte, Za, Zb, Zc, reduceCtorEq, zU, zV, Zf, Zg, Zh, Zi, Zd, Ze, zF, gi, hwe, tn_cast, ldNO_ptr, hld']
  refine ⟨by omega, ?_⟩
  refine kont_newstP [.int .i64 y.1, .int .i64 y.2] (.int .i64 (i : Int)) rfl (by simp -implicitDefEqProofs only [go_sem, zS, ↓reduceIte, Za, Zb, Zc, reduceCtorEq, kont_eq, zU, zV, Zf, Zg, Zh, Zi, Zd, Ze]) (by simp -implicitDefEqProofs only [go_sem, zS, ↓reduceIte, Za, Zb, Zc, reduceCtorEq, kont_eq, zU, zV, Zf, Zg, Zh, Zi, Zd, Ze]) rfl rfl rfl fun A1 b7 e7 z7 B7 K7 => ?_
  have s7 := K7.size
  simp -implicitDefEqProofs only [go_sem, zS, ↓reduceIte, Za, Zb, Zc, reduceCtorEq, kont_eq, zU, zV, Zf, Zg, Zh, Zi, Zd, Ze]
  refine hldS_ok (i := i) (x := y) (by simp -implicitDefEqProofs only [go_sem, zS, ↓reduceIte, Za, Zb, Zc, reduceCtorEq, kont_eq, zU, zV, Zf, Zg, Zh, Zi, Zd, Ze, g3]) (by simp -implicitDefEqProofs only [go_sem, zS, ↓reduceIte, Za, Zb, Zc, reduceCtorEq, kont_eq, zU, zV, Zf, Zg, Zh, Zi, Zd, Ze, g4]) (by simp -implicitDefEqProofs only [go_sem, zS, ↓reduceIte, Za, Zb, Zc, reduceCtorEq, kont_eq, zU, zV, Zf, Zg, Zh, Zi, Zd, Ze, g5]) (by simp -implicitDefEqProofs only [go_sem, zS, ↓reduceIte, Za, Zb, Zc, reduceCtorEq, kont_eq, zU, zV, Zf, Zg, Zh, Zi, Zd, Ze]) (by simp -implicitDefEqProofs only [go_sem, zS, ↓reduceIte, Za, Zb, Zc, reduceCtorEq, kont_eq, zU, zV, Zf, Zg, Zh, Zi, Zd, Ze]) (K7.bl (KX.bl B2A (by omega)) (by simp)) (K7.bl j4 (by simp)) (K7.bl j5 (by simp)) h45 B7 ((hst.keep KHX (by simp)).keep K7 (by simp)) hl (by rw [hy]; exact hsa i hi) (fun hh g' A2 hg' w4 w5 K2' => ?_) (fun hh g' hg' => ?_)
  ·refine fin0 2 i false g' A2 (by rw [hg' 4 (by decide)]; simp -implicitDefEqProofs only [go_sem, zS, ↓reduceIte, Za, Zb, Zc, reduceCtorEq, kont_eq, zU, zV, Zf, Zg, Zh, Zi, Zd, Ze, g4]) (by rw [hg' 5 (by decide)]; simp -implicitDefEqProofs only [go_sem, zS, ↓reduceIte, Za, Zb, Zc, reduceCtorEq, kont_eq, zU, zV, Zf, Zg, Zh, Zi, Zd, Ze, g5]) (by rw [hg' 134 (by decide)]; simp -implicitDefEqProofs only [go_sem, zS, ↓reduceIte, Za, Zb, Zc, reduceCtorEq, kont_eq, zU, zV, Zf, Zg, Zh, Zi, Zd, Ze, g134]) w4 w5 (((KA.any.trans KX).trans K7.any).trans K2') (hR1 2 i ?_)
   unfold hldF
   rw [fD, fI_hit hi (by rw [<- hy]; exact hh) hp]
  ·simp -implicitDefEqProofs only [go_sem, zS, ↓reduceIte, Za, Zb, Zc, reduceCtorEq, kont_eq, zU, zV, Zf, Zg, Zh, Zi, Zd, Ze]
   exact ⟨fI_succ hi (by rw [<- hy]; exact hh) hp, K7.bl j4 (by simp), K7.bl j5 (by simp), KX.trans K7.any⟩
 clear j4 j5 KX c3
 rintro g1 X gi1 ⟨hpS, j4, j5, KX⟩
 have fS : F.sa.findIdx? (samB st) = none := fI_none fun j hj => hpS j hj hj
 have c4 : cell X ⟨b2, 4, none⟩ = some m := by rw [(KX.bl B1A (by omega)).cell]; rfl
 have hml : ms.length = F.mo.length := h6.len
 simp -implicitDefEqProofs only [go_sem, zS, ↓reduceIte, Za, Zb, Zc, reduceCtorEq, kont_eq, zU, zV, Zf, Zg, Zh, Zi, Zd, Ze, zF, g2, c4, h5.isSl, h5.len, hml]
 refine vc_range F.mo.length [105, 14, 15, 16, 111, 134, 112, 17, 18, 118, 129, 104] rfl rfl (by omega) (by simp -implicitDefEqProofs only [go_sem, zS, ↓reduceIte, Za, Zb, Zc, reduceCtorEq, kont_eq, zU, zV, Zf, Zg, Zh, Zi, Zd, Ze]) (by simp -implicitDefEqProofs only [go_sem, zS, ↓reduceIte, Za, Zb, Zc, reduceCtorEq, kont_eq, zU, zV, Zf, Zg, Zh, Zi, Zd, Ze]) (fun i g X => (∀ j, (hj : j < F.mo.length) -> j < i -> mosB st F.mo[j] = false) /\ (mks (g 134)).Nodup /\ (∀ p ∈ mks (g 134), H4.size <= p /\ X[p]? = some (.deferred (some []))) /\ Bl X b4 [.int .i64 0, .int .i64 0] /\ Bl X b5 [.bool false] /\ Keep (fun p => p = b4 \/ p = b5) A X) ⟨fun j _ h => by omega, ?_, ?_, j4, j5, KX⟩ ?_ ?_
 ·simp -implicitDefEqProofs only [go_sem, zS, ↓reduceIte, Za, Zb, Zc, reduceCtorEq, kont_eq, zU, zV, Zf, Zg, Zh, Zi, Zd, Ze, g134, mks_undef]; exact List.nodup_nil
 ·simp [go_sem, zS, ↓reduceIte, Za, Zb, Zc, reduceCtorEq, kont_eq, zU, zV, Zf, Zg, Zh, Zi, Zd, Ze, g134, mks_undef]
 ·clear j4 j5 KX c4 hpS gi1
  rintro i g2' X hi gi gn ⟨hp, hnd, hmk, j4, j5, KX⟩
  simp -implicitDefEqProofs only [go_sem, zS, ↓reduceIte, Za, Zb, Zc, reduceCtorEq, kont_eq, zU, zV, Zf, Zg, Zh, Zi, Zd, Ze] at gi gn hnd hmk
  have KHX := old X KX
  have sX := KX.size
  have hmi : i < ms.length := by omega
  obtain ⟨pb, po, pc, hwe, hpb, hld⟩ := (h5.keep0 KHX).elem encV_len hmi
  obtain ⟨x, hx⟩ : ∃ x, x = ms[i] := ⟨_, rfl⟩
  obtain ⟨y, hy⟩ : ∃ y, y = F.mo[i] := ⟨_, rfl⟩
  obtain ⟨x1, xm⟩ := h6.at_ i hmi hi
  rw [<- hx, <- hy] at x1 xm
  rw [<- hx] at hld
  rw [hml] at hwe
  have hld' : ldNA X ⟨pb, po + i * 2, none⟩ 2 = some #[.int .i64 x.1, mvV x] := hld
  simp -implicitDefEqProofs only [go_sem, zS, ↓reduceIte, Za, Zb, Zc, reduceCtorEq, zU, zV, Zf, Zg, Zh, Zi, Zd, Ze, zF, gi, hwe, tn_cast, ldNO_ptr, hld']
  refine ⟨by omega, ?_⟩
  refine kont_new fun A1 b14 e14 z14 B14' K14 => ?_
  have s14 := K14.size
  simp -implicitDefEqProofs only [go_sem, zS, ↓reduceIte, Za, Zb, Zc, reduceCtorEq, zU, zV, Zf, Zg, Zh, Zi, Zd, Ze, zF]
  refine kont_new fun A2 b15 e15 z15 B15' K15 => ?_
  have s15 := K15.size
  have Ba : Bl A2 b15 [.int .i64 0, .slice none 0 0] := B15'
  have t14 := (K15.bl B14' (by simp)).okSt (o := 0) (by simp)
  have C14 := (K15.bl B14' (by simp)).setc 0 (.int .i64 (i : Int))
  have L1 : Keep (fun q => q = b14) A2 (setc A2 ⟨b14, 0, none⟩ (.int .i64 (i : Int))) := (Keep.refl _ _).setc _ (.inl rfl)
  have C15 := L1.bl Ba (by omega)
  have t15 := C15.okNA (o := 0) (n := 2) (by simp)
  have D15 := C15.stNA 0 [.int .i64 x.1, mvV x]
  have L2 : Keep (fun q => q = b15) (setc A2 ⟨b14, 0, none⟩ (.int .i64 (i : Int))) (stNA (setc A2 ⟨b14, 0, none⟩ (.int .i64 (i : Int))) ⟨b15, 0, none⟩ [.int .i64 x.1, mvV x]) := (Keep.refl _ _).stNA _ (.inl rfl)
  have D14 := L2.bl C14 (by omega)
  have ha : all1 #[.int .i64 x.1, mvV x] := all1_of rfl
  simp -implicitDefEqProofs only [go_sem, zS, ↓reduceIte, Za, Zb, Zc, reduceCtorEq, kont_eq, zU, zV, Zf, Zg, Zh, Zi, Zd, Ze, zF, t14, t15]
  refine ⟨ha, ?_⟩
  generalize stNA (setc A2 ⟨b14, 0, none⟩ (.int .i64 (i : Int))) ⟨b15, 0, none⟩ [.int .i64 x.1, mvV x] = X3 at L2 D14 D15 ⊢
  have KX3 : Keep (fun _ => False) X X3 := (((K14.trans K15).trans' L1 fun q hq h => by omega)).trans' L2 fun q hq h => by omega
  have s3' := KX3.size
  have KH3 := KHX.trans KX3
  have hmx : ∀ q, slB (mvV x) q -> q < H.size := fun q hq => SetM.old xm (k := q) hq
  obtain ⟨m1, m2⟩ := hmo i hi
  rw [<- hy] at m1 m2
  have hx3 := L2.size
  have mk3 : ∀ A', Keep (fun q => q = b4 \/ q = b5) X3 A' -> ∀ p ∈ mks (g2' 134), H4.size <= p /\ A'[p]? = some (.deferred (some [])) := fun A' K p hp => by
   obtain ⟨p1, p2⟩ := hmk p hp
   have hlt := (Array.getElem?_eq_some_iff.1 p2).1
   refine ⟨p1, ?_⟩
   rw [K.at_ p (by omega) (by omega), KX3.at_ p hlt (by simp)]
   exact p2
  refine hldM_ok c.all c.a1 c.aY c.tz (b14 := b14) (b15 := b15) (i := i) (K := y.1) (m := y.2) (mv := mvV x) (st := st) (by simp -implicitDefEqProofs only [go_sem, zS, ↓reduceIte, Za, Zb, Zc, reduceCtorEq, kont_eq, zU, zV, Zf, Zg, Zh, Zi, Zd, Ze, g3]) (by simp -implicitDefEqProofs only [go_sem, zS, ↓reduceIte, Za, Zb, Zc, reduceCtorEq, kont_eq, zU, zV, Zf, Zg, Zh, Zi, Zd, Ze, g4]) (by simp -implicitDefEqProofs only [go_sem, zS, ↓reduceIte, Za, Zb, Zc, reduceCtorEq, kont_eq, zU, zV, Zf, Zg, Zh, Zi, Zd, Ze, g5]) (by simp -implicitDefEqProofs only [go_sem, zS, ↓reduceIte, Za, Zb, Zc, reduceCtorEq, kont_eq, zU, zV, Zf, Zg, Zh, Zi, Zd, Ze]) (by simp -implicitDefEqProofs only [go_sem, zS, ↓reduceIte, Za, Zb, Zc, reduceCtorEq, kont_eq, zU, zV, Zf, Zg, Zh, Zi, Zd, Ze]) (KX3.bl (KX.bl B2A (by omega)) (by simp)) (KX3.bl j4 (by simp)) (KX3.bl j5 (by simp)) D14 (by rw [<- x1]; exact D15) h45 (by omega) (by omega) (by omega) (hst.keep KH3 (by simp)) (fun q hq => by have := hso q hq; omega) (xm.keep0 KH3) (fun q hq => by have := hmx q hq; omega) (hT.keep KH3) (fun A' K => hT.keep (KH3.trans' K fun q hq h => by omega)) (by omega) m1 (by rw [hl]; exact m2) hr (fun hh g' A' q hg' g134' hq hdq w4 w5 KK => ?_) (fun hh g' A' q hg' g134' hq hdq w4 w5 KK => ?_)
  ·simp -implicitDefEqProofs only [go_sem, zS, ↓reduceIte, Za, Zb, Zc, reduceCtorEq, kont_eq, zU, zV, Zf, Zg, Zh, Zi, Zd, Ze] at g134'
   have hm' : mks (g' 134) = q :: mks (g2' 134) := by rw [g134', mks_addM]
   refine fin 3 i false g' A' (by rw [hg' 4 (by decide)]; simp -implicitDefEqProofs only [go_sem, zS, ↓reduceIte, Za, Zb, Zc, reduceCtorEq, kont_eq, zU, zV, Zf, Zg, Zh, Zi, Zd, Ze, g4]) (by rw [hg' 5 (by decide)]; simp -implicitDefEqProofs only [go_sem, zS, ↓reduceIte, Za, Zb, Zc, reduceCtorEq, kont_eq, zU, zV, Zf, Zg, Zh, Zi, Zd, Ze, g5]) ?_ ?_ w4 w5 (((KA.any.trans KX).trans KX3.any).trans KK) (hR1 3 i ?_)
   ·rw [hm']
    refine List.nodup_cons.2 ⟨fun h => ?_, hnd⟩
    have := (Array.getElem?_eq_some_iff.1 (hmk q h).2).1
    omega
   ·rw [hm']
    intro p hp
    rcases List.mem_cons.1 hp with rfl | hp
    ·exact ⟨by omega, hdq⟩
    ·exact mk3 A' KK p hp
   ·unfold hldF
    rw [fD, fS]
    simp only
    rw [fI_hit hi (by rw [<- hy]; exact hh) hp]
  ·simp -implicitDefEqProofs only [go_sem, zS, ↓reduceIte, Za, Zb, Zc, reduceCtorEq, kont_eq, zU, zV, Zf, Zg, Zh, Zi, Zd, Ze] at g134'
   have hm' : mks (g' 134) = q :: mks (g2' 134) := by rw [g134', mks_addM]
   simp -implicitDefEqProofs only [go_sem, zS, ↓reduceIte, Za, Zb, Zc, reduceCtorEq, kont_eq, zU, zV, Zf, Zg, Zh, Zi, Zd, Ze]
   refine ⟨fI_succ hi (by rw [<- hy]; exact hh) hp, ?_, ?_, w4, w5, (KX.trans KX3.any).trans KK⟩
   ·rw [hm']
    refine List.nodup_cons.2 ⟨fun h => ?_, hnd⟩
    have := (Array.getElem?_eq_some_iff.1 (hmk q h).2).1
    omega
   ·rw [hm']
    intro p hp
    rcases List.mem_cons.1 hp with rfl | hp
    ·exact ⟨by omega, hdq⟩
    ·exact mk3 A' KK p hp
 ·rintro g2' Y gi2 ⟨hpM, hnd, hmk, w4, w5, KY⟩
  have fM : F.mo.findIdx? (mosB st) = none := fI_none fun j hj => hpM j hj hj
  simp -implicitDefEqProofs only [go_sem, zS, ↓reduceIte, Za, Zb, Zc, reduceCtorEq, kont_eq, zU, zV, Zf, Zg, Zh, Zi, Zd, Ze] at hnd hmk
  have t4 := w4.okNA (o := 0) (n := 2) (by simp)
  have B4w := w4.stNA 0 [.int .i64 0, .int .i64 0]
  have k4 : Keep (fun q => q = b4) Y (stNA Y ⟨b4, 0, none⟩ [.int .i64 0, .int .i64 0]) := (Keep.refl _ _).stNA _ (.inl rfl)
  have B5' := k4.bl w5 (fun e => h45 e.symm)
  have t5 := B5'.okSt (o := 0) (by simp)
  have B5s := B5'.setc 0 (.bool true)
  have k5 : Keep (fun q => q = b5) (stNA Y ⟨b4, 0, none⟩ [.int .i64 0, .int .i64 0]) (setc (stNA Y ⟨b4, 0, none⟩ [.int .i64 0, .int .i64 0]) ⟨b5, 0, none⟩ (.bool true)) := (Keep.refl _ _).setc _ (.inl rfl)
  have B4s := k5.bl B4w h45
  have ha : all1 #[Value.int .i64 0, Value.int .i64 0] := all1_of rfl
  have kk := (k4.mono fun q _ e => Or.inl (b := q = b5) e).trans (k5.mono fun q _ e => Or.inr (a := q = b4) e)
  rw [blkQ_x, if_pos rfl]
  simp only [vc_seq, vc_ret, thenQ_n, go_sem, zS, ↓reduceIte, Za, Zb, Zc, reduceCtorEq, kont_eq, zU, zV, Zf, Zg, Zh, Zi, Zd, Ze, zF, g4, g5, t4, t5]
  refine ⟨ha, ?_⟩
  generalize setc (stNA Y ⟨b4, 0, none⟩ [.int .i64 0, .int .i64 0]) ⟨b5, 0, none⟩ (.bool true) = Z at kk B4s B5s ⊢
  have := fin 0 0 true (upd (upd (upd (fun _ => undef) 4 (.pointer (some ⟨b4, 0, none⟩))) 5 (.pointer (some ⟨b5, 0, none⟩))) 134 (g2' 134)) Z (by simp -implicitDefEqProofs only [go_sem, zS, ↓reduceIte, Za, Zb, Zc, reduceCtorEq, kont_eq, zU, zV, Zf, Zg, Zh, Zi, Zd, Ze]) (by simp -implicitDefEqProofs only [go_sem, zS, ↓reduceIte, Za, Zb, Zc, reduceCtorEq, kont_eq, zU, zV, Zf, Zg, Zh, Zi, Zd, Ze]) (by simp -implicitDefEqProofs only [go_sem, zS, ↓reduceIte, Za, Zb, Zc, reduceCtorEq, kont_eq, zU, zV, Zf, Zg, Zh, Zi, Zd, Ze]; exact hnd) (by
   simp -implicitDefEqProofs only [go_sem, zS, ↓reduceIte, Za, Zb, Zc, reduceCtorEq, kont_eq, zU, zV, Zf, Zg, Zh, Zi, Zd, Ze]
   intro p hp
   obtain ⟨p1, p2⟩ := hmk p hp
   have hlt := (Array.getElem?_eq_some_iff.1 p2).1
   exact ⟨p1, by rw [kk.at_ p hlt (by omega)]; exact p2⟩) B4s B5s ((KA.any.trans KY).trans kk) (hR1 0 0 (by unfold hldF; rw [fD, fS, fM]))
  simpa only [retQR, go_sem, zS, ↓reduceIte, Za, Zb, Zc, reduceCtorEq, kont_eq, zU, zV, Zf, Zg, Zh, Zi, Zd, Ze, zF] using this
end Go.Mg
namespace Go.Mg
open Go Go.RowKit
set_option linter.all false
set_option maxRecDepth 100000
end Go.Mg

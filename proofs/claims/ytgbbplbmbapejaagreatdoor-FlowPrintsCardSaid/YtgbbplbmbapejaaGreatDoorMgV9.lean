/- Several texts of ours in one. No conditions. -/
import Derived.Test.YtgbbplbmbapejaaGreatDoorMgV5
open Nat renaming reduceEqDiff → Za, reduceAdd → Zb, reduceMul → Zc, reduceLeDiff → Zd, reduceLT → Ze
open Int renaming reduceBEq → Zf, reduceBNe → Zg, reduceLE → Zh, reduceLT → Zi
namespace Go.Mg
open Go Go.RowKit
set_option linter.all false
set_option maxRecDepth 100000
def c_fckL (ι : Ids) : S :=
 (.seq (.reg [.p (.t 20) (.fa 0 (.v 3)), .p (.t 21) (.ld (.t 20)), .p (.t 22) (.m (.lenl (.t 21))), .p (.t 23) (.cm .gtr .i64 (.t 22) (.c (.int .i64 10))), .p (.t 24) (.mv (.t 23)), .gp (.t 25) (.t 24)
 false (.fa 1 (.v 3)), .gp (.t 26) (.t 24) false (.ld (.t 25)), .gp (.t 27) (.t 24) false (.m (.lenl (.t 26))), .gp (.t 28) (.t 24) false (.fa 2 (.v 3)), .gp (.t 29) (.t 24) false (.ld (.t 28)), .gp
 (.t 30) (.t 24) false (.m (.lenl (.t 29))), .gp (.t 31) (.t 24) false (.fa 3 (.v 3)), .gp (.t 32) (.t 24) false (.ld (.t 31)), .gp (.t 33) (.t 24) false (.m (.lenl (.t 32))), .gp (.t 34) (.t 24) false
 (.fa 4 (.v 3)), .gp (.t 35) (.t 24) false (.ld (.t 34)), .gp (.t 36) (.t 24) false (.m (.lenl (.t 35))), .gp (.t 37) (.t 24) false (.m (.mxs (.t 27) [.t 30, .t 33, .t 36])), .gp (.t 38) (.t 24) false
 (.cm .gtr .i64 (.t 37) (.c (.int .i64 20))), .p (.v 39) (.pick (.t 24) (.c (.bool true)) (.t 38))]) (.ite (.v 39) (.seq (.reg [.p (.v 6) (.mv (.c (.int .i64 3)))]) .ret) .skip))
def c_fckS (ι : Ids) : S :=
 (.seq (.reg [.p (.t 49) (.fa 0 (.v 8)), .p (.t 50) (.ld (.t 49)), .e (.t 51) (.call (ι.f 75) [.t 50]), .p (.t 52) (.not (.t 51)), .p (.v 48) (.mv (.t 52))]) (.ite (.v 48) (.seq (.reg [.p (.v 6) (.mv
 (.c (.int .i64 9)))]) .ret) (.seq (.reg [.p (.t 54) (.fa 0 (.v 3)), .p (.t 55) (.ld (.t 54)), .p (.t 56) (.mv (.v 7)), .p (.t 57) (.m (.sls 2 (.t 55) .none (.some (.t 56)))), .p (.t 58) (.m (.mkf (ι.f
 305) [] [.v 8])), .e (.t 59) (.call (ι.f 302) [.t 57, .t 58]), .p (.v 53) (.mv (.t 59))]) (.ite (.v 53) (.seq (.reg [.p (.v 6) (.mv (.c (.int .i64 5)))]) .ret) (.seq (.reg [.p (.t 61) (.fa 1 (.v 8)),
 .p (.t 62) (.ld (.t 61)), .p (.t 63) (.cm .lss .i64 (.t 62) (.c (.int .i64 1))), .p (.t 64) (.mv (.t 63)), .gp (.t 65) (.t 64) false (.fa 1 (.v 8)), .gp (.t 66) (.t 64) false (.ld (.t 65)), .gp (.t
 67) (.t 64) false (.mv (.v 1)), .gp (.t 68) (.t 64) false (.cm .gtr .i64 (.t 66) (.t 67)), .p (.t 69) (.pick (.t 64) (.c (.bool true)) (.t 68)), .p (.t 70) (.mv (.t 69)), .gp (.t 71) (.t 70) false (.m
 (.ldn 1 (.v 5))), .gp (.t 72) (.t 70) false (.fa 1 (.v 8)), .gp (.t 73) (.t 70) false (.ld (.t 72)), .ge (.t 74) (.t 70) false (.call (ι.f 130) [.t 71, .t 73]), .p (.t 75) (.pick (.t 70) (.c (.bool
 true)) (.t 74)), .p (.v 60) (.mv (.t 75))]) (.ite (.v 60) (.seq (.reg [.p (.v 6) (.mv (.c (.int .i64 10)))]) .ret) .skip))))))
def c_fckM (ι : Ids) : S :=
 (.seq (.dr (.px (.t 105) .none (.fa 0 (.v 13)) (.px (.t 106) .none (.ld (.t 105)) (.px (.t 107) .none (.cm .lss .i64 (.t 106) (.c (.int .i64 1))) (.px (.t 108) .none (.mv (.t 107)) (.px (.t 109)
 (.some (.t 108, false)) (.fa 0 (.v 13)) (.px (.t 110) (.some (.t 108, false)) (.ld (.t 109)) (.px (.t 111) (.some (.t 108, false)) (.cm .gtr .i64 (.t 110) (.c (.int .i64 10))) (.px (.t 112) .none
 (.pick (.t 108) (.c (.bool true)) (.t 111)) (.px (.t 113) .none (.mv (.t 112)) (.px (.t 114) (.some (.t 113, false)) (.fa 1 (.v 13)) (.px (.t 115) (.some (.t 113, false)) (.m (.ldn 1 (.t 114)))
 (.wcons (.t 116) (.some (.t 113, false)) (.call (ι.f 133) [.t 115]) (.px (.t 117) .none (.pick (.t 113) (.c (.bool true)) (.t 116)) (.px (.t 118) .none (.mv (.t 117)) (.px (.t 119) (.some (.t 118,
 false)) (.fa 1 (.v 13)) (.px (.t 120) (.some (.t 118, false)) (.m (.ldn 1 (.t 119))) (.px (.t 121) (.some (.t 118, false)) (.fa 0 (.v 3)) (.px (.t 122) (.some (.t 118, false)) (.ld (.t 121)) (.px (.t
 123) (.some (.t 118, false)) (.m (.lenl (.t 122))) (.wcons (.t 124) (.some (.t 118, false)) (.call (ι.f 306) [.t 123]) (.wcons (.t 125) (.some (.t 118, false)) (.call (ι.f 141) [.t 120, .t 124]) (.px
 (.t 126) (.some (.t 118, false)) (.not (.t 125)) (.px (.v 127) .none (.pick (.t 118) (.c (.bool true)) (.t 126)) .done)) .wnil) .wnil)))))))) .wnil))))))))))))) (.ite (.v 127) (.seq (.reg [.p (.v 6)
 (.mv (.c (.int .i64 2)))]) .ret) .skip))
def c_fchk (ι : Ids) : S :=
 .seq (.reg [.e (.v 3) (.box (ι.t 296) (.v 0)), .e (.v 5) (.box (ι.t 128) (.v 2)), .p (.v 6) (.mv (.c (.int .i64 0)))]) (.seq (.seq (.reg [.p (.t 16) (.fa 0 (.v 3)), .p (.t 17) (.ld (.t 16)), .p (.t
 18) (.m (.lenl (.t 17))), .p (.v 19) (.cm .eql .i64 (.t 18) (.c (.int .i64 0)))]) (.ite (.v 19) (.seq (.reg [.p (.v 6) (.mv (.c (.int .i64 4)))]) .ret) .skip)) (.seq (c_fckL ι) (.seq (.seq (.reg [.p
 (.t 40) (.fa 0 (.v 3)), .p (.v 41) (.ld (.t 40)), .p (.v 42) (.m (.lenl (.v 41))), .p (.v 43) (.mv (.c (.int .i64 0)))]) (.blk 0 (.loop (.seq (.reg [.p (.v 44) (.cm .lss .i64 (.v 43) (.v 42))]) (.seq
 (.ite (.v 44) .skip (.exit 0)) (.seq (.blk 1 (.seq (.reg [.p (.t 45) (.mv (.v 43)), .p (.t 46) (.is 2 (.v 41) (.v 43)), .p (.t 47) (.m (.ldn 2 (.t 46))), .e (.v 8) (.new (ι.t 297) #[.string ⟨#[]⟩,
 .int .i64 0]), .p (.v 7) (.mv (.t 45)), .e .no (.stn 2 (.v 8) (.t 47))]) (.blk 2 (c_fckS ι)))) (.reg [.p (.t 76) (.ar .add .i64 (.v 43) (.c (.int .i64 1))), .p (.v 43) (.mv (.t 76))]))))))) (.seq
 (.seq (.reg [.p (.t 77) (.fa 1 (.v 3)), .p (.t 78) (.ld (.t 77)), .p (.t 79) (.fa 2 (.v 3)), .p (.t 80) (.ld (.t 79)), .p (.t 81) (.fa 3 (.v 3)), .p (.t 82) (.ld (.t 81)), .e (.v 83) (.bldF (ι.t 235)
 1 3 [.t 78, .t 80, .t 82]), .p (.v 84) (.m (.lenl (.v 83))), .p (.v 85) (.mv (.c (.int .i64 0)))]) (.blk 3 (.loop (.seq (.reg [.p (.v 86) (.cm .lss .i64 (.v 85) (.v 84))]) (.seq (.ite (.v 86) .skip
 (.exit 3)) (.seq (.blk 4 (.seq (.reg [.p (.t 87) (.is 1 (.v 83) (.v 85)), .p (.t 88) (.ld (.t 87)), .p (.v 10) (.mv (.t 88))]) (.seq (.reg [.p (.t 89) (.mv (.v 10)), .p (.t 90) (.fa 0 (.v 3)), .p (.t
 91) (.ld (.t 90)), .p (.t 92) (.m (.lenl (.t 91))), .e (.t 93) (.call (ι.f 284) [.t 89, .t 92]), .p (.v 11) (.mv (.t 93))]) (.seq (.reg [.p (.t 94) (.mv (.v 11)), .p (.v 95) (.cm .neq .i64 (.t 94) (.c
 (.int .i64 0)))]) (.ite (.v 95) (.seq (.reg [.p (.t 96) (.mv (.v 11)), .p (.v 6) (.mv (.t 96))]) .ret) .skip))))) (.reg [.p (.t 97) (.ar .add .i64 (.v 85) (.c (.int .i64 1))), .p (.v 85) (.mv (.t
 97))]))))))) (.seq (.seq (.reg [.p (.t 98) (.fa 4 (.v 3)), .p (.v 99) (.ld (.t 98)), .p (.v 100) (.m (.lenl (.v 99))), .p (.v 101) (.mv (.c (.int .i64 0)))]) (.blk 5 (.loop (.seq (.reg [.p (.v 102)
 (.cm .lss .i64 (.v 101) (.v 100))]) (.seq (.ite (.v 102) .skip (.exit 5)) (.seq (.blk 6 (.seq (.reg [.p (.t 103) (.is 2 (.v 99) (.v 101)), .p (.t 104) (.m (.ldn 2 (.t 103))), .e (.v 13) (.new (ι.t
 298) #[.int .i64 0, .slice .none 0 0]), .e .no (.stn 2 (.v 13) (.t 104))]) (c_fckM ι))) (.reg [.p (.t 128) (.ar .add .i64 (.v 101) (.c (.int .i64 1))), .p (.v 101) (.mv (.t 128))]))))))) (.seq (.reg
 [.p (.t 130) (.fa 0 (.v 3)), .p (.t 131) (.ld (.t 130)), .p (.t 132) (.m (.lenl (.t 131))), .p (.t 133) (.fa 1 (.v 3)), .p (.t 134) (.ld (.t 133)), .e (.t 135) (.call (ι.f 201) [.t 132, .t 134]), .p
 (.t 129) (.mv (.t 135)), .p (.t 136) (.ext (.t 129) 0), .p (.t 137) (.ext (.t 129) 1), .p (.t 14) (.mv (.t 136)), .p (.v 15) (.mv (.t 137))]) (.seq (.reg [.p (.t 138) (.mv (.v 15)), .p (.v 6) (.mv (.t
 138))]) .ret)))))))
def r_fchk : List RV := [.t 6]
structure ChkC (P : Program) (ι : Ids) : Prop where
 va : ValidASpec P (ι.f 75)
 con : ConFSpec encS P (ι.f 302)
 c1 : Chk1Spec P (ι.f 305)
 has : HasSpec P (ι.f 130)
 em : BEmptySpec P (ι.f 133)
 wi : BWithinSpec P (ι.f 141)
 bel : BBelowSpec P (ι.f 306)
 prs : PairsSpec P (ι.f 284)
 nw : ONewSpec P ι (ι.f 201)
theorem fckL_ok {P : Program} {ι : Ids} {f : Fr} {A : Hp} {b3 : Nat} {s b d a m : Value} {F : FlN} {Qb : Ex -> Fr -> Hp -> Prop} {n0 n1 n2 n3 n4 : Nat} (h3 : f 3 = .pointer (some ⟨b3, 0, none⟩)) (B : Bl A b3 [s, b, d, a, m]) (i0 : isSl s) (i1 : isSl b) (i2 : isSl d) (i3 : isSl a) (i4 : isSl m) (l0 : lenV s = n0) (l1 : lenV b = n1) (l2 : lenV d = n2) (l3 : lenV a = n3) (l4 : lenV m = n4)
  (hT : (10 < n0 \/ 20 < n1 \/ 20 < n2 \/ 20 < n3 \/ 20 < n4) -> ∀ f', f' 6 = .int .i64 3 -> Qb .r f' A) (hF : ¬ (10 < n0 \/ 20 < n1 \/ 20 < n2 \/ 20 < n3 \/ 20 < n4) -> Qb .n (upd f 39 (.bool false)) A) : vc P (c_fckL ι) Qb f A := by
 unfold c_fckL
 have c0 : cell A ⟨b3, 0, none⟩ = some s := by rw [B.cell]; rfl
 have c1 : cell A ⟨b3, 1, none⟩ = some b := by rw [B.cell]; rfl
 have c2 : cell A ⟨b3, 2, none⟩ = some d := by rw [B.cell]; rfl
 have c3 : cell A ⟨b3, 3, none⟩ = some a := by rw [B.cell]; rfl
 have c4 : cell A ⟨b3, 4, none⟩ = some m := by rw [B.cell]; rfl
 by_cases h10 : (n0 : Int) > 10
 ·have d1 : decide ((n0 : Int) > 10) = true := decide_eq_true h10
  simp -implicitDefEqProofs only [go_sem, zS, ↓reduceIte, Za, Zb, Zc, reduceCtorEq, kont_eq, zU, zV, Zf, Zg, Zh, Zi, Zd, Ze, zF, h3, c0, i0, l0, d1]
  exact hT (.inl (by omega)) _ (by simp -implicitDefEqProofs only [go_sem, zS, ↓reduceIte, Za, Zb, Zc, reduceCtorEq, kont_eq, zU, zV, Zf, Zg, Zh, Zi, Zd, Ze])
 ·have d1 : decide ((n0 : Int) > 10) = false := decide_eq_false h10
  obtain ⟨mx, hmx⟩ : ∃ mx, mx = mxF (n1 : Int) [(n2 : Int), (n3 : Int), (n4 : Int)] := ⟨_, rfl⟩
  have hbig : mx > 20 ↔ (20 < n1 \/ 20 < n2 \/ 20 < n3 \/ 20 < n4) := by
   rw [hmx]; simp only [mxF]
   split <;> split <;> split <;> omega
  simp only [mxF] at hmx
  have o2 : ∀ v, v = d \/ v = a \/ v = m -> isInt (.int .i64 (lenV v : Int)) := fun _ _ => trivial
  by_cases hb : mx > 20
  ·have d2 : decide (mx > 20) = true := decide_eq_true hb
   simp -implicitDefEqProofs only [go_sem, zS, ↓reduceIte, Za, Zb, Zc, reduceCtorEq, kont_eq, zU, zV, Zf, Zg, Zh, Zi, Zd, Ze, zF, h3, c0, c1, c2, c3, c4, i0, i1, i2, i3, i4, l0, l1, l2, l3, l4, d1, kindOf, <- hmx, d2]
   exact hT (by have := hbig.1 hb; omega) _ (by simp -implicitDefEqProofs only [go_sem, zS, ↓reduceIte, Za, Zb, Zc, reduceCtorEq, kont_eq, zU, zV, Zf, Zg, Zh, Zi, Zd, Ze])
  ·have d2 : decide (mx > 20) = false := decide_eq_false hb
   simp -implicitDefEqProofs only [go_sem, zS, ↓reduceIte, Za, Zb, Zc, reduceCtorEq, kont_eq, zU, zV, Zf, Zg, Zh, Zi, Zd, Ze, zF, h3, c0, c1, c2, c3, c4, i0, i1, i2, i3, i4, l0, l1, l2, l3, l4, d1, kindOf, <- hmx, d2]
   exact hF (fun h => hb (hbig.2 (by omega)))
theorem fckS_ok {P : Program} {ι : Ids} (c : ChkC P ι) {f : Fr} {A : Hp} {b3 b5 b8 i : Nat} {s r1 r2 r3 r4 : Value} {x : StN} {st : List StN} {roles : Int} {xv : Value} {p : Nat -> Bool} {Qb : Ex -> Fr -> Hp -> Prop} (h1 : f 1 = .int .i64 roles) (h3 : f 3 = .pointer (some ⟨b3, 0, none⟩)) (h5 : f 5 = .pointer (some ⟨b5, 0, none⟩)) (h7 : f 7 = .int .i64 (i : Int)) (h8 : f 8 = .pointer (some ⟨b8, 0, none⟩))
  (B3 : Bl A b3 [s, r1, r2, r3, r4]) (B5 : Bl A b5 [xv]) (B8 : Bl A b8 (encS x)) (hs : SlE encS 2 A s st) (hi : i < st.length) (hl : st.length <= 1000000) (hx : SetM A (.agg #[xv]) p)
  (hT : ∀ e f' A', stE1 roles p (st.take i) x = e -> e ≠ 0 -> f' 6 = .int .i64 e -> Keep (fun _ => False) A A' -> Qb .r f' A') (hF : ∀ f' A', stE1 roles p (st.take i) x = 0 -> Keep (fun _ => False) A A' -> Qb .n f' A') : vc P (c_fckS ι) Qb f A := by
 unfold c_fckS
 have c8 : cell A ⟨b8, 0, none⟩ = some (sV x.1) := by rw [B8.cell]; rfl
 simp -implicitDefEqProofs only [go_sem, zS, ↓reduceIte, Za, Zb, Zc, reduceCtorEq, kont_eq, zU, zV, Zf, Zg, Zh, Zi, Zd, Ze, zF, h8, c8]
 refine (c.va x.1 A).mono ?_
 rintro r A1 ⟨rfl, K1⟩
 rw [kont_eq]
 cases hv : validF x.1 with
 | false =>
  simp -implicitDefEqProofs only [go_sem, zS, ↓reduceIte, Za, Zb, Zc, reduceCtorEq, kont_eq, zU, zV, Zf, Zg, Zh, Zi, Zd, Ze, zF, Bool.not_false]
  exact hT 9 _ A1 (by unfold stE1; rw [if_pos hv]) (by omega) (by simp -implicitDefEqProofs only [go_sem, zS, ↓reduceIte, Za, Zb, Zc, reduceCtorEq, kont_eq, zU, zV, Zf, Zg, Zh, Zi, Zd, Ze]) K1
 | true =>
  have B31 := K1.bl B3 (by simp)
  have B81 := K1.bl B8 (by simp)
  have hs1 := hs.keep0 K1
  have c30 : cell A1 ⟨b3, 0, none⟩ = some s := by rw [B31.cell]; rfl
  have hS := hs1.takeW encS_len (n := i) (by omega)
  obtain ⟨va, vc, rfl, hcap⟩ := hs1.mk
  obtain ⟨w, hw⟩ : ∃ w, w = slV (.slice va st.length vc) 2 none (some (i : Int)) := ⟨_, rfl⟩
  rw [<- hw] at hS
  have hw' : Value.slice (if vc = 0 then va else Option.map (fun x => x) va) i vc = w := by
   rw [hw, slV_slice]
   simp [loN, hiN, Addr.add]
  have ans : AnsC P encS (fun y : StN => decide (y.1 = x.1)) (st.take i) (ι.f 305) #[] #[.pointer (some ⟨b8, 0, none⟩)] A1 := ⟨c.c1.1, fun y _ A2 K2 => by
   have := c.c1.2 y x b8 A2 (K2.bl B81 (by simp))
   simpa using this⟩
  simp -implicitDefEqProofs only [go_sem, zS, ↓reduceIte, Za, Zb, Zc, reduceCtorEq, kont_eq, zU, zV, Zf, Zg, Zh, Zi, Zd, Ze, zF, h3, h7, h8, c30, Bool.not_true]
  refine ⟨by omega, ?_⟩
  rw [hw']
  refine (c.con (st.take i) _ w _ _ _ A1 hS (by rw [List.length_take]; omega) ans).mono ?_
  rintro r A2 ⟨rfl, K2⟩
  have K02 := K1.trans K2
  rw [kont_eq]
  cases ha : (st.take i).any fun y => decide (y.1 = x.1) with
  | true =>
   simp -implicitDefEqProofs only [go_sem, zS, ↓reduceIte, Za, Zb, Zc, reduceCtorEq, kont_eq, zU, zV, Zf, Zg, Zh, Zi, Zd, Ze, zF]
   exact hT 5 _ A2 (by unfold stE1; rw [if_neg (by rw [hv]; simp), if_pos ha]) (by omega) (by simp -implicitDefEqProofs only [go_sem, zS, ↓reduceIte, Za, Zb, Zc, reduceCtorEq, kont_eq, zU, zV, Zf, Zg, Zh, Zi, Zd, Ze]) K02
  | false =>
   have B82 := K02.bl B8 (by simp)
   have B52 := K02.bl B5 (by simp)
   have p1 : cell A2 ⟨b8, 1, none⟩ = some (.int .i64 x.2) := by rw [B82.cell]; rfl
   have hE : ∀ z, (if x.2 < 1 \/ roles < x.2 \/ memI p x.2 = true then (10 : Int) else 0) = z -> stE1 roles p (st.take i) x = z := fun z h => by
    unfold stE1; rw [if_neg (by rw [hv]; simp), if_neg (by rw [ha]; simp)]; exact h
   by_cases e1 : x.2 < 1
   ·have d1 : decide (x.2 < 1) = true := decide_eq_true e1
    simp -implicitDefEqProofs only [go_sem, zS, ↓reduceIte, Za, Zb, Zc, reduceCtorEq, kont_eq, zU, zV, Zf, Zg, Zh, Zi, Zd, Ze, zF, h8, p1, d1]
    exact hT 10 _ A2 (hE 10 (if_pos (.inl e1))) (by omega) (by simp -implicitDefEqProofs only [go_sem, zS, ↓reduceIte, Za, Zb, Zc, reduceCtorEq, kont_eq, zU, zV, Zf, Zg, Zh, Zi, Zd, Ze]) K02
   ·have d1 : decide (x.2 < 1) = false := decide_eq_false e1
    by_cases e2 : x.2 > roles
    ·have d2 : decide (x.2 > roles) = true := decide_eq_true e2
     simp -implicitDefEqProofs only [go_sem, zS, ↓reduceIte, Za, Zb, Zc, reduceCtorEq, kont_eq, zU, zV, Zf, Zg, Zh, Zi, Zd, Ze, zF, h1, h8, p1, d1, d2]
     exact hT 10 _ A2 (hE 10 (if_pos (.inr (.inl e2)))) (by omega) (by simp -implicitDefEqProofs only [go_sem, zS, ↓reduceIte, Za, Zb, Zc, reduceCtorEq, kont_eq, zU, zV, Zf, Zg, Zh, Zi, Zd, Ze]) K02
    ·have d2 : decide (x.2 > roles) = false := decide_eq_false e2
     simp -implicitDefEqProofs only [go_sem, zS, ↓reduceIte, Za, Zb, Zc, reduceCtorEq, kont_eq, zU, zV, Zf, Zg, Zh, Zi, Zd, Ze, zF, h1, h5, h8, p1, d1, d2, B52.ldNO 1 rfl]
     refine (c.has p _ x.2 A2 (hx.keep0 K02)).mono ?_
     rintro r A3 ⟨rfl, K3⟩
     have K03 := K02.trans K3
     rw [kont_eq]
     cases hm : memI p x.2 with
     | true =>
      simp -implicitDefEqProofs only [go_sem, zS, ↓reduceIte, Za, Zb, Zc, reduceCtorEq, kont_eq, zU, zV, Zf, Zg, Zh, Zi, Zd, Ze, zF]
      exact hT 10 _ A3 (hE 10 (if_pos (.inr (.inr hm)))) (by omega) (by simp -implicitDefEqProofs only [go_sem, zS, ↓reduceIte, Za, Zb, Zc, reduceCtorEq, kont_eq, zU, zV, Zf, Zg, Zh, Zi, Zd, Ze]) K03
     | false =>
      simp -implicitDefEqProofs only [go_sem, zS, ↓reduceIte, Za, Zb, Zc, reduceCtorEq, kont_eq, zU, zV, Zf, Zg, Zh, Zi, Zd, Ze, zF]
      exact hF _ A3 (hE 0 (if_neg (by rw [hm]; rintro (h | h | h); exact e1 h; exact e2 h; cases h))) K03
theorem bt_within {m : UInt64} {n : Nat} (hn : n <= 64) : (∀ j, bt m j = true -> decide (j < n) = true) ↔ m.toNat < 2 ^ n := by
 unfold bt
 constructor
 ·intro h
  apply Classical.byContradiction
  intro hge
  have hge : 2 ^ n <= m.toNat := by omega
  obtain ⟨i, hi, hb⟩ := Nat.exists_ge_and_testBit_of_ge_two_pow hge
  have := h i hb
  simp at this; omega
 ·intro h j hj
  apply decide_eq_true
  apply Classical.byContradiction
  intro hge
  have : m.toNat < 2 ^ j := Nat.lt_of_lt_of_le h (Nat.pow_le_pow_right (by omega) (by omega))
  rw [Nat.testBit_lt_two_pow this] at hj; cases hj
theorem bt_none {m : UInt64} : (∀ n, bt m n = false) ↔ m = 0 := by
 constructor
 ·intro h; exact bt_ext fun k _ => by rw [h k, bt_zero]
 ·rintro rfl n; exact bt_zero n
theorem fckM_ok {P : Program} {ι : Ids} (c : ChkC P ι) {f : Fr} {A : Hp} {b3 bm n : Nat} {s r1 r2 r3 r4 : Value} {x : MV} {y : MoN} {Qb : Ex -> Fr -> Hp -> Prop} (h3 : f 3 = .pointer (some ⟨b3, 0, none⟩)) (h13 : f 13 = .pointer (some ⟨bm, 0, none⟩))
  (B3 : Bl A b3 [s, r1, r2, r3, r4]) (Bm : Bl A bm (encV x)) (i0 : isSl s) (l0 : lenV s = n) (hn : n <= 10) (hx : x.1 = y.1) (hm : SetM A (.agg #[mvV x]) (bt y.2))
  (hT : ∀ f' A', moE1 n y = 2 -> f' 6 = .int .i64 2 -> Keep (fun _ => False) A A' -> Qb .r f' A') (hF : ∀ f' A', moE1 n y = 0 -> Keep (fun _ => False) A A' -> Qb .n f' A') : vc P (c_fckM ι) Qb f A := by
 unfold c_fckM
 have m0 : cell A ⟨bm, 0, none⟩ = some (.int .i64 y.1) := by rw [Bm.cell, <- hx]; rfl
 have mS : ldNA A ⟨bm, 1, none⟩ 1 = some #[mvV x] := by
  have := Bm.ldNA (o := 1) (n := 1) (by simp [encV])
  simpa [encV] using this
 have c30 : cell A ⟨b3, 0, none⟩ = some s := by rw [B3.cell]; rfl
 have hE : ∀ z, (if y.1 < 1 \/ 10 < y.1 \/ y.2 = 0 \/ 2 ^ n <= y.2.toNat then (2 : Int) else 0) = z -> moE1 n y = z := fun z h => h
 rw [vc_seq]
 refine vc_drk (fun _ => False) ?_
 by_cases e1 : y.1 < 1
 ·have d1 : decide (y.1 < 1) = true := decide_eq_true e1
  simp -implicitDefEqProofs only [go_sem, zS, ↓reduceIte, Za, Zb, Zc, reduceCtorEq, kont_eq, zU, zV, Zf, Zg, Zh, Zi, Zd, Ze, zF, h3, h13, m0, d1]
  exact hT _ A (hE 2 (if_pos (.inl e1))) (by simp -implicitDefEqProofs only [go_sem, zS, ↓reduceIte, Za, Zb, Zc, reduceCtorEq, kont_eq, zU, zV, Zf, Zg, Zh, Zi, Zd, Ze]) (Keep.refl _ _)
 have d1 : decide (y.1 < 1) = false := decide_eq_false e1
 by_cases e2 : y.1 > 10
 ·have d2 : decide (y.1 > 10) = true := decide_eq_true e2
  simp -implicitDefEqProofs only [go_sem, zS, ↓reduceIte, Za, Zb, Zc, reduceCtorEq, kont_eq, zU, zV, Zf, Zg, Zh, Zi, Zd, Ze, zF, h3, h13, m0, d1, d2]
  exact hT _ A (hE 2 (if_pos (.inr (.inl e2)))) (by simp -implicitDefEqProofs only [go_sem, zS, ↓reduceIte, Za, Zb, Zc, reduceCtorEq, kont_eq, zU, zV, Zf, Zg, Zh, Zi, Zd, Ze]) (Keep.refl _ _)
 have d2 : decide (y.1 > 10) = false := decide_eq_false e2
 obtain ⟨u, W, hu, hV⟩ := hm
 simp only [Value.agg.injEq, Array.mk.injEq, List.cons.injEq, and_true] at hu
 have hm : SetM A (.agg #[mvV x]) (bt y.2) := ⟨u, W, by rw [hu], hV⟩
 rw [<- hu] at hV
 simp -implicitDefEqProofs only [go_sem, zS, ↓reduceIte, Za, Zb, Zc, reduceCtorEq, kont_eq, zU, zV, Zf, Zg, Zh, Zi, Zd, Ze, zF, h3, h13, m0, ldNO_ptr, mS, d1, d2]
 refine (c.em _ _ W A hV).mono ?_
 rintro r A1 ⟨rfl, K1⟩
 by_cases e3 : W = []
 ·have d3 : decide (W = []) = true := decide_eq_true e3
  simp -implicitDefEqProofs only [go_sem, zS, ↓reduceIte, Za, Zb, Zc, reduceCtorEq, kont_eq, zU, zV, Zf, Zg, Zh, Zi, Zd, Ze, zF, h13, d3]
  have h0 : y.2 = 0 := bt_none.1 (hV.nil_iff.1 e3)
  exact ⟨K1, hT _ A1 (hE 2 (if_pos (.inr (.inr (.inl h0))))) (by simp -implicitDefEqProofs only [go_sem, zS, ↓reduceIte, Za, Zb, Zc, reduceCtorEq, kont_eq, zU, zV, Zf, Zg, Zh, Zi, Zd, Ze]) K1⟩
 ·have d3 : decide (W = []) = false := decide_eq_false e3
  have h0 : ¬ y.2 = 0 := fun h => e3 (hV.nil_iff.2 (bt_none.2 h))
  have Bm1 := K1.bl Bm (by simp)
  have B31 := K1.bl B3 (by simp)
  have mS1 : ldNA A1 ⟨bm, 1, none⟩ 1 = some #[mvV x] := by
   have := Bm1.ldNA (o := 1) (n := 1) (by simp [encV])
   simpa [encV] using this
  have c31 : cell A1 ⟨b3, 0, none⟩ = some s := by rw [B31.cell]; rfl
  simp -implicitDefEqProofs only [go_sem, zS, ↓reduceIte, Za, Zb, Zc, reduceCtorEq, kont_eq, zU, zV, Zf, Zg, Zh, Zi, Zd, Ze, zF, h3, h13, d3, ldNO_ptr, mS1, c31, i0, l0]
  refine ⟨K1, (c.bel n A1 (by omega)).mono ?_⟩
  rintro r A2 ⟨S2, K2, _⟩
  simp -implicitDefEqProofs only [go_sem, zS, ↓reduceIte, Za, Zb, Zc, reduceCtorEq, kont_eq, zU, zV, Zf, Zg, Zh, Zi, Zd, Ze, zF]
  refine ⟨K2, (c.wi _ _ _ _ A2 ((hm.keep0 K1).keep0 K2) S2).mono ?_⟩
  rintro r A3 ⟨⟨q, rfl, hq⟩, K3⟩
  have K03 := (K1.trans K2).trans K3
  rw [bt_within (by omega)] at hq
  cases q with
  | true =>
   have hlt := hq.1 rfl
   simp -implicitDefEqProofs only [go_sem, zS, ↓reduceIte, Za, Zb, Zc, reduceCtorEq, kont_eq, zU, zV, Zf, Zg, Zh, Zi, Zd, Ze, zF, Bool.not_true]
   exact ⟨K3, hF _ A3 (hE 0 (if_neg (by rintro (h | h | h | h); exact e1 h; exact e2 h; exact h0 h; omega))) K03⟩
  | false =>
   have hge : ¬ y.2.toNat < 2 ^ n := fun h => by have := hq.2 h; cases this
   simp -implicitDefEqProofs only [go_sem, zS, ↓reduceIte, Za, Zb, Zc, reduceCtorEq, kont_eq, zU, zV, Zf, Zg, Zh, Zi, Zd, Ze, zF, Bool.not_false]
   exact ⟨K3, hT _ A3 (hE 2 (if_pos (.inr (.inr (.inr (by omega)))))) (by simp -implicitDefEqProofs only [go_sem, zS, ↓reduceIte, Za, Zb, Zc, reduceCtorEq, kont_eq, zU, zV, Zf, Zg, Zh, Zi, Zd, Ze]) K03⟩
theorem stE_stop {roles : Int} {p : Nat -> Bool} {l : List StN} {k : Nat} (hk : k <= l.length) {e : Int} (h : stE roles p l k = e) (he : e ≠ 0) : stE roles p l l.length = e := by
 rw [stE_mono (by rw [h]; exact he) _ hk, h]
theorem moE_at {n : Nat} {l : List MoN} {i : Nat} (hi : i < l.length) (h : moE n (l.take i) = 0) : moE n (l.take (i + 1)) = moE1 n l[i] := by
 have app : ∀ (a b : List MoN), moE n (a ++ b) = orE (moE n a) (moE n b) := fun a b => by
  induction a with
  | nil => rfl
  | cons x a ih =>
   simp only [List.cons_append, moE, ih]
   unfold orE; split <;> rfl
 rw [List.take_succ_eq_append_getElem hi, app, h, orE_0]
 simp only [moE, orE]
 split <;> simp_all
theorem moE_stop {n : Nat} {l : List MoN} {i : Nat} (h : moE n (l.take i) ≠ 0) : moE n l = moE n (l.take i) := by
 have app : ∀ (a b : List MoN), moE n (a ++ b) = orE (moE n a) (moE n b) := fun a b => by
  induction a with
  | nil => rfl
  | cons x a ih =>
   simp only [List.cons_append, moE, ih]
   unfold orE; split <;> rfl
 conv => lhs; rw [<- List.take_append_drop i l]
 rw [app, orE_ne _ h]
def FChkSpec (P : Program) (ι : Ids) (k : FuncId) : Prop := ∀ (F : FlN) (v x : Value) (roles : Int) (p : Nat -> Bool) (H : Hp), TabOk ι H -> ProFl H v F -> SetM H x p -> CallsM P k #[v, .int .i64 roles, x] H fun r H' => r = .int .i64 (flwE F roles p) /\ Keep (fun _ => False) H H'
theorem fchk_ok {P : Program} {ι : Ids} {k : FuncId} (hk : FnIs P k (c_fchk ι) r_fchk 3) (c : ChkC P ι) : FChkSpec P ι k := by
 intro F v x roles p H hT hv hx
 obtain ⟨s, b, d, a, m, ms, rfl, h1, h2, h3, h4, h5, h6⟩ := hv
 obtain ⟨ba, bc, rfl, _⟩ := h2.mk
 obtain ⟨da, dc, rfl, _⟩ := h3.mk
 obtain ⟨aa, ac, rfl, _⟩ := h4.mk
 have hx0 := hx
 obtain ⟨xv, XW, rfl, hXV⟩ := hx
 obtain ⟨Q, hQ⟩ : ∃ Q : Value -> Hp -> Prop, Q = fun r H' => r = .int .i64 (flwE F roles p) /\ Keep (fun _ => False) H H' := ⟨_, rfl⟩
 rw [<- hQ]
 refine calls_of_vc hk (args := [_, _, _]) (by simp) ?_
 unfold c_fchk r_fchk
 simp -implicitDefEqProofs only [go_sem, zS, ↓reduceIte, Za, Zb, Zc, reduceCtorEq, zU, zV, Zf, Zg, Zh, Zi, Zd, Ze, zF]
 refine kont_new fun H1 b3 e1 z1 B1 K1 => ?_
 have B1' := B1
 simp only [Value.cells] at B1'
 simp -implicitDefEqProofs only [go_sem, zS, ↓reduceIte, Za, Zb, Zc, reduceCtorEq, zU, zV, Zf, Zg, Zh, Zi, Zd, Ze, zF]
 refine kont_new fun H2 b5 e2 z2 B2 K2 => ?_
 have B2' : Bl H2 b5 [xv] := B2
 have B32 := K2.bl B1' (by simp)
 have K02 := K1.trans K2
 have c0 : cell H2 ⟨b3, 0, none⟩ = some s := by rw [B32.cell]; rfl
 obtain ⟨n, hn⟩ : ∃ n, n = F.st.length := ⟨_, rfl⟩
 by_cases hn0 : F.st = []
 ·have d0 : ((F.st.length : Int) == 0) = true := by rw [hn0]; rfl
  simp -implicitDefEqProofs only [go_sem, zS, ↓reduceIte, Za, Zb, Zc, reduceCtorEq, kont_eq, zU, zV, Zf, Zg, Zh, Zi, Zd, Ze, zF, c0, h1.isSl, h1.len, d0]
  rw [hQ]
  exact ⟨by unfold flwE; rw [if_pos hn0], K02⟩
 have hnz : 0 < F.st.length := List.length_pos_iff.2 hn0
 have d0 : ((F.st.length : Int) == 0) = false := by simp only [beq_eq_false_iff_ne, ne_eq]; omega
 have hml : ms.length = F.mo.length := h6.len
 simp -implicitDefEqProofs only [go_sem, zS, ↓reduceIte, Za, Zb, Zc, reduceCtorEq, kont_eq, zU, zV, Zf, Zg, Zh, Zi, Zd, Ze, zF, c0, h1.isSl, h1.len, d0]
 refine fckL_ok (F := F) (by simp -implicitDefEqProofs only [go_sem, zS, ↓reduceIte, Za, Zb, Zc, reduceCtorEq, kont_eq, zU, zV, Zf, Zg, Zh, Zi, Zd, Ze]) B32 h1.isSl h2.isSl h3.isSl h4.isSl h5.isSl h1.len h2.len h3.len h4.len (h5.len.trans hml) (fun hbig f' hf6 => ?_) (fun hsm => ?_)
 ·simp -implicitDefEqProofs only [go_sem, zS, ↓reduceIte, Za, Zb, Zc, reduceCtorEq, kont_eq, zU, zV, Zf, Zg, Zh, Zi, Zd, Ze, hf6]
  rw [hQ]
  exact ⟨by unfold flwE; rw [if_neg hn0, if_pos (show tooL F from hbig)], K02⟩
 have hEF : ∀ z, orE (stE roles p F.st F.st.length) (orE (prE F.st.length F.be) (orE (prE F.st.length F.di) (orE (prE F.st.length F.sa) (orE (moE F.st.length F.mo) (acyE (relI F.be)))))) = z -> flwE F roles p = z := fun z h => by
  unfold flwE; rw [if_neg hn0, if_neg (show ¬ tooL F from hsm)]; exact h
 simp -implicitDefEqProofs only [go_sem, zS, ↓reduceIte, Za, Zb, Zc, reduceCtorEq, kont_eq, zU, zV, Zf, Zg, Zh, Zi, Zd, Ze, zF, c0, h1.isSl, h1.len]
 refine vc_range F.st.length [44, 8, 7, 48, 6, 53, 60, 43] rfl rfl (by omega) (by simp -implicitDefEqProofs only [go_sem, zS, ↓reduceIte, Za, Zb, Zc, reduceCtorEq, kont_eq, zU, zV, Zf, Zg, Zh, Zi, Zd, Ze]) (by simp -implicitDefEqProofs only [go_sem, zS, ↓reduceIte, Za, Zb, Zc, reduceCtorEq, kont_eq, zU, zV, Zf, Zg, Zh, Zi, Zd, Ze]) (fun i g A => stE roles p F.st i = 0 /\ Keep (fun _ => False) H2 A) ⟨rfl, Keep.refl _ _⟩ ?_ ?_
 ·rintro i g A hi gi gn ⟨hz, KA⟩
  simp -implicitDefEqProofs only [go_sem, zS, ↓reduceIte, Za, Zb, Zc, reduceCtorEq, kont_eq, zU, zV, Zf, Zg, Zh, Zi, Zd, Ze] at gi gn
  have hA := (h1.keep0 K02).keep0 KA
  obtain ⟨pb, po, pc, hwe, hpb, hld⟩ := hA.elem encS_len hi
  obtain ⟨y, hy⟩ : ∃ y, y = F.st[i] := ⟨_, rfl⟩
  rw [<- hy] at hld
  have hld' : ldNA A ⟨pb, po + i * 2, none⟩ 2 = some #[sV y.1, .int .i64 y.2] := hld
  have hgd : F.st.getD i ([], 0) = y := by rw [List.getD_eq_getElem?_getD, List.getElem?_eq_getElem hi, hy]; rfl
  have hsu : stE roles p F.st (i + 1) = stE1 roles p (F.st.take i) y := by rw [stE, hz, orE_0, hgd]
  simp -implicitDefEqProofs only [go_sem, zS, ↓reduceIte, Za, Zb, Zc, reduceCtorEq, zU, zV, Zf, Zg, Zh, Zi, Zd, Ze, zF, gi, hwe, tn_cast, ldNO_ptr, hld']
  refine ⟨by omega, ?_⟩
  refine kont_newstP [sV y.1, .int .i64 y.2] (.int .i64 (i : Int)) rfl (by simp -implicitDefEqProofs only [go_sem, zS, ↓reduceIte, Za, Zb, Zc, reduceCtorEq, kont_eq, zU, zV, Zf, Zg, Zh, Zi, Zd, Ze]) (by simp -implicitDefEqProofs only [go_sem, zS, ↓reduceIte, Za, Zb, Zc, reduceCtorEq, kont_eq, zU, zV, Zf, Zg, Zh, Zi, Zd, Ze]) rfl rfl rfl fun A1 b8 e8 z8 B8 K8 => ?_
  have K2A := KA.trans K8
  simp -implicitDefEqProofs only [go_sem, zS, ↓reduceIte, Za, Zb, Zc, reduceCtorEq, kont_eq, zU, zV, Zf, Zg, Zh, Zi, Zd, Ze]
  rw [hwe] at B32 h1
  refine fckS_ok c (i := i) (x := y) (st := F.st) (roles := roles) (by simp -implicitDefEqProofs only [go_sem, zS, ↓reduceIte, Za, Zb, Zc, reduceCtorEq, kont_eq, zU, zV, Zf, Zg, Zh, Zi, Zd, Ze]) (by simp -implicitDefEqProofs only [go_sem, zS, ↓reduceIte, Za, Zb, Zc, reduceCtorEq, kont_eq, zU, zV, Zf, Zg, Zh, Zi, Zd, Ze]) (by simp -implicitDefEqProofs only [go_sem, zS, ↓reduceIte, Za, Zb, Zc, reduceCtorEq, kont_eq, zU, zV, Zf, Zg, Zh, Zi, Zd, Ze]) (by simp -implicitDefEqProofs only [go_sem, zS, ↓reduceIte, Za, Zb, Zc, reduceCtorEq, kont_eq, zU, zV, Zf, Zg, Zh, Zi, Zd, Ze]) (by simp -implicitDefEqProofs only [go_sem, zS, ↓reduceIte, Za, Zb, Zc, reduceCtorEq, kont_eq, zU, zV, Zf, Zg, Zh, Zi, Zd, Ze]) (K2A.bl B32 (by simp)) (K2A.bl B2' (by simp)) B8 ((h1.keep0 K02).keep0 K2A) hi (by have := hsm; omega) ((hx0.keep0 K02).keep0 K2A) (fun e f' A' he hne hf' KA' => ?_) (fun f' A' he KA' => ?_)
  ·simp -implicitDefEqProofs only [go_sem, zS, ↓reduceIte, Za, Zb, Zc, reduceCtorEq, kont_eq, zU, zV, Zf, Zg, Zh, Zi, Zd, Ze, hf']
   rw [hQ]
   have := stE_stop (k := i + 1) (l := F.st) (by omega) (hsu.trans he) hne
   exact ⟨by rw [hEF e (by rw [this, orE_ne _ hne])], K02.trans (K2A.trans KA')⟩
  ·simp -implicitDefEqProofs only [go_sem, zS, ↓reduceIte, Za, Zb, Zc, reduceCtorEq, kont_eq, zU, zV, Zf, Zg, Zh, Zi, Zd, Ze]
   exact ⟨by rw [hsu, he], K2A.trans KA'⟩
 ·rintro g A gi ⟨hz, KA⟩
  have K0A := K02.trans KA
  have B3A := KA.bl B32 (by simp)
  have c1 : cell A ⟨b3, 1, none⟩ = some (.slice ba F.be.length bc) := by rw [B3A.cell]; rfl
  have c2 : cell A ⟨b3, 2, none⟩ = some (.slice da F.di.length dc) := by rw [B3A.cell]; rfl
  have c3 : cell A ⟨b3, 3, none⟩ = some (.slice aa F.sa.length ac) := by rw [B3A.cell]; rfl
  obtain ⟨us, hus⟩ : ∃ us : List Value, us = [.slice ba F.be.length bc, .slice da F.di.length dc, .slice aa F.sa.length ac] := ⟨_, rfl⟩
  obtain ⟨ls, hls⟩ : ∃ ls : List (List PrN), ls = [F.be, F.di, F.sa] := ⟨_, rfl⟩
  have hsl : ∀ j < 3, SlP H (us.getD j undef) (ls.getD j []) /\ (ls.getD j []).length <= 20 := fun j hj => by
   rw [hus, hls]
   have : j = 0 \/ j = 1 \/ j = 2 := by omega
   rcases this with rfl | rfl | rfl
   ·exact ⟨h2, by show F.be.length <= 20; omega⟩
   ·exact ⟨h3, by show F.di.length <= 20; omega⟩
   ·exact ⟨h4, by show F.sa.length <= 20; omega⟩
  have hl3 : us.length = 3 := by rw [hus]; rfl
  obtain ⟨pF, hpF⟩ : ∃ pF : Nat -> Int, ∀ j, pF j = (match j with | 0 => 0 | 1 => prE F.st.length F.be | 2 => orE (prE F.st.length F.be) (prE F.st.length F.di) | _ => orE (prE F.st.length F.be) (orE (prE F.st.length F.di) (prE F.st.length F.sa))) := ⟨_, fun _ => rfl⟩
  have hpS : ∀ j < 3, pF j = 0 -> pF (j + 1) = prE F.st.length (ls.getD j []) := fun j hj h0 => by
   rw [hpF] at h0 ⊢
   rw [hls]
   have : j = 0 \/ j = 1 \/ j = 2 := by omega
   rcases this with rfl | rfl | rfl
   ·rfl
   ·simp only at h0 ⊢; rw [h0]; rfl
   ·simp only at h0 ⊢
    obtain ⟨e1, e2⟩ := orE_eq0.1 h0
    rw [e1, e2]; rfl
  have hpE : ∀ j < 3, ∀ e, pF (j + 1) = e -> e ≠ 0 -> flwE F roles p = e := fun j hj e he hne => hEF e (by
   rw [hz, orE_0]
   rw [hpF] at he
   have : j = 0 \/ j = 1 \/ j = 2 := by omega
   rcases this with rfl | rfl | rfl
   ·simp only at he; rw [he, orE_ne _ hne]
   ·simp only at he
    unfold orE at he ⊢
    split at he
    ·next h => rw [if_pos h, he, if_neg hne]
    ·next h => rw [if_neg h]; exact he
   ·simp only at he
    unfold orE at he ⊢
    split at he
    ·next h =>
     rw [if_pos h]
     split at he
     ·next h' => rw [if_pos h', he, if_neg hne]
     ·next h' => rw [if_neg h']; exact he
    ·next h => rw [if_neg h]; exact he)
  simp -implicitDefEqProofs only [go_sem, zS, ↓reduceIte, Za, Zb, Zc, reduceCtorEq, zU, zV, Zf, Zg, Zh, Zi, Zd, Ze, zF, c1, c2, c3]
  refine kont_news fun A1 b83 e3 z3 B83 K83 => ?_
  have B83' : Bl A1 b83 us := by rw [hus]; exact B83
  have K01 := K0A.trans K83
  have K21 := KA.trans K83
  clear hus B83 hls
  simp -implicitDefEqProofs only [go_sem, zS, ↓reduceIte, Za, Zb, Zc, reduceCtorEq, kont_eq, zU, zV, Zf, Zg, Zh, Zi, Zd, Ze, zF]
  refine vc_range 3 [86, 10, 11, 6, 95, 85] rfl rfl (by omega) (by simp -implicitDefEqProofs only [go_sem, zS, ↓reduceIte, Za, Zb, Zc, reduceCtorEq, kont_eq, zU, zV, Zf, Zg, Zh, Zi, Zd, Ze]) (by simp -implicitDefEqProofs only [go_sem, zS, ↓reduceIte, Za, Zb, Zc, reduceCtorEq, kont_eq, zU, zV, Zf, Zg, Zh, Zi, Zd, Ze]) (fun j g X => pF j = 0 /\ Keep (fun _ => False) A1 X) ⟨(hpF 0).trans rfl, Keep.refl _ _⟩ ?_ ?_
  ·rintro j g2 X hj gi gn ⟨hpj, KX⟩
   simp -implicitDefEqProofs only [go_sem, zS, ↓reduceIte, Za, Zb, Zc, reduceCtorEq, kont_eq, zU, zV, Zf, Zg, Zh, Zi, Zd, Ze] at gi gn
   obtain ⟨hslj, hll⟩ := hsl j hj
   have KHX := K01.trans KX
   have hcj : cell X ⟨b83, j, none⟩ = some (us.getD j undef) := by
    rw [(KX.bl B83' (by simp)).cell, List.getElem?_eq_getElem (by omega), List.getD_eq_getElem?_getD, List.getElem?_eq_getElem (by omega)]; rfl
   have cs0 : cell X ⟨b3, 0, none⟩ = some s := by rw [((K21.trans KX).bl B32 (by simp)).cell]; rfl
   simp -implicitDefEqProofs only [go_sem, zS, ↓reduceIte, Za, Zb, Zc, reduceCtorEq, kont_eq, zU, zV, Zf, Zg, Zh, Zi, Zd, Ze, zF, gi, tn_cast, hcj, cs0, h1.isSl, h1.len]
   refine ⟨by omega, (c.prs F.st.length (ls.getD j []) _ X (hslj.keep0 KHX) (by omega) (by omega)).mono ?_⟩
   rintro r X1 ⟨rfl, KX1⟩
   rw [kont_eq]
   by_cases hne : prE F.st.length (ls.getD j []) = 0
   ·have dn : ((prE F.st.length (ls.getD j [])) != 0) = false := by rw [hne]; rfl
    simp -implicitDefEqProofs only [go_sem, zS, ↓reduceIte, Za, Zb, Zc, reduceCtorEq, kont_eq, zU, zV, Zf, Zg, Zh, Zi, Zd, Ze, zF, dn]
    exact ⟨by rw [hpS j hj hpj]; exact hne, KX.trans KX1⟩
   ·have dn : ((prE F.st.length (ls.getD j [])) != 0) = true := bne_iff_ne.2 hne
    simp -implicitDefEqProofs only [go_sem, zS, ↓reduceIte, Za, Zb, Zc, reduceCtorEq, kont_eq, zU, zV, Zf, Zg, Zh, Zi, Zd, Ze, zF, dn]
    rw [hQ]
    exact ⟨by rw [hpE j hj _ (hpS j hj hpj) hne], KHX.trans KX1⟩
  ·rintro g2 X gi ⟨hp3, KX⟩
   have hp3' := hpF 3
   rw [hp3] at hp3'
   have hp3' : orE (prE F.st.length F.be) (orE (prE F.st.length F.di) (prE F.st.length F.sa)) = 0 := hp3'.symm
   obtain ⟨pb0, hp3'⟩ := orE_eq0.1 hp3'
   obtain ⟨pd0, pa0⟩ := orE_eq0.1 hp3'
   have KHX := K01.trans KX
   have K2X := K21.trans KX
   have B3X := K2X.bl B32 (by simp)
   have c4 : cell X ⟨b3, 4, none⟩ = some m := by rw [B3X.cell]; rfl
   simp -implicitDefEqProofs only [go_sem, zS, ↓reduceIte, Za, Zb, Zc, reduceCtorEq, kont_eq, zU, zV, Zf, Zg, Zh, Zi, Zd, Ze, zF, c4, h5.isSl, h5.len]
   refine vc_range ms.length [102, 13, 127, 6, 101] rfl rfl (by omega) (by simp -implicitDefEqProofs only [go_sem, zS, ↓reduceIte, Za, Zb, Zc, reduceCtorEq, kont_eq, zU, zV, Zf, Zg, Zh, Zi, Zd, Ze]) (by simp -implicitDefEqProofs only [go_sem, zS, ↓reduceIte, Za, Zb, Zc, reduceCtorEq, kont_eq, zU, zV, Zf, Zg, Zh, Zi, Zd, Ze]) (fun i g Y => moE F.st.length (F.mo.take i) = 0 /\ Keep (fun _ => False) X Y) ⟨rfl, Keep.refl _ _⟩ ?_ ?_
   ·rintro i g3 Y hi gi gn ⟨hmz, KY⟩
    simp -implicitDefEqProofs only [go_sem, zS, ↓reduceIte, Za, Zb, Zc, reduceCtorEq, kont_eq, zU, zV, Zf, Zg, Zh, Zi, Zd, Ze] at gi gn
    have KHY := KHX.trans KY
    have hi' : i < F.mo.length := by omega
    obtain ⟨pb, po, pc, hwe, hpb, hld⟩ := (h5.keep0 KHY).elem encV_len hi
    obtain ⟨y, hy⟩ : ∃ y, y = ms[i] := ⟨_, rfl⟩
    obtain ⟨w, hw⟩ : ∃ w, w = F.mo[i] := ⟨_, rfl⟩
    obtain ⟨r1, r2⟩ := h6.at_ i hi hi'
    rw [<- hy, <- hw] at r1 r2
    rw [<- hy] at hld
    have hld' : ldNA Y ⟨pb, po + i * 2, none⟩ 2 = some #[.int .i64 y.1, mvV y] := hld
    have hms := moE_at hi' hmz
    rw [<- hw] at hms
    simp -implicitDefEqProofs only [go_sem, zS, ↓reduceIte, Za, Zb, Zc, reduceCtorEq, zU, zV, Zf, Zg, Zh, Zi, Zd, Ze, zF, gi, hwe, tn_cast, ldNO_ptr, hld']
    refine ⟨by omega, ?_⟩
    refine kont_newst [.int .i64 y.1, mvV y] (by simp -implicitDefEqProofs only [go_sem, zS, ↓reduceIte, Za, Zb, Zc, reduceCtorEq, kont_eq, zU, zV, Zf, Zg, Zh, Zi, Zd, Ze]) rfl rfl rfl fun Y1 b13 e13 z13 B13 K13 => ?_
    have KHY1 := KHY.trans K13
    simp -implicitDefEqProofs only [go_sem, zS, ↓reduceIte, Za, Zb, Zc, reduceCtorEq, kont_eq, zU, zV, Zf, Zg, Zh, Zi, Zd, Ze]
    refine fckM_ok c (n := F.st.length) (x := y) (y := w) (by simp -implicitDefEqProofs only [go_sem, zS, ↓reduceIte, Za, Zb, Zc, reduceCtorEq, kont_eq, zU, zV, Zf, Zg, Zh, Zi, Zd, Ze]) (by simp -implicitDefEqProofs only [go_sem, zS, ↓reduceIte, Za, Zb, Zc, reduceCtorEq, kont_eq, zU, zV, Zf, Zg, Zh, Zi, Zd, Ze]) ((K2X.trans (KY.trans K13)).bl B32 (by simp)) B13 h1.isSl h1.len (by omega) r1 (r2.keep0 KHY1) (fun f' Y2 he hf' KY2 => ?_) (fun f' Y2 he KY2 => ?_)
    ·simp -implicitDefEqProofs only [go_sem, zS, ↓reduceIte, Za, Zb, Zc, reduceCtorEq, kont_eq, zU, zV, Zf, Zg, Zh, Zi, Zd, Ze, hf']
     rw [hQ]
     have h2 : moE F.st.length (F.mo.take (i + 1)) = 2 := hms.trans he
     have h3 := moE_stop (l := F.mo) (i := i + 1) (by rw [h2]; decide)
     exact ⟨by rw [hEF 2 (by rw [hz, orE_0, pb0, orE_0, pd0, orE_0, pa0, orE_0, h3, h2, orE_ne _ (by decide)])], KHY1.trans KY2⟩
    ·simp -implicitDefEqProofs only [go_sem, zS, ↓reduceIte, Za, Zb, Zc, reduceCtorEq, kont_eq, zU, zV, Zf, Zg, Zh, Zi, Zd, Ze]
     exact ⟨hms.trans he, (KY.trans K13).trans KY2⟩
   ·rintro g3 Y gi ⟨hmz, KY⟩
    rw [hml, List.take_length] at hmz
    have KHY := KHX.trans KY
    have B3Y := (K2X.trans KY).bl B32 (by simp)
    have cy0 : cell Y ⟨b3, 0, none⟩ = some s := by rw [B3Y.cell]; rfl
    have cy1 : cell Y ⟨b3, 1, none⟩ = some (.slice ba F.be.length bc) := by rw [B3Y.cell]; rfl
    simp -implicitDefEqProofs only [go_sem, zS, ↓reduceIte, Za, Zb, Zc, reduceCtorEq, kont_eq, zU, zV, Zf, Zg, Zh, Zi, Zd, Ze, zF, cy0, cy1, h1.isSl, h1.len]
    refine (c.nw (F.st.length : Int) F.be _ Y (hT.keep KHY) (h2.keep0 KHY) (by omega)).mono ?_
    rintro r Y1 ⟨hr, KY1, -⟩
    have hok : ∀ q ∈ F.be, okP (F.st.length : Int) q := fun q hq => (prE1_0.1 (prE_0.1 pb0 q hq)).1
    rw [kont_eq]
    rcases hr with ⟨hb, _⟩ | ⟨_, hb, _⟩ | ⟨_, _, hA, rfl⟩ | ⟨_, _, hA, pv, rfl, _⟩
    ·unfold badN at hb; omega
    ·exact absurd hok hb
    ·simp -implicitDefEqProofs only [go_sem, zS, ↓reduceIte, Za, Zb, Zc, reduceCtorEq, kont_eq, zU, zV, Zf, Zg, Zh, Zi, Zd, Ze, zF]
     rw [hQ]
     exact ⟨by rw [hEF 16 (by rw [hz, orE_0, pb0, orE_0, pd0, orE_0, pa0, orE_0, hmz, orE_0, acyE_1 hA])], KHY.trans KY1⟩
    ·simp -implicitDefEqProofs only [go_sem, zS, ↓reduceIte, Za, Zb, Zc, reduceCtorEq, kont_eq, zU, zV, Zf, Zg, Zh, Zi, Zd, Ze, zF]
     rw [hQ]
     exact ⟨by rw [hEF 0 (by rw [hz, orE_0, pb0, orE_0, pd0, orE_0, pa0, orE_0, hmz, orE_0, acyE_0 hA])], KHY.trans KY1⟩
end Go.Mg
namespace Go.Mg
open Go Go.RowKit
set_option linter.all false
set_option maxRecDepth 100000
def rdB (d : Nat -> Bool) (k : Nat) (x : PrN) : Bool := decide (x.2 = (k : Int)) && !memI d x.1
theorem rdyL_succ (m : Nat) (be : List PrN) (d : Nat -> Bool) : ((List.range (m + 1)).filter fun k => !waitB be d k && !memI d (k : Int)) = ((List.range m).filter fun k => !waitB be d k && !memI d (k : Int)) ++ if (!waitB be d m && !memI d (m : Int)) = true then [m] else [] := by
 rw [List.range_succ, List.filter_append]
 congr 1
 simp only [List.filter_cons, List.filter_nil]
theorem rdyL_len (n : Nat) (be : List PrN) (d : Nat -> Bool) : (rdyL n be d).length <= n := by
 have := List.length_filter_le (fun k => !waitB be d k && !memI d (k : Int)) (List.range n)
 rwa [List.length_range] at this
end Go.Mg
namespace Go.Mg
open Go Go.RowKit
set_option linter.all false
set_option maxRecDepth 100000
end Go.Mg
namespace Go.Mg
open Go Go.RowKit
set_option linter.all false
set_option maxRecDepth 100000
def c_fgood (ι : Ids) : S :=
 .seq (.reg [.e (.v 1) (.box (ι.t 296) (.v 0)), .p (.v 2) (.mv (.c (.bool false)))]) (.seq (.reg [.p (.t 3) (.m (.ldn 5 (.v 1))), .p (.t 4) (.m (.bld #[.slice .none 0 0] [])), .e (.t 5) (.call (ι.f
 307) [.t 3, .c (.int .i64 63), .t 4]), .p (.t 6) (.cm .eql .i64 (.t 5) (.c (.int .i64 0))), .p (.v 2) (.mv (.t 6))]) .ret)
def r_fgood : List RV := [.t 2]
def c_rdy1 (ι : Ids) : S :=
 .seq (.reg [.e (.v 3) (.box (ι.t 194) (.v 0)), .p (.v 4) (.mv (.c (.bool false)))]) (.seq (.reg [.p (.t 5) (.ia 2 1 (.v 3) (.c (.int .i64 1))), .p (.t 6) (.ld (.t 5)), .p (.t 7) (.ld (.v 1)), .p (.t
 8) (.cm .eql .i64 (.t 6) (.t 7)), .p (.t 9) (.mv (.t 8)), .gp (.t 10) (.t 9) true (.m (.ldn 1 (.v 2))), .gp (.t 11) (.t 9) true (.ia 2 1 (.v 3) (.c (.int .i64 0))), .gp (.t 12) (.t 9) true (.ld (.t
 11)), .ge (.t 13) (.t 9) true (.call (ι.f 130) [.t 10, .t 12]), .gp (.t 14) (.t 9) true (.not (.t 13)), .p (.t 15) (.pick (.t 9) (.t 14) (.c (.bool false))), .p (.v 4) (.mv (.t 15))]) .ret)
def r_rdy1 : List RV := [.t 4]
def c_frdy (ι : Ids) : S :=
 .seq (.reg [.e (.v 2) (.box (ι.t 296) (.v 0)), .e (.v 3) (.box (ι.t 128) (.v 1)), .p (.v 4) (.mv (.c (.slice .none 0 0)))]) (.seq (.seq (.reg [.p (.t 8) (.m (.ldn 5 (.v 2))), .e (.t 9) (.call (ι.f
 312) [.t 8]), .p (.v 10) (.not (.t 9))]) (.ite (.v 10) (.seq (.reg [.p (.v 4) (.mv (.c (.slice .none 0 0)))]) .ret) .skip)) (.seq (.reg [.p (.v 5) (.mv (.c (.slice .none 0 0)))]) (.seq (.seq (.reg [.p
 (.t 11) (.fa 0 (.v 2)), .p (.t 12) (.ld (.t 11)), .p (.v 13) (.m (.lenl (.t 12))), .p (.v 14) (.mv (.c (.int .i64 0)))]) (.blk 0 (.loop (.seq (.reg [.p (.v 15) (.cm .lss .i64 (.v 14) (.v 13))]) (.seq
 (.ite (.v 15) .skip (.exit 0)) (.seq (.blk 1 (.seq (.reg [.p (.t 16) (.mv (.v 14)), .e (.v 6) (.new (ι.t 26) #[.int .i64 0]), .e .no (.st (.v 6) (.t 16))]) (.seq (.reg [.p (.t 17) (.fa 1 (.v 2)), .p
 (.t 18) (.ld (.t 17)), .p (.t 19) (.m (.mkf (ι.f 313) [] [.v 6, .v 3])), .e (.t 20) (.call (ι.f 304) [.t 18, .t 19]), .p (.v 7) (.mv (.t 20))]) (.seq (.reg [.p (.t 21) (.mv (.v 7)), .p (.t 22) (.not
 (.t 21)), .p (.t 23) (.mv (.t 22)), .gp (.t 24) (.t 23) true (.m (.ldn 1 (.v 3))), .gp (.t 25) (.t 23) true (.ld (.v 6)), .ge (.t 26) (.t 23) true (.call (ι.f 130) [.t 24, .t 25]), .gp (.t 27) (.t 23)
 true (.not (.t 26)), .p (.v 28) (.pick (.t 23) (.t 27) (.c (.bool false)))]) (.ite (.v 28) (.reg [.p (.t 29) (.mv (.v 5)), .p (.t 30) (.ld (.v 6)), .e (.t 31) (.bldF (ι.t 26) 1 1 [.t 30]), .e (.t 32)
 (.app false (ι.t 26) 1 8 #[.int .i64 0] (.t 29) (.t 31)), .p (.v 5) (.mv (.t 32))]) .skip))))) (.reg [.p (.t 33) (.ar .add .i64 (.v 14) (.c (.int .i64 1))), .p (.v 14) (.mv (.t 33))]))))))) (.seq
 (.reg [.p (.t 34) (.mv (.v 5)), .p (.v 4) (.mv (.t 34))]) .ret))))
def r_frdy : List RV := [.t 4]
def c_ford (ι : Ids) : S :=
 .seq (.reg [.e (.v 1) (.box (ι.t 296) (.v 0)), .p (.v 2) (.mv (.c (.slice .none 0 0)))]) (.seq (.seq (.reg [.p (.t 6) (.m (.ldn 5 (.v 1))), .e (.t 7) (.call (ι.f 312) [.t 6]), .p (.v 8) (.not (.t
 7))]) (.ite (.v 8) (.seq (.reg [.p (.v 2) (.mv (.c (.slice .none 0 0)))]) .ret) .skip)) (.seq (.reg [.p (.v 3) (.mv (.c (.slice .none 0 0)))]) (.seq (.reg [.p (.t 9) (.m (.bld #[.slice .none 0 0]
 [])), .e (.v 4) (.new (ι.t 128) #[.slice .none 0 0]), .e .no (.stn 1 (.v 4) (.t 9))]) (.seq (.blk 0 (.loop (.seq (.seq (.reg [.p (.t 10) (.mv (.v 3)), .p (.t 11) (.m (.lenl (.t 10))), .p (.t 12) (.fa
 0 (.v 1)), .p (.t 13) (.ld (.t 12)), .p (.t 14) (.m (.lenl (.t 13))), .p (.v 15) (.cm .lss .i64 (.t 11) (.t 14))]) (.ite (.v 15) .skip (.exit 0))) (.blk 1 (.seq (.reg [.p (.t 16) (.m (.ldn 5 (.v 1))),
 .p (.t 17) (.m (.ldn 1 (.v 4))), .e (.t 18) (.call (ι.f 314) [.t 16, .t 17]), .p (.t 19) (.is 1 (.t 18) (.c (.int .i64 0))), .p (.t 20) (.ld (.t 19)), .p (.v 5) (.mv (.t 20))]) (.seq (.reg [.p (.t 21)
 (.mv (.v 3)), .p (.t 22) (.mv (.v 5)), .e (.t 23) (.bldF (ι.t 26) 1 1 [.t 22]), .e (.t 24) (.app false (ι.t 26) 1 8 #[.int .i64 0] (.t 21) (.t 23)), .p (.v 3) (.mv (.t 24))]) (.reg [.p (.t 25) (.m
 (.ldn 1 (.v 4))), .p (.t 26) (.mv (.v 5)), .e (.t 27) (.call (ι.f 131) [.t 25, .t 26]), .e .no (.stn 1 (.v 4) (.t 27))]))))))) (.seq (.reg [.p (.t 28) (.mv (.v 3)), .p (.v 2) (.mv (.t 28))]) .ret)))))
def r_ford : List RV := [.t 2]
noncomputable def okF (F : FlN) : Bool := decide (flwE F 63 (fun _ => false) = 0)
def FGoodSpec (P : Program) (ι : Ids) (k : FuncId) : Prop := ∀ (F : FlN) (v : Value) (H : Hp), TabOk ι H -> ProFl H v F -> CallsM P k #[v] H fun r H' => r = .bool (okF F) /\ Keep (fun _ => False) H H'
theorem fgood_ok {P : Program} {ι : Ids} {k : FuncId} (hk : FnIs P k (c_fgood ι) r_fgood 1) (hc : FChkSpec P ι (ι.f 307)) : FGoodSpec P ι k := by
 intro F v H hT hv
 have hv0 := hv
 obtain ⟨s, b, d, a, m, ms, rfl, h1, h2, h3, h4, h5, h6⟩ := hv
 refine calls_of_vc hk (args := [_]) (by simp) ?_
 unfold c_fgood r_fgood
 simp -implicitDefEqProofs only [go_sem, zS, ↓reduceIte, Za, Zb, Zc, reduceCtorEq, zU, zV, Zf, Zg, Zh, Zi, Zd, Ze, zF]
 refine kont_new fun H1 b1 e1 z1 B1 K1 => ?_
 have B1' : Bl H1 b1 [s, b, d, a, m] := B1
 simp -implicitDefEqProofs only [go_sem, zS, ↓reduceIte, Za, Zb, Zc, reduceCtorEq, kont_eq, zU, zV, Zf, Zg, Zh, Zi, Zd, Ze, zF, B1'.ldNO 5 rfl]
 refine (hc F _ _ 63 _ H1 (hT.keep K1) (hv0.keep0 K1) (SetM.empty H1 none 0)).mono ?_
 rintro r A ⟨rfl, K2⟩
 rw [kont_eq]
 have e : (flwE F 63 (fun _ => false) == 0) = okF F := by
  unfold okF
  rw [Bool.eq_iff_iff]; simp
 simp -implicitDefEqProofs only [go_sem, zS, ↓reduceIte, Za, Zb, Zc, reduceCtorEq, kont_eq, zU, zV, Zf, Zg, Zh, Zi, Zd, Ze, zF, e]
 exact K1.trans K2
theorem okF_iff {F : FlN} : okF F = true ↔ flwE F 63 (fun _ => false) = 0 := by unfold okF; exact decide_eq_true_iff
theorem okF_good {F : FlN} (h : okF F = true) : Good F := (flwE_0.1 (okF_iff.1 h)).1
theorem mkF_ok (r : RawF) : okF (mkF r) = true := okF_iff.2 (mkF_chk r (by omega) fun _ _ _ => rfl)
def Rdy1Spec (P : Program) (k : FuncId) : Prop := bodyOk P k = true /\ ∀ (x : PrN) (i b6 b3 : Nat) (d : Nat -> Bool) (dv : Value) (H : Hp), Bl H b6 [.int .i64 (i : Int)] -> Bl H b3 [dv] -> SetM H (.agg #[dv]) d -> CallsM P k #[.agg (pE x).toArray, .pointer (some ⟨b6, 0, none⟩), .pointer (some ⟨b3, 0, none⟩)] H fun r H' => r = .bool (rdB d i x) /\ Keep (fun _ => False) H H'
theorem rdy1_ok {P : Program} {ι : Ids} {k : FuncId} (hk : FnIs P k (c_rdy1 ι) r_rdy1 3) (hh : HasSpec P (ι.f 130)) : Rdy1Spec P k := by
 refine ⟨hk.body, fun x i b6 b3 d dv H B6 B3 hd => ?_⟩
 refine calls_of_vc hk (args := [_, _, _]) (by simp) ?_
 unfold c_rdy1 r_rdy1
 simp -implicitDefEqProofs only [go_sem, zS, ↓reduceIte, Za, Zb, Zc, reduceCtorEq, zU, zV, Zf, Zg, Zh, Zi, Zd, Ze, zF]
 refine kont_new fun H1 b1 e1 z1 B1 K1 => ?_
 have B1' : Bl H1 b1 (pE x) := B1
 have c0 : cell H1 ⟨b1, 0, none⟩ = some (.int .i64 x.1) := by rw [B1'.cell]; rfl
 have c1 : cell H1 ⟨b1, 1, none⟩ = some (.int .i64 x.2) := by rw [B1'.cell]; rfl
 have c6 : cell H1 ⟨b6, 0, none⟩ = some (.int .i64 (i : Int)) := by rw [(K1.bl B6 (by simp)).cell]; rfl
 have B31 := K1.bl B3 (by simp)
 by_cases e : x.2 = (i : Int)
 ·have d1 : (x.2 == (i : Int)) = true := by simp [e]
  simp -implicitDefEqProofs only [go_sem, zS, ↓reduceIte, Za, Zb, Zc, reduceCtorEq, kont_eq, zU, zV, Zf, Zg, Zh, Zi, Zd, Ze, zF, c0, c1, c6, d1, B31.ldNO 1 rfl]
  refine (hh d _ x.1 H1 (hd.keep0 K1)).mono ?_
  rintro r A ⟨rfl, K2⟩
  rw [kont_eq]
  simp -implicitDefEqProofs only [go_sem, zS, ↓reduceIte, Za, Zb, Zc, reduceCtorEq, kont_eq, zU, zV, Zf, Zg, Zh, Zi, Zd, Ze, zF]
  refine ⟨?_, K1.trans K2⟩
  simp [rdB, e]
 ·have d1 : (x.2 == (i : Int)) = false := by simp [e]
  simp -implicitDefEqProofs only [go_sem, zS, ↓reduceIte, Za, Zb, Zc, reduceCtorEq, kont_eq, zU, zV, Zf, Zg, Zh, Zi, Zd, Ze, zF, c0, c1, c6, d1]
  refine ⟨?_, K1⟩
  simp [rdB, e]
def FRdySpec (P : Program) (ι : Ids) (k : FuncId) : Prop := ∀ (F : FlN) (v x : Value) (d : Nat -> Bool) (H : Hp), TabOk ι H -> ProFl H v F -> okF F = true -> SetM H x d -> CallsM P k #[v, x] H fun r H' => OwS H' r (iN (rdyL F.st.length F.be d)) /\ (∀ q, ownB r q -> H.size <= q) /\ Keep (fun _ => False) H H'
structure RdyC (P : Program) (ι : Ids) : Prop where
 gd : FGoodSpec P ι (ι.f 312)
 r1 : Rdy1Spec P (ι.f 313)
 con : ConFSpec pE P (ι.f 304)
 has : HasSpec P (ι.f 130)
theorem frdy_ok {P : Program} {ι : Ids} {k : FuncId} (hk : FnIs P k (c_frdy ι) r_frdy 2) (c : RdyC P ι) : FRdySpec P ι k := by
 intro F v x d H hT hv hok hx
 have hv0 := hv
 have hx0 := hx
 obtain ⟨dv, W, rfl, hV⟩ := hx
 obtain ⟨s, b, dd, a, m, ms, rfl, h1, h2, h3, h4, h5, h6⟩ := hv
 have hG := okF_good hok
 have hlim := hG.lim
 unfold tooL at hlim
 obtain ⟨Q, hQ⟩ : ∃ Q : Value -> Hp -> Prop, Q = fun r H' => OwS H' r (iN (rdyL F.st.length F.be d)) /\ (∀ q, ownB r q -> H.size <= q) /\ Keep (fun _ => False) H H' := ⟨_, rfl⟩
 rw [<- hQ]
 refine calls_of_vc hk (args := [_, _]) (by simp) ?_
 unfold c_frdy r_frdy
 simp -implicitDefEqProofs only [go_sem, zS, ↓reduceIte, Za, Zb, Zc, reduceCtorEq, zU, zV, Zf, Zg, Zh, Zi, Zd, Ze, zF]
 refine kont_new fun H1 b2 e1 z1 B1 K1 => ?_
 have B1' : Bl H1 b2 [s, b, dd, a, m] := B1
 simp -implicitDefEqProofs only [go_sem, zS, ↓reduceIte, Za, Zb, Zc, reduceCtorEq, zU, zV, Zf, Zg, Zh, Zi, Zd, Ze, zF]
 refine kont_new fun H2 b3 e2 z2 B2 K2 => ?_
 have B2' : Bl H2 b3 [dv] := B2
 have B12 := K2.bl B1' (by simp)
 have K02 := K1.trans K2
 simp -implicitDefEqProofs only [go_sem, zS, ↓reduceIte, Za, Zb, Zc, reduceCtorEq, kont_eq, zU, zV, Zf, Zg, Zh, Zi, Zd, Ze, zF, B12.ldNO 5 rfl]
 refine (c.gd F _ H2 (hT.keep K02) (hv0.keep0 K02)).mono ?_
 rintro r H3 ⟨rfl, K3⟩
 have K03 := K02.trans K3
 have B13 := K3.bl B12 (by simp)
 have B23 := K3.bl B2' (by simp)
 have c0 : cell H3 ⟨b2, 0, none⟩ = some s := by rw [B13.cell]; rfl
 rw [kont_eq, hok]
 obtain ⟨LF, hLF⟩ : ∃ LF : Nat -> List Nat, ∀ i, LF i = (List.range i).filter fun k => !waitB F.be d k && !memI d (k : Int) := ⟨_, fun _ => rfl⟩
 have hLl : ∀ i, (LF i).length <= i := fun i => by
  rw [hLF]
  have := List.length_filter_le (fun k => !waitB F.be d k && !memI d (k : Int)) (List.range i)
  rwa [List.length_range] at this
 simp -implicitDefEqProofs only [go_sem, zS, ↓reduceIte, Za, Zb, Zc, reduceCtorEq, kont_eq, zU, zV, Zf, Zg, Zh, Zi, Zd, Ze, zF, Bool.not_true, c0, h1.isSl, h1.len]
 refine vc_range F.st.length [15, 6, 7, 28, 5, 14] rfl rfl (by omega) (by simp -implicitDefEqProofs only [go_sem, zS, ↓reduceIte, Za, Zb, Zc, reduceCtorEq, kont_eq, zU, zV, Zf, Zg, Zh, Zi, Zd, Ze]) (by simp -implicitDefEqProofs only [go_sem, zS, ↓reduceIte, Za, Zb, Zc, reduceCtorEq, kont_eq, zU, zV, Zf, Zg, Zh, Zi, Zd, Ze]) (fun i g A => ∃ lv, g 5 = lv /\ OwS A lv (iN (LF i)) /\ (∀ q, ownB lv q -> H3.size <= q) /\ Keep (fun _ => False) H3 A) ⟨.slice none 0 0, by simp -implicitDefEqProofs only [go_sem, zS, ↓reduceIte, Za, Zb, Zc, reduceCtorEq, kont_eq, zU, zV, Zf, Zg, Zh, Zi, Zd, Ze], by rw [hLF]; exact OwS.nil _, fun q h => h.elim, Keep.refl _ _⟩ ?_ ?_
 ·rintro i g A hi gi gn ⟨lv, g5, OA, oA, KA⟩
  simp -implicitDefEqProofs only [go_sem, zS, ↓reduceIte, Za, Zb, Zc, reduceCtorEq, kont_eq, zU, zV, Zf, Zg, Zh, Zi, Zd, Ze] at gi gn g5
  have sA := KA.size
  simp -implicitDefEqProofs only [go_sem, zS, ↓reduceIte, Za, Zb, Zc, reduceCtorEq, zU, zV, Zf, Zg, Zh, Zi, Zd, Ze, zF, gi]
  refine kont_newst1 (.int .i64 (i : Int)) (by simp -implicitDefEqProofs only [go_sem, zS, ↓reduceIte, Za, Zb, Zc, reduceCtorEq, kont_eq, zU, zV, Zf, Zg, Zh, Zi, Zd, Ze]) rfl fun A1 b6 e6 z6 B6 K6 => ?_
  have K31 := KA.trans K6
  have B1A := K31.bl B13 (by simp)
  have B2A := K31.bl B23 (by simp)
  have c1 : cell A1 ⟨b2, 1, none⟩ = some b := by rw [B1A.cell]; rfl
  have K0A := K03.trans K31
  have ans : AnsC P pE (rdB d i) F.be (ι.f 313) #[] #[.pointer (some ⟨b6, 0, none⟩), .pointer (some ⟨b3, 0, none⟩)] A1 := ⟨c.r1.1, fun y _ A2 K2 => by
   have := c.r1.2 y i b6 b3 d dv A2 (K2.bl B6 (by simp)) (K2.bl B2A (by simp)) (hx0.keep0 (K0A.trans K2))
   simpa using this⟩
  simp -implicitDefEqProofs only [go_sem, zS, ↓reduceIte, Za, Zb, Zc, reduceCtorEq, kont_eq, zU, zV, Zf, Zg, Zh, Zi, Zd, Ze, zF, c1]
  refine (c.con F.be _ b _ _ _ A1 (h2.keep0 K0A) (by omega) ans).mono ?_
  rintro r A2 ⟨rfl, KA2⟩
  have sA2 := KA2.size
  have s6 := K6.size
  rw [kont_eq]
  have c6 : cell A2 ⟨b6, 0, none⟩ = some (.int .i64 (i : Int)) := by rw [(KA2.bl B6 (by simp)).cell]; rfl
  have hw : F.be.any (rdB d i) = waitB F.be d i := rfl
  rw [hw]
  have hsuc : ∀ rd, (!waitB F.be d i && !memI d (i : Int)) = rd -> LF (i + 1) = LF i ++ if rd = true then [i] else [] := fun rd h => by rw [hLF, rdyL_succ, <- hLF, h]
  cases hwt : waitB F.be d i with
  | true =>
   have hs := hsuc false (by rw [hwt]; rfl)
   simp -implicitDefEqProofs only [go_sem, zS, ↓reduceIte, Za, Zb, Zc, reduceCtorEq, kont_eq, zU, zV, Zf, Zg, Zh, Zi, Zd, Ze, zF, Bool.not_true, g5]
   exact ⟨lv, rfl, by rw [hs]; simpa using (OA.keep K6 (by simp)).keep KA2 (by simp), oA, K31.trans KA2⟩
  | false =>
   have B22 := KA2.bl B2A (by simp)
   simp -implicitDefEqProofs only [go_sem, zS, ↓reduceIte, Za, Zb, Zc, reduceCtorEq, kont_eq, zU, zV, Zf, Zg, Zh, Zi, Zd, Ze, zF, Bool.not_false, c6, B22.ldNO 1 rfl]
   refine (c.has d _ (i : Int) A2 (hx0.keep0 (K0A.trans KA2))).mono ?_
   rintro r A3 ⟨rfl, KA3⟩
   have sA3 := KA3.size
   have KK := K6.trans (KA2.trans KA3)
   have c63 : cell A3 ⟨b6, 0, none⟩ = some (.int .i64 (i : Int)) := by rw [((KA2.trans KA3).bl B6 (by simp)).cell]; rfl
   rw [kont_eq]
   cases hm : memI d (i : Int) with
   | true =>
    have hs := hsuc false (by rw [hm]; simp)
    simp -implicitDefEqProofs only [go_sem, zS, ↓reduceIte, Za, Zb, Zc, reduceCtorEq, kont_eq, zU, zV, Zf, Zg, Zh, Zi, Zd, Ze, zF, Bool.not_true, g5]
    exact ⟨lv, rfl, by rw [hs]; simpa using OA.keep KK (by simp), oA, KA.trans KK⟩
   | false =>
    have hs := hsuc true (by rw [hm, hwt]; rfl)
    simp -implicitDefEqProofs only [go_sem, zS, ↓reduceIte, Za, Zb, Zc, reduceCtorEq, zU, zV, Zf, Zg, Zh, Zi, Zd, Ze, zF, Bool.not_false, g5, c63]
    refine kont_news fun A4 b4 e4 z4 B4 K4 => ?_
    have B4' : Bl A4 b4 (iN [i]) := B4
    have hll := hLl i
    simp -implicitDefEqProofs only [go_sem, zS, ↓reduceIte, Za, Zb, Zc, reduceCtorEq, kont_eq, zU, zV, Zf, Zg, Zh, Zi, Zd, Ze, zF]
    refine app_slN (m := iN [i]) H3.size (OA.keep (KK.trans K4) (by simp)) oA (by have := K4.size; omega) (SlR.bl B4' 0 1 1 (by omega) (by simp [iN_len])) (iL_all1 _) rfl (by omega) (by rw [iN_len, iN_len]; simp; omega) fun v' A5 O5 o5 K5 => ?_
    simp -implicitDefEqProofs only [go_sem, zS, ↓reduceIte, Za, Zb, Zc, reduceCtorEq, kont_eq, zU, zV, Zf, Zg, Zh, Zi, Zd, Ze]
    exact ⟨v', rfl, by rw [hs, if_pos rfl, iN_app]; exact O5, o5, ((KA.trans KK).trans K4).trans' K5 fun q hq h => by omega⟩
 ·rintro g A gi ⟨lv, g5, OA, oA, KA⟩
  simp -implicitDefEqProofs only [go_sem, zS, ↓reduceIte, Za, Zb, Zc, reduceCtorEq, kont_eq, zU, zV, Zf, Zg, Zh, Zi, Zd, Ze] at g5
  simp -implicitDefEqProofs only [go_sem, zS, ↓reduceIte, Za, Zb, Zc, reduceCtorEq, kont_eq, zU, zV, Zf, Zg, Zh, Zi, Zd, Ze, g5]
  rw [hQ]
  have := K03.size
  exact ⟨by rw [hLF] at OA; exact OA, fun q hq => by have := oA q hq; omega, K03.trans KA⟩
def FOrdSpec (P : Program) (ι : Ids) (k : FuncId) : Prop := ∀ (F : FlN) (v : Value) (H : Hp), TabOk ι H -> ProFl H v F -> okF F = true -> CallsM P k #[v] H fun r H' => OwS H' r (iN (srt F.st.length (relI F.be))) /\ (∀ q, ownB r q -> H.size <= q) /\ Keep (fun _ => False) H H'
theorem ford_ok {P : Program} {ι : Ids} {k : FuncId} (hk : FnIs P k (c_ford ι) r_ford 1) (hg : FGoodSpec P ι (ι.f 312)) (hr : FRdySpec P ι (ι.f 314)) (hw : BWithSpec P (ι.f 131)) : FOrdSpec P ι k := by
 intro F v H hT hv hok
 have hv0 := hv
 obtain ⟨s, b, dd, a, m, ms, rfl, h1, h2, h3, h4, h5, h6⟩ := hv
 have hG := okF_good hok
 have hn := hG.lt
 have hR := hG.rng
 have hbe : ∀ q ∈ F.be, okP (F.st.length : Int) q := fun q hq => (hG.be q hq).1
 obtain ⟨Q, hQ⟩ : ∃ Q : Value -> Hp -> Prop, Q = fun r H' => OwS H' r (iN (srt F.st.length (relI F.be))) /\ (∀ q, ownB r q -> H.size <= q) /\ Keep (fun _ => False) H H' := ⟨_, rfl⟩
 rw [<- hQ]
 refine calls_of_vc hk (args := [_]) (by simp) ?_
 unfold c_ford r_ford
 simp -implicitDefEqProofs only [go_sem, zS, ↓reduceIte, Za, Zb, Zc, reduceCtorEq, zU, zV, Zf, Zg, Zh, Zi, Zd, Ze, zF]
 refine kont_new fun H1 b1 e1 z1 B1 K1 => ?_
 have B1' : Bl H1 b1 [s, b, dd, a, m] := B1
 simp -implicitDefEqProofs only [go_sem, zS, ↓reduceIte, Za, Zb, Zc, reduceCtorEq, kont_eq, zU, zV, Zf, Zg, Zh, Zi, Zd, Ze, zF, B1'.ldNO 5 rfl]
 refine (hg F _ H1 (hT.keep K1) (hv0.keep0 K1)).mono ?_
 rintro r H2 ⟨rfl, K2⟩
 have K02 := K1.trans K2
 have B12 := K2.bl B1' (by simp)
 rw [kont_eq, hok]
 simp -implicitDefEqProofs only [go_sem, zS, ↓reduceIte, Za, Zb, Zc, reduceCtorEq, zU, zV, Zf, Zg, Zh, Zi, Zd, Ze, zF, Bool.not_true]
 refine kont_newst [.slice none 0 0] (by simp -implicitDefEqProofs only [go_sem, zS, ↓reduceIte, Za, Zb, Zc, reduceCtorEq, kont_eq, zU, zV, Zf, Zg, Zh, Zi, Zd, Ze]) rfl rfl rfl fun H3 b4 e4 z4 B4 K4 => ?_
 have K03 := K02.trans K4
 have B13 := K4.bl B12 (by simp)
 have hb4 : b4 < H3.size := B4.lt
 have hb14 : b1 < b4 := by have := B12.lt; omega
 simp -implicitDefEqProofs only [go_sem, zS, ↓reduceIte, Za, Zb, Zc, reduceCtorEq, kont_eq, zU, zV, Zf, Zg, Zh, Zi, Zd, Ze]
 refine vc_loop [15, 5, 3] rfl (fun mm g A => ∃ (t : List Nat) (lv u : Value) (p : Nat -> Bool), t.length <= F.st.length /\ mm = F.st.length - t.length /\ g 3 = lv /\ Pre F.st.length (relI F.be) t /\ OwS A lv (iN t) /\ (∀ q, ownB lv q -> H3.size <= q) /\ Bl A b4 [u] /\ SetM A (.agg #[u]) p /\ (∀ j < F.st.length, p j = decide (j ∈ t)) /\ (∀ q, slB u q -> H3.size <= q /\ ¬ ownB lv q) /\ Keep (fun q => q = b4) H3 A) F.st.length ?_ ?_
 ·exact ⟨[], .slice none 0 0, .slice none 0 0, fun _ => false, by simp, by simp, by simp -implicitDefEqProofs only [go_sem, zS, ↓reduceIte, Za, Zb, Zc, reduceCtorEq, kont_eq, zU, zV, Zf, Zg, Zh, Zi, Zd, Ze], Pre.nil _ _, OwS.nil _, fun q h => h.elim, B4, SetM.empty _ _ _, fun j _ => by simp, fun q h => h.elim, Keep.refl _ _⟩
 rintro mm g A ⟨t, lv, u, p, ht, rfl, g3, hP, OA, oA, BA, SA, hpt, uA, KA⟩
 have sA := KA.size
 simp -implicitDefEqProofs only [go_sem, zS, ↓reduceIte, Za, Zb, Zc, reduceCtorEq, kont_eq, zU, zV, Zf, Zg, Zh, Zi, Zd, Ze] at g3
 have B1A := KA.bl B13 (by omega)
 have c0 : cell A ⟨b1, 0, none⟩ = some s := by rw [B1A.cell]; rfl
 have htl : lenV lv = t.length := by rw [OA.sl.len, iN_len]
 have KHA : Keep (fun _ => False) H A := K03.trans' KA fun q hq e => by have := K02.size; omega
 simp -implicitDefEqProofs only [go_sem, zS, ↓reduceIte, Za, Zb, Zc, reduceCtorEq, kont_eq, zU, zV, Zf, Zg, Zh, Zi, Zd, Ze, zF, g3, OA.sl.isSl, htl, c0, h1.isSl, h1.len]
 refine iteV_dec (fun hlt => ?_) (fun hge => ?_)
 ·have hlt : t.length < F.st.length := by omega
  simp -implicitDefEqProofs only [go_sem, zS, ↓reduceIte, Za, Zb, Zc, reduceCtorEq, kont_eq, zU, zV, Zf, Zg, Zh, Zi, Zd, Ze, zF, B1A.ldNO 5 rfl, BA.ldNO 1 rfl]
  refine (hr F _ _ p A (hT.keep KHA) (hv0.keep0 KHA) hok SA).mono ?_
  rintro rv A1 ⟨O1, o1, KA1⟩
  have hnx := rdyL_nxt (s := t) hbe (by omega) hpt
  have hll := rdyL_len F.st.length F.be p
  obtain ⟨L, hL⟩ : ∃ L, L = rdyL F.st.length F.be p := ⟨_, rfl⟩
  rw [<- hL] at O1 hll hnx
  cases L with
  | nil =>
   have hnn : nxt F.st.length (relI F.be) t = none := hnx.symm
   exact absurd hG.acy (hP.stuck hR hnn hlt)
  | cons x L =>
   have hnn : nxt F.st.length (relI F.be) t = some x := hnx.symm
   have hxn := (nxt_some hnn).1
   have hxt := (rdy_iff.1 (nxt_some hnn).2.1).1
   obtain ⟨rb, ro, rc, hre, hrc, hcell⟩ := O1.sl.cells (by simp [iN, iL])
   have hc0 := hcell 0 (by simp [iN_len])
   have hc0' : cell A1 ⟨rb, ro, none⟩ = some (.int .i64 (x : Int)) := hc0
   rw [iN_len] at hre
   rw [kont_eq]
   simp -implicitDefEqProofs only [go_sem, zS, ↓reduceIte, Za, Zb, Zc, reduceCtorEq, zU, zV, Zf, Zg, Zh, Zi, Zd, Ze, zF, g3, hre, hc0']
   refine ⟨by omega, ?_⟩
   refine kont_news fun A2 b2 e2 z2 B2 KA2 => ?_
   have B2' : Bl A2 b2 (iN [x]) := B2
   have s1 := KA1.size
   have s2 := KA2.size
   simp -implicitDefEqProofs only [go_sem, zS, ↓reduceIte, Za, Zb, Zc, reduceCtorEq, kont_eq, zU, zV, Zf, Zg, Zh, Zi, Zd, Ze, zF]
   refine app_sl (m := iN [x]) (OA.keep (KA1.trans KA2) (by simp)) (SlR.bl B2' 0 1 1 (by omega) (by simp [iN_len])) (iL_all1 _) rfl (by unfold maxLen; rw [iN_len, iN_len]; simp; omega) (by rw [iN_len, iN_len]; simp; omega) fun v' A3 O3 K3 o3 => ?_
   have hown : ∀ q, ownB lv q -> q < A.size := fun q hq => OA.old hq
   have hu : ∀ q, slB u q -> q < A.size := fun q hq => SA.old (k := q) hq
   have hb4A : b4 < A.size := BA.lt
   have BA3 := K3.bl ((KA1.trans KA2).bl BA (by simp)) fun h => by have := oA b4 h; omega
   have SA3 : SetM A3 (.agg #[u]) p := (SA.keep0 (KA1.trans KA2)).keep K3 fun q hq => (uA q hq).2
   have s3 := K3.size
   simp -implicitDefEqProofs only [go_sem, zS, ↓reduceIte, Za, Zb, Zc, reduceCtorEq, kont_eq, zU, zV, Zf, Zg, Zh, Zi, Zd, Ze, zF, BA3.ldNO 1 rfl]
   refine (hw p _ (x : Int) A3 SA3).mono ?_
   rintro r4 A4 ⟨⟨u4, W4, rfl, hV4⟩, K34, hf4⟩
   have BA4 := K34.bl BA3 (by simp)
   have BS := BA4.stNA 0 [u4]
   have KS : Keep (fun q => q = b4) A4 (stNA A4 ⟨b4, 0, none⟩ [u4]) := (Keep.refl _ _).stNA _ (.inl rfl)
   have hu4 : ∀ q, slB u4 q -> q < A4.size := fun q hq => SetM.old (x := .agg #[u4]) ⟨u4, W4, rfl, hV4⟩ (k := q) hq
   have hu4b : ∀ q, slB u4 q -> H3.size <= q /\ ¬ ownB v' q := fun q hq => by
    rcases hf4 q hq with h | h
    ·refine ⟨(uA q h).1, fun h' => ?_⟩
     rcases o3 q h' with h2 | h2
     ·exact (uA q h).2 h2
     ·have := hu q h; omega
    ·refine ⟨by omega, fun h' => ?_⟩
     have := O3.old h'
     omega
   rw [kont_eq]
   simp -implicitDefEqProofs only [go_sem, zS, ↓reduceIte, Za, Zb, Zc, reduceCtorEq, kont_eq, zU, zV, Zf, Zg, Zh, Zi, Zd, Ze, zF, BA4.okNA (o := 0) (n := 1) (by simp)]
   refine ⟨hV4.sl.one, F.st.length - (t.length + 1), by omega, t ++ [x], v', u4, withP p (x : Int), by simp; omega, by simp, rfl, hP.snoc hnn, ?_, fun q hq => ?_, BS, ?_, fun j hj => ?_, hu4b, ?_⟩
   ·rw [iN_app]
    exact (O3.keep K34 (by simp)).keep KS fun q hq e => by
     rcases o3 q hq with h | h
     ·have := oA q h; omega
     ·omega
   ·rcases o3 q hq with h | h
    ·exact oA q h
    ·omega
   ·exact SetM.keep ⟨u4, W4, rfl, hV4⟩ KS fun q hq e => by have := (hu4b q hq).1; omega
   ·unfold withP
    rw [hpt j hj, Bool.eq_iff_iff]
    simp only [Bool.or_eq_true, decide_eq_true_eq, Bool.and_eq_true, List.mem_append, List.mem_singleton]
    constructor
    ·rintro (h | ⟨h, _⟩)
     ·exact .inl h
     ·exact .inr (by omega)
    ·rintro (h | h)
     ·exact .inl h
     ·exact .inr ⟨by omega, by omega⟩
   ·have k3 : Keep (fun q => q = b4) H3 A3 := (KA.trans (KA1.trans KA2).any).trans' K3 fun q hq h => by have := oA q h; omega
    exact (k3.trans K34.any).trans KS
 ·have htn : t.length = F.st.length := by omega
  rw [hQ]
  have := K03.size
  exact ⟨by rw [<- hP.eq hR (.inl htn)]; exact OA, fun q hq => by have := oA q hq; omega, KHA⟩
end Go.Mg

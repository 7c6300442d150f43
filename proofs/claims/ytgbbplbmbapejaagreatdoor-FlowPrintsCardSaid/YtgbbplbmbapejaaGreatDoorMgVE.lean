/- Several texts of ours in one. No conditions. -/
import Derived.Test.YtgbbplbmbapejaaGreatDoorMgVC
open Nat renaming reduceEqDiff → Za, reduceAdd → Zb, reduceMul → Zc, reduceLeDiff → Zd, reduceLT → Ze
open Int renaming reduceBEq → Zf, reduceBNe → Zg, reduceLE → Zh, reduceLT → Zi
namespace Go.Mg
open Go Go.RowKit
set_option linter.all false
set_option maxRecDepth 100000
def c_aw53 (ι : Ids) : T :=
 (.px (.t 53) .none (.pick (.t 47) (.t 52) (.c (.bool false))) (.px (.t 54) .none (.mv (.t 53)) (.px (.t 55) (.some (.t 54, true)) (.m (.ldn 2 (.v 3))) (.px (.t 56) (.some (.t 54, true)) (.m (.bld
 #[.int .i64 0, .int .i64 0] [(0, (1, .c (.int .i64 1)))])) (.px (.t 57) (.some (.t 54, true)) (.m (.eqs false [(0, .some .i64), (1, .some .i64)] (.t 55) (.t 56))) (.px (.t 58) .none (.pick (.t 54) (.t
 57) (.c (.bool false))) (.px (.t 59) .none (.mv (.t 58)) (.px (.t 60) (.some (.t 59, true)) (.mv (.v 4)) (.px (.t 61) (.some (.t 59, true)) (.not (.t 60)) (.px (.t 62) .none (.pick (.t 59) (.t 61) (.c
 (.bool false))) (.px (.t 63) .none (.mv (.t 62)) (.px (.t 64) (.some (.t 63, true)) (.mv (.v 6)) (.px (.t 65) .none (.pick (.t 63) (.t 64) (.c (.bool false))) (.px (.t 66) .none (.mv (.t 65)) (.px (.t
 67) (.some (.t 66, true)) (.m (.ldn 2 (.v 7))) (.px (.t 68) (.some (.t 66, true)) (.m (.bld #[.int .i64 0, .int .i64 0] [(0, (1, .c (.int .i64 3)))])) (.px (.t 69) (.some (.t 66, true)) (.m (.eqs
 false [(0, .some .i64), (1, .some .i64)] (.t 67) (.t 68))) (.px (.t 70) .none (.pick (.t 66) (.t 69) (.c (.bool false))) (.px (.t 71) .none (.mv (.t 70)) (.px (.t 72) (.some (.t 71, true)) (.mv (.v
 8)) (.px (.t 73) (.some (.t 71, true)) (.not (.t 72)) (.px (.t 74) .none (.pick (.t 71) (.t 73) (.c (.bool false))) (.px (.t 75) .none (.mv (.t 74)) (.px (.t 76) (.some (.t 75, true)) (.m (.ldn 5 (.v
 1))) (.wcons (.t 77) (.some (.t 75, true)) (.call (ι.f 143) [.c (.slice .none 0 0)]) (.wcons (.t 78) (.some (.t 75, true)) (.call (ι.f 307) [.t 76, .c (.int .i64 2), .t 77]) (.px (.t 79) (.some (.t
 75, true)) (.cm .eql .i64 (.t 78) (.c (.int .i64 0))) (.px (.t 80) .none (.pick (.t 75) (.t 79) (.c (.bool false))) (.px (.v 0) .none (.mv (.t 80)) .done))) .wnil) .wnil)))))))))))))))))))))))))
def c_aw47 (ι : Ids) : T :=
 (.px (.t 47) .none (.mv (.t 46)) (.px (.t 48) (.some (.t 47, true)) (.m (.ldn 5 (.v 1))) (.wcons (.t 49) (.some (.t 47, true)) (.call (ι.f 143) [.c (.slice .none 0 0)]) (.wcons (.t 50) (.some (.t 47,
 true)) (.call (ι.f 314) [.t 48, .t 49]) (.wcons (.t 51) (.some (.t 47, true)) (.bldF (ι.t 26) 1 1 [.c (.int .i64 0)]) (.wcons (.t 52) (.some (.t 47, true)) (.call (ι.f 165) [.t 50, .t 51]) (c_aw53 ι)
 .wnil) .wnil) (.wcons (.t 51) (.some (.t 47, true)) (.bldF (ι.t 26) 1 1 [.c (.int .i64 0)]) (.wcons (.t 50) (.some (.t 47, true)) (.call (ι.f 314) [.t 48, .t 49]) (.wcons (.t 52) (.some (.t 47, true))
 (.call (ι.f 165) [.t 50, .t 51]) (c_aw53 ι) .wnil) .wnil) .wnil)) (.wcons (.t 51) (.some (.t 47, true)) (.bldF (ι.t 26) 1 1 [.c (.int .i64 0)]) (.wcons (.t 49) (.some (.t 47, true)) (.call (ι.f 143)
 [.c (.slice .none 0 0)]) (.wcons (.t 50) (.some (.t 47, true)) (.call (ι.f 314) [.t 48, .t 49]) (.wcons (.t 52) (.some (.t 47, true)) (.call (ι.f 165) [.t 50, .t 51]) (c_aw53 ι) .wnil) .wnil) .wnil)
 .wnil))))
def c_fawk (ι : Ids) : S :=
 .seq (.reg [.p (.v 0) (.mv (.c (.bool false)))]) (.seq (.reg [.p (.t 9) (.m (.bld #[.string ⟨#[]⟩, .int .i64 0] [(0, (1, .c (.string ⟨#[111, 114, 100, 101, 114]⟩))), (1, (1, .c (.int .i64 1)))])), .p
 (.t 10) (.m (.bld #[.string ⟨#[]⟩, .int .i64 0] [(0, (1, .c (.string ⟨#[99, 104, 101, 99, 107]⟩))), (1, (1, .c (.int .i64 2)))])), .p (.t 11) (.m (.bld #[.string ⟨#[]⟩, .int .i64 0] [(0, (1, .c
 (.string ⟨#[112, 97, 121]⟩))), (1, (1, .c (.int .i64 1)))])), .e (.t 12) (.bldF (ι.t 297) 2 3 [.t 9, .t 10, .t 11]), .p (.t 13) (.m (.bld #[.int .i64 0, .int .i64 0] [(0, (1, .c (.int .i64 0))), (1,
 (1, .c (.int .i64 1)))])), .p (.t 14) (.m (.bld #[.int .i64 0, .int .i64 0] [(0, (1, .c (.int .i64 1))), (1, (1, .c (.int .i64 2)))])), .e (.t 15) (.bldF (ι.t 194) 2 2 [.t 13, .t 14]), .p (.t 16) (.m
 (.bld #[.int .i64 0, .int .i64 0] [(0, (1, .c (.int .i64 0))), (1, (1, .c (.int .i64 2)))])), .e (.t 17) (.bldF (ι.t 194) 2 1 [.t 16]), .p (.t 18) (.m (.bld #[.slice .none 0 0, .slice .none 0 0,
 .slice .none 0 0, .slice .none 0 0, .slice .none 0 0] [(0, (1, .t 12)), (1, (1, .t 15)), (2, (1, .t 17))])), .e (.v 1) (.new (ι.t 296) #[.slice .none 0 0, .slice .none 0 0, .slice .none 0 0, .slice
 .none 0 0, .slice .none 0 0]), .e .no (.stn 5 (.v 1) (.t 18))]) (.seq (.reg [.p (.t 19) (.m (.ldn 5 (.v 1))), .e (.v 2) (.new (ι.t 296) #[.slice .none 0 0, .slice .none 0 0, .slice .none 0 0, .slice
 .none 0 0, .slice .none 0 0]), .e .no (.stn 5 (.v 2) (.t 19))]) (.seq (.reg [.e (.t 20) (.bldF (ι.t 26) 1 3 [.c (.int .i64 0), .c (.int .i64 1), .c (.int .i64 2)]), .e (.t 21) (.call (ι.f 143) [.t
 20]), .p (.t 22) (.m (.bld #[.int .i64 0, .slice .none 0 0] [(0, (1, .c (.int .i64 1))), (1, (1, .t 21))])), .e (.t 23) (.bldF (ι.t 298) 2 1 [.t 22]), .p (.t 24) (.fa 4 (.v 2)), .e .no (.st (.t 24)
 (.t 23))]) (.seq (.reg [.p (.t 26) (.m (.ldn 5 (.v 1))), .e (.t 27) (.bldF (ι.t 26) 1 3 [.c (.int .i64 3), .c (.int .i64 4), .c (.int .i64 3)]), .e (.t 28) (.call (ι.f 320) [.t 26, .t 27]), .p (.t 25)
 (.mv (.t 28)), .p (.t 29) (.ext (.t 25) 0), .p (.t 30) (.ext (.t 25) 1), .e (.v 3) (.new (ι.t 318) #[.int .i64 0, .int .i64 0]), .e .no (.stn 2 (.v 3) (.t 29)), .p (.v 4) (.mv (.t 30))]) (.seq (.reg
 [.p (.t 32) (.m (.ldn 5 (.v 1))), .e (.t 33) (.bldF (ι.t 26) 1 3 [.c (.int .i64 3), .c (.int .i64 4), .c (.int .i64 0)]), .e (.t 34) (.call (ι.f 320) [.t 32, .t 33]), .p (.t 31) (.mv (.t 34)), .p (.t
 35) (.ext (.t 31) 0), .p (.t 36) (.ext (.t 31) 1), .e (.t 5) (.new (ι.t 318) #[.int .i64 0, .int .i64 0]), .e .no (.stn 2 (.t 5) (.t 35)), .p (.v 6) (.mv (.t 36))]) (.seq (.reg [.p (.t 38) (.m (.ldn 5
 (.v 2))), .e (.t 39) (.bldF (ι.t 26) 1 3 [.c (.int .i64 3), .c (.int .i64 3), .c (.int .i64 0)]), .e (.t 40) (.call (ι.f 320) [.t 38, .t 39]), .p (.t 37) (.mv (.t 40)), .p (.t 41) (.ext (.t 37) 0), .p
 (.t 42) (.ext (.t 37) 1), .e (.v 7) (.new (ι.t 318) #[.int .i64 0, .int .i64 0]), .e .no (.stn 2 (.v 7) (.t 41)), .p (.v 8) (.mv (.t 42))]) (.seq (.dr (.px (.t 43) .none (.m (.ldn 5 (.v 1))) (.wcons
 (.t 44) .none (.call (ι.f 315) [.t 43]) (.wcons (.t 45) .none (.bldF (ι.t 26) 1 3 [.c (.int .i64 0), .c (.int .i64 1), .c (.int .i64 2)]) (.wcons (.t 46) .none (.call (ι.f 165) [.t 44, .t 45]) (c_aw47
 ι) .wnil) .wnil) (.wcons (.t 45) .none (.bldF (ι.t 26) 1 3 [.c (.int .i64 0), .c (.int .i64 1), .c (.int .i64 2)]) (.wcons (.t 44) .none (.call (ι.f 315) [.t 43]) (.wcons (.t 46) .none (.call (ι.f
 165) [.t 44, .t 45]) (c_aw47 ι) .wnil) .wnil) .wnil)))) .ret)))))))
def r_fawk : List RV := [.t 0]
def AF : FlN := { st := [([111, 114, 100, 101, 114], 1), ([99, 104, 101, 99, 107], 2), ([112, 97, 121], 1)], be := [(0, 1), (1, 2)], di := [(0, 2)], sa := [], mo := [] }
def AG : FlN := { AF with mo := [(1, 7)] }
theorem acyAF : Acy (relI AF.be) := relI_lt_acy (by decide)
theorem stAF {roles : Int} (h : roles = 2 \/ roles = 63) : stE roles (fun _ => false) AF.st 3 = 0 := by
 rcases h with rfl | rfl <;> decide +kernel
theorem chkAF {F : FlN} (hF : F = AF \/ F = AG) {roles : Int} (h : roles = 2 \/ roles = 63) : flwE F roles (fun _ => false) = 0 := by
 have h1 := stAF h
 have h2 : acyE (relI AF.be) = 0 := acyE_0 acyAF
 unfold flwE
 rcases hF with rfl | rfl
 ·rw [if_neg (by decide), if_neg (by unfold tooL; decide)]
  show orE (stE roles (fun _ => false) AF.st 3) (orE (prE 3 AF.be) (orE (prE 3 AF.di) (orE (prE 3 AF.sa) (orE (moE 3 AF.mo) (acyE (relI AF.be)))))) = 0
  rw [h1, h2]; decide
 ·rw [if_neg (by decide), if_neg (by unfold tooL; decide)]
  show orE (stE roles (fun _ => false) AF.st 3) (orE (prE 3 AF.be) (orE (prE 3 AF.di) (orE (prE 3 AF.sa) (orE (moE 3 AG.mo) (acyE (relI AF.be)))))) = 0
  rw [h1, h2]; decide
theorem okAF : okF AF = true := okF_iff.2 (chkAF (.inl rfl) (.inr rfl))
theorem okAG : okF AG = true := okF_iff.2 (chkAF (.inr rfl) (.inr rfl))
theorem hAF1 : hldR AF [3, 4, 3] = (1, 0, false) := by decide +kernel
theorem hAF2 : hldR AF [3, 4, 0] = (0, 0, true) := by decide +kernel
theorem hAG : hldR AG [3, 3, 0] = (3, 0, false) := by decide +kernel
theorem srtAF : srt 3 (relI AF.be) = [0, 1, 2] := by decide +kernel
theorem rdyAF : rdyL 3 AF.be (fun _ => false) = [0] := by decide +kernel
theorem ofP_nil : ofP [] = fun _ => false := by funext n; simp [ofP]
theorem ofP_012 : ofP [0, 1, 2] = bt 7 := by
 funext n
 by_cases h : n < 3
 ·have : n = 0 \/ n = 1 \/ n = 2 := by omega
  rcases this with rfl | rfl | rfl <;> decide
 ·have h1 : bt 7 n = false := by
   unfold bt
   exact Nat.testBit_lt_two_pow (Nat.lt_of_lt_of_le (show (7 : UInt64).toNat < 2 ^ 3 by decide) (Nat.pow_le_pow_right (by omega) (by omega)))
  rw [h1]
  unfold ofP
  have : ¬ ((n : Int) ∈ ([0, 1, 2] : List Int)) := by simp; omega
  rw [decide_eq_false this, Bool.false_and]
structure AwF (P : Program) (ι : Ids) : Prop where
 of : BOfSpec P (ι.f 143)
 hld : FHldSpec P ι (ι.f 320)
 ord : FOrdSpec P ι (ι.f 315)
 rdy : FRdySpec P ι (ι.f 314)
 chk : FChkSpec P ι (ι.f 307)
 eqI : IEqSpec P (ι.f 165)
structure AwA (ι : Ids) (A : Hp) (f : Fr) : Prop where
 x : ∃ b1 s b d, f 1 = .pointer (some ⟨b1, 0, none⟩) /\ Bl A b1 [s, b, d, .slice none 0 0, .slice none 0 0] /\ ProFl A (.agg #[s, b, d, .slice none 0 0, .slice none 0 0]) AF
 y : ∃ b3, f 3 = .pointer (some ⟨b3, 0, none⟩) /\ Bl A b3 [.int .i64 1, .int .i64 0]
 z : ∃ b7, f 7 = .pointer (some ⟨b7, 0, none⟩) /\ Bl A b7 [.int .i64 3, .int .i64 0]
 f4 : f 4 = .bool false
 f6 : f 6 = .bool true
 f8 : f 8 = .bool false
 tab : TabOk ι A
theorem AwA.keep {ι : Ids} {A A' : Hp} {f : Fr} (h : AwA ι A f) (hk : Keep (fun _ => False) A A') : AwA ι A' f := by
 obtain ⟨⟨b1, s, b, d, h1, h2, h3⟩, ⟨b3, h4, h5⟩, ⟨b7, h6, h7⟩, h8, h9, h10, h11⟩ := h
 exact ⟨⟨b1, s, b, d, h1, hk.bl h2 (by simp), h3.keep0 hk⟩, ⟨b3, h4, hk.bl h5 (by simp)⟩, ⟨b7, h6, hk.bl h7 (by simp)⟩, h8, h9, h10, h11.keep hk⟩
theorem aw53_ok {P : Program} {ι : Ids} (c : AwF P ι) {e : Env} {f : Fr} {A : Hp} {Q : Fr -> Hp -> Prop} (hA : AwA ι A f) (h47 : look e 47 = .bool true) (h52 : look e 52 = .bool true)
  (hK : ∀ A', Keep (fun _ => False) A A' -> Q (upd f 0 (.bool true)) A') : tvk P (fun _ => False) (c_aw53 ι) e f A Q := by
 obtain ⟨⟨b1, s, b, d, g1, B1, v1⟩, ⟨b3, g3, B3⟩, ⟨b7, g7, B7⟩, g4, g6, g8, hT⟩ := hA
 unfold c_aw53
 have e1 : ((1 : Int) == 1) = true := rfl
 have e0 : ((0 : Int) == 0) = true := rfl
 have e3 : ((3 : Int) == 3) = true := rfl
 simp -implicitDefEqProofs only [go_sem, zS, ↓reduceIte, Za, Zb, Zc, reduceCtorEq, kont_eq, zU, zV, Zf, Zg, Zh, Zi, Zd, Ze, zF, h47, h52, g1, g3, g4, g6, g7, g8, B1.ldNO 5 rfl, B3.ldNO 2 rfl, B7.ldNO 2 rfl, Bool.true_and, Bool.and_true, Bool.not_true, Bool.not_false, forall_const, e1, e0, e3]
 refine (c.of [] _ A (SlR.nil A none 0) (by simp)).mono ?_
 rintro r A1 ⟨hs, K1, _⟩
 rw [ofP_nil] at hs
 have B11 := K1.bl B1 (by simp)
 refine ⟨K1, ?_⟩
 simp -implicitDefEqProofs only [go_sem, zS, ↓reduceIte, Za, Zb, Zc, reduceCtorEq, kont_eq, zU, zV, Zf, Zg, Zh, Zi, Zd, Ze, zF, Bool.true_and, Bool.and_true, Bool.not_true, Bool.not_false, forall_const, e1, e0, e3]
 refine (c.chk AF _ r 2 _ A1 (hT.keep K1) (v1.keep0 K1) hs).mono ?_
 rintro r2 A2 ⟨rfl, K2⟩
 refine ⟨K2, ?_⟩
 rw [chkAF (.inl rfl) (.inl rfl)]
 simp -implicitDefEqProofs only [go_sem, zS, ↓reduceIte, Za, Zb, Zc, reduceCtorEq, kont_eq, zU, zV, Zf, Zg, Zh, Zi, Zd, Ze, zF, Bool.true_and, Bool.and_true, Bool.not_true, Bool.not_false, forall_const, e1, e0, e3]
 exact hK A2 (K1.trans K2)
theorem aw47_ok {P : Program} {ι : Ids} (c : AwF P ι) {e : Env} {f : Fr} {A : Hp} {Q : Fr -> Hp -> Prop} (hA : AwA ι A f) (h46 : look e 46 = .bool true)
  (hK : ∀ A', Keep (fun _ => False) A A' -> Q (upd f 0 (.bool true)) A') : tvk P (fun _ => False) (c_aw47 ι) e f A Q := by
 have hA0 := hA
 obtain ⟨⟨b1, s, b, d, g1, B1, v1⟩, ⟨b3, g3, B3⟩, ⟨b7, g7, B7⟩, g4, g6, g8, hT⟩ := hA
 unfold c_aw47
 have step : ∀ (w1 w2 : Value) (A' : Hp) (e' : Env), Keep (fun _ => False) A A' -> SlR A' w1 (iN [0]) -> SlR A' w2 (iN [0]) -> (∀ z, look ((52, z) :: e') 47 = .bool true) →
   CallsM P (ι.f 165) #[w1, w2] A' (kontK P (fun _ => False) A' (.t 52) (c_aw53 ι) e' f Q) := fun w1 w2 A' e' K h1 h2 h47 => by
  refine (c.eqI (nI [0]) (nI [0]) w1 w2 A' h1 h2 (by simp [nI])).mono ?_
  rintro r A2 ⟨rfl, rfl⟩
  refine ⟨Keep.refl _ _, ?_⟩
  rw [decide_eq_true rfl]
  exact aw53_ok c (hA0.keep K) (h47 _) (by simp only [env_t, look_cons, if_true]) fun A3 K3 => hK A3 (K.trans K3)
 have rd : ∀ (w : Value) (A' : Hp) (K : Value -> Hp -> Prop), Keep (fun _ => False) A A' -> SetM A' w (fun _ => false) -> (∀ r A2, Keep (fun _ => False) A' A2 -> SlR A2 r (iN [0]) -> K r A2) -> CallsM P (ι.f 314) #[.agg #[s, b, d, .slice none 0 0, .slice none 0 0], w] A' K := fun w A' K KA hw hK => by
  refine (c.rdy AF _ w _ A' (hT.keep KA) (v1.keep0 KA) okAF hw).mono ?_
  rintro r A2 ⟨h1, h2, K2⟩
  have h1 : OwS A2 r (iN (rdyL 3 AF.be fun _ => false)) := h1
  rw [rdyAF] at h1
  exact hK r A2 K2 h1.sl
 have nw : ∀ (A2 : Hp) (T : TypeId), Keep (fun _ => False) A2 (A2.push (.cells #[.int .i64 0] T)) /\ SlR (A2.push (.cells #[.int .i64 0] T)) (.slice (some ⟨A2.size, 0, none⟩) 1 1) (iN [0]) := fun A2 T =>
  ⟨(Keep.refl _ _).push _, SlR.bl (l := iN [0]) (Bl.new' _ _ _) 0 1 1 (by omega) (by simp [iN_len])⟩
 simp -implicitDefEqProofs only [go_sem, zS, ↓reduceIte, Za, Zb, Zc, reduceCtorEq, zU, zV, Zf, Zg, Zh, Zi, Zd, Ze, zF, h46, g1, B1.ldNO 5 rfl, forall_const]
 constructor
 ·refine (c.of [] _ A (SlR.nil A none 0) (by simp)).mono ?_
  rintro r A1 ⟨hs, K1, _⟩
  rw [ofP_nil] at hs
  refine ⟨K1, ?_⟩
  simp -implicitDefEqProofs only [go_sem, zS, ↓reduceIte, Za, Zb, Zc, reduceCtorEq, zU, zV, Zf, Zg, Zh, Zi, Zd, Ze, zF, forall_const]
  constructor
  ·refine rd r A1 _ K1 hs fun w A2 K2 hw => ⟨K2, ?_⟩
   simp -implicitDefEqProofs only [go_sem, zS, ↓reduceIte, Za, Zb, Zc, reduceCtorEq, zU, zV, Zf, Zg, Zh, Zi, Zd, Ze, zF, forall_const]
   refine ⟨(nw A2 _).1, step w _ _ _ ((K1.trans K2).trans (nw A2 _).1) (hw.keep (nw A2 _).1 (by simp)) (nw A2 _).2 (fun z => by simp -implicitDefEqProofs only [go_sem, zS, ↓reduceIte, Za, Zb, Zc, reduceCtorEq, kont_eq, zU, zV, Zf, Zg, Zh, Zi, Zd, Ze])⟩
  ·refine ⟨(nw A1 _).1, ?_⟩
   refine rd r _ _ (K1.trans (nw A1 _).1) (hs.keep0 (nw A1 _).1) fun w A2 K2 hw => ⟨K2, ?_⟩
   simp -implicitDefEqProofs only [go_sem, zS, ↓reduceIte, Za, Zb, Zc, reduceCtorEq, zU, zV, Zf, Zg, Zh, Zi, Zd, Ze, zF, forall_const]
   exact step w _ _ _ ((K1.trans (nw A1 _).1).trans K2) hw ((nw A1 _).2.keep K2 (by simp)) (fun z => by simp -implicitDefEqProofs only [go_sem, zS, ↓reduceIte, Za, Zb, Zc, reduceCtorEq, kont_eq, zU, zV, Zf, Zg, Zh, Zi, Zd, Ze])
 ·refine ⟨(nw A _).1, ?_⟩
  refine (c.of [] _ _ (SlR.nil _ none 0) (by simp)).mono ?_
  rintro r A1 ⟨hs, K1, _⟩
  rw [ofP_nil] at hs
  refine ⟨K1, ?_⟩
  simp -implicitDefEqProofs only [go_sem, zS, ↓reduceIte, Za, Zb, Zc, reduceCtorEq, zU, zV, Zf, Zg, Zh, Zi, Zd, Ze, zF, forall_const]
  refine rd r _ _ ((nw A _).1.trans K1) hs fun w A2 K2 hw => ⟨K2, ?_⟩
  simp -implicitDefEqProofs only [go_sem, zS, ↓reduceIte, Za, Zb, Zc, reduceCtorEq, zU, zV, Zf, Zg, Zh, Zi, Zd, Ze, zF, forall_const]
  exact step w _ _ _ (((nw A _).1.trans K1).trans K2) hw (((nw A _).2.keep K1 (by simp)).keep K2 (by simp)) (fun z => by simp -implicitDefEqProofs only [go_sem, zS, ↓reduceIte, Za, Zb, Zc, reduceCtorEq, kont_eq, zU, zV, Zf, Zg, Zh, Zi, Zd, Ze])
def FAwkSpec (P : Program) (ι : Ids) (k : FuncId) : Prop := ∀ (H : Hp), TabOk ι H -> CallsM P k #[] H fun r H' => r = .bool true /\ Keep (fun _ => False) H H'
theorem fawk_ok {P : Program} {ι : Ids} {k : FuncId} (hk : FnIs P k (c_fawk ι) r_fawk 0) (c : AwF P ι) : FAwkSpec P ι k := by
 intro H hT
 obtain ⟨Q, hQ⟩ : ∃ Q : Value -> Hp -> Prop, Q = fun r H' => r = .bool true /\ Keep (fun _ => False) H H' := ⟨_, rfl⟩
 rw [<- hQ]
 refine calls_of_vc hk (args := []) (by simp) ?_
 unfold c_fawk r_fawk
 simp -implicitDefEqProofs only [go_sem, zS, ↓reduceIte, Za, Zb, Zc, reduceCtorEq, zU, zV, Zf, Zg, Zh, Zi, Zd, Ze, zF]
 refine kont_news fun H1 b1 e1 z1 B1 K1 => ?_
 have v1 : SlE encS 2 H1 (.slice (some ⟨b1, 0, none⟩) 3 3) AF.st := SlE.bl B1 (l := AF.st) rfl (by simp [AF]) (by simp [AF])
 simp -implicitDefEqProofs only [go_sem, zS, ↓reduceIte, Za, Zb, Zc, reduceCtorEq, zU, zV, Zf, Zg, Zh, Zi, Zd, Ze, zF]
 refine kont_news fun H2 b2 e2 z2 B2 K2 => ?_
 have v2 : SlP H2 (.slice (some ⟨b2, 0, none⟩) 2 2) AF.be := SlE.bl B2 (l := AF.be) rfl (by simp [AF]) (by simp [AF])
 simp -implicitDefEqProofs only [go_sem, zS, ↓reduceIte, Za, Zb, Zc, reduceCtorEq, zU, zV, Zf, Zg, Zh, Zi, Zd, Ze, zF]
 refine kont_news fun H3 b3 e3 z3 B3 K3 => ?_
 have v3 : SlP H3 (.slice (some ⟨b3, 0, none⟩) 1 1) AF.di := SlE.bl B3 (l := AF.di) rfl (by simp [AF]) (by simp [AF])
 simp -implicitDefEqProofs only [go_sem, zS, ↓reduceIte, Za, Zb, Zc, reduceCtorEq, zU, zV, Zf, Zg, Zh, Zi, Zd, Ze, zF]
 refine kont_newst [.slice (some ⟨b1, 0, none⟩) 3 3, .slice (some ⟨b2, 0, none⟩) 2 2, .slice (some ⟨b3, 0, none⟩) 1 1, .slice none 0 0, .slice none 0 0] (by simp -implicitDefEqProofs only [go_sem, zS, ↓reduceIte, Za, Zb, Zc, reduceCtorEq, kont_eq, zU, zV, Zf, Zg, Zh, Zi, Zd, Ze]; rfl) rfl rfl rfl fun H4 f1 e4 z4 B4 K4 => ?_
 have K04 := ((K1.trans K2).trans K3).trans K4
 have w1 := v1.keep0 ((K2.trans K3).trans K4)
 have w2 := v2.keep0 (K3.trans K4)
 have w3 := v3.keep0 K4
 have pF : ProFl H4 (.agg #[.slice (some ⟨b1, 0, none⟩) 3 3, .slice (some ⟨b2, 0, none⟩) 2 2, .slice (some ⟨b3, 0, none⟩) 1 1, .slice none 0 0, .slice none 0 0]) AF :=
  ⟨_, _, _, _, _, [], rfl, w1, w2, w3, SlE.nil _ _ _, SlE.nil _ _ _, ⟨rfl, fun i h => by simp at h⟩⟩
 simp -implicitDefEqProofs only [go_sem, zS, ↓reduceIte, Za, Zb, Zc, reduceCtorEq, zU, zV, Zf, Zg, Zh, Zi, Zd, Ze, zF, B4.ldNO 5 rfl]
 refine kont_newst [.slice (some ⟨b1, 0, none⟩) 3 3, .slice (some ⟨b2, 0, none⟩) 2 2, .slice (some ⟨b3, 0, none⟩) 1 1, .slice none 0 0, .slice none 0 0] (by simp -implicitDefEqProofs only [go_sem, zS, ↓reduceIte, Za, Zb, Zc, reduceCtorEq, kont_eq, zU, zV, Zf, Zg, Zh, Zi, Zd, Ze]) rfl rfl rfl fun H5 g1 e5 z5 B5 K5 => ?_
 have s5 := K5.size
 simp -implicitDefEqProofs only [go_sem, zS, ↓reduceIte, Za, Zb, Zc, reduceCtorEq, zU, zV, Zf, Zg, Zh, Zi, Zd, Ze, zF]
 refine kont_news fun H6 b6 e6 z6 B6 K6 => ?_
 have B6' : Bl H6 b6 (iN [0, 1, 2]) := B6
 have s6 := K6.size
 have K46 := K5.trans K6
 simp -implicitDefEqProofs only [go_sem, zS, ↓reduceIte, Za, Zb, Zc, reduceCtorEq, zU, zV, Zf, Zg, Zh, Zi, Zd, Ze, zF]
 refine (c.of [0, 1, 2] _ H6 (SlR.bl B6' 0 3 3 (by omega) (by simp [iN_len])) (by simp)).mono ?_
 rintro r H7 ⟨hs, K7, own7⟩
 rw [ofP_012] at hs
 have K47 := K46.trans K7
 have hs0 := hs
 obtain ⟨u, W7, rfl, hV7⟩ := hs
 rw [kont_eq]
 simp -implicitDefEqProofs only [go_sem, zS, ↓reduceIte, Za, Zb, Zc, reduceCtorEq, zU, zV, Zf, Zg, Zh, Zi, Zd, Ze, zF]
 obtain ⟨ua, uc, rfl, _⟩ := hV7.sl.mk
 refine kont_news fun H8 b8 e8 z8 B8 K8 => ?_
 have s7 := K7.size
 have s8 := K8.size
 have v8 : SlE encV 2 H8 (.slice (some ⟨b8, 0, none⟩) 1 1) [((1 : Int), ua, (w64 W7).length, uc)] := SlE.bl B8 (l := [((1 : Int), ua, (w64 W7).length, uc)]) rfl (by simp) (by simp)
 have G8 := (K6.trans (K7.trans K8)).bl B5 (by simp)
 have t8 := G8.okSt (o := 4) (by simp)
 have G9 := G8.setc 4 (.slice (some ⟨b8, 0, none⟩) 1 1)
 have K9 : Keep (fun q => q = g1) H8 (setc H8 ⟨g1, 4, none⟩ (.slice (some ⟨b8, 0, none⟩) 1 1)) := (Keep.refl _ _).setc _ (.inl rfl)
 simp -implicitDefEqProofs only [go_sem, zS, ↓reduceIte, Za, Zb, Zc, reduceCtorEq, zU, zV, Zf, Zg, Zh, Zi, Zd, Ze, zF, t8, Nat.zero_add]
 generalize setc H8 ⟨g1, 4, none⟩ (.slice (some ⟨b8, 0, none⟩) 1 1) = H9 at G9 K9 ⊢
 have G9 : Bl H9 g1 [.slice (some ⟨b1, 0, none⟩) 3 3, .slice (some ⟨b2, 0, none⟩) 2 2, .slice (some ⟨b3, 0, none⟩) 1 1, .slice none 0 0, .slice (some ⟨b8, 0, none⟩) 1 1] := G9
 have K49 : Keep (fun _ => False) H4 H9 := (K47.trans K8).trans' K9 fun q hq h => by omega
 have K09 := K04.trans K49
 have s9 := K9.size
 have F9 := K49.bl B4 (by simp)
 have pF9 := pF.keep0 K49
 have hs8 := hs0.keep0 K8
 have pG9 : ProFl H9 (.agg #[.slice (some ⟨b1, 0, none⟩) 3 3, .slice (some ⟨b2, 0, none⟩) 2 2, .slice (some ⟨b3, 0, none⟩) 1 1, .slice none 0 0, .slice (some ⟨b8, 0, none⟩) 1 1]) AG :=
  ⟨_, _, _, _, _, [((1 : Int), ua, (w64 W7).length, uc)], rfl, w1.keep0 K49, w2.keep0 K49, w3.keep0 K49, SlE.nil _ _ _, v8.keep K9 (fun q hq h => by
   simp [slB] at hq
   omega), ⟨rfl, fun i h h' => by
   have : i = 0 := by simp at h; omega
   subst this
   exact ⟨rfl, hs8.keep K9 fun q hq h => by have := own7 q hq; omega⟩⟩⟩
 have hT9 := hT.keep K09
 have tri : ∀ (A' : Hp) (b : Nat) (x y z : Nat), Bl A' b (iN [x, y, z]) -> SlR A' (.slice (some ⟨b, 0, none⟩) 3 3) (iL [(x : Int), y, z]) := fun A' b x y z B => SlR.bl (l := iN [x, y, z]) B 0 3 3 (by omega) (by simp [iN_len])
 rw [kont_eq]
 simp -implicitDefEqProofs only [go_sem, zS, ↓reduceIte, Za, Zb, Zc, reduceCtorEq, zU, zV, Zf, Zg, Zh, Zi, Zd, Ze, zF, F9.ldNO 5 rfl]
 refine kont_news fun HA bA eA zA BA KA => ?_
 simp -implicitDefEqProofs only [go_sem, zS, ↓reduceIte, Za, Zb, Zc, reduceCtorEq, zU, zV, Zf, Zg, Zh, Zi, Zd, Ze, zF]
 refine (c.hld AF _ _ [3, 4, 3] HA (hT9.keep KA) (pF9.keep0 KA) okAF (tri HA bA 3 4 3 BA)).mono ?_
 rintro r HB ⟨rfl, KB⟩
 rw [kont_eq, hAF1]
 have K9B := KA.trans KB
 simp -implicitDefEqProofs only [go_sem, zS, ↓reduceIte, Za, Zb, Zc, reduceCtorEq, zU, zV, Zf, Zg, Zh, Zi, Zd, Ze, zF, hldV]
 refine kont_newst [.int .i64 1, .int .i64 0] (by simp -implicitDefEqProofs only [go_sem, zS, ↓reduceIte, Za, Zb, Zc, reduceCtorEq, kont_eq, zU, zV, Zf, Zg, Zh, Zi, Zd, Ze]) rfl rfl rfl fun HC g3 eC zC BC KC => ?_
 have K9C := K9B.trans KC
 have F9C := K9C.bl F9 (by simp)
 simp -implicitDefEqProofs only [go_sem, zS, ↓reduceIte, Za, Zb, Zc, reduceCtorEq, zU, zV, Zf, Zg, Zh, Zi, Zd, Ze, zF, F9C.ldNO 5 rfl]
 refine kont_news fun HD bD eD zD BD KD => ?_
 have K9D := K9C.trans KD
 simp -implicitDefEqProofs only [go_sem, zS, ↓reduceIte, Za, Zb, Zc, reduceCtorEq, zU, zV, Zf, Zg, Zh, Zi, Zd, Ze, zF]
 refine (c.hld AF _ _ [3, 4, 0] HD (hT9.keep K9D) (pF9.keep0 K9D) okAF (tri HD bD 3 4 0 BD)).mono ?_
 rintro r HE ⟨rfl, KE⟩
 have K9E := K9D.trans KE
 rw [kont_eq, hAF2]
 simp -implicitDefEqProofs only [go_sem, zS, ↓reduceIte, Za, Zb, Zc, reduceCtorEq, zU, zV, Zf, Zg, Zh, Zi, Zd, Ze, zF, hldV]
 refine kont_new fun HF b5 eF zF BF KF => ?_
 have K9F := K9E.trans KF
 have BF' : Bl HF b5 [.int .i64 0, .int .i64 0] := BF
 have okF5 := BF'.okNA (o := 0) (n := 2) (by simp)
 have sF := KF.size
 have KG : Keep (fun q => q = b5) HF (stNA HF ⟨b5, 0, none⟩ [.int .i64 0, .int .i64 0]) := (Keep.refl _ _).stNA _ (.inl rfl)
 have ha : all1 #[Value.int .i64 0, Value.int .i64 0] := all1_of rfl
 simp -implicitDefEqProofs only [go_sem, zS, ↓reduceIte, Za, Zb, Zc, reduceCtorEq, zU, zV, Zf, Zg, Zh, Zi, Zd, Ze, okN_ptr, stNH_ptr, okF5]
 refine ⟨ha, ?_⟩
 generalize stNA HF ⟨b5, 0, none⟩ [.int .i64 0, .int .i64 0] = HG at KG ⊢
 rw [kont_eq]
 have s9E := K9E.size
 have KEG : Keep (fun _ => False) HE HG := KF.trans' KG fun q hq h => by omega
 have K9G := K9E.trans KEG
 have G9G := K9G.bl G9 (by simp)
 simp -implicitDefEqProofs only [go_sem, zS, ↓reduceIte, Za, Zb, Zc, reduceCtorEq, zU, zV, Zf, Zg, Zh, Zi, Zd, Ze, zF, G9G.ldNO 5 rfl]
 refine kont_news fun HI bI eI zI BI KI => ?_
 have K9I := K9G.trans KI
 simp -implicitDefEqProofs only [go_sem, zS, ↓reduceIte, Za, Zb, Zc, reduceCtorEq, zU, zV, Zf, Zg, Zh, Zi, Zd, Ze, zF]
 refine (c.hld AG _ _ [3, 3, 0] HI (hT9.keep K9I) (pG9.keep0 K9I) okAG (tri HI bI 3 3 0 BI)).mono ?_
 rintro r HJ ⟨rfl, KJ⟩
 have K9J := K9I.trans KJ
 rw [kont_eq, hAG]
 simp -implicitDefEqProofs only [go_sem, zS, ↓reduceIte, Za, Zb, Zc, reduceCtorEq, zU, zV, Zf, Zg, Zh, Zi, Zd, Ze, zF, hldV]
 refine kont_newst [.int .i64 3, .int .i64 0] (by simp -implicitDefEqProofs only [go_sem, zS, ↓reduceIte, Za, Zb, Zc, reduceCtorEq, kont_eq, zU, zV, Zf, Zg, Zh, Zi, Zd, Ze]) rfl rfl rfl fun HK g7 eK zK BK KK => ?_
 have K9K := K9J.trans KK
 have KCK : Keep (fun _ => False) HC HK := ((((KD.trans KE).trans KEG).trans KI).trans KJ).trans KK
 have F9K := K9K.bl F9 (by simp)
 have hAw : ∀ f : Fr, f 1 = .pointer (some ⟨f1, 0, none⟩) -> f 3 = .pointer (some ⟨g3, 0, none⟩) -> f 7 = .pointer (some ⟨g7, 0, none⟩) -> f 4 = .bool false -> f 6 = .bool true -> f 8 = .bool false -> AwA ι HK f := fun f q1 q3 q7 q4 q6 q8 =>
  ⟨⟨_, _, _, _, q1, F9K, pF9.keep0 K9K⟩, ⟨_, q3, KCK.bl BC (by simp)⟩, ⟨_, q7, BK⟩, q4, q6, q8, hT9.keep K9K⟩
 simp -implicitDefEqProofs only [go_sem, zS, ↓reduceIte, Za, Zb, Zc, reduceCtorEq, zU, zV, Zf, Zg, Zh, Zi, Zd, Ze, zF]
 refine vc_drk (fun _ => False) ?_
 have pK := pF9.keep0 K9K
 have hTK := hT9.keep K9K
 simp -implicitDefEqProofs only [go_sem, zS, ↓reduceIte, Za, Zb, Zc, reduceCtorEq, zU, zV, Zf, Zg, Zh, Zi, Zd, Ze, zF, F9K.ldNO 5 rfl, forall_const]
 have nw : ∀ (A2 : Hp) (T : TypeId), Keep (fun _ => False) A2 (A2.push (.cells #[.int .i64 0, .int .i64 1, .int .i64 2] T)) /\ SlR (A2.push (.cells #[.int .i64 0, .int .i64 1, .int .i64 2] T)) (.slice (some ⟨A2.size, 0, none⟩) 3 3) (iN [0, 1, 2]) := fun A2 T =>
  ⟨(Keep.refl _ _).push _, SlR.bl (l := iN [0, 1, 2]) (Bl.new' _ _ _) 0 3 3 (by omega) (by simp [iN_len])⟩
 have ordS : ∀ (A' : Hp) (K : Value -> Hp -> Prop), Keep (fun _ => False) HK A' -> (∀ r A2, Keep (fun _ => False) A' A2 -> SlR A2 r (iN [0, 1, 2]) -> K r A2) -> CallsM P (ι.f 315) #[.agg #[.slice (some ⟨b1, 0, none⟩) 3 3, .slice (some ⟨b2, 0, none⟩) 2 2, .slice (some ⟨b3, 0, none⟩) 1 1, .slice none 0 0, .slice none 0 0]] A' K := fun A' K KA hK => by
  refine (c.ord AF _ A' (hTK.keep KA) (pK.keep0 KA) okAF).mono ?_
  rintro r A2 ⟨h1, h2, K2⟩
  have h1 : OwS A2 r (iN (srt 3 (relI AF.be))) := h1
  rw [srtAF] at h1
  exact hK r A2 K2 h1.sl
 have step : ∀ (w1 w2 : Value) (A' : Hp) (e' : Env) (f : Fr) (Q' : Fr -> Hp -> Prop), Keep (fun _ => False) HK A' -> SlR A' w1 (iN [0, 1, 2]) -> SlR A' w2 (iN [0, 1, 2]) -> AwA ι HK f -> (∀ A3, Keep (fun _ => False) HK A3 -> Q' (upd f 0 (.bool true)) A3) →
   CallsM P (ι.f 165) #[w1, w2] A' (kontK P (fun _ => False) A' (.t 46) (c_aw47 ι) e' f Q') := fun w1 w2 A' e' f Q' K h1 h2 hA hK => by
  refine (c.eqI (nI [0, 1, 2]) (nI [0, 1, 2]) w1 w2 A' h1 h2 (by simp [nI])).mono ?_
  rintro r A2 ⟨rfl, rfl⟩
  refine ⟨Keep.refl _ _, ?_⟩
  rw [decide_eq_true rfl]
  exact aw47_ok c (hA.keep K) (by simp only [env_t, look_cons, if_true]) fun A3 K3 => hK A3 (K.trans K3)
 have fin : ∀ (f : Fr) (A3 : Hp), Keep (fun _ => False) HK A3 -> thenQ (vc P .ret (retQ [.t 0] Q)) (retQ [.t 0] Q) .n (upd f 0 (.bool true)) A3 := fun f A3 K3 => by
  simp -implicitDefEqProofs only [go_sem, zS, ↓reduceIte, Za, Zb, Zc, reduceCtorEq, kont_eq, zU, zV, Zf, Zg, Zh, Zi, Zd, Ze, zF]
  rw [hQ]
  exact ⟨rfl, (K09.trans K9K).trans K3⟩
 constructor
 ·refine ordS HK _ (Keep.refl _ _) fun w A2 K2 hw => ⟨K2, ?_⟩
  simp -implicitDefEqProofs only [go_sem, zS, ↓reduceIte, Za, Zb, Zc, reduceCtorEq, zU, zV, Zf, Zg, Zh, Zi, Zd, Ze, zF, forall_const]
  refine ⟨(nw A2 _).1, ?_⟩
  exact step w _ _ _ _ _ (K2.trans (nw A2 _).1) (hw.keep (nw A2 _).1 (by simp)) (nw A2 _).2 (hAw _ (by simp -implicitDefEqProofs only [go_sem, zS, ↓reduceIte, Za, Zb, Zc, reduceCtorEq, kont_eq, zU, zV, Zf, Zg, Zh, Zi, Zd, Ze]) (by simp -implicitDefEqProofs only [go_sem, zS, ↓reduceIte, Za, Zb, Zc, reduceCtorEq, kont_eq, zU, zV, Zf, Zg, Zh, Zi, Zd, Ze]) (by simp -implicitDefEqProofs only [go_sem, zS, ↓reduceIte, Za, Zb, Zc, reduceCtorEq, kont_eq, zU, zV, Zf, Zg, Zh, Zi, Zd, Ze]) (by simp -implicitDefEqProofs only [go_sem, zS, ↓reduceIte, Za, Zb, Zc, reduceCtorEq, kont_eq, zU, zV, Zf, Zg, Zh, Zi, Zd, Ze]) (by simp -implicitDefEqProofs only [go_sem, zS, ↓reduceIte, Za, Zb, Zc, reduceCtorEq, kont_eq, zU, zV, Zf, Zg, Zh, Zi, Zd, Ze]) (by simp -implicitDefEqProofs only [go_sem, zS, ↓reduceIte, Za, Zb, Zc, reduceCtorEq, kont_eq, zU, zV, Zf, Zg, Zh, Zi, Zd, Ze])) (fin _)
 ·refine ⟨(nw HK _).1, ?_⟩
  refine ordS _ _ (nw HK _).1 fun w A2 K2 hw => ⟨K2, ?_⟩
  simp -implicitDefEqProofs only [go_sem, zS, ↓reduceIte, Za, Zb, Zc, reduceCtorEq, zU, zV, Zf, Zg, Zh, Zi, Zd, Ze, zF, forall_const]
  exact step w _ _ _ _ _ ((nw HK _).1.trans K2) hw ((nw HK _).2.keep K2 (by simp)) (hAw _ (by simp -implicitDefEqProofs only [go_sem, zS, ↓reduceIte, Za, Zb, Zc, reduceCtorEq, kont_eq, zU, zV, Zf, Zg, Zh, Zi, Zd, Ze]) (by simp -implicitDefEqProofs only [go_sem, zS, ↓reduceIte, Za, Zb, Zc, reduceCtorEq, kont_eq, zU, zV, Zf, Zg, Zh, Zi, Zd, Ze]) (by simp -implicitDefEqProofs only [go_sem, zS, ↓reduceIte, Za, Zb, Zc, reduceCtorEq, kont_eq, zU, zV, Zf, Zg, Zh, Zi, Zd, Ze]) (by simp -implicitDefEqProofs only [go_sem, zS, ↓reduceIte, Za, Zb, Zc, reduceCtorEq, kont_eq, zU, zV, Zf, Zg, Zh, Zi, Zd, Ze]) (by simp -implicitDefEqProofs only [go_sem, zS, ↓reduceIte, Za, Zb, Zc, reduceCtorEq, kont_eq, zU, zV, Zf, Zg, Zh, Zi, Zd, Ze]) (by simp -implicitDefEqProofs only [go_sem, zS, ↓reduceIte, Za, Zb, Zc, reduceCtorEq, kont_eq, zU, zV, Zf, Zg, Zh, Zi, Zd, Ze])) (fin _)
end Go.Mg
namespace Go.Mg
open Go Go.RowKit
set_option linter.all false
set_option maxRecDepth 100000
end Go.Mg

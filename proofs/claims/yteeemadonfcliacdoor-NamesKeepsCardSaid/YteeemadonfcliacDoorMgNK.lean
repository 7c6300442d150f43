/- names: the law that tables stay as they are. -/
import Derived.Test.YteeemadonfcliacDoorMgN12
import Derived.Test.YteeemadonfcliacDoorMgS3
import Derived.Test.YteeemadonfcliacDoorMgLp
open Nat renaming reduceEqDiff → Za, reduceAdd → Zb, reduceMul → Zc, reduceLeDiff → Zd, reduceLT → Ze
open Int renaming reduceBEq → Zf, reduceBNe → Zg, reduceLE → Zh, reduceLT → Zi
namespace Go.Mg
open Go Go.RowKit
set_option linter.all false
set_option maxRecDepth 100000
def c_lnkeeps (ι : Ids) : S :=
 .seq (.reg [.p (.v 4) (.mv (.c (.bool false)))]) (.seq (.seq (.reg [.e (.t 19) (.call (ι.f 91) []), .p (.v 20) (.not (.t 19))]) (.ite (.v 20) (.seq (.reg [.p (.v 4) (.mv (.c (.bool false)))]) .ret)
 .skip)) (.seq (.reg [.e (.t 21) (.call (ι.f 83) []), .p (.v 5) (.mv (.t 21))]) (.seq (.seq (.reg [.p (.t 22) (.mv (.v 0)), .e (.v 23) (.call (ι.f 98) [.t 22]), .p (.v 24) (.m (.lenl (.v 23))), .p (.v
 25) (.mv (.c (.int .i64 0)))]) (.blk 0 (.loop (.seq (.reg [.p (.v 26) (.cm .lss .i64 (.v 25) (.v 24))]) (.seq (.ite (.v 26) .skip (.exit 0)) (.seq (.blk 1 (.seq (.reg [.p (.t 27) (.is 1 (.v 23) (.v
 25)), .p (.t 28) (.ld (.t 27)), .p (.v 7) (.mv (.t 28))]) (.seq (.reg [.p (.t 30) (.mv (.v 5)), .p (.t 31) (.mv (.v 7)), .e (.t 32) (.call (ι.f 84) [.t 30, .t 31, .c (.int .i64 100)]), .p (.t 29) (.mv
 (.t 32)), .p (.t 33) (.ext (.t 29) 0), .p (.t 34) (.ext (.t 29) 1), .p (.t 35) (.ext (.t 29) 2), .p (.v 8) (.mv (.t 33)), .p (.t 9) (.mv (.t 34)), .p (.v 10) (.mv (.t 35))]) (.seq (.reg [.p (.t 36)
 (.mv (.v 10)), .p (.v 37) (.cm .eql .i64 (.t 36) (.c (.int .i64 0)))]) (.ite (.v 37) (.reg [.p (.t 38) (.mv (.v 8)), .p (.v 5) (.mv (.t 38))]) .skip))))) (.reg [.p (.t 39) (.ar .add .i64 (.v 25) (.c
 (.int .i64 1))), .p (.v 25) (.mv (.t 39))]))))))) (.seq (.reg [.p (.t 40) (.mv (.v 5)), .e (.t 41) (.call (ι.f 86) [.t 40]), .p (.t 42) (.mv (.v 5)), .e (.t 43) (.call (ι.f 90) [.t 42]), .p (.v 11)
 (.mv (.t 41)), .p (.v 12) (.mv (.t 43))]) (.seq (.reg [.p (.t 44) (.mv (.v 5)), .p (.t 45) (.mv (.v 1)), .p (.t 46) (.mv (.v 1)), .p (.t 47) (.m (.lens (.t 46))), .p (.t 48) (.m (.mn (.t 47) (.c (.int
 .i64 12)))), .p (.t 49) (.m (.slt (.t 45) .none (.some (.t 48)))), .e (.t 50) (.call (ι.f 84) [.t 44, .t 49, .c (.int .i64 100)])]) (.seq (.reg [.p (.t 51) (.mv (.v 5)), .e (.t 52) (.call (ι.f 84) [.t
 51, .c (.string ⟨#[111, 110, 101, 95, 109, 111, 114, 101]⟩), .c (.int .i64 100)])]) (.seq (.reg [.p (.t 53) (.mv (.v 5)), .e (.t 54) (.call (ι.f 84) [.t 53, .c (.string ⟨#[116, 119, 111, 95, 109, 111,
 114, 101]⟩), .c (.int .i64 100)])]) (.seq (.reg [.p (.t 55) (.mv (.v 5)), .e (.t 56) (.call (ι.f 86) [.t 55]), .p (.v 13) (.mv (.t 56))]) (.seq (.seq (.reg [.p (.t 57) (.mv (.v 13)), .p (.v 58) (.m
 (.lenl (.t 57))), .p (.v 59) (.mv (.c (.int .i64 0)))]) (.blk 2 (.loop (.seq (.reg [.p (.v 60) (.cm .lss .i64 (.v 59) (.v 58))]) (.seq (.ite (.v 60) .skip (.exit 2)) (.seq (.blk 3 (.seq (.reg [.p (.t
 61) (.mv (.v 59)), .p (.v 14) (.mv (.t 61))]) (.reg [.p (.t 62) (.mv (.v 13)), .p (.t 63) (.mv (.v 14)), .p (.t 64) (.mv (.v 13)), .p (.t 65) (.mv (.v 14)), .p (.t 66) (.is 1 (.t 64) (.t 65)), .p (.t
 67) (.ld (.t 66)), .e (.t 68) (.call (ι.f 430) [.t 67]), .p (.t 69) (.is 1 (.t 62) (.t 63)), .e .no (.st (.t 69) (.t 68))]))) (.reg [.p (.t 70) (.ar .add .i64 (.v 59) (.c (.int .i64 1))), .p (.v 59)
 (.mv (.t 70))]))))))) (.seq (.seq (.reg [.p (.t 71) (.mv (.v 5)), .e (.t 72) (.call (ι.f 90) [.t 71]), .p (.v 73) (.m (.lenl (.t 72))), .p (.v 74) (.mv (.c (.int .i64 0)))]) (.blk 4 (.loop (.seq (.reg
 [.p (.v 75) (.cm .lss .i64 (.v 74) (.v 73))]) (.seq (.ite (.v 75) .skip (.exit 4)) (.seq (.blk 5 (.seq (.reg [.p (.t 76) (.mv (.v 74)), .p (.v 15) (.mv (.t 76))]) (.reg [.p (.t 77) (.mv (.v 5)), .e
 (.t 78) (.call (ι.f 90) [.t 77]), .p (.t 79) (.mv (.v 15)), .p (.t 80) (.is 1 (.t 78) (.t 79)), .p (.t 81) (.ld (.t 80)), .p (.t 82) (.ar .add .u8 (.t 81) (.c (.int .u8 1))), .p (.t 83) (.is 1 (.t 78)
 (.t 79)), .e .no (.st (.t 83) (.t 82))]))) (.reg [.p (.t 84) (.ar .add .i64 (.v 74) (.c (.int .i64 1))), .p (.v 74) (.mv (.t 84))]))))))) (.seq (.reg [.p (.t 85) (.mv (.v 12)), .e (.t 86) (.call (ι.f
 108) [.t 85]), .p (.v 16) (.mv (.t 86))]) (.seq (.seq (.reg [.p (.t 87) (.mv (.v 16)), .e (.t 88) (.call (ι.f 113) [.t 87, .c (.int .i64 256)]), .p (.t 89) (.mv (.v 11)), .p (.t 90) (.m (.lenl (.t
 89))), .p (.v 91) (.cm .neq .i64 (.t 88) (.t 90))]) (.ite (.v 91) (.seq (.reg [.p (.v 4) (.mv (.c (.bool false)))]) .ret) .skip)) (.seq (.seq (.reg [.p (.v 92) (.mv (.v 11)), .p (.v 93) (.m (.lenl (.v
 92))), .p (.v 94) (.mv (.c (.int .i64 0)))]) (.blk 6 (.loop (.seq (.reg [.p (.v 95) (.cm .lss .i64 (.v 94) (.v 93))]) (.seq (.ite (.v 95) .skip (.exit 6)) (.seq (.blk 7 (.seq (.reg [.p (.t 96) (.is 1
 (.v 92) (.v 94)), .p (.t 97) (.ld (.t 96)), .p (.v 18) (.mv (.t 97))]) (.seq (.reg [.p (.t 98) (.mv (.v 16)), .e (.t 99) (.call (ι.f 115) [.t 98, .c (.int .i64 12)]), .p (.t 100) (.mv (.v 18)), .p (.v
 101) (.sc .neq (.t 99) (.t 100))]) (.ite (.v 101) (.seq (.reg [.p (.v 4) (.mv (.c (.bool false)))]) .ret) .skip)))) (.reg [.p (.t 102) (.ar .add .i64 (.v 94) (.c (.int .i64 1))), .p (.v 94) (.mv (.t
 102))]))))))) (.seq (.dr (.px (.t 103) .none (.mv (.v 16)) (.wcons (.t 104) .none (.call (ι.f 117) [.t 103]) (.px (.t 105) .none (.cm .eql .i64 (.t 104) (.c (.int .i64 0))) (.px (.t 106) .none (.mv
 (.t 105)) (.px (.t 107) (.some (.t 106, true)) (.mv (.v 5)) (.px (.t 109) (.some (.t 106, true)) (.mv (.v 11)) (.wcons (.t 108) (.some (.t 106, true)) (.call (ι.f 86) [.t 107]) (.wcons (.t 110) (.some
 (.t 106, true)) (.call (ι.f 93) [.t 108, .t 109]) (.px (.t 111) .none (.pick (.t 106) (.t 110) (.c (.bool false))) (.px (.t 112) .none (.mv (.t 111)) (.px (.t 113) (.some (.t 112, true)) (.mv (.v 5))
 (.px (.t 116) (.some (.t 112, true)) (.mv (.v 12)) (.px (.t 117) (.some (.t 112, true)) (.m (.b2s (.t 116))) (.wcons (.t 114) (.some (.t 112, true)) (.call (ι.f 90) [.t 113]) (.px (.t 115) (.some (.t
 112, true)) (.m (.b2s (.t 114))) (.px (.t 118) (.some (.t 112, true)) (.sc .eql (.t 115) (.t 117)) (.px (.t 119) .none (.pick (.t 112) (.t 118) (.c (.bool false))) (.px (.v 4) .none (.mv (.t 119))
 .done)))) .wnil)))))) .wnil) .wnil))))) .wnil))) .ret))))))))))))))
def r_lnkeeps : List RV := [.t 4]
structure KeepC (P : Program) (ι : Ids) : Prop where
 aw : NAwakeSpec P (ι.f 91)
 nw : NNewSpec P (ι.f 83)
 wd : WordsSpec P (ι.f 98)
 ad : AddSpec P (ι.f 84)
 nm : NNamesSpec P (ι.f 86)
 by_ : NBytesSpec P (ι.f 90)
 up : UpperSpec P (ι.f 430)
 rn : RNewRSpec P (ι.f 108)
 rc : RCountSpec P (ι.f 113)
 rs : RStrSpec P (ι.f 115)
 re : REndSpec P (ι.f 117)
 sm : SameSpec P (ι.f 93)
theorem valid_ascii {s : List UInt8} (h : validF s = true) : ∀ c ∈ s, c.toNat < 128 := by
 unfold validF at h
 simp only [Bool.and_eq_true, List.all_eq_true] at h
 intro c hc
 have hi : innerC c = true := by
  first | exact h.1.2 c hc | exact h.2 c hc | exact h.1.1.2 c hc
 have : innerC c = true -> c.toNat < 128 := all8 (p := fun c => innerC c = true -> c.toNat < 128) (by decide +kernel) c
 exact this hi
theorem lnkeeps_ok {P : Program} {ι : Ids} {k : FuncId} (hk : FnIs P k (c_lnkeeps ι) r_lnkeeps 2) (c : KeepC P ι)
  (l : List UInt8) (v : Value) (s0 : List UInt8) (H : Hp) (hv : SlR H v (w8 l)) : CallsM P k #[v, sV s0] H fun r H' => r = .bool true /\ Keep (fun _ => False) H H' := by
 obtain ⟨Q, hQ⟩ : ∃ Q : Value -> Hp -> Prop, Q = fun r H' => r = .bool true /\ Keep (fun _ => False) H H' := ⟨_, rfl⟩
 rw [<- hQ]
 refine calls_of_vc hk (args := [_, _]) (by simp) ?_
 unfold c_lnkeeps r_lnkeeps
 simp -implicitDefEqProofs only [go_sem, zS, ↓reduceIte, Za, Zb, Zc, reduceCtorEq, kont_eq]
 refine (c.aw _).mono ?_
 rintro r H1 ⟨rfl, K1⟩
 simp -implicitDefEqProofs only [go_sem, zS, ↓reduceIte, Za, Zb, Zc, reduceCtorEq, kont_eq]
 refine (c.nw _).mono ?_
 rintro r H2 ⟨rfl, T2, K2, z2⟩
 have K2' := K1.trans K2
 simp -implicitDefEqProofs only [go_sem, zS, ↓reduceIte, Za, Zb, Zc, reduceCtorEq, kont_eq]
 refine (c.wd _ _ _ (hv.keep K2' (by simp))).mono ?_
 rintro vw H3 ⟨O3, o3, K3⟩
 have T3 := T2.keep K3 (by simp)
 have K3' := K2'.trans K3
 have hwl := wordsF_len l (min l.length 24) (by omega)
 have hws := wordsF_small l (min l.length 24)
 generalize wordsF l (min l.length 24) = w at *
 have S3 := O3.sl
 have hw24 : w.length <= 24 := by omega
 have hSl := S3.isSl
 have hSn := S3.len
 rw [sL_len] at hSn
 rw [kont_eq]
 simp -implicitDefEqProofs only [go_sem, zS, ↓reduceIte, Za, Zb, Zc, reduceCtorEq, zU, zV, Zf, Zg, Zh, Zi, Zd, Ze, hSl, hSn]
 refine vc_range w.length [26, 7, 8, 10, 37, 5, 25] rfl rfl (by omega) (by simp -implicitDefEqProofs only [go_sem, zS, ↓reduceIte, Za, Zb, Zc, reduceCtorEq, kont_eq, zU, zV, Zf, Zg, Zh, Zi, Zd, Ze]) (by simp -implicitDefEqProofs only [go_sem, zS, ↓reduceIte, Za, Zb, Zc, reduceCtorEq, kont_eq, zU, zV, Zf, Zg, Zh, Zi, Zd, Ze]) (fun i f A => ∃ told F t, f 5 = .pointer (some ⟨t, 0, none⟩) /\ TabB F A t told /\ told.length <= i /\ Cl told /\ Keep (fun _ => False) H3 A) ?_ ?_ ?_
 ·exact ⟨[], _, _, by simp -implicitDefEqProofs only [go_sem, zS, ↓reduceIte, Za, Zb, Zc, reduceCtorEq, kont_eq, zU, zV, Zf, Zg, Zh, Zi, Zd, Ze], T3, Nat.le_refl _, Cl.nil, Keep.refl _ _⟩
 ·rintro i g A hi gi gn ⟨told, F, t, g5, TA, ht, hC, KA⟩
  simp -implicitDefEqProofs only [go_sem, zS, ↓reduceIte, Za, Zb, Zc, reduceCtorEq, kont_eq, zU, zV, Zf, Zg, Zh, Zi, Zd, Ze] at gi gn g5
  obtain ⟨bV, oV, cV, rfl, -, -⟩ := S3.cells (by intro e; have h := congrArg List.length e; rw [sL_len, List.length_nil] at h; omega)
  have hcell := (S3.keep KA (by simp)).cell_at (i := i) (by rw [sL_len]; omega)
  rw [sL_get _ _ hi] at hcell
  have hsl := hws i hi
  generalize w.getD i [] = s at *
  have hb : (0 : Int) <= (i : Int) /\ (i : Int) < (w.length : Int) := by omega
  simp -implicitDefEqProofs only [go_sem, zS, ↓reduceIte, Za, Zb, Zc, reduceCtorEq, zU, zV, Zf, Zg, Zh, Zi, Zd, Ze, gi, g5, hcell, hb, tn_cast, sL_len]
  refine (c.ad F t told s 100 _ TA (by omega)).mono ?_
  rintro r A6 ⟨K6, h6⟩
  rw [kont_eq]
  rcases h6 with ⟨he, rfl⟩ | ⟨he, t', rfl, T6'⟩
  ·have e2 : (addE told s 100 == 0) = false := by simpa using he
   simp -implicitDefEqProofs only [go_sem, zS, ↓reduceIte, Za, Zb, Zc, reduceCtorEq, kont_eq, zU, zV, Zf, Zg, Zh, Zi, Zd, Ze, e2]
   exact ⟨told, F, t, g5, TA.keep K6 (by simp), by omega, hC, KA.trans K6⟩
  ·have e1 : ((0 : Int) == 0) = true := rfl
   simp -implicitDefEqProofs only [go_sem, zS, ↓reduceIte, Za, Zb, Zc, reduceCtorEq, kont_eq, zU, zV, Zf, Zg, Zh, Zi, Zd, Ze, e1]
   exact ⟨told ++ [s], _, t', rfl, T6', by simp; omega, hC.push he, KA.trans K6⟩
 ·rintro g A gi ⟨told, F, t, g5, TA, ht, hC, KA⟩
  simp -implicitDefEqProofs only [go_sem, zS, ↓reduceIte, Za, Zb, Zc, reduceCtorEq, kont_eq, zU, zV, Zf, Zg, Zh, Zi, Zd, Ze] at g5
  have hTl := hC.len
  have hns := hC.nsmall
  have htl := encN_len told hns told.length (Nat.le_refl _)
  have K0A := K3'.trans KA
  simp -implicitDefEqProofs only [go_sem, zS, ↓reduceIte, Za, Zb, Zc, reduceCtorEq, zU, zV, Zf, Zg, Zh, Zi, Zd, Ze, g5]
  refine (c.nm.1 _ _ _ _ TA (by omega)).mono ?_
  rintro r H4 ⟨O4, o4, K4⟩
  rw [kont_eq]
  simp -implicitDefEqProofs only [go_sem, zS, ↓reduceIte, Za, Zb, Zc, reduceCtorEq, zU, zV, Zf, Zg, Zh, Zi, Zd, Ze, g5]
  refine (c.by_ _ _ _ _ (TA.keep K4 (by simp)) hns).mono ?_
  rintro r5 H5 ⟨O5, o5, K5⟩
  have O4 := O4.keep K5 (by simp)
  have TA := (TA.keep K4 (by simp)).keep K5 (by simp)
  have K05 := (K0A.trans K4).trans K5
  have hmn : (if (12 : Int) < (s0.length : Int) then (12 : Int) else (s0.length : Int)) = ((min s0.length 12 : Nat) : Int) := by split <;> omega
  rw [kont_eq]
  simp -implicitDefEqProofs only [go_sem, zS, ↓reduceIte, Za, Zb, Zc, reduceCtorEq, zU, zV, Zf, Zg, Zh, Zi, Zd, Ze, g5, ba_size, hmn, tn_cast, ba_take]
  refine ⟨by omega, (c.ad F t told (s0.take (min s0.length 12)) 100 _ TA (by rw [List.length_take]; omega)).mono ?_⟩
  rintro r6 H6 ⟨K6, -⟩
  have O4 := O4.keep K6 (by simp)
  have O5 := O5.keep K6 (by simp)
  have TA := TA.keep K6 (by simp)
  rw [kont_eq]
  simp -implicitDefEqProofs only [go_sem, zS, ↓reduceIte, Za, Zb, Zc, reduceCtorEq, zU, zV, Zf, Zg, Zh, Zi, Zd, Ze, g5]
  refine (c.ad F t told [111, 110, 101, 95, 109, 111, 114, 101] 100 _ TA (by decide)).mono ?_
  rintro r7 H7 ⟨K7, -⟩
  have O4 := O4.keep K7 (by simp)
  have O5 := O5.keep K7 (by simp)
  have TA := TA.keep K7 (by simp)
  rw [kont_eq]
  simp -implicitDefEqProofs only [go_sem, zS, ↓reduceIte, Za, Zb, Zc, reduceCtorEq, zU, zV, Zf, Zg, Zh, Zi, Zd, Ze, g5]
  refine (c.ad F t told [116, 119, 111, 95, 109, 111, 114, 101] 100 _ TA (by decide)).mono ?_
  rintro r8 H8 ⟨K8, -⟩
  have O4 := O4.keep K8 (by simp)
  have O5 := O5.keep K8 (by simp)
  have TA := TA.keep K8 (by simp)
  have K08 := ((K05.trans K6).trans K7).trans K8
  rw [kont_eq]
  simp -implicitDefEqProofs only [go_sem, zS, ↓reduceIte, Za, Zb, Zc, reduceCtorEq, zU, zV, Zf, Zg, Zh, Zi, Zd, Ze, g5]
  refine (c.nm.1 _ _ _ _ TA (by omega)).mono ?_
  rintro rg H9 ⟨O9, o9, K9⟩
  have O4' := O4
  have O5' := O5
  have F8 := TA.bound
  have O4 := O4.keep K9 (by simp)
  have O5 := O5.keep K9 (by simp)
  have TA := TA.keep K9 (by simp)
  have K09 := K08.trans K9
  have h9l := O9.sl.len
  rw [sL_len] at h9l
  have p4 : ∀ q, ownB r q -> q < H9.size := fun q hq => O4.old hq
  have p5 : ∀ q, ownB r5 q -> q < H9.size := fun q hq => O5.old hq
  have F9 := TA.bound
  rw [kont_eq]
  simp -implicitDefEqProofs only [go_sem, zS, ↓reduceIte, Za, Zb, Zc, reduceCtorEq, zU, zV, Zf, Zg, Zh, Zi, Zd, Ze, h9l, O9.sl.isSl]
  refine vc_range told.length [60, 14, 59] rfl rfl (by omega) (by simp -implicitDefEqProofs only [go_sem, zS, ↓reduceIte, Za, Zb, Zc, reduceCtorEq, kont_eq, zU, zV, Zf, Zg, Zh, Zi, Zd, Ze]) (by simp -implicitDefEqProofs only [go_sem, zS, ↓reduceIte, Za, Zb, Zc, reduceCtorEq, kont_eq, zU, zV, Zf, Zg, Zh, Zi, Zd, Ze]) (fun i f A => ∃ ts : List (List UInt8), ts.length = told.length /\ (∀ j, i <= j -> ts.getD j [] = told.getD j []) /\ OwS A rg (sL ts) /\ Keep (ownB rg) H9 A) ?_ ?_ ?_
  ·exact ⟨told, rfl, fun _ _ => rfl, O9, Keep.refl _ _⟩
  ·rintro i g2 X hi gi gn ⟨ts, hts, hto, OX, KX⟩
   simp -implicitDefEqProofs only [go_sem, zS, ↓reduceIte, Za, Zb, Zc, reduceCtorEq, kont_eq, zU, zV, Zf, Zg, Zh, Zi, Zd, Ze] at gi gn
   have hsm : (told.getD i []).length <= 12 := hC.small hi
   have hasc := valid_ascii (hC.valid hi)
   have hil : i < (sL ts).length := by rw [sL_len]; omega
   have hcl := sL_get ts i (by omega)
   rw [hto i (Nat.le_refl _)] at hcl
   obtain ⟨bg, cg, Lg, rfl, q1, q2, qB, q3, q4⟩ := OX.some (by intro e; rw [e] at hil; simp at hil)
   have hcell : cell X ⟨bg, i, none⟩ = some (sV (told.getD i [])) := by rw [qB.cell, q4 i hil]; exact hcl
   simp only [sL_len, hts] at q1 hil ⊢
   have hb : (0 : Int) <= (i : Int) /\ (i : Int) < (told.length : Int) := by omega
   generalize told.getD i [] = s at *
   simp -implicitDefEqProofs only [go_sem, zS, ↓reduceIte, Za, Zb, Zc, reduceCtorEq, zU, zV, Zf, Zg, Zh, Zi, Zd, Ze, gi, hcell, hb, tn_cast, Nat.mul_one, Nat.zero_add]
   refine (c.up s X hasc (by omega)).mono ?_
   rintro rx X2 ⟨⟨u, rfl⟩, KX2⟩
   have qB2 := KX2.bl qB (by simp)
   have tt := qB2.okSt (o := i) (by omega)
   have KS : Keep (fun q => q = bg) X2 (setc X2 ⟨bg, i, none⟩ (sV u)) := (Keep.refl _ _).setc _ (.inl rfl)
   have O2 := setOwS qB2 (l := sL ts) (by rw [sL_len]; omega) q2 q3 i (sV u) (by rw [sL_len]; omega)
   have e2 : (sL ts).set i (sV u) = sL (ts.set i u) := by simp [sL, List.map_set]
   rw [e2, sL_len, hts] at O2
   rw [kont_eq]
   simp -implicitDefEqProofs only [go_sem, zS, ↓reduceIte, Za, Zb, Zc, reduceCtorEq, zU, zV, Zf, Zg, Zh, Zi, Zd, Ze, tt, hb]
   rw [kont_eq]
   simp -implicitDefEqProofs only [go_sem, zS, ↓reduceIte, Za, Zb, Zc, reduceCtorEq, kont_eq, zU, zV, Zf, Zg, Zh, Zi, Zd, Ze]
   exact ⟨ts.set i u, by rw [List.length_set]; exact hts, fun j hj => by rw [List.getD_eq_getElem?_getD, List.getElem?_set_ne (by omega), <- List.getD_eq_getElem?_getD]; exact hto j (by omega), O2, (KX.trans KX2.any).trans KS⟩
  ·rintro g2 X gi ⟨ts, hts, hto, OX, KX⟩
   have KX := KX.mono (W' := fun q => H8.size <= q) fun q _ h => o9 q h
   have s9 := K9.size
   have s08 := K08.size
   have O4 := O4.keep KX fun q hq h => by have := O4'.old hq; omega
   have O5 := O5.keep KX fun q hq h => by have := O5'.old hq; omega
   have TA := TA.keep KX fun q hq h => by have := F8 q hq; omega
   have K0X : Keep (fun _ => False) H X := (K08.trans K9).trans' KX fun q hq h => by omega
   simp -implicitDefEqProofs only [go_sem, zS, ↓reduceIte, Za, Zb, Zc, reduceCtorEq, zU, zV, Zf, Zg, Zh, Zi, Zd, Ze, g5]
   refine (c.by_ _ _ _ _ TA hns).mono ?_
   rintro ra HA ⟨OA, oA, KA'⟩
   have O4 := O4.keep KA' (by simp)
   have O5 := O5.keep KA' (by simp)
   have TA := TA.keep KA' (by simp)
   have K0A := K0X.trans KA'
   have hAl := OA.sl.len
   rw [w8_len] at hAl
   rw [kont_eq]
   simp -implicitDefEqProofs only [go_sem, zS, ↓reduceIte, Za, Zb, Zc, reduceCtorEq, zU, zV, Zf, Zg, Zh, Zi, Zd, Ze, hAl, OA.sl.isSl]
   refine vc_range (tbytes told).length [75, 15, 74] rfl rfl (by unfold tbytes; omega) (by simp -implicitDefEqProofs only [go_sem, zS, ↓reduceIte, Za, Zb, Zc, reduceCtorEq, kont_eq, zU, zV, Zf, Zg, Zh, Zi, Zd, Ze]) (by simp -implicitDefEqProofs only [go_sem, zS, ↓reduceIte, Za, Zb, Zc, reduceCtorEq, kont_eq, zU, zV, Zf, Zg, Zh, Zi, Zd, Ze]) (fun i f A => Keep (fun _ => False) HA A) ?_ ?_ ?_
   ·exact Keep.refl _ _
   ·rintro i g3 Y hi gi gn KY
    simp -implicitDefEqProofs only [go_sem, zS, ↓reduceIte, Za, Zb, Zc, reduceCtorEq, kont_eq, zU, zV, Zf, Zg, Zh, Zi, Zd, Ze] at gi gn
    simp -implicitDefEqProofs only [go_sem, zS, ↓reduceIte, Za, Zb, Zc, reduceCtorEq, zU, zV, Zf, Zg, Zh, Zi, Zd, Ze, gi, g5]
    refine (c.by_ _ _ _ _ (TA.keep KY (by simp)) hns).mono ?_
    rintro rb HB ⟨OB, oB, KB⟩
    have hil : i < (w8 (tbytes told)).length := by rw [w8_len]; omega
    obtain ⟨bg, cg, Lg, rfl, q1, q2, qB, q3, q4⟩ := OB.some (by intro e; rw [e] at hil; simp at hil)
    have hcell : cell HB ⟨bg, i, none⟩ = some (.int .u8 ((tbytes told).getD i 0).toNat) := by rw [qB.cell, q4 i hil]; exact w8_get _ _ hi
    have tt := qB.okSt (o := i) (by omega)
    have hb : (0 : Int) <= (i : Int) /\ (i : Int) < ((tbytes told).length : Int) := by omega
    have hbg := oB bg rfl
    have KS : Keep (fun _ => False) HA (setc HB ⟨bg, i, none⟩ (.int .u8 (IntKind.u8.wrap (((tbytes told).getD i 0).toNat + 1)))) := (KY.trans KB).setc _ (.inr (by have := KY.size; show HA.size <= bg; omega))
    rw [kont_eq]
    simp -implicitDefEqProofs only [go_sem, zS, ↓reduceIte, Za, Zb, Zc, reduceCtorEq, zU, zV, Zf, Zg, Zh, Zi, Zd, Ze, w8_len, gi, hcell, hb, tn_cast, Nat.mul_one, Nat.zero_add, tt]
    rw [kont_eq]
    simp -implicitDefEqProofs only [go_sem, zS, ↓reduceIte, Za, Zb, Zc, reduceCtorEq, kont_eq, zU, zV, Zf, Zg, Zh, Zi, Zd, Ze]
    exact KS
   ·rintro g3 Y gi KY
    have O4 := O4.keep KY (by simp)
    have O5 := O5.keep KY (by simp)
    have TA := TA.keep KY (by simp)
    have K0Y := K0A.trans KY
    simp -implicitDefEqProofs only [go_sem, zS, ↓reduceIte, Za, Zb, Zc, reduceCtorEq, zU, zV, Zf, Zg, Zh, Zi, Zd, Ze]
    refine (c.rn _ _ _ O5.sl (by unfold tbytes; omega)).mono ?_
    rintro x HC ⟨b, FR, rfl, RC, hFR, KC⟩
    have O4' := O4
    have O5' := O5
    have TA' := TA
    have O4 := O4.keep KC (by simp)
    have O5 := O5.keep KC (by simp)
    have TA := TA.keep KC (by simp)
    have K0C := K0Y.trans KC
    have hb := RC.at
    have hFb := hFR b hb
    rw [kont_eq]
    simp -implicitDefEqProofs only [go_sem, zS, ↓reduceIte, Za, Zb, Zc, reduceCtorEq, zU, zV, Zf, Zg, Zh, Zi, Zd, Ze]
    refine (c.rc FR b (tbytes told, 0) 256 HC RC (show (tbytes told).length <= 100000000 by unfold tbytes; omega) (by omega)).mono ?_
    rintro x HD ⟨rfl, RD, KD⟩
    have e1 : rdCnt 256 (tbytes told, 0) = (told.length, (flatE told, 0)) := by
     unfold rdCnt
     rw [if_neg (by simp), tbytes_flat, dec7_enc _ (by omega)]
     simp only
     rw [if_neg (by omega)]
    rw [e1] at RD ⊢
    have r4 : ∀ q, ownB r q -> q < Y.size := fun q hq => O4'.old hq
    have r5 : ∀ q, ownB r5 q -> q < Y.size := fun q hq => O5'.old hq
    have rF := TA'.bound
    have O4 := O4.keep KD fun q hq e => by have := r4 q hq; omega
    have O5 := O5.keep KD fun q hq e => by have := r5 q hq; omega
    have TA := TA.keep KD fun q hq e => by have := rF q hq; omega
    have K0D : Keep (fun _ => False) H HD := K0C.trans' KD fun q hq e => by have := K0Y.size; omega
    have h4l := O4.sl.len
    rw [sL_len] at h4l
    rw [kont_eq]
    simp -implicitDefEqProofs only [go_sem, zS, ↓reduceIte, Za, Zb, Zc, reduceCtorEq, zU, zV, Zf, Zg, Zh, Zi, Zd, Ze, h4l, O4.sl.isSl, bne_self_eq_false]
    have fd : ∀ i, i < told.length -> flatE (told.drop i) = encB (told.getD i []) ++ flatE (told.drop (i + 1)) := fun i hi => by
     have e : told.getD i [] = told[i] := by rw [List.getD_eq_getElem?_getD, List.getElem?_eq_getElem hi]; rfl
     unfold flatE
     rw [List.drop_eq_getElem_cons hi, List.flatMap_cons, e]
    have fl : ∀ i, i <= told.length -> (flatE (told.drop i)).length <= 100000000 := fun i hi => by
     have h1 : (tbytes told).length <= 100000000 := by unfold tbytes; omega
     rw [tbytes_flat, List.length_append] at h1
     have h2 : flatE told = flatE (told.take i) ++ flatE (told.drop i) := by
      unfold flatE; rw [<- List.flatMap_append, List.take_append_drop]
     rw [h2, List.length_append] at h1
     omega
    refine vc_range told.length [95, 18, 101, 4, 94] rfl rfl (by omega) (by simp -implicitDefEqProofs only [go_sem, zS, ↓reduceIte, Za, Zb, Zc, reduceCtorEq, kont_eq, zU, zV, Zf, Zg, Zh, Zi, Zd, Ze]) (by simp -implicitDefEqProofs only [go_sem, zS, ↓reduceIte, Za, Zb, Zc, reduceCtorEq, kont_eq, zU, zV, Zf, Zg, Zh, Zi, Zd, Ze]) (fun i f A => RdB FR A b (flatE (told.drop i)) 0 /\ Keep (fun q => q = b) HD A) ?_ ?_ ?_
    ·exact ⟨RD, Keep.refl _ _⟩
    ·rintro i g4 Z hi gi gn ⟨RZ, KZ⟩
     have hsm : (told.getD i []).length <= 12 := hC.small hi
     have OZ := O4.keep KZ fun q hq e => by have := r4 q hq; omega
     obtain ⟨bV, oV, cV, rfl, -, hcc⟩ := OZ.sl.cells (by intro e; have h := congrArg List.length e; rw [sL_len, List.length_nil] at h; omega)
     have hcell := hcc i (by rw [sL_len]; exact hi)
     rw [sL_get _ _ hi] at hcell
     have hb2 : (0 : Int) <= (i : Int) /\ (i : Int) < (told.length : Int) := by omega
     have hrd := rdByt_enc (told.getD i []) (flatE (told.drop (i + 1))) hsm
     rw [<- fd i hi] at hrd
     generalize told.getD i [] = s at *
     simp -implicitDefEqProofs only [go_sem, zS, ↓reduceIte, Za, Zb, Zc, reduceCtorEq, kont_eq, zU, zV, Zf, Zg, Zh, Zi, Zd, Ze] at gi
     simp -implicitDefEqProofs only [go_sem, zS, ↓reduceIte, Za, Zb, Zc, reduceCtorEq, zU, zV, Zf, Zg, Zh, Zi, Zd, Ze, sL_len, gi, hcell, hb2, tn_cast]
     refine (c.rs FR b (flatE (told.drop i), 0) 12 Z RZ (fl i (by omega)) (by omega)).mono ?_
     rintro x Z2 ⟨rfl, RZ2, KZ2⟩
     rw [hrd] at RZ2 ⊢
     have e3 : ((⟨s.toArray⟩ : ByteArray).toList != (⟨s.toArray⟩ : ByteArray).toList) = false := bne_self_eq_false _
     rw [kont_eq]
     simp -implicitDefEqProofs only [go_sem, zS, ↓reduceIte, Za, Zb, Zc, reduceCtorEq, kont_eq, zU, zV, Zf, Zg, Zh, Zi, Zd, Ze, e3]
     trace_state
     exact ⟨RZ2, KZ.trans KZ2⟩
    ·rintro g4 Z gi ⟨RZ, KZ⟩
     have e0 : told.drop told.length = [] := List.drop_length
     rw [e0] at RZ
     have OZ4 := O4.keep KZ fun q hq e => by have := r4 q hq; omega
     have OZ5 := O5.keep KZ fun q hq e => by have := r5 q hq; omega
     have TZ := TA.keep KZ fun q hq e => by have := rF q hq; omega
     have K0Z : Keep (fun _ => False) H Z := K0D.trans' KZ fun q hq e => by have := K0Y.size; omega
     simp -implicitDefEqProofs only [go_sem, zS, ↓reduceIte, Za, Zb, Zc, reduceCtorEq, zU, zV, Zf, Zg, Zh, Zi, Zd, Ze]
     refine vc_drk (fun _ => False) ?_
     simp -implicitDefEqProofs only [go_sem, zS, ↓reduceIte, Za, Zb, Zc, reduceCtorEq, zU, zV, Zf, Zg, Zh, Zi, Zd, Ze]
     refine (c.re FR b [] 0 Z RZ).mono ?_
     rintro x Z1 ⟨rfl, rfl⟩
     have ee : (endE ([], 0) == 0) = true := rfl
     rw [kontK_eq]
     refine ⟨Keep.refl _ _, ?_⟩
     simp -implicitDefEqProofs only [go_sem, zS, ↓reduceIte, Za, Zb, Zc, reduceCtorEq, zU, zV, Zf, Zg, Zh, Zi, Zd, Ze, ee, g5]
     refine (c.nm.1 _ _ _ _ TZ (by omega)).mono ?_
     rintro x Z2 ⟨O2, o2, K2⟩
     rw [kontK_eq]
     refine ⟨K2, ?_⟩
     simp -implicitDefEqProofs only [go_sem, zS, ↓reduceIte, Za, Zb, Zc, reduceCtorEq, zU, zV, Zf, Zg, Zh, Zi, Zd, Ze]
     refine (c.sm told told _ _ _ O2.sl (OZ4.keep K2 (by simp)).sl (by omega)).mono ?_
     rintro x Z3 ⟨rfl, rfl⟩
     have b5 := (OZ5.keep K2 (by simp)).sl.bytesIn
     have et : decide (told = told) = true := decide_eq_true rfl
     rw [kontK_eq]
     refine ⟨Keep.refl _ _, ?_⟩
     simp -implicitDefEqProofs only [go_sem, zS, ↓reduceIte, Za, Zb, Zc, reduceCtorEq, zU, zV, Zf, Zg, Zh, Zi, Zd, Ze, et, g5, b5, toBA_w8]
     refine ⟨okB2s_w8 b5, ?_⟩
     refine (c.by_ _ _ _ _ (TZ.keep K2 (by simp)) hns).mono ?_
     rintro x Z4 ⟨OB, oB, KB⟩
     have b6 := OB.sl.bytesIn
     rw [kontK_eq]
     refine ⟨KB, ?_⟩
     simp -implicitDefEqProofs only [go_sem, zS, ↓reduceIte, Za, Zb, Zc, reduceCtorEq, zU, zV, Zf, Zg, Zh, Zi, Zd, Ze, b6, toBA_w8]
     rw [hQ]
     exact ⟨okB2s_w8 b6, rfl, (K0Z.trans K2).trans KB⟩
end Go.Mg

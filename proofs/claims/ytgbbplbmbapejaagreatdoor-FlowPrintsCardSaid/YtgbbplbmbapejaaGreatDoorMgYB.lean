/- Several texts of ours in one. No conditions. -/
import Derived.Test.YtgbbplbmbapejaaGreatDoorMgY7
import Derived.Test.YtgbbplbmbapejaaGreatDoorMgV3
open Nat renaming reduceEqDiff → Za, reduceAdd → Zb, reduceMul → Zc, reduceLeDiff → Zd, reduceLT → Ze
open Int renaming reduceBEq → Zf, reduceBNe → Zg, reduceLE → Zh, reduceLT → Zi
namespace Go.Mg
open Go Go.RowKit
set_option linter.all false
set_option maxRecDepth 100000
def c_rpB (ι : Ids) : S :=
 (.seq (.reg [.p (.t 50) (.fa 1 (.v 2)), .p (.v 51) (.ld (.t 50)), .p (.v 52) (.m (.lenl (.v 51))), .p (.v 53) (.mv (.c (.int .i64 0)))]) (.blk 2 (.loop (.seq (.reg [.p (.v 54) (.cm .lss .i64 (.v 53)
 (.v 52))]) (.seq (.ite (.v 54) .skip (.exit 2)) (.seq (.blk 3 (.seq (.reg [.p (.t 55) (.is 2 (.v 51) (.v 53)), .p (.t 56) (.m (.ldn 2 (.t 55))), .e (.v 11) (.new (ι.t 194) #[.int .i64 0, .int .i64
 0]), .e .no (.stn 2 (.v 11) (.t 56))]) (.seq (.seq (.reg [.p (.t 57) (.ia 2 1 (.v 11) (.c (.int .i64 1))), .p (.t 58) (.ld (.t 57)), .p (.t 59) (.mv (.v 6)), .p (.v 60) (.cm .neq .i64 (.t 58) (.t
 59))]) (.ite (.v 60) (.exit 3) .skip)) (.seq (.seq (.reg [.p (.v 61) (.mv (.v 9))]) (.ite (.v 61) (.reg [.p (.t 62) (.mv (.v 5)), .p (.t 63) (.sadd (.t 62) (.c (.string ⟨#[32, 97, 102, 116, 101,
 114]⟩))), .p (.v 5) (.mv (.t 63))]) .skip)) (.seq (.reg [.p (.v 9) (.mv (.c (.bool false)))]) (.reg [.p (.t 64) (.mv (.v 5)), .p (.t 65) (.fa 0 (.v 2)), .p (.t 66) (.ld (.t 65)), .p (.t 67) (.ia 2 1
 (.v 11) (.c (.int .i64 0))), .p (.t 68) (.ld (.t 67)), .p (.t 69) (.is 2 (.t 66) (.t 68)), .p (.t 70) (.fa 0 (.t 69)), .p (.t 71) (.ld (.t 70)), .p (.t 72) (.sadd (.c (.string ⟨#[32]⟩)) (.t 71)), .p
 (.t 73) (.sadd (.t 64) (.t 72)), .p (.v 5) (.mv (.t 73))])))))) (.reg [.p (.t 74) (.ar .add .i64 (.v 53) (.c (.int .i64 1))), .p (.v 53) (.mv (.t 74))])))))))
def c_rpT (ι : Ids) : S :=
 (.seq (.reg [.p (.t 42) (.mv (.v 5)), .p (.t 43) (.fa 0 (.v 7)), .p (.t 44) (.ld (.t 43)), .p (.t 45) (.sadd (.c (.string ⟨#[115, 116, 101, 112, 32]⟩)) (.t 44)), .p (.t 46) (.sadd (.t 45) (.c (.string
 ⟨#[32, 98, 121, 32]⟩))), .p (.t 47) (.mv (.v 8)), .p (.t 48) (.sadd (.t 46) (.t 47)), .p (.t 49) (.sadd (.t 42) (.t 48)), .p (.v 5) (.mv (.t 49))]) (.seq (.reg [.p (.v 9) (.mv (.c (.bool true)))])
 (.seq (c_rpB ι) (.reg [.p (.t 75) (.mv (.v 5)), .p (.t 76) (.sadd (.t 75) (.c (.string ⟨#[10]⟩))), .p (.v 5) (.mv (.t 76))]))))
def c_rpS (ι : Ids) : S :=
 (.seq (.reg [.p (.t 20) (.fa 0 (.v 2)), .p (.v 21) (.ld (.t 20)), .p (.v 22) (.m (.lenl (.v 21))), .p (.v 23) (.mv (.c (.int .i64 0)))]) (.blk 0 (.loop (.seq (.reg [.p (.v 24) (.cm .lss .i64 (.v 23)
 (.v 22))]) (.seq (.ite (.v 24) .skip (.exit 0)) (.seq (.blk 1 (.seq (.reg [.p (.t 25) (.mv (.v 23)), .p (.t 26) (.is 2 (.v 21) (.v 23)), .p (.t 27) (.m (.ldn 2 (.t 26))), .e (.v 7) (.new (ι.t 290)
 #[.string ⟨#[]⟩, .int .i64 0]), .p (.v 6) (.mv (.t 25)), .e .no (.stn 2 (.v 7) (.t 27))]) (.seq (.reg [.p (.t 28) (.fa 1 (.v 7)), .p (.t 29) (.ld (.t 28)), .e (.t 30) (.call (ι.f 287) [.t 29]), .p (.v
 8) (.mv (.t 30))]) (.seq (.seq (.reg [.p (.t 31) (.fa 1 (.v 7)), .p (.t 32) (.ld (.t 31)), .p (.t 33) (.mv (.v 1)), .p (.t 34) (.m (.lenl (.t 33))), .p (.v 35) (.cm .leq .i64 (.t 32) (.t 34))]) (.ite
 (.v 35) (.reg [.p (.t 36) (.mv (.v 1)), .p (.t 37) (.fa 1 (.v 7)), .p (.t 38) (.ld (.t 37)), .p (.t 39) (.ar .sub .i64 (.t 38) (.c (.int .i64 1))), .p (.t 40) (.is 1 (.t 36) (.t 39)), .p (.t 41) (.ld
 (.t 40)), .p (.v 8) (.mv (.t 41))]) .skip)) (c_rpT ι))))) (.reg [.p (.t 77) (.ar .add .i64 (.v 23) (.c (.int .i64 1))), .p (.v 23) (.mv (.t 77))])))))))
def c_rpD (ι : Ids) : S :=
 (.seq (.reg [.p (.t 78) (.fa 2 (.v 2)), .p (.v 79) (.ld (.t 78)), .p (.v 80) (.m (.lenl (.v 79))), .p (.v 81) (.mv (.c (.int .i64 0)))]) (.blk 4 (.loop (.seq (.reg [.p (.v 82) (.cm .lss .i64 (.v 81)
 (.v 80))]) (.seq (.ite (.v 82) .skip (.exit 4)) (.seq (.blk 5 (.seq (.reg [.p (.t 83) (.is 2 (.v 79) (.v 81)), .p (.t 84) (.m (.ldn 2 (.t 83))), .e (.v 13) (.new (ι.t 194) #[.int .i64 0, .int .i64
 0]), .e .no (.stn 2 (.v 13) (.t 84))]) (.reg [.p (.t 85) (.mv (.v 5)), .p (.t 86) (.fa 0 (.v 2)), .p (.t 87) (.ld (.t 86)), .p (.t 88) (.ia 2 1 (.v 13) (.c (.int .i64 0))), .p (.t 89) (.ld (.t 88)),
 .p (.t 90) (.is 2 (.t 87) (.t 89)), .p (.t 91) (.fa 0 (.t 90)), .p (.t 92) (.ld (.t 91)), .p (.t 93) (.sadd (.c (.string ⟨#[100, 105, 102, 102, 101, 114, 32]⟩)) (.t 92)), .p (.t 94) (.sadd (.t 93) (.c
 (.string ⟨#[32]⟩))), .p (.t 95) (.fa 0 (.v 2)), .p (.t 96) (.ld (.t 95)), .p (.t 97) (.ia 2 1 (.v 13) (.c (.int .i64 1))), .p (.t 98) (.ld (.t 97)), .p (.t 99) (.is 2 (.t 96) (.t 98)), .p (.t 100)
 (.fa 0 (.t 99)), .p (.t 101) (.ld (.t 100)), .p (.t 102) (.sadd (.t 94) (.t 101)), .p (.t 103) (.sadd (.t 102) (.c (.string ⟨#[10]⟩))), .p (.t 104) (.sadd (.t 85) (.t 103)), .p (.v 5) (.mv (.t
 104))]))) (.reg [.p (.t 105) (.ar .add .i64 (.v 81) (.c (.int .i64 1))), .p (.v 81) (.mv (.t 105))])))))))
def c_rpE (ι : Ids) : S :=
 (.seq (.reg [.p (.t 106) (.fa 3 (.v 2)), .p (.v 107) (.ld (.t 106)), .p (.v 108) (.m (.lenl (.v 107))), .p (.v 109) (.mv (.c (.int .i64 0)))]) (.blk 6 (.loop (.seq (.reg [.p (.v 110) (.cm .lss .i64
 (.v 109) (.v 108))]) (.seq (.ite (.v 110) .skip (.exit 6)) (.seq (.blk 7 (.seq (.reg [.p (.t 111) (.is 2 (.v 107) (.v 109)), .p (.t 112) (.m (.ldn 2 (.t 111))), .e (.v 15) (.new (ι.t 194) #[.int .i64
 0, .int .i64 0]), .e .no (.stn 2 (.v 15) (.t 112))]) (.reg [.p (.t 113) (.mv (.v 5)), .p (.t 114) (.fa 0 (.v 2)), .p (.t 115) (.ld (.t 114)), .p (.t 116) (.ia 2 1 (.v 15) (.c (.int .i64 0))), .p (.t
 117) (.ld (.t 116)), .p (.t 118) (.is 2 (.t 115) (.t 117)), .p (.t 119) (.fa 0 (.t 118)), .p (.t 120) (.ld (.t 119)), .p (.t 121) (.sadd (.c (.string ⟨#[115, 97, 109, 101, 32]⟩)) (.t 120)), .p (.t
 122) (.sadd (.t 121) (.c (.string ⟨#[32]⟩))), .p (.t 123) (.fa 0 (.v 2)), .p (.t 124) (.ld (.t 123)), .p (.t 125) (.ia 2 1 (.v 15) (.c (.int .i64 1))), .p (.t 126) (.ld (.t 125)), .p (.t 127) (.is 2
 (.t 124) (.t 126)), .p (.t 128) (.fa 0 (.t 127)), .p (.t 129) (.ld (.t 128)), .p (.t 130) (.sadd (.t 122) (.t 129)), .p (.t 131) (.sadd (.t 130) (.c (.string ⟨#[10]⟩))), .p (.t 132) (.sadd (.t 113)
 (.t 131)), .p (.v 5) (.mv (.t 132))]))) (.reg [.p (.t 133) (.ar .add .i64 (.v 109) (.c (.int .i64 1))), .p (.v 109) (.mv (.t 133))])))))))
def c_rpN (ι : Ids) : S :=
 (.seq (.reg [.p (.t 147) (.fa 1 (.v 17)), .p (.t 148) (.ld (.t 147)), .e (.v 149) (.call (ι.f 282) [.t 148]), .p (.v 150) (.m (.lenl (.v 149))), .p (.v 151) (.mv (.c (.int .i64 0)))]) (.blk 10 (.loop
 (.seq (.reg [.p (.v 152) (.cm .lss .i64 (.v 151) (.v 150))]) (.seq (.ite (.v 152) .skip (.exit 10)) (.seq (.blk 11 (.seq (.reg [.p (.t 153) (.is 1 (.v 149) (.v 151)), .p (.t 154) (.ld (.t 153)), .p
 (.v 19) (.mv (.t 154))]) (.reg [.p (.t 155) (.mv (.v 5)), .p (.t 156) (.fa 0 (.v 2)), .p (.t 157) (.ld (.t 156)), .p (.t 158) (.mv (.v 19)), .p (.t 159) (.is 2 (.t 157) (.t 158)), .p (.t 160) (.fa 0
 (.t 159)), .p (.t 161) (.ld (.t 160)), .p (.t 162) (.sadd (.c (.string ⟨#[32]⟩)) (.t 161)), .p (.t 163) (.sadd (.t 155) (.t 162)), .p (.v 5) (.mv (.t 163))]))) (.reg [.p (.t 164) (.ar .add .i64 (.v
 151) (.c (.int .i64 1))), .p (.v 151) (.mv (.t 164))])))))))
def c_rpM (ι : Ids) : S :=
 (.seq (.reg [.p (.t 134) (.fa 4 (.v 2)), .p (.v 135) (.ld (.t 134)), .p (.v 136) (.m (.lenl (.v 135))), .p (.v 137) (.mv (.c (.int .i64 0)))]) (.blk 8 (.loop (.seq (.reg [.p (.v 138) (.cm .lss .i64
 (.v 137) (.v 136))]) (.seq (.ite (.v 138) .skip (.exit 8)) (.seq (.blk 9 (.seq (.reg [.p (.t 139) (.is 2 (.v 135) (.v 137)), .p (.t 140) (.m (.ldn 2 (.t 139))), .e (.v 17) (.new (ι.t 291) #[.int .i64
 0, .int .u64 0]), .e .no (.stn 2 (.v 17) (.t 140))]) (.seq (.reg [.p (.t 141) (.mv (.v 5)), .p (.t 142) (.fa 0 (.v 17)), .p (.t 143) (.ld (.t 142)), .e (.t 144) (.call (ι.f 287) [.t 143]), .p (.t 145)
 (.sadd (.c (.string ⟨#[109, 111, 115, 116, 32]⟩)) (.t 144)), .p (.t 146) (.sadd (.t 141) (.t 145)), .p (.v 5) (.mv (.t 146))]) (.seq (c_rpN ι) (.reg [.p (.t 165) (.mv (.v 5)), .p (.t 166) (.sadd (.t
 165) (.c (.string ⟨#[10]⟩))), .p (.v 5) (.mv (.t 166))]))))) (.reg [.p (.t 167) (.ar .add .i64 (.v 137) (.c (.int .i64 1))), .p (.v 137) (.mv (.t 167))])))))))
def c_rprn (ι : Ids) : S :=
 .seq (.reg [.e (.v 2) (.box (ι.t 289) (.v 0)), .p (.v 4) (.mv (.c (.string ⟨#[]⟩)))]) (.seq (.reg [.p (.v 5) (.mv (.c (.string ⟨#[]⟩)))]) (.seq (c_rpS ι) (.seq (c_rpD ι) (.seq (c_rpE ι) (.seq (c_rpM
 ι) (.seq (.reg [.p (.t 168) (.mv (.v 5)), .p (.v 4) (.mv (.t 168))]) .ret))))))
def r_rprn : List RV := [.t 4]
theorem aft_tl {F : FlN} {k : Nat} {l : List PrN} (hn : ∀ k, (nmF F k).length <= 100) (hl : l.length <= 20) : (tlJ (aftS (aftW F k l))).length <= 2121 := by
 have h1 : sumJ (aftS (aftW F k l)) <= 100 * (aftS (aftW F k l)).length := sumJ_le fun y hy => by
  unfold aftS at hy
  split at hy
  ·cases hy
  ·rcases List.mem_cons.1 hy with rfl | hy
   ·decide
   ·unfold aftW at hy
    obtain ⟨z, _, rfl⟩ := List.mem_map.1 hy
    exact hn _
 have h2 := aftS_len (aftW F k l)
 have h3 := aftW_len F k l
 rw [tlJ_len]
 omega
def S8 (l : List UInt8) : Value := .string ⟨l.toArray⟩
theorem rpB_ok {P : Program} {ι : Ids} {F : FlN} {k b2 : Nat} {s b d a m : Value} {txt : List UInt8} {f : Fr} {A : Hp} {Qb : Ex -> Fr -> Hp -> Prop} (h2 : f 2 = .pointer (some ⟨b2, 0, none⟩)) (h6 : f 6 = .int .i64 (k : Int)) (h9 : f 9 = .bool true) (h5 : f 5 = .string ⟨txt.toArray⟩) (B2 : Bl A b2 [s, b, d, a, m]) (hs : SlE encS 2 A s F.st) (hb : SlP A b F.be)
  (hn : ∀ k, (nmF F k).length <= 100) (ht : txt.length <= 800000) (hok : ∀ x ∈ F.be, okP (F.st.length : Int) x) (hl : F.be.length <= 20)
  (hK : ∀ g X, (∀ j, j ∉ [51, 52, 53, 54, 11, 60, 61, 9, 5] -> g j = f j) -> g 5 = .string ⟨(txt ++ tlJ (aftS (aftW F k F.be))).toArray⟩ -> Keep (fun _ => False) A X -> Qb .n g X) : vc P (c_rpB ι) Qb f A := by
 unfold c_rpB
 have c1 : cell A ⟨b2, 1, none⟩ = some b := by rw [B2.cell]; rfl
 have lb : lenV b = F.be.length := hb.len
 simp -implicitDefEqProofs only [go_sem, zS, ↓reduceIte, Za, Zb, Zc, reduceCtorEq, kont_eq, zU, zV, Zf, Zg, Zh, Zi, Zd, Ze, zF, h2, c1, hb.isSl, lb]
 refine vc_range F.be.length [54, 11, 60, 61, 9, 5, 53] rfl rfl (by omega) (by simp -implicitDefEqProofs only [go_sem, zS, ↓reduceIte, Za, Zb, Zc, reduceCtorEq, kont_eq, zU, zV, Zf, Zg, Zh, Zi, Zd, Ze]) (by simp -implicitDefEqProofs only [go_sem, zS, ↓reduceIte, Za, Zb, Zc, reduceCtorEq, kont_eq, zU, zV, Zf, Zg, Zh, Zi, Zd, Ze]) (fun i g X => g 9 = .bool (decide (aftW F k (F.be.take i) = [])) /\ g 5 = .string ⟨(txt ++ tlJ (aftS (aftW F k (F.be.take i)))).toArray⟩ /\ Keep (fun _ => False) A X) ⟨by simp -implicitDefEqProofs only [go_sem, zS, ↓reduceIte, Za, Zb, Zc, reduceCtorEq, kont_eq, zU, zV, Zf, Zg, Zh, Zi, Zd, Ze, h9]; simp [aftW], by simp -implicitDefEqProofs only [go_sem, zS, ↓reduceIte, Za, Zb, Zc, reduceCtorEq, kont_eq, zU, zV, Zf, Zg, Zh, Zi, Zd, Ze, h5]; simp [aftW, aftS, tlJ], Keep.refl _ _⟩ ?_ ?_
 ·rintro i g X hi gi gn ⟨g9, g5, KX⟩
  simp -implicitDefEqProofs only [go_sem, zS, ↓reduceIte, Za, Zb, Zc, reduceCtorEq, kont_eq, zU, zV, Zf, Zg, Zh, Zi, Zd, Ze] at gi gn g9 g5
  obtain ⟨pb, po, pc, hbe, -, hld⟩ := (hb.keep0 KX).elem pE_len hi
  obtain ⟨x, hx⟩ : ∃ x, x = F.be[i] := ⟨_, rfl⟩
  rw [<- hx] at hld
  have hld : ldNA X ⟨pb, po + i * 2, none⟩ 2 = some #[.int .i64 x.1, .int .i64 x.2] := hld
  have hx2 := hok x (by rw [hx]; exact List.getElem_mem hi)
  unfold okP at hx2
  obtain ⟨j, hj⟩ : ∃ j : Nat, x.1 = (j : Int) := ⟨x.1.toNat, by omega⟩
  have hjn : j < F.st.length := by omega
  have hjt : x.1.toNat = j := by omega
  simp -implicitDefEqProofs only [go_sem, zS, ↓reduceIte, Za, Zb, Zc, reduceCtorEq, zU, zV, Zf, Zg, Zh, Zi, Zd, Ze, zF, gi, hbe, tn_cast, hld, ldNO_ptr]
  refine ⟨by omega, ?_⟩
  refine kont_newst [.int .i64 x.1, .int .i64 x.2] (by simp -implicitDefEqProofs only [go_sem, zS, ↓reduceIte, Za, Zb, Zc, reduceCtorEq, kont_eq, zU, zV, Zf, Zg, Zh, Zi, Zd, Ze]) rfl rfl rfl fun X1 b11 e1 z1 B11 K1 => ?_
  have c110 : cell X1 ⟨b11, 0, none⟩ = some (.int .i64 (j : Int)) := by rw [B11.cell, hj]; rfl
  have c111 : cell X1 ⟨b11, 1, none⟩ = some (.int .i64 x.2) := by rw [B11.cell]; rfl
  have tk : F.be.take (i + 1) = F.be.take i ++ [x] := by rw [take_snoc' hi, hx]
  obtain ⟨a0, ha0⟩ : ∃ a0, a0 = aftW F k (F.be.take i) := ⟨_, rfl⟩
  rw [<- ha0] at g9 g5
  by_cases h : x.2 = (k : Int)
  case neg =>
   have d1 : (x.2 != (k : Int)) = true := by simpa using h
   have e : aftW F k (F.be.take (i + 1)) = a0 := by rw [tk, ha0]; unfold aftW; rw [List.filter_append]; simp [h]
   simp -implicitDefEqProofs only [go_sem, zS, ↓reduceIte, Za, Zb, Zc, reduceCtorEq, kont_eq, zU, zV, Zf, Zg, Zh, Zi, Zd, Ze, zF, c111, h6, d1]
   refine ⟨?_, ?_, KX.trans K1⟩
   ·rw [e]; simp -implicitDefEqProofs only [go_sem, zS, ↓reduceIte, Za, Zb, Zc, reduceCtorEq, kont_eq, zU, zV, Zf, Zg, Zh, Zi, Zd, Ze, g9]
   ·rw [e]; simp -implicitDefEqProofs only [go_sem, zS, ↓reduceIte, Za, Zb, Zc, reduceCtorEq, kont_eq, zU, zV, Zf, Zg, Zh, Zi, Zd, Ze, g5]
  have d1 : (x.2 != (k : Int)) = false := by simpa using h
  have e : aftW F k (F.be.take (i + 1)) = a0 ++ [nmF F j] := by rw [tk, ha0]; unfold aftW; rw [List.filter_append]; simp [h, hjt]
  have K01 := KX.trans K1
  have cs0 : cell X1 ⟨b2, 0, none⟩ = some s := by rw [(K01.bl B2 (by simp)).cell]; rfl
  obtain ⟨sb, so, sc, he, n1, _, _⟩ := encS_name (hs.keep0 K01) hjn
  have hbj : (0 : Int) <= (j : Int) /\ (j : Int) < (F.st.length : Int) := by omega
  rw [sV] at n1
  have hal : (tlJ (aftS a0)).length <= 2121 := by rw [ha0]; exact aft_tl hn (by rw [List.length_take]; omega)
  have hnj := hn j
  have ne : decide (aftW F k (F.be.take (i + 1)) = []) = false := decide_eq_false (by rw [e]; simp)
  have w32 : (⟨#[32]⟩ : ByteArray) = ⟨[32].toArray⟩ := rfl
  have waf : (⟨#[32, 97, 102, 116, 101, 114]⟩ : ByteArray) = ⟨(32 :: wAfter).toArray⟩ := rfl
  by_cases h0 : a0 = []
  ·have d9 : decide (a0 = []) = true := decide_eq_true h0
   simp -implicitDefEqProofs only [go_sem, zS, ↓reduceIte, Za, Zb, Zc, reduceCtorEq, kont_eq, zU, zV, Zf, Zg, Zh, Zi, Zd, Ze, zF, c111, h6, d1, g9, g5, d9, h2, cs0, he, c110, tn_cast, hbj, n1]
   refine ⟨by rw [List.length_append]; unfold maxLen; omega, by unfold maxLen; omega, by rw [List.length_append]; unfold maxLen; omega, by rw [ne], ?_, K01⟩
   rw [e, waf, w32, ba_app, ba_app, ba_app, aftS_snoc, if_pos h0]
   have : aftS a0 = [] := by rw [h0]; rfl
   rw [this]
   simp [tlJ]
  ·have d9 : decide (a0 = []) = false := decide_eq_false h0
   simp -implicitDefEqProofs only [go_sem, zS, ↓reduceIte, Za, Zb, Zc, reduceCtorEq, kont_eq, zU, zV, Zf, Zg, Zh, Zi, Zd, Ze, zF, c111, h6, d1, g9, g5, d9, h2, cs0, he, c110, tn_cast, hbj, n1]
   refine ⟨by unfold maxLen; omega, by rw [List.length_append]; unfold maxLen; omega, by rw [ne], ?_, K01⟩
   rw [e, w32, ba_app, ba_app, aftS_snoc, if_neg h0]
   simp [tlJ]
 ·rintro g X gi ⟨g9, g5, KX⟩
  rw [List.take_of_length_le (Nat.le_refl _)] at g5
  refine hK _ X (fun j hj => ?_) (by simp -implicitDefEqProofs only [go_sem, zS, ↓reduceIte, Za, Zb, Zc, reduceCtorEq, kont_eq, zU, zV, Zf, Zg, Zh, Zi, Zd, Ze] at g5 ⊢; exact g5) KX
  simp only [List.mem_cons, List.not_mem_nil, or_false, not_or] at hj
  simp only [upd, over, hj, if_false, List.mem_cons, List.not_mem_nil, or_false, or_self]
end Go.Mg
namespace Go.Mg
open Go Go.RowKit
set_option linter.all false
set_option maxRecDepth 100000
theorem linS (nm ro : List UInt8) (t : List (List UInt8)) : linF (wStep :: nm :: wBy :: ro :: t) = (([115, 116, 101, 112, 32] ++ nm) ++ [32, 98, 121, 32] ++ ro) ++ tlJ t ++ [10] := by
 simp [linF, joinS, tlJ, wStep, wBy]
theorem linP (w x y : List UInt8) : linF [w, x, y] = ((w ++ [32]) ++ x) ++ [32] ++ y ++ [10] := by simp [linF, joinS, tlJ]
theorem linM (w x : List UInt8) (t : List (List UInt8)) : linF (w :: x :: t) = ((w ++ [32]) ++ x) ++ tlJ t ++ [10] := by simp [linF, joinS, tlJ]
theorem rpT_ok {P : Program} {ι : Ids} {F : FlN} {k b2 b7 : Nat} {s b d a m rolv : Value} {ro txt : List UInt8} {f : Fr} {A : Hp} {Qb : Ex -> Fr -> Hp -> Prop} (h2 : f 2 = .pointer (some ⟨b2, 0, none⟩)) (h6 : f 6 = .int .i64 (k : Int)) (h7 : f 7 = .pointer (some ⟨b7, 0, none⟩)) (h8 : f 8 = .string ⟨ro.toArray⟩) (h5 : f 5 = .string ⟨txt.toArray⟩) (B2 : Bl A b2 [s, b, d, a, m]) (B7 : Bl A b7 [sV (nmF F k), rolv]) (hs : SlE encS 2 A s F.st) (hb : SlP A b F.be)
  (hn : ∀ k, (nmF F k).length <= 100) (hr : ro.length <= 100) (ht : txt.length <= 790000) (hok : ∀ x ∈ F.be, okP (F.st.length : Int) x) (hl : F.be.length <= 20)
  (hK : ∀ g X, (∀ j, j ∉ [51, 52, 53, 54, 11, 60, 61, 9, 5] -> g j = f j) -> g 5 = .string ⟨(txt ++ linF ([wStep, nmF F k, wBy, ro] ++ aftS (aftW F k F.be))).toArray⟩ -> Keep (fun _ => False) A X -> Qb .n g X) : vc P (c_rpT ι) Qb f A := by
 unfold c_rpT
 have c7 : cell A ⟨b7, 0, none⟩ = some (.string ⟨(nmF F k).toArray⟩) := by rw [B7.cell]; rfl
 have hnk := hn k
 have w1 : (⟨#[115, 116, 101, 112, 32]⟩ : ByteArray) = ⟨[115, 116, 101, 112, 32].toArray⟩ := rfl
 have w2 : (⟨#[32, 98, 121, 32]⟩ : ByteArray) = ⟨[32, 98, 121, 32].toArray⟩ := rfl
 have w3 : (⟨#[10]⟩ : ByteArray) = ⟨[10].toArray⟩ := rfl
 simp -implicitDefEqProofs only [go_sem, zS, ↓reduceIte, Za, Zb, Zc, reduceCtorEq, zU, zV, Zf, Zg, Zh, Zi, Zd, Ze, zF, h5, h7, h8, c7, w1, w2, ba_app]
 refine ⟨by unfold maxLen; omega, by unfold maxLen; (try simp only [List.length_append, List.length_cons, List.length_nil]); omega, by unfold maxLen; (try simp only [List.length_append, List.length_cons, List.length_nil]); omega, by unfold maxLen; (try simp only [List.length_append, List.length_cons, List.length_nil]); omega, ?_⟩
 refine rpB_ok (k := k) (txt := txt ++ (([115, 116, 101, 112, 32] ++ nmF F k) ++ [32, 98, 121, 32] ++ ro)) (by simp -implicitDefEqProofs only [go_sem, zS, ↓reduceIte, Za, Zb, Zc, reduceCtorEq, kont_eq, zU, zV, Zf, Zg, Zh, Zi, Zd, Ze, h2]) (by simp -implicitDefEqProofs only [go_sem, zS, ↓reduceIte, Za, Zb, Zc, reduceCtorEq, kont_eq, zU, zV, Zf, Zg, Zh, Zi, Zd, Ze, h6]) (by simp -implicitDefEqProofs only [go_sem, zS, ↓reduceIte, Za, Zb, Zc, reduceCtorEq, kont_eq, zU, zV, Zf, Zg, Zh, Zi, Zd, Ze]) (by simp -implicitDefEqProofs only [go_sem, zS, ↓reduceIte, Za, Zb, Zc, reduceCtorEq, kont_eq, zU, zV, Zf, Zg, Zh, Zi, Zd, Ze]) B2 hs hb hn (by simp only [List.length_append, List.length_cons, List.length_nil]; omega) hok hl fun g X hf g5 KX => ?_
 have hal : (tlJ (aftS (aftW F k F.be))).length <= 2121 := aft_tl hn hl
 simp -implicitDefEqProofs only [go_sem, zS, ↓reduceIte, Za, Zb, Zc, reduceCtorEq, kont_eq, zU, zV, Zf, Zg, Zh, Zi, Zd, Ze, zF, g5, w3, ba_app]
 refine ⟨by unfold maxLen; (try simp only [List.length_append, List.length_cons, List.length_nil]); omega, hK _ X (fun j hj => ?_) ?_ KX⟩
 ·have hj' := hf j hj
  simp only [List.mem_cons, List.not_mem_nil, or_false, not_or] at hj
  simp only [upd, hj, if_false] at hj' ⊢
  exact hj'
 ·simp -implicitDefEqProofs only [go_sem, zS, ↓reduceIte, Za, Zb, Zc, reduceCtorEq, kont_eq, zU, zV, Zf, Zg, Zh, Zi, Zd, Ze]
  rw [linS]
  simp
structure RpI (F : FlN) (rl : List (List UInt8)) (b2 : Nat) (s b d a m rv : Value) (f : Fr) (A : Hp) (txt : List UInt8) : Prop where
 f1 : f 1 = rv
 f2 : f 2 = .pointer (some ⟨b2, 0, none⟩)
 f5 : f 5 = .string ⟨txt.toArray⟩
 B2 : Bl A b2 [s, b, d, a, m]
 hs : SlE encS 2 A s F.st
 hb : SlP A b F.be
 hd : SlP A d F.di
 ha : SlP A a F.sa
 hm : SlE encM 2 A m F.mo
 hr : SlR A rv (sL rl)
theorem RpI.next {F : FlN} {rl : List (List UInt8)} {b2 : Nat} {s b d a m rv : Value} {f g : Fr} {A X : Hp} {txt txt' : List UInt8} (h : RpI F rl b2 s b d a m rv f A txt) (hk : Keep (fun _ => False) A X) (g1 : g 1 = f 1) (g2 : g 2 = f 2) (g5 : g 5 = .string ⟨txt'.toArray⟩) : RpI F rl b2 s b d a m rv g X txt' :=
 ⟨g1.trans h.f1, g2.trans h.f2, g5, hk.bl h.B2 (by simp), h.hs.keep0 hk, h.hb.keep0 hk, h.hd.keep0 hk, h.ha.keep0 hk, h.hm.keep0 hk, h.hr.keep hk (by simp)⟩
theorem rpS_ok {P : Program} {ι : Ids} {F : FlN} {rl : List (List UInt8)} {b2 : Nat} {s b d a m rv : Value} {f : Fr} {A : Hp} {Qb : Ex -> Fr -> Hp -> Prop} (hd : DigSpec P (ι.f 287)) (h : RpI F rl b2 s b d a m rv f A []) (hn : ∀ k, (nmF F k).length <= 100) (hrw : ∀ x, (roW rl x).length <= 100)
  (hok : ∀ x ∈ F.be, okP (F.st.length : Int) x) (hro : ∀ k, k < F.st.length -> 1 <= (F.st.getD k ([], 0)).2 /\ (F.st.getD k ([], 0)).2 < 10) (hst : F.st.length <= 10) (hbl : F.be.length <= 20) (hrl : rl.length <= 1000)
  (hK : ∀ g X, RpI F rl b2 s b d a m rv g X (((List.range F.st.length).map (stW F rl)).flatMap linF) -> Keep (fun _ => False) A X -> Qb .n g X) : vc P (c_rpS ι) Qb f A := by
 unfold c_rpS
 have c1 : cell A ⟨b2, 0, none⟩ = some s := by rw [h.B2.cell]; rfl
 have lb : lenV s = F.st.length := h.hs.len
 have f2 := h.f2
 simp -implicitDefEqProofs only [go_sem, zS, ↓reduceIte, Za, Zb, Zc, reduceCtorEq, kont_eq, zU, zV, Zf, Zg, Zh, Zi, Zd, Ze, zF, f2, c1, h.hs.isSl, lb]
 refine vc_range F.st.length [24, 7, 6, 8, 35, 5, 9, 51, 52, 53, 54, 11, 60, 61, 23] rfl rfl (by omega) (by simp -implicitDefEqProofs only [go_sem, zS, ↓reduceIte, Za, Zb, Zc, reduceCtorEq, kont_eq, zU, zV, Zf, Zg, Zh, Zi, Zd, Ze]) (by simp -implicitDefEqProofs only [go_sem, zS, ↓reduceIte, Za, Zb, Zc, reduceCtorEq, kont_eq, zU, zV, Zf, Zg, Zh, Zi, Zd, Ze]) (fun i g X => RpI F rl b2 s b d a m rv g X (((List.range i).map (stW F rl)).flatMap linF) /\ Keep (fun _ => False) A X) ⟨h.next (Keep.refl _ _) (by simp -implicitDefEqProofs only [go_sem, zS, ↓reduceIte, Za, Zb, Zc, reduceCtorEq, kont_eq, zU, zV, Zf, Zg, Zh, Zi, Zd, Ze]) (by simp -implicitDefEqProofs only [go_sem, zS, ↓reduceIte, Za, Zb, Zc, reduceCtorEq, kont_eq, zU, zV, Zf, Zg, Zh, Zi, Zd, Ze]) (by simp -implicitDefEqProofs only [go_sem, zS, ↓reduceIte, Za, Zb, Zc, reduceCtorEq, kont_eq, zU, zV, Zf, Zg, Zh, Zi, Zd, Ze]; exact h.f5), Keep.refl _ _⟩ ?_ ?_
 ·rintro i g X hi' gi gn ⟨hI, KX⟩
  have g1 := hI.f1
  have g2 := hI.f2
  have g5 := hI.f5
  simp -implicitDefEqProofs only [go_sem, zS, ↓reduceIte, Za, Zb, Zc, reduceCtorEq, kont_eq, zU, zV, Zf, Zg, Zh, Zi, Zd, Ze] at gi gn g1 g2 g5
  obtain ⟨sb, so, sc, he, n1, n2, hld⟩ := encS_name hI.hs (j := i) hi'
  obtain ⟨ro, hroe⟩ : ∃ ro, ro = (F.st.getD i ([], 0)).2 := ⟨_, rfl⟩
  rw [<- hroe] at n2 hld
  obtain ⟨hr0, hr1⟩ := hro i hi'
  rw [<- hroe] at hr0 hr1
  cases he
  have hib : (0 : Int) <= (i : Int) /\ (i : Int) < (F.st.length : Int) := by omega
  simp -implicitDefEqProofs only [go_sem, zS, ↓reduceIte, Za, Zb, Zc, reduceCtorEq, zU, zV, Zf, Zg, Zh, Zi, Zd, Ze, zF, gi, tn_cast, hld, ldNO_ptr, hib]
  refine kont_newstP [sV (nmF F i), .int .i64 ro] (.int .i64 (i : Int)) rfl (by simp -implicitDefEqProofs only [go_sem, zS, ↓reduceIte, Za, Zb, Zc, reduceCtorEq, kont_eq, zU, zV, Zf, Zg, Zh, Zi, Zd, Ze]) (by simp -implicitDefEqProofs only [go_sem, zS, ↓reduceIte, Za, Zb, Zc, reduceCtorEq, kont_eq, zU, zV, Zf, Zg, Zh, Zi, Zd, Ze]) rfl rfl rfl fun X1 b7 e1 z1 B7 K1 => ?_
  have c71 : cell X1 ⟨b7, 1, none⟩ = some (.int .i64 ro) := by rw [B7.cell]; rfl
  have hlen : (((List.range i).map (stW F rl)).flatMap linF).length <= 790000 := by
   have := lin_flat (l := (List.range i).map (stW F rl)) fun w hw => by
    obtain ⟨y, _, rfl⟩ := List.mem_map.1 hw
    exact stW_sm hn hrw (by omega) y
   rw [List.length_map, List.length_range] at this
   omega
  have e3 : ro = ((ro.toNat : Nat) : Int) := by omega
  have hit : itoaB ro.toNat = [UInt8.ofNat (48 + ro.toNat)] := by unfold itoaB; rw [if_pos (by omega)]
  simp -implicitDefEqProofs only [go_sem, zS, ↓reduceIte, Za, Zb, Zc, reduceCtorEq, zU, zV, Zf, Zg, Zh, Zi, Zd, Ze, zF, c71]
  rw [e3]
  refine (hd ro.toNat X1 (by omega)).mono ?_
  rintro r X2 ⟨rfl, K2⟩
  rw [<- hit]
  rw [<- e3] at *
  have K12 := K1.trans K2
  have B72 := K2.bl B7 (by simp)
  have c72 : cell X2 ⟨b7, 1, none⟩ = some (.int .i64 ro) := by rw [B72.cell]; rfl
  have lrv : lenV rv = rl.length := by rw [hI.hr.len, sL_len']
  have srv : isSl rv := hI.hr.isSl
  rw [kont_eq]
  simp -implicitDefEqProofs only [go_sem, zS, ↓reduceIte, Za, Zb, Zc, reduceCtorEq, zU, zV, Zf, Zg, Zh, Zi, Zd, Ze, zF, c72, sV, g1, lrv, srv]
  have fin : ∀ (g' : Fr) (Z : Hp), Keep (fun _ => False) X2 Z -> g' 5 = .string ⟨(((List.range i).map (stW F rl)).flatMap linF ++ linF ([wStep, nmF F i, wBy, roW rl ro] ++ aftS (aftW F i F.be))).toArray⟩ -> g' 5 = .string ⟨(((List.range (i + 1)).map (stW F rl)).flatMap linF).toArray⟩ := fun g' Z KZ h5 => by
   rw [h5, List.range_succ, List.map_append, List.map_singleton, flat_snoc]
   unfold stW
   rw [<- hroe]
  by_cases hin : ro <= (rl.length : Int)
  ·have d1 : decide (ro <= (rl.length : Int)) = true := decide_eq_true hin
   have e2 : roW rl ro = rl.getD (ro - 1).toNat [] := by unfold roW; rw [if_pos ⟨hr0, hin⟩]
   obtain ⟨q, hq⟩ : ∃ q : Nat, ro = (q : Int) + 1 := ⟨(ro - 1).toNat, by omega⟩
   have hql : q < rl.length := by omega
   obtain ⟨rb, rg, rc, hre, -, hcell⟩ := (hI.hr.keep K12 (by simp)).cells (by intro e; have := congrArg List.length e; rw [sL_len'] at this; simp only [List.length_nil] at this; omega)
   have hcq := hcell q (by rw [sL_len']; exact hql)
   have hqv : (sL rl)[q]? = some (.string ⟨(roW rl ro).toArray⟩) := by
    rw [e2, hq]
    have : ((q : Int) + 1 - 1).toNat = q := by omega
    rw [this]
    simp [sL, hql]
   rw [hqv] at hcq
   rw [sL_len'] at hre
   cases hre
   have wq : IntKind.i64.wrap (ro - 1) = (q : Int) := by rw [IntWalk.i64_in _ (by omega)]; omega
   have hbq : (0 : Int) <= (q : Int) /\ (q : Int) < (rl.length : Int) := by omega
   simp -implicitDefEqProofs only [go_sem, zS, ↓reduceIte, Za, Zb, Zc, reduceCtorEq, zU, zV, Zf, Zg, Zh, Zi, Zd, Ze, zF, d1, c72, wq, tn_cast, Nat.mul_one, hbq, hcq]
   refine rpT_ok (k := i) (b7 := b7) (ro := roW rl ro) (txt := ((List.range i).map (stW F rl)).flatMap linF) (by simp -implicitDefEqProofs only [go_sem, zS, ↓reduceIte, Za, Zb, Zc, reduceCtorEq, kont_eq, zU, zV, Zf, Zg, Zh, Zi, Zd, Ze, g2]) (by simp -implicitDefEqProofs only [go_sem, zS, ↓reduceIte, Za, Zb, Zc, reduceCtorEq, kont_eq, zU, zV, Zf, Zg, Zh, Zi, Zd, Ze]) (by simp -implicitDefEqProofs only [go_sem, zS, ↓reduceIte, Za, Zb, Zc, reduceCtorEq, kont_eq, zU, zV, Zf, Zg, Zh, Zi, Zd, Ze]) (by simp -implicitDefEqProofs only [go_sem, zS, ↓reduceIte, Za, Zb, Zc, reduceCtorEq, kont_eq, zU, zV, Zf, Zg, Zh, Zi, Zd, Ze]) (by simp -implicitDefEqProofs only [go_sem, zS, ↓reduceIte, Za, Zb, Zc, reduceCtorEq, kont_eq, zU, zV, Zf, Zg, Zh, Zi, Zd, Ze, g5]) (K12.bl hI.B2 (by simp)) B72 (hI.hs.keep0 K12) (hI.hb.keep0 K12) hn (hrw _) hlen hok hbl fun g' Z hf h5 KZ => ?_
   refine ⟨?_, KX.trans (K12.trans KZ)⟩
   refine hI.next (K12.trans KZ) ?_ ?_ ?_
   ·simp -implicitDefEqProofs only [go_sem, zS, ↓reduceIte, Za, Zb, Zc, reduceCtorEq, kont_eq, zU, zV, Zf, Zg, Zh, Zi, Zd, Ze]; rw [hf 1 (by decide)]; simp -implicitDefEqProofs only [go_sem, zS, ↓reduceIte, Za, Zb, Zc, reduceCtorEq, kont_eq, zU, zV, Zf, Zg, Zh, Zi, Zd, Ze]
   ·simp -implicitDefEqProofs only [go_sem, zS, ↓reduceIte, Za, Zb, Zc, reduceCtorEq, kont_eq, zU, zV, Zf, Zg, Zh, Zi, Zd, Ze]; rw [hf 2 (by decide)]; simp -implicitDefEqProofs only [go_sem, zS, ↓reduceIte, Za, Zb, Zc, reduceCtorEq, kont_eq, zU, zV, Zf, Zg, Zh, Zi, Zd, Ze]
   ·simp -implicitDefEqProofs only [go_sem, zS, ↓reduceIte, Za, Zb, Zc, reduceCtorEq, kont_eq, zU, zV, Zf, Zg, Zh, Zi, Zd, Ze]
    have := fin g' Z KZ h5
    first | exact this | (rw [List.range_succ] at this; exact this)
  ·have d1 : decide (ro <= (rl.length : Int)) = false := decide_eq_false hin
   have e2 : roW rl ro = itoaB ro.toNat := by unfold roW; rw [if_neg (by omega)]
   simp -implicitDefEqProofs only [go_sem, zS, ↓reduceIte, Za, Zb, Zc, reduceCtorEq, zU, zV, Zf, Zg, Zh, Zi, Zd, Ze, zF, d1]
   rw [<- e2]
   refine rpT_ok (k := i) (b7 := b7) (ro := roW rl ro) (txt := ((List.range i).map (stW F rl)).flatMap linF) (by simp -implicitDefEqProofs only [go_sem, zS, ↓reduceIte, Za, Zb, Zc, reduceCtorEq, kont_eq, zU, zV, Zf, Zg, Zh, Zi, Zd, Ze, g2]) (by simp -implicitDefEqProofs only [go_sem, zS, ↓reduceIte, Za, Zb, Zc, reduceCtorEq, kont_eq, zU, zV, Zf, Zg, Zh, Zi, Zd, Ze]) (by simp -implicitDefEqProofs only [go_sem, zS, ↓reduceIte, Za, Zb, Zc, reduceCtorEq, kont_eq, zU, zV, Zf, Zg, Zh, Zi, Zd, Ze]) (by simp -implicitDefEqProofs only [go_sem, zS, ↓reduceIte, Za, Zb, Zc, reduceCtorEq, kont_eq, zU, zV, Zf, Zg, Zh, Zi, Zd, Ze]) (by simp -implicitDefEqProofs only [go_sem, zS, ↓reduceIte, Za, Zb, Zc, reduceCtorEq, kont_eq, zU, zV, Zf, Zg, Zh, Zi, Zd, Ze, g5]) (K12.bl hI.B2 (by simp)) B72 (hI.hs.keep0 K12) (hI.hb.keep0 K12) hn (hrw _) hlen hok hbl fun g' Z hf h5 KZ => ?_
   refine ⟨?_, KX.trans (K12.trans KZ)⟩
   refine hI.next (K12.trans KZ) ?_ ?_ ?_
   ·simp -implicitDefEqProofs only [go_sem, zS, ↓reduceIte, Za, Zb, Zc, reduceCtorEq, kont_eq, zU, zV, Zf, Zg, Zh, Zi, Zd, Ze]; rw [hf 1 (by decide)]; simp -implicitDefEqProofs only [go_sem, zS, ↓reduceIte, Za, Zb, Zc, reduceCtorEq, kont_eq, zU, zV, Zf, Zg, Zh, Zi, Zd, Ze]
   ·simp -implicitDefEqProofs only [go_sem, zS, ↓reduceIte, Za, Zb, Zc, reduceCtorEq, kont_eq, zU, zV, Zf, Zg, Zh, Zi, Zd, Ze]; rw [hf 2 (by decide)]; simp -implicitDefEqProofs only [go_sem, zS, ↓reduceIte, Za, Zb, Zc, reduceCtorEq, kont_eq, zU, zV, Zf, Zg, Zh, Zi, Zd, Ze]
   ·simp -implicitDefEqProofs only [go_sem, zS, ↓reduceIte, Za, Zb, Zc, reduceCtorEq, kont_eq, zU, zV, Zf, Zg, Zh, Zi, Zd, Ze]
    have := fin g' Z KZ h5
    first | exact this | (rw [List.range_succ] at this; exact this)
 ·rintro g X gi ⟨hI, KX⟩
  exact hK _ X (hI.next (Keep.refl _ _) (by simp -implicitDefEqProofs only [go_sem, zS, ↓reduceIte, Za, Zb, Zc, reduceCtorEq, kont_eq, zU, zV, Zf, Zg, Zh, Zi, Zd, Ze]) (by simp -implicitDefEqProofs only [go_sem, zS, ↓reduceIte, Za, Zb, Zc, reduceCtorEq, kont_eq, zU, zV, Zf, Zg, Zh, Zi, Zd, Ze]) (by have := hI.f5; simp -implicitDefEqProofs only [go_sem, zS, ↓reduceIte, Za, Zb, Zc, reduceCtorEq, kont_eq, zU, zV, Zf, Zg, Zh, Zi, Zd, Ze] at this ⊢; exact this)) KX
end Go.Mg
namespace Go.Mg
open Go Go.RowKit
set_option linter.all false
set_option maxRecDepth 100000
theorem rpD_ok {P : Program} {ι : Ids} {F : FlN} {rl : List (List UInt8)} {b2 c0 : Nat} {s b d a m rv : Value} {txt : List UInt8} {f : Fr} {A : Hp} {Qb : Ex -> Fr -> Hp -> Prop} (h : RpI F rl b2 s b d a m rv f A txt) (hn : ∀ k, (nmF F k).length <= 100)
  (hok : ∀ x ∈ F.di, okP (F.st.length : Int) x) (ht : txt.length <= 10301 * c0) (hc : c0 + F.di.length <= 70)
  (hK : ∀ g X, RpI F rl b2 s b d a m rv g X (txt ++ (F.di.map (prW wDiffer F)).flatMap linF) -> Keep (fun _ => False) A X -> Qb .n g X) : vc P (c_rpD ι) Qb f A := by
 unfold c_rpD
 have c1 : cell A ⟨b2, 2, none⟩ = some d := by rw [h.B2.cell]; rfl
 have lb : lenV d = F.di.length := h.hd.len
 have f2 := h.f2
 simp -implicitDefEqProofs only [go_sem, zS, ↓reduceIte, Za, Zb, Zc, reduceCtorEq, kont_eq, zU, zV, Zf, Zg, Zh, Zi, Zd, Ze, zF, f2, c1, h.hd.isSl, lb]
 refine vc_range F.di.length [82, 13, 5, 81] rfl rfl (by omega) (by simp -implicitDefEqProofs only [go_sem, zS, ↓reduceIte, Za, Zb, Zc, reduceCtorEq, kont_eq, zU, zV, Zf, Zg, Zh, Zi, Zd, Ze]) (by simp -implicitDefEqProofs only [go_sem, zS, ↓reduceIte, Za, Zb, Zc, reduceCtorEq, kont_eq, zU, zV, Zf, Zg, Zh, Zi, Zd, Ze]) (fun i g X => RpI F rl b2 s b d a m rv g X (txt ++ ((F.di.take i).map (prW wDiffer F)).flatMap linF) /\ Keep (fun _ => False) A X) ⟨h.next (Keep.refl _ _) (by simp -implicitDefEqProofs only [go_sem, zS, ↓reduceIte, Za, Zb, Zc, reduceCtorEq, kont_eq, zU, zV, Zf, Zg, Zh, Zi, Zd, Ze]) (by simp -implicitDefEqProofs only [go_sem, zS, ↓reduceIte, Za, Zb, Zc, reduceCtorEq, kont_eq, zU, zV, Zf, Zg, Zh, Zi, Zd, Ze]) (by simp -implicitDefEqProofs only [go_sem, zS, ↓reduceIte, Za, Zb, Zc, reduceCtorEq, kont_eq, zU, zV, Zf, Zg, Zh, Zi, Zd, Ze]; rw [h.f5]; simp), Keep.refl _ _⟩ ?_ ?_
 ·rintro i g X hi gi gn ⟨hI, KX⟩
  have g2 := hI.f2
  have g5 := hI.f5
  simp -implicitDefEqProofs only [go_sem, zS, ↓reduceIte, Za, Zb, Zc, reduceCtorEq, kont_eq, zU, zV, Zf, Zg, Zh, Zi, Zd, Ze] at gi gn g2 g5
  obtain ⟨pb, po, pc, hbe, -, hld⟩ := hI.hd.elem pE_len hi
  obtain ⟨x, hx⟩ : ∃ x, x = F.di[i] := ⟨_, rfl⟩
  rw [<- hx] at hld
  have hld : ldNA X ⟨pb, po + i * 2, none⟩ 2 = some #[.int .i64 x.1, .int .i64 x.2] := hld
  cases hbe
  have hx2 := hok x (by rw [hx]; exact List.getElem_mem hi)
  unfold okP at hx2
  obtain ⟨j1, hj1⟩ : ∃ j : Nat, x.1 = (j : Int) := ⟨x.1.toNat, by omega⟩
  obtain ⟨j2, hj2⟩ : ∃ j : Nat, x.2 = (j : Int) := ⟨x.2.toNat, by omega⟩
  simp -implicitDefEqProofs only [go_sem, zS, ↓reduceIte, Za, Zb, Zc, reduceCtorEq, zU, zV, Zf, Zg, Zh, Zi, Zd, Ze, zF, gi, tn_cast, hld, ldNO_ptr]
  refine ⟨by omega, ?_⟩
  refine kont_newst [.int .i64 x.1, .int .i64 x.2] (by simp -implicitDefEqProofs only [go_sem, zS, ↓reduceIte, Za, Zb, Zc, reduceCtorEq, kont_eq, zU, zV, Zf, Zg, Zh, Zi, Zd, Ze]) rfl rfl rfl fun X1 b15 e1 z1 B15 K1 => ?_
  have c150 : cell X1 ⟨b15, 0, none⟩ = some (.int .i64 (j1 : Int)) := by rw [B15.cell, hj1]; rfl
  have c151 : cell X1 ⟨b15, 1, none⟩ = some (.int .i64 (j2 : Int)) := by rw [B15.cell, hj2]; rfl
  have hs1 := hI.hs.keep K1 (by simp)
  have cs0 : cell X1 ⟨b2, 0, none⟩ = some s := by rw [(K1.bl hI.B2 (by simp)).cell]; rfl
  obtain ⟨sb, so, sc, he, n1, _, _⟩ := encS_name hs1 (j := j1) (by omega)
  obtain ⟨sb', so', sc', he', n2, _, _⟩ := encS_name hs1 (j := j2) (by omega)
  cases he
  cases he'
  rw [sV] at n1 n2
  have hb1 : (0 : Int) <= (j1 : Int) /\ (j1 : Int) < (F.st.length : Int) := by omega
  have hb2' : (0 : Int) <= (j2 : Int) /\ (j2 : Int) < (F.st.length : Int) := by omega
  have hn1 := hn j1
  have hn2 := hn j2
  have hlen : (txt ++ ((F.di.take i).map (prW wDiffer F)).flatMap linF).length <= 800000 := by
   have := lin_flat (l := (F.di.take i).map (prW wDiffer F)) fun w hw => by
    obtain ⟨y, _, rfl⟩ := List.mem_map.1 hw
    exact prW_sm (by decide) hn y
   rw [List.length_append]
   rw [List.length_map, List.length_take] at this
   omega
  have w1 : (⟨#[100, 105, 102, 102, 101, 114, 32]⟩ : ByteArray) = ⟨(wDiffer ++ [32]).toArray⟩ := rfl
  have w2 : (⟨#[32]⟩ : ByteArray) = ⟨[32].toArray⟩ := rfl
  have w3 : (⟨#[10]⟩ : ByteArray) = ⟨[10].toArray⟩ := rfl
  have hp : prW wDiffer F x = [wDiffer, nmF F j1, nmF F j2] := by unfold prW; rw [hj1, hj2]; rfl
  have tk : F.di.take (i + 1) = F.di.take i ++ [x] := by rw [take_snoc' hi, hx]
  simp -implicitDefEqProofs only [go_sem, zS, ↓reduceIte, Za, Zb, Zc, reduceCtorEq, kont_eq, zU, zV, Zf, Zg, Zh, Zi, Zd, Ze, zF, g2, g5, cs0, c150, c151, tn_cast, hb1, hb2', n1, n2, w1, w2, w3, ba_app]
  have ml : ∀ n : Nat, n <= 900000 -> n <= maxLen := fun n h => by unfold maxLen; omega
  have hw6 : (wDiffer ++ [32]).length <= 7 := by decide
  have hlA : ∀ z : List UInt8, (wDiffer ++ z).length <= 6 + z.length := fun z => by
   have : wDiffer.length <= 6 := by decide
   rw [List.length_append]; omega
  have hbig : (wDiffer ++ [32] ++ nmF F j1 ++ [32] ++ nmF F j2 ++ [10]).length <= 300 := by
   simp only [List.append_assoc]
   refine Nat.le_trans (hlA _) ?_
   simp only [List.length_append, List.length_cons, List.length_nil]
   omega
  have l1 : (wDiffer ++ [32] ++ nmF F j1 ++ [32] ++ nmF F j2 ++ [10]).length = (wDiffer ++ [32] ++ nmF F j1 ++ [32] ++ nmF F j2).length + 1 := by rw [List.length_append]; rfl
  have l2 : (wDiffer ++ [32] ++ nmF F j1 ++ [32] ++ nmF F j2).length = (wDiffer ++ [32] ++ nmF F j1 ++ [32]).length + (nmF F j2).length := by rw [List.length_append]
  have l3 : (wDiffer ++ [32] ++ nmF F j1 ++ [32]).length = (wDiffer ++ [32] ++ nmF F j1).length + 1 := by rw [List.length_append]; rfl
  have l4 : (wDiffer ++ [32] ++ nmF F j1).length = (wDiffer ++ [32]).length + (nmF F j1).length := by rw [List.length_append]
  refine ⟨ml _ (by omega), ml _ (by omega), ml _ (by omega), ml _ (by omega), ml _ (by omega), hI.next K1 (by simp -implicitDefEqProofs only [go_sem, zS, ↓reduceIte, Za, Zb, Zc, reduceCtorEq, kont_eq, zU, zV, Zf, Zg, Zh, Zi, Zd, Ze]) (by simp -implicitDefEqProofs only [go_sem, zS, ↓reduceIte, Za, Zb, Zc, reduceCtorEq, kont_eq, zU, zV, Zf, Zg, Zh, Zi, Zd, Ze]) ?_, KX.trans K1⟩
  simp -implicitDefEqProofs only [go_sem, zS, ↓reduceIte, Za, Zb, Zc, reduceCtorEq, kont_eq, zU, zV, Zf, Zg, Zh, Zi, Zd, Ze]
  rw [tk, List.map_append, List.map_singleton, flat_snoc, hp, linP]
  simp
 ·rintro g X gi ⟨hI, KX⟩
  rw [List.take_of_length_le (Nat.le_refl _)] at hI
  exact hK _ X (hI.next (Keep.refl _ _) (by simp -implicitDefEqProofs only [go_sem, zS, ↓reduceIte, Za, Zb, Zc, reduceCtorEq, kont_eq, zU, zV, Zf, Zg, Zh, Zi, Zd, Ze]) (by simp -implicitDefEqProofs only [go_sem, zS, ↓reduceIte, Za, Zb, Zc, reduceCtorEq, kont_eq, zU, zV, Zf, Zg, Zh, Zi, Zd, Ze]) (by have := hI.f5; simp -implicitDefEqProofs only [go_sem, zS, ↓reduceIte, Za, Zb, Zc, reduceCtorEq, kont_eq, zU, zV, Zf, Zg, Zh, Zi, Zd, Ze] at this ⊢; exact this)) KX
theorem rpE_ok {P : Program} {ι : Ids} {F : FlN} {rl : List (List UInt8)} {b2 c0 : Nat} {s b d a m rv : Value} {txt : List UInt8} {f : Fr} {A : Hp} {Qb : Ex -> Fr -> Hp -> Prop} (h : RpI F rl b2 s b d a m rv f A txt) (hn : ∀ k, (nmF F k).length <= 100)
  (hok : ∀ x ∈ F.sa, okP (F.st.length : Int) x) (ht : txt.length <= 10301 * c0) (hc : c0 + F.sa.length <= 70)
  (hK : ∀ g X, RpI F rl b2 s b d a m rv g X (txt ++ (F.sa.map (prW wSame F)).flatMap linF) -> Keep (fun _ => False) A X -> Qb .n g X) : vc P (c_rpE ι) Qb f A := by
 unfold c_rpE
 have c1 : cell A ⟨b2, 3, none⟩ = some a := by rw [h.B2.cell]; rfl
 have lb : lenV a = F.sa.length := h.ha.len
 have f2 := h.f2
 simp -implicitDefEqProofs only [go_sem, zS, ↓reduceIte, Za, Zb, Zc, reduceCtorEq, kont_eq, zU, zV, Zf, Zg, Zh, Zi, Zd, Ze, zF, f2, c1, h.ha.isSl, lb]
 refine vc_range F.sa.length [110, 15, 5, 109] rfl rfl (by omega) (by simp -implicitDefEqProofs only [go_sem, zS, ↓reduceIte, Za, Zb, Zc, reduceCtorEq, kont_eq, zU, zV, Zf, Zg, Zh, Zi, Zd, Ze]) (by simp -implicitDefEqProofs only [go_sem, zS, ↓reduceIte, Za, Zb, Zc, reduceCtorEq, kont_eq, zU, zV, Zf, Zg, Zh, Zi, Zd, Ze]) (fun i g X => RpI F rl b2 s b d a m rv g X (txt ++ ((F.sa.take i).map (prW wSame F)).flatMap linF) /\ Keep (fun _ => False) A X) ⟨h.next (Keep.refl _ _) (by simp -implicitDefEqProofs only [go_sem, zS, ↓reduceIte, Za, Zb, Zc, reduceCtorEq, kont_eq, zU, zV, Zf, Zg, Zh, Zi, Zd, Ze]) (by simp -implicitDefEqProofs only [go_sem, zS, ↓reduceIte, Za, Zb, Zc, reduceCtorEq, kont_eq, zU, zV, Zf, Zg, Zh, Zi, Zd, Ze]) (by simp -implicitDefEqProofs only [go_sem, zS, ↓reduceIte, Za, Zb, Zc, reduceCtorEq, kont_eq, zU, zV, Zf, Zg, Zh, Zi, Zd, Ze]; rw [h.f5]; simp), Keep.refl _ _⟩ ?_ ?_
 ·rintro i g X hi gi gn ⟨hI, KX⟩
  have g2 := hI.f2
  have g5 := hI.f5
  simp -implicitDefEqProofs only [go_sem, zS, ↓reduceIte, Za, Zb, Zc, reduceCtorEq, kont_eq, zU, zV, Zf, Zg, Zh, Zi, Zd, Ze] at gi gn g2 g5
  obtain ⟨pb, po, pc, hbe, -, hld⟩ := hI.ha.elem pE_len hi
  obtain ⟨x, hx⟩ : ∃ x, x = F.sa[i] := ⟨_, rfl⟩
  rw [<- hx] at hld
  have hld : ldNA X ⟨pb, po + i * 2, none⟩ 2 = some #[.int .i64 x.1, .int .i64 x.2] := hld
  cases hbe
  have hx2 := hok x (by rw [hx]; exact List.getElem_mem hi)
  unfold okP at hx2
  obtain ⟨j1, hj1⟩ : ∃ j : Nat, x.1 = (j : Int) := ⟨x.1.toNat, by omega⟩
  obtain ⟨j2, hj2⟩ : ∃ j : Nat, x.2 = (j : Int) := ⟨x.2.toNat, by omega⟩
  simp -implicitDefEqProofs only [go_sem, zS, ↓reduceIte, Za, Zb, Zc, reduceCtorEq, zU, zV, Zf, Zg, Zh, Zi, Zd, Ze, zF, gi, tn_cast, hld, ldNO_ptr]
  refine ⟨by omega, ?_⟩
  refine kont_newst [.int .i64 x.1, .int .i64 x.2] (by simp -implicitDefEqProofs only [go_sem, zS, ↓reduceIte, Za, Zb, Zc, reduceCtorEq, kont_eq, zU, zV, Zf, Zg, Zh, Zi, Zd, Ze]) rfl rfl rfl fun X1 b15 e1 z1 B15 K1 => ?_
  have c150 : cell X1 ⟨b15, 0, none⟩ = some (.int .i64 (j1 : Int)) := by rw [B15.cell, hj1]; rfl
  have c151 : cell X1 ⟨b15, 1, none⟩ = some (.int .i64 (j2 : Int)) := by rw [B15.cell, hj2]; rfl
  have hs1 := hI.hs.keep K1 (by simp)
  have cs0 : cell X1 ⟨b2, 0, none⟩ = some s := by rw [(K1.bl hI.B2 (by simp)).cell]; rfl
  obtain ⟨sb, so, sc, he, n1, _, _⟩ := encS_name hs1 (j := j1) (by omega)
  obtain ⟨sb', so', sc', he', n2, _, _⟩ := encS_name hs1 (j := j2) (by omega)
  cases he
  cases he'
  rw [sV] at n1 n2
  have hb1 : (0 : Int) <= (j1 : Int) /\ (j1 : Int) < (F.st.length : Int) := by omega
  have hb2' : (0 : Int) <= (j2 : Int) /\ (j2 : Int) < (F.st.length : Int) := by omega
  have hn1 := hn j1
  have hn2 := hn j2
  have hlen : (txt ++ ((F.sa.take i).map (prW wSame F)).flatMap linF).length <= 800000 := by
   have := lin_flat (l := (F.sa.take i).map (prW wSame F)) fun w hw => by
    obtain ⟨y, _, rfl⟩ := List.mem_map.1 hw
    exact prW_sm (by decide) hn y
   rw [List.length_append]
   rw [List.length_map, List.length_take] at this
   omega
  have w1 : (⟨#[115, 97, 109, 101, 32]⟩ : ByteArray) = ⟨(wSame ++ [32]).toArray⟩ := rfl
  have w2 : (⟨#[32]⟩ : ByteArray) = ⟨[32].toArray⟩ := rfl
  have w3 : (⟨#[10]⟩ : ByteArray) = ⟨[10].toArray⟩ := rfl
  have hp : prW wSame F x = [wSame, nmF F j1, nmF F j2] := by unfold prW; rw [hj1, hj2]; rfl
  have tk : F.sa.take (i + 1) = F.sa.take i ++ [x] := by rw [take_snoc' hi, hx]
  simp -implicitDefEqProofs only [go_sem, zS, ↓reduceIte, Za, Zb, Zc, reduceCtorEq, kont_eq, zU, zV, Zf, Zg, Zh, Zi, Zd, Ze, zF, g2, g5, cs0, c150, c151, tn_cast, hb1, hb2', n1, n2, w1, w2, w3, ba_app]
  have ml : ∀ n : Nat, n <= 900000 -> n <= maxLen := fun n h => by unfold maxLen; omega
  have hw6 : (wSame ++ [32]).length <= 7 := by decide
  have hlA : ∀ z : List UInt8, (wSame ++ z).length <= 6 + z.length := fun z => by
   have : wSame.length <= 6 := by decide
   rw [List.length_append]; omega
  have hbig : (wSame ++ [32] ++ nmF F j1 ++ [32] ++ nmF F j2 ++ [10]).length <= 300 := by
   simp only [List.append_assoc]
   refine Nat.le_trans (hlA _) ?_
   simp only [List.length_append, List.length_cons, List.length_nil]
   omega
  have l1 : (wSame ++ [32] ++ nmF F j1 ++ [32] ++ nmF F j2 ++ [10]).length = (wSame ++ [32] ++ nmF F j1 ++ [32] ++ nmF F j2).length + 1 := by rw [List.length_append]; rfl
  have l2 : (wSame ++ [32] ++ nmF F j1 ++ [32] ++ nmF F j2).length = (wSame ++ [32] ++ nmF F j1 ++ [32]).length + (nmF F j2).length := by rw [List.length_append]
  have l3 : (wSame ++ [32] ++ nmF F j1 ++ [32]).length = (wSame ++ [32] ++ nmF F j1).length + 1 := by rw [List.length_append]; rfl
  have l4 : (wSame ++ [32] ++ nmF F j1).length = (wSame ++ [32]).length + (nmF F j1).length := by rw [List.length_append]
  refine ⟨ml _ (by omega), ml _ (by omega), ml _ (by omega), ml _ (by omega), ml _ (by omega), hI.next K1 (by simp -implicitDefEqProofs only [go_sem, zS, ↓reduceIte, Za, Zb, Zc, reduceCtorEq, kont_eq, zU, zV, Zf, Zg, Zh, Zi, Zd, Ze]) (by simp -implicitDefEqProofs only [go_sem, zS, ↓reduceIte, Za, Zb, Zc, reduceCtorEq, kont_eq, zU, zV, Zf, Zg, Zh, Zi, Zd, Ze]) ?_, KX.trans K1⟩
  simp -implicitDefEqProofs only [go_sem, zS, ↓reduceIte, Za, Zb, Zc, reduceCtorEq, kont_eq, zU, zV, Zf, Zg, Zh, Zi, Zd, Ze]
  rw [tk, List.map_append, List.map_singleton, flat_snoc, hp, linP]
  simp
 ·rintro g X gi ⟨hI, KX⟩
  rw [List.take_of_length_le (Nat.le_refl _)] at hI
  exact hK _ X (hI.next (Keep.refl _ _) (by simp -implicitDefEqProofs only [go_sem, zS, ↓reduceIte, Za, Zb, Zc, reduceCtorEq, kont_eq, zU, zV, Zf, Zg, Zh, Zi, Zd, Ze]) (by simp -implicitDefEqProofs only [go_sem, zS, ↓reduceIte, Za, Zb, Zc, reduceCtorEq, kont_eq, zU, zV, Zf, Zg, Zh, Zi, Zd, Ze]) (by have := hI.f5; simp -implicitDefEqProofs only [go_sem, zS, ↓reduceIte, Za, Zb, Zc, reduceCtorEq, kont_eq, zU, zV, Zf, Zg, Zh, Zi, Zd, Ze] at this ⊢; exact this)) KX
theorem mems_r64 (m : UInt64) : mems (bt m) = (List.range 64).filter (bt m) := by
 have h : ∀ u, bt m u = true -> u < 64 := fun u hu => by
  have h1 := Nat.ge_two_pow_of_testBit hu
  have h2 := m.toNat_lt
  exact Classical.byContradiction fun hc => by
   have : 2 ^ 64 <= 2 ^ u := Nat.pow_le_pow_right (by omega) (by omega)
   omega
 unfold mems
 have e : (4096 : Nat) = 64 + 4032 := rfl
 rw [e, List.range_add, List.filter_append]
 have h0 : ((List.range 4032).map (64 + ·)).filter (bt m) = [] := by
  rw [List.filter_eq_nil_iff]
  intro x hx hb
  obtain ⟨y, _, rfl⟩ := List.mem_map.1 hx
  have := h _ hb
  omega
 rw [h0, List.append_nil]
theorem rpN_ok {P : Program} {ι : Ids} {F : FlN} {rl : List (List UInt8)} {b2 b17 : Nat} {s b d a m rv kv : Value} {y : MoN} {txt : List UInt8} {f : Fr} {A : Hp} {Qb : Ex -> Fr -> Hp -> Prop} (hm : RMembSpec P (ι.f 282)) (h : RpI F rl b2 s b d a m rv f A txt) (h17 : f 17 = .pointer (some ⟨b17, 0, none⟩)) (B17 : Bl A b17 [kv, .int .u64 y.2.toNat]) (hn : ∀ k, (nmF F k).length <= 100)
  (hy : ∀ u, bt y.2 u = true -> u < F.st.length) (ht : txt.length <= 800000)
  (hK : ∀ g X, RpI F rl b2 s b d a m rv g X (txt ++ tlJ ((mems (bt y.2)).map (nmF F))) -> Keep (fun _ => False) A X -> Qb .n g X) : vc P (c_rpN ι) Qb f A := by
 unfold c_rpN
 have c1 : cell A ⟨b17, 1, none⟩ = some (.int .u64 y.2.toNat) := by rw [B17.cell]; rfl
 simp -implicitDefEqProofs only [go_sem, zS, ↓reduceIte, Za, Zb, Zc, reduceCtorEq, zU, zV, Zf, Zg, Zh, Zi, Zd, Ze, zF, h17, c1]
 refine (hm y.2 A).mono ?_
 rintro r A1 ⟨O1, -, K1⟩
 rw [<- mems_r64] at O1
 obtain ⟨L, hL⟩ : ∃ L, L = mems (bt y.2) := ⟨_, rfl⟩
 rw [<- hL] at O1
 have hL90 : L.length <= 90 := by rw [hL]; exact mems_64 y.2
 have lr : lenV r = L.length := by rw [O1.sl.len, iN_len]
 have f2 := h.f2
 have f5 := h.f5
 rw [<- hL] at hK
 rw [kont_eq]
 simp -implicitDefEqProofs only [go_sem, zS, ↓reduceIte, Za, Zb, Zc, reduceCtorEq, kont_eq, zU, zV, Zf, Zg, Zh, Zi, Zd, Ze, zF, O1.sl.isSl, lr]
 refine vc_range L.length [152, 19, 5, 151] rfl rfl (by omega) (by simp -implicitDefEqProofs only [go_sem, zS, ↓reduceIte, Za, Zb, Zc, reduceCtorEq, kont_eq, zU, zV, Zf, Zg, Zh, Zi, Zd, Ze]) (by simp -implicitDefEqProofs only [go_sem, zS, ↓reduceIte, Za, Zb, Zc, reduceCtorEq, kont_eq, zU, zV, Zf, Zg, Zh, Zi, Zd, Ze]) (fun i g X => RpI F rl b2 s b d a m rv g X (txt ++ tlJ ((L.take i).map (nmF F))) /\ Keep (fun _ => False) A1 X) ⟨h.next K1 (by simp -implicitDefEqProofs only [go_sem, zS, ↓reduceIte, Za, Zb, Zc, reduceCtorEq, kont_eq, zU, zV, Zf, Zg, Zh, Zi, Zd, Ze]) (by simp -implicitDefEqProofs only [go_sem, zS, ↓reduceIte, Za, Zb, Zc, reduceCtorEq, kont_eq, zU, zV, Zf, Zg, Zh, Zi, Zd, Ze]) (by simp -implicitDefEqProofs only [go_sem, zS, ↓reduceIte, Za, Zb, Zc, reduceCtorEq, kont_eq, zU, zV, Zf, Zg, Zh, Zi, Zd, Ze]; rw [f5]; simp [tlJ]), Keep.refl _ _⟩ ?_ ?_
 ·rintro i g X hi gi gn ⟨hI, KX⟩
  have g2 := hI.f2
  have g5 := hI.f5
  simp -implicitDefEqProofs only [go_sem, zS, ↓reduceIte, Za, Zb, Zc, reduceCtorEq, kont_eq, zU, zV, Zf, Zg, Zh, Zi, Zd, Ze] at gi gn g2 g5
  obtain ⟨u, hu⟩ : ∃ u, u = L[i] := ⟨_, rfl⟩
  have hum : bt y.2 u = true := (mem_mems.1 (show u ∈ mems (bt y.2) by rw [<- hL, hu]; exact List.getElem_mem _)).2
  have hun := hy u hum
  obtain ⟨rb, ro, rc, hre, -, hcell⟩ := (O1.sl.keep KX (by simp)).cells (by intro e; have := congrArg List.length e; rw [iN_len] at this; simp only [List.length_nil] at this; omega)
  have hci := hcell i (by rw [iN_len]; exact hi)
  have hiv : (iN L)[i]? = some (.int .i64 (u : Int)) := by simp [iN, iL, hi, hu]
  rw [hiv] at hci
  rw [iN_len] at hre
  have cs0 : cell X ⟨b2, 0, none⟩ = some s := by rw [hI.B2.cell]; rfl
  obtain ⟨sb, so, sc, he, n1, _, _⟩ := encS_name hI.hs (j := u) hun
  cases he
  rw [sV] at n1
  have hbi : (0 : Int) <= (i : Int) /\ (i : Int) < (L.length : Int) := by omega
  have hbu : (0 : Int) <= (u : Int) /\ (u : Int) < (F.st.length : Int) := by omega
  have hnu := hn u
  have w2 : (⟨#[32]⟩ : ByteArray) = ⟨[32].toArray⟩ := rfl
  have hlt : (tlJ ((L.take i).map (nmF F))).length <= 10000 := by
   have h1 : sumJ ((L.take i).map (nmF F)) <= 100 * ((L.take i).map (nmF F)).length := sumJ_le fun z hz => by
    obtain ⟨q, _, rfl⟩ := List.mem_map.1 hz
    exact hn q
   rw [tlJ_len]
   rw [List.length_map, List.length_take] at *
   omega
  simp -implicitDefEqProofs only [go_sem, zS, ↓reduceIte, Za, Zb, Zc, reduceCtorEq, kont_eq, zU, zV, Zf, Zg, Zh, Zi, Zd, Ze, zF, gi, hre, tn_cast, Nat.mul_one, hbi, hbu, hci, g2, g5, cs0, n1, w2, ba_app]
  have ml : ∀ n : Nat, n <= 900000 -> n <= maxLen := fun n h => by unfold maxLen; omega
  refine ⟨ml _ (by omega), ml _ (by simp only [List.length_append, List.length_cons, List.length_nil]; omega), hI.next (Keep.refl _ _) (by simp -implicitDefEqProofs only [go_sem, zS, ↓reduceIte, Za, Zb, Zc, reduceCtorEq, kont_eq, zU, zV, Zf, Zg, Zh, Zi, Zd, Ze]) (by simp -implicitDefEqProofs only [go_sem, zS, ↓reduceIte, Za, Zb, Zc, reduceCtorEq, kont_eq, zU, zV, Zf, Zg, Zh, Zi, Zd, Ze]) ?_, KX⟩
  simp -implicitDefEqProofs only [go_sem, zS, ↓reduceIte, Za, Zb, Zc, reduceCtorEq, kont_eq, zU, zV, Zf, Zg, Zh, Zi, Zd, Ze]
  rw [take_snoc' hi, List.map_append, List.map_singleton, tlJ_snoc, <- hu]
  simp
 ·rintro g X gi ⟨hI, KX⟩
  rw [List.take_of_length_le (Nat.le_refl _)] at hI
  exact hK _ X (hI.next (Keep.refl _ _) (by simp -implicitDefEqProofs only [go_sem, zS, ↓reduceIte, Za, Zb, Zc, reduceCtorEq, kont_eq, zU, zV, Zf, Zg, Zh, Zi, Zd, Ze]) (by simp -implicitDefEqProofs only [go_sem, zS, ↓reduceIte, Za, Zb, Zc, reduceCtorEq, kont_eq, zU, zV, Zf, Zg, Zh, Zi, Zd, Ze]) (by have := hI.f5; simp -implicitDefEqProofs only [go_sem, zS, ↓reduceIte, Za, Zb, Zc, reduceCtorEq, kont_eq, zU, zV, Zf, Zg, Zh, Zi, Zd, Ze] at this ⊢; exact this)) (K1.trans KX)
end Go.Mg
namespace Go.Mg
open Go Go.RowKit
set_option linter.all false
set_option maxRecDepth 100000
theorem rpM_ok {P : Program} {ι : Ids} {F : FlN} {rl : List (List UInt8)} {b2 c0 : Nat} {s b d a m rv : Value} {txt : List UInt8} {f : Fr} {A : Hp} {Qb : Ex -> Fr -> Hp -> Prop} (hdg : DigSpec P (ι.f 287)) (hmb : RMembSpec P (ι.f 282)) (h : RpI F rl b2 s b d a m rv f A txt) (hn : ∀ k, (nmF F k).length <= 100)
  (hmo : ∀ x ∈ F.mo, 0 <= x.1 /\ x.1 < 10 /\ ∀ u, bt x.2 u = true -> u < F.st.length) (ht : txt.length <= 10301 * c0) (hc : c0 + F.mo.length <= 70)
  (hK : ∀ g X, RpI F rl b2 s b d a m rv g X (txt ++ (F.mo.map (moW F)).flatMap linF) -> Keep (fun _ => False) A X -> Qb .n g X) : vc P (c_rpM ι) Qb f A := by
 unfold c_rpM
 have c1 : cell A ⟨b2, 4, none⟩ = some m := by rw [h.B2.cell]; rfl
 have lb : lenV m = F.mo.length := h.hm.len
 have f2 := h.f2
 simp -implicitDefEqProofs only [go_sem, zS, ↓reduceIte, Za, Zb, Zc, reduceCtorEq, kont_eq, zU, zV, Zf, Zg, Zh, Zi, Zd, Ze, zF, f2, c1, h.hm.isSl, lb]
 refine vc_range F.mo.length [138, 17, 5, 149, 150, 151, 152, 19, 137] rfl rfl (by omega) (by simp -implicitDefEqProofs only [go_sem, zS, ↓reduceIte, Za, Zb, Zc, reduceCtorEq, kont_eq, zU, zV, Zf, Zg, Zh, Zi, Zd, Ze]) (by simp -implicitDefEqProofs only [go_sem, zS, ↓reduceIte, Za, Zb, Zc, reduceCtorEq, kont_eq, zU, zV, Zf, Zg, Zh, Zi, Zd, Ze]) (fun i g X => RpI F rl b2 s b d a m rv g X (txt ++ ((F.mo.take i).map (moW F)).flatMap linF) /\ Keep (fun _ => False) A X) ⟨h.next (Keep.refl _ _) (by simp -implicitDefEqProofs only [go_sem, zS, ↓reduceIte, Za, Zb, Zc, reduceCtorEq, kont_eq, zU, zV, Zf, Zg, Zh, Zi, Zd, Ze]) (by simp -implicitDefEqProofs only [go_sem, zS, ↓reduceIte, Za, Zb, Zc, reduceCtorEq, kont_eq, zU, zV, Zf, Zg, Zh, Zi, Zd, Ze]) (by simp -implicitDefEqProofs only [go_sem, zS, ↓reduceIte, Za, Zb, Zc, reduceCtorEq, kont_eq, zU, zV, Zf, Zg, Zh, Zi, Zd, Ze]; rw [h.f5]; simp), Keep.refl _ _⟩ ?_ ?_
 ·rintro i g X hi gi gn ⟨hI, KX⟩
  have g2 := hI.f2
  have g5 := hI.f5
  have g1 := hI.f1
  simp -implicitDefEqProofs only [go_sem, zS, ↓reduceIte, Za, Zb, Zc, reduceCtorEq, kont_eq, zU, zV, Zf, Zg, Zh, Zi, Zd, Ze] at gi gn g2 g5 g1
  obtain ⟨pb, po, pc, hbe, -, hld⟩ := hI.hm.elem encM_len hi
  obtain ⟨x, hx⟩ : ∃ x, x = F.mo[i] := ⟨_, rfl⟩
  rw [<- hx] at hld
  have hld : ldNA X ⟨pb, po + i * 2, none⟩ 2 = some #[.int .i64 x.1, .int .u64 x.2.toNat] := hld
  cases hbe
  obtain ⟨hx1, hx2, hx3⟩ := hmo x (by rw [hx]; exact List.getElem_mem hi)
  have hK1 : x.1 = ((x.1.toNat : Nat) : Int) := by omega
  simp -implicitDefEqProofs only [go_sem, zS, ↓reduceIte, Za, Zb, Zc, reduceCtorEq, zU, zV, Zf, Zg, Zh, Zi, Zd, Ze, zF, gi, tn_cast, hld, ldNO_ptr]
  refine ⟨by omega, ?_⟩
  refine kont_newst [.int .i64 x.1, .int .u64 x.2.toNat] (by simp -implicitDefEqProofs only [go_sem, zS, ↓reduceIte, Za, Zb, Zc, reduceCtorEq, kont_eq, zU, zV, Zf, Zg, Zh, Zi, Zd, Ze]) rfl rfl rfl fun X1 b17 e1 z1 B17 K1 => ?_
  have c170 : cell X1 ⟨b17, 0, none⟩ = some (.int .i64 x.1) := by rw [B17.cell]; rfl
  simp -implicitDefEqProofs only [go_sem, zS, ↓reduceIte, Za, Zb, Zc, reduceCtorEq, zU, zV, Zf, Zg, Zh, Zi, Zd, Ze, zF, g5, c170]
  rw [hK1]
  refine (hdg x.1.toNat X1 (by omega)).mono ?_
  rintro r X2 ⟨rfl, K2⟩
  have hit : itoaB x.1.toNat = [UInt8.ofNat (48 + x.1.toNat)] := by unfold itoaB; rw [if_pos (by omega)]
  rw [<- hit]
  have hil := (itoaB_len x.1.toNat).2
  have w1 : (⟨#[109, 111, 115, 116, 32]⟩ : ByteArray) = ⟨(wMost ++ [32]).toArray⟩ := rfl
  have w3 : (⟨#[10]⟩ : ByteArray) = ⟨[10].toArray⟩ := rfl
  have hlen : (txt ++ ((F.mo.take i).map (moW F)).flatMap linF).length <= 780000 := by
   have := lin_flat (l := (F.mo.take i).map (moW F)) fun w hw => by
    obtain ⟨z, hz, rfl⟩ := List.mem_map.1 hw
    have hzm := List.mem_of_mem_take hz
    exact moW_sm hn ⟨(hmo z hzm).1, by have := (hmo z hzm).2.1; omega⟩ (mems_64 z.2)
   rw [List.length_append]
   rw [List.length_map, List.length_take] at this
   omega
  have ml : ∀ n : Nat, n <= 900000 -> n <= maxLen := fun n h => by unfold maxLen; omega
  have hwm : (wMost ++ [32]).length = 5 := by decide
  have hA5 : (wMost ++ [32] ++ itoaB x.1.toNat).length = 5 + (itoaB x.1.toNat).length := by rw [List.length_append, hwm]
  rw [kont_eq]
  simp -implicitDefEqProofs only [go_sem, zS, ↓reduceIte, Za, Zb, Zc, reduceCtorEq, zU, zV, Zf, Zg, Zh, Zi, Zd, Ze, zF, sV, w1, ba_app]
  have K12 := K1.trans K2
  have hlt : (tlJ ((mems (bt x.2)).map (nmF F))).length <= 10000 := by
   have h0 := mems_64 x.2
   have h1 : sumJ ((mems (bt x.2)).map (nmF F)) <= 100 * ((mems (bt x.2)).map (nmF F)).length := sumJ_le fun z hz => by
    obtain ⟨q, _, rfl⟩ := List.mem_map.1 hz
    exact hn q
   rw [tlJ_len]
   rw [List.length_map] at *
   omega
  have tk : F.mo.take (i + 1) = F.mo.take i ++ [x] := by rw [take_snoc' hi, hx]
  refine ⟨ml _ (by omega), ml _ (by omega), ?_⟩
  refine rpN_ok (y := x) (b17 := b17) (txt := txt ++ ((F.mo.take i).map (moW F)).flatMap linF ++ (wMost ++ [32] ++ itoaB x.1.toNat)) hmb (hI.next K12 (by simp -implicitDefEqProofs only [go_sem, zS, ↓reduceIte, Za, Zb, Zc, reduceCtorEq, kont_eq, zU, zV, Zf, Zg, Zh, Zi, Zd, Ze]) (by simp -implicitDefEqProofs only [go_sem, zS, ↓reduceIte, Za, Zb, Zc, reduceCtorEq, kont_eq, zU, zV, Zf, Zg, Zh, Zi, Zd, Ze]) (by simp -implicitDefEqProofs only [go_sem, zS, ↓reduceIte, Za, Zb, Zc, reduceCtorEq, kont_eq, zU, zV, Zf, Zg, Zh, Zi, Zd, Ze])) (by simp -implicitDefEqProofs only [go_sem, zS, ↓reduceIte, Za, Zb, Zc, reduceCtorEq, kont_eq, zU, zV, Zf, Zg, Zh, Zi, Zd, Ze]) (K2.bl B17 (by simp)) hn hx3 (by rw [List.length_append]; omega) fun g' Z hI' KZ => ?_
  have g5' := hI'.f5
  simp -implicitDefEqProofs only [go_sem, zS, ↓reduceIte, Za, Zb, Zc, reduceCtorEq, kont_eq, zU, zV, Zf, Zg, Zh, Zi, Zd, Ze, zF, g5', w3, ba_app]
  refine ⟨ml _ (by rw [List.length_append, List.length_append]; omega), hI'.next (Keep.refl _ _) (by simp -implicitDefEqProofs only [go_sem, zS, ↓reduceIte, Za, Zb, Zc, reduceCtorEq, kont_eq, zU, zV, Zf, Zg, Zh, Zi, Zd, Ze]) (by simp -implicitDefEqProofs only [go_sem, zS, ↓reduceIte, Za, Zb, Zc, reduceCtorEq, kont_eq, zU, zV, Zf, Zg, Zh, Zi, Zd, Ze]) ?_, KX.trans (K12.trans KZ)⟩
  simp -implicitDefEqProofs only [go_sem, zS, ↓reduceIte, Za, Zb, Zc, reduceCtorEq, kont_eq, zU, zV, Zf, Zg, Zh, Zi, Zd, Ze]
  rw [tk, List.map_append, List.map_singleton, flat_snoc]
  have : moW F x = wMost :: itoaB x.1.toNat :: (mems (bt x.2)).map (nmF F) := rfl
  rw [this, linM]
  simp
 ·rintro g X gi ⟨hI, KX⟩
  rw [List.take_of_length_le (Nat.le_refl _)] at hI
  exact hK _ X (hI.next (Keep.refl _ _) (by simp -implicitDefEqProofs only [go_sem, zS, ↓reduceIte, Za, Zb, Zc, reduceCtorEq, kont_eq, zU, zV, Zf, Zg, Zh, Zi, Zd, Ze]) (by simp -implicitDefEqProofs only [go_sem, zS, ↓reduceIte, Za, Zb, Zc, reduceCtorEq, kont_eq, zU, zV, Zf, Zg, Zh, Zi, Zd, Ze]) (by have := hI.f5; simp -implicitDefEqProofs only [go_sem, zS, ↓reduceIte, Za, Zb, Zc, reduceCtorEq, kont_eq, zU, zV, Zf, Zg, Zh, Zi, Zd, Ze] at this ⊢; exact this)) KX
def RPrnSpec (P : Program) (k : FuncId) : Prop := ∀ (F : FlN) (rl : List (List UInt8)) (w rv : Value) (H : Hp), RefFl H w F -> SlR H rv (sL rl) -> PrtOk F rl -> rl.length <= 1000 -> (∀ k, k < F.st.length -> 1 <= (F.st.getD k ([], 0)).2 /\ (F.st.getD k ([], 0)).2 < 10) -> (∀ x ∈ F.mo, x.1 < 10) →
 CallsM P k #[w, rv] H fun r H' => r = .string ⟨(prtF F rl).toArray⟩ /\ Keep (fun _ => False) H H'
theorem rprn_ok {P : Program} {ι : Ids} {k : FuncId} (hk : FnIs P k (c_rprn ι) r_rprn 2) (hdg : DigSpec P (ι.f 287)) (hmb : RMembSpec P (ι.f 282)) : RPrnSpec P k := by
 intro F rl w rv H hw hr hO hrl hro hmo
 obtain ⟨Q, hQ⟩ : ∃ Q : Value -> Hp -> Prop, Q = fun r H' => r = .string ⟨(prtF F rl).toArray⟩ /\ Keep (fun _ => False) H H' := ⟨_, rfl⟩
 rw [<- hQ]
 obtain ⟨s, b, d, a, m, rfl, h1, h2, h3, h4, h5⟩ := hw
 refine calls_of_vc hk (args := [_, _]) (by simp) ?_
 unfold c_rprn r_rprn
 simp -implicitDefEqProofs only [go_sem, zS, ↓reduceIte, Za, Zb, Zc, reduceCtorEq, zU, zV, Zf, Zg, Zh, Zi, Zd, Ze, zF]
 refine kont_new fun H1 b2 e1 z1 B1 K1 => ?_
 have B1' : Bl H1 b2 [s, b, d, a, m] := B1
 have e1 := lin_flat (l := (List.range F.st.length).map (stW F rl)) fun w hw => by
  obtain ⟨y, _, rfl⟩ := List.mem_map.1 hw
  exact stW_sm hO.nm hO.rw_ (by have := hO.bl; omega) y
 have e2 := lin_flat (l := F.di.map (prW wDiffer F)) fun w hw => by
  obtain ⟨y, _, rfl⟩ := List.mem_map.1 hw
  exact prW_sm (by decide) hO.nm y
 have e3 := lin_flat (l := F.sa.map (prW wSame F)) fun w hw => by
  obtain ⟨y, _, rfl⟩ := List.mem_map.1 hw
  exact prW_sm (by decide) hO.nm y
 rw [List.length_map, List.length_range] at e1
 rw [List.length_map] at e2 e3
 have q1 := hO.st
 have q2 := hO.dl
 have q3 := hO.sl
 have q4 := hO.ml
 simp -implicitDefEqProofs only [go_sem, zS, ↓reduceIte, Za, Zb, Zc, reduceCtorEq, zU, zV, Zf, Zg, Zh, Zi, Zd, Ze, zF]
 refine rpS_ok (F := F) (rl := rl) (b2 := b2) (s := s) (b := b) (d := d) (a := a) (m := m) (rv := rv) hdg ⟨by simp -implicitDefEqProofs only [go_sem, zS, ↓reduceIte, Za, Zb, Zc, reduceCtorEq, kont_eq, zU, zV, Zf, Zg, Zh, Zi, Zd, Ze], by simp -implicitDefEqProofs only [go_sem, zS, ↓reduceIte, Za, Zb, Zc, reduceCtorEq, kont_eq, zU, zV, Zf, Zg, Zh, Zi, Zd, Ze], by simp -implicitDefEqProofs only [go_sem, zS, ↓reduceIte, Za, Zb, Zc, reduceCtorEq, kont_eq, zU, zV, Zf, Zg, Zh, Zi, Zd, Ze], B1', h1.keep0 K1, h2.keep0 K1, h3.keep0 K1, h4.keep0 K1, h5.keep0 K1, hr.keep K1 (by simp)⟩ hO.nm hO.rw_ hO.be hro hO.st hO.bl hrl fun g X I1 KX => ?_
 simp -implicitDefEqProofs only [go_sem, zS, ↓reduceIte, Za, Zb, Zc, reduceCtorEq, zU, zV, Zf, Zg, Zh, Zi, Zd, Ze, zF]
 refine rpD_ok (c0 := F.st.length) I1 hO.nm hO.di (by omega) (by omega) fun g' X' I2 KX' => ?_
 simp -implicitDefEqProofs only [go_sem, zS, ↓reduceIte, Za, Zb, Zc, reduceCtorEq, zU, zV, Zf, Zg, Zh, Zi, Zd, Ze, zF]
 refine rpE_ok (c0 := F.st.length + F.di.length) I2 hO.nm hO.sa (by rw [List.length_append]; omega) (by omega) fun g2 X2 I3 KX2 => ?_
 simp -implicitDefEqProofs only [go_sem, zS, ↓reduceIte, Za, Zb, Zc, reduceCtorEq, zU, zV, Zf, Zg, Zh, Zi, Zd, Ze, zF]
 refine rpM_ok (c0 := F.st.length + F.di.length + F.sa.length) hdg hmb I3 hO.nm (fun x hx => ⟨(hO.mo x hx).1, hmo x hx, (hO.mo x hx).2.2⟩) (by rw [List.length_append, List.length_append]; omega) (by omega) fun g3 X3 I4 KX3 => ?_
 have n5 := I4.f5
 simp -implicitDefEqProofs only [go_sem, zS, ↓reduceIte, Za, Zb, Zc, reduceCtorEq, kont_eq, zU, zV, Zf, Zg, Zh, Zi, Zd, Ze, zF, n5]
 rw [hQ]
 exact ⟨rfl, (((K1.trans KX).trans KX').trans KX2).trans KX3⟩
end Go.Mg

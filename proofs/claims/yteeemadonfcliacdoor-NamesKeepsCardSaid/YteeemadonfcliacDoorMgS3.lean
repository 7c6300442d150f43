/- strings.Builder: Grow; ToUpper of ASCII text. -/
import Derived.Test.YteeemadonfcliacDoorMgS2
import Derived.Test.YteeemadonfcliacDoorMgMz
open Nat renaming reduceEqDiff → Za, reduceAdd → Zb, reduceMul → Zc, reduceLeDiff → Zd, reduceLT → Ze
open Int renaming reduceBEq → Zf, reduceBNe → Zg, reduceLE → Zh, reduceLT → Zi
namespace Go.Mg
open Go Go.RowKit
set_option linter.all false
set_option maxRecDepth 100000
def c_bgrw (ι : Ids) : S :=
 .seq (.dr (.px (.t 5) .none (.mv (.v 0)) (.px (.t 6) .none (.nil (.t 5)) (.px (.t 7) .none (.fa 1 (.t 6)) (.px (.t 8) .none (.ld (.t 7)) (.px (.t 9) .none (.m (.capl (.t 8))) (.px (.t 10) .none (.ar
 .mul .i64 (.c (.int .i64 2)) (.t 9)) (.px (.t 11) .none (.mv (.v 1)) (.px (.t 12) .none (.ar .add .i64 (.t 10) (.t 11)) (.px (.t 14) .none (.mv (.v 0)) (.px (.t 15) .none (.nil (.t 14)) (.px (.t 16)
 .none (.fa 1 (.t 15)) (.px (.t 17) .none (.ld (.t 16)) (.px (.t 18) .none (.m (.lenl (.t 17))) (.wcons (.t 13) .none (.lib (ι.f 425) [.t 12]) (.px (.t 19) .none (.m (.sls 1 (.t 13) .none (.some (.t
 18)))) (.px (.v 4) .none (.mv (.t 19)) .done)) .wnil))))))))))))))) (.seq (.reg [.p (.t 20) (.mv (.v 4)), .p (.t 21) (.mv (.v 0)), .p (.t 22) (.nil (.t 21)), .p (.t 23) (.fa 1 (.t 22)), .p (.t 24)
 (.ld (.t 23)), .e (.t 25) (.cpy false 1 (.t 20) (.t 24))]) (.reg [.p (.t 26) (.mv (.v 0)), .p (.t 27) (.mv (.v 4)), .p (.t 28) (.nil (.t 26)), .p (.t 29) (.fa 1 (.t 28)), .e .no (.st (.t 29) (.t
 27))]))
def r_bgrw : List RV := []
def c_bGrow (ι : Ids) : S :=
 .seq (.reg [.p (.t 4) (.mv (.v 0)), .e (.t 5) (.call (ι.f 211) [.t 4])]) (.seq (.seq (.reg [.p (.t 6) (.mv (.v 1)), .p (.v 7) (.cm .lss .i64 (.t 6) (.c (.int .i64 0)))]) (.ite (.v 7) (.reg [.p (.t 8)
 (.m (.mif (ι.t 67) (.c (.string ⟨#[115, 116, 114, 105, 110, 103, 115, 46, 66, 117, 105, 108, 100, 101, 114, 46, 71, 114, 111, 119, 58, 32, 110, 101, 103, 97, 116, 105, 118, 101, 32, 99, 111, 117, 110,
 116]⟩)))), .e .no .bad]) .skip)) (.seq (.reg [.p (.t 9) (.mv (.v 0)), .p (.t 10) (.nil (.t 9)), .p (.t 11) (.fa 1 (.t 10)), .p (.t 12) (.ld (.t 11)), .p (.t 13) (.m (.capl (.t 12))), .p (.t 14) (.mv
 (.v 0)), .p (.t 15) (.nil (.t 14)), .p (.t 16) (.fa 1 (.t 15)), .p (.t 17) (.ld (.t 16)), .p (.t 18) (.m (.lenl (.t 17))), .p (.t 19) (.ar .sub .i64 (.t 13) (.t 18)), .p (.t 20) (.mv (.v 1)), .p (.v
 21) (.cm .lss .i64 (.t 19) (.t 20))]) (.ite (.v 21) (.reg [.p (.t 22) (.mv (.v 0)), .p (.t 23) (.mv (.v 1)), .e (.t 24) (.call (ι.f 426) [.t 22, .t 23])]) .skip)))
def r_bGrow : List RV := []
def c_upper (ι : Ids) : S :=
 .seq (.reg [.p (.v 2) (.mv (.c (.string ⟨#[]⟩)))]) (.seq (.reg [.p (.v 3) (.mv (.c (.bool true))), .p (.v 4) (.mv (.c (.bool false)))]) (.seq (.seq (.reg [.p (.v 5) (.mv (.c (.int .i64 0)))]) (.blk 0
 (.loop (.seq (.seq (.reg [.p (.t 11) (.mv (.v 5)), .p (.t 12) (.mv (.v 0)), .p (.t 13) (.m (.lens (.t 12))), .p (.v 14) (.cm .lss .i64 (.t 11) (.t 13))]) (.ite (.v 14) .skip (.exit 0))) (.seq (.blk 1
 (.seq (.reg [.p (.t 17) (.mv (.v 0)), .p (.t 18) (.mv (.v 5)), .p (.t 19) (.m (.ixs (.t 17) (.t 18))), .p (.v 6) (.mv (.t 19))]) (.seq (.seq (.reg [.p (.t 20) (.mv (.v 6)), .p (.v 21) (.cm .geq .u8
 (.t 20) (.c (.int .u8 128)))]) (.ite (.v 21) (.seq (.reg [.p (.v 3) (.mv (.c (.bool false)))]) (.exit 0)) .skip)) (.reg [.p (.t 22) (.mv (.v 4)), .p (.t 23) (.mv (.t 22)), .gp (.t 24) (.t 23) false
 (.mv (.v 6)), .gp (.t 25) (.t 23) false (.cm .leq .u8 (.c (.int .u8 97)) (.t 24)), .gp (.t 26) (.t 23) false (.mv (.t 25)), .gp (.t 27) (.t 26) true (.mv (.v 6)), .gp (.t 28) (.t 26) true (.cm .leq
 .u8 (.t 27) (.c (.int .u8 122))), .gp (.t 29) (.t 23) false (.pick (.t 26) (.t 28) (.c (.bool false))), .p (.t 30) (.pick (.t 23) (.c (.bool true)) (.t 29)), .p (.v 4) (.mv (.t 30))])))) (.reg [.p (.t
 15) (.mv (.v 5)), .p (.t 16) (.ar .add .i64 (.t 15) (.c (.int .i64 1))), .p (.v 5) (.mv (.t 16))])))))) (.seq (.seq (.reg [.p (.v 31) (.mv (.v 3))]) (.ite (.v 31) (.seq (.seq (.reg [.p (.t 32) (.mv
 (.v 4)), .p (.v 33) (.not (.t 32))]) (.ite (.v 33) (.seq (.reg [.p (.t 34) (.mv (.v 0)), .p (.v 2) (.mv (.t 34))]) .ret) .skip)) (.seq (.reg [.e (.v 7) (.new (ι.t 215) #[.pointer .none, .slice .none 0
 0])]) (.seq (.reg [.p (.v 8) (.mv (.c (.int .i64 0)))]) (.seq (.reg [.p (.t 35) (.mv (.v 0)), .p (.t 36) (.m (.lens (.t 35))), .e (.t 37) (.call (ι.f 427) [.v 7, .t 36])]) (.seq (.seq (.reg [.p (.v 9)
 (.mv (.c (.int .i64 0)))]) (.blk 2 (.loop (.seq (.seq (.reg [.p (.t 38) (.mv (.v 9)), .p (.t 39) (.mv (.v 0)), .p (.t 40) (.m (.lens (.t 39))), .p (.v 41) (.cm .lss .i64 (.t 38) (.t 40))]) (.ite (.v
 41) .skip (.exit 2))) (.seq (.blk 3 (.seq (.reg [.p (.t 44) (.mv (.v 0)), .p (.t 45) (.mv (.v 9)), .p (.t 46) (.m (.ixs (.t 44) (.t 45))), .p (.v 10) (.mv (.t 46))]) (.seq (.reg [.p (.t 47) (.mv (.v
 10)), .p (.t 48) (.cm .leq .u8 (.c (.int .u8 97)) (.t 47)), .p (.t 49) (.mv (.t 48)), .gp (.t 50) (.t 49) true (.mv (.v 10)), .gp (.t 51) (.t 49) true (.cm .leq .u8 (.t 50) (.c (.int .u8 122))), .p
 (.v 52) (.pick (.t 49) (.t 51) (.c (.bool false)))]) (.ite (.v 52) (.seq (.reg [.p (.t 53) (.mv (.v 10)), .p (.t 54) (.ar .sub .u8 (.t 53) (.c (.int .u8 32))), .p (.v 10) (.mv (.t 54))]) (.seq (.seq
 (.reg [.p (.t 55) (.mv (.v 8)), .p (.t 56) (.mv (.v 9)), .p (.v 57) (.cm .lss .i64 (.t 55) (.t 56))]) (.ite (.v 57) (.reg [.p (.t 58) (.mv (.v 0)), .p (.t 59) (.mv (.v 8)), .p (.t 60) (.mv (.v 9)), .p
 (.t 61) (.m (.slt (.t 58) (.some (.t 59)) (.some (.t 60)))), .e (.t 62) (.call (ι.f 213) [.v 7, .t 61])]) .skip)) (.seq (.reg [.p (.t 63) (.mv (.v 10)), .e (.t 64) (.call (ι.f 212) [.v 7, .t 63])])
 (.reg [.p (.t 65) (.mv (.v 9)), .p (.t 66) (.ar .add .i64 (.t 65) (.c (.int .i64 1))), .p (.v 8) (.mv (.t 66))])))) .skip)))) (.reg [.p (.t 42) (.mv (.v 9)), .p (.t 43) (.ar .add .i64 (.t 42) (.c
 (.int .i64 1))), .p (.v 9) (.mv (.t 43))])))))) (.seq (.seq (.reg [.p (.t 67) (.mv (.v 8)), .p (.t 68) (.mv (.v 0)), .p (.t 69) (.m (.lens (.t 68))), .p (.v 70) (.cm .lss .i64 (.t 67) (.t 69))]) (.ite
 (.v 70) (.reg [.p (.t 71) (.mv (.v 0)), .p (.t 72) (.mv (.v 8)), .p (.t 73) (.m (.slt (.t 71) (.some (.t 72)) .none)), .e (.t 74) (.call (ι.f 213) [.v 7, .t 73])]) .skip)) (.seq (.reg [.e (.t 75)
 (.call (ι.f 224) [.v 7]), .p (.v 2) (.mv (.t 75))]) .ret))))))) .skip)) (.seq (.reg [.p (.t 76) (.mv (.v 0)), .e (.t 77) (.call (ι.f 428) [.c (.func (.func (ι.f 429)) #[] #[]), .t 76]), .p (.v 2) (.mv
 (.t 77))]) .ret))))
def r_upper : List RV := [.t 2]
def MnzIs (P : Program) (ι : Ids) : Prop := ∃ ps t, LibIs P (ι.f 425) (Extern.BytealgMakeNoZero.makeNoZero ps #[t]) /\ P.underlying t = some (.slice (ι.t 19))
def BRoom (ι : Ids) (H0 : Hp) (H : Hp) (b : Nat) (p : Value) : Prop := ∃ g c, H[b]? = some (.cells #[p, .slice (some ⟨g, 0, none⟩) 0 c] (ι.t 215) (0, 0)) /\ OwS H (.slice (some ⟨g, 0, none⟩) 0 c) [] /\ tagB H g = some (ι.t 19) /\ H0.size <= g
def BgrwSpec (P : Program) (ι : Ids) (k : FuncId) : Prop := ∀ (b n : Nat) (p : Value) (H : Hp), H[b]? = some (.cells #[p, .slice none 0 0] (ι.t 215) (0, 0)) -> n <= 1000000 →
 CallsM P k #[.pointer (some ⟨b, 0, none⟩), .int .i64 (n : Int)] H fun r H' => BRoom ι H H' b p /\ Keep (fun q => q = b) H H'
theorem bgrw_ok {P : Program} {ι : Ids} {k : FuncId} (hk : FnIs P k (c_bgrw ι) r_bgrw 2) (hm : MnzIs P ι) : BgrwSpec P ι k := by
 intro b n p H hb hn
 refine calls_of_vc hk (args := [_, _]) (by simp) ?_
 unfold c_bgrw r_bgrw
 obtain ⟨ps, t, hl, ht⟩ := hm
 have B := bl_of_get hb
 have c1 : cell H ⟨b, 1, none⟩ = some (.slice none 0 0) := by rw [B.cell]; rfl
 have w1 : IntKind.i64.wrap ((2 : Int) * 0) = 0 := by decide
 have w2 : IntKind.i64.wrap ((0 : Int) + (n : Int)) = (n : Int) := by rw [IntWalk.i64_in _ (by omega)]; omega
 simp -implicitDefEqProofs only [go_sem, zS, ↓reduceIte, Za, Zb, Zc, reduceCtorEq]
 refine vc_drk (fun _ => False) ?_
 simp -implicitDefEqProofs only [go_sem, zS, ↓reduceIte, Za, Zb, Zc, reduceCtorEq, zU, zV, Zf, Zg, Zh, Zi, Zd, Ze, zF, c1, w1, w2]
 refine mnz_lib hl ht (by omega) fun cs hcs => ?_
 have hlt := B.lt
 rw [kontK_eq]
 have K1 : Keep (fun _ => False) H (H.push (.cells cs (ι.t 19))) := (Keep.refl _ _).push _
 have Bg : Bl (H.push (.cells cs (ι.t 19))) H.size cs.toList := Bl.new' _ _ _
 have tg : tagB (H.push (.cells cs (ι.t 19))) H.size = some (ι.t 19) := tagB_new _ _ _ _
 have tb : tagB (H.push (.cells cs (ι.t 19))) b = some (ι.t 215) := tagB_keep K1 (by unfold tagB; rw [hb]) (by simp)
 refine ⟨K1, ?_⟩
 have B1 := K1.bl B (by simp)
 have s1 := K1.size
 generalize H.push (.cells cs (ι.t 19)) = H1 at *
 have c1 : cell H1 ⟨b, 1, none⟩ = some (.slice none 0 0) := by rw [B1.cell]; rfl
 have t1 := B1.okSt (o := 1) (by simp)
 simp -implicitDefEqProofs only [go_sem, zS, ↓reduceIte, Za, Zb, Zc, reduceCtorEq, zU, zV, Zf, Zg, Zh, Zi, Zd, Ze, zF, c1, ite_self, Nat.min_self]
 refine ⟨by omega, #[], rfl, ⟨fun x hx => by simp at hx, .inl rfl⟩, ?_⟩
 rw [kont_eq, putH_nil _ _ _ _ rfl]
 simp -implicitDefEqProofs only [go_sem, zS, ↓reduceIte, Za, Zb, Zc, reduceCtorEq, zU, zV, Zf, Zg, Zh, Zi, Zd, Ze, zF, t1]
 rw [kont_eq]
 simp -implicitDefEqProofs only [go_sem, zS, ↓reduceIte, Za, Zb, Zc, reduceCtorEq, kont_eq, zU, zV, Zf, Zg, Zh, Zi, Zd, Ze]
 have B2 := B1.setc 1 (.slice (some ⟨H.size, 0, none⟩) 0 cs.size)
 have K2 : Keep (fun q => q = b) H1 (setc H1 ⟨b, 1, none⟩ (.slice (some ⟨H.size, 0, none⟩) 0 cs.size)) := (Keep.refl _ _).setc _ (.inl rfl)
 refine ⟨⟨H.size, cs.size, get_of_bl B2 (by rw [tagB_setc]; exact tb), ?_, by rw [tagB_setc]; exact tg, Nat.le_refl _⟩, K1.any.trans K2⟩
 exact (OwS.bl (K2.bl Bg (by omega)) rfl (Nat.zero_le _) (by simp) rfl)
def BGrowSpec (P : Program) (ι : Ids) (k : FuncId) : Prop := ∀ (b n : Nat) (H : Hp), H[b]? = some (.cells #[.pointer none, .slice none 0 0] (ι.t 215) (0, 0)) -> n <= 1000000 →
 CallsM P k #[.pointer (some ⟨b, 0, none⟩), .int .i64 (n : Int)] H fun r H' => Bld ι (fun q => q = b \/ H.size <= q) H' b [] /\ Keep (fun q => q = b) H H'
theorem bGrow_ok {P : Program} {ι : Ids} {k : FuncId} (hk : FnIs P k (c_bGrow ι) r_bGrow 2) (hc : BCopySpec P ι (ι.f 211)) (hg : BgrwSpec P ι (ι.f 426)) : BGrowSpec P ι k := by
 intro b n H hb hn
 refine calls_of_vc hk (args := [_, _]) (by simp) ?_
 unfold c_bGrow r_bGrow
 simp -implicitDefEqProofs only [go_sem, zS, ↓reduceIte, Za, Zb, Zc, reduceCtorEq, kont_eq]
 refine (hc b _ _ H hb (.inl rfl)).mono ?_
 rintro r H1 ⟨rfl, g1, K1⟩
 have B1 := bl_of_get g1
 have s1 := K1.size
 have c1 : cell H1 ⟨b, 1, none⟩ = some (.slice none 0 0) := by rw [B1.cell]; rfl
 have w1 : IntKind.i64.wrap ((0 : Int) - 0) = 0 := by decide
 have d1 : decide ((n : Int) < 0) = false := decide_eq_false (by omega)
 simp -implicitDefEqProofs only [go_sem, zS, ↓reduceIte, Za, Zb, Zc, reduceCtorEq, kont_eq, zU, zV, Zf, Zg, Zh, Zi, Zd, Ze, zF, c1, w1, d1]
 refine iteV_dec (fun hlt => ?_) (fun hge => ?_)
 ·refine (hg b n _ H1 g1 hn).mono ?_
  rintro r H2 ⟨⟨g, c, h1, h2, h3, h4⟩, K2⟩
  simp -implicitDefEqProofs only [go_sem, zS, ↓reduceIte, Za, Zb, Zc, reduceCtorEq, kont_eq, zU, zV, Zf, Zg, Zh, Zi, Zd, Ze]
  have hb1 : b < H1.size := (Array.getElem?_eq_some_iff.1 g1).1
  exact ⟨⟨.inl rfl, _, _, h1, .inr rfl, h2, fun q hq => by
   have hq : q = g := hq
   subst hq
   exact ⟨h3, by omega, .inr (by omega)⟩⟩, K1.trans K2⟩
 ·exact ⟨⟨.inl rfl, _, _, g1, .inr rfl, OwS.nil _, fun q hq => hq.elim⟩, K1⟩
theorem ba_sub (l : List UInt8) (a b : Nat) : (⟨l.toArray⟩ : ByteArray).extract a b = ⟨((l.drop a).take (b - a)).toArray⟩ := by
 apply ByteArray.ext
 rw [ByteArray.data_extract]
 simp [List.extract_eq_take_drop]
structure UpC (P : Program) (ι : Ids) : Prop where
 grow : BGrowSpec P ι (ι.f 427)
 ws : BwsSpec P ι (ι.f 213)
 wb : BwbSpec P ι (ι.f 212)
 str : BStrSpec P ι (ι.f 224)
def UpperSpec (P : Program) (k : FuncId) : Prop := ∀ (s : List UInt8) (H : Hp), (∀ c ∈ s, c.toNat < 128) -> s.length <= 1000 -> CallsM P k #[.string ⟨s.toArray⟩] H fun r H' => (∃ t : List UInt8, r = .string ⟨t.toArray⟩) /\ Keep (fun _ => False) H H'
theorem upper_ok {P : Program} {ι : Ids} {k : FuncId} (hk : FnIs P k (c_upper ι) r_upper 1) (c : UpC P ι) : UpperSpec P k := by
 intro s H hs hl
 obtain ⟨Q, hQ⟩ : ∃ Q : Value -> Hp -> Prop, Q = fun r H' => (∃ t : List UInt8, r = .string ⟨t.toArray⟩) /\ Keep (fun _ => False) H H' := ⟨_, rfl⟩
 rw [<- hQ]
 refine calls_of_vc hk (args := [_]) (by simp) ?_
 unfold c_upper r_upper
 simp -implicitDefEqProofs only [go_sem, zS, ↓reduceIte, Za, Zb, Zc, reduceCtorEq, kont_eq, zU, zV, Zf, Zg, Zh, Zi, Zd, Ze, ba_size]
 refine vc_loop [14, 6, 21, 3, 4, 5] rfl (fun n f H' => ∃ i : Nat, i <= s.length /\ n = s.length - i /\ f 5 = .int .i64 i /\ f 3 = .bool true /\ (∃ b, f 4 = .bool b /\ (b = true -> 0 < i)) /\ H' = H) s.length
  ⟨0, by omega, by omega, rfl, rfl, ⟨_, rfl, fun h => by cases h⟩, rfl⟩ ?_
 rintro n g H' ⟨i, hi, rfl, hf5, hf3, ⟨b4, hf4, h4⟩, rfl⟩
 simp -implicitDefEqProofs only [go_sem, zS, ↓reduceIte, Za, Zb, Zc, reduceCtorEq, kont_eq, zU, zV, Zf, Zg, Zh, Zi, Zd, Ze] at hf5 hf3 hf4
 simp -implicitDefEqProofs only [go_sem, zS, ↓reduceIte, Za, Zb, Zc, reduceCtorEq, kont_eq, zU, zV, Zf, Zg, Zh, Zi, Zd, Ze, hf5, hf4, hf3, ba_size]
 refine iteV_dec (fun hlt => ?_) (fun hge => ?_)
 ·have hi2 : i < s.length := by omega
  have hg := ba_get s i hi2
  have hc : (s.getD i 0).toNat < 128 := hs _ (by rw [List.getD_eq_getElem?_getD, List.getElem?_eq_getElem hi2]; exact List.getElem_mem _)
  generalize s.getD i 0 = x at *
  have d1 : decide ((x.toNat : Int) ≥ 128) = false := decide_eq_false (by omega)
  have w1 : IntKind.i64.wrap ((i : Int) + 1) = ((i + 1 : Nat) : Int) := by rw [IntWalk.i64_in _ (by omega)]; omega
  have hb : (0 : Int) <= (i : Int) /\ (i : Int) < (s.length : Int) := by omega
  have he : s.length - (i + 1) < s.length - i := by omega
  cases b4 with
  | true =>
   simp -implicitDefEqProofs only [go_sem, zS, ↓reduceIte, Za, Zb, Zc, reduceCtorEq, kont_eq, zU, zV, Zf, Zg, Zh, Zi, Zd, Ze, hf5, hf4, hf3, hg, d1, w1, hb]
   exact ⟨s.length - (i + 1), he, i + 1, by omega, rfl, rfl, ⟨_, rfl, fun _ => by omega⟩⟩
  | false =>
   by_cases h1 : (97 : Int) <= (x.toNat : Int)
   ·simp -implicitDefEqProofs only [go_sem, zS, ↓reduceIte, Za, Zb, Zc, reduceCtorEq, kont_eq, zU, zV, Zf, Zg, Zh, Zi, Zd, Ze, hf5, hf4, hf3, hg, d1, w1, h1, hb]
    exact ⟨s.length - (i + 1), he, i + 1, by omega, rfl, rfl, ⟨_, rfl, fun _ => by omega⟩⟩
   ·simp -implicitDefEqProofs only [go_sem, zS, ↓reduceIte, Za, Zb, Zc, reduceCtorEq, kont_eq, zU, zV, Zf, Zg, Zh, Zi, Zd, Ze, hf5, hf4, hf3, hg, d1, w1, h1, hb]
    exact ⟨s.length - (i + 1), he, i + 1, by omega, rfl, rfl, ⟨_, rfl, fun _ => by omega⟩⟩
 cases b4 with
 | false =>
  simp -implicitDefEqProofs only [go_sem, zS, ↓reduceIte, Za, Zb, Zc, reduceCtorEq, kont_eq, zU, zV, Zf, Zg, Zh, Zi, Zd, Ze, hf4, hf3]
  rw [hQ]
  exact ⟨⟨s, rfl⟩, Keep.refl _ _⟩
 | true =>
 simp -implicitDefEqProofs only [go_sem, zS, ↓reduceIte, Za, Zb, Zc, reduceCtorEq, zU, zV, Zf, Zg, Zh, Zi, Zd, Ze, hf4, hf3]
 have hN : (H'.push (.cells #[.pointer none, .slice none 0 0] (ι.t 215)))[H'.size]? = some (.cells #[.pointer none, .slice none 0 0] (ι.t 215) (0, 0)) := by simp
 have K1 : Keep (fun _ => False) H' (H'.push (.cells #[.pointer none, .slice none 0 0] (ι.t 215))) := (Keep.refl _ _).push _
 have z1 : (H'.push (.cells #[.pointer none, .slice none 0 0] (ι.t 215))).size = H'.size + 1 := by simp
 generalize H'.push (.cells #[.pointer none, .slice none 0 0] (ι.t 215)) = H1 at *
 refine (c.grow _ s.length H1 hN (by omega)).mono ?_
 rintro r H2 ⟨D2, K2⟩
 have D2 := D2.mono (F' := fun q => H'.size <= q) fun q hq _ => by omega
 have K2 : Keep (fun _ => False) H' H2 := K1.trans' K2 fun q hq e => by omega
 have s2 := K2.size
 rw [kont_eq]
 simp -implicitDefEqProofs only [go_sem, zS, ↓reduceIte, Za, Zb, Zc, reduceCtorEq, kont_eq, zU, zV, Zf, Zg, Zh, Zi, Zd, Ze]
 refine vc_loop [41, 10, 52, 57, 8, 9] rfl (fun n f A => ∃ (i pos : Nat) (l : List UInt8), i <= s.length /\ n = s.length - i /\ f 9 = .int .i64 i /\ f 8 = .int .i64 pos /\ pos <= i /\ l.length = pos /\ Bld ι (fun q => H'.size <= q) A H'.size l /\ Keep (fun _ => False) H' A) s.length
  ⟨0, 0, [], by omega, by omega, rfl, rfl, Nat.le_refl _, rfl, D2, K2⟩ ?_
 rintro n g A ⟨i, pos, l, hi, rfl, hf9, hf8, hpi, hlp, DA, KA⟩
 simp -implicitDefEqProofs only [go_sem, zS, ↓reduceIte, Za, Zb, Zc, reduceCtorEq, kont_eq, zU, zV, Zf, Zg, Zh, Zi, Zd, Ze] at hf9 hf8
 simp -implicitDefEqProofs only [go_sem, zS, ↓reduceIte, Za, Zb, Zc, reduceCtorEq, kont_eq, zU, zV, Zf, Zg, Zh, Zi, Zd, Ze, hf9, hf8, ba_size]
 refine iteV_dec (fun hlt => ?_) (fun hge => ?_)
 ·have hi2 : i < s.length := by omega
  have hg := ba_get s i hi2
  generalize s.getD i 0 = x at *
  have w1 : IntKind.i64.wrap ((i : Int) + 1) = ((i + 1 : Nat) : Int) := by rw [IntWalk.i64_in _ (by omega)]; omega
  have hb : (0 : Int) <= (i : Int) /\ (i : Int) < (s.length : Int) := by omega
  have he : s.length - (i + 1) < s.length - i := by omega
  have nolow : ¬ ((97 : Int) <= (x.toNat : Int) /\ (x.toNat : Int) <= 122) \/ ((97 : Int) <= (x.toNat : Int) /\ (x.toNat : Int) <= 122) := by omega
  rcases nolow with hno | ⟨h1, h2⟩
  ·by_cases h1 : (97 : Int) <= (x.toNat : Int)
   ·have h2 : ¬ (x.toNat : Int) <= 122 := fun h => hno ⟨h1, h⟩
    simp -implicitDefEqProofs only [go_sem, zS, ↓reduceIte, Za, Zb, Zc, reduceCtorEq, kont_eq, zU, zV, Zf, Zg, Zh, Zi, Zd, Ze, hf9, hf8, hg, w1, h1, h2, hb]
    exact ⟨s.length - (i + 1), he, i + 1, pos, l, by omega, rfl, rfl, rfl, by omega, hlp, DA, KA⟩
   ·simp -implicitDefEqProofs only [go_sem, zS, ↓reduceIte, Za, Zb, Zc, reduceCtorEq, kont_eq, zU, zV, Zf, Zg, Zh, Zi, Zd, Ze, hf9, hf8, hg, w1, h1, hb]
    exact ⟨s.length - (i + 1), he, i + 1, pos, l, by omega, rfl, rfl, rfl, by omega, hlp, DA, KA⟩
  ·have hx : IntKind.u8.wrap ((x.toNat : Int) - 32) = ((x - 32).toNat : Int) := by
    have : 97 <= x.toNat -> IntKind.u8.wrap ((x.toNat : Int) - 32) = ((x - 32).toNat : Int) := all8 (p := fun x => 97 <= x.toNat -> IntKind.u8.wrap ((x.toNat : Int) - 32) = ((x - 32).toNat : Int)) (by decide +kernel) x
    exact this (by omega)
   have wb : ∀ (B : Hp) (m : List UInt8), Bld ι (fun q => H'.size <= q) B H'.size m -> m.length = i -> Keep (fun _ => False) H' B -> CallsM P (ι.f 212) #[.pointer (some ⟨H'.size, 0, none⟩), .int .u8 ((x - 32).toNat : Int)] B fun r B' => Bld ι (fun q => H'.size <= q) B' H'.size (m ++ [x - 32]) /\ Keep (fun _ => False) H' B' := fun B m DB hm KB => by
    refine (c.wb _ _ m (x - 32) B DB (by omega)).mono ?_
    rintro r B' ⟨D', K'⟩
    have := KB.size
    exact ⟨D'.mono fun q hq _ => by omega, KB.trans' K' fun q hq e => by omega⟩
   simp -implicitDefEqProofs only [go_sem, zS, ↓reduceIte, Za, Zb, Zc, reduceCtorEq, zU, zV, Zf, Zg, Zh, Zi, Zd, Ze, hf9, hf8, hg, h1, h2, hx, hb]
   refine iteV_dec (fun hp => ?_) (fun hp => ?_)
   ·have e1 := ba_sub s pos i
    have hpl : ((s.drop pos).take (i - pos)).length = i - pos := by simp; omega
    simp only [e1]
    refine ⟨by omega, (c.ws _ _ l ((s.drop pos).take (i - pos)) A DA (by omega)).mono ?_⟩
    rintro r B ⟨DB, KB⟩
    have DB := DB.mono (F' := fun q => H'.size <= q) fun q hq _ => by have := KA.size; omega
    have KB : Keep (fun _ => False) H' B := KA.trans' KB fun q hq e => by omega
    rw [kont_eq]
    simp -implicitDefEqProofs only [go_sem, zS, ↓reduceIte, Za, Zb, Zc, reduceCtorEq, zU, zV, Zf, Zg, Zh, Zi, Zd, Ze, hx]
    refine (wb B _ DB (by rw [List.length_append, hpl]; omega) KB).mono ?_
    rintro r B' ⟨DB', KB'⟩
    rw [kont_eq]
    simp -implicitDefEqProofs only [go_sem, zS, ↓reduceIte, Za, Zb, Zc, reduceCtorEq, kont_eq, zU, zV, Zf, Zg, Zh, Zi, Zd, Ze, hf9, w1]
    exact ⟨s.length - (i + 1), he, i + 1, i + 1, _, by omega, rfl, rfl, rfl, Nat.le_refl _, by rw [List.length_append, List.length_append, hpl]; simp; omega, DB', KB'⟩
   ·refine (wb A _ DA (by omega) KA).mono ?_
    rintro r B' ⟨DB', KB'⟩
    rw [kont_eq]
    simp -implicitDefEqProofs only [go_sem, zS, ↓reduceIte, Za, Zb, Zc, reduceCtorEq, kont_eq, zU, zV, Zf, Zg, Zh, Zi, Zd, Ze, hf9, w1]
    exact ⟨s.length - (i + 1), he, i + 1, i + 1, _, by omega, rfl, rfl, rfl, Nat.le_refl _, by rw [List.length_append]; simp; omega, DB', KB'⟩
 ·have h40 := h4 rfl
  have hil : i = s.length := by omega
  have str : ∀ (B : Hp) (m : List UInt8), Bld ι (fun q => H'.size <= q) B H'.size m -> m.length = s.length -> Keep (fun _ => False) H' B -> CallsM P (ι.f 224) #[.pointer (some ⟨H'.size, 0, none⟩)] B fun r B' => (∃ t : List UInt8, r = .string ⟨t.toArray⟩) /\ Keep (fun _ => False) H' B' := fun B m DB hm KB => by
   refine (c.str _ _ m B DB (by intro e; rw [e] at hm; simp at hm; omega) (by omega)).mono ?_
   rintro r B' ⟨rfl, K'⟩
   exact ⟨⟨m, rfl⟩, KB.trans' K' fun q hq e => by omega⟩
  refine iteV_dec (fun hp => ?_) (fun hp => ?_)
  ·have e1 := ba_sub s pos s.length
   have hpl : ((s.drop pos).take (s.length - pos)).length = s.length - pos := by simp
   simp only [e1]
   refine ⟨by omega, (c.ws _ _ l ((s.drop pos).take (s.length - pos)) A DA (by omega)).mono ?_⟩
   rintro r B ⟨DB, KB⟩
   have DB := DB.mono (F' := fun q => H'.size <= q) fun q hq _ => by have := KA.size; omega
   have KB : Keep (fun _ => False) H' B := KA.trans' KB fun q hq e => by omega
   rw [kont_eq]
   simp -implicitDefEqProofs only [go_sem, zS, ↓reduceIte, Za, Zb, Zc, reduceCtorEq, zU, zV, Zf, Zg, Zh, Zi, Zd, Ze]
   refine (str B _ DB (by rw [List.length_append, hpl]; omega) KB).mono ?_
   rintro r B' ⟨⟨t, rfl⟩, KB'⟩
   rw [kont_eq]
   simp -implicitDefEqProofs only [go_sem, zS, ↓reduceIte, Za, Zb, Zc, reduceCtorEq, kont_eq, zU, zV, Zf, Zg, Zh, Zi, Zd, Ze]
   rw [hQ]
   exact ⟨⟨t, rfl⟩, KB'⟩
  ·refine (str A _ DA (by omega) KA).mono ?_
   rintro r B' ⟨⟨t, rfl⟩, KB'⟩
   rw [kont_eq]
   simp -implicitDefEqProofs only [go_sem, zS, ↓reduceIte, Za, Zb, Zc, reduceCtorEq, kont_eq, zU, zV, Zf, Zg, Zh, Zi, Zd, Ze]
   rw [hQ]
   exact ⟨⟨t, rfl⟩, KB'⟩
end Go.Mg

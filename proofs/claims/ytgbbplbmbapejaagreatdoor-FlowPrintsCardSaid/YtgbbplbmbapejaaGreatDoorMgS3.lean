/- strings.Builder: Grow; ToUpper of ASCII text. -/
import Derived.Test.YtgbbplbmbapejaaGreatDoorMgS2
import Derived.Test.YtgbbplbmbapejaaGreatDoorMgMz
open Nat renaming reduceEqDiff → Za, reduceAdd → Zb, reduceMul → Zc, reduceLeDiff → Zd, reduceLT → Ze
open Int renaming reduceBEq → Zf, reduceBNe → Zg, reduceLE → Zh, reduceLT → Zi
namespace Go.Mg
open Go Go.RowKit
set_option linter.all false
set_option maxRecDepth 100000
def c_bgrw (ι : Ids) : S :=
 .seq (.dr (.px (.t 5) .none (.mv (.v 0)) (.px (.t 6) .none (.nil (.t 5)) (.px (.t 7) .none (.fa 1 (.t 6)) (.px (.t 8) .none (.ld (.t 7)) (.px (.t 9) .none (.m (.capl (.t 8))) (.px (.t 10) .none (.ar
 .mul .i64 (.c (.int .i64 2)) (.t 9)) (.px (.t 11) .none (.mv (.v 1)) (.px (.t 12) .none (.ar .add .i64 (.t 10) (.t 11)) (.px (.t 14) .none (.mv (.v 0)) (.px (.t 15) .none (.nil (.t 14)) (.px (.t 16)
 .none (.fa 1 (.t 15)) (.px (.t 17) .none (.ld (.t 16)) (.px (.t 18) .none (.m (.lenl (.t 17))) (.wcons (.t 13) .none (.lib (ι.f 425) [.t 12]) (.px (.t 19) .none (.m (.sls 1 (.t 13) .none (.some (.t
 18)))) (.px (.v 4) .none (.mv (.t 19)) .done)) .wnil))))))))))))))) (.seq (.reg [.p (.t 20) (.mv (.v 4)), .p (.t 21) (.mv (.v 0)), .p (.t 22) (.nil (.t 21)), .p (.t 23) (.fa 1 (.t 22)), .p (.t 24)
 (.ld (.t 23)), .e (.t 25) (.cpy false 1 (.t 20) (.t 24))]) (.reg [.p (.t 26) (.mv (.v 0)), .p (.t 27) (.mv (.v 4)), .p (.t 28) (.nil (.t 26)), .p (.t 29) (.fa 1 (.t 28)), .e .no (.st (.t 29) (.t
 27))]))
def r_bgrw : List RV := []
def c_bGrow (ι : Ids) : S :=
 .seq (.reg [.p (.t 4) (.mv (.v 0)), .e (.t 5) (.call (ι.f 211) [.t 4])]) (.seq (.seq (.reg [.p (.t 6) (.mv (.v 1)), .p (.v 7) (.cm .lss .i64 (.t 6) (.c (.int .i64 0)))]) (.ite (.v 7) (.reg [.p (.t 8)
 (.m (.mif (ι.t 67) (.c (.string ⟨#[115, 116, 114, 105, 110, 103, 115, 46, 66, 117, 105, 108, 100, 101, 114, 46, 71, 114, 111, 119, 58, 32, 110, 101, 103, 97, 116, 105, 118, 101, 32, 99, 111, 117, 110,
 116]⟩)))), .e .no .bad]) .skip)) (.seq (.reg [.p (.t 9) (.mv (.v 0)), .p (.t 10) (.nil (.t 9)), .p (.t 11) (.fa 1 (.t 10)), .p (.t 12) (.ld (.t 11)), .p (.t 13) (.m (.capl (.t 12))), .p (.t 14) (.mv
 (.v 0)), .p (.t 15) (.nil (.t 14)), .p (.t 16) (.fa 1 (.t 15)), .p (.t 17) (.ld (.t 16)), .p (.t 18) (.m (.lenl (.t 17))), .p (.t 19) (.ar .sub .i64 (.t 13) (.t 18)), .p (.t 20) (.mv (.v 1)), .p (.v
 21) (.cm .lss .i64 (.t 19) (.t 20))]) (.ite (.v 21) (.reg [.p (.t 22) (.mv (.v 0)), .p (.t 23) (.mv (.v 1)), .e (.t 24) (.call (ι.f 426) [.t 22, .t 23])]) .skip)))
def r_bGrow : List RV := []
def MnzIs (P : Program) (ι : Ids) : Prop := ∃ ps t, LibIs P (ι.f 425) (Extern.BytealgMakeNoZero.makeNoZero ps #[t]) /\ P.underlying t = some (.slice (ι.t 19))
def BRoom (ι : Ids) (H0 : Hp) (H : Hp) (b : Nat) (p : Value) : Prop := ∃ g c, H[b]? = some (.cells #[p, .slice (some ⟨g, 0, none⟩) 0 c] (ι.t 215) (0, 0)) /\ OwS H (.slice (some ⟨g, 0, none⟩) 0 c) [] /\ tagB H g = some (ι.t 19) /\ H0.size <= g
def BgrwSpec (P : Program) (ι : Ids) (k : FuncId) : Prop := ∀ (b n : Nat) (p : Value) (H : Hp), H[b]? = some (.cells #[p, .slice none 0 0] (ι.t 215) (0, 0)) -> n <= 1000000 →
 CallsM P k #[.pointer (some ⟨b, 0, none⟩), .int .i64 (n : Int)] H fun r H' => BRoom ι H H' b p /\ Keep (fun q => q = b) H H'
theorem bgrw_ok {P : Program} {ι : Ids} {k : FuncId} (hk : FnIs P k (c_bgrw ι) r_bgrw 2) (hm : MnzIs P ι) : BgrwSpec P ι k := by
 intro b n p H hb hn
 refine calls_of_vc hk (args := [_, _]) (by simp) ?_
 unfold c_bgrw r_bgrw
 obtain ⟨ps, t, hl, ht⟩ := hm
 have B := bl_of_get hb
 have c1 : cell H ⟨b, 1, none⟩ = some (.slice none 0 0) := by rw [B.cell]; rfl
 have w1 : IntKind.i64.wrap ((2 : Int) * 0) = 0 := by decide
 have w2 : IntKind.i64.wrap ((0 : Int) + (n : Int)) = (n : Int) := by rw [IntWalk.i64_in _ (by omega)]; omega
 simp -implicitDefEqProofs only [go_sem, zS, ↓reduceIte, Za, Zb, Zc, reduceCtorEq]
 refine vc_drk (fun _ => False) ?_
 simp -implicitDefEqProofs only [go_sem, zS, ↓reduceIte, Za, Zb, Zc, reduceCtorEq, zU, zV, Zf, Zg, Zh, Zi, Zd, Ze, zF, c1, w1, w2]
 refine mnz_lib hl ht (by omega) fun cs hcs => ?_
 have hlt := B.lt
 rw [kontK_eq]
 have K1 : Keep (fun _ => False) H (H.push (.cells cs (ι.t 19))) := (Keep.refl _ _).push _
 have Bg : Bl (H.push (.cells cs (ι.t 19))) H.size cs.toList := Bl.new' _ _ _
 have tg : tagB (H.push (.cells cs (ι.t 19))) H.size = some (ι.t 19) := tagB_new _ _ _ _
 have tb : tagB (H.push (.cells cs (ι.t 19))) b = some (ι.t 215) := tagB_keep K1 (by unfold tagB; rw [hb]) (by simp)
 refine ⟨K1, ?_⟩
 have B1 := K1.bl B (by simp)
 have s1 := K1.size
 generalize H.push (.cells cs (ι.t 19)) = H1 at *
 have c1 : cell H1 ⟨b, 1, none⟩ = some (.slice none 0 0) := by rw [B1.cell]; rfl
 have t1 := B1.okSt (o := 1) (by simp)
 simp -implicitDefEqProofs only [go_sem, zS, ↓reduceIte, Za, Zb, Zc, reduceCtorEq, zU, zV, Zf, Zg, Zh, Zi, Zd, Ze, zF, c1, ite_self, Nat.min_self]
 refine ⟨by omega, #[], rfl, ⟨fun x hx => by simp at hx, .inl rfl⟩, ?_⟩
 rw [kont_eq, putH_nil _ _ _ _ rfl]
 simp -implicitDefEqProofs only [go_sem, zS, ↓reduceIte, Za, Zb, Zc, reduceCtorEq, zU, zV, Zf, Zg, Zh, Zi, Zd, Ze, zF, t1]
 rw [kont_eq]
 simp -implicitDefEqProofs only [go_sem, zS, ↓reduceIte, Za, Zb, Zc, reduceCtorEq, kont_eq, zU, zV, Zf, Zg, Zh, Zi, Zd, Ze]
 have B2 := B1.setc 1 (.slice (some ⟨H.size, 0, none⟩) 0 cs.size)
 have K2 : Keep (fun q => q = b) H1 (setc H1 ⟨b, 1, none⟩ (.slice (some ⟨H.size, 0, none⟩) 0 cs.size)) := (Keep.refl _ _).setc _ (.inl rfl)
 refine ⟨⟨H.size, cs.size, get_of_bl B2 (by rw [tagB_setc]; exact tb), ?_, by rw [tagB_setc]; exact tg, Nat.le_refl _⟩, K1.any.trans K2⟩
 exact (OwS.bl (K2.bl Bg (by omega)) rfl (Nat.zero_le _) (by simp) rfl)
def BGrowSpec (P : Program) (ι : Ids) (k : FuncId) : Prop := ∀ (b n : Nat) (H : Hp), H[b]? = some (.cells #[.pointer none, .slice none 0 0] (ι.t 215) (0, 0)) -> n <= 1000000 →
 CallsM P k #[.pointer (some ⟨b, 0, none⟩), .int .i64 (n : Int)] H fun r H' => Bld ι (fun q => q = b \/ H.size <= q) H' b [] /\ Keep (fun q => q = b) H H'
theorem bGrow_ok {P : Program} {ι : Ids} {k : FuncId} (hk : FnIs P k (c_bGrow ι) r_bGrow 2) (hc : BCopySpec P ι (ι.f 211)) (hg : BgrwSpec P ι (ι.f 426)) : BGrowSpec P ι k := by
 intro b n H hb hn
 refine calls_of_vc hk (args := [_, _]) (by simp) ?_
 unfold c_bGrow r_bGrow
 simp -implicitDefEqProofs only [go_sem, zS, ↓reduceIte, Za, Zb, Zc, reduceCtorEq, kont_eq]
 refine (hc b _ _ H hb (.inl rfl)).mono ?_
 rintro r H1 ⟨rfl, g1, K1⟩
 have B1 := bl_of_get g1
 have s1 := K1.size
 have c1 : cell H1 ⟨b, 1, none⟩ = some (.slice none 0 0) := by rw [B1.cell]; rfl
 have w1 : IntKind.i64.wrap ((0 : Int) - 0) = 0 := by decide
 have d1 : decide ((n : Int) < 0) = false := decide_eq_false (by omega)
 simp -implicitDefEqProofs only [go_sem, zS, ↓reduceIte, Za, Zb, Zc, reduceCtorEq, kont_eq, zU, zV, Zf, Zg, Zh, Zi, Zd, Ze, zF, c1, w1, d1]
 refine iteV_dec (fun hlt => ?_) (fun hge => ?_)
 ·refine (hg b n _ H1 g1 hn).mono ?_
  rintro r H2 ⟨⟨g, c, h1, h2, h3, h4⟩, K2⟩
  simp -implicitDefEqProofs only [go_sem, zS, ↓reduceIte, Za, Zb, Zc, reduceCtorEq, kont_eq, zU, zV, Zf, Zg, Zh, Zi, Zd, Ze]
  have hb1 : b < H1.size := (Array.getElem?_eq_some_iff.1 g1).1
  exact ⟨⟨.inl rfl, _, _, h1, .inr rfl, h2, fun q hq => by
   have hq : q = g := hq
   subst hq
   exact ⟨h3, by omega, .inr (by omega)⟩⟩, K1.trans K2⟩
 ·exact ⟨⟨.inl rfl, _, _, g1, .inr rfl, OwS.nil _, fun q hq => hq.elim⟩, K1⟩
end Go.Mg

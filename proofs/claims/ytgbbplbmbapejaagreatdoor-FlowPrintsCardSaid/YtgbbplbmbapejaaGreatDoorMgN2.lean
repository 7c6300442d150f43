/- names: tables. -/
import Derived.Test.YtgbbplbmbapejaaGreatDoorMgN1
open Nat renaming reduceEqDiff → Za, reduceAdd → Zb, reduceMul → Zc
namespace Go.Mg
open Go Go.RowKit
set_option linter.all false
set_option maxRecDepth 100000
def c_sclone (ι : Ids) : S :=
 .seq (.reg [.p (.v 2) (.mv (.c (.slice .none 0 0)))]) (.seq (.seq (.reg [.p (.t 3) (.mv (.v 0)), .p (.v 4) (.m (.eqn .sl false (.t 3)))]) (.ite (.v 4) (.seq (.reg [.p (.v 2) (.mv (.c (.slice .none 0
 0)))]) .ret) .skip)) (.seq (.reg [.e (.t 5) (.bldF (ι.t 67) 1 0 []), .p (.t 6) (.mv (.v 0)), .e (.t 7) (.app false (ι.t 67) 1 16 #[.string ⟨#[]⟩] (.t 5) (.t 6)), .p (.v 2) (.mv (.t 7))]) .ret))
def r_sclone : List RV := [.t 2]
def c_mclone (ι : Ids) : S :=
 .seq (.reg [.p (.v 2) (.mv (.c (.map .none)))]) (.seq (.seq (.reg [.p (.t 3) (.mv (.v 0)), .p (.v 4) (.m (.eqn .mp false (.t 3)))]) (.ite (.v 4) (.seq (.reg [.p (.v 2) (.mv (.c (.map .none)))]) .ret)
 .skip)) (.seq (.reg [.p (.t 5) (.mv (.v 0)), .p (.t 6) (.m (.mif (ι.t 80) (.t 5))), .e (.t 7) (.lib (ι.f 79) [.t 6]), .p (.t 8) (.m (.tas (ι.t 80) (.t 7))), .p (.v 2) (.mv (.t 8))]) .ret))
def r_mclone : List RV := [.t 2]
def c_nnew (ι : Ids) : S :=
 .seq (.reg [.p (.v 0) (.mv (.c (.pointer .none)))]) (.seq (.reg [.p (.t 1) (.m (.bld #[.slice .none 0 0, .map .none] [])), .e (.t 2) (.box (ι.t 82) (.t 1)), .p (.v 0) (.mv (.t 2))]) .ret)
def r_nnew : List RV := [.t 0]
def c_nadd (ι : Ids) : S :=
 .seq (.reg [.p (.v 6) (.mv (.c (.pointer .none))), .p (.v 7) (.mv (.c (.int .i64 0))), .p (.v 8) (.mv (.c (.int .i64 0)))]) (.seq (.blk 0 (.seq (.reg [.p (.t 11) (.mv (.v 0)), .p (.t 12) (.m (.eqn
 .ptr false (.t 11))), .p (.v 10) (.mv (.t 12))]) (.ite (.v 10) (.seq (.reg [.p (.v 6) (.mv (.c (.pointer .none))), .p (.v 7) (.mv (.c (.int .i64 0))), .p (.v 8) (.mv (.c (.int .i64 1)))]) .ret) (.seq
 (.reg [.p (.t 14) (.mv (.v 1)), .e (.t 15) (.call (ι.f 75) [.t 14]), .p (.t 16) (.not (.t 15)), .p (.v 13) (.mv (.t 16))]) (.ite (.v 13) (.seq (.reg [.p (.v 6) (.mv (.c (.pointer .none))), .p (.v 7)
 (.mv (.c (.int .i64 0))), .p (.v 8) (.mv (.c (.int .i64 9)))]) .ret) (.seq (.reg [.p (.t 18) (.mv (.v 0)), .p (.t 19) (.nil (.t 18)), .p (.t 20) (.fa 1 (.t 19)), .p (.t 21) (.ld (.t 20)), .p (.t 22)
 (.mv (.v 1)), .p (.t 23) (.m (.lks (.int .i64 0) false (.t 21) (.t 22))), .p (.t 24) (.cm .gtr .i64 (.t 23) (.c (.int .i64 0))), .p (.v 17) (.mv (.t 24))]) (.ite (.v 17) (.seq (.reg [.p (.v 6) (.mv
 (.c (.pointer .none))), .p (.v 7) (.mv (.c (.int .i64 0))), .p (.v 8) (.mv (.c (.int .i64 5)))]) .ret) (.seq (.reg [.p (.t 26) (.mv (.v 0)), .p (.t 27) (.nil (.t 26)), .p (.t 28) (.fa 0 (.t 27)), .p
 (.t 29) (.ld (.t 28)), .p (.t 30) (.m (.lenl (.t 29))), .p (.t 31) (.mv (.v 2)), .p (.t 32) (.cm .geq .i64 (.t 30) (.t 31)), .p (.t 33) (.mv (.t 32)), .gp (.t 34) (.t 33) false (.mv (.v 0)), .gp (.t
 35) (.t 33) false (.nil (.t 34)), .gp (.t 36) (.t 33) false (.fa 0 (.t 35)), .gp (.t 37) (.t 33) false (.ld (.t 36)), .gp (.t 38) (.t 33) false (.m (.lenl (.t 37))), .gp (.t 39) (.t 33) false (.cm
 .geq .i64 (.t 38) (.c (.int .i64 256))), .p (.t 40) (.pick (.t 33) (.c (.bool true)) (.t 39)), .p (.v 25) (.mv (.t 40))]) (.ite (.v 25) (.seq (.reg [.p (.v 6) (.mv (.c (.pointer .none))), .p (.v 7)
 (.mv (.c (.int .i64 0))), .p (.v 8) (.mv (.c (.int .i64 14)))]) .ret) .skip))))))))) (.seq (.dr (.px (.t 41) .none (.mv (.v 0)) (.px (.t 42) .none (.nil (.t 41)) (.px (.t 43) .none (.fa 0 (.t 42))
 (.px (.t 44) .none (.ld (.t 43)) (.px (.t 46) .none (.mv (.v 1)) (.px (.t 49) .none (.mv (.v 0)) (.px (.t 50) .none (.nil (.t 49)) (.px (.t 51) .none (.fa 1 (.t 50)) (.px (.t 52) .none (.ld (.t 51))
 (.wcons (.t 45) .none (.call (ι.f 78) [.t 44]) (.wcons (.t 47) .none (.bldF (ι.t 67) 1 1 [.t 46]) (.wcons (.t 48) .none (.app false (ι.t 67) 1 16 #[.string ⟨#[]⟩] (.t 45) (.t 47)) (.wcons (.t 53)
 .none (.call (ι.f 81) [.t 52]) (.px (.t 54) .none (.m (.bld #[.slice .none 0 0, .map .none] [(0, (1, .t 48)), (1, (1, .t 53))])) (.wcons (.t 55) .none (.box (ι.t 82) (.t 54)) (.px (.v 9) .none (.mv
 (.t 55)) .done) .wnil)) .wnil) .wnil) .wnil) (.wcons (.t 47) .none (.bldF (ι.t 67) 1 1 [.t 46]) (.wcons (.t 45) .none (.call (ι.f 78) [.t 44]) (.wcons (.t 48) .none (.app false (ι.t 67) 1 16 #[.string
 ⟨#[]⟩] (.t 45) (.t 47)) (.wcons (.t 53) .none (.call (ι.f 81) [.t 52]) (.px (.t 54) .none (.m (.bld #[.slice .none 0 0, .map .none] [(0, (1, .t 48)), (1, (1, .t 53))])) (.wcons (.t 55) .none (.box
 (ι.t 82) (.t 54)) (.px (.v 9) .none (.mv (.t 55)) .done) .wnil)) .wnil) .wnil) .wnil) .wnil)))))))))))) (.seq (.seq (.reg [.p (.t 56) (.mv (.v 9)), .p (.t 57) (.nil (.t 56)), .p (.t 58) (.fa 1 (.t
 57)), .p (.t 59) (.ld (.t 58)), .p (.v 60) (.m (.eqn .mp false (.t 59)))]) (.ite (.v 60) (.reg [.p (.t 61) (.mv (.v 9)), .e (.t 62) .mkm, .p (.t 63) (.nil (.t 61)), .p (.t 64) (.fa 1 (.t 63)), .e .no
 (.st (.t 64) (.t 62))]) .skip)) (.seq (.reg [.p (.t 65) (.mv (.v 9)), .p (.t 66) (.nil (.t 65)), .p (.t 67) (.fa 1 (.t 66)), .p (.t 68) (.ld (.t 67)), .p (.t 69) (.mv (.v 1)), .p (.t 70) (.mv (.v 9)),
 .p (.t 71) (.nil (.t 70)), .p (.t 72) (.fa 0 (.t 71)), .p (.t 73) (.ld (.t 72)), .p (.t 74) (.m (.lenl (.t 73))), .e .no (.mup (.t 68) (.t 69) (.t 74))]) (.seq (.reg [.p (.t 75) (.mv (.v 9)), .p (.t
 76) (.mv (.v 9)), .p (.t 77) (.nil (.t 76)), .p (.t 78) (.fa 0 (.t 77)), .p (.t 79) (.ld (.t 78)), .p (.t 80) (.m (.lenl (.t 79))), .p (.v 6) (.mv (.t 75)), .p (.v 7) (.mv (.t 80)), .p (.v 8) (.mv (.c
 (.int .i64 0)))]) .ret)))))
def r_nadd : List RV := [.t 6, .t 7, .t 8]
def c_nlen (ι : Ids) : S :=
 .seq (.reg [.p (.v 2) (.mv (.c (.int .i64 0)))]) (.seq (.seq (.reg [.p (.t 3) (.mv (.v 0)), .p (.v 4) (.m (.eqn .ptr false (.t 3)))]) (.ite (.v 4) (.seq (.reg [.p (.v 2) (.mv (.c (.int .i64 0)))])
 .ret) .skip)) (.seq (.reg [.p (.t 5) (.mv (.v 0)), .p (.t 6) (.nil (.t 5)), .p (.t 7) (.fa 0 (.t 6)), .p (.t 8) (.ld (.t 7)), .p (.t 9) (.m (.lenl (.t 8))), .p (.v 2) (.mv (.t 9))]) .ret))
def r_nlen : List RV := [.t 2]
def c_nname (ι : Ids) : S :=
 .seq (.reg [.p (.v 4) (.mv (.c (.string ⟨#[]⟩))), .p (.v 5) (.mv (.c (.bool false)))]) (.seq (.seq (.reg [.p (.t 6) (.mv (.v 1)), .p (.t 7) (.cm .lss .i64 (.t 6) (.c (.int .i64 1))), .p (.t 8) (.mv
 (.t 7)), .gp (.t 9) (.t 8) false (.mv (.v 1)), .gp (.t 10) (.t 8) false (.mv (.v 0)), .ge (.t 11) (.t 8) false (.call (ι.f 85) [.t 10]), .gp (.t 12) (.t 8) false (.cm .gtr .i64 (.t 9) (.t 11)), .p (.v
 13) (.pick (.t 8) (.c (.bool true)) (.t 12))]) (.ite (.v 13) (.seq (.reg [.p (.v 4) (.mv (.c (.string ⟨#[]⟩))), .p (.v 5) (.mv (.c (.bool false)))]) .ret) .skip)) (.seq (.reg [.p (.t 14) (.mv (.v 0)),
 .p (.t 15) (.nil (.t 14)), .p (.t 16) (.fa 0 (.t 15)), .p (.t 17) (.ld (.t 16)), .p (.t 18) (.mv (.v 1)), .p (.t 19) (.ar .sub .i64 (.t 18) (.c (.int .i64 1))), .p (.t 20) (.is 1 (.t 17) (.t 19)), .p
 (.t 21) (.ld (.t 20)), .p (.v 4) (.mv (.t 21)), .p (.v 5) (.mv (.c (.bool true)))]) .ret))
def r_nname : List RV := [.t 4, .t 5]
theorem sL_all1 (l : List (List UInt8)) : all1 (sL l).toArray := by
 intro x hx
 simp [sL] at hx
 obtain ⟨y, _, rfl⟩ := hx; rfl
theorem sL_app (a b : List (List UInt8)) : sL (a ++ b) = sL a ++ sL b := by simp [sL]
def Ents : List MapEntry -> List (List UInt8) -> Nat -> Prop
 | [], [], _ => True
 | e :: es, s :: l, k => e.key = sV s /\ e.val = .int .i64 ((k + 1 : Nat) : Int) /\ Ents es l (k + 1)
 | _, _, _ => False
theorem Ents.keys : ∀ {es : List MapEntry} {l : List (List UInt8)} {k : Nat}, Ents es l k -> ∀ e ∈ es, isS e.key
 | [], [], _, _, _, h => by cases h
 | e :: es, s :: l, k, h, x, hx => by
  rcases List.mem_cons.1 hx with rfl | hx
  ·rw [h.1]; trivial
  ·exact Ents.keys h.2.2 x hx
 | [], _ :: _, _, h, _, _ => h.elim
 | _ :: _, [], _, h, _, _ => h.elim
theorem Ents.find : ∀ {es : List MapEntry} {l : List (List UInt8)} {k : Nat}, Ents es l k -> ∀ s : List UInt8, findE ⟨s.toArray⟩ es = (posS l s).map fun i => .int .i64 ((k + i + 1 : Nat) : Int)
 | [], [], _, _, s => rfl
 | e :: es, x :: l, k, h, s => by
  have ih := Ents.find h.2.2 s
  have hp : posS (x :: l) s = if x = s then some 0 else (posS l s).map (· + 1) := by
   unfold posS
   rw [List.findIdx?_cons]
   by_cases e : x = s
   ·subst e; simp
   ·simp [e]
  rw [hp]
  unfold findE at ih ⊢
  simp only [List.find?]
  have hk : ((⟨s.toArray⟩ : ByteArray) == e.key.s) = decide (s = x) := by rw [h.1]; exact ba_beq s x
  rw [hk]
  by_cases e1 : s = x
  ·subst e1
   simp only [decide_true, if_true, Option.map_some, h.2.1, Nat.add_zero]
  ·have e2 : ¬ x = s := fun h => e1 h.symm
   simp only [decide_eq_false e1, if_neg e2]
   rw [ih]
   cases posS l s with
   | none => rfl
   | some i => simp only [Option.map_some]; congr 3; omega
 | [], _ :: _, _, h, _ => h.elim
 | _ :: _, [], _, h, _ => h.elim
theorem Ents.none : ∀ {es : List MapEntry} {l : List (List UInt8)} {k : Nat}, Ents es l k -> ∀ s : List UInt8, s ∉ l -> ∀ e ∈ es, isS e.key /\ ((⟨s.toArray⟩ : ByteArray) == e.key.s) = false
 | [], [], _, _, _, _, _, h => by cases h
 | e :: es, x :: l, k, h, s, hs, y, hy => by
  rcases List.mem_cons.1 hy with rfl | hy
  ·refine ⟨by rw [h.1]; trivial, ?_⟩
   rw [h.1]
   show ((⟨s.toArray⟩ : ByteArray) == ⟨x.toArray⟩) = false
   rw [ba_beq, decide_eq_false]
   rintro rfl; exact hs (by simp)
  ·exact Ents.none h.2.2 s (fun hm => hs (by simp [hm])) y hy
 | [], _ :: _, _, h, _, _, _, _ => h.elim
 | _ :: _, [], _, h, _, _, _, _ => h.elim
theorem Ents.push : ∀ {es : List MapEntry} {l : List (List UInt8)} {k : Nat}, Ents es l k -> ∀ (s : List UInt8) (c : Nat), Ents (es ++ [⟨sV s, .int .i64 ((k + l.length + 1 : Nat) : Int), c⟩]) (l ++ [s]) k
 | [], [], k, _, s, c => ⟨rfl, by simp, trivial⟩
 | e :: es, x :: l, k, h, s, c => by
  refine ⟨h.1, h.2.1, ?_⟩
  have := Ents.push h.2.2 s c
  have e : k + 1 + l.length = k + (x :: l).length := by simp; omega
  rw [e] at this; exact this
 | [], _ :: _, _, h, _, _ => h.elim
 | _ :: _, [], _, h, _, _ => h.elim
def MapB (H : Hp) (v : Value) (l : List (List UInt8)) : Prop := (v = .map Option.none /\ l = []) \/ ∃ b es c, v = .map (some b) /\ H[b]? = some (.map es c) /\ Ents es.toList l 0
def mapB : Value -> Nat -> Prop
 | .map (some b), k => k = b
 | _, _ => False
theorem MapB.keep {W : Nat -> Prop} {H H' : Hp} {v : Value} {l : List (List UInt8)} (h : MapB H v l) (hk : Keep W H H') (hw : ∀ k, mapB v k -> ¬ W k) : MapB H' v l := by
 rcases h with h | ⟨b, es, c, rfl, h1, h2⟩
 ·exact .inl h
 ·exact .inr ⟨b, es, c, rfl, by rw [hk.at_ b (Array.getElem?_eq_some_iff.1 h1).1 (hw b rfl)]; exact h1, h2⟩
theorem MapB.old {H : Hp} {v : Value} {l : List (List UInt8)} (h : MapB H v l) {k : Nat} (hk : mapB v k) : k < H.size := by
 rcases h with ⟨rfl, _⟩ | ⟨b, es, c, rfl, h1, h2⟩
 ·exact hk.elim
 ·cases hk; exact (Array.getElem?_eq_some_iff.1 h1).1
theorem MapB.inn {H : Hp} {v : Value} {l : List (List UInt8)} (h : MapB H v l) : ∃ es, mapIn H v = some es /\ Ents es l 0 := by
 rcases h with ⟨rfl, rfl⟩ | ⟨b, es, c, rfl, h1, h2⟩
 ·exact ⟨[], rfl, trivial⟩
 ·exact ⟨es.toList, by simp [mapIn, h1], h2⟩
def TabB (F : Nat -> Prop) (H : Hp) (t : Nat) (l : List (List UInt8)) : Prop := ∃ vs vm, Bl H t [vs, vm] /\ SlR H vs (sL l) /\ MapB H vm l /\ F t /\ (∀ k, slB vs k -> F k) /\ (∀ k, mapB vm k -> F k) /\ ∀ k, F k -> k < H.size
theorem TabB.keep {F W : Nat -> Prop} {H H' : Hp} {t : Nat} {l : List (List UInt8)} (h : TabB F H t l) (hk : Keep W H H') (hw : ∀ k, F k -> ¬ W k) : TabB F H' t l := by
 obtain ⟨vs, vm, h1, h2, h3, h4, h5, h6, h7⟩ := h
 exact ⟨vs, vm, hk.bl h1 (hw _ h4), h2.keep hk (fun k hb => hw k (h5 k hb)), h3.keep hk (fun k hb => hw k (h6 k hb)), h4, h5, h6, fun k hf => Nat.lt_of_lt_of_le (h7 k hf) hk.size⟩
theorem TabB.bound {F : Nat -> Prop} {H : Hp} {t : Nat} {l : List (List UInt8)} (h : TabB F H t l) : ∀ k, F k -> k < H.size := let ⟨_, _, _, _, _, _, _, _, h7⟩ := h; h7
def SCloneSpec (P : Program) (k : FuncId) : Prop := ∀ (l : List (List UInt8)) (v : Value) (H : Hp), SlR H v (sL l) -> l.length <= 100000 -> CallsM P k #[v] H fun r H' => OwS H' r (sL l) /\ (∀ k, ownB r k -> H.size <= k) /\ Keep (fun _ => False) H H'
theorem sclone_ok {P : Program} {ι : Ids} {k : FuncId} (hk : FnIs P k (c_sclone ι) r_sclone 1) : SCloneSpec P k := by
 intro l v H hv hl
 refine calls_of_vc hk (args := [_]) (by simp) ?_
 unfold c_sclone r_sclone
 obtain ⟨a, c, rfl, hc⟩ := hv.mk
 cases a with
 | none =>
  have hl0 : l = [] := by
   rcases hv with ⟨_, _, _, h⟩ | ⟨b, o, c', h, e, _⟩
   ·simpa [sL] using h
   ·simp at e
  subst hl0
  simp only [go_sem, zS, ↓reduceIte, Za, Zb, Zc, reduceCtorEq, kont_eq]
  exact ⟨OwS.nil _, fun k h => h.elim, Keep.refl _ _⟩
 | some p =>
  simp only [go_sem, zS, ↓reduceIte, Za, Zb, Zc, reduceCtorEq]
  refine kont_news fun H1 b1 e1 z1 B1 K1 => ?_
  have k1 := K1.size
  simp only [go_sem, zS, ↓reduceIte, Za, Zb, Zc, reduceCtorEq, kont_eq]
  refine app_slN H.size (l := []) (m := sL l) (OwS.new B1 rfl rfl) (fun k (h : k = b1) => by omega) (by omega) (hv.keep K1 (by simp)) (sL_all1 _) rfl (by omega) (by simp [sL_len]; omega) fun v2 H2 O2 o2 K2 => ?_
  simp only [go_sem, zS, ↓reduceIte, Za, Zb, Zc, reduceCtorEq, kont_eq]
  exact ⟨O2, o2, K1.at_old K2 (by omega)⟩
theorem mclone_lib {P : Program} {f : FuncId} (h : LibIs P f Extern.MapsClone.clone) {H : Hp} {b : Nat} {es : Array MapEntry} {c : Nat} (hb : H[b]? = some (.map es c)) (t : TypeId) :
  LibRun P f #[.iface t (.map (some b))] H (.iface t (.map (some H.size))) (H.push (.map es c)) := by
 intro w hw
 subst hw
 refine h.run' _ _ _ ?_
 have hg : (getObj b).run P w = .ok (.map es c) w := by simp [getObj, Sem.run, hb]
 change Sem.run P (do
  let .map entries clock <- getObj b | stuck "maps.clone: a map expected"
  pure (Value.iface t (.map (some (← newObj (.map entries clock)))))) w = _
 simp only [Sem.run_bind, hg, Result.andThen]
 simp [newObj, Sem.run, Result.andThen]
def MCloneSpec (P : Program) (k : FuncId) : Prop := ∀ (l : List (List UInt8)) (v : Value) (H : Hp), MapB H v l -> CallsM P k #[v] H fun r H' => MapB H' r l /\ (∀ k, mapB r k -> H.size <= k) /\ Keep (fun _ => False) H H'
theorem mclone_ok {P : Program} {ι : Ids} {k : FuncId} (hk : FnIs P k (c_mclone ι) r_mclone 1) (hl : LibIs P (ι.f 79) Extern.MapsClone.clone) : MCloneSpec P k := by
 intro l v H hv
 refine calls_of_vc hk (args := [_]) (by simp) ?_
 unfold c_mclone r_mclone
 rcases hv with ⟨rfl, rfl⟩ | ⟨b, es, c, rfl, h1, h2⟩
 ·simp only [go_sem, zS, ↓reduceIte, Za, Zb, Zc, reduceCtorEq, kont_eq]
  exact ⟨.inl ⟨rfl, rfl⟩, fun k h => h.elim, Keep.refl _ _⟩
 ·simp only [go_sem, zS, ↓reduceIte, Za, Zb, Zc, reduceCtorEq, kont_eq]
  refine (mclone_lib hl h1 _).m ?_
  simp only [go_sem, zS, ↓reduceIte, Za, Zb, Zc, reduceCtorEq, kont_eq, isIf, ifV]
  exact ⟨.inr ⟨H.size, es, c, rfl, by simp, h2⟩, fun k (h : k = H.size) => by omega, (Keep.refl _ _).push _⟩
def NNewSpec (P : Program) (k : FuncId) : Prop := ∀ H, CallsM P k #[] H fun r H' => r = .pointer (some ⟨H.size, 0, Option.none⟩) /\ TabB (fun k => k = H.size) H' H.size [] /\ Keep (fun _ => False) H H' /\ H'.size = H.size + 1
theorem nnew_ok {P : Program} {ι : Ids} {k : FuncId} (hk : FnIs P k (c_nnew ι) r_nnew 0) : NNewSpec P k := by
 intro H
 refine calls_of_vc hk (args := []) (by simp) ?_
 unfold c_nnew r_nnew
 simp only [go_sem, zS, ↓reduceIte, Za, Zb, Zc, reduceCtorEq, okFill, fillV]
 refine kont_new fun H1 b1 e1 z1 B1 K1 => ?_
 subst e1
 simp only [go_sem, zS, ↓reduceIte, Za, Zb, Zc, reduceCtorEq, kont_eq]
 exact ⟨⟨_, _, B1, SlR.nil _ _ _, .inl ⟨rfl, rfl⟩, rfl, fun k h => h.elim, fun k h => h.elim, fun k h => by omega⟩, K1, z1⟩
def addE (l : List (List UInt8)) (s : List UInt8) (most : Int) : Int := if validF s = false then 9 else if s ∈ l then 5 else if (l.length : Int) ≥ most \/ l.length ≥ 256 then 14 else 0
def AddSpec (P : Program) (k : FuncId) : Prop := ∀ (F : Nat -> Prop) (t : Nat) (l : List (List UInt8)) (s : List UInt8) (most : Int) (H : Hp), TabB F H t l -> s.length <= 1000000 →
  CallsM P k #[.pointer (some ⟨t, 0, Option.none⟩), sV s, .int .i64 most] H fun r H' => Keep (fun _ => False) H H' ∧
    ((addE l s most ≠ 0 /\ r = .tuple #[.pointer Option.none, .int .i64 0, .int .i64 (addE l s most)]) ∨
     (addE l s most = 0 /\ ∃ t', r = .tuple #[.pointer (some ⟨t', 0, Option.none⟩), .int .i64 ((l.length + 1 : Nat) : Int), .int .i64 0] /\ TabB (fun k => H.size <= k /\ k < H'.size) H' t' (l ++ [s])))
theorem nadd_ok {P : Program} {ι : Ids} {k : FuncId} (hk : FnIs P k (c_nadd ι) r_nadd 3) (hv : ValidSpec P (ι.f 75)) (hsc : SCloneSpec P (ι.f 78)) (hmc : MCloneSpec P (ι.f 81)) : AddSpec P k := by
 intro F t l s most H ht hs
 refine calls_of_vc hk (args := [_, _, _]) (by simp) ?_
 unfold c_nadd r_nadd
 obtain ⟨vs, vm, hB, hS, hM, hFt, hFs, hFm, hFb⟩ := ht
 simp only [go_sem, zS, ↓reduceIte, Za, Zb, Zc, reduceCtorEq, kont_eq]
 refine (hv _ _ hs).mono ?_
 rintro r H1 ⟨rfl, K1⟩
 by_cases c1 : validF s = false
 ·have : addE l s most = 9 := by unfold addE; rw [if_pos c1]
  simp only [go_sem, zS, ↓reduceIte, Za, Zb, Zc, reduceCtorEq, kont_eq, c1, this]
  exact ⟨K1, .inl (by decide)⟩
 have c1' : validF s = true := by simpa using c1
 have B1 := K1.bl hB (by simp)
 have S1 := hS.keep K1 (by simp)
 have M1 := hM.keep K1 (by simp)
 obtain ⟨es, hin, hes⟩ := M1.inn
 have hfe := hes.find s
 simp only [go_sem, zS, ↓reduceIte, Za, Zb, Zc, reduceCtorEq, kont_eq, c1', B1.cell, hin, hfe]
 refine ⟨⟨es, rfl, hes.keys⟩, ?_⟩
 by_cases c2 : s ∈ l
 ·have h2 := posS_isSome l s
  rw [decide_eq_true c2] at h2
  obtain ⟨i, hi⟩ := Option.isSome_iff_exists.1 h2
  have : addE l s most = 5 := by unfold addE; rw [if_neg c1, if_pos c2]
  have hgt : (((i + 1 : Nat) : Int) > 0) := by omega
  simp only [go_sem, zS, ↓reduceIte, Za, Zb, Zc, reduceCtorEq, kont_eq, hi, hgt, this]
  exact ⟨K1, .inl (by decide)⟩
 have h2 := posS_isSome l s
 rw [decide_eq_false c2] at h2
 have hnone : posS l s = Option.none := by simpa using h2
 have hz : ¬ ((0 : Int) > 0) := by omega
 by_cases c3 : (l.length : Int) ≥ most \/ l.length ≥ 256
 ·have hE : addE l s most = 14 := by unfold addE; rw [if_neg c1, if_neg c2, if_pos c3]
  by_cases c4 : (l.length : Int) ≥ most
  ·simp only [go_sem, zS, ↓reduceIte, Za, Zb, Zc, reduceCtorEq, kont_eq, hnone, hz, B1.cell, S1.isSl, S1.len, sL_len, c4, hE]
   exact ⟨K1, .inl (by decide)⟩
  ·have c5 : (l.length : Int) ≥ 256 := by
    rcases c3 with h | h
    ·exact absurd h c4
    ·omega
   simp only [go_sem, zS, ↓reduceIte, Za, Zb, Zc, reduceCtorEq, kont_eq, hnone, hz, B1.cell, S1.isSl, S1.len, sL_len, c4, c5, hE]
   exact ⟨K1, .inl (by decide)⟩
 have c4 : ¬ (l.length : Int) ≥ most := fun h => c3 (.inl h)
 have c5 : ¬ (l.length : Int) ≥ 256 := fun h => c3 (.inr (by omega))
 have hE : addE l s most = 0 := by unfold addE; rw [if_neg c1, if_neg c2, if_neg c3]
 rw [hE]
 simp only [go_sem, zS, ↓reduceIte, Za, Zb, Zc, reduceCtorEq, kont_eq, hnone, hz, B1.cell, S1.isSl, S1.len, sL_len, c4, c5]
 have k1 := K1.size
 refine vc_keep _ _ _ (fun e f' H' => e = .n /\ ∃ t' vs' vm', f' 9 = .pointer (some ⟨t', 0, Option.none⟩) /\ Bl H' t' [vs', vm'] /\ OwS H' vs' (sL (l ++ [s])) /\ MapB H' vm' l /\ H1.size <= t' /\ ¬ ownB vs' t' /\ ¬ mapB vm' t' /\ (∀ k, ownB vs' k -> H1.size <= k) /\ (∀ k, mapB vm' k -> H1.size <= k /\ ¬ ownB vs' k) /\ Keep (fun _ => False) H1 H') _ ?_ ?_
 ·rintro e f' H2 ⟨rfl, t', vs', vm', h9, B2, O2, M2, ht', hn1, hn2, ho, hm, K2⟩ hk
  have hf1 : f' 1 = sV s := by rw [hk 1 (by simp [S.wr, T.wr, D.wr])]; simp only [go_sem, zS, ↓reduceIte, Za, Zb, Zc, reduceCtorEq, kont_eq]
  have K2' := K1.trans K2
  have k2 := K2.size
  have hlen : (sL (l ++ [s])).length = l.length + 1 := by rw [sL_len]; simp
  have hb2 := B2.lt
  rcases M2 with ⟨rfl, rfl⟩ | ⟨bm, ems, cm, rfl, hbm, hems⟩
  ·simp only [go_sem, zS, ↓reduceIte, Za, Zb, Zc, reduceCtorEq, kont_eq, h9, hf1, B2.cell]
   generalize hA3 : Array.push H2 _ = H3
   have K3 : Keep (fun _ => False) H2 H3 := by rw [<- hA3]; exact (Keep.refl _ _).push _
   have hb3 : H3[H2.size]? = some (.map #[] 0) := by rw [<- hA3]; simp
   have B3 := K3.bl B2 (by simp)
   have B4 := B3.setc 1 (.map (some H2.size))
   have hm4 : (setc H3 ⟨t', 1, Option.none⟩ (.map (some H2.size)))[H2.size]? = some (.map #[] 0) := by
    rw [getElem?_setc_ne (by simp only []; omega)]; exact hb3
   have K4 : Keep (fun k => k = t') H3 (setc H3 ⟨t', 1, Option.none⟩ (.map (some H2.size))) := (Keep.refl _ _).setc _ (.inl rfl)
   have O4 := (O2.keep K3 (by simp)).keep K4 (fun k h e => hn1 (e ▸ h))
   generalize hH4 : setc H3 ⟨t', 1, Option.none⟩ (.map (some H2.size)) = H4 at *
   have hl4 : lenV vs' = 0 + 1 := by rw [O4.sl.len, hlen]; rfl
   have B4' : Bl H4 t' [vs', .map (some H2.size)] := B4
   have k4 : H4.size = H3.size := by rw [<- hH4, size_setc]
   have k3 : H3.size = H2.size + 1 := by rw [<- hA3]; simp
   simp only [go_sem, zS, ↓reduceIte, Za, Zb, Zc, reduceCtorEq, kont_eq, B3.cell, B3.frz, B4'.cell, O4.sl.isSl, hl4]
   refine ⟨H2.size, #[], 0, rfl, hm4, by simp, ?_⟩
   have K5 : Keep (fun k => k = H2.size) H4 (H4.setIfInBounds H2.size (.map (#[].push { key := sV s, val := .int .i64 ((0 + 1 : Nat) : Int), born := 0 }) (0 + 1))) :=
    ⟨by simp, fun k hk hne => by rw [Array.getElem?_setIfInBounds_ne (fun e => hne e.symm)]⟩
   have hm5 : (H4.setIfInBounds H2.size (.map (#[].push { key := sV s, val := .int .i64 ((0 + 1 : Nat) : Int), born := 0 }) (0 + 1)))[H2.size]? = some (.map (#[].push { key := sV s, val := .int .i64 ((0 + 1 : Nat) : Int), born := 0 }) (0 + 1)) := by
    rw [Array.getElem?_setIfInBounds_self_of_lt (by omega)]
   generalize Array.setIfInBounds H4 _ _ = H5 at *
   have B5 := K5.bl B4' (by omega)
   have O5 := O4.keep K5 (fun k h e => by have := O2.old h; omega)
   have k5 := K5.size
   simp only [go_sem, zS, ↓reduceIte, Za, Zb, Zc, reduceCtorEq, kont_eq, B5.cell, O5.sl.isSl, hl4]
   refine ⟨((((K2'.trans K3).trans' K4 (fun i hi e => by omega)).trans' K5 (fun i hi e => by omega))), .inr ⟨t', rfl, vs', _, B5, O5.sl, .inr ⟨H2.size, _, _, rfl, hm5, ?_⟩, ⟨by omega, by omega⟩, fun k h => ?_, fun k h => ?_, fun k h => h.2⟩⟩
   ·exact ⟨rfl, rfl, trivial⟩
   ·have h1 := O5.slB h
    exact ⟨by have := ho k h1; omega, O5.old h1⟩
   ·have h1 : k = H2.size := h
    exact ⟨by omega, by omega⟩
  ·have hbml := (Array.getElem?_eq_some_iff.1 hbm).1
   have hmb := hm bm rfl
   have hl4 : lenV vs' = l.length + 1 := by rw [O2.sl.len, hlen]
   simp only [go_sem, zS, ↓reduceIte, Za, Zb, Zc, reduceCtorEq, kont_eq, h9, hf1, B2.cell, O2.sl.isSl, hl4]
   refine ⟨bm, ems, cm, rfl, hbm, hems.none s c2, ?_⟩
   have K5 : Keep (fun k => k = bm) H2 (H2.setIfInBounds bm (.map (ems.push { key := sV s, val := .int .i64 ((l.length + 1 : Nat) : Int), born := cm }) (cm + 1))) :=
    ⟨by simp, fun k hk hne => by rw [Array.getElem?_setIfInBounds_ne (fun e => hne e.symm)]⟩
   have hm5 : (H2.setIfInBounds bm (.map (ems.push { key := sV s, val := .int .i64 ((l.length + 1 : Nat) : Int), born := cm }) (cm + 1)))[bm]? = some (.map (ems.push { key := sV s, val := .int .i64 ((l.length + 1 : Nat) : Int), born := cm }) (cm + 1)) := by
    rw [Array.getElem?_setIfInBounds_self_of_lt hbml]
   generalize Array.setIfInBounds H2 _ _ = H5 at *
   have hne : t' ≠ bm := fun e => hn2 e
   have B5 := K5.bl B2 hne
   have O5 := O2.keep K5 (fun k h e => hmb.2 (e ▸ h))
   have k5 := K5.size
   simp only [go_sem, zS, ↓reduceIte, Za, Zb, Zc, reduceCtorEq, kont_eq, B5.cell, O5.sl.isSl, hl4]
   refine ⟨K2'.trans' K5 (fun i hi e => by omega), .inr ⟨t', rfl, vs', _, B5, O5.sl, .inr ⟨bm, _, _, rfl, hm5, ?_⟩, ⟨by omega, by omega⟩, fun k h => ?_, fun k h => ?_, fun k h => h.2⟩⟩
   ·have := hems.push s cm
    rw [Nat.zero_add] at this
    simpa using this
   ·have h1 := O5.slB h
    exact ⟨by have := ho k h1; omega, O5.old h1⟩
   ·have h1 : k = bm := h
    exact ⟨by omega, by omega⟩
 ·refine vc_drk (fun k => H1.size <= k) ?_
  have hbt := B1.lt
  have nW : ¬ H1.size <= t := by omega
  simp only [go_sem, zS, ↓reduceIte, Za, Zb, Zc, reduceCtorEq, kont_eq, B1.cell, nW]
  have e1l : sL (l ++ [s]) = sL l ++ [sV s] := by rw [sL_app]; rfl
  have hll : l.length < 256 := by omega
  refine ⟨?_, ?_⟩
  ·refine (hsc _ _ _ S1 (by omega)).mono ?_
   rintro v2 H2 ⟨O2, o2, K2⟩
   have k2 := K2.size
   simp only [go_sem, zS, ↓reduceIte, Za, Zb, Zc, reduceCtorEq, kont_eq]
   generalize hA3 : Array.push H2 _ = H3
   have K3 : Keep (fun _ => False) H2 H3 := by rw [<- hA3]; exact (Keep.refl _ _).push _
   have B3 : Bl H3 H2.size [sV s] := by rw [<- hA3]; exact Bl.new' _ _ _
   have KH3 := K2.trans K3
   have k3 := KH3.size
   refine ⟨K2.any, K3.any, app_slN H1.size (l := sL l) (m := [sV s]) (O2.keep K3 (by simp)) o2 k3 (SlR.bl B3 0 1 1 (by omega) (by simp)) (sL_all1 [s]) rfl (by omega) (by rw [sL_len]; simp; omega) fun v4 H4 O4 o4 K4 => ?_⟩
   have KH4 : Keep (fun _ => False) H1 H4 := KH3.at_old K4 (by omega)
   rw [<- e1l] at O4
   simp only [go_sem, zS, ↓reduceIte, Za, Zb, Zc, reduceCtorEq, kont_eq]
   refine ⟨K4, ?_⟩
   refine (hmc _ _ _ (M1.keep KH4 (by simp))).mono ?_
   rintro v5 H5 ⟨M5, m5, K5⟩
   have KH5 := KH4.trans K5
   have k4 := KH4.size
   have k5 := K5.size
   have k15 := KH5.size
   have O5 := O4.keep K5 (by simp)
   obtain ⟨a4, n4, c4', rfl⟩ := O5.shape
   obtain ⟨q5, rfl⟩ : ∃ o, v5 = .map o := by rcases M5 with ⟨rfl, _⟩ | ⟨_, _, _, rfl, _⟩ <;> exact ⟨_, rfl⟩
   simp only [go_sem, zS, ↓reduceIte, Za, Zb, Zc, reduceCtorEq, kont_eq, okFill, fillV, Value.cells]
   generalize hA6 : Array.push H5 _ = H6
   have K6 : Keep (fun _ => False) H5 H6 := by rw [<- hA6]; exact (Keep.refl _ _).push _
   have B6 : Bl H6 H5.size [.slice a4 n4 c4', .map q5] := by rw [<- hA6]; exact Bl.new' _ _ _
   refine ⟨K5.any, by first | omega | (constructor <;> omega) | simp, K6.any, H5.size, _, _, rfl, B6, O5.keep K6 (by simp), M5.keep K6 (by simp), k15, fun h => by have := O5.old h; omega, fun h => by have := M5.old h; omega, o4, fun k h => ⟨by have := m5 k h; omega, fun h2 => ?_⟩, KH5.trans K6⟩
   have := m5 k h
   have := O4.old h2
   omega
  ·generalize hA2 : Array.push H1 _ = H2
   have K2 : Keep (fun _ => False) H1 H2 := by rw [<- hA2]; exact (Keep.refl _ _).push _
   have B2 : Bl H2 H1.size [sV s] := by rw [<- hA2]; exact Bl.new' _ _ _
   have k2 := K2.size
   refine ⟨K2.any, ?_⟩
   refine (hsc _ _ _ (S1.keep K2 (by simp)) (by omega)).mono ?_
   rintro v3 H3 ⟨O3, o3, K3⟩
   have KH3 := K2.trans K3
   have k3 := KH3.size
   simp only [go_sem, zS, ↓reduceIte, Za, Zb, Zc, reduceCtorEq, kont_eq]
   refine ⟨K3.any, app_slN H1.size (l := sL l) (m := [sV s]) O3 (fun k h => by have := o3 k h; omega) k3 (SlR.bl (K3.bl B2 (by simp)) 0 1 1 (by omega) (by simp)) (sL_all1 [s]) rfl (by omega) (by rw [sL_len]; simp; omega) fun v4 H4 O4 o4 K4 => ?_⟩
   have KH4 : Keep (fun _ => False) H1 H4 := KH3.at_old K4 (by omega)
   rw [<- e1l] at O4
   simp only [go_sem, zS, ↓reduceIte, Za, Zb, Zc, reduceCtorEq, kont_eq]
   refine ⟨K4, ?_⟩
   refine (hmc _ _ _ (M1.keep KH4 (by simp))).mono ?_
   rintro v5 H5 ⟨M5, m5, K5⟩
   have KH5 := KH4.trans K5
   have k4 := KH4.size
   have k5 := K5.size
   have k15 := KH5.size
   have O5 := O4.keep K5 (by simp)
   obtain ⟨a4, n4, c4', rfl⟩ := O5.shape
   obtain ⟨q5, rfl⟩ : ∃ o, v5 = .map o := by rcases M5 with ⟨rfl, _⟩ | ⟨_, _, _, rfl, _⟩ <;> exact ⟨_, rfl⟩
   simp only [go_sem, zS, ↓reduceIte, Za, Zb, Zc, reduceCtorEq, kont_eq, okFill, fillV, Value.cells]
   generalize hA6 : Array.push H5 _ = H6
   have K6 : Keep (fun _ => False) H5 H6 := by rw [<- hA6]; exact (Keep.refl _ _).push _
   have B6 : Bl H6 H5.size [.slice a4 n4 c4', .map q5] := by rw [<- hA6]; exact Bl.new' _ _ _
   refine ⟨K5.any, by first | omega | (constructor <;> omega) | simp, K6.any, H5.size, _, _, rfl, B6, O5.keep K6 (by simp), M5.keep K6 (by simp), k15, fun h => by have := O5.old h; omega, fun h => by have := M5.old h; omega, o4, fun k h => ⟨by have := m5 k h; omega, fun h2 => ?_⟩, KH5.trans K6⟩
   have := m5 k h
   have := O4.old h2
   omega
end Go.Mg

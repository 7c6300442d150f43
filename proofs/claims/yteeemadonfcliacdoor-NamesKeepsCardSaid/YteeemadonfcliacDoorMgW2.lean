/- Several texts of ours in one. No conditions. -/
import Derived.Test.YteeemadonfcliacDoorMgEl
import Derived.Test.YteeemadonfcliacDoorMgKp
open Nat renaming reduceEqDiff → Za, reduceAdd → Zb, reduceMul → Zc
open Int renaming reduceBEq → Zf, reduceBNe → Zg
namespace Go.Mg
open Go Go.RowKit
set_option linter.all false
set_option maxRecDepth 100000
def c_clone (ι : Ids) : S :=
 .seq (.reg [.p (.v 2) (.mv (.c (.slice .none 0 0)))]) (.seq (.seq (.reg [.p (.t 3) (.mv (.v 0)), .p (.v 4) (.m (.eqn .sl false (.t 3)))]) (.ite (.v 4) (.seq (.reg [.p (.v 2) (.mv (.c (.slice .none 0
 0)))]) .ret) .skip)) (.seq (.reg [.e (.t 5) (.bldF (ι.t 19) 1 0 []), .p (.t 6) (.mv (.v 0)), .e (.t 7) (.app false (ι.t 19) 1 1 #[.int .u8 0] (.t 5) (.t 6)), .p (.v 2) (.mv (.t 7))]) .ret))
def r_clone : List RV := [.t 2]
def c_reverse (ι : Ids) : S :=
 .seq (.reg [.p (.t 4) (.mv (.v 0)), .p (.t 5) (.m (.lenl (.t 4))), .p (.t 6) (.ar .sub .i64 (.t 5) (.c (.int .i64 1))), .p (.v 2) (.mv (.c (.int .i64 0))), .p (.v 3) (.mv (.t 6))]) (.blk 0 (.loop
 (.seq (.seq (.reg [.p (.t 7) (.mv (.v 2)), .p (.t 8) (.mv (.v 3)), .p (.v 9) (.cm .lss .i64 (.t 7) (.t 8))]) (.ite (.v 9) .skip (.exit 0))) (.seq (.blk 1 (.dr (.px (.t 14) .none (.mv (.v 0)) (.px (.t
 15) .none (.mv (.v 2)) (.px (.t 16) .none (.mv (.v 0)) (.px (.t 17) .none (.mv (.v 3)) (.px (.t 18) .none (.mv (.v 0)) (.px (.t 19) .none (.mv (.v 3)) (.px (.t 20) .none (.is 1 (.t 18) (.t 19)) (.px
 (.t 22) .none (.mv (.v 0)) (.px (.t 23) .none (.mv (.v 2)) (.px (.t 24) .none (.is 1 (.t 22) (.t 23)) (.wcons (.t 21) .none (.rd (.ld (.t 20))) (.wcons (.t 25) .none (.rd (.ld (.t 24))) (.px (.t 26)
 .none (.is 1 (.t 14) (.t 15)) (.wcons .no .none (.st (.t 26) (.t 21)) (.px (.t 27) .none (.is 1 (.t 16) (.t 17)) (.wcons .no .none (.st (.t 27) (.t 25)) .done .wnil)) .wnil)) .wnil) (.wcons (.t 25)
 .none (.rd (.ld (.t 24))) (.wcons (.t 21) .none (.rd (.ld (.t 20))) (.px (.t 26) .none (.is 1 (.t 14) (.t 15)) (.wcons .no .none (.st (.t 26) (.t 21)) (.px (.t 27) .none (.is 1 (.t 16) (.t 17))
 (.wcons .no .none (.st (.t 27) (.t 25)) .done .wnil)) .wnil)) .wnil) .wnil)))))))))))))) (.reg [.p (.t 10) (.mv (.v 2)), .p (.t 11) (.ar .add .i64 (.t 10) (.c (.int .i64 1))), .p (.t 12) (.mv (.v 3)),
 .p (.t 13) (.ar .sub .i64 (.t 12) (.c (.int .i64 1))), .p (.v 2) (.mv (.t 11)), .p (.v 3) (.mv (.t 13))])))))
def r_reverse : List RV := []
def c_groups (ι : Ids) : S :=
 .seq (.reg [.p (.v 2) (.mv (.c (.slice .none 0 0)))]) (.seq (.reg [.p (.t 4) (.mv (.v 0)), .p (.t 5) (.bt .and .u64 (.t 4) (.c (.int .u64 127))), .p (.t 6) (.ii .u8 (.t 5)), .e (.t 7) (.bldF (ι.t 19)
 1 1 [.t 6]), .p (.v 3) (.mv (.t 7))]) (.seq (.seq (.reg [.p (.t 8) (.mv (.v 0)), .p (.t 9) (.sh .shr .u64 (.t 8) (.c (.int .u64 7))), .p (.v 0) (.mv (.t 9))]) (.blk 0 (.loop (.seq (.seq (.reg [.p (.t
 10) (.mv (.v 0)), .p (.v 11) (.cm .gtr .u64 (.t 10) (.c (.int .u64 0)))]) (.ite (.v 11) .skip (.exit 0))) (.seq (.blk 1 (.reg [.p (.t 14) (.mv (.v 3)), .p (.t 15) (.mv (.v 0)), .p (.t 16) (.bt .and
 .u64 (.t 15) (.c (.int .u64 127))), .p (.t 17) (.ii .u8 (.t 16)), .p (.t 18) (.bt .or .u8 (.t 17) (.c (.int .u8 128))), .e (.t 19) (.bldF (ι.t 19) 1 1 [.t 18]), .e (.t 20) (.app false (ι.t 19) 1 1
 #[.int .u8 0] (.t 14) (.t 19)), .p (.v 3) (.mv (.t 20))])) (.reg [.p (.t 12) (.mv (.v 0)), .p (.t 13) (.sh .shr .u64 (.t 12) (.c (.int .u64 7))), .p (.v 0) (.mv (.t 13))])))))) (.seq (.reg [.p (.t 21)
 (.mv (.v 3)), .e (.t 22) (.call (ι.f 52) [.t 21])]) (.seq (.reg [.p (.t 23) (.mv (.v 3)), .p (.v 2) (.mv (.t 23))]) .ret))))
def r_groups : List RV := [.t 2]
def c_wnew (ι : Ids) : S :=
 .seq (.reg [.p (.v 0) (.mv (.c (.pointer .none)))]) (.seq (.reg [.p (.t 1) (.m (.bld #[.slice .none 0 0] [])), .e (.t 2) (.box (ι.t 54) (.t 1)), .p (.v 0) (.mv (.t 2))]) .ret)
def r_wnew : List RV := [.t 0]
def c_wraw (ι : Ids) : S :=
 .seq (.reg [.p (.t 4) (.mv (.v 0)), .p (.v 5) (.m (.eqn .ptr true (.t 4)))]) (.ite (.v 5) (.reg [.p (.t 6) (.mv (.v 0)), .p (.t 7) (.mv (.v 0)), .p (.t 8) (.nil (.t 7)), .p (.t 9) (.fa 0 (.t 8)), .p
 (.t 10) (.ld (.t 9)), .p (.t 11) (.mv (.v 1)), .e (.t 12) (.app false (ι.t 19) 1 1 #[.int .u8 0] (.t 10) (.t 11)), .p (.t 13) (.nil (.t 6)), .p (.t 14) (.fa 0 (.t 13)), .e .no (.st (.t 14) (.t 12))])
 .skip)
def r_wraw : List RV := []
def c_wuint (ι : Ids) : S :=
 .reg [.p (.t 4) (.mv (.v 0)), .p (.t 5) (.mv (.v 1)), .e (.t 6) (.call (ι.f 53) [.t 5]), .e (.t 7) (.call (ι.f 56) [.t 4, .t 6])]
def r_wuint : List RV := []
def c_wbytes (ι : Ids) : S :=
 .seq (.reg [.p (.t 4) (.mv (.v 0)), .p (.t 5) (.mv (.v 1)), .p (.t 6) (.m (.lenl (.t 5))), .p (.t 7) (.ii .u64 (.t 6)), .e (.t 8) (.call (ι.f 57) [.t 4, .t 7])]) (.reg [.p (.t 9) (.mv (.v 0)), .p (.t
 10) (.mv (.v 1)), .e (.t 11) (.call (ι.f 56) [.t 9, .t 10])])
def r_wbytes : List RV := []
def c_wstring (ι : Ids) : S :=
 .reg [.p (.t 4) (.mv (.v 0)), .p (.t 5) (.mv (.v 1)), .e (.t 6) (.s2b (ι.t 19) (.t 5)), .e (.t 7) (.call (ι.f 58) [.t 4, .t 6])]
def r_wstring : List RV := []
def c_wout (ι : Ids) : S :=
 .seq (.reg [.p (.v 2) (.mv (.c (.slice .none 0 0)))]) (.seq (.seq (.reg [.p (.t 3) (.mv (.v 0)), .p (.v 4) (.m (.eqn .ptr false (.t 3)))]) (.ite (.v 4) (.seq (.reg [.p (.v 2) (.mv (.c (.slice .none 0
 0)))]) .ret) .skip)) (.seq (.reg [.p (.t 5) (.mv (.v 0)), .p (.t 6) (.nil (.t 5)), .p (.t 7) (.fa 0 (.t 6)), .p (.t 8) (.ld (.t 7)), .e (.t 9) (.call (ι.f 51) [.t 8]), .p (.v 2) (.mv (.t 9))]) .ret))
def r_wout : List RV := [.t 2]
def tl7 (u : Nat) : List UInt8 := if h : u = 0 then [] else UInt8.ofNat (u % 128 + 128) :: tl7 (u / 128)
termination_by u
decreasing_by omega
def le7 (v : Nat) : List UInt8 := UInt8.ofNat (v % 128) :: tl7 (v / 128)
def enc7 (v : Nat) : List UInt8 := (le7 v).reverse
def encB (l : List UInt8) : List UInt8 := enc7 l.length ++ l
theorem tl7_0 : tl7 0 = [] := by rw [tl7]; simp
theorem tl7_pos {u : Nat} (h : u ≠ 0) : tl7 u = UInt8.ofNat (u % 128 + 128) :: tl7 (u / 128) := by rw [tl7]; simp [h]
theorem tl7_len : ∀ (k u : Nat), u < 128 ^ k -> (tl7 u).length <= k
 | 0, u, h => by
  have : u = 0 := by simpa using h
  subst this; rw [tl7_0]; simp
 | k + 1, u, h => by
  by_cases hu : u = 0
  ·subst hu; rw [tl7_0]; simp
  ·rw [tl7_pos hu]
   have := tl7_len k (u / 128) (by rw [Nat.pow_succ] at h; omega)
   simp only [List.length_cons]; omega
theorem enc7_len (v : Nat) (h : v < 18446744073709551616) : (enc7 v).length <= 11 := by
 have := tl7_len 10 (v / 128) (by omega)
 simp only [enc7, le7, List.length_reverse, List.length_cons]; omega
def CloneSpec (P : Program) (k : FuncId) : Prop := ∀ (l : List UInt8) (v : Value) (H : Hp), SlR H v (w8 l) -> l.length <= 100000000 -> CallsM P k #[v] H fun r H' => OwS H' r (w8 l) /\ (∀ k, ownB r k -> H.size <= k) /\ Keep (fun _ => False) H H'
theorem clone_ok {P : Program} {ι : Ids} {k : FuncId} (hk : FnIs P k (c_clone ι) r_clone 1) : CloneSpec P k := by
 intro l v H hv hl
 refine calls_of_vc hk (args := [_]) (by simp) ?_
 unfold c_clone r_clone
 obtain ⟨a, c, rfl, hc⟩ := hv.mk
 cases a with
 | none =>
  have hl0 : l = [] := by
   rcases hv with ⟨_, _, _, h⟩ | ⟨b, o, c', h, e, _⟩
   ·simpa [w8] using h
   ·simp at e
  subst hl0
  simp only [go_sem, zS, ↓reduceIte, Za, Zb, Zc, reduceCtorEq, kont_eq]
  exact ⟨OwS.nil _, fun k h => h.elim, Keep.refl _ _⟩
 | some p =>
  simp only [go_sem, zS, ↓reduceIte, Za, Zb, Zc, reduceCtorEq]
  refine kont_news fun H1 b1 e1 z1 B1 K1 => ?_
  have k1 := K1.size
  simp only [go_sem, zS, ↓reduceIte, Za, Zb, Zc, reduceCtorEq, kont_eq]
  refine app_bytesN H.size (l := []) (m := l) (OwS.new B1 rfl rfl) (fun k (h : k = b1) => by omega) (by omega) (hv.keep K1 (by simp)) rfl (by simp; omega) fun v2 H2 O2 o2 K2 => ?_
  simp only [go_sem, zS, ↓reduceIte, Za, Zb, Zc, reduceCtorEq, kont_eq]
  exact ⟨O2, o2, K1.at_old K2 (by omega)⟩
def RevTo (l : List UInt8) (i : Nat) (x : List UInt8) : Prop := x.length = l.length /\ ∀ j, j < l.length -> x.getD j 0 = if j < i \/ l.length <= i + j then l.getD (l.length - 1 - j) 0 else l.getD j 0
theorem RevTo.zero (l : List UInt8) : RevTo l 0 l := ⟨rfl, fun j hj => by rw [if_neg (by omega)]⟩
theorem getD_set8 (x : List UInt8) (i j : Nat) (y : UInt8) (h : i < x.length) : (x.set i y).getD j 0 = if j = i then y else x.getD j 0 := by
 by_cases e : j = i
 ·subst e; rw [if_pos rfl, List.getD_eq_getElem?_getD, List.getElem?_set_self h]; rfl
 ·rw [if_neg e, List.getD_eq_getElem?_getD, List.getElem?_set_ne (Ne.symm e), <- List.getD_eq_getElem?_getD]
theorem RevTo.step {l : List UInt8} {i : Nat} {x : List UInt8} (h : RevTo l i x) (hi : 2 * i + 1 < l.length) : RevTo l (i + 1) ((x.set i (x.getD (l.length - 1 - i) 0)).set (l.length - 1 - i) (x.getD i 0)) := by
 obtain ⟨h1, h2⟩ := h
 refine ⟨by simp [h1], fun j hj => ?_⟩
 have q1 : x.getD i 0 = l.getD i 0 := by rw [h2 i (by omega), if_neg (by omega)]
 have q2 : x.getD (l.length - 1 - i) 0 = l.getD (l.length - 1 - i) 0 := by rw [h2 (l.length - 1 - i) (by omega), if_neg (by omega)]
 rw [q1, q2, getD_set8 _ _ _ _ (by simp; omega), getD_set8 _ _ _ _ (by omega), h2 j hj]
 by_cases e1 : j = l.length - 1 - i
 ·rw [if_pos e1, if_pos (by omega)]; congr 1; omega
 ·rw [if_neg e1]
  by_cases e2 : j = i
  ·rw [if_pos e2, if_pos (by omega)]; congr 1; omega
  ·rw [if_neg e2]
   by_cases e3 : j < i \/ l.length <= i + j
   ·rw [if_pos e3, if_pos (by omega)]
   ·rw [if_neg e3, if_neg (by omega)]
theorem RevTo.all {l : List UInt8} {i : Nat} {x : List UInt8} (h : RevTo l i x) (hi : l.length <= 2 * i + 1) : x = l.reverse := by
 obtain ⟨h1, h2⟩ := h
 apply List.ext_getElem (by simp [h1])
 intro j g1 g2
 have := h2 j (by omega)
 have e1 : x.getD j 0 = x[j] := by simp [g1]
 have e2 : l.reverse[j] = l.getD (l.length - 1 - j) 0 := by
  rw [List.getElem_reverse]; simp [show l.length - 1 - j < l.length by omega]
 rw [<- e1, e2, this]
 split
 ·rfl
 ·congr 1; omega
def RevSpec (P : Program) (k : FuncId) : Prop := ∀ (l : List UInt8) (v : Value) (H : Hp), OwS H v (w8 l) -> l.length <= 100000000 -> CallsM P k #[v] H fun r H' => r = .tuple #[] /\ OwS H' v (w8 l.reverse) /\ Keep (ownB v) H H'
theorem reverse_ok {P : Program} {ι : Ids} {k : FuncId} (hk : FnIs P k (c_reverse ι) r_reverse 1) : RevSpec P k := by
 intro l v H hv hl
 refine calls_of_vc hk (args := [_]) (by simp) ?_
 unfold c_reverse r_reverse
 simp (disch := omega) only [go_sem, zS, ↓reduceIte, Za, Zb, Zc, reduceCtorEq, kont_eq, hv.sl.isSl, hv.sl.len, w8_len, IntWalk.i64_in]
 refine vc_loop [9, 2, 3] rfl (fun n f H' => ∃ i x, 2 * i <= l.length + 1 /\ n = l.length - i /\ f 2 = .int .i64 i /\ f 3 = .int .i64 ((l.length : Int) - 1 - i) /\ RevTo l i x /\ OwS H' v (w8 x) /\ Keep (ownB v) H H') l.length
  ⟨0, l, by omega, by omega, rfl, by simp only [go_sem, zS, ↓reduceIte, Za, Zb, Zc, reduceCtorEq, kont_eq]; simp, RevTo.zero l, hv, Keep.refl _ _⟩ ?_
 rintro n g H1 ⟨i, x, hi, rfl, hf2, hf3, hR, hO, K1⟩
 simp only [go_sem, zS, ↓reduceIte, Za, Zb, Zc, reduceCtorEq, kont_eq] at hf2 hf3
 simp only [go_sem, zS, ↓reduceIte, Za, Zb, Zc, reduceCtorEq, kont_eq, hf2, hf3]
 refine iteV_dec (fun hlt => ?_) (fun hge => ?_)
 ·have hi2 : 2 * i + 1 < l.length := by omega
  have hxl := hR.1
  obtain ⟨b, c, L, rfl, h1, h2, hB, h3, hg⟩ := hO.some (by intro e; have h := congrArg List.length e; rw [w8_len, List.length_nil] at h; omega)
  rw [w8_len] at h1 h3 hg
  have ej : ((l.length : Int) - 1 - i) = ((l.length - 1 - i : Nat) : Int) := by omega
  have gi : L[i]? = some (.int .u8 (x.getD i 0).toNat) := by rw [hg i (by omega), w8_get _ _ (by omega)]
  have gj : L[l.length - 1 - i]? = some (.int .u8 (x.getD (l.length - 1 - i) 0).toNat) := by rw [hg _ (by omega), w8_get _ _ (by omega)]
  have B2 := hB.setc i (.int .u8 (x.getD (l.length - 1 - i) 0).toNat)
  have g2 : (L.set i (.int .u8 (x.getD (l.length - 1 - i) 0).toNat))[l.length - 1 - i]? = some (.int .u8 (x.getD (l.length - 1 - i) 0).toNat) := by
   rw [List.getElem?_set_ne (by omega)]; exact gj
  refine vc_drk (fun k => k = b) ?_
  simp (disch := omega) only [go_sem, zS, ↓reduceIte, Za, Zb, Zc, reduceCtorEq, kont_eq, hf2, hf3, ej, hB.cell, hB.frz, gi, gj, B2.cell, B2.frz, g2, tn_cast]
  rw [w8_len]
  have B3 := B2.setc (l.length - 1 - i) (.int .u8 (x.getD i 0).toNat)
  have hO2 := setOwS (i := i) (v := .int .u8 (x.getD (l.length - 1 - i) 0).toNat) hB (l := w8 x) (by rw [w8_len]; exact h1) h2 (by rw [w8_len]; exact h3) (by rw [w8_len]; omega)
  have hO3 := OwS.bl (n := x.length) (c := c) B3 (l := w8 ((x.set i (x.getD (l.length - 1 - i) 0)).set (l.length - 1 - i) (x.getD i 0))) (by simp [w8_len]) h1 (by simpa using h2) (by rw [List.take_set, List.take_set, h3, w8_set, w8_set])
  have KA : Keep (fun k => k = b) H1 (setc H1 ⟨b, i, none⟩ (.int .u8 (x.getD (l.length - 1 - i) 0).toNat)) := (Keep.refl _ _).setc _ (.inl rfl)
  have e1 : IntKind.i64.wrap ((i : Int) + 1) = ((i + 1 : Nat) : Int) := by rw [IntWalk.i64_in _ ⟨by omega, by omega⟩]; simp
  have e2 : IntKind.i64.wrap (((l.length - 1 - i : Nat) : Int) - 1) = (l.length : Int) - 1 - ((i + 1 : Nat) : Int) := by rw [IntWalk.i64_in _ ⟨by omega, by omega⟩]; omega
  rw [e1, e2]
  have fin : ∃ m, m < l.length - i /\ ∃ i_1 x_1, 2 * i_1 <= l.length + 1 /\ m = l.length - i_1 /\ Value.int IntKind.i64 ((i + 1 : Nat) : Int) = Value.int IntKind.i64 ↑i_1 /\ Value.int IntKind.i64 ((l.length : Int) - 1 - ((i + 1 : Nat) : Int)) = Value.int IntKind.i64 (↑l.length - 1 - ↑i_1) /\ RevTo l i_1 x_1 ∧
    OwS (setc (setc H1 ⟨b, i, none⟩ (.int .u8 (x.getD (l.length - 1 - i) 0).toNat)) ⟨b, l.length - 1 - i, none⟩ (.int .u8 (x.getD i 0).toNat)) (.slice (some ⟨b, 0, none⟩) x.length c) (w8 x_1) ∧
    Keep (ownB (.slice (some ⟨b, 0, none⟩) x.length c)) H (setc (setc H1 ⟨b, i, none⟩ (.int .u8 (x.getD (l.length - 1 - i) 0).toNat)) ⟨b, l.length - 1 - i, none⟩ (.int .u8 (x.getD i 0).toNat)) := by
   rw [w8_len] at K1
   exact ⟨l.length - (i + 1), by omega, i + 1, _, by omega, rfl, rfl, rfl, hR.step hi2, hO3, (K1.setc (p := ⟨b, i, none⟩) _ (.inl rfl)).setc (p := ⟨b, l.length - 1 - i, none⟩) _ (.inl rfl)⟩
  have KB := (Keep.refl (fun k => k = b) (setc H1 ⟨b, i, none⟩ (.int .u8 (x.getD (l.length - 1 - i) 0).toNat))).setc (p := ⟨b, l.length - 1 - i, none⟩) (.int .u8 (x.getD i 0).toNat) (.inl rfl)
  have K0 : Keep (fun k => k = b) H1 H1 := Keep.refl _ _
  refine ⟨by omega, by omega, ⟨K0, K0, by omega, KA, by omega, KB, fin⟩, ⟨K0, K0, by omega, KA, by omega, KB, fin⟩⟩
 ·have := hR.all (by omega)
  subst this
  exact ⟨hO, K1⟩
theorem and127 (v : Nat) (h : v < 18446744073709551616) : bits .and .u64 (v : Int) 127 = ((v % 128 : Nat) : Int) := by
 have e : (v : Int) = ((UInt64.ofNat v).toNat : Int) := by rw [UInt64.toNat_ofNat']; omega
 have e2 : (127 : Int) = ((127 : UInt64).toNat : Int) := rfl
 rw [e, e2, bits_and, UInt64.toNat_and, UInt64.toNat_ofNat']
 have : (127 : UInt64).toNat = 2 ^ 7 - 1 := rfl
 rw [this, Nat.and_two_pow_sub_one_eq_mod]
 omega
theorem or128 (x : Nat) (h : x < 128) : bits .or .u8 (x : Int) 128 = ((x + 128 : Nat) : Int) := by
 have : ∀ m : Fin 128, bits .or .u8 ((m.val : Nat) : Int) 128 = ((m.val + 128 : Nat) : Int) := by decide +kernel
 exact this ⟨x, h⟩
theorem u8_of (n : Nat) (h : n < 256) : (n : Int) = ((UInt8.ofNat n).toNat : Int) := by rw [UInt8.toNat_ofNat']; omega
def NumSpec (P : Program) (k : FuncId) : Prop := ∀ (v : Nat) (H : Hp), v < 18446744073709551616 -> CallsM P k #[.int .u64 v] H fun r H' => OwS H' r (w8 (enc7 v)) /\ (∀ k, ownB r k -> H.size <= k) /\ Keep (fun _ => False) H H'
theorem groups_ok {P : Program} {ι : Ids} {k : FuncId} (hk : FnIs P k (c_groups ι) r_groups 1) (hr : RevSpec P (ι.f 52)) : NumSpec P k := by
 intro v H hv
 refine calls_of_vc hk (args := [_]) (by simp) ?_
 unfold c_groups r_groups
 have a1 := and127 v hv
 have w1 : ∀ m : Nat, m < 256 -> IntKind.u8.wrap (m : Int) = (m : Int) := fun m hm => by rw [IntKind.wrap_u8]; omega
 have sh : ∀ u : Nat, (u : Int) / 2 ^ 7 = ((u / 128 : Nat) : Int) := fun u => by
  have : (2 ^ 7 : Int) = 128 := by decide
  rw [this]; omega
 simp (disch := omega) only [go_sem, zS, ↓reduceIte, Za, Zb, Zc, reduceCtorEq, a1, w1]
 refine kont_news fun H1 b1 e1 z1 B1 K1 => ?_
 have k1 := K1.size
 have B1 : Bl H1 b1 (w8 [UInt8.ofNat (v % 128)]) := by
  have e := u8_of (v % 128) (by omega)
  simp only [w8, List.map_cons, List.map_nil, <- e]; exact B1
 simp only [go_sem, zS, ↓reduceIte, Za, Zb, Zc, reduceCtorEq, kont_eq, sh]
 refine And.intro (by omega) ?_
 refine vc_loop [11, 3, 0] rfl (fun n f H' => ∃ (u : Nat) (out : List UInt8), n = u /\ u < 18446744073709551616 /\ f 0 = .int .u64 u /\ OwS H' (f 3) (w8 out) /\ (∀ k, ownB (f 3) k -> H.size <= k) /\ out ++ tl7 u = le7 v /\ Keep (fun _ => False) H H') (v / 128)
  ⟨v / 128, [UInt8.ofNat (v % 128)], rfl, by omega, rfl, OwS.new B1 (by simp [w8]) rfl, fun k (h : k = b1) => by omega, rfl, K1⟩ ?_
 rintro n g H2 ⟨u, out, rfl, hu, hf0, O2, o2, ho, K2⟩
 have hol : out.length <= 11 := by
  have := enc7_len v hv
  simp only [enc7, List.length_reverse, <- ho, List.length_append] at this; omega
 simp only [go_sem, zS, ↓reduceIte, Za, Zb, Zc, reduceCtorEq, kont_eq] at hf0 O2 o2
 simp only [go_sem, zS, ↓reduceIte, Za, Zb, Zc, reduceCtorEq, kont_eq, hf0]
 refine iteV_dec (fun hlt => ?_) (fun hge => ?_)
 ·have hu0 : n ≠ 0 := by omega
  have a2 := and127 n hu
  have o1 := or128 (n % 128) (by omega)
  simp (disch := omega) only [go_sem, zS, ↓reduceIte, Za, Zb, Zc, reduceCtorEq, kont_eq, hf0, a2, w1, o1, sh]
  generalize hA : Array.push H2 _ = H3
  have B3 : Bl H3 H2.size (w8 [UInt8.ofNat (n % 128 + 128)]) := by
   have e := u8_of (n % 128 + 128) (by omega)
   rw [<- hA]; simp only [w8, List.map_cons, List.map_nil, <- e]; exact Bl.new' _ _ _
  have K3 : Keep (fun _ => False) H2 H3 := by rw [<- hA]; exact (Keep.refl _ _).push _
  have K3' := K2.trans K3
  refine app_bytesN H.size (l := out) (m := [UInt8.ofNat (n % 128 + 128)]) (O2.keep K3 (by simp)) o2 (by have := K3'.size; omega) (SlR.bl (l := w8 [UInt8.ofNat (n % 128 + 128)]) B3 0 1 1 (by omega) (by simp [w8])) rfl (by simp; omega) fun v4 H4 O4 o4 K4 => ?_
  simp (disch := omega) only [go_sem, zS, ↓reduceIte, Za, Zb, Zc, reduceCtorEq, kont_eq, hf0, sh]
  refine And.intro (by omega) ?_
  refine ⟨n / 128, by omega, n / 128, _, rfl, by omega, rfl, O4, o4, ?_, K3'.at_old K4 (by omega)⟩
  rw [List.append_assoc, List.singleton_append, <- tl7_pos hu0]; exact ho
 ·have hu0 : n = 0 := by omega
  subst hu0
  rw [tl7_0, List.append_nil] at ho
  subst ho
  refine (hr _ _ _ O2 (by omega)).mono ?_
  rintro r H3 ⟨rfl, O3, K3⟩
  simp only [go_sem, zS, ↓reduceIte, Za, Zb, Zc, reduceCtorEq, kont_eq]
  exact ⟨O3, o2, K2.trans' K3 (fun i hi e => by have := o2 i e; omega)⟩
def grow (F : Nat -> Prop) (H H' : Hp) : Nat -> Prop := fun k => F k \/ (H.size <= k /\ k < H'.size)
def WrB (F : Nat -> Prop) (H : Hp) (w : Nat) (l : List UInt8) : Prop := ∃ v, Bl H w [v] /\ OwS H v (w8 l) /\ ¬ ownB v w /\ F w /\ (∀ k, ownB v k -> F k) /\ ∀ k, F k -> k < H.size
theorem WrB.keep {F W : Nat -> Prop} {H H' : Hp} {w : Nat} {l : List UInt8} (h : WrB F H w l) (hk : Keep W H H') (hw : ∀ k, F k -> ¬ W k) : WrB F H' w l := by
 obtain ⟨v, h1, h2, h3, h4, h5, h6⟩ := h
 exact ⟨v, hk.bl h1 (hw _ h4), h2.keep hk (fun k hb => hw k (h5 k hb)), h3, h4, h5, fun k hf => Nat.lt_of_lt_of_le (h6 k hf) hk.size⟩
theorem WrB.bound {F : Nat -> Prop} {H : Hp} {w : Nat} {l : List UInt8} (h : WrB F H w l) : ∀ k, F k -> k < H.size := let ⟨_, _, _, _, _, _, h6⟩ := h; h6
def WRawSpec (P : Program) (k : FuncId) : Prop := ∀ (F : Nat -> Prop) (w : Nat) (l m : List UInt8) (v : Value) (H : Hp), WrB F H w l -> SlR H v (w8 m) -> l.length + m.length <= 100000000 →
 CallsM P k #[.pointer (some ⟨w, 0, none⟩), v] H fun r H' => r = .tuple #[] /\ WrB (grow F H H') H' w (l ++ m) /\ Keep F H H'
theorem wraw_ok {P : Program} {ι : Ids} {k : FuncId} (hk : FnIs P k (c_wraw ι) r_wraw 2) : WRawSpec P k := by
 intro F w l m v H hw hv hlm
 refine calls_of_vc hk (args := [_, _]) (by simp) ?_
 unfold c_wraw r_wraw
 obtain ⟨u, hB, hO, hn, hFw, hFo, hFs⟩ := hw
 simp only [go_sem, zS, ↓reduceIte, Za, Zb, Zc, reduceCtorEq, kont_eq, hB.cell]
 refine app_bytes hO hv rfl (by omega) fun v1 H1 O1 K1 o1 => ?_
 have B1 := K1.bl hB hn
 have hwl := hB.lt
 have h1 := K1.size
 have n1 : ¬ ownB v1 w := fun h => by rcases o1 w h with h | h; exact hn h; omega
 obtain ⟨a1, m1, c1, rfl⟩ := O1.shape
 have B2 := B1.setc 0 (.slice a1 m1 c1)
 simp only [go_sem, zS, ↓reduceIte, Za, Zb, Zc, reduceCtorEq, kont_eq, B1.cell, B1.frz]
 refine ⟨⟨_, B2, O1.keep ((Keep.refl (fun k => k = w) H1).setc (p := ⟨w, 0, none⟩) (.slice a1 m1 c1) (.inl rfl)) (fun k h e => n1 (e ▸ h)), n1, .inl hFw, fun k h => ?_, fun k h => ?_⟩, (K1.mono fun k _ h => hFo k h).setc (p := ⟨w, 0, none⟩) _ (.inl hFw)⟩
 ·rcases o1 k h with h' | h'
  ·exact .inl (hFo k h')
  ·exact .inr ⟨h', by rw [size_setc]; exact O1.old h⟩
 ·have hz := size_setc H1 ⟨w, 0, none⟩ (.slice a1 m1 c1)
  rw [hz]
  rcases h with h | h
  ·have := hFs k h; omega
  ·rw [hz] at h; exact h.2
def WNewSpec (P : Program) (k : FuncId) : Prop := ∀ H, CallsM P k #[] H fun r H' => r = .pointer (some ⟨H.size, 0, none⟩) /\ WrB (fun k => k = H.size) H' H.size [] /\ Keep (fun _ => False) H H'
theorem wnew_ok {P : Program} {ι : Ids} {k : FuncId} (hk : FnIs P k (c_wnew ι) r_wnew 0) : WNewSpec P k := by
 intro H
 refine calls_of_vc hk (args := []) (by simp) ?_
 unfold c_wnew r_wnew
 simp only [go_sem, zS, ↓reduceIte, Za, Zb, Zc, reduceCtorEq, okFill, fillV]
 refine kont_new fun H1 b1 e1 z1 B1 K1 => ?_
 subst e1
 simp only [go_sem, zS, ↓reduceIte, Za, Zb, Zc, reduceCtorEq, kont_eq]
 exact ⟨⟨_, B1, OwS.nil _, fun h => h.elim, rfl, fun k h => h.elim, fun k h => by omega⟩, K1⟩
def WUintSpec (P : Program) (k : FuncId) : Prop := ∀ (F : Nat -> Prop) (w : Nat) (l : List UInt8) (v : Nat) (H : Hp), WrB F H w l -> v < 18446744073709551616 -> l.length <= 90000000 →
 CallsM P k #[.pointer (some ⟨w, 0, none⟩), .int .u64 v] H fun r H' => r = .tuple #[] /\ WrB (grow F H H') H' w (l ++ enc7 v) /\ Keep F H H'
theorem WrB.mono {F G : Nat -> Prop} {H : Hp} {w : Nat} {l : List UInt8} (h : WrB F H w l) (hf : ∀ k, F k -> G k) (hg : ∀ k, G k -> k < H.size) : WrB G H w l := by
 obtain ⟨v, h1, h2, h3, h4, h5, h6⟩ := h
 exact ⟨v, h1, h2, h3, hf _ h4, fun k hk => hf k (h5 k hk), hg⟩
theorem wuint_ok {P : Program} {ι : Ids} {k : FuncId} (hk : FnIs P k (c_wuint ι) r_wuint 2) (hg : NumSpec P (ι.f 53)) (hr : WRawSpec P (ι.f 56)) : WUintSpec P k := by
 intro F w l v H hw hv hl
 refine calls_of_vc hk (args := [_, _]) (by simp) ?_
 unfold c_wuint r_wuint
 simp only [go_sem, zS, ↓reduceIte, Za, Zb, Zc, reduceCtorEq, kont_eq]
 refine (hg _ _ hv).mono ?_
 rintro r1 H1 ⟨O1, o1, K1⟩
 have := enc7_len v hv
 have k1 := K1.size
 have hb := hw.bound
 simp only [go_sem, zS, ↓reduceIte, Za, Zb, Zc, reduceCtorEq, kont_eq]
 refine (hr _ _ _ _ _ _ (hw.keep K1 (by simp)) O1.sl (by omega)).mono ?_
 rintro r H2 ⟨rfl, W2, K2⟩
 simp only [go_sem, zS, ↓reduceIte, Za, Zb, Zc, reduceCtorEq, kont_eq]
 refine ⟨W2.mono (fun k h => ?_) (fun k h => ?_), K1.any.trans K2⟩
 ·rcases h with h | h
  ·exact .inl h
  ·exact .inr ⟨by omega, h.2⟩
 ·have := K2.size
  rcases h with h | h
  ·have := hb k h; omega
  ·exact h.2
def WBytesSpec (P : Program) (k : FuncId) : Prop := ∀ (F : Nat -> Prop) (w : Nat) (l m : List UInt8) (v : Value) (H : Hp), WrB F H w l -> SlR H v (w8 m) -> (∀ k, slB v k -> ¬ F k) -> l.length + m.length <= 80000000 →
 CallsM P k #[.pointer (some ⟨w, 0, none⟩), v] H fun r H' => r = .tuple #[] /\ WrB (grow F H H') H' w (l ++ encB m) /\ Keep F H H'
theorem wbytes_ok {P : Program} {ι : Ids} {k : FuncId} (hk : FnIs P k (c_wbytes ι) r_wbytes 2) (hu : WUintSpec P (ι.f 57)) (hr : WRawSpec P (ι.f 56)) : WBytesSpec P k := by
 intro F w l m v H hw hv hvF hl
 refine calls_of_vc hk (args := [_, _]) (by simp) ?_
 unfold c_wbytes r_wbytes
 have w6 : IntKind.u64.wrap (m.length : Int) = (m.length : Int) := by rw [IntKind.wrap_u64]; omega
 simp only [go_sem, zS, ↓reduceIte, Za, Zb, Zc, reduceCtorEq, kont_eq, hv.isSl, hv.len, w8_len, w6]
 refine (hu _ _ _ _ _ hw (by omega) (by omega)).mono ?_
 rintro r1 H1 ⟨rfl, W1, K1⟩
 have k1 := K1.size
 have hb := hw.bound
 have := enc7_len m.length (by omega)
 simp only [go_sem, zS, ↓reduceIte, Za, Zb, Zc, reduceCtorEq, kont_eq]
 refine (hr _ _ _ _ _ _ W1 (hv.keep K1 hvF) (by rw [List.length_append]; omega)).mono ?_
 rintro r H2 ⟨rfl, W2, K2⟩
 have k2 := K2.size
 simp only [go_sem, zS, ↓reduceIte, Za, Zb, Zc, reduceCtorEq, kont_eq]
 rw [List.append_assoc] at W2
 refine ⟨W2.mono (fun k h => ?_) (fun k h => ?_), K1.trans' K2 (fun i hi h => ?_)⟩
 ·rcases h with (h | h) | h
  ·exact .inl h
  ·exact .inr ⟨h.1, by omega⟩
  ·exact .inr ⟨by omega, h.2⟩
 ·rcases h with h | h
  ·have := hb k h; omega
  ·exact h.2
 ·rcases h with h | h
  ·exact h
  ·omega
def WStringSpec (P : Program) (k : FuncId) : Prop := ∀ (F : Nat -> Prop) (w : Nat) (l m : List UInt8) (H : Hp), WrB F H w l -> l.length + m.length <= 80000000 →
 CallsM P k #[.pointer (some ⟨w, 0, none⟩), .string ⟨m.toArray⟩] H fun r H' => r = .tuple #[] /\ WrB (grow F H H') H' w (l ++ encB m) /\ Keep F H H'
theorem s2b_new (H : Hp) (m : List UInt8) (T : TypeId) (c : Nat) (hc : m.length <= c) : Keep (fun _ => False) H (H.push (.cells (byteCells ⟨m.toArray⟩ ++ Array.replicate (c - m.length) (.int .u8 0)) T (c, c + 1))) ∧
  SlR (H.push (.cells (byteCells ⟨m.toArray⟩ ++ Array.replicate (c - m.length) (.int .u8 0)) T (c, c + 1))) (.slice (some ⟨H.size, 0, none⟩) m.length c) (w8 m) := by
 have hbc : (byteCells ⟨m.toArray⟩).toList = w8 m := by simp [byteCells, w8]
 refine ⟨(Keep.refl _ _).push _, ?_⟩
 have := SlR.at_ (H := H.push (.cells (byteCells ⟨m.toArray⟩ ++ Array.replicate (c - m.length) (.int .u8 0)) T (c, c + 1))) (b := H.size) (o := 0) (c := c) (l := w8 m) (C := byteCells ⟨m.toArray⟩ ++ Array.replicate (c - m.length) (.int .u8 0)) (T := T) (z := (c, c + 1)) (by rw [w8_len]; exact hc) (by simp) (by
  rw [w8_len, Array.size_append]
  have : (byteCells ⟨m.toArray⟩).size = m.length := by rw [<- Array.length_toList, hbc, w8_len]
  omega) (by
  rw [Array.toList_append, hbc, List.drop_zero, List.take_left' rfl])
 rwa [w8_len] at this
theorem wstring_ok {P : Program} {ι : Ids} {k : FuncId} (hk : FnIs P k (c_wstring ι) r_wstring 2) (hb : WBytesSpec P (ι.f 58)) : WStringSpec P k := by
 intro F w l m H hw hl
 refine calls_of_vc hk (args := [_, _]) (by simp) ?_
 unfold c_wstring r_wstring
 simp only [go_sem, zS, ↓reduceIte, Za, Zb, Zc, reduceCtorEq, kont_eq]
 intro c hc
 have hc : m.length <= c := hc
 obtain ⟨K1, S1⟩ := s2b_new H m (ι.t 19) c hc
 generalize Array.push H _ = H1 at *
 have k1 := K1.size
 have hbd := hw.bound
 refine (hb _ _ _ _ _ _ (hw.keep K1 (by simp)) S1 (fun k h hF => ?_) hl).mono ?_
 ·have h := h.1
  have := hbd k hF
  simp only [] at h
  omega
 rintro r H2 ⟨rfl, W2, K2⟩
 have k2 := K2.size
 simp only [go_sem, zS, ↓reduceIte, Za, Zb, Zc, reduceCtorEq, kont_eq]
 refine ⟨W2.mono (fun k h => ?_) (fun k h => ?_), K1.any.trans K2⟩
 ·rcases h with h | h
  ·exact .inl h
  ·exact .inr ⟨by omega, h.2⟩
 ·rcases h with h | h
  ·have := hbd k h; omega
  ·exact h.2
def WOutSpec (P : Program) (k : FuncId) : Prop := ∀ (F : Nat -> Prop) (w : Nat) (l : List UInt8) (H : Hp), WrB F H w l -> l.length <= 100000000 →
 CallsM P k #[.pointer (some ⟨w, 0, none⟩)] H fun r H' => OwS H' r (w8 l) /\ (∀ k, ownB r k -> H.size <= k) /\ Keep (fun _ => False) H H'
theorem wout_ok {P : Program} {ι : Ids} {k : FuncId} (hk : FnIs P k (c_wout ι) r_wout 1) (hc : CloneSpec P (ι.f 51)) : WOutSpec P k := by
 intro F w l H hw hl
 refine calls_of_vc hk (args := [_]) (by simp) ?_
 unfold c_wout r_wout
 obtain ⟨v, hB, hO, hn, hFw, hFo, hFs⟩ := hw
 simp only [go_sem, zS, ↓reduceIte, Za, Zb, Zc, reduceCtorEq, kont_eq, hB.cell]
 refine (hc _ _ _ hO.sl hl).mono ?_
 rintro r H1 ⟨O1, o1, K1⟩
 simp only [go_sem, zS, ↓reduceIte, Za, Zb, Zc, reduceCtorEq, kont_eq]
 exact ⟨O1, o1, K1⟩
end Go.Mg
namespace Go.Mg
open Go Go.RowKit
set_option linter.all false
set_option maxRecDepth 100000
def c_rnewr (ι : Ids) : S :=
 .seq (.reg [.p (.v 2) (.mv (.c (.pointer .none)))]) (.seq (.reg [.p (.t 3) (.mv (.v 0)), .e (.t 4) (.call (ι.f 51) [.t 3]), .p (.t 5) (.m (.bld #[.slice .none 0 0, .int .i64 0] [(0, (1, .t 4))])), .e
 (.t 6) (.box (ι.t 107) (.t 5)), .p (.v 2) (.mv (.t 6))]) .ret)
def r_rnewr : List RV := [.t 2]
def c_rcount (ι : Ids) : S :=
 .seq (.reg [.p (.v 4) (.mv (.c (.int .i64 0)))]) (.seq (.seq (.reg [.p (.t 7) (.mv (.v 0)), .e (.t 8) (.call (ι.f 109) [.t 7]), .p (.t 9) (.not (.t 8)), .p (.t 10) (.mv (.t 9)), .gp (.t 11) (.t 10)
 false (.mv (.v 0)), .gp (.t 12) (.t 10) false (.mv (.v 1)), .gp (.t 13) (.t 10) false (.cm .lss .i64 (.t 12) (.c (.int .i64 0))), .ge (.t 14) (.t 10) false (.call (ι.f 110) [.t 11, .t 13, .c (.int
 .i64 1)]), .gp (.t 15) (.t 10) false (.not (.t 14)), .p (.v 16) (.pick (.t 10) (.c (.bool true)) (.t 15))]) (.ite (.v 16) (.seq (.reg [.p (.v 4) (.mv (.c (.int .i64 0)))]) .ret) .skip)) (.seq (.reg
 [.p (.t 18) (.mv (.v 0)), .e (.t 19) (.call (ι.f 111) [.t 18]), .p (.t 17) (.mv (.t 19)), .p (.t 20) (.ext (.t 17) 0), .p (.t 21) (.ext (.t 17) 1), .p (.v 5) (.mv (.t 20)), .p (.v 6) (.mv (.t 21))])
 (.seq (.seq (.reg [.p (.t 22) (.mv (.v 0)), .p (.t 23) (.mv (.v 6)), .p (.t 24) (.cm .eql .i64 (.t 23) (.c (.int .i64 0))), .e (.t 25) (.call (ι.f 110) [.t 22, .t 24, .c (.int .i64 6)]), .p (.t 26)
 (.not (.t 25)), .p (.t 27) (.mv (.t 26)), .gp (.t 28) (.t 27) false (.mv (.v 0)), .gp (.t 29) (.t 27) false (.mv (.v 5)), .gp (.t 30) (.t 27) false (.mv (.v 1)), .gp (.t 31) (.t 27) false (.ii .u64
 (.t 30)), .gp (.t 32) (.t 27) false (.cm .gtr .u64 (.t 29) (.t 31)), .ge (.t 33) (.t 27) false (.call (ι.f 110) [.t 28, .t 32, .c (.int .i64 3)]), .gp (.t 34) (.t 27) false (.not (.t 33)), .p (.v 35)
 (.pick (.t 27) (.c (.bool true)) (.t 34))]) (.ite (.v 35) (.seq (.reg [.p (.v 4) (.mv (.c (.int .i64 0)))]) .ret) .skip)) (.seq (.reg [.p (.t 36) (.mv (.v 0)), .p (.t 37) (.mv (.v 6)), .e (.t 38)
 (.call (ι.f 112) [.t 36, .t 37])]) (.seq (.reg [.p (.t 39) (.mv (.v 5)), .p (.t 40) (.ii .i64 (.t 39)), .p (.v 4) (.mv (.t 40))]) .ret)))))
def r_rcount : List RV := [.t 4]
def c_rstring (ι : Ids) : S :=
 .seq (.reg [.p (.v 4) (.mv (.c (.string ⟨#[]⟩)))]) (.seq (.reg [.p (.t 5) (.mv (.v 0)), .p (.t 6) (.mv (.v 1)), .e (.t 7) (.call (ι.f 114) [.t 5, .t 6]), .p (.t 8) (.m (.b2s (.t 7))), .p (.v 4) (.mv
 (.t 8))]) .ret)
def r_rstring : List RV := [.t 4]
def c_rend (ι : Ids) : S :=
 .seq (.reg [.p (.v 2) (.mv (.c (.int .i64 0)))]) (.seq (.seq (.reg [.p (.t 3) (.mv (.v 0)), .e (.t 4) (.call (ι.f 109) [.t 3]), .p (.t 5) (.mv (.t 4)), .gp (.t 6) (.t 5) true (.mv (.v 0)), .gp (.t 7)
 (.t 5) true (.nil (.t 6)), .gp (.t 8) (.t 5) true (.fa 0 (.t 7)), .gp (.t 9) (.t 5) true (.ld (.t 8)), .gp (.t 10) (.t 5) true (.m (.lenl (.t 9))), .gp (.t 11) (.t 5) true (.cm .gtr .i64 (.t 10) (.c
 (.int .i64 0))), .p (.v 12) (.pick (.t 5) (.t 11) (.c (.bool false)))]) (.ite (.v 12) (.seq (.reg [.p (.v 2) (.mv (.c (.int .i64 6)))]) .ret) .skip)) (.seq (.reg [.p (.t 13) (.mv (.v 0)), .e (.t 14)
 (.call (ι.f 116) [.t 13]), .p (.v 2) (.mv (.t 14))]) .ret))
def r_rend : List RV := [.t 2]
def c_rok (ι : Ids) : S :=
 .seq (.reg [.p (.v 2) (.mv (.c (.bool false)))]) (.seq (.reg [.p (.t 3) (.mv (.v 0)), .p (.t 4) (.m (.eqn .ptr true (.t 3))), .p (.t 5) (.mv (.t 4)), .gp (.t 6) (.t 5) true (.mv (.v 0)), .gp (.t 7)
 (.t 5) true (.nil (.t 6)), .gp (.t 8) (.t 5) true (.fa 1 (.t 7)), .gp (.t 9) (.t 5) true (.ld (.t 8)), .gp (.t 10) (.t 5) true (.cm .eql .i64 (.t 9) (.c (.int .i64 0))), .p (.t 11) (.pick (.t 5) (.t
 10) (.c (.bool false))), .p (.v 2) (.mv (.t 11))]) .ret)
def r_rok : List RV := [.t 2]
def c_rrefuse (ι : Ids) : S :=
 .seq (.reg [.p (.v 6) (.mv (.c (.bool false)))]) (.seq (.seq (.reg [.p (.v 7) (.mv (.v 1))]) (.ite (.v 7) (.reg [.p (.t 8) (.mv (.v 0)), .p (.t 9) (.mv (.v 2)), .e (.t 10) (.call (ι.f 118) [.t 8, .t
 9])]) .skip)) (.seq (.reg [.p (.t 11) (.mv (.v 1)), .p (.t 12) (.not (.t 11)), .p (.v 6) (.mv (.t 12))]) .ret))
def r_rrefuse : List RV := [.t 6]
def c_rnumb (ι : Ids) : S :=
 .seq (.reg [.p (.v 2) (.mv (.c (.int .u64 0))), .p (.v 3) (.mv (.c (.int .i64 0)))]) (.seq (.reg [.p (.v 4) (.mv (.c (.int .u64 0)))]) (.seq (.seq (.reg [.p (.t 7) (.mv (.v 0)), .p (.t 8) (.nil (.t
 7)), .p (.t 9) (.fa 0 (.t 8)), .p (.v 10) (.ld (.t 9)), .p (.v 11) (.m (.lenl (.v 10))), .p (.v 12) (.mv (.c (.int .i64 0)))]) (.blk 0 (.loop (.seq (.reg [.p (.v 13) (.cm .lss .i64 (.v 12) (.v 11))])
 (.seq (.ite (.v 13) .skip (.exit 0)) (.seq (.blk 1 (.seq (.reg [.p (.t 14) (.mv (.v 12)), .p (.t 15) (.is 1 (.v 10) (.v 12)), .p (.t 16) (.ld (.t 15)), .p (.v 5) (.mv (.t 14)), .p (.v 6) (.mv (.t
 16))]) (.seq (.seq (.reg [.p (.t 17) (.mv (.v 5)), .p (.t 18) (.cm .eql .i64 (.t 17) (.c (.int .i64 0))), .p (.t 19) (.mv (.t 18)), .gp (.t 20) (.t 19) true (.mv (.v 6)), .gp (.t 21) (.t 19) true (.cm
 .eql .u8 (.t 20) (.c (.int .u8 128))), .p (.t 22) (.pick (.t 19) (.t 21) (.c (.bool false))), .p (.t 23) (.mv (.t 22)), .gp (.t 24) (.t 23) false (.mv (.v 4)), .gp (.t 25) (.t 23) false (.cm .gtr .u64
 (.t 24) (.c (.int .u64 144115188075855871))), .p (.v 26) (.pick (.t 23) (.c (.bool true)) (.t 25))]) (.ite (.v 26) (.seq (.reg [.p (.v 2) (.mv (.c (.int .u64 0))), .p (.v 3) (.mv (.c (.int .i64 0)))])
 .ret) .skip)) (.seq (.reg [.p (.t 27) (.mv (.v 4)), .p (.t 28) (.sh .shl .u64 (.t 27) (.c (.int .u64 7))), .p (.t 29) (.mv (.v 6)), .p (.t 30) (.bt .and .u8 (.t 29) (.c (.int .u8 127))), .p (.t 31)
 (.ii .u64 (.t 30)), .p (.t 32) (.bt .or .u64 (.t 28) (.t 31)), .p (.v 4) (.mv (.t 32))]) (.seq (.reg [.p (.t 33) (.mv (.v 6)), .p (.v 34) (.cm .lss .u8 (.t 33) (.c (.int .u8 128)))]) (.ite (.v 34)
 (.seq (.reg [.p (.t 35) (.mv (.v 4)), .p (.t 36) (.mv (.v 5)), .p (.t 37) (.ar .add .i64 (.t 36) (.c (.int .i64 1))), .p (.v 2) (.mv (.t 35)), .p (.v 3) (.mv (.t 37))]) .ret) .skip)))))) (.reg [.p (.t
 38) (.ar .add .i64 (.v 12) (.c (.int .i64 1))), .p (.v 12) (.mv (.t 38))]))))))) (.seq (.reg [.p (.v 2) (.mv (.c (.int .u64 0))), .p (.v 3) (.mv (.c (.int .i64 0)))]) .ret)))
def r_rnumb : List RV := [.t 2, .t 3]
def c_rtake (ι : Ids) : S :=
 .seq (.reg [.p (.v 4) (.mv (.c (.slice .none 0 0)))]) (.seq (.reg [.p (.t 6) (.mv (.v 0)), .p (.t 7) (.nil (.t 6)), .p (.t 8) (.fa 0 (.t 7)), .p (.t 9) (.ld (.t 8)), .p (.t 10) (.mv (.v 1)), .p (.t
 11) (.m (.sls 1 (.t 9) .none (.some (.t 10)))), .e (.t 12) (.call (ι.f 51) [.t 11]), .p (.v 5) (.mv (.t 12))]) (.seq (.reg [.p (.t 13) (.mv (.v 0)), .p (.t 14) (.mv (.v 0)), .p (.t 15) (.nil (.t 14)),
 .p (.t 16) (.fa 0 (.t 15)), .p (.t 17) (.ld (.t 16)), .p (.t 18) (.mv (.v 1)), .p (.t 19) (.m (.sls 1 (.t 17) (.some (.t 18)) .none)), .p (.t 20) (.nil (.t 13)), .p (.t 21) (.fa 0 (.t 20)), .e .no
 (.st (.t 21) (.t 19))]) (.seq (.reg [.p (.t 22) (.mv (.v 5)), .p (.v 4) (.mv (.t 22))]) .ret)))
def r_rtake : List RV := [.t 4]
def c_rbytes (ι : Ids) : S :=
 .seq (.reg [.p (.v 4) (.mv (.c (.slice .none 0 0)))]) (.seq (.seq (.reg [.p (.t 7) (.mv (.v 0)), .e (.t 8) (.call (ι.f 109) [.t 7]), .p (.t 9) (.not (.t 8)), .p (.t 10) (.mv (.t 9)), .gp (.t 11) (.t
 10) false (.mv (.v 0)), .gp (.t 12) (.t 10) false (.mv (.v 1)), .gp (.t 13) (.t 10) false (.cm .lss .i64 (.t 12) (.c (.int .i64 0))), .ge (.t 14) (.t 10) false (.call (ι.f 110) [.t 11, .t 13, .c (.int
 .i64 1)]), .gp (.t 15) (.t 10) false (.not (.t 14)), .p (.v 16) (.pick (.t 10) (.c (.bool true)) (.t 15))]) (.ite (.v 16) (.seq (.reg [.p (.v 4) (.mv (.c (.slice .none 0 0)))]) .ret) .skip)) (.seq
 (.reg [.p (.t 18) (.mv (.v 0)), .e (.t 19) (.call (ι.f 111) [.t 18]), .p (.t 17) (.mv (.t 19)), .p (.t 20) (.ext (.t 17) 0), .p (.t 21) (.ext (.t 17) 1), .p (.v 5) (.mv (.t 20)), .p (.v 6) (.mv (.t
 21))]) (.seq (.seq (.reg [.p (.t 22) (.mv (.v 0)), .p (.t 23) (.mv (.v 6)), .p (.t 24) (.cm .eql .i64 (.t 23) (.c (.int .i64 0))), .e (.t 25) (.call (ι.f 110) [.t 22, .t 24, .c (.int .i64 6)]), .p (.t
 26) (.not (.t 25)), .p (.t 27) (.mv (.t 26)), .gp (.t 28) (.t 27) false (.mv (.v 0)), .gp (.t 29) (.t 27) false (.mv (.v 5)), .gp (.t 30) (.t 27) false (.mv (.v 1)), .gp (.t 31) (.t 27) false (.ii
 .u64 (.t 30)), .gp (.t 32) (.t 27) false (.cm .gtr .u64 (.t 29) (.t 31)), .ge (.t 33) (.t 27) false (.call (ι.f 110) [.t 28, .t 32, .c (.int .i64 3)]), .gp (.t 34) (.t 27) false (.not (.t 33)), .p (.t
 35) (.pick (.t 27) (.c (.bool true)) (.t 34)), .p (.t 36) (.mv (.t 35)), .gp (.t 37) (.t 36) false (.mv (.v 0)), .gp (.t 38) (.t 36) false (.mv (.v 5)), .gp (.t 39) (.t 36) false (.mv (.v 0)), .gp (.t
 40) (.t 36) false (.nil (.t 39)), .gp (.t 41) (.t 36) false (.fa 0 (.t 40)), .gp (.t 42) (.t 36) false (.ld (.t 41)), .gp (.t 43) (.t 36) false (.m (.lenl (.t 42))), .gp (.t 44) (.t 36) false (.mv (.v
 6)), .gp (.t 45) (.t 36) false (.ar .sub .i64 (.t 43) (.t 44)), .gp (.t 46) (.t 36) false (.ii .u64 (.t 45)), .gp (.t 47) (.t 36) false (.cm .gtr .u64 (.t 38) (.t 46)), .ge (.t 48) (.t 36) false
 (.call (ι.f 110) [.t 37, .t 47, .c (.int .i64 6)]), .gp (.t 49) (.t 36) false (.not (.t 48)), .p (.v 50) (.pick (.t 36) (.c (.bool true)) (.t 49))]) (.ite (.v 50) (.seq (.reg [.p (.v 4) (.mv (.c
 (.slice .none 0 0)))]) .ret) .skip)) (.seq (.reg [.p (.t 51) (.mv (.v 0)), .p (.t 52) (.mv (.v 6)), .e (.t 53) (.call (ι.f 112) [.t 51, .t 52])]) (.seq (.reg [.p (.t 54) (.mv (.v 0)), .p (.t 55) (.mv
 (.v 5)), .p (.t 56) (.ii .i64 (.t 55)), .e (.t 57) (.call (ι.f 112) [.t 54, .t 56]), .p (.v 4) (.mv (.t 57))]) .ret)))))
def r_rbytes : List RV := [.t 4]
def c_rerr (ι : Ids) : S :=
 .seq (.reg [.p (.v 2) (.mv (.c (.int .i64 0)))]) (.seq (.seq (.reg [.p (.t 3) (.mv (.v 0)), .p (.v 4) (.m (.eqn .ptr false (.t 3)))]) (.ite (.v 4) (.seq (.reg [.p (.v 2) (.mv (.c (.int .i64 1)))])
 .ret) .skip)) (.seq (.reg [.p (.t 5) (.mv (.v 0)), .p (.t 6) (.nil (.t 5)), .p (.t 7) (.fa 1 (.t 6)), .p (.t 8) (.ld (.t 7)), .p (.v 2) (.mv (.t 8))]) .ret))
def r_rerr : List RV := [.t 2]
def c_rfail (ι : Ids) : S :=
 .seq (.reg [.p (.t 4) (.mv (.v 0)), .e (.v 5) (.call (ι.f 109) [.t 4])]) (.ite (.v 5) (.reg [.p (.t 6) (.mv (.v 0)), .p (.t 7) (.mv (.v 1)), .p (.t 8) (.nil (.t 6)), .p (.t 9) (.fa 1 (.t 8)), .e .no
 (.st (.t 9) (.t 7))]) .skip)
def r_rfail : List RV := []
def dec7 : Bool -> Nat -> List UInt8 -> Option (Nat × List UInt8)
 | _, _, [] => none
 | first, v, b :: r => if (first = true /\ b.toNat = 128) \/ v > 144115188075855871 then none else if b.toNat < 128 then some (v * 128 + b.toNat % 128, r) else dec7 false (v * 128 + b.toNat % 128) r
theorem dec7_cons (first : Bool) (v : Nat) (b : UInt8) (r : List UInt8) : dec7 first v (b :: r) = if (first = true /\ b.toNat = 128) \/ v > 144115188075855871 then none else if b.toNat < 128 then some (v * 128 + b.toNat % 128, r) else dec7 false (v * 128 + b.toNat % 128) r := by rw [dec7]
theorem dec7_drop : ∀ (l : List UInt8) (first : Bool) (u v : Nat) (r : List UInt8), dec7 first u l = some (v, r) -> r.length < l.length /\ r = l.drop (l.length - r.length) /\ v < 18446744073709551616
 | [], _, _, _, _, h => by simp [dec7] at h
 | b :: l, first, u, v, r, h => by
  unfold dec7 at h
  split at h
  ·cases h
  ·rename_i c1
   split at h
   ·cases h
    refine ⟨by simp, ?_, by omega⟩
    simp
   ·obtain ⟨h1, h2, h3⟩ := dec7_drop l false _ v r h
    refine ⟨by simp; omega, ?_, h3⟩
    have e : (b :: l).length - r.length = (l.length - r.length) + 1 := by simp; omega
    rw [e, List.drop_succ_cons]; exact h2
def hi7 (u : Nat) : List UInt8 := (tl7 u).reverse
theorem hi7_0 : hi7 0 = [] := by rw [hi7, tl7_0]; rfl
theorem hi7_pos {u : Nat} (h : u ≠ 0) : hi7 u = hi7 (u / 128) ++ [UInt8.ofNat (u % 128 + 128)] := by
 rw [hi7, tl7_pos h, List.reverse_cons]; rfl
theorem enc7_hi (v : Nat) : enc7 v = hi7 (v / 128) ++ [UInt8.ofNat (v % 128)] := by
 rw [enc7, le7, List.reverse_cons]; rfl
theorem ofNat_lt (n : Nat) (h : n < 256) : (UInt8.ofNat n).toNat = n := by rw [UInt8.toNat_ofNat']; omega
theorem dec7_hi (u : Nat) (h0 : u ≠ 0) (h : u <= 144115188075855871) (r : List UInt8) : dec7 true 0 (hi7 u ++ r) = dec7 false u r := by
 induction u using Nat.strongRecOn generalizing r with
 | ind u ih =>
  rw [hi7_pos h0, List.append_assoc, List.singleton_append]
  have e := ofNat_lt (u % 128 + 128) (by omega)
  by_cases c : u / 128 = 0
  ·rw [c, hi7_0, List.nil_append, dec7, e, if_neg (by omega), if_neg (by omega)]
   congr 1; omega
  ·rw [ih (u / 128) (by omega) c (by omega), dec7, e, if_neg (by simp; omega), if_neg (by omega)]
   congr 1; omega
theorem dec7_enc (v : Nat) (h : v < 18446744073709551616) (r : List UInt8) : dec7 true 0 (enc7 v ++ r) = some (v, r) := by
 rw [enc7_hi, List.append_assoc, List.singleton_append]
 have e := ofNat_lt (v % 128) (by omega)
 by_cases c : v / 128 = 0
 ·rw [c, hi7_0, List.nil_append, dec7, e, if_neg (by omega), if_pos (by omega)]
  congr 2; omega
 ·rw [dec7_hi _ c (by omega), dec7, e, if_neg (by simp; omega), if_pos (by omega)]
  congr 2; omega
def RdB (F : Nat -> Prop) (H : Hp) (r : Nat) (l : List UInt8) (e : Int) : Prop := ∃ v, Bl H r [v, .int .i64 e] /\ SlR H v (w8 l) /\ F r /\ (∀ k, slB v k -> F k /\ k ≠ r) /\ ∀ k, F k -> k < H.size
theorem RdB.keep {F W : Nat -> Prop} {H H' : Hp} {r : Nat} {l : List UInt8} {e : Int} (h : RdB F H r l e) (hk : Keep W H H') (hw : ∀ k, F k -> ¬ W k) : RdB F H' r l e := by
 obtain ⟨v, h1, h2, h3, h4, h5⟩ := h
 exact ⟨v, hk.bl h1 (hw _ h3), h2.keep hk (fun k hb => hw k (h4 k hb).1), h3, h4, fun k hf => Nat.lt_of_lt_of_le (h5 k hf) hk.size⟩
theorem RdB.bound {F : Nat -> Prop} {H : Hp} {r : Nat} {l : List UInt8} {e : Int} (h : RdB F H r l e) : ∀ k, F k -> k < H.size := let ⟨_, _, _, _, _, h6⟩ := h; h6
theorem RdB.at {F : Nat -> Prop} {H : Hp} {r : Nat} {l : List UInt8} {e : Int} (h : RdB F H r l e) : F r := let ⟨_, _, _, h, _⟩ := h; h
def RNewRSpec (P : Program) (k : FuncId) : Prop := ∀ (l : List UInt8) (v : Value) (H : Hp), SlR H v (w8 l) -> l.length <= 100000000 -> CallsM P k #[v] H fun x H' => ∃ b F, x = .pointer (some ⟨b, 0, none⟩) /\ RdB F H' b l 0 /\ (∀ k, F k -> H.size <= k) /\ Keep (fun _ => False) H H'
theorem rnewr_ok {P : Program} {ι : Ids} {k : FuncId} (hk : FnIs P k (c_rnewr ι) r_rnewr 1) (hc : CloneSpec P (ι.f 51)) : RNewRSpec P k := by
 intro l v H hv hl
 refine calls_of_vc hk (args := [_]) (by simp) ?_
 unfold c_rnewr r_rnewr
 simp only [go_sem, zS, ↓reduceIte, Za, Zb, Zc, reduceCtorEq, kont_eq, zU, Zf, Zg]
 refine (hc _ _ _ hv hl).mono ?_
 rintro x H1 ⟨O1, o1, K1⟩
 obtain ⟨a, n, c, rfl⟩ := O1.shape
 simp only [go_sem, zS, ↓reduceIte, Za, Zb, Zc, reduceCtorEq, kont_eq, zU, Zf, Zg, okFill, fillV, Value.cells]
 generalize hA : Array.push H1 _ = H2
 have KA : Keep (fun _ => False) H1 H2 := by rw [<- hA]; exact (Keep.refl _ _).push _
 have BA : Bl H2 H1.size [.slice a n c, .int .i64 0] := by rw [<- hA]; exact Bl.new' _ _ _
 have k1 := K1.size
 refine ⟨by simp, H1.size, fun k => k = H1.size \/ slB (.slice a n c) k, rfl, ⟨_, BA, (O1.sl).keep KA (by simp), .inl rfl, fun k hk => ⟨.inr hk, ?_⟩, fun k hk => ?_⟩, fun k hk => ?_, K1.trans KA⟩
 ·have := O1.old (O1.slB hk); omega
 ·have q := BA.lt
  rcases hk with rfl | hk
  ·exact q
  ·have := O1.old (O1.slB hk); omega
 ·rcases hk with rfl | hk
  ·exact k1
  ·exact o1 _ (O1.slB hk)
def ROkSpec (P : Program) (k : FuncId) : Prop := ∀ (F : Nat -> Prop) (r : Nat) (l : List UInt8) (e : Int) (H : Hp), RdB F H r l e -> CallsM P k #[.pointer (some ⟨r, 0, none⟩)] H fun x H' => x = .bool (e == 0) /\ H' = H
theorem rok_ok {P : Program} {ι : Ids} {k : FuncId} (hk : FnIs P k (c_rok ι) r_rok 1) : ROkSpec P k := by
 intro F r l e H hr
 refine calls_of_vc hk (args := [_]) (by simp) ?_
 unfold c_rok r_rok
 obtain ⟨v, B, S, f1, f2, f3⟩ := hr
 simp only [go_sem, zS, ↓reduceIte, Za, Zb, Zc, reduceCtorEq, kont_eq, zU, Zf, Zg, B.cell]
def RFailSpec (P : Program) (k : FuncId) : Prop := ∀ (F : Nat -> Prop) (r : Nat) (l : List UInt8) (e e2 : Int) (H : Hp), RdB F H r l e -> CallsM P k #[.pointer (some ⟨r, 0, none⟩), .int .i64 e2] H fun x H' => x = .tuple #[] /\ RdB F H' r l (if e = 0 then e2 else e) /\ Keep (fun k => k = r) H H'
theorem rfail_ok {P : Program} {ι : Ids} {k : FuncId} (hk : FnIs P k (c_rfail ι) r_rfail 2) (ho : ROkSpec P (ι.f 109)) : RFailSpec P k := by
 intro F r l e e2 H hr
 refine calls_of_vc hk (args := [_, _]) (by simp) ?_
 unfold c_rfail r_rfail
 simp only [go_sem, zS, ↓reduceIte, Za, Zb, Zc, reduceCtorEq, kont_eq, zU, Zf, Zg]
 refine (ho _ _ _ _ _ hr).mono ?_
 rintro x H1 ⟨rfl, rfl⟩
 by_cases c : e = 0
 ·subst c
  obtain ⟨v, B, S, f1, f2, f3⟩ := hr
  simp only [go_sem, zS, ↓reduceIte, Za, Zb, Zc, reduceCtorEq, kont_eq, zU, Zf, Zg, B.cell, B.frz]
  have K := (Keep.refl (fun k => k = r) H1).setc (p := ⟨r, 0 + 1, none⟩) (.int .i64 e2) (.inl rfl)
  refine ⟨⟨v, B.setc 1 (.int .i64 e2), S.keep K (fun k hk => (f2 k hk).2), f1, f2, fun k hk => by rw [size_setc]; exact f3 k hk⟩, K⟩
 ·have e1 : (e == 0) = false := by simpa using c
  simp only [go_sem, zS, ↓reduceIte, Za, Zb, Zc, reduceCtorEq, kont_eq, zU, Zf, Zg, e1, c]
  exact ⟨hr, Keep.refl _ _⟩
def RRefSpec (P : Program) (k : FuncId) : Prop := ∀ (F : Nat -> Prop) (r : Nat) (l : List UInt8) (e2 : Int) (b : Bool) (H : Hp), RdB F H r l 0 -> CallsM P k #[.pointer (some ⟨r, 0, none⟩), .bool b, .int .i64 e2] H fun x H' => x = .bool (!b) /\ RdB F H' r l (if b = true then e2 else 0) /\ Keep (fun k => k = r) H H'
theorem rrefuse_ok {P : Program} {ι : Ids} {k : FuncId} (hk : FnIs P k (c_rrefuse ι) r_rrefuse 3) (hf : RFailSpec P (ι.f 118)) : RRefSpec P k := by
 intro F r l e2 b H hr
 refine calls_of_vc hk (args := [_, _, _]) (by simp) ?_
 unfold c_rrefuse r_rrefuse
 cases b with
 | false =>
  simp only [go_sem, zS, ↓reduceIte, Za, Zb, Zc, reduceCtorEq, kont_eq, zU, Zf, Zg]
  exact ⟨hr, Keep.refl _ _⟩
 | true =>
  simp only [go_sem, zS, ↓reduceIte, Za, Zb, Zc, reduceCtorEq, kont_eq, zU, Zf, Zg]
  refine (hf _ _ _ _ _ _ hr).mono ?_
  rintro x H1 ⟨rfl, R1, K1⟩
  simp only [go_sem, zS, ↓reduceIte, Za, Zb, Zc, reduceCtorEq, kont_eq, zU, Zf, Zg] at R1 ⊢
  exact ⟨R1, K1⟩
def RErrSpec (P : Program) (k : FuncId) : Prop := ∀ (F : Nat -> Prop) (r : Nat) (l : List UInt8) (e : Int) (H : Hp), RdB F H r l e -> CallsM P k #[.pointer (some ⟨r, 0, none⟩)] H fun x H' => x = .int .i64 e /\ H' = H
theorem rerr_ok {P : Program} {ι : Ids} {k : FuncId} (hk : FnIs P k (c_rerr ι) r_rerr 1) : RErrSpec P k := by
 intro F r l e H hr
 refine calls_of_vc hk (args := [_]) (by simp) ?_
 unfold c_rerr r_rerr
 obtain ⟨v, B, S, f1, f2, f3⟩ := hr
 simp only [go_sem, zS, ↓reduceIte, Za, Zb, Zc, reduceCtorEq, kont_eq, zU, Zf, Zg, B.cell]
def endE (s : List UInt8 × Int) : Int := if s.2 = 0 /\ 0 < s.1.length then 6 else s.2
def REndSpec (P : Program) (k : FuncId) : Prop := ∀ (F : Nat -> Prop) (r : Nat) (l : List UInt8) (e : Int) (H : Hp), RdB F H r l e -> CallsM P k #[.pointer (some ⟨r, 0, none⟩)] H fun x H' => x = .int .i64 (endE (l, e)) /\ H' = H
theorem rend_ok {P : Program} {ι : Ids} {k : FuncId} (hk : FnIs P k (c_rend ι) r_rend 1) (ho : ROkSpec P (ι.f 109)) (her : RErrSpec P (ι.f 116)) : REndSpec P k := by
 intro F r l e H hr
 refine calls_of_vc hk (args := [_]) (by simp) ?_
 unfold c_rend r_rend
 simp only [go_sem, zS, ↓reduceIte, Za, Zb, Zc, reduceCtorEq, kont_eq, zU, Zf, Zg]
 refine (ho _ _ _ _ _ hr).mono ?_
 rintro x H1 ⟨rfl, rfl⟩
 have hr' := hr
 obtain ⟨v, B, S, f1, f2, f3⟩ := hr'
 by_cases c : e = 0
 ·subst c
  by_cases c2 : (l.length : Int) > 0
  ·have : endE (l, 0) = 6 := by unfold endE; rw [if_pos ⟨rfl, by simpa using c2⟩]
   simp only [go_sem, zS, ↓reduceIte, Za, Zb, Zc, reduceCtorEq, kont_eq, zU, Zf, Zg, B.cell, S.isSl, S.len, w8_len, c2, this]
  ·have : endE (l, 0) = 0 := by unfold endE; rw [if_neg (fun h => by have h2 : 0 < l.length := h.2; omega)]
   simp only [go_sem, zS, ↓reduceIte, Za, Zb, Zc, reduceCtorEq, kont_eq, zU, Zf, Zg, B.cell, S.isSl, S.len, w8_len, c2, this]
   refine (her _ _ _ _ _ hr).mono ?_
   rintro x H1 ⟨rfl, rfl⟩
   simp only [go_sem, zS, ↓reduceIte, Za, Zb, Zc, reduceCtorEq, kont_eq, zU, Zf, Zg]
 ·have e1 : (e == 0) = false := by simpa using c
  have : endE (l, e) = e := by unfold endE; rw [if_neg (by simp [c])]
  simp only [go_sem, zS, ↓reduceIte, Za, Zb, Zc, reduceCtorEq, kont_eq, zU, Zf, Zg, e1, this]
  refine (her _ _ _ _ _ hr).mono ?_
  rintro x H1 ⟨rfl, rfl⟩
  simp only [go_sem, zS, ↓reduceIte, Za, Zb, Zc, reduceCtorEq, kont_eq, zU, Zf, Zg]
def decN (l : List UInt8) : Nat × Nat := match dec7 true 0 l with | some (v, r) => (v, l.length - r.length) | none => (0, 0)
theorem and127b (b : UInt8) : bits .and .u8 (b.toNat : Int) 127 = ((b.toNat % 128 : Nat) : Int) := by
 have : ∀ m : Fin 256, bits .and .u8 ((m.val : Nat) : Int) 127 = ((m.val % 128 : Nat) : Int) := by decide +kernel
 exact this ⟨b.toNat, b.toNat_lt⟩
theorem or7 (a b : Nat) (hb : b < 128) (h : a * 128 + b < 18446744073709551616) : bits .or .u64 ((a * 128 : Nat) : Int) (b : Int) = ((a * 128 + b : Nat) : Int) := by
 have e1 : ((a * 128 : Nat) : Int) = ((UInt64.ofNat (a * 128)).toNat : Int) := by rw [UInt64.toNat_ofNat']; omega
 have e2 : (b : Int) = ((UInt64.ofNat b).toNat : Int) := by rw [UInt64.toNat_ofNat']; omega
 rw [e1, e2, bits_or, UInt64.toNat_or, UInt64.toNat_ofNat', UInt64.toNat_ofNat', Nat.mod_eq_of_lt (by omega), Nat.mod_eq_of_lt (by omega)]
 have e3 : a * 128 = a <<< 7 := by rw [Nat.shiftLeft_eq]
 rw [e3, <- Nat.shiftLeft_add_eq_or_of_lt (show b < 2 ^ 7 from hb)]
def RNumbSpec (P : Program) (k : FuncId) : Prop := ∀ (F : Nat -> Prop) (r : Nat) (l : List UInt8) (e : Int) (H : Hp), RdB F H r l e -> l.length <= 100000000 -> CallsM P k #[.pointer (some ⟨r, 0, none⟩)] H fun x H' => x = .tuple #[.int .u64 (decN l).1, .int .i64 (decN l).2] /\ H' = H
theorem rnumb_ok {P : Program} {ι : Ids} {k : FuncId} (hk : FnIs P k (c_rnumb ι) r_rnumb 1) : RNumbSpec P k := by
 intro F r l e H hr hl
 refine calls_of_vc hk (args := [_]) (by simp) ?_
 unfold c_rnumb r_rnumb
 obtain ⟨v, B, S, f1, f2, f3⟩ := hr
 simp only [go_sem, zS, ↓reduceIte, Za, Zb, Zc, reduceCtorEq, kont_eq, zU, Zf, Zg, B.cell, S.isSl, S.len, w8_len]
 refine vc_loop [13, 5, 6, 26, 2, 3, 4, 34, 12] rfl (fun n f H' => ∃ i u : Nat, i <= l.length /\ n = l.length - i /\ f 12 = .int .i64 i /\ f 4 = .int .u64 u /\ u < 18446744073709551616 /\ H' = H /\ dec7 true 0 l = dec7 (i == 0) u (l.drop i)) l.length
  ⟨0, 0, by omega, by omega, rfl, rfl, by omega, rfl, rfl⟩ ?_
 rintro n g H' ⟨i, u, hi, rfl, hf12, hf4, hu, rfl, hd⟩
 simp only [go_sem, zS, ↓reduceIte, Za, Zb, Zc, reduceCtorEq, kont_eq, zU, Zf, Zg] at hf12 hf4
 simp only [go_sem, zS, ↓reduceIte, Za, Zb, Zc, reduceCtorEq, kont_eq, zU, Zf, Zg, hf12, hf4]
 refine iteV_dec (fun hlt => ?_) (fun hge => ?_)
 ·have hi2 : i < l.length := by omega
  obtain ⟨bV, oV, cV, rfl, -, -⟩ := S.cells (by intro e; have h := congrArg List.length e; rw [w8_len, List.length_nil] at h; omega)
  have hcell := S.cell_at (i := i) (by rw [w8_len]; omega)
  rw [w8_get _ _ hi2] at hcell
  have e1 : l.drop i = l.getD i 0 :: l.drop (i + 1) := by
   rw [List.drop_eq_getElem_cons hi2]; simp [hi2]
  rw [e1] at hd
  generalize l.getD i 0 = b at *
  have hb := b.toNat_lt
  have a1 := and127b b
  have w1 : IntKind.u64.wrap ((b.toNat % 128 : Nat) : Int) = ((b.toNat % 128 : Nat) : Int) := by rw [IntKind.wrap_u64]; omega
  have i0 : ((i : Int) == 0) = (i == 0) := by
   by_cases h : i = 0
   ·subst h; rfl
   ·rw [beq_eq_false_iff_ne.2 (by omega : (i : Int) ≠ 0), beq_eq_false_iff_ne.2 h]
  have b0 : ((b.toNat : Int) == 128) = (b.toNat == 128) := by
   by_cases h : b.toNat = 128
   ·rw [h]; rfl
   ·rw [beq_eq_false_iff_ne.2 (by omega : (b.toNat : Int) ≠ 128), beq_eq_false_iff_ne.2 h]
  rw [dec7_cons] at hd
  by_cases c1 : ((i == 0) = true /\ b.toNat = 128)
  ·obtain ⟨h1, h2⟩ := c1
   rw [if_pos (.inl ⟨h1, h2⟩)] at hd
   have : decN l = (0, 0) := by unfold decN; rw [hd]
   have h3 : (b.toNat == 128) = true := by simpa using h2
   simp only [go_sem, zS, ↓reduceIte, Za, Zb, Zc, reduceCtorEq, kont_eq, zU, Zf, Zg, hf12, hf4, hcell, tn_cast, w8_len, i0, h1, b0, h3, this]
   exact ⟨by omega, by omega⟩
  by_cases c2 : u > 144115188075855871
  ·rw [if_pos (.inr c2)] at hd
   have : decN l = (0, 0) := by unfold decN; rw [hd]
   have c3 : (u : Int) > 144115188075855871 := by omega
   by_cases h1 : (i == 0) = true
   ·have h3 : (b.toNat == 128) = false := by simpa using fun e => c1 ⟨h1, e⟩
    simp only [go_sem, zS, ↓reduceIte, Za, Zb, Zc, reduceCtorEq, kont_eq, zU, Zf, Zg, hf12, hf4, hcell, tn_cast, w8_len, i0, h1, b0, h3, c3, this]
    exact ⟨by omega, by omega⟩
   ·have h1 : (i == 0) = false := by simpa using h1
    simp only [go_sem, zS, ↓reduceIte, Za, Zb, Zc, reduceCtorEq, kont_eq, zU, Zf, Zg, hf12, hf4, hcell, tn_cast, w8_len, i0, h1, c3, this]
    exact ⟨by omega, by omega⟩
  rw [if_neg (by rintro (h | h); exact c1 h; exact c2 h)] at hd
  have c3 : ¬ (u : Int) > 144115188075855871 := by omega
  have sh : IntKind.u64.wrap ((u : Int) * 2 ^ 7) = ((u * 128 : Nat) : Int) := by
   have : (2 ^ 7 : Int) = 128 := by decide
   rw [this, IntKind.wrap_u64]; omega
  have o1 := or7 u (b.toNat % 128) (by omega) (by omega)
  have wi : IntKind.i64.wrap ((i : Int) + 1) = ((i + 1 : Nat) : Int) := IntWalk.i64_in _ ⟨by omega, by omega⟩
  have hs : (i + 1 == 0) = false := rfl
  by_cases c4 : b.toNat < 128
  ·rw [if_pos c4] at hd
   have : decN l = (u * 128 + b.toNat % 128, i + 1) := by
    unfold decN; rw [hd]
    have : (l.drop (i + 1)).length = l.length - (i + 1) := List.length_drop
    simp only [this]
    congr 1; omega
   have c5 : (b.toNat : Int) < 128 := by omega
   by_cases h1 : (i == 0) = true
   ·have h3 : (b.toNat == 128) = false := by simpa using fun e => c1 ⟨h1, e⟩
    simp only [go_sem, zS, ↓reduceIte, Za, Zb, Zc, reduceCtorEq, kont_eq, zU, Zf, Zg, hf12, hf4, hcell, tn_cast, w8_len, i0, h1, b0, h3, c3, this, a1, w1, sh, o1, c5, wi]
    exact ⟨⟨by omega, by omega⟩, by decide⟩
   ·have h1 : (i == 0) = false := by simpa using h1
    simp only [go_sem, zS, ↓reduceIte, Za, Zb, Zc, reduceCtorEq, kont_eq, zU, Zf, Zg, hf12, hf4, hcell, tn_cast, w8_len, i0, h1, c3, this, a1, w1, sh, o1, c5, wi]
    exact ⟨⟨by omega, by omega⟩, by decide⟩
  ·rw [if_neg c4] at hd
   have c5 : ¬ (b.toNat : Int) < 128 := by omega
   by_cases h1 : (i == 0) = true
   ·have h3 : (b.toNat == 128) = false := by simpa using fun e => c1 ⟨h1, e⟩
    simp only [go_sem, zS, ↓reduceIte, Za, Zb, Zc, reduceCtorEq, kont_eq, zU, Zf, Zg, hf12, hf4, hcell, tn_cast, w8_len, i0, h1, b0, h3, c3, a1, w1, sh, o1, c5, wi]
    exact ⟨⟨by omega, by omega⟩, by decide, l.length - (i + 1), by omega, i + 1, _, by omega, rfl, rfl, rfl, by omega, by rw [hs]; exact hd⟩
   ·have h1 : (i == 0) = false := by simpa using h1
    simp only [go_sem, zS, ↓reduceIte, Za, Zb, Zc, reduceCtorEq, kont_eq, zU, Zf, Zg, hf12, hf4, hcell, tn_cast, w8_len, i0, h1, c3, a1, w1, sh, o1, c5, wi]
    exact ⟨⟨by omega, by omega⟩, by decide, l.length - (i + 1), by omega, i + 1, _, by omega, rfl, rfl, rfl, by omega, by rw [hs]; exact hd⟩
 ·have hi2 : i = l.length := by omega
  subst hi2
  rw [List.drop_length, dec7] at hd
  have : decN l = (0, 0) := by unfold decN; rw [hd]
  simp only [go_sem, zS, ↓reduceIte, Za, Zb, Zc, reduceCtorEq, kont_eq, zU, Zf, Zg, this]
theorem decN_some {l : List UInt8} {v : Nat} {r : List UInt8} (h : dec7 true 0 l = some (v, r)) : decN l = (v, l.length - r.length) /\ r.length < l.length /\ l.drop (l.length - r.length) = r /\ v < 18446744073709551616 := by
 obtain ⟨h1, h2, h3⟩ := dec7_drop l true 0 v r h
 exact ⟨by unfold decN; rw [h], h1, h2.symm, h3⟩
theorem decN_none {l : List UInt8} (h : dec7 true 0 l = none) : decN l = (0, 0) := by unfold decN; rw [h]
def RTakeSpec (P : Program) (k : FuncId) : Prop := ∀ (F : Nat -> Prop) (r : Nat) (l : List UInt8) (e : Int) (n : Nat) (H : Hp), RdB F H r l e -> n <= l.length -> l.length <= 100000000 -> CallsM P k #[.pointer (some ⟨r, 0, none⟩), .int .i64 n] H fun x H' =>
 OwS H' x (w8 (l.take n)) /\ (∀ k, ownB x k -> H.size <= k) /\ RdB F H' r (l.drop n) e /\ Keep (fun k => k = r) H H'
theorem rtake_ok {P : Program} {ι : Ids} {k : FuncId} (hk : FnIs P k (c_rtake ι) r_rtake 2) (hc : CloneSpec P (ι.f 51)) : RTakeSpec P k := by
 intro F r l e n H hr hn hl
 refine calls_of_vc hk (args := [_, _]) (by simp) ?_
 unfold c_rtake r_rtake
 obtain ⟨v, B, S, f1, f2, f3⟩ := hr
 have hcap := S.cap
 rw [w8_len] at hcap
 simp only [go_sem, zS, ↓reduceIte, Za, Zb, Zc, reduceCtorEq, kont_eq, zU, Zf, Zg, B.cell, S.isSl, S.len, w8_len]
 refine And.intro ⟨by omega, by omega⟩ ?_
 have ST := S.take (n := n) (by rw [w8_len]; exact hn)
 rw [w8_take] at ST
 refine (hc _ _ _ ST (by simp; omega)).mono ?_
 rintro x H1 ⟨O1, o1, K1⟩
 have B1 := K1.bl B (by simp)
 have S1 := S.keep K1 (by simp)
 have SD := S1.drop (n := n) (by rw [w8_len]; exact hn)
 rw [w8_drop] at SD
 simp only [go_sem, zS, ↓reduceIte, Za, Zb, Zc, reduceCtorEq, kont_eq, zU, Zf, Zg, B1.cell, S1.isSl, S1.len, w8_len, B1.frz]
 obtain ⟨a, m, c, hsl⟩ : ∃ a m c, slV v 1 (some (n : Int)) none = .slice a m c := by
  obtain ⟨a, c, h, -⟩ := SD.mk
  exact ⟨_, _, _, h⟩
 have k1 := K1.size
 have hrl := B.lt
 have KS := (Keep.refl (fun k => k = r) H1).setc (p := ⟨r, 0, none⟩) (slV v 1 (some (n : Int)) none) (.inl rfl)
 have BS := B1.setc 0 (slV v 1 (some (n : Int)) none)
 rw [hsl] at KS BS SD ⊢
 refine ⟨⟨by omega, by omega⟩, rfl, O1.keep KS (fun k h e => by have := o1 k h; omega), o1, ⟨_, BS, SD.keep KS (fun k hk => ?_), f1, fun k hk => ?_, fun k hk => ?_⟩, K1.any.trans KS⟩
 ·exact (f2 k (slB_drop (z := 1) (n := n) (by rw [hsl]; exact hk))).2
 ·exact f2 k (slB_drop (z := 1) (n := n) (by rw [hsl]; exact hk))
 ·rw [size_setc]; have := f3 k hk; omega
def rdCnt (most : Nat) (s : List UInt8 × Int) : Nat × (List UInt8 × Int) :=
 if s.2 ≠ 0 then (0, s) else match dec7 true 0 s.1 with | none => (0, (s.1, 6)) | some (v, r) => if v > most then (0, (s.1, 3)) else (v, (r, 0))
def rdByt (most : Nat) (s : List UInt8 × Int) : List UInt8 × (List UInt8 × Int) :=
 if s.2 ≠ 0 then ([], s) else match dec7 true 0 s.1 with | none => ([], (s.1, 6)) | some (v, r) => if v > most then ([], (s.1, 3)) else if v > r.length then ([], (s.1, 6)) else (r.take v, (r.drop v, 0))
def RCountSpec (P : Program) (k : FuncId) : Prop := ∀ (F : Nat -> Prop) (r : Nat) (s : List UInt8 × Int) (most : Nat) (H : Hp), RdB F H r s.1 s.2 -> s.1.length <= 100000000 -> most <= 1000000000 -> CallsM P k #[.pointer (some ⟨r, 0, none⟩), .int .i64 most] H fun x H' =>
 x = .int .i64 (rdCnt most s).1 /\ RdB F H' r (rdCnt most s).2.1 (rdCnt most s).2.2 /\ Keep (fun k => k = r) H H'
theorem rcount_ok {P : Program} {ι : Ids} {k : FuncId} (hk : FnIs P k (c_rcount ι) r_rcount 2) (ho : ROkSpec P (ι.f 109)) (hrf : RRefSpec P (ι.f 110)) (hn : RNumbSpec P (ι.f 111)) (ht : RTakeSpec P (ι.f 112)) : RCountSpec P k := by
 rintro F r ⟨l, e⟩ most H hr hl hm
 refine calls_of_vc hk (args := [_, _]) (by simp) ?_
 unfold c_rcount r_rcount
 simp only at hr hl
 simp only [go_sem, zS, ↓reduceIte, Za, Zb, Zc, reduceCtorEq, kont_eq, zU, Zf, Zg]
 refine (ho _ _ _ _ _ hr).mono ?_
 rintro x H1 ⟨rfl, rfl⟩
 by_cases c : e = 0
 case neg =>
  have e1 : (e == 0) = false := by simpa using c
  have : rdCnt most (l, e) = (0, (l, e)) := by unfold rdCnt; rw [if_pos (by simpa using c)]
  simp only [go_sem, zS, ↓reduceIte, Za, Zb, Zc, reduceCtorEq, kont_eq, zU, Zf, Zg, e1, this]
  exact ⟨hr, Keep.refl _ _⟩
 subst c
 have hm0 : ¬ (most : Int) < 0 := by omega
 simp only [go_sem, zS, ↓reduceIte, Za, Zb, Zc, reduceCtorEq, kont_eq, zU, Zf, Zg, hm0]
 refine (hrf _ _ _ _ _ _ hr).mono ?_
 rintro x H2 ⟨rfl, R2, K2⟩
 simp only [Bool.false_eq_true, if_false] at R2
 simp only [go_sem, zS, ↓reduceIte, Za, Zb, Zc, reduceCtorEq, kont_eq, zU, Zf, Zg]
 refine (hn _ _ _ _ _ R2 hl).mono ?_
 rintro x H2' ⟨rfl, rfl⟩
 have wm : IntKind.u64.wrap (most : Int) = (most : Int) := by rw [IntKind.wrap_u64]; omega
 cases hd : dec7 true 0 l with
 | none =>
  have : rdCnt most (l, 0) = (0, (l, 6)) := by unfold rdCnt; rw [if_neg (by simp), hd]
  rw [decN_none hd, this]
  simp only [go_sem, zS, ↓reduceIte, Za, Zb, Zc, reduceCtorEq, kont_eq, zU, Zf, Zg]
  refine (hrf _ _ _ _ _ _ R2).mono ?_
  rintro x H3 ⟨rfl, R3, K3⟩
  simp only [go_sem, zS, ↓reduceIte, Za, Zb, Zc, reduceCtorEq, kont_eq, zU, Zf, Zg] at R3
  simp only [go_sem, zS, ↓reduceIte, Za, Zb, Zc, reduceCtorEq, kont_eq, zU, Zf, Zg]
  exact ⟨R3, K2.trans K3⟩
 | some p =>
  obtain ⟨v, q⟩ := p
  obtain ⟨h1, h2, h3, h4⟩ := decN_some hd
  rw [h1]
  have hq : (((l.length - q.length : Nat) : Int) == 0) = false := by simp; omega
  simp only [go_sem, zS, ↓reduceIte, Za, Zb, Zc, reduceCtorEq, kont_eq, zU, Zf, Zg, hq]
  refine (hrf _ _ _ _ _ _ R2).mono ?_
  rintro x H3 ⟨rfl, R3, K3⟩
  simp only [go_sem, zS, ↓reduceIte, Za, Zb, Zc, reduceCtorEq, kont_eq, zU, Zf, Zg] at R3
  have hr0 : rdCnt most (l, 0) = if v > most then (0, (l, 3)) else (v, (q, 0)) := by unfold rdCnt; rw [if_neg (by simp), hd]
  by_cases cv : v > most
  ·have cv' : (v : Int) > (most : Int) := by omega
   rw [hr0, if_pos cv]
   simp only [go_sem, zS, ↓reduceIte, Za, Zb, Zc, reduceCtorEq, kont_eq, zU, Zf, Zg, wm, cv']
   refine (hrf _ _ _ _ _ _ R3).mono ?_
   rintro x H4 ⟨rfl, R4, K4⟩
   simp only [go_sem, zS, ↓reduceIte, Za, Zb, Zc, reduceCtorEq, kont_eq, zU, Zf, Zg] at R4
   simp only [go_sem, zS, ↓reduceIte, Za, Zb, Zc, reduceCtorEq, kont_eq, zU, Zf, Zg]
   exact ⟨R4, (K2.trans K3).trans K4⟩
  ·have cv' : ¬ (v : Int) > (most : Int) := by omega
   have wv : IntKind.i64.wrap (v : Int) = (v : Int) := IntWalk.i64_in _ ⟨by omega, by omega⟩
   rw [hr0, if_neg cv]
   simp only [go_sem, zS, ↓reduceIte, Za, Zb, Zc, reduceCtorEq, kont_eq, zU, Zf, Zg, wm, cv']
   refine (hrf _ _ _ _ _ _ R3).mono ?_
   rintro x H4 ⟨rfl, R4, K4⟩
   simp only [go_sem, zS, ↓reduceIte, Za, Zb, Zc, reduceCtorEq, kont_eq, zU, Zf, Zg] at R4
   simp only [go_sem, zS, ↓reduceIte, Za, Zb, Zc, reduceCtorEq, kont_eq, zU, Zf, Zg]
   refine (ht _ _ _ _ _ _ R4 (by omega) hl).mono ?_
   rintro x H5 ⟨O5, o5, R5, K5⟩
   rw [h3] at R5
   simp only [go_sem, zS, ↓reduceIte, Za, Zb, Zc, reduceCtorEq, kont_eq, zU, Zf, Zg, wv]
   exact ⟨R5, ((K2.trans K3).trans K4).trans K5⟩
def RBytSpec (P : Program) (k : FuncId) : Prop := ∀ (F : Nat -> Prop) (r : Nat) (s : List UInt8 × Int) (most : Nat) (H : Hp), RdB F H r s.1 s.2 -> s.1.length <= 100000000 -> most <= 1000000000 -> CallsM P k #[.pointer (some ⟨r, 0, none⟩), .int .i64 most] H fun x H' =>
 OwS H' x (w8 (rdByt most s).1) /\ (∀ k, ownB x k -> H.size <= k) /\ RdB F H' r (rdByt most s).2.1 (rdByt most s).2.2 /\ Keep (fun k => k = r) H H'
theorem rbytes_ok {P : Program} {ι : Ids} {k : FuncId} (hk : FnIs P k (c_rbytes ι) r_rbytes 2) (ho : ROkSpec P (ι.f 109)) (hrf : RRefSpec P (ι.f 110)) (hn : RNumbSpec P (ι.f 111)) (ht : RTakeSpec P (ι.f 112)) : RBytSpec P k := by
 rintro F r ⟨l, e⟩ most H hr hl hm
 refine calls_of_vc hk (args := [_, _]) (by simp) ?_
 unfold c_rbytes r_rbytes
 simp only at hr hl
 simp only [go_sem, zS, ↓reduceIte, Za, Zb, Zc, reduceCtorEq, kont_eq, zU, Zf, Zg]
 refine (ho _ _ _ _ _ hr).mono ?_
 rintro x H1 ⟨rfl, rfl⟩
 by_cases c : e = 0
 case neg =>
  have e1 : (e == 0) = false := by simpa using c
  have : rdByt most (l, e) = ([], (l, e)) := by unfold rdByt; rw [if_pos (by simpa using c)]
  simp only [go_sem, zS, ↓reduceIte, Za, Zb, Zc, reduceCtorEq, kont_eq, zU, Zf, Zg, e1, this]
  exact ⟨OwS.nil _, fun k h => h.elim, hr, Keep.refl _ _⟩
 subst c
 have hm0 : ¬ (most : Int) < 0 := by omega
 simp only [go_sem, zS, ↓reduceIte, Za, Zb, Zc, reduceCtorEq, kont_eq, zU, Zf, Zg, hm0]
 refine (hrf _ _ _ _ _ _ hr).mono ?_
 rintro x H2 ⟨rfl, R2, K2⟩
 simp only [Bool.false_eq_true, if_false] at R2
 simp only [go_sem, zS, ↓reduceIte, Za, Zb, Zc, reduceCtorEq, kont_eq, zU, Zf, Zg]
 refine (hn _ _ _ _ _ R2 hl).mono ?_
 rintro x H2' ⟨rfl, rfl⟩
 have wm : IntKind.u64.wrap (most : Int) = (most : Int) := by rw [IntKind.wrap_u64]; omega
 cases hd : dec7 true 0 l with
 | none =>
  have : rdByt most (l, 0) = ([], (l, 6)) := by unfold rdByt; rw [if_neg (by simp), hd]
  rw [decN_none hd, this]
  simp only [go_sem, zS, ↓reduceIte, Za, Zb, Zc, reduceCtorEq, kont_eq, zU, Zf, Zg]
  refine (hrf _ _ _ _ _ _ R2).mono ?_
  rintro x H3 ⟨rfl, R3, K3⟩
  simp only [go_sem, zS, ↓reduceIte, Za, Zb, Zc, reduceCtorEq, kont_eq, zU, Zf, Zg] at R3
  simp only [go_sem, zS, ↓reduceIte, Za, Zb, Zc, reduceCtorEq, kont_eq, zU, Zf, Zg]
  exact ⟨OwS.nil _, fun k h => h.elim, R3, K2.trans K3⟩
 | some p =>
  obtain ⟨v, q⟩ := p
  obtain ⟨h1, h2, h3, h4⟩ := decN_some hd
  rw [h1]
  have hq : (((l.length - q.length : Nat) : Int) == 0) = false := by simp; omega
  simp only [go_sem, zS, ↓reduceIte, Za, Zb, Zc, reduceCtorEq, kont_eq, zU, Zf, Zg, hq]
  refine (hrf _ _ _ _ _ _ R2).mono ?_
  rintro x H3 ⟨rfl, R3, K3⟩
  simp only [go_sem, zS, ↓reduceIte, Za, Zb, Zc, reduceCtorEq, kont_eq, zU, Zf, Zg] at R3
  have hr0 : rdByt most (l, 0) = if v > most then ([], (l, 3)) else if v > q.length then ([], (l, 6)) else (q.take v, (q.drop v, 0)) := by unfold rdByt; rw [if_neg (by simp), hd]
  by_cases cv : v > most
  ·have cv' : (v : Int) > (most : Int) := by omega
   rw [hr0, if_pos cv]
   simp only [go_sem, zS, ↓reduceIte, Za, Zb, Zc, reduceCtorEq, kont_eq, zU, Zf, Zg, wm, cv']
   refine (hrf _ _ _ _ _ _ R3).mono ?_
   rintro x H4 ⟨rfl, R4, K4⟩
   simp only [go_sem, zS, ↓reduceIte, Za, Zb, Zc, reduceCtorEq, kont_eq, zU, Zf, Zg] at R4
   simp only [go_sem, zS, ↓reduceIte, Za, Zb, Zc, reduceCtorEq, kont_eq, zU, Zf, Zg]
   exact ⟨OwS.nil _, fun k h => h.elim, R4, (K2.trans K3).trans K4⟩
  ·have cv' : ¬ (v : Int) > (most : Int) := by omega
   have wv : IntKind.i64.wrap (v : Int) = (v : Int) := IntWalk.i64_in _ ⟨by omega, by omega⟩
   rw [hr0, if_neg cv]
   simp only [go_sem, zS, ↓reduceIte, Za, Zb, Zc, reduceCtorEq, kont_eq, zU, Zf, Zg, wm, cv']
   refine (hrf _ _ _ _ _ _ R3).mono ?_
   rintro x H4 ⟨rfl, R4, K4⟩
   simp only [go_sem, zS, ↓reduceIte, Za, Zb, Zc, reduceCtorEq, kont_eq, zU, Zf, Zg] at R4
   have R4' := R4
   obtain ⟨v4, B4, S4, f41, f42, f43⟩ := R4'
   have wq : IntKind.u64.wrap (IntKind.i64.wrap ((l.length : Int) - ((l.length - q.length : Nat) : Int))) = (q.length : Int) := by
    rw [IntWalk.i64_in _ ⟨by omega, by omega⟩, IntKind.wrap_u64]; omega
   simp only [go_sem, zS, ↓reduceIte, Za, Zb, Zc, reduceCtorEq, kont_eq, zU, Zf, Zg, B4.cell, S4.isSl, S4.len, w8_len, wq]
   refine (hrf _ _ _ _ _ _ R4).mono ?_
   rintro x H5 ⟨rfl, R5, K5⟩
   have K5' := ((K2.trans K3).trans K4).trans K5
   by_cases cw : v > q.length
   ·have cw' : (v : Int) > (q.length : Int) := by omega
    rw [if_pos cw]
    simp only [go_sem, zS, ↓reduceIte, Za, Zb, Zc, reduceCtorEq, kont_eq, zU, Zf, Zg, cw'] at R5
    simp only [go_sem, zS, ↓reduceIte, Za, Zb, Zc, reduceCtorEq, kont_eq, zU, Zf, Zg, cw']
    exact ⟨OwS.nil _, fun k h => h.elim, R5, K5'⟩
   ·have cw' : ¬ (v : Int) > (q.length : Int) := by omega
    rw [if_neg cw]
    simp only [go_sem, zS, ↓reduceIte, Za, Zb, Zc, reduceCtorEq, kont_eq, zU, Zf, Zg, cw'] at R5
    simp only [go_sem, zS, ↓reduceIte, Za, Zb, Zc, reduceCtorEq, kont_eq, zU, Zf, Zg, cw']
    refine (ht _ _ _ _ _ _ R5 (by omega) hl).mono ?_
    rintro x H6 ⟨O6, o6, R6, K6⟩
    rw [h3] at R6
    simp only [go_sem, zS, ↓reduceIte, Za, Zb, Zc, reduceCtorEq, kont_eq, zU, Zf, Zg, wv]
    refine (ht _ _ _ _ _ _ R6 (by omega) (by omega)).mono ?_
    rintro x H7 ⟨O7, o7, R7, K7⟩
    simp only [go_sem, zS, ↓reduceIte, Za, Zb, Zc, reduceCtorEq, kont_eq, zU, Zf, Zg]
    have k6 := (K5'.trans K6).size
    exact ⟨O7, fun k h => by have := o7 k h; omega, R7, (K5'.trans K6).trans K7⟩
def RStrSpec (P : Program) (k : FuncId) : Prop := ∀ (F : Nat -> Prop) (r : Nat) (s : List UInt8 × Int) (most : Nat) (H : Hp), RdB F H r s.1 s.2 -> s.1.length <= 100000000 -> most <= 1000000000 -> CallsM P k #[.pointer (some ⟨r, 0, none⟩), .int .i64 most] H fun x H' =>
 x = .string ⟨(rdByt most s).1.toArray⟩ /\ RdB F H' r (rdByt most s).2.1 (rdByt most s).2.2 /\ Keep (fun k => k = r) H H'
theorem rstring_ok {P : Program} {ι : Ids} {k : FuncId} (hk : FnIs P k (c_rstring ι) r_rstring 2) (hb : RBytSpec P (ι.f 114)) : RStrSpec P k := by
 rintro F r s most H hr hl hm
 refine calls_of_vc hk (args := [_, _]) (by simp) ?_
 unfold c_rstring r_rstring
 simp only [go_sem, zS, ↓reduceIte, Za, Zb, Zc, reduceCtorEq, kont_eq, zU, Zf, Zg]
 refine (hb _ _ _ _ _ hr hl hm).mono ?_
 rintro x H1 ⟨O1, o1, R1, K1⟩
 have b1 := O1.sl.bytesIn
 simp only [go_sem, zS, ↓reduceIte, Za, Zb, Zc, reduceCtorEq, kont_eq, zU, Zf, Zg, b1, toBA_w8]
 exact ⟨okB2s_w8 b1, R1, K1⟩
end Go.Mg

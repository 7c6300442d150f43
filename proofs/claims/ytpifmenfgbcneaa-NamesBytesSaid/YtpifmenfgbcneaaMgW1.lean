/- wire: writers. -/
import Derived.Test.YtpifmenfgbcneaaMgOwn
import Derived.Test.YtpifmenfgbcneaaMgKp
namespace Go.Mg
open Go Go.RowKit
set_option linter.unusedSimpArgs false
set_option linter.unusedVariables false
set_option maxRecDepth 100000
/- slices.Clone[[]byte,byte] -/
def c_clone (ι : Ids) : S :=
  .seq (.reg [.p (.v 2) (.mv (.c (.slice .none 0 0)))]) (.seq (.seq (.reg [.p (.t 3) (.mv (.v 0)), .p (.v 4) (.m (.eqn .sl false (.t 3)))]) (.ite (.v 4) (.seq (.reg [.p (.v 2) (.mv (.c (.slice .none 0
  0)))]) .ret) .skip)) (.seq (.reg [.e (.t 5) (.bldF (ι.t 19) 1 0 []), .p (.t 6) (.mv (.v 0)), .e (.t 7) (.app false (ι.t 19) 1 1 #[.int .u8 0] (.t 5) (.t 6)), .p (.v 2) (.mv (.t 7))]) .ret))
def r_clone : List RV := [.t 2]
/- slices.Reverse[[]byte,byte] -/
def c_reverse (ι : Ids) : S :=
  .seq (.reg [.p (.t 4) (.mv (.v 0)), .p (.t 5) (.m (.lenl (.t 4))), .p (.t 6) (.ar .sub .i64 (.t 5) (.c (.int .i64 1))), .p (.v 2) (.mv (.c (.int .i64 0))), .p (.v 3) (.mv (.t 6))]) (.blk 0 (.loop
  (.seq (.seq (.reg [.p (.t 7) (.mv (.v 2)), .p (.t 8) (.mv (.v 3)), .p (.v 9) (.cm .lss .i64 (.t 7) (.t 8))]) (.ite (.v 9) .skip (.exit 0))) (.seq (.blk 1 (.dr (.px (.t 14) .none (.mv (.v 0)) (.px (.t
  15) .none (.mv (.v 2)) (.px (.t 16) .none (.mv (.v 0)) (.px (.t 17) .none (.mv (.v 3)) (.px (.t 18) .none (.mv (.v 0)) (.px (.t 19) .none (.mv (.v 3)) (.px (.t 20) .none (.is 1 (.t 18) (.t 19)) (.px
  (.t 22) .none (.mv (.v 0)) (.px (.t 23) .none (.mv (.v 2)) (.px (.t 24) .none (.is 1 (.t 22) (.t 23)) (.wcons (.t 21) .none (.rd (.ld (.t 20))) (.wcons (.t 25) .none (.rd (.ld (.t 24))) (.px (.t 26)
  .none (.is 1 (.t 14) (.t 15)) (.wcons .no .none (.st (.t 26) (.t 21)) (.px (.t 27) .none (.is 1 (.t 16) (.t 17)) (.wcons .no .none (.st (.t 27) (.t 25)) .done .wnil)) .wnil)) .wnil) (.wcons (.t 25)
  .none (.rd (.ld (.t 24))) (.wcons (.t 21) .none (.rd (.ld (.t 20))) (.px (.t 26) .none (.is 1 (.t 14) (.t 15)) (.wcons .no .none (.st (.t 26) (.t 21)) (.px (.t 27) .none (.is 1 (.t 16) (.t 17))
  (.wcons .no .none (.st (.t 27) (.t 25)) .done .wnil)) .wnil)) .wnil) .wnil)))))))))))))) (.reg [.p (.t 10) (.mv (.v 2)), .p (.t 11) (.ar .add .i64 (.t 10) (.c (.int .i64 1))), .p (.t 12) (.mv (.v 3)),
  .p (.t 13) (.ar .sub .i64 (.t 12) (.c (.int .i64 1))), .p (.v 2) (.mv (.t 11)), .p (.v 3) (.mv (.t 13))])))))
def r_reverse : List RV := []
/- wire.groups -/
def c_groups (ι : Ids) : S :=
  .seq (.reg [.p (.v 2) (.mv (.c (.slice .none 0 0)))]) (.seq (.reg [.p (.t 4) (.mv (.v 0)), .p (.t 5) (.bt .and .u64 (.t 4) (.c (.int .u64 127))), .p (.t 6) (.ii .u8 (.t 5)), .e (.t 7) (.bldF (ι.t 19)
  1 1 [.t 6]), .p (.v 3) (.mv (.t 7))]) (.seq (.seq (.reg [.p (.t 8) (.mv (.v 0)), .p (.t 9) (.sh .shr .u64 (.t 8) (.c (.int .u64 7))), .p (.v 0) (.mv (.t 9))]) (.blk 0 (.loop (.seq (.seq (.reg [.p (.t
  10) (.mv (.v 0)), .p (.v 11) (.cm .gtr .u64 (.t 10) (.c (.int .u64 0)))]) (.ite (.v 11) .skip (.exit 0))) (.seq (.blk 1 (.reg [.p (.t 14) (.mv (.v 3)), .p (.t 15) (.mv (.v 0)), .p (.t 16) (.bt .and
  .u64 (.t 15) (.c (.int .u64 127))), .p (.t 17) (.ii .u8 (.t 16)), .p (.t 18) (.bt .or .u8 (.t 17) (.c (.int .u8 128))), .e (.t 19) (.bldF (ι.t 19) 1 1 [.t 18]), .e (.t 20) (.app false (ι.t 19) 1 1
  #[.int .u8 0] (.t 14) (.t 19)), .p (.v 3) (.mv (.t 20))])) (.reg [.p (.t 12) (.mv (.v 0)), .p (.t 13) (.sh .shr .u64 (.t 12) (.c (.int .u64 7))), .p (.v 0) (.mv (.t 13))])))))) (.seq (.reg [.p (.t 21)
  (.mv (.v 3)), .e (.t 22) (.call (ι.f 52) [.t 21])]) (.seq (.reg [.p (.t 23) (.mv (.v 3)), .p (.v 2) (.mv (.t 23))]) .ret))))
def r_groups : List RV := [.t 2]
/- wire.NewWriter -/
def c_wnew (ι : Ids) : S :=
  .seq (.reg [.p (.v 0) (.mv (.c (.pointer .none)))]) (.seq (.reg [.p (.t 1) (.m (.bld #[.slice .none 0 0] [])), .e (.t 2) (.box (ι.t 54) (.t 1)), .p (.v 0) (.mv (.t 2))]) .ret)
def r_wnew : List RV := [.t 0]
/- (ptr wire.Writer).Raw -/
def c_wraw (ι : Ids) : S :=
  .seq (.reg [.p (.t 4) (.mv (.v 0)), .p (.v 5) (.m (.eqn .ptr true (.t 4)))]) (.ite (.v 5) (.reg [.p (.t 6) (.mv (.v 0)), .p (.t 7) (.mv (.v 0)), .p (.t 8) (.nil (.t 7)), .p (.t 9) (.fa 0 (.t 8)), .p
  (.t 10) (.ld (.t 9)), .p (.t 11) (.mv (.v 1)), .e (.t 12) (.app false (ι.t 19) 1 1 #[.int .u8 0] (.t 10) (.t 11)), .p (.t 13) (.nil (.t 6)), .p (.t 14) (.fa 0 (.t 13)), .e .no (.st (.t 14) (.t 12))])
  .skip)
def r_wraw : List RV := []
/- (ptr wire.Writer).Uint -/
def c_wuint (ι : Ids) : S :=
  .reg [.p (.t 4) (.mv (.v 0)), .p (.t 5) (.mv (.v 1)), .e (.t 6) (.call (ι.f 53) [.t 5]), .e (.t 7) (.call (ι.f 56) [.t 4, .t 6])]
def r_wuint : List RV := []
/- (ptr wire.Writer).Bytes -/
def c_wbytes (ι : Ids) : S :=
  .seq (.reg [.p (.t 4) (.mv (.v 0)), .p (.t 5) (.mv (.v 1)), .p (.t 6) (.m (.lenl (.t 5))), .p (.t 7) (.ii .u64 (.t 6)), .e (.t 8) (.call (ι.f 57) [.t 4, .t 7])]) (.reg [.p (.t 9) (.mv (.v 0)), .p (.t
  10) (.mv (.v 1)), .e (.t 11) (.call (ι.f 56) [.t 9, .t 10])])
def r_wbytes : List RV := []
/- (ptr wire.Writer).String -/
def c_wstring (ι : Ids) : S :=
  .reg [.p (.t 4) (.mv (.v 0)), .p (.t 5) (.mv (.v 1)), .e (.t 6) (.s2b (ι.t 19) (.t 5)), .e (.t 7) (.call (ι.f 58) [.t 4, .t 6])]
def r_wstring : List RV := []
/- (ptr wire.Writer).Out -/
def c_wout (ι : Ids) : S :=
  .seq (.reg [.p (.v 2) (.mv (.c (.slice .none 0 0)))]) (.seq (.seq (.reg [.p (.t 3) (.mv (.v 0)), .p (.v 4) (.m (.eqn .ptr false (.t 3)))]) (.ite (.v 4) (.seq (.reg [.p (.v 2) (.mv (.c (.slice .none 0
  0)))]) .ret) .skip)) (.seq (.reg [.p (.t 5) (.mv (.v 0)), .p (.t 6) (.nil (.t 5)), .p (.t 7) (.fa 0 (.t 6)), .p (.t 8) (.ld (.t 7)), .e (.t 9) (.call (ι.f 51) [.t 8]), .p (.v 2) (.mv (.t 9))]) .ret))
def r_wout : List RV := [.t 2]
/- arbacref02.Put -/
def c_rput (ι : Ids) : S :=
  .seq (.reg [.p (.v 2) (.mv (.c (.slice .none 0 0)))]) (.seq (.reg [.p (.t 4) (.mv (.v 0)), .p (.t 5) (.dv .rem .u64 (.t 4) (.c (.int .u64 128))), .p (.t 6) (.ii .u8 (.t 5)), .e (.t 7) (.bldF (ι.t 19)
  1 1 [.t 6]), .p (.v 3) (.mv (.t 7))]) (.seq (.blk 0 (.loop (.seq (.seq (.reg [.p (.t 8) (.mv (.v 0)), .p (.v 9) (.cm .geq .u64 (.t 8) (.c (.int .u64 128)))]) (.ite (.v 9) .skip (.exit 0))) (.blk 1
  (.seq (.reg [.p (.t 10) (.mv (.v 0)), .p (.t 11) (.dv .quo .u64 (.t 10) (.c (.int .u64 128))), .p (.v 0) (.mv (.t 11))]) (.reg [.p (.t 12) (.mv (.v 0)), .p (.t 13) (.dv .rem .u64 (.t 12) (.c (.int
  .u64 128))), .p (.t 14) (.ii .u8 (.t 13)), .p (.t 15) (.ar .add .u8 (.t 14) (.c (.int .u8 128))), .e (.t 16) (.bldF (ι.t 19) 1 1 [.t 15]), .p (.t 17) (.mv (.v 3)), .e (.t 18) (.app false (ι.t 19) 1 1
  #[.int .u8 0] (.t 16) (.t 17)), .p (.v 3) (.mv (.t 18))])))))) (.seq (.reg [.p (.t 19) (.mv (.v 3)), .p (.v 2) (.mv (.t 19))]) .ret)))
def r_rput : List RV := [.t 2]
/- arbacref02.PutBytes -/
def c_rputbytes (ι : Ids) : S :=
  .seq (.reg [.p (.v 2) (.mv (.c (.slice .none 0 0)))]) (.seq (.reg [.p (.t 3) (.mv (.v 0)), .p (.t 4) (.m (.lenl (.t 3))), .p (.t 5) (.ii .u64 (.t 4)), .e (.t 6) (.call (ι.f 61) [.t 5]), .p (.t 7) (.mv
  (.v 0)), .e (.t 8) (.app false (ι.t 19) 1 1 #[.int .u8 0] (.t 6) (.t 7)), .p (.v 2) (.mv (.t 8))]) .ret)
def r_rputbytes : List RV := [.t 2]

/-! ### numbers as bytes -/
/-- the groups of seven bits above the lowest, from the lowest on, each marked -/
def tl7 (u : Nat) : List UInt8 := if h : u = 0 then [] else UInt8.ofNat (u % 128 + 128) :: tl7 (u / 128)
termination_by u
decreasing_by omega
def le7 (v : Nat) : List UInt8 := UInt8.ofNat (v % 128) :: tl7 (v / 128)
/-- the encoding of a number -/
def enc7 (v : Nat) : List UInt8 := (le7 v).reverse
/-- the encoding of a byte string -/
def encB (l : List UInt8) : List UInt8 := enc7 l.length ++ l
theorem tl7_0 : tl7 0 = [] := by rw [tl7]; simp
theorem tl7_pos {u : Nat} (h : u ≠ 0) : tl7 u = UInt8.ofNat (u % 128 + 128) :: tl7 (u / 128) := by rw [tl7]; simp [h]
theorem tl7_len : ∀ (k u : Nat), u < 128 ^ k → (tl7 u).length ≤ k
  | 0, u, h => by
    have : u = 0 := by simpa using h
    subst this; rw [tl7_0]; simp
  | k + 1, u, h => by
    by_cases hu : u = 0
    · subst hu; rw [tl7_0]; simp
    · rw [tl7_pos hu]
      have := tl7_len k (u / 128) (by rw [Nat.pow_succ] at h; omega)
      simp only [List.length_cons]; omega
theorem enc7_len (v : Nat) (h : v < 18446744073709551616) : (enc7 v).length ≤ 11 := by
  have := tl7_len 10 (v / 128) (by omega)
  simp only [enc7, le7, List.length_reverse, List.length_cons]; omega

/-! ### slices.Clone, slices.Reverse -/
def CloneSpec (P : Program) (k : FuncId) : Prop := ∀ (l : List UInt8) (v : Value) (H : Hp), SlR H v (w8 l) → l.length ≤ 100000000 → CallsM P k #[v] H fun r H' => OwS H' r (w8 l) ∧ (∀ k, ownB r k → H.size ≤ k) ∧ Keep (fun _ => False) H H'
theorem clone_ok {P : Program} {ι : Ids} {k : FuncId} (hk : FnIs P k (c_clone ι) r_clone 1) : CloneSpec P k := by
  intro l v H hv hl
  refine calls_of_vc hk (args := [_]) (by simp) ?_
  unfold c_clone r_clone
  obtain ⟨a, c, rfl, hc⟩ := hv.mk
  cases a with
  | none =>
    have hl0 : l = [] := by
      rcases hv with ⟨_, _, _, h⟩ | ⟨b, o, c', h, e, _⟩
      · simpa [w8] using h
      · simp at e
    subst hl0
    simp only [go_sem, List.map_cons, List.map_nil, ↓reduceIte, Nat.reduceEqDiff, Nat.reduceAdd, Nat.reduceMul, reduceCtorEq, and_true, true_and, Nat.mul_one, Nat.zero_add, Bool.false_eq_true, decide_true, decide_false, not_false_eq_true, kont_eq]
    exact ⟨OwS.nil _, fun k h => h.elim, Keep.refl _ _⟩
  | some p =>
    simp only [go_sem, List.map_cons, List.map_nil, ↓reduceIte, Nat.reduceEqDiff, Nat.reduceAdd, Nat.reduceMul, reduceCtorEq, and_true, true_and, Nat.mul_one, Nat.zero_add, Bool.false_eq_true, decide_true, decide_false, not_false_eq_true]
    refine kont_news fun H1 b1 e1 z1 B1 K1 => ?_
    have k1 := K1.size
    simp only [go_sem, List.map_cons, List.map_nil, ↓reduceIte, Nat.reduceEqDiff, Nat.reduceAdd, Nat.reduceMul, reduceCtorEq, and_true, true_and, Nat.mul_one, Nat.zero_add, Bool.false_eq_true, decide_true, decide_false, not_false_eq_true, kont_eq]
    refine app_bytesN H.size (l := []) (m := l) (OwS.new B1 rfl rfl) (fun k (h : k = b1) => by omega) (by omega) (hv.keep K1 (by simp)) rfl (by simp; omega) fun v2 H2 O2 o2 K2 => ?_
    simp only [go_sem, List.map_cons, List.map_nil, ↓reduceIte, Nat.reduceEqDiff, Nat.reduceAdd, Nat.reduceMul, reduceCtorEq, and_true, true_and, Nat.mul_one, Nat.zero_add, Bool.false_eq_true, decide_true, decide_false, not_false_eq_true, kont_eq]
    exact ⟨O2, o2, K1.at_old K2 (by omega)⟩

/-- l, exchanged from both ends inward i times -/
def RevTo (l : List UInt8) (i : Nat) (x : List UInt8) : Prop := x.length = l.length ∧ ∀ j, j < l.length → x.getD j 0 = if j < i ∨ l.length ≤ i + j then l.getD (l.length - 1 - j) 0 else l.getD j 0
theorem RevTo.zero (l : List UInt8) : RevTo l 0 l := ⟨rfl, fun j hj => by rw [if_neg (by omega)]⟩
theorem getD_set8 (x : List UInt8) (i j : Nat) (y : UInt8) (h : i < x.length) : (x.set i y).getD j 0 = if j = i then y else x.getD j 0 := by
  by_cases e : j = i
  · subst e; rw [if_pos rfl, List.getD_eq_getElem?_getD, List.getElem?_set_self h]; rfl
  · rw [if_neg e, List.getD_eq_getElem?_getD, List.getElem?_set_ne (Ne.symm e), ← List.getD_eq_getElem?_getD]
theorem RevTo.step {l : List UInt8} {i : Nat} {x : List UInt8} (h : RevTo l i x) (hi : 2 * i + 1 < l.length) : RevTo l (i + 1) ((x.set i (x.getD (l.length - 1 - i) 0)).set (l.length - 1 - i) (x.getD i 0)) := by
  obtain ⟨h1, h2⟩ := h
  refine ⟨by simp [h1], fun j hj => ?_⟩
  have q1 : x.getD i 0 = l.getD i 0 := by rw [h2 i (by omega), if_neg (by omega)]
  have q2 : x.getD (l.length - 1 - i) 0 = l.getD (l.length - 1 - i) 0 := by rw [h2 (l.length - 1 - i) (by omega), if_neg (by omega)]
  rw [q1, q2, getD_set8 _ _ _ _ (by simp; omega), getD_set8 _ _ _ _ (by omega), h2 j hj]
  by_cases e1 : j = l.length - 1 - i
  · rw [if_pos e1, if_pos (by omega)]; congr 1; omega
  · rw [if_neg e1]
    by_cases e2 : j = i
    · rw [if_pos e2, if_pos (by omega)]; congr 1; omega
    · rw [if_neg e2]
      by_cases e3 : j < i ∨ l.length ≤ i + j
      · rw [if_pos e3, if_pos (by omega)]
      · rw [if_neg e3, if_neg (by omega)]
theorem RevTo.all {l : List UInt8} {i : Nat} {x : List UInt8} (h : RevTo l i x) (hi : l.length ≤ 2 * i + 1) : x = l.reverse := by
  obtain ⟨h1, h2⟩ := h
  apply List.ext_getElem (by simp [h1])
  intro j g1 g2
  have := h2 j (by omega)
  have e1 : x.getD j 0 = x[j] := by simp [g1]
  have e2 : l.reverse[j] = l.getD (l.length - 1 - j) 0 := by
    rw [List.getElem_reverse]; simp [show l.length - 1 - j < l.length by omega]
  rw [← e1, e2, this]
  split
  · rfl
  · congr 1; omega
def RevSpec (P : Program) (k : FuncId) : Prop := ∀ (l : List UInt8) (v : Value) (H : Hp), OwS H v (w8 l) → l.length ≤ 100000000 → CallsM P k #[v] H fun r H' => r = .tuple #[] ∧ OwS H' v (w8 l.reverse) ∧ Keep (ownB v) H H'
theorem reverse_ok {P : Program} {ι : Ids} {k : FuncId} (hk : FnIs P k (c_reverse ι) r_reverse 1) : RevSpec P k := by
  intro l v H hv hl
  refine calls_of_vc hk (args := [_]) (by simp) ?_
  unfold c_reverse r_reverse
  simp (disch := omega) only [go_sem, List.map_cons, List.map_nil, ↓reduceIte, Nat.reduceEqDiff, Nat.reduceAdd, Nat.reduceMul, reduceCtorEq, and_true, true_and, Nat.mul_one, Nat.zero_add, Bool.false_eq_true, decide_true, decide_false, not_false_eq_true, kont_eq, hv.sl.isSl, hv.sl.len, w8_len, IntWalk.i64_in]
  refine vc_loop [9, 2, 3] rfl (fun n f H' => ∃ i x, 2 * i ≤ l.length + 1 ∧ n = l.length - i ∧ f 2 = .int .i64 i ∧ f 3 = .int .i64 ((l.length : Int) - 1 - i) ∧ RevTo l i x ∧ OwS H' v (w8 x) ∧ Keep (ownB v) H H') l.length
    ⟨0, l, by omega, by omega, rfl, by simp only [go_sem, List.map_cons, List.map_nil, ↓reduceIte, Nat.reduceEqDiff, Nat.reduceAdd, Nat.reduceMul, reduceCtorEq, and_true, true_and, Nat.mul_one, Nat.zero_add, Bool.false_eq_true, decide_true, decide_false, not_false_eq_true, kont_eq]; simp, RevTo.zero l, hv, Keep.refl _ _⟩ ?_
  rintro n g H1 ⟨i, x, hi, rfl, hf2, hf3, hR, hO, K1⟩
  simp only [go_sem, List.map_cons, List.map_nil, ↓reduceIte, Nat.reduceEqDiff, Nat.reduceAdd, Nat.reduceMul, reduceCtorEq, and_true, true_and, Nat.mul_one, Nat.zero_add, Bool.false_eq_true, decide_true, decide_false, not_false_eq_true, kont_eq] at hf2 hf3
  simp only [go_sem, List.map_cons, List.map_nil, ↓reduceIte, Nat.reduceEqDiff, Nat.reduceAdd, Nat.reduceMul, reduceCtorEq, and_true, true_and, Nat.mul_one, Nat.zero_add, Bool.false_eq_true, decide_true, decide_false, not_false_eq_true, kont_eq, hf2, hf3]
  refine iteV_dec (fun hlt => ?_) (fun hge => ?_)
  · have hi2 : 2 * i + 1 < l.length := by omega
    have hxl := hR.1
    obtain ⟨b, c, L, rfl, h1, h2, hB, h3, hg⟩ := hO.some (by intro e; have h := congrArg List.length e; rw [w8_len, List.length_nil] at h; omega)
    rw [w8_len] at h1 h3 hg
    have ej : ((l.length : Int) - 1 - i) = ((l.length - 1 - i : Nat) : Int) := by omega
    have gi : L[i]? = some (.int .u8 (x.getD i 0).toNat) := by rw [hg i (by omega), w8_get _ _ (by omega)]
    have gj : L[l.length - 1 - i]? = some (.int .u8 (x.getD (l.length - 1 - i) 0).toNat) := by rw [hg _ (by omega), w8_get _ _ (by omega)]
    have B2 := hB.setc i (.int .u8 (x.getD (l.length - 1 - i) 0).toNat)
    have g2 : (L.set i (.int .u8 (x.getD (l.length - 1 - i) 0).toNat))[l.length - 1 - i]? = some (.int .u8 (x.getD (l.length - 1 - i) 0).toNat) := by
      rw [List.getElem?_set_ne (by omega)]; exact gj
    refine vc_drk (fun k => k = b) ?_
    simp (disch := omega) only [go_sem, List.map_cons, List.map_nil, ↓reduceIte, Nat.reduceEqDiff, Nat.reduceAdd, Nat.reduceMul, reduceCtorEq, and_true, true_and, Nat.mul_one, Nat.zero_add, Bool.false_eq_true, decide_true, decide_false, not_false_eq_true, kont_eq, hf2, hf3, ej, hB.cell, hB.frz, gi, gj, B2.cell, B2.frz, g2, tn_cast]
    rw [w8_len]
    have B3 := B2.setc (l.length - 1 - i) (.int .u8 (x.getD i 0).toNat)
    have hO2 := setOwS (i := i) (v := .int .u8 (x.getD (l.length - 1 - i) 0).toNat) hB (l := w8 x) (by rw [w8_len]; exact h1) h2 (by rw [w8_len]; exact h3) (by rw [w8_len]; omega)
    have hO3 := OwS.bl (n := x.length) (c := c) B3 (l := w8 ((x.set i (x.getD (l.length - 1 - i) 0)).set (l.length - 1 - i) (x.getD i 0))) (by simp [w8_len]) h1 (by simpa using h2) (by rw [List.take_set, List.take_set, h3, w8_set, w8_set])
    have KA : Keep (fun k => k = b) H1 (setc H1 ⟨b, i, none⟩ (.int .u8 (x.getD (l.length - 1 - i) 0).toNat)) := (Keep.refl _ _).setc _ (.inl rfl)
    have e1 : IntKind.i64.wrap ((i : Int) + 1) = ((i + 1 : Nat) : Int) := by rw [IntWalk.i64_in _ ⟨by omega, by omega⟩]; simp
    have e2 : IntKind.i64.wrap (((l.length - 1 - i : Nat) : Int) - 1) = (l.length : Int) - 1 - ((i + 1 : Nat) : Int) := by rw [IntWalk.i64_in _ ⟨by omega, by omega⟩]; omega
    rw [e1, e2]
    have fin : ∃ m, m < l.length - i ∧ ∃ i_1 x_1, 2 * i_1 ≤ l.length + 1 ∧ m = l.length - i_1 ∧ Value.int IntKind.i64 ((i + 1 : Nat) : Int) = Value.int IntKind.i64 ↑i_1 ∧ Value.int IntKind.i64 ((l.length : Int) - 1 - ((i + 1 : Nat) : Int)) = Value.int IntKind.i64 (↑l.length - 1 - ↑i_1) ∧ RevTo l i_1 x_1 ∧
        OwS (setc (setc H1 ⟨b, i, none⟩ (.int .u8 (x.getD (l.length - 1 - i) 0).toNat)) ⟨b, l.length - 1 - i, none⟩ (.int .u8 (x.getD i 0).toNat)) (.slice (some ⟨b, 0, none⟩) x.length c) (w8 x_1) ∧
        Keep (ownB (.slice (some ⟨b, 0, none⟩) x.length c)) H (setc (setc H1 ⟨b, i, none⟩ (.int .u8 (x.getD (l.length - 1 - i) 0).toNat)) ⟨b, l.length - 1 - i, none⟩ (.int .u8 (x.getD i 0).toNat)) := by
      rw [w8_len] at K1
      exact ⟨l.length - (i + 1), by omega, i + 1, _, by omega, rfl, rfl, rfl, hR.step hi2, hO3, (K1.setc (p := ⟨b, i, none⟩) _ (.inl rfl)).setc (p := ⟨b, l.length - 1 - i, none⟩) _ (.inl rfl)⟩
    have KB := (Keep.refl (fun k => k = b) (setc H1 ⟨b, i, none⟩ (.int .u8 (x.getD (l.length - 1 - i) 0).toNat))).setc (p := ⟨b, l.length - 1 - i, none⟩) (.int .u8 (x.getD i 0).toNat) (.inl rfl)
    have K0 : Keep (fun k => k = b) H1 H1 := Keep.refl _ _
    refine ⟨by omega, by omega, ⟨K0, K0, by omega, KA, by omega, KB, fin⟩, ⟨K0, K0, by omega, KA, by omega, KB, fin⟩⟩
  · have := hR.all (by omega)
    subst this
    exact ⟨hO, K1⟩

/-! ### numbers -/
theorem and127 (v : Nat) (h : v < 18446744073709551616) : bits .and .u64 (v : Int) 127 = ((v % 128 : Nat) : Int) := by
  have e : (v : Int) = ((UInt64.ofNat v).toNat : Int) := by rw [UInt64.toNat_ofNat']; omega
  have e2 : (127 : Int) = ((127 : UInt64).toNat : Int) := rfl
  rw [e, e2, bits_and, UInt64.toNat_and, UInt64.toNat_ofNat']
  have : (127 : UInt64).toNat = 2 ^ 7 - 1 := rfl
  rw [this, Nat.and_two_pow_sub_one_eq_mod]
  omega
theorem or128 (x : Nat) (h : x < 128) : bits .or .u8 (x : Int) 128 = ((x + 128 : Nat) : Int) := by
  have : ∀ m : Fin 128, bits .or .u8 ((m.val : Nat) : Int) 128 = ((m.val + 128 : Nat) : Int) := by decide +kernel
  exact this ⟨x, h⟩
theorem u8_of (n : Nat) (h : n < 256) : (n : Int) = ((UInt8.ofNat n).toNat : Int) := by rw [UInt8.toNat_ofNat']; omega
def NumSpec (P : Program) (k : FuncId) : Prop := ∀ (v : Nat) (H : Hp), v < 18446744073709551616 → CallsM P k #[.int .u64 v] H fun r H' => OwS H' r (w8 (enc7 v)) ∧ (∀ k, ownB r k → H.size ≤ k) ∧ Keep (fun _ => False) H H'
theorem groups_ok {P : Program} {ι : Ids} {k : FuncId} (hk : FnIs P k (c_groups ι) r_groups 1) (hr : RevSpec P (ι.f 52)) : NumSpec P k := by
  intro v H hv
  refine calls_of_vc hk (args := [_]) (by simp) ?_
  unfold c_groups r_groups
  have a1 := and127 v hv
  have w1 : ∀ m : Nat, m < 256 → IntKind.u8.wrap (m : Int) = (m : Int) := fun m hm => by rw [IntKind.wrap_u8]; omega
  have sh : ∀ u : Nat, (u : Int) / 2 ^ 7 = ((u / 128 : Nat) : Int) := fun u => by
    have : (2 ^ 7 : Int) = 128 := by decide
    rw [this]; omega
  simp (disch := omega) only [go_sem, List.map_cons, List.map_nil, ↓reduceIte, Nat.reduceEqDiff, Nat.reduceAdd, Nat.reduceMul, reduceCtorEq, and_true, true_and, Nat.mul_one, Nat.zero_add, Bool.false_eq_true, decide_true, decide_false, not_false_eq_true, a1, w1]
  refine kont_news fun H1 b1 e1 z1 B1 K1 => ?_
  have k1 := K1.size
  have B1 : Bl H1 b1 (w8 [UInt8.ofNat (v % 128)]) := by
    have e := u8_of (v % 128) (by omega)
    simp only [w8, List.map_cons, List.map_nil, ← e]; exact B1
  simp only [go_sem, List.map_cons, List.map_nil, ↓reduceIte, Nat.reduceEqDiff, Nat.reduceAdd, Nat.reduceMul, reduceCtorEq, and_true, true_and, Nat.mul_one, Nat.zero_add, Bool.false_eq_true, decide_true, decide_false, not_false_eq_true, kont_eq, sh]
  refine And.intro (by omega) ?_
  refine vc_loop [11, 3, 0] rfl (fun n f H' => ∃ (u : Nat) (out : List UInt8), n = u ∧ u < 18446744073709551616 ∧ f 0 = .int .u64 u ∧ OwS H' (f 3) (w8 out) ∧ (∀ k, ownB (f 3) k → H.size ≤ k) ∧ out ++ tl7 u = le7 v ∧ Keep (fun _ => False) H H') (v / 128)
    ⟨v / 128, [UInt8.ofNat (v % 128)], rfl, by omega, rfl, OwS.new B1 (by simp [w8]) rfl, fun k (h : k = b1) => by omega, rfl, K1⟩ ?_
  rintro n g H2 ⟨u, out, rfl, hu, hf0, O2, o2, ho, K2⟩
  have hol : out.length ≤ 11 := by
    have := enc7_len v hv
    simp only [enc7, List.length_reverse, ← ho, List.length_append] at this; omega
  simp only [go_sem, List.map_cons, List.map_nil, ↓reduceIte, Nat.reduceEqDiff, Nat.reduceAdd, Nat.reduceMul, reduceCtorEq, and_true, true_and, Nat.mul_one, Nat.zero_add, Bool.false_eq_true, decide_true, decide_false, not_false_eq_true, kont_eq] at hf0 O2 o2
  simp only [go_sem, List.map_cons, List.map_nil, ↓reduceIte, Nat.reduceEqDiff, Nat.reduceAdd, Nat.reduceMul, reduceCtorEq, and_true, true_and, Nat.mul_one, Nat.zero_add, Bool.false_eq_true, decide_true, decide_false, not_false_eq_true, kont_eq, hf0]
  refine iteV_dec (fun hlt => ?_) (fun hge => ?_)
  · have hu0 : n ≠ 0 := by omega
    have a2 := and127 n hu
    have o1 := or128 (n % 128) (by omega)
    simp (disch := omega) only [go_sem, List.map_cons, List.map_nil, ↓reduceIte, Nat.reduceEqDiff, Nat.reduceAdd, Nat.reduceMul, reduceCtorEq, and_true, true_and, Nat.mul_one, Nat.zero_add, Bool.false_eq_true, decide_true, decide_false, not_false_eq_true, kont_eq, hf0, a2, w1, o1, sh]
    generalize hA : Array.push H2 _ = H3
    have B3 : Bl H3 H2.size (w8 [UInt8.ofNat (n % 128 + 128)]) := by
      have e := u8_of (n % 128 + 128) (by omega)
      rw [← hA]; simp only [w8, List.map_cons, List.map_nil, ← e]; exact Bl.new' _ _ _
    have K3 : Keep (fun _ => False) H2 H3 := by rw [← hA]; exact (Keep.refl _ _).push _
    have K3' := K2.trans K3
    refine app_bytesN H.size (l := out) (m := [UInt8.ofNat (n % 128 + 128)]) (O2.keep K3 (by simp)) o2 (by have := K3'.size; omega) (SlR.bl (l := w8 [UInt8.ofNat (n % 128 + 128)]) B3 0 1 1 (by omega) (by simp [w8])) rfl (by simp; omega) fun v4 H4 O4 o4 K4 => ?_
    simp (disch := omega) only [go_sem, List.map_cons, List.map_nil, ↓reduceIte, Nat.reduceEqDiff, Nat.reduceAdd, Nat.reduceMul, reduceCtorEq, and_true, true_and, Nat.mul_one, Nat.zero_add, Bool.false_eq_true, decide_true, decide_false, not_false_eq_true, kont_eq, hf0, sh]
    refine And.intro (by omega) ?_
    refine ⟨n / 128, by omega, n / 128, _, rfl, by omega, rfl, O4, o4, ?_, K3'.at_old K4 (by omega)⟩
    rw [List.append_assoc, List.singleton_append, ← tl7_pos hu0]; exact ho
  · have hu0 : n = 0 := by omega
    subst hu0
    rw [tl7_0, List.append_nil] at ho
    subst ho
    refine (hr _ _ _ O2 (by omega)).mono ?_
    rintro r H3 ⟨rfl, O3, K3⟩
    simp only [go_sem, List.map_cons, List.map_nil, ↓reduceIte, Nat.reduceEqDiff, Nat.reduceAdd, Nat.reduceMul, reduceCtorEq, and_true, true_and, Nat.mul_one, Nat.zero_add, Bool.false_eq_true, decide_true, decide_false, not_false_eq_true, kont_eq]
    exact ⟨O3, o2, K2.trans' K3 (fun i hi e => by have := o2 i e; omega)⟩
theorem rput_ok {P : Program} {ι : Ids} {k : FuncId} (hk : FnIs P k (c_rput ι) r_rput 1) : NumSpec P k := by
  intro v H hv
  refine calls_of_vc hk (args := [_]) (by simp) ?_
  unfold c_rput r_rput
  have w1 : ∀ m : Nat, m < 256 → IntKind.u8.wrap (m : Int) = (m : Int) := fun m hm => by rw [IntKind.wrap_u8]; omega
  have w2 : ∀ m : Nat, m < 128 → IntKind.u8.wrap ((m : Int) + 128) = ((m + 128 : Nat) : Int) := fun m hm => by rw [IntKind.wrap_u8]; omega
  have w6 : ∀ m : Nat, m < 18446744073709551616 → IntKind.u64.wrap (m : Int) = (m : Int) := fun m hm => by rw [IntKind.wrap_u64]; omega
  have rm : ∀ u : Nat, (u : Int).tmod 128 = ((u % 128 : Nat) : Int) := fun u => by rw [Int.tmod_eq_emod_of_nonneg (by omega)]; omega
  have qu : ∀ u : Nat, (u : Int).tdiv 128 = ((u / 128 : Nat) : Int) := fun u => by rw [Int.tdiv_eq_ediv_of_nonneg (by omega)]; omega
  simp (disch := omega) only [go_sem, List.map_cons, List.map_nil, ↓reduceIte, Nat.reduceEqDiff, Nat.reduceAdd, Nat.reduceMul, reduceCtorEq, and_true, true_and, Nat.mul_one, Nat.zero_add, Bool.false_eq_true, decide_true, decide_false, not_false_eq_true, rm, w1, w6]
  refine And.intro (by omega) (kont_news fun H1 b1 e1 z1 B1 K1 => ?_)
  have k1 := K1.size
  have B1 : Bl H1 b1 (w8 [UInt8.ofNat (v % 128)]) := by
    have e := u8_of (v % 128) (by omega)
    simp only [w8, List.map_cons, List.map_nil, ← e]; exact B1
  simp only [go_sem, List.map_cons, List.map_nil, ↓reduceIte, Nat.reduceEqDiff, Nat.reduceAdd, Nat.reduceMul, reduceCtorEq, and_true, true_and, Nat.mul_one, Nat.zero_add, Bool.false_eq_true, decide_true, decide_false, not_false_eq_true, kont_eq]
  refine vc_loop [9, 0, 3] rfl (fun n f H' => ∃ (u : Nat) (out : List UInt8), n = u ∧ u < 18446744073709551616 ∧ f 0 = .int .u64 u ∧ OwS H' (f 3) (w8 out) ∧ (∀ k, ownB (f 3) k → H.size ≤ k) ∧ out.reverse ++ tl7 (u / 128) = le7 v ∧ Keep (fun _ => False) H H') v
    ⟨v, [UInt8.ofNat (v % 128)], rfl, hv, rfl, OwS.new B1 (by simp [w8]) rfl, fun k (h : k = b1) => by omega, rfl, K1⟩ ?_
  rintro n g H2 ⟨u, out, rfl, hu, hf0, O2, o2, ho, K2⟩
  have hol : out.length ≤ 11 := by
    have := enc7_len v hv
    simp only [enc7, List.length_reverse, ← ho, List.length_append] at this; omega
  simp only [go_sem, List.map_cons, List.map_nil, ↓reduceIte, Nat.reduceEqDiff, Nat.reduceAdd, Nat.reduceMul, reduceCtorEq, and_true, true_and, Nat.mul_one, Nat.zero_add, Bool.false_eq_true, decide_true, decide_false, not_false_eq_true, kont_eq] at hf0 O2 o2
  simp only [go_sem, List.map_cons, List.map_nil, ↓reduceIte, Nat.reduceEqDiff, Nat.reduceAdd, Nat.reduceMul, reduceCtorEq, and_true, true_and, Nat.mul_one, Nat.zero_add, Bool.false_eq_true, decide_true, decide_false, not_false_eq_true, kont_eq, hf0]
  refine iteV_dec (fun hlt => ?_) (fun hge => ?_)
  · have hu0 : n / 128 ≠ 0 := by omega
    simp (disch := omega) only [go_sem, List.map_cons, List.map_nil, ↓reduceIte, Nat.reduceEqDiff, Nat.reduceAdd, Nat.reduceMul, reduceCtorEq, and_true, true_and, Nat.mul_one, Nat.zero_add, Bool.false_eq_true, decide_true, decide_false, not_false_eq_true, kont_eq, hf0, qu, rm, w1, w2, w6]
    have hd : n / 128 % 128 + 128 < 256 := by omega
    generalize hA : Array.push H2 _ = H3
    have B3 : Bl H3 H2.size (w8 [UInt8.ofNat (n / 128 % 128 + 128)]) := by
      have e := u8_of (n / 128 % 128 + 128) hd
      rw [← hA]; simp only [w8, List.map_cons, List.map_nil, ← e]; exact Bl.new' _ _ _
    have K3 : Keep (fun _ => False) H2 H3 := by rw [← hA]; exact (Keep.refl _ _).push _
    have K3' := K2.trans K3
    have k2 := K2.size
    refine ⟨by omega, by omega, app_bytesN H.size (l := [UInt8.ofNat (n / 128 % 128 + 128)]) (m := out) (OwS.new B3 (by simp [w8]) rfl) (fun k (h : k = H2.size) => by omega) (by have := K3'.size; omega) ((O2.keep K3 (by simp)).sl) rfl (by simp; omega) fun v4 H4 O4 o4 K4 => ?_⟩
    simp (disch := omega) only [go_sem, List.map_cons, List.map_nil, ↓reduceIte, Nat.reduceEqDiff, Nat.reduceAdd, Nat.reduceMul, reduceCtorEq, and_true, true_and, Nat.mul_one, Nat.zero_add, Bool.false_eq_true, decide_true, decide_false, not_false_eq_true, kont_eq, hf0]
    refine ⟨n / 128, by omega, n / 128, _, rfl, by omega, rfl, O4, o4, ?_, K3'.at_old K4 (by omega)⟩
    rw [List.reverse_append, List.append_assoc]
    rw [tl7_pos hu0] at ho
    exact ho
  · have hu0 : n / 128 = 0 := by omega
    rw [hu0, tl7_0, List.append_nil] at ho
    have : out = enc7 v := by rw [enc7, ← ho, List.reverse_reverse]
    subst this
    exact ⟨O2, o2, K2⟩

/-! ### the writer -/
def grow (F : Nat → Prop) (H H' : Hp) : Nat → Prop := fun k => F k ∨ (H.size ≤ k ∧ k < H'.size)
/-- block w is a writer that holds l; F: its blocks -/
def WrB (F : Nat → Prop) (H : Hp) (w : Nat) (l : List UInt8) : Prop := ∃ v, Bl H w [v] ∧ OwS H v (w8 l) ∧ ¬ ownB v w ∧ F w ∧ (∀ k, ownB v k → F k) ∧ ∀ k, F k → k < H.size
theorem WrB.keep {F W : Nat → Prop} {H H' : Hp} {w : Nat} {l : List UInt8} (h : WrB F H w l) (hk : Keep W H H') (hw : ∀ k, F k → ¬ W k) : WrB F H' w l := by
  obtain ⟨v, h1, h2, h3, h4, h5, h6⟩ := h
  exact ⟨v, hk.bl h1 (hw _ h4), h2.keep hk (fun k hb => hw k (h5 k hb)), h3, h4, h5, fun k hf => Nat.lt_of_lt_of_le (h6 k hf) hk.size⟩
theorem WrB.bound {F : Nat → Prop} {H : Hp} {w : Nat} {l : List UInt8} (h : WrB F H w l) : ∀ k, F k → k < H.size := let ⟨_, _, _, _, _, _, h6⟩ := h; h6
def WRawSpec (P : Program) (k : FuncId) : Prop := ∀ (F : Nat → Prop) (w : Nat) (l m : List UInt8) (v : Value) (H : Hp), WrB F H w l → SlR H v (w8 m) → l.length + m.length ≤ 100000000 →
  CallsM P k #[.pointer (some ⟨w, 0, none⟩), v] H fun r H' => r = .tuple #[] ∧ WrB (grow F H H') H' w (l ++ m) ∧ Keep F H H'
theorem wraw_ok {P : Program} {ι : Ids} {k : FuncId} (hk : FnIs P k (c_wraw ι) r_wraw 2) : WRawSpec P k := by
  intro F w l m v H hw hv hlm
  refine calls_of_vc hk (args := [_, _]) (by simp) ?_
  unfold c_wraw r_wraw
  obtain ⟨u, hB, hO, hn, hFw, hFo, hFs⟩ := hw
  simp only [go_sem, List.map_cons, List.map_nil, ↓reduceIte, Nat.reduceEqDiff, Nat.reduceAdd, Nat.reduceMul, reduceCtorEq, and_true, true_and, Nat.mul_one, Nat.zero_add, Bool.false_eq_true, decide_true, decide_false, not_false_eq_true, kont_eq, hB.cell]
  refine app_bytes hO hv rfl (by omega) fun v1 H1 O1 K1 o1 => ?_
  have B1 := K1.bl hB hn
  have hwl := hB.lt
  have h1 := K1.size
  have n1 : ¬ ownB v1 w := fun h => by rcases o1 w h with h | h; exact hn h; omega
  obtain ⟨a1, m1, c1, rfl⟩ := O1.shape
  have B2 := B1.setc 0 (.slice a1 m1 c1)
  simp only [go_sem, List.map_cons, List.map_nil, ↓reduceIte, Nat.reduceEqDiff, Nat.reduceAdd, Nat.reduceMul, reduceCtorEq, and_true, true_and, Nat.mul_one, Nat.zero_add, Bool.false_eq_true, decide_true, decide_false, not_false_eq_true, kont_eq, B1.cell, B1.frz]
  refine ⟨⟨_, B2, O1.keep ((Keep.refl (fun k => k = w) H1).setc (p := ⟨w, 0, none⟩) (.slice a1 m1 c1) (.inl rfl)) (fun k h e => n1 (e ▸ h)), n1, .inl hFw, fun k h => ?_, fun k h => ?_⟩, (K1.mono fun k _ h => hFo k h).setc (p := ⟨w, 0, none⟩) _ (.inl hFw)⟩
  · rcases o1 k h with h' | h'
    · exact .inl (hFo k h')
    · exact .inr ⟨h', by rw [size_setc]; exact O1.old h⟩
  · have hz := size_setc H1 ⟨w, 0, none⟩ (.slice a1 m1 c1)
    rw [hz]
    rcases h with h | h
    · have := hFs k h; omega
    · rw [hz] at h; exact h.2
def WNewSpec (P : Program) (k : FuncId) : Prop := ∀ H, CallsM P k #[] H fun r H' => r = .pointer (some ⟨H.size, 0, none⟩) ∧ WrB (fun k => k = H.size) H' H.size [] ∧ Keep (fun _ => False) H H'
theorem wnew_ok {P : Program} {ι : Ids} {k : FuncId} (hk : FnIs P k (c_wnew ι) r_wnew 0) : WNewSpec P k := by
  intro H
  refine calls_of_vc hk (args := []) (by simp) ?_
  unfold c_wnew r_wnew
  simp only [go_sem, List.map_cons, List.map_nil, ↓reduceIte, Nat.reduceEqDiff, Nat.reduceAdd, Nat.reduceMul, reduceCtorEq, and_true, true_and, Nat.mul_one, Nat.zero_add, Bool.false_eq_true, decide_true, decide_false, not_false_eq_true, okFill, fillV]
  refine kont_new fun H1 b1 e1 z1 B1 K1 => ?_
  subst e1
  simp only [go_sem, List.map_cons, List.map_nil, ↓reduceIte, Nat.reduceEqDiff, Nat.reduceAdd, Nat.reduceMul, reduceCtorEq, and_true, true_and, Nat.mul_one, Nat.zero_add, Bool.false_eq_true, decide_true, decide_false, not_false_eq_true, kont_eq]
  exact ⟨⟨_, B1, OwS.nil _, fun h => h.elim, rfl, fun k h => h.elim, fun k h => by omega⟩, K1⟩
def WUintSpec (P : Program) (k : FuncId) : Prop := ∀ (F : Nat → Prop) (w : Nat) (l : List UInt8) (v : Nat) (H : Hp), WrB F H w l → v < 18446744073709551616 → l.length ≤ 90000000 →
  CallsM P k #[.pointer (some ⟨w, 0, none⟩), .int .u64 v] H fun r H' => r = .tuple #[] ∧ WrB (grow F H H') H' w (l ++ enc7 v) ∧ Keep F H H'
theorem WrB.mono {F G : Nat → Prop} {H : Hp} {w : Nat} {l : List UInt8} (h : WrB F H w l) (hf : ∀ k, F k → G k) (hg : ∀ k, G k → k < H.size) : WrB G H w l := by
  obtain ⟨v, h1, h2, h3, h4, h5, h6⟩ := h
  exact ⟨v, h1, h2, h3, hf _ h4, fun k hk => hf k (h5 k hk), hg⟩
theorem wuint_ok {P : Program} {ι : Ids} {k : FuncId} (hk : FnIs P k (c_wuint ι) r_wuint 2) (hg : NumSpec P (ι.f 53)) (hr : WRawSpec P (ι.f 56)) : WUintSpec P k := by
  intro F w l v H hw hv hl
  refine calls_of_vc hk (args := [_, _]) (by simp) ?_
  unfold c_wuint r_wuint
  simp only [go_sem, List.map_cons, List.map_nil, ↓reduceIte, Nat.reduceEqDiff, Nat.reduceAdd, Nat.reduceMul, reduceCtorEq, and_true, true_and, Nat.mul_one, Nat.zero_add, Bool.false_eq_true, decide_true, decide_false, not_false_eq_true, kont_eq]
  refine (hg _ _ hv).mono ?_
  rintro r1 H1 ⟨O1, o1, K1⟩
  have := enc7_len v hv
  have k1 := K1.size
  have hb := hw.bound
  simp only [go_sem, List.map_cons, List.map_nil, ↓reduceIte, Nat.reduceEqDiff, Nat.reduceAdd, Nat.reduceMul, reduceCtorEq, and_true, true_and, Nat.mul_one, Nat.zero_add, Bool.false_eq_true, decide_true, decide_false, not_false_eq_true, kont_eq]
  refine (hr _ _ _ _ _ _ (hw.keep K1 (by simp)) O1.sl (by omega)).mono ?_
  rintro r H2 ⟨rfl, W2, K2⟩
  simp only [go_sem, List.map_cons, List.map_nil, ↓reduceIte, Nat.reduceEqDiff, Nat.reduceAdd, Nat.reduceMul, reduceCtorEq, and_true, true_and, Nat.mul_one, Nat.zero_add, Bool.false_eq_true, decide_true, decide_false, not_false_eq_true, kont_eq]
  refine ⟨W2.mono (fun k h => ?_) (fun k h => ?_), K1.any.trans K2⟩
  · rcases h with h | h
    · exact .inl h
    · exact .inr ⟨by omega, h.2⟩
  · have := K2.size
    rcases h with h | h
    · have := hb k h; omega
    · exact h.2
def WBytesSpec (P : Program) (k : FuncId) : Prop := ∀ (F : Nat → Prop) (w : Nat) (l m : List UInt8) (v : Value) (H : Hp), WrB F H w l → SlR H v (w8 m) → (∀ k, slB v k → ¬ F k) → l.length + m.length ≤ 80000000 →
  CallsM P k #[.pointer (some ⟨w, 0, none⟩), v] H fun r H' => r = .tuple #[] ∧ WrB (grow F H H') H' w (l ++ encB m) ∧ Keep F H H'
theorem wbytes_ok {P : Program} {ι : Ids} {k : FuncId} (hk : FnIs P k (c_wbytes ι) r_wbytes 2) (hu : WUintSpec P (ι.f 57)) (hr : WRawSpec P (ι.f 56)) : WBytesSpec P k := by
  intro F w l m v H hw hv hvF hl
  refine calls_of_vc hk (args := [_, _]) (by simp) ?_
  unfold c_wbytes r_wbytes
  have w6 : IntKind.u64.wrap (m.length : Int) = (m.length : Int) := by rw [IntKind.wrap_u64]; omega
  simp only [go_sem, List.map_cons, List.map_nil, ↓reduceIte, Nat.reduceEqDiff, Nat.reduceAdd, Nat.reduceMul, reduceCtorEq, and_true, true_and, Nat.mul_one, Nat.zero_add, Bool.false_eq_true, decide_true, decide_false, not_false_eq_true, kont_eq, hv.isSl, hv.len, w8_len, w6]
  refine (hu _ _ _ _ _ hw (by omega) (by omega)).mono ?_
  rintro r1 H1 ⟨rfl, W1, K1⟩
  have k1 := K1.size
  have hb := hw.bound
  have := enc7_len m.length (by omega)
  simp only [go_sem, List.map_cons, List.map_nil, ↓reduceIte, Nat.reduceEqDiff, Nat.reduceAdd, Nat.reduceMul, reduceCtorEq, and_true, true_and, Nat.mul_one, Nat.zero_add, Bool.false_eq_true, decide_true, decide_false, not_false_eq_true, kont_eq]
  refine (hr _ _ _ _ _ _ W1 (hv.keep K1 hvF) (by rw [List.length_append]; omega)).mono ?_
  rintro r H2 ⟨rfl, W2, K2⟩
  have k2 := K2.size
  simp only [go_sem, List.map_cons, List.map_nil, ↓reduceIte, Nat.reduceEqDiff, Nat.reduceAdd, Nat.reduceMul, reduceCtorEq, and_true, true_and, Nat.mul_one, Nat.zero_add, Bool.false_eq_true, decide_true, decide_false, not_false_eq_true, kont_eq]
  rw [List.append_assoc] at W2
  refine ⟨W2.mono (fun k h => ?_) (fun k h => ?_), K1.trans' K2 (fun i hi h => ?_)⟩
  · rcases h with (h | h) | h
    · exact .inl h
    · exact .inr ⟨h.1, by omega⟩
    · exact .inr ⟨by omega, h.2⟩
  · rcases h with h | h
    · have := hb k h; omega
    · exact h.2
  · rcases h with h | h
    · exact h
    · omega
def WStringSpec (P : Program) (k : FuncId) : Prop := ∀ (F : Nat → Prop) (w : Nat) (l m : List UInt8) (H : Hp), WrB F H w l → l.length + m.length ≤ 80000000 →
  CallsM P k #[.pointer (some ⟨w, 0, none⟩), .string ⟨m.toArray⟩] H fun r H' => r = .tuple #[] ∧ WrB (grow F H H') H' w (l ++ encB m) ∧ Keep F H H'
/-- bytes of a string: a new block -/
theorem s2b_new (H : Hp) (m : List UInt8) (T : TypeId) (c : Nat) (hc : m.length ≤ c) : Keep (fun _ => False) H (H.push (.cells (byteCells ⟨m.toArray⟩ ++ Array.replicate (c - m.length) (.int .u8 0)) T (c, c + 1))) ∧
    SlR (H.push (.cells (byteCells ⟨m.toArray⟩ ++ Array.replicate (c - m.length) (.int .u8 0)) T (c, c + 1))) (.slice (some ⟨H.size, 0, none⟩) m.length c) (w8 m) := by
  have hbc : (byteCells ⟨m.toArray⟩).toList = w8 m := by simp [byteCells, w8]
  refine ⟨(Keep.refl _ _).push _, ?_⟩
  have := SlR.at_ (H := H.push (.cells (byteCells ⟨m.toArray⟩ ++ Array.replicate (c - m.length) (.int .u8 0)) T (c, c + 1))) (b := H.size) (o := 0) (c := c) (l := w8 m) (C := byteCells ⟨m.toArray⟩ ++ Array.replicate (c - m.length) (.int .u8 0)) (T := T) (z := (c, c + 1)) (by rw [w8_len]; exact hc) (by simp) (by
    rw [w8_len, Array.size_append]
    have : (byteCells ⟨m.toArray⟩).size = m.length := by rw [← Array.length_toList, hbc, w8_len]
    omega) (by
    rw [Array.toList_append, hbc, List.drop_zero, List.take_left' rfl])
  rwa [w8_len] at this
theorem wstring_ok {P : Program} {ι : Ids} {k : FuncId} (hk : FnIs P k (c_wstring ι) r_wstring 2) (hb : WBytesSpec P (ι.f 58)) : WStringSpec P k := by
  intro F w l m H hw hl
  refine calls_of_vc hk (args := [_, _]) (by simp) ?_
  unfold c_wstring r_wstring
  simp only [go_sem, List.map_cons, List.map_nil, ↓reduceIte, Nat.reduceEqDiff, Nat.reduceAdd, Nat.reduceMul, reduceCtorEq, and_true, true_and, Nat.mul_one, Nat.zero_add, Bool.false_eq_true, decide_true, decide_false, not_false_eq_true, kont_eq]
  intro c hc
  have hc : m.length ≤ c := hc
  obtain ⟨K1, S1⟩ := s2b_new H m (ι.t 19) c hc
  generalize Array.push H _ = H1 at *
  have k1 := K1.size
  have hbd := hw.bound
  refine (hb _ _ _ _ _ _ (hw.keep K1 (by simp)) S1 (fun k h hF => ?_) hl).mono ?_
  · have h := h.1
    have := hbd k hF
    simp only [] at h
    omega
  rintro r H2 ⟨rfl, W2, K2⟩
  have k2 := K2.size
  simp only [go_sem, List.map_cons, List.map_nil, ↓reduceIte, Nat.reduceEqDiff, Nat.reduceAdd, Nat.reduceMul, reduceCtorEq, and_true, true_and, Nat.mul_one, Nat.zero_add, Bool.false_eq_true, decide_true, decide_false, not_false_eq_true, kont_eq]
  refine ⟨W2.mono (fun k h => ?_) (fun k h => ?_), K1.any.trans K2⟩
  · rcases h with h | h
    · exact .inl h
    · exact .inr ⟨by omega, h.2⟩
  · rcases h with h | h
    · have := hbd k h; omega
    · exact h.2
def WOutSpec (P : Program) (k : FuncId) : Prop := ∀ (F : Nat → Prop) (w : Nat) (l : List UInt8) (H : Hp), WrB F H w l → l.length ≤ 100000000 →
  CallsM P k #[.pointer (some ⟨w, 0, none⟩)] H fun r H' => OwS H' r (w8 l) ∧ (∀ k, ownB r k → H.size ≤ k) ∧ Keep (fun _ => False) H H'
theorem wout_ok {P : Program} {ι : Ids} {k : FuncId} (hk : FnIs P k (c_wout ι) r_wout 1) (hc : CloneSpec P (ι.f 51)) : WOutSpec P k := by
  intro F w l H hw hl
  refine calls_of_vc hk (args := [_]) (by simp) ?_
  unfold c_wout r_wout
  obtain ⟨v, hB, hO, hn, hFw, hFo, hFs⟩ := hw
  simp only [go_sem, List.map_cons, List.map_nil, ↓reduceIte, Nat.reduceEqDiff, Nat.reduceAdd, Nat.reduceMul, reduceCtorEq, and_true, true_and, Nat.mul_one, Nat.zero_add, Bool.false_eq_true, decide_true, decide_false, not_false_eq_true, kont_eq, hB.cell]
  refine (hc _ _ _ hO.sl hl).mono ?_
  rintro r H1 ⟨O1, o1, K1⟩
  simp only [go_sem, List.map_cons, List.map_nil, ↓reduceIte, Nat.reduceEqDiff, Nat.reduceAdd, Nat.reduceMul, reduceCtorEq, and_true, true_and, Nat.mul_one, Nat.zero_add, Bool.false_eq_true, decide_true, decide_false, not_false_eq_true, kont_eq]
  exact ⟨O1, o1, K1⟩
def RPutBSpec (P : Program) (k : FuncId) : Prop := ∀ (l : List UInt8) (v : Value) (H : Hp), SlR H v (w8 l) → l.length ≤ 80000000 → CallsM P k #[v] H fun r H' => OwS H' r (w8 (encB l)) ∧ (∀ k, ownB r k → H.size ≤ k) ∧ Keep (fun _ => False) H H'
theorem rputb_ok {P : Program} {ι : Ids} {k : FuncId} (hk : FnIs P k (c_rputbytes ι) r_rputbytes 1) (hp : NumSpec P (ι.f 61)) : RPutBSpec P k := by
  intro l v H hv hl
  refine calls_of_vc hk (args := [_]) (by simp) ?_
  unfold c_rputbytes r_rputbytes
  have w6 : IntKind.u64.wrap (l.length : Int) = (l.length : Int) := by rw [IntKind.wrap_u64]; omega
  have := enc7_len l.length (by omega)
  simp only [go_sem, List.map_cons, List.map_nil, ↓reduceIte, Nat.reduceEqDiff, Nat.reduceAdd, Nat.reduceMul, reduceCtorEq, and_true, true_and, Nat.mul_one, Nat.zero_add, Bool.false_eq_true, decide_true, decide_false, not_false_eq_true, kont_eq, hv.isSl, hv.len, w8_len, w6]
  refine (hp _ _ (by omega)).mono ?_
  rintro r1 H1 ⟨O1, o1, K1⟩
  have k1 := K1.size
  simp only [go_sem, List.map_cons, List.map_nil, ↓reduceIte, Nat.reduceEqDiff, Nat.reduceAdd, Nat.reduceMul, reduceCtorEq, and_true, true_and, Nat.mul_one, Nat.zero_add, Bool.false_eq_true, decide_true, decide_false, not_false_eq_true, kont_eq]
  refine app_bytesN H.size O1 o1 k1 (hv.keep K1 (by simp)) rfl (by omega) fun v2 H2 O2 o2 K2 => ?_
  simp only [go_sem, List.map_cons, List.map_nil, ↓reduceIte, Nat.reduceEqDiff, Nat.reduceAdd, Nat.reduceMul, reduceCtorEq, and_true, true_and, Nat.mul_one, Nat.zero_add, Bool.false_eq_true, decide_true, decide_false, not_false_eq_true, kont_eq]
  exact ⟨O2, o2, K1.at_old K2 (Nat.le_refl _)⟩
end Go.Mg

/- sets of small numbers: the members one after the other. -/
import Derived.Test.YtjiacmbjgccfcaaGreatDoorMgB2
import Derived.Test.YtjiacmbjgccfcaaGreatDoorMgRf4
open Nat renaming reduceEqDiff → Za, reduceAdd → Zb, reduceMul → Zc
namespace Go.Mg
open Go Go.RowKit
set_option linter.unusedSimpArgs false
set_option linter.unusedVariables false
set_option maxRecDepth 100000
def c_ball (ι : Ids) : S :=
  .seq (.reg [.e (.v 1) (.box (ι.t 128) (.v 0)), .p (.v 2) (.mv (.c .nilFunc))]) (.seq (.reg [.p (.t 3) (.m (.mkf (ι.f 136) [] [.v 1])), .p (.v 2) (.mv (.t 3))]) .ret)
def r_ball : List RV := [.t 2]
def c_ball1 (ι : Ids) : S :=
  .seq (.reg [.p (.t 5) (.fa 0 (.v 1)), .p (.v 6) (.ld (.t 5)), .p (.v 7) (.m (.lenl (.v 6))), .p (.v 8) (.mv (.c (.int .i64 0)))]) (.blk 0 (.loop (.seq (.reg [.p (.v 9) (.cm .lss .i64 (.v 8) (.v 7))])
  (.seq (.ite (.v 9) .skip (.exit 0)) (.seq (.blk 1 (.seq (.reg [.p (.t 10) (.mv (.v 8)), .p (.t 11) (.is 1 (.v 6) (.v 8)), .p (.t 12) (.ld (.t 11)), .p (.v 3) (.mv (.t 10)), .p (.v 4) (.mv (.t 12))])
  (.blk 2 (.loop (.seq (.seq (.reg [.p (.t 13) (.mv (.v 4)), .p (.v 14) (.cm .neq .u64 (.t 13) (.c (.int .u64 0)))]) (.ite (.v 14) .skip (.exit 2))) (.seq (.blk 3 (.seq (.reg [.p (.t 19) (.mv (.v 0)),
  .p (.t 20) (.mv (.v 3)), .p (.t 21) (.ar .mul .i64 (.c (.int .i64 64)) (.t 20)), .p (.t 22) (.mv (.v 4)), .e (.t 23) (.call (ι.f 126) [.t 22]), .p (.t 24) (.ar .add .i64 (.t 21) (.t 23)), .e (.t 25)
  (.cally (.t 19) [.t 24]), .p (.v 26) (.not (.t 25))]) (.ite (.v 26) .ret .skip))) (.reg [.p (.t 15) (.mv (.v 4)), .p (.t 16) (.mv (.v 4)), .p (.t 17) (.ar .sub .u64 (.t 16) (.c (.int .u64 1))), .p (.t
  18) (.bt .and .u64 (.t 15) (.t 17)), .p (.v 4) (.mv (.t 18))]))))))) (.reg [.p (.t 27) (.ar .add .i64 (.v 8) (.c (.int .i64 1))), .p (.v 8) (.mv (.t 27))]))))))
def r_ball1 : List RV := []
def allV (k b : Nat) : Value := .func (.func k) #[] #[.pointer (some ⟨b, 0, none⟩)]
def BAllSpec (P : Program) (k k1 : FuncId) : Prop := ∀ (v : Value) (H : Hp), CallsM P k #[.agg #[v]] H fun r H' => r = allV k1 H.size ∧ Bl H' H.size [v] ∧ Keep (fun _ => False) H H' ∧ H'.size = H.size + 1
theorem ball_ok {P : Program} {ι : Ids} {k : FuncId} (hk : FnIs P k (c_ball ι) r_ball 1) : BAllSpec P k (ι.f 136) := by
  intro v H
  refine calls_of_vc hk (args := [_]) (by simp) ?_
  unfold c_ball r_ball
  simp only [go_sem, zS, ↓reduceIte, Za, Zb, Zc, reduceCtorEq, cells_agg]
  refine kont_new fun H1 b1 e1 z1 B1 K1 => ?_
  subst e1
  simp only [go_sem, zS, ↓reduceIte, Za, Zb, Zc, reduceCtorEq, kont_eq]
  exact ⟨rfl, B1, K1, z1⟩
def memL (p : Nat → Bool) : List Value := (mems p).map fun n : Nat => Value.int .i64 (n : Int)
theorem memL_len (p : Nat → Bool) : (memL p).length = cn 4096 p := by simp [memL, mems_length]
theorem memL_get {p : Nat → Bool} {n : Nat} (h : n < 4096) (hp : p n = true) : (memL p).getD (cn n p) undef = .int .i64 (n : Int) := by
  have := filter_get p 4096 n h hp
  unfold memL mems
  rw [List.getD_eq_getElem?_getD, List.getElem?_map, this]; rfl
theorem cn_lt {p : Nat → Bool} {n N : Nat} (h : n < N) (hp : p n = true) : cn n p < cn N p := by
  have h1 : cn (n + 1) p = cn n p + 1 := by rw [cn_succ, if_pos hp]
  have h2 : cn (n + 1) p ≤ cn N p := by
    obtain ⟨d, rfl⟩ : ∃ d, N = n + 1 + d := ⟨N - (n + 1), by omega⟩
    rw [cn_add_n (n + 1) d]; omega
  omega
theorem bits_and' (x y : UInt64) : bits .and .u64 (x.toNat : Int) (IntKind.u64.wrap ((y.toNat : Int) - 1)) = ((x &&& (y - 1)).toNat : Int) := by
  have : IntKind.u64.wrap ((y.toNat : Int) - 1) = ((y - 1).toNat : Int) := by
    have := y.toNat_lt
    rw [IntKind.wrap_u64, UInt64.toNat_sub]
    have e : (1 : UInt64).toNat = 1 := rfl
    rw [e]; omega
  rw [this]; exact bits_and _ _
theorem ball1_ok {P : Program} {ι : Ids} {k : FuncId} (hk : FnIsY P k (c_ball1 ι) r_ball1 2) (ht : TzSpec P ι (ι.f 126)) {v : Value} {W : List UInt64} {p : Nat → Bool} {b : Nat} :
    IterC P k #[.pointer (some ⟨b, 0, none⟩)] (memL p) (fun H => TabOk ι H ∧ Bl H b [v] ∧ SetV H v W p) := by
  intro l J K hY hG H h0 w hw
  have main : CallsM P k #[.func (.yield l) #[] #[], .pointer (some ⟨b, 0, none⟩)] H fun r H' => J (memL p).length H' ∨ K H' := by
    refine calls_of_vcY hk (args := [_, _]) (by simp) ?_
    unfold c_ball1 r_ball1
    obtain ⟨_, B0, V0⟩ := hG 0 H h0
    have hlen := V0.len
    simp only [go_sem, zS, ↓reduceIte, Za, Zb, Zc, reduceCtorEq, kont_eq, B0.cell, V0.sl.isSl, V0.sl.len, w64_len]
    have hall : (memL p).length = cn (64 * W.length) p := by rw [memL_len, V0.count, mems_length]
    refine vc_loop [9, 3, 4, 14, 26, 8] rfl (fun n f H' => ∃ i, i ≤ W.length ∧ n = W.length - i ∧ f 8 = .int .i64 i ∧ J (cn (64 * i) p) H') W.length
      ⟨0, by omega, by omega, rfl, h0⟩ ?_
    rintro n g H1 ⟨i, hi, rfl, hf8, hJ⟩
    simp only [go_sem, zS, ↓reduceIte, Za, Zb, Zc, reduceCtorEq, kont_eq] at hf8
    simp only [go_sem, zS, ↓reduceIte, Za, Zb, Zc, reduceCtorEq, kont_eq, hf8]
    refine iteV_dec (fun hlt => ?_) (fun hge => ?_)
    · have hlt : i < W.length := by omega
      obtain ⟨_, _, V1⟩ := hG _ _ hJ
      obtain ⟨bb, o, c, rfl, -, hc⟩ := V1.sl.cells (by intro e; have h := congrArg List.length e; rw [w64_len, List.length_nil] at h; omega)
      rw [w64_len] at hc
      have hci := hc i hlt
      rw [w64_get _ _ hlt] at hci
      simp only [go_sem, zS, ↓reduceIte, Za, Zb, Zc, reduceCtorEq, kont_eq, hf8, w64_len, tn_cast, Nat.mul_one, hci]
      refine ⟨by omega, ?_⟩
      refine vc_loop [4, 14, 26] rfl (fun n f H' => ∃ (t : Nat) (y : UInt64), t ≤ 64 ∧ n = 64 - t ∧ f 4 = .int .u64 y.toNat ∧ (∀ q < 64, bt y q = (bt (W.getD i 0) q && decide (t ≤ q))) ∧ J (cn (64 * i + t) p) H') 64
        ⟨0, W.getD i 0, by omega, by omega, by simp only [go_sem, zS, ↓reduceIte, Za, Zb, Zc, reduceCtorEq, kont_eq], fun q _ => by simp, hJ⟩ ?_
      rintro n g2 H2 ⟨t, y, ht64, rfl, hf4, hy, hJ2⟩
      simp only [go_sem, zS, ↓reduceIte, Za, Zb, Zc, reduceCtorEq, kont_eq] at hf4
      have hf3 : ∀ a, over (upd (upd a 3 (Value.int .i64 (i : Int))) 4 (.int .u64 ((W.getD i 0).toNat : Int))) g2 [4, 14, 26] 3 = .int .i64 (i : Int) := fun a => by simp only [go_sem, zS, ↓reduceIte, Za, Zb, Zc, reduceCtorEq, kont_eq]
      simp only [go_sem, zS, ↓reduceIte, Za, Zb, Zc, reduceCtorEq, kont_eq, hf4]
      obtain ⟨T2, _, V2⟩ := hG _ _ hJ2
      have hbit : ∀ q < 64, p (64 * i + q) = bt (W.getD i 0) q := fun q hq => by rw [← V2.is, memb_at _ _ _ hq]
      by_cases h0 : y = 0
      · subst h0
        have e0 : (((0 : UInt64).toNat : Int) != 0) = false := rfl
        simp only [go_sem, zS, ↓reduceIte, Za, Zb, Zc, reduceCtorEq, kont_eq, e0]
        have hnone : ∀ q, t ≤ q → q < 64 → p (64 * i + q) = false := fun q h1 h2 => by
          rw [hbit q h2]
          have := hy q h2
          rw [bt_zero] at this
          simpa [h1] using this.symm
        have hcn : cn (64 * (i + 1)) p = cn (64 * i + t) p := cn_range (by omega) fun q h1 h2 => by
          have := hnone (q - 64 * i) (by omega) (by omega)
          rwa [show 64 * i + (q - 64 * i) = q by omega] at this
        simp (disch := omega) only [go_sem, zS, ↓reduceIte, Za, Zb, Zc, reduceCtorEq, kont_eq, hf8, IntWalk.i64_in]
        exact ⟨W.length - (i + 1), by omega, i + 1, by omega, rfl, by simp, by rw [hcn]; exact hJ2⟩
      · have e0 : ((y.toNat : Int) != 0) = true := by
          simp only [bne_iff_ne, ne_eq]
          intro e
          exact h0 (UInt64.toNat_inj.1 (by simpa using e))
        obtain ⟨l1, l2, l3⟩ := lowB_spec h0
        have hlow := hy _ l1
        rw [l2] at hlow
        simp only [Bool.and_eq_true, decide_eq_true_eq, Bool.true_eq] at hlow
        obtain ⟨g1, g2'⟩ := hlow
        have w1 : IntKind.i64.wrap (64 * (i : Int)) = ((64 * i : Nat) : Int) := by rw [show (64 * (i : Int)) = ((64 * i : Nat) : Int) by omega]; exact IntWalk.i64_in _ ⟨by omega, by omega⟩
        simp only [go_sem, zS, ↓reduceIte, Za, Zb, Zc, reduceCtorEq, kont_eq, e0, w1]
        refine (ht y H2 T2 h0).mono ?_
        rintro r H3 ⟨rfl, rfl⟩
        have w2 : IntKind.i64.wrap (((64 * i : Nat) : Int) + ((lowB y : Nat) : Int)) = ((64 * i + lowB y : Nat) : Int) := by rw [show (((64 * i : Nat) : Int) + ((lowB y : Nat) : Int)) = ((64 * i + lowB y : Nat) : Int) by omega]; exact IntWalk.i64_in _ ⟨by omega, by omega⟩
        have hp : p (64 * i + lowB y) = true := by rw [hbit _ l1]; exact g1
        have hcn : cn (64 * i + lowB y) p = cn (64 * i + t) p := cn_range (by omega) fun q h1 h2 => by
          have e := hy (q - 64 * i) (by omega)
          rw [l3 (q - 64 * i) (by omega)] at e
          have e2 := hbit (q - 64 * i) (by omega)
          rw [show 64 * i + (q - 64 * i) = q by omega] at e2
          rw [e2]
          have : t ≤ q - 64 * i := by omega
          simpa [this] using e.symm
        rw [kont_eq]
        simp only [go_sem, zS, ↓reduceIte, Za, Zb, Zc, reduceCtorEq, kont_eq, w2]
        refine ⟨l, rfl, ?_⟩
        have hy1 := hY (cn (64 * i + t) p) H3 (by rw [hall, ← hcn]; exact cn_lt (by omega) hp) hJ2
        rw [← hcn, memL_get (by omega) hp] at hy1
        refine hy1.mono ?_
        rintro r H4 (⟨rfl, hJ4⟩ | ⟨rfl, hK⟩)
        · have hcl := bits_and' y y
          simp only [go_sem, zS, ↓reduceIte, Za, Zb, Zc, reduceCtorEq, kont_eq, hf4, hcl]
          refine ⟨64 - (lowB y + 1), by omega, lowB y + 1, clrB y, by omega, rfl, rfl, fun q hq => ?_, ?_⟩
          · rw [bt_clr h0, hy q hq]
            by_cases e : q = lowB y
            · subst e; simp
            · by_cases e1 : t ≤ q
              · by_cases e2 : lowB y + 1 ≤ q
                · simp [e1, e2, e]
                · have e3 := l3 q (by omega)
                  rw [hy q hq] at e3
                  have : bt (W.getD i 0) q = false := by simpa [e1] using e3
                  rw [this]; simp [e2]
              · have : ¬ lowB y + 1 ≤ q := by omega
                simp [e1, this]
          · rw [show 64 * i + (lowB y + 1) = 64 * i + lowB y + 1 by omega, cn_succ, if_pos hp]; exact hJ4
        · simp only [go_sem, zS, ↓reduceIte, Za, Zb, Zc, reduceCtorEq, kont_eq]
          exact .inr hK
    · have : i = W.length := by omega
      subst this
      exact .inl (by rw [hall]; exact hJ)
  refine (main w hw).mono ?_
  rintro e w' ⟨r, rfl, hR, hs⟩
  exact ⟨r, rfl, hs, hR⟩
end Go.Mg

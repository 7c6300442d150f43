/- Several texts of ours in one. No conditions. -/
import Derived.Test.YtgbbplbmbapejaaGreatDoorMgB2
import Derived.Test.YtgbbplbmbapejaaGreatDoorMgRf4
open Nat renaming reduceEqDiff → Za, reduceAdd → Zb, reduceMul → Zc
namespace Go.Mg
open Go Go.RowKit
set_option linter.all false
set_option maxRecDepth 100000
def c_ball (ι : Ids) : S :=
 .seq (.reg [.e (.v 1) (.box (ι.t 128) (.v 0)), .p (.v 2) (.mv (.c .nilFunc))]) (.seq (.reg [.p (.t 3) (.m (.mkf (ι.f 136) [] [.v 1])), .p (.v 2) (.mv (.t 3))]) .ret)
def r_ball : List RV := [.t 2]
def c_ball1 (ι : Ids) : S :=
 .seq (.reg [.p (.t 5) (.fa 0 (.v 1)), .p (.v 6) (.ld (.t 5)), .p (.v 7) (.m (.lenl (.v 6))), .p (.v 8) (.mv (.c (.int .i64 0)))]) (.blk 0 (.loop (.seq (.reg [.p (.v 9) (.cm .lss .i64 (.v 8) (.v 7))])
 (.seq (.ite (.v 9) .skip (.exit 0)) (.seq (.blk 1 (.seq (.reg [.p (.t 10) (.mv (.v 8)), .p (.t 11) (.is 1 (.v 6) (.v 8)), .p (.t 12) (.ld (.t 11)), .p (.v 3) (.mv (.t 10)), .p (.v 4) (.mv (.t 12))])
 (.blk 2 (.loop (.seq (.seq (.reg [.p (.t 13) (.mv (.v 4)), .p (.v 14) (.cm .neq .u64 (.t 13) (.c (.int .u64 0)))]) (.ite (.v 14) .skip (.exit 2))) (.seq (.blk 3 (.seq (.reg [.p (.t 19) (.mv (.v 0)),
 .p (.t 20) (.mv (.v 3)), .p (.t 21) (.ar .mul .i64 (.c (.int .i64 64)) (.t 20)), .p (.t 22) (.mv (.v 4)), .e (.t 23) (.call (ι.f 126) [.t 22]), .p (.t 24) (.ar .add .i64 (.t 21) (.t 23)), .e (.t 25)
 (.cally (.t 19) [.t 24]), .p (.v 26) (.not (.t 25))]) (.ite (.v 26) .ret .skip))) (.reg [.p (.t 15) (.mv (.v 4)), .p (.t 16) (.mv (.v 4)), .p (.t 17) (.ar .sub .u64 (.t 16) (.c (.int .u64 1))), .p (.t
 18) (.bt .and .u64 (.t 15) (.t 17)), .p (.v 4) (.mv (.t 18))]))))))) (.reg [.p (.t 27) (.ar .add .i64 (.v 8) (.c (.int .i64 1))), .p (.v 8) (.mv (.t 27))]))))))
def r_ball1 : List RV := []
def allV (k b : Nat) : Value := .func (.func k) #[] #[.pointer (some ⟨b, 0, none⟩)]
def BAllSpec (P : Program) (k k1 : FuncId) : Prop := ∀ (v : Value) (H : Hp), CallsM P k #[.agg #[v]] H fun r H' => r = allV k1 H.size /\ Bl H' H.size [v] /\ Keep (fun _ => False) H H' /\ H'.size = H.size + 1
theorem ball_ok {P : Program} {ι : Ids} {k : FuncId} (hk : FnIs P k (c_ball ι) r_ball 1) : BAllSpec P k (ι.f 136) := by
 intro v H
 refine calls_of_vc hk (args := [_]) (by simp) ?_
 unfold c_ball r_ball
 simp only [go_sem, zS, ↓reduceIte, Za, Zb, Zc, reduceCtorEq, cells_agg]
 refine kont_new fun H1 b1 e1 z1 B1 K1 => ?_
 subst e1
 simp only [go_sem, zS, ↓reduceIte, Za, Zb, Zc, reduceCtorEq, kont_eq]
 exact ⟨rfl, B1, K1, z1⟩
def memL (p : Nat -> Bool) : List Value := (mems p).map fun n : Nat => Value.int .i64 (n : Int)
theorem memL_len (p : Nat -> Bool) : (memL p).length = cn 4096 p := by simp [memL, mems_length]
theorem memL_get {p : Nat -> Bool} {n : Nat} (h : n < 4096) (hp : p n = true) : (memL p).getD (cn n p) undef = .int .i64 (n : Int) := by
 have := filter_get p 4096 n h hp
 unfold memL mems
 rw [List.getD_eq_getElem?_getD, List.getElem?_map, this]; rfl
theorem cn_lt {p : Nat -> Bool} {n N : Nat} (h : n < N) (hp : p n = true) : cn n p < cn N p := by
 have h1 : cn (n + 1) p = cn n p + 1 := by rw [cn_succ, if_pos hp]
 have h2 : cn (n + 1) p <= cn N p := by
  obtain ⟨d, rfl⟩ : ∃ d, N = n + 1 + d := ⟨N - (n + 1), by omega⟩
  rw [cn_add_n (n + 1) d]; omega
 omega
theorem bits_and' (x y : UInt64) : bits .and .u64 (x.toNat : Int) (IntKind.u64.wrap ((y.toNat : Int) - 1)) = ((x &&& (y - 1)).toNat : Int) := by
 have : IntKind.u64.wrap ((y.toNat : Int) - 1) = ((y - 1).toNat : Int) := by
  have := y.toNat_lt
  rw [IntKind.wrap_u64, UInt64.toNat_sub]
  have e : (1 : UInt64).toNat = 1 := rfl
  rw [e]; omega
 rw [this]; exact bits_and _ _
theorem ball1_ok {P : Program} {ι : Ids} {k : FuncId} (hk : FnIsY P k (c_ball1 ι) r_ball1 2) (ht : TzSpec P ι (ι.f 126)) {v : Value} {W : List UInt64} {p : Nat -> Bool} {b : Nat} :
  IterC P k #[.pointer (some ⟨b, 0, none⟩)] (memL p) (fun H => TabOk ι H /\ Bl H b [v] /\ SetV H v W p) := by
 intro l J K hY hG H h0 w hw
 have main : CallsM P k #[.func (.yield l) #[] #[], .pointer (some ⟨b, 0, none⟩)] H fun r H' => J (memL p).length H' \/ K H' := by
  refine calls_of_vcY hk (args := [_, _]) (by simp) ?_
  unfold c_ball1 r_ball1
  obtain ⟨_, B0, V0⟩ := hG 0 H h0
  have hlen := V0.len
  simp only [go_sem, zS, ↓reduceIte, Za, Zb, Zc, reduceCtorEq, kont_eq, B0.cell, V0.sl.isSl, V0.sl.len, w64_len]
  have hall : (memL p).length = cn (64 * W.length) p := by rw [memL_len, V0.count, mems_length]
  refine vc_loop [9, 3, 4, 14, 26, 8] rfl (fun n f H' => ∃ i, i <= W.length /\ n = W.length - i /\ f 8 = .int .i64 i /\ J (cn (64 * i) p) H') W.length
   ⟨0, by omega, by omega, rfl, h0⟩ ?_
  rintro n g H1 ⟨i, hi, rfl, hf8, hJ⟩
  simp only [go_sem, zS, ↓reduceIte, Za, Zb, Zc, reduceCtorEq, kont_eq] at hf8
  simp only [go_sem, zS, ↓reduceIte, Za, Zb, Zc, reduceCtorEq, kont_eq, hf8]
  refine iteV_dec (fun hlt => ?_) (fun hge => ?_)
  ·have hlt : i < W.length := by omega
   obtain ⟨_, _, V1⟩ := hG _ _ hJ
   obtain ⟨bb, o, c, rfl, -, hc⟩ := V1.sl.cells (by intro e; have h := congrArg List.length e; rw [w64_len, List.length_nil] at h; omega)
   rw [w64_len] at hc
   have hci := hc i hlt
   rw [w64_get _ _ hlt] at hci
   simp only [go_sem, zS, ↓reduceIte, Za, Zb, Zc, reduceCtorEq, kont_eq, hf8, w64_len, tn_cast, Nat.mul_one, hci]
   refine ⟨by omega, ?_⟩
   refine vc_loop [4, 14, 26] rfl (fun n f H' => ∃ (t : Nat) (y : UInt64), t <= 64 /\ n = 64 - t /\ f 4 = .int .u64 y.toNat /\ (∀ q < 64, bt y q = (bt (W.getD i 0) q && decide (t <= q))) /\ J (cn (64 * i + t) p) H') 64
    ⟨0, W.getD i 0, by omega, by omega, by simp only [go_sem, zS, ↓reduceIte, Za, Zb, Zc, reduceCtorEq, kont_eq], fun q _ => by simp, hJ⟩ ?_
   rintro n g2 H2 ⟨t, y, ht64, rfl, hf4, hy, hJ2⟩
   simp only [go_sem, zS, ↓reduceIte, Za, Zb, Zc, reduceCtorEq, kont_eq] at hf4
   have hf3 : ∀ a, over (upd (upd a 3 (Value.int .i64 (i : Int))) 4 (.int .u64 ((W.getD i 0).toNat : Int))) g2 [4, 14, 26] 3 = .int .i64 (i : Int) := fun a => by simp only [go_sem, zS, ↓reduceIte, Za, Zb, Zc, reduceCtorEq, kont_eq]
   simp only [go_sem, zS, ↓reduceIte, Za, Zb, Zc, reduceCtorEq, kont_eq, hf4]
   obtain ⟨T2, _, V2⟩ := hG _ _ hJ2
   have hbit : ∀ q < 64, p (64 * i + q) = bt (W.getD i 0) q := fun q hq => by rw [<- V2.is, memb_at _ _ _ hq]
   by_cases h0 : y = 0
   ·subst h0
    have e0 : (((0 : UInt64).toNat : Int) != 0) = false := rfl
    simp only [go_sem, zS, ↓reduceIte, Za, Zb, Zc, reduceCtorEq, kont_eq, e0]
    have hnone : ∀ q, t <= q -> q < 64 -> p (64 * i + q) = false := fun q h1 h2 => by
     rw [hbit q h2]
     have := hy q h2
     rw [bt_zero] at this
     simpa [h1] using this.symm
    have hcn : cn (64 * (i + 1)) p = cn (64 * i + t) p := cn_range (by omega) fun q h1 h2 => by
     have := hnone (q - 64 * i) (by omega) (by omega)
     rwa [show 64 * i + (q - 64 * i) = q by omega] at this
    simp (disch := omega) only [go_sem, zS, ↓reduceIte, Za, Zb, Zc, reduceCtorEq, kont_eq, hf8, IntWalk.i64_in]
    exact ⟨W.length - (i + 1), by omega, i + 1, by omega, rfl, by simp, by rw [hcn]; exact hJ2⟩
   ·have e0 : ((y.toNat : Int) != 0) = true := by
     simp only [bne_iff_ne, ne_eq]
     intro e
     exact h0 (UInt64.toNat_inj.1 (by simpa using e))
    obtain ⟨l1, l2, l3⟩ := lowB_spec h0
    have hlow := hy _ l1
    rw [l2] at hlow
    simp only [Bool.and_eq_true, decide_eq_true_eq, Bool.true_eq] at hlow
    obtain ⟨g1, g2'⟩ := hlow
    have w1 : IntKind.i64.wrap (64 * (i : Int)) = ((64 * i : Nat) : Int) := by rw [show (64 * (i : Int)) = ((64 * i : Nat) : Int) by omega]; exact IntWalk.i64_in _ ⟨by omega, by omega⟩
    simp only [go_sem, zS, ↓reduceIte, Za, Zb, Zc, reduceCtorEq, kont_eq, e0, w1]
    refine (ht y H2 T2 h0).mono ?_
    rintro r H3 ⟨rfl, rfl⟩
    have w2 : IntKind.i64.wrap (((64 * i : Nat) : Int) + ((lowB y : Nat) : Int)) = ((64 * i + lowB y : Nat) : Int) := by rw [show (((64 * i : Nat) : Int) + ((lowB y : Nat) : Int)) = ((64 * i + lowB y : Nat) : Int) by omega]; exact IntWalk.i64_in _ ⟨by omega, by omega⟩
    have hp : p (64 * i + lowB y) = true := by rw [hbit _ l1]; exact g1
    have hcn : cn (64 * i + lowB y) p = cn (64 * i + t) p := cn_range (by omega) fun q h1 h2 => by
     have e := hy (q - 64 * i) (by omega)
     rw [l3 (q - 64 * i) (by omega)] at e
     have e2 := hbit (q - 64 * i) (by omega)
     rw [show 64 * i + (q - 64 * i) = q by omega] at e2
     rw [e2]
     have : t <= q - 64 * i := by omega
     simpa [this] using e.symm
    rw [kont_eq]
    simp only [go_sem, zS, ↓reduceIte, Za, Zb, Zc, reduceCtorEq, kont_eq, w2]
    refine ⟨l, rfl, ?_⟩
    have hy1 := hY (cn (64 * i + t) p) H3 (by rw [hall, <- hcn]; exact cn_lt (by omega) hp) hJ2
    rw [<- hcn, memL_get (by omega) hp] at hy1
    refine hy1.mono ?_
    rintro r H4 (⟨rfl, hJ4⟩ | ⟨rfl, hK⟩)
    ·have hcl := bits_and' y y
     simp only [go_sem, zS, ↓reduceIte, Za, Zb, Zc, reduceCtorEq, kont_eq, hf4, hcl]
     refine ⟨64 - (lowB y + 1), by omega, lowB y + 1, clrB y, by omega, rfl, rfl, fun q hq => ?_, ?_⟩
     ·rw [bt_clr h0, hy q hq]
      by_cases e : q = lowB y
      ·subst e; simp
      ·by_cases e1 : t <= q
       ·by_cases e2 : lowB y + 1 <= q
        ·simp [e1, e2, e]
        ·have e3 := l3 q (by omega)
         rw [hy q hq] at e3
         have : bt (W.getD i 0) q = false := by simpa [e1] using e3
         rw [this]; simp [e2]
       ·have : ¬ lowB y + 1 <= q := by omega
        simp [e1, this]
     ·rw [show 64 * i + (lowB y + 1) = 64 * i + lowB y + 1 by omega, cn_succ, if_pos hp]; exact hJ4
    ·simp only [go_sem, zS, ↓reduceIte, Za, Zb, Zc, reduceCtorEq, kont_eq]
     exact .inr hK
  ·have : i = W.length := by omega
   subst this
   exact .inl (by rw [hall]; exact hJ)
 refine (main w hw).mono ?_
 rintro e w' ⟨r, rfl, hR, hs⟩
 exact ⟨r, rfl, hs, hR⟩
end Go.Mg
namespace Go.Mg
open Go Go.RowKit
set_option linter.all false
set_option maxRecDepth 100000
def c_bwithin (ι : Ids) : S :=
 .seq (.reg [.e (.v 2) (.box (ι.t 128) (.v 0)), .e (.v 3) (.box (ι.t 128) (.v 1)), .p (.v 4) (.mv (.c (.bool false)))]) (.seq (.seq (.reg [.p (.t 7) (.fa 0 (.v 2)), .p (.v 8) (.ld (.t 7)), .p (.v 9)
 (.m (.lenl (.v 8))), .p (.v 10) (.mv (.c (.int .i64 0)))]) (.blk 0 (.loop (.seq (.reg [.p (.v 11) (.cm .lss .i64 (.v 10) (.v 9))]) (.seq (.ite (.v 11) .skip (.exit 0)) (.seq (.blk 1 (.seq (.reg [.p
 (.t 12) (.mv (.v 10)), .p (.t 13) (.is 1 (.v 8) (.v 10)), .p (.t 14) (.ld (.t 13)), .p (.v 5) (.mv (.t 12)), .p (.v 6) (.mv (.t 14))]) (.seq (.reg [.p (.t 15) (.mv (.v 6)), .p (.t 16) (.m (.ldn 1 (.v
 3))), .p (.t 17) (.mv (.v 5)), .e (.t 18) (.call (ι.f 129) [.t 16, .t 17]), .p (.t 19) (.bt .andNot .u64 (.t 15) (.t 18)), .p (.v 20) (.cm .neq .u64 (.t 19) (.c (.int .u64 0)))]) (.ite (.v 20) (.seq
 (.reg [.p (.v 4) (.mv (.c (.bool false)))]) .ret) .skip)))) (.reg [.p (.t 21) (.ar .add .i64 (.v 10) (.c (.int .i64 1))), .p (.v 10) (.mv (.t 21))]))))))) (.seq (.reg [.p (.v 4) (.mv (.c (.bool
 true)))]) .ret))
def r_bwithin : List RV := [.t 4]
def c_btrim (ι : Ids) : S :=
 .seq (.reg [.e (.v 2) (.new (ι.t 128) #[.slice .none 0 0])]) (.seq (.blk 0 (.loop (.seq (.seq (.reg [.p (.t 3) (.mv (.v 0)), .p (.t 4) (.m (.lenl (.t 3))), .p (.t 5) (.cm .gtr .i64 (.t 4) (.c (.int
 .i64 0))), .p (.t 6) (.mv (.t 5)), .gp (.t 7) (.t 6) true (.mv (.v 0)), .gp (.t 8) (.t 6) true (.mv (.v 0)), .gp (.t 9) (.t 6) true (.m (.lenl (.t 8))), .gp (.t 10) (.t 6) true (.ar .sub .i64 (.t 9)
 (.c (.int .i64 1))), .gp (.t 11) (.t 6) true (.is 1 (.t 7) (.t 10)), .gp (.t 12) (.t 6) true (.ld (.t 11)), .gp (.t 13) (.t 6) true (.cm .eql .u64 (.t 12) (.c (.int .u64 0))), .p (.v 14) (.pick (.t 6)
 (.t 13) (.c (.bool false)))]) (.ite (.v 14) .skip (.exit 0))) (.blk 1 (.reg [.p (.t 15) (.mv (.v 0)), .p (.t 16) (.mv (.v 0)), .p (.t 17) (.m (.lenl (.t 16))), .p (.t 18) (.ar .sub .i64 (.t 17) (.c
 (.int .i64 1))), .p (.t 19) (.m (.sls 1 (.t 15) .none (.some (.t 18)))), .p (.v 0) (.mv (.t 19))]))))) (.seq (.reg [.p (.t 20) (.mv (.v 0)), .p (.t 21) (.m (.bld #[.slice .none 0 0] [(0, (1, .t
 20))])), .e .no (.stn 1 (.v 2) (.t 21))]) .ret))
def r_btrim : List RV := [.cn 2 1]
def c_bof (ι : Ids) : S :=
 .seq (.reg [.e (.v 2) (.new (ι.t 128) #[.slice .none 0 0])]) (.seq (.reg [.p (.v 3) (.mv (.c (.int .i64 (-1))))]) (.seq (.seq (.reg [.p (.v 9) (.mv (.v 0)), .p (.v 10) (.m (.lenl (.v 9))), .p (.v 11)
 (.mv (.c (.int .i64 0)))]) (.blk 0 (.loop (.seq (.reg [.p (.v 12) (.cm .lss .i64 (.v 11) (.v 10))]) (.seq (.ite (.v 12) .skip (.exit 0)) (.seq (.blk 1 (.seq (.reg [.p (.t 13) (.is 1 (.v 9) (.v 11)),
 .p (.t 14) (.ld (.t 13)), .p (.v 5) (.mv (.t 14))]) (.seq (.reg [.p (.t 15) (.mv (.v 5)), .p (.v 16) (.cm .leq .i64 (.t 15) (.c (.int .i64 4095)))]) (.ite (.v 16) (.reg [.p (.t 17) (.mv (.v 3)), .p
 (.t 18) (.mv (.v 5)), .p (.t 19) (.m (.mx (.t 17) (.t 18))), .p (.v 3) (.mv (.t 19))]) .skip)))) (.reg [.p (.t 20) (.ar .add .i64 (.v 11) (.c (.int .i64 1))), .p (.v 11) (.mv (.t 20))]))))))) (.seq
 (.seq (.reg [.p (.t 21) (.mv (.v 3)), .p (.v 22) (.cm .lss .i64 (.t 21) (.c (.int .i64 0)))]) (.ite (.v 22) (.seq (.reg [.p (.t 23) (.m (.bld #[.slice .none 0 0] [])), .e .no (.stn 1 (.v 2) (.t 23))])
 .ret) .skip)) (.seq (.reg [.p (.t 24) (.mv (.v 3)), .p (.t 25) (.dv .quo .i64 (.t 24) (.c (.int .i64 64))), .p (.t 26) (.ar .add .i64 (.t 25) (.c (.int .i64 1))), .e (.t 27) (.mkS (ι.t 28) 1 8 #[.int
 .u64 0] (.t 26) (.t 26)), .p (.v 6) (.mv (.t 27))]) (.seq (.seq (.reg [.p (.v 28) (.mv (.v 0)), .p (.v 29) (.m (.lenl (.v 28))), .p (.v 30) (.mv (.c (.int .i64 0)))]) (.blk 2 (.loop (.seq (.reg [.p
 (.v 31) (.cm .lss .i64 (.v 30) (.v 29))]) (.seq (.ite (.v 31) .skip (.exit 2)) (.seq (.blk 3 (.seq (.reg [.p (.t 32) (.is 1 (.v 28) (.v 30)), .p (.t 33) (.ld (.t 32)), .p (.v 8) (.mv (.t 33))]) (.seq
 (.reg [.p (.t 34) (.mv (.v 8)), .p (.t 35) (.cm .geq .i64 (.t 34) (.c (.int .i64 0))), .p (.t 36) (.mv (.t 35)), .gp (.t 37) (.t 36) true (.mv (.v 8)), .gp (.t 38) (.t 36) true (.mv (.v 3)), .gp (.t
 39) (.t 36) true (.cm .leq .i64 (.t 37) (.t 38)), .p (.v 40) (.pick (.t 36) (.t 39) (.c (.bool false)))]) (.ite (.v 40) (.reg [.p (.t 41) (.mv (.v 6)), .p (.t 42) (.mv (.v 8)), .p (.t 43) (.dv .quo
 .i64 (.t 42) (.c (.int .i64 64))), .p (.t 44) (.is 1 (.t 41) (.t 43)), .p (.t 45) (.ld (.t 44)), .p (.t 46) (.mv (.v 8)), .p (.t 47) (.dv .rem .i64 (.t 46) (.c (.int .i64 64))), .p (.t 48) (.sh .shl
 .u64 (.c (.int .u64 1)) (.t 47)), .p (.t 49) (.bt .or .u64 (.t 45) (.t 48)), .p (.t 50) (.is 1 (.t 41) (.t 43)), .e .no (.st (.t 50) (.t 49))]) .skip)))) (.reg [.p (.t 51) (.ar .add .i64 (.v 30) (.c
 (.int .i64 1))), .p (.v 30) (.mv (.t 51))]))))))) (.seq (.reg [.p (.t 52) (.mv (.v 6)), .e (.t 53) (.call (ι.f 142) [.t 52]), .e .no (.stn 1 (.v 2) (.t 53))]) .ret))))))
def r_bof : List RV := [.cn 2 1]
theorem SetV.cells {H : Hp} {v : Value} {W : List UInt64} {p : Nat -> Bool} (h : SetV H v W p) {i : Nat} (hi : i < W.length) : ∃ b o c, v = .slice (some ⟨b, o, none⟩) W.length c /\ ∀ j, j < W.length -> cell H ⟨b, o + j, none⟩ = some (.int .u64 ((W.getD j 0).toNat : Int)) := by
 obtain ⟨b, o, c, h1, -, hc⟩ := h.sl.cells (by intro e; have h := congrArg List.length e; rw [w64_len, List.length_nil] at h; omega)
 rw [w64_len] at h1 hc
 exact ⟨b, o, c, h1, fun j hj => by rw [hc j hj, w64_get _ _ hj]⟩
theorem u64_bne (a b : UInt64) : ((a.toNat : Int) != (b.toNat : Int)) = !decide (a = b) := by
 by_cases h : a = b
 ·subst h; simp
 ·have : (a.toNat : Int) ≠ (b.toNat : Int) := fun e => h (UInt64.toNat_inj.1 (by exact_mod_cast e))
  rw [decide_eq_false h, bne_iff_ne.2 this]; rfl
theorem bits_andNot (x y : UInt64) : bits .andNot .u64 (x.toNat : Int) (y.toNat : Int) = ((x &&& ~~~y).toNat : Int) := by
 show IntKind.u64.wrap ((BitVec.ofInt 64 (x.toNat : Int) &&& ~~~ BitVec.ofInt 64 (y.toNat : Int)).toNat : Int) = _
 rw [bitsOf, bitsOf]; exact wrapNat (x &&& ~~~ y)
theorem bt_andNot (x y : UInt64) (k : Nat) (hk : k < 64) : bt (x &&& ~~~y) k = (bt x k && !bt y k) := by
 unfold bt
 rw [UInt64.toNat_and, Nat.testBit_and, UInt64.toNat_not]
 congr 1
 have : UInt64.size - 1 - y.toNat = 2 ^ 64 - (y.toNat + 1) := by
  have : UInt64.size = 2 ^ 64 := rfl
  rw [this]; omega
 rw [this, Nat.testBit_two_pow_sub_succ y.toNat_lt]
 simp [hk]
def BWithinSpec (P : Program) (k : FuncId) : Prop := ∀ (p q : Nat -> Bool) (x y : Value) (H : Hp), SetM H x p -> SetM H y q -> CallsM P k #[x, y] H fun r H' => (∃ b : Bool, r = .bool b /\ (b = true ↔ ∀ n, p n = true -> q n = true)) /\ Keep (fun _ => False) H H'
theorem bwithin_ok {P : Program} {ι : Ids} {k : FuncId} (hk : FnIs P k (c_bwithin ι) r_bwithin 2) (hw : WordSpec P (ι.f 129)) : BWithinSpec P k := by
 intro p q x y H hx hy
 obtain ⟨v, A, rfl, hv⟩ := hx
 obtain ⟨u, B, rfl, hu⟩ := hy
 refine calls_of_vc hk (args := [_, _]) (by simp) ?_
 unfold c_bwithin r_bwithin
 simp only [go_sem, zS, ↓reduceIte, Za, Zb, Zc, reduceCtorEq, cells_agg]
 refine kont_new fun H1 b1 e1 z1 B1 K1 => ?_
 simp only [go_sem, zS, ↓reduceIte, Za, Zb, Zc, reduceCtorEq, cells_agg]
 refine kont_new fun H2 b2 e2 z2 B2 K2 => ?_
 have K12 := K1.trans K2
 have B12 := K2.bl B1 (by simp)
 have hv2 := hv.keep K12 (by simp)
 have hu2 := hu.keep K12 (by simp)
 have lA := hv.len
 have lB := hu.len
 simp only [go_sem, zS, ↓reduceIte, Za, Zb, Zc, reduceCtorEq, kont_eq, B12.cell, B2.cell, hv2.sl.isSl, hv2.sl.len, w64_len]
 refine vc_loop [11, 5, 6, 20, 4, 10] rfl (fun n f H' => ∃ i, i <= A.length /\ n = A.length - i /\ f 10 = .int .i64 i /\ (∀ m, m < 64 * i -> p m = true -> q m = true) /\ Keep (fun _ => False) H2 H') A.length
  ⟨0, by omega, by omega, rfl, fun j hj => by omega, Keep.refl _ _⟩ ?_
 rintro n g H3 ⟨i, hi, rfl, hf, hx, K3⟩
 simp only [go_sem, zS, ↓reduceIte, Za, Zb, Zc, reduceCtorEq, kont_eq] at hf
 simp only [go_sem, zS, ↓reduceIte, Za, Zb, Zc, reduceCtorEq, kont_eq, hf]
 refine iteV_dec (fun hlt => ?_) (fun hge => ?_)
 ·have hlt : i < A.length := by omega
  have hv3 := hv2.keep K3 (by simp)
  have hu3 := hu2.keep K3 (by simp)
  have B23 := K3.bl B2 (by simp)
  obtain ⟨b, o, c, rfl, hc⟩ := hv3.cells hlt
  simp only [go_sem, zS, ↓reduceIte, Za, Zb, Zc, reduceCtorEq, kont_eq, B23.ldNO 1 rfl, cells_agg, tn_cast, Nat.mul_one, hc i hlt]
  refine ⟨by omega, ?_⟩
  refine (hw B u i H3 hu3.sl hu3.len (by omega)).mono ?_
  rintro r H4 ⟨rfl, K4⟩
  have K34 := K3.trans K4
  have hne := u64_bne (A.getD i 0 &&& ~~~ B.getD i 0) 0
  have z0 : (((0 : UInt64).toNat : Nat) : Int) = 0 := rfl
  rw [z0] at hne
  simp only [go_sem, zS, ↓reduceIte, Za, Zb, Zc, reduceCtorEq, kont_eq, bits_andNot, hne]
  have hb : ∀ b, b < 64 -> bt (A.getD i 0 &&& ~~~ B.getD i 0) b = (p (64 * i + b) && !q (64 * i + b)) := fun b hb => by
   rw [bt_andNot _ _ _ hb, <- hv.is, <- hu.is, memb_at _ _ _ hb, memb_at _ _ _ hb]
  by_cases e : A.getD i 0 &&& ~~~ B.getD i 0 = 0
  ·rw [decide_eq_true e]
   simp (disch := omega) only [go_sem, zS, ↓reduceIte, Za, Zb, Zc, reduceCtorEq, kont_eq, hf, IntWalk.i64_in]
   refine ⟨A.length - (i + 1), by omega, i + 1, by omega, rfl, by simp, fun m hm hp => ?_, K34⟩
   by_cases e2 : m < 64 * i
   ·exact hx m e2 hp
   ·have := hb (m - 64 * i) (by omega)
    rw [e, bt_zero, show 64 * i + (m - 64 * i) = m by omega, hp] at this
    cases hq : q m with
    | true => rfl
    | false => rw [hq] at this; simp at this
  ·rw [decide_eq_false e]
   obtain ⟨l1, l2, _⟩ := lowB_spec e
   rw [hb _ l1] at l2
   simp only [Bool.and_eq_true, Bool.not_eq_true'] at l2
   simp only [go_sem, zS, ↓reduceIte, Za, Zb, Zc, reduceCtorEq, kont_eq]
   refine ⟨⟨false, rfl, fun h => (by cases h), fun h => ?_⟩, K12.trans K34⟩
   rw [h _ l2.1] at l2
   exact absurd l2.2 (by simp)
 ·have : i = A.length := by omega
  subst this
  exact ⟨⟨true, rfl, fun _ n hn => hx n (hv.lt hn) hn, fun _ => rfl⟩, K12.trans K3⟩
theorem take_snoc0 (W : List UInt64) (k : Nat) (hk : k < W.length) (n : Nat) (h : W.getD k 0 = 0) : memb (W.take (k + 1)) n = memb (W.take k) n := by
 unfold memb
 rw [List.getD_eq_getElem?_getD, List.getD_eq_getElem?_getD, List.getElem?_take, List.getElem?_take]
 by_cases e : n / 64 < k
 ·rw [if_pos (by omega), if_pos e]
 ·rw [if_neg e]
  by_cases e2 : n / 64 = k
  ·rw [if_pos (by omega), e2]
   rw [List.getD_eq_getElem?_getD] at h
   rw [h]; rfl
  ·rw [if_neg (by omega)]
def TrimSpec (P : Program) (k : FuncId) : Prop := ∀ (p : Nat -> Bool) (W : List UInt64) (v : Value) (H : Hp), SlR H v (w64 W) -> W.length <= 64 -> (∀ n, memb W n = p n) -> CallsM P k #[v] H fun r H' => SetM H' r p /\ Keep (fun _ => False) H H' /\ ∀ k, setB r k -> slB v k
theorem btrim_ok {P : Program} {ι : Ids} {k : FuncId} (hk : FnIs P k (c_btrim ι) r_btrim 1) : TrimSpec P k := by
 intro p W v H hv hW hp
 obtain ⟨R, hR⟩ : ∃ R : Value -> Hp -> Prop, R = fun r H' => SetM H' r p /\ Keep (fun _ => False) H H' /\ ∀ k, setB r k -> slB v k := ⟨_, rfl⟩
 rw [<- hR]
 refine calls_of_vc hk (args := [_]) (by simp) ?_
 unfold c_btrim r_btrim
 simp only [go_sem, zS, ↓reduceIte, Za, Zb, Zc, reduceCtorEq]
 refine kont_new fun H1 b1 e1 z1 B1 K1 => ?_
 have hv1 := hv.keep K1 (by simp)
 simp only [go_sem, zS, ↓reduceIte, Za, Zb, Zc, reduceCtorEq, kont_eq]
 refine vc_loop [14, 0] rfl (fun n f H' => ∃ u, n <= W.length /\ f 0 = u /\ SlR H1 u (w64 (W.take n)) /\ (∀ k, slB u k -> slB v k) /\ (∀ m, memb (W.take n) m = p m) /\ H' = H1) W.length
  ⟨v, by omega, by simp only [go_sem, zS, ↓reduceIte, Za, Zb, Zc, reduceCtorEq, kont_eq], by rw [List.take_length]; exact hv1, fun k h => h, fun m => by rw [List.take_length]; exact hp m, rfl⟩ ?_
 rintro n g H' ⟨u, hn, hf, hu, hb, hm, rfl⟩
 simp only [go_sem, zS, ↓reduceIte, Za, Zb, Zc, reduceCtorEq, kont_eq] at hf
 have hlen : (W.take n).length = n := by rw [List.length_take]; omega
 have hul := hu.len
 rw [w64_len, hlen] at hul
 have fin : Can (W.take n) -> ∀ H2, H2.size = H'.size -> Keep (fun k => k = b1) H' H2 -> R (.agg #[u]) H2 := by
  intro hcan H2 z2 K2
  rw [hR]
  exact ⟨⟨u, W.take n, rfl, hu.keep K2 (fun k h e => by
   have := hv.old (hb k h); omega), by omega, hcan, hm⟩, K1.to_old K2 (by omega), fun k h => hb k h⟩
 cases n with
 | zero =>
  have e0 : decide (((0 : Nat) : Int) > 0) = false := rfl
  obtain ⟨au, cu, rfl, hcu⟩ := hu.mk
  rw [w64_len, hlen] at hu hb fin hf
  simp only [go_sem, zS, ↓reduceIte, Za, Zb, Zc, reduceCtorEq, kont_eq, hf, e0, zF]
  exact ⟨by decide, ret1 B1 hu.one fun H2 z2 K2 => fin (fun h => absurd rfl h) H2 z2 K2⟩
 | succ m =>
  have e0 : decide (((m + 1 : Nat) : Int) > 0) = true := decide_eq_true (by omega)
  obtain ⟨b, o, c, rfl, hcle, hc⟩ := hu.cells (by intro e; have h := congrArg List.length e; rw [w64_len, List.length_nil] at h; omega)
  rw [w64_len, hlen] at hc hu hb fin hcle
  have hcm := hc m (by omega)
  rw [w64_get _ _ (by omega)] at hcm
  have hWm : (W.take (m + 1)).getD m 0 = W.getD m 0 := by
   rw [List.getD_eq_getElem?_getD, List.getD_eq_getElem?_getD, List.getElem?_take, if_pos (by omega)]
  rw [hWm] at hcm
  have w1 : IntKind.i64.wrap (((m + 1 : Nat) : Int) - 1) = (m : Int) := by rw [show ((m + 1 : Nat) : Int) - 1 = (m : Int) by omega]; exact IntWalk.i64_in _ ⟨by omega, by omega⟩
  have heq : (((W.getD m 0).toNat : Int) == 0) = decide (W.getD m 0 = 0) := by
   have := u64_bne (W.getD m 0) 0
   have z0 : (((0 : UInt64).toNat : Nat) : Int) = 0 := rfl
   rw [z0] at this
   simp only [bne] at this
   cases h1 : (((W.getD m 0).toNat : Int) == 0) <;> cases h2 : decide (W.getD m 0 = 0) <;> simp_all
  have hc0 : c ≠ 0 := by omega
  rw [w64_len, hlen] at hf
  simp only [go_sem, zS, ↓reduceIte, Za, Zb, Zc, reduceCtorEq, kont_eq, hf, e0, w1, tn_cast, Nat.mul_one, hcm, heq]
  refine ⟨by omega, ?_⟩
  by_cases hz : W.getD m 0 = 0
  ·rw [decide_eq_true hz]
   simp only [go_sem, zS, ↓reduceIte, Za, Zb, Zc, reduceCtorEq, kont_eq, w1, tn_cast, Nat.zero_mul]
   refine ⟨by omega, m, by omega, _, by omega, rfl, ?_, ?_, fun n => ?_⟩
   ·have := hu.take (n := m) (by rw [w64_len, hlen]; omega)
    rw [w64_take, List.take_take, show min m (m + 1) = m by omega] at this
    simpa [slV, loN, hiN, hc0, add_mk] using this
   ·intro k hk
    apply hb k
    refine slB_take (z := 1) (n := m) (by show m <= m + 1; omega) ?_
    simpa [slV, loN, hiN, hc0, add_mk] using hk
   ·rw [<- hm, take_snoc0 W m (by omega) n hz]
  ·rw [decide_eq_false hz]
   simp only [go_sem, zS, ↓reduceIte, Za, Zb, Zc, reduceCtorEq, kont_eq, zF]
   refine ⟨by decide, ret1 B1 ?_ fun H2 z2 K2 => ?_⟩
   ·intro y hy; simp at hy; subst hy; rfl
   ·refine fin ?_ H2 z2 K2
    intro h h0
    apply hz
    rw [List.getLast_eq_getElem] at h0
    have hl2 : (W.take (m + 1)).length - 1 = m := by omega
    simp only [hl2] at h0
    rw [<- hWm, List.getD_eq_getElem?_getD, List.getElem?_eq_getElem (by omega)]
    exact h0
theorem orAt_mem (W : List UInt64) (m : Nat) (hm : m / 64 < W.length) (n : Nat) : memb (W.set (m / 64) (orB (W.getD (m / 64) 0) (m % 64))) n = (memb W n || decide (n = m)) := by
 rw [memb_set _ _ hm]
 by_cases e : n / 64 = m / 64
 ·rw [if_pos e, bt_orB _ (by omega)]
  have e1 : memb W n = bt (W.getD (m / 64) 0) (n % 64) := by unfold memb; rw [e]
  rw [e1]
  congr 1
  by_cases h : n % 64 = m % 64
  ·have : n = m := by omega
   simp [h, this]
  ·have : n ≠ m := fun h' => h (by rw [h'])
   simp [h, this]
 ·rw [if_neg e]
  have : n ≠ m := fun h => e (by rw [h])
  simp [this]
def ofP (l : List Int) (n : Nat) : Bool := decide ((n : Int) ∈ l) && decide (n < 4096)
def BOfSpec (P : Program) (k : FuncId) : Prop := ∀ (l : List Int) (v : Value) (H : Hp), SlR H v (iL l) -> l.length <= 1000000 -> CallsM P k #[v] H fun r H' => SetM H' r (ofP l) /\ Keep (fun _ => False) H H' /\ ∀ k, setB r k -> H.size <= k
theorem mem_take_succ {l : List Int} {i : Nat} (hi : i < l.length) (x : Int) : x ∈ l.take (i + 1) ↔ x ∈ l.take i \/ x = l.getD i 0 := by
 rw [List.take_succ_eq_append_getElem hi, List.mem_append, List.mem_singleton, List.getD_eq_getElem?_getD, List.getElem?_eq_getElem hi]
 rfl
theorem bof_ok {P : Program} {ι : Ids} {k : FuncId} (hk : FnIs P k (c_bof ι) r_bof 1) (htr : TrimSpec P (ι.f 142)) : BOfSpec P k := by
 intro l v H hv hl
 obtain ⟨R, hR⟩ : ∃ R : Value -> Hp -> Prop, R = fun r H' => SetM H' r (ofP l) /\ Keep (fun _ => False) H H' /\ ∀ k, setB r k -> H.size <= k := ⟨_, rfl⟩
 rw [<- hR]
 refine calls_of_vc hk (args := [_]) (by simp) ?_
 unfold c_bof r_bof
 simp only [go_sem, zS, ↓reduceIte, Za, Zb, Zc, reduceCtorEq]
 refine kont_new fun H1 b1 e1 z1 B1 K1 => ?_
 have hv1 := hv.keep K1 (by simp)
 simp only [go_sem, zS, ↓reduceIte, Za, Zb, Zc, reduceCtorEq, kont_eq, hv1.isSl, hv1.len, iL_len]
 refine vc_loop [12, 5, 16, 3, 11] rfl (fun n f H' => ∃ (i : Nat) (t : Int), i <= l.length /\ n = l.length - i /\ f 11 = .int .i64 i /\ f 3 = .int .i64 t /\ -1 <= t /\ t <= 4095 /\ (∀ x ∈ l.take i, x <= 4095 -> x <= t) /\ H' = H1) l.length
  ⟨0, -1, by omega, by omega, by simp only [go_sem, zS, ↓reduceIte, Za, Zb, Zc, reduceCtorEq, kont_eq]; rfl, by simp only [go_sem, zS, ↓reduceIte, Za, Zb, Zc, reduceCtorEq, kont_eq], by omega, by omega, fun x h => by simp at h, rfl⟩ ?_
 rintro n g H' ⟨i, t, hi, rfl, hf11, hf3, ht0, ht1, hx, rfl⟩
 simp only [go_sem, zS, ↓reduceIte, Za, Zb, Zc, reduceCtorEq, kont_eq] at hf11 hf3
 simp only [go_sem, zS, ↓reduceIte, Za, Zb, Zc, reduceCtorEq, kont_eq, hf11]
 refine iteV_dec (fun hlt => ?_) (fun hge => ?_)
 ·have hlt : i < l.length := by omega
  obtain ⟨b, o, c, rfl, -, hc⟩ := hv1.cells (by intro e; have h := congrArg List.length e; rw [iL_len, List.length_nil] at h; omega)
  rw [iL_len] at hc
  have hci := hc i hlt
  rw [iL_get _ _ hlt] at hci
  simp only [go_sem, zS, ↓reduceIte, Za, Zb, Zc, reduceCtorEq, kont_eq, hf11, hf3, iL_len, tn_cast, Nat.mul_one, hci]
  refine ⟨by omega, ?_⟩
  generalize hxi : l.getD i 0 = x at *
  refine iteV_dec (fun h4 => ?_) (fun h4 => ?_)
  ·simp (disch := omega) only [go_sem, zS, ↓reduceIte, Za, Zb, Zc, reduceCtorEq, kont_eq, hf11, hf3, IntWalk.i64_in]
   refine ⟨l.length - (i + 1), by omega, i + 1, _, by omega, rfl, by simp, rfl, ?_, ?_, fun y hy h => ?_⟩
   ·split <;> omega
   ·split <;> omega
   ·rcases (mem_take_succ hlt y).1 hy with h1 | h1
    ·have := hx y h1 h
     split <;> omega
    ·rw [hxi] at h1
     split <;> omega
  ·simp (disch := omega) only [go_sem, zS, ↓reduceIte, Za, Zb, Zc, reduceCtorEq, kont_eq, hf11, hf3, IntWalk.i64_in]
   refine ⟨l.length - (i + 1), by omega, i + 1, _, by omega, rfl, by simp, rfl, ht0, ht1, fun y hy h => ?_⟩
   rcases (mem_take_succ hlt y).1 hy with h1 | h1
   ·exact hx y h1 h
   ·rw [hxi] at h1; omega
 ·have hil : i = l.length := by omega
  subst hil
  rw [List.take_length] at hx
  simp only [go_sem, zS, ↓reduceIte, Za, Zb, Zc, reduceCtorEq, kont_eq, hf3]
  refine iteV_dec (fun h4 => ?_) (fun h4 => ?_)
  ·simp only [go_sem, zS, ↓reduceIte, Za, Zb, Zc, reduceCtorEq, kont_eq, zF]
   refine ret1 B1 ?_ fun H2 z2 K2 => ?_
   ·intro y hy; simp at hy; subst hy; rfl
   ·rw [hR]
    refine ⟨(SetM.empty H2 _ _).congr fun n => ?_, K1.to_old K2 (by omega), fun k h => h.elim⟩
    unfold ofP
    by_cases e : (n : Int) ∈ l
    ·have := hx n e
     have : ¬ n < 4096 := by omega
     simp [this]
    ·simp [e]
  ·obtain ⟨m, rfl⟩ := Int.eq_ofNat_of_zero_le (Int.not_lt.1 h4)
   have hm : m < 4096 := by omega
   have wq : IntKind.i64.wrap (((m / 64 : Nat) : Int) + 1) = ((m / 64 + 1 : Nat) : Int) := IntWalk.i64_in _ ⟨by omega, by omega⟩
   simp only [go_sem, zS, ↓reduceIte, Za, Zb, Zc, reduceCtorEq, tdiv64 m hm, wq, tn_cast]
   generalize hM : m / 64 + 1 = M at *
   refine ⟨by decide, ⟨by omega, by omega, by unfold maxLen; omega⟩, ?_⟩
   obtain ⟨b2, e2⟩ : ∃ b2, b2 = H'.size := ⟨_, rfl⟩
   have K2 := (Keep.refl (fun _ => False) H').push (Obj.cells (rep #[Value.int .u64 0] M) (ι.t 28))
   have B2 := Bl.new' H' (rep #[Value.int .u64 0] M) (ι.t 28)
   have z2 : (H'.push (Obj.cells (rep #[Value.int .u64 0] M) (ι.t 28))).size = H'.size + 1 := by simp
   rw [<- e2] at B2 ⊢
   generalize H'.push (Obj.cells (rep #[Value.int .u64 0] M) (ι.t 28)) = H2 at K2 B2 z2 ⊢
   have s1 := K1.size
   have s2 := K2.size
   have B2 : Bl H2 b2 (w64 (List.replicate M 0)) := by
    have := B2
    rw [rep_one, w64_rep] at this; exact this
   have B12 := K2.bl B1 (by simp)
   have hv2 := hv1.keep K2 (by simp)
   simp only [go_sem, zS, ↓reduceIte, Za, Zb, Zc, reduceCtorEq, kont_eq, hv2.isSl, hv2.len, iL_len]
   refine vc_loop [31, 8, 40, 30] rfl (fun n f H' => ∃ (i : Nat) (W : List UInt64), i <= l.length /\ n = l.length - i /\ f 30 = .int .i64 i /\ W.length = M /\ Bl H' b2 (w64 W) /\ (∀ n : Nat, memb W n = (decide ((n : Int) ∈ l.take i) && decide (n <= m))) /\ Keep (fun k => k = b2) H2 H') l.length
    ⟨0, List.replicate M 0, by omega, by omega, by simp only [go_sem, zS, ↓reduceIte, Za, Zb, Zc, reduceCtorEq, kont_eq]; rfl, by simp, B2, fun n => by have := memb_pad [] M n; rw [List.nil_append] at this; rw [this, memb_ge (by simp)]; simp, Keep.refl _ _⟩ ?_
   rintro n g2 H3 ⟨i, W, hi, rfl, hf, hW, B3, hmb, K3⟩
   simp only [go_sem, zS, ↓reduceIte, Za, Zb, Zc, reduceCtorEq, kont_eq] at hf
   simp only [go_sem, zS, ↓reduceIte, Za, Zb, Zc, reduceCtorEq, kont_eq, hf]
   refine iteV_dec (fun hlt => ?_) (fun hge => ?_)
   ·have hlt : i < l.length := by omega
    have hv3 := hv.keep ((K1.trans K2).to_old K3 (by omega)) (by simp)
    obtain ⟨b, o, c, rfl, -, hc⟩ := hv3.cells (by intro e; have h := congrArg List.length e; rw [iL_len, List.length_nil] at h; omega)
    rw [iL_len] at hc
    have hci := hc i hlt
    rw [iL_get _ _ hlt] at hci
    have hlast : ∀ H4 W', W'.length = M -> Bl H4 b2 (w64 W') -> (∀ n : Nat, memb W' n = (decide ((n : Int) ∈ l.take (i + 1)) && decide (n <= m))) -> Keep (fun k => k = b2) H3 H4 →
      ∃ n', n' < l.length - i /\ ∃ (i' : Nat) (W : List UInt64), i' <= l.length /\ n' = l.length - i' /\ (i + 1 : Nat) = i' /\ W.length = M /\ Bl H4 b2 (w64 W) /\ (∀ n : Nat, memb W n = (decide ((n : Int) ∈ l.take i') && decide (n <= m))) /\ Keep (fun k => k = b2) H2 H4 := fun H4 W' h1 h2 h3 h4 =>
     ⟨_, by omega, i + 1, W', by omega, rfl, rfl, h1, h2, h3, K3.trans h4⟩
    by_cases hin : (0 : Int) <= l.getD i 0 /\ l.getD i 0 <= (m : Int)
    ·obtain ⟨h0, h1⟩ := hin
     obtain ⟨q, hq⟩ := Int.eq_ofNat_of_zero_le h0
     have hq4 : q < 4096 := by omega
     have hqm : ((q : Nat) : Int) <= (m : Int) := by omega
     have hqn : (0 : Int) <= ((q : Nat) : Int) := by omega
     have hqM : q / 64 < M := by omega
     rw [hq] at hci
     have hc5 : cell H3 ⟨b2, q / 64, none⟩ = some (.int .u64 ((W.getD (q / 64) 0).toNat : Int)) := by rw [B3.cell, w64_get _ _ (by omega)]
     have hst := B3.okSt (o := q / 64) (by rw [w64_len]; omega)
     simp only [go_sem, zS, ↓reduceIte, Za, Zb, Zc, reduceCtorEq, kont_eq, hf, hf3, iL_len, tn_cast, Nat.mul_one, hci, ge_iff_le, hqn, hqm, tdiv64 q hq4, tmod64, hc5, or_orB _ (q % 64) (by omega : q % 64 < 64), hst]
     refine ⟨by omega, by decide, by omega, by decide, by omega, by omega, ?_⟩
     have B6 := B3.setc (q / 64) (.int .u64 ((orB (W.getD (q / 64) 0) (q % 64)).toNat : Int))
     rw [w64_set _ _ (by omega)] at B6
     have K6 : Keep (fun k => k = b2) H3 (setc H3 ⟨b2, q / 64, none⟩ (.int .u64 ((orB (W.getD (q / 64) 0) (q % 64)).toNat : Int))) := (Keep.refl _ _).setc _ (.inl rfl)
     generalize setc H3 ⟨b2, q / 64, none⟩ (.int .u64 ((orB (W.getD (q / 64) 0) (q % 64)).toNat : Int)) = H6 at B6 K6 ⊢
     simp (disch := omega) only [go_sem, zS, ↓reduceIte, Za, Zb, Zc, reduceCtorEq, kont_eq, hf, IntWalk.i64_in]
     obtain ⟨n', a1, i', W', a2, a3, a4, a5, a6, a7, a8⟩ := hlast H6 _ (by simp [hW]) B6 (fun n => by
      rw [orAt_mem _ _ (by omega), hmb]
      have e1 := mem_take_succ hlt (n : Int)
      rw [hq] at e1
      by_cases h1 : (n : Int) ∈ l.take i
      ·have h2 := e1.2 (.inl h1)
       by_cases h3 : n <= m
       ·simp [h1, h2, h3]
       ·have : n ≠ q := by omega
        simp [h1, h2, h3, this]
      ·by_cases h4 : n = q
       ·subst h4
        have h2 := e1.2 (.inr rfl)
        have h3 : n <= m := by omega
        simp [h2, h3]
       ·have h2 : ¬ (n : Int) ∈ l.take (i + 1) := fun h => by
         rcases e1.1 h with h | h
         ·exact h1 h
         ·omega
        simp [h1, h2, h4]) K6
     exact ⟨n', a1, i', W', a2, a3, by rw [<- a4]; simp, a5, a6, a7, a8⟩
    ·have hb0 : ∀ n : Nat, (decide ((n : Int) ∈ l.take (i + 1)) && decide (n <= m)) = (decide ((n : Int) ∈ l.take i) && decide (n <= m)) := fun n => by
      have e1 := mem_take_succ hlt (n : Int)
      by_cases h3 : n <= m
      ·have : (n : Int) ≠ l.getD i 0 := fun h => hin ⟨by omega, by omega⟩
       have e2 : (n : Int) ∈ l.take (i + 1) ↔ (n : Int) ∈ l.take i := e1.trans ⟨fun h => h.resolve_right this, .inl⟩
       rw [decide_eq_decide.2 e2]
      ·simp [h3]
     obtain ⟨n', a1, i', W', a2, a3, a4, a5, a6, a7, a8⟩ := hlast H3 W hW B3 (fun n => by rw [hb0, hmb]) (Keep.refl _ _)
     simp only [go_sem, zS, ↓reduceIte, Za, Zb, Zc, reduceCtorEq, kont_eq, hf, hf3, iL_len, tn_cast, Nat.mul_one, hci]
     by_cases h0 : l.getD i 0 ≥ 0
     ·have h1 : ¬ l.getD i 0 <= (m : Int) := fun h => hin ⟨h0, h⟩
      simp (disch := omega) only [go_sem, zS, ↓reduceIte, Za, Zb, Zc, reduceCtorEq, kont_eq, hf, hf3, h0, h1, IntWalk.i64_in]
      exact ⟨by omega, n', a1, i', W', a2, a3, by rw [<- a4]; simp, a5, a6, a7, a8⟩
     ·simp (disch := omega) only [go_sem, zS, ↓reduceIte, Za, Zb, Zc, reduceCtorEq, kont_eq, hf, hf3, h0, IntWalk.i64_in]
      exact ⟨by omega, n', a1, i', W', a2, a3, by rw [<- a4]; simp, a5, a6, a7, a8⟩
   ·have hil : i = l.length := by omega
    subst hil
    rw [List.take_length] at hmb
    have hs := SlR.bl B3 0 M M (Nat.le_refl _) (by rw [w64_len]; omega)
    rw [List.drop_zero, w64_take, List.take_of_length_le (by omega)] at hs
    have hmb' : ∀ n, memb W n = ofP l n := fun n => by
     rw [hmb]
     unfold ofP
     by_cases e : (n : Int) ∈ l
     ·have := hx n e
      by_cases h3 : n <= m
      ·have : n < 4096 := by omega
       simp [h3, this]
      ·have : ¬ n < 4096 := by omega
       simp [h3, this]
     ·simp [e]
    refine (htr (ofP l) W _ H3 hs (by omega) hmb').mono ?_
    rintro r H4 ⟨hr, K4, hb4⟩
    have B14 : Bl H4 b1 [.slice none 0 0] := K4.bl (K3.bl B12 (by omega)) (by simp)
    obtain ⟨rv, rW, rfl, hrv⟩ := hr
    simp only [go_sem, zS, ↓reduceIte, Za, Zb, Zc, reduceCtorEq, kont_eq, zF]
    refine ret1 B14 hrv.sl.one fun H5 z5 K5 => ?_
    have s4 := K4.size
    have s3 := K3.size
    have hbb : ∀ k, slB rv k -> H2.size <= k + 1 /\ k ≠ b1 := fun k h => by
     have := hb4 k h
     have : k = b2 := this.1
     omega
    rw [hR]
    refine ⟨⟨rv, rW, rfl, hrv.keep K5 (fun k h e => (hbb k h).2 e)⟩, (((K1.trans K2).to_old K3 (by omega)).trans K4).to_old K5 (by omega), fun k h => ?_⟩
    have := hbb k h
    omega
end Go.Mg

/- Several texts of ours in one. No conditions. -/
import Derived.Test.YtjiacmbjgccfcaaGreatDoorMgFB
import Derived.Test.YtjiacmbjgccfcaaGreatDoorMgB2
import Derived.Test.YtjiacmbjgccfcaaGreatDoorMgDet
import Derived.Test.YtjiacmbjgccfcaaGreatDoorMgW2
import Derived.Test.YtjiacmbjgccfcaaGreatDoorMgLp
import Derived.Test.YtjiacmbjgccfcaaGreatDoorMgP5
open Nat renaming reduceEqDiff → Za, reduceAdd → Zb, reduceMul → Zc, reduceLeDiff → Zd, reduceLT → Ze
open Int renaming reduceBEq → Zf, reduceBNe → Zg, reduceLE → Zh, reduceLT → Zi
namespace Go.Mg
open Go Go.RowKit
set_option linter.unusedSimpArgs false
set_option linter.unusedVariables false
set_option maxRecDepth 100000
def c_bbytes (ι : Ids) : S :=
  .seq (.reg [.e (.v 1) (.box (ι.t 128) (.v 0)), .p (.v 2) (.mv (.c (.slice .none 0 0)))]) (.seq (.reg [.p (.t 8) (.m (.ldn 1 (.v 1))), .e (.t 9) (.call (ι.f 134) [.t 8]), .p (.t 7) (.mv (.t 9)), .p (.t
  10) (.ext (.t 7) 0), .p (.t 11) (.ext (.t 7) 1), .p (.v 3) (.mv (.t 10)), .p (.v 4) (.mv (.t 11))]) (.seq (.seq (.reg [.p (.t 12) (.mv (.v 4)), .p (.v 13) (.not (.t 12))]) (.ite (.v 13) (.seq (.reg
  [.p (.v 2) (.mv (.c (.slice .none 0 0)))]) .ret) .skip)) (.seq (.reg [.p (.t 14) (.mv (.v 3)), .p (.t 15) (.dv .quo .i64 (.t 14) (.c (.int .i64 8))), .p (.t 16) (.ar .add .i64 (.t 15) (.c (.int .i64
  1))), .e (.t 17) (.mkS (ι.t 19) 1 1 #[.int .u8 0] (.t 16) (.t 16)), .p (.v 5) (.mv (.t 17))]) (.seq (.seq (.reg [.p (.t 18) (.mv (.v 5)), .p (.v 19) (.m (.lenl (.t 18))), .p (.v 20) (.mv (.c (.int
  .i64 0)))]) (.blk 0 (.loop (.seq (.reg [.p (.v 21) (.cm .lss .i64 (.v 20) (.v 19))]) (.seq (.ite (.v 21) .skip (.exit 0)) (.seq (.blk 1 (.seq (.reg [.p (.t 22) (.mv (.v 20)), .p (.v 6) (.mv (.t 22))])
  (.reg [.p (.t 23) (.mv (.v 5)), .p (.t 24) (.mv (.v 6)), .p (.t 25) (.fa 0 (.v 1)), .p (.t 26) (.ld (.t 25)), .p (.t 27) (.mv (.v 6)), .p (.t 28) (.dv .quo .i64 (.t 27) (.c (.int .i64 8))), .p (.t 29)
  (.is 1 (.t 26) (.t 28)), .p (.t 30) (.ld (.t 29)), .p (.t 31) (.mv (.v 6)), .p (.t 32) (.dv .rem .i64 (.t 31) (.c (.int .i64 8))), .p (.t 33) (.ar .mul .i64 (.c (.int .i64 8)) (.t 32)), .p (.t 34)
  (.sh .shr .u64 (.t 30) (.t 33)), .p (.t 35) (.ii .u8 (.t 34)), .p (.t 36) (.is 1 (.t 23) (.t 24)), .e .no (.st (.t 36) (.t 35))]))) (.reg [.p (.t 37) (.ar .add .i64 (.v 20) (.c (.int .i64 1))), .p (.v
  20) (.mv (.t 37))]))))))) (.seq (.reg [.p (.t 38) (.mv (.v 5)), .p (.v 2) (.mv (.t 38))]) .ret)))))
def r_bbytes : List RV := [.t 2]
def c_brdT (ι : Ids) : S :=
  (.seq (.reg [.p (.t 25) (.mv (.v 0)), .p (.t 26) (.m (.lenl (.t 25))), .p (.t 27) (.ar .add .i64 (.t 26) (.c (.int .i64 7))), .p (.t 28) (.dv .quo .i64 (.t 27) (.c (.int .i64 8))), .e (.t 29) (.mkS
  (ι.t 28) 1 8 #[.int .u64 0] (.t 28) (.t 28)), .p (.v 4) (.mv (.t 29))]) (.seq (.seq (.reg [.p (.v 30) (.mv (.v 0)), .p (.v 31) (.m (.lenl (.v 30))), .p (.v 32) (.mv (.c (.int .i64 0)))]) (.blk 0
  (.loop (.seq (.reg [.p (.v 33) (.cm .lss .i64 (.v 32) (.v 31))]) (.seq (.ite (.v 33) .skip (.exit 0)) (.seq (.blk 1 (.seq (.reg [.p (.t 34) (.mv (.v 32)), .p (.t 35) (.is 1 (.v 30) (.v 32)), .p (.t
  36) (.ld (.t 35)), .p (.v 5) (.mv (.t 34)), .p (.v 6) (.mv (.t 36))]) (.reg [.p (.t 37) (.mv (.v 4)), .p (.t 38) (.mv (.v 5)), .p (.t 39) (.dv .quo .i64 (.t 38) (.c (.int .i64 8))), .p (.t 40) (.is 1
  (.t 37) (.t 39)), .p (.t 41) (.ld (.t 40)), .p (.t 42) (.mv (.v 6)), .p (.t 43) (.ii .u64 (.t 42)), .p (.t 44) (.mv (.v 5)), .p (.t 45) (.dv .rem .i64 (.t 44) (.c (.int .i64 8))), .p (.t 46) (.ar .mul
  .i64 (.c (.int .i64 8)) (.t 45)), .p (.t 47) (.sh .shl .u64 (.t 43) (.t 46)), .p (.t 48) (.bt .or .u64 (.t 41) (.t 47)), .p (.t 49) (.is 1 (.t 37) (.t 39)), .e .no (.st (.t 49) (.t 48))]))) (.reg [.p
  (.t 50) (.ar .add .i64 (.v 32) (.c (.int .i64 1))), .p (.v 32) (.mv (.t 50))]))))))) (.seq (.reg [.p (.t 51) (.mv (.v 4)), .p (.t 52) (.m (.bld #[.slice .none 0 0] [(0, (1, .t 51))])), .e .no (.stn 1
  (.v 2) (.t 52)), .p (.v 3) (.mv (.c (.int .i64 0)))]) .ret)))
def c_bread (ι : Ids) : S :=
  .seq (.reg [.e (.v 2) (.new (ι.t 128) #[.slice .none 0 0]), .p (.v 3) (.mv (.c (.int .i64 0)))]) (.seq (.seq (.reg [.p (.t 7) (.mv (.v 0)), .p (.t 8) (.m (.lenl (.t 7))), .p (.t 9) (.cm .gtr .i64 (.t
  8) (.c (.int .i64 512))), .p (.t 10) (.mv (.t 9)), .gp (.t 11) (.t 10) false (.mv (.v 0)), .gp (.t 12) (.t 10) false (.m (.lenl (.t 11))), .gp (.t 13) (.t 10) false (.cm .gtr .i64 (.t 12) (.c (.int
  .i64 0))), .gp (.t 14) (.t 10) false (.mv (.t 13)), .gp (.t 15) (.t 14) true (.mv (.v 0)), .gp (.t 16) (.t 14) true (.mv (.v 0)), .gp (.t 17) (.t 14) true (.m (.lenl (.t 16))), .gp (.t 18) (.t 14)
  true (.ar .sub .i64 (.t 17) (.c (.int .i64 1))), .gp (.t 19) (.t 14) true (.is 1 (.t 15) (.t 18)), .gp (.t 20) (.t 14) true (.ld (.t 19)), .gp (.t 21) (.t 14) true (.cm .eql .u8 (.t 20) (.c (.int .u8
  0))), .gp (.t 22) (.t 10) false (.pick (.t 14) (.t 21) (.c (.bool false))), .p (.v 23) (.pick (.t 10) (.c (.bool true)) (.t 22))]) (.ite (.v 23) (.seq (.reg [.p (.t 24) (.m (.bld #[.slice .none 0 0]
  [])), .e .no (.stn 1 (.v 2) (.t 24)), .p (.v 3) (.mv (.c (.int .i64 6)))]) .ret) .skip)) (c_brdT ι))
def r_bread : List RV := [.cn 2 1, .t 3]
def bitL (l : List UInt8) (n : Nat) : Bool := (l.getD (n / 8) 0).toNat.testBit (n % 8)
def CanB (l : List UInt8) : Prop := ∀ h : l ≠ [], l.getLast h ≠ 0
theorem bitL_ge {l : List UInt8} {n : Nat} (h : 8 * l.length ≤ n) : bitL l n = false := by
  unfold bitL
  rw [List.getD_eq_getElem?_getD, List.getElem?_eq_none (by omega)]
  simp
theorem bitL_at (l : List UInt8) (k b : Nat) (hb : b < 8) : bitL l (8 * k + b) = (l.getD k 0).toNat.testBit b := by
  unfold bitL
  rw [show (8 * k + b) / 8 = k by omega, show (8 * k + b) % 8 = b by omega]
theorem u8_ext {x y : UInt8} (h : ∀ b < 8, x.toNat.testBit b = y.toNat.testBit b) : x = y := by
  apply UInt8.toNat_inj.1
  apply Nat.eq_of_testBit_eq
  intro k
  by_cases hk : k < 8
  · exact h k hk
  · have e : ∀ z : UInt8, z.toNat.testBit k = false := fun z => Nat.testBit_lt_two_pow (Nat.lt_of_lt_of_le z.toNat_lt (Nat.pow_le_pow_right (n := 2) (by omega) (show 8 ≤ k by omega)))
    rw [e, e]
theorem u8_bit {x : UInt8} (h : x ≠ 0) : ∃ b < 8, x.toNat.testBit b = true := by
  apply Classical.byContradiction
  intro hn
  refine h (u8_ext fun b hb => ?_)
  cases e : x.toNat.testBit b with
  | false => simp
  | true => exact absurd ⟨b, hb, e⟩ hn
theorem CanB.top {l : List UInt8} (h : CanB l) (hl : l ≠ []) : ∃ n, bitL l n = true ∧ 8 * (l.length - 1) ≤ n ∧ n < 8 * l.length := by
  have hp : 0 < l.length := List.length_pos_iff.2 hl
  have h1 := h hl
  rw [List.getLast_eq_getElem] at h1
  obtain ⟨b, hb, e⟩ := u8_bit h1
  refine ⟨8 * (l.length - 1) + b, ?_, by omega, by omega⟩
  rw [bitL_at _ _ _ hb, List.getD_eq_getElem?_getD, List.getElem?_eq_getElem (by omega)]
  exact e
theorem CanB.of_top {l : List UInt8} (h : l ≠ [] → ∃ n, bitL l n = true ∧ 8 * (l.length - 1) ≤ n) : CanB l := fun hl e => by
  obtain ⟨n, h1, h2⟩ := h hl
  have hp : 0 < l.length := List.length_pos_iff.2 hl
  rw [List.getLast_eq_getElem] at e
  by_cases hn : n < 8 * l.length
  · unfold bitL at h1
    rw [show n / 8 = l.length - 1 by omega, List.getD_eq_getElem?_getD, List.getElem?_eq_getElem (by omega), Option.getD_some, e] at h1
    simp at h1
  · rw [bitL_ge (by omega)] at h1; cases h1
theorem canB_inj {l m : List UInt8} (hl : CanB l) (hm : CanB m) (h : ∀ n, bitL l n = bitL m n) : l = m := by
  have le : ∀ {l m : List UInt8}, CanB l → (∀ n, bitL l n = bitL m n) → l.length ≤ m.length := fun {l m} hl h => by
    apply Classical.byContradiction
    intro hc
    obtain ⟨n, h1, h2, h3⟩ := hl.top (by intro e; subst e; simp at hc)
    rw [h, bitL_ge (by omega)] at h1
    cases h1
  have hlen : l.length = m.length := Nat.le_antisymm (le hl h) (le hm fun n => (h n).symm)
  refine List.ext_getElem hlen fun i h1 h2 => u8_ext fun b hb => ?_
  have := h (8 * i + b)
  rw [bitL_at _ _ _ hb, bitL_at _ _ _ hb, List.getD_eq_getElem?_getD, List.getElem?_eq_getElem h1, List.getD_eq_getElem?_getD, List.getElem?_eq_getElem h2] at this
  exact this
def byW (W : List UInt64) (k : Nat) : List UInt8 := (List.range k).map fun i => UInt8.ofNat ((W.getD (i / 8) 0).toNat / 2 ^ (8 * (i % 8)) % 256)
theorem byW_len (W : List UInt64) (k : Nat) : (byW W k).length = k := by simp [byW]
theorem byW_get (W : List UInt64) {k i : Nat} (h : i < k) : (byW W k).getD i 0 = UInt8.ofNat ((W.getD (i / 8) 0).toNat / 2 ^ (8 * (i % 8)) % 256) := by
  simp [byW, h]
theorem byW_bit (W : List UInt64) (k n : Nat) (h : n < 8 * k) : bitL (byW W k) n = memb W n := by
  unfold bitL memb bt
  rw [byW_get W (show n / 8 < k by omega), UInt8.toNat_ofNat', show 2 ^ 8 = 256 by rfl, Nat.mod_mod]
  have e : (256 : Nat) = 2 ^ 8 := rfl
  rw [e, Nat.testBit_mod_two_pow, Nat.testBit_div_two_pow, decide_eq_true (show n % 8 < 8 by omega), Bool.true_and]
  rw [show n / 8 / 8 = n / 64 by omega, show n % 8 + 8 * (n / 8 % 8) = n % 64 by omega]
def BBytSpec (P : Program) (k : FuncId) : Prop := ∀ (p : Nat → Bool) (x : Value) (H : Hp), SetM H x p → CallsM P k #[x] H fun r H' => (∃ l, OwS H' r (w8 l) ∧ CanB l ∧ (∀ n, bitL l n = p n) ∧ l.length ≤ 512) ∧ (∀ q, ownB r q → H.size ≤ q) ∧ Keep (fun _ => False) H H'
theorem bbytes_ok {P : Program} {ι : Ids} {k : FuncId} (hk : FnIs P k (c_bbytes ι) r_bbytes 1) (hg : BGreatSpec P (ι.f 134)) : BBytSpec P k := by
  intro p x H hx
  obtain ⟨Q, hQ⟩ : ∃ Q : Value → Hp → Prop, Q = fun r H' => (∃ l, OwS H' r (w8 l) ∧ CanB l ∧ (∀ n, bitL l n = p n) ∧ l.length ≤ 512) ∧ (∀ q, ownB r q → H.size ≤ q) ∧ Keep (fun _ => False) H H' := ⟨_, rfl⟩
  rw [← hQ]
  have hx0 := hx
  obtain ⟨v, W, rfl, hv⟩ := hx
  refine calls_of_vc hk (args := [_]) (by simp) ?_
  unfold c_bbytes r_bbytes
  simp -implicitDefEqProofs only [go_sem, zS, ↓reduceIte, Za, Zb, Zc, reduceCtorEq, zU, zV, Zf, Zg, Zh, Zi, Zd, Ze, zF]
  refine kont_new fun H1 b1 e1 z1 B1 K1 => ?_
  have B1' : Bl H1 b1 [v] := B1
  have s1 := K1.size
  simp -implicitDefEqProofs only [go_sem, zS, ↓reduceIte, Za, Zb, Zc, reduceCtorEq, zU, zV, Zf, Zg, Zh, Zi, Zd, Ze, zF, B1'.ldNO 1 rfl]
  refine (hg p _ H1 (hx0.keep0 K1)).mono ?_
  rintro r H2 ⟨hr, K2⟩
  have B2 := K2.bl B1' (by simp)
  have K12 := K1.trans K2
  rw [kont_eq]
  rcases hr with ⟨rfl, hp⟩ | ⟨t, rfl, ht⟩
  · simp -implicitDefEqProofs only [go_sem, zS, ↓reduceIte, Za, Zb, Zc, reduceCtorEq, kont_eq, zU, zV, Zf, Zg, Zh, Zi, Zd, Ze, zF, Bool.not_false]
    rw [hQ]
    exact ⟨⟨[], OwS.nil _, fun h => absurd rfl h, fun n => by rw [hp, bitL_ge (by simp)], by simp⟩, fun q h => h.elim, K12⟩
  · have htl := hv.lt ht.1
    have hlen := hv.len
    have ht4 : t < 4096 := by omega
    have q1 : (t : Int).tdiv 8 = ((t / 8 : Nat) : Int) := (Int.ofNat_tdiv t 8).symm
    have w0 : ∀ m : Nat, m ≤ 1000000 → IntKind.i64.wrap (m : Int) = (m : Int) := fun m hm => IntWalk.i64_in _ (by omega)
    have w1 : IntKind.i64.wrap (((t / 8 : Nat) : Int) + 1) = ((t / 8 + 1 : Nat) : Int) := by rw [IntWalk.i64_in _ (by omega)]; omega
    simp -implicitDefEqProofs only [go_sem, zS, ↓reduceIte, Za, Zb, Zc, reduceCtorEq, zU, zV, Zf, Zg, Zh, Zi, Zd, Ze, zF, Bool.not_true, q1, w0 (t / 8) (by omega), w1]
    refine ⟨by decide, ⟨by omega, by omega, by unfold maxLen; omega⟩, ?_⟩
    refine kont_news fun H3 b3 e3 z3 B3 K3 => ?_
    rw [rep_one, w8_rep] at B3
    have s2 := K2.size
    have K13 := K12.trans K3
    simp -implicitDefEqProofs only [go_sem, zS, ↓reduceIte, Za, Zb, Zc, reduceCtorEq, zU, zV, Zf, Zg, Zh, Zi, Zd, Ze, zF, tn_cast]
    refine vc_range (t / 8 + 1) [21, 6, 20] rfl rfl (by omega) (by simp -implicitDefEqProofs only [go_sem, zS, ↓reduceIte, Za, Zb, Zc, reduceCtorEq, kont_eq, zU, zV, Zf, Zg, Zh, Zi, Zd, Ze]) (by simp -implicitDefEqProofs only [go_sem, zS, ↓reduceIte, Za, Zb, Zc, reduceCtorEq, kont_eq, zU, zV, Zf, Zg, Zh, Zi, Zd, Ze]) (fun i g A => Bl A b3 (w8 (byW W i ++ List.replicate (t / 8 + 1 - i) 0)) ∧ Keep (fun q => q = b3) H3 A) ⟨B3, Keep.refl _ _⟩ ?_ ?_
    · rintro i g A hi gi gn ⟨BA, KA⟩
      simp -implicitDefEqProofs only [go_sem, zS, ↓reduceIte, Za, Zb, Zc, reduceCtorEq, kont_eq, zU, zV, Zf, Zg, Zh, Zi, Zd, Ze] at gi gn
      have q2 : (i : Int).tdiv 8 = ((i / 8 : Nat) : Int) := (Int.ofNat_tdiv i 8).symm
      have q3 : (i : Int).tmod 8 = ((i % 8 : Nat) : Int) := tmod_nat i 8
      have w2 : IntKind.i64.wrap (8 * ((i % 8 : Nat) : Int)) = ((8 * (i % 8) : Nat) : Int) := by rw [IntWalk.i64_in _ (by omega)]; omega
      have KHA : Keep (fun _ => False) H A := K13.trans' KA fun q hq e => by omega
      have hvA := hv.keep KHA (by simp)
      have hW : i / 8 < W.length := by omega
      obtain ⟨wb, wo, wc, rfl, hwc, hcell⟩ := hvA.sl.cells (by intro e; have h := congrArg List.length e; rw [w64_len, List.length_nil] at h; omega)
      rw [w64_len] at hcell hwc
      have hc := hcell (i / 8) hW
      rw [w64_get _ _ hW] at hc
      have B1A := KA.bl ((K2.trans K3).bl B1' (by simp)) (by omega)
      have c0 : cell A ⟨b1, 0, none⟩ = some (.slice (some ⟨wb, wo, none⟩) W.length wc) := by rw [B1A.cell, w64_len]; rfl
      have lt := BA.okSt (o := i) (by rw [w8_len, List.length_append, byW_len, List.length_replicate]; omega)
      have wb8 : IntKind.u8.wrap (((W.getD (i / 8) 0).toNat : Int) / 2 ^ (8 * (i % 8))) = ((UInt8.ofNat ((W.getD (i / 8) 0).toNat / 2 ^ (8 * (i % 8)) % 256)).toNat : Int) := by
        have e : (((W.getD (i / 8) 0).toNat : Int) / 2 ^ (8 * (i % 8))) = (((W.getD (i / 8) 0).toNat / 2 ^ (8 * (i % 8)) : Nat) : Int) := by simp
        rw [e, UInt8.toNat_ofNat']
        generalize (W.getD (i / 8) 0).toNat / 2 ^ (8 * (i % 8)) = z
        show (z : Int) % 256 = _
        omega
      simp -implicitDefEqProofs only [go_sem, zS, ↓reduceIte, Za, Zb, Zc, reduceCtorEq, zU, zV, Zf, Zg, Zh, Zi, Zd, Ze, zF, gi, q2, q3, w0 (i / 8) (by omega), w2, c0, tn_cast, hc, lt, wb8]
      refine ⟨by decide, by omega, by decide, by omega, by omega, ?_⟩
      rw [kont_eq]
      simp -implicitDefEqProofs only [go_sem, zS, ↓reduceIte, Za, Zb, Zc, reduceCtorEq, kont_eq, zU, zV, Zf, Zg, Zh, Zi, Zd, Ze, zF]
      have hs := BA.setc i (.int .u8 (UInt8.ofNat ((W.getD (i / 8) 0).toNat / 2 ^ (8 * (i % 8)) % 256)).toNat)
      rw [w8_set] at hs
      refine ⟨?_, KA.setc _ (.inl rfl)⟩
      have e : (byW W i ++ List.replicate (t / 8 + 1 - i) 0).set i (UInt8.ofNat ((W.getD (i / 8) 0).toNat / 2 ^ (8 * (i % 8)) % 256)) = byW W (i + 1) ++ List.replicate (t / 8 + 1 - (i + 1)) 0 := by
        rw [List.set_append, if_neg (by rw [byW_len]; omega), byW_len, Nat.sub_self, show t / 8 + 1 - i = (t / 8 + 1 - (i + 1)) + 1 by omega, List.replicate_succ, List.set_cons_zero]
        rw [byW, byW, List.range_succ, List.map_append, List.append_assoc]
        rfl
      rw [← e]; exact hs
    · rintro g A gi ⟨BA, KA⟩
      simp -implicitDefEqProofs only [go_sem, zS, ↓reduceIte, Za, Zb, Zc, reduceCtorEq, kont_eq, zU, zV, Zf, Zg, Zh, Zi, Zd, Ze, zF]
      rw [hQ]
      rw [Nat.sub_self, List.replicate_zero, List.append_nil] at BA
      have bt1 := byW_bit W (t / 8 + 1)
      refine ⟨⟨byW W (t / 8 + 1), OwS.new BA (by rw [w8_len, byW_len]) rfl, CanB.of_top fun _ => ⟨t, by rw [bt1 t (by omega), hv.is]; exact ht.1, by rw [byW_len]; omega⟩, fun n => ?_, by rw [byW_len]; omega⟩, fun q (hq : q = b3) => by omega, K13.trans' KA fun q hq e => by omega⟩
      by_cases hn : n < 8 * (t / 8 + 1)
      · rw [bt1 n hn, hv.is]
      · rw [bitL_ge (by rw [byW_len]; omega)]
        cases e : p n with
        | false => rfl
        | true => have := ht.2 n e; omega
def wdI (l : List UInt8) (i : Nat) (W : List UInt64) : Prop := W.length = (l.length + 7) / 8 ∧ ∀ n, memb W n = (decide (n < 8 * i) && bitL l n)
theorem shl8 (x : UInt8) (k : Nat) (hk : k < 8) : IntKind.u64.wrap (IntKind.u64.wrap (x.toNat : Int) * 2 ^ (8 * k)) = ((UInt64.ofNat (x.toNat * 2 ^ (8 * k))).toNat : Int) := by
  have hx := x.toNat_lt
  have e1 : IntKind.u64.wrap (x.toNat : Int) = (x.toNat : Int) := by
    show (x.toNat : Int) % 18446744073709551616 = _
    omega
  have hp : 2 ^ (8 * k) ≤ 2 ^ 56 := Nat.pow_le_pow_right (by omega) (by omega)
  have hle : x.toNat * 2 ^ (8 * k) < 18446744073709551616 := by
    have := Nat.mul_le_mul (show x.toNat ≤ 255 by omega) hp
    omega
  rw [e1, UInt64.toNat_ofNat', Nat.mod_eq_of_lt hle]
  show ((x.toNat : Int) * 2 ^ (8 * k)) % 18446744073709551616 = _
  have e2 : (x.toNat : Int) * 2 ^ (8 * k) = ((x.toNat * 2 ^ (8 * k) : Nat) : Int) := by simp
  rw [e2]; omega
theorem bt_byte (w : UInt64) (x : UInt8) (k b : Nat) (hk : k < 8) : bt (w ||| UInt64.ofNat (x.toNat * 2 ^ (8 * k))) b = (bt w b || (decide (8 * k ≤ b) && x.toNat.testBit (b - 8 * k))) := by
  have hx := x.toNat_lt
  have hp : 2 ^ (8 * k) ≤ 2 ^ 56 := Nat.pow_le_pow_right (by omega) (by omega)
  have hle : x.toNat * 2 ^ (8 * k) < 18446744073709551616 := by
    have := Nat.mul_le_mul (show x.toNat ≤ 255 by omega) hp
    omega
  unfold bt
  rw [UInt64.toNat_or, Nat.testBit_or, UInt64.toNat_ofNat', Nat.mod_eq_of_lt hle, Nat.testBit_mul_two_pow]
theorem wdI_succ {l : List UInt8} {i : Nat} {W : List UInt64} (h : wdI l i W) (hi : i < l.length) : wdI l (i + 1) (W.set (i / 8) (W.getD (i / 8) 0 ||| UInt64.ofNat ((l.getD i 0).toNat * 2 ^ (8 * (i % 8))))) := by
  obtain ⟨h1, h2⟩ := h
  refine ⟨by simpa using h1, fun n => ?_⟩
  rw [memb_set W _ (by omega)]
  by_cases hn : n / 64 = i / 8
  · have e0 := h2 n
    unfold memb at e0
    rw [hn] at e0
    rw [if_pos hn, bt_byte _ _ _ _ (by omega), e0]
    by_cases hb : n / 8 = i
    · have e3 : bitL l n = (l.getD i 0).toNat.testBit (n % 8) := by unfold bitL; rw [hb]
      rw [decide_eq_false (show ¬ n < 8 * i by omega), decide_eq_true (show n < 8 * (i + 1) by omega), decide_eq_true (show 8 * (i % 8) ≤ n % 64 by omega), show n % 64 - 8 * (i % 8) = n % 8 by omega, e3]
      simp
    · by_cases hlt : n < 8 * i
      · rw [decide_eq_true hlt, decide_eq_true (show n < 8 * (i + 1) by omega), decide_eq_false (show ¬ 8 * (i % 8) ≤ n % 64 by omega)]
        simp
      · rw [decide_eq_false hlt, decide_eq_false (show ¬ n < 8 * (i + 1) by omega)]
        have : (l.getD i 0).toNat.testBit (n % 64 - 8 * (i % 8)) = false := by
          have hx := (l.getD i 0).toNat_lt
          exact Nat.testBit_lt_two_pow (Nat.lt_of_lt_of_le hx (Nat.pow_le_pow_right (n := 2) (by omega) (show 8 ≤ n % 64 - 8 * (i % 8) by omega)))
        rw [this]; simp
  · rw [if_neg hn, h2]
    by_cases hlt : n < 8 * i
    · rw [decide_eq_true hlt, decide_eq_true (show n < 8 * (i + 1) by omega)]
    · rw [decide_eq_false hlt, decide_eq_false (show ¬ n < 8 * (i + 1) by omega)]
def BRdSpec (P : Program) (k : FuncId) : Prop := ∀ (l : List UInt8) (v : Value) (H : Hp), SlR H v (w8 l) → l.length ≤ 100000000 → CallsM P k #[v] H fun r H' => ((l.length ≤ 512 ∧ CanB l ∧ ∃ x, r = .tuple #[.agg #[x], .int .i64 0] ∧ SetM H' (.agg #[x]) (bitL l) ∧ ∀ q, slB x q → H.size ≤ q) ∨ (¬ (l.length ≤ 512 ∧ CanB l) ∧ r = .tuple #[.agg #[.slice none 0 0], .int .i64 6])) ∧ Keep (fun _ => False) H H'
theorem brdT_ok {P : Program} {ι : Ids} {f : Fr} {A : Hp} {b2 : Nat} {v : Value} {l : List UInt8} {Q : Value → Hp → Prop} (h0 : f 0 = v) (h2 : f 2 = .pointer (some ⟨b2, 0, none⟩)) (B2 : Bl A b2 [.slice none 0 0]) (hv : SlR A v (w8 l)) (hb2 : ∀ q, slB v q → q ≠ b2) (hl : l.length ≤ 512) (hc : CanB l)
    (hK : ∀ A' x, SetM A' (.agg #[x]) (bitL l) → (∀ q, slB x q → A.size ≤ q) → Keep (fun q => q = b2) A A' → Q (.tuple #[.agg #[x], .int .i64 0]) A') : vc P (c_brdT ι) (retQ r_bread Q) f A := by
  unfold c_brdT r_bread
  have w0 : ∀ m : Nat, m ≤ 1000000 → IntKind.i64.wrap (m : Int) = (m : Int) := fun m hm => IntWalk.i64_in _ (by omega)
  have w1 : IntKind.i64.wrap ((l.length : Int) + 7) = ((l.length + 7 : Nat) : Int) := by rw [IntWalk.i64_in _ (by omega)]; omega
  have q1 : ((l.length + 7 : Nat) : Int).tdiv 8 = (((l.length + 7) / 8 : Nat) : Int) := (Int.ofNat_tdiv _ 8).symm
  have s2 := B2.lt
  simp -implicitDefEqProofs only [go_sem, zS, ↓reduceIte, Za, Zb, Zc, reduceCtorEq, zU, zV, Zf, Zg, Zh, Zi, Zd, Ze, zF, h0, hv.isSl, hv.len, w8_len, w1, q1, w0 ((l.length + 7) / 8) (by omega)]
  refine ⟨by decide, ⟨by omega, by omega, by unfold maxLen; omega⟩, ?_⟩
  refine kont_news fun H3 b3 e3 z3 B3 K3 => ?_
  rw [rep_one, w64_rep] at B3
  simp -implicitDefEqProofs only [go_sem, zS, ↓reduceIte, Za, Zb, Zc, reduceCtorEq, zU, zV, Zf, Zg, Zh, Zi, Zd, Ze, zF, tn_cast, h0, hv.isSl, hv.len, w8_len]
  refine vc_range l.length [33, 5, 6, 32] rfl rfl (by omega) (by simp -implicitDefEqProofs only [go_sem, zS, ↓reduceIte, Za, Zb, Zc, reduceCtorEq, kont_eq, zU, zV, Zf, Zg, Zh, Zi, Zd, Ze]) (by simp -implicitDefEqProofs only [go_sem, zS, ↓reduceIte, Za, Zb, Zc, reduceCtorEq, kont_eq, zU, zV, Zf, Zg, Zh, Zi, Zd, Ze]) (fun i g B => ∃ W, Bl B b3 (w64 W) ∧ wdI l i W ∧ Keep (fun q => q = b3) H3 B) ⟨_, B3, ⟨by simp, fun n => ?_⟩, Keep.refl _ _⟩ ?_ ?_
  · have : memb (List.replicate ((l.length + 7) / 8) 0) n = false := by
      have := memb_pad [] ((l.length + 7) / 8) n
      rw [List.nil_append] at this
      rw [this, memb_ge (by simp)]
    rw [this, decide_eq_false (by omega), Bool.false_and]
  · rintro i g B hi gi gn ⟨W, BW, hW, KB⟩
    simp -implicitDefEqProofs only [go_sem, zS, ↓reduceIte, Za, Zb, Zc, reduceCtorEq, kont_eq, zU, zV, Zf, Zg, Zh, Zi, Zd, Ze] at gi gn
    have KAB : Keep (fun _ => False) A B := K3.trans' KB fun q hq e => by omega
    have hvB := hv.keep KAB (by simp)
    obtain ⟨vb, vo, vc', rfl, hvc, hcell⟩ := hvB.cells (by intro e; have h := congrArg List.length e; rw [w8_len, List.length_nil] at h; omega)
    rw [w8_len] at hcell hvc
    have hci := hcell i hi
    rw [w8_get _ _ hi] at hci
    have q2 : (i : Int).tdiv 8 = ((i / 8 : Nat) : Int) := (Int.ofNat_tdiv i 8).symm
    have q3 : (i : Int).tmod 8 = ((i % 8 : Nat) : Int) := tmod_nat i 8
    have w2 : IntKind.i64.wrap (8 * ((i % 8 : Nat) : Int)) = ((8 * (i % 8) : Nat) : Int) := by rw [IntWalk.i64_in _ (by omega)]; omega
    have hWl := hW.1
    have lt := BW.okSt (o := i / 8) (by rw [w64_len]; omega)
    have cw : cell B ⟨b3, i / 8, none⟩ = some (.int .u64 (W.getD (i / 8) 0).toNat) := by rw [BW.cell, w64_get _ _ (by omega)]
    have hs := BW.setc (i / 8) (.int .u64 (W.getD (i / 8) 0 ||| UInt64.ofNat ((l.getD i 0).toNat * 2 ^ (8 * (i % 8)))).toNat)
    rw [w64_set _ _ (by omega)] at hs
    simp -implicitDefEqProofs only [go_sem, zS, ↓reduceIte, Za, Zb, Zc, reduceCtorEq, kont_eq, zU, zV, Zf, Zg, Zh, Zi, Zd, Ze, zF, gi, q2, q3, w0 (i / 8) (by omega), w2, tn_cast, hci, lt, cw, shl8 _ _ (show i % 8 < 8 by omega), bits_or, w8_len]
    refine ⟨by omega, by decide, by omega, by decide, by omega, ?_⟩
    exact ⟨by omega, _, hs, wdI_succ hW hi, KB.setc (p := ⟨b3, i / 8, none⟩) _ (.inl rfl)⟩
  · rintro g B gi ⟨W, BW, hW, KB⟩
    have hbits : ∀ n, memb W n = bitL l n := fun n => by
      rw [hW.2]
      by_cases hn : n < 8 * l.length
      · rw [decide_eq_true hn, Bool.true_and]
      · rw [decide_eq_false hn, Bool.false_and, bitL_ge (by omega)]
    have K3B : Keep (fun _ => False) A B := K3.trans' KB fun q hq e => by omega
    have hWl := hW.1
    have hcan : Can W := Can.of_top fun hne => by
      have hl0 : l ≠ [] := by
        intro e; subst e
        exact hne (List.eq_nil_of_length_eq_zero (by simpa using hWl))
      obtain ⟨n, t1, t2, t3⟩ := hc.top hl0
      exact ⟨n, by rw [hbits]; exact t1, by omega⟩
    have BA := K3B.bl B2 (by simp)
    have t2 := BA.okNA (o := 0) (n := 1) (by simp)
    have L := BA.stNA 0 [.slice (some ⟨b3, 0, none⟩) ((l.length + 7) / 8) ((l.length + 7) / 8)]
    rw [wrL_all _ _ (by simp)] at L
    have KL : Keep (fun q => q = b2) B (stNA B ⟨b2, 0, none⟩ [.slice (some ⟨b3, 0, none⟩) ((l.length + 7) / 8) ((l.length + 7) / 8)]) := (Keep.refl _ _).stNA _ (.inl rfl)
    have hS : SlR B (.slice (some ⟨b3, 0, none⟩) ((l.length + 7) / 8) ((l.length + 7) / 8)) (w64 W) := by
      have := SlR.bl BW 0 W.length W.length (by omega) (by rw [w64_len]; omega)
      rw [List.drop_zero, ← w64_len W, List.take_length, w64_len, hWl] at this
      exact this
    simp -implicitDefEqProofs only [go_sem, zS, ↓reduceIte, Za, Zb, Zc, reduceCtorEq, kont_eq, zU, zV, Zf, Zg, Zh, Zi, Zd, Ze, zF, h2, t2, fillV_cons, fillV_nil, L.ldNO 1 rfl]
    refine ⟨all1_of rfl, hK _ _ ⟨_, W, rfl, hS.keep KL fun q hq e => ?_, by omega, hcan, hbits⟩ (fun q hq => ?_) (K3B.any.trans KL)⟩
    · have : q = b3 := hq.1
      omega
    · have : q = b3 := hq.1
      omega
theorem bread_ok {P : Program} {ι : Ids} {k : FuncId} (hk : FnIs P k (c_bread ι) r_bread 1) : BRdSpec P k := by
  intro l v H hv hl
  obtain ⟨Q, hQ⟩ : ∃ Q : Value → Hp → Prop, Q = fun r H' => ((l.length ≤ 512 ∧ CanB l ∧ ∃ x, r = .tuple #[.agg #[x], .int .i64 0] ∧ SetM H' (.agg #[x]) (bitL l) ∧ ∀ q, slB x q → H.size ≤ q) ∨ (¬ (l.length ≤ 512 ∧ CanB l) ∧ r = .tuple #[.agg #[.slice none 0 0], .int .i64 6])) ∧ Keep (fun _ => False) H H' := ⟨_, rfl⟩
  rw [← hQ]
  refine calls_of_vc hk (args := [_]) (by simp) ?_
  unfold c_bread
  have hr : r_bread = [.cn 2 1, .t 3] := rfl
  simp -implicitDefEqProofs only [go_sem, zS, ↓reduceIte, Za, Zb, Zc, reduceCtorEq, zU, zV, Zf, Zg, Zh, Zi, Zd, Ze, zF]
  refine kont_new fun H1 b2 e1 z1 B2 K1 => ?_
  have B2' : Bl H1 b2 [.slice none 0 0] := B2
  have hv1 := hv.keep K1 (by simp)
  have nb : ∀ q, slB v q → q ≠ b2 := fun q hq e => by have := hv.old hq; omega
  have s1 := K1.size
  have t2 := B2'.okNA (o := 0) (n := 1) (by simp)
  have L := B2'.stNA 0 [.slice none 0 0]
  rw [wrL_all _ _ (by simp)] at L
  have KL : Keep (fun q => q = b2) H1 (stNA H1 ⟨b2, 0, none⟩ [.slice none 0 0]) := (Keep.refl _ _).stNA _ (.inl rfl)
  have bad : ¬ (l.length ≤ 512 ∧ CanB l) → all1 #[Value.slice none 0 0] ∧ Q (.tuple #[.agg #[.slice none 0 0], .int .i64 6]) (stNA H1 ⟨b2, 0, none⟩ [.slice none 0 0]) := fun h => ⟨all1_of rfl, by
    rw [hQ]
    exact ⟨.inr ⟨h, rfl⟩, K1.trans' KL fun q hq e => by omega⟩⟩
  have good : l.length ≤ 512 → CanB l → ∀ f : Fr, f 0 = v → f 2 = .pointer (some ⟨b2, 0, none⟩) → vc P (c_brdT ι) (retQ r_bread Q) f H1 := fun h1 h2 f f0 f2 => brdT_ok f0 f2 B2' hv1 nb h1 h2 fun A' x S o K => by
    rw [hQ]
    exact ⟨.inl ⟨h1, h2, x, rfl, S, fun q hq => by have := o q hq; omega⟩, K1.trans' K fun q hq e => by omega⟩
  by_cases h512 : 512 < l.length
  · have d1 : decide ((l.length : Int) > 512) = true := decide_eq_true (by omega)
    rw [hr]
    simp -implicitDefEqProofs only [go_sem, zS, ↓reduceIte, Za, Zb, Zc, reduceCtorEq, kont_eq, zU, zV, Zf, Zg, Zh, Zi, Zd, Ze, zF, hv.isSl, hv.len, w8_len, d1, false_imp_iff, forall_const, t2, fillV_nil, L.ldNO 1 rfl]
    exact bad fun h => by omega
  have d1 : decide ((l.length : Int) > 512) = false := decide_eq_false (by omega)
  by_cases h0 : l = []
  · subst h0
    have d1 : decide ((0 : Int) > 512) = false := rfl
    have d2 : decide ((0 : Int) > 0) = false := rfl
    have e0 : (((0 : Nat) : Int)) = 0 := rfl
    simp -implicitDefEqProofs only [go_sem, zS, ↓reduceIte, Za, Zb, Zc, reduceCtorEq, kont_eq, zU, zV, Zf, Zg, Zh, Zi, Zd, Ze, zF, hv.isSl, hv.len, w8_len, e0, d1, d2, Bool.not_false, false_imp_iff, forall_const]
    exact good (by simp) (fun h => absurd rfl h) _ (by simp -implicitDefEqProofs only [go_sem, zS, ↓reduceIte, Za, Zb, Zc, reduceCtorEq, kont_eq, zU, zV, Zf, Zg, Zh, Zi, Zd, Ze]) (by simp -implicitDefEqProofs only [go_sem, zS, ↓reduceIte, Za, Zb, Zc, reduceCtorEq, kont_eq, zU, zV, Zf, Zg, Zh, Zi, Zd, Ze])
  have hpos : 0 < l.length := List.length_pos_iff.2 h0
  have d2 : decide ((l.length : Int) > 0) = true := decide_eq_true (by omega)
  obtain ⟨vb, vo, vc', rfl, hvc, hcell⟩ := hv1.cells (by intro e; have h := congrArg List.length e; rw [w8_len, List.length_nil] at h; omega)
  rw [w8_len] at hcell hvc hv1 good
  have hci := hcell (l.length - 1) (by omega)
  rw [w8_get _ _ (by omega)] at hci
  have w1 : IntKind.i64.wrap ((l.length : Int) - 1) = ((l.length - 1 : Nat) : Int) := by rw [IntWalk.i64_in _ (by omega)]; omega
  have hlast : l.getLast h0 = l.getD (l.length - 1) 0 := by rw [List.getLast_eq_getElem, List.getD_eq_getElem?_getD, List.getElem?_eq_getElem (by omega)]; rfl
  by_cases hz : l.getD (l.length - 1) 0 = 0
  · have d3 : (((l.getD (l.length - 1) 0).toNat : Int) == 0) = true := by rw [hz]; rfl
    rw [hr]
    simp -implicitDefEqProofs only [go_sem, zS, ↓reduceIte, Za, Zb, Zc, reduceCtorEq, kont_eq, zU, zV, Zf, Zg, Zh, Zi, Zd, Ze, zF, w8_len, d1, d2, d3, w1, tn_cast, hci, false_imp_iff, forall_const, t2, fillV_nil, L.ldNO 1 rfl]
    exact ⟨by omega, bad fun h => h.2 h0 (hlast.trans hz)⟩
  · have d3 : (((l.getD (l.length - 1) 0).toNat : Int) == 0) = false := by
      rw [beq_eq_false_iff_ne]
      intro e
      exact hz (UInt8.toNat_inj.1 (by rw [show (0 : UInt8).toNat = 0 by rfl]; omega))
    simp -implicitDefEqProofs only [go_sem, zS, ↓reduceIte, Za, Zb, Zc, reduceCtorEq, kont_eq, zU, zV, Zf, Zg, Zh, Zi, Zd, Ze, zF, w8_len, d1, d2, d3, w1, tn_cast, hci, false_imp_iff, forall_const]
    exact ⟨by omega, good (by omega) (fun h => by rw [hlast]; exact hz) _ (by simp -implicitDefEqProofs only [go_sem, zS, ↓reduceIte, Za, Zb, Zc, reduceCtorEq, kont_eq, zU, zV, Zf, Zg, Zh, Zi, Zd, Ze]) (by simp -implicitDefEqProofs only [go_sem, zS, ↓reduceIte, Za, Zb, Zc, reduceCtorEq, kont_eq, zU, zV, Zf, Zg, Zh, Zi, Zd, Ze])⟩
end Go.Mg
namespace Go.Mg
open Go Go.RowKit
set_option linter.unusedSimpArgs false
set_option linter.unusedVariables false
set_option maxRecDepth 100000
def c_wset (ι : Ids) : S :=
  .seq (.reg [.e (.v 3) (.box (ι.t 128) (.v 1))]) (.reg [.p (.t 4) (.mv (.v 0)), .p (.t 5) (.m (.ldn 1 (.v 3))), .e (.t 6) (.call (ι.f 338) [.t 5]), .e (.t 7) (.call (ι.f 58) [.t 4, .t 6])])
def r_wset : List RV := []
def c_ruint (ι : Ids) : S :=
  .seq (.reg [.p (.v 4) (.mv (.c (.int .u64 0)))]) (.seq (.seq (.reg [.p (.t 7) (.mv (.v 0)), .e (.t 8) (.call (ι.f 109) [.t 7]), .p (.v 9) (.not (.t 8))]) (.ite (.v 9) (.seq (.reg [.p (.v 4) (.mv (.c
  (.int .u64 0)))]) .ret) .skip)) (.seq (.reg [.p (.t 11) (.mv (.v 0)), .e (.t 12) (.call (ι.f 111) [.t 11]), .p (.t 10) (.mv (.t 12)), .p (.t 13) (.ext (.t 10) 0), .p (.t 14) (.ext (.t 10) 1), .p (.v
  5) (.mv (.t 13)), .p (.v 6) (.mv (.t 14))]) (.seq (.seq (.reg [.p (.t 15) (.mv (.v 0)), .p (.t 16) (.mv (.v 6)), .p (.t 17) (.cm .eql .i64 (.t 16) (.c (.int .i64 0))), .e (.t 18) (.call (ι.f 110) [.t
  15, .t 17, .c (.int .i64 6)]), .p (.t 19) (.not (.t 18)), .p (.t 20) (.mv (.t 19)), .gp (.t 21) (.t 20) false (.mv (.v 0)), .gp (.t 22) (.t 20) false (.mv (.v 5)), .gp (.t 23) (.t 20) false (.mv (.v
  1)), .gp (.t 24) (.t 20) false (.cm .gtr .u64 (.t 22) (.t 23)), .ge (.t 25) (.t 20) false (.call (ι.f 110) [.t 21, .t 24, .c (.int .i64 2)]), .gp (.t 26) (.t 20) false (.not (.t 25)), .p (.v 27)
  (.pick (.t 20) (.c (.bool true)) (.t 26))]) (.ite (.v 27) (.seq (.reg [.p (.v 4) (.mv (.c (.int .u64 0)))]) .ret) .skip)) (.seq (.reg [.p (.t 28) (.mv (.v 0)), .p (.t 29) (.mv (.v 6)), .e (.t 30)
  (.call (ι.f 112) [.t 28, .t 29])]) (.seq (.reg [.p (.t 31) (.mv (.v 5)), .p (.v 4) (.mv (.t 31))]) .ret)))))
def r_ruint : List RV := [.t 4]
def c_rnum (ι : Ids) : S :=
  .seq (.reg [.p (.v 4) (.mv (.c (.int .i64 0)))]) (.seq (.seq (.reg [.p (.t 5) (.mv (.v 0)), .e (.t 6) (.call (ι.f 109) [.t 5]), .p (.t 7) (.not (.t 6)), .p (.t 8) (.mv (.t 7)), .gp (.t 9) (.t 8) false
  (.mv (.v 0)), .gp (.t 10) (.t 8) false (.mv (.v 1)), .gp (.t 11) (.t 8) false (.cm .lss .i64 (.t 10) (.c (.int .i64 0))), .ge (.t 12) (.t 8) false (.call (ι.f 110) [.t 9, .t 11, .c (.int .i64 1)]),
  .gp (.t 13) (.t 8) false (.not (.t 12)), .p (.v 14) (.pick (.t 8) (.c (.bool true)) (.t 13))]) (.ite (.v 14) (.seq (.reg [.p (.v 4) (.mv (.c (.int .i64 0)))]) .ret) .skip)) (.seq (.reg [.p (.t 15)
  (.mv (.v 0)), .p (.t 16) (.mv (.v 1)), .p (.t 17) (.ii .u64 (.t 16)), .e (.t 18) (.call (ι.f 341) [.t 15, .t 17]), .p (.t 19) (.ii .i64 (.t 18)), .p (.v 4) (.mv (.t 19))]) .ret))
def r_rnum : List RV := [.t 4]
def c_rset (ι : Ids) : S :=
  .seq (.reg [.e (.v 4) (.new (ι.t 128) #[.slice .none 0 0])]) (.seq (.seq (.reg [.p (.t 10) (.mv (.v 0)), .e (.t 11) (.call (ι.f 109) [.t 10]), .p (.v 12) (.not (.t 11))]) (.ite (.v 12) (.seq (.reg [.p
  (.t 13) (.m (.bld #[.slice .none 0 0] [])), .e .no (.stn 1 (.v 4) (.t 13))]) .ret) .skip)) (.seq (.reg [.p (.t 14) (.mv (.v 0)), .p (.t 15) (.nil (.t 14)), .p (.t 16) (.fa 0 (.t 15)), .p (.t 17) (.ld
  (.t 16)), .p (.v 5) (.mv (.t 17))]) (.seq (.reg [.p (.t 19) (.mv (.v 0)), .e (.t 20) (.call (ι.f 114) [.t 19, .c (.int .i64 512)]), .e (.t 21) (.call (ι.f 339) [.t 20]), .p (.t 18) (.mv (.t 21)), .p
  (.t 22) (.ext (.t 18) 0), .p (.t 23) (.ext (.t 18) 1), .e (.v 6) (.new (ι.t 128) #[.slice .none 0 0]), .e .no (.stn 1 (.v 6) (.t 22)), .p (.v 7) (.mv (.t 23))]) (.seq (.seq (.reg [.p (.t 24) (.mv (.v
  0)), .e (.t 25) (.call (ι.f 109) [.t 24]), .p (.v 26) (.not (.t 25))]) (.ite (.v 26) (.seq (.reg [.p (.t 27) (.m (.bld #[.slice .none 0 0] [])), .e .no (.stn 1 (.v 4) (.t 27))]) .ret) .skip)) (.seq
  (.reg [.p (.t 29) (.m (.ldn 1 (.v 6))), .e (.t 30) (.call (ι.f 134) [.t 29]), .p (.t 28) (.mv (.t 30)), .p (.t 31) (.ext (.t 28) 0), .p (.t 32) (.ext (.t 28) 1), .p (.v 8) (.mv (.t 31)), .p (.v 9)
  (.mv (.t 32))]) (.seq (.blk 0 (.seq (.reg [.p (.t 35) (.mv (.v 7)), .p (.t 36) (.cm .neq .i64 (.t 35) (.c (.int .i64 0))), .p (.v 34) (.mv (.t 36))]) (.ite (.v 34) (.reg [.p (.t 37) (.mv (.v 0)), .p
  (.t 38) (.nil (.t 37)), .p (.t 39) (.fa 1 (.t 38)), .e .no (.st (.t 39) (.c (.int .i64 6)))]) (.seq (.reg [.p (.t 41) (.mv (.v 9)), .p (.t 42) (.mv (.t 41)), .gp (.t 43) (.t 42) true (.mv (.v 8)), .gp
  (.t 44) (.t 42) true (.mv (.v 1)), .gp (.t 45) (.t 42) true (.cm .gtr .i64 (.t 43) (.t 44)), .p (.t 46) (.pick (.t 42) (.t 45) (.c (.bool false))), .p (.v 40) (.mv (.t 46))]) (.ite (.v 40) (.reg [.p
  (.t 47) (.mv (.v 0)), .p (.t 48) (.nil (.t 47)), .p (.t 49) (.fa 1 (.t 48)), .e .no (.st (.t 49) (.c (.int .i64 2)))]) (.seq (.reg [.p (.t 33) (.m (.ldn 1 (.v 6))), .e .no (.stn 1 (.v 4) (.t 33))])
  .ret)))))) (.seq (.reg [.p (.t 50) (.mv (.v 0)), .p (.t 51) (.mv (.v 5)), .p (.t 52) (.nil (.t 50)), .p (.t 53) (.fa 0 (.t 52)), .e .no (.st (.t 53) (.t 51))]) (.seq (.reg [.p (.t 54) (.m (.bld
  #[.slice .none 0 0] [])), .e .no (.stn 1 (.v 4) (.t 54))]) .ret))))))))
def r_rset : List RV := [.cn 4 1]
def c_beq (ι : Ids) : S :=
  .seq (.reg [.p (.v 4) (.mv (.c (.bool false)))]) (.seq (.reg [.p (.t 5) (.mv (.v 0)), .p (.t 6) (.m (.b2s (.t 5))), .p (.t 7) (.mv (.v 1)), .p (.t 8) (.m (.b2s (.t 7))), .p (.t 9) (.sc .eql (.t 6) (.t
  8)), .p (.v 4) (.mv (.t 9))]) .ret)
def r_beq : List RV := [.t 4]
def c_rsame (ι : Ids) : S :=
  .seq (.reg [.p (.v 4) (.mv (.c (.bool false)))]) (.seq (.reg [.p (.t 5) (.mv (.v 0)), .p (.t 6) (.m (.b2s (.t 5))), .p (.t 7) (.mv (.v 1)), .p (.t 8) (.m (.b2s (.t 7))), .p (.t 9) (.sc .eql (.t 6) (.t
  8)), .p (.v 4) (.mv (.t 9))]) .ret)
def r_rsame : List RV := [.t 4]
def WSetSpec (P : Program) (k : FuncId) : Prop := ∀ (F : Nat → Prop) (w : Nat) (l m : List UInt8) (p : Nat → Bool) (x : Value) (H : Hp), WrB F H w l → SetM H x p → CanB m → (∀ n, bitL m n = p n) → l.length ≤ 70000000 →
  CallsM P k #[.pointer (some ⟨w, 0, none⟩), x] H fun r H' => r = .tuple #[] ∧ WrB (grow F H H') H' w (l ++ encB m) ∧ Keep F H H'
theorem wset_ok {P : Program} {ι : Ids} {k : FuncId} (hk : FnIs P k (c_wset ι) r_wset 2) (hb : BBytSpec P (ι.f 338)) (hw : WBytesSpec P (ι.f 58)) : WSetSpec P k := by
  intro F w l m p x H hW hx hm hmp hl
  obtain ⟨v, W, rfl, hv⟩ := hx
  have hx : SetM H (.agg #[v]) p := ⟨v, W, rfl, hv⟩
  refine calls_of_vc hk (args := [_, _]) (by simp) ?_
  unfold c_wset r_wset
  simp -implicitDefEqProofs only [go_sem, zS, ↓reduceIte, Za, Zb, Zc, reduceCtorEq, zU, zV, Zf, Zg, Zh, Zi, Zd, Ze, zF]
  refine kont_new fun H1 b1 e1 z1 B1 K1 => ?_
  have B1' : Bl H1 b1 [v] := B1
  have s1 := K1.size
  have hF := hW.bound
  simp -implicitDefEqProofs only [go_sem, zS, ↓reduceIte, Za, Zb, Zc, reduceCtorEq, zU, zV, Zf, Zg, Zh, Zi, Zd, Ze, zF, B1'.ldNO 1 rfl]
  refine (hb p _ H1 (hx.keep0 K1)).mono ?_
  rintro r H2 ⟨⟨l2, O2, c2, b2, n2⟩, o2, K2⟩
  have e2 : l2 = m := canB_inj c2 hm fun n => (b2 n).trans (hmp n).symm
  subst e2
  have K12 := K1.trans K2
  have s2 := K12.size
  rw [kont_eq]
  simp -implicitDefEqProofs only [go_sem, zS, ↓reduceIte, Za, Zb, Zc, reduceCtorEq, zU, zV, Zf, Zg, Zh, Zi, Zd, Ze, zF]
  refine (hw F w l l2 r H2 (hW.keep K12 (by simp)) O2.sl (fun q hq hf => by have := o2 q (O2.slB hq); have := hF q hf; omega) (by omega)).mono ?_
  rintro r H3 ⟨rfl, W3, K3⟩
  rw [kont_eq]
  simp -implicitDefEqProofs only [go_sem, zS, ↓reduceIte, Za, Zb, Zc, reduceCtorEq, kont_eq, zU, zV, Zf, Zg, Zh, Zi, Zd, Ze, zF]
  refine ⟨W3.mono (fun q h => ?_) (fun q h => ?_), K12.any.trans K3⟩
  · rcases h with h | h
    · exact .inl h
    · exact .inr ⟨by omega, h.2⟩
  · have := K3.size
    rcases h with h | h
    · have := hF q h; omega
    · exact h.2
def rdNum (most : Nat) (s : List UInt8 × Int) : Nat × (List UInt8 × Int) :=
  if s.2 ≠ 0 then (0, s) else match dec7 true 0 s.1 with | none => (0, (s.1, 6)) | some (v, r) => if v > most then (0, (s.1, 2)) else (v, (r, 0))
def RUintSpec (P : Program) (k : FuncId) : Prop := ∀ (F : Nat → Prop) (r : Nat) (s : List UInt8 × Int) (most : Nat) (H : Hp), RdB F H r s.1 s.2 → s.1.length ≤ 100000000 → most ≤ 1000000000 → CallsM P k #[.pointer (some ⟨r, 0, none⟩), .int .u64 most] H fun x H' =>
  x = .int .u64 (rdNum most s).1 ∧ RdB F H' r (rdNum most s).2.1 (rdNum most s).2.2 ∧ Keep (fun k => k = r) H H'
theorem ruint_ok {P : Program} {ι : Ids} {k : FuncId} (hk : FnIs P k (c_ruint ι) r_ruint 2) (ho : ROkSpec P (ι.f 109)) (hrf : RRefSpec P (ι.f 110)) (hn : RNumbSpec P (ι.f 111)) (ht : RTakeSpec P (ι.f 112)) : RUintSpec P k := by
  rintro F r ⟨l, e⟩ most H hr hl hm
  refine calls_of_vc hk (args := [_, _]) (by simp) ?_
  unfold c_ruint r_ruint
  simp only at hr hl
  simp -implicitDefEqProofs only [go_sem, zS, ↓reduceIte, Za, Zb, Zc, reduceCtorEq, kont_eq, zU, zV, Zf, Zg, Zh, Zi, Zd, Ze]
  refine (ho _ _ _ _ _ hr).mono ?_
  rintro x H1 ⟨rfl, rfl⟩
  rw [kont_eq]
  by_cases c : e = 0
  case neg =>
    have e1 : (e == 0) = false := by simpa using c
    have : rdNum most (l, e) = (0, (l, e)) := by unfold rdNum; rw [if_pos (by simpa using c)]
    simp -implicitDefEqProofs only [go_sem, zS, ↓reduceIte, Za, Zb, Zc, reduceCtorEq, kont_eq, zU, zV, Zf, Zg, Zh, Zi, Zd, Ze, e1, this, Bool.not_false]
    exact ⟨hr, Keep.refl _ _⟩
  subst c
  have e00 : ((0 : Int) == 0) = true := rfl
  simp -implicitDefEqProofs only [go_sem, zS, ↓reduceIte, Za, Zb, Zc, reduceCtorEq, kont_eq, zU, zV, Zf, Zg, Zh, Zi, Zd, Ze, e00, Bool.not_true]
  refine (hn _ _ _ _ _ hr hl).mono ?_
  rintro x H2' ⟨rfl, rfl⟩
  rw [kont_eq]
  cases hd : dec7 true 0 l with
  | none =>
    have : rdNum most (l, 0) = (0, (l, 6)) := by unfold rdNum; rw [if_neg (by simp), hd]
    rw [decN_none hd, this]
    simp -implicitDefEqProofs only [go_sem, zS, ↓reduceIte, Za, Zb, Zc, reduceCtorEq, kont_eq, zU, zV, Zf, Zg, Zh, Zi, Zd, Ze, e00]
    refine (hrf _ _ _ _ _ _ hr).mono ?_
    rintro x H3 ⟨rfl, R3, K3⟩
    rw [kont_eq]
    simp -implicitDefEqProofs only [go_sem, zS, ↓reduceIte, Za, Zb, Zc, reduceCtorEq, kont_eq, zU, zV, Zf, Zg, Zh, Zi, Zd, Ze] at R3
    simp -implicitDefEqProofs only [go_sem, zS, ↓reduceIte, Za, Zb, Zc, reduceCtorEq, kont_eq, zU, zV, Zf, Zg, Zh, Zi, Zd, Ze, Bool.not_true, Bool.not_false, false_imp_iff, forall_const]
    exact ⟨R3, K3⟩
  | some p =>
    obtain ⟨v, q⟩ := p
    obtain ⟨h1, h2, h3, h4⟩ := decN_some hd
    rw [h1]
    have hq : (((l.length - q.length : Nat) : Int) == 0) = false := by simp; omega
    simp -implicitDefEqProofs only [go_sem, zS, ↓reduceIte, Za, Zb, Zc, reduceCtorEq, kont_eq, zU, zV, Zf, Zg, Zh, Zi, Zd, Ze, hq]
    refine (hrf _ _ _ _ _ _ hr).mono ?_
    rintro x H3 ⟨rfl, R3, K3⟩
    rw [kont_eq]
    simp -implicitDefEqProofs only [go_sem, zS, ↓reduceIte, Za, Zb, Zc, reduceCtorEq, kont_eq, zU, zV, Zf, Zg, Zh, Zi, Zd, Ze] at R3
    have hr0 : rdNum most (l, 0) = if v > most then (0, (l, 2)) else (v, (q, 0)) := by unfold rdNum; rw [if_neg (by simp), hd]
    by_cases cv : v > most
    · have d1 : decide ((v : Int) > (most : Int)) = true := decide_eq_true (by omega)
      rw [hr0, if_pos cv]
      simp -implicitDefEqProofs only [go_sem, zS, ↓reduceIte, Za, Zb, Zc, reduceCtorEq, kont_eq, zU, zV, Zf, Zg, Zh, Zi, Zd, Ze, d1, Bool.not_true, Bool.not_false, false_imp_iff, forall_const]
      refine (hrf _ _ _ _ _ _ R3).mono ?_
      rintro x H4 ⟨rfl, R4, K4⟩
      rw [kont_eq]
      simp -implicitDefEqProofs only [go_sem, zS, ↓reduceIte, Za, Zb, Zc, reduceCtorEq, kont_eq, zU, zV, Zf, Zg, Zh, Zi, Zd, Ze] at R4
      simp -implicitDefEqProofs only [go_sem, zS, ↓reduceIte, Za, Zb, Zc, reduceCtorEq, kont_eq, zU, zV, Zf, Zg, Zh, Zi, Zd, Ze, Bool.not_true, Bool.not_false, false_imp_iff, forall_const]
      exact ⟨R4, K3.trans K4⟩
    · have d1 : decide ((v : Int) > (most : Int)) = false := decide_eq_false (by omega)
      rw [hr0, if_neg cv]
      simp -implicitDefEqProofs only [go_sem, zS, ↓reduceIte, Za, Zb, Zc, reduceCtorEq, kont_eq, zU, zV, Zf, Zg, Zh, Zi, Zd, Ze, d1, Bool.not_true, Bool.not_false, false_imp_iff, forall_const]
      refine (hrf _ _ _ _ _ _ R3).mono ?_
      rintro x H4 ⟨rfl, R4, K4⟩
      rw [kont_eq]
      simp -implicitDefEqProofs only [go_sem, zS, ↓reduceIte, Za, Zb, Zc, reduceCtorEq, kont_eq, zU, zV, Zf, Zg, Zh, Zi, Zd, Ze] at R4
      simp -implicitDefEqProofs only [go_sem, zS, ↓reduceIte, Za, Zb, Zc, reduceCtorEq, kont_eq, zU, zV, Zf, Zg, Zh, Zi, Zd, Ze, Bool.not_true, Bool.not_false, false_imp_iff, forall_const]
      refine (ht _ _ _ _ _ _ R4 (by omega) hl).mono ?_
      rintro x H5 ⟨O5, o5, R5, K5⟩
      rw [kont_eq]
      rw [h3] at R5
      simp -implicitDefEqProofs only [go_sem, zS, ↓reduceIte, Za, Zb, Zc, reduceCtorEq, kont_eq, zU, zV, Zf, Zg, Zh, Zi, Zd, Ze]
      exact ⟨R5, (K3.trans K4).trans K5⟩
def RNumSpec (P : Program) (k : FuncId) : Prop := ∀ (F : Nat → Prop) (r : Nat) (s : List UInt8 × Int) (most : Nat) (H : Hp), RdB F H r s.1 s.2 → s.1.length ≤ 100000000 → most ≤ 1000000000 → CallsM P k #[.pointer (some ⟨r, 0, none⟩), .int .i64 most] H fun x H' =>
  x = .int .i64 (rdNum most s).1 ∧ RdB F H' r (rdNum most s).2.1 (rdNum most s).2.2 ∧ Keep (fun k => k = r) H H'
theorem rdNum_le (most : Nat) (s : List UInt8 × Int) : (rdNum most s).1 ≤ most := by
  unfold rdNum
  split
  · omega
  · split
    · simp only; omega
    · split
      · simp only; omega
      · simp only; omega
theorem rnum_ok {P : Program} {ι : Ids} {k : FuncId} (hk : FnIs P k (c_rnum ι) r_rnum 2) (ho : ROkSpec P (ι.f 109)) (hrf : RRefSpec P (ι.f 110)) (hu : RUintSpec P (ι.f 341)) : RNumSpec P k := by
  rintro F r ⟨l, e⟩ most H hr hl hm
  refine calls_of_vc hk (args := [_, _]) (by simp) ?_
  unfold c_rnum r_rnum
  simp only at hr hl
  simp -implicitDefEqProofs only [go_sem, zS, ↓reduceIte, Za, Zb, Zc, reduceCtorEq, kont_eq, zU, zV, Zf, Zg, Zh, Zi, Zd, Ze]
  refine (ho _ _ _ _ _ hr).mono ?_
  rintro x H1 ⟨rfl, rfl⟩
  rw [kont_eq]
  by_cases c : e = 0
  case neg =>
    have e1 : (e == 0) = false := by simpa using c
    have : rdNum most (l, e) = (0, (l, e)) := by unfold rdNum; rw [if_pos (by simpa using c)]
    simp -implicitDefEqProofs only [go_sem, zS, ↓reduceIte, Za, Zb, Zc, reduceCtorEq, kont_eq, zU, zV, Zf, Zg, Zh, Zi, Zd, Ze, e1, this, Bool.not_false, Bool.not_true, false_imp_iff, forall_const]
    exact ⟨hr, Keep.refl _ _⟩
  subst c
  have e00 : ((0 : Int) == 0) = true := rfl
  have d1 : decide ((most : Int) < 0) = false := decide_eq_false (by omega)
  simp -implicitDefEqProofs only [go_sem, zS, ↓reduceIte, Za, Zb, Zc, reduceCtorEq, kont_eq, zU, zV, Zf, Zg, Zh, Zi, Zd, Ze, e00, d1, Bool.not_true, Bool.not_false, false_imp_iff, forall_const]
  refine (hrf _ _ _ _ _ _ hr).mono ?_
  rintro x H2 ⟨rfl, R2, K2⟩
  rw [kont_eq]
  simp only [Bool.false_eq_true, if_false] at R2
  have wm : IntKind.u64.wrap (most : Int) = (most : Int) := by rw [IntKind.wrap_u64]; omega
  have hle := rdNum_le most (l, 0)
  have wv : IntKind.i64.wrap ((rdNum most (l, 0)).1 : Int) = ((rdNum most (l, 0)).1 : Int) := IntWalk.i64_in _ ⟨by omega, by omega⟩
  simp -implicitDefEqProofs only [go_sem, zS, ↓reduceIte, Za, Zb, Zc, reduceCtorEq, kont_eq, zU, zV, Zf, Zg, Zh, Zi, Zd, Ze, wm, Bool.not_true, Bool.not_false, false_imp_iff, forall_const]
  refine (hu F r (l, 0) most H2 R2 hl hm).mono ?_
  rintro x H3 ⟨rfl, R3, K3⟩
  rw [kont_eq]
  simp -implicitDefEqProofs only [go_sem, zS, ↓reduceIte, Za, Zb, Zc, reduceCtorEq, kont_eq, zU, zV, Zf, Zg, Zh, Zi, Zd, Ze, wv]
  exact ⟨R3, K2.trans K3⟩
def BEqSpec (P : Program) (k : FuncId) : Prop := ∀ (a b : List UInt8) (v w : Value) (H : Hp), SlR H v (w8 a) → SlR H w (w8 b) → CallsM P k #[v, w] H fun r H' => r = .bool (decide (a = b)) ∧ H' = H
theorem beq_ok {P : Program} {ι : Ids} {k : FuncId} (hk : FnIs P k (c_beq ι) r_beq 2) : BEqSpec P k := by
  intro a b v w H hv hw
  refine calls_of_vc hk (args := [_, _]) (by simp) ?_
  unfold c_beq r_beq
  simp -implicitDefEqProofs only [go_sem, zS, ↓reduceIte, Za, Zb, Zc, reduceCtorEq, kont_eq, zU, zV, Zf, Zg, Zh, Zi, Zd, Ze, hv.bytesIn, hw.bytesIn, toBA_w8, ba_tlb]
  exact ⟨okB2s_w8 hv.bytesIn, okB2s_w8 hw.bytesIn⟩
theorem rsame_ok {P : Program} {ι : Ids} {k : FuncId} (hk : FnIs P k (c_rsame ι) r_rsame 2) : BEqSpec P k := by
  intro a b v w H hv hw
  refine calls_of_vc hk (args := [_, _]) (by simp) ?_
  unfold c_rsame r_rsame
  simp -implicitDefEqProofs only [go_sem, zS, ↓reduceIte, Za, Zb, Zc, reduceCtorEq, kont_eq, zU, zV, Zf, Zg, Zh, Zi, Zd, Ze, hv.bytesIn, hw.bytesIn, toBA_w8, ba_tlb]
  exact ⟨okB2s_w8 hv.bytesIn, okB2s_w8 hw.bytesIn⟩
open Classical in
noncomputable def rdSt (most : Nat) (s : List UInt8 × Int) : List UInt8 × (List UInt8 × Int) :=
  if s.2 ≠ 0 then ([], s) else if (rdByt 512 s).2.2 ≠ 0 then ([], (rdByt 512 s).2) else if ¬ CanB (rdByt 512 s).1 then ([], (s.1, 6)) else if ∃ n, bitL (rdByt 512 s).1 n = true ∧ most < n then ([], (s.1, 2)) else (rdByt 512 s)
theorem rdByt_len (most : Nat) (s : List UInt8 × Int) : (rdByt most s).1.length ≤ most := by
  unfold rdByt
  split
  · simp
  · split
    · simp
    · split
      · simp
      · split
        · simp
        · simp only [List.length_take]; omega
theorem bitL_nil (n : Nat) : bitL [] n = false := bitL_ge (by simp)
def RSetSpec (P : Program) (k : FuncId) : Prop := ∀ (F : Nat → Prop) (r : Nat) (s : List UInt8 × Int) (most : Nat) (H : Hp), RdB F H r s.1 s.2 → s.1.length ≤ 100000000 → most ≤ 1000000000 → CallsM P k #[.pointer (some ⟨r, 0, none⟩), .int .i64 most] H fun x H' =>
  SetM H' x (bitL (rdSt most s).1) ∧ (∀ q, setB x q → H.size ≤ q) ∧ RdB F H' r (rdSt most s).2.1 (rdSt most s).2.2 ∧ Keep (fun k => k = r) H H'
theorem rset_ok {P : Program} {ι : Ids} {k : FuncId} (hk : FnIs P k (c_rset ι) r_rset 2) (ho : ROkSpec P (ι.f 109)) (hb : RBytSpec P (ι.f 114)) (hr0 : BRdSpec P (ι.f 339)) (hg : BGreatSpec P (ι.f 134)) : RSetSpec P k := by
  rintro F r ⟨l, e⟩ most H hr hl hm
  obtain ⟨Q, hQ⟩ : ∃ Q : Value → Hp → Prop, Q = fun x H' => SetM H' x (bitL (rdSt most (l, e)).1) ∧ (∀ q, setB x q → H.size ≤ q) ∧ RdB F H' r (rdSt most (l, e)).2.1 (rdSt most (l, e)).2.2 ∧ Keep (fun k => k = r) H H' := ⟨_, rfl⟩
  rw [← hQ]
  refine calls_of_vc hk (args := [_, _]) (by simp) ?_
  unfold c_rset r_rset
  simp only at hr hl
  simp -implicitDefEqProofs only [go_sem, zS, ↓reduceIte, Za, Zb, Zc, reduceCtorEq, zU, zV, Zf, Zg, Zh, Zi, Zd, Ze, zF]
  refine kont_new fun H1 b4 e1 z1 B4 K1 => ?_
  have B4' : Bl H1 b4 [.slice none 0 0] := B4
  have s1 := K1.size
  have hr1 := hr.keep K1 (by simp)
  have hF := hr.bound
  -- the empty set is given back
  have empty : ∀ (A : Hp) (u : Value), Bl A b4 [u] → Keep (fun q => q = r) H1 A → (rdSt most (l, e)).1 = [] → RdB F A r (rdSt most (l, e)).2.1 (rdSt most (l, e)).2.2 →
      (okNA A ⟨b4, 0, none⟩ 1 ∧ all1 #[Value.slice none 0 0]) ∧ (ldNO (stNA A ⟨b4, 0, none⟩ [.slice none 0 0]) (.pointer (some ⟨b4, 0, none⟩)) 1).isSome = true ∧ Q (.agg ((ldNO (stNA A ⟨b4, 0, none⟩ [.slice none 0 0]) (.pointer (some ⟨b4, 0, none⟩)) 1).getD #[])) (stNA A ⟨b4, 0, none⟩ [.slice none 0 0]) := fun A u B K h1 hR =>
    ret1 B (all1_of rfl) fun H' z' K' => by
      rw [hQ]
      refine ⟨?_, fun q hq => ?_, hR.keep K' fun q hq e => by have := hF q hq; omega, (K1.any.trans K).trans' K' fun q hq e => by omega⟩
      · rw [h1]; exact (SetM.empty _ none 0).congr fun n => (bitL_nil n).symm
      · simp [setB, slB] at hq
  simp -implicitDefEqProofs only [go_sem, zS, ↓reduceIte, Za, Zb, Zc, reduceCtorEq, zU, zV, Zf, Zg, Zh, Zi, Zd, Ze, zF]
  refine (ho _ _ _ _ _ hr1).mono ?_
  rintro x A1 ⟨rfl, rfl⟩
  rw [kont_eq]
  by_cases c : e = 0
  case neg =>
    have e1 : (e == 0) = false := by simpa using c
    have : rdSt most (l, e) = ([], (l, e)) := by unfold rdSt; rw [if_pos (by simpa using c)]
    simp -implicitDefEqProofs only [go_sem, zS, ↓reduceIte, Za, Zb, Zc, reduceCtorEq, kont_eq, zU, zV, Zf, Zg, Zh, Zi, Zd, Ze, zF, e1, Bool.not_false, fillV_nil]
    exact empty A1 _ B4' (Keep.refl _ _) (by rw [this]) (by rw [this]; exact hr1)
  subst c
  have e00 : ((0 : Int) == 0) = true := rfl
  have hr1' := hr1
  obtain ⟨v, B, S, f1, f2, f3⟩ := hr1'
  have c0 : cell A1 ⟨r, 0, none⟩ = some v := by rw [B.cell]; rfl
  simp -implicitDefEqProofs only [go_sem, zS, ↓reduceIte, Za, Zb, Zc, reduceCtorEq, zU, zV, Zf, Zg, Zh, Zi, Zd, Ze, zF, e00, Bool.not_true, c0]
  refine (hb F r (l, 0) 512 A1 hr1 hl (by omega)).mono ?_
  rintro lv A2 ⟨O2, o2, R2, K2⟩
  have hlen := rdByt_len 512 (l, 0)
  rw [kont_eq]
  simp -implicitDefEqProofs only [go_sem, zS, ↓reduceIte, Za, Zb, Zc, reduceCtorEq, zU, zV, Zf, Zg, Zh, Zi, Zd, Ze, zF]
  refine (hr0 (rdByt 512 (l, 0)).1 lv A2 O2.sl (by omega)).mono ?_
  rintro x A3 ⟨hx, K3⟩
  have K13 := K2.trans K3.any
  have R3 := R2.keep K3 (by simp)
  have s13 := K13.size
  obtain ⟨sv, e7, rfl, hsv, hse⟩ : ∃ sv e7, x = .tuple #[.agg #[sv], .int .i64 e7] ∧ (∃ p, SetM A3 (.agg #[sv]) p) ∧ ((e7 = 0 ∧ CanB (rdByt 512 (l, 0)).1 ∧ SetM A3 (.agg #[sv]) (bitL (rdByt 512 (l, 0)).1) ∧ ∀ q, slB sv q → A2.size ≤ q) ∨ (e7 = 6 ∧ ¬ CanB (rdByt 512 (l, 0)).1)) := by
    rcases hx with ⟨_, h2, sv, rfl, h4, h5⟩ | ⟨h1, rfl⟩
    · exact ⟨sv, 0, rfl, ⟨_, h4⟩, .inl ⟨rfl, h2, h4, h5⟩⟩
    · exact ⟨_, 6, rfl, ⟨_, SetM.empty _ none 0⟩, .inr ⟨rfl, fun h => h1 ⟨hlen, h⟩⟩⟩
  have one : sv.oneCell' = true := by
    obtain ⟨p, _, W, e, hV⟩ := hsv
    cases e
    exact all1_sl hV.sl.isSl
  rw [kont_eq]
  simp -implicitDefEqProofs only [go_sem, zS, ↓reduceIte, Za, Zb, Zc, reduceCtorEq, zU, zV, Zf, Zg, Zh, Zi, Zd, Ze, zF]
  refine kont_newst [sv] (by simp -implicitDefEqProofs only [go_sem, zS, ↓reduceIte, Za, Zb, Zc, reduceCtorEq, kont_eq, zU, zV, Zf, Zg, Zh, Zi, Zd, Ze]) rfl rfl (by simp [one]) fun A4 b6 e6 z6 B6 K4 => ?_
  have K14 := K13.trans K4.any
  have R4 := R3.keep K4 (by simp)
  have B44 := K14.bl B4' (by have := hF r f1; omega)
  simp -implicitDefEqProofs only [go_sem, zS, ↓reduceIte, Za, Zb, Zc, reduceCtorEq, zU, zV, Zf, Zg, Zh, Zi, Zd, Ze, zF]
  refine (ho _ _ _ _ _ R4).mono ?_
  rintro x A5 ⟨rfl, rfl⟩
  rw [kont_eq]
  by_cases c2 : (rdByt 512 (l, 0)).2.2 = 0
  case neg =>
    have e1 : ((rdByt 512 (l, 0)).2.2 == 0) = false := by simpa using c2
    have : rdSt most (l, 0) = ([], (rdByt 512 (l, 0)).2) := by unfold rdSt; rw [if_neg (by simp), if_pos c2]
    simp -implicitDefEqProofs only [go_sem, zS, ↓reduceIte, Za, Zb, Zc, reduceCtorEq, kont_eq, zU, zV, Zf, Zg, Zh, Zi, Zd, Ze, zF, e1, Bool.not_false, fillV_nil]
    exact empty A5 _ B44 K14 (by rw [this]) (by rw [this]; exact R4)
  have e1 : ((rdByt 512 (l, 0)).2.2 == 0) = true := by simpa using c2
  obtain ⟨p, hp⟩ := hsv
  simp -implicitDefEqProofs only [go_sem, zS, ↓reduceIte, Za, Zb, Zc, reduceCtorEq, zU, zV, Zf, Zg, Zh, Zi, Zd, Ze, zF, e1, Bool.not_true, B6.ldNO 1 rfl]
  refine (hg p _ A5 (hp.keep0 K4)).mono ?_
  rintro x A6 ⟨hx6, K6⟩
  have K16 := K14.trans K6.any
  have R6 := R4.keep K6 (by simp)
  have B46 := K6.bl B44 (by simp)
  have B66 := K6.bl B6 (by simp)
  -- the error e2 is set, and what was read is put back
  have back : ∀ (e2 : Int) (g : Fr), g 0 = .pointer (some ⟨r, 0, none⟩) → ∃ u, Bl A6 r [u, .int .i64 0] ∧ (okSt A6 (.pointer (some ⟨r, 1, none⟩)) ∧ okSt (setc A6 ⟨r, 1, none⟩ (.int .i64 e2)) (.pointer (some ⟨r, 0, none⟩))) ∧ RdB F (setc (setc A6 ⟨r, 1, none⟩ (.int .i64 e2)) ⟨r, 0, none⟩ v) r l e2 ∧ Keep (fun q => q = r) A6 (setc (setc A6 ⟨r, 1, none⟩ (.int .i64 e2)) ⟨r, 0, none⟩ v) := fun e2 g g0 => by
    obtain ⟨u, Bu, Su, _⟩ := R6
    rw [c2] at Bu
    have k1 : Keep (fun q => q = r) A6 (setc A6 ⟨r, 1, none⟩ (.int .i64 e2)) := (Keep.refl _ _).setc _ (.inl rfl)
    have Bu2 := Bu.setc 1 (.int .i64 e2)
    have k2 : Keep (fun q => q = r) (setc A6 ⟨r, 1, none⟩ (.int .i64 e2)) (setc (setc A6 ⟨r, 1, none⟩ (.int .i64 e2)) ⟨r, 0, none⟩ v) := (Keep.refl _ _).setc _ (.inl rfl)
    have KK := k1.trans k2
    refine ⟨u, Bu, ⟨Bu.okSt (o := 1) (by simp), Bu2.okSt (o := 0) (by simp)⟩, ⟨v, Bu2.setc 0 v, (S.keep K16 fun q hq => (f2 q hq).2).keep KK fun q hq => (f2 q hq).2, f1, f2, fun q hq => ?_⟩, KK⟩
    have := f3 q hq
    have := K16.size
    have := KK.size
    omega
  have v1 : v.oneCell' = true := all1_sl S.isSl
  have t4 := fun (A : Hp) (K : Keep (fun q => q = r) A6 A) => K.bl B46 (show ¬ b4 = r by have := hF r f1; omega)
  rw [kont_eq]
  -- what was read is no set, or too great
  have fail : ∀ (e2 : Int), rdSt most (l, 0) = ([], (l, e2)) → ∃ u, Bl A6 r [u, .int .i64 0] ∧ (okSt A6 (.pointer (some ⟨r, 1, none⟩)) ∧ okSt (setc A6 ⟨r, 1, none⟩ (.int .i64 e2)) (.pointer (some ⟨r, 0, none⟩))) ∧
      ((okNA (setc (setc A6 ⟨r, 1, none⟩ (.int .i64 e2)) ⟨r, 0, none⟩ v) ⟨b4, 0, none⟩ 1 ∧ all1 #[Value.slice none 0 0]) ∧ (ldNO (stNA (setc (setc A6 ⟨r, 1, none⟩ (.int .i64 e2)) ⟨r, 0, none⟩ v) ⟨b4, 0, none⟩ [.slice none 0 0]) (.pointer (some ⟨b4, 0, none⟩)) 1).isSome = true ∧ Q (.agg ((ldNO (stNA (setc (setc A6 ⟨r, 1, none⟩ (.int .i64 e2)) ⟨r, 0, none⟩ v) ⟨b4, 0, none⟩ [.slice none 0 0]) (.pointer (some ⟨b4, 0, none⟩)) 1).getD #[])) (stNA (setc (setc A6 ⟨r, 1, none⟩ (.int .i64 e2)) ⟨r, 0, none⟩ v) ⟨b4, 0, none⟩ [.slice none 0 0])) := fun e2 he => by
    obtain ⟨u, Bu, oks, RR, KK⟩ := back e2 (fun _ => .pointer (some ⟨r, 0, none⟩)) rfl
    exact ⟨u, Bu, oks, empty _ _ (t4 _ KK) (K16.trans KK) (by rw [he]) (by rw [he]; exact RR)⟩
  rcases hse with ⟨rfl, hcan, hS, hfr⟩ | ⟨rfl, hcan⟩
  · have hS6 := hS.keep0 (K4.trans K6)
    have e70 : ((0 : Int) != 0) = false := rfl
    have det : ∀ n, p n = bitL (rdByt 512 (l, 0)).1 n := fun n => hp.det hS n
    have good : (¬ ∃ n, bitL (rdByt 512 (l, 0)).1 n = true ∧ most < n) → (okNA A6 ⟨b4, 0, none⟩ 1 ∧ all1 #[sv]) ∧ (ldNO (stNA A6 ⟨b4, 0, none⟩ [sv]) (.pointer (some ⟨b4, 0, none⟩)) 1).isSome = true ∧ Q (.agg ((ldNO (stNA A6 ⟨b4, 0, none⟩ [sv]) (.pointer (some ⟨b4, 0, none⟩)) 1).getD #[])) (stNA A6 ⟨b4, 0, none⟩ [sv]) := fun hno =>
      ret1 B46 (all1_of (by simp [one])) fun H' z' K' => by
        have he : rdSt most (l, 0) = rdByt 512 (l, 0) := by
          unfold rdSt; rw [if_neg (by simp), if_neg (by simpa using c2), if_neg (not_not_intro hcan), if_neg hno]
        have s2 := K2.size
        rw [hQ, he]
        exact ⟨hS6.keep K' fun q hq e => by have : A2.size ≤ q := hfr q hq; omega, fun q hq => by have : A2.size ≤ q := hfr q hq; omega, R6.keep K' fun q hq e => by have := hF q hq; omega, (K1.any.trans K16).trans' K' fun q hq e => by omega⟩
    rcases hx6 with ⟨rfl, hno⟩ | ⟨t, rfl, ht⟩
    · simp -implicitDefEqProofs only [go_sem, zS, ↓reduceIte, Za, Zb, Zc, reduceCtorEq, kont_eq, zU, zV, Zf, Zg, Zh, Zi, Zd, Ze, zF, e70, B66.ldNO 1 rfl, false_imp_iff, forall_const]
      exact good fun ⟨n, h1, _⟩ => by rw [← det, hno] at h1; cases h1
    · by_cases hgt : (t : Int) > (most : Int)
      · have d1 : decide ((t : Int) > (most : Int)) = true := decide_eq_true hgt
        obtain ⟨u, Bu, oks, hend⟩ := fail 2 (by
          unfold rdSt; rw [if_neg (by simp), if_neg (by simpa using c2), if_neg (not_not_intro hcan), if_pos ⟨t, by rw [← det]; exact ht.1, by omega⟩])
        simp -implicitDefEqProofs only [go_sem, zS, ↓reduceIte, Za, Zb, Zc, reduceCtorEq, kont_eq, zU, zV, Zf, Zg, Zh, Zi, Zd, Ze] at oks
        simp -implicitDefEqProofs only [go_sem, zS, ↓reduceIte, Za, Zb, Zc, reduceCtorEq, kont_eq, zU, zV, Zf, Zg, Zh, Zi, Zd, Ze, zF, e70, d1, false_imp_iff, forall_const, oks, v1, fillV_nil]
        exact ⟨v1, hend⟩
      · have d1 : decide ((t : Int) > (most : Int)) = false := decide_eq_false hgt
        simp -implicitDefEqProofs only [go_sem, zS, ↓reduceIte, Za, Zb, Zc, reduceCtorEq, kont_eq, zU, zV, Zf, Zg, Zh, Zi, Zd, Ze, zF, e70, d1, B66.ldNO 1 rfl, false_imp_iff, forall_const]
        exact good fun ⟨n, h1, h2⟩ => by
          rw [← det] at h1
          have := ht.2 n h1
          omega
  · have e70 : ((6 : Int) != 0) = true := rfl
    obtain ⟨u, Bu, oks, hend⟩ := fail 6 (by
      unfold rdSt; rw [if_neg (by simp), if_neg (by simpa using c2), if_pos hcan])
    simp -implicitDefEqProofs only [go_sem, zS, ↓reduceIte, Za, Zb, Zc, reduceCtorEq, kont_eq, zU, zV, Zf, Zg, Zh, Zi, Zd, Ze] at oks
    rcases hx6 with ⟨rfl, hno⟩ | ⟨t, rfl, ht⟩
    all_goals
      simp -implicitDefEqProofs only [go_sem, zS, ↓reduceIte, Za, Zb, Zc, reduceCtorEq, kont_eq, zU, zV, Zf, Zg, Zh, Zi, Zd, Ze, zF, e70, false_imp_iff, forall_const, oks, v1, fillV_nil]
      exact ⟨v1, hend⟩
end Go.Mg
namespace Go.Mg
open Go Go.RowKit
set_option linter.unusedSimpArgs false
set_option linter.unusedVariables false
set_option maxRecDepth 100000
def c_rsetb (ι : Ids) : S :=
  .seq (.reg [.p (.v 2) (.mv (.c (.slice .none 0 0)))]) (.seq (.reg [.p (.v 3) (.mv (.c (.int .i64 (-1))))]) (.seq (.seq (.reg [.p (.v 9) (.mv (.v 0)), .p (.v 10) (.m (.lenl (.v 9))), .p (.v 11) (.mv
  (.c (.int .i64 0)))]) (.blk 0 (.loop (.seq (.reg [.p (.v 12) (.cm .lss .i64 (.v 11) (.v 10))]) (.seq (.ite (.v 12) .skip (.exit 0)) (.seq (.blk 1 (.seq (.reg [.p (.t 13) (.is 1 (.v 9) (.v 11)), .p (.t
  14) (.ld (.t 13)), .p (.v 5) (.mv (.t 14))]) (.seq (.reg [.p (.t 15) (.mv (.v 5)), .p (.t 16) (.mv (.v 3)), .p (.v 17) (.cm .gtr .i64 (.t 15) (.t 16))]) (.ite (.v 17) (.reg [.p (.t 18) (.mv (.v 5)),
  .p (.v 3) (.mv (.t 18))]) .skip)))) (.reg [.p (.t 19) (.ar .add .i64 (.v 11) (.c (.int .i64 1))), .p (.v 11) (.mv (.t 19))]))))))) (.seq (.seq (.reg [.p (.t 20) (.mv (.v 3)), .p (.v 21) (.cm .lss .i64
  (.t 20) (.c (.int .i64 0)))]) (.ite (.v 21) (.seq (.reg [.p (.v 2) (.mv (.c (.slice .none 0 0)))]) .ret) .skip)) (.seq (.reg [.p (.t 22) (.mv (.v 3)), .p (.t 23) (.dv .quo .i64 (.t 22) (.c (.int .i64
  8))), .p (.t 24) (.ar .add .i64 (.t 23) (.c (.int .i64 1))), .e (.t 25) (.mkS (ι.t 19) 1 1 #[.int .u8 0] (.t 24) (.t 24)), .p (.v 6) (.mv (.t 25))]) (.seq (.seq (.reg [.p (.v 26) (.mv (.v 0)), .p (.v
  27) (.m (.lenl (.v 26))), .p (.v 28) (.mv (.c (.int .i64 0)))]) (.blk 2 (.loop (.seq (.reg [.p (.v 29) (.cm .lss .i64 (.v 28) (.v 27))]) (.seq (.ite (.v 29) .skip (.exit 2)) (.seq (.blk 3 (.seq (.reg
  [.p (.t 30) (.is 1 (.v 26) (.v 28)), .p (.t 31) (.ld (.t 30)), .p (.v 8) (.mv (.t 31))]) (.reg [.p (.t 32) (.mv (.v 6)), .p (.t 33) (.mv (.v 8)), .p (.t 34) (.dv .quo .i64 (.t 33) (.c (.int .i64 8))),
  .p (.t 35) (.mv (.v 6)), .p (.t 36) (.mv (.v 8)), .p (.t 37) (.dv .quo .i64 (.t 36) (.c (.int .i64 8))), .p (.t 38) (.is 1 (.t 35) (.t 37)), .p (.t 39) (.ld (.t 38)), .p (.t 40) (.mv (.v 8)), .p (.t
  41) (.dv .rem .i64 (.t 40) (.c (.int .i64 8))), .p (.t 42) (.ii .u64 (.t 41)), .p (.t 43) (.sh .shl .u8 (.c (.int .u8 1)) (.t 42)), .p (.t 44) (.bt .or .u8 (.t 39) (.t 43)), .p (.t 45) (.is 1 (.t 32)
  (.t 34)), .e .no (.st (.t 45) (.t 44))]))) (.reg [.p (.t 46) (.ar .add .i64 (.v 28) (.c (.int .i64 1))), .p (.v 28) (.mv (.t 46))]))))))) (.seq (.reg [.p (.t 47) (.mv (.v 6)), .p (.v 2) (.mv (.t
  47))]) .ret))))))
def r_rsetb : List RV := [.t 2]
def c_rputset (ι : Ids) : S :=
  .seq (.reg [.p (.v 2) (.mv (.c (.slice .none 0 0)))]) (.seq (.reg [.p (.t 3) (.mv (.v 0)), .e (.t 4) (.call (ι.f 346) [.t 3]), .e (.t 5) (.call (ι.f 62) [.t 4]), .p (.v 2) (.mv (.t 5))]) .ret)
def r_rputset : List RV := [.t 2]
theorem bits_or8 (x y : UInt8) : bits .or .u8 (x.toNat : Int) (y.toNat : Int) = ((x ||| y).toNat : Int) := by
  have hb : ∀ z : UInt8, BitVec.ofInt 8 (z.toNat : Int) = z.toBitVec := fun z => by
    apply BitVec.eq_of_toNat_eq
    simp
  show IntKind.u8.wrap ((BitVec.ofInt 8 (x.toNat : Int) ||| BitVec.ofInt 8 (y.toNat : Int)).toNat : Int) = _
  rw [hb, hb]
  have := (x ||| y).toNat_lt
  show (((x ||| y).toNat : Nat) : Int) % 256 = _
  omega
theorem shl_u8 : ∀ k : Fin 8, IntKind.u8.wrap (1 * 2 ^ k.val) = ((UInt8.ofNat (2 ^ k.val)).toNat : Int) := by decide +kernel
theorem bit_or8 (x : UInt8) {k : Nat} (hk : k < 8) (b : Nat) : (x ||| UInt8.ofNat (2 ^ k)).toNat.testBit b = (x.toNat.testBit b || decide (b = k)) := by
  rw [UInt8.toNat_or, Nat.testBit_or, UInt8.toNat_ofNat', Nat.mod_eq_of_lt (Nat.pow_lt_pow_right (by omega) hk), Nat.testBit_two_pow]
  congr 1
  by_cases e : k = b
  · subst e; simp
  · have : b ≠ k := fun h => e h.symm
    simp [e, this]
theorem bitL_set {l : List UInt8} {m : Nat} (h : m / 8 < l.length) (n : Nat) : bitL (l.set (m / 8) (l.getD (m / 8) 0 ||| UInt8.ofNat (2 ^ (m % 8)))) n = (bitL l n || decide (n = m)) := by
  unfold bitL
  by_cases e : n / 8 = m / 8
  · rw [e, List.getD_eq_getElem?_getD, List.getElem?_set_self h, Option.getD_some, bit_or8 _ (by omega)]
    congr 1
    rw [decide_eq_decide]; omega
  · rw [List.getD_eq_getElem?_getD, List.getElem?_set_ne (fun h => e h.symm), ← List.getD_eq_getElem?_getD, decide_eq_false (show ¬ n = m by intro h; exact e (by rw [h])), Bool.or_false]
def RSetBSpec (P : Program) (k : FuncId) : Prop := ∀ (ns : List Nat) (v : Value) (H : Hp), SlR H v (iN ns) → ns.length ≤ 1000000 → (∀ n ∈ ns, n < 4096) → CallsM P k #[v] H fun r H' => (∃ l, OwS H' r (w8 l) ∧ CanB l ∧ (∀ n, bitL l n = decide (n ∈ ns)) ∧ l.length ≤ 512) ∧ (∀ q, ownB r q → H.size ≤ q) ∧ Keep (fun _ => False) H H'
theorem take_mem {ns : List Nat} {i : Nat} (hi : i < ns.length) (n : Nat) : n ∈ ns.take (i + 1) ↔ n ∈ ns.take i ∨ n = ns[i] := by
  rw [List.take_succ_eq_append_getElem hi, List.mem_append, List.mem_singleton]
theorem rsetb_ok {P : Program} {ι : Ids} {k : FuncId} (hk : FnIs P k (c_rsetb ι) r_rsetb 1) : RSetBSpec P k := by
  intro ns v H hv hl hn
  obtain ⟨Q, hQ⟩ : ∃ Q : Value → Hp → Prop, Q = fun r H' => (∃ l, OwS H' r (w8 l) ∧ CanB l ∧ (∀ n, bitL l n = decide (n ∈ ns)) ∧ l.length ≤ 512) ∧ (∀ q, ownB r q → H.size ≤ q) ∧ Keep (fun _ => False) H H' := ⟨_, rfl⟩
  rw [← hQ]
  refine calls_of_vc hk (args := [_]) (by simp) ?_
  unfold c_rsetb r_rsetb
  have hlen : lenV v = ns.length := by rw [hv.len, iN_len]
  have cell : ∀ i, (hi : i < ns.length) → ∃ b o c, v = .slice (some ⟨b, o, none⟩) ns.length c ∧ ∀ A, Keep (fun _ => False) H A → cell A ⟨b, o + i, none⟩ = some (.int .i64 (ns[i] : Nat)) := fun i hi => by
    obtain ⟨b, o, c, rfl, _, hc⟩ := hv.cells (by intro e; have h := congrArg List.length e; rw [iN_len, List.length_nil] at h; omega)
    rw [iN_len] at hc ⊢
    refine ⟨b, o, c, rfl, fun A hA => ?_⟩
    have := (hv.keep hA (by simp)).cell_at (i := i) (by rw [iN_len]; exact hi)
    rw [this]
    simp [iN, iL, hi]
  simp -implicitDefEqProofs only [go_sem, zS, ↓reduceIte, Za, Zb, Zc, reduceCtorEq, zU, zV, Zf, Zg, Zh, Zi, Zd, Ze, zF, hv.isSl, hlen]
  refine vc_range ns.length [12, 5, 17, 3, 11] rfl rfl (by omega) (by simp -implicitDefEqProofs only [go_sem, zS, ↓reduceIte, Za, Zb, Zc, reduceCtorEq, kont_eq, zU, zV, Zf, Zg, Zh, Zi, Zd, Ze]) (by simp -implicitDefEqProofs only [go_sem, zS, ↓reduceIte, Za, Zb, Zc, reduceCtorEq, kont_eq, zU, zV, Zf, Zg, Zh, Zi, Zd, Ze]) (fun i g A => ∃ t : Int, g 3 = .int .i64 t ∧ -1 ≤ t ∧ t < 4096 ∧ (∀ n ∈ ns.take i, (n : Int) ≤ t) ∧ (t = -1 ∨ ∃ n ∈ ns.take i, (n : Int) = t) ∧ A = H) ⟨-1, by simp -implicitDefEqProofs only [go_sem, zS, ↓reduceIte, Za, Zb, Zc, reduceCtorEq, kont_eq, zU, zV, Zf, Zg, Zh, Zi, Zd, Ze], by omega, by omega, by simp, .inl rfl, rfl⟩ ?_ ?_
  · rintro i g A hi gi gn ⟨t, g3, h1, h2, h3, h4, rfl⟩
    simp -implicitDefEqProofs only [go_sem, zS, ↓reduceIte, Za, Zb, Zc, reduceCtorEq, kont_eq, zU, zV, Zf, Zg, Zh, Zi, Zd, Ze] at gi gn g3
    obtain ⟨b, o, c, rfl, hc⟩ := cell i hi
    have hci := hc _ (Keep.refl _ _)
    have hni := hn _ (List.getElem_mem hi)
    by_cases hgt : ((ns[i] : Nat) : Int) > t
    · have d1 : decide (((ns[i] : Nat) : Int) > t) = true := decide_eq_true hgt
      simp -implicitDefEqProofs only [go_sem, zS, ↓reduceIte, Za, Zb, Zc, reduceCtorEq, kont_eq, zU, zV, Zf, Zg, Zh, Zi, Zd, Ze, zF, gi, g3, tn_cast, hci, d1]
      refine ⟨by omega, _, rfl, by omega, by omega, fun n hn' => ?_, .inr ⟨ns[i], (take_mem hi _).2 (.inr rfl), rfl⟩⟩
      rcases (take_mem hi _).1 hn' with h | h
      · have := h3 n h; omega
      · rw [h]; omega
    · have d1 : decide (((ns[i] : Nat) : Int) > t) = false := decide_eq_false hgt
      simp -implicitDefEqProofs only [go_sem, zS, ↓reduceIte, Za, Zb, Zc, reduceCtorEq, kont_eq, zU, zV, Zf, Zg, Zh, Zi, Zd, Ze, zF, gi, g3, tn_cast, hci, d1]
      refine ⟨by omega, t, rfl, h1, h2, fun n hn' => ?_, ?_⟩
      · rcases (take_mem hi _).1 hn' with h | h
        · exact h3 n h
        · rw [h]; omega
      · rcases h4 with h | ⟨n, h, e⟩
        · exact .inl h
        · exact .inr ⟨n, (take_mem hi _).2 (.inl h), e⟩
  · rintro g A - ⟨t, g3, h1, h2, h3, h4, rfl⟩
    simp -implicitDefEqProofs only [go_sem, zS, ↓reduceIte, Za, Zb, Zc, reduceCtorEq, kont_eq, zU, zV, Zf, Zg, Zh, Zi, Zd, Ze] at g3
    rw [List.take_length] at h3 h4
    by_cases ht : t < 0
    · have d1 : decide (t < 0) = true := decide_eq_true ht
      have hne : ns = [] := by
        cases ns with
        | nil => rfl
        | cons a l => have := h3 a (by simp); omega
      subst hne
      simp -implicitDefEqProofs only [go_sem, zS, ↓reduceIte, Za, Zb, Zc, reduceCtorEq, kont_eq, zU, zV, Zf, Zg, Zh, Zi, Zd, Ze, zF, g3, d1]
      rw [hQ]
      exact ⟨⟨[], OwS.nil _, fun h => absurd rfl h, fun n => by rw [bitL_nil]; simp, by simp⟩, fun q h => h.elim, Keep.refl _ _⟩
    · have d1 : decide (t < 0) = false := decide_eq_false ht
      obtain ⟨m, rfl⟩ := Int.eq_ofNat_of_zero_le (Int.not_lt.1 ht)
      have hm : m ∈ ns := by
        rcases h4 with h | ⟨n, h, e⟩
        · omega
        · have : n = m := by omega
          rw [← this]; exact h
      have w0 : ∀ m : Nat, m ≤ 1000000 → IntKind.i64.wrap (m : Int) = (m : Int) := fun m hm => IntWalk.i64_in _ (by omega)
      have q1 : (m : Int).tdiv 8 = ((m / 8 : Nat) : Int) := (Int.ofNat_tdiv m 8).symm
      have w1 : IntKind.i64.wrap (((m / 8 : Nat) : Int) + 1) = ((m / 8 + 1 : Nat) : Int) := by rw [IntWalk.i64_in _ (by omega)]; omega
      simp -implicitDefEqProofs only [go_sem, zS, ↓reduceIte, Za, Zb, Zc, reduceCtorEq, zU, zV, Zf, Zg, Zh, Zi, Zd, Ze, zF, g3, d1, q1, w0 (m / 8) (by omega), w1]
      refine ⟨by decide, ⟨by omega, by omega, by unfold maxLen; omega⟩, ?_⟩
      refine kont_news fun H3 b3 e3 z3 B3 K3 => ?_
      rw [rep_one, w8_rep] at B3
      simp -implicitDefEqProofs only [go_sem, zS, ↓reduceIte, Za, Zb, Zc, reduceCtorEq, zU, zV, Zf, Zg, Zh, Zi, Zd, Ze, zF, tn_cast, hv.isSl, hlen]
      refine vc_range ns.length [29, 8, 28] rfl rfl (by omega) (by simp -implicitDefEqProofs only [go_sem, zS, ↓reduceIte, Za, Zb, Zc, reduceCtorEq, kont_eq, zU, zV, Zf, Zg, Zh, Zi, Zd, Ze]) (by simp -implicitDefEqProofs only [go_sem, zS, ↓reduceIte, Za, Zb, Zc, reduceCtorEq, kont_eq, zU, zV, Zf, Zg, Zh, Zi, Zd, Ze]) (fun i g B => ∃ l, Bl B b3 (w8 l) ∧ l.length = m / 8 + 1 ∧ (∀ n, bitL l n = decide (n ∈ ns.take i)) ∧ Keep (fun q => q = b3) H3 B) ⟨_, B3, by simp, fun n => ?_, Keep.refl _ _⟩ ?_ ?_
      · unfold bitL
        have : (List.replicate (m / 8 + 1) (0 : UInt8)).getD (n / 8) 0 = 0 := by
          rw [List.getD_eq_getElem?_getD, List.getElem?_replicate]
          split <;> rfl
        rw [this]; simp
      · rintro i g B hi gi gn ⟨l, Bl_, hll, hlb, KB⟩
        simp -implicitDefEqProofs only [go_sem, zS, ↓reduceIte, Za, Zb, Zc, reduceCtorEq, kont_eq, zU, zV, Zf, Zg, Zh, Zi, Zd, Ze] at gi gn
        have KHB : Keep (fun _ => False) A B := K3.trans' KB fun q hq e => by omega
        obtain ⟨b, o, c, rfl, hc⟩ := cell i hi
        have hci := hc _ KHB
        have hni := hn _ (List.getElem_mem hi)
        have hle := h3 _ (List.getElem_mem hi)
        have q2 : ((ns[i] : Nat) : Int).tdiv 8 = ((ns[i] / 8 : Nat) : Int) := (Int.ofNat_tdiv _ 8).symm
        have q3 : ((ns[i] : Nat) : Int).tmod 8 = ((ns[i] % 8 : Nat) : Int) := tmod_nat _ 8
        have w3 : IntKind.u64.wrap ((ns[i] % 8 : Nat) : Int) = ((ns[i] % 8 : Nat) : Int) := by rw [IntKind.wrap_u64]; omega
        have lt := Bl_.okSt (o := ns[i] / 8) (by rw [w8_len]; omega)
        have cw : Mg.cell B ⟨b3, ns[i] / 8, none⟩ = some (.int .u8 (l.getD (ns[i] / 8) 0).toNat) := by rw [Bl_.cell, w8_get _ _ (by omega)]
        have sh := shl_u8 ⟨ns[i] % 8, by omega⟩
        simp only at sh
        have hs := Bl_.setc (ns[i] / 8) (.int .u8 (l.getD (ns[i] / 8) 0 ||| UInt8.ofNat (2 ^ (ns[i] % 8))).toNat)
        rw [w8_set] at hs
        simp -implicitDefEqProofs only [go_sem, zS, ↓reduceIte, Za, Zb, Zc, reduceCtorEq, kont_eq, zU, zV, Zf, Zg, Zh, Zi, Zd, Ze, zF, gi, tn_cast, hci, q2, q3, w0 (ns[i] / 8) (by omega), w3, lt, cw, sh, bits_or8]
        refine ⟨by omega, by decide, by decide, by omega, by decide, by omega, by omega, _, hs, by simpa using hll, fun n => ?_, KB.setc (p := ⟨b3, ns[i] / 8, none⟩) _ (.inl rfl)⟩
        rw [bitL_set (by omega), hlb, Bool.eq_iff_iff]
        simp only [Bool.or_eq_true, decide_eq_true_eq, take_mem hi]
      · rintro g B gi ⟨l, Bl_, hll, hlb, KB⟩
        rw [List.take_length] at hlb
        simp -implicitDefEqProofs only [go_sem, zS, ↓reduceIte, Za, Zb, Zc, reduceCtorEq, kont_eq, zU, zV, Zf, Zg, Zh, Zi, Zd, Ze, zF]
        rw [hQ]
        refine ⟨⟨l, OwS.new Bl_ (by rw [w8_len, hll]) rfl, CanB.of_top fun _ => ⟨m, by rw [hlb]; exact decide_eq_true hm, by omega⟩, hlb, by omega⟩, fun q (hq : q = b3) => by omega, K3.trans' KB fun q hq e => by omega⟩
def RPutSetSpec (P : Program) (k : FuncId) : Prop := ∀ (ns : List Nat) (m : List UInt8) (v : Value) (H : Hp), SlR H v (iN ns) → ns.length ≤ 1000000 → (∀ n ∈ ns, n < 4096) → CanB m → (∀ n, bitL m n = decide (n ∈ ns)) → CallsM P k #[v] H fun r H' => OwS H' r (w8 (encB m)) ∧ (∀ q, ownB r q → H.size ≤ q) ∧ Keep (fun _ => False) H H'
theorem rputset_ok {P : Program} {ι : Ids} {k : FuncId} (hk : FnIs P k (c_rputset ι) r_rputset 1) (hs : RSetBSpec P (ι.f 346)) (hp : RPutBSpec P (ι.f 62)) : RPutSetSpec P k := by
  intro ns m v H hv hl hn hm hb
  refine calls_of_vc hk (args := [_]) (by simp) ?_
  unfold c_rputset r_rputset
  simp -implicitDefEqProofs only [go_sem, zS, ↓reduceIte, Za, Zb, Zc, reduceCtorEq, zU, zV, Zf, Zg, Zh, Zi, Zd, Ze, zF]
  refine (hs ns v H hv hl hn).mono ?_
  rintro r H1 ⟨⟨l, O1, c1, b1, n1⟩, o1, K1⟩
  have e2 : l = m := canB_inj c1 hm fun n => (b1 n).trans (hb n).symm
  subst e2
  have s1 := K1.size
  rw [kont_eq]
  simp -implicitDefEqProofs only [go_sem, zS, ↓reduceIte, Za, Zb, Zc, reduceCtorEq, zU, zV, Zf, Zg, Zh, Zi, Zd, Ze, zF]
  refine (hp l r H1 O1.sl (by omega)).mono ?_
  rintro r2 H2 ⟨O2, o2, K2⟩
  rw [kont_eq]
  simp -implicitDefEqProofs only [go_sem, zS, ↓reduceIte, Za, Zb, Zc, reduceCtorEq, kont_eq, zU, zV, Zf, Zg, Zh, Zi, Zd, Ze, zF]
  exact ⟨O2, fun q hq => by have := o2 q hq; omega, K1.trans K2⟩
end Go.Mg

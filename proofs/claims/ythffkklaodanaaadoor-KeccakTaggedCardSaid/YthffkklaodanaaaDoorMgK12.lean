/- keccak: the reference's sum. -/
import Derived.Test.YthffkklaodanaaaDoorMgK11
namespace Go.Mg
open Go Go.RowKit
set_option linter.unusedSimpArgs false
set_option linter.unusedVariables false
set_option maxRecDepth 100000
/- arbacref03.Pad -/
def c_rpad (ι : Ids) : S :=
  .seq (.reg [.p (.v 2) (.mv (.c (.slice .none 0 0)))]) (.seq (.reg [.e (.t 4) (.bldF (ι.t 19) 1 0 []), .p (.t 5) (.mv (.v 0)), .e (.t 6) (.app false (ι.t 19) 1 1 #[.int .u8 0] (.t 4) (.t 5)), .p (.v 3)
  (.mv (.t 6))]) (.seq (.reg [.p (.t 7) (.mv (.v 3)), .e (.t 8) (.bldF (ι.t 19) 1 1 [.c (.int .u8 6)]), .e (.t 9) (.app false (ι.t 19) 1 1 #[.int .u8 0] (.t 7) (.t 8)), .p (.v 3) (.mv (.t 9))]) (.seq
  (.blk 0 (.loop (.seq (.seq (.reg [.p (.t 10) (.mv (.v 3)), .p (.t 11) (.m (.lenl (.t 10))), .p (.t 12) (.dv .rem .i64 (.t 11) (.c (.int .i64 136))), .p (.v 13) (.cm .neq .i64 (.t 12) (.c (.int .i64
  0)))]) (.ite (.v 13) .skip (.exit 0))) (.blk 1 (.reg [.p (.t 14) (.mv (.v 3)), .e (.t 15) (.bldF (ι.t 19) 1 1 [.c (.int .u8 0)]), .e (.t 16) (.app false (ι.t 19) 1 1 #[.int .u8 0] (.t 14) (.t 15)), .p
  (.v 3) (.mv (.t 16))]))))) (.seq (.reg [.p (.t 17) (.mv (.v 3)), .p (.t 18) (.mv (.v 3)), .p (.t 19) (.m (.lenl (.t 18))), .p (.t 20) (.ar .sub .i64 (.t 19) (.c (.int .i64 1))), .p (.t 21) (.mv (.v
  3)), .p (.t 22) (.mv (.v 3)), .p (.t 23) (.m (.lenl (.t 22))), .p (.t 24) (.ar .sub .i64 (.t 23) (.c (.int .i64 1))), .p (.t 25) (.is 1 (.t 21) (.t 24)), .p (.t 26) (.ld (.t 25)), .p (.t 27) (.bt .xor
  .u8 (.t 26) (.c (.int .u8 128))), .p (.t 28) (.is 1 (.t 17) (.t 20)), .e .no (.st (.t 28) (.t 27))]) (.seq (.reg [.p (.t 29) (.mv (.v 3)), .p (.v 2) (.mv (.t 29))]) .ret)))))
def r_rpad : List RV := [.t 2]
/- arbacref03.Sum -/
def c_rsum (ι : Ids) : S :=
  .seq (.reg [.e (.v 2) (.new (ι.t 32) (Array.replicate 32 (.int .u8 0)))]) (.seq (.reg [.e (.t 11) (.mkS (ι.t 28) 1 8 #[.int .u64 0] (.c (.int .i64 25)) (.c (.int .i64 25))), .p (.v 3) (.mv (.t 11))])
  (.seq (.reg [.p (.t 12) (.mv (.v 0)), .e (.t 13) (.call (ι.f 31) [.t 12]), .p (.v 4) (.mv (.t 13))]) (.seq (.seq (.reg [.p (.v 5) (.mv (.c (.int .i64 0)))]) (.blk 0 (.loop (.seq (.seq (.reg [.p (.t
  14) (.mv (.v 5)), .p (.t 15) (.mv (.v 4)), .p (.t 16) (.m (.lenl (.t 15))), .p (.v 17) (.cm .lss .i64 (.t 14) (.t 16))]) (.ite (.v 17) .skip (.exit 0))) (.seq (.blk 1 (.seq (.seq (.reg [.p (.v 6) (.mv
  (.c (.int .i64 0)))]) (.blk 2 (.loop (.seq (.seq (.reg [.p (.t 20) (.mv (.v 6)), .p (.v 21) (.cm .lss .i64 (.t 20) (.c (.int .i64 136)))]) (.ite (.v 21) .skip (.exit 2))) (.seq (.blk 3 (.reg [.p (.t
  24) (.mv (.v 3)), .p (.t 25) (.mv (.v 6)), .p (.t 26) (.dv .quo .i64 (.t 25) (.c (.int .i64 8))), .p (.t 27) (.mv (.v 3)), .p (.t 28) (.mv (.v 6)), .p (.t 29) (.dv .quo .i64 (.t 28) (.c (.int .i64
  8))), .p (.t 30) (.is 1 (.t 27) (.t 29)), .p (.t 31) (.ld (.t 30)), .p (.t 32) (.mv (.v 4)), .p (.t 33) (.mv (.v 5)), .p (.t 34) (.mv (.v 6)), .p (.t 35) (.ar .add .i64 (.t 33) (.t 34)), .p (.t 36)
  (.is 1 (.t 32) (.t 35)), .p (.t 37) (.ld (.t 36)), .p (.t 38) (.ii .u64 (.t 37)), .p (.t 39) (.mv (.v 6)), .p (.t 40) (.dv .rem .i64 (.t 39) (.c (.int .i64 8))), .p (.t 41) (.ar .mul .i64 (.c (.int
  .i64 8)) (.t 40)), .p (.t 42) (.sh .shl .u64 (.t 38) (.t 41)), .p (.t 43) (.bt .xor .u64 (.t 31) (.t 42)), .p (.t 44) (.is 1 (.t 24) (.t 26)), .e .no (.st (.t 44) (.t 43))])) (.reg [.p (.t 22) (.mv
  (.v 6)), .p (.t 23) (.ar .add .i64 (.t 22) (.c (.int .i64 1))), .p (.v 6) (.mv (.t 23))])))))) (.seq (.reg [.e (.v 45) (.call (ι.f 29) []), .p (.v 46) (.m (.lenl (.v 45))), .p (.v 47) (.mv (.c (.int
  .i64 0)))]) (.blk 4 (.loop (.seq (.reg [.p (.v 48) (.cm .lss .i64 (.v 47) (.v 46))]) (.seq (.ite (.v 48) .skip (.exit 4)) (.seq (.blk 5 (.seq (.reg [.p (.t 49) (.is 1 (.v 45) (.v 47)), .p (.t 50) (.ld
  (.t 49)), .p (.v 8) (.mv (.t 50))]) (.reg [.p (.t 51) (.mv (.v 3)), .p (.t 52) (.mv (.v 8)), .e (.t 53) (.call (ι.f 30) [.t 51, .t 52]), .p (.v 3) (.mv (.t 53))]))) (.reg [.p (.t 54) (.ar .add .i64
  (.v 47) (.c (.int .i64 1))), .p (.v 47) (.mv (.t 54))]))))))))) (.reg [.p (.t 18) (.mv (.v 5)), .p (.t 19) (.ar .add .i64 (.t 18) (.c (.int .i64 136))), .p (.v 5) (.mv (.t 19))])))))) (.seq (.reg [.e
  (.v 9) (.new (ι.t 32) (Array.replicate 32 (.int .u8 0)))]) (.seq (.seq (.reg [.p (.v 10) (.mv (.c (.int .i64 0)))]) (.blk 6 (.loop (.seq (.seq (.reg [.p (.t 55) (.mv (.v 10)), .p (.v 56) (.cm .lss
  .i64 (.t 55) (.c (.int .i64 32)))]) (.ite (.v 56) .skip (.exit 6))) (.seq (.blk 7 (.reg [.p (.t 59) (.mv (.v 10)), .p (.t 60) (.mv (.v 3)), .p (.t 61) (.mv (.v 10)), .p (.t 62) (.dv .quo .i64 (.t 61)
  (.c (.int .i64 8))), .p (.t 63) (.is 1 (.t 60) (.t 62)), .p (.t 64) (.ld (.t 63)), .p (.t 65) (.mv (.v 10)), .p (.t 66) (.dv .rem .i64 (.t 65) (.c (.int .i64 8))), .p (.t 67) (.ar .mul .i64 (.c (.int
  .i64 8)) (.t 66)), .p (.t 68) (.sh .shr .u64 (.t 64) (.t 67)), .p (.t 69) (.ii .u8 (.t 68)), .p (.t 70) (.ia 32 1 (.v 9) (.t 59)), .e .no (.st (.t 70) (.t 69))])) (.reg [.p (.t 57) (.mv (.v 10)), .p
  (.t 58) (.ar .add .i64 (.t 57) (.c (.int .i64 1))), .p (.v 10) (.mv (.t 58))])))))) (.seq (.reg [.p (.t 71) (.m (.ldn 32 (.v 9))), .e .no (.stn 32 (.v 2) (.t 71))]) .ret))))))
def r_rsum : List RV := [.cn 2 32]

def padZ (p : List UInt8) : Nat := (136 - (p.length + 1) % 136) % 136
def pad0 (p : List UInt8) (k : Nat) : List UInt8 := p ++ [6] ++ List.replicate k 0
def padF (p : List UInt8) : List UInt8 := (pad0 p (padZ p)).set ((pad0 p (padZ p)).length - 1) ((pad0 p (padZ p)).getD ((pad0 p (padZ p)).length - 1) 0 ^^^ 128)
theorem pad0_len (p : List UInt8) (k : Nat) : (pad0 p k).length = p.length + 1 + k := by simp [pad0]; omega
theorem pad0_succ (p : List UInt8) (k : Nat) : pad0 p (k + 1) = pad0 p k ++ [0] := by simp [pad0, List.replicate_succ']
theorem padF_len (p : List UInt8) : (padF p).length = p.length + 1 + padZ p := by simp [padF, pad0_len]
theorem padF_mod (p : List UInt8) : (padF p).length % 136 = 0 := by rw [padF_len]; unfold padZ; omega

def PadSpec (P : Program) (k : FuncId) : Prop := ∀ (p : List UInt8) (v : Value) (H : Hp), SlR H v (w8 p) → p.length ≤ 1000000 → CallsM P k #[v] H fun r H' => OwS H' r (w8 (padF p)) ∧ (∀ k, ownB r k → H.size ≤ k) ∧ Keep (fun _ => False) H H'
theorem rpad_ok {P : Program} {ι : Ids} {k : FuncId} (hk : FnIs P k (c_rpad ι) r_rpad 1) : PadSpec P k := by
  intro p v H hv hp
  refine calls_of_vc hk (args := [_]) (by simp) ?_
  unfold c_rpad r_rpad
  simp only [go_sem, List.map_cons, List.map_nil, ↓reduceIte, Nat.reduceEqDiff, Nat.reduceAdd, Nat.reduceMul, reduceCtorEq, and_true, true_and, Nat.mul_one, Nat.zero_add, Bool.false_eq_true, decide_true, decide_false, not_false_eq_true]
  refine kont_news fun H1 b1 e1 z1 B1 K1 => ?_
  have k1 := K1.size
  simp only [go_sem, List.map_cons, List.map_nil, ↓reduceIte, Nat.reduceEqDiff, Nat.reduceAdd, Nat.reduceMul, reduceCtorEq, and_true, true_and, Nat.mul_one, Nat.zero_add, Bool.false_eq_true, decide_true, decide_false, not_false_eq_true, kont_eq]
  refine app_bytesN H.size (l := []) (m := p) (OwS.new B1 rfl rfl) (fun k (h : k = b1) => by omega) (by omega) (hv.keep K1 (by simp)) rfl (by simp; omega) fun v2 H2 O2 o2 K2 => ?_
  have K2' := K1.at_old K2 (by omega)
  have k2 := K2'.size
  rw [kont_eq]
  simp only [go_sem, List.map_cons, List.map_nil, ↓reduceIte, Nat.reduceEqDiff, Nat.reduceAdd, Nat.reduceMul, reduceCtorEq, and_true, true_and, Nat.mul_one, Nat.zero_add, Bool.false_eq_true, decide_true, decide_false, not_false_eq_true]
  refine kont_news fun H3 b3 e3 z3 B3 K3 => ?_
  have K3' := K2'.trans K3
  simp only [go_sem, List.map_cons, List.map_nil, ↓reduceIte, Nat.reduceEqDiff, Nat.reduceAdd, Nat.reduceMul, reduceCtorEq, and_true, true_and, Nat.mul_one, Nat.zero_add, Bool.false_eq_true, decide_true, decide_false, not_false_eq_true, kont_eq]
  refine app_bytesN H.size (l := [] ++ p) (m := [6]) (O2.keep K3 (by simp)) o2 (by have := K3'.size; omega) (SlR.bl (l := w8 [6]) B3 0 1 1 (by omega) (by simp [w8])) rfl (by simp; omega) fun v4 H4 O4 o4 K4 => ?_
  have K4' := K3'.at_old K4 (by omega)
  have e4 : ([] ++ p ++ [6]) = pad0 p 0 := by simp [pad0]
  rw [e4] at O4
  simp only [go_sem, List.map_cons, List.map_nil, ↓reduceIte, Nat.reduceEqDiff, Nat.reduceAdd, Nat.reduceMul, reduceCtorEq, and_true, true_and, Nat.mul_one, Nat.zero_add, Bool.false_eq_true, decide_true, decide_false, not_false_eq_true, kont_eq]
  have hz : padZ p < 136 := by unfold padZ; omega
  refine vc_loop [13, 3] rfl (fun n f H' => ∃ k, k ≤ padZ p ∧ n = padZ p - k ∧ OwS H' (f 3) (w8 (pad0 p k)) ∧ (∀ k, ownB (f 3) k → H.size ≤ k) ∧ Keep (fun _ => False) H H') (padZ p)
    ⟨0, by omega, by omega, O4, o4, K4'⟩ ?_
  rintro n g H5 ⟨k, hk, rfl, O5, o5, K5⟩
  simp only [go_sem, List.map_cons, List.map_nil, ↓reduceIte, Nat.reduceEqDiff, Nat.reduceAdd, Nat.reduceMul, reduceCtorEq, and_true, true_and, Nat.mul_one, Nat.zero_add, Bool.false_eq_true, decide_true, decide_false, not_false_eq_true, kont_eq] at O5 o5
  have hl := pad0_len p k
  have m1 : (((pad0 p k).length : Int)).tmod 136 = (((pad0 p k).length % 136 : Nat) : Int) := by rw [Int.tmod_eq_emod_of_nonneg (by omega)]; omega
  simp (disch := omega) only [go_sem, List.map_cons, List.map_nil, ↓reduceIte, Nat.reduceEqDiff, Nat.reduceAdd, Nat.reduceMul, reduceCtorEq, and_true, true_and, Nat.mul_one, Nat.zero_add, Bool.false_eq_true, decide_true, decide_false, not_false_eq_true, kont_eq, O5.sl.len, O5.sl.isSl, w8_len, m1, IntWalk.i64_in]
  refine And.intro (by omega) ?_
  refine iteV_of (fun h => ?_) (fun h => ?_)
  · have hlt : k < padZ p := by
      have h1 : (pad0 p k).length % 136 ≠ 0 := by
        intro e; rw [e] at h; exact absurd h (by decide)
      rw [hl] at h1
      unfold padZ at hk ⊢
      omega
    generalize hA : Array.push H5 _ = H6
    have B6 : Bl H6 H5.size (w8 [0]) := by rw [← hA]; exact Bl.new' _ _ _
    have K6 : Keep (fun _ => False) H5 H6 := by rw [← hA]; exact (Keep.refl _ _).push _
    have K6' := K5.trans K6
    refine app_bytesN H.size (l := pad0 p k) (m := [0]) (O5.keep K6 (by simp)) o5 (by have := K6'.size; omega) (SlR.bl (l := w8 [0]) B6 0 1 1 (by omega) (by simp [w8])) rfl (by rw [hl]; simp; omega) fun v7 H7 O7 o7 K7 => ?_
    simp only [go_sem, List.map_cons, List.map_nil, ↓reduceIte, Nat.reduceEqDiff, Nat.reduceAdd, Nat.reduceMul, reduceCtorEq, and_true, true_and, Nat.mul_one, Nat.zero_add, Bool.false_eq_true, decide_true, decide_false, not_false_eq_true, kont_eq]
    rw [← pad0_succ] at O7
    exact ⟨padZ p - (k + 1), by omega, k + 1, by omega, rfl, O7, o7, K6'.at_old K7 (by omega)⟩
  · have hke : k = padZ p := by
      have h1 : (pad0 p k).length % 136 = 0 := by
        apply Decidable.byContradiction
        intro e
        have : ((((pad0 p k).length % 136 : Nat) : Int) != 0) = true := by simp; omega
        rw [this] at h; cases h
      rw [hl] at h1
      unfold padZ at hk ⊢
      omega
    obtain ⟨b, c, L, e3, h1, h2, hB, h3, hg⟩ := O5.some (by simp [w8, pad0])
    have hlen : (w8 (pad0 p k)).length = p.length + 1 + k := by rw [w8_len, hl]
    have hlast : L[p.length + k]? = some (.int .u8 ((pad0 p k).getD (p.length + k) 0).toNat) := by
      rw [hg _ (by omega), w8_get _ _ (by omega)]
    have ei : ((p.length + 1 + k : Nat) : Int) - 1 = ((p.length + k : Nat) : Int) := by omega
    rw [hlen] at e3 h1 h3
    have hbo := o5
    rw [e3] at hbo
    have hbo := hbo b rfl
    simp (disch := omega) only [go_sem, List.map_cons, List.map_nil, ↓reduceIte, Nat.reduceEqDiff, Nat.reduceAdd, Nat.reduceMul, reduceCtorEq, and_true, true_and, Nat.mul_one, Nat.zero_add, Bool.false_eq_true, decide_true, decide_false, not_false_eq_true, kont_eq, e3, hl, ei, hB.cell, hB.frz, hlast, bits_xor8, tn_cast, tn_add]
    refine And.intro (by omega) ?_
    have hO := setOwS (i := p.length + k) (v := .int .u8 ((pad0 p k).getD (p.length + k) 0 ^^^ 128).toNat) hB (l := w8 (pad0 p k)) (by rw [hlen]; exact h1) h2 (by rw [hlen]; exact h3) (by omega)
    rw [w8_set, hlen] at hO
    have e : padF p = (pad0 p k).set (p.length + k) ((pad0 p k).getD (p.length + k) 0 ^^^ 128) := by
      subst hke
      have : (pad0 p (padZ p)).length - 1 = p.length + padZ p := by rw [hl]; omega
      unfold padF; rw [this]
    rw [e]
    exact ⟨by omega, hO, fun k hk => by cases hk; exact hbo, K5.setc _ (.inr hbo)⟩

/-! ### the sponge -/
def xw (st : List UInt64) (m : List UInt8) (at_ i : Nat) : List UInt64 := iter i (fun st i => st.set (i / 8) (st.getD (i / 8) 0 ^^^ ((m.getD (at_ + i) 0).toUInt64 <<< (8 * (i % 8)).toUInt64))) st
def rR (st : List UInt64) (k : Nat) : List UInt64 := iter k (fun st k => roundR st (roundsL.getD k 0)) st
def refSt (m : List UInt8) (j : Nat) : List UInt64 := iter j (fun st j => rR (xw st m (136 * j) 136) 24) (List.replicate 25 0)
def sumR (p : List UInt8) : List UInt8 := outN (refSt (padF p) ((padF p).length / 136)) 32
theorem xw_len (st : List UInt64) (m : List UInt8) (at_ i : Nat) : (xw st m at_ i).length = st.length := by
  unfold xw; rw [iter_len (by simp)]
theorem rR_len (st : List UInt64) (h : st.length = 25) : ∀ k, (rR st k).length = 25
  | 0 => h
  | k + 1 => by unfold rR; simp only [iter]; exact roundR_len _ _
theorem refSt_len (m : List UInt8) : ∀ j, (refSt m j).length = 25
  | 0 => by simp [refSt, iter]
  | j + 1 => by
    have h := refSt_len m j
    unfold refSt at h ⊢
    simp only [iter]
    exact rR_len _ (by rw [xw_len]; exact h) 24
theorem wrap8 (x : UInt8) : IntKind.u64.wrap (x.toNat : Int) = x.toNat := by
  have := x.toNat_lt
  rw [IntKind.wrap_u64]; omega
theorem shl64 (x : UInt8) (n : Nat) (hn : n < 64) : IntKind.u64.wrap ((x.toNat : Int) * 2 ^ n) = ((x.toUInt64 <<< n.toUInt64).toNat : Int) := by
  rw [IntKind.wrap_u64, UInt64.toNat_shiftLeft, UInt8.toNat_toUInt64]
  have : n.toUInt64.toNat % 64 = n := by
    show (UInt64.ofNat n).toNat % 64 = n
    rw [UInt64.toNat_ofNat']; omega
  rw [this, Nat.shiftLeft_eq]
  simp

def RSumSpec (P : Program) (k : FuncId) : Prop := ∀ (p : List UInt8) (v : Value) (H : Hp), SlR H v (w8 p) → p.length ≤ 1000000 → CallsM P k #[v] H fun r H' => r = .agg (w8 (sumR p)).toArray ∧ Keep (fun _ => False) H H'
theorem rsum_ok {P : Program} {ι : Ids} {k : FuncId} (hk : FnIs P k (c_rsum ι) r_rsum 1) (hp : PadSpec P (ι.f 31)) (hrs : RoundsSpec P (ι.f 29)) (hr : RoundSpec P (ι.f 30)) : RSumSpec P k := by
  intro p v H hv hpl
  refine calls_of_vc hk (args := [_]) (by simp) ?_
  unfold c_rsum r_rsum
  have z25 : (rep #[Value.int IntKind.u64 0] 25).toList = w64 (List.replicate 25 0) := by rw [rep_one, w64_rep]
  have z32 : (Array.replicate 32 (Value.int .u8 0)).toList = w8 (List.replicate 32 0) := by rw [← w8_rep]; rfl
  simp only [go_sem, List.map_cons, List.map_nil, ↓reduceIte, Nat.reduceEqDiff, Nat.reduceAdd, Nat.reduceMul, reduceCtorEq, and_true, true_and, Nat.mul_one, Nat.zero_add, Bool.false_eq_true, decide_true, decide_false, not_false_eq_true]
  refine kont_new fun H1 b1 e1 z1 B1 K1 => ?_
  simp only [go_sem, List.map_cons, List.map_nil, ↓reduceIte, Nat.reduceEqDiff, Nat.reduceAdd, Nat.reduceMul, reduceCtorEq, and_true, true_and, Nat.mul_one, Nat.zero_add, Bool.false_eq_true, decide_true, decide_false, not_false_eq_true]
  refine ⟨by unfold maxLen; omega, kont_news fun H2 b2 e2 z2 B2 K2 => ?_⟩
  rw [z25] at B2
  rw [z32] at B1
  have K2' := K1.trans K2
  have k1 := K1.size
  have k2 := K2'.size
  have B1' := K2.bl B1 (by simp)
  simp only [go_sem, List.map_cons, List.map_nil, ↓reduceIte, Nat.reduceEqDiff, Nat.reduceAdd, Nat.reduceMul, reduceCtorEq, and_true, true_and, Nat.mul_one, Nat.zero_add, Bool.false_eq_true, decide_true, decide_false, not_false_eq_true, kont_eq]
  refine (hp _ _ _ (hv.keep K2' (by simp)) hpl).mono ?_
  rintro v3 H3 ⟨O3, o3, K3⟩
  have K3' := K2'.trans K3
  simp only [go_sem, List.map_cons, List.map_nil, ↓reduceIte, Nat.reduceEqDiff, Nat.reduceAdd, Nat.reduceMul, reduceCtorEq, and_true, true_and, Nat.mul_one, Nat.zero_add, Bool.false_eq_true, decide_true, decide_false, not_false_eq_true, kont_eq]
  have hml := padF_len p
  have hmm := padF_mod p
  have hz : padZ p < 136 := by unfold padZ; omega
  obtain ⟨bM, cM, LM, rfl, -, -, BM, -, hgM⟩ := O3.some (by simp [w8]; intro e; rw [e] at hml; simp at hml; omega)
  rw [w8_len] at hgM
  simp only [go_sem, List.map_cons, List.map_nil, ↓reduceIte, Nat.reduceEqDiff, Nat.reduceAdd, Nat.reduceMul, reduceCtorEq, and_true, true_and, Nat.mul_one, Nat.zero_add, Bool.false_eq_true, decide_true, decide_false, not_false_eq_true, kont_eq, w8_len]
  have oM : H2.size ≤ bM := o3 bM rfl
  have gm : ∀ i, i < (padF p).length → LM[i]? = some (.int .u8 ((padF p).getD i 0).toNat) := fun i hi => by rw [hgM i hi, w8_get _ _ hi]
  generalize hm : padF p = m at *
  have B1'' := K3.bl B1' (by simp)
  have B2'' := K3.bl B2 (by simp)
  have hb12 : b1 < H2.size := B1'.lt
  have hMl := BM.lt
  obtain ⟨nb, hnb⟩ : ∃ nb, m.length = 136 * nb := ⟨m.length / 136, by omega⟩
  refine vc_loop [17, 6, 21, 45, 46, 47, 48, 8, 3, 5] rfl (fun n f H' => ∃ j bA, j ≤ nb ∧ n = nb - j ∧ f 5 = .int .i64 ((136 * j : Nat) : Int) ∧ f 3 = .slice (some ⟨bA, 0, none⟩) 25 25 ∧ bA ≠ b1 ∧ bA ≠ bM ∧ H.size ≤ bA ∧ Bl H' bA (w64 (refSt m j)) ∧ Bl H' bM LM ∧ Bl H' b1 (w8 (List.replicate 32 0)) ∧ Keep (fun _ => False) H H') nb
    ⟨0, b2, by omega, by omega, rfl, rfl, by omega, by have := B2.lt; omega, by omega, B2'', BM, B1'', K3'⟩ ?_
  rintro n g H4 ⟨j, bA, hj, rfl, hf5, hf3, hA1, hAM, hA0, A4, M4, R4, K4⟩
  simp only [go_sem, List.map_cons, List.map_nil, ↓reduceIte, Nat.reduceEqDiff, Nat.reduceAdd, Nat.reduceMul, reduceCtorEq, and_true, true_and, Nat.mul_one, Nat.zero_add, Bool.false_eq_true, decide_true, decide_false, not_false_eq_true, kont_eq] at hf5 hf3
  simp only [go_sem, List.map_cons, List.map_nil, ↓reduceIte, Nat.reduceEqDiff, Nat.reduceAdd, Nat.reduceMul, reduceCtorEq, and_true, true_and, Nat.mul_one, Nat.zero_add, Bool.false_eq_true, decide_true, decide_false, not_false_eq_true, kont_eq, hf5, hf3]
  refine iteV_dec (fun hlt => ?_) (fun hge => ?_)
  · have hjn : j < nb := by omega
    have hls := refSt_len m j
    refine vc_loop [21, 6] rfl (fun n f H' => ∃ i, i ≤ 136 ∧ n = 136 - i ∧ f 6 = .int .i64 i ∧ Bl H' bA (w64 (xw (refSt m j) m (136 * j) i)) ∧ Bl H' bM LM ∧ Bl H' b1 (w8 (List.replicate 32 0)) ∧ Keep (fun _ => False) H H') 136
      ⟨0, by omega, by omega, rfl, A4, M4, R4, K4⟩ ?_
    rintro n2 g2 H5 ⟨i, hi, rfl, hf6, A5, M5, R5, K5⟩
    simp only [go_sem, List.map_cons, List.map_nil, ↓reduceIte, Nat.reduceEqDiff, Nat.reduceAdd, Nat.reduceMul, reduceCtorEq, and_true, true_and, Nat.mul_one, Nat.zero_add, Bool.false_eq_true, decide_true, decide_false, not_false_eq_true, kont_eq] at hf6
    simp only [go_sem, List.map_cons, List.map_nil, ↓reduceIte, Nat.reduceEqDiff, Nat.reduceAdd, Nat.reduceMul, reduceCtorEq, and_true, true_and, Nat.mul_one, Nat.zero_add, Bool.false_eq_true, decide_true, decide_false, not_false_eq_true, kont_eq, hf6]
    refine iteV_dec (fun hlt2 => ?_) (fun hge2 => ?_)
    · have hi2 : i < 136 := by omega
      have hxl := xw_len (refSt m j) m (136 * j) i
      have q1 : ((i : Int)).tdiv 8 = ((i / 8 : Nat) : Int) := by rw [Int.tdiv_eq_ediv_of_nonneg (by omega)]; omega
      have q2 : ((i : Int)).tmod 8 = ((i % 8 : Nat) : Int) := by rw [Int.tmod_eq_emod_of_nonneg (by omega)]; omega
      have q3 : (8 : Int) * ((i % 8 : Nat) : Int) = ((8 * (i % 8) : Nat) : Int) := by omega
      have q4 : (((136 * j : Nat) : Int) + (i : Int)) = ((136 * j + i : Nat) : Int) := by omega
      have ga := w64_get (xw (refSt m j) m (136 * j) i) (i / 8) (by omega)
      have gi := gm (136 * j + i) (by omega)
      have hs := shl64 (m.getD (136 * j + i) 0) (8 * (i % 8)) (by omega)
      simp (disch := omega) only [go_sem, List.map_cons, List.map_nil, ↓reduceIte, Nat.reduceEqDiff, Nat.reduceAdd, Nat.reduceMul, reduceCtorEq, and_true, true_and, Nat.mul_one, Nat.zero_add, Bool.false_eq_true, decide_true, decide_false, not_false_eq_true, kont_eq, hf6, hf5, hf3, A5.cell, A5.frz, M5.cell, ga, gi, q1, q2, q3, q4, IntWalk.i64_in, tn_cast, wrap8, hs, bits_xor]
      repeat (refine And.intro (by omega) ?_)
      refine ⟨136 - (i + 1), by omega, i + 1, by omega, rfl, by simp, ?_, M5.setc_ne _ (Ne.symm hAM), R5.setc_ne _ (Ne.symm hA1), K5.setc _ (.inr hA0)⟩
      have := A5.setc (i / 8) (.int .u64 ((xw (refSt m j) m (136 * j) i).getD (i / 8) 0 ^^^ ((m.getD (136 * j + i) 0).toUInt64 <<< (8 * (i % 8)).toUInt64)).toNat)
      rw [w64_set _ _ (by omega)] at this
      exact this
    · have hi2 : i = 136 := by omega
      subst hi2
      refine (hrs _).mono ?_
      rintro r H6 ⟨rfl, C6, K6, z6⟩
      have k5 := K5.size
      have hX : (xw (refSt m j) m (136 * j) 136).length = 25 := by rw [xw_len]; exact hls
      simp only [go_sem, List.map_cons, List.map_nil, ↓reduceIte, Nat.reduceEqDiff, Nat.reduceAdd, Nat.reduceMul, reduceCtorEq, and_true, true_and, Nat.mul_one, Nat.zero_add, Bool.false_eq_true, decide_true, decide_false, not_false_eq_true, kont_eq]
      have hMl5 := M5.lt
      have hRl5 := R5.lt
      generalize hxx : xw (refSt m j) m (136 * j) 136 = xx at *
      refine vc_loop [48, 8, 3, 47] rfl (fun n f H' => ∃ q bQ, q ≤ 24 ∧ n = 24 - q ∧ f 47 = .int .i64 q ∧ f 3 = .slice (some ⟨bQ, 0, none⟩) 25 25 ∧ bQ ≠ b1 ∧ bQ ≠ bM ∧ H.size ≤ bQ ∧ Bl H' bQ (w64 (rR xx q)) ∧ Bl H' H5.size (w64 roundsL) ∧ Bl H' bM LM ∧ Bl H' b1 (w8 (List.replicate 32 0)) ∧ Keep (fun _ => False) H H') 24
        ⟨0, bA, by omega, by omega, rfl, by simp only [go_sem, List.map_cons, List.map_nil, ↓reduceIte, Nat.reduceEqDiff, Nat.reduceAdd, Nat.reduceMul, reduceCtorEq, and_true, true_and, Nat.mul_one, Nat.zero_add, Bool.false_eq_true, decide_true, decide_false, not_false_eq_true, kont_eq, hf3], hA1, hAM, hA0, K6.bl A5 (by simp), C6, K6.bl M5 (by simp), K6.bl R5 (by simp), K5.trans K6⟩ ?_
      rintro n3 g3 H7 ⟨q, bQ, hq, rfl, hf47, hf3, hQ1, hQM, hQ0, Q7, C7, M7, R7, K7⟩
      simp only [go_sem, List.map_cons, List.map_nil, ↓reduceIte, Nat.reduceEqDiff, Nat.reduceAdd, Nat.reduceMul, reduceCtorEq, and_true, true_and, Nat.mul_one, Nat.zero_add, Bool.false_eq_true, decide_true, decide_false, not_false_eq_true, kont_eq] at hf47 hf3
      simp only [go_sem, List.map_cons, List.map_nil, ↓reduceIte, Nat.reduceEqDiff, Nat.reduceAdd, Nat.reduceMul, reduceCtorEq, and_true, true_and, Nat.mul_one, Nat.zero_add, Bool.false_eq_true, decide_true, decide_false, not_false_eq_true, kont_eq, hf47, hf3]
      refine iteV_dec (fun hlt3 => ?_) (fun hge3 => ?_)
      · have hq2 : q < 24 := by omega
        have gr := w64_get roundsL q hq2
        simp (disch := omega) only [go_sem, List.map_cons, List.map_nil, ↓reduceIte, Nat.reduceEqDiff, Nat.reduceAdd, Nat.reduceMul, reduceCtorEq, and_true, true_and, Nat.mul_one, Nat.zero_add, Bool.false_eq_true, decide_true, decide_false, not_false_eq_true, kont_eq, hf47, hf3, C7.cell, gr, IntWalk.i64_in, tn_cast]
        repeat (refine And.intro (by omega) ?_)
        refine (hr _ _ _ _ (rR_len _ hX q) Q7).mono ?_
        rintro r H8 ⟨b8, h8, rfl, Q8, K8⟩
        simp (disch := omega) only [go_sem, List.map_cons, List.map_nil, ↓reduceIte, Nat.reduceEqDiff, Nat.reduceAdd, Nat.reduceMul, reduceCtorEq, and_true, true_and, Nat.mul_one, Nat.zero_add, Bool.false_eq_true, decide_true, decide_false, not_false_eq_true, kont_eq, hf47, IntWalk.i64_in]
        have k7 := K7.size
        exact ⟨24 - (q + 1), by omega, q + 1, b8, by omega, rfl, by simp, rfl, by have := R7.lt; omega, by have := M7.lt; omega, by omega, Q8, K8.bl C7 (by simp), K8.bl M7 (by simp), K8.bl R7 (by simp), K7.trans K8⟩
      · have hq2 : q = 24 := by omega
        subst hq2
        simp (disch := omega) only [go_sem, List.map_cons, List.map_nil, ↓reduceIte, Nat.reduceEqDiff, Nat.reduceAdd, Nat.reduceMul, reduceCtorEq, and_true, true_and, Nat.mul_one, Nat.zero_add, Bool.false_eq_true, decide_true, decide_false, not_false_eq_true, kont_eq, hf5, hf3, IntWalk.i64_in]
        refine ⟨nb - (j + 1), by omega, j + 1, bQ, by omega, rfl, by simp; omega, rfl, hQ1, hQM, hQ0, ?_, M7, R7, K7⟩
        have : refSt m (j + 1) = rR xx 24 := by rw [← hxx]; unfold refSt; simp only [iter]
        rw [this]; exact Q7
  · have hjn : j = nb := by omega
    have hsR : sumR p = outN (refSt m j) 32 := by unfold sumR; rw [hm, hnb, ← hjn, Nat.mul_div_cancel_left _ (by omega)]
    have hsl := refSt_len m j
    generalize hS : refSt m j = s at *
    have hz32 : w8 (List.replicate 32 0) = w8 (outN s 0) := rfl
    have k4 := K4.size
    have hA4 := A4.lt
    have hR4 := R4.lt
    refine vc_loop [56, 10] rfl (fun n f H' => ∃ i, i ≤ 32 ∧ n = 32 - i ∧ f 10 = .int .i64 i ∧ Bl H' H4.size (w8 (outN s i)) ∧ Bl H' bA (w64 s) ∧ Bl H' b1 (w8 (List.replicate 32 0)) ∧ Keep (fun _ => False) H H') 32
      ⟨0, by omega, by omega, rfl, by have := Bl.new' H4 (Array.replicate 32 (Value.int .u8 0)) (ι.t 32); rw [z32, hz32] at this; exact this, A4.push _, R4.push _, K4.push _⟩ ?_
    rintro n4 g4 HA ⟨i, hi32, rfl, hf10, BA, SA, UA, KA⟩
    simp only [go_sem, List.map_cons, List.map_nil, ↓reduceIte, Nat.reduceEqDiff, Nat.reduceAdd, Nat.reduceMul, reduceCtorEq, and_true, true_and, Nat.mul_one, Nat.zero_add, Bool.false_eq_true, decide_true, decide_false, not_false_eq_true, kont_eq] at hf10
    simp only [go_sem, List.map_cons, List.map_nil, ↓reduceIte, Nat.reduceEqDiff, Nat.reduceAdd, Nat.reduceMul, reduceCtorEq, and_true, true_and, Nat.mul_one, Nat.zero_add, Bool.false_eq_true, decide_true, decide_false, not_false_eq_true, kont_eq, hf10]
    refine iteV_dec (fun hlt4 => ?_) (fun hge4 => ?_)
    · have hi : i < 32 := by omega
      have hq : (i : Int).tdiv 8 = ((i / 8 : Nat) : Int) := by rw [Int.tdiv_eq_ediv_of_nonneg (by omega)]; omega
      have hr : (i : Int).tmod 8 = ((i % 8 : Nat) : Int) := by rw [Int.tmod_eq_emod_of_nonneg (by omega)]; omega
      have h8 : (8 * ((i % 8 : Nat) : Int)) = ((8 * (i % 8) : Nat) : Int) := by omega
      have ga := w64_get s (i / 8) (by omega)
      have gb := w8_get (outN s i) i (by rw [outN_len]; exact hi)
      simp (disch := omega) only [go_sem, List.map_cons, List.map_nil, ↓reduceIte, Nat.reduceEqDiff, Nat.reduceAdd, Nat.reduceMul, reduceCtorEq, and_true, true_and, Nat.mul_one, Nat.zero_add, Bool.false_eq_true, decide_true, decide_false, not_false_eq_true, kont_eq, hf10, hf3, hq, hr, h8, IntWalk.i64_in, SA.cell, BA.cell, BA.frz, ga, gb, tn_cast, shr8]
      repeat (refine And.intro (by omega) ?_)
      refine ⟨32 - (i + 1), by omega, i + 1, by omega, rfl, by simp, ?_, SA.setc_ne _ (by simp only []; omega), UA.setc_ne _ (by simp only []; omega), KA.setc _ (.inr (by simp only []; omega))⟩
      have := BA.setc i (.int .u8 (byteAt s i).toNat)
      rw [w8_set] at this
      exact this
    · have hi : i = 32 := by omega
      subst hi
      have hbl := outN_len s 32
      have e32 : List.take 32 (w8 (outN s 32)) = w8 (outN s 32) := List.take_of_length_le (by rw [w8_len, hbl]; omega)
      have U2 := UA.stNA 0 (w8 (outN s 32))
      rw [wrL_all _ _ (by simp [w8_len, hbl])] at U2
      simp only [go_sem, List.map_cons, List.map_nil, ↓reduceIte, Nat.reduceEqDiff, Nat.reduceAdd, Nat.reduceMul, reduceCtorEq, and_true, true_and, Nat.mul_one, Nat.zero_add, Bool.false_eq_true, decide_true, decide_false, not_false_eq_true, kont_eq, ldNO_ptr, stNH_ptr, okN_ptr, BA.ldNA (o := 0) (n := 32) (by rw [w8_len, hbl]; omega), List.drop_zero, e32, Option.isSome_some, Option.getD_some, cells_agg, true_and,
        U2.ldNA (o := 0) (n := 32) (by rw [w8_len, hbl]; omega)]
      exact ⟨⟨UA.okNA (by simp [w8_len]), by simp [w8_len, hbl], w8_all1 _⟩, by rw [hsR], KA.stNA _ (.inr (by simp only []; omega))⟩
end Go.Mg

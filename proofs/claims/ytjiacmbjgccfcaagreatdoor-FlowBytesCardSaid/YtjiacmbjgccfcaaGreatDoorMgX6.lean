/- Several texts of ours in one. No conditions. -/
import Derived.Test.YtjiacmbjgccfcaaGreatDoorMgV9
import Derived.Test.YtjiacmbjgccfcaaGreatDoorMgX3
import Derived.Test.YtjiacmbjgccfcaaGreatDoorMgV5
open Nat renaming reduceEqDiff → Za, reduceAdd → Zb, reduceMul → Zc, reduceLeDiff → Zd, reduceLT → Ze
open Int renaming reduceBEq → Zf, reduceBNe → Zg, reduceLE → Zh, reduceLT → Zi
namespace Go.Mg
set_option linter.unusedSimpArgs false
set_option linter.unusedVariables false
abbrev RS := List UInt8 × Int
def setL (m : UInt64) : List UInt8 := if m = 0 then [] else byW [m] ((lenB m.toNat - 1) / 8 + 1)
theorem memb_one (m : UInt64) (n : Nat) : memb [m] n = bt m n := by
  by_cases h : n < 64
  · have := memb_at [m] 0 n h
    rw [Nat.mul_zero, Nat.zero_add] at this
    exact this
  · rw [memb_ge (by simp; omega)]
    cases e : bt m n with
    | false => rfl
    | true => exact absurd (bt_lt e) h
theorem setL_bit (m : UInt64) (n : Nat) : bitL (setL m) n = bt m n := by
  unfold setL
  split
  · next h => subst h; rw [bitL_nil, bt_zero]
  · next h =>
    obtain ⟨l1, l2, l3, l4⟩ := lenB_top h
    by_cases hn : n < 8 * ((lenB m.toNat - 1) / 8 + 1)
    · rw [byW_bit _ _ _ hn, memb_one]
    · rw [bitL_ge (by rw [byW_len]; omega)]
      cases e : bt m n with
      | false => rfl
      | true => have := l4 n e; omega
theorem setL_can (m : UInt64) : CanB (setL m) := by
  refine CanB.of_top fun h => ?_
  have hm : m ≠ 0 := fun e => h (by unfold setL; rw [if_pos e])
  obtain ⟨l1, l2, l3, l4⟩ := lenB_top hm
  refine ⟨lenB m.toNat - 1, by rw [setL_bit]; exact l3, ?_⟩
  unfold setL
  rw [if_neg hm, byW_len]
  omega
theorem setL_len (m : UInt64) : (setL m).length ≤ 8 := by
  unfold setL
  split
  · simp
  · next h =>
    obtain ⟨l1, l2, l3, l4⟩ := lenB_top h
    rw [byW_len]; omega
theorem mask_ex (p : Nat → Bool) : ∀ k, k ≤ 64 → ∃ m : UInt64, ∀ n, bt m n = (decide (n < k) && p n)
  | 0, _ => ⟨0, fun n => by rw [bt_zero, decide_eq_false (by omega), Bool.false_and]⟩
  | k + 1, h => by
    obtain ⟨m, hm⟩ := mask_ex p k (by omega)
    cases e : p k with
    | false =>
      refine ⟨m, fun n => ?_⟩
      rw [hm]
      by_cases hn : n = k
      · subst hn; rw [e, Bool.and_false, Bool.and_false]
      · congr 1
        rw [decide_eq_decide]; omega
    | true =>
      refine ⟨orB m k, fun n => ?_⟩
      rw [bt_orB m (by omega), hm]
      by_cases hn : n = k
      · subst hn
        rw [e, decide_eq_true (rfl : n = n), decide_eq_true (show n < n + 1 by omega)]; simp
      · rw [decide_eq_false hn, Bool.or_false]
        congr 1
        rw [decide_eq_decide]; omega
noncomputable def mskP (p : Nat → Bool) : UInt64 := (mask_ex p 64 (by omega)).choose
theorem mskP_bt {p : Nat → Bool} (h : ∀ n, p n = true → n < 64) (n : Nat) : bt (mskP p) n = p n := by
  rw [mskP, (mask_ex p 64 (by omega)).choose_spec]
  cases e : p n with
  | false => rw [Bool.and_false]
  | true => rw [decide_eq_true (h n e)]; rfl
theorem mskP_set (m : UInt64) : mskP (bitL (setL m)) = m := bt_ext fun k hk => by
  rw [mskP_bt (fun n h => by rw [setL_bit] at h; exact bt_lt h), setL_bit]
def encSt (x : StN) : List UInt8 := encB x.1 ++ enc7 x.2.toNat
def encPr (x : PrN) : List UInt8 := enc7 x.1.toNat ++ enc7 x.2.toNat
def encMo (x : MoN) : List UInt8 := enc7 x.1.toNat ++ encB (setL x.2)
def encL {α : Type} (e : α → List UInt8) (l : List α) : List UInt8 := enc7 l.length ++ l.flatMap e
def encF (F : FlN) : List UInt8 := encL encSt F.st ++ (encL encPr F.be ++ (encL encPr F.di ++ (encL encPr F.sa ++ encL encMo F.mo)))
def rdRep {α : Type} (f : RS → α × RS) : Nat → RS → List α × RS
  | 0, s => ([], s)
  | n + 1, s => ((rdRep f n s).1 ++ [(f (rdRep f n s).2).1], (f (rdRep f n s).2).2)
theorem rdRep_len {α : Type} (f : RS → α × RS) : ∀ (n : Nat) (s : RS), (rdRep f n s).1.length = n
  | 0, _ => rfl
  | n + 1, s => by simp [rdRep, rdRep_len f n s]
def rdLst {α : Type} (most : Nat) (f : RS → α × RS) (s : RS) : List α × RS := rdRep f (rdCnt most s).1 (rdCnt most s).2
def rdStp (s : RS) : StN × RS := (((rdByt 12 s).1, ((rdNum 63 (rdByt 12 s).2).1 : Int)), (rdNum 63 (rdByt 12 s).2).2)
def rdPr (s : RS) : PrN × RS := ((((rdNum 10 s).1 : Int), ((rdNum 10 (rdNum 10 s).2).1 : Int)), (rdNum 10 (rdNum 10 s).2).2)
noncomputable def rdMo (s : RS) : MoN × RS := ((((rdNum 10 s).1 : Int), mskP (bitL (rdSt 10 (rdNum 10 s).2).1)), (rdSt 10 (rdNum 10 s).2).2)
noncomputable def rdFl (s : RS) : FlN × RS :=
  let a := rdLst 10 rdStp s
  let b := rdLst 20 rdPr a.2
  let c := rdLst 20 rdPr b.2
  let d := rdLst 20 rdPr c.2
  let e := rdLst 20 rdMo d.2
  (⟨a.1, b.1, c.1, d.1, e.1⟩, e.2)
def RtOk {α : Type} (f : RS → α × RS) (e : α → List UInt8) (P : α → Prop) : Prop := ∀ x, P x → ∀ r, f (e x ++ r, 0) = (x, (r, 0))
theorem rdRep_rt {α : Type} {f : RS → α × RS} {e : α → List UInt8} {P : α → Prop} (h : RtOk f e P) {l : List α} (hl : ∀ x ∈ l, P x) (r : List UInt8) : ∀ n, n ≤ l.length → rdRep f n (l.flatMap e ++ r, 0) = (l.take n, ((l.drop n).flatMap e ++ r, 0))
  | 0, _ => by simp [rdRep]
  | n + 1, hn => by
    rw [rdRep, rdRep_rt h hl r n (by omega)]
    have hd : l.drop n = l[n] :: l.drop (n + 1) := List.drop_eq_getElem_cons (by omega)
    simp only
    rw [hd, List.flatMap_cons, List.append_assoc, h _ (hl _ (List.getElem_mem _)), List.take_succ_eq_append_getElem (by omega)]
theorem rdCnt_rt {most n : Nat} (h : n ≤ most) (hm : most < 18446744073709551616) (r : List UInt8) : rdCnt most (enc7 n ++ r, 0) = (n, (r, 0)) := by
  unfold rdCnt
  rw [if_neg (by simp), dec7_enc _ (by omega)]
  simp only
  rw [if_neg (by omega)]
theorem rdNum_rt {most n : Nat} (h : n ≤ most) (hm : most < 18446744073709551616) (r : List UInt8) : rdNum most (enc7 n ++ r, 0) = (n, (r, 0)) := by
  unfold rdNum
  rw [if_neg (by simp), dec7_enc _ (by omega)]
  simp only
  rw [if_neg (by omega)]
theorem rdByt_rt {m : Nat} {x : List UInt8} (h : x.length ≤ m) (hm : m ≤ 1000000) (r : List UInt8) : rdByt m (encB x ++ r, 0) = (x, (r, 0)) := by
  unfold rdByt
  rw [if_neg (by simp), encB, List.append_assoc, dec7_enc _ (by omega)]
  simp only
  rw [if_neg (by omega), if_neg (by simp), List.take_left, List.drop_left]
theorem rdLst_rt {α : Type} {f : RS → α × RS} {e : α → List UInt8} {P : α → Prop} (h : RtOk f e P) {l : List α} {most : Nat} (hl : ∀ x ∈ l, P x) (hm : l.length ≤ most) (hm2 : most < 18446744073709551616) (r : List UInt8) : rdLst most f (encL e l ++ r, 0) = (l, (r, 0)) := by
  unfold rdLst encL
  rw [List.append_assoc, rdCnt_rt hm hm2]
  simp only
  rw [rdRep_rt h hl r _ (Nat.le_refl _)]
  simp
theorem rdSt_rt {most : Nat} {m : List UInt8} (hc : CanB m) (hl : m.length ≤ 512) (hb : ∀ n, bitL m n = true → n ≤ most) (r : List UInt8) : rdSt most (encB m ++ r, 0) = (m, (r, 0)) := by
  have := rdByt_rt (m := 512) hl (by omega) r
  unfold rdSt
  rw [this, if_neg (by simp), if_neg (by simp), if_neg (not_not_intro hc), if_neg (fun ⟨n, h1, h2⟩ => by have := hb n h1; omega)]
theorem stp_rt : RtOk rdStp encSt fun x => x.1.length ≤ 12 ∧ 0 ≤ x.2 ∧ x.2 ≤ 63 := by
  rintro ⟨nm, ro⟩ ⟨h1, h2, h3⟩ r
  simp only at h1 h2 h3
  unfold rdStp encSt
  simp only
  rw [List.append_assoc, rdByt_rt h1 (by omega)]
  simp only
  rw [rdNum_rt (by omega) (by omega)]
  simp only [Int.toNat_of_nonneg h2]
theorem pr_rt : RtOk rdPr encPr fun x => 0 ≤ x.1 ∧ x.1 ≤ 10 ∧ 0 ≤ x.2 ∧ x.2 ≤ 10 := by
  rintro ⟨a, b⟩ ⟨h1, h2, h3, h4⟩ r
  simp only at h1 h2 h3 h4
  unfold rdPr encPr
  simp only
  rw [List.append_assoc, rdNum_rt (by omega) (by omega)]
  simp only
  rw [rdNum_rt (by omega) (by omega)]
  simp only [Int.toNat_of_nonneg h1, Int.toNat_of_nonneg h3]
theorem mo_rt : RtOk rdMo encMo fun x => 0 ≤ x.1 ∧ x.1 ≤ 10 ∧ x.2.toNat < 2 ^ 11 := by
  rintro ⟨a, m⟩ ⟨h1, h2, h3⟩ r
  simp only at h1 h2 h3
  have hb : ∀ n, bitL (setL m) n = true → n ≤ 10 := fun n hn => by
    rw [setL_bit] at hn
    apply Classical.byContradiction
    intro hc
    unfold bt at hn
    rw [Nat.testBit_lt_two_pow (Nat.lt_of_lt_of_le h3 (Nat.pow_le_pow_right (by omega) (by omega)))] at hn
    cases hn
  have hs := setL_len m
  unfold rdMo encMo
  simp only
  rw [List.append_assoc, rdNum_rt (by omega) (by omega)]
  simp only
  rw [rdSt_rt (setL_can m) (by omega) hb]
  simp only [Int.toNat_of_nonneg h1, mskP_set]
structure OkE (F : FlN) : Prop where
  st : F.st.length ≤ 10 ∧ ∀ x ∈ F.st, x.1.length ≤ 12 ∧ 0 ≤ x.2 ∧ x.2 ≤ 63
  be : F.be.length ≤ 20 ∧ ∀ x ∈ F.be, 0 ≤ x.1 ∧ x.1 ≤ 10 ∧ 0 ≤ x.2 ∧ x.2 ≤ 10
  di : F.di.length ≤ 20 ∧ ∀ x ∈ F.di, 0 ≤ x.1 ∧ x.1 ≤ 10 ∧ 0 ≤ x.2 ∧ x.2 ≤ 10
  sa : F.sa.length ≤ 20 ∧ ∀ x ∈ F.sa, 0 ≤ x.1 ∧ x.1 ≤ 10 ∧ 0 ≤ x.2 ∧ x.2 ≤ 10
  mo : F.mo.length ≤ 20 ∧ ∀ x ∈ F.mo, 0 ≤ x.1 ∧ x.1 ≤ 10 ∧ x.2.toNat < 2 ^ 11
theorem rdFl_rt {F : FlN} (h : OkE F) (r : List UInt8) : rdFl (encF F ++ r, 0) = (F, (r, 0)) := by
  unfold rdFl encF
  simp only [List.append_assoc]
  rw [rdLst_rt stp_rt h.st.2 h.st.1 (by omega)]
  simp only
  rw [rdLst_rt pr_rt h.be.2 h.be.1 (by omega)]
  simp only
  rw [rdLst_rt pr_rt h.di.2 h.di.1 (by omega)]
  simp only
  rw [rdLst_rt pr_rt h.sa.2 h.sa.1 (by omega)]
  simp only
  rw [rdLst_rt mo_rt h.mo.2 h.mo.1 (by omega)]
theorem encF_inj {F G : FlN} (hF : OkE F) (hG : OkE G) {r t : List UInt8} (h : encF F ++ r = encF G ++ t) : F = G ∧ r = t := by
  have h1 := rdFl_rt hF r
  rw [h, rdFl_rt hG t] at h1
  simp only [Prod.mk.injEq, and_true] at h1
  exact ⟨h1.1.symm, h1.2.symm⟩
theorem okF_E {F : FlN} (h : okF F = true) : OkE F := by
  obtain ⟨hG, hs⟩ := flwE_0.1 (okF_iff.1 h)
  have hl := hG.lim
  have h10 := hG.lt
  unfold tooL at hl
  have pr : ∀ {l : List PrN}, (∀ x ∈ l, okP (F.st.length : Int) x ∧ x.1 ≠ x.2) → ∀ x ∈ l, 0 ≤ x.1 ∧ x.1 ≤ 10 ∧ 0 ≤ x.2 ∧ x.2 ≤ 10 := fun hh x hx => by
    have := (hh x hx).1
    unfold okP at this
    omega
  refine ⟨⟨h10, fun x hx => ?_⟩, ⟨by omega, pr hG.be⟩, ⟨by omega, pr hG.di⟩, ⟨by omega, pr hG.sa⟩, ⟨by omega, fun x hx => ?_⟩⟩
  · obtain ⟨i, hi, rfl⟩ := List.getElem_of_mem hx
    have := hs i hi
    rw [List.getD_eq_getElem?_getD, List.getElem?_eq_getElem hi, Option.getD_some] at this
    unfold stE1 at this
    split at this
    · omega
    · next hv =>
      have hv : validF F.st[i].1 = true := by simpa using hv
      unfold validF at hv
      simp only [Bool.and_eq_true, decide_eq_true_eq] at hv
      split at this
      · omega
      · split at this
        · omega
        · next hr => exact ⟨hv.1.1.1.2, by omega, by omega⟩
  · have := hG.mo x hx
    unfold moE1 at this
    split at this
    · omega
    · next hh =>
      have hp : 2 ^ F.st.length ≤ 2 ^ 11 := Nat.pow_le_pow_right (by omega) (by omega)
      omega
end Go.Mg
namespace Go.Mg
open Go Go.RowKit
set_option linter.unusedSimpArgs false
set_option linter.unusedVariables false
set_option maxRecDepth 100000
def c_fbyt (ι : Ids) : S :=
  .seq (.reg [.e (.v 1) (.box (ι.t 296) (.v 0)), .p (.v 2) (.mv (.c (.slice .none 0 0)))]) (.seq (.seq (.reg [.p (.t 12) (.m (.ldn 5 (.v 1))), .e (.t 13) (.call (ι.f 312) [.t 12]), .p (.v 14) (.not (.t
  13))]) (.ite (.v 14) (.seq (.reg [.p (.v 2) (.mv (.c (.slice .none 0 0)))]) .ret) .skip)) (.seq (.reg [.e (.t 15) (.call (ι.f 55) []), .p (.v 3) (.mv (.t 15))]) (.seq (.reg [.p (.t 16) (.mv (.v 3)),
  .p (.t 17) (.fa 0 (.v 1)), .p (.t 18) (.ld (.t 17)), .p (.t 19) (.m (.lenl (.t 18))), .p (.t 20) (.ii .u64 (.t 19)), .e (.t 21) (.call (ι.f 57) [.t 16, .t 20])]) (.seq (.seq (.reg [.p (.t 22) (.fa 0
  (.v 1)), .p (.v 23) (.ld (.t 22)), .p (.v 24) (.m (.lenl (.v 23))), .p (.v 25) (.mv (.c (.int .i64 0)))]) (.blk 0 (.loop (.seq (.reg [.p (.v 26) (.cm .lss .i64 (.v 25) (.v 24))]) (.seq (.ite (.v 26)
  .skip (.exit 0)) (.seq (.blk 1 (.seq (.reg [.p (.t 27) (.is 2 (.v 23) (.v 25)), .p (.t 28) (.m (.ldn 2 (.t 27))), .e (.v 5) (.new (ι.t 297) #[.string ⟨#[]⟩, .int .i64 0]), .e .no (.stn 2 (.v 5) (.t
  28))]) (.seq (.reg [.p (.t 29) (.mv (.v 3)), .p (.t 30) (.fa 0 (.v 5)), .p (.t 31) (.ld (.t 30)), .e (.t 32) (.call (ι.f 59) [.t 29, .t 31])]) (.reg [.p (.t 33) (.mv (.v 3)), .p (.t 34) (.fa 1 (.v
  5)), .p (.t 35) (.ld (.t 34)), .p (.t 36) (.ii .u64 (.t 35)), .e (.t 37) (.call (ι.f 57) [.t 33, .t 36])])))) (.reg [.p (.t 38) (.ar .add .i64 (.v 25) (.c (.int .i64 1))), .p (.v 25) (.mv (.t
  38))]))))))) (.seq (.seq (.reg [.p (.t 39) (.fa 1 (.v 1)), .p (.t 40) (.ld (.t 39)), .p (.t 41) (.fa 2 (.v 1)), .p (.t 42) (.ld (.t 41)), .p (.t 43) (.fa 3 (.v 1)), .p (.t 44) (.ld (.t 43)), .e (.v
  45) (.bldF (ι.t 235) 1 3 [.t 40, .t 42, .t 44]), .p (.v 46) (.m (.lenl (.v 45))), .p (.v 47) (.mv (.c (.int .i64 0)))]) (.blk 2 (.loop (.seq (.reg [.p (.v 48) (.cm .lss .i64 (.v 47) (.v 46))]) (.seq
  (.ite (.v 48) .skip (.exit 2)) (.seq (.blk 3 (.seq (.reg [.p (.t 49) (.is 1 (.v 45) (.v 47)), .p (.t 50) (.ld (.t 49)), .p (.v 7) (.mv (.t 50))]) (.seq (.reg [.p (.t 51) (.mv (.v 3)), .p (.t 52) (.mv
  (.v 7)), .p (.t 53) (.m (.lenl (.t 52))), .p (.t 54) (.ii .u64 (.t 53)), .e (.t 55) (.call (ι.f 57) [.t 51, .t 54])]) (.seq (.reg [.p (.v 56) (.mv (.v 7)), .p (.v 57) (.m (.lenl (.v 56))), .p (.v 58)
  (.mv (.c (.int .i64 0)))]) (.blk 4 (.loop (.seq (.reg [.p (.v 59) (.cm .lss .i64 (.v 58) (.v 57))]) (.seq (.ite (.v 59) .skip (.exit 4)) (.seq (.blk 5 (.seq (.reg [.p (.t 60) (.is 2 (.v 56) (.v 58)),
  .p (.t 61) (.m (.ldn 2 (.t 60))), .e (.v 9) (.new (ι.t 194) #[.int .i64 0, .int .i64 0]), .e .no (.stn 2 (.v 9) (.t 61))]) (.seq (.reg [.p (.t 62) (.mv (.v 3)), .p (.t 63) (.ia 2 1 (.v 9) (.c (.int
  .i64 0))), .p (.t 64) (.ld (.t 63)), .p (.t 65) (.ii .u64 (.t 64)), .e (.t 66) (.call (ι.f 57) [.t 62, .t 65])]) (.reg [.p (.t 67) (.mv (.v 3)), .p (.t 68) (.ia 2 1 (.v 9) (.c (.int .i64 1))), .p (.t
  69) (.ld (.t 68)), .p (.t 70) (.ii .u64 (.t 69)), .e (.t 71) (.call (ι.f 57) [.t 67, .t 70])])))) (.reg [.p (.t 72) (.ar .add .i64 (.v 58) (.c (.int .i64 1))), .p (.v 58) (.mv (.t 72))]))))))))))
  (.reg [.p (.t 73) (.ar .add .i64 (.v 47) (.c (.int .i64 1))), .p (.v 47) (.mv (.t 73))]))))))) (.seq (.reg [.p (.t 74) (.mv (.v 3)), .p (.t 75) (.fa 4 (.v 1)), .p (.t 76) (.ld (.t 75)), .p (.t 77) (.m
  (.lenl (.t 76))), .p (.t 78) (.ii .u64 (.t 77)), .e (.t 79) (.call (ι.f 57) [.t 74, .t 78])]) (.seq (.seq (.reg [.p (.t 80) (.fa 4 (.v 1)), .p (.v 81) (.ld (.t 80)), .p (.v 82) (.m (.lenl (.v 81))),
  .p (.v 83) (.mv (.c (.int .i64 0)))]) (.blk 6 (.loop (.seq (.reg [.p (.v 84) (.cm .lss .i64 (.v 83) (.v 82))]) (.seq (.ite (.v 84) .skip (.exit 6)) (.seq (.blk 7 (.seq (.reg [.p (.t 85) (.is 2 (.v 81)
  (.v 83)), .p (.t 86) (.m (.ldn 2 (.t 85))), .e (.v 11) (.new (ι.t 298) #[.int .i64 0, .slice .none 0 0]), .e .no (.stn 2 (.v 11) (.t 86))]) (.seq (.reg [.p (.t 87) (.mv (.v 3)), .p (.t 88) (.fa 0 (.v
  11)), .p (.t 89) (.ld (.t 88)), .p (.t 90) (.ii .u64 (.t 89)), .e (.t 91) (.call (ι.f 57) [.t 87, .t 90])]) (.reg [.p (.t 92) (.mv (.v 3)), .p (.t 93) (.fa 1 (.v 11)), .p (.t 94) (.m (.ldn 1 (.t
  93))), .e (.t 95) (.call (ι.f 340) [.t 92, .t 94])])))) (.reg [.p (.t 96) (.ar .add .i64 (.v 83) (.c (.int .i64 1))), .p (.v 83) (.mv (.t 96))]))))))) (.seq (.reg [.p (.t 97) (.mv (.v 3)), .e (.t 98)
  (.call (ι.f 60) [.t 97]), .p (.v 2) (.mv (.t 98))]) .ret))))))))
def r_fbyt : List RV := [.t 2]
def WrI (C : Nat) (N : Nat → Prop) (w : Nat) (l : List UInt8) (A : Hp) : Prop := ∃ F, WrB F A w l ∧ ∀ q, F q → C ≤ q ∧ ¬ N q
def WrW (C : Nat) (N : Nat → Prop) (q : Nat) : Prop := C ≤ q ∧ ¬ N q
theorem WrI.keep0 {C : Nat} {N : Nat → Prop} {w : Nat} {l : List UInt8} {A A' : Hp} (h : WrI C N w l A) (hk : Keep (fun _ => False) A A') : WrI C N w l A' := by
  obtain ⟨F, h1, h2⟩ := h
  exact ⟨F, h1.keep hk (by simp), h2⟩
theorem WrI.new {C : Nat} {N : Nat → Prop} {w : Nat} {l : List UInt8} {A A' : Hp} {b : Nat} (h : WrI C N w l A) (hk : Keep (fun _ => False) A A') (hb : A.size ≤ b) : WrI C (fun q => N q ∨ q = b) w l A' := by
  obtain ⟨F, h1, h2⟩ := h
  refine ⟨F, h1.keep hk (by simp), fun q hq => ⟨(h2 q hq).1, fun hn => ?_⟩⟩
  rcases hn with hn | rfl
  · exact (h2 q hq).2 hn
  · have := h1.bound q hq; omega
theorem WrI.mono {C : Nat} {N N' : Nat → Prop} {w : Nat} {l : List UInt8} {A : Hp} (h : WrI C N w l A) (hn : ∀ q, N' q → N q) : WrI C N' w l A := by
  obtain ⟨F, h1, h2⟩ := h
  exact ⟨F, h1, fun q hq => ⟨(h2 q hq).1, fun h => (h2 q hq).2 (hn q h)⟩⟩
theorem WrI.step {C : Nat} {N : Nat → Prop} {w : Nat} {l l' : List UInt8} {A A' : Hp} {F : Nat → Prop} (h2 : ∀ q, F q → C ≤ q ∧ ¬ N q) (hN : ∀ q, N q → q < A.size) (hC : C ≤ A.size) (h' : WrB (grow F A A') A' w l') (hk : Keep F A A') : WrI C N w l' A' ∧ Keep (WrW C N) A A' := by
  refine ⟨⟨_, h', fun q hq => ?_⟩, hk.mono fun q _ hq => h2 q hq⟩
  rcases hq with hq | hq
  · exact h2 q hq
  · exact ⟨by omega, fun hn => by have := hN q hn; omega⟩
theorem WrI.uint {P : Program} {j : FuncId} (hu : WUintSpec P j) {C : Nat} {N : Nat → Prop} {w : Nat} {l : List UInt8} {A : Hp} (h : WrI C N w l A) (hN : ∀ q, N q → q < A.size) (hC : C ≤ A.size) {v : Nat} (hv : v < 18446744073709551616) (hl : l.length ≤ 90000000) {K : Value → Hp → Prop}
    (hK : ∀ A', WrI C N w (l ++ enc7 v) A' → Keep (WrW C N) A A' → K (.tuple #[]) A') : CallsM P j #[.pointer (some ⟨w, 0, none⟩), .int .u64 v] A K := by
  obtain ⟨F, h1, h2⟩ := h
  refine (hu F w l v A h1 hv hl).mono ?_
  rintro r A' ⟨rfl, h', hk⟩
  obtain ⟨a, b⟩ := WrI.step (l := l) h2 hN hC h' hk
  exact hK A' a b
theorem WrI.str {P : Program} {j : FuncId} (hs : WStringSpec P j) {C : Nat} {N : Nat → Prop} {w : Nat} {l m : List UInt8} {A : Hp} (h : WrI C N w l A) (hN : ∀ q, N q → q < A.size) (hC : C ≤ A.size) (hl : l.length + m.length ≤ 80000000) {K : Value → Hp → Prop}
    (hK : ∀ A', WrI C N w (l ++ encB m) A' → Keep (WrW C N) A A' → K (.tuple #[]) A') : CallsM P j #[.pointer (some ⟨w, 0, none⟩), .string ⟨m.toArray⟩] A K := by
  obtain ⟨F, h1, h2⟩ := h
  refine (hs F w l m A h1 hl).mono ?_
  rintro r A' ⟨rfl, h', hk⟩
  obtain ⟨a, b⟩ := WrI.step (l := l) h2 hN hC h' hk
  exact hK A' a b
theorem WrI.set {P : Program} {j : FuncId} (hs : WSetSpec P j) {C : Nat} {N : Nat → Prop} {w : Nat} {l m : List UInt8} {p : Nat → Bool} {x : Value} {A : Hp} (h : WrI C N w l A) (hN : ∀ q, N q → q < A.size) (hC : C ≤ A.size) (hx : SetM A x p) (hm : CanB m) (hmp : ∀ n, bitL m n = p n) (hl : l.length ≤ 70000000) {K : Value → Hp → Prop}
    (hK : ∀ A', WrI C N w (l ++ encB m) A' → Keep (WrW C N) A A' → K (.tuple #[]) A') : CallsM P j #[.pointer (some ⟨w, 0, none⟩), x] A K := by
  obtain ⟨F, h1, h2⟩ := h
  refine (hs F w l m p x A h1 hx hm hmp hl).mono ?_
  rintro r A' ⟨rfl, h', hk⟩
  obtain ⟨a, b⟩ := WrI.step (l := l) h2 hN hC h' hk
  exact hK A' a b
theorem flat_len {α : Type} {e : α → List UInt8} {c : Nat} : ∀ {l : List α}, (∀ x ∈ l, (e x).length ≤ c) → (l.flatMap e).length ≤ c * l.length
  | [], _ => by simp
  | x :: l, h => by
    have h1 := h x List.mem_cons_self
    have h2 := flat_len (l := l) fun y hy => h y (List.mem_cons_of_mem _ hy)
    rw [List.flatMap_cons, List.length_append, List.length_cons, Nat.mul_succ]
    omega
theorem take_flat {α : Type} (e : α → List UInt8) {l : List α} {i : Nat} (hi : i < l.length) : (l.take (i + 1)).flatMap e = (l.take i).flatMap e ++ e l[i] := by
  rw [List.take_succ_eq_append_getElem hi, List.flatMap_append, List.flatMap_cons, List.flatMap_nil, List.append_nil]
def L3 (F : FlN) : List (List PrN) := [F.be, F.di, F.sa]
theorem encF_3 (F : FlN) : encF F = encL encSt F.st ++ ((L3 F).flatMap (encL encPr) ++ encL encMo F.mo) := by
  simp [encF, L3]
theorem OkE.stl {F : FlN} (h : OkE F) (i : Nat) : (enc7 F.st.length ++ (F.st.take i).flatMap encSt).length ≤ 400 := by
  have h1 := enc7_len F.st.length (by have := h.st.1; omega)
  have h2 := flat_len (e := encSt) (c := 34) (l := F.st.take i) fun x hx => by
    have hx := h.st.2 x (List.mem_of_mem_take hx)
    have a := enc7_len x.1.length (by omega)
    have b := enc7_len x.2.toNat (by omega)
    simp only [encSt, encB, List.length_append]
    omega
  have h3 : (F.st.take i).length ≤ 10 := by rw [List.length_take]; have := h.st.1; omega
  rw [List.length_append]
  have := Nat.mul_le_mul_left 34 h3
  omega
theorem prs_len {l : List PrN} (h : ∀ x ∈ l, 0 ≤ x.1 ∧ x.1 ≤ 10 ∧ 0 ≤ x.2 ∧ x.2 ≤ 10) (hl : l.length ≤ 20) (i : Nat) : (enc7 l.length ++ (l.take i).flatMap encPr).length ≤ 500 := by
  have h1 := enc7_len l.length (by omega)
  have h2 := flat_len (e := encPr) (c := 22) (l := l.take i) fun x hx => by
    have hx := h x (List.mem_of_mem_take hx)
    have a := enc7_len x.1.toNat (by omega)
    have b := enc7_len x.2.toNat (by omega)
    simp only [encPr, List.length_append]
    omega
  have h3 : (l.take i).length ≤ 20 := by rw [List.length_take]; omega
  rw [List.length_append]
  have := Nat.mul_le_mul_left 22 h3
  omega
theorem OkE.mol {F : FlN} (h : OkE F) (i : Nat) : (enc7 F.mo.length ++ (F.mo.take i).flatMap encMo).length ≤ 700 := by
  have h1 := enc7_len F.mo.length (by have := h.mo.1; omega)
  have h2 := flat_len (e := encMo) (c := 30) (l := F.mo.take i) fun x hx => by
    have hx := h.mo.2 x (List.mem_of_mem_take hx)
    have a := enc7_len x.1.toNat (by omega)
    have s := setL_len x.2
    have b := enc7_len (setL x.2).length (by omega)
    simp only [encMo, encB, List.length_append]
    omega
  have h3 : (F.mo.take i).length ≤ 20 := by rw [List.length_take]; have := h.mo.1; omega
  rw [List.length_append]
  have := Nat.mul_le_mul_left 30 h3
  omega
theorem OkE.l3 {F : FlN} (h : OkE F) {l : List PrN} (hl : l ∈ L3 F) : (∀ x ∈ l, 0 ≤ x.1 ∧ x.1 ≤ 10 ∧ 0 ≤ x.2 ∧ x.2 ≤ 10) ∧ l.length ≤ 20 := by
  simp only [L3, List.mem_cons, List.not_mem_nil, or_false] at hl
  rcases hl with rfl | rfl | rfl
  · exact ⟨h.be.2, h.be.1⟩
  · exact ⟨h.di.2, h.di.1⟩
  · exact ⟨h.sa.2, h.sa.1⟩
theorem OkE.l3l {F : FlN} (h : OkE F) (j : Nat) : (((L3 F).take j).flatMap (encL encPr)).length ≤ 1500 := by
  have h2 := flat_len (e := encL encPr) (c := 500) (l := (L3 F).take j) fun l hl => by
    obtain ⟨a, b⟩ := h.l3 (List.mem_of_mem_take hl)
    have := prs_len a b l.length
    rw [List.take_length] at this
    exact this
  have h3 : ((L3 F).take j).length ≤ 3 := by rw [List.length_take]; simp [L3]; omega
  have := Nat.mul_le_mul_left 500 h3
  omega
def FBytSpec (P : Program) (ι : Ids) (k : FuncId) : Prop := ∀ (F : FlN) (v : Value) (H : Hp), TabOk ι H → ProFl H v F → okF F = true → CallsM P k #[v] H fun r H' => OwS H' r (w8 (encF F)) ∧ (∀ q, ownB r q → H.size ≤ q) ∧ Keep (fun _ => False) H H'
structure FByC (P : Program) (ι : Ids) : Prop where
  good : FGoodSpec P ι (ι.f 312)
  new : WNewSpec P (ι.f 55)
  uint : WUintSpec P (ι.f 57)
  str : WStringSpec P (ι.f 59)
  set : WSetSpec P (ι.f 340)
  out : WOutSpec P (ι.f 60)
theorem u64n {z : Int} (h1 : 0 ≤ z) (h2 : z ≤ 1000000) : IntKind.u64.wrap z = ((z.toNat : Nat) : Int) := by
  rw [IntKind.wrap_u64]; omega
theorem fbyt_ok {P : Program} {ι : Ids} {k : FuncId} (hk : FnIs P k (c_fbyt ι) r_fbyt 1) (c : FByC P ι) : FBytSpec P ι k := by
  intro F v H hT hv hok
  obtain ⟨Q, hQ⟩ : ∃ Q : Value → Hp → Prop, Q = fun r H' => OwS H' r (w8 (encF F)) ∧ (∀ q, ownB r q → H.size ≤ q) ∧ Keep (fun _ => False) H H' := ⟨_, rfl⟩
  rw [← hQ]
  have hE := okF_E hok
  have hv0 := hv
  obtain ⟨s, b, d, a, m, ms, rfl, h1, h2, h3, h4, h5, h6⟩ := hv
  obtain ⟨b0, bc, eb, -⟩ := h2.mk
  obtain ⟨d0, dc, ed, -⟩ := h3.mk
  obtain ⟨a0, ac, ea, -⟩ := h4.mk
  refine calls_of_vc hk (args := [_]) (by simp) ?_
  unfold c_fbyt r_fbyt
  simp -implicitDefEqProofs only [go_sem, zS, ↓reduceIte, Za, Zb, Zc, reduceCtorEq, zU, zV, Zf, Zg, Zh, Zi, Zd, Ze, zF]
  refine kont_new fun H1 b1 e1 z1 B1 K1 => ?_
  have B1' : Bl H1 b1 [s, b, d, a, m] := B1
  have s1 := K1.size
  simp -implicitDefEqProofs only [go_sem, zS, ↓reduceIte, Za, Zb, Zc, reduceCtorEq, zU, zV, Zf, Zg, Zh, Zi, Zd, Ze, zF, B1'.ldNO 5 rfl]
  refine (c.good F _ H1 (hT.keep K1) (hv0.keep0 K1)).mono ?_
  rintro r H2 ⟨rfl, K2⟩
  have B2 := K2.bl B1' (by simp)
  have K12 := K1.trans K2
  have s2 := K2.size
  rw [kont_eq, hok]
  simp -implicitDefEqProofs only [go_sem, zS, ↓reduceIte, Za, Zb, Zc, reduceCtorEq, zU, zV, Zf, Zg, Zh, Zi, Zd, Ze, zF, Bool.not_true]
  refine (c.new H2).mono ?_
  rintro r H3 ⟨rfl, W3, K3⟩
  have B3 := K3.bl B2 (by simp)
  have K13 := K12.trans K3
  have s3 := K3.size
  generalize hw : H2.size = w at *
  have hbC : b1 < w := by have := B2.lt; omega
  have I3 : WrI w (fun _ => False) w [] H3 := ⟨_, W3, fun q hq => ⟨by omega, fun h => h⟩⟩
  have l1 := hE.st.1
  have cl : ∀ {A : Hp}, Bl A b1 [s, b, d, a, m] → cell A ⟨b1, 0, none⟩ = some s ∧ cell A ⟨b1, 1, none⟩ = some b ∧ cell A ⟨b1, 2, none⟩ = some d ∧ cell A ⟨b1, 3, none⟩ = some a ∧ cell A ⟨b1, 4, none⟩ = some m := fun B => ⟨by rw [B.cell]; rfl, by rw [B.cell]; rfl, by rw [B.cell]; rfl, by rw [B.cell]; rfl, by rw [B.cell]; rfl⟩
  -- what is kept while bytes are written
  have kp : ∀ {A A' : Hp} {N : Nat → Prop}, Keep (WrW w N) A A' → Keep (fun q => w ≤ q) A A' := fun h => h.mono fun q _ hq => hq.1
  rw [kont_eq]
  simp -implicitDefEqProofs only [go_sem, zS, ↓reduceIte, Za, Zb, Zc, reduceCtorEq, zU, zV, Zf, Zg, Zh, Zi, Zd, Ze, zF, (cl B3).1, h1.isSl, h1.len, u64n (show (0 : Int) ≤ (F.st.length : Int) by omega) (show (F.st.length : Int) ≤ 1000000 by omega), Int.toNat_natCast]
  refine I3.uint c.uint (by simp) (by omega) (by omega) (by simp) fun A I4 K4 => ?_
  have K4 := kp K4
  have KA : Keep (fun q => w ≤ q) H3 A := K4
  have B4 := KA.bl B3 (by omega)
  have sA := KA.size
  rw [List.nil_append] at I4
  rw [kont_eq]
  simp -implicitDefEqProofs only [go_sem, zS, ↓reduceIte, Za, Zb, Zc, reduceCtorEq, zU, zV, Zf, Zg, Zh, Zi, Zd, Ze, zF, (cl B4).1, h1.isSl, h1.len]
  have old : ∀ {A' : Hp}, Keep (fun q => w ≤ q) H3 A' → Keep (fun _ => False) H A' := fun K => K13.trans' K fun q hq e => by omega
  refine vc_range F.st.length [26, 5, 25] rfl rfl (by omega) (by simp -implicitDefEqProofs only [go_sem, zS, ↓reduceIte, Za, Zb, Zc, reduceCtorEq, kont_eq, zU, zV, Zf, Zg, Zh, Zi, Zd, Ze]) (by simp -implicitDefEqProofs only [go_sem, zS, ↓reduceIte, Za, Zb, Zc, reduceCtorEq, kont_eq, zU, zV, Zf, Zg, Zh, Zi, Zd, Ze]) (fun i g A => WrI w (fun _ => False) w (enc7 F.st.length ++ (F.st.take i).flatMap encSt) A ∧ Keep (fun q => w ≤ q) H3 A) ⟨by simpa using I4, KA⟩ ?_ ?_
  · rintro i g A hi gi gn ⟨I, K⟩
    simp -implicitDefEqProofs only [go_sem, zS, ↓reduceIte, Za, Zb, Zc, reduceCtorEq, kont_eq, zU, zV, Zf, Zg, Zh, Zi, Zd, Ze] at gi gn
    have KH := old K
    obtain ⟨sb, so, sc, rfl, -, hld⟩ := (h1.keep0 KH).elem encS_len (i := i) hi
    have sA := K.size
    have hx := hE.st.2 _ (List.getElem_mem hi)
    simp -implicitDefEqProofs only [go_sem, zS, ↓reduceIte, Za, Zb, Zc, reduceCtorEq, zU, zV, Zf, Zg, Zh, Zi, Zd, Ze, zF, gi, tn_cast, ldNO_ptr, hld]
    refine ⟨⟨by omega, by omega⟩, ?_⟩
    refine kont_newst (encS F.st[i]) (by simp -implicitDefEqProofs only [go_sem, zS, ↓reduceIte, Za, Zb, Zc, reduceCtorEq, kont_eq, zU, zV, Zf, Zg, Zh, Zi, Zd, Ze]) rfl rfl (List.all_eq_true.2 (encS_one _)) fun A1 b5 e5 z5 B5 K5 => ?_
    have s5 := K5.size
    have c0 : cell A1 ⟨b5, 0, none⟩ = some (sV F.st[i].1) := by rw [B5.cell]; rfl
    have J1 := I.new (b := b5) K5 (by omega)
    have hb := hE.stl i
    simp -implicitDefEqProofs only [go_sem, zS, ↓reduceIte, Za, Zb, Zc, reduceCtorEq, zU, zV, Zf, Zg, Zh, Zi, Zd, Ze, zF, c0, sV]
    refine J1.str c.str (fun q hq => by rcases hq with hq | hq; exact hq.elim; omega) (by omega) (by omega) fun A2 J2 K6 => ?_
    have B52 := K6.bl B5 fun h => h.2 (.inr rfl)
    have s6 := K6.size
    have c1 : cell A2 ⟨b5, 1, none⟩ = some (.int .i64 F.st[i].2) := by rw [B52.cell]; rfl
    have hb2 := enc7_len F.st[i].1.length (by omega)
    rw [kont_eq]
    simp -implicitDefEqProofs only [go_sem, zS, ↓reduceIte, Za, Zb, Zc, reduceCtorEq, zU, zV, Zf, Zg, Zh, Zi, Zd, Ze, zF, c1, u64n hx.2.1 (by omega)]
    refine J2.uint c.uint (fun q hq => by rcases hq with hq | hq; exact hq.elim; omega) (by omega) (by omega) (by simp only [List.length_append, encB] at hb ⊢; omega) fun A3 J3 K7 => ?_
    rw [kont_eq]
    simp -implicitDefEqProofs only [go_sem, zS, ↓reduceIte, Za, Zb, Zc, reduceCtorEq, kont_eq, zU, zV, Zf, Zg, Zh, Zi, Zd, Ze, zF]
    refine ⟨?_, ((K.trans K5.any).trans (kp K6)).trans (kp K7)⟩
    rw [take_flat _ hi, encSt, ← List.append_assoc, ← List.append_assoc]
    exact J3.mono fun q h => h.elim
  · rintro g A - ⟨I, K⟩
    rw [List.take_length] at I
    have B5 := K.bl B3 (by omega)
    obtain ⟨-, q1, q2, q3, -⟩ := cl B5
    have sA := K.size
    obtain ⟨us, hus⟩ : ∃ us, us = [b, d, a] := ⟨_, rfl⟩
    have hul : us.length = 3 := by rw [hus]; rfl
    have hsl : ∀ j < 3, SlP H (us.getD j undef) ((L3 F).getD j []) ∧ (L3 F).getD j [] ∈ L3 F := fun j hj => by
      have : j = 0 ∨ j = 1 ∨ j = 2 := by omega
      rw [hus]
      rcases this with rfl | rfl | rfl
      · exact ⟨h2, by simp [L3]⟩
      · exact ⟨h3, by simp [L3]⟩
      · exact ⟨h4, by simp [L3]⟩
    rw [eb] at q1
    rw [ed] at q2
    rw [ea] at q3
    simp -implicitDefEqProofs only [go_sem, zS, ↓reduceIte, Za, Zb, Zc, reduceCtorEq, zU, zV, Zf, Zg, Zh, Zi, Zd, Ze, zF, q1, q2, q3, Value.cells]
    refine kont_news fun A1 b45 e45 z45 B45 K45 => ?_
    have B45' : Bl A1 b45 us := by rw [hus, eb, ed, ea]; exact B45
    have s45 := K45.size
    have I1 := I.new (b := b45) K45 (by omega)
    have K31 := K.trans K45.any
    clear hus B45
    simp -implicitDefEqProofs only [go_sem, zS, ↓reduceIte, Za, Zb, Zc, reduceCtorEq, zU, zV, Zf, Zg, Zh, Zi, Zd, Ze, zF]
    have hL3 : (L3 F).length = 3 := rfl
    refine vc_range 3 [48, 7, 56, 57, 58, 59, 9, 47] rfl rfl (by omega) (by simp -implicitDefEqProofs only [go_sem, zS, ↓reduceIte, Za, Zb, Zc, reduceCtorEq, kont_eq, zU, zV, Zf, Zg, Zh, Zi, Zd, Ze]) (by simp -implicitDefEqProofs only [go_sem, zS, ↓reduceIte, Za, Zb, Zc, reduceCtorEq, kont_eq, zU, zV, Zf, Zg, Zh, Zi, Zd, Ze]) (fun j g X => WrI w (fun q => False ∨ q = b45) w (encL encSt F.st ++ ((L3 F).take j).flatMap (encL encPr)) X ∧ Bl X b45 us ∧ Keep (fun q => w ≤ q) H3 X) ⟨by simpa [encL] using I1, B45', K31⟩ ?_ ?_
    · rintro j g2 X hj gi gn ⟨J, BX, KX⟩
      simp -implicitDefEqProofs only [go_sem, zS, ↓reduceIte, Za, Zb, Zc, reduceCtorEq, kont_eq, zU, zV, Zf, Zg, Zh, Zi, Zd, Ze] at gi gn
      obtain ⟨hslj, hmem⟩ := hsl j hj
      obtain ⟨hpr, hll⟩ := hE.l3 hmem
      have KHX := old KX
      have hslX := hslj.keep0 KHX
      have hcj : cell X ⟨b45, j, none⟩ = some (us.getD j undef) := by
        rw [BX.cell, List.getElem?_eq_getElem (by omega), List.getD_eq_getElem?_getD, List.getElem?_eq_getElem (by omega)]; rfl
      have sX := KX.size
      have hNX : ∀ q, (False ∨ q = b45) → q < X.size := fun q hq => by
        rcases hq with hq | hq
        · exact hq.elim
        · rw [hq]; exact BX.lt
      have hb1 := hE.stl F.st.length
      rw [List.take_length] at hb1
      have hb1 : (encL encSt F.st).length ≤ 400 := hb1
      have hb2 := hE.l3l j
      generalize hU : us.getD j undef = u at *
      generalize hL : (L3 F).getD j [] = pl at *
      simp -implicitDefEqProofs only [go_sem, zS, ↓reduceIte, Za, Zb, Zc, reduceCtorEq, zU, zV, Zf, Zg, Zh, Zi, Zd, Ze, zF, gi, tn_cast, hcj, hslX.isSl, hslX.len, u64n (show (0 : Int) ≤ (pl.length : Int) by omega) (show (pl.length : Int) ≤ 1000000 by omega), Int.toNat_natCast]
      refine ⟨by omega, J.uint c.uint hNX (by omega) (by omega) (by rw [List.length_append]; omega) fun X1 J1 L1 => ?_⟩
      have BX1 := L1.bl BX fun h => h.2 (.inr rfl)
      have KX1 := KX.trans (kp L1)
      have hslX1 := hslj.keep0 (old KX1)
      have sX1 := L1.size
      have hll' : pl.length ≤ 9223372036854775807 := by omega
      rw [kont_eq]
      simp -implicitDefEqProofs only [go_sem, zS, ↓reduceIte, Za, Zb, Zc, reduceCtorEq, zU, zV, Zf, Zg, Zh, Zi, Zd, Ze, zF, hslX1.isSl, hslX1.len]
      refine vc_range pl.length [59, 9, 58] rfl rfl hll' (by simp -implicitDefEqProofs only [go_sem, zS, ↓reduceIte, Za, Zb, Zc, reduceCtorEq, kont_eq, zU, zV, Zf, Zg, Zh, Zi, Zd, Ze]) (by simp -implicitDefEqProofs only [go_sem, zS, ↓reduceIte, Za, Zb, Zc, reduceCtorEq, kont_eq, zU, zV, Zf, Zg, Zh, Zi, Zd, Ze]) (fun i g Y => WrI w (fun q => False ∨ q = b45) w (encL encSt F.st ++ ((L3 F).take j).flatMap (encL encPr) ++ (enc7 pl.length ++ (pl.take i).flatMap encPr)) Y ∧ Bl Y b45 us ∧ Keep (fun q => w ≤ q) H3 Y) ⟨by simpa [encL] using J1, BX1, KX1⟩ ?_ ?_
      · rintro i g3 Y hi gi gn ⟨I, BY, KY⟩
        simp -implicitDefEqProofs only [go_sem, zS, ↓reduceIte, Za, Zb, Zc, reduceCtorEq, kont_eq, zU, zV, Zf, Zg, Zh, Zi, Zd, Ze] at gi gn
        obtain ⟨sb, so, sc, e, -, hld⟩ := (hslj.keep0 (old KY)).elem pE_len (i := i) hi
        have sY := KY.size
        have hx := hpr _ (List.getElem_mem hi)
        have hb3 := prs_len hpr hll i
        simp -implicitDefEqProofs only [go_sem, zS, ↓reduceIte, Za, Zb, Zc, reduceCtorEq, zU, zV, Zf, Zg, Zh, Zi, Zd, Ze, zF, gi, e, tn_cast, ldNO_ptr, hld]
        refine ⟨⟨by omega, by omega⟩, ?_⟩
        refine kont_newst (pE pl[i]) (by simp -implicitDefEqProofs only [go_sem, zS, ↓reduceIte, Za, Zb, Zc, reduceCtorEq, kont_eq, zU, zV, Zf, Zg, Zh, Zi, Zd, Ze]) rfl rfl (List.all_eq_true.2 (pE_one _)) fun Y1 b9 e9 z9 B9 K9 => ?_
        have s9 := K9.size
        have lt9 := BY.lt
        have hNY : ∀ q, ((False ∨ q = b45) ∨ q = b9) → q < Y1.size := fun q hq => by
          rcases hq with (hq | hq) | hq
          · exact hq.elim
          · omega
          · omega
        have J1 := I.new (b := b9) K9 (by omega)
        have c0 : cell Y1 ⟨b9, 0, none⟩ = some (.int .i64 pl[i].1) := by rw [B9.cell]; rfl
        have w7 : ∀ z : Int, 0 ≤ z → z ≤ 10 → z.toNat < 18446744073709551616 := fun z _ _ => by omega
        have hlen7 := enc7_len pl[i].1.toNat (by omega)
        simp -implicitDefEqProofs only [go_sem, zS, ↓reduceIte, Za, Zb, Zc, reduceCtorEq, zU, zV, Zf, Zg, Zh, Zi, Zd, Ze, zF, c0, u64n hx.1 (by omega)]
        refine J1.uint c.uint hNY (by omega) (by omega) (by simp only [List.length_append] at hb3 ⊢; omega) fun Y2 J2 L2 => ?_
        have B92 := L2.bl B9 fun h => h.2 (.inr rfl)
        have c1 : cell Y2 ⟨b9, 1, none⟩ = some (.int .i64 pl[i].2) := by rw [B92.cell]; rfl
        have sL2 := L2.size
        rw [kont_eq]
        simp -implicitDefEqProofs only [go_sem, zS, ↓reduceIte, Za, Zb, Zc, reduceCtorEq, zU, zV, Zf, Zg, Zh, Zi, Zd, Ze, zF, c1, u64n hx.2.2.1 (by omega)]
        refine J2.uint c.uint (fun q hq => by have := hNY q hq; omega) (by omega) (by omega) (by simp only [List.length_append] at hb3 ⊢; omega) fun Y3 J3 L3' => ?_
        rw [kont_eq]
        simp -implicitDefEqProofs only [go_sem, zS, ↓reduceIte, Za, Zb, Zc, reduceCtorEq, kont_eq, zU, zV, Zf, Zg, Zh, Zi, Zd, Ze, zF]
        refine ⟨?_, L3'.bl (L2.bl (K9.bl BY (by simp)) fun h => h.2 (.inl (.inr rfl))) fun h => h.2 (.inl (.inr rfl)), ((KY.trans K9.any).trans (kp L2)).trans (kp L3')⟩
        rw [take_flat _ hi, encPr]
        simp only [← List.append_assoc] at J3 ⊢
        exact J3.mono fun q h => .inl h
      · rintro g3 Y - ⟨I, BY, KY⟩
        simp -implicitDefEqProofs only [go_sem, zS, ↓reduceIte, Za, Zb, Zc, reduceCtorEq, kont_eq, zU, zV, Zf, Zg, Zh, Zi, Zd, Ze, zF]
        refine ⟨?_, BY, KY⟩
        rw [List.take_length, List.append_assoc] at I
        have hj3 : j < (L3 F).length := by rw [hL3]; exact hj
        have e : (L3 F)[j] = pl := by rw [← hL, List.getD_eq_getElem?_getD, List.getElem?_eq_getElem hj3]; rfl
        rw [take_flat _ hj3, e]
        exact I
    · rintro g2 X - ⟨J, BX, KX⟩
      rw [show (L3 F).take 3 = L3 F by rw [← hL3, List.take_length]] at J
      have J := J.mono (N' := fun _ => False) fun q h => .inl h
      have B5 := KX.bl B3 (by omega)
      have q4 := (cl B5).2.2.2.2
      have sX := KX.size
      have hb1 := hE.stl F.st.length
      rw [List.take_length] at hb1
      have hb1 : (encL encSt F.st).length ≤ 400 := hb1
      have hb2 := hE.l3l 3
      rw [show (L3 F).take 3 = L3 F by rw [← hL3, List.take_length]] at hb2
      have hml := hE.mo.1
      have hms := h6.len
      simp -implicitDefEqProofs only [go_sem, zS, ↓reduceIte, Za, Zb, Zc, reduceCtorEq, zU, zV, Zf, Zg, Zh, Zi, Zd, Ze, zF, q4, h5.isSl, h5.len, h6.len, u64n (show (0 : Int) ≤ (F.mo.length : Int) by omega) (show (F.mo.length : Int) ≤ 1000000 by omega), Int.toNat_natCast]
      refine J.uint c.uint (by simp) (by omega) (by omega) (by rw [List.length_append]; omega) fun X1 J1 L1 => ?_
      have KX1 := KX.trans (kp L1)
      have B6 := KX1.bl B3 (by omega)
      have q4 := (cl B6).2.2.2.2
      rw [kont_eq]
      simp -implicitDefEqProofs only [go_sem, zS, ↓reduceIte, Za, Zb, Zc, reduceCtorEq, zU, zV, Zf, Zg, Zh, Zi, Zd, Ze, zF, q4, h5.isSl, h5.len, h6.len]
      refine vc_range F.mo.length [84, 11, 83] rfl rfl (by omega) (by simp -implicitDefEqProofs only [go_sem, zS, ↓reduceIte, Za, Zb, Zc, reduceCtorEq, kont_eq, zU, zV, Zf, Zg, Zh, Zi, Zd, Ze]) (by simp -implicitDefEqProofs only [go_sem, zS, ↓reduceIte, Za, Zb, Zc, reduceCtorEq, kont_eq, zU, zV, Zf, Zg, Zh, Zi, Zd, Ze]) (fun i g Y => WrI w (fun _ => False) w (encL encSt F.st ++ (L3 F).flatMap (encL encPr) ++ (enc7 F.mo.length ++ (F.mo.take i).flatMap encMo)) Y ∧ Keep (fun q => w ≤ q) H3 Y) ⟨by simpa [encL] using J1, KX1⟩ ?_ ?_
      · rintro i g3 Y hi gi gn ⟨I, KY⟩
        simp -implicitDefEqProofs only [go_sem, zS, ↓reduceIte, Za, Zb, Zc, reduceCtorEq, kont_eq, zU, zV, Zf, Zg, Zh, Zi, Zd, Ze] at gi gn
        have KHY := old KY
        obtain ⟨sb, so, sc, e, -, hld⟩ := (h5.keep0 KHY).elem encV_len (i := i) (by omega)
        obtain ⟨g1, hset⟩ := h6.at_ i (by omega) hi
        have sY := KY.size
        have hx := hE.mo.2 _ (List.getElem_mem hi)
        have hb3 := hE.mol i
        simp -implicitDefEqProofs only [go_sem, zS, ↓reduceIte, Za, Zb, Zc, reduceCtorEq, zU, zV, Zf, Zg, Zh, Zi, Zd, Ze, zF, gi, e, tn_cast, ldNO_ptr, hld]
        refine ⟨⟨by omega, by omega⟩, ?_⟩
        refine kont_newst (encV ms[i]) (by simp -implicitDefEqProofs only [go_sem, zS, ↓reduceIte, Za, Zb, Zc, reduceCtorEq, kont_eq, zU, zV, Zf, Zg, Zh, Zi, Zd, Ze]) rfl rfl (List.all_eq_true.2 (encV_one _)) fun Y1 b11 e11 z11 B11 K11 => ?_
        have s11 := K11.size
        have hNY : ∀ q, (False ∨ q = b11) → q < Y1.size := fun q hq => by
          rcases hq with hq | hq
          · exact hq.elim
          · omega
        have J1 := I.new (b := b11) K11 (by omega)
        have c0 : cell Y1 ⟨b11, 0, none⟩ = some (.int .i64 F.mo[i].1) := by rw [B11.cell, ← g1]; rfl
        have hlen7 := enc7_len F.mo[i].1.toNat (by omega)
        simp -implicitDefEqProofs only [go_sem, zS, ↓reduceIte, Za, Zb, Zc, reduceCtorEq, zU, zV, Zf, Zg, Zh, Zi, Zd, Ze, zF, c0, u64n hx.1 (by omega)]
        refine J1.uint c.uint hNY (by omega) (by omega) (by simp only [List.length_append] at hb3 ⊢; omega) fun Y2 J2 L2 => ?_
        have B112 := L2.bl B11 fun h => h.2 (.inr rfl)
        have l1 : ldNA Y2 ⟨b11, 1, none⟩ 1 = some #[mvV ms[i]] := B112.ldNA (o := 1) (n := 1) (by simp [encV])
        have sL2 := L2.size
        have KH2 := old (((KY.trans K11.any).trans (kp L2)))
        rw [kont_eq]
        simp -implicitDefEqProofs only [go_sem, zS, ↓reduceIte, Za, Zb, Zc, reduceCtorEq, zU, zV, Zf, Zg, Zh, Zi, Zd, Ze, zF, ldNO_ptr, l1]
        refine J2.set c.set (fun q hq => by have := hNY q hq; omega) (by omega) (hset.keep0 KH2) (setL_can F.mo[i].2) (setL_bit F.mo[i].2) (by simp only [List.length_append] at hb3 ⊢; omega) fun Y3 J3 L3' => ?_
        rw [kont_eq]
        simp -implicitDefEqProofs only [go_sem, zS, ↓reduceIte, Za, Zb, Zc, reduceCtorEq, kont_eq, zU, zV, Zf, Zg, Zh, Zi, Zd, Ze, zF]
        refine ⟨?_, ((KY.trans K11.any).trans (kp L2)).trans (kp L3')⟩
        rw [take_flat _ hi, encMo]
        simp only [← List.append_assoc] at J3 ⊢
        exact J3.mono fun q h => .inl h
      · rintro g3 Y - ⟨I, KY⟩
        rw [List.take_length, List.append_assoc, ← encL, ← encF_3] at I
        have hb3 := hE.mol F.mo.length
        rw [List.take_length, ← encL] at hb3
        obtain ⟨FF, WF, hFF⟩ := I
        have hlen : (encF F).length ≤ 100000 := by rw [encF_3]; simp only [List.length_append]; omega
        simp -implicitDefEqProofs only [go_sem, zS, ↓reduceIte, Za, Zb, Zc, reduceCtorEq, zU, zV, Zf, Zg, Zh, Zi, Zd, Ze, zF]
        refine (c.out FF w (encF F) Y WF (by omega)).mono ?_
        rintro r Z ⟨O, o, KZ⟩
        have sY := KY.size
        rw [kont_eq]
        simp -implicitDefEqProofs only [go_sem, zS, ↓reduceIte, Za, Zb, Zc, reduceCtorEq, kont_eq, zU, zV, Zf, Zg, Zh, Zi, Zd, Ze, zF]
        rw [hQ]
        exact ⟨O, fun q hq => by have := o q hq; omega, (old KY).trans KZ⟩
end Go.Mg
namespace Go.Mg
open Go Go.RowKit
set_option linter.unusedSimpArgs false
set_option linter.unusedVariables false
set_option maxRecDepth 100000
def c_rbyt (ι : Ids) : S :=
  .seq (.reg [.e (.v 1) (.box (ι.t 289) (.v 0)), .p (.v 2) (.mv (.c (.slice .none 0 0)))]) (.seq (.reg [.p (.t 12) (.fa 0 (.v 1)), .p (.t 13) (.ld (.t 12)), .p (.t 14) (.m (.lenl (.t 13))), .p (.t 15)
  (.ii .u64 (.t 14)), .e (.t 16) (.call (ι.f 61) [.t 15]), .p (.v 3) (.mv (.t 16))]) (.seq (.seq (.reg [.p (.t 17) (.fa 0 (.v 1)), .p (.v 18) (.ld (.t 17)), .p (.v 19) (.m (.lenl (.v 18))), .p (.v 20)
  (.mv (.c (.int .i64 0)))]) (.blk 0 (.loop (.seq (.reg [.p (.v 21) (.cm .lss .i64 (.v 20) (.v 19))]) (.seq (.ite (.v 21) .skip (.exit 0)) (.seq (.blk 1 (.seq (.reg [.p (.t 22) (.is 2 (.v 18) (.v 20)),
  .p (.t 23) (.m (.ldn 2 (.t 22))), .e (.v 5) (.new (ι.t 290) #[.string ⟨#[]⟩, .int .i64 0]), .e .no (.stn 2 (.v 5) (.t 23))]) (.seq (.reg [.p (.t 24) (.mv (.v 3)), .p (.t 25) (.fa 0 (.v 5)), .p (.t 26)
  (.ld (.t 25)), .e (.t 27) (.s2b (ι.t 19) (.t 26)), .e (.t 28) (.call (ι.f 62) [.t 27]), .e (.t 29) (.app false (ι.t 19) 1 1 #[.int .u8 0] (.t 24) (.t 28)), .p (.v 3) (.mv (.t 29))]) (.reg [.p (.t 30)
  (.mv (.v 3)), .p (.t 31) (.fa 1 (.v 5)), .p (.t 32) (.ld (.t 31)), .p (.t 33) (.ii .u64 (.t 32)), .e (.t 34) (.call (ι.f 61) [.t 33]), .e (.t 35) (.app false (ι.t 19) 1 1 #[.int .u8 0] (.t 30) (.t
  34)), .p (.v 3) (.mv (.t 35))])))) (.reg [.p (.t 36) (.ar .add .i64 (.v 20) (.c (.int .i64 1))), .p (.v 20) (.mv (.t 36))]))))))) (.seq (.seq (.reg [.p (.t 37) (.fa 1 (.v 1)), .p (.t 38) (.ld (.t
  37)), .p (.t 39) (.fa 2 (.v 1)), .p (.t 40) (.ld (.t 39)), .p (.t 41) (.fa 3 (.v 1)), .p (.t 42) (.ld (.t 41)), .e (.v 43) (.bldF (ι.t 235) 1 3 [.t 38, .t 40, .t 42]), .p (.v 44) (.m (.lenl (.v 43))),
  .p (.v 45) (.mv (.c (.int .i64 0)))]) (.blk 2 (.loop (.seq (.reg [.p (.v 46) (.cm .lss .i64 (.v 45) (.v 44))]) (.seq (.ite (.v 46) .skip (.exit 2)) (.seq (.blk 3 (.seq (.reg [.p (.t 47) (.is 1 (.v 43)
  (.v 45)), .p (.t 48) (.ld (.t 47)), .p (.v 7) (.mv (.t 48))]) (.seq (.reg [.p (.t 49) (.mv (.v 3)), .p (.t 50) (.mv (.v 7)), .p (.t 51) (.m (.lenl (.t 50))), .p (.t 52) (.ii .u64 (.t 51)), .e (.t 53)
  (.call (ι.f 61) [.t 52]), .e (.t 54) (.app false (ι.t 19) 1 1 #[.int .u8 0] (.t 49) (.t 53)), .p (.v 3) (.mv (.t 54))]) (.seq (.reg [.p (.v 55) (.mv (.v 7)), .p (.v 56) (.m (.lenl (.v 55))), .p (.v
  57) (.mv (.c (.int .i64 0)))]) (.blk 4 (.loop (.seq (.reg [.p (.v 58) (.cm .lss .i64 (.v 57) (.v 56))]) (.seq (.ite (.v 58) .skip (.exit 4)) (.seq (.blk 5 (.seq (.reg [.p (.t 59) (.is 2 (.v 55) (.v
  57)), .p (.t 60) (.m (.ldn 2 (.t 59))), .e (.v 9) (.new (ι.t 194) #[.int .i64 0, .int .i64 0]), .e .no (.stn 2 (.v 9) (.t 60))]) (.seq (.reg [.p (.t 61) (.mv (.v 3)), .p (.t 62) (.ia 2 1 (.v 9) (.c
  (.int .i64 0))), .p (.t 63) (.ld (.t 62)), .p (.t 64) (.ii .u64 (.t 63)), .e (.t 65) (.call (ι.f 61) [.t 64]), .e (.t 66) (.app false (ι.t 19) 1 1 #[.int .u8 0] (.t 61) (.t 65)), .p (.v 3) (.mv (.t
  66))]) (.reg [.p (.t 67) (.mv (.v 3)), .p (.t 68) (.ia 2 1 (.v 9) (.c (.int .i64 1))), .p (.t 69) (.ld (.t 68)), .p (.t 70) (.ii .u64 (.t 69)), .e (.t 71) (.call (ι.f 61) [.t 70]), .e (.t 72) (.app
  false (ι.t 19) 1 1 #[.int .u8 0] (.t 67) (.t 71)), .p (.v 3) (.mv (.t 72))])))) (.reg [.p (.t 73) (.ar .add .i64 (.v 57) (.c (.int .i64 1))), .p (.v 57) (.mv (.t 73))])))))))))) (.reg [.p (.t 74) (.ar
  .add .i64 (.v 45) (.c (.int .i64 1))), .p (.v 45) (.mv (.t 74))]))))))) (.seq (.reg [.p (.t 75) (.mv (.v 3)), .p (.t 76) (.fa 4 (.v 1)), .p (.t 77) (.ld (.t 76)), .p (.t 78) (.m (.lenl (.t 77))), .p
  (.t 79) (.ii .u64 (.t 78)), .e (.t 80) (.call (ι.f 61) [.t 79]), .e (.t 81) (.app false (ι.t 19) 1 1 #[.int .u8 0] (.t 75) (.t 80)), .p (.v 3) (.mv (.t 81))]) (.seq (.seq (.reg [.p (.t 82) (.fa 4 (.v
  1)), .p (.v 83) (.ld (.t 82)), .p (.v 84) (.m (.lenl (.v 83))), .p (.v 85) (.mv (.c (.int .i64 0)))]) (.blk 6 (.loop (.seq (.reg [.p (.v 86) (.cm .lss .i64 (.v 85) (.v 84))]) (.seq (.ite (.v 86) .skip
  (.exit 6)) (.seq (.blk 7 (.seq (.reg [.p (.t 87) (.is 2 (.v 83) (.v 85)), .p (.t 88) (.m (.ldn 2 (.t 87))), .e (.v 11) (.new (ι.t 291) #[.int .i64 0, .int .u64 0]), .e .no (.stn 2 (.v 11) (.t 88))])
  (.seq (.reg [.p (.t 89) (.mv (.v 3)), .p (.t 90) (.fa 0 (.v 11)), .p (.t 91) (.ld (.t 90)), .p (.t 92) (.ii .u64 (.t 91)), .e (.t 93) (.call (ι.f 61) [.t 92]), .e (.t 94) (.app false (ι.t 19) 1 1
  #[.int .u8 0] (.t 89) (.t 93)), .p (.v 3) (.mv (.t 94))]) (.reg [.p (.t 95) (.mv (.v 3)), .p (.t 96) (.fa 1 (.v 11)), .p (.t 97) (.ld (.t 96)), .e (.t 98) (.call (ι.f 282) [.t 97]), .e (.t 99) (.call
  (ι.f 347) [.t 98]), .e (.t 100) (.app false (ι.t 19) 1 1 #[.int .u8 0] (.t 95) (.t 99)), .p (.v 3) (.mv (.t 100))])))) (.reg [.p (.t 101) (.ar .add .i64 (.v 85) (.c (.int .i64 1))), .p (.v 85) (.mv
  (.t 101))]))))))) (.seq (.reg [.p (.t 102) (.mv (.v 3)), .p (.v 2) (.mv (.t 102))]) .ret))))))
def r_rbyt : List RV := [.t 2]
def RBytesSpec (P : Program) (k : FuncId) : Prop := ∀ (F : FlN) (v : Value) (H : Hp), RefFl H v F → OkE F → CallsM P k #[v] H fun r H' => OwS H' r (w8 (encF F)) ∧ (∀ q, ownB r q → H.size ≤ q) ∧ Keep (fun _ => False) H H'
structure RByC (P : Program) (ι : Ids) : Prop where
  put : NumSpec P (ι.f 61)
  putB : RPutBSpec P (ι.f 62)
  putS : RPutSetSpec P (ι.f 347)
  mem : RMembSpec P (ι.f 282)
structure ByI (C : Nat) (H3 : Hp) (v : Value) (l : List UInt8) (A : Hp) : Prop where
  o : OwS A v (w8 l)
  n : ∀ q, ownB v q → C ≤ q
  k : Keep (fun q => C ≤ q) H3 A
theorem ByI.keep0 {C : Nat} {H3 A A' : Hp} {v : Value} {l : List UInt8} (h : ByI C H3 v l A) (hk : Keep (fun _ => False) A A') : ByI C H3 v l A' := ⟨h.o.keep hk (by simp), h.n, h.k.trans hk.any⟩
theorem ByI.app {C : Nat} {H3 A : Hp} {v : Value} {l m : List UInt8} (h : ByI C H3 v l A) (hC : C ≤ A.size) {x : Value} (hx : OwS A x (w8 m)) (hl : l.length + m.length ≤ 1000000000) {T : TypeId} {K : Value → Hp → Prop}
    (hK : ∀ v' A', ByI C H3 v' (l ++ m) A' → Keep (ownB v) A A' → (∀ q, ownB v' q → ownB v q ∨ A.size ≤ q) → K v' A') : AppC false T 1 1 #[.int .u8 0] v x A K :=
  app_bytes h.o hx.sl rfl hl fun v' A' O K' o => hK v' A' ⟨O, fun q hq => by
    rcases o q hq with h' | h'
    · exact h.n q h'
    · omega, h.k.trans (K'.mono fun q _ hq => h.n q hq)⟩ K' o
theorem ByI.nb {C : Nat} {H3 A : Hp} {v : Value} {l : List UInt8} (h : ByI C H3 v l A) {b : Nat} (hb : A.size ≤ b) : ¬ ownB v b := fun hq => by have := h.o.old hq; omega
theorem rbyt_ok {P : Program} {ι : Ids} {k : FuncId} (hk : FnIs P k (c_rbyt ι) r_rbyt 1) (c : RByC P ι) : RBytesSpec P k := by
  intro F v H hv hE
  obtain ⟨Q, hQ⟩ : ∃ Q : Value → Hp → Prop, Q = fun r H' => OwS H' r (w8 (encF F)) ∧ (∀ q, ownB r q → H.size ≤ q) ∧ Keep (fun _ => False) H H' := ⟨_, rfl⟩
  rw [← hQ]
  obtain ⟨s, b, d, a, m, rfl, h1, h2, h3, h4, h5⟩ := hv
  obtain ⟨b0, bc, eb, -⟩ := h2.mk
  obtain ⟨d0, dc, ed, -⟩ := h3.mk
  obtain ⟨a0, ac, ea, -⟩ := h4.mk
  refine calls_of_vc hk (args := [_]) (by simp) ?_
  unfold c_rbyt r_rbyt
  simp -implicitDefEqProofs only [go_sem, zS, ↓reduceIte, Za, Zb, Zc, reduceCtorEq, zU, zV, Zf, Zg, Zh, Zi, Zd, Ze, zF]
  refine kont_new fun H1 b1 e1 z1 B1 K1 => ?_
  have B1' : Bl H1 b1 [s, b, d, a, m] := B1
  have s1 := K1.size
  have cl : ∀ {A : Hp}, Bl A b1 [s, b, d, a, m] → cell A ⟨b1, 0, none⟩ = some s ∧ cell A ⟨b1, 1, none⟩ = some b ∧ cell A ⟨b1, 2, none⟩ = some d ∧ cell A ⟨b1, 3, none⟩ = some a ∧ cell A ⟨b1, 4, none⟩ = some m := fun B => ⟨by rw [B.cell]; rfl, by rw [B.cell]; rfl, by rw [B.cell]; rfl, by rw [B.cell]; rfl, by rw [B.cell]; rfl⟩
  have l1 := hE.st.1
  simp -implicitDefEqProofs only [go_sem, zS, ↓reduceIte, Za, Zb, Zc, reduceCtorEq, zU, zV, Zf, Zg, Zh, Zi, Zd, Ze, zF, (cl B1').1, h1.isSl, h1.len, u64n (show (0 : Int) ≤ (F.st.length : Int) by omega) (show (F.st.length : Int) ≤ 1000000 by omega), Int.toNat_natCast]
  refine (c.put F.st.length H1 (by omega)).mono ?_
  rintro r H2 ⟨O2, o2, K2⟩
  have B2 := K2.bl B1' (by simp)
  have K12 := K1.trans K2
  have s2 := K2.size
  obtain ⟨C, hC⟩ : ∃ C, C = H1.size := ⟨_, rfl⟩
  rw [← hC] at o2
  have hbC : b1 < C := by omega
  have I2 : ByI C H1 r (enc7 F.st.length) H2 := ⟨O2, o2, K2.any⟩
  have old : ∀ {A' : Hp} {v : Value} {l : List UInt8}, ByI C H1 v l A' → Keep (fun _ => False) H A' := fun I => K1.trans' I.k fun q hq e => by omega
  have bl1 : ∀ {A' : Hp} {v : Value} {l : List UInt8}, ByI C H1 v l A' → Bl A' b1 [s, b, d, a, m] := fun I => I.k.bl B1' (by omega)
  have sz : ∀ {A' : Hp} {v : Value} {l : List UInt8}, ByI C H1 v l A' → C ≤ A'.size := fun I => by have := I.k.size; omega
  rw [kont_eq]
  simp -implicitDefEqProofs only [go_sem, zS, ↓reduceIte, Za, Zb, Zc, reduceCtorEq, zU, zV, Zf, Zg, Zh, Zi, Zd, Ze, zF, (cl B2).1, h1.isSl, h1.len]
  refine vc_range F.st.length [21, 5, 3, 20] rfl rfl (by omega) (by simp -implicitDefEqProofs only [go_sem, zS, ↓reduceIte, Za, Zb, Zc, reduceCtorEq, kont_eq, zU, zV, Zf, Zg, Zh, Zi, Zd, Ze]) (by simp -implicitDefEqProofs only [go_sem, zS, ↓reduceIte, Za, Zb, Zc, reduceCtorEq, kont_eq, zU, zV, Zf, Zg, Zh, Zi, Zd, Ze]) (fun i g A => ∃ v, g 3 = v ∧ ByI C H1 v (enc7 F.st.length ++ (F.st.take i).flatMap encSt) A) ⟨r, by simp -implicitDefEqProofs only [go_sem, zS, ↓reduceIte, Za, Zb, Zc, reduceCtorEq, kont_eq, zU, zV, Zf, Zg, Zh, Zi, Zd, Ze], by simpa using I2⟩ ?_ ?_
  · rintro i g A hi gi gn ⟨v3, g3, I⟩
    simp -implicitDefEqProofs only [go_sem, zS, ↓reduceIte, Za, Zb, Zc, reduceCtorEq, kont_eq, zU, zV, Zf, Zg, Zh, Zi, Zd, Ze] at gi gn g3
    have KH := old I
    obtain ⟨sb, so, sc, e, -, hld⟩ := (h1.keep0 KH).elem encS_len (i := i) hi
    have hx := hE.st.2 _ (List.getElem_mem hi)
    have hb := hE.stl i
    simp -implicitDefEqProofs only [go_sem, zS, ↓reduceIte, Za, Zb, Zc, reduceCtorEq, zU, zV, Zf, Zg, Zh, Zi, Zd, Ze, zF, gi, g3, e, tn_cast, ldNO_ptr, hld]
    refine ⟨⟨by omega, by omega⟩, ?_⟩
    refine kont_newst (encS F.st[i]) (by simp -implicitDefEqProofs only [go_sem, zS, ↓reduceIte, Za, Zb, Zc, reduceCtorEq, kont_eq, zU, zV, Zf, Zg, Zh, Zi, Zd, Ze]) rfl rfl (List.all_eq_true.2 (encS_one _)) fun A1 b5 e5 z5 B5 K5 => ?_
    have J1 := I.keep0 K5
    have c0 : cell A1 ⟨b5, 0, none⟩ = some (sV F.st[i].1) := by rw [B5.cell]; rfl
    simp -implicitDefEqProofs only [go_sem, zS, ↓reduceIte, Za, Zb, Zc, reduceCtorEq, zU, zV, Zf, Zg, Zh, Zi, Zd, Ze, zF, g3, c0, sV]
    intro cc hcc
    have hcc : F.st[i].1.length ≤ cc := hcc
    obtain ⟨K6, S6⟩ := s2b_new A1 F.st[i].1 (ι.t 19) cc hcc
    rw [kont_eq]
    generalize Array.push A1 _ = A2 at *
    have J2 := J1.keep0 K6
    have hb2 := enc7_len F.st[i].1.length (by omega)
    simp -implicitDefEqProofs only [go_sem, zS, ↓reduceIte, Za, Zb, Zc, reduceCtorEq, zU, zV, Zf, Zg, Zh, Zi, Zd, Ze, zF, g3]
    refine (c.putB _ _ A2 S6 (by omega)).mono ?_
    rintro r3 A3 ⟨O3, o3, K7⟩
    have J3 := J2.keep0 K7
    rw [kont_eq]
    simp -implicitDefEqProofs only [go_sem, zS, ↓reduceIte, Za, Zb, Zc, reduceCtorEq, zU, zV, Zf, Zg, Zh, Zi, Zd, Ze, zF, g3]
    refine J3.app (sz J3) O3 (by simp only [encB, List.length_append] at hb ⊢; omega) fun v4 A4 J4 L4 o4 => ?_
    have B53 := (K6.trans K7).bl B5 (by simp)
    have nb3 : ¬ ownB v3 b5 := I.nb (by omega)
    have B54 := L4.bl B53 nb3
    have c1 : cell A4 ⟨b5, 1, none⟩ = some (.int .i64 F.st[i].2) := by rw [B54.cell]; rfl
    rw [kont_eq]
    simp -implicitDefEqProofs only [go_sem, zS, ↓reduceIte, Za, Zb, Zc, reduceCtorEq, zU, zV, Zf, Zg, Zh, Zi, Zd, Ze, zF, c1, u64n hx.2.1 (by omega)]
    refine (c.put _ A4 (by omega)).mono ?_
    rintro r5 A5 ⟨O5, o5, K8⟩
    have J5 := J4.keep0 K8
    have hb3 := enc7_len F.st[i].2.toNat (by omega)
    rw [kont_eq]
    simp -implicitDefEqProofs only [go_sem, zS, ↓reduceIte, Za, Zb, Zc, reduceCtorEq, zU, zV, Zf, Zg, Zh, Zi, Zd, Ze, zF]
    refine J5.app (sz J5) O5 (by simp only [encB, List.length_append] at hb ⊢; omega) fun v6 A6 J6 L6 o6 => ?_
    rw [kont_eq]
    simp -implicitDefEqProofs only [go_sem, zS, ↓reduceIte, Za, Zb, Zc, reduceCtorEq, kont_eq, zU, zV, Zf, Zg, Zh, Zi, Zd, Ze, zF]
    refine ⟨v6, rfl, ?_⟩
    rw [take_flat _ hi, encSt]
    simp only [← List.append_assoc] at J6 ⊢
    exact J6
  · rintro g A - ⟨v3, g3, I⟩
    rw [List.take_length] at I
    simp -implicitDefEqProofs only [go_sem, zS, ↓reduceIte, Za, Zb, Zc, reduceCtorEq, kont_eq, zU, zV, Zf, Zg, Zh, Zi, Zd, Ze] at g3
    obtain ⟨-, q1, q2, q3, -⟩ := cl (bl1 I)
    obtain ⟨us, hus⟩ : ∃ us, us = [b, d, a] := ⟨_, rfl⟩
    have hul : us.length = 3 := by rw [hus]; rfl
    have hsl : ∀ j < 3, SlP H (us.getD j undef) ((L3 F).getD j []) ∧ (L3 F).getD j [] ∈ L3 F := fun j hj => by
      have : j = 0 ∨ j = 1 ∨ j = 2 := by omega
      rw [hus]
      rcases this with rfl | rfl | rfl
      · exact ⟨h2, by simp [L3]⟩
      · exact ⟨h3, by simp [L3]⟩
      · exact ⟨h4, by simp [L3]⟩
    rw [eb] at q1
    rw [ed] at q2
    rw [ea] at q3
    simp -implicitDefEqProofs only [go_sem, zS, ↓reduceIte, Za, Zb, Zc, reduceCtorEq, zU, zV, Zf, Zg, Zh, Zi, Zd, Ze, zF, q1, q2, q3, Value.cells]
    refine kont_news fun A1 b43 e43 z43 B43 K43 => ?_
    have B43' : Bl A1 b43 us := by rw [hus, eb, ed, ea]; exact B43
    have s43 := K43.size
    have I1 := I.keep0 K43
    have nb43 : ¬ ownB v3 b43 := I.nb (by omega)
    clear hus B43
    simp -implicitDefEqProofs only [go_sem, zS, ↓reduceIte, Za, Zb, Zc, reduceCtorEq, zU, zV, Zf, Zg, Zh, Zi, Zd, Ze, zF]
    have hL3 : (L3 F).length = 3 := rfl
    refine vc_range 3 [46, 7, 3, 55, 56, 57, 58, 9, 45] rfl rfl (by omega) (by simp -implicitDefEqProofs only [go_sem, zS, ↓reduceIte, Za, Zb, Zc, reduceCtorEq, kont_eq, zU, zV, Zf, Zg, Zh, Zi, Zd, Ze]) (by simp -implicitDefEqProofs only [go_sem, zS, ↓reduceIte, Za, Zb, Zc, reduceCtorEq, kont_eq, zU, zV, Zf, Zg, Zh, Zi, Zd, Ze]) (fun j g X => ∃ v, g 3 = v ∧ ByI C H1 v (encL encSt F.st ++ ((L3 F).take j).flatMap (encL encPr)) X ∧ Bl X b43 us ∧ ¬ ownB v b43) ⟨v3, by simp -implicitDefEqProofs only [go_sem, zS, ↓reduceIte, Za, Zb, Zc, reduceCtorEq, kont_eq, zU, zV, Zf, Zg, Zh, Zi, Zd, Ze, g3], by simpa [encL] using I1, B43', nb43⟩ ?_ ?_
    · rintro j g2 X hj gi gn ⟨w3, g23, J, BX, nX⟩
      simp -implicitDefEqProofs only [go_sem, zS, ↓reduceIte, Za, Zb, Zc, reduceCtorEq, kont_eq, zU, zV, Zf, Zg, Zh, Zi, Zd, Ze] at gi gn g23
      obtain ⟨hslj, hmem⟩ := hsl j hj
      obtain ⟨hpr, hll⟩ := hE.l3 hmem
      have hslX := hslj.keep0 (old J)
      have hcj : cell X ⟨b43, j, none⟩ = some (us.getD j undef) := by
        rw [BX.cell, List.getElem?_eq_getElem (by omega), List.getD_eq_getElem?_getD, List.getElem?_eq_getElem (by omega)]; rfl
      have hb1 := hE.stl F.st.length
      rw [List.take_length] at hb1
      have hb1 : (encL encSt F.st).length ≤ 400 := hb1
      have hb2 := hE.l3l j
      generalize hU : us.getD j undef = u at *
      generalize hL : (L3 F).getD j [] = pl at *
      have hll' : pl.length ≤ 9223372036854775807 := by omega
      have hb0 := enc7_len pl.length (by omega)
      simp -implicitDefEqProofs only [go_sem, zS, ↓reduceIte, Za, Zb, Zc, reduceCtorEq, zU, zV, Zf, Zg, Zh, Zi, Zd, Ze, zF, gi, g23, tn_cast, hcj, hslX.isSl, hslX.len, u64n (show (0 : Int) ≤ (pl.length : Int) by omega) (show (pl.length : Int) ≤ 1000000 by omega), Int.toNat_natCast]
      refine ⟨by omega, (c.put pl.length X (by omega)).mono ?_⟩
      rintro r3 X1 ⟨O3, o3, L1⟩
      have J1 := J.keep0 L1
      have BX1 := L1.bl BX (by simp)
      rw [kont_eq]
      simp -implicitDefEqProofs only [go_sem, zS, ↓reduceIte, Za, Zb, Zc, reduceCtorEq, zU, zV, Zf, Zg, Zh, Zi, Zd, Ze, zF, g23]
      refine J1.app (sz J1) O3 (by simp only [List.length_append]; omega) fun v4 X2 J2 L2 o4 => ?_
      have BX2 := L2.bl BX1 nX
      have n4 : ¬ ownB v4 b43 := fun hq => by
        rcases o4 _ hq with h | h
        · exact nX h
        · have := BX1.lt; omega
      have hslX2 := hslj.keep0 (old J2)
      rw [kont_eq]
      simp -implicitDefEqProofs only [go_sem, zS, ↓reduceIte, Za, Zb, Zc, reduceCtorEq, zU, zV, Zf, Zg, Zh, Zi, Zd, Ze, zF, hslX2.isSl, hslX2.len]
      refine vc_range pl.length [58, 9, 3, 57] rfl rfl hll' (by simp -implicitDefEqProofs only [go_sem, zS, ↓reduceIte, Za, Zb, Zc, reduceCtorEq, kont_eq, zU, zV, Zf, Zg, Zh, Zi, Zd, Ze]) (by simp -implicitDefEqProofs only [go_sem, zS, ↓reduceIte, Za, Zb, Zc, reduceCtorEq, kont_eq, zU, zV, Zf, Zg, Zh, Zi, Zd, Ze]) (fun i g Y => ∃ v, g 3 = v ∧ ByI C H1 v (encL encSt F.st ++ ((L3 F).take j).flatMap (encL encPr) ++ (enc7 pl.length ++ (pl.take i).flatMap encPr)) Y ∧ Bl Y b43 us ∧ ¬ ownB v b43) ⟨v4, by simp -implicitDefEqProofs only [go_sem, zS, ↓reduceIte, Za, Zb, Zc, reduceCtorEq, kont_eq, zU, zV, Zf, Zg, Zh, Zi, Zd, Ze], by simpa [encL] using J2, BX2, n4⟩ ?_ ?_
      · rintro i g3' Y hi gi gn ⟨y3, g33, I, BY, nY⟩
        simp -implicitDefEqProofs only [go_sem, zS, ↓reduceIte, Za, Zb, Zc, reduceCtorEq, kont_eq, zU, zV, Zf, Zg, Zh, Zi, Zd, Ze] at gi gn g33
        obtain ⟨sb, so, sc, e, -, hld⟩ := (hslj.keep0 (old I)).elem pE_len (i := i) hi
        have hx := hpr _ (List.getElem_mem hi)
        have hb3 := prs_len hpr hll i
        simp -implicitDefEqProofs only [go_sem, zS, ↓reduceIte, Za, Zb, Zc, reduceCtorEq, zU, zV, Zf, Zg, Zh, Zi, Zd, Ze, zF, gi, g33, e, tn_cast, ldNO_ptr, hld]
        refine ⟨⟨by omega, by omega⟩, ?_⟩
        refine kont_newst (pE pl[i]) (by simp -implicitDefEqProofs only [go_sem, zS, ↓reduceIte, Za, Zb, Zc, reduceCtorEq, kont_eq, zU, zV, Zf, Zg, Zh, Zi, Zd, Ze]) rfl rfl (List.all_eq_true.2 (pE_one _)) fun Y1 b9 e9 z9 B9 K9 => ?_
        have J1 := I.keep0 K9
        have n9 : ¬ ownB y3 b9 := I.nb (by omega)
        have c0 : cell Y1 ⟨b9, 0, none⟩ = some (.int .i64 pl[i].1) := by rw [B9.cell]; rfl
        have w7 := enc7_len pl[i].1.toNat (by omega)
        have w8' := enc7_len pl[i].2.toNat (by omega)
        simp -implicitDefEqProofs only [go_sem, zS, ↓reduceIte, Za, Zb, Zc, reduceCtorEq, zU, zV, Zf, Zg, Zh, Zi, Zd, Ze, zF, g33, c0, u64n hx.1 (by omega)]
        refine (c.put _ Y1 (by omega)).mono ?_
        rintro r5 Y2 ⟨O5, o5, K5⟩
        have J2 := J1.keep0 K5
        have BY2 := (K9.trans K5).bl BY (by simp)
        rw [kont_eq]
        simp -implicitDefEqProofs only [go_sem, zS, ↓reduceIte, Za, Zb, Zc, reduceCtorEq, zU, zV, Zf, Zg, Zh, Zi, Zd, Ze, zF, g33]
        refine J2.app (sz J2) O5 (by simp only [List.length_append] at hb3 ⊢; omega) fun v6 Y3 J3 L3' o6 => ?_
        have B93 := L3'.bl (K5.bl B9 (by simp)) n9
        have BY3 := L3'.bl BY2 nY
        have n6 : ¬ ownB v6 b43 := fun hq => by
          rcases o6 _ hq with h | h
          · exact nY h
          · have := BY2.lt; omega
        have c1 : cell Y3 ⟨b9, 1, none⟩ = some (.int .i64 pl[i].2) := by rw [B93.cell]; rfl
        rw [kont_eq]
        simp -implicitDefEqProofs only [go_sem, zS, ↓reduceIte, Za, Zb, Zc, reduceCtorEq, zU, zV, Zf, Zg, Zh, Zi, Zd, Ze, zF, c1, u64n hx.2.2.1 (by omega)]
        refine (c.put _ Y3 (by omega)).mono ?_
        rintro r7 Y4 ⟨O7, o7, K7⟩
        have J4 := J3.keep0 K7
        have BY4 := K7.bl BY3 (by simp)
        rw [kont_eq]
        simp -implicitDefEqProofs only [go_sem, zS, ↓reduceIte, Za, Zb, Zc, reduceCtorEq, zU, zV, Zf, Zg, Zh, Zi, Zd, Ze, zF]
        refine J4.app (sz J4) O7 (by simp only [List.length_append] at hb3 ⊢; omega) fun v8 Y5 J5 L5 o8 => ?_
        rw [kont_eq]
        simp -implicitDefEqProofs only [go_sem, zS, ↓reduceIte, Za, Zb, Zc, reduceCtorEq, kont_eq, zU, zV, Zf, Zg, Zh, Zi, Zd, Ze, zF]
        refine ⟨v8, rfl, ?_, L5.bl BY4 n6, fun hq => ?_⟩
        · rw [take_flat _ hi, encPr]
          simp only [← List.append_assoc] at J5 ⊢
          exact J5
        · rcases o8 _ hq with h | h
          · exact n6 h
          · have := BY4.lt; omega
      · rintro g3' Y - ⟨y3, g33, I, BY, nY⟩
        simp -implicitDefEqProofs only [go_sem, zS, ↓reduceIte, Za, Zb, Zc, reduceCtorEq, kont_eq, zU, zV, Zf, Zg, Zh, Zi, Zd, Ze] at g33
        simp -implicitDefEqProofs only [go_sem, zS, ↓reduceIte, Za, Zb, Zc, reduceCtorEq, kont_eq, zU, zV, Zf, Zg, Zh, Zi, Zd, Ze, zF]
        refine ⟨y3, g33, ?_, BY, nY⟩
        rw [List.take_length, List.append_assoc] at I
        have hj3 : j < (L3 F).length := by rw [hL3]; exact hj
        have e : (L3 F)[j] = pl := by rw [← hL, List.getD_eq_getElem?_getD, List.getElem?_eq_getElem hj3]; rfl
        rw [take_flat _ hj3, e]
        exact I
    · rintro g2 X - ⟨w3, g23, J, BX, nX⟩
      rw [show (L3 F).take 3 = L3 F by rw [← hL3, List.take_length]] at J
      simp -implicitDefEqProofs only [go_sem, zS, ↓reduceIte, Za, Zb, Zc, reduceCtorEq, kont_eq, zU, zV, Zf, Zg, Zh, Zi, Zd, Ze] at g23
      have q4 := (cl (bl1 J)).2.2.2.2
      have hb1 := hE.stl F.st.length
      rw [List.take_length] at hb1
      have hb1 : (encL encSt F.st).length ≤ 400 := hb1
      have hb2 := hE.l3l 3
      rw [show (L3 F).take 3 = L3 F by rw [← hL3, List.take_length]] at hb2
      have hml := hE.mo.1
      have hb0 := enc7_len F.mo.length (by omega)
      simp -implicitDefEqProofs only [go_sem, zS, ↓reduceIte, Za, Zb, Zc, reduceCtorEq, zU, zV, Zf, Zg, Zh, Zi, Zd, Ze, zF, g23, q4, h5.isSl, h5.len, u64n (show (0 : Int) ≤ (F.mo.length : Int) by omega) (show (F.mo.length : Int) ≤ 1000000 by omega), Int.toNat_natCast]
      refine (c.put F.mo.length X (by omega)).mono ?_
      rintro r3 X1 ⟨O3, o3, L1⟩
      have J1 := J.keep0 L1
      rw [kont_eq]
      simp -implicitDefEqProofs only [go_sem, zS, ↓reduceIte, Za, Zb, Zc, reduceCtorEq, zU, zV, Zf, Zg, Zh, Zi, Zd, Ze, zF, g23]
      refine J1.app (sz J1) O3 (by simp only [List.length_append]; omega) fun v4 X2 J2 L2 o4 => ?_
      have q4 := (cl (bl1 J2)).2.2.2.2
      rw [kont_eq]
      simp -implicitDefEqProofs only [go_sem, zS, ↓reduceIte, Za, Zb, Zc, reduceCtorEq, zU, zV, Zf, Zg, Zh, Zi, Zd, Ze, zF, q4, h5.isSl, h5.len]
      refine vc_range F.mo.length [86, 11, 3, 85] rfl rfl (by omega) (by simp -implicitDefEqProofs only [go_sem, zS, ↓reduceIte, Za, Zb, Zc, reduceCtorEq, kont_eq, zU, zV, Zf, Zg, Zh, Zi, Zd, Ze]) (by simp -implicitDefEqProofs only [go_sem, zS, ↓reduceIte, Za, Zb, Zc, reduceCtorEq, kont_eq, zU, zV, Zf, Zg, Zh, Zi, Zd, Ze]) (fun i g Y => ∃ v, g 3 = v ∧ ByI C H1 v (encL encSt F.st ++ (L3 F).flatMap (encL encPr) ++ (enc7 F.mo.length ++ (F.mo.take i).flatMap encMo)) Y) ⟨v4, by simp -implicitDefEqProofs only [go_sem, zS, ↓reduceIte, Za, Zb, Zc, reduceCtorEq, kont_eq, zU, zV, Zf, Zg, Zh, Zi, Zd, Ze], by simpa [encL] using J2⟩ ?_ ?_
      · rintro i g3' Y hi gi gn ⟨y3, g33, I⟩
        simp -implicitDefEqProofs only [go_sem, zS, ↓reduceIte, Za, Zb, Zc, reduceCtorEq, kont_eq, zU, zV, Zf, Zg, Zh, Zi, Zd, Ze] at gi gn g33
        obtain ⟨sb, so, sc, e, -, hld⟩ := (h5.keep0 (old I)).elem encM_len (i := i) hi
        have hx := hE.mo.2 _ (List.getElem_mem hi)
        have hb3 := hE.mol i
        have hs8 := setL_len F.mo[i].2
        have w7 := enc7_len F.mo[i].1.toNat (by omega)
        have w8' := enc7_len (setL F.mo[i].2).length (by omega)
        simp -implicitDefEqProofs only [go_sem, zS, ↓reduceIte, Za, Zb, Zc, reduceCtorEq, zU, zV, Zf, Zg, Zh, Zi, Zd, Ze, zF, gi, g33, e, tn_cast, ldNO_ptr, hld]
        refine ⟨⟨by omega, by omega⟩, ?_⟩
        refine kont_newst (encM F.mo[i]) (by simp -implicitDefEqProofs only [go_sem, zS, ↓reduceIte, Za, Zb, Zc, reduceCtorEq, kont_eq, zU, zV, Zf, Zg, Zh, Zi, Zd, Ze]) rfl rfl (List.all_eq_true.2 (encM_one _)) fun Y1 b11 e11 z11 B11 K11 => ?_
        have J1 := I.keep0 K11
        have n11 : ¬ ownB y3 b11 := I.nb (by omega)
        have c0 : cell Y1 ⟨b11, 0, none⟩ = some (.int .i64 F.mo[i].1) := by rw [B11.cell]; rfl
        simp -implicitDefEqProofs only [go_sem, zS, ↓reduceIte, Za, Zb, Zc, reduceCtorEq, zU, zV, Zf, Zg, Zh, Zi, Zd, Ze, zF, g33, c0, u64n hx.1 (by omega)]
        refine (c.put _ Y1 (by omega)).mono ?_
        rintro r5 Y2 ⟨O5, o5, K5⟩
        have J2 := J1.keep0 K5
        rw [kont_eq]
        simp -implicitDefEqProofs only [go_sem, zS, ↓reduceIte, Za, Zb, Zc, reduceCtorEq, zU, zV, Zf, Zg, Zh, Zi, Zd, Ze, zF, g33]
        refine J2.app (sz J2) O5 (by simp only [List.length_append] at hb3 ⊢; omega) fun v6 Y3 J3 L3' o6 => ?_
        have B113 := L3'.bl (K5.bl B11 (by simp)) n11
        have c1 : cell Y3 ⟨b11, 1, none⟩ = some (.int .u64 F.mo[i].2.toNat) := by rw [B113.cell]; rfl
        rw [kont_eq]
        simp -implicitDefEqProofs only [go_sem, zS, ↓reduceIte, Za, Zb, Zc, reduceCtorEq, zU, zV, Zf, Zg, Zh, Zi, Zd, Ze, zF, c1]
        refine (c.mem F.mo[i].2 Y3).mono ?_
        rintro r6 Y4 ⟨O6, o6', K6⟩
        have hle : ((List.range 64).filter (bt F.mo[i].2)).length ≤ 64 := by
          have := List.length_filter_le (bt F.mo[i].2) (List.range 64)
          simp at this; omega
        rw [kont_eq]
        simp -implicitDefEqProofs only [go_sem, zS, ↓reduceIte, Za, Zb, Zc, reduceCtorEq, zU, zV, Zf, Zg, Zh, Zi, Zd, Ze, zF]
        refine (c.putS _ (setL F.mo[i].2) r6 Y4 O6.sl (by omega) (fun n hn => by have := (List.mem_filter.1 hn).1; rw [List.mem_range] at this; omega) (setL_can _) fun n => ?_).mono ?_
        · rw [setL_bit, Bool.eq_iff_iff, decide_eq_true_eq, List.mem_filter, List.mem_range]
          exact ⟨fun h => ⟨bt_lt h, h⟩, fun h => h.2⟩
        rintro r7 Y5 ⟨O7, o7, K7⟩
        have J4 := J3.keep0 (K6.trans K7)
        rw [kont_eq]
        simp -implicitDefEqProofs only [go_sem, zS, ↓reduceIte, Za, Zb, Zc, reduceCtorEq, zU, zV, Zf, Zg, Zh, Zi, Zd, Ze, zF]
        refine J4.app (sz J4) O7 (by simp only [encB, List.length_append] at hb3 ⊢; omega) fun v8 Y6 J5 L5 o8 => ?_
        rw [kont_eq]
        simp -implicitDefEqProofs only [go_sem, zS, ↓reduceIte, Za, Zb, Zc, reduceCtorEq, kont_eq, zU, zV, Zf, Zg, Zh, Zi, Zd, Ze, zF]
        refine ⟨v8, rfl, ?_⟩
        rw [take_flat _ hi, encMo]
        simp only [← List.append_assoc] at J5 ⊢
        exact J5
      · rintro g3' Y - ⟨y3, g33, I⟩
        rw [List.take_length, List.append_assoc, ← encL, ← encF_3] at I
        simp -implicitDefEqProofs only [go_sem, zS, ↓reduceIte, Za, Zb, Zc, reduceCtorEq, kont_eq, zU, zV, Zf, Zg, Zh, Zi, Zd, Ze] at g33
        simp -implicitDefEqProofs only [go_sem, zS, ↓reduceIte, Za, Zb, Zc, reduceCtorEq, kont_eq, zU, zV, Zf, Zg, Zh, Zi, Zd, Ze, zF, g33]
        rw [hQ]
        exact ⟨I.o, fun q hq => by have := I.n q hq; omega, old I⟩
end Go.Mg

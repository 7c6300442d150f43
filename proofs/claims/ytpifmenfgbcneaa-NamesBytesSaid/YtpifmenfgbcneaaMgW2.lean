/- wire: readers. -/
import Derived.Test.YtpifmenfgbcneaaMgW1
namespace Go.Mg
open Go Go.RowKit
set_option linter.unusedSimpArgs false
set_option linter.unusedVariables false
set_option maxRecDepth 100000
/- wire.NewReader -/
def c_rnewr (ι : Ids) : S :=
  .seq (.reg [.p (.v 2) (.mv (.c (.pointer .none)))]) (.seq (.reg [.p (.t 3) (.mv (.v 0)), .e (.t 4) (.call (ι.f 51) [.t 3]), .p (.t 5) (.m (.bld #[.slice .none 0 0, .int .i64 0] [(0, (1, .t 4))])), .e
  (.t 6) (.box (ι.t 107) (.t 5)), .p (.v 2) (.mv (.t 6))]) .ret)
def r_rnewr : List RV := [.t 2]
/- (ptr wire.Reader).Count -/
def c_rcount (ι : Ids) : S :=
  .seq (.reg [.p (.v 4) (.mv (.c (.int .i64 0)))]) (.seq (.seq (.reg [.p (.t 7) (.mv (.v 0)), .e (.t 8) (.call (ι.f 109) [.t 7]), .p (.t 9) (.not (.t 8)), .p (.t 10) (.mv (.t 9)), .gp (.t 11) (.t 10)
  false (.mv (.v 0)), .gp (.t 12) (.t 10) false (.mv (.v 1)), .gp (.t 13) (.t 10) false (.cm .lss .i64 (.t 12) (.c (.int .i64 0))), .ge (.t 14) (.t 10) false (.call (ι.f 110) [.t 11, .t 13, .c (.int
  .i64 1)]), .gp (.t 15) (.t 10) false (.not (.t 14)), .p (.v 16) (.pick (.t 10) (.c (.bool true)) (.t 15))]) (.ite (.v 16) (.seq (.reg [.p (.v 4) (.mv (.c (.int .i64 0)))]) .ret) .skip)) (.seq (.reg
  [.p (.t 18) (.mv (.v 0)), .e (.t 19) (.call (ι.f 111) [.t 18]), .p (.t 17) (.mv (.t 19)), .p (.t 20) (.ext (.t 17) 0), .p (.t 21) (.ext (.t 17) 1), .p (.v 5) (.mv (.t 20)), .p (.v 6) (.mv (.t 21))])
  (.seq (.seq (.reg [.p (.t 22) (.mv (.v 0)), .p (.t 23) (.mv (.v 6)), .p (.t 24) (.cm .eql .i64 (.t 23) (.c (.int .i64 0))), .e (.t 25) (.call (ι.f 110) [.t 22, .t 24, .c (.int .i64 6)]), .p (.t 26)
  (.not (.t 25)), .p (.t 27) (.mv (.t 26)), .gp (.t 28) (.t 27) false (.mv (.v 0)), .gp (.t 29) (.t 27) false (.mv (.v 5)), .gp (.t 30) (.t 27) false (.mv (.v 1)), .gp (.t 31) (.t 27) false (.ii .u64
  (.t 30)), .gp (.t 32) (.t 27) false (.cm .gtr .u64 (.t 29) (.t 31)), .ge (.t 33) (.t 27) false (.call (ι.f 110) [.t 28, .t 32, .c (.int .i64 3)]), .gp (.t 34) (.t 27) false (.not (.t 33)), .p (.v 35)
  (.pick (.t 27) (.c (.bool true)) (.t 34))]) (.ite (.v 35) (.seq (.reg [.p (.v 4) (.mv (.c (.int .i64 0)))]) .ret) .skip)) (.seq (.reg [.p (.t 36) (.mv (.v 0)), .p (.t 37) (.mv (.v 6)), .e (.t 38)
  (.call (ι.f 112) [.t 36, .t 37])]) (.seq (.reg [.p (.t 39) (.mv (.v 5)), .p (.t 40) (.ii .i64 (.t 39)), .p (.v 4) (.mv (.t 40))]) .ret)))))
def r_rcount : List RV := [.t 4]
/- (ptr wire.Reader).String -/
def c_rstring (ι : Ids) : S :=
  .seq (.reg [.p (.v 4) (.mv (.c (.string ⟨#[]⟩)))]) (.seq (.reg [.p (.t 5) (.mv (.v 0)), .p (.t 6) (.mv (.v 1)), .e (.t 7) (.call (ι.f 114) [.t 5, .t 6]), .p (.t 8) (.m (.b2s (.t 7))), .p (.v 4) (.mv
  (.t 8))]) .ret)
def r_rstring : List RV := [.t 4]
/- (ptr wire.Reader).End -/
def c_rend (ι : Ids) : S :=
  .seq (.reg [.p (.v 2) (.mv (.c (.int .i64 0)))]) (.seq (.seq (.reg [.p (.t 3) (.mv (.v 0)), .e (.t 4) (.call (ι.f 109) [.t 3]), .p (.t 5) (.mv (.t 4)), .gp (.t 6) (.t 5) true (.mv (.v 0)), .gp (.t 7)
  (.t 5) true (.nil (.t 6)), .gp (.t 8) (.t 5) true (.fa 0 (.t 7)), .gp (.t 9) (.t 5) true (.ld (.t 8)), .gp (.t 10) (.t 5) true (.m (.lenl (.t 9))), .gp (.t 11) (.t 5) true (.cm .gtr .i64 (.t 10) (.c
  (.int .i64 0))), .p (.v 12) (.pick (.t 5) (.t 11) (.c (.bool false)))]) (.ite (.v 12) (.seq (.reg [.p (.v 2) (.mv (.c (.int .i64 6)))]) .ret) .skip)) (.seq (.reg [.p (.t 13) (.mv (.v 0)), .e (.t 14)
  (.call (ι.f 116) [.t 13]), .p (.v 2) (.mv (.t 14))]) .ret))
def r_rend : List RV := [.t 2]
/- (ptr wire.Reader).ok -/
def c_rok (ι : Ids) : S :=
  .seq (.reg [.p (.v 2) (.mv (.c (.bool false)))]) (.seq (.reg [.p (.t 3) (.mv (.v 0)), .p (.t 4) (.m (.eqn .ptr true (.t 3))), .p (.t 5) (.mv (.t 4)), .gp (.t 6) (.t 5) true (.mv (.v 0)), .gp (.t 7)
  (.t 5) true (.nil (.t 6)), .gp (.t 8) (.t 5) true (.fa 1 (.t 7)), .gp (.t 9) (.t 5) true (.ld (.t 8)), .gp (.t 10) (.t 5) true (.cm .eql .i64 (.t 9) (.c (.int .i64 0))), .p (.t 11) (.pick (.t 5) (.t
  10) (.c (.bool false))), .p (.v 2) (.mv (.t 11))]) .ret)
def r_rok : List RV := [.t 2]
/- (ptr wire.Reader).refuse -/
def c_rrefuse (ι : Ids) : S :=
  .seq (.reg [.p (.v 6) (.mv (.c (.bool false)))]) (.seq (.seq (.reg [.p (.v 7) (.mv (.v 1))]) (.ite (.v 7) (.reg [.p (.t 8) (.mv (.v 0)), .p (.t 9) (.mv (.v 2)), .e (.t 10) (.call (ι.f 118) [.t 8, .t
  9])]) .skip)) (.seq (.reg [.p (.t 11) (.mv (.v 1)), .p (.t 12) (.not (.t 11)), .p (.v 6) (.mv (.t 12))]) .ret))
def r_rrefuse : List RV := [.t 6]
/- (ptr wire.Reader).number -/
def c_rnumb (ι : Ids) : S :=
  .seq (.reg [.p (.v 2) (.mv (.c (.int .u64 0))), .p (.v 3) (.mv (.c (.int .i64 0)))]) (.seq (.reg [.p (.v 4) (.mv (.c (.int .u64 0)))]) (.seq (.seq (.reg [.p (.t 7) (.mv (.v 0)), .p (.t 8) (.nil (.t
  7)), .p (.t 9) (.fa 0 (.t 8)), .p (.v 10) (.ld (.t 9)), .p (.v 11) (.m (.lenl (.v 10))), .p (.v 12) (.mv (.c (.int .i64 0)))]) (.blk 0 (.loop (.seq (.reg [.p (.v 13) (.cm .lss .i64 (.v 12) (.v 11))])
  (.seq (.ite (.v 13) .skip (.exit 0)) (.seq (.blk 1 (.seq (.reg [.p (.t 14) (.mv (.v 12)), .p (.t 15) (.is 1 (.v 10) (.v 12)), .p (.t 16) (.ld (.t 15)), .p (.v 5) (.mv (.t 14)), .p (.v 6) (.mv (.t
  16))]) (.seq (.seq (.reg [.p (.t 17) (.mv (.v 5)), .p (.t 18) (.cm .eql .i64 (.t 17) (.c (.int .i64 0))), .p (.t 19) (.mv (.t 18)), .gp (.t 20) (.t 19) true (.mv (.v 6)), .gp (.t 21) (.t 19) true (.cm
  .eql .u8 (.t 20) (.c (.int .u8 128))), .p (.t 22) (.pick (.t 19) (.t 21) (.c (.bool false))), .p (.t 23) (.mv (.t 22)), .gp (.t 24) (.t 23) false (.mv (.v 4)), .gp (.t 25) (.t 23) false (.cm .gtr .u64
  (.t 24) (.c (.int .u64 144115188075855871))), .p (.v 26) (.pick (.t 23) (.c (.bool true)) (.t 25))]) (.ite (.v 26) (.seq (.reg [.p (.v 2) (.mv (.c (.int .u64 0))), .p (.v 3) (.mv (.c (.int .i64 0)))])
  .ret) .skip)) (.seq (.reg [.p (.t 27) (.mv (.v 4)), .p (.t 28) (.sh .shl .u64 (.t 27) (.c (.int .u64 7))), .p (.t 29) (.mv (.v 6)), .p (.t 30) (.bt .and .u8 (.t 29) (.c (.int .u8 127))), .p (.t 31)
  (.ii .u64 (.t 30)), .p (.t 32) (.bt .or .u64 (.t 28) (.t 31)), .p (.v 4) (.mv (.t 32))]) (.seq (.reg [.p (.t 33) (.mv (.v 6)), .p (.v 34) (.cm .lss .u8 (.t 33) (.c (.int .u8 128)))]) (.ite (.v 34)
  (.seq (.reg [.p (.t 35) (.mv (.v 4)), .p (.t 36) (.mv (.v 5)), .p (.t 37) (.ar .add .i64 (.t 36) (.c (.int .i64 1))), .p (.v 2) (.mv (.t 35)), .p (.v 3) (.mv (.t 37))]) .ret) .skip)))))) (.reg [.p (.t
  38) (.ar .add .i64 (.v 12) (.c (.int .i64 1))), .p (.v 12) (.mv (.t 38))]))))))) (.seq (.reg [.p (.v 2) (.mv (.c (.int .u64 0))), .p (.v 3) (.mv (.c (.int .i64 0)))]) .ret)))
def r_rnumb : List RV := [.t 2, .t 3]
/- (ptr wire.Reader).take -/
def c_rtake (ι : Ids) : S :=
  .seq (.reg [.p (.v 4) (.mv (.c (.slice .none 0 0)))]) (.seq (.reg [.p (.t 6) (.mv (.v 0)), .p (.t 7) (.nil (.t 6)), .p (.t 8) (.fa 0 (.t 7)), .p (.t 9) (.ld (.t 8)), .p (.t 10) (.mv (.v 1)), .p (.t
  11) (.m (.sls 1 (.t 9) .none (.some (.t 10)))), .e (.t 12) (.call (ι.f 51) [.t 11]), .p (.v 5) (.mv (.t 12))]) (.seq (.reg [.p (.t 13) (.mv (.v 0)), .p (.t 14) (.mv (.v 0)), .p (.t 15) (.nil (.t 14)),
  .p (.t 16) (.fa 0 (.t 15)), .p (.t 17) (.ld (.t 16)), .p (.t 18) (.mv (.v 1)), .p (.t 19) (.m (.sls 1 (.t 17) (.some (.t 18)) .none)), .p (.t 20) (.nil (.t 13)), .p (.t 21) (.fa 0 (.t 20)), .e .no
  (.st (.t 21) (.t 19))]) (.seq (.reg [.p (.t 22) (.mv (.v 5)), .p (.v 4) (.mv (.t 22))]) .ret)))
def r_rtake : List RV := [.t 4]
/- (ptr wire.Reader).Bytes -/
def c_rbytes (ι : Ids) : S :=
  .seq (.reg [.p (.v 4) (.mv (.c (.slice .none 0 0)))]) (.seq (.seq (.reg [.p (.t 7) (.mv (.v 0)), .e (.t 8) (.call (ι.f 109) [.t 7]), .p (.t 9) (.not (.t 8)), .p (.t 10) (.mv (.t 9)), .gp (.t 11) (.t
  10) false (.mv (.v 0)), .gp (.t 12) (.t 10) false (.mv (.v 1)), .gp (.t 13) (.t 10) false (.cm .lss .i64 (.t 12) (.c (.int .i64 0))), .ge (.t 14) (.t 10) false (.call (ι.f 110) [.t 11, .t 13, .c (.int
  .i64 1)]), .gp (.t 15) (.t 10) false (.not (.t 14)), .p (.v 16) (.pick (.t 10) (.c (.bool true)) (.t 15))]) (.ite (.v 16) (.seq (.reg [.p (.v 4) (.mv (.c (.slice .none 0 0)))]) .ret) .skip)) (.seq
  (.reg [.p (.t 18) (.mv (.v 0)), .e (.t 19) (.call (ι.f 111) [.t 18]), .p (.t 17) (.mv (.t 19)), .p (.t 20) (.ext (.t 17) 0), .p (.t 21) (.ext (.t 17) 1), .p (.v 5) (.mv (.t 20)), .p (.v 6) (.mv (.t
  21))]) (.seq (.seq (.reg [.p (.t 22) (.mv (.v 0)), .p (.t 23) (.mv (.v 6)), .p (.t 24) (.cm .eql .i64 (.t 23) (.c (.int .i64 0))), .e (.t 25) (.call (ι.f 110) [.t 22, .t 24, .c (.int .i64 6)]), .p (.t
  26) (.not (.t 25)), .p (.t 27) (.mv (.t 26)), .gp (.t 28) (.t 27) false (.mv (.v 0)), .gp (.t 29) (.t 27) false (.mv (.v 5)), .gp (.t 30) (.t 27) false (.mv (.v 1)), .gp (.t 31) (.t 27) false (.ii
  .u64 (.t 30)), .gp (.t 32) (.t 27) false (.cm .gtr .u64 (.t 29) (.t 31)), .ge (.t 33) (.t 27) false (.call (ι.f 110) [.t 28, .t 32, .c (.int .i64 3)]), .gp (.t 34) (.t 27) false (.not (.t 33)), .p (.t
  35) (.pick (.t 27) (.c (.bool true)) (.t 34)), .p (.t 36) (.mv (.t 35)), .gp (.t 37) (.t 36) false (.mv (.v 0)), .gp (.t 38) (.t 36) false (.mv (.v 5)), .gp (.t 39) (.t 36) false (.mv (.v 0)), .gp (.t
  40) (.t 36) false (.nil (.t 39)), .gp (.t 41) (.t 36) false (.fa 0 (.t 40)), .gp (.t 42) (.t 36) false (.ld (.t 41)), .gp (.t 43) (.t 36) false (.m (.lenl (.t 42))), .gp (.t 44) (.t 36) false (.mv (.v
  6)), .gp (.t 45) (.t 36) false (.ar .sub .i64 (.t 43) (.t 44)), .gp (.t 46) (.t 36) false (.ii .u64 (.t 45)), .gp (.t 47) (.t 36) false (.cm .gtr .u64 (.t 38) (.t 46)), .ge (.t 48) (.t 36) false
  (.call (ι.f 110) [.t 37, .t 47, .c (.int .i64 6)]), .gp (.t 49) (.t 36) false (.not (.t 48)), .p (.v 50) (.pick (.t 36) (.c (.bool true)) (.t 49))]) (.ite (.v 50) (.seq (.reg [.p (.v 4) (.mv (.c
  (.slice .none 0 0)))]) .ret) .skip)) (.seq (.reg [.p (.t 51) (.mv (.v 0)), .p (.t 52) (.mv (.v 6)), .e (.t 53) (.call (ι.f 112) [.t 51, .t 52])]) (.seq (.reg [.p (.t 54) (.mv (.v 0)), .p (.t 55) (.mv
  (.v 5)), .p (.t 56) (.ii .i64 (.t 55)), .e (.t 57) (.call (ι.f 112) [.t 54, .t 56]), .p (.v 4) (.mv (.t 57))]) .ret)))))
def r_rbytes : List RV := [.t 4]
/- (ptr wire.Reader).Err -/
def c_rerr (ι : Ids) : S :=
  .seq (.reg [.p (.v 2) (.mv (.c (.int .i64 0)))]) (.seq (.seq (.reg [.p (.t 3) (.mv (.v 0)), .p (.v 4) (.m (.eqn .ptr false (.t 3)))]) (.ite (.v 4) (.seq (.reg [.p (.v 2) (.mv (.c (.int .i64 1)))])
  .ret) .skip)) (.seq (.reg [.p (.t 5) (.mv (.v 0)), .p (.t 6) (.nil (.t 5)), .p (.t 7) (.fa 1 (.t 6)), .p (.t 8) (.ld (.t 7)), .p (.v 2) (.mv (.t 8))]) .ret))
def r_rerr : List RV := [.t 2]
/- (ptr wire.Reader).Fail -/
def c_rfail (ι : Ids) : S :=
  .seq (.reg [.p (.t 4) (.mv (.v 0)), .e (.v 5) (.call (ι.f 109) [.t 4])]) (.ite (.v 5) (.reg [.p (.t 6) (.mv (.v 0)), .p (.t 7) (.mv (.v 1)), .p (.t 8) (.nil (.t 6)), .p (.t 9) (.fa 1 (.t 8)), .e .no
  (.st (.t 9) (.t 7))]) .skip)
def r_rfail : List RV := []

/-! ### numbers at the front -/
def dec7 : Bool → Nat → List UInt8 → Option (Nat × List UInt8)
  | _, _, [] => none
  | first, v, b :: r => if (first = true ∧ b.toNat = 128) ∨ v > 144115188075855871 then none else if b.toNat < 128 then some (v * 128 + b.toNat % 128, r) else dec7 false (v * 128 + b.toNat % 128) r
theorem dec7_cons (first : Bool) (v : Nat) (b : UInt8) (r : List UInt8) : dec7 first v (b :: r) = if (first = true ∧ b.toNat = 128) ∨ v > 144115188075855871 then none else if b.toNat < 128 then some (v * 128 + b.toNat % 128, r) else dec7 false (v * 128 + b.toNat % 128) r := by rw [dec7]
theorem dec7_drop : ∀ (l : List UInt8) (first : Bool) (u v : Nat) (r : List UInt8), dec7 first u l = some (v, r) → r.length < l.length ∧ r = l.drop (l.length - r.length) ∧ v < 18446744073709551616
  | [], _, _, _, _, h => by simp [dec7] at h
  | b :: l, first, u, v, r, h => by
    unfold dec7 at h
    split at h
    · cases h
    · rename_i c1
      split at h
      · cases h
        refine ⟨by simp, ?_, by omega⟩
        simp
      · obtain ⟨h1, h2, h3⟩ := dec7_drop l false _ v r h
        refine ⟨by simp; omega, ?_, h3⟩
        have e : (b :: l).length - r.length = (l.length - r.length) + 1 := by simp; omega
        rw [e, List.drop_succ_cons]; exact h2
/-- the groups of a number but for its last -/
def hi7 (u : Nat) : List UInt8 := (tl7 u).reverse
theorem hi7_0 : hi7 0 = [] := by rw [hi7, tl7_0]; rfl
theorem hi7_pos {u : Nat} (h : u ≠ 0) : hi7 u = hi7 (u / 128) ++ [UInt8.ofNat (u % 128 + 128)] := by
  rw [hi7, tl7_pos h, List.reverse_cons]; rfl
theorem enc7_hi (v : Nat) : enc7 v = hi7 (v / 128) ++ [UInt8.ofNat (v % 128)] := by
  rw [enc7, le7, List.reverse_cons]; rfl
theorem ofNat_lt (n : Nat) (h : n < 256) : (UInt8.ofNat n).toNat = n := by rw [UInt8.toNat_ofNat']; omega
theorem dec7_hi (u : Nat) (h0 : u ≠ 0) (h : u ≤ 144115188075855871) (r : List UInt8) : dec7 true 0 (hi7 u ++ r) = dec7 false u r := by
  induction u using Nat.strongRecOn generalizing r with
  | ind u ih =>
    rw [hi7_pos h0, List.append_assoc, List.singleton_append]
    have e := ofNat_lt (u % 128 + 128) (by omega)
    by_cases c : u / 128 = 0
    · rw [c, hi7_0, List.nil_append, dec7, e, if_neg (by omega), if_neg (by omega)]
      congr 1; omega
    · rw [ih (u / 128) (by omega) c (by omega), dec7, e, if_neg (by simp; omega), if_neg (by omega)]
      congr 1; omega
theorem dec7_enc (v : Nat) (h : v < 18446744073709551616) (r : List UInt8) : dec7 true 0 (enc7 v ++ r) = some (v, r) := by
  rw [enc7_hi, List.append_assoc, List.singleton_append]
  have e := ofNat_lt (v % 128) (by omega)
  by_cases c : v / 128 = 0
  · rw [c, hi7_0, List.nil_append, dec7, e, if_neg (by omega), if_pos (by omega)]
    congr 2; omega
  · rw [dec7_hi _ c (by omega), dec7, e, if_neg (by simp; omega), if_pos (by omega)]
    congr 2; omega
theorem u8_back (b : UInt8) (n : Nat) (h : b.toNat = n) : UInt8.ofNat n = b := by rw [← h]; exact UInt8.ofNat_toNat
theorem dec7_canF : ∀ (l : List UInt8) (u v : Nat) (r : List UInt8), u ≠ 0 → dec7 false u l = some (v, r) → hi7 u ++ l = enc7 v ++ r
  | [], _, _, _, _, h => by simp [dec7] at h
  | b :: l, u, v, r, h0, h => by
    have hb := b.toNat_lt
    unfold dec7 at h
    split at h
    · cases h
    · split at h
      · cases h
        rw [enc7_hi, show (u * 128 + b.toNat % 128) / 128 = u by omega, u8_back b _ (by omega), List.append_assoc]; rfl
      · have ih := dec7_canF l _ v r (by omega) h
        rw [← ih, hi7_pos (u := u * 128 + b.toNat % 128) (by omega), show (u * 128 + b.toNat % 128) / 128 = u by omega, u8_back b _ (by omega), List.append_assoc]; rfl
theorem dec7_can : ∀ (l : List UInt8) (v : Nat) (r : List UInt8), dec7 true 0 l = some (v, r) → l = enc7 v ++ r
  | [], _, _, h => by simp [dec7] at h
  | b :: l, v, r, h => by
    have hb := b.toNat_lt
    unfold dec7 at h
    split at h
    · cases h
    · rename_i c1
      have c2 : b.toNat ≠ 128 := fun e => c1 (.inl ⟨rfl, e⟩)
      clear c1
      split at h
      · cases h
        rw [enc7_hi, show (0 * 128 + b.toNat % 128) / 128 = 0 by omega, u8_back b _ (by omega), hi7_0]; rfl
      · have ih := dec7_canF l _ v r (by omega) h
        rw [← ih, hi7_pos (u := 0 * 128 + b.toNat % 128) (by omega), show (0 * 128 + b.toNat % 128) / 128 = 0 by omega, u8_back b _ (by omega), hi7_0]; rfl

/-! ### the reader -/
def RdB (F : Nat → Prop) (H : Hp) (r : Nat) (l : List UInt8) (e : Int) : Prop := ∃ v, Bl H r [v, .int .i64 e] ∧ SlR H v (w8 l) ∧ F r ∧ (∀ k, slB v k → F k ∧ k ≠ r) ∧ ∀ k, F k → k < H.size
theorem RdB.keep {F W : Nat → Prop} {H H' : Hp} {r : Nat} {l : List UInt8} {e : Int} (h : RdB F H r l e) (hk : Keep W H H') (hw : ∀ k, F k → ¬ W k) : RdB F H' r l e := by
  obtain ⟨v, h1, h2, h3, h4, h5⟩ := h
  exact ⟨v, hk.bl h1 (hw _ h3), h2.keep hk (fun k hb => hw k (h4 k hb).1), h3, h4, fun k hf => Nat.lt_of_lt_of_le (h5 k hf) hk.size⟩
theorem RdB.bound {F : Nat → Prop} {H : Hp} {r : Nat} {l : List UInt8} {e : Int} (h : RdB F H r l e) : ∀ k, F k → k < H.size := let ⟨_, _, _, _, _, h6⟩ := h; h6
theorem RdB.at {F : Nat → Prop} {H : Hp} {r : Nat} {l : List UInt8} {e : Int} (h : RdB F H r l e) : F r := let ⟨_, _, _, h, _⟩ := h; h
def RNewRSpec (P : Program) (k : FuncId) : Prop := ∀ (l : List UInt8) (v : Value) (H : Hp), SlR H v (w8 l) → l.length ≤ 100000000 → CallsM P k #[v] H fun x H' => ∃ b F, x = .pointer (some ⟨b, 0, none⟩) ∧ RdB F H' b l 0 ∧ (∀ k, F k → H.size ≤ k) ∧ Keep (fun _ => False) H H'
theorem rnewr_ok {P : Program} {ι : Ids} {k : FuncId} (hk : FnIs P k (c_rnewr ι) r_rnewr 1) (hc : CloneSpec P (ι.f 51)) : RNewRSpec P k := by
  intro l v H hv hl
  refine calls_of_vc hk (args := [_]) (by simp) ?_
  unfold c_rnewr r_rnewr
  simp only [go_sem, List.map_cons, List.map_nil, ↓reduceIte, Nat.reduceEqDiff, Nat.reduceAdd, Nat.reduceMul, reduceCtorEq, and_true, true_and, Nat.mul_one, Nat.zero_add, Bool.false_eq_true, decide_true, decide_false, not_false_eq_true, kont_eq, beq_self_eq_true, bne_self_eq_false, Int.reduceBEq, Int.reduceBNe, Int.cast_ofNat_Int]
  refine (hc _ _ _ hv hl).mono ?_
  rintro x H1 ⟨O1, o1, K1⟩
  obtain ⟨a, n, c, rfl⟩ := O1.shape
  simp only [go_sem, List.map_cons, List.map_nil, ↓reduceIte, Nat.reduceEqDiff, Nat.reduceAdd, Nat.reduceMul, reduceCtorEq, and_true, true_and, Nat.mul_one, Nat.zero_add, Bool.false_eq_true, decide_true, decide_false, not_false_eq_true, kont_eq, beq_self_eq_true, bne_self_eq_false, Int.reduceBEq, Int.reduceBNe, Int.cast_ofNat_Int, okFill, fillV, Value.cells]
  generalize hA : Array.push H1 _ = H2
  have KA : Keep (fun _ => False) H1 H2 := by rw [← hA]; exact (Keep.refl _ _).push _
  have BA : Bl H2 H1.size [.slice a n c, .int .i64 0] := by rw [← hA]; exact Bl.new' _ _ _
  have k1 := K1.size
  refine ⟨by simp, H1.size, fun k => k = H1.size ∨ slB (.slice a n c) k, rfl, ⟨_, BA, (O1.sl).keep KA (by simp), .inl rfl, fun k hk => ⟨.inr hk, ?_⟩, fun k hk => ?_⟩, fun k hk => ?_, K1.trans KA⟩
  · have := O1.old (O1.slB hk); omega
  · have q := BA.lt
    rcases hk with rfl | hk
    · exact q
    · have := O1.old (O1.slB hk); omega
  · rcases hk with rfl | hk
    · exact k1
    · exact o1 _ (O1.slB hk)
def ROkSpec (P : Program) (k : FuncId) : Prop := ∀ (F : Nat → Prop) (r : Nat) (l : List UInt8) (e : Int) (H : Hp), RdB F H r l e → CallsM P k #[.pointer (some ⟨r, 0, none⟩)] H fun x H' => x = .bool (e == 0) ∧ H' = H
theorem rok_ok {P : Program} {ι : Ids} {k : FuncId} (hk : FnIs P k (c_rok ι) r_rok 1) : ROkSpec P k := by
  intro F r l e H hr
  refine calls_of_vc hk (args := [_]) (by simp) ?_
  unfold c_rok r_rok
  obtain ⟨v, B, S, f1, f2, f3⟩ := hr
  simp only [go_sem, List.map_cons, List.map_nil, ↓reduceIte, Nat.reduceEqDiff, Nat.reduceAdd, Nat.reduceMul, reduceCtorEq, and_true, true_and, Nat.mul_one, Nat.zero_add, Bool.false_eq_true, decide_true, decide_false, not_false_eq_true, kont_eq, beq_self_eq_true, bne_self_eq_false, Int.reduceBEq, Int.reduceBNe, Int.cast_ofNat_Int, B.cell]
def RFailSpec (P : Program) (k : FuncId) : Prop := ∀ (F : Nat → Prop) (r : Nat) (l : List UInt8) (e e2 : Int) (H : Hp), RdB F H r l e → CallsM P k #[.pointer (some ⟨r, 0, none⟩), .int .i64 e2] H fun x H' => x = .tuple #[] ∧ RdB F H' r l (if e = 0 then e2 else e) ∧ Keep (fun k => k = r) H H'
theorem rfail_ok {P : Program} {ι : Ids} {k : FuncId} (hk : FnIs P k (c_rfail ι) r_rfail 2) (ho : ROkSpec P (ι.f 109)) : RFailSpec P k := by
  intro F r l e e2 H hr
  refine calls_of_vc hk (args := [_, _]) (by simp) ?_
  unfold c_rfail r_rfail
  simp only [go_sem, List.map_cons, List.map_nil, ↓reduceIte, Nat.reduceEqDiff, Nat.reduceAdd, Nat.reduceMul, reduceCtorEq, and_true, true_and, Nat.mul_one, Nat.zero_add, Bool.false_eq_true, decide_true, decide_false, not_false_eq_true, kont_eq, beq_self_eq_true, bne_self_eq_false, Int.reduceBEq, Int.reduceBNe, Int.cast_ofNat_Int]
  refine (ho _ _ _ _ _ hr).mono ?_
  rintro x H1 ⟨rfl, rfl⟩
  by_cases c : e = 0
  · subst c
    obtain ⟨v, B, S, f1, f2, f3⟩ := hr
    simp only [go_sem, List.map_cons, List.map_nil, ↓reduceIte, Nat.reduceEqDiff, Nat.reduceAdd, Nat.reduceMul, reduceCtorEq, and_true, true_and, Nat.mul_one, Nat.zero_add, Bool.false_eq_true, decide_true, decide_false, not_false_eq_true, kont_eq, beq_self_eq_true, bne_self_eq_false, Int.reduceBEq, Int.reduceBNe, Int.cast_ofNat_Int, B.cell, B.frz]
    have K := (Keep.refl (fun k => k = r) H1).setc (p := ⟨r, 0 + 1, none⟩) (.int .i64 e2) (.inl rfl)
    refine ⟨⟨v, B.setc 1 (.int .i64 e2), S.keep K (fun k hk => (f2 k hk).2), f1, f2, fun k hk => by rw [size_setc]; exact f3 k hk⟩, K⟩
  · have e1 : (e == 0) = false := by simpa using c
    simp only [go_sem, List.map_cons, List.map_nil, ↓reduceIte, Nat.reduceEqDiff, Nat.reduceAdd, Nat.reduceMul, reduceCtorEq, and_true, true_and, Nat.mul_one, Nat.zero_add, Bool.false_eq_true, decide_true, decide_false, not_false_eq_true, kont_eq, beq_self_eq_true, bne_self_eq_false, Int.reduceBEq, Int.reduceBNe, Int.cast_ofNat_Int, e1, c]
    exact ⟨hr, Keep.refl _ _⟩
def RRefSpec (P : Program) (k : FuncId) : Prop := ∀ (F : Nat → Prop) (r : Nat) (l : List UInt8) (e2 : Int) (b : Bool) (H : Hp), RdB F H r l 0 → CallsM P k #[.pointer (some ⟨r, 0, none⟩), .bool b, .int .i64 e2] H fun x H' => x = .bool (!b) ∧ RdB F H' r l (if b = true then e2 else 0) ∧ Keep (fun k => k = r) H H'
theorem rrefuse_ok {P : Program} {ι : Ids} {k : FuncId} (hk : FnIs P k (c_rrefuse ι) r_rrefuse 3) (hf : RFailSpec P (ι.f 118)) : RRefSpec P k := by
  intro F r l e2 b H hr
  refine calls_of_vc hk (args := [_, _, _]) (by simp) ?_
  unfold c_rrefuse r_rrefuse
  cases b with
  | false =>
    simp only [go_sem, List.map_cons, List.map_nil, ↓reduceIte, Nat.reduceEqDiff, Nat.reduceAdd, Nat.reduceMul, reduceCtorEq, and_true, true_and, Nat.mul_one, Nat.zero_add, Bool.false_eq_true, decide_true, decide_false, not_false_eq_true, kont_eq, beq_self_eq_true, bne_self_eq_false, Int.reduceBEq, Int.reduceBNe, Int.cast_ofNat_Int]
    exact ⟨hr, Keep.refl _ _⟩
  | true =>
    simp only [go_sem, List.map_cons, List.map_nil, ↓reduceIte, Nat.reduceEqDiff, Nat.reduceAdd, Nat.reduceMul, reduceCtorEq, and_true, true_and, Nat.mul_one, Nat.zero_add, Bool.false_eq_true, decide_true, decide_false, not_false_eq_true, kont_eq, beq_self_eq_true, bne_self_eq_false, Int.reduceBEq, Int.reduceBNe, Int.cast_ofNat_Int]
    refine (hf _ _ _ _ _ _ hr).mono ?_
    rintro x H1 ⟨rfl, R1, K1⟩
    simp only [go_sem, List.map_cons, List.map_nil, ↓reduceIte, Nat.reduceEqDiff, Nat.reduceAdd, Nat.reduceMul, reduceCtorEq, and_true, true_and, Nat.mul_one, Nat.zero_add, Bool.false_eq_true, decide_true, decide_false, not_false_eq_true, kont_eq, beq_self_eq_true, bne_self_eq_false, Int.reduceBEq, Int.reduceBNe, Int.cast_ofNat_Int] at R1 ⊢
    exact ⟨R1, K1⟩
def RErrSpec (P : Program) (k : FuncId) : Prop := ∀ (F : Nat → Prop) (r : Nat) (l : List UInt8) (e : Int) (H : Hp), RdB F H r l e → CallsM P k #[.pointer (some ⟨r, 0, none⟩)] H fun x H' => x = .int .i64 e ∧ H' = H
theorem rerr_ok {P : Program} {ι : Ids} {k : FuncId} (hk : FnIs P k (c_rerr ι) r_rerr 1) : RErrSpec P k := by
  intro F r l e H hr
  refine calls_of_vc hk (args := [_]) (by simp) ?_
  unfold c_rerr r_rerr
  obtain ⟨v, B, S, f1, f2, f3⟩ := hr
  simp only [go_sem, List.map_cons, List.map_nil, ↓reduceIte, Nat.reduceEqDiff, Nat.reduceAdd, Nat.reduceMul, reduceCtorEq, and_true, true_and, Nat.mul_one, Nat.zero_add, Bool.false_eq_true, decide_true, decide_false, not_false_eq_true, kont_eq, beq_self_eq_true, bne_self_eq_false, Int.reduceBEq, Int.reduceBNe, Int.cast_ofNat_Int, B.cell]
def endE (s : List UInt8 × Int) : Int := if s.2 = 0 ∧ 0 < s.1.length then 6 else s.2
def REndSpec (P : Program) (k : FuncId) : Prop := ∀ (F : Nat → Prop) (r : Nat) (l : List UInt8) (e : Int) (H : Hp), RdB F H r l e → CallsM P k #[.pointer (some ⟨r, 0, none⟩)] H fun x H' => x = .int .i64 (endE (l, e)) ∧ H' = H
theorem rend_ok {P : Program} {ι : Ids} {k : FuncId} (hk : FnIs P k (c_rend ι) r_rend 1) (ho : ROkSpec P (ι.f 109)) (her : RErrSpec P (ι.f 116)) : REndSpec P k := by
  intro F r l e H hr
  refine calls_of_vc hk (args := [_]) (by simp) ?_
  unfold c_rend r_rend
  simp only [go_sem, List.map_cons, List.map_nil, ↓reduceIte, Nat.reduceEqDiff, Nat.reduceAdd, Nat.reduceMul, reduceCtorEq, and_true, true_and, Nat.mul_one, Nat.zero_add, Bool.false_eq_true, decide_true, decide_false, not_false_eq_true, kont_eq, beq_self_eq_true, bne_self_eq_false, Int.reduceBEq, Int.reduceBNe, Int.cast_ofNat_Int]
  refine (ho _ _ _ _ _ hr).mono ?_
  rintro x H1 ⟨rfl, rfl⟩
  have hr' := hr
  obtain ⟨v, B, S, f1, f2, f3⟩ := hr'
  by_cases c : e = 0
  · subst c
    by_cases c2 : (l.length : Int) > 0
    · have : endE (l, 0) = 6 := by unfold endE; rw [if_pos ⟨rfl, by simpa using c2⟩]
      simp only [go_sem, List.map_cons, List.map_nil, ↓reduceIte, Nat.reduceEqDiff, Nat.reduceAdd, Nat.reduceMul, reduceCtorEq, and_true, true_and, Nat.mul_one, Nat.zero_add, Bool.false_eq_true, decide_true, decide_false, not_false_eq_true, kont_eq, beq_self_eq_true, bne_self_eq_false, Int.reduceBEq, Int.reduceBNe, Int.cast_ofNat_Int, B.cell, S.isSl, S.len, w8_len, c2, this]
    · have : endE (l, 0) = 0 := by unfold endE; rw [if_neg (fun h => by have h2 : 0 < l.length := h.2; omega)]
      simp only [go_sem, List.map_cons, List.map_nil, ↓reduceIte, Nat.reduceEqDiff, Nat.reduceAdd, Nat.reduceMul, reduceCtorEq, and_true, true_and, Nat.mul_one, Nat.zero_add, Bool.false_eq_true, decide_true, decide_false, not_false_eq_true, kont_eq, beq_self_eq_true, bne_self_eq_false, Int.reduceBEq, Int.reduceBNe, Int.cast_ofNat_Int, B.cell, S.isSl, S.len, w8_len, c2, this]
      refine (her _ _ _ _ _ hr).mono ?_
      rintro x H1 ⟨rfl, rfl⟩
      simp only [go_sem, List.map_cons, List.map_nil, ↓reduceIte, Nat.reduceEqDiff, Nat.reduceAdd, Nat.reduceMul, reduceCtorEq, and_true, true_and, Nat.mul_one, Nat.zero_add, Bool.false_eq_true, decide_true, decide_false, not_false_eq_true, kont_eq, beq_self_eq_true, bne_self_eq_false, Int.reduceBEq, Int.reduceBNe, Int.cast_ofNat_Int]
  · have e1 : (e == 0) = false := by simpa using c
    have : endE (l, e) = e := by unfold endE; rw [if_neg (by simp [c])]
    simp only [go_sem, List.map_cons, List.map_nil, ↓reduceIte, Nat.reduceEqDiff, Nat.reduceAdd, Nat.reduceMul, reduceCtorEq, and_true, true_and, Nat.mul_one, Nat.zero_add, Bool.false_eq_true, decide_true, decide_false, not_false_eq_true, kont_eq, beq_self_eq_true, bne_self_eq_false, Int.reduceBEq, Int.reduceBNe, Int.cast_ofNat_Int, e1, this]
    refine (her _ _ _ _ _ hr).mono ?_
    rintro x H1 ⟨rfl, rfl⟩
    simp only [go_sem, List.map_cons, List.map_nil, ↓reduceIte, Nat.reduceEqDiff, Nat.reduceAdd, Nat.reduceMul, reduceCtorEq, and_true, true_and, Nat.mul_one, Nat.zero_add, Bool.false_eq_true, decide_true, decide_false, not_false_eq_true, kont_eq, beq_self_eq_true, bne_self_eq_false, Int.reduceBEq, Int.reduceBNe, Int.cast_ofNat_Int]

def decN (l : List UInt8) : Nat × Nat := match dec7 true 0 l with | some (v, r) => (v, l.length - r.length) | none => (0, 0)
theorem and127b (b : UInt8) : bits .and .u8 (b.toNat : Int) 127 = ((b.toNat % 128 : Nat) : Int) := by
  have : ∀ m : Fin 256, bits .and .u8 ((m.val : Nat) : Int) 127 = ((m.val % 128 : Nat) : Int) := by decide +kernel
  exact this ⟨b.toNat, b.toNat_lt⟩
theorem or7 (a b : Nat) (hb : b < 128) (h : a * 128 + b < 18446744073709551616) : bits .or .u64 ((a * 128 : Nat) : Int) (b : Int) = ((a * 128 + b : Nat) : Int) := by
  have e1 : ((a * 128 : Nat) : Int) = ((UInt64.ofNat (a * 128)).toNat : Int) := by rw [UInt64.toNat_ofNat']; omega
  have e2 : (b : Int) = ((UInt64.ofNat b).toNat : Int) := by rw [UInt64.toNat_ofNat']; omega
  rw [e1, e2, bits_or, UInt64.toNat_or, UInt64.toNat_ofNat', UInt64.toNat_ofNat', Nat.mod_eq_of_lt (by omega), Nat.mod_eq_of_lt (by omega)]
  have e3 : a * 128 = a <<< 7 := by rw [Nat.shiftLeft_eq]
  rw [e3, ← Nat.shiftLeft_add_eq_or_of_lt (show b < 2 ^ 7 from hb)]
def RNumbSpec (P : Program) (k : FuncId) : Prop := ∀ (F : Nat → Prop) (r : Nat) (l : List UInt8) (e : Int) (H : Hp), RdB F H r l e → l.length ≤ 100000000 → CallsM P k #[.pointer (some ⟨r, 0, none⟩)] H fun x H' => x = .tuple #[.int .u64 (decN l).1, .int .i64 (decN l).2] ∧ H' = H
theorem rnumb_ok {P : Program} {ι : Ids} {k : FuncId} (hk : FnIs P k (c_rnumb ι) r_rnumb 1) : RNumbSpec P k := by
  intro F r l e H hr hl
  refine calls_of_vc hk (args := [_]) (by simp) ?_
  unfold c_rnumb r_rnumb
  obtain ⟨v, B, S, f1, f2, f3⟩ := hr
  simp only [go_sem, List.map_cons, List.map_nil, ↓reduceIte, Nat.reduceEqDiff, Nat.reduceAdd, Nat.reduceMul, reduceCtorEq, and_true, true_and, Nat.mul_one, Nat.zero_add, Bool.false_eq_true, decide_true, decide_false, not_false_eq_true, kont_eq, beq_self_eq_true, bne_self_eq_false, Int.reduceBEq, Int.reduceBNe, Int.cast_ofNat_Int, B.cell, S.isSl, S.len, w8_len]
  refine vc_loop [13, 5, 6, 26, 2, 3, 4, 34, 12] rfl (fun n f H' => ∃ i u : Nat, i ≤ l.length ∧ n = l.length - i ∧ f 12 = .int .i64 i ∧ f 4 = .int .u64 u ∧ u < 18446744073709551616 ∧ H' = H ∧ dec7 true 0 l = dec7 (i == 0) u (l.drop i)) l.length
    ⟨0, 0, by omega, by omega, rfl, rfl, by omega, rfl, rfl⟩ ?_
  rintro n g H' ⟨i, u, hi, rfl, hf12, hf4, hu, rfl, hd⟩
  simp only [go_sem, List.map_cons, List.map_nil, ↓reduceIte, Nat.reduceEqDiff, Nat.reduceAdd, Nat.reduceMul, reduceCtorEq, and_true, true_and, Nat.mul_one, Nat.zero_add, Bool.false_eq_true, decide_true, decide_false, not_false_eq_true, kont_eq, beq_self_eq_true, bne_self_eq_false, Int.reduceBEq, Int.reduceBNe, Int.cast_ofNat_Int] at hf12 hf4
  simp only [go_sem, List.map_cons, List.map_nil, ↓reduceIte, Nat.reduceEqDiff, Nat.reduceAdd, Nat.reduceMul, reduceCtorEq, and_true, true_and, Nat.mul_one, Nat.zero_add, Bool.false_eq_true, decide_true, decide_false, not_false_eq_true, kont_eq, beq_self_eq_true, bne_self_eq_false, Int.reduceBEq, Int.reduceBNe, Int.cast_ofNat_Int, hf12, hf4]
  refine iteV_dec (fun hlt => ?_) (fun hge => ?_)
  · have hi2 : i < l.length := by omega
    obtain ⟨bV, oV, cV, rfl, -, -⟩ := S.cells (by intro e; have h := congrArg List.length e; rw [w8_len, List.length_nil] at h; omega)
    have hcell := S.cell_at (i := i) (by rw [w8_len]; omega)
    rw [w8_get _ _ hi2] at hcell
    have e1 : l.drop i = l.getD i 0 :: l.drop (i + 1) := by
      rw [List.drop_eq_getElem_cons hi2]; simp [hi2]
    rw [e1] at hd
    generalize l.getD i 0 = b at *
    have hb := b.toNat_lt
    have a1 := and127b b
    have w1 : IntKind.u64.wrap ((b.toNat % 128 : Nat) : Int) = ((b.toNat % 128 : Nat) : Int) := by rw [IntKind.wrap_u64]; omega
    have i0 : ((i : Int) == 0) = (i == 0) := by
      by_cases h : i = 0
      · subst h; rfl
      · rw [beq_eq_false_iff_ne.2 (by omega : (i : Int) ≠ 0), beq_eq_false_iff_ne.2 h]
    have b0 : ((b.toNat : Int) == 128) = (b.toNat == 128) := by
      by_cases h : b.toNat = 128
      · rw [h]; rfl
      · rw [beq_eq_false_iff_ne.2 (by omega : (b.toNat : Int) ≠ 128), beq_eq_false_iff_ne.2 h]
    rw [dec7_cons] at hd
    by_cases c1 : ((i == 0) = true ∧ b.toNat = 128)
    · obtain ⟨h1, h2⟩ := c1
      rw [if_pos (.inl ⟨h1, h2⟩)] at hd
      have : decN l = (0, 0) := by unfold decN; rw [hd]
      have h3 : (b.toNat == 128) = true := by simpa using h2
      simp only [go_sem, List.map_cons, List.map_nil, ↓reduceIte, Nat.reduceEqDiff, Nat.reduceAdd, Nat.reduceMul, reduceCtorEq, and_true, true_and, Nat.mul_one, Nat.zero_add, Bool.false_eq_true, decide_true, decide_false, not_false_eq_true, kont_eq, beq_self_eq_true, bne_self_eq_false, Int.reduceBEq, Int.reduceBNe, Int.cast_ofNat_Int, hf12, hf4, hcell, tn_cast, w8_len, i0, h1, b0, h3, this]
      exact ⟨by omega, by omega⟩
    by_cases c2 : u > 144115188075855871
    · rw [if_pos (.inr c2)] at hd
      have : decN l = (0, 0) := by unfold decN; rw [hd]
      have c3 : (u : Int) > 144115188075855871 := by omega
      by_cases h1 : (i == 0) = true
      · have h3 : (b.toNat == 128) = false := by simpa using fun e => c1 ⟨h1, e⟩
        simp only [go_sem, List.map_cons, List.map_nil, ↓reduceIte, Nat.reduceEqDiff, Nat.reduceAdd, Nat.reduceMul, reduceCtorEq, and_true, true_and, Nat.mul_one, Nat.zero_add, Bool.false_eq_true, decide_true, decide_false, not_false_eq_true, kont_eq, beq_self_eq_true, bne_self_eq_false, Int.reduceBEq, Int.reduceBNe, Int.cast_ofNat_Int, hf12, hf4, hcell, tn_cast, w8_len, i0, h1, b0, h3, c3, this]
        exact ⟨by omega, by omega⟩
      · have h1 : (i == 0) = false := by simpa using h1
        simp only [go_sem, List.map_cons, List.map_nil, ↓reduceIte, Nat.reduceEqDiff, Nat.reduceAdd, Nat.reduceMul, reduceCtorEq, and_true, true_and, Nat.mul_one, Nat.zero_add, Bool.false_eq_true, decide_true, decide_false, not_false_eq_true, kont_eq, beq_self_eq_true, bne_self_eq_false, Int.reduceBEq, Int.reduceBNe, Int.cast_ofNat_Int, hf12, hf4, hcell, tn_cast, w8_len, i0, h1, c3, this]
        exact ⟨by omega, by omega⟩
    rw [if_neg (by rintro (h | h); exact c1 h; exact c2 h)] at hd
    have c3 : ¬ (u : Int) > 144115188075855871 := by omega
    have sh : IntKind.u64.wrap ((u : Int) * 2 ^ 7) = ((u * 128 : Nat) : Int) := by
      have : (2 ^ 7 : Int) = 128 := by decide
      rw [this, IntKind.wrap_u64]; omega
    have o1 := or7 u (b.toNat % 128) (by omega) (by omega)
    have wi : IntKind.i64.wrap ((i : Int) + 1) = ((i + 1 : Nat) : Int) := IntWalk.i64_in _ ⟨by omega, by omega⟩
    have hs : (i + 1 == 0) = false := rfl
    by_cases c4 : b.toNat < 128
    · rw [if_pos c4] at hd
      have : decN l = (u * 128 + b.toNat % 128, i + 1) := by
        unfold decN; rw [hd]
        have : (l.drop (i + 1)).length = l.length - (i + 1) := List.length_drop
        simp only [this]
        congr 1; omega
      have c5 : (b.toNat : Int) < 128 := by omega
      by_cases h1 : (i == 0) = true
      · have h3 : (b.toNat == 128) = false := by simpa using fun e => c1 ⟨h1, e⟩
        simp only [go_sem, List.map_cons, List.map_nil, ↓reduceIte, Nat.reduceEqDiff, Nat.reduceAdd, Nat.reduceMul, reduceCtorEq, and_true, true_and, Nat.mul_one, Nat.zero_add, Bool.false_eq_true, decide_true, decide_false, not_false_eq_true, kont_eq, beq_self_eq_true, bne_self_eq_false, Int.reduceBEq, Int.reduceBNe, Int.cast_ofNat_Int, hf12, hf4, hcell, tn_cast, w8_len, i0, h1, b0, h3, c3, this, a1, w1, sh, o1, c5, wi]
        exact ⟨⟨by omega, by omega⟩, by decide⟩
      · have h1 : (i == 0) = false := by simpa using h1
        simp only [go_sem, List.map_cons, List.map_nil, ↓reduceIte, Nat.reduceEqDiff, Nat.reduceAdd, Nat.reduceMul, reduceCtorEq, and_true, true_and, Nat.mul_one, Nat.zero_add, Bool.false_eq_true, decide_true, decide_false, not_false_eq_true, kont_eq, beq_self_eq_true, bne_self_eq_false, Int.reduceBEq, Int.reduceBNe, Int.cast_ofNat_Int, hf12, hf4, hcell, tn_cast, w8_len, i0, h1, c3, this, a1, w1, sh, o1, c5, wi]
        exact ⟨⟨by omega, by omega⟩, by decide⟩
    · rw [if_neg c4] at hd
      have c5 : ¬ (b.toNat : Int) < 128 := by omega
      by_cases h1 : (i == 0) = true
      · have h3 : (b.toNat == 128) = false := by simpa using fun e => c1 ⟨h1, e⟩
        simp only [go_sem, List.map_cons, List.map_nil, ↓reduceIte, Nat.reduceEqDiff, Nat.reduceAdd, Nat.reduceMul, reduceCtorEq, and_true, true_and, Nat.mul_one, Nat.zero_add, Bool.false_eq_true, decide_true, decide_false, not_false_eq_true, kont_eq, beq_self_eq_true, bne_self_eq_false, Int.reduceBEq, Int.reduceBNe, Int.cast_ofNat_Int, hf12, hf4, hcell, tn_cast, w8_len, i0, h1, b0, h3, c3, a1, w1, sh, o1, c5, wi]
        exact ⟨⟨by omega, by omega⟩, by decide, l.length - (i + 1), by omega, i + 1, _, by omega, rfl, rfl, rfl, by omega, by rw [hs]; exact hd⟩
      · have h1 : (i == 0) = false := by simpa using h1
        simp only [go_sem, List.map_cons, List.map_nil, ↓reduceIte, Nat.reduceEqDiff, Nat.reduceAdd, Nat.reduceMul, reduceCtorEq, and_true, true_and, Nat.mul_one, Nat.zero_add, Bool.false_eq_true, decide_true, decide_false, not_false_eq_true, kont_eq, beq_self_eq_true, bne_self_eq_false, Int.reduceBEq, Int.reduceBNe, Int.cast_ofNat_Int, hf12, hf4, hcell, tn_cast, w8_len, i0, h1, c3, a1, w1, sh, o1, c5, wi]
        exact ⟨⟨by omega, by omega⟩, by decide, l.length - (i + 1), by omega, i + 1, _, by omega, rfl, rfl, rfl, by omega, by rw [hs]; exact hd⟩
  · have hi2 : i = l.length := by omega
    subst hi2
    rw [List.drop_length, dec7] at hd
    have : decN l = (0, 0) := by unfold decN; rw [hd]
    simp only [go_sem, List.map_cons, List.map_nil, ↓reduceIte, Nat.reduceEqDiff, Nat.reduceAdd, Nat.reduceMul, reduceCtorEq, and_true, true_and, Nat.mul_one, Nat.zero_add, Bool.false_eq_true, decide_true, decide_false, not_false_eq_true, kont_eq, beq_self_eq_true, bne_self_eq_false, Int.reduceBEq, Int.reduceBNe, Int.cast_ofNat_Int, this]

theorem decN_some {l : List UInt8} {v : Nat} {r : List UInt8} (h : dec7 true 0 l = some (v, r)) : decN l = (v, l.length - r.length) ∧ r.length < l.length ∧ l.drop (l.length - r.length) = r ∧ v < 18446744073709551616 := by
  obtain ⟨h1, h2, h3⟩ := dec7_drop l true 0 v r h
  exact ⟨by unfold decN; rw [h], h1, h2.symm, h3⟩
theorem decN_none {l : List UInt8} (h : dec7 true 0 l = none) : decN l = (0, 0) := by unfold decN; rw [h]
def RTakeSpec (P : Program) (k : FuncId) : Prop := ∀ (F : Nat → Prop) (r : Nat) (l : List UInt8) (e : Int) (n : Nat) (H : Hp), RdB F H r l e → n ≤ l.length → l.length ≤ 100000000 → CallsM P k #[.pointer (some ⟨r, 0, none⟩), .int .i64 n] H fun x H' =>
  OwS H' x (w8 (l.take n)) ∧ (∀ k, ownB x k → H.size ≤ k) ∧ RdB F H' r (l.drop n) e ∧ Keep (fun k => k = r) H H'
theorem rtake_ok {P : Program} {ι : Ids} {k : FuncId} (hk : FnIs P k (c_rtake ι) r_rtake 2) (hc : CloneSpec P (ι.f 51)) : RTakeSpec P k := by
  intro F r l e n H hr hn hl
  refine calls_of_vc hk (args := [_, _]) (by simp) ?_
  unfold c_rtake r_rtake
  obtain ⟨v, B, S, f1, f2, f3⟩ := hr
  have hcap := S.cap
  rw [w8_len] at hcap
  simp only [go_sem, List.map_cons, List.map_nil, ↓reduceIte, Nat.reduceEqDiff, Nat.reduceAdd, Nat.reduceMul, reduceCtorEq, and_true, true_and, Nat.mul_one, Nat.zero_add, Bool.false_eq_true, decide_true, decide_false, not_false_eq_true, kont_eq, beq_self_eq_true, bne_self_eq_false, Int.reduceBEq, Int.reduceBNe, Int.cast_ofNat_Int, B.cell, S.isSl, S.len, w8_len]
  refine And.intro ⟨by omega, by omega⟩ ?_
  have ST := S.take (n := n) (by rw [w8_len]; exact hn)
  rw [w8_take] at ST
  refine (hc _ _ _ ST (by simp; omega)).mono ?_
  rintro x H1 ⟨O1, o1, K1⟩
  have B1 := K1.bl B (by simp)
  have S1 := S.keep K1 (by simp)
  have SD := S1.drop (n := n) (by rw [w8_len]; exact hn)
  rw [w8_drop] at SD
  simp only [go_sem, List.map_cons, List.map_nil, ↓reduceIte, Nat.reduceEqDiff, Nat.reduceAdd, Nat.reduceMul, reduceCtorEq, and_true, true_and, Nat.mul_one, Nat.zero_add, Bool.false_eq_true, decide_true, decide_false, not_false_eq_true, kont_eq, beq_self_eq_true, bne_self_eq_false, Int.reduceBEq, Int.reduceBNe, Int.cast_ofNat_Int, B1.cell, S1.isSl, S1.len, w8_len, B1.frz]
  obtain ⟨a, m, c, hsl⟩ : ∃ a m c, slV v 1 (some (n : Int)) none = .slice a m c := by
    obtain ⟨a, c, h, -⟩ := SD.mk
    exact ⟨_, _, _, h⟩
  have k1 := K1.size
  have hrl := B.lt
  have KS := (Keep.refl (fun k => k = r) H1).setc (p := ⟨r, 0, none⟩) (slV v 1 (some (n : Int)) none) (.inl rfl)
  have BS := B1.setc 0 (slV v 1 (some (n : Int)) none)
  rw [hsl] at KS BS SD ⊢
  refine ⟨⟨by omega, by omega⟩, rfl, O1.keep KS (fun k h e => by have := o1 k h; omega), o1, ⟨_, BS, SD.keep KS (fun k hk => ?_), f1, fun k hk => ?_, fun k hk => ?_⟩, K1.any.trans KS⟩
  · exact (f2 k (slB_drop (z := 1) (n := n) (by rw [hsl]; exact hk))).2
  · exact f2 k (slB_drop (z := 1) (n := n) (by rw [hsl]; exact hk))
  · rw [size_setc]; have := f3 k hk; omega

def rdCnt (most : Nat) (s : List UInt8 × Int) : Nat × (List UInt8 × Int) :=
  if s.2 ≠ 0 then (0, s) else match dec7 true 0 s.1 with | none => (0, (s.1, 6)) | some (v, r) => if v > most then (0, (s.1, 3)) else (v, (r, 0))
def rdByt (most : Nat) (s : List UInt8 × Int) : List UInt8 × (List UInt8 × Int) :=
  if s.2 ≠ 0 then ([], s) else match dec7 true 0 s.1 with | none => ([], (s.1, 6)) | some (v, r) => if v > most then ([], (s.1, 3)) else if v > r.length then ([], (s.1, 6)) else (r.take v, (r.drop v, 0))
def RCountSpec (P : Program) (k : FuncId) : Prop := ∀ (F : Nat → Prop) (r : Nat) (s : List UInt8 × Int) (most : Nat) (H : Hp), RdB F H r s.1 s.2 → s.1.length ≤ 100000000 → most ≤ 1000000000 → CallsM P k #[.pointer (some ⟨r, 0, none⟩), .int .i64 most] H fun x H' =>
  x = .int .i64 (rdCnt most s).1 ∧ RdB F H' r (rdCnt most s).2.1 (rdCnt most s).2.2 ∧ Keep (fun k => k = r) H H'
theorem rcount_ok {P : Program} {ι : Ids} {k : FuncId} (hk : FnIs P k (c_rcount ι) r_rcount 2) (ho : ROkSpec P (ι.f 109)) (hrf : RRefSpec P (ι.f 110)) (hn : RNumbSpec P (ι.f 111)) (ht : RTakeSpec P (ι.f 112)) : RCountSpec P k := by
  rintro F r ⟨l, e⟩ most H hr hl hm
  refine calls_of_vc hk (args := [_, _]) (by simp) ?_
  unfold c_rcount r_rcount
  simp only at hr hl
  simp only [go_sem, List.map_cons, List.map_nil, ↓reduceIte, Nat.reduceEqDiff, Nat.reduceAdd, Nat.reduceMul, reduceCtorEq, and_true, true_and, Nat.mul_one, Nat.zero_add, Bool.false_eq_true, decide_true, decide_false, not_false_eq_true, kont_eq, beq_self_eq_true, bne_self_eq_false, Int.reduceBEq, Int.reduceBNe, Int.cast_ofNat_Int]
  refine (ho _ _ _ _ _ hr).mono ?_
  rintro x H1 ⟨rfl, rfl⟩
  by_cases c : e = 0
  case neg =>
    have e1 : (e == 0) = false := by simpa using c
    have : rdCnt most (l, e) = (0, (l, e)) := by unfold rdCnt; rw [if_pos (by simpa using c)]
    simp only [go_sem, List.map_cons, List.map_nil, ↓reduceIte, Nat.reduceEqDiff, Nat.reduceAdd, Nat.reduceMul, reduceCtorEq, and_true, true_and, Nat.mul_one, Nat.zero_add, Bool.false_eq_true, decide_true, decide_false, not_false_eq_true, kont_eq, beq_self_eq_true, bne_self_eq_false, Int.reduceBEq, Int.reduceBNe, Int.cast_ofNat_Int, e1, this]
    exact ⟨hr, Keep.refl _ _⟩
  subst c
  have hm0 : ¬ (most : Int) < 0 := by omega
  simp only [go_sem, List.map_cons, List.map_nil, ↓reduceIte, Nat.reduceEqDiff, Nat.reduceAdd, Nat.reduceMul, reduceCtorEq, and_true, true_and, Nat.mul_one, Nat.zero_add, Bool.false_eq_true, decide_true, decide_false, not_false_eq_true, kont_eq, beq_self_eq_true, bne_self_eq_false, Int.reduceBEq, Int.reduceBNe, Int.cast_ofNat_Int, hm0]
  refine (hrf _ _ _ _ _ _ hr).mono ?_
  rintro x H2 ⟨rfl, R2, K2⟩
  simp only [Bool.false_eq_true, if_false] at R2
  simp only [go_sem, List.map_cons, List.map_nil, ↓reduceIte, Nat.reduceEqDiff, Nat.reduceAdd, Nat.reduceMul, reduceCtorEq, and_true, true_and, Nat.mul_one, Nat.zero_add, Bool.false_eq_true, decide_true, decide_false, not_false_eq_true, kont_eq, beq_self_eq_true, bne_self_eq_false, Int.reduceBEq, Int.reduceBNe, Int.cast_ofNat_Int]
  refine (hn _ _ _ _ _ R2 hl).mono ?_
  rintro x H2' ⟨rfl, rfl⟩
  have wm : IntKind.u64.wrap (most : Int) = (most : Int) := by rw [IntKind.wrap_u64]; omega
  cases hd : dec7 true 0 l with
  | none =>
    have : rdCnt most (l, 0) = (0, (l, 6)) := by unfold rdCnt; rw [if_neg (by simp), hd]
    rw [decN_none hd, this]
    simp only [go_sem, List.map_cons, List.map_nil, ↓reduceIte, Nat.reduceEqDiff, Nat.reduceAdd, Nat.reduceMul, reduceCtorEq, and_true, true_and, Nat.mul_one, Nat.zero_add, Bool.false_eq_true, decide_true, decide_false, not_false_eq_true, kont_eq, beq_self_eq_true, bne_self_eq_false, Int.reduceBEq, Int.reduceBNe, Int.cast_ofNat_Int]
    refine (hrf _ _ _ _ _ _ R2).mono ?_
    rintro x H3 ⟨rfl, R3, K3⟩
    simp only [go_sem, List.map_cons, List.map_nil, ↓reduceIte, Nat.reduceEqDiff, Nat.reduceAdd, Nat.reduceMul, reduceCtorEq, and_true, true_and, Nat.mul_one, Nat.zero_add, Bool.false_eq_true, decide_true, decide_false, not_false_eq_true, kont_eq, beq_self_eq_true, bne_self_eq_false, Int.reduceBEq, Int.reduceBNe, Int.cast_ofNat_Int] at R3
    simp only [go_sem, List.map_cons, List.map_nil, ↓reduceIte, Nat.reduceEqDiff, Nat.reduceAdd, Nat.reduceMul, reduceCtorEq, and_true, true_and, Nat.mul_one, Nat.zero_add, Bool.false_eq_true, decide_true, decide_false, not_false_eq_true, kont_eq, beq_self_eq_true, bne_self_eq_false, Int.reduceBEq, Int.reduceBNe, Int.cast_ofNat_Int]
    exact ⟨R3, K2.trans K3⟩
  | some p =>
    obtain ⟨v, q⟩ := p
    obtain ⟨h1, h2, h3, h4⟩ := decN_some hd
    rw [h1]
    have hq : (((l.length - q.length : Nat) : Int) == 0) = false := by simp; omega
    simp only [go_sem, List.map_cons, List.map_nil, ↓reduceIte, Nat.reduceEqDiff, Nat.reduceAdd, Nat.reduceMul, reduceCtorEq, and_true, true_and, Nat.mul_one, Nat.zero_add, Bool.false_eq_true, decide_true, decide_false, not_false_eq_true, kont_eq, beq_self_eq_true, bne_self_eq_false, Int.reduceBEq, Int.reduceBNe, Int.cast_ofNat_Int, hq]
    refine (hrf _ _ _ _ _ _ R2).mono ?_
    rintro x H3 ⟨rfl, R3, K3⟩
    simp only [go_sem, List.map_cons, List.map_nil, ↓reduceIte, Nat.reduceEqDiff, Nat.reduceAdd, Nat.reduceMul, reduceCtorEq, and_true, true_and, Nat.mul_one, Nat.zero_add, Bool.false_eq_true, decide_true, decide_false, not_false_eq_true, kont_eq, beq_self_eq_true, bne_self_eq_false, Int.reduceBEq, Int.reduceBNe, Int.cast_ofNat_Int] at R3
    have hr0 : rdCnt most (l, 0) = if v > most then (0, (l, 3)) else (v, (q, 0)) := by unfold rdCnt; rw [if_neg (by simp), hd]
    by_cases cv : v > most
    · have cv' : (v : Int) > (most : Int) := by omega
      rw [hr0, if_pos cv]
      simp only [go_sem, List.map_cons, List.map_nil, ↓reduceIte, Nat.reduceEqDiff, Nat.reduceAdd, Nat.reduceMul, reduceCtorEq, and_true, true_and, Nat.mul_one, Nat.zero_add, Bool.false_eq_true, decide_true, decide_false, not_false_eq_true, kont_eq, beq_self_eq_true, bne_self_eq_false, Int.reduceBEq, Int.reduceBNe, Int.cast_ofNat_Int, wm, cv']
      refine (hrf _ _ _ _ _ _ R3).mono ?_
      rintro x H4 ⟨rfl, R4, K4⟩
      simp only [go_sem, List.map_cons, List.map_nil, ↓reduceIte, Nat.reduceEqDiff, Nat.reduceAdd, Nat.reduceMul, reduceCtorEq, and_true, true_and, Nat.mul_one, Nat.zero_add, Bool.false_eq_true, decide_true, decide_false, not_false_eq_true, kont_eq, beq_self_eq_true, bne_self_eq_false, Int.reduceBEq, Int.reduceBNe, Int.cast_ofNat_Int] at R4
      simp only [go_sem, List.map_cons, List.map_nil, ↓reduceIte, Nat.reduceEqDiff, Nat.reduceAdd, Nat.reduceMul, reduceCtorEq, and_true, true_and, Nat.mul_one, Nat.zero_add, Bool.false_eq_true, decide_true, decide_false, not_false_eq_true, kont_eq, beq_self_eq_true, bne_self_eq_false, Int.reduceBEq, Int.reduceBNe, Int.cast_ofNat_Int]
      exact ⟨R4, (K2.trans K3).trans K4⟩
    · have cv' : ¬ (v : Int) > (most : Int) := by omega
      have wv : IntKind.i64.wrap (v : Int) = (v : Int) := IntWalk.i64_in _ ⟨by omega, by omega⟩
      rw [hr0, if_neg cv]
      simp only [go_sem, List.map_cons, List.map_nil, ↓reduceIte, Nat.reduceEqDiff, Nat.reduceAdd, Nat.reduceMul, reduceCtorEq, and_true, true_and, Nat.mul_one, Nat.zero_add, Bool.false_eq_true, decide_true, decide_false, not_false_eq_true, kont_eq, beq_self_eq_true, bne_self_eq_false, Int.reduceBEq, Int.reduceBNe, Int.cast_ofNat_Int, wm, cv']
      refine (hrf _ _ _ _ _ _ R3).mono ?_
      rintro x H4 ⟨rfl, R4, K4⟩
      simp only [go_sem, List.map_cons, List.map_nil, ↓reduceIte, Nat.reduceEqDiff, Nat.reduceAdd, Nat.reduceMul, reduceCtorEq, and_true, true_and, Nat.mul_one, Nat.zero_add, Bool.false_eq_true, decide_true, decide_false, not_false_eq_true, kont_eq, beq_self_eq_true, bne_self_eq_false, Int.reduceBEq, Int.reduceBNe, Int.cast_ofNat_Int] at R4
      simp only [go_sem, List.map_cons, List.map_nil, ↓reduceIte, Nat.reduceEqDiff, Nat.reduceAdd, Nat.reduceMul, reduceCtorEq, and_true, true_and, Nat.mul_one, Nat.zero_add, Bool.false_eq_true, decide_true, decide_false, not_false_eq_true, kont_eq, beq_self_eq_true, bne_self_eq_false, Int.reduceBEq, Int.reduceBNe, Int.cast_ofNat_Int]
      refine (ht _ _ _ _ _ _ R4 (by omega) hl).mono ?_
      rintro x H5 ⟨O5, o5, R5, K5⟩
      rw [h3] at R5
      simp only [go_sem, List.map_cons, List.map_nil, ↓reduceIte, Nat.reduceEqDiff, Nat.reduceAdd, Nat.reduceMul, reduceCtorEq, and_true, true_and, Nat.mul_one, Nat.zero_add, Bool.false_eq_true, decide_true, decide_false, not_false_eq_true, kont_eq, beq_self_eq_true, bne_self_eq_false, Int.reduceBEq, Int.reduceBNe, Int.cast_ofNat_Int, wv]
      exact ⟨R5, ((K2.trans K3).trans K4).trans K5⟩
def RBytSpec (P : Program) (k : FuncId) : Prop := ∀ (F : Nat → Prop) (r : Nat) (s : List UInt8 × Int) (most : Nat) (H : Hp), RdB F H r s.1 s.2 → s.1.length ≤ 100000000 → most ≤ 1000000000 → CallsM P k #[.pointer (some ⟨r, 0, none⟩), .int .i64 most] H fun x H' =>
  OwS H' x (w8 (rdByt most s).1) ∧ (∀ k, ownB x k → H.size ≤ k) ∧ RdB F H' r (rdByt most s).2.1 (rdByt most s).2.2 ∧ Keep (fun k => k = r) H H'
theorem rbytes_ok {P : Program} {ι : Ids} {k : FuncId} (hk : FnIs P k (c_rbytes ι) r_rbytes 2) (ho : ROkSpec P (ι.f 109)) (hrf : RRefSpec P (ι.f 110)) (hn : RNumbSpec P (ι.f 111)) (ht : RTakeSpec P (ι.f 112)) : RBytSpec P k := by
  rintro F r ⟨l, e⟩ most H hr hl hm
  refine calls_of_vc hk (args := [_, _]) (by simp) ?_
  unfold c_rbytes r_rbytes
  simp only at hr hl
  simp only [go_sem, List.map_cons, List.map_nil, ↓reduceIte, Nat.reduceEqDiff, Nat.reduceAdd, Nat.reduceMul, reduceCtorEq, and_true, true_and, Nat.mul_one, Nat.zero_add, Bool.false_eq_true, decide_true, decide_false, not_false_eq_true, kont_eq, beq_self_eq_true, bne_self_eq_false, Int.reduceBEq, Int.reduceBNe, Int.cast_ofNat_Int]
  refine (ho _ _ _ _ _ hr).mono ?_
  rintro x H1 ⟨rfl, rfl⟩
  by_cases c : e = 0
  case neg =>
    have e1 : (e == 0) = false := by simpa using c
    have : rdByt most (l, e) = ([], (l, e)) := by unfold rdByt; rw [if_pos (by simpa using c)]
    simp only [go_sem, List.map_cons, List.map_nil, ↓reduceIte, Nat.reduceEqDiff, Nat.reduceAdd, Nat.reduceMul, reduceCtorEq, and_true, true_and, Nat.mul_one, Nat.zero_add, Bool.false_eq_true, decide_true, decide_false, not_false_eq_true, kont_eq, beq_self_eq_true, bne_self_eq_false, Int.reduceBEq, Int.reduceBNe, Int.cast_ofNat_Int, e1, this]
    exact ⟨OwS.nil _, fun k h => h.elim, hr, Keep.refl _ _⟩
  subst c
  have hm0 : ¬ (most : Int) < 0 := by omega
  simp only [go_sem, List.map_cons, List.map_nil, ↓reduceIte, Nat.reduceEqDiff, Nat.reduceAdd, Nat.reduceMul, reduceCtorEq, and_true, true_and, Nat.mul_one, Nat.zero_add, Bool.false_eq_true, decide_true, decide_false, not_false_eq_true, kont_eq, beq_self_eq_true, bne_self_eq_false, Int.reduceBEq, Int.reduceBNe, Int.cast_ofNat_Int, hm0]
  refine (hrf _ _ _ _ _ _ hr).mono ?_
  rintro x H2 ⟨rfl, R2, K2⟩
  simp only [Bool.false_eq_true, if_false] at R2
  simp only [go_sem, List.map_cons, List.map_nil, ↓reduceIte, Nat.reduceEqDiff, Nat.reduceAdd, Nat.reduceMul, reduceCtorEq, and_true, true_and, Nat.mul_one, Nat.zero_add, Bool.false_eq_true, decide_true, decide_false, not_false_eq_true, kont_eq, beq_self_eq_true, bne_self_eq_false, Int.reduceBEq, Int.reduceBNe, Int.cast_ofNat_Int]
  refine (hn _ _ _ _ _ R2 hl).mono ?_
  rintro x H2' ⟨rfl, rfl⟩
  have wm : IntKind.u64.wrap (most : Int) = (most : Int) := by rw [IntKind.wrap_u64]; omega
  cases hd : dec7 true 0 l with
  | none =>
    have : rdByt most (l, 0) = ([], (l, 6)) := by unfold rdByt; rw [if_neg (by simp), hd]
    rw [decN_none hd, this]
    simp only [go_sem, List.map_cons, List.map_nil, ↓reduceIte, Nat.reduceEqDiff, Nat.reduceAdd, Nat.reduceMul, reduceCtorEq, and_true, true_and, Nat.mul_one, Nat.zero_add, Bool.false_eq_true, decide_true, decide_false, not_false_eq_true, kont_eq, beq_self_eq_true, bne_self_eq_false, Int.reduceBEq, Int.reduceBNe, Int.cast_ofNat_Int]
    refine (hrf _ _ _ _ _ _ R2).mono ?_
    rintro x H3 ⟨rfl, R3, K3⟩
    simp only [go_sem, List.map_cons, List.map_nil, ↓reduceIte, Nat.reduceEqDiff, Nat.reduceAdd, Nat.reduceMul, reduceCtorEq, and_true, true_and, Nat.mul_one, Nat.zero_add, Bool.false_eq_true, decide_true, decide_false, not_false_eq_true, kont_eq, beq_self_eq_true, bne_self_eq_false, Int.reduceBEq, Int.reduceBNe, Int.cast_ofNat_Int] at R3
    simp only [go_sem, List.map_cons, List.map_nil, ↓reduceIte, Nat.reduceEqDiff, Nat.reduceAdd, Nat.reduceMul, reduceCtorEq, and_true, true_and, Nat.mul_one, Nat.zero_add, Bool.false_eq_true, decide_true, decide_false, not_false_eq_true, kont_eq, beq_self_eq_true, bne_self_eq_false, Int.reduceBEq, Int.reduceBNe, Int.cast_ofNat_Int]
    exact ⟨OwS.nil _, fun k h => h.elim, R3, K2.trans K3⟩
  | some p =>
    obtain ⟨v, q⟩ := p
    obtain ⟨h1, h2, h3, h4⟩ := decN_some hd
    rw [h1]
    have hq : (((l.length - q.length : Nat) : Int) == 0) = false := by simp; omega
    simp only [go_sem, List.map_cons, List.map_nil, ↓reduceIte, Nat.reduceEqDiff, Nat.reduceAdd, Nat.reduceMul, reduceCtorEq, and_true, true_and, Nat.mul_one, Nat.zero_add, Bool.false_eq_true, decide_true, decide_false, not_false_eq_true, kont_eq, beq_self_eq_true, bne_self_eq_false, Int.reduceBEq, Int.reduceBNe, Int.cast_ofNat_Int, hq]
    refine (hrf _ _ _ _ _ _ R2).mono ?_
    rintro x H3 ⟨rfl, R3, K3⟩
    simp only [go_sem, List.map_cons, List.map_nil, ↓reduceIte, Nat.reduceEqDiff, Nat.reduceAdd, Nat.reduceMul, reduceCtorEq, and_true, true_and, Nat.mul_one, Nat.zero_add, Bool.false_eq_true, decide_true, decide_false, not_false_eq_true, kont_eq, beq_self_eq_true, bne_self_eq_false, Int.reduceBEq, Int.reduceBNe, Int.cast_ofNat_Int] at R3
    have hr0 : rdByt most (l, 0) = if v > most then ([], (l, 3)) else if v > q.length then ([], (l, 6)) else (q.take v, (q.drop v, 0)) := by unfold rdByt; rw [if_neg (by simp), hd]
    by_cases cv : v > most
    · have cv' : (v : Int) > (most : Int) := by omega
      rw [hr0, if_pos cv]
      simp only [go_sem, List.map_cons, List.map_nil, ↓reduceIte, Nat.reduceEqDiff, Nat.reduceAdd, Nat.reduceMul, reduceCtorEq, and_true, true_and, Nat.mul_one, Nat.zero_add, Bool.false_eq_true, decide_true, decide_false, not_false_eq_true, kont_eq, beq_self_eq_true, bne_self_eq_false, Int.reduceBEq, Int.reduceBNe, Int.cast_ofNat_Int, wm, cv']
      refine (hrf _ _ _ _ _ _ R3).mono ?_
      rintro x H4 ⟨rfl, R4, K4⟩
      simp only [go_sem, List.map_cons, List.map_nil, ↓reduceIte, Nat.reduceEqDiff, Nat.reduceAdd, Nat.reduceMul, reduceCtorEq, and_true, true_and, Nat.mul_one, Nat.zero_add, Bool.false_eq_true, decide_true, decide_false, not_false_eq_true, kont_eq, beq_self_eq_true, bne_self_eq_false, Int.reduceBEq, Int.reduceBNe, Int.cast_ofNat_Int] at R4
      simp only [go_sem, List.map_cons, List.map_nil, ↓reduceIte, Nat.reduceEqDiff, Nat.reduceAdd, Nat.reduceMul, reduceCtorEq, and_true, true_and, Nat.mul_one, Nat.zero_add, Bool.false_eq_true, decide_true, decide_false, not_false_eq_true, kont_eq, beq_self_eq_true, bne_self_eq_false, Int.reduceBEq, Int.reduceBNe, Int.cast_ofNat_Int]
      exact ⟨OwS.nil _, fun k h => h.elim, R4, (K2.trans K3).trans K4⟩
    · have cv' : ¬ (v : Int) > (most : Int) := by omega
      have wv : IntKind.i64.wrap (v : Int) = (v : Int) := IntWalk.i64_in _ ⟨by omega, by omega⟩
      rw [hr0, if_neg cv]
      simp only [go_sem, List.map_cons, List.map_nil, ↓reduceIte, Nat.reduceEqDiff, Nat.reduceAdd, Nat.reduceMul, reduceCtorEq, and_true, true_and, Nat.mul_one, Nat.zero_add, Bool.false_eq_true, decide_true, decide_false, not_false_eq_true, kont_eq, beq_self_eq_true, bne_self_eq_false, Int.reduceBEq, Int.reduceBNe, Int.cast_ofNat_Int, wm, cv']
      refine (hrf _ _ _ _ _ _ R3).mono ?_
      rintro x H4 ⟨rfl, R4, K4⟩
      simp only [go_sem, List.map_cons, List.map_nil, ↓reduceIte, Nat.reduceEqDiff, Nat.reduceAdd, Nat.reduceMul, reduceCtorEq, and_true, true_and, Nat.mul_one, Nat.zero_add, Bool.false_eq_true, decide_true, decide_false, not_false_eq_true, kont_eq, beq_self_eq_true, bne_self_eq_false, Int.reduceBEq, Int.reduceBNe, Int.cast_ofNat_Int] at R4
      have R4' := R4
      obtain ⟨v4, B4, S4, f41, f42, f43⟩ := R4'
      have wq : IntKind.u64.wrap (IntKind.i64.wrap ((l.length : Int) - ((l.length - q.length : Nat) : Int))) = (q.length : Int) := by
        rw [IntWalk.i64_in _ ⟨by omega, by omega⟩, IntKind.wrap_u64]; omega
      simp only [go_sem, List.map_cons, List.map_nil, ↓reduceIte, Nat.reduceEqDiff, Nat.reduceAdd, Nat.reduceMul, reduceCtorEq, and_true, true_and, Nat.mul_one, Nat.zero_add, Bool.false_eq_true, decide_true, decide_false, not_false_eq_true, kont_eq, beq_self_eq_true, bne_self_eq_false, Int.reduceBEq, Int.reduceBNe, Int.cast_ofNat_Int, B4.cell, S4.isSl, S4.len, w8_len, wq]
      refine (hrf _ _ _ _ _ _ R4).mono ?_
      rintro x H5 ⟨rfl, R5, K5⟩
      have K5' := ((K2.trans K3).trans K4).trans K5
      by_cases cw : v > q.length
      · have cw' : (v : Int) > (q.length : Int) := by omega
        rw [if_pos cw]
        simp only [go_sem, List.map_cons, List.map_nil, ↓reduceIte, Nat.reduceEqDiff, Nat.reduceAdd, Nat.reduceMul, reduceCtorEq, and_true, true_and, Nat.mul_one, Nat.zero_add, Bool.false_eq_true, decide_true, decide_false, not_false_eq_true, kont_eq, beq_self_eq_true, bne_self_eq_false, Int.reduceBEq, Int.reduceBNe, Int.cast_ofNat_Int, cw'] at R5
        simp only [go_sem, List.map_cons, List.map_nil, ↓reduceIte, Nat.reduceEqDiff, Nat.reduceAdd, Nat.reduceMul, reduceCtorEq, and_true, true_and, Nat.mul_one, Nat.zero_add, Bool.false_eq_true, decide_true, decide_false, not_false_eq_true, kont_eq, beq_self_eq_true, bne_self_eq_false, Int.reduceBEq, Int.reduceBNe, Int.cast_ofNat_Int, cw']
        exact ⟨OwS.nil _, fun k h => h.elim, R5, K5'⟩
      · have cw' : ¬ (v : Int) > (q.length : Int) := by omega
        rw [if_neg cw]
        simp only [go_sem, List.map_cons, List.map_nil, ↓reduceIte, Nat.reduceEqDiff, Nat.reduceAdd, Nat.reduceMul, reduceCtorEq, and_true, true_and, Nat.mul_one, Nat.zero_add, Bool.false_eq_true, decide_true, decide_false, not_false_eq_true, kont_eq, beq_self_eq_true, bne_self_eq_false, Int.reduceBEq, Int.reduceBNe, Int.cast_ofNat_Int, cw'] at R5
        simp only [go_sem, List.map_cons, List.map_nil, ↓reduceIte, Nat.reduceEqDiff, Nat.reduceAdd, Nat.reduceMul, reduceCtorEq, and_true, true_and, Nat.mul_one, Nat.zero_add, Bool.false_eq_true, decide_true, decide_false, not_false_eq_true, kont_eq, beq_self_eq_true, bne_self_eq_false, Int.reduceBEq, Int.reduceBNe, Int.cast_ofNat_Int, cw']
        refine (ht _ _ _ _ _ _ R5 (by omega) hl).mono ?_
        rintro x H6 ⟨O6, o6, R6, K6⟩
        rw [h3] at R6
        simp only [go_sem, List.map_cons, List.map_nil, ↓reduceIte, Nat.reduceEqDiff, Nat.reduceAdd, Nat.reduceMul, reduceCtorEq, and_true, true_and, Nat.mul_one, Nat.zero_add, Bool.false_eq_true, decide_true, decide_false, not_false_eq_true, kont_eq, beq_self_eq_true, bne_self_eq_false, Int.reduceBEq, Int.reduceBNe, Int.cast_ofNat_Int, wv]
        refine (ht _ _ _ _ _ _ R6 (by omega) (by omega)).mono ?_
        rintro x H7 ⟨O7, o7, R7, K7⟩
        simp only [go_sem, List.map_cons, List.map_nil, ↓reduceIte, Nat.reduceEqDiff, Nat.reduceAdd, Nat.reduceMul, reduceCtorEq, and_true, true_and, Nat.mul_one, Nat.zero_add, Bool.false_eq_true, decide_true, decide_false, not_false_eq_true, kont_eq, beq_self_eq_true, bne_self_eq_false, Int.reduceBEq, Int.reduceBNe, Int.cast_ofNat_Int]
        have k6 := (K5'.trans K6).size
        exact ⟨O7, fun k h => by have := o7 k h; omega, R7, (K5'.trans K6).trans K7⟩
def RStrSpec (P : Program) (k : FuncId) : Prop := ∀ (F : Nat → Prop) (r : Nat) (s : List UInt8 × Int) (most : Nat) (H : Hp), RdB F H r s.1 s.2 → s.1.length ≤ 100000000 → most ≤ 1000000000 → CallsM P k #[.pointer (some ⟨r, 0, none⟩), .int .i64 most] H fun x H' =>
  x = .string ⟨(rdByt most s).1.toArray⟩ ∧ RdB F H' r (rdByt most s).2.1 (rdByt most s).2.2 ∧ Keep (fun k => k = r) H H'
theorem rstring_ok {P : Program} {ι : Ids} {k : FuncId} (hk : FnIs P k (c_rstring ι) r_rstring 2) (hb : RBytSpec P (ι.f 114)) : RStrSpec P k := by
  rintro F r s most H hr hl hm
  refine calls_of_vc hk (args := [_, _]) (by simp) ?_
  unfold c_rstring r_rstring
  simp only [go_sem, List.map_cons, List.map_nil, ↓reduceIte, Nat.reduceEqDiff, Nat.reduceAdd, Nat.reduceMul, reduceCtorEq, and_true, true_and, Nat.mul_one, Nat.zero_add, Bool.false_eq_true, decide_true, decide_false, not_false_eq_true, kont_eq, beq_self_eq_true, bne_self_eq_false, Int.reduceBEq, Int.reduceBNe, Int.cast_ofNat_Int]
  refine (hb _ _ _ _ _ hr hl hm).mono ?_
  rintro x H1 ⟨O1, o1, R1, K1⟩
  have b1 := O1.sl.bytesIn
  simp only [go_sem, List.map_cons, List.map_nil, ↓reduceIte, Nat.reduceEqDiff, Nat.reduceAdd, Nat.reduceMul, reduceCtorEq, and_true, true_and, Nat.mul_one, Nat.zero_add, Bool.false_eq_true, decide_true, decide_false, not_false_eq_true, kont_eq, beq_self_eq_true, bne_self_eq_false, Int.reduceBEq, Int.reduceBNe, Int.cast_ofNat_Int, b1, toBA_w8]
  exact ⟨okB2s_w8 b1, R1, K1⟩
end Go.Mg

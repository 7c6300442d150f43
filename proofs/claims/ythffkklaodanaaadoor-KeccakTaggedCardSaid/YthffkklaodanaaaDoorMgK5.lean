/- keccak: Sum, New, Copy, Reset, Len. -/
import Derived.Test.YthffkklaodanaaaDoorMgK4
namespace Go.Mg
open Go Go.RowKit
set_option linter.unusedSimpArgs false
set_option linter.unusedVariables false
set_option maxRecDepth 10000
/- (ptr keccak.Hash).Sum -/
def c_hsum (ι : Ids) : S :=
  .seq (.reg [.e (.v 2) (.new (ι.t 9) (Array.replicate 32 (.int .u8 0)))]) (.seq (.seq (.reg [.p (.t 7) (.mv (.v 0)), .p (.v 8) (.m (.eqn .ptr false (.t 7)))]) (.ite (.v 8) (.seq (.reg [.p (.t 9) (.m
  (.bld (Array.replicate 32 (.int .u8 0)) [])), .e .no (.stn 32 (.v 2) (.t 9))]) .ret) .skip)) (.seq (.reg [.p (.t 10) (.mv (.v 0)), .p (.t 11) (.nil (.t 10)), .p (.t 12) (.fa 0 (.t 11)), .p (.t 13) (.m
  (.ldn 25 (.t 12))), .e (.v 3) (.new (ι.t 3) (Array.replicate 25 (.int .u64 0))), .e .no (.stn 25 (.v 3) (.t 13))]) (.seq (.reg [.e (.v 4) (.new (ι.t 10) (Array.replicate 136 (.int .u8 0)))]) (.seq
  (.reg [.p (.t 14) (.m (.sla 136 1 (.v 4) .none .none)), .p (.t 15) (.mv (.v 0)), .p (.t 16) (.nil (.t 15)), .p (.t 17) (.fa 25 (.t 16)), .p (.t 18) (.mv (.v 0)), .p (.t 19) (.nil (.t 18)), .p (.t 20)
  (.fa 161 (.t 19)), .p (.t 21) (.ld (.t 20)), .p (.t 22) (.m (.sla 136 1 (.t 17) .none (.some (.t 21)))), .e (.t 23) (.cpy false 1 (.t 14) (.t 22))]) (.seq (.reg [.p (.t 24) (.mv (.v 0)), .p (.t 25)
  (.nil (.t 24)), .p (.t 26) (.fa 161 (.t 25)), .p (.t 27) (.ld (.t 26)), .p (.t 28) (.ia 136 1 (.v 4) (.t 27)), .e .no (.st (.t 28) (.c (.int .u8 6)))]) (.seq (.reg [.p (.t 29) (.ia 136 1 (.v 4) (.c
  (.int .i64 135))), .p (.t 30) (.ld (.t 29)), .p (.t 31) (.bt .xor .u8 (.t 30) (.c (.int .u8 128))), .p (.t 32) (.ia 136 1 (.v 4) (.c (.int .i64 135))), .e .no (.st (.t 32) (.t 31))]) (.seq (.reg [.p
  (.t 33) (.m (.sla 136 1 (.v 4) .none .none)), .e (.t 34) (.call (ι.f 7) [.v 3, .t 33])]) (.seq (.reg [.e (.v 5) (.new (ι.t 9) (Array.replicate 32 (.int .u8 0)))]) (.seq (.seq (.reg [.p (.v 35) (.mv
  (.c (.int .i64 0)))]) (.blk 0 (.loop (.seq (.reg [.p (.v 36) (.cm .lss .i64 (.v 35) (.c (.int .i64 32)))]) (.seq (.ite (.v 36) .skip (.exit 0)) (.seq (.blk 1 (.seq (.reg [.p (.t 37) (.mv (.v 35)), .p
  (.v 6) (.mv (.t 37))]) (.reg [.p (.t 38) (.mv (.v 6)), .p (.t 39) (.mv (.v 6)), .p (.t 40) (.dv .quo .i64 (.t 39) (.c (.int .i64 8))), .p (.t 41) (.ia 25 1 (.v 3) (.t 40)), .p (.t 42) (.ld (.t 41)),
  .p (.t 43) (.mv (.v 6)), .p (.t 44) (.dv .rem .i64 (.t 43) (.c (.int .i64 8))), .p (.t 45) (.ar .mul .i64 (.c (.int .i64 8)) (.t 44)), .p (.t 46) (.sh .shr .u64 (.t 42) (.t 45)), .p (.t 47) (.ii .u8
  (.t 46)), .p (.t 48) (.ia 32 1 (.v 5) (.t 38)), .e .no (.st (.t 48) (.t 47))]))) (.reg [.p (.t 49) (.ar .add .i64 (.v 35) (.c (.int .i64 1))), .p (.v 35) (.mv (.t 49))]))))))) (.seq (.reg [.p (.t 50)
  (.m (.ldn 32 (.v 5))), .e .no (.stn 32 (.v 2) (.t 50))]) .ret))))))))))
def r_hsum : List RV := [.cn 2 32]
/- keccak.New -/
def c_knew (ι : Ids) : S :=
  .seq (.reg [.p (.v 0) (.mv (.c (.pointer .none)))]) (.seq (.reg [.p (.t 1) (.m (.bld #[.int .u64 0, .int .u64 0, .int .u64 0, .int .u64 0, .int .u64 0, .int .u64 0, .int .u64 0, .int .u64 0, .int .u64
  0, .int .u64 0, .int .u64 0, .int .u64 0, .int .u64 0, .int .u64 0, .int .u64 0, .int .u64 0, .int .u64 0, .int .u64 0, .int .u64 0, .int .u64 0, .int .u64 0, .int .u64 0, .int .u64 0, .int .u64 0,
  .int .u64 0, .int .u8 0, .int .u8 0, .int .u8 0, .int .u8 0, .int .u8 0, .int .u8 0, .int .u8 0, .int .u8 0, .int .u8 0, .int .u8 0, .int .u8 0, .int .u8 0, .int .u8 0, .int .u8 0, .int .u8 0, .int
  .u8 0, .int .u8 0, .int .u8 0, .int .u8 0, .int .u8 0, .int .u8 0, .int .u8 0, .int .u8 0, .int .u8 0, .int .u8 0, .int .u8 0, .int .u8 0, .int .u8 0, .int .u8 0, .int .u8 0, .int .u8 0, .int .u8 0,
  .int .u8 0, .int .u8 0, .int .u8 0, .int .u8 0, .int .u8 0, .int .u8 0, .int .u8 0, .int .u8 0, .int .u8 0, .int .u8 0, .int .u8 0, .int .u8 0, .int .u8 0, .int .u8 0, .int .u8 0, .int .u8 0, .int .u8
  0, .int .u8 0, .int .u8 0, .int .u8 0, .int .u8 0, .int .u8 0, .int .u8 0, .int .u8 0, .int .u8 0, .int .u8 0, .int .u8 0, .int .u8 0, .int .u8 0, .int .u8 0, .int .u8 0, .int .u8 0, .int .u8 0, .int
  .u8 0, .int .u8 0, .int .u8 0, .int .u8 0, .int .u8 0, .int .u8 0, .int .u8 0, .int .u8 0, .int .u8 0, .int .u8 0, .int .u8 0, .int .u8 0, .int .u8 0, .int .u8 0, .int .u8 0, .int .u8 0, .int .u8 0,
  .int .u8 0, .int .u8 0, .int .u8 0, .int .u8 0, .int .u8 0, .int .u8 0, .int .u8 0, .int .u8 0, .int .u8 0, .int .u8 0, .int .u8 0, .int .u8 0, .int .u8 0, .int .u8 0, .int .u8 0, .int .u8 0, .int .u8
  0, .int .u8 0, .int .u8 0, .int .u8 0, .int .u8 0, .int .u8 0, .int .u8 0, .int .u8 0, .int .u8 0, .int .u8 0, .int .u8 0, .int .u8 0, .int .u8 0, .int .u8 0, .int .u8 0, .int .u8 0, .int .u8 0, .int
  .u8 0, .int .u8 0, .int .u8 0, .int .u8 0, .int .u8 0, .int .u8 0, .int .u8 0, .int .u8 0, .int .u8 0, .int .u8 0, .int .u8 0, .int .u8 0, .int .u8 0, .int .u8 0, .int .u8 0, .int .u8 0, .int .u8 0,
  .int .u8 0, .int .u8 0, .int .u8 0, .int .u8 0, .int .i64 0, .int .u64 0] [])), .e (.t 2) (.box (ι.t 12) (.t 1)), .p (.v 0) (.mv (.t 2))]) .ret)
def r_knew : List RV := [.t 0]
/- keccak.Sum -/
def c_ksum (ι : Ids) : S :=
  .seq (.reg [.e (.v 2) (.new (ι.t 9) (Array.replicate 32 (.int .u8 0)))]) (.seq (.reg [.e (.t 4) (.call (ι.f 13) []), .p (.v 3) (.mv (.t 4))]) (.seq (.reg [.p (.t 5) (.mv (.v 3)), .p (.t 6) (.mv (.v
  0)), .e (.t 7) (.call (ι.f 8) [.t 5, .t 6])]) (.seq (.reg [.p (.t 8) (.mv (.v 3)), .e (.t 9) (.call (ι.f 11) [.t 8]), .e .no (.stn 32 (.v 2) (.t 9))]) .ret)))
def r_ksum : List RV := [.cn 2 32]
/- (ptr keccak.Hash).Len -/
def c_hlen (ι : Ids) : S :=
  .seq (.reg [.p (.v 2) (.mv (.c (.int .u64 0)))]) (.seq (.seq (.reg [.p (.t 3) (.mv (.v 0)), .p (.v 4) (.m (.eqn .ptr false (.t 3)))]) (.ite (.v 4) (.seq (.reg [.p (.v 2) (.mv (.c (.int .u64 0)))])
  .ret) .skip)) (.seq (.reg [.p (.t 5) (.mv (.v 0)), .p (.t 6) (.nil (.t 5)), .p (.t 7) (.fa 162 (.t 6)), .p (.t 8) (.ld (.t 7)), .p (.v 2) (.mv (.t 8))]) .ret))
def r_hlen : List RV := [.t 2]
/- (ptr keccak.Hash).Copy -/
def c_hcopy (ι : Ids) : S :=
  .seq (.reg [.p (.v 2) (.mv (.c (.pointer .none)))]) (.seq (.seq (.reg [.p (.t 4) (.mv (.v 0)), .p (.v 5) (.m (.eqn .ptr false (.t 4)))]) (.ite (.v 5) (.seq (.reg [.p (.v 2) (.mv (.c (.pointer
  .none)))]) .ret) .skip)) (.seq (.reg [.p (.t 6) (.mv (.v 0)), .p (.t 7) (.nil (.t 6)), .p (.t 8) (.m (.ldn 163 (.t 7))), .e (.v 3) (.new (ι.t 12) #[.int .u64 0, .int .u64 0, .int .u64 0, .int .u64 0,
  .int .u64 0, .int .u64 0, .int .u64 0, .int .u64 0, .int .u64 0, .int .u64 0, .int .u64 0, .int .u64 0, .int .u64 0, .int .u64 0, .int .u64 0, .int .u64 0, .int .u64 0, .int .u64 0, .int .u64 0, .int
  .u64 0, .int .u64 0, .int .u64 0, .int .u64 0, .int .u64 0, .int .u64 0, .int .u8 0, .int .u8 0, .int .u8 0, .int .u8 0, .int .u8 0, .int .u8 0, .int .u8 0, .int .u8 0, .int .u8 0, .int .u8 0, .int
  .u8 0, .int .u8 0, .int .u8 0, .int .u8 0, .int .u8 0, .int .u8 0, .int .u8 0, .int .u8 0, .int .u8 0, .int .u8 0, .int .u8 0, .int .u8 0, .int .u8 0, .int .u8 0, .int .u8 0, .int .u8 0, .int .u8 0,
  .int .u8 0, .int .u8 0, .int .u8 0, .int .u8 0, .int .u8 0, .int .u8 0, .int .u8 0, .int .u8 0, .int .u8 0, .int .u8 0, .int .u8 0, .int .u8 0, .int .u8 0, .int .u8 0, .int .u8 0, .int .u8 0, .int .u8
  0, .int .u8 0, .int .u8 0, .int .u8 0, .int .u8 0, .int .u8 0, .int .u8 0, .int .u8 0, .int .u8 0, .int .u8 0, .int .u8 0, .int .u8 0, .int .u8 0, .int .u8 0, .int .u8 0, .int .u8 0, .int .u8 0, .int
  .u8 0, .int .u8 0, .int .u8 0, .int .u8 0, .int .u8 0, .int .u8 0, .int .u8 0, .int .u8 0, .int .u8 0, .int .u8 0, .int .u8 0, .int .u8 0, .int .u8 0, .int .u8 0, .int .u8 0, .int .u8 0, .int .u8 0,
  .int .u8 0, .int .u8 0, .int .u8 0, .int .u8 0, .int .u8 0, .int .u8 0, .int .u8 0, .int .u8 0, .int .u8 0, .int .u8 0, .int .u8 0, .int .u8 0, .int .u8 0, .int .u8 0, .int .u8 0, .int .u8 0, .int .u8
  0, .int .u8 0, .int .u8 0, .int .u8 0, .int .u8 0, .int .u8 0, .int .u8 0, .int .u8 0, .int .u8 0, .int .u8 0, .int .u8 0, .int .u8 0, .int .u8 0, .int .u8 0, .int .u8 0, .int .u8 0, .int .u8 0, .int
  .u8 0, .int .u8 0, .int .u8 0, .int .u8 0, .int .u8 0, .int .u8 0, .int .u8 0, .int .u8 0, .int .u8 0, .int .u8 0, .int .u8 0, .int .u8 0, .int .u8 0, .int .u8 0, .int .u8 0, .int .u8 0, .int .u8 0,
  .int .u8 0, .int .u8 0, .int .u8 0, .int .u8 0, .int .u8 0, .int .u8 0, .int .u8 0, .int .u8 0, .int .u8 0, .int .i64 0, .int .u64 0]), .e .no (.stn 163 (.v 3) (.t 8))]) (.seq (.reg [.p (.v 2) (.mv
  (.v 3))]) .ret)))
def r_hcopy : List RV := [.t 2]
/- (ptr keccak.Hash).Reset -/
def c_hreset (ι : Ids) : S :=
  .seq (.reg [.p (.t 2) (.mv (.v 0)), .p (.v 3) (.m (.eqn .ptr true (.t 2)))]) (.ite (.v 3) (.reg [.p (.t 4) (.mv (.v 0)), .p (.t 5) (.m (.bld #[.int .u64 0, .int .u64 0, .int .u64 0, .int .u64 0, .int
  .u64 0, .int .u64 0, .int .u64 0, .int .u64 0, .int .u64 0, .int .u64 0, .int .u64 0, .int .u64 0, .int .u64 0, .int .u64 0, .int .u64 0, .int .u64 0, .int .u64 0, .int .u64 0, .int .u64 0, .int .u64
  0, .int .u64 0, .int .u64 0, .int .u64 0, .int .u64 0, .int .u64 0, .int .u8 0, .int .u8 0, .int .u8 0, .int .u8 0, .int .u8 0, .int .u8 0, .int .u8 0, .int .u8 0, .int .u8 0, .int .u8 0, .int .u8 0,
  .int .u8 0, .int .u8 0, .int .u8 0, .int .u8 0, .int .u8 0, .int .u8 0, .int .u8 0, .int .u8 0, .int .u8 0, .int .u8 0, .int .u8 0, .int .u8 0, .int .u8 0, .int .u8 0, .int .u8 0, .int .u8 0, .int .u8
  0, .int .u8 0, .int .u8 0, .int .u8 0, .int .u8 0, .int .u8 0, .int .u8 0, .int .u8 0, .int .u8 0, .int .u8 0, .int .u8 0, .int .u8 0, .int .u8 0, .int .u8 0, .int .u8 0, .int .u8 0, .int .u8 0, .int
  .u8 0, .int .u8 0, .int .u8 0, .int .u8 0, .int .u8 0, .int .u8 0, .int .u8 0, .int .u8 0, .int .u8 0, .int .u8 0, .int .u8 0, .int .u8 0, .int .u8 0, .int .u8 0, .int .u8 0, .int .u8 0, .int .u8 0,
  .int .u8 0, .int .u8 0, .int .u8 0, .int .u8 0, .int .u8 0, .int .u8 0, .int .u8 0, .int .u8 0, .int .u8 0, .int .u8 0, .int .u8 0, .int .u8 0, .int .u8 0, .int .u8 0, .int .u8 0, .int .u8 0, .int .u8
  0, .int .u8 0, .int .u8 0, .int .u8 0, .int .u8 0, .int .u8 0, .int .u8 0, .int .u8 0, .int .u8 0, .int .u8 0, .int .u8 0, .int .u8 0, .int .u8 0, .int .u8 0, .int .u8 0, .int .u8 0, .int .u8 0, .int
  .u8 0, .int .u8 0, .int .u8 0, .int .u8 0, .int .u8 0, .int .u8 0, .int .u8 0, .int .u8 0, .int .u8 0, .int .u8 0, .int .u8 0, .int .u8 0, .int .u8 0, .int .u8 0, .int .u8 0, .int .u8 0, .int .u8 0,
  .int .u8 0, .int .u8 0, .int .u8 0, .int .u8 0, .int .u8 0, .int .u8 0, .int .u8 0, .int .u8 0, .int .u8 0, .int .u8 0, .int .u8 0, .int .u8 0, .int .u8 0, .int .u8 0, .int .u8 0, .int .u8 0, .int .u8
  0, .int .u8 0, .int .u8 0, .int .u8 0, .int .u8 0, .int .u8 0, .int .u8 0, .int .u8 0, .int .u8 0, .int .i64 0, .int .u64 0] [])), .p (.t 6) (.nil (.t 4)), .e .no (.stn 163 (.t 6) (.t 5))]) .skip)
def r_hreset : List RV := []
/- arbaclaw03.short -/
def c_short (ι : Ids) : S :=
  .seq (.reg [.p (.v 2) (.mv (.c (.slice .none 0 0)))]) (.seq (.reg [.p (.t 3) (.mv (.v 0)), .p (.t 4) (.mv (.v 0)), .p (.t 5) (.m (.lenl (.t 4))), .p (.t 6) (.m (.mn (.t 5) (.c (.int .i64 600)))), .p
  (.t 7) (.m (.sls 1 (.t 3) .none (.some (.t 6)))), .p (.v 2) (.mv (.t 7))]) .ret)
def r_short : List RV := [.t 2]

def lastOf (p : List UInt8) : List UInt8 :=
  let l := (bufW (List.replicate 136 0) 0 (tailOf p)).set (p.length % 136) 6
  l.set 135 (l.getD 135 0 ^^^ 128)
def byteAt (s : List UInt64) (i : Nat) : UInt8 := (s.getD (i / 8) 0 >>> (8 * (i % 8) : Nat).toUInt64).toUInt8
def outN (s : List UInt64) (n : Nat) : List UInt8 := iter n (fun o i => o.set i (byteAt s i)) (List.replicate 32 0)
def sumF (p : List UInt8) : List UInt8 := outN (absorbF (stOf p) (lastOf p)) 32
theorem lastOf_len (p : List UInt8) : (lastOf p).length = 136 := by
  have := tailOf_len p
  have : p.length % 136 < 136 := Nat.mod_lt _ (by omega)
  simp only [lastOf, List.length_set]
  rw [bufW_len (by simp; omega)]; simp
theorem outN_len (s : List UInt64) (n : Nat) : (outN s n).length = 32 := by
  unfold outN; rw [iter_len (by simp)]; simp
theorem sumF_len (p : List UInt8) : (sumF p).length = 32 := outN_len _ _

theorem w64_all1 (l : List UInt64) : all1 (w64 l).toArray := by
  intro x hx
  simp [w64] at hx
  obtain ⟨y, _, rfl⟩ := hx; rfl
theorem bitsOf8 (x : UInt8) : (BitVec.ofInt 8 (x.toNat : Int)) = x.toBitVec := by
  apply BitVec.eq_of_toNat_eq
  simp
theorem bits_xor8 (x : UInt8) : bits .xor .u8 (x.toNat : Int) 128 = ((x ^^^ 128).toNat : Int) := by
  show IntKind.u8.wrap ((BitVec.ofInt 8 (x.toNat : Int) ^^^ BitVec.ofInt 8 ((128 : UInt8).toNat : Int)).toNat : Int) = _
  rw [bitsOf8, bitsOf8]
  have := (x ^^^ 128).toNat_lt
  show IntKind.u8.wrap ((x ^^^ 128).toNat : Int) = _
  rw [IntKind.wrap_u8]; omega
theorem shr8 (x : UInt64) (n : Nat) (hn : n < 64) : IntKind.u8.wrap ((x.toNat : Int) / 2 ^ n) = ((x >>> n.toUInt64).toUInt8.toNat : Int) := by
  rw [IntKind.wrap_u8, UInt64.toNat_toUInt8, UInt64.toNat_shiftRight, Nat.shiftRight_eq_div_pow]
  have : n.toUInt64.toNat % 64 = n := by
    show (UInt64.ofNat n).toNat % 64 = n
    rw [UInt64.toNat_ofNat']; omega
  rw [this]
  simp
def HSumSpec (P : Program) (ι : Ids) (k : FuncId) : Prop := ∀ (b : Nat) (p : List UInt8) (H : Hp), HashB H b p → GlobOk ι H →
  CallsM P k #[.pointer (some ⟨b, 0, none⟩)] H fun r H' => r = .agg (w8 (sumF p)).toArray ∧ Keep (fun _ => False) H H'

theorem hsum_ok {P : Program} {ι : Ids} {k : FuncId} (hk : FnIs P k (c_hsum ι) r_hsum 1) (ha : AbsorbSpec P ι (ι.f 7)) : HSumSpec P ι k := by
  intro b p H hb hG
  obtain ⟨buf, hl, ht, hB⟩ := hb
  have hs := stOf_len p
  refine calls_of_vc hk (args := [_]) (by simp) ?_
  unfold c_hsum r_hsum
  have hn : (false != false) = false := rfl
  have hbl := hB.lt
  simp only [go_sem, List.map_cons, List.map_nil, ↓reduceIte, Nat.reduceEqDiff, Nat.reduceAdd, Nat.reduceMul, reduceCtorEq, and_true, true_and, Nat.mul_one, Nat.zero_add, Bool.false_eq_true, decide_true, decide_false, not_false_eq_true, hn]
  refine kont_new fun H1 b1 e1 z1 B1 K1 => ?_
  have hT : (List.take 25 (List.drop 0 (hashL (stOf p) buf ((p.length % 136 : Nat) : Int) (UInt64.ofNat p.length).toNat))) = w64 (stOf p) := by
    rw [List.drop_zero]; unfold hashL
    rw [List.take_append_of_le_length (by rw [w64_len, hs]; omega), List.take_of_length_le (by rw [w64_len, hs]; omega)]
  simp only [go_sem, List.map_cons, List.map_nil, ↓reduceIte, Nat.reduceEqDiff, Nat.reduceAdd, Nat.reduceMul, reduceCtorEq, and_true, true_and, Nat.mul_one, Nat.zero_add, Bool.false_eq_true, decide_true, decide_false, not_false_eq_true, hn, (K1.bl hB (by simp)).ldNA (o := 0) (n := 25) (by rw [hashL_len hs hl]; omega), ldNO_ptr, hT]
  refine kont_new fun H2 b2 e2 z2 B2 K2 => ?_
  have hw64 : (w64 (stOf p)).length = 25 := by rw [w64_len, hs]
  simp only [go_sem, List.map_cons, List.map_nil, ↓reduceIte, Nat.reduceEqDiff, Nat.reduceAdd, Nat.reduceMul, reduceCtorEq, and_true, true_and, Nat.mul_one, Nat.zero_add, Bool.false_eq_true, decide_true, decide_false, not_false_eq_true, okN_ptr, stNH_ptr, cells_agg]
  refine ⟨⟨B2.okNA (by simp), by simp [hw64], w64_all1 _⟩, ?_⟩
  have B2' := B2.stNA 0 (w64 (stOf p))
  rw [wrL_all _ _ (by simp [hw64])] at B2'
  have K2' : Keep (fun _ => False) H (stNA H2 ⟨b2, 0, none⟩ (w64 (stOf p))) := (K1.trans K2).stNA _ (.inr (by simp only []; omega))
  have B1' := (K2.bl B1 (by simp)).stNA_ne (p := ⟨b2, 0, none⟩) (w64 (stOf p)) (by simp only []; omega)
  refine kont_as fun H3 e3 => ?_
  rw [← e3] at B2' K2' B1'
  have z3 : H3.size = H2.size := by rw [e3, size_stNA]
  simp only [go_sem, List.map_cons, List.map_nil, ↓reduceIte, Nat.reduceEqDiff, Nat.reduceAdd, Nat.reduceMul, reduceCtorEq, and_true, true_and, Nat.mul_one, Nat.zero_add, Bool.false_eq_true, decide_true, decide_false, not_false_eq_true]
  refine kont_new fun H4 b4 e4 z4 B4 K4 => ?_
  have hm : p.length % 136 < 136 := Nat.mod_lt _ (by omega)
  have hB4 := (K2'.trans K4).bl hB (by simp)
  have htl := tailOf_len p
  have hsrc : srcN H4 (.slice (some ⟨b, 25, none⟩) (p.length % 136) 136) (p.length % 136) = some (w8 (tailOf p)).toArray := by
    have := SlR.bl hB4 25 (p.length % 136) 136 (by omega) (by rw [hashL_len hs hl]; omega)
    have e : List.take (p.length % 136) (List.drop 25 (hashL (stOf p) buf ((p.length % 136 : Nat) : Int) (UInt64.ofNat p.length).toNat)) = w8 (tailOf p) := by
      unfold hashL
      rw [List.drop_append_of_le_length (by rw [hw64]; omega), List.drop_of_length_le (by rw [hw64]; omega), List.nil_append,
        List.take_append_of_le_length (by rw [w8_len]; omega), w8_take, ht]
    rw [e] at this
    rw [this.srcN (by rw [w8_len, htl]; omega), List.take_of_length_le (by rw [w8_len, htl]; omega)]
  simp (disch := omega) only [go_sem, List.map_cons, List.map_nil, ↓reduceIte, Nat.reduceEqDiff, Nat.reduceAdd, Nat.reduceMul, reduceCtorEq, and_true, true_and, Nat.mul_one, Nat.zero_add, Bool.false_eq_true, decide_true, decide_false, not_false_eq_true, hB4.cell, hashL_u hs hl, Nat.min_eq_left]
  have hz : (Array.replicate 136 (Value.int .u8 0)).toList = w8 (List.replicate 136 0) := by rw [← w8_rep]; rfl
  rw [hz] at B4
  refine ⟨⟨by omega, by omega⟩, _, hsrc, B4.okPut 0 0 _ (w8_all1 _) (by simp [w8_len, htl]; omega), ?_⟩
  have B5 := B4.put 0 0 (w8 (tailOf p)).toArray
  rw [show (0 + 0 : Nat) = 0 from rfl, w8_wr] at B5
  have K5 : Keep (fun _ => False) H (putH H4 (some ⟨b4, 0, none⟩) 0 (w8 (tailOf p)).toArray) := (K2'.trans K4).put rfl _ _ (.inr (by simp only []; omega))
  have C1 := (K4.bl B1' (by simp)).put_ne (p := ⟨b4, 0, none⟩) rfl 0 (w8 (tailOf p)).toArray (by simp only []; omega)
  have C2 := (K4.bl B2' (by simp)).put_ne (p := ⟨b4, 0, none⟩) rfl 0 (w8 (tailOf p)).toArray (by simp only []; omega)
  refine kont_as fun H5 e5 => ?_
  rw [← e5] at B5 K5 C1 C2
  have z5 : H5.size = H4.size := by rw [e5, size_putH]
  have hB5 := K5.bl hB (by simp)
  have l0 : (bufW (List.replicate 136 0) 0 (tailOf p)).length = 136 := by rw [bufW_len (by simp; omega)]; simp
  have hlast : lastOf p = ((bufW (List.replicate 136 0) 0 (tailOf p)).set (p.length % 136) 6).set 135 (((bufW (List.replicate 136 0) 0 (tailOf p)).set (p.length % 136) 6).getD 135 0 ^^^ 128) := rfl
  generalize hl0 : bufW (List.replicate 136 0) 0 (tailOf p) = L0 at *
  have g0 := w8_get L0 (p.length % 136) (by omega)
  simp (disch := omega) only [go_sem, List.map_cons, List.map_nil, ↓reduceIte, Nat.reduceEqDiff, Nat.reduceAdd, Nat.reduceMul, reduceCtorEq, and_true, true_and, Nat.mul_one, Nat.zero_add, Bool.false_eq_true, decide_true, decide_false, not_false_eq_true, hB5.cell, hashL_u hs hl, B5.cell, B5.frz, g0]
  refine ⟨⟨by omega, by omega⟩, ?_⟩
  have B6 := B5.setc (p.length % 136) (.int .u8 ((6 : UInt8).toNat))
  rw [w8_set] at B6
  have K6 := K5.setc (p := ⟨b4, p.length % 136, none⟩) (.int .u8 ((6 : UInt8).toNat)) (.inr (by simp only []; omega))
  have D1 := C1.setc_ne (p := ⟨b4, p.length % 136, none⟩) (.int .u8 ((6 : UInt8).toNat)) (by simp only []; omega)
  have D2 := C2.setc_ne (p := ⟨b4, p.length % 136, none⟩) (.int .u8 ((6 : UInt8).toNat)) (by simp only []; omega)
  refine kont_as fun H6 e6 => ?_
  change H6 = setc H5 ⟨b4, p.length % 136, none⟩ (.int .u8 ((6 : UInt8).toNat)) at e6
  rw [← e6] at B6 K6 D1 D2
  have z6 : H6.size = H5.size := by rw [e6, size_setc]
  have g1 := w8_get (L0.set (p.length % 136) 6) 135 (by simp; omega)
  simp (disch := omega) only [go_sem, List.map_cons, List.map_nil, ↓reduceIte, Nat.reduceEqDiff, Nat.reduceAdd, Nat.reduceMul, reduceCtorEq, and_true, true_and, Nat.mul_one, Nat.zero_add, Bool.false_eq_true, decide_true, decide_false, not_false_eq_true, B6.cell, B6.frz, g1, bits_xor8]
  refine ⟨⟨by omega, by omega⟩, ⟨by omega, by omega⟩, ?_⟩
  have B7 := B6.setc 135 (.int .u8 (((L0.set (p.length % 136) 6).getD 135 0 ^^^ 128).toNat))
  rw [w8_set, ← hlast] at B7
  have K7 := K6.setc (p := ⟨b4, 135, none⟩) (.int .u8 (((L0.set (p.length % 136) 6).getD 135 0 ^^^ 128).toNat)) (.inr (by simp only []; omega))
  have E1 := D1.setc_ne (p := ⟨b4, 135, none⟩) (.int .u8 (((L0.set (p.length % 136) 6).getD 135 0 ^^^ 128).toNat)) (by simp only []; omega)
  have E2 := D2.setc_ne (p := ⟨b4, 135, none⟩) (.int .u8 (((L0.set (p.length % 136) 6).getD 135 0 ^^^ 128).toNat)) (by simp only []; omega)
  refine kont_as fun H7 e7 => ?_
  rw [← e7] at B7 K7 E1 E2
  have z7 : H7.size = H6.size := by rw [e7, size_setc]
  simp (disch := omega) only [go_sem, List.map_cons, List.map_nil, ↓reduceIte, Nat.reduceEqDiff, Nat.reduceAdd, Nat.reduceMul, reduceCtorEq, and_true, true_and, Nat.mul_one, Nat.zero_add, Bool.false_eq_true, decide_true, decide_false, not_false_eq_true]
  have hG7 := hG.keep K7 (by simp) (by simp)
  have hls := lastOf_len p
  refine (ha b2 (stOf p) [] b4 0 136 (lastOf p) hs _ (by simpa using E2) (hG.new (by omega)) hG7 (fun i hi => by rw [B7.cell, Nat.zero_add, w8_get _ _ (by omega)]) (fun e => by omega)).mono ?_
  rintro v H8 ⟨rfl, B8, K8⟩
  simp only [go_sem, List.map_cons, List.map_nil, ↓reduceIte, Nat.reduceEqDiff, Nat.reduceAdd, Nat.reduceMul, reduceCtorEq, and_true, true_and, Nat.mul_one, Nat.zero_add, Bool.false_eq_true, decide_true, decide_false, not_false_eq_true, List.append_nil] at B8 ⊢
  have E1' := K8.bl E1 (by omega)
  have K8' : Keep (fun _ => False) H H8 := K7.trans' K8 (fun i hi e => by omega)
  have z8 := K8.size
  rw [kont_eq]
  simp only [go_sem, List.map_cons, List.map_nil, ↓reduceIte, Nat.reduceEqDiff, Nat.reduceAdd, Nat.reduceMul, reduceCtorEq, and_true, true_and, Nat.mul_one, Nat.zero_add, Bool.false_eq_true, decide_true, decide_false, not_false_eq_true]
  refine kont_new fun H9 b9 e9 z9 B9 K9 => ?_
  have F1 := K9.bl E1' (by simp)
  have F2 := K9.bl B8 (by simp)
  have K9' := K8'.trans K9
  have hz : (Array.replicate 32 (Value.int .u8 0)).toList = w8 (List.replicate 32 0) := by rw [← w8_rep]; rfl
  rw [hz] at B9
  generalize hS : absorbF (stOf p) (lastOf p) = s at *
  have hsl : s.length = 25 := by rw [← hS, absorbF_len]; exact hs
  simp only [go_sem, List.map_cons, List.map_nil, ↓reduceIte, Nat.reduceEqDiff, Nat.reduceAdd, Nat.reduceMul, reduceCtorEq, and_true, true_and, Nat.mul_one, Nat.zero_add, Bool.false_eq_true, decide_true, decide_false, not_false_eq_true, kont_eq]
  refine vc_loop [36, 6, 35] rfl (fun n f H' => ∃ i, i ≤ 32 ∧ n = 32 - i ∧ f 35 = .int .i64 i ∧ Bl H' b9 (w8 (outN s i)) ∧ Bl H' b2 (w64 s) ∧ Bl H' b1 (Array.replicate 32 (Value.int IntKind.u8 0)).toList ∧ Keep (fun _ => False) H H') 32
    ⟨0, by omega, by omega, rfl, B9, F2, F1, K9'⟩ ?_
  rintro n g HA ⟨i, hi32, rfl, hf35, BA, SA, UA, KA⟩
  simp only [go_sem, List.map_cons, List.map_nil, ↓reduceIte, Nat.reduceEqDiff, Nat.reduceAdd, Nat.reduceMul, reduceCtorEq, and_true, true_and, Nat.mul_one, Nat.zero_add, Bool.false_eq_true, decide_true, decide_false, not_false_eq_true, kont_eq] at hf35
  simp only [go_sem, List.map_cons, List.map_nil, ↓reduceIte, Nat.reduceEqDiff, Nat.reduceAdd, Nat.reduceMul, reduceCtorEq, and_true, true_and, Nat.mul_one, Nat.zero_add, Bool.false_eq_true, decide_true, decide_false, not_false_eq_true, kont_eq, hf35]
  refine iteV_dec (fun hlt => ?_) (fun hge => ?_)
  · have hi : i < 32 := by omega
    have hq : (i : Int).tdiv 8 = ((i / 8 : Nat) : Int) := by rw [Int.tdiv_eq_ediv_of_nonneg (by omega)]; omega
    have hr : (i : Int).tmod 8 = ((i % 8 : Nat) : Int) := by rw [Int.tmod_eq_emod_of_nonneg (by omega)]; omega
    have h8 : (8 * ((i % 8 : Nat) : Int)) = ((8 * (i % 8) : Nat) : Int) := by omega
    have ga := w64_get s (i / 8) (by omega)
    have gb := w8_get (outN s i) i (by rw [outN_len]; exact hi)
    simp (disch := omega) only [go_sem, List.map_cons, List.map_nil, ↓reduceIte, Nat.reduceEqDiff, Nat.reduceAdd, Nat.reduceMul, reduceCtorEq, and_true, true_and, Nat.mul_one, Nat.zero_add, Bool.false_eq_true, decide_true, decide_false, not_false_eq_true, kont_eq, hf35, hq, hr, h8, IntWalk.i64_in, SA.cell, BA.cell, BA.frz, ga, gb, tn_cast, shr8]
    refine ⟨by omega, ⟨by omega, by omega⟩, by omega, ⟨by omega, by omega⟩, ⟨by omega, by omega⟩, 32 - (i + 1), by omega, i + 1, by omega, rfl, by simp, ?_, SA.setc_ne _ (by simp only []; omega), UA.setc_ne _ (by simp only []; omega), KA.setc _ (.inr (by simp only []; omega))⟩
    have := BA.setc i (.int .u8 (byteAt s i).toNat)
    rw [w8_set] at this
    exact this
  · have hi : i = 32 := by omega
    subst hi
    have hbl := outN_len s 32
    have e32 : List.take 32 (w8 (outN s 32)) = w8 (outN s 32) := List.take_of_length_le (by rw [w8_len, hbl]; omega)
    have U2 := UA.stNA 0 (w8 (outN s 32))
    rw [wrL_all _ _ (by simp [w8_len, hbl])] at U2
    have hsf : sumF p = outN s 32 := by unfold sumF; rw [hS]
    simp only [ldNO_ptr, stNH_ptr, okN_ptr, BA.ldNA (o := 0) (n := 32) (by rw [w8_len, hbl]; omega), List.drop_zero, e32, Option.isSome_some, Option.getD_some, cells_agg, true_and,
      U2.ldNA (o := 0) (n := 32) (by rw [w8_len, hbl]; omega)]
    exact ⟨⟨UA.okNA (by simp), by simp [w8_len, hbl], w8_all1 _⟩, by rw [hsf], KA.stNA _ (.inr (by simp only []; omega))⟩

def zeroL : List Value := hashL (List.replicate 25 0) (List.replicate 136 0) 0 0
theorem hash0 {H : Hp} {b : Nat} (h : Bl H b zeroL) : HashB H b [] := ⟨List.replicate 136 0, by simp, rfl, h⟩
def NewSpec (P : Program) (k : FuncId) : Prop := ∀ H, CallsM P k #[] H fun r H' => r = .pointer (some ⟨H.size, 0, none⟩) ∧ HashB H' H.size [] ∧ Keep (fun _ => False) H H' ∧ H'.size = H.size + 1
theorem knew_ok {P : Program} {ι : Ids} {k : FuncId} (hk : FnIs P k (c_knew ι) r_knew 0) : NewSpec P k := by
  intro H
  refine calls_of_vc hk (args := []) (by simp) ?_
  unfold c_knew r_knew
  simp only [go_sem, List.map_cons, List.map_nil, ↓reduceIte, Nat.reduceEqDiff, Nat.reduceAdd, Nat.reduceMul, reduceCtorEq, and_true, true_and, Nat.mul_one, Nat.zero_add, Bool.false_eq_true, decide_true, decide_false, not_false_eq_true, okFill, fillV, cells_agg]
  refine kont_new fun H1 b1 e1 z1 B1 K1 => ?_
  subst e1
  simp only [go_sem, List.map_cons, List.map_nil, ↓reduceIte, Nat.reduceEqDiff, Nat.reduceAdd, Nat.reduceMul, reduceCtorEq, and_true, true_and, Nat.mul_one, Nat.zero_add, Bool.false_eq_true, decide_true, decide_false, not_false_eq_true]
  exact ⟨hash0 B1, K1, z1⟩

def KSumSpec (P : Program) (ι : Ids) (k : FuncId) : Prop := ∀ (p : List UInt8) (v : Value) (H : Hp), SlR H v (w8 p) → GlobOk ι H →
  CallsM P k #[v] H fun r H' => r = .agg (w8 (sumF p)).toArray ∧ Keep (fun _ => False) H H'
theorem ksum_ok {P : Program} {ι : Ids} {k : FuncId} (hk : FnIs P k (c_ksum ι) r_ksum 1) (hnew : NewSpec P (ι.f 13)) (hw : WriteSpec P ι (ι.f 8)) (hs : HSumSpec P ι (ι.f 11)) : KSumSpec P ι k := by
  intro p v H hv hG
  refine calls_of_vc hk (args := [_]) (by simp) ?_
  unfold c_ksum r_ksum
  simp only [go_sem, List.map_cons, List.map_nil, ↓reduceIte, Nat.reduceEqDiff, Nat.reduceAdd, Nat.reduceMul, reduceCtorEq, and_true, true_and, Nat.mul_one, Nat.zero_add, Bool.false_eq_true, decide_true, decide_false, not_false_eq_true]
  refine kont_new fun H1 b1 e1 z1 B1 K1 => ?_
  simp only [go_sem, List.map_cons, List.map_nil, ↓reduceIte, Nat.reduceEqDiff, Nat.reduceAdd, Nat.reduceMul, reduceCtorEq, and_true, true_and, Nat.mul_one, Nat.zero_add, Bool.false_eq_true, decide_true, decide_false, not_false_eq_true]
  refine (hnew _).mono ?_
  rintro r H2 ⟨rfl, B2, K2, z2⟩
  simp only [go_sem, List.map_cons, List.map_nil, ↓reduceIte, Nat.reduceEqDiff, Nat.reduceAdd, Nat.reduceMul, reduceCtorEq, and_true, true_and, Nat.mul_one, Nat.zero_add, Bool.false_eq_true, decide_true, decide_false, not_false_eq_true, kont_eq]
  have hG2 := hG.keep (K1.trans K2) (by simp) (by simp)
  have hv2 := hv.keep (K1.trans K2) (by simp)
  refine (hw _ _ _ _ _ B2 hv2 (fun h => by have := hv.old h; omega) (hG.new (by omega)) hG2).mono ?_
  rintro r H3 ⟨rfl, B3, K3⟩
  have K3' : Keep (fun _ => False) H H3 := (K1.trans K2).trans' K3 (fun i hi e => by omega)
  have z3 := K3.size
  simp only [go_sem, List.map_cons, List.map_nil, ↓reduceIte, Nat.reduceEqDiff, Nat.reduceAdd, Nat.reduceMul, reduceCtorEq, and_true, true_and, Nat.mul_one, Nat.zero_add, Bool.false_eq_true, decide_true, decide_false, not_false_eq_true, kont_eq, List.nil_append] at B3 ⊢
  refine (hs _ _ _ B3 (hG.keep K3' (by simp) (by simp))).mono ?_
  rintro r H4 ⟨rfl, K4⟩
  have U := K4.bl (K3.bl (K2.bl B1 (by simp)) (by omega)) (by simp)
  have hl : (w8 (sumF p)).length = 32 := by rw [w8_len, sumF_len]
  have U2 := U.stNA 0 (w8 (sumF p))
  rw [wrL_all _ _ (by simp [hl])] at U2
  have e32 : List.take 32 (w8 (sumF p)) = w8 (sumF p) := List.take_of_length_le (by omega)
  simp only [go_sem, List.map_cons, List.map_nil, ↓reduceIte, Nat.reduceEqDiff, Nat.reduceAdd, Nat.reduceMul, reduceCtorEq, and_true, true_and, Nat.mul_one, Nat.zero_add, Bool.false_eq_true, decide_true, decide_false, not_false_eq_true, kont_eq, okN_ptr, stNH_ptr, ldNO_ptr, cells_agg, U2.ldNA (o := 0) (n := 32) (by omega), List.drop_zero, e32]
  exact ⟨⟨U.okNA (by simp), by simp [hl], w8_all1 _⟩, (K3'.trans K4).stNA _ (.inr (by simp only []; omega))⟩

def HLenSpec (P : Program) (k : FuncId) : Prop := (∀ (b : Nat) (p : List UInt8) (H : Hp), HashB H b p → CallsM P k #[.pointer (some ⟨b, 0, none⟩)] H fun r H' => r = .int .u64 (UInt64.ofNat p.length).toNat ∧ H' = H) ∧
  ∀ H, CallsM P k #[.pointer none] H fun r H' => r = .int .u64 0 ∧ H' = H
theorem hlen_ok {P : Program} {ι : Ids} {k : FuncId} (hk : FnIs P k (c_hlen ι) r_hlen 1) : HLenSpec P k := by
  constructor
  · intro b p H hb
    obtain ⟨buf, hl, ht, hB⟩ := hb
    have hs := stOf_len p
    refine calls_of_vc hk (args := [_]) (by simp) ?_
    unfold c_hlen r_hlen
    have hn : (false != false) = false := rfl
    simp only [go_sem, List.map_cons, List.map_nil, ↓reduceIte, Nat.reduceEqDiff, Nat.reduceAdd, Nat.reduceMul, reduceCtorEq, and_true, true_and, Nat.mul_one, Nat.zero_add, Bool.false_eq_true, decide_true, decide_false, not_false_eq_true, kont_eq, hn, hB.cell, hashL_t hs hl]
  · intro H
    refine calls_of_vc hk (args := [_]) (by simp) ?_
    unfold c_hlen r_hlen
    have hn : (false != true) = true := rfl
    simp only [go_sem, List.map_cons, List.map_nil, ↓reduceIte, Nat.reduceEqDiff, Nat.reduceAdd, Nat.reduceMul, reduceCtorEq, and_true, true_and, Nat.mul_one, Nat.zero_add, Bool.false_eq_true, decide_true, decide_false, not_false_eq_true, kont_eq, hn]

def HCopySpec (P : Program) (k : FuncId) : Prop := (∀ (b : Nat) (p : List UInt8) (H : Hp), HashB H b p → CallsM P k #[.pointer (some ⟨b, 0, none⟩)] H fun r H' => r = .pointer (some ⟨H.size, 0, none⟩) ∧ HashB H' H.size p ∧ Keep (fun _ => False) H H' ∧ H'.size = H.size + 1) ∧
  ∀ H, CallsM P k #[.pointer none] H fun r H' => r = .pointer none ∧ H' = H
theorem hcopy_ok {P : Program} {ι : Ids} {k : FuncId} (hk : FnIs P k (c_hcopy ι) r_hcopy 1) : HCopySpec P k := by
  constructor
  · intro b p H hb
    obtain ⟨buf, hl, ht, hB⟩ := hb
    have hs := stOf_len p
    have hL := hashL_len hs hl (u := ((p.length % 136 : Nat) : Int)) (t := (UInt64.ofNat p.length).toNat)
    refine calls_of_vc hk (args := [_]) (by simp) ?_
    unfold c_hcopy r_hcopy
    have hn : (false != false) = false := rfl
    simp only [go_sem, List.map_cons, List.map_nil, ↓reduceIte, Nat.reduceEqDiff, Nat.reduceAdd, Nat.reduceMul, reduceCtorEq, and_true, true_and, Nat.mul_one, Nat.zero_add, Bool.false_eq_true, decide_true, decide_false, not_false_eq_true, hn, ldNO_ptr, hB.ldNA (o := 0) (n := 163) (by omega)]
    refine kont_new fun H1 b1 e1 z1 B1 K1 => ?_
    subst e1
    simp only [go_sem, List.map_cons, List.map_nil, ↓reduceIte, Nat.reduceEqDiff, Nat.reduceAdd, Nat.reduceMul, reduceCtorEq, and_true, true_and, Nat.mul_one, Nat.zero_add, Bool.false_eq_true, decide_true, decide_false, not_false_eq_true, okN_ptr, stNH_ptr, cells_agg, List.drop_zero, List.take_of_length_le (show (hashL (stOf p) buf ((p.length % 136 : Nat) : Int) (UInt64.ofNat p.length).toNat).length ≤ 163 by omega)]
    have B2 := B1.stNA 0 (hashL (stOf p) buf ((p.length % 136 : Nat) : Int) (UInt64.ofNat p.length).toNat)
    rw [wrL_all _ _ (by rw [hL]; rfl)] at B2
    refine ⟨⟨B1.okNA (by simp), hL, ?_⟩, ?_⟩
    · intro x hx
      simp only [hashL, List.mem_append] at hx
      rcases hx with hx | hx | hx
      · exact w64_all1 _ x (by simpa using hx)
      · exact w8_all1 _ x (by simpa using hx)
      · simp at hx; rcases hx with rfl | rfl <;> rfl
    · rw [kont_eq]
      simp only [go_sem, List.map_cons, List.map_nil, ↓reduceIte, Nat.reduceEqDiff, Nat.reduceAdd, Nat.reduceMul, reduceCtorEq, and_true, true_and, Nat.mul_one, Nat.zero_add, Bool.false_eq_true, decide_true, decide_false, not_false_eq_true, kont_eq]
      exact ⟨⟨buf, hl, ht, B2⟩, K1.stNA _ (.inr (by simp)), by rw [size_stNA]; exact z1⟩
  · intro H
    refine calls_of_vc hk (args := [_]) (by simp) ?_
    unfold c_hcopy r_hcopy
    have hn : (false != true) = true := rfl
    simp only [go_sem, List.map_cons, List.map_nil, ↓reduceIte, Nat.reduceEqDiff, Nat.reduceAdd, Nat.reduceMul, reduceCtorEq, and_true, true_and, Nat.mul_one, Nat.zero_add, Bool.false_eq_true, decide_true, decide_false, not_false_eq_true, kont_eq, hn]

def HResetSpec (P : Program) (k : FuncId) : Prop := (∀ (b : Nat) (p : List UInt8) (H : Hp), HashB H b p → CallsM P k #[.pointer (some ⟨b, 0, none⟩)] H fun r H' => r = .tuple #[] ∧ HashB H' b [] ∧ Keep (· = b) H H') ∧
  ∀ H, CallsM P k #[.pointer none] H fun r H' => r = .tuple #[] ∧ H' = H
theorem hreset_ok {P : Program} {ι : Ids} {k : FuncId} (hk : FnIs P k (c_hreset ι) r_hreset 1) : HResetSpec P k := by
  constructor
  · intro b p H hb
    obtain ⟨buf, hl, ht, hB⟩ := hb
    have hs := stOf_len p
    have hL := hashL_len hs hl (u := ((p.length % 136 : Nat) : Int)) (t := (UInt64.ofNat p.length).toNat)
    refine calls_of_vc hk (args := [_]) (by simp) ?_
    unfold c_hreset r_hreset
    have hn : (true != false) = true := rfl
    simp only [go_sem, List.map_cons, List.map_nil, ↓reduceIte, Nat.reduceEqDiff, Nat.reduceAdd, Nat.reduceMul, reduceCtorEq, and_true, true_and, Nat.mul_one, Nat.zero_add, Bool.false_eq_true, decide_true, decide_false, not_false_eq_true, hn, okFill, fillV, okN_ptr, stNH_ptr, cells_agg]
    have B2 := hB.stNA 0 zeroL
    rw [wrL_all _ _ (by rw [hL]; rfl)] at B2
    refine ⟨⟨hB.okNA (by omega), ?_⟩, ?_⟩
    · intro x hx
      have : zeroL.all Value.oneCell' = true := by decide
      exact List.all_eq_true.1 this x hx
    · rw [kont_eq]
      simp only [go_sem, List.map_cons, List.map_nil, ↓reduceIte, Nat.reduceEqDiff, Nat.reduceAdd, Nat.reduceMul, reduceCtorEq, and_true, true_and, Nat.mul_one, Nat.zero_add, Bool.false_eq_true, decide_true, decide_false, not_false_eq_true, kont_eq]
      exact ⟨hash0 B2, (Keep.refl _ _).stNA _ (.inl rfl)⟩
  · intro H
    refine calls_of_vc hk (args := [_]) (by simp) ?_
    unfold c_hreset r_hreset
    have hn : (true != true) = false := rfl
    simp only [go_sem, List.map_cons, List.map_nil, ↓reduceIte, Nat.reduceEqDiff, Nat.reduceAdd, Nat.reduceMul, reduceCtorEq, and_true, true_and, Nat.mul_one, Nat.zero_add, Bool.false_eq_true, decide_true, decide_false, not_false_eq_true, kont_eq, hn]

def ShortSpec (P : Program) (k : FuncId) : Prop := ∀ (p : List UInt8) (v : Value) (H : Hp), SlR H v (w8 p) → CallsM P k #[v] H fun r H' => SlR H r (w8 (p.take 600)) ∧ (∀ k, slB r k → slB v k) ∧ H' = H
theorem short_ok {P : Program} {ι : Ids} {k : FuncId} (hk : FnIs P k (c_short ι) r_short 1) : ShortSpec P k := by
  intro p v H hv
  have hmk := hv.mk
  obtain ⟨a, c, rfl, hc⟩ := hmk
  rw [w8_len] at hc
  refine calls_of_vc hk (args := [_]) (by simp) ?_
  unfold c_short r_short
  have e : (if (600 : Int) < (p.length : Int) then (600 : Int) else (p.length : Int)) = ((min p.length 600 : Nat) : Int) := by split <;> omega
  have h1 := hv.take (n := min p.length 600) (by rw [w8_len]; omega)
  have h2 : (w8 p).take (min p.length 600) = w8 (p.take 600) := by
    rw [w8_take]; congr 1
    rcases Nat.le_total p.length 600 with h | h
    · rw [Nat.min_eq_left h, List.take_of_length_le (Nat.le_refl _), List.take_of_length_le h]
    · rw [Nat.min_eq_right h]
  rw [h2] at h1
  have h3 : ∀ k, slB (slV (.slice a (w8 p).length c) 1 none (some ((min p.length 600 : Nat) : Int))) k → slB (.slice a (w8 p).length c) k := fun k => slB_take (by simp only [lenV, w8_len]; omega)
  simp only [slV_slice] at h1 h3
  simp only [go_sem, List.map_cons, List.map_nil, ↓reduceIte, Nat.reduceEqDiff, Nat.reduceAdd, Nat.reduceMul, reduceCtorEq, and_true, true_and, Nat.mul_one, Nat.zero_add, Bool.false_eq_true, decide_true, decide_false, not_false_eq_true, kont_eq, w8_len, e] at h1 h3 ⊢
  exact ⟨⟨by omega, by omega⟩, h1, h3⟩
end Go.Mg

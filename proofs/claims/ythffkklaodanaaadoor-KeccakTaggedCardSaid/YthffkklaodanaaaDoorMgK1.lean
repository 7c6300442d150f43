/- keccak: the rotations and the permutation of the program. -/
import Derived.Test.YthffkklaodanaaaDoorMgTvk
import Derived.Test.YthffkklaodanaaaDoorMgKp
namespace Go.Mg
open Go Go.RowKit
set_option linter.unusedSimpArgs false
set_option linter.unusedVariables false
set_option maxRecDepth 10000
/- math/bits.RotateLeft64 -/
def c_rot (ι : Ids) : S :=
  .seq (.reg [.p (.v 4) (.mv (.c (.int .u64 0)))]) (.seq (.reg [.p (.t 6) (.mv (.v 1)), .p (.t 7) (.ii .u64 (.t 6)), .p (.t 8) (.bt .and .u64 (.t 7) (.c (.int .u64 63))), .p (.v 5) (.mv (.t 8))]) (.seq
  (.reg [.p (.t 9) (.mv (.v 0)), .p (.t 10) (.mv (.v 5)), .p (.t 11) (.sh .shl .u64 (.t 9) (.t 10)), .p (.t 12) (.mv (.v 0)), .p (.t 13) (.mv (.v 5)), .p (.t 14) (.ar .sub .u64 (.c (.int .u64 64)) (.t
  13)), .p (.t 15) (.sh .shr .u64 (.t 12) (.t 14)), .p (.t 16) (.bt .or .u64 (.t 11) (.t 15)), .p (.v 4) (.mv (.t 16))]) .ret))
def r_rot : List RV := [.t 4]
/- arbacref03.rotl -/
def c_rotl (ι : Ids) : S :=
  .seq (.reg [.p (.v 4) (.mv (.c (.int .u64 0)))]) (.seq (.reg [.p (.t 5) (.mv (.v 0)), .p (.t 6) (.mv (.v 1)), .p (.t 7) (.sh .shl .u64 (.t 5) (.t 6)), .p (.t 8) (.mv (.v 0)), .p (.t 9) (.mv (.v 1)),
  .p (.t 10) (.ar .sub .i64 (.c (.int .i64 64)) (.t 9)), .p (.t 11) (.sh .shr .u64 (.t 8) (.t 10)), .p (.t 12) (.bt .or .u64 (.t 7) (.t 11)), .p (.v 4) (.mv (.t 12))]) .ret)
def r_rotl : List RV := [.t 4]
/- (ptr keccak.words).permute -/
def c_permute (ι : Ids) : S :=
  .seq (.reg [.p (.v 12) (.m (.ldn 24 (.c (.pointer (.some ⟨ι.g 4, 0, .none⟩))))), .p (.v 13) (.mv (.c (.int .i64 0)))]) (.blk 0 (.loop (.seq (.reg [.p (.v 14) (.cm .lss .i64 (.v 13) (.c (.int .i64
  24)))]) (.seq (.ite (.v 14) .skip (.exit 0)) (.seq (.blk 1 (.seq (.reg [.p (.t 15) (.m (.ix 24 (.v 12) (.v 13))), .p (.v 3) (.mv (.t 15))]) (.seq (.reg [.e (.v 4) (.new (ι.t 2) #[.int .u64 0, .int
  .u64 0, .int .u64 0, .int .u64 0, .int .u64 0])]) (.seq (.seq (.reg [.p (.v 16) (.mv (.c (.int .i64 0)))]) (.blk 2 (.loop (.seq (.reg [.p (.v 17) (.cm .lss .i64 (.v 16) (.c (.int .i64 5)))]) (.seq
  (.ite (.v 17) .skip (.exit 2)) (.seq (.blk 3 (.seq (.reg [.p (.t 18) (.mv (.v 16)), .p (.v 5) (.mv (.t 18))]) (.reg [.p (.t 19) (.mv (.v 5)), .p (.t 20) (.mv (.v 0)), .p (.t 21) (.mv (.v 5)), .p (.t
  22) (.nil (.t 20)), .p (.t 23) (.ia 25 1 (.t 22) (.t 21)), .p (.t 24) (.ld (.t 23)), .p (.t 25) (.mv (.v 0)), .p (.t 26) (.mv (.v 5)), .p (.t 27) (.ar .add .i64 (.t 26) (.c (.int .i64 5))), .p (.t 28)
  (.nil (.t 25)), .p (.t 29) (.ia 25 1 (.t 28) (.t 27)), .p (.t 30) (.ld (.t 29)), .p (.t 31) (.bt .xor .u64 (.t 24) (.t 30)), .p (.t 32) (.mv (.v 0)), .p (.t 33) (.mv (.v 5)), .p (.t 34) (.ar .add .i64
  (.t 33) (.c (.int .i64 10))), .p (.t 35) (.nil (.t 32)), .p (.t 36) (.ia 25 1 (.t 35) (.t 34)), .p (.t 37) (.ld (.t 36)), .p (.t 38) (.bt .xor .u64 (.t 31) (.t 37)), .p (.t 39) (.mv (.v 0)), .p (.t
  40) (.mv (.v 5)), .p (.t 41) (.ar .add .i64 (.t 40) (.c (.int .i64 15))), .p (.t 42) (.nil (.t 39)), .p (.t 43) (.ia 25 1 (.t 42) (.t 41)), .p (.t 44) (.ld (.t 43)), .p (.t 45) (.bt .xor .u64 (.t 38)
  (.t 44)), .p (.t 46) (.mv (.v 0)), .p (.t 47) (.mv (.v 5)), .p (.t 48) (.ar .add .i64 (.t 47) (.c (.int .i64 20))), .p (.t 49) (.nil (.t 46)), .p (.t 50) (.ia 25 1 (.t 49) (.t 48)), .p (.t 51) (.ld
  (.t 50)), .p (.t 52) (.bt .xor .u64 (.t 45) (.t 51)), .p (.t 53) (.ia 5 1 (.v 4) (.t 19)), .e .no (.st (.t 53) (.t 52))]))) (.reg [.p (.t 54) (.ar .add .i64 (.v 16) (.c (.int .i64 1))), .p (.v 16)
  (.mv (.t 54))]))))))) (.seq (.reg [.e (.v 6) (.new (ι.t 3) (Array.replicate 25 (.int .u64 0)))]) (.seq (.seq (.reg [.p (.v 55) (.mv (.c (.int .i64 0)))]) (.blk 4 (.loop (.seq (.reg [.p (.v 56) (.cm
  .lss .i64 (.v 55) (.c (.int .i64 5)))]) (.seq (.ite (.v 56) .skip (.exit 4)) (.seq (.blk 5 (.seq (.reg [.p (.t 57) (.mv (.v 55)), .p (.v 7) (.mv (.t 57))]) (.seq (.dr (.px (.t 58) .none (.mv (.v 7))
  (.px (.t 59) .none (.ar .add .i64 (.t 58) (.c (.int .i64 4))) (.px (.t 60) .none (.dv .rem .i64 (.t 59) (.c (.int .i64 5))) (.px (.t 61) .none (.ia 5 1 (.v 4) (.t 60)) (.px (.t 62) .none (.ld (.t 61))
  (.px (.t 63) .none (.mv (.v 7)) (.px (.t 64) .none (.ar .add .i64 (.t 63) (.c (.int .i64 1))) (.px (.t 65) .none (.dv .rem .i64 (.t 64) (.c (.int .i64 5))) (.px (.t 66) .none (.ia 5 1 (.v 4) (.t 65))
  (.px (.t 67) .none (.ld (.t 66)) (.wcons (.t 68) .none (.call (ι.f 0) [.t 67, .c (.int .i64 1)]) (.px (.t 69) .none (.bt .xor .u64 (.t 62) (.t 68)) (.px (.v 8) .none (.mv (.t 69)) .done))
  .wnil)))))))))))) (.seq (.reg [.p (.v 70) (.mv (.c (.int .i64 0)))]) (.blk 6 (.loop (.seq (.reg [.p (.v 71) (.cm .lss .i64 (.v 70) (.c (.int .i64 5)))]) (.seq (.ite (.v 71) .skip (.exit 6)) (.seq
  (.blk 7 (.seq (.reg [.p (.t 72) (.mv (.v 70)), .p (.v 9) (.mv (.t 72))]) (.dr (.px (.t 73) .none (.mv (.v 9)) (.px (.t 74) .none (.mv (.v 7)) (.px (.t 75) .none (.ar .mul .i64 (.c (.int .i64 2)) (.t
  74)) (.px (.t 76) .none (.mv (.v 9)) (.px (.t 77) .none (.ar .mul .i64 (.c (.int .i64 3)) (.t 76)) (.px (.t 78) .none (.ar .add .i64 (.t 75) (.t 77)) (.px (.t 79) .none (.dv .rem .i64 (.t 78) (.c
  (.int .i64 5))) (.px (.t 80) .none (.ar .mul .i64 (.c (.int .i64 5)) (.t 79)) (.px (.t 81) .none (.ar .add .i64 (.t 73) (.t 80)) (.px (.t 82) .none (.mv (.v 0)) (.px (.t 83) .none (.mv (.v 7)) (.px
  (.t 84) .none (.mv (.v 9)) (.px (.t 85) .none (.ar .mul .i64 (.c (.int .i64 5)) (.t 84)) (.px (.t 86) .none (.ar .add .i64 (.t 83) (.t 85)) (.px (.t 87) .none (.nil (.t 82)) (.px (.t 88) .none (.ia 25
  1 (.t 87) (.t 86)) (.px (.t 89) .none (.ld (.t 88)) (.px (.t 90) .none (.mv (.v 8)) (.px (.t 91) .none (.bt .xor .u64 (.t 89) (.t 90)) (.px (.t 92) .none (.mv (.v 7)) (.px (.t 93) .none (.mv (.v 9))
  (.px (.t 94) .none (.ar .mul .i64 (.c (.int .i64 5)) (.t 93)) (.px (.t 95) .none (.ar .add .i64 (.t 92) (.t 94)) (.px (.t 96) .none (.ia 25 1 (.c (.pointer (.some ⟨ι.g 5, 0, .none⟩))) (.t 95)) (.px
  (.t 97) .none (.ld (.t 96)) (.wcons (.t 98) .none (.call (ι.f 0) [.t 91, .t 97]) (.px (.t 99) .none (.ia 25 1 (.v 6) (.t 81)) (.wcons .no .none (.st (.t 99) (.t 98)) .done .wnil))
  .wnil))))))))))))))))))))))))))))) (.reg [.p (.t 100) (.ar .add .i64 (.v 70) (.c (.int .i64 1))), .p (.v 70) (.mv (.t 100))])))))))))) (.reg [.p (.t 101) (.ar .add .i64 (.v 55) (.c (.int .i64 1))), .p
  (.v 55) (.mv (.t 101))]))))))) (.seq (.seq (.reg [.p (.v 10) (.mv (.c (.int .i64 0)))]) (.blk 8 (.loop (.seq (.seq (.reg [.p (.t 102) (.mv (.v 10)), .p (.v 103) (.cm .lss .i64 (.t 102) (.c (.int .i64
  25)))]) (.ite (.v 103) .skip (.exit 8))) (.seq (.blk 9 (.seq (.reg [.p (.v 106) (.mv (.c (.int .i64 0)))]) (.blk 10 (.loop (.seq (.reg [.p (.v 107) (.cm .lss .i64 (.v 106) (.c (.int .i64 5)))]) (.seq
  (.ite (.v 107) .skip (.exit 10)) (.seq (.blk 11 (.seq (.reg [.p (.t 108) (.mv (.v 106)), .p (.v 11) (.mv (.t 108))]) (.reg [.p (.t 109) (.mv (.v 0)), .p (.t 110) (.mv (.v 11)), .p (.t 111) (.mv (.v
  10)), .p (.t 112) (.ar .add .i64 (.t 110) (.t 111)), .p (.t 113) (.mv (.v 11)), .p (.t 114) (.mv (.v 10)), .p (.t 115) (.ar .add .i64 (.t 113) (.t 114)), .p (.t 116) (.ia 25 1 (.v 6) (.t 115)), .p (.t
  117) (.ld (.t 116)), .p (.t 118) (.mv (.v 11)), .p (.t 119) (.ar .add .i64 (.t 118) (.c (.int .i64 1))), .p (.t 120) (.dv .rem .i64 (.t 119) (.c (.int .i64 5))), .p (.t 121) (.mv (.v 10)), .p (.t 122)
  (.ar .add .i64 (.t 120) (.t 121)), .p (.t 123) (.ia 25 1 (.v 6) (.t 122)), .p (.t 124) (.ld (.t 123)), .p (.t 125) (.cpl .u64 (.t 124)), .p (.t 126) (.mv (.v 11)), .p (.t 127) (.ar .add .i64 (.t 126)
  (.c (.int .i64 2))), .p (.t 128) (.dv .rem .i64 (.t 127) (.c (.int .i64 5))), .p (.t 129) (.mv (.v 10)), .p (.t 130) (.ar .add .i64 (.t 128) (.t 129)), .p (.t 131) (.ia 25 1 (.v 6) (.t 130)), .p (.t
  132) (.ld (.t 131)), .p (.t 133) (.bt .and .u64 (.t 125) (.t 132)), .p (.t 134) (.bt .xor .u64 (.t 117) (.t 133)), .p (.t 135) (.nil (.t 109)), .p (.t 136) (.ia 25 1 (.t 135) (.t 112)), .e .no (.st
  (.t 136) (.t 134))]))) (.reg [.p (.t 137) (.ar .add .i64 (.v 106) (.c (.int .i64 1))), .p (.v 106) (.mv (.t 137))])))))))) (.reg [.p (.t 104) (.mv (.v 10)), .p (.t 105) (.ar .add .i64 (.t 104) (.c
  (.int .i64 5))), .p (.v 10) (.mv (.t 105))])))))) (.reg [.p (.t 138) (.mv (.v 0)), .p (.t 139) (.nil (.t 138)), .p (.t 140) (.ia 25 1 (.t 139) (.c (.int .i64 0))), .p (.t 141) (.ld (.t 140)), .p (.t
  142) (.mv (.v 3)), .p (.t 143) (.bt .xor .u64 (.t 141) (.t 142)), .p (.t 144) (.nil (.t 138)), .p (.t 145) (.ia 25 1 (.t 144) (.c (.int .i64 0))), .e .no (.st (.t 145) (.t 143))])))))))) (.reg [.p (.t
  146) (.ar .add .i64 (.v 13) (.c (.int .i64 1))), .p (.v 13) (.mv (.t 146))]))))))
def r_permute : List RV := []

def w64 (l : List UInt64) : List Value := l.map fun x => .int .u64 x.toNat
theorem w64_len (l : List UInt64) : (w64 l).length = l.length := by simp [w64]
theorem w64_getA (l : List UInt64) (rest : List Value) (i : Nat) (h : i < l.length) : (w64 l ++ rest)[i]? = some (.int .u64 (l.getD i 0).toNat) := by
  have : i < (w64 l).length := by simpa [w64] using h
  rw [List.getElem?_append_left this]
  simp [w64, h]
theorem w64_get (l : List UInt64) (i : Nat) (h : i < l.length) : (w64 l)[i]? = some (.int .u64 (l.getD i 0).toNat) := by
  simpa using w64_getA l [] i h
theorem w64_setA (l : List UInt64) (rest : List Value) (i : Nat) (h : i < l.length) (x : UInt64) : (w64 l ++ rest).set i (.int .u64 x.toNat) = w64 (l.set i x) ++ rest := by
  have : i < (w64 l).length := by simpa [w64] using h
  rw [List.set_append_left _ _ this]
  simp [w64, List.map_set]
theorem w64_set (l : List UInt64) (i : Nat) (h : i < l.length) (x : UInt64) : (w64 l).set i (.int .u64 x.toNat) = w64 (l.set i x) := by
  simpa using w64_setA l [] i h x

def RotSpec (P : Program) (k : FuncId) : Prop := ∀ (x : UInt64) (n : Nat), n ≤ 63 → ∀ H, CallsM P k #[.int .u64 x.toNat, .int .i64 n] H fun v H' => v = .int .u64 (rotl x n).toNat ∧ H' = H

theorem and63 (n : Nat) (hn : n ≤ 63) : bits .and .u64 (IntKind.u64.wrap (n : Int)) 63 = n := by
  have h : ∀ m : Fin 64, bits .and .u64 (IntKind.u64.wrap ((m.val : Nat) : Int)) 63 = (m.val : Int) := by decide
  exact h ⟨n, by omega⟩
theorem wrap64sub (n : Nat) (hn : n ≤ 63) : IntKind.u64.wrap (64 - (n : Int)) = 64 - n := by
  rw [IntKind.wrap_u64]; omega

theorem rot_ok {P : Program} {ι : Ids} {k : FuncId} (hk : FnIs P k (c_rot ι) r_rot 2) : RotSpec P k := by
  intro x n hn H
  refine calls_of_vc hk (args := [_, _]) (by simp) ?_
  unfold c_rot r_rot
  have h1 := and63 n hn
  have h2 := wrap64sub n hn
  have h3 := rotl_bits x n hn
  have e : (64 - (n : Int)).toNat = 64 - n := by omega
  simp only [go_sem, List.map_cons, List.map_nil, ↓reduceIte, Nat.reduceEqDiff, Nat.reduceAdd, Nat.reduceMul, reduceCtorEq, and_true, true_and, Nat.mul_one, Nat.zero_add, Bool.false_eq_true, decide_true, decide_false, not_false_eq_true, kont_eq, h1, h2, e, tn_cast, h3]
  omega

theorem rotl_ok {P : Program} {ι : Ids} {k : FuncId} (hk : FnIs P k (c_rotl ι) r_rotl 2) : RotSpec P k := by
  intro x n hn H
  refine calls_of_vc hk (args := [_, _]) (by simp) ?_
  unfold c_rotl r_rotl
  have h2 : IntKind.i64.wrap (64 - (n : Int)) = 64 - n := IntWalk.i64_in _ ⟨by omega, by omega⟩
  have h3 := rotl_bits x n hn
  have e : (64 - (n : Int)).toNat = 64 - n := by omega
  simp only [go_sem, List.map_cons, List.map_nil, ↓reduceIte, Nat.reduceEqDiff, Nat.reduceAdd, Nat.reduceMul, reduceCtorEq, and_true, true_and, Nat.mul_one, Nat.zero_add, Bool.false_eq_true, decide_true, decide_false, not_false_eq_true, kont_eq, h2, e, tn_cast, h3]
  omega

theorem bits_cpl' (x : UInt64) : bits .xor .u64 (if IntKind.u64.signed = true then -1 else IntKind.u64.max) (x.toNat : Int) = ((~~~ x).toNat : Int) := bits_cpl x

def PermSpec (P : Program) (ι : Ids) (k : FuncId) : Prop := ∀ (b : Nat) (st : List UInt64) (rest : List Value), st.length = 25 → ∀ H, Bl H b (w64 st ++ rest) → b ≠ ι.g 4 → b ≠ ι.g 5 →
  Bl H (ι.g 4) (w64 roundsL) → Bl H (ι.g 5) (turnsL.map fun (n : Nat) => .int .i64 n) →
  CallsM P k #[.pointer (some ⟨b, 0, none⟩)] H fun v H' => v = .tuple #[] ∧ Bl H' b (w64 (keccakF st) ++ rest) ∧ Keep (· = b) H H'

theorem turns_get (i : Nat) (h : i < 25) : (turnsL.map fun (n : Nat) => Value.int .i64 n)[i]? = some (.int .i64 (turnsL.getD i 0)) := by
  have : i < turnsL.length := h
  simp [this]
theorem turns_le (i : Nat) : turnsL.getD i 0 ≤ 63 := by
  by_cases h : i < 25
  · have : ∀ m : Fin 25, turnsL.getD m.val 0 ≤ 63 := by decide
    exact this ⟨i, h⟩
  · rw [List.getD_eq_getElem?_getD, List.getElem?_eq_none (by simp [turnsL]; omega)]; simp
theorem ldN_bl {H : Hp} {b : Nat} {l : List Value} (h : Bl H b l) (n : Nat) (hn : n = l.length) : ldNO H (.pointer (some ⟨b, 0, none⟩)) n = some l.toArray := by
  obtain ⟨T, h⟩ := h
  subst hn
  simp [ldNO, ldNA, h]

theorem permute_ok {P : Program} {ι : Ids} {k : FuncId} (hk : FnIs P k (c_permute ι) r_permute 1) (hrot : RotSpec P (ι.f 0)) : PermSpec P ι k := by
  intro b st rest hst H hb hbr hbt hR hT
  refine calls_of_vc hk (args := [_]) (by simp) ?_
  unfold c_permute r_permute
  simp only [go_sem, List.map_cons, List.map_nil, ↓reduceIte, Nat.reduceEqDiff, Nat.reduceAdd, Nat.reduceMul, reduceCtorEq, and_true, true_and, Nat.mul_one, Nat.zero_add, Bool.false_eq_true, decide_true, decide_false, not_false_eq_true, kont_eq, ldN_bl hR 24 rfl]
  refine vc_loop [14, 3, 4, 16, 17, 5, 6, 55, 56, 7, 8, 70, 71, 9, 10, 103, 106, 107, 11, 13] rfl
    (fun n f H' => ∃ k, k ≤ 24 ∧ n = 24 - k ∧ f 13 = .int .i64 k ∧ Bl H' b (w64 (roundsF k st) ++ rest) ∧ Keep (· = b) H H') 24 ⟨0, by omega, by omega, rfl, hb, Keep.refl _ _⟩ ?_
  rintro n g H1 ⟨k, hk24, rfl, hf13, hb1, hK1⟩
  simp only [go_sem, List.map_cons, List.map_nil, ↓reduceIte, Nat.reduceEqDiff, Nat.reduceAdd, Nat.reduceMul, reduceCtorEq, and_true, true_and, Nat.mul_one, Nat.zero_add, Bool.false_eq_true, decide_true, decide_false, not_false_eq_true, kont_eq] at hf13
  have hR1 := hK1.bl hR (fun h => hbr h.symm)
  have hT1 := hK1.bl hT (fun h => hbt h.symm)
  generalize hs1 : roundsF k st = s1 at *
  have hl1 : s1.length = 25 := by rw [← hs1, roundsF_len]; exact hst
  simp only [go_sem, List.map_cons, List.map_nil, ↓reduceIte, Nat.reduceEqDiff, Nat.reduceAdd, Nat.reduceMul, reduceCtorEq, and_true, true_and, Nat.mul_one, Nat.zero_add, Bool.false_eq_true, decide_true, decide_false, not_false_eq_true, kont_eq, hf13]
  refine iteV_dec (fun hlt => ?_) (fun hge => ?_)
  · have hlt' : k < 24 := by omega
    refine ⟨⟨by omega, by omega, by simp [w64_len]; exact hlt'⟩, ?_⟩
    have hcst : ((w64 roundsL).toArray[k]?.getD undef) = .int .u64 (roundsL.getD k 0).toNat := by
      have := w64_get roundsL k hlt'
      simp [this]
    simp only [hcst]
    refine vc_loop [17, 5, 16] rfl (fun n f H' => ∃ x, x ≤ 5 ∧ n = 5 - x ∧ f 16 = .int .i64 x ∧ Bl H' b (w64 s1 ++ rest) ∧ Bl H' H1.size (w64 (cN s1 x)) ∧ Keep (· = b) H H') 5
      ⟨0, by omega, by omega, rfl, hb1.push _, Bl.new _ _ _, hK1.push _⟩ ?_
    rintro n2 g2 H2 ⟨x, hx5, rfl, hf16, hb2, hc2, hK2⟩
    simp only [go_sem, List.map_cons, List.map_nil, ↓reduceIte, Nat.reduceEqDiff, Nat.reduceAdd, Nat.reduceMul, reduceCtorEq, and_true, true_and, Nat.mul_one, Nat.zero_add, Bool.false_eq_true, decide_true, decide_false, not_false_eq_true, kont_eq] at hf16
    simp only [go_sem, List.map_cons, List.map_nil, ↓reduceIte, Nat.reduceEqDiff, Nat.reduceAdd, Nat.reduceMul, reduceCtorEq, and_true, true_and, Nat.mul_one, Nat.zero_add, Bool.false_eq_true, decide_true, decide_false, not_false_eq_true, kont_eq, hf16]
    refine iteV_dec (fun hlt2 => ?_) (fun hge2 => ?_)
    · have hx : x < 5 := by omega
      have ga := fun i (hi : i < 25) => w64_getA s1 rest i (by omega)
      have gc := fun i (hi : i < 5) => w64_get (cN s1 x) i (by rw [cN_len]; exact hi)
      simp (disch := omega) only [go_sem, List.map_cons, List.map_nil, ↓reduceIte, Nat.reduceEqDiff, Nat.reduceAdd, Nat.reduceMul, reduceCtorEq, and_true, true_and, Nat.mul_one, Nat.zero_add, Bool.false_eq_true, decide_true, decide_false, not_false_eq_true, kont_eq, hf16, hb2.cell, hc2.cell, hb2.frz, hc2.frz, ga, gc, IntWalk.i64_in, bits_xor]
      and_intros <;> first | omega | skip
      have hne : b ≠ Array.size H1 := by have := hb1.lt; omega
      refine ⟨5 - (x + 1), by omega, x + 1, by omega, rfl, by simp, hb2.setc_ne _ hne, ?_, hK2.setc _ (.inr hK1.size)⟩
      have := hc2.setc x (.int .u64 (theta s1 x).toNat)
      rw [w64_set _ _ (by rw [cN_len]; exact hx)] at this
      exact this
    · have hx : x = 5 := by omega
      subst hx
      clear hge2 hlt hf16
      have hne : b ≠ Array.size H1 := by have := hb1.lt; omega
      have hne2 : b ≠ Array.size H2 := by have := hb2.lt; omega
      have hne3 : Array.size H1 ≠ Array.size H2 := by have := hc2.lt; omega
      have hHb : Array.size H ≤ Array.size H2 := hK2.size
      refine vc_loop [56, 7, 8, 70, 71, 9, 55] rfl (fun n f H' => ∃ x, x ≤ 5 ∧ n = 5 - x ∧ f 55 = .int .i64 x ∧ Bl H' b (w64 s1 ++ rest) ∧ Bl H' H1.size (w64 (cN s1 5)) ∧ Bl H' H2.size (w64 (bX s1 (cN s1 5) x)) ∧ Keep (· = b) H H') 5
        ⟨0, by omega, by omega, rfl, hb2.push _, hc2.push _, Bl.new' _ _ _, hK2.push _⟩ ?_
      rintro n3 g3 H3 ⟨x, hx5, rfl, hf55, hb3, hc3, hB3, hK3⟩
      simp only [go_sem, List.map_cons, List.map_nil, ↓reduceIte, Nat.reduceEqDiff, Nat.reduceAdd, Nat.reduceMul, reduceCtorEq, and_true, true_and, Nat.mul_one, Nat.zero_add, Bool.false_eq_true, decide_true, decide_false, not_false_eq_true, kont_eq] at hf55
      simp only [go_sem, List.map_cons, List.map_nil, ↓reduceIte, Nat.reduceEqDiff, Nat.reduceAdd, Nat.reduceMul, reduceCtorEq, and_true, true_and, Nat.mul_one, Nat.zero_add, Bool.false_eq_true, decide_true, decide_false, not_false_eq_true, kont_eq, hf55]
      refine iteV_dec (fun hlt3 => ?_) (fun hge3 => ?_)
      · have hx : x < 5 := by omega
        refine vc_drk (fun _ => False) ?_
        have gc := fun i (hi : i < 5) => w64_get (cN s1 5) i (by rw [cN_len]; exact hi)
        have m1 : ((x : Int) + 4).tmod 5 = (((x + 4) % 5 : Nat) : Int) := by rw [Int.tmod_eq_emod_of_nonneg (by omega)]; omega
        have m2 : ((x : Int) + 1).tmod 5 = (((x + 1) % 5 : Nat) : Int) := by rw [Int.tmod_eq_emod_of_nonneg (by omega)]; omega
        simp (disch := omega) only [go_sem, List.map_cons, List.map_nil, ↓reduceIte, Nat.reduceEqDiff, Nat.reduceAdd, Nat.reduceMul, reduceCtorEq, and_true, true_and, Nat.mul_one, Nat.zero_add, Bool.false_eq_true, decide_true, decide_false, not_false_eq_true, kont_eq, hf55, hb3.cell, hc3.cell, hB3.cell, gc, IntWalk.i64_in, bits_xor, m1, m2, tn_cast]
        and_intros <;> first | omega | skip
        refine (hrot _ 1 (by omega) _).mono ?_
        rintro v H' ⟨rfl, rfl⟩
        have hd := bits_xor ((cN s1 5).getD ((x + 4) % 5) 0) (rotl ((cN s1 5).getD ((x + 1) % 5) 0) 1)
        simp only [go_sem, List.map_cons, List.map_nil, ↓reduceIte, Nat.reduceEqDiff, Nat.reduceAdd, Nat.reduceMul, reduceCtorEq, and_true, true_and, Nat.mul_one, Nat.zero_add, Bool.false_eq_true, decide_true, decide_false, not_false_eq_true, kont_eq, hd]
        refine ⟨Keep.refl _ _, ?_⟩
        refine vc_loop [71, 9, 70] rfl (fun n f H4 => ∃ y, y ≤ 5 ∧ n = 5 - y ∧ f 70 = .int .i64 y ∧ Bl H4 b (w64 s1 ++ rest) ∧ Bl H4 H1.size (w64 (cN s1 5)) ∧ Bl H4 H2.size (w64 (bY s1 (cN s1 5) x y (bX s1 (cN s1 5) x))) ∧ Keep (· = b) H H4) 5
          ⟨0, by omega, by omega, rfl, hb3, hc3, hB3, hK3⟩ ?_
        rintro n4 g4 H4 ⟨y, hy5, rfl, hf70, hb4, hc4, hB4, hK4⟩
        simp only [go_sem, List.map_cons, List.map_nil, ↓reduceIte, Nat.reduceEqDiff, Nat.reduceAdd, Nat.reduceMul, reduceCtorEq, and_true, true_and, Nat.mul_one, Nat.zero_add, Bool.false_eq_true, decide_true, decide_false, not_false_eq_true, kont_eq] at hf70
        simp only [go_sem, List.map_cons, List.map_nil, ↓reduceIte, Nat.reduceEqDiff, Nat.reduceAdd, Nat.reduceMul, reduceCtorEq, and_true, true_and, Nat.mul_one, Nat.zero_add, Bool.false_eq_true, decide_true, decide_false, not_false_eq_true, kont_eq, hf70]
        refine iteV_dec (fun hlt4 => ?_) (fun hge4 => ?_)
        · have hy : y < 5 := by omega
          have hT4 := hK4.bl hT (fun h => hbt h.symm)
          refine vc_drk (fun b => b = H2.size) ?_
          have ga := fun i (hi : i < 25) => w64_getA s1 rest i (by omega)
          have gt := fun i (hi : i < 25) => turns_get i hi
          have m3 : ((2 : Int) * x + 3 * y).tmod 5 = (((2 * x + 3 * y) % 5 : Nat) : Int) := by rw [Int.tmod_eq_emod_of_nonneg (by omega)]; omega
          have m4 : ((x : Int) + 5 * y) = ((x + 5 * y : Nat) : Int) := by omega
          have m5 : ((y : Int) + 5 * (((2 * x + 3 * y) % 5 : Nat) : Int)) = ((y + 5 * ((2 * x + 3 * y) % 5) : Nat) : Int) := by omega
          simp (disch := omega) only [go_sem, List.map_cons, List.map_nil, ↓reduceIte, Nat.reduceEqDiff, Nat.reduceAdd, Nat.reduceMul, reduceCtorEq, and_true, true_and, Nat.mul_one, Nat.zero_add, Bool.false_eq_true, decide_true, decide_false, not_false_eq_true, kont_eq, hf70, hb4.cell, hT4.cell, ga, gt, IntWalk.i64_in, bits_xor, m3, m4, m5, tn_cast]
          have hl1 := hb4.lt
          have hl2 := hT.lt
          have hl3 := hK4.size
          and_intros <;> first | omega | skip
          refine (hrot _ _ (turns_le _) _).mono ?_
          rintro v H' ⟨rfl, rfl⟩
          simp (disch := omega) only [go_sem, List.map_cons, List.map_nil, ↓reduceIte, Nat.reduceEqDiff, Nat.reduceAdd, Nat.reduceMul, reduceCtorEq, and_true, true_and, Nat.mul_one, Nat.zero_add, Bool.false_eq_true, decide_true, decide_false, not_false_eq_true, kont_eq, hf70, hb4.cell, hT4.cell, hB4.frz, ga, gt, IntWalk.i64_in, bits_xor, m3, m4, m5, tn_cast]
          have lY : (bY s1 (cN s1 5) x y (bX s1 (cN s1 5) x)).length = 25 := by rw [bY_len, bX_len]
          have cc : ∀ i, i < 25 → (cell H' ⟨Array.size H2, i, none⟩).isSome = true := fun i hi => by rw [hB4.cell, w64_get _ _ (by omega)]; rfl
          refine ⟨Keep.refl _ _, ⟨by omega, by omega⟩, cc _ (by omega), (Keep.refl _ _).setc _ (.inl rfl), 5 - (y + 1), by omega, y + 1, by omega, rfl, by simp, hb4.setc_ne _ hne2, hc4.setc_ne _ hne3, ?_, hK4.setc _ (.inr hHb)⟩
          have := hB4.setc (y + 5 * ((2 * x + 3 * y) % 5)) (.int .u64 (rotl (s1.getD (x + 5 * y) 0 ^^^ dOf (cN s1 5) x) (turnsL.getD (x + 5 * y) 0)).toNat)
          rw [w64_set _ _ (by omega)] at this
          exact this
        · have hy : y = 5 := by omega
          subst hy
          simp (disch := omega) only [go_sem, List.map_cons, List.map_nil, ↓reduceIte, Nat.reduceEqDiff, Nat.reduceAdd, Nat.reduceMul, reduceCtorEq, and_true, true_and, Nat.mul_one, Nat.zero_add, Bool.false_eq_true, decide_true, decide_false, not_false_eq_true, kont_eq, hf55, IntWalk.i64_in]
          exact ⟨5 - (x + 1), by omega, x + 1, by omega, rfl, by simp, hb4, hc4, hB4, hK4⟩
      · have hx : x = 5 := by omega
        subst hx
        have hHb' : Array.size H ≤ Array.size H2 := hHb
        generalize hBB : bX s1 (cN s1 5) 5 = BB at *
        have lBB : BB.length = 25 := by rw [← hBB, bX_len]
        refine vc_loop [103, 106, 107, 11, 10] rfl (fun n f H' => ∃ y, y ≤ 5 ∧ n = 5 - y ∧ f 10 = .int .i64 (5 * y) ∧ Bl H' b (w64 (chiY BB y s1) ++ rest) ∧ Bl H' H2.size (w64 BB) ∧ Keep (· = b) H H') 5
          ⟨0, by omega, by omega, rfl, hb3, hB3, hK3⟩ ?_
        rintro n5 g5 H5 ⟨y, hy5, rfl, hf10, hb5, hB5, hK5⟩
        simp only [go_sem, List.map_cons, List.map_nil, ↓reduceIte, Nat.reduceEqDiff, Nat.reduceAdd, Nat.reduceMul, reduceCtorEq, and_true, true_and, Nat.mul_one, Nat.zero_add, Bool.false_eq_true, decide_true, decide_false, not_false_eq_true, kont_eq] at hf10
        simp only [go_sem, List.map_cons, List.map_nil, ↓reduceIte, Nat.reduceEqDiff, Nat.reduceAdd, Nat.reduceMul, reduceCtorEq, and_true, true_and, Nat.mul_one, Nat.zero_add, Bool.false_eq_true, decide_true, decide_false, not_false_eq_true, kont_eq, hf10]
        refine iteV_dec (fun hlt5 => ?_) (fun hge5 => ?_)
        · have hy : y < 5 := by omega
          refine vc_loop [107, 11, 106] rfl (fun n f H' => ∃ x, x ≤ 5 ∧ n = 5 - x ∧ f 106 = .int .i64 x ∧ Bl H' b (w64 (chiX BB (5 * y) x (chiY BB y s1)) ++ rest) ∧ Bl H' H2.size (w64 BB) ∧ Keep (· = b) H H') 5
            ⟨0, by omega, by omega, rfl, hb5, hB5, hK5⟩ ?_
          rintro n6 g6 H6 ⟨x, hx5, rfl, hf106, hb6, hB6, hK6⟩
          simp only [go_sem, List.map_cons, List.map_nil, ↓reduceIte, Nat.reduceEqDiff, Nat.reduceAdd, Nat.reduceMul, reduceCtorEq, and_true, true_and, Nat.mul_one, Nat.zero_add, Bool.false_eq_true, decide_true, decide_false, not_false_eq_true, kont_eq] at hf106
          simp only [go_sem, List.map_cons, List.map_nil, ↓reduceIte, Nat.reduceEqDiff, Nat.reduceAdd, Nat.reduceMul, reduceCtorEq, and_true, true_and, Nat.mul_one, Nat.zero_add, Bool.false_eq_true, decide_true, decide_false, not_false_eq_true, kont_eq, hf106]
          refine iteV_dec (fun hlt6 => ?_) (fun hge6 => ?_)
          · have hx : x < 5 := by omega
            have lc : (chiX BB (5 * y) x (chiY BB y s1)).length = 25 := by rw [chiX_len, chiY_len, hl1]
            have ga := fun i (hi : i < 25) => w64_getA (chiX BB (5 * y) x (chiY BB y s1)) rest i (by omega)
            have gb := fun i (hi : i < 25) => w64_get BB i (by omega)
            have m1 : ((x : Int) + 1).tmod 5 = (((x + 1) % 5 : Nat) : Int) := by rw [Int.tmod_eq_emod_of_nonneg (by omega)]; omega
            have m2 : ((x : Int) + 2).tmod 5 = (((x + 2) % 5 : Nat) : Int) := by rw [Int.tmod_eq_emod_of_nonneg (by omega)]; omega
            have m3 : ((x : Int) + 5 * y) = ((x + 5 * y : Nat) : Int) := by omega
            have m4 : ((((x + 1) % 5 : Nat) : Int) + 5 * y) = (((x + 1) % 5 + 5 * y : Nat) : Int) := by omega
            have m5 : ((((x + 2) % 5 : Nat) : Int) + 5 * y) = (((x + 2) % 5 + 5 * y : Nat) : Int) := by omega
            simp (disch := omega) only [go_sem, List.map_cons, List.map_nil, ↓reduceIte, Nat.reduceEqDiff, Nat.reduceAdd, Nat.reduceMul, reduceCtorEq, and_true, true_and, Nat.mul_one, Nat.zero_add, Bool.false_eq_true, decide_true, decide_false, not_false_eq_true, kont_eq, hf106, hf10, hb6.cell, hB6.cell, hb6.frz, hB6.frz, ga, gb, IntWalk.i64_in, bits_xor, bits_and, bits_cpl', m1, m2, m3, m4, m5, tn_cast]
            and_intros <;> first | omega | skip
            refine ⟨5 - (x + 1), by omega, x + 1, by omega, rfl, by simp, ?_, hB6.setc_ne _ (Ne.symm hne2), hK6.setc _ (.inl rfl)⟩
            have := hb6.setc (x + 5 * y) (.int .u64 (BB.getD (x + 5 * y) 0 ^^^ (~~~ BB.getD ((x + 1) % 5 + 5 * y) 0 &&& BB.getD ((x + 2) % 5 + 5 * y) 0)).toNat)
            rw [w64_setA _ _ _ (by omega)] at this
            exact this
          · have hx : x = 5 := by omega
            subst hx
            simp (disch := omega) only [go_sem, List.map_cons, List.map_nil, ↓reduceIte, Nat.reduceEqDiff, Nat.reduceAdd, Nat.reduceMul, reduceCtorEq, and_true, true_and, Nat.mul_one, Nat.zero_add, Bool.false_eq_true, decide_true, decide_false, not_false_eq_true, kont_eq, hf10, IntWalk.i64_in]
            exact ⟨5 - (y + 1), by omega, y + 1, by omega, rfl, by simp; omega, hb6, hB6, hK6⟩
        · have hy : y = 5 := by omega
          subst hy
          have lc : (chiY BB 5 s1).length = 25 := by rw [chiY_len, hl1]
          have ga := fun i (hi : i < 25) => w64_getA (chiY BB 5 s1) rest i (by omega)
          simp (disch := omega) only [go_sem, List.map_cons, List.map_nil, ↓reduceIte, Nat.reduceEqDiff, Nat.reduceAdd, Nat.reduceMul, reduceCtorEq, and_true, true_and, Nat.mul_one, Nat.zero_add, Bool.false_eq_true, decide_true, decide_false, not_false_eq_true, kont_eq, hf13, hb5.cell, hb5.frz, ga, IntWalk.i64_in, bits_xor, tn_cast]
          refine ⟨by omega, by omega, 24 - (k + 1), by omega, k + 1, by omega, rfl, by simp, ?_, hK5.setc _ (.inl rfl)⟩
          have := hb5.setc 0 (.int .u64 ((chiY BB 5 s1).getD 0 0 ^^^ roundsL.getD k 0).toNat)
          rw [w64_setA _ _ _ (by omega)] at this
          have e : roundsF (k + 1) st = (chiY BB 5 s1).set 0 ((chiY BB 5 s1).getD 0 0 ^^^ roundsL.getD k 0) := by
            rw [← hBB, ← hs1]; rfl
          rw [e]
          exact this
  · have hk : k = 24 := by omega
    subst hk hs1
    exact ⟨hb1, hK1⟩
end Go.Mg

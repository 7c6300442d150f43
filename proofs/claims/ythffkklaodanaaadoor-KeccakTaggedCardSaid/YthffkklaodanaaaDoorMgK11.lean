/- keccak: the reference, its rounds. -/
import Derived.Test.YthffkklaodanaaaDoorMgK10
namespace Go.Mg
open Go Go.RowKit
set_option linter.unusedSimpArgs false
set_option linter.unusedVariables false
set_option maxRecDepth 100000
/- arbacref03.turns -/
def c_rturns (ι : Ids) : S :=
  .seq (.reg [.p (.v 0) (.mv (.c (.slice .none 0 0)))]) (.seq (.reg [.e (.t 1) (.bldF (ι.t 26) 1 25 [.c (.int .i64 0), .c (.int .i64 1), .c (.int .i64 62), .c (.int .i64 28), .c (.int .i64 27), .c (.int
  .i64 36), .c (.int .i64 44), .c (.int .i64 6), .c (.int .i64 55), .c (.int .i64 20), .c (.int .i64 3), .c (.int .i64 10), .c (.int .i64 43), .c (.int .i64 25), .c (.int .i64 39), .c (.int .i64 41), .c
  (.int .i64 45), .c (.int .i64 15), .c (.int .i64 21), .c (.int .i64 8), .c (.int .i64 18), .c (.int .i64 2), .c (.int .i64 61), .c (.int .i64 56), .c (.int .i64 14)]), .p (.v 0) (.mv (.t 1))]) .ret)
def r_rturns : List RV := [.t 0]
/- arbacref03.rounds -/
def c_rrounds (ι : Ids) : S :=
  .seq (.reg [.p (.v 0) (.mv (.c (.slice .none 0 0)))]) (.seq (.reg [.e (.t 1) (.bldF (ι.t 28) 1 24 [.c (.int .u64 1), .c (.int .u64 32898), .c (.int .u64 9223372036854808714), .c (.int .u64
  9223372039002292224), .c (.int .u64 32907), .c (.int .u64 2147483649), .c (.int .u64 9223372039002292353), .c (.int .u64 9223372036854808585), .c (.int .u64 138), .c (.int .u64 136), .c (.int .u64
  2147516425), .c (.int .u64 2147483658), .c (.int .u64 2147516555), .c (.int .u64 9223372036854775947), .c (.int .u64 9223372036854808713), .c (.int .u64 9223372036854808579), .c (.int .u64
  9223372036854808578), .c (.int .u64 9223372036854775936), .c (.int .u64 32778), .c (.int .u64 9223372039002259466), .c (.int .u64 9223372039002292353), .c (.int .u64 9223372036854808704), .c (.int
  .u64 2147483649), .c (.int .u64 9223372039002292232)]), .p (.v 0) (.mv (.t 1))]) .ret)
def r_rrounds : List RV := [.t 0]
/- arbacref03.round -/
def c_rround (ι : Ids) : S :=
  .seq (.reg [.p (.v 4) (.mv (.c (.slice .none 0 0)))]) (.seq (.reg [.p (.v 5) (.mv (.c (.slice .none 0 0)))]) (.seq (.seq (.reg [.p (.v 6) (.mv (.c (.int .i64 0)))]) (.blk 0 (.loop (.seq (.seq (.reg
  [.p (.t 14) (.mv (.v 6)), .p (.v 15) (.cm .lss .i64 (.t 14) (.c (.int .i64 5)))]) (.ite (.v 15) .skip (.exit 0))) (.seq (.blk 1 (.dr (.px (.t 18) .none (.mv (.v 5)) (.px (.t 19) .none (.mv (.v 0))
  (.px (.t 20) .none (.mv (.v 6)) (.px (.t 21) .none (.is 1 (.t 19) (.t 20)) (.px (.t 22) .none (.ld (.t 21)) (.px (.t 23) .none (.mv (.v 0)) (.px (.t 24) .none (.mv (.v 6)) (.px (.t 25) .none (.ar .add
  .i64 (.t 24) (.c (.int .i64 5))) (.px (.t 26) .none (.is 1 (.t 23) (.t 25)) (.px (.t 27) .none (.ld (.t 26)) (.px (.t 28) .none (.bt .xor .u64 (.t 22) (.t 27)) (.px (.t 29) .none (.mv (.v 0)) (.px (.t
  30) .none (.mv (.v 6)) (.px (.t 31) .none (.ar .add .i64 (.t 30) (.c (.int .i64 10))) (.px (.t 32) .none (.is 1 (.t 29) (.t 31)) (.px (.t 33) .none (.ld (.t 32)) (.px (.t 34) .none (.bt .xor .u64 (.t
  28) (.t 33)) (.px (.t 35) .none (.mv (.v 0)) (.px (.t 36) .none (.mv (.v 6)) (.px (.t 37) .none (.ar .add .i64 (.t 36) (.c (.int .i64 15))) (.px (.t 38) .none (.is 1 (.t 35) (.t 37)) (.px (.t 39)
  .none (.ld (.t 38)) (.px (.t 40) .none (.bt .xor .u64 (.t 34) (.t 39)) (.px (.t 41) .none (.mv (.v 0)) (.px (.t 42) .none (.mv (.v 6)) (.px (.t 43) .none (.ar .add .i64 (.t 42) (.c (.int .i64 20)))
  (.px (.t 44) .none (.is 1 (.t 41) (.t 43)) (.px (.t 45) .none (.ld (.t 44)) (.px (.t 46) .none (.bt .xor .u64 (.t 40) (.t 45)) (.wcons (.t 47) .none (.bldF (ι.t 28) 1 1 [.t 46]) (.wcons (.t 48) .none
  (.app false (ι.t 28) 1 8 #[.int .u64 0] (.t 18) (.t 47)) (.px (.v 5) .none (.mv (.t 48)) .done) .wnil) .wnil)))))))))))))))))))))))))))))))) (.reg [.p (.t 16) (.mv (.v 6)), .p (.t 17) (.ar .add .i64
  (.t 16) (.c (.int .i64 1))), .p (.v 6) (.mv (.t 17))])))))) (.seq (.reg [.e (.t 49) (.mkS (ι.t 28) 1 8 #[.int .u64 0] (.c (.int .i64 25)) (.c (.int .i64 25))), .p (.v 7) (.mv (.t 49))]) (.seq (.seq
  (.reg [.p (.v 8) (.mv (.c (.int .i64 0)))]) (.blk 2 (.loop (.seq (.seq (.reg [.p (.t 50) (.mv (.v 8)), .p (.v 51) (.cm .lss .i64 (.t 50) (.c (.int .i64 5)))]) (.ite (.v 51) .skip (.exit 2))) (.seq
  (.blk 3 (.seq (.dr (.px (.t 54) .none (.mv (.v 5)) (.px (.t 55) .none (.mv (.v 8)) (.px (.t 56) .none (.ar .add .i64 (.t 55) (.c (.int .i64 4))) (.px (.t 57) .none (.dv .rem .i64 (.t 56) (.c (.int
  .i64 5))) (.px (.t 58) .none (.is 1 (.t 54) (.t 57)) (.px (.t 59) .none (.ld (.t 58)) (.px (.t 60) .none (.mv (.v 5)) (.px (.t 61) .none (.mv (.v 8)) (.px (.t 62) .none (.ar .add .i64 (.t 61) (.c
  (.int .i64 1))) (.px (.t 63) .none (.dv .rem .i64 (.t 62) (.c (.int .i64 5))) (.px (.t 64) .none (.is 1 (.t 60) (.t 63)) (.px (.t 65) .none (.ld (.t 64)) (.wcons (.t 66) .none (.call (ι.f 1) [.t 65,
  .c (.int .i64 1)]) (.px (.t 67) .none (.bt .xor .u64 (.t 59) (.t 66)) (.px (.v 9) .none (.mv (.t 67)) .done)) .wnil)))))))))))))) (.seq (.reg [.p (.v 10) (.mv (.c (.int .i64 0)))]) (.blk 4 (.loop
  (.seq (.seq (.reg [.p (.t 68) (.mv (.v 10)), .p (.v 69) (.cm .lss .i64 (.t 68) (.c (.int .i64 5)))]) (.ite (.v 69) .skip (.exit 4))) (.seq (.blk 5 (.dr (.px (.t 72) .none (.mv (.v 7)) (.px (.t 73)
  .none (.mv (.v 10)) (.px (.t 74) .none (.mv (.v 8)) (.px (.t 75) .none (.ar .mul .i64 (.c (.int .i64 2)) (.t 74)) (.px (.t 76) .none (.mv (.v 10)) (.px (.t 77) .none (.ar .mul .i64 (.c (.int .i64 3))
  (.t 76)) (.px (.t 78) .none (.ar .add .i64 (.t 75) (.t 77)) (.px (.t 79) .none (.dv .rem .i64 (.t 78) (.c (.int .i64 5))) (.px (.t 80) .none (.ar .mul .i64 (.c (.int .i64 5)) (.t 79)) (.px (.t 81)
  .none (.ar .add .i64 (.t 73) (.t 80)) (.px (.t 82) .none (.mv (.v 0)) (.px (.t 83) .none (.mv (.v 8)) (.px (.t 84) .none (.mv (.v 10)) (.px (.t 85) .none (.ar .mul .i64 (.c (.int .i64 5)) (.t 84))
  (.px (.t 86) .none (.ar .add .i64 (.t 83) (.t 85)) (.px (.t 87) .none (.is 1 (.t 82) (.t 86)) (.px (.t 88) .none (.ld (.t 87)) (.px (.t 89) .none (.mv (.v 9)) (.px (.t 90) .none (.bt .xor .u64 (.t 88)
  (.t 89)) (.px (.t 92) .none (.mv (.v 8)) (.px (.t 93) .none (.mv (.v 10)) (.px (.t 94) .none (.ar .mul .i64 (.c (.int .i64 5)) (.t 93)) (.px (.t 95) .none (.ar .add .i64 (.t 92) (.t 94)) (.wcons (.t
  91) .none (.call (ι.f 27) []) (.px (.t 96) .none (.is 1 (.t 91) (.t 95)) (.px (.t 97) .none (.ld (.t 96)) (.wcons (.t 98) .none (.call (ι.f 1) [.t 90, .t 97]) (.px (.t 99) .none (.is 1 (.t 72) (.t
  81)) (.wcons .no .none (.st (.t 99) (.t 98)) .done .wnil)) .wnil))) .wnil)))))))))))))))))))))))))) (.reg [.p (.t 70) (.mv (.v 10)), .p (.t 71) (.ar .add .i64 (.t 70) (.c (.int .i64 1))), .p (.v 10)
  (.mv (.t 71))])))))))) (.reg [.p (.t 52) (.mv (.v 8)), .p (.t 53) (.ar .add .i64 (.t 52) (.c (.int .i64 1))), .p (.v 8) (.mv (.t 53))])))))) (.seq (.reg [.e (.t 100) (.mkS (ι.t 28) 1 8 #[.int .u64 0]
  (.c (.int .i64 25)) (.c (.int .i64 25))), .p (.v 11) (.mv (.t 100))]) (.seq (.seq (.reg [.p (.v 12) (.mv (.c (.int .i64 0)))]) (.blk 6 (.loop (.seq (.seq (.reg [.p (.t 101) (.mv (.v 12)), .p (.v 102)
  (.cm .lss .i64 (.t 101) (.c (.int .i64 5)))]) (.ite (.v 102) .skip (.exit 6))) (.seq (.blk 7 (.seq (.reg [.p (.v 13) (.mv (.c (.int .i64 0)))]) (.blk 8 (.loop (.seq (.seq (.reg [.p (.t 105) (.mv (.v
  13)), .p (.v 106) (.cm .lss .i64 (.t 105) (.c (.int .i64 5)))]) (.ite (.v 106) .skip (.exit 8))) (.seq (.blk 9 (.reg [.p (.t 109) (.mv (.v 11)), .p (.t 110) (.mv (.v 12)), .p (.t 111) (.mv (.v 13)),
  .p (.t 112) (.ar .mul .i64 (.c (.int .i64 5)) (.t 111)), .p (.t 113) (.ar .add .i64 (.t 110) (.t 112)), .p (.t 114) (.mv (.v 7)), .p (.t 115) (.mv (.v 12)), .p (.t 116) (.mv (.v 13)), .p (.t 117) (.ar
  .mul .i64 (.c (.int .i64 5)) (.t 116)), .p (.t 118) (.ar .add .i64 (.t 115) (.t 117)), .p (.t 119) (.is 1 (.t 114) (.t 118)), .p (.t 120) (.ld (.t 119)), .p (.t 121) (.mv (.v 7)), .p (.t 122) (.mv (.v
  12)), .p (.t 123) (.ar .add .i64 (.t 122) (.c (.int .i64 1))), .p (.t 124) (.dv .rem .i64 (.t 123) (.c (.int .i64 5))), .p (.t 125) (.mv (.v 13)), .p (.t 126) (.ar .mul .i64 (.c (.int .i64 5)) (.t
  125)), .p (.t 127) (.ar .add .i64 (.t 124) (.t 126)), .p (.t 128) (.is 1 (.t 121) (.t 127)), .p (.t 129) (.ld (.t 128)), .p (.t 130) (.cpl .u64 (.t 129)), .p (.t 131) (.mv (.v 7)), .p (.t 132) (.mv
  (.v 12)), .p (.t 133) (.ar .add .i64 (.t 132) (.c (.int .i64 2))), .p (.t 134) (.dv .rem .i64 (.t 133) (.c (.int .i64 5))), .p (.t 135) (.mv (.v 13)), .p (.t 136) (.ar .mul .i64 (.c (.int .i64 5)) (.t
  135)), .p (.t 137) (.ar .add .i64 (.t 134) (.t 136)), .p (.t 138) (.is 1 (.t 131) (.t 137)), .p (.t 139) (.ld (.t 138)), .p (.t 140) (.bt .and .u64 (.t 130) (.t 139)), .p (.t 141) (.bt .xor .u64 (.t
  120) (.t 140)), .p (.t 142) (.is 1 (.t 109) (.t 113)), .e .no (.st (.t 142) (.t 141))])) (.reg [.p (.t 107) (.mv (.v 13)), .p (.t 108) (.ar .add .i64 (.t 107) (.c (.int .i64 1))), .p (.v 13) (.mv (.t
  108))]))))))) (.reg [.p (.t 103) (.mv (.v 12)), .p (.t 104) (.ar .add .i64 (.t 103) (.c (.int .i64 1))), .p (.v 12) (.mv (.t 104))])))))) (.seq (.reg [.p (.t 143) (.mv (.v 11)), .p (.t 144) (.mv (.v
  11)), .p (.t 145) (.is 1 (.t 144) (.c (.int .i64 0))), .p (.t 146) (.ld (.t 145)), .p (.t 147) (.mv (.v 1)), .p (.t 148) (.bt .xor .u64 (.t 146) (.t 147)), .p (.t 149) (.is 1 (.t 143) (.c (.int .i64
  0))), .e .no (.st (.t 149) (.t 148))]) (.seq (.reg [.p (.t 150) (.mv (.v 11)), .p (.v 4) (.mv (.t 150))]) .ret))))))))
def r_rround : List RV := [.t 4]

def TurnsSpec (P : Program) (k : FuncId) : Prop := ∀ H, CallsM P k #[] H fun r H' => r = .slice (some ⟨H.size, 0, none⟩) 25 25 ∧ Bl H' H.size (turnsL.map fun (n : Nat) => .int .i64 n) ∧ Keep (fun _ => False) H H' ∧ H'.size = H.size + 1
theorem rturns_ok {P : Program} {ι : Ids} {k : FuncId} (hk : FnIs P k (c_rturns ι) r_rturns 0) : TurnsSpec P k := by
  intro H
  refine calls_of_vc hk (args := []) (by simp) ?_
  unfold c_rturns r_rturns
  simp only [go_sem, List.map_cons, List.map_nil, ↓reduceIte, Nat.reduceEqDiff, Nat.reduceAdd, Nat.reduceMul, reduceCtorEq, and_true, true_and, Nat.mul_one, Nat.zero_add, Bool.false_eq_true, decide_true, decide_false, not_false_eq_true]
  refine kont_news fun H1 b1 e1 z1 B1 K1 => ?_
  subst e1
  simp only [go_sem, List.map_cons, List.map_nil, ↓reduceIte, Nat.reduceEqDiff, Nat.reduceAdd, Nat.reduceMul, reduceCtorEq, and_true, true_and, Nat.mul_one, Nat.zero_add, Bool.false_eq_true, decide_true, decide_false, not_false_eq_true, kont_eq]
  exact ⟨B1, K1, z1⟩
def RoundsSpec (P : Program) (k : FuncId) : Prop := ∀ H, CallsM P k #[] H fun r H' => r = .slice (some ⟨H.size, 0, none⟩) 24 24 ∧ Bl H' H.size (w64 roundsL) ∧ Keep (fun _ => False) H H' ∧ H'.size = H.size + 1
theorem rrounds_ok {P : Program} {ι : Ids} {k : FuncId} (hk : FnIs P k (c_rrounds ι) r_rrounds 0) : RoundsSpec P k := by
  intro H
  refine calls_of_vc hk (args := []) (by simp) ?_
  unfold c_rrounds r_rrounds
  simp only [go_sem, List.map_cons, List.map_nil, ↓reduceIte, Nat.reduceEqDiff, Nat.reduceAdd, Nat.reduceMul, reduceCtorEq, and_true, true_and, Nat.mul_one, Nat.zero_add, Bool.false_eq_true, decide_true, decide_false, not_false_eq_true]
  refine kont_news fun H1 b1 e1 z1 B1 K1 => ?_
  subst e1
  simp only [go_sem, List.map_cons, List.map_nil, ↓reduceIte, Nat.reduceEqDiff, Nat.reduceAdd, Nat.reduceMul, reduceCtorEq, and_true, true_and, Nat.mul_one, Nat.zero_add, Bool.false_eq_true, decide_true, decide_false, not_false_eq_true, kont_eq]
  exact ⟨B1, K1, z1⟩

def cL (a : List UInt64) (n : Nat) : List UInt64 := (List.range n).map (theta a)
def oY (b : List UInt64) (x y : Nat) (o : List UInt64) : List UInt64 :=
  iter y (fun o y => o.set (x + 5 * y) (b.getD (x + 5 * y) 0 ^^^ (~~~ b.getD ((x + 1) % 5 + 5 * y) 0 &&& b.getD ((x + 2) % 5 + 5 * y) 0))) o
def oX (b : List UInt64) (x : Nat) : List UInt64 := iter x (fun o x => oY b x 5 o) (List.replicate 25 0)
def roundR (a : List UInt64) (c : UInt64) : List UInt64 := iota c (oX (bX a (cL a 5) 5) 5)
theorem cL_len (a : List UInt64) (n : Nat) : (cL a n).length = n := by simp [cL]
theorem cL_succ (a : List UInt64) (n : Nat) : cL a (n + 1) = cL a n ++ [theta a n] := by simp [cL, List.range_succ]
theorem oY_len (b : List UInt64) (x y : Nat) (o : List UInt64) : (oY b x y o).length = o.length := by
  unfold oY; rw [iter_len (by simp)]
theorem oX_len (b : List UInt64) (x : Nat) : (oX b x).length = 25 := by
  unfold oX; rw [iter_len (fun l k => oY_len _ _ _ _)]; simp
theorem roundR_len (a : List UInt64) (c : UInt64) : (roundR a c).length = 25 := by
  simp [roundR, iota, oX_len]
theorem w64_all1' (l : List UInt64) : all1 (w64 l).toArray := w64_all1 l
theorem w64_app (a b : List UInt64) : w64 (a ++ b) = w64 a ++ w64 b := by simp [w64]
theorem w64_rep (n : Nat) : List.replicate n (Value.int .u64 0) = w64 (List.replicate n 0) := by simp [w64]

def RoundSpec (P : Program) (k : FuncId) : Prop := ∀ (b : Nat) (a : List UInt64) (c : UInt64) (H : Hp), a.length = 25 → Bl H b (w64 a) → CallsM P k #[.slice (some ⟨b, 0, none⟩) 25 25, .int .u64 c.toNat] H fun r H' =>
  ∃ b', H.size ≤ b' ∧ r = .slice (some ⟨b', 0, none⟩) 25 25 ∧ Bl H' b' (w64 (roundR a c)) ∧ Keep (fun _ => False) H H'
theorem rround_ok {P : Program} {ι : Ids} {k : FuncId} (hk : FnIs P k (c_rround ι) r_rround 2) (ht : TurnsSpec P (ι.f 27)) (hrot : RotSpec P (ι.f 1)) : RoundSpec P k := by
  intro b a cst H hl hB
  refine calls_of_vc hk (args := [_, _]) (by simp) ?_
  unfold c_rround r_rround
  have hb := hB.lt
  have ga := fun i (hi : i < 25) => w64_get a i (by omega)
  simp only [go_sem, List.map_cons, List.map_nil, ↓reduceIte, Nat.reduceEqDiff, Nat.reduceAdd, Nat.reduceMul, reduceCtorEq, and_true, true_and, Nat.mul_one, Nat.zero_add, Bool.false_eq_true, decide_true, decide_false, not_false_eq_true, kont_eq]
  refine vc_loop [15, 5, 6] rfl (fun n f H' => ∃ x, x ≤ 5 ∧ n = 5 - x ∧ f 6 = .int .i64 x ∧ OwS H' (f 5) (w64 (cL a x)) ∧ (∀ k, ownB (f 5) k → H.size ≤ k) ∧ Keep (fun _ => False) H H') 5
    ⟨0, by omega, by omega, rfl, OwS.nil _, fun k h => h.elim, Keep.refl _ _⟩ ?_
  rintro n g H1 ⟨x, hx5, rfl, hf6, O1, o1, K1⟩
  simp only [go_sem, List.map_cons, List.map_nil, ↓reduceIte, Nat.reduceEqDiff, Nat.reduceAdd, Nat.reduceMul, reduceCtorEq, and_true, true_and, Nat.mul_one, Nat.zero_add, Bool.false_eq_true, decide_true, decide_false, not_false_eq_true, kont_eq] at hf6 O1 o1
  simp only [go_sem, List.map_cons, List.map_nil, ↓reduceIte, Nat.reduceEqDiff, Nat.reduceAdd, Nat.reduceMul, reduceCtorEq, and_true, true_and, Nat.mul_one, Nat.zero_add, Bool.false_eq_true, decide_true, decide_false, not_false_eq_true, kont_eq, hf6]
  have B1 := K1.bl hB (by simp)
  refine iteV_dec (fun hlt => ?_) (fun hge => ?_)
  · have hx : x < 5 := by omega
    refine vc_drk (fun k => H.size ≤ k) ?_
    simp (disch := omega) only [go_sem, List.map_cons, List.map_nil, ↓reduceIte, Nat.reduceEqDiff, Nat.reduceAdd, Nat.reduceMul, reduceCtorEq, and_true, true_and, Nat.mul_one, Nat.zero_add, Bool.false_eq_true, decide_true, decide_false, not_false_eq_true, kont_eq, hf6, B1.cell, ga, IntWalk.i64_in, bits_xor]
    repeat (refine And.intro (by omega) ?_)
    generalize hA : Array.push H1 _ = HA
    have BA : Bl HA H1.size (w64 [theta a x]) := by rw [← hA]; exact Bl.new' _ _ _
    have KA : Keep (fun _ => False) H1 HA := by rw [← hA]; exact (Keep.refl _ _).push _
    have k1 := K1.size
    have ka := KA.size
    refine ⟨KA.any, app_slN H.size (l := w64 (cL a x)) (m := w64 [theta a x]) (O1.keep KA (by simp)) o1 (by omega) (SlR.bl BA 0 1 1 (by omega) (by simp [w64])) (w64_all1 _) rfl (by omega) (by simp [w64_len, cL_len]; omega) fun v2 H2 O2 o2 K2 => ?_⟩
    rw [← w64_app, ← cL_succ] at O2
    simp (disch := omega) only [go_sem, List.map_cons, List.map_nil, ↓reduceIte, Nat.reduceEqDiff, Nat.reduceAdd, Nat.reduceMul, reduceCtorEq, and_true, true_and, Nat.mul_one, Nat.zero_add, Bool.false_eq_true, decide_true, decide_false, not_false_eq_true, kont_eq, hf6, IntWalk.i64_in]
    refine ⟨K2, 5 - (x + 1), by omega, x + 1, by omega, rfl, by simp, O2, o2, (K1.trans KA).at_old K2 (by omega)⟩
  · have hx : x = 5 := by omega
    subst hx
    clear hge
    obtain ⟨bC, cC, LC, e5, -, -, BC, -, gC⟩ := O1.some (by simp [w64, cL])
    rw [e5] at o1
    have oC : H.size ≤ bC := o1 bC rfl
    rw [w64_len, cL_len] at gC e5
    have lC := cL_len a 5
    have gc : ∀ i, i < 5 → LC[i]? = some (.int .u64 ((cL a 5).getD i 0).toNat) := fun i hi => by rw [gC i hi, w64_get _ _ (by omega)]
    generalize hcl : cL a 5 = cl at *
    have hbC := BC.lt
    refine ⟨by unfold maxLen; omega, ?_⟩
    have k1 := K1.size
    have z25 : (rep #[Value.int IntKind.u64 0] 25).toList = w64 (List.replicate 25 0) := by rw [rep_one, w64_rep]
    have hbne : b ≠ H1.size := by omega
    have hcne : bC ≠ H1.size := by omega
    refine vc_loop [51, 9, 10, 69, 8] rfl (fun n f H' => ∃ x, x ≤ 5 ∧ n = 5 - x ∧ f 8 = .int .i64 x ∧ Bl H' b (w64 a) ∧ Bl H' bC LC ∧ Bl H' H1.size (w64 (bX a cl x)) ∧ Keep (fun _ => False) H H' ∧ H1.size < H'.size) 5
      ⟨0, by omega, by omega, rfl, B1.push _, BC.push _, by have := Bl.new' H1 (rep #[Value.int IntKind.u64 0] 25) (ι.t 28); rw [z25] at this; exact this, K1.push _, by simp⟩ ?_
    rintro n2 g2 H2 ⟨x, hx5, rfl, hf8, B2, C2, D2, K2, z2⟩
    simp only [go_sem, List.map_cons, List.map_nil, ↓reduceIte, Nat.reduceEqDiff, Nat.reduceAdd, Nat.reduceMul, reduceCtorEq, and_true, true_and, Nat.mul_one, Nat.zero_add, Bool.false_eq_true, decide_true, decide_false, not_false_eq_true, kont_eq] at hf8
    simp only [go_sem, List.map_cons, List.map_nil, ↓reduceIte, Nat.reduceEqDiff, Nat.reduceAdd, Nat.reduceMul, reduceCtorEq, and_true, true_and, Nat.mul_one, Nat.zero_add, Bool.false_eq_true, decide_true, decide_false, not_false_eq_true, kont_eq, hf8]
    refine iteV_dec (fun hlt => ?_) (fun hge => ?_)
    · have hx : x < 5 := by omega
      refine vc_drk (fun _ => False) ?_
      have m1 : ((x : Int) + 4).tmod 5 = (((x + 4) % 5 : Nat) : Int) := by rw [Int.tmod_eq_emod_of_nonneg (by omega)]; omega
      have m2 : ((x : Int) + 1).tmod 5 = (((x + 1) % 5 : Nat) : Int) := by rw [Int.tmod_eq_emod_of_nonneg (by omega)]; omega
      simp (disch := omega) only [go_sem, List.map_cons, List.map_nil, ↓reduceIte, Nat.reduceEqDiff, Nat.reduceAdd, Nat.reduceMul, reduceCtorEq, and_true, true_and, Nat.mul_one, Nat.zero_add, Bool.false_eq_true, decide_true, decide_false, not_false_eq_true, kont_eq, hf8, e5, C2.cell, gc, IntWalk.i64_in, bits_xor, m1, m2, tn_cast]
      and_intros <;> first | omega | skip
      refine (hrot _ 1 (by omega) _).mono ?_
      rintro v H' ⟨rfl, rfl⟩
      have hd := bits_xor (cl.getD ((x + 4) % 5) 0) (rotl (cl.getD ((x + 1) % 5) 0) 1)
      simp only [go_sem, List.map_cons, List.map_nil, ↓reduceIte, Nat.reduceEqDiff, Nat.reduceAdd, Nat.reduceMul, reduceCtorEq, and_true, true_and, Nat.mul_one, Nat.zero_add, Bool.false_eq_true, decide_true, decide_false, not_false_eq_true, kont_eq, hd]
      refine ⟨Keep.refl _ _, ?_⟩
      refine vc_loop [69, 10] rfl (fun n f H4 => ∃ y, y ≤ 5 ∧ n = 5 - y ∧ f 10 = .int .i64 y ∧ Bl H4 b (w64 a) ∧ Bl H4 bC LC ∧ Bl H4 H1.size (w64 (bY a cl x y (bX a cl x))) ∧ Keep (fun _ => False) H H4 ∧ H1.size < H4.size) 5
        ⟨0, by omega, by omega, rfl, B2, C2, D2, K2, z2⟩ ?_
      rintro n4 g4 H4 ⟨y, hy5, rfl, hf10, B4, C4, D4, K4, z4⟩
      simp only [go_sem, List.map_cons, List.map_nil, ↓reduceIte, Nat.reduceEqDiff, Nat.reduceAdd, Nat.reduceMul, reduceCtorEq, and_true, true_and, Nat.mul_one, Nat.zero_add, Bool.false_eq_true, decide_true, decide_false, not_false_eq_true, kont_eq] at hf10
      simp only [go_sem, List.map_cons, List.map_nil, ↓reduceIte, Nat.reduceEqDiff, Nat.reduceAdd, Nat.reduceMul, reduceCtorEq, and_true, true_and, Nat.mul_one, Nat.zero_add, Bool.false_eq_true, decide_true, decide_false, not_false_eq_true, kont_eq, hf10]
      refine iteV_dec (fun hlt4 => ?_) (fun hge4 => ?_)
      · have hy : y < 5 := by omega
        refine vc_drk (fun k => k = H1.size) ?_
        have gt := fun i (hi : i < 25) => turns_get i hi
        have m3 : ((2 : Int) * x + 3 * y).tmod 5 = (((2 * x + 3 * y) % 5 : Nat) : Int) := by rw [Int.tmod_eq_emod_of_nonneg (by omega)]; omega
        have m4 : ((x : Int) + 5 * y) = ((x + 5 * y : Nat) : Int) := by omega
        have m5 : ((y : Int) + 5 * (((2 * x + 3 * y) % 5 : Nat) : Int)) = ((y + 5 * ((2 * x + 3 * y) % 5) : Nat) : Int) := by omega
        simp (disch := omega) only [go_sem, List.map_cons, List.map_nil, ↓reduceIte, Nat.reduceEqDiff, Nat.reduceAdd, Nat.reduceMul, reduceCtorEq, and_true, true_and, Nat.mul_one, Nat.zero_add, Bool.false_eq_true, decide_true, decide_false, not_false_eq_true, kont_eq, hf10, hf8, B4.cell, ga, IntWalk.i64_in, bits_xor, m3, m4, m5, tn_cast]
        repeat (refine And.intro (by omega) ?_)
        refine (ht _).mono ?_
        rintro v H5 ⟨rfl, T5, K5, z5⟩
        have B5 := K5.bl B4 (by simp)
        have C5 := K5.bl C4 (by simp)
        have D5 := K5.bl D4 (by simp)
        simp (disch := omega) only [go_sem, List.map_cons, List.map_nil, ↓reduceIte, Nat.reduceEqDiff, Nat.reduceAdd, Nat.reduceMul, reduceCtorEq, and_true, true_and, Nat.mul_one, Nat.zero_add, Bool.false_eq_true, decide_true, decide_false, not_false_eq_true, kont_eq, T5.cell, gt]
        refine ⟨K5.any, ?_⟩
        repeat (refine And.intro (by omega) ?_)
        refine (hrot _ _ (turns_le _) _).mono ?_
        rintro v H' ⟨rfl, rfl⟩
        simp (disch := omega) only [go_sem, List.map_cons, List.map_nil, ↓reduceIte, Nat.reduceEqDiff, Nat.reduceAdd, Nat.reduceMul, reduceCtorEq, and_true, true_and, Nat.mul_one, Nat.zero_add, Bool.false_eq_true, decide_true, decide_false, not_false_eq_true, kont_eq, D5.cell, D5.frz, hf10, IntWalk.i64_in, tn_cast]
        have lY : (bY a cl x y (bX a cl x)).length = 25 := by rw [bY_len, bX_len]
        have cc : ((w64 (bY a cl x y (bX a cl x)))[y + 5 * ((2 * x + 3 * y) % 5)]?).isSome = true := by rw [w64_get _ _ (by omega)]; rfl
        refine ⟨Keep.refl _ _, by omega, cc, (Keep.refl _ _).setc _ (.inl rfl), 5 - (y + 1), by omega, y + 1, by omega, rfl, by simp, B5.setc_ne _ hbne, C5.setc_ne _ hcne, ?_, (K4.trans K5).setc _ (.inr k1), by rw [size_setc]; omega⟩
        have := D5.setc (y + 5 * ((2 * x + 3 * y) % 5)) (.int .u64 (rotl (a.getD (x + 5 * y) 0 ^^^ dOf cl x) (turnsL.getD (x + 5 * y) 0)).toNat)
        rw [w64_set _ _ (by omega)] at this
        exact this
      · have hy : y = 5 := by omega
        subst hy
        simp (disch := omega) only [go_sem, List.map_cons, List.map_nil, ↓reduceIte, Nat.reduceEqDiff, Nat.reduceAdd, Nat.reduceMul, reduceCtorEq, and_true, true_and, Nat.mul_one, Nat.zero_add, Bool.false_eq_true, decide_true, decide_false, not_false_eq_true, kont_eq, hf8, IntWalk.i64_in]
        exact ⟨5 - (x + 1), by omega, x + 1, by omega, rfl, by simp, B4, C4, D4, K4, z4⟩
    · have hx : x = 5 := by omega
      subst hx
      generalize hBB : bX a cl 5 = BB at *
      have lBB : BB.length = 25 := by rw [← hBB, bX_len]
      have gb := fun i (hi : i < 25) => w64_get BB i (by omega)
      refine ⟨by unfold maxLen; omega, ?_⟩
      have hdne : H1.size ≠ H2.size := by omega
      have hk2 := K2.size
      refine vc_loop [102, 13, 106, 12] rfl (fun n f H' => ∃ x, x ≤ 5 ∧ n = 5 - x ∧ f 12 = .int .i64 x ∧ Bl H' H1.size (w64 BB) ∧ Bl H' H2.size (w64 (oX BB x)) ∧ Keep (fun _ => False) H H') 5
        ⟨0, by omega, by omega, rfl, D2.push _, by have := Bl.new' H2 (rep #[Value.int IntKind.u64 0] 25) (ι.t 28); rw [z25] at this; exact this, K2.push _⟩ ?_
      rintro n5 g5 H5 ⟨x, hx5, rfl, hf12, D5, E5, K5⟩
      simp only [go_sem, List.map_cons, List.map_nil, ↓reduceIte, Nat.reduceEqDiff, Nat.reduceAdd, Nat.reduceMul, reduceCtorEq, and_true, true_and, Nat.mul_one, Nat.zero_add, Bool.false_eq_true, decide_true, decide_false, not_false_eq_true, kont_eq] at hf12
      simp only [go_sem, List.map_cons, List.map_nil, ↓reduceIte, Nat.reduceEqDiff, Nat.reduceAdd, Nat.reduceMul, reduceCtorEq, and_true, true_and, Nat.mul_one, Nat.zero_add, Bool.false_eq_true, decide_true, decide_false, not_false_eq_true, kont_eq, hf12]
      refine iteV_dec (fun hlt5 => ?_) (fun hge5 => ?_)
      · have hx : x < 5 := by omega
        refine vc_loop [106, 13] rfl (fun n f H' => ∃ y, y ≤ 5 ∧ n = 5 - y ∧ f 13 = .int .i64 y ∧ Bl H' H1.size (w64 BB) ∧ Bl H' H2.size (w64 (oY BB x y (oX BB x))) ∧ Keep (fun _ => False) H H') 5
          ⟨0, by omega, by omega, rfl, D5, E5, K5⟩ ?_
        rintro n6 g6 H6 ⟨y, hy5, rfl, hf13, D6, E6, K6⟩
        simp only [go_sem, List.map_cons, List.map_nil, ↓reduceIte, Nat.reduceEqDiff, Nat.reduceAdd, Nat.reduceMul, reduceCtorEq, and_true, true_and, Nat.mul_one, Nat.zero_add, Bool.false_eq_true, decide_true, decide_false, not_false_eq_true, kont_eq] at hf13
        simp only [go_sem, List.map_cons, List.map_nil, ↓reduceIte, Nat.reduceEqDiff, Nat.reduceAdd, Nat.reduceMul, reduceCtorEq, and_true, true_and, Nat.mul_one, Nat.zero_add, Bool.false_eq_true, decide_true, decide_false, not_false_eq_true, kont_eq, hf13]
        refine iteV_dec (fun hlt6 => ?_) (fun hge6 => ?_)
        · have hy : y < 5 := by omega
          have lc : (oY BB x y (oX BB x)).length = 25 := by rw [oY_len, oX_len]
          have m1 : ((x : Int) + 1).tmod 5 = (((x + 1) % 5 : Nat) : Int) := by rw [Int.tmod_eq_emod_of_nonneg (by omega)]; omega
          have m2 : ((x : Int) + 2).tmod 5 = (((x + 2) % 5 : Nat) : Int) := by rw [Int.tmod_eq_emod_of_nonneg (by omega)]; omega
          have m3 : ((x : Int) + 5 * y) = ((x + 5 * y : Nat) : Int) := by omega
          have m4 : ((((x + 1) % 5 : Nat) : Int) + 5 * y) = (((x + 1) % 5 + 5 * y : Nat) : Int) := by omega
          have m5 : ((((x + 2) % 5 : Nat) : Int) + 5 * y) = (((x + 2) % 5 + 5 * y : Nat) : Int) := by omega
          have ge : (w64 (oY BB x y (oX BB x)))[x + 5 * y]? = some (.int .u64 ((oY BB x y (oX BB x)).getD (x + 5 * y) 0).toNat) := w64_get _ _ (by omega)
          simp (disch := omega) only [go_sem, List.map_cons, List.map_nil, ↓reduceIte, Nat.reduceEqDiff, Nat.reduceAdd, Nat.reduceMul, reduceCtorEq, and_true, true_and, Nat.mul_one, Nat.zero_add, Bool.false_eq_true, decide_true, decide_false, not_false_eq_true, kont_eq, hf12, hf13, D6.cell, D6.frz, E6.cell, E6.frz, gb, ge, IntWalk.i64_in, bits_xor, bits_and, bits_cpl', m1, m2, m3, m4, m5, tn_cast]
          repeat (refine And.intro (by omega) ?_)
          refine ⟨5 - (y + 1), by omega, y + 1, by omega, rfl, by simp, D6.setc_ne _ hdne, ?_, K6.setc _ (.inr hk2)⟩
          have := E6.setc (x + 5 * y) (.int .u64 (BB.getD (x + 5 * y) 0 ^^^ (~~~ BB.getD ((x + 1) % 5 + 5 * y) 0 &&& BB.getD ((x + 2) % 5 + 5 * y) 0)).toNat)
          rw [w64_set _ _ (by omega)] at this
          exact this
        · have hy : y = 5 := by omega
          subst hy
          simp (disch := omega) only [go_sem, List.map_cons, List.map_nil, ↓reduceIte, Nat.reduceEqDiff, Nat.reduceAdd, Nat.reduceMul, reduceCtorEq, and_true, true_and, Nat.mul_one, Nat.zero_add, Bool.false_eq_true, decide_true, decide_false, not_false_eq_true, kont_eq, hf12, IntWalk.i64_in]
          exact ⟨5 - (x + 1), by omega, x + 1, by omega, rfl, by simp, D6, E6, K6⟩
      · have hx : x = 5 := by omega
        subst hx
        have lc : (oX BB 5).length = 25 := oX_len _ _
        have ge := w64_get (oX BB 5) 0 (by omega)
        have e0 : ((0 : Int)).toNat = 0 := rfl
        simp (disch := omega) only [go_sem, List.map_cons, List.map_nil, ↓reduceIte, Nat.reduceEqDiff, Nat.reduceAdd, Nat.reduceMul, reduceCtorEq, and_true, true_and, Nat.mul_one, Nat.zero_add, Bool.false_eq_true, decide_true, decide_false, not_false_eq_true, kont_eq, E5.cell, E5.frz, ge, bits_xor]
        repeat (refine And.intro (by omega) ?_)
        refine ⟨H2.size, hk2, rfl, ?_, K5.setc _ (.inr hk2)⟩
        have := E5.setc 0 (.int .u64 ((oX BB 5).getD 0 0 ^^^ cst).toNat)
        rw [w64_set _ _ (by omega)] at this
        have e : roundR a cst = (oX BB 5).set 0 ((oX BB 5).getD 0 0 ^^^ cst) := by rw [← hBB, ← hcl]; rfl
        rw [e]
        exact this
end Go.Mg

/- order: the law Nil. -/
import Derived.Test.YtamkbeibmhkciaaDoorMgT8
namespace Go.Mg
open Go Go.RowKit
set_option linter.unusedSimpArgs false
set_option linter.unusedVariables false
set_option maxRecDepth 100000
def c_nilT (ι : Ids) : S :=
  (.reg [.p (.t 85) (.mv (.v 7)), .p (.t 86) (.m (.ldn 2 (.v 8))), .e (.t 87) (.call (ι.f 269) [.t 85, .t 86]), .p (.t 88) (.mv (.t 87)), .gp (.t 89) (.t 88) true (.mv (.v 16)), .gp (.t 90) (.t 88) true
  (.cm .eql .i64 (.t 89) (.c (.int .i64 1))), .p (.t 91) (.pick (.t 88) (.t 90) (.c (.bool false))), .p (.t 92) (.mv (.t 91)), .gp (.t 93) (.t 92) true (.mv (.v 18)), .gp (.t 94) (.t 92) true (.cm .eql
  .i64 (.t 93) (.c (.int .i64 1))), .p (.t 95) (.pick (.t 92) (.t 94) (.c (.bool false))), .p (.t 96) (.mv (.t 95)), .gp (.t 97) (.t 96) true (.mv (.v 20)), .gp (.t 98) (.t 96) true (.not (.t 97)), .p
  (.t 99) (.pick (.t 96) (.t 98) (.c (.bool false))), .p (.t 100) (.mv (.t 99)), .gp (.t 101) (.t 100) true (.mv (.v 14)), .ge (.t 102) (.t 100) true (.call (ι.f 203) [.t 101]), .gp (.t 103) (.t 100)
  true (.cm .eql .i64 (.t 102) (.c (.int .i64 0))), .p (.t 104) (.pick (.t 100) (.t 103) (.c (.bool false))), .p (.t 105) (.mv (.t 104)), .gp (.t 106) (.t 105) true (.mv (.v 14)), .ge (.t 107) (.t 105)
  true (.call (ι.f 205) [.t 106]), .gp (.t 108) (.t 105) true (.m (.lenl (.t 107))), .gp (.t 109) (.t 105) true (.mv (.v 14)), .ge (.t 110) (.t 105) true (.call (ι.f 209) [.t 109]), .gp (.t 111) (.t
  105) true (.m (.lenl (.t 110))), .gp (.t 112) (.t 105) true (.ar .add .i64 (.t 108) (.t 111)), .gp (.t 113) (.t 105) true (.mv (.v 14)), .ge (.t 114) (.t 105) true (.call (ι.f 242) [.t 113]), .gp (.t
  115) (.t 105) true (.m (.lenl (.t 114))), .gp (.t 116) (.t 105) true (.ar .add .i64 (.t 112) (.t 115)), .gp (.t 117) (.t 105) true (.mv (.v 14)), .ge (.t 118) (.t 105) true (.call (ι.f 243) [.t 117]),
  .gp (.t 119) (.t 105) true (.m (.lenl (.t 118))), .gp (.t 120) (.t 105) true (.ar .add .i64 (.t 116) (.t 119)), .gp (.t 121) (.t 105) true (.mv (.v 14)), .ge (.t 122) (.t 105) true (.call (ι.f 244)
  [.t 121]), .gp (.t 123) (.t 105) true (.ar .add .i64 (.t 120) (.t 122)), .gp (.t 124) (.t 105) true (.cm .eql .i64 (.t 123) (.c (.int .i64 0))), .p (.t 125) (.pick (.t 105) (.t 124) (.c (.bool
  false))), .p (.t 126) (.mv (.t 125)), .gp (.t 127) (.t 126) true (.mv (.v 14)), .gp (.t 128) (.t 126) true (.mv (.v 1)), .ge (.t 129) (.t 126) true (.call (ι.f 206) [.t 127, .t 128]), .ge (.t 130) (.t
  126) true (.call (ι.f 133) [.t 129]), .p (.t 131) (.pick (.t 126) (.t 130) (.c (.bool false))), .p (.t 132) (.mv (.t 131)), .gp (.t 133) (.t 132) true (.mv (.v 14)), .gp (.t 134) (.t 132) true (.mv
  (.v 1)), .ge (.t 135) (.t 132) true (.call (ι.f 207) [.t 133, .t 134]), .ge (.t 136) (.t 132) true (.call (ι.f 133) [.t 135]), .p (.t 137) (.pick (.t 132) (.t 136) (.c (.bool false))), .p (.t 138)
  (.mv (.t 137)), .gp (.t 139) (.t 138) true (.mv (.v 14)), .gp (.t 140) (.t 138) true (.mv (.v 1)), .gp (.t 141) (.t 138) true (.mv (.v 2)), .ge (.t 142) (.t 138) true (.call (ι.f 208) [.t 139, .t 140,
  .t 141]), .gp (.t 143) (.t 138) true (.not (.t 142)), .p (.t 144) (.pick (.t 138) (.t 143) (.c (.bool false))), .p (.t 145) (.mv (.t 144)), .gp (.t 146) (.t 145) true (.mv (.v 14)), .ge (.t 147) (.t
  145) true (.call (ι.f 239) [.t 146]), .gp (.t 148) (.t 145) true (.m (.eqn .ptr false (.t 147))), .p (.t 149) (.pick (.t 145) (.t 148) (.c (.bool false))), .p (.t 150) (.mv (.t 149)), .gp (.t 151) (.t
  150) true (.mv (.v 14)), .ge (.t 152) (.t 150) true (.call (ι.f 240) [.t 151]), .gp (.t 153) (.t 150) true (.m (.eqn .ptr false (.t 152))), .p (.t 154) (.pick (.t 150) (.t 153) (.c (.bool false))), .p
  (.t 155) (.mv (.t 154)), .gp (.t 156) (.t 155) true (.mv (.v 14)), .ge (.t 157) (.t 155) true (.call (ι.f 232) [.t 156, .c (.pointer .none)]), .p (.t 158) (.pick (.t 155) (.t 157) (.c (.bool false))),
  .p (.t 159) (.mv (.t 158)), .gp (.t 160) (.t 159) true (.mv (.v 14)), .gp (.t 161) (.t 159) true (.mv (.v 7)), .ge (.t 162) (.t 159) true (.call (ι.f 232) [.t 160, .t 161]), .gp (.t 163) (.t 159) true
  (.not (.t 162)), .p (.t 164) (.pick (.t 159) (.t 163) (.c (.bool false))), .p (.t 165) (.mv (.t 164)), .gp (.t 166) (.t 165) true (.mv (.v 7)), .ge (.t 167) (.t 165) true (.call (ι.f 232) [.t 166, .c
  (.pointer .none)]), .gp (.t 168) (.t 165) true (.not (.t 167)), .p (.t 169) (.pick (.t 165) (.t 168) (.c (.bool false))), .p (.v 6) (.mv (.t 169))])
/- arbaclaw06.OrderNil -/
def c_lnil (ι : Ids) : S :=
  .seq (.reg [.e (.v 3) (.box (ι.t 263) (.v 0)), .p (.v 6) (.mv (.c (.bool false)))]) (.seq (.seq (.reg [.e (.t 21) (.call (ι.f 270) []), .p (.v 22) (.not (.t 21))]) (.ite (.v 22) (.seq (.reg [.p (.v 6)
  (.mv (.c (.bool false)))]) .ret) .skip)) (.seq (.reg [.p (.t 24) (.m (.ldn 4 (.v 3))), .e (.t 25) (.call (ι.f 268) [.t 24]), .p (.t 23) (.mv (.t 25)), .p (.t 26) (.ext (.t 23) 0), .p (.t 27) (.ext (.t
  23) 1), .e (.v 8) (.new (ι.t 246) #[.int .i64 0, .slice .none 0 0]), .p (.v 7) (.mv (.t 26)), .e .no (.stn 2 (.v 8) (.t 27))]) (.seq (.seq (.reg [.p (.t 28) (.mv (.v 7)), .p (.v 29) (.m (.eqn .ptr
  false (.t 28)))]) (.ite (.v 29) (.seq (.reg [.p (.v 6) (.mv (.c (.bool false)))]) .ret) .skip)) (.seq (.seq (.reg [.p (.t 30) (.mv (.v 7)), .e (.t 31) (.call (ι.f 209) [.t 30]), .p (.t 32) (.mv (.v
  7)), .e (.t 33) (.call (ι.f 242) [.t 32]), .p (.t 34) (.mv (.v 7)), .e (.t 35) (.call (ι.f 243) [.t 34]), .e (.v 36) (.bldF (ι.t 138) 1 3 [.t 31, .t 33, .t 35]), .p (.v 37) (.m (.lenl (.v 36))), .p
  (.v 38) (.mv (.c (.int .i64 0)))]) (.blk 0 (.loop (.seq (.reg [.p (.v 39) (.cm .lss .i64 (.v 38) (.v 37))]) (.seq (.ite (.v 39) .skip (.exit 0)) (.seq (.blk 1 (.seq (.reg [.p (.t 40) (.is 1 (.v 36)
  (.v 38)), .p (.t 41) (.ld (.t 40)), .p (.v 10) (.mv (.t 41))]) (.seq (.reg [.p (.t 42) (.mv (.v 10)), .p (.v 43) (.m (.lenl (.t 42))), .p (.v 44) (.mv (.c (.int .i64 0)))]) (.blk 2 (.loop (.seq (.reg
  [.p (.v 45) (.cm .lss .i64 (.v 44) (.v 43))]) (.seq (.ite (.v 45) .skip (.exit 2)) (.seq (.blk 3 (.seq (.reg [.p (.t 46) (.mv (.v 44)), .p (.v 11) (.mv (.t 46))]) (.reg [.p (.t 47) (.mv (.v 10)), .p
  (.t 48) (.mv (.v 11)), .p (.t 49) (.is 1 (.t 47) (.t 48)), .e .no (.st (.t 49) (.c (.int .i64 9)))]))) (.reg [.p (.t 50) (.ar .add .i64 (.v 44) (.c (.int .i64 1))), .p (.v 44) (.mv (.t 50))])))))))))
  (.reg [.p (.t 51) (.ar .add .i64 (.v 38) (.c (.int .i64 1))), .p (.v 38) (.mv (.t 51))]))))))) (.seq (.reg [.p (.t 52) (.mv (.v 7)), .e (.t 53) (.call (ι.f 205) [.t 52]), .p (.v 12) (.mv (.t 53))])
  (.seq (.seq (.reg [.p (.t 54) (.mv (.v 12)), .p (.v 55) (.m (.lenl (.t 54))), .p (.v 56) (.mv (.c (.int .i64 0)))]) (.blk 4 (.loop (.seq (.reg [.p (.v 57) (.cm .lss .i64 (.v 56) (.v 55))]) (.seq (.ite
  (.v 57) .skip (.exit 4)) (.seq (.blk 5 (.seq (.reg [.p (.t 58) (.mv (.v 56)), .p (.v 13) (.mv (.t 58))]) (.reg [.p (.t 59) (.mv (.v 12)), .p (.t 60) (.mv (.v 13)), .p (.t 61) (.m (.bld #[.int .i64 0,
  .int .i64 0] [(0, (1, .c (.int .i64 7))), (1, (1, .c (.int .i64 7)))])), .p (.t 62) (.is 2 (.t 59) (.t 60)), .e .no (.stn 2 (.t 62) (.t 61))]))) (.reg [.p (.t 63) (.ar .add .i64 (.v 56) (.c (.int .i64
  1))), .p (.v 56) (.mv (.t 63))]))))))) (.seq (.reg [.p (.v 14) (.mv (.c (.pointer .none)))]) (.seq (.reg [.p (.t 65) (.mv (.v 14)), .p (.t 66) (.mv (.v 1)), .p (.t 67) (.mv (.v 2)), .e (.t 68) (.call
  (ι.f 230) [.t 65, .t 66, .t 67]), .p (.t 64) (.mv (.t 68)), .p (.t 69) (.ext (.t 64) 0), .p (.t 70) (.ext (.t 64) 1), .p (.t 15) (.mv (.t 69)), .p (.v 16) (.mv (.t 70))]) (.seq (.reg [.p (.t 72) (.mv
  (.v 14)), .p (.t 73) (.mv (.v 1)), .p (.t 74) (.mv (.v 2)), .e (.t 75) (.call (ι.f 231) [.t 72, .t 73, .t 74]), .p (.t 71) (.mv (.t 75)), .p (.t 76) (.ext (.t 71) 0), .p (.t 77) (.ext (.t 71) 1), .p
  (.t 17) (.mv (.t 76)), .p (.v 18) (.mv (.t 77))]) (.seq (.reg [.p (.t 79) (.mv (.v 14)), .p (.t 80) (.mv (.v 1)), .p (.t 81) (.mv (.v 2)), .e (.t 82) (.call (ι.f 245) [.t 79, .t 80, .t 81]), .p (.t
  78) (.mv (.t 82)), .p (.t 83) (.ext (.t 78) 0), .p (.t 84) (.ext (.t 78) 1), .p (.t 19) (.mv (.t 83)), .p (.v 20) (.mv (.t 84))]) (.seq (c_nilT ι) .ret)))))))))))
def r_lnil : List RV := [.t 6]

structure NilC (P : Program) (ι : Ids) : Prop where
  wt : OWithSpec P ι (ι.f 230)
  wo : OWoutSpec P ι (ι.f 231)
  tops : OEndSpec P (ι.f 242) topO
  bots : OEndSpec P (ι.f 243) botO
  hg : OHgtSpec P ι (ι.f 244)
  eq : OEqSpec P (ι.f 232)
  prs : OPairsSpec P (ι.f 205)
  len : OLenSpec P (ι.f 203)
  em : BEmptySpec P (ι.f 133)
/-- v has n elements of k cells in an unmarked block between B and C -/
def RmS (k : Nat) (A : Hp) (v : Value) (n B C : Nat) : Prop := ∃ a c, v = .slice a n c ∧ (n = 0 ∨ ∃ b L, a = some ⟨b, 0, none⟩ ∧ B ≤ b ∧ b < C ∧ Bl A b L ∧ n * k ≤ L.length)
theorem RmS.ofS {A : Hp} {v : Value} {l : List Value} (h : OwS A v l) {B C : Nat} (hB : ∀ q, ownB v q → B ≤ q) (hC : A.size ≤ C) : RmS 1 A v l.length B C := by
  rcases h with ⟨rfl, rfl⟩ | ⟨b, c, L, rfl, h1, h2, hb, h3⟩
  · exact ⟨none, 0, rfl, .inl rfl⟩
  · exact ⟨_, c, rfl, .inr ⟨b, L, rfl, hB b rfl, Nat.lt_of_lt_of_le hb.lt hC, hb, by omega⟩⟩
theorem RmS.ofE {A : Hp} {v : Value} {l : List NP} (h : OwE nE 2 A v l) {B C : Nat} (hB : ∀ q, ownB v q → B ≤ q) (hC : A.size ≤ C) : RmS 2 A v l.length B C := by
  rcases h with ⟨rfl, rfl⟩ | ⟨b, c, L, rfl, h1, h2, hb, h3⟩
  · exact ⟨none, 0, rfl, .inl rfl⟩
  · exact ⟨_, c, rfl, .inr ⟨b, L, rfl, hB b rfl, Nat.lt_of_lt_of_le hb.lt hC, hb, by omega⟩⟩
theorem RmS.keep {k : Nat} {A A' : Hp} {v : Value} {n B C : Nat} (h : RmS k A v n B C) {W : Nat → Prop} (hk : Keep W A A') (hW : ∀ q, B ≤ q → q < C → ¬ W q) : RmS k A' v n B C := by
  obtain ⟨a, c, rfl, h | ⟨b, L, rfl, h1, h2, h3, h4⟩⟩ := h
  · exact ⟨a, c, rfl, .inl h⟩
  · exact ⟨_, c, rfl, .inr ⟨b, L, rfl, h1, h2, hk.bl h3 (hW b h1 h2), h4⟩⟩
theorem RmS.setc {k : Nat} {A : Hp} {v : Value} {n B C : Nat} (h : RmS k A v n B C) {b o : Nat} {x : Value} : RmS k (setc A ⟨b, o, none⟩ x) v n B C := by
  obtain ⟨a, c, rfl, h | ⟨d, L, rfl, h1, h2, h3, h4⟩⟩ := h
  · exact ⟨a, c, rfl, .inl h⟩
  · by_cases e : d = b
    · subst e
      exact ⟨_, c, rfl, .inr ⟨d, _, rfl, h1, h2, h3.setc o x, by simpa using h4⟩⟩
    · exact ⟨_, c, rfl, .inr ⟨d, L, rfl, h1, h2, h3.setc_ne x e, h4⟩⟩
theorem RmS.stNA {k : Nat} {A : Hp} {v : Value} {n B C : Nat} (h : RmS k A v n B C) {i : Nat} (hi : i < n) (xs : List Value) (hx : xs.length = k) : ∃ b c, v = .slice (some ⟨b, 0, none⟩) n c ∧ B ≤ b ∧ b < C ∧ okNA A ⟨b, i * k, none⟩ k ∧ RmS k (Mg.stNA A ⟨b, i * k, none⟩ xs) v n B C := by
  obtain ⟨a, c, rfl, h | ⟨d, L, rfl, h1, h2, h3, h4⟩⟩ := h
  · omega
  · have : i * k + k ≤ n * k := by
      rw [← Nat.succ_mul]; exact Nat.mul_le_mul_right k hi
    exact ⟨d, c, rfl, h1, h2, h3.okNA (by omega), _, c, rfl, .inr ⟨d, _, rfl, h1, h2, h3.stNA _ xs, by rw [wrL_len (by omega)]; exact h4⟩⟩
theorem RmS.cell {A : Hp} {v : Value} {n B C : Nat} (h : RmS 1 A v n B C) {i : Nat} (hi : i < n) : ∃ b c, v = .slice (some ⟨b, 0, none⟩) n c ∧ B ≤ b ∧ b < C ∧ (Mg.cell A ⟨b, i, none⟩).isSome = true ∧ frz A ⟨b, i, none⟩ = false := by
  obtain ⟨a, c, rfl, h | ⟨d, L, rfl, h1, h2, h3, h4⟩⟩ := h
  · omega
  · obtain ⟨g1, g2⟩ := h3.okSt (o := i) (by omega)
    exact ⟨d, c, rfl, h1, h2, g1, g2⟩
set_option maxHeartbeats 4000000 in
theorem nil_tail {P : Program} {ι : Ids} (c : LawC P ι) (e : NilC P ι) {n : Nat} {R : Nat → Nat → Bool} (hR : Rng n R) (a b : Int) {C : Hp} (hT : TabOk ι C) {ob b4 : Nat} {pv : Value} (ho : OrdO C (.pointer (some ⟨ob, 0, none⟩)) (some (n, R))) (ht : ROrd C (.agg #[.int .i64 (n : Int), pv]) n R)
    (B4 : Bl C b4 [.int .i64 (n : Int), pv]) (f : Fr) (h7 : f 7 = .pointer (some ⟨ob, 0, none⟩)) (h8 : f 8 = .pointer (some ⟨b4, 0, none⟩)) (h14 : f 14 = .pointer none) (h16 : f 16 = .int .i64 1) (h18 : f 18 = .int .i64 1) (h20 : f 20 = .bool false) (h1 : f 1 = .int .i64 a) (h2 : f 2 = .int .i64 b)
    (Q : Ex → Fr → Hp → Prop) (hQ : ∀ f' H', f' 6 = .bool true → Keep (fun _ => False) C H' → Q .n f' H') : vc P (c_nilT ι) Q f C := by
  have N0 : ∀ {X : Hp}, OrdO X (.pointer none) none := fun {X} => rfl
  have T5 : ∀ {X : Hp}, Keep (fun _ => False) C X → TabOk ι X := fun K => hT.keep K
  unfold c_nilT
  simp -implicitDefEqProofs only [go_sem, List.map_cons, List.map_nil, ↓reduceIte, Nat.reduceEqDiff, Nat.reduceAdd, Nat.reduceMul, reduceCtorEq, and_true, true_and, Nat.mul_one, Nat.zero_add, Bool.false_eq_true, decide_true, decide_false, not_false_eq_true, kont_eq, beq_self_eq_true, bne_self_eq_false, Int.reduceBEq, Int.reduceBNe, Int.cast_ofNat_Int, fillV_nil, fillV_cons, okFill_nil, okFill_cons, cells_slice, cells_int, cells_bool, cells_str, cells_ptr, cells_agg, stNH_ptr, okN_ptr, wrA1, wrA20, wrA21, h7, B4.ldNO 2 rfl, h8]
  have ho : OrdV C (.pointer (some ⟨ob, 0, none⟩)) n R := ho
  refine (c.is n R _ _ C hT ho ht).mono ?_
  rintro x C4 ⟨rfl, K4⟩
  rw [kont_eq]
  simp -implicitDefEqProofs only [go_sem, List.map_cons, List.map_nil, ↓reduceIte, Nat.reduceEqDiff, Nat.reduceAdd, Nat.reduceMul, reduceCtorEq, and_true, true_and, Nat.mul_one, Nat.zero_add, Bool.false_eq_true, decide_true, decide_false, not_false_eq_true, kont_eq, beq_self_eq_true, bne_self_eq_false, Int.reduceBEq, Int.reduceBNe, Int.cast_ofNat_Int, fillV_nil, fillV_cons, okFill_nil, okFill_cons, cells_slice, cells_int, cells_bool, cells_str, cells_ptr, cells_agg, stNH_ptr, okN_ptr, wrA1, wrA20, wrA21, Bool.not_false, h14, h16, h18, h20]
  refine (e.len none _ C4 N0).mono ?_
  rintro x C5 ⟨rfl, hC5⟩
  subst hC5
  have el0 : ((lenO none : Nat) : Int) = 0 := rfl
  have e00 : IntKind.i64.wrap (0 + 0) = 0 := by decide
  rw [kont_eq]
  simp -implicitDefEqProofs only [go_sem, List.map_cons, List.map_nil, ↓reduceIte, Nat.reduceEqDiff, Nat.reduceAdd, Nat.reduceMul, reduceCtorEq, and_true, true_and, Nat.mul_one, Nat.zero_add, Bool.false_eq_true, decide_true, decide_false, not_false_eq_true, kont_eq, beq_self_eq_true, bne_self_eq_false, Int.reduceBEq, Int.reduceBNe, Int.cast_ofNat_Int, fillV_nil, fillV_cons, okFill_nil, okFill_cons, cells_slice, cells_int, cells_bool, cells_str, cells_ptr, cells_agg, stNH_ptr, okN_ptr, wrA1, wrA20, wrA21, el0, h14]
  refine (e.prs none _ C5 N0).mono ?_
  rintro x C6 ⟨Ox, _, KC6⟩
  have K6 := K4.trans KC6
  have lx : lenV x = 0 := Ox.sl.len
  have sx := Ox.sl.isSl
  rw [kont_eq]
  simp -implicitDefEqProofs only [go_sem, List.map_cons, List.map_nil, ↓reduceIte, Nat.reduceEqDiff, Nat.reduceAdd, Nat.reduceMul, reduceCtorEq, and_true, true_and, Nat.mul_one, Nat.zero_add, Bool.false_eq_true, decide_true, decide_false, not_false_eq_true, kont_eq, beq_self_eq_true, bne_self_eq_false, Int.reduceBEq, Int.reduceBNe, Int.cast_ofNat_Int, fillV_nil, fillV_cons, okFill_nil, okFill_cons, cells_slice, cells_int, cells_bool, cells_str, cells_ptr, cells_agg, stNH_ptr, okN_ptr, wrA1, wrA20, wrA21, lx, sx, h14, tn_cast, Int.natCast_zero]
  refine (c.srt none _ C6 N0).mono ?_
  rintro x C7 ⟨Ox, _, KC7⟩
  have K7 := K6.trans KC7
  have lx : lenV x = 0 := Ox.sl.len
  have sx := Ox.sl.isSl
  rw [kont_eq]
  simp -implicitDefEqProofs only [go_sem, List.map_cons, List.map_nil, ↓reduceIte, Nat.reduceEqDiff, Nat.reduceAdd, Nat.reduceMul, reduceCtorEq, and_true, true_and, Nat.mul_one, Nat.zero_add, Bool.false_eq_true, decide_true, decide_false, not_false_eq_true, kont_eq, beq_self_eq_true, bne_self_eq_false, Int.reduceBEq, Int.reduceBNe, Int.cast_ofNat_Int, fillV_nil, fillV_cons, okFill_nil, okFill_cons, cells_slice, cells_int, cells_bool, cells_str, cells_ptr, cells_agg, stNH_ptr, okN_ptr, wrA1, wrA20, wrA21, lx, sx, e00, h14, Int.natCast_zero]
  refine (e.tops none _ C7 N0).mono ?_
  rintro x C8 ⟨Ox, _, KC8⟩
  have K8 := K7.trans KC8
  have lx : lenV x = 0 := Ox.sl.len
  have sx := Ox.sl.isSl
  rw [kont_eq]
  simp -implicitDefEqProofs only [go_sem, List.map_cons, List.map_nil, ↓reduceIte, Nat.reduceEqDiff, Nat.reduceAdd, Nat.reduceMul, reduceCtorEq, and_true, true_and, Nat.mul_one, Nat.zero_add, Bool.false_eq_true, decide_true, decide_false, not_false_eq_true, kont_eq, beq_self_eq_true, bne_self_eq_false, Int.reduceBEq, Int.reduceBNe, Int.cast_ofNat_Int, fillV_nil, fillV_cons, okFill_nil, okFill_cons, cells_slice, cells_int, cells_bool, cells_str, cells_ptr, cells_agg, stNH_ptr, okN_ptr, wrA1, wrA20, wrA21, lx, sx, e00, h14, Int.natCast_zero]
  refine (e.bots none _ C8 N0).mono ?_
  rintro x C9 ⟨Ox, _, KC9⟩
  have K9 := K8.trans KC9
  have lx : lenV x = 0 := Ox.sl.len
  have sx := Ox.sl.isSl
  rw [kont_eq]
  simp -implicitDefEqProofs only [go_sem, List.map_cons, List.map_nil, ↓reduceIte, Nat.reduceEqDiff, Nat.reduceAdd, Nat.reduceMul, reduceCtorEq, and_true, true_and, Nat.mul_one, Nat.zero_add, Bool.false_eq_true, decide_true, decide_false, not_false_eq_true, kont_eq, beq_self_eq_true, bne_self_eq_false, Int.reduceBEq, Int.reduceBNe, Int.cast_ofNat_Int, fillV_nil, fillV_cons, okFill_nil, okFill_cons, cells_slice, cells_int, cells_bool, cells_str, cells_ptr, cells_agg, stNH_ptr, okN_ptr, wrA1, wrA20, wrA21, lx, sx, e00, h14, Int.natCast_zero]
  refine (e.hg none _ C9 (T5 K9) N0).mono ?_
  rintro x CA ⟨rfl, KCA⟩
  have KA := K9.trans KCA
  have eh0 : ((hgtO none : Nat) : Int) = 0 := rfl
  rw [kont_eq]
  simp -implicitDefEqProofs only [go_sem, List.map_cons, List.map_nil, ↓reduceIte, Nat.reduceEqDiff, Nat.reduceAdd, Nat.reduceMul, reduceCtorEq, and_true, true_and, Nat.mul_one, Nat.zero_add, Bool.false_eq_true, decide_true, decide_false, not_false_eq_true, kont_eq, beq_self_eq_true, bne_self_eq_false, Int.reduceBEq, Int.reduceBNe, Int.cast_ofNat_Int, fillV_nil, fillV_cons, okFill_nil, okFill_cons, cells_slice, cells_int, cells_bool, cells_str, cells_ptr, cells_agg, stNH_ptr, okN_ptr, wrA1, wrA20, wrA21, eh0, e00, h14, h1]
  refine (c.abv none _ a CA N0).mono ?_
  rintro x CB ⟨⟨v, W, rfl, hV⟩, KCB, -⟩
  have KB := KA.trans KCB
  have hW : W = [] := hV.nil_iff.2 fun _ => rfl
  rw [kont_eq]
  simp -implicitDefEqProofs only [go_sem, List.map_cons, List.map_nil, ↓reduceIte, Nat.reduceEqDiff, Nat.reduceAdd, Nat.reduceMul, reduceCtorEq, and_true, true_and, Nat.mul_one, Nat.zero_add, Bool.false_eq_true, decide_true, decide_false, not_false_eq_true, kont_eq, beq_self_eq_true, bne_self_eq_false, Int.reduceBEq, Int.reduceBNe, Int.cast_ofNat_Int, fillV_nil, fillV_cons, okFill_nil, okFill_cons, cells_slice, cells_int, cells_bool, cells_str, cells_ptr, cells_agg, stNH_ptr, okN_ptr, wrA1, wrA20, wrA21]
  refine (e.em _ v W CB hV).mono ?_
  rintro x CC ⟨rfl, KCC⟩
  have KC := KB.trans KCC
  rw [kont_eq, decide_eq_true hW]
  simp -implicitDefEqProofs only [go_sem, List.map_cons, List.map_nil, ↓reduceIte, Nat.reduceEqDiff, Nat.reduceAdd, Nat.reduceMul, reduceCtorEq, and_true, true_and, Nat.mul_one, Nat.zero_add, Bool.false_eq_true, decide_true, decide_false, not_false_eq_true, kont_eq, beq_self_eq_true, bne_self_eq_false, Int.reduceBEq, Int.reduceBNe, Int.cast_ofNat_Int, fillV_nil, fillV_cons, okFill_nil, okFill_cons, cells_slice, cells_int, cells_bool, cells_str, cells_ptr, cells_agg, stNH_ptr, okN_ptr, wrA1, wrA20, wrA21, h14, h1]
  refine (c.blw none _ a CC N0).mono ?_
  rintro x CD ⟨⟨v, W, rfl, hV⟩, KCD, -⟩
  have KD := KC.trans KCD
  have hW : W = [] := hV.nil_iff.2 fun _ => rfl
  rw [kont_eq]
  simp -implicitDefEqProofs only [go_sem, List.map_cons, List.map_nil, ↓reduceIte, Nat.reduceEqDiff, Nat.reduceAdd, Nat.reduceMul, reduceCtorEq, and_true, true_and, Nat.mul_one, Nat.zero_add, Bool.false_eq_true, decide_true, decide_false, not_false_eq_true, kont_eq, beq_self_eq_true, bne_self_eq_false, Int.reduceBEq, Int.reduceBNe, Int.cast_ofNat_Int, fillV_nil, fillV_cons, okFill_nil, okFill_cons, cells_slice, cells_int, cells_bool, cells_str, cells_ptr, cells_agg, stNH_ptr, okN_ptr, wrA1, wrA20, wrA21]
  refine (e.em _ v W CD hV).mono ?_
  rintro x CE ⟨rfl, KCE⟩
  have KE := KD.trans KCE
  rw [kont_eq, decide_eq_true hW]
  simp -implicitDefEqProofs only [go_sem, List.map_cons, List.map_nil, ↓reduceIte, Nat.reduceEqDiff, Nat.reduceAdd, Nat.reduceMul, reduceCtorEq, and_true, true_and, Nat.mul_one, Nat.zero_add, Bool.false_eq_true, decide_true, decide_false, not_false_eq_true, kont_eq, beq_self_eq_true, bne_self_eq_false, Int.reduceBEq, Int.reduceBNe, Int.cast_ofNat_Int, fillV_nil, fillV_cons, okFill_nil, okFill_cons, cells_slice, cells_int, cells_bool, cells_str, cells_ptr, cells_agg, stNH_ptr, okN_ptr, wrA1, wrA20, wrA21, h14, h1, h2]
  refine (c.less none _ a b CE N0).mono ?_
  rintro x CF ⟨rfl, KCF⟩
  have KF := KE.trans KCF
  have em : memI (abvO none a) b = false := by simp [memI, abvO]
  rw [kont_eq]
  simp -implicitDefEqProofs only [go_sem, List.map_cons, List.map_nil, ↓reduceIte, Nat.reduceEqDiff, Nat.reduceAdd, Nat.reduceMul, reduceCtorEq, and_true, true_and, Nat.mul_one, Nat.zero_add, Bool.false_eq_true, decide_true, decide_false, not_false_eq_true, kont_eq, beq_self_eq_true, bne_self_eq_false, Int.reduceBEq, Int.reduceBNe, Int.cast_ofNat_Int, fillV_nil, fillV_cons, okFill_nil, okFill_cons, cells_slice, cells_int, cells_bool, cells_str, cells_ptr, cells_agg, stNH_ptr, okN_ptr, wrA1, wrA20, wrA21, em, Bool.not_false, h14]
  refine (c.rd none _ CF (T5 KF) N0).mono ?_
  rintro x CG ⟨hx, KCG⟩
  obtain rfl : x = .pointer none := hx
  have KG := KF.trans KCG
  rw [kont_eq]
  simp -implicitDefEqProofs only [go_sem, List.map_cons, List.map_nil, ↓reduceIte, Nat.reduceEqDiff, Nat.reduceAdd, Nat.reduceMul, reduceCtorEq, and_true, true_and, Nat.mul_one, Nat.zero_add, Bool.false_eq_true, decide_true, decide_false, not_false_eq_true, kont_eq, beq_self_eq_true, bne_self_eq_false, Int.reduceBEq, Int.reduceBNe, Int.cast_ofNat_Int, fillV_nil, fillV_cons, okFill_nil, okFill_cons, cells_slice, cells_int, cells_bool, cells_str, cells_ptr, cells_agg, stNH_ptr, okN_ptr, wrA1, wrA20, wrA21, h14]
  refine (c.cl none _ CG (T5 KG) N0).mono ?_
  rintro x CH ⟨hx, KCH⟩
  obtain rfl : x = .pointer none := hx
  have KH := KG.trans KCH
  rw [kont_eq]
  simp -implicitDefEqProofs only [go_sem, List.map_cons, List.map_nil, ↓reduceIte, Nat.reduceEqDiff, Nat.reduceAdd, Nat.reduceMul, reduceCtorEq, and_true, true_and, Nat.mul_one, Nat.zero_add, Bool.false_eq_true, decide_true, decide_false, not_false_eq_true, kont_eq, beq_self_eq_true, bne_self_eq_false, Int.reduceBEq, Int.reduceBNe, Int.cast_ofNat_Int, fillV_nil, fillV_cons, okFill_nil, okFill_cons, cells_slice, cells_int, cells_bool, cells_str, cells_ptr, cells_agg, stNH_ptr, okN_ptr, wrA1, wrA20, wrA21, h14]
  refine (e.eq none none _ _ CH N0 N0).mono ?_
  rintro x CI ⟨rfl, hCI⟩
  subst hCI
  have e1 : eqO none none = true := rfl
  have e2 : eqO none (some (n, R)) = false := rfl
  have e3 : eqO (some (n, R)) none = false := rfl
  have oI : OrdO CI (.pointer (some ⟨ob, 0, none⟩)) (some (n, R)) := ho.keep0 KH
  rw [kont_eq]
  simp -implicitDefEqProofs only [go_sem, List.map_cons, List.map_nil, ↓reduceIte, Nat.reduceEqDiff, Nat.reduceAdd, Nat.reduceMul, reduceCtorEq, and_true, true_and, Nat.mul_one, Nat.zero_add, Bool.false_eq_true, decide_true, decide_false, not_false_eq_true, kont_eq, beq_self_eq_true, bne_self_eq_false, Int.reduceBEq, Int.reduceBNe, Int.cast_ofNat_Int, fillV_nil, fillV_cons, okFill_nil, okFill_cons, cells_slice, cells_int, cells_bool, cells_str, cells_ptr, cells_agg, stNH_ptr, okN_ptr, wrA1, wrA20, wrA21, e1, h14, h7]
  refine (e.eq none (some (n, R)) _ _ CI N0 oI).mono ?_
  rintro x CJ ⟨rfl, hCJ⟩
  subst hCJ
  rw [kont_eq]
  simp -implicitDefEqProofs only [go_sem, List.map_cons, List.map_nil, ↓reduceIte, Nat.reduceEqDiff, Nat.reduceAdd, Nat.reduceMul, reduceCtorEq, and_true, true_and, Nat.mul_one, Nat.zero_add, Bool.false_eq_true, decide_true, decide_false, not_false_eq_true, kont_eq, beq_self_eq_true, bne_self_eq_false, Int.reduceBEq, Int.reduceBNe, Int.cast_ofNat_Int, fillV_nil, fillV_cons, okFill_nil, okFill_cons, cells_slice, cells_int, cells_bool, cells_str, cells_ptr, cells_agg, stNH_ptr, okN_ptr, wrA1, wrA20, wrA21, e2, Bool.not_false, h7]
  refine (e.eq (some (n, R)) none _ _ CJ oI N0).mono ?_
  rintro x CK ⟨rfl, hCK⟩
  subst hCK
  rw [kont_eq]
  simp -implicitDefEqProofs only [go_sem, List.map_cons, List.map_nil, ↓reduceIte, Nat.reduceEqDiff, Nat.reduceAdd, Nat.reduceMul, reduceCtorEq, and_true, true_and, Nat.mul_one, Nat.zero_add, Bool.false_eq_true, decide_true, decide_false, not_false_eq_true, kont_eq, beq_self_eq_true, bne_self_eq_false, Int.reduceBEq, Int.reduceBNe, Int.cast_ofNat_Int, fillV_nil, fillV_cons, okFill_nil, okFill_cons, cells_slice, cells_int, cells_bool, cells_str, cells_ptr, cells_agg, stNH_ptr, okN_ptr, wrA1, wrA20, wrA21, e3, Bool.not_false]
  exact hQ _ _ (by simp -implicitDefEqProofs only [go_sem, List.map_cons, List.map_nil, ↓reduceIte, Nat.reduceEqDiff, Nat.reduceAdd, Nat.reduceMul, reduceCtorEq, and_true, true_and, Nat.mul_one, Nat.zero_add, Bool.false_eq_true, decide_true, decide_false, not_false_eq_true, kont_eq]) KH
set_option maxHeartbeats 4000000 in
theorem lnil_ok {P : Program} {ι : Ids} {k : FuncId} (hk : FnIs P k (c_lnil ι) r_lnil 3) (c : LawC P ι) (e : NilC P ι) : Law3Spec P ι k := by
  intro r v a b H hT hv
  have hv0 := hv
  obtain ⟨rp, rfl, hp, hl⟩ := hv
  obtain ⟨Q, hQ⟩ : ∃ Q : Value → Hp → Prop, Q = fun x H' => x = .bool true ∧ Keep (fun _ => False) H H' := ⟨_, rfl⟩
  rw [← hQ]
  refine calls_of_vc hk (args := [_, _, _]) (by simp) ?_
  unfold c_lnil r_lnil
  simp -implicitDefEqProofs only [go_sem, List.map_cons, List.map_nil, ↓reduceIte, Nat.reduceEqDiff, Nat.reduceAdd, Nat.reduceMul, reduceCtorEq, and_true, true_and, Nat.mul_one, Nat.zero_add, Bool.false_eq_true, decide_true, decide_false, not_false_eq_true]
  refine kont_new fun H1 b1 e1 z1 B1 K1 => ?_
  have s1 := K1.size
  have B1' : Bl H1 b1 [.int .u8 (r.N : Int), .int .u8 (r.T : Int), .int .u8 (r.A : Int), rp] := B1
  simp -implicitDefEqProofs only [go_sem, List.map_cons, List.map_nil, ↓reduceIte, Nat.reduceEqDiff, Nat.reduceAdd, Nat.reduceMul, reduceCtorEq, and_true, true_and, Nat.mul_one, Nat.zero_add, Bool.false_eq_true, decide_true, decide_false, not_false_eq_true, kont_eq]
  refine (c.awk H1 (hT.keep K1)).mono ?_
  rintro x H2 ⟨rfl, K2⟩
  have B2 := K2.bl B1' (by simp)
  have K02 := K1.trans K2
  rw [kont_eq]
  simp -implicitDefEqProofs only [go_sem, List.map_cons, List.map_nil, ↓reduceIte, Nat.reduceEqDiff, Nat.reduceAdd, Nat.reduceMul, reduceCtorEq, and_true, true_and, Nat.mul_one, Nat.zero_add, Bool.false_eq_true, decide_true, decide_false, not_false_eq_true, kont_eq, B2.ldNO 4 rfl]
  refine (c.mak r _ H2 (hT.keep K02) (hv0.keep0 K02)).mono ?_
  rintro x H3 ⟨ov, tv, rfl, ho, ht, _, _, K3⟩
  have K03 := K02.trans K3
  obtain ⟨ob, rfl⟩ := ptr_of ho
  have ht0 := ht
  obtain ⟨hn, hR, pv, rfl, hpv⟩ := ht
  have hA := ho.2.2.1
  have hsz := szR_lt r
  obtain ⟨n, hne⟩ : ∃ n, n = szR r := ⟨_, rfl⟩
  obtain ⟨R, hRe⟩ : ∃ R, R = relF r := ⟨_, rfl⟩
  rw [← hne, ← hRe] at ho ht0 hpv hR
  rw [← hRe] at hA
  rw [← hne] at hsz hn
  rw [kont_eq]
  simp -implicitDefEqProofs only [go_sem, List.map_cons, List.map_nil, ↓reduceIte, Nat.reduceEqDiff, Nat.reduceAdd, Nat.reduceMul, reduceCtorEq, and_true, true_and, Nat.mul_one, Nat.zero_add, Bool.false_eq_true, decide_true, decide_false, not_false_eq_true, fillV_nil, fillV_cons, okFill_nil, okFill_cons, cells_slice, cells_int, cells_bool, cells_str, cells_ptr, cells_agg, stNH_ptr, okN_ptr, wrA1, wrA20, wrA21]
  refine kont_new fun H4 b4 e4 z4 B4 K4 => ?_
  have s4 := K4.size
  have hst4 := B4.okNA (o := 0) (n := 2) (by simp)
  have B5 : Bl (stNA H4 ⟨b4, 0, none⟩ [.int .i64 (n : Int), pv]) b4 [.int .i64 (n : Int), pv] := B4.stNA 0 [.int .i64 (n : Int), pv]
  have K5 : Keep (fun q => q = b4) H4 (stNA H4 ⟨b4, 0, none⟩ [.int .i64 (n : Int), pv]) := (Keep.refl _ _).stNA _ (.inl rfl)
  have hsl := hpv.isSl
  have ha4 : all1 #[Value.int .i64 (n : Int), pv] := fun u hu => by
    simp at hu
    rcases hu with rfl | rfl
    · rfl
    · cases u <;> first | rfl | exact hsl.elim
  simp -implicitDefEqProofs only [go_sem, List.map_cons, List.map_nil, ↓reduceIte, Nat.reduceEqDiff, Nat.reduceAdd, Nat.reduceMul, reduceCtorEq, and_true, true_and, Nat.mul_one, Nat.zero_add, Bool.false_eq_true, decide_true, decide_false, not_false_eq_true, fillV_nil, fillV_cons, okFill_nil, okFill_cons, cells_slice, cells_int, cells_bool, cells_str, cells_ptr, cells_agg, stNH_ptr, okN_ptr, wrA1, wrA20, wrA21, hst4, ← hne]
  refine ⟨ha4, ?_⟩
  rw [kont_eq]
  generalize stNA H4 ⟨b4, 0, none⟩ [.int .i64 (n : Int), pv] = H5 at B5 K5 ⊢
  have K35 : Keep (fun _ => False) H3 H5 := K4.to_old K5 (by omega)
  have K05 := K03.trans K35
  have hT5 := hT.keep K05
  have oo : ∀ {A : Hp}, Keep (fun _ => False) H5 A → OrdO A (.pointer (some ⟨ob, 0, none⟩)) (some (n, R)) := fun K => OrdO.keep0 (o := some (n, R)) ho (K35.trans K)
  have tt : ∀ {A : Hp}, Keep (fun _ => False) H5 A → ROrd A (.agg #[.int .i64 (n : Int), pv]) n R := fun K => ht0.keep0 (K35.trans K)
  simp -implicitDefEqProofs only [go_sem, List.map_cons, List.map_nil, ↓reduceIte, Nat.reduceEqDiff, Nat.reduceAdd, Nat.reduceMul, reduceCtorEq, and_true, true_and, Nat.mul_one, Nat.zero_add, Bool.false_eq_true, decide_true, decide_false, not_false_eq_true, kont_eq]
  refine (c.srt (some (n, R)) _ H5 (oo (Keep.refl _ _))).mono ?_
  rintro u0 H6 ⟨O0, o0, K6⟩
  have s6 := K6.size
  rw [kont_eq]
  simp -implicitDefEqProofs only [go_sem, List.map_cons, List.map_nil, ↓reduceIte, Nat.reduceEqDiff, Nat.reduceAdd, Nat.reduceMul, reduceCtorEq, and_true, true_and, Nat.mul_one, Nat.zero_add, Bool.false_eq_true, decide_true, decide_false, not_false_eq_true, kont_eq]
  refine (e.tops (some (n, R)) _ H6 (oo K6)).mono ?_
  rintro u1 H7 ⟨O1, o1, K7⟩
  have s7 := K7.size
  have K57 := K6.trans K7
  rw [kont_eq]
  simp -implicitDefEqProofs only [go_sem, List.map_cons, List.map_nil, ↓reduceIte, Nat.reduceEqDiff, Nat.reduceAdd, Nat.reduceMul, reduceCtorEq, and_true, true_and, Nat.mul_one, Nat.zero_add, Bool.false_eq_true, decide_true, decide_false, not_false_eq_true, kont_eq]
  refine (e.bots (some (n, R)) _ H7 (oo K57)).mono ?_
  rintro u2 H8 ⟨O2, o2, K8⟩
  have s8 := K8.size
  have K58 := K57.trans K8
  have R0 : RmS 1 H8 u0 (iN (srtO (some (n, R)))).length H5.size H8.size := RmS.ofS (O0.keep (K7.trans K8) (by simp)) o0 (Nat.le_refl _)
  have R1 : RmS 1 H8 u1 (iN (topO (some (n, R)))).length H5.size H8.size := RmS.ofS (O1.keep K8 (by simp)) (fun q hq => by have := o1 q hq; omega) (Nat.le_refl _)
  have R2 : RmS 1 H8 u2 (iN (botO (some (n, R)))).length H5.size H8.size := RmS.ofS O2 (fun q hq => by have := o2 q hq; omega) (Nat.le_refl _)
  obtain ⟨us, hus⟩ : ∃ us : List Value, us = [u0, u1, u2] := ⟨_, rfl⟩
  have hRR : ∀ i < 3, ∃ m, m ≤ 1000000 ∧ RmS 1 H8 (us.getD i undef) m H5.size H8.size := by
    have l0 : (iN (srtO (some (n, R)))).length ≤ 1000000 := by
      rw [iN_len]
      have := (srt_pre hR).nd
      have h2 := nodup_cn this (srt_pre hR).lt
      have h3 := cn_le n fun k => decide (k ∈ srt n R)
      show (srt n R).length ≤ 1000000
      omega
    have le : ∀ ps, (iN (emptyL n ps)).length ≤ 1000000 := fun ps => by
      rw [iN_len]
      have := List.length_filter_le (fun i => emB (ps i)) (List.range n)
      rw [List.length_range] at this
      unfold emptyL
      omega
    intro i hi
    rw [hus]
    have : i = 0 ∨ i = 1 ∨ i = 2 := by omega
    rcases this with rfl | rfl | rfl
    · exact ⟨_, l0, R0⟩
    · exact ⟨_, le _, R1⟩
    · exact ⟨_, le _, R2⟩
  obtain ⟨a0, n0, c0, rfl⟩ := O0.shape
  obtain ⟨a1, n1, c1, rfl⟩ := O1.shape
  obtain ⟨a2, n2, c2, rfl⟩ := O2.shape
  rw [kont_eq]
  simp -implicitDefEqProofs only [go_sem, List.map_cons, List.map_nil, ↓reduceIte, Nat.reduceEqDiff, Nat.reduceAdd, Nat.reduceMul, reduceCtorEq, and_true, true_and, Nat.mul_one, Nat.zero_add, Bool.false_eq_true, decide_true, decide_false, not_false_eq_true, fillV_nil, fillV_cons, okFill_nil, okFill_cons, cells_slice, cells_int, cells_bool, cells_str, cells_ptr, cells_agg, stNH_ptr, okN_ptr, wrA1, wrA20, wrA21]
  refine kont_news fun H9 b9 e9 z9 B9 K9 => ?_
  have s9 := K9.size
  have B9' : Bl H9 b9 us := by rw [hus]; exact B9
  have hus3 : us.length = 3 := by rw [hus]; rfl
  clear hus B9 O0 O1 O2 R0 R1 R2
  simp -implicitDefEqProofs only [go_sem, List.map_cons, List.map_nil, ↓reduceIte, Nat.reduceEqDiff, Nat.reduceAdd, Nat.reduceMul, reduceCtorEq, and_true, true_and, Nat.mul_one, Nat.zero_add, Bool.false_eq_true, decide_true, decide_false, not_false_eq_true, kont_eq]
  refine vc_loop [39, 10, 43, 44, 45, 11, 38] rfl (fun m f A => ∃ i : Nat, i ≤ 3 ∧ m = 3 - i ∧ f 38 = .int .i64 i ∧ Bl A b9 us ∧ (∀ i < 3, ∃ m, m ≤ 1000000 ∧ RmS 1 A (us.getD i undef) m H5.size H8.size) ∧ Keep (fun q => H5.size ≤ q) H5 A) 3 ?_ ?_
  · exact ⟨0, by omega, by omega, by simp -implicitDefEqProofs only [go_sem, List.map_cons, List.map_nil, ↓reduceIte, Nat.reduceEqDiff, Nat.reduceAdd, Nat.reduceMul, reduceCtorEq, and_true, true_and, Nat.mul_one, Nat.zero_add, Bool.false_eq_true, decide_true, decide_false, not_false_eq_true, kont_eq]; rfl, B9', fun i hi => by
      obtain ⟨m, hm, h⟩ := hRR i hi
      exact ⟨m, hm, h.keep K9 (by simp)⟩, ((K58.trans K9).mono fun _ _ h => h.elim)⟩
  rintro m f A ⟨i, hi, rfl, hf38, BA, RA, KA⟩
  have sA := KA.size
  simp -implicitDefEqProofs only [go_sem, List.map_cons, List.map_nil, ↓reduceIte, Nat.reduceEqDiff, Nat.reduceAdd, Nat.reduceMul, reduceCtorEq, and_true, true_and, Nat.mul_one, Nat.zero_add, Bool.false_eq_true, decide_true, decide_false, not_false_eq_true, kont_eq] at hf38
  simp -implicitDefEqProofs only [go_sem, List.map_cons, List.map_nil, ↓reduceIte, Nat.reduceEqDiff, Nat.reduceAdd, Nat.reduceMul, reduceCtorEq, and_true, true_and, Nat.mul_one, Nat.zero_add, Bool.false_eq_true, decide_true, decide_false, not_false_eq_true, hf38]
  refine iteV_dec (fun hlt => ?_) (fun hge => ?_)
  · have hi3 : i < 3 := by omega
    have BS := SlR.bl BA 0 3 3 (by omega) (by omega)
    have cA : cell A ⟨b9, i, none⟩ = some (us.getD i undef) := by
      rw [BA.cell, List.getElem?_eq_getElem (by omega), List.getD_eq_getElem?_getD, List.getElem?_eq_getElem (by omega)]; rfl
    obtain ⟨m, hm, hRi⟩ := RA i hi3
    have hRi0 := hRi
    obtain ⟨av, cv, hve, -⟩ := hRi
    simp -implicitDefEqProofs (disch := omega) only [go_sem, List.map_cons, List.map_nil, ↓reduceIte, Nat.reduceEqDiff, Nat.reduceAdd, Nat.reduceMul, reduceCtorEq, and_true, true_and, Nat.mul_one, Nat.zero_add, Bool.false_eq_true, decide_true, decide_false, not_false_eq_true, kont_eq, hf38, tn_cast, cA, hve]
    refine ⟨by omega, ?_⟩
    refine vc_loop [45, 11, 44] rfl (fun q f A => ∃ j : Nat, j ≤ m ∧ q = m - j ∧ f 44 = .int .i64 j ∧ Bl A b9 us ∧ (∀ i < 3, ∃ m, m ≤ 1000000 ∧ RmS 1 A (us.getD i undef) m H5.size H8.size) ∧ RmS 1 A (us.getD i undef) m H5.size H8.size ∧ Keep (fun q => H5.size ≤ q) H5 A) m ?_ ?_
    · exact ⟨0, by omega, by omega, by simp -implicitDefEqProofs only [go_sem, List.map_cons, List.map_nil, ↓reduceIte, Nat.reduceEqDiff, Nat.reduceAdd, Nat.reduceMul, reduceCtorEq, and_true, true_and, Nat.mul_one, Nat.zero_add, Bool.false_eq_true, decide_true, decide_false, not_false_eq_true, kont_eq]; rfl, BA, RA, hRi0, KA⟩
    rintro q g C ⟨j, hj, rfl, hg44, BC, RC, hRj, KC⟩
    have sC := KC.size
    simp -implicitDefEqProofs only [go_sem, List.map_cons, List.map_nil, ↓reduceIte, Nat.reduceEqDiff, Nat.reduceAdd, Nat.reduceMul, reduceCtorEq, and_true, true_and, Nat.mul_one, Nat.zero_add, Bool.false_eq_true, decide_true, decide_false, not_false_eq_true, kont_eq] at hg44
    simp -implicitDefEqProofs only [go_sem, List.map_cons, List.map_nil, ↓reduceIte, Nat.reduceEqDiff, Nat.reduceAdd, Nat.reduceMul, reduceCtorEq, and_true, true_and, Nat.mul_one, Nat.zero_add, Bool.false_eq_true, decide_true, decide_false, not_false_eq_true, hg44]
    refine iteV_dec (fun hlt2 => ?_) (fun hge2 => ?_)
    · obtain ⟨b, c, hbe, hb1, hb2, hce, hfz⟩ := hRj.cell (i := j) (by omega)
      rw [hve] at hbe
      simp only [Value.slice.injEq, true_and] at hbe
      obtain ⟨rfl, rfl⟩ := hbe
      have h9 : b ≠ b9 := by omega
      simp -implicitDefEqProofs (disch := omega) only [go_sem, List.map_cons, List.map_nil, ↓reduceIte, Nat.reduceEqDiff, Nat.reduceAdd, Nat.reduceMul, reduceCtorEq, and_true, true_and, Nat.mul_one, Nat.zero_add, Bool.false_eq_true, decide_true, decide_false, not_false_eq_true, kont_eq, fillV_nil, fillV_cons, okFill_nil, okFill_cons, cells_slice, cells_int, cells_bool, cells_str, cells_ptr, cells_agg, stNH_ptr, okN_ptr, wrA1, wrA20, wrA21, hg44, tn_cast, hce, hfz, IntWalk.i64_in, Nat.zero_add, Nat.mul_one]
      exact ⟨by omega, m - (j + 1), by omega, j + 1, by omega, rfl, rfl, BC.setc_ne _ (fun e => h9 e.symm), fun i hi => by
        obtain ⟨m, hm, h⟩ := RC i hi
        exact ⟨m, hm, h.setc⟩, hRj.setc, KC.setc _ (.inl hb1)⟩
    · simp -implicitDefEqProofs (disch := omega) only [go_sem, List.map_cons, List.map_nil, ↓reduceIte, Nat.reduceEqDiff, Nat.reduceAdd, Nat.reduceMul, reduceCtorEq, and_true, true_and, Nat.mul_one, Nat.zero_add, Bool.false_eq_true, decide_true, decide_false, not_false_eq_true, kont_eq, hf38, IntWalk.i64_in]
      exact ⟨3 - (i + 1), by omega, i + 1, by omega, rfl, rfl, BC, RC, KC⟩
  · have K5A : Keep (fun _ => False) H5 A := (Keep.refl (fun _ => False) H5).trans' KA fun q hq h => by omega
    refine (e.prs (some (n, R)) _ A (oo K5A)).mono ?_
    rintro vp HA ⟨OA, oA, KA1⟩
    have sA1 := KA1.size
    have RP := RmS.ofE OA oA (Nat.le_refl HA.size)
    have hpl : (prsO (some (n, R))).length ≤ 65536 := prsO_len (oo K5A)
    obtain ⟨np, hnp⟩ : ∃ np, np = (prsO (some (n, R))).length := ⟨_, rfl⟩
    rw [← hnp] at RP hpl
    have K5B := K5A.trans KA1
    have RP0 := RP
    obtain ⟨ap, cp, rfl, -⟩ := RP
    rw [kont_eq]
    simp -implicitDefEqProofs only [go_sem, List.map_cons, List.map_nil, ↓reduceIte, Nat.reduceEqDiff, Nat.reduceAdd, Nat.reduceMul, reduceCtorEq, and_true, true_and, Nat.mul_one, Nat.zero_add, Bool.false_eq_true, decide_true, decide_false, not_false_eq_true, kont_eq]
    refine vc_loop [57, 13, 56] rfl (fun q f B => ∃ j : Nat, j ≤ np ∧ q = np - j ∧ f 56 = .int .i64 j ∧ RmS 2 B (.slice ap np cp) np A.size HA.size ∧ Keep (fun q => A.size ≤ q) HA B) np ?_ ?_
    · exact ⟨0, by omega, by omega, by simp -implicitDefEqProofs only [go_sem, List.map_cons, List.map_nil, ↓reduceIte, Nat.reduceEqDiff, Nat.reduceAdd, Nat.reduceMul, reduceCtorEq, and_true, true_and, Nat.mul_one, Nat.zero_add, Bool.false_eq_true, decide_true, decide_false, not_false_eq_true, kont_eq]; rfl, RP0, Keep.refl _ _⟩
    rintro q g C ⟨j, hj, rfl, hg56, hRj, KC⟩
    have sC := KC.size
    simp -implicitDefEqProofs only [go_sem, List.map_cons, List.map_nil, ↓reduceIte, Nat.reduceEqDiff, Nat.reduceAdd, Nat.reduceMul, reduceCtorEq, and_true, true_and, Nat.mul_one, Nat.zero_add, Bool.false_eq_true, decide_true, decide_false, not_false_eq_true, kont_eq] at hg56
    simp -implicitDefEqProofs only [go_sem, List.map_cons, List.map_nil, ↓reduceIte, Nat.reduceEqDiff, Nat.reduceAdd, Nat.reduceMul, reduceCtorEq, and_true, true_and, Nat.mul_one, Nat.zero_add, Bool.false_eq_true, decide_true, decide_false, not_false_eq_true, hg56]
    refine iteV_dec (fun hlt2 => ?_) (fun hge2 => ?_)
    · obtain ⟨b, c, hbe, hb1, hb2, hok, hR'⟩ := hRj.stNA (i := j) (by omega) [.int .i64 7, .int .i64 7] rfl
      simp only [Value.slice.injEq, true_and] at hbe
      obtain ⟨rfl, rfl⟩ := hbe
      have ha7 : all1 #[Value.int .i64 7, Value.int .i64 7] := fun u hu => by simp at hu; rcases hu with rfl | rfl <;> rfl
      simp -implicitDefEqProofs (disch := omega) only [go_sem, List.map_cons, List.map_nil, ↓reduceIte, Nat.reduceEqDiff, Nat.reduceAdd, Nat.reduceMul, reduceCtorEq, and_true, true_and, Nat.mul_one, Nat.zero_add, Bool.false_eq_true, decide_true, decide_false, not_false_eq_true, kont_eq, fillV_nil, fillV_cons, okFill_nil, okFill_cons, cells_slice, cells_int, cells_bool, cells_str, cells_ptr, cells_agg, stNH_ptr, okN_ptr, wrA1, wrA20, wrA21, hg56, tn_cast, hok, IntWalk.i64_in, Nat.zero_add]
      exact ⟨by omega, by omega, ha7, np - (j + 1), by omega, j + 1, by omega, rfl, rfl, hR', KC.stNA _ (.inl hb1)⟩
    have K5C : Keep (fun _ => False) H5 C := K5B.trans' KC fun q hq h => by omega
    have T5 : ∀ {X : Hp}, Keep (fun _ => False) C X → TabOk ι X := fun K => hT5.keep (K5C.trans K)
    have N0 : ∀ {X : Hp}, OrdO X (.pointer none) none := fun {X} => rfl
    refine (e.wt none _ a b C (T5 (Keep.refl _ _)) N0).mono ?_
    rintro x C1 ⟨hx, KC1, -⟩
    obtain rfl : x = .tuple #[.pointer none, .int .i64 1] := by
      rcases hx with ⟨_, h⟩ | ⟨_, _, h, _⟩
      · exact h
      · cases h
    rw [kont_eq]
    simp -implicitDefEqProofs only [go_sem, List.map_cons, List.map_nil, ↓reduceIte, Nat.reduceEqDiff, Nat.reduceAdd, Nat.reduceMul, reduceCtorEq, and_true, true_and, Nat.mul_one, Nat.zero_add, Bool.false_eq_true, decide_true, decide_false, not_false_eq_true, kont_eq]
    refine (e.wo none _ a b C1 (T5 KC1) N0).mono ?_
    rintro x C2 ⟨hx, KC2, -⟩
    obtain rfl : x = .tuple #[.pointer none, .int .i64 1] := by
      rcases hx with ⟨_, h⟩ | ⟨_, _, h, _⟩
      · exact h
      · cases h
    have K2 := KC1.trans KC2
    rw [kont_eq]
    simp -implicitDefEqProofs only [go_sem, List.map_cons, List.map_nil, ↓reduceIte, Nat.reduceEqDiff, Nat.reduceAdd, Nat.reduceMul, reduceCtorEq, and_true, true_and, Nat.mul_one, Nat.zero_add, Bool.false_eq_true, decide_true, decide_false, not_false_eq_true, kont_eq]
    refine (c.pt none _ a b C2 N0).mono ?_
    rintro x C3 ⟨w, rfl, _, KC3⟩
    have K3' := K2.trans KC3
    rw [kont_eq]
    have en : (pthO none a b).isSome = false := rfl
    simp -implicitDefEqProofs only [go_sem, List.map_cons, List.map_nil, ↓reduceIte, Nat.reduceEqDiff, Nat.reduceAdd, Nat.reduceMul, reduceCtorEq, and_true, true_and, Nat.mul_one, Nat.zero_add, Bool.false_eq_true, decide_true, decide_false, not_false_eq_true, kont_eq, fillV_nil, fillV_cons, okFill_nil, okFill_cons, cells_slice, cells_int, cells_bool, cells_str, cells_ptr, cells_agg, stNH_ptr, okN_ptr, wrA1, wrA20, wrA21, en]
    refine nil_tail (ι := ι) c e hR a b (C := C3) (T5 K3') (oo (K5C.trans K3')) (tt (K5C.trans K3')) ((K5C.trans K3').bl B5 (by simp)) _ (by simp -implicitDefEqProofs only [go_sem, List.map_cons, List.map_nil, ↓reduceIte, Nat.reduceEqDiff, Nat.reduceAdd, Nat.reduceMul, reduceCtorEq, and_true, true_and, Nat.mul_one, Nat.zero_add, Bool.false_eq_true, decide_true, decide_false, not_false_eq_true, kont_eq]) (by simp -implicitDefEqProofs only [go_sem, List.map_cons, List.map_nil, ↓reduceIte, Nat.reduceEqDiff, Nat.reduceAdd, Nat.reduceMul, reduceCtorEq, and_true, true_and, Nat.mul_one, Nat.zero_add, Bool.false_eq_true, decide_true, decide_false, not_false_eq_true, kont_eq]) (by simp -implicitDefEqProofs only [go_sem, List.map_cons, List.map_nil, ↓reduceIte, Nat.reduceEqDiff, Nat.reduceAdd, Nat.reduceMul, reduceCtorEq, and_true, true_and, Nat.mul_one, Nat.zero_add, Bool.false_eq_true, decide_true, decide_false, not_false_eq_true, kont_eq]) (by simp -implicitDefEqProofs only [go_sem, List.map_cons, List.map_nil, ↓reduceIte, Nat.reduceEqDiff, Nat.reduceAdd, Nat.reduceMul, reduceCtorEq, and_true, true_and, Nat.mul_one, Nat.zero_add, Bool.false_eq_true, decide_true, decide_false, not_false_eq_true, kont_eq]) (by simp -implicitDefEqProofs only [go_sem, List.map_cons, List.map_nil, ↓reduceIte, Nat.reduceEqDiff, Nat.reduceAdd, Nat.reduceMul, reduceCtorEq, and_true, true_and, Nat.mul_one, Nat.zero_add, Bool.false_eq_true, decide_true, decide_false, not_false_eq_true, kont_eq]) (by simp -implicitDefEqProofs only [go_sem, List.map_cons, List.map_nil, ↓reduceIte, Nat.reduceEqDiff, Nat.reduceAdd, Nat.reduceMul, reduceCtorEq, and_true, true_and, Nat.mul_one, Nat.zero_add, Bool.false_eq_true, decide_true, decide_false, not_false_eq_true, kont_eq]) (by simp -implicitDefEqProofs only [go_sem, List.map_cons, List.map_nil, ↓reduceIte, Nat.reduceEqDiff, Nat.reduceAdd, Nat.reduceMul, reduceCtorEq, and_true, true_and, Nat.mul_one, Nat.zero_add, Bool.false_eq_true, decide_true, decide_false, not_false_eq_true, kont_eq]) (by simp -implicitDefEqProofs only [go_sem, List.map_cons, List.map_nil, ↓reduceIte, Nat.reduceEqDiff, Nat.reduceAdd, Nat.reduceMul, reduceCtorEq, and_true, true_and, Nat.mul_one, Nat.zero_add, Bool.false_eq_true, decide_true, decide_false, not_false_eq_true, kont_eq]) _ fun f' HZ hf6 KZ => ?_
    simp -implicitDefEqProofs only [go_sem, List.map_cons, List.map_nil, ↓reduceIte, Nat.reduceEqDiff, Nat.reduceAdd, Nat.reduceMul, reduceCtorEq, and_true, true_and, Nat.mul_one, Nat.zero_add, Bool.false_eq_true, decide_true, decide_false, not_false_eq_true, kont_eq, hf6]
    rw [hQ]
    exact ⟨rfl, (K05.trans K5C).trans (K3'.trans KZ)⟩
end Go.Mg

/- matching: the law about refused graphs. -/
import Derived.Test.YtihlnbepcimnfaaDoorMgM17
namespace Go.Mg
open Go Go.RowKit
set_option linter.unusedSimpArgs false
set_option linter.unusedVariables false
set_option maxRecDepth 100000
/- arbaclaw09.MatchingErrs -/
def c_lerrs (ι : Ids) : S :=
  .seq (.reg [.p (.v 6) (.mv (.c (.bool false)))]) (.seq (.seq (.reg [.e (.t 23) (.call (ι.f 174) []), .p (.v 24) (.not (.t 23))]) (.ite (.v 24) (.seq (.reg [.p (.v 6) (.mv (.c (.bool false)))]) .ret)
  .skip)) (.seq (.reg [.p (.t 25) (.mv (.v 0)), .e (.t 26) (.call (ι.f 168) [.t 25]), .e (.t 27) (.call (ι.f 167) [.t 26]), .p (.v 7) (.mv (.t 27))]) (.seq (.reg [.p (.t 28) (.mv (.v 1)), .p (.t 29)
  (.dv .rem .u16 (.t 28) (.c (.int .u16 4096))), .p (.t 30) (.ii .i64 (.t 29)), .p (.t 31) (.mv (.v 2)), .p (.t 32) (.dv .rem .u16 (.t 31) (.c (.int .u16 300))), .p (.t 33) (.ii .i64 (.t 32)), .p (.v 8)
  (.mv (.t 30)), .p (.v 9) (.mv (.t 33))]) (.seq (.reg [.p (.t 34) (.mv (.v 7)), .p (.t 35) (.mv (.v 8)), .e (.t 36) (.bldF (ι.t 26) 1 1 [.t 35]), .e (.t 37) (.call (ι.f 143) [.t 36]), .e (.t 38) (.bldF
  (ι.t 128) 1 1 [.t 37]), .e (.t 39) (.app false (ι.t 128) 1 24 #[.slice .none 0 0] (.t 34) (.t 38)), .p (.v 7) (.mv (.t 39))]) (.seq (.blk 0 (.loop (.seq (.seq (.reg [.p (.t 40) (.mv (.v 7)), .p (.t
  41) (.m (.lenl (.t 40))), .p (.t 42) (.mv (.v 9)), .p (.v 43) (.cm .lss .i64 (.t 41) (.t 42))]) (.ite (.v 43) .skip (.exit 0))) (.blk 1 (.reg [.p (.t 44) (.mv (.v 7)), .e (.t 45) (.call (ι.f 143) [.c
  (.slice .none 0 0)]), .e (.t 46) (.bldF (ι.t 128) 1 1 [.t 45]), .e (.t 47) (.app false (ι.t 128) 1 24 #[.slice .none 0 0] (.t 44) (.t 46)), .p (.v 7) (.mv (.t 47))]))))) (.seq (.reg [.p (.v 10) (.mv
  (.c (.int .i64 0)))]) (.seq (.seq (.reg [.p (.t 48) (.mv (.v 7)), .p (.t 49) (.m (.lenl (.t 48))), .p (.v 50) (.cm .gtr .i64 (.t 49) (.c (.int .i64 256)))]) (.ite (.v 50) (.reg [.p (.v 10) (.mv (.c
  (.int .i64 3)))]) (.seq (.reg [.p (.t 51) (.mv (.v 8)), .p (.v 52) (.cm .gtr .i64 (.t 51) (.c (.int .i64 255)))]) (.ite (.v 52) (.reg [.p (.v 10) (.mv (.c (.int .i64 1)))]) .skip)))) (.seq (.reg [.p
  (.t 54) (.mv (.v 7)), .e (.t 55) (.call (ι.f 149) [.t 54]), .p (.t 53) (.mv (.t 55)), .p (.t 56) (.ext (.t 53) 0), .p (.t 57) (.ext (.t 53) 1), .p (.v 11) (.mv (.t 56)), .p (.v 12) (.mv (.t 57))])
  (.seq (.reg [.p (.t 59) (.mv (.v 7)), .e (.t 60) (.call (ι.f 150) [.t 59]), .p (.t 58) (.mv (.t 60)), .p (.t 61) (.ext (.t 58) 0), .p (.t 62) (.ext (.t 58) 1), .p (.v 13) (.mv (.t 61)), .p (.v 14)
  (.mv (.t 62))]) (.seq (.seq (.reg [.p (.t 63) (.mv (.v 12)), .p (.t 64) (.mv (.v 10)), .p (.t 65) (.cm .neq .i64 (.t 63) (.t 64)), .p (.t 66) (.mv (.t 65)), .gp (.t 67) (.t 66) false (.mv (.v 14)),
  .gp (.t 68) (.t 66) false (.mv (.v 10)), .gp (.t 69) (.t 66) false (.cm .neq .i64 (.t 67) (.t 68)), .p (.v 70) (.pick (.t 66) (.c (.bool true)) (.t 69))]) (.ite (.v 70) (.seq (.reg [.p (.v 6) (.mv (.c
  (.bool false)))]) .ret) .skip)) (.seq (.seq (.reg [.p (.t 71) (.mv (.v 10)), .p (.v 72) (.cm .eql .i64 (.t 71) (.c (.int .i64 0)))]) (.ite (.v 72) (.seq (.reg [.p (.t 73) (.mv (.v 7)), .p (.t 74) (.mv
  (.v 11)), .e (.t 75) (.call (ι.f 156) [.t 73, .t 74]), .p (.t 76) (.mv (.t 75)), .gp (.t 77) (.t 76) true (.mv (.v 11)), .ge (.t 78) (.t 76) true (.call (ι.f 163) [.t 77]), .gp (.t 79) (.t 76) true
  (.mv (.v 13)), .gp (.t 80) (.t 76) true (.cm .eql .i64 (.t 78) (.t 79)), .p (.t 81) (.pick (.t 76) (.t 80) (.c (.bool false))), .p (.v 6) (.mv (.t 81))]) .ret) .skip)) (.seq (.reg [.p (.t 83) (.mv (.v
  7)), .e (.t 84) (.call (ι.f 153) [.t 83]), .p (.t 82) (.mv (.t 84)), .p (.t 85) (.ext (.t 82) 0), .p (.t 86) (.ext (.t 82) 1), .p (.v 15) (.mv (.t 85)), .p (.v 16) (.mv (.t 86))]) (.seq (.reg [.p (.t
  88) (.mv (.v 7)), .e (.t 89) (.call (ι.f 162) [.t 88]), .p (.t 87) (.mv (.t 89)), .p (.t 90) (.ext (.t 87) 0), .p (.t 91) (.ext (.t 87) 1), .p (.v 17) (.mv (.t 90)), .p (.v 18) (.mv (.t 91))]) (.seq
  (.reg [.p (.t 93) (.mv (.v 7)), .e (.t 94) (.call (ι.f 154) [.t 93]), .p (.t 92) (.mv (.t 94)), .p (.t 95) (.ext (.t 92) 0), .p (.t 96) (.ext (.t 92) 1), .p (.v 19) (.mv (.t 95)), .p (.v 20) (.mv (.t
  96))]) (.seq (.reg [.p (.t 97) (.mv (.v 7)), .p (.t 98) (.m (.lenl (.t 97))), .e (.t 99) (.mkS (ι.t 26) 1 8 #[.int .i64 0] (.t 98) (.t 98)), .p (.v 21) (.mv (.t 99))]) (.seq (.seq (.reg [.p (.t 100)
  (.mv (.v 21)), .p (.v 101) (.m (.lenl (.t 100))), .p (.v 102) (.mv (.c (.int .i64 0)))]) (.blk 2 (.loop (.seq (.reg [.p (.v 103) (.cm .lss .i64 (.v 102) (.v 101))]) (.seq (.ite (.v 103) .skip (.exit
  2)) (.seq (.blk 3 (.seq (.reg [.p (.t 104) (.mv (.v 102)), .p (.v 22) (.mv (.t 104))]) (.reg [.p (.t 105) (.mv (.v 21)), .p (.t 106) (.mv (.v 22)), .p (.t 107) (.is 1 (.t 105) (.t 106)), .e .no (.st
  (.t 107) (.c (.int .i64 (-1))))]))) (.reg [.p (.t 108) (.ar .add .i64 (.v 102) (.c (.int .i64 1))), .p (.v 102) (.mv (.t 108))]))))))) (.seq (.reg [.p (.t 109) (.mv (.v 11)), .p (.t 110) (.m (.lenl
  (.t 109))), .p (.t 111) (.cm .eql .i64 (.t 110) (.c (.int .i64 0))), .p (.t 112) (.mv (.t 111)), .gp (.t 113) (.t 112) true (.mv (.v 13)), .gp (.t 114) (.t 112) true (.cm .eql .i64 (.t 113) (.c (.int
  .i64 0))), .p (.t 115) (.pick (.t 112) (.t 114) (.c (.bool false))), .p (.t 116) (.mv (.t 115)), .gp (.t 117) (.t 116) true (.mv (.v 16)), .gp (.t 118) (.t 116) true (.not (.t 117)), .p (.t 119)
  (.pick (.t 116) (.t 118) (.c (.bool false))), .p (.t 120) (.mv (.t 119)), .gp (.t 121) (.t 120) true (.mv (.v 18)), .gp (.t 122) (.t 120) true (.not (.t 121)), .p (.t 123) (.pick (.t 120) (.t 122) (.c
  (.bool false))), .p (.t 124) (.mv (.t 123)), .gp (.t 125) (.t 124) true (.mv (.v 15)), .gp (.t 126) (.t 124) true (.m (.lenl (.t 125))), .gp (.t 127) (.t 124) true (.mv (.v 17)), .gp (.t 128) (.t 124)
  true (.m (.lenl (.t 127))), .gp (.t 129) (.t 124) true (.ar .add .i64 (.t 126) (.t 128)), .gp (.t 130) (.t 124) true (.mv (.v 19)), .gp (.t 131) (.t 124) true (.m (.lenl (.t 130))), .gp (.t 132) (.t
  124) true (.ar .add .i64 (.t 129) (.t 131)), .gp (.t 133) (.t 124) true (.mv (.v 20)), .gp (.t 134) (.t 124) true (.m (.lenl (.t 133))), .gp (.t 135) (.t 124) true (.ar .add .i64 (.t 132) (.t 134)),
  .gp (.t 136) (.t 124) true (.cm .eql .i64 (.t 135) (.c (.int .i64 0))), .p (.t 137) (.pick (.t 124) (.t 136) (.c (.bool false))), .p (.t 138) (.mv (.t 137)), .gp (.t 139) (.t 138) true (.mv (.v 7)),
  .gp (.t 140) (.t 138) true (.mv (.v 21)), .ge (.t 141) (.t 138) true (.call (ι.f 156) [.t 139, .t 140]), .gp (.t 142) (.t 138) true (.not (.t 141)), .p (.t 143) (.pick (.t 138) (.t 142) (.c (.bool
  false))), .p (.v 6) (.mv (.t 143))]) .ret)))))))))))))))))
def r_lerrs : List RV := [.t 6]

/-! ### what is true of all graphs -/
theorem mem_gl {ps : List (Nat → Bool)} {i j : Nat} (hi : i < ps.length) : Eg (gl ps) i j ↔ j < 4096 ∧ (ps.getD i fun _ => false) j = true := by
  unfold Eg gl; rw [getD_mems ps i hi, mem_mems]
theorem ckP_of {ps : List (Nat → Bool)} {L : List Int} (h0 : chkF ps = 0) (hl : L.length = ps.length) (hM : Mt ps.length 256 (Eg (gl ps)) (gi L)) : CkP ps L := by
  refine ⟨h0, hl, fun a ha => ?_, fun a ha b hb e hn => hM.inj a (by omega) b (by omega) e ?_⟩
  · rcases hM.ed a (by omega) with h | ⟨j, hj, h1, h2⟩
    · exact .inl h
    · refine .inr ?_
      rw [mem_gl (by omega)] at h2
      unfold memI
      rw [h1]
      simp only [Bool.and_eq_true, decide_eq_true_eq]
      exact ⟨⟨by omega, by omega⟩, by simpa using h2.2⟩
  · rcases hM.ed a (by omega) with h | ⟨j, _, h, _⟩
    · exact absurd h hn
    · omega
theorem Mx.same {n N : Nat} {E : Nat → Nat → Prop} {L L' : Nat → Int} (h : Mx n N E L) (h' : Mx n N E L') : cn n (mt L) = cn n (mt L') := Nat.le_antisymm (h'.max h.1) (h.max h'.1)
theorem MMaxPost.gen {ps : List (Nat → Bool)} {H H' : Hp} {r : Value} (h : MMaxPost ps H r H') : (∃ mv, r = .tuple #[mv, .int .i64 (chkF ps)] ∧ ((chkF ps ≠ 0 ∧ mv = .slice none 0 0) ∨ (chkF ps = 0 ∧ ∃ L, SlR H' mv (iL L) ∧ (∃ b, mv = .slice (some ⟨b, 0, none⟩) ps.length ps.length) ∧ L.length = ps.length ∧ Mx ps.length 256 (Eg (gl ps)) (gi L)))) ∧ Keep (fun _ => False) H H' := by
  obtain ⟨⟨h0, rfl⟩ | ⟨bl, L, R, h0, rfl, hB, hbl, hM⟩, K⟩ := h
  · exact ⟨⟨_, rfl, .inl ⟨h0, rfl⟩⟩, K⟩
  · refine ⟨⟨_, by rw [h0], .inr ⟨h0, L, ?_, ⟨bl, rfl⟩, hM.lL, hM.mx⟩⟩, K⟩
    have := SlR.bl hB 0 ps.length ps.length (by omega) (by rw [iL_len, hM.lL]; omega)
    rwa [List.drop_zero, List.take_of_length_le (by rw [iL_len, hM.lL]; omega)] at this
theorem MSizePost.gen {ps : List (Nat → Bool)} {H H' : Hp} {r : Value} (h : MSizePost ps H r H') : (∃ n : Nat, r = .tuple #[.int .i64 n, .int .i64 (chkF ps)] ∧ ((chkF ps ≠ 0 ∧ n = 0) ∨ (chkF ps = 0 ∧ ∃ L, n = cn ps.length (mt (gi L)) ∧ Mx ps.length 256 (Eg (gl ps)) (gi L)))) ∧ Keep (fun _ => False) H H' := by
  obtain ⟨⟨h0, rfl⟩ | ⟨L, h0, rfl, hM⟩, K⟩ := h
  · exact ⟨⟨0, rfl, .inl ⟨h0, rfl⟩⟩, K⟩
  · exact ⟨⟨_, by rw [h0], .inr ⟨h0, L, rfl, hM⟩⟩, K⟩
/-! ### graphs of the law -/
def errP (X : List UInt64) (v m : Nat) : List (Nat → Bool) := X.map bt ++ [ofP [(v : Int)]] ++ List.replicate m (ofP [])
theorem errP_len (X : List UInt64) (v m : Nat) : (errP X v m).length = X.length + 1 + m := by unfold errP; simp; omega
theorem errP_succ (X : List UInt64) (v m : Nat) : errP X v (m + 1) = errP X v m ++ [ofP []] := by unfold errP; rw [List.replicate_succ']; simp
theorem errP_chk (X : List UInt64) (v m : Nat) (hv : v < 4096) : chkF (errP X v m) = if 256 < X.length + 1 + m then 3 else if 255 < v then 1 else 0 := by
  unfold chkF
  rw [errP_len]
  by_cases h : 256 < X.length + 1 + m
  · rw [if_pos h, if_pos h]
  · rw [if_neg h, if_neg h]
    by_cases h2 : 255 < v
    · rw [if_pos h2, if_pos]
      refine wide_iff.2 ⟨ofP [(v : Int)], by unfold errP; simp, v, hv, ?_, by omega⟩
      unfold ofP; simp [hv]
    · rw [if_neg h2, if_neg]
      intro hw
      obtain ⟨p, hp, n, hn, h3, h4⟩ := wide_iff.1 hw
      unfold errP at hp
      simp only [List.mem_append, List.mem_map, List.mem_singleton, List.mem_replicate] at hp
      rcases hp with (⟨x, _, rfl⟩ | rfl) | ⟨_, rfl⟩
      · have := bt_lt h3; omega
      · unfold ofP at h3
        simp only [Bool.and_eq_true, decide_eq_true_eq, List.mem_singleton] at h3
        omega
      · unfold ofP at h3
        simp at h3
theorem GrO.weak {H : Hp} {v : Value} {ps : List (Nat → Bool)} {B B' : Nat} {vs : List Value} (h : GrO H v ps B vs) (hB : B' ≤ B) : GrO H v ps B' vs :=
  ⟨h.ow, h.len, h.at_, fun k hk => Nat.le_trans hB (h.o1 k hk), fun i k hi hk => ⟨Nat.le_trans hB (h.o2 i k hi hk).1, (h.o2 i k hi hk).2⟩⟩
structure MErr (P : Program) (ι : Ids) : Prop where
  aw : MAwakeSpec P ι (ι.f 174)
  sm : SmallSpec P (ι.f 168)
  gr : LGraphSpec P (ι.f 167)
  of : BOfSpec P (ι.f 143)
  mx : MMaxSpec P ι (ι.f 149)
  sz : MSizeSpec P ι (ι.f 150)
  df : MDefSpec P ι (ι.f 153)
  le : MLeastSpec P ι (ι.f 162)
  cv : MCovSpec P ι (ι.f 154)
  ck : MChkSpec P (ι.f 156)
  mc : MtcSpec P (ι.f 163)
theorem tmodn (a b : Nat) : Int.tmod (a : Int) (b : Int) = ((a % b : Nat) : Int) := rfl
theorem lerrs_ok {P : Program} {ι : Ids} {k : FuncId} (hk : FnIs P k (c_lerrs ι) r_lerrs 3) (h : MErr P ι) (l : List UInt8) (a b : Nat) (v : Value) (H : Hp) (hT : TabOk ι H) (hv : SlR H v (w8 l)) (ha : a ≤ 65535) (hb : b ≤ 65535) :
    CallsM P k #[v, .int .u16 a, .int .u16 b] H fun r H' => r = .bool true ∧ Keep (fun _ => False) H H' := by
  obtain ⟨R, hR⟩ : ∃ R : Value → Hp → Prop, R = fun r H' => r = .bool true ∧ Keep (fun _ => False) H H' := ⟨_, rfl⟩
  rw [← hR]
  refine calls_of_vc hk (args := [_, _, _]) (by simp) ?_
  unfold c_lerrs r_lerrs
  have hX6 := smallF_len l
  simp only [go_sem, List.map_cons, List.map_nil, ↓reduceIte, Nat.reduceEqDiff, Nat.reduceAdd, Nat.reduceMul, reduceCtorEq, and_true, true_and, Nat.mul_one, Nat.zero_add, Bool.false_eq_true, decide_true, decide_false, not_false_eq_true, kont_eq]
  refine (h.aw H hT).mono ?_
  rintro r H1 ⟨rfl, K1⟩
  simp only [go_sem, List.map_cons, List.map_nil, ↓reduceIte, Nat.reduceEqDiff, Nat.reduceAdd, Nat.reduceMul, reduceCtorEq, and_true, true_and, Nat.mul_one, Nat.zero_add, Bool.false_eq_true, decide_true, decide_false, not_false_eq_true, kont_eq]
  refine (h.sm l v H1 (hv.keep K1 (by simp))).mono ?_
  rintro x H2 ⟨O2, o2, K2⟩
  generalize smallF l = X at *
  simp only [go_sem, List.map_cons, List.map_nil, ↓reduceIte, Nat.reduceEqDiff, Nat.reduceAdd, Nat.reduceMul, reduceCtorEq, and_true, true_and, Nat.mul_one, Nat.zero_add, Bool.false_eq_true, decide_true, decide_false, not_false_eq_true, kont_eq]
  refine (h.gr X x H2 O2.sl (by omega)).mono ?_
  rintro g H3 ⟨gvs, G3, K3⟩
  have em : Int.tmod (a : Int) 4096 = ((a % 4096 : Nat) : Int) := rfl
  have en : Int.tmod (b : Int) 300 = ((b % 300 : Nat) : Int) := rfl
  rw [kont_eq]
  simp only [go_sem, List.map_cons, List.map_nil, ↓reduceIte, Nat.reduceEqDiff, Nat.reduceAdd, Nat.reduceMul, reduceCtorEq, and_true, true_and, Nat.mul_one, Nat.zero_add, Bool.false_eq_true, decide_true, decide_false, not_false_eq_true, fillV_nil, fillV_cons, okFill_nil, okFill_cons, cells_slice, cells_int, cells_bool, cells_str, cells_ptr, cells_agg, stNH_ptr, okN_ptr, wrA1, wrA20, wrA21, em, en]
  have hw : a % 4096 < 4096 := Nat.mod_lt _ (by omega)
  have hn : b % 300 < 300 := Nat.mod_lt _ (by omega)
  generalize a % 4096 = w at hw ⊢
  generalize b % 300 = nn at hn ⊢
  have ww : IntKind.i64.wrap (w : Int) = (w : Int) := IntWalk.i64_in _ ⟨by omega, by omega⟩
  have wn : IntKind.i64.wrap (nn : Int) = (nn : Int) := IntWalk.i64_in _ ⟨by omega, by omega⟩
  rw [ww, wn]
  refine ⟨by decide, by decide, ?_⟩
  have s2 := K2.size
  have s3 := K3.size
  refine kont_news fun H4 b4 e4 z4 B4 K4 => ?_
  have s4 := K4.size
  have S4 : SlR H4 (.slice (some ⟨b4, 0, none⟩) 1 1) (iL [(w : Int)]) := SlR.bl B4 0 1 1 (by omega) (by simp)
  simp only [go_sem, List.map_cons, List.map_nil, ↓reduceIte, Nat.reduceEqDiff, Nat.reduceAdd, Nat.reduceMul, reduceCtorEq, and_true, true_and, Nat.mul_one, Nat.zero_add, Bool.false_eq_true, decide_true, decide_false, not_false_eq_true, kont_eq]
  refine (h.of [(w : Int)] _ H4 S4 (by simp)).mono ?_
  rintro r H5 ⟨hs5, K5, n5⟩
  obtain ⟨u5, W5, rfl, hu5⟩ := id hs5
  have s5 := K5.size
  rw [kont_eq]
  simp only [go_sem, List.map_cons, List.map_nil, ↓reduceIte, Nat.reduceEqDiff, Nat.reduceAdd, Nat.reduceMul, reduceCtorEq, and_true, true_and, Nat.mul_one, Nat.zero_add, Bool.false_eq_true, decide_true, decide_false, not_false_eq_true, fillV_nil, fillV_cons, okFill_nil, okFill_cons, cells_slice, cells_int, cells_bool, cells_str, cells_ptr, cells_agg, stNH_ptr, okN_ptr, wrA1, wrA20, wrA21]
  refine kont_news fun H6 b6 e6 z6 B6 K6 => ?_
  have s6 := K6.size
  simp only [go_sem, List.map_cons, List.map_nil, ↓reduceIte, Nat.reduceEqDiff, Nat.reduceAdd, Nat.reduceMul, reduceCtorEq, and_true, true_and, Nat.mul_one, Nat.zero_add, Bool.false_eq_true, decide_true, decide_false, not_false_eq_true, kont_eq]
  have G6 := ((G3.keep0 K4).keep0 K5).keep0 K6
  refine GrO.app G6 (SlR.bl B6 0 1 1 (by omega) (by simp)) (hs5.keep0 K6) rfl (by rw [List.length_map]; omega) (by omega) (by omega) (fun k hk => ?_) fun v7 H7 G7 M7 => ?_
  · have := n5 k hk
    exact ⟨by omega, fun h => by have := (G3.keep0 K4).ow.old h; omega⟩
  have s1 := K1.size
  have K06 : Keep (fun _ => False) H H6 := ((((K1.trans K2).trans K3).trans K4).trans K5).trans K6
  have K07 : Keep (fun _ => False) H H7 := K06.trans' M7 (fun k hk h => by have := G3.o1 k h; omega)
  have e0 : X.map bt ++ [ofP [(w : Int)]] = errP X w 0 := by unfold errP; simp
  rw [e0] at G7
  have G7 := G7.weak (show H.size ≤ H2.size by omega)
  rw [kont_eq]
  simp only [go_sem, List.map_cons, List.map_nil, ↓reduceIte, Nat.reduceEqDiff, Nat.reduceAdd, Nat.reduceMul, reduceCtorEq, and_true, true_and, Nat.mul_one, Nat.zero_add, Bool.false_eq_true, decide_true, decide_false, not_false_eq_true]
  refine vc_mono ?_ ?_ (Q := fun e f H' => e = .x 0 ∧ f 8 = .int .i64 w ∧ ∃ m gv gvs, f 7 = gv ∧ GrO H' gv (errP X w m) H.size gvs ∧ (m = 0 ∨ X.length + 1 + m ≤ nn) ∧ Keep (fun _ => False) H H')
  · rintro e f H8 ⟨rfl, hf8, m, gv, gvs, hf7, G8, hm, K8⟩
    have hgl := G8.ow.sl.len
    rw [G8.len, errP_len] at hgl
    have hgs := G8.ow.sl.isSl
    have hbnd : X.length + 1 + m ≤ 300 := by omega
    have hck := errP_chk X w m hw
    have hpl := errP_len X w m
    generalize errP X w m = ps at *
    have hps : ps.length ≤ 300 := by omega
    have hT8 := hT.keep K8
    have GM : GrM H8 gv ps (fun k => H.size ≤ k) := G8.toM
    show vc P _ _ _ _
    rw [vc_seq]
    refine vc_mono (Q := fun e f' H' => e = .n ∧ f' 8 = .int .i64 w ∧ f' 7 = gv ∧ f' 10 = .int .i64 0 ∧ H' = H8) ?_ (by simp only [go_sem, List.map_cons, List.map_nil, ↓reduceIte, Nat.reduceEqDiff, Nat.reduceAdd, Nat.reduceMul, reduceCtorEq, and_true, true_and, Nat.mul_one, Nat.zero_add, Bool.false_eq_true, decide_true, decide_false, not_false_eq_true, kont_eq, hf8, hf7])
    rintro e f1 H8' ⟨rfl, hf8, hf7, hf10, rfl⟩
    show vc P _ _ _ _
    rw [vc_seq]
    refine vc_mono (Q := fun e f' H' => e = .n ∧ f' 7 = gv ∧ f' 10 = .int .i64 (chkF ps) ∧ H' = H8') ?_ ?_
    · rintro e f2 H9 ⟨rfl, hf7, hf10, rfl⟩
      simp only [go_sem, List.map_cons, List.map_nil, ↓reduceIte, Nat.reduceEqDiff, Nat.reduceAdd, Nat.reduceMul, reduceCtorEq, and_true, true_and, Nat.mul_one, Nat.zero_add, Bool.false_eq_true, decide_true, decide_false, not_false_eq_true, hf7]
      refine (h.mx ps gv _ H9 hT8 GM (by omega)).mono ?_
      intro r Ha hpa
      obtain ⟨⟨mv, rfl, hmv⟩, Ka⟩ := hpa.gen
      rw [kont_eq]
      simp only [go_sem, List.map_cons, List.map_nil, ↓reduceIte, Nat.reduceEqDiff, Nat.reduceAdd, Nat.reduceMul, reduceCtorEq, and_true, true_and, Nat.mul_one, Nat.zero_add, Bool.false_eq_true, decide_true, decide_false, not_false_eq_true, hf7]
      refine (h.sz ps gv _ Ha (hT8.keep Ka) (GM.keep0 Ka) (by omega)).mono ?_
      intro r Hb hpb
      obtain ⟨⟨sz, rfl, hsz⟩, Kb⟩ := hpb.gen
      have d0 : (chkF ps != chkF ps) = false := by simp
      have Kab := Ka.trans Kb
      have GMb := (GM.keep0 Ka).keep0 Kb
      have hTb := (hT8.keep Ka).keep Kb
      rcases hmv with ⟨h0, rfl⟩ | ⟨h0, L, SL, ⟨bl, rfl⟩, hLl, hMx⟩
      · have e0 : (chkF ps == 0) = false := by simpa using h0
        rcases hsz with ⟨_, rfl⟩ | ⟨h0', _⟩
        rotate_left
        · exact absurd h0' h0
        rw [kont_eq]
        simp only [go_sem, List.map_cons, List.map_nil, ↓reduceIte, Nat.reduceEqDiff, Nat.reduceAdd, Nat.reduceMul, reduceCtorEq, and_true, true_and, Nat.mul_one, Nat.zero_add, Bool.false_eq_true, decide_true, decide_false, not_false_eq_true, hf7, hf10, d0, e0]
        refine (h.df ps gv _ Hb hTb GMb (by omega)).mono ?_
        rintro r Hc ⟨⟨_, rfl⟩ | ⟨_, _, h0', _⟩, Kc⟩
        rotate_left
        · exact absurd h0' h0
        rw [kont_eq]
        simp only [go_sem, List.map_cons, List.map_nil, ↓reduceIte, Nat.reduceEqDiff, Nat.reduceAdd, Nat.reduceMul, reduceCtorEq, and_true, true_and, Nat.mul_one, Nat.zero_add, Bool.false_eq_true, decide_true, decide_false, not_false_eq_true, hf7]
        refine (h.le ps gv _ Hc (hTb.keep Kc) (GMb.keep0 Kc) (by omega)).mono ?_
        rintro r Hd ⟨⟨_, rfl⟩ | ⟨_, _, h0', _⟩, Kd⟩
        rotate_left
        · exact absurd h0' h0
        rw [kont_eq]
        simp only [go_sem, List.map_cons, List.map_nil, ↓reduceIte, Nat.reduceEqDiff, Nat.reduceAdd, Nat.reduceMul, reduceCtorEq, and_true, true_and, Nat.mul_one, Nat.zero_add, Bool.false_eq_true, decide_true, decide_false, not_false_eq_true, hf7]
        refine (h.cv ps gv _ Hd ((hTb.keep Kc).keep Kd) ((GMb.keep0 Kc).keep0 Kd) (by omega)).mono ?_
        rintro r He ⟨⟨_, rfl⟩ | ⟨_, _, _, h0', _⟩, Ke⟩
        rotate_left
        · exact absurd h0' h0
        have GMe := ((GMb.keep0 Kc).keep0 Kd).keep0 Ke
        have K0e := ((((K8.trans Kab).trans Kc).trans Kd).trans Ke)
        rw [kont_eq]
        simp only [go_sem, List.map_cons, List.map_nil, ↓reduceIte, Nat.reduceEqDiff, Nat.reduceAdd, Nat.reduceMul, reduceCtorEq, and_true, true_and, Nat.mul_one, Nat.zero_add, Bool.false_eq_true, decide_true, decide_false, not_false_eq_true, hf7, hgs, hgl, ← hpl]
        refine ⟨⟨by omega, by omega, by unfold maxLen; omega⟩, ?_⟩
        refine kont_news fun Hf bf ef zf Bf Kf => ?_
        have GMf := GMe.keep0 Kf
        simp only [go_sem, List.map_cons, List.map_nil, ↓reduceIte, Nat.reduceEqDiff, Nat.reduceAdd, Nat.reduceMul, reduceCtorEq, and_true, true_and, Nat.mul_one, Nat.zero_add, Bool.false_eq_true, decide_true, decide_false, not_false_eq_true, kont_eq]
        have sf := Kf.size
        have se := K0e.size
        refine vc_loop [103, 22, 102] rfl (fun n f H' => ∃ (i : Nat) (FL : List Int), i ≤ ps.length ∧ n = ps.length - i ∧ f 102 = .int .i64 i ∧ Bl H' bf (iL FL) ∧ FL.length = ps.length ∧ Keep (fun _ => False) He H') ps.length
          ⟨0, List.replicate ps.length 0, by omega, by omega, by simp only [go_sem, List.map_cons, List.map_nil, ↓reduceIte, Nat.reduceEqDiff, Nat.reduceAdd, Nat.reduceMul, reduceCtorEq, and_true, true_and, Nat.mul_one, Nat.zero_add, Bool.false_eq_true, decide_true, decide_false, not_false_eq_true, kont_eq]; rfl, by rw [rep_one, iL_rep] at Bf; exact Bf, by simp, Kf⟩ ?_
        rintro n f5 Hg ⟨i, FL, hi, rfl, hf102, Bg, hFL, Kg⟩
        simp only [go_sem, List.map_cons, List.map_nil, ↓reduceIte, Nat.reduceEqDiff, Nat.reduceAdd, Nat.reduceMul, reduceCtorEq, and_true, true_and, Nat.mul_one, Nat.zero_add, Bool.false_eq_true, decide_true, decide_false, not_false_eq_true, kont_eq] at hf102
        simp only [go_sem, List.map_cons, List.map_nil, ↓reduceIte, Nat.reduceEqDiff, Nat.reduceAdd, Nat.reduceMul, reduceCtorEq, and_true, true_and, Nat.mul_one, Nat.zero_add, Bool.false_eq_true, decide_true, decide_false, not_false_eq_true, hf102]
        refine iteV_dec (fun hlt => ?_) (fun hge => ?_)
        · have hlt : i < ps.length := by omega
          have hst := Bg.okSt (o := i) (by rw [iL_len]; omega)
          have Bh := Bg.setc i (.int .i64 (-1))
          rw [iL_set] at Bh
          have Kh : Keep (fun k => k = bf) Hg (setc Hg ⟨bf, i, none⟩ (.int .i64 (-1))) := (Keep.refl _ _).setc _ (.inl rfl)
          simp (disch := omega) only [go_sem, List.map_cons, List.map_nil, ↓reduceIte, Nat.reduceEqDiff, Nat.reduceAdd, Nat.reduceMul, reduceCtorEq, and_true, true_and, Nat.mul_one, Nat.zero_add, Bool.false_eq_true, decide_true, decide_false, not_false_eq_true, kont_eq, hf102, tn_cast, Nat.mul_one, hst, IntWalk.i64_in]
          exact ⟨by omega, ps.length - (i + 1), by omega, i + 1, FL.set i (-1), by omega, rfl, by simp, Bh, by simp [hFL], Kg.to_old Kh (by omega)⟩
        · have z0 : ((0 : Int) == 0) = true := rfl
          have z1 : ((((0 : Nat) : Int)) == 0) = true := rfl
          have GMg := GMe.keep0 Kg
          have SF : SlR Hg (.slice (some ⟨bf, 0, none⟩) ps.length ps.length) (iL FL) := by
            have := SlR.bl Bg 0 ps.length ps.length (by omega) (by rw [iL_len]; omega)
            rwa [List.drop_zero, List.take_of_length_le (by rw [iL_len]; omega)] at this
          have z4 : ((((0 : Nat) : Int) + ((0 : Nat) : Int) + ((0 : Nat) : Int) + ((0 : Nat) : Int)) == 0) = true := rfl
          simp (disch := omega) only [go_sem, List.map_cons, List.map_nil, ↓reduceIte, Nat.reduceEqDiff, Nat.reduceAdd, Nat.reduceMul, reduceCtorEq, and_true, true_and, Nat.mul_one, Nat.zero_add, Bool.false_eq_true, decide_true, decide_false, not_false_eq_true, hf7, z0, z1, z4, IntWalk.i64_in]
          refine (h.ck ps FL gv _ _ Hg GMg SF (by omega)).mono ?_
          rintro r Hi ⟨⟨bb, rfl, hbb⟩, Ki⟩
          have hbb : bb = false := by
            cases bb with
            | false => rfl
            | true => exact absurd (hbb.1 rfl).1 h0
          subst hbb
          rw [kont_eq]
          simp only [go_sem, List.map_cons, List.map_nil, ↓reduceIte, Nat.reduceEqDiff, Nat.reduceAdd, Nat.reduceMul, reduceCtorEq, and_true, true_and, Nat.mul_one, Nat.zero_add, Bool.false_eq_true, decide_true, decide_false, not_false_eq_true, kont_eq]
          rw [hR]
          exact ⟨rfl, (K0e.trans Kg).trans Ki⟩
      · have e0 : (chkF ps == 0) = true := by simpa using h0
        rcases hsz with ⟨h0', _⟩ | ⟨_, L', rfl, hMx'⟩
        · exact absurd h0 h0'
        rw [kont_eq]
        simp only [go_sem, List.map_cons, List.map_nil, ↓reduceIte, Nat.reduceEqDiff, Nat.reduceAdd, Nat.reduceMul, reduceCtorEq, and_true, true_and, Nat.mul_one, Nat.zero_add, Bool.false_eq_true, decide_true, decide_false, not_false_eq_true, hf7, hf10, d0, e0]
        refine (h.ck ps L gv _ _ Hb GMb (SL.keep Kb (by simp)) (by omega)).mono ?_
        rintro r Hc ⟨⟨bb, rfl, hbb⟩, Kc⟩
        have hbb : bb = true := hbb.2 (ckP_of h0 hLl hMx.1)
        subst hbb
        rw [kont_eq]
        simp only [go_sem, List.map_cons, List.map_nil, ↓reduceIte, Nat.reduceEqDiff, Nat.reduceAdd, Nat.reduceMul, reduceCtorEq, and_true, true_and, Nat.mul_one, Nat.zero_add, Bool.false_eq_true, decide_true, decide_false, not_false_eq_true]
        refine (h.mc L _ Hc ((SL.keep Kb (by simp)).keep Kc (by simp)) (by omega)).mono ?_
        rintro r Hd ⟨rfl, rfl⟩
        have e1 : (((mtc L : Nat) : Int) == ((cn ps.length (mt (gi L')) : Nat) : Int)) = true := by
          rw [mtc_cn, hLl, Mx.same hMx hMx']; simp
        simp only [go_sem, List.map_cons, List.map_nil, ↓reduceIte, Nat.reduceEqDiff, Nat.reduceAdd, Nat.reduceMul, reduceCtorEq, and_true, true_and, Nat.mul_one, Nat.zero_add, Bool.false_eq_true, decide_true, decide_false, not_false_eq_true, kont_eq, e1]
        rw [hR]
        exact ⟨rfl, (K8.trans Kab).trans Kc⟩
    · rw [hck, ← hpl]
      by_cases h1 : 256 < ps.length
      · have e1 : decide (((ps.length : Nat) : Int) > 256) = true := decide_eq_true (by omega)
        simp only [go_sem, List.map_cons, List.map_nil, ↓reduceIte, Nat.reduceEqDiff, Nat.reduceAdd, Nat.reduceMul, reduceCtorEq, and_true, true_and, Nat.mul_one, Nat.zero_add, Bool.false_eq_true, decide_true, decide_false, not_false_eq_true, kont_eq, hf7, hf8, hf10, hgs, hgl, ← hpl, e1, h1]
      · have e1 : decide (((ps.length : Nat) : Int) > 256) = false := decide_eq_false (by omega)
        by_cases h2 : 255 < w
        · have e2 : decide ((w : Int) > 255) = true := decide_eq_true (by omega)
          simp only [go_sem, List.map_cons, List.map_nil, ↓reduceIte, Nat.reduceEqDiff, Nat.reduceAdd, Nat.reduceMul, reduceCtorEq, and_true, true_and, Nat.mul_one, Nat.zero_add, Bool.false_eq_true, decide_true, decide_false, not_false_eq_true, kont_eq, hf7, hf8, hf10, hgs, hgl, ← hpl, e1, e2, h1, h2]
        · have e2 : decide ((w : Int) > 255) = false := decide_eq_false (by omega)
          simp only [go_sem, List.map_cons, List.map_nil, ↓reduceIte, Nat.reduceEqDiff, Nat.reduceAdd, Nat.reduceMul, reduceCtorEq, and_true, true_and, Nat.mul_one, Nat.zero_add, Bool.false_eq_true, decide_true, decide_false, not_false_eq_true, kont_eq, hf7, hf8, hf10, hgs, hgl, ← hpl, e1, e2, h1, h2]
  · refine vc_loop [43, 7] rfl (fun n f H' => ∃ m gv gvs, n = 300 - m ∧ f 7 = gv ∧ GrO H' gv (errP X w m) H.size gvs ∧ (m = 0 ∨ X.length + 1 + m ≤ nn) ∧ Keep (fun _ => False) H H') 300
      ⟨0, v7, _, by omega, by simp only [go_sem, List.map_cons, List.map_nil, ↓reduceIte, Nat.reduceEqDiff, Nat.reduceAdd, Nat.reduceMul, reduceCtorEq, and_true, true_and, Nat.mul_one, Nat.zero_add, Bool.false_eq_true, decide_true, decide_false, not_false_eq_true, kont_eq], G7, .inl rfl, K07⟩ ?_
    rintro n f H8 ⟨m, gv, gvs, rfl, hf7, G8, hm, K8⟩
    simp only [go_sem, List.map_cons, List.map_nil, ↓reduceIte, Nat.reduceEqDiff, Nat.reduceAdd, Nat.reduceMul, reduceCtorEq, and_true, true_and, Nat.mul_one, Nat.zero_add, Bool.false_eq_true, decide_true, decide_false, not_false_eq_true, kont_eq] at hf7
    have hgl := G8.ow.sl.len
    rw [G8.len, errP_len] at hgl
    have hgs := G8.ow.sl.isSl
    by_cases hlt : X.length + 1 + m < nn
    · have e1 : decide (((X.length + 1 + m : Nat) : Int) < (nn : Int)) = true := decide_eq_true (by omega)
      simp only [go_sem, List.map_cons, List.map_nil, ↓reduceIte, Nat.reduceEqDiff, Nat.reduceAdd, Nat.reduceMul, reduceCtorEq, and_true, true_and, Nat.mul_one, Nat.zero_add, Bool.false_eq_true, decide_true, decide_false, not_false_eq_true, hf7, hgs, hgl, e1]
      refine (h.of [] _ H8 (SlR.nil _ _ _) (by simp)).mono ?_
      rintro r H9 ⟨hs9, K9, n9⟩
      obtain ⟨u9, W9, rfl, hu9⟩ := id hs9
      have s9 := K9.size
      have s8 := K8.size
      rw [kont_eq]
      simp only [go_sem, List.map_cons, List.map_nil, ↓reduceIte, Nat.reduceEqDiff, Nat.reduceAdd, Nat.reduceMul, reduceCtorEq, and_true, true_and, Nat.mul_one, Nat.zero_add, Bool.false_eq_true, decide_true, decide_false, not_false_eq_true, fillV_nil, fillV_cons, okFill_nil, okFill_cons, cells_slice, cells_int, cells_bool, cells_str, cells_ptr, cells_agg, stNH_ptr, okN_ptr, wrA1, wrA20, wrA21]
      refine kont_news fun Ha ba ea za Ba Ka => ?_
      have sa := Ka.size
      simp only [go_sem, List.map_cons, List.map_nil, ↓reduceIte, Nat.reduceEqDiff, Nat.reduceAdd, Nat.reduceMul, reduceCtorEq, and_true, true_and, Nat.mul_one, Nat.zero_add, Bool.false_eq_true, decide_true, decide_false, not_false_eq_true, kont_eq]
      have Ga := (G8.keep0 K9).keep0 Ka
      refine GrO.app Ga (SlR.bl Ba 0 1 1 (by omega) (by simp)) (hs9.keep0 Ka) rfl (by rw [errP_len]; omega) (by omega) (by omega) (fun k hk => ?_) fun vb Hb Gb Mb => ?_
      · have := n9 k hk
        exact ⟨by omega, fun h => by have := G8.ow.old h; omega⟩
      · rw [kont_eq]
        simp only [go_sem, List.map_cons, List.map_nil, ↓reduceIte, Nat.reduceEqDiff, Nat.reduceAdd, Nat.reduceMul, reduceCtorEq, and_true, true_and, Nat.mul_one, Nat.zero_add, Bool.false_eq_true, decide_true, decide_false, not_false_eq_true, kont_eq]
        rw [← errP_succ] at Gb
        exact ⟨300 - (m + 1), by omega, m + 1, vb, _, rfl, rfl, Gb, by omega, ((K8.trans K9).trans Ka).trans' Mb (fun k hk h => by have := G8.o1 k h; omega)⟩
    · have e1 : decide (((X.length + 1 + m : Nat) : Int) < (nn : Int)) = false := decide_eq_false (by omega)
      simp only [go_sem, List.map_cons, List.map_nil, ↓reduceIte, Nat.reduceEqDiff, Nat.reduceAdd, Nat.reduceMul, reduceCtorEq, and_true, true_and, Nat.mul_one, Nat.zero_add, Bool.false_eq_true, decide_true, decide_false, not_false_eq_true, kont_eq, hf7, hgs, hgl, e1]
      exact ⟨m, gv, gvs, rfl, G8, hm, K8⟩
end Go.Mg

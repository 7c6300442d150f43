/- names: equal tables. -/
import Derived.Test.YtpifmenfgbcneaaMgN8
namespace Go.Mg
open Go Go.RowKit
set_option linter.unusedSimpArgs false
set_option linter.unusedVariables false
set_option maxRecDepth 100000
/- arbaclaw08.NamesEquals -/
def c_lnequals (ι : Ids) : S :=
  .seq (.reg [.p (.v 4) (.mv (.c (.bool false)))]) (.seq (.seq (.reg [.e (.t 15) (.call (ι.f 91) []), .p (.v 16) (.not (.t 15))]) (.ite (.v 16) (.seq (.reg [.p (.v 4) (.mv (.c (.bool false)))]) .ret)
  .skip)) (.seq (.reg [.p (.v 5) (.mv (.c (.slice .none 0 0))), .p (.v 6) (.mv (.c (.slice .none 0 0)))]) (.seq (.seq (.reg [.p (.t 17) (.mv (.v 0)), .e (.v 18) (.call (ι.f 98) [.t 17]), .p (.v 19) (.m
  (.lenl (.v 18))), .p (.v 20) (.mv (.c (.int .i64 0)))]) (.blk 0 (.loop (.seq (.reg [.p (.v 21) (.cm .lss .i64 (.v 20) (.v 19))]) (.seq (.ite (.v 21) .skip (.exit 0)) (.seq (.blk 1 (.seq (.reg [.p (.t
  22) (.is 1 (.v 18) (.v 20)), .p (.t 23) (.ld (.t 22)), .p (.v 8) (.mv (.t 23))]) (.seq (.reg [.p (.t 24) (.mv (.v 5)), .p (.t 25) (.mv (.v 8)), .e (.t 26) (.call (ι.f 97) [.t 24, .t 25, .c (.int .i64
  100)]), .p (.v 27) (.cm .eql .i64 (.t 26) (.c (.int .i64 0)))]) (.ite (.v 27) (.reg [.p (.t 28) (.mv (.v 5)), .p (.t 29) (.mv (.v 8)), .e (.t 30) (.bldF (ι.t 67) 1 1 [.t 29]), .e (.t 31) (.app false
  (ι.t 67) 1 16 #[.string ⟨#[]⟩] (.t 28) (.t 30)), .p (.v 5) (.mv (.t 31))]) .skip)))) (.reg [.p (.t 32) (.ar .add .i64 (.v 20) (.c (.int .i64 1))), .p (.v 20) (.mv (.t 32))]))))))) (.seq (.seq (.reg
  [.p (.t 33) (.mv (.v 1)), .e (.v 34) (.call (ι.f 98) [.t 33]), .p (.v 35) (.m (.lenl (.v 34))), .p (.v 36) (.mv (.c (.int .i64 0)))]) (.blk 2 (.loop (.seq (.reg [.p (.v 37) (.cm .lss .i64 (.v 36) (.v
  35))]) (.seq (.ite (.v 37) .skip (.exit 2)) (.seq (.blk 3 (.seq (.reg [.p (.t 38) (.is 1 (.v 34) (.v 36)), .p (.t 39) (.ld (.t 38)), .p (.v 10) (.mv (.t 39))]) (.seq (.reg [.p (.t 40) (.mv (.v 6)), .p
  (.t 41) (.mv (.v 10)), .e (.t 42) (.call (ι.f 97) [.t 40, .t 41, .c (.int .i64 100)]), .p (.v 43) (.cm .eql .i64 (.t 42) (.c (.int .i64 0)))]) (.ite (.v 43) (.reg [.p (.t 44) (.mv (.v 6)), .p (.t 45)
  (.mv (.v 10)), .e (.t 46) (.bldF (ι.t 67) 1 1 [.t 45]), .e (.t 47) (.app false (ι.t 67) 1 16 #[.string ⟨#[]⟩] (.t 44) (.t 46)), .p (.v 6) (.mv (.t 47))]) .skip)))) (.reg [.p (.t 48) (.ar .add .i64 (.v
  36) (.c (.int .i64 1))), .p (.v 36) (.mv (.t 48))]))))))) (.seq (.reg [.p (.t 50) (.mv (.v 5)), .e (.t 51) (.call (ι.f 101) [.t 50, .c (.int .i64 100)]), .p (.t 49) (.mv (.t 51)), .p (.t 52) (.ext (.t
  49) 0), .p (.t 53) (.ext (.t 49) 1), .p (.v 11) (.mv (.t 52)), .p (.v 12) (.mv (.t 53))]) (.seq (.reg [.p (.t 55) (.mv (.v 6)), .e (.t 56) (.call (ι.f 101) [.t 55, .c (.int .i64 100)]), .p (.t 54)
  (.mv (.t 56)), .p (.t 57) (.ext (.t 54) 0), .p (.t 58) (.ext (.t 54) 1), .p (.v 13) (.mv (.t 57)), .p (.v 14) (.mv (.t 58))]) (.seq (.dr (.px (.t 59) .none (.mv (.v 12)) (.px (.t 60) .none (.cm .eql
  .i64 (.t 59) (.c (.int .i64 0))) (.px (.t 61) .none (.mv (.t 60)) (.px (.t 62) (.some (.t 61, true)) (.mv (.v 14)) (.px (.t 63) (.some (.t 61, true)) (.cm .eql .i64 (.t 62) (.c (.int .i64 0))) (.px
  (.t 64) .none (.pick (.t 61) (.t 63) (.c (.bool false))) (.px (.t 65) .none (.mv (.t 64)) (.px (.t 66) (.some (.t 65, true)) (.mv (.v 11)) (.px (.t 67) (.some (.t 65, true)) (.mv (.v 13)) (.px (.t 69)
  (.some (.t 65, true)) (.mv (.v 5)) (.px (.t 70) (.some (.t 65, true)) (.mv (.v 6)) (.wcons (.t 68) (.some (.t 65, true)) (.call (ι.f 95) [.t 66, .t 67]) (.wcons (.t 71) (.some (.t 65, true)) (.call
  (ι.f 93) [.t 69, .t 70]) (.px (.t 72) (.some (.t 65, true)) (.eqb false (.t 68) (.t 71)) (.px (.t 73) .none (.pick (.t 65) (.t 72) (.c (.bool false))) (.px (.t 74) .none (.mv (.t 73)) (.px (.t 75)
  (.some (.t 74, true)) (.mv (.v 11)) (.px (.t 76) (.some (.t 74, true)) (.mv (.v 13)) (.px (.t 78) (.some (.t 74, true)) (.mv (.v 11)) (.px (.t 81) (.some (.t 74, true)) (.mv (.v 13)) (.wcons (.t 77)
  (.some (.t 74, true)) (.call (ι.f 95) [.t 75, .t 76]) (.wcons (.t 79) (.some (.t 74, true)) (.call (ι.f 90) [.t 78]) (.px (.t 80) (.some (.t 74, true)) (.m (.b2s (.t 79))) (.wcons (.t 82) (.some (.t
  74, true)) (.call (ι.f 90) [.t 81]) (.px (.t 83) (.some (.t 74, true)) (.m (.b2s (.t 82))) (.px (.t 84) (.some (.t 74, true)) (.sc .eql (.t 80) (.t 83)) (.px (.t 85) (.some (.t 74, true)) (.eqb false
  (.t 77) (.t 84)) (.px (.t 86) .none (.pick (.t 74) (.t 85) (.c (.bool false))) (.px (.v 4) .none (.mv (.t 86)) .done))))) .wnil)) .wnil) .wnil)))))))) .wnil) .wnil))))))))))))) .ret)))))))
def r_lnequals : List RV := [.t 4]

def flatN (l : List (List UInt8)) : List UInt8 := l.flatMap fun s => UInt8.ofNat s.length :: s
theorem encB_small (s : List UInt8) (h : s.length < 128) : encB s = UInt8.ofNat s.length :: s := by rw [encB, enc7_small _ h]; rfl
theorem encN_flat (l : List (List UInt8)) (h : ∀ i, i < l.length → (l.getD i []).length < 128) : ∀ n, n ≤ l.length → encN l n = enc7 l.length ++ flatN (l.take n)
  | 0, _ => by simp [encN, iter, flatN]
  | n + 1, hn => by
    have e2 : l.take (n + 1) = l.take n ++ [l.getD n []] := by rw [List.take_add_one]; simp [show n < l.length by omega]
    have e3 : flatN (l.take n ++ [l.getD n []]) = flatN (l.take n) ++ (UInt8.ofNat (l.getD n []).length :: l.getD n []) := by simp [flatN]
    rw [encN_succ, encN_flat l h n (by omega), e2, e3, encB_small _ (h n (by omega)), List.append_assoc]
theorem flatN_inj : ∀ (a b : List (List UInt8)), a.length = b.length → (∀ i, i < a.length → (a.getD i []).length < 128) → (∀ i, i < b.length → (b.getD i []).length < 128) → flatN a = flatN b → a = b
  | [], [], _, _, _, _ => rfl
  | x :: a, y :: b, hl, ha, hb, he => by
    have hx := ha 0 (by simp)
    have hy := hb 0 (by simp)
    simp at hx hy
    simp only [flatN, List.flatMap_cons, List.cons_append, List.cons.injEq] at he
    obtain ⟨h1, h2⟩ := he
    have h3 : x.length = y.length := by
      have := congrArg UInt8.toNat h1
      simp at this; omega
    obtain ⟨rfl, h4⟩ := List.append_inj h2 h3
    rw [flatN_inj a b (by simpa using hl) (fun i hi => by simpa using ha (i + 1) (by simpa using hi)) (fun i hi => by simpa using hb (i + 1) (by simpa using hi)) h4]
  | [], _ :: _, h, _, _, _ => by simp at h
  | _ :: _, [], h, _, _, _ => by simp at h
theorem tbytes_inj {a b : List (List UInt8)} (ha : Cl a) (hb : Cl b) : tbytes a = tbytes b ↔ a = b := by
  refine ⟨fun h => ?_, fun h => by rw [h]⟩
  have la := ha.len
  have lb := hb.len
  have sa : ∀ i, i < a.length → (a.getD i []).length < 128 := fun i hi => by have := ha.small hi; omega
  have sb : ∀ i, i < b.length → (b.getD i []).length < 128 := fun i hi => by have := hb.small hi; omega
  unfold tbytes at h
  rw [encN_flat a sa _ (Nat.le_refl _), encN_flat b sb _ (Nat.le_refl _), List.take_length, List.take_length, enc7_small _ (by omega), enc7_small _ (by omega)] at h
  simp only [List.singleton_append, List.cons.injEq] at h
  have hl : a.length = b.length := by
    have := congrArg UInt8.toNat h.1
    simp at this; omega
  exact flatN_inj a b hl sa sb h.2
theorem Cl.nsmall {l : List (List UInt8)} (h : Cl l) : NSmall l := ⟨by have := h.len; omega, fun i hi => by have := h.small hi; omega⟩
theorem Cl.wsmall {l : List (List UInt8)} (h : Cl l) : WSmall l := ⟨by have := h.len; omega, fun i hi => by have := h.small hi; omega⟩
theorem lnequals_ok {P : Program} {ι : Ids} {k : FuncId} (hk : FnIs P k (c_lnequals ι) r_lnequals 2) (ha : NAwakeSpec P (ι.f 91)) (hw : WordsSpec P (ι.f 98)) (hck : RCheckSpec P (ι.f 97))
    (hof : NOfSpec P (ι.f 101)) (heq : NEqualSpec P (ι.f 95)) (hsm : SameSpec P (ι.f 93)) (hby : NBytesSpec P (ι.f 90))
    (l m : List UInt8) (v u : Value) (H : Hp) (hv : SlR H v (w8 l)) (hu : SlR H u (w8 m)) : CallsM P k #[v, u] H fun r H' => r = .bool true ∧ Keep (fun _ => False) H H' := by
  refine calls_of_vc hk (args := [_, _]) (by simp) ?_
  unfold c_lnequals r_lnequals
  simp only [go_sem, List.map_cons, List.map_nil, ↓reduceIte, Nat.reduceEqDiff, Nat.reduceAdd, Nat.reduceMul, reduceCtorEq, and_true, true_and, Nat.mul_one, Nat.zero_add, Bool.false_eq_true, decide_true, decide_false, not_false_eq_true, kont_eq, beq_self_eq_true, bne_self_eq_false, Int.reduceBEq, Int.reduceBNe, Int.cast_ofNat_Int]
  refine (ha _).mono ?_
  rintro r H1 ⟨rfl, K1⟩
  simp only [go_sem, List.map_cons, List.map_nil, ↓reduceIte, Nat.reduceEqDiff, Nat.reduceAdd, Nat.reduceMul, reduceCtorEq, and_true, true_and, Nat.mul_one, Nat.zero_add, Bool.false_eq_true, decide_true, decide_false, not_false_eq_true, kont_eq, beq_self_eq_true, bne_self_eq_false, Int.reduceBEq, Int.reduceBNe, Int.cast_ofNat_Int]
  refine (hw _ _ _ (hv.keep K1 (by simp))).mono ?_
  rintro vw H3 ⟨O3, o3, K3⟩
  have K3' := K1.trans K3
  have hwl := wordsF_len l (min l.length 24) (by omega)
  have hws := wordsF_small l (min l.length 24)
  generalize wordsF l (min l.length 24) = w at *
  have S3 := O3.sl
  simp only [go_sem, List.map_cons, List.map_nil, ↓reduceIte, Nat.reduceEqDiff, Nat.reduceAdd, Nat.reduceMul, reduceCtorEq, and_true, true_and, Nat.mul_one, Nat.zero_add, Bool.false_eq_true, decide_true, decide_false, not_false_eq_true, kont_eq, beq_self_eq_true, bne_self_eq_false, Int.reduceBEq, Int.reduceBNe, Int.cast_ofNat_Int, S3.isSl, S3.len, sL_len]
  have hw24 : w.length ≤ 24 := by omega
  refine vc_loop [21, 8, 27, 5, 20] rfl (fun n f H' => ∃ i told, i ≤ w.length ∧ n = w.length - i ∧ f 20 = .int .i64 i ∧ OwS H' (f 5) (sL told) ∧ (∀ k, ownB (f 5) k → H3.size ≤ k)
      ∧ told.length ≤ i ∧ Cl told ∧ Keep (fun _ => False) H3 H') w.length
    ⟨0, [], by omega, by omega, rfl, OwS.nil _, fun k h => h.elim, by simp, Cl.nil, Keep.refl _ _⟩ ?_
  rintro n g H4 ⟨i, told, hi, rfl, hf31, O4, o4, ht, hC, K4⟩
  simp only [go_sem, List.map_cons, List.map_nil, ↓reduceIte, Nat.reduceEqDiff, Nat.reduceAdd, Nat.reduceMul, reduceCtorEq, and_true, true_and, Nat.mul_one, Nat.zero_add, Bool.false_eq_true, decide_true, decide_false, not_false_eq_true, kont_eq, beq_self_eq_true, bne_self_eq_false, Int.reduceBEq, Int.reduceBNe, Int.cast_ofNat_Int] at hf31 O4 o4
  simp only [go_sem, List.map_cons, List.map_nil, ↓reduceIte, Nat.reduceEqDiff, Nat.reduceAdd, Nat.reduceMul, reduceCtorEq, and_true, true_and, Nat.mul_one, Nat.zero_add, Bool.false_eq_true, decide_true, decide_false, not_false_eq_true, kont_eq, beq_self_eq_true, bne_self_eq_false, Int.reduceBEq, Int.reduceBNe, Int.cast_ofNat_Int, hf31]
  refine iteV_dec (fun hlt => ?_) (fun hge => ?_)
  · have hi2 : i < w.length := by omega
    obtain ⟨bV, oV, cV, rfl, -, -⟩ := S3.cells (by intro e; have h := congrArg List.length e; rw [sL_len, List.length_nil] at h; omega)
    have hcell := (S3.keep K4 (by simp)).cell_at (i := i) (by rw [sL_len]; omega)
    rw [sL_get _ _ hi2] at hcell
    have hsl := hws i hi2
    generalize w.getD i [] = s at *
    simp (disch := omega) only [go_sem, List.map_cons, List.map_nil, ↓reduceIte, Nat.reduceEqDiff, Nat.reduceAdd, Nat.reduceMul, reduceCtorEq, and_true, true_and, Nat.mul_one, Nat.zero_add, Bool.false_eq_true, decide_true, decide_false, not_false_eq_true, kont_eq, beq_self_eq_true, bne_self_eq_false, Int.reduceBEq, Int.reduceBNe, Int.cast_ofNat_Int, hf31, hcell, sL_len, tn_cast]
    refine And.intro (by omega) ?_
    refine (hck told s 100 _ _ O4.sl (by omega) (by omega)).mono ?_
    rintro r H6 ⟨rfl, K6⟩
    have O6 := O4.keep K6 (by simp)
    have K6' := K4.trans K6
    by_cases he : addE told s 100 = 0
    · have e1 : (addE told s 100 == 0) = true := by rw [he]; rfl
      simp (disch := omega) only [go_sem, List.map_cons, List.map_nil, ↓reduceIte, Nat.reduceEqDiff, Nat.reduceAdd, Nat.reduceMul, reduceCtorEq, and_true, true_and, Nat.mul_one, Nat.zero_add, Bool.false_eq_true, decide_true, decide_false, not_false_eq_true, kont_eq, beq_self_eq_true, bne_self_eq_false, Int.reduceBEq, Int.reduceBNe, Int.cast_ofNat_Int, hf31, e1]
      generalize hA : Array.push H6 _ = H7
      have KA : Keep (fun _ => False) H6 H7 := by rw [← hA]; exact (Keep.refl _ _).push _
      have BA : Bl H7 H6.size (sL [s]) := by rw [← hA]; exact Bl.new' _ _ _
      have k6 := K6'.size
      have k7 := KA.size
      refine app_slN H3.size (l := sL told) (m := sL [s]) (O6.keep KA (by simp)) o4 (by omega) (SlR.bl BA 0 1 1 (by omega) (by simp [sL])) (sL_all1 _) rfl (by omega) (by rw [sL_len, sL_len]; simp; omega) fun v8 H8 O8 o8 K8 => ?_
      rw [← sL_app] at O8
      simp (disch := omega) only [go_sem, List.map_cons, List.map_nil, ↓reduceIte, Nat.reduceEqDiff, Nat.reduceAdd, Nat.reduceMul, reduceCtorEq, and_true, true_and, Nat.mul_one, Nat.zero_add, Bool.false_eq_true, decide_true, decide_false, not_false_eq_true, kont_eq, beq_self_eq_true, bne_self_eq_false, Int.reduceBEq, Int.reduceBNe, Int.cast_ofNat_Int, hf31, IntWalk.i64_in]
      exact ⟨w.length - (i + 1), by omega, i + 1, told ++ [s], by omega, rfl, by simp, O8, o8, by simp; omega, hC.push he, (K6'.trans KA).at_old K8 (Nat.le_refl _)⟩
    · have e2 : (addE told s 100 == 0) = false := by simpa using he
      simp (disch := omega) only [go_sem, List.map_cons, List.map_nil, ↓reduceIte, Nat.reduceEqDiff, Nat.reduceAdd, Nat.reduceMul, reduceCtorEq, and_true, true_and, Nat.mul_one, Nat.zero_add, Bool.false_eq_true, decide_true, decide_false, not_false_eq_true, kont_eq, beq_self_eq_true, bne_self_eq_false, Int.reduceBEq, Int.reduceBNe, Int.cast_ofNat_Int, hf31, e2, IntWalk.i64_in]
      exact ⟨w.length - (i + 1), by omega, i + 1, told, by omega, rfl, by simp, O6, o4, by omega, hC, K6'⟩
  have K4' := K3'.trans K4
  refine (hw _ _ _ (hu.keep K4' (by simp))).mono ?_
  rintro vw2 H13 ⟨O13, o13, K13⟩
  have K13' := K4'.trans K13
  have hwl2 := wordsF_len m (min m.length 24) (by omega)
  have hws2 := wordsF_small m (min m.length 24)
  generalize wordsF m (min m.length 24) = w2 at *
  have S13 := O13.sl
  have hw224 : w2.length ≤ 24 := by omega
  have OT := O4.keep K13 (by simp)
  simp only [go_sem, List.map_cons, List.map_nil, ↓reduceIte, Nat.reduceEqDiff, Nat.reduceAdd, Nat.reduceMul, reduceCtorEq, and_true, true_and, Nat.mul_one, Nat.zero_add, Bool.false_eq_true, decide_true, decide_false, not_false_eq_true, kont_eq, beq_self_eq_true, bne_self_eq_false, Int.reduceBEq, Int.reduceBNe, Int.cast_ofNat_Int, S13.isSl, S13.len, sL_len]
  refine vc_loop [37, 10, 43, 6, 36] rfl (fun n f H' => ∃ i told, i ≤ w2.length ∧ n = w2.length - i ∧ f 36 = .int .i64 i ∧ OwS H' (f 6) (sL told) ∧ (∀ k, ownB (f 6) k → H13.size ≤ k)
      ∧ told.length ≤ i ∧ Cl told ∧ Keep (fun _ => False) H13 H') w2.length
    ⟨0, [], by omega, by omega, rfl, OwS.nil _, fun k h => h.elim, by simp, Cl.nil, Keep.refl _ _⟩ ?_
  rintro n g' H14 ⟨j, told2, hj, rfl, hf36, O14, o14, ht2, hC2, K14⟩
  simp only [go_sem, List.map_cons, List.map_nil, ↓reduceIte, Nat.reduceEqDiff, Nat.reduceAdd, Nat.reduceMul, reduceCtorEq, and_true, true_and, Nat.mul_one, Nat.zero_add, Bool.false_eq_true, decide_true, decide_false, not_false_eq_true, kont_eq, beq_self_eq_true, bne_self_eq_false, Int.reduceBEq, Int.reduceBNe, Int.cast_ofNat_Int] at hf36 O14 o14
  simp only [go_sem, List.map_cons, List.map_nil, ↓reduceIte, Nat.reduceEqDiff, Nat.reduceAdd, Nat.reduceMul, reduceCtorEq, and_true, true_and, Nat.mul_one, Nat.zero_add, Bool.false_eq_true, decide_true, decide_false, not_false_eq_true, kont_eq, beq_self_eq_true, bne_self_eq_false, Int.reduceBEq, Int.reduceBNe, Int.cast_ofNat_Int, hf36]
  refine iteV_dec (fun hlt => ?_) (fun hge => ?_)
  · have hi2 : j < w2.length := by omega
    obtain ⟨bV, oV, cV, rfl, -, -⟩ := S13.cells (by intro e; have h := congrArg List.length e; rw [sL_len, List.length_nil] at h; omega)
    have hcell := (S13.keep K14 (by simp)).cell_at (i := j) (by rw [sL_len]; omega)
    rw [sL_get _ _ hi2] at hcell
    have hsl := hws2 j hi2
    generalize w2.getD j [] = s at *
    simp (disch := omega) only [go_sem, List.map_cons, List.map_nil, ↓reduceIte, Nat.reduceEqDiff, Nat.reduceAdd, Nat.reduceMul, reduceCtorEq, and_true, true_and, Nat.mul_one, Nat.zero_add, Bool.false_eq_true, decide_true, decide_false, not_false_eq_true, kont_eq, beq_self_eq_true, bne_self_eq_false, Int.reduceBEq, Int.reduceBNe, Int.cast_ofNat_Int, hf36, hcell, sL_len, tn_cast]
    refine And.intro (by omega) ?_
    refine (hck told2 s 100 _ _ O14.sl (by omega) (by omega)).mono ?_
    rintro r H6 ⟨rfl, K6⟩
    have O6 := O14.keep K6 (by simp)
    have K6' := K14.trans K6
    by_cases he : addE told2 s 100 = 0
    · have e1 : (addE told2 s 100 == 0) = true := by rw [he]; rfl
      simp (disch := omega) only [go_sem, List.map_cons, List.map_nil, ↓reduceIte, Nat.reduceEqDiff, Nat.reduceAdd, Nat.reduceMul, reduceCtorEq, and_true, true_and, Nat.mul_one, Nat.zero_add, Bool.false_eq_true, decide_true, decide_false, not_false_eq_true, kont_eq, beq_self_eq_true, bne_self_eq_false, Int.reduceBEq, Int.reduceBNe, Int.cast_ofNat_Int, hf36, e1]
      generalize hA : Array.push H6 _ = H7
      have KA : Keep (fun _ => False) H6 H7 := by rw [← hA]; exact (Keep.refl _ _).push _
      have BA : Bl H7 H6.size (sL [s]) := by rw [← hA]; exact Bl.new' _ _ _
      have k6 := K6'.size
      have k7 := KA.size
      refine app_slN H13.size (l := sL told2) (m := sL [s]) (O6.keep KA (by simp)) o14 (by omega) (SlR.bl BA 0 1 1 (by omega) (by simp [sL])) (sL_all1 _) rfl (by omega) (by rw [sL_len, sL_len]; simp; omega) fun v8 H8 O8 o8 K8 => ?_
      rw [← sL_app] at O8
      simp (disch := omega) only [go_sem, List.map_cons, List.map_nil, ↓reduceIte, Nat.reduceEqDiff, Nat.reduceAdd, Nat.reduceMul, reduceCtorEq, and_true, true_and, Nat.mul_one, Nat.zero_add, Bool.false_eq_true, decide_true, decide_false, not_false_eq_true, kont_eq, beq_self_eq_true, bne_self_eq_false, Int.reduceBEq, Int.reduceBNe, Int.cast_ofNat_Int, hf36, IntWalk.i64_in]
      exact ⟨w2.length - (j + 1), by omega, j + 1, told2 ++ [s], by omega, rfl, by simp, O8, o8, by simp; omega, hC2.push he, (K6'.trans KA).at_old K8 (Nat.le_refl _)⟩
    · have e2 : (addE told2 s 100 == 0) = false := by simpa using he
      simp (disch := omega) only [go_sem, List.map_cons, List.map_nil, ↓reduceIte, Nat.reduceEqDiff, Nat.reduceAdd, Nat.reduceMul, reduceCtorEq, and_true, true_and, Nat.mul_one, Nat.zero_add, Bool.false_eq_true, decide_true, decide_false, not_false_eq_true, kont_eq, beq_self_eq_true, bne_self_eq_false, Int.reduceBEq, Int.reduceBNe, Int.cast_ofNat_Int, hf36, e2, IntWalk.i64_in]
      exact ⟨w2.length - (j + 1), by omega, j + 1, told2, by omega, rfl, by simp, O6, o14, by omega, hC2, K6'⟩
  have K14' := K13'.trans K14
  have OA := OT.keep K14 (by simp)
  have z1 := hC.ofE
  have z2 := hC2.ofE
  refine (hof told _ 100 _ OA.sl hC.wsmall).mono ?_
  rintro r H15 ⟨K15, h15⟩
  rcases h15 with ⟨he, -⟩ | ⟨-, t, F, rfl, T15, d15⟩
  · exact absurd z1 he
  simp only [go_sem, List.map_cons, List.map_nil, ↓reduceIte, Nat.reduceEqDiff, Nat.reduceAdd, Nat.reduceMul, reduceCtorEq, and_true, true_and, Nat.mul_one, Nat.zero_add, Bool.false_eq_true, decide_true, decide_false, not_false_eq_true, kont_eq, beq_self_eq_true, bne_self_eq_false, Int.reduceBEq, Int.reduceBNe, Int.cast_ofNat_Int]
  refine (hof told2 _ 100 _ (O14.keep K15 (by simp)).sl hC2.wsmall).mono ?_
  rintro r H16 ⟨K16, h16⟩
  rcases h16 with ⟨he, -⟩ | ⟨-, t', F', rfl, T16, d16⟩
  · exact absurd z2 he
  have K16' := (K14'.trans K15).trans K16
  have T15' := T15.keep K16 (by simp)
  have OA' := (OA.keep K15 (by simp)).keep K16 (by simp)
  have OB' := (O14.keep K15 (by simp)).keep K16 (by simp)
  simp only [go_sem, List.map_cons, List.map_nil, ↓reduceIte, Nat.reduceEqDiff, Nat.reduceAdd, Nat.reduceMul, reduceCtorEq, and_true, true_and, Nat.mul_one, Nat.zero_add, Bool.false_eq_true, decide_true, decide_false, not_false_eq_true, kont_eq, beq_self_eq_true, bne_self_eq_false, Int.reduceBEq, Int.reduceBNe, Int.cast_ofNat_Int]
  refine vc_drk (fun _ => False) ?_
  simp only [go_sem, List.map_cons, List.map_nil, ↓reduceIte, Nat.reduceEqDiff, Nat.reduceAdd, Nat.reduceMul, reduceCtorEq, and_true, true_and, Nat.mul_one, Nat.zero_add, Bool.false_eq_true, decide_true, decide_false, not_false_eq_true, kont_eq, beq_self_eq_true, bne_self_eq_false, Int.reduceBEq, Int.reduceBNe, Int.cast_ofNat_Int]
  have lC := hC.len
  refine (heq.1 _ _ _ _ _ _ _ T15' T16 (by omega)).mono ?_
  rintro r H17 ⟨rfl, rfl⟩
  simp only [go_sem, List.map_cons, List.map_nil, ↓reduceIte, Nat.reduceEqDiff, Nat.reduceAdd, Nat.reduceMul, reduceCtorEq, and_true, true_and, Nat.mul_one, Nat.zero_add, Bool.false_eq_true, decide_true, decide_false, not_false_eq_true, kont_eq, beq_self_eq_true, bne_self_eq_false, Int.reduceBEq, Int.reduceBNe, Int.cast_ofNat_Int]
  refine ⟨Keep.refl _ _, ?_⟩
  refine (hsm _ _ _ _ _ OA'.sl OB'.sl (by omega)).mono ?_
  rintro r H18 ⟨rfl, rfl⟩
  simp only [go_sem, List.map_cons, List.map_nil, ↓reduceIte, Nat.reduceEqDiff, Nat.reduceAdd, Nat.reduceMul, reduceCtorEq, and_true, true_and, Nat.mul_one, Nat.zero_add, Bool.false_eq_true, decide_true, decide_false, not_false_eq_true, kont_eq, beq_self_eq_true, bne_self_eq_false, Int.reduceBEq, Int.reduceBNe, Int.cast_ofNat_Int]
  refine ⟨Keep.refl _ _, ?_⟩
  refine (heq.1 _ _ _ _ _ _ _ T15' T16 (by omega)).mono ?_
  rintro r H17 ⟨rfl, rfl⟩
  simp only [go_sem, List.map_cons, List.map_nil, ↓reduceIte, Nat.reduceEqDiff, Nat.reduceAdd, Nat.reduceMul, reduceCtorEq, and_true, true_and, Nat.mul_one, Nat.zero_add, Bool.false_eq_true, decide_true, decide_false, not_false_eq_true, kont_eq, beq_self_eq_true, bne_self_eq_false, Int.reduceBEq, Int.reduceBNe, Int.cast_ofNat_Int]
  refine ⟨Keep.refl _ _, ?_⟩
  refine (hby _ _ _ _ T15' hC.nsmall).mono ?_
  rintro r H19 ⟨O19, o19, K19⟩
  have b19 := O19.sl.bytesIn
  simp only [go_sem, List.map_cons, List.map_nil, ↓reduceIte, Nat.reduceEqDiff, Nat.reduceAdd, Nat.reduceMul, reduceCtorEq, and_true, true_and, Nat.mul_one, Nat.zero_add, Bool.false_eq_true, decide_true, decide_false, not_false_eq_true, kont_eq, beq_self_eq_true, bne_self_eq_false, Int.reduceBEq, Int.reduceBNe, Int.cast_ofNat_Int, b19, toBA_w8]
  refine ⟨K19, okB2s_w8 b19, ?_⟩
  refine (hby _ _ _ _ (T16.keep K19 (by simp)) hC2.nsmall).mono ?_
  rintro r H20 ⟨O20, o20, K20⟩
  have b20 := O20.sl.bytesIn
  have hinj : decide (tbytes told = tbytes told2) = decide (told = told2) := by
    by_cases e : told = told2
    · rw [decide_eq_true e, decide_eq_true ((tbytes_inj hC hC2).2 e)]
    · rw [decide_eq_false e, decide_eq_false (fun h => e ((tbytes_inj hC hC2).1 h))]
  simp only [go_sem, List.map_cons, List.map_nil, ↓reduceIte, Nat.reduceEqDiff, Nat.reduceAdd, Nat.reduceMul, reduceCtorEq, and_true, true_and, Nat.mul_one, Nat.zero_add, Bool.false_eq_true, decide_true, decide_false, not_false_eq_true, kont_eq, beq_self_eq_true, bne_self_eq_false, Int.reduceBEq, Int.reduceBNe, Int.cast_ofNat_Int, b20, toBA_w8, ba_tlb, hinj]
  exact ⟨K20, okB2s_w8 b20, (K16'.trans K19).trans K20⟩
end Go.Mg

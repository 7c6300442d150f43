/- keccak: the laws of texts and of parsing. -/
import Derived.Test.YthffkklaodanaaaDoorMgK16
namespace Go.Mg
open Go Go.RowKit
set_option linter.unusedSimpArgs false
set_option linter.unusedVariables false
set_option maxRecDepth 100000
/- arbaclaw03.KeccakTexts -/
def c_ltexts (ι : Ids) : S :=
  .seq (.reg [.e (.v 1) (.box (ι.t 32) (.v 0)), .p (.v 2) (.mv (.c (.bool false)))]) (.seq (.seq (.reg [.e (.t 6) (.call (ι.f 21) []), .p (.v 7) (.not (.t 6))]) (.ite (.v 7) (.seq (.reg [.p (.v 2) (.mv
  (.c (.bool false)))]) .ret) .skip)) (.seq (.reg [.p (.t 8) (.m (.ldn 32 (.v 1))), .e (.t 9) (.call (ι.f 20) [.t 8]), .p (.v 3) (.mv (.t 9))]) (.seq (.reg [.p (.t 11) (.mv (.v 3)), .e (.t 12) (.call
  (ι.f 40) [.t 11]), .p (.t 10) (.mv (.t 12)), .p (.t 13) (.ext (.t 10) 0), .p (.t 14) (.ext (.t 10) 1), .e (.v 4) (.new (ι.t 9) (Array.replicate 32 (.int .u8 0))), .e .no (.stn 32 (.v 4) (.t 13)), .p
  (.v 5) (.mv (.t 14))]) (.seq (.reg [.p (.t 15) (.mv (.v 3)), .p (.t 16) (.m (.sla 32 1 (.v 1) .none .none)), .e (.t 17) (.call (ι.f 36) [.t 16]), .p (.t 18) (.sc .eql (.t 15) (.t 17)), .p (.t 19) (.mv
  (.t 18)), .gp (.t 20) (.t 19) true (.mv (.v 5)), .gp (.t 21) (.t 19) true (.cm .eql .i64 (.t 20) (.c (.int .i64 0))), .p (.t 22) (.pick (.t 19) (.t 21) (.c (.bool false))), .p (.t 23) (.mv (.t 22)),
  .gp (.t 24) (.t 23) true (.m (.ldn 32 (.v 4))), .gp (.t 25) (.t 23) true (.m (.ldn 32 (.v 1))), .gp (.t 26) (.t 23) true (.m (.eqa false .u8 32 (.t 24) (.t 25))), .p (.t 27) (.pick (.t 23) (.t 26) (.c
  (.bool false))), .p (.v 2) (.mv (.t 27))]) .ret))))
def r_ltexts : List RV := [.t 2]
/- arbaclaw03.KeccakParses -/
def c_lparses (ι : Ids) : S :=
  .seq (.reg [.p (.v 2) (.mv (.c (.bool false)))]) (.seq (.seq (.reg [.e (.t 7) (.call (ι.f 21) []), .p (.v 8) (.not (.t 7))]) (.ite (.v 8) (.seq (.reg [.p (.v 2) (.mv (.c (.bool false)))]) .ret)
  .skip)) (.seq (.reg [.p (.t 10) (.mv (.v 0)), .e (.t 11) (.call (ι.f 40) [.t 10]), .p (.t 9) (.mv (.t 11)), .p (.t 12) (.ext (.t 9) 0), .p (.t 13) (.ext (.t 9) 1), .e (.v 3) (.new (ι.t 9)
  (Array.replicate 32 (.int .u8 0))), .e .no (.stn 32 (.v 3) (.t 12)), .p (.v 4) (.mv (.t 13))]) (.seq (.reg [.p (.t 15) (.mv (.v 0)), .e (.t 16) (.call (ι.f 38) [.t 15]), .p (.t 14) (.mv (.t 16)), .p
  (.t 17) (.ext (.t 14) 0), .p (.t 18) (.ext (.t 14) 1), .e (.v 5) (.new (ι.t 32) (Array.replicate 32 (.int .u8 0))), .e .no (.stn 32 (.v 5) (.t 17)), .p (.v 6) (.mv (.t 18))]) (.seq (.seq (.reg [.p (.t
  19) (.mv (.v 6)), .p (.v 20) (.not (.t 19))]) (.ite (.v 20) (.seq (.reg [.p (.t 21) (.mv (.v 4)), .p (.t 22) (.cm .eql .i64 (.t 21) (.c (.int .i64 6))), .p (.t 23) (.mv (.t 22)), .gp (.t 24) (.t 23)
  true (.m (.ldn 32 (.v 3))), .gp (.t 25) (.t 23) true (.m (.bld (Array.replicate 32 (.int .u8 0)) [])), .gp (.t 26) (.t 23) true (.m (.eqa false .u8 32 (.t 24) (.t 25))), .p (.t 27) (.pick (.t 23) (.t
  26) (.c (.bool false))), .p (.v 2) (.mv (.t 27))]) .ret) .skip)) (.seq (.reg [.p (.t 28) (.mv (.v 4)), .p (.t 29) (.cm .eql .i64 (.t 28) (.c (.int .i64 0))), .p (.t 30) (.mv (.t 29)), .gp (.t 31) (.t
  30) true (.m (.ldn 32 (.v 3))), .gp (.t 32) (.t 30) true (.m (.ldn 32 (.v 5))), .gp (.t 33) (.t 30) true (.m (.eqa false .u8 32 (.t 31) (.t 32))), .p (.t 34) (.pick (.t 30) (.t 33) (.c (.bool
  false))), .p (.t 35) (.mv (.t 34)), .gp (.t 36) (.t 35) true (.m (.ldn 32 (.v 3))), .ge (.t 37) (.t 35) true (.call (ι.f 20) [.t 36]), .gp (.t 38) (.t 35) true (.mv (.v 0)), .gp (.t 39) (.t 35) true
  (.sc .eql (.t 37) (.t 38)), .p (.t 40) (.pick (.t 35) (.t 39) (.c (.bool false))), .p (.v 2) (.mv (.t 40))]) .ret)))))
def r_lparses : List RV := [.t 2]

theorem hexF_get (d : List UInt8) (i : Nat) (h : i < d.length) : (hexF d).getD (2 * i) 0 = digL.getD ((d.getD i 0).toNat / 16) 0 ∧ (hexF d).getD (2 * i + 1) 0 = digL.getD ((d.getD i 0).toNat % 16) 0 := by
  induction d generalizing i with
  | nil => simp at h
  | cons x d ih =>
    cases i with
    | zero => simp [hexF, hexB]
    | succ i =>
      have := ih i (by simpa using h)
      have e1 : 2 * (i + 1) = 2 * i + 2 := by omega
      have e2 : 2 * (i + 1) + 1 = 2 * i + 1 + 2 := by omega
      have eh : hexF (x :: d) = digL.getD (x.toNat / 16) 0 :: digL.getD (x.toNat % 16) 0 :: hexF d := rfl
      rw [e2, e1, eh]
      simp only [List.getD_cons_succ]
      exact this
theorem hex_hex (d : List UInt8) (hd : d.length = 32) : Hex64 (hexF d) := by
  refine ⟨by rw [hexF_len]; omega, fun j hj => ?_⟩
  obtain ⟨h1, h2⟩ := hexF_get d (j / 2) (by omega)
  have hx := (d.getD (j / 2) 0).toNat_lt
  rcases Nat.mod_two_eq_zero_or_one j with e | e
  · have : 2 * (j / 2) = j := by omega
    rw [this] at h1
    rw [h1, hval_dig _ (by omega)]
    show (UInt8.ofNat _).toNat < 16
    rw [UInt8.toNat_ofNat']; omega
  · have : 2 * (j / 2) + 1 = j := by omega
    rw [this] at h2
    rw [h2, hval_dig _ (by omega)]
    show (UInt8.ofNat _).toNat < 16
    rw [UInt8.toNat_ofNat']; omega
theorem recomb (x : UInt8) : 16 * UInt8.ofNat (x.toNat / 16) + UInt8.ofNat (x.toNat % 16) = x := by
  revert x
  exact all8 (by decide +kernel)
theorem recomb2 (a b : UInt8) (ha : a < 16) (hb : b < 16) : (16 * a + b).toNat / 16 = a.toNat ∧ (16 * a + b).toNat % 16 = b.toNat := by
  have ha' : a.toNat < 16 := ha
  have hb' : b.toNat < 16 := hb
  have : (16 * a + b).toNat = 16 * a.toNat + b.toNat := by
    rw [UInt8.toNat_add, UInt8.toNat_mul]
    have : (16 : UInt8).toNat = 16 := rfl
    rw [this]; omega
  omega
theorem pN_get (s : List UInt8) : ∀ n i, i < n → n ≤ 32 → (pN s n).getD i 0 = 16 * hval (s.getD (2 * i) 0) + hval (s.getD (2 * i + 1) 0)
  | n + 1, i, h, hn => by
    have hl := pN_len s n
    unfold pN at hl ⊢
    simp only [iter]
    by_cases e : i = n
    · subst e
      generalize iter i _ _ = l at *
      rw [List.getD_eq_getElem?_getD, List.getElem?_set_self (by omega)]; rfl
    · rw [List.getD_eq_getElem?_getD, List.getElem?_set_ne (by omega), ← List.getD_eq_getElem?_getD]
      exact pN_get s n i (by omega) (by omega)
theorem ext_getD {a b : List UInt8} (hl : a.length = b.length) (h : ∀ i, i < a.length → a.getD i 0 = b.getD i 0) : a = b := by
  apply List.ext_getElem hl
  intro i h1 h2
  have := h i h1
  simpa [List.getD_eq_getElem?_getD, h1, h2] using this
theorem parse_hex (d : List UInt8) (hd : d.length = 32) : pN (hexF d) 32 = d := by
  refine ext_getD (by rw [pN_len, hd]) fun i hi => ?_
  rw [pN_len] at hi
  obtain ⟨h1, h2⟩ := hexF_get d i (by omega)
  have hx := (d.getD i 0).toNat_lt
  rw [pN_get _ _ _ hi (by omega), h1, h2, hval_dig _ (by omega), hval_dig _ (by omega), recomb]
theorem hex_parse (s : List UInt8) (h : Hex64 s) : hexF (pN s 32) = s := by
  have hl : (hexF (pN s 32)).length = 64 := by rw [hexF_len, pN_len]
  refine ext_getD (by rw [hl, h.1]) fun j hj => ?_
  rw [hl] at hj
  obtain ⟨h1, h2⟩ := hexF_get (pN s 32) (j / 2) (by rw [pN_len]; omega)
  rw [pN_get _ _ _ (by omega) (by omega)] at h1 h2
  have a1 := h.2 (2 * (j / 2)) (by omega)
  have a2 := h.2 (2 * (j / 2) + 1) (by omega)
  obtain ⟨r1, r2⟩ := recomb2 _ _ a1 a2
  rw [r1, dig_hval _ a1] at h1
  rw [r2, dig_hval _ a2] at h2
  rcases Nat.mod_two_eq_zero_or_one j with e | e
  · have : 2 * (j / 2) = j := by omega
    rw [this] at h1; exact h1
  · have : 2 * (j / 2) + 1 = j := by omega
    rw [this] at h2; exact h2

theorem texts_ok {P : Program} {ι : Ids} {k : FuncId} (hk : FnIs P k (c_ltexts ι) r_ltexts 1) (ha : AwakeSpec P ι (ι.f 21)) (ht : TextSpec P (ι.f 20)) (hp : ParseSpec P (ι.f 40)) (hr : RTextSpec P (ι.f 36))
    (d : List UInt8) (H : Hp) (hG : GlobOk ι H) (hd : d.length = 32) : CallsM P k #[.agg (w8 d).toArray] H fun r H' => r = .bool true ∧ Keep (fun _ => False) H H' := by
  refine calls_of_vc hk (args := [_]) (by simp) ?_
  unfold c_ltexts r_ltexts
  have lw : (w8 d).length = 32 := by rw [w8_len, hd]
  have t32 : List.take 32 (w8 d) = w8 d := List.take_of_length_le (by omega)
  simp only [go_sem, List.map_cons, List.map_nil, ↓reduceIte, Nat.reduceEqDiff, Nat.reduceAdd, Nat.reduceMul, reduceCtorEq, and_true, true_and, Nat.mul_one, Nat.zero_add, Bool.false_eq_true, decide_true, decide_false, not_false_eq_true, cells_agg]
  refine kont_new fun H1 b1 e1 z1 B1 K1 => ?_
  have B1 : Bl H1 b1 (w8 d) := B1
  simp only [go_sem, List.map_cons, List.map_nil, ↓reduceIte, Nat.reduceEqDiff, Nat.reduceAdd, Nat.reduceMul, reduceCtorEq, and_true, true_and, Nat.mul_one, Nat.zero_add, Bool.false_eq_true, decide_true, decide_false, not_false_eq_true, kont_eq]
  refine (ha _ (hG.keep K1 (by simp) (by simp))).mono ?_
  rintro r H2 ⟨rfl, K2⟩
  have B2 := K2.bl B1 (by simp)
  have K2' := K1.trans K2
  simp only [go_sem, List.map_cons, List.map_nil, ↓reduceIte, Nat.reduceEqDiff, Nat.reduceAdd, Nat.reduceMul, reduceCtorEq, and_true, true_and, Nat.mul_one, Nat.zero_add, Bool.false_eq_true, decide_true, decide_false, not_false_eq_true, kont_eq, ldNO_ptr, B2.ldNA (o := 0) (n := 32) (by omega), List.drop_zero, t32]
  refine (ht _ _ hd).mono ?_
  rintro r H3 ⟨rfl, K3⟩
  have K3' := K2'.trans K3
  simp only [go_sem, List.map_cons, List.map_nil, ↓reduceIte, Nat.reduceEqDiff, Nat.reduceAdd, Nat.reduceMul, reduceCtorEq, and_true, true_and, Nat.mul_one, Nat.zero_add, Bool.false_eq_true, decide_true, decide_false, not_false_eq_true, kont_eq]
  refine (hp _ _).mono ?_
  rintro r H4 ⟨hR, K4⟩
  have K4' := K3'.trans K4
  rcases hR with ⟨-, rfl⟩ | ⟨hn, -⟩
  case inr => exact (hn (hex_hex d hd)).elim
  rw [parse_hex d hd]
  have B4 := (K3.trans K4).bl B2 (by simp)
  have hb4 := B4.lt
  rw [kont_eq]
  simp only [go_sem, List.map_cons, List.map_nil, ↓reduceIte, Nat.reduceEqDiff, Nat.reduceAdd, Nat.reduceMul, reduceCtorEq, and_true, true_and, Nat.mul_one, Nat.zero_add, Bool.false_eq_true, decide_true, decide_false, not_false_eq_true]
  refine kont_new fun H5 b5 e5 z5 B5 K5 => ?_
  rw [z32L] at B5
  have K5' := K4'.trans K5
  have B5d := K5.bl B4 (by simp)
  have U := B5.stNA 0 (w8 d)
  rw [wrL_all _ _ (by rw [lw]; simp [w8])] at U
  have V := B5d.stNA_ne (p := ⟨b5, 0, none⟩) (w8 d) (by simp only []; omega)
  have KU : Keep (fun _ => False) H (stNA H5 ⟨b5, 0, none⟩ (w8 d)) := K5'.stNA _ (.inr (by simp only []; have := K4'.size; omega))
  simp only [go_sem, List.map_cons, List.map_nil, ↓reduceIte, Nat.reduceEqDiff, Nat.reduceAdd, Nat.reduceMul, reduceCtorEq, and_true, true_and, Nat.mul_one, Nat.zero_add, Bool.false_eq_true, decide_true, decide_false, not_false_eq_true, kont_eq, okN_ptr, stNH_ptr, cells_agg]
  refine ⟨⟨B5.okNA (by simp [w8]), by simp [lw], w8_all1 _⟩, ?_⟩
  have hS := SlR.bl V 0 32 32 (by omega) (by omega)
  rw [List.drop_zero, t32] at hS
  refine (hr _ _ _ hS (by omega)).mono ?_
  rintro r H6 ⟨rfl, rfl⟩
  simp only [go_sem, List.map_cons, List.map_nil, ↓reduceIte, Nat.reduceEqDiff, Nat.reduceAdd, Nat.reduceMul, reduceCtorEq, and_true, true_and, Nat.mul_one, Nat.zero_add, Bool.false_eq_true, decide_true, decide_false, not_false_eq_true, kont_eq, ldNO_ptr, U.ldNA (o := 0) (n := 32) (by omega), V.ldNA (o := 0) (n := 32) (by omega), List.drop_zero, t32, beq_self_eq_true, lw, w8_eqv]
  exact ⟨⟨w8_isI _, w8_isI _⟩, KU⟩

theorem parses_ok {P : Program} {ι : Ids} {k : FuncId} (hk : FnIs P k (c_lparses ι) r_lparses 1) (ha : AwakeSpec P ι (ι.f 21)) (ht : TextSpec P (ι.f 20)) (hp : ParseSpec P (ι.f 40)) (hr : RParseSpec P (ι.f 38))
    (s : List UInt8) (H : Hp) (hG : GlobOk ι H) : CallsM P k #[.string ⟨s.toArray⟩] H fun r H' => r = .bool true ∧ Keep (fun _ => False) H H' := by
  refine calls_of_vc hk (args := [_]) (by simp) ?_
  unfold c_lparses r_lparses
  simp only [go_sem, List.map_cons, List.map_nil, ↓reduceIte, Nat.reduceEqDiff, Nat.reduceAdd, Nat.reduceMul, reduceCtorEq, and_true, true_and, Nat.mul_one, Nat.zero_add, Bool.false_eq_true, decide_true, decide_false, not_false_eq_true, kont_eq]
  refine (ha _ hG).mono ?_
  rintro r H2 ⟨rfl, K2⟩
  simp only [go_sem, List.map_cons, List.map_nil, ↓reduceIte, Nat.reduceEqDiff, Nat.reduceAdd, Nat.reduceMul, reduceCtorEq, and_true, true_and, Nat.mul_one, Nat.zero_add, Bool.false_eq_true, decide_true, decide_false, not_false_eq_true, kont_eq]
  refine (hp _ _).mono ?_
  rintro r H4 ⟨hR, K4⟩
  have K4' := K2.trans K4
  have t32 : ∀ l : List UInt8, l.length = 32 → List.take 32 (w8 l) = w8 l := fun l hl => List.take_of_length_le (by rw [w8_len, hl]; omega)
  have z32 : (List.replicate 32 (0 : UInt8)).length = 32 := by simp
  rcases hR with ⟨hx, rfl⟩ | ⟨hn, rfl⟩
  · have lp := pN_len s 32
    have lw : (w8 (pN s 32)).length = 32 := by rw [w8_len, lp]
    rw [kont_eq]
    simp only [go_sem, List.map_cons, List.map_nil, ↓reduceIte, Nat.reduceEqDiff, Nat.reduceAdd, Nat.reduceMul, reduceCtorEq, and_true, true_and, Nat.mul_one, Nat.zero_add, Bool.false_eq_true, decide_true, decide_false, not_false_eq_true]
    refine kont_new fun H5 b5 e5 z5 B5 K5 => ?_
    rw [z32L] at B5
    have K5' := K4'.trans K5
    have k4 := K4'.size
    have U := B5.stNA 0 (w8 (pN s 32))
    rw [wrL_all _ _ (by rw [lw]; simp [w8])] at U
    have KU : Keep (fun _ => False) H (stNA H5 ⟨b5, 0, none⟩ (w8 (pN s 32))) := K5'.stNA _ (.inr (by simp only []; omega))
    simp only [go_sem, List.map_cons, List.map_nil, ↓reduceIte, Nat.reduceEqDiff, Nat.reduceAdd, Nat.reduceMul, reduceCtorEq, and_true, true_and, Nat.mul_one, Nat.zero_add, Bool.false_eq_true, decide_true, decide_false, not_false_eq_true, kont_eq, okN_ptr, stNH_ptr, cells_agg]
    refine ⟨⟨B5.okNA (by simp [w8]), by simp [lw], w8_all1 _⟩, ?_⟩
    refine (hr _ _).mono ?_
    rintro r H6 ⟨hR2, K6⟩
    have K6' := KU.trans K6
    have U6 := K6.bl U (by simp)
    rcases hR2 with ⟨-, rfl⟩ | ⟨hn, -⟩
    case inr => exact (hn hx).elim
    rw [kont_eq]
    simp only [go_sem, List.map_cons, List.map_nil, ↓reduceIte, Nat.reduceEqDiff, Nat.reduceAdd, Nat.reduceMul, reduceCtorEq, and_true, true_and, Nat.mul_one, Nat.zero_add, Bool.false_eq_true, decide_true, decide_false, not_false_eq_true]
    refine kont_new fun H7 b7 e7 z7 B7 K7 => ?_
    rw [z32L] at B7
    have K7' := K6'.trans K7
    have k6 := K6'.size
    have U7 := K7.bl U6 (by simp)
    have hb7 := U6.lt
    have V := B7.stNA 0 (w8 (pN s 32))
    rw [wrL_all _ _ (by rw [lw]; simp [w8])] at V
    have U8 := U7.stNA_ne (p := ⟨b7, 0, none⟩) (w8 (pN s 32)) (by simp only []; omega)
    have KV : Keep (fun _ => False) H (stNA H7 ⟨b7, 0, none⟩ (w8 (pN s 32))) := K7'.stNA _ (.inr (by simp only []; omega))
    simp only [go_sem, List.map_cons, List.map_nil, ↓reduceIte, Nat.reduceEqDiff, Nat.reduceAdd, Nat.reduceMul, reduceCtorEq, and_true, true_and, Nat.mul_one, Nat.zero_add, Bool.false_eq_true, decide_true, decide_false, not_false_eq_true, kont_eq, okN_ptr, stNH_ptr, cells_agg]
    refine ⟨⟨B7.okNA (by simp [w8]), by simp [lw], w8_all1 _⟩, ?_⟩
    simp only [go_sem, List.map_cons, List.map_nil, ↓reduceIte, Nat.reduceEqDiff, Nat.reduceAdd, Nat.reduceMul, reduceCtorEq, and_true, true_and, Nat.mul_one, Nat.zero_add, Bool.false_eq_true, decide_true, decide_false, not_false_eq_true, kont_eq, ldNO_ptr, U8.ldNA (o := 0) (n := 32) (by omega), V.ldNA (o := 0) (n := 32) (by omega), List.drop_zero, t32 _ lp, beq_self_eq_true, lw, w8_eqv]
    refine ⟨⟨w8_isI _, w8_isI _⟩, ?_⟩
    refine (ht _ _ lp).mono ?_
    rintro r H9 ⟨rfl, K9⟩
    rw [hex_parse s hx]
    simp only [go_sem, List.map_cons, List.map_nil, ↓reduceIte, Nat.reduceEqDiff, Nat.reduceAdd, Nat.reduceMul, reduceCtorEq, and_true, true_and, Nat.mul_one, Nat.zero_add, Bool.false_eq_true, decide_true, decide_false, not_false_eq_true, kont_eq, beq_self_eq_true]
    exact KV.trans K9
  · have lw : (w8 (List.replicate 32 (0 : UInt8))).length = 32 := by rw [w8_len, z32]
    rw [kont_eq]
    simp only [go_sem, List.map_cons, List.map_nil, ↓reduceIte, Nat.reduceEqDiff, Nat.reduceAdd, Nat.reduceMul, reduceCtorEq, and_true, true_and, Nat.mul_one, Nat.zero_add, Bool.false_eq_true, decide_true, decide_false, not_false_eq_true]
    refine kont_new fun H5 b5 e5 z5 B5 K5 => ?_
    rw [z32L] at B5
    have K5' := K4'.trans K5
    have k4 := K4'.size
    have U := B5.stNA 0 (w8 (List.replicate 32 0))
    rw [wrL_all _ _ rfl] at U
    have KU : Keep (fun _ => False) H (stNA H5 ⟨b5, 0, none⟩ (w8 (List.replicate 32 0))) := K5'.stNA _ (.inr (by simp only []; omega))
    simp only [go_sem, List.map_cons, List.map_nil, ↓reduceIte, Nat.reduceEqDiff, Nat.reduceAdd, Nat.reduceMul, reduceCtorEq, and_true, true_and, Nat.mul_one, Nat.zero_add, Bool.false_eq_true, decide_true, decide_false, not_false_eq_true, kont_eq, okN_ptr, stNH_ptr, cells_agg]
    refine ⟨⟨B5.okNA (by simp [w8]), by first | exact lw | (rw [List.size_toArray]; exact lw), w8_all1 _⟩, ?_⟩
    refine (hr _ _).mono ?_
    rintro r H6 ⟨hR2, K6⟩
    have K6' := KU.trans K6
    have U6 := K6.bl U (by simp)
    rcases hR2 with ⟨hx, -⟩ | ⟨-, rfl⟩
    case inl => exact (hn hx).elim
    rw [kont_eq]
    simp only [go_sem, List.map_cons, List.map_nil, ↓reduceIte, Nat.reduceEqDiff, Nat.reduceAdd, Nat.reduceMul, reduceCtorEq, and_true, true_and, Nat.mul_one, Nat.zero_add, Bool.false_eq_true, decide_true, decide_false, not_false_eq_true]
    refine kont_new fun H7 b7 e7 z7 B7 K7 => ?_
    rw [z32L] at B7
    have K7' := K6'.trans K7
    have k6 := K6'.size
    have U7 := K7.bl U6 (by simp)
    have hb7 := U6.lt
    have U8 := U7.stNA_ne (p := ⟨b7, 0, none⟩) (w8 (List.replicate 32 0)) (by simp only []; omega)
    have KV : Keep (fun _ => False) H (stNA H7 ⟨b7, 0, none⟩ (w8 (List.replicate 32 0))) := K7'.stNA _ (.inr (by simp only []; omega))
    simp only [go_sem, List.map_cons, List.map_nil, ↓reduceIte, Nat.reduceEqDiff, Nat.reduceAdd, Nat.reduceMul, reduceCtorEq, and_true, true_and, Nat.mul_one, Nat.zero_add, Bool.false_eq_true, decide_true, decide_false, not_false_eq_true, kont_eq, okN_ptr, stNH_ptr, cells_agg]
    refine ⟨⟨B7.okNA (by simp [w8]), by first | exact lw | (rw [List.size_toArray]; exact lw), w8_all1 _⟩, ?_⟩
    simp only [go_sem, List.map_cons, List.map_nil, ↓reduceIte, Nat.reduceEqDiff, Nat.reduceAdd, Nat.reduceMul, reduceCtorEq, and_true, true_and, Nat.mul_one, Nat.zero_add, Bool.false_eq_true, decide_true, decide_false, not_false_eq_true, kont_eq, okFill, fillV, z32A, ldNO_ptr, U8.ldNA (o := 0) (n := 32) (by omega), List.drop_zero, t32 _ z32, beq_self_eq_true, lw, w8_eqv]
    exact ⟨⟨w8_isI _, w8_isI _⟩, KV⟩
end Go.Mg

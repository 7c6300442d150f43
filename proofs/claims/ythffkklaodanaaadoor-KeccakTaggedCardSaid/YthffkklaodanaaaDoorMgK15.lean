/- keccak: the law of pieces. -/
import Derived.Test.YthffkklaodanaaaDoorMgK14
namespace Go.Mg
open Go Go.RowKit
set_option linter.unusedSimpArgs false
set_option linter.unusedVariables false
set_option maxRecDepth 100000
/- arbaclaw03.KeccakPieces -/
def c_lpieces (ι : Ids) : S :=
  .seq (.reg [.p (.v 2) (.mv (.c (.bool false)))]) (.seq (.seq (.reg [.e (.t 8) (.call (ι.f 21) []), .p (.v 9) (.not (.t 8))]) (.ite (.v 9) (.seq (.reg [.p (.v 2) (.mv (.c (.bool false)))]) .ret)
  .skip)) (.seq (.reg [.e (.t 10) (.call (ι.f 13) []), .p (.v 3) (.mv (.t 10))]) (.seq (.reg [.p (.v 4) (.mv (.c (.slice .none 0 0)))]) (.seq (.seq (.reg [.p (.v 5) (.mv (.c (.int .i64 0)))]) (.blk 0
  (.loop (.seq (.seq (.reg [.p (.t 11) (.mv (.v 5)), .p (.t 12) (.mv (.v 0)), .p (.t 13) (.m (.lenl (.t 12))), .p (.t 14) (.cm .lss .i64 (.t 11) (.t 13)), .p (.t 15) (.mv (.t 14)), .gp (.t 16) (.t 15)
  true (.mv (.v 5)), .gp (.t 17) (.t 15) true (.cm .lss .i64 (.t 16) (.c (.int .i64 8))), .p (.v 18) (.pick (.t 15) (.t 17) (.c (.bool false)))]) (.ite (.v 18) .skip (.exit 0))) (.seq (.blk 1 (.seq
  (.reg [.e (.t 21) (.bldF (ι.t 19) 1 0 []), .p (.t 22) (.mv (.v 0)), .p (.t 23) (.mv (.v 5)), .p (.t 24) (.is 1 (.t 22) (.t 23)), .p (.t 25) (.ld (.t 24)), .e (.t 26) (.call (ι.f 18) [.t 25]), .e (.t
  27) (.app false (ι.t 19) 1 1 #[.int .u8 0] (.t 21) (.t 26)), .p (.v 6) (.mv (.t 27))]) (.seq (.reg [.p (.t 28) (.mv (.v 3)), .p (.t 29) (.mv (.v 6)), .e (.t 30) (.call (ι.f 8) [.t 28, .t 29])]) (.seq
  (.reg [.p (.t 31) (.mv (.v 4)), .p (.t 32) (.mv (.v 6)), .e (.t 33) (.app false (ι.t 19) 1 1 #[.int .u8 0] (.t 31) (.t 32)), .p (.v 4) (.mv (.t 33))]) (.seq (.seq (.reg [.p (.t 34) (.mv (.v 6)), .p
  (.v 35) (.m (.lenl (.t 34))), .p (.v 36) (.mv (.c (.int .i64 0)))]) (.blk 2 (.loop (.seq (.reg [.p (.v 37) (.cm .lss .i64 (.v 36) (.v 35))]) (.seq (.ite (.v 37) .skip (.exit 2)) (.seq (.blk 3 (.seq
  (.reg [.p (.t 38) (.mv (.v 36)), .p (.v 7) (.mv (.t 38))]) (.reg [.p (.t 39) (.mv (.v 6)), .p (.t 40) (.mv (.v 7)), .p (.t 41) (.is 1 (.t 39) (.t 40)), .p (.t 42) (.ld (.t 41)), .p (.t 43) (.ar .add
  .u8 (.t 42) (.c (.int .u8 1))), .p (.t 44) (.is 1 (.t 39) (.t 40)), .e .no (.st (.t 44) (.t 43))]))) (.reg [.p (.t 45) (.ar .add .i64 (.v 36) (.c (.int .i64 1))), .p (.v 36) (.mv (.t 45))])))))))
  (.seq (.reg [.p (.t 46) (.mv (.v 3)), .e (.t 47) (.call (ι.f 15) [.t 46]), .p (.t 48) (.mv (.v 4)), .p (.t 49) (.m (.lenl (.t 48))), .p (.t 50) (.ii .u64 (.t 49)), .p (.t 51) (.cm .neq .u64 (.t 47)
  (.t 50)), .p (.t 52) (.mv (.t 51)), .gp (.t 53) (.t 52) false (.mv (.v 3)), .ge (.t 54) (.t 52) false (.call (ι.f 11) [.t 53]), .gp (.t 55) (.t 52) false (.mv (.v 4)), .ge (.t 56) (.t 52) false (.call
  (ι.f 14) [.t 55]), .gp (.t 57) (.t 52) false (.m (.eqa true .u8 32 (.t 54) (.t 56))), .p (.t 58) (.pick (.t 52) (.c (.bool true)) (.t 57)), .p (.t 59) (.mv (.t 58)), .gp (.t 60) (.t 59) false (.mv (.v
  3)), .ge (.t 61) (.t 59) false (.call (ι.f 11) [.t 60]), .gp (.t 62) (.t 59) false (.mv (.v 4)), .ge (.t 63) (.t 59) false (.call (ι.f 14) [.t 62]), .gp (.t 64) (.t 59) false (.m (.eqa true .u8 32 (.t
  61) (.t 63))), .p (.v 65) (.pick (.t 59) (.c (.bool true)) (.t 64))]) (.ite (.v 65) (.seq (.reg [.p (.v 2) (.mv (.c (.bool false)))]) .ret) .skip))))))) (.reg [.p (.t 19) (.mv (.v 5)), .p (.t 20) (.ar
  .add .i64 (.t 19) (.c (.int .i64 1))), .p (.v 5) (.mv (.t 20))])))))) (.seq (.reg [.p (.t 66) (.mv (.v 3)), .e (.t 67) (.call (ι.f 11) [.t 66]), .p (.t 68) (.mv (.v 4)), .e (.t 69) (.call (ι.f 33) [.t
  68]), .p (.t 70) (.m (.eqa false .u8 32 (.t 67) (.t 69))), .p (.v 2) (.mv (.t 70))]) .ret)))))
def r_lpieces : List RV := [.t 2]

def alF (ls : List (List UInt8)) (i : Nat) : List UInt8 := iter i (fun a i => a ++ (ls.getD i []).take 600) []
theorem alF_len (ls : List (List UInt8)) : ∀ i, (alF ls i).length ≤ 600 * i
  | 0 => by simp [alF, iter]
  | i + 1 => by
    have ih := alF_len ls i
    unfold alF at ih ⊢
    simp only [iter, List.length_append, List.length_take]
    omega
theorem lenU (n : Nat) (h : n < 1000000000) : IntKind.u64.wrap (n : Int) = ((UInt64.ofNat n).toNat : Int) := by
  rw [IntKind.wrap_u64, UInt64.toNat_ofNat']; omega
theorem u8_inc (x : UInt8) : IntKind.u8.wrap ((x.toNat : Int) + 1) = ((x + 1).toNat : Int) := by
  rw [IntKind.wrap_u8, UInt8.toNat_add]
  have : (1 : UInt8).toNat = 1 := rfl
  rw [this]; omega

theorem pieces_ok {P : Program} {ι : Ids} {k : FuncId} (hk : FnIs P k (c_lpieces ι) r_lpieces 1) (ha : AwakeSpec P ι (ι.f 21)) (hn : NewSpec P (ι.f 13)) (hsh : ShortSpec P (ι.f 18))
    (hw : WriteSpec P ι (ι.f 8)) (hl : HLenSpec P (ι.f 15)) (hs : HSumSpec P ι (ι.f 11)) (hks : KSumSpec P ι (ι.f 14)) (hrs : RSumSpec P (ι.f 33))
    (ls : List (List UInt8)) (va : Value) (H : Hp) (hG : GlobOk ι H) (hva : SlS H va ls) : CallsM P k #[va] H fun r H' => r = .bool true ∧ Keep (fun _ => False) H H' := by
  refine calls_of_vc hk (args := [_]) (by simp) ?_
  unfold c_lpieces r_lpieces
  obtain ⟨vs, hS, hlen, hel⟩ := hva
  simp only [go_sem, List.map_cons, List.map_nil, ↓reduceIte, Nat.reduceEqDiff, Nat.reduceAdd, Nat.reduceMul, reduceCtorEq, and_true, true_and, Nat.mul_one, Nat.zero_add, Bool.false_eq_true, decide_true, decide_false, not_false_eq_true, kont_eq]
  refine (ha _ hG).mono ?_
  rintro r H1 ⟨rfl, K1⟩
  simp only [go_sem, List.map_cons, List.map_nil, ↓reduceIte, Nat.reduceEqDiff, Nat.reduceAdd, Nat.reduceMul, reduceCtorEq, and_true, true_and, Nat.mul_one, Nat.zero_add, Bool.false_eq_true, decide_true, decide_false, not_false_eq_true, kont_eq]
  have k1 := K1.size
  refine (hn _).mono ?_
  rintro r H2 ⟨rfl, B2, K2, z2⟩
  have K2' := K1.trans K2
  simp only [go_sem, List.map_cons, List.map_nil, ↓reduceIte, Nat.reduceEqDiff, Nat.reduceAdd, Nat.reduceMul, reduceCtorEq, and_true, true_and, Nat.mul_one, Nat.zero_add, Bool.false_eq_true, decide_true, decide_false, not_false_eq_true, kont_eq]
  generalize hb : H1.size = b at *
  refine vc_loop [18, 6, 4, 35, 36, 37, 7, 65, 2, 5] rfl (fun n f H' => ∃ i, i ≤ 8 ∧ i ≤ ls.length ∧ n = 8 - i ∧ f 5 = .int .i64 i ∧ OwS H' (f 4) (w8 (alF ls i)) ∧ (∀ k, ownB (f 4) k → H.size ≤ k) ∧ ¬ ownB (f 4) b ∧ HashB H' b (alF ls i) ∧ Keep (fun _ => False) H H') 8
    ⟨0, by omega, by omega, by omega, rfl, OwS.nil _, fun k h => h.elim, fun h => h.elim, B2, K2'⟩ ?_
  rintro n g H3 ⟨i, hi8, hil, rfl, hf5, O3, o3, ob3, B3, K3⟩
  simp only [go_sem, List.map_cons, List.map_nil, ↓reduceIte, Nat.reduceEqDiff, Nat.reduceAdd, Nat.reduceMul, reduceCtorEq, and_true, true_and, Nat.mul_one, Nat.zero_add, Bool.false_eq_true, decide_true, decide_false, not_false_eq_true, kont_eq] at hf5 O3 o3 ob3
  have k3 := K3.size
  have hb3 := B3.lt
  by_cases hc : i < ls.length ∧ i < 8
  · obtain ⟨hc1, hc2⟩ := hc
    have d1 : (i : Int) < (ls.length : Int) := by omega
    have d2 : (i : Int) < 8 := by omega
    obtain ⟨bV, oV, cV, rfl, -, -⟩ := hS.cells (by intro e; rw [e] at hlen; simp at hlen; omega)
    rw [hlen] at hS
    generalize hH3 : Array.push H3 (Obj.cells #[] (ι.t 19)) = H4
    have K4 : Keep (fun _ => False) H3 H4 := by rw [← hH3]; exact (Keep.refl _ _).push _
    have N4 : Bl H4 H3.size [] := by rw [← hH3]; exact Bl.new' _ _ _
    have K4' := K3.trans K4
    have k4 := K4.size
    have hg : vs[i]? = some (vs.getD i undef) := by
      have : i < vs.length := by omega
      simp [List.getD_eq_getElem?_getD, this]
    have hcell := (hS.keep K4' (by simp)).cell_at (i := i) (by omega)
    rw [hg] at hcell
    simp only [go_sem, List.map_cons, List.map_nil, ↓reduceIte, Nat.reduceEqDiff, Nat.reduceAdd, Nat.reduceMul, reduceCtorEq, and_true, true_and, Nat.mul_one, Nat.zero_add, Bool.false_eq_true, decide_true, decide_false, not_false_eq_true, kont_eq, hf5, hlen, d1, d2, hH3, hcell, hS.isSl]
    refine And.intro (by omega) ?_
    refine (hsh _ _ _ ((hel i hc1).keep K4' (by simp))).mono ?_
    rintro vx H4' ⟨Sx, sbx, rfl⟩
    have ox : ∀ k, slB vx k → k < H.size := fun k h => (hel i hc1).old (sbx k h)
    have lx : ((ls.getD i []).take 600).length ≤ 600 := by rw [List.length_take]; omega
    have lal := alF_len ls i
    have hal : alF ls (i + 1) = alF ls i ++ (ls.getD i []).take 600 := by unfold alF; simp only [iter]
    generalize (ls.getD i []).take 600 = x at *
    simp only [go_sem, List.map_cons, List.map_nil, ↓reduceIte, Nat.reduceEqDiff, Nat.reduceAdd, Nat.reduceMul, reduceCtorEq, and_true, true_and, Nat.mul_one, Nat.zero_add, Bool.false_eq_true, decide_true, decide_false, not_false_eq_true, kont_eq]
    refine app_bytesN H3.size (l := []) (m := x) (OwS.new N4 rfl rfl) (fun k (h : k = H3.size) => by omega) (by omega) Sx rfl (by simp; omega) fun v5 H5 O5 o5 K5 => ?_
    have K35 := K4.at_old K5 (Nat.le_refl _)
    have K5' := K3.trans K35
    have k35 := K35.size
    rw [List.nil_append] at O5
    simp only [go_sem, List.map_cons, List.map_nil, ↓reduceIte, Nat.reduceEqDiff, Nat.reduceAdd, Nat.reduceMul, reduceCtorEq, and_true, true_and, Nat.mul_one, Nat.zero_add, Bool.false_eq_true, decide_true, decide_false, not_false_eq_true, kont_eq]
    have hGn : ∀ {H'}, Keep (fun _ => False) H H' → GlobOk ι H' := fun h => hG.keep h (by simp) (by simp)
    refine (hw _ _ _ _ _ (B3.keep K35 (by simp)) O5.sl (fun h => by have := o5 _ (O5.slB h); omega) (hG.new k1) (hGn K5')).mono ?_
    rintro r H6 ⟨rfl, B6, K6⟩
    have K6' : Keep (fun _ => False) H H6 := K5'.trans' K6 (fun j hj e => by omega)
    simp only [go_sem, List.map_cons, List.map_nil, ↓reduceIte, Nat.reduceEqDiff, Nat.reduceAdd, Nat.reduceMul, reduceCtorEq, and_true, true_and, Nat.mul_one, Nat.zero_add, Bool.false_eq_true, decide_true, decide_false, not_false_eq_true, kont_eq]
    have O6 := O5.keep K6 (fun k hk e => by have := o5 k hk; omega)
    have O36 := (O3.keep K35 (by simp)).keep K6 (fun k hk e => ob3 (e ▸ hk))
    refine app_bytes (l := alF ls i) (m := x) O36 O6.sl rfl (by omega) fun v7 H7 O7 K7 o7 => ?_
    have k6 := K6'.size
    have k66 := K6.size
    have K7' : Keep (fun _ => False) H H7 := K6'.trans' K7 (fun j hj e => by have := o3 j e; omega)
    have B7 := B6.keep K7 ob3
    have n7 : ∀ k, ownB v7 k → H.size ≤ k := fun k h => by rcases o7 k h with h | h; exact o3 k h; omega
    have nb7 : ¬ ownB v7 b := fun h => by rcases o7 b h with h | h; exact ob3 h; (have := B6.lt; omega)
    have o7' : ∀ k, ownB v7 k → ¬ ownB v5 k := fun k h h5 => by
      have := o5 k h5
      have := O6.old h5
      rcases o7 k h with h | h
      · have := O3.old h; omega
      · omega
    have O67 := O6.keep K7 (fun k hk h => by have := o5 k hk; have := O3.old h; omega)
    rw [← hal] at B7 O7
    have lal2 := alF_len ls (i + 1)
    simp only [go_sem, List.map_cons, List.map_nil, ↓reduceIte, Nat.reduceEqDiff, Nat.reduceAdd, Nat.reduceMul, reduceCtorEq, and_true, true_and, Nat.mul_one, Nat.zero_add, Bool.false_eq_true, decide_true, decide_false, not_false_eq_true, kont_eq, O67.sl.isSl, O67.sl.len, w8_len]
    refine vc_loop [37, 7, 36] rfl (fun n f H' => ∃ k, k ≤ x.length ∧ n = x.length - k ∧ f 36 = .int .i64 k ∧ (∃ y : List UInt8, y.length = x.length ∧ OwS H' v5 (w8 y)) ∧ Keep (ownB v5) H7 H') x.length
      ⟨0, by omega, by omega, rfl, ⟨x, rfl, O67⟩, Keep.refl _ _⟩ ?_
    rintro n2 g2 H8 ⟨q, hq, rfl, hf36, ⟨y, hy, O8⟩, K8⟩
    simp only [go_sem, List.map_cons, List.map_nil, ↓reduceIte, Nat.reduceEqDiff, Nat.reduceAdd, Nat.reduceMul, reduceCtorEq, and_true, true_and, Nat.mul_one, Nat.zero_add, Bool.false_eq_true, decide_true, decide_false, not_false_eq_true, kont_eq] at hf36
    simp only [go_sem, List.map_cons, List.map_nil, ↓reduceIte, Nat.reduceEqDiff, Nat.reduceAdd, Nat.reduceMul, reduceCtorEq, and_true, true_and, Nat.mul_one, Nat.zero_add, Bool.false_eq_true, decide_true, decide_false, not_false_eq_true, kont_eq, hf36]
    refine iteV_dec (fun hlt => ?_) (fun hge => ?_)
    · have hq2 : q < x.length := by omega
      obtain ⟨bo, co, Lo, rfl, h1, h2, hB, h3, hg⟩ := O8.some (by intro e; have h := congrArg List.length e; rw [w8_len, hy, List.length_nil] at h; omega)
      rw [w8_len] at hg
      have hgq : Lo[q]? = some (.int .u8 (y.getD q 0).toNat) := by rw [hg q (by omega), w8_get _ _ (by omega)]
      simp (disch := omega) only [go_sem, List.map_cons, List.map_nil, ↓reduceIte, Nat.reduceEqDiff, Nat.reduceAdd, Nat.reduceMul, reduceCtorEq, and_true, true_and, Nat.mul_one, Nat.zero_add, Bool.false_eq_true, decide_true, decide_false, not_false_eq_true, kont_eq, hf36, w8_len, hB.cell, hB.frz, hgq, u8_inc, IntWalk.i64_in, tn_cast]
      repeat (refine And.intro (by omega) ?_)
      refine ⟨x.length - (q + 1), by omega, q + 1, by omega, rfl, by simp, ⟨y.set q (y.getD q 0 + 1), by simp [hy], ?_⟩, K8.setc _ (.inl rfl)⟩
      have := setOwS (i := q) (v := .int .u8 (y.getD q 0 + 1).toNat) hB h1 h2 h3 (by rw [w8_len]; omega)
      rw [w8_set, w8_len] at this
      exact this
    · have B8 := B7.keep K8 (fun h => by have := o5 _ h; omega)
      have K8' : Keep (fun _ => False) H H8 := K7'.trans' K8 (fun j hj e => by have := o5 j e; omega)
      have O78 := O7.keep K8 (fun k hk h => o7' k hk h)
      refine (hl.1 _ _ _ B8).mono ?_
      rintro r H9 ⟨rfl, rfl⟩
      simp (disch := omega) only [go_sem, List.map_cons, List.map_nil, ↓reduceIte, Nat.reduceEqDiff, Nat.reduceAdd, Nat.reduceMul, reduceCtorEq, and_true, true_and, Nat.mul_one, Nat.zero_add, Bool.false_eq_true, decide_true, decide_false, not_false_eq_true, kont_eq, O78.sl.isSl, O78.sl.len, w8_len, lenU, bne_self_eq_false]
      refine (hs _ _ _ B8 (hGn K8')).mono ?_
      rintro r H10 ⟨rfl, K10⟩
      have K10' := K8'.trans K10
      simp only [go_sem, List.map_cons, List.map_nil, ↓reduceIte, Nat.reduceEqDiff, Nat.reduceAdd, Nat.reduceMul, reduceCtorEq, and_true, true_and, Nat.mul_one, Nat.zero_add, Bool.false_eq_true, decide_true, decide_false, not_false_eq_true, kont_eq]
      refine (hks _ _ _ (O78.keep K10 (by simp)).sl (hGn K10')).mono ?_
      rintro r H11 ⟨rfl, K11⟩
      have K11' := K10'.trans K11
      have K811 := K10.trans K11
      simp only [go_sem, List.map_cons, List.map_nil, ↓reduceIte, Nat.reduceEqDiff, Nat.reduceAdd, Nat.reduceMul, reduceCtorEq, and_true, true_and, Nat.mul_one, Nat.zero_add, Bool.false_eq_true, decide_true, decide_false, not_false_eq_true, kont_eq, w8_len, sumF_len, w8_eqv, decide_true, beq_self_eq_true, bne_self_eq_false]
      refine ⟨⟨w8_isI _, w8_isI _⟩, ?_⟩
      refine (hs _ _ _ (HashC.keep B8 K811 (by simp)) (hGn K11')).mono ?_
      rintro r H12 ⟨rfl, K12⟩
      have K12' := K11'.trans K12
      have K812 := K811.trans K12
      simp only [go_sem, List.map_cons, List.map_nil, ↓reduceIte, Nat.reduceEqDiff, Nat.reduceAdd, Nat.reduceMul, reduceCtorEq, and_true, true_and, Nat.mul_one, Nat.zero_add, Bool.false_eq_true, decide_true, decide_false, not_false_eq_true, kont_eq]
      refine (hks _ _ _ (O78.keep K812 (by simp)).sl (hGn K12')).mono ?_
      rintro r H13 ⟨rfl, K13⟩
      have K13' := K12'.trans K13
      have K813 := K812.trans K13
      simp (disch := omega) only [go_sem, List.map_cons, List.map_nil, ↓reduceIte, Nat.reduceEqDiff, Nat.reduceAdd, Nat.reduceMul, reduceCtorEq, and_true, true_and, Nat.mul_one, Nat.zero_add, Bool.false_eq_true, decide_true, decide_false, not_false_eq_true, kont_eq, w8_len, sumF_len, w8_eqv, decide_true, beq_self_eq_true, bne_self_eq_false, hf5, IntWalk.i64_in]
      refine ⟨⟨w8_isI _, w8_isI _⟩, 8 - (i + 1), by omega, i + 1, by omega, by omega, rfl, by simp, O78.keep K813 (by simp), n7, nb7, HashC.keep B8 K813 (by simp), K13'⟩
  · have hex : ¬ (i : Int) < (ls.length : Int) ∨ ((i : Int) < (ls.length : Int) ∧ ¬ (i : Int) < 8) := by omega
    have hGn : ∀ {H'}, Keep (fun _ => False) H H' → GlobOk ι H' := fun h => hG.keep h (by simp) (by simp)
    have lal := alF_len ls i
    rcases hex with d1 | ⟨d1, d2⟩
    all_goals
      simp only [go_sem, List.map_cons, List.map_nil, ↓reduceIte, Nat.reduceEqDiff, Nat.reduceAdd, Nat.reduceMul, reduceCtorEq, and_true, true_and, Nat.mul_one, Nat.zero_add, Bool.false_eq_true, decide_true, decide_false, not_false_eq_true, kont_eq, hf5, hS.isSl, hS.len, hlen, d1]
      try simp only [go_sem, List.map_cons, List.map_nil, ↓reduceIte, Nat.reduceEqDiff, Nat.reduceAdd, Nat.reduceMul, reduceCtorEq, and_true, true_and, Nat.mul_one, Nat.zero_add, Bool.false_eq_true, decide_true, decide_false, not_false_eq_true, kont_eq, hf5, hS.isSl, hS.len, hlen, d1, d2]
      refine (hs _ _ _ B3 (hGn K3)).mono ?_
      rintro r H10 ⟨rfl, K10⟩
      simp only [go_sem, List.map_cons, List.map_nil, ↓reduceIte, Nat.reduceEqDiff, Nat.reduceAdd, Nat.reduceMul, reduceCtorEq, and_true, true_and, Nat.mul_one, Nat.zero_add, Bool.false_eq_true, decide_true, decide_false, not_false_eq_true, kont_eq]
      refine (hrs _ _ _ (O3.keep K10 (by simp)).sl (by omega)).mono ?_
      rintro r H11 ⟨rfl, K11⟩
      simp only [go_sem, List.map_cons, List.map_nil, ↓reduceIte, Nat.reduceEqDiff, Nat.reduceAdd, Nat.reduceMul, reduceCtorEq, and_true, true_and, Nat.mul_one, Nat.zero_add, Bool.false_eq_true, decide_true, decide_false, not_false_eq_true, kont_eq, sumR_eq, w8_len, sumF_len, w8_eqv, decide_true, beq_self_eq_true]
      exact ⟨⟨w8_isI _, w8_isI _⟩, (K3.trans K10).trans K11⟩
end Go.Mg

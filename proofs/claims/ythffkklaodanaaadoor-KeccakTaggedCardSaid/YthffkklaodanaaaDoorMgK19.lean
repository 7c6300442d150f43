/- keccak: digests of tags and parts. -/
import Derived.Test.YthffkklaodanaaaDoorMgK18
import Derived.Test.YthffkklaodanaaaDoorMgW1
namespace Go.Mg
open Go Go.RowKit
set_option linter.unusedSimpArgs false
set_option linter.unusedVariables false
set_option maxRecDepth 100000
/- keccak.Tagged -/
def c_tagged (ι : Ids) : S :=
  .seq (.reg [.e (.v 4) (.new (ι.t 9) (Array.replicate 32 (.int .u8 0)))]) (.seq (.reg [.e (.t 8) (.call (ι.f 55) []), .p (.v 5) (.mv (.t 8))]) (.seq (.reg [.p (.t 9) (.mv (.v 5)), .p (.t 10) (.mv (.v
  0)), .e (.t 11) (.call (ι.f 59) [.t 9, .t 10])]) (.seq (.seq (.reg [.p (.v 12) (.mv (.v 1)), .p (.v 13) (.m (.lenl (.v 12))), .p (.v 14) (.mv (.c (.int .i64 0)))]) (.blk 0 (.loop (.seq (.reg [.p (.v
  15) (.cm .lss .i64 (.v 14) (.v 13))]) (.seq (.ite (.v 15) .skip (.exit 0)) (.seq (.blk 1 (.seq (.reg [.p (.t 16) (.is 1 (.v 12) (.v 14)), .p (.t 17) (.ld (.t 16)), .p (.v 7) (.mv (.t 17))]) (.reg [.p
  (.t 18) (.mv (.v 5)), .p (.t 19) (.mv (.v 7)), .e (.t 20) (.call (ι.f 58) [.t 18, .t 19])]))) (.reg [.p (.t 21) (.ar .add .i64 (.v 14) (.c (.int .i64 1))), .p (.v 14) (.mv (.t 21))]))))))) (.seq (.reg
  [.p (.t 22) (.mv (.v 5)), .e (.t 23) (.call (ι.f 60) [.t 22]), .e (.t 24) (.call (ι.f 14) [.t 23]), .e .no (.stn 32 (.v 4) (.t 24))]) .ret))))
def r_tagged : List RV := [.cn 4 32]
/- arbacref03.Tagged -/
def c_rtagged (ι : Ids) : S :=
  .seq (.reg [.e (.v 4) (.new (ι.t 32) (Array.replicate 32 (.int .u8 0)))]) (.seq (.reg [.p (.t 8) (.mv (.v 0)), .e (.t 9) (.s2b (ι.t 19) (.t 8)), .e (.t 10) (.call (ι.f 62) [.t 9]), .p (.v 5) (.mv (.t
  10))]) (.seq (.seq (.reg [.p (.v 11) (.mv (.v 1)), .p (.v 12) (.m (.lenl (.v 11))), .p (.v 13) (.mv (.c (.int .i64 0)))]) (.blk 0 (.loop (.seq (.reg [.p (.v 14) (.cm .lss .i64 (.v 13) (.v 12))]) (.seq
  (.ite (.v 14) .skip (.exit 0)) (.seq (.blk 1 (.seq (.reg [.p (.t 15) (.is 1 (.v 11) (.v 13)), .p (.t 16) (.ld (.t 15)), .p (.v 7) (.mv (.t 16))]) (.reg [.p (.t 17) (.mv (.v 5)), .p (.t 18) (.mv (.v
  7)), .e (.t 19) (.call (ι.f 62) [.t 18]), .e (.t 20) (.app false (ι.t 19) 1 1 #[.int .u8 0] (.t 17) (.t 19)), .p (.v 5) (.mv (.t 20))]))) (.reg [.p (.t 21) (.ar .add .i64 (.v 13) (.c (.int .i64 1))),
  .p (.v 13) (.mv (.t 21))]))))))) (.seq (.reg [.p (.t 22) (.mv (.v 5)), .e (.t 23) (.call (ι.f 33) [.t 22]), .e .no (.stn 32 (.v 4) (.t 23))]) .ret)))
def r_rtagged : List RV := [.cn 4 32]
/- arbaclaw03.KeccakTagged -/
def c_ltagged (ι : Ids) : S :=
  .seq (.reg [.p (.v 4) (.mv (.c (.bool false)))]) (.seq (.seq (.reg [.e (.t 9) (.call (ι.f 21) []), .p (.v 10) (.not (.t 9))]) (.ite (.v 10) (.seq (.reg [.p (.v 4) (.mv (.c (.bool false)))]) .ret)
  .skip)) (.seq (.reg [.p (.t 11) (.mv (.v 0)), .p (.t 12) (.mv (.v 0)), .p (.t 13) (.m (.lens (.t 12))), .p (.t 14) (.m (.mn (.t 13) (.c (.int .i64 200)))), .p (.t 15) (.m (.slt (.t 11) .none (.some
  (.t 14)))), .p (.v 0) (.mv (.t 15))]) (.seq (.reg [.p (.v 5) (.mv (.c (.slice .none 0 0)))]) (.seq (.reg [.e (.t 16) (.call (ι.f 55) []), .p (.v 6) (.mv (.t 16))]) (.seq (.reg [.p (.t 17) (.mv (.v
  6)), .p (.t 18) (.mv (.v 0)), .e (.t 19) (.call (ι.f 59) [.t 17, .t 18])]) (.seq (.seq (.reg [.p (.v 7) (.mv (.c (.int .i64 0)))]) (.blk 0 (.loop (.seq (.seq (.reg [.p (.t 20) (.mv (.v 7)), .p (.t 21)
  (.mv (.v 1)), .p (.t 22) (.m (.lenl (.t 21))), .p (.t 23) (.cm .lss .i64 (.t 20) (.t 22)), .p (.t 24) (.mv (.t 23)), .gp (.t 25) (.t 24) true (.mv (.v 7)), .gp (.t 26) (.t 24) true (.cm .lss .i64 (.t
  25) (.c (.int .i64 5))), .p (.v 27) (.pick (.t 24) (.t 26) (.c (.bool false)))]) (.ite (.v 27) .skip (.exit 0))) (.seq (.blk 1 (.seq (.reg [.p (.t 30) (.mv (.v 5)), .p (.t 31) (.mv (.v 1)), .p (.t 32)
  (.mv (.v 7)), .p (.t 33) (.is 1 (.t 31) (.t 32)), .p (.t 34) (.ld (.t 33)), .e (.t 35) (.call (ι.f 18) [.t 34]), .e (.t 36) (.bldF (ι.t 65) 1 1 [.t 35]), .e (.t 37) (.app false (ι.t 65) 1 24 #[.slice
  .none 0 0] (.t 30) (.t 36)), .p (.v 5) (.mv (.t 37))]) (.reg [.p (.t 38) (.mv (.v 6)), .p (.t 39) (.mv (.v 1)), .p (.t 40) (.mv (.v 7)), .p (.t 41) (.is 1 (.t 39) (.t 40)), .p (.t 42) (.ld (.t 41)),
  .e (.t 43) (.call (ι.f 18) [.t 42]), .e (.t 44) (.call (ι.f 58) [.t 38, .t 43])]))) (.reg [.p (.t 28) (.mv (.v 7)), .p (.t 29) (.ar .add .i64 (.t 28) (.c (.int .i64 1))), .p (.v 7) (.mv (.t
  29))])))))) (.seq (.reg [.p (.t 45) (.mv (.v 0)), .p (.t 46) (.mv (.v 5)), .e (.t 47) (.call (ι.f 63) [.t 45, .t 46]), .e (.v 8) (.new (ι.t 9) (Array.replicate 32 (.int .u8 0))), .e .no (.stn 32 (.v
  8) (.t 47))]) (.seq (.dr (.px (.t 48) .none (.m (.ldn 32 (.v 8))) (.px (.t 49) .none (.mv (.v 0)) (.px (.t 50) .none (.mv (.v 5)) (.wcons (.t 51) .none (.call (ι.f 64) [.t 49, .t 50]) (.px (.t 52)
  .none (.m (.eqa false .u8 32 (.t 48) (.t 51))) (.px (.t 53) .none (.mv (.t 52)) (.px (.t 54) (.some (.t 53, true)) (.m (.ldn 32 (.v 8))) (.px (.t 55) (.some (.t 53, true)) (.mv (.v 6)) (.wcons (.t 56)
  (.some (.t 53, true)) (.call (ι.f 60) [.t 55]) (.wcons (.t 57) (.some (.t 53, true)) (.call (ι.f 14) [.t 56]) (.px (.t 58) (.some (.t 53, true)) (.m (.eqa false .u8 32 (.t 54) (.t 57))) (.px (.t 59)
  .none (.pick (.t 53) (.t 58) (.c (.bool false))) (.px (.v 4) .none (.mv (.t 59)) .done))) .wnil) .wnil))))) .wnil))))) .ret))))))))
def r_ltagged : List RV := [.t 4]

/-- parts, none of them great -/
def Small (ls : List (List UInt8)) : Prop := ls.length ≤ 10 ∧ ∀ i, i < ls.length → (ls.getD i []).length ≤ 1000
def encP (ls : List (List UInt8)) (n : Nat) : List UInt8 := iter n (fun a i => a ++ encB (ls.getD i [])) []
theorem encB_len (l : List UInt8) (h : l.length ≤ 1000) : (encB l).length ≤ 1011 := by
  have := enc7_len l.length (by omega)
  rw [encB, List.length_append]; omega
theorem encP_len (ls : List (List UInt8)) (hs : Small ls) : ∀ n, n ≤ ls.length → (encP ls n).length ≤ 1011 * n
  | 0, _ => by simp [encP, iter]
  | n + 1, h => by
    have ih := encP_len ls hs n (by omega)
    have := encB_len _ (hs.2 n (by omega))
    unfold encP at ih ⊢
    simp only [iter, List.length_append]
    omega
theorem encP_succ (ls : List (List UInt8)) (n : Nat) : encP ls (n + 1) = encP ls n ++ encB (ls.getD n []) := by
  unfold encP; simp only [iter]
def tagF (tag : List UInt8) (ls : List (List UInt8)) : List UInt8 := encB tag ++ encP ls ls.length
def TaggedSpec (P : Program) (ι : Ids) (k : FuncId) : Prop := ∀ (tag : List UInt8) (ls : List (List UInt8)) (v : Value) (H : Hp), SlS H v ls → Small ls → tag.length ≤ 1000 → GlobOk ι H →
  CallsM P k #[.string ⟨tag.toArray⟩, v] H fun r H' => r = .agg (w8 (sumF (tagF tag ls))).toArray ∧ Keep (fun _ => False) H H'
theorem tagged_ok {P : Program} {ι : Ids} {k : FuncId} (hk : FnIs P k (c_tagged ι) r_tagged 2) (hn : WNewSpec P (ι.f 55)) (hst : WStringSpec P (ι.f 59)) (hb : WBytesSpec P (ι.f 58)) (ho : WOutSpec P (ι.f 60)) (hs : KSumSpec P ι (ι.f 14)) : TaggedSpec P ι k := by
  intro tag ls v H hv hsm htag hG
  refine calls_of_vc hk (args := [_, _]) (by simp) ?_
  unfold c_tagged r_tagged
  obtain ⟨vs, hS, hlen, hel⟩ := hv
  have htl := encB_len tag htag
  simp only [go_sem, List.map_cons, List.map_nil, ↓reduceIte, Nat.reduceEqDiff, Nat.reduceAdd, Nat.reduceMul, reduceCtorEq, and_true, true_and, Nat.mul_one, Nat.zero_add, Bool.false_eq_true, decide_true, decide_false, not_false_eq_true]
  refine kont_new fun H1 b1 e1 z1 B1 K1 => ?_
  rw [z32L] at B1
  have k1 := K1.size
  simp only [go_sem, List.map_cons, List.map_nil, ↓reduceIte, Nat.reduceEqDiff, Nat.reduceAdd, Nat.reduceMul, reduceCtorEq, and_true, true_and, Nat.mul_one, Nat.zero_add, Bool.false_eq_true, decide_true, decide_false, not_false_eq_true, kont_eq]
  refine (hn _).mono ?_
  rintro r H2 ⟨rfl, W2, K2⟩
  have K2' := K1.trans K2
  have B2 := K2.bl B1 (by simp)
  simp only [go_sem, List.map_cons, List.map_nil, ↓reduceIte, Nat.reduceEqDiff, Nat.reduceAdd, Nat.reduceMul, reduceCtorEq, and_true, true_and, Nat.mul_one, Nat.zero_add, Bool.false_eq_true, decide_true, decide_false, not_false_eq_true, kont_eq]
  refine (hst _ _ _ _ _ W2 (by simp; omega)).mono ?_
  rintro r H3 ⟨rfl, W3, K3⟩
  have K3' : Keep (fun _ => False) H H3 := K2'.trans' K3 (fun i hi e => by omega)
  have B3 := K3.bl B2 (by omega)
  have hw2 : H1.size < H2.size := W2.bound _ rfl
  rw [List.nil_append] at W3
  simp only [go_sem, List.map_cons, List.map_nil, ↓reduceIte, Nat.reduceEqDiff, Nat.reduceAdd, Nat.reduceMul, reduceCtorEq, and_true, true_and, Nat.mul_one, Nat.zero_add, Bool.false_eq_true, decide_true, decide_false, not_false_eq_true, kont_eq, hS.isSl, hS.len, hlen]
  generalize hw : H1.size = w at *
  have lsl := hsm.1
  refine vc_loop [15, 7, 14] rfl (fun n f H' => ∃ i F, i ≤ ls.length ∧ n = ls.length - i ∧ f 14 = .int .i64 i ∧ WrB F H' w (encB tag ++ encP ls i) ∧ (∀ k, F k → H.size ≤ k ∧ k ≠ b1) ∧ Bl H' b1 (w8 (List.replicate 32 0)) ∧ Keep (fun _ => False) H H') ls.length
    ⟨0, _, by omega, by omega, rfl, by simpa [encP, iter] using W3, fun k h => ?_, B3, K3'⟩ ?_
  · rcases h with h | h
    · omega
    · omega
  rintro n g H4 ⟨i, F, hi, rfl, hf14, W4, hF4, B4, K4⟩
  simp only [go_sem, List.map_cons, List.map_nil, ↓reduceIte, Nat.reduceEqDiff, Nat.reduceAdd, Nat.reduceMul, reduceCtorEq, and_true, true_and, Nat.mul_one, Nat.zero_add, Bool.false_eq_true, decide_true, decide_false, not_false_eq_true, kont_eq] at hf14
  simp only [go_sem, List.map_cons, List.map_nil, ↓reduceIte, Nat.reduceEqDiff, Nat.reduceAdd, Nat.reduceMul, reduceCtorEq, and_true, true_and, Nat.mul_one, Nat.zero_add, Bool.false_eq_true, decide_true, decide_false, not_false_eq_true, kont_eq, hf14]
  refine iteV_dec (fun hlt => ?_) (fun hge => ?_)
  · have hi2 : i < ls.length := by omega
    obtain ⟨bV, oV, cV, rfl, -, -⟩ := hS.cells (by intro e; rw [e] at hlen; simp at hlen; omega)
    have hg : vs[i]? = some (vs.getD i undef) := by
      have : i < vs.length := by omega
      simp [List.getD_eq_getElem?_getD, this]
    have hcell := (hS.keep K4 (by simp)).cell_at (i := i) (by omega)
    rw [hg] at hcell
    have hel4 := (hel i hi2).keep K4 (by simp)
    have hold : ∀ k, slB (vs.getD i undef) k → ¬ F k := fun k h hF => by have := (hel i hi2).old h; have := hF4 k hF; omega
    have he := encP_len ls hsm i (by omega)
    have hx := hsm.2 i hi2
    simp (disch := omega) only [go_sem, List.map_cons, List.map_nil, ↓reduceIte, Nat.reduceEqDiff, Nat.reduceAdd, Nat.reduceMul, reduceCtorEq, and_true, true_and, Nat.mul_one, Nat.zero_add, Bool.false_eq_true, decide_true, decide_false, not_false_eq_true, kont_eq, hf14, hcell, hlen, tn_cast]
    refine And.intro (by omega) ?_
    refine (hb _ _ _ _ _ _ W4 hel4 hold (by rw [List.length_append]; omega)).mono ?_
    rintro r H5 ⟨rfl, W5, K5⟩
    have k4 := K4.size
    have k5 := K5.size
    simp (disch := omega) only [go_sem, List.map_cons, List.map_nil, ↓reduceIte, Nat.reduceEqDiff, Nat.reduceAdd, Nat.reduceMul, reduceCtorEq, and_true, true_and, Nat.mul_one, Nat.zero_add, Bool.false_eq_true, decide_true, decide_false, not_false_eq_true, kont_eq, hf14, IntWalk.i64_in]
    refine ⟨ls.length - (i + 1), by omega, i + 1, _, by omega, rfl, by simp, by rw [encP_succ, ← List.append_assoc]; exact W5, fun k h => ?_, K5.bl B4 (fun h => (hF4 _ h).2 rfl), K4.trans' K5 (fun j hj h => by have := hF4 j h; omega)⟩
    have hb4 := B4.lt
    rcases h with h | h
    · exact hF4 k h
    · exact ⟨by omega, by omega⟩
  · have hi2 : i = ls.length := by omega
    subst hi2
    have he := encP_len ls hsm ls.length (Nat.le_refl _)
    refine (ho _ _ _ _ W4 (by rw [List.length_append]; omega)).mono ?_
    rintro r H5 ⟨O5, o5, K5⟩
    have K5' := K4.trans K5
    simp only [go_sem, List.map_cons, List.map_nil, ↓reduceIte, Nat.reduceEqDiff, Nat.reduceAdd, Nat.reduceMul, reduceCtorEq, and_true, true_and, Nat.mul_one, Nat.zero_add, Bool.false_eq_true, decide_true, decide_false, not_false_eq_true, kont_eq]
    refine (hs _ _ _ O5.sl (hG.keep K5' (by simp) (by simp))).mono ?_
    rintro r H6 ⟨rfl, K6⟩
    have K6' := K5'.trans K6
    have B6 := K6.bl (K5.bl B4 (by simp)) (by simp)
    have hsl := sumF_len (encB tag ++ encP ls ls.length)
    have U := B6.stNA 0 (w8 (sumF (encB tag ++ encP ls ls.length)))
    rw [wrL_all _ _ (by rw [w8_len, hsl]; simp [w8])] at U
    have t32 : List.take 32 (w8 (sumF (encB tag ++ encP ls ls.length))) = w8 (sumF (encB tag ++ encP ls ls.length)) := List.take_of_length_le (by rw [w8_len, hsl]; omega)
    simp only [go_sem, List.map_cons, List.map_nil, ↓reduceIte, Nat.reduceEqDiff, Nat.reduceAdd, Nat.reduceMul, reduceCtorEq, and_true, true_and, Nat.mul_one, Nat.zero_add, Bool.false_eq_true, decide_true, decide_false, not_false_eq_true, kont_eq, ldNO_ptr, stNH_ptr, okN_ptr, cells_agg, U.ldNA (o := 0) (n := 32) (by rw [w8_len, hsl]; omega), List.drop_zero, t32]
    exact ⟨⟨B6.okNA (by simp [w8_len]), by rw [w8_len, hsl], w8_all1 _⟩, rfl, K6'.stNA _ (.inr (by simp only []; omega))⟩
theorem rtagged_ok {P : Program} {ι : Ids} {k : FuncId} (hk : FnIs P k (c_rtagged ι) r_rtagged 2) (hp : RPutBSpec P (ι.f 62)) (hs : RSumSpec P (ι.f 33)) : TaggedSpec P ι k := by
  intro tag ls v H hv hsm htag hG
  refine calls_of_vc hk (args := [_, _]) (by simp) ?_
  unfold c_rtagged r_rtagged
  obtain ⟨vs, hS, hlen, hel⟩ := hv
  have htl := encB_len tag htag
  simp only [go_sem, List.map_cons, List.map_nil, ↓reduceIte, Nat.reduceEqDiff, Nat.reduceAdd, Nat.reduceMul, reduceCtorEq, and_true, true_and, Nat.mul_one, Nat.zero_add, Bool.false_eq_true, decide_true, decide_false, not_false_eq_true]
  refine kont_new fun H1 b1 e1 z1 B1 K1 => ?_
  rw [z32L] at B1
  have k1 := K1.size
  have hb1 := B1.lt
  simp only [go_sem, List.map_cons, List.map_nil, ↓reduceIte, Nat.reduceEqDiff, Nat.reduceAdd, Nat.reduceMul, reduceCtorEq, and_true, true_and, Nat.mul_one, Nat.zero_add, Bool.false_eq_true, decide_true, decide_false, not_false_eq_true, kont_eq]
  intro c hc
  have hc : tag.length ≤ c := hc
  obtain ⟨K2, S2⟩ := s2b_new H1 tag (ι.t 19) c hc
  generalize Array.push H1 _ = H2 at *
  have K2' := K1.trans K2
  have k2 := K2'.size
  refine (hp _ _ _ S2 (by omega)).mono ?_
  rintro r H3 ⟨O3, o3, K3⟩
  have K3' := K2'.trans K3
  have B3 := K3.bl (K2.bl B1 (by simp)) (by simp)
  have hb2 := (K2.bl B1 (by simp)).lt
  simp only [go_sem, List.map_cons, List.map_nil, ↓reduceIte, Nat.reduceEqDiff, Nat.reduceAdd, Nat.reduceMul, reduceCtorEq, and_true, true_and, Nat.mul_one, Nat.zero_add, Bool.false_eq_true, decide_true, decide_false, not_false_eq_true, kont_eq, hS.isSl, hS.len, hlen]
  have lsl := hsm.1
  have hO3 : OwS H3 r (w8 (encB tag ++ encP ls 0)) := by simpa [encP, iter] using O3
  refine vc_loop [14, 7, 5, 13] rfl (fun n f H' => ∃ i, i ≤ ls.length ∧ n = ls.length - i ∧ f 13 = .int .i64 i ∧ OwS H' (f 5) (w8 (encB tag ++ encP ls i)) ∧ (∀ k, ownB (f 5) k → b1 + 1 ≤ k) ∧ Bl H' b1 (w8 (List.replicate 32 0)) ∧ Keep (fun _ => False) H H') ls.length
    ⟨0, by omega, by omega, rfl, hO3, fun k h => by have := o3 k h; omega, B3, K3'⟩ ?_
  rintro n g H4 ⟨i, hi, rfl, hf13, O4, o4, B4, K4⟩
  simp only [go_sem, List.map_cons, List.map_nil, ↓reduceIte, Nat.reduceEqDiff, Nat.reduceAdd, Nat.reduceMul, reduceCtorEq, and_true, true_and, Nat.mul_one, Nat.zero_add, Bool.false_eq_true, decide_true, decide_false, not_false_eq_true, kont_eq] at hf13 O4 o4
  simp only [go_sem, List.map_cons, List.map_nil, ↓reduceIte, Nat.reduceEqDiff, Nat.reduceAdd, Nat.reduceMul, reduceCtorEq, and_true, true_and, Nat.mul_one, Nat.zero_add, Bool.false_eq_true, decide_true, decide_false, not_false_eq_true, kont_eq, hf13]
  refine iteV_dec (fun hlt => ?_) (fun hge => ?_)
  · have hi2 : i < ls.length := by omega
    obtain ⟨bV, oV, cV, rfl, -, -⟩ := hS.cells (by intro e; rw [e] at hlen; simp at hlen; omega)
    have hg : vs[i]? = some (vs.getD i undef) := by
      have : i < vs.length := by omega
      simp [List.getD_eq_getElem?_getD, this]
    have hcell := (hS.keep K4 (by simp)).cell_at (i := i) (by omega)
    rw [hg] at hcell
    have hel4 := (hel i hi2).keep K4 (by simp)
    have he := encP_len ls hsm i (by omega)
    have hx := hsm.2 i hi2
    have hxe := encB_len _ hx
    simp (disch := omega) only [go_sem, List.map_cons, List.map_nil, ↓reduceIte, Nat.reduceEqDiff, Nat.reduceAdd, Nat.reduceMul, reduceCtorEq, and_true, true_and, Nat.mul_one, Nat.zero_add, Bool.false_eq_true, decide_true, decide_false, not_false_eq_true, kont_eq, hf13, hcell, hlen, tn_cast]
    refine And.intro (by omega) ?_
    refine (hp _ _ _ hel4 (by omega)).mono ?_
    rintro r H5 ⟨O5, o5, K5⟩
    have k4 := K4.size
    have hb4 := B4.lt
    have K5' := K4.trans K5
    simp only [go_sem, List.map_cons, List.map_nil, ↓reduceIte, Nat.reduceEqDiff, Nat.reduceAdd, Nat.reduceMul, reduceCtorEq, and_true, true_and, Nat.mul_one, Nat.zero_add, Bool.false_eq_true, decide_true, decide_false, not_false_eq_true, kont_eq]
    refine app_bytesN (b1 + 1) (O4.keep K5 (by simp)) o4 (by have := K5.size; omega) O5.sl rfl (by rw [List.length_append]; omega) fun v6 H6 O6 o6 K6 => ?_
    simp (disch := omega) only [go_sem, List.map_cons, List.map_nil, ↓reduceIte, Nat.reduceEqDiff, Nat.reduceAdd, Nat.reduceMul, reduceCtorEq, and_true, true_and, Nat.mul_one, Nat.zero_add, Bool.false_eq_true, decide_true, decide_false, not_false_eq_true, kont_eq, hf13, IntWalk.i64_in]
    refine ⟨ls.length - (i + 1), by omega, i + 1, by omega, rfl, by simp, by rw [encP_succ, ← List.append_assoc]; exact O6, o6, K6.bl (K5.bl B4 (by simp)) (by omega), K5'.at_old K6 (by omega)⟩
  · have hi2 : i = ls.length := by omega
    subst hi2
    have he := encP_len ls hsm ls.length (Nat.le_refl _)
    refine (hs _ _ _ O4.sl (by rw [List.length_append]; omega)).mono ?_
    rintro r H6 ⟨rfl, K6⟩
    have K6' := K4.trans K6
    have B6 := K6.bl B4 (by simp)
    rw [sumR_eq]
    have hsl := sumF_len (encB tag ++ encP ls ls.length)
    have U := B6.stNA 0 (w8 (sumF (encB tag ++ encP ls ls.length)))
    rw [wrL_all _ _ (by rw [w8_len, hsl]; simp [w8])] at U
    have t32 : List.take 32 (w8 (sumF (encB tag ++ encP ls ls.length))) = w8 (sumF (encB tag ++ encP ls ls.length)) := List.take_of_length_le (by rw [w8_len, hsl]; omega)
    simp only [go_sem, List.map_cons, List.map_nil, ↓reduceIte, Nat.reduceEqDiff, Nat.reduceAdd, Nat.reduceMul, reduceCtorEq, and_true, true_and, Nat.mul_one, Nat.zero_add, Bool.false_eq_true, decide_true, decide_false, not_false_eq_true, kont_eq, ldNO_ptr, stNH_ptr, okN_ptr, cells_agg, U.ldNA (o := 0) (n := 32) (by rw [w8_len, hsl]; omega), List.drop_zero, t32]
    exact ⟨⟨B6.okNA (by simp [w8_len]), by rw [w8_len, hsl], w8_all1 _⟩, rfl, K6'.stNA _ (.inr (by simp only []; omega))⟩

theorem ba_take (l : List UInt8) (n : Nat) : (⟨l.toArray⟩ : ByteArray).extract 0 n = ⟨(l.take n).toArray⟩ := by
  apply ByteArray.ext
  rw [ByteArray.data_extract]
  simp [List.extract_eq_take_drop]
def shortL (ls : List (List UInt8)) (n : Nat) : List (List UInt8) := (ls.take n).map (·.take 600)
theorem shortL_len (ls : List (List UInt8)) (n : Nat) (h : n ≤ ls.length) : (shortL ls n).length = n := by simp [shortL]; omega
theorem shortL_get (ls : List (List UInt8)) (n i : Nat) (hi : i < n) (h : n ≤ ls.length) : (shortL ls n).getD i [] = (ls.getD i []).take 600 := by
  have : i < ls.length := by omega
  simp [shortL, List.getD_eq_getElem?_getD, List.getElem?_take, hi, this]
theorem shortL_small (ls : List (List UInt8)) (n : Nat) (h : n ≤ ls.length) (h5 : n ≤ 5) : Small (shortL ls n) := by
  refine ⟨by rw [shortL_len _ _ h]; omega, fun i hi => ?_⟩
  rw [shortL_len _ _ h] at hi
  rw [shortL_get _ _ _ hi h, List.length_take]; omega
theorem encP_short (ls : List (List UInt8)) (n : Nat) (h : n ≤ ls.length) : ∀ i, i ≤ n → encP (shortL ls n) i = encP (shortL ls i) i
  | 0, _ => by simp only [encP, iter]
  | i + 1, hi => by
    have key : ∀ n m j, j ≤ n → j ≤ m → n ≤ ls.length → m ≤ ls.length → encP (shortL ls n) j = encP (shortL ls m) j := by
      intro n m j
      induction j with
      | zero => intro _ _ _ _; simp only [encP, iter]
      | succ j ih =>
        intro h1 h2 h3 h4
        rw [encP_succ, encP_succ, ih (by omega) (by omega) h3 h4, shortL_get _ _ _ (by omega) h3, shortL_get _ _ _ (by omega) h4]
    exact key _ _ _ hi (Nat.le_refl _) h (by omega)
theorem encP_shortS (ls : List (List UInt8)) (i : Nat) (h : i < ls.length) : encP (shortL ls (i + 1)) (i + 1) = encP (shortL ls i) i ++ encB ((ls.getD i []).take 600) := by
  rw [encP_succ, shortL_get _ _ _ (by omega) (by omega), encP_short ls (i + 1) (by omega) i (by omega)]
theorem all1_sl {l : List Value} (h : ∀ v ∈ l, isSl v) : all1 l.toArray := by
  intro x hx
  have := h x (by simpa using hx)
  cases x <;> first | rfl | exact this.elim

theorem ltagged_ok {P : Program} {ι : Ids} {k : FuncId} (hk : FnIs P k (c_ltagged ι) r_ltagged 2) (ha : AwakeSpec P ι (ι.f 21)) (hsh : ShortSpec P (ι.f 18)) (hn : WNewSpec P (ι.f 55)) (hst : WStringSpec P (ι.f 59)) (hb : WBytesSpec P (ι.f 58)) (ho : WOutSpec P (ι.f 60)) (hs : KSumSpec P ι (ι.f 14))
    (ht : TaggedSpec P ι (ι.f 63)) (hrt : TaggedSpec P ι (ι.f 64))
    (tag0 : List UInt8) (ls : List (List UInt8)) (v : Value) (H : Hp) (hG : GlobOk ι H) (hv : SlS H v ls) : CallsM P k #[.string ⟨tag0.toArray⟩, v] H fun r H' => r = .bool true ∧ Keep (fun _ => False) H H' := by
  refine calls_of_vc hk (args := [_, _]) (by simp) ?_
  unfold c_ltagged r_ltagged
  obtain ⟨vs, hS, hlen, hel⟩ := hv
  simp only [go_sem, List.map_cons, List.map_nil, ↓reduceIte, Nat.reduceEqDiff, Nat.reduceAdd, Nat.reduceMul, reduceCtorEq, and_true, true_and, Nat.mul_one, Nat.zero_add, Bool.false_eq_true, decide_true, decide_false, not_false_eq_true, kont_eq]
  refine (ha _ hG).mono ?_
  rintro r H1 ⟨rfl, K1⟩
  have hmn : (if (200 : Int) < (tag0.length : Int) then (200 : Int) else (tag0.length : Int)) = ((min tag0.length 200 : Nat) : Int) := by split <;> omega
  have htake : tag0.take (min tag0.length 200) = tag0.take 200 := by
    rcases Nat.le_total tag0.length 200 with h | h
    · rw [Nat.min_eq_left h, List.take_of_length_le (Nat.le_refl _), List.take_of_length_le h]
    · rw [Nat.min_eq_right h]
  have htl : (tag0.take 200).length ≤ 200 := by rw [List.length_take]; omega
  simp only [go_sem, List.map_cons, List.map_nil, ↓reduceIte, Nat.reduceEqDiff, Nat.reduceAdd, Nat.reduceMul, reduceCtorEq, and_true, true_and, Nat.mul_one, Nat.zero_add, Bool.false_eq_true, decide_true, decide_false, not_false_eq_true, kont_eq, ba_size, hmn, tn_cast, ba_take, htake]
  refine And.intro (by omega) ?_
  generalize tag0.take 200 = tag at *
  have hetl := encB_len tag (by omega)
  have k1 := K1.size
  refine (hn _).mono ?_
  rintro r H2 ⟨rfl, W2, K2⟩
  have K2' := K1.trans K2
  simp only [go_sem, List.map_cons, List.map_nil, ↓reduceIte, Nat.reduceEqDiff, Nat.reduceAdd, Nat.reduceMul, reduceCtorEq, and_true, true_and, Nat.mul_one, Nat.zero_add, Bool.false_eq_true, decide_true, decide_false, not_false_eq_true, kont_eq]
  refine (hst _ _ _ _ _ W2 (by simp; omega)).mono ?_
  rintro r H3 ⟨rfl, W3, K3⟩
  have K3' : Keep (fun _ => False) H H3 := K2'.trans' K3 (fun i hi e => by omega)
  have hw2 : H1.size < H2.size := W2.bound _ rfl
  rw [List.nil_append] at W3
  simp only [go_sem, List.map_cons, List.map_nil, ↓reduceIte, Nat.reduceEqDiff, Nat.reduceAdd, Nat.reduceMul, reduceCtorEq, and_true, true_and, Nat.mul_one, Nat.zero_add, Bool.false_eq_true, decide_true, decide_false, not_false_eq_true, kont_eq]
  generalize hw : H1.size = w at *
  refine vc_loop [27, 5, 7] rfl (fun n f H' => ∃ i F us, i ≤ ls.length ∧ i ≤ 5 ∧ n = 5 - i ∧ f 7 = .int .i64 i ∧ OwS H' (f 5) us ∧ us.length = i ∧ (∀ j, j < i → SlR H' (us.getD j undef) (w8 ((shortL ls i).getD j [])) ∧ ∀ k, slB (us.getD j undef) k → k < H.size) ∧
      (∀ k, ownB (f 5) k → H.size ≤ k ∧ ¬ F k) ∧ WrB F H' w (encB tag ++ encP (shortL ls i) i) ∧ (∀ k, F k → H.size ≤ k) ∧ (∀ u ∈ us, isSl u) ∧ Keep (fun _ => False) H H') 5
    ⟨0, _, [], by omega, by omega, by omega, rfl, OwS.nil _, rfl, fun j h => by omega, fun k h => h.elim, by simpa [encP, iter] using W3, fun k h => by rcases h with h | h <;> omega, by simp, K3'⟩ ?_
  rintro n g H4 ⟨i, F, us, hil, hi5, rfl, hf7, O4, hul, hue, o4, W4, hF4, hus, K4⟩
  simp only [go_sem, List.map_cons, List.map_nil, ↓reduceIte, Nat.reduceEqDiff, Nat.reduceAdd, Nat.reduceMul, reduceCtorEq, and_true, true_and, Nat.mul_one, Nat.zero_add, Bool.false_eq_true, decide_true, decide_false, not_false_eq_true, kont_eq] at hf7 O4 o4
  have k4 := K4.size
  have hsm := shortL_small ls i hil hi5
  have hen := encP_len (shortL ls i) hsm i (by rw [shortL_len _ _ hil]; omega)
  by_cases hc : i < ls.length ∧ i < 5
  · obtain ⟨hc1, hc2⟩ := hc
    have d1 : (i : Int) < (ls.length : Int) := by omega
    have d2 : (i : Int) < 5 := by omega
    obtain ⟨bV, oV, cV, rfl, -, -⟩ := hS.cells (by intro e; rw [e] at hlen; simp at hlen; omega)
    rw [hlen] at hS
    have hg : vs[i]? = some (vs.getD i undef) := by
      have : i < vs.length := by omega
      simp [List.getD_eq_getElem?_getD, this]
    have hcell := (hS.keep K4 (by simp)).cell_at (i := i) (by omega)
    rw [hg] at hcell
    simp only [go_sem, List.map_cons, List.map_nil, ↓reduceIte, Nat.reduceEqDiff, Nat.reduceAdd, Nat.reduceMul, reduceCtorEq, and_true, true_and, Nat.mul_one, Nat.zero_add, Bool.false_eq_true, decide_true, decide_false, not_false_eq_true, kont_eq, hf7, hlen, d1, d2, hcell]
    refine And.intro (by omega) ?_
    refine (hsh _ _ _ ((hel i hc1).keep K4 (by simp))).mono ?_
    rintro vx H4' ⟨Sx, sbx, rfl⟩
    have ox : ∀ k, slB vx k → k < H.size := fun k h => (hel i hc1).old (sbx k h)
    obtain ⟨ax, cx, rfl, -⟩ := Sx.mk
    rw [w8_len] at Sx ox sbx
    rw [w8_len, kont_eq]
    simp only [go_sem, List.map_cons, List.map_nil, ↓reduceIte, Nat.reduceEqDiff, Nat.reduceAdd, Nat.reduceMul, reduceCtorEq, and_true, true_and, Nat.mul_one, Nat.zero_add, Bool.false_eq_true, decide_true, decide_false, not_false_eq_true, kont_eq]
    generalize hA : Array.push H4' _ = H5
    have B5 : Bl H5 H4'.size [.slice ax ((ls.getD i []).take 600).length cx] := by rw [← hA]; exact Bl.new' _ _ _
    have K5 : Keep (fun _ => False) H4' H5 := by rw [← hA]; exact (Keep.refl _ _).push _
    have K5' := K4.trans K5
    have k5 := K5.size
    have O5 := O4.keep K5 (by simp)
    have lnus := hul
    refine app_sl O5 (SlR.bl B5 0 1 1 (by omega) (by simp)) (all1_sl (by simp [isSl])) rfl (by unfold maxLen; simp; omega) (by simp; omega) fun v6 H6 O6 K6 o6 => ?_
    have K6' : Keep (fun _ => False) H H6 := K5'.trans' K6 (fun j hj e => by have := (o4 j e).1; omega)
    have W5 := W4.keep K5 (by simp)
    have W6 := W5.keep K6 (fun k hF hO => (o4 k hO).2 hF)
    have hcell6 := (hS.keep K6' (by simp)).cell_at (i := i) (by omega)
    rw [hg] at hcell6
    simp only [go_sem, List.map_cons, List.map_nil, ↓reduceIte, Nat.reduceEqDiff, Nat.reduceAdd, Nat.reduceMul, reduceCtorEq, and_true, true_and, Nat.mul_one, Nat.zero_add, Bool.false_eq_true, decide_true, decide_false, not_false_eq_true, kont_eq, hf7, hlen, hcell6]
    refine And.intro (by omega) ?_
    refine (hsh _ _ _ ((hel i hc1).keep K6' (by simp))).mono ?_
    rintro vy H6' ⟨Sy, sby, rfl⟩
    have oy : ∀ k, slB vy k → k < H.size := fun k h => (hel i hc1).old (sby k h)
    have lx : ((ls.getD i []).take 600).length ≤ 600 := by rw [List.length_take]; omega
    simp only [go_sem, List.map_cons, List.map_nil, ↓reduceIte, Nat.reduceEqDiff, Nat.reduceAdd, Nat.reduceMul, reduceCtorEq, and_true, true_and, Nat.mul_one, Nat.zero_add, Bool.false_eq_true, decide_true, decide_false, not_false_eq_true, kont_eq]
    refine (hb _ _ _ _ _ _ W6 Sy (fun k h hF => by have := oy k h; have := hF4 k hF; omega) (by rw [List.length_append]; omega)).mono ?_
    rintro r H7 ⟨rfl, W7, K7⟩
    have K7' : Keep (fun _ => False) H H7 := K6'.trans' K7 (fun j hj e => by have := hF4 j e; omega)
    have nF : ∀ k, ownB v6 k → ¬ F k := fun k h hF => by
      rcases o6 k h with h' | h'
      · exact (o4 k h').2 hF
      · have := W4.bound k hF; omega
    have O7 := O6.keep K7 nF
    have k6 := K6'.size
    simp (disch := omega) only [go_sem, List.map_cons, List.map_nil, ↓reduceIte, Nat.reduceEqDiff, Nat.reduceAdd, Nat.reduceMul, reduceCtorEq, and_true, true_and, Nat.mul_one, Nat.zero_add, Bool.false_eq_true, decide_true, decide_false, not_false_eq_true, kont_eq, hf7, IntWalk.i64_in]
    have eu : us ++ List.take 1 (List.drop 0 [Value.slice ax ((ls.getD i []).take 600).length cx]) = us ++ [.slice ax ((ls.getD i []).take 600).length cx] := rfl
    rw [eu] at O7
    refine ⟨5 - (i + 1), by omega, i + 1, _, us ++ [.slice ax ((ls.getD i []).take 600).length cx], by omega, by omega, rfl, by simp, O7, by simp [hul], fun j hj => ?_, fun k h => ?_, by rw [encP_shortS _ _ hc1, ← List.append_assoc]; exact W7, fun k h => ?_, ?_, K7'⟩
    · by_cases e : j < i
      · have h1 := hue j e
        have e1 : (us ++ [Value.slice ax ((ls.getD i []).take 600).length cx]).getD j undef = us.getD j undef := by
          rw [List.getD_eq_getElem?_getD, List.getElem?_append_left (by omega), ← List.getD_eq_getElem?_getD]
        rw [e1, shortL_get _ _ _ (by omega) (by omega), ← shortL_get ls i j e hil]
        refine ⟨((h1.1.keep K5 (by simp)).keep K6 (fun k hk hO => ?_)).keep K7 (fun k hk hF => ?_), h1.2⟩
        · have := h1.2 k hk; have := (o4 k hO).1; omega
        · have := h1.2 k hk; have := hF4 k hF; omega
      · have e' : j = i := by omega
        subst e'
        have e1 : (us ++ [Value.slice ax ((ls.getD j []).take 600).length cx]).getD j undef = .slice ax ((ls.getD j []).take 600).length cx := by
          rw [List.getD_eq_getElem?_getD, List.getElem?_append_right (by omega), hul]; simp
        rw [e1, shortL_get _ _ _ (by omega) (by omega)]
        refine ⟨((Sx.keep K5 (by simp)).keep K6 (fun k hk hO => ?_)).keep K7 (fun k hk hF => ?_), ox⟩
        · have := ox k hk; have := (o4 k hO).1; omega
        · have := ox k hk; have := hF4 k hF; omega
    · refine ⟨?_, fun hg => ?_⟩
      · rcases o6 k h with h' | h'
        · exact (o4 k h').1
        · omega
      · rcases hg with hF | hg
        · exact nF k h hF
        · have := O6.old h; omega
    · rcases h with h | h
      · exact hF4 k h
      · omega
    · intro u hu
      rcases List.mem_append.1 hu with h | h
      · exact hus u h
      · simp at h; subst h; trivial
  · have hex : ¬ (i : Int) < (ls.length : Int) ∨ ((i : Int) < (ls.length : Int) ∧ ¬ (i : Int) < 5) := by omega
    have hGn : ∀ {H'}, Keep (fun _ => False) H H' → GlobOk ι H' := fun h => hG.keep h (by simp) (by simp)
    have hSS : SlS H4 (g 5) (shortL ls i) := ⟨us, O4.sl, by rw [hul, shortL_len _ _ hil], fun j hj => (hue j (by rw [shortL_len _ _ hil] at hj; exact hj)).1⟩
    rcases hex with d1 | ⟨d1, d2⟩
    all_goals
      simp only [go_sem, List.map_cons, List.map_nil, ↓reduceIte, Nat.reduceEqDiff, Nat.reduceAdd, Nat.reduceMul, reduceCtorEq, and_true, true_and, Nat.mul_one, Nat.zero_add, Bool.false_eq_true, decide_true, decide_false, not_false_eq_true, kont_eq, hf7, hS.isSl, hS.len, hlen, d1]
      try simp only [go_sem, List.map_cons, List.map_nil, ↓reduceIte, Nat.reduceEqDiff, Nat.reduceAdd, Nat.reduceMul, reduceCtorEq, and_true, true_and, Nat.mul_one, Nat.zero_add, Bool.false_eq_true, decide_true, decide_false, not_false_eq_true, kont_eq, hf7, hS.isSl, hS.len, hlen, d1, d2]
      refine (ht _ _ _ _ hSS hsm (by omega) (hGn K4)).mono ?_
      rintro r H5 ⟨rfl, K5⟩
      have K5' := K4.trans K5
      have k5 := K5'.size
      rw [kont_eq]
      simp only [go_sem, List.map_cons, List.map_nil, ↓reduceIte, Nat.reduceEqDiff, Nat.reduceAdd, Nat.reduceMul, reduceCtorEq, and_true, true_and, Nat.mul_one, Nat.zero_add, Bool.false_eq_true, decide_true, decide_false, not_false_eq_true]
      refine kont_new fun H6 b6 e6 z6 B6 K6 => ?_
      rw [z32L] at B6
      have hsf := sumF_len (tagF tag (shortL ls i))
      have etf : tagF tag (shortL ls i) = encB tag ++ encP (shortL ls i) i := by unfold tagF; rw [shortL_len _ _ hil]
      generalize htf : tagF tag (shortL ls i) = tf at *
      have lw : (w8 (sumF tf)).length = 32 := by rw [w8_len, hsf]
      have t32 : List.take 32 (w8 (sumF tf)) = w8 (sumF tf) := List.take_of_length_le (by omega)
      have K6' := K5'.trans K6
      have U := B6.stNA 0 (w8 (sumF tf))
      rw [wrL_all _ _ (by rw [lw]; simp [w8])] at U
      have KU : Keep (fun _ => False) H (stNA H6 ⟨b6, 0, none⟩ (w8 (sumF tf))) := K6'.stNA _ (.inr (by simp only []; omega))
      have K46 : Keep (fun _ => False) H4 (stNA H6 ⟨b6, 0, none⟩ (w8 (sumF tf))) := (K5.trans K6).stNA _ (.inr (by simp only []; have := K5.size; omega))
      simp only [go_sem, List.map_cons, List.map_nil, ↓reduceIte, Nat.reduceEqDiff, Nat.reduceAdd, Nat.reduceMul, reduceCtorEq, and_true, true_and, Nat.mul_one, Nat.zero_add, Bool.false_eq_true, decide_true, decide_false, not_false_eq_true, kont_eq, okN_ptr, stNH_ptr, cells_agg]
      refine ⟨⟨B6.okNA (by simp [w8_len]), lw, w8_all1 _⟩, ?_⟩
      generalize stNA H6 _ _ = H7 at *
      refine vc_drk (fun _ => False) ?_
      simp only [go_sem, List.map_cons, List.map_nil, ↓reduceIte, Nat.reduceEqDiff, Nat.reduceAdd, Nat.reduceMul, reduceCtorEq, and_true, true_and, Nat.mul_one, Nat.zero_add, Bool.false_eq_true, decide_true, decide_false, not_false_eq_true, kont_eq, ldNO_ptr, U.ldNA (o := 0) (n := 32) (by omega), List.drop_zero, t32]
      have hSS7 : SlS H7 (g 5) (shortL ls i) := ⟨us, O4.sl.keep K46 (by simp), by rw [hul, shortL_len _ _ hil], fun j hj => ((hue j (by rw [shortL_len _ _ hil] at hj; exact hj)).1).keep K46 (by simp)⟩
      refine (hrt _ _ _ _ hSS7 hsm (by omega) (hGn KU)).mono ?_
      rintro r H8 ⟨rfl, K8⟩
      have K8' := KU.trans K8
      have U8 := K8.bl U (by simp)
      rw [htf]
      simp only [go_sem, List.map_cons, List.map_nil, ↓reduceIte, Nat.reduceEqDiff, Nat.reduceAdd, Nat.reduceMul, reduceCtorEq, and_true, true_and, Nat.mul_one, Nat.zero_add, Bool.false_eq_true, decide_true, decide_false, not_false_eq_true, kont_eq, ldNO_ptr, U8.ldNA (o := 0) (n := 32) (by omega), List.drop_zero, t32, lw, w8_eqv, beq_self_eq_true]
      refine ⟨K8, ⟨w8_isI _, w8_isI _⟩, ?_⟩
      refine (ho _ _ _ _ ((W4.keep K46 (by simp)).keep K8 (by simp)) (by rw [List.length_append]; omega)).mono ?_
      rintro r H9 ⟨O9, o9, K9⟩
      have K9' := K8'.trans K9
      simp only [go_sem, List.map_cons, List.map_nil, ↓reduceIte, Nat.reduceEqDiff, Nat.reduceAdd, Nat.reduceMul, reduceCtorEq, and_true, true_and, Nat.mul_one, Nat.zero_add, Bool.false_eq_true, decide_true, decide_false, not_false_eq_true, kont_eq]
      refine ⟨K9, ?_⟩
      refine (hs _ _ _ O9.sl (hGn K9')).mono ?_
      rintro r H10 ⟨rfl, K10⟩
      rw [← etf]
      simp only [go_sem, List.map_cons, List.map_nil, ↓reduceIte, Nat.reduceEqDiff, Nat.reduceAdd, Nat.reduceMul, reduceCtorEq, and_true, true_and, Nat.mul_one, Nat.zero_add, Bool.false_eq_true, decide_true, decide_false, not_false_eq_true, kont_eq, lw, w8_eqv, beq_self_eq_true]
      exact ⟨K10, ⟨w8_isI _, w8_isI _⟩, K9'.trans K10⟩
end Go.Mg

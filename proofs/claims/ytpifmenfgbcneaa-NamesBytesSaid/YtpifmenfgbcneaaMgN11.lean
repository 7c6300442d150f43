/- names: reading tables from bytes. -/
import Derived.Test.YtpifmenfgbcneaaMgN10
import Derived.Test.YtpifmenfgbcneaaMgW2
namespace Go.Mg
open Go Go.RowKit
set_option linter.unusedSimpArgs false
set_option linter.unusedVariables false
set_option maxRecDepth 100000
/- names.Read -/
def c_nread (ι : Ids) : S :=
  .seq (.reg [.p (.v 2) (.mv (.c (.pointer .none))), .p (.v 3) (.mv (.c (.int .i64 0)))]) (.seq (.reg [.p (.t 9) (.mv (.v 0)), .e (.t 10) (.call (ι.f 108) [.t 9]), .p (.v 4) (.mv (.t 10))]) (.seq (.reg
  [.p (.v 5) (.mv (.c (.slice .none 0 0)))]) (.seq (.seq (.reg [.p (.t 11) (.mv (.v 4)), .e (.t 12) (.call (ι.f 113) [.t 11, .c (.int .i64 256)]), .p (.v 6) (.mv (.t 12))]) (.blk 0 (.loop (.seq (.seq
  (.reg [.p (.t 13) (.mv (.v 6)), .p (.v 14) (.cm .gtr .i64 (.t 13) (.c (.int .i64 0)))]) (.ite (.v 14) .skip (.exit 0))) (.seq (.blk 1 (.reg [.p (.t 17) (.mv (.v 5)), .p (.t 18) (.mv (.v 4)), .e (.t
  19) (.call (ι.f 115) [.t 18, .c (.int .i64 12)]), .e (.t 20) (.bldF (ι.t 67) 1 1 [.t 19]), .e (.t 21) (.app false (ι.t 67) 1 16 #[.string ⟨#[]⟩] (.t 17) (.t 20)), .p (.v 5) (.mv (.t 21))])) (.reg [.p
  (.t 15) (.mv (.v 6)), .p (.t 16) (.ar .sub .i64 (.t 15) (.c (.int .i64 1))), .p (.v 6) (.mv (.t 16))])))))) (.seq (.seq (.reg [.p (.t 22) (.mv (.v 4)), .e (.t 23) (.call (ι.f 117) [.t 22]), .p (.v 24)
  (.cm .neq .i64 (.t 23) (.c (.int .i64 0)))]) (.ite (.v 24) (.seq (.reg [.p (.v 2) (.mv (.c (.pointer .none))), .p (.v 3) (.mv (.c (.int .i64 6)))]) .ret) .skip)) (.seq (.reg [.p (.t 26) (.mv (.v 5)),
  .e (.t 27) (.call (ι.f 101) [.t 26, .c (.int .i64 256)]), .p (.t 25) (.mv (.t 27)), .p (.t 28) (.ext (.t 25) 0), .p (.t 29) (.ext (.t 25) 1), .p (.v 7) (.mv (.t 28)), .p (.v 8) (.mv (.t 29))]) (.seq
  (.seq (.reg [.p (.t 30) (.mv (.v 8)), .p (.v 31) (.cm .neq .i64 (.t 30) (.c (.int .i64 0)))]) (.ite (.v 31) (.seq (.reg [.p (.v 2) (.mv (.c (.pointer .none))), .p (.v 3) (.mv (.c (.int .i64 6)))])
  .ret) .skip)) (.seq (.reg [.p (.t 32) (.mv (.v 7)), .p (.v 2) (.mv (.t 32)), .p (.v 3) (.mv (.c (.int .i64 0)))]) .ret)))))))
def r_nread : List RV := [.t 2, .t 3]
/- arbacref08.Bytes -/
def c_rbytesl (ι : Ids) : S :=
  .seq (.reg [.p (.v 2) (.mv (.c (.slice .none 0 0)))]) (.seq (.reg [.p (.t 6) (.mv (.v 0)), .p (.t 7) (.m (.lenl (.t 6))), .p (.t 8) (.ii .u64 (.t 7)), .e (.t 9) (.call (ι.f 61) [.t 8]), .p (.v 3) (.mv
  (.t 9))]) (.seq (.seq (.reg [.p (.v 10) (.mv (.v 0)), .p (.v 11) (.m (.lenl (.v 10))), .p (.v 12) (.mv (.c (.int .i64 0)))]) (.blk 0 (.loop (.seq (.reg [.p (.v 13) (.cm .lss .i64 (.v 12) (.v 11))])
  (.seq (.ite (.v 13) .skip (.exit 0)) (.seq (.blk 1 (.seq (.reg [.p (.t 14) (.is 1 (.v 10) (.v 12)), .p (.t 15) (.ld (.t 14)), .p (.v 5) (.mv (.t 15))]) (.reg [.p (.t 16) (.mv (.v 3)), .p (.t 17) (.mv
  (.v 5)), .e (.t 18) (.s2b (ι.t 19) (.t 17)), .e (.t 19) (.call (ι.f 62) [.t 18]), .e (.t 20) (.app false (ι.t 19) 1 1 #[.int .u8 0] (.t 16) (.t 19)), .p (.v 3) (.mv (.t 20))]))) (.reg [.p (.t 21) (.ar
  .add .i64 (.v 12) (.c (.int .i64 1))), .p (.v 12) (.mv (.t 21))]))))))) (.seq (.reg [.p (.t 22) (.mv (.v 3)), .p (.v 2) (.mv (.t 22))]) .ret)))
def r_rbytesl : List RV := [.t 2]

/-! ### the bytes of a list -/
def flatE (l : List (List UInt8)) : List UInt8 := l.flatMap encB
theorem encN_flatE (l : List (List UInt8)) : ∀ n, n ≤ l.length → encN l n = enc7 l.length ++ flatE (l.take n)
  | 0, _ => by simp [encN, iter, flatE]
  | n + 1, hn => by
    have e2 : l.take (n + 1) = l.take n ++ [l.getD n []] := by rw [List.take_add_one]; simp [show n < l.length by omega]
    have e3 : flatE (l.take n ++ [l.getD n []]) = flatE (l.take n) ++ encB (l.getD n []) := by simp [flatE]
    rw [encN_succ, encN_flatE l n (by omega), e2, e3, List.append_assoc]
theorem tbytes_flat (l : List (List UInt8)) : tbytes l = enc7 l.length ++ flatE l := by
  rw [tbytes, encN_flatE l _ (Nat.le_refl _), List.take_length]
/-- what is read -/
def rdL : Nat → List UInt8 × Int → List (List UInt8) × (List UInt8 × Int)
  | 0, s => ([], s)
  | n + 1, s => ((rdByt 12 s).1 :: (rdL n (rdByt 12 s).2).1, (rdL n (rdByt 12 s).2).2)
def readF (p : List UInt8) : Option (List (List UInt8)) :=
  if endE (rdL (rdCnt 256 (p, 0)).1 (rdCnt 256 (p, 0)).2).2 ≠ 0 then none
  else if ofE 256 [] (rdL (rdCnt 256 (p, 0)).1 (rdCnt 256 (p, 0)).2).1 ≠ 0 then none else some (rdL (rdCnt 256 (p, 0)).1 (rdCnt 256 (p, 0)).2).1
theorem rdByt_enc (x r : List UInt8) (h : x.length ≤ 12) : rdByt 12 (encB x ++ r, 0) = (x, (r, 0)) := by
  unfold rdByt
  rw [if_neg (by simp), encB, List.append_assoc, dec7_enc _ (by omega)]
  simp only
  rw [if_neg (by omega), if_neg (by simp), List.take_left, List.drop_left]
theorem rdL_enc : ∀ (l : List (List UInt8)) (r : List UInt8), (∀ x ∈ l, x.length ≤ 12) → rdL l.length (flatE l ++ r, 0) = (l, (r, 0))
  | [], _, _ => rfl
  | x :: l, r, h => by
    have e : flatE (x :: l) ++ r = encB x ++ (flatE l ++ r) := by simp [flatE]
    have e2 : (x :: l).length = l.length + 1 := rfl
    rw [e, e2, rdL, rdByt_enc x _ (h x (by simp)), rdL_enc l r (fun y hy => h y (by simp [hy]))]
theorem rdByt_ok {s : List UInt8 × Int} (h : (rdByt 12 s).2.2 = 0) : s.2 = 0 ∧ s.1 = encB (rdByt 12 s).1 ++ (rdByt 12 s).2.1 := by
  unfold rdByt at h ⊢
  by_cases c : s.2 ≠ 0
  · rw [if_pos c] at h; exact absurd h c
  rw [if_neg c] at h ⊢
  refine ⟨by simpa using c, ?_⟩
  cases hd : dec7 true 0 s.1 with
  | none => rw [hd] at h; simp at h
  | some p =>
    obtain ⟨v, r⟩ := p
    rw [hd] at h
    simp only at h ⊢
    by_cases c1 : v > 12
    · rw [if_pos c1] at h; simp at h
    rw [if_neg c1] at h ⊢
    by_cases c2 : v > r.length
    · rw [if_pos c2] at h; simp at h
    rw [if_neg c2] at h ⊢
    simp only
    have e : (r.take v).length = v := by simp; omega
    rw [encB, e, List.append_assoc, List.take_append_drop]
    exact dec7_can _ _ _ hd
theorem rdL_ok : ∀ (n : Nat) (s : List UInt8 × Int), (rdL n s).2.2 = 0 → s.2 = 0 ∧ s.1 = flatE (rdL n s).1 ++ (rdL n s).2.1 ∧ (rdL n s).1.length = n
  | 0, s, h => ⟨h, rfl, rfl⟩
  | n + 1, s, h => by
    unfold rdL at h ⊢
    simp only at h ⊢
    obtain ⟨h1, h2, h3⟩ := rdL_ok n _ h
    obtain ⟨h4, h5⟩ := rdByt_ok h1
    refine ⟨h4, ?_, by simp [h3]⟩
    rw [h5]
    conv => lhs; rw [h2]
    simp [flatE]
theorem rdCnt_ok {m : Nat} {p : List UInt8} (h : (rdCnt m (p, 0)).2.2 = 0) : p = enc7 (rdCnt m (p, 0)).1 ++ (rdCnt m (p, 0)).2.1 ∧ (rdCnt m (p, 0)).1 ≤ m := by
  unfold rdCnt at h ⊢
  rw [if_neg (by simp)] at h ⊢
  cases hd : dec7 true 0 p with
  | none => rw [hd] at h; simp at h
  | some q =>
    obtain ⟨v, r⟩ := q
    rw [hd] at h
    simp only at h ⊢
    by_cases c1 : v > m
    · rw [if_pos c1] at h; simp at h
    rw [if_neg c1] at h ⊢
    exact ⟨dec7_can _ _ _ hd, by omega⟩
theorem endE_0 {s : List UInt8 × Int} (h : endE s = 0) : s.2 = 0 ∧ s.1 = [] := by
  unfold endE at h
  by_cases c : s.2 = 0 ∧ 0 < s.1.length
  · rw [if_pos c] at h; omega
  · rw [if_neg c] at h
    refine ⟨h, List.eq_nil_of_length_eq_zero ?_⟩
    have : ¬ 0 < s.1.length := fun e => c ⟨h, e⟩
    omega
theorem readF_ok {p : List UInt8} {l : List (List UInt8)} (h : readF p = some l) : tbytes l = p ∧ ofE 256 [] l = 0 := by
  unfold readF at h
  by_cases c1 : endE (rdL (rdCnt 256 (p, 0)).1 (rdCnt 256 (p, 0)).2).2 ≠ 0
  · rw [if_pos c1] at h; cases h
  rw [if_neg c1] at h
  by_cases c2 : ofE 256 [] (rdL (rdCnt 256 (p, 0)).1 (rdCnt 256 (p, 0)).2).1 ≠ 0
  · rw [if_pos c2] at h; cases h
  rw [if_neg c2] at h
  cases h
  refine ⟨?_, by simpa using c2⟩
  obtain ⟨h1, h2⟩ := endE_0 (by simpa using c1)
  obtain ⟨h3, h4, h5⟩ := rdL_ok _ _ h1
  obtain ⟨h6, h7⟩ := rdCnt_ok h3
  rw [tbytes_flat, h5]
  rw [h2, List.append_nil] at h4
  rw [← h4]; exact h6.symm
/-- the lists that may become tables -/
theorem ofE_all (most : Int) (l : List (List UInt8)) (h : ofE most [] l = 0) : ∀ i, i < l.length → addE (l.take i) (l.getD i []) most = 0 := by
  have : ∀ n, n ≤ l.length → (∀ i, i < n → addE (l.take i) (l.getD i []) most = 0) ∧ ofE most (l.take n) (l.drop n) = 0 := by
    intro n
    induction n with
    | zero => intro _; exact ⟨fun i hi => by omega, h⟩
    | succ n ih =>
      intro hn
      obtain ⟨h1, h2⟩ := ih (by omega)
      rw [ofE_step l most n (by omega)] at h2
      by_cases c : addE (l.take n) (l.getD n []) most = 0
      · rw [if_pos c] at h2
        refine ⟨fun i hi => ?_, h2⟩
        by_cases e : i = n
        · subst e; exact c
        · exact h1 i (by omega)
      · rw [if_neg c] at h2; exact absurd h2 c
  exact (this l.length (Nat.le_refl _)).1
theorem ofE_len {most : Int} {l : List (List UInt8)} (h : ofE most [] l = 0) : l.length ≤ 256 := by
  by_cases e : l.length = 0
  · omega
  · have := addE_zero (ofE_all most l h (l.length - 1) (by omega))
    simp at this; omega
theorem ofE_small {most : Int} {l : List (List UInt8)} (h : ofE most [] l = 0) : ∀ x ∈ l, x.length ≤ 12 := by
  intro x hx
  obtain ⟨i, hi, rfl⟩ := List.getElem_of_mem hx
  have := valid_len (addE_zero (ofE_all most l h i hi)).1
  simpa [hi] using this
theorem readF_tbytes {l : List (List UInt8)} (h : ofE 256 [] l = 0) : readF (tbytes l) = some l := by
  have h1 := ofE_len h
  have e1 : rdCnt 256 (tbytes l, 0) = (l.length, (flatE l, 0)) := by
    unfold rdCnt
    rw [if_neg (by simp), tbytes_flat, dec7_enc _ (by omega)]
    simp only
    rw [if_neg (by omega)]
  have e2 : rdL l.length (flatE l, 0) = (l, ([], 0)) := by
    have := rdL_enc l [] (ofE_small h)
    rwa [List.append_nil] at this
  unfold readF
  rw [e1]
  simp only [e2]
  rw [if_neg (by simp [endE]), if_neg (by simp [h])]
theorem encB_inj {x y r s : List UInt8} (hx : x.length < 18446744073709551616) (hy : y.length < 18446744073709551616) (h : encB x ++ r = encB y ++ s) : x = y ∧ r = s := by
  rw [encB, encB, List.append_assoc, List.append_assoc] at h
  have h1 := dec7_enc x.length hx (x ++ r)
  rw [h, dec7_enc y.length hy (y ++ s)] at h1
  simp only [Option.some.injEq, Prod.mk.injEq] at h1
  exact (List.append_inj h1.2 h1.1).imp Eq.symm Eq.symm
theorem flatE_inj : ∀ (a b : List (List UInt8)), a.length = b.length → (∀ x ∈ a, x.length < 18446744073709551616) → (∀ x ∈ b, x.length < 18446744073709551616) → flatE a = flatE b → a = b
  | [], [], _, _, _, _ => rfl
  | x :: a, y :: b, hl, ha, hb, he => by
    have e : ∀ (x : List UInt8) l, flatE (x :: l) = encB x ++ flatE l := fun x l => by simp [flatE]
    rw [e, e] at he
    obtain ⟨rfl, h2⟩ := encB_inj (ha x (by simp)) (hb y (by simp)) he
    rw [flatE_inj a b (by simpa using hl) (fun z hz => ha z (by simp [hz])) (fun z hz => hb z (by simp [hz])) h2]
  | [], _ :: _, h, _, _, _ => by simp at h
  | _ :: _, [], h, _, _, _ => by simp at h
theorem tbytes_injG {a b : List (List UInt8)} (la : a.length < 18446744073709551616) (lb : b.length < 18446744073709551616) (ha : ∀ x ∈ a, x.length < 18446744073709551616) (hb : ∀ x ∈ b, x.length < 18446744073709551616) (h : tbytes a = tbytes b) : a = b := by
  rw [tbytes_flat, tbytes_flat] at h
  have h1 := dec7_enc a.length la (flatE a)
  rw [h, dec7_enc b.length lb (flatE b)] at h1
  simp only [Option.some.injEq, Prod.mk.injEq] at h1
  exact flatE_inj a b h1.1.symm ha hb h1.2.symm
theorem readF_none {l : List (List UInt8)} (h : ofE 256 [] l ≠ 0) (ll : l.length < 18446744073709551616) (hl : ∀ x ∈ l, x.length < 18446744073709551616) : readF (tbytes l) = none := by
  cases hr : readF (tbytes l) with
  | none => rfl
  | some m =>
    obtain ⟨h1, h2⟩ := readF_ok hr
    have h3 := ofE_len h2
    have h4 := tbytes_injG (by omega) ll (fun x hx => by have := ofE_small h2 x hx; omega) hl h1
    subst h4
    exact absurd h2 h

def RBytesLSpec (P : Program) (k : FuncId) : Prop := ∀ (l : List (List UInt8)) (v : Value) (H : Hp), SlR H v (sL l) → NSmall l → CallsM P k #[v] H fun r H' => OwS H' r (w8 (tbytes l)) ∧ (∀ k, ownB r k → H.size ≤ k) ∧ Keep (fun _ => False) H H'
theorem rbytesl_ok {P : Program} {ι : Ids} {k : FuncId} (hk : FnIs P k (c_rbytesl ι) r_rbytesl 1) (hp : NumSpec P (ι.f 61)) (hb : RPutBSpec P (ι.f 62)) : RBytesLSpec P k := by
  intro l v H hv hsm
  refine calls_of_vc hk (args := [_]) (by simp) ?_
  unfold c_rbytesl r_rbytesl
  have lsl := hsm.1
  have w6 : IntKind.u64.wrap (l.length : Int) = (l.length : Int) := by rw [IntKind.wrap_u64]; omega
  simp only [go_sem, List.map_cons, List.map_nil, ↓reduceIte, Nat.reduceEqDiff, Nat.reduceAdd, Nat.reduceMul, reduceCtorEq, and_true, true_and, Nat.mul_one, Nat.zero_add, Bool.false_eq_true, decide_true, decide_false, not_false_eq_true, kont_eq, beq_self_eq_true, bne_self_eq_false, Int.reduceBEq, Int.reduceBNe, Int.cast_ofNat_Int, hv.isSl, hv.len, sL_len, w6]
  refine (hp _ _ (by omega)).mono ?_
  rintro r H2 ⟨O2, o2, K2⟩
  simp only [go_sem, List.map_cons, List.map_nil, ↓reduceIte, Nat.reduceEqDiff, Nat.reduceAdd, Nat.reduceMul, reduceCtorEq, and_true, true_and, Nat.mul_one, Nat.zero_add, Bool.false_eq_true, decide_true, decide_false, not_false_eq_true, kont_eq, beq_self_eq_true, bne_self_eq_false, Int.reduceBEq, Int.reduceBNe, Int.cast_ofNat_Int, hv.isSl, hv.len, sL_len]
  refine vc_loop [13, 5, 3, 12] rfl (fun n f H' => ∃ i, i ≤ l.length ∧ n = l.length - i ∧ f 12 = .int .i64 i ∧ OwS H' (f 3) (w8 (encN l i)) ∧ (∀ k, ownB (f 3) k → H.size ≤ k) ∧ Keep (fun _ => False) H H') l.length
    ⟨0, by omega, by omega, rfl, by exact O2, o2, K2⟩ ?_
  rintro n g H4 ⟨i, hi, rfl, hf12, O4, o4, K4⟩
  simp only [go_sem, List.map_cons, List.map_nil, ↓reduceIte, Nat.reduceEqDiff, Nat.reduceAdd, Nat.reduceMul, reduceCtorEq, and_true, true_and, Nat.mul_one, Nat.zero_add, Bool.false_eq_true, decide_true, decide_false, not_false_eq_true, kont_eq, beq_self_eq_true, bne_self_eq_false, Int.reduceBEq, Int.reduceBNe, Int.cast_ofNat_Int] at hf12 O4 o4
  simp only [go_sem, List.map_cons, List.map_nil, ↓reduceIte, Nat.reduceEqDiff, Nat.reduceAdd, Nat.reduceMul, reduceCtorEq, and_true, true_and, Nat.mul_one, Nat.zero_add, Bool.false_eq_true, decide_true, decide_false, not_false_eq_true, kont_eq, beq_self_eq_true, bne_self_eq_false, Int.reduceBEq, Int.reduceBNe, Int.cast_ofNat_Int, hf12]
  have k4 := K4.size
  refine iteV_dec (fun hlt => ?_) (fun hge => ?_)
  · have hi2 : i < l.length := by omega
    obtain ⟨bV, oV, cV, rfl, -, -⟩ := hv.cells (by intro e; have h := congrArg List.length e; rw [sL_len, List.length_nil] at h; omega)
    have hcell := (hv.keep K4 (by simp)).cell_at (i := i) (by rw [sL_len]; omega)
    rw [sL_get _ _ hi2] at hcell
    have he := encN_len l hsm i (by omega)
    have hx := hsm.2 i hi2
    have hb1 := encB_le _ hx
    have hs := encN_succ l i
    generalize l.getD i [] = x at *
    simp (disch := omega) only [go_sem, List.map_cons, List.map_nil, ↓reduceIte, Nat.reduceEqDiff, Nat.reduceAdd, Nat.reduceMul, reduceCtorEq, and_true, true_and, Nat.mul_one, Nat.zero_add, Bool.false_eq_true, decide_true, decide_false, not_false_eq_true, kont_eq, beq_self_eq_true, bne_self_eq_false, Int.reduceBEq, Int.reduceBNe, Int.cast_ofNat_Int, hf12, hcell, sL_len, tn_cast]
    refine And.intro (by omega) ?_
    intro c hc
    have hc : x.length ≤ c := hc
    obtain ⟨K5, S5⟩ := s2b_new H4 x (ι.t 19) c hc
    generalize Array.push H4 _ = H5 at *
    refine (hb _ _ _ S5 (by omega)).mono ?_
    rintro r5 H6 ⟨O6, o6, K6⟩
    have K6' := (K4.trans K5).trans K6
    simp (disch := omega) only [go_sem, List.map_cons, List.map_nil, ↓reduceIte, Nat.reduceEqDiff, Nat.reduceAdd, Nat.reduceMul, reduceCtorEq, and_true, true_and, Nat.mul_one, Nat.zero_add, Bool.false_eq_true, decide_true, decide_false, not_false_eq_true, kont_eq, beq_self_eq_true, bne_self_eq_false, Int.reduceBEq, Int.reduceBNe, Int.cast_ofNat_Int, hf12]
    refine app_bytesN H.size ((O4.keep K5 (by simp)).keep K6 (by simp)) o4 K6'.size O6.sl rfl (by omega) fun v2 H7 O7 o7 K7 => ?_
    rw [← hs] at O7
    simp (disch := omega) only [go_sem, List.map_cons, List.map_nil, ↓reduceIte, Nat.reduceEqDiff, Nat.reduceAdd, Nat.reduceMul, reduceCtorEq, and_true, true_and, Nat.mul_one, Nat.zero_add, Bool.false_eq_true, decide_true, decide_false, not_false_eq_true, kont_eq, beq_self_eq_true, bne_self_eq_false, Int.reduceBEq, Int.reduceBNe, Int.cast_ofNat_Int, hf12, IntWalk.i64_in]
    exact ⟨l.length - (i + 1), by omega, i + 1, by omega, rfl, by simp, O7, o7, K6'.at_old K7 (Nat.le_refl _)⟩
  · have hi2 : i = l.length := by omega
    subst hi2
    exact ⟨O4, o4, K4⟩
def NReadSpec (P : Program) (k : FuncId) : Prop := ∀ (p : List UInt8) (v : Value) (H : Hp), SlR H v (w8 p) → p.length ≤ 100000000 → CallsM P k #[v] H fun r H' => Keep (fun _ => False) H H' ∧
  ((readF p = none ∧ r = .tuple #[.pointer none, .int .i64 6]) ∨ ∃ l t F, readF p = some l ∧ r = .tuple #[.pointer (some ⟨t, 0, none⟩), .int .i64 0] ∧ TabB F H' t l ∧ ∀ k, F k → H.size ≤ k)
theorem rdByt_len (m : Nat) (s : List UInt8 × Int) : (rdByt m s).2.1.length ≤ s.1.length ∧ (rdByt m s).1.length ≤ m := by
  unfold rdByt
  by_cases c : s.2 ≠ 0
  · rw [if_pos c]; exact ⟨Nat.le_refl _, Nat.zero_le _⟩
  rw [if_neg c]
  cases hd : dec7 true 0 s.1 with
  | none => exact ⟨Nat.le_refl _, Nat.zero_le _⟩
  | some p =>
    obtain ⟨v, r⟩ := p
    simp only
    by_cases c1 : v > m
    · rw [if_pos c1]; exact ⟨Nat.le_refl _, Nat.zero_le _⟩
    rw [if_neg c1]
    by_cases c2 : v > r.length
    · rw [if_pos c2]; exact ⟨Nat.le_refl _, Nat.zero_le _⟩
    rw [if_neg c2]
    have := (decN_some hd).2.1
    simp only [List.length_drop, List.length_take]
    omega
theorem rdCnt_len (m : Nat) (s : List UInt8 × Int) : (rdCnt m s).2.1.length ≤ s.1.length ∧ (rdCnt m s).1 ≤ m := by
  unfold rdCnt
  by_cases c : s.2 ≠ 0
  · rw [if_pos c]; exact ⟨Nat.le_refl _, Nat.zero_le _⟩
  rw [if_neg c]
  cases hd : dec7 true 0 s.1 with
  | none => exact ⟨Nat.le_refl _, Nat.zero_le _⟩
  | some p =>
    obtain ⟨v, r⟩ := p
    simp only
    by_cases c1 : v > m
    · rw [if_pos c1]; exact ⟨Nat.le_refl _, Nat.zero_le _⟩
    rw [if_neg c1]
    have := (decN_some hd).2.1
    exact ⟨by show r.length ≤ s.1.length; omega, by show v ≤ m; omega⟩
theorem nread_ok {P : Program} {ι : Ids} {k : FuncId} (hk : FnIs P k (c_nread ι) r_nread 1) (hn : RNewRSpec P (ι.f 108)) (hc : RCountSpec P (ι.f 113)) (hs : RStrSpec P (ι.f 115)) (he : REndSpec P (ι.f 117)) (hof : NOfSpec P (ι.f 101)) : NReadSpec P k := by
  intro p v H hv hp
  refine calls_of_vc hk (args := [_]) (by simp) ?_
  unfold c_nread r_nread
  simp only [go_sem, List.map_cons, List.map_nil, ↓reduceIte, Nat.reduceEqDiff, Nat.reduceAdd, Nat.reduceMul, reduceCtorEq, and_true, true_and, Nat.mul_one, Nat.zero_add, Bool.false_eq_true, decide_true, decide_false, not_false_eq_true, kont_eq, beq_self_eq_true, bne_self_eq_false, Int.reduceBEq, Int.reduceBNe, Int.cast_ofNat_Int]
  refine (hn _ _ _ hv hp).mono ?_
  rintro x H1 ⟨b, F, rfl, R1, hF1, K1⟩
  have k1 := K1.size
  have hFb := R1.bound
  have hbF := R1.at
  simp only [go_sem, List.map_cons, List.map_nil, ↓reduceIte, Nat.reduceEqDiff, Nat.reduceAdd, Nat.reduceMul, reduceCtorEq, and_true, true_and, Nat.mul_one, Nat.zero_add, Bool.false_eq_true, decide_true, decide_false, not_false_eq_true, kont_eq, beq_self_eq_true, bne_self_eq_false, Int.reduceBEq, Int.reduceBNe, Int.cast_ofNat_Int]
  refine (hc F b (p, 0) 256 H1 R1 hp (by omega)).mono ?_
  rintro x H2 ⟨rfl, R2, K2⟩
  have cl := rdCnt_len 256 (p, 0)
  have hrf : readF p = if endE (rdL (rdCnt 256 (p, 0)).1 (rdCnt 256 (p, 0)).2).2 ≠ 0 then none
    else if ofE 256 [] (rdL (rdCnt 256 (p, 0)).1 (rdCnt 256 (p, 0)).2).1 ≠ 0 then none else some (rdL (rdCnt 256 (p, 0)).1 (rdCnt 256 (p, 0)).2).1 := rfl
  generalize rdCnt 256 (p, 0) = q at *
  obtain ⟨m0, s0⟩ := q
  simp only at cl R2 hrf
  have K2' : Keep (fun _ => False) H H2 := K1.trans' K2 (fun i hi e => by subst e; have := hF1 _ hbF; omega)
  simp only [go_sem, List.map_cons, List.map_nil, ↓reduceIte, Nat.reduceEqDiff, Nat.reduceAdd, Nat.reduceMul, reduceCtorEq, and_true, true_and, Nat.mul_one, Nat.zero_add, Bool.false_eq_true, decide_true, decide_false, not_false_eq_true, kont_eq, beq_self_eq_true, bne_self_eq_false, Int.reduceBEq, Int.reduceBNe, Int.cast_ofNat_Int]
  refine vc_loop [14, 5, 6] rfl (fun n f H' => ∃ acc s, f 6 = .int .i64 n ∧ RdB F H' b s.1 s.2 ∧ OwS H' (f 5) (sL acc) ∧ acc.length + n = m0 ∧ s.1.length ≤ 100000000 ∧ (∀ x ∈ acc, x.length ≤ 12) ∧ rdL m0 s0 = (acc ++ (rdL n s).1, (rdL n s).2)
      ∧ (∀ k, ownB (f 5) k → H.size ≤ k) ∧ (∀ k, ownB (f 5) k → ¬ F k) ∧ H2.size ≤ H'.size ∧ Keep (fun _ => False) H H') m0
    ⟨[], s0, rfl, R2, OwS.nil _, by simp, by omega, by simp, by simp, fun k h => h.elim, fun k h => h.elim, Nat.le_refl _, K2'⟩ ?_
  rintro n g H4 ⟨acc, s, hf6, R4, O4, hac, hsl, hax, hrd, o4, d4, z4, K4⟩
  simp only [go_sem, List.map_cons, List.map_nil, ↓reduceIte, Nat.reduceEqDiff, Nat.reduceAdd, Nat.reduceMul, reduceCtorEq, and_true, true_and, Nat.mul_one, Nat.zero_add, Bool.false_eq_true, decide_true, decide_false, not_false_eq_true, kont_eq, beq_self_eq_true, bne_self_eq_false, Int.reduceBEq, Int.reduceBNe, Int.cast_ofNat_Int] at hf6 O4 o4 d4
  simp only [go_sem, List.map_cons, List.map_nil, ↓reduceIte, Nat.reduceEqDiff, Nat.reduceAdd, Nat.reduceMul, reduceCtorEq, and_true, true_and, Nat.mul_one, Nat.zero_add, Bool.false_eq_true, decide_true, decide_false, not_false_eq_true, kont_eq, beq_self_eq_true, bne_self_eq_false, Int.reduceBEq, Int.reduceBNe, Int.cast_ofNat_Int, hf6]
  refine iteV_dec (fun hlt => ?_) (fun hge => ?_)
  · obtain ⟨n, rfl⟩ : ∃ m, n = m + 1 := ⟨n - 1, by omega⟩
    refine (hs F b s 12 H4 R4 hsl (by omega)).mono ?_
    rintro x H5 ⟨rfl, R5, K5⟩
    have hbl := rdByt_len 12 s
    rw [rdL] at hrd
    simp only at hrd
    generalize rdByt 12 s = y at *
    obtain ⟨x, s'⟩ := y
    simp only at R5 hbl hrd
    have K5' : Keep (fun _ => False) H H5 := K4.trans' K5 (fun i hi e => by subst e; have := hF1 _ hbF; omega)
    have O5 := O4.keep K5 (fun k h e => d4 k h (e ▸ hbF))
    simp only [go_sem, List.map_cons, List.map_nil, ↓reduceIte, Nat.reduceEqDiff, Nat.reduceAdd, Nat.reduceMul, reduceCtorEq, and_true, true_and, Nat.mul_one, Nat.zero_add, Bool.false_eq_true, decide_true, decide_false, not_false_eq_true, kont_eq, beq_self_eq_true, bne_self_eq_false, Int.reduceBEq, Int.reduceBNe, Int.cast_ofNat_Int, hf6]
    generalize hA : Array.push H5 _ = H6
    have K6 : Keep (fun _ => False) H5 H6 := by rw [← hA]; exact (Keep.refl _ _).push _
    have B6 : Bl H6 H5.size (sL [x]) := by rw [← hA]; exact Bl.new' _ _ _
    have k5 := K5.size
    have k5' := K5'.size
    have hFl : ∀ k, F k → k < H5.size := R5.bound
    refine app_sl (l := sL acc) (m := sL [x]) (O5.keep K6 (by simp)) (SlR.bl B6 0 1 1 (by omega) (by simp [sL])) (sL_all1 _) rfl (by rw [sL_len, sL_len]; unfold maxLen; simp; omega) (by rw [sL_len, sL_len]; simp; omega) fun v8 H8 O8 K8 o8 => ?_
    rw [← sL_app] at O8
    have k6 := K6.size
    have k8 := K8.size
    have wn : IntKind.i64.wrap (((n + 1 : Nat) : Int) - 1) = (n : Int) := by rw [IntWalk.i64_in _ ⟨by omega, by omega⟩]; omega
    simp only [go_sem, List.map_cons, List.map_nil, ↓reduceIte, Nat.reduceEqDiff, Nat.reduceAdd, Nat.reduceMul, reduceCtorEq, and_true, true_and, Nat.mul_one, Nat.zero_add, Bool.false_eq_true, decide_true, decide_false, not_false_eq_true, kont_eq, beq_self_eq_true, bne_self_eq_false, Int.reduceBEq, Int.reduceBNe, Int.cast_ofNat_Int, hf6, wn]
    refine ⟨n, by omega, acc ++ [x], s', rfl, (R5.keep K6 (by simp)).keep K8 (fun k hk h => d4 k h hk), O8, by simp; omega, by omega, fun z hz => ?_, by rw [hrd]; simp, fun k h => ?_, fun k h hk => ?_, by omega, (K5'.trans K6).trans' K8 (fun i hi h => by have := o4 i h; omega)⟩
    · rcases List.mem_append.1 hz with h | h
      · exact hax z h
      · simp at h; subst h; exact hbl.2
    · rcases o8 k h with h | h
      · exact o4 k h
      · omega
    · rcases o8 k h with h | h
      · exact d4 k h hk
      · have := hFl k hk; omega
  · have hn0 : n = 0 := by omega
    subst hn0
    rw [rdL] at hrd
    simp only [List.append_nil] at hrd
    rw [hrd] at hrf
    simp only at hrf
    simp only [go_sem, List.map_cons, List.map_nil, ↓reduceIte, Nat.reduceEqDiff, Nat.reduceAdd, Nat.reduceMul, reduceCtorEq, and_true, true_and, Nat.mul_one, Nat.zero_add, Bool.false_eq_true, decide_true, decide_false, not_false_eq_true, kont_eq, beq_self_eq_true, bne_self_eq_false, Int.reduceBEq, Int.reduceBNe, Int.cast_ofNat_Int]
    refine (he F b s.1 s.2 H4 R4).mono ?_
    rintro x H5 ⟨rfl, rfl⟩
    have es : (s.1, s.2) = s := rfl
    rw [es]
    by_cases c1 : endE s = 0
    · rw [if_neg (by simpa using c1)] at hrf
      have ws : WSmall acc := ⟨by omega, fun i hi => by
        have := hax (acc.getD i []) (by simp [List.getD_eq_getElem?_getD, hi])
        omega⟩
      rw [c1]
      simp only [go_sem, List.map_cons, List.map_nil, ↓reduceIte, Nat.reduceEqDiff, Nat.reduceAdd, Nat.reduceMul, reduceCtorEq, and_true, true_and, Nat.mul_one, Nat.zero_add, Bool.false_eq_true, decide_true, decide_false, not_false_eq_true, kont_eq, beq_self_eq_true, bne_self_eq_false, Int.reduceBEq, Int.reduceBNe, Int.cast_ofNat_Int]
      refine (hof acc _ 256 _ O4.sl ws).mono ?_
      rintro x H6 ⟨K6, h6⟩
      have k4 := K4.size
      rcases h6 with ⟨h, rfl⟩ | ⟨h, t, G, rfl, T6, hG⟩
      · rw [if_pos h] at hrf
        have e2 : (ofE 256 [] acc != 0) = true := by simpa using h
        simp only [go_sem, List.map_cons, List.map_nil, ↓reduceIte, Nat.reduceEqDiff, Nat.reduceAdd, Nat.reduceMul, reduceCtorEq, and_true, true_and, Nat.mul_one, Nat.zero_add, Bool.false_eq_true, decide_true, decide_false, not_false_eq_true, kont_eq, beq_self_eq_true, bne_self_eq_false, Int.reduceBEq, Int.reduceBNe, Int.cast_ofNat_Int, e2]
        exact ⟨K4.trans K6, .inl hrf⟩
      · rw [if_neg (by simpa using h)] at hrf
        simp only [go_sem, List.map_cons, List.map_nil, ↓reduceIte, Nat.reduceEqDiff, Nat.reduceAdd, Nat.reduceMul, reduceCtorEq, and_true, true_and, Nat.mul_one, Nat.zero_add, Bool.false_eq_true, decide_true, decide_false, not_false_eq_true, kont_eq, beq_self_eq_true, bne_self_eq_false, Int.reduceBEq, Int.reduceBNe, Int.cast_ofNat_Int]
        exact ⟨K4.trans K6, .inr ⟨acc, t, G, hrf, rfl, T6, fun k hk => by have := hG k hk; omega⟩⟩
    · rw [if_pos c1] at hrf
      have e2 : (endE s != 0) = true := by simpa using c1
      simp only [go_sem, List.map_cons, List.map_nil, ↓reduceIte, Nat.reduceEqDiff, Nat.reduceAdd, Nat.reduceMul, reduceCtorEq, and_true, true_and, Nat.mul_one, Nat.zero_add, Bool.false_eq_true, decide_true, decide_false, not_false_eq_true, kont_eq, beq_self_eq_true, bne_self_eq_false, Int.reduceBEq, Int.reduceBNe, Int.cast_ofNat_Int, e2]
      exact ⟨K4, .inl hrf⟩
end Go.Mg

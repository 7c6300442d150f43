/- Chains and antichains: the fewest chains are as many as the greatest antichain. Plain Lean, no program. -/
import Derived.Test.YtihlnbepcimnfaaDoorMgO3
namespace Go.Mg
set_option linter.unusedSimpArgs false
set_option linter.unusedVariables false
/-- r steps of a matching lead from i to e -/
def Stp (L : Nat → Int) : Nat → Nat → Nat → Prop
  | 0, i, e => i = e
  | r + 1, i, e => ∃ m, Stp L r i m ∧ L m = (e : Int)
theorem Stp.cons {L : Nat → Int} {i m : Nat} (h : L i = (m : Int)) : ∀ (r : Nat) {e : Nat}, Stp L r m e → Stp L (r + 1) i e
  | 0, e, k => ⟨i, rfl, by cases k; exact h⟩
  | r + 1, e, ⟨q, k1, k2⟩ => ⟨q, Stp.cons h r k1, k2⟩
section
variable {n N : Nat} {E : Nat → Nat → Prop} {L : Nat → Int} {R : Nat → Nat → Bool}
theorem Stp.tc (hR : Rng n R) (hE : ∀ i < n, ∀ j : Nat, L i = (j : Int) → Tc R i j) {i : Nat} (hi : i < n) : ∀ (r : Nat) {e : Nat}, Stp L r i e → e < n ∧ (r ≠ 0 → Tc R i e)
  | 0, e, h => by cases h; exact ⟨hi, fun h => absurd rfl h⟩
  | r + 1, e, ⟨m, h1, h2⟩ => by
    obtain ⟨k1, k2⟩ := Stp.tc hR hE hi r h1
    have t := hE m k1 e h2
    refine ⟨(hR.tc t).2, fun _ => ?_⟩
    by_cases h0 : r = 0
    · subst h0; cases h1; exact t
    · exact (k2 h0).trans t
theorem Stp.back (hR : Rng n R) (hE : ∀ i < n, ∀ j : Nat, L i = (j : Int) → Tc R i j) (hI : ∀ i < n, ∀ k < n, L i = L k → 0 ≤ L i → i = k) {i j : Nat} (hi : i < n) (hj : j < n) : ∀ (p q : Nat) {e : Nat}, p ≤ q → Stp L p i e → Stp L q j e → Stp L (q - p) j i
  | 0, q, e, _, h, k => by cases h; exact k
  | p + 1, 0, e, hpq, _, _ => by omega
  | p + 1, q + 1, e, hpq, ⟨m, h1, h2⟩, ⟨m', k1, k2⟩ => by
    have : m = m' := hI m (Stp.tc hR hE hi p h1).1 m' (Stp.tc hR hE hj q k1).1 (h2.trans k2.symm) (by omega)
    subst this
    have := Stp.back hR hE hI hi hj p q (by omega) h1 k1
    rwa [Nat.add_sub_add_right]
/-- every element has an end of its chain -/
theorem Stp.fin (hR : Rng n R) (ha : Acy R) (hE : ∀ i < n, ∀ j : Nat, L i = (j : Int) → Tc R i j) : ∀ (m i : Nat), cn n (fun v => tcB R i v) < m → i < n → ∃ r e, Stp L r i e ∧ ¬ 0 ≤ L e
  | 0, i, hm, _ => by omega
  | m + 1, i, hm, hi => by
    by_cases h : 0 ≤ L i
    · obtain ⟨j, hj⟩ := Int.eq_ofNat_of_zero_le h
      have t := hE i hi j hj
      have hjn := (hR.tc t).2
      have h3 : cn n (fun v => tcB R j v) < cn n (fun v => tcB R i v) := by
        rw [cn_del (p := fun v => tcB R i v) (k := j) hjn (tcB_iff.2 t)]
        refine Nat.lt_succ_of_le (cn_mono fun v hv hp => ?_)
        have hp := tcB_iff.1 hp
        have : v ≠ j := fun e => by subst e; exact ha v hp
        simp only [Bool.and_eq_true, tcB_iff, Bool.not_eq_true', decide_eq_false_iff_not]
        exact ⟨t.trans hp, this⟩
      obtain ⟨r, e, h1, h2⟩ := Stp.fin hR ha hE m j (by omega) hjn
      exact ⟨r + 1, e, Stp.cons hj r h1, h2⟩
    · exact ⟨0, i, rfl, h⟩
theorem anti_le (hR : Rng n R) (ha : Acy R) (hM : Mt n N E L) (hE : ∀ i < n, ∀ j, E i j → Tc R i j) {S : Nat → Bool} (hS : ∀ i < n, ∀ j < n, S i = true → S j = true → ¬ Tc R i j) : cn n S + cn n (mt L) ≤ n := by
  have hE' : ∀ i < n, ∀ j : Nat, L i = (j : Int) → Tc R i j := fun i hi j hj => by
    obtain ⟨_, h2⟩ := hM.at hi (by omega)
    rw [hj] at h2
    exact hE i hi j h2
  have hf : ∀ i, ∃ e, i < n → ∃ r, Stp L r i e ∧ ¬ 0 ≤ L e := fun i => by
    by_cases hi : i < n
    · obtain ⟨r, e, h1, h2⟩ := Stp.fin hR ha hE' (cn n (fun v => tcB R i v) + 1) i (by omega) hi
      exact ⟨e, fun _ => ⟨r, h1, h2⟩⟩
    · exact ⟨0, fun h => absurd h hi⟩
  obtain ⟨f, hf⟩ := Classical.axiomOfChoice hf
  have key := cn_inj (n := n) (m := n) (p := S) (q := fun i => !mt L i) f (fun i hi hp => by
    obtain ⟨r, h1, h2⟩ := hf i hi
    refine ⟨(Stp.tc hR hE' hi r h1).1, ?_⟩
    simp [mt, h2]) (fun i hi j hj hp hq e => by
    obtain ⟨r, h1, h2⟩ := hf i hi
    obtain ⟨q, k1, k2⟩ := hf j hj
    rw [← e] at k1
    have fin : ∀ (i j r q : Nat), i < n → j < n → S i = true → S j = true → r ≤ q → Stp L r i (f i) → Stp L q j (f i) → i = j := by
      intro i j r q hi hj hp hq hle h1 k1
      have b := Stp.back hR hE' hM.inj hi hj r q hle h1 k1
      by_cases h0 : q - r = 0
      · rw [h0] at b; exact b.symm
      · exact absurd ((Stp.tc hR hE' hj _ b).2 h0) (hS j hj i hi hq hp)
    rcases Nat.le_total r q with hle | hle
    · exact fin i j r q hi hj hp hq hle h1 k1
    · have h1' := h1
      rw [e] at h1'
      rw [e] at k1
      exact (fin j i q r hj hi hq hp hle k1 h1').symm)
  have := cn_not n (mt L)
  omega
theorem anti_ge (hC : ∃ A B, Cov n N E A B ∧ cn n A + cn N B ≤ cn n (mt L)) (hn : n ≤ N) (hE : ∀ i < n, ∀ j < n, Tc R i j → E i j) : ∃ S : Nat → Bool, (∀ i < n, ∀ j < n, S i = true → S j = true → ¬ Tc R i j) ∧ n ≤ cn n S + cn n (mt L) := by
  obtain ⟨A, B, hC, hc⟩ := hC
  refine ⟨fun i => !A i && !B i, fun i hi j hj h1 h2 t => ?_, ?_⟩
  · simp only [Bool.and_eq_true, Bool.not_eq_true'] at h1 h2
    rcases hC i hi j (by omega) (hE i hi j hj t) with h | h
    · rw [h1.1] at h; cases h
    · rw [h2.2] at h; cases h
  · have h1 := cn_not n (fun i => A i || B i)
    have h2 : cn n (fun i => !(A i || B i)) = cn n fun i => !A i && !B i := cn_congr fun i _ => by simp
    have h3 := cn_or n A B
    have h4 : cn n (fun i => B i && !A i) ≤ cn n B := cn_mono fun i _ h => by simp only [Bool.and_eq_true] at h; exact h.1
    have h5 : ∀ m, cn n B ≤ cn (n + m) B := fun m => by
      induction m with
      | zero => exact Nat.le_refl _
      | succ m ih => rw [show n + (m + 1) = (n + m) + 1 by omega, cn_succ]; omega
    have h6 := h5 (N - n)
    rw [show n + (N - n) = N by omega] at h6
    omega
end
/-! ### the sets, as numbers -/
def maskN (p : Nat → Bool) : Nat → Nat
  | 0 => 0
  | k + 1 => (if p k = true then 2 ^ k else 0) + maskN p k
theorem maskN_lt (p : Nat → Bool) : ∀ k, maskN p k < 2 ^ k
  | 0 => by simp [maskN]
  | k + 1 => by
    have := maskN_lt p k
    have e : 2 ^ (k + 1) = 2 * 2 ^ k := by rw [Nat.pow_succ]; omega
    unfold maskN; split <;> omega
theorem maskN_bit (p : Nat → Bool) : ∀ k a, a < k → (maskN p k).testBit a = p a
  | 0, a, h => by omega
  | k + 1, a, h => by
    unfold maskN
    by_cases e : a = k
    · subst e
      have hb : (maskN p a).testBit a = false := Nat.testBit_lt_two_pow (maskN_lt p a)
      split
      · rename_i hp; rw [Nat.testBit_two_pow_add_eq, hb, hp]; rfl
      · rename_i hp; rw [Nat.zero_add, hb]; simpa using hp
    · have ha : a < k := by omega
      split
      · rw [Nat.testBit_two_pow_add_gt ha, maskN_bit p k a ha]
      · rw [Nat.zero_add, maskN_bit p k a ha]
def cntM (k s : Nat) : Nat := cn k fun a => s.testBit a
/-- the pairs (a, b) ahead of (a0, b0) hold nothing -/
def freeA (k : Nat) (T : Nat → Nat → Bool) (s : Nat) (a : Nat) : Bool := (List.range a).all fun x => !s.testBit x || (List.range k).all fun y => !(s.testBit y && T x y)
def freeM (k : Nat) (T : Nat → Nat → Bool) (s : Nat) : Bool := freeA k T s k
theorem freeM_iff {k : Nat} {T : Nat → Nat → Bool} {s : Nat} : freeM k T s = true ↔ ∀ a < k, ∀ b < k, s.testBit a = true → s.testBit b = true → T a b = false := by
  unfold freeM freeA
  simp only [List.all_eq_true, List.mem_range, Bool.or_eq_true, Bool.not_eq_true', Bool.and_eq_false_imp]
  constructor
  · intro h a ha b hb h1 h2
    rcases h a ha with e | e
    · rw [h1] at e; cases e
    · exact e b hb h2
  · intro h a ha
    cases e : s.testBit a with
    | false => exact .inl rfl
    | true => exact .inr fun b hb h2 => h a ha b hb e h2
def bestF (k : Nat) (T : Nat → Nat → Bool) : Nat → Nat
  | 0 => 0
  | m + 1 => if freeM k T m = true then max (bestF k T m) (cntM k m) else bestF k T m
theorem bestF_le {k : Nat} {T : Nat → Nat → Bool} {c : Nat} (h : ∀ s, freeM k T s = true → cntM k s ≤ c) : ∀ m, bestF k T m ≤ c
  | 0 => Nat.zero_le _
  | m + 1 => by
    have ih := bestF_le h m
    unfold bestF
    split
    · rename_i hf; have := h m hf; omega
    · exact ih
theorem bestF_ge {k : Nat} {T : Nat → Nat → Bool} {s : Nat} (h : freeM k T s = true) : ∀ m, s < m → cntM k s ≤ bestF k T m
  | 0, hs => by omega
  | m + 1, hs => by
    unfold bestF
    by_cases e : s = m
    · subst e; rw [if_pos h]; omega
    · have := bestF_ge h m (by omega)
      split <;> omega
theorem bestF_eq {n N : Nat} {E : Nat → Nat → Prop} {L : Nat → Int} {R : Nat → Nat → Bool} (hR : Rng n R) (ha : Acy R) (hM : Mx n N E L) (hn : n ≤ N) (hE : ∀ i < n, ∀ j, E i j ↔ Tc R i j) : bestF n (tcB R) (2 ^ n) + cn n (mt L) = n := by
  have up : ∀ s, freeM n (tcB R) s = true → cntM n s ≤ n - cn n (mt L) := fun s hs => by
    have := anti_le hR ha hM.1 (fun i hi j h => (hE i hi j).1 h) (S := fun a => s.testBit a) fun i hi j hj h1 h2 t => by
      have := freeM_iff.1 hs i hi j hj h1 h2
      rw [tcB_iff.2 t] at this; cases this
    unfold cntM
    omega
  have h1 := bestF_le up (2 ^ n)
  obtain ⟨S, hS, hc⟩ := anti_ge (R := R) hM.2 hn fun i hi j hj t => (hE i hi j).2 t
  have hf : freeM n (tcB R) (maskN S n) = true := freeM_iff.2 fun a ha' b hb h1 h2 => by
    rw [maskN_bit _ _ _ ha'] at h1
    rw [maskN_bit _ _ _ hb] at h2
    cases e : tcB R a b with
    | false => rfl
    | true => exact absurd (tcB_iff.1 e) (hS a ha' b hb h1 h2)
  have h2 := bestF_ge hf (2 ^ n) (maskN_lt S n)
  have h3 : cntM n (maskN S n) = cn n S := cn_congr fun i hi => maskN_bit _ _ _ hi
  have := cn_le n (mt L)
  omega
end Go.Mg

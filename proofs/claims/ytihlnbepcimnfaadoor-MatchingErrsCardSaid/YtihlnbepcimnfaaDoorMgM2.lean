/- Matchings: one left after the other gets a partner if it can; then the matching is a maximum one. -/
import Derived.Test.YtihlnbepcimnfaaDoorMgM1
namespace Go.Mg
set_option linter.unusedSimpArgs false
set_option linter.unusedVariables false

theorem Mt.sub {n m N : Nat} {E : Nat → Nat → Prop} {L : Nat → Int} (h : Mt n N E L) (hm : m ≤ n) : Mt m N E L :=
  ⟨fun i hi => h.ed i (by omega), fun i hi k hk => h.inj i (by omega) k (by omega)⟩
theorem gb_rep (N j : Nat) (hj : j < N) : gb' (List.replicate N false) j = false := by
  unfold gb'; rw [List.getD_eq_getElem?_getD, List.getElem?_replicate, if_pos hj]; rfl
theorem gb_rep_iff (N j : Nat) : gb' (List.replicate N false) j = decide (¬ j < N) := by
  unfold gb'; rw [List.getD_eq_getElem?_getD, List.getElem?_replicate]
  by_cases h : j < N
  · simp [h]
  · simp [h]
theorem gi_rep (n i : Nat) : gi (List.replicate n (-1)) i = -1 := by
  unfold gi; rw [List.getD_eq_getElem?_getD, List.getElem?_replicate]; split <;> rfl
theorem uns_rep (N : Nat) : uns (List.replicate N false) ≤ N := by
  unfold uns; have := cn_le (List.replicate N false).length (fun j => !gb' (List.replicate N false) j); simpa using this

/-- the state in which the first k lefts have been tried -/
structure MaxS (n N : Nat) (E : Nat → Nat → Prop) (k : Nat) (L R : List Int) : Prop where
  lL : L.length = n
  lR : R.length = N
  inv : Inv n N E (gi L) (gi R)
  out : ∀ i, k ≤ i → i < n → gi L i = -1
  mx : Mx k N E (gi L)
theorem MaxS.start (n N : Nat) (E : Nat → Nat → Prop) : MaxS n N E 0 (List.replicate n (-1)) (List.replicate N (-1)) := by
  refine ⟨by simp, by simp, ⟨fun i _ => .inl (gi_rep _ _), fun j _ => .inl (gi_rep _ _)⟩, fun i _ _ => gi_rep _ _, ⟨fun i hi => absurd hi (by omega), fun i hi => absurd hi (by omega)⟩, fun _ => false, fun _ => false, fun i hi => absurd hi (by omega), ?_⟩
  rw [cn_false, cn_false]; exact Nat.zero_le _
theorem MaxS.yes {n N : Nat} {E : Nat → Nat → Prop} {k : Nat} {L R : List Int} (h : MaxS n N E k L R) (hk : k < n) {s' : Sst} (y : AugY n N E (List.replicate N false) k ⟨L, R, List.replicate N false⟩ s') : MaxS n N E (k + 1) s'.L s'.R := by
  have hLk : gi L k = -1 := h.out k (Nat.le_refl _) hk
  have hI : Inv n N E (gi s'.L) (gi s'.R) := ⟨y.l, fun j hj => y.r j hj (by simp only [hLk]; omega)⟩
  refine ⟨y.len.L, y.len.R, hI, fun i hi1 hi2 => ?_, hI.mt.sub (by omega), ?_⟩
  · have := y.sm i hi2 (by omega)
    simp only [h.out i (by omega) hi2] at this
    rcases y.l i hi2 with e | ⟨j, _, e, _⟩
    · exact e
    · omega
  · obtain ⟨hM, A, B, hC, hc⟩ := h.mx
    refine ⟨fun i => A i || decide (i = k), B, fun i hi j hj he => ?_, ?_⟩
    · by_cases e : i = k
      · left; simp [e]
      · rcases hC i (by omega) j hj he with a | b
        · left; simp [a]
        · exact .inr b
    · have e1 : cn (k + 1) (mt (gi s'.L)) = cn k (mt (gi L)) + 1 := by
        rw [cn_succ]
        obtain ⟨j, _, e, _⟩ := y.at_
        rw [if_pos (by simp only [mt, decide_eq_true_eq]; omega)]
        congr 1
        refine cn_congr fun i hi => ?_
        have := y.sm i (by omega) (by omega)
        simp only [mt]
        exact decide_eq_decide.2 this
      have e2 : cn (k + 1) (fun i => A i || decide (i = k)) ≤ cn k A + 1 := by
        rw [cn_succ]
        have : cn k (fun i => A i || decide (i = k)) = cn k A := cn_congr fun i hi => by
          have : i ≠ k := by omega
          simp [this]
        rw [this]; split <;> omega
      omega
theorem MaxS.no {n N : Nat} {E : Nat → Nat → Prop} {k : Nat} {L R : List Int} (h : MaxS n N E k L R) (hk : k < n) {s' : Sst} (y : AugN n N E (List.replicate N false) ⟨L, R, List.replicate N false⟩ s') (hcl : ∀ j < N, E k j → gb' s'.Se j = true) : MaxS n N E (k + 1) L R := by
  have hLk : gi L k = -1 := h.out k (Nat.le_refl _) hk
  refine ⟨h.lL, h.lR, h.inv, fun i h1 h2 => h.out i (by omega) h2, h.inv.mt.sub (by omega), ?_⟩
  obtain ⟨hM, A, B, hC, hc⟩ := h.mx
  have nw : ∀ j < N, gb' s'.Se j = true → ∃ a < k, gi R j = (a : Int) ∧ gi L a = (j : Int) ∧ ∀ j' < N, E a j' → gb' s'.Se j' = true := by
    intro j hj hs
    obtain ⟨_, a, ha, h1, h2⟩ := y.nw j hj hs (gb_rep N j hj)
    have h3 : gi L a = (j : Int) := by
      rcases h.inv.r j hj with e | ⟨b, hb, e, e'⟩
      · simp only at h1; omega
      · simp only at h1
        have : a = b := by omega
        subst this; exact e'
    have hak : a < k := by
      apply Decidable.byContradiction
      intro hn
      have := h.out a (by omega) ha
      omega
    refine ⟨a, hak, h1, h3, fun j' hj' he => ?_⟩
    rcases h2 j' hj' he with e | e
    · exact e
    · rw [gb_rep N j' hj'] at e; cases e
  -- the partners of what was seen
  let K : Nat → Bool := fun a => decide (0 ≤ gi L a) && gb' s'.Se (gi L a).toNat
  have hK : ∀ a < k, K a = true → (gi L a).toNat < N ∧ gi L a = ((gi L a).toNat : Int) ∧ ∀ j' < N, E a j' → gb' s'.Se j' = true := by
    intro a ha hka
    simp only [K, Bool.and_eq_true, decide_eq_true_eq] at hka
    obtain ⟨h0, h1⟩ := hka
    obtain ⟨h2, _⟩ := hM.at ha h0
    refine ⟨h2, by omega, ?_⟩
    obtain ⟨b, hb, e1, e2, e3⟩ := nw _ h2 h1
    have : a = b := h.inv.mt.inj a (by omega) b (by omega) (by rw [e2]; omega) h0
    subst this; exact e3
  refine ⟨fun i => decide (i < k) && (A i && !K i), fun j => B j || (decide (j < N) && gb' s'.Se j), fun i hi j hj he => ?_, ?_⟩
  · by_cases e : i = k
    · subst e; right; simp [hcl j hj he, hj]
    · have hik : i < k := by omega
      by_cases hKi : K i = true
      · right; simp [(hK i hik hKi).2.2 j hj he, hj]
      · rcases hC i hik j hj he with a | b
        · left; simp [a, hik]; simpa using hKi
        · right; simp [b]
  · have e1 : cn (k + 1) (mt (gi L)) = cn k (mt (gi L)) := by
      rw [cn_succ, if_neg (by simp [mt, hLk])]; rfl
    have e2 : cn (k + 1) (fun i => decide (i < k) && (A i && !K i)) = cn k fun i => A i && !K i := by
      rw [cn_succ, if_neg (by simp)]
      exact cn_congr fun i hi => by simp [hi]
    have e3 := cn_split k A K
    have e4 : cn N (fun j => B j || (decide (j < N) && gb' s'.Se j)) = cn N B + cn N (fun j => (decide (j < N) && gb' s'.Se j) && !B j) := cn_or _ _ _
    have e5 : cn N (fun j => (decide (j < N) && gb' s'.Se j) && !B j) ≤ cn k fun i => A i && K i := by
      refine cn_inj (fun j => (gi R j).toNat) (fun j hj hp => ?_) (fun j hj j' hj' hp hp' e => ?_)
      · simp only [Bool.and_eq_true, decide_eq_true_eq, Bool.not_eq_true'] at hp
        obtain ⟨⟨_, hs⟩, hb⟩ := hp
        obtain ⟨a, ha, r1, r2, r3⟩ := nw j hj hs
        rw [r1, Int.toNat_natCast]
        refine ⟨ha, ?_⟩
        have hE : E a j := by
          have := (hM.at ha (by omega)).2
          rw [r2] at this; exact this
        have hA : A a = true := by
          rcases hC a ha j hj hE with x | x
          · exact x
          · rw [hb] at x; cases x
        simp only [Bool.and_eq_true, hA, true_and, K, r2, Int.toNat_natCast, hs, and_true, decide_eq_true_eq]
        omega
      · simp only [Bool.and_eq_true, decide_eq_true_eq, Bool.not_eq_true'] at hp hp'
        obtain ⟨a, ha, r1, r2, _⟩ := nw j hj hp.1.2
        obtain ⟨a', ha', r1', r2', _⟩ := nw j' hj' hp'.1.2
        simp only [r1, r1', Int.toNat_natCast] at e
        subst e
        omega
    omega
/-- all lefts tried -/
def maxF (g : List (List Nat)) (N : Nat) : Nat → List Int → List Int → List Int × List Int
  | 0, L, R => (L, R)
  | k + 1, L, R => ((augF g (List.replicate N false) (N + 1) ⟨(maxF g N k L R).1, (maxF g N k L R).2, List.replicate N false⟩ k).2.L, (augF g (List.replicate N false) (N + 1) ⟨(maxF g N k L R).1, (maxF g N k L R).2, List.replicate N false⟩ k).2.R)
theorem MaxS.step {n N : Nat} {g : List (List Nat)} (hg : ∀ i, ∀ j ∈ g.getD i [], j < N) {k : Nat} {L R : List Int} (h : MaxS n N (Eg g) k L R) (hk : k < n) (m : Nat) (hm : N < m) :
    MaxS n N (Eg g) (k + 1) (augF g (List.replicate N false) m ⟨L, R, List.replicate N false⟩ k).2.L (augF g (List.replicate N false) m ⟨L, R, List.replicate N false⟩ k).2.R := by
  have hu := uns_rep N
  obtain ⟨a, b⟩ := augF_ok (n := n) (F := List.replicate N false) hg m ⟨L, R, List.replicate N false⟩ k (by simp only; omega) ⟨h.lL, h.lR, by simp⟩ h.inv hk (.inl (h.out k (Nat.le_refl _) hk))
  cases e : (augF g (List.replicate N false) m ⟨L, R, List.replicate N false⟩ k).1 with
  | true => exact h.yes hk (a e)
  | false =>
    obtain ⟨c, d⟩ := b e
    rw [c.L, c.R]
    refine h.no hk c fun j hj he => ?_
    rcases d j hj he with x | x
    · exact x
    · rw [gb_rep N j hj] at x; cases x
theorem maxF_ok {n N : Nat} {g : List (List Nat)} (hg : ∀ i, ∀ j ∈ g.getD i [], j < N) : ∀ k, k ≤ n → MaxS n N (Eg g) k (maxF g N k (List.replicate n (-1)) (List.replicate N (-1))).1 (maxF g N k (List.replicate n (-1)) (List.replicate N (-1))).2
  | 0, _ => MaxS.start n N _
  | k + 1, hk => MaxS.step hg (maxF_ok hg k (by omega)) (by omega) (N + 1) (by omega)
end Go.Mg

/- Matchings: what the search for loose lefts keeps, and the least matching. -/
import Derived.Test.YtihlnbepcimnfaaDoorMgM2
namespace Go.Mg
set_option linter.unusedSimpArgs false
set_option linter.unusedVariables false

section
variable {n N : Nat} {g : List (List Nat)} {L R : Nat → Int} {O : List Bool}
/-- D are done, Q wait: newest first -/
structure LooI (n N : Nat) (E : Nat → Nat → Prop) (L : Nat → Int) (O : List Bool) (D Q : List Nat) : Prop where
  len : O.length = n
  is : ∀ i < n, O.getD i true = decide (i ∈ Q.reverse ++ D)
  gr : Grown n N E L (Q.reverse ++ D)
  cl : ∀ i ∈ D, ∀ j < N, E i j → ∀ k < n, L k = (j : Int) → k ∈ Q.reverse ++ D
theorem LooI.done {E : Nat → Nat → Prop} {D : List Nat} (h : LooI n N E L O D []) (un : ∀ i < n, L i = -1 → i ∈ D) : Loose n N E L D ∧ ∀ i < n, O.getD i true = decide (i ∈ D) :=
  ⟨⟨h.gr, un, h.cl⟩, h.is⟩
theorem rev_app (Q : List Nat) (k : Nat) (D : List Nat) : (Q ++ [k]).reverse ++ D = k :: (Q.reverse ++ D) := by simp
theorem rev_pop (i : Nat) (Q D : List Nat) : (i :: Q).reverse ++ D = Q.reverse ++ (i :: D) := by simp
/-- one is marked -/
theorem LooI.mark {E : Nat → Nat → Prop} {D Q : List Nat} {k : Nat} (h : LooI n N E L O D Q) (hk : k < n) (hO : O.getD k true = false) (hr : L k = -1 ∨ ∃ i ∈ Q.reverse ++ D, ∃ j < N, E i j ∧ L k = (j : Int)) : LooI n N E L (O.set k true) D (Q ++ [k]) := by
  have hn : k ∉ Q.reverse ++ D := by
    have := h.is k hk
    rw [hO] at this
    simpa using this.symm
  refine ⟨by simp [h.len], fun i hi => ?_, ?_, fun i hi j hj he a ha e => ?_⟩
  · rw [rev_app, List.getD_eq_getElem?_getD, List.getElem?_set]
    by_cases e : k = i
    · subst e; simp [h.len, hi]
    · rw [if_neg e, ← List.getD_eq_getElem?_getD, h.is i hi]
      have : i ≠ k := fun h => e h.symm
      simp [this]
  · rw [rev_app]; exact ⟨h.gr, hk, hn, hr⟩
  · rw [rev_app]; exact List.mem_cons_of_mem _ (h.cl i hi j hj he a ha e)
/-- one is done -/
theorem LooI.pop {E : Nat → Nat → Prop} {D Q Q' : List Nat} {i : Nat} (h : LooI n N E L O D (i :: Q')) (hc : ∀ j < N, E i j → ∀ k < n, L k = (j : Int) → k ∈ (i :: Q').reverse ++ D) : LooI n N E L O (i :: D) Q' := by
  have e := rev_pop i Q' D
  refine ⟨h.len, by rw [← e]; exact h.is, by rw [← e]; exact h.gr, fun a ha j hj he k hk hL => ?_⟩
  rw [← e]
  rcases List.mem_cons.1 ha with rfl | ha
  · exact hc j hj he k hk hL
  · exact h.cl a ha j hj he k hk hL
end

/-! ### the least matching of all lefts -/
section
variable {n N : Nat} {E : Nat → Nat → Prop} {L : Nat → Int}
/-- a matching of all lefts -/
structure Pf (n N : Nat) (E : Nat → Nat → Prop) (L : Nat → Int) : Prop where
  m : Mt n N E L
  all : ∀ i < n, 0 ≤ L i
/-- up to m there is no lesser one -/
def LeastTo (n N : Nat) (E : Nat → Nat → Prop) (L : Nat → Int) (m : Nat) : Prop := ∀ a < m, ∀ L', Pf n N E L' → (∀ b < a, L' b = L b) → L a ≤ L' a
theorem LeastTo.uniq {L' : Nat → Int} (h : LeastTo n N E L n) (h' : LeastTo n N E L' n) (p : Pf n N E L) (p' : Pf n N E L') : ∀ i < n, L i = L' i := by
  intro i
  induction i using Nat.strongRecOn with
  | ind i ih =>
    intro hi
    have a := h i hi L' p' fun b hb => (ih b hb (by omega)).symm
    have b := h' i hi L p fun b hb => ih b hb (by omega)
    omega
theorem LeastTo.congr {L' : Nat → Int} {m : Nat} (h : LeastTo n N E L m) (e : ∀ i < m, L' i = L i) : LeastTo n N E L' m := by
  intro a ha L2 p h2
  rw [e a ha]
  exact h a ha L2 p fun b hb => by rw [h2 b hb, e b (by omega)]
/-- nothing is found for k, whose right j i has taken: no matching of all lefts has what is fixed, and j for i -/
theorem move_no {i k j : Nat} {L0 : Nat → Int} {F : List Bool} {s s' : Sst} (hi : i < n) (hk : k < n) (hik : i < k) (hj : j < N)
    (hL0 : Pf n N E L0) (hkj : L0 k = (j : Int))
    (sL : ∀ a < n, gi s.L a = if a = i then (j : Int) else if a = k then -1 else L0 a)
    (sR : ∀ b < N, gi s.R b = -1 ∨ ∃ a < n, gi s.R b = (a : Int) ∧ gi s.L a = (b : Int))
    (sS : ∀ b < N, gb' s.Se b = decide (b = j))
    (hF : ∀ b < N, gb' F b = true ↔ ∃ a < i, L0 a = (b : Int))
    (y : AugN n N E F s s') (hcl : ∀ b < N, E k b → gb' s'.Se b = true ∨ gb' F b = true) :
    ∀ L', Pf n N E L' → (∀ b < i, L' b = L0 b) → L' i ≠ (j : Int) := by
  intro L' p' hb hLi
  have hFj : gb' F j ≠ true := fun h => by
    obtain ⟨a, ha, e⟩ := (hF j hj).1 h
    have := hL0.m.inj a (by omega) k hk (by omega) (by omega)
    omega
  have hsj : gb' s'.Se j = true := y.mono j (by rw [sS j hj]; simp)
  have hFs : ∀ b < N, gb' s'.Se b = true → gb' F b ≠ true := by
    intro b hb h1 h2
    by_cases e : b = j
    · subst e; exact hFj h2
    · have := (y.nw b hb h1 (by rw [sS b hb]; simp [e])).1
      rw [this] at h2; cases h2
  -- who has what was seen
  have own : ∀ b < N, gb' s'.Se b = true → b ≠ j → ∃ a < n, i < a ∧ a ≠ k ∧ L0 a = (b : Int) ∧ ∀ b' < N, E a b' → gb' s'.Se b' = true ∨ gb' F b' = true := by
    intro b hb h1 h2
    obtain ⟨h3, a, ha, h4, h5⟩ := y.nw b hb h1 (by rw [sS b hb]; simp [h2])
    have h6 : gi s.L a = (b : Int) := by
      rcases sR b hb with e | ⟨c, _, e, e'⟩
      · omega
      · have : a = c := by omega
        subst this; exact e'
    rw [sL a ha] at h6
    by_cases e1 : a = i
    · rw [if_pos e1] at h6; omega
    · rw [if_neg e1] at h6
      by_cases e2 : a = k
      · rw [if_pos e2] at h6; omega
      · rw [if_neg e2] at h6
        refine ⟨a, ha, ?_, e2, h6, h5⟩
        apply Decidable.byContradiction
        intro hn
        have := (hF b hb).2 ⟨a, by omega, h6⟩
        rw [h3] at this; cases this
  -- the lefts reached
  let Z : Nat → Bool := fun a => decide (a = k) || (decide (i < a) && decide (0 ≤ L0 a) && gb' s'.Se (L0 a).toNat && decide ((L0 a).toNat ≠ j))
  have hZ : ∀ a < n, Z a = true → i < a ∧ ∀ b' < N, E a b' → gb' s'.Se b' = true ∨ gb' F b' = true := by
    intro a ha hz
    simp only [Z, Bool.or_eq_true, Bool.and_eq_true, decide_eq_true_eq] at hz
    rcases hz with rfl | ⟨⟨⟨h1, h2⟩, h3⟩, h4⟩
    · exact ⟨hik, hcl⟩
    · refine ⟨h1, ?_⟩
      obtain ⟨h5, _⟩ := hL0.m.at ha h2
      obtain ⟨c, hc, _, _, h6, h7⟩ := own _ h5 h3 h4
      have : a = c := hL0.m.inj a ha c hc (by rw [h6]; omega) h2
      subst this; exact h7
  have c1 : cn N (fun b => gb' s'.Se b) ≤ cn n Z := by
    refine cn_inj (fun b => if b = j then k else (gi s.R b).toNat) (fun b hb hs => ?_) (fun b hb b' hb' h1 h2 e => ?_)
    · by_cases e : b = j
      · rw [if_pos e]; exact ⟨hk, by simp [Z]⟩
      · rw [if_neg e]
        obtain ⟨a, ha, h1, h2, h3, _⟩ := own b hb hs e
        have h4 : gi s.R b = (a : Int) := by
          obtain ⟨_, c, hc, h5, _⟩ := y.nw b hb hs (by rw [sS b hb]; simp [e])
          rcases sR b hb with e' | ⟨d, hd, e1, e2⟩
          · omega
          · rw [sL d hd] at e2
            by_cases x1 : d = i
            · rw [if_pos x1] at e2; omega
            · rw [if_neg x1] at e2
              by_cases x2 : d = k
              · rw [if_pos x2] at e2; omega
              · rw [if_neg x2] at e2
                have : d = a := hL0.m.inj d hd a ha (by omega) (by omega)
                omega
        rw [h4, Int.toNat_natCast]
        refine ⟨ha, ?_⟩
        simp only [Z, Bool.or_eq_true, Bool.and_eq_true, decide_eq_true_eq, h3, Int.toNat_natCast]
        exact .inr ⟨⟨⟨h1, by omega⟩, hs⟩, e⟩
    · have val : ∀ b < N, gb' s'.Se b = true → b ≠ j → ∃ a < n, a ≠ k ∧ L0 a = (b : Int) ∧ (gi s.R b).toNat = a := by
        intro b hb hs e
        obtain ⟨a, ha, h1, h2, h3, _⟩ := own b hb hs e
        obtain ⟨_, c, hc, h5, _⟩ := y.nw b hb hs (by rw [sS b hb]; simp [e])
        refine ⟨a, ha, h2, h3, ?_⟩
        rcases sR b hb with e' | ⟨d, hd, e1, e2⟩
        · omega
        · rw [sL d hd] at e2
          by_cases x1 : d = i
          · rw [if_pos x1] at e2; omega
          · rw [if_neg x1] at e2
            by_cases x2 : d = k
            · rw [if_pos x2] at e2; omega
            · rw [if_neg x2] at e2
              have : d = a := hL0.m.inj d hd a ha (by omega) (by omega)
              omega
      by_cases e1 : b = j
      · by_cases e2 : b' = j
        · omega
        · rw [if_pos e1, if_neg e2] at e
          obtain ⟨a, ha, h3, h4, h5⟩ := val b' hb' h2 e2
          omega
      · by_cases e2 : b' = j
        · rw [if_neg e1, if_pos e2] at e
          obtain ⟨a, ha, h3, h4, h5⟩ := val b hb h1 e1
          omega
        · rw [if_neg e1, if_neg e2] at e
          obtain ⟨a, ha, h3, h4, h5⟩ := val b hb h1 e1
          obtain ⟨a', ha', h3', h4', h5'⟩ := val b' hb' h2 e2
          have : a = a' := by omega
          subst this; omega
  have c2 : cn n Z ≤ cn N fun b => gb' s'.Se b && !decide (b = j) := by
    refine cn_inj (fun a => (L' a).toNat) (fun a ha hz => ?_) (fun a ha b hb h1 h2 e => ?_)
    · obtain ⟨h1, h2⟩ := hZ a ha hz
      have h0 := p'.all a ha
      obtain ⟨h3, h4⟩ := p'.m.at ha h0
      refine ⟨h3, ?_⟩
      have hnF : gb' F (L' a).toNat ≠ true := fun h => by
        obtain ⟨c, hc, e⟩ := (hF _ h3).1 h
        have := p'.m.inj a ha c (by omega) (by rw [hb c hc, e]; omega) h0
        omega
      have hnj : (L' a).toNat ≠ j := fun h => by
        have := p'.m.inj a ha i hi (by rw [hLi]; omega) h0
        omega
      simp only [Bool.and_eq_true, Bool.not_eq_true', decide_eq_false_iff_not]
      refine ⟨?_, hnj⟩
      rcases h2 _ h3 h4 with x | x
      · exact x
      · exact absurd x hnF
    · have h0 := p'.all a ha
      have h0' := p'.all b hb
      exact p'.m.inj a ha b hb (by omega) h0
  have c3 := cn_del (n := N) (k := j) (p := fun b => gb' s'.Se b) hj hsj
  omega
end
end Go.Mg

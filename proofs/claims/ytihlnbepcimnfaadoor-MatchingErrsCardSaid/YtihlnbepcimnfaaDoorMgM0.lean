/- Matchings and vertex covers: counting, weak duality, and what follows where both are as great. Plain Lean, no program in sight. -/
import Derived.Test.YtihlnbepcimnfaaDoorMgCore
namespace Go.Mg
set_option linter.unusedSimpArgs false
set_option linter.unusedVariables false

/-! ### counting -/
def cn : Nat → (Nat → Bool) → Nat
  | 0, _ => 0
  | n + 1, p => cn n p + (if p n = true then 1 else 0)
theorem cn_succ (n : Nat) (p : Nat → Bool) : cn (n + 1) p = cn n p + (if p n = true then 1 else 0) := rfl
theorem cn_mono {n : Nat} {p q : Nat → Bool} (h : ∀ i < n, p i = true → q i = true) : cn n p ≤ cn n q := by
  induction n with
  | zero => exact Nat.le_refl _
  | succ n ih =>
    have := ih fun i hi => h i (by omega)
    have hn := h n (by omega)
    rw [cn_succ, cn_succ]
    split
    · rw [if_pos (hn ‹_›)]; omega
    · omega
theorem cn_congr {n : Nat} {p q : Nat → Bool} (h : ∀ i < n, p i = q i) : cn n p = cn n q :=
  Nat.le_antisymm (cn_mono fun i hi e => h i hi ▸ e) (cn_mono fun i hi e => (h i hi).symm ▸ e)
theorem cn_split (n : Nat) (p q : Nat → Bool) : cn n p = cn n (fun i => p i && q i) + cn n (fun i => p i && !q i) := by
  induction n with
  | zero => rfl
  | succ n ih =>
    rw [cn_succ, cn_succ, cn_succ, ih]
    cases hp : p n <;> cases hq : q n <;> simp only [hp, hq, Bool.and_self, Bool.not_true, Bool.not_false, Bool.and_true, Bool.and_false, Bool.true_and, Bool.false_and, Bool.or_self, Bool.or_true, Bool.true_or, Bool.or_false, Bool.false_or, if_true, if_false, Bool.false_eq_true] <;> omega
theorem cn_not (n : Nat) (p : Nat → Bool) : cn n p + cn n (fun i => !p i) = n := by
  induction n with
  | zero => rfl
  | succ n ih =>
    rw [cn_succ, cn_succ]
    cases hp : p n <;> simp only [Bool.not_true, Bool.not_false, if_true, if_false, Bool.false_eq_true] <;> omega
theorem cn_le (n : Nat) (p : Nat → Bool) : cn n p ≤ n := by have := cn_not n p; omega
theorem cn_false (n : Nat) : cn n (fun _ => false) = 0 := by
  induction n with
  | zero => rfl
  | succ n ih => rw [cn_succ]; simp [ih]
theorem cn_or (n : Nat) (p q : Nat → Bool) : cn n (fun i => p i || q i) = cn n p + cn n (fun i => q i && !p i) := by
  induction n with
  | zero => rfl
  | succ n ih =>
    rw [cn_succ, cn_succ, cn_succ, ih]
    cases hp : p n <;> cases hq : q n <;> simp only [hp, hq, Bool.and_self, Bool.not_true, Bool.not_false, Bool.and_true, Bool.and_false, Bool.true_and, Bool.false_and, Bool.or_self, Bool.or_true, Bool.true_or, Bool.or_false, Bool.false_or, if_true, if_false, Bool.false_eq_true] <;> omega
theorem cn_one (n k : Nat) (hk : k < n) : cn n (fun i => decide (i = k)) = 1 := by
  induction n with
  | zero => omega
  | succ n ih =>
    rw [cn_succ]
    by_cases h : n = k
    · subst h
      rw [show cn n (fun i => decide (i = n)) = 0 from by
        rw [cn_congr (q := fun _ => false) fun i hi => by simp; omega, cn_false]]
      simp
    · rw [ih (by omega)]; simp [h]
theorem cn_del {n k : Nat} {p : Nat → Bool} (hk : k < n) (hp : p k = true) : cn n p = cn n (fun i => p i && !decide (i = k)) + 1 := by
  rw [cn_split n p fun i => decide (i = k)]
  rw [cn_congr (p := fun i => p i && decide (i = k)) (q := fun i => decide (i = k)) fun i hi => by
    by_cases h : i = k
    · subst h; simp [hp]
    · simp [h], cn_one n k hk]
  omega
theorem cn_add {n k : Nat} {p q : Nat → Bool} (hk : k < n) (hp : p k = false) (hq : ∀ i < n, q i = (p i || decide (i = k))) : cn n q = cn n p + 1 := by
  rw [cn_congr hq, cn_or]
  rw [cn_congr (p := fun i => decide (i = k) && !p i) (q := fun i => decide (i = k)) fun i hi => by
    by_cases h : i = k
    · subst h; simp [hp]
    · simp [h], cn_one n k hk]
/-- what is carried into a set without meeting is no more than the set -/
theorem cn_inj {n m : Nat} {p q : Nat → Bool} (f : Nat → Nat) (hf : ∀ i < n, p i = true → f i < m ∧ q (f i) = true) (hi : ∀ i < n, ∀ k < n, p i = true → p k = true → f i = f k → i = k) : cn n p ≤ cn m q := by
  induction n generalizing q with
  | zero => exact Nat.zero_le _
  | succ n ih =>
    rw [cn_succ]
    split
    · rename_i h
      obtain ⟨h1, h2⟩ := hf n (by omega) h
      rw [cn_del h1 h2]
      have := ih (q := fun j => q j && !decide (j = f n)) (fun i hin hp => by
        obtain ⟨a, b⟩ := hf i (by omega) hp
        refine ⟨a, ?_⟩
        have : f i ≠ f n := fun e => by have := hi i (by omega) n (by omega) hp h e; omega
        simp [b, this]) (fun i hi1 k hk => hi i (by omega) k (by omega))
      omega
    · have := ih (q := q) (fun i hi1 => hf i (by omega)) (fun i hi1 k hk => hi i (by omega) k (by omega))
      omega
/-- if it is as many, every one is met -/
theorem cn_onto {n m : Nat} {p q : Nat → Bool} (f : Nat → Nat) (hf : ∀ i < n, p i = true → f i < m ∧ q (f i) = true) (hi : ∀ i < n, ∀ k < n, p i = true → p k = true → f i = f k → i = k) (hc : cn m q ≤ cn n p) :
    ∀ j < m, q j = true → ∃ i < n, p i = true ∧ f i = j := by
  intro j hj hq
  apply Classical.byContradiction
  intro hno
  have := cn_inj (n := n) (m := m) (p := p) (q := fun k => q k && !decide (k = j)) f (fun i hin hp => by
    obtain ⟨a, b⟩ := hf i hin hp
    refine ⟨a, ?_⟩
    have : f i ≠ j := fun e => hno ⟨i, hin, hp, e⟩
    simp [b, this]) hi
  rw [cn_del hj hq] at hc
  omega
theorem cn_all {n : Nat} {p q : Nat → Bool} (h : ∀ i < n, p i = true → q i = true) (hc : cn n q ≤ cn n p) : ∀ i < n, q i = true → p i = true := by
  intro i hi hq
  obtain ⟨k, _, hp, e⟩ := cn_onto id (fun i hi hp => ⟨hi, h i hi hp⟩) (fun i _ k _ _ _ e => e) hc i hi hq
  cases e
  exact hp
theorem cn_pos {n : Nat} {p : Nat → Bool} (h : 0 < cn n p) : ∃ i < n, p i = true := by
  induction n with
  | zero => cases h
  | succ n ih =>
    by_cases hp : p n = true
    · exact ⟨n, by omega, hp⟩
    · rw [cn_succ, if_neg hp] at h
      obtain ⟨i, hi, hq⟩ := ih h
      exact ⟨i, by omega, hq⟩

/-! ### matchings and covers -/
section
variable {n N : Nat} {E : Nat → Nat → Prop} {L : Nat → Int} {A B : Nat → Bool}
structure Mt (n N : Nat) (E : Nat → Nat → Prop) (L : Nat → Int) : Prop where
  ed : ∀ i < n, L i = -1 ∨ ∃ j < N, L i = (j : Int) ∧ E i j
  inj : ∀ i < n, ∀ k < n, L i = L k → 0 ≤ L i → i = k
def mt (L : Nat → Int) (i : Nat) : Bool := decide (0 ≤ L i)
def Cov (n N : Nat) (E : Nat → Nat → Prop) (A B : Nat → Bool) : Prop := ∀ i < n, ∀ j < N, E i j → A i = true ∨ B j = true
theorem Mt.at (h : Mt n N E L) {i : Nat} (hi : i < n) (hp : 0 ≤ L i) : (L i).toNat < N ∧ E i (L i).toNat := by
  rcases h.ed i hi with e | ⟨j, hj, e, he⟩
  · omega
  · rw [e]; exact ⟨hj, he⟩
theorem Mt.part (hM : Mt n N E L) (hC : Cov n N E A B) : cn n (fun i => mt L i && !A i) ≤ cn N B := by
  refine cn_inj (fun i => (L i).toNat) (fun i hi h => ?_) (fun i hi k hk h1 h2 e => ?_)
  · simp only [mt, Bool.and_eq_true, decide_eq_true_eq, Bool.not_eq_true'] at h
    obtain ⟨h1, h2⟩ := hM.at hi h.1
    refine ⟨h1, ?_⟩
    rcases hC i hi _ h1 h2 with a | b
    · rw [h.2] at a; cases a
    · exact b
  · simp only [mt, Bool.and_eq_true, decide_eq_true_eq] at h1 h2
    exact hM.inj i hi k hk (by omega) h1.1
/-- no matching is greater than a cover -/
theorem weak (hM : Mt n N E L) (hC : Cov n N E A B) : cn n (mt L) ≤ cn n A + cn N B := by
  rw [cn_split n (mt L) A]
  have h1 : cn n (fun i => mt L i && A i) ≤ cn n A := cn_mono fun i _ h => by simp at h; exact h.2
  have h2 := hM.part hC
  omega
theorem tight_left (hM : Mt n N E L) (hC : Cov n N E A B) (h : cn n A + cn N B ≤ cn n (mt L)) : ∀ i < n, A i = true → 0 ≤ L i := by
  have h2 := hM.part hC
  have h1 : cn n (fun i => mt L i && A i) ≤ cn n A := cn_mono fun i _ h => by simp at h; exact h.2
  rw [cn_split n (mt L) A] at h
  intro i hi ha
  have := cn_all (p := fun i => mt L i && A i) (q := A) (fun i _ h => by simp at h; exact h.2) (by omega) i hi ha
  simp [mt] at this
  exact this.1
theorem tight_right (hM : Mt n N E L) (hC : Cov n N E A B) (h : cn n A + cn N B ≤ cn n (mt L)) : ∀ j < N, B j = true → ∃ i < n, A i = false ∧ L i = (j : Int) := by
  have h2 := hM.part hC
  have h1 : cn n (fun i => mt L i && A i) ≤ cn n A := cn_mono fun i _ h => by simp at h; exact h.2
  rw [cn_split n (mt L) A] at h
  intro j hj hb
  obtain ⟨i, hi, hp, e⟩ := cn_onto (n := n) (m := N) (p := fun i => mt L i && !A i) (q := B) (fun i => (L i).toNat) (fun i hi h => by
    simp only [mt, Bool.and_eq_true, decide_eq_true_eq, Bool.not_eq_true'] at h
    obtain ⟨h1, h2⟩ := hM.at hi h.1
    refine ⟨h1, ?_⟩
    rcases hC i hi _ h1 h2 with a | b
    · rw [h.2] at a; cases a
    · exact b) (fun i hi k hk h1 h2 e => by
    simp only [mt, Bool.and_eq_true, decide_eq_true_eq] at h1 h2
    exact hM.inj i hi k hk (by omega) h1.1) (by omega) j hj hb
  simp only [mt, Bool.and_eq_true, decide_eq_true_eq, Bool.not_eq_true'] at hp
  exact ⟨i, hi, hp.2, by omega⟩
/-- a matching of as many as another one has that is maximum -/
def Mx (n N : Nat) (E : Nat → Nat → Prop) (L : Nat → Int) : Prop := Mt n N E L ∧ ∃ A B, Cov n N E A B ∧ cn n A + cn N B ≤ cn n (mt L)
theorem Mx.max (h : Mx n N E L) {L' : Nat → Int} (h' : Mt n N E L') : cn n (mt L') ≤ cn n (mt L) := by
  obtain ⟨_, A, B, hC, hc⟩ := h
  exact Nat.le_trans (weak h' hC) hc
theorem Mx.of_ge (h : Mx n N E L) {L' : Nat → Int} (h' : Mt n N E L') (hc : cn n (mt L) ≤ cn n (mt L')) : Mx n N E L' := by
  obtain ⟨_, A, B, hC, hcc⟩ := h
  exact ⟨h', A, B, hC, by omega⟩

/-! ### what alternating paths reach -/
/-- L with i for j's partner k -/
def flip (L : Nat → Int) (i k : Nat) : Nat → Int := fun l => if l = i then L k else if l = k then -1 else L l
/-- the lefts of a list, each reached from those before it: unmatched, or the partner of a neighbour of one before -/
def Grown (n N : Nat) (E : Nat → Nat → Prop) (L : Nat → Int) : List Nat → Prop
  | [] => True
  | k :: l => Grown n N E L l ∧ k < n ∧ k ∉ l ∧ (L k = -1 ∨ ∃ i ∈ l, ∃ j < N, E i j ∧ L k = (j : Int))
theorem Grown.lt {l : List Nat} (h : Grown n N E L l) : ∀ i ∈ l, i < n := by
  induction l with
  | nil => intro i hi; cases hi
  | cons k l ih =>
    intro i hi
    rcases List.mem_cons.1 hi with rfl | hi
    · exact h.2.1
    · exact ih h.1 i hi
theorem Grown.free {l : List Nat} (hg : Grown n N E L l) (hM : Mt n N E L) : ∀ i ∈ l, ∃ L', Mt n N E L' ∧ cn n (mt L') = cn n (mt L) ∧ L' i = -1 ∧ (∀ k < n, k ∉ l → L' k = L k) ∧ ∀ k < n, 0 ≤ L' k → ∃ k' < n, L k' = L' k := by
  induction l with
  | nil => intro i hi; cases hi
  | cons k l ih =>
    obtain ⟨hg1, hk, hkl, hr⟩ := hg
    intro i hi
    rcases List.mem_cons.1 hi with rfl | hi
    · rcases hr with h | ⟨p, hp, j, hj, he, hL⟩
      · exact ⟨L, hM, rfl, h, fun _ _ _ => rfl, fun k hk _ => ⟨k, hk, rfl⟩⟩
      · obtain ⟨L', hM', hc, hf, hsame, him⟩ := ih hg1 p hp
        have hpn := hg1.lt p hp
        have hne : p ≠ i := fun e => hkl (e ▸ hp)
        have hi' : L' i = (j : Int) := by rw [hsame i hk hkl, hL]
        refine ⟨flip L' p i, ⟨fun a ha => ?_, fun a ha b hb e h0 => ?_⟩, ?_, ?_, fun a ha hal => ?_, fun a ha h0 => ?_⟩
        · unfold flip
          by_cases h1 : a = p
          · subst h1; rw [if_pos rfl]; exact Or.inr ⟨j, hj, hi', he⟩
          · rw [if_neg h1]
            by_cases h2 : a = i
            · rw [if_pos h2]; exact Or.inl rfl
            · rw [if_neg h2]; exact hM'.ed a ha
        · unfold flip at e h0
          by_cases h1 : a = p
          · by_cases h2 : b = p
            · omega
            · rw [if_pos h1, if_neg h2] at e
              by_cases h3 : b = i
              · rw [if_pos h3] at e; omega
              · rw [if_neg h3] at e
                have := hM'.inj i hk b hb e (by omega)
                omega
          · rw [if_neg h1] at e h0
            by_cases h4 : a = i
            · rw [if_pos h4] at h0; omega
            · rw [if_neg h4] at e h0
              by_cases h2 : b = p
              · rw [if_pos h2] at e
                have := hM'.inj a ha i hk e h0
                omega
              · rw [if_neg h2] at e
                by_cases h3 : b = i
                · rw [if_pos h3] at e; omega
                · rw [if_neg h3] at e
                  exact hM'.inj a ha b hb e h0
        · rw [← hc]
          have e1 := cn_del (n := n) (k := i) (p := mt L') hk (by simp [mt, hi'])
          have e2 := cn_del (n := n) (k := p) (p := mt (flip L' p i)) hpn (by simp [mt, flip, hi'])
          rw [e1, e2]
          congr 1
          refine cn_congr fun a ha => ?_
          unfold mt flip
          by_cases h1 : a = p
          · subst h1; simp [hf]
          · by_cases h2 : a = i
            · subst h2; simp [h1]
            · simp [h1, h2]
        · unfold flip; rw [if_neg (Ne.symm hne), if_pos rfl]
        · unfold flip
          have h1 : a ≠ p := fun e => hal (by rw [e]; exact List.mem_cons_of_mem _ hp)
          have h2 : a ≠ i := fun e => hal (by rw [e]; exact List.mem_cons_self ..)
          rw [if_neg h1, if_neg h2]
          exact hsame a ha fun h => hal (List.mem_cons_of_mem _ h)
        · unfold flip at h0 ⊢
          by_cases h1 : a = p
          · rw [if_pos h1] at h0 ⊢
            exact him i hk h0
          · rw [if_neg h1] at h0 ⊢
            by_cases h2 : a = i
            · rw [if_pos h2] at h0; omega
            · rw [if_neg h2] at h0 ⊢
              exact him a ha h0
    · obtain ⟨L', hM', hc, hf, hsame, him⟩ := ih hg1 i hi
      exact ⟨L', hM', hc, hf, fun a ha hal => hsame a ha fun h => hal (List.mem_cons_of_mem _ h), him⟩
/-- the lefts reached are closed, and all unmatched ones are reached -/
structure Loose (n N : Nat) (E : Nat → Nat → Prop) (L : Nat → Int) (l : List Nat) : Prop where
  gr : Grown n N E L l
  un : ∀ i < n, L i = -1 → i ∈ l
  cl : ∀ i ∈ l, ∀ j < N, E i j → ∀ k < n, L k = (j : Int) → k ∈ l
open Classical in
noncomputable def nbB (N : Nat) (E : Nat → Nat → Prop) (l : List Nat) (j : Nat) : Bool := decide (∃ i ∈ l, E i j)
open Classical in
theorem nbB_iff {l : List Nat} {j : Nat} : nbB N E l j = true ↔ ∃ i ∈ l, E i j := by unfold nbB; exact decide_eq_true_iff
/-- every neighbour of what is reached is matched, if the matching is maximum -/
theorem Loose.nb {l : List Nat} (h : Loose n N E L l) (hX : Mx n N E L) : ∀ i ∈ l, ∀ j < N, E i j → ∃ k < n, L k = (j : Int) := by
  intro i hi j hj he
  obtain ⟨L', hM', hc, hf, hsame, him⟩ := h.gr.free hX.1 i hi
  have hin := h.gr.lt i hi
  apply Classical.byContradiction
  intro hno
  have hnj : ∀ k < n, L' k ≠ (j : Int) := fun k hk e => by
    obtain ⟨k', hk', e'⟩ := him k hk (by omega)
    exact hno ⟨k', hk', by omega⟩
  have hM2 : Mt n N E (fun l => if l = i then (j : Int) else L' l) := by
    refine ⟨fun a ha => ?_, fun a ha b hb e h0 => ?_⟩
    · by_cases h1 : a = i
      · subst h1; rw [if_pos rfl]; exact Or.inr ⟨j, hj, rfl, he⟩
      · rw [if_neg h1]; exact hM'.ed a ha
    · by_cases h1 : a = i
      · by_cases h2 : b = i
        · omega
        · rw [if_pos h1, if_neg h2] at e
          exact absurd e.symm (hnj b hb)
      · rw [if_neg h1] at e h0
        by_cases h2 : b = i
        · rw [if_pos h2] at e
          exact absurd e (hnj a ha)
        · rw [if_neg h2] at e
          exact hM'.inj a ha b hb e h0
  have h2 := hX.max hM2
  have h3 := cn_add (n := n) (k := i) (p := mt L') (q := mt fun l => if l = i then (j : Int) else L' l) hin (by simp [mt, hf]) (fun a ha => by
    unfold mt
    by_cases h1 : a = i
    · subst h1; simp
    · simp [h1])
  omega
theorem Loose.cov {l : List Nat} (h : Loose n N E L l) : Cov n N E (fun i => !decide (i ∈ l)) (nbB N E l) := by
  intro i hi j hj he
  by_cases hl : i ∈ l
  · refine Or.inr ?_
    exact nbB_iff.2 ⟨i, hl, he⟩
  · exact Or.inl (by simp [hl])
theorem Loose.small {l : List Nat} (h : Loose n N E L l) (hX : Mx n N E L) : cn n (fun i => !decide (i ∈ l)) + cn N (nbB N E l) = cn n (mt L) := by
  refine Nat.le_antisymm ?_ (weak hX.1 h.cov)
  rw [cn_split n (mt L) fun i => !decide (i ∈ l)]
  have h1 : cn n (fun i => !decide (i ∈ l)) ≤ cn n fun i => mt L i && !decide (i ∈ l) := cn_mono fun i hi e => by
    simp only [Bool.not_eq_true', decide_eq_false_iff_not] at e
    have : L i ≠ -1 := fun e' => e (h.un i hi e')
    rcases hX.1.ed i hi with h' | ⟨j, _, h', _⟩
    · exact absurd h' this
    · simp [mt, h', e]
  have hch : ∀ j, ∃ k, j < N → nbB N E l j = true → k < n ∧ L k = (j : Int) := by
    intro j
    by_cases hj : j < N ∧ nbB N E l j = true
    · obtain ⟨hj, hb⟩ := hj
      obtain ⟨i, hi, he⟩ := nbB_iff.1 hb
      obtain ⟨k, hk, e⟩ := h.nb hX i hi j hj he
      exact ⟨k, fun _ _ => ⟨hk, e⟩⟩
    · exact ⟨0, fun a b => absurd ⟨a, b⟩ hj⟩
  obtain ⟨f, hf⟩ := Classical.axiomOfChoice hch
  have h2 : cn N (nbB N E l) ≤ cn n fun i => mt L i && !(!decide (i ∈ l)) := by
    refine cn_inj f (fun j hj hb => ?_) (fun j hj k hk h1 h2 e => ?_)
    · obtain ⟨a, b⟩ := hf j hj hb
      refine ⟨a, ?_⟩
      obtain ⟨i, hi, he⟩ := nbB_iff.1 hb
      have := h.cl i hi j hj he _ a b
      simp [mt, b, this]
    · have e1 := (hf j hj h1).2
      have e2 := (hf k hk h2).2
      rw [e, e2] at e1
      omega
  omega
/-- just those lefts are reached that some maximum matching does not match -/
theorem Loose.iff {l : List Nat} (h : Loose n N E L l) (hX : Mx n N E L) {i : Nat} (hi : i < n) : i ∈ l ↔ ∃ L', Mx n N E L' ∧ L' i = -1 := by
  constructor
  · intro hl
    obtain ⟨L', hM', hc, hf, _⟩ := h.gr.free hX.1 i hl
    exact ⟨L', hX.of_ge hM' (by omega), hf⟩
  · intro ⟨L', hX', hf⟩
    apply Classical.byContradiction
    intro hl
    have h1 := h.small hX
    have h2 := hX'.max hX.1
    have h3 := tight_left hX'.1 h.cov (by omega) i hi (by simp [hl])
    omega
end
end Go.Mg

/- Matchings: the search for an augmenting path as a plain function, and what it finds. -/
import Derived.Test.YtihlnbepcimnfaaDoorMgM0
namespace Go.Mg
set_option linter.unusedSimpArgs false
set_option linter.unusedVariables false

structure Sst where
  L : List Int
  R : List Int
  Se : List Bool

def augL (rec : Sst → Nat → Bool × Sst) (F : List Bool) (i : Nat) : List Nat → Sst → Bool × Sst
  | [], s => (false, s)
  | j :: l, s =>
    if (s.Se.getD j true || F.getD j true) = true then augL rec F i l s else
    if s.R.getD j (-1) < 0 then (true, ⟨s.L.set i j, s.R.set j i, s.Se.set j true⟩) else
    if (rec ⟨s.L, s.R, s.Se.set j true⟩ (s.R.getD j (-1)).toNat).1 = true then
      (true, ⟨(rec ⟨s.L, s.R, s.Se.set j true⟩ (s.R.getD j (-1)).toNat).2.L.set i j, (rec ⟨s.L, s.R, s.Se.set j true⟩ (s.R.getD j (-1)).toNat).2.R.set j i, (rec ⟨s.L, s.R, s.Se.set j true⟩ (s.R.getD j (-1)).toNat).2.Se⟩)
    else augL rec F i l (rec ⟨s.L, s.R, s.Se.set j true⟩ (s.R.getD j (-1)).toNat).2
def augF (g : List (List Nat)) (F : List Bool) : Nat → Sst → Nat → Bool × Sst
  | 0, s, _ => (false, s)
  | m + 1, s, i => augL (augF g F m) F i (g.getD i []) s

def gi (l : List Int) (i : Nat) : Int := l.getD i (-1)
def gb' (l : List Bool) (i : Nat) : Bool := l.getD i true
def Eg (g : List (List Nat)) (i j : Nat) : Prop := j ∈ g.getD i []
theorem gi_set (l : List Int) (i : Nat) (x : Int) (k : Nat) : gi (l.set i x) k = if k = i ∧ i < l.length then x else gi l k := by
  unfold gi
  rw [List.getD_eq_getElem?_getD, List.getD_eq_getElem?_getD, List.getElem?_set]
  by_cases h : i = k
  · subst h
    by_cases hl : i < l.length
    · simp [hl]
    · simp [hl, List.getElem?_eq_none (Nat.le_of_not_lt hl)]
  · simp [h, Ne.symm h]
theorem gb_set (l : List Bool) (i : Nat) (x : Bool) (k : Nat) : gb' (l.set i x) k = if k = i ∧ i < l.length then x else gb' l k := by
  unfold gb'
  rw [List.getD_eq_getElem?_getD, List.getD_eq_getElem?_getD, List.getElem?_set]
  by_cases h : i = k
  · subst h
    by_cases hl : i < l.length
    · simp [hl]
    · simp [hl, List.getElem?_eq_none (Nat.le_of_not_lt hl)]
  · simp [h, Ne.symm h]

/-- how many are not yet seen -/
def uns (Se : List Bool) : Nat := cn Se.length fun j => !gb' Se j
theorem uns_mono {a b : List Bool} (hl : b.length = a.length) (h : ∀ j, gb' a j = true → gb' b j = true) : uns b ≤ uns a := by
  unfold uns
  rw [hl]
  refine cn_mono fun j _ hj => ?_
  cases hx : gb' a j with
  | false => rfl
  | true => rw [h j hx] at hj; cases hj
theorem uns_set {a : List Bool} {j : Nat} (hj : j < a.length) (h : gb' a j = false) : uns (a.set j true) < uns a := by
  unfold uns
  rw [List.length_set, cn_del (p := fun j => !gb' a j) (k := j) hj (by simp only [h]; rfl)]
  refine Nat.lt_succ_of_le (cn_mono fun k _ hk => ?_)
  rw [gb_set] at hk
  by_cases e : k = j
  · subst e; rw [if_pos ⟨rfl, hj⟩] at hk; cases hk
  · rw [if_neg (fun h => e h.1)] at hk; simp [hk, e]

structure Len (n N : Nat) (s : Sst) : Prop where
  L : s.L.length = n
  R : s.R.length = N
  S : s.Se.length = N
/-- the partners of both sides fit -/
structure Inv (n N : Nat) (E : Nat → Nat → Prop) (L R : Nat → Int) : Prop where
  l : ∀ i < n, L i = -1 ∨ ∃ j < N, L i = (j : Int) ∧ E i j ∧ R j = (i : Int)
  r : ∀ j < N, R j = -1 ∨ ∃ i < n, R j = (i : Int) ∧ L i = (j : Int)
theorem Inv.mt {n N : Nat} {E : Nat → Nat → Prop} {L R : Nat → Int} (h : Inv n N E L R) : Mt n N E L := by
  refine ⟨fun i hi => ?_, fun i hi k hk e h0 => ?_⟩
  · rcases h.l i hi with a | ⟨j, hj, a, b, _⟩
    · exact Or.inl a
    · exact Or.inr ⟨j, hj, a, b⟩
  · rcases h.l i hi with a | ⟨j, hj, a, b, c⟩
    · omega
    · rcases h.l k hk with a' | ⟨j', hj', a', b', c'⟩
      · omega
      · have : j = j' := by omega
        subst this
        omega
/-- nothing is found: nothing is changed but what was seen, and what was seen is closed -/
structure AugN (n N : Nat) (E : Nat → Nat → Prop) (F : List Bool) (s s' : Sst) : Prop where
  L : s'.L = s.L
  R : s'.R = s.R
  len : s'.Se.length = s.Se.length
  mono : ∀ j, gb' s.Se j = true → gb' s'.Se j = true
  nw : ∀ j < N, gb' s'.Se j = true → gb' s.Se j = false → gb' F j = false ∧ ∃ k < n, gi s.R j = (k : Int) ∧ ∀ j' < N, E k j' → gb' s'.Se j' = true ∨ gb' F j' = true
/-- a partner is found for i, who had j0 (or none) -/
structure AugY (n N : Nat) (E : Nat → Nat → Prop) (F : List Bool) (i : Nat) (s s' : Sst) : Prop where
  len : Len n N s'
  keepL : ∀ l < n, l ≠ i → (gi s.L l = -1 ∨ ∃ j : Nat, gi s.L l = (j : Int) ∧ (gb' s.Se j = true ∨ gb' F j = true)) → gi s'.L l = gi s.L l
  keepR : ∀ j < N, (gb' s.Se j = true ∨ gb' F j = true) → gi s'.R j = gi s.R j
  at_ : ∃ j < N, gi s'.L i = (j : Int) ∧ E i j ∧ gb' s.Se j = false ∧ gb' F j = false
  sm : ∀ l < n, l ≠ i → (0 ≤ gi s'.L l ↔ 0 ≤ gi s.L l)
  l : ∀ l < n, gi s'.L l = -1 ∨ ∃ j < N, gi s'.L l = (j : Int) ∧ E l j ∧ gi s'.R j = (l : Int)
  r : ∀ j < N, (j : Int) ≠ gi s.L i → gi s'.R j = -1 ∨ ∃ k < n, gi s'.R j = (k : Int) ∧ gi s'.L k = (j : Int)

theorem augL_ok {n N m : Nat} {E : Nat → Nat → Prop} {F : List Bool} {rec : Sst → Nat → Bool × Sst} {i : Nat} (hrec : ∀ (s : Sst) (k : Nat), uns s.Se < m → Len n N s → Inv n N E (gi s.L) (gi s.R) → k < n → (∃ j < N, gi s.L k = (j : Int) ∧ gb' s.Se j = true) →
    ((rec s k).1 = true → AugY n N E F k s (rec s k).2) ∧
    ((rec s k).1 = false → AugN n N E F s (rec s k).2 ∧ ∀ j < N, E k j → gb' (rec s k).2.Se j = true ∨ gb' F j = true))
    (l : List Nat) (hl : ∀ j ∈ l, j < N ∧ E i j) (hi : i < n) (s : Sst) (hu : uns s.Se ≤ m) (hs : Len n N s) (hI : Inv n N E (gi s.L) (gi s.R)) (h0 : gi s.L i = -1 ∨ ∃ j < N, gi s.L i = (j : Int) ∧ gb' s.Se j = true) :
    ((augL rec F i l s).1 = true → AugY n N E F i s (augL rec F i l s).2) ∧
    ((augL rec F i l s).1 = false → AugN n N E F s (augL rec F i l s).2 ∧ ∀ j ∈ l, gb' (augL rec F i l s).2.Se j = true ∨ gb' F j = true) := by
  induction l generalizing s with
  | nil =>
    refine ⟨fun h => by simp [augL] at h, fun _ => ⟨⟨rfl, rfl, rfl, fun _ h => h, fun j _ h h' => ?_⟩, fun j hj => by cases hj⟩⟩
    rw [augL] at h
    rw [h] at h'; cases h'
  | cons j l ih =>
    obtain ⟨hjN, hE⟩ := hl j (List.mem_cons_self ..)
    have hl' : ∀ j ∈ l, j < N ∧ E i j := fun a ha => hl a (List.mem_cons_of_mem _ ha)
    unfold augL
    by_cases hsk : (s.Se.getD j true || F.getD j true) = true
    · rw [if_pos hsk]
      obtain ⟨a, b⟩ := ih hl' s hu hs hI h0
      refine ⟨a, fun h => ?_⟩
      obtain ⟨b1, b2⟩ := b h
      refine ⟨b1, fun k hk => ?_⟩
      rcases List.mem_cons.1 hk with rfl | hk
      · rw [Bool.or_eq_true] at hsk
        rcases hsk with h' | h'
        · exact Or.inl (b1.mono k h')
        · exact Or.inr h'
      · exact b2 k hk
    · rw [if_neg hsk]
      have hsk1 : gb' s.Se j = false := by unfold gb'; revert hsk; cases s.Se.getD j true <;> simp
      have hsk2 : gb' F j = false := by unfold gb'; revert hsk; cases F.getD j true <;> simp
      have hSe : ∀ k, gb' (s.Se.set j true) k = if k = j then true else gb' s.Se k := fun k => by
        rw [gb_set, hs.S]; simp [hjN]
      have h0j : gi s.L i ≠ (j : Int) := by
        rcases h0 with h | ⟨k, _, h, h'⟩
        · omega
        · intro e
          have : k = j := by omega
          subst this; rw [hsk1] at h'; cases h'
      by_cases hfr : s.R.getD j (-1) < 0
      · rw [if_pos hfr]
        refine ⟨fun _ => ?_, fun h => by simp at h⟩
        have hRj : gi s.R j = -1 := by
          rcases hI.r j hjN with h | ⟨k, _, h, _⟩
          · exact h
          · unfold gi at h; omega
        have hL' : ∀ k, gi (s.L.set i (j : Int)) k = if k = i then (j : Int) else gi s.L k := fun k => by rw [gi_set, hs.L]; simp [hi]
        have hR' : ∀ k, gi (s.R.set j (i : Int)) k = if k = j then (i : Int) else gi s.R k := fun k => by rw [gi_set, hs.R]; simp [hjN]
        refine ⟨⟨by simp [hs.L], by simp [hs.R], by simp [hs.S]⟩, fun a ha hne _ => by simp only [hL', if_neg hne], fun a ha hse => ?_, ⟨j, hjN, by simp [hL'], hE, hsk1, hsk2⟩, fun a ha hne => by simp only [hL', if_neg hne], fun a ha => ?_, fun a ha hne => ?_⟩
        · have : a ≠ j := fun e => by subst e; rw [hsk1, hsk2] at hse; simp at hse
          simp only [hR', if_neg this]
        · simp only [hL', hR']
          by_cases h1 : a = i
          · subst h1; rw [if_pos rfl]; exact Or.inr ⟨j, hjN, rfl, hE, by simp⟩
          · rw [if_neg h1]
            rcases hI.l a ha with h | ⟨b, hb, e1, e2, e3⟩
            · exact Or.inl h
            · refine Or.inr ⟨b, hb, e1, e2, ?_⟩
              have : b ≠ j := fun e => by subst e; omega
              rw [if_neg this]; exact e3
        · simp only [hL', hR']
          by_cases h1 : a = j
          · subst h1; rw [if_pos rfl]; exact Or.inr ⟨i, hi, rfl, by simp⟩
          · rw [if_neg h1]
            rcases hI.r a ha with h | ⟨b, hb, e1, e2⟩
            · exact Or.inl h
            · refine Or.inr ⟨b, hb, e1, ?_⟩
              have : b ≠ i := fun e => by subst e; omega
              rw [if_neg this]; exact e2
      · rw [if_neg hfr]
        obtain ⟨k, hk, hRk, hLk⟩ : ∃ k < n, gi s.R j = (k : Int) ∧ gi s.L k = (j : Int) := by
          rcases hI.r j hjN with h | h
          · unfold gi at h; omega
          · exact h
        have hkN : (s.R.getD j (-1)).toNat = k := by unfold gi at hRk; omega
        have hki : k ≠ i := fun e => by subst e; exact h0j hLk
        rw [hkN]
        have hs1 : Len n N ⟨s.L, s.R, s.Se.set j true⟩ := ⟨hs.L, hs.R, by simp [hs.S]⟩
        obtain ⟨hY, hN⟩ := hrec ⟨s.L, s.R, s.Se.set j true⟩ k (Nat.lt_of_lt_of_le (uns_set (by rw [hs.S]; exact hjN) hsk1) hu) hs1 hI hk ⟨j, hjN, hLk, by simp [hSe]⟩
        generalize rec ⟨s.L, s.R, s.Se.set j true⟩ k = q at hY hN ⊢
        obtain ⟨b, s2⟩ := q
        simp only at hY hN ⊢
        cases b with
        | true =>
          rw [if_pos rfl]
          refine ⟨fun _ => ?_, fun h => by simp at h⟩
          have y := hY rfl
          have hL' : ∀ a, gi (s2.L.set i (j : Int)) a = if a = i then (j : Int) else gi s2.L a := fun a => by rw [gi_set, y.len.L]; simp [hi]
          have hR' : ∀ a, gi (s2.R.set j (i : Int)) a = if a = j then (i : Int) else gi s2.R a := fun a => by rw [gi_set, y.len.R]; simp [hjN]
          have kL := y.keepL
          have kR := y.keepR
          have yr := y.r
          simp only [hSe] at kL kR
          -- nobody but the one who finds has j
          have hj2 : ∀ a < n, gi s2.L a ≠ (j : Int) := fun a ha e => by
            by_cases h1 : a = k
            · subst h1
              obtain ⟨b, hb, e1, _, e3, _⟩ := y.at_
              have : b = j := by omega
              subst this
              simp only [hSe, if_pos rfl] at e3
              cases e3
            · rcases y.l a ha with h | ⟨b, hb, e1, _, e3⟩
              · omega
              · have : b = j := by omega
                subst this
                have := kR b hjN (Or.inl (by simp))
                omega
          -- i has what it had
          have hi2 : gi s2.L i = gi s.L i := kL i hi (Ne.symm hki) (by
            rcases h0 with h | ⟨a, _, h, h'⟩
            · exact Or.inl h
            · exact Or.inr ⟨a, h, Or.inl (by by_cases e : a = j <;> simp [e, h'])⟩)
          refine ⟨⟨by simp [y.len.L], by simp [y.len.R], y.len.S⟩, fun a ha hne h => ?_, fun a ha hse => ?_, ⟨j, hjN, by simp [hL'], hE, hsk1, hsk2⟩, fun a ha hne => ?_, fun a ha => ?_, fun a ha hne => ?_⟩
          · simp only [hL', if_neg hne]
            by_cases h1 : a = k
            · subst h1
              rcases h with h | ⟨b, hb, h'⟩
              · omega
              · have : b = j := by omega
                subst this
                rw [hsk1, hsk2] at h'; simp at h'
            · refine kL a ha h1 ?_
              rcases h with h | ⟨b, hb, h'⟩
              · exact Or.inl h
              · refine Or.inr ⟨b, hb, ?_⟩
                rcases h' with h' | h'
                · exact Or.inl (by by_cases e : b = j <;> simp [e, h'])
                · exact Or.inr h'
          · have h1 : a ≠ j := fun e => by subst e; rw [hsk1, hsk2] at hse; simp at hse
            simp only [hR', if_neg h1]
            refine kR a ha ?_
            rw [if_neg h1]; exact hse
          · simp only [hL', if_neg hne]
            by_cases h1 : a = k
            · subst h1
              obtain ⟨b, hb, e1, _⟩ := y.at_
              omega
            · exact y.sm a ha h1
          · simp only [hL', hR']
            by_cases h1 : a = i
            · subst h1; rw [if_pos rfl]; exact Or.inr ⟨j, hjN, rfl, hE, by simp⟩
            · rw [if_neg h1]
              rcases y.l a ha with h | ⟨b, hb, e1, e2, e3⟩
              · exact Or.inl h
              · refine Or.inr ⟨b, hb, e1, e2, ?_⟩
                have : b ≠ j := fun e => by subst e; exact hj2 a ha e1
                rw [if_neg this]; exact e3
          · simp only [hL', hR']
            by_cases h1 : a = j
            · subst h1; rw [if_pos rfl]; exact Or.inr ⟨i, hi, rfl, by simp⟩
            · rw [if_neg h1]
              rcases yr a ha (by simp only; omega) with h | ⟨b, hb, e1, e2⟩
              · exact Or.inl h
              · refine Or.inr ⟨b, hb, e1, ?_⟩
                have : b ≠ i := fun e => by subst e; rw [hi2] at e2; exact hne e2.symm
                rw [if_neg this]; exact e2
        | false =>
          rw [if_neg (by simp)]
          obtain ⟨hn, hc⟩ := hN rfl
          obtain ⟨nL, nR, nlen, nmono, nnw⟩ := hn
          simp only [hSe] at nL nR nlen nmono nnw
          have hs2 : Len n N s2 := ⟨by rw [nL, hs.L], by rw [nR, hs.R], by rw [nlen]; simp [hs.S]⟩
          have mono2 : ∀ a, gb' s.Se a = true → gb' s2.Se a = true := fun a ha => nmono a (by by_cases e : a = j <;> simp [e, ha])
          have hj2 : gb' s2.Se j = true := nmono j (by simp)
          obtain ⟨a, b⟩ := ih hl' s2 (Nat.le_trans (uns_mono (by rw [nlen]; simp) mono2) hu) hs2 (by rw [nL, nR]; exact hI) (by
            rw [nL]
            rcases h0 with h | ⟨a, h1, h2, h3⟩
            · exact Or.inl h
            · exact Or.inr ⟨a, h1, h2, mono2 a h3⟩)
          refine ⟨fun h => ?_, fun h => ?_⟩
          · have y := a h
            refine ⟨y.len, fun c hc' hne hh => ?_, fun c hc' hh => ?_, ?_, fun c hc' hne => ?_, y.l, fun c hc' hne => ?_⟩
            · have := y.keepL c hc' hne (by
                rw [nL]
                rcases hh with hh | ⟨d, hd, hh⟩
                · exact Or.inl hh
                · exact Or.inr ⟨d, hd, hh.imp (mono2 d) id⟩)
              rw [this, nL]
            · rw [y.keepR c hc' (hh.imp (mono2 c) id), nR]
            · obtain ⟨d, hd, e1, e2, e3, e4⟩ := y.at_
              refine ⟨d, hd, e1, e2, ?_, e4⟩
              cases hx : gb' s.Se d with
              | false => rfl
              | true => rw [mono2 d hx] at e3; cases e3
            · rw [y.sm c hc' hne, nL]
            · exact y.r c hc' (by rw [nL]; exact hne)
          · obtain ⟨b1, b2⟩ := b h
            refine ⟨⟨b1.L.trans nL, b1.R.trans nR, by rw [b1.len, nlen]; simp, fun c hc' => b1.mono c (mono2 c hc'), fun c hcN h1 h2 => ?_⟩, fun c hc' => ?_⟩
            · cases hx : gb' s2.Se c with
              | false =>
                obtain ⟨d1, d, hd, e1, e2⟩ := b1.nw c hcN h1 hx
                exact ⟨d1, d, hd, by rw [← nR]; exact e1, e2⟩
              | true =>
                by_cases hcj : c = j
                · subst hcj
                  exact ⟨hsk2, k, hk, hRk, fun j' hj' he => (hc j' hj' he).imp (b1.mono j') id⟩
                · obtain ⟨d1, d, hd, e1, e2⟩ := nnw c hcN hx (by rw [if_neg hcj]; exact h2)
                  exact ⟨d1, d, hd, e1, fun j' hj' he => (e2 j' hj' he).imp (b1.mono j') id⟩
            · rcases List.mem_cons.1 hc' with rfl | hc'
              · exact Or.inl (b1.mono c hj2)
              · exact b2 c hc'
theorem augF_ok {n N : Nat} {g : List (List Nat)} {F : List Bool} (hg : ∀ i, ∀ j ∈ g.getD i [], j < N) (m : Nat) : ∀ (s : Sst) (i : Nat), uns s.Se < m → Len n N s → Inv n N (Eg g) (gi s.L) (gi s.R) → i < n → (gi s.L i = -1 ∨ ∃ j < N, gi s.L i = (j : Int) ∧ gb' s.Se j = true) →
    ((augF g F m s i).1 = true → AugY n N (Eg g) F i s (augF g F m s i).2) ∧
    ((augF g F m s i).1 = false → AugN n N (Eg g) F s (augF g F m s i).2 ∧ ∀ j < N, Eg g i j → gb' (augF g F m s i).2.Se j = true ∨ gb' F j = true) := by
  induction m with
  | zero => intro s i h; omega
  | succ m ih =>
    intro s i hu hs hI hi h0
    unfold augF
    obtain ⟨a, b⟩ := augL_ok (E := Eg g) (fun s k hu hs hI hk ⟨j, hj, e, e'⟩ => ih s k hu hs hI hk (Or.inr ⟨j, hj, e, e'⟩)) (g.getD i []) (fun j hj => ⟨hg i j hj, hj⟩) hi s (by omega) hs hI h0
    exact ⟨a, fun h => ⟨(b h).1, fun j hj he => (b h).2 j he⟩⟩
end Go.Mg

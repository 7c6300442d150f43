/- Matchings: what move does. -/
import Derived.Test.YtihlnbepcimnfaaDoorMgM4
namespace Go.Mg
set_option linter.unusedSimpArgs false
set_option linter.unusedVariables false

section
variable {n N : Nat} {E : Nat → Nat → Prop}
/-- i takes j -/
def mvS (st : Sst) (i j : Nat) : Sst := ⟨st.L.set i (j : Int), (st.R.set (gi st.L i).toNat (-1)).set j (i : Int), st.Se⟩
theorem mv_L (st : Sst) {i j : Nat} (hi : i < st.L.length) (a : Nat) : gi (st.L.set i (j : Int)) a = if a = i then (j : Int) else gi st.L a := by
  rw [gi_set]; by_cases e : a = i <;> simp [e, hi]
theorem mv_R (st : Sst) {i j p : Nat} (hj : j < st.R.length) (hp : p < st.R.length) (b : Nat) : gi ((st.R.set p (-1)).set j (i : Int)) b = if b = j then (i : Int) else if b = p then -1 else gi st.R b := by
  rw [gi_set, gi_set]
  by_cases e : b = j
  · subst e; simp [hj]
  · by_cases e2 : b = p
    · subst e2; simp [e, hp]
    · simp [e, e2]
/-- j was free -/
theorem mv_free {st : Sst} {i j p : Nat} (hl : Len n N st) (hI : Inv n N E (gi st.L) (gi st.R)) (hi : i < n) (hj : j < N) (hE : E i j) (hLi : gi st.L i = (p : Int)) (hpj : p ≠ j) (hR : gi st.R j = -1) :
    Inv n N E (gi (mvS st i j).L) (gi (mvS st i j).R) := by
  have hp : p < N := by
    rcases hI.l i hi with h | ⟨q, hq, h, _⟩
    · omega
    · omega
  have eL : ∀ a, gi (mvS st i j).L a = if a = i then (j : Int) else gi st.L a := mv_L st (by rw [hl.L]; exact hi)
  have eR : ∀ b, gi (mvS st i j).R b = if b = j then (i : Int) else if b = p then -1 else gi st.R b := by
    intro b
    have := mv_R st (i := i) (j := j) (p := p) (by rw [hl.R]; exact hj) (by rw [hl.R]; exact hp) b
    unfold mvS; rw [hLi, Int.toNat_natCast]; exact this
  refine ⟨fun a ha => ?_, fun b hb => ?_⟩
  · rw [eL]
    by_cases e : a = i
    · subst e; rw [if_pos rfl]; exact .inr ⟨j, hj, rfl, hE, by rw [eR, if_pos rfl]⟩
    · rw [if_neg e]
      rcases hI.l a ha with h | ⟨q, hq, h1, h2, h3⟩
      · exact .inl h
      · refine .inr ⟨q, hq, h1, h2, ?_⟩
        have h4 : q ≠ j := fun h => by subst h; omega
        have h5 : q ≠ p := fun h => by
          subst h
          rcases hI.l i hi with h' | ⟨q', hq', h1', h2', h3'⟩
          · omega
          · have : q' = q := by omega
            subst this; omega
        rw [eR, if_neg h4, if_neg h5, h3]
  · rw [eR]
    by_cases e : b = j
    · subst e; rw [if_pos rfl]; exact .inr ⟨i, hi, rfl, by rw [eL, if_pos rfl]⟩
    · rw [if_neg e]
      by_cases e2 : b = p
      · rw [if_pos e2]; exact .inl rfl
      · rw [if_neg e2]
        rcases hI.r b hb with h | ⟨a, ha, h1, h2⟩
        · exact .inl h
        · refine .inr ⟨a, ha, h1, ?_⟩
          have h3 : a ≠ i := fun h => by subst h; omega
          rw [eL, if_neg h3, h2]
/-- j was k's -/
theorem mv_inv {st : Sst} {i j k p : Nat} (hl : Len n N st) (hI : Inv n N E (gi st.L) (gi st.R)) (hi : i < n) (hj : j < N) (hE : E i j) (hLi : gi st.L i = (p : Int)) (hpj : p ≠ j) (hk : k < n) (hR : gi st.R j = (k : Int)) (hLk : gi st.L k = (j : Int)) :
    Inv n N E (gi ((mvS st i j).L.set k (-1))) (gi (mvS st i j).R) ∧ (∀ a, gi ((mvS st i j).L.set k (-1)) a = if a = i then (j : Int) else if a = k then -1 else gi st.L a) ∧ k ≠ i := by
  have hki : k ≠ i := fun h => by subst h; omega
  have hp : p < N := by
    rcases hI.l i hi with h | ⟨q, hq, h, _⟩
    · omega
    · omega
  have eL : ∀ a, gi ((mvS st i j).L.set k (-1)) a = if a = i then (j : Int) else if a = k then -1 else gi st.L a := by
    intro a
    rw [gi_set]
    unfold mvS
    rw [mv_L st (by rw [hl.L]; exact hi), List.length_set, hl.L]
    by_cases e : a = i
    · subst e; rw [if_pos rfl, if_neg (fun h => hki h.1.symm), if_pos rfl]
    · rw [if_neg e, if_neg e]
      by_cases e2 : a = k
      · rw [if_pos ⟨e2, hk⟩, if_pos e2]
      · rw [if_neg (fun h => e2 h.1), if_neg e2]
  have eR : ∀ b, gi (mvS st i j).R b = if b = j then (i : Int) else if b = p then -1 else gi st.R b := by
    intro b
    have := mv_R st (i := i) (j := j) (p := p) (by rw [hl.R]; exact hj) (by rw [hl.R]; exact hp) b
    unfold mvS; rw [hLi, Int.toNat_natCast]; exact this
  refine ⟨⟨fun a ha => ?_, fun b hb => ?_⟩, eL, hki⟩
  · rw [eL]
    by_cases e : a = i
    · subst e; rw [if_pos rfl]; exact .inr ⟨j, hj, rfl, hE, by rw [eR, if_pos rfl]⟩
    · rw [if_neg e]
      by_cases e2 : a = k
      · rw [if_pos e2]; exact .inl rfl
      · rw [if_neg e2]
        rcases hI.l a ha with h | ⟨q, hq, h1, h2, h3⟩
        · exact .inl h
        · refine .inr ⟨q, hq, h1, h2, ?_⟩
          have h4 : q ≠ j := fun h => by subst h; omega
          have h5 : q ≠ p := fun h => by
            subst h
            rcases hI.l i hi with h' | ⟨q', hq', h1', h2', h3'⟩
            · omega
            · have : q' = q := by omega
              subst this; omega
          rw [eR, if_neg h4, if_neg h5, h3]
  · rw [eR]
    by_cases e : b = j
    · subst e; rw [if_pos rfl]; exact .inr ⟨i, hi, rfl, by rw [eL, if_pos rfl]⟩
    · rw [if_neg e]
      by_cases e2 : b = p
      · rw [if_pos e2]; exact .inl rfl
      · rw [if_neg e2]
        rcases hI.r b hb with h | ⟨a, ha, h1, h2⟩
        · exact .inl h
        · refine .inr ⟨a, ha, h1, ?_⟩
          have h3 : a ≠ i := fun h => by subst h; omega
          have h4 : a ≠ k := fun h => by subst h; omega
          rw [eL, if_neg h3, if_neg h4, h2]
/-- what move answers -/
def MvOk (n N : Nat) (E : Nat → Nat → Prop) (st : Sst) (i j : Nat) (b : Bool) (st' : Sst) : Prop :=
  (b = true → Inv n N E (gi st'.L) (gi st'.R) ∧ (∀ a < n, 0 ≤ gi st'.L a) ∧ gi st'.L i = (j : Int) ∧ ∀ a < i, gi st'.L a = gi st.L a) ∧
  (b = false → st'.L = st.L ∧ st'.R = st.R ∧ ∀ L', Pf n N E L' → (∀ b < i, L' b = gi st.L b) → L' i ≠ (j : Int))
theorem mvOk_free {st : Sst} {i j p : Nat} (hl : Len n N st) (hI : Inv n N E (gi st.L) (gi st.R)) (hA : ∀ a < n, 0 ≤ gi st.L a) (hi : i < n) (hj : j < N) (hE : E i j) (hLi : gi st.L i = (p : Int)) (hpj : p ≠ j) (hR : gi st.R j = -1) : MvOk n N E st i j true (mvS st i j) := by
  have eL : ∀ a, gi (mvS st i j).L a = if a = i then (j : Int) else gi st.L a := mv_L st (by rw [hl.L]; exact hi)
  refine ⟨fun _ => ⟨mv_free hl hI hi hj hE hLi hpj hR, fun a ha => ?_, by rw [eL, if_pos rfl], fun a ha => by rw [eL, if_neg (by omega)]⟩, fun h => by cases h⟩
  rw [eL]; split
  · omega
  · exact hA a ha
theorem mvOk_k {st : Sst} {i j k p : Nat} {F : List Bool} {b : Bool} {s' : Sst} (hl : Len n N st) (hI : Inv n N E (gi st.L) (gi st.R)) (hA : ∀ a < n, 0 ≤ gi st.L a) (hi : i < n) (hj : j < N) (hE : E i j) (hLi : gi st.L i = (p : Int)) (hpj : p ≠ j) (hk : k < n) (hR : gi st.R j = (k : Int)) (hLk : gi st.L k = (j : Int))
    (hF : ∀ b < N, gb' F b = true ↔ ∃ a < i, gi st.L a = (b : Int)) (hFj : gb' F j = false)
    (hY : b = true → AugY n N E F k ⟨(mvS st i j).L.set k (-1), (mvS st i j).R, (List.replicate N false).set j true⟩ s')
    (hN : b = false → AugN n N E F ⟨(mvS st i j).L.set k (-1), (mvS st i j).R, (List.replicate N false).set j true⟩ s' ∧ ∀ b < N, E k b → gb' s'.Se b = true ∨ gb' F b = true) :
    MvOk n N E st i j b (if b = true then s' else ⟨st.L, st.R, s'.Se⟩) := by
  obtain ⟨hI2, eL, hki⟩ := mv_inv hl hI hi hj hE hLi hpj hk hR hLk
  have hpf : Pf n N E (gi st.L) := ⟨hI.mt, hA⟩
  have hik : i < k := by
    apply Decidable.byContradiction
    intro hn
    have := (hF j hj).2 ⟨k, by omega, hLk⟩
    rw [hFj] at this; cases this
  have hSe : ∀ b < N, gb' ((List.replicate N false).set j true) b = decide (b = j) := by
    intro b hb
    rw [gb_set, List.length_replicate, gb_rep N b hb]
    by_cases e : b = j <;> simp [e, hj]
  cases b with
  | true =>
    have y := hY rfl
    refine ⟨fun _ => ?_, fun h => by cases h⟩
    simp only [if_true]
    refine ⟨⟨y.l, fun b hb => y.r b hb (by simp only; rw [eL, if_neg hki, if_pos rfl]; omega)⟩, fun a ha => ?_, ?_, fun a ha => ?_⟩
    · by_cases e : a = k
      · subst e; obtain ⟨q, _, h, _⟩ := y.at_; omega
      · refine (y.sm a ha e).2 ?_
        simp only
        rw [eL]; split
        · omega
        · exact hA a ha
    · rw [y.keepL i hi (fun h => hki h.symm) (.inr ⟨j, by simp only; rw [eL, if_pos rfl], .inl (by simp only; rw [hSe j hj]; simp)⟩)]
      simp only; rw [eL, if_pos rfl]
    · have hL : gi ((mvS st i j).L.set k (-1)) a = gi st.L a := by rw [eL, if_neg (by omega), if_neg (by omega)]
      have h0 := hA a (by omega)
      obtain ⟨h1, _⟩ := hI.mt.at (show a < n by omega) h0
      rw [y.keepL a (by omega) (by omega) (.inr ⟨(gi st.L a).toNat, by simp only; rw [hL]; omega, .inr ((hF _ h1).2 ⟨a, ha, by omega⟩)⟩)]
      exact hL
  | false =>
    obtain ⟨y, hcl⟩ := hN rfl
    refine ⟨fun h => (by cases h), fun _ => ⟨rfl, rfl, ?_⟩⟩
    exact move_no hi hk hik hj hpf hLk (fun a ha => by simp only; rw [eL]) hI2.r (fun b hb => hSe b hb) hF y hcl
end
end Go.Mg

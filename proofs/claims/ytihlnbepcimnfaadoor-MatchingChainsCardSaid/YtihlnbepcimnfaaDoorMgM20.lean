/- matching: plain laws about wide graphs. -/
import Derived.Test.YtihlnbepcimnfaaDoorMgM19
namespace Go.Mg
open Go Go.RowKit
set_option linter.unusedSimpArgs false
set_option linter.unusedVariables false
set_option maxRecDepth 100000

theorem ofP_byte {x : List UInt8} {n : Nat} (h : ofP (x.map fun b => (b.toNat : Int)) n = true) : n < 256 := by
  unfold ofP at h
  simp only [Bool.and_eq_true, decide_eq_true_eq, List.mem_map] at h
  obtain ⟨⟨b, _, e⟩, _⟩ := h
  have := b.toNat_lt
  omega
/-- all neighbours are below 256, few lefts -/
def Low (ps : List (Nat → Bool)) : Prop := ps.length ≤ 256 ∧ ∀ p ∈ ps, ∀ n, p n = true → n < 256
theorem wideP_low (ws : List (List UInt8)) : Low (wideP ws) := by
  refine ⟨by have := wideP_len ws; omega, fun p hp n hn => ?_⟩
  unfold wideP at hp
  obtain ⟨x, _, rfl⟩ := List.mem_map.1 hp
  exact ofP_byte hn
theorem Low.chk {ps : List (Nat → Bool)} (h : Low ps) : chkF ps = 0 := by
  unfold chkF
  rw [if_neg (by have := h.1; omega), if_neg]
  intro hw
  obtain ⟨p, hp, n, _, h1, h2⟩ := wide_iff.1 hw
  have := h.2 p hp n h1
  omega
theorem Low.at_ {ps : List (Nat → Bool)} (h : Low ps) (i n : Nat) (hn : (ps.getD i fun _ => false) n = true) : n < 256 ∧ i < ps.length := by
  by_cases hi : i < ps.length
  · rw [List.getD_eq_getElem?_getD, List.getElem?_eq_getElem hi] at hn
    exact ⟨h.2 _ (List.getElem_mem _) n hn, hi⟩
  · rw [List.getD_eq_getElem?_getD, List.getElem?_eq_none (by omega)] at hn
    cases hn
theorem Low.eg {ps : List (Nat → Bool)} (h : Low ps) (i j : Nat) : Eg (gl ps) i j ↔ (ps.getD i fun _ => false) j = true := by
  by_cases hi : i < ps.length
  · rw [mem_gl hi]
    exact ⟨fun h => h.2, fun hh => ⟨by have := (h.at_ i j hh).1; omega, hh⟩⟩
  · have e : (ps.getD i fun _ => false) j = false := by rw [List.getD_eq_getElem?_getD, List.getElem?_eq_none (by omega)]; rfl
    have e2 : (gl ps).getD i [] = [] := by rw [List.getD_eq_getElem?_getD, List.getElem?_eq_none (by rw [gl_len]; omega)]; rfl
    unfold Eg
    rw [e, e2]
    exact ⟨fun h => (by cases h), fun h => (by cases h)⟩
theorem DefOf.iff {ps : List (Nat → Bool)} {D : List Nat} (h : DefOf ps D) {i : Nat} (hi : i < ps.length) : i ∈ D ↔ ∃ L', Mx ps.length 256 (Eg (gl ps)) L' ∧ L' i = -1 := by
  obtain ⟨L, hX, hl, hD⟩ := h
  exact hD.iff hX hi
theorem mem_inD {D : List Nat} {i n : Nat} : i ∈ inD D n ↔ i < n ∧ i ∈ D := by unfold inD; simp
theorem mem_outD {D : List Nat} {i n : Nat} : i ∈ outD D n ↔ i < n ∧ i ∉ D := by unfold outD; simp
theorem DefOf.uniq {ps : List (Nat → Bool)} {D D' : List Nat} (h : DefOf ps D) (h' : DefOf ps D') : inD D ps.length = inD D' ps.length := by
  unfold inD
  refine List.filter_congr fun i hi => ?_
  have hi : i < ps.length := by simpa using hi
  exact decide_eq_decide.2 ((h.iff hi).trans (h'.iff hi).symm)
theorem inD_cn (D : List Nat) (n : Nat) : (inD D n).length = cn n fun i => decide (i ∈ D) := filter_lt_cn _ _
theorem outD_cn (D : List Nat) (n : Nat) : (outD D n).length = cn n fun i => !decide (i ∈ D) := filter_lt_cn _ _
theorem in_out (D : List Nat) (n : Nat) : (inD D n).length + (outD D n).length = n := by rw [inD_cn, outD_cn]; exact cn_not _ _
/-- the neighbours of the loose lefts are as many as a maximum matching leaves to them -/
theorem DefOf.small {ps : List (Nat → Bool)} {D : List Nat} (hl : Low ps) (h : DefOf ps D) {L : Nat → Int} (hX : Mx ps.length 256 (Eg (gl ps)) L) :
    (outD D ps.length).length + (mems (nbP ps (inD D ps.length))).length = cn ps.length (mt L) ∧ (∀ i < ps.length, ∀ j < 256, Eg (gl ps) i j → i ∉ D ∨ nbP ps (inD D ps.length) j = true) := by
  obtain ⟨L0, hX0, hl0, hD⟩ := h
  have hlt := hD.gr.lt
  have hnb : ∀ j, nbB 256 (Eg (gl ps)) D j = nbP ps (inD D ps.length) j := by
    intro j
    have : nbB 256 (Eg (gl ps)) D j = true ↔ nbP ps (inD D ps.length) j = true := by
      rw [nbB_iff]
      unfold nbP
      rw [List.any_eq_true]
      exact ⟨fun ⟨i, hi, he⟩ => ⟨i, mem_inD.2 ⟨hlt i hi, hi⟩, (hl.eg i j).1 he⟩, fun ⟨i, hi, he⟩ => ⟨i, (mem_inD.1 hi).2, (hl.eg i j).2 he⟩⟩
    cases h1 : nbB 256 (Eg (gl ps)) D j <;> cases h2 : nbP ps (inD D ps.length) j <;> simp_all
  refine ⟨?_, fun i hi j hj he => ?_⟩
  · have hs := hD.small hX0
    rw [outD_cn, mems_length, cn_range (p := nbP ps (inD D ps.length)) (a := 256) (b := 4096) (by omega) (fun j h1 h2 => ?_), ← cn_congr (n := 256) (p := nbB 256 (Eg (gl ps)) D) (fun j _ => hnb j), hs]
    · exact Mx.same hX0 hX
    · cases hc : nbP ps (inD D ps.length) j with
      | false => rfl
      | true =>
        unfold nbP at hc
        rw [List.any_eq_true] at hc
        obtain ⟨i, _, h⟩ := hc
        have := (hl.at_ i j h).1
        omega
  · by_cases hi2 : i ∈ D
    · refine .inr ?_
      rw [← hnb, nbB_iff]
      exact ⟨i, hi2, he⟩
    · exact .inl hi2
theorem cn_eq_all {n : Nat} {p : Nat → Bool} : cn n p = n ↔ ∀ i < n, p i = true :=
  ⟨cn_full, fun h => by rw [cn_congr (q := fun _ => true) h, cn_true]⟩
/-- all are matched, or some are loose -/
theorem DefOf.none {ps : List (Nat → Bool)} {D : List Nat} (h : DefOf ps D) {L : Nat → Int} (hX : Mx ps.length 256 (Eg (gl ps)) L) : inD D ps.length = [] ↔ cn ps.length (mt L) = ps.length := by
  constructor
  · intro he
    rw [cn_eq_all]
    intro i hi
    rcases hX.1.ed i hi with h1 | ⟨j, _, h1, _⟩
    · have : i ∈ inD D ps.length := mem_inD.2 ⟨hi, (h.iff hi).2 ⟨L, hX, h1⟩⟩
      rw [he] at this; cases this
    · unfold mt; exact decide_eq_true (by omega)
  · intro he
    cases hc : inD D ps.length with
    | nil => rfl
    | cons i l =>
      have hi : i ∈ inD D ps.length := by rw [hc]; exact List.mem_cons_self
      obtain ⟨hi1, hi2⟩ := mem_inD.1 hi
      obtain ⟨L', hL', h0⟩ := (h.iff hi1).1 hi2
      have h1 := Mx.same hL' hX
      rw [he] at h1
      have := cn_full h1 i hi1
      unfold mt at this
      rw [h0] at this; cases this
/-! ### one edge more -/
theorem Mt.weaken {n N : Nat} {E E' : Nat → Nat → Prop} {L : Nat → Int} (h : Mt n N E L) (he : ∀ i < n, ∀ j < N, E i j → E' i j) : Mt n N E' L :=
  ⟨fun i hi => by
    rcases h.ed i hi with h1 | ⟨j, hj, h1, h2⟩
    · exact .inl h1
    · exact .inr ⟨j, hj, h1, he i hi j hj h2⟩, h.inj⟩
/-- i's partner goes -/
theorem Mt.drop {n N : Nat} {E E' : Nat → Nat → Prop} {L : Nat → Int} {i : Nat} (h : Mt n N E' L) (hi : i < n) (he : ∀ a < n, a ≠ i → ∀ j < N, E' a j → E a j) :
    Mt n N E (fun a => if a = i then -1 else L a) ∧ cn n (mt L) ≤ cn n (mt fun a => if a = i then -1 else L a) + 1 := by
  refine ⟨⟨fun a ha => ?_, fun a ha b hb e h0 => ?_⟩, ?_⟩
  · by_cases e : a = i
    · exact .inl (if_pos e)
    · simp only [if_neg e]
      rcases h.ed a ha with h1 | ⟨j, hj, h1, h2⟩
      · exact .inl h1
      · exact .inr ⟨j, hj, h1, he a ha e j hj h2⟩
  · by_cases e1 : a = i
    · simp only [if_pos e1] at h0; omega
    · simp only [if_neg e1] at e h0
      by_cases e2 : b = i
      · simp only [if_pos e2] at e; omega
      · simp only [if_neg e2] at e
        exact h.inj a ha b hb e h0
  · by_cases hm : mt L i = true
    · rw [cn_del hi hm]
      refine Nat.succ_le_succ (cn_mono fun a ha h => ?_)
      simp only [Bool.and_eq_true, Bool.not_eq_true', decide_eq_false_iff_not] at h
      show decide (0 ≤ if a = i then -1 else L a) = true
      rw [if_neg h.2]
      exact h.1
    · refine Nat.le_succ_of_le (cn_mono fun a ha h => ?_)
      have e : a ≠ i := fun e => by subst e; exact hm h
      show decide (0 ≤ if a = i then -1 else L a) = true
      rw [if_neg e]
      exact h
theorem grow {ps : List (Nat → Bool)} (hl : Low ps) {i t : Nat} (hi : i < ps.length) (ht : t < 256) {D : List Nat} (hD : DefOf ps D) {L L' : Nat → Int} (hX : Mx ps.length 256 (Eg (gl ps)) L)
    (hX' : Mx ps.length 256 (Eg (gl (ps.set i (withP (ps.getD i fun _ => false) (t : Int))))) L') :
    cn ps.length (mt L) ≤ cn ps.length (mt L') ∧ cn ps.length (mt L') ≤ cn ps.length (mt L) + 1 ∧ (cn ps.length (mt L') ≠ cn ps.length (mt L) → i ∈ inD D ps.length ∧ nbP ps (inD D ps.length) t = false) := by
  have hl' : Low (ps.set i (withP (ps.getD i fun _ => false) (t : Int))) := by
    refine ⟨by rw [List.length_set]; exact hl.1, fun p hp n hn => ?_⟩
    rcases List.mem_or_eq_of_mem_set hp with h | h
    · exact hl.2 p h n hn
    · subst h
      unfold withP at hn
      simp only [Bool.or_eq_true, Bool.and_eq_true, decide_eq_true_eq] at hn
      rcases hn with h | h
      · exact (hl.at_ i n h).1
      · omega
  have hE : ∀ a j, Eg (gl (ps.set i (withP (ps.getD i fun _ => false) (t : Int)))) a j ↔ Eg (gl ps) a j ∨ (a = i ∧ j = t) := by
    intro a j
    rw [hl'.eg, hl.eg, List.getD_eq_getElem?_getD, List.getElem?_set]
    by_cases e : i = a
    · subst e
      simp only [hi, if_true, Option.getD_some]
      unfold withP
      simp only [Bool.or_eq_true, Bool.and_eq_true, decide_eq_true_eq, true_and]
      refine or_congr_right ⟨fun h => by omega, fun h => by omega⟩
    · rw [if_neg e, ← List.getD_eq_getElem?_getD]
      exact ⟨.inl, fun h => h.elim id fun h => absurd h.1.symm e⟩
  have h1 : cn ps.length (mt L) ≤ cn ps.length (mt L') := hX'.max (hX.1.weaken fun a _ j _ h => (hE a j).2 (.inl h))
  obtain ⟨hM, hc⟩ := Mt.drop (E := Eg (gl ps)) hX'.1 hi (fun a _ hne j _ h => ((hE a j).1 h).elim id fun h => absurd h.1 hne)
  have h2 := hX.max hM
  refine ⟨h1, by omega, fun hne => ?_⟩
  have hmx : Mx ps.length 256 (Eg (gl ps)) (fun a => if a = i then -1 else L' a) := hX.of_ge hM (by omega)
  refine ⟨mem_inD.2 ⟨hi, (hD.iff hi).2 ⟨_, hmx, if_pos rfl⟩⟩, ?_⟩
  cases hc2 : nbP ps (inD D ps.length) t with
  | false => rfl
  | true =>
    exfalso
    obtain ⟨hs, hcov⟩ := hD.small hl hX
    have hw := weak (A := fun i => !decide (i ∈ D)) (B := nbP ps (inD D ps.length)) hX'.1 (fun a ha j hj he => by
      rcases (hE a j).1 he with he | ⟨rfl, rfl⟩
      · rcases hcov a ha j hj he with h | h
        · exact .inl (by simp [h])
        · exact .inr h
      · exact .inr hc2)
    rw [← outD_cn] at hw
    have : cn 256 (nbP ps (inD D ps.length)) ≤ (mems (nbP ps (inD D ps.length))).length := by
      rw [mems_length, show 4096 = 256 + 3840 from rfl, cn_add_n]; omega
    omega
end Go.Mg

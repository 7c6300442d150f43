/- Matchings: the list of all matchings of a small graph, in ascending order. -/
import Derived.Test.YtihlnbepcimnfaaDoorMgM3
namespace Go.Mg
set_option linter.unusedSimpArgs false
set_option linter.unusedVariables false

def bt (x : UInt64) (v : Nat) : Bool := x.toNat.testBit v
def orB (x : UInt64) (v : Nat) : UInt64 := x ||| UInt64.ofNat (2 ^ v)
theorem bt_lt {x : UInt64} {v : Nat} (h : bt x v = true) : v < 64 := by
  apply Decidable.byContradiction
  intro hn
  unfold bt at h
  rw [Nat.testBit_lt_two_pow (Nat.lt_of_lt_of_le x.toNat_lt (Nat.pow_le_pow_right (by omega) (by omega : 64 ≤ v)))] at h
  cases h
theorem bt_zero (v : Nat) : bt 0 v = false := by simp [bt]
theorem bt_orB (x : UInt64) {v : Nat} (hv : v < 64) (k : Nat) : bt (orB x v) k = (bt x k || decide (k = v)) := by
  unfold bt orB
  rw [UInt64.toNat_or, Nat.testBit_or, UInt64.toNat_ofNat', Nat.mod_eq_of_lt (Nat.pow_lt_pow_right (by omega) hv), Nat.testBit_two_pow]
  congr 1
  by_cases e : v = k
  · subst e; simp
  · have : k ≠ v := fun h => e h.symm
    simp [e, this]
theorem bt_ext {x y : UInt64} (h : ∀ k < 64, bt x k = bt y k) : x = y := by
  apply UInt64.toNat_inj.1
  apply Nat.eq_of_testBit_eq
  intro k
  by_cases hk : k < 64
  · exact h k hk
  · have a : bt x k = false := by cases e : bt x k with
      | false => rfl
      | true => exact absurd (bt_lt e) hk
    have b : bt y k = false := by cases e : bt y k with
      | false => rfl
      | true => exact absurd (bt_lt e) hk
    unfold bt at a b; rw [a, b]

/-- the matchings that begin with the choice v: none (0), or the right v - 1 -/
def altF (rec : UInt64 → List (List Int)) (x used : UInt64) (v : Nat) : List (List Int) :=
  if v = 0 then (rec used).map ((-1) :: ·) else if (bt x (v - 1) && !bt used (v - 1)) = true then (rec (orB used (v - 1))).map (((v - 1 : Nat) : Int) :: ·) else []
def allF : List UInt64 → UInt64 → List (List Int)
  | [], _ => [[]]
  | x :: g, used => (List.range 65).flatMap (altF (allF g) x used)
def bx (g : List UInt64) (i : Nat) : UInt64 := g.getD i 0
/-- a list is a matching that uses nothing of what is used -/
structure InF (g : List UInt64) (used : UInt64) (m : List Int) : Prop where
  len : m.length = g.length
  ed : ∀ i < g.length, gi m i = -1 ∨ ∃ j : Nat, j < 64 ∧ gi m i = (j : Int) ∧ bt (bx g i) j = true ∧ bt used j = false
  inj : ∀ i < g.length, ∀ k < g.length, gi m i = gi m k → 0 ≤ gi m i → i = k
theorem gi_cons0 (v : Int) (m : List Int) : gi (v :: m) 0 = v := rfl
theorem gi_consS (v : Int) (m : List Int) (i : Nat) : gi (v :: m) (i + 1) = gi m i := rfl
theorem bx_cons0 (x : UInt64) (g : List UInt64) : bx (x :: g) 0 = x := rfl
theorem bx_consS (x : UInt64) (g : List UInt64) (i : Nat) : bx (x :: g) (i + 1) = bx g i := rfl
theorem mem_altF {rec : UInt64 → List (List Int)} {x used : UInt64} {v : Nat} {m : List Int} : m ∈ altF rec x used v ↔ ∃ r, (v = 0 ∧ r ∈ rec used ∧ m = (-1) :: r) ∨ (v ≠ 0 ∧ bt x (v - 1) = true ∧ bt used (v - 1) = false ∧ r ∈ rec (orB used (v - 1)) ∧ m = ((v - 1 : Nat) : Int) :: r) := by
  unfold altF
  by_cases h0 : v = 0
  · rw [if_pos h0, List.mem_map]
    constructor
    · rintro ⟨r, h, rfl⟩; exact ⟨r, .inl ⟨h0, h, rfl⟩⟩
    · rintro ⟨r, ⟨_, h, rfl⟩ | ⟨h, _⟩⟩
      · exact ⟨r, h, rfl⟩
      · exact absurd h0 h
  · rw [if_neg h0]
    by_cases h : (bt x (v - 1) && !bt used (v - 1)) = true
    · rw [if_pos h, List.mem_map]
      simp only [Bool.and_eq_true, Bool.not_eq_true'] at h
      constructor
      · rintro ⟨r, h', rfl⟩; exact ⟨r, .inr ⟨h0, h.1, h.2, h', rfl⟩⟩
      · rintro ⟨r, ⟨h', _⟩ | ⟨_, _, _, h', rfl⟩⟩
        · exact absurd h' h0
        · exact ⟨r, h', rfl⟩
    · rw [if_neg h]
      constructor
      · intro h; cases h
      · rintro ⟨r, ⟨h', _⟩ | ⟨_, a, b, _⟩⟩
        · exact absurd h' h0
        · rw [a, b] at h; simp at h
theorem mem_allF : ∀ {g : List UInt64} {used : UInt64} {m : List Int}, m ∈ allF g used ↔ InF g used m
  | [], used, m => by
    simp only [allF, List.mem_singleton]
    constructor
    · rintro rfl; exact ⟨rfl, fun i h => by simp at h, fun i h => by simp at h⟩
    · intro h; exact List.eq_nil_of_length_eq_zero h.len
  | x :: g, used, m => by
    simp only [allF, List.mem_flatMap, List.mem_range, mem_altF]
    constructor
    · rintro ⟨v, hv, r, ⟨h0, hr, rfl⟩ | ⟨h0, hb, hu, hr, rfl⟩⟩
      · have h := mem_allF.1 hr
        refine ⟨by simp [h.len], fun i hi => ?_, fun i hi k hk e hp => ?_⟩
        · cases i with
          | zero => exact .inl rfl
          | succ i => exact h.ed i (by simpa using hi)
        · cases i with
          | zero => rw [gi_cons0] at hp; omega
          | succ i =>
            cases k with
            | zero => rw [gi_consS] at hp; rw [gi_cons0, gi_consS] at e; omega
            | succ k => rw [h.inj i (by simpa using hi) k (by simpa using hk) e hp]
      · have h := mem_allF.1 hr
        have hv64 := bt_lt hb
        have hne : ∀ i < g.length, gi r i ≠ ((v - 1 : Nat) : Int) := fun i hi e => by
          rcases h.ed i hi with e' | ⟨j, _, e', _, e''⟩
          · omega
          · have : j = v - 1 := by omega
            subst this
            rw [bt_orB _ hv64] at e''; simp at e''
        refine ⟨by simp [h.len], fun i hi => ?_, fun i hi k hk e hp => ?_⟩
        · cases i with
          | zero => exact .inr ⟨v - 1, hv64, rfl, hb, hu⟩
          | succ i =>
            rcases h.ed i (by simpa using hi) with e' | ⟨j, hj, e', e1, e2⟩
            · exact .inl e'
            · rw [bt_orB _ hv64] at e2
              exact .inr ⟨j, hj, e', e1, by cases hh : bt used j <;> simp_all⟩
        · cases i with
          | zero =>
            cases k with
            | zero => rfl
            | succ k => rw [gi_cons0, gi_consS] at e; exact absurd e.symm (hne k (by simpa using hk))
          | succ i =>
            cases k with
            | zero => rw [gi_cons0, gi_consS] at e; exact absurd e (hne i (by simpa using hi))
            | succ k => rw [h.inj i (by simpa using hi) k (by simpa using hk) e hp]
    · intro h
      cases m with
      | nil => have := h.len; simp at this
      | cons v r =>
        have hlen : r.length = g.length := by have := h.len; simpa using this
        have inj' : ∀ i < g.length, ∀ k < g.length, gi r i = gi r k → 0 ≤ gi r i → i = k := fun i hi k hk e hp => by
          have := h.inj (i + 1) (by simpa using hi) (k + 1) (by simpa using hk) e hp
          omega
        rcases h.ed 0 (by simp) with e | ⟨j, hj, e, hb, hu⟩
        · rw [gi_cons0] at e; subst e
          refine ⟨0, by omega, r, .inl ⟨rfl, mem_allF.2 ⟨hlen, fun i hi => h.ed (i + 1) (by simpa using hi), inj'⟩, rfl⟩⟩
        · rw [gi_cons0] at e; subst e
          refine ⟨j + 1, by omega, r, .inr ⟨by omega, hb, hu, mem_allF.2 ⟨hlen, fun i hi => ?_, inj'⟩, rfl⟩⟩
          rcases h.ed (i + 1) (by simpa using hi) with e' | ⟨a, ha, e', e1, e2⟩
          · exact .inl e'
          · refine .inr ⟨a, ha, e', e1, ?_⟩
            have hne : a ≠ j := fun e2 => by
              subst e2
              have := h.inj 0 (by simp) (i + 1) (by simpa using hi) (by rw [gi_cons0]; exact e'.symm) (by rw [gi_cons0]; omega)
              omega
            simp only [Nat.add_sub_cancel]
            rw [bt_orB _ hj, e2]; simp [hne]
/-- m comes first, or does not differ, as far as the lefts tell -/
def Lexd (a b : List Int) : Prop := ∀ i, (∀ k < i, gi b k = gi a k) → gi a i ≤ gi b i
theorem Lexd.cons {v : Int} {a b : List Int} (h : Lexd a b) : Lexd (v :: a) (v :: b) := by
  intro i hk
  cases i with
  | zero => exact Int.le_refl _
  | succ i => exact h i fun k hk' => hk (k + 1) (by omega)
theorem Lexd.lt {v w : Int} (a b : List Int) (h : v < w) : Lexd (v :: a) (w :: b) := by
  intro i hk
  cases i with
  | zero => exact Int.le_of_lt h
  | succ i => have := hk 0 (by omega); rw [gi_cons0, gi_cons0] at this; omega
theorem altF_head {rec : UInt64 → List (List Int)} {x used : UInt64} {v : Nat} {m : List Int} (h : m ∈ altF rec x used v) : ∃ r, m = ((v : Int) - 1) :: r := by
  obtain ⟨r, ⟨h0, _, rfl⟩ | ⟨h0, _, _, _, rfl⟩⟩ := mem_altF.1 h
  · exact ⟨r, by simp [h0]⟩
  · exact ⟨r, by congr 1; omega⟩
theorem range_flatMap_pairwise {α : Type} {p : α → α → Prop} {f : Nat → List α} (h1 : ∀ k, (f k).Pairwise p) (h2 : ∀ i k, i < k → ∀ a ∈ f i, ∀ b ∈ f k, p a b) : ∀ n, ((List.range n).flatMap f).Pairwise p
  | 0 => by simp
  | n + 1 => by
    rw [List.range_succ, List.flatMap_append, List.pairwise_append]
    refine ⟨range_flatMap_pairwise h1 h2 n, by simpa using h1 n, fun a ha b hb => ?_⟩
    obtain ⟨i, hi, ha⟩ := List.mem_flatMap.1 ha
    exact h2 i n (List.mem_range.1 hi) a ha b (by simpa using hb)
theorem allF_sorted : ∀ (g : List UInt64) (used : UInt64), (allF g used).Pairwise Lexd
  | [], used => by simp [allF]
  | x :: g, used => by
    refine range_flatMap_pairwise (fun k => ?_) (fun i k hik a ha b hb => ?_) 65
    · unfold altF
      split
      · exact List.pairwise_map.2 ((allF_sorted g used).imp fun h => h.cons)
      · split
        · exact List.pairwise_map.2 ((allF_sorted g _).imp fun h => h.cons)
        · exact List.Pairwise.nil
    · obtain ⟨r, rfl⟩ := altF_head ha
      obtain ⟨r', rfl⟩ := altF_head hb
      exact Lexd.lt _ _ (by omega)
theorem snoc_ind {α : Type} {p : List α → Prop} (nil : p []) (snoc : ∀ l a, p l → p (l ++ [a])) (l : List α) : p l := by
  have : ∀ l : List α, p l.reverse := fun l => by
    induction l with
    | nil => exact nil
    | cons a l ih => rw [List.reverse_cons]; exact snoc _ _ ih
  have := this l.reverse
  rwa [List.reverse_reverse] at this
/-- how many a list matches -/
def mtc (m : List Int) : Nat := (m.filter fun v => decide (0 ≤ v)).length
theorem mtc_cn (m : List Int) : mtc m = cn m.length (mt (gi m)) := by
  induction m using snoc_ind with
  | nil => rfl
  | snoc m v ih =>
    have e1 : mtc (m ++ [v]) = mtc m + if 0 ≤ v then 1 else 0 := by
      unfold mtc
      rw [List.filter_append, List.length_append]
      congr 1
      by_cases h : 0 ≤ v <;> simp [h]
    rw [e1, List.length_append, List.length_singleton, cn_succ, ih]
    have e2 : cn m.length (mt (gi (m ++ [v]))) = cn m.length (mt (gi m)) := cn_congr fun i hi => by
      unfold mt gi
      rw [List.getD_eq_getElem?_getD, List.getD_eq_getElem?_getD, List.getElem?_append_left hi]
    rw [e2]
    congr 1
    have : gi (m ++ [v]) m.length = v := by
      unfold gi; rw [List.getD_eq_getElem?_getD, List.getElem?_append_right (Nat.le_refl _)]; simp
    simp [mt, this]
def szF (l : List (List Int)) : Nat := l.foldl (fun b m => if mtc m > b then mtc m else b) 0
theorem szF_snoc (l : List (List Int)) (m : List Int) : szF (l ++ [m]) = if mtc m > szF l then mtc m else szF l := by simp [szF]
theorem szF_spec (l : List (List Int)) : (∀ m ∈ l, mtc m ≤ szF l) ∧ (szF l = 0 ∨ ∃ m ∈ l, mtc m = szF l) := by
  induction l using snoc_ind with
  | nil => exact ⟨fun m h => absurd h (by simp), .inl rfl⟩
  | snoc l m ih =>
    rw [szF_snoc]
    refine ⟨fun a ha => ?_, ?_⟩
    · rcases List.mem_append.1 ha with ha | ha
      · have := ih.1 a ha; split <;> omega
      · have : a = m := by simpa using ha
        subst this; split <;> omega
    · split
      · exact .inr ⟨m, by simp, rfl⟩
      · rcases ih.2 with h | ⟨a, ha, e⟩
        · exact .inl h
        · exact .inr ⟨a, by simp [ha], e⟩
theorem filter_lt_cn (n : Nat) (p : Nat → Bool) : ((List.range n).filter p).length = cn n p := by
  induction n with
  | zero => rfl
  | succ n ih => rw [List.range_succ, List.filter_append, List.length_append, ih, cn_succ]; congr 1; cases h : p n <;> simp [h]
/-- the graph of the words -/
def Eb (g : List UInt64) (i j : Nat) : Prop := bt (bx g i) j = true
theorem InF.mt {g : List UInt64} {m : List Int} (h : InF g 0 m) {N : Nat} (hN : 64 ≤ N) : Mt g.length N (Eb g) (gi m) :=
  ⟨fun i hi => (h.ed i hi).imp id fun ⟨j, a, b, c, _⟩ => ⟨j, by omega, b, c⟩, h.inj⟩
theorem InF.of_mt {g : List UInt64} {N : Nat} {L : Nat → Int} (h : Mt g.length N (Eb g) L) : InF g 0 ((List.range g.length).map L) := by
  have hg : ∀ i < g.length, gi ((List.range g.length).map L) i = L i := fun i hi => by unfold gi; rw [List.getD_eq_getElem?_getD, List.getElem?_map, List.getElem?_range hi]; rfl
  refine ⟨by simp, fun i hi => ?_, fun i hi k hk => ?_⟩
  · rw [hg i hi]
    exact (h.ed i hi).imp id fun ⟨j, a, b, c⟩ => ⟨j, bt_lt c, b, c, bt_zero j⟩
  · rw [hg i hi, hg k hk]; exact h.inj i hi k hk
theorem allF_size {g : List UInt64} {N : Nat} (hN : 64 ≤ N) {L : Nat → Int} (hX : Mx g.length N (Eb g) L) : szF (allF g 0) = cn g.length (mt L) := by
  obtain ⟨a, b⟩ := szF_spec (allF g 0)
  refine Nat.le_antisymm ?_ ?_
  · rcases b with e | ⟨m, hm, e⟩
    · omega
    · have h := mem_allF.1 hm
      rw [← e, mtc_cn, h.len]
      exact hX.max (h.mt hN)
  · have h := InF.of_mt hX.1
    have := a _ (mem_allF.2 h)
    rw [mtc_cn, h.len] at this
    refine Nat.le_trans (Nat.le_of_eq (cn_congr fun i hi => ?_)) this
    unfold mt gi
    rw [List.getD_eq_getElem?_getD, List.getElem?_map, List.getElem?_range hi]; rfl
/-- some maximum matching of the list does not match i -/
def defB (l : List (List Int)) (i : Nat) : Bool := l.any fun m => decide (gi m i < 0) && decide (mtc m = szF l)
theorem allF_def {g : List UInt64} {N : Nat} (hN : 64 ≤ N) {L : Nat → Int} (hX : Mx g.length N (Eb g) L) {i : Nat} (hi : i < g.length) : defB (allF g 0) i = true ↔ ∃ L', Mx g.length N (Eb g) L' ∧ L' i = -1 := by
  have hs := allF_size hN hX
  unfold defB
  rw [List.any_eq_true]
  constructor
  · rintro ⟨m, hm, h⟩
    simp only [Bool.and_eq_true, decide_eq_true_eq] at h
    have hI := mem_allF.1 hm
    refine ⟨gi m, hX.of_ge (hI.mt hN) (by rw [← hs, ← h.2, mtc_cn, hI.len]; exact Nat.le_refl _), ?_⟩
    rcases hI.ed i hi with e | ⟨j, _, e, _⟩
    · exact e
    · omega
  · rintro ⟨L', hX', h⟩
    have hI := InF.of_mt hX'.1
    refine ⟨_, mem_allF.2 hI, ?_⟩
    have hg : ∀ i < g.length, gi ((List.range g.length).map L') i = L' i := fun i hi => by unfold gi; rw [List.getD_eq_getElem?_getD, List.getElem?_map, List.getElem?_range hi]; rfl
    simp only [Bool.and_eq_true, decide_eq_true_eq]
    refine ⟨by rw [hg i hi, h]; omega, ?_⟩
    rw [hs, mtc_cn, hI.len]
    have e : cn g.length (mt (gi ((List.range g.length).map L'))) = cn g.length (mt L') := cn_congr fun k hk => by simp only [mt, hg k hk]
    rw [e]
    exact Nat.le_antisymm (hX.max hX'.1) (hX'.max hX.1)
/-- the first matching of all lefts -/
def leastF (l : List (List Int)) (n : Nat) : Option (List Int) := l.find? fun m => decide (mtc m = n)
theorem cn_full {n : Nat} {p : Nat → Bool} (h : cn n p = n) : ∀ i < n, p i = true := by
  intro i hi
  exact cn_all (p := p) (q := fun _ => true) (fun _ _ _ => rfl) (by have := cn_le n (fun _ => true); omega) i hi rfl
theorem cn_true (n : Nat) : cn n (fun _ => true) = n := by
  induction n with
  | zero => rfl
  | succ n ih => rw [cn_succ, ih]; simp
theorem InF.pf {g : List UInt64} {m : List Int} (h : InF g 0 m) {N : Nat} (hN : 64 ≤ N) (hc : mtc m = g.length) : Pf g.length N (Eb g) (gi m) := by
  refine ⟨h.mt hN, fun i hi => ?_⟩
  rw [mtc_cn, h.len] at hc
  have := cn_full hc i hi
  simpa only [Go.Mg.mt, decide_eq_true_eq] using this
theorem find_first {α : Type} {p : α → α → Prop} {q : α → Bool} : ∀ {l : List α} {m : α}, l.Pairwise p → l.find? q = some m → ∀ b ∈ l, q b = true → b = m ∨ p m b
  | [], _, _, h, _, hb, _ => by cases hb
  | a :: l, m, hp, h, b, hb, hq => by
    rw [List.pairwise_cons] at hp
    rw [List.find?_cons] at h
    cases ha : q a with
    | true =>
      rw [ha] at h
      have : a = m := by simpa using h
      subst this
      rcases List.mem_cons.1 hb with rfl | hb
      · exact .inl rfl
      · exact .inr (hp.1 b hb)
    | false =>
      rw [ha] at h
      rcases List.mem_cons.1 hb with rfl | hb
      · rw [ha] at hq; cases hq
      · exact find_first hp.2 (by simpa using h) b hb hq
theorem leastF_some {g : List UInt64} {N : Nat} (hN : 64 ≤ N) {m : List Int} (h : leastF (allF g 0) g.length = some m) : m.length = g.length ∧ Pf g.length N (Eb g) (gi m) ∧ LeastTo g.length N (Eb g) (gi m) g.length := by
  unfold leastF at h
  have h1 := List.mem_of_find?_eq_some h
  have h2 := List.find?_some h
  have hI := mem_allF.1 h1
  refine ⟨hI.len, hI.pf hN (by simpa using h2), fun a ha L' p' hb => ?_⟩
  have hI' := InF.of_mt p'.m
  have hg : ∀ i < g.length, gi ((List.range g.length).map L') i = L' i := fun i hi => by unfold gi; rw [List.getD_eq_getElem?_getD, List.getElem?_map, List.getElem?_range hi]; rfl
  have hc : mtc ((List.range g.length).map L') = g.length := by
    rw [mtc_cn, hI'.len]
    have : cn g.length (mt (gi ((List.range g.length).map L'))) = cn g.length (fun _ => true) := cn_congr fun i hi => by
      simp only [mt, hg i hi, p'.all i hi, decide_true]
    rw [this, cn_true]
  rcases find_first (allF_sorted g 0) h _ (mem_allF.2 hI') (by simpa using hc) with e | e
  · rw [← hg a ha, e]; exact Int.le_refl _
  · rw [← hg a ha]
    exact e a fun b hb' => by rw [hg b (by omega)]; exact hb b hb'
theorem leastF_none {g : List UInt64} {N : Nat} {L : Nat → Int} (h : leastF (allF g 0) g.length = none) (p : Pf g.length N (Eb g) L) : False := by
  unfold leastF at h
  rw [List.find?_eq_none] at h
  have hI' := InF.of_mt p.m
  have hg : ∀ i < g.length, gi ((List.range g.length).map L) i = L i := fun i hi => by unfold gi; rw [List.getD_eq_getElem?_getD, List.getElem?_map, List.getElem?_range hi]; rfl
  have := h _ (mem_allF.2 hI')
  apply this
  simp only [decide_eq_true_eq]
  rw [mtc_cn, hI'.len]
  have : cn g.length (mt (gi ((List.range g.length).map L))) = cn g.length (fun _ => true) := cn_congr fun i hi => by
    simp only [mt, hg i hi, p.all i hi, decide_true]
  rw [this, cn_true]
/-- there are not many -/
theorem altF_len {rec : UInt64 → List (List Int)} {x used : UInt64} {v b : Nat} (hb : ∀ u, (rec u).length ≤ b) : (altF rec x used v).length ≤ if v = 0 then b else if bt x (v - 1) = true then b else 0 := by
  unfold altF
  split
  · simpa using hb used
  · split
    · rename_i h
      simp only [Bool.and_eq_true] at h
      rw [if_pos h.1]; simpa using hb _
    · simp
theorem altTo_len {rec : UInt64 → List (List Int)} {x used : UInt64} {b : Nat} (hb : ∀ u, (rec u).length ≤ b) (hx : ∀ v, bt x v = true → v < 6) : ∀ k, ((List.range k).flatMap (altF rec x used)).length ≤ (min k 7) * b
  | 0 => by simp
  | k + 1 => by
    have ih := altTo_len (used := used) hb hx k
    have h1 := altF_len (x := x) (used := used) (v := k) hb
    rw [List.range_succ, List.flatMap_append, List.length_append]
    simp only [List.flatMap_cons, List.flatMap_nil, List.append_nil]
    by_cases hk : k < 7
    · have e1 : min k 7 = k := by omega
      have e2 : min (k + 1) 7 = k + 1 := by omega
      rw [e1] at ih; rw [e2, Nat.add_mul, Nat.one_mul]
      have : (altF rec x used k).length ≤ b := Nat.le_trans h1 (by split <;> (try split) <;> omega)
      omega
    · have e1 : min k 7 = 7 := by omega
      have e2 : min (k + 1) 7 = 7 := by omega
      rw [e1] at ih; rw [e2]
      have : (altF rec x used k).length ≤ 0 := by
        refine Nat.le_trans h1 ?_
        rw [if_neg (by omega), if_neg (fun h => by have := hx _ h; omega)]
        exact Nat.le_refl _
      omega
theorem allF_len : ∀ (g : List UInt64) (used : UInt64), (∀ x ∈ g, ∀ v, bt x v = true → v < 6) → (allF g used).length ≤ 7 ^ g.length
  | [], _, _ => by simp [allF]
  | x :: g, used, h => by
    have := altTo_len (used := used) (b := 7 ^ g.length) (fun u => allF_len g u fun y hy => h y (by simp [hy])) (h x (by simp)) 65
    rw [List.length_cons, Nat.pow_succ, Nat.mul_comm]
    exact this
end Go.Mg

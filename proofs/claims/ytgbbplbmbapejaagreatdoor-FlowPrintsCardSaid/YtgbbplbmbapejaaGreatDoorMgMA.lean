/- Several texts of ours in one. No conditions. -/
import Derived.Test.YtgbbplbmbapejaaGreatDoorMgMem0
namespace Go.Mg
set_option linter.all false
def cn : Nat -> (Nat -> Bool) -> Nat
 | 0, _ => 0
 | n + 1, p => cn n p + (if p n = true then 1 else 0)
theorem cn_succ (n : Nat) (p : Nat -> Bool) : cn (n + 1) p = cn n p + (if p n = true then 1 else 0) := rfl
theorem cn_mono {n : Nat} {p q : Nat -> Bool} (h : ∀ i < n, p i = true -> q i = true) : cn n p <= cn n q := by
 induction n with
 | zero => exact Nat.le_refl _
 | succ n ih =>
  have := ih fun i hi => h i (by omega)
  have hn := h n (by omega)
  rw [cn_succ, cn_succ]
  split
  ·rw [if_pos (hn ‹_›)]; omega
  ·omega
theorem cn_congr {n : Nat} {p q : Nat -> Bool} (h : ∀ i < n, p i = q i) : cn n p = cn n q :=
 Nat.le_antisymm (cn_mono fun i hi e => h i hi ▸ e) (cn_mono fun i hi e => (h i hi).symm ▸ e)
theorem cn_split (n : Nat) (p q : Nat -> Bool) : cn n p = cn n (fun i => p i && q i) + cn n (fun i => p i && !q i) := by
 induction n with
 | zero => rfl
 | succ n ih =>
  rw [cn_succ, cn_succ, cn_succ, ih]
  cases hp : p n <;> cases hq : q n <;> simp only [hp, hq, Bool.and_self, Bool.not_true, Bool.not_false, Bool.and_true, Bool.and_false, Bool.true_and, Bool.false_and, Bool.or_self, Bool.or_true, Bool.true_or, Bool.or_false, Bool.false_or, if_true, if_false, Bool.false_eq_true] <;> omega
theorem cn_not (n : Nat) (p : Nat -> Bool) : cn n p + cn n (fun i => !p i) = n := by
 induction n with
 | zero => rfl
 | succ n ih =>
  rw [cn_succ, cn_succ]
  cases hp : p n <;> simp only [Bool.not_true, Bool.not_false, if_true, if_false, Bool.false_eq_true] <;> omega
theorem cn_le (n : Nat) (p : Nat -> Bool) : cn n p <= n := by have := cn_not n p; omega
theorem cn_false (n : Nat) : cn n (fun _ => false) = 0 := by
 induction n with
 | zero => rfl
 | succ n ih => rw [cn_succ]; simp [ih]
theorem cn_or (n : Nat) (p q : Nat -> Bool) : cn n (fun i => p i || q i) = cn n p + cn n (fun i => q i && !p i) := by
 induction n with
 | zero => rfl
 | succ n ih =>
  rw [cn_succ, cn_succ, cn_succ, ih]
  cases hp : p n <;> cases hq : q n <;> simp only [hp, hq, Bool.and_self, Bool.not_true, Bool.not_false, Bool.and_true, Bool.and_false, Bool.true_and, Bool.false_and, Bool.or_self, Bool.or_true, Bool.true_or, Bool.or_false, Bool.false_or, if_true, if_false, Bool.false_eq_true] <;> omega
theorem cn_one (n k : Nat) (hk : k < n) : cn n (fun i => decide (i = k)) = 1 := by
 induction n with
 | zero => omega
 | succ n ih =>
  rw [cn_succ]
  by_cases h : n = k
  ·subst h
   rw [show cn n (fun i => decide (i = n)) = 0 from by
    rw [cn_congr (q := fun _ => false) fun i hi => by simp; omega, cn_false]]
   simp
  ·rw [ih (by omega)]; simp [h]
theorem cn_del {n k : Nat} {p : Nat -> Bool} (hk : k < n) (hp : p k = true) : cn n p = cn n (fun i => p i && !decide (i = k)) + 1 := by
 rw [cn_split n p fun i => decide (i = k)]
 rw [cn_congr (p := fun i => p i && decide (i = k)) (q := fun i => decide (i = k)) fun i hi => by
  by_cases h : i = k
  ·subst h; simp [hp]
  ·simp [h], cn_one n k hk]
 omega
theorem cn_add {n k : Nat} {p q : Nat -> Bool} (hk : k < n) (hp : p k = false) (hq : ∀ i < n, q i = (p i || decide (i = k))) : cn n q = cn n p + 1 := by
 rw [cn_congr hq, cn_or]
 rw [cn_congr (p := fun i => decide (i = k) && !p i) (q := fun i => decide (i = k)) fun i hi => by
  by_cases h : i = k
  ·subst h; simp [hp]
  ·simp [h], cn_one n k hk]
theorem cn_inj {n m : Nat} {p q : Nat -> Bool} (f : Nat -> Nat) (hf : ∀ i < n, p i = true -> f i < m /\ q (f i) = true) (hi : ∀ i < n, ∀ k < n, p i = true -> p k = true -> f i = f k -> i = k) : cn n p <= cn m q := by
 induction n generalizing q with
 | zero => exact Nat.zero_le _
 | succ n ih =>
  rw [cn_succ]
  split
  ·rename_i h
   obtain ⟨h1, h2⟩ := hf n (by omega) h
   rw [cn_del h1 h2]
   have := ih (q := fun j => q j && !decide (j = f n)) (fun i hin hp => by
    obtain ⟨a, b⟩ := hf i (by omega) hp
    refine ⟨a, ?_⟩
    have : f i ≠ f n := fun e => by have := hi i (by omega) n (by omega) hp h e; omega
    simp [b, this]) (fun i hi1 k hk => hi i (by omega) k (by omega))
   omega
  ·have := ih (q := q) (fun i hi1 => hf i (by omega)) (fun i hi1 k hk => hi i (by omega) k (by omega))
   omega
theorem cn_onto {n m : Nat} {p q : Nat -> Bool} (f : Nat -> Nat) (hf : ∀ i < n, p i = true -> f i < m /\ q (f i) = true) (hi : ∀ i < n, ∀ k < n, p i = true -> p k = true -> f i = f k -> i = k) (hc : cn m q <= cn n p) :
  ∀ j < m, q j = true -> ∃ i < n, p i = true /\ f i = j := by
 intro j hj hq
 apply Classical.byContradiction
 intro hno
 have := cn_inj (n := n) (m := m) (p := p) (q := fun k => q k && !decide (k = j)) f (fun i hin hp => by
  obtain ⟨a, b⟩ := hf i hin hp
  refine ⟨a, ?_⟩
  have : f i ≠ j := fun e => hno ⟨i, hin, hp, e⟩
  simp [b, this]) hi
 rw [cn_del hj hq] at hc
 omega
theorem cn_all {n : Nat} {p q : Nat -> Bool} (h : ∀ i < n, p i = true -> q i = true) (hc : cn n q <= cn n p) : ∀ i < n, q i = true -> p i = true := by
 intro i hi hq
 obtain ⟨k, _, hp, e⟩ := cn_onto id (fun i hi hp => ⟨hi, h i hi hp⟩) (fun i _ k _ _ _ e => e) hc i hi hq
 cases e
 exact hp
section
variable {n N : Nat} {E : Nat -> Nat -> Prop} {L : Nat -> Int} {A B : Nat -> Bool}
structure Mt (n N : Nat) (E : Nat -> Nat -> Prop) (L : Nat -> Int) : Prop where
 ed : ∀ i < n, L i = -1 \/ ∃ j < N, L i = (j : Int) /\ E i j
 inj : ∀ i < n, ∀ k < n, L i = L k -> 0 <= L i -> i = k
def mt (L : Nat -> Int) (i : Nat) : Bool := decide (0 <= L i)
def Cov (n N : Nat) (E : Nat -> Nat -> Prop) (A B : Nat -> Bool) : Prop := ∀ i < n, ∀ j < N, E i j -> A i = true \/ B j = true
theorem Mt.at (h : Mt n N E L) {i : Nat} (hi : i < n) (hp : 0 <= L i) : (L i).toNat < N /\ E i (L i).toNat := by
 rcases h.ed i hi with e | ⟨j, hj, e, he⟩
 ·omega
 ·rw [e]; exact ⟨hj, he⟩
theorem Mt.part (hM : Mt n N E L) (hC : Cov n N E A B) : cn n (fun i => mt L i && !A i) <= cn N B := by
 refine cn_inj (fun i => (L i).toNat) (fun i hi h => ?_) (fun i hi k hk h1 h2 e => ?_)
 ·simp only [mt, Bool.and_eq_true, decide_eq_true_eq, Bool.not_eq_true'] at h
  obtain ⟨h1, h2⟩ := hM.at hi h.1
  refine ⟨h1, ?_⟩
  rcases hC i hi _ h1 h2 with a | b
  ·rw [h.2] at a; cases a
  ·exact b
 ·simp only [mt, Bool.and_eq_true, decide_eq_true_eq] at h1 h2
  exact hM.inj i hi k hk (by omega) h1.1
theorem weak (hM : Mt n N E L) (hC : Cov n N E A B) : cn n (mt L) <= cn n A + cn N B := by
 rw [cn_split n (mt L) A]
 have h1 : cn n (fun i => mt L i && A i) <= cn n A := cn_mono fun i _ h => by simp at h; exact h.2
 have h2 := hM.part hC
 omega
def Mx (n N : Nat) (E : Nat -> Nat -> Prop) (L : Nat -> Int) : Prop := Mt n N E L /\ ∃ A B, Cov n N E A B /\ cn n A + cn N B <= cn n (mt L)
theorem Mx.max (h : Mx n N E L) {L' : Nat -> Int} (h' : Mt n N E L') : cn n (mt L') <= cn n (mt L) := by
 obtain ⟨_, A, B, hC, hc⟩ := h
 exact Nat.le_trans (weak h' hC) hc
def flip (L : Nat -> Int) (i k : Nat) : Nat -> Int := fun l => if l = i then L k else if l = k then -1 else L l
def Grown (n N : Nat) (E : Nat -> Nat -> Prop) (L : Nat -> Int) : List Nat -> Prop
 | [] => True
 | k :: l => Grown n N E L l /\ k < n /\ k ∉ l /\ (L k = -1 \/ ∃ i ∈ l, ∃ j < N, E i j /\ L k = (j : Int))
theorem Grown.lt {l : List Nat} (h : Grown n N E L l) : ∀ i ∈ l, i < n := by
 induction l with
 | nil => intro i hi; cases hi
 | cons k l ih =>
  intro i hi
  rcases List.mem_cons.1 hi with rfl | hi
  ·exact h.2.1
  ·exact ih h.1 i hi
theorem Grown.free {l : List Nat} (hg : Grown n N E L l) (hM : Mt n N E L) : ∀ i ∈ l, ∃ L', Mt n N E L' /\ cn n (mt L') = cn n (mt L) /\ L' i = -1 /\ (∀ k < n, k ∉ l -> L' k = L k) /\ ∀ k < n, 0 <= L' k -> ∃ k' < n, L k' = L' k := by
 induction l with
 | nil => intro i hi; cases hi
 | cons k l ih =>
  obtain ⟨hg1, hk, hkl, hr⟩ := hg
  intro i hi
  rcases List.mem_cons.1 hi with rfl | hi
  ·rcases hr with h | ⟨p, hp, j, hj, he, hL⟩
   ·exact ⟨L, hM, rfl, h, fun _ _ _ => rfl, fun k hk _ => ⟨k, hk, rfl⟩⟩
   ·obtain ⟨L', hM', hc, hf, hsame, him⟩ := ih hg1 p hp
    have hpn := hg1.lt p hp
    have hne : p ≠ i := fun e => hkl (e ▸ hp)
    have hi' : L' i = (j : Int) := by rw [hsame i hk hkl, hL]
    refine ⟨flip L' p i, ⟨fun a ha => ?_, fun a ha b hb e h0 => ?_⟩, ?_, ?_, fun a ha hal => ?_, fun a ha h0 => ?_⟩
    ·unfold flip
     by_cases h1 : a = p
     ·subst h1; rw [if_pos rfl]; exact Or.inr ⟨j, hj, hi', he⟩
     ·rw [if_neg h1]
      by_cases h2 : a = i
      ·rw [if_pos h2]; exact Or.inl rfl
      ·rw [if_neg h2]; exact hM'.ed a ha
    ·unfold flip at e h0
     by_cases h1 : a = p
     ·by_cases h2 : b = p
      ·omega
      ·rw [if_pos h1, if_neg h2] at e
       by_cases h3 : b = i
       ·rw [if_pos h3] at e; omega
       ·rw [if_neg h3] at e
        have := hM'.inj i hk b hb e (by omega)
        omega
     ·rw [if_neg h1] at e h0
      by_cases h4 : a = i
      ·rw [if_pos h4] at h0; omega
      ·rw [if_neg h4] at e h0
       by_cases h2 : b = p
       ·rw [if_pos h2] at e
        have := hM'.inj a ha i hk e h0
        omega
       ·rw [if_neg h2] at e
        by_cases h3 : b = i
        ·rw [if_pos h3] at e; omega
        ·rw [if_neg h3] at e
         exact hM'.inj a ha b hb e h0
    ·rw [<- hc]
     have e1 := cn_del (n := n) (k := i) (p := mt L') hk (by simp [mt, hi'])
     have e2 := cn_del (n := n) (k := p) (p := mt (flip L' p i)) hpn (by simp [mt, flip, hi'])
     rw [e1, e2]
     congr 1
     refine cn_congr fun a ha => ?_
     unfold mt flip
     by_cases h1 : a = p
     ·subst h1; simp [hf]
     ·by_cases h2 : a = i
      ·subst h2; simp [h1]
      ·simp [h1, h2]
    ·unfold flip; rw [if_neg (Ne.symm hne), if_pos rfl]
    ·unfold flip
     have h1 : a ≠ p := fun e => hal (by rw [e]; exact List.mem_cons_of_mem _ hp)
     have h2 : a ≠ i := fun e => hal (by rw [e]; exact List.mem_cons_self ..)
     rw [if_neg h1, if_neg h2]
     exact hsame a ha fun h => hal (List.mem_cons_of_mem _ h)
    ·unfold flip at h0 ⊢
     by_cases h1 : a = p
     ·rw [if_pos h1] at h0 ⊢
      exact him i hk h0
     ·rw [if_neg h1] at h0 ⊢
      by_cases h2 : a = i
      ·rw [if_pos h2] at h0; omega
      ·rw [if_neg h2] at h0 ⊢
       exact him a ha h0
  ·obtain ⟨L', hM', hc, hf, hsame, him⟩ := ih hg1 i hi
   exact ⟨L', hM', hc, hf, fun a ha hal => hsame a ha fun h => hal (List.mem_cons_of_mem _ h), him⟩
structure Loose (n N : Nat) (E : Nat -> Nat -> Prop) (L : Nat -> Int) (l : List Nat) : Prop where
 gr : Grown n N E L l
 un : ∀ i < n, L i = -1 -> i ∈ l
 cl : ∀ i ∈ l, ∀ j < N, E i j -> ∀ k < n, L k = (j : Int) -> k ∈ l
open Classical in
noncomputable def nbB (N : Nat) (E : Nat -> Nat -> Prop) (l : List Nat) (j : Nat) : Bool := decide (∃ i ∈ l, E i j)
open Classical in
theorem nbB_iff {l : List Nat} {j : Nat} : nbB N E l j = true ↔ ∃ i ∈ l, E i j := by unfold nbB; exact decide_eq_true_iff
theorem Loose.nb {l : List Nat} (h : Loose n N E L l) (hX : Mx n N E L) : ∀ i ∈ l, ∀ j < N, E i j -> ∃ k < n, L k = (j : Int) := by
 intro i hi j hj he
 obtain ⟨L', hM', hc, hf, hsame, him⟩ := h.gr.free hX.1 i hi
 have hin := h.gr.lt i hi
 apply Classical.byContradiction
 intro hno
 have hnj : ∀ k < n, L' k ≠ (j : Int) := fun k hk e => by
  obtain ⟨k', hk', e'⟩ := him k hk (by omega)
  exact hno ⟨k', hk', by omega⟩
 have hM2 : Mt n N E (fun l => if l = i then (j : Int) else L' l) := by
  refine ⟨fun a ha => ?_, fun a ha b hb e h0 => ?_⟩
  ·by_cases h1 : a = i
   ·subst h1; rw [if_pos rfl]; exact Or.inr ⟨j, hj, rfl, he⟩
   ·rw [if_neg h1]; exact hM'.ed a ha
  ·by_cases h1 : a = i
   ·by_cases h2 : b = i
    ·omega
    ·rw [if_pos h1, if_neg h2] at e
     exact absurd e.symm (hnj b hb)
   ·rw [if_neg h1] at e h0
    by_cases h2 : b = i
    ·rw [if_pos h2] at e
     exact absurd e (hnj a ha)
    ·rw [if_neg h2] at e
     exact hM'.inj a ha b hb e h0
 have h2 := hX.max hM2
 have h3 := cn_add (n := n) (k := i) (p := mt L') (q := mt fun l => if l = i then (j : Int) else L' l) hin (by simp [mt, hf]) (fun a ha => by
  unfold mt
  by_cases h1 : a = i
  ·subst h1; simp
  ·simp [h1])
 omega
theorem Loose.cov {l : List Nat} (h : Loose n N E L l) : Cov n N E (fun i => !decide (i ∈ l)) (nbB N E l) := by
 intro i hi j hj he
 by_cases hl : i ∈ l
 ·refine Or.inr ?_
  exact nbB_iff.2 ⟨i, hl, he⟩
 ·exact Or.inl (by simp [hl])
theorem Loose.small {l : List Nat} (h : Loose n N E L l) (hX : Mx n N E L) : cn n (fun i => !decide (i ∈ l)) + cn N (nbB N E l) = cn n (mt L) := by
 refine Nat.le_antisymm ?_ (weak hX.1 h.cov)
 rw [cn_split n (mt L) fun i => !decide (i ∈ l)]
 have h1 : cn n (fun i => !decide (i ∈ l)) <= cn n fun i => mt L i && !decide (i ∈ l) := cn_mono fun i hi e => by
  simp only [Bool.not_eq_true', decide_eq_false_iff_not] at e
  have : L i ≠ -1 := fun e' => e (h.un i hi e')
  rcases hX.1.ed i hi with h' | ⟨j, _, h', _⟩
  ·exact absurd h' this
  ·simp [mt, h', e]
 have hch : ∀ j, ∃ k, j < N -> nbB N E l j = true -> k < n /\ L k = (j : Int) := by
  intro j
  by_cases hj : j < N /\ nbB N E l j = true
  ·obtain ⟨hj, hb⟩ := hj
   obtain ⟨i, hi, he⟩ := nbB_iff.1 hb
   obtain ⟨k, hk, e⟩ := h.nb hX i hi j hj he
   exact ⟨k, fun _ _ => ⟨hk, e⟩⟩
  ·exact ⟨0, fun a b => absurd ⟨a, b⟩ hj⟩
 obtain ⟨f, hf⟩ := Classical.axiomOfChoice hch
 have h2 : cn N (nbB N E l) <= cn n fun i => mt L i && !(!decide (i ∈ l)) := by
  refine cn_inj f (fun j hj hb => ?_) (fun j hj k hk h1 h2 e => ?_)
  ·obtain ⟨a, b⟩ := hf j hj hb
   refine ⟨a, ?_⟩
   obtain ⟨i, hi, he⟩ := nbB_iff.1 hb
   have := h.cl i hi j hj he _ a b
   simp [mt, b, this]
  ·have e1 := (hf j hj h1).2
   have e2 := (hf k hk h2).2
   rw [e, e2] at e1
   omega
 omega
end
end Go.Mg
namespace Go.Mg
set_option linter.all false
structure Sst where
 L : List Int
 R : List Int
 Se : List Bool
def augL (rec : Sst -> Nat -> Bool × Sst) (F : List Bool) (i : Nat) : List Nat -> Sst -> Bool × Sst
 | [], s => (false, s)
 | j :: l, s =>
  if (s.Se.getD j true || F.getD j true) = true then augL rec F i l s else
  if s.R.getD j (-1) < 0 then (true, ⟨s.L.set i j, s.R.set j i, s.Se.set j true⟩) else
  if (rec ⟨s.L, s.R, s.Se.set j true⟩ (s.R.getD j (-1)).toNat).1 = true then
   (true, ⟨(rec ⟨s.L, s.R, s.Se.set j true⟩ (s.R.getD j (-1)).toNat).2.L.set i j, (rec ⟨s.L, s.R, s.Se.set j true⟩ (s.R.getD j (-1)).toNat).2.R.set j i, (rec ⟨s.L, s.R, s.Se.set j true⟩ (s.R.getD j (-1)).toNat).2.Se⟩)
  else augL rec F i l (rec ⟨s.L, s.R, s.Se.set j true⟩ (s.R.getD j (-1)).toNat).2
def augF (g : List (List Nat)) (F : List Bool) : Nat -> Sst -> Nat -> Bool × Sst
 | 0, s, _ => (false, s)
 | m + 1, s, i => augL (augF g F m) F i (g.getD i []) s
def gi (l : List Int) (i : Nat) : Int := l.getD i (-1)
def gb' (l : List Bool) (i : Nat) : Bool := l.getD i true
def Eg (g : List (List Nat)) (i j : Nat) : Prop := j ∈ g.getD i []
theorem gi_set (l : List Int) (i : Nat) (x : Int) (k : Nat) : gi (l.set i x) k = if k = i /\ i < l.length then x else gi l k := by
 unfold gi
 rw [List.getD_eq_getElem?_getD, List.getD_eq_getElem?_getD, List.getElem?_set]
 by_cases h : i = k
 ·subst h
  by_cases hl : i < l.length
  ·simp [hl]
  ·simp [hl, List.getElem?_eq_none (Nat.le_of_not_lt hl)]
 ·simp [h, Ne.symm h]
theorem gb_set (l : List Bool) (i : Nat) (x : Bool) (k : Nat) : gb' (l.set i x) k = if k = i /\ i < l.length then x else gb' l k := by
 unfold gb'
 rw [List.getD_eq_getElem?_getD, List.getD_eq_getElem?_getD, List.getElem?_set]
 by_cases h : i = k
 ·subst h
  by_cases hl : i < l.length
  ·simp [hl]
  ·simp [hl, List.getElem?_eq_none (Nat.le_of_not_lt hl)]
 ·simp [h, Ne.symm h]
def uns (Se : List Bool) : Nat := cn Se.length fun j => !gb' Se j
theorem uns_mono {a b : List Bool} (hl : b.length = a.length) (h : ∀ j, gb' a j = true -> gb' b j = true) : uns b <= uns a := by
 unfold uns
 rw [hl]
 refine cn_mono fun j _ hj => ?_
 cases hx : gb' a j with
 | false => rfl
 | true => rw [h j hx] at hj; cases hj
theorem uns_set {a : List Bool} {j : Nat} (hj : j < a.length) (h : gb' a j = false) : uns (a.set j true) < uns a := by
 unfold uns
 rw [List.length_set, cn_del (p := fun j => !gb' a j) (k := j) hj (by simp only [h]; rfl)]
 refine Nat.lt_succ_of_le (cn_mono fun k _ hk => ?_)
 rw [gb_set] at hk
 by_cases e : k = j
 ·subst e; rw [if_pos ⟨rfl, hj⟩] at hk; cases hk
 ·rw [if_neg (fun h => e h.1)] at hk; simp [hk, e]
structure Len (n N : Nat) (s : Sst) : Prop where
 L : s.L.length = n
 R : s.R.length = N
 S : s.Se.length = N
structure Inv (n N : Nat) (E : Nat -> Nat -> Prop) (L R : Nat -> Int) : Prop where
 l : ∀ i < n, L i = -1 \/ ∃ j < N, L i = (j : Int) /\ E i j /\ R j = (i : Int)
 r : ∀ j < N, R j = -1 \/ ∃ i < n, R j = (i : Int) /\ L i = (j : Int)
theorem Inv.mt {n N : Nat} {E : Nat -> Nat -> Prop} {L R : Nat -> Int} (h : Inv n N E L R) : Mt n N E L := by
 refine ⟨fun i hi => ?_, fun i hi k hk e h0 => ?_⟩
 ·rcases h.l i hi with a | ⟨j, hj, a, b, _⟩
  ·exact Or.inl a
  ·exact Or.inr ⟨j, hj, a, b⟩
 ·rcases h.l i hi with a | ⟨j, hj, a, b, c⟩
  ·omega
  ·rcases h.l k hk with a' | ⟨j', hj', a', b', c'⟩
   ·omega
   ·have : j = j' := by omega
    subst this
    omega
structure AugN (n N : Nat) (E : Nat -> Nat -> Prop) (F : List Bool) (s s' : Sst) : Prop where
 L : s'.L = s.L
 R : s'.R = s.R
 len : s'.Se.length = s.Se.length
 mono : ∀ j, gb' s.Se j = true -> gb' s'.Se j = true
 nw : ∀ j < N, gb' s'.Se j = true -> gb' s.Se j = false -> gb' F j = false /\ ∃ k < n, gi s.R j = (k : Int) /\ ∀ j' < N, E k j' -> gb' s'.Se j' = true \/ gb' F j' = true
structure AugY (n N : Nat) (E : Nat -> Nat -> Prop) (F : List Bool) (i : Nat) (s s' : Sst) : Prop where
 len : Len n N s'
 keepL : ∀ l < n, l ≠ i -> (gi s.L l = -1 \/ ∃ j : Nat, gi s.L l = (j : Int) /\ (gb' s.Se j = true \/ gb' F j = true)) -> gi s'.L l = gi s.L l
 keepR : ∀ j < N, (gb' s.Se j = true \/ gb' F j = true) -> gi s'.R j = gi s.R j
 at_ : ∃ j < N, gi s'.L i = (j : Int) /\ E i j /\ gb' s.Se j = false /\ gb' F j = false
 sm : ∀ l < n, l ≠ i -> (0 <= gi s'.L l ↔ 0 <= gi s.L l)
 l : ∀ l < n, gi s'.L l = -1 \/ ∃ j < N, gi s'.L l = (j : Int) /\ E l j /\ gi s'.R j = (l : Int)
 r : ∀ j < N, (j : Int) ≠ gi s.L i -> gi s'.R j = -1 \/ ∃ k < n, gi s'.R j = (k : Int) /\ gi s'.L k = (j : Int)
theorem augL_ok {n N m : Nat} {E : Nat -> Nat -> Prop} {F : List Bool} {rec : Sst -> Nat -> Bool × Sst} {i : Nat} (hrec : ∀ (s : Sst) (k : Nat), uns s.Se < m -> Len n N s -> Inv n N E (gi s.L) (gi s.R) -> k < n -> (∃ j < N, gi s.L k = (j : Int) /\ gb' s.Se j = true) →
  ((rec s k).1 = true -> AugY n N E F k s (rec s k).2) ∧
  ((rec s k).1 = false -> AugN n N E F s (rec s k).2 /\ ∀ j < N, E k j -> gb' (rec s k).2.Se j = true \/ gb' F j = true))
  (l : List Nat) (hl : ∀ j ∈ l, j < N /\ E i j) (hi : i < n) (s : Sst) (hu : uns s.Se <= m) (hs : Len n N s) (hI : Inv n N E (gi s.L) (gi s.R)) (h0 : gi s.L i = -1 \/ ∃ j < N, gi s.L i = (j : Int) /\ gb' s.Se j = true) :
  ((augL rec F i l s).1 = true -> AugY n N E F i s (augL rec F i l s).2) ∧
  ((augL rec F i l s).1 = false -> AugN n N E F s (augL rec F i l s).2 /\ ∀ j ∈ l, gb' (augL rec F i l s).2.Se j = true \/ gb' F j = true) := by
 induction l generalizing s with
 | nil =>
  refine ⟨fun h => by simp [augL] at h, fun _ => ⟨⟨rfl, rfl, rfl, fun _ h => h, fun j _ h h' => ?_⟩, fun j hj => by cases hj⟩⟩
  rw [augL] at h
  rw [h] at h'; cases h'
 | cons j l ih =>
  obtain ⟨hjN, hE⟩ := hl j (List.mem_cons_self ..)
  have hl' : ∀ j ∈ l, j < N /\ E i j := fun a ha => hl a (List.mem_cons_of_mem _ ha)
  unfold augL
  by_cases hsk : (s.Se.getD j true || F.getD j true) = true
  ·rw [if_pos hsk]
   obtain ⟨a, b⟩ := ih hl' s hu hs hI h0
   refine ⟨a, fun h => ?_⟩
   obtain ⟨b1, b2⟩ := b h
   refine ⟨b1, fun k hk => ?_⟩
   rcases List.mem_cons.1 hk with rfl | hk
   ·rw [Bool.or_eq_true] at hsk
    rcases hsk with h' | h'
    ·exact Or.inl (b1.mono k h')
    ·exact Or.inr h'
   ·exact b2 k hk
  ·rw [if_neg hsk]
   have hsk1 : gb' s.Se j = false := by unfold gb'; revert hsk; cases s.Se.getD j true <;> simp
   have hsk2 : gb' F j = false := by unfold gb'; revert hsk; cases F.getD j true <;> simp
   have hSe : ∀ k, gb' (s.Se.set j true) k = if k = j then true else gb' s.Se k := fun k => by
    rw [gb_set, hs.S]; simp [hjN]
   have h0j : gi s.L i ≠ (j : Int) := by
    rcases h0 with h | ⟨k, _, h, h'⟩
    ·omega
    ·intro e
     have : k = j := by omega
     subst this; rw [hsk1] at h'; cases h'
   by_cases hfr : s.R.getD j (-1) < 0
   ·rw [if_pos hfr]
    refine ⟨fun _ => ?_, fun h => by simp at h⟩
    have hRj : gi s.R j = -1 := by
     rcases hI.r j hjN with h | ⟨k, _, h, _⟩
     ·exact h
     ·unfold gi at h; omega
    have hL' : ∀ k, gi (s.L.set i (j : Int)) k = if k = i then (j : Int) else gi s.L k := fun k => by rw [gi_set, hs.L]; simp [hi]
    have hR' : ∀ k, gi (s.R.set j (i : Int)) k = if k = j then (i : Int) else gi s.R k := fun k => by rw [gi_set, hs.R]; simp [hjN]
    refine ⟨⟨by simp [hs.L], by simp [hs.R], by simp [hs.S]⟩, fun a ha hne _ => by simp only [hL', if_neg hne], fun a ha hse => ?_, ⟨j, hjN, by simp [hL'], hE, hsk1, hsk2⟩, fun a ha hne => by simp only [hL', if_neg hne], fun a ha => ?_, fun a ha hne => ?_⟩
    ·have : a ≠ j := fun e => by subst e; rw [hsk1, hsk2] at hse; simp at hse
     simp only [hR', if_neg this]
    ·simp only [hL', hR']
     by_cases h1 : a = i
     ·subst h1; rw [if_pos rfl]; exact Or.inr ⟨j, hjN, rfl, hE, by simp⟩
     ·rw [if_neg h1]
      rcases hI.l a ha with h | ⟨b, hb, e1, e2, e3⟩
      ·exact Or.inl h
      ·refine Or.inr ⟨b, hb, e1, e2, ?_⟩
       have : b ≠ j := fun e => by subst e; omega
       rw [if_neg this]; exact e3
    ·simp only [hL', hR']
     by_cases h1 : a = j
     ·subst h1; rw [if_pos rfl]; exact Or.inr ⟨i, hi, rfl, by simp⟩
     ·rw [if_neg h1]
      rcases hI.r a ha with h | ⟨b, hb, e1, e2⟩
      ·exact Or.inl h
      ·refine Or.inr ⟨b, hb, e1, ?_⟩
       have : b ≠ i := fun e => by subst e; omega
       rw [if_neg this]; exact e2
   ·rw [if_neg hfr]
    obtain ⟨k, hk, hRk, hLk⟩ : ∃ k < n, gi s.R j = (k : Int) /\ gi s.L k = (j : Int) := by
     rcases hI.r j hjN with h | h
     ·unfold gi at h; omega
     ·exact h
    have hkN : (s.R.getD j (-1)).toNat = k := by unfold gi at hRk; omega
    have hki : k ≠ i := fun e => by subst e; exact h0j hLk
    rw [hkN]
    have hs1 : Len n N ⟨s.L, s.R, s.Se.set j true⟩ := ⟨hs.L, hs.R, by simp [hs.S]⟩
    obtain ⟨hY, hN⟩ := hrec ⟨s.L, s.R, s.Se.set j true⟩ k (Nat.lt_of_lt_of_le (uns_set (by rw [hs.S]; exact hjN) hsk1) hu) hs1 hI hk ⟨j, hjN, hLk, by simp [hSe]⟩
    generalize rec ⟨s.L, s.R, s.Se.set j true⟩ k = q at hY hN ⊢
    obtain ⟨b, s2⟩ := q
    simp only at hY hN ⊢
    cases b with
    | true =>
     rw [if_pos rfl]
     refine ⟨fun _ => ?_, fun h => by simp at h⟩
     have y := hY rfl
     have hL' : ∀ a, gi (s2.L.set i (j : Int)) a = if a = i then (j : Int) else gi s2.L a := fun a => by rw [gi_set, y.len.L]; simp [hi]
     have hR' : ∀ a, gi (s2.R.set j (i : Int)) a = if a = j then (i : Int) else gi s2.R a := fun a => by rw [gi_set, y.len.R]; simp [hjN]
     have kL := y.keepL
     have kR := y.keepR
     have yr := y.r
     simp only [hSe] at kL kR
     -- nobody but the one who finds has j
     have hj2 : ∀ a < n, gi s2.L a ≠ (j : Int) := fun a ha e => by
      by_cases h1 : a = k
      ·subst h1
       obtain ⟨b, hb, e1, _, e3, _⟩ := y.at_
       have : b = j := by omega
       subst this
       simp only [hSe, if_pos rfl] at e3
       cases e3
      ·rcases y.l a ha with h | ⟨b, hb, e1, _, e3⟩
       ·omega
       ·have : b = j := by omega
        subst this
        have := kR b hjN (Or.inl (by simp))
        omega
     -- i has what it had
     have hi2 : gi s2.L i = gi s.L i := kL i hi (Ne.symm hki) (by
      rcases h0 with h | ⟨a, _, h, h'⟩
      ·exact Or.inl h
      ·exact Or.inr ⟨a, h, Or.inl (by by_cases e : a = j <;> simp [e, h'])⟩)
     refine ⟨⟨by simp [y.len.L], by simp [y.len.R], y.len.S⟩, fun a ha hne h => ?_, fun a ha hse => ?_, ⟨j, hjN, by simp [hL'], hE, hsk1, hsk2⟩, fun a ha hne => ?_, fun a ha => ?_, fun a ha hne => ?_⟩
     ·simp only [hL', if_neg hne]
      by_cases h1 : a = k
      ·subst h1
       rcases h with h | ⟨b, hb, h'⟩
       ·omega
       ·have : b = j := by omega
        subst this
        rw [hsk1, hsk2] at h'; simp at h'
      ·refine kL a ha h1 ?_
       rcases h with h | ⟨b, hb, h'⟩
       ·exact Or.inl h
       ·refine Or.inr ⟨b, hb, ?_⟩
        rcases h' with h' | h'
        ·exact Or.inl (by by_cases e : b = j <;> simp [e, h'])
        ·exact Or.inr h'
     ·have h1 : a ≠ j := fun e => by subst e; rw [hsk1, hsk2] at hse; simp at hse
      simp only [hR', if_neg h1]
      refine kR a ha ?_
      rw [if_neg h1]; exact hse
     ·simp only [hL', if_neg hne]
      by_cases h1 : a = k
      ·subst h1
       obtain ⟨b, hb, e1, _⟩ := y.at_
       omega
      ·exact y.sm a ha h1
     ·simp only [hL', hR']
      by_cases h1 : a = i
      ·subst h1; rw [if_pos rfl]; exact Or.inr ⟨j, hjN, rfl, hE, by simp⟩
      ·rw [if_neg h1]
       rcases y.l a ha with h | ⟨b, hb, e1, e2, e3⟩
       ·exact Or.inl h
       ·refine Or.inr ⟨b, hb, e1, e2, ?_⟩
        have : b ≠ j := fun e => by subst e; exact hj2 a ha e1
        rw [if_neg this]; exact e3
     ·simp only [hL', hR']
      by_cases h1 : a = j
      ·subst h1; rw [if_pos rfl]; exact Or.inr ⟨i, hi, rfl, by simp⟩
      ·rw [if_neg h1]
       rcases yr a ha (by simp only; omega) with h | ⟨b, hb, e1, e2⟩
       ·exact Or.inl h
       ·refine Or.inr ⟨b, hb, e1, ?_⟩
        have : b ≠ i := fun e => by subst e; rw [hi2] at e2; exact hne e2.symm
        rw [if_neg this]; exact e2
    | false =>
     rw [if_neg (by simp)]
     obtain ⟨hn, hc⟩ := hN rfl
     obtain ⟨nL, nR, nlen, nmono, nnw⟩ := hn
     simp only [hSe] at nL nR nlen nmono nnw
     have hs2 : Len n N s2 := ⟨by rw [nL, hs.L], by rw [nR, hs.R], by rw [nlen]; simp [hs.S]⟩
     have mono2 : ∀ a, gb' s.Se a = true -> gb' s2.Se a = true := fun a ha => nmono a (by by_cases e : a = j <;> simp [e, ha])
     have hj2 : gb' s2.Se j = true := nmono j (by simp)
     obtain ⟨a, b⟩ := ih hl' s2 (Nat.le_trans (uns_mono (by rw [nlen]; simp) mono2) hu) hs2 (by rw [nL, nR]; exact hI) (by
      rw [nL]
      rcases h0 with h | ⟨a, h1, h2, h3⟩
      ·exact Or.inl h
      ·exact Or.inr ⟨a, h1, h2, mono2 a h3⟩)
     refine ⟨fun h => ?_, fun h => ?_⟩
     ·have y := a h
      refine ⟨y.len, fun c hc' hne hh => ?_, fun c hc' hh => ?_, ?_, fun c hc' hne => ?_, y.l, fun c hc' hne => ?_⟩
      ·have := y.keepL c hc' hne (by
        rw [nL]
        rcases hh with hh | ⟨d, hd, hh⟩
        ·exact Or.inl hh
        ·exact Or.inr ⟨d, hd, hh.imp (mono2 d) id⟩)
       rw [this, nL]
      ·rw [y.keepR c hc' (hh.imp (mono2 c) id), nR]
      ·obtain ⟨d, hd, e1, e2, e3, e4⟩ := y.at_
       refine ⟨d, hd, e1, e2, ?_, e4⟩
       cases hx : gb' s.Se d with
       | false => rfl
       | true => rw [mono2 d hx] at e3; cases e3
      ·rw [y.sm c hc' hne, nL]
      ·exact y.r c hc' (by rw [nL]; exact hne)
     ·obtain ⟨b1, b2⟩ := b h
      refine ⟨⟨b1.L.trans nL, b1.R.trans nR, by rw [b1.len, nlen]; simp, fun c hc' => b1.mono c (mono2 c hc'), fun c hcN h1 h2 => ?_⟩, fun c hc' => ?_⟩
      ·cases hx : gb' s2.Se c with
       | false =>
        obtain ⟨d1, d, hd, e1, e2⟩ := b1.nw c hcN h1 hx
        exact ⟨d1, d, hd, by rw [<- nR]; exact e1, e2⟩
       | true =>
        by_cases hcj : c = j
        ·subst hcj
         exact ⟨hsk2, k, hk, hRk, fun j' hj' he => (hc j' hj' he).imp (b1.mono j') id⟩
        ·obtain ⟨d1, d, hd, e1, e2⟩ := nnw c hcN hx (by rw [if_neg hcj]; exact h2)
         exact ⟨d1, d, hd, e1, fun j' hj' he => (e2 j' hj' he).imp (b1.mono j') id⟩
      ·rcases List.mem_cons.1 hc' with rfl | hc'
       ·exact Or.inl (b1.mono c hj2)
       ·exact b2 c hc'
theorem augF_ok {n N : Nat} {g : List (List Nat)} {F : List Bool} (hg : ∀ i, ∀ j ∈ g.getD i [], j < N) (m : Nat) : ∀ (s : Sst) (i : Nat), uns s.Se < m -> Len n N s -> Inv n N (Eg g) (gi s.L) (gi s.R) -> i < n -> (gi s.L i = -1 \/ ∃ j < N, gi s.L i = (j : Int) /\ gb' s.Se j = true) →
  ((augF g F m s i).1 = true -> AugY n N (Eg g) F i s (augF g F m s i).2) ∧
  ((augF g F m s i).1 = false -> AugN n N (Eg g) F s (augF g F m s i).2 /\ ∀ j < N, Eg g i j -> gb' (augF g F m s i).2.Se j = true \/ gb' F j = true) := by
 induction m with
 | zero => intro s i h; omega
 | succ m ih =>
  intro s i hu hs hI hi h0
  unfold augF
  obtain ⟨a, b⟩ := augL_ok (E := Eg g) (fun s k hu hs hI hk ⟨j, hj, e, e'⟩ => ih s k hu hs hI hk (Or.inr ⟨j, hj, e, e'⟩)) (g.getD i []) (fun j hj => ⟨hg i j hj, hj⟩) hi s (by omega) hs hI h0
  exact ⟨a, fun h => ⟨(b h).1, fun j hj he => (b h).2 j he⟩⟩
end Go.Mg
namespace Go.Mg
set_option linter.all false
theorem Mt.sub {n m N : Nat} {E : Nat -> Nat -> Prop} {L : Nat -> Int} (h : Mt n N E L) (hm : m <= n) : Mt m N E L :=
 ⟨fun i hi => h.ed i (by omega), fun i hi k hk => h.inj i (by omega) k (by omega)⟩
theorem gb_rep (N j : Nat) (hj : j < N) : gb' (List.replicate N false) j = false := by
 unfold gb'; rw [List.getD_eq_getElem?_getD, List.getElem?_replicate, if_pos hj]; rfl
theorem gi_rep (n i : Nat) : gi (List.replicate n (-1)) i = -1 := by
 unfold gi; rw [List.getD_eq_getElem?_getD, List.getElem?_replicate]; split <;> rfl
theorem uns_rep (N : Nat) : uns (List.replicate N false) <= N := by
 unfold uns; have := cn_le (List.replicate N false).length (fun j => !gb' (List.replicate N false) j); simpa using this
structure MaxS (n N : Nat) (E : Nat -> Nat -> Prop) (k : Nat) (L R : List Int) : Prop where
 lL : L.length = n
 lR : R.length = N
 inv : Inv n N E (gi L) (gi R)
 out : ∀ i, k <= i -> i < n -> gi L i = -1
 mx : Mx k N E (gi L)
theorem MaxS.start (n N : Nat) (E : Nat -> Nat -> Prop) : MaxS n N E 0 (List.replicate n (-1)) (List.replicate N (-1)) := by
 refine ⟨by simp, by simp, ⟨fun i _ => .inl (gi_rep _ _), fun j _ => .inl (gi_rep _ _)⟩, fun i _ _ => gi_rep _ _, ⟨fun i hi => absurd hi (by omega), fun i hi => absurd hi (by omega)⟩, fun _ => false, fun _ => false, fun i hi => absurd hi (by omega), ?_⟩
 rw [cn_false, cn_false]; exact Nat.zero_le _
theorem MaxS.yes {n N : Nat} {E : Nat -> Nat -> Prop} {k : Nat} {L R : List Int} (h : MaxS n N E k L R) (hk : k < n) {s' : Sst} (y : AugY n N E (List.replicate N false) k ⟨L, R, List.replicate N false⟩ s') : MaxS n N E (k + 1) s'.L s'.R := by
 have hLk : gi L k = -1 := h.out k (Nat.le_refl _) hk
 have hI : Inv n N E (gi s'.L) (gi s'.R) := ⟨y.l, fun j hj => y.r j hj (by simp only [hLk]; omega)⟩
 refine ⟨y.len.L, y.len.R, hI, fun i hi1 hi2 => ?_, hI.mt.sub (by omega), ?_⟩
 ·have := y.sm i hi2 (by omega)
  simp only [h.out i (by omega) hi2] at this
  rcases y.l i hi2 with e | ⟨j, _, e, _⟩
  ·exact e
  ·omega
 ·obtain ⟨hM, A, B, hC, hc⟩ := h.mx
  refine ⟨fun i => A i || decide (i = k), B, fun i hi j hj he => ?_, ?_⟩
  ·by_cases e : i = k
   ·left; simp [e]
   ·rcases hC i (by omega) j hj he with a | b
    ·left; simp [a]
    ·exact .inr b
  ·have e1 : cn (k + 1) (mt (gi s'.L)) = cn k (mt (gi L)) + 1 := by
    rw [cn_succ]
    obtain ⟨j, _, e, _⟩ := y.at_
    rw [if_pos (by simp only [mt, decide_eq_true_eq]; omega)]
    congr 1
    refine cn_congr fun i hi => ?_
    have := y.sm i (by omega) (by omega)
    simp only [mt]
    exact decide_eq_decide.2 this
   have e2 : cn (k + 1) (fun i => A i || decide (i = k)) <= cn k A + 1 := by
    rw [cn_succ]
    have : cn k (fun i => A i || decide (i = k)) = cn k A := cn_congr fun i hi => by
     have : i ≠ k := by omega
     simp [this]
    rw [this]; split <;> omega
   omega
theorem MaxS.no {n N : Nat} {E : Nat -> Nat -> Prop} {k : Nat} {L R : List Int} (h : MaxS n N E k L R) (hk : k < n) {s' : Sst} (y : AugN n N E (List.replicate N false) ⟨L, R, List.replicate N false⟩ s') (hcl : ∀ j < N, E k j -> gb' s'.Se j = true) : MaxS n N E (k + 1) L R := by
 have hLk : gi L k = -1 := h.out k (Nat.le_refl _) hk
 refine ⟨h.lL, h.lR, h.inv, fun i h1 h2 => h.out i (by omega) h2, h.inv.mt.sub (by omega), ?_⟩
 obtain ⟨hM, A, B, hC, hc⟩ := h.mx
 have nw : ∀ j < N, gb' s'.Se j = true -> ∃ a < k, gi R j = (a : Int) /\ gi L a = (j : Int) /\ ∀ j' < N, E a j' -> gb' s'.Se j' = true := by
  intro j hj hs
  obtain ⟨_, a, ha, h1, h2⟩ := y.nw j hj hs (gb_rep N j hj)
  have h3 : gi L a = (j : Int) := by
   rcases h.inv.r j hj with e | ⟨b, hb, e, e'⟩
   ·simp only at h1; omega
   ·simp only at h1
    have : a = b := by omega
    subst this; exact e'
  have hak : a < k := by
   apply Decidable.byContradiction
   intro hn
   have := h.out a (by omega) ha
   omega
  refine ⟨a, hak, h1, h3, fun j' hj' he => ?_⟩
  rcases h2 j' hj' he with e | e
  ·exact e
  ·rw [gb_rep N j' hj'] at e; cases e
 -- the partners of what was seen
 let K : Nat -> Bool := fun a => decide (0 <= gi L a) && gb' s'.Se (gi L a).toNat
 have hK : ∀ a < k, K a = true -> (gi L a).toNat < N /\ gi L a = ((gi L a).toNat : Int) /\ ∀ j' < N, E a j' -> gb' s'.Se j' = true := by
  intro a ha hka
  simp only [K, Bool.and_eq_true, decide_eq_true_eq] at hka
  obtain ⟨h0, h1⟩ := hka
  obtain ⟨h2, _⟩ := hM.at ha h0
  refine ⟨h2, by omega, ?_⟩
  obtain ⟨b, hb, e1, e2, e3⟩ := nw _ h2 h1
  have : a = b := h.inv.mt.inj a (by omega) b (by omega) (by rw [e2]; omega) h0
  subst this; exact e3
 refine ⟨fun i => decide (i < k) && (A i && !K i), fun j => B j || (decide (j < N) && gb' s'.Se j), fun i hi j hj he => ?_, ?_⟩
 ·by_cases e : i = k
  ·subst e; right; simp [hcl j hj he, hj]
  ·have hik : i < k := by omega
   by_cases hKi : K i = true
   ·right; simp [(hK i hik hKi).2.2 j hj he, hj]
   ·rcases hC i hik j hj he with a | b
    ·left; simp [a, hik]; simpa using hKi
    ·right; simp [b]
 ·have e1 : cn (k + 1) (mt (gi L)) = cn k (mt (gi L)) := by
   rw [cn_succ, if_neg (by simp [mt, hLk])]; rfl
  have e2 : cn (k + 1) (fun i => decide (i < k) && (A i && !K i)) = cn k fun i => A i && !K i := by
   rw [cn_succ, if_neg (by simp)]
   exact cn_congr fun i hi => by simp [hi]
  have e3 := cn_split k A K
  have e4 : cn N (fun j => B j || (decide (j < N) && gb' s'.Se j)) = cn N B + cn N (fun j => (decide (j < N) && gb' s'.Se j) && !B j) := cn_or _ _ _
  have e5 : cn N (fun j => (decide (j < N) && gb' s'.Se j) && !B j) <= cn k fun i => A i && K i := by
   refine cn_inj (fun j => (gi R j).toNat) (fun j hj hp => ?_) (fun j hj j' hj' hp hp' e => ?_)
   ·simp only [Bool.and_eq_true, decide_eq_true_eq, Bool.not_eq_true'] at hp
    obtain ⟨⟨_, hs⟩, hb⟩ := hp
    obtain ⟨a, ha, r1, r2, r3⟩ := nw j hj hs
    rw [r1, Int.toNat_natCast]
    refine ⟨ha, ?_⟩
    have hE : E a j := by
     have := (hM.at ha (by omega)).2
     rw [r2] at this; exact this
    have hA : A a = true := by
     rcases hC a ha j hj hE with x | x
     ·exact x
     ·rw [hb] at x; cases x
    simp only [Bool.and_eq_true, hA, true_and, K, r2, Int.toNat_natCast, hs, and_true, decide_eq_true_eq]
    omega
   ·simp only [Bool.and_eq_true, decide_eq_true_eq, Bool.not_eq_true'] at hp hp'
    obtain ⟨a, ha, r1, r2, _⟩ := nw j hj hp.1.2
    obtain ⟨a', ha', r1', r2', _⟩ := nw j' hj' hp'.1.2
    simp only [r1, r1', Int.toNat_natCast] at e
    subst e
    omega
  omega
theorem MaxS.step {n N : Nat} {g : List (List Nat)} (hg : ∀ i, ∀ j ∈ g.getD i [], j < N) {k : Nat} {L R : List Int} (h : MaxS n N (Eg g) k L R) (hk : k < n) (m : Nat) (hm : N < m) :
  MaxS n N (Eg g) (k + 1) (augF g (List.replicate N false) m ⟨L, R, List.replicate N false⟩ k).2.L (augF g (List.replicate N false) m ⟨L, R, List.replicate N false⟩ k).2.R := by
 have hu := uns_rep N
 obtain ⟨a, b⟩ := augF_ok (n := n) (F := List.replicate N false) hg m ⟨L, R, List.replicate N false⟩ k (by simp only; omega) ⟨h.lL, h.lR, by simp⟩ h.inv hk (.inl (h.out k (Nat.le_refl _) hk))
 cases e : (augF g (List.replicate N false) m ⟨L, R, List.replicate N false⟩ k).1 with
 | true => exact h.yes hk (a e)
 | false =>
  obtain ⟨c, d⟩ := b e
  rw [c.L, c.R]
  refine h.no hk c fun j hj he => ?_
  rcases d j hj he with x | x
  ·exact x
  ·rw [gb_rep N j hj] at x; cases x
end Go.Mg
namespace Go.Mg
set_option linter.all false
section
variable {n N : Nat} {g : List (List Nat)} {L R : Nat -> Int} {O : List Bool}
structure LooI (n N : Nat) (E : Nat -> Nat -> Prop) (L : Nat -> Int) (O : List Bool) (D Q : List Nat) : Prop where
 len : O.length = n
 is : ∀ i < n, O.getD i true = decide (i ∈ Q.reverse ++ D)
 gr : Grown n N E L (Q.reverse ++ D)
 cl : ∀ i ∈ D, ∀ j < N, E i j -> ∀ k < n, L k = (j : Int) -> k ∈ Q.reverse ++ D
theorem LooI.done {E : Nat -> Nat -> Prop} {D : List Nat} (h : LooI n N E L O D []) (un : ∀ i < n, L i = -1 -> i ∈ D) : Loose n N E L D /\ ∀ i < n, O.getD i true = decide (i ∈ D) :=
 ⟨⟨h.gr, un, h.cl⟩, h.is⟩
theorem rev_app (Q : List Nat) (k : Nat) (D : List Nat) : (Q ++ [k]).reverse ++ D = k :: (Q.reverse ++ D) := by simp
theorem LooI.mark {E : Nat -> Nat -> Prop} {D Q : List Nat} {k : Nat} (h : LooI n N E L O D Q) (hk : k < n) (hO : O.getD k true = false) (hr : L k = -1 \/ ∃ i ∈ Q.reverse ++ D, ∃ j < N, E i j /\ L k = (j : Int)) : LooI n N E L (O.set k true) D (Q ++ [k]) := by
 have hn : k ∉ Q.reverse ++ D := by
  have := h.is k hk
  rw [hO] at this
  simpa using this.symm
 refine ⟨by simp [h.len], fun i hi => ?_, ?_, fun i hi j hj he a ha e => ?_⟩
 ·rw [rev_app, List.getD_eq_getElem?_getD, List.getElem?_set]
  by_cases e : k = i
  ·subst e; simp [h.len, hi]
  ·rw [if_neg e, <- List.getD_eq_getElem?_getD, h.is i hi]
   have : i ≠ k := fun h => e h.symm
   simp [this]
 ·rw [rev_app]; exact ⟨h.gr, hk, hn, hr⟩
 ·rw [rev_app]; exact List.mem_cons_of_mem _ (h.cl i hi j hj he a ha e)
end
section
variable {n N : Nat} {E : Nat -> Nat -> Prop} {L : Nat -> Int}
structure Pf (n N : Nat) (E : Nat -> Nat -> Prop) (L : Nat -> Int) : Prop where
 m : Mt n N E L
 all : ∀ i < n, 0 <= L i
def LeastTo (n N : Nat) (E : Nat -> Nat -> Prop) (L : Nat -> Int) (m : Nat) : Prop := ∀ a < m, ∀ L', Pf n N E L' -> (∀ b < a, L' b = L b) -> L a <= L' a
theorem LeastTo.uniq {L' : Nat -> Int} (h : LeastTo n N E L n) (h' : LeastTo n N E L' n) (p : Pf n N E L) (p' : Pf n N E L') : ∀ i < n, L i = L' i := by
 intro i
 induction i using Nat.strongRecOn with
 | ind i ih =>
  intro hi
  have a := h i hi L' p' fun b hb => (ih b hb (by omega)).symm
  have b := h' i hi L p fun b hb => ih b hb (by omega)
  omega
theorem LeastTo.congr {L' : Nat -> Int} {m : Nat} (h : LeastTo n N E L m) (e : ∀ i < m, L' i = L i) : LeastTo n N E L' m := by
 intro a ha L2 p h2
 rw [e a ha]
 exact h a ha L2 p fun b hb => by rw [h2 b hb, e b (by omega)]
end
end Go.Mg
namespace Go.Mg
set_option linter.all false
def bt (x : UInt64) (v : Nat) : Bool := x.toNat.testBit v
def orB (x : UInt64) (v : Nat) : UInt64 := x ||| UInt64.ofNat (2 ^ v)
theorem bt_lt {x : UInt64} {v : Nat} (h : bt x v = true) : v < 64 := by
 apply Decidable.byContradiction
 intro hn
 unfold bt at h
 rw [Nat.testBit_lt_two_pow (Nat.lt_of_lt_of_le x.toNat_lt (Nat.pow_le_pow_right (by omega) (by omega : 64 <= v)))] at h
 cases h
theorem bt_zero (v : Nat) : bt 0 v = false := by simp [bt]
theorem bt_orB (x : UInt64) {v : Nat} (hv : v < 64) (k : Nat) : bt (orB x v) k = (bt x k || decide (k = v)) := by
 unfold bt orB
 rw [UInt64.toNat_or, Nat.testBit_or, UInt64.toNat_ofNat', Nat.mod_eq_of_lt (Nat.pow_lt_pow_right (by omega) hv), Nat.testBit_two_pow]
 congr 1
 by_cases e : v = k
 ·subst e; simp
 ·have : k ≠ v := fun h => e h.symm
  simp [e, this]
theorem bt_ext {x y : UInt64} (h : ∀ k < 64, bt x k = bt y k) : x = y := by
 apply UInt64.toNat_inj.1
 apply Nat.eq_of_testBit_eq
 intro k
 by_cases hk : k < 64
 ·exact h k hk
 ·have a : bt x k = false := by cases e : bt x k with
   | false => rfl
   | true => exact absurd (bt_lt e) hk
  have b : bt y k = false := by cases e : bt y k with
   | false => rfl
   | true => exact absurd (bt_lt e) hk
  unfold bt at a b; rw [a, b]
def bx (g : List UInt64) (i : Nat) : UInt64 := g.getD i 0
structure InF (g : List UInt64) (used : UInt64) (m : List Int) : Prop where
 len : m.length = g.length
 ed : ∀ i < g.length, gi m i = -1 \/ ∃ j : Nat, j < 64 /\ gi m i = (j : Int) /\ bt (bx g i) j = true /\ bt used j = false
 inj : ∀ i < g.length, ∀ k < g.length, gi m i = gi m k -> 0 <= gi m i -> i = k
theorem gi_cons0 (v : Int) (m : List Int) : gi (v :: m) 0 = v := rfl
def Lexd (a b : List Int) : Prop := ∀ i, (∀ k < i, gi b k = gi a k) -> gi a i <= gi b i
theorem Lexd.cons {v : Int} {a b : List Int} (h : Lexd a b) : Lexd (v :: a) (v :: b) := by
 intro i hk
 cases i with
 | zero => exact Int.le_refl _
 | succ i => exact h i fun k hk' => hk (k + 1) (by omega)
theorem Lexd.lt {v w : Int} (a b : List Int) (h : v < w) : Lexd (v :: a) (w :: b) := by
 intro i hk
 cases i with
 | zero => exact Int.le_of_lt h
 | succ i => have := hk 0 (by omega); rw [gi_cons0, gi_cons0] at this; omega
theorem filter_lt_cn (n : Nat) (p : Nat -> Bool) : ((List.range n).filter p).length = cn n p := by
 induction n with
 | zero => rfl
 | succ n ih => rw [List.range_succ, List.filter_append, List.length_append, ih, cn_succ]; congr 1; cases h : p n <;> simp [h]
def Eb (g : List UInt64) (i j : Nat) : Prop := bt (bx g i) j = true
theorem InF.mt {g : List UInt64} {m : List Int} (h : InF g 0 m) {N : Nat} (hN : 64 <= N) : Mt g.length N (Eb g) (gi m) :=
 ⟨fun i hi => (h.ed i hi).imp id fun ⟨j, a, b, c, _⟩ => ⟨j, by omega, b, c⟩, h.inj⟩
end Go.Mg
namespace Go.Mg
set_option linter.all false
section
variable {n N : Nat} {E : Nat -> Nat -> Prop}
end
end Go.Mg

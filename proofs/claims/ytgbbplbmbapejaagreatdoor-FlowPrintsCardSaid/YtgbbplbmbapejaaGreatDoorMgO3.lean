/- Several texts of ours in one. No conditions. -/
import Derived.Test.YtgbbplbmbapejaaGreatDoorMgMA
namespace Go.Mg
set_option linter.all false
inductive Tc (R : Nat -> Nat -> Bool) : Nat -> Nat -> Prop
 | one {a b : Nat} : R a b = true -> Tc R a b
 | more {a b c : Nat} : R a b = true -> Tc R b c -> Tc R a c
theorem Tc.trans {R : Nat -> Nat -> Bool} {a b c : Nat} (h : Tc R a b) (k : Tc R b c) : Tc R a c := by
 induction h with
 | one h => exact .more h k
 | more h _ ih => exact .more h (ih k)
theorem Tc.mono {R R' : Nat -> Nat -> Bool} (hR : ∀ a b, R a b = true -> Tc R' a b) {a b : Nat} (h : Tc R a b) : Tc R' a b := by
 induction h with
 | one h => exact hR _ _ h
 | more h _ ih => exact (hR _ _ h).trans ih
theorem Tc.last {R : Nat -> Nat -> Bool} {a b : Nat} (h : Tc R a b) : ∃ c, R c b = true /\ (a = c \/ Tc R a c) := by
 induction h with
 | one h => exact ⟨_, h, .inl rfl⟩
 | more h _ ih =>
  obtain ⟨c, h1, h2⟩ := ih
  refine ⟨c, h1, .inr ?_⟩
  rcases h2 with rfl | h2
  ·exact .one h
  ·exact .more h h2
theorem Tc.first {R : Nat -> Nat -> Bool} {a b : Nat} (h : Tc R a b) : ∃ c, R a c = true /\ (c = b \/ Tc R c b) := by
 cases h with
 | one h => exact ⟨_, h, .inl rfl⟩
 | more h k => exact ⟨_, h, .inr k⟩
theorem Tc.snoc {R : Nat -> Nat -> Bool} {a b c : Nat} (h : a = b \/ Tc R a b) (k : R b c = true) : Tc R a c := by
 rcases h with rfl | h
 ·exact .one k
 ·exact h.trans (.one k)
noncomputable def tcB (R : Nat -> Nat -> Bool) (a b : Nat) : Bool := @decide (Tc R a b) (Classical.propDecidable _)
theorem tcB_iff {R : Nat -> Nat -> Bool} {a b : Nat} : tcB R a b = true ↔ Tc R a b := by unfold tcB; exact @decide_eq_true_iff _ (Classical.propDecidable _)
def Rng (n : Nat) (R : Nat -> Nat -> Bool) : Prop := ∀ a b, R a b = true -> a < n /\ b < n
theorem Rng.tc {n : Nat} {R : Nat -> Nat -> Bool} (h : Rng n R) {a b : Nat} (k : Tc R a b) : a < n /\ b < n := by
 induction k with
 | one k => exact h _ _ k
 | more k _ ih => exact ⟨(h _ _ k).1, ih.2⟩
def Acy (R : Nat -> Nat -> Bool) : Prop := ∀ a, ¬ Tc R a a
def rdy (n : Nat) (R : Nat -> Nat -> Bool) (s : List Nat) (k : Nat) : Bool := !decide (k ∈ s) && (List.range n).all fun a => !R a k || decide (a ∈ s)
theorem rdy_iff {n : Nat} {R : Nat -> Nat -> Bool} {s : List Nat} {k : Nat} : rdy n R s k = true ↔ k ∉ s /\ ∀ a < n, R a k = true -> a ∈ s := by
 unfold rdy
 simp only [Bool.and_eq_true, Bool.not_eq_true', decide_eq_false_iff_not, List.all_eq_true, List.mem_range, Bool.or_eq_true, decide_eq_true_eq]
 constructor
 ·rintro ⟨h1, h2⟩
  refine ⟨h1, fun a ha hr => ?_⟩
  rcases h2 a ha with h | h
  ·rw [h] at hr; cases hr
  ·exact h
 ·rintro ⟨h1, h2⟩
  refine ⟨h1, fun a ha => ?_⟩
  cases hr : R a k with
  | false => exact .inl rfl
  | true => exact .inr (h2 a ha hr)
def nxt (n : Nat) (R : Nat -> Nat -> Bool) (s : List Nat) : Option Nat := (List.range n).find? (rdy n R s)
theorem nxt_some {n : Nat} {R : Nat -> Nat -> Bool} {s : List Nat} {k : Nat} (h : nxt n R s = some k) : k < n /\ rdy n R s k = true /\ ∀ j < k, rdy n R s j = false := by
 unfold nxt at h
 have h1 := List.find?_some h
 have h2 := List.mem_of_find?_eq_some h
 refine ⟨List.mem_range.1 h2, h1, fun j hj => ?_⟩
 obtain ⟨as, bs, e, hn⟩ := (List.find?_eq_some_iff_append.1 h).2
 have hk := List.mem_range.1 h2
 have hl : as.length = k := by
  have h3 : (List.range n)[as.length]? = some k := by rw [e]; simp
  rw [List.getElem?_range] at h3
  ·exact Option.some.inj h3
  ·have := congrArg List.length e; simp at this; omega
 have hm : j ∈ as := by
  have h3 : (List.range n)[j]? = some j := List.getElem?_range (by omega)
  rw [e, List.getElem?_append_left (by omega)] at h3
  exact List.mem_of_getElem? h3
 have := hn j hm
 simpa using this
theorem nxt_none {n : Nat} {R : Nat -> Nat -> Bool} {s : List Nat} (h : nxt n R s = none) {k : Nat} (hk : k < n) : rdy n R s k = false := by
 unfold nxt at h
 have := List.find?_eq_none.1 h k (List.mem_range.2 hk)
 simpa using this
theorem nxt_eq {n : Nat} {R : Nat -> Nat -> Bool} {s : List Nat} {k : Nat} (h1 : k < n) (h2 : rdy n R s k = true) (h3 : ∀ j < k, rdy n R s j = false) : nxt n R s = some k := by
 cases h : nxt n R s with
 | none => rw [nxt_none h h1] at h2; cases h2
 | some j =>
  obtain ⟨g1, g2, g3⟩ := nxt_some h
  rcases Nat.lt_trichotomy j k with hj | hj | hj
  ·rw [h3 j hj] at g2; cases g2
  ·rw [hj]
  ·rw [g3 k hj] at h2; cases h2
def srtF (n : Nat) (R : Nat -> Nat -> Bool) : Nat -> List Nat -> List Nat
 | 0, s => s
 | m + 1, s => match nxt n R s with
  | some k => srtF n R m (s ++ [k])
  | none => s
def srt (n : Nat) (R : Nat -> Nat -> Bool) : List Nat := srtF n R n []
structure Pre (n : Nat) (R : Nat -> Nat -> Bool) (s : List Nat) : Prop where
 nd : s.Nodup
 lt : ∀ k ∈ s, k < n
 at_ : ∀ i (h : i < s.length), nxt n R (s.take i) = some s[i]
theorem Pre.nil (n : Nat) (R : Nat -> Nat -> Bool) : Pre n R [] := ⟨List.nodup_nil, fun _ h => by simp at h, fun i h => by simp at h⟩
theorem Pre.snoc {n : Nat} {R : Nat -> Nat -> Bool} {s : List Nat} {k : Nat} (h : Pre n R s) (hk : nxt n R s = some k) : Pre n R (s ++ [k]) := by
 obtain ⟨h1, h2, _⟩ := nxt_some hk
 have h2' := (rdy_iff.1 h2).1
 refine ⟨?_, fun a ha => ?_, fun i hi => ?_⟩
 ·rw [List.nodup_append]
  exact ⟨h.nd, by simp, fun a ha b hb => by simp at hb; subst hb; intro e; subst e; exact h2' ha⟩
 ·rcases List.mem_append.1 ha with ha | ha
  ·exact h.lt a ha
  ·simp at ha; subst ha; exact h1
 ·by_cases e : i < s.length
  ·rw [List.take_append_of_le_length (by omega), List.getElem_append_left e]; exact h.at_ i e
  ·have : i = s.length := by simp at hi; omega
   subst this
   simp [hk]
theorem Pre.closed {n : Nat} {R : Nat -> Nat -> Bool} {s : List Nat} (h : Pre n R s) (hR : Rng n R) {i : Nat} (hi : i < s.length) {a : Nat} (ha : R a s[i] = true) : a ∈ s.take i := by
 obtain ⟨_, h2, _⟩ := nxt_some (h.at_ i hi)
 exact (rdy_iff.1 h2).2 a (hR _ _ ha).1 ha
theorem Pre.mem {n : Nat} {R : Nat -> Nat -> Bool} {s : List Nat} (h : Pre n R s) (hR : Rng n R) {a b : Nat} (hb : b ∈ s) (ha : R a b = true) : a ∈ s := by
 obtain ⟨i, hi, rfl⟩ := List.getElem_of_mem hb
 exact List.mem_of_mem_take (h.closed hR hi ha)
theorem Pre.ahead {n : Nat} {R : Nat -> Nat -> Bool} {s : List Nat} (h : Pre n R s) (hR : Rng n R) {a b : Nat} (ha : Tc R a b) : ∀ i (hi : i < s.length), s[i] = b -> a ∈ s.take i := by
 induction ha with
 | one k => intro i hi e; subst e; exact h.closed hR hi k
 | @more a b c k _ ih =>
  intro i hi e
  obtain ⟨j, hj, ej⟩ := List.getElem_of_mem (ih i hi e)
  rw [List.length_take] at hj
  rw [List.getElem_take] at ej
  have hja : R a s[j] = true := by rw [ej]; exact k
  have := h.closed hR (i := j) (by omega) hja
  obtain ⟨q, hq, eq⟩ := List.getElem_of_mem this
  rw [List.length_take] at hq
  rw [List.getElem_take] at eq
  rw [List.mem_take_iff_getElem]
  exact ⟨q, by omega, eq⟩
theorem Pre.no_cycle {n : Nat} {R : Nat -> Nat -> Bool} {s : List Nat} (h : Pre n R s) (hR : Rng n R) {a : Nat} (ha : a ∈ s) : ¬ Tc R a a := by
 intro hc
 obtain ⟨i, hi, e⟩ := List.getElem_of_mem ha
 have := h.ahead hR hc i hi e
 obtain ⟨q, hq, eq⟩ := List.getElem_of_mem this
 rw [List.length_take] at hq
 rw [List.getElem_take] at eq
 have := List.pairwise_iff_getElem.1 h.nd q i (by omega) hi (by omega)
 exact this (by rw [eq, e])
theorem nodup_cn {n : Nat} {s : List Nat} (h1 : s.Nodup) (h2 : ∀ k ∈ s, k < n) : s.length = cn n fun k => decide (k ∈ s) := by
 induction s with
 | nil => simp [cn_false]
 | cons a s ih =>
  obtain ⟨h3, h4⟩ := List.nodup_cons.1 h1
  rw [cn_del (p := fun k => decide (k ∈ a :: s)) (h2 a (by simp)) (by simp), List.length_cons, ih h4 fun k hk => h2 k (by simp [hk])]
  congr 1
  refine cn_congr fun i hi => ?_
  by_cases e : i = a
  ·subst e; simp [h3]
  ·simp [e]
theorem nodup_full {n : Nat} {s : List Nat} (h1 : s.Nodup) (h2 : ∀ k ∈ s, k < n) (h3 : n <= s.length) {k : Nat} (hk : k < n) : k ∈ s := by
 have e := nodup_cn h1 h2
 have := cn_all (n := n) (p := fun k => decide (k ∈ s)) (q := fun _ => true) (fun _ _ _ => rfl) (by have := cn_le n fun _ => true; omega) k hk rfl
 simpa using this
theorem Acy.top {n : Nat} {R : Nat -> Nat -> Bool} (h : Acy R) (U : Nat -> Prop) : ∀ (m u : Nat), cn n (fun v => tcB R v u) < m -> u < n -> U u -> (∀ a b, R a b = true -> a < n) -> ∃ t, t < n /\ U t /\ ∀ a, R a t = true -> ¬ U a
 | 0, _, hm, _, _, _ => by omega
 | m + 1, u, hm, hu, hU, hR => by
  by_cases e : ∃ a, R a u = true /\ U a
  ·obtain ⟨a, h1, h2⟩ := e
   refine Acy.top h U m a ?_ (hR _ _ h1) h2 hR
   have h3 : cn n (fun v => tcB R v a) < cn n (fun v => tcB R v u) := by
    rw [cn_del (p := fun v => tcB R v u) (k := a) (hR _ _ h1) (tcB_iff.2 (.one h1))]
    refine Nat.lt_succ_of_le (cn_mono fun i hi hp => ?_)
    have hp := tcB_iff.1 hp
    have : i ≠ a := fun e => by subst e; exact h i hp
    simp only [Bool.and_eq_true, tcB_iff, Bool.not_eq_true', decide_eq_false_iff_not]
    exact ⟨hp.trans (.one h1), this⟩
   omega
  ·exact ⟨u, hu, hU, fun a h1 h2 => e ⟨a, h1, h2⟩⟩
theorem Pre.stuck {n : Nat} {R : Nat -> Nat -> Bool} {s : List Nat} (h : Pre n R s) (hR : Rng n R) (hn : nxt n R s = none) (hl : s.length < n) : ¬ Acy R := by
 intro ha
 have : ∃ u, u < n /\ u ∉ s := by
  apply Classical.byContradiction
  intro hc
  have h1 := nodup_cn h.nd h.lt
  have h2 : cn n (fun k => decide (k ∈ s)) = cn n fun _ => true := cn_congr fun i hi => by
   have : i ∈ s := Classical.byContradiction fun e => hc ⟨i, hi, e⟩
   simp [this]
  have h3 := cn_not n fun _ => true
  have h4 : cn n (fun _ => !true) = 0 := cn_false n
  omega
 obtain ⟨u, hu, hus⟩ := this
 obtain ⟨t, ht, h1, h2⟩ := ha.top (fun v => v ∉ s) (cn n (fun v => tcB R v u) + 1) u (by omega) hu hus (fun a b h => (hR a b h).1)
 have := nxt_none hn ht
 rw [rdy_iff.2 ⟨h1, fun a _ hr => Classical.byContradiction fun e => h2 a hr e⟩] at this
 cases this
theorem srtF_spec {n : Nat} {R : Nat -> Nat -> Bool} (hR : Rng n R) : ∀ (m : Nat) (s : List Nat), Pre n R s -> n <= s.length + m -> Pre n R (srtF n R m s) /\ ((srtF n R m s).length = n \/ (nxt n R (srtF n R m s) = none /\ (srtF n R m s).length < n))
 | 0, s, h, hm => by
  have h1 := nodup_cn h.nd h.lt
  have h2 := cn_le n fun k => decide (k ∈ s)
  exact ⟨h, .inl (by unfold srtF; omega)⟩
 | m + 1, s, h, hm => by
  unfold srtF
  cases hn : nxt n R s with
  | none =>
   have h1 := nodup_cn h.nd h.lt
   have h2 := cn_le n fun k => decide (k ∈ s)
   refine ⟨h, ?_⟩
   by_cases e : s.length = n
   ·exact .inl e
   ·exact .inr ⟨hn, (by omega : s.length < n)⟩
  | some k => exact srtF_spec hR m (s ++ [k]) (h.snoc hn) (by simp; omega)
theorem srt_pre {n : Nat} {R : Nat -> Nat -> Bool} (hR : Rng n R) : Pre n R (srt n R) := (srtF_spec hR n [] (Pre.nil n R) (by simp)).1
theorem srt_all {n : Nat} {R : Nat -> Nat -> Bool} (hR : Rng n R) : (srt n R).length = n ↔ Acy R := by
 have h := srtF_spec hR n [] (Pre.nil n R) (by simp)
 constructor
 ·intro hl a ha
  have := (hR.tc ha).1
  exact h.1.no_cycle hR (nodup_full h.1.nd h.1.lt (by unfold srt at hl; omega) this) ha
 ·intro ha
  rcases h.2 with h' | ⟨h1, h2⟩
  ·exact h'
  ·exact absurd ha (h.1.stuck hR h1 h2)
theorem Pre.uniq {n : Nat} {R : Nat -> Nat -> Bool} {s t : List Nat} (h : Pre n R s) (k : Pre n R t) : ∀ i, i <= s.length -> i <= t.length -> s.take i = t.take i
 | 0, _, _ => by simp
 | i + 1, h1, h2 => by
  have ih := h.uniq k i (by omega) (by omega)
  have e1 := h.at_ i (by omega)
  have e2 := k.at_ i (by omega)
  rw [ih] at e1
  have e : s[i] = t[i] := Option.some.inj (e1.symm.trans e2)
  rw [List.take_succ_eq_append_getElem (by omega), List.take_succ_eq_append_getElem (by omega), ih, e]
theorem Pre.eq {n : Nat} {R : Nat -> Nat -> Bool} {s : List Nat} (hR : Rng n R) (h : Pre n R s) (hl : s.length = n \/ nxt n R s = none) : s = srt n R := by
 have k := srt_pre hR
 have k2 := (srtF_spec hR n [] (Pre.nil n R) (by simp)).2
 have kl : (srt n R).length <= n := by rcases k2 with e | ⟨_, e⟩ <;> unfold srt <;> omega
 have sl : s.length <= n := by have := nodup_cn h.nd h.lt; have := cn_le n fun k => decide (k ∈ s); omega
 rcases Nat.lt_trichotomy s.length (srt n R).length with e | e | e
 ·rcases hl with hl | hl
  ·omega
  ·have e1 := k.at_ s.length e
   rw [<- h.uniq k s.length (Nat.le_refl _) (by omega), List.take_length, hl] at e1
   cases e1
 ·have := h.uniq k s.length (Nat.le_refl _) (by omega)
  rw [List.take_length, e, List.take_length] at this
  exact this
 ·have e1 := h.at_ (srt n R).length e
  rw [h.uniq k (srt n R).length (by omega) (Nat.le_refl _), List.take_length] at e1
  rcases k2 with e2 | ⟨e2, _⟩
  ·unfold srt at e; omega
  ·unfold srt at e1; rw [e2] at e1; cases e1
def rowP (n : Nat) (R : Nat -> Nat -> Bool) (x : Nat) : List (Nat × Nat) := ((List.range n).filter (R x)).map fun y => (x, y)
def gridP (n : Nat) (R : Nat -> Nat -> Bool) : List (Nat × Nat) := (List.range n).flatMap (rowP n R)
theorem mem_gridP {n : Nat} {R : Nat -> Nat -> Bool} {p : Nat × Nat} : p ∈ gridP n R ↔ p.1 < n /\ p.2 < n /\ R p.1 p.2 = true := by
 unfold gridP rowP
 simp only [List.mem_flatMap, List.mem_range, List.mem_map, List.mem_filter]
 constructor
 ·rintro ⟨x, hx, y, ⟨hy, hr⟩, rfl⟩; exact ⟨hx, hy, hr⟩
 ·rintro ⟨h1, h2, h3⟩; exact ⟨p.1, h1, p.2, ⟨h2, h3⟩, rfl⟩
def plt (p q : Nat × Nat) : Prop := p.1 < q.1 \/ (p.1 = q.1 /\ p.2 < q.2)
theorem plt.irr {p : Nat × Nat} : ¬ plt p p := by rintro (h | ⟨_, h⟩) <;> omega
theorem plt.trans {p q r : Nat × Nat} (h : plt p q) (k : plt q r) : plt p r := by unfold plt at *; omega
theorem gridP_sorted (n : Nat) (R : Nat -> Nat -> Bool) : (gridP n R).Pairwise plt := by
 unfold gridP
 have : ∀ m, ((List.range m).flatMap (rowP n R)).Pairwise plt := fun m => by
  induction m with
  | zero => simp
  | succ m ih =>
   rw [List.range_succ, List.flatMap_append, List.pairwise_append]
   refine ⟨ih, ?_, fun a ha b hb => ?_⟩
   ·simp only [List.flatMap_cons, List.flatMap_nil, List.append_nil, rowP]
    refine List.pairwise_map.2 ((List.pairwise_lt_range.filter _).imp fun h => .inr ⟨rfl, h⟩)
   ·obtain ⟨x, hx, ha⟩ := List.mem_flatMap.1 ha
    simp only [List.flatMap_cons, List.flatMap_nil, List.append_nil] at hb
    simp only [rowP, List.mem_map] at ha hb
    obtain ⟨_, _, rfl⟩ := ha
    obtain ⟨_, _, rfl⟩ := hb
    exact .inl (List.mem_range.1 hx)
 exact this n
theorem plt_ext : ∀ {l m : List (Nat × Nat)}, l.Pairwise plt -> m.Pairwise plt -> (∀ p, p ∈ l ↔ p ∈ m) -> l = m
 | [], [], _, _, _ => rfl
 | [], b :: m, _, _, h => by have := (h b).2 (by simp); simp at this
 | a :: l, [], _, _, h => by have := (h a).1 (by simp); simp at this
 | a :: l, b :: m, hl, hm, h => by
  obtain ⟨h1, h2⟩ := List.pairwise_cons.1 hl
  obtain ⟨k1, k2⟩ := List.pairwise_cons.1 hm
  have e : a = b := by
   have ha := (h a).1 (by simp)
   have hb := (h b).2 (by simp)
   rcases List.mem_cons.1 ha with e | ha
   ·exact e
   ·rcases List.mem_cons.1 hb with e | hb
    ·exact e.symm
    ·exact absurd ((h1 b hb).trans (k1 a ha)) plt.irr
  subst e
  congr 1
  refine plt_ext h2 k2 fun p => ?_
  constructor
  ·intro hp
   rcases List.mem_cons.1 ((h p).1 (by simp [hp])) with e | hp'
   ·subst e; exact absurd (h1 p hp) plt.irr
   ·exact hp'
  ·intro hp
   rcases List.mem_cons.1 ((h p).2 (by simp [hp])) with e | hp'
   ·subst e; exact absurd (k1 p hp) plt.irr
   ·exact hp'
def inP (l : List (Nat × Nat)) (a b : Nat) : Bool := decide ((a, b) ∈ l)
theorem inP_iff {l : List (Nat × Nat)} {a b : Nat} : inP l a b = true ↔ (a, b) ∈ l := by unfold inP; exact decide_eq_true_iff
end Go.Mg
namespace Go.Mg
set_option linter.all false
def lastN (p : List Nat) : Nat := p.getLastD 0
def longer (n : Nat) (R : Nat -> Nat -> Bool) (l : List (List Nat)) : List (List Nat) := l.flatMap fun p => ((List.range n).filter (R (lastN p))).map fun y => p ++ [y]
def maxL (l : List Nat) : Nat := l.foldl max 0
def rnk (n : Nat) (R : Nat -> Nat -> Bool) : Nat -> Nat -> Nat
 | 0, _ => 0
 | m + 1, b => maxL (((List.range n).filter fun a => R a b).map (rnk n R m)) + 1
def hgt (n : Nat) (R : Nat -> Nat -> Bool) (b : Nat) : Nat := rnk n R (n + 1) b
end Go.Mg
namespace Go.Mg
set_option linter.all false
abbrev NP := Nat × Nat
def ple (p q : NP) : Prop := p.1 < q.1 \/ (p.1 = q.1 /\ p.2 <= q.2)
def at0 (l : List NP) (i : Nat) : NP := l.getD i (0, 0)
def keepB (l : List NP) (i : Nat) : Bool := decide (i = 0) || decide (at0 l i ≠ at0 l (i - 1))
def ddF (l : List NP) (m : Nat) : List NP := ((List.range m).filter (keepB l)).map (at0 l)
theorem ddF_succ (l : List NP) (m : Nat) : ddF l (m + 1) = if keepB l m = true then ddF l m ++ [at0 l m] else ddF l m := by
 unfold ddF
 rw [List.range_succ, List.filter_append, List.map_append]
 by_cases h : keepB l m = true
 ·rw [if_pos h]; simp [h]
 ·rw [if_neg h]; simp [h]
theorem ddF_all {l : List NP} : ∀ m, (∀ i < m, keepB l i = true) -> m <= l.length -> ddF l m = l.take m
 | 0, _, _ => by simp [ddF]
 | m + 1, h, hm => by
  rw [ddF_succ, if_pos (h m (by omega)), ddF_all m (fun i hi => h i (by omega)) (by omega), List.take_succ_eq_append_getElem (by omega)]
  congr 1
  simp [at0, List.getD_eq_getElem?_getD, show m < l.length by omega]
theorem at0_eq {l : List NP} {i : Nat} (h : i < l.length) : at0 l i = l[i] := by simp [at0, List.getD_eq_getElem?_getD, h]
theorem ple.trans {p q r : NP} (h : ple p q) (k : ple q r) : ple p r := by unfold ple at *; omega
theorem ple.lt {p q : NP} (h : ple p q) (k : p ≠ q) : plt p q := by
 obtain ⟨a, b⟩ := p
 obtain ⟨c, d⟩ := q
 unfold ple at h; unfold plt
 simp only [ne_eq, Prod.mk.injEq, not_and] at *
 omega
theorem ple_plt {p q r : NP} (h : ple p q) (k : plt q r) : plt p r := by unfold ple at h; unfold plt at *; omega
theorem ddF_mem {l : List NP} {p : NP} : p ∈ ddF l l.length ↔ p ∈ l := by
 unfold ddF
 simp only [List.mem_map, List.mem_filter, List.mem_range]
 constructor
 ·rintro ⟨i, ⟨hi, _⟩, rfl⟩
  rw [at0_eq hi]; exact List.getElem_mem _
 ·intro hp
  obtain ⟨i, hi, rfl⟩ := List.getElem_of_mem hp
  induction i using Nat.strongRecOn with
  | _ i ih =>
   by_cases hk : keepB l i = true
   ·exact ⟨i, ⟨hi, hk⟩, at0_eq hi⟩
   ·unfold keepB at hk
    simp only [Bool.or_eq_true, decide_eq_true_eq, not_or, Decidable.not_not] at hk
    obtain ⟨h0, h1⟩ := hk
    rw [at0_eq hi, at0_eq (by omega)] at h1
    obtain ⟨j, hj, e⟩ := ih (i - 1) (by omega) (by omega) (List.getElem_mem _)
    exact ⟨j, hj, e.trans h1.symm⟩
theorem ddF_sorted {l : List NP} (h : l.Pairwise ple) : (ddF l l.length).Pairwise plt := by
 unfold ddF
 rw [List.pairwise_map]
 have hr : ((List.range l.length).filter (keepB l)).Pairwise fun i j => (i < l.length /\ i < j /\ j < l.length /\ keepB l j = true) := by
  have h1 : ((List.range l.length).filter (keepB l)).Pairwise (· < ·) := List.pairwise_lt_range.filter _
  refine h1.imp_of_mem fun {i j} hi hj hij => ?_
  simp only [List.mem_filter, List.mem_range] at hi hj
  exact ⟨hi.1, hij, hj.1, hj.2⟩
 refine hr.imp fun {i j} ⟨hi, hij, hj, hk⟩ => ?_
 have hp := List.pairwise_iff_getElem.1 h
 unfold keepB at hk
 simp only [Bool.or_eq_true, decide_eq_true_eq] at hk
 have hk : at0 l j ≠ at0 l (j - 1) := by rcases hk with hk | hk; omega; exact hk
 rw [at0_eq hj, at0_eq (by omega)] at hk
 have h2 : plt l[j - 1] l[j] := (hp (j - 1) j (by omega) hj (by omega)).lt (fun e => hk e.symm)
 rw [at0_eq hi, at0_eq hj]
 by_cases e : i = j - 1
 ·subst e; exact h2
 ·exact ple_plt (hp i (j - 1) hi (by omega) (by omega)) h2
theorem ddF_grid {n : Nat} {l l' : List NP} (hp : l'.Perm l) (hs : l'.Pairwise ple) (h : ∀ p ∈ l, p.1 < n /\ p.2 < n) : ddF l' l'.length = gridP n (inP l) :=
 plt_ext (ddF_sorted hs) (gridP_sorted _ _) fun p => by
  rw [ddF_mem, mem_gridP, inP_iff, hp.mem_iff]
  exact ⟨fun hp => ⟨(h p hp).1, (h p hp).2, hp⟩, fun h => h.2.2⟩
theorem Rng.inP {n : Nat} {l : List NP} (h : ∀ p ∈ l, p.1 < n /\ p.2 < n) : Rng n (inP l) := fun a b k => h _ (inP_iff.1 k)
theorem countP_row (n : Nat) (R : Nat -> Nat -> Bool) (x b : Nat) (q : Nat -> Bool) (hb : b < n) : (rowP n R x).countP (fun p => decide (p.2 = b) && q p.1) = if (R x b && q x) = true then 1 else 0 := by
 unfold rowP
 rw [List.countP_map, List.countP_filter]
 have : ∀ m, (List.range m).countP (fun y => ((fun p : NP => decide (p.2 = b) && q p.1) ∘ fun y => (x, y)) y && R x y) = if b < m /\ (R x b && q x) = true then 1 else 0 := fun m => by
  induction m with
  | zero => simp
  | succ m ih =>
   rw [List.range_succ, List.countP_append, ih, List.countP_cons, List.countP_nil]
   simp only [Function.comp, Nat.zero_add]
   by_cases e : m = b
   ·subst e
    simp only [Nat.lt_irrefl, false_and, if_false, Nat.lt_succ_self, true_and, decide_true, Bool.true_and, Nat.zero_add]
    rw [Bool.and_comm]
   ·have : (decide (m = b)) = false := by simp [e]
    simp only [this, Bool.false_and, Bool.false_eq_true, if_false, Nat.add_zero]
    by_cases h : b < m
    ·simp [h, show b < m + 1 by omega]
    ·simp [h, show ¬ b < m + 1 by omega]
 rw [this n]
 simp [hb]
theorem countP_grid (n : Nat) (R : Nat -> Nat -> Bool) (b : Nat) (q : Nat -> Bool) (hb : b < n) : (gridP n R).countP (fun p => decide (p.2 = b) && q p.1) = cn n fun a => R a b && q a := by
 unfold gridP
 have : ∀ m, ((List.range m).flatMap (rowP n R)).countP (fun p => decide (p.2 = b) && q p.1) = cn m fun a => R a b && q a := fun m => by
  induction m with
  | zero => rfl
  | succ m ih => rw [List.range_succ, List.flatMap_append, List.countP_append, ih, cn_succ, List.flatMap_cons, List.flatMap_nil, List.append_nil, countP_row n R m b q hb]
 exact this n
theorem cn_pos_iff {n : Nat} {p : Nat -> Bool} : cn n p = 0 ↔ ∀ i < n, p i = false := by
 constructor
 ·intro h i hi
  cases hp : p i with
  | false => rfl
  | true => have := cn_del hi hp; omega
 ·intro h
  rw [cn_congr h, cn_false]
end Go.Mg

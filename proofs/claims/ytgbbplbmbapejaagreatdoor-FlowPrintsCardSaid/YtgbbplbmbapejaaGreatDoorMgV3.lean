/- Several texts of ours in one. No conditions. -/
import Derived.Test.YtgbbplbmbapejaaGreatDoorMgP5
import Derived.Test.YtgbbplbmbapejaaGreatDoorMgN1
import Derived.Test.YtgbbplbmbapejaaGreatDoorMgLp
open Nat renaming reduceEqDiff → Za, reduceAdd → Zb, reduceMul → Zc, reduceLeDiff → Zd, reduceLT → Ze
open Int renaming reduceBEq → Zf, reduceBNe → Zg, reduceLE → Zh, reduceLT → Zi
namespace Go.Mg
set_option linter.all false
abbrev StN := List UInt8 × Int
abbrev PrN := Int × Int
abbrev MoN := Int × UInt64
structure FlN where
 st : List StN
 be : List PrN
 di : List PrN
 sa : List PrN
 mo : List MoN
def orE (a b : Int) : Int := if a = 0 then b else a
theorem orE_0 (b : Int) : orE 0 b = b := rfl
theorem orE_ne {a : Int} (b : Int) (h : a ≠ 0) : orE a b = a := if_neg h
theorem orE_eq0 {a b : Int} : orE a b = 0 ↔ a = 0 /\ b = 0 := by
 unfold orE; split
 ·next h => simp [h]
 ·next h => simp [h]
def badP (n : Nat) (x : PrN) : Bool := decide (x.1 < 0) || decide ((n : Int) <= x.1) || decide (x.2 < 0) || decide ((n : Int) <= x.2)
def prE1 (n : Nat) (x : PrN) : Int := if badP n x = true then 2 else if x.1 = x.2 then 1 else 0
def prE (n : Nat) : List PrN -> Int
 | [] => 0
 | x :: l => orE (prE1 n x) (prE n l)
theorem prE_app (n : Nat) : ∀ (l m : List PrN), prE n (l ++ m) = orE (prE n l) (prE n m)
 | [], m => rfl
 | x :: l, m => by
  simp only [List.cons_append, prE, prE_app n l m]
  unfold orE; split <;> rfl
theorem prE_0 {n : Nat} : ∀ {l : List PrN}, prE n l = 0 ↔ ∀ x ∈ l, prE1 n x = 0
 | [] => by simp [prE]
 | x :: l => by simp [prE, orE_eq0, prE_0 (l := l)]
theorem prE1_0 {n : Nat} {x : PrN} : prE1 n x = 0 ↔ okP (n : Int) x /\ x.1 ≠ x.2 := by
  unfold prE1 badP okP
  split
  · next h =>
    simp only [Bool.or_eq_true, decide_eq_true_eq] at h
    constructor
    · intro h; omega
    · rintro ⟨⟨_, _, _, _⟩, _⟩; omega
  · next h =>
    simp only [Bool.or_eq_true, decide_eq_true_eq] at h
    split
    · next h2 => constructor
                 · intro h; omega
                 · rintro ⟨_, h3⟩; exact absurd h2 h3
    · next h2 => exact ⟨fun _ => ⟨by omega, h2⟩, fun _ => rfl⟩
def stE1 (roles : Int) (p : Nat -> Bool) (l : List StN) (x : StN) : Int :=
 if validF x.1 = false then 9 else if (l.any fun y => decide (y.1 = x.1)) = true then 5 else if x.2 < 1 \/ roles < x.2 \/ memI p x.2 = true then 10 else 0
def stE (roles : Int) (p : Nat -> Bool) (l : List StN) : Nat -> Int
 | 0 => 0
 | k + 1 => orE (stE roles p l k) (stE1 roles p (l.take k) (l.getD k ([], 0)))
theorem stE_mono {roles : Int} {p : Nat -> Bool} {l : List StN} {k : Nat} (h : stE roles p l k ≠ 0) : ∀ m, k <= m -> stE roles p l m = stE roles p l k
  | m, hm => by
    induction m with
    | zero => have : k = 0 := by omega
              subst this; rfl
    | succ m ih =>
      by_cases e : k = m + 1
      · rw [e]
      · have := ih (by omega)
        rw [stE, this, orE_ne _ h]
theorem stE_0 {roles : Int} {p : Nat -> Bool} {l : List StN} : ∀ {k : Nat}, stE roles p l k = 0 ↔ ∀ i < k, stE1 roles p (l.take i) (l.getD i ([], 0)) = 0
 | 0 => by simp [stE]
 | k + 1 => by
  rw [stE, orE_eq0, stE_0 (k := k)]
  constructor
  ·rintro ⟨h1, h2⟩ i hi
   by_cases e : i = k
   ·rw [e]; exact h2
   ·exact h1 i (by omega)
  ·exact fun h => ⟨fun i hi => h i (by omega), h k (by omega)⟩
def moE1 (n : Nat) (x : MoN) : Int := if x.1 < 1 \/ 10 < x.1 \/ x.2 = 0 \/ 2 ^ n <= x.2.toNat then 2 else 0
def moE (n : Nat) : List MoN -> Int
 | [] => 0
 | x :: l => orE (moE1 n x) (moE n l)
theorem moE_0 {n : Nat} : ∀ {l : List MoN}, moE n l = 0 ↔ ∀ x ∈ l, moE1 n x = 0
 | [] => by simp [moE]
 | x :: l => by simp [moE, orE_eq0, moE_0 (l := l)]
def tooL (f : FlN) : Prop := 10 < f.st.length \/ 20 < f.be.length \/ 20 < f.di.length \/ 20 < f.sa.length \/ 20 < f.mo.length
instance (f : FlN) : Decidable (tooL f) := by unfold tooL; infer_instance
noncomputable def acyE (R : Nat -> Nat -> Bool) : Int := @ite _ (Acy R) (Classical.propDecidable _) 0 16
theorem acyE_0 {R : Nat -> Nat -> Bool} (h : Acy R) : acyE R = 0 := if_pos h
theorem acyE_1 {R : Nat -> Nat -> Bool} (h : ¬ Acy R) : acyE R = 16 := if_neg h
noncomputable def flwE (f : FlN) (roles : Int) (p : Nat -> Bool) : Int :=
 if f.st = [] then 4 else if tooL f then 3 else
 orE (stE roles p f.st f.st.length) (orE (prE f.st.length f.be) (orE (prE f.st.length f.di) (orE (prE f.st.length f.sa) (orE (moE f.st.length f.mo) (acyE (relI f.be))))))
structure Good (f : FlN) : Prop where
 ne : f.st ≠ []
 lim : ¬ tooL f
 be : ∀ x ∈ f.be, okP (f.st.length : Int) x /\ x.1 ≠ x.2
 di : ∀ x ∈ f.di, okP (f.st.length : Int) x /\ x.1 ≠ x.2
 sa : ∀ x ∈ f.sa, okP (f.st.length : Int) x /\ x.1 ≠ x.2
 mo : ∀ x ∈ f.mo, moE1 f.st.length x = 0
 acy : Acy (relI f.be)
theorem flwE_0 {f : FlN} {roles : Int} {p : Nat -> Bool} : flwE f roles p = 0 ↔ Good f /\ ∀ i < f.st.length, stE1 roles p (f.st.take i) (f.st.getD i ([], 0)) = 0 := by
 unfold flwE
 split
 ·next h => exact ⟨fun h => by omega, fun h' => absurd h h'.1.ne⟩
 ·next h =>
  split
  ·next h2 => exact ⟨fun h => by omega, fun h' => absurd h2 h'.1.lim⟩
  ·next h2 =>
   simp only [orE_eq0, stE_0, prE_0, moE_0, prE1_0]
   constructor
   ·rintro ⟨a, b, c, d, e, g⟩
    refine ⟨⟨h, h2, b, c, d, e, ?_⟩, a⟩
    apply Classical.byContradiction
    intro hn
    rw [acyE_1 hn] at g
    omega
   ·rintro ⟨a, b⟩
    exact ⟨b, a.be, a.di, a.sa, a.mo, acyE_0 a.acy⟩
theorem Good.lt {f : FlN} (h : Good f) : f.st.length <= 10 := by have := h.lim; unfold tooL at this; omega
theorem Good.rng {f : FlN} (h : Good f) : Rng f.st.length (relI f.be) := rng_of fun p hp => (h.be p hp).1
def waitB (be : List PrN) (d : Nat -> Bool) (k : Nat) : Bool := be.any fun x => decide (x.2 = (k : Int)) && !memI d x.1
def rdyL (n : Nat) (be : List PrN) (d : Nat -> Bool) : List Nat := (List.range n).filter fun k => !waitB be d k && !memI d (k : Int)
theorem memI_nat {d : Nat -> Bool} {k : Nat} (hk : k <= 4095) : memI d (k : Int) = d k := by
 unfold memI
 rw [decide_eq_true (by omega), decide_eq_true (by omega), Int.toNat_natCast, Bool.true_and, Bool.true_and]
theorem rdyL_rdy {n : Nat} {be : List PrN} {s : List Nat} {d : Nat -> Bool} (hb : ∀ x ∈ be, okP (n : Int) x) (hn : n <= 4095) (hd : ∀ j < n, d j = decide (j ∈ s)) {k : Nat} (hk : k < n) :
  (!waitB be d k && !memI d (k : Int)) = rdy n (relI be) s k := by
 rw [memI_nat (by omega), hd k hk, Bool.and_comm]
 unfold rdy
 congr 1
 rw [Bool.eq_iff_iff]
 simp only [waitB, Bool.not_eq_true', List.any_eq_false, Bool.and_eq_true, decide_eq_true_eq, not_and, Bool.not_eq_true, List.all_eq_true, List.mem_range, Bool.or_eq_true, relI]
 constructor
 ·intro h a ha
  by_cases hm : ((a : Int), (k : Int)) ∈ be
  ·have := h _ hm rfl
   rw [memI_nat (by omega), hd a ha] at this
   simp at this
   exact .inr this
  ·left; simpa using hm
 ·rintro h ⟨x, y⟩ hx rfl
  obtain ⟨h1, h2, _, _⟩ := hb _ hx
  simp only at h1 h2
  obtain ⟨a, rfl⟩ : ∃ a : Nat, x = (a : Int) := ⟨x.toNat, by omega⟩
  have ha : a < n := by omega
  have := h a ha
  rw [memI_nat (by omega), hd a ha]
  rcases this with h3 | h3
  ·simp [hx] at h3
  ·simp [h3]
theorem rdyL_nxt {n : Nat} {be : List PrN} {s : List Nat} {d : Nat -> Bool} (hb : ∀ x ∈ be, okP (n : Int) x) (hn : n <= 4095) (hd : ∀ j < n, d j = decide (j ∈ s)) : (rdyL n be d).head? = nxt n (relI be) s := by
 unfold rdyL nxt
 rw [List.head?_filter]
 have : ∀ l : List Nat, (∀ k ∈ l, k < n) -> l.find? (fun k => !waitB be d k && !memI d (k : Int)) = l.find? (rdy n (relI be) s) := fun l => by
  induction l with
  | nil => intro _; rfl
  | cons a l ih =>
   intro h
   simp only [List.find?_cons, rdyL_rdy hb hn hd (h a List.mem_cons_self), ih fun k hk => h k (List.mem_cons_of_mem _ hk)]
 exact this _ fun k hk => List.mem_range.1 hk
def sI (s : List Int) (a : Int) : Int := s.getD a.toNat 0
def difB (s : List Int) (x : PrN) : Bool := decide (sI s x.1 ≠ 0) && decide (sI s x.1 = sI s x.2)
def samB (s : List Int) (x : PrN) : Bool := decide (sI s x.1 ≠ 0) && decide (sI s x.2 ≠ 0) && decide (sI s x.1 ≠ sI s x.2)
def usN (s : List Int) (m : UInt64) (u : Int) (n : Nat) : Nat := cn n fun k => bt m k && decide (s.getD k 0 = u)
def mosB (s : List Int) (x : MoN) : Bool := s.any fun u => decide (u ≠ 0) && decide (x.1 < (usN s x.2 u s.length : Int))
def hldF (f : FlN) (s : List Int) : Nat × Nat :=
 match f.di.findIdx? (difB s) with
 | some i => (1, i)
 | none => match f.sa.findIdx? (samB s) with
  | some i => (2, i)
  | none => match f.mo.findIdx? (mosB s) with
   | some i => (3, i)
   | none => (0, 0)
def fitB (n : Nat) (s : List Int) : Bool := (s.all fun u => decide (0 <= u) && decide (u <= 256)) && decide (s.length = n)
structure RawF where
 n : Nat
 ro : List UInt8
 be : List (UInt8 × UInt8)
 di : List (UInt8 × UInt8)
 sa : List (UInt8 × UInt8)
 mo : List (UInt8 × UInt8)
 el : List UInt8
def nuF (r : RawF) : Nat := 1 + r.n % 5
def prN (n : Nat) (x : UInt8 × UInt8) : Nat × Nat := (x.1.toNat % n, if x.1.toNat % n = x.2.toNat % n then (x.1.toNat % n + 1) % n else x.2.toNat % n)
def prI (n : Nat) (x : UInt8 × UInt8) : PrN := (((prN n x).1 : Nat), ((prN n x).2 : Nat))
def srP (x : PrN) : PrN := if x.2 < x.1 then (x.2, x.1) else x
def nmS (k : Nat) : List UInt8 := [115, UInt8.ofNat (48 + k)]
def roI (l : List UInt8) (k : Nat) : Int := if k < l.length then 1 + ((l.getD k 0).toNat % 4 : Nat) else 1
def stsF (r : RawF) (m : Nat) : List StN := (List.range m).map fun k => (nmS k, roI r.ro k)
def allM (n : Nat) : UInt64 := UInt64.ofNat (2 ^ n - 1)
def moM (n : Nat) (x : UInt8 × UInt8) : UInt64 := if UInt64.ofNat x.2.toNat &&& allM n = 0 then allM n else UInt64.ofNat x.2.toNat &&& allM n
def moF1 (n : Nat) (x : UInt8 × UInt8) : MoN := (1 + ((x.1.toNat % 3 : Nat) : Int), moM n x)
def mkF (r : RawF) : FlN where
 st := stsF r (nuF r)
 be := if 1 < nuF r then (r.be.take 6).map fun x => srP (prI (nuF r) x) else []
 di := if 1 < nuF r then (r.di.take 6).map (prI (nuF r)) else []
 sa := if 1 < nuF r then (r.sa.take 3).map (prI (nuF r)) else []
 mo := (r.mo.take 3).map (moF1 (nuF r))
theorem nuF_lt (r : RawF) : 1 <= nuF r /\ nuF r <= 5 := by unfold nuF; omega
theorem mkF_len (r : RawF) : (mkF r).st.length = nuF r := by simp [mkF, stsF]
theorem prN_ok {n : Nat} (h : 1 < n) (x : UInt8 × UInt8) : (prN n x).1 < n /\ (prN n x).2 < n /\ (prN n x).1 ≠ (prN n x).2 := by
 unfold prN
 have h1 : x.1.toNat % n < n := Nat.mod_lt _ (by omega)
 have h2 : x.2.toNat % n < n := Nat.mod_lt _ (by omega)
 refine ⟨h1, ?_, ?_⟩
 ·simp only; split
  ·exact Nat.mod_lt _ (by omega)
  ·exact h2
 ·simp only; split
  ·by_cases h3 : x.1.toNat % n + 1 < n
   ·rw [Nat.mod_eq_of_lt h3]; omega
   ·rw [show x.1.toNat % n + 1 = n by omega, Nat.mod_self]; omega
  ·assumption
theorem prI_ok {n : Nat} (h : 1 < n) (x : UInt8 × UInt8) : okP (n : Int) (prI n x) /\ (prI n x).1 ≠ (prI n x).2 := by
 obtain ⟨h1, h2, h3⟩ := prN_ok h x
 unfold prI okP
 simp only
 omega
theorem srP_ok {n : Nat} {x : PrN} (h : okP (n : Int) x /\ x.1 ≠ x.2) : okP (n : Int) (srP x) /\ (srP x).1 < (srP x).2 := by
 obtain ⟨⟨h1, h2, h3, h4⟩, h5⟩ := h
 unfold srP okP
 split
 ·simp only; omega
 ·exact ⟨⟨h1, h2, h3, h4⟩, by omega⟩
theorem allM_toNat {n : Nat} (h : n <= 5) : (allM n).toNat = 2 ^ n - 1 := by
 have : ∀ m : Fin 6, (allM m.val).toNat = 2 ^ m.val - 1 := by decide
 exact this ⟨n, by omega⟩
theorem moM_ok {n : Nat} (h1 : 1 <= n) (h : n <= 5) (x : UInt8 × UInt8) : moM n x ≠ 0 /\ (moM n x).toNat < 2 ^ n := by
 have ha := allM_toNat h
 have hp : 2 <= 2 ^ n := by
  have := Nat.pow_le_pow_right (show 0 < 2 by omega) h1
  simpa using this
 unfold moM
 split
 ·refine ⟨fun e => ?_, by omega⟩
  rw [e] at ha
  simp at ha; omega
 ·next hne =>
  refine ⟨hne, ?_⟩
  rw [UInt64.toNat_and, ha]
  exact Nat.lt_of_le_of_lt Nat.and_le_right (by omega)
theorem relI_lt_acy {L : List PrN} (h : ∀ x ∈ L, x.1 < x.2) : Acy (relI L) := by
 have : ∀ a b, Tc (relI L) a b -> a < b := fun a b hab => by
  induction hab with
  | one k => have := h _ (of_decide_eq_true k); simp only at this; omega
  | more k _ ih => have := h _ (of_decide_eq_true k); simp only at this; omega
 exact fun a h => by have := this a a h; omega
theorem mkF_good (r : RawF) : Good (mkF r) := by
 obtain ⟨z1, z2⟩ := nuF_lt r
 have hl := mkF_len r
 refine ⟨fun e => by rw [e] at hl; simp at hl; omega, ?_, ?_, ?_, ?_, ?_, ?_⟩
 ·unfold tooL
  rw [hl]
  simp only [mkF]
  split <;> simp [List.length_take] <;> omega
 ·intro x hx
  rw [hl]
  simp only [mkF] at hx
  split at hx
  ·next h1 =>
   obtain ⟨y, _, rfl⟩ := List.mem_map.1 hx
   obtain ⟨a, b⟩ := srP_ok (prI_ok h1 y)
   exact ⟨a, by omega⟩
  ·simp at hx
 ·intro x hx
  rw [hl]
  simp only [mkF] at hx
  split at hx
  ·next h1 => obtain ⟨y, _, rfl⟩ := List.mem_map.1 hx; exact prI_ok h1 y
  ·simp at hx
 ·intro x hx
  rw [hl]
  simp only [mkF] at hx
  split at hx
  ·next h1 => obtain ⟨y, _, rfl⟩ := List.mem_map.1 hx; exact prI_ok h1 y
  ·simp at hx
 ·intro x hx
  rw [hl]
  obtain ⟨y, _, rfl⟩ := List.mem_map.1 hx
  obtain ⟨a, b⟩ := moM_ok z1 z2 y
  unfold moE1 moF1
  rw [if_neg]
  rintro (h | h | h | h)
  ·simp only at h; omega
  ·simp only at h; omega
  ·exact a h
  ·simp only at h; omega
 ·refine relI_lt_acy fun x hx => ?_
  simp only [mkF] at hx
  split at hx
  ·next h1 => obtain ⟨y, _, rfl⟩ := List.mem_map.1 hx; exact (srP_ok (prI_ok h1 y)).2
  ·simp at hx
theorem nmS_valid {k : Nat} (h : k < 5) : validF (nmS k) = true := by
 have : ∀ m : Fin 5, validF (nmS m.val) = true := by decide +kernel
 exact this ⟨k, h⟩
theorem nmS_inj {i k : Nat} (h1 : i < 5) (h2 : k < 5) (h : nmS i = nmS k) : i = k := by
 have : ∀ a b : Fin 5, nmS a.val = nmS b.val -> a.val = b.val := by decide +kernel
 exact this ⟨i, h1⟩ ⟨k, h2⟩ h
theorem roI_lt (l : List UInt8) (k : Nat) : 1 <= roI l k /\ roI l k <= 4 := by
 unfold roI; split <;> omega
theorem mkF_sts (r : RawF) {roles : Int} {p : Nat -> Bool} (h4 : 4 <= roles) (hp : ∀ k, 1 <= k -> k <= 4 -> p k = false) (i : Nat) (hi : i < (mkF r).st.length) : stE1 roles p ((mkF r).st.take i) ((mkF r).st.getD i ([], 0)) = 0 := by
 have hl := mkF_len r
 obtain ⟨z1, z2⟩ := nuF_lt r
 rw [hl] at hi
 have hg : ∀ j < nuF r, (mkF r).st.getD j ([], 0) = (nmS j, roI r.ro j) := fun j hj => by
  simp only [mkF, stsF, List.getD_eq_getElem?_getD, List.getElem?_map, List.getElem?_range hj, Option.map_some, Option.getD_some]
 rw [hg i hi]
 unfold stE1
 rw [if_neg (by rw [nmS_valid (by omega)]; simp), if_neg, if_neg]
 ·obtain ⟨r1, r2⟩ := roI_lt r.ro i
  rintro (h | h | h)
  ·simp only at h; omega
  ·simp only at h; omega
  ·obtain ⟨q, hq⟩ : ∃ q : Nat, roI r.ro i = (q : Int) := ⟨(roI r.ro i).toNat, by omega⟩
   simp only [hq] at h
   rw [memI_nat (by omega), hp q (by omega) (by omega)] at h
   cases h
 ·intro h
  simp only [List.any_eq_true, decide_eq_true_eq] at h
  obtain ⟨y, hy, e⟩ := h
  obtain ⟨j, hj, rfl⟩ := List.getElem_of_mem hy
  have hj' : j < i := by rw [List.length_take] at hj; omega
  have := hg j (by omega)
  rw [List.getD_eq_getElem?_getD, List.getElem?_eq_getElem (by omega)] at this
  rw [List.getElem_take] at e
  simp only [Option.getD_some] at this
  rw [this] at e
  have := nmS_inj (by omega) (by omega) e
  omega
theorem mkF_chk (r : RawF) {roles : Int} {p : Nat -> Bool} (h4 : 4 <= roles) (hp : ∀ k, 1 <= k -> k <= 4 -> p k = false) : flwE (mkF r) roles p = 0 := flwE_0.2 ⟨mkF_good r, mkF_sts r h4 hp⟩
end Go.Mg
namespace Go.Mg
open Go Go.RowKit
set_option linter.all false
set_option maxRecDepth 100000
def c_rmemb (ι : Ids) : S :=
 .seq (.reg [.p (.v 2) (.mv (.c (.slice .none 0 0)))]) (.seq (.reg [.p (.v 3) (.mv (.c (.slice .none 0 0)))]) (.seq (.seq (.reg [.p (.v 4) (.mv (.c (.int .i64 0)))]) (.blk 0 (.loop (.seq (.seq (.reg
 [.p (.t 5) (.mv (.v 4)), .p (.v 6) (.cm .lss .i64 (.t 5) (.c (.int .i64 64)))]) (.ite (.v 6) .skip (.exit 0))) (.seq (.blk 1 (.seq (.reg [.p (.t 9) (.mv (.v 0)), .p (.t 10) (.mv (.v 4)), .p (.t 11)
 (.sh .shr .u64 (.t 9) (.t 10)), .p (.t 12) (.dv .rem .u64 (.t 11) (.c (.int .u64 2))), .p (.v 13) (.cm .eql .u64 (.t 12) (.c (.int .u64 1)))]) (.ite (.v 13) (.reg [.p (.t 14) (.mv (.v 3)), .p (.t 15)
 (.mv (.v 4)), .e (.t 16) (.bldF (ι.t 26) 1 1 [.t 15]), .e (.t 17) (.app false (ι.t 26) 1 8 #[.int .i64 0] (.t 14) (.t 16)), .p (.v 3) (.mv (.t 17))]) .skip))) (.reg [.p (.t 7) (.mv (.v 4)), .p (.t 8)
 (.ar .add .i64 (.t 7) (.c (.int .i64 1))), .p (.v 4) (.mv (.t 8))])))))) (.seq (.reg [.p (.t 18) (.mv (.v 3)), .p (.v 2) (.mv (.t 18))]) .ret)))
def r_rmemb : List RV := [.t 2]
def c_lroles (ι : Ids) : S :=
 .seq (.reg [.e (.v 2) (.new (ι.t 128) #[.slice .none 0 0])]) (.seq (.reg [.p (.t 3) (.mv (.v 0)), .e (.t 4) (.call (ι.f 282) [.t 3]), .e (.t 5) (.call (ι.f 143) [.t 4]), .e .no (.stn 1 (.v 2) (.t
 5))]) .ret)
def r_lroles : List RV := [.cn 2 1]
def c_fpairs (ι : Ids) : S :=
 .seq (.reg [.p (.v 4) (.mv (.c (.int .i64 0)))]) (.seq (.seq (.reg [.p (.v 7) (.mv (.v 0)), .p (.v 8) (.m (.lenl (.v 7))), .p (.v 9) (.mv (.c (.int .i64 0)))]) (.blk 0 (.loop (.seq (.reg [.p (.v 10)
 (.cm .lss .i64 (.v 9) (.v 8))]) (.seq (.ite (.v 10) .skip (.exit 0)) (.seq (.blk 1 (.seq (.reg [.p (.t 11) (.is 2 (.v 7) (.v 9)), .p (.t 12) (.m (.ldn 2 (.t 11))), .e (.v 6) (.new (ι.t 194) #[.int
 .i64 0, .int .i64 0]), .e .no (.stn 2 (.v 6) (.t 12))]) (.seq (.seq (.reg [.p (.t 13) (.ia 2 1 (.v 6) (.c (.int .i64 0))), .p (.t 14) (.ld (.t 13)), .p (.t 15) (.cm .lss .i64 (.t 14) (.c (.int .i64
 0))), .p (.t 16) (.mv (.t 15)), .gp (.t 17) (.t 16) false (.ia 2 1 (.v 6) (.c (.int .i64 0))), .gp (.t 18) (.t 16) false (.ld (.t 17)), .gp (.t 19) (.t 16) false (.mv (.v 1)), .gp (.t 20) (.t 16)
 false (.cm .geq .i64 (.t 18) (.t 19)), .p (.t 21) (.pick (.t 16) (.c (.bool true)) (.t 20)), .p (.t 22) (.mv (.t 21)), .gp (.t 23) (.t 22) false (.ia 2 1 (.v 6) (.c (.int .i64 1))), .gp (.t 24) (.t
 22) false (.ld (.t 23)), .gp (.t 25) (.t 22) false (.cm .lss .i64 (.t 24) (.c (.int .i64 0))), .p (.t 26) (.pick (.t 22) (.c (.bool true)) (.t 25)), .p (.t 27) (.mv (.t 26)), .gp (.t 28) (.t 27) false
 (.ia 2 1 (.v 6) (.c (.int .i64 1))), .gp (.t 29) (.t 27) false (.ld (.t 28)), .gp (.t 30) (.t 27) false (.mv (.v 1)), .gp (.t 31) (.t 27) false (.cm .geq .i64 (.t 29) (.t 30)), .p (.v 32) (.pick (.t
 27) (.c (.bool true)) (.t 31))]) (.ite (.v 32) (.seq (.reg [.p (.v 4) (.mv (.c (.int .i64 2)))]) .ret) .skip)) (.seq (.reg [.p (.t 33) (.ia 2 1 (.v 6) (.c (.int .i64 0))), .p (.t 34) (.ld (.t 33)), .p
 (.t 35) (.ia 2 1 (.v 6) (.c (.int .i64 1))), .p (.t 36) (.ld (.t 35)), .p (.v 37) (.cm .eql .i64 (.t 34) (.t 36))]) (.ite (.v 37) (.seq (.reg [.p (.v 4) (.mv (.c (.int .i64 1)))]) .ret) .skip)))))
 (.reg [.p (.t 38) (.ar .add .i64 (.v 9) (.c (.int .i64 1))), .p (.v 9) (.mv (.t 38))]))))))) (.seq (.reg [.p (.v 4) (.mv (.c (.int .i64 0)))]) .ret))
def r_fpairs : List RV := [.t 4]
def c_rpair (ι : Ids) : S :=
 .seq (.reg [.e (.v 2) (.box (ι.t 49) (.v 0)), .e (.v 4) (.new (ι.t 194) #[.int .i64 0, .int .i64 0])]) (.seq (.reg [.p (.t 7) (.ia 2 1 (.v 2) (.c (.int .i64 0))), .p (.t 8) (.ld (.t 7)), .p (.t 9)
 (.ii .i64 (.t 8)), .p (.t 10) (.mv (.v 1)), .p (.t 11) (.dv .rem .i64 (.t 9) (.t 10)), .p (.v 5) (.mv (.t 11))]) (.seq (.reg [.p (.t 12) (.ia 2 1 (.v 2) (.c (.int .i64 1))), .p (.t 13) (.ld (.t 12)),
 .p (.t 14) (.ii .i64 (.t 13)), .p (.t 15) (.mv (.v 1)), .p (.t 16) (.dv .rem .i64 (.t 14) (.t 15)), .p (.v 6) (.mv (.t 16))]) (.seq (.seq (.reg [.p (.t 17) (.mv (.v 5)), .p (.t 18) (.mv (.v 6)), .p
 (.v 19) (.cm .eql .i64 (.t 17) (.t 18))]) (.ite (.v 19) (.reg [.p (.t 20) (.mv (.v 5)), .p (.t 21) (.ar .add .i64 (.t 20) (.c (.int .i64 1))), .p (.t 22) (.mv (.v 1)), .p (.t 23) (.dv .rem .i64 (.t
 21) (.t 22)), .p (.v 6) (.mv (.t 23))]) .skip)) (.seq (.reg [.p (.t 24) (.mv (.v 5)), .p (.t 25) (.mv (.v 6)), .p (.t 26) (.m (.bld #[.int .i64 0, .int .i64 0] [(0, (1, .t 24)), (1, (1, .t 25))])), .e
 .no (.stn 2 (.v 4) (.t 26))]) .ret))))
def r_rpair : List RV := [.cn 4 2]
def c_rdig (ι : Ids) : S :=
 .seq (.reg [.p (.v 2) (.mv (.c (.string ⟨#[]⟩)))]) (.seq (.seq (.reg [.p (.t 3) (.mv (.v 0)), .p (.v 4) (.cm .lss .i64 (.t 3) (.c (.int .i64 10)))]) (.ite (.v 4) (.seq (.reg [.p (.t 5) (.mv (.v 0)),
 .p (.t 6) (.ar .add .i64 (.c (.int .i64 48)) (.t 5)), .p (.t 7) (.ii .u8 (.t 6)), .e (.t 8) (.bldF (ι.t 19) 1 1 [.t 7]), .p (.t 9) (.m (.b2s (.t 8))), .p (.v 2) (.mv (.t 9))]) .ret) .skip)) (.seq (.dr
 (.px (.t 10) .none (.mv (.v 0)) (.px (.t 11) .none (.dv .quo .i64 (.t 10) (.c (.int .i64 10))) (.px (.t 13) .none (.mv (.v 0)) (.px (.t 14) .none (.dv .rem .i64 (.t 13) (.c (.int .i64 10))) (.px (.t
 15) .none (.ar .add .i64 (.c (.int .i64 48)) (.t 14)) (.px (.t 16) .none (.ii .u8 (.t 15)) (.wcons (.t 12) .none (.call (ι.f 287) [.t 11]) (.wcons (.t 17) .none (.bldF (ι.t 19) 1 1 [.t 16]) (.px (.t
 18) .none (.m (.b2s (.t 17))) (.px (.t 19) .none (.sadd (.t 12) (.t 18)) (.px (.v 2) .none (.mv (.t 19)) .done))) .wnil) (.wcons (.t 17) .none (.bldF (ι.t 19) 1 1 [.t 16]) (.px (.t 18) .none (.m (.b2s
 (.t 17))) (.wcons (.t 12) .none (.call (ι.f 287) [.t 11]) (.px (.t 19) .none (.sadd (.t 12) (.t 18)) (.px (.v 2) .none (.mv (.t 19)) .done)) .wnil)) .wnil))))))))) .ret))
def r_rdig : List RV := [.t 2]
theorem bit_rem (x : UInt64) (i : Nat) : ((((x.toNat : Int) / 2 ^ i).tmod 2) == 1) = bt x i := by
 have e : ((x.toNat : Int) / 2 ^ i) = ((x.toNat / 2 ^ i : Nat) : Int) := by simp
 have e2 : (((x.toNat / 2 ^ i : Nat) : Int)).tmod 2 = ((x.toNat / 2 ^ i % 2 : Nat) : Int) := tmod_nat _ 2
 rw [e, e2]
 unfold bt
 rw [Nat.testBit_eq_decide_div_mod_eq]
 rw [Bool.eq_iff_iff]
 simp only [beq_iff_eq, decide_eq_true_eq]
 omega
def RMembSpec (P : Program) (k : FuncId) : Prop := ∀ (x : UInt64) (H : Hp), CallsM P k #[.int .u64 x.toNat] H fun r H' => OwS H' r (iN ((List.range 64).filter (bt x))) /\ (∀ q, ownB r q -> H.size <= q) /\ Keep (fun _ => False) H H'
theorem rmemb_ok {P : Program} {ι : Ids} {k : FuncId} (hk : FnIs P k (c_rmemb ι) r_rmemb 1) : RMembSpec P k := by
 intro x H
 obtain ⟨Q, hQ⟩ : ∃ Q : Value -> Hp -> Prop, Q = fun r H' => OwS H' r (iN ((List.range 64).filter (bt x))) /\ (∀ q, ownB r q -> H.size <= q) /\ Keep (fun _ => False) H H' := ⟨_, rfl⟩
 rw [<- hQ]
 refine calls_of_vc hk (args := [_]) (by simp) ?_
 unfold c_rmemb r_rmemb
 simp -implicitDefEqProofs only [go_sem, zS, ↓reduceIte, Za, Zb, Zc, reduceCtorEq, kont_eq]
 refine vc_loop [6, 13, 3, 4] rfl (fun m f A => ∃ (i : Nat) (v : Value), i <= 64 /\ m = 64 - i /\ f 4 = .int .i64 (i : Int) /\ f 3 = v /\ OwS A v (iN ((List.range i).filter (bt x))) /\ (∀ q, ownB v q -> H.size <= q) /\ Keep (fun _ => False) H A) 64 ?_ ?_
 ·exact ⟨0, _, by omega, by omega, by simp -implicitDefEqProofs only [go_sem, zS, ↓reduceIte, Za, Zb, Zc, reduceCtorEq, kont_eq]; rfl, by simp -implicitDefEqProofs only [go_sem, zS, ↓reduceIte, Za, Zb, Zc, reduceCtorEq, kont_eq], OwS.nil _, fun q h => h.elim, Keep.refl _ _⟩
 rintro m f A ⟨i, v, hi, rfl, hf4, hf3, hO, ho, hK⟩
 have sA := hK.size
 simp -implicitDefEqProofs only [go_sem, zS, ↓reduceIte, Za, Zb, Zc, reduceCtorEq, kont_eq] at hf4 hf3
 simp -implicitDefEqProofs only [go_sem, zS, ↓reduceIte, Za, Zb, Zc, reduceCtorEq, hf4]
 refine iteV_dec (fun hlt => ?_) (fun hge => ?_)
 ·have hlt : i < 64 := by omega
  have hle : ((List.range i).filter (bt x)).length <= 64 := by
   have := List.length_filter_le (bt x) (List.range i)
   simp at this; omega
  have hs := List.range_succ (n := i)
  have h64 : ((i : Int)).toNat = i := by omega
  simp -implicitDefEqProofs (disch := omega) only [go_sem, zS, ↓reduceIte, Za, Zb, Zc, reduceCtorEq, hf4, h64, bit_rem, tn_cast]
  refine ⟨⟨by omega, by show ((i : Nat) : Int) <= ((64 : Nat) : Int); omega⟩, by omega, ?_⟩
  refine iteV_of (fun hb => ?_) (fun hb => ?_)
  ·simp -implicitDefEqProofs only [go_sem, zS, ↓reduceIte, Za, Zb, Zc, reduceCtorEq, hf4, hf3]
   refine kont_news fun H1 b1 e1 z1 B1 K1 => ?_
   have B1' : Bl H1 b1 (iN [i]) := B1
   simp -implicitDefEqProofs only [go_sem, zS, ↓reduceIte, Za, Zb, Zc, reduceCtorEq, kont_eq]
   refine app_slN (m := iN [i]) H.size (hO.keep K1 (by simp)) ho (by omega) (SlR.bl B1' 0 1 1 (by omega) (by simp [iN_len])) (iL_all1 _) rfl (by omega) (by rw [iN_len, iN_len]; simp only [List.length_singleton]; omega) fun v' H2 O2 o2 K2 => ?_
   simp -implicitDefEqProofs (disch := omega) only [go_sem, zS, ↓reduceIte, Za, Zb, Zc, reduceCtorEq, kont_eq, hf4, IntWalk.i64_in]
   refine ⟨64 - (i + 1), by omega, i + 1, v', by omega, rfl, rfl, rfl, ?_, o2, (hK.trans K1).at_old K2 (by omega)⟩
   rw [hs, List.filter_append, List.filter_cons, if_pos hb, List.filter_nil, iN, List.map_append, iL_app]
   exact O2
  ·simp -implicitDefEqProofs (disch := omega) only [go_sem, zS, ↓reduceIte, Za, Zb, Zc, reduceCtorEq, kont_eq, hf4, IntWalk.i64_in]
   refine ⟨64 - (i + 1), by omega, i + 1, v, by omega, rfl, rfl, hf3, ?_, ho, hK⟩
   rw [hs, List.filter_append, List.filter_cons, if_neg (by rw [hb]; simp), List.filter_nil, List.append_nil]
   exact hO
 ·have : i = 64 := by omega
  subst this
  simp -implicitDefEqProofs only [go_sem, zS, ↓reduceIte, Za, Zb, Zc, reduceCtorEq, kont_eq, hf3]
  rw [hQ]
  exact ⟨hO, ho, hK⟩
def RolesSpec (P : Program) (k : FuncId) : Prop := ∀ (x : UInt64) (H : Hp), CallsM P k #[.int .u64 x.toNat] H fun r H' => SetM H' r (bt x) /\ (∀ q, setB r q -> H.size <= q) /\ Keep (fun _ => False) H H'
theorem lroles_ok {P : Program} {ι : Ids} {k : FuncId} (hk : FnIs P k (c_lroles ι) r_lroles 1) (hm : RMembSpec P (ι.f 282)) (ho : BOfSpec P (ι.f 143)) : RolesSpec P k := by
 intro x H
 obtain ⟨Q, hQ⟩ : ∃ Q : Value -> Hp -> Prop, Q = fun r H' => SetM H' r (bt x) /\ (∀ q, setB r q -> H.size <= q) /\ Keep (fun _ => False) H H' := ⟨_, rfl⟩
 rw [<- hQ]
 refine calls_of_vc hk (args := [_]) (by simp) ?_
 unfold c_lroles r_lroles
 simp -implicitDefEqProofs only [go_sem, zS, ↓reduceIte, Za, Zb, Zc, reduceCtorEq]
 refine kont_new fun H1 b1 e1 z1 B1 K1 => ?_
 have B1' : Bl H1 b1 [.slice none 0 0] := B1
 simp -implicitDefEqProofs only [go_sem, zS, ↓reduceIte, Za, Zb, Zc, reduceCtorEq, kont_eq]
 refine (hm x H1).mono ?_
 rintro l H2 ⟨O2, o2, K2⟩
 rw [kont_eq]
 simp -implicitDefEqProofs only [go_sem, zS, ↓reduceIte, Za, Zb, Zc, reduceCtorEq, kont_eq]
 have hle : ((List.range 64).filter (bt x)).length <= 64 := by
  have := List.length_filter_le (bt x) (List.range 64)
  simp at this; omega
 refine (ho (nI ((List.range 64).filter (bt x))) l H2 O2.sl (by simp only [nI, List.length_map]; omega)).mono ?_
 rintro r H3 ⟨S3, K3, s3⟩
 have K12 := K2.trans K3
 have B3 := K12.bl B1' (by simp)
 obtain ⟨v, W, rfl, hV⟩ := S3
 rw [kont_eq]
 simp -implicitDefEqProofs only [go_sem, zS, ↓reduceIte, Za, Zb, Zc, reduceCtorEq, kont_eq, zF]
 refine ret1 B3 hV.sl.one fun H4 z4 K4 => ?_
 have hb : ∀ q, setB (.agg #[v]) q -> q ≠ b1 := fun q hq e => by have := s3 q hq; have := B1'.lt; have := K2.size; omega
 rw [hQ]
 refine ⟨(SetM.keep ⟨v, W, rfl, hV⟩ K4 hb).congr fun n => ?_, fun q hq => by have := s3 q hq; have := K2.size; have := K1.size; omega, (K1.trans K12).to_old K4 (by omega)⟩
 unfold ofP
 by_cases hn : n < 64
 ·rw [decide_eq_true (show n < 4096 by omega), Bool.and_true]
  rw [Bool.eq_iff_iff, decide_eq_true_eq]
  simp only [nI, List.mem_map, List.mem_filter, List.mem_range]
  constructor
  ·rintro ⟨a, ⟨_, h⟩, e⟩
   have : a = n := by omega
   rw [<- this]; exact h
  ·intro h; exact ⟨n, ⟨hn, h⟩, rfl⟩
 ·have h1 : bt x n = false := by
   cases hb : bt x n with
   | false => rfl
   | true => have := bt_lt hb; omega
  rw [h1, Bool.and_eq_false_iff]
  left
  rw [decide_eq_false_iff_not]
  simp only [nI, List.mem_map, List.mem_filter, List.mem_range]
  rintro ⟨a, ⟨h, _⟩, e⟩
  omega
theorem prE_at {n : Nat} {l : List PrN} {i : Nat} (hi : i < l.length) (h : prE n (l.take i) = 0) : prE n (l.take (i + 1)) = prE1 n l[i] := by
 rw [List.take_succ_eq_append_getElem hi, prE_app, h, orE_0]
 simp only [prE, orE]
 split <;> simp_all
theorem prE_stop {n : Nat} {l : List PrN} {i : Nat} (h : prE n (l.take i) ≠ 0) : prE n l = prE n (l.take i) := by
 conv => lhs; rw [<- List.take_append_drop i l]
 rw [prE_app, orE_ne _ h]
def PairsSpec (P : Program) (k : FuncId) : Prop := ∀ (n : Nat) (l : List PrN) (v : Value) (H : Hp), SlP H v l -> l.length <= 1000000 -> n <= 1000000 -> CallsM P k #[v, .int .i64 n] H fun r H' => r = .int .i64 (prE n l) /\ Keep (fun _ => False) H H'
theorem fpairs_ok {P : Program} {ι : Ids} {k : FuncId} (hk : FnIs P k (c_fpairs ι) r_fpairs 2) : PairsSpec P k := by
 intro n l v H hv hl hn
 obtain ⟨Q, hQ⟩ : ∃ Q : Value -> Hp -> Prop, Q = fun r H' => r = .int .i64 (prE n l) /\ Keep (fun _ => False) H H' := ⟨_, rfl⟩
 rw [<- hQ]
 refine calls_of_vc hk (args := [_, _]) (by simp) ?_
 unfold c_fpairs r_fpairs
 simp -implicitDefEqProofs only [go_sem, zS, ↓reduceIte, Za, Zb, Zc, reduceCtorEq, kont_eq, hv.isSl, hv.len]
 refine vc_range l.length [10, 6, 32, 4, 37, 9] rfl rfl (by omega) (by simp -implicitDefEqProofs only [go_sem, zS, ↓reduceIte, Za, Zb, Zc, reduceCtorEq, kont_eq]) (by simp -implicitDefEqProofs only [go_sem, zS, ↓reduceIte, Za, Zb, Zc, reduceCtorEq, kont_eq]) (fun k g A => prE n (l.take k) = 0 /\ Keep (fun _ => False) H A) ⟨rfl, Keep.refl _ _⟩ ?_ ?_
 ·rintro k g A hk gi gn ⟨hp, KA⟩
  simp -implicitDefEqProofs only [go_sem, zS, ↓reduceIte, Za, Zb, Zc, reduceCtorEq, kont_eq] at gi gn
  have pA := hv.keep0 KA
  obtain ⟨pb, po, pc, hwe, -, hld⟩ := pA.elem (enc := pE) (k := 2) (fun _ => rfl) hk
  obtain ⟨x, hx⟩ : ∃ x, x = l[k] := ⟨_, rfl⟩
  have hpx := prE_at hk hp
  rw [<- hx] at hld hpx
  obtain ⟨x1, x2⟩ := x
  have hld' : ldNA A ⟨pb, po + k * 2, none⟩ 2 = some #[.int .i64 x1, .int .i64 x2] := hld
  simp -implicitDefEqProofs only [go_sem, zS, ↓reduceIte, Za, Zb, Zc, reduceCtorEq, zF, hwe, gi, tn_cast, ldNO_ptr, hld']
  refine ⟨by omega, ?_⟩
  refine kont_newst [.int .i64 x1, .int .i64 x2] (by simp -implicitDefEqProofs only [go_sem, zS, ↓reduceIte, Za, Zb, Zc, reduceCtorEq, kont_eq]) rfl rfl rfl fun H1 b1 e1 z1 B1 K1 => ?_
  have KH := KA.trans K1
  have c0 : cell H1 ⟨b1, 0, none⟩ = some (.int .i64 x1) := by rw [B1.cell]; rfl
  have c1 : cell H1 ⟨b1, 1, none⟩ = some (.int .i64 x2) := by rw [B1.cell]; rfl
  have bad : prE1 n (x1, x2) = 2 -> Q (.int .i64 2) H1 := fun h => by
   rw [hQ, prE_stop (i := k + 1) (by rw [hpx, h]; decide), hpx, h]
   exact ⟨rfl, KH⟩
  by_cases h1 : x1 < 0
  ·have e1 : decide (x1 < 0) = true := decide_eq_true h1
   simp -implicitDefEqProofs only [go_sem, zS, ↓reduceIte, Za, Zb, Zc, reduceCtorEq, kont_eq, zU, zV, Zf, Zg, Zh, Zi, Zd, Ze, zF, c0, c1, e1]
   exact bad (by simp [prE1, badP, h1]; try omega)
  have e1 : decide (x1 < 0) = false := decide_eq_false h1
  by_cases h2 : (n : Int) <= x1
  ·have e2 : decide ((n : Int) <= x1) = true := decide_eq_true h2
   simp -implicitDefEqProofs only [go_sem, zS, ↓reduceIte, Za, Zb, Zc, reduceCtorEq, kont_eq, zU, zV, Zf, Zg, Zh, Zi, Zd, Ze, zF, c0, c1, e1, e2]
   exact bad (by simp [prE1, badP, h2]; try omega)
  have e2 : decide ((n : Int) <= x1) = false := decide_eq_false h2
  by_cases h3 : x2 < 0
  ·have e3 : decide (x2 < 0) = true := decide_eq_true h3
   simp -implicitDefEqProofs only [go_sem, zS, ↓reduceIte, Za, Zb, Zc, reduceCtorEq, kont_eq, zU, zV, Zf, Zg, Zh, Zi, Zd, Ze, zF, c0, c1, e1, e2, e3]
   exact bad (by simp [prE1, badP, h3]; try omega)
  have e3 : decide (x2 < 0) = false := decide_eq_false h3
  by_cases h4 : (n : Int) <= x2
  ·have e4 : decide ((n : Int) <= x2) = true := decide_eq_true h4
   simp -implicitDefEqProofs only [go_sem, zS, ↓reduceIte, Za, Zb, Zc, reduceCtorEq, kont_eq, zU, zV, Zf, Zg, Zh, Zi, Zd, Ze, zF, c0, c1, e1, e2, e3, e4]
   exact bad (by simp [prE1, badP, h4]; try omega)
  have e4 : decide ((n : Int) <= x2) = false := decide_eq_false h4
  by_cases h5 : x1 = x2
  ·have e5 : (x1 == x2) = true := by simp [h5]
   simp -implicitDefEqProofs only [go_sem, zS, ↓reduceIte, Za, Zb, Zc, reduceCtorEq, kont_eq, zU, zV, Zf, Zg, Zh, Zi, Zd, Ze, zF, c0, c1, e1, e2, e3, e4, e5]
   have hp1 : prE1 n (x1, x2) = 1 := by simp [prE1, badP, e1, e2, e3, e4, h5]
   rw [hQ, prE_stop (i := k + 1) (by rw [hpx, hp1]; decide), hpx, hp1]
   exact ⟨rfl, KH⟩
  ·have e5 : (x1 == x2) = false := by simp [h5]
   simp -implicitDefEqProofs only [go_sem, zS, ↓reduceIte, Za, Zb, Zc, reduceCtorEq, kont_eq, zU, zV, Zf, Zg, Zh, Zi, Zd, Ze, zF, c0, c1, e1, e2, e3, e4, e5]
   have hp1 : prE1 n (x1, x2) = 0 := by simp [prE1, badP, e1, e2, e3, e4, h5]
   exact ⟨by rw [hpx, hp1], KH⟩
 ·rintro g A _ ⟨hp, KA⟩
  simp -implicitDefEqProofs only [go_sem, zS, ↓reduceIte, Za, Zb, Zc, reduceCtorEq, kont_eq]
  rw [hQ]
  rw [List.take_length] at hp
  exact ⟨by rw [hp], KA⟩
def PairSpec (P : Program) (k : FuncId) : Prop := ∀ (n : Nat) (x : UInt8 × UInt8) (H : Hp), 1 < n -> n <= 10 -> CallsM P k #[.agg #[.int .u8 x.1.toNat, .int .u8 x.2.toNat], .int .i64 n] H fun r H' => r = .agg #[.int .i64 (prI n x).1, .int .i64 (prI n x).2] /\ Keep (fun _ => False) H H'
theorem rpair_ok {P : Program} {ι : Ids} {k : FuncId} (hk : FnIs P k (c_rpair ι) r_rpair 2) : PairSpec P k := by
 intro n x H h1 hn
 obtain ⟨a, b⟩ := x
 have ha := a.toNat_lt
 have hb := b.toNat_lt
 obtain ⟨Q, hQ⟩ : ∃ Q : Value -> Hp -> Prop, Q = fun r H' => r = .agg #[.int .i64 (prI n (a, b)).1, .int .i64 (prI n (a, b)).2] /\ Keep (fun _ => False) H H' := ⟨_, rfl⟩
 rw [<- hQ]
 refine calls_of_vc hk (args := [_, _]) (by simp) ?_
 unfold c_rpair r_rpair
 simp -implicitDefEqProofs only [go_sem, zS, ↓reduceIte, Za, Zb, Zc, reduceCtorEq, zU, zV, Zf, Zg, Zh, Zi, Zd, Ze, zF]
 refine kont_new fun H1 b1 e1 z1 B1 K1 => ?_
 have B1' : Bl H1 b1 [.int .u8 a.toNat, .int .u8 b.toNat] := B1
 simp -implicitDefEqProofs only [go_sem, zS, ↓reduceIte, Za, Zb, Zc, reduceCtorEq, zU, zV, Zf, Zg, Zh, Zi, Zd, Ze, zF]
 refine kont_new fun H2 b2 e2 z2 B2 K2 => ?_
 have B12 := K2.bl B1' (by simp)
 have B2' : Bl H2 b2 [.int .i64 0, .int .i64 0] := B2
 have K02 := K1.trans K2
 have c0 : cell H2 ⟨b1, 0, none⟩ = some (.int .u8 a.toNat) := by rw [B12.cell]; rfl
 have c1 : cell H2 ⟨b1, 1, none⟩ = some (.int .u8 b.toNat) := by rw [B12.cell]; rfl
 have w0 : IntKind.i64.wrap (a.toNat : Int) = a.toNat := IntWalk.i64_in _ (by omega)
 have w1 : IntKind.i64.wrap (b.toNat : Int) = b.toNat := IntWalk.i64_in _ (by omega)
 have m0 : ((a.toNat : Int)).tmod (n : Int) = ((a.toNat % n : Nat) : Int) := tmod_nat _ _
 have m1 : ((b.toNat : Int)).tmod (n : Int) = ((b.toNat % n : Nat) : Int) := tmod_nat _ _
 have hn0 : ((n : Nat) : Int) ≠ 0 := by omega
 have ha' : a.toNat % n < n := Nat.mod_lt _ (by omega)
 by_cases he : a.toNat % n = b.toNat % n
 ·have e5 : (((a.toNat % n : Nat) : Int) == ((b.toNat % n : Nat) : Int)) = true := by rw [he]; simp
  have w2 : IntKind.i64.wrap (((a.toNat % n : Nat) : Int) + 1) = ((a.toNat % n + 1 : Nat) : Int) := by rw [IntWalk.i64_in _ (by omega)]; omega
  have m2 : (((a.toNat % n + 1 : Nat) : Int)).tmod (n : Int) = (((a.toNat % n + 1) % n : Nat) : Int) := tmod_nat _ _
  simp -implicitDefEqProofs only [go_sem, zS, ↓reduceIte, Za, Zb, Zc, reduceCtorEq, kont_eq, zU, zV, Zf, Zg, Zh, Zi, Zd, Ze, zF, c0, c1, w0, w1, m0, m1, hn0, e5, w2, m2, ne_eq]
  refine retN (n := 2) (cs := [.int .i64 _, .int .i64 _]) B2' rfl rfl rfl fun H3 z3 B3 K3 => ?_
  rw [hQ]
  refine ⟨?_, K02.to_old K3 (by omega)⟩
  simp [prI, prN, he]
 ·have e5 : (((a.toNat % n : Nat) : Int) == ((b.toNat % n : Nat) : Int)) = false := by simp only [beq_eq_false_iff_ne, ne_eq]; omega
  simp -implicitDefEqProofs only [go_sem, zS, ↓reduceIte, Za, Zb, Zc, reduceCtorEq, kont_eq, zU, zV, Zf, Zg, Zh, Zi, Zd, Ze, zF, c0, c1, w0, w1, m0, m1, hn0, e5, ne_eq]
  refine retN (n := 2) (cs := [.int .i64 _, .int .i64 _]) B2' rfl rfl rfl fun H3 z3 B3 K3 => ?_
  rw [hQ]
  refine ⟨?_, K02.to_old K3 (by omega)⟩
  simp [prI, prN, he]
def DigSpec (P : Program) (k : FuncId) : Prop := ∀ (n : Nat) (H : Hp), n < 10 -> CallsM P k #[.int .i64 n] H fun r H' => r = sV [UInt8.ofNat (48 + n)] /\ Keep (fun _ => False) H H'
theorem rdig_ok {P : Program} {ι : Ids} {k : FuncId} (hk : FnIs P k (c_rdig ι) r_rdig 1) : DigSpec P k := by
 intro n H hn
 obtain ⟨Q, hQ⟩ : ∃ Q : Value -> Hp -> Prop, Q = fun r H' => r = sV [UInt8.ofNat (48 + n)] /\ Keep (fun _ => False) H H' := ⟨_, rfl⟩
 rw [<- hQ]
 refine calls_of_vc hk (args := [_]) (by simp) ?_
 unfold c_rdig r_rdig
 have e1 : decide ((n : Int) < 10) = true := decide_eq_true (by omega)
 have w1 : IntKind.i64.wrap (48 + (n : Int)) = ((48 + n : Nat) : Int) := by rw [IntWalk.i64_in _ (by omega)]; omega
 have w2 : IntKind.u8.wrap ((48 + n : Nat) : Int) = (((UInt8.ofNat (48 + n)).toNat : Nat) : Int) := by
  rw [UInt8.toNat_ofNat', IntKind.wrap_u8]; omega
 simp -implicitDefEqProofs only [go_sem, zS, ↓reduceIte, Za, Zb, Zc, reduceCtorEq, zU, zV, Zf, Zg, Zh, Zi, Zd, Ze, zF, e1, w1, w2]
 refine kont_news fun H1 b1 e1 z1 B1 K1 => ?_
 have B1' : Bl H1 b1 (w8 [UInt8.ofNat (48 + n)]) := B1
 have hs : SlR H1 (.slice (some ⟨b1, 0, none⟩) 1 1) (w8 [UInt8.ofNat (48 + n)]) := SlR.bl B1' 0 1 1 (by omega) (by simp [w8_len])
 have hb := hs.bytesIn
 simp -implicitDefEqProofs only [go_sem, zS, ↓reduceIte, Za, Zb, Zc, reduceCtorEq, kont_eq, zU, zV, Zf, Zg, Zh, Zi, Zd, Ze, zF, hb, toBA_w8]
 refine ⟨okB2s_w8 hb, ?_⟩
 rw [hQ]
 exact ⟨rfl, K1⟩
end Go.Mg
namespace Go.Mg
open Go Go.RowKit
set_option linter.all false
set_option maxRecDepth 100000
def c_makS (ι : Ids) : S :=
 (.dr (.px (.t 37) .none (.fa 0 (.v 3)) (.px (.t 39) .none (.mv (.v 5)) (.px (.t 42) .none (.mv (.v 6)) (.wcons (.t 38) .none (.rd (.ld (.t 37))) (.wcons (.t 40) .none (.call (ι.f 287) [.t 39]) (.px
 (.t 41) .none (.sadd (.c (.string ⟨#[115]⟩)) (.t 40)) (.px (.t 43) .none (.m (.bld #[.string ⟨#[]⟩, .int .i64 0] [(0, (1, .t 41)), (1, (1, .t 42))])) (.wcons (.t 44) .none (.bldF (ι.t 290) 2 1 [.t
 43]) (.wcons (.t 45) .none (.app false (ι.t 290) 2 24 #[.string ⟨#[]⟩, .int .i64 0] (.t 38) (.t 44)) (.px (.t 46) .none (.fa 0 (.v 3)) (.wcons .no .none (.st (.t 46) (.t 45)) .done .wnil)) .wnil)
 .wnil))) .wnil) (.wcons (.t 40) .none (.call (ι.f 287) [.t 39]) (.px (.t 41) .none (.sadd (.c (.string ⟨#[115]⟩)) (.t 40)) (.px (.t 43) .none (.m (.bld #[.string ⟨#[]⟩, .int .i64 0] [(0, (1, .t 41)),
 (1, (1, .t 42))])) (.wcons (.t 38) .none (.rd (.ld (.t 37))) (.wcons (.t 44) .none (.bldF (ι.t 290) 2 1 [.t 43]) (.wcons (.t 45) .none (.app false (ι.t 290) 2 24 #[.string ⟨#[]⟩, .int .i64 0] (.t 38)
 (.t 44)) (.px (.t 46) .none (.fa 0 (.v 3)) (.wcons .no .none (.st (.t 46) (.t 45)) .done .wnil)) .wnil) .wnil) (.wcons (.t 44) .none (.bldF (ι.t 290) 2 1 [.t 43]) (.wcons (.t 38) .none (.rd (.ld (.t
 37))) (.wcons (.t 45) .none (.app false (ι.t 290) 2 24 #[.string ⟨#[]⟩, .int .i64 0] (.t 38) (.t 44)) (.px (.t 46) .none (.fa 0 (.v 3)) (.wcons .no .none (.st (.t 46) (.t 45)) .done .wnil)) .wnil)
 .wnil) .wnil)))) .wnil))))))
def c_makB (ι : Ids) : S :=
 (.reg [.p (.t 79) (.fa 1 (.v 3)), .p (.t 80) (.ld (.t 79)), .p (.t 81) (.m (.ldn 2 (.v 8))), .e (.t 82) (.bldF (ι.t 194) 2 1 [.t 81]), .e (.t 83) (.app false (ι.t 194) 2 16 #[.int .i64 0, .int .i64 0]
 (.t 80) (.t 82)), .p (.t 84) (.fa 1 (.v 3)), .e .no (.st (.t 84) (.t 83))])
def c_makD (ι : Ids) : S :=
 (.dr (.px (.t 100) .none (.fa 2 (.v 3)) (.px (.t 102) .none (.fa 3 (.v 1)) (.px (.t 103) .none (.ld (.t 102)) (.px (.t 104) .none (.mv (.v 9)) (.px (.t 105) .none (.is 2 (.t 103) (.t 104)) (.px (.t
 106) .none (.m (.ldn 2 (.t 105))) (.px (.t 107) .none (.mv (.v 4)) (.wcons (.t 101) .none (.rd (.ld (.t 100))) (.wcons (.t 108) .none (.call (ι.f 286) [.t 106, .t 107]) (.wcons (.t 109) .none (.bldF
 (ι.t 194) 2 1 [.t 108]) (.wcons (.t 110) .none (.app false (ι.t 194) 2 16 #[.int .i64 0, .int .i64 0] (.t 101) (.t 109)) (.px (.t 111) .none (.fa 2 (.v 3)) (.wcons .no .none (.st (.t 111) (.t 110))
 .done .wnil)) .wnil) .wnil) .wnil) (.wcons (.t 108) .none (.call (ι.f 286) [.t 106, .t 107]) (.wcons (.t 101) .none (.rd (.ld (.t 100))) (.wcons (.t 109) .none (.bldF (ι.t 194) 2 1 [.t 108]) (.wcons
 (.t 110) .none (.app false (ι.t 194) 2 16 #[.int .i64 0, .int .i64 0] (.t 101) (.t 109)) (.px (.t 111) .none (.fa 2 (.v 3)) (.wcons .no .none (.st (.t 111) (.t 110)) .done .wnil)) .wnil) .wnil)
 (.wcons (.t 109) .none (.bldF (ι.t 194) 2 1 [.t 108]) (.wcons (.t 101) .none (.rd (.ld (.t 100))) (.wcons (.t 110) .none (.app false (ι.t 194) 2 16 #[.int .i64 0, .int .i64 0] (.t 101) (.t 109)) (.px
 (.t 111) .none (.fa 2 (.v 3)) (.wcons .no .none (.st (.t 111) (.t 110)) .done .wnil)) .wnil) .wnil) .wnil)) .wnil))))))))))
def c_makA (ι : Ids) : S :=
 (.dr (.px (.t 127) .none (.fa 3 (.v 3)) (.px (.t 129) .none (.fa 4 (.v 1)) (.px (.t 130) .none (.ld (.t 129)) (.px (.t 131) .none (.mv (.v 10)) (.px (.t 132) .none (.is 2 (.t 130) (.t 131)) (.px (.t
 133) .none (.m (.ldn 2 (.t 132))) (.px (.t 134) .none (.mv (.v 4)) (.wcons (.t 128) .none (.rd (.ld (.t 127))) (.wcons (.t 135) .none (.call (ι.f 286) [.t 133, .t 134]) (.wcons (.t 136) .none (.bldF
 (ι.t 194) 2 1 [.t 135]) (.wcons (.t 137) .none (.app false (ι.t 194) 2 16 #[.int .i64 0, .int .i64 0] (.t 128) (.t 136)) (.px (.t 138) .none (.fa 3 (.v 3)) (.wcons .no .none (.st (.t 138) (.t 137))
 .done .wnil)) .wnil) .wnil) .wnil) (.wcons (.t 135) .none (.call (ι.f 286) [.t 133, .t 134]) (.wcons (.t 128) .none (.rd (.ld (.t 127))) (.wcons (.t 136) .none (.bldF (ι.t 194) 2 1 [.t 135]) (.wcons
 (.t 137) .none (.app false (ι.t 194) 2 16 #[.int .i64 0, .int .i64 0] (.t 128) (.t 136)) (.px (.t 138) .none (.fa 3 (.v 3)) (.wcons .no .none (.st (.t 138) (.t 137)) .done .wnil)) .wnil) .wnil)
 (.wcons (.t 136) .none (.bldF (ι.t 194) 2 1 [.t 135]) (.wcons (.t 128) .none (.rd (.ld (.t 127))) (.wcons (.t 137) .none (.app false (ι.t 194) 2 16 #[.int .i64 0, .int .i64 0] (.t 128) (.t 136)) (.px
 (.t 138) .none (.fa 3 (.v 3)) (.wcons .no .none (.st (.t 138) (.t 137)) .done .wnil)) .wnil) .wnil) .wnil)) .wnil))))))))))
def c_makM (ι : Ids) : S :=
 (.dr (.px (.t 166) .none (.fa 4 (.v 3)) (.px (.t 168) .none (.fa 5 (.v 1)) (.px (.t 169) .none (.ld (.t 168)) (.px (.t 170) .none (.mv (.v 11)) (.px (.t 171) .none (.is 2 (.t 169) (.t 170)) (.px (.t
 172) .none (.ia 2 1 (.t 171) (.c (.int .i64 0))) (.px (.t 173) .none (.ld (.t 172)) (.px (.t 174) .none (.dv .rem .u8 (.t 173) (.c (.int .u8 3))) (.px (.t 175) .none (.ii .i64 (.t 174)) (.px (.t 176)
 .none (.ar .add .i64 (.c (.int .i64 1)) (.t 175)) (.px (.t 177) .none (.mv (.v 12)) (.px (.t 178) .none (.m (.bld #[.int .i64 0, .int .u64 0] [(0, (1, .t 176)), (1, (1, .t 177))])) (.wcons (.t 167)
 .none (.rd (.ld (.t 166))) (.wcons (.t 179) .none (.bldF (ι.t 291) 2 1 [.t 178]) (.wcons (.t 180) .none (.app false (ι.t 291) 2 16 #[.int .i64 0, .int .u64 0] (.t 167) (.t 179)) (.px (.t 181) .none
 (.fa 4 (.v 3)) (.wcons .no .none (.st (.t 181) (.t 180)) .done .wnil)) .wnil) .wnil) (.wcons (.t 179) .none (.bldF (ι.t 291) 2 1 [.t 178]) (.wcons (.t 167) .none (.rd (.ld (.t 166))) (.wcons (.t 180)
 .none (.app false (ι.t 291) 2 16 #[.int .i64 0, .int .u64 0] (.t 167) (.t 179)) (.px (.t 181) .none (.fa 4 (.v 3)) (.wcons .no .none (.st (.t 181) (.t 180)) .done .wnil)) .wnil) .wnil)
 .wnil)))))))))))))))
def c_cndB (ι : Ids) : S :=
 (.seq (.reg [.p (.t 47) (.mv (.v 7)), .p (.t 48) (.fa 2 (.v 1)), .p (.t 49) (.ld (.t 48)), .p (.t 50) (.m (.lenl (.t 49))), .p (.t 51) (.cm .lss .i64 (.t 47) (.t 50)), .p (.t 52) (.mv (.t 51)), .gp
 (.t 53) (.t 52) true (.mv (.v 7)), .gp (.t 54) (.t 52) true (.cm .lss .i64 (.t 53) (.c (.int .i64 6))), .p (.t 55) (.pick (.t 52) (.t 54) (.c (.bool false))), .p (.t 56) (.mv (.t 55)), .gp (.t 57) (.t
 56) true (.mv (.v 4)), .gp (.t 58) (.t 56) true (.cm .gtr .i64 (.t 57) (.c (.int .i64 1))), .p (.v 59) (.pick (.t 56) (.t 58) (.c (.bool false)))]) (.ite (.v 59) .skip (.exit 2)))
def c_cndD (ι : Ids) : S :=
 (.seq (.reg [.p (.t 85) (.mv (.v 9)), .p (.t 86) (.fa 3 (.v 1)), .p (.t 87) (.ld (.t 86)), .p (.t 88) (.m (.lenl (.t 87))), .p (.t 89) (.cm .lss .i64 (.t 85) (.t 88)), .p (.t 90) (.mv (.t 89)), .gp
 (.t 91) (.t 90) true (.mv (.v 9)), .gp (.t 92) (.t 90) true (.cm .lss .i64 (.t 91) (.c (.int .i64 6))), .p (.t 93) (.pick (.t 90) (.t 92) (.c (.bool false))), .p (.t 94) (.mv (.t 93)), .gp (.t 95) (.t
 94) true (.mv (.v 4)), .gp (.t 96) (.t 94) true (.cm .gtr .i64 (.t 95) (.c (.int .i64 1))), .p (.v 97) (.pick (.t 94) (.t 96) (.c (.bool false)))]) (.ite (.v 97) .skip (.exit 4)))
def c_cndA (ι : Ids) : S :=
 (.seq (.reg [.p (.t 112) (.mv (.v 10)), .p (.t 113) (.fa 4 (.v 1)), .p (.t 114) (.ld (.t 113)), .p (.t 115) (.m (.lenl (.t 114))), .p (.t 116) (.cm .lss .i64 (.t 112) (.t 115)), .p (.t 117) (.mv (.t
 116)), .gp (.t 118) (.t 117) true (.mv (.v 10)), .gp (.t 119) (.t 117) true (.cm .lss .i64 (.t 118) (.c (.int .i64 3))), .p (.t 120) (.pick (.t 117) (.t 119) (.c (.bool false))), .p (.t 121) (.mv (.t
 120)), .gp (.t 122) (.t 121) true (.mv (.v 4)), .gp (.t 123) (.t 121) true (.cm .gtr .i64 (.t 122) (.c (.int .i64 1))), .p (.v 124) (.pick (.t 121) (.t 123) (.c (.bool false)))]) (.ite (.v 124) .skip
 (.exit 6)))
def c_cndM (ι : Ids) : S :=
 (.seq (.reg [.p (.t 139) (.mv (.v 11)), .p (.t 140) (.fa 5 (.v 1)), .p (.t 141) (.ld (.t 140)), .p (.t 142) (.m (.lenl (.t 141))), .p (.t 143) (.cm .lss .i64 (.t 139) (.t 142)), .p (.t 144) (.mv (.t
 143)), .gp (.t 145) (.t 144) true (.mv (.v 11)), .gp (.t 146) (.t 144) true (.cm .lss .i64 (.t 145) (.c (.int .i64 3))), .p (.v 147) (.pick (.t 144) (.t 146) (.c (.bool false)))]) (.ite (.v 147) .skip
 (.exit 8)))
def c_rmakf (ι : Ids) : S :=
 .seq (.reg [.e (.v 1) (.box (ι.t 288) (.v 0)), .e (.v 2) (.new (ι.t 289) #[.slice .none 0 0, .slice .none 0 0, .slice .none 0 0, .slice .none 0 0, .slice .none 0 0])]) (.seq (.reg [.p (.t 13) (.m
 (.bld #[.slice .none 0 0, .slice .none 0 0, .slice .none 0 0, .slice .none 0 0, .slice .none 0 0] [])), .e (.v 3) (.new (ι.t 289) #[.slice .none 0 0, .slice .none 0 0, .slice .none 0 0, .slice .none 0
 0, .slice .none 0 0]), .e .no (.stn 5 (.v 3) (.t 13))]) (.seq (.reg [.p (.t 14) (.fa 0 (.v 1)), .p (.t 15) (.ld (.t 14)), .p (.t 16) (.dv .rem .u8 (.t 15) (.c (.int .u8 5))), .p (.t 17) (.ii .i64 (.t
 16)), .p (.t 18) (.ar .add .i64 (.c (.int .i64 1)) (.t 17)), .p (.v 4) (.mv (.t 18))]) (.seq (.seq (.reg [.p (.v 5) (.mv (.c (.int .i64 0)))]) (.blk 0 (.loop (.seq (.seq (.reg [.p (.t 19) (.mv (.v
 5)), .p (.t 20) (.mv (.v 4)), .p (.v 21) (.cm .lss .i64 (.t 19) (.t 20))]) (.ite (.v 21) .skip (.exit 0))) (.seq (.blk 1 (.seq (.reg [.p (.v 6) (.mv (.c (.int .i64 1)))]) (.seq (.seq (.reg [.p (.t 24)
 (.mv (.v 5)), .p (.t 25) (.fa 1 (.v 1)), .p (.t 26) (.ld (.t 25)), .p (.t 27) (.m (.lenl (.t 26))), .p (.v 28) (.cm .lss .i64 (.t 24) (.t 27))]) (.ite (.v 28) (.reg [.p (.t 29) (.fa 1 (.v 1)), .p (.t
 30) (.ld (.t 29)), .p (.t 31) (.mv (.v 5)), .p (.t 32) (.is 1 (.t 30) (.t 31)), .p (.t 33) (.ld (.t 32)), .p (.t 34) (.dv .rem .u8 (.t 33) (.c (.int .u8 4))), .p (.t 35) (.ii .i64 (.t 34)), .p (.t 36)
 (.ar .add .i64 (.c (.int .i64 1)) (.t 35)), .p (.v 6) (.mv (.t 36))]) .skip)) (c_makS ι)))) (.reg [.p (.t 22) (.mv (.v 5)), .p (.t 23) (.ar .add .i64 (.t 22) (.c (.int .i64 1))), .p (.v 5) (.mv (.t
 23))])))))) (.seq (.seq (.reg [.p (.v 7) (.mv (.c (.int .i64 0)))]) (.blk 2 (.loop (.seq (c_cndB ι) (.seq (.blk 3 (.seq (.reg [.p (.t 62) (.fa 2 (.v 1)), .p (.t 63) (.ld (.t 62)), .p (.t 64) (.mv (.v
 7)), .p (.t 65) (.is 2 (.t 63) (.t 64)), .p (.t 66) (.m (.ldn 2 (.t 65))), .p (.t 67) (.mv (.v 4)), .e (.t 68) (.call (ι.f 286) [.t 66, .t 67]), .e (.v 8) (.new (ι.t 194) #[.int .i64 0, .int .i64 0]),
 .e .no (.stn 2 (.v 8) (.t 68))]) (.seq (.seq (.reg [.p (.t 69) (.ia 2 1 (.v 8) (.c (.int .i64 0))), .p (.t 70) (.ld (.t 69)), .p (.t 71) (.ia 2 1 (.v 8) (.c (.int .i64 1))), .p (.t 72) (.ld (.t 71)),
 .p (.v 73) (.cm .gtr .i64 (.t 70) (.t 72))]) (.ite (.v 73) (.reg [.p (.t 74) (.ia 2 1 (.v 8) (.c (.int .i64 1))), .p (.t 75) (.ld (.t 74)), .p (.t 76) (.ia 2 1 (.v 8) (.c (.int .i64 0))), .p (.t 77)
 (.ld (.t 76)), .p (.t 78) (.m (.bld #[.int .i64 0, .int .i64 0] [(0, (1, .t 75)), (1, (1, .t 77))])), .e .no (.stn 2 (.v 8) (.t 78))]) .skip)) (c_makB ι)))) (.reg [.p (.t 60) (.mv (.v 7)), .p (.t 61)
 (.ar .add .i64 (.t 60) (.c (.int .i64 1))), .p (.v 7) (.mv (.t 61))])))))) (.seq (.seq (.reg [.p (.v 9) (.mv (.c (.int .i64 0)))]) (.blk 4 (.loop (.seq (c_cndD ι) (.seq (.blk 5 (c_makD ι)) (.reg [.p
 (.t 98) (.mv (.v 9)), .p (.t 99) (.ar .add .i64 (.t 98) (.c (.int .i64 1))), .p (.v 9) (.mv (.t 99))])))))) (.seq (.seq (.reg [.p (.v 10) (.mv (.c (.int .i64 0)))]) (.blk 6 (.loop (.seq (c_cndA ι)
 (.seq (.blk 7 (c_makA ι)) (.reg [.p (.t 125) (.mv (.v 10)), .p (.t 126) (.ar .add .i64 (.t 125) (.c (.int .i64 1))), .p (.v 10) (.mv (.t 126))])))))) (.seq (.seq (.reg [.p (.v 11) (.mv (.c (.int .i64
 0)))]) (.blk 8 (.loop (.seq (c_cndM ι) (.seq (.blk 9 (.seq (.reg [.p (.t 150) (.fa 5 (.v 1)), .p (.t 151) (.ld (.t 150)), .p (.t 152) (.mv (.v 11)), .p (.t 153) (.is 2 (.t 151) (.t 152)), .p (.t 154)
 (.ia 2 1 (.t 153) (.c (.int .i64 1))), .p (.t 155) (.ld (.t 154)), .p (.t 156) (.ii .u64 (.t 155)), .p (.t 157) (.mv (.v 4)), .p (.t 158) (.sh .shl .u64 (.c (.int .u64 1)) (.t 157)), .p (.t 159) (.ar
 .sub .u64 (.t 158) (.c (.int .u64 1))), .p (.t 160) (.bt .and .u64 (.t 156) (.t 159)), .p (.v 12) (.mv (.t 160))]) (.seq (.seq (.reg [.p (.t 161) (.mv (.v 12)), .p (.v 162) (.cm .eql .u64 (.t 161) (.c
 (.int .u64 0)))]) (.ite (.v 162) (.reg [.p (.t 163) (.mv (.v 4)), .p (.t 164) (.sh .shl .u64 (.c (.int .u64 1)) (.t 163)), .p (.t 165) (.ar .sub .u64 (.t 164) (.c (.int .u64 1))), .p (.v 12) (.mv (.t
 165))]) .skip)) (c_makM ι)))) (.reg [.p (.t 148) (.mv (.v 11)), .p (.t 149) (.ar .add .i64 (.t 148) (.c (.int .i64 1))), .p (.v 11) (.mv (.t 149))])))))) (.seq (.reg [.p (.t 182) (.m (.ldn 5 (.v 3))),
 .e .no (.stn 5 (.v 2) (.t 182))]) .ret))))))))
def r_rmakf : List RV := [.cn 2 5]
def encS (x : StN) : List Value := [sV x.1, .int .i64 x.2]
def encM (x : MoN) : List Value := [.int .i64 x.1, .int .u64 x.2.toNat]
def enc8 (x : UInt8 × UInt8) : List Value := [.int .u8 x.1.toNat, .int .u8 x.2.toNat]
theorem encS_len (x : StN) : (encS x).length = 2 := rfl
theorem encM_len (x : MoN) : (encM x).length = 2 := rfl
theorem enc8_len (x : UInt8 × UInt8) : (enc8 x).length = 2 := rfl
theorem encS_one (x : StN) : ∀ v ∈ encS x, v.oneCell' = true := by
 intro v hv; simp [encS] at hv; rcases hv with rfl | rfl <;> rfl
theorem encM_one (x : MoN) : ∀ v ∈ encM x, v.oneCell' = true := by
 intro v hv; simp [encM] at hv; rcases hv with rfl | rfl <;> rfl
def RefFl (H : Hp) (v : Value) (f : FlN) : Prop := ∃ s b d a m, v = .agg #[s, b, d, a, m] /\ SlE encS 2 H s f.st /\ SlP H b f.be /\ SlP H d f.di /\ SlP H a f.sa /\ SlE encM 2 H m f.mo
def flB (v : Value) (q : Nat) : Prop := ∃ c ∈ gL v, slB c q
theorem RefFl.keep {W : Nat -> Prop} {H H' : Hp} {v : Value} {f : FlN} (h : RefFl H v f) (hk : Keep W H H') (hw : ∀ q, flB v q -> ¬ W q) : RefFl H' v f := by
 obtain ⟨s, b, d, a, m, rfl, h1, h2, h3, h4, h5⟩ := h
 have w : ∀ c ∈ [s, b, d, a, m], ∀ q, slB c q -> ¬ W q := fun c hc q hq => hw q ⟨c, hc, hq⟩
 exact ⟨s, b, d, a, m, rfl, h1.keep hk (w s (by simp)), h2.keep hk (w b (by simp)), h3.keep hk (w d (by simp)), h4.keep hk (w a (by simp)), h5.keep hk (w m (by simp))⟩
theorem RefFl.keep0 {H H' : Hp} {v : Value} {f : FlN} (h : RefFl H v f) (hk : Keep (fun _ => False) H H') : RefFl H' v f := h.keep hk fun _ _ h => h
def RawFV (H : Hp) (v : Value) (r : RawF) : Prop := r.n < 256 /\ ∃ ro be di sa mo el, v = .agg #[.int .u8 (r.n : Int), ro, be, di, sa, mo, el] /\ SlR H ro (w8 r.ro) /\ SlE enc8 2 H be r.be /\ SlE enc8 2 H di r.di /\ SlE enc8 2 H sa r.sa /\ SlE enc8 2 H mo r.mo /\ SlR H el (w8 r.el)
theorem RawFV.keep0 {H H' : Hp} {v : Value} {r : RawF} (h : RawFV H v r) (hk : Keep (fun _ => False) H H') : RawFV H' v r := by
 obtain ⟨h0, ro, be, di, sa, mo, el, rfl, h1, h2, h3, h4, h5, h6⟩ := h
 exact ⟨h0, ro, be, di, sa, mo, el, rfl, h1.keep hk (by simp), h2.keep0 hk, h3.keep0 hk, h4.keep0 hk, h5.keep0 hk, h6.keep hk (by simp)⟩
theorem ldNA_cell {H : Hp} {b o n : Nat} {l : List Value} (h : ldNA H ⟨b, o, none⟩ n = some l.toArray) {j : Nat} (hj : j < n) : cell H ⟨b, o + j, none⟩ = l[j]? := by
 unfold ldNA at h
 simp only [Option.isSome_none, Bool.false_eq_true, if_false] at h
 split at h
 ·rename_i C T z hb
  split at h
  ·rename_i hle
   simp only [Option.some.injEq] at h
   have e : l[j]? = (C.extract o (o + n))[j]? := by rw [h]; simp
   rw [e]
   simp only [cell, hb, Option.isSome_none, Bool.false_eq_true, if_false]
   rw [Array.getElem?_extract]
   rw [if_pos (by omega)]
  ·cases h
 ·cases h
theorem stsF_succ (r : RawF) (i : Nat) : stsF r (i + 1) = stsF r i ++ [(nmS i, roI r.ro i)] := by simp [stsF, List.range_succ]
theorem stsF_len (r : RawF) (i : Nat) : (stsF r i).length = i := by simp [stsF]
theorem makS_ok {P : Program} {ι : Ids} (hd : DigSpec P (ι.f 287)) {f : Fr} {A : Hp} {b C i : Nat} {sv : Value} {L : List StN} {ro : Int} {cs : List Value} {Qb : Ex -> Fr -> Hp -> Prop} (h3 : f 3 = .pointer (some ⟨b, 0, none⟩)) (h5 : f 5 = .int .i64 (i : Int)) (h6 : f 6 = .int .i64 ro) (hi : i < 10) (hL : L.length <= 100)
  (B : Bl A b (sv :: cs)) (hb : b < C) (hC : C <= A.size) (O : OwE encS 2 A sv L) (o : ∀ q, ownB sv q -> C <= q)
  (hK : ∀ v' A', OwE encS 2 A' v' (L ++ [(nmS i, ro)]) -> (∀ q, ownB v' q -> C <= q) -> Bl A' b (v' :: cs) -> Keep (fun q => q = b \/ C <= q) A A' -> Qb .n f A') : vc P (c_makS ι) Qb f A := by
 unfold c_makS
 refine vc_drk (fun q => q = b \/ C <= q) ?_
 have c0 : ∀ {A' : Hp}, Keep (fun _ => False) A A' -> cell A' ⟨b, 0, none⟩ = some sv := fun K => by rw [(K.bl B (by simp)).cell]; rfl
 have hsa : ∀ (x : List UInt8), (ByteArray.mk [115].toArray) ++ (ByteArray.mk x.toArray) = ⟨([115] ++ x).toArray⟩ := fun x => rfl
 simp -implicitDefEqProofs only [go_sem, zS, ↓reduceIte, Za, Zb, Zc, reduceCtorEq, kont_eq, zU, zV, Zf, Zg, Zh, Zi, Zd, Ze, zF, h3, h5, h6, c0 (Keep.refl _ A)]
 have fin : ∀ (A2 : Hp) (bb : Nat) (e : Env), Keep (fun _ => False) A A2 -> Bl A2 bb (encS (nmS i, ro)) -> AppC false (ι.t 290) 2 24 #[.string ⟨#[]⟩, .int .i64 0] sv (.slice (some ⟨bb, 0, none⟩) 1 1) A2 (kontK P (fun q => q = b \/ C <= q) A2 (.t 45) (.px (.t 46) none (.fa 0 (.v 3)) (.wcons .no none (.st (.t 46) (.t 45)) .done .wnil)) e f (Qb .n)) := fun A2 bb e K B2 =>
  app_field encS_len encS_one (O.keep K (by simp)) o (by have := K.size; omega) (SlE.bl B2 (l := [(nmS i, ro)]) rfl (by simp [encS]) (by simp)) rfl (by omega) (by simp; omega) (K.bl B (by simp)) hb (by simp) h3 rfl fun v' A' O' o' B' K' => hK v' A' O' o' B' ((K.mono fun _ _ h => h.elim).trans K')
 have weak : ∀ {X Y : Hp}, Keep (fun _ => False) X Y -> Keep (fun q => q = b \/ C <= q) X Y := fun K => K.mono fun _ _ h => h.elim
 have h2m : 2 <= maxLen := by unfold maxLen; omega
 refine ⟨⟨Keep.refl _ _, (hd i A hi).mono ?_⟩, (hd i A hi).mono ?_⟩
 ·rintro x A1 ⟨rfl, K1⟩
  simp -implicitDefEqProofs only [go_sem, zS, ↓reduceIte, Za, Zb, Zc, reduceCtorEq, kont_eq, zU, zV, Zf, Zg, Zh, Zi, Zd, Ze, zF, sV]
  refine ⟨weak K1, h2m, ?_⟩
  generalize hA2 : A1.push _ = A2
  have B2 : Bl A2 A1.size (encS (nmS i, ro)) := by rw [<- hA2]; exact Bl.new' _ _ _
  have K2 : Keep (fun _ => False) A1 A2 := by rw [<- hA2]; exact (Keep.refl _ _).push _
  exact ⟨weak K2, fin A2 _ _ (K1.trans K2) B2⟩
 ·rintro x A1 ⟨rfl, K1⟩
  simp -implicitDefEqProofs only [go_sem, zS, ↓reduceIte, Za, Zb, Zc, reduceCtorEq, kont_eq, zU, zV, Zf, Zg, Zh, Zi, Zd, Ze, zF, sV, c0 K1]
  refine ⟨weak K1, h2m, ?_⟩
  generalize hA2 : A1.push _ = A2
  have B2 : Bl A2 A1.size (encS (nmS i, ro)) := by rw [<- hA2]; exact Bl.new' _ _ _
  have K2 : Keep (fun _ => False) A1 A2 := by rw [<- hA2]; exact (Keep.refl _ _).push _
  simp -implicitDefEqProofs only [go_sem, zS, ↓reduceIte, Za, Zb, Zc, reduceCtorEq, kont_eq, zU, zV, Zf, Zg, Zh, Zi, Zd, Ze, c0 (K1.trans K2)]
  exact ⟨⟨Keep.refl _ _, weak K2, fin A2 _ _ (K1.trans K2) B2⟩, weak K2, Keep.refl _ _, fin A2 _ _ (K1.trans K2) B2⟩
theorem makD_ok {P : Program} {ι : Ids} (hp : PairSpec P (ι.f 286)) {f : Fr} {A : Hp} {b1 b C i n : Nat} {dv r0 r1 r2 r4 r5 r6 : Value} {l : List (UInt8 × UInt8)} {L : List PrN} {Qb : Ex -> Fr -> Hp -> Prop} (h1 : f 1 = .pointer (some ⟨b1, 0, none⟩)) (h3 : f 3 = .pointer (some ⟨b, 0, none⟩)) (h4 : f 4 = .int .i64 (n : Int)) (h9 : f 9 = .int .i64 (i : Int)) (hn : 1 < n) (hn5 : n <= 5) (hL : L.length <= 100)
  (B1 : Bl A b1 [r0, r1, r2, dv, r4, r5, r6]) (hl : SlE enc8 2 A dv l) (hi : i < l.length) {y0 y1 y2 y3 y4 : Value} (B : Bl A b [y0, y1, y2, y3, y4]) (hb1 : b1 < b) (hb : b < C) (hdv : ∀ q, slB dv q -> q < b) (hC : C <= A.size) (O : OwP A y2 L) (o : ∀ q, ownB y2 q -> C <= q)
  (hK : ∀ v' A', OwP A' v' (L ++ [prI n l[i]]) -> (∀ q, ownB v' q -> C <= q) -> Bl A' b [y0, y1, v', y3, y4] -> Keep (fun q => q = b \/ C <= q) A A' -> Qb .n f A') : vc P (c_makD ι) Qb f A := by
 unfold c_makD
 refine vc_drk (fun q => q = b \/ C <= q) ?_
 have c0 : ∀ {A' : Hp}, Keep (fun _ => False) A A' -> cell A' ⟨b, 2, none⟩ = some y2 := fun K => by rw [(K.bl B (by simp)).cell]; rfl
 have c1 : cell A ⟨b1, 3, none⟩ = some dv := by rw [B1.cell]; rfl
 obtain ⟨pb, po, pc, hwe, hpb, hld⟩ := hl.elem enc8_len hi
 have hpb' := hdv pb hpb
 obtain ⟨x, hx⟩ : ∃ x, x = l[i] := ⟨_, rfl⟩
 rw [<- hx] at hld hK
 have hld' : ldNA A ⟨pb, po + i * 2, none⟩ 2 = some #[.int .u8 x.1.toNat, .int .u8 x.2.toNat] := hld
 have fin : ∀ (A2 : Hp) (bb : Nat) (e : Env), Keep (fun _ => False) A A2 -> Bl A2 bb (pE (prI n x)) -> AppC false (ι.t 194) 2 16 #[.int .i64 0, .int .i64 0] y2 (.slice (some ⟨bb, 0, none⟩) 1 1) A2 (kontK P (fun q => q = b \/ C <= q) A2 (.t 110) (.px (.t 111) none (.fa 2 (.v 3)) (.wcons .no none (.st (.t 111) (.t 110)) .done .wnil)) e f (Qb .n)) := fun A2 bb e K B2 =>
  app_field pE_len pE_one (O.keep K (by simp)) o (by have := K.size; omega) (SlE.bl B2 (l := [prI n x]) rfl (by simp [pE]) (by simp)) rfl (by omega) (by simp; omega) (K.bl B (by simp)) hb (by simp) h3 rfl fun v' A' O' o' B' K' => hK v' A' O' o' B' ((K.mono fun _ _ h => h.elim).trans K')
 have weak : ∀ {X Y : Hp}, Keep (fun _ => False) X Y -> Keep (fun q => q = b \/ C <= q) X Y := fun K => K.mono fun _ _ h => h.elim
 simp -implicitDefEqProofs only [go_sem, zS, ↓reduceIte, Za, Zb, Zc, reduceCtorEq, kont_eq, zU, zV, Zf, Zg, Zh, Zi, Zd, Ze, zF, h1, h3, h4, h9, c0 (Keep.refl _ A), c1, hwe, tn_cast, ldNO_ptr, hld']
 refine ⟨by omega, by omega, by omega, ⟨Keep.refl _ _, (hp n x A hn (by omega)).mono ?_⟩, (hp n x A hn (by omega)).mono ?_⟩
 ·rintro y A1 ⟨rfl, K1⟩
  simp -implicitDefEqProofs only [go_sem, zS, ↓reduceIte, Za, Zb, Zc, reduceCtorEq, kont_eq, zU, zV, Zf, Zg, Zh, Zi, Zd, Ze, zF]
  refine ⟨weak K1, ?_⟩
  generalize hA2 : A1.push _ = A2
  have B2 : Bl A2 A1.size (pE (prI n x)) := by rw [<- hA2]; exact Bl.new' _ _ _
  have K2 : Keep (fun _ => False) A1 A2 := by rw [<- hA2]; exact (Keep.refl _ _).push _
  exact ⟨weak K2, fin A2 _ _ (K1.trans K2) B2⟩
 ·rintro y A1 ⟨rfl, K1⟩
  simp -implicitDefEqProofs only [go_sem, zS, ↓reduceIte, Za, Zb, Zc, reduceCtorEq, kont_eq, zU, zV, Zf, Zg, Zh, Zi, Zd, Ze, zF, h3, c0 K1]
  refine ⟨weak K1, ?_⟩
  generalize hA2 : A1.push _ = A2
  have B2 : Bl A2 A1.size (pE (prI n x)) := by rw [<- hA2]; exact Bl.new' _ _ _
  have K2 : Keep (fun _ => False) A1 A2 := by rw [<- hA2]; exact (Keep.refl _ _).push _
  simp -implicitDefEqProofs only [go_sem, zS, ↓reduceIte, Za, Zb, Zc, reduceCtorEq, kont_eq, zU, zV, Zf, Zg, Zh, Zi, Zd, Ze, c0 (K1.trans K2)]
  exact ⟨⟨Keep.refl _ _, weak K2, fin A2 _ _ (K1.trans K2) B2⟩, weak K2, Keep.refl _ _, fin A2 _ _ (K1.trans K2) B2⟩
theorem makA_ok {P : Program} {ι : Ids} (hp : PairSpec P (ι.f 286)) {f : Fr} {A : Hp} {b1 b C i n : Nat} {dv r0 r1 r2 r3 r5 r6 : Value} {l : List (UInt8 × UInt8)} {L : List PrN} {Qb : Ex -> Fr -> Hp -> Prop} (h1 : f 1 = .pointer (some ⟨b1, 0, none⟩)) (h3 : f 3 = .pointer (some ⟨b, 0, none⟩)) (h4 : f 4 = .int .i64 (n : Int)) (h9 : f 10 = .int .i64 (i : Int)) (hn : 1 < n) (hn5 : n <= 5) (hL : L.length <= 100)
  (B1 : Bl A b1 [r0, r1, r2, r3, dv, r5, r6]) (hl : SlE enc8 2 A dv l) (hi : i < l.length) {y0 y1 y2 y3 y4 : Value} (B : Bl A b [y0, y1, y2, y3, y4]) (hb1 : b1 < b) (hb : b < C) (hdv : ∀ q, slB dv q -> q < b) (hC : C <= A.size) (O : OwP A y3 L) (o : ∀ q, ownB y3 q -> C <= q)
  (hK : ∀ v' A', OwP A' v' (L ++ [prI n l[i]]) -> (∀ q, ownB v' q -> C <= q) -> Bl A' b [y0, y1, y2, v', y4] -> Keep (fun q => q = b \/ C <= q) A A' -> Qb .n f A') : vc P (c_makA ι) Qb f A := by
 unfold c_makA
 refine vc_drk (fun q => q = b \/ C <= q) ?_
 have c0 : ∀ {A' : Hp}, Keep (fun _ => False) A A' -> cell A' ⟨b, 3, none⟩ = some y3 := fun K => by rw [(K.bl B (by simp)).cell]; rfl
 have c1 : cell A ⟨b1, 4, none⟩ = some dv := by rw [B1.cell]; rfl
 obtain ⟨pb, po, pc, hwe, hpb, hld⟩ := hl.elem enc8_len hi
 have hpb' := hdv pb hpb
 obtain ⟨x, hx⟩ : ∃ x, x = l[i] := ⟨_, rfl⟩
 rw [<- hx] at hld hK
 have hld' : ldNA A ⟨pb, po + i * 2, none⟩ 2 = some #[.int .u8 x.1.toNat, .int .u8 x.2.toNat] := hld
 have fin : ∀ (A2 : Hp) (bb : Nat) (e : Env), Keep (fun _ => False) A A2 -> Bl A2 bb (pE (prI n x)) -> AppC false (ι.t 194) 2 16 #[.int .i64 0, .int .i64 0] y3 (.slice (some ⟨bb, 0, none⟩) 1 1) A2 (kontK P (fun q => q = b \/ C <= q) A2 (.t 137) (.px (.t 138) none (.fa 3 (.v 3)) (.wcons .no none (.st (.t 138) (.t 137)) .done .wnil)) e f (Qb .n)) := fun A2 bb e K B2 =>
  app_field pE_len pE_one (O.keep K (by simp)) o (by have := K.size; omega) (SlE.bl B2 (l := [prI n x]) rfl (by simp [pE]) (by simp)) rfl (by omega) (by simp; omega) (K.bl B (by simp)) hb (by simp) h3 rfl fun v' A' O' o' B' K' => hK v' A' O' o' B' ((K.mono fun _ _ h => h.elim).trans K')
 have weak : ∀ {X Y : Hp}, Keep (fun _ => False) X Y -> Keep (fun q => q = b \/ C <= q) X Y := fun K => K.mono fun _ _ h => h.elim
 simp -implicitDefEqProofs only [go_sem, zS, ↓reduceIte, Za, Zb, Zc, reduceCtorEq, kont_eq, zU, zV, Zf, Zg, Zh, Zi, Zd, Ze, zF, h1, h3, h4, h9, c0 (Keep.refl _ A), c1, hwe, tn_cast, ldNO_ptr, hld']
 refine ⟨by omega, by omega, by omega, ⟨Keep.refl _ _, (hp n x A hn (by omega)).mono ?_⟩, (hp n x A hn (by omega)).mono ?_⟩
 ·rintro y A1 ⟨rfl, K1⟩
  simp -implicitDefEqProofs only [go_sem, zS, ↓reduceIte, Za, Zb, Zc, reduceCtorEq, kont_eq, zU, zV, Zf, Zg, Zh, Zi, Zd, Ze, zF]
  refine ⟨weak K1, ?_⟩
  generalize hA2 : A1.push _ = A2
  have B2 : Bl A2 A1.size (pE (prI n x)) := by rw [<- hA2]; exact Bl.new' _ _ _
  have K2 : Keep (fun _ => False) A1 A2 := by rw [<- hA2]; exact (Keep.refl _ _).push _
  exact ⟨weak K2, fin A2 _ _ (K1.trans K2) B2⟩
 ·rintro y A1 ⟨rfl, K1⟩
  simp -implicitDefEqProofs only [go_sem, zS, ↓reduceIte, Za, Zb, Zc, reduceCtorEq, kont_eq, zU, zV, Zf, Zg, Zh, Zi, Zd, Ze, zF, h3, c0 K1]
  refine ⟨weak K1, ?_⟩
  generalize hA2 : A1.push _ = A2
  have B2 : Bl A2 A1.size (pE (prI n x)) := by rw [<- hA2]; exact Bl.new' _ _ _
  have K2 : Keep (fun _ => False) A1 A2 := by rw [<- hA2]; exact (Keep.refl _ _).push _
  simp -implicitDefEqProofs only [go_sem, zS, ↓reduceIte, Za, Zb, Zc, reduceCtorEq, kont_eq, zU, zV, Zf, Zg, Zh, Zi, Zd, Ze, c0 (K1.trans K2)]
  exact ⟨⟨Keep.refl _ _, weak K2, fin A2 _ _ (K1.trans K2) B2⟩, weak K2, Keep.refl _ _, fin A2 _ _ (K1.trans K2) B2⟩
theorem sub1 (n : Nat) (hn : n <= 5) : IntKind.u64.wrap (IntKind.u64.wrap (1 * 2 ^ n) - 1) = ((allM n).toNat : Int) := by
 have : ∀ m : Fin 6, IntKind.u64.wrap (IntKind.u64.wrap (1 * 2 ^ m.val) - 1) = ((allM m.val).toNat : Int) := by decide
 exact this ⟨n, by omega⟩
theorem makM_ok {P : Program} {ι : Ids} {f : Fr} {A : Hp} {b1 b C i : Nat} {dv r0 r1 r2 r3 r4 r6 : Value} {l : List (UInt8 × UInt8)} {L : List MoN} {m : UInt64} {Qb : Ex -> Fr -> Hp -> Prop} (h1 : f 1 = .pointer (some ⟨b1, 0, none⟩)) (h3 : f 3 = .pointer (some ⟨b, 0, none⟩)) (h11 : f 11 = .int .i64 (i : Int)) (h12 : f 12 = .int .u64 m.toNat) (hL : L.length <= 100)
  (B1 : Bl A b1 [r0, r1, r2, r3, r4, dv, r6]) (hl : SlE enc8 2 A dv l) (hi : i < l.length) {y0 y1 y2 y3 y4 : Value} (B : Bl A b [y0, y1, y2, y3, y4]) (hb1 : b1 < b) (hb : b < C) (hdv : ∀ q, slB dv q -> q < b) (hC : C <= A.size) (O : OwE encM 2 A y4 L) (o : ∀ q, ownB y4 q -> C <= q)
  (hK : ∀ v' A', OwE encM 2 A' v' (L ++ [(1 + ((l[i].1.toNat % 3 : Nat) : Int), m)]) -> (∀ q, ownB v' q -> C <= q) -> Bl A' b [y0, y1, y2, y3, v'] -> Keep (fun q => q = b \/ C <= q) A A' -> Qb .n f A') : vc P (c_makM ι) Qb f A := by
 unfold c_makM
 refine vc_drk (fun q => q = b \/ C <= q) ?_
 have c0 : ∀ {A' : Hp}, Keep (fun _ => False) A A' -> cell A' ⟨b, 4, none⟩ = some y4 := fun K => by rw [(K.bl B (by simp)).cell]; rfl
 have c1 : cell A ⟨b1, 5, none⟩ = some dv := by rw [B1.cell]; rfl
 obtain ⟨pb, po, pc, hwe, hpb, hld⟩ := hl.elem enc8_len hi
 have hpb' := hdv pb hpb
 obtain ⟨x, hx⟩ : ∃ x, x = l[i] := ⟨_, rfl⟩
 rw [<- hx] at hld hK
 have c2 : cell A ⟨pb, po + i * 2, none⟩ = some (.int .u8 x.1.toNat) := ldNA_cell hld (j := 0) (by omega)
 have hlt := x.1.toNat_lt
 have m3 : ((x.1.toNat : Int)).tmod 3 = ((x.1.toNat % 3 : Nat) : Int) := tmod_nat _ 3
 have w3 : IntKind.i64.wrap ((x.1.toNat % 3 : Nat) : Int) = ((x.1.toNat % 3 : Nat) : Int) := IntWalk.i64_in _ (by omega)
 have w4 : IntKind.i64.wrap (1 + ((x.1.toNat % 3 : Nat) : Int)) = 1 + ((x.1.toNat % 3 : Nat) : Int) := IntWalk.i64_in _ (by omega)
 have fin : ∀ (A2 : Hp) (bb : Nat) (e : Env), Keep (fun _ => False) A A2 -> Bl A2 bb (encM (1 + ((x.1.toNat % 3 : Nat) : Int), m)) -> AppC false (ι.t 291) 2 16 #[.int .i64 0, .int .u64 0] y4 (.slice (some ⟨bb, 0, none⟩) 1 1) A2 (kontK P (fun q => q = b \/ C <= q) A2 (.t 180) (.px (.t 181) none (.fa 4 (.v 3)) (.wcons .no none (.st (.t 181) (.t 180)) .done .wnil)) e f (Qb .n)) := fun A2 bb e K B2 =>
  app_field encM_len encM_one (O.keep K (by simp)) o (by have := K.size; omega) (SlE.bl B2 (l := [(1 + ((x.1.toNat % 3 : Nat) : Int), m)]) rfl (by simp [encM]) (by simp)) rfl (by omega) (by simp; omega) (K.bl B (by simp)) hb (by simp) h3 rfl fun v' A' O' o' B' K' => hK v' A' O' o' B' ((K.mono fun _ _ h => h.elim).trans K')
 have weak : ∀ {X Y : Hp}, Keep (fun _ => False) X Y -> Keep (fun q => q = b \/ C <= q) X Y := fun K => K.mono fun _ _ h => h.elim
 simp -implicitDefEqProofs only [go_sem, zS, ↓reduceIte, Za, Zb, Zc, reduceCtorEq, kont_eq, zU, zV, Zf, Zg, Zh, Zi, Zd, Ze, zF, h1, h3, h11, h12, c0 (Keep.refl _ A), c1, hwe, tn_cast, c2, m3, w3, w4]
 refine ⟨by omega, by omega, by omega, by decide, ?_⟩
 generalize hA2 : A.push _ = A2
 have B2 : Bl A2 A.size (encM (1 + ((x.1.toNat % 3 : Nat) : Int), m)) := by rw [<- hA2]; exact Bl.new' _ _ _
 have K2 : Keep (fun _ => False) A A2 := by rw [<- hA2]; exact (Keep.refl _ _).push _
 simp -implicitDefEqProofs only [go_sem, zS, ↓reduceIte, Za, Zb, Zc, reduceCtorEq, kont_eq, zU, zV, Zf, Zg, Zh, Zi, Zd, Ze, c0 K2]
 exact ⟨⟨Keep.refl _ _, weak K2, fin A2 _ _ K2 B2⟩, weak K2, Keep.refl _ _, fin A2 _ _ K2 B2⟩
theorem makB_ok {P : Program} {ι : Ids} {f : Fr} {A : Hp} {b bp C : Nat} {L : List PrN} {x : PrN} {Qb : Ex -> Fr -> Hp -> Prop} (h3 : f 3 = .pointer (some ⟨b, 0, none⟩)) (h8 : f 8 = .pointer (some ⟨bp, 0, none⟩)) (hL : L.length <= 100)
  (Bp : Bl A bp (pE x)) {y0 y1 y2 y3 y4 : Value} (B : Bl A b [y0, y1, y2, y3, y4]) (hb : b < C) (hC : C <= A.size) (O : OwP A y1 L) (o : ∀ q, ownB y1 q -> C <= q)
  (hK : ∀ v' A', OwP A' v' (L ++ [x]) -> (∀ q, ownB v' q -> C <= q) -> Bl A' b [y0, v', y2, y3, y4] -> Keep (fun q => q = b \/ C <= q) A A' -> Qb .n f A') : vc P (c_makB ι) Qb f A := by
 unfold c_makB
 have c0 : cell A ⟨b, 1, none⟩ = some y1 := by rw [B.cell]; rfl
 simp -implicitDefEqProofs only [go_sem, zS, ↓reduceIte, Za, Zb, Zc, reduceCtorEq, zU, zV, Zf, Zg, Zh, Zi, Zd, Ze, zF, h3, h8, c0, Bp.ldNO 2 rfl]
 refine ⟨rfl, ?_⟩
 refine kont_news fun A2 b2 e2 z2 B2 K2 => ?_
 have B2' : Bl A2 b2 (pE x) := B2
 simp -implicitDefEqProofs only [go_sem, zS, ↓reduceIte, Za, Zb, Zc, reduceCtorEq, zU, zV, Zf, Zg, Zh, Zi, Zd, Ze, zF]
 exact app_fieldR pE_len pE_one (O.keep K2 (by simp)) o (by omega) (SlE.bl B2' (l := [x]) rfl (by simp [pE]) (by simp)) rfl (by omega) (by simp; omega) (K2.bl B (by simp)) hb (by simp) h3 rfl fun v' A' O' o' B' K' => hK v' A' O' o' B' ((K2.mono fun _ _ h => h.elim).trans K')
theorem take_snoc' {α : Type} {l : List α} {i : Nat} (h : i < l.length) : l.take (i + 1) = l.take i ++ [l[i]] := List.take_succ_eq_append_getElem h
theorem cndB_ok {P : Program} {ι : Ids} {f : Fr} {A : Hp} {b1 i n len : Nat} {dv : Value} {cs : List Value} {Qb : Ex -> Fr -> Hp -> Prop} (h1 : f 1 = .pointer (some ⟨b1, 0, none⟩)) (h4 : f 4 = .int .i64 (n : Int)) (h7 : f 7 = .int .i64 (i : Int)) (B1 : Bl A b1 cs) (hc : cs[2]? = some dv) (hd : isSl dv) (hl : lenV dv = len)
  (hT : i < min len 6 -> 1 < n -> Qb .n (upd f 59 (.bool true)) A) (hF : ¬ (i < min len 6 /\ 1 < n) -> Qb (.x 2) (upd f 59 (.bool false)) A) : vc P (c_cndB ι) Qb f A := by
 unfold c_cndB
 have c0 : cell A ⟨b1, 2, none⟩ = some dv := by rw [B1.cell]; exact hc
 by_cases e1 : i < len
 ·have d1 : decide ((i : Int) < (len : Int)) = true := decide_eq_true (by omega)
  by_cases e2 : i < 6
  ·have d2 : decide ((i : Int) < 6) = true := decide_eq_true (by omega)
   by_cases e3 : 1 < n
   ·have d3 : decide (1 < (n : Int)) = true := decide_eq_true (by omega)
    simp -implicitDefEqProofs only [go_sem, zS, ↓reduceIte, Za, Zb, Zc, reduceCtorEq, kont_eq, zU, zV, Zf, Zg, Zh, Zi, Zd, Ze, zF, h1, h4, h7, c0, hd, hl, d1, d2, gt_iff_lt, d3]
    exact hT (by omega) e3
   ·have d3 : decide (1 < (n : Int)) = false := decide_eq_false (by omega)
    simp -implicitDefEqProofs only [go_sem, zS, ↓reduceIte, Za, Zb, Zc, reduceCtorEq, kont_eq, zU, zV, Zf, Zg, Zh, Zi, Zd, Ze, zF, h1, h4, h7, c0, hd, hl, d1, d2, gt_iff_lt, d3]
    exact hF (by omega)
  ·have d2 : decide ((i : Int) < 6) = false := decide_eq_false (by omega)
   simp -implicitDefEqProofs only [go_sem, zS, ↓reduceIte, Za, Zb, Zc, reduceCtorEq, kont_eq, zU, zV, Zf, Zg, Zh, Zi, Zd, Ze, zF, h1, h4, h7, c0, hd, hl, d1, d2]
   exact hF (by omega)
 ·have d1 : decide ((i : Int) < (len : Int)) = false := decide_eq_false (by omega)
  simp -implicitDefEqProofs only [go_sem, zS, ↓reduceIte, Za, Zb, Zc, reduceCtorEq, kont_eq, zU, zV, Zf, Zg, Zh, Zi, Zd, Ze, zF, h1, h4, h7, c0, hd, hl, d1]
  exact hF (by omega)
theorem cndD_ok {P : Program} {ι : Ids} {f : Fr} {A : Hp} {b1 i n len : Nat} {dv : Value} {cs : List Value} {Qb : Ex -> Fr -> Hp -> Prop} (h1 : f 1 = .pointer (some ⟨b1, 0, none⟩)) (h4 : f 4 = .int .i64 (n : Int)) (h7 : f 9 = .int .i64 (i : Int)) (B1 : Bl A b1 cs) (hc : cs[3]? = some dv) (hd : isSl dv) (hl : lenV dv = len)
  (hT : i < min len 6 -> 1 < n -> Qb .n (upd f 97 (.bool true)) A) (hF : ¬ (i < min len 6 /\ 1 < n) -> Qb (.x 4) (upd f 97 (.bool false)) A) : vc P (c_cndD ι) Qb f A := by
 unfold c_cndD
 have c0 : cell A ⟨b1, 3, none⟩ = some dv := by rw [B1.cell]; exact hc
 by_cases e1 : i < len
 ·have d1 : decide ((i : Int) < (len : Int)) = true := decide_eq_true (by omega)
  by_cases e2 : i < 6
  ·have d2 : decide ((i : Int) < 6) = true := decide_eq_true (by omega)
   by_cases e3 : 1 < n
   ·have d3 : decide (1 < (n : Int)) = true := decide_eq_true (by omega)
    simp -implicitDefEqProofs only [go_sem, zS, ↓reduceIte, Za, Zb, Zc, reduceCtorEq, kont_eq, zU, zV, Zf, Zg, Zh, Zi, Zd, Ze, zF, h1, h4, h7, c0, hd, hl, d1, d2, gt_iff_lt, d3]
    exact hT (by omega) e3
   ·have d3 : decide (1 < (n : Int)) = false := decide_eq_false (by omega)
    simp -implicitDefEqProofs only [go_sem, zS, ↓reduceIte, Za, Zb, Zc, reduceCtorEq, kont_eq, zU, zV, Zf, Zg, Zh, Zi, Zd, Ze, zF, h1, h4, h7, c0, hd, hl, d1, d2, gt_iff_lt, d3]
    exact hF (by omega)
  ·have d2 : decide ((i : Int) < 6) = false := decide_eq_false (by omega)
   simp -implicitDefEqProofs only [go_sem, zS, ↓reduceIte, Za, Zb, Zc, reduceCtorEq, kont_eq, zU, zV, Zf, Zg, Zh, Zi, Zd, Ze, zF, h1, h4, h7, c0, hd, hl, d1, d2]
   exact hF (by omega)
 ·have d1 : decide ((i : Int) < (len : Int)) = false := decide_eq_false (by omega)
  simp -implicitDefEqProofs only [go_sem, zS, ↓reduceIte, Za, Zb, Zc, reduceCtorEq, kont_eq, zU, zV, Zf, Zg, Zh, Zi, Zd, Ze, zF, h1, h4, h7, c0, hd, hl, d1]
  exact hF (by omega)
theorem cndA_ok {P : Program} {ι : Ids} {f : Fr} {A : Hp} {b1 i n len : Nat} {dv : Value} {cs : List Value} {Qb : Ex -> Fr -> Hp -> Prop} (h1 : f 1 = .pointer (some ⟨b1, 0, none⟩)) (h4 : f 4 = .int .i64 (n : Int)) (h7 : f 10 = .int .i64 (i : Int)) (B1 : Bl A b1 cs) (hc : cs[4]? = some dv) (hd : isSl dv) (hl : lenV dv = len)
  (hT : i < min len 3 -> 1 < n -> Qb .n (upd f 124 (.bool true)) A) (hF : ¬ (i < min len 3 /\ 1 < n) -> Qb (.x 6) (upd f 124 (.bool false)) A) : vc P (c_cndA ι) Qb f A := by
 unfold c_cndA
 have c0 : cell A ⟨b1, 4, none⟩ = some dv := by rw [B1.cell]; exact hc
 by_cases e1 : i < len
 ·have d1 : decide ((i : Int) < (len : Int)) = true := decide_eq_true (by omega)
  by_cases e2 : i < 3
  ·have d2 : decide ((i : Int) < 3) = true := decide_eq_true (by omega)
   by_cases e3 : 1 < n
   ·have d3 : decide (1 < (n : Int)) = true := decide_eq_true (by omega)
    simp -implicitDefEqProofs only [go_sem, zS, ↓reduceIte, Za, Zb, Zc, reduceCtorEq, kont_eq, zU, zV, Zf, Zg, Zh, Zi, Zd, Ze, zF, h1, h4, h7, c0, hd, hl, d1, d2, gt_iff_lt, d3]
    exact hT (by omega) e3
   ·have d3 : decide (1 < (n : Int)) = false := decide_eq_false (by omega)
    simp -implicitDefEqProofs only [go_sem, zS, ↓reduceIte, Za, Zb, Zc, reduceCtorEq, kont_eq, zU, zV, Zf, Zg, Zh, Zi, Zd, Ze, zF, h1, h4, h7, c0, hd, hl, d1, d2, gt_iff_lt, d3]
    exact hF (by omega)
  ·have d2 : decide ((i : Int) < 3) = false := decide_eq_false (by omega)
   simp -implicitDefEqProofs only [go_sem, zS, ↓reduceIte, Za, Zb, Zc, reduceCtorEq, kont_eq, zU, zV, Zf, Zg, Zh, Zi, Zd, Ze, zF, h1, h4, h7, c0, hd, hl, d1, d2]
   exact hF (by omega)
 ·have d1 : decide ((i : Int) < (len : Int)) = false := decide_eq_false (by omega)
  simp -implicitDefEqProofs only [go_sem, zS, ↓reduceIte, Za, Zb, Zc, reduceCtorEq, kont_eq, zU, zV, Zf, Zg, Zh, Zi, Zd, Ze, zF, h1, h4, h7, c0, hd, hl, d1]
  exact hF (by omega)
theorem cndM_ok {P : Program} {ι : Ids} {f : Fr} {A : Hp} {b1 i len : Nat} {dv : Value} {cs : List Value} {Qb : Ex -> Fr -> Hp -> Prop} (h1 : f 1 = .pointer (some ⟨b1, 0, none⟩)) (h7 : f 11 = .int .i64 (i : Int)) (B1 : Bl A b1 cs) (hc : cs[5]? = some dv) (hd : isSl dv) (hl : lenV dv = len)
  (hT : i < min len 3 -> Qb .n (upd f 147 (.bool true)) A) (hF : ¬ i < min len 3 -> Qb (.x 8) (upd f 147 (.bool false)) A) : vc P (c_cndM ι) Qb f A := by
 unfold c_cndM
 have c0 : cell A ⟨b1, 5, none⟩ = some dv := by rw [B1.cell]; exact hc
 by_cases e1 : i < len
 ·have d1 : decide ((i : Int) < (len : Int)) = true := decide_eq_true (by omega)
  by_cases e2 : i < 3
  ·have d2 : decide ((i : Int) < 3) = true := decide_eq_true (by omega)
   simp -implicitDefEqProofs only [go_sem, zS, ↓reduceIte, Za, Zb, Zc, reduceCtorEq, kont_eq, zU, zV, Zf, Zg, Zh, Zi, Zd, Ze, zF, h1, h7, c0, hd, hl, d1, d2]
   exact hT (by omega)
  ·have d2 : decide ((i : Int) < 3) = false := decide_eq_false (by omega)
   simp -implicitDefEqProofs only [go_sem, zS, ↓reduceIte, Za, Zb, Zc, reduceCtorEq, kont_eq, zU, zV, Zf, Zg, Zh, Zi, Zd, Ze, zF, h1, h7, c0, hd, hl, d1, d2]
   exact hF (by omega)
 ·have d1 : decide ((i : Int) < (len : Int)) = false := decide_eq_false (by omega)
  simp -implicitDefEqProofs only [go_sem, zS, ↓reduceIte, Za, Zb, Zc, reduceCtorEq, kont_eq, zU, zV, Zf, Zg, Zh, Zi, Zd, Ze, zF, h1, h7, c0, hd, hl, d1]
  exact hF (by omega)
def RMakSpec (P : Program) (k : FuncId) : Prop := ∀ (r : RawF) (v : Value) (H : Hp), RawFV H v r -> CallsM P k #[v] H fun x H' => RefFl H' x (mkF r) /\ (∀ q, flB x q -> H.size <= q) /\ Keep (fun _ => False) H H'
theorem rmakf_ok {P : Program} {ι : Ids} {k : FuncId} (hk : FnIs P k (c_rmakf ι) r_rmakf 1) (hp : PairSpec P (ι.f 286)) (hd : DigSpec P (ι.f 287)) : RMakSpec P k := by
 intro r v H hv
 have hv0 := hv
 obtain ⟨hn, ro, be, di, sa, mo, el, rfl, hro, hbe, hdi, hsa, hmo, hel⟩ := hv
 obtain ⟨Q, hQ⟩ : ∃ Q : Value -> Hp -> Prop, Q = fun x H' => RefFl H' x (mkF r) /\ (∀ q, flB x q -> H.size <= q) /\ Keep (fun _ => False) H H' := ⟨_, rfl⟩
 rw [<- hQ]
 refine calls_of_vc hk (args := [_]) (by simp) ?_
 unfold c_rmakf r_rmakf
 simp -implicitDefEqProofs only [go_sem, zS, ↓reduceIte, Za, Zb, Zc, reduceCtorEq, zU, zV, Zf, Zg, Zh, Zi, Zd, Ze, zF]
 refine kont_new fun H1 b1 e1 z1 B1 K1 => ?_
 have B1' : Bl H1 b1 [.int .u8 (r.n : Int), ro, be, di, sa, mo, el] := B1
 simp -implicitDefEqProofs only [go_sem, zS, ↓reduceIte, Za, Zb, Zc, reduceCtorEq, zU, zV, Zf, Zg, Zh, Zi, Zd, Ze, zF]
 refine kont_new fun H2 b2 e2 z2 B2 K2 => ?_
 have B12 := K2.bl B1' (by simp)
 simp -implicitDefEqProofs only [go_sem, zS, ↓reduceIte, Za, Zb, Zc, reduceCtorEq, zU, zV, Zf, Zg, Zh, Zi, Zd, Ze, zF]
 refine kont_newst [.slice none 0 0, .slice none 0 0, .slice none 0 0, .slice none 0 0, .slice none 0 0] (by simp -implicitDefEqProofs only [go_sem, zS, ↓reduceIte, Za, Zb, Zc, reduceCtorEq, kont_eq, zU, zV, Zf, Zg, Zh, Zi, Zd, Ze]) rfl rfl rfl fun H3 b3 e3 z3 B3 K3 => ?_
 have B13 := K3.bl B12 (by simp)
 have B23 := K3.bl B2 (by simp)
 have K03 := (K1.trans K2).trans K3
 have hb1 : b1 < b2 := by have := B1'.lt; omega
 have hb2 : b2 < b3 := by have := B2.lt; omega
 obtain ⟨C, hC⟩ : ∃ C, C = H3.size := ⟨_, rfl⟩
 have hCH : H.size <= b1 := by omega
 have hb3 : b3 < C := by have := B3.lt; omega
 obtain ⟨n, hne⟩ : ∃ n, n = nuF r := ⟨_, rfl⟩
 have hn5 := nuF_lt r
 rw [<- hne] at hn5
 have cA : ∀ {A : Hp}, Keep (fun q => q = b3 \/ C <= q) H3 A -> ∀ i, cell A ⟨b1, i, none⟩ = ([.int .u8 (r.n : Int), ro, be, di, sa, mo, el] : List Value)[i]? := fun K i => (K.bl B13 (by omega)).cell i
 have c0 := cA (Keep.refl _ H3) 0
 have m5 : ((r.n : Int)).tmod 5 = ((r.n % 5 : Nat) : Int) := tmod_nat _ _
 have w5 : IntKind.i64.wrap ((r.n % 5 : Nat) : Int) = ((r.n % 5 : Nat) : Int) := IntWalk.i64_in _ (by omega)
 have w6 : IntKind.i64.wrap (1 + ((r.n % 5 : Nat) : Int)) = (n : Int) := by rw [IntWalk.i64_in _ (by omega), hne]; unfold nuF; omega
 simp only [List.getElem?_cons_zero] at c0
 simp -implicitDefEqProofs only [go_sem, zS, ↓reduceIte, Za, Zb, Zc, reduceCtorEq, kont_eq, zU, zV, Zf, Zg, Zh, Zi, Zd, Ze, zF, c0, m5, w5, w6]
 refine ⟨by decide, ?_⟩
 refine vc_loop [21, 6, 28, 5] rfl (fun m f A => ∃ (i : Nat) (sv : Value), i <= n /\ m = n - i /\ f 5 = .int .i64 (i : Int) /\ Bl A b3 [sv, .slice none 0 0, .slice none 0 0, .slice none 0 0, .slice none 0 0] /\ OwE encS 2 A sv (stsF r i) /\ (∀ q, ownB sv q -> C <= q) /\ Keep (fun q => q = b3 \/ C <= q) H3 A) n ?_ ?_
 ·exact ⟨0, _, by omega, by omega, by simp -implicitDefEqProofs only [go_sem, zS, ↓reduceIte, Za, Zb, Zc, reduceCtorEq, kont_eq]; rfl, B3, OwE.nil _, fun q h => h.elim, Keep.refl _ _⟩
 rintro m f A ⟨i, sv, hi, rfl, hf5, BA, OA, oA, KA⟩
 have sA := KA.size
 simp -implicitDefEqProofs only [go_sem, zS, ↓reduceIte, Za, Zb, Zc, reduceCtorEq, kont_eq] at hf5
 simp -implicitDefEqProofs only [go_sem, zS, ↓reduceIte, Za, Zb, Zc, reduceCtorEq, zU, zV, Zf, Zg, Zh, Zi, Zd, Ze, zF, hf5]
 refine iteV_dec (fun hlt => ?_) (fun hge => ?_)
 ·have hlt : i < n := by omega
  have c1 := cA KA 1
  simp only [List.getElem?_cons_succ, List.getElem?_cons_zero] at c1
  have roA := (hro.keep K03 (by simp)).keep KA (fun q hq h => by have := (hro.keep K03 (by simp)).old hq; have := hro.old hq; omega)
  simp -implicitDefEqProofs only [go_sem, zS, ↓reduceIte, Za, Zb, Zc, reduceCtorEq, zU, zV, Zf, Zg, Zh, Zi, Zd, Ze, zF, hf5, c1, roA.len, roA.isSl, w8_len]
  have fin : ∀ g : Fr, g 3 = .pointer (some ⟨b3, 0, none⟩) -> g 5 = .int .i64 (i : Int) -> g 6 = .int .i64 (roI r.ro i) -> ∀ Qb, (∀ v' A', OwE encS 2 A' v' (stsF r (i + 1)) -> (∀ q, ownB v' q -> C <= q) -> Bl A' b3 [v', .slice none 0 0, .slice none 0 0, .slice none 0 0, .slice none 0 0] -> Keep (fun q => q = b3 \/ C <= q) H3 A' -> Qb .n g A') -> vc P (c_makS ι) Qb g A := fun g g3 g5 g6 Qb hQb =>
   makS_ok hd g3 g5 g6 (by omega) (by rw [stsF_len]; omega) BA hb3 (by omega) OA oA fun v' A' O' o' B' K' => hQb v' A' (by rw [stsF_succ]; exact O') o' B' (KA.trans K')
  refine iteV_dec (fun hlr => ?_) (fun hlr => ?_)
  ·have hlr : i < r.ro.length := by omega
   obtain ⟨rb, rof, rc, hre, hrc, hcell⟩ := roA.cells (by intro e; rw [e] at roA; have := w8_len r.ro; rw [e] at this; simp at this; omega)
   have hci := hcell i (by rw [w8_len]; exact hlr)
   rw [w8_get _ _ hlr] at hci
   have hro4 := (r.ro.getD i 0).toNat_lt
   have m4 : (((r.ro.getD i 0).toNat : Int)).tmod 4 = (((r.ro.getD i 0).toNat % 4 : Nat) : Int) := tmod_nat _ 4
   have w4 : IntKind.i64.wrap (((r.ro.getD i 0).toNat % 4 : Nat) : Int) = (((r.ro.getD i 0).toNat % 4 : Nat) : Int) := IntWalk.i64_in _ (by omega)
   have w7 : IntKind.i64.wrap (1 + (((r.ro.getD i 0).toNat % 4 : Nat) : Int)) = roI r.ro i := by rw [IntWalk.i64_in _ (by omega)]; unfold roI; rw [if_pos hlr]
   simp -implicitDefEqProofs only [go_sem, zS, ↓reduceIte, Za, Zb, Zc, reduceCtorEq, kont_eq, zU, zV, Zf, Zg, Zh, Zi, Zd, Ze, zF, hf5, hre, tn_cast, hci, m4, w4, w7, w8_len]
   refine ⟨by omega, by decide, ?_⟩
   refine fin _ (by simp -implicitDefEqProofs only [go_sem, zS, ↓reduceIte, Za, Zb, Zc, reduceCtorEq, kont_eq, zU, zV, Zf, Zg, Zh, Zi, Zd, Ze]) (by simp -implicitDefEqProofs only [go_sem, zS, ↓reduceIte, Za, Zb, Zc, reduceCtorEq, kont_eq, zU, zV, Zf, Zg, Zh, Zi, Zd, Ze, hf5]) (by simp -implicitDefEqProofs only [go_sem, zS, ↓reduceIte, Za, Zb, Zc, reduceCtorEq, kont_eq, zU, zV, Zf, Zg, Zh, Zi, Zd, Ze]) _ fun v' A' O' o' B' K' => ?_
   simp -implicitDefEqProofs (disch := omega) only [go_sem, zS, ↓reduceIte, Za, Zb, Zc, reduceCtorEq, kont_eq, zU, zV, Zf, Zg, Zh, Zi, Zd, Ze, hf5, IntWalk.i64_in]
   exact ⟨n - (i + 1), by omega, i + 1, v', by omega, rfl, rfl, B', O', o', K'⟩
  ·have w7 : roI r.ro i = 1 := by unfold roI; rw [if_neg (by omega)]
   refine fin _ (by simp -implicitDefEqProofs only [go_sem, zS, ↓reduceIte, Za, Zb, Zc, reduceCtorEq, kont_eq, zU, zV, Zf, Zg, Zh, Zi, Zd, Ze]) (by simp -implicitDefEqProofs only [go_sem, zS, ↓reduceIte, Za, Zb, Zc, reduceCtorEq, kont_eq, zU, zV, Zf, Zg, Zh, Zi, Zd, Ze, hf5]) (by simp -implicitDefEqProofs only [go_sem, zS, ↓reduceIte, Za, Zb, Zc, reduceCtorEq, kont_eq, zU, zV, Zf, Zg, Zh, Zi, Zd, Ze, w7]) _ fun v' A' O' o' B' K' => ?_
   simp -implicitDefEqProofs (disch := omega) only [go_sem, zS, ↓reduceIte, Za, Zb, Zc, reduceCtorEq, kont_eq, zU, zV, Zf, Zg, Zh, Zi, Zd, Ze, hf5, IntWalk.i64_in]
   exact ⟨n - (i + 1), by omega, i + 1, v', by omega, rfl, rfl, B', O', o', K'⟩
 ·have hin : i = n := by omega
  subst hin
  have W0 : ∀ {X : Hp}, Keep (fun q => q = b3 \/ C <= q) H3 X -> Bl X b1 [.int .u8 (r.n : Int), ro, be, di, sa, mo, el] := fun K => K.bl B13 (by omega)
  have raw : ∀ {X : Hp} {v : Value} {l : List (UInt8 × UInt8)}, SlE enc8 2 H v l -> Keep (fun q => q = b3 \/ C <= q) H3 X -> SlE enc8 2 X v l /\ ∀ q, slB v q -> q < b3 := fun {X v l} h K => by
   have h3 := h.keep0 K03
   exact ⟨h3.keep K fun q hq hw => by have := h.old hq; omega, fun q hq => by have := h.old hq; omega⟩
  obtain ⟨C1, hC1⟩ : ∃ C1, C1 = A.size := ⟨_, rfl⟩
  have hCC : C <= C1 := by omega
  have oS : ∀ q, ownB sv q -> C <= q /\ q < C1 := fun q hq => ⟨oA q hq, by have := OA.old hq; omega⟩
  obtain ⟨NB, hNB⟩ : ∃ NB, NB = if 1 < i then min r.be.length 6 else 0 := ⟨_, rfl⟩
  refine vc_loop [59, 8, 73, 7] rfl (fun m f X => ∃ (j : Nat) (bv : Value), j <= NB /\ m = NB - j /\ f 7 = .int .i64 (j : Int) /\ Bl X b3 [sv, bv, .slice none 0 0, .slice none 0 0, .slice none 0 0] /\ OwP X bv ((r.be.take j).map fun x => srP (prI i x)) /\ (∀ q, ownB bv q -> C1 <= q) /\ Keep (fun q => q = b3 \/ C1 <= q) A X) NB ?_ ?_
  ·exact ⟨0, _, by omega, by omega, by simp -implicitDefEqProofs only [go_sem, zS, ↓reduceIte, Za, Zb, Zc, reduceCtorEq, kont_eq]; rfl, BA, OwE.nil _, fun q h => h.elim, Keep.refl _ _⟩
  rintro m g X ⟨j, bv, hj, rfl, hg7, BX, OX, oX, KX⟩
  have sX := KX.size
  have K3X : Keep (fun q => q = b3 \/ C <= q) H3 X := KA.trans (KX.mono fun q _ h => by omega)
  simp -implicitDefEqProofs only [go_sem, zS, ↓reduceIte, Za, Zb, Zc, reduceCtorEq, kont_eq] at hg7
  rw [vc_seq]
  refine cndB_ok (n := i) (len := r.be.length) (i := j) (by simp -implicitDefEqProofs only [go_sem, zS, ↓reduceIte, Za, Zb, Zc, reduceCtorEq, kont_eq, zU, zV, Zf, Zg, Zh, Zi, Zd, Ze]) (by simp -implicitDefEqProofs only [go_sem, zS, ↓reduceIte, Za, Zb, Zc, reduceCtorEq, kont_eq, zU, zV, Zf, Zg, Zh, Zi, Zd, Ze]) (by simp -implicitDefEqProofs only [go_sem, zS, ↓reduceIte, Za, Zb, Zc, reduceCtorEq, kont_eq, zU, zV, Zf, Zg, Zh, Zi, Zd, Ze, hg7]) (W0 K3X) rfl hbe.isSl hbe.len (fun hj1 hi1 => ?_) (fun hnj => ?_)
  ·rw [if_pos hi1] at hNB
   have hjl : j < r.be.length := by omega
   obtain ⟨beX, bbX⟩ := raw hbe K3X
   obtain ⟨pb, po, pc, hwe, hpb, hld⟩ := beX.elem enc8_len hjl
   obtain ⟨x, hx⟩ : ∃ x, x = r.be[j] := ⟨_, rfl⟩
   rw [<- hx] at hld
   have hld' : ldNA X ⟨pb, po + j * 2, none⟩ 2 = some #[.int .u8 x.1.toNat, .int .u8 x.2.toNat] := hld
   have c2 : cell X ⟨b1, 2, none⟩ = some be := by rw [(W0 K3X).cell]; rfl
   rw [hwe] at c2
   simp -implicitDefEqProofs only [go_sem, zS, ↓reduceIte, Za, Zb, Zc, reduceCtorEq, kont_eq, zU, zV, Zf, Zg, Zh, Zi, Zd, Ze, zF, hg7, c2, tn_cast, ldNO_ptr, hld']
   refine ⟨by omega, (hp i x X hi1 (by omega)).mono ?_⟩
   rintro y X1 ⟨rfl, KX1⟩
   rw [kont_eq]
   simp -implicitDefEqProofs only [go_sem, zS, ↓reduceIte, Za, Zb, Zc, reduceCtorEq, zU, zV, Zf, Zg, Zh, Zi, Zd, Ze, zF]
   refine kont_newst [.int .i64 (prI i x).1, .int .i64 (prI i x).2] (by simp -implicitDefEqProofs only [go_sem, zS, ↓reduceIte, Za, Zb, Zc, reduceCtorEq, kont_eq, zU, zV, Zf, Zg, Zh, Zi, Zd, Ze]) rfl rfl rfl fun X2 bp eb zb BP KX2 => ?_
   have KX02 := KX1.trans KX2
   have s1 := KX1.size
   have p0 : cell X2 ⟨bp, 0, none⟩ = some (.int .i64 (prI i x).1) := by rw [BP.cell]; rfl
   have p1 : cell X2 ⟨bp, 1, none⟩ = some (.int .i64 (prI i x).2) := by rw [BP.cell]; rfl
   have BX2 := KX02.bl BX (by simp)
   have OX2 := OX.keep KX02 (by simp)
   have hnext : ∀ (g2 : Fr) (X3 : Hp), Bl X3 bp (pE (srP (prI i x))) -> Keep (fun q => q = bp) X2 X3 -> g2 3 = .pointer (some ⟨b3, 0, none⟩) -> g2 8 = .pointer (some ⟨bp, 0, none⟩) -> ∀ Qb, (∀ v' X', OwP X' v' ((r.be.take (j + 1)).map fun x => srP (prI i x)) -> (∀ q, ownB v' q -> C1 <= q) -> Bl X' b3 [sv, v', .slice none 0 0, .slice none 0 0, .slice none 0 0] -> Keep (fun q => q = b3 \/ C1 <= q) A X' -> Qb .n g2 X') -> vc P (c_makB ι) Qb g2 X3 := fun g2 X3 hB3 hK3 q3 q8 Qb hQb => by
    have hbp : C1 <= bp := by omega
    have hbx : b3 < X2.size := BX2.lt
    have hb4 : b3 < bp := by have := BX.lt; omega
    have sX3 := hK3.size
    refine makB_ok (C := C1) q3 q8 (by rw [List.length_map, List.length_take]; omega) hB3 (hK3.bl BX2 (by omega)) (by omega) (by have := KX02.size; omega) (OX2.keep hK3 fun q hq e => by have := OX.old hq; omega) oX fun v' X' O' o' B' K' => hQb v' X' ?_ o' B' ?_
    ·rw [take_snoc' hjl, List.map_append, <- hx]; exact O'
    ·exact (KX.trans KX02.any).trans ((hK3.mono fun q _ e => by omega).trans K')
   by_cases hgt : (prI i x).2 < (prI i x).1
   ·have e1 : decide ((prI i x).1 > (prI i x).2) = true := decide_eq_true hgt
    simp -implicitDefEqProofs only [go_sem, zS, ↓reduceIte, Za, Zb, Zc, reduceCtorEq, kont_eq, zU, zV, Zf, Zg, Zh, Zi, Zd, Ze, zF, p0, p1, e1]
    refine ⟨⟨BP.okNA (by simp), all1_of rfl⟩, ?_⟩
    have BS := BP.stNA 0 [.int .i64 (prI i x).2, .int .i64 (prI i x).1]
    refine hnext _ _ ?_ ((Keep.refl _ _).stNA _ (.inl rfl)) (by simp -implicitDefEqProofs only [go_sem, zS, ↓reduceIte, Za, Zb, Zc, reduceCtorEq, kont_eq, zU, zV, Zf, Zg, Zh, Zi, Zd, Ze]) (by simp -implicitDefEqProofs only [go_sem, zS, ↓reduceIte, Za, Zb, Zc, reduceCtorEq, kont_eq, zU, zV, Zf, Zg, Zh, Zi, Zd, Ze]) _ fun v' X' O' o' B' K' => ?_
    ·have : pE (srP (prI i x)) = wrL [.int .i64 (prI i x).1, .int .i64 (prI i x).2] 0 [.int .i64 (prI i x).2, .int .i64 (prI i x).1] := by
      unfold srP; rw [if_pos hgt]; rfl
     rw [this]; exact BS
    ·simp -implicitDefEqProofs (disch := omega) only [go_sem, zS, ↓reduceIte, Za, Zb, Zc, reduceCtorEq, kont_eq, zU, zV, Zf, Zg, Zh, Zi, Zd, Ze, hg7, IntWalk.i64_in]
     exact ⟨NB - (j + 1), by omega, j + 1, v', by omega, rfl, rfl, B', O', o', K'⟩
   ·have e1 : decide ((prI i x).1 > (prI i x).2) = false := decide_eq_false (by omega)
    simp -implicitDefEqProofs only [go_sem, zS, ↓reduceIte, Za, Zb, Zc, reduceCtorEq, kont_eq, zU, zV, Zf, Zg, Zh, Zi, Zd, Ze, zF, p0, p1, e1]
    refine hnext _ _ ?_ (Keep.refl _ _) (by simp -implicitDefEqProofs only [go_sem, zS, ↓reduceIte, Za, Zb, Zc, reduceCtorEq, kont_eq, zU, zV, Zf, Zg, Zh, Zi, Zd, Ze]) (by simp -implicitDefEqProofs only [go_sem, zS, ↓reduceIte, Za, Zb, Zc, reduceCtorEq, kont_eq, zU, zV, Zf, Zg, Zh, Zi, Zd, Ze]) _ fun v' X' O' o' B' K' => ?_
    ·have : pE (srP (prI i x)) = [.int .i64 (prI i x).1, .int .i64 (prI i x).2] := by
      unfold srP; rw [if_neg hgt]; rfl
     rw [this]; exact BP
    ·simp -implicitDefEqProofs (disch := omega) only [go_sem, zS, ↓reduceIte, Za, Zb, Zc, reduceCtorEq, kont_eq, zU, zV, Zf, Zg, Zh, Zi, Zd, Ze, hg7, IntWalk.i64_in]
     exact ⟨NB - (j + 1), by omega, j + 1, v', by omega, rfl, rfl, B', O', o', K'⟩
  ·have hjN : j = NB := by rw [hNB] at hj ⊢; split at hj <;> split <;> omega
   have eB : (r.be.take j).map (fun x => srP (prI i x)) = (mkF r).be := by
    rw [hjN, hNB]; simp only [mkF, <- hne]
    split
    ·congr 1
     by_cases h6 : r.be.length <= 6
     ·rw [List.take_of_length_le (by omega), List.take_of_length_le h6]
     ·rw [show min r.be.length 6 = 6 by omega]
    ·simp
   rw [eB] at OX
   have oB : ∀ q, ownB bv q -> C1 <= q /\ q < X.size := fun q hq => ⟨oX q hq, OX.old hq⟩
   have OSX := OA.keep KX fun q hq h => by have := oS q hq; omega
   obtain ⟨C2, hC2⟩ : ∃ C2, C2 = X.size := ⟨_, rfl⟩
   rw [<- hC2] at oB
   clear hj hnj hjN eB hg7
   have hCC2 : C1 <= C2 := by omega
   clear KX
   obtain ⟨ND, hND⟩ : ∃ ND, ND = if 1 < i then min r.di.length 6 else 0 := ⟨_, rfl⟩
   simp -implicitDefEqProofs only [go_sem, zS, ↓reduceIte, Za, Zb, Zc, reduceCtorEq, kont_eq, zU, zV, Zf, Zg, Zh, Zi, Zd, Ze, zF]
   refine vc_loop [97, 9] rfl (fun m f Y => ∃ (j : Nat) (dv : Value), j <= ND /\ m = ND - j /\ f 9 = .int .i64 (j : Int) /\ Bl Y b3 [sv, bv, dv, .slice none 0 0, .slice none 0 0] /\ OwP Y dv ((r.di.take j).map (prI i)) /\ (∀ q, ownB dv q -> C2 <= q) /\ Keep (fun q => q = b3 \/ C2 <= q) X Y) ND ?_ ?_
   ·exact ⟨0, _, by omega, by omega, by simp -implicitDefEqProofs only [go_sem, zS, ↓reduceIte, Za, Zb, Zc, reduceCtorEq, kont_eq]; rfl, BX, OwE.nil _, fun q h => h.elim, Keep.refl _ _⟩
   rintro m g2 Y ⟨j, dv, hj, rfl, hg9, BY, OY, oY, KY⟩
   have sY := KY.size
   have K3Y : Keep (fun q => q = b3 \/ C <= q) H3 Y := K3X.trans (KY.mono fun q _ h => by omega)
   simp -implicitDefEqProofs only [go_sem, zS, ↓reduceIte, Za, Zb, Zc, reduceCtorEq, kont_eq] at hg9
   rw [vc_seq]
   refine cndD_ok (n := i) (len := r.di.length) (i := j) (by simp -implicitDefEqProofs only [go_sem, zS, ↓reduceIte, Za, Zb, Zc, reduceCtorEq, kont_eq, zU, zV, Zf, Zg, Zh, Zi, Zd, Ze]) (by simp -implicitDefEqProofs only [go_sem, zS, ↓reduceIte, Za, Zb, Zc, reduceCtorEq, kont_eq, zU, zV, Zf, Zg, Zh, Zi, Zd, Ze]) (by simp -implicitDefEqProofs only [go_sem, zS, ↓reduceIte, Za, Zb, Zc, reduceCtorEq, kont_eq, zU, zV, Zf, Zg, Zh, Zi, Zd, Ze, hg9]) (W0 K3Y) rfl hdi.isSl hdi.len (fun hj1 hi1 => ?_) (fun hnj => ?_)
   ·rw [if_pos hi1] at hND
    have hjl : j < r.di.length := by omega
    obtain ⟨diY, dbY⟩ := raw hdi K3Y
    simp -implicitDefEqProofs only [go_sem, zS, ↓reduceIte, Za, Zb, Zc, reduceCtorEq, kont_eq, zU, zV, Zf, Zg, Zh, Zi, Zd, Ze, zF]
    refine makD_ok (n := i) (i := j) hp (by simp -implicitDefEqProofs only [go_sem, zS, ↓reduceIte, Za, Zb, Zc, reduceCtorEq, kont_eq, zU, zV, Zf, Zg, Zh, Zi, Zd, Ze]) (by simp -implicitDefEqProofs only [go_sem, zS, ↓reduceIte, Za, Zb, Zc, reduceCtorEq, kont_eq, zU, zV, Zf, Zg, Zh, Zi, Zd, Ze]) (by simp -implicitDefEqProofs only [go_sem, zS, ↓reduceIte, Za, Zb, Zc, reduceCtorEq, kont_eq, zU, zV, Zf, Zg, Zh, Zi, Zd, Ze]) (by simp -implicitDefEqProofs only [go_sem, zS, ↓reduceIte, Za, Zb, Zc, reduceCtorEq, kont_eq, zU, zV, Zf, Zg, Zh, Zi, Zd, Ze, hg9]) hi1 (by omega) (by rw [List.length_map, List.length_take]; omega) (W0 K3Y) diY hjl BY (by omega) (by omega : b3 < C2) dbY (by omega) OY oY fun v' X' O' o' B' K' => ?_
    simp -implicitDefEqProofs (disch := omega) only [go_sem, zS, ↓reduceIte, Za, Zb, Zc, reduceCtorEq, kont_eq, zU, zV, Zf, Zg, Zh, Zi, Zd, Ze, hg9, IntWalk.i64_in]
    refine ⟨ND - (j + 1), by omega, j + 1, v', by omega, rfl, rfl, B', ?_, o', KY.trans K'⟩
    rw [take_snoc' hjl, List.map_append]; exact O'
   ·have hjN : j = ND := by rw [hND] at hj ⊢; split at hj <;> split <;> omega
    have eD : (r.di.take j).map (prI i) = (mkF r).di := by
     rw [hjN, hND]; simp only [mkF, <- hne]
     split
     ·congr 1
      by_cases h6 : r.di.length <= 6
      ·rw [List.take_of_length_le (by omega), List.take_of_length_le h6]
      ·rw [show min r.di.length 6 = 6 by omega]
     ·simp
    rw [eD] at OY
    have oD : ∀ q, ownB dv q -> C2 <= q /\ q < Y.size := fun q hq => ⟨oY q hq, OY.old hq⟩
    have OSY := OSX.keep KY fun q hq h => by have := oS q hq; omega
    have OBY := OX.keep KY fun q hq h => by have := oB q hq; omega
    obtain ⟨C3, hC3⟩ : ∃ C3, C3 = Y.size := ⟨_, rfl⟩
    rw [<- hC3] at oD
    have hCC3 : C2 <= C3 := by omega
    clear hj hnj hjN eD hg9 KY
    obtain ⟨NA, hNA⟩ : ∃ NA, NA = if 1 < i then min r.sa.length 3 else 0 := ⟨_, rfl⟩
    simp -implicitDefEqProofs only [go_sem, zS, ↓reduceIte, Za, Zb, Zc, reduceCtorEq, kont_eq, zU, zV, Zf, Zg, Zh, Zi, Zd, Ze, zF]
    refine vc_loop [124, 10] rfl (fun m f Z => ∃ (j : Nat) (av : Value), j <= NA /\ m = NA - j /\ f 10 = .int .i64 (j : Int) /\ Bl Z b3 [sv, bv, dv, av, .slice none 0 0] /\ OwP Z av ((r.sa.take j).map (prI i)) /\ (∀ q, ownB av q -> C3 <= q) /\ Keep (fun q => q = b3 \/ C3 <= q) Y Z) NA ?_ ?_
    ·exact ⟨0, _, by omega, by omega, by simp -implicitDefEqProofs only [go_sem, zS, ↓reduceIte, Za, Zb, Zc, reduceCtorEq, kont_eq]; rfl, BY, OwE.nil _, fun q h => h.elim, Keep.refl _ _⟩
    rintro m g3 Z ⟨j, av, hj, rfl, hg10, BZ, OZ, oZ, KZ⟩
    have sZ := KZ.size
    have K3Z : Keep (fun q => q = b3 \/ C <= q) H3 Z := K3Y.trans (KZ.mono fun q _ h => by omega)
    simp -implicitDefEqProofs only [go_sem, zS, ↓reduceIte, Za, Zb, Zc, reduceCtorEq, kont_eq] at hg10
    rw [vc_seq]
    refine cndA_ok (n := i) (len := r.sa.length) (i := j) (by simp -implicitDefEqProofs only [go_sem, zS, ↓reduceIte, Za, Zb, Zc, reduceCtorEq, kont_eq, zU, zV, Zf, Zg, Zh, Zi, Zd, Ze]) (by simp -implicitDefEqProofs only [go_sem, zS, ↓reduceIte, Za, Zb, Zc, reduceCtorEq, kont_eq, zU, zV, Zf, Zg, Zh, Zi, Zd, Ze]) (by simp -implicitDefEqProofs only [go_sem, zS, ↓reduceIte, Za, Zb, Zc, reduceCtorEq, kont_eq, zU, zV, Zf, Zg, Zh, Zi, Zd, Ze, hg10]) (W0 K3Z) rfl hsa.isSl hsa.len (fun hj1 hi1 => ?_) (fun hnj => ?_)
    ·rw [if_pos hi1] at hNA
     have hjl : j < r.sa.length := by omega
     obtain ⟨saZ, sbZ⟩ := raw hsa K3Z
     simp -implicitDefEqProofs only [go_sem, zS, ↓reduceIte, Za, Zb, Zc, reduceCtorEq, kont_eq, zU, zV, Zf, Zg, Zh, Zi, Zd, Ze, zF]
     refine makA_ok (n := i) (i := j) hp (by simp -implicitDefEqProofs only [go_sem, zS, ↓reduceIte, Za, Zb, Zc, reduceCtorEq, kont_eq, zU, zV, Zf, Zg, Zh, Zi, Zd, Ze]) (by simp -implicitDefEqProofs only [go_sem, zS, ↓reduceIte, Za, Zb, Zc, reduceCtorEq, kont_eq, zU, zV, Zf, Zg, Zh, Zi, Zd, Ze]) (by simp -implicitDefEqProofs only [go_sem, zS, ↓reduceIte, Za, Zb, Zc, reduceCtorEq, kont_eq, zU, zV, Zf, Zg, Zh, Zi, Zd, Ze]) (by simp -implicitDefEqProofs only [go_sem, zS, ↓reduceIte, Za, Zb, Zc, reduceCtorEq, kont_eq, zU, zV, Zf, Zg, Zh, Zi, Zd, Ze, hg10]) hi1 (by omega) (by rw [List.length_map, List.length_take]; omega) (W0 K3Z) saZ hjl BZ (by omega) (by omega : b3 < C3) sbZ (by omega) OZ oZ fun v' X' O' o' B' K' => ?_
     simp -implicitDefEqProofs (disch := omega) only [go_sem, zS, ↓reduceIte, Za, Zb, Zc, reduceCtorEq, kont_eq, zU, zV, Zf, Zg, Zh, Zi, Zd, Ze, hg10, IntWalk.i64_in]
     refine ⟨NA - (j + 1), by omega, j + 1, v', by omega, rfl, rfl, B', ?_, o', KZ.trans K'⟩
     rw [take_snoc' hjl, List.map_append]; exact O'
    ·have hjN : j = NA := by rw [hNA] at hj ⊢; split at hj <;> split <;> omega
     have eA : (r.sa.take j).map (prI i) = (mkF r).sa := by
      rw [hjN, hNA]; simp only [mkF, <- hne]
      split
      ·congr 1
       by_cases h6 : r.sa.length <= 3
       ·rw [List.take_of_length_le (by omega), List.take_of_length_le h6]
       ·rw [show min r.sa.length 3 = 3 by omega]
      ·simp
     rw [eA] at OZ
     have oA2 : ∀ q, ownB av q -> C3 <= q /\ q < Z.size := fun q hq => ⟨oZ q hq, OZ.old hq⟩
     have OSZ := OSY.keep KZ fun q hq h => by have := oS q hq; omega
     have OBZ := OBY.keep KZ fun q hq h => by have := oB q hq; omega
     have ODZ := OY.keep KZ fun q hq h => by have := oD q hq; omega
     obtain ⟨C4, hC4⟩ : ∃ C4, C4 = Z.size := ⟨_, rfl⟩
     rw [<- hC4] at oA2
     have hCC4 : C3 <= C4 := by omega
     clear hj hnj hjN eA hg10 KZ
     obtain ⟨NM, hNM⟩ : ∃ NM, NM = min r.mo.length 3 := ⟨_, rfl⟩
     simp -implicitDefEqProofs only [go_sem, zS, ↓reduceIte, Za, Zb, Zc, reduceCtorEq, kont_eq, zU, zV, Zf, Zg, Zh, Zi, Zd, Ze, zF]
     refine vc_loop [147, 12, 162, 11] rfl (fun m f T => ∃ (j : Nat) (mv : Value), j <= NM /\ m = NM - j /\ f 11 = .int .i64 (j : Int) /\ Bl T b3 [sv, bv, dv, av, mv] /\ OwE encM 2 T mv ((r.mo.take j).map (moF1 i)) /\ (∀ q, ownB mv q -> C4 <= q) /\ Keep (fun q => q = b3 \/ C4 <= q) Z T) NM ?_ ?_
     ·exact ⟨0, _, by omega, by omega, by simp -implicitDefEqProofs only [go_sem, zS, ↓reduceIte, Za, Zb, Zc, reduceCtorEq, kont_eq]; rfl, BZ, OwE.nil _, fun q h => h.elim, Keep.refl _ _⟩
     rintro m g4 T ⟨j, mv, hj, rfl, hg11, BT, OT, oT, KT⟩
     have sT := KT.size
     have K3T : Keep (fun q => q = b3 \/ C <= q) H3 T := K3Z.trans (KT.mono fun q _ h => by omega)
     simp -implicitDefEqProofs only [go_sem, zS, ↓reduceIte, Za, Zb, Zc, reduceCtorEq, kont_eq] at hg11
     rw [vc_seq]
     refine cndM_ok (len := r.mo.length) (i := j) (by simp -implicitDefEqProofs only [go_sem, zS, ↓reduceIte, Za, Zb, Zc, reduceCtorEq, kont_eq, zU, zV, Zf, Zg, Zh, Zi, Zd, Ze]) (by simp -implicitDefEqProofs only [go_sem, zS, ↓reduceIte, Za, Zb, Zc, reduceCtorEq, kont_eq, zU, zV, Zf, Zg, Zh, Zi, Zd, Ze, hg11]) (W0 K3T) rfl hmo.isSl hmo.len (fun hj1 => ?_) (fun hnj => ?_)
     ·have hjl : j < r.mo.length := by omega
      obtain ⟨moT, mbT⟩ := raw hmo K3T
      obtain ⟨pb, po, pc, hwe, hpb, hld⟩ := moT.elem enc8_len hjl
      obtain ⟨x, hx⟩ : ∃ x, x = r.mo[j] := ⟨_, rfl⟩
      rw [<- hx] at hld
      have c1 : cell T ⟨pb, po + j * 2 + 1, none⟩ = some (.int .u8 x.2.toNat) := ldNA_cell hld (j := 1) (by omega)
      have c2 : cell T ⟨b1, 5, none⟩ = some mo := by rw [(W0 K3T).cell]; rfl
      have c2' := c2
      rw [hwe] at c2'
      have hx2 := x.2.toNat_lt
      have w1 : IntKind.u64.wrap (x.2.toNat : Int) = ((UInt64.ofNat x.2.toNat).toNat : Int) := by
       rw [IntKind.wrap_u64, UInt64.toNat_ofNat']; omega
      have hand : bits .and .u64 ((UInt64.ofNat x.2.toNat).toNat : Int) ((allM i).toNat : Int) = ((UInt64.ofNat x.2.toNat &&& allM i).toNat : Int) := bits_and _ _
      have tail : ∀ (g5 : Fr) (mm : UInt64), mm = moM i x -> g5 1 = .pointer (some ⟨b1, 0, none⟩) -> g5 3 = .pointer (some ⟨b3, 0, none⟩) -> g5 11 = .int .i64 (j : Int) -> g5 12 = .int .u64 mm.toNat -> ∀ Qb, (∀ v' X', OwE encM 2 X' v' ((r.mo.take (j + 1)).map (moF1 i)) -> (∀ q, ownB v' q -> C4 <= q) -> Bl X' b3 [sv, bv, dv, av, v'] -> Keep (fun q => q = b3 \/ C4 <= q) Z X' -> Qb .n g5 X') -> vc P (c_makM ι) Qb g5 T := fun g5 mm hmm q1 q3 q11 q12 Qb hQb =>
       makM_ok (m := mm) q1 q3 q11 q12 (by rw [List.length_map, List.length_take]; omega) (W0 K3T) moT hjl BT (by omega) (by omega : b3 < C4) mbT (by omega) OT oT fun v' X' O' o' B' K' => hQb v' X' (by rw [take_snoc' hjl, List.map_append, <- hx]; rw [hmm, <- hx] at O'; exact O') o' B' (KT.trans K')
      have hi64 : ((i : Int)).toNat = i := by omega
      have h64 : ((IntKind.u64.bits : Nat) : Int) = 64 := rfl
      simp -implicitDefEqProofs only [go_sem, zS, ↓reduceIte, Za, Zb, Zc, reduceCtorEq, kont_eq, zU, zV, Zf, Zg, Zh, Zi, Zd, Ze, zF, hg11, c2', tn_cast, c1, w1, hi64, sub1 i (by omega), hand]
      have and0 : ∀ y : UInt64, (((y.toNat : Int)) == 0) = decide (y = 0) := fun y => by
       rw [Bool.eq_iff_iff]
       simp only [beq_iff_eq, decide_eq_true_eq]
       constructor
       ·intro h
        apply UInt64.toNat_inj.1
        have : y.toNat = 0 := by omega
        rw [this]; rfl
       ·rintro rfl; rfl
      rw [and0]
      refine ⟨by omega, by omega, iteV_dec (fun h0 => ⟨by omega, ?_⟩) (fun h0 => ?_)⟩
      ·refine tail _ (allM i) (by unfold moM; rw [if_pos h0]) (by simp -implicitDefEqProofs only [go_sem, zS, ↓reduceIte, Za, Zb, Zc, reduceCtorEq, kont_eq, zU, zV, Zf, Zg, Zh, Zi, Zd, Ze]) (by simp -implicitDefEqProofs only [go_sem, zS, ↓reduceIte, Za, Zb, Zc, reduceCtorEq, kont_eq, zU, zV, Zf, Zg, Zh, Zi, Zd, Ze]) (by simp -implicitDefEqProofs only [go_sem, zS, ↓reduceIte, Za, Zb, Zc, reduceCtorEq, kont_eq, zU, zV, Zf, Zg, Zh, Zi, Zd, Ze, hg11]) (by simp -implicitDefEqProofs only [go_sem, zS, ↓reduceIte, Za, Zb, Zc, reduceCtorEq, kont_eq, zU, zV, Zf, Zg, Zh, Zi, Zd, Ze]) _ fun v' X' O' o' B' K' => ?_
       simp -implicitDefEqProofs (disch := omega) only [go_sem, zS, ↓reduceIte, Za, Zb, Zc, reduceCtorEq, kont_eq, zU, zV, Zf, Zg, Zh, Zi, Zd, Ze, hg11, IntWalk.i64_in]
       exact ⟨NM - (j + 1), by omega, j + 1, v', by omega, rfl, rfl, B', O', o', K'⟩
      ·refine tail _ (UInt64.ofNat x.2.toNat &&& allM i) (by unfold moM; rw [if_neg h0]) (by simp -implicitDefEqProofs only [go_sem, zS, ↓reduceIte, Za, Zb, Zc, reduceCtorEq, kont_eq, zU, zV, Zf, Zg, Zh, Zi, Zd, Ze]) (by simp -implicitDefEqProofs only [go_sem, zS, ↓reduceIte, Za, Zb, Zc, reduceCtorEq, kont_eq, zU, zV, Zf, Zg, Zh, Zi, Zd, Ze]) (by simp -implicitDefEqProofs only [go_sem, zS, ↓reduceIte, Za, Zb, Zc, reduceCtorEq, kont_eq, zU, zV, Zf, Zg, Zh, Zi, Zd, Ze, hg11]) (by simp -implicitDefEqProofs only [go_sem, zS, ↓reduceIte, Za, Zb, Zc, reduceCtorEq, kont_eq, zU, zV, Zf, Zg, Zh, Zi, Zd, Ze]) _ fun v' X' O' o' B' K' => ?_
       simp -implicitDefEqProofs (disch := omega) only [go_sem, zS, ↓reduceIte, Za, Zb, Zc, reduceCtorEq, kont_eq, zU, zV, Zf, Zg, Zh, Zi, Zd, Ze, hg11, IntWalk.i64_in]
       exact ⟨NM - (j + 1), by omega, j + 1, v', by omega, rfl, rfl, B', O', o', K'⟩
     ·have hjN : j = NM := by omega
      have eM : (r.mo.take j).map (moF1 i) = (mkF r).mo := by
       rw [hjN, hNM]; simp only [mkF, <- hne]
       congr 1
       by_cases h6 : r.mo.length <= 3
       ·rw [List.take_of_length_le (by omega), List.take_of_length_le h6]
       ·rw [show min r.mo.length 3 = 3 by omega]
      rw [eM] at OT
      have oM : ∀ q, ownB mv q -> C4 <= q := oT
      have OST := OSZ.keep KT fun q hq h => by have := oS q hq; omega
      have OBT := OBZ.keep KT fun q hq h => by have := oB q hq; omega
      have ODT := ODZ.keep KT fun q hq h => by have := oD q hq; omega
      have OAT := OZ.keep KT fun q hq h => by have := oA2 q hq; omega
      have eS : stsF r i = (mkF r).st := by simp only [mkF, <- hne]
      rw [eS] at OST
      have B2T := K3T.bl B23 (by omega)
      simp -implicitDefEqProofs only [go_sem, zS, ↓reduceIte, Za, Zb, Zc, reduceCtorEq, kont_eq, zU, zV, Zf, Zg, Zh, Zi, Zd, Ze, zF, BT.ldNO 5 rfl]
      have one : ([sv, bv, dv, av, mv].all fun v => v.oneCell') = true := by
       obtain ⟨_, _, _, rfl⟩ := OST.shape
       obtain ⟨_, _, _, rfl⟩ := OBT.shape
       obtain ⟨_, _, _, rfl⟩ := ODT.shape
       obtain ⟨_, _, _, rfl⟩ := OAT.shape
       obtain ⟨_, _, _, rfl⟩ := OT.shape
       rfl
      refine retN (n := 5) (cs := [sv, bv, dv, av, mv]) B2T rfl rfl one fun HZ zz BZ2 KZ2 => ?_
      rw [hQ]
      have hb2o : ∀ q, C <= q -> q ≠ b2 := fun q h e => by omega
      refine ⟨⟨_, _, _, _, _, rfl, (OST.sl.keep KZ2 fun q hq e => ?_), (OBT.sl.keep KZ2 fun q hq e => ?_), (ODT.sl.keep KZ2 fun q hq e => ?_), (OAT.sl.keep KZ2 fun q hq e => ?_), (OT.sl.keep KZ2 fun q hq e => ?_)⟩, ?_, ?_⟩
      ·have := oS q (OST.slB hq); omega
      ·have := oB q (OBT.slB hq); omega
      ·have := oD q (ODT.slB hq); omega
      ·have := oA2 q (OAT.slB hq); omega
      ·have := oM q (OT.slB hq); omega
      ·rintro q ⟨c, hc, hq⟩
       have hc : c ∈ [sv, bv, dv, av, mv] := hc
       simp only [List.mem_cons, List.not_mem_nil, or_false] at hc
       rcases hc with rfl | rfl | rfl | rfl | rfl
       ·have := oS q (OST.slB hq); omega
       ·have := oB q (OBT.slB hq); omega
       ·have := oD q (ODT.slB hq); omega
       ·have := oA2 q (OAT.slB hq); omega
       ·have := oM q (OT.slB hq); omega
      ·have KHT : Keep (fun _ => False) H T := K03.trans' K3T fun q hq h => by omega
       exact KHT.trans' KZ2 fun q hq e => by omega
end Go.Mg

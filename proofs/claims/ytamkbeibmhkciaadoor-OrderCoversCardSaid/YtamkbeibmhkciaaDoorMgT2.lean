/- order: the examples of the laws' awake, computed. -/
import Derived.Test.YtamkbeibmhkciaaDoorMgT1
import Derived.Test.YtamkbeibmhkciaaDoorMgS2
namespace Go.Mg
open Go Go.RowKit
set_option linter.unusedSimpArgs false
set_option linter.unusedVariables false
set_option maxRecDepth 100000

theorem acy_wsh {n : Nat} {R : Nat → Nat → Bool} (hR : Rng n R) (h : ∀ a < n, wsh R n a a = false) : Acy R := fun a k => by
  have h1 := h a (hR.tc k).1
  rw [wsh_tc hR, tcB_iff.2 k] at h1
  cases h1
def redW (n : Nat) (R : Nat → Nat → Bool) (x y : Nat) : Bool := wsh R n x y && !(List.range n).any fun z => wsh R n x z && wsh R n z y
theorem redR_W {n : Nat} {R : Nat → Nat → Bool} (hR : Rng n R) : redR n R = redW n R := by
  funext x y
  unfold redR redW btw
  simp only [wsh_tc hR]
theorem wlk_find {n : Nat} {R : Nat → Nat → Bool} (hR : Rng n R) {d a b : Nat} : (walks n R d a).find? (fun p => lastN p == b) = none ↔ ¬ wlk R d a b := by
  rw [List.find?_eq_none]
  constructor
  · intro h hw
    obtain ⟨p, hp, hl⟩ := walks_mem hR d hw
    have := h p hp
    simp [hl] at this
  · intro h p hp hl
    have hl : lastN p = b := by simpa using hl
    exact h (hl ▸ walks_last d a p hp)
theorem pth_calc {n : Nat} {R : Nat → Nat → Bool} (hR : Rng n R) {d a b : Nat} {L : List Nat} (ha : a < n) (hb : b < n) (h1 : (walks n R d a).find? (fun p => lastN p == b) = some L) (h2 : ∀ e < d, (walks n R e a).find? (fun p => lastN p == b) = none) : pthO (some (n, R)) (a : Int) (b : Int) = some L := by
  have hw : wlk R d a b := Classical.byContradiction fun h => by rw [(wlk_find hR).2 h] at h1; cases h1
  have hD : isD R b d a := ⟨hw, fun e he => (wlk_find hR).1 (h2 e he)⟩
  have hia : inO (some (n, R)) (a : Int) = true := by simp only [inO, Bool.and_eq_true, decide_eq_true_eq]; omega
  have hib : inO (some (n, R)) (b : Int) = true := by simp only [inO, Bool.and_eq_true, decide_eq_true_eq]; omega
  have h3 := pthO_some (n := n) (R := R) (a := (a : Int)) (b := (b : Int)) (d := d) hia hib (by simpa using hD)
  rw [h3, Int.toNat_natCast, Int.toNat_natCast, ← walks_find hR d a hD, h1]
def LA : List (Int × Int) := [(0, 1), (1, 3), (0, 2), (2, 3), (0, 3)]
def LB : List (Int × Int) := [(2, 0)]
def RA : Nat → Nat → Bool := relI LA
def RB : Nat → Nat → Bool := relI LB
theorem rng_of {n : Nat} {L : List (Int × Int)} (h : ∀ p ∈ L, okP (n : Int) p) : Rng n (relI L) := fun a b hab => by
  have := h _ (of_decide_eq_true hab)
  unfold okP at this
  simp only at this
  omega
theorem okA : ∀ p ∈ LA, okP ((4 : Nat) : Int) p := by unfold okP; decide
theorem okB : ∀ p ∈ LB, okP ((3 : Nat) : Int) p := by unfold okP; decide
theorem rngA : Rng 4 RA := rng_of okA
theorem rngB : Rng 3 RB := rng_of okB
theorem acyA : Acy RA := acy_wsh rngA (by decide +kernel)
theorem acyB : Acy RB := acy_wsh rngB (by decide +kernel)
theorem gridA : gridP 4 RA = [(0, 1), (0, 2), (0, 3), (1, 3), (2, 3)] := by decide +kernel
theorem longA : pthO (some (4, redR 4 RA)) (0 : Int) (3 : Int) = some [0, 1, 3] := by
  have h := redR_W rngA
  have hr := rngA.red
  rw [h] at hr ⊢
  exact pth_calc (d := 2) (a := 0) (b := 3) hr (by omega) (by omega) (by decide +kernel) (by decide +kernel)
theorem shortA : pthO (some (4, RA)) (0 : Int) (3 : Int) = some [0, 3] :=
  pth_calc (d := 1) (a := 0) (b := 3) rngA (by omega) (by omega) (by decide +kernel) (by decide +kernel)
theorem hgtA : hgtO (some (4, RA)) = 3 := by
  show maxL ((srt 4 RA).map (hgt 4 RA)) = 3
  decide +kernel
theorem abvA : mems (abvO (some (4, RA)) 3) = [0, 1, 2] := by
  rw [abv_list rngA (by omega)]
  have : rabL 4 RA 3 = (List.range 4).filter fun x => wsh RA 4 x 3 := by
    unfold rabL
    refine List.filter_congr fun x _ => ?_
    have := isRb_nat rngA x 3
    rw [wsh_tc rngA]; exact this
  rw [this]
  decide +kernel
theorem txtA : txtF [0, 1, 2] ++ [125] = [123, 48, 32, 49, 32, 50, 125] := by decide +kernel
theorem redA : gridP 4 (redR 4 RA) = [(0, 1), (0, 2), (1, 3), (2, 3)] := by
  rw [redR_W rngA]; decide +kernel
theorem srtB : srt 3 RB = [1, 2, 0] := by decide +kernel
theorem cycA {R : Nat → Nat → Bool} (h1 : R 0 3 = true) (h2 : R 3 0 = true) : ¬ Acy R := fun h => h 0 (.more h1 (.one h2))
end Go.Mg

/- Several texts of ours in one. No conditions. -/
import Derived.Test.YtjiacmbjgccfcaaDoorMgR9
namespace Go.Mg
open Go Go.RowKit
set_option linter.unusedSimpArgs false
set_option linter.unusedVariables false
set_option maxRecDepth 100000
theorem tmod_nat (a b : Nat) : (a : Int).tmod (b : Int) = ((a % b : Nat) : Int) := (Int.ofNat_tmod a b).symm
structure RawN where
  N : Nat
  T : Nat
  A : Nat
  ps : List NP
  hN : N < 256
  hT : T < 256
  hA : A < 256
  hp : ∀ p ∈ ps, p.1 < 256 ∧ p.2 < 256
def bE (p : NP) : List Value := [.int .u8 (p.1 : Int), .int .u8 (p.2 : Int)]
def szR (r : RawN) : Nat := r.N % 8
def keyR (r : RawN) (x : Nat) : Nat := (x * (1 + r.T % 10) + r.A) % 11
def fitP (r : RawN) (p : NP) : List NP :=
  if p.1 % szR r = p.2 % szR r then [] else if keyR r (p.2 % szR r) < keyR r (p.1 % szR r) then [(p.2 % szR r, p.1 % szR r)] else [(p.1 % szR r, p.2 % szR r)]
def fitL (r : RawN) : List NP := if szR r = 0 then [] else (r.ps.take 12).flatMap (fitP r)
def RawV (H : Hp) (v : Value) (r : RawN) : Prop := ∃ pv, v = .agg #[.int .u8 (r.N : Int), .int .u8 (r.T : Int), .int .u8 (r.A : Int), pv] ∧ SlE bE 2 H pv r.ps ∧ r.ps.length ≤ maxLen
theorem RawV.keep0 {H H' : Hp} {v : Value} {r : RawN} (h : RawV H v r) (hk : Keep (fun _ => False) H H') : RawV H' v r := by
  obtain ⟨pv, rfl, h1, h2⟩ := h
  exact ⟨pv, rfl, h1.keep0 hk, h2⟩
end Go.Mg
namespace Go.Mg
open Go Go.RowKit
set_option linter.unusedSimpArgs false
set_option linter.unusedVariables false
set_option maxRecDepth 100000
theorem key_tab : ∀ (k : Fin 10) (a : Fin 11) (x y : Fin 8), (x.val * (1 + k.val) + a.val) % 11 = (y.val * (1 + k.val) + a.val) % 11 → x = y := by decide +kernel
theorem keyR_inj {r : RawN} {x y : Nat} (hx : x < 8) (hy : y < 8) (h : keyR r x = keyR r y) : x = y := by
  unfold keyR at h
  have h1 : ∀ z : Nat, (z * (1 + r.T % 10) + r.A) % 11 = (z * (1 + r.T % 10) + r.A % 11) % 11 := fun z => by omega
  rw [h1 x, h1 y] at h
  have := key_tab ⟨r.T % 10, Nat.mod_lt _ (by omega)⟩ ⟨r.A % 11, Nat.mod_lt _ (by omega)⟩ ⟨x, hx⟩ ⟨y, hy⟩ h
  exact congrArg Fin.val this
theorem fitL_mem {r : RawN} {p : NP} (h : p ∈ fitL r) : p.1 < szR r ∧ p.2 < szR r ∧ keyR r p.1 < keyR r p.2 := by
  unfold fitL at h
  split at h
  · simp at h
  · next hz =>
    obtain ⟨q, _, hq⟩ := List.mem_flatMap.1 h
    have h1 : q.1 % szR r < szR r := Nat.mod_lt _ (by omega)
    have h2 : q.2 % szR r < szR r := Nat.mod_lt _ (by omega)
    have hs : szR r < 8 := Nat.mod_lt _ (by omega)
    unfold fitP at hq
    split at hq
    · simp at hq
    · next hne =>
      have hk : keyR r (q.1 % szR r) ≠ keyR r (q.2 % szR r) := fun e => hne (keyR_inj (by omega) (by omega) e)
      split at hq
      · simp only [List.mem_singleton] at hq
        subst hq
        exact ⟨h2, h1, by assumption⟩
      · simp only [List.mem_singleton] at hq
        subst hq
        exact ⟨h1, h2, by show keyR r (q.1 % szR r) < keyR r (q.2 % szR r); omega⟩
def relF (r : RawN) : Nat → Nat → Bool := inP (fitL r)
theorem relF_key {r : RawN} {a b : Nat} (h : Tc (relF r) a b) : keyR r a < keyR r b := by
  induction h with
  | one h => exact (fitL_mem (inP_iff.1 h)).2.2
  | more h _ ih =>
    have h2 := (fitL_mem (inP_iff.1 h)).2.2
    simp only at h2
    omega
theorem relF_acy (r : RawN) : Acy (relF r) := fun a h => by have := relF_key h; omega
theorem relI_fit (r : RawN) : relI ((fitL r).map toI) = relF r := by
  funext a b; exact inP_dec _ _ _
theorem szR_lt (r : RawN) : szR r < 8 := Nat.mod_lt _ (by omega)
theorem fit_ok (r : RawN) : ∀ p ∈ (fitL r).map toI, okP (szR r : Int) p := fun p hp => by
  obtain ⟨q, hq, rfl⟩ := List.mem_map.1 hp
  have := fitL_mem hq
  unfold okP toI
  simp only
  omega
theorem RNewRes.fit {r : RawN} {x : Value} {H : Hp} (h : RNewRes (szR r : Int) ((fitL r).map toI) x H) : ∃ v, x = .tuple #[v, .int .i64 0] ∧ ROrd H v (szR r) (relF r) := by
  have hs := szR_lt r
  rcases h with ⟨h, _⟩ | ⟨_, h, _⟩ | ⟨_, _, h, _⟩ | ⟨_, _, _, v, h1, h2⟩
  · unfold badN at h; omega
  · exact absurd (fit_ok r) h
  · rw [relI_fit] at h; exact absurd (relF_acy r) h
  · rw [relI_fit, Int.toNat_natCast] at h2; exact ⟨v, h1, h2⟩
theorem NewRes.fit {r : RawN} {x : Value} {H : Hp} (h : NewRes (szR r : Int) ((fitL r).map toI) x H) : ∃ v, x = .tuple #[v, .int .i64 0] ∧ OrdV H v (szR r) (relF r) := by
  have hs := szR_lt r
  rcases h with ⟨h, _⟩ | ⟨_, h, _⟩ | ⟨_, _, h, _⟩ | ⟨_, _, _, v, h1, h2⟩
  · unfold badN at h; omega
  · exact absurd (fit_ok r) h
  · rw [relI_fit] at h; exact absurd (relF_acy r) h
  · rw [relI_fit, Int.toNat_natCast] at h2; exact ⟨v, h1, h2⟩
theorem frV.keep {W : Nat → Prop} {B : Nat} {H H' : Hp} {v : Value} {n : Nat} {R : Nat → Nat → Bool} (hf : frV B H v) (h : OrdV H v n R) (hk : Keep W H H') (hw : ∀ q, B ≤ q → q < H.size → ¬ W q) : frV B H' v := by
  obtain ⟨h1, h2, h3, b, pv, sv, ab, bb, avs, bvs, C, rfl, g1, g2, g3, g4, g5⟩ := h
  obtain ⟨k1, k2, k3, k4, k5, k6⟩ := hf b n ab bb pv sv rfl g1
  intro b' n' ab' bb' pv' sv' e hb
  cases e
  have hl := (hk.bl g1 (hw b k1 g1.lt)).uniq hb
  simp only [List.cons.injEq, Value.int.injEq, Value.slice.injEq, Option.some.injEq, Addr.mk.injEq, and_true, true_and] at hl
  obtain ⟨l1, l2, l3, l4, l5⟩ := hl
  obtain ⟨rfl, -⟩ := l3
  obtain ⟨rfl, -⟩ := l4
  subst l5 l2
  refine ⟨k1, k2, k3, k4, k5, fun vs hvs i hi q hq => ?_⟩
  rcases hvs with hvs | hvs
  · have := hvs.uniq (hk.bl g3.bl (hw ab k2 g3.bl.lt))
    subst this
    exact k6 _ (.inl g3.bl) i (by omega) q hq
  · have := hvs.uniq (hk.bl g4.bl (hw bb k3 g4.bl.lt))
    subst this
    exact k6 _ (.inr g4.bl) i (by omega) q hq
end Go.Mg
namespace Go.Mg
open Go Go.RowKit
set_option linter.unusedSimpArgs false
set_option linter.unusedVariables false
set_option maxRecDepth 100000
end Go.Mg

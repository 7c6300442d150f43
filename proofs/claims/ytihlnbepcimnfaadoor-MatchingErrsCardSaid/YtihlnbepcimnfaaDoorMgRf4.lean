/- The rule for a range over a function, in terms of what is kept. -/
import Derived.Test.YtihlnbepcimnfaaDoorMgRf3
import Derived.Test.YtihlnbepcimnfaaDoorMgBytes
namespace Go.Mg
open Go Go.RowKit
set_option linter.unusedVariables false

theorem OnlyL.keepW {l : Nat} {H H' : Hp} (h : OnlyL l H H') {A : Hp} {W : Nat → Prop} (k : Keep W A H) (hl : A.size ≤ l) : Keep W A H' :=
  k.trans' h.keep (fun i hi e => by omega)
/-- W: the blocks laid before the loop that the rounds may write -/
theorem vc_rf {P : Program} {g : Nat} {a : A} {p i : Nat} {body : S} {Q : Ex → Fr → Hp → Prop} {f : Fr} {H : Hp} {gf : FuncId} {lb : Array Value} {xs : List Value} {G : Hp → Prop} (W : Nat → Prop) (I : Nat → Hp → Prop) (X : Ex → Hp → Prop)
    (hv : a.rd [] f = .func (.func gf) #[] lb) (hb : bodyOk P gf = true) (hit : IterC P gf lb xs G) (hW : ∀ k, W k → k < H.size)
    (hG : ∀ k H', Keep W H H' → I k H' → G H')
    (h0 : ∀ H0, Keep (fun _ => False) H H0 → H.size + 2 ≤ H0.size → I 0 H0)
    (hst : ∀ k H1 H2, H.size + 2 ≤ H1.size → Keep W H H1 → I k H1 → Keep (fun b => b = H.size + 1) H1 H2 → I k H2)
    (hsx : ∀ e H1 H2, H.size + 2 ≤ H1.size → Keep W H H1 → X e H1 → Keep (fun b => b = H.size + 1) H1 H2 → X e H2)
    (hr : ∀ k H1, k < xs.length → Keep W H H1 → H.size + 2 ≤ H1.size → I k H1 → vc P body (fun e _ H2 => Keep (fun b => W b ∨ H.size + 2 ≤ b) H1 H2 ∧ match e with | .n => I (k + 1) H2 | e => X e H2) (upd (upd f p (xs.getD k undef)) i (xs.getD k undef)) H1)
    (hdone : ∀ H1, Keep W H H1 → H.size + 2 ≤ H1.size → H1[H.size]? = some (.deferred (some [])) → I xs.length H1 → Q .n (upd f g (addM (f g) H.size)) H1)
    (hleft : ∀ e H1, Keep W H H1 → H.size + 2 ≤ H1.size → H1[H.size]? = some (.deferred (some [])) → X e H1 → Q e (upd f g (addM (f g) H.size)) H1) : vc P (.rf g a p i body) Q f H := by
  refine ⟨gf, lb, xs, G, fun k H' => Keep W H H' ∧ H.size + 2 ≤ H'.size ∧ H'[H.size]? = some (.deferred (some [])) ∧ I k H', fun e H' => Keep W H H' ∧ H.size + 2 ≤ H'.size ∧ H'[H.size]? = some (.deferred (some [])) ∧ X e H', ⟨hv, hb, hit⟩, ?_, ?_, ⟨?_, ?_⟩, ?_, ?_, ?_⟩
  · rintro k H' ⟨h1, _, _, h4⟩; exact hG k H' h1 h4
  · intro H0 hs hk hd
    have K : Keep (fun _ => False) H H0 := ⟨by omega, fun k h _ => hk k h⟩
    exact ⟨K.any, by omega, hd, h0 H0 K (by omega)⟩
  · rintro k H1 H2 ⟨h1, h2, h3, h4⟩ ho
    exact ⟨ho.keepW h1 (by omega), by rw [ho.1]; exact h2, by rw [ho.2 _ (by omega)]; exact h3, hst k H1 H2 h2 h1 h4 ho.keep⟩
  · rintro e H1 H2 ⟨h1, h2, h3, h4⟩ ho
    exact ⟨ho.keepW h1 (by omega), by rw [ho.1]; exact h2, by rw [ho.2 _ (by omega)]; exact h3, hsx e H1 H2 h2 h1 h4 ho.keep⟩
  · rintro k H1 hk ⟨h1, h2, h3, h4⟩
    refine vc_mono ?_ (hr k H1 hk h1 h2 h4)
    rintro e f' H2 ⟨K, hq⟩
    have hl : ¬ (W (H.size + 1) ∨ H.size + 2 ≤ H.size + 1) := by
      rintro (h | h)
      · have := hW _ h; omega
      · omega
    have hd : ¬ (W H.size ∨ H.size + 2 ≤ H.size) := by
      rintro (h | h)
      · have := hW _ h; omega
      · omega
    have KW : Keep W H H2 := h1.trans' K (fun i hi h => h.resolve_right (by omega))
    have hs : H.size + 2 ≤ H2.size := Nat.le_trans h2 K.size
    have hd2 : H2[H.size]? = some (.deferred (some [])) := by rw [K.at_ _ (by omega) hd]; exact h3
    refine ⟨K.at_ _ (by omega) hl, ?_⟩
    cases e with
    | n => exact ⟨KW, hs, hd2, hq⟩
    | x id => exact ⟨KW, hs, hd2, hq⟩
    | r => exact ⟨KW, hs, hd2, hq⟩
  · rintro H1 ⟨h1, h2, h3, h4⟩; exact hdone H1 h1 h2 h3 h4
  · rintro e H1 ⟨h1, h2, h3, h4⟩; exact hleft e H1 h1 h2 h3 h4
@[go_sem] theorem retQR_n (g : Nat) (rs : List RV) (R) (f : Fr) (H : Hp) : retQR g rs R .n f H = ((mks (f g)).Nodup ∧ (∀ m ∈ mks (f g), H[m]? = some (.deferred (some []))) ∧
    ∀ H' : Hp, H'.size = H.size → (∀ k, k ∉ mks (f g) → H'[k]? = H[k]?) → resPre f H' rs ∧ R (resVal f H' rs) H') := rfl
@[go_sem] theorem retQR_r (g : Nat) (rs : List RV) (R) (f : Fr) (H : Hp) : retQR g rs R .r f H = ((mks (f g)).Nodup ∧ (∀ m ∈ mks (f g), H[m]? = some (.deferred (some []))) ∧
    ∀ H' : Hp, H'.size = H.size → (∀ k, k ∉ mks (f g) → H'[k]? = H[k]?) → resPre f H' rs ∧ R (resVal f H' rs) H') := rfl
theorem mks_undef : mks undef = [] := rfl
attribute [go_sem] mks_addM mks_undef
theorem Keep.marks {H H' : Hp} {ms : List Nat} (hs : H'.size = H.size) (hk : ∀ k, k ∉ ms → H'[k]? = H[k]?) : Keep (fun k => k ∈ ms) H H' := ⟨by omega, fun k _ h => hk k h⟩
end Go.Mg

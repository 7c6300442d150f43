/- Several texts of ours in one. No conditions. -/
import Derived.Test.YtjiacmbjgccfcaaDoorMgVC
import Derived.Test.YtjiacmbjgccfcaaDoorMgVE
namespace Go.Mg
set_option linter.unusedSimpArgs false
set_option linter.unusedVariables false
def okH (F : FlN) (s : List Int) : Prop := (∀ x ∈ F.di, difB s x = false) ∧ (∀ x ∈ F.sa, samB s x = false) ∧ ∀ x ∈ F.mo, mosB s x = false
theorem hldF_0 {F : FlN} {s : List Int} : (hldF F s).1 = 0 ↔ okH F s := by
  unfold hldF okH
  cases h1 : F.di.findIdx? (difB s) with
  | some i =>
    obtain ⟨hi, hp, _⟩ := List.findIdx?_eq_some_iff_getElem.1 h1
    simp only
    constructor
    · intro h; omega
    · intro h; rw [h.1 _ (List.getElem_mem hi)] at hp; cases hp
  | none =>
    cases h2 : F.sa.findIdx? (samB s) with
    | some i =>
      obtain ⟨hi, hp, _⟩ := List.findIdx?_eq_some_iff_getElem.1 h2
      simp only
      constructor
      · intro h; omega
      · intro h; rw [h.2.1 _ (List.getElem_mem hi)] at hp; cases hp
    | none =>
      cases h3 : F.mo.findIdx? (mosB s) with
      | some i =>
        obtain ⟨hi, hp, _⟩ := List.findIdx?_eq_some_iff_getElem.1 h3
        simp only
        constructor
        · intro h; omega
        · intro h; rw [h.2.2 _ (List.getElem_mem hi)] at hp; cases hp
      | none =>
        exact ⟨fun _ => ⟨List.findIdx?_eq_none_iff.1 h1, List.findIdx?_eq_none_iff.1 h2, List.findIdx?_eq_none_iff.1 h3⟩, fun _ => rfl⟩
def subS (p a : List Int) : Prop := p.length = a.length ∧ ∀ k, p.getD k 0 = 0 ∨ p.getD k 0 = a.getD k 0
theorem subS.sI {p a : List Int} (h : subS p a) {x : Int} (h0 : sI p x ≠ 0) : sI a x = sI p x := by
  rcases h.2 x.toNat with e | e
  · exact absurd e h0
  · exact e.symm
theorem subS.ok {F : FlN} {p a : List Int} (h : subS p a) (ha : okH F a) : okH F p := by
  refine ⟨fun x hx => ?_, fun x hx => ?_, fun x hx => ?_⟩
  · apply Bool.eq_false_iff.2
    intro hp
    have := ha.1 x hx
    unfold difB at this hp
    simp only [Bool.and_eq_true, decide_eq_true_eq] at hp
    rw [h.sI hp.1, h.sI (hp.2 ▸ hp.1)] at this
    simp only [Bool.and_eq_false_iff, decide_eq_false_iff_not] at this
    rcases this with h1 | h1
    · exact h1 hp.1
    · exact h1 hp.2
  · apply Bool.eq_false_iff.2
    intro hp
    have := ha.2.1 x hx
    unfold samB at this hp
    simp only [Bool.and_eq_true, decide_eq_true_eq] at hp
    rw [h.sI hp.1.1, h.sI hp.1.2] at this
    simp only [Bool.and_eq_false_iff, decide_eq_false_iff_not] at this
    rcases this with (h1 | h1) | h1
    · exact h1 hp.1.1
    · exact h1 hp.1.2
    · exact h1 hp.2
  · apply Bool.eq_false_iff.2
    intro hp
    have hf := ha.2.2 x hx
    obtain ⟨K, m⟩ := x
    obtain ⟨j, hj, h0, hK⟩ := mosB_iff.1 hp
    have hja : j < a.length := by have := h.1; omega
    have hgp : p.getD j 0 = p[j] := by rw [List.getD_eq_getElem?_getD, List.getElem?_eq_getElem hj]; rfl
    have hga : a.getD j 0 = a[j] := by rw [List.getD_eq_getElem?_getD, List.getElem?_eq_getElem hja]; rfl
    have e : a[j] = p[j] := by
      rcases h.2 j with e | e
      · rw [hgp] at e; exact absurd e h0
      · rw [hgp, hga] at e; exact e.symm
    have : mosB a (K, m) = true := by
      refine mosB_iff.2 ⟨j, hja, by rw [e]; exact h0, ?_⟩
      rw [e]
      have hm : usN p m p[j] p.length ≤ usN a m p[j] a.length := by
        unfold usN
        rw [h.1]
        refine cn_mono fun i hi hb => ?_
        simp only [Bool.and_eq_true, decide_eq_true_eq] at hb ⊢
        refine ⟨hb.1, ?_⟩
        rcases h.2 i with e | e
        · rw [hb.2] at e; exact absurd e h0
        · rw [← e]; exact hb.2
      omega
    rw [hf] at this; cases this
def oneS (n k : Nat) (v : Int) : List Int := (List.replicate n 0).set k v
theorem oneS_at {n k : Nat} {v : Int} {j : Nat} (h : (oneS n k v).getD j 0 ≠ 0) : j = k := by
  unfold oneS at h
  rw [List.getD_eq_getElem?_getD, List.getElem?_set] at h
  split at h
  · next e => exact e.symm
  · rw [List.getElem?_replicate] at h
    split at h <;> simp at h
theorem oneS_ok {F : FlN} (hG : Good F) {k : Nat} (hk : k < F.st.length) (v : Int) : okH F (oneS F.st.length k v) := by
  refine ⟨fun x hx => ?_, fun x hx => ?_, fun x hx => ?_⟩
  · obtain ⟨⟨a1, a2, a3, a4⟩, hne⟩ := hG.di x hx
    apply Bool.eq_false_iff.2
    intro hp
    unfold difB at hp
    simp only [Bool.and_eq_true, decide_eq_true_eq] at hp
    have e1 := oneS_at (show (oneS F.st.length k v).getD x.1.toNat 0 ≠ 0 from hp.1)
    have e2 := oneS_at (show (oneS F.st.length k v).getD x.2.toNat 0 ≠ 0 from fun h => hp.1 (hp.2.trans h))
    omega
  · obtain ⟨⟨a1, a2, a3, a4⟩, hne⟩ := hG.sa x hx
    apply Bool.eq_false_iff.2
    intro hp
    unfold samB at hp
    simp only [Bool.and_eq_true, decide_eq_true_eq] at hp
    have e1 := oneS_at (show (oneS F.st.length k v).getD x.1.toNat 0 ≠ 0 from hp.1.1)
    have e2 := oneS_at (show (oneS F.st.length k v).getD x.2.toNat 0 ≠ 0 from hp.1.2)
    omega
  · have hm := hG.mo x hx
    apply Bool.eq_false_iff.2
    intro hp
    obtain ⟨K, m⟩ := x
    obtain ⟨j, hj, h0, hK⟩ := mosB_iff.1 hp
    have h1 : 1 ≤ K := by
      unfold moE1 at hm
      split at hm
      · omega
      · next h => simp only at h; omega
    have h2 : usN (oneS F.st.length k v) m (oneS F.st.length k v)[j] (oneS F.st.length k v).length ≤ 1 := by
      unfold usN
      have hl : (oneS F.st.length k v).length = F.st.length := by simp [oneS]
      rw [hl, ← cn_one F.st.length k hk]
      refine cn_mono fun i hi hb => ?_
      simp only [Bool.and_eq_true, decide_eq_true_eq] at hb ⊢
      exact oneS_at (by rw [hb.2]; exact h0)
    omega
end Go.Mg
namespace Go.Mg
open Go Go.RowKit
set_option linter.unusedSimpArgs false
set_option linter.unusedVariables false
set_option maxRecDepth 100000
def c_fpA (ι : Ids) : S :=
  (.seq (.reg [.p (.t 43) (.mv (.v 15)), .p (.t 44) (.mv (.v 1)), .p (.t 45) (.m (.lenl (.t 44))), .p (.v 46) (.cm .lss .i64 (.t 43) (.t 45))]) (.ite (.v 46) (.reg [.p (.t 47) (.mv (.v 12)), .p (.t 48)
  (.mv (.v 15)), .p (.t 49) (.mv (.v 1)), .p (.t 50) (.mv (.v 15)), .p (.t 51) (.is 1 (.t 49) (.t 50)), .p (.t 52) (.ld (.t 51)), .p (.t 53) (.dv .rem .u8 (.t 52) (.c (.int .u8 5))), .p (.t 54) (.ii
  .i64 (.t 53)), .p (.t 55) (.is 1 (.t 47) (.t 48)), .e .no (.st (.t 55) (.t 54))]) .skip))
def c_fpC (ι : Ids) : S :=
  (.seq (.reg [.p (.t 56) (.mv (.v 2)), .p (.t 57) (.mv (.v 15)), .p (.t 58) (.dv .rem .i64 (.t 57) (.c (.int .i64 8))), .p (.t 59) (.sh .shr .u8 (.t 56) (.t 58)), .p (.t 60) (.bt .and .u8 (.t 59) (.c
  (.int .u8 1))), .p (.v 61) (.cm .eql .u8 (.t 60) (.c (.int .u8 0)))]) (.ite (.v 61) (.reg [.p (.t 62) (.mv (.v 13)), .p (.t 63) (.mv (.v 15)), .p (.t 64) (.mv (.v 12)), .p (.t 65) (.mv (.v 15)), .p
  (.t 66) (.is 1 (.t 64) (.t 65)), .p (.t 67) (.ld (.t 66)), .p (.t 68) (.is 1 (.t 62) (.t 63)), .e .no (.st (.t 68) (.t 67))]) .skip))
def c_fpR (ι : Ids) : S :=
  (.seq (.reg [.p (.v 14) (.mv (.c (.bool true)))]) (.seq (.seq (.reg [.p (.v 39) (.mv (.v 11)), .p (.v 40) (.mv (.c (.int .i64 0)))]) (.blk 0 (.loop (.seq (.reg [.p (.v 41) (.cm .lss .i64 (.v 40) (.v
  39))]) (.seq (.ite (.v 41) .skip (.exit 0)) (.seq (.blk 1 (.seq (.reg [.p (.t 42) (.mv (.v 40)), .p (.v 15) (.mv (.t 42))]) (.seq (c_fpA ι) (.seq (c_fpC ι) (.seq (.reg [.p (.t 69) (.mv (.v 11)), .e
  (.t 70) (.mkS (ι.t 26) 1 8 #[.int .i64 0] (.t 69) (.t 69)), .p (.v 16) (.mv (.t 70))]) (.seq (.reg [.p (.t 71) (.mv (.v 16)), .p (.t 72) (.mv (.v 15)), .p (.t 73) (.mv (.v 12)), .p (.t 74) (.mv (.v
  15)), .p (.t 75) (.is 1 (.t 73) (.t 74)), .p (.t 76) (.ld (.t 75)), .p (.t 77) (.is 1 (.t 71) (.t 72)), .e .no (.st (.t 77) (.t 76))]) (.seq (.reg [.p (.t 79) (.m (.ldn 5 (.v 7))), .p (.t 80) (.mv (.v
  16)), .e (.t 81) (.call (ι.f 320) [.t 79, .t 80]), .p (.t 78) (.mv (.t 81)), .p (.t 82) (.ext (.t 78) 0), .p (.t 83) (.ext (.t 78) 1), .e (.t 17) (.new (ι.t 318) #[.int .i64 0, .int .i64 0]), .e .no
  (.stn 2 (.t 17) (.t 82)), .p (.v 18) (.mv (.t 83))]) (.reg [.p (.t 84) (.mv (.v 14)), .p (.t 85) (.mv (.t 84)), .gp (.t 86) (.t 85) true (.mv (.v 18)), .p (.t 87) (.pick (.t 85) (.t 86) (.c (.bool
  false))), .p (.v 14) (.mv (.t 87))])))))))) (.reg [.p (.t 88) (.ar .add .i64 (.v 40) (.c (.int .i64 1))), .p (.v 40) (.mv (.t 88))]))))))) (.seq (.reg [.p (.t 90) (.m (.ldn 5 (.v 7))), .p (.t 91) (.mv
  (.v 12)), .e (.t 92) (.call (ι.f 320) [.t 90, .t 91]), .p (.t 89) (.mv (.t 92)), .p (.t 93) (.ext (.t 89) 0), .p (.t 94) (.ext (.t 89) 1), .e (.t 19) (.new (ι.t 318) #[.int .i64 0, .int .i64 0]), .e
  .no (.stn 2 (.t 19) (.t 93)), .p (.v 20) (.mv (.t 94))]) (.seq (.reg [.p (.t 96) (.m (.ldn 5 (.v 7))), .p (.t 97) (.mv (.v 13)), .e (.t 98) (.call (ι.f 320) [.t 96, .t 97]), .p (.t 95) (.mv (.t 98)),
  .p (.t 99) (.ext (.t 95) 0), .p (.t 100) (.ext (.t 95) 1), .e (.t 21) (.new (ι.t 318) #[.int .i64 0, .int .i64 0]), .e .no (.stn 2 (.t 21) (.t 99)), .p (.v 22) (.mv (.t 100))]) (.seq (.reg [.p (.t
  101) (.mv (.v 14)), .p (.t 102) (.mv (.t 101)), .gp (.t 103) (.t 102) true (.mv (.v 20)), .gp (.t 104) (.t 102) true (.not (.t 103)), .gp (.t 105) (.t 102) true (.mv (.t 104)), .gp (.t 106) (.t 105)
  false (.mv (.v 22)), .gp (.t 107) (.t 102) true (.pick (.t 105) (.c (.bool true)) (.t 106)), .p (.t 108) (.pick (.t 102) (.t 107) (.c (.bool false))), .p (.v 6) (.mv (.t 108))]) .ret)))))
def c_lfpar (ι : Ids) : S :=
  .seq (.reg [.e (.v 3) (.box (ι.t 288) (.v 0)), .p (.v 6) (.mv (.c (.bool false)))]) (.seq (.seq (.reg [.e (.t 23) (.call (ι.f 323) []), .p (.v 24) (.not (.t 23))]) (.ite (.v 24) (.seq (.reg [.p (.v 6)
  (.mv (.c (.bool false)))]) .ret) .skip)) (.seq (.reg [.p (.t 26) (.m (.ldn 7 (.v 3))), .e (.t 27) (.call (ι.f 300) [.t 26]), .p (.t 25) (.mv (.t 27)), .p (.t 28) (.ext (.t 25) 0), .p (.t 29) (.ext (.t
  25) 1), .p (.t 30) (.ext (.t 25) 2), .p (.t 31) (.ext (.t 25) 3), .e (.v 7) (.new (ι.t 296) #[.slice .none 0 0, .slice .none 0 0, .slice .none 0 0, .slice .none 0 0, .slice .none 0 0]), .e (.t 9)
  (.new (ι.t 289) #[.slice .none 0 0, .slice .none 0 0, .slice .none 0 0, .slice .none 0 0, .slice .none 0 0]), .e .no (.stn 5 (.v 7) (.t 28)), .p (.t 8) (.mv (.t 29)), .e .no (.stn 5 (.t 9) (.t 30)),
  .p (.t 10) (.mv (.t 31))]) (.seq (.reg [.p (.t 32) (.fa 0 (.v 7)), .p (.t 33) (.ld (.t 32)), .p (.t 34) (.m (.lenl (.t 33))), .p (.v 11) (.mv (.t 34))]) (.seq (.dr (.px (.t 35) .none (.mv (.v 11))
  (.px (.t 37) .none (.mv (.v 11)) (.wcons (.t 36) .none (.mkS (ι.t 26) 1 8 #[.int .i64 0] (.t 35) (.t 35)) (.px (.v 12) .none (.mv (.t 36)) (.wcons (.t 38) .none (.mkS (ι.t 26) 1 8 #[.int .i64 0] (.t
  37) (.t 37)) (.px (.v 13) .none (.mv (.t 38)) .done) .wnil)) (.wcons (.t 38) .none (.mkS (ι.t 26) 1 8 #[.int .i64 0] (.t 37) (.t 37)) (.wcons (.t 36) .none (.mkS (ι.t 26) 1 8 #[.int .i64 0] (.t 35)
  (.t 35)) (.px (.v 12) .none (.mv (.t 36)) (.px (.v 13) .none (.mv (.t 38)) .done)) .wnil) .wnil))))) (c_fpR ι)))))
def r_lfpar : List RV := [.t 6]
def usr (l : List UInt8) (k : Nat) : Int := if k < l.length then (((l.getD k 0).toNat % 5 : Nat) : Int) else 0
def frs (n : Nat) (a : Nat → Int) (i : Nat) : List Int := (List.range n).map fun k => if k < i then a k else 0
theorem frs_0 (n : Nat) (a : Nat → Int) : frs n a 0 = List.replicate n 0 := by
  apply List.ext_getElem <;> simp [frs]
theorem frs_len (n : Nat) (a : Nat → Int) (i : Nat) : (frs n a i).length = n := by simp [frs]
theorem frs_succ {n : Nat} {a : Nat → Int} {i : Nat} (hi : i < n) : frs n a (i + 1) = (frs n a i).set i (a i) := by
  apply List.ext_getElem
  · simp [frs]
  · intro j h1 h2
    simp only [frs, List.getElem_map, List.getElem_range, List.getElem_set]
    by_cases e : i = j
    · subst e; simp
    · rw [if_neg e]
      by_cases h : j < i
      · rw [if_pos h, if_pos (by omega)]
      · rw [if_neg h, if_neg (by omega)]
theorem frs_get {n : Nat} {a : Nat → Int} {i k : Nat} (hk : k < n) : (frs n a i).getD k 0 = if k < i then a k else 0 := by
  rw [List.getD_eq_getElem?_getD, List.getElem?_eq_getElem (by rw [frs_len]; exact hk)]
  simp [frs]
theorem frs_fit {n : Nat} {a : Nat → Int} {i : Nat} (h : ∀ k, 0 ≤ a k ∧ a k ≤ 256) : fitB n (frs n a i) = true := by
  unfold fitB
  rw [frs_len, decide_eq_true rfl, Bool.and_true, List.all_eq_true]
  intro u hu
  obtain ⟨k, hk, rfl⟩ := List.mem_map.1 hu
  have := h k
  split
  · simp; omega
  · simp
theorem usr_rng (l : List UInt8) (k : Nat) : 0 ≤ usr l k ∧ usr l k ≤ 256 := by
  unfold usr; split <;> omega
theorem fpA_ok {P : Program} {ι : Ids} {f : Fr} {A : Hp} {ba k n : Nat} {sv : Value} {l : List UInt8} {S : List Int} {Qb : Ex → Fr → Hp → Prop} (h1 : f 1 = sv) (h12 : f 12 = .slice (some ⟨ba, 0, none⟩) n n) (h15 : f 15 = .int .i64 (k : Int)) (B : Bl A ba (iL S)) (hS : S.length = n) (hk : k < n) (hn : n ≤ 10) (hs : SlR A sv (w8 l)) (h0 : S.getD k 0 = 0)
    (hK : ∀ f' A', (∀ j, j ≠ 46 → f' j = f j) → Bl A' ba (iL (S.set k (usr l k))) → Keep (fun q => q = ba) A A' → Qb .n f' A') : vc P (c_fpA ι) Qb f A := by
  unfold c_fpA
  have hlen : lenV sv = l.length := by rw [hs.len, w8_len]
  have keep : ∀ (z : Value), ∀ j, j ≠ 46 → upd f 46 z j = f j := fun z j hj => by simp only [upd, hj, if_false]
  by_cases e : k < l.length
  · have d1 : decide ((k : Int) < (l.length : Int)) = true := decide_eq_true (by omega)
    have hne : w8 l ≠ [] := fun h => by have := congrArg List.length h; rw [w8_len, List.length_nil] at this; omega
    obtain ⟨sb, so, sc, rfl, hsc, hcell⟩ := hs.cells hne
    have c1 := hcell k (by rw [w8_len]; exact e)
    have c1' : cell A ⟨sb, so + k, none⟩ = some (.int .u8 ((l.getD k 0).toNat : Int)) := by
      rw [c1]; simp [w8, List.getD_eq_getElem?_getD, List.getElem?_eq_getElem e]
    have e5 : (((l.getD k 0).toNat : Int)).tmod 5 = (((l.getD k 0).toNat % 5 : Nat) : Int) := tmod_nat _ 5
    have w5 : IntKind.u8.wrap (((l.getD k 0).toNat % 5 : Nat) : Int) = (((l.getD k 0).toNat % 5 : Nat) : Int) := IntWalk.u8_in _ (by omega)
    have w6 : IntKind.i64.wrap (((l.getD k 0).toNat % 5 : Nat) : Int) = (((l.getD k 0).toNat % 5 : Nat) : Int) := IntWalk.i64_in _ (by omega)
    have tk := B.okSt (o := k) (by rw [iL_len]; omega)
    have Bk := B.setc k (.int .i64 (((l.getD k 0).toNat % 5 : Nat) : Int))
    rw [iL_set] at Bk
    have kk : Keep (fun q => q = ba) A (setc A ⟨ba, k, none⟩ (.int .i64 (((l.getD k 0).toNat % 5 : Nat) : Int))) := (Keep.refl _ _).setc _ (.inl rfl)
    simp -implicitDefEqProofs only [go_sem, zS, ↓reduceIte, Nat.reduceEqDiff, Nat.reduceAdd, Nat.reduceMul, reduceCtorEq, kont_eq, zU, zV, Int.reduceBEq, Int.reduceBNe, Int.reduceLE, Int.reduceLT, Nat.reduceLeDiff, Nat.reduceLT, zF, h1, h12, h15, w8_len, d1, c1', e5, w5, w6, Nat.zero_add, tk, tn_cast]
    refine ⟨by omega, by decide, by omega, hK _ _ (keep _) ?_ kk⟩
    unfold usr
    rw [if_pos e]; exact Bk
  · have d1 : decide ((k : Int) < (l.length : Int)) = false := decide_eq_false (by omega)
    simp -implicitDefEqProofs only [go_sem, zS, ↓reduceIte, Nat.reduceEqDiff, Nat.reduceAdd, Nat.reduceMul, reduceCtorEq, kont_eq, zU, zV, Int.reduceBEq, Int.reduceBNe, Int.reduceLE, Int.reduceLT, Nat.reduceLeDiff, Nat.reduceLT, zF, h1, h12, h15, hs.isSl, hlen, d1]
    refine hK _ A (keep _) ?_ (Keep.refl _ _)
    have : S.set k (usr l k) = S := by
      unfold usr
      rw [if_neg e, ← h0]
      apply List.ext_getElem
      · simp
      · intro j h1 h2
        rw [List.getElem_set]
        split
        · next h => subst h; rw [List.getD_eq_getElem?_getD, List.getElem?_eq_getElem h2]; rfl
        · rfl
    rw [this]; exact B
theorem fpC_ok {P : Program} {ι : Ids} {f : Fr} {A : Hp} {ba bp k n : Nat} {op : UInt8} {S T : List Int} {Qb : Ex → Fr → Hp → Prop} (h2 : f 2 = .int .u8 op.toNat) (h12 : f 12 = .slice (some ⟨ba, 0, none⟩) n n) (h13 : f 13 = .slice (some ⟨bp, 0, none⟩) n n) (h15 : f 15 = .int .i64 (k : Int)) (B : Bl A ba (iL S)) (C : Bl A bp (iL T)) (hS : S.length = n) (hT : T.length = n) (hk : k < n) (hn : n ≤ 10)
    (hK : ∀ f' A' T', (∀ j, j ≠ 61 → f' j = f j) → Bl A' bp (iL T') → (T' = T ∨ T' = T.set k (S.getD k 0)) → Keep (fun q => q = bp) A A' → Qb .n f' A') : vc P (c_fpC ι) Qb f A := by
  unfold c_fpC
  have keep : ∀ (z : Value), ∀ j, j ≠ 61 → upd f 61 z j = f j := fun z j hj => by simp only [upd, hj, if_false]
  rw [vc_seq]
  have e8 : (k : Int).tmod 8 = ((k % 8 : Nat) : Int) := tmod_nat k 8
  have w1 : IntKind.i64.wrap ((k % 8 : Nat) : Int) = ((k % 8 : Nat) : Int) := IntWalk.i64_in _ (by omega)
  have ck : cell A ⟨ba, k, none⟩ = some (.int .i64 (S.getD k 0)) := by rw [B.cell, iL_get _ _ (by omega)]
  have tk := C.okSt (o := k) (by rw [iL_len]; omega)
  have Ck := C.setc k (.int .i64 (S.getD k 0))
  rw [iL_set] at Ck
  have kk : Keep (fun q => q = bp) A (setc A ⟨bp, k, none⟩ (.int .i64 (S.getD k 0))) := (Keep.refl _ _).setc _ (.inl rfl)
  simp -implicitDefEqProofs only [go_sem, zS, ↓reduceIte, Nat.reduceEqDiff, Nat.reduceAdd, Nat.reduceMul, reduceCtorEq, kont_eq, zU, zV, Int.reduceBEq, Int.reduceBNe, Int.reduceLE, Int.reduceLT, Nat.reduceLeDiff, Nat.reduceLT, zF, h2, h15, e8, w1, tn_cast]
  refine ⟨by decide, by omega, ?_⟩
  generalize (bits BinOp.and IntKind.u8 ((op.toNat : Int) / 2 ^ (k % 8)) 1 == 0) = bb
  cases bb with
  | true =>
    simp -implicitDefEqProofs only [go_sem, zS, ↓reduceIte, Nat.reduceEqDiff, Nat.reduceAdd, Nat.reduceMul, reduceCtorEq, kont_eq, zU, zV, Int.reduceBEq, Int.reduceBNe, Int.reduceLE, Int.reduceLT, Nat.reduceLeDiff, Nat.reduceLT, zF, h12, h13, Nat.zero_add, ck, tk]
    exact ⟨by omega, by omega, hK _ _ _ (keep _) Ck (.inr rfl) kk⟩
  | false =>
    simp -implicitDefEqProofs only [go_sem, zS, ↓reduceIte, Nat.reduceEqDiff, Nat.reduceAdd, Nat.reduceMul, reduceCtorEq, kont_eq, zU, zV, Int.reduceBEq, Int.reduceBNe, Int.reduceLE, Int.reduceLT, Nat.reduceLeDiff, Nat.reduceLT, zF]
    exact hK _ A T (keep _) C (.inl rfl) (Keep.refl _ _)
theorem fpR_ok {P : Program} {ι : Ids} (c : LFC P ι) {f : Fr} {A : Hp} {ba bp b5 n : Nat} {sv s b d a m : Value} {op : UInt8} {l : List UInt8} {F : FlN} {Q : Value → Hp → Prop} (h1 : f 1 = sv) (h2 : f 2 = .int .u8 op.toNat) (h7 : f 7 = .pointer (some ⟨b5, 0, none⟩)) (h11 : f 11 = .int .i64 (n : Int)) (h12 : f 12 = .slice (some ⟨ba, 0, none⟩) n n) (h13 : f 13 = .slice (some ⟨bp, 0, none⟩) n n)
    (hs : SlR A sv (w8 l)) (hsn : ∀ q, slB sv q → q ≠ ba ∧ q ≠ bp) (hn : n = F.st.length) (hok : okF F = true) (hT : ∀ A', Keep (fun q => q = ba ∨ q = bp) A A' → TabOk ι A' ∧ ProFl A' (.agg #[s, b, d, a, m]) F) (B5 : Bl A b5 [s, b, d, a, m]) (B : Bl A ba (iL (List.replicate n 0))) (C : Bl A bp (iL (List.replicate n 0))) (hab : ba ≠ bp) (h5 : b5 ≠ ba ∧ b5 ≠ bp)
    (hQ : ∀ A', Keep (fun q => q = ba ∨ q = bp) A A' → Q (.bool true) A') : vc P (c_fpR ι) (retQ [.t 6] Q) f A := by
  unfold c_fpR
  have hG := okF_good hok
  have hlt := hG.lt
  have hold : ∀ (S : List Int) (bq : Nat) (X : Hp) (K : Value → Hp → Prop), Keep (fun q => q = ba ∨ q = bp) A X → Bl X bq (iL S) → S.length = n → (∀ X', Keep (fun _ => False) X X' → K (hldV (hldR F S)) X') → CallsM P (ι.f 320) #[.agg #[s, b, d, a, m], .slice (some ⟨bq, 0, none⟩) n n] X K := fun S bq X K KX BX hS hK => by
    refine (c.hld F _ _ S X (hT X KX).1 (hT X KX).2 hok (SlR.bl (l := iL S) BX 0 n n (by omega) (by rw [iL_len]; omega) |> fun h => by rwa [List.drop_zero, List.take_of_length_le (by rw [iL_len]; omega)] at h)).mono ?_
    rintro w X' ⟨rfl, K'⟩
    exact hK X' K'
  have ansO : ∀ S, fitB F.st.length S = true → okH F S → (hldR F S).2.2 = true := fun S h1 h2 => by
    unfold hldR; rw [if_pos h1]
    exact decide_eq_true (hldF_0.2 h2)
  simp -implicitDefEqProofs only [go_sem, zS, ↓reduceIte, Nat.reduceEqDiff, Nat.reduceAdd, Nat.reduceMul, reduceCtorEq, kont_eq, zU, zV, Int.reduceBEq, Int.reduceBNe, Int.reduceLE, Int.reduceLT, Nat.reduceLeDiff, Nat.reduceLT, zF, h11]
  refine vc_range n [41, 15, 46, 61, 16, 18, 14, 40] rfl rfl (by omega) (by simp -implicitDefEqProofs only [go_sem, zS, ↓reduceIte, Nat.reduceEqDiff, Nat.reduceAdd, Nat.reduceMul, reduceCtorEq, kont_eq, zU, zV, Int.reduceBEq, Int.reduceBNe, Int.reduceLE, Int.reduceLT, Nat.reduceLeDiff, Nat.reduceLT]) (by simp -implicitDefEqProofs only [go_sem, zS, ↓reduceIte, Nat.reduceEqDiff, Nat.reduceAdd, Nat.reduceMul, reduceCtorEq, kont_eq, zU, zV, Int.reduceBEq, Int.reduceBNe, Int.reduceLE, Int.reduceLT, Nat.reduceLeDiff, Nat.reduceLT]) (fun i g X => g 14 = .bool true ∧ Bl X ba (iL (frs n (usr l) i)) ∧ (∃ T, Bl X bp (iL T) ∧ T.length = n ∧ ∀ j, T.getD j 0 = 0 ∨ (j < i ∧ T.getD j 0 = usr l j)) ∧ Keep (fun q => q = ba ∨ q = bp) A X) ⟨by simp -implicitDefEqProofs only [go_sem, zS, ↓reduceIte, Nat.reduceEqDiff, Nat.reduceAdd, Nat.reduceMul, reduceCtorEq, kont_eq, zU, zV, Int.reduceBEq, Int.reduceBNe, Int.reduceLE, Int.reduceLT, Nat.reduceLeDiff, Nat.reduceLT], by rw [frs_0]; exact B, ⟨_, C, by simp, fun j => .inl (getD_rep _ _)⟩, Keep.refl _ _⟩ ?_ ?_
  · rintro i g X hi gi gn ⟨g14, BX, ⟨T, CX, hTl, hTj⟩, KX⟩
    simp -implicitDefEqProofs only [go_sem, zS, ↓reduceIte, Nat.reduceEqDiff, Nat.reduceAdd, Nat.reduceMul, reduceCtorEq, kont_eq, zU, zV, Int.reduceBEq, Int.reduceBNe, Int.reduceLE, Int.reduceLT, Nat.reduceLeDiff, Nat.reduceLT] at gi gn g14
    have s5 := B5.lt
    have sa := B.lt
    have sp := C.lt
    have sX := KX.size
    simp -implicitDefEqProofs only [go_sem, zS, ↓reduceIte, Nat.reduceEqDiff, Nat.reduceAdd, Nat.reduceMul, reduceCtorEq, kont_eq, zU, zV, Int.reduceBEq, Int.reduceBNe, Int.reduceLE, Int.reduceLT, Nat.reduceLeDiff, Nat.reduceLT, zF, gi]
    refine fpA_ok (k := i) (n := n) (l := l) (S := frs n (usr l) i) (by simp -implicitDefEqProofs only [go_sem, zS, ↓reduceIte, Nat.reduceEqDiff, Nat.reduceAdd, Nat.reduceMul, reduceCtorEq, kont_eq, zU, zV, Int.reduceBEq, Int.reduceBNe, Int.reduceLE, Int.reduceLT, Nat.reduceLeDiff, Nat.reduceLT, h1]) (by simp -implicitDefEqProofs only [go_sem, zS, ↓reduceIte, Nat.reduceEqDiff, Nat.reduceAdd, Nat.reduceMul, reduceCtorEq, kont_eq, zU, zV, Int.reduceBEq, Int.reduceBNe, Int.reduceLE, Int.reduceLT, Nat.reduceLeDiff, Nat.reduceLT, h12]) (by simp -implicitDefEqProofs only [go_sem, zS, ↓reduceIte, Nat.reduceEqDiff, Nat.reduceAdd, Nat.reduceMul, reduceCtorEq, kont_eq, zU, zV, Int.reduceBEq, Int.reduceBNe, Int.reduceLE, Int.reduceLT, Nat.reduceLeDiff, Nat.reduceLT]) BX (frs_len _ _ _) hi (by omega) (hs.keep KX fun q hq h => h.elim (hsn q hq).1 (hsn q hq).2) (by rw [frs_get hi]; simp) fun f1 X1 hf1 B1 K1 => ?_
    rw [← frs_succ hi] at B1
    have s1 := K1.size
    have CX1 := K1.bl CX (by omega)
    have r1 : ∀ j, j ≠ 46 → f1 j = _ := hf1
    simp -implicitDefEqProofs only [go_sem, zS, ↓reduceIte, Nat.reduceEqDiff, Nat.reduceAdd, Nat.reduceMul, reduceCtorEq, kont_eq, zU, zV, Int.reduceBEq, Int.reduceBNe, Int.reduceLE, Int.reduceLT, Nat.reduceLeDiff, Nat.reduceLT, zF]
    refine fpC_ok (k := i) (n := n) (op := op) (S := frs n (usr l) (i + 1)) (T := T) (by rw [hf1 2 (by decide)]; simp -implicitDefEqProofs only [go_sem, zS, ↓reduceIte, Nat.reduceEqDiff, Nat.reduceAdd, Nat.reduceMul, reduceCtorEq, kont_eq, zU, zV, Int.reduceBEq, Int.reduceBNe, Int.reduceLE, Int.reduceLT, Nat.reduceLeDiff, Nat.reduceLT, h2]) (by rw [hf1 12 (by decide)]; simp -implicitDefEqProofs only [go_sem, zS, ↓reduceIte, Nat.reduceEqDiff, Nat.reduceAdd, Nat.reduceMul, reduceCtorEq, kont_eq, zU, zV, Int.reduceBEq, Int.reduceBNe, Int.reduceLE, Int.reduceLT, Nat.reduceLeDiff, Nat.reduceLT, h12]) (by rw [hf1 13 (by decide)]; simp -implicitDefEqProofs only [go_sem, zS, ↓reduceIte, Nat.reduceEqDiff, Nat.reduceAdd, Nat.reduceMul, reduceCtorEq, kont_eq, zU, zV, Int.reduceBEq, Int.reduceBNe, Int.reduceLE, Int.reduceLT, Nat.reduceLeDiff, Nat.reduceLT, h13]) (by rw [hf1 15 (by decide)]; simp -implicitDefEqProofs only [go_sem, zS, ↓reduceIte, Nat.reduceEqDiff, Nat.reduceAdd, Nat.reduceMul, reduceCtorEq, kont_eq, zU, zV, Int.reduceBEq, Int.reduceBNe, Int.reduceLE, Int.reduceLT, Nat.reduceLeDiff, Nat.reduceLT]) B1 CX1 (frs_len _ _ _) hTl hi (by omega) fun f2 X2 T' hf2 C2 hT' K2 => ?_
    have B2 := K2.bl B1 hab
    have K02 : Keep (fun q => q = ba ∨ q = bp) A X2 := (KX.trans (K1.mono fun q _ h => .inl h)).trans (K2.mono fun q _ h => .inr h)
    have hTl' : T'.length = n := by rcases hT' with rfl | rfl <;> simp [hTl]
    have hTj' : ∀ j, T'.getD j 0 = 0 ∨ (j < i + 1 ∧ T'.getD j 0 = usr l j) := fun j => by
      rcases hT' with rfl | rfl
      · rcases hTj j with h | ⟨h, h'⟩
        · exact .inl h
        · exact .inr ⟨by omega, h'⟩
      · rw [List.getD_eq_getElem?_getD, List.getElem?_set]
        split
        · next e =>
          subst e
          rw [if_pos (by omega)]
          right
          exact ⟨by omega, by rw [Option.getD_some, frs_get hi, if_pos (by omega)]⟩
        · rw [← List.getD_eq_getElem?_getD]
          rcases hTj j with h | ⟨h, h'⟩
          · exact .inl h
          · exact .inr ⟨by omega, h'⟩
    have q : ∀ j, j ≠ 46 → j ≠ 61 → f2 j = _ := fun j h h' => (hf2 j h').trans (hf1 j h)
    have q11 : f2 11 = .int .i64 (n : Int) := by rw [q 11 (by decide) (by decide)]; simp -implicitDefEqProofs only [go_sem, zS, ↓reduceIte, Nat.reduceEqDiff, Nat.reduceAdd, Nat.reduceMul, reduceCtorEq, kont_eq, zU, zV, Int.reduceBEq, Int.reduceBNe, Int.reduceLE, Int.reduceLT, Nat.reduceLeDiff, Nat.reduceLT, h11]
    have q12 : f2 12 = .slice (some ⟨ba, 0, none⟩) n n := by rw [q 12 (by decide) (by decide)]; simp -implicitDefEqProofs only [go_sem, zS, ↓reduceIte, Nat.reduceEqDiff, Nat.reduceAdd, Nat.reduceMul, reduceCtorEq, kont_eq, zU, zV, Int.reduceBEq, Int.reduceBNe, Int.reduceLE, Int.reduceLT, Nat.reduceLeDiff, Nat.reduceLT, h12]
    have q15 : f2 15 = .int .i64 (i : Int) := by rw [q 15 (by decide) (by decide)]; simp -implicitDefEqProofs only [go_sem, zS, ↓reduceIte, Nat.reduceEqDiff, Nat.reduceAdd, Nat.reduceMul, reduceCtorEq, kont_eq, zU, zV, Int.reduceBEq, Int.reduceBNe, Int.reduceLE, Int.reduceLT, Nat.reduceLeDiff, Nat.reduceLT]
    have q7 : f2 7 = .pointer (some ⟨b5, 0, none⟩) := by rw [q 7 (by decide) (by decide)]; simp -implicitDefEqProofs only [go_sem, zS, ↓reduceIte, Nat.reduceEqDiff, Nat.reduceAdd, Nat.reduceMul, reduceCtorEq, kont_eq, zU, zV, Int.reduceBEq, Int.reduceBNe, Int.reduceLE, Int.reduceLT, Nat.reduceLeDiff, Nat.reduceLT, h7]
    have q14 : f2 14 = .bool true := by rw [q 14 (by decide) (by decide)]; simp -implicitDefEqProofs only [go_sem, zS, ↓reduceIte, Nat.reduceEqDiff, Nat.reduceAdd, Nat.reduceMul, reduceCtorEq, kont_eq, zU, zV, Int.reduceBEq, Int.reduceBNe, Int.reduceLE, Int.reduceLT, Nat.reduceLeDiff, Nat.reduceLT, g14]
    simp -implicitDefEqProofs only [go_sem, zS, ↓reduceIte, Nat.reduceEqDiff, Nat.reduceAdd, Nat.reduceMul, reduceCtorEq, zU, zV, Int.reduceBEq, Int.reduceBNe, Int.reduceLE, Int.reduceLT, Nat.reduceLeDiff, Nat.reduceLT, zF, q11]
    refine ⟨⟨by omega, by omega, by unfold maxLen; omega⟩, ?_⟩
    refine kont_news fun X3 b16 e16 z16 B16 K3 => ?_
    rw [rep_one, iL_rep] at B16
    have s3 := K3.size
    have s2 := K02.size
    have B3 := K3.bl B2 (by simp)
    have C3 := K3.bl C2 (by simp)
    have ck : cell X3 ⟨ba, i, none⟩ = some (.int .i64 (usr l i)) := by rw [B3.cell, iL_get _ _ (by rw [frs_len]; exact hi), frs_get hi, if_pos (by omega)]
    have tk := B16.okSt (o := i) (by rw [iL_len, List.length_replicate]; exact hi)
    have D16 := B16.setc i (.int .i64 (usr l i))
    rw [iL_set] at D16
    have K4 : Keep (fun q => q = b16) X3 (setc X3 ⟨b16, i, none⟩ (.int .i64 (usr l i))) := (Keep.refl _ _).setc _ (.inl rfl)
    simp -implicitDefEqProofs only [go_sem, zS, ↓reduceIte, Nat.reduceEqDiff, Nat.reduceAdd, Nat.reduceMul, reduceCtorEq, zU, zV, Int.reduceBEq, Int.reduceBNe, Int.reduceLE, Int.reduceLT, Nat.reduceLeDiff, Nat.reduceLT, zF, q12, q15, Nat.zero_add, ck, tk]
    refine ⟨by omega, by omega, ?_⟩
    generalize setc X3 ⟨b16, i, none⟩ (.int .i64 (usr l i)) = X4 at D16 K4 ⊢
    rw [kont_eq]
    have K24 : Keep (fun _ => False) X2 X4 := K3.trans' K4 fun q hq h => by omega
    have K04 := K02.trans K24.any
    have B54 := K04.bl B5 (by omega)
    have B4 := K24.bl B2 (by simp)
    have C4 := K24.bl C2 (by simp)
    simp -implicitDefEqProofs only [go_sem, zS, ↓reduceIte, Nat.reduceEqDiff, Nat.reduceAdd, Nat.reduceMul, reduceCtorEq, zU, zV, Int.reduceBEq, Int.reduceBNe, Int.reduceLE, Int.reduceLT, Nat.reduceLeDiff, Nat.reduceLT, zF, q7, B54.ldNO 5 rfl]
    refine hold (oneS n i (usr l i)) b16 X4 _ K04 D16 (by simp [oneS]) fun X5 K5 => ?_
    have hfit : fitB F.st.length (oneS n i (usr l i)) = true := by
      rw [← hn]
      unfold fitB
      rw [show (oneS n i (usr l i)).length = n by simp [oneS], decide_eq_true rfl, Bool.and_true, List.all_eq_true]
      intro u hu
      have : u = 0 ∨ u = usr l i := by
        rcases List.mem_or_eq_of_mem_set hu with h | h
        · exact .inl (List.mem_replicate.1 h).2
        · exact .inr h
      have := usr_rng l i
      simp; omega
    have hz := ansO _ hfit (by rw [hn]; exact oneS_ok hG (by omega) _)
    rw [kont_eq]
    simp -implicitDefEqProofs only [go_sem, zS, ↓reduceIte, Nat.reduceEqDiff, Nat.reduceAdd, Nat.reduceMul, reduceCtorEq, zU, zV, Int.reduceBEq, Int.reduceBNe, Int.reduceLE, Int.reduceLT, Nat.reduceLeDiff, Nat.reduceLT, zF, hldV, hz]
    refine kont_new fun X6 b17 e17 z17 B17 K6 => ?_
    have B17' : Bl X6 b17 [.int .i64 0, .int .i64 0] := B17
    have t17 := B17'.okNA (o := 0) (n := 2) (by simp)
    have s6 := K6.size
    have K7 : Keep (fun q => q = b17) X6 (stNA X6 ⟨b17, 0, none⟩ [.int .i64 ((hldR F (oneS n i (usr l i))).1 : Int), .int .i64 ((hldR F (oneS n i (usr l i))).2.1 : Int)]) := (Keep.refl _ _).stNA _ (.inl rfl)
    simp -implicitDefEqProofs only [go_sem, zS, ↓reduceIte, Nat.reduceEqDiff, Nat.reduceAdd, Nat.reduceMul, reduceCtorEq, zU, zV, Int.reduceBEq, Int.reduceBNe, Int.reduceLE, Int.reduceLT, Nat.reduceLeDiff, Nat.reduceLT, zF, t17]
    refine ⟨all1_of rfl, ?_⟩
    generalize stNA X6 ⟨b17, 0, none⟩ [.int .i64 ((hldR F (oneS n i (usr l i))).1 : Int), .int .i64 ((hldR F (oneS n i (usr l i))).2.1 : Int)] = X7 at K7 ⊢
    rw [kont_eq]
    have K27 : Keep (fun _ => False) X4 X7 := K5.trans (K6.trans' K7 fun q hq h => by omega)
    simp -implicitDefEqProofs only [go_sem, zS, ↓reduceIte, Nat.reduceEqDiff, Nat.reduceAdd, Nat.reduceMul, reduceCtorEq, kont_eq, zU, zV, Int.reduceBEq, Int.reduceBNe, Int.reduceLE, Int.reduceLT, Nat.reduceLeDiff, Nat.reduceLT, zF, q14]
    exact ⟨K27.bl B4 (by simp), ⟨T', K27.bl C4 (by simp), hTl', hTj'⟩, K04.trans K27.any⟩
  · rintro g X gi ⟨g14, BX, ⟨T, CX, hTl, hTj⟩, KX⟩
    simp -implicitDefEqProofs only [go_sem, zS, ↓reduceIte, Nat.reduceEqDiff, Nat.reduceAdd, Nat.reduceMul, reduceCtorEq, kont_eq, zU, zV, Int.reduceBEq, Int.reduceBNe, Int.reduceLE, Int.reduceLT, Nat.reduceLeDiff, Nat.reduceLT] at g14
    have s5 := B5.lt
    have B5X := KX.bl B5 (by omega)
    simp -implicitDefEqProofs only [go_sem, zS, ↓reduceIte, Nat.reduceEqDiff, Nat.reduceAdd, Nat.reduceMul, reduceCtorEq, zU, zV, Int.reduceBEq, Int.reduceBNe, Int.reduceLE, Int.reduceLT, Nat.reduceLeDiff, Nat.reduceLT, zF, h7, h12, h13, B5X.ldNO 5 rfl]
    refine hold (frs n (usr l) n) ba X _ KX BX (frs_len _ _ _) fun X1 K1 => ?_
    rw [kont_eq]
    simp -implicitDefEqProofs only [go_sem, zS, ↓reduceIte, Nat.reduceEqDiff, Nat.reduceAdd, Nat.reduceMul, reduceCtorEq, zU, zV, Int.reduceBEq, Int.reduceBNe, Int.reduceLE, Int.reduceLT, Nat.reduceLeDiff, Nat.reduceLT, zF, hldV]
    refine kont_new fun X2 b19 e19 z19 B19 K2 => ?_
    have B19' : Bl X2 b19 [.int .i64 0, .int .i64 0] := B19
    have t19 := B19'.okNA (o := 0) (n := 2) (by simp)
    have s2 := K2.size
    obtain ⟨y1, hy1⟩ : ∃ y, y = hldR F (frs n (usr l) n) := ⟨_, rfl⟩
    rw [← hy1]
    have K3 : Keep (fun q => q = b19) X2 (stNA X2 ⟨b19, 0, none⟩ [.int .i64 (y1.1 : Int), .int .i64 (y1.2.1 : Int)]) := (Keep.refl _ _).stNA _ (.inl rfl)
    simp -implicitDefEqProofs only [go_sem, zS, ↓reduceIte, Nat.reduceEqDiff, Nat.reduceAdd, Nat.reduceMul, reduceCtorEq, zU, zV, Int.reduceBEq, Int.reduceBNe, Int.reduceLE, Int.reduceLT, Nat.reduceLeDiff, Nat.reduceLT, zF, t19]
    refine ⟨all1_of rfl, ?_⟩
    generalize stNA X2 ⟨b19, 0, none⟩ [.int .i64 (y1.1 : Int), .int .i64 (y1.2.1 : Int)] = X3 at K3 ⊢
    have KX3 : Keep (fun _ => False) X X3 := K1.trans (K2.trans' K3 fun q hq h => by omega)
    have K03 := KX.trans KX3.any
    have B53 := KX3.bl B5X (by simp)
    rw [kont_eq]
    simp -implicitDefEqProofs only [go_sem, zS, ↓reduceIte, Nat.reduceEqDiff, Nat.reduceAdd, Nat.reduceMul, reduceCtorEq, zU, zV, Int.reduceBEq, Int.reduceBNe, Int.reduceLE, Int.reduceLT, Nat.reduceLeDiff, Nat.reduceLT, zF, h7, h12, h13, B53.ldNO 5 rfl]
    refine hold T bp X3 _ K03 (KX3.bl CX (by simp)) hTl fun X4 K4 => ?_
    rw [kont_eq]
    simp -implicitDefEqProofs only [go_sem, zS, ↓reduceIte, Nat.reduceEqDiff, Nat.reduceAdd, Nat.reduceMul, reduceCtorEq, zU, zV, Int.reduceBEq, Int.reduceBNe, Int.reduceLE, Int.reduceLT, Nat.reduceLeDiff, Nat.reduceLT, zF, hldV]
    refine kont_new fun X5 b21 e21 z21 B21 K5 => ?_
    have B21' : Bl X5 b21 [.int .i64 0, .int .i64 0] := B21
    have t21 := B21'.okNA (o := 0) (n := 2) (by simp)
    have s5' := K5.size
    obtain ⟨y2, hy2⟩ : ∃ y, y = hldR F T := ⟨_, rfl⟩
    rw [← hy2]
    have K6 : Keep (fun q => q = b21) X5 (stNA X5 ⟨b21, 0, none⟩ [.int .i64 (y2.1 : Int), .int .i64 (y2.2.1 : Int)]) := (Keep.refl _ _).stNA _ (.inl rfl)
    simp -implicitDefEqProofs only [go_sem, zS, ↓reduceIte, Nat.reduceEqDiff, Nat.reduceAdd, Nat.reduceMul, reduceCtorEq, zU, zV, Int.reduceBEq, Int.reduceBNe, Int.reduceLE, Int.reduceLT, Nat.reduceLeDiff, Nat.reduceLT, zF, t21]
    refine ⟨all1_of rfl, ?_⟩
    generalize stNA X5 ⟨b21, 0, none⟩ [.int .i64 (y2.1 : Int), .int .i64 (y2.2.1 : Int)] = X6 at K6 ⊢
    have K36 : Keep (fun _ => False) X3 X6 := K4.trans (K5.trans' K6 fun q hq h => by omega)
    have K06 := K03.trans K36.any
    rw [kont_eq]
    have hfT : fitB F.st.length T = true := by
      unfold fitB
      rw [hTl, ← hn, decide_eq_true rfl, Bool.and_true, List.all_eq_true]
      intro u hu
      obtain ⟨j, hj, rfl⟩ := List.getElem_of_mem hu
      have hg : T.getD j 0 = T[j] := by rw [List.getD_eq_getElem?_getD, List.getElem?_eq_getElem hj]; rfl
      have := usr_rng l j
      have := hTj j
      rw [hg] at this
      simp; omega
    have himp : y1.2.2 = true → y2.2.2 = true := fun h => by
      rw [hy2]
      refine ansO T hfT (subS.ok (a := frs n (usr l) n) ⟨by rw [hTl, frs_len], fun j => ?_⟩ (hldF_0.1 ?_))
      · rcases hTj j with h' | ⟨h', h''⟩
        · exact .inl h'
        · exact .inr (by rw [h'', frs_get h', if_pos h'])
      · rw [hy1] at h
        unfold hldR at h
        rw [if_pos (by rw [← hn]; exact frs_fit (usr_rng l))] at h
        simpa using h
    cases hb1 : y1.2.2 with
    | false =>
      simp -implicitDefEqProofs only [go_sem, zS, ↓reduceIte, Nat.reduceEqDiff, Nat.reduceAdd, Nat.reduceMul, reduceCtorEq, kont_eq, zU, zV, Int.reduceBEq, Int.reduceBNe, Int.reduceLE, Int.reduceLT, Nat.reduceLeDiff, Nat.reduceLT, zF, g14, hb1, Bool.not_false]
      exact hQ X6 K06
    | true =>
      have hb2 := himp hb1
      simp -implicitDefEqProofs only [go_sem, zS, ↓reduceIte, Nat.reduceEqDiff, Nat.reduceAdd, Nat.reduceMul, reduceCtorEq, kont_eq, zU, zV, Int.reduceBEq, Int.reduceBNe, Int.reduceLE, Int.reduceLT, Nat.reduceLeDiff, Nat.reduceLT, zF, g14, hb1, hb2, Bool.not_true]
      exact hQ X6 K06
def LawFPSpec (P : Program) (ι : Ids) (k : FuncId) : Prop := ∀ (r : RawF) (v sv : Value) (l : List UInt8) (op : UInt8) (H : Hp), TabOk ι H → RawFV H v r → SlR H sv (w8 l) → CallsM P k #[v, sv, .int .u8 op.toNat] H fun x H' => x = .bool true ∧ Keep (fun _ => False) H H'
theorem lfpar_ok {P : Program} {ι : Ids} {k : FuncId} (hk : FnIs P k (c_lfpar ι) r_lfpar 3) (c : LFC P ι) : LawFPSpec P ι k := by
  intro r v sv l op H hT hv hst
  obtain ⟨Q, hQ⟩ : ∃ Q : Value → Hp → Prop, Q = fun x H' => x = .bool true ∧ Keep (fun _ => False) H H' := ⟨_, rfl⟩
  rw [← hQ]
  refine calls_of_vc hk (args := [_, _, _]) (by simp) ?_
  unfold c_lfpar r_lfpar
  have hvr := hv
  obtain ⟨h0, ro, be, di, sa, mo, el, rfl, _⟩ := hv
  simp -implicitDefEqProofs only [go_sem, zS, ↓reduceIte, Nat.reduceEqDiff, Nat.reduceAdd, Nat.reduceMul, reduceCtorEq, zU, zV, Int.reduceBEq, Int.reduceBNe, Int.reduceLE, Int.reduceLT, Nat.reduceLeDiff, Nat.reduceLT, zF]
  refine kont_new fun H1 b2 e1 z1 B1 K1 => ?_
  have B1' : Bl H1 b2 [.int .u8 (r.n : Int), ro, be, di, sa, mo, el] := B1
  simp -implicitDefEqProofs only [go_sem, zS, ↓reduceIte, Nat.reduceEqDiff, Nat.reduceAdd, Nat.reduceMul, reduceCtorEq, zU, zV, Int.reduceBEq, Int.reduceBNe, Int.reduceLE, Int.reduceLT, Nat.reduceLeDiff, Nat.reduceLT, zF]
  refine (c.aw H1 (hT.keep K1)).mono ?_
  rintro x H2 ⟨rfl, K2⟩
  have K02 := K1.trans K2
  have B2 := K2.bl B1' (by simp)
  rw [kont_eq]
  simp -implicitDefEqProofs only [go_sem, zS, ↓reduceIte, Nat.reduceEqDiff, Nat.reduceAdd, Nat.reduceMul, reduceCtorEq, zU, zV, Int.reduceBEq, Int.reduceBNe, Int.reduceLE, Int.reduceLT, Nat.reduceLeDiff, Nat.reduceLT, zF, Bool.not_true, B2.ldNO 7 rfl]
  refine (c.mak r _ H2 (RawFV.keep0 hvr K02)).mono ?_
  rintro x H3 ⟨fv, lv, mv, uv, rfl, hP, _, hM, _, K3⟩
  have K03 := K02.trans K3
  have hP := hP.fl
  have hP0 := hP
  have hM0 := hM
  obtain ⟨s, b, d, a, m, ms, rfl, hss, _⟩ := hP
  obtain ⟨s', b', d', a', m', rfl, _⟩ := hM
  rw [kont_eq]
  simp -implicitDefEqProofs only [go_sem, zS, ↓reduceIte, Nat.reduceEqDiff, Nat.reduceAdd, Nat.reduceMul, reduceCtorEq, zU, zV, Int.reduceBEq, Int.reduceBNe, Int.reduceLE, Int.reduceLT, Nat.reduceLeDiff, Nat.reduceLT, zF]
  refine kont_new fun H4 b5 e4 z4 B4 K4 => ?_
  have B4' : Bl H4 b5 [.slice none 0 0, .slice none 0 0, .slice none 0 0, .slice none 0 0, .slice none 0 0] := B4
  simp -implicitDefEqProofs only [go_sem, zS, ↓reduceIte, Nat.reduceEqDiff, Nat.reduceAdd, Nat.reduceMul, reduceCtorEq, zU, zV, Int.reduceBEq, Int.reduceBNe, Int.reduceLE, Int.reduceLT, Nat.reduceLeDiff, Nat.reduceLT, zF]
  refine kont_new fun H5 b7 e5 z5 B5 K5 => ?_
  have B5' : Bl H5 b7 [.slice none 0 0, .slice none 0 0, .slice none 0 0, .slice none 0 0, .slice none 0 0] := B5
  have s4 := K4.size
  have s5 := K5.size
  have B45 := K5.bl B4' (by simp)
  have t4 := B45.okNA (o := 0) (n := 5) (by simp)
  have C5 := B45.stNA 0 [s, b, d, a, m]
  have L1 : Keep (fun q => q = b5) H5 (stNA H5 ⟨b5, 0, none⟩ [s, b, d, a, m]) := (Keep.refl _ _).stNA _ (.inl rfl)
  have D7 := L1.bl B5' (by omega)
  have t7 := D7.okNA (o := 0) (n := 5) (by simp)
  have C7 := D7.stNA 0 [s', b', d', a', m']
  have L2 : Keep (fun q => q = b7) (stNA H5 ⟨b5, 0, none⟩ [s, b, d, a, m]) (stNA (stNA H5 ⟨b5, 0, none⟩ [s, b, d, a, m]) ⟨b7, 0, none⟩ [s', b', d', a', m']) := (Keep.refl _ _).stNA _ (.inl rfl)
  have D5 := L2.bl C5 (by omega)
  have ha : all1 #[s, b, d, a, m] := hP0.all1
  have ha' : all1 #[s', b', d', a', m'] := hM0.all1
  simp -implicitDefEqProofs only [go_sem, zS, ↓reduceIte, Nat.reduceEqDiff, Nat.reduceAdd, Nat.reduceMul, reduceCtorEq, zU, zV, Int.reduceBEq, Int.reduceBNe, Int.reduceLE, Int.reduceLT, Nat.reduceLeDiff, Nat.reduceLT, zF, t4, t7]
  refine ⟨ha, ?_⟩
  rw [kont_eq]
  simp -implicitDefEqProofs only [go_sem, zS, ↓reduceIte, Nat.reduceEqDiff, Nat.reduceAdd, Nat.reduceMul, reduceCtorEq, zU, zV, Int.reduceBEq, Int.reduceBNe, Int.reduceLE, Int.reduceLT, Nat.reduceLeDiff, Nat.reduceLT, zF, t7]
  refine ⟨ha', ?_⟩
  generalize stNA (stNA H5 ⟨b5, 0, none⟩ [s, b, d, a, m]) ⟨b7, 0, none⟩ [s', b', d', a', m'] = H6 at L2 D5 C7 ⊢
  have K36 : Keep (fun _ => False) H3 H6 := ((K4.trans K5).trans' L1 fun q hq h => by omega).trans' L2 fun q hq h => by omega
  have K06 := K03.trans K36
  have C5' : Bl H6 b5 [s, b, d, a, m] := D5
  have p6 := hP0.keep0 K36
  have hT6 := hT.keep K06
  have hok := mkF_ok r
  have hG := mkF_good r
  have hlt := hG.lt
  have c0 : cell H6 ⟨b5, 0, none⟩ = some s := by rw [C5'.cell]; rfl
  obtain ⟨n, hn⟩ : ∃ n, n = (mkF r).st.length := ⟨_, rfl⟩
  rw [kont_eq]
  simp -implicitDefEqProofs only [go_sem, zS, ↓reduceIte, Nat.reduceEqDiff, Nat.reduceAdd, Nat.reduceMul, reduceCtorEq, zU, zV, Int.reduceBEq, Int.reduceBNe, Int.reduceLE, Int.reduceLT, Nat.reduceLeDiff, Nat.reduceLT, zF, c0, hss.isSl, hss.len, ← hn]
  refine vc_drk (fun _ => False) ?_
  simp -implicitDefEqProofs only [go_sem, zS, ↓reduceIte, Nat.reduceEqDiff, Nat.reduceAdd, Nat.reduceMul, reduceCtorEq, zU, zV, Int.reduceBEq, Int.reduceBNe, Int.reduceLE, Int.reduceLT, Nat.reduceLeDiff, Nat.reduceLT, zF, forall_const]
  have hrep : ∀ (X : Hp) (T : TypeId), X.size = X.size ∧ Bl (X.push (.cells (rep #[.int .i64 0] n) T)) X.size (iL (List.replicate n 0)) := fun X T => ⟨rfl, by
    have := Bl.new' X (rep #[.int .i64 0] n) T
    rw [rep_one, iL_rep] at this; exact this⟩
  have s3 := K36.size
  have b5lt := C5'.lt
  have fin : ∀ (ba bp : Nat) (X : Hp) (f : Fr), Keep (fun _ => False) H6 X → H6.size ≤ ba → H6.size ≤ bp → ba ≠ bp → Bl X ba (iL (List.replicate n 0)) → Bl X bp (iL (List.replicate n 0)) → f 1 = sv → f 2 = .int .u8 op.toNat → f 7 = .pointer (some ⟨b5, 0, none⟩) → f 11 = .int .i64 (n : Int) → f 12 = .slice (some ⟨ba, 0, none⟩) n n → f 13 = .slice (some ⟨bp, 0, none⟩) n n → vc P (c_fpR ι) (retQ [.t 6] Q) f X := fun ba bp X f KX a1 a2 hab Ba Bp f1 f2 f7 f11 f12 f13 => by
    have old : ∀ q, slB sv q → q < H.size := fun q hq => hst.old hq
    have sH6 := K06.size
    refine fpR_ok c (F := mkF r) f1 f2 f7 f11 f12 f13 (hst.keep (K06.trans KX) (by simp)) (fun q hq => by have := old q hq; omega) hn hok (fun A' K => ?_) (KX.bl C5' (by simp)) Ba Bp hab (by omega) fun A' K => ?_
    · have KK : Keep (fun _ => False) H6 A' := KX.trans' K fun q hq h => by omega
      exact ⟨hT6.keep KK, p6.keep0 KK⟩
    · rw [hQ]
      exact ⟨rfl, K06.trans (KX.trans' K fun q hq h => by omega)⟩
  have dim : (0 : Int) ≤ n ∧ 8 * (n : Int) ≤ 281474976710656 ∧ (n : Int) ≤ maxLen := ⟨by omega, by omega, by unfold maxLen; omega⟩
  have two : ∀ (X : Hp) (T : TypeId), Keep (fun _ => False) X (X.push (.cells (rep #[.int .i64 0] n) T)) := fun X T => (Keep.refl _ _).push _
  have sz : ∀ (X : Hp) (T : TypeId), (X.push (.cells (rep #[.int .i64 0] n) T)).size = X.size + 1 := fun X T => by simp
  constructor
  · refine ⟨dim, two _ _, dim, two _ _, ?_⟩
    exact fin _ _ _ _ ((two _ _).trans (two _ _)) (Nat.le_refl _) (by rw [sz]; omega) (by rw [sz]; omega) ((two _ _).bl (hrep H6 _).2 (by simp)) (hrep _ _).2 (by simp -implicitDefEqProofs only [go_sem, zS, ↓reduceIte, Nat.reduceEqDiff, Nat.reduceAdd, Nat.reduceMul, reduceCtorEq, kont_eq, zU, zV, Int.reduceBEq, Int.reduceBNe, Int.reduceLE, Int.reduceLT, Nat.reduceLeDiff, Nat.reduceLT]) (by simp -implicitDefEqProofs only [go_sem, zS, ↓reduceIte, Nat.reduceEqDiff, Nat.reduceAdd, Nat.reduceMul, reduceCtorEq, kont_eq, zU, zV, Int.reduceBEq, Int.reduceBNe, Int.reduceLE, Int.reduceLT, Nat.reduceLeDiff, Nat.reduceLT]) (by simp -implicitDefEqProofs only [go_sem, zS, ↓reduceIte, Nat.reduceEqDiff, Nat.reduceAdd, Nat.reduceMul, reduceCtorEq, kont_eq, zU, zV, Int.reduceBEq, Int.reduceBNe, Int.reduceLE, Int.reduceLT, Nat.reduceLeDiff, Nat.reduceLT]) (by simp -implicitDefEqProofs only [go_sem, zS, ↓reduceIte, Nat.reduceEqDiff, Nat.reduceAdd, Nat.reduceMul, reduceCtorEq, kont_eq, zU, zV, Int.reduceBEq, Int.reduceBNe, Int.reduceLE, Int.reduceLT, Nat.reduceLeDiff, Nat.reduceLT]) (by simp -implicitDefEqProofs only [go_sem, zS, ↓reduceIte, Nat.reduceEqDiff, Nat.reduceAdd, Nat.reduceMul, reduceCtorEq, kont_eq, zU, zV, Int.reduceBEq, Int.reduceBNe, Int.reduceLE, Int.reduceLT, Nat.reduceLeDiff, Nat.reduceLT]) (by simp -implicitDefEqProofs only [go_sem, zS, ↓reduceIte, Nat.reduceEqDiff, Nat.reduceAdd, Nat.reduceMul, reduceCtorEq, kont_eq, zU, zV, Int.reduceBEq, Int.reduceBNe, Int.reduceLE, Int.reduceLT, Nat.reduceLeDiff, Nat.reduceLT])
  · refine ⟨dim, two _ _, dim, two _ _, ?_⟩
    exact fin _ _ _ _ ((two _ _).trans (two _ _)) (by rw [sz]; omega) (Nat.le_refl _) (by rw [sz]; omega) (hrep _ _).2 ((two _ _).bl (hrep H6 _).2 (by simp)) (by simp -implicitDefEqProofs only [go_sem, zS, ↓reduceIte, Nat.reduceEqDiff, Nat.reduceAdd, Nat.reduceMul, reduceCtorEq, kont_eq, zU, zV, Int.reduceBEq, Int.reduceBNe, Int.reduceLE, Int.reduceLT, Nat.reduceLeDiff, Nat.reduceLT]) (by simp -implicitDefEqProofs only [go_sem, zS, ↓reduceIte, Nat.reduceEqDiff, Nat.reduceAdd, Nat.reduceMul, reduceCtorEq, kont_eq, zU, zV, Int.reduceBEq, Int.reduceBNe, Int.reduceLE, Int.reduceLT, Nat.reduceLeDiff, Nat.reduceLT]) (by simp -implicitDefEqProofs only [go_sem, zS, ↓reduceIte, Nat.reduceEqDiff, Nat.reduceAdd, Nat.reduceMul, reduceCtorEq, kont_eq, zU, zV, Int.reduceBEq, Int.reduceBNe, Int.reduceLE, Int.reduceLT, Nat.reduceLeDiff, Nat.reduceLT]) (by simp -implicitDefEqProofs only [go_sem, zS, ↓reduceIte, Nat.reduceEqDiff, Nat.reduceAdd, Nat.reduceMul, reduceCtorEq, kont_eq, zU, zV, Int.reduceBEq, Int.reduceBNe, Int.reduceLE, Int.reduceLT, Nat.reduceLeDiff, Nat.reduceLT]) (by simp -implicitDefEqProofs only [go_sem, zS, ↓reduceIte, Nat.reduceEqDiff, Nat.reduceAdd, Nat.reduceMul, reduceCtorEq, kont_eq, zU, zV, Int.reduceBEq, Int.reduceBNe, Int.reduceLE, Int.reduceLT, Nat.reduceLeDiff, Nat.reduceLT]) (by simp -implicitDefEqProofs only [go_sem, zS, ↓reduceIte, Nat.reduceEqDiff, Nat.reduceAdd, Nat.reduceMul, reduceCtorEq, kont_eq, zU, zV, Int.reduceBEq, Int.reduceBNe, Int.reduceLE, Int.reduceLT, Nat.reduceLeDiff, Nat.reduceLT])
end Go.Mg

/- Several texts of ours in one. No conditions. -/
import Derived.Test.YtamkbeibmhkciaaDoorMgPB
namespace Go.Mg
open Go Go.RowKit
set_option linter.unusedSimpArgs false
set_option linter.unusedVariables false
set_option maxRecDepth 100000

theorem maxL_filter {p : Nat → Bool} {f : Nat → Nat} {n m : Nat} (h : ∀ x, p x = true → x < n) (hm : n ≤ m) : maxL (((List.range m).filter p).map f) = maxL (((List.range n).filter p).map f) := by
  have e : (List.range m).filter p = (List.range n).filter p := by
    obtain ⟨d, rfl⟩ : ∃ d, m = n + d := ⟨m - n, by omega⟩
    clear hm
    induction d with
    | zero => rfl
    | succ d ih =>
      rw [show n + (d + 1) = (n + d) + 1 by omega, List.range_succ, List.filter_append, ih]
      have : p (n + d) = false := by
        cases hp : p (n + d) with
        | false => rfl
        | true => have := h _ hp; omega
      simp [this]
  rw [e]
theorem hgt_le {n : Nat} {R : Nat → Nat → Bool} (hR : Rng n R) (ha : Acy R) : ∀ (m b : Nat), upN n R b < m → hgt n R b ≤ upN n R b + 1
  | 0, b, h => by omega
  | m + 1, b, h => by
    rw [hgt_eq hR ha b]
    refine Nat.succ_le_succ (maxL_le fun v hv => ?_)
    obtain ⟨a, h1, rfl⟩ := List.mem_map.1 hv
    obtain ⟨h1, h2⟩ := List.mem_filter.1 h1
    have hlt := upN_lt hR ha (.one h2)
    have := hgt_le hR ha m a (by omega)
    omega
def hgtO : OO → Nat | none => 0 | some o => maxL ((srt o.1 o.2).map (hgt o.1 o.2))
def OHgtSpec (P : Program) (ι : Ids) (k : FuncId) : Prop := ∀ (o : OO) (v : Value) (H : Hp), TabOk ι H → OrdO H v o → CallsM P k #[v] H fun r H' => r = .int .i64 (hgtO o : Int) ∧ Keep (fun _ => False) H H'
theorem oheight_ok {P : Program} {ι : Ids} {k : FuncId} (hk : FnIsR P k (c_oheight ι) r_oheight 1 59) (ha : BAllSpec P (ι.f 137) (ι.f 136)) (hb1 : bodyOk P (ι.f 136) = true) (hY : FnIsY P (ι.f 136) (c_ball1 ι) r_ball1 2) (htz : TzSpec P ι (ι.f 126)) : OHgtSpec P ι k := by
  intro o v H hT hv
  obtain ⟨Q, hQ⟩ : ∃ Q : Value → Hp → Prop, Q = fun r H' => r = .int .i64 (hgtO o : Int) ∧ Keep (fun _ => False) H H' := ⟨_, rfl⟩
  rw [← hQ]
  refine calls_of_vcR hk (args := [_]) (by simp) ?_
  unfold c_oheight r_oheight
  cases o with
  | none =>
    have hv : v = .pointer none := hv
    subst hv
    simp only [go_sem, List.map_cons, List.map_nil, ↓reduceIte, Nat.reduceEqDiff, Nat.reduceAdd, Nat.reduceMul, reduceCtorEq, and_true, true_and, Nat.mul_one, Nat.zero_add, Bool.false_eq_true, decide_true, decide_false, not_false_eq_true, kont_eq]
    refine ⟨List.nodup_nil, fun H' h1 h2 => ?_⟩
    rw [hQ]
    exact ⟨rfl, ⟨by omega, fun q _ _ => h2 q⟩⟩
  | some o =>
    obtain ⟨n, R⟩ := o
    have hv' := hv
    obtain ⟨hn, hR, hA, b, pv, sv, ab, bb, avs, bvs, C, rfl, g1, g2, g3, g4, g5⟩ := hv'
    have hn : n ≤ 256 := hn
    have hR : Rng n R := hR
    have hA : Acy R := hA
    have hblt := g1.lt
    have c0 : cell H ⟨b, 0, none⟩ = some (.int .i64 (n : Int)) := by rw [g1.cell]; rfl
    simp only [go_sem, List.map_cons, List.map_nil, ↓reduceIte, Nat.reduceEqDiff, Nat.reduceAdd, Nat.reduceMul, reduceCtorEq, and_true, true_and, Nat.mul_one, Nat.zero_add, Bool.false_eq_true, decide_true, decide_false, not_false_eq_true, c0, tn_cast]
    refine ⟨⟨by omega, by omega, by omega, by unfold maxLen; omega⟩, ?_⟩
    refine kont_news fun H1 bl e1 z1 B1 K1 => ?_
    rw [rep_one, iL_rep, fnL_rep] at B1
    have s1 := K1.size
    simp only [go_sem, List.map_cons, List.map_nil, ↓reduceIte, Nat.reduceEqDiff, Nat.reduceAdd, Nat.reduceMul, reduceCtorEq, and_true, true_and, Nat.mul_one, Nat.zero_add, Bool.false_eq_true, decide_true, decide_false, not_false_eq_true]
    refine kont_new fun H2 b4 e2 z2 B2 K2 => ?_
    have s2 := K2.size
    have hst := B2.okSt (o := 0) (by simp)
    have B3 := B2.setc 0 (.slice (some ⟨bl, 0, none⟩) n n)
    have K3 : Keep (fun q => q = b4) H2 (setc H2 ⟨b4, 0, none⟩ (.slice (some ⟨bl, 0, none⟩) n n)) := (Keep.refl _ _).setc _ (.inl rfl)
    simp only [go_sem, List.map_cons, List.map_nil, ↓reduceIte, Nat.reduceEqDiff, Nat.reduceAdd, Nat.reduceMul, reduceCtorEq, and_true, true_and, Nat.mul_one, Nat.zero_add, Bool.false_eq_true, decide_true, decide_false, not_false_eq_true, kont_eq, hst]
    generalize setc H2 ⟨b4, 0, none⟩ (.slice (some ⟨bl, 0, none⟩) n n) = H3 at B3 K3 ⊢
    have s3 := K3.size
    have B3' : Bl H3 b4 [.slice (some ⟨bl, 0, none⟩) n n] := B3
    have C3 := K3.bl (K2.bl B1 (by simp)) (by omega)
    have K03 : Keep (fun _ => False) H H3 := (K1.trans K2).to_old K3 (by omega)
    have g13 := K03.bl g1 (by simp)
    have c43 : cell H3 ⟨b, 4, none⟩ = some sv := by rw [g13.cell]; rfl
    have hsn := (srt_all hR).2 hA
    have hpre := srt_pre hR
    have hs3 : SlR H3 sv (iN (srt n R)) := g5.keep K03 (by simp)
    have hup : ∀ c, hgt n R c ≤ 257 := fun c => by
      have h1 := hgt_le hR hA _ c (Nat.lt_succ_self _)
      have h2 := upN_le n R c
      omega
    simp only [go_sem, List.map_cons, List.map_nil, ↓reduceIte, Nat.reduceEqDiff, Nat.reduceAdd, Nat.reduceMul, reduceCtorEq, and_true, true_and, Nat.mul_one, Nat.zero_add, Bool.false_eq_true, decide_true, decide_false, not_false_eq_true, kont_eq, c43, hs3.isSl, hs3.len, iN_len]
    have hs0 : SlR H sv (iN (srt n R)) := g5
    generalize hsd : srt n R = s at hs3 hsn hpre hs0 ⊢
    have hmaxl : ∀ l : List Nat, maxL (l.map (hgt n R)) ≤ 257 := fun l => maxL_le fun a ha => by
      obtain ⟨c, _, rfl⟩ := List.mem_map.1 ha; exact hup c
    refine vc_loop [21, 6, 31, 3, 20, 59] rfl (fun m f A => ∃ (t : Nat) (ms : List Nat), t ≤ n ∧ m = n - t ∧ f 20 = .int .i64 t ∧ f 3 = .int .i64 (maxL ((s.take t).map (hgt n R)) : Int) ∧ mks (f 59) = ms ∧ ms.Nodup ∧ (∀ q ∈ ms, H3.size ≤ q ∧ A[q]? = some (.deferred (some []))) ∧
      Bl A bl (iL (fnL n fun c => if c ∈ s.take t then (hgt n R c : Int) else 0)) ∧ Keep (fun q => q = bl) H3 A) n ?_ ?_
    · refine ⟨0, [], by omega, by omega, by simp only [go_sem, List.map_cons, List.map_nil, ↓reduceIte, Nat.reduceEqDiff, Nat.reduceAdd, Nat.reduceMul, reduceCtorEq, and_true, true_and, Nat.mul_one, Nat.zero_add, Bool.false_eq_true, decide_true, decide_false, not_false_eq_true, kont_eq]; rfl, by simp only [go_sem, List.map_cons, List.map_nil, ↓reduceIte, Nat.reduceEqDiff, Nat.reduceAdd, Nat.reduceMul, reduceCtorEq, and_true, true_and, Nat.mul_one, Nat.zero_add, Bool.false_eq_true, decide_true, decide_false, not_false_eq_true, kont_eq]; rfl, by rfl, List.nodup_nil, by simp, ?_, Keep.refl _ _⟩
      have : (fnL n fun c => if c ∈ s.take 0 then (hgt n R c : Int) else 0) = fnL n fun _ => 0 := fnL_congr fun c _ => by simp
      rw [this]; exact C3
    rintro m f H4 ⟨t, ms, htn, rfl, hf, hf3, hms, hnd, hmk, C4, K4⟩
    have s4 := K4.size
    simp only [go_sem, List.map_cons, List.map_nil, ↓reduceIte, Nat.reduceEqDiff, Nat.reduceAdd, Nat.reduceMul, reduceCtorEq, and_true, true_and, Nat.mul_one, Nat.zero_add, Bool.false_eq_true, decide_true, decide_false, not_false_eq_true, kont_eq] at hf hf3 hms
    simp only [go_sem, List.map_cons, List.map_nil, ↓reduceIte, Nat.reduceEqDiff, Nat.reduceAdd, Nat.reduceMul, reduceCtorEq, and_true, true_and, Nat.mul_one, Nat.zero_add, Bool.false_eq_true, decide_true, decide_false, not_false_eq_true, hf]
    refine iteV_dec (fun hlt => ?_) (fun hge => ?_)
    · have hlt : t < s.length := by omega
      have hbl4 := C4.lt
      have K04 : Keep (fun _ => False) H H4 := K03.trans' K4 (fun j hj h => by omega)
      have hs4 := hs0.keep K04 (by simp)
      obtain ⟨sb, so, sc, rfl, -, -⟩ := hs4.cells (by intro e; have := congrArg List.length e; rw [iN_len, List.length_nil] at this; omega)
      have hcs := hs4.cell_at (i := t) (by rw [iN_len]; exact hlt)
      obtain ⟨b0, hb0⟩ : ∃ b0, b0 = s[t] := ⟨_, rfl⟩
      have hcs : cell H4 ⟨sb, so + t, none⟩ = some (.int .i64 (b0 : Int)) := by
        rw [hcs, hb0]; simp [iN, iL, hlt]
      have hb0n : b0 < n := by rw [hb0]; exact hpre.lt _ (List.getElem_mem _)
      have htk : s.take (t + 1) = s.take t ++ [b0] := by rw [List.take_succ_eq_append_getElem hlt, hb0]
      have hb0t : b0 ∉ s.take t := fun hm => by
        obtain ⟨q, hq, e⟩ := List.getElem_of_mem hm
        rw [List.length_take] at hq
        rw [List.getElem_take] at e
        have := List.pairwise_iff_getElem.1 hpre.nd q t (by omega) hlt (by omega)
        exact this (by rw [e, hb0])
      simp only [go_sem, List.map_cons, List.map_nil, ↓reduceIte, Nat.reduceEqDiff, Nat.reduceAdd, Nat.reduceMul, reduceCtorEq, and_true, true_and, Nat.mul_one, Nat.zero_add, Bool.false_eq_true, decide_true, decide_false, not_false_eq_true, fillV_nil, fillV_cons, okFill_nil, okFill_cons, cells_slice, cells_int, cells_bool, cells_str, cells_ptr, cells_agg, stNH_ptr, okN_ptr, wrA1, wrA20, wrA21, tn_cast, Nat.mul_one, hcs, iN_len]
      refine ⟨by omega, ?_⟩
      refine kont_new fun H5 b6 e6 z6 B6 K5 => ?_
      have s5 := K5.size
      have hst6 := B6.okSt (o := 0) (by simp)
      have B7 := B6.setc 0 (.int .i64 (b0 : Int))
      have K6 : Keep (fun q => q = b6) H5 (setc H5 ⟨b6, 0, none⟩ (.int .i64 (b0 : Int))) := (Keep.refl _ _).setc _ (.inl rfl)
      simp only [go_sem, List.map_cons, List.map_nil, ↓reduceIte, Nat.reduceEqDiff, Nat.reduceAdd, Nat.reduceMul, reduceCtorEq, and_true, true_and, Nat.mul_one, Nat.zero_add, Bool.false_eq_true, decide_true, decide_false, not_false_eq_true, fillV_nil, fillV_cons, okFill_nil, okFill_cons, cells_slice, cells_int, cells_bool, cells_str, cells_ptr, cells_agg, stNH_ptr, okN_ptr, wrA1, wrA20, wrA21, hst6]
      rw [kont_eq]
      generalize setc H5 ⟨b6, 0, none⟩ (.int .i64 (b0 : Int)) = H6 at B7 K6 ⊢
      have s6 := K6.size
      have K46 : Keep (fun _ => False) H4 H6 := K5.to_old K6 (by omega)
      have K06 := K04.trans K46
      have g16 := K06.bl g1 (by simp)
      have G3 := g3.keep K06 (by simp) (by simp)
      have c6 : cell H6 ⟨b6, 0, none⟩ = some (.int .i64 (b0 : Int)) := by rw [B7.cell]; rfl
      have c26 : cell H6 ⟨b, 2, none⟩ = some (.slice (some ⟨ab, 0, none⟩) n n) := by rw [g16.cell]; rfl
      obtain ⟨v0, W0, hv0, hV0⟩ := G3.at_ b0 hb0n
      simp only [Value.agg.injEq, Array.mk.injEq, List.cons.injEq, and_true] at hv0
      have hm6 : ∀ q ∈ ms, q < H4.size ∧ H6[q]? = some (.deferred (some [])) := fun q hq => by
        have h := (hmk q hq).2
        have hlt := (Array.getElem?_eq_some_iff.1 h).1
        exact ⟨hlt, by rw [K46.at_ q hlt (by simp)]; exact h⟩
      have B46 := K46.bl (K4.bl B3' (by omega)) (by simp)
      have C6 := K46.bl C4 (by simp)
      simp only [go_sem, List.map_cons, List.map_nil, ↓reduceIte, Nat.reduceEqDiff, Nat.reduceAdd, Nat.reduceMul, reduceCtorEq, and_true, true_and, Nat.mul_one, Nat.zero_add, Bool.false_eq_true, decide_true, decide_false, not_false_eq_true, kont_eq, c6, c26, tn_cast, Nat.mul_one, Nat.zero_add, ldNO_ptr, G3.ld hb0n]
      refine ⟨by omega, (ha _ H6).mono ?_⟩
      rintro r H7 ⟨rfl, B8, K7, z8⟩
      have s7 := K7.size
      simp only [go_sem, List.map_cons, List.map_nil, ↓reduceIte, Nat.reduceEqDiff, Nat.reduceAdd, Nat.reduceMul, reduceCtorEq, and_true, true_and, Nat.mul_one, Nat.zero_add, Bool.false_eq_true, decide_true, decide_false, not_false_eq_true, kont_eq]
      have hV7 : SetV H7 v0 W0 (fun x => tcB R x b0) := hV0.keep K7 (by simp)
      have B87 : Bl H7 H6.size [v0] := by rw [← hv0]; exact B8
      have K07 := K06.trans K7
      have B47 := K7.bl B46 (by simp)
      have C7 := K7.bl C6 (by simp)
      have B67 := K7.bl B7 (by simp)
      have hb67 := B67.lt
      have hmemb : ∀ a ∈ mems (fun x => tcB R x b0), a < n ∧ a ∈ s.take t := fun a h => by
        have t' := tcB_iff.1 (mem_mems.1 h).2
        exact ⟨(hR.tc t').1, hpre.ahead hR t' t hlt hb0.symm⟩
      refine vc_rf (fun p => p = bl) (fun k A => Bl A bl (iL (fnL n fun c => if c = b0 then (maxL (((mems fun x => tcB R x b0).take k).map (hgt n R)) : Int) else if c ∈ s.take t then (hgt n R c : Int) else 0))) (fun _ _ => False) (G := fun H => TabOk ι H ∧ Bl H H6.size [v0] ∧ SetV H v0 W0 fun x => tcB R x b0) (by simp only [go_sem, List.map_cons, List.map_nil, ↓reduceIte, Nat.reduceEqDiff, Nat.reduceAdd, Nat.reduceMul, reduceCtorEq, and_true, true_and, Nat.mul_one, Nat.zero_add, Bool.false_eq_true, decide_true, decide_false, not_false_eq_true, kont_eq]; rfl) hb1 (ball1_ok hY htz) (by omega) ?_ ?_ ?_ ?_ ?_ ?_ ?_
      · rintro k A KA _
        have K : Keep (fun _ => False) H A := K07.trans' KA (fun j hj h => by omega)
        refine ⟨hT.keep K, KA.bl B87 (by omega), hV7.keep KA fun p hp e => ?_⟩
        have := (g3.at_ b0 hb0n).old (k := p) (by rw [hv0]; exact hp)
        omega
      · intro A KA hs
        have e : (fnL n fun c => if c = b0 then (maxL (((mems fun x => tcB R x b0).take 0).map (hgt n R)) : Int) else if c ∈ s.take t then (hgt n R c : Int) else 0) = fnL n fun c => if c ∈ s.take t then (hgt n R c : Int) else 0 := fnL_congr fun c _ => by
          by_cases e : c = b0
          · subst e; simp [hb0t, maxL]
          · simp [e]
        rw [e]
        exact KA.bl C7 (by simp)
      · rintro k A A2 hs KA hI K
        exact K.bl hI (by omega)
      · rintro e A A2 hs KA h; exact h.elim
      · rintro k A hk KA hs hI
        have hkl : k < (mems fun x => tcB R x b0).length := by simpa [memL] using hk
        obtain ⟨a, haa⟩ : ∃ a, a = (mems fun x => tcB R x b0)[k] := ⟨_, rfl⟩
        have hxv : (memL fun x => tcB R x b0).getD k undef = .int .i64 (a : Int) := by
          rw [List.getD_eq_getElem?_getD, List.getElem?_eq_getElem hk]
          simp [memL, haa]
        rw [hxv]
        obtain ⟨han, hat⟩ := hmemb a (by rw [haa]; exact List.getElem_mem _)
        have hab0 : a ≠ b0 := fun e => hb0t (e ▸ hat)
        have B4A := KA.bl B47 (by omega)
        have B6A := KA.bl B67 (by omega)
        have c4A : cell A ⟨b4, 0, none⟩ = some (.slice (some ⟨bl, 0, none⟩) n n) := by rw [B4A.cell]; rfl
        have c6A : cell A ⟨b6, 0, none⟩ = some (.int .i64 (b0 : Int)) := by rw [B6A.cell]; rfl
        have f1 := fnL_cell hI hb0n
        have f2 := fnL_cell hI han
        simp only [if_pos] at f1
        rw [if_neg hab0, if_pos hat] at f2
        have hkd : ∀ x : Int, kindOf (Value.int .i64 x) = .i64 := fun _ => rfl
        have okb := hI.okSt (o := b0) (by rw [fnL_len8]; exact hb0n)
        have hmk' := maxL_snoc (((mems fun x => tcB R x b0).take k).map (hgt n R)) (hgt n R a)
        have htk' : ((mems fun x => tcB R x b0).take (k + 1)).map (hgt n R) = ((mems fun x => tcB R x b0).take k).map (hgt n R) ++ [hgt n R a] := by
          rw [List.take_succ_eq_append_getElem hkl, List.map_append, ← haa]; rfl
        have hI2 := hI.setc b0 (.int .i64 (maxL (((mems fun x => tcB R x b0).take (k + 1)).map (hgt n R)) : Int))
        rw [iL_set, fnL_set hb0n] at hI2
        have emx : (if (hgt n R a : Int) > (maxL (((mems fun x => tcB R x b0).take k).map (hgt n R)) : Int) then (hgt n R a : Int) else (maxL (((mems fun x => tcB R x b0).take k).map (hgt n R)) : Int)) = (maxL (((mems fun x => tcB R x b0).take (k + 1)).map (hgt n R)) : Int) := by
          rw [htk', hmk']; split <;> omega
        have KW : ∀ v, Keep (fun p => p = bl) A (setc A ⟨bl, b0, none⟩ v) := fun v => (Keep.refl _ _).setc _ (.inl rfl)
        refine vc_drk (fun p => p = bl) ?_
        have nb : ¬ b4 = bl ∧ ¬ b6 = bl := ⟨by omega, by omega⟩
        simp only [go_sem, List.map_cons, List.map_nil, ↓reduceIte, Nat.reduceEqDiff, Nat.reduceAdd, Nat.reduceMul, reduceCtorEq, and_true, true_and, Nat.mul_one, Nat.zero_add, Bool.false_eq_true, decide_true, decide_false, not_false_eq_true, kont_eq, c4A, c6A, tn_cast, Nat.mul_one, Nat.zero_add, nb.1, nb.2, f1, f2, hkd, emx, okb]
        have fin : Bl (setc A ⟨bl, b0, none⟩ (.int .i64 (maxL (((mems fun x => tcB R x b0).take (k + 1)).map (hgt n R)) : Int))) bl (iL (fnL n fun c => if c = b0 then (maxL (((mems fun x => tcB R x b0).take (k + 1)).map (hgt n R)) : Int) else if c ∈ s.take t then (hgt n R c : Int) else 0)) := by
          rw [fnL_congr (g := fun i => if i = b0 then (maxL (((mems fun x => tcB R x b0).take (k + 1)).map (hgt n R)) : Int) else if i = b0 then (maxL (((mems fun x => tcB R x b0).take k).map (hgt n R)) : Int) else if i ∈ s.take t then (hgt n R i : Int) else 0) fun c _ => by
            by_cases e : c = b0
            · simp [e]
            · simp [e]]
          exact hI2
        exact ⟨by omega, by omega, ⟨Keep.refl _ _, Keep.refl _ _, by omega, KW _, (KW _).mono (fun p _ h => .inl h), fin⟩, Keep.refl _ _, Keep.refl _ _, by omega, KW _, (KW _).mono (fun p _ h => .inl h), fin⟩
      · rintro A KA hs0 hd hI
        have B4A := KA.bl B47 (by omega)
        have B6A := KA.bl B67 (by omega)
        have c4A : cell A ⟨b4, 0, none⟩ = some (.slice (some ⟨bl, 0, none⟩) n n) := by rw [B4A.cell]; rfl
        have c6A : cell A ⟨b6, 0, none⟩ = some (.int .i64 (b0 : Int)) := by rw [B6A.cell]; rfl
        have e0 : (mems fun y => tcB R y b0).take (memL fun y => tcB R y b0).length = mems fun y => tcB R y b0 := List.take_of_length_le (by simp [memL])
        have em : maxL ((mems fun y => tcB R y b0).map (hgt n R)) + 1 = hgt n R b0 := by
          rw [hgt_tc hR hA b0]
          congr 1
          exact maxL_filter (p := fun y => tcB R y b0) (fun y h => (hR.tc (tcB_iff.1 h)).1) (by omega)
        rw [e0] at hI
        have f1 := fnL_cell hI hb0n
        simp only [if_pos] at f1
        have hkd : ∀ x : Int, kindOf (Value.int .i64 x) = .i64 := fun _ => rfl
        have okb := hI.okSt (o := b0) (by rw [fnL_len8]; exact hb0n)
        have hle := hup b0
        have hI2 := hI.setc b0 (.int .i64 (hgt n R b0 : Int))
        rw [iL_set, fnL_set hb0n] at hI2
        have e1 : (maxL ((mems fun y => tcB R y b0).map (hgt n R)) : Int) + 1 = (hgt n R b0 : Int) := by omega
        have hmax := hmaxl (s.take t)
        have nb : ¬ b4 = bl ∧ ¬ b6 = bl := ⟨by omega, by omega⟩
        have f2 := fnL_cell hI2 hb0n
        simp only [if_pos] at f2
        simp (disch := omega) only [go_sem, List.map_cons, List.map_nil, ↓reduceIte, Nat.reduceEqDiff, Nat.reduceAdd, Nat.reduceMul, reduceCtorEq, and_true, true_and, Nat.mul_one, Nat.zero_add, Bool.false_eq_true, decide_true, decide_false, not_false_eq_true, kont_eq, hf, hf3, hms, c4A, c6A, tn_cast, Nat.mul_one, Nat.zero_add, nb.1, nb.2, f1, e1, okb, hkd, f2, IntWalk.i64_in]
        have KA2 : Keep (fun p => p = bl) A (setc A ⟨bl, b0, none⟩ (.int .i64 (hgt n R b0 : Int))) := (Keep.refl _ _).setc _ (.inl rfl)
        have hs4' : A.size = (setc A ⟨bl, b0, none⟩ (.int .i64 (hgt n R b0 : Int))).size := (size_setc A _ _).symm
        generalize setc A ⟨bl, b0, none⟩ (.int .i64 (hgt n R b0 : Int)) = A2 at hI2 f2 KA2 hs4' ⊢
        have c4B : cell A2 ⟨b4, 0, none⟩ = some (.slice (some ⟨bl, 0, none⟩) n n) := by rw [(KA2.bl B4A (by omega)).cell]; rfl
        have c6B : cell A2 ⟨b6, 0, none⟩ = some (.int .i64 (b0 : Int)) := by rw [(KA2.bl B6A (by omega)).cell]; rfl
        simp (disch := omega) only [go_sem, List.map_cons, List.map_nil, ↓reduceIte, Nat.reduceEqDiff, Nat.reduceAdd, Nat.reduceMul, reduceCtorEq, and_true, true_and, Nat.mul_one, Nat.zero_add, Bool.false_eq_true, decide_true, decide_false, not_false_eq_true, kont_eq, hf, hf3, hms, c4B, c6B, tn_cast, Nat.mul_one, Nat.zero_add, f2, hkd, IntWalk.i64_in]
        have emx : (if (hgt n R b0 : Int) > (maxL ((s.take t).map (hgt n R)) : Int) then (hgt n R b0 : Int) else (maxL ((s.take t).map (hgt n R)) : Int)) = (maxL ((s.take (t + 1)).map (hgt n R)) : Int) := by
          rw [htk, List.map_append, List.map_cons, List.map_nil, maxL_snoc]; split <;> omega
        rw [emx]
        refine ⟨by omega, by omega, by omega, n - (t + 1), by omega, t + 1, H7.size :: ms, by omega, rfl, by rfl, rfl, rfl, ?_, ?_, ?_, ?_⟩
        · exact List.nodup_cons.2 ⟨fun h => by have := (hm6 _ h).1; omega, hnd⟩
        · intro p hp
          rcases List.mem_cons.1 hp with e | hp
          · subst e
            exact ⟨by omega, by rw [KA2.at_ _ (by omega) (by omega)]; exact hd⟩
          · refine ⟨(hmk p hp).1, ?_⟩
            have h5 := hm6 p hp
            have := (hmk p hp).1
            rw [KA2.at_ p (by omega) (by omega), KA.at_ p (by omega) (by omega), K7.at_ p (by omega) (by simp)]
            exact h5.2
        · rw [fnL_congr (g := fun i => if i = b0 then (hgt n R b0 : Int) else if i = b0 then (maxL ((mems fun x => tcB R x b0).map (hgt n R)) : Int) else if i ∈ s.take t then (hgt n R i : Int) else 0) fun c _ => by
            rw [htk]
            by_cases e : c = b0
            · simp [e]
            · simp [e]]
          exact hI2
        · refine (K4.trans (((K46.trans K7).any (W := fun q => q = bl)).trans' KA fun j hj h => ?_)).trans' KA2 fun j hj h => ?_
          · exact h
          · exact h
      · rintro e A _ _ _ h; exact h.elim
    · have htn : t = n := by omega
      subst htn
      have K04 : Keep (fun _ => False) H H4 := K03.trans' K4 (fun j hj h => by omega)
      have e0 : s.take t = s := List.take_of_length_le (by omega)
      rw [e0] at hf3
      simp only [go_sem, List.map_cons, List.map_nil, ↓reduceIte, Nat.reduceEqDiff, Nat.reduceAdd, Nat.reduceMul, reduceCtorEq, and_true, true_and, Nat.mul_one, Nat.zero_add, Bool.false_eq_true, decide_true, decide_false, not_false_eq_true, kont_eq, hf3, hms]
      refine ⟨hnd, fun q hq => (hmk q hq).2, fun A2 ha2 hb2 => ?_⟩
      have M : Keep (fun p => p ∈ ms) H4 A2 := ⟨by omega, fun p _ h => hb2 p h⟩
      rw [hQ]
      refine ⟨?_, K04.trans' M (fun j hj h => by have := (hmk j h).1; omega)⟩
      simp only [hgtO, hsd]
end Go.Mg

namespace Go.Mg
open Go Go.RowKit
set_option linter.unusedSimpArgs false
set_option linter.unusedVariables false
/-- one more than the distance to b, when it is at most D -/
noncomputable def farV (R : Nat → Nat → Bool) (b D x : Nat) : Nat := by
  classical exact if h : ∃ d ≤ D, isD R b d x then h.choose + 1 else 0
theorem farV_iff {R : Nat → Nat → Bool} {b D x d : Nat} : farV R b D x = d + 1 ↔ d ≤ D ∧ isD R b d x := by
  unfold farV
  split
  · rename_i h
    have h1 := h.choose_spec
    constructor
    · intro e; rw [Nat.succ.inj e] at h1; exact h1
    · rintro ⟨_, h2⟩; rw [isD_uniq h2 h1.2]
  · rename_i h
    constructor
    · intro e; omega
    · rintro ⟨h1, h2⟩; exact absurd ⟨d, h1, h2⟩ h
theorem farV_zero {R : Nat → Nat → Bool} {b D x : Nat} : farV R b D x = 0 ↔ ∀ d ≤ D, ¬ isD R b d x := by
  constructor
  · intro h d hd hh
    rw [farV_iff.2 ⟨hd, hh⟩] at h; omega
  · intro h
    unfold farV; rw [dif_neg]; rintro ⟨d, h1, h2⟩; exact h d h1 h2
theorem farV_le {R : Nat → Nat → Bool} {b D x : Nat} : farV R b D x ≤ D + 1 := by
  cases e : farV R b D x with
  | zero => omega
  | succ d => have := (farV_iff.1 e).1; omega
theorem farV_start (R : Nat → Nat → Bool) (b x : Nat) : farV R b 0 x = if x = b then 1 else 0 := by
  split
  · rename_i e
    subst e
    exact farV_iff.2 ⟨Nat.le_refl _, rfl, fun e h => by omega⟩
  · rename_i e
    refine farV_zero.2 fun d hd h => e ?_
    have : d = 0 := by omega
    subst this
    exact h.1
/-- in the middle of a round: the first q pairs have been looked at -/
def midF (F : Nat → Nat) (D : Nat) (l : List NP) (x : Nat) : Nat := if F x ≠ 0 then F x else if l.any (fun p => decide (p.1 = x) && decide (F p.2 = D + 1)) then D + 2 else 0
theorem midF_nil (F : Nat → Nat) (D x : Nat) : midF F D [] x = F x := by
  unfold midF; split
  · rfl
  · simp; omega
theorem midF_eq {F : Nat → Nat} {D : Nat} (hF : ∀ x, F x ≤ D + 1) (l : List NP) (x : Nat) : midF F D l x = D + 1 ↔ F x = D + 1 := by
  unfold midF
  split
  · rfl
  · rename_i h
    have : F x = 0 := by omega
    split <;> omega
theorem midF_snoc {F : Nat → Nat} {D : Nat} (l : List NP) (p : NP) (x : Nat) : midF F D (l ++ [p]) x = if x = p.1 ∧ F p.2 = D + 1 ∧ midF F D l p.1 = 0 then D + 2 else midF F D l x := by
  by_cases hx : x = p.1
  · subst hx
    unfold midF
    by_cases h0 : F p.1 ≠ 0
    · simp [h0]
    · by_cases h1 : (l.any fun q => decide (q.1 = p.1) && decide (F q.2 = D + 1)) = true
      · simp [h0, h1, List.any_append]
      · by_cases h2 : F p.2 = D + 1
        · simp [h0, h1, h2, List.any_append]
        · simp [h0, h1, h2, List.any_append]
  · rw [if_neg fun h => hx h.1]
    unfold midF
    have : (decide (p.1 = x) && decide (F p.2 = D + 1)) = false := by
      have : ¬ p.1 = x := fun e => hx e.symm
      simp [this]
    have e : ((l ++ [p]).any fun q => decide (q.1 = x) && decide (F q.2 = D + 1)) = l.any fun q => decide (q.1 = x) && decide (F q.2 = D + 1) := by
      rw [List.any_append]; simp only [List.any_cons, List.any_nil, this, Bool.or_false]
    rw [e]
theorem midF_all {n : Nat} {R : Nat → Nat → Bool} (hR : Rng n R) (b D x : Nat) : midF (farV R b D) D (gridP n R) x = farV R b (D + 1) x := by
  unfold midF
  split
  · rename_i h
    obtain ⟨d, hd⟩ := Nat.exists_eq_succ_of_ne_zero h
    rw [hd]
    obtain ⟨h1, h2⟩ := farV_iff.1 hd
    exact (farV_iff.2 ⟨by omega, h2⟩).symm
  · rename_i h
    have h0 := farV_zero.1 (by omega : farV R b D x = 0)
    split
    · rename_i hh
      rw [List.any_eq_true] at hh
      obtain ⟨p, hp, hh⟩ := hh
      simp only [Bool.and_eq_true, decide_eq_true_eq] at hh
      obtain ⟨rfl, hh⟩ := hh
      exact (farV_iff.2 ⟨Nat.le_refl _, isD_succ (mem_gridP.1 hp).2.2 (farV_iff.1 hh).2 h0⟩).symm
    · rename_i hh
      refine (farV_zero.2 fun d hd hD => ?_).symm
      rcases Nat.lt_or_ge d (D + 1) with hl | hl
      · exact h0 d (by omega) hD
      · have : d = D + 1 := by omega
        subst this
        obtain ⟨y, h1, h2⟩ := isD_step hD
        refine hh ?_
        rw [List.any_eq_true]
        refine ⟨(x, y), mem_gridP.2 ⟨(hR _ _ h1).1, (hR _ _ h1).2, h1⟩, ?_⟩
        simp only [Bool.and_eq_true, decide_eq_true_eq, true_and]
        exact farV_iff.2 ⟨Nat.le_refl _, h2⟩
/-- the path that Path finds -/
noncomputable def pthO : OO → Int → Int → Option (List Nat)
  | none, _, _ => none
  | some o, a, b => by classical exact if h : inO (some o) a = true ∧ inO (some o) b = true ∧ ∃ d, isD o.2 b.toNat d a.toNat then some (gpath o.1 o.2 b.toNat h.2.2.choose a.toNat) else none
theorem pthO_some {n : Nat} {R : Nat → Nat → Bool} {a b : Int} {d : Nat} (ha : inO (some (n, R)) a = true) (hb : inO (some (n, R)) b = true) (h : isD R b.toNat d a.toNat) : pthO (some (n, R)) a b = some (gpath n R b.toNat d a.toNat) := by
  have hh : inO (some (n, R)) a = true ∧ inO (some (n, R)) b = true ∧ ∃ d, isD R b.toNat d a.toNat := ⟨ha, hb, d, h⟩
  classical
  show (if h : inO (some (n, R)) a = true ∧ inO (some (n, R)) b = true ∧ ∃ d, isD R b.toNat d a.toNat then some (gpath n R b.toNat h.2.2.choose a.toNat) else none) = _
  rw [dif_pos hh, isD_uniq hh.2.2.choose_spec h]
theorem pthO_none {o : OO} {a b : Int} (h : ∀ n R, o = some (n, R) → ¬ (inO (some (n, R)) a = true ∧ inO (some (n, R)) b = true ∧ ∃ d, isD R b.toNat d a.toNat)) : pthO o a b = none := by
  cases o with
  | none => rfl
  | some o => exact dif_neg (h o.1 o.2 rfl)
/-- the first pair that goes on is the one of the least next element -/
theorem step_first {n : Nat} {R : Nat → Nat → Bool} (hR : Rng n R) {b d x q : Nat} (h : isD R b (d + 1) x) (hq : q < (gridP n R).length) (h1 : (at0 (gridP n R) q).1 = x) (h2 : isD R b d (at0 (gridP n R) q).2)
    (hn : ∀ i < q, ¬ ((at0 (gridP n R) i).1 = x ∧ isD R b d (at0 (gridP n R) i).2)) : (at0 (gridP n R) q).2 = stepY n R b d x := by
  obtain ⟨s1, s2, s3⟩ := stepY_spec hR h
  have hm : at0 (gridP n R) q ∈ gridP n R := by rw [at0_eq hq]; exact List.getElem_mem _
  have hr := (mem_gridP.1 hm).2.2
  rw [h1] at hr
  have hge : stepY n R b d x ≤ (at0 (gridP n R) q).2 := by
    refine Nat.le_of_not_lt fun hl => s3 _ hl ⟨hr, h2⟩
  rcases Nat.lt_or_ge (stepY n R b d x) (at0 (gridP n R) q).2 with hl | hl
  · exfalso
    have hm2 : (x, stepY n R b d x) ∈ gridP n R := mem_gridP.2 ⟨(hR _ _ s1).1, (hR _ _ s1).2, s1⟩
    obtain ⟨i, hi, e⟩ := List.getElem_of_mem hm2
    have ei : at0 (gridP n R) i = (x, stepY n R b d x) := by rw [at0_eq hi, e]
    rcases Nat.lt_trichotomy i q with h' | h' | h'
    · exact hn i h' ⟨by rw [ei], by rw [ei]; exact s2⟩
    · subst h'; rw [ei] at hl; simp at hl
    · have := List.pairwise_iff_getElem.1 (gridP_sorted n R) q i hq hi h'
      rw [← at0_eq hq, ← at0_eq hi, ei] at this
      unfold plt at this
      simp only at this
      omega
  · omega
theorem step_some {n : Nat} {R : Nat → Nat → Bool} (hR : Rng n R) {b d x : Nat} (h : isD R b (d + 1) x) : ∃ i < (gridP n R).length, (at0 (gridP n R) i).1 = x ∧ isD R b d (at0 (gridP n R) i).2 := by
  obtain ⟨s1, s2, _⟩ := stepY_spec hR h
  have hm2 : (x, stepY n R b d x) ∈ gridP n R := mem_gridP.2 ⟨(hR _ _ s1).1, (hR _ _ s1).2, s1⟩
  obtain ⟨i, hi, e⟩ := List.getElem_of_mem hm2
  have ei : at0 (gridP n R) i = (x, stepY n R b d x) := by rw [at0_eq hi, e]
  exact ⟨i, hi, by rw [ei], by rw [ei]; exact s2⟩
end Go.Mg

namespace Go.Mg
open Go Go.RowKit
set_option linter.unusedSimpArgs false
set_option linter.unusedVariables false
set_option maxRecDepth 100000
/- (ptr order.Order).Path -/
def c_opath (ι : Ids) : S :=
  .seq (.reg [.p (.v 6) (.mv (.c (.slice .none 0 0))), .p (.v 7) (.mv (.c (.bool false)))]) (.seq (.seq (.reg [.p (.t 16) (.mv (.v 0)), .p (.t 17) (.mv (.v 1)), .e (.t 18) (.call (ι.f 202) [.t 16, .t
  17]), .p (.t 19) (.not (.t 18)), .p (.t 20) (.mv (.t 19)), .gp (.t 21) (.t 20) false (.mv (.v 0)), .gp (.t 22) (.t 20) false (.mv (.v 2)), .ge (.t 23) (.t 20) false (.call (ι.f 202) [.t 21, .t 22]),
  .gp (.t 24) (.t 20) false (.not (.t 23)), .p (.v 25) (.pick (.t 20) (.c (.bool true)) (.t 24))]) (.ite (.v 25) (.seq (.reg [.p (.v 6) (.mv (.c (.slice .none 0 0))), .p (.v 7) (.mv (.c (.bool
  false)))]) .ret) .skip)) (.seq (.reg [.p (.t 26) (.mv (.v 0)), .p (.t 27) (.nil (.t 26)), .p (.t 28) (.fa 0 (.t 27)), .p (.t 29) (.ld (.t 28)), .e (.t 30) (.mkS (ι.t 26) 1 8 #[.int .i64 0] (.t 29) (.t
  29)), .p (.v 8) (.mv (.t 30))]) (.seq (.reg [.p (.t 31) (.mv (.v 8)), .p (.t 32) (.mv (.v 2)), .p (.t 33) (.is 1 (.t 31) (.t 32)), .e .no (.st (.t 33) (.c (.int .i64 1)))]) (.seq (.seq (.reg [.p (.v
  9) (.mv (.c (.int .i64 1)))]) (.blk 0 (.loop (.seq (.seq (.reg [.p (.t 34) (.mv (.v 9)), .p (.t 35) (.mv (.v 0)), .p (.t 36) (.nil (.t 35)), .p (.t 37) (.fa 0 (.t 36)), .p (.t 38) (.ld (.t 37)), .p
  (.t 39) (.cm .leq .i64 (.t 34) (.t 38)), .p (.t 40) (.mv (.t 39)), .gp (.t 41) (.t 40) true (.mv (.v 8)), .gp (.t 42) (.t 40) true (.mv (.v 1)), .gp (.t 43) (.t 40) true (.is 1 (.t 41) (.t 42)), .gp
  (.t 44) (.t 40) true (.ld (.t 43)), .gp (.t 45) (.t 40) true (.cm .eql .i64 (.t 44) (.c (.int .i64 0))), .p (.v 46) (.pick (.t 40) (.t 45) (.c (.bool false)))]) (.ite (.v 46) .skip (.exit 0))) (.seq
  (.blk 1 (.seq (.reg [.p (.t 49) (.mv (.v 0)), .p (.t 50) (.nil (.t 49)), .p (.t 51) (.fa 1 (.t 50)), .p (.v 52) (.ld (.t 51)), .p (.v 53) (.m (.lenl (.v 52))), .p (.v 54) (.mv (.c (.int .i64 0)))])
  (.blk 2 (.loop (.seq (.reg [.p (.v 55) (.cm .lss .i64 (.v 54) (.v 53))]) (.seq (.ite (.v 55) .skip (.exit 2)) (.seq (.blk 3 (.seq (.reg [.p (.t 56) (.is 2 (.v 52) (.v 54)), .p (.t 57) (.m (.ldn 2 (.t
  56))), .e (.v 11) (.new (ι.t 194) #[.int .i64 0, .int .i64 0]), .e .no (.stn 2 (.v 11) (.t 57))]) (.seq (.reg [.p (.t 58) (.mv (.v 8)), .p (.t 59) (.ia 2 1 (.v 11) (.c (.int .i64 1))), .p (.t 60) (.ld
  (.t 59)), .p (.t 61) (.is 1 (.t 58) (.t 60)), .p (.t 62) (.ld (.t 61)), .p (.t 63) (.mv (.v 9)), .p (.t 64) (.cm .eql .i64 (.t 62) (.t 63)), .p (.t 65) (.mv (.t 64)), .gp (.t 66) (.t 65) true (.mv (.v
  8)), .gp (.t 67) (.t 65) true (.ia 2 1 (.v 11) (.c (.int .i64 0))), .gp (.t 68) (.t 65) true (.ld (.t 67)), .gp (.t 69) (.t 65) true (.is 1 (.t 66) (.t 68)), .gp (.t 70) (.t 65) true (.ld (.t 69)),
  .gp (.t 71) (.t 65) true (.cm .eql .i64 (.t 70) (.c (.int .i64 0))), .p (.v 72) (.pick (.t 65) (.t 71) (.c (.bool false)))]) (.ite (.v 72) (.reg [.p (.t 73) (.mv (.v 8)), .p (.t 74) (.ia 2 1 (.v 11)
  (.c (.int .i64 0))), .p (.t 75) (.ld (.t 74)), .p (.t 76) (.mv (.v 9)), .p (.t 77) (.ar .add .i64 (.t 76) (.c (.int .i64 1))), .p (.t 78) (.is 1 (.t 73) (.t 75)), .e .no (.st (.t 78) (.t 77))])
  .skip)))) (.reg [.p (.t 79) (.ar .add .i64 (.v 54) (.c (.int .i64 1))), .p (.v 54) (.mv (.t 79))])))))))) (.reg [.p (.t 47) (.mv (.v 9)), .p (.t 48) (.ar .add .i64 (.t 47) (.c (.int .i64 1))), .p (.v
  9) (.mv (.t 48))])))))) (.seq (.seq (.reg [.p (.t 80) (.mv (.v 8)), .p (.t 81) (.mv (.v 1)), .p (.t 82) (.is 1 (.t 80) (.t 81)), .p (.t 83) (.ld (.t 82)), .p (.v 84) (.cm .eql .i64 (.t 83) (.c (.int
  .i64 0)))]) (.ite (.v 84) (.seq (.reg [.p (.v 6) (.mv (.c (.slice .none 0 0))), .p (.v 7) (.mv (.c (.bool false)))]) .ret) .skip)) (.seq (.reg [.p (.t 85) (.mv (.v 1)), .e (.t 86) (.bldF (ι.t 26) 1 1
  [.t 85]), .p (.v 12) (.mv (.t 86))]) (.seq (.seq (.reg [.p (.t 87) (.mv (.v 1)), .p (.v 13) (.mv (.t 87))]) (.blk 4 (.loop (.seq (.seq (.reg [.p (.t 88) (.mv (.v 13)), .p (.t 89) (.mv (.v 2)), .p (.v
  90) (.cm .neq .i64 (.t 88) (.t 89))]) (.ite (.v 90) .skip (.exit 4))) (.blk 5 (.seq (.reg [.p (.t 91) (.mv (.v 0)), .p (.t 92) (.nil (.t 91)), .p (.t 93) (.fa 1 (.t 92)), .p (.v 94) (.ld (.t 93)), .p
  (.v 95) (.m (.lenl (.v 94))), .p (.v 96) (.mv (.c (.int .i64 0)))]) (.blk 6 (.loop (.seq (.reg [.p (.v 97) (.cm .lss .i64 (.v 96) (.v 95))]) (.seq (.ite (.v 97) .skip (.exit 6)) (.seq (.blk 7 (.seq
  (.reg [.p (.t 98) (.is 2 (.v 94) (.v 96)), .p (.t 99) (.m (.ldn 2 (.t 98))), .e (.v 15) (.new (ι.t 194) #[.int .i64 0, .int .i64 0]), .e .no (.stn 2 (.v 15) (.t 99))]) (.seq (.reg [.p (.t 100) (.ia 2
  1 (.v 15) (.c (.int .i64 0))), .p (.t 101) (.ld (.t 100)), .p (.t 102) (.mv (.v 13)), .p (.t 103) (.cm .eql .i64 (.t 101) (.t 102)), .p (.t 104) (.mv (.t 103)), .gp (.t 105) (.t 104) true (.mv (.v
  8)), .gp (.t 106) (.t 104) true (.ia 2 1 (.v 15) (.c (.int .i64 1))), .gp (.t 107) (.t 104) true (.ld (.t 106)), .gp (.t 108) (.t 104) true (.is 1 (.t 105) (.t 107)), .gp (.t 109) (.t 104) true (.ld
  (.t 108)), .gp (.t 110) (.t 104) true (.cm .gtr .i64 (.t 109) (.c (.int .i64 0))), .p (.t 111) (.pick (.t 104) (.t 110) (.c (.bool false))), .p (.t 112) (.mv (.t 111)), .gp (.t 113) (.t 112) true (.mv
  (.v 8)), .gp (.t 114) (.t 112) true (.ia 2 1 (.v 15) (.c (.int .i64 1))), .gp (.t 115) (.t 112) true (.ld (.t 114)), .gp (.t 116) (.t 112) true (.is 1 (.t 113) (.t 115)), .gp (.t 117) (.t 112) true
  (.ld (.t 116)), .gp (.t 118) (.t 112) true (.mv (.v 8)), .gp (.t 119) (.t 112) true (.mv (.v 13)), .gp (.t 120) (.t 112) true (.is 1 (.t 118) (.t 119)), .gp (.t 121) (.t 112) true (.ld (.t 120)), .gp
  (.t 122) (.t 112) true (.ar .sub .i64 (.t 121) (.c (.int .i64 1))), .gp (.t 123) (.t 112) true (.cm .eql .i64 (.t 117) (.t 122)), .p (.v 124) (.pick (.t 112) (.t 123) (.c (.bool false)))]) (.ite (.v
  124) (.seq (.reg [.p (.t 125) (.ia 2 1 (.v 15) (.c (.int .i64 1))), .p (.t 126) (.ld (.t 125)), .p (.v 13) (.mv (.t 126))]) (.seq (.reg [.p (.t 127) (.mv (.v 12)), .p (.t 128) (.mv (.v 13)), .e (.t
  129) (.bldF (ι.t 26) 1 1 [.t 128]), .e (.t 130) (.app false (ι.t 26) 1 8 #[.int .i64 0] (.t 127) (.t 129)), .p (.v 12) (.mv (.t 130))]) (.exit 6))) .skip)))) (.reg [.p (.t 131) (.ar .add .i64 (.v 96)
  (.c (.int .i64 1))), .p (.v 96) (.mv (.t 131))])))))))))))) (.seq (.reg [.p (.t 132) (.mv (.v 12)), .p (.v 6) (.mv (.t 132)), .p (.v 7) (.mv (.c (.bool true)))]) .ret))))))))
def r_opath : List RV := [.t 6, .t 7]

def OPathSpec (P : Program) (k : FuncId) : Prop := ∀ (o : OO) (v : Value) (a b : Int) (H : Hp), OrdO H v o → CallsM P k #[v, .int .i64 a, .int .i64 b] H fun r H' => ∃ w, r = .tuple #[w, .bool (pthO o a b).isSome] ∧ OwS H' w (iN ((pthO o a b).getD [])) ∧ Keep (fun _ => False) H H'
theorem opath_ok {P : Program} {ι : Ids} {k : FuncId} (hk : FnIs P k (c_opath ι) r_opath 3) (hi : OInSpec P (ι.f 202)) : OPathSpec P k := by
  intro o v a b H hv
  obtain ⟨Q, hQ⟩ : ∃ Q : Value → Hp → Prop, Q = fun r H' => ∃ w, r = .tuple #[w, .bool (pthO o a b).isSome] ∧ OwS H' w (iN ((pthO o a b).getD [])) ∧ Keep (fun _ => False) H H' := ⟨_, rfl⟩
  rw [← hQ]
  refine calls_of_vc hk (args := [_, _, _]) (by simp) ?_
  unfold c_opath r_opath
  have hno : ∀ H1, pthO o a b = none → Keep (fun _ => False) H H1 → Q (.tuple #[.slice none 0 0, .bool false]) H1 := fun H1 e K => by
    rw [hQ, e]; exact ⟨_, rfl, OwS.nil _, K⟩
  simp only [go_sem, List.map_cons, List.map_nil, ↓reduceIte, Nat.reduceEqDiff, Nat.reduceAdd, Nat.reduceMul, reduceCtorEq, and_true, true_and, Nat.mul_one, Nat.zero_add, Bool.false_eq_true, decide_true, decide_false, not_false_eq_true, kont_eq]
  refine (hi o _ a H hv).mono ?_
  rintro r H1 ⟨rfl, rfl⟩
  cases hia : inO o a with
  | false =>
    rw [kont_eq]
    simp only [go_sem, List.map_cons, List.map_nil, ↓reduceIte, Nat.reduceEqDiff, Nat.reduceAdd, Nat.reduceMul, reduceCtorEq, and_true, true_and, Nat.mul_one, Nat.zero_add, Bool.false_eq_true, decide_true, decide_false, not_false_eq_true, kont_eq, Bool.not_false]
    refine hno _ (pthO_none fun n R e h => ?_) (Keep.refl _ _)
    rw [e, h.1] at hia; cases hia
  | true =>
  rw [kont_eq]
  simp only [go_sem, List.map_cons, List.map_nil, ↓reduceIte, Nat.reduceEqDiff, Nat.reduceAdd, Nat.reduceMul, reduceCtorEq, and_true, true_and, Nat.mul_one, Nat.zero_add, Bool.false_eq_true, decide_true, decide_false, not_false_eq_true, kont_eq, Bool.not_true]
  refine (hi o _ b H1 hv).mono ?_
  rintro r H2 ⟨rfl, rfl⟩
  cases hib : inO o b with
  | false =>
    rw [kont_eq]
    simp only [go_sem, List.map_cons, List.map_nil, ↓reduceIte, Nat.reduceEqDiff, Nat.reduceAdd, Nat.reduceMul, reduceCtorEq, and_true, true_and, Nat.mul_one, Nat.zero_add, Bool.false_eq_true, decide_true, decide_false, not_false_eq_true, kont_eq, Bool.not_false]
    refine hno _ (pthO_none fun n R e h => ?_) (Keep.refl _ _)
    rw [e, h.2.1] at hib; cases hib
  | true =>
  cases o with
  | none => cases hia
  | some o =>
  obtain ⟨n, R⟩ := o
  have ha := hia
  have hb := hib
  simp only [inO, Bool.and_eq_true, decide_eq_true_eq] at ha hb
  obtain ⟨a, rfl⟩ := Int.eq_ofNat_of_zero_le ha.1
  obtain ⟨b, rfl⟩ := Int.eq_ofNat_of_zero_le hb.1
  have han : a < n := by omega
  have hbn : b < n := by omega
  have hv' := hv
  obtain ⟨hn, hR, hA, bo, pv, sv, ab, bb, avs, bvs, C, rfl, g1, g2, g3, g4, g5⟩ := hv'
  have hn : n ≤ 256 := hn
  have hR : Rng n R := hR
  have hA : Acy R := hA
  have hbl := g1.lt
  have hsome : ∀ d, isD R b d a → pthO (some (n, R)) (a : Int) (b : Int) = some (gpath n R b d a) := fun d h => by
    have := pthO_some (d := d) hia hib (by rw [Int.toNat_natCast, Int.toNat_natCast]; exact h)
    rwa [Int.toNat_natCast, Int.toNat_natCast] at this
  have hnone : (∀ d, ¬ isD R b d a) → pthO (some (n, R)) (a : Int) (b : Int) = none := fun h => pthO_none fun n' R' e hh => by
    cases e
    obtain ⟨d, hd⟩ := hh.2.2
    rw [Int.toNat_natCast, Int.toNat_natCast] at hd
    exact h d hd
  have c0 : cell H2 ⟨bo, 0, none⟩ = some (.int .i64 (n : Int)) := by rw [g1.cell]; rfl
  rw [kont_eq]
  simp only [go_sem, List.map_cons, List.map_nil, ↓reduceIte, Nat.reduceEqDiff, Nat.reduceAdd, Nat.reduceMul, reduceCtorEq, and_true, true_and, Nat.mul_one, Nat.zero_add, Bool.false_eq_true, decide_true, decide_false, not_false_eq_true, Bool.not_true, c0, tn_cast]
  refine ⟨⟨by omega, by omega, by omega, by unfold maxLen; omega⟩, ?_⟩
  refine kont_news fun H3 bl e3 z3 B3 K3 => ?_
  rw [rep_one, iL_rep, fnL_rep] at B3
  have s3 := K3.size
  have hst := B3.okSt (o := b) (by rw [fnL_len8]; exact hbn)
  have B4 := B3.setc b (.int .i64 1)
  rw [iL_set, fnL_set hbn] at B4
  have K4 : Keep (fun q => q = bl) H3 (setc H3 ⟨bl, b, none⟩ (.int .i64 1)) := (Keep.refl _ _).setc _ (.inl rfl)
  simp only [go_sem, List.map_cons, List.map_nil, ↓reduceIte, Nat.reduceEqDiff, Nat.reduceAdd, Nat.reduceMul, reduceCtorEq, and_true, true_and, Nat.mul_one, Nat.zero_add, Bool.false_eq_true, decide_true, decide_false, not_false_eq_true, kont_eq, tn_cast, Nat.mul_one, Nat.zero_add, hst]
  generalize setc H3 ⟨bl, b, none⟩ (.int .i64 1) = H4 at B4 K4 ⊢
  have s4 := K4.size
  have K04 : Keep (fun _ => False) H2 H4 := K3.to_old K4 (by omega)
  have g14 := K04.bl g1 (by simp)
  have p4 := g2.keep K04 (by simp)
  have e4 : (fnL n fun i => if i = b then (1 : Int) else 0) = fnL n fun x => (farV R b 0 x : Int) := fnL_congr fun x _ => by
    rw [farV_start]; split <;> rfl
  rw [e4] at B4
  have hgl : (gridP n R).length ≤ 65536 := Nat.le_trans (gridP_len n R) (Nat.mul_le_mul hn hn)
  refine ⟨by omega, ?_⟩
  have hpairs : ∀ i, i < (gridP n R).length → (at0 (gridP n R) i).1 < n ∧ (at0 (gridP n R) i).2 < n ∧ R (at0 (gridP n R) i).1 (at0 (gridP n R) i).2 = true := fun i hi => by
    have : at0 (gridP n R) i ∈ gridP n R := by rw [at0_eq hi]; exact List.getElem_mem _
    exact mem_gridP.1 this
  refine vc_mono (Q := fun e f' A => e = .x 0 ∧ f' 0 = .pointer (some ⟨bo, 0, none⟩) ∧ f' 1 = .int .i64 (a : Int) ∧ f' 2 = .int .i64 (b : Int) ∧ f' 8 = .slice (some ⟨bl, 0, none⟩) n n ∧ ∃ D, (farV R b D a = 0 → n ≤ D) ∧ Bl A bl (iL (fnL n fun x => (farV R b D x : Int))) ∧ Keep (fun q => q = bl) H4 A) ?_ ?_
  rotate_left
  refine vc_loop [46, 52, 53, 54, 55, 11, 72, 9] rfl (fun m f A => ∃ D, D ≤ n ∧ m = n - D ∧ f 9 = .int .i64 ((D : Int) + 1) ∧ Bl A bl (iL (fnL n fun x => (farV R b D x : Int))) ∧ Keep (fun q => q = bl) H4 A) n ?_ ?_
  · exact ⟨0, by omega, by omega, by simp only [go_sem, List.map_cons, List.map_nil, ↓reduceIte, Nat.reduceEqDiff, Nat.reduceAdd, Nat.reduceMul, reduceCtorEq, and_true, true_and, Nat.mul_one, Nat.zero_add, Bool.false_eq_true, decide_true, decide_false, not_false_eq_true, kont_eq]; rfl, B4, Keep.refl _ _⟩
  rintro m f H5 ⟨D, hD, rfl, hf, C5, K5⟩
  have s5 := K5.size
  simp only [go_sem, List.map_cons, List.map_nil, ↓reduceIte, Nat.reduceEqDiff, Nat.reduceAdd, Nat.reduceMul, reduceCtorEq, and_true, true_and, Nat.mul_one, Nat.zero_add, Bool.false_eq_true, decide_true, decide_false, not_false_eq_true, kont_eq] at hf
  have K05 : Keep (fun _ => False) H2 H5 := K04.trans' K5 (fun j hj h => by omega)
  have g15 := K05.bl g1 (by simp)
  have c05 : cell H5 ⟨bo, 0, none⟩ = some (.int .i64 (n : Int)) := by rw [g15.cell]; rfl
  have c15 : cell H5 ⟨bo, 1, none⟩ = some pv := by rw [g15.cell]; rfl
  have p5 := g2.keep K05 (by simp)
  have fa := fnL_cell C5 han
  by_cases hrun : D + 1 ≤ n ∧ farV R b D a = 0
  · have e1 : decide ((D : Int) + 1 ≤ (n : Int)) = true := decide_eq_true (by omega)
    have e2 : ((farV R b D a : Int) == 0) = true := by rw [hrun.2]; rfl
    simp only [go_sem, List.map_cons, List.map_nil, ↓reduceIte, Nat.reduceEqDiff, Nat.reduceAdd, Nat.reduceMul, reduceCtorEq, and_true, true_and, Nat.mul_one, Nat.zero_add, Bool.false_eq_true, decide_true, decide_false, not_false_eq_true, kont_eq, fillV_nil, fillV_cons, okFill_nil, okFill_cons, cells_slice, cells_int, cells_bool, cells_str, cells_ptr, cells_agg, stNH_ptr, okN_ptr, wrA1, wrA20, wrA21, hf, c05, e1, tn_cast, Nat.mul_one, Nat.zero_add, fa, e2, c15, p5.isSl, p5.lenS, p5.len]
    refine ⟨by omega, ?_⟩
    obtain ⟨F, hF⟩ : ∃ F, F = farV R b D := ⟨_, rfl⟩
    have hFle : ∀ x, F x ≤ D + 1 := fun x => by rw [hF]; exact farV_le
    refine vc_loop [55, 11, 72, 54] rfl (fun m f A => ∃ q, q ≤ (gridP n R).length ∧ m = (gridP n R).length - q ∧ f 54 = .int .i64 (q : Int) ∧ Bl A bl (iL (fnL n fun x => (midF F D ((gridP n R).take q) x : Int))) ∧ Keep (fun q => q = bl) H5 A) (gridP n R).length ?_ ?_
    · refine ⟨0, by omega, by omega, by simp only [go_sem, List.map_cons, List.map_nil, ↓reduceIte, Nat.reduceEqDiff, Nat.reduceAdd, Nat.reduceMul, reduceCtorEq, and_true, true_and, Nat.mul_one, Nat.zero_add, Bool.false_eq_true, decide_true, decide_false, not_false_eq_true, kont_eq]; rfl, ?_, Keep.refl _ _⟩
      rw [List.take_zero, fnL_congr (g := fun x => (farV R b D x : Int)) fun x _ => by rw [midF_nil, hF]]
      exact C5
    rintro m f2 H6 ⟨q, hq, rfl, hf2, C6, K6⟩
    have s6 := K6.size
    simp only [go_sem, List.map_cons, List.map_nil, ↓reduceIte, Nat.reduceEqDiff, Nat.reduceAdd, Nat.reduceMul, reduceCtorEq, and_true, true_and, Nat.mul_one, Nat.zero_add, Bool.false_eq_true, decide_true, decide_false, not_false_eq_true, kont_eq] at hf2
    simp only [go_sem, List.map_cons, List.map_nil, ↓reduceIte, Nat.reduceEqDiff, Nat.reduceAdd, Nat.reduceMul, reduceCtorEq, and_true, true_and, Nat.mul_one, Nat.zero_add, Bool.false_eq_true, decide_true, decide_false, not_false_eq_true, hf2]
    refine iteV_dec (fun hlt => ?_) (fun hge => ?_)
    · have hlt : q < (gridP n R).length := by omega
      have p6 := p5.keep K6 (fun j hj e => by have := g2.old hj; omega)
      obtain ⟨pb, po, pc, rfl, hpq, hld⟩ := p6.elem nE_len hlt
      obtain ⟨q1, q2, q3⟩ := hpairs q hlt
      rw [← at0_eq hlt] at hld
      have hld' : ldNA H6 ⟨pb, po + q * 2, none⟩ 2 = some #[.int .i64 ((at0 (gridP n R) q).1 : Int), .int .i64 ((at0 (gridP n R) q).2 : Int)] := hld
      have htk : (gridP n R).take (q + 1) = (gridP n R).take q ++ [at0 (gridP n R) q] := by rw [List.take_succ_eq_append_getElem hlt, at0_eq hlt]
      obtain ⟨x, hx⟩ : ∃ x, x = (at0 (gridP n R) q).1 := ⟨_, rfl⟩
      obtain ⟨y, hy⟩ : ∃ y, y = (at0 (gridP n R) q).2 := ⟨_, rfl⟩
      have ep : at0 (gridP n R) q = (x, y) := by rw [hx, hy]
      rw [← hx] at q1 hld' 
      rw [← hy] at q2 hld'
      rw [ep] at htk
      simp only [go_sem, List.map_cons, List.map_nil, ↓reduceIte, Nat.reduceEqDiff, Nat.reduceAdd, Nat.reduceMul, reduceCtorEq, and_true, true_and, Nat.mul_one, Nat.zero_add, Bool.false_eq_true, decide_true, decide_false, not_false_eq_true, fillV_nil, fillV_cons, okFill_nil, okFill_cons, cells_slice, cells_int, cells_bool, cells_str, cells_ptr, cells_agg, stNH_ptr, okN_ptr, wrA1, wrA20, wrA21, tn_cast, ldNO_ptr, hld']
      refine ⟨by omega, ?_⟩
      refine kont_new fun H7 b7 e7 z7 B7 K7 => ?_
      have s7 := K7.size
      have hst := B7.okNA (o := 0) (n := 2) (by simp)
      have B8 := B7.stNA 0 [.int .i64 (x : Int), .int .i64 (y : Int)]
      have K8 : Keep (fun q => q = b7) H7 (stNA H7 ⟨b7, 0, none⟩ [.int .i64 (x : Int), .int .i64 (y : Int)]) := (Keep.refl _ _).stNA _ (.inl rfl)
      simp only [go_sem, List.map_cons, List.map_nil, ↓reduceIte, Nat.reduceEqDiff, Nat.reduceAdd, Nat.reduceMul, reduceCtorEq, and_true, true_and, Nat.mul_one, Nat.zero_add, Bool.false_eq_true, decide_true, decide_false, not_false_eq_true, fillV_nil, fillV_cons, okFill_nil, okFill_cons, cells_slice, cells_int, cells_bool, cells_str, cells_ptr, cells_agg, stNH_ptr, okN_ptr, wrA1, wrA20, wrA21, hst]
      rw [kont_eq]
      generalize stNA H7 ⟨b7, 0, none⟩ [.int .i64 (x : Int), .int .i64 (y : Int)] = H8 at B8 K8 ⊢
      have s8 := K8.size
      have K68 : Keep (fun _ => False) H6 H8 := K7.to_old K8 (by omega)
      have C8 := K68.bl C6 (by simp)
      have cx : cell H8 ⟨b7, 0, none⟩ = some (.int .i64 (x : Int)) := by rw [B8.cell]; rfl
      have cy : cell H8 ⟨b7, 1, none⟩ = some (.int .i64 (y : Int)) := by rw [B8.cell]; rfl
      have fx := fnL_cell C8 q1
      have fy := fnL_cell C8 q2
      have hmy := midF_eq hFle ((gridP n R).take q) y
      have hsn := midF_snoc (F := F) (D := D) ((gridP n R).take q) (x, y)
      have ha1 : all1 #[Value.int .i64 (x : Int), Value.int .i64 (y : Int)] := fun w hw => by simp at hw; rcases hw with rfl | rfl <;> rfl
      have hns : ∀ w ∈ [Value.int .i64 (x : Int), Value.int .i64 (y : Int)], w.oneCell' = true := fun w hw => by simp at hw; rcases hw with rfl | rfl <;> rfl
      have fin : ∀ (H9 : Hp) (g : Value), g = .int .i64 ((q : Int) + 1) → Bl H9 bl (iL (fnL n fun z => (midF F D ((gridP n R).take (q + 1)) z : Int))) → Keep (fun q => q = bl) H8 H9 → ∃ m < (gridP n R).length - q, ∃ q', q' ≤ (gridP n R).length ∧ m = (gridP n R).length - q' ∧ g = .int .i64 (q' : Int) ∧ Bl H9 bl (iL (fnL n fun x => (midF F D ((gridP n R).take q') x : Int))) ∧ Keep (fun q => q = bl) H5 H9 := fun H9 g h1 h2 h3 =>
        ⟨(gridP n R).length - (q + 1), by omega, q + 1, by omega, rfl, h1, h2, (K6.trans K68.any).trans h3⟩
      by_cases h1 : midF F D ((gridP n R).take q) y = D + 1
      · have e1 : ((midF F D ((gridP n R).take q) y : Int) == (D : Int) + 1) = true := by rw [h1]; simp
        by_cases h2 : midF F D ((gridP n R).take q) x = 0
        · have e2 : ((midF F D ((gridP n R).take q) x : Int) == 0) = true := by rw [h2]; simp
          simp (disch := omega) only [go_sem, List.map_cons, List.map_nil, ↓reduceIte, Nat.reduceEqDiff, Nat.reduceAdd, Nat.reduceMul, reduceCtorEq, and_true, true_and, Nat.mul_one, Nat.zero_add, Bool.false_eq_true, decide_true, decide_false, not_false_eq_true, kont_eq, fillV_nil, fillV_cons, okFill_nil, okFill_cons, cells_slice, cells_int, cells_bool, cells_str, cells_ptr, cells_agg, stNH_ptr, okN_ptr, wrA1, wrA20, wrA21, hns, hf, hf2, cx, cy, fx, fy, e1, e2, tn_cast, Nat.mul_one, Nat.zero_add, IntWalk.i64_in]
          have B9 := C8.setc x (.int .i64 ((D : Int) + 1 + 1))
          rw [iL_set, fnL_set q1] at B9
          refine ⟨ha1, ⟨by omega, by omega⟩, by omega, ⟨by omega, by omega⟩, by omega, ⟨by omega, by omega⟩, by omega, (C8.okSt (by rw [fnL_len8]; exact q1)).2, fin _ _ rfl ?_ ((Keep.refl _ _).setc _ (.inl rfl))⟩
          rw [fnL_congr (g := fun i => if i = x then (D : Int) + 1 + 1 else (midF F D ((gridP n R).take q) i : Int)) fun i _ => by
            rw [htk, hsn]
            by_cases ei : i = x
            · rw [if_pos ⟨ei, (hmy).1 h1, h2⟩, if_pos ei]; rfl
            · rw [if_neg fun h => ei h.1, if_neg ei]]
          exact B9
        · have e2 : ((midF F D ((gridP n R).take q) x : Int) == 0) = false := by simp; omega
          simp (disch := omega) only [go_sem, List.map_cons, List.map_nil, ↓reduceIte, Nat.reduceEqDiff, Nat.reduceAdd, Nat.reduceMul, reduceCtorEq, and_true, true_and, Nat.mul_one, Nat.zero_add, Bool.false_eq_true, decide_true, decide_false, not_false_eq_true, kont_eq, fillV_nil, fillV_cons, okFill_nil, okFill_cons, cells_slice, cells_int, cells_bool, cells_str, cells_ptr, cells_agg, stNH_ptr, okN_ptr, wrA1, wrA20, wrA21, hns, hf, hf2, cx, cy, fx, fy, e1, e2, tn_cast, Nat.mul_one, Nat.zero_add, IntWalk.i64_in]
          refine ⟨ha1, ⟨by omega, by omega⟩, by omega, ⟨by omega, by omega⟩, by omega, fin _ _ rfl ?_ (Keep.refl _ _)⟩
          rw [fnL_congr (g := fun i => (midF F D ((gridP n R).take q) i : Int)) fun i _ => by
            rw [htk, hsn, if_neg fun h => h2 h.2.2]]
          exact C8
      · have e1 : ((midF F D ((gridP n R).take q) y : Int) == (D : Int) + 1) = false := by simp; omega
        simp (disch := omega) only [go_sem, List.map_cons, List.map_nil, ↓reduceIte, Nat.reduceEqDiff, Nat.reduceAdd, Nat.reduceMul, reduceCtorEq, and_true, true_and, Nat.mul_one, Nat.zero_add, Bool.false_eq_true, decide_true, decide_false, not_false_eq_true, kont_eq, fillV_nil, fillV_cons, okFill_nil, okFill_cons, cells_slice, cells_int, cells_bool, cells_str, cells_ptr, cells_agg, stNH_ptr, okN_ptr, wrA1, wrA20, wrA21, hns, hf, hf2, cx, cy, fx, fy, e1, tn_cast, Nat.mul_one, Nat.zero_add, IntWalk.i64_in]
        refine ⟨ha1, ⟨by omega, by omega⟩, by omega, fin _ _ rfl ?_ (Keep.refl _ _)⟩
        rw [fnL_congr (g := fun i => (midF F D ((gridP n R).take q) i : Int)) fun i _ => by
          rw [htk, hsn, if_neg fun h => h1 (hmy.2 h.2.1)]]
        exact C8
    · have hqe : q = (gridP n R).length := by omega
      simp (disch := omega) only [go_sem, List.map_cons, List.map_nil, ↓reduceIte, Nat.reduceEqDiff, Nat.reduceAdd, Nat.reduceMul, reduceCtorEq, and_true, true_and, Nat.mul_one, Nat.zero_add, Bool.false_eq_true, decide_true, decide_false, not_false_eq_true, kont_eq, hf, IntWalk.i64_in]
      refine ⟨n - (D + 1), by omega, D + 1, by omega, rfl, by rfl, ?_, K5.trans K6⟩
      rw [hqe, List.take_length, fnL_congr (g := fun x => (farV R b (D + 1) x : Int)) fun x _ => by rw [hF, midF_all hR]] at C6
      exact C6
  · by_cases hle : D + 1 ≤ n
    · have hfa : ¬ farV R b D a = 0 := fun e => hrun ⟨hle, e⟩
      have e1 : decide ((D : Int) + 1 ≤ (n : Int)) = true := decide_eq_true (by omega)
      have e2 : ((farV R b D a : Int) == 0) = false := by simp; omega
      simp only [go_sem, List.map_cons, List.map_nil, ↓reduceIte, Nat.reduceEqDiff, Nat.reduceAdd, Nat.reduceMul, reduceCtorEq, and_true, true_and, Nat.mul_one, Nat.zero_add, Bool.false_eq_true, decide_true, decide_false, not_false_eq_true, kont_eq, fillV_nil, fillV_cons, okFill_nil, okFill_cons, cells_slice, cells_int, cells_bool, cells_str, cells_ptr, cells_agg, stNH_ptr, okN_ptr, wrA1, wrA20, wrA21, hf, c05, e1, tn_cast, Nat.mul_one, Nat.zero_add, fa, e2]
      exact ⟨by omega, D, fun h => absurd h hfa, C5, K5⟩
    · have e1 : decide ((D : Int) + 1 ≤ (n : Int)) = false := decide_eq_false (by omega)
      simp only [go_sem, List.map_cons, List.map_nil, ↓reduceIte, Nat.reduceEqDiff, Nat.reduceAdd, Nat.reduceMul, reduceCtorEq, and_true, true_and, Nat.mul_one, Nat.zero_add, Bool.false_eq_true, decide_true, decide_false, not_false_eq_true, kont_eq, fillV_nil, fillV_cons, okFill_nil, okFill_cons, cells_slice, cells_int, cells_bool, cells_str, cells_ptr, cells_agg, stNH_ptr, okN_ptr, wrA1, wrA20, wrA21, hf, c05, e1, tn_cast, Nat.mul_one, Nat.zero_add, fa]
      exact ⟨D, fun h => by omega, C5, K5⟩
  rintro e f H5 ⟨rfl, hf0, hf1, hf2, hf8, D, hD, C5, K5⟩
  have s5 := K5.size
  have K05 : Keep (fun _ => False) H2 H5 := K04.trans' K5 (fun j hj h => by omega)
  have g15 := K05.bl g1 (by simp)
  have p5 := g2.keep K05 (by simp)
  have fa := fnL_cell C5 han
  cases hfa : farV R b D a with
  | zero =>
    have e2 : ((farV R b D a : Int) == 0) = true := by rw [hfa]; rfl
    simp only [go_sem, List.map_cons, List.map_nil, ↓reduceIte, Nat.reduceEqDiff, Nat.reduceAdd, Nat.reduceMul, reduceCtorEq, and_true, true_and, Nat.mul_one, Nat.zero_add, Bool.false_eq_true, decide_true, decide_false, not_false_eq_true, kont_eq, fillV_nil, fillV_cons, okFill_nil, okFill_cons, cells_slice, cells_int, cells_bool, cells_str, cells_ptr, cells_agg, stNH_ptr, okN_ptr, wrA1, wrA20, wrA21, hf0, hf1, hf2, hf8, tn_cast, Nat.mul_one, Nat.zero_add, fa, e2]
    refine ⟨by omega, hno _ (hnone fun d hd => ?_) K05⟩
    exact farV_zero.1 hfa d (by have := wlk_lt hR hA hbn han hd.1; have := hD hfa; omega) hd
  | succ d =>
    obtain ⟨hdD, hd⟩ := farV_iff.1 hfa
    have e2 : ((farV R b D a : Int) == 0) = false := by rw [hfa]; simp; omega
    have hQ' : ∀ w A, OwS A w (iN (gpath n R b d a)) → Keep (fun _ => False) H2 A → Q (.tuple #[w, .bool true]) A := fun w A h K => by
      rw [hQ, hsome d hd]; exact ⟨w, rfl, h, K⟩
    have hdl := wlk_lt hR hA hbn han hd.1
    simp only [go_sem, List.map_cons, List.map_nil, ↓reduceIte, Nat.reduceEqDiff, Nat.reduceAdd, Nat.reduceMul, reduceCtorEq, and_true, true_and, Nat.mul_one, Nat.zero_add, Bool.false_eq_true, decide_true, decide_false, not_false_eq_true, fillV_nil, fillV_cons, okFill_nil, okFill_cons, cells_slice, cells_int, cells_bool, cells_str, cells_ptr, cells_agg, stNH_ptr, okN_ptr, wrA1, wrA20, wrA21, hf0, hf1, hf2, hf8, tn_cast, Nat.mul_one, Nat.zero_add, fa, e2]
    refine ⟨by omega, ?_⟩
    rw [kont_eq]
    simp only [go_sem, List.map_cons, List.map_nil, ↓reduceIte, Nat.reduceEqDiff, Nat.reduceAdd, Nat.reduceMul, reduceCtorEq, and_true, true_and, Nat.mul_one, Nat.zero_add, Bool.false_eq_true, decide_true, decide_false, not_false_eq_true, kont_eq]
    have B6 := Bl.new' H5 #[Value.int .i64 (a : Int)] (ι.t 26)
    have K6 : Keep (fun _ => False) H5 (H5.push (Obj.cells #[Value.int .i64 (a : Int)] (ι.t 26))) := (Keep.refl _ _).push _
    generalize H5.push (Obj.cells #[Value.int .i64 (a : Int)] (ι.t 26)) = H6 at B6 K6 ⊢
    have s6 := K6.size
    have O6 : OwS H6 (.slice (some ⟨H5.size, 0, none⟩) 1 1) (iN ([] ++ [a])) := OwS.new B6 rfl rfl
    refine vc_loop [90, 94, 95, 96, 97, 15, 124, 13, 12] rfl (fun m f A => ∃ (x : Nat) (L0 : List Nat) (w : Value), f 13 = .int .i64 (x : Int) ∧ f 12 = w ∧ isD R b m x ∧ m ≤ d ∧ L0.length + m = d ∧ L0 ++ gpath n R b m x = gpath n R b d a ∧ OwS A w (iN (L0 ++ [x])) ∧ (∀ q, ownB w q → H5.size ≤ q) ∧ Keep (fun _ => False) H5 A) d ?_ ?_
    · refine ⟨a, [], _, by simp only [go_sem, List.map_cons, List.map_nil, ↓reduceIte, Nat.reduceEqDiff, Nat.reduceAdd, Nat.reduceMul, reduceCtorEq, and_true, true_and, Nat.mul_one, Nat.zero_add, Bool.false_eq_true, decide_true, decide_false, not_false_eq_true, kont_eq, hf1], by simp only [go_sem, List.map_cons, List.map_nil, ↓reduceIte, Nat.reduceEqDiff, Nat.reduceAdd, Nat.reduceMul, reduceCtorEq, and_true, true_and, Nat.mul_one, Nat.zero_add, Bool.false_eq_true, decide_true, decide_false, not_false_eq_true, kont_eq], hd, Nat.le_refl _, by simp, rfl, O6, fun q hq => ?_, K6⟩
      have hq : q = H5.size := hq
      omega
    rintro m f2 H7 ⟨x, L0, w, hf13, hf12, hx, hmd, hl0, hg, O7, w7, K7⟩
    have s7 := K7.size
    simp only [go_sem, List.map_cons, List.map_nil, ↓reduceIte, Nat.reduceEqDiff, Nat.reduceAdd, Nat.reduceMul, reduceCtorEq, and_true, true_and, Nat.mul_one, Nat.zero_add, Bool.false_eq_true, decide_true, decide_false, not_false_eq_true, kont_eq] at hf13 hf12
    cases m with
    | zero =>
      have hxb : x = b := hx.1
      subst hxb
      have e1 : ((x : Int) != (x : Int)) = false := by simp
      simp only [go_sem, List.map_cons, List.map_nil, ↓reduceIte, Nat.reduceEqDiff, Nat.reduceAdd, Nat.reduceMul, reduceCtorEq, and_true, true_and, Nat.mul_one, Nat.zero_add, Bool.false_eq_true, decide_true, decide_false, not_false_eq_true, kont_eq, hf13, hf12, hf2, e1]
      refine hQ' _ _ ?_ (K05.trans K7)
      have : L0 ++ [x] = gpath n R x d a := hg
      rwa [this] at O7
    | succ m =>
      have hxb : x ≠ b := fun e => by subst e; exact hx.2 0 (by omega) rfl
      have e1 : ((x : Int) != (b : Int)) = true := by simp; omega
      have K27 := K05.trans K7
      have g17 := K27.bl g1 (by simp)
      have C7 := K7.bl C5 (by simp)
      have c17 : cell H7 ⟨bo, 1, none⟩ = some pv := by rw [g17.cell]; rfl
      have p7 := g2.keep K27 (by simp)
      obtain ⟨hs1, hs2, hs3⟩ := stepY_spec hR hx
      have hxn : x < n := (hR _ _ hs1).1
      simp only [go_sem, List.map_cons, List.map_nil, ↓reduceIte, Nat.reduceEqDiff, Nat.reduceAdd, Nat.reduceMul, reduceCtorEq, and_true, true_and, Nat.mul_one, Nat.zero_add, Bool.false_eq_true, decide_true, decide_false, not_false_eq_true, kont_eq, hf13, hf12, hf2, e1, hf0, c17, p7.isSl, p7.lenS, p7.len]
      refine vc_loop [97, 15, 124, 13, 12, 96] rfl (fun k g A => ∃ q : Nat, q ≤ (gridP n R).length ∧ k = (gridP n R).length - q ∧ g 96 = .int .i64 (q : Int) ∧ g 13 = .int .i64 (x : Int) ∧ g 12 = w ∧ (∀ i < q, ¬ ((at0 (gridP n R) i).1 = x ∧ isD R b m (at0 (gridP n R) i).2)) ∧ Keep (fun _ => False) H7 A) (gridP n R).length ?_ ?_
      · exact ⟨0, by omega, by omega, by simp only [go_sem, List.map_cons, List.map_nil, ↓reduceIte, Nat.reduceEqDiff, Nat.reduceAdd, Nat.reduceMul, reduceCtorEq, and_true, true_and, Nat.mul_one, Nat.zero_add, Bool.false_eq_true, decide_true, decide_false, not_false_eq_true, kont_eq]; rfl, by simp only [go_sem, List.map_cons, List.map_nil, ↓reduceIte, Nat.reduceEqDiff, Nat.reduceAdd, Nat.reduceMul, reduceCtorEq, and_true, true_and, Nat.mul_one, Nat.zero_add, Bool.false_eq_true, decide_true, decide_false, not_false_eq_true, kont_eq, hf13], by simp only [go_sem, List.map_cons, List.map_nil, ↓reduceIte, Nat.reduceEqDiff, Nat.reduceAdd, Nat.reduceMul, reduceCtorEq, and_true, true_and, Nat.mul_one, Nat.zero_add, Bool.false_eq_true, decide_true, decide_false, not_false_eq_true, kont_eq, hf12], fun i hi => by omega, Keep.refl _ _⟩
      rintro k f3 H8 ⟨q, hq, rfl, h96, h13, h12, hnot, K8⟩
      have s8 := K8.size
      simp only [go_sem, List.map_cons, List.map_nil, ↓reduceIte, Nat.reduceEqDiff, Nat.reduceAdd, Nat.reduceMul, reduceCtorEq, and_true, true_and, Nat.mul_one, Nat.zero_add, Bool.false_eq_true, decide_true, decide_false, not_false_eq_true, kont_eq] at h96 h13 h12
      simp only [go_sem, List.map_cons, List.map_nil, ↓reduceIte, Nat.reduceEqDiff, Nat.reduceAdd, Nat.reduceMul, reduceCtorEq, and_true, true_and, Nat.mul_one, Nat.zero_add, Bool.false_eq_true, decide_true, decide_false, not_false_eq_true, h96]
      refine iteV_dec (fun hlt => ?_) (fun hge => ?_)
      · have hlt : q < (gridP n R).length := by omega
        have p8 := p7.keep K8 (by simp)
        obtain ⟨pb, po, pc, rfl, hpq, hld⟩ := p8.elem nE_len hlt
        obtain ⟨q1, q2, q3⟩ := hpairs q hlt
        rw [← at0_eq hlt] at hld
        have hld' : ldNA H8 ⟨pb, po + q * 2, none⟩ 2 = some #[.int .i64 ((at0 (gridP n R) q).1 : Int), .int .i64 ((at0 (gridP n R) q).2 : Int)] := hld
        obtain ⟨u, hu⟩ : ∃ u, u = (at0 (gridP n R) q).1 := ⟨_, rfl⟩
        obtain ⟨y, hy⟩ : ∃ y, y = (at0 (gridP n R) q).2 := ⟨_, rfl⟩
        rw [← hu] at q1 hld'
        rw [← hy] at q2 hld'
        simp only [go_sem, List.map_cons, List.map_nil, ↓reduceIte, Nat.reduceEqDiff, Nat.reduceAdd, Nat.reduceMul, reduceCtorEq, and_true, true_and, Nat.mul_one, Nat.zero_add, Bool.false_eq_true, decide_true, decide_false, not_false_eq_true, fillV_nil, fillV_cons, okFill_nil, okFill_cons, cells_slice, cells_int, cells_bool, cells_str, cells_ptr, cells_agg, stNH_ptr, okN_ptr, wrA1, wrA20, wrA21, tn_cast, ldNO_ptr, hld']
        refine ⟨by omega, ?_⟩
        refine kont_new fun H9 b9 e9 z9 B9 K9 => ?_
        have s9 := K9.size
        have hst := B9.okNA (o := 0) (n := 2) (by simp)
        have BA := B9.stNA 0 [.int .i64 (u : Int), .int .i64 (y : Int)]
        have KA : Keep (fun q => q = b9) H9 (stNA H9 ⟨b9, 0, none⟩ [.int .i64 (u : Int), .int .i64 (y : Int)]) := (Keep.refl _ _).stNA _ (.inl rfl)
        simp only [go_sem, List.map_cons, List.map_nil, ↓reduceIte, Nat.reduceEqDiff, Nat.reduceAdd, Nat.reduceMul, reduceCtorEq, and_true, true_and, Nat.mul_one, Nat.zero_add, Bool.false_eq_true, decide_true, decide_false, not_false_eq_true, fillV_nil, fillV_cons, okFill_nil, okFill_cons, cells_slice, cells_int, cells_bool, cells_str, cells_ptr, cells_agg, stNH_ptr, okN_ptr, wrA1, wrA20, wrA21, hst]
        rw [kont_eq]
        generalize stNA H9 ⟨b9, 0, none⟩ [.int .i64 (u : Int), .int .i64 (y : Int)] = HA at BA KA ⊢
        have sA := KA.size
        have K8A : Keep (fun _ => False) H8 HA := K9.to_old KA (by omega)
        have K7A := K8.trans K8A
        have CA := K7A.bl C7 (by simp)
        have cx : cell HA ⟨b9, 0, none⟩ = some (.int .i64 (u : Int)) := by rw [BA.cell]; rfl
        have cy : cell HA ⟨b9, 1, none⟩ = some (.int .i64 (y : Int)) := by rw [BA.cell]; rfl
        have fx := fnL_cell CA hxn
        have fy := fnL_cell CA q2
        have efx : farV R b D x = m + 2 := farV_iff.2 ⟨by omega, hx⟩
        rw [efx] at fx
        have ha1 : all1 #[Value.int .i64 (u : Int), Value.int .i64 (y : Int)] := fun w hw => by simp at hw; rcases hw with rfl | rfl <;> rfl
        have fin : ∀ v : Value, v = .int .i64 ((q : Int) + 1) → ¬ (u = x ∧ isD R b m y) → ∃ k < (gridP n R).length - q, ∃ q' : Nat, q' ≤ (gridP n R).length ∧ k = (gridP n R).length - q' ∧ v = .int .i64 (q' : Int) ∧ (∀ i < q', ¬ ((at0 (gridP n R) i).1 = x ∧ isD R b m (at0 (gridP n R) i).2)) ∧ Keep (fun _ => False) H7 HA := fun v hv hne =>
          ⟨(gridP n R).length - (q + 1), by omega, q + 1, by omega, rfl, hv, fun i hi => by
            rcases Nat.lt_or_ge i q with h | h
            · exact hnot i h
            · have : i = q := by omega
              subst this; rw [← hu, ← hy]; exact hne, K7A⟩
        by_cases hux : u = x
        · have e1 : ((u : Int) == (x : Int)) = true := by rw [hux]; simp
          by_cases hm : isD R b m y
          · have efy : farV R b D y = m + 1 := farV_iff.2 ⟨by omega, hm⟩
            rw [efy] at fy
            have e2 : decide (((m + 1 : Nat) : Int) > 0) = true := decide_eq_true (by omega)
            have e3 : (((m + 1 : Nat) : Int) == ((m + 2 : Nat) : Int) - 1) = true := by simp; omega
            simp (disch := omega) only [go_sem, List.map_cons, List.map_nil, ↓reduceIte, Nat.reduceEqDiff, Nat.reduceAdd, Nat.reduceMul, reduceCtorEq, and_true, true_and, Nat.mul_one, Nat.zero_add, Bool.false_eq_true, decide_true, decide_false, not_false_eq_true, kont_eq, fillV_nil, fillV_cons, okFill_nil, okFill_cons, cells_slice, cells_int, cells_bool, cells_str, cells_ptr, cells_agg, stNH_ptr, okN_ptr, wrA1, wrA20, wrA21, ha1, hf0, hf1, hf2, hf8, h96, h13, h12, cx, cy, fx, fy, e1, e2, e3, tn_cast, Nat.mul_one, Nat.zero_add, IntWalk.i64_in]
            refine ⟨⟨by omega, by omega⟩, ⟨by omega, by omega⟩, by omega, ⟨by omega, by omega⟩, by omega, by omega, ⟨by omega, by omega⟩, ?_⟩
            have BB := Bl.new' HA #[Value.int .i64 (y : Int)] (ι.t 26)
            have KB : Keep (fun _ => False) HA (HA.push (Obj.cells #[Value.int .i64 (y : Int)] (ι.t 26))) := (Keep.refl _ _).push _
            generalize HA.push (Obj.cells #[Value.int .i64 (y : Int)] (ι.t 26)) = HB at BB KB ⊢
            have sB := KB.size
            have hey := step_first hR hx hlt (by rw [← hu]; exact hux) (by rw [← hy]; exact hm) hnot
            rw [← hy] at hey
            refine app_slN H5.size (l := iN (L0 ++ [x])) (m := iN [y]) (O7.keep (K7A.trans KB) (by simp)) w7 (by omega) (SlR.bl BB 0 1 1 (by omega) (by simp [iN_len])) (iL_all1 _) rfl (by omega) (by rw [iN_len, iN_len]; simp; omega) fun v' HC OC oC KC => ?_
            rw [kont_eq]
            simp only [go_sem, List.map_cons, List.map_nil, ↓reduceIte, Nat.reduceEqDiff, Nat.reduceAdd, Nat.reduceMul, reduceCtorEq, and_true, true_and, Nat.mul_one, Nat.zero_add, Bool.false_eq_true, decide_true, decide_false, not_false_eq_true, kont_eq]
            refine ⟨m, by omega, y, L0 ++ [x], v', by rfl, by rfl, hm, by omega, by simp; omega, ?_, ?_, oC, ?_⟩
            · rw [← hg, hey]; simp [gpath]
            · rw [← iN_app] at OC; exact OC
            · exact ((K7.trans K7A).trans KB).trans' KC (fun j hj h => by omega)
          · by_cases hz : farV R b D y = 0
            · have e2 : decide ((farV R b D y : Int) > 0) = false := decide_eq_false (by omega)
              simp (disch := omega) only [go_sem, List.map_cons, List.map_nil, ↓reduceIte, Nat.reduceEqDiff, Nat.reduceAdd, Nat.reduceMul, reduceCtorEq, and_true, true_and, Nat.mul_one, Nat.zero_add, Bool.false_eq_true, decide_true, decide_false, not_false_eq_true, kont_eq, fillV_nil, fillV_cons, okFill_nil, okFill_cons, cells_slice, cells_int, cells_bool, cells_str, cells_ptr, cells_agg, stNH_ptr, okN_ptr, wrA1, wrA20, wrA21, ha1, hf0, hf1, hf2, hf8, h96, h13, h12, cx, cy, fx, fy, e1, e2, tn_cast, Nat.mul_one, Nat.zero_add, IntWalk.i64_in]
              exact ⟨⟨by omega, by omega⟩, ⟨by omega, by omega⟩, by omega, fin _ rfl fun h => hm h.2⟩
            · have e2 : decide ((farV R b D y : Int) > 0) = true := decide_eq_true (by omega)
              have e3 : ((farV R b D y : Int) == ((m + 2 : Nat) : Int) - 1) = false := by
                have : farV R b D y ≠ m + 1 := fun e => hm (farV_iff.1 e).2
                simp; omega
              simp (disch := omega) only [go_sem, List.map_cons, List.map_nil, ↓reduceIte, Nat.reduceEqDiff, Nat.reduceAdd, Nat.reduceMul, reduceCtorEq, and_true, true_and, Nat.mul_one, Nat.zero_add, Bool.false_eq_true, decide_true, decide_false, not_false_eq_true, kont_eq, fillV_nil, fillV_cons, okFill_nil, okFill_cons, cells_slice, cells_int, cells_bool, cells_str, cells_ptr, cells_agg, stNH_ptr, okN_ptr, wrA1, wrA20, wrA21, ha1, hf0, hf1, hf2, hf8, h96, h13, h12, cx, cy, fx, fy, e1, e2, e3, tn_cast, Nat.mul_one, Nat.zero_add, IntWalk.i64_in]
              exact ⟨⟨by omega, by omega⟩, ⟨by omega, by omega⟩, by omega, ⟨by omega, by omega⟩, by omega, by omega, fin _ rfl fun h => hm h.2⟩
        · have e1 : ((u : Int) == (x : Int)) = false := by simp; omega
          simp (disch := omega) only [go_sem, List.map_cons, List.map_nil, ↓reduceIte, Nat.reduceEqDiff, Nat.reduceAdd, Nat.reduceMul, reduceCtorEq, and_true, true_and, Nat.mul_one, Nat.zero_add, Bool.false_eq_true, decide_true, decide_false, not_false_eq_true, kont_eq, fillV_nil, fillV_cons, okFill_nil, okFill_cons, cells_slice, cells_int, cells_bool, cells_str, cells_ptr, cells_agg, stNH_ptr, okN_ptr, wrA1, wrA20, wrA21, ha1, hf0, hf1, hf2, hf8, h96, h13, h12, cx, cy, fx, fy, e1, tn_cast, Nat.mul_one, Nat.zero_add, IntWalk.i64_in]
          exact ⟨⟨by omega, by omega⟩, fin _ rfl fun h => hux h.1⟩
      · have hqe : q = (gridP n R).length := by omega
        obtain ⟨i, hi, h1, h2⟩ := step_some hR hx
        exact absurd ⟨h1, h2⟩ (hnot i (by omega))
end Go.Mg

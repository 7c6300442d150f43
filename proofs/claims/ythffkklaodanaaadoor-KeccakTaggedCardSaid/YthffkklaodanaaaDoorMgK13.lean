/- keccak: the reference's sum is the program's. Plain part. -/
import Derived.Test.YthffkklaodanaaaDoorMgK12
import Derived.KernelRfl
namespace Go.Mg
open Go Go.RowKit
set_option linter.unusedSimpArgs false
set_option linter.unusedVariables false
set_option maxRecDepth 100000

theorem cL_eq (a : List UInt64) : cL a 5 = cN a 5 := rfl
theorem kernel_oX (b : List UInt64) (s0 s1 s2 s3 s4 s5 s6 s7 s8 s9 s10 s11 s12 s13 s14 s15 s16 s17 s18 s19 s20 s21 s22 s23 s24 : UInt64) : oX b 5 = chiY b 5 [s0, s1, s2, s3, s4, s5, s6, s7, s8, s9, s10, s11, s12, s13, s14, s15, s16, s17, s18, s19, s20, s21, s22, s23, s24] := by kernel_rfl
theorem oX_eq (b st : List UInt64) (h : st.length = 25) : oX b 5 = chiY b 5 st := by
  match st, h with
  | [s0, s1, s2, s3, s4, s5, s6, s7, s8, s9, s10, s11, s12, s13, s14, s15, s16, s17, s18, s19, s20, s21, s22, s23, s24], _ => exact kernel_oX b s0 s1 s2 s3 s4 s5 s6 s7 s8 s9 s10 s11 s12 s13 s14 s15 s16 s17 s18 s19 s20 s21 s22 s23 s24
theorem roundR_eq (a : List UInt64) (c : UInt64) (h : a.length = 25) : roundR a c = roundF a c := by
  unfold roundR roundF
  rw [cL_eq, oX_eq _ a h]
theorem rR_eq (st : List UInt64) (h : st.length = 25) : ∀ k, rR st k = roundsF k st
  | 0 => by simp only [rR, roundsF, iter]
  | k + 1 => by
    have ih := rR_eq st h k
    unfold rR roundsF at ih ⊢
    simp only [iter]
    rw [ih, roundR_eq]
    exact (roundsF_len k st).trans h

theorem or_xor (w : UInt64) (b : UInt8) : (w <<< 8) ||| b.toUInt64 = (w <<< 8) ^^^ b.toUInt64 := by
  apply UInt64.toBitVec_inj.1
  apply BitVec.eq_of_getLsbD_eq
  intro i hi
  simp only [UInt64.toBitVec_or, UInt64.toBitVec_xor, BitVec.getLsbD_or, BitVec.getLsbD_xor, UInt64.toBitVec_shiftLeft]
  have h8 : (8 : UInt64).toBitVec % 64 = 8#64 := rfl
  rw [show ((8 : UInt64).toBitVec % 64) = 8#64 from rfl]
  simp only [BitVec.shiftLeft_eq', BitVec.getLsbD_shiftLeft]
  by_cases h : i < 8
  · simp [h]
  · have : (b.toUInt64.toBitVec).getLsbD i = false := by
      simp [UInt8.toBitVec_toUInt64]
      intro _
      exact BitVec.getLsbD_of_ge _ _ (by omega)
    rw [this]; simp
theorem xor_shl (x y : UInt64) : (x ^^^ y) <<< 8 = x <<< 8 ^^^ y <<< 8 := by
  apply UInt64.toBitVec_inj.1
  simp [UInt64.toBitVec_shiftLeft, BitVec.shiftLeft_xor_distrib]
theorem shl_shl (x : UInt64) (n : Nat) (hn : n + 8 < 64) : (x <<< n.toUInt64) <<< 8 = x <<< (n + 8).toUInt64 := by
  apply UInt64.toNat_inj.1
  have e1 : n.toUInt64.toNat % 64 = n := by
    show (UInt64.ofNat n).toNat % 64 = n
    rw [UInt64.toNat_ofNat']; omega
  have e2 : (n + 8).toUInt64.toNat % 64 = n + 8 := by
    show (UInt64.ofNat (n + 8)).toNat % 64 = n + 8
    rw [UInt64.toNat_ofNat']; omega
  have e3 : (8 : UInt64).toNat % 64 = 8 := rfl
  rw [UInt64.toNat_shiftLeft, UInt64.toNat_shiftLeft, UInt64.toNat_shiftLeft, e1, e2, e3]
  simp only [Nat.shiftLeft_eq, Nat.pow_add]
  rw [Nat.mod_mul_mod, Nat.mul_assoc]
theorem shl_0 (x : UInt64) : x <<< (0 : Nat).toUInt64 = x := by
  apply UInt64.toNat_inj.1
  rw [UInt64.toNat_shiftLeft]
  have : (0 : Nat).toUInt64.toNat % 64 = 0 := rfl
  rw [this]; simp [x.toNat_lt]
theorem zero_shl8 : (0 : UInt64) <<< 8 = 0 := rfl
/-- eight bytes, put together by shifts: the same as an exclusive or of them all -/
theorem pack8 (b0 b1 b2 b3 b4 b5 b6 b7 : UInt8) :
    (((((((((0 : UInt64) <<< 8 ||| b7.toUInt64) <<< 8 ||| b6.toUInt64) <<< 8 ||| b5.toUInt64) <<< 8 ||| b4.toUInt64) <<< 8 ||| b3.toUInt64) <<< 8 ||| b2.toUInt64) <<< 8 ||| b1.toUInt64) <<< 8 ||| b0.toUInt64) =
    b7.toUInt64 <<< (56 : Nat).toUInt64 ^^^ b6.toUInt64 <<< (48 : Nat).toUInt64 ^^^ b5.toUInt64 <<< (40 : Nat).toUInt64 ^^^ b4.toUInt64 <<< (32 : Nat).toUInt64 ^^^ b3.toUInt64 <<< (24 : Nat).toUInt64 ^^^ b2.toUInt64 <<< (16 : Nat).toUInt64 ^^^ b1.toUInt64 <<< (8 : Nat).toUInt64 ^^^ b0.toUInt64 := by
  have s8 : ∀ x : UInt64, x <<< 8 = x <<< (8 : Nat).toUInt64 := fun x => rfl
  have t : ∀ (x : UInt64) (n : Nat), n + 8 < 64 → (x <<< n.toUInt64) <<< (8 : Nat).toUInt64 = x <<< (n + 8).toUInt64 := fun x n h => shl_shl x n h
  simp only [or_xor]
  simp only [zero_shl8, UInt64.zero_xor, xor_shl]
  simp only [s8]
  simp (disch := omega) only [t, Nat.reduceAdd]

theorem xor_lc (x y z : UInt64) : x ^^^ (y ^^^ z) = y ^^^ (x ^^^ z) := by
  rw [← UInt64.xor_assoc, UInt64.xor_comm x y, UInt64.xor_assoc]
theorem getD_set_self {l : List UInt64} {i : Nat} (h : i < l.length) (x : UInt64) : (l.set i x).getD i 0 = x := by
  simp [List.getD_eq_getElem?_getD, h]
theorem wN_eq (m : List UInt8) (i : Nat) : wN m i 8 = (m.getD (8 * i + 7) 0).toUInt64 <<< (56 : Nat).toUInt64 ^^^ (m.getD (8 * i + 6) 0).toUInt64 <<< (48 : Nat).toUInt64 ^^^ (m.getD (8 * i + 5) 0).toUInt64 <<< (40 : Nat).toUInt64 ^^^ (m.getD (8 * i + 4) 0).toUInt64 <<< (32 : Nat).toUInt64 ^^^ (m.getD (8 * i + 3) 0).toUInt64 <<< (24 : Nat).toUInt64 ^^^ (m.getD (8 * i + 2) 0).toUInt64 <<< (16 : Nat).toUInt64 ^^^ (m.getD (8 * i + 1) 0).toUInt64 <<< (8 : Nat).toUInt64 ^^^ (m.getD (8 * i) 0).toUInt64 := by
  rw [← pack8]
  simp only [wN, iter]
  rfl
theorem xw8 (st : List UInt64) (m : List UInt8) (a k : Nat) (h : k < st.length) : xw st m a (8 * (k + 1)) = (xw st m a (8 * k)).set k ((xw st m a (8 * k)).getD k 0 ^^^ wN (m.drop a) k 8) := by
  have hx : k < (xw st m a (8 * k)).length := by rw [xw_len]; exact h
  have e : 8 * (k + 1) = 8 * k + 8 := by omega
  rw [e]
  unfold xw at hx ⊢
  simp only [iter]
  generalize iter (8 * k) _ st = s at *
  have d0 : 8 * k / 8 = k := by omega
  have d1 : (8 * k + 1) / 8 = k := by omega
  have d2 : (8 * k + 2) / 8 = k := by omega
  have d3 : (8 * k + 3) / 8 = k := by omega
  have d4 : (8 * k + 4) / 8 = k := by omega
  have d5 : (8 * k + 5) / 8 = k := by omega
  have d6 : (8 * k + 6) / 8 = k := by omega
  have d7 : (8 * k + 7) / 8 = k := by omega
  have m0 : 8 * k % 8 = 0 := by omega
  have m1 : (8 * k + 1) % 8 = 1 := by omega
  have m2 : (8 * k + 2) % 8 = 2 := by omega
  have m3 : (8 * k + 3) % 8 = 3 := by omega
  have m4 : (8 * k + 4) % 8 = 4 := by omega
  have m5 : (8 * k + 5) % 8 = 5 := by omega
  have m6 : (8 * k + 6) % 8 = 6 := by omega
  have m7 : (8 * k + 7) % 8 = 7 := by omega
  have gd : ∀ j, (m.drop a).getD j 0 = m.getD (a + j) 0 := fun j => by simp [List.getD_eq_getElem?_getD]
  simp only [Nat.add_zero, d0, d1, d2, d3, d4, d5, d6, d7, m0, m1, m2, m3, m4, m5, m6, m7]
  simp (disch := simpa using hx) only [getD_set_self, List.set_set]
  rw [wN_eq]
  simp only [gd, Nat.reduceMul, Nat.mul_zero, shl_0]
  congr 1
  generalize (m.getD (a + (8 * k + 7)) 0).toUInt64 <<< _ = x7
  generalize (m.getD (a + (8 * k + 6)) 0).toUInt64 <<< _ = x6
  generalize (m.getD (a + (8 * k + 5)) 0).toUInt64 <<< _ = x5
  generalize (m.getD (a + (8 * k + 4)) 0).toUInt64 <<< _ = x4
  generalize (m.getD (a + (8 * k + 3)) 0).toUInt64 <<< _ = x3
  generalize (m.getD (a + (8 * k + 2)) 0).toUInt64 <<< _ = x2
  generalize (m.getD (a + (8 * k + 1)) 0).toUInt64 <<< _ = x1
  generalize (m.getD (a + (8 * k)) 0).toUInt64 = x0
  generalize s.getD k 0 = y
  simp only [UInt64.xor_assoc, UInt64.xor_comm, xor_lc]
theorem xw_abs (st : List UInt64) (m : List UInt8) (a : Nat) (h : st.length = 25) : ∀ k, k ≤ 25 → xw st m a (8 * k) = absorbN st (m.drop a) k
  | 0, _ => by simp only [xw, absorbN, iter, Nat.mul_zero]
  | k + 1, hk => by
    rw [xw8 _ _ _ _ (by omega), xw_abs st m a h k (by omega)]
    simp only [absorbN, iter]
theorem wN_take (m : List UInt8) (i : Nat) (h : i < 17) : wN (m.take 136) i 8 = wN m i 8 := by
  have gd : ∀ j, j < 136 → (m.take 136).getD j 0 = m.getD j 0 := fun j hj => by simp [List.getD_eq_getElem?_getD, List.getElem?_take, hj]
  rw [wN_eq, wN_eq, gd _ (by omega), gd _ (by omega), gd _ (by omega), gd _ (by omega), gd _ (by omega), gd _ (by omega), gd _ (by omega), gd _ (by omega)]
theorem absorbN_take (st : List UInt64) (m : List UInt8) : ∀ k, k ≤ 17 → absorbN st (m.take 136) k = absorbN st m k
  | 0, _ => by simp only [absorbN, iter]
  | k + 1, hk => by
    have ih := absorbN_take st m k (by omega)
    unfold absorbN at ih ⊢
    simp only [iter]
    rw [ih, wN_take _ _ (by omega)]
theorem block_eq (st : List UInt64) (m : List UInt8) (a : Nat) (h : st.length = 25) : rR (xw st m a 136) 24 = absorbF st ((m.drop a).take 136) := by
  unfold absorbF keccakF
  rw [absorbN_take _ _ 17 (Nat.le_refl _), ← xw_abs st m a h 17 (by omega), rR_eq _ (by rw [xw_len]; exact h)]
theorem refSt_succ (m : List UInt8) (j : Nat) : refSt m (j + 1) = absorbF (refSt m j) ((m.drop (136 * j)).take 136) := by
  have h := refSt_len m j
  have : refSt m (j + 1) = rR (xw (refSt m j) m (136 * j) 136) 24 := by
    unfold refSt; simp only [iter]
  rw [this, block_eq _ _ _ h]

theorem lastOf_eq (p : List UInt8) : lastOf p = (tailOf p ++ [6] ++ List.replicate (135 - p.length % 136) 0).set 135 ((tailOf p ++ [6] ++ List.replicate (135 - p.length % 136) 0).getD 135 0 ^^^ 128) := by
  have hr : p.length % 136 < 136 := Nat.mod_lt _ (by omega)
  have hl := tailOf_len p
  have e : (bufW (List.replicate 136 0) 0 (tailOf p)).set (p.length % 136) 6 = tailOf p ++ [6] ++ List.replicate (135 - p.length % 136) 0 := by
    unfold bufW
    rw [hl, Nat.zero_add, List.take_zero, List.nil_append, List.drop_replicate]
    have : 136 - p.length % 136 = (135 - p.length % 136) + 1 := by omega
    rw [this, List.replicate_succ, ← hl, List.set_append_right _ _ (Nat.le_refl _), Nat.sub_self, List.set_cons_zero, hl]
    simp
  unfold lastOf
  simp only []
  rw [e]
theorem padF_eq (p : List UInt8) : padF p = p.take (136 * (p.length / 136)) ++ lastOf p := by
  have hr : p.length % 136 < 136 := Nat.mod_lt _ (by omega)
  have hz : padZ p = 135 - p.length % 136 := by unfold padZ; omega
  have hl := tailOf_len p
  have e0 : pad0 p (padZ p) = p.take (136 * (p.length / 136)) ++ (tailOf p ++ [6] ++ List.replicate (135 - p.length % 136) 0) := by
    rw [hz]
    have : p = p.take (136 * (p.length / 136)) ++ tailOf p := (List.take_append_drop _ _).symm
    conv => lhs; unfold pad0; rw [this]
    simp only [List.append_assoc]
    congr 3
    rw [← this]
  have ht : (p.take (136 * (p.length / 136))).length = 136 * (p.length / 136) := by rw [List.length_take]; omega
  have hL : (tailOf p ++ [6] ++ List.replicate (135 - p.length % 136) (0 : UInt8)).length = 136 := by simp [hl]; omega
  have hi : (pad0 p (padZ p)).length - 1 = 136 * (p.length / 136) + 135 := by rw [e0, List.length_append, ht, hL]; omega
  unfold padF
  rw [hi, e0, lastOf_eq]
  generalize tailOf p ++ [6] ++ List.replicate (135 - p.length % 136) 0 = L at *
  generalize p.take (136 * (p.length / 136)) = A at *
  have hA : A.length ≤ 136 * (p.length / 136) + 135 := by omega
  have hs : 136 * (p.length / 136) + 135 - A.length = 135 := by omega
  rw [List.set_append_right _ _ hA, hs]
  congr 3
  rw [List.getD_eq_getElem?_getD, List.getD_eq_getElem?_getD, List.getElem?_append_right hA, hs]
theorem refSt_stB (p : List UInt8) : ∀ j, j ≤ p.length / 136 → refSt (padF p) j = stB p j
  | 0, _ => by simp only [refSt, stB, iter]
  | j + 1, h => by
    rw [refSt_succ, stB_succ, refSt_stB p j (by omega)]
    congr 1
    have ht : (p.take (136 * (p.length / 136))).length = 136 * (p.length / 136) := by rw [List.length_take]; omega
    rw [padF_eq, List.drop_append_of_le_length (by omega), List.take_append_of_le_length (by rw [List.length_drop]; omega), List.drop_take, List.take_take, Nat.min_eq_left (by omega)]
theorem sumR_eq (p : List UInt8) : sumR p = sumF p := by
  have hl : (lastOf p).length = 136 := lastOf_len p
  have ht : (p.take (136 * (p.length / 136))).length = 136 * (p.length / 136) := by rw [List.length_take]; omega
  have hlen : (padF p).length / 136 = p.length / 136 + 1 := by
    rw [padF_eq, List.length_append, ht, hl]; omega
  unfold sumR sumF
  rw [hlen, refSt_succ, refSt_stB p _ (Nat.le_refl _)]
  have : ((padF p).drop (136 * (p.length / 136))).take 136 = lastOf p := by
    rw [padF_eq, List.drop_append_of_le_length (by omega), List.drop_of_length_le (by omega), List.nil_append, List.take_of_length_le (by omega)]
  rw [this]; rfl
end Go.Mg

/- keccak: a hash as the bytes that it has taken. Plain part. -/
import Derived.Test.YthffkklaodanaaaDoorMgK2
namespace Go.Mg
open Go Go.RowKit
set_option linter.unusedSimpArgs false
set_option linter.unusedVariables false

def stB (p : List UInt8) (n : Nat) : List UInt64 := iter n (fun st i => absorbF st ((p.drop (136 * i)).take 136)) (List.replicate 25 0)
def stOf (p : List UInt8) : List UInt64 := stB p (p.length / 136)
def tailOf (p : List UInt8) : List UInt8 := p.drop (136 * (p.length / 136))
theorem stB_len (p : List UInt8) (n : Nat) : (stB p n).length = 25 := by
  unfold stB; rw [iter_len (fun l k => absorbF_len _ _)]; simp
theorem stOf_len (p : List UInt8) : (stOf p).length = 25 := stB_len _ _
theorem tailOf_len (p : List UInt8) : (tailOf p).length = p.length % 136 := by
  simp only [tailOf, List.length_drop]; omega
theorem stB_succ (p : List UInt8) (n : Nat) : stB p (n + 1) = absorbF (stB p n) ((p.drop (136 * n)).take 136) := rfl
theorem stB_app (p x : List UInt8) : ∀ n, 136 * n ≤ p.length → stB (p ++ x) n = stB p n
  | 0, _ => by simp only [stB, iter]
  | n + 1, h => by
    have ih := stB_app p x n (by omega)
    have e : ((p ++ x).drop (136 * n)).take 136 = (p.drop (136 * n)).take 136 := by
      rw [List.drop_append_of_le_length (by omega), List.take_append_of_le_length (by simp; omega)]
    rw [stB_succ, stB_succ, ih, e]
theorem stOf_app (p x : List UInt8) (h : p.length % 136 + x.length < 136) : stOf (p ++ x) = stOf p := by
  have e : (p ++ x).length / 136 = p.length / 136 := by simp; omega
  unfold stOf; rw [e]; exact stB_app _ _ _ (by omega)
theorem tailOf_app (p x : List UInt8) (h : p.length % 136 + x.length < 136) : tailOf (p ++ x) = tailOf p ++ x := by
  have e : (p ++ x).length / 136 = p.length / 136 := by simp; omega
  unfold tailOf; rw [e, List.drop_append_of_le_length (by omega)]
theorem stOf_full (p x : List UInt8) (h : p.length % 136 + x.length = 136) : stOf (p ++ x) = absorbF (stOf p) (tailOf p ++ x) := by
  have e : (p ++ x).length / 136 = p.length / 136 + 1 := by simp; omega
  unfold stOf; rw [e]
  have := stB_app p x (p.length / 136) (by omega)
  have e2 : ((p ++ x).drop (136 * (p.length / 136))).take 136 = tailOf p ++ x := by
    rw [List.drop_append_of_le_length (by omega), List.take_of_length_le (by simp; omega)]; rfl
  rw [stB_succ, this, e2]
theorem tailOf_full (p x : List UInt8) (h : p.length % 136 + x.length = 136) : tailOf (p ++ x) = [] := by
  apply List.eq_nil_of_length_eq_zero; rw [tailOf_len]; simp; omega

/-! the cells of a hash -/
def hashL (st : List UInt64) (buf : List UInt8) (u t : Int) : List Value := w64 st ++ (w8 buf ++ [.int .i64 u, .int .u64 t])
theorem hashL_buf {st : List UInt64} {buf : List UInt8} {u t : Int} (hs : st.length = 25) (hb : buf.length = 136) (i : Nat) (hi : i < 136) : (hashL st buf u t)[25 + i]? = some (.int .u8 (buf.getD i 0).toNat) := by
  have e : (w64 st).length = 25 := by rw [w64_len, hs]
  have e2 : (w8 buf).length = 136 := by rw [w8_len, hb]
  unfold hashL
  rw [List.getElem?_append_right (by omega), e, Nat.add_sub_cancel_left, List.getElem?_append_left (by omega)]
  exact w8_get _ _ (by omega)
theorem hashL_u {st : List UInt64} {buf : List UInt8} {u t : Int} (hs : st.length = 25) (hb : buf.length = 136) : (hashL st buf u t)[161]? = some (.int .i64 u) := by
  have e : (w64 st).length = 25 := by rw [w64_len, hs]
  have e2 : (w8 buf).length = 136 := by rw [w8_len, hb]
  unfold hashL
  rw [List.getElem?_append_right (by omega), e, List.getElem?_append_right (by omega), e2]; rfl
theorem hashL_t {st : List UInt64} {buf : List UInt8} {u t : Int} (hs : st.length = 25) (hb : buf.length = 136) : (hashL st buf u t)[162]? = some (.int .u64 t) := by
  have e : (w64 st).length = 25 := by rw [w64_len, hs]
  have e2 : (w8 buf).length = 136 := by rw [w8_len, hb]
  unfold hashL
  rw [List.getElem?_append_right (by omega), e, List.getElem?_append_right (by omega), e2]; rfl
theorem hashL_len {st : List UInt64} {buf : List UInt8} {u t : Int} (hs : st.length = 25) (hb : buf.length = 136) : (hashL st buf u t).length = 163 := by
  simp [hashL, w64_len, w8_len, hs, hb]
theorem hashL_setU {st : List UInt64} {buf : List UInt8} {u t : Int} (hs : st.length = 25) (hb : buf.length = 136) (u' : Int) : (hashL st buf u t).set 161 (.int .i64 u') = hashL st buf u' t := by
  have e : (w64 st).length = 25 := by rw [w64_len, hs]
  have e2 : (w8 buf).length = 136 := by rw [w8_len, hb]
  unfold hashL
  rw [List.set_append_right _ _ (by omega), e, List.set_append_right _ _ (by omega), e2]; rfl
theorem hashL_setT {st : List UInt64} {buf : List UInt8} {u t : Int} (hs : st.length = 25) (hb : buf.length = 136) (t' : Int) : (hashL st buf u t).set 162 (.int .u64 t') = hashL st buf u t' := by
  have e : (w64 st).length = 25 := by rw [w64_len, hs]
  have e2 : (w8 buf).length = 136 := by rw [w8_len, hb]
  unfold hashL
  rw [List.set_append_right _ _ (by omega), e, List.set_append_right _ _ (by omega), e2]; rfl
def bufW (buf : List UInt8) (o : Nat) (x : List UInt8) : List UInt8 := buf.take o ++ x ++ buf.drop (o + x.length)
theorem bufW_len {buf : List UInt8} {o : Nat} {x : List UInt8} (h : o + x.length ≤ buf.length) : (bufW buf o x).length = buf.length := by
  simp [bufW]; omega
theorem w8_wr (buf : List UInt8) (o : Nat) (x : List UInt8) : wrL (w8 buf) o (w8 x) = w8 (bufW buf o x) := by
  simp [wrL, bufW, w8]
theorem wrL_right (a b : List Value) (o : Nat) (x : List Value) (n : Nat) (hn : n = a.length) : wrL (a ++ b) (n + o) x = a ++ wrL b o x := by
  subst hn
  simp [wrL, List.take_append, List.drop_append]
  rw [List.take_of_length_le (by omega), List.drop_of_length_le (by omega)]
  simp [Nat.add_assoc]
theorem wrL_left (a b : List Value) (o : Nat) (x : List Value) (h : o + x.length ≤ a.length) : wrL (a ++ b) o x = wrL a o x ++ b := by
  simp [wrL, List.take_append, List.drop_append]
  have h1 : o - a.length = 0 := by omega
  have h2 : o + x.length - a.length = 0 := by omega
  simp [h1, h2]
theorem hashL_wr {st : List UInt64} {buf : List UInt8} {u t : Int} (hs : st.length = 25) (hb : buf.length = 136) (o : Nat) (x : List UInt8) (h : o + x.length ≤ 136) :
    wrL (hashL st buf u t) (25 + o) (w8 x) = hashL st (bufW buf o x) u t := by
  unfold hashL
  rw [wrL_right _ _ _ _ _ (by rw [w64_len, hs]), wrL_left _ _ _ _ (by rw [w8_len, w8_len]; omega), w8_wr]

/-- block b is a hash that has taken p; tot is its count -/
def HashC (H : Hp) (b : Nat) (p : List UInt8) (tot : Int) : Prop := ∃ buf, buf.length = 136 ∧ buf.take (p.length % 136) = tailOf p ∧ Bl H b (hashL (stOf p) buf ((p.length % 136 : Nat) : Int) tot)
def HashB (H : Hp) (b : Nat) (p : List UInt8) : Prop := HashC H b p (UInt64.ofNat p.length).toNat
theorem HashC.keep {W : Nat → Prop} {H H' : Hp} {b : Nat} {p : List UInt8} {t : Int} (h : HashC H b p t) (hk : Keep W H H') (hw : ¬ W b) : HashC H' b p t := by
  obtain ⟨buf, h1, h2, h3⟩ := h; exact ⟨buf, h1, h2, hk.bl h3 hw⟩
theorem HashC.lt {H : Hp} {b : Nat} {p : List UInt8} {t : Int} (h : HashC H b p t) : b < H.size := by
  obtain ⟨buf, h1, h2, h3⟩ := h; exact h3.lt
theorem bufW_take (buf : List UInt8) (o : Nat) (x : List UInt8) (h : o + x.length ≤ buf.length) : (bufW buf o x).take (o + x.length) = buf.take o ++ x := by
  unfold bufW
  rw [List.take_append_of_le_length (by simp; omega), List.take_of_length_le (by simp; omega)]
end Go.Mg

/- Several texts of ours in one. No conditions. -/
import Derived.Test.YteeemadonfcliacDoorMgMA
import Derived.Test.YteeemadonfcliacDoorMgEl
import Derived.Test.YteeemadonfcliacDoorMgLib
import Derived.Test.YteeemadonfcliacDoorMgKp
namespace Go.Mg
set_option linter.all false
def lowB (x : UInt64) : Nat := ((List.range 64).find? (bt x)).getD 64
theorem lowB_spec {x : UInt64} (h : x ≠ 0) : lowB x < 64 /\ bt x (lowB x) = true /\ ∀ k < lowB x, bt x k = false := by
 unfold lowB
 cases e : (List.range 64).find? (bt x) with
 | none =>
  exfalso
  apply h
  rw [List.find?_eq_none] at e
  apply bt_ext
  intro k hk
  rw [bt_zero]
  have := e k (by simpa using hk)
  simpa using this
 | some t =>
  have h1 := List.mem_of_find?_eq_some e
  have h2 := List.find?_some e
  refine ⟨by simpa using h1, h2, fun k hk => ?_⟩
  simp only [Option.getD_some] at hk
  rw [List.find?_range_eq_some] at e
  have := e.2.2 k hk
  simpa using this
def p1 (m n : Nat) : Nat := (n / 2 &&& m) + (n &&& m)
def p2 (m n : Nat) : Nat := (n / 4 &&& m) + (n &&& m)
def memb (W : List UInt64) (n : Nat) : Bool := bt (W.getD (n / 64) 0) (n % 64)
theorem memb_ge {W : List UInt64} {n : Nat} (h : 64 * W.length <= n) : memb W n = false := by
 unfold memb
 rw [List.getD_eq_getElem?_getD, List.getElem?_eq_none (by omega)]
 exact bt_zero _
theorem memb_at (W : List UInt64) (k b : Nat) (hb : b < 64) : memb W (64 * k + b) = bt (W.getD k 0) b := by
 unfold memb
 rw [show (64 * k + b) / 64 = k by omega, show (64 * k + b) % 64 = b by omega]
theorem memb_ext {A B : List UInt64} (hl : A.length = B.length) (h : ∀ n, memb A n = memb B n) : A = B := by
 apply List.ext_getElem hl
 intro i h1 h2
 apply bt_ext
 intro k hk
 have := h (64 * i + k)
 rw [memb_at _ _ _ hk, memb_at _ _ _ hk] at this
 simpa [List.getD_eq_getElem?_getD, h1, h2] using this
def Can (W : List UInt64) : Prop := ∀ h : W ≠ [], W.getLast h ≠ 0
theorem Can.top {W : List UInt64} (h : Can W) (hW : W ≠ []) : ∃ n, memb W n = true /\ 64 * (W.length - 1) <= n /\ n < 64 * W.length := by
 have hl : 0 < W.length := List.length_pos_iff.2 hW
 obtain ⟨a, b, c⟩ := lowB_spec (h hW)
 refine ⟨64 * (W.length - 1) + lowB (W.getLast hW), ?_, by omega, by omega⟩
 rw [memb_at _ _ _ a, <- b]
 congr 1
 rw [List.getD_eq_getElem?_getD, List.getLast_eq_getElem]
 have : W.length - 1 < W.length := by omega
 simp [this]
theorem Can.ext {A B : List UInt64} (ha : Can A) (hb : Can B) (h : ∀ n, memb A n = memb B n) : A = B := by
 refine memb_ext ?_ h
 rcases Nat.lt_trichotomy A.length B.length with hl | hl | hl
 ·obtain ⟨n, h1, h2, h3⟩ := hb.top (List.length_pos_iff.1 (by omega))
  have := h n
  rw [h1, memb_ge (by omega)] at this; cases this
 ·exact hl
 ·obtain ⟨n, h1, h2, h3⟩ := ha.top (List.length_pos_iff.1 (by omega))
  have := h n
  rw [h1, memb_ge (by omega)] at this; cases this
end Go.Mg
namespace Go.Mg
open Go Go.RowKit
set_option linter.all false
set_option maxRecDepth 100000
def tabL : List Nat := [0, 1, 56, 2, 57, 49, 28, 3, 61, 58, 42, 50, 38, 29, 17, 4, 62, 47, 59, 36, 45, 43, 51, 22, 53, 39, 33, 30, 24, 18, 12, 5, 63, 55, 48, 27, 60, 41, 37, 16, 46, 35, 44, 21, 52, 32, 23, 11, 54, 26, 40, 15, 34, 20, 31, 10, 25, 14, 19, 9, 13, 8, 7, 6]
def TabOk (ι : Ids) (H : Hp) : Prop := Bl H (ι.g 125) ((tabL.map fun n : Nat => (n : Int)).map (Value.int .u8))
theorem TabOk.keep {ι : Ids} {H H' : Hp} (h : TabOk ι H) (hk : Keep (fun _ => False) H H') : TabOk ι H' := hk.bl h (by simp)
end Go.Mg
namespace Go.Mg
open Go Go.RowKit
set_option linter.all false
set_option maxRecDepth 100000
structure SetV (H : Hp) (v : Value) (W : List UInt64) (p : Nat -> Bool) : Prop where
 sl : SlR H v (w64 W)
 len : W.length <= 64
 can : Can W
 is : ∀ n, memb W n = p n
theorem SetV.keep {X : Nat -> Prop} {H H' : Hp} {v : Value} {W : List UInt64} {p : Nat -> Bool} (h : SetV H v W p) (hk : Keep X H H') (hw : ∀ k, slB v k -> ¬ X k) : SetV H' v W p := ⟨h.sl.keep hk hw, h.len, h.can, h.is⟩
theorem SetV.lt {H : Hp} {v : Value} {W : List UInt64} {p : Nat -> Bool} (h : SetV H v W p) {n : Nat} (hp : p n = true) : n < 64 * W.length := by
 apply Decidable.byContradiction
 intro hn
 rw [<- h.is, memb_ge (by omega)] at hp; cases hp
theorem SetV.lt' {H : Hp} {v : Value} {W : List UInt64} {p : Nat -> Bool} (h : SetV H v W p) {n : Nat} (hp : p n = true) : n < 4096 := by
 have := h.lt hp; have := h.len; omega
def SetM (H : Hp) (x : Value) (p : Nat -> Bool) : Prop := ∃ v W, x = .agg #[v] /\ SetV H v W p
def setB : Value -> Nat -> Prop
 | .agg cs, k => slB (cs.getD 0 undef) k
 | _, _ => False
theorem SetM.keep {X : Nat -> Prop} {H H' : Hp} {x : Value} {p : Nat -> Bool} (h : SetM H x p) (hk : Keep X H H') (hw : ∀ k, setB x k -> ¬ X k) : SetM H' x p := by
 obtain ⟨v, W, rfl, hv⟩ := h; exact ⟨v, W, rfl, hv.keep hk hw⟩
theorem SetM.old {H : Hp} {x : Value} {p : Nat -> Bool} (h : SetM H x p) {k : Nat} (hk : setB x k) : k < H.size := by
 obtain ⟨v, W, rfl, hv⟩ := h; exact hv.sl.old hk
theorem SetM.lt {H : Hp} {x : Value} {p : Nat -> Bool} (h : SetM H x p) {n : Nat} (hp : p n = true) : n < 4096 := by
 obtain ⟨v, W, rfl, hv⟩ := h; exact hv.lt' hp
theorem SetM.congr {H : Hp} {x : Value} {p q : Nat -> Bool} (h : SetM H x p) (e : ∀ n, p n = q n) : SetM H x q := by
 obtain ⟨v, W, rfl, hv⟩ := h; exact ⟨v, W, rfl, hv.sl, hv.len, hv.can, fun n => (hv.is n).trans (e n)⟩
theorem SetM.empty (H : Hp) (a : Option Addr) (c : Nat) : SetM H (.agg #[.slice a 0 c]) (fun _ => false) :=
 ⟨_, [], rfl, SlR.nil _ _ _, by simp, fun h => absurd rfl h, fun n => memb_ge (by simp)⟩
theorem fillV_nil (r : A -> Value) (C : Array Value) : fillV r C [] = C := rfl
theorem fillV_cons (r : A -> Value) (C : Array Value) (off size : Nat) (a : A) (l : List (Nat × Nat × A)) : fillV r C ((off, size, a) :: l) = fillV r (wrA C off (r a).cells.toList) l := rfl
theorem okFill_nil (r : A -> Value) (n : Nat) : okFill r n [] = True := rfl
theorem okFill_cons (r : A -> Value) (n off size : Nat) (a : A) (l : List (Nat × Nat × A)) : okFill r n ((off, size, a) :: l) = ((r a).cells.size = size /\ off + size <= n /\ okFill r n l) := rfl
theorem cells_slice (a : Option Addr) (l c : Nat) : (Value.slice a l c).cells = #[.slice a l c] := rfl
theorem cells_int (k : IntKind) (n : Int) : (Value.int k n).cells = #[.int k n] := rfl
theorem cells_bool (b : Bool) : (Value.bool b).cells = #[.bool b] := rfl
theorem cells_str (b : ByteArray) : (Value.string b).cells = #[.string b] := rfl
theorem cells_ptr (b : Option Addr) : (Value.pointer b).cells = #[.pointer b] := rfl
theorem wrA1 (z x : Value) : wrA #[z] 0 [x] = #[x] := rfl
theorem wrA20 (z y x : Value) : wrA #[z, y] 0 [x] = #[x, y] := rfl
theorem wrA21 (z y x : Value) : wrA #[z, y] 1 [x] = #[z, x] := rfl
theorem zF : (∀ (r : A -> Value) (C : Array Value), fillV r C [] = C) /\ (∀ (r : A -> Value) (C : Array Value) (off size : Nat) (a : A) (l : List (Nat × Nat × A)), fillV r C ((off, size, a) :: l) = fillV r (wrA C off (r a).cells.toList) l) /\ (∀ (r : A -> Value) (n : Nat), okFill r n [] = True) ∧
  (∀ (r : A -> Value) (n off size : Nat) (a : A) (l : List (Nat × Nat × A)), okFill r n ((off, size, a) :: l) = ((r a).cells.size = size /\ off + size <= n /\ okFill r n l)) /\ (∀ (a : Option Addr) (l c : Nat), (Value.slice a l c).cells = #[.slice a l c]) /\ (∀ (k : IntKind) (n : Int), (Value.int k n).cells = #[.int k n]) ∧
  (∀ b : Bool, (Value.bool b).cells = #[.bool b]) /\ (∀ b : ByteArray, (Value.string b).cells = #[.string b]) /\ (∀ b : Option Addr, (Value.pointer b).cells = #[.pointer b]) /\ (∀ C : Array Value, (Value.agg C).cells = C) /\ (∀ (H : Hp) (a : Addr) (xs : List Value), stNH H (.pointer (some a)) xs = stNA H a xs) ∧
  (∀ (H : Hp) (a : Addr) (n : Nat), okN H (.pointer (some a)) n = okNA H a n) /\ (∀ z x : Value, wrA #[z] 0 [x] = #[x]) /\ (∀ z y x : Value, wrA #[z, y] 0 [x] = #[x, y]) /\ (∀ z y x : Value, wrA #[z, y] 1 [x] = #[z, x]) :=
 ⟨fillV_nil, fillV_cons, okFill_nil, okFill_cons, cells_slice, cells_int, cells_bool, cells_str, cells_ptr, cells_agg, stNH_ptr, okN_ptr, wrA1, wrA20, wrA21⟩
theorem SlR.one {H : Hp} {v : Value} {l : List Value} (h : SlR H v l) : all1 #[v] := by
 intro y hy
 simp at hy; subst hy
 obtain ⟨a, c, rfl, _⟩ := h.mk; rfl
end Go.Mg

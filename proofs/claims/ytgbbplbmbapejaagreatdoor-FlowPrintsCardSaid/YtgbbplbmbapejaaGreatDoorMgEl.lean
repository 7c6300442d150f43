/- Several texts of ours in one. No conditions. -/
import Derived.Test.YtgbbplbmbapejaaGreatDoorMgTvk
set_option linter.all false
namespace Go.Mg
open Go Go.RowKit
@[go_sem] theorem slV_slice (a : Option Addr) (l c size : Nat) (lo hi : Option Int) : slV (.slice a l c) size lo hi = .slice (if c = loN lo then a else a.map (·.add (loN lo * size))) (hiN l hi - loN lo) (c - loN lo) := rfl
@[go_sem] theorem slaV_ptr (a : Addr) (n size : Nat) (lo hi : Option Int) : slaV (.pointer (some a)) n size lo hi = .slice (some (if n = loN lo then a else a.add (loN lo * size))) (hiN n hi - loN lo) (n - loN lo) := rfl
@[go_sem] theorem oi_some (r : A -> Value) (x : A) : oi r (some x) = some (r x).i := rfl
@[go_sem] theorem oi_none (r : A -> Value) : oi r none = none := rfl
@[go_sem] theorem slmV_slice (a : Option Addr) (n c size l h m : Nat) : slmV (.slice a n c) size l h m = .slice (if m = l then a else a.map (·.add (l * size))) (h - l) (m - l) := rfl
attribute [go_sem] Option.map_some Option.map_none Option.getD_none Int.toNat_zero Nat.sub_zero Nat.add_zero
@[go_sem] theorem tn_ofNat (n : Nat) : ((no_index (OfNat.ofNat n) : Int)).toNat = OfNat.ofNat n := by
 show ((n : Nat) : Int).toNat = n
 simp
def wrL (l : List Value) (off : Nat) (xs : List Value) : List Value := l.take off ++ xs ++ l.drop (off + xs.length)
theorem wrL_nil (l : List Value) (off : Nat) : wrL l off [] = l := by simp [wrL]
theorem wrL_len {l : List Value} {off : Nat} {xs : List Value} (h : off + xs.length <= l.length) : (wrL l off xs).length = l.length := by
 simp [wrL]; omega
theorem wrL_all (l xs : List Value) (h : xs.length = l.length) : wrL l 0 xs = xs := by simp [wrL, h]
theorem getElem?_stNA_ne {H : Hp} {p : Addr} {xs : List Value} {b : Nat} (hb : b ≠ p.block) : (stNA H p xs)[b]? = H[b]? := by
 unfold stNA
 rw [Array.getElem?_modify, if_neg (fun e => hb e.symm)]
theorem size_stNA (H : Hp) (p : Addr) (xs : List Value) : (stNA H p xs).size = H.size := by simp [stNA]
theorem Bl.stNA {H : Hp} {b : Nat} {l : List Value} (h : Bl H b l) (o : Nat) (xs : List Value) : Bl (Mg.stNA H ⟨b, o, none⟩ xs) b (wrL l o xs) := by
 obtain ⟨T, h⟩ := h
 refine ⟨T, ?_⟩
 rw [stNA_known (p := ⟨b, o, none⟩) h, getElem?_setKnown h]
 simp [wrA, wrL]
theorem Keep.stNA {W : Nat -> Prop} {A B : Hp} (h : Keep W A B) {p : Addr} (xs : List Value) (hp : W p.block \/ A.size <= p.block) : Keep W A (Mg.stNA B p xs) := by
 refine ⟨by rw [size_stNA]; exact h.size, fun k hk hw => ?_⟩
 rw [getElem?_stNA_ne (by rintro rfl; rcases hp with hp | hp; exact hw hp; omega)]
 exact h.at_ k hk hw
theorem Bl.okNA {H : Hp} {b : Nat} {l : List Value} (h : Bl H b l) {o n : Nat} (hn : o + n <= l.length) : Mg.okNA H ⟨b, o, none⟩ n := by
 have h' := h
 obtain ⟨T, h⟩ := h
 exact ⟨rfl, _, _, _, h, by simpa using hn, fun i _ => h'.frz _⟩
theorem Bl.ldNA {H : Hp} {b : Nat} {l : List Value} (h : Bl H b l) {o n : Nat} (hn : o + n <= l.length) : Mg.ldNA H ⟨b, o, none⟩ n = some ((l.drop o).take n).toArray := by
 obtain ⟨T, h⟩ := h
 unfold Mg.ldNA
 simp only [h, Option.isSome_none, Bool.false_eq_true, if_false, List.size_toArray, hn, if_true]
 simp [List.extract_eq_take_drop]
theorem Bl.ldNO {H : Hp} {b : Nat} {l : List Value} (h : Bl H b l) (n : Nat) (hn : n = l.length) : Mg.ldNO H (.pointer (some ⟨b, 0, none⟩)) n = some l.toArray := by
 subst hn
 have := h.ldNA (o := 0) (n := l.length) (by omega)
 simpa [Mg.ldNO] using this
def SlR (H : Hp) (v : Value) (l : List Value) : Prop :=
 (∃ a c, v = .slice a 0 c /\ l = []) \/ ∃ b o c, l ≠ [] /\ v = .slice (some ⟨b, o, none⟩) l.length c /\ l.length <= c /\ ∃ C T z, H[b]? = some (.cells C T z) /\ o + l.length <= C.size /\ (C.toList.drop o).take l.length = l
def slB : Value -> Nat -> Prop
 | .slice (some p) n _, k => k = p.block /\ n ≠ 0
 | _, _ => False
theorem SlR.nil (H : Hp) (a : Option Addr) (c : Nat) : SlR H (.slice a 0 c) [] := .inl ⟨a, c, rfl, rfl⟩
theorem SlR.at_ {H : Hp} {b o c : Nat} {l : List Value} {C : Array Value} {T : TypeId} {z : Nat × Nat} (hc : l.length <= c) (h : H[b]? = some (.cells C T z)) (h1 : o + l.length <= C.size) (h2 : (C.toList.drop o).take l.length = l) :
  SlR H (.slice (some ⟨b, o, none⟩) l.length c) l := by
 by_cases hl : l = []
 ·subst hl; exact SlR.nil _ _ _
 ·exact .inr ⟨b, o, c, hl, rfl, hc, C, T, z, h, h1, h2⟩
theorem SlR.congr {H H' : Hp} {v : Value} {l : List Value} (h : SlR H v l) (hk : ∀ k, slB v k -> H'[k]? = H[k]?) : SlR H' v l := by
 rcases h with h | ⟨b, o, c, hl, rfl, h0, C, T, z, h1, h2, h3⟩
 ·exact .inl h
 ·exact .inr ⟨b, o, c, hl, rfl, h0, C, T, z, by rw [hk b ⟨rfl, by simpa using hl⟩]; exact h1, h2, h3⟩
theorem SlR.old {H : Hp} {v : Value} {l : List Value} (h : SlR H v l) {k : Nat} (hk : slB v k) : k < H.size := by
 rcases h with ⟨a, c, rfl, _⟩ | ⟨b, o, c, _, rfl, h0, C, T, z, h1, h2, h3⟩
 ·cases a <;> simp [slB] at hk
 ·obtain ⟨rfl, _⟩ := hk; exact (Array.getElem?_eq_some_iff.1 h1).1
theorem SlR.keep {W : Nat -> Prop} {H H' : Hp} {v : Value} {l : List Value} (h : SlR H v l) (hk : Keep W H H') (hw : ∀ k, slB v k -> ¬ W k) : SlR H' v l :=
 h.congr fun k hb => hk.at_ k (h.old hb) (hw k hb)
theorem SlR.isSl {H : Hp} {v : Value} {l : List Value} (h : SlR H v l) : Mg.isSl v := by
 rcases h with ⟨a, c, rfl, _⟩ | ⟨b, o, c, _, rfl, _⟩ <;> trivial
theorem SlR.len {H : Hp} {v : Value} {l : List Value} (h : SlR H v l) : lenV v = l.length := by
 rcases h with ⟨a, c, rfl, rfl⟩ | ⟨b, o, c, _, rfl, _⟩ <;> rfl
theorem SlR.lenS {H : Hp} {v : Value} {l : List Value} (h : SlR H v l) : Mg.lenS v = l.length := by
 rcases h with ⟨a, c, rfl, rfl⟩ | ⟨b, o, c, _, rfl, _⟩ <;> rfl
theorem srcN_0 (H : Hp) (a : Option Addr) (n c : Nat) : Mg.srcN H (.slice a n c) 0 = some #[] := by
 cases a <;> simp [Mg.srcN]
theorem SlR.srcN {H : Hp} {v : Value} {l : List Value} (h : SlR H v l) {k : Nat} (hk : k <= l.length) : Mg.srcN H v k = some (l.take k).toArray := by
 rcases h with ⟨a, c, rfl, rfl⟩ | ⟨b, o, c, _, rfl, h0, C, T, z, h1, h2, h3⟩
 ·have : k = 0 := by simpa using hk
  subst this; rw [srcN_0]; simp
 ·show (if k = 0 then some #[] else Mg.ldNA H ⟨b, o, none⟩ k) = _
  split
  ·rename_i hk0; subst hk0; simp
  ·simp only [Mg.ldNA, Option.isSome_none, Bool.false_eq_true, if_false, h1]
   rw [if_pos (by omega)]
   congr 1
   apply Array.ext'
   simp only [Array.toList_extract, List.extract_eq_take_drop, Nat.add_sub_cancel_left]
   rw [<- h3, List.take_take, Nat.min_eq_left hk]
theorem SlR.bl {H : Hp} {b : Nat} {l : List Value} (h : Bl H b l) (o n c : Nat) (hc : n <= c) (hn : o + n <= l.length) : SlR H (.slice (some ⟨b, o, none⟩) n c) ((l.drop o).take n) := by
 obtain ⟨T, h⟩ := h
 have e : ((l.drop o).take n).length = n := by simp; omega
 have := SlR.at_ (l := (l.drop o).take n) (o := o) (c := c) (by rw [e]; exact hc) h (by rw [e]; simpa using hn) (by rw [e])
 rwa [e] at this
theorem SlR.drop {H : Hp} {v : Value} {l : List Value} (h : SlR H v l) {n : Nat} (hn : n <= l.length) : SlR H (slV v 1 (some (n : Int)) none) (l.drop n) := by
 rcases h with ⟨a, c, rfl, rfl⟩ | ⟨b, o, c, hne, rfl, h0, C, T, z, h1, h2, h3⟩
 ·have : n = 0 := by simpa using hn
  subst this
  exact .inl ⟨_, c - 0, rfl, by simp⟩
 ·have hl : (l.drop n).length = l.length - n := by simp
  by_cases hc : c = n
  ·have := SlR.at_ (l := l.drop n) (o := o) (c := c - n) (by omega) h1 (by omega) (by
    rw [hl]
    conv => rhs; rw [<- h3]
    rw [List.drop_take]
    have : l.length - n = 0 := by omega
    simp [this])
   rw [hl] at this
   simp [slV, loN, hiN, hc] at this ⊢
   exact this
  ·have := SlR.at_ (l := l.drop n) (o := o + n) (c := c - n) (by omega) h1 (by omega) (by
    rw [hl]
    conv => rhs; rw [<- h3]
    rw [List.drop_take, List.drop_drop])
   rw [hl] at this
   simp [slV, loN, hiN, hc, add_off] at this ⊢
   exact this
theorem SlR.mk {H : Hp} {v : Value} {l : List Value} (h : SlR H v l) : ∃ a c, v = .slice a l.length c /\ l.length <= c := by
 rcases h with ⟨a, c, rfl, rfl⟩ | ⟨b, o, c, _, rfl, h0, _⟩
 ·exact ⟨a, c, rfl, Nat.zero_le _⟩
 ·exact ⟨_, c, rfl, h0⟩
theorem slB_take {v : Value} {z : Nat} {n k : Nat} (hn : n <= lenV v) (h : slB (slV v z none (some (n : Int))) k) : slB v k := by
 cases v with
 | slice a m c =>
  cases a with
  | none => simp [slV, slB] at h
  | some p =>
   simp only [lenV] at hn
   simp only [slV] at h
   split at h
   ·exact ⟨h.1, by have := h.2; simp only [hiN, Int.toNat_natCast] at this; omega⟩
   ·simp only [Option.map_some, slB, Addr.add] at h
    have : (p.add (loN none * z)).block = p.block := by unfold Addr.add; split <;> rfl
    exact ⟨h.1.trans this, by have := h.2; simp only [hiN, Int.toNat_natCast] at this; omega⟩
 | _ => exact h
theorem SlR.take {H : Hp} {v : Value} {l : List Value} (h : SlR H v l) {n : Nat} (hn : n <= l.length) : SlR H (slV v 1 none (some (n : Int))) (l.take n) := by
 rcases h with ⟨a, c, rfl, rfl⟩ | ⟨b, o, c, hne, rfl, h0, C, T, z, h1, h2, h3⟩
 ·have : n = 0 := by simpa using hn
  subst this
  exact .inl ⟨_, c - 0, rfl, by simp⟩
 ·have hl : (l.take n).length = n := by simp; omega
  have := SlR.at_ (l := l.take n) (o := o) (c := c) (by omega) h1 (by omega) (by
   rw [hl]
   conv => rhs; rw [<- h3]
   rw [List.take_take, Nat.min_eq_left hn])
  rw [hl] at this
  simp [slV, loN, hiN, add_off] at this ⊢
  exact this
theorem SlR.cap {H : Hp} {v : Value} {l : List Value} (h : SlR H v l) : l.length <= capV v := by
 rcases h with ⟨a, c, rfl, rfl⟩ | ⟨b, o, c, _, rfl, h0, _⟩
 ·exact Nat.zero_le _
 ·exact h0
theorem putH_nil (H : Hp) (a : Option Addr) (off : Nat) (xs : Array Value) (h : xs.size = 0) : putH H a off xs = H := by
 cases a <;> simp [putH, h]
theorem Bl.put {H : Hp} {b : Nat} {l : List Value} (h : Bl H b l) (o off : Nat) (xs : Array Value) : Bl (putH H (some ⟨b, o, none⟩) off xs) b (wrL l (o + off) xs.toList) := by
 unfold putH
 simp only
 split
 ·rename_i h0
  have : xs.toList = [] := by apply List.eq_nil_of_length_eq_zero; simpa using h0
  rw [this, wrL_nil]; exact h
 ·rw [add_off _ rfl]; exact h.stNA _ _
theorem getElem?_putH_ne {H : Hp} {p : Addr} {off : Nat} {xs : Array Value} {b : Nat} (hb : b ≠ p.block) (hs : p.spot = none) : (putH H (some p) off xs)[b]? = H[b]? := by
 unfold putH
 simp only
 split
 ·rfl
 ·rw [add_off _ hs]; exact getElem?_stNA_ne hb
theorem size_putH (H : Hp) (a : Option Addr) (off : Nat) (xs : Array Value) : (putH H a off xs).size = H.size := by
 unfold putH
 split
 ·rfl
 ·split
  ·rfl
  ·exact size_stNA _ _ _
theorem Keep.put {W : Nat -> Prop} {A B : Hp} (h : Keep W A B) {p : Addr} (hs : p.spot = none) (off : Nat) (xs : Array Value) (hp : W p.block \/ A.size <= p.block) : Keep W A (putH B (some p) off xs) := by
 refine ⟨by rw [size_putH]; exact h.size, fun k hk hw => ?_⟩
 rw [getElem?_putH_ne (by rintro rfl; rcases hp with hp | hp; exact hw hp; omega) hs]
 exact h.at_ k hk hw
theorem Bl.okPut {H : Hp} {b : Nat} {l : List Value} (h : Bl H b l) (o off : Nat) (xs : Array Value) (h1 : all1 xs) (hn : o + off + xs.size <= l.length) : okPut H (some ⟨b, o, none⟩) off xs := by
 refine ⟨h1, .inr ?_⟩
 rw [add_off _ rfl]; exact h.okNA hn
def w8 (l : List UInt8) : List Value := l.map fun x => .int .u8 x.toNat
theorem w8_len (l : List UInt8) : (w8 l).length = l.length := by simp [w8]
theorem w8_get (l : List UInt8) (i : Nat) (h : i < l.length) : (w8 l)[i]? = some (.int .u8 (l.getD i 0).toNat) := by
 simp [w8, h]
theorem w8_app (a b : List UInt8) : w8 (a ++ b) = w8 a ++ w8 b := by simp [w8]
theorem w8_all1 (l : List UInt8) : all1 (w8 l).toArray := by
 intro x hx
 simp [w8] at hx
 obtain ⟨y, _, rfl⟩ := hx; rfl
theorem kont_new {P : Program} {d : D} {r : List O} {e : Env} {f : Fr} {Q : Fr -> Hp -> Prop} {H : Hp} {z : Array Value} {T : TypeId}
  (h : ∀ H' b, b = H.size -> H'.size = H.size + 1 -> Bl H' b z.toList -> Keep (fun _ => False) H H' -> ops P r (d.env (.pointer (some ⟨b, 0, none⟩)) e) (d.fr (.pointer (some ⟨b, 0, none⟩)) f) H' Q) :
  kont P d r e f Q (.pointer (some ⟨H.size, 0, none⟩)) (H.push (.cells z T)) :=
 h _ _ rfl (by simp) (Bl.new' _ _ _) ((Keep.refl _ _).push _)
theorem rep_one (v : Value) (n : Nat) : (rep #[v] n).toList = List.replicate n v := by
 unfold rep
 simp [Nat.mod_one, List.map_const']
attribute [go_sem] List.forall_mem_cons List.flatMap_cons List.flatMap_nil List.size_toArray List.length_cons List.length_nil List.not_mem_nil false_imp_iff implies_true List.append_nil List.cons_append List.nil_append
theorem kont_news {P : Program} {d : D} {r : List O} {e : Env} {f : Fr} {Q : Fr -> Hp -> Prop} {H : Hp} {z : Array Value} {T : TypeId} {m c : Nat}
  (h : ∀ H' b, b = H.size -> H'.size = H.size + 1 -> Bl H' b z.toList -> Keep (fun _ => False) H H' -> ops P r (d.env (.slice (some ⟨b, 0, none⟩) m c) e) (d.fr (.slice (some ⟨b, 0, none⟩) m c) f) H' Q) :
  kont P d r e f Q (.slice (some ⟨H.size, 0, none⟩) m c) (H.push (.cells z T)) := h _ _ rfl (by simp) (Bl.new' _ _ _) ((Keep.refl _ _).push _)
theorem Bl.srcN {H : Hp} {b : Nat} {l : List Value} (h : Bl H b l) (o n c k : Nat) (hk : o + k <= l.length) : Mg.srcN H (.slice (some ⟨b, o, none⟩) n c) k = some ((l.drop o).take k).toArray := by
 show (if k = 0 then some #[] else Mg.ldNA H ⟨b, o, none⟩ k) = _
 split
 ·rename_i h0; subst h0; simp
 ·exact h.ldNA hk
theorem Bl.bytesIn {H : Hp} {b : Nat} {l : List Value} (h : Bl H b l) (o n c : Nat) (hk : o + n <= l.length) : Mg.bytesIn H (.slice (some ⟨b, o, none⟩) n c) = some ((l.drop o).take n).toArray := by
 show (if n = 0 then some #[] else Mg.ldNA H ⟨b, o, none⟩ n) = _
 split
 ·rename_i h0; subst h0; simp
 ·exact h.ldNA hk
theorem SlR.bytesIn {H : Hp} {v : Value} {l : List Value} (h : SlR H v l) : Mg.bytesIn H v = some l.toArray := by
 rcases h with ⟨a, c, rfl, rfl⟩ | ⟨b, o, c, hl, rfl, h0, C, T, z, h1, h2, h3⟩
 ·cases a <;> rfl
 ·show (if l.length = 0 then some #[] else Mg.ldNA H ⟨b, o, none⟩ l.length) = _
  rw [if_neg (by simpa using hl)]
  simp only [Mg.ldNA, Option.isSome_none, Bool.false_eq_true, if_false, h1]
  rw [if_pos h2]
  congr 1
  apply Array.ext'
  simp only [Array.toList_extract, List.extract_eq_take_drop, Nat.add_sub_cancel_left]
  exact h3
theorem toBA_w8 (l : List UInt8) : toBA (w8 l).toArray = ⟨l.toArray⟩ := by
 have : (fun x : UInt8 => UInt8.ofNat (Value.int .u8 (x.toNat : Int)).i.toNat) = id := by funext x; simp [Value.i]
 simp only [toBA, w8, List.map_toArray, List.map_map, Function.comp_def]
 rw [this]; simp
theorem okB2s_w8 {H : Hp} {v : Value} {l : List UInt8} (h : bytesIn H v = some (w8 l).toArray) : okB2s H v := by
 refine ⟨_, h, fun x hx => ?_⟩
 simp [w8] at hx
 obtain ⟨y, _, rfl⟩ := hx; rfl
attribute [go_sem] true_imp_iff Bool.not_true Bool.not_false
@[go_sem] theorem b_beq_t (b : Bool) : (b == true) = b := by cases b <;> rfl
@[go_sem] theorem f_bne (b : Bool) : (false != b) = b := by cases b <;> rfl
@[go_sem] theorem t_bne (b : Bool) : (true != b) = !b := by cases b <;> rfl
@[go_sem] theorem b_beq_f (b : Bool) : (b == false) = !b := by cases b <;> rfl
@[go_sem] theorem b_bne_t (b : Bool) : (b != true) = !b := by cases b <;> rfl
@[go_sem] theorem b_bne_f (b : Bool) : (b != false) = b := by cases b <;> rfl
@[go_sem] theorem sizeB_push (H : Hp) (z : Array Value) (T : TypeId) (m : Nat × Nat) : sizeB (H.push (.cells z T m)) H.size = some z.size := by simp [sizeB]
theorem mkH_new (H : Hp) (z : Array Value) (T : TypeId) (n : Nat) : Keep (fun _ => False) H (mkH (H.push (.cells z T)) H.size n) /\ (mkH (H.push (.cells z T)) H.size n).size = H.size + 1 ∧
  ∀ c, z.size <= c -> SlR (mkH (H.push (.cells z T)) H.size n) (.slice (some ⟨H.size, 0, none⟩) z.size c) z.toList := by
 have hs : (mkH (H.push (.cells z T)) H.size n).size = H.size + 1 := by simp [mkH]
 refine ⟨⟨by omega, fun k hk _ => ?_⟩, hs, fun c hc => ?_⟩
 ·unfold mkH
  rw [Array.getElem?_modify, if_neg (by omega)]
  exact getElem?_push_lt' hk
 ·have hm : (mkH (H.push (.cells z T)) H.size n)[H.size]? = some (.cells z T (n, n + 1)) := by
   unfold mkH
   rw [Array.getElem?_modify, if_pos rfl]
   simp
  have := SlR.at_ (l := z.toList) (o := 0) (c := c) (by simpa using hc) hm (by simp) (by rw [List.drop_zero, List.take_of_length_le (Nat.le_refl _)])
  simpa using this
theorem Keep.none {W : Nat -> Prop} {A B : Hp} (h : Keep W A B) (hw : ∀ k, k < A.size -> ¬ W k) : Keep (fun _ => False) A B :=
 h.mono (fun k hk hW => hw k hk hW)
theorem Keep.any {W : Nat -> Prop} {A B : Hp} (h : Keep (fun _ => False) A B) : Keep W A B := h.mono (fun _ _ h => h.elim)
theorem stNH_ptr (H : Hp) (a : Addr) (xs : List Value) : stNH H (.pointer (some a)) xs = stNA H a xs := rfl
theorem okN_ptr (H : Hp) (a : Addr) (n : Nat) : okN H (.pointer (some a)) n = okNA H a n := rfl
theorem ldNO_ptr (H : Hp) (a : Addr) (n : Nat) : ldNO H (.pointer (some a)) n = ldNA H a n := rfl
theorem cells_agg (C : Array Value) : (Value.agg C).cells = C := rfl
@[go_sem] theorem arr1_0 (a : Value) : (#[a] : Array Value)[0]? = some a := rfl
@[go_sem] theorem arr2_0 (a b : Value) : (#[a, b] : Array Value)[0]? = some a := rfl
@[go_sem] theorem arr2_1 (a b : Value) : (#[a, b] : Array Value)[1]? = some b := rfl
@[go_sem] theorem arr3_0 (a b c : Value) : (#[a, b, c] : Array Value)[0]? = some a := rfl
@[go_sem] theorem arr3_1 (a b c : Value) : (#[a, b, c] : Array Value)[1]? = some b := rfl
@[go_sem] theorem arr3_2 (a b c : Value) : (#[a, b, c] : Array Value)[2]? = some c := rfl
@[go_sem] theorem arr4_0 (a b c d : Value) : (#[a, b, c, d] : Array Value)[0]? = some a := rfl
@[go_sem] theorem arr4_1 (a b c d : Value) : (#[a, b, c, d] : Array Value)[1]? = some b := rfl
@[go_sem] theorem arr4_2 (a b c d : Value) : (#[a, b, c, d] : Array Value)[2]? = some c := rfl
@[go_sem] theorem arr4_3 (a b c d : Value) : (#[a, b, c, d] : Array Value)[3]? = some d := rfl
@[go_sem] theorem arr5_0 (a b c d e : Value) : (#[a, b, c, d, e] : Array Value)[0]? = some a := rfl
@[go_sem] theorem arr5_1 (a b c d e : Value) : (#[a, b, c, d, e] : Array Value)[1]? = some b := rfl
@[go_sem] theorem arr5_2 (a b c d e : Value) : (#[a, b, c, d, e] : Array Value)[2]? = some c := rfl
@[go_sem] theorem arr5_3 (a b c d e : Value) : (#[a, b, c, d, e] : Array Value)[3]? = some d := rfl
@[go_sem] theorem arr5_4 (a b c d e : Value) : (#[a, b, c, d, e] : Array Value)[4]? = some e := rfl
@[go_sem] theorem lst1_0 (a : Value) : [a][0]? = some a := rfl
@[go_sem] theorem lst2_0 (a b : Value) : [a, b][0]? = some a := rfl
@[go_sem] theorem lst2_1 (a b : Value) : [a, b][1]? = some b := rfl
@[go_sem] theorem lst3_0 (a b c : Value) : [a, b, c][0]? = some a := rfl
@[go_sem] theorem lst3_1 (a b c : Value) : [a, b, c][1]? = some b := rfl
@[go_sem] theorem lst3_2 (a b c : Value) : [a, b, c][2]? = some c := rfl
@[go_sem] theorem lst4_0 (a b c d : Value) : [a, b, c, d][0]? = some a := rfl
@[go_sem] theorem lst4_1 (a b c d : Value) : [a, b, c, d][1]? = some b := rfl
@[go_sem] theorem lst4_2 (a b c d : Value) : [a, b, c, d][2]? = some c := rfl
@[go_sem] theorem lst4_3 (a b c d : Value) : [a, b, c, d][3]? = some d := rfl
@[go_sem] theorem lst5_0 (a b c d e : Value) : [a, b, c, d, e][0]? = some a := rfl
@[go_sem] theorem lst5_1 (a b c d e : Value) : [a, b, c, d, e][1]? = some b := rfl
@[go_sem] theorem lst5_2 (a b c d e : Value) : [a, b, c, d, e][2]? = some c := rfl
@[go_sem] theorem lst5_3 (a b c d e : Value) : [a, b, c, d, e][3]? = some d := rfl
@[go_sem] theorem lst5_4 (a b c d e : Value) : [a, b, c, d, e][4]? = some e := rfl
@[go_sem] theorem lst6_0 (a b c d e f : Value) : [a, b, c, d, e, f][0]? = some a := rfl
@[go_sem] theorem lst6_1 (a b c d e f : Value) : [a, b, c, d, e, f][1]? = some b := rfl
@[go_sem] theorem lst6_2 (a b c d e f : Value) : [a, b, c, d, e, f][2]? = some c := rfl
@[go_sem] theorem lst6_3 (a b c d e f : Value) : [a, b, c, d, e, f][3]? = some d := rfl
@[go_sem] theorem lst6_4 (a b c d e f : Value) : [a, b, c, d, e, f][4]? = some e := rfl
@[go_sem] theorem lst6_5 (a b c d e f : Value) : [a, b, c, d, e, f][5]? = some f := rfl
@[go_sem] theorem lst7_0 (a b c d e f g : Value) : [a, b, c, d, e, f, g][0]? = some a := rfl
@[go_sem] theorem lst7_1 (a b c d e f g : Value) : [a, b, c, d, e, f, g][1]? = some b := rfl
@[go_sem] theorem lst7_2 (a b c d e f g : Value) : [a, b, c, d, e, f, g][2]? = some c := rfl
@[go_sem] theorem lst7_3 (a b c d e f g : Value) : [a, b, c, d, e, f, g][3]? = some d := rfl
@[go_sem] theorem lst7_4 (a b c d e f g : Value) : [a, b, c, d, e, f, g][4]? = some e := rfl
@[go_sem] theorem lst7_5 (a b c d e f g : Value) : [a, b, c, d, e, f, g][5]? = some f := rfl
@[go_sem] theorem lst7_6 (a b c d e f g : Value) : [a, b, c, d, e, f, g][6]? = some g := rfl
end Go.Mg
namespace Go.Mg
open Go Go.RowKit
def OwS (H : Hp) (v : Value) (l : List Value) : Prop :=
 (v = .slice none 0 0 /\ l = []) \/ ∃ b c L, v = .slice (some ⟨b, 0, none⟩) l.length c /\ l.length <= c /\ c <= L.length /\ Bl H b L /\ L.take l.length = l
def ownB : Value -> Nat -> Prop
 | .slice (some p) _ _, k => k = p.block
 | _, _ => False
theorem OwS.sl {H : Hp} {v : Value} {l : List Value} (h : OwS H v l) : SlR H v l := by
 rcases h with ⟨rfl, rfl⟩ | ⟨b, c, L, rfl, h1, h2, hb, h3⟩
 ·exact SlR.nil _ _ _
 ·have := SlR.bl hb 0 l.length c h1 (by omega)
  rw [List.drop_zero, h3] at this
  exact this
theorem OwS.slB {H : Hp} {v : Value} {l : List Value} (h : OwS H v l) {k : Nat} (hk : slB v k) : ownB v k := by
 rcases h with ⟨rfl, rfl⟩ | ⟨b, c, L, rfl, h1, h2, hb, h3⟩
 ·exact hk.elim
 ·exact hk.1
theorem OwS.old {H : Hp} {v : Value} {l : List Value} (h : OwS H v l) {k : Nat} (hk : ownB v k) : k < H.size := by
 rcases h with ⟨rfl, rfl⟩ | ⟨b, c, L, rfl, h1, h2, hb, h3⟩
 ·exact hk.elim
 ·cases hk; exact hb.lt
theorem OwS.keep {W : Nat -> Prop} {H H' : Hp} {v : Value} {l : List Value} (h : OwS H v l) (hk : Keep W H H') (hw : ∀ k, ownB v k -> ¬ W k) : OwS H' v l := by
 rcases h with h | ⟨b, c, L, rfl, h1, h2, hb, h3⟩
 ·exact .inl h
 ·exact .inr ⟨b, c, L, rfl, h1, h2, hk.bl hb (hw b rfl), h3⟩
theorem OwS.nil (H : Hp) : OwS H (.slice none 0 0) [] := .inl ⟨rfl, rfl⟩
theorem OwS.new {H : Hp} {b n c : Nat} {l : List Value} (h : Bl H b l) (hn : n = l.length) (hc : n = c) : OwS H (.slice (some ⟨b, 0, none⟩) n c) l := by
 subst hc; subst hn
 exact .inr ⟨b, _, l, rfl, Nat.le_refl _, Nat.le_refl _, h, List.take_length⟩
theorem OwS.bl {H : Hp} {b n c : Nat} {l L : List Value} (h : Bl H b L) (hn : n = l.length) (h1 : n <= c) (h2 : c <= L.length) (h3 : L.take n = l) : OwS H (.slice (some ⟨b, 0, none⟩) n c) l := by
 subst hn; exact .inr ⟨b, c, L, rfl, h1, h2, h, h3⟩
theorem take_pre (l m r : List Value) : List.take (l.length + m.length) (l ++ m ++ r) = l ++ m := by
 rw [<- List.length_append]; exact List.take_left' rfl
theorem app_own {str : Bool} {T : TypeId} {bytes : Nat} {z : Array Value} {s x : Value} {H : Hp} {K : Value -> Hp -> Prop} {l m : List Value} (hs : OwS H s l) (hx0 : srcOk str x) (hxl : lenS x = m.length) (hx : srcN H x m.length = some m.toArray)
  (hm : all1 m.toArray) (hz : z.size = 1) (h1 : l.length + m.length <= maxLen) (h2 : (l.length + m.length) * bytes <= 140737488355328)
  (hK : ∀ v' H', OwS H' v' (l ++ m) -> Keep (ownB s) H H' -> (∀ k, ownB v' k -> ownB s k \/ H.size <= k) -> K v' H') : AppC str T 1 bytes z s x H K := by
 have hsl := hs.sl
 have hlen := hsl.len
 refine ⟨⟨hsl.isSl, hx0, by rw [hlen, hxl]; exact h1, by rw [hlen, hxl]; exact h2⟩, m.toArray, by rw [Nat.mul_one, hxl]; exact hx, ?_⟩
 rw [hlen, hxl, Nat.mul_one]
 rcases hs with ⟨rfl, rfl⟩ | ⟨b, c, L, rfl, g1, g2, hb, g3⟩
 ·refine ⟨fun hle => ?_, fun _ => ⟨#[], rfl, fun c hc => ?_⟩⟩
  ·have : m = [] := by
    have : ([] : List Value).length + m.length <= 0 := hle
    apply List.eq_nil_of_length_eq_zero; simpa using this
   subst this
   exact ⟨trivial, hK _ _ (OwS.nil _) (Keep.refl _ _) (fun k h => .inl h)⟩
  ·have hB := Bl.new' H (#[] ++ m.toArray ++ rep z ((c - (([] : List Value).length + m.length)) * z.size)) T
   refine hK _ _ (OwS.bl hB (by simp) (by simpa using hc) ?_ ?_) ((Keep.refl _ _).push _) (fun k h => .inr (Nat.le_of_eq h.symm))
   ·simp [rep, hz] at hc ⊢; omega
   ·simp
 ·refine ⟨fun hle => ?_, fun hlt => ⟨_, hsl.srcN (Nat.le_refl _), fun c' hc => ?_⟩⟩
  ·have hle : l.length + m.length <= c := hle
   refine ⟨hb.okPut _ _ _ hm (by simp; omega), ?_⟩
   have hB := hb.put 0 l.length m.toArray
   refine hK _ _ (OwS.bl hB (by simp) hle ?_ ?_) ((Keep.refl _ _).put rfl _ _ (.inl rfl)) (fun k h => .inl h)
   ·rw [wrL_len (by simp; omega)]; exact g2
   ·unfold wrL
    rw [Nat.zero_add, g3]
    exact take_pre _ _ _
  ·rw [List.take_length]
   have hB := Bl.new' H (l.toArray ++ m.toArray ++ rep z ((c' - (l.length + m.length)) * z.size)) T
   refine hK _ _ (OwS.bl hB (by simp) hc ?_ ?_) ((Keep.refl _ _).push _) (fun k h => .inr (Nat.le_of_eq h.symm))
   ·simp [rep, hz]; omega
   ·rw [Array.toList_append, Array.toList_append]; exact take_pre _ _ _
theorem app_sl {T : TypeId} {bytes : Nat} {z : Array Value} {s x : Value} {H : Hp} {K : Value -> Hp -> Prop} {l m : List Value} (hs : OwS H s l) (hx : SlR H x m)
  (hm : all1 m.toArray) (hz : z.size = 1) (h1 : l.length + m.length <= maxLen) (h2 : (l.length + m.length) * bytes <= 140737488355328)
  (hK : ∀ v' H', OwS H' v' (l ++ m) -> Keep (ownB s) H H' -> (∀ k, ownB v' k -> ownB s k \/ H.size <= k) -> K v' H') : AppC false T 1 bytes z s x H K :=
 app_own hs hx.isSl hx.lenS (by have := hx.srcN (Nat.le_refl m.length); rwa [List.take_length] at this) hm hz h1 h2 hK
end Go.Mg
namespace Go.Mg
theorem Keep.at_old {n : Nat} {H0 H H' : Hp} (h : Keep (fun _ => False) H0 H) (k : Keep (fun k => n <= k) H H') (hn : H0.size <= n) : Keep (fun _ => False) H0 H' :=
 h.trans' k (fun i hi e => by omega)
theorem Keep.weak {n : Nat} {H H' : Hp} (h : Keep (fun _ => False) H H') : Keep (fun k => n <= k) H H' := h.mono fun _ _ h => h.elim
end Go.Mg
namespace Go.Mg
theorem OwS.some {H : Hp} {v : Value} {l : List Value} (h : OwS H v l) (hl : l ≠ []) : ∃ b c L, v = .slice (some ⟨b, 0, none⟩) l.length c /\ l.length <= c /\ c <= L.length /\ Bl H b L /\ L.take l.length = l /\ ∀ i, i < l.length -> L[i]? = l[i]? := by
 rcases h with ⟨_, rfl⟩ | ⟨b, c, L, h1, h2, h3, h4, h5⟩
 ·exact (hl rfl).elim
 ·refine ⟨b, c, L, h1, h2, h3, h4, h5, fun i hi => ?_⟩
  conv => rhs; rw [<- h5]
  rw [List.getElem?_take, if_pos hi]
end Go.Mg
namespace Go.Mg
theorem app_slN {T : TypeId} {bytes : Nat} {z : Array Value} {s x : Value} {H : Hp} {K : Value -> Hp -> Prop} {l m : List Value} (n : Nat) (hs : OwS H s l) (hn : ∀ k, ownB s k -> n <= k) (hH : n <= H.size) (hx : SlR H x m)
  (hm : all1 m.toArray) (hz : z.size = 1) (hb : bytes <= 64) (h1 : l.length + m.length <= 1000000000)
  (hK : ∀ v' H', OwS H' v' (l ++ m) -> (∀ k, ownB v' k -> n <= k) -> Keep (fun k => n <= k) H H' -> K v' H') : AppC false T 1 bytes z s x H K :=
 app_sl hs hx hm hz (by unfold maxLen; omega) (Nat.le_trans (Nat.mul_le_mul h1 hb) (by omega)) fun v' H' h1 h2 h3 => hK v' H' h1 (fun k hk => by rcases h3 k hk with h | h; exact hn k h; omega) (h2.mono fun k _ hk => hn k hk)
end Go.Mg
namespace Go.Mg
theorem SlR.cells {H : Hp} {v : Value} {l : List Value} (h : SlR H v l) (hl : l ≠ []) : ∃ b o c, v = .slice (Option.some ⟨b, o, none⟩) l.length c /\ l.length <= c /\ ∀ i, i < l.length -> Mg.cell H ⟨b, o + i, none⟩ = l[i]? := by
 rcases h with ⟨_, _, _, rfl⟩ | ⟨b, o, c, _, h1, h2, C, T, z, h3, h4, h5⟩
 ·exact (hl rfl).elim
 ·refine ⟨b, o, c, h1, h2, fun i hi => ?_⟩
  conv => rhs; rw [<- h5]
  rw [List.getElem?_take, if_pos hi, List.getElem?_drop]
  simp [Mg.cell, h3]
theorem SlR.cell_at {H : Hp} {b o n c : Nat} {l : List Value} (h : SlR H (.slice (Option.some ⟨b, o, none⟩) n c) l) {i : Nat} (hi : i < l.length) : Mg.cell H ⟨b, o + i, none⟩ = l[i]? := by
 obtain ⟨b', o', c', e, -, hc⟩ := h.cells (by intro e; rw [e] at hi; simp at hi)
 cases e
 exact hc i hi
theorem choose_list {α : Type} (p : Nat -> α -> Prop) (d : α) : ∀ n, (∀ i, i < n -> ∃ x, p i x) -> ∃ xs : List α, xs.length = n /\ ∀ i, i < n -> p i (xs.getD i d)
 | 0, _ => ⟨[], rfl, fun i h => by omega⟩
 | n + 1, h => by
  obtain ⟨xs, h1, h2⟩ := choose_list p d n (fun i hi => h i (by omega))
  obtain ⟨x, hx⟩ := h n (by omega)
  refine ⟨xs ++ [x], by simp [h1], fun i hi => ?_⟩
  by_cases e : i < n
  ·rw [List.getD_eq_getElem?_getD, List.getElem?_append_left (by omega), <- List.getD_eq_getElem?_getD]; exact h2 i e
  ·have : i = n := by omega
   subst this
   rw [List.getD_eq_getElem?_getD, List.getElem?_append_right (by omega), h1]
   simpa using hx
end Go.Mg
namespace Go.Mg
end Go.Mg
namespace Go.Mg
theorem OwS.shape {H : Hp} {v : Value} {l : List Value} (h : OwS H v l) : ∃ a n c, v = .slice a n c := by
 rcases h with ⟨rfl, _⟩ | ⟨b, c, L, rfl, _⟩ <;> exact ⟨_, _, _, rfl⟩
end Go.Mg
namespace Go.Mg
def iL (l : List Int) : List Value := l.map (Value.int .i64)
theorem iL_len (l : List Int) : (iL l).length = l.length := by simp [iL]
theorem iL_get (l : List Int) (i : Nat) (h : i < l.length) : (iL l)[i]? = some (.int .i64 (l.getD i 0)) := by simp [iL, h]
theorem iL_app (a b : List Int) : iL (a ++ b) = iL a ++ iL b := by simp [iL]
theorem iL_set (l : List Int) (i : Nat) (x : Int) : (iL l).set i (.int .i64 x) = iL (l.set i x) := by simp [iL, List.map_set]
theorem iL_all1 (l : List Int) : all1 (iL l).toArray := by
 intro x hx
 simp [iL] at hx
 obtain ⟨y, _, rfl⟩ := hx; rfl
theorem iL_rep (n : Nat) (x : Int) : List.replicate n (Value.int .i64 x) = iL (List.replicate n x) := by simp [iL]
end Go.Mg
namespace Go.Mg
open Go Go.RowKit
set_option linter.all false
section
variable {α : Type} {enc : α -> List Value} {k : Nat}
theorem fl_len (hk : ∀ x, (enc x).length = k) (l : List α) : (l.flatMap enc).length = l.length * k := by
 induction l with
 | nil => simp
 | cons a l ih => simp [ih, hk, Nat.succ_mul, Nat.add_comm]
theorem fl_at (hk : ∀ x, (enc x).length = k) (l : List α) (i : Nat) (x : α) (h : l[i]? = some x) : ((l.flatMap enc).drop (i * k)).take k = enc x := by
 induction l generalizing i with
 | nil => simp at h
 | cons a l ih =>
  cases i with
  | zero =>
   simp at h; subst h
   rw [Nat.zero_mul, List.drop_zero, List.flatMap_cons]
   exact List.take_left' (hk _)
  | succ i =>
   simp at h
   rw [List.flatMap_cons, Nat.succ_mul, Nat.add_comm, <- List.drop_drop, List.drop_left' (hk _)]
   exact ih i h
theorem fl_take (hk : ∀ x, (enc x).length = k) (l : List α) (i : Nat) (h : i <= l.length) : (l.flatMap enc).take (i * k) = (l.take i).flatMap enc := by
 induction l generalizing i with
 | nil => simp
 | cons a l ih =>
  cases i with
  | zero => simp
  | succ i =>
   rw [List.flatMap_cons, List.take_succ_cons, List.flatMap_cons, Nat.succ_mul, Nat.add_comm, List.take_append, hk, List.take_of_length_le (by rw [hk]; omega), Nat.add_sub_cancel_left, ih i (by simpa using h)]
theorem fl_all1 (h1 : ∀ x, ∀ v ∈ enc x, v.oneCell' = true) (l : List α) : all1 (l.flatMap enc).toArray := by
 intro x hx
 simp only [List.mem_flatMap] at hx
 obtain ⟨a, _, hx⟩ := hx
 exact h1 a x hx
def SlE (enc : α -> List Value) (k : Nat) (H : Hp) (v : Value) (l : List α) : Prop :=
 (∃ a c, v = .slice a 0 c /\ l = []) \/ ∃ b o c, l ≠ [] /\ v = .slice (some ⟨b, o, none⟩) l.length c /\ l.length <= c /\ ∃ C T z, H[b]? = some (.cells C T z) /\ o + l.length * k <= C.size /\ (C.toList.drop o).take (l.length * k) = l.flatMap enc
theorem SlE.nil (H : Hp) (a : Option Addr) (c : Nat) : SlE enc k H (.slice a 0 c) [] := .inl ⟨a, c, rfl, rfl⟩
theorem SlE.at_ {H : Hp} {b o c : Nat} {l : List α} {C : Array Value} {T : TypeId} {z : Nat × Nat} (hc : l.length <= c) (h : H[b]? = some (.cells C T z)) (h1 : o + l.length * k <= C.size) (h2 : (C.toList.drop o).take (l.length * k) = l.flatMap enc) :
  SlE enc k H (.slice (some ⟨b, o, none⟩) l.length c) l := by
 by_cases hl : l = []
 ·subst hl; exact SlE.nil _ _ _
 ·exact .inr ⟨b, o, c, hl, rfl, hc, C, T, z, h, h1, h2⟩
theorem SlE.congr {H H' : Hp} {v : Value} {l : List α} (h : SlE enc k H v l) (hk : ∀ q, slB v q -> H'[q]? = H[q]?) : SlE enc k H' v l := by
 rcases h with h | ⟨b, o, c, hl, rfl, h0, C, T, z, h1, h2, h3⟩
 ·exact .inl h
 ·exact .inr ⟨b, o, c, hl, rfl, h0, C, T, z, by rw [hk b ⟨rfl, by simpa using hl⟩]; exact h1, h2, h3⟩
theorem SlE.old {H : Hp} {v : Value} {l : List α} (h : SlE enc k H v l) {q : Nat} (hq : slB v q) : q < H.size := by
 rcases h with ⟨a, c, rfl, _⟩ | ⟨b, o, c, _, rfl, h0, C, T, z, h1, h2, h3⟩
 ·cases a <;> simp [slB] at hq
 ·obtain ⟨rfl, _⟩ := hq; exact (Array.getElem?_eq_some_iff.1 h1).1
theorem SlE.keep {W : Nat -> Prop} {H H' : Hp} {v : Value} {l : List α} (h : SlE enc k H v l) (hk : Keep W H H') (hw : ∀ q, slB v q -> ¬ W q) : SlE enc k H' v l :=
 h.congr fun q hb => hk.at_ q (h.old hb) (hw q hb)
theorem SlE.keep0 {H H' : Hp} {v : Value} {l : List α} (h : SlE enc k H v l) (hk : Keep (fun _ => False) H H') : SlE enc k H' v l := h.keep hk fun _ _ h => h
theorem SlE.isSl {H : Hp} {v : Value} {l : List α} (h : SlE enc k H v l) : Mg.isSl v := by
 rcases h with ⟨a, c, rfl, _⟩ | ⟨b, o, c, _, rfl, _⟩ <;> trivial
theorem SlE.len {H : Hp} {v : Value} {l : List α} (h : SlE enc k H v l) : lenV v = l.length := by
 rcases h with ⟨a, c, rfl, rfl⟩ | ⟨b, o, c, _, rfl, _⟩ <;> rfl
theorem SlE.lenS {H : Hp} {v : Value} {l : List α} (h : SlE enc k H v l) : Mg.lenS v = l.length := by
 rcases h with ⟨a, c, rfl, rfl⟩ | ⟨b, o, c, _, rfl, _⟩ <;> rfl
theorem SlE.mk {H : Hp} {v : Value} {l : List α} (h : SlE enc k H v l) : ∃ a c, v = .slice a l.length c /\ l.length <= c := by
 rcases h with ⟨a, c, rfl, rfl⟩ | ⟨b, o, c, _, rfl, h0, _⟩
 ·exact ⟨a, c, rfl, Nat.zero_le _⟩
 ·exact ⟨_, c, rfl, h0⟩
theorem SlE.srcN {H : Hp} {v : Value} {l : List α} (h : SlE enc k H v l) : Mg.srcN H v (l.length * k) = some (l.flatMap enc).toArray := by
 rcases h with ⟨a, c, rfl, rfl⟩ | ⟨b, o, c, _, rfl, h0, C, T, z, h1, h2, h3⟩
 ·rw [List.length_nil, Nat.zero_mul, srcN_0]; rfl
 ·show (if l.length * k = 0 then some #[] else Mg.ldNA H ⟨b, o, none⟩ (l.length * k)) = _
  split
  ·rename_i hk0; rw [<- h3, hk0]; simp
  ·simp only [Mg.ldNA, Option.isSome_none, Bool.false_eq_true, if_false, h1]
   rw [if_pos (by omega)]
   congr 1
   apply Array.ext'
   simp only [Array.toList_extract, List.extract_eq_take_drop, Nat.add_sub_cancel_left]
   exact h3
theorem SlE.bl {H : Hp} {b : Nat} {L : List Value} (h : Bl H b L) {l : List α} (hl : L.take (l.length * k) = l.flatMap enc) (hL : l.length * k <= L.length) {c : Nat} (hc : l.length <= c) : SlE enc k H (.slice (some ⟨b, 0, none⟩) l.length c) l := by
 obtain ⟨T, h⟩ := h
 exact SlE.at_ hc h (by simpa using hL) (by simpa using hl)
theorem SlE.elem {H : Hp} {v : Value} {l : List α} (h : SlE enc k H v l) (hk : ∀ x, (enc x).length = k) {i : Nat} (hi : i < l.length) : ∃ b o c, v = .slice (some ⟨b, o, none⟩) l.length c /\ slB v b /\ Mg.ldNA H ⟨b, o + i * k, none⟩ k = some (enc l[i]).toArray := by
 rcases h with ⟨a, c, _, rfl⟩ | ⟨b, o, c, hl, rfl, h0, C, T, z, h1, h2, h3⟩
 ·simp at hi
 ·refine ⟨b, o, c, rfl, ⟨rfl, by simpa using hl⟩, ?_⟩
  have hle : i * k + k <= l.length * k := by rw [<- Nat.succ_mul]; exact Nat.mul_le_mul_right k hi
  unfold Mg.ldNA
  simp only [h1, Option.isSome_none, Bool.false_eq_true, if_false]
  rw [if_pos (by omega)]
  congr 1
  apply Array.ext'
  simp only [Array.toList_extract, List.extract_eq_take_drop, Nat.add_sub_cancel_left]
  rw [<- fl_at hk l i l[i] (List.getElem?_eq_getElem hi), <- h3, List.drop_take, List.take_take, List.drop_drop, Nat.min_eq_left (by omega)]
theorem SlE.cell {H : Hp} {v : Value} {l : List α} (h : SlE enc k H v l) (hk : ∀ x, (enc x).length = k) {i : Nat} (hi : i < l.length) {j : Nat} (hj : j < k) : ∃ b o c, v = .slice (some ⟨b, o, none⟩) l.length c /\ slB v b /\ Mg.cell H ⟨b, o + i * k + j, none⟩ = (enc l[i])[j]? := by
 rcases h with ⟨a, c, _, rfl⟩ | ⟨b, o, c, hl, rfl, h0, C, T, z, h1, h2, h3⟩
 ·simp at hi
 ·refine ⟨b, o, c, rfl, ⟨rfl, by simpa using hl⟩, ?_⟩
  have hle : i * k + k <= l.length * k := by rw [<- Nat.succ_mul]; exact Nat.mul_le_mul_right k hi
  rw [<- fl_at hk l i l[i] (List.getElem?_eq_getElem hi), <- h3, List.drop_take, List.take_take, List.drop_drop, Nat.min_eq_left (by omega), List.getElem?_take, if_pos hj, List.getElem?_drop]
  simp [Mg.cell, h1]
def OwE (enc : α -> List Value) (k : Nat) (H : Hp) (v : Value) (l : List α) : Prop :=
 (v = .slice none 0 0 /\ l = []) \/ ∃ b c L, v = .slice (some ⟨b, 0, none⟩) l.length c /\ l.length <= c /\ c * k <= L.length /\ Bl H b L /\ L.take (l.length * k) = l.flatMap enc
theorem OwE.sl {H : Hp} {v : Value} {l : List α} (h : OwE enc k H v l) : SlE enc k H v l := by
 rcases h with ⟨rfl, rfl⟩ | ⟨b, c, L, rfl, h1, h2, hb, h3⟩
 ·exact SlE.nil _ _ _
 ·exact SlE.bl hb h3 (Nat.le_trans (Nat.mul_le_mul_right k h1) h2) h1
theorem OwE.slB {H : Hp} {v : Value} {l : List α} (h : OwE enc k H v l) {q : Nat} (hq : slB v q) : ownB v q := by
 rcases h with ⟨rfl, rfl⟩ | ⟨b, c, L, rfl, h1, h2, hb, h3⟩
 ·exact hq.elim
 ·exact hq.1
theorem OwE.old {H : Hp} {v : Value} {l : List α} (h : OwE enc k H v l) {q : Nat} (hq : ownB v q) : q < H.size := by
 rcases h with ⟨rfl, rfl⟩ | ⟨b, c, L, rfl, h1, h2, hb, h3⟩
 ·exact hq.elim
 ·cases hq; exact hb.lt
theorem OwE.keep {W : Nat -> Prop} {H H' : Hp} {v : Value} {l : List α} (h : OwE enc k H v l) (hk : Keep W H H') (hw : ∀ q, ownB v q -> ¬ W q) : OwE enc k H' v l := by
 rcases h with h | ⟨b, c, L, rfl, h1, h2, hb, h3⟩
 ·exact .inl h
 ·exact .inr ⟨b, c, L, rfl, h1, h2, hk.bl hb (hw b rfl), h3⟩
theorem OwE.nil (H : Hp) : OwE enc k H (.slice none 0 0) [] := .inl ⟨rfl, rfl⟩
theorem OwE.bl {H : Hp} {b n c : Nat} {l : List α} {L : List Value} (h : Bl H b L) (hn : n = l.length) (h1 : n <= c) (h2 : c * k <= L.length) (h3 : L.take (n * k) = l.flatMap enc) : OwE enc k H (.slice (some ⟨b, 0, none⟩) n c) l := by
 subst hn; exact .inr ⟨b, c, L, rfl, h1, h2, h, h3⟩
theorem OwE.shape {H : Hp} {v : Value} {l : List α} (h : OwE enc k H v l) : ∃ a n c, v = .slice a n c := by
 rcases h with ⟨rfl, _⟩ | ⟨b, c, L, rfl, _⟩ <;> exact ⟨_, _, _, rfl⟩
theorem OwE.some {H : Hp} {v : Value} {l : List α} (h : OwE enc k H v l) (hl : l ≠ []) : ∃ b c L, v = .slice (some ⟨b, 0, none⟩) l.length c /\ l.length <= c /\ c * k <= L.length /\ Bl H b L /\ L.take (l.length * k) = l.flatMap enc := by
 rcases h with ⟨_, rfl⟩ | h
 ·exact (hl rfl).elim
 ·exact h
theorem app_E0 {T : TypeId} {bytes : Nat} {z : Array Value} {s x : Value} {H : Hp} {K : Value -> Hp -> Prop} {l m : List α} (hk : ∀ x, (enc x).length = k) (h1c : ∀ x, ∀ v ∈ enc x, v.oneCell' = true) (hs : OwE enc k H s l) (hx : SlE enc k H x m)
  (hz : z.size = k) (h1 : l.length + m.length <= maxLen) (h2 : (l.length + m.length) * bytes <= 140737488355328)
  (hK : ∀ v' H', OwE enc k H' v' (l ++ m) -> Keep (ownB s) H H' -> (∀ q, ownB v' q -> ownB s q \/ H.size <= q) -> SlE enc k H' s l -> K v' H') : AppC false T k bytes z s x H K := by
 have hsl := hs.sl
 have hlen := hsl.len
 have hxl := hx.lenS
 have fm := fl_len hk m
 have fl := fl_len hk l
 have hsum : (l.flatMap enc ++ m.flatMap enc).length = (l.length + m.length) * k := by rw [List.length_append, fm, fl, Nat.add_mul]
 refine ⟨⟨hsl.isSl, hx.isSl, by rw [hlen, hxl]; exact h1, by rw [hlen, hxl]; exact h2⟩, (m.flatMap enc).toArray, by rw [hxl]; exact hx.srcN, ?_⟩
 rw [hlen, hxl]
 rcases hs with ⟨rfl, rfl⟩ | ⟨b, c, L, rfl, g1, g2, hb, g3⟩
 ·refine ⟨fun hle => ?_, fun _ => ⟨#[], by rw [List.length_nil, Nat.zero_mul, srcN_0], fun c hc => ?_⟩⟩
  ·have : m = [] := by
    have : ([] : List α).length + m.length <= 0 := hle
    apply List.eq_nil_of_length_eq_zero; simpa using this
   subst this
   exact ⟨trivial, hK _ _ (OwE.nil _) (Keep.refl _ _) (fun k h => .inl h) (SlE.nil _ _ _)⟩
  ·have hB := Bl.new' H (#[] ++ (m.flatMap enc).toArray ++ rep z ((c - (([] : List α).length + m.length)) * z.size)) T
   refine hK _ _ (OwE.bl hB (by simp) (by simpa using hc) ?_ ?_) ((Keep.refl _ _).push _) (fun k h => .inr (Nat.le_of_eq h.symm)) (SlE.nil _ _ _)
   ·simp only [List.length_nil, Nat.zero_add] at hc ⊢
    simp only [rep, hz, Array.toList_append, List.length_append, fm, List.length_map, Array.toList_map, Array.length_toList, Array.size_range, List.length_nil, Nat.zero_add]
    rw [<- Nat.add_mul, Nat.add_sub_of_le hc]; exact Nat.le_refl _
   ·simp only [List.length_nil, Nat.zero_add, List.nil_append, Array.toList_append]
    exact List.take_left' (by simpa using fm)
 ·refine ⟨fun hle => ?_, fun hlt => ⟨_, hsl.srcN, fun c' hc => ?_⟩⟩
  ·have hle : l.length + m.length <= c := hle
   have hle2 : (l.length + m.length) * k <= c * k := Nat.mul_le_mul_right k hle
   rw [Nat.add_mul] at hle2
   refine ⟨hb.okPut _ _ _ (fl_all1 h1c m) (by simp only [List.size_toArray, fm, Nat.zero_add]; omega), ?_⟩
   have hB := hb.put 0 (l.length * k) (m.flatMap enc).toArray
   refine hK _ _ (OwE.bl hB (by simp) hle ?_ ?_) ((Keep.refl _ _).put rfl _ _ (.inl rfl)) (fun k h => .inl h) (SlE.bl hB ?_ ?_ g1)
   ·rw [wrL_len (by simp only [Nat.zero_add, fm]; omega)]; exact g2
   ·unfold wrL
    rw [Nat.zero_add, g3, List.flatMap_append]
    exact List.take_left' hsum
   ·unfold wrL
    rw [Nat.zero_add, g3, List.append_assoc]
    exact List.take_left' fl
   ·rw [wrL_len (by simp only [Nat.zero_add, fm]; omega)]; exact Nat.le_trans (Nat.mul_le_mul_right k g1) g2
  ·have hB := Bl.new' H ((l.flatMap enc).toArray ++ (m.flatMap enc).toArray ++ rep z ((c' - (l.length + m.length)) * z.size)) T
   refine hK _ _ (OwE.bl hB (by simp) hc ?_ ?_) ((Keep.refl _ _).push _) (fun k h => .inr (Nat.le_of_eq h.symm)) (hsl.keep0 ((Keep.refl _ _).push _))
   ·simp only [rep, hz, Array.toList_append, List.length_append, fm, fl, List.length_map, Array.toList_map, Array.length_toList, Array.size_range]
    rw [<- Nat.add_mul, <- Nat.add_mul, Nat.add_sub_of_le hc]; exact Nat.le_refl _
   ·rw [Array.toList_append, Array.toList_append, List.flatMap_append]; exact List.take_left' hsum
theorem app_E {T : TypeId} {bytes : Nat} {z : Array Value} {s x : Value} {H : Hp} {K : Value -> Hp -> Prop} {l m : List α} (hk : ∀ x, (enc x).length = k) (h1c : ∀ x, ∀ v ∈ enc x, v.oneCell' = true) (hs : OwE enc k H s l) (hx : SlE enc k H x m)
  (hz : z.size = k) (h1 : l.length + m.length <= maxLen) (h2 : (l.length + m.length) * bytes <= 140737488355328)
  (hK : ∀ v' H', OwE enc k H' v' (l ++ m) -> Keep (ownB s) H H' -> (∀ q, ownB v' q -> ownB s q \/ H.size <= q) -> K v' H') : AppC false T k bytes z s x H K :=
 app_E0 hk h1c hs hx hz h1 h2 fun v' H' a b c _ => hK v' H' a b c
theorem app_EN {T : TypeId} {bytes : Nat} {z : Array Value} {s x : Value} {H : Hp} {K : Value -> Hp -> Prop} {l m : List α} (n : Nat) (hk : ∀ x, (enc x).length = k) (h1c : ∀ x, ∀ v ∈ enc x, v.oneCell' = true) (hs : OwE enc k H s l) (hn : ∀ q, ownB s q -> n <= q) (hH : n <= H.size) (hx : SlE enc k H x m)
  (hz : z.size = k) (hb : bytes <= 64) (h1 : l.length + m.length <= 1000000000)
  (hK : ∀ v' H', OwE enc k H' v' (l ++ m) -> (∀ q, ownB v' q -> n <= q) -> Keep (fun q => n <= q) H H' -> K v' H') : AppC false T k bytes z s x H K :=
 app_E hk h1c hs hx hz (by unfold maxLen; omega) (Nat.le_trans (Nat.mul_le_mul h1 hb) (by omega)) fun v' H' h1 h2 h3 => hK v' H' h1 (fun q hq => by rcases h3 q hq with h | h; exact hn q h; omega) (h2.mono fun q _ hq => hn q hq)
end
def pE (p : Int × Int) : List Value := [.int .i64 p.1, .int .i64 p.2]
theorem pE_len (p : Int × Int) : (pE p).length = 2 := rfl
theorem pE_one (p : Int × Int) : ∀ v ∈ pE p, v.oneCell' = true := by
 intro v hv; simp [pE] at hv; rcases hv with rfl | rfl <;> rfl
abbrev SlP := SlE pE 2
abbrev OwP := OwE pE 2
end Go.Mg

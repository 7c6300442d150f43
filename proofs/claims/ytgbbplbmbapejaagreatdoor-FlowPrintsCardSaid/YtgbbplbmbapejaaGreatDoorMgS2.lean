/- Several texts of ours in one. No conditions. -/
import Derived.Test.YtgbbplbmbapejaaGreatDoorMgB4
open Nat renaming reduceEqDiff → Za, reduceAdd → Zb, reduceMul → Zc
namespace Go.Mg
open Go Go.RowKit
set_option linter.all false
set_option maxRecDepth 100000
def c_bws (ι : Ids) : S :=
 .seq (.reg [.p (.v 4) (.mv (.c (.int .i64 0))), .p (.v 5) (.mv (.c .nilIface))]) (.seq (.reg [.p (.t 6) (.mv (.v 0)), .e (.t 7) (.call (ι.f 211) [.t 6])]) (.seq (.reg [.p (.t 8) (.mv (.v 0)), .p (.t
 9) (.mv (.v 0)), .p (.t 10) (.nil (.t 9)), .p (.t 11) (.fa 1 (.t 10)), .p (.t 12) (.ld (.t 11)), .p (.t 13) (.mv (.v 1)), .e (.t 14) (.app true (ι.t 19) 1 1 #[.int .u8 0] (.t 12) (.t 13)), .p (.t 15)
 (.nil (.t 8)), .p (.t 16) (.fa 1 (.t 15)), .e .no (.st (.t 16) (.t 14))]) (.seq (.reg [.p (.t 17) (.mv (.v 1)), .p (.t 18) (.m (.lens (.t 17))), .p (.v 4) (.mv (.t 18)), .p (.v 5) (.mv (.c
 .nilIface))]) .ret)))
def r_bws : List RV := [.t 4, .t 5]
def tagB (H : Hp) (b : Nat) : Option TypeId := match H[b]? with | some (.cells _ T _) => some T | _ => none
theorem tagB_modify (H : Hp) (b : Nat) (f : Obj -> Obj) (hf : ∀ C T z, ∃ C' z', f (.cells C T z) = .cells C' T z') (ho : ∀ o, (∀ C T z, o ≠ .cells C T z) -> ∀ C T z, f o ≠ .cells C T z) (q : Nat) : tagB (H.modify b f) q = tagB H q := by
 unfold tagB
 rw [Array.getElem?_modify]
 by_cases e : b = q
 ·subst e
  rw [if_pos rfl]
  cases hh : H[b]? with
  | none => rfl
  | some o =>
   cases o with
   | cells C T z =>
    obtain ⟨C', z', e⟩ := hf C T z
    simp only [Option.map_some, e]
   | _ =>
    simp only [Option.map_some]
    split
    ·rename_i C T z he
     exact absurd (Option.some.inj he) (ho _ (fun _ _ _ h => by cases h) C T z)
    ·rfl
 ·rw [if_neg e]
theorem tagB_setc (H : Hp) (p : Addr) (v : Value) (q : Nat) : tagB (setc H p v) q = tagB H q := by
 refine tagB_modify H _ _ (fun C T z => ⟨_, _, rfl⟩) (fun o h C T z => ?_) q
 cases o with
 | cells C T z => exact absurd rfl (h C T z)
 | _ => intro h; cases h
theorem tagB_stNA (H : Hp) (p : Addr) (xs : List Value) (q : Nat) : tagB (stNA H p xs) q = tagB H q := by
 unfold stNA
 refine tagB_modify H _ _ (fun C T z => ⟨_, _, rfl⟩) (fun o h C T z => ?_) q
 cases o with
 | cells C T z => exact absurd rfl (h C T z)
 | _ => intro h; cases h
theorem tagB_putH (H : Hp) (a : Option Addr) (off : Nat) (xs : Array Value) (q : Nat) : tagB (putH H a off xs) q = tagB H q := by
 unfold putH
 split
 ·rfl
 ·split
  ·rfl
  ·exact tagB_stNA _ _ _ _
theorem tagB_keep {W : Nat -> Prop} {H H' : Hp} (hk : Keep W H H') {q : Nat} {T : TypeId} (h : tagB H q = some T) (hw : ¬ W q) : tagB H' q = some T := by
 have hlt : q < H.size := by
  apply Decidable.byContradiction
  intro hn
  have : H[q]? = none := by simpa using hn
  unfold tagB at h; rw [this] at h; cases h
 unfold tagB at *
 rw [hk.at_ q hlt hw]; exact h
theorem tagB_new (H : Hp) (C : Array Value) (T : TypeId) (z : Nat × Nat) : tagB (H.push (.cells C T z)) H.size = some T := by simp [tagB]
theorem AppC.tag {str : Bool} {T : TypeId} {size bytes : Nat} {z : Array Value} {a : Option Addr} {n c : Nat} {x : Value} {H : Hp} {K : Value -> Hp -> Prop} (hs : ∀ q, ownB (.slice a n c) q -> tagB H q = some T)
  (h : AppC str T size bytes z (.slice a n c) x H fun v' H' => (∀ q, ownB v' q -> tagB H' q = some T) -> K v' H') : AppC str T size bytes z (.slice a n c) x H K := by
 obtain ⟨c1, n1, c2, c3, c4⟩ := h
 refine ⟨c1, n1, c2, fun hl => ⟨(c3 hl).1, (c3 hl).2 fun q hq => ?_⟩, fun hl => ?_⟩
 ·rw [tagB_putH]
  refine hs q ?_
  cases a with
  | none => exact hq.elim
  | some p => exact hq
 ·obtain ⟨o1, e1, e2⟩ := c4 hl
  refine ⟨o1, e1, fun c hc => e2 c hc fun q hq => ?_⟩
  have hq : q = H.size := hq
  subst hq
  exact tagB_new _ _ _ _
def Bld (ι : Ids) (F : Nat -> Prop) (H : Hp) (b : Nat) (l : List UInt8) : Prop := F b /\ ∃ p v, H[b]? = some (.cells #[p, v] (ι.t 215) (0, 0)) /\ (p = .pointer none \/ p = .pointer (some ⟨b, 0, none⟩)) /\ OwS H v (w8 l) /\ ∀ q, ownB v q -> tagB H q = some (ι.t 19) /\ q ≠ b /\ F q
theorem Bld.keep {ι : Ids} {F : Nat -> Prop} {H H' : Hp} {b : Nat} {l : List UInt8} {W : Nat -> Prop} (h : Bld ι F H b l) (hk : Keep W H H') (hw : ∀ q, F q -> q < H.size -> ¬ W q) : Bld ι F H' b l := by
 obtain ⟨hB, p, v, h1, h2, h3, h4⟩ := h
 have hb : b < H.size := (Array.getElem?_eq_some_iff.1 h1).1
 exact ⟨hB, p, v, by rw [hk.at_ b hb (hw b hB hb)]; exact h1, h2, h3.keep hk fun q hq => hw q (h4 q hq).2.2 (h3.old hq), fun q hq => ⟨tagB_keep hk (h4 q hq).1 (hw q (h4 q hq).2.2 (h3.old hq)), (h4 q hq).2⟩⟩
theorem Bld.mono {ι : Ids} {F F' : Nat -> Prop} {H : Hp} {b : Nat} {l : List UInt8} (h : Bld ι F H b l) (hf : ∀ q, F q -> q < H.size -> F' q) : Bld ι F' H b l := by
 obtain ⟨hB, p, v, h1, h2, h3, h4⟩ := h
 have hb : b < H.size := (Array.getElem?_eq_some_iff.1 h1).1
 exact ⟨hf b hB hb, p, v, h1, h2, h3, fun q hq => ⟨(h4 q hq).1, (h4 q hq).2.1, hf q (h4 q hq).2.2 (h3.old hq)⟩⟩
theorem bl_of_get {H : Hp} {b : Nat} {x y : Value} {T : TypeId} (h : H[b]? = some (.cells #[x, y] T (0, 0))) : Bl H b [x, y] := ⟨T, h⟩
theorem get_of_bl {H : Hp} {b : Nat} {x y : Value} {T : TypeId} (h : Bl H b [x, y]) (ht : tagB H b = some T) : H[b]? = some (.cells #[x, y] T (0, 0)) := by
 obtain ⟨T', h⟩ := h
 unfold tagB at ht
 rw [h] at ht
 cases ht
 exact h
def BCopySpec (P : Program) (ι : Ids) (k : FuncId) : Prop := ∀ (b : Nat) (p v : Value) (H : Hp), H[b]? = some (.cells #[p, v] (ι.t 215) (0, 0)) -> (p = .pointer none \/ p = .pointer (some ⟨b, 0, none⟩)) →
 CallsM P k #[.pointer (some ⟨b, 0, none⟩)] H fun r H' => r = .tuple #[] /\ H'[b]? = some (.cells #[.pointer (some ⟨b, 0, none⟩), v] (ι.t 215) (0, 0)) /\ Keep (fun q => q = b) H H'
def BwsSpec (P : Program) (ι : Ids) (k : FuncId) : Prop := ∀ (F : Nat -> Prop) (b : Nat) (l m : List UInt8) (H : Hp), Bld ι F H b l -> l.length + m.length < 1000000 →
 CallsM P k #[.pointer (some ⟨b, 0, none⟩), .string ⟨m.toArray⟩] H fun r H' => Bld ι (fun q => F q \/ H.size <= q) H' b (l ++ m) /\ Keep F H H'
theorem bws_ok {P : Program} {ι : Ids} {k : FuncId} (hk : FnIs P k (c_bws ι) r_bws 2) (hc : BCopySpec P ι (ι.f 211)) : BwsSpec P ι k := by
 intro F b l m H hv hl
 refine calls_of_vc hk (args := [_, _]) (by simp) ?_
 unfold c_bws r_bws
 obtain ⟨hBb, p, v, h1, h2, h3, h4⟩ := hv
 have hb : b < H.size := (Array.getElem?_eq_some_iff.1 h1).1
 simp only [go_sem, zS, ↓reduceIte, Za, Zb, Zc, reduceCtorEq, kont_eq]
 refine (hc b p v H h1 h2).mono ?_
 rintro r H1 ⟨rfl, g1, K1⟩
 have s1 := K1.size
 have B1 := bl_of_get g1
 have O1 := h3.keep K1 (fun q hq => (h4 q hq).2.1)
 have t1 : ∀ q, ownB v q -> tagB H1 q = some (ι.t 19) := fun q hq => tagB_keep K1 (h4 q hq).1 (h4 q hq).2.1
 have c1 : cell H1 ⟨b, 1, none⟩ = some v := by rw [B1.cell]; rfl
 obtain ⟨a, n, c, rfl⟩ := O1.shape
 rw [kont_eq]
 simp only [go_sem, zS, ↓reduceIte, Za, Zb, Zc, reduceCtorEq, kont_eq, zF, c1]
 refine AppC.tag t1 ?_
 refine app_own (m := w8 m) O1 trivial (by rw [w8_len]; rfl) (by
  show some (byteCells (ByteArray.extract ⟨m.toArray⟩ 0 (w8 m).length)) = _
  have : ByteArray.extract ⟨m.toArray⟩ 0 (w8 m).length = ⟨m.toArray⟩ := by
   rw [w8_len]
   exact ByteArray.extract_zero_size (b := ⟨m.toArray⟩)
  rw [this]; simp [byteCells, w8]) (w8_all1 _) rfl (by rw [w8_len, w8_len]; unfold maxLen; omega) (by rw [w8_len, w8_len]; omega) fun v3 H3 O3 K3 own3 t3 => ?_
 rw [<- w8_app] at O3
 obtain ⟨a3, n3, c3, rfl⟩ := O3.shape
 have s3 := K3.size
 have hnb : ¬ ownB (.slice a n c) b := fun h => (h4 b h).2.1 rfl
 have B3 := K3.bl B1 hnb
 have tb3 : tagB H3 b = some (ι.t 215) := tagB_keep K3 (by unfold tagB; rw [g1]) hnb
 have hst := B3.okSt (o := 1) (by simp)
 have B4 := B3.setc 1 (.slice a3 n3 c3)
 have K4 : Keep (fun q => q = b) H3 (setc H3 ⟨b, 1, none⟩ (.slice a3 n3 c3)) := (Keep.refl _ _).setc _ (.inl rfl)
 have own4 : ∀ q, ownB (.slice a3 n3 c3) q -> q ≠ b /\ (F q \/ H.size <= q) := fun q hq => by
  rcases own3 q hq with h | h
  ·exact ⟨(h4 q h).2.1, .inl (h4 q h).2.2⟩
  ·exact ⟨by omega, .inr (by omega)⟩
 simp only [go_sem, zS, ↓reduceIte, Za, Zb, Zc, reduceCtorEq, kont_eq, hst]
 refine ⟨⟨.inl hBb, _, _, get_of_bl B4 (by rw [tagB_setc]; exact tb3), .inr rfl, O3.keep K4 (fun q hq => (own4 q hq).1), fun q hq => ⟨by rw [tagB_setc]; exact t3 q hq, own4 q hq⟩⟩, ?_⟩
 have Fb : ∀ {q : Nat}, (fun q => q = b) q -> F q := fun {q} (h : q = b) => h ▸ hBb
 exact ((K1.mono fun q _ h => Fb h).trans (K3.mono fun q _ h => (h4 q h).2.2)).trans (K4.mono fun q _ h => Fb h)
def BStrSpec (P : Program) (ι : Ids) (k : FuncId) : Prop := ∀ (F : Nat -> Prop) (b : Nat) (l : List UInt8) (H : Hp), Bld ι F H b l -> l ≠ [] -> l.length < 1000000 -> CallsM P k #[.pointer (some ⟨b, 0, none⟩)] H fun r H' => r = .string ⟨l.toArray⟩ /\ Keep F H H'
theorem bcopy_of {P : Program} {ι : Ids} {k T : Nat} (hT : ι.t 215 = T) (hu : ∀ (b : Nat) (w : World), w.cell? ⟨b, 0, none⟩ = some (.pointer (some ⟨b, 0, none⟩)) -> Calls P k #[.pointer (some ⟨b, 0, none⟩)] w fun e w' => e = .returned (.tuple #[]) /\ w' = w)
  (hf : ∀ (b : Nat) (w : World), w.cell? ⟨b, 0, none⟩ = some (.pointer none) -> w.shape? b = some (T, 2) -> w.frozen? ⟨b, 0, none⟩ = false -> Calls P k #[.pointer (some ⟨b, 0, none⟩)] w fun e w' => e = .returned (.tuple #[]) /\ w' = w.setCell ⟨b, 0, none⟩ (.pointer (some ⟨b, 0, none⟩))) : BCopySpec P ι k := by
 intro b p v H h hp w hw
 subst hw
 rw [hT] at h
 have hB : Bl w.heap b [p, v] := ⟨T, h⟩
 rcases hp with rfl | rfl
 ·refine (hf b w (by rw [cell_eq, hB.cell]; rfl) (by simp [World.shape?, h]) (by rw [frz_eq, hB.frz])).mono ?_
  rintro e w' ⟨rfl, rfl⟩
  refine ⟨_, rfl, ⟨rfl, ?_, (Keep.refl _ _).setc _ (.inl rfl)⟩, ⟨rfl, rfl, rfl⟩⟩
  rw [hT]
  exact get_of_bl (hB.setc 0 _) (by show tagB (setc _ _ _) b = _; rw [tagB_setc]; unfold tagB; rw [h])
 ·refine (hu b w (by rw [cell_eq, hB.cell]; rfl)).mono ?_
  rintro e w' ⟨rfl, rfl⟩
  exact ⟨_, rfl, ⟨rfl, by rw [hT]; exact h, Keep.refl _ _⟩, Same.refl _⟩
theorem keep_freeze (w : World) (g n : Nat) : Keep (fun q => q = g) w.heap (w.freeze ⟨g, 0, none⟩ n).heap := by
 unfold World.freeze
 split
 ·exact Keep.refl _ _
 ·refine ⟨by simp, fun q hq hn => ?_⟩
  simp only [Array.getElem?_modify]
  rw [if_neg (fun e => hn e.symm)]
theorem same_freeze (w : World) (p : Addr) (n : Nat) : Same w (w.freeze p n) := by
 unfold World.freeze
 split <;> exact ⟨rfl, rfl, rfl⟩
theorem bstr_of {P : Program} {ι : Ids} {k T U : Nat} (hT : ι.t 215 = T) (hU : ι.t 19 = U)
  (hs : ∀ (b g n cap : Nat) (p : Value) (l : List UInt8) (w : World), l.length = n -> n ≠ 0 -> n < 1000000 -> w.heap[b]? = some (.cells #[p, .slice (some ⟨g, 0, none⟩) n cap] T (0, 0)) -> ∀ (cur : Array Value) (z : Nat × Nat), w.heap[g]? = some (.cells cur U z) -> n <= cap -> n <= cur.size →
   (∀ j x, l[j]? = some x -> w.cell? ⟨g, 0 + j, none⟩ = some (.int .u8 x.toNat)) -> Calls P k #[.pointer (some ⟨b, 0, none⟩)] w fun e w' => e = .returned (.string ⟨l.toArray⟩) /\ w' = w.drew.freeze ⟨g, 0, none⟩ n) : BStrSpec P ι k := by
 intro F b l H hv h0 hl w hw
 subst hw
 obtain ⟨hBb, p, v, h1, h2, h3, h4⟩ := hv
 rw [hT] at h1
 have h0' : w8 l ≠ [] := by intro e; have := congrArg List.length e; rw [w8_len] at this; exact h0 (List.eq_nil_of_length_eq_zero this)
 obtain ⟨g, c, L, rfl, g1, g2, hB, g3, g4⟩ := h3.some h0'
 rw [w8_len] at g1 g3 h1
 obtain ⟨t1, t2, t3⟩ := h4 g rfl
 rw [hU] at t1
 obtain ⟨T', hg⟩ := hB
 have : T' = U := by unfold tagB at t1; rw [hg] at t1; simpa using t1
 subst this
 refine (hs b g l.length c p l w rfl (by intro e; exact h0 (List.eq_nil_of_length_eq_zero e)) hl h1 L.toArray (0, 0) hg g1 (by simp; omega) fun j x hx => ?_).mono ?_
 ·have hj : j < l.length := (List.getElem?_eq_some_iff.1 hx).1
  rw [cell_eq, Nat.zero_add, Bl.cell ⟨T', hg⟩, g4 j (by rw [w8_len]; exact hj), w8_get _ _ hj]
  have : l.getD j 0 = x := by rw [List.getD_eq_getElem?_getD, hx]; rfl
  rw [this]
 ·rintro e w' ⟨rfl, rfl⟩
  exact ⟨_, rfl, ⟨rfl, (keep_freeze w.drew g l.length).mono fun q _ h => by have h : q = g := h; exact h ▸ t3⟩, (show Same w w.drew from ⟨rfl, rfl, rfl⟩).trans (same_freeze _ _ _)⟩
end Go.Mg
namespace Go.Mg
open Go Go.RowKit
set_option linter.all false
set_option maxRecDepth 100000
def c_itoa (ι : Ids) : S :=
 .seq (.reg [.p (.v 2) (.mv (.c (.string ⟨#[]⟩)))]) (.seq (.reg [.p (.t 3) (.mv (.v 0)), .e (.t 4) (.call (ι.f 216) [.t 3]), .p (.v 2) (.mv (.t 4))]) .ret)
def r_itoa : List RV := [.t 2]
def c_itoai (ι : Ids) : S :=
 .seq (.reg [.p (.v 2) (.mv (.c (.string ⟨#[]⟩)))]) (.seq (.reg [.p (.t 3) (.mv (.v 0)), .e (.t 4) (.call (ι.f 218) [.t 3, .c (.int .i64 10)]), .p (.v 2) (.mv (.t 4))]) .ret)
def r_itoai : List RV := [.t 2]
def c_fmtint (ι : Ids) : S :=
 .seq (.reg [.p (.v 4) (.mv (.c (.string ⟨#[]⟩)))]) (.seq (.seq (.reg [.p (.t 10) (.mv (.v 1)), .p (.v 11) (.cm .eql .i64 (.t 10) (.c (.int .i64 10)))]) (.ite (.v 11) (.seq (.seq (.reg [.p (.t 12) (.mv
 (.v 0)), .p (.t 13) (.cm .leq .i64 (.c (.int .i64 0)) (.t 12)), .p (.t 14) (.mv (.t 13)), .gp (.t 15) (.t 14) true (.mv (.v 0)), .gp (.t 16) (.t 14) true (.cm .lss .i64 (.t 15) (.c (.int .i64 100))),
 .p (.v 17) (.pick (.t 14) (.t 16) (.c (.bool false)))]) (.ite (.v 17) (.seq (.reg [.p (.t 18) (.mv (.v 0)), .e (.t 19) (.call (ι.f 219) [.t 18]), .p (.v 4) (.mv (.t 19))]) .ret) .skip)) (.seq (.reg
 [.e (.v 5) (.new (ι.t 223) (Array.replicate 24 (.int .u8 0)))]) (.seq (.reg [.p (.t 20) (.mv (.v 0)), .p (.t 21) (.ii .u64 (.t 20)), .p (.v 6) (.mv (.t 21))]) (.seq (.seq (.reg [.p (.t 22) (.mv (.v
 0)), .p (.v 23) (.cm .lss .i64 (.t 22) (.c (.int .i64 0)))]) (.ite (.v 23) (.reg [.p (.t 24) (.mv (.v 6)), .p (.t 25) (.neg .u64 (.t 24)), .p (.v 6) (.mv (.t 25))]) .skip)) (.seq (.reg [.p (.t 26)
 (.mv (.v 6)), .e (.t 27) (.call (ι.f 220) [.t 26]), .p (.v 7) (.mv (.t 27))]) (.seq (.reg [.p (.t 28) (.mv (.v 7)), .p (.t 29) (.ar .add .i64 (.c (.int .i64 1)) (.t 28)), .p (.t 30) (.m (.sla 24 1 (.v
 5) (.some (.c (.int .i64 1))) (.some (.t 29)))), .p (.t 31) (.mv (.v 6)), .e (.t 32) (.call (ι.f 221) [.t 30, .t 31])]) (.seq (.seq (.reg [.p (.t 33) (.mv (.v 0)), .p (.v 34) (.cm .lss .i64 (.t 33)
 (.c (.int .i64 0)))]) (.ite (.v 34) (.seq (.reg [.p (.t 35) (.ia 24 1 (.v 5) (.c (.int .i64 0))), .e .no (.st (.t 35) (.c (.int .u8 45)))]) (.seq (.reg [.p (.t 36) (.mv (.v 7)), .p (.t 37) (.ar .add
 .i64 (.c (.int .i64 1)) (.t 36)), .p (.t 38) (.m (.sla 24 1 (.v 5) .none (.some (.t 37)))), .p (.t 39) (.m (.b2s (.t 38))), .p (.v 4) (.mv (.t 39))]) .ret)) .skip)) (.seq (.reg [.p (.t 40) (.mv (.v
 7)), .p (.t 41) (.ar .add .i64 (.c (.int .i64 1)) (.t 40)), .p (.t 42) (.m (.sla 24 1 (.v 5) (.some (.c (.int .i64 1))) (.some (.t 41)))), .p (.t 43) (.m (.b2s (.t 42))), .p (.v 4) (.mv (.t 43))])
 .ret)))))))) .skip)) (.seq (.reg [.p (.t 45) (.mv (.v 0)), .p (.t 46) (.ii .u64 (.t 45)), .p (.t 47) (.mv (.v 1)), .p (.t 48) (.mv (.v 0)), .p (.t 49) (.cm .lss .i64 (.t 48) (.c (.int .i64 0))), .e
 (.t 50) (.call (ι.f 222) [.c (.slice .none 0 0), .t 46, .t 47, .t 49, .c (.bool false)]), .p (.t 44) (.mv (.t 50)), .p (.t 51) (.ext (.t 44) 0), .p (.t 52) (.ext (.t 44) 1), .p (.t 8) (.mv (.t 51)),
 .p (.v 9) (.mv (.t 52))]) (.seq (.reg [.p (.t 53) (.mv (.v 9)), .p (.v 4) (.mv (.t 53))]) .ret)))
def r_fmtint : List RV := [.t 4]
def c_small (ι : Ids) : S :=
 .seq (.reg [.p (.v 2) (.mv (.c (.string ⟨#[]⟩)))]) (.seq (.seq (.reg [.p (.t 3) (.mv (.v 0)), .p (.v 4) (.cm .lss .i64 (.t 3) (.c (.int .i64 10)))]) (.ite (.v 4) (.seq (.reg [.p (.t 5) (.mv (.v 0)),
 .p (.t 6) (.mv (.v 0)), .p (.t 7) (.ar .add .i64 (.t 6) (.c (.int .i64 1))), .p (.t 8) (.m (.slt (.c (.string ⟨#[48, 49, 50, 51, 52, 53, 54, 55, 56, 57, 97, 98, 99, 100, 101, 102, 103, 104, 105, 106,
 107, 108, 109, 110, 111, 112, 113, 114, 115, 116, 117, 118, 119, 120, 121, 122]⟩)) (.some (.t 5)) (.some (.t 7)))), .p (.v 2) (.mv (.t 8))]) .ret) .skip)) (.seq (.reg [.p (.t 9) (.mv (.v 0)), .p (.t
 10) (.ar .mul .i64 (.t 9) (.c (.int .i64 2))), .p (.t 11) (.mv (.v 0)), .p (.t 12) (.ar .mul .i64 (.t 11) (.c (.int .i64 2))), .p (.t 13) (.ar .add .i64 (.t 12) (.c (.int .i64 2))), .p (.t 14) (.m
 (.slt (.c (.string ⟨#[48, 48, 48, 49, 48, 50, 48, 51, 48, 52, 48, 53, 48, 54, 48, 55, 48, 56, 48, 57, 49, 48, 49, 49, 49, 50, 49, 51, 49, 52, 49, 53, 49, 54, 49, 55, 49, 56, 49, 57, 50, 48, 50, 49,
 50, 50, 50, 51, 50, 52, 50, 53, 50, 54, 50, 55, 50, 56, 50, 57, 51, 48, 51, 49, 51, 50, 51, 51, 51, 52, 51, 53, 51, 54, 51, 55, 51, 56, 51, 57, 52, 48, 52, 49, 52, 50, 52, 51, 52, 52, 52, 53, 52, 54,
 52, 55, 52, 56, 52, 57, 53, 48, 53, 49, 53, 50, 53, 51, 53, 52, 53, 53, 53, 54, 53, 55, 53, 56, 53, 57, 54, 48, 54, 49, 54, 50, 54, 51, 54, 52, 54, 53, 54, 54, 54, 55, 54, 56, 54, 57, 55, 48, 55, 49,
 55, 50, 55, 51, 55, 52, 55, 53, 55, 54, 55, 55, 55, 56, 55, 57, 56, 48, 56, 49, 56, 50, 56, 51, 56, 52, 56, 53, 56, 54, 56, 55, 56, 56, 56, 57, 57, 48, 57, 49, 57, 50, 57, 51, 57, 52, 57, 53, 57, 54,
 57, 55, 57, 56, 57, 57]⟩)) (.some (.t 10)) (.some (.t 13)))), .p (.v 2) (.mv (.t 14))]) .ret))
def r_small : List RV := [.t 2]
def itoaB (n : Nat) : List UInt8 := if n < 10 then [UInt8.ofNat (48 + n)] else [UInt8.ofNat (48 + n / 10), UInt8.ofNat (48 + n % 10)]
theorem itoaB_len (n : Nat) : 1 <= (itoaB n).length /\ (itoaB n).length <= 2 := by unfold itoaB; split <;> simp
theorem dig_tab : ∀ n : Fin 10, ByteArray.extract ⟨#[48, 49, 50, 51, 52, 53, 54, 55, 56, 57, 97, 98, 99, 100, 101, 102, 103, 104, 105, 106, 107, 108, 109, 110, 111, 112, 113, 114, 115, 116, 117, 118, 119, 120, 121, 122]⟩ n.val (n.val + 1) = ⟨(itoaB n.val).toArray⟩ := by decide +kernel
theorem sm_tab : ∀ n : Fin 100, 10 <= n.val -> ByteArray.extract ⟨#[48, 48, 48, 49, 48, 50, 48, 51, 48, 52, 48, 53, 48, 54, 48, 55, 48, 56, 48, 57, 49, 48, 49, 49, 49, 50, 49, 51, 49, 52, 49, 53, 49, 54, 49, 55, 49, 56, 49, 57, 50, 48, 50, 49, 50, 50, 50, 51, 50, 52, 50, 53, 50, 54, 50, 55, 50, 56, 50, 57, 51, 48, 51, 49, 51, 50, 51, 51, 51, 52, 51, 53, 51, 54, 51, 55, 51, 56, 51, 57, 52, 48, 52, 49, 52, 50, 52, 51, 52, 52, 52, 53, 52, 54, 52, 55, 52, 56, 52, 57, 53, 48, 53, 49, 53, 50, 53, 51, 53, 52, 53, 53, 53, 54, 53, 55, 53, 56, 53, 57, 54, 48, 54, 49, 54, 50, 54, 51, 54, 52, 54, 53, 54, 54, 54, 55, 54, 56, 54, 57, 55, 48, 55, 49, 55, 50, 55, 51, 55, 52, 55, 53, 55, 54, 55, 55, 55, 56, 55, 57, 56, 48, 56, 49, 56, 50, 56, 51, 56, 52, 56, 53, 56, 54, 56, 55, 56, 56, 56, 57, 57, 48, 57, 49, 57, 50, 57, 51, 57, 52, 57, 53, 57, 54, 57, 55, 57, 56, 57, 57]⟩ (n.val * 2) (n.val * 2 + 2) = ⟨(itoaB n.val).toArray⟩ := by decide +kernel
def ItoaSpec (P : Program) (k : FuncId) : Prop := ∀ (n : Nat) (H : Hp), n < 100 -> CallsM P k #[.int .i64 (n : Int)] H fun r H' => r = .string ⟨(itoaB n).toArray⟩ /\ H' = H
theorem small_ok {P : Program} {ι : Ids} {k : FuncId} (hk : FnIs P k (c_small ι) r_small 1) : ItoaSpec P k := by
 intro n H hn
 refine calls_of_vc hk (args := [_]) (by simp) ?_
 unfold c_small r_small
 simp only [go_sem, zS, ↓reduceIte, Za, Zb, Zc, reduceCtorEq, kont_eq]
 refine iteV_dec (fun hlt => ?_) (fun hge => ?_)
 ·have w1 : IntKind.i64.wrap ((n : Int) + 1) = ((n + 1 : Nat) : Int) := by rw [IntWalk.i64_in _ (by omega)]; rfl
  rw [w1, tn_cast]
  exact ⟨by omega, by rw [dig_tab ⟨n, by omega⟩]⟩
 ·have w1 : IntKind.i64.wrap ((n : Int) * 2) = ((n * 2 : Nat) : Int) := by rw [IntWalk.i64_in _ (by omega)]; omega
  have w2 : IntKind.i64.wrap (((n * 2 : Nat) : Int) + 2) = ((n * 2 + 2 : Nat) : Int) := by rw [IntWalk.i64_in _ (by omega)]; rfl
  rw [w1, w2, tn_cast, tn_cast]
  exact ⟨by omega, by rw [sm_tab ⟨n, hn⟩ (by show 10 <= n; omega)]⟩
theorem fmtint_ok {P : Program} {ι : Ids} {k : FuncId} (hk : FnIs P k (c_fmtint ι) r_fmtint 2) (hs : ItoaSpec P (ι.f 219)) (n : Nat) (H : Hp) (hn : n < 100) : CallsM P k #[.int .i64 (n : Int), .int .i64 10] H fun r H' => r = .string ⟨(itoaB n).toArray⟩ /\ H' = H := by
 refine calls_of_vc hk (args := [_, _]) (by simp) ?_
 unfold c_fmtint r_fmtint
 have e0 : ((10 : Int) == 10) = true := rfl
 have e1 : decide ((0 : Int) <= (n : Int)) = true := decide_eq_true (by omega)
 have e2 : decide ((n : Int) < 100) = true := decide_eq_true (by omega)
 simp only [go_sem, zS, ↓reduceIte, Za, Zb, Zc, reduceCtorEq, kont_eq, e0, e1, e2]
 refine (hs n H hn).mono ?_
 rintro r H1 ⟨rfl, rfl⟩
 simp only [go_sem, zS, ↓reduceIte, Za, Zb, Zc, reduceCtorEq, kont_eq]
theorem itoai_ok {P : Program} {ι : Ids} {k : FuncId} (hk : FnIs P k (c_itoai ι) r_itoai 1) (hf : FnIs P (ι.f 218) (c_fmtint ι) r_fmtint 2) (hs : ItoaSpec P (ι.f 219)) : ItoaSpec P k := by
 intro n H hn
 refine calls_of_vc hk (args := [_]) (by simp) ?_
 unfold c_itoai r_itoai
 simp only [go_sem, zS, ↓reduceIte, Za, Zb, Zc, reduceCtorEq, kont_eq]
 refine (fmtint_ok hf hs n H hn).mono ?_
 rintro r H1 ⟨rfl, rfl⟩
 simp only [go_sem, zS, ↓reduceIte, Za, Zb, Zc, reduceCtorEq, kont_eq]
theorem itoa_ok {P : Program} {ι : Ids} {k : FuncId} (hk : FnIs P k (c_itoa ι) r_itoa 1) (hs : ItoaSpec P (ι.f 216)) : ItoaSpec P k := by
 intro n H hn
 refine calls_of_vc hk (args := [_]) (by simp) ?_
 unfold c_itoa r_itoa
 simp only [go_sem, zS, ↓reduceIte, Za, Zb, Zc, reduceCtorEq, kont_eq]
 refine (hs n H hn).mono ?_
 rintro r H1 ⟨rfl, rfl⟩
 simp only [go_sem, zS, ↓reduceIte, Za, Zb, Zc, reduceCtorEq, kont_eq]
end Go.Mg

/- loops over a range, and a variable that is made and set at once. -/
import Derived.Test.YtgbbplbmbapejaaGreatDoorMgEl
namespace Go.Mg
open Go Go.RowKit
set_option linter.all false
theorem all1_of {l : List Value} (h : l.all (fun v => v.oneCell') = true) : all1 l.toArray := by
 intro x hx
 rw [List.all_eq_true] at h
 exact h x (by simpa using hx)
theorem all1_sl {v : Value} (h : isSl v) : v.oneCell' = true := by
 cases v <;> first | rfl | exact h.elim
theorem kont_newst {P : Program} {d n : Nat} {x : A} {r : List O} {e : Env} {f : Fr} {Q : Fr -> Hp -> Prop} {H : Hp} {z : Array Value} {T : TypeId} (cs : List Value)
  (hx : A.rd e (upd f d (.pointer (some ⟨H.size, 0, none⟩))) x = .agg cs.toArray) (hn : cs.length = n) (hz : z.size = n) (h1 : cs.all (fun v => v.oneCell') = true)
  (h : ∀ H' b, b = H.size -> H'.size = H.size + 1 -> Bl H' b cs -> Keep (fun _ => False) H H' -> ops P r e (upd f d (.pointer (some ⟨b, 0, none⟩))) H' Q) :
  kont P (.v d) (.e .no (.stn n (.v d) x) :: r) e f Q (.pointer (some ⟨H.size, 0, none⟩)) (H.push (.cells z T)) := by
 have hB : Bl (H.push (.cells z T)) H.size z.toList := Bl.new' _ _ _
 have hB2 := hB.stNA 0 cs
 have hw : wrL z.toList 0 cs = cs := wrL_all _ _ (by simp [hn, hz])
 rw [hw] at hB2
 have e1 : (upd f d (.pointer (some ⟨H.size, 0, none⟩))) d = .pointer (some ⟨H.size, 0, none⟩) := by simp [upd]
 rw [kont_eq]
 simp only [env_v, fr_v, ops_e, EX.wp, rd_v, e1, hx]
 refine ⟨⟨hB.okNA (by simp [hz]), by simpa [Value.cells] using hn, by simpa [Value.cells] using all1_of h1⟩, ?_⟩
 rw [kont_eq]
 simp only [env_no, fr_no, stNH, Value.cells]
 exact h _ H.size rfl (by rw [size_stNA]; simp) hB2 ((Keep.refl _ _).push _ |>.trans' ((Keep.refl (fun q => q = H.size) _).stNA _ (.inl rfl)) fun q hq e => by omega)
theorem kont_newstP {P : Program} {d d2 n : Nat} {x y : A} {r : List O} {e : Env} {f : Fr} {Q : Fr -> Hp -> Prop} {H : Hp} {z : Array Value} {T : TypeId} (cs : List Value) (u : Value) (hd : (d == d2) = false)
  (hx : A.rd e (upd (upd f d (.pointer (some ⟨H.size, 0, none⟩))) d2 u) x = .agg cs.toArray) (hy : A.rd e (upd f d (.pointer (some ⟨H.size, 0, none⟩))) y = u) (hn : cs.length = n) (hz : z.size = n) (h1 : cs.all (fun v => v.oneCell') = true)
  (h : ∀ H' b, b = H.size -> H'.size = H.size + 1 -> Bl H' b cs -> Keep (fun _ => False) H H' -> ops P r e (upd (upd f d (.pointer (some ⟨b, 0, none⟩))) d2 u) H' Q) :
  kont P (.v d) (.p (.v d2) (.mv y) :: .e .no (.stn n (.v d) x) :: r) e f Q (.pointer (some ⟨H.size, 0, none⟩)) (H.push (.cells z T)) := by
 have hB : Bl (H.push (.cells z T)) H.size z.toList := Bl.new' _ _ _
 have hB2 := hB.stNA 0 cs
 have hw : wrL z.toList 0 cs = cs := wrL_all _ _ (by simp [hn, hz])
 rw [hw] at hB2
 have hd' : ¬ d = d2 := by simpa using hd
 have e1 : (upd (upd f d (.pointer (some ⟨H.size, 0, none⟩))) d2 u) d = .pointer (some ⟨H.size, 0, none⟩) := by simp [upd, hd']
 rw [kont_eq]
 simp only [env_v, fr_v, ops_p, PX.pre, PX.val, hy, ops_e, EX.wp, rd_v, e1, hx, true_and]
 refine ⟨⟨hB.okNA (by simp [hz]), by simpa [Value.cells] using hn, by simpa [Value.cells] using all1_of h1⟩, ?_⟩
 rw [kont_eq]
 simp only [env_no, fr_no, stNH, Value.cells]
 exact h _ H.size rfl (by rw [size_stNA]; simp) hB2 ((Keep.refl _ _).push _ |>.trans' ((Keep.refl (fun q => q = H.size) _).stNA _ (.inl rfl)) fun q hq e => by omega)
theorem kont_newst1 {P : Program} {d : Nat} {x : A} {r : List O} {e : Env} {f : Fr} {Q : Fr -> Hp -> Prop} {H : Hp} {z : Value} {T : TypeId} (c : Value)
  (hx : A.rd e (upd f d (.pointer (some ⟨H.size, 0, none⟩))) x = c) (h1 : c.oneCell' = true)
  (h : ∀ H' b, b = H.size -> H'.size = H.size + 1 -> Bl H' b [c] -> Keep (fun _ => False) H H' -> ops P r e (upd f d (.pointer (some ⟨b, 0, none⟩))) H' Q) :
  kont P (.v d) (.e .no (.st (.v d) x) :: r) e f Q (.pointer (some ⟨H.size, 0, none⟩)) (H.push (.cells #[z] T)) := by
 have hB : Bl (H.push (.cells #[z] T)) H.size [z] := Bl.new' _ _ _
 have hB2 := hB.setc 0 c
 have e1 : (upd f d (.pointer (some ⟨H.size, 0, none⟩))) d = .pointer (some ⟨H.size, 0, none⟩) := by simp [upd]
 rw [kont_eq]
 simp only [env_v, fr_v, ops_e, EX.wp, rd_v, e1, hx]
 refine ⟨⟨hB.okSt (by simp), h1⟩, ?_⟩
 rw [kont_eq]
 simp only [env_no, fr_no, stH]
 exact h _ H.size rfl (by rw [size_setc]; simp) hB2 ((Keep.refl _ _).push _ |>.trans' ((Keep.refl (fun q => q = H.size) _).setc _ (.inl rfl)) fun q hq e => by omega)
theorem retN {H : Hp} {b n : Nat} {us cs : List Value} {R : Value -> Hp -> Prop} (B : Bl H b us) (hu : us.length = n) (hn : cs.length = n) (hs : cs.all (fun v => v.oneCell') = true) (h : ∀ H', H'.size = H.size -> Bl H' b cs -> Keep (fun k => k = b) H H' -> R (.agg cs.toArray) H') :
  (okNA H ⟨b, 0, none⟩ n /\ all1 cs.toArray) /\ (ldNO (stNA H ⟨b, 0, none⟩ cs) (.pointer (some ⟨b, 0, none⟩)) n).isSome = true /\ R (.agg ((ldNO (stNA H ⟨b, 0, none⟩ cs) (.pointer (some ⟨b, 0, none⟩)) n).getD #[])) (stNA H ⟨b, 0, none⟩ cs) := by
 have hB := B.stNA 0 cs
 have hw : wrL us 0 cs = cs := wrL_all _ _ (by rw [hn, hu])
 rw [hw] at hB
 refine ⟨⟨B.okNA (o := 0) (n := n) (by omega), all1_of hs⟩, ?_⟩
 rw [hB.ldNO n hn.symm]
 exact ⟨rfl, h _ (size_stNA _ _ _) hB ((Keep.refl _ _).stNA _ (.inl rfl))⟩
def rngQ (q i k : Nat) (J : Nat -> Fr -> Hp -> Prop) (Qb : Ex -> Fr -> Hp -> Prop) : Ex -> Fr -> Hp -> Prop
 | .n, f, H => J (k + 1) (upd f i (.int .i64 ((k + 1 : Nat) : Int))) H
 | .x j, f, H => if j = q then J (k + 1) (upd f i (.int .i64 ((k + 1 : Nat) : Int))) H else Qb (.x j) f H
 | .r, f, H => Qb .r f H
@[go_sem] theorem rngQ_n (q i k : Nat) (J) (Qb) (f : Fr) (H : Hp) : rngQ q i k J Qb .n f H = J (k + 1) (upd f i (.int .i64 ((k + 1 : Nat) : Int))) H := rfl
@[go_sem] theorem rngQ_x (q i k j : Nat) (J) (Qb) (f : Fr) (H : Hp) : rngQ q i k J Qb (.x j) f H = if j = q then J (k + 1) (upd f i (.int .i64 ((k + 1 : Nat) : Int))) H else Qb (.x j) f H := rfl
@[go_sem] theorem rngQ_r (q i k : Nat) (J) (Qb) (f : Fr) (H : Hp) : rngQ q i k J Qb .r f H = Qb .r f H := rfl
theorem vc_range {P : Program} {c i n t x0 q : Nat} {body : S} {Qb : Ex -> Fr -> Hp -> Prop} {f : Fr} {H : Hp} (N : Nat) (ws : List Nat)
  (hws : (c :: i :: body.wr).all (ws.contains ·) = true) (hin : ([i, c].contains n || body.wr.contains n || body.wr.contains i || body.wr.contains c || i == c) = false) (hN : N <= 9223372036854775807) (hi : f i = .int .i64 0) (hn : f n = .int .i64 (N : Int))
  (J : Nat -> Fr -> Hp -> Prop) (h0 : J 0 f H)
  (hr : ∀ k g H', k < N -> (over f g ws) i = .int .i64 (k : Int) -> (over f g ws) n = .int .i64 (N : Int) -> J k (over f g ws) H' -> vc P body (rngQ q i k J Qb) (upd (over f g ws) c (.bool true)) H')
  (he : ∀ g H', (over f g ws) i = .int .i64 (N : Int) -> J N (over f g ws) H' -> Qb (.x x0) (upd (over f g ws) c (.bool false)) H') :
  vc P (.loop (.seq (.reg [.p (.v c) (.cm .lss .i64 (.v i) (.v n))]) (.seq (.ite (.v c) .skip (.exit x0)) (.seq (.blk q body) (.reg [.p (.t t) (.ar .add .i64 (.v i) (.c (.int .i64 1))), .p (.v i) (.mv (.t t))]))))) Qb f H := by
 simp only [Bool.or_eq_false_iff, List.contains_cons, List.contains_nil, Bool.or_false, beq_eq_false_iff_ne, ne_eq] at hin
 obtain ⟨⟨⟨⟨⟨hni, hnc⟩, hnb⟩, hib⟩, hcb⟩, hic⟩ := hin
 have hnb' : n ∉ body.wr := by simpa using hnb
 have hib' : i ∉ body.wr := by simpa using hib
 have hsub : (S.seq (.reg [.p (.v c) (.cm .lss .i64 (.v i) (.v n))]) (.seq (.ite (.v c) .skip (.exit x0)) (.seq (.blk q body) (.reg [.p (.t t) (.ar .add .i64 (.v i) (.c (.int .i64 1))), .p (.v i) (.mv (.t t))])))).wr.all (ws.contains ·) = true := by
  rw [List.all_eq_true] at hws ⊢
  intro y hy
  refine hws y ?_
  simp [S.wr, O.wr, D.wr] at hy
  rcases hy with rfl | hy | rfl
  ·simp
  ·simp [hy]
  ·simp
 refine vc_loop ws hsub (fun m g A => ∃ k : Nat, k <= N /\ m = N - k /\ g i = .int .i64 (k : Int) /\ g n = .int .i64 (N : Int) /\ J k g A) N ⟨0, by omega, by omega, hi, hn, h0⟩ ?_
 rintro m g A ⟨k, hk, rfl, gi, gn, hJ⟩
 generalize hG : over f g ws = G at *
 simp only [vc_seq, vc_reg, ops_p, ops_nil, thenQ_n, PX.pre, PX.val, rd_v, gi, gn, env_v, fr_v, isI_int, cmI, and_self, true_and, Value.i, vc_ite]
 have e1 : (upd G c (.bool (decide ((k : Int) < (N : Int))))) c = .bool (decide ((k : Int) < (N : Int))) := by simp [upd]
 rw [e1]
 refine iteV_dec (fun hlt => ?_) (fun hge => ?_)
 ·have hlt : k < N := by omega
  have e2 : decide ((k : Int) < (N : Int)) = true := decide_eq_true (by omega)
  rw [e2]
  simp only [vc_skip, thenQ_n, vc_seq, vc_blk]
  have := hr k g A hlt (by rw [hG]; exact gi) (by rw [hG]; exact gn) (by rw [hG]; exact hJ)
  rw [hG] at this
  refine vc_keep body _ _ _ _ ?_ this
  intro ex f1 H1 h1 hkp
  have k1 : f1 i = .int .i64 (k : Int) := by rw [hkp i hib']; simp [upd, hic, gi]
  have k2 : f1 n = .int .i64 (N : Int) := by rw [hkp n hnb']; simp [upd, hnc, gn]
  have fin : J (k + 1) (upd f1 i (.int .i64 ((k + 1 : Nat) : Int))) H1 -> vc P (.reg [.p (.t t) (.ar .add .i64 (.v i) (.c (.int .i64 1))), .p (.v i) (.mv (.t t))]) (loopQ (fun m g A => ∃ k : Nat, k <= N /\ m = N - k /\ g i = .int .i64 (k : Int) /\ g n = .int .i64 (N : Int) /\ J k g A) (N - k) Qb) f1 H1 := fun hJ' => by
   have w1 : IntKind.i64.wrap ((k : Int) + 1) = ((k + 1 : Nat) : Int) := by rw [IntWalk.i64_in _ (by omega)]; omega
   simp only [vc_reg, ops_p, ops_nil, PX.pre, PX.val, rd_v, rd_c, rd_t, k1, env_t, fr_t, env_v, fr_v, look_cons, if_true, isI_int, arI, Value.i, w1, loopQ_n, and_self, true_and]
   exact ⟨N - (k + 1), by omega, k + 1, by omega, rfl, by simp [upd], by simp [upd, hni, k2], hJ'⟩
  cases ex with
  | n => exact fin h1
  | r => exact h1
  | x j =>
   simp only [rngQ_x, blkQ_x] at h1 ⊢
   split
   ·rename_i hj; rw [if_pos hj] at h1; exact fin h1
   ·rename_i hj; rw [if_neg hj] at h1; exact h1
 ·have : k = N := by omega
  subst this
  have e2 : decide ((k : Int) < (k : Int)) = false := decide_eq_false (by omega)
  rw [e2]
  simp only [vc_exit, thenQ_x, loopQ_x]
  have := he g A (by rw [hG]; exact gi) (by rw [hG]; exact hJ)
  rw [hG] at this
  exact this
theorem app_field {α : Type} {enc : α -> List Value} {k : Nat} {P : Program} {T : TypeId} {bytes : Nat} {z : Array Value} {lv sv : Value} {H : Hp} {a d p off : Nat} {e : Env} {f : Fr} {Q : Fr -> Hp -> Prop} {b C : Nat} {cs : List Value} {L M : List α}
  (hk : ∀ x, (enc x).length = k) (h1c : ∀ x, ∀ v ∈ enc x, v.oneCell' = true) (hs : OwE enc k H lv L) (hn : ∀ q, ownB lv q -> C <= q) (hH : C <= H.size) (hx : SlE enc k H sv M) (hz : z.size = k) (hb : bytes <= 64) (h1 : L.length + M.length <= 1000000000)
  (hB : Bl H b cs) (hbC : b < C) (hoff : off < cs.length) (hf : f d = .pointer (some ⟨b, 0, none⟩)) (hap : (p == a) = false)
  (hK : ∀ v' H', OwE enc k H' v' (L ++ M) -> (∀ q, ownB v' q -> C <= q) -> Bl H' b (cs.set off v') -> Keep (fun q => q = b \/ C <= q) H H' -> Q f H') :
  AppC false T k bytes z lv sv H (kontK P (fun q => q = b \/ C <= q) H (.t a) (.px (.t p) none (.fa off (.v d)) (.wcons .no none (.st (.t p) (.t a)) .done .wnil)) e f Q) := by
 refine app_EN C hk h1c hs hn hH hx hz hb h1 fun v' H' O' o' K' => ?_
 have hap' : ¬ a = p := fun h => by simp [h] at hap
 have B' := K'.bl hB (by omega)
 have hsl : isSl v' := by obtain ⟨_, _, _, rfl⟩ := O'.shape; trivial
 refine ⟨K'.mono fun q _ h => .inr h, ?_⟩
 have K2 : Keep (fun q => q = b \/ C <= q) H (setc H' ⟨b, off, none⟩ v') := (K'.mono fun q _ h => .inr h).setc _ (.inl (.inl rfl))
 have K3 : Keep (fun q => q = b \/ C <= q) H' (setc H' ⟨b, off, none⟩ v') := (Keep.refl _ _).setc _ (.inl (.inl rfl))
 simp only [tvk_px, tvk_w, tvk_wnil, tvk_done, stabX, PX.free, PX.pre, PX.val, isP, rd_v, rd_t, env_t, fr_t, fr_no, env_no, look_cons, hf, ptrAdd, add_mk, Nat.zero_add, if_true, hap', if_false, EX.wp, okSt, stH, kontK_eq, and_true, true_and]
 exact ⟨⟨B'.okSt hoff, all1_sl hsl⟩, K3, hK v' _ (O'.keep ((Keep.refl (fun q => q = b) H').setc v' (.inl rfl)) fun q hq e => by have := o' q hq; omega) o' (B'.setc off v') K2⟩
theorem app_fieldX {α : Type} {enc : α -> List Value} {k : Nat} {P : Program} {T : TypeId} {bytes : Nat} {z : Array Value} {lv sv : Value} {H : Hp} {a d p off : Nat} {e : Env} {f : Fr} {Q : Fr -> Hp -> Prop} {b C : Nat} {cs : List Value} {L M : List α} {W : Nat -> Prop} (hWb : W b) (hWo : ∀ q, ownB lv q -> W q)
  (hk : ∀ x, (enc x).length = k) (h1c : ∀ x, ∀ v ∈ enc x, v.oneCell' = true) (hs : OwE enc k H lv L) (hn : ∀ q, ownB lv q -> C <= q) (hH : C <= H.size) (hx : SlE enc k H sv M) (hz : z.size = k) (hb : bytes <= 64) (h1 : L.length + M.length <= 1000000000)
  (hB : Bl H b cs) (hbC : b < C) (hoff : off < cs.length) (hf : f d = .pointer (some ⟨b, 0, none⟩)) (hap : (p == a) = false)
  (hK : ∀ v' H', OwE enc k H' v' (L ++ M) -> (∀ q, ownB v' q -> ownB lv q \/ H.size <= q) -> Bl H' b (cs.set off v') -> Keep (fun q => q = b \/ ownB lv q) H H' -> Q f H') :
  AppC false T k bytes z lv sv H (kontK P W H (.t a) (.px (.t p) none (.fa off (.v d)) (.wcons .no none (.st (.t p) (.t a)) .done .wnil)) e f Q) := by
 refine app_E hk h1c hs hx hz (by unfold maxLen; omega) (Nat.le_trans (Nat.mul_le_mul h1 hb) (by omega)) fun v' H' O' K' o' => ?_
 have hap' : ¬ a = p := fun h => by simp [h] at hap
 have B' := K'.bl hB (fun h => by have := hn b h; omega)
 have hsl : isSl v' := by obtain ⟨_, _, _, rfl⟩ := O'.shape; trivial
 have hs' := K'.size
 refine ⟨K'.mono fun q _ h => hWo q h, ?_⟩
 have K2 : Keep (fun q => q = b \/ ownB lv q) H (setc H' ⟨b, off, none⟩ v') := (K'.mono fun q _ h => .inr h).setc _ (.inl (.inl rfl))
 have K3 : Keep W H' (setc H' ⟨b, off, none⟩ v') := (Keep.refl _ _).setc _ (.inl hWb)
 simp only [tvk_px, tvk_w, tvk_wnil, tvk_done, stabX, PX.free, PX.pre, PX.val, isP, rd_v, rd_t, env_t, fr_t, fr_no, env_no, look_cons, hf, ptrAdd, add_mk, Nat.zero_add, if_true, hap', if_false, EX.wp, okSt, stH, kontK_eq, and_true, true_and]
 exact ⟨⟨B'.okSt hoff, all1_sl hsl⟩, K3, hK v' _ (O'.keep ((Keep.refl (fun q => q = b) H').setc v' (.inl rfl)) fun q hq e => by
  rcases o' q hq with h | h
  ·have := hn q h; omega
  ·omega) o' (B'.setc off v') K2⟩
theorem app_fieldR {α : Type} {enc : α -> List Value} {k : Nat} {P : Program} {T : TypeId} {bytes : Nat} {z : Array Value} {lv sv : Value} {H : Hp} {a d p off : Nat} {e : Env} {f : Fr} {Q : Fr -> Hp -> Prop} {b C : Nat} {cs : List Value} {L M : List α}
  (hk : ∀ x, (enc x).length = k) (h1c : ∀ x, ∀ v ∈ enc x, v.oneCell' = true) (hs : OwE enc k H lv L) (hn : ∀ q, ownB lv q -> C <= q) (hH : C <= H.size) (hx : SlE enc k H sv M) (hz : z.size = k) (hb : bytes <= 64) (h1 : L.length + M.length <= 1000000000)
  (hB : Bl H b cs) (hbC : b < C) (hoff : off < cs.length) (hf : f d = .pointer (some ⟨b, 0, none⟩)) (hap : (p == a) = false)
  (hK : ∀ v' H', OwE enc k H' v' (L ++ M) -> (∀ q, ownB v' q -> C <= q) -> Bl H' b (cs.set off v') -> Keep (fun q => q = b \/ C <= q) H H' -> Q f H') :
  AppC false T k bytes z lv sv H (kont P (.t a) [.p (.t p) (.fa off (.v d)), .e .no (.st (.t p) (.t a))] e f Q) := by
 refine app_EN C hk h1c hs hn hH hx hz hb h1 fun v' H' O' o' K' => ?_
 have hap' : ¬ a = p := fun h => by simp [h] at hap
 have B' := K'.bl hB (by omega)
 have hsl : isSl v' := by obtain ⟨_, _, _, rfl⟩ := O'.shape; trivial
 have K2 : Keep (fun q => q = b \/ C <= q) H (setc H' ⟨b, off, none⟩ v') := (K'.mono fun q _ h => .inr h).setc _ (.inl (.inl rfl))
 rw [kont_eq]
 simp only [ops_p, ops_e, ops_nil, kont_eq, PX.pre, PX.val, isP, rd_v, rd_t, env_t, fr_t, fr_no, env_no, look_cons, hf, ptrAdd, add_mk, Nat.zero_add, if_true, hap', if_false, EX.wp, okSt, stH, and_true, true_and]
 exact ⟨⟨B'.okSt hoff, all1_sl hsl⟩, hK v' _ (O'.keep ((Keep.refl (fun q => q = b) H').setc v' (.inl rfl)) fun q hq e => by have := o' q hq; omega) o' (B'.setc off v') K2⟩
end Go.Mg

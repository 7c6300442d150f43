/- loops over a range, and a variable that is made and set at once. -/
import Derived.Test.YteeemadonfcliacDoorMgEl
namespace Go.Mg
open Go Go.RowKit
set_option linter.all false
def rngQ (q i k : Nat) (J : Nat -> Fr -> Hp -> Prop) (Qb : Ex -> Fr -> Hp -> Prop) : Ex -> Fr -> Hp -> Prop
 | .n, f, H => J (k + 1) (upd f i (.int .i64 ((k + 1 : Nat) : Int))) H
 | .x j, f, H => if j = q then J (k + 1) (upd f i (.int .i64 ((k + 1 : Nat) : Int))) H else Qb (.x j) f H
 | .r, f, H => Qb .r f H
@[go_sem] theorem rngQ_n (q i k : Nat) (J) (Qb) (f : Fr) (H : Hp) : rngQ q i k J Qb .n f H = J (k + 1) (upd f i (.int .i64 ((k + 1 : Nat) : Int))) H := rfl
@[go_sem] theorem rngQ_x (q i k j : Nat) (J) (Qb) (f : Fr) (H : Hp) : rngQ q i k J Qb (.x j) f H = if j = q then J (k + 1) (upd f i (.int .i64 ((k + 1 : Nat) : Int))) H else Qb (.x j) f H := rfl
@[go_sem] theorem rngQ_r (q i k : Nat) (J) (Qb) (f : Fr) (H : Hp) : rngQ q i k J Qb .r f H = Qb .r f H := rfl
theorem vc_range {P : Program} {c i n t x0 q : Nat} {body : S} {Qb : Ex -> Fr -> Hp -> Prop} {f : Fr} {H : Hp} (N : Nat) (ws : List Nat)
  (hws : (c :: i :: body.wr).all (ws.contains ·) = true) (hin : ([i, c].contains n || body.wr.contains n || body.wr.contains i || body.wr.contains c || i == c) = false) (hN : N <= 9223372036854775807) (hi : f i = .int .i64 0) (hn : f n = .int .i64 (N : Int))
  (J : Nat -> Fr -> Hp -> Prop) (h0 : J 0 f H)
  (hr : ∀ k g H', k < N -> (over f g ws) i = .int .i64 (k : Int) -> (over f g ws) n = .int .i64 (N : Int) -> J k (over f g ws) H' -> vc P body (rngQ q i k J Qb) (upd (over f g ws) c (.bool true)) H')
  (he : ∀ g H', (over f g ws) i = .int .i64 (N : Int) -> J N (over f g ws) H' -> Qb (.x x0) (upd (over f g ws) c (.bool false)) H') :
  vc P (.loop (.seq (.reg [.p (.v c) (.cm .lss .i64 (.v i) (.v n))]) (.seq (.ite (.v c) .skip (.exit x0)) (.seq (.blk q body) (.reg [.p (.t t) (.ar .add .i64 (.v i) (.c (.int .i64 1))), .p (.v i) (.mv (.t t))]))))) Qb f H := by
 simp only [Bool.or_eq_false_iff, List.contains_cons, List.contains_nil, Bool.or_false, beq_eq_false_iff_ne, ne_eq] at hin
 obtain ⟨⟨⟨⟨⟨hni, hnc⟩, hnb⟩, hib⟩, hcb⟩, hic⟩ := hin
 have hnb' : n ∉ body.wr := by simpa using hnb
 have hib' : i ∉ body.wr := by simpa using hib
 have hsub : (S.seq (.reg [.p (.v c) (.cm .lss .i64 (.v i) (.v n))]) (.seq (.ite (.v c) .skip (.exit x0)) (.seq (.blk q body) (.reg [.p (.t t) (.ar .add .i64 (.v i) (.c (.int .i64 1))), .p (.v i) (.mv (.t t))])))).wr.all (ws.contains ·) = true := by
  rw [List.all_eq_true] at hws ⊢
  intro y hy
  refine hws y ?_
  simp [S.wr, O.wr, D.wr] at hy
  rcases hy with rfl | hy | rfl
  ·simp
  ·simp [hy]
  ·simp
 refine vc_loop ws hsub (fun m g A => ∃ k : Nat, k <= N /\ m = N - k /\ g i = .int .i64 (k : Int) /\ g n = .int .i64 (N : Int) /\ J k g A) N ⟨0, by omega, by omega, hi, hn, h0⟩ ?_
 rintro m g A ⟨k, hk, rfl, gi, gn, hJ⟩
 generalize hG : over f g ws = G at *
 simp only [vc_seq, vc_reg, ops_p, ops_nil, thenQ_n, PX.pre, PX.val, rd_v, gi, gn, env_v, fr_v, isI_int, cmI, and_self, true_and, Value.i, vc_ite]
 have e1 : (upd G c (.bool (decide ((k : Int) < (N : Int))))) c = .bool (decide ((k : Int) < (N : Int))) := by simp [upd]
 rw [e1]
 refine iteV_dec (fun hlt => ?_) (fun hge => ?_)
 ·have hlt : k < N := by omega
  have e2 : decide ((k : Int) < (N : Int)) = true := decide_eq_true (by omega)
  rw [e2]
  simp only [vc_skip, thenQ_n, vc_seq, vc_blk]
  have := hr k g A hlt (by rw [hG]; exact gi) (by rw [hG]; exact gn) (by rw [hG]; exact hJ)
  rw [hG] at this
  refine vc_keep body _ _ _ _ ?_ this
  intro ex f1 H1 h1 hkp
  have k1 : f1 i = .int .i64 (k : Int) := by rw [hkp i hib']; simp [upd, hic, gi]
  have k2 : f1 n = .int .i64 (N : Int) := by rw [hkp n hnb']; simp [upd, hnc, gn]
  have fin : J (k + 1) (upd f1 i (.int .i64 ((k + 1 : Nat) : Int))) H1 -> vc P (.reg [.p (.t t) (.ar .add .i64 (.v i) (.c (.int .i64 1))), .p (.v i) (.mv (.t t))]) (loopQ (fun m g A => ∃ k : Nat, k <= N /\ m = N - k /\ g i = .int .i64 (k : Int) /\ g n = .int .i64 (N : Int) /\ J k g A) (N - k) Qb) f1 H1 := fun hJ' => by
   have w1 : IntKind.i64.wrap ((k : Int) + 1) = ((k + 1 : Nat) : Int) := by rw [IntWalk.i64_in _ (by omega)]; omega
   simp only [vc_reg, ops_p, ops_nil, PX.pre, PX.val, rd_v, rd_c, rd_t, k1, env_t, fr_t, env_v, fr_v, look_cons, if_true, isI_int, arI, Value.i, w1, loopQ_n, and_self, true_and]
   exact ⟨N - (k + 1), by omega, k + 1, by omega, rfl, by simp [upd], by simp [upd, hni, k2], hJ'⟩
  cases ex with
  | n => exact fin h1
  | r => exact h1
  | x j =>
   simp only [rngQ_x, blkQ_x] at h1 ⊢
   split
   ·rename_i hj; rw [if_pos hj] at h1; exact fin h1
   ·rename_i hj; rw [if_neg hj] at h1; exact h1
 ·have : k = N := by omega
  subst this
  have e2 : decide ((k : Int) < (k : Int)) = false := decide_eq_false (by omega)
  rw [e2]
  simp only [vc_exit, thenQ_x, loopQ_x]
  have := he g A (by rw [hG]; exact gi) (by rw [hG]; exact hJ)
  rw [hG] at this
  exact this
end Go.Mg

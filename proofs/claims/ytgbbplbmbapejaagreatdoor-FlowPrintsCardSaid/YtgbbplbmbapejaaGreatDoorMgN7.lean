/- names: tables of lists, the reference's lists, and the law about them. -/
import Derived.Test.YtgbbplbmbapejaaGreatDoorMgN6
open Nat renaming reduceEqDiff → Za, reduceAdd → Zb, reduceMul → Zc
namespace Go.Mg
open Go Go.RowKit
set_option linter.all false
set_option maxRecDepth 100000
def c_nof (ι : Ids) : S :=
 .seq (.reg [.p (.v 4) (.mv (.c (.pointer .none))), .p (.v 5) (.mv (.c (.int .i64 0)))]) (.seq (.reg [.e (.t 12) (.call (ι.f 83) []), .p (.v 6) (.mv (.t 12))]) (.seq (.seq (.reg [.p (.v 13) (.mv (.v
 0)), .p (.v 14) (.m (.lenl (.v 13))), .p (.v 15) (.mv (.c (.int .i64 0)))]) (.blk 0 (.loop (.seq (.reg [.p (.v 16) (.cm .lss .i64 (.v 15) (.v 14))]) (.seq (.ite (.v 16) .skip (.exit 0)) (.seq (.blk 1
 (.seq (.reg [.p (.t 17) (.is 1 (.v 13) (.v 15)), .p (.t 18) (.ld (.t 17)), .p (.v 8) (.mv (.t 18))]) (.seq (.reg [.p (.t 20) (.mv (.v 6)), .p (.t 21) (.mv (.v 8)), .p (.t 22) (.mv (.v 1)), .e (.t 23)
 (.call (ι.f 84) [.t 20, .t 21, .t 22]), .p (.t 19) (.mv (.t 23)), .p (.t 24) (.ext (.t 19) 0), .p (.t 25) (.ext (.t 19) 1), .p (.t 26) (.ext (.t 19) 2), .p (.v 9) (.mv (.t 24)), .p (.t 10) (.mv (.t
 25)), .p (.v 11) (.mv (.t 26))]) (.seq (.seq (.reg [.p (.t 27) (.mv (.v 11)), .p (.v 28) (.cm .neq .i64 (.t 27) (.c (.int .i64 0)))]) (.ite (.v 28) (.seq (.reg [.p (.t 29) (.mv (.v 11)), .p (.v 4)
 (.mv (.c (.pointer .none))), .p (.v 5) (.mv (.t 29))]) .ret) .skip)) (.reg [.p (.t 30) (.mv (.v 9)), .p (.v 6) (.mv (.t 30))]))))) (.reg [.p (.t 31) (.ar .add .i64 (.v 15) (.c (.int .i64 1))), .p (.v
 15) (.mv (.t 31))]))))))) (.seq (.reg [.p (.t 32) (.mv (.v 6)), .p (.v 4) (.mv (.t 32)), .p (.v 5) (.mv (.c (.int .i64 0)))]) .ret)))
def r_nof : List RV := [.t 4, .t 5]
def ofE (most : Int) : List (List UInt8) -> List (List UInt8) -> Int
 | _, [] => 0
 | d, s :: r => if addE d s most = 0 then ofE most (d ++ [s]) r else addE d s most
theorem ofE_step (w : List (List UInt8)) (most : Int) (i : Nat) (h : i < w.length) : ofE most (w.take i) (w.drop i) = if addE (w.take i) (w.getD i []) most = 0 then ofE most (w.take (i + 1)) (w.drop (i + 1)) else addE (w.take i) (w.getD i []) most := by
 have e : w.drop i = w.getD i [] :: w.drop (i + 1) := by
  rw [List.drop_eq_getElem_cons h]; simp [h]
 have e2 : w.take (i + 1) = w.take i ++ [w.getD i []] := by rw [List.take_add_one]; simp [h]
 rw [e, ofE, e2]
def WSmall (w : List (List UInt8)) : Prop := w.length <= 300 /\ ∀ i, i < w.length -> (w.getD i []).length <= 1000000
def NOfSpec (P : Program) (k : FuncId) : Prop := ∀ (w : List (List UInt8)) (v : Value) (most : Int) (H : Hp), SlR H v (sL w) -> WSmall w -> CallsM P k #[v, .int .i64 most] H fun r H' => Keep (fun _ => False) H H' ∧
 ((ofE most [] w ≠ 0 /\ r = .tuple #[.pointer none, .int .i64 (ofE most [] w)]) \/ (ofE most [] w = 0 /\ ∃ t F, r = .tuple #[.pointer (some ⟨t, 0, none⟩), .int .i64 0] /\ TabB F H' t w /\ ∀ k, F k -> H.size <= k))
theorem nof_ok {P : Program} {ι : Ids} {k : FuncId} (hk : FnIs P k (c_nof ι) r_nof 2) (hnw : NNewSpec P (ι.f 83)) (had : AddSpec P (ι.f 84)) : NOfSpec P k := by
 intro w v most H hv hsm
 refine calls_of_vc hk (args := [_, _]) (by simp) ?_
 unfold c_nof r_nof
 have hw3 := hsm.1
 simp only [go_sem, zS, ↓reduceIte, Za, Zb, Zc, reduceCtorEq, kont_eq]
 refine (hnw _).mono ?_
 rintro r H1 ⟨rfl, T1, K1, z1⟩
 have S1 := hv.keep K1 (by simp)
 simp only [go_sem, zS, ↓reduceIte, Za, Zb, Zc, reduceCtorEq, kont_eq, S1.isSl, S1.len, sL_len]
 refine vc_loop [16, 8, 9, 11, 28, 4, 5, 6, 15] rfl (fun n f H' => ∃ i F t, i <= w.length /\ n = w.length - i /\ f 15 = .int .i64 i /\ f 6 = .pointer (some ⟨t, 0, none⟩)
   /\ TabB F H' t (w.take i) /\ (∀ k, F k -> H.size <= k) /\ Keep (fun _ => False) H H' /\ ofE most [] w = ofE most (w.take i) (w.drop i)) w.length
  ⟨0, _, _, by omega, by omega, rfl, rfl, T1, fun k hk => by omega, K1, rfl⟩ ?_
 rintro n g H4 ⟨i, F, t, hi, rfl, hf15, hf6, T4, d4, K4, hE⟩
 simp only [go_sem, zS, ↓reduceIte, Za, Zb, Zc, reduceCtorEq, kont_eq] at hf15 hf6
 simp only [go_sem, zS, ↓reduceIte, Za, Zb, Zc, reduceCtorEq, kont_eq, hf15]
 refine iteV_dec (fun hlt => ?_) (fun hge => ?_)
 ·have hi2 : i < w.length := by omega
  rw [ofE_step w most i hi2] at hE
  obtain ⟨bV, oV, cV, rfl, -, -⟩ := hv.cells (by intro e; have h := congrArg List.length e; rw [sL_len, List.length_nil] at h; omega)
  have hcell := (hv.keep K4 (by simp)).cell_at (i := i) (by rw [sL_len]; omega)
  rw [sL_get _ _ hi2] at hcell
  have hsl := hsm.2 i hi2
  have e2 : w.take (i + 1) = w.take i ++ [w.getD i []] := by rw [List.take_add_one]; simp [hi2]
  generalize w.getD i [] = s at *
  simp (disch := omega) only [go_sem, zS, ↓reduceIte, Za, Zb, Zc, reduceCtorEq, kont_eq, hf15, hf6, hcell, sL_len, tn_cast]
  refine And.intro (by omega) ?_
  refine (had F t _ s most _ T4 (by omega)).mono ?_
  rintro r H6 ⟨K6, h6⟩
  have K6' := K4.trans K6
  have k4 := K4.size
  rcases h6 with ⟨he, rfl⟩ | ⟨he, t', rfl, T6'⟩
  ·rw [if_neg he] at hE
   have e2 : (addE (w.take i) s most != 0) = true := by simpa using he
   simp (disch := omega) only [go_sem, zS, ↓reduceIte, Za, Zb, Zc, reduceCtorEq, kont_eq, hf15, hf6, e2]
   exact ⟨K6', .inl ⟨by rw [hE]; exact he, by rw [hE]⟩⟩
  ·rw [if_pos he] at hE
   have e1 : ((0 : Int) != 0) = false := rfl
   simp (disch := omega) only [go_sem, zS, ↓reduceIte, Za, Zb, Zc, reduceCtorEq, kont_eq, hf15, hf6, e1, IntWalk.i64_in]
   exact ⟨w.length - (i + 1), by omega, i + 1, _, t', by omega, rfl, by simp, rfl, by rw [e2]; exact T6', fun k hk => by omega, K6', hE⟩
 ·have hi2 : i = w.length := by omega
  subst hi2
  rw [List.take_length] at T4
  rw [List.drop_length, ofE] at hE
  simp only [go_sem, zS, ↓reduceIte, Za, Zb, Zc, reduceCtorEq, kont_eq, hf6]
  exact ⟨K4, .inr ⟨hE, t, F, rfl, T4, d4⟩⟩
end Go.Mg

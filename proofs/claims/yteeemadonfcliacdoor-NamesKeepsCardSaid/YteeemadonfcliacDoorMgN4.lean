/- names: questions to tables, lists of texts, the reference. -/
import Derived.Test.YteeemadonfcliacDoorMgN3
open Nat renaming reduceEqDiff → Za, reduceAdd → Zb, reduceMul → Zc
namespace Go.Mg
open Go Go.RowKit
set_option linter.all false
set_option maxRecDepth 100000
def c_nsame (ι : Ids) : S :=
 .seq (.reg [.p (.v 4) (.mv (.c (.bool false)))]) (.seq (.seq (.reg [.p (.t 6) (.mv (.v 0)), .p (.t 7) (.m (.lenl (.t 6))), .p (.t 8) (.mv (.v 1)), .p (.t 9) (.m (.lenl (.t 8))), .p (.v 10) (.cm .neq
 .i64 (.t 7) (.t 9))]) (.ite (.v 10) (.seq (.reg [.p (.v 4) (.mv (.c (.bool false)))]) .ret) .skip)) (.seq (.seq (.reg [.p (.t 11) (.mv (.v 0)), .p (.v 12) (.m (.lenl (.t 11))), .p (.v 13) (.mv (.c
 (.int .i64 0)))]) (.blk 0 (.loop (.seq (.reg [.p (.v 14) (.cm .lss .i64 (.v 13) (.v 12))]) (.seq (.ite (.v 14) .skip (.exit 0)) (.seq (.blk 1 (.seq (.reg [.p (.t 15) (.mv (.v 13)), .p (.v 5) (.mv (.t
 15))]) (.seq (.reg [.p (.t 16) (.mv (.v 0)), .p (.t 17) (.mv (.v 5)), .p (.t 18) (.is 1 (.t 16) (.t 17)), .p (.t 19) (.ld (.t 18)), .p (.t 20) (.mv (.v 1)), .p (.t 21) (.mv (.v 5)), .p (.t 22) (.is 1
 (.t 20) (.t 21)), .p (.t 23) (.ld (.t 22)), .p (.v 24) (.sc .neq (.t 19) (.t 23))]) (.ite (.v 24) (.seq (.reg [.p (.v 4) (.mv (.c (.bool false)))]) .ret) .skip)))) (.reg [.p (.t 25) (.ar .add .i64 (.v
 13) (.c (.int .i64 1))), .p (.v 13) (.mv (.t 25))]))))))) (.seq (.reg [.p (.v 4) (.mv (.c (.bool true)))]) .ret)))
def r_nsame : List RV := [.t 4]
def c_nwords (ι : Ids) : S :=
 .seq (.reg [.p (.v 2) (.mv (.c (.slice .none 0 0)))]) (.seq (.reg [.p (.v 3) (.mv (.c (.slice .none 0 0)))]) (.seq (.seq (.reg [.p (.v 4) (.mv (.c (.int .i64 0)))]) (.blk 0 (.loop (.seq (.seq (.reg
 [.p (.t 5) (.mv (.v 4)), .p (.t 6) (.mv (.v 0)), .p (.t 7) (.m (.lenl (.t 6))), .p (.t 8) (.cm .lss .i64 (.t 5) (.t 7)), .p (.t 9) (.mv (.t 8)), .gp (.t 10) (.t 9) true (.mv (.v 4)), .gp (.t 11) (.t
 9) true (.cm .lss .i64 (.t 10) (.c (.int .i64 24))), .p (.v 12) (.pick (.t 9) (.t 11) (.c (.bool false)))]) (.ite (.v 12) .skip (.exit 0))) (.seq (.blk 1 (.reg [.p (.t 15) (.mv (.v 3)), .p (.t 16)
 (.mv (.v 0)), .p (.t 17) (.mv (.v 4)), .p (.t 18) (.is 1 (.t 16) (.t 17)), .p (.t 19) (.ld (.t 18)), .e (.t 20) (.call (ι.f 77) [.t 19]), .e (.t 21) (.bldF (ι.t 67) 1 1 [.t 20]), .e (.t 22) (.app
 false (ι.t 67) 1 16 #[.string ⟨#[]⟩] (.t 15) (.t 21)), .p (.v 3) (.mv (.t 22))])) (.reg [.p (.t 13) (.mv (.v 4)), .p (.t 14) (.ar .add .i64 (.t 13) (.c (.int .i64 1))), .p (.v 4) (.mv (.t 14))]))))))
 (.seq (.reg [.p (.t 23) (.mv (.v 3)), .p (.v 2) (.mv (.t 23))]) .ret)))
def r_nwords : List RV := [.t 2]
def SameSpec (P : Program) (k : FuncId) : Prop := ∀ (a b : List (List UInt8)) (va vb : Value) (H : Hp), SlR H va (sL a) -> SlR H vb (sL b) -> a.length <= 1000000 -> CallsM P k #[va, vb] H fun r H' => r = .bool (decide (a = b)) /\ H' = H
theorem nsame_ok {P : Program} {ι : Ids} {k : FuncId} (hk : FnIs P k (c_nsame ι) r_nsame 2) : SameSpec P k := by
 intro a b va vb H ha hb hl
 refine calls_of_vc hk (args := [_, _]) (by simp) ?_
 unfold c_nsame r_nsame
 by_cases c1 : a.length = b.length
 ·have e1 : ((a.length : Int) != (b.length : Int)) = false := by rw [c1]; exact bne_self_eq_false _
  simp only [go_sem, zS, ↓reduceIte, Za, Zb, Zc, reduceCtorEq, kont_eq, ha.isSl, ha.len, hb.isSl, hb.len, sL_len, e1]
  refine vc_loop [14, 5, 24, 4, 13] rfl (fun n f H' => ∃ i, i <= a.length /\ n = a.length - i /\ f 13 = .int .i64 i /\ (∀ j, j < i -> a.getD j [] = b.getD j []) /\ H' = H) a.length
   ⟨0, by omega, by omega, rfl, fun j hj => by omega, rfl⟩ ?_
  rintro n g H' ⟨i, hi, rfl, hf, hx, rfl⟩
  simp only [go_sem, zS, ↓reduceIte, Za, Zb, Zc, reduceCtorEq, kont_eq] at hf
  simp only [go_sem, zS, ↓reduceIte, Za, Zb, Zc, reduceCtorEq, kont_eq, hf]
  refine iteV_dec (fun hlt => ?_) (fun hge => ?_)
  ·have hi2 : i < a.length := by omega
   obtain ⟨b1, o1, q1, rfl, -, hc1⟩ := ha.cells (by intro e; have h := congrArg List.length e; rw [sL_len, List.length_nil] at h; omega)
   obtain ⟨b2, o2, q2, rfl, -, hc2⟩ := hb.cells (by intro e; have h := congrArg List.length e; rw [sL_len, List.length_nil] at h; omega)
   have hci1 := hc1 i (by rw [sL_len]; omega)
   have hci2 := hc2 i (by rw [sL_len]; omega)
   rw [sL_get _ _ hi2] at hci1
   rw [sL_get _ _ (by omega)] at hci2
   simp (disch := omega) only [go_sem, zS, ↓reduceIte, Za, Zb, Zc, reduceCtorEq, kont_eq, hf, sL_len, hci1, hci2, tn_cast, ba_tlb]
   refine And.intro (by omega) (And.intro (by omega) ?_)
   by_cases h1 : a.getD i [] = b.getD i []
   ·simp (disch := omega) only [go_sem, zS, ↓reduceIte, Za, Zb, Zc, reduceCtorEq, kont_eq, h1, hf, IntWalk.i64_in, iteV]
    refine ⟨a.length - (i + 1), by omega, i + 1, by omega, rfl, by simp, fun j hj => ?_⟩
    by_cases e : j = i
    ·subst e; exact h1
    ·exact hx j (by omega)
   ·have hne : a ≠ b := fun e => h1 (by rw [e])
    simp only [go_sem, zS, ↓reduceIte, Za, Zb, Zc, reduceCtorEq, kont_eq, h1, hne, iteV]
  ·have hi2 : i = a.length := by omega
   subst hi2
   have : a = b := by
    apply List.ext_getElem c1
    intro j h1 h2
    have := hx j h1
    simpa [List.getD_eq_getElem?_getD, h1, h2] using this
   simp only [go_sem, zS, ↓reduceIte, Za, Zb, Zc, reduceCtorEq, kont_eq, this]
 ·have e1 : ((a.length : Int) != (b.length : Int)) = true := by
   simp only [bne_iff_ne]; omega
  have hne : a ≠ b := fun e => c1 (by rw [e])
  simp only [go_sem, zS, ↓reduceIte, Za, Zb, Zc, reduceCtorEq, kont_eq, ha.isSl, ha.len, hb.isSl, hb.len, sL_len, e1, hne]
def NNamesSpec (P : Program) (k : FuncId) : Prop := (∀ (F : Nat -> Prop) (t : Nat) (l : List (List UInt8)) (H : Hp), TabB F H t l -> l.length <= 100000 -> CallsM P k #[.pointer (some ⟨t, 0, none⟩)] H fun r H' => OwS H' r (sL l) /\ (∀ k, ownB r k -> H.size <= k) /\ Keep (fun _ => False) H H') ∧
 ∀ H, CallsM P k #[.pointer none] H fun r H' => r = .slice none 0 0 /\ H' = H
theorem nnames_ok {P : Program} {ι : Ids} {k : FuncId} (hk : FnIs P k (c_nnames ι) r_nnames 1) (hc : SCloneSpec P (ι.f 78)) : NNamesSpec P k := by
 constructor
 ·intro F t l H ht hl
  refine calls_of_vc hk (args := [_]) (by simp) ?_
  unfold c_nnames r_nnames
  obtain ⟨vs, vm, hB, hS, hM, hFt, hFs, hFm, hFb⟩ := ht
  simp only [go_sem, zS, ↓reduceIte, Za, Zb, Zc, reduceCtorEq, kont_eq, hB.cell]
  refine (hc _ _ _ hS hl).mono ?_
  rintro r H1 ⟨O1, o1, K1⟩
  simp only [go_sem, zS, ↓reduceIte, Za, Zb, Zc, reduceCtorEq, kont_eq]
  exact ⟨O1, o1, K1⟩
 ·intro H
  refine calls_of_vc hk (args := [_]) (by simp) ?_
  unfold c_nnames r_nnames
  simp only [go_sem, zS, ↓reduceIte, Za, Zb, Zc, reduceCtorEq, kont_eq]
def wordsF (l : List UInt8) (n : Nat) : List (List UInt8) := (l.take n).map fun x => wordL.getD (x.toNat % 20) []
theorem wordsF_len (l : List UInt8) (n : Nat) (h : n <= l.length) : (wordsF l n).length = n := by simp [wordsF]; omega
theorem wordsF_succ (l : List UInt8) (n : Nat) (h : n < l.length) : wordsF l (n + 1) = wordsF l n ++ [wordL.getD ((l.getD n 0).toNat % 20) []] := by
 have e : l.take (n + 1) = l.take n ++ [l.getD n 0] := by
  rw [List.take_add_one]; simp [h]
 unfold wordsF
 rw [e, List.map_append]; rfl
theorem wordsF_small (l : List UInt8) (n i : Nat) (hi : i < (wordsF l n).length) : ((wordsF l n).getD i []).length <= 20 := by
 have : (wordsF l n).getD i [] ∈ wordsF l n := by
  rw [List.getD_eq_getElem?_getD, List.getElem?_eq_getElem hi]; simp
 generalize (wordsF l n).getD i [] = w at *
 unfold wordsF at this
 obtain ⟨x, -, rfl⟩ := List.mem_map.1 this
 exact wordL_len x
def WordsSpec (P : Program) (k : FuncId) : Prop := ∀ (l : List UInt8) (v : Value) (H : Hp), SlR H v (w8 l) -> CallsM P k #[v] H fun r H' => OwS H' r (sL (wordsF l (min l.length 24))) /\ (∀ k, ownB r k -> H.size <= k) /\ Keep (fun _ => False) H H'
theorem nwords_ok {P : Program} {ι : Ids} {k : FuncId} (hk : FnIs P k (c_nwords ι) r_nwords 1) (hw : NWordSpec P (ι.f 77)) : WordsSpec P k := by
 intro l v H hv
 refine calls_of_vc hk (args := [_]) (by simp) ?_
 unfold c_nwords r_nwords
 simp only [go_sem, zS, ↓reduceIte, Za, Zb, Zc, reduceCtorEq, kont_eq]
 refine vc_loop [12, 3, 4] rfl (fun n f H' => ∃ i, i <= 24 /\ i <= l.length /\ n = 24 - i /\ f 4 = .int .i64 i /\ OwS H' (f 3) (sL (wordsF l i)) /\ (∀ k, ownB (f 3) k -> H.size <= k) /\ Keep (fun _ => False) H H') 24
  ⟨0, by omega, by omega, by omega, rfl, OwS.nil _, fun k h => h.elim, Keep.refl _ _⟩ ?_
 rintro n g H1 ⟨i, hi24, hil, rfl, hf4, O1, o1, K1⟩
 simp only [go_sem, zS, ↓reduceIte, Za, Zb, Zc, reduceCtorEq, kont_eq] at hf4 O1 o1
 have k1 := K1.size
 by_cases hc : i < l.length /\ i < 24
 ·obtain ⟨hc1, hc2⟩ := hc
  have d1 : (i : Int) < (l.length : Int) := by omega
  have d2 : (i : Int) < 24 := by omega
  obtain ⟨bV, oV, cV, rfl, -, hcc⟩ := hv.cells (by intro e; have h := congrArg List.length e; rw [w8_len, List.length_nil] at h; omega)
  have hcell := (hv.keep K1 (by simp)).cell_at (i := i) (by rw [w8_len]; omega)
  rw [w8_get _ _ hc1] at hcell
  simp only [go_sem, zS, ↓reduceIte, Za, Zb, Zc, reduceCtorEq, kont_eq, hf4, w8_len, d1, d2, hcell, tn_cast]
  refine And.intro (by omega) ?_
  refine (hw _ _).mono ?_
  rintro r H2 ⟨rfl, K2⟩
  have K2' := K1.trans K2
  have k2 := K2'.size
  rw [kont_eq]
  simp only [go_sem, zS, ↓reduceIte, Za, Zb, Zc, reduceCtorEq, kont_eq]
  generalize hA : Array.push H2 _ = H3
  have K3 : Keep (fun _ => False) H2 H3 := by rw [<- hA]; exact (Keep.refl _ _).push _
  have B3 : Bl H3 H2.size (sL [wordL.getD ((l.getD i 0).toNat % 20) []]) := by rw [<- hA]; exact Bl.new' _ _ _
  have K3' := K2'.trans K3
  refine app_slN H.size (l := sL (wordsF l i)) (m := sL [wordL.getD ((l.getD i 0).toNat % 20) []]) ((O1.keep K2 (by simp)).keep K3 (by simp)) o1 K3'.size (SlR.bl B3 0 1 1 (by omega) (by simp [sL])) (sL_all1 _) rfl (by omega) (by rw [sL_len, sL_len, wordsF_len _ _ hil]; simp; omega) fun v4 H4 O4 o4 K4 => ?_
  rw [<- sL_app, <- wordsF_succ _ _ hc1] at O4
  simp (disch := omega) only [go_sem, zS, ↓reduceIte, Za, Zb, Zc, reduceCtorEq, kont_eq, hf4, IntWalk.i64_in]
  exact ⟨24 - (i + 1), by omega, i + 1, by omega, by omega, rfl, by simp, O4, o4, K3'.at_old K4 (Nat.le_refl _)⟩
 ·have hm : min l.length 24 = i := by omega
  have hex : ¬ (i : Int) < (l.length : Int) \/ ((i : Int) < (l.length : Int) /\ ¬ (i : Int) < 24) := by omega
  rw [hm]
  rcases hex with d1 | ⟨d1, d2⟩
  all_goals
   simp only [go_sem, zS, ↓reduceIte, Za, Zb, Zc, reduceCtorEq, kont_eq, hf4, hv.isSl, hv.len, w8_len, d1]
   try simp only [go_sem, zS, ↓reduceIte, Za, Zb, Zc, reduceCtorEq, kont_eq, hf4, hv.isSl, hv.len, w8_len, d1, d2]
   exact ⟨O1, o1, K1⟩
end Go.Mg

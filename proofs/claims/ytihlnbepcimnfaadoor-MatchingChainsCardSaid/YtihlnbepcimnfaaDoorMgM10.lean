/- matching: slices of ints, move. -/
import Derived.Test.YtihlnbepcimnfaaDoorMgM9
import Derived.Test.YtihlnbepcimnfaaDoorMgMA
namespace Go.Mg
open Go Go.RowKit
set_option linter.unusedSimpArgs false
set_option linter.unusedVariables false
set_option maxRecDepth 100000
/- slices.Index[[]int,int] -/
def c_slidx (ι : Ids) : S :=
  .seq (.reg [.p (.v 4) (.mv (.c (.int .i64 0)))]) (.seq (.seq (.reg [.p (.t 6) (.mv (.v 0)), .p (.v 7) (.m (.lenl (.t 6))), .p (.v 8) (.mv (.c (.int .i64 0)))]) (.blk 0 (.loop (.seq (.reg [.p (.v 9)
  (.cm .lss .i64 (.v 8) (.v 7))]) (.seq (.ite (.v 9) .skip (.exit 0)) (.seq (.blk 1 (.seq (.reg [.p (.t 10) (.mv (.v 8)), .p (.v 5) (.mv (.t 10))]) (.seq (.reg [.p (.t 11) (.mv (.v 1)), .p (.t 12) (.mv
  (.v 0)), .p (.t 13) (.mv (.v 5)), .p (.t 14) (.is 1 (.t 12) (.t 13)), .p (.t 15) (.ld (.t 14)), .p (.v 16) (.cm .eql .i64 (.t 11) (.t 15))]) (.ite (.v 16) (.seq (.reg [.p (.t 17) (.mv (.v 5)), .p (.v
  4) (.mv (.t 17))]) .ret) .skip)))) (.reg [.p (.t 18) (.ar .add .i64 (.v 8) (.c (.int .i64 1))), .p (.v 8) (.mv (.t 18))]))))))) (.seq (.reg [.p (.v 4) (.mv (.c (.int .i64 (-1))))]) .ret))
def r_slidx : List RV := [.t 4]
/- slices.Contains[[]int,int] -/
def c_slcon (ι : Ids) : S :=
  .seq (.reg [.p (.v 4) (.mv (.c (.bool false)))]) (.seq (.reg [.p (.t 5) (.mv (.v 0)), .p (.t 6) (.mv (.v 1)), .e (.t 7) (.call (ι.f 157) [.t 5, .t 6]), .p (.t 8) (.cm .geq .i64 (.t 7) (.c (.int .i64
  0))), .p (.v 4) (.mv (.t 8))]) .ret)
def r_slcon : List RV := [.t 4]
/- slices.Clone[[]int,int] -/
def c_slcln (ι : Ids) : S :=
  .seq (.reg [.p (.v 2) (.mv (.c (.slice .none 0 0)))]) (.seq (.seq (.reg [.p (.t 3) (.mv (.v 0)), .p (.v 4) (.m (.eqn .sl false (.t 3)))]) (.ite (.v 4) (.seq (.reg [.p (.v 2) (.mv (.c (.slice .none 0
  0)))]) .ret) .skip)) (.seq (.reg [.e (.t 5) (.bldF (ι.t 26) 1 0 []), .p (.t 6) (.mv (.v 0)), .e (.t 7) (.app false (ι.t 26) 1 8 #[.int .i64 0] (.t 5) (.t 6)), .p (.v 2) (.mv (.t 7))]) .ret))
def r_slcln : List RV := [.t 2]
/- (ptr matching.search).move -/
def c_mmove (ι : Ids) : S :=
  .seq (.reg [.p (.v 6) (.mv (.c (.bool false)))]) (.seq (.dr (.px (.t 10) .none (.mv (.v 0)) (.px (.t 11) .none (.nil (.t 10)) (.px (.t 12) .none (.fa 1 (.t 11)) (.px (.t 13) .none (.ld (.t 12)) (.px
  (.t 15) .none (.mv (.v 0)) (.px (.t 16) .none (.nil (.t 15)) (.px (.t 17) .none (.fa 2 (.t 16)) (.px (.t 18) .none (.m (.ldn 256 (.t 17))) (.wcons (.t 14) .none (.call (ι.f 159) [.t 13]) (.wcons (.v
  8) .none (.new (ι.t 160) (Array.replicate 256 (.int .i64 0))) (.px (.v 7) .none (.mv (.t 14)) (.wcons .no .none (.stn 256 (.v 8) (.t 18)) .done .wnil)) .wnil) (.wcons (.v 8) .none (.new (ι.t 160)
  (Array.replicate 256 (.int .i64 0))) (.wcons (.t 14) .none (.call (ι.f 159) [.t 13]) (.px (.v 7) .none (.mv (.t 14)) (.wcons .no .none (.stn 256 (.v 8) (.t 18)) .done .wnil)) .wnil) .wnil)))))))))))
  (.seq (.reg [.p (.t 19) (.mv (.v 0)), .p (.t 20) (.mv (.v 0)), .p (.t 21) (.nil (.t 20)), .p (.t 22) (.fa 1 (.t 21)), .p (.t 23) (.ld (.t 22)), .p (.t 24) (.mv (.v 1)), .p (.t 25) (.is 1 (.t 23) (.t
  24)), .p (.t 26) (.ld (.t 25)), .p (.t 27) (.nil (.t 19)), .p (.t 28) (.fa 2 (.t 27)), .p (.t 29) (.ia 256 1 (.t 28) (.t 26)), .e .no (.st (.t 29) (.c (.int .i64 (-1))))]) (.seq (.reg [.p (.t 30) (.mv
  (.v 0)), .p (.t 31) (.mv (.v 2)), .p (.t 32) (.nil (.t 30)), .p (.t 33) (.fa 2 (.t 32)), .p (.t 34) (.ia 256 1 (.t 33) (.t 31)), .p (.t 35) (.ld (.t 34)), .p (.v 9) (.mv (.t 35))]) (.seq (.dr (.px (.t
  36) .none (.mv (.v 0)) (.px (.t 37) .none (.nil (.t 36)) (.px (.t 38) .none (.fa 1 (.t 37)) (.px (.t 40) .none (.mv (.v 1)) (.px (.t 41) .none (.mv (.v 0)) (.px (.t 42) .none (.mv (.v 2)) (.px (.t 43)
  .none (.mv (.v 2)) (.px (.t 44) .none (.mv (.v 1)) (.px (.t 46) .none (.nil (.t 41)) (.px (.t 47) .none (.fa 2 (.t 46)) (.wcons (.t 39) .none (.rd (.ld (.t 38))) (.px (.t 45) .none (.is 1 (.t 39) (.t
  40)) (.wcons .no .none (.st (.t 45) (.t 43)) (.px (.t 48) .none (.ia 256 1 (.t 47) (.t 42)) (.wcons .no .none (.st (.t 48) (.t 44)) .done .wnil)) .wnil)) .wnil)))))))))))) (.seq (.seq (.reg [.p (.t
  49) (.mv (.v 9)), .p (.v 50) (.cm .lss .i64 (.t 49) (.c (.int .i64 0)))]) (.ite (.v 50) (.seq (.reg [.p (.v 6) (.mv (.c (.bool true)))]) .ret) .skip)) (.seq (.reg [.p (.t 51) (.mv (.v 0)), .p (.t 52)
  (.nil (.t 51)), .p (.t 53) (.fa 1 (.t 52)), .p (.t 54) (.ld (.t 53)), .p (.t 55) (.mv (.v 9)), .p (.t 56) (.is 1 (.t 54) (.t 55)), .e .no (.st (.t 56) (.c (.int .i64 (-1))))]) (.seq (.reg [.p (.t 57)
  (.mv (.v 0)), .p (.t 58) (.m (.bld (Array.replicate 256 (.bool false)) [])), .p (.t 59) (.nil (.t 57)), .p (.t 60) (.fa 514 (.t 59)), .e .no (.stn 256 (.t 60) (.t 58))]) (.seq (.reg [.p (.t 61) (.mv
  (.v 0)), .p (.t 62) (.mv (.v 2)), .p (.t 63) (.nil (.t 61)), .p (.t 64) (.fa 514 (.t 63)), .p (.t 65) (.ia 256 1 (.t 64) (.t 62)), .e .no (.st (.t 65) (.c (.bool true)))]) (.seq (.seq (.reg [.p (.t
  66) (.mv (.v 0)), .p (.t 67) (.mv (.v 9)), .e (.v 68) (.call (ι.f 147) [.t 66, .t 67])]) (.ite (.v 68) (.seq (.reg [.p (.v 6) (.mv (.c (.bool true)))]) .ret) .skip)) (.seq (.dr (.px (.t 69) .none (.mv
  (.v 0)) (.px (.t 70) .none (.mv (.v 0)) (.px (.t 71) .none (.mv (.v 7)) (.px (.t 73) .none (.nil (.t 69)) (.px (.t 74) .none (.fa 1 (.t 73)) (.wcons (.t 72) .none (.rd (.m (.ldn 256 (.v 8)))) (.wcons
  .no .none (.st (.t 74) (.t 71)) (.px (.t 75) .none (.nil (.t 70)) (.px (.t 76) .none (.fa 2 (.t 75)) (.wcons .no .none (.stn 256 (.t 76) (.t 72)) .done .wnil))) .wnil) (.wcons .no .none (.st (.t 74)
  (.t 71)) (.wcons (.t 72) .none (.rd (.m (.ldn 256 (.v 8)))) (.px (.t 75) .none (.nil (.t 70)) (.px (.t 76) .none (.fa 2 (.t 75)) (.wcons .no .none (.stn 256 (.t 76) (.t 72)) .done .wnil))) .wnil)
  .wnil)))))))) (.seq (.reg [.p (.v 6) (.mv (.c (.bool false)))]) .ret)))))))))))
def r_mmove : List RV := [.t 6]

def IIdxSpec (P : Program) (k : FuncId) : Prop := ∀ (l : List Int) (v : Value) (x : Int) (H : Hp), SlR H v (iL l) → l.length ≤ 1000000 → CallsM P k #[v, .int .i64 x] H fun r H' => (∃ n : Int, r = .int .i64 n ∧ (0 ≤ n ↔ x ∈ l)) ∧ H' = H
theorem slidx_ok {P : Program} {ι : Ids} {k : FuncId} (hk : FnIs P k (c_slidx ι) r_slidx 2) : IIdxSpec P k := by
  intro l v x H hv hl1
  refine calls_of_vc hk (args := [_, _]) (by simp) ?_
  unfold c_slidx r_slidx
  simp only [go_sem, List.map_cons, List.map_nil, ↓reduceIte, Nat.reduceEqDiff, Nat.reduceAdd, Nat.reduceMul, reduceCtorEq, and_true, true_and, Nat.mul_one, Nat.zero_add, Bool.false_eq_true, decide_true, decide_false, not_false_eq_true, kont_eq, hv.isSl, hv.len, iL_len]
  refine vc_loop [9, 5, 16, 4, 8] rfl (fun n f H' => ∃ i : Nat, i ≤ l.length ∧ n = l.length - i ∧ f 8 = .int .i64 i ∧ (∀ a < i, ∀ h : a < l.length, l[a] ≠ x) ∧ H' = H) l.length
    ⟨0, by omega, by omega, by simp only [go_sem, List.map_cons, List.map_nil, ↓reduceIte, Nat.reduceEqDiff, Nat.reduceAdd, Nat.reduceMul, reduceCtorEq, and_true, true_and, Nat.mul_one, Nat.zero_add, Bool.false_eq_true, decide_true, decide_false, not_false_eq_true, kont_eq]; rfl, fun a ha => by omega, rfl⟩ ?_
  rintro n f H1 ⟨i, hi, rfl, hf, hx, rfl⟩
  simp only [go_sem, List.map_cons, List.map_nil, ↓reduceIte, Nat.reduceEqDiff, Nat.reduceAdd, Nat.reduceMul, reduceCtorEq, and_true, true_and, Nat.mul_one, Nat.zero_add, Bool.false_eq_true, decide_true, decide_false, not_false_eq_true, kont_eq] at hf
  simp only [go_sem, List.map_cons, List.map_nil, ↓reduceIte, Nat.reduceEqDiff, Nat.reduceAdd, Nat.reduceMul, reduceCtorEq, and_true, true_and, Nat.mul_one, Nat.zero_add, Bool.false_eq_true, decide_true, decide_false, not_false_eq_true, hf]
  refine iteV_dec (fun hlt => ?_) (fun hge => ?_)
  · have hlt : i < l.length := by omega
    obtain ⟨b, o, c, rfl, hlm, hc⟩ := hv.cells (by intro e; have h := congrArg List.length e; rw [iL_len, List.length_nil] at h; omega)
    rw [iL_len] at hc hlm
    have hci := hc i hlt
    rw [iL_get _ _ hlt] at hci
    have egi : l.getD i 0 = l[i] := by rw [List.getD_eq_getElem?_getD, List.getElem?_eq_getElem hlt]; rfl
    rw [egi] at hci
    by_cases h : x = l[i]
    · have e : (x == l[i]) = true := by simpa using h
      simp only [go_sem, List.map_cons, List.map_nil, ↓reduceIte, Nat.reduceEqDiff, Nat.reduceAdd, Nat.reduceMul, reduceCtorEq, and_true, true_and, Nat.mul_one, Nat.zero_add, Bool.false_eq_true, decide_true, decide_false, not_false_eq_true, kont_eq, hf, iL_len, tn_cast, Nat.mul_one, hci, e]
      exact ⟨by omega, ⟨i, rfl, ⟨fun _ => by rw [h]; exact List.getElem_mem _, fun _ => by omega⟩⟩⟩
    · have e : (x == l[i]) = false := by simpa using h
      simp (disch := omega) only [go_sem, List.map_cons, List.map_nil, ↓reduceIte, Nat.reduceEqDiff, Nat.reduceAdd, Nat.reduceMul, reduceCtorEq, and_true, true_and, Nat.mul_one, Nat.zero_add, Bool.false_eq_true, decide_true, decide_false, not_false_eq_true, kont_eq, hf, iL_len, tn_cast, Nat.mul_one, hci, e, IntWalk.i64_in]
      refine ⟨by omega, l.length - (i + 1), by omega, i + 1, by omega, rfl, by simp, fun a ha ha' => ?_⟩
      by_cases e2 : a = i
      · subst e2; exact fun h' => h h'.symm
      · exact hx a (by omega) ha'
  · refine ⟨-1, rfl, ⟨fun h => by omega, fun h => ?_⟩⟩
    obtain ⟨a, ha, e⟩ := List.getElem_of_mem h
    exact absurd e (hx a (by omega) ha)
def IConSpec (P : Program) (k : FuncId) : Prop := ∀ (l : List Int) (v : Value) (x : Int) (H : Hp), SlR H v (iL l) → l.length ≤ 1000000 → CallsM P k #[v, .int .i64 x] H fun r H' => (∃ b : Bool, r = .bool b ∧ (b = true ↔ x ∈ l)) ∧ H' = H
theorem slcon_ok {P : Program} {ι : Ids} {k : FuncId} (hk : FnIs P k (c_slcon ι) r_slcon 2) (hi : IIdxSpec P (ι.f 157)) : IConSpec P k := by
  intro l v x H hv hl1
  refine calls_of_vc hk (args := [_, _]) (by simp) ?_
  unfold c_slcon r_slcon
  simp only [go_sem, List.map_cons, List.map_nil, ↓reduceIte, Nat.reduceEqDiff, Nat.reduceAdd, Nat.reduceMul, reduceCtorEq, and_true, true_and, Nat.mul_one, Nat.zero_add, Bool.false_eq_true, decide_true, decide_false, not_false_eq_true, kont_eq]
  refine (hi l v x H hv hl1).mono ?_
  rintro r H1 ⟨⟨n, rfl, hn⟩, rfl⟩
  simp only [go_sem, List.map_cons, List.map_nil, ↓reduceIte, Nat.reduceEqDiff, Nat.reduceAdd, Nat.reduceMul, reduceCtorEq, and_true, true_and, Nat.mul_one, Nat.zero_add, Bool.false_eq_true, decide_true, decide_false, not_false_eq_true, kont_eq]
  exact ⟨_, rfl, by rw [decide_eq_true_iff]; exact hn⟩
def IClnSpec (P : Program) (k : FuncId) : Prop := ∀ (l : List Int) (v : Value) (H : Hp), SlR H v (iL l) → l.length ≤ 1000000 → CallsM P k #[v] H fun r H' => OwS H' r (iL l) ∧ (∀ k, ownB r k → H.size ≤ k) ∧ Keep (fun _ => False) H H'
theorem slcln_ok {P : Program} {ι : Ids} {k : FuncId} (hk : FnIs P k (c_slcln ι) r_slcln 1) : IClnSpec P k := by
  intro l v H hv hl
  refine calls_of_vc hk (args := [_]) (by simp) ?_
  unfold c_slcln r_slcln
  obtain ⟨a, c, hvm, hlc⟩ := hv.mk
  rw [iL_len] at hvm hlc
  subst hvm
  cases a with
  | none =>
    have h0 : l = [] := by
      rcases hv with ⟨_, _, _, h⟩ | ⟨_, _, _, _, h, _⟩
      · cases l with
        | nil => rfl
        | cons _ _ => cases h
      · cases h
    subst h0
    simp only [go_sem, List.map_cons, List.map_nil, ↓reduceIte, Nat.reduceEqDiff, Nat.reduceAdd, Nat.reduceMul, reduceCtorEq, and_true, true_and, Nat.mul_one, Nat.zero_add, Bool.false_eq_true, decide_true, decide_false, not_false_eq_true, kont_eq]
    exact ⟨OwS.nil _, fun k h => h.elim, Keep.refl _ _⟩
  | some p =>
    simp only [go_sem, List.map_cons, List.map_nil, ↓reduceIte, Nat.reduceEqDiff, Nat.reduceAdd, Nat.reduceMul, reduceCtorEq, and_true, true_and, Nat.mul_one, Nat.zero_add, Bool.false_eq_true, decide_true, decide_false, not_false_eq_true, fillV_nil, fillV_cons, okFill_nil, okFill_cons, cells_slice, cells_int, cells_bool, cells_str, cells_ptr, cells_agg, stNH_ptr, okN_ptr, wrA1, wrA20, wrA21]
    refine kont_news fun H1 b e1 z1 B1 K1 => ?_
    have s1 := K1.size
    simp only [go_sem, List.map_cons, List.map_nil, ↓reduceIte, Nat.reduceEqDiff, Nat.reduceAdd, Nat.reduceMul, reduceCtorEq, and_true, true_and, Nat.mul_one, Nat.zero_add, Bool.false_eq_true, decide_true, decide_false, not_false_eq_true, kont_eq]
    have B1 : Bl H1 b [] := B1
    refine app_sl (l := []) (m := iL l) (OwS.bl B1 (by simp) (by simp) (by simp) (by simp)) (hv.keep K1 (by simp)) (iL_all1 l) rfl (by unfold maxLen; rw [iL_len]; simp; omega) (by rw [iL_len]; simp; omega) fun v' H2 O2 M2 N2 => ?_
    obtain ⟨va, vn, vc, rfl⟩ := O2.shape
    simp only [go_sem, List.map_cons, List.map_nil, ↓reduceIte, Nat.reduceEqDiff, Nat.reduceAdd, Nat.reduceMul, reduceCtorEq, and_true, true_and, Nat.mul_one, Nat.zero_add, Bool.false_eq_true, decide_true, decide_false, not_false_eq_true, kont_eq]
    refine ⟨O2, fun k hk => ?_, K1.trans' M2 (fun i hi h => by have h : i = b := h; omega)⟩
    rcases N2 k hk with h | h
    · have h : k = b := h; omega
    · omega
theorem SrG.narrow {H : Hp} {s bl c : Nat} {X : List Value} {gv : Value} {vs : List Value} {g : List (List Nat)} {Z : Nat → Prop} {st : Sst} {F : List Bool} (h : SrG H s bl c X gv vs g Z st F) : SrG H s bl c X gv vs g (fun k => Z k ∧ k < H.size) st F :=
  ⟨h.S, h.L, h.ne, h.sl, h.len, h.at_, fun k hk => ⟨h.z1 k hk, h.sl.old hk⟩, fun i k hi hk => ⟨h.z2 i k hi hk, (h.at_ i hi).old hk⟩, fun h' => h.zs h'.1, fun h' => h.zl h'.1, h.lL, h.lR, h.lS, h.lF⟩
def MvPost (H : Hp) (s bl : Nat) (gv : Value) (vs : List Value) (g : List (List Nat)) (Z : Nat → Prop) (st : Sst) (F : List Bool) (i j : Nat) (r : Value) (H' : Hp) : Prop := ∃ b bl' c' X' st', r = .bool b ∧ SrG H' s bl' c' X' gv vs g Z st' F ∧ (bl' = bl ∨ H.size ≤ bl') ∧ g.length ≤ c' ∧ MvOk g.length 256 (Eg g) st i j b st' ∧ Keep (fun k => k = s ∨ k = bl) H H'
def MoveSpec (P : Program) (k : FuncId) : Prop := ∀ (H : Hp) (s bl c : Nat) (X : List Value) (gv : Value) (vs : List Value) (g : List (List Nat)) (Z : Nat → Prop) (st : Sst) (F : List Bool) (i j p : Nat), SrG H s bl c X gv vs g Z st F → (∀ k, Z k → k < H.size) → (∀ i, ∀ j ∈ g.getD i [], j < 256) → (∀ i, (g.getD i []).length ≤ 4096) → g.length ≤ 256 →
  Inv g.length 256 (Eg g) (gi st.L) (gi st.R) → (∀ a < g.length, 0 ≤ gi st.L a) → i < g.length → j < 256 → Eg g i j → gi st.L i = (p : Int) → p ≠ j → (∀ b < 256, gb' F b = true ↔ ∃ a < i, gi st.L a = (b : Int)) → gb' F j = false →
  g.length ≤ c → CallsM P k #[.pointer (some ⟨s, 0, none⟩), .int .i64 i, .int .i64 j] H (MvPost H s bl gv vs g Z st F i j)
theorem OwS.room {H : Hp} {v : Value} {l : List Value} (h : OwS H v l) (hl : l ≠ []) : ∃ b c C, v = .slice (Option.some ⟨b, 0, Option.none⟩) l.length c ∧ l.length ≤ c ∧ Bl H b (l ++ C) := by
  rcases h with ⟨_, h⟩ | ⟨b, c, L, h1, h2, h3, h4, h5⟩
  · exact absurd h hl
  · refine ⟨b, c, L.drop l.length, h1, by omega, ?_⟩
    have : l ++ L.drop l.length = L := by
      have e := List.take_append_drop l.length L
      rw [h5] at e; exact e
    rw [this]; exact h4
theorem mmove_ok {P : Program} {ι : Ids} {k : FuncId} (hk : FnIs P k (c_mmove ι) r_mmove 3) (ha : AugSpecG P (ι.f 147) 257) (hcl : IClnSpec P (ι.f 159)) : MoveSpec P k := by
  intro H s bl c X gv vs g Z st F i j p hH hZ hg hgl hgn hI hA hi hj hE hLi hpj hF hFj hcX
  refine calls_of_vc hk (args := [_, _, _]) (by simp) ?_
  unfold c_mmove r_mmove
  obtain ⟨R, hR⟩ : ∃ R, R = MvPost H s bl gv vs g Z st F i j := ⟨_, rfl⟩
  rw [← hR]
  have hc1 : cell H ⟨s, 1, none⟩ = some (.slice (some ⟨bl, 0, none⟩) g.length c) := by rw [hH.S.cell, hH.lL]; rfl
  have hss : s < H.size := hH.S.lt
  have hsb : bl < H.size := hH.L.lt
  have hR2 : ldNA H ⟨s, 2, none⟩ 256 = some (iL st.R).toArray := by
    rw [hH.S.ldNA (by rw [srL_len hH.lR hH.lF hH.lS]; omega), srL_getR hH.lR]
  have hsl : SlR H (.slice (some ⟨bl, 0, none⟩) g.length c) (iL st.L) := by
    have := SlR.bl hH.L 0 g.length c hcX (by rw [List.length_append, iL_len, hH.lL]; omega)
    rwa [List.drop_zero, List.take_append_of_le_length (by rw [iL_len, hH.lL]; omega), List.take_of_length_le (by rw [iL_len, hH.lL]; omega)] at this
  simp only [go_sem, List.map_cons, List.map_nil, ↓reduceIte, Nat.reduceEqDiff, Nat.reduceAdd, Nat.reduceMul, reduceCtorEq, and_true, true_and, Nat.mul_one, Nat.zero_add, Bool.false_eq_true, decide_true, decide_false, not_false_eq_true]
  refine vc_mono ?_ ?_ (Q := fun e f H' => e = .n ∧ f 0 = .pointer (some ⟨s, 0, none⟩) ∧ f 1 = .int .i64 i ∧ f 2 = .int .i64 j ∧ ∃ b8 cb c7 C7, f 7 = .slice (some ⟨cb, 0, none⟩) g.length c7 ∧ f 8 = .pointer (some ⟨b8, 0, none⟩) ∧ Bl H' b8 (iL st.R) ∧ Bl H' cb (iL st.L ++ C7) ∧ g.length ≤ c7 ∧ H.size ≤ b8 ∧ H.size ≤ cb ∧ cb ≠ b8 ∧ Keep (fun _ => False) H H')
  · rintro e f H1 ⟨rfl, hf0, hf1, hf2, b8, cb, c7, C7, hf7, hf8, B1, C1, hc7, ho8, hoc, hcb, K1⟩
    have hp : p < 256 := by
      rcases hI.l i hi with h | ⟨q, hq, h, _⟩
      · omega
      · omega
    have S1 := hH.keep K1 (by simp) (by simp) (by simp)
    have cells : ∀ {H2 : Hp} {st2 : Sst}, SrG H2 s bl c X gv vs g Z st2 F → cell H2 ⟨s, 1, none⟩ = some (.slice (some ⟨bl, 0, none⟩) g.length c) := by
      intro H2 st2 h; rw [h.S.cell, h.lL]; rfl
    have cellL : ∀ {H2 : Hp} {st2 : Sst} (a : Nat), a < g.length → SrG H2 s bl c X gv vs g Z st2 F → cell H2 ⟨bl, a, none⟩ = some (.int .i64 (gi st2.L a)) := by
      intro H2 st2 a ha h
      have hal : a < st2.L.length := by rw [h.lL]; exact ha
      rw [h.L.cell, List.getElem?_append_left (by rw [iL_len]; exact hal), iL_get _ _ hal]
      unfold gi
      simp [List.getD_eq_getElem?_getD, hal]
    have cellR : ∀ {H2 : Hp} {st2 : Sst} (b : Nat), b < 256 → SrG H2 s bl c X gv vs g Z st2 F → cell H2 ⟨s, 2 + b, none⟩ = some (.int .i64 (gi st2.R b)) := by
      intro H2 st2 b hb h; rw [h.S.cell, srL_R h.lR hb]
    have okR : ∀ {H2 : Hp} {st2 : Sst} (b : Nat), b < 256 → SrG H2 s bl c X gv vs g Z st2 F → (cell H2 ⟨s, 2 + b, none⟩).isSome = true ∧ frz H2 ⟨s, 2 + b, none⟩ = false := by
      intro H2 st2 b hb h; exact h.S.okSt (o := 2 + b) (by rw [srL_len h.lR h.lF h.lS]; omega)
    have okS : ∀ {H2 : Hp} {st2 : Sst} (b : Nat), b < 256 → SrG H2 s bl c X gv vs g Z st2 F → (cell H2 ⟨s, 514 + b, none⟩).isSome = true ∧ frz H2 ⟨s, 514 + b, none⟩ = false := by
      intro H2 st2 b hb h; exact h.S.okSt (o := 514 + b) (by rw [srL_len h.lR h.lF h.lS]; omega)
    have okL : ∀ {H2 : Hp} {st2 : Sst} (a : Nat), a < g.length → SrG H2 s bl c X gv vs g Z st2 F → (cell H2 ⟨bl, a, none⟩).isSome = true ∧ frz H2 ⟨bl, a, none⟩ = false := by
      intro H2 st2 a ha h; exact h.L.okSt (o := a) (by rw [List.length_append, iL_len, h.lL]; omega)
    have KW : ∀ {H2 : Hp} {o : Nat} {x : Value}, Keep (fun k => k = s ∨ k = bl) H2 (setc H2 ⟨s, o, none⟩ x) := fun {_ _ _} => (Keep.refl _ _).setc _ (.inl (.inl rfl))
    have KWl : ∀ {H2 : Hp} {o : Nat} {x : Value}, Keep (fun k => k = s ∨ k = bl) H2 (setc H2 ⟨bl, o, none⟩ x) := fun {_ _ _} => (Keep.refl _ _).setc _ (.inl (.inr rfl))
    simp only [go_sem, List.map_cons, List.map_nil, ↓reduceIte, Nat.reduceEqDiff, Nat.reduceAdd, Nat.reduceMul, reduceCtorEq, and_true, true_and, Nat.mul_one, Nat.zero_add, Bool.false_eq_true, decide_true, decide_false, not_false_eq_true, hf0, hf1, hf2, cells S1, tn_cast, Nat.mul_one, cellL i hi S1, hLi, okR p hp S1]
    refine ⟨by omega, by omega, ?_⟩
    have S2 := S1.setR hp (-1)
    have K2 : Keep (fun k => k = s ∨ k = bl) H (setc H1 ⟨s, 2 + p, none⟩ (.int .i64 (-1))) := K1.any.trans KW
    have C2 : ∀ {b : Nat} {l : List Value}, Bl H1 b l → H.size ≤ b → Bl (setc H1 ⟨s, 2 + p, none⟩ (.int .i64 (-1))) b l := fun hb h => KW.bl hb (by omega)
    have B2 := C2 B1 ho8
    have C2 := C2 C1 hoc
    generalize setc H1 ⟨s, 2 + p, none⟩ (.int .i64 (-1)) = H2 at S2 K2 B2 C2 ⊢
    rw [kont_eq]
    have eRj : gi (st.R.set p (-1)) j = gi st.R j := by rw [gi_set, if_neg (fun h => hpj h.1.symm)]
    have cRj := cellR j hj S2
    simp only at cRj
    rw [eRj] at cRj
    simp only [go_sem, List.map_cons, List.map_nil, ↓reduceIte, Nat.reduceEqDiff, Nat.reduceAdd, Nat.reduceMul, reduceCtorEq, and_true, true_and, Nat.mul_one, Nat.zero_add, Bool.false_eq_true, decide_true, decide_false, not_false_eq_true, hf0, hf1, hf2, cRj, tn_cast, Nat.mul_one]
    refine ⟨by omega, ?_⟩
    refine vc_mono ?_ ?_ (Q := fun e f H' => e = .n ∧ f 0 = .pointer (some ⟨s, 0, none⟩) ∧ f 2 = .int .i64 j ∧ f 7 = .slice (some ⟨cb, 0, none⟩) g.length c7 ∧ f 8 = .pointer (some ⟨b8, 0, none⟩) ∧ f 9 = .int .i64 (gi st.R j) ∧ SrG H' s bl c X gv vs g Z (mvS st i j) F ∧ Bl H' b8 (iL st.R) ∧ Bl H' cb (iL st.L ++ C7) ∧ Keep (fun k => k = s ∨ k = bl) H H')
    · rintro e f3 H3 ⟨rfl, hf0, hf2, hf7, hf8, hf9, S3, B3, C3, K3⟩
      rcases hI.r j hj with hRj | ⟨k, hk, hRj, hLk⟩
      · rw [hRj] at hf9
        have e0 : decide ((-1 : Int) < 0) = true := rfl
        simp only [go_sem, List.map_cons, List.map_nil, ↓reduceIte, Nat.reduceEqDiff, Nat.reduceAdd, Nat.reduceMul, reduceCtorEq, and_true, true_and, Nat.mul_one, Nat.zero_add, Bool.false_eq_true, decide_true, decide_false, not_false_eq_true, kont_eq, hf9, e0]
        subst hR
        exact ⟨true, bl, c, X, _, rfl, S3, .inl rfl, hcX, mvOk_free hH.toLen hI hA hi hj hE hLi hpj hRj, K3⟩
      · rw [hRj] at hf9
        have e0 : decide ((k : Int) < 0) = false := decide_eq_false (by omega)
        obtain ⟨hI2, eL, hki⟩ := mv_inv hH.toLen hI hi hj hE hLi hpj hk hRj hLk
        simp only [go_sem, List.map_cons, List.map_nil, ↓reduceIte, Nat.reduceEqDiff, Nat.reduceAdd, Nat.reduceMul, reduceCtorEq, and_true, true_and, Nat.mul_one, Nat.zero_add, Bool.false_eq_true, decide_true, decide_false, not_false_eq_true, hf0, hf9, e0, cells S3, tn_cast, Nat.mul_one, okL k hk S3]
        refine ⟨by omega, ?_⟩
        have S4 := S3.setL hk (-1)
        have K4 : Keep (fun k => k = s ∨ k = bl) H (setc H3 ⟨bl, k, none⟩ (.int .i64 (-1))) := K3.trans KWl
        have B4 := (KWl (H2 := H3) (o := k) (x := .int .i64 (-1))).bl B3 (by omega)
        have C4 := (KWl (H2 := H3) (o := k) (x := .int .i64 (-1))).bl C3 (by omega)
        generalize setc H3 ⟨bl, k, none⟩ (.int .i64 (-1)) = H4 at S4 K4 B4 C4 ⊢
        rw [kont_eq]
        have okn := S4.S.okNA (o := 514) (n := 256) (by rw [srL_len S4.lR S4.lF S4.lS]; omega)
        simp only [go_sem, List.map_cons, List.map_nil, ↓reduceIte, Nat.reduceEqDiff, Nat.reduceAdd, Nat.reduceMul, reduceCtorEq, and_true, true_and, Nat.mul_one, Nat.zero_add, Bool.false_eq_true, decide_true, decide_false, not_false_eq_true, fillV_nil, fillV_cons, okFill_nil, okFill_cons, cells_slice, cells_int, cells_bool, cells_str, cells_ptr, cells_agg, stNH_ptr, okN_ptr, wrA1, wrA20, wrA21, hf0, okn]
        have hb : (Array.replicate 256 (Value.bool false)).toList = bL (List.replicate 256 false) := by rw [Array.toList_replicate, bL_rep]
        have hone : all1 (Array.replicate 256 (Value.bool false)) := by
          intro y hy
          rw [Array.toList_replicate] at hy
          rw [List.eq_of_mem_replicate hy]; rfl
        refine ⟨⟨Array.size_replicate, hone⟩, ?_⟩
        rw [hb]
        have S5 := S4.resetSe (S' := List.replicate 256 false) (by simp)
        have KN : Keep (fun k => k = s ∨ k = bl) H4 (stNA H4 ⟨s, 514, none⟩ (bL (List.replicate 256 false))) := (Keep.refl _ _).stNA _ (.inl (.inl rfl))
        have K5 := K4.trans KN
        have B5 := KN.bl B4 (by omega)
        have C5 := KN.bl C4 (by omega)
        generalize stNA H4 ⟨s, 514, none⟩ (bL (List.replicate 256 false)) = H5 at S5 K5 B5 C5 ⊢
        rw [kont_eq]
        simp only [go_sem, List.map_cons, List.map_nil, ↓reduceIte, Nat.reduceEqDiff, Nat.reduceAdd, Nat.reduceMul, reduceCtorEq, and_true, true_and, Nat.mul_one, Nat.zero_add, Bool.false_eq_true, decide_true, decide_false, not_false_eq_true, hf0, hf2, tn_cast, Nat.mul_one, okS j hj S5]
        refine ⟨by omega, ?_⟩
        have S6 := S5.setSe hj true
        have K6 : Keep (fun k => k = s ∨ k = bl) H (setc H5 ⟨s, 514 + j, none⟩ (.bool true)) := K5.trans KW
        have B6 := (KW (H2 := H5) (o := 514 + j) (x := .bool true)).bl B5 (by omega)
        have C6 := (KW (H2 := H5) (o := 514 + j) (x := .bool true)).bl C5 (by omega)
        generalize setc H5 ⟨s, 514 + j, none⟩ (.bool true) = H6 at S6 K6 B6 C6 ⊢
        rw [kont_eq]
        simp only [go_sem, List.map_cons, List.map_nil, ↓reduceIte, Nat.reduceEqDiff, Nat.reduceAdd, Nat.reduceMul, reduceCtorEq, and_true, true_and, Nat.mul_one, Nat.zero_add, Bool.false_eq_true, decide_true, decide_false, not_false_eq_true, hf0, hf9]
        obtain ⟨st6, hst6⟩ : ∃ st6 : Sst, st6 = ⟨(mvS st i j).L.set k (-1), (mvS st i j).R, (List.replicate 256 false).set j true⟩ := ⟨_, rfl⟩
        have S6 : SrG H6 s bl c X gv vs g Z st6 F := by rw [hst6]; exact S6
        have hI6 : Inv g.length 256 (Eg g) (gi st6.L) (gi st6.R) := by rw [hst6]; exact hI2
        have hu : uns st6.Se < 257 := by
          have := cn_le st6.Se.length (fun j => !gb' st6.Se j)
          have := S6.lS
          unfold uns; omega
        have h0k : gi st6.L k = -1 := by rw [hst6]; simp only; rw [eL, if_neg hki, if_pos rfl]
        obtain ⟨hY, hN⟩ := augF_ok (n := g.length) (F := F) hg 257 st6 k hu ⟨S6.lL, S6.lR, S6.lS⟩ hI6 hk (.inl h0k)
        refine (ha H6 s bl c X gv vs g Z st6 F k S6 hg hgl hgn hu hI6 hk (.inl h0k)).mono ?_
        rintro r H7 ⟨rfl, S7, K7⟩
        have K07 := K6.trans K7
        generalize augF g F 257 st6 k = RR at S7 hY hN
        obtain ⟨rb, st7⟩ := RR
        simp only at S7 hY hN
        have hmv := mvOk_k (b := rb) (s' := st7) hH.toLen hI hA hi hj hE hLi hpj hk hRj hLk hF hFj (fun h => by rw [← hst6]; exact hY h) (fun h => by rw [← hst6]; exact hN h)
        cases rb with
        | true =>
          simp only [go_sem, List.map_cons, List.map_nil, ↓reduceIte, Nat.reduceEqDiff, Nat.reduceAdd, Nat.reduceMul, reduceCtorEq, and_true, true_and, Nat.mul_one, Nat.zero_add, Bool.false_eq_true, decide_true, decide_false, not_false_eq_true, kont_eq]
          subst hR
          exact ⟨true, bl, c, X, st7, rfl, S7, .inl rfl, hcX, hmv, K07⟩
        | false =>
          rw [kont_eq]
          simp only [go_sem, List.map_cons, List.map_nil, ↓reduceIte, Nat.reduceEqDiff, Nat.reduceAdd, Nat.reduceMul, reduceCtorEq, and_true, true_and, Nat.mul_one, Nat.zero_add, Bool.false_eq_true, decide_true, decide_false, not_false_eq_true]
          have B7 := K7.bl B6 (by omega)
          have C7' := K7.bl C6 (by omega)
          have hld : ldNA H7 ⟨b8, 0, none⟩ 256 = some (iL st.R).toArray := by
            have := B7.ldNO 256 (by rw [iL_len, hH.lR]); exact this
          have KS1 : Keep (fun k => k = s ∨ k = bl) H7 (setc H7 ⟨s, 1, none⟩ (.slice (some ⟨cb, 0, none⟩) g.length c7)) := KW
          have okc : (cell H7 ⟨s, 1, none⟩).isSome = true ∧ frz H7 ⟨s, 1, none⟩ = false := S7.S.okSt (o := 1) (by rw [srL_len S7.lR S7.lF S7.lS]; omega)
          have B8 := S7.S.setc 1 (.slice (some ⟨cb, 0, none⟩) g.length c7)
          have hs8 : (srL gv (.slice (some ⟨bl, 0, none⟩) st7.L.length c) st7.R F st7.Se).set 1 (.slice (some ⟨cb, 0, none⟩) g.length c7) = srL gv (.slice (some ⟨cb, 0, none⟩) g.length c7) st7.R F st7.Se := rfl
          rw [hs8] at B8
          have L8 := KS1.bl C7' (by omega)
          have B78 := KS1.bl B7 (by omega)
          have SL8 := S7.sl.keep KS1 (fun k hk e => by rcases e with e | e; exact S7.zs (e ▸ S7.z1 k hk); exact S7.zl (e ▸ S7.z1 k hk))
          have AT8 := fun i hi => (S7.at_ i hi).keep KS1 (fun k hk e => by rcases e with e | e; exact S7.zs (e ▸ S7.z2 i k hi hk); exact S7.zl (e ▸ S7.z2 i k hi hk))
          have K08 := K07.trans KS1
          refine vc_drk (fun k => k = s ∨ k = bl) ?_
          simp only [go_sem, List.map_cons, List.map_nil, ↓reduceIte, Nat.reduceEqDiff, Nat.reduceAdd, Nat.reduceMul, reduceCtorEq, and_true, true_and, Nat.mul_one, Nat.zero_add, Bool.false_eq_true, decide_true, decide_false, not_false_eq_true, kont_eq, hf0, hf7, hf8]
          generalize setc H7 ⟨s, 1, none⟩ (.slice (some ⟨cb, 0, none⟩) g.length c7) = H8 at KS1 B8 L8 B78 SL8 AT8 K08 ⊢
          have hld8 : ldNA H8 ⟨b8, 0, none⟩ 256 = some (iL st.R).toArray := by
            have := B78.ldNO 256 (by rw [iL_len, hH.lR]); exact this
          have ok8 := B8.okNA (o := 2) (n := 256) (by rw [srL_len S7.lR S7.lF S7.lS]; omega)
          have hR8 : (iL st.R).length = 256 := by rw [iL_len, hH.lR]
          have B9 := B8.stNA 2 (iL st.R)
          rw [srL_wrR S7.lR S7.lF S7.lS hH.lR] at B9
          have K9 : Keep (fun k => k = s ∨ k = bl) H8 (stNA H8 ⟨s, 2, none⟩ (iL st.R)) := (Keep.refl _ _).stNA _ (.inl (.inl rfl))
          simp only [ldNO_ptr, hld, hld8, okN_ptr, stNH_ptr, ok8, Option.isSome_some, Option.getD_some, List.size_toArray, hR8, iL_all1, okc, and_true, true_and]
          have fin : R (.bool false) (stNA H8 ⟨s, 2, none⟩ (iL st.R)) := by
            subst hR
            refine ⟨false, cb, c7, C7, ⟨st.L, st.R, st7.Se⟩, rfl, ⟨?_, K9.bl L8 (by omega), by omega, SL8.keep K9 (fun k hk e => by rcases e with e | e; exact S7.zs (e ▸ S7.z1 k hk); exact S7.zl (e ▸ S7.z1 k hk)), S7.len, fun i hi => (AT8 i hi).keep K9 (fun k hk e => by rcases e with e | e; exact S7.zs (e ▸ S7.z2 i k hi hk); exact S7.zl (e ▸ S7.z2 i k hi hk)), S7.z1, S7.z2, S7.zs, fun h => by have := hZ _ h; omega, hH.lL, hH.lR, S7.lS, S7.lF⟩, .inr hoc, hc7, hmv, K08.trans K9⟩
            simp only
            rw [hH.lL]; exact B9
          exact ⟨⟨Keep.refl _ _, KS1, K9, fin⟩, KS1, Keep.refl _ _, K9, fin⟩
    · refine vc_drk (fun k => k = s ∨ k = bl) ?_
      simp only [go_sem, List.map_cons, List.map_nil, ↓reduceIte, Nat.reduceEqDiff, Nat.reduceAdd, Nat.reduceMul, reduceCtorEq, and_true, true_and, Nat.mul_one, Nat.zero_add, Bool.false_eq_true, decide_true, decide_false, not_false_eq_true, kont_eq, hf0, hf1, hf2, hf7, hf8, cells S2]
      have S3 := S2.setL hi (j : Int)
      have S4 := S3.setR hj (i : Int)
      have hmv : mvS st i j = ⟨st.L.set i (j : Int), (st.R.set p (-1)).set j (i : Int), st.Se⟩ := by unfold mvS; rw [hLi, Int.toNat_natCast]
      rw [← hmv] at S4
      exact ⟨Keep.refl _ _, by omega, okL i hi S2, KWl, by omega, okR j hj S3, KW, S4, KW.bl (KWl.bl B2 (by omega)) (by omega), KW.bl (KWl.bl C2 (by omega)) (by omega), (K2.trans KWl).trans KW⟩
  · refine vc_drk (fun k => H.size ≤ k) ?_
    simp only [go_sem, List.map_cons, List.map_nil, ↓reduceIte, Nat.reduceEqDiff, Nat.reduceAdd, Nat.reduceMul, reduceCtorEq, and_true, true_and, Nat.mul_one, Nat.zero_add, Bool.false_eq_true, decide_true, decide_false, not_false_eq_true, kont_eq, hc1, hR2, ldNO_ptr]
    have hn0 : iL st.L ≠ [] := by intro e; have h := congrArg List.length e; rw [iL_len, hH.lL, List.length_nil] at h; omega
    have hone := iL_all1 st.R
    have hsz : (iL st.R).length = 256 := by rw [iL_len, hH.lR]
    have wr : ∀ (H1 : Hp) (b : Nat), Bl H1 b (List.replicate 256 (.int .i64 0)) → Bl (stNA H1 ⟨b, 0, none⟩ (iL st.R)) b (iL st.R) := by
      intro H1 b hb
      have := hb.stNA 0 (iL st.R)
      rwa [wrL_all _ _ (by rw [hsz, List.length_replicate])] at this
    refine ⟨by omega, by omega, ?_, (Keep.refl _ _).push _, ?_⟩
    · refine (hcl st.L _ H hsl (by rw [hH.lL]; omega)).mono ?_
      rintro r H1 ⟨O1, o1, K1⟩
      obtain ⟨cb, c7, C7, rfl, hc7, hC7⟩ := O1.room hn0
      have hcb : H.size ≤ cb := o1 cb rfl
      have s1 := K1.size
      have hB := Bl.new' H1 (Array.replicate 256 (.int .i64 0)) (ι.t 160)
      have K2 : Keep (fun _ => False) H1 (H1.push (.cells (Array.replicate 256 (.int .i64 0)) (ι.t 160))) := (Keep.refl _ _).push _
      have C2 := K2.bl hC7 (by simp)
      simp only [go_sem, List.map_cons, List.map_nil, ↓reduceIte, Nat.reduceEqDiff, Nat.reduceAdd, Nat.reduceMul, reduceCtorEq, and_true, true_and, Nat.mul_one, Nat.zero_add, Bool.false_eq_true, decide_true, decide_false, not_false_eq_true, kont_eq, fillV_nil, fillV_cons, okFill_nil, okFill_cons, cells_slice, cells_int, cells_bool, cells_str, cells_ptr, cells_agg, stNH_ptr, okN_ptr, wrA1, wrA20, wrA21]
      obtain ⟨b2, e2⟩ : ∃ b2, b2 = H1.size := ⟨_, rfl⟩
      rw [← e2] at hB ⊢
      have hcl7 := hC7.lt
      generalize H1.push (.cells (Array.replicate 256 (.int .i64 0)) (ι.t 160)) = H2 at hB K2 C2 ⊢
      have hB : Bl H2 b2 (List.replicate 256 (.int .i64 0)) := by rwa [Array.toList_replicate] at hB
      have s2 := K2.size
      have K3 : Keep (fun k => k = b2) H2 (stNA H2 ⟨b2, 0, none⟩ (iL st.R)) := (Keep.refl _ _).stNA _ (.inl rfl)
      refine ⟨K1.any, K2.any, ⟨hB.okNA (by rw [List.length_replicate]; exact Nat.le_refl _), hsz, hone⟩, K3.mono (fun k _ e => by omega), b2, cb, c7, C7, by rw [iL_len, hH.lL], rfl, wr _ _ hB, K3.bl C2 (by omega), by rw [← hH.lL, ← iL_len]; exact hc7, by omega, hcb, by omega, (K1.trans K2).to_old K3 (by omega)⟩
    · have hB := Bl.new' H (Array.replicate 256 (.int .i64 0)) (ι.t 160)
      have K2 : Keep (fun _ => False) H (H.push (.cells (Array.replicate 256 (.int .i64 0)) (ι.t 160))) := (Keep.refl _ _).push _
      have hsl2 := hsl.keep K2 (by simp)
      obtain ⟨b2, e2⟩ : ∃ b2, b2 = H.size := ⟨_, rfl⟩
      have z2 : (H.push (.cells (Array.replicate 256 (.int .i64 0)) (ι.t 160))).size = H.size + 1 := by simp
      generalize hH2 : H.push (.cells (Array.replicate 256 (.int .i64 0)) (ι.t 160)) = H2 at hB K2 hsl2 z2 ⊢
      have hB : Bl H2 b2 (List.replicate 256 (.int .i64 0)) := by rw [e2]; rwa [Array.toList_replicate] at hB
      refine (hcl st.L _ H2 hsl2 (by rw [hH.lL]; omega)).mono ?_
      rintro r H1 ⟨O1, o1, K1⟩
      obtain ⟨cb, c7, C7, rfl, hc7, hC7⟩ := O1.room hn0
      have hcb : H2.size ≤ cb := o1 cb rfl
      have s1 := K1.size
      simp only [go_sem, List.map_cons, List.map_nil, ↓reduceIte, Nat.reduceEqDiff, Nat.reduceAdd, Nat.reduceMul, reduceCtorEq, and_true, true_and, Nat.mul_one, Nat.zero_add, Bool.false_eq_true, decide_true, decide_false, not_false_eq_true, kont_eq, fillV_nil, fillV_cons, okFill_nil, okFill_cons, cells_slice, cells_int, cells_bool, cells_str, cells_ptr, cells_agg, stNH_ptr, okN_ptr, wrA1, wrA20, wrA21]
      rw [← e2]
      have hB1 := K1.bl hB (by simp)
      have K3 : Keep (fun k => k = b2) H1 (stNA H1 ⟨b2, 0, none⟩ (iL st.R)) := (Keep.refl _ _).stNA _ (.inl rfl)
      refine ⟨K1.any, ⟨hB1.okNA (by rw [List.length_replicate]; exact Nat.le_refl _), hsz, hone⟩, K3.mono (fun k _ e => by omega), b2, cb, c7, C7, by rw [iL_len, hH.lL], rfl, wr _ _ hB1, K3.bl hC7 (by omega), by rw [← hH.lL, ← iL_len]; exact hc7, by omega, by omega, by omega, (K2.trans K1).to_old K3 (by omega)⟩
end Go.Mg

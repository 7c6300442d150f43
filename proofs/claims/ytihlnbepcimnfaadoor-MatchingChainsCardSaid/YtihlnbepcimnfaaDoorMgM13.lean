/- matching: the reference's list of all matchings. -/
import Derived.Test.YtihlnbepcimnfaaDoorMgM12
import Derived.Test.YtihlnbepcimnfaaDoorMgMA
namespace Go.Mg
open Go Go.RowKit
set_option linter.unusedSimpArgs false
set_option linter.unusedVariables false
set_option maxRecDepth 100000
/- arbacref09.All -/
def c_rall (ι : Ids) : S :=
  .seq (.reg [.p (.v 6) (.mv (.c (.slice .none 0 0)))]) (.seq (.seq (.reg [.p (.t 13) (.mv (.v 1)), .p (.t 14) (.mv (.v 0)), .p (.t 15) (.m (.lenl (.t 14))), .p (.v 16) (.cm .eql .i64 (.t 13) (.t 15))])
  (.ite (.v 16) (.seq (.reg [.e (.t 17) (.bldF (ι.t 26) 1 0 []), .e (.t 18) (.bldF (ι.t 138) 1 1 [.t 17]), .p (.v 6) (.mv (.t 18))]) .ret) .skip)) (.seq (.reg [.p (.v 7) (.mv (.c (.slice .none 0 0)))])
  (.seq (.seq (.reg [.p (.v 8) (.mv (.c (.int .i64 (-1))))]) (.blk 0 (.loop (.seq (.seq (.reg [.p (.t 19) (.mv (.v 8)), .p (.v 20) (.cm .lss .i64 (.t 19) (.c (.int .i64 64)))]) (.ite (.v 20) .skip
  (.exit 0))) (.seq (.blk 1 (.seq (.seq (.reg [.p (.t 23) (.mv (.v 8)), .p (.t 24) (.cm .geq .i64 (.t 23) (.c (.int .i64 0))), .p (.t 25) (.mv (.t 24)), .gp (.t 26) (.t 25) true (.mv (.v 0)), .gp (.t
  27) (.t 25) true (.mv (.v 1)), .gp (.t 28) (.t 25) true (.is 1 (.t 26) (.t 27)), .gp (.t 29) (.t 25) true (.ld (.t 28)), .gp (.t 30) (.t 25) true (.mv (.v 8)), .gp (.t 31) (.t 25) true (.sh .shr .u64
  (.t 29) (.t 30)), .gp (.t 32) (.t 25) true (.bt .and .u64 (.t 31) (.c (.int .u64 1))), .gp (.t 33) (.t 25) true (.cm .eql .u64 (.t 32) (.c (.int .u64 0))), .gp (.t 34) (.t 25) true (.mv (.t 33)), .gp
  (.t 35) (.t 34) false (.mv (.v 2)), .gp (.t 36) (.t 34) false (.mv (.v 8)), .gp (.t 37) (.t 34) false (.sh .shr .u64 (.t 35) (.t 36)), .gp (.t 38) (.t 34) false (.bt .and .u64 (.t 37) (.c (.int .u64
  1))), .gp (.t 39) (.t 34) false (.cm .eql .u64 (.t 38) (.c (.int .u64 1))), .gp (.t 40) (.t 25) true (.pick (.t 34) (.c (.bool true)) (.t 39)), .p (.v 41) (.pick (.t 25) (.t 40) (.c (.bool false)))])
  (.ite (.v 41) (.exit 1) .skip)) (.seq (.reg [.p (.t 42) (.mv (.v 2)), .p (.v 9) (.mv (.t 42))]) (.seq (.seq (.reg [.p (.t 43) (.mv (.v 8)), .p (.v 44) (.cm .geq .i64 (.t 43) (.c (.int .i64 0)))])
  (.ite (.v 44) (.reg [.p (.t 45) (.mv (.v 2)), .p (.t 46) (.mv (.v 8)), .p (.t 47) (.sh .shl .u64 (.c (.int .u64 1)) (.t 46)), .p (.t 48) (.bt .or .u64 (.t 45) (.t 47)), .p (.v 9) (.mv (.t 48))])
  .skip)) (.seq (.reg [.p (.t 49) (.mv (.v 0)), .p (.t 50) (.mv (.v 1)), .p (.t 51) (.ar .add .i64 (.t 50) (.c (.int .i64 1))), .p (.t 52) (.mv (.v 9)), .e (.v 53) (.call (ι.f 169) [.t 49, .t 51, .t
  52]), .p (.v 54) (.m (.lenl (.v 53))), .p (.v 55) (.mv (.c (.int .i64 0)))]) (.blk 2 (.loop (.seq (.reg [.p (.v 56) (.cm .lss .i64 (.v 55) (.v 54))]) (.seq (.ite (.v 56) .skip (.exit 2)) (.seq (.blk 3
  (.seq (.reg [.p (.t 57) (.is 1 (.v 53) (.v 55)), .p (.t 58) (.ld (.t 57)), .p (.v 11) (.mv (.t 58))]) (.seq (.reg [.p (.t 59) (.mv (.v 8)), .e (.t 60) (.bldF (ι.t 26) 1 1 [.t 59]), .p (.v 12) (.mv (.t
  60))]) (.reg [.p (.t 61) (.mv (.v 7)), .p (.t 62) (.mv (.v 12)), .p (.t 63) (.mv (.v 11)), .e (.t 64) (.app false (ι.t 26) 1 8 #[.int .i64 0] (.t 62) (.t 63)), .e (.t 65) (.bldF (ι.t 138) 1 1 [.t
  64]), .e (.t 66) (.app false (ι.t 138) 1 24 #[.slice .none 0 0] (.t 61) (.t 65)), .p (.v 7) (.mv (.t 66))])))) (.reg [.p (.t 67) (.ar .add .i64 (.v 55) (.c (.int .i64 1))), .p (.v 55) (.mv (.t
  67))]))))))))))) (.reg [.p (.t 21) (.mv (.v 8)), .p (.t 22) (.ar .add .i64 (.t 21) (.c (.int .i64 1))), .p (.v 8) (.mv (.t 22))])))))) (.seq (.reg [.p (.t 68) (.mv (.v 7)), .p (.v 6) (.mv (.t 68))])
  .ret))))
def r_rall : List RV := [.t 6]

/-! ### lists of lists of ints that a function owns -/
structure LsO (H : Hp) (v : Value) (ms : List (List Int)) (B : Nat) (vs : List Value) : Prop where
  ow : OwS H v vs
  len : vs.length = ms.length
  at_ : ∀ i, i < ms.length → SlR H (vs.getD i undef) (iL (ms.getD i []))
  o1 : ∀ k, ownB v k → B ≤ k
  o2 : ∀ i k, i < ms.length → slB (vs.getD i undef) k → B ≤ k ∧ ¬ ownB v k
theorem LsO.nil (H : Hp) (B : Nat) : LsO H (.slice none 0 0) [] B [] := ⟨OwS.nil _, rfl, fun i hi => absurd hi (by simp), fun k h => h.elim, fun i k hi => absurd hi (by simp)⟩
theorem LsO.keep {W : Nat → Prop} {H H' : Hp} {v : Value} {ms : List (List Int)} {B : Nat} {vs : List Value} (h : LsO H v ms B vs) (hk : Keep W H H') (hw : ∀ k, k < H.size → B ≤ k → ¬ W k) : LsO H' v ms B vs :=
  ⟨h.ow.keep hk fun k hb => hw k (h.ow.old hb) (h.o1 k hb), h.len, fun i hi => (h.at_ i hi).keep hk fun k hb => hw k ((h.at_ i hi).old hb) (h.o2 i k hi hb).1, h.o1, h.o2⟩
theorem LsO.keep0 {H H' : Hp} {v : Value} {ms : List (List Int)} {B : Nat} {vs : List Value} (h : LsO H v ms B vs) (hk : Keep (fun _ => False) H H') : LsO H' v ms B vs := h.keep hk (fun _ _ _ h => h)
/-- one list more -/
theorem LsO.app {T : TypeId} {bytes : Nat} {z : Array Value} {v x u : Value} {H : Hp} {K : Value → Hp → Prop} {ms : List (List Int)} {B : Nat} {vs : List Value} {m : List Int} (h : LsO H v ms B vs) (hx : SlR H x [u]) (hu : SlR H u (iL m))
    (hz : z.size = 1) (h1 : ms.length ≤ 1000000) (hb : bytes ≤ 1000) (hB : B ≤ H.size) (hub : ∀ k, slB u k → B ≤ k ∧ ¬ ownB v k)
    (hK : ∀ v' H', LsO H' v' (ms ++ [m]) B (vs ++ [u]) → Keep (ownB v) H H' → (∀ k, ownB v' k → ownB v k ∨ H.size ≤ k) → K v' H') : AppC false T 1 bytes z v x H K := by
  have hone : all1 #[u] := hu.one
  have hvl := h.len
  refine app_sl (l := vs) (m := [u]) h.ow hx hone hz (by unfold maxLen; simp only [List.length_singleton]; omega) ?_ fun v' H' O M N => hK v' H' ⟨O, by simp [hvl], fun i hi => ?_, fun k hk => ?_, fun i k hi hk => ?_⟩ M N
  · simp only [List.length_singleton]
    have : (vs.length + 1) * bytes ≤ 1000001 * 1000 := Nat.mul_le_mul (by omega) hb
    omega
  · by_cases e : i = ms.length
    · subst e
      have e1 : (vs ++ [u]).getD ms.length undef = u := by rw [List.getD_eq_getElem?_getD, List.getElem?_append_right (by omega), hvl]; simp
      have e2 : (ms ++ [m]).getD ms.length [] = m := by rw [List.getD_eq_getElem?_getD, List.getElem?_append_right (by omega)]; simp
      rw [e1, e2]
      exact hu.keep M fun k hk hw => (hub k hk).2 hw
    · have hi' : i < ms.length := by simp at hi; omega
      have e1 : (vs ++ [u]).getD i undef = vs.getD i undef := by rw [List.getD_eq_getElem?_getD, List.getElem?_append_left (by omega), ← List.getD_eq_getElem?_getD]
      have e2 : (ms ++ [m]).getD i [] = ms.getD i [] := by rw [List.getD_eq_getElem?_getD, List.getElem?_append_left (by omega), ← List.getD_eq_getElem?_getD]
      rw [e1, e2]
      exact (h.at_ i hi').keep M fun k hk hw => (h.o2 i k hi' hk).2 hw
  · rcases N k hk with hk | hk
    · exact h.o1 k hk
    · omega
  · by_cases e : i = ms.length
    · subst e
      have e1 : (vs ++ [u]).getD ms.length undef = u := by rw [List.getD_eq_getElem?_getD, List.getElem?_append_right (by omega), hvl]; simp
      rw [e1] at hk
      refine ⟨(hub k hk).1, fun hw => ?_⟩
      rcases N k hw with hw | hw
      · exact (hub k hk).2 hw
      · have := hu.old hk; omega
    · have hi' : i < ms.length := by simp at hi; omega
      have e1 : (vs ++ [u]).getD i undef = vs.getD i undef := by rw [List.getD_eq_getElem?_getD, List.getElem?_append_left (by omega), ← List.getD_eq_getElem?_getD]
      rw [e1] at hk
      refine ⟨(h.o2 i k hi' hk).1, fun hw => ?_⟩
      rcases N k hw with hw | hw
      · exact (h.o2 i k hi' hk).2 hw
      · have := (h.at_ i hi').old hk; omega
theorem altTo_succ (g : List UInt64) (x used : UInt64) (c : Nat) : (List.range (c + 1)).flatMap (altF (allF g) x used) = (List.range c).flatMap (altF (allF g) x used) ++ altF (allF g) x used c := by
  rw [List.range_succ, List.flatMap_append]; simp
def skA (x used : UInt64) (c : Nat) : Bool := decide (c ≠ 0) && (!bt x (c - 1) || bt used (c - 1))
def nwA (used : UInt64) (c : Nat) : UInt64 := if c = 0 then used else orB used (c - 1)
theorem altF_eq (rec : UInt64 → List (List Int)) (x used : UInt64) (c : Nat) : altF rec x used c = if skA x used c = true then [] else (rec (nwA used c)).map (((c : Int) - 1) :: ·) := by
  unfold altF skA nwA
  by_cases h : c = 0
  · subst h; simp
  · have e : ((c - 1 : Nat) : Int) = (c : Int) - 1 := by omega
    simp only [if_neg h, e]
    cases bt x (c - 1) <;> cases bt used (c - 1) <;> simp [h]
def RAllSpec (P : Program) (k : FuncId) (n : Nat) : Prop := ∀ (X : List UInt64) (at' : Nat) (used : UInt64) (v : Value) (H : Hp), SlR H v (w64 X) → X.length ≤ 6 → (∀ x ∈ X, ∀ v, bt x v = true → v < 6) → at' ≤ X.length → X.length - at' < n →
  CallsM P k #[v, .int .i64 at', .int .u64 used.toNat] H fun r H' => ∃ vs, LsO H' r (allF (X.drop at') used) H.size vs ∧ Keep (fun _ => False) H H'
theorem rall_ok {P : Program} {ι : Ids} {k : FuncId} (hk : FnIs P k (c_rall ι) r_rall 3) (hself : ι.f 169 = k) : ∀ n, RAllSpec P k n := by
  intro n
  induction n with
  | zero => intro X at' used v H _ _ _ _ h; omega
  | succ n ih =>
    intro X at' used v H hv hX6 hX hat hn
    obtain ⟨R, hR⟩ : ∃ R : Value → Hp → Prop, R = fun r H' => ∃ vs, LsO H' r (allF (X.drop at') used) H.size vs ∧ Keep (fun _ => False) H H' := ⟨_, rfl⟩
    rw [← hR]
    refine calls_of_vc hk (args := [_, _, _]) (by simp) ?_
    unfold c_rall r_rall
    rw [hself]
    have hlen7 : ∀ m, 7 ^ m ≤ 7 ^ 6 ∨ 6 < m := fun m => by
      by_cases h : m ≤ 6
      · exact .inl (Nat.pow_le_pow_right (by omega) h)
      · exact .inr (by omega)
    by_cases he : at' = X.length
    · have e0 : ((X.length : Int) == (X.length : Int)) = true := by simp
      simp only [go_sem, List.map_cons, List.map_nil, ↓reduceIte, Nat.reduceEqDiff, Nat.reduceAdd, Nat.reduceMul, reduceCtorEq, and_true, true_and, Nat.mul_one, Nat.zero_add, Bool.false_eq_true, decide_true, decide_false, not_false_eq_true, hv.isSl, hv.len, w64_len, he, e0]
      refine kont_news fun H1 b1 e1 z1 B1 K1 => ?_
      simp only [go_sem, List.map_cons, List.map_nil, ↓reduceIte, Nat.reduceEqDiff, Nat.reduceAdd, Nat.reduceMul, reduceCtorEq, and_true, true_and, Nat.mul_one, Nat.zero_add, Bool.false_eq_true, decide_true, decide_false, not_false_eq_true, fillV_nil, fillV_cons, okFill_nil, okFill_cons, cells_slice, cells_int, cells_bool, cells_str, cells_ptr, cells_agg, stNH_ptr, okN_ptr, wrA1, wrA20, wrA21]
      refine kont_news fun H2 b2 e2 z2 B2 K2 => ?_
      have s1 := K1.size
      have B1 : Bl H1 b1 [] := B1
      simp only [go_sem, List.map_cons, List.map_nil, ↓reduceIte, Nat.reduceEqDiff, Nat.reduceAdd, Nat.reduceMul, reduceCtorEq, and_true, true_and, Nat.mul_one, Nat.zero_add, Bool.false_eq_true, decide_true, decide_false, not_false_eq_true, kont_eq]
      rw [hR]
      have hd : X.drop at' = [] := by rw [he, List.drop_length]
      rw [hd]
      have B2 : Bl H2 b2 [.slice (some ⟨b1, 0, none⟩) 0 0] := B2
      refine ⟨[.slice (some ⟨b1, 0, none⟩) 0 0], ⟨OwS.bl B2 (by simp) (by simp) (by simp) (by simp), rfl, fun i hi => ?_, fun k hk => by have hk : k = b2 := hk; omega, fun i k hi hk => ?_⟩, K1.trans K2⟩
      · have : i = 0 := by simp [allF] at hi; omega
        subst this
        exact SlR.nil _ _ _
      · have : i = 0 := by simp [allF] at hi; omega
        subst this
        exact absurd rfl hk.2
    · have e0 : ((at' : Int) == (X.length : Int)) = false := by
        rw [beq_eq_false_iff_ne]; omega
      simp only [go_sem, List.map_cons, List.map_nil, ↓reduceIte, Nat.reduceEqDiff, Nat.reduceAdd, Nat.reduceMul, reduceCtorEq, and_true, true_and, Nat.mul_one, Nat.zero_add, Bool.false_eq_true, decide_true, decide_false, not_false_eq_true, kont_eq, hv.isSl, hv.len, w64_len, e0]
      have hlt : at' < X.length := by omega
      obtain ⟨x, G, hxG, hx⟩ : ∃ x G, X.drop at' = x :: G ∧ X.getD at' 0 = x ∧ X.drop (at' + 1) = G := ⟨X.getD at' 0, X.drop (at' + 1), by rw [List.drop_eq_getElem_cons hlt, List.getD_eq_getElem?_getD, List.getElem?_eq_getElem hlt]; rfl, rfl, rfl⟩
      obtain ⟨hx, hG⟩ := hx
      rw [hxG] at hR
      have hGl : G.length ≤ 5 := by rw [← hG, List.length_drop]; omega
      have hGb : ∀ y ∈ G, ∀ v, bt y v = true → v < 6 := fun y hy => hX y (by rw [← hG] at hy; exact List.mem_of_mem_drop hy)
      have hxb : ∀ v, bt x v = true → v < 6 := hX x (by rw [← hx, List.getD_eq_getElem?_getD, List.getElem?_eq_getElem hlt]; exact List.getElem_mem _)
      refine vc_loop [20, 41, 9, 44, 53, 54, 55, 56, 11, 12, 7, 8] rfl (fun n f H' => ∃ (c : Nat) (ov : Value) (ovs : List Value), c ≤ 65 ∧ n = 65 - c ∧ f 8 = .int .i64 ((c : Int) - 1) ∧ f 7 = ov ∧ LsO H' ov ((List.range c).flatMap (altF (allF G) x used)) H.size ovs ∧ Keep (fun _ => False) H H') 65
        ⟨0, .slice none 0 0, [], by omega, by omega, by simp only [go_sem, List.map_cons, List.map_nil, ↓reduceIte, Nat.reduceEqDiff, Nat.reduceAdd, Nat.reduceMul, reduceCtorEq, and_true, true_and, Nat.mul_one, Nat.zero_add, Bool.false_eq_true, decide_true, decide_false, not_false_eq_true, kont_eq]; rfl, by simp only [go_sem, List.map_cons, List.map_nil, ↓reduceIte, Nat.reduceEqDiff, Nat.reduceAdd, Nat.reduceMul, reduceCtorEq, and_true, true_and, Nat.mul_one, Nat.zero_add, Bool.false_eq_true, decide_true, decide_false, not_false_eq_true, kont_eq], LsO.nil _ _, Keep.refl _ _⟩ ?_
      rintro n f H2 ⟨c, ov, ovs, hc, rfl, hf8, hf7, hO, K2⟩
      simp only [go_sem, List.map_cons, List.map_nil, ↓reduceIte, Nat.reduceEqDiff, Nat.reduceAdd, Nat.reduceMul, reduceCtorEq, and_true, true_and, Nat.mul_one, Nat.zero_add, Bool.false_eq_true, decide_true, decide_false, not_false_eq_true, kont_eq] at hf8 hf7
      have hov := hO.ow.shape
      by_cases hc65 : c = 65
      · subst hc65
        have e0 : decide (((65 : Nat) : Int) - 1 < 64) = false := rfl
        obtain ⟨ga, gn, gc, rfl⟩ := hov
        simp only [go_sem, List.map_cons, List.map_nil, ↓reduceIte, Nat.reduceEqDiff, Nat.reduceAdd, Nat.reduceMul, reduceCtorEq, and_true, true_and, Nat.mul_one, Nat.zero_add, Bool.false_eq_true, decide_true, decide_false, not_false_eq_true, kont_eq, hf8, e0, hf7]
        rw [hR]
        exact ⟨ovs, hO, K2⟩
      · have hc64 : c < 65 := by omega
        have e0 : decide ((c : Int) - 1 < 64) = true := decide_eq_true (by omega)
        rw [vc_seq]
        refine vc_mono (Q := fun e f' H' => e = .n ∧ f' 8 = .int .i64 ((c : Int) - 1) ∧ f' 7 = ov ∧ f' 0 = v ∧ f' 1 = .int .i64 at' ∧ f' 2 = .int .u64 used.toNat ∧ H' = H2) ?_ (by simp only [go_sem, List.map_cons, List.map_nil, ↓reduceIte, Nat.reduceEqDiff, Nat.reduceAdd, Nat.reduceMul, reduceCtorEq, and_true, true_and, Nat.mul_one, Nat.zero_add, Bool.false_eq_true, decide_true, decide_false, not_false_eq_true, kont_eq, hf8, e0, hf7])
        rintro e f1 H2' ⟨rfl, hf8, hf7, hf0, hf1, hf2, rfl⟩
        show vc P _ _ _ _
        rw [vc_seq, vc_blk, vc_seq]
        refine vc_mono (Q := fun e f' H' => ((e = .x 1 ∧ skA x used c = true) ∨ (e = .n ∧ skA x used c = false)) ∧ f' 8 = .int .i64 ((c : Int) - 1) ∧ f' 7 = ov ∧ f' 0 = v ∧ f' 1 = .int .i64 at' ∧ f' 2 = .int .u64 used.toNat ∧ H' = H2') ?_ ?_
        · rintro e f2 H3 ⟨⟨rfl, hsk⟩ | ⟨rfl, hsk⟩, hf8, hf7, hf0, hf1, hf2, rfl⟩
          · simp (disch := omega) only [go_sem, List.map_cons, List.map_nil, ↓reduceIte, Nat.reduceEqDiff, Nat.reduceAdd, Nat.reduceMul, reduceCtorEq, and_true, true_and, Nat.mul_one, Nat.zero_add, Bool.false_eq_true, decide_true, decide_false, not_false_eq_true, kont_eq, hf8, hf7, IntWalk.i64_in]
            refine ⟨65 - (c + 1), by omega, c + 1, ov, ovs, by omega, rfl, ?_, rfl, ?_, K2⟩
            · congr 1; omega
            · rw [altTo_succ, altF_eq, if_pos hsk, List.append_nil]; exact hO
          · show vc P _ _ _ _
            rw [vc_seq]
            refine vc_mono (Q := fun e f' H' => e = .n ∧ f' 9 = .int .u64 used.toNat ∧ f' 8 = .int .i64 ((c : Int) - 1) ∧ f' 7 = ov ∧ f' 0 = v ∧ f' 1 = .int .i64 at' ∧ f' 2 = .int .u64 used.toNat ∧ H' = H3) ?_ (by simp only [go_sem, List.map_cons, List.map_nil, ↓reduceIte, Nat.reduceEqDiff, Nat.reduceAdd, Nat.reduceMul, reduceCtorEq, and_true, true_and, Nat.mul_one, Nat.zero_add, Bool.false_eq_true, decide_true, decide_false, not_false_eq_true, kont_eq, hf8, hf7, hf0, hf1, hf2])
            rintro e f3 H3' ⟨rfl, hf9, hf8, hf7, hf0, hf1, hf2, rfl⟩
            show vc P _ _ _ _
            rw [vc_seq]
            refine vc_mono (Q := fun e f' H' => e = .n ∧ f' 9 = .int .u64 (nwA used c).toNat ∧ f' 8 = .int .i64 ((c : Int) - 1) ∧ f' 7 = ov ∧ f' 0 = v ∧ f' 1 = .int .i64 at' ∧ H' = H3') ?_ ?_
            · rintro e f4 H4 ⟨rfl, hf9, hf8, hf7, hf0, hf1, rfl⟩
              show vc P _ _ _ _
              have hih := ih X (at' + 1) (nwA used c) v H4 (hv.keep K2 (by simp)) hX6 hX (by omega) (by omega)
              rw [hG] at hih
              have ea : IntKind.i64.wrap ((at' : Int) + 1) = ((at' + 1 : Nat) : Int) := IntWalk.i64_in _ ⟨by omega, by omega⟩
              simp only [go_sem, List.map_cons, List.map_nil, ↓reduceIte, Nat.reduceEqDiff, Nat.reduceAdd, Nat.reduceMul, reduceCtorEq, and_true, true_and, Nat.mul_one, Nat.zero_add, Bool.false_eq_true, decide_true, decide_false, not_false_eq_true, hf9, hf8, hf7, hf0, hf1, ea]
              refine hih.mono ?_
              rintro r H5 ⟨rs, hr, K5⟩
              have s5 := K5.size
              have s2 := K2.size
              rw [kont_eq]
              have hrl : rs.length = (allF G (nwA used c)).length := hr.len
              have hr7 : (allF G (nwA used c)).length ≤ 16807 := Nat.le_trans (allF_len G _ hGb) (Nat.le_trans (Nat.pow_le_pow_right (n := 7) (by omega) hGl) (by decide))
              have ho7 : ((List.range c).flatMap (altF (allF G) x used)).length ≤ 117649 := by
                have h1 := altTo_len (rec := allF G) (used := used) (b := 16807) (fun u => Nat.le_trans (allF_len G _ hGb) (Nat.le_trans (Nat.pow_le_pow_right (n := 7) (by omega) hGl) (by decide))) hxb c
                have : min c 7 * 16807 ≤ 7 * 16807 := Nat.mul_le_mul_right _ (Nat.min_le_right _ _)
                omega
              have hO5 := hO.keep0 K5
              generalize hpre : (List.range c).flatMap (altF (allF G) x used) = pre at hO hO5 ho7
              have hpost : pre ++ (allF G (nwA used c)).map (((c : Int) - 1) :: ·) = (List.range (c + 1)).flatMap (altF (allF G) x used) := by
                rw [altTo_succ, hpre, altF_eq, hsk]; rfl
              have hml : ∀ m ∈ allF G (nwA used c), m.length ≤ 5 := fun m hm => by have := (mem_allF.1 hm).len; omega
              generalize allF G (nwA used c) = rl at hr hrl hr7 hpost hml
              simp only [go_sem, List.map_cons, List.map_nil, ↓reduceIte, Nat.reduceEqDiff, Nat.reduceAdd, Nat.reduceMul, reduceCtorEq, and_true, true_and, Nat.mul_one, Nat.zero_add, Bool.false_eq_true, decide_true, decide_false, not_false_eq_true, kont_eq, hr.ow.sl.isSl, hr.ow.sl.len, hrl]
              refine vc_mono ?_ ?_ (Q := fun e f' H' => e = .x 2 ∧ f' 8 = .int .i64 ((c : Int) - 1) ∧ ∃ ov ovs, f' 7 = ov ∧ LsO H' ov (pre ++ rl.map (((c : Int) - 1) :: ·)) H.size ovs ∧ Keep (fun _ => False) H H')
              · rintro e f6 H6 ⟨rfl, hf8, ov, ovs, hf7, hO6, K6⟩
                rw [hpost] at hO6
                simp (disch := omega) only [go_sem, List.map_cons, List.map_nil, ↓reduceIte, Nat.reduceEqDiff, Nat.reduceAdd, Nat.reduceMul, reduceCtorEq, and_true, true_and, Nat.mul_one, Nat.zero_add, Bool.false_eq_true, decide_true, decide_false, not_false_eq_true, kont_eq, hf8, hf7, IntWalk.i64_in]
                exact ⟨65 - (c + 1), by omega, c + 1, ov, ovs, by omega, rfl, by congr 1; omega, rfl, hO6, K6⟩
              · refine vc_loop [56, 11, 12, 7, 55] rfl (fun n f H' => ∃ (q : Nat) (ov : Value) (ovs : List Value), q ≤ rl.length ∧ n = rl.length - q ∧ f 55 = .int .i64 q ∧ f 7 = ov ∧ LsO H' ov (pre ++ (rl.take q).map (((c : Int) - 1) :: ·)) H.size ovs ∧ (∀ k, ownB ov k → k < H4.size ∨ H5.size ≤ k) ∧ Keep (fun k => H.size ≤ k ∧ (k < H4.size ∨ H5.size ≤ k)) H5 H') rl.length
                  ⟨0, ov, ovs, by omega, by omega, by simp only [go_sem, List.map_cons, List.map_nil, ↓reduceIte, Nat.reduceEqDiff, Nat.reduceAdd, Nat.reduceMul, reduceCtorEq, and_true, true_and, Nat.mul_one, Nat.zero_add, Bool.false_eq_true, decide_true, decide_false, not_false_eq_true, kont_eq]; rfl, by simp only [go_sem, List.map_cons, List.map_nil, ↓reduceIte, Nat.reduceEqDiff, Nat.reduceAdd, Nat.reduceMul, reduceCtorEq, and_true, true_and, Nat.mul_one, Nat.zero_add, Bool.false_eq_true, decide_true, decide_false, not_false_eq_true, kont_eq, hf7], by simpa using hO5, fun k hk => .inl (hO.ow.old hk), Keep.refl _ _⟩ ?_
                rintro n f6 H6 ⟨q, ov', ovs', hq, rfl, hf55, hf7', hO6, ho6, K6⟩
                simp only [go_sem, List.map_cons, List.map_nil, ↓reduceIte, Nat.reduceEqDiff, Nat.reduceAdd, Nat.reduceMul, reduceCtorEq, and_true, true_and, Nat.mul_one, Nat.zero_add, Bool.false_eq_true, decide_true, decide_false, not_false_eq_true, kont_eq] at hf55 hf7'
                simp only [go_sem, List.map_cons, List.map_nil, ↓reduceIte, Nat.reduceEqDiff, Nat.reduceAdd, Nat.reduceMul, reduceCtorEq, and_true, true_and, Nat.mul_one, Nat.zero_add, Bool.false_eq_true, decide_true, decide_false, not_false_eq_true, hf55]
                refine iteV_dec (fun hlq => ?_) (fun hge => ?_)
                · have hlq : q < rl.length := by omega
                  have s6 := K6.size
                  have hr6 := hr.keep K6 (fun k h1 h2 h => by omega)
                  have hrl6 := hr6.len
                  have hu := hr6.at_ q hlq
                  have hub := hr6.o2 q
                  obtain ⟨rb, ro, rc, rfl, -, hrc⟩ := hr6.ow.sl.cells (by intro e; rw [e, List.length_nil] at hrl6; omega)
                  have hcq := hrc q (by omega)
                  have hvq : rs[q]? = some (rs.getD q undef) := by rw [List.getD_eq_getElem?_getD, List.getElem?_eq_getElem (by omega : q < rs.length)]; rfl
                  rw [hvq] at hcq
                  generalize rs.getD q undef = u at hcq hu hub
                  simp only [go_sem, List.map_cons, List.map_nil, ↓reduceIte, Nat.reduceEqDiff, Nat.reduceAdd, Nat.reduceMul, reduceCtorEq, and_true, true_and, Nat.mul_one, Nat.zero_add, Bool.false_eq_true, decide_true, decide_false, not_false_eq_true, fillV_nil, fillV_cons, okFill_nil, okFill_cons, cells_slice, cells_int, cells_bool, cells_str, cells_ptr, cells_agg, stNH_ptr, okN_ptr, wrA1, wrA20, wrA21, hf8, tn_cast, Nat.mul_one, hcq, hu.isSl]
                  refine ⟨by omega, ?_⟩
                  refine kont_news fun H7 b7 e7 z7 B7 K7 => ?_
                  have s7 := K7.size
                  simp only [go_sem, List.map_cons, List.map_nil, ↓reduceIte, Nat.reduceEqDiff, Nat.reduceAdd, Nat.reduceMul, reduceCtorEq, and_true, true_and, Nat.mul_one, Nat.zero_add, Bool.false_eq_true, decide_true, decide_false, not_false_eq_true, hf7']
                  have hmq : (rl.getD q []).length ≤ 5 := hml _ (by rw [List.getD_eq_getElem?_getD, List.getElem?_eq_getElem hlq]; exact List.getElem_mem _)
                  have hd : (rl.take (q + 1)).map (((c : Int) - 1) :: ·) = (rl.take q).map (((c : Int) - 1) :: ·) ++ [((c : Int) - 1) :: rl.getD q []] := by
                    rw [List.take_succ_eq_append_getElem hlq, List.map_append, List.getD_eq_getElem?_getD, List.getElem?_eq_getElem hlq]; rfl
                  have htl : ((rl.take q).map (((c : Int) - 1) :: ·)).length ≤ 16807 := by rw [List.length_map, List.length_take]; omega
                  generalize rl.getD q [] = m at hu hmq hd
                  have B7 : Bl H7 b7 [.int .i64 ((c : Int) - 1)] := B7
                  refine app_sl (l := [.int .i64 ((c : Int) - 1)]) (m := iL m) (OwS.bl B7 (by simp) (by simp) (by simp) (by simp)) (hu.keep K7 (by simp)) (iL_all1 m) rfl (by unfold maxLen; rw [iL_len]; simp; omega) (by rw [iL_len]; simp; omega) fun v8 H8 O8 M8 N8 => ?_
                  have s8 := M8.size
                  have O8 : OwS H8 v8 (iL (((c : Int) - 1) :: m)) := O8
                  have n8 : ∀ k, slB v8 k → H6.size ≤ k := fun k hk => by
                    rcases N8 k (O8.slB hk) with h | h
                    · have h : k = b7 := h; omega
                    · omega
                  obtain ⟨va, vn, vc', rfl⟩ := O8.shape
                  rw [kont_eq]
                  simp only [go_sem, List.map_cons, List.map_nil, ↓reduceIte, Nat.reduceEqDiff, Nat.reduceAdd, Nat.reduceMul, reduceCtorEq, and_true, true_and, Nat.mul_one, Nat.zero_add, Bool.false_eq_true, decide_true, decide_false, not_false_eq_true, fillV_nil, fillV_cons, okFill_nil, okFill_cons, cells_slice, cells_int, cells_bool, cells_str, cells_ptr, cells_agg, stNH_ptr, okN_ptr, wrA1, wrA20, wrA21]
                  refine kont_news fun H9 b9 e9 z9 B9 K9 => ?_
                  have s9 := K9.size
                  simp only [go_sem, List.map_cons, List.map_nil, ↓reduceIte, Nat.reduceEqDiff, Nat.reduceAdd, Nat.reduceMul, reduceCtorEq, and_true, true_and, Nat.mul_one, Nat.zero_add, Bool.false_eq_true, decide_true, decide_false, not_false_eq_true, kont_eq]
                  have K69 : Keep (fun _ => False) H6 H9 := (K7.trans' M8 (fun k hk h => by have h : k = b7 := h; omega)).trans K9
                  refine LsO.app (hO6.keep0 K69) (SlR.bl B9 0 1 1 (by omega) (by simp)) (O8.sl.keep K9 (by simp)) rfl (by rw [List.length_append]; omega) (by omega) (by omega) (fun k hk => ?_) fun v10 H10 O10 M10 N10 => ?_
                  · have := n8 k hk
                    exact ⟨by omega, fun h => by have := hO6.ow.old h; omega⟩
                  · simp (disch := omega) only [go_sem, List.map_cons, List.map_nil, ↓reduceIte, Nat.reduceEqDiff, Nat.reduceAdd, Nat.reduceMul, reduceCtorEq, and_true, true_and, Nat.mul_one, Nat.zero_add, Bool.false_eq_true, decide_true, decide_false, not_false_eq_true, kont_eq, hf55, IntWalk.i64_in]
                    refine ⟨rl.length - (q + 1), by omega, q + 1, v10, _, by omega, rfl, by simp, rfl, by rw [hd, ← List.append_assoc]; exact O10, fun k hk => ?_, (K6.trans K69.any).trans (M10.mono (fun k hk h => ⟨hO6.o1 k h, ho6 k h⟩))⟩
                    rcases N10 k hk with h | h
                    · exact ho6 k h
                    · exact .inr (by omega)
                · have hql : q = rl.length := by omega
                  subst hql
                  rw [List.take_length] at hO6
                  exact ⟨hf8, ov', ovs', by first | exact hf7' | rfl, hO6, (K2.trans K5).trans' K6 (fun k hk h => by omega)⟩
            · cases c with
              | zero =>
                have e1 : decide (((0 : Nat) : Int) - 1 ≥ 0) = false := rfl
                have e2 : nwA used 0 = used := rfl
                simp only [go_sem, List.map_cons, List.map_nil, ↓reduceIte, Nat.reduceEqDiff, Nat.reduceAdd, Nat.reduceMul, reduceCtorEq, and_true, true_and, Nat.mul_one, Nat.zero_add, Bool.false_eq_true, decide_true, decide_false, not_false_eq_true, kont_eq, hf9, hf8, hf7, hf0, hf1, hf2, e1, e2]
              | succ w =>
                have ew : (((w + 1 : Nat) : Int) - 1) = (w : Int) := by omega
                rw [ew] at hf8 ⊢
                have e1 : decide ((w : Int) ≥ 0) = true := decide_eq_true (by omega)
                have e2 : nwA used (w + 1) = orB used w := rfl
                rw [e2]
                simp only [go_sem, List.map_cons, List.map_nil, ↓reduceIte, Nat.reduceEqDiff, Nat.reduceAdd, Nat.reduceMul, reduceCtorEq, and_true, true_and, Nat.mul_one, Nat.zero_add, Bool.false_eq_true, decide_true, decide_false, not_false_eq_true, kont_eq, hf9, hf8, hf7, hf0, hf1, hf2, e1, tn_cast, or_orB used w (by omega)]
                omega
        · cases c with
          | zero =>
            have e1 : decide (((0 : Nat) : Int) - 1 ≥ 0) = false := rfl
            have e2 : skA x used 0 = false := rfl
            simp only [go_sem, List.map_cons, List.map_nil, ↓reduceIte, Nat.reduceEqDiff, Nat.reduceAdd, Nat.reduceMul, reduceCtorEq, and_true, true_and, Nat.mul_one, Nat.zero_add, Bool.false_eq_true, decide_true, decide_false, not_false_eq_true, kont_eq, hf8, hf7, hf0, hf1, hf2, e1, e2]
            exact .inr trivial
          | succ w =>
            have d00 : ((0 : Int) == 0) = true := rfl
            have d10 : ((1 : Int) == 0) = false := rfl
            have d01 : ((0 : Int) == 1) = false := rfl
            have d11 : ((1 : Int) == 1) = true := rfl
            have hw : w < 64 := by omega
            have ew : (((w + 1 : Nat) : Int) - 1) = (w : Int) := by omega
            rw [ew] at hf8 ⊢
            have e1 : decide ((w : Int) ≥ 0) = true := decide_eq_true (by omega)
            obtain ⟨b, o, cc, rfl, -, hcl⟩ := (hv.keep K2 (by simp)).cells (by intro e; have h := congrArg List.length e; rw [w64_len, List.length_nil] at h; omega)
            rw [w64_len] at hcl
            have hci := hcl at' hlt
            rw [w64_get _ _ hlt, hx] at hci
            have ex := and1 x w
            have eu := and1 used w
            have hsk : skA x used (w + 1) = (!bt x w || bt used w) := by unfold skA; simp
            rw [hsk]
            cases hbx : bt x w <;> cases hbu : bt used w <;> rw [hbx] at ex <;> rw [hbu] at eu <;> simp only [go_sem, List.map_cons, List.map_nil, ↓reduceIte, Nat.reduceEqDiff, Nat.reduceAdd, Nat.reduceMul, reduceCtorEq, and_true, true_and, Nat.mul_one, Nat.zero_add, Bool.false_eq_true, decide_true, decide_false, not_false_eq_true, kont_eq, hf8, hf7, hf0, hf1, hf2, e1, w64_len, tn_cast, Nat.mul_one, hci, ex, eu, d00, d10, d01, d11]
            all_goals (repeat' apply And.intro) <;> first | omega | exact .inl rfl | exact .inr rfl
end Go.Mg

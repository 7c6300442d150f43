/- keccak: Write. -/
import Derived.Test.YthffkklaodanaaaDoorMgK3
namespace Go.Mg
open Go Go.RowKit
set_option linter.unusedSimpArgs false
set_option linter.unusedVariables false
set_option maxRecDepth 10000
/- (ptr keccak.Hash).Write -/
def c_write (ι : Ids) : S :=
  .seq (.seq (.reg [.p (.t 5) (.mv (.v 0)), .p (.v 6) (.m (.eqn .ptr false (.t 5)))]) (.ite (.v 6) .ret .skip)) (.seq (.reg [.p (.t 7) (.mv (.v 0)), .p (.t 8) (.nil (.t 7)), .p (.t 9) (.fa 162 (.t 8)),
  .p (.t 10) (.ld (.t 9)), .p (.t 11) (.mv (.v 1)), .p (.t 12) (.m (.lenl (.t 11))), .p (.t 13) (.ii .u64 (.t 12)), .p (.t 14) (.ar .add .u64 (.t 10) (.t 13)), .p (.t 15) (.nil (.t 7)), .p (.t 16) (.fa
  162 (.t 15)), .e .no (.st (.t 16) (.t 14))]) (.blk 0 (.loop (.seq (.seq (.reg [.p (.t 17) (.mv (.v 1)), .p (.t 18) (.m (.lenl (.t 17))), .p (.v 19) (.cm .gtr .i64 (.t 18) (.c (.int .i64 0)))]) (.ite
  (.v 19) .skip (.exit 0))) (.blk 1 (.seq (.reg [.p (.t 20) (.mv (.v 0)), .p (.t 21) (.nil (.t 20)), .p (.t 22) (.fa 25 (.t 21)), .p (.t 23) (.mv (.v 0)), .p (.t 24) (.nil (.t 23)), .p (.t 25) (.fa 161
  (.t 24)), .p (.t 26) (.ld (.t 25)), .p (.t 27) (.m (.sla 136 1 (.t 22) (.some (.t 26)) .none)), .p (.t 28) (.mv (.v 1)), .e (.t 29) (.cpy false 1 (.t 27) (.t 28)), .p (.v 4) (.mv (.t 29))]) (.seq
  (.reg [.p (.t 30) (.mv (.v 1)), .p (.t 31) (.mv (.v 4)), .p (.t 32) (.m (.sls 1 (.t 30) (.some (.t 31)) .none)), .p (.v 1) (.mv (.t 32))]) (.seq (.reg [.p (.t 33) (.mv (.v 0)), .p (.t 34) (.nil (.t
  33)), .p (.t 35) (.fa 161 (.t 34)), .p (.t 36) (.ld (.t 35)), .p (.t 37) (.mv (.v 4)), .p (.t 38) (.ar .add .i64 (.t 36) (.t 37)), .p (.t 39) (.nil (.t 33)), .p (.t 40) (.fa 161 (.t 39)), .e .no (.st
  (.t 40) (.t 38))]) (.seq (.reg [.p (.t 41) (.mv (.v 0)), .p (.t 42) (.nil (.t 41)), .p (.t 43) (.fa 161 (.t 42)), .p (.t 44) (.ld (.t 43)), .p (.v 45) (.cm .eql .i64 (.t 44) (.c (.int .i64 136)))])
  (.ite (.v 45) (.seq (.reg [.p (.t 46) (.mv (.v 0)), .p (.t 47) (.nil (.t 46)), .p (.t 48) (.fa 0 (.t 47)), .p (.t 49) (.mv (.v 0)), .p (.t 50) (.nil (.t 49)), .p (.t 51) (.fa 25 (.t 50)), .p (.t 52)
  (.m (.sla 136 1 (.t 51) .none .none)), .e (.t 53) (.call (ι.f 7) [.t 48, .t 52])]) (.reg [.p (.t 54) (.mv (.v 0)), .p (.t 55) (.nil (.t 54)), .p (.t 56) (.fa 161 (.t 55)), .e .no (.st (.t 56) (.c
  (.int .i64 0)))])) .skip))))))))))
def r_write : List RV := []

def WriteSpec (P : Program) (ι : Ids) (k : FuncId) : Prop := ∀ (b : Nat) (p q : List UInt8) (v : Value) (H : Hp), HashB H b p → SlR H v (w8 q) → ¬ slB v b → notG ι b → GlobOk ι H →
  CallsM P k #[.pointer (some ⟨b, 0, none⟩), v] H fun r H' => r = .tuple #[] ∧ HashB H' b (p ++ q) ∧ Keep (· = b) H H'

theorem u64_add (p q : List UInt8) : IntKind.u64.wrap (((UInt64.ofNat p.length).toNat : Int) + IntKind.u64.wrap (q.length : Int)) = (UInt64.ofNat (p ++ q).length).toNat := by
  rw [IntKind.wrap_u64, IntKind.wrap_u64, UInt64.toNat_ofNat', UInt64.toNat_ofNat', List.length_append]
  omega

theorem write_ok {P : Program} {ι : Ids} {k : FuncId} (hk : FnIs P k (c_write ι) r_write 2) (ha : AbsorbSpec P ι (ι.f 7)) : WriteSpec P ι k := by
  intro b p q v H hb hv hvb hbg hG
  obtain ⟨buf, hl, ht, hB⟩ := hb
  have hs := stOf_len p
  have hmk := hv.mk
  obtain ⟨a, c, rfl, hc⟩ := hmk
  rw [w8_len] at hc
  refine calls_of_vc hk (args := [_, _]) (by simp) ?_
  unfold c_write r_write
  have hB1 := hB.setc 162 (.int .u64 (UInt64.ofNat (p ++ q).length).toNat)
  rw [hashL_setT hs hl] at hB1
  have hn : (false != false) = false := rfl
  simp only [go_sem, List.map_cons, List.map_nil, ↓reduceIte, Nat.reduceEqDiff, Nat.reduceAdd, Nat.reduceMul, reduceCtorEq, and_true, true_and, Nat.mul_one, Nat.zero_add, Bool.false_eq_true, decide_true, decide_false, not_false_eq_true, kont_eq, hB.cell, hB.frz, hashL_t hs hl, w8_len, u64_add, hn]
  have hK1 : Keep (· = b) H (setc H ⟨b, 162, none⟩ (.int .u64 (UInt64.ofNat (p ++ q).length).toNat)) := (Keep.refl _ _).setc _ (.inl rfl)
  refine vc_loop [19, 4, 1, 45] rfl (fun n f H' => ∃ i a c, i ≤ q.length ∧ n = q.length - i ∧ f 1 = .slice a (q.length - i) c ∧ SlR H' (f 1) (w8 (q.drop i)) ∧ ¬ slB (f 1) b ∧ HashC H' b (p ++ q.take i) (UInt64.ofNat (p ++ q).length).toNat ∧ Keep (· = b) H H') q.length
    ⟨0, a, c, by omega, rfl, rfl, ?_, by simp only [go_sem, List.map_cons, List.map_nil, ↓reduceIte, Nat.reduceEqDiff, Nat.reduceAdd, Nat.reduceMul, reduceCtorEq, and_true, true_and, Nat.mul_one, Nat.zero_add, Bool.false_eq_true, decide_true, decide_false, not_false_eq_true, kont_eq]; rwa [w8_len] at hvb, ⟨buf, hl, ?_, ?_⟩, hK1⟩ ?_
  · simp only [go_sem, List.map_cons, List.map_nil, ↓reduceIte, Nat.reduceEqDiff, Nat.reduceAdd, Nat.reduceMul, reduceCtorEq, and_true, true_and, Nat.mul_one, Nat.zero_add, Bool.false_eq_true, decide_true, decide_false, not_false_eq_true, kont_eq, w8_len, List.drop_zero]
    have := hv.keep hK1 (fun k h1 h2 => hvb (h2 ▸ h1))
    rwa [w8_len] at this
  · simpa using ht
  · simpa using hB1
  rintro n g H1 ⟨i, a1, c1, hi, rfl, hf1, hS1, hvb1, ⟨buf1, hl1, ht1, hB1⟩, hK1⟩
  generalize hp' : p ++ q.take i = p' at *
  simp only [go_sem, List.map_cons, List.map_nil, ↓reduceIte, Nat.reduceEqDiff, Nat.reduceAdd, Nat.reduceMul, reduceCtorEq, and_true, true_and, Nat.mul_one, Nat.zero_add, Bool.false_eq_true, decide_true, decide_false, not_false_eq_true, kont_eq] at hf1 hS1 hvb1
  rw [hf1] at hS1 hvb1
  simp only [go_sem, List.map_cons, List.map_nil, ↓reduceIte, Nat.reduceEqDiff, Nat.reduceAdd, Nat.reduceMul, reduceCtorEq, and_true, true_and, Nat.mul_one, Nat.zero_add, Bool.false_eq_true, decide_true, decide_false, not_false_eq_true, kont_eq, hf1]
  refine iteV_dec (fun hlt => ?_) (fun hge => ?_)
  · have hu : p'.length % 136 < 136 := Nat.mod_lt _ (by omega)
    have hs1 := stOf_len p'
    simp (disch := omega) only [go_sem, List.map_cons, List.map_nil, ↓reduceIte, Nat.reduceEqDiff, Nat.reduceAdd, Nat.reduceMul, reduceCtorEq, and_true, true_and, Nat.mul_one, Nat.zero_add, Bool.false_eq_true, decide_true, decide_false, not_false_eq_true, kont_eq, hB1.cell, hB1.frz, hashL_u hs1 hl1, w8_len, hf1, show ((136 : Nat) = p'.length % 136) = False from eq_false (by omega)]
    generalize hu' : p'.length % 136 = u at *
    generalize hkk : min (q.length - i) (136 - u) = k at *
    have hxl : ((q.drop i).take k).length = k := by simp; omega
    generalize hx : (q.drop i).take k = x at *
    have hN : srcN H1 (Value.slice a1 (q.length - i) c1) k = some (w8 x).toArray := by
      rw [hS1.srcN (by rw [w8_len]; simp; omega), w8_take, hx]
    have hl2 : (bufW buf1 u x).length = 136 := by rw [bufW_len (by omega), hl1]
    have hB2 := hB1.put (25 + u) 0 (w8 x).toArray
    have e : (25 + u + 0) = 25 + u := rfl
    rw [e, hashL_wr hs1 hl1 u x (by omega)] at hB2
    have hB3 := hB2.setc 161 (.int .i64 ((u + k : Nat) : Int))
    rw [hashL_setU hs1 hl2] at hB3
    have ew : (u : Int) + (k : Int) = ((u + k : Nat) : Int) := by omega
    have hK2 : Keep (· = b) H (putH H1 (some ⟨b, 25 + u, none⟩) 0 (w8 x).toArray) := hK1.put rfl _ _ (.inl rfl)
    have hK3 := hK2.setc (p := ⟨b, 161, none⟩) (.int .i64 ((u + k : Nat) : Int)) (.inl rfl)
    have hxx : q.take (i + k) = q.take i ++ x := by rw [List.take_add, hx]
    have hpx : p ++ q.take (i + k) = p' ++ x := by rw [hxx, ← List.append_assoc, hp']
    have hdr : q.drop (i + k) = (q.drop i).drop k := by rw [List.drop_drop]
    have hS2 : SlR H1 (slV (.slice a1 (q.length - i) c1) 1 (some (k : Int)) none) (w8 (q.drop (i + k))) := by
      have := hS1.drop (n := k) (by rw [w8_len]; simp; omega)
      rw [w8_drop, ← hdr] at this
      exact this
    have hv2 : ¬ slB (slV (.slice a1 (q.length - i) c1) 1 (some (k : Int)) none) b := fun h => hvb1 (slB_drop h)
    have hS3 := (hS2.keep (hK3.mono (fun _ _ h => h) |> fun _ => ((Keep.refl (· = b) H1).put rfl 0 (w8 x).toArray (p := ⟨b, 25 + u, none⟩) (.inl rfl)).setc (p := ⟨b, 161, none⟩) (.int .i64 ((u + k : Nat) : Int)) (.inl rfl)) (fun k h1 h2 => hv2 (h2 ▸ h1)))
    have hsub := Nat.sub_sub q.length i k
    simp only [go_sem, List.map_cons, List.map_nil, ↓reduceIte, Nat.reduceEqDiff, Nat.reduceAdd, Nat.reduceMul, reduceCtorEq, and_true, true_and, Nat.mul_one, Nat.zero_add, Bool.false_eq_true, decide_true, decide_false, not_false_eq_true, kont_eq, hsub] at hS3 hv2
    refine ⟨by omega, _, hN, hB1.okPut _ _ _ (w8_all1 _) (by simp [w8_len, hashL_len hs1 hl1]; omega), by omega, ?_⟩
    simp (disch := omega) only [go_sem, List.map_cons, List.map_nil, ↓reduceIte, Nat.reduceEqDiff, Nat.reduceAdd, Nat.reduceMul, reduceCtorEq, and_true, true_and, Nat.mul_one, Nat.zero_add, Bool.false_eq_true, decide_true, decide_false, not_false_eq_true, kont_eq, hB2.cell, hB2.frz, hashL_u hs1 hl2, IntWalk.i64_in, ew, hB3.cell, hB3.frz, hsub]
    refine iteV_of (fun h => ?_) (fun h => ?_)
    · have hf : u + k = 136 := by
        have : ((u + k : Nat) : Int) = 136 := by simpa using h
        omega
      have hsrc : Src (setc (putH H1 (some ⟨b, 25 + u, none⟩) 0 (w8 x).toArray) ⟨b, 161, none⟩ (.int .i64 ((u + k : Nat) : Int))) b 25 (bufW buf1 u x) := fun i hi => by
        rw [hB3.cell, hashL_buf hs1 hl2 i hi]
      refine (ha b (stOf p') _ b 25 136 (bufW buf1 u x) hs1 _ hB3 hbg (hG.keep1 hK3 hbg) hsrc (fun _ => by omega)).mono ?_
      rintro v H4 ⟨rfl, h4, hK4⟩
      have hsa : (absorbF (stOf p') (bufW buf1 u x)).length = 25 := by rw [absorbF_len]; exact hs1
      change Bl H4 b (hashL (absorbF (stOf p') (bufW buf1 u x)) (bufW buf1 u x) ((u + k : Nat) : Int) _) at h4
      have h5 := h4.setc 161 (.int .i64 0)
      rw [hashL_setU hsa hl2] at h5
      have hK5 : Keep (· = b) (setc (putH H1 (some ⟨b, 25 + u, none⟩) 0 (w8 x).toArray) ⟨b, 161, none⟩ (.int .i64 ((u + k : Nat) : Int))) (setc H4 ⟨b, 161, none⟩ (.int .i64 0)) := hK4.setc _ (.inl rfl)
      have hbx : bufW buf1 u x = tailOf p' ++ x := by
        unfold bufW
        rw [ht1, hxl, hf, List.drop_of_length_le (by omega), List.append_nil]
      have hSt : stOf (p' ++ x) = absorbF (stOf p') (bufW buf1 u x) := by rw [stOf_full _ _ (by omega), hbx]
      have hm : (p' ++ x).length % 136 = 0 := by simp; omega
      simp (disch := omega) only [go_sem, List.map_cons, List.map_nil, ↓reduceIte, Nat.reduceEqDiff, Nat.reduceAdd, Nat.reduceMul, reduceCtorEq, and_true, true_and, Nat.mul_one, Nat.zero_add, Bool.false_eq_true, decide_true, decide_false, not_false_eq_true, kont_eq, h4.cell, h4.frz, hashL_u hsa hl2]
      refine ⟨q.length - (i + k), by omega, i + k, _, _, by omega, rfl, rfl, hS3.keep hK5 (fun k h1 h2 => hv2 (h2 ▸ h1)), hv2, ?_, hK3.trans hK5⟩
      · rw [hpx]
        refine ⟨bufW buf1 u x, hl2, ?_, ?_⟩
        · rw [hm, tailOf_full _ _ (by omega)]; rfl
        · rw [hm, hSt]; exact h5
    · have hf : u + k < 136 := by
        have : ¬ ((u + k : Nat) : Int) = 136 := by simpa using h
        omega
      have hm : (p' ++ x).length % 136 = u + k := by simp; omega
      refine ⟨q.length - (i + k), by omega, i + k, _, _, by omega, rfl, rfl, hS3, hv2, ?_, hK3⟩
      · rw [hpx]
        refine ⟨bufW buf1 u x, hl2, ?_, ?_⟩
        · rw [hm, tailOf_app _ _ (by omega), ← ht1, ← hxl]
          exact bufW_take _ _ _ (by omega)
        · rw [hm, stOf_app _ _ (by omega)]; exact hB3
  · have : q.length = i := by omega
    subst this
    rw [List.take_length] at hp'
    subst hp'
    exact ⟨⟨buf1, hl1, ht1, hB1⟩, hK1⟩
end Go.Mg
